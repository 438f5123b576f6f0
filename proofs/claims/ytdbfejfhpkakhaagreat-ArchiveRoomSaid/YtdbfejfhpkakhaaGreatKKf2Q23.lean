/- Contracts and plain laws that the last text rests on. Conditions: each theorem states its own. -/
import Derived.Test.YtdbfejfhpkakhaaGreatKKf2Q13
import Derived.Test.YtdbfejfhpkakhaaGreatKKf2Q3
import Derived.Test.YtdbfejfhpkakhaaGreatKKf2Q20
import Derived.Test.YtdbfejfhpkakhaaGreatKKf2Q22
import Derived.Test.YtdbfejfhpkakhaaGreatKKf2Q11
import Derived.Test.YtdbfejfhpkakhaaGreatKKf2Q14
import Derived.IntWalk
import Derived.Deep.RegionLaw
import Derived.BigRegion
import Derived.Deep.RegionHeld3
import Derived.Test.YtdbfejfhpkakhaaGreatKKf2Q21
import Derived.Test.YtdbfejfhpkakhaaGreatKKf2Q2
import Derived.Laws.BitsAllLaws
set_option maxRecDepth 100000
set_option maxHeartbeats 16000000
set_option linter.unusedVariables false
namespace Go.Proofs.YtdbfejfhpkakhaaGreat
def aS (x:ay):Bool:=
 decide (0<=x.time/\x.time<1099511627776)&&gI x.ak&&
  (if x.kind=1 then decide (x.text.size<=200/\x.value=0)&& !x.null
   else if x.kind=2 then decide (x.text.size=0/\ -1152921504606846976<=x.value/\x.value<=1152921504606846976)&&(!x.null||decide (x.value=0))
   else false)
def KG (x:ay):Bool:=decide (1<=x.maker/\x.maker<=64/\1<=x.seq/\x.seq<1099511627776/\0<=x.place/\x.place<64)
def jL (l:List ay) (i:Nat):Bool:=match l[i]? with
 |none=>false
 |some x=>aS x&&KG x&&(match i with|0=>true|j+1=>match l[j]? with|none=>false|some y=>dM y x)
def jf (l:List ay):Bool:=decide (0<l.length)&&(List.range l.length).all (jL l)
def bZ (x:ay):ByteArray:=vI x.ak
def fA (x:List Nat):List Nat:=au x.length++x
def aZ (l:List ay):List (List Nat):=
 [aI 1 (dR (l.map fun x=>x.time)),aI 1 (dR (l.map fun x=>x.maker)),aI 1 (dR (l.map fun x=>x.seq)),aI 1 (dR (l.map fun x=>x.place)),aI 1 (dR (l.map fun x=>x.kind)),
  aI 2 (dN (l.map bZ)),aI 3 (dD (l.map fun x=>x.text)),aI 1 (dR (l.map fun x=>x.value)),aI 4 (pW (l.map fun x=>x.null))]
def iC (l:List ay):List Nat:=(aZ l).flatMap fA
def dZ {α:Type} (per:Nat) (l:List α):List (List α):=(List.range ((l.length+per-1) / per)).map fun i=>(l.drop (i * per)).take per
structure PostE where
 text:ByteArray
 gs:List Nat
def iF (s:aV):List Nat:=au s.place.toNat++au s.size.toNat++au s.rows.toNat++au s.lo.toNat++au s.hi.toNat
def fB (p:PostE):List Nat:=au p.text.size++jJ p.text++au p.gs.length++p.gs.flatMap au
def iT (ss:List aV) (ps:List PostE):List Nat:=au ss.length++ss.flatMap iF++au ps.length++ps.flatMap fB
def headB:List Nat:=[69,78,84,82,1]
def Nw (l:List ay):Int:=match l.head? with|some x=>x.time|none=>0
def lastT (l:List ay):Int:=match l.getLast? with|some x=>x.time|none=>0
def rV:Nat->List (List ay)->List aV
 |_,[]=>[]
 |at_,g::gs=>⟨at_,(iC g).length,g.length,Nw g,lastT g⟩::rV (at_+(iC g).length) gs
def dA (t:ByteArray) (k:Nat) (gs:List (List ay)):List Nat:=((List.range gs.length).filter fun i=>(gs.getD i []).any fun x=>decide (bZ x=t)).map (· +k)
def Ny (gs:List (List ay)):List PostE:=(aY (gs.flatten.map bZ)).map fun t=>⟨t,dA t 0 gs⟩
def b_ (gs:List (List ay)):List Nat:=gs.flatMap iC
def jM (gs:List (List ay)):List Nat:=iG (iT (rV 5 gs) (Ny gs))
def yx (gs:List (List ay)):List Nat:=headB++b_ gs++jM gs++four (jM gs).length++[69,78,84,82]
def EC (l:List ay) (per:Nat):List Nat:=yx (dZ per l)
end Go.Proofs.YtdbfejfhpkakhaaGreat
namespace Go.Proofs.YtdbfejfhpkakhaaGreat
open Ps
theorem zV (all:List ByteArray) (ha:all.length<=256):∀(n:Nat) (l:List ByteArray),l.length<=n->n<=256->(dL all l).length<=4 * l.length:=by
 intro n;induction n with
 |zero=>
  intro l h _;have:l=[]:=List.eq_nil_of_length_eq_zero (by omega);subst this;rw[WE];exact Nat.zero_le _
 |succ n ih=>
  intro l h hn;cases l with
  |nil=>rw[WE];exact Nat.zero_le _
  |cons x xs=>
   rw[dL];have h1:=Dh x xs;have h2:dK all x<=all.length:=List.findIdx_le_length;simp only[List.length_cons]at h;have h3:=ih (xs.drop (runN x xs)) (by rw[List.length_drop];omega) (by omega);have h4:=SK (n:=dK all x) (by omega);have h5:=SK (n:=runN x xs+1) (by omega);rw[List.length_drop]at h3;simp only[List.length_append,List.length_cons];omega
theorem z3e:∀{all:List ByteArray},(∀s∈all,s.size<=242)->(z1n all).length<=244 * all.length
 |[],_=>Nat.le_refl _
 |s::all,h=>by
  have h1:=z3e (all:=all) fun t ht=>h t (List.mem_cons_of_mem _ ht);have h2:=h s List.mem_cons_self;have h3:=SK (n:=s.size) (by omega);rw[ZM,List.length_append,List.length_append,NP,List.length_cons];omega
theorem zn {l:List ByteArray} (hl:l.length<=256) (hs:∀s∈l,s.size<=242):(dN l).length<=65536:=by
 have h1:=z16 l;have h2:=z3e (all:=aY l) fun s h=>hs s (QI.1 h);have h3:=zV (aY l) (by omega) _ l (Nat.le_refl _) hl;have h4:=SK (n:=(aY l).length) (by omega);have h5:=SK (n:=l.length) (by omega);unfold dN;simp only[List.length_append];omega
theorem ql:∀{l:List ByteArray},(∀s∈l,s.size<=200)->(iq l).length<=2 * l.length/\(gV l).length<=200 * l.length
 |[],_=>⟨Nat.le_refl _,Nat.le_refl _⟩
 |s::l,h=>by
  have h1:=ql (l:=l) fun t ht=>h t (List.mem_cons_of_mem _ ht);have h2:=h s List.mem_cons_self;have h3:=SK (n:=s.size) (by omega);unfold iq gV at *;simp only[List.flatMap_cons,List.length_append,List.length_cons,NP];omega
theorem zA {l:List ByteArray} (hl:l.length<=256) (hs:∀s∈l,s.size<=200):(dD l).length<=65536:=by
 have h1:=ql hs;have h2:=SK (n:=l.length) (by omega);unfold dD;simp only[List.length_append];omega
def Cb (x:ay):Prop:=aS x=true/\KG x=true
theorem QS {x:ay} (h:aS x=true):0<=x.time/\x.time<1099511627776/\gI x.ak=true/\(x.kind=1∨x.kind=2)/\ -1152921504606846976<=x.value/\x.value<=1152921504606846976/\x.text.size<=200:=by
 unfold aS at h;rw[Bool.and_eq_true,Bool.and_eq_true,decide_eq_true_eq]at h;obtain ⟨⟨⟨h1,h2⟩,h3⟩,h4⟩:=h;refine ⟨h1,h2,h3,?_⟩;by_cases k1:x.kind=1
 ·rw[if_pos k1,Bool.and_eq_true,decide_eq_true_eq]at h4
  obtain ⟨⟨h5,h6⟩,_⟩:=h4;exact ⟨.inl k1,by omega,by omega,h5⟩
 ·rw[if_neg k1]at h4
  by_cases k2:x.kind=2
  ·rw[if_pos k2,Bool.and_eq_true,decide_eq_true_eq]at h4
   obtain ⟨⟨h5,h6,h7⟩,_⟩:=h4;exact ⟨.inr k2,h6,h7,by omega⟩
  ·rw[if_neg k2]at h4
   cases h4
theorem Zm {x:ay} (h:KG x=true):1<=x.maker/\x.maker<=64/\1<=x.seq/\x.seq<1099511627776/\0<=x.place/\x.place<64:=by
 unfold KG at h;rw[decide_eq_true_eq]at h;exact h
theorem lV {l:List bQ} (h:gI l=true):l.length<=4/\∀x∈l,bM x.name=true/\x.value.size<=16:=by
 unfold gI at h;rw[Bool.and_eq_true,decide_eq_true_eq,CJ]at h;refine ⟨h.1,fun x hx=>?_⟩;obtain ⟨i,hi,rfl⟩:=List.mem_iff_getElem.1 hx;have h2:=h.2 i hi;unfold iH at h2;rw[kF hi,Bool.and_eq_true,Bool.and_eq_true,decide_eq_true_eq]at h2;exact h2.1
theorem WC (x:ay):(bZ x).size<=242:=by
 unfold bZ vI;split
 ·next h=>
  obtain ⟨h1,h2⟩:=lV h;have h3:=Wy h2;show (textF x.ak).toArray.size<=242
  rw[List.size_toArray];unfold textF;simp only[List.length_cons,List.length_append,List.length_nil];omega
 ·exact Nat.zero_le _
theorem Fa {l:List Int} (h1:l.length<=2048) (h2:∀x∈l,oV x):jh l=0:=by
 unfold jh;rw[if_neg (by omega),if_pos h2]
theorem CU (l:List ay):∀s∈l.map bZ,s.size<=1024:=fun s hs=>by
 obtain ⟨x,_,rfl⟩:=List.mem_map.1 hs;have:=WC x;omega
structure eu (l:List ay):Prop where
 few:l.length<=256
 row:∀x∈l,Cb x
theorem eu.ints {l:List ay} (h:eu l) {f:ay->Int} (hf:∀x,Cb x->oV (f x)):jh (l.map f)=0:=
 Fa (by rw[List.length_map];have:=h.few;omega) fun y hy=>by
  obtain ⟨x,hx,rfl⟩:=List.mem_map.1 hy;exact hf x (h.row x hx)
section
variable {l : List ay} (h : eu l)
include h
theorem eu.time:jh (l.map fun x=>x.time)=0:=h.ints fun x hx=>by have:=QS hx.1;unfold oV;omega
theorem eu.maker:jh (l.map fun x=>x.maker)=0:=h.ints fun x hx=>by have:=Zm hx.2;unfold oV;omega
theorem eu.seq:jh (l.map fun x=>x.seq)=0:=h.ints fun x hx=>by have:=Zm hx.2;unfold oV;omega
theorem eu.place:jh (l.map fun x=>x.place)=0:=h.ints fun x hx=>by have:=Zm hx.2;unfold oV;omega
theorem eu.kind:jh (l.map fun x=>x.kind)=0:=h.ints fun x hx=>by have:=QS hx.1;unfold oV;omega
theorem eu.value:jh (l.map fun x=>x.value)=0:=h.ints fun x hx=>by have:=QS hx.1;unfold oV;omega
theorem eu.words:(dN (l.map bZ)).length<=65536:=zn (by rw[List.length_map];exact h.few) fun s hs=>by
 obtain ⟨x,_,rfl⟩:=List.mem_map.1 hs;exact WC x
theorem eu.texts:(dD (l.map fun x=>x.text)).length<=65536:=zA (by rw[List.length_map];exact h.few) fun s hs=>by
 obtain ⟨x,hx,rfl⟩:=List.mem_map.1 hs;exact (QS (h.row x hx).1).2.2.2.2.2.2
theorem eu.text:∀s∈l.map (fun x=>x.text),s.size<=1024:=fun s hs=>by
 obtain ⟨x,hx,rfl⟩:=List.mem_map.1 hs;have:=(QS (h.row x hx).1).2.2.2.2.2.2;show x.text.size<=1024
 omega
end
theorem Vp {l:List ay} {i:Nat} (h:i<l.length):jL l i=(aS l[i]&&KG l[i]&&(decide (i=0)||dM (l.getD (i-1) l[i]) l[i])):=by
 unfold jL;rw[List.getElem?_eq_getElem h];simp only;cases i with
 |zero=>simp
 |succ j=>
  simp only[List.getElem?_eq_getElem (show j<l.length by omega),Nat.add_sub_cancel,List.getD,Option.getD_some];simp
theorem QH {l:List ay}:jf l=true↔0<l.length/\(∀x∈l,Cb x)/\l.Pairwise (fun x y=>dM x y=true):=by
 unfold jf;rw[Bool.and_eq_true,decide_eq_true_eq,CJ];constructor
 ·rintro ⟨h1,h2⟩
  refine ⟨h1,fun x hx=>?_,?_⟩
  ·obtain ⟨i,hi,rfl⟩:=List.mem_iff_getElem.1 hx
   have h3:=h2 i hi;rw[Vp hi,Bool.and_eq_true,Bool.and_eq_true]at h3;exact h3.1
  ·have key:∀d i (hi:i+d+1<l.length),dM (l[i]'(by omega)) l[i+d+1]=true:=by
    intro d;induction d with
    |zero=>
     intro i hi;have h3:=h2 (i+1) hi;rw[Vp hi,Bool.and_eq_true,Bool.or_eq_true]at h3;rcases h3.2 with h3|h3
     ·simp at h3
     ·simpa [List.getD,List.getElem?_eq_getElem (show i<l.length by omega)]using h3
    |succ d ih=>
     intro i hi;have a:=ih i (by omega);have h3:=h2 (i+(d+1)+1) hi;rw[Vp hi,Bool.and_eq_true,Bool.or_eq_true]at h3
     have b:dM (l[i+d+1]'(by omega)) l[i+(d+1)+1]=true:=by
      rcases h3.2 with h3|h3
      ·simp at h3
      ·simpa [List.getD,List.getElem?_eq_getElem (show i+d+1<l.length by omega),show i+(d+1)=i+d+1 by omega]using h3
     exact z34.trans _ _ _ a b
   rw[List.pairwise_iff_getElem];intro i j hi hj hij;have:=key (j-i-1) i (by omega);simpa [show i+(j-i-1)+1=j by omega]using this
 ·rintro ⟨h1,h2,h3⟩
  refine ⟨h1,fun i hi=>?_⟩;obtain ⟨h4,h5⟩:=h2 l[i] (List.getElem_mem hi);rw[Vp hi,h4,h5,Bool.and_eq_true,Bool.or_eq_true,decide_eq_true_eq];refine ⟨rfl,?_⟩;by_cases h0:i=0
  ·exact .inl h0
  ·right
   have:=List.pairwise_iff_getElem.1 h3 (i-1) i (by omega) hi (by omega);simpa [List.getD,List.getElem?_eq_getElem (show i-1<l.length by omega)]using this
end Go.Proofs.YtdbfejfhpkakhaaGreat
namespace Go.Proofs.YtdbfejfhpkakhaaGreat
open Go.RowKit
theorem EJ (t:ByteArray):t.toList.isEmpty=decide (t.size=0):=by
 rw[Bool.eq_iff_iff,List.isEmpty_iff,decide_eq_true_iff,←List.length_eq_zero_iff];have:t.toList.length=t.size:=by rw[ByteArray.toList_eq,Array.length_toList];rfl
 omega
def oP (x:RV):Value:=.agg #[.int .i64 x.row.kind,.int .i64 x.row.time,.slice x.A x.row.ak.length x.c,.string x.row.text,.int .i64 x.row.value,.bool x.row.null]
section
variable {kind time value maker seq place : Int} {ak : List bQ} {text : ByteArray} {null : Bool}
theorem Td (h:¬0<=time):aS (⟨kind,time,ak,text,value,null,maker,seq,place⟩:ay)=false:=by simp[aS,h]
theorem Tc (h:¬time<1099511627776):aS (⟨kind,time,ak,text,value,null,maker,seq,place⟩:ay)=false:=by simp[aS];omega
theorem WL (h:gI ak=false):aS (⟨kind,time,ak,text,value,null,maker,seq,place⟩:ay)=false:=by simp[aS,h]
theorem WM (h1:kind≠1) (h2:kind≠2):aS (⟨kind,time,ak,text,value,null,maker,seq,place⟩:ay)=false:=by simp[aS,h1,h2]
end
section
variable {time value maker seq place : Int} {ak : List bQ} {text : ByteArray} {null : Bool}
theorem Tq (h:¬text.size<=200):aS (⟨1,time,ak,text,value,null,maker,seq,place⟩:ay)=false:=by simp[aS,h]
theorem Tn (h:¬value=0):aS (⟨1,time,ak,text,value,null,maker,seq,place⟩:ay)=false:=by simp[aS,h]
theorem rec_1 (h1:0<=time) (h2:time<1099511627776) (h3:gI ak=true) (h4:text.size<=200) (h5:value=0):aS (⟨1,time,ak,text,value,null,maker,seq,place⟩:ay)= !null:=by simp[aS,h1,h2,h3,h4,h5]
theorem Tf (h:¬text.size=0):aS (⟨2,time,ak,text,value,null,maker,seq,place⟩:ay)=false:=by simp[aS,h]
theorem Tj (h:¬ -1152921504606846976<=value):aS (⟨2,time,ak,text,value,null,maker,seq,place⟩:ay)=false:=by simp[aS];omega
theorem Ti (h:¬value<=1152921504606846976):aS (⟨2,time,ak,text,value,null,maker,seq,place⟩:ay)=false:=by simp[aS];omega
theorem rec_2 (h1:0<=time) (h2:time<1099511627776) (h3:gI ak=true) (h4:text.size=0) (h5: -1152921504606846976<=value) (h6:value<=1152921504606846976):aS (⟨2,time,ak,text,value,null,maker,seq,place⟩:ay)=(!null||decide (value=0)):=by simp[aS,h1,h2,h3,h4,h5,h6]
end
theorem z2S {w:World} {D:Nat->Prop} (x:RV) (hx:x.ok w D) (hf:x.row.mid):
 Calls Tryz.prog 45 #[oP x] w fun e w'=>e=.returned (.bool (aS x.row))/\Nx w w':=by
 have HR:=ah (fun w' (c':Nx w w')=>Zp (c:=x.c) (hx.1.nx (by decide) c') rfl (by have:=hf.2;omega) hf.1.1);unfold oP;obtain ⟨⟨kind,time,ak,text,value,null,maker,seq,place⟩,A1,c1⟩:=x;simp only at HR ⊢;clear hx hf;have B1:=ah (aB.new w 57 #[.int .i64 kind,.int .i64 time,.slice A1 ak.length c1,.string text,.int .i64 value,.bool null]);have N1:=ah ((Ch.refl (fun _=>False) w).alloc (.cells #[.int .i64 kind,.int .i64 time,.slice A1 ak.length c1,.string text,.int .i64 value,.bool null] 57));by_cases h1:0<=time
 ·by_cases h2:time<1099511627776
  ·cases hr:gI ak
   ·rw[hr]at HR
    have HL:=ah hr;clear hr;go_enter Tryz.func45,Tryz.ntmps45;go_wp2_with fail;refine (HR.out _ N1.out).mono ?_;rintro e w2 ⟨rfl,n2⟩;have N2:=ah (N1.out.tr n2);clear n2;go_wp2_with fail;go_ret;exact ⟨by rw[WL HL.out];first|done|rfl,N2.out⟩
   ·rw[hr]at HR
    have HL:=ah hr;clear hr;by_cases hk1:kind=1
    ·subst hk1
     by_cases h4:text.size<=200
     ·by_cases h5:value=0
      ·subst h5
       cases null
       all_goals
        go_enter Tryz.func45,Tryz.ntmps45;go_wp2_with fail;refine (HR.out _ N1.out).mono ?_;rintro e w2 ⟨rfl,n2⟩;have N2:=ah (N1.out.tr n2);have b2:=B1.out.nx n2;have q0:w2.cell? ⟨w.heap.size,0,none⟩=some _:=b2.cell 0;have q3:w2.cell? ⟨w.heap.size,3,none⟩=some _:=b2.cell 3;have q4:w2.cell? ⟨w.heap.size,4,none⟩=some _:=b2.cell 4;have q5:w2.cell? ⟨w.heap.size,5,none⟩=some _:=b2.cell 5;clear n2 b2;go_wp2_with fail;go_ret;exact ⟨by rw[rec_1 h1 h2 HL.out h4 rfl];first|done|rfl,N2.out⟩
      ·have q9:(value==0)=false:=by simp[h5]
       go_enter Tryz.func45,Tryz.ntmps45;go_wp2_with fail;refine (HR.out _ N1.out).mono ?_;rintro e w2 ⟨rfl,n2⟩;have N2:=ah (N1.out.tr n2);have b2:=B1.out.nx n2;have q0:w2.cell? ⟨w.heap.size,0,none⟩=some _:=b2.cell 0;have q3:w2.cell? ⟨w.heap.size,3,none⟩=some _:=b2.cell 3;have q4:w2.cell? ⟨w.heap.size,4,none⟩=some _:=b2.cell 4;have q5:w2.cell? ⟨w.heap.size,5,none⟩=some _:=b2.cell 5;clear n2 b2;go_wp2_with fail;go_ret;exact ⟨by rw[Tn (by omega)];first|done|rfl,N2.out⟩
     ·go_enter Tryz.func45,Tryz.ntmps45
      go_wp2_with fail;refine (HR.out _ N1.out).mono ?_;rintro e w2 ⟨rfl,n2⟩;have N2:=ah (N1.out.tr n2);have b2:=B1.out.nx n2;have q0:w2.cell? ⟨w.heap.size,0,none⟩=some _:=b2.cell 0;have q3:w2.cell? ⟨w.heap.size,3,none⟩=some _:=b2.cell 3;have q4:w2.cell? ⟨w.heap.size,4,none⟩=some _:=b2.cell 4;have q5:w2.cell? ⟨w.heap.size,5,none⟩=some _:=b2.cell 5;clear n2 b2;go_wp2_with fail;go_ret;exact ⟨by rw[Tq (by omega)];first|done|rfl,N2.out⟩
    ·by_cases hk2:kind=2
     ·subst hk2
      have hE:(text.toList.isEmpty)=decide (text.size=0):=EJ text;by_cases h4:text.size=0
      ·rw[decide_eq_true h4]at hE
       by_cases h5: -1152921504606846976<=value
       ·by_cases h6:value<=1152921504606846976
        ·cases null
         ·go_enter Tryz.func45,Tryz.ntmps45
          go_wp2_with fail;refine (HR.out _ N1.out).mono ?_;rintro e w2 ⟨rfl,n2⟩;have N2:=ah (N1.out.tr n2);have b2:=B1.out.nx n2;have q0:w2.cell? ⟨w.heap.size,0,none⟩=some _:=b2.cell 0;have q3:w2.cell? ⟨w.heap.size,3,none⟩=some _:=b2.cell 3;have q4:w2.cell? ⟨w.heap.size,4,none⟩=some _:=b2.cell 4;have q5:w2.cell? ⟨w.heap.size,5,none⟩=some _:=b2.cell 5;clear n2 b2;go_wp2_with fail;go_ret;exact ⟨by rw[rec_2 h1 h2 HL.out h4 h5 h6];first|done|rfl,N2.out⟩
         ·by_cases h7:value=0
          ·subst h7
           go_enter Tryz.func45,Tryz.ntmps45;go_wp2_with fail;refine (HR.out _ N1.out).mono ?_;rintro e w2 ⟨rfl,n2⟩;have N2:=ah (N1.out.tr n2);have b2:=B1.out.nx n2;have q0:w2.cell? ⟨w.heap.size,0,none⟩=some _:=b2.cell 0;have q3:w2.cell? ⟨w.heap.size,3,none⟩=some _:=b2.cell 3;have q4:w2.cell? ⟨w.heap.size,4,none⟩=some _:=b2.cell 4;have q5:w2.cell? ⟨w.heap.size,5,none⟩=some _:=b2.cell 5;clear n2 b2;go_wp2_with fail;go_ret;exact ⟨by rw[rec_2 h1 h2 HL.out h4 (by decide) (by decide)];rfl,N2.out⟩
          ·have q9:(value==0)=false:=by simp[h7]
           go_enter Tryz.func45,Tryz.ntmps45;go_wp2_with fail;refine (HR.out _ N1.out).mono ?_;rintro e w2 ⟨rfl,n2⟩;have N2:=ah (N1.out.tr n2);have b2:=B1.out.nx n2;have q0:w2.cell? ⟨w.heap.size,0,none⟩=some _:=b2.cell 0;have q3:w2.cell? ⟨w.heap.size,3,none⟩=some _:=b2.cell 3;have q4:w2.cell? ⟨w.heap.size,4,none⟩=some _:=b2.cell 4;have q5:w2.cell? ⟨w.heap.size,5,none⟩=some _:=b2.cell 5;clear n2 b2;go_wp2_with fail;go_ret;exact ⟨by rw[rec_2 h1 h2 HL.out h4 h5 h6];simp[h7],N2.out⟩
        ·go_enter Tryz.func45,Tryz.ntmps45
         go_wp2_with fail;refine (HR.out _ N1.out).mono ?_;rintro e w2 ⟨rfl,n2⟩;have N2:=ah (N1.out.tr n2);have b2:=B1.out.nx n2;have q0:w2.cell? ⟨w.heap.size,0,none⟩=some _:=b2.cell 0;have q3:w2.cell? ⟨w.heap.size,3,none⟩=some _:=b2.cell 3;have q4:w2.cell? ⟨w.heap.size,4,none⟩=some _:=b2.cell 4;have q5:w2.cell? ⟨w.heap.size,5,none⟩=some _:=b2.cell 5;clear n2 b2;go_wp2_with fail;go_ret;exact ⟨by rw[Ti (by omega)];first|done|rfl,N2.out⟩
       ·go_enter Tryz.func45,Tryz.ntmps45
        go_wp2_with fail;refine (HR.out _ N1.out).mono ?_;rintro e w2 ⟨rfl,n2⟩;have N2:=ah (N1.out.tr n2);have b2:=B1.out.nx n2;have q0:w2.cell? ⟨w.heap.size,0,none⟩=some _:=b2.cell 0;have q3:w2.cell? ⟨w.heap.size,3,none⟩=some _:=b2.cell 3;have q4:w2.cell? ⟨w.heap.size,4,none⟩=some _:=b2.cell 4;have q5:w2.cell? ⟨w.heap.size,5,none⟩=some _:=b2.cell 5;clear n2 b2;go_wp2_with fail;go_ret;exact ⟨by rw[Tj (by omega)];first|done|rfl,N2.out⟩
      ·rw[decide_eq_false h4]at hE
       go_enter Tryz.func45,Tryz.ntmps45;go_wp2_with fail;refine (HR.out _ N1.out).mono ?_;rintro e w2 ⟨rfl,n2⟩;have N2:=ah (N1.out.tr n2);have b2:=B1.out.nx n2;have q0:w2.cell? ⟨w.heap.size,0,none⟩=some _:=b2.cell 0;have q3:w2.cell? ⟨w.heap.size,3,none⟩=some _:=b2.cell 3;have q4:w2.cell? ⟨w.heap.size,4,none⟩=some _:=b2.cell 4;have q5:w2.cell? ⟨w.heap.size,5,none⟩=some _:=b2.cell 5;clear n2 b2;go_wp2_with fail;go_ret;exact ⟨by rw[Tf (by omega)];first|done|rfl,N2.out⟩
     ·have q7:(kind==1)=false:=by simp[hk1]
      have q8:(kind==2)=false:=(by simp[hk2]);go_enter Tryz.func45,Tryz.ntmps45;go_wp2_with fail;refine (HR.out _ N1.out).mono ?_;rintro e w2 ⟨rfl,n2⟩;have N2:=ah (N1.out.tr n2);have b2:=B1.out.nx n2;have q0:w2.cell? ⟨w.heap.size,0,none⟩=some _:=b2.cell 0;have q3:w2.cell? ⟨w.heap.size,3,none⟩=some _:=b2.cell 3;have q4:w2.cell? ⟨w.heap.size,4,none⟩=some _:=b2.cell 4;have q5:w2.cell? ⟨w.heap.size,5,none⟩=some _:=b2.cell 5;clear n2 b2;go_wp2_with fail;go_ret;exact ⟨by rw[WM hk1 hk2];first|done|rfl,N2.out⟩
  ·go_enter Tryz.func45,Tryz.ntmps45
   go_wp2_with fail;go_wp2_with fail;go_ret;exact ⟨by rw[Tc (by omega)];first|done|rfl,N1.out⟩
 ·go_enter Tryz.func45,Tryz.ntmps45
  go_wp2_with fail;go_wp2_with fail;go_ret;exact ⟨by rw[Td (by omega)];first|done|rfl,N1.out⟩
end Go.Proofs.YtdbfejfhpkakhaaGreat
namespace Go.Proofs.YtdbfejfhpkakhaaGreat
open Go.ChangeShapes Go.WideShapes Go.ChangeAt Go.RowKit Go.Deep
theorem Tryz.Pm:(Tryz.prog.info? 57).map (fun i=>(i.zero,i.size,i.bytes))=some (some (.agg #[.int .i64 0,.int .i64 0,.slice none 0 0,.string ⟨#[]⟩,.int .i64 0,.bool false]),6,72):=by kernel_rfl
def RV.rs (x:RV):List Value:=[.int .i64 x.row.kind,.int .i64 x.row.time,.slice x.A x.row.ak.length x.c,.string x.row.text,.int .i64 x.row.value,.bool x.row.null]
theorem RV.zW (x:RV):x.rs.length=6:=rfl
def og (l:List RV):List Value:=l.flatMap RV.rs
theorem OA (l:List RV):(og l).length=l.length * 6:=zf RV.zW l
theorem z_ (a b:List RV):og (a++b)=og a++og b:=by simp[og]
theorem Oz (l:List RV):∀u∈og l,u.oneCell'=true:=by
 intro u hu;obtain ⟨x,_,hx⟩:=List.mem_flatMap.1 hu;simp[RV.rs]at hx;rcases hx with rfl|rfl|rfl|rfl|rfl|rfl<;>rfl
theorem tu {w:World} {D:Nat->Prop} {A:Option Addr} {n k:Nat} {l:List RV} (h:Rd w D 6 A n (og l)) (hk:k<l.length):∃ad,A=some ad/\D ad.block/\w.cell? (ad.add (k * 6))=some (.int .i64 l[k].row.kind)/\
 w.cell? ⟨(ad.add (k * 6)).block,(ad.add (k * 6)).off+1,none⟩=some (.int .i64 l[k].row.time)/\w.cell? ⟨(ad.add (k * 6)).block,(ad.add (k * 6)).off+2,none⟩=some (.slice l[k].A l[k].row.ak.length l[k].c)/\
 w.cell? ⟨(ad.add (k * 6)).block,(ad.add (k * 6)).off+3,none⟩=some (.string l[k].row.text)/\w.cell? ⟨(ad.add (k * 6)).block,(ad.add (k * 6)).off+4,none⟩=some (.int .i64 l[k].row.value)/\
 w.cell? ⟨(ad.add (k * 6)).block,(ad.add (k * 6)).off+5,none⟩=some (.bool l[k].row.null):=by
 have hn:0<n:=by have:=h.1;rw[OA]at this;omega
 obtain ⟨ad,rfl,hb,hc⟩:=h.2 hn;have g:=fun i (hi:i<6) u (hu:(l[k].rs)[i]?=some u)=>hc (k * 6+i) u ((ou RV.zW hk hi).trans hu);exact ⟨ad,rfl,hb,g 0 (by decide) _ rfl,z08 0 (g 1 (by decide) _ rfl),z08 1 (g 2 (by decide) _ rfl),z08 2 (g 3 (by decide) _ rfl),z08 3 (g 4 (by decide) _ rfl),z08 4 (g 5 (by decide) _ rfl)⟩
structure cZ where
 maker:Int
 seq:Int
 A:Option Addr
 c:Nat
 l:List RV
def cZ.cs (b:cZ):List Value:=[.int .i64 b.maker,.int .i64 b.seq,.slice b.A b.l.length b.c]
def uU (b:cZ):Value:=.agg #[.int .i64 b.maker,.int .i64 b.seq,.slice b.A b.l.length b.c]
def pG (l:List cZ):List Value:=l.flatMap cZ.cs
theorem cZ.aO (x:cZ):x.cs.length=3:=rfl
theorem P_ (l:List cZ):(pG l).length=l.length * 3:=zf cZ.aO l
def cZ.named (b:cZ):Prop:=∀i (h:i<b.l.length),(b.l[i]).row.maker=b.maker/\(b.l[i]).row.seq=b.seq/\(b.l[i]).row.place=(i:Int)
structure cZ.ok (w:World) (D:Nat->Prop) (b:cZ):Prop where
 rd:Rd w D 6 b.A b.l.length (og b.l)
 ok:∀x∈b.l,x.ok w D
 mid:∀x∈b.l,x.row.mid
 named:b.named
 cap:b.l.length<=b.c
 max:b.c<=maxLen
theorem cZ.ok.ch {w w':World} {D D' S:Nat->Prop} {b:cZ} (h:b.ok w D) (hc:Ch S w w') (hS:∀k,k<w.heap.size->D k->¬S k) (hD:∀k,D k->D' k):b.ok w' D':=
 ⟨(h.rd.ch (by decide) hc hS).more hD,fun x hx=>(h.ok x hx).ch hc hS hD,h.mid,h.named,h.cap,h.max⟩
theorem cZ.ok.nx {w w':World} {D:Nat->Prop} {b:cZ} (h:b.ok w D) (hc:Nx w w'):b.ok w' D:=h.ch hc (fun _ _ _ hf=>hf) fun _ hd=>hd
end Go.Proofs.YtdbfejfhpkakhaaGreat
namespace Go.Proofs.YtdbfejfhpkakhaaGreat
open Go.RowKit
def BuTo (W w:World) (v:Value) (xs:List Nat) (z:Nat) (e:Ending) (w':World):Prop:=
 ∃v',e=.returned v'/\aA W w' 5 1 v' (xs++au z).length (bl (xs++au z))/\Moved w w' v v'
theorem Uu {W w:World} {v:Value} {xs:List Nat} {z:Nat} (ho:aA W w 5 1 v xs.length (bl xs)) (hz:z<9223372036854775808) (hs:xs.length<=100000000):
 Calls Tryz.prog 135 #[v,.int .i64 (z:Int)] w (BuTo W w v xs z):=by
 obtain ⟨i0,hi0,hz0,hz1,hz2⟩:=info_parts Tryz.info5;have UQ:=ah (fun (w:World)=>NK z w (by omega));have hpl:=(z05 (n:=z) (by omega)).2;have HO:=ah ho;have kw:IntKind.u64.wrap (z:Int)=(z:Int):=by rw[IntKind.wrap_u64];omega
 obtain ⟨A,c,rfl, -, -⟩:=ho.form;clear ho;go_enter Tryz.func135,Tryz.ntmps135;go_wp2_with fail;refine (UQ.out _).mono ?_;rintro e w3 ⟨k3,cap3,rfl,o3,hk3,hk3',hc3, -⟩;have N3:=ah o3.nx;have OV:=ah (HO.out.tr N3.out);have R3:=ah o3.tC;clear o3;go_wp2_with (at_builtin;refine z04 rfl (.tmp 5) (.tmp 8) _ rfl 5 i0 _ 1 1 Tryz.underlying47 hi0 hz0 hz1 hz2 rfl (by omega) rfl OV.out _ (some ⟨k3,0,none⟩) (au z).length cap3 (bl (au z)) rfl R3.out (jA _) (by simp only[maxLen];omega) (by omega) ?_;intro v5 w5 o5 m5;have O5:=ah o5;have M5:=ah m5;clear o5 m5)
 go_ret;refine ⟨_,rfl,?_,⟨(N3.out.mono (fun _ _ hf=>hf.elim)).trans M5.out.ch (fun i _ e=>e),?_⟩⟩
 ·have:=O5.out
  simpa [bl]using this
 ·rcases M5.out.at_ with e|⟨j,e,h⟩
  ·exact .inl e
  ·exact .inr ⟨j,e,Nat.le_trans N3.out.size h⟩
end Go.Proofs.YtdbfejfhpkakhaaGreat
namespace Go.Proofs.YtdbfejfhpkakhaaGreat
/-! rows in groups -/
theorem SI {α:Type} (per:Nat) (l:List α):(dZ per l).length=(l.length+per-1) / per:=by simp[dZ]
theorem ZE {α:Type} {per:Nat} {l:List α} {i:Nat} (h:i<(dZ per l).length):(dZ per l)[i]=(l.drop (i * per)).take per:=by simp[dZ]
theorem kN {per n i:Nat} (hp:0<per):i<(n+per-1) / per↔i * per<n:=by
 rw[Nat.lt_div_iff_mul_lt hp];constructor
 ·intro h;omega
 ·intro h;omega
theorem qX {α:Type} {per:Nat} (hp:0<per):dZ per ([]:List α)=[]:=by
 have:(dZ per ([]:List α)).length=0:=by rw[SI];simp;omega
 exact List.eq_nil_of_length_eq_zero this
theorem ni {α:Type} {per:Nat} {l:List α} (hp:0<per) (hl:0<l.length):dZ per l=l.take per::dZ per (l.drop per):=by
 apply List.ext_getElem
 ·rw[List.length_cons,SI,SI,List.length_drop]
  by_cases h:per<=l.length
  ·rw[show l.length+per-1=(l.length-per+per-1)+per by omega,Nat.add_div_right _ hp]
  ·rw[show l.length-per=0 by omega,Nat.zero_add,Nat.div_eq_of_lt (show per-1<per by omega)]
   exact Nat.div_eq_of_lt_le (by omega) (by omega)
 ·intro i h1 h2
  rw[ZE h1];cases i with
  |zero=>simp
  |succ i=>
   rw[List.getElem_cons_succ,ZE,List.drop_drop];congr 2
   rw[Nat.succ_mul,Nat.add_comm]
theorem ng {α:Type} {per:Nat} (hp:0<per):∀(n:Nat) (l:List α),l.length<=n->(dZ per l).flatten=l
 |0,l,h=>by
  have:l=[]:=List.eq_nil_of_length_eq_zero (by omega);subst this;rw[qX hp];rfl
 |n+1,l,h=>by
  by_cases h0:l.length=0
  ·have:l=[]:=List.eq_nil_of_length_eq_zero h0
   subst this;rw[qX hp];rfl
  ·rw[ni hp (by omega),List.flatten_cons,ng hp n (l.drop per) (by rw[List.length_drop];omega),List.take_append_drop]
theorem qW {α:Type} {per:Nat} (hp:0<per) (l:List α):(dZ per l).flatten=l:=ng hp l.length l (Nat.le_refl _)
/-! the spans -/
theorem Wu:∀(gs:List (List ay)) (a:Nat),(rV a gs).length=gs.length
 |[],_=>rfl
 |g::gs,a=>by rw[rV,List.length_cons,List.length_cons,Wu gs]
end Go.Proofs.YtdbfejfhpkakhaaGreat
