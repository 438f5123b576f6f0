/- Contracts and plain laws that the last text rests on. Conditions: each theorem states its own. -/
import Derived.Test.YtdbfejfhpkakhaaGreatKKd2Q12
import Derived.Test.YtdbfejfhpkakhaaGreatKKd2Q3
import Derived.Test.YtdbfejfhpkakhaaGreatKKd2Q19
import Derived.Test.YtdbfejfhpkakhaaGreatKKd2Q21
import Derived.Test.YtdbfejfhpkakhaaGreatKKd2Q10
import Derived.Laws.MakeOwn
set_option maxRecDepth 100000
set_option maxHeartbeats 16000000
set_option linter.unusedVariables false
set_option linter.unusedSimpArgs false
namespace Go.Proofs.YtdbfejfhpkakhaaGreat
def aT (x:aC):Bool:=
 decide (0<=x.time/\x.time<1099511627776)&&gQ x.ak&&
  (if x.kind=1 then decide (x.text.size<=200/\x.value=0)&& !x.null
   else if x.kind=2 then decide (x.text.size=0/\ -1152921504606846976<=x.value/\x.value<=1152921504606846976)&&(!x.null||decide (x.value=0))
   else false)
def KU (x:aC):Bool:=decide (1<=x.maker/\x.maker<=64/\1<=x.seq/\x.seq<1099511627776/\0<=x.place/\x.place<64)
def jR (l:List aC) (i:Nat):Bool:=match l[i]? with
 |none=>false
 |some x=>aT x&&KU x&&(match i with|0=>true|j+1=>match l[j]? with|none=>false|some y=>dN y x)
def jh (l:List aC):Bool:=decide (0<l.length)&&(List.range l.length).all (jR l)
def cu (x:aC):ByteArray:=vS x.ak
def fD (x:List Nat):List Nat:=aB x.length++x
def aZ (l:List aC):List (List Nat):=
 [aI 1 (dS (l.map fun x=>x.time)),aI 1 (dS (l.map fun x=>x.maker)),aI 1 (dS (l.map fun x=>x.seq)),aI 1 (dS (l.map fun x=>x.place)),aI 1 (dS (l.map fun x=>x.kind)),
  aI 2 (dO (l.map cu)),aI 3 (dH (l.map fun x=>x.text)),aI 1 (dS (l.map fun x=>x.value)),aI 4 (qc (l.map fun x=>x.null))]
def iE (l:List aC):List Nat:=(aZ l).flatMap fD
def eu {α:Type} (per:Nat) (l:List α):List (List α):=(List.range ((l.length+per-1) / per)).map fun i=>(l.drop (i * per)).take per
structure PostE where
 text:ByteArray
 gs:List Nat
def iI (s:aW):List Nat:=aB s.place.toNat++aB s.size.toNat++aB s.rows.toNat++aB s.lo.toNat++aB s.hi.toNat
def fE (p:PostE):List Nat:=aB p.text.size++jP p.text++aB p.gs.length++p.gs.flatMap aB
def iV (ss:List aW) (ps:List PostE):List Nat:=aB ss.length++ss.flatMap iI++aB ps.length++ps.flatMap fE
def headB:List Nat:=[69,78,84,82,1]
def NQ (l:List aC):Int:=match l.head? with|some x=>x.time|none=>0
def lastT (l:List aC):Int:=match l.getLast? with|some x=>x.time|none=>0
def sF:Nat->List (List aC)->List aW
 |_,[]=>[]
 |at_,g::gs=>⟨at_,(iE g).length,g.length,NQ g,lastT g⟩::sF (at_+(iE g).length) gs
def dB (t:ByteArray) (k:Nat) (gs:List (List aC)):List Nat:=((List.range gs.length).filter fun i=>(gs.getD i []).any fun x=>decide (cu x=t)).map (· +k)
def NR (gs:List (List aC)):List PostE:=(aY (gs.flatten.map cu)).map fun t=>⟨t,dB t 0 gs⟩
def cZ (gs:List (List aC)):List Nat:=gs.flatMap iE
def jS (gs:List (List aC)):List Nat:=iJ (iV (sF 5 gs) (NR gs))
def yI (gs:List (List aC)):List Nat:=headB++cZ gs++jS gs++four (jS gs).length++[69,78,84,82]
def ES (l:List aC) (per:Nat):List Nat:=yI (eu per l)
end Go.Proofs.YtdbfejfhpkakhaaGreat
namespace Go.Proofs.YtdbfejfhpkakhaaGreat
open Ps
theorem Ai (all:List ByteArray) (ha:all.length<=256):∀(n:Nat) (l:List ByteArray),l.length<=n->n<=256->(dM all l).length<=4 * l.length:=by
 intro n;induction n with
 |zero=>
  intro l h _;have:l=[]:=List.eq_nil_of_length_eq_zero (by omega);subst this;rw[WX];exact Nat.zero_le _
 |succ n ih=>
  intro l h hn;cases l with
  |nil=>rw[WX];exact Nat.zero_le _
  |cons x xs=>
   rw[dM];have h1:=Dy x xs;have h2:dL all x<=all.length:=List.findIdx_le_length;simp only[List.length_cons]at h;have h3:=ih (xs.drop (runN x xs)) (by rw[List.length_drop];omega) (by omega);have h4:=Tj (n:=dL all x) (by omega);have h5:=Tj (n:=runN x xs+1) (by omega);rw[List.length_drop]at h3;simp only[List.length_append,List.length_cons];omega
theorem z3g:∀{all:List ByteArray},(∀s∈all,s.size<=242)->(Df all).length<=244 * all.length
 |[],_=>Nat.le_refl _
 |s::all,h=>by
  have h1:=z3g (all:=all) fun t ht=>h t (List.mem_cons_of_mem _ ht);have h2:=h s List.mem_cons_self;have h3:=Tj (n:=s.size) (by omega);rw[z2i,List.length_append,List.length_append,Ob,List.length_cons];omega
theorem zF {l:List ByteArray} (hl:l.length<=256) (hs:∀s∈l,s.size<=242):(dO l).length<=65536:=by
 have h1:=z16 l;have h2:=z3g (all:=aY l) fun s h=>hs s (Q_.1 h);have h3:=Ai (aY l) (by omega) _ l (Nat.le_refl _) hl;have h4:=Tj (n:=(aY l).length) (by omega);have h5:=Tj (n:=l.length) (by omega);unfold dO;simp only[List.length_append];omega
theorem qp:∀{l:List ByteArray},(∀s∈l,s.size<=200)->(iy l).length<=2 * l.length/\(gX l).length<=200 * l.length
 |[],_=>⟨Nat.le_refl _,Nat.le_refl _⟩
 |s::l,h=>by
  have h1:=qp (l:=l) fun t ht=>h t (List.mem_cons_of_mem _ ht);have h2:=h s List.mem_cons_self;have h3:=Tj (n:=s.size) (by omega);unfold iy gX at *;simp only[List.flatMap_cons,List.length_append,List.length_cons,Ob];omega
theorem zL {l:List ByteArray} (hl:l.length<=256) (hs:∀s∈l,s.size<=200):(dH l).length<=65536:=by
 have h1:=qp hs;have h2:=Tj (n:=l.length) (by omega);unfold dH;simp only[List.length_append];omega
def CU (x:aC):Prop:=aT x=true/\KU x=true
theorem Rn {x:aC} (h:aT x=true):0<=x.time/\x.time<1099511627776/\gQ x.ak=true/\(x.kind=1∨x.kind=2)/\ -1152921504606846976<=x.value/\x.value<=1152921504606846976/\x.text.size<=200:=by
 unfold aT at h;rw[Bool.and_eq_true,Bool.and_eq_true,decide_eq_true_eq]at h;obtain ⟨⟨⟨h1,h2⟩,h3⟩,h4⟩:=h;refine ⟨h1,h2,h3,?_⟩;by_cases k1:x.kind=1
 ·rw[if_pos k1,Bool.and_eq_true,decide_eq_true_eq]at h4
  obtain ⟨⟨h5,h6⟩,_⟩:=h4;exact ⟨.inl k1,by omega,by omega,h5⟩
 ·rw[if_neg k1]at h4
  by_cases k2:x.kind=2
  ·rw[if_pos k2,Bool.and_eq_true,decide_eq_true_eq]at h4
   obtain ⟨⟨h5,h6,h7⟩,_⟩:=h4;exact ⟨.inr k2,h6,h7,by omega⟩
  ·rw[if_neg k2]at h4
   cases h4
theorem z3C {x:aC} (h:KU x=true):1<=x.maker/\x.maker<=64/\1<=x.seq/\x.seq<1099511627776/\0<=x.place/\x.place<64:=by
 unfold KU at h;rw[decide_eq_true_eq]at h;exact h
theorem mD {l:List bT} (h:gQ l=true):l.length<=4/\∀x∈l,bK x.name=true/\x.value.size<=16:=by
 unfold gQ at h;rw[Bool.and_eq_true,decide_eq_true_eq,Dh]at h;refine ⟨h.1,fun x hx=>?_⟩;obtain ⟨i,hi,rfl⟩:=List.mem_iff_getElem.1 hx;have h2:=h.2 i hi;unfold iL at h2;rw[kK hi,Bool.and_eq_true,Bool.and_eq_true,decide_eq_true_eq]at h2;exact h2.1
theorem WW (x:aC):(cu x).size<=242:=by
 unfold cu vS;split
 ·next h=>
  obtain ⟨h1,h2⟩:=mD h;have h3:=WT h2;show (textF x.ak).toArray.size<=242
  rw[List.size_toArray];unfold textF;simp only[List.length_cons,List.length_append,List.length_nil];omega
 ·exact Nat.zero_le _
theorem FI {l:List Int} (h1:l.length<=2048) (h2:∀x∈l,o_ x):jl l=0:=by
 unfold jl;rw[if_neg (by omega),if_pos h2]
theorem Dl (l:List aC):∀s∈l.map cu,s.size<=1024:=fun s hs=>by
 obtain ⟨x,_,rfl⟩:=List.mem_map.1 hs;have:=WW x;omega
structure eF (l:List aC):Prop where
 few:l.length<=256
 row:∀x∈l,CU x
theorem eF.ints {l:List aC} (h:eF l) {f:aC->Int} (hf:∀x,CU x->o_ (f x)):jl (l.map f)=0:=
 FI (by rw[List.length_map];have:=h.few;omega) fun y hy=>by
  obtain ⟨x,hx,rfl⟩:=List.mem_map.1 hy;exact hf x (h.row x hx)
section
variable {l : List aC} (h : eF l)
include h
theorem eF.time:jl (l.map fun x=>x.time)=0:=h.ints fun x hx=>by have:=Rn hx.1;unfold o_;omega
theorem eF.maker:jl (l.map fun x=>x.maker)=0:=h.ints fun x hx=>by have:=z3C hx.2;unfold o_;omega
theorem eF.seq:jl (l.map fun x=>x.seq)=0:=h.ints fun x hx=>by have:=z3C hx.2;unfold o_;omega
theorem eF.place:jl (l.map fun x=>x.place)=0:=h.ints fun x hx=>by have:=z3C hx.2;unfold o_;omega
theorem eF.kind:jl (l.map fun x=>x.kind)=0:=h.ints fun x hx=>by have:=Rn hx.1;unfold o_;omega
theorem eF.value:jl (l.map fun x=>x.value)=0:=h.ints fun x hx=>by have:=Rn hx.1;unfold o_;omega
theorem eF.words:(dO (l.map cu)).length<=65536:=zF (by rw[List.length_map];exact h.few) fun s hs=>by
 obtain ⟨x,_,rfl⟩:=List.mem_map.1 hs;exact WW x
theorem eF.texts:(dH (l.map fun x=>x.text)).length<=65536:=zL (by rw[List.length_map];exact h.few) fun s hs=>by
 obtain ⟨x,hx,rfl⟩:=List.mem_map.1 hs;exact (Rn (h.row x hx).1).2.2.2.2.2.2
theorem eF.text:∀s∈l.map (fun x=>x.text),s.size<=1024:=fun s hs=>by
 obtain ⟨x,hx,rfl⟩:=List.mem_map.1 hs;have:=(Rn (h.row x hx).1).2.2.2.2.2.2;show x.text.size<=1024
 omega
end
theorem z2b {l:List aC} {i:Nat} (h:i<l.length):jR l i=(aT l[i]&&KU l[i]&&(decide (i=0)||dN (l.getD (i-1) l[i]) l[i])):=by
 unfold jR;rw[List.getElem?_eq_getElem h];simp only;cases i with
 |zero=>simp
 |succ j=>
  simp only[List.getElem?_eq_getElem (show j<l.length by omega),Nat.add_sub_cancel,List.getD,Option.getD_some];simp
theorem QZ {l:List aC}:jh l=true↔0<l.length/\(∀x∈l,CU x)/\l.Pairwise (fun x y=>dN x y=true):=by
 unfold jh;rw[Bool.and_eq_true,decide_eq_true_eq,Dh];constructor
 ·rintro ⟨h1,h2⟩
  refine ⟨h1,fun x hx=>?_,?_⟩
  ·obtain ⟨i,hi,rfl⟩:=List.mem_iff_getElem.1 hx
   have h3:=h2 i hi;rw[z2b hi,Bool.and_eq_true,Bool.and_eq_true]at h3;exact h3.1
  ·have key:∀d i (hi:i+d+1<l.length),dN (l[i]'(by omega)) l[i+d+1]=true:=by
    intro d;induction d with
    |zero=>
     intro i hi;have h3:=h2 (i+1) hi;rw[z2b hi,Bool.and_eq_true,Bool.or_eq_true]at h3;rcases h3.2 with h3|h3
     ·simp at h3
     ·simpa [List.getD,List.getElem?_eq_getElem (show i<l.length by omega)]using h3
    |succ d ih=>
     intro i hi;have a:=ih i (by omega);have h3:=h2 (i+(d+1)+1) hi;rw[z2b hi,Bool.and_eq_true,Bool.or_eq_true]at h3
     have b:dN (l[i+d+1]'(by omega)) l[i+(d+1)+1]=true:=by
      rcases h3.2 with h3|h3
      ·simp at h3
      ·simpa [List.getD,List.getElem?_eq_getElem (show i+d+1<l.length by omega),show i+(d+1)=i+d+1 by omega]using h3
     exact z35.trans _ _ _ a b
   rw[List.pairwise_iff_getElem];intro i j hi hj hij;have:=key (j-i-1) i (by omega);simpa [show i+(j-i-1)+1=j by omega]using this
 ·rintro ⟨h1,h2,h3⟩
  refine ⟨h1,fun i hi=>?_⟩;obtain ⟨h4,h5⟩:=h2 l[i] (List.getElem_mem hi);rw[z2b hi,h4,h5,Bool.and_eq_true,Bool.or_eq_true,decide_eq_true_eq];refine ⟨rfl,?_⟩;by_cases h0:i=0
  ·exact .inl h0
  ·right
   have:=List.pairwise_iff_getElem.1 h3 (i-1) i (by omega) hi (by omega);simpa [List.getD,List.getElem?_eq_getElem (show i-1<l.length by omega)]using this
end Go.Proofs.YtdbfejfhpkakhaaGreat
namespace Go.Proofs.YtdbfejfhpkakhaaGreat
open Go.RowKit
theorem E_ (t:ByteArray):t.toList.isEmpty=decide (t.size=0):=by
 rw[Bool.eq_iff_iff,List.isEmpty_iff,decide_eq_true_iff,←List.length_eq_zero_iff];have:t.toList.length=t.size:=by rw[ByteArray.toList_eq,Array.length_toList];rfl
 omega
def oW (x:RV):Value:=.agg #[.int .i64 x.row.kind,.int .i64 x.row.time,.slice x.A x.row.ak.length x.c,.string x.row.text,.int .i64 x.row.value,.bool x.row.null]
section
variable {kind time value maker seq place : Int} {ak : List bT} {text : ByteArray} {null : Bool}
theorem TG (h:¬0<=time):aT (⟨kind,time,ak,text,value,null,maker,seq,place⟩:aC)=false:=by simp[aT,h]
theorem TF (h:¬time<1099511627776):aT (⟨kind,time,ak,text,value,null,maker,seq,place⟩:aC)=false:=by simp[aT];omega
theorem Xc (h:gQ ak=false):aT (⟨kind,time,ak,text,value,null,maker,seq,place⟩:aC)=false:=by simp[aT,h]
theorem Xd (h1:kind≠1) (h2:kind≠2):aT (⟨kind,time,ak,text,value,null,maker,seq,place⟩:aC)=false:=by simp[aT,h1,h2]
end
section
variable {time value maker seq place : Int} {ak : List bT} {text : ByteArray} {null : Bool}
theorem TM (h:¬text.size<=200):aT (⟨1,time,ak,text,value,null,maker,seq,place⟩:aC)=false:=by simp[aT,h]
theorem TL (h:¬value=0):aT (⟨1,time,ak,text,value,null,maker,seq,place⟩:aC)=false:=by simp[aT,h]
theorem rec_1 (h1:0<=time) (h2:time<1099511627776) (h3:gQ ak=true) (h4:text.size<=200) (h5:value=0):aT (⟨1,time,ak,text,value,null,maker,seq,place⟩:aC)= !null:=by simp[aT,h1,h2,h3,h4,h5]
theorem TI (h:¬text.size=0):aT (⟨2,time,ak,text,value,null,maker,seq,place⟩:aC)=false:=by simp[aT,h]
theorem TK (h:¬ -1152921504606846976<=value):aT (⟨2,time,ak,text,value,null,maker,seq,place⟩:aC)=false:=by simp[aT];omega
theorem TJ (h:¬value<=1152921504606846976):aT (⟨2,time,ak,text,value,null,maker,seq,place⟩:aC)=false:=by simp[aT];omega
theorem rec_2 (h1:0<=time) (h2:time<1099511627776) (h3:gQ ak=true) (h4:text.size=0) (h5: -1152921504606846976<=value) (h6:value<=1152921504606846976):aT (⟨2,time,ak,text,value,null,maker,seq,place⟩:aC)=(!null||decide (value=0)):=by simp[aT,h1,h2,h3,h4,h5,h6]
end
theorem z2T {w:World} {D:Nat->Prop} (x:RV) (hx:x.ok w D) (hf:x.row.mid):
 Calls Tryz.prog 45 #[oW x] w fun e w'=>e=.returned (.bool (aT x.row))/\Nx w w':=by
 have HR:=ah (fun w' (c':Nx w w')=>ZH (c:=x.c) (hx.1.nx (by decide) c') rfl (by have:=hf.2;omega) hf.1.1);unfold oW;obtain ⟨⟨kind,time,ak,text,value,null,maker,seq,place⟩,A1,c1⟩:=x;simp only at HR ⊢;clear hx hf;have B1:=ah (aG.new w 57 #[.int .i64 kind,.int .i64 time,.slice A1 ak.length c1,.string text,.int .i64 value,.bool null]);have N1:=ah ((Ch.refl (fun _=>False) w).alloc (.cells #[.int .i64 kind,.int .i64 time,.slice A1 ak.length c1,.string text,.int .i64 value,.bool null] 57));by_cases h1:0<=time
 ·by_cases h2:time<1099511627776
  ·cases hr:gQ ak
   ·rw[hr]at HR
    have HL:=ah hr;clear hr;go_enter Tryz.func45,Tryz.ntmps45;go_wp2_with fail;refine (HR.out _ N1.out).mono ?_;rintro e w2 ⟨rfl,n2⟩;have N2:=ah (N1.out.tr n2);clear n2;go_wp2_with fail;go_ret;exact ⟨by rw[Xc HL.out];first|done|rfl,N2.out⟩
   ·rw[hr]at HR
    have HL:=ah hr;clear hr;by_cases hk1:kind=1
    ·subst hk1
     by_cases h4:text.size<=200
     ·by_cases h5:value=0
      ·subst h5
       cases null
       all_goals
        go_enter Tryz.func45,Tryz.ntmps45;go_wp2_with fail;refine (HR.out _ N1.out).mono ?_;rintro e w2 ⟨rfl,n2⟩;have N2:=ah (N1.out.tr n2);have b2:=B1.out.nx n2;have q0:w2.cell? ⟨w.heap.size,0,none⟩=some _:=b2.cell 0;have q3:w2.cell? ⟨w.heap.size,3,none⟩=some _:=b2.cell 3;have q4:w2.cell? ⟨w.heap.size,4,none⟩=some _:=b2.cell 4;have q5:w2.cell? ⟨w.heap.size,5,none⟩=some _:=b2.cell 5;clear n2 b2;go_wp2_with fail;go_ret;exact ⟨by rw[rec_1 h1 h2 HL.out h4 rfl];first|done|rfl,N2.out⟩
      ·have q9:(value==0)=false:=by simp[h5]
       go_enter Tryz.func45,Tryz.ntmps45;go_wp2_with fail;refine (HR.out _ N1.out).mono ?_;rintro e w2 ⟨rfl,n2⟩;have N2:=ah (N1.out.tr n2);have b2:=B1.out.nx n2;have q0:w2.cell? ⟨w.heap.size,0,none⟩=some _:=b2.cell 0;have q3:w2.cell? ⟨w.heap.size,3,none⟩=some _:=b2.cell 3;have q4:w2.cell? ⟨w.heap.size,4,none⟩=some _:=b2.cell 4;have q5:w2.cell? ⟨w.heap.size,5,none⟩=some _:=b2.cell 5;clear n2 b2;go_wp2_with fail;go_ret;exact ⟨by rw[TL (by omega)];first|done|rfl,N2.out⟩
     ·go_enter Tryz.func45,Tryz.ntmps45
      go_wp2_with fail;refine (HR.out _ N1.out).mono ?_;rintro e w2 ⟨rfl,n2⟩;have N2:=ah (N1.out.tr n2);have b2:=B1.out.nx n2;have q0:w2.cell? ⟨w.heap.size,0,none⟩=some _:=b2.cell 0;have q3:w2.cell? ⟨w.heap.size,3,none⟩=some _:=b2.cell 3;have q4:w2.cell? ⟨w.heap.size,4,none⟩=some _:=b2.cell 4;have q5:w2.cell? ⟨w.heap.size,5,none⟩=some _:=b2.cell 5;clear n2 b2;go_wp2_with fail;go_ret;exact ⟨by rw[TM (by omega)];first|done|rfl,N2.out⟩
    ·by_cases hk2:kind=2
     ·subst hk2
      have hE:(text.toList.isEmpty)=decide (text.size=0):=E_ text;by_cases h4:text.size=0
      ·rw[decide_eq_true h4]at hE
       by_cases h5: -1152921504606846976<=value
       ·by_cases h6:value<=1152921504606846976
        ·cases null
         ·go_enter Tryz.func45,Tryz.ntmps45
          go_wp2_with fail;refine (HR.out _ N1.out).mono ?_;rintro e w2 ⟨rfl,n2⟩;have N2:=ah (N1.out.tr n2);have b2:=B1.out.nx n2;have q0:w2.cell? ⟨w.heap.size,0,none⟩=some _:=b2.cell 0;have q3:w2.cell? ⟨w.heap.size,3,none⟩=some _:=b2.cell 3;have q4:w2.cell? ⟨w.heap.size,4,none⟩=some _:=b2.cell 4;have q5:w2.cell? ⟨w.heap.size,5,none⟩=some _:=b2.cell 5;clear n2 b2;go_wp2_with fail;go_ret;exact ⟨by rw[rec_2 h1 h2 HL.out h4 h5 h6];first|done|rfl,N2.out⟩
         ·by_cases h7:value=0
          ·subst h7
           go_enter Tryz.func45,Tryz.ntmps45;go_wp2_with fail;refine (HR.out _ N1.out).mono ?_;rintro e w2 ⟨rfl,n2⟩;have N2:=ah (N1.out.tr n2);have b2:=B1.out.nx n2;have q0:w2.cell? ⟨w.heap.size,0,none⟩=some _:=b2.cell 0;have q3:w2.cell? ⟨w.heap.size,3,none⟩=some _:=b2.cell 3;have q4:w2.cell? ⟨w.heap.size,4,none⟩=some _:=b2.cell 4;have q5:w2.cell? ⟨w.heap.size,5,none⟩=some _:=b2.cell 5;clear n2 b2;go_wp2_with fail;go_ret;exact ⟨by rw[rec_2 h1 h2 HL.out h4 (by decide) (by decide)];rfl,N2.out⟩
          ·have q9:(value==0)=false:=by simp[h7]
           go_enter Tryz.func45,Tryz.ntmps45;go_wp2_with fail;refine (HR.out _ N1.out).mono ?_;rintro e w2 ⟨rfl,n2⟩;have N2:=ah (N1.out.tr n2);have b2:=B1.out.nx n2;have q0:w2.cell? ⟨w.heap.size,0,none⟩=some _:=b2.cell 0;have q3:w2.cell? ⟨w.heap.size,3,none⟩=some _:=b2.cell 3;have q4:w2.cell? ⟨w.heap.size,4,none⟩=some _:=b2.cell 4;have q5:w2.cell? ⟨w.heap.size,5,none⟩=some _:=b2.cell 5;clear n2 b2;go_wp2_with fail;go_ret;exact ⟨by rw[rec_2 h1 h2 HL.out h4 h5 h6];simp[h7],N2.out⟩
        ·go_enter Tryz.func45,Tryz.ntmps45
         go_wp2_with fail;refine (HR.out _ N1.out).mono ?_;rintro e w2 ⟨rfl,n2⟩;have N2:=ah (N1.out.tr n2);have b2:=B1.out.nx n2;have q0:w2.cell? ⟨w.heap.size,0,none⟩=some _:=b2.cell 0;have q3:w2.cell? ⟨w.heap.size,3,none⟩=some _:=b2.cell 3;have q4:w2.cell? ⟨w.heap.size,4,none⟩=some _:=b2.cell 4;have q5:w2.cell? ⟨w.heap.size,5,none⟩=some _:=b2.cell 5;clear n2 b2;go_wp2_with fail;go_ret;exact ⟨by rw[TJ (by omega)];first|done|rfl,N2.out⟩
       ·go_enter Tryz.func45,Tryz.ntmps45
        go_wp2_with fail;refine (HR.out _ N1.out).mono ?_;rintro e w2 ⟨rfl,n2⟩;have N2:=ah (N1.out.tr n2);have b2:=B1.out.nx n2;have q0:w2.cell? ⟨w.heap.size,0,none⟩=some _:=b2.cell 0;have q3:w2.cell? ⟨w.heap.size,3,none⟩=some _:=b2.cell 3;have q4:w2.cell? ⟨w.heap.size,4,none⟩=some _:=b2.cell 4;have q5:w2.cell? ⟨w.heap.size,5,none⟩=some _:=b2.cell 5;clear n2 b2;go_wp2_with fail;go_ret;exact ⟨by rw[TK (by omega)];first|done|rfl,N2.out⟩
      ·rw[decide_eq_false h4]at hE
       go_enter Tryz.func45,Tryz.ntmps45;go_wp2_with fail;refine (HR.out _ N1.out).mono ?_;rintro e w2 ⟨rfl,n2⟩;have N2:=ah (N1.out.tr n2);have b2:=B1.out.nx n2;have q0:w2.cell? ⟨w.heap.size,0,none⟩=some _:=b2.cell 0;have q3:w2.cell? ⟨w.heap.size,3,none⟩=some _:=b2.cell 3;have q4:w2.cell? ⟨w.heap.size,4,none⟩=some _:=b2.cell 4;have q5:w2.cell? ⟨w.heap.size,5,none⟩=some _:=b2.cell 5;clear n2 b2;go_wp2_with fail;go_ret;exact ⟨by rw[TI (by omega)];first|done|rfl,N2.out⟩
     ·have q7:(kind==1)=false:=by simp[hk1]
      have q8:(kind==2)=false:=(by simp[hk2]);go_enter Tryz.func45,Tryz.ntmps45;go_wp2_with fail;refine (HR.out _ N1.out).mono ?_;rintro e w2 ⟨rfl,n2⟩;have N2:=ah (N1.out.tr n2);have b2:=B1.out.nx n2;have q0:w2.cell? ⟨w.heap.size,0,none⟩=some _:=b2.cell 0;have q3:w2.cell? ⟨w.heap.size,3,none⟩=some _:=b2.cell 3;have q4:w2.cell? ⟨w.heap.size,4,none⟩=some _:=b2.cell 4;have q5:w2.cell? ⟨w.heap.size,5,none⟩=some _:=b2.cell 5;clear n2 b2;go_wp2_with fail;go_ret;exact ⟨by rw[Xd hk1 hk2];first|done|rfl,N2.out⟩
  ·go_enter Tryz.func45,Tryz.ntmps45
   go_wp2_with fail;go_wp2_with fail;go_ret;exact ⟨by rw[TF (by omega)];first|done|rfl,N1.out⟩
 ·go_enter Tryz.func45,Tryz.ntmps45
  go_wp2_with fail;go_wp2_with fail;go_ret;exact ⟨by rw[TG (by omega)];first|done|rfl,N1.out⟩
theorem QC (x:RV) (w:World):Calls Tryz.prog 118 #[aK x] w fun e w'=>e=.returned (.int .i64 x.row.time)/\Nx w w':=by
 obtain ⟨⟨kind,time,ak,text,value,null,maker,seq,place⟩,A1,c1⟩:=x;unfold aK;go_enter Tryz.func118,Tryz.ntmps118;go_wp2_with fail;go_ret;exact ⟨rfl,(Ch.refl _ w).alloc _⟩
theorem QB (x:RV) (w:World):Calls Tryz.prog 119 #[aK x] w fun e w'=>e=.returned (.int .i64 x.row.maker)/\Nx w w':=by
 obtain ⟨⟨kind,time,ak,text,value,null,maker,seq,place⟩,A1,c1⟩:=x;unfold aK;go_enter Tryz.func119,Tryz.ntmps119;go_wp2_with fail;go_ret;exact ⟨rfl,(Ch.refl _ w).alloc _⟩
theorem QA (x:RV) (w:World):Calls Tryz.prog 120 #[aK x] w fun e w'=>e=.returned (.int .i64 x.row.seq)/\Nx w w':=by
 obtain ⟨⟨kind,time,ak,text,value,null,maker,seq,place⟩,A1,c1⟩:=x;unfold aK;go_enter Tryz.func120,Tryz.ntmps120;go_wp2_with fail;go_ret;exact ⟨rfl,(Ch.refl _ w).alloc _⟩
theorem Qz (x:RV) (w:World):Calls Tryz.prog 121 #[aK x] w fun e w'=>e=.returned (.int .i64 x.row.place)/\Nx w w':=by
 obtain ⟨⟨kind,time,ak,text,value,null,maker,seq,place⟩,A1,c1⟩:=x;unfold aK;go_enter Tryz.func121,Tryz.ntmps121;go_wp2_with fail;go_ret;exact ⟨rfl,(Ch.refl _ w).alloc _⟩
theorem Qy (x:RV) (w:World):Calls Tryz.prog 122 #[aK x] w fun e w'=>e=.returned (.int .i64 x.row.kind)/\Nx w w':=by
 obtain ⟨⟨kind,time,ak,text,value,null,maker,seq,place⟩,A1,c1⟩:=x;unfold aK;go_enter Tryz.func122,Tryz.ntmps122;go_wp2_with fail;go_ret;exact ⟨rfl,(Ch.refl _ w).alloc _⟩
theorem Qw (x:RV) (w:World):Calls Tryz.prog 129 #[aK x] w fun e w'=>e=.returned (.int .i64 x.row.value)/\Nx w w':=by
 obtain ⟨⟨kind,time,ak,text,value,null,maker,seq,place⟩,A1,c1⟩:=x;unfold aK;go_enter Tryz.func129,Tryz.ntmps129;go_wp2_with fail;go_ret;exact ⟨rfl,(Ch.refl _ w).alloc _⟩
theorem Qx (x:RV) (w:World):Calls Tryz.prog 128 #[aK x] w fun e w'=>e=.returned (.string x.row.text)/\Nx w w':=by
 obtain ⟨⟨kind,time,ak,text,value,null,maker,seq,place⟩,A1,c1⟩:=x;unfold aK;go_enter Tryz.func128,Tryz.ntmps128;go_wp2_with fail;go_ret;exact ⟨rfl,(Ch.refl _ w).alloc _⟩
theorem Qv (x:RV) (w:World):Calls Tryz.prog 132 #[aK x] w fun e w'=>e=.returned (.bool x.row.null)/\Nx w w':=by
 obtain ⟨⟨kind,time,ak,text,value,null,maker,seq,place⟩,A1,c1⟩:=x;unfold aK;go_enter Tryz.func132,Tryz.ntmps132;go_wp2_with fail;go_ret;exact ⟨rfl,(Ch.refl _ w).alloc _⟩
def PY (k:Nat):Value:=([.func (.func 118) #[] #[],.func (.func 119) #[] #[],.func (.func 120) #[] #[],.func (.func 121) #[] #[],.func (.func 122) #[] #[]]:List Value).getD k undef
def jA (k:Nat) (x:aC):Int:=match k with
 |0=>x.time
 |1=>x.maker
 |2=>x.seq
 |3=>x.place
 |_=>x.kind
theorem Ue (x:RV) (w:World) (b:Nat) (hb:w.cell? ⟨b,0,none⟩=some (.func (.func 118) #[] #[])):Calls Tryz.prog 174 #[aK x,.pointer (some ⟨b,0,none⟩)] w fun e w'=>e=.returned (.int .i64 (jA 0 x.row))/\Nx w w':=by
 have HC:=ah (fun w=>QC x w);obtain ⟨⟨kind,time,ak,text,value,null,maker,seq,place⟩,A1,c1⟩:=x;unfold aK at *;have hlt:b<w.heap.size:=World.block_lt_of_cell? w _ hb;go_enter Tryz.func174,Tryz.ntmps174;go_wp2_with fail;refine (HC.out _).mono ?_;rintro e w2 ⟨rfl,n2⟩;go_wp2_with fail;go_ret;exact ⟨rfl,((Ch.refl _ w).alloc _).tr n2⟩
theorem Ud (x:RV) (w:World) (b:Nat) (hb:w.cell? ⟨b,0,none⟩=some (.func (.func 119) #[] #[])):Calls Tryz.prog 174 #[aK x,.pointer (some ⟨b,0,none⟩)] w fun e w'=>e=.returned (.int .i64 (jA 1 x.row))/\Nx w w':=by
 have HC:=ah (fun w=>QB x w);obtain ⟨⟨kind,time,ak,text,value,null,maker,seq,place⟩,A1,c1⟩:=x;unfold aK at *;have hlt:b<w.heap.size:=World.block_lt_of_cell? w _ hb;go_enter Tryz.func174,Tryz.ntmps174;go_wp2_with fail;refine (HC.out _).mono ?_;rintro e w2 ⟨rfl,n2⟩;go_wp2_with fail;go_ret;exact ⟨rfl,((Ch.refl _ w).alloc _).tr n2⟩
theorem Uc (x:RV) (w:World) (b:Nat) (hb:w.cell? ⟨b,0,none⟩=some (.func (.func 120) #[] #[])):Calls Tryz.prog 174 #[aK x,.pointer (some ⟨b,0,none⟩)] w fun e w'=>e=.returned (.int .i64 (jA 2 x.row))/\Nx w w':=by
 have HC:=ah (fun w=>QA x w);obtain ⟨⟨kind,time,ak,text,value,null,maker,seq,place⟩,A1,c1⟩:=x;unfold aK at *;have hlt:b<w.heap.size:=World.block_lt_of_cell? w _ hb;go_enter Tryz.func174,Tryz.ntmps174;go_wp2_with fail;refine (HC.out _).mono ?_;rintro e w2 ⟨rfl,n2⟩;go_wp2_with fail;go_ret;exact ⟨rfl,((Ch.refl _ w).alloc _).tr n2⟩
theorem Ub (x:RV) (w:World) (b:Nat) (hb:w.cell? ⟨b,0,none⟩=some (.func (.func 121) #[] #[])):Calls Tryz.prog 174 #[aK x,.pointer (some ⟨b,0,none⟩)] w fun e w'=>e=.returned (.int .i64 (jA 3 x.row))/\Nx w w':=by
 have HC:=ah (fun w=>Qz x w);obtain ⟨⟨kind,time,ak,text,value,null,maker,seq,place⟩,A1,c1⟩:=x;unfold aK at *;have hlt:b<w.heap.size:=World.block_lt_of_cell? w _ hb;go_enter Tryz.func174,Tryz.ntmps174;go_wp2_with fail;refine (HC.out _).mono ?_;rintro e w2 ⟨rfl,n2⟩;go_wp2_with fail;go_ret;exact ⟨rfl,((Ch.refl _ w).alloc _).tr n2⟩
theorem Ua (x:RV) (w:World) (b:Nat) (hb:w.cell? ⟨b,0,none⟩=some (.func (.func 122) #[] #[])):Calls Tryz.prog 174 #[aK x,.pointer (some ⟨b,0,none⟩)] w fun e w'=>e=.returned (.int .i64 (jA 4 x.row))/\Nx w w':=by
 have HC:=ah (fun w=>Qy x w);obtain ⟨⟨kind,time,ak,text,value,null,maker,seq,place⟩,A1,c1⟩:=x;unfold aK at *;have hlt:b<w.heap.size:=World.block_lt_of_cell? w _ hb;go_enter Tryz.func174,Tryz.ntmps174;go_wp2_with fail;refine (HC.out _).mono ?_;rintro e w2 ⟨rfl,n2⟩;go_wp2_with fail;go_ret;exact ⟨rfl,((Ch.refl _ w).alloc _).tr n2⟩
theorem KE {k:Nat} (hk:k<5) (x:RV) (w:World) (b:Nat) (hb:w.cell? ⟨b,0,none⟩=some (PY k)):Calls Tryz.prog 174 #[aK x,.pointer (some ⟨b,0,none⟩)] w fun e w'=>e=.returned (.int .i64 (jA k x.row))/\Nx w w':=
 match k,hk,hb with
 |0,_,hb=>Ue x w b hb
 |1,_,hb=>Ud x w b hb
 |2,_,hb=>Uc x w b hb
 |3,_,hb=>Ub x w b hb
 |4,_,hb=>Ua x w b hb
theorem xq (v:Value) (F:Fn) (hv:v=.func F #[] #[]) (w:World):Calls Tryz.prog 125 #[v] w fun e w'=>e=.returned (.func (.func 174) #[] #[.pointer (some ⟨w.heap.size,0,none⟩)])/\w'=w.alloc (.cells #[v] 216):=by
 subst hv;go_enter Tryz.func125,Tryz.ntmps125;go_wp2_with fail;go_ret;exact ⟨rfl,rfl⟩
theorem rM {w:World} {D:Nat->Prop} (x:RV) (hx:x.ok w D) (hf:x.row.few):Calls Tryz.prog 95 #[aK x] w fun e w'=>e=.returned (.string (cu x.row))/\Nx w w':=by
 have HT:=ah (fun w' (c':Nx w w')=>lC (c:=x.c) (hx.1.nx (by decide) c') (by have:=hf.2;omega) hf.1.1);obtain ⟨⟨kind,time,ak,text,value,null,maker,seq,place⟩,A1,c1⟩:=x;unfold aK;unfold cu;simp only at HT ⊢;generalize (if gQ ak=true then (0:Int) else 4)=er at HT;clear hx hf;go_enter Tryz.func95,Tryz.ntmps95;go_wp2_with fail;refine (HT.out _ ((Ch.refl _ w).alloc _)).mono ?_;rintro e w2 ⟨rfl,n2⟩;go_wp2_with fail;go_ret;exact ⟨rfl,((Ch.refl _ w).alloc _).tr n2⟩
theorem JY {w:World} {D:Nat->Prop} {A:Option Addr} {n c:Nat} {l:List RV} {b:Nat} (f:aC->Int) (h:Rd w D 9 A n (bM l)) (hl:l.length=n) (hn:n<=1000000)
 (hg:∀w',Nx w w'->∀x∈l,Calls Tryz.prog 174 #[aK x,.pointer (some ⟨b,0,none⟩)] w' fun e w''=>e=.returned (Value.int .i64 (f x.row))/\Nx w' w''):
 Calls Tryz.prog 124 #[.slice A n c,.func (.func 174) #[] #[.pointer (some ⟨b,0,none⟩)]] w (Gives w 2 1 n (l.map fun x=>Value.int .i64 (f x.row))):=by
 obtain ⟨i0,hi0,hz0,hz1,hz2⟩:=info_parts Tryz.uy
 have hmk:∀w:World,(Instr.makeSlice 219 (.int .i64 0) (.int .i64 (n:Int))).run Tryz.prog w=.ok (.slice (some ⟨w.heap.size,0,none⟩) 0 n) (w.alloc (.cells (madeCells #[.int .i64 0] n) 2)):=fun w=>by
  have:=run_make (P:=Tryz.prog) w 219 2 i0 (.int .i64 0) Tryz.underlying219 hi0 hz0 .i64 .i64 0 (n:Int) (by omega) (by omega) (by rw[hz2];omega) (by omega);rw[hz1,show (n:Int).toNat=n by omega,Nat.mul_one]at this;exact this
 have o1:aF w (w.alloc (.cells (madeCells #[.int .i64 0] n) 2)) 2 1 (.slice (some ⟨w.heap.size,0,none⟩) 0 n) 0 []:=
  ⟨World.ownsRow_made w _ n (Nat.le_refl _) (by simp only[maxLen];omega) (by simp[size_madeCells]),(Ch.refl _ w).alloc _⟩
 have O1:=ah o1;have HL:=ah hl;have jd:=ah h;have HG:=ah hg;have HV:Hid (∀k (hk:k<l.length),(l.map fun x=>Value.int .i64 (f x.row)).take (k+1)=(l.map fun x=>Value.int .i64 (f x.row)).take k++[Value.int .i64 (f l[k].row)]):=ah (fun k hk=>by rw[List.take_succ_eq_append_getElem (by simpa using hk)];simp);have HE:Hid ((l.map fun x=>Value.int .i64 (f x.row)).length=n):=ah (by rw[List.length_map];exact hl);clear hl h hg o1;generalize (l.map fun x=>Value.int .i64 (f x.row))=G at *;go_enter Tryz.func124,Tryz.ntmps124;go_wp2_with fail;generalize (w.alloc (.cells (madeCells #[.int .i64 0] n) 2))=w1 at *;clear hmk;go_loopw [5,13] (fun v i wr=>∃k:Nat,k<=n/\i=.int .i64 (k:Int)/\Hid (aF w wr 2 1 v k (G.take k))) (fun _ i _=>n-(intOf i).toNat)
 case atStart=>exact ⟨0,Nat.zero_le _,rfl,O1⟩
 case round=>
  obtain ⟨w4,rfl⟩:∃w4:World,w4=wr:=⟨_,rfl⟩;obtain ⟨k,hkn,rfl,HO⟩:=hrel;by_cases hlt:k<n
  ·have hkl:k<l.length:=by rw[HL.out];exact hlt
   obtain ⟨ad,rfl, -,p0,p1,p2,p3,p4,p5,p6,p7,p8⟩:=qg (jd.out.nx (by decide) HO.out.nx) hkl;have HC:=ah (fun w' (c':Nx w4 w')=>HG.out w' (HO.out.nx.tr c') _ (List.getElem_mem hkl));have HV1:=ah (HV.out k hkl);generalize l[k]=x at *;obtain ⟨⟨kind,time,ak,text,value,null,maker,seq,place⟩,A1,c1⟩:=x;unfold aK at HC;simp only at p0 p1 p2 p3 p4 p5 p6 p7 p8 HC HV1;generalize f ⟨kind,time,ak,text,value,null,maker,seq,place⟩=y at *;go_wp2_with fail;refine (HC.out _ ((Ch.refl _ w4).alloc _)).mono ?_;rintro e w5 ⟨rfl,n5⟩;have o5:=HO.out.tr (((Ch.refl _ w4).alloc _).tr n5);clear n5 p0 p1 p2 p3 p4 p5 p6 p7 p8;go_wp2_with (at_builtin;refine Rq rfl (.tmp 17) (.tmp 21) _ rfl 2 i0 _ 8 Tryz.underlying219 hi0 hz0 hz1 hz2 rfl (Value.int .i64 y) rfl rfl o5 rfl (by simp only[maxLen];omega) (by omega) ?_;intro v7 w7 o7 m7;have O7:=ah o7;clear o7 m7 o5)
   go_roundw
   case rel=>exact ⟨k+1,by omega,by go_num,by rw[HV1.out];exact O7⟩
   case measure=>simp[intOf];omega
  ·have hkn2:n=k:=by omega
   have hr:Hid (G.take k=G):=ah (List.take_of_length_le (by rw[HE.out];omega));go_wp2_with fail;go_ret;refine ⟨_,rfl,?_⟩;have:=HO.out;rw[hr.out,←hkn2]at this;exact this
theorem JX {w:World} {D:Nat->Prop} {A:Option Addr} {n c:Nat} {l:List RV} (f:aC->Int) (h:Rd w D 9 A n (bM l)) (hl:l.length=n) (hn:n<=1000000)
 (hg:∀w',Nx w w'->∀x∈l,Calls Tryz.prog 129 #[aK x] w' fun e w''=>e=.returned (Value.int .i64 (f x.row))/\Nx w' w''):
 Calls Tryz.prog 124 #[.slice A n c,.func (.func 129) #[] #[]] w (Gives w 2 1 n (l.map fun x=>Value.int .i64 (f x.row))):=by
 obtain ⟨i0,hi0,hz0,hz1,hz2⟩:=info_parts Tryz.uy
 have hmk:∀w:World,(Instr.makeSlice 219 (.int .i64 0) (.int .i64 (n:Int))).run Tryz.prog w=.ok (.slice (some ⟨w.heap.size,0,none⟩) 0 n) (w.alloc (.cells (madeCells #[.int .i64 0] n) 2)):=fun w=>by
  have:=run_make (P:=Tryz.prog) w 219 2 i0 (.int .i64 0) Tryz.underlying219 hi0 hz0 .i64 .i64 0 (n:Int) (by omega) (by omega) (by rw[hz2];omega) (by omega);rw[hz1,show (n:Int).toNat=n by omega,Nat.mul_one]at this;exact this
 have o1:aF w (w.alloc (.cells (madeCells #[.int .i64 0] n) 2)) 2 1 (.slice (some ⟨w.heap.size,0,none⟩) 0 n) 0 []:=
  ⟨World.ownsRow_made w _ n (Nat.le_refl _) (by simp only[maxLen];omega) (by simp[size_madeCells]),(Ch.refl _ w).alloc _⟩
 have O1:=ah o1;have HL:=ah hl;have jd:=ah h;have HG:=ah hg;have HV:Hid (∀k (hk:k<l.length),(l.map fun x=>Value.int .i64 (f x.row)).take (k+1)=(l.map fun x=>Value.int .i64 (f x.row)).take k++[Value.int .i64 (f l[k].row)]):=ah (fun k hk=>by rw[List.take_succ_eq_append_getElem (by simpa using hk)];simp);have HE:Hid ((l.map fun x=>Value.int .i64 (f x.row)).length=n):=ah (by rw[List.length_map];exact hl);clear hl h hg o1;generalize (l.map fun x=>Value.int .i64 (f x.row))=G at *;go_enter Tryz.func124,Tryz.ntmps124;go_wp2_with fail;generalize (w.alloc (.cells (madeCells #[.int .i64 0] n) 2))=w1 at *;clear hmk;go_loopw [5,13] (fun v i wr=>∃k:Nat,k<=n/\i=.int .i64 (k:Int)/\Hid (aF w wr 2 1 v k (G.take k))) (fun _ i _=>n-(intOf i).toNat)
 case atStart=>exact ⟨0,Nat.zero_le _,rfl,O1⟩
 case round=>
  obtain ⟨w4,rfl⟩:∃w4:World,w4=wr:=⟨_,rfl⟩;obtain ⟨k,hkn,rfl,HO⟩:=hrel;by_cases hlt:k<n
  ·have hkl:k<l.length:=by rw[HL.out];exact hlt
   obtain ⟨ad,rfl, -,p0,p1,p2,p3,p4,p5,p6,p7,p8⟩:=qg (jd.out.nx (by decide) HO.out.nx) hkl;have HC:=ah (fun w' (c':Nx w4 w')=>HG.out w' (HO.out.nx.tr c') _ (List.getElem_mem hkl));have HV1:=ah (HV.out k hkl);generalize l[k]=x at *;obtain ⟨⟨kind,time,ak,text,value,null,maker,seq,place⟩,A1,c1⟩:=x;unfold aK at HC;simp only at p0 p1 p2 p3 p4 p5 p6 p7 p8 HC HV1;generalize f ⟨kind,time,ak,text,value,null,maker,seq,place⟩=y at *;go_wp2_with fail;refine (HC.out _ ((Ch.refl _ w4).alloc _)).mono ?_;rintro e w5 ⟨rfl,n5⟩;have o5:=HO.out.tr (((Ch.refl _ w4).alloc _).tr n5);clear n5 p0 p1 p2 p3 p4 p5 p6 p7 p8;go_wp2_with (at_builtin;refine Rq rfl (.tmp 17) (.tmp 21) _ rfl 2 i0 _ 8 Tryz.underlying219 hi0 hz0 hz1 hz2 rfl (Value.int .i64 y) rfl rfl o5 rfl (by simp only[maxLen];omega) (by omega) ?_;intro v7 w7 o7 m7;have O7:=ah o7;clear o7 m7 o5)
   go_roundw
   case rel=>exact ⟨k+1,by omega,by go_num,by rw[HV1.out];exact O7⟩
   case measure=>simp[intOf];omega
  ·have hkn2:n=k:=by omega
   have hr:Hid (G.take k=G):=ah (List.take_of_length_le (by rw[HE.out];omega));go_wp2_with fail;go_ret;refine ⟨_,rfl,?_⟩;have:=HO.out;rw[hr.out,←hkn2]at this;exact this
theorem DR {w:World} {D:Nat->Prop} {A:Option Addr} {n c:Nat} {l:List RV} (f:aC->ByteArray) (h:Rd w D 9 A n (bM l)) (hl:l.length=n) (hn:n<=1000000)
 (hg:∀w',Nx w w'->∀x∈l,Calls Tryz.prog 95 #[aK x] w' fun e w''=>e=.returned (Value.string (f x.row))/\Nx w' w''):
 Calls Tryz.prog 94 #[.slice A n c,.func (.func 95) #[] #[]] w (Gives w 9 1 n (l.map fun x=>Value.string (f x.row))):=by
 obtain ⟨i0,hi0,hz0,hz1,hz2⟩:=info_parts Tryz.uw
 have hmk:∀w:World,(Instr.makeSlice 22 (.int .i64 0) (.int .i64 (n:Int))).run Tryz.prog w=.ok (.slice (some ⟨w.heap.size,0,none⟩) 0 n) (w.alloc (.cells (madeCells #[.string ⟨#[]⟩] n) 9)):=fun w=>by
  have:=run_make (P:=Tryz.prog) w 22 9 i0 (.string ⟨#[]⟩) Tryz.underlying22 hi0 hz0 .i64 .i64 0 (n:Int) (by omega) (by omega) (by rw[hz2];omega) (by omega);rw[hz1,show (n:Int).toNat=n by omega,Nat.mul_one]at this;exact this
 have o1:aF w (w.alloc (.cells (madeCells #[.string ⟨#[]⟩] n) 9)) 9 1 (.slice (some ⟨w.heap.size,0,none⟩) 0 n) 0 []:=
  ⟨World.ownsRow_made w _ n (Nat.le_refl _) (by simp only[maxLen];omega) (by simp[size_madeCells]),(Ch.refl _ w).alloc _⟩
 have O1:=ah o1;have HL:=ah hl;have jd:=ah h;have HG:=ah hg;have HV:Hid (∀k (hk:k<l.length),(l.map fun x=>Value.string (f x.row)).take (k+1)=(l.map fun x=>Value.string (f x.row)).take k++[Value.string (f l[k].row)]):=ah (fun k hk=>by rw[List.take_succ_eq_append_getElem (by simpa using hk)];simp);have HE:Hid ((l.map fun x=>Value.string (f x.row)).length=n):=ah (by rw[List.length_map];exact hl);clear hl h hg o1;generalize (l.map fun x=>Value.string (f x.row))=G at *;go_enter Tryz.func94,Tryz.ntmps94;go_wp2_with fail;generalize (w.alloc (.cells (madeCells #[.string ⟨#[]⟩] n) 9))=w1 at *;clear hmk;go_loopw [5,13] (fun v i wr=>∃k:Nat,k<=n/\i=.int .i64 (k:Int)/\Hid (aF w wr 9 1 v k (G.take k))) (fun _ i _=>n-(intOf i).toNat)
 case atStart=>exact ⟨0,Nat.zero_le _,rfl,O1⟩
 case round=>
  obtain ⟨w4,rfl⟩:∃w4:World,w4=wr:=⟨_,rfl⟩;obtain ⟨k,hkn,rfl,HO⟩:=hrel;by_cases hlt:k<n
  ·have hkl:k<l.length:=by rw[HL.out];exact hlt
   obtain ⟨ad,rfl, -,p0,p1,p2,p3,p4,p5,p6,p7,p8⟩:=qg (jd.out.nx (by decide) HO.out.nx) hkl;have HC:=ah (fun w' (c':Nx w4 w')=>HG.out w' (HO.out.nx.tr c') _ (List.getElem_mem hkl));have HV1:=ah (HV.out k hkl);generalize l[k]=x at *;obtain ⟨⟨kind,time,ak,text,value,null,maker,seq,place⟩,A1,c1⟩:=x;unfold aK at HC;simp only at p0 p1 p2 p3 p4 p5 p6 p7 p8 HC HV1;generalize f ⟨kind,time,ak,text,value,null,maker,seq,place⟩=y at *;go_wp2_with fail;refine (HC.out _ ((Ch.refl _ w4).alloc _)).mono ?_;rintro e w5 ⟨rfl,n5⟩;have o5:=HO.out.tr (((Ch.refl _ w4).alloc _).tr n5);clear n5 p0 p1 p2 p3 p4 p5 p6 p7 p8;go_wp2_with (at_builtin;refine Rq rfl (.tmp 17) (.tmp 21) _ rfl 9 i0 _ 16 Tryz.underlying22 hi0 hz0 hz1 hz2 rfl (Value.string y) rfl rfl o5 rfl (by simp only[maxLen];omega) (by omega) ?_;intro v7 w7 o7 m7;have O7:=ah o7;clear o7 m7 o5)
   go_roundw
   case rel=>exact ⟨k+1,by omega,by go_num,by rw[HV1.out];exact O7⟩
   case measure=>simp[intOf];omega
  ·have hkn2:n=k:=by omega
   have hr:Hid (G.take k=G):=ah (List.take_of_length_le (by rw[HE.out];omega));go_wp2_with fail;go_ret;refine ⟨_,rfl,?_⟩;have:=HO.out;rw[hr.out,←hkn2]at this;exact this
theorem JW {w:World} {D:Nat->Prop} {A:Option Addr} {n c:Nat} {l:List RV} (f:aC->ByteArray) (h:Rd w D 9 A n (bM l)) (hl:l.length=n) (hn:n<=1000000)
 (hg:∀w',Nx w w'->∀x∈l,Calls Tryz.prog 128 #[aK x] w' fun e w''=>e=.returned (Value.string (f x.row))/\Nx w' w''):
 Calls Tryz.prog 94 #[.slice A n c,.func (.func 128) #[] #[]] w (Gives w 9 1 n (l.map fun x=>Value.string (f x.row))):=by
 obtain ⟨i0,hi0,hz0,hz1,hz2⟩:=info_parts Tryz.uw
 have hmk:∀w:World,(Instr.makeSlice 22 (.int .i64 0) (.int .i64 (n:Int))).run Tryz.prog w=.ok (.slice (some ⟨w.heap.size,0,none⟩) 0 n) (w.alloc (.cells (madeCells #[.string ⟨#[]⟩] n) 9)):=fun w=>by
  have:=run_make (P:=Tryz.prog) w 22 9 i0 (.string ⟨#[]⟩) Tryz.underlying22 hi0 hz0 .i64 .i64 0 (n:Int) (by omega) (by omega) (by rw[hz2];omega) (by omega);rw[hz1,show (n:Int).toNat=n by omega,Nat.mul_one]at this;exact this
 have o1:aF w (w.alloc (.cells (madeCells #[.string ⟨#[]⟩] n) 9)) 9 1 (.slice (some ⟨w.heap.size,0,none⟩) 0 n) 0 []:=
  ⟨World.ownsRow_made w _ n (Nat.le_refl _) (by simp only[maxLen];omega) (by simp[size_madeCells]),(Ch.refl _ w).alloc _⟩
 have O1:=ah o1;have HL:=ah hl;have jd:=ah h;have HG:=ah hg;have HV:Hid (∀k (hk:k<l.length),(l.map fun x=>Value.string (f x.row)).take (k+1)=(l.map fun x=>Value.string (f x.row)).take k++[Value.string (f l[k].row)]):=ah (fun k hk=>by rw[List.take_succ_eq_append_getElem (by simpa using hk)];simp);have HE:Hid ((l.map fun x=>Value.string (f x.row)).length=n):=ah (by rw[List.length_map];exact hl);clear hl h hg o1;generalize (l.map fun x=>Value.string (f x.row))=G at *;go_enter Tryz.func94,Tryz.ntmps94;go_wp2_with fail;generalize (w.alloc (.cells (madeCells #[.string ⟨#[]⟩] n) 9))=w1 at *;clear hmk;go_loopw [5,13] (fun v i wr=>∃k:Nat,k<=n/\i=.int .i64 (k:Int)/\Hid (aF w wr 9 1 v k (G.take k))) (fun _ i _=>n-(intOf i).toNat)
 case atStart=>exact ⟨0,Nat.zero_le _,rfl,O1⟩
 case round=>
  obtain ⟨w4,rfl⟩:∃w4:World,w4=wr:=⟨_,rfl⟩;obtain ⟨k,hkn,rfl,HO⟩:=hrel;by_cases hlt:k<n
  ·have hkl:k<l.length:=by rw[HL.out];exact hlt
   obtain ⟨ad,rfl, -,p0,p1,p2,p3,p4,p5,p6,p7,p8⟩:=qg (jd.out.nx (by decide) HO.out.nx) hkl;have HC:=ah (fun w' (c':Nx w4 w')=>HG.out w' (HO.out.nx.tr c') _ (List.getElem_mem hkl));have HV1:=ah (HV.out k hkl);generalize l[k]=x at *;obtain ⟨⟨kind,time,ak,text,value,null,maker,seq,place⟩,A1,c1⟩:=x;unfold aK at HC;simp only at p0 p1 p2 p3 p4 p5 p6 p7 p8 HC HV1;generalize f ⟨kind,time,ak,text,value,null,maker,seq,place⟩=y at *;go_wp2_with fail;refine (HC.out _ ((Ch.refl _ w4).alloc _)).mono ?_;rintro e w5 ⟨rfl,n5⟩;have o5:=HO.out.tr (((Ch.refl _ w4).alloc _).tr n5);clear n5 p0 p1 p2 p3 p4 p5 p6 p7 p8;go_wp2_with (at_builtin;refine Rq rfl (.tmp 17) (.tmp 21) _ rfl 9 i0 _ 16 Tryz.underlying22 hi0 hz0 hz1 hz2 rfl (Value.string y) rfl rfl o5 rfl (by simp only[maxLen];omega) (by omega) ?_;intro v7 w7 o7 m7;have O7:=ah o7;clear o7 m7 o5)
   go_roundw
   case rel=>exact ⟨k+1,by omega,by go_num,by rw[HV1.out];exact O7⟩
   case measure=>simp[intOf];omega
  ·have hkn2:n=k:=by omega
   have hr:Hid (G.take k=G):=ah (List.take_of_length_le (by rw[HE.out];omega));go_wp2_with fail;go_ret;refine ⟨_,rfl,?_⟩;have:=HO.out;rw[hr.out,←hkn2]at this;exact this
theorem JZ {w:World} {D:Nat->Prop} {A:Option Addr} {n c:Nat} {l:List RV} (f:aC->Bool) (h:Rd w D 9 A n (bM l)) (hl:l.length=n) (hn:n<=1000000)
 (hg:∀w',Nx w w'->∀x∈l,Calls Tryz.prog 132 #[aK x] w' fun e w''=>e=.returned (Value.bool (f x.row))/\Nx w' w''):
 Calls Tryz.prog 131 #[.slice A n c,.func (.func 132) #[] #[]] w (Gives w 4 1 n (l.map fun x=>Value.bool (f x.row))):=by
 obtain ⟨i0,hi0,hz0,hz1,hz2⟩:=info_parts Tryz.Uh
 have hmk:∀w:World,(Instr.makeSlice 225 (.int .i64 0) (.int .i64 (n:Int))).run Tryz.prog w=.ok (.slice (some ⟨w.heap.size,0,none⟩) 0 n) (w.alloc (.cells (madeCells #[.bool false] n) 4)):=fun w=>by
  have:=run_make (P:=Tryz.prog) w 225 4 i0 (.bool false) Tryz.underlying225 hi0 hz0 .i64 .i64 0 (n:Int) (by omega) (by omega) (by rw[hz2];omega) (by omega);rw[hz1,show (n:Int).toNat=n by omega,Nat.mul_one]at this;exact this
 have o1:aF w (w.alloc (.cells (madeCells #[.bool false] n) 4)) 4 1 (.slice (some ⟨w.heap.size,0,none⟩) 0 n) 0 []:=
  ⟨World.ownsRow_made w _ n (Nat.le_refl _) (by simp only[maxLen];omega) (by simp[size_madeCells]),(Ch.refl _ w).alloc _⟩
 have O1:=ah o1;have HL:=ah hl;have jd:=ah h;have HG:=ah hg;have HV:Hid (∀k (hk:k<l.length),(l.map fun x=>Value.bool (f x.row)).take (k+1)=(l.map fun x=>Value.bool (f x.row)).take k++[Value.bool (f l[k].row)]):=ah (fun k hk=>by rw[List.take_succ_eq_append_getElem (by simpa using hk)];simp);have HE:Hid ((l.map fun x=>Value.bool (f x.row)).length=n):=ah (by rw[List.length_map];exact hl);clear hl h hg o1;generalize (l.map fun x=>Value.bool (f x.row))=G at *;go_enter Tryz.func131,Tryz.ntmps131;go_wp2_with fail;generalize (w.alloc (.cells (madeCells #[.bool false] n) 4))=w1 at *;clear hmk;go_loopw [5,13] (fun v i wr=>∃k:Nat,k<=n/\i=.int .i64 (k:Int)/\Hid (aF w wr 4 1 v k (G.take k))) (fun _ i _=>n-(intOf i).toNat)
 case atStart=>exact ⟨0,Nat.zero_le _,rfl,O1⟩
 case round=>
  obtain ⟨w4,rfl⟩:∃w4:World,w4=wr:=⟨_,rfl⟩;obtain ⟨k,hkn,rfl,HO⟩:=hrel;by_cases hlt:k<n
  ·have hkl:k<l.length:=by rw[HL.out];exact hlt
   obtain ⟨ad,rfl, -,p0,p1,p2,p3,p4,p5,p6,p7,p8⟩:=qg (jd.out.nx (by decide) HO.out.nx) hkl;have HC:=ah (fun w' (c':Nx w4 w')=>HG.out w' (HO.out.nx.tr c') _ (List.getElem_mem hkl));have HV1:=ah (HV.out k hkl);generalize l[k]=x at *;obtain ⟨⟨kind,time,ak,text,value,null,maker,seq,place⟩,A1,c1⟩:=x;unfold aK at HC;simp only at p0 p1 p2 p3 p4 p5 p6 p7 p8 HC HV1;generalize f ⟨kind,time,ak,text,value,null,maker,seq,place⟩=y at *;go_wp2_with fail;refine (HC.out _ ((Ch.refl _ w4).alloc _)).mono ?_;rintro e w5 ⟨rfl,n5⟩;have o5:=HO.out.tr (((Ch.refl _ w4).alloc _).tr n5);clear n5 p0 p1 p2 p3 p4 p5 p6 p7 p8;go_wp2_with (at_builtin;refine Rq rfl (.tmp 17) (.tmp 21) _ rfl 4 i0 _ 1 Tryz.underlying225 hi0 hz0 hz1 hz2 rfl (Value.bool y) rfl rfl o5 rfl (by simp only[maxLen];omega) (by omega) ?_;intro v7 w7 o7 m7;have O7:=ah o7;clear o7 m7 o5)
   go_roundw
   case rel=>exact ⟨k+1,by omega,by go_num,by rw[HV1.out];exact O7⟩
   case measure=>simp[intOf];omega
  ·have hkn2:n=k:=by omega
   have hr:Hid (G.take k=G):=ah (List.take_of_length_le (by rw[HE.out];omega));go_wp2_with fail;go_ret;refine ⟨_,rfl,?_⟩;have:=HO.out;rw[hr.out,←hkn2]at this;exact this
end Go.Proofs.YtdbfejfhpkakhaaGreat
