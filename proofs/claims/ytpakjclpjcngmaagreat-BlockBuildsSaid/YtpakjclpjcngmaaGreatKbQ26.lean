/- Contracts and plain laws that the last text rests on. Conditions: each theorem states its own. -/
import Derived.Test.YtpakjclpjcngmaaGreatKbQ12
import Derived.Test.YtpakjclpjcngmaaGreatKbQ3
import Derived.Test.YtpakjclpjcngmaaGreatKbQ22
import Derived.Test.YtpakjclpjcngmaaGreatKbQ25
import Derived.Test.YtpakjclpjcngmaaGreatKbQ13
import Derived.Test.YtpakjclpjcngmaaGreatKbQ2
import Derived.Test.YtpakjclpjcngmaaGreatKbQ24
import Derived.IntWalk
import Derived.Laws.BitsAllLaws
import Derived.Deep.RegionHeld3
import Derived.Test.YtpakjclpjcngmaaGreatKbQ7
import Derived.Test.YtpakjclpjcngmaaGreatKbQ11
set_option maxRecDepth 100000
set_option maxHeartbeats 16000000
set_option linter.unusedVariables false
namespace Go.Proofs.YtpakjclpjcngmaaGreat
def fA (x:aA):Bool:=
 decide (0<=x.time/\x.time<1099511627776)&&aZ x.aB&&
  (if x.kind=1 then decide (x.text.size<=200/\x.value=0)&& !x.null
   else if x.kind=2 then decide (x.text.size=0/\ -1152921504606846976<=x.value/\x.value<=1152921504606846976)&&(!x.null||decide (x.value=0))
   else false)
def EF (x:aA):Bool:=decide (1<=x.maker/\x.maker<=64/\1<=x.seq/\x.seq<1099511627776/\0<=x.place/\x.place<64)
def kC (l:List aA) (i:Nat):Bool:=match l[i]? with
 |none=>false
 |some x=>fA x&&EF x&&(match i with|0=>true|j+1=>match l[j]? with|none=>false|some y=>iO y x)
def fP (l:List aA):Bool:=decide (0<l.length)&&(List.range l.length).all (kC l)
def aT (x:aA):ByteArray:=vT x.aB
def aO (x:List Nat):List Nat:=aj x.length++x
def bZ (l:List aA):List (List Nat):=
 [ay 1 (aX (l.map fun x=>x.time)),ay 1 (aX (l.map fun x=>x.maker)),ay 1 (aX (l.map fun x=>x.seq)),ay 1 (aX (l.map fun x=>x.place)),ay 1 (aX (l.map fun x=>x.kind)),
  ay 2 (aQ (l.map aT)),ay 3 (aU (l.map fun x=>x.text)),ay 1 (aX (l.map fun x=>x.value)),ay 4 (aP (l.map fun x=>x.null))]
def aF (l:List aA):List Nat:=(bZ l).flatMap aO
def bT {α:Type} (per:Nat) (l:List α):List (List α):=(List.range ((l.length+per-1) / per)).map fun i=>(l.drop (i * per)).take per
structure PostE where
 text:ByteArray
 gs:List Nat
def dV (s:aK):List Nat:=aj s.place.toNat++aj s.size.toNat++aj s.rows.toNat++aj s.lo.toNat++aj s.hi.toNat
def bY (p:PostE):List Nat:=aj p.text.size++jg p.text++aj p.gs.length++p.gs.flatMap aj
def fM (ss:List aK) (ps:List PostE):List Nat:=aj ss.length++ss.flatMap dV++aj ps.length++ps.flatMap bY
def headB:List Nat:=[69,78,84,82,1]
def FQ (l:List aA):Int:=match l.head? with|some x=>x.time|none=>0
def lastT (l:List aA):Int:=match l.getLast? with|some x=>x.time|none=>0
def iw:Nat->List (List aA)->List aK
 |_,[]=>[]
 |at_,g::gs=>⟨at_,(aF g).length,g.length,FQ g,lastT g⟩::iw (at_+(aF g).length) gs
def bU (t:ByteArray) (k:Nat) (gs:List (List aA)):List Nat:=((List.range gs.length).filter fun i=>(gs.getD i []).any fun x=>decide (aT x=t)).map (· +k)
def z13 (gs:List (List aA)):List PostE:=(bM (gs.flatten.map aT)).map fun t=>⟨t,bU t 0 gs⟩
def aN (gs:List (List aA)):List Nat:=gs.flatMap aF
def fE (gs:List (List aA)):List Nat:=dR (fM (iw 5 gs) (z13 gs))
def jl (gs:List (List aA)):List Nat:=headB++aN gs++fE gs++four (fE gs).length++[69,78,84,82]
def bg (l:List aA) (per:Nat):List Nat:=jl (bT per l)
end Go.Proofs.YtpakjclpjcngmaaGreat
namespace Go.Proofs.YtpakjclpjcngmaaGreat
open Go.RowKit
def Qy (W0 w:World) (v:Value) (X:List Nat) (e:Ending) (w':World):Prop:=∃v',e=.returned v'/\ak W0 w' 5 1 v' X.length (bl X)/\Moved w w' v v'
theorem Vf (W0 w:World) (v:Value) (X:List Nat) (n:Nat) (o:ak W0 w 5 1 v X.length (bl X)) (hX:X.length<=100000000) (hn:n<=9223372036854775807):
 Calls Tryz.prog 125 #[v,.int .i64 (n:Int)] w (Qy W0 w v (X++aj n)):=by
 obtain ⟨i0,hi0,hz0,hz1,hz2⟩:=info_parts Tryz.info5;obtain ⟨A,c,rfl,hc,_⟩:=o.form;have kw:IntKind.u64.wrap (n:Int)=(n:Int):=by rw[IntKind.wrap_u64];omega
 have mD:=ah (oD n w (by omega));have hpl:=z04 (n:=n) (by omega);have HE:=ah (show bl (X++aj n)=bl X++bl (aj n) by simp[bl]);go_enter Tryz.func125,Tryz.ntmps125;go_wp2_with fail;with_reducible refine mD.out.mono ?_
 rintro e w2 ⟨k2,cap2,rfl,o2,hk2,hk2',hc2,_⟩;have oX2:=o.tr o2.nx;have N2:=ah o2.nx;have r2:=o2.iy;clear o2 mD;go_wp2_with (at_builtin;refine z05 rfl (.tmp 5) (.tmp 8) _ rfl 5 i0 _ 1 1 Tryz.underlying26 hi0 hz0 hz1 hz2 rfl (by omega) rfl oX2 _ (some ⟨k2,0,none⟩) (aj n).length cap2 (bl (aj n)) rfl r2 (iL _) (by simp only[maxLen];omega) (by omega) ?_;intro v3 w3 o3 m3)
 go_ret;refine ⟨_,rfl,?_,Moved.pre N2.out m3⟩;rw[HE.out,List.length_append];exact o3
theorem YL (W0 w:World) (v:Value) (X x:List Nat) {D:Nat->Prop} {A:Option Addr} {n c:Nat} (o:ak W0 w 5 1 v X.length (bl X)) (hX:X.length<=10000000) (hr:Rd w D 1 A n (bl x)) (hl:x.length=n) (hn:n<=1000000) (hD:∀k,D k->k<w.heap.size/\v.ownBlock≠some k):
 Calls Tryz.prog 119 #[v,.slice A n c] w (Qy W0 w v (X++aO x)):=by
 obtain ⟨i0,hi0,hz0,hz1,hz2⟩:=info_parts Tryz.info5;subst hl;obtain ⟨A1,c1,rfl,hc,_⟩:=o.form;have HU:=ah (Vf W0 w (.slice A1 X.length c1) X x.length o (by omega) (by omega));have HR:=ah hr;have HD:=ah hD;have HE:=ah (show bl (X++aO x)=bl (X++aj x.length)++bl x by simp[bl,aO]);have hpl:=z04 (n:=x.length) (by omega);have hlen:(X++aj x.length).length=X.length+(aj x.length).length:=List.length_append;clear o hr hD;go_enter Tryz.func119,Tryz.ntmps119;go_wp2_with fail;with_reducible refine HU.out.mono ?_
 rintro e w2 ⟨v2,rfl,o2,m2⟩;have r2:=HR.out.ch (by decide) m2.ch (fun k _ hk e=>(HD.out k hk).2 e);have M2:=ah m2;obtain ⟨A2,c2,rfl,hc2,_⟩:=o2.form;generalize hP:(X++aj x.length).length=p at *;have hp:p<=10000010:=by omega
 have HPH:=ah hP;clear hP hlen HU m2;go_wp2_with (at_builtin;refine z05 rfl (.tmp 8) (.tmp 9) _ rfl 5 i0 _ 1 1 Tryz.underlying26 hi0 hz0 hz1 hz2 rfl (by omega) rfl o2 _ A x.length c (bl x) rfl r2 (iL _) (by simp only[maxLen];omega) (by omega) ?_;intro v3 w3 o3 m3)
 go_ret;refine ⟨_,rfl,?_,M2.out.tr m3⟩;rw[HE.out,show (X++aO x).length=p+x.length by rw[←HPH.out];simp[aO];omega];exact o3
end Go.Proofs.YtpakjclpjcngmaaGreat
namespace Go.Proofs.YtpakjclpjcngmaaGreat
open Ps
theorem oh (all:List ByteArray) (ha:all.length<=256):∀(n:Nat) (l:List ByteArray),l.length<=n->n<=256->(bW all l).length<=4 * l.length:=by
 intro n;induction n with
 |zero=>
  intro l h _;have:l=[]:=List.eq_nil_of_length_eq_zero (by omega);subst this;rw[Rq];exact Nat.zero_le _
 |succ n ih=>
  intro l h hn;cases l with
  |nil=>rw[Rq];exact Nat.zero_le _
  |cons x xs=>
   rw[bW];have h1:=wz x xs;have h2:dB all x<=all.length:=List.findIdx_le_length;simp only[List.length_cons]at h;have h3:=ih (xs.drop (runN x xs)) (by rw[List.length_drop];omega) (by omega);have h4:=z12 (n:=dB all x) (by omega);have h5:=z12 (n:=runN x xs+1) (by omega);rw[List.length_drop]at h3;simp only[List.length_append,List.length_cons];omega
theorem z2Q:∀{all:List ByteArray},(∀s∈all,s.size<=242)->(kW all).length<=244 * all.length
 |[],_=>Nat.le_refl _
 |s::all,h=>by
  have h1:=z2Q (all:=all) fun t ht=>h t (List.mem_cons_of_mem _ ht);have h2:=h s List.mem_cons_self;have h3:=z12 (n:=s.size) (by omega);rw[z2b,List.length_append,List.length_append,z09,List.length_cons];omega
theorem Df {l:List ByteArray} (hl:l.length<=256) (hs:∀s∈l,s.size<=242):(aQ l).length<=65536:=by
 have h1:=Iw l;have h2:=z2Q (all:=bM l) fun s h=>hs s (yt.1 h);have h3:=oh (bM l) (by omega) _ l (Nat.le_refl _) hl;have h4:=z12 (n:=(bM l).length) (by omega);have h5:=z12 (n:=l.length) (by omega);unfold aQ;simp only[List.length_append];omega
theorem z4t:∀{l:List ByteArray},(∀s∈l,s.size<=200)->(fZ l).length<=2 * l.length/\(fB l).length<=200 * l.length
 |[],_=>⟨Nat.le_refl _,Nat.le_refl _⟩
 |s::l,h=>by
  have h1:=z4t (l:=l) fun t ht=>h t (List.mem_cons_of_mem _ ht);have h2:=h s List.mem_cons_self;have h3:=z12 (n:=s.size) (by omega);unfold fZ fB at *;simp only[List.flatMap_cons,List.length_append,List.length_cons,z09];omega
theorem Dq {l:List ByteArray} (hl:l.length<=256) (hs:∀s∈l,s.size<=200):(aU l).length<=65536:=by
 have h1:=z4t hs;have h2:=z12 (n:=l.length) (by omega);unfold aU;simp only[List.length_append];omega
def r_ (x:aA):Prop:=fA x=true/\EF x=true
theorem Le {x:aA} (h:fA x=true):0<=x.time/\x.time<1099511627776/\aZ x.aB=true/\(x.kind=1∨x.kind=2)/\ -1152921504606846976<=x.value/\x.value<=1152921504606846976/\x.text.size<=200:=by
 unfold fA at h;rw[Bool.and_eq_true,Bool.and_eq_true,decide_eq_true_eq]at h;obtain ⟨⟨⟨h1,h2⟩,h3⟩,h4⟩:=h;refine ⟨h1,h2,h3,?_⟩;by_cases k1:x.kind=1
 ·rw[if_pos k1,Bool.and_eq_true,decide_eq_true_eq]at h4
  obtain ⟨⟨h5,h6⟩,_⟩:=h4;exact ⟨.inl k1,by omega,by omega,h5⟩
 ·rw[if_neg k1]at h4
  by_cases k2:x.kind=2
  ·rw[if_pos k2,Bool.and_eq_true,decide_eq_true_eq]at h4
   obtain ⟨⟨h5,h6,h7⟩,_⟩:=h4;exact ⟨.inr k2,h6,h7,by omega⟩
  ·rw[if_neg k2]at h4
   cases h4
theorem z4U {x:aA} (h:EF x=true):1<=x.maker/\x.maker<=64/\1<=x.seq/\x.seq<1099511627776/\0<=x.place/\x.place<64:=by
 unfold EF at h;rw[decide_eq_true_eq]at h;exact h
theorem oC {l:List dL} (h:aZ l=true):l.length<=4/\∀x∈l,dw x.name=true/\x.value.size<=16:=by
 unfold aZ at h;rw[Bool.and_eq_true,decide_eq_true_eq,IC]at h;refine ⟨h.1,fun x hx=>?_⟩;obtain ⟨i,hi,rfl⟩:=List.mem_iff_getElem.1 hx;have h2:=h.2 i hi;unfold jU at h2;rw[VQ hi,Bool.and_eq_true,Bool.and_eq_true,decide_eq_true_eq]at h2;exact h2.1
theorem z11 (x:aA):(aT x).size<=242:=by
 unfold aT vT;split
 ·next h=>
  obtain ⟨h1,h2⟩:=oC h;have h3:=ZI h2;show (textF x.aB).toArray.size<=242
  rw[List.size_toArray];unfold textF;simp only[List.length_cons,List.length_append,List.length_nil];omega
 ·exact Nat.zero_le _
theorem Jc {l:List Int} (h1:l.length<=2048) (h2:∀x∈l,jO x):aJ l=0:=by
 unfold aJ;rw[if_neg (by omega),if_pos h2]
theorem Zx (l:List aA):∀s∈l.map aT,s.size<=1024:=fun s hs=>by
 obtain ⟨x,_,rfl⟩:=List.mem_map.1 hs;have:=z11 x;omega
structure dM (l:List aA):Prop where
 few:l.length<=256
 row:∀x∈l,r_ x
theorem dM.ints {l:List aA} (h:dM l) {f:aA->Int} (hf:∀x,r_ x->jO (f x)):aJ (l.map f)=0:=
 Jc (by rw[List.length_map];have:=h.few;omega) fun y hy=>by
  obtain ⟨x,hx,rfl⟩:=List.mem_map.1 hy;exact hf x (h.row x hx)
section
variable {l : List aA} (h : dM l)
include h
theorem dM.time:aJ (l.map fun x=>x.time)=0:=h.ints fun x hx=>by have:=Le hx.1;unfold jO;omega
theorem dM.maker:aJ (l.map fun x=>x.maker)=0:=h.ints fun x hx=>by have:=z4U hx.2;unfold jO;omega
theorem dM.seq:aJ (l.map fun x=>x.seq)=0:=h.ints fun x hx=>by have:=z4U hx.2;unfold jO;omega
theorem dM.place:aJ (l.map fun x=>x.place)=0:=h.ints fun x hx=>by have:=z4U hx.2;unfold jO;omega
theorem dM.kind:aJ (l.map fun x=>x.kind)=0:=h.ints fun x hx=>by have:=Le hx.1;unfold jO;omega
theorem dM.value:aJ (l.map fun x=>x.value)=0:=h.ints fun x hx=>by have:=Le hx.1;unfold jO;omega
theorem dM.words:(aQ (l.map aT)).length<=65536:=Df (by rw[List.length_map];exact h.few) fun s hs=>by
 obtain ⟨x,_,rfl⟩:=List.mem_map.1 hs;exact z11 x
theorem dM.texts:(aU (l.map fun x=>x.text)).length<=65536:=Dq (by rw[List.length_map];exact h.few) fun s hs=>by
 obtain ⟨x,hx,rfl⟩:=List.mem_map.1 hs;exact (Le (h.row x hx).1).2.2.2.2.2.2
theorem dM.text:∀s∈l.map (fun x=>x.text),s.size<=1024:=fun s hs=>by
 obtain ⟨x,hx,rfl⟩:=List.mem_map.1 hs;have:=(Le (h.row x hx).1).2.2.2.2.2.2;show x.text.size<=1024
 omega
end
theorem YI {l:List aA} {i:Nat} (h:i<l.length):kC l i=(fA l[i]&&EF l[i]&&(decide (i=0)||iO (l.getD (i-1) l[i]) l[i])):=by
 unfold kC;rw[List.getElem?_eq_getElem h];simp only;cases i with
 |zero=>simp
 |succ j=>
  simp only[List.getElem?_eq_getElem (show j<l.length by omega),Nat.add_sub_cancel,List.getD,Option.getD_some];simp
theorem IB {l:List aA}:fP l=true↔0<l.length/\(∀x∈l,r_ x)/\l.Pairwise (fun x y=>iO x y=true):=by
 unfold fP;rw[Bool.and_eq_true,decide_eq_true_eq,IC];constructor
 ·rintro ⟨h1,h2⟩
  refine ⟨h1,fun x hx=>?_,?_⟩
  ·obtain ⟨i,hi,rfl⟩:=List.mem_iff_getElem.1 hx
   have h3:=h2 i hi;rw[YI hi,Bool.and_eq_true,Bool.and_eq_true]at h3;exact h3.1
  ·have key:∀d i (hi:i+d+1<l.length),iO (l[i]'(by omega)) l[i+d+1]=true:=by
    intro d;induction d with
    |zero=>
     intro i hi;have h3:=h2 (i+1) hi;rw[YI hi,Bool.and_eq_true,Bool.or_eq_true]at h3;rcases h3.2 with h3|h3
     ·simp at h3
     ·simpa [List.getD,List.getElem?_eq_getElem (show i<l.length by omega)]using h3
    |succ d ih=>
     intro i hi;have a:=ih i (by omega);have h3:=h2 (i+(d+1)+1) hi;rw[YI hi,Bool.and_eq_true,Bool.or_eq_true]at h3
     have b:iO (l[i+d+1]'(by omega)) l[i+(d+1)+1]=true:=by
      rcases h3.2 with h3|h3
      ·simp at h3
      ·simpa [List.getD,List.getElem?_eq_getElem (show i+d+1<l.length by omega),show i+(d+1)=i+d+1 by omega]using h3
     exact NU.trans _ _ _ a b
   rw[List.pairwise_iff_getElem];intro i j hi hj hij;have:=key (j-i-1) i (by omega);simpa [show i+(j-i-1)+1=j by omega]using this
 ·rintro ⟨h1,h2,h3⟩
  refine ⟨h1,fun i hi=>?_⟩;obtain ⟨h4,h5⟩:=h2 l[i] (List.getElem_mem hi);rw[YI hi,h4,h5,Bool.and_eq_true,Bool.or_eq_true,decide_eq_true_eq];refine ⟨rfl,?_⟩;by_cases h0:i=0
  ·exact .inl h0
  ·right
   have:=List.pairwise_iff_getElem.1 h3 (i-1) i (by omega) hi (by omega);simpa [List.getD,List.getElem?_eq_getElem (show i-1<l.length by omega)]using this
end Go.Proofs.YtpakjclpjcngmaaGreat
namespace Go.Proofs.YtpakjclpjcngmaaGreat
open Go.RowKit
theorem EG (a b:Nat) (ha:a<4611686018427387904) (hb:b<4611686018427387904):bits .or .i64 (a:Int) (b:Int)=((a|||b:Nat):Int):=by
 have hx:a|||b<2 ^ 62:=Nat.or_lt_two_pow (by omega) (by omega)
 show IntKind.i64.wrap ((BitVec.ofInt 64 (a:Int)|||BitVec.ofInt 64 (b:Int)).toNat:Int)=_
 rw[BitVec.toNat_or,ofInt_u64 a (by omega),ofInt_u64 b (by omega)];exact IntWalk.i64_in _ (by omega)
theorem WM (a b k:Nat) (ha:a<2 ^ k):a|||b * 2 ^ k=a+b * 2 ^ k:=by
 rw[Nat.or_comm,Nat.mul_comm,←Nat.two_pow_add_eq_or_of_lt ha,Nat.add_comm]
theorem aaf (a b k:Nat) (ha:a<2 ^ k) (hk:k<=24) (hb:b<256):bits .or .i64 (a:Int) (IntKind.i64.wrap ((b:Int) * 2 ^ k))=((a+b * 2 ^ k:Nat):Int):=by
 have h1:2 ^ k<=2 ^ 24:=Nat.pow_le_pow_right (by omega) hk;have h2:b * 2 ^ k<=255 * 2 ^ 24:=Nat.mul_le_mul (by omega) h1;have e1:((b:Int) * 2 ^ k)=((b * 2 ^ k:Nat):Int):=by push_cast;rfl
 rw[e1,IntWalk.i64_in _ (by omega),EG _ _ (by omega) (by omega),WM _ _ _ ha]
def NP (b:List Nat):Nat->Nat
 |0=>0
 |k+1=>NP b k+b.getD k 0 * 2 ^ (8 * k)
theorem Ey {b:List Nat} (ok:okB b):∀k,NP b k<2 ^ (8 * k)
 |0=>by simp[NP]
 |k+1=>by
  have h1:=Ey ok k;have h2:=z16 ok k;have h3:b.getD k 0 * 2 ^ (8 * k)<=255 * 2 ^ (8 * k):=Nat.mul_le_mul_right _ (by omega);rw[NP,show 8 * (k+1)=8 * k+8 by omega,Nat.pow_add];omega
def le4 (b:List Nat):Nat:=b.getD 0 0+b.getD 1 0 * 256+b.getD 2 0 * 65536+b.getD 3 0 * 16777216
theorem aam (b:List Nat):NP b 4=le4 b:=by simp[NP,le4]
theorem WV {b:List Nat} (ok:okB b):le4 b<4294967296:=by rw[←aam];exact Ey ok 4
def jv (b:List Nat) (size:Int):Int×Int×Int:=
 if b.length=8/\b.drop 4=[69,78,84,82]/\13<=size then
  if (le4 b:Int)<=size-13 then (size-8-le4 b,(le4 b:Int),0) else (0,0,4)
 else (0,0,4)
def Yy (w:World) (t:Int×Int×Int) (e:Ending) (w':World):Prop:=e=.returned (.tuple #[.int .i64 t.1,.int .i64 t.2.1,.int .i64 t.2.2])/\Dr w w'
theorem AO {w:World} {D:Nat->Prop} {A:Option Addr} {n c:Nat} {b:List Nat} (hr:Rd w D 1 A n (bl b)) (ok:okB b) (hl:b.length=n) (hc:n<=c) (size:Int) (hs0: -9223372036854775808<=size) (hs1:size<=9223372036854775807):
 Calls Tryz.prog 23 #[.slice A n c,.int .i64 size] w (Yy w (jv b size)):=by
 by_cases h8:n=8
 ·subst h8
  have hstr:=vI (P:=Tryz.prog) w 26 9 5 Tryz.underlying26 Tryz.underlying5 Tryz.underlying9;have hcut:=hr.cut (k:=4) (cap:=c) (by omega) hc;rw[Nat.mul_one,show (bl b).drop 4=bl (b.drop 4) by simp[bl,List.map_drop],if_neg (by omega)]at hcut;obtain ⟨ad,rfl, -, -⟩:=hr.2 (by omega);have hST:=fun (w':World) (c':Dr w w')=>vI (P:=Tryz.prog) w' 26 9 5 Tryz.underlying26 Tryz.underlying5 Tryz.underlying9 D _ _ (c-4) _ (hcut.nx (by decide) c'.nx);have hc4:¬c=4:=by omega
  have XD:=fun q=>hST (w.drewN q) ⟨q,rfl⟩;have hadd:ad.add 4=⟨ad.block,ad.off+4,none⟩:=by simp[Addr.add]
  simp only[Option.map_some,hadd,show (8:Nat)-4=4 from rfl]at XD;have Vh:okB (b.drop 4):=fun x hx=>ok x (List.mem_of_mem_drop hx);by_cases hm:b.drop 4=[69,78,84,82]/\13<=size
  ·have ht:bf (b.drop 4)=⟨#[69,78,84,82]⟩:=by rw[hm.1];rfl
   rw[ht]at XD;have hF:jv b size=if (le4 b:Int)<=size-13 then (size-8-le4 b,(le4 b:Int),0) else (0,0,4):=by unfold jv;rw[if_pos ⟨hl,hm⟩]
   have q2:decide (size<13)=false:=by rw[decide_eq_false_iff_not];omega
   have k1:IntKind.i64.wrap (size-8)=size-8:=IntWalk.i64_in _ (by omega);have k2:IntKind.i64.wrap (size-8-5)=size-13:=by rw[IntWalk.i64_in _ (by omega)];omega
   have hlt4:=WV ok;have HF:=ah hF;have xK:=ah ok;have HR:=ah hr;have HL:=ah hl;have h13:=hm.2;have qe:(([69,78,84,82]:List UInt8)==((⟨#[69,78,84,82,1]⟩:ByteArray).extract 0 4).toList)=true:=(by decide+kernel);clear hF ok hr hl hcut hST Vh ht hm;go_enter Tryz.func23,Tryz.ntmps23;go_wp2_with fail;go_quiet (fail)
   go_wp2_with fail;go_loopw [7,23] (fun v i wr=>∃k:Nat,k<=4/\v=.int .i64 (NP b k:Int)/\i=.int .i64 (k:Int)/\wr=w.drewN nq) (fun _ i _=>4-(intOf i).toNat)
   case atStart=>exact ⟨0,by omega,rfl,rfl,rfl⟩
   case round=>
    obtain ⟨k,hk,rfl,rfl,jy⟩:=hrel;rw[jy];clear jy;by_cases hlt:k<4
    ·obtain ⟨ad2,u,hA2,Ht,hu,hcx⟩:=(HR.out.drewN nq).at_ (k:=k) (by omega)
     injection hA2 with hA2;subst hA2;rw[K_ (by rw[HL.out];omega)]at hu;injection hu with hu;subst hu;have hx:=z16 xK.out k;have hor:=aaf (NP b k) (b.getD k 0) (8 * k) (Ey xK.out k) (by omega) hx;rw[IntWalk.i64_left]at hor;have HS:Hid (NP b (k+1)=NP b k+b.getD k 0 * 2 ^ (8 * k)):=ah rfl;have k3:IntKind.i64.wrap (8 * (k:Int))=((8 * k:Nat):Int):=by rw[IntWalk.i64_in _ (by omega)];omega
     generalize NP b k=a at *;generalize b.getD k 0=x at *;go_wp2_with fail;go_roundw
     case rel=>exact ⟨k+1,by omega,by rw[HS.out];exact congrArg (Value.int IntKind.i64) (by push_cast;rfl),by go_num,by first|rfl|trivial⟩
     case measure=>simp[intOf];omega
    ·have hk4:k=4:=by omega
     subst hk4;rw[aam];generalize le4 b=m at *;by_cases hmm:(m:Int)<=size-13
     ·have q5:decide (size-13<(m:Int))=false:=by rw[decide_eq_false_iff_not];omega
      have k4:IntKind.i64.wrap (size-8-(m:Int))=size-8-(m:Int):=IntWalk.i64_in _ (by omega);rw[if_pos hmm]at HF;clear hmm;go_wp2_with fail;exact bodyPost_ret (v:=.tuple #[.int .i64 (size-8-(m:Int)),.int .i64 (m:Int),.int .i64 0]) (by simp[results,Tryz.results23,go_sem]) rfl ⟨by rw[HF.out],⟨_,rfl⟩⟩
     ·have q5:decide (size-13<(m:Int))=true:=by rw[decide_eq_true_eq];omega
      rw[if_neg hmm]at HF;clear hmm;go_wp2_with fail;exact bodyPost_ret (v:=.tuple #[.int .i64 0,.int .i64 0,.int .i64 4]) (by simp[results,Tryz.results23,go_sem]) rfl ⟨by rw[HF.out],⟨_,rfl⟩⟩
  ·have HF:Hid (jv b size=(0,0,4)):=ah (by unfold jv;rw[if_neg (fun h=>hm h.2)])
   by_cases he:b.drop 4=[69,78,84,82]
   ·have ht:bf (b.drop 4)=⟨#[69,78,84,82]⟩:=by rw[he];rfl
    rw[ht]at XD;have qe:(([69,78,84,82]:List UInt8)==((⟨#[69,78,84,82,1]⟩:ByteArray).extract 0 4).toList)=true:=(by decide+kernel);have q2:decide (size<13)=true:=by rw[decide_eq_true_eq];exact Int.not_le.1 fun h=>hm ⟨he,h⟩
    clear hr ok hl hcut hST Vh ht hm he;go_enter Tryz.func23,Tryz.ntmps23;go_wp2_with fail;go_quiet (fail)
    go_wp2_with fail;exact bodyPost_ret (v:=.tuple #[.int .i64 0,.int .i64 0,.int .i64 4]) (by simp[results,Tryz.results23,go_sem]) rfl ⟨by rw[HF.out],⟨_,rfl⟩⟩
   ·have qn:((bf (b.drop 4)).toList==((⟨#[69,78,84,82,1]⟩:ByteArray).extract 0 4).toList)=false:=by
     rw[QM,decide_eq_false_iff_not,show ((⟨#[69,78,84,82,1]⟩:ByteArray).extract 0 4)=bf [69,78,84,82] from by decide+kernel];exact fun e=>he (z48 Vh (fun x hx=>by simp only[List.mem_cons,List.not_mem_nil,or_false]at hx;omega) e)
    clear hr ok hl hcut hST Vh hm he;generalize bf (b.drop 4)=T at *;go_enter Tryz.func23,Tryz.ntmps23;go_wp2_with fail;go_quiet (fail)
    go_wp2_with fail;exact bodyPost_ret (v:=.tuple #[.int .i64 0,.int .i64 0,.int .i64 4]) (by simp[results,Tryz.results23,go_sem]) rfl ⟨by rw[HF.out],⟨_,rfl⟩⟩
 ·have hF:jv b size=(0,0,4):=by unfold jv;rw[if_neg (by rw[hl];exact fun h=>h8 h.1)]
  have HF:=ah hF;have q8:((n:Int) !=8)=true:=by rw[bne_iff_ne];omega
  clear hF hr ok hl hc h8;go_enter Tryz.func23,Tryz.ntmps23;go_wp2_with fail;go_quiet (fail)
  go_wp2_with fail;exact bodyPost_ret (v:=.tuple #[.int .i64 0,.int .i64 0,.int .i64 4]) (by simp[results,Tryz.results23,go_sem]) rfl ⟨by rw[HF.out],⟨_,rfl⟩⟩
def BuTo (W w:World) (v:Value) (xs:List Nat) (z:Nat) (e:Ending) (w':World):Prop:=
 ∃v',e=.returned v'/\ak W w' 5 1 v' (xs++aj z).length (bl (xs++aj z))/\Moved w w' v v'
theorem XU {W w:World} {v:Value} {xs:List Nat} {z:Nat} (ho:ak W w 5 1 v xs.length (bl xs)) (hz:z<9223372036854775808) (hs:xs.length<=100000000):
 Calls Tryz.prog 113 #[v,.int .i64 (z:Int)] w (BuTo W w v xs z):=by
 obtain ⟨i0,hi0,hz0,hz1,hz2⟩:=info_parts Tryz.info5;have HPU:=ah (fun (w:World)=>U_ z w (by omega));have hpl:=(z04 (n:=z) (by omega)).2;have HO:=ah ho;have kw:IntKind.u64.wrap (z:Int)=(z:Int):=by rw[IntKind.wrap_u64];omega
 obtain ⟨A,c,rfl, -, -⟩:=ho.form;clear ho;go_enter Tryz.func113,Tryz.ntmps113;go_wp2_with fail;refine (HPU.out _).mono ?_;rintro e w3 ⟨k3,cap3,rfl,o3,hk3,hk3',hc3, -⟩;have N3:=ah o3.nx;have OV:=ah (HO.out.tr N3.out);have R3:=ah o3.iy;clear o3;go_wp2_with (at_builtin;refine z05 rfl (.tmp 5) (.tmp 8) _ rfl 5 i0 _ 1 1 Tryz.underlying26 hi0 hz0 hz1 hz2 rfl (by omega) rfl OV.out _ (some ⟨k3,0,none⟩) (aj z).length cap3 (bl (aj z)) rfl R3.out (iL _) (by simp only[maxLen];omega) (by omega) ?_;intro v5 w5 o5 m5;have O5:=ah o5;have M5:=ah m5;clear o5 m5)
 go_ret;refine ⟨_,rfl,?_,⟨(N3.out.mono (fun _ _ hf=>hf.elim)).trans M5.out.ch (fun i _ e=>e),?_⟩⟩
 ·have:=O5.out
  simpa [bl]using this
 ·rcases M5.out.at_ with e|⟨j,e,h⟩
  ·exact .inl e
  ·exact .inr ⟨j,e,Nat.le_trans N3.out.size h⟩
theorem DW {w:World} {D:Nat->Prop} (x:RV) (hx:x.ok w D) (hf:x.row.mid):
 Calls Tryz.prog 115 #[.agg #[.int .i64 x.row.kind,.int .i64 x.row.time,.slice x.A x.row.aB.length x.c,.string x.row.text,.int .i64 x.row.value,.bool x.row.null]] w fun e w'=>e=.returned (.bool (fA x.row))/\Nx w w':=by
 have HR:=ah (fun w' (c':Nx w w')=>DX (c:=x.c) (hx.1.nx (by decide) c') rfl hf.2 hf.1.1);obtain ⟨⟨kind,time,aB,text,value,null,maker,seq,place⟩,A1,c1⟩:=x;simp only at HR ⊢;obtain ⟨X,hX⟩:∃X,X=fA ⟨kind,time,aB,text,value,null,maker,seq,place⟩:=⟨_,rfl⟩;rw[←hX];unfold fA at hX;simp only at hX;have HX:=ah hX;clear hx hf hX;have B1:=ah (aG.new w 56 #[.int .i64 kind,.int .i64 time,.slice A1 aB.length c1,.string text,.int .i64 value,.bool null]);have N1:=ah ((Ch.refl (fun _=>False) w).alloc (.cells #[.int .i64 kind,.int .i64 time,.slice A1 aB.length c1,.string text,.int .i64 value,.bool null] 56));by_cases h1:0<=time
 ·by_cases h2:time<=1099511627775
  ·have HT:=ah (decide_eq_true (show 0<=time/\time<1099511627776 by omega))
   generalize aZ aB=rb at *;cases rb
   ·have HY:Hid (X=false):=ah (by rw[HX.out];simp)
    go_enter Tryz.func115,Tryz.ntmps115;go_wp2_with fail;refine (HR.out _ N1.out).mono ?_;rintro e w2 ⟨rfl,n2⟩;have N2:=ah (N1.out.tr n2);go_wp2_with fail;go_ret;exact ⟨by rw[HY.out];first|done|rfl,N2.out⟩
   ·have HY:Hid (X=(if kind=1 then decide (text.size<=200/\value=0)&& !null else if kind=2 then decide (text.size=0/\ -1152921504606846976<=value/\value<=1152921504606846976)&&(!null||decide (value=0)) else false)):=ah (by rw[HX.out,HT.out];rfl)
    go_enter Tryz.func115,Tryz.ntmps115;go_wp2_with fail;refine (HR.out _ N1.out).mono ?_;rintro e w2 ⟨rfl,n2⟩;have N2:=ah (N1.out.tr n2);have b2:=B1.out.nx n2;have q0:w2.cell? ⟨w.heap.size,0,none⟩=some (.int .i64 kind):=b2.cell 0;have q3:w2.cell? ⟨w.heap.size,3,none⟩=some (.string text):=b2.cell 3;have q4:w2.cell? ⟨w.heap.size,4,none⟩=some (.int .i64 value):=b2.cell 4;have q5:w2.cell? ⟨w.heap.size,5,none⟩=some (.bool null):=b2.cell 5;clear n2 b2
    have hts:text.size=0↔text.toList=[]:=by
     rw[←List.length_eq_zero_iff];have:text.toList.length=text.size:=by rw[ByteArray.toList_eq,Array.length_toList];rfl
     rw[this]
    by_cases ht:text.toList=[]
    all_goals
     have hsz:=hts;simp only[ht,iff_true,iff_false]at hsz;clear hts;cases null
    all_goals
     go_wp2_with fail
     all_goals
      first
      |(go_ret;refine ⟨?_,N2.out⟩;rw[HY.out];simp_all;done)
      |(go_ret;refine ⟨?_,N2.out⟩;rw[HY.out];congr 2;simp_all;omega)
  ·have HY:Hid (X=false):=ah (by rw[HX.out,decide_eq_false (show ¬(0<=time/\time<1099511627776) by omega)];rfl)
   go_enter Tryz.func115,Tryz.ntmps115;go_wp2_with fail;go_ret;exact ⟨by rw[HY.out];first|done|rfl,N1.out⟩
 ·have HY:Hid (X=false):=ah (by rw[HX.out,decide_eq_false (show ¬(0<=time/\time<1099511627776) by omega)];rfl)
  go_enter Tryz.func115,Tryz.ntmps115;go_wp2_with fail;go_ret;exact ⟨by rw[HY.out];first|done|rfl,N1.out⟩
end Go.Proofs.YtpakjclpjcngmaaGreat
namespace Go.Proofs.YtpakjclpjcngmaaGreat
theorem z2W (gs:List (List aA)) (g:List aA):aN (gs++[g])=aN gs++aF g:=by
 unfold aN;rw[List.flatMap_append,List.flatMap_cons,List.flatMap_nil,List.append_nil]
theorem z3N:∀(gs:List (List aA)) (a:Nat) (g:List aA),iw a (gs++[g])=iw a gs++[⟨((a+(aN gs).length:Nat):Int),(aF g).length,g.length,FQ g,lastT g⟩]
 |[],a,g=>rfl
 |x::gs,a,g=>by
  have e:a+(aF x).length+(aN gs).length=a+(aN (x::gs)).length:=by
   unfold aN;rw[List.flatMap_cons,List.length_append];omega
  rw[List.cons_append,iw,iw,z3N gs (a+(aF x).length) g,e,List.cons_append]
theorem EH (t:ByteArray) (gs:List (List aA)) (g:List aA):bU t 0 (gs++[g])=bU t 0 gs++if (g.any fun x=>decide (aT x=t))=true then [gs.length] else []:=by
 have e:∀i∈List.range gs.length,((gs++[g]).getD i []).any (fun x=>decide (aT x=t))=(gs.getD i []).any fun x=>decide (aT x=t):=fun i hi=>by
  rw[List.getD_eq_getElem?_getD,List.getD_eq_getElem?_getD,List.getElem?_append_left (List.mem_range.mp hi)]
 have e2:(gs++[g]).getD gs.length []=g:=by
  rw[List.getD_eq_getElem?_getD,List.getElem?_append_right (Nat.le_refl _),Nat.sub_self];rfl
 unfold bU;rw[List.length_append,List.length_singleton,List.range_succ,List.filter_append,List.map_append,List.filter_congr e];congr 1
 rw[List.filter_cons,e2];by_cases h:(g.any fun x=>decide (aT x=t))=true
 ·rw[if_pos h,if_pos h]
  rfl
 ·rw[if_neg h,if_neg h]
  rfl
end Go.Proofs.YtpakjclpjcngmaaGreat
