/- Contracts and plain laws that the last text rests on. Conditions: each theorem states its own. -/
import Derived.Test.YtdbfejfhpkakhaaGreatKeQ1
import Derived.Test.YtdbfejfhpkakhaaGreatKeQ2
import Derived.Laws.BytesArg
import Derived.Laws.BitsAllLaws
import Derived.Laws.BytesString
set_option maxRecDepth 100000
set_option linter.unusedVariables false
namespace Go.Proofs.YtdbfejfhpkakhaaGreat
open Go.RowKit
def bl (xs:List Nat):List Value:=xs.map fun x:Nat=>.int .u8 (x:Int)
def okB (xs:List Nat):Prop:=∀x∈xs,x<256
theorem z17 (xs:List Nat):(bl xs).length=xs.length:=by simp[bl]
theorem jv (xs:List Nat):∀u∈bl xs,u.oneCell'=true:=by
 intro u hu;simp only[bl,List.mem_map]at hu;obtain ⟨x,_,rfl⟩:=hu;rfl
theorem Un {xs:List Nat} (h:okB xs) (i:Nat):xs.getD i 0<256:=by
 by_cases hi:i<xs.length
 ·have e:xs.getD i 0=xs[i]:=by simp[List.getD,hi]
  rw[e];exact h _ (List.getElem_mem hi)
 ·rw[wX xs i 0 (by omega)];omega
theorem nN {xs:List Nat} {i:Nat} (h:i<xs.length):(bl xs)[i]?=some (.int .u8 (xs.getD i 0:Int)):=by
 simp[bl,List.getD,h]
theorem Tryz.info5:(Tryz.prog.info? 5).map (fun i=>(i.zero,i.size,i.bytes))=some (some (.int .u8 0),1,1):=by kernel_rfl
theorem z2M {w:World} {base:Nat} {e:TypeId} {size n:Nat} {v:Value} {xs:List Value} (h:w.ownsRow base e size v n xs) {g:Nat} (hb:v.ownBlock=some g):
 ∃cap,v=.slice (some ⟨g,0,none⟩) n cap/\n<=cap/\cap<=maxLen:=by
 rcases h.2 with ⟨rfl,_⟩|⟨g',cap,cur,rfl,_,_,h1,h2,_⟩
 ·simp[Value.ownBlock]at hb
 ·simp[Value.ownBlock]at hb
  subst hb;exact ⟨cap,rfl,h1,h2⟩
theorem XY {w w1:World} {e:TypeId} {size n:Nat} {v':Value} {xs:List Value}
 (hown:w1.ownsRow w.heap.size e size v' (0+n) ([]++xs)) (hg:(w.alloc (.cells #[] e)).grownBy w1 (Value.ownBlock (.slice (some ⟨w.heap.size,0,none⟩) 0 0)))
 (hat:v'.ownBlock=Value.ownBlock (.slice (some ⟨w.heap.size,0,none⟩) 0 0)∨v'.ownBlock=some (w.alloc (.cells #[] e)).heap.size):
 ∃k cap,v'=.slice (some ⟨k,0,none⟩) n cap/\w.heap.size<=k/\k<w1.heap.size/\Rd w1 (· =k) size (some ⟨k,0,none⟩) n xs/\Nx w w1/\w1.ownsRow w.heap.size e size (.slice (some ⟨k,0,none⟩) n cap) n xs:=by
 have hnx:Nx w w1:=((Ch.refl _ w).alloc _).grown hg (fun k hk hlt=>by simp[Value.ownBlock]at hk;omega)
 obtain ⟨k,hk,hk1⟩:∃k,v'.ownBlock=some k/\w.heap.size<=k:=by
  rcases hat with e|e
  ·exact ⟨_,e,Nat.le_refl _⟩
  ·exact ⟨_,e,by simp⟩
 simp only[Nat.zero_add,List.nil_append]at hown;obtain ⟨cap,hv,h1,h2⟩:=z2M hown hk;have hlt:=(hown.lt k hk).2;subst hv;refine ⟨k,cap,rfl,hk1,hlt,(Rd.dG hown).more ?_,hnx,hown⟩;rintro j ⟨hj,_⟩;simpa [Value.ownBlock]using hj.symm
def S_ (w:World) (xs:List Nat) (e:Ending) (w':World):Prop:=
 ∃k cap,e=.returned (.slice (some ⟨k,0,none⟩) xs.length cap)/\w.heap.size<=k/\k<w'.heap.size/\w'.ownsRow w.heap.size 5 1 (.slice (some ⟨k,0,none⟩) xs.length cap) xs.length (bl xs)/\
  Rd w' (· =k) 1 (some ⟨k,0,none⟩) xs.length (bl xs)/\Nx w w'
end Go.Proofs.YtdbfejfhpkakhaaGreat
namespace Go.Proofs.YtdbfejfhpkakhaaGreat
namespace Ps
def jP (n:Nat):UInt8:=UInt8.ofNat (if n<10 then 48+n else 87+n)
def Dl (c:UInt8):List UInt8:=if Pn c.toNat=true then [c] else [92,jP (c.toNat / 16),jP (c.toNat % 16)]
def fK (v:List UInt8):List UInt8:=v.flatMap Dl
def labT (x:bZ):List UInt8:=x.name.data.toList++61::34::(fK x.value.data.toList++[34])
def kQ (l:List bZ):List UInt8:=l.flatMap fun x=>44::labT x
def bodyT:List bZ->List UInt8
 |[]=>[]
 |x::r=>labT x++kQ r
def textF (l:List bZ):List UInt8:=123::(bodyT l++[125])
theorem FW (l:List bZ) (x:bZ):bodyT (l++[x])=bodyT l++((if l=[] then [] else [44])++labT x):=by
 cases l with
 |nil=>simp[bodyT,kQ]
 |cons y r=>simp[bodyT,kQ,List.flatMap_append]
theorem DT (v:List UInt8) (c:UInt8):fK (v++[c])=fK v++Dl c:=by
 unfold fK;rw[List.flatMap_append];simp
theorem Xl {l:List bZ} (h:gK l=true) {x:bZ} (hx:x∈l):aT x.name=true/\x.value.size<=16:=by
 obtain ⟨i,hi,rfl⟩:=List.mem_iff_getElem.1 hx;unfold gK at h;rw[Bool.and_eq_true,yH]at h;have h1:=h.2 i hi;unfold iC dL at h1;rw[List.getD_eq_getElem?_getD,List.getElem?_eq_getElem hi,Option.getD_some]at h1;simp only[Bool.and_eq_true,decide_eq_true_eq]at h1;exact ⟨h1.1.1,h1.1.2⟩
theorem RN (c:UInt8):(Dl c).length<=3:=by
 unfold Dl;split<;>simp
theorem TI:∀(v:List UInt8),(fK v).length<=3 * v.length
 |[]=>Nat.le_refl _
 |c::v=>by
  have:=RN c;have:=TI v;have e:fK (c::v)=Dl c++fK v:=(by simp[fK]);rw[e,List.length_append,List.length_cons];omega
theorem mO {x:bZ} (h:aT x.name=true) (h2:x.value.size<=16):(labT x).length<=59:=by
 have h1:=TI x.value.data.toList
 have hn:x.name.size<=8:=by
  unfold aT at h;rw[Bool.and_eq_true,decide_eq_true_eq]at h;exact h.1.2
 have e1:x.value.data.toList.length=x.value.size:=Array.length_toList ..;have e2:x.name.data.toList.length=x.name.size:=Array.length_toList ..;unfold labT;simp only[List.length_append,List.length_cons,List.length_nil];omega
theorem z32:∀{r:List bZ},(∀x∈r,aT x.name=true/\x.value.size<=16)->(kQ r).length<=60 * r.length
 |[],_=>Nat.le_refl _
 |x::r,h=>by
  have h1:=mO (h x List.mem_cons_self).1 (h x List.mem_cons_self).2;have h2:=z32 (r:=r) (fun y hy=>h y (List.mem_cons_of_mem _ hy));have e:kQ (x::r)=44::(labT x++kQ r):=(by simp[kQ]);rw[e];simp only[List.length_cons,List.length_append];omega
theorem GN {l:List bZ} (h:gK l=true):(textF l).length<=300:=by
 have h4:l.length<=4:=by
  unfold gK at h;rw[Bool.and_eq_true,decide_eq_true_eq]at h;exact h.1
 cases l with
 |nil=>decide
 |cons x r=>
  have h1:=mO (Xl h List.mem_cons_self).1 (Xl h List.mem_cons_self).2;have h2:=z32 (r:=r) (fun y hy=>Xl h (List.mem_cons_of_mem _ hy));simp only[List.length_cons]at h4;unfold textF bodyT;simp only[List.length_cons,List.length_append,List.length_nil];omega
/-! a part of a set -/
theorem lJ {l:List bZ}:gK l=true↔l.length<=4/\(∀x∈l,aT x.name=true/\x.value.size<=16)/\l.Pairwise (fun a b=>bC a.name b.name=true):=by
 rw[←En,Bool.and_eq_true,decide_eq_true_eq,yH]
 have g:∀i (hi:i<l.length),dL l i=l[i]:=fun i hi=>by
  unfold dL;rw[List.getD_eq_getElem?_getD,List.getElem?_eq_getElem hi,Option.getD_some]
 constructor
 ·rintro ⟨h1,h2⟩
  refine ⟨h1,fun x hx=>?_,?_⟩
  ·obtain ⟨i,hi,rfl⟩:=List.mem_iff_getElem.1 hx
   have:=h2 i hi;unfold ET at this;rw[g i hi]at this;simp only[Bool.and_eq_true,decide_eq_true_eq]at this;exact this.1
  ·rw[List.pairwise_iff_getElem]
   intro i j hi hj hij;have:=h2 j hj;unfold ET at this;simp only[Bool.and_eq_true,decide_eq_true_eq]at this;have h3:=yH.1 this.2 i hij;rw[g i hi,g j hj]at h3;exact h3
 ·rintro ⟨h1,h2,h3⟩
  refine ⟨h1,fun i hi=>?_⟩;unfold ET;rw[g i hi];simp only[Bool.and_eq_true,decide_eq_true_eq];refine ⟨h2 _ (List.getElem_mem hi),yH.2 fun k hk=>?_⟩;rw[g k (by omega)];exact List.pairwise_iff_getElem.1 h3 k i (by omega) hi hk
def inB (aK:List ByteArray) (x:ByteArray):Bool:=aK.any fun y=>decide (y=x)
theorem Nb {aK:List ByteArray} {x:ByteArray}:inB aK x=true↔x∈aK:=by
 unfold inB;rw[List.any_eq_true];constructor
 ·rintro ⟨y,hy,e⟩
  rw[decide_eq_true_iff]at e;exact e▸hy
 ·intro h
  exact ⟨x,h,decide_eq_true rfl⟩
def bJ (l:List bZ) (aK:List ByteArray):List bZ:=l.filter fun x=>inB aK x.name
theorem lI {l:List bZ} (h:gK l=true) (aK:List ByteArray):gK (bJ l aK)=true:=by
 obtain ⟨h1,h2,h3⟩:=lJ.1 h;refine lJ.2 ⟨?_,fun x hx=>h2 x (List.mem_filter.1 hx).1,h3.filter _⟩;have:=List.length_filter_le (fun x:bZ=>inB aK x.name) l;unfold bJ;omega
end Ps
section
variable {α : Type} {lt : α → α → Bool}
structure Runs (lt:α->α->Bool) (P A B S:List (Tg α)):Prop where
 sa:A.Pairwise (Rt lt)
 sb:B.Pairwise (Rt lt)
 tg:∀x∈A,∀y∈B,x.tag<y.tag
def kF (lt:α->α->Bool) (A B C:List (Tg α)):Prop:=C.Perm (A++B)/\C.Pairwise (Rt lt)
theorem kF.left {A:List (Tg α)} (h:A.Pairwise (Rt lt)):kF lt A [] A:=⟨by rw[List.append_nil],h⟩
theorem kF.right {A:List (Tg α)} (h:A.Pairwise (Rt lt)):kF lt [] A A:=⟨by rw[List.nil_append],h⟩
theorem DZ (w:Weak lt) {P A B S:List (Tg α)} (h:Runs lt P A B S) {m b mid start end_:Nat} (hm:P.length+A.length=m) (hb:m+B.length=b) (qL:2 * mid<=P.length+b) (wM:P.length+b<=2 * mid+1) (he:end_+start=mid+m) (h1:P.length<=start) (h2:start<=m) (h3:m<=end_) (h4:end_<=b)
 (hlo:∀(hs:P.length<start) (he:end_<b),∃x y,(P++A++B++S)[start-1]?=some x/\(P++A++B++S)[end_]?=some y/\Rt lt x y)
 (hhi:∀(hs:start<m) (he:m<end_),∃x y,(P++A++B++S)[end_-1]?=some x/\(P++A++B++S)[start]?=some y/\Rt lt x y):
 ∃A1 A2 B1 B2:List (Tg α),A=A1++A2/\B=B1++B2/\A1.length=start-P.length/\A2.length=m-start/\B1.length=end_-m/\B2.length=b-end_/\rotL (P++A++B++S) start m end_=P++(A1++B1)++(A2++B2)++S/\(∀x∈A1++B1,∀y∈A2++B2,Rt lt x y):=by
 refine ⟨A.take (start-P.length),A.drop (start-P.length),B.take (end_-m),B.drop (end_-m),(List.take_append_drop _ _).symm,(List.take_append_drop _ _).symm,by simp;omega,by simp;omega,by simp;omega,by simp;omega,?_,?_⟩
 ·obtain ⟨A1,A2,rfl,hA⟩:∃A1 A2:List (Tg α),A=A1++A2/\A1.length=start-P.length:=⟨_,_,(List.take_append_drop (start-P.length) A).symm,by simp;omega⟩
  obtain ⟨B1,B2,rfl,hB⟩:∃B1 B2:List (Tg α),B=B1++B2/\B1.length=end_-m:=⟨_,_,(List.take_append_drop (end_-m) B).symm,by simp;omega⟩;rw[List.length_append]at hm hb;have e1:(A1++A2).take (start-P.length)=A1:=by rw[←hA,List.take_left]
  have e2:(A1++A2).drop (start-P.length)=A2:=by rw[←hA,List.drop_left]
  have e3:(B1++B2).take (end_-m)=B1:=by rw[←hB,List.take_left]
  have e4:(B1++B2).drop (end_-m)=B2:=by rw[←hB,List.drop_left]
  rw[e1,e2,e3,e4];have hr:=TB (P++A1) A2 B1 (B2++S);rw[show P++(A1++A2)++(B1++B2)++S=P++A1++A2++B1++(B2++S) by simp only[List.append_assoc],show start=(P++A1).length by rw[List.length_append];omega,show m=(P++A1).length+A2.length by rw[List.length_append];omega,show end_=(P++A1).length+A2.length+B1.length by rw[List.length_append];omega,hr];simp only[List.append_assoc]
 ·refine Ec w (by rw[List.take_append_drop];exact h.sa) (by rw[List.take_append_drop];exact h.sb) (fun hA hB=>?_) (fun hB hA=>?_)
  ·have hA':=List.length_pos_iff.2 hA
   have hB':=List.length_pos_iff.2 hB;rw[List.length_take]at hA';rw[List.length_drop]at hB';obtain ⟨x,y,hx,hy,hxy⟩:=hlo (by omega) (by omega)
   have ex:x=(A.take (start-P.length)).getLast hA:=by
    rw[List.getLast_eq_getElem,List.getElem_take];rw[List.append_assoc,List.append_assoc,List.getElem?_append_right (by omega),List.getElem?_append_left (by omega),List.getElem?_eq_getElem (by omega)]at hx;injection hx with hx;rw[←hx];congr 1
    rw[List.length_take];omega
   have ey:y=(B.drop (end_-m)).head hB:=by
    rw[List.head_eq_getElem,List.getElem_drop];rw[List.append_assoc,List.append_assoc,List.getElem?_append_right (by omega),List.getElem?_append_right (by omega),List.getElem?_append_left (by omega),List.getElem?_eq_getElem (by omega)]at hy;injection hy with hy;rw[←hy];congr 1
    try omega
   rw[←ex,←ey];exact hxy
  ·have hA':=List.length_pos_iff.2 hA
   have hB':=List.length_pos_iff.2 hB;rw[List.length_drop]at hA';rw[List.length_take]at hB';obtain ⟨x,y,hx,hy,hxy⟩:=hhi (by omega) (by omega)
   have ex:x=(B.take (end_-m)).getLast hB:=by
    rw[List.getLast_eq_getElem,List.getElem_take];rw[List.append_assoc,List.append_assoc,List.getElem?_append_right (by omega),List.getElem?_append_right (by omega),List.getElem?_append_left (by omega),List.getElem?_eq_getElem (by omega)]at hx;injection hx with hx;rw[←hx];congr 1
    rw[List.length_take];omega
   have ey:y=(A.drop (start-P.length)).head hA:=by
    rw[List.head_eq_getElem,List.getElem_drop];rw[List.append_assoc,List.append_assoc,List.getElem?_append_right (by omega),List.getElem?_append_left (by omega),List.getElem?_eq_getElem (by omega)]at hy;injection hy with hy;rw[←hy];congr 1
    try omega
   rw[←ex,←ey];exact hxy
theorem Runs.one {P A1 A2 B1 B2 S P' S':List (Tg α)} (h:Runs lt P (A1++A2) (B1++B2) S):Runs lt P' A1 B1 S':=
 ⟨(List.pairwise_append.1 h.sa).1,(List.pairwise_append.1 h.sb).1,fun x hx y hy=>h.tg x (List.mem_append_left _ hx) y (List.mem_append_left _ hy)⟩
theorem Runs.two {P A1 A2 B1 B2 S P' S':List (Tg α)} (h:Runs lt P (A1++A2) (B1++B2) S):Runs lt P' A2 B2 S':=
 ⟨(List.pairwise_append.1 h.sa).2.1,(List.pairwise_append.1 h.sb).2.1,fun x hx y hy=>h.tg x (List.mem_append_right _ hx) y (List.mem_append_right _ hy)⟩
theorem kF.both {A1 A2 B1 B2 C1 C2:List (Tg α)} (h1:kF lt A1 B1 C1) (h2:kF lt A2 B2 C2) (ha:∀x∈A1++B1,∀y∈A2++B2,Rt lt x y):kF lt (A1++A2) (B1++B2) (C1++C2):=
 halves h1.1 h2.1 h1.2 h2.2 ha
theorem vW (w:Weak lt) {x:Tg α} {B:List (Tg α)} {k:Nat} (hk:k<=B.length) (sb:B.Pairwise (Rt lt)) (h1:0<k->∃y,B[k-1]?=some y/\Rt lt y x) (h2:k<B.length->∃y,B[k]?=some y/\Rt lt x y):kF lt [x] B (B.take k++[x]++B.drop k):=by
 refine ⟨?_,Yv w (by rw[List.take_append_drop];exact sb) (fun y hy=>?_) (fun y hy=>?_)⟩
 ·conv=>rhs;rw[←List.take_append_drop k B]
  rw[List.append_assoc,List.singleton_append];exact List.perm_middle
 ·obtain ⟨i,hi,rfl⟩:=List.mem_iff_getElem.1 hy
  rw[List.length_take]at hi;rw[List.getElem_take];obtain ⟨z,hz,hzx⟩:=h1 (by omega);rw[List.getElem?_eq_getElem (by omega)]at hz;injection hz with hz;by_cases e:i=k-1
  ·subst e;rw[hz];exact hzx
  ·have:=List.pairwise_iff_getElem.1 sb i (k-1) (by omega) (by omega) (by omega)
   rw[hz]at this;exact this.trans w hzx
 ·obtain ⟨i,hi,rfl⟩:=List.mem_iff_getElem.1 hy
  rw[List.length_drop]at hi;rw[List.getElem_drop];obtain ⟨z,hz,hzx⟩:=h2 (by omega);rw[List.getElem?_eq_getElem (by omega)]at hz;injection hz with hz;by_cases e:i=0
  ·subst e;rw[show B[k+0]=z from hz];exact hzx
  ·have:=List.pairwise_iff_getElem.1 sb k (k+i) (by omega) (by omega) (by omega)
   rw[hz]at this;exact hzx.trans w this
theorem Ez (w:Weak lt) {x:Tg α} {A:List (Tg α)} {k:Nat} (hk:k<=A.length) (sa:A.Pairwise (Rt lt)) (h1:0<k->∃y,A[k-1]?=some y/\Rt lt y x) (h2:k<A.length->∃y,A[k]?=some y/\Rt lt x y):kF lt A [x] (A.take k++[x]++A.drop k):=by
 have h:=vW w hk sa h1 h2;exact ⟨h.1.trans List.perm_append_comm,h.2⟩
theorem zM (P S B:List (Tg α)) (x:Tg α) (k:Nat) (hk:k<B.length):fJ (P++(B.take k++[x]++B.drop k)++S) (P.length+k) (P.length+k+1)=P++(B.take (k+1)++[x]++B.drop (k+1))++S:=by
 have e:=yT (P++B.take k) (B.drop (k+1)++S) x B[k];rw[List.length_append,List.length_take,show min k B.length=k by omega]at e;rw[List.drop_eq_getElem_cons hk,List.take_succ_eq_append_getElem hk];simp only[List.append_assoc,List.cons_append,List.nil_append]at e ⊢;exact e
theorem EI (P S A:List (Tg α)) (x:Tg α) (k:Nat) (hk:k<A.length):fJ (P++(A.take (k+1)++[x]++A.drop (k+1))++S) (P.length+k+1) (P.length+k)=P++(A.take k++[x]++A.drop k)++S:=by
 have e:=kS (P++A.take k) (A.drop (k+1)++S) A[k] x;rw[List.length_append,List.length_take,show min k A.length=k by omega]at e;rw[List.drop_eq_getElem_cons hk,List.take_succ_eq_append_getElem hk];simp only[List.append_assoc,List.cons_append,List.nil_append]at e ⊢;exact e
end
end Go.Proofs.YtdbfejfhpkakhaaGreat
namespace Go.Proofs.YtdbfejfhpkakhaaGreat
open Go.RowKit
def kT (xs:List Nat):ByteArray:=⟨(xs.map UInt8.ofNat).toArray⟩
theorem qc (xs:List Nat):(kT xs).size=xs.length:=by simp[kT,ByteArray.size]
theorem lD {P:Program} (w:World) (src dst e:TypeId) (hs:P.underlying src=some (.slice e)) (he:P.underlying e=some (.int .u8)) (hd:P.underlying dst=some .string)
 (D:Nat->Prop) (A:Option Addr) (n c:Nat) (xs:List Nat) (h:Rd w D 1 A n (bl xs)):
 (convert src dst (.slice A n c)).run P w=.ok (.string (kT xs)) w:=by
 have hlen:xs.length=n:=by have:=h.1;rw[z17]at this;omega
 rw[run_convert_bytes_string w src dst e _ n c hs he hd];have e0:bl xs=(xs.map fun x:Nat=>(x:Int)).map (Value.int .u8):=by simp[bl]
 have fin:∀a:Addr,(loadCells a n).run P w=.ok (bl xs).toArray w->(Conv.bytesToString (.slice (some a) n c)).run P w=.ok (.string (kT xs)) w:=by
  intro a hl;rw[e0]at hl;rw[run_bytesToString w a n c _ hl,foldl_push_bytes];congr 2
  simp[kT,ByteArray.empty,ByteArray.emptyWithCapacity];rfl
 rcases A with _|a
 ·have:n=0:=by
   rcases Nat.eq_zero_or_pos n with h0|h0
   ·exact h0
   ·obtain ⟨_,h,_⟩:=h.2 h0;cases h
  subst this;have:xs=[]:=List.eq_nil_of_length_eq_zero hlen;subst this;simp[Conv.bytesToString,kT];rfl
 ·refine fin a ?_
  have:=run_loadCells_list (P:=P) w a (bl xs) (fun j v hj=>by
   rcases Nat.eq_zero_or_pos n with h0|h0
   ·subst h0
    have:xs=[]:=List.eq_nil_of_length_eq_zero hlen;subst this;simp[bl]at hj
   ·obtain ⟨a',e,_,hc⟩:=h.2 h0
    injection e with e;subst e;exact hc j v hj)
  rw[z17,hlen]at this;exact this
end Go.Proofs.YtdbfejfhpkakhaaGreat
namespace Go.Proofs.YtdbfejfhpkakhaaGreat
open Ps
def Fa:ByteArray:=⟨#[48,49,50,51,52,53,54,55,56,57,97,98,99,100,101,102]⟩
theorem CV {n:Nat} (h:n<16):Fa[n]'h=jP n:=by
 have:∀n:Fin 16,Fa[n.val]'n.isLt=jP n.val:=by decide
 exact this ⟨n,h⟩
end Go.Proofs.YtdbfejfhpkakhaaGreat
namespace Go.Proofs.YtdbfejfhpkakhaaGreat
def I_ (s:Nat):Nat:=if s<144 then 48+s else if s<256 then 256+s else if s<280 then s-256 else s-88
def EO (s:Nat):Nat:=if s<144 then 8 else if s<256 then 9 else if s<280 then 7 else 8
def jL (s:Nat):List Bool:=DL (I_ s) (EO s)
def yC (b m:Nat):Nat->Nat->Nat
 |0,x=>x
 |f+1,x=>if b * 2 ^ x<=m then yC b m f (x+1) else x
def mF (m:Nat):Nat:=yC 8 m 9 1
def ji (e:Nat):Nat:=yC 4 e 20 0
def yI (n:Nat):List Bool:=
 if n=258 then jL 285 else if n<11 then jL (254+n) else jL (257+4 * mF (n-3)+(n-3) / 2 ^ mF (n-3))++yJ (n-3) (mF (n-3))
def Gy (e:Nat):List Bool:=if e<2 then DL e 5 else DL (2 * ji e+e / 2 ^ ji e) 5++yJ e (ji e)
def uK (t:Tok):List Bool:=if t.len=0 then jL t.byte else yI t.len++Gy (t.dist-1)
def uq (l:List Tok):List Bool:=yJ 3 3++l.flatMap uK
def jS (l:List Tok):List Bool:=uq l++jL 256
theorem GK {b m:Nat}:∀f x,x<=yC b m f x/\yC b m f x<=x+f:=by
 intro f;induction f with
 |zero=>intro x;exact ⟨Nat.le_refl _,Nat.le_refl _⟩
 |succ f ih=>
  intro x;unfold yC;split
  ·have:=ih (x+1);omega
  ·omega
def lH (n:Nat):Nat:=[0,0x1db71064,0x3b6e20c8,0x26d930ac,0x76dc4190,0x6b6b51f4,0x4db26158,0x5005713c,0xedb88320,0xf00f9344,0xd6d6a3e8,0xcb61b38c,0x9b64c2b0,0x86d3d2d4,0xa00ae278,0xbdbdf21c].getD n 0
def zJ (c:Nat):Nat:=c / 16 ^^^ lH (c % 16)
def BI (c x:Nat):Nat:=zJ (zJ (c ^^^ x))
def jf (c:Nat) (xs:List Nat):Nat:=xs.foldl BI c
def sumF (xs:List Nat):Nat:=4294967295-jf 4294967295 xs
theorem sF (n:Nat):lH n<4294967296:=by
 by_cases h:n<16
 ·have:∀n,n<16->lH n<4294967296:=by decide
  exact this n h
 ·unfold lH
  rw[List.getD_eq_getElem?_getD,List.getElem?_eq_none (by simp;omega)];decide
theorem jU {c:Nat} (h:c<4294967296):zJ c<4294967296:=Nat.xor_lt_two_pow (n:=32) (by omega) (sF _)
theorem Ht {c x:Nat} (h:c<4294967296) (hx:x<256):BI c x<4294967296:=jU (jU (Nat.xor_lt_two_pow (n:=32) h (by omega)))
theorem Me {xs:List Nat}:∀{c:Nat},c<4294967296->okB xs->jf c xs<4294967296:=by
 induction xs with
 |nil=>intro c h _;exact h
 |cons x xs ih=>
  intro c h ok;exact ih (Ht h (ok x (by simp))) fun y hy=>ok y (by simp[hy])
theorem Il (c:Nat) (xs ys:List Nat):jf c (xs++ys)=jf (jf c xs) ys:=by simp[jf,List.foldl_append]
theorem LM (xs:List Nat):sumF xs<4294967296:=by unfold sumF;omega
def four (n:Nat):List Nat:=[n % 256,n / 256 % 256,n / 65536 % 256,n / 16777216 % 256]
def iw (xs:List Nat):List Nat:=xs++four (sumF xs)
theorem z1n (xs:List Nat):(iw xs).length=xs.length+4:=by simp[iw,four]
def IC (b:List Nat):Prop:=4<=b.length/\b.drop (b.length-4)=four (sumF (b.take (b.length-4)))
instance (b:List Nat):Decidable (IC b):=by unfold IC;exact inferInstance
def cnt (zs:List Int) (m:Nat):Nat:=zs.count (m:Int)
def Qv (zs:List Int) (m k:Nat):List Int:=((List.range k).filter fun s=>zs.getD s 0==(m:Int)).map fun s:Nat=>(s:Int)
def sorted (zs:List Int):Nat->List Int
 |0=>[]
 |j+1=>sorted zs j++Qv zs (j+1) zs.length
end Go.Proofs.YtdbfejfhpkakhaaGreat
