/- Contracts and plain laws that the last text rests on. Conditions: each theorem states its own. -/
import Derived.Test.YtdbfejfhpkakhaaGreatKKd2Q1
import Derived.Laws.BytesArg
import Derived.Laws.BitsAllLaws
import Derived.Laws.BytesString
set_option maxRecDepth 100000
set_option linter.unusedVariables false
set_option linter.unusedSimpArgs false
namespace Go.Proofs.YtdbfejfhpkakhaaGreat
open Go.RowKit
def bl (xs:List Nat):List Value:=xs.map fun x:Nat=>.int .u8 (x:Int)
def okB (xs:List Nat):Prop:=∀x∈xs,x<256
theorem Rh (xs:List Nat):(bl xs).length=xs.length:=by simp[bl]
theorem jk (xs:List Nat):∀u∈bl xs,u.oneCell'=true:=by
 intro u hu;simp only[bl,List.mem_map]at hu;obtain ⟨x,_,rfl⟩:=hu;rfl
theorem WO {xs:List Nat} (h:okB xs) (i:Nat):xs.getD i 0<256:=by
 by_cases hi:i<xs.length
 ·have e:xs.getD i 0=xs[i]:=by simp[List.getD,hi]
  rw[e];exact h _ (List.getElem_mem hi)
 ·rw[xQ xs i 0 (by omega)];omega
theorem nU {xs:List Nat} {i:Nat} (h:i<xs.length):(bl xs)[i]?=some (.int .u8 (xs.getD i 0:Int)):=by
 simp[bl,List.getD,h]
theorem Tryz.info5:(Tryz.prog.info? 5).map (fun i=>(i.zero,i.size,i.bytes))=some (some (.int .u8 0),1,1):=by kernel_rfl
theorem z2V {w:World} {base:Nat} {e:TypeId} {size n:Nat} {v:Value} {xs:List Value} (h:w.ownsRow base e size v n xs) {g:Nat} (hb:v.ownBlock=some g):
 ∃cap,v=.slice (some ⟨g,0,none⟩) n cap/\n<=cap/\cap<=maxLen:=by
 rcases h.2 with ⟨rfl,_⟩|⟨g',cap,cur,rfl,_,_,h1,h2,_⟩
 ·simp[Value.ownBlock]at hb
 ·simp[Value.ownBlock]at hb
  subst hb;exact ⟨cap,rfl,h1,h2⟩
theorem Y_ {w w1:World} {e:TypeId} {size n:Nat} {v':Value} {xs:List Value}
 (hown:w1.ownsRow w.heap.size e size v' (0+n) ([]++xs)) (hg:(w.alloc (.cells #[] e)).grownBy w1 (Value.ownBlock (.slice (some ⟨w.heap.size,0,none⟩) 0 0)))
 (hat:v'.ownBlock=Value.ownBlock (.slice (some ⟨w.heap.size,0,none⟩) 0 0)∨v'.ownBlock=some (w.alloc (.cells #[] e)).heap.size):
 ∃k cap,v'=.slice (some ⟨k,0,none⟩) n cap/\w.heap.size<=k/\k<w1.heap.size/\Rd w1 (· =k) size (some ⟨k,0,none⟩) n xs/\Nx w w1/\w1.ownsRow w.heap.size e size (.slice (some ⟨k,0,none⟩) n cap) n xs:=by
 have hnx:Nx w w1:=((Ch.refl _ w).alloc _).grown hg (fun k hk hlt=>by simp[Value.ownBlock]at hk;omega)
 obtain ⟨k,hk,hk1⟩:∃k,v'.ownBlock=some k/\w.heap.size<=k:=by
  rcases hat with e|e
  ·exact ⟨_,e,Nat.le_refl _⟩
  ·exact ⟨_,e,by simp⟩
 simp only[Nat.zero_add,List.nil_append]at hown;obtain ⟨cap,hv,h1,h2⟩:=z2V hown hk;have hlt:=(hown.lt k hk).2;subst hv;refine ⟨k,cap,rfl,hk1,hlt,(Rd.bW hown).more ?_,hnx,hown⟩;rintro j ⟨hj,_⟩;simpa [Value.ownBlock]using hj.symm
def VA (w:World) (xs:List Nat) (e:Ending) (w':World):Prop:=
 ∃k cap,e=.returned (.slice (some ⟨k,0,none⟩) xs.length cap)/\w.heap.size<=k/\k<w'.heap.size/\w'.ownsRow w.heap.size 5 1 (.slice (some ⟨k,0,none⟩) xs.length cap) xs.length (bl xs)/\
  Rd w' (· =k) 1 (some ⟨k,0,none⟩) xs.length (bl xs)/\Nx w w'
end Go.Proofs.YtdbfejfhpkakhaaGreat
namespace Go.Proofs.YtdbfejfhpkakhaaGreat
structure bT where
 name:ByteArray
 value:ByteArray
structure Mat where
 name:ByteArray
 way:Int
 value:ByteArray
structure aC where
 kind:Int
 time:Int
 ak:List bT
 text:ByteArray
 value:Int
 null:Bool
 maker:Int
 seq:Int
 place:Int
structure QryE where
 lo:Int
 hi:Int
 ms:List Mat
 limit:Int
 texts:Bool
def bD (a b:ByteArray):Bool:=decide (a.data.toList<b.data.toList)
theorem Zd {a b c:ByteArray} (h:bD a b=true) (k:bD b c=true):bD a c=true:=by
 unfold bD at *;rw[decide_eq_true_iff]at *;exact List.lt_trans h k
theorem YW (a:ByteArray):bD a a=false:=by
 unfold bD;rw[decide_eq_false_iff_not];exact List.lt_irrefl _
def fU (c i:Nat):Bool:=decide (97<=c/\c<=122)||(decide (0<i)&&(decide (48<=c/\c<=57)||decide (c=95)))
def jD (s:ByteArray) (i:Nat):Nat:=(s.data[i]?.getD 0).toNat
def bK (s:ByteArray):Bool:=decide (1<=s.size/\s.size<=8)&&(List.range s.size).all fun i=>fU (jD s i) i
def dR (l:List bT) (i:Nat):bT:=l.getD i ⟨⟨#[]⟩,⟨#[]⟩⟩
def iL (l:List bT) (i:Nat):Bool:=bK (dR l i).name&&decide ((dR l i).value.size<=16)&&(decide (i=0)||bD (dR l (i-1)).name (dR l i).name)
def gQ (l:List bT):Bool:=decide (l.length<=4)&&(List.range l.length).all fun i=>iL l i
def dN (x y:aC):Bool:=decide (x.time<y.time∨(x.time=y.time/\(x.maker<y.maker∨(x.maker=y.maker/\(x.seq<y.seq∨(x.seq=y.seq/\x.place<y.place))))))
theorem z35:Weak dN:=by
 refine ⟨fun x y h=>?_,fun x y z h k=>?_,fun x y z h k=>?_⟩
 ·unfold dN at *
  rw[decide_eq_true_iff]at h;rw[decide_eq_false_iff_not];omega
 ·unfold dN at *
  rw[decide_eq_true_iff]at *;omega
 ·unfold dN at *
  rw[decide_eq_false_iff_not]at *;omega
/-! the document's forms -/
theorem Dh {n:Nat} {p:Nat->Bool}:((List.range n).all p=true)↔∀i,i<n->p i=true:=by
 rw[List.all_eq_true];exact ⟨fun h i hi=>h i (List.mem_range.2 hi),fun h i hi=>h i (List.mem_range.1 hi)⟩
def GI (l:List bT) (i:Nat):Bool:=bK (dR l i).name&&decide ((dR l i).value.size<=16)&&(List.range i).all fun k=>bD (dR l k).name (dR l i).name
theorem FP (l:List bT):(decide (l.length<=4)&&(List.range l.length).all fun i=>GI l i)=gQ l:=by
 unfold gQ;congr 1
 rw[Bool.eq_iff_iff,Dh,Dh];constructor
 ·intro h i hi
  have:=h i hi;unfold GI at this;unfold iL;simp only[Bool.and_eq_true,decide_eq_true_eq,Dh]at this;simp only[Bool.and_eq_true,decide_eq_true_eq,Bool.or_eq_true];refine ⟨this.1,?_⟩;by_cases e:i=0
  ·exact .inl e
  ·exact .inr (this.2 (i-1) (by omega))
 ·intro h i hi
  have hi':=h i hi;unfold iL at hi';simp only[Bool.and_eq_true,decide_eq_true_eq,Bool.or_eq_true]at hi';unfold GI;simp only[Bool.and_eq_true,decide_eq_true_eq,Dh];refine ⟨hi'.1,?_⟩
  have H:∀d k,k+d+1=i->bD (dR l k).name (dR l i).name=true:=by
   intro d;induction d with
   |zero=>
    intro k hk;rcases hi'.2 with e|e
    ·omega
    ·rw[show i-1=k by omega]at e;exact e
   |succ d ih=>
    intro k hk;have hk1:=h (k+1) (by omega);unfold iL at hk1;simp only[Bool.and_eq_true,decide_eq_true_eq,Bool.or_eq_true]at hk1;rcases hk1.2 with e|e
    ·omega
    ·rw[Nat.add_sub_cancel]at e
     exact Zd e (ih (k+1) (by omega))
  intro k hk;exact H (i-k-1) k (by omega)
namespace Ps
def zk (c:Nat):Bool:=decide (32<=c/\c<=126/\c≠34/\c≠92)
def Zo (c:Nat):Option Nat:=if 48<=c/\c<=57 then some (c-48) else if 97<=c/\c<=102 then some (c-87) else none
def jW:List UInt8->Option (UInt8×Nat)
 |[]=>none
 |c::r=>if c.toNat=92 then (match r with
   |a::b::_=>match Zo a.toNat,Zo b.toNat with
    |some x,some y=>if zk (16 * x+y)=true then none else some (UInt8.ofNat (16 * x+y),3)
    |_,_=>none
   |_=>none) else if zk c.toNat=true then some (c,1) else none
def sN:Nat->List UInt8->Option (List UInt8×List UInt8)
 |0,_=>none
 |_+1,[]=>none
 |f+1,c::r=>if c.toNat=34 then some ([],r) else match jW (c::r) with
  |none=>none
  |some (b,n)=>(sN f ((c::r).drop n)).map fun p=>(b::p.1,p.2)
def iH (x:List UInt8):Option (List UInt8×List UInt8):=sN (x.length+1) x
theorem z34 {x:List UInt8} {b:UInt8} {n:Nat} (h:jW x=some (b,n)):1<=n/\n<=x.length:=by
 unfold jW at h;split at h
 ·cases h
 ·split at h
  ·split at h
   ·split at h
    ·split at h
     ·cases h
     ·injection h with h
      injection h with _ h;subst h;simp
    ·cases h
   ·cases h
  ·split at h
   ·injection h with h
    injection h with _ h;subst h;simp
   ·cases h
theorem qj:∀(f g:Nat) (x:List UInt8),x.length<f->x.length<g->sN f x=sN g x
 |0,_,x,h,_=>by omega
 |_,0,x,_,h=>by omega
 |f+1,g+1,[],_,_=>rfl
 |f+1,g+1,c::r,h1,h2=>by
  unfold sN;split
  ·rfl
  ·cases ho:jW (c::r) with
   |none=>rfl
   |some p=>
    obtain ⟨b,n⟩:=p;obtain ⟨l1,l2⟩:=z34 ho;simp only;rw[qj f g ((c::r).drop n) (by rw[List.length_drop];omega) (by rw[List.length_drop];omega)]
theorem Ja:iH []=none:=rfl
theorem lq {c:UInt8} (r:List UInt8) (h:c.toNat=34):iH (c::r)=some ([],r):=by
 unfold iH sN;rw[if_pos h]
theorem lu {c:UInt8} {r:List UInt8} (h:c.toNat≠34) (ho:jW (c::r)=none):iH (c::r)=none:=by
 unfold iH sN;rw[if_neg h,ho]
theorem lg {c:UInt8} {r:List UInt8} {b:UInt8} {n:Nat} (h:c.toNat≠34) (ho:jW (c::r)=some (b,n)):iH (c::r)=(iH ((c::r).drop n)).map fun p=>(b::p.1,p.2):=by
 obtain ⟨l1,l2⟩:=z34 ho;have e:sN (c::r).length ((c::r).drop n)=iH ((c::r).drop n):=qj _ _ _ (by rw[List.length_drop];simp only[List.length_cons]at *;omega) (by omega);rw[←e];conv=>lhs;unfold iH sN
 rw[if_neg h,ho]
theorem wR {c:UInt8} {r:List UInt8}:jW (c::(r++[125]))=jW (c::r):=by
 unfold jW;simp only;split
 ·cases r with
  |nil=>rfl
  |cons a r=>cases r with
   |nil=>
    simp only[List.nil_append,List.cons_append];have e:Zo (125:UInt8).toNat=none:=(by decide);rw[e];cases Zo a.toNat<;>rfl
   |cons b r=>rfl
 ·rfl
theorem vP:∀(k:Nat) (x:List UInt8),x.length<=k->iH (x++[125])=(iH x).map fun p=>(p.1,p.2++[125])
 |k,[],_=>by decide
 |0,c::r,h=>by simp at h
 |k+1,c::r,h=>by
  by_cases hc:c.toNat=34
  ·rw[List.cons_append,lq _ hc,lq _ hc]
   rfl
  ·cases ho:jW (c::r) with
   |none=>rw[List.cons_append,lu hc (by rw[wR];exact ho),lu hc ho];rfl
   |some p=>
    obtain ⟨b,n⟩:=p;obtain ⟨l1,l2⟩:=z34 ho;have ho2:jW (c::(r++[125]))=some (b,n):=by rw[wR];exact ho
    rw[List.cons_append,lg hc ho2,lg hc ho,←List.cons_append,List.drop_append_of_le_length l2,vP k ((c::r).drop n) (by rw[List.length_drop];simp only[List.length_cons]at *;omega),Option.map_map,Option.map_map];rfl
theorem Dn:∀(k:Nat) (x v r:List UInt8),x.length<=k->iH x=some (v,r)->r.length<x.length
 |k,[],v,r,_,h=>by rw[Ja]at h;cases h
 |0,c::y,v,r,h,_=>by simp at h
 |k+1,c::y,v,r,hk,h=>by
  by_cases hc:c.toNat=34
  ·rw[lq _ hc]at h
   injection h with h;injection h with _ h;subst h;simp
  ·cases ho:jW (c::y) with
   |none=>rw[lu hc ho]at h;cases h
   |some p=>
    obtain ⟨b,n⟩:=p;obtain ⟨l1,l2⟩:=z34 ho;rw[lg hc ho]at h;cases hv:iH ((c::y).drop n) with
    |none=>rw[hv]at h;cases h
    |some q=>
     rw[hv]at h;obtain ⟨v',r'⟩:=q;injection h with h;injection h with _ h;simp only at h;subst h;have:=Dn k _ _ _ (by rw[List.length_drop];simp only[List.length_cons]at *;omega) hv;rw[List.length_drop]at this;omega
def jw:List UInt8->Option (List UInt8)
 |a::b::y=>if a.toNat=61/\b.toNat=34 then some y else none
 |_=>none
def jX:List UInt8->Option Nat
 |[]=>none
 |a::r=>if (jw (a::r)).isSome then some 0 else (jX r).map (· +1)
def ng (c:UInt8):Bool:=fU c.toNat 1
def fF (l:List UInt8):ByteArray:=⟨l.toArray⟩
def comma:List UInt8->Option (List UInt8)
 |[]=>none
 |c::r=>if c.toNat=44 then some r else none
def wI:Nat->List UInt8->List bT->Option (List bT)
 |0,_,_=>none
 |f+1,x,out=>if x=[] then (if gQ out=true then some out else none) else
  match (if out=[] then some x else comma x) with
  |none=>none
  |some y=>match jX y with
   |none=>none
   |some n=>if 4<out.length then none else match iH (y.drop (n+2)) with
    |none=>none
    |some (v,r)=>wI f r (out++[⟨fF (y.take n),fF v⟩])
def BL (x:List UInt8) (out:List bT):Option (List bT):=if x=[125]/\gQ out=true then some out else none
def OJ:Nat->List UInt8->List bT->Option (List bT)
 |0,_,_=>none
 |f+1,x,out=>if 5<=out.length then BL x out else
  match jw (x.drop (x.takeWhile ng).length) with
  |none=>none
  |some y=>match iH y with
   |none=>none
   |some (v,r)=>match r with
    |[]=>none
    |c::r'=>if c.toNat=44 then OJ f r' (out++[⟨fF (x.takeWhile ng),fF v⟩]) else BL r (out++[⟨fF (x.takeWhile ng),fF v⟩])
theorem ZW (a b:UInt8) (y:List UInt8):jw (a::b::y)=if a.toNat=61/\b.toNat=34 then some y else none:=rfl
theorem ru {x y:List UInt8} (h:jw x=some y):∃a b,x=a::b::y/\a.toNat=61/\b.toNat=34:=by
 unfold jw at h;split at h
 ·next a b z=>
  split at h
  ·next hh=>
   injection h with h;subst h;exact ⟨a,b,rfl,hh.1,hh.2⟩
  ·cases h
 ·cases h
theorem KR:∀{x:List UInt8} {n:Nat},jX x=some n->∃y,jw (x.drop n)=some y/\y=x.drop (n+2)/\n+2<=x.length
 |[],n,h=>by cases h
 |a::r,n,h=>by
  unfold jX at h;split at h
  ·next hs=>
   injection h with h;subst h;obtain ⟨y,hy⟩:=Option.isSome_iff_exists.1 hs;obtain ⟨a',b',e,_,_⟩:=ru hy;refine ⟨y,hy,?_,?_⟩
   ·rw[e];rfl
   ·rw[e];simp
  ·obtain ⟨m,hm,e⟩:=Option.map_eq_some_iff.1 h
   subst e;obtain ⟨y,h1,h2,h3⟩:=KR hm;exact ⟨y,h1,h2,by simp only[List.length_cons];omega⟩
theorem qR:∀{x:List UInt8} {n j:Nat},jX x=some n->(jw (x.drop j)).isSome=true->n<=j
 |[],n,j,h,_=>by cases h
 |a::r,n,0,h,h2=>by
  unfold jX at h;rw[List.drop_zero]at h2;rw[if_pos h2]at h;injection h with h;omega
 |a::r,n,j+1,h,h2=>by
  unfold jX at h;split at h
  ·injection h with h
   omega
  ·obtain ⟨m,hm,e⟩:=Option.map_eq_some_iff.1 h
   subst e;have:=qR hm (j:=j) (by simpa using h2);omega
theorem xw:∀{x:List UInt8} (j:Nat),jX x=none->jw (x.drop j)=none
 |[],j,_=>by rw[List.drop_nil];rfl
 |a::r,0,h=>by
  unfold jX at h;split at h
  ·cases h
  ·next hs=>
   rw[List.drop_zero];simpa using hs
 |a::r,j+1,h=>by
  unfold jX at h;split at h
  ·cases h
  ·exact xw (x:=r) j (by simpa using h)
theorem Qc {x:List UInt8}:jw (x++[125])=(jw x).map (· ++[125]):=by
 match x with
 |[]=>rfl
 |[a]=>
  show jw [a,125]=none
  rw[ZW,if_neg (by intro h;exact absurd h.2 (by decide))]
 |a::b::y=>
  show jw (a::b::(y++[125]))=_
  rw[ZW,ZW];split<;>rfl
theorem zG (x:List UInt8):(x++[125]).takeWhile ng=x.takeWhile ng:=by
 induction x with
 |nil=>decide
 |cons a r ih=>
  rw[List.cons_append,List.takeWhile_cons,List.takeWhile_cons,ih]
theorem Px {c i:Nat} (h:fU c i=true):fU c 1=true:=by
 unfold fU at *;simp only[Bool.or_eq_true,Bool.and_eq_true,decide_eq_true_eq]at *;rcases h with h|h
 ·exact .inl h
 ·exact .inr ⟨by decide,h.2⟩
theorem MN {l:List UInt8} {c:UInt8} (hc:c∈l) (h:ng c=false):bK (fF l)=false:=by
 cases hn:bK (fF l) with
 |false=>rfl
 |true=>
  exfalso
  unfold bK at hn;rw[Bool.and_eq_true,List.all_eq_true]at hn;obtain ⟨i,hi⟩:=List.mem_iff_getElem?.1 hc;have hil:i<l.length:=(List.getElem?_eq_some_iff.1 hi).1;have h2:=hn.2 i (List.mem_range.2 (by show i<l.toArray.size;simpa using hil))
  have e:jD (fF l) i=c.toNat:=by
   unfold jD fF;simp[hi]
  rw[e]at h2;have h3:=Px h2;unfold ng at h;rw[h]at h3;cases h3
theorem Iq {out:List bT} {x:bT} (hx:x∈out) (h:bK x.name=false):gQ out=false:=by
 obtain ⟨i,hi,rfl⟩:=List.mem_iff_getElem.1 hx;unfold gQ;rw[Bool.and_eq_false_iff];right
 rw[List.all_eq_false];refine ⟨i,List.mem_range.2 hi,?_⟩;unfold iL dR;rw[List.getD_eq_getElem?_getD,List.getElem?_eq_getElem hi,Option.getD_some,h];simp
theorem mW {out:List bT} (h:4<out.length):gQ out=false:=by
 unfold gQ;rw[decide_eq_false (by omega)];rfl
theorem DC:∀(f:Nat) (x:List UInt8) (out:List bT),(∃z∈out,bK z.name=false)->wI f x out=none
 |0,_,_,_=>rfl
 |f+1,x,out,⟨z,hz,hn⟩=>by
  unfold wI;split
  ·rw[Iq hz hn]
   rfl
  ·split
   ·rfl
   ·split
    ·rfl
    ·split
     ·rfl
     ·split
      ·rfl
      ·exact DC f _ _ ⟨z,List.mem_append_left _ hz,hn⟩
theorem zM {l:List UInt8} {n:Nat} (h:∀c∈l.take n,ng c=true) (h2:∀c,l[n]?=some c->ng c=false) (hn:n<=l.length):l.takeWhile ng=l.take n:=by
 induction n generalizing l with
 |zero=>
  cases l with
  |nil=>rfl
  |cons a l=>
   rw[List.takeWhile_cons,if_neg (by rw[h2 a rfl];decide)];rfl
 |succ n ih=>
  cases l with
  |nil=>simp at hn
  |cons a l=>
   rw[List.takeWhile_cons,if_pos (h a (by simp)),List.take_succ_cons];congr 1
   exact ih (fun c hc=>h c (by rw[List.take_succ_cons];exact List.mem_cons_of_mem _ hc)) (fun c hc=>h2 c (by simpa using hc)) (by simpa using hn)
def KC (f:Nat) (y:List UInt8) (out:List bT):Option (List bT):=match jX y with
 |none=>none
 |some n=>if 4<out.length then none else match iH (y.drop (n+2)) with
  |none=>none
  |some (v,r)=>wI f r (out++[⟨fF (y.take n),fF v⟩])
theorem JI (f:Nat) {x:List UInt8} (out:List bT) (hx:x≠[]):wI (f+1) x out=match (if out=[] then some x else comma x) with
 |none=>none
 |some y=>KC f y out:=by
 conv=>lhs;unfold wI
 rw[if_neg hx];rfl
theorem both:∀(k:Nat) (f g:Nat) (y:List UInt8) (out:List bT),y.length<=k->y.length<f->y.length+1<g->KC f y out=OJ g (y++[125]) out:=by
 intro k;induction k with
 |zero=>
  intro f g y out hk hf hg;obtain ⟨g,rfl⟩:∃g',g=g'+1:=⟨g-1,by omega⟩;have:y=[]:=List.eq_nil_of_length_eq_zero (by omega);subst this;show none=_
  unfold OJ;split
  ·next h=>
   unfold BL;rw[if_neg (by rw[mW (by omega)];simp)]
  ·rfl
 |succ k ih=>
  intro f g y out hk hf hg;obtain ⟨g,rfl⟩:∃g',g=g'+1:=⟨g-1,by omega⟩;unfold KC OJ;by_cases h5:5<=out.length
  ·rw[if_pos h5]
   unfold BL;rw[if_neg (by rw[mW (by omega)];simp)];split
   ·rfl
   ·rw[if_pos (by omega)]
  ·rw[if_neg h5,zG,List.drop_append_of_le_length ((List.takeWhile_prefix _).length_le),Qc]
   cases hi:jX y with
   |none=>rw[xw _ hi];rfl
   |some n=>
    obtain ⟨z,e1,e2,e3⟩:=KR hi;simp only;rw[if_neg (by omega)];by_cases hall:∀c∈y.take n,ng c=true
    ·have hw:y.takeWhile ng=y.take n:=by
      refine zM hall (fun c hc=>?_) (by omega);obtain ⟨a,b,e,ha,_⟩:=ru e1;have h0:(y.drop n)[0]?=some a:=by rw[e];rfl
      rw[List.getElem?_drop,Nat.add_zero,hc]at h0;injection h0 with h0;subst h0;unfold ng;rw[ha];decide
     rw[hw,List.length_take,Nat.min_eq_left (by omega),e1];simp only[Option.map_some];rw[←e2,vP _ _ (Nat.le_refl _)];cases hv:iH z with
     |none=>rfl
     |some p=>
      obtain ⟨v,r⟩:=p;have hl:=Dn _ _ _ _ (Nat.le_refl _) hv;have hzl:z.length+(n+2)=y.length:=by rw[e2,List.length_drop];omega
      simp only[Option.map_some];obtain ⟨f,rfl⟩:∃f',f=f'+1:=⟨f-1,by omega⟩;cases r with
      |nil=>
       show wI (f+1) [] _=BL [125] _
       unfold wI BL;rw[if_pos rfl];simp
      |cons c r=>
       rw[JI f _ (by simp),if_neg (by simp)];simp only[List.cons_append];have ec:comma (c::r)=if c.toNat=44 then some r else none:=rfl
       rw[ec];by_cases hc:c.toNat=44
       ·rw[if_pos hc,if_pos hc]
        simp only[List.length_cons]at hl;exact ih f g r _ (by omega) (by omega) (by omega)
       ·rw[if_neg hc,if_neg hc]
        unfold BL;rw[if_neg (by intro h;have:=congrArg List.length h.1;simp at this)]
    ·obtain ⟨c,hc,hcl⟩:∃c∈y.take n,ng c=false:=by
      apply Classical.byContradiction
      intro hne
      exact hall fun c hc=>by
       cases h:ng c with
       |true=>rfl
       |false=>exact absurd ⟨c,hc,h⟩ hne
     have hwn:(y.takeWhile ng).length<n:=by
      rcases Nat.lt_or_ge (y.takeWhile ng).length n with h|h
      ·exact h
      ·exfalso
       have hp:y.take n=(y.takeWhile ng).take n:=by
        conv=>lhs;rw[←List.takeWhile_append_dropWhile (p:=ng) (l:=y)]
        rw[List.take_append_of_le_length h]
       rw[hp]at hc;have:=List.all_eq_true.1 (List.all_takeWhile (p:=ng) (l:=y)) c (List.mem_of_mem_take hc);rw[hcl]at this;cases this
     have hno:jw (y.drop (y.takeWhile ng).length)=none:=by
      cases he:jw (y.drop (y.takeWhile ng).length) with
      |none=>rfl
      |some q=>have:=qR hi (j:=(y.takeWhile ng).length) (by rw[he];rfl);omega
     rw[hno];simp only[Option.map_none];split
     ·rfl
     ·next v r hv=>exact DC f r _ ⟨⟨fF (y.take n),fF v⟩,List.mem_append_right _ (List.mem_singleton.2 rfl),MN hc hcl⟩
end Ps
namespace Ps
def jH (n:Nat):UInt8:=UInt8.ofNat (if n<10 then 48+n else 87+n)
def rH (c:UInt8):List UInt8:=if zk c.toNat=true then [c] else [92,jH (c.toNat / 16),jH (c.toNat % 16)]
def dh (v:List UInt8):List UInt8:=v.flatMap rH
def labT (x:bT):List UInt8:=x.name.data.toList++61::34::(dh x.value.data.toList++[34])
def lF (l:List bT):List UInt8:=l.flatMap fun x=>44::labT x
def bodyT:List bT->List UInt8
 |[]=>[]
 |x::r=>labT x++lF r
def textF (l:List bT):List UInt8:=123::(bodyT l++[125])
theorem Il (l:List bT) (x:bT):bodyT (l++[x])=bodyT l++((if l=[] then [] else [44])++labT x):=by
 cases l with
 |nil=>simp[bodyT,lF]
 |cons y r=>simp[bodyT,lF,List.flatMap_append]
theorem EY (v:List UInt8) (c:UInt8):dh (v++[c])=dh v++rH c:=by
 unfold dh;rw[List.flatMap_append];simp
theorem Zg {l:List bT} (h:gQ l=true) {x:bT} (hx:x∈l):bK x.name=true/\x.value.size<=16:=by
 obtain ⟨i,hi,rfl⟩:=List.mem_iff_getElem.1 hx;unfold gQ at h;rw[Bool.and_eq_true,Dh]at h;have h1:=h.2 i hi;unfold iL dR at h1;rw[List.getD_eq_getElem?_getD,List.getElem?_eq_getElem hi,Option.getD_some]at h1;simp only[Bool.and_eq_true,decide_eq_true_eq]at h1;exact ⟨h1.1.1,h1.1.2⟩
theorem UL (c:UInt8):(rH c).length<=3:=by
 unfold rH;split<;>simp
theorem NU:∀(v:List UInt8),(dh v).length<=3 * v.length
 |[]=>Nat.le_refl _
 |c::v=>by
  have:=UL c;have:=NU v;have e:dh (c::v)=rH c++dh v:=(by simp[dh]);rw[e,List.length_append,List.length_cons];omega
theorem m_ {x:bT} (h:bK x.name=true) (h2:x.value.size<=16):(labT x).length<=59:=by
 have h1:=NU x.value.data.toList
 have hn:x.name.size<=8:=by
  unfold bK at h;rw[Bool.and_eq_true,decide_eq_true_eq]at h;exact h.1.2
 have e1:x.value.data.toList.length=x.value.size:=Array.length_toList ..;have e2:x.name.data.toList.length=x.name.size:=Array.length_toList ..;unfold labT;simp only[List.length_append,List.length_cons,List.length_nil];omega
theorem ZM:∀{r:List bT},(∀x∈r,bK x.name=true/\x.value.size<=16)->(lF r).length<=60 * r.length
 |[],_=>Nat.le_refl _
 |x::r,h=>by
  have h1:=m_ (h x List.mem_cons_self).1 (h x List.mem_cons_self).2;have h2:=ZM (r:=r) (fun y hy=>h y (List.mem_cons_of_mem _ hy));have e:lF (x::r)=44::(labT x++lF r):=(by simp[lF]);rw[e];simp only[List.length_cons,List.length_append];omega
theorem Je {l:List bT} (h:gQ l=true):(textF l).length<=300:=by
 have h4:l.length<=4:=by
  unfold gQ at h;rw[Bool.and_eq_true,decide_eq_true_eq]at h;exact h.1
 cases l with
 |nil=>decide
 |cons x r=>
  have h1:=m_ (Zg h List.mem_cons_self).1 (Zg h List.mem_cons_self).2;have h2:=ZM (r:=r) (fun y hy=>Zg h (List.mem_cons_of_mem _ hy));simp only[List.length_cons]at h4;unfold textF bodyT;simp only[List.length_cons,List.length_append,List.length_nil];omega
/-! a part of a set -/
theorem z2J {l:List bT}:gQ l=true↔l.length<=4/\(∀x∈l,bK x.name=true/\x.value.size<=16)/\l.Pairwise (fun a b=>bD a.name b.name=true):=by
 rw[←FP,Bool.and_eq_true,decide_eq_true_eq,Dh]
 have g:∀i (hi:i<l.length),dR l i=l[i]:=fun i hi=>by
  unfold dR;rw[List.getD_eq_getElem?_getD,List.getElem?_eq_getElem hi,Option.getD_some]
 constructor
 ·rintro ⟨h1,h2⟩
  refine ⟨h1,fun x hx=>?_,?_⟩
  ·obtain ⟨i,hi,rfl⟩:=List.mem_iff_getElem.1 hx
   have:=h2 i hi;unfold GI at this;rw[g i hi]at this;simp only[Bool.and_eq_true,decide_eq_true_eq]at this;exact this.1
  ·rw[List.pairwise_iff_getElem]
   intro i j hi hj hij;have:=h2 j hj;unfold GI at this;simp only[Bool.and_eq_true,decide_eq_true_eq]at this;have h3:=Dh.1 this.2 i hij;rw[g i hi,g j hj]at h3;exact h3
 ·rintro ⟨h1,h2,h3⟩
  refine ⟨h1,fun i hi=>?_⟩;unfold GI;rw[g i hi];simp only[Bool.and_eq_true,decide_eq_true_eq];refine ⟨h2 _ (List.getElem_mem hi),Dh.2 fun k hk=>?_⟩;rw[g k (by omega)];exact List.pairwise_iff_getElem.1 h3 k i (by omega) hi hk
def inB (aH:List ByteArray) (x:ByteArray):Bool:=aH.any fun y=>decide (y=x)
theorem PN {aH:List ByteArray} {x:ByteArray}:inB aH x=true↔x∈aH:=by
 unfold inB;rw[List.any_eq_true];constructor
 ·rintro ⟨y,hy,e⟩
  rw[decide_eq_true_iff]at e;exact e▸hy
 ·intro h
  exact ⟨x,h,decide_eq_true rfl⟩
def aX (l:List bT) (aH:List ByteArray):List bT:=l.filter fun x=>inB aH x.name
theorem z2I {l:List bT} (h:gQ l=true) (aH:List ByteArray):gQ (aX l aH)=true:=by
 obtain ⟨h1,h2,h3⟩:=z2J.1 h;refine z2J.2 ⟨?_,fun x hx=>h2 x (List.mem_filter.1 hx).1,h3.filter _⟩;have:=List.length_filter_le (fun x:bT=>inB aH x.name) l;unfold aX;omega
end Ps
section
variable {α : Type} {lt : α → α → Bool}
structure Runs (lt:α->α->Bool) (P A B S:List (Tg α)):Prop where
 sa:A.Pairwise (Rt lt)
 sb:B.Pairwise (Rt lt)
 tg:∀x∈A,∀y∈B,x.tag<y.tag
def kX (lt:α->α->Bool) (A B C:List (Tg α)):Prop:=C.Perm (A++B)/\C.Pairwise (Rt lt)
theorem kX.left {A:List (Tg α)} (h:A.Pairwise (Rt lt)):kX lt A [] A:=⟨by rw[List.append_nil],h⟩
theorem kX.right {A:List (Tg α)} (h:A.Pairwise (Rt lt)):kX lt [] A A:=⟨by rw[List.nil_append],h⟩
theorem Fh (w:Weak lt) {P A B S:List (Tg α)} (h:Runs lt P A B S) {m b mid start end_:Nat} (hm:P.length+A.length=m) (hb:m+B.length=b) (qW:2 * mid<=P.length+b) (xC:P.length+b<=2 * mid+1) (he:end_+start=mid+m) (h1:P.length<=start) (h2:start<=m) (h3:m<=end_) (h4:end_<=b)
 (hlo:∀(hs:P.length<start) (he:end_<b),∃x y,(P++A++B++S)[start-1]?=some x/\(P++A++B++S)[end_]?=some y/\Rt lt x y)
 (hhi:∀(hs:start<m) (he:m<end_),∃x y,(P++A++B++S)[end_-1]?=some x/\(P++A++B++S)[start]?=some y/\Rt lt x y):
 ∃A1 A2 B1 B2:List (Tg α),A=A1++A2/\B=B1++B2/\A1.length=start-P.length/\A2.length=m-start/\B1.length=end_-m/\B2.length=b-end_/\rotL (P++A++B++S) start m end_=P++(A1++B1)++(A2++B2)++S/\(∀x∈A1++B1,∀y∈A2++B2,Rt lt x y):=by
 refine ⟨A.take (start-P.length),A.drop (start-P.length),B.take (end_-m),B.drop (end_-m),(List.take_append_drop _ _).symm,(List.take_append_drop _ _).symm,by simp;omega,by simp;omega,by simp;omega,by simp;omega,?_,?_⟩
 ·obtain ⟨A1,A2,rfl,hA⟩:∃A1 A2:List (Tg α),A=A1++A2/\A1.length=start-P.length:=⟨_,_,(List.take_append_drop (start-P.length) A).symm,by simp;omega⟩
  obtain ⟨B1,B2,rfl,hB⟩:∃B1 B2:List (Tg α),B=B1++B2/\B1.length=end_-m:=⟨_,_,(List.take_append_drop (end_-m) B).symm,by simp;omega⟩;rw[List.length_append]at hm hb;have e1:(A1++A2).take (start-P.length)=A1:=by rw[←hA,List.take_left]
  have e2:(A1++A2).drop (start-P.length)=A2:=by rw[←hA,List.drop_left]
  have e3:(B1++B2).take (end_-m)=B1:=by rw[←hB,List.take_left]
  have e4:(B1++B2).drop (end_-m)=B2:=by rw[←hB,List.drop_left]
  rw[e1,e2,e3,e4];have hr:=VJ (P++A1) A2 B1 (B2++S);rw[show P++(A1++A2)++(B1++B2)++S=P++A1++A2++B1++(B2++S) by simp only[List.append_assoc],show start=(P++A1).length by rw[List.length_append];omega,show m=(P++A1).length+A2.length by rw[List.length_append];omega,show end_=(P++A1).length+A2.length+B1.length by rw[List.length_append];omega,hr];simp only[List.append_assoc]
 ·refine Fv w (by rw[List.take_append_drop];exact h.sa) (by rw[List.take_append_drop];exact h.sb) (fun hA hB=>?_) (fun hB hA=>?_)
  ·have hA':=List.length_pos_iff.2 hA
   have hB':=List.length_pos_iff.2 hB;rw[List.length_take]at hA';rw[List.length_drop]at hB';obtain ⟨x,y,hx,hy,hxy⟩:=hlo (by omega) (by omega)
   have ex:x=(A.take (start-P.length)).getLast hA:=by
    rw[List.getLast_eq_getElem,List.getElem_take];rw[List.append_assoc,List.append_assoc,List.getElem?_append_right (by omega),List.getElem?_append_left (by omega),List.getElem?_eq_getElem (by omega)]at hx;injection hx with hx;rw[←hx];congr 1
    rw[List.length_take];omega
   have ey:y=(B.drop (end_-m)).head hB:=by
    rw[List.head_eq_getElem,List.getElem_drop];rw[List.append_assoc,List.append_assoc,List.getElem?_append_right (by omega),List.getElem?_append_right (by omega),List.getElem?_append_left (by omega),List.getElem?_eq_getElem (by omega)]at hy;injection hy with hy;rw[←hy];congr 1
    try omega
   rw[←ex,←ey];exact hxy
  ·have hA':=List.length_pos_iff.2 hA
   have hB':=List.length_pos_iff.2 hB;rw[List.length_drop]at hA';rw[List.length_take]at hB';obtain ⟨x,y,hx,hy,hxy⟩:=hhi (by omega) (by omega)
   have ex:x=(B.take (end_-m)).getLast hB:=by
    rw[List.getLast_eq_getElem,List.getElem_take];rw[List.append_assoc,List.append_assoc,List.getElem?_append_right (by omega),List.getElem?_append_right (by omega),List.getElem?_append_left (by omega),List.getElem?_eq_getElem (by omega)]at hx;injection hx with hx;rw[←hx];congr 1
    rw[List.length_take];omega
   have ey:y=(A.drop (start-P.length)).head hA:=by
    rw[List.head_eq_getElem,List.getElem_drop];rw[List.append_assoc,List.append_assoc,List.getElem?_append_right (by omega),List.getElem?_append_left (by omega),List.getElem?_eq_getElem (by omega)]at hy;injection hy with hy;rw[←hy];congr 1
    try omega
   rw[←ex,←ey];exact hxy
theorem Runs.one {P A1 A2 B1 B2 S P' S':List (Tg α)} (h:Runs lt P (A1++A2) (B1++B2) S):Runs lt P' A1 B1 S':=
 ⟨(List.pairwise_append.1 h.sa).1,(List.pairwise_append.1 h.sb).1,fun x hx y hy=>h.tg x (List.mem_append_left _ hx) y (List.mem_append_left _ hy)⟩
theorem Runs.two {P A1 A2 B1 B2 S P' S':List (Tg α)} (h:Runs lt P (A1++A2) (B1++B2) S):Runs lt P' A2 B2 S':=
 ⟨(List.pairwise_append.1 h.sa).2.1,(List.pairwise_append.1 h.sb).2.1,fun x hx y hy=>h.tg x (List.mem_append_right _ hx) y (List.mem_append_right _ hy)⟩
theorem kX.both {A1 A2 B1 B2 C1 C2:List (Tg α)} (h1:kX lt A1 B1 C1) (h2:kX lt A2 B2 C2) (ha:∀x∈A1++B1,∀y∈A2++B2,Rt lt x y):kX lt (A1++A2) (B1++B2) (C1++C2):=
 halves h1.1 h2.1 h1.2 h2.2 ha
theorem wS (w:Weak lt) {x:Tg α} {B:List (Tg α)} {k:Nat} (hk:k<=B.length) (sb:B.Pairwise (Rt lt)) (h1:0<k->∃y,B[k-1]?=some y/\Rt lt y x) (h2:k<B.length->∃y,B[k]?=some y/\Rt lt x y):kX lt [x] B (B.take k++[x]++B.drop k):=by
 refine ⟨?_,z1L w (by rw[List.take_append_drop];exact sb) (fun y hy=>?_) (fun y hy=>?_)⟩
 ·conv=>rhs;rw[←List.take_append_drop k B]
  rw[List.append_assoc,List.singleton_append];exact List.perm_middle
 ·obtain ⟨i,hi,rfl⟩:=List.mem_iff_getElem.1 hy
  rw[List.length_take]at hi;rw[List.getElem_take];obtain ⟨z,hz,hzx⟩:=h1 (by omega);rw[List.getElem?_eq_getElem (by omega)]at hz;injection hz with hz;by_cases e:i=k-1
  ·subst e;rw[hz];exact hzx
  ·have:=List.pairwise_iff_getElem.1 sb i (k-1) (by omega) (by omega) (by omega)
   rw[hz]at this;exact this.trans w hzx
 ·obtain ⟨i,hi,rfl⟩:=List.mem_iff_getElem.1 hy
  rw[List.length_drop]at hi;rw[List.getElem_drop];obtain ⟨z,hz,hzx⟩:=h2 (by omega);rw[List.getElem?_eq_getElem (by omega)]at hz;injection hz with hz;by_cases e:i=0
  ·subst e;rw[show B[k+0]=z from hz];exact hzx
  ·have:=List.pairwise_iff_getElem.1 sb k (k+i) (by omega) (by omega) (by omega)
   rw[hz]at this;exact hzx.trans w this
theorem Gg (w:Weak lt) {x:Tg α} {A:List (Tg α)} {k:Nat} (hk:k<=A.length) (sa:A.Pairwise (Rt lt)) (h1:0<k->∃y,A[k-1]?=some y/\Rt lt y x) (h2:k<A.length->∃y,A[k]?=some y/\Rt lt x y):kX lt A [x] (A.take k++[x]++A.drop k):=by
 have h:=wS w hk sa h1 h2;exact ⟨h.1.trans List.perm_append_comm,h.2⟩
theorem AV (P S B:List (Tg α)) (x:Tg α) (k:Nat) (hk:k<B.length):fQ (P++(B.take k++[x]++B.drop k)++S) (P.length+k) (P.length+k+1)=P++(B.take (k+1)++[x]++B.drop (k+1))++S:=by
 have e:=zO (P++B.take k) (B.drop (k+1)++S) x B[k];rw[List.length_append,List.length_take,show min k B.length=k by omega]at e;rw[List.drop_eq_getElem_cons hk,List.take_succ_eq_append_getElem hk];simp only[List.append_assoc,List.cons_append,List.nil_append]at e ⊢;exact e
theorem Gp (P S A:List (Tg α)) (x:Tg α) (k:Nat) (hk:k<A.length):fQ (P++(A.take (k+1)++[x]++A.drop (k+1))++S) (P.length+k+1) (P.length+k)=P++(A.take k++[x]++A.drop k)++S:=by
 have e:=lH (P++A.take k) (A.drop (k+1)++S) A[k] x;rw[List.length_append,List.length_take,show min k A.length=k by omega]at e;rw[List.drop_eq_getElem_cons hk,List.take_succ_eq_append_getElem hk];simp only[List.append_assoc,List.cons_append,List.nil_append]at e ⊢;exact e
end
section
variable {α : Type} {lt : α → α → Bool}
def dW (lt:α->α->Bool) (bs lo hi:Nat) (ys:List (Tg α)):Prop:=
 ∀i x,lo<=i->i<hi->ys[i]?=some x->x.tag / bs=i / bs/\∀j y,i<j->j<hi->i / bs=j / bs->ys[j]?=some y->Rt lt x y
theorem dW.sub {bs lo hi lo' hi':Nat} {ys:List (Tg α)} (h:dW lt bs lo hi ys) (h1:lo<=lo') (h2:hi'<=hi):dW lt bs lo' hi' ys:=
 fun i x a b hx=>⟨(h i x (by omega) (by omega) hx).1,fun j y c d e hy=>(h i x (by omega) (by omega) hx).2 j y c (by omega) e hy⟩
theorem dW.same {bs lo hi:Nat} {ys zs:List (Tg α)} (h:dW lt bs lo hi ys) (e:∀i,lo<=i->i<hi->zs[i]?=ys[i]?):dW lt bs lo hi zs:=
 fun i x a b hx=>by
  rw[e i a b]at hx;exact ⟨(h i x a b hx).1,fun j y c d f hy=>(h i x a b hx).2 j y c d f (by rw[e j (by omega) d]at hy;exact hy)⟩
theorem dW.join {bs lo m hi:Nat} {ys:List (Tg α)} (h1:dW lt bs lo m ys) (h2:dW lt bs m hi ys) (hm:m % bs=0) (hb:0<bs):dW lt bs lo hi ys:=by
 intro i x a b hx;by_cases c:i<m
 ·refine ⟨(h1 i x a c hx).1,fun j y d e f hy=>?_⟩
  by_cases g:j<m
  ·exact (h1 i x a c hx).2 j y d g f hy
  ·exfalso
   have q1:i / bs<m / bs:=by
    rw[Nat.div_lt_iff_lt_mul hb,Nat.div_mul_cancel (Nat.dvd_of_mod_eq_zero hm)];exact c
   have q2:m / bs<=j / bs:=Nat.div_le_div_right (by omega);omega
 ·exact h2 i x (by omega) b hx
theorem dW.one {bs a b:Nat} {ys:List (Tg α)} (ha:a % bs=0) (hb:b<=a+bs) (hbs:0<bs) (ht:∀i x,a<=i->i<b->ys[i]?=some x->a<=x.tag/\x.tag<b) (hs:∀i j x y,a<=i->i<j->j<b->ys[i]?=some x->ys[j]?=some y->Rt lt x y):dW lt bs a b ys:=by
 have hdiv:∀k,a<=k->k<b->k / bs=a / bs:=fun k h1 h2=>by
  have h3:a=bs * (a / bs):=by have:=Nat.div_add_mod a bs;omega
  have h4:a / bs<=k / bs:=Nat.div_le_div_right h1
  have h5:k / bs<a / bs+1:=by
   rw[Nat.div_lt_iff_lt_mul hbs,Nat.succ_mul,Nat.mul_comm];omega
  omega
 intro i x h1 h2 hx;obtain ⟨t1,t2⟩:=ht i x h1 h2 hx;exact ⟨by rw[hdiv x.tag t1 t2,hdiv i h1 h2],fun j y h3 h4 _ hy=>hs i j x y h1 h3 h4 hx hy⟩
theorem VI {P C S:List (Tg α)} {i:Nat}:(P++C++S)[i]?=if i<P.length then P[i]? else if i<P.length+C.length then C[i-P.length]? else S[i-P.length-C.length]?:=by
 rw[List.append_assoc];by_cases h1:i<P.length
 ·rw[if_pos h1,List.getElem?_append_left h1]
 ·rw[if_neg h1,List.getElem?_append_right (by omega)]
  by_cases h2:i<P.length+C.length
  ·rw[if_pos h2,List.getElem?_append_left (by omega)]
  ·rw[if_neg h2,List.getElem?_append_right (by omega)]
theorem ED {bs':Nat} {P M C S:List (Tg α)} (hp:C.Perm M) (hs:C.Pairwise (Rt lt)) (ha:P.length % bs'=0) (hb:M.length<=bs') (hbs:0<bs') (ht:∀x∈M,P.length<=x.tag/\x.tag<P.length+M.length):dW lt bs' P.length (P.length+M.length) (P++C++S):=by
 have hl:=hp.length_eq;refine dW.one ha (by omega) hbs (fun i x h1 h2 hx=>?_) (fun i j x y h1 h2 h3 hx hy=>?_)
 ·rw[VI,if_neg (by omega),if_pos (by omega)]at hx
  exact ht x (hp.subset (List.mem_of_getElem? hx))
 ·rw[VI,if_neg (by omega),if_pos (by omega)]at hx hy
  obtain ⟨q1,e1⟩:=List.getElem?_eq_some_iff.1 hx;obtain ⟨q2,e2⟩:=List.getElem?_eq_some_iff.1 hy;rw[←e1,←e2];exact List.pairwise_iff_getElem.1 hs _ _ q1 q2 (by omega)
theorem nS {bs lo hi:Nat} {ys:List (Tg α)} (h:dW lt bs lo hi ys) {i:Nat} {x:Tg α} (h1:lo<=i) (h2:i<hi) (hx:ys[i]?=some x) (hb:0<bs):bs * (i / bs)<=x.tag/\x.tag<bs * (i / bs)+bs:=by
 have e:=(h i x h1 h2 hx).1;have d:=Nat.div_add_mod x.tag bs;have m:=Nat.mod_lt x.tag hb;rw[e]at d;omega
theorem MC {bs n:Nat} {P A B S:List (Tg α)} (h:dW lt bs P.length n (P++A++B++S)) (hb:0<bs) (ha:P.length % bs=0) (hA:A.length=bs) (hB:B.length<=bs) (hn:P.length+A.length+B.length<=n):
 Runs lt P A B S:=by
 have hdA:∀k,P.length<=k->k<P.length+bs->k / bs=P.length / bs:=fun k h1 h2=>by
  have h3:=Nat.div_add_mod P.length bs;have h4:P.length / bs<=k / bs:=Nat.div_le_div_right h1
  have h5:k / bs<P.length / bs+1:=by
   rw[Nat.div_lt_iff_lt_mul hb,Nat.succ_mul,Nat.mul_comm];omega
  omega
 have hdB:∀k,P.length+bs<=k->k<P.length+bs+bs->k / bs=P.length / bs+1:=fun k h1 h2=>by
  have h3:=Nat.div_add_mod P.length bs
  have h4:P.length / bs+1<=k / bs:=by
   rw[Nat.le_div_iff_mul_le hb,Nat.succ_mul,Nat.mul_comm];omega
  have h5:k / bs<P.length / bs+1+1:=by
   rw[Nat.div_lt_iff_lt_mul hb,Nat.succ_mul,Nat.succ_mul,Nat.mul_comm];omega
  omega
 have gA:∀i (hi:i<A.length),(P++A++B++S)[P.length+i]?=some A[i]:=fun i hi=>by
  rw[List.append_assoc,List.append_assoc,List.getElem?_append_right (by omega),List.getElem?_append_left (by omega),Nat.add_sub_cancel_left,List.getElem?_eq_getElem hi]
 have gB:∀i (hi:i<B.length),(P++A++B++S)[P.length+A.length+i]?=some B[i]:=fun i hi=>by
  rw[List.append_assoc,List.append_assoc,List.getElem?_append_right (by omega),List.getElem?_append_right (by omega),List.getElem?_append_left (by omega),List.getElem?_eq_getElem (by omega)];congr 2
  omega
 refine ⟨List.pairwise_iff_getElem.2 fun i j hi hj hij=>?_,List.pairwise_iff_getElem.2 fun i j hi hj hij=>?_,fun x hx y hy=>?_⟩
 ·exact (h (P.length+i) _ (by omega) (by omega) (gA i hi)).2 (P.length+j) _ (by omega) (by omega) (by rw[hdA (P.length+i) (by omega) (by omega),hdA (P.length+j) (by omega) (by omega)]) (gA j hj)
 ·exact (h (P.length+A.length+i) _ (by omega) (by omega) (gB i hi)).2 (P.length+A.length+j) _ (by omega) (by omega) (by rw[hdB (P.length+A.length+i) (by omega) (by omega),hdB (P.length+A.length+j) (by omega) (by omega)]) (gB j hj)
 ·obtain ⟨i,hi,rfl⟩:=List.mem_iff_getElem.1 hx
  obtain ⟨j,hj,rfl⟩:=List.mem_iff_getElem.1 hy;have t1:=(nS h (by omega) (by omega) (gA i hi) hb).2;have t2:=(nS h (by omega) (by omega) (gB j hj) hb).1;rw[hdA _ (by omega) (by omega)]at t1;rw[hdB _ (by omega) (by omega),Nat.mul_succ]at t2;omega
theorem MG {bs a n:Nat} {ys:List (Tg α)} (h:dW lt bs a n ys) (hb:0<bs) (ha:a % (2 * bs)=0) (hn:n<=a+bs):dW lt (2 * bs) a n ys:=by
 have hab:a % bs=0:=by
  have:bs∣a:=Nat.dvd_trans ⟨2,by omega⟩ (Nat.dvd_of_mod_eq_zero ha);exact Nat.mod_eq_zero_of_dvd this
 have hd:∀k,a<=k->k<a+bs->k / bs=a / bs:=fun k h1 h2=>by
  have h3:=Nat.div_add_mod a bs;have h4:a / bs<=k / bs:=Nat.div_le_div_right h1
  have h5:k / bs<a / bs+1:=by
   rw[Nat.div_lt_iff_lt_mul hb,Nat.succ_mul,Nat.mul_comm];omega
  omega
 intro i x h1 h2 hx;have e:=(h i x h1 h2 hx).1;refine ⟨?_,fun j y h3 h4 _ hy=>(h i x h1 h2 hx).2 j y h3 h4 (by rw[hd i h1 (by omega),hd j (by omega) (by omega)]) hy⟩;rw[Nat.mul_comm 2 bs,←Nat.div_div_eq_div_mul,←Nat.div_div_eq_div_mul,e]
theorem Qr {bs n:Nat} {ys:List (Tg α)} (h:dW lt bs 0 n ys) (hn:n<=bs) (hl:ys.length=n):ys.Pairwise (Rt lt):=by
 refine List.pairwise_iff_getElem.2 fun i j hi hj hij=>?_;exact (h i _ (by omega) (by omega) (List.getElem?_eq_getElem hi)).2 j _ hij (by omega) (by rw[Nat.div_eq_of_lt (by omega),Nat.div_eq_of_lt (by omega)]) (List.getElem?_eq_getElem hj)
end
end Go.Proofs.YtdbfejfhpkakhaaGreat
namespace Go.Proofs.YtdbfejfhpkakhaaGreat
open Go.RowKit
def iT (xs:List Nat):ByteArray:=⟨(xs.map UInt8.ofNat).toArray⟩
theorem ZK (xs:List Nat):(iT xs).size=xs.length:=by simp[iT,ByteArray.size]
theorem Ze {P:Program} (w:World) (src dst e:TypeId) (hs:P.underlying src=some (.slice e)) (he:P.underlying e=some (.int .u8)) (hd:P.underlying dst=some .string)
 (D:Nat->Prop) (A:Option Addr) (n c:Nat) (xs:List Nat) (h:Rd w D 1 A n (bl xs)):
 (convert src dst (.slice A n c)).run P w=.ok (.string (iT xs)) w:=by
 have hlen:xs.length=n:=by have:=h.1;rw[Rh]at this;omega
 rw[run_convert_bytes_string w src dst e _ n c hs he hd];have e0:bl xs=(xs.map fun x:Nat=>(x:Int)).map (Value.int .u8):=by simp[bl]
 have fin:∀a:Addr,(loadCells a n).run P w=.ok (bl xs).toArray w->(Conv.bytesToString (.slice (some a) n c)).run P w=.ok (.string (iT xs)) w:=by
  intro a hl;rw[e0]at hl;rw[run_bytesToString w a n c _ hl,foldl_push_bytes];congr 2
  simp[iT,ByteArray.empty,ByteArray.emptyWithCapacity];rfl
 rcases A with _|a
 ·have:n=0:=by
   rcases Nat.eq_zero_or_pos n with h0|h0
   ·exact h0
   ·obtain ⟨_,h,_⟩:=h.2 h0;cases h
  subst this;have:xs=[]:=List.eq_nil_of_length_eq_zero hlen;subst this;simp[Conv.bytesToString,iT];rfl
 ·refine fin a ?_
  have:=run_loadCells_list (P:=P) w a (bl xs) (fun j v hj=>by
   rcases Nat.eq_zero_or_pos n with h0|h0
   ·subst h0
    have:xs=[]:=List.eq_nil_of_length_eq_zero hlen;subst this;simp[bl]at hj
   ·obtain ⟨a',e,_,hc⟩:=h.2 h0
    injection e with e;subst e;exact hc j v hj)
  rw[Rh,hlen]at this;exact this
end Go.Proofs.YtdbfejfhpkakhaaGreat
namespace Go.Proofs.YtdbfejfhpkakhaaGreat
open Ps
def GU:ByteArray:=⟨#[48,49,50,51,52,53,54,55,56,57,97,98,99,100,101,102]⟩
theorem DZ {n:Nat} (h:n<16):GU[n]'h=jH n:=by
 have:∀n:Fin 16,GU[n.val]'n.isLt=jH n.val:=by decide
 exact this ⟨n,h⟩
end Go.Proofs.YtdbfejfhpkakhaaGreat
namespace Go.Proofs.YtdbfejfhpkakhaaGreat
structure Tok where
 len:Nat
 dist:Nat
 byte:Nat
def yZ (b:List Nat) (i k:Nat):Nat->Nat->Nat
 |0,n=>n
 |f+1,n=>if k+n<b.length/\b.getD (i+n) 0=b.getD (k+n) 0 then yZ b i k f (n+1) else n
def eP (b:List Nat) (i k:Nat):Nat:=yZ b i k 258 0
def fV (b:List Nat) (i:Nat):Nat×Nat×Nat:=(b.getD i 0,b.getD (i+1) 0,b.getD (i+2) 0)
def vI (b:List Nat) (at_:Nat) (k:Nat×Nat×Nat):List Nat:=(List.range at_).filter fun i=>decide (i+2<b.length/\fV b i=k)
def zh (b:List Nat) (at_:Nat):List Nat->Nat×Nat->Nat×Nat
 |[],t=>t
 |i::r,t=>if at_-i<=32768/\t.1<258 then zh b at_ r (if t.1<eP b i at_ then (eP b i at_,at_-i) else t) else t
def fG (b:List Nat) (at_:Nat):Nat×Nat:=if at_+2<b.length then zh b at_ (vI b at_ (fV b at_)).reverse (0,0) else (0,0)
def tokF (b:List Nat) (at_:Nat) (t:Nat×Nat):Tok:=⟨t.1,t.2,if t.1=0 then b.getD at_ 0 else 0⟩
def aJ (b:List Nat):Nat->Nat->List Tok
 |0,_=>[]
 |f+1,at_=>if b.length<=at_ then [] else tokF b at_ (fG b at_)::aJ b f (at_+max (fG b at_).1 1)
theorem z3s (b:List Nat) (i k:Nat):∀f n,n<=yZ b i k f n/\yZ b i k f n<=n+f:=by
 intro f;induction f with
 |zero=>intro n;exact ⟨Nat.le_refl _,Nat.le_refl _⟩
 |succ f ih=>
  intro n;unfold yZ;split
  ·have:=ih (n+1);omega
  ·omega
theorem wu (b:List Nat) (i k:Nat):∀f n j,n<=j->j<yZ b i k f n->k+j<b.length/\b.getD (i+j) 0=b.getD (k+j) 0:=by
 intro f;induction f with
 |zero=>intro n j h1 h2;unfold yZ at h2;omega
 |succ f ih=>
  intro n j h1 h2;unfold yZ at h2;split at h2
  ·next hc=>
   by_cases hj:j=n
   ·subst hj;exact hc
   ·exact ih (n+1) j (by omega) h2
  ·omega
theorem oV (b:List Nat) (i k:Nat):∀f n m,n<=m->m<=n+f->(∀j,n<=j->j<m->k+j<b.length/\b.getD (i+j) 0=b.getD (k+j) 0)->m<=yZ b i k f n:=by
 intro f;induction f with
 |zero=>intro n m h1 h2 _;unfold yZ;omega
 |succ f ih=>
  intro n m h1 h2 h;unfold yZ;by_cases hm:m=n
  ·subst hm
   split
   ·have:=(z3s b i k f (m+1)).1;omega
   ·exact Nat.le_refl _
  ·rw[if_pos (h n (Nat.le_refl _) (by omega))]
   exact ih (n+1) m (by omega) (by omega) (fun j h3 h4=>h j (by omega) h4)
theorem wz (b:List Nat) (i k:Nat):eP b i k<=258:=by have:=(z3s b i k 258 0).2;unfold eP;omega
theorem wB {b:List Nat} {i k j:Nat} (h:j<eP b i k):k+j<b.length/\b.getD (i+j) 0=b.getD (k+j) 0:=wu b i k 258 0 j (Nat.zero_le _) h
theorem FC {b:List Nat} {i k:Nat} (hk:k+2<b.length) (h:fV b i=fV b k):3<=eP b i k:=by
 unfold fV at h;simp only[Prod.mk.injEq]at h;refine oV b i k 258 0 3 (by omega) (by omega) fun j _ hj=>⟨by omega,?_⟩;rcases (show j=0∨j=1∨j=2 by omega) with rfl|rfl|rfl
 ·exact h.1
 ·exact h.2.1
 ·exact h.2.2
theorem z3v {b:List Nat} {at_ i:Nat} {k:Nat×Nat×Nat} (h:i∈vI b at_ k):i<at_/\i+2<b.length/\fV b i=k:=by
 unfold vI at h;rw[List.mem_filter,List.mem_range]at h;exact ⟨h.1,by simpa using h.2⟩
theorem mG (b:List Nat) (at_:Nat) (k:Nat×Nat×Nat):(vI b at_ k).length<=at_:=by
 unfold vI;have:=List.length_filter_le (fun i=>decide (i+2<b.length/\fV b i=k)) (List.range at_);simpa using this
theorem z2U {b:List Nat} {at_:Nat} {k:Nat×Nat×Nat}:vI b (at_+1) k=vI b at_ k++if at_+2<b.length/\fV b at_=k then [at_] else []:=by
 unfold vI;rw[List.range_succ,List.filter_append];congr 1
 by_cases h:at_+2<b.length/\fV b at_=k
 ·rw[if_pos h];simp[h]
 ·rw[if_neg h];simp[h]
def Good (b:List Nat) (at_:Nat) (t:Nat×Nat):Prop:=t=(0,0)∨(3<=t.1/\t.1<=258/\1<=t.2/\t.2<=32768/\t.2<=at_/\at_+t.1<=b.length/\∀j,j<t.1->b.getD (at_-t.2+j) 0=b.getD (at_+j) 0)
theorem tu {b:List Nat} {at_:Nat} (hat:at_+2<b.length):∀(l:List Nat) (t:Nat×Nat),(∀i∈l,i<at_/\fV b i=fV b at_)->Good b at_ t->Good b at_ (zh b at_ l t):=by
 intro l;induction l with
 |nil=>intro t _ h;exact h
 |cons i r ih=>
  intro t hl h;unfold zh;by_cases hc:at_-i<=32768/\t.1<258
  ·rw[if_pos hc]
   refine ih _ (fun j hj=>hl j (by simp[hj])) ?_;have hi:=hl i (by simp);by_cases hs:t.1<eP b i at_
   ·rw[if_pos hs]
    have h3:=FC hat hi.2;have hlast:=wB (b:=b) (i:=i) (k:=at_) (j:=eP b i at_-1) (by omega);refine .inr ⟨h3,wz _ _ _,by simp only;omega,hc.1,by simp only;omega,by simp only;omega,fun j hj=>?_⟩;simp only at hj ⊢;rw[show at_-(at_-i)=i by omega];exact (wB hj).2
   ·rw[if_neg hs];exact h
  ·rw[if_neg hc];exact h
theorem nV (b:List Nat) (at_:Nat):Good b at_ (fG b at_):=by
 unfold fG;by_cases h:at_+2<b.length
 ·rw[if_pos h]
  refine tu h _ _ (fun i hi=>?_) (.inl rfl);have:=z3v (List.mem_reverse.1 hi);exact ⟨this.1,this.2.2⟩
 ·rw[if_neg h];exact .inl rfl
theorem z2h {b:List Nat}:∀f at_,(aJ b f at_).length<=f:=by
 intro f;induction f with
 |zero=>intro at_;exact Nat.le_refl _
 |succ f ih=>
  intro at_;unfold aJ;split
  ·simp
  ·simp only[List.length_cons];have:=ih (at_+max (fG b at_).1 1);omega
def Ky (s:Nat):Nat:=if s<144 then 48+s else if s<256 then 256+s else if s<280 then s-256 else s-88
def Gy (s:Nat):Nat:=if s<144 then 8 else if s<256 then 9 else if s<280 then 7 else 8
def jV (s:Nat):List Bool:=EU (Ky s) (Gy s)
def zi (b m:Nat):Nat->Nat->Nat
 |0,x=>x
 |f+1,x=>if b * 2 ^ x<=m then zi b m f (x+1) else x
def mX (m:Nat):Nat:=zi 8 m 9 1
def jy (e:Nat):Nat:=zi 4 e 20 0
def zA (n:Nat):List Bool:=
 if n=258 then jV 285 else if n<11 then jV (254+n) else jV (257+4 * mX (n-3)+(n-3) / 2 ^ mX (n-3))++zB (n-3) (mX (n-3))
def z11 (e:Nat):List Bool:=if e<2 then EU e 5 else EU (2 * jy e+e / 2 ^ jy e) 5++zB e (jy e)
def vJ (t:Tok):List Bool:=if t.len=0 then jV t.byte else zA t.len++z11 (t.dist-1)
def vg (l:List Tok):List Bool:=zB 3 3++l.flatMap vJ
def kD (l:List Tok):List Bool:=vg l++jV 256
theorem Jb {b m:Nat}:∀f x,x<=zi b m f x/\zi b m f x<=x+f:=by
 intro f;induction f with
 |zero=>intro x;exact ⟨Nat.le_refl _,Nat.le_refl _⟩
 |succ f ih=>
  intro x;unfold zi;split
  ·have:=ih (x+1);omega
  ·omega
def mg (n:Nat):Nat:=[0,0x1db71064,0x3b6e20c8,0x26d930ac,0x76dc4190,0x6b6b51f4,0x4db26158,0x5005713c,0xedb88320,0xf00f9344,0xd6d6a3e8,0xcb61b38c,0x9b64c2b0,0x86d3d2d4,0xa00ae278,0xbdbdf21c].getD n 0
def AQ (c:Nat):Nat:=c / 16 ^^^ mg (c % 16)
def Du (c x:Nat):Nat:=AQ (AQ (c ^^^ x))
def jo (c:Nat) (xs:List Nat):Nat:=xs.foldl Du c
def sumF (xs:List Nat):Nat:=4294967295-jo 4294967295 xs
theorem tH (n:Nat):mg n<4294967296:=by
 by_cases h:n<16
 ·have:∀n,n<16->mg n<4294967296:=by decide
  exact this n h
 ·unfold mg
  rw[List.getD_eq_getElem?_getD,List.getElem?_eq_none (by simp;omega)];decide
theorem kG {c:Nat} (h:c<4294967296):AQ c<4294967296:=Nat.xor_lt_two_pow (n:=32) (by omega) (tH _)
theorem Jq {c x:Nat} (h:c<4294967296) (hx:x<256):Du c x<4294967296:=kG (kG (Nat.xor_lt_two_pow (n:=32) h (by omega)))
theorem OI {xs:List Nat}:∀{c:Nat},c<4294967296->okB xs->jo c xs<4294967296:=by
 induction xs with
 |nil=>intro c h _;exact h
 |cons x xs ih=>
  intro c h ok;exact ih (Jq h (ok x (by simp))) fun y hy=>ok y (by simp[hy])
theorem JE (c:Nat) (xs ys:List Nat):jo c (xs++ys)=jo (jo c xs) ys:=by simp[jo,List.foldl_append]
theorem Oo (xs:List Nat):sumF xs<4294967296:=by unfold sumF;omega
def four (n:Nat):List Nat:=[n % 256,n / 256 % 256,n / 65536 % 256,n / 16777216 % 256]
def iJ (xs:List Nat):List Nat:=xs++four (sumF xs)
theorem Zh (xs:List Nat):(iJ xs).length=xs.length+4:=by simp[iJ,four]
def JR (b:List Nat):Prop:=4<=b.length/\b.drop (b.length-4)=four (sumF (b.take (b.length-4)))
instance (b:List Nat):Decidable (JR b):=by unfold JR;exact inferInstance
def cnt (zs:List Int) (m:Nat):Nat:=zs.count (m:Int)
def TB (zs:List Int) (m k:Nat):List Int:=((List.range k).filter fun s=>zs.getD s 0==(m:Int)).map fun s:Nat=>(s:Int)
def sorted (zs:List Int):Nat->List Int
 |0=>[]
 |j+1=>sorted zs j++TB zs (j+1) zs.length
end Go.Proofs.YtdbfejfhpkakhaaGreat
