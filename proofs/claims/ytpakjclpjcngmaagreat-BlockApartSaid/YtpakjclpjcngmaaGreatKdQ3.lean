/- Contracts and plain laws that the last text rests on. Conditions: each theorem states its own. -/
import Derived.Test.YtpakjclpjcngmaaGreatKdQ1
import Derived.Test.YtpakjclpjcngmaaGreatKdQ2
import Derived.Laws.BytesArg
import Derived.Laws.BitsAllLaws
set_option maxRecDepth 100000
set_option maxHeartbeats 400000
set_option linter.unusedVariables false
namespace Go.Proofs.YtpakjclpjcngmaaGreat
open Go.RowKit
def bl (xs:List Nat):List Value:=xs.map fun x:Nat=>.int .u8 (x:Int)
def okB (xs:List Nat):Prop:=∀x∈xs,x<256
theorem Yr (xs:List Nat):(bl xs).length=xs.length:=by simp[bl]
theorem kR (xs:List Nat):∀u∈bl xs,u.oneCell'=true:=by
 intro u hu;simp only[bl,List.mem_map]at hu;obtain ⟨x,_,rfl⟩:=hu;rfl
theorem z19 {xs:List Nat} (h:okB xs) (i:Nat):xs.getD i 0<256:=by
 by_cases hi:i<xs.length
 ·have e:xs.getD i 0=xs[i]:=by simp[List.getD,hi]
  rw[e];exact h _ (List.getElem_mem hi)
 ·rw[z5l xs i 0 (by omega)];omega
theorem Pn {xs:List Nat} {i:Nat} (h:i<xs.length):(bl xs)[i]?=some (.int .u8 (xs.getD i 0:Int)):=by
 simp[bl,List.getD,h]
theorem Tryz.info5:(Tryz.prog.info? 5).map (fun i=>(i.zero,i.size,i.bytes))=some (some (.int .u8 0),1,1):=by kernel_rfl
def aX (xs:List Nat):ByteArray:=⟨(xs.map UInt8.ofNat).toArray⟩
theorem z5b {xs ys:List Nat} (hx:okB xs) (hy:okB ys) (h:aX xs=aX ys):xs=ys:=by
 have h1:xs.map UInt8.ofNat=ys.map UInt8.ofNat:=by
  have:=congrArg (fun s:ByteArray=>s.data.toList) h;simpa [aX]using this
 have h2:=congrArg (List.map UInt8.toNat) h1;rw[List.map_map,List.map_map]at h2
 have e:∀l:List Nat,okB l->l.map (UInt8.toNat ∘ UInt8.ofNat)=l:=by
  intro l hl;induction l with
  |nil=>rfl
  |cons x l ih=>
   rw[List.map_cons,ih (fun y hy=>hl y (by simp[hy]))];have:=hl x (by simp);simp;omega
 rwa [e _ hx,e _ hy]at h2
theorem z5D (xs:List Nat):(aX xs).size=xs.length:=by simp[aX,ByteArray.size]
theorem rX {P:Program} (w:World) (src dst e:TypeId) (hs:P.underlying src=some (.slice e)) (he:P.underlying e=some (.int .u8)) (hd:P.underlying dst=some .string)
 (D:Nat->Prop) (A:Option Addr) (n c:Nat) (xs:List Nat) (h:Rd w D 1 A n (bl xs)):
 (convert src dst (.slice A n c)).run P w=.ok (.string (aX xs)) w:=by
 have hlen:xs.length=n:=by have:=h.1;rw[Yr]at this;omega
 rw[run_convert_bytes_string w src dst e _ n c hs he hd];have e0:bl xs=(xs.map fun x:Nat=>(x:Int)).map (Value.int .u8):=by simp[bl]
 have fin:∀a:Addr,(loadCells a n).run P w=.ok (bl xs).toArray w->(Conv.bytesToString (.slice (some a) n c)).run P w=.ok (.string (aX xs)) w:=by
  intro a hl;rw[e0]at hl;rw[run_bytesToString w a n c _ hl,foldl_push_bytes];congr 2
  simp[aX,ByteArray.empty,ByteArray.emptyWithCapacity];rfl
 rcases A with _|a
 ·have:n=0:=by
   rcases Nat.eq_zero_or_pos n with h0|h0
   ·exact h0
   ·obtain ⟨_,h,_⟩:=h.2 h0;cases h
  subst this;have:xs=[]:=List.eq_nil_of_length_eq_zero hlen;subst this;simp[Conv.bytesToString,aX];rfl
 ·refine fin a ?_
  have:=run_loadCells_list (P:=P) w a (bl xs) (fun j v hj=>by
   rcases Nat.eq_zero_or_pos n with h0|h0
   ·subst h0
    have:xs=[]:=List.eq_nil_of_length_eq_zero hlen;subst this;simp[bl]at hj
   ·obtain ⟨a',e,_,hc⟩:=h.2 h0
    injection e with e;subst e;exact hc j v hj)
  rw[Yr,hlen]at this;exact this
theorem z2o {w:World} {base:Nat} {e:TypeId} {size n:Nat} {v:Value} {xs:List Value} (h:w.ownsRow base e size v n xs) {g:Nat} (hb:v.ownBlock=some g):
 ∃cap,v=.slice (some ⟨g,0,none⟩) n cap/\n<=cap/\cap<=maxLen:=by
 rcases h.2 with ⟨rfl,_⟩|⟨g',cap,cur,rfl,_,_,h1,h2,_⟩
 ·simp[Value.ownBlock]at hb
 ·simp[Value.ownBlock]at hb
  subst hb;exact ⟨cap,rfl,h1,h2⟩
theorem z67 {w w1:World} {e:TypeId} {size n:Nat} {v':Value} {xs:List Value}
 (hown:w1.ownsRow w.heap.size e size v' (0+n) ([]++xs)) (hg:(w.alloc (.cells #[] e)).grownBy w1 (Value.ownBlock (.slice (some ⟨w.heap.size,0,none⟩) 0 0)))
 (hat:v'.ownBlock=Value.ownBlock (.slice (some ⟨w.heap.size,0,none⟩) 0 0)∨v'.ownBlock=some (w.alloc (.cells #[] e)).heap.size):
 ∃k cap,v'=.slice (some ⟨k,0,none⟩) n cap/\w.heap.size<=k/\k<w1.heap.size/\Rd w1 (· =k) size (some ⟨k,0,none⟩) n xs/\Nx w w1/\w1.ownsRow w.heap.size e size (.slice (some ⟨k,0,none⟩) n cap) n xs:=by
 have hnx:Nx w w1:=((Ch.refl _ w).alloc _).grown hg (fun k hk hlt=>by simp[Value.ownBlock]at hk;omega)
 obtain ⟨k,hk,hk1⟩:∃k,v'.ownBlock=some k/\w.heap.size<=k:=by
  rcases hat with e|e
  ·exact ⟨_,e,Nat.le_refl _⟩
  ·exact ⟨_,e,by simp⟩
 simp only[Nat.zero_add,List.nil_append]at hown;obtain ⟨cap,hv,h1,h2⟩:=z2o hown hk;have hlt:=(hown.lt k hk).2;subst hv;refine ⟨k,cap,rfl,hk1,hlt,(Rd.dh hown).more ?_,hnx,hown⟩;rintro j ⟨hj,_⟩;simpa [Value.ownBlock]using hj.symm
def abx (w:World) (xs:List Nat) (e:Ending) (w':World):Prop:=
 ∃k cap,e=.returned (.slice (some ⟨k,0,none⟩) xs.length cap)/\w.heap.size<=k/\k<w'.heap.size/\w'.ownsRow w.heap.size 5 1 (.slice (some ⟨k,0,none⟩) xs.length cap) xs.length (bl xs)/\
  Rd w' (· =k) 1 (some ⟨k,0,none⟩) xs.length (bl xs)/\Nx w w'
theorem QL (D D':Nat->Prop) (A B:Option Addr) (n c m d:Nat) (xs ys:List Nat) (w:World) (hx:Rd w D 1 A n (bl xs)) (hy:Rd w D' 1 B m (bl ys)) (ox:okB xs) (oy:okB ys):
 Calls Tryz.prog 17 #[.slice A n c,.slice B m d] w fun e w'=>e=.returned (.bool (decide (xs=ys)))/\w=w':=by
 have e1:=rX (P:=Tryz.prog) w 26 9 5 Tryz.underlying26 Tryz.underlying5 Tryz.underlying9 D A n c xs hx;have e2:=rX (P:=Tryz.prog) w 26 9 5 Tryz.underlying26 Tryz.underlying5 Tryz.underlying9 D' B m d ys hy;have Hinj:Hid (aX xs=aX ys->xs=ys):=z5b ox oy;clear hx hy ox oy;generalize hsx:aX xs=sx at *;generalize hsy:aX ys=sy at *;have HX:=ah hsx;have HY:=ah hsy;clear hsx hsy;go_enter Tryz.func17,Tryz.ntmps17;go_wp2
 go_ret;refine ⟨?_,rfl⟩
 have hq:(sx.toList==sy.toList)=decide (xs=ys):=by
  rw[Bool.eq_iff_iff,beq_iff_eq,decide_eq_true_iff];constructor
  ·intro h
   refine Hinj.out ?_;rw[ByteArray.toList_eq,ByteArray.toList_eq]at h;cases sx;cases sy
   simpa [Array.ext_iff]using congrArg List.toArray h
  ·rintro rfl
   rw[←HX.out,←HY.out]
 simp[hq]
end Go.Proofs.YtpakjclpjcngmaaGreat
namespace Go.Proofs.YtpakjclpjcngmaaGreat
section
variable {α : Type}
def j_ (lt:α->α->Bool) (x:α) (l:List α):Nat->Nat
 |0=>0
 |n+1=>match l[n]? with
  |some y=>if lt x y=true then j_ lt x l n else n+1
  |none=>n+1
def mD (lt:α->α->Bool) (x:α) (l:List α):List α:=l.take (j_ lt x l l.length)++[x]++l.drop (j_ lt x l l.length)
def fK (lt:α->α->Bool) (l:List α):List α:=l.foldl (fun a x=>mD lt x a) []
theorem KH (lt:α->α->Bool) (x:α) (l:List α):∀n,j_ lt x l n<=n
 |0=>Nat.le_refl _
 |n+1=>by
  unfold j_;split
  ·split
   ·exact Nat.le_succ_of_le (KH lt x l n)
   ·exact Nat.le_refl _
  ·exact Nat.le_refl _
theorem qh (lt:α->α->Bool) (x:α) (l:List α):∀n i y,j_ lt x l n<=i->i<n->l[i]?=some y->lt x y=true
 |0,i,y,h1,h2,h3=>by omega
 |n+1,i,y,h1,h2,h3=>by
  unfold j_ at h1;split at h1
  ·next z hz=>
   split at h1
   ·next hlt=>
    by_cases e:i=n
    ·subst e
     rw[h3]at hz;injection hz with hz;rw[hz];exact hlt
    ·exact qh lt x l n i y h1 (by omega) h3
   ·omega
  ·omega
theorem KI (lt:α->α->Bool) (x:α) (l:List α):∀n,n<=l.length->0<j_ lt x l n->∃y,l[j_ lt x l n-1]?=some y/\lt x y=false
 |0,_,h=>by simp[j_]at h
 |n+1,hn,h=>by
  have hg:l[n]?=some (l[n]'(by omega)):=List.getElem?_eq_getElem (by omega);unfold j_ at h ⊢;rw[hg]at h ⊢;simp only at h ⊢;by_cases hlt:lt x l[n]=true
  ·rw[if_pos hlt]at h ⊢
   exact KI lt x l n (by omega) h
  ·rw[if_neg hlt]
   exact ⟨_,hg,by simpa using hlt⟩
theorem Cc {β:Type} (f:β->α) (lt:α->α->Bool) (x:β) (l:List β):∀n,j_ (fun a b=>lt (f a) (f b)) x l n=j_ lt (f x) (l.map f) n
 |0=>rfl
 |n+1=>by
  unfold j_;rw[List.getElem?_map,Cc f lt x l n];cases l[n]? with
  |none=>rfl
  |some y=>rfl
theorem SB {β:Type} (f:β->α) (lt:α->α->Bool) (x:β) (l:List β):(mD (fun a b=>lt (f a) (f b)) x l).map f=mD lt (f x) (l.map f):=by
 unfold mD;rw[Cc,List.length_map];simp[List.map_take,List.map_drop]
theorem vK {β:Type} (f:β->α) (lt:α->α->Bool) (l:List β):(fK (fun a b=>lt (f a) (f b)) l).map f=fK lt (l.map f):=by
 unfold fK;suffices H:∀(l a:List β),(l.foldl (fun a x=>mD (fun a b=>lt (f a) (f b)) x a) a).map f=(l.map f).foldl (fun a x=>mD lt x a) (a.map f) from H l []
 intro l;induction l with
 |nil=>intro a;rfl
 |cons x l ih=>
  intro a;rw[List.foldl_cons,List.map_cons,List.foldl_cons,ih,SB]
theorem wG (lt:α->α->Bool) (x:α) (l:List α):(mD lt x l).Perm (x::l):=by
 unfold mD;conv=>rhs;rw[←List.take_append_drop (j_ lt x l l.length) l]
 rw[List.append_assoc,List.singleton_append];exact List.perm_middle
def dW (l:List α):List (Tg α):=l.zipIdx.map fun p=>⟨p.1,p.2⟩
theorem Yo (l:List α):(dW l).length=l.length:=by simp[dW]
theorem z42 (l:List α) (i:Nat) (h:i<(dW l).length):(dW l)[i]=⟨l[i]'(by rw[Yo]at h;exact h),i⟩:=by simp[dW]
theorem oQ (l:List α):(dW l).map (fun x=>x.row)=l:=by
 apply List.ext_getElem
 ·simp[dW]
 ·intro i h1 h2
  simp[dW]
variable {lt : α → α → Bool}
def Nz (lt:α->α->Bool) (a b:Tg α):Bool:=lt a.row b.row
theorem Ik (w:Weak lt) {x:Tg α} {l:List (Tg α)} (s:l.Pairwise (Rt lt)) (ht:∀y∈l,y.tag<x.tag):(mD (Nz lt) x l).Pairwise (Rt lt):=by
 have hp:=KH (Nz lt) x l l.length;unfold mD;generalize hP:j_ (Nz lt) x l l.length=p at *;have s':(l.take p++l.drop p).Pairwise (Rt lt):=by rw[List.take_append_drop];exact s
 refine z2M w s' (fun y hy=>?_) (fun y hy=>?_)
 ·obtain ⟨i,hi,rfl⟩:=List.mem_iff_getElem.1 hy
  rw[List.length_take]at hi;rw[List.getElem_take];have h0:0<j_ (Nz lt) x l l.length:=by omega
  obtain ⟨z,hz,hlt⟩:=KI (Nz lt) x l l.length (Nat.le_refl _) h0;rw[hP]at hz;have hpl:p-1<l.length:=by omega
  rw[List.getElem?_eq_getElem hpl]at hz;injection hz with hz;have hzx:Rt lt z x:=Rt.qo w (by rw[←hz];exact ht _ (List.getElem_mem hpl)) hlt;by_cases e:i=p-1
  ·subst e
   rw[hz];exact hzx
  ·have:=List.pairwise_iff_getElem.1 s i (p-1) (by omega) hpl (by omega)
   rw[hz]at this;exact this.trans w hzx
 ·obtain ⟨i,hi,rfl⟩:=List.mem_iff_getElem.1 hy
  rw[List.length_drop]at hi;rw[List.getElem_drop];exact .inl (qh (Nz lt) x l l.length (p+i) _ (by omega) (by omega) (List.getElem?_eq_getElem (by omega)))
theorem BH (w:Weak lt) (l:List α):(fK (Nz lt) (dW l)).Pairwise (Rt lt)/\(fK (Nz lt) (dW l)).Perm (dW l):=by
 suffices H:∀k,k<=l.length->(fK (Nz lt) ((dW l).take k)).Pairwise (Rt lt)/\(fK (Nz lt) ((dW l).take k)).Perm ((dW l).take k) by
  have:=H l.length (Nat.le_refl _);rw[List.take_of_length_le (by rw[Yo];exact Nat.le_refl _)]at this;exact this
 intro k;induction k with
 |zero=>intro _;simp[fK]
 |succ k ih=>
  intro hk;obtain ⟨h1,h2⟩:=ih (by omega);have hkl:k<(dW l).length:=by rw[Yo];omega
  have e:fK (Nz lt) ((dW l).take (k+1))=mD (Nz lt) (dW l)[k] (fK (Nz lt) ((dW l).take k)):=by
   unfold fK;rw[List.take_succ_eq_append_getElem hkl,List.foldl_append];rfl
  rw[e];refine ⟨Ik w h1 fun y hy=>?_,?_⟩
  ·have hy2:=h2.subset hy
   obtain ⟨i,hi,rfl⟩:=List.mem_iff_getElem.1 hy2;rw[List.length_take]at hi;rw[List.getElem_take,z42,z42];show i<k
   omega
  ·refine (wG _ _ _).trans ?_
   rw[List.take_succ_eq_append_getElem hkl];exact (List.Perm.cons _ h2).trans (List.perm_append_singleton _ _).symm
theorem z5K (w:Weak lt) {l:List α} {r:List (Tg α)} (hp:r.Perm (dW l)) (hs:r.Pairwise (Rt lt)):r.map (fun x=>x.row)=fK lt l:=by
 obtain ⟨h1,h2⟩:=BH w l;rw[Rt.sU w (hp.trans h2.symm) hs h1];have:=vK (fun x:Tg α=>x.row) lt (dW l);rw[oQ]at this;exact this
end
structure dO where
 name:ByteArray
 value:ByteArray
structure Mat where
 name:ByteArray
 way:Int
 value:ByteArray
structure au where
 kind:Int
 time:Int
 aB:List dO
 text:ByteArray
 value:Int
 null:Bool
 maker:Int
 seq:Int
 place:Int
structure aeI where
 lo:Int
 hi:Int
 ms:List Mat
 limit:Int
 texts:Bool
def jS (a b:ByteArray):Bool:=decide (a.data.toList<b.data.toList)
theorem Jy {a b c:ByteArray} (h:jS a b=true) (k:jS b c=true):jS a c=true:=by
 unfold jS at *;rw[decide_eq_true_iff]at *;exact List.lt_trans h k
theorem Uw (a:ByteArray):jS a a=false:=by
 unfold jS;rw[decide_eq_false_iff_not];exact List.lt_irrefl _
def iQ (c i:Nat):Bool:=decide (97<=c/\c<=122)||(decide (0<i)&&(decide (48<=c/\c<=57)||decide (c=95)))
def lN (s:ByteArray) (i:Nat):Nat:=(s.data[i]?.getD 0).toNat
def fM (s:ByteArray):Bool:=decide (1<=s.size/\s.size<=8)&&(List.range s.size).all fun i=>iQ (lN s i) i
def jy (l:List dO) (i:Nat):dO:=l.getD i ⟨⟨#[]⟩,⟨#[]⟩⟩
def ni (l:List dO) (i:Nat):Bool:=fM (jy l i).name&&decide ((jy l i).value.size<=16)&&(decide (i=0)||jS (jy l (i-1)).name (jy l i).name)
def jU (l:List dO):Bool:=decide (l.length<=4)&&(List.range l.length).all fun i=>ni l i
def qI:List dO->ByteArray->Option ByteArray
 |[],_=>none
 |x::l,n=>if x.name=n then some x.value else qI l n
def iw (x y:au):Bool:=decide (x.time<y.time∨(x.time=y.time/\(x.maker<y.maker∨(x.maker=y.maker/\(x.seq<y.seq∨(x.seq=y.seq/\x.place<y.place))))))
theorem z4e:Weak iw:=by
 refine ⟨fun x y h=>?_,fun x y z h k=>?_,fun x y z h k=>?_⟩
 ·unfold iw at *
  rw[decide_eq_true_iff]at h;rw[decide_eq_false_iff_not];omega
 ·unfold iw at *
  rw[decide_eq_true_iff]at *;omega
 ·unfold iw at *
  rw[decide_eq_false_iff_not]at *;omega
/-! the document's forms -/
theorem z2C {n:Nat} {p:Nat->Bool}:((List.range n).all p=true)↔∀i,i<n->p i=true:=by
 rw[List.all_eq_true];exact ⟨fun h i hi=>h i (List.mem_range.2 hi),fun h i hi=>h i (List.mem_range.1 hi)⟩
namespace Ps
def EW (c:Nat):Bool:=decide (32<=c/\c<=126/\c≠34/\c≠92)
def AB (c:Nat):Option Nat:=if 48<=c/\c<=57 then some (c-48) else if 97<=c/\c<=102 then some (c-87) else none
def iC:List UInt8->Option (UInt8×Nat)
 |[]=>none
 |c::r=>if c.toNat=92 then (match r with
   |a::b::_=>match AB a.toNat,AB b.toNat with
    |some x,some y=>if EW (16 * x+y)=true then none else some (UInt8.ofNat (16 * x+y),3)
    |_,_=>none
   |_=>none) else if EW c.toNat=true then some (c,1) else none
def xU:Nat->List UInt8->Option (List UInt8×List UInt8)
 |0,_=>none
 |_+1,[]=>none
 |f+1,c::r=>if c.toNat=34 then some ([],r) else match iC (c::r) with
  |none=>none
  |some (b,n)=>(xU f ((c::r).drop n)).map fun p=>(b::p.1,p.2)
def fF (x:List UInt8):Option (List UInt8×List UInt8):=xU (x.length+1) x
theorem z3v {x:List UInt8} {b:UInt8} {n:Nat} (h:iC x=some (b,n)):1<=n/\n<=x.length:=by
 unfold iC at h;split at h
 ·cases h
 ·split at h
  ·split at h
   ·split at h
    ·split at h
     ·cases h
     ·injection h with h
      injection h with _ h;subst h;simp
    ·cases h
   ·cases h
  ·split at h
   ·injection h with h
    injection h with _ h;subst h;simp
   ·cases h
theorem uS:∀(f g:Nat) (x:List UInt8),x.length<f->x.length<g->xU f x=xU g x
 |0,_,x,h,_=>by omega
 |_,0,x,_,h=>by omega
 |f+1,g+1,[],_,_=>rfl
 |f+1,g+1,c::r,h1,h2=>by
  unfold xU;split
  ·rfl
  ·cases ho:iC (c::r) with
   |none=>rfl
   |some p=>
    obtain ⟨b,n⟩:=p;obtain ⟨l1,l2⟩:=z3v ho;simp only;rw[uS f g ((c::r).drop n) (by rw[List.length_drop];omega) (by rw[List.length_drop];omega)]
theorem oM:fF []=none:=rfl
theorem Zu {c:UInt8} (r:List UInt8) (h:c.toNat=34):fF (c::r)=some ([],r):=by
 unfold fF xU;rw[if_pos h]
theorem z3l {c:UInt8} {r:List UInt8} (h:c.toNat≠34) (ho:iC (c::r)=none):fF (c::r)=none:=by
 unfold fF xU;rw[if_neg h,ho]
theorem Zv {c:UInt8} {r:List UInt8} {b:UInt8} {n:Nat} (h:c.toNat≠34) (ho:iC (c::r)=some (b,n)):fF (c::r)=(fF ((c::r).drop n)).map fun p=>(b::p.1,p.2):=by
 obtain ⟨l1,l2⟩:=z3v ho;have e:xU (c::r).length ((c::r).drop n)=fF ((c::r).drop n):=uS _ _ _ (by rw[List.length_drop];simp only[List.length_cons]at *;omega) (by omega);rw[←e];conv=>lhs;unfold fF xU
 rw[if_neg h,ho]
theorem Cm {c:UInt8} {r:List UInt8}:iC (c::(r++[125]))=iC (c::r):=by
 unfold iC;simp only;split
 ·cases r with
  |nil=>rfl
  |cons a r=>cases r with
   |nil=>
    simp only[List.nil_append,List.cons_append];have e:AB (125:UInt8).toNat=none:=(by decide);rw[e];cases AB a.toNat<;>rfl
   |cons b r=>rfl
 ·rfl
theorem Bg:∀(k:Nat) (x:List UInt8),x.length<=k->fF (x++[125])=(fF x).map fun p=>(p.1,p.2++[125])
 |k,[],_=>by decide
 |0,c::r,h=>by simp at h
 |k+1,c::r,h=>by
  by_cases hc:c.toNat=34
  ·rw[List.cons_append,Zu _ hc,Zu _ hc]
   rfl
  ·cases ho:iC (c::r) with
   |none=>rw[List.cons_append,z3l hc (by rw[Cm];exact ho),z3l hc ho];rfl
   |some p=>
    obtain ⟨b,n⟩:=p;obtain ⟨l1,l2⟩:=z3v ho;have ho2:iC (c::(r++[125]))=some (b,n):=by rw[Cm];exact ho
    rw[List.cons_append,Zv hc ho2,Zv hc ho,←List.cons_append,List.drop_append_of_le_length l2,Bg k ((c::r).drop n) (by rw[List.length_drop];simp only[List.length_cons]at *;omega),Option.map_map,Option.map_map];rfl
theorem z5u:∀(k:Nat) (x v r:List UInt8),x.length<=k->fF x=some (v,r)->r.length<x.length
 |k,[],v,r,_,h=>by rw[oM]at h;cases h
 |0,c::y,v,r,h,_=>by simp at h
 |k+1,c::y,v,r,hk,h=>by
  by_cases hc:c.toNat=34
  ·rw[Zu _ hc]at h
   injection h with h;injection h with _ h;subst h;simp
  ·cases ho:iC (c::y) with
   |none=>rw[z3l hc ho]at h;cases h
   |some p=>
    obtain ⟨b,n⟩:=p;obtain ⟨l1,l2⟩:=z3v ho;rw[Zv hc ho]at h;cases hv:fF ((c::y).drop n) with
    |none=>rw[hv]at h;cases h
    |some q=>
     rw[hv]at h;obtain ⟨v',r'⟩:=q;injection h with h;injection h with _ h;simp only at h;subst h;have:=z5u k _ _ _ (by rw[List.length_drop];simp only[List.length_cons]at *;omega) hv;rw[List.length_drop]at this;omega
def jC:List UInt8->Option (List UInt8)
 |a::b::y=>if a.toNat=61/\b.toNat=34 then some y else none
 |_=>none
def jB:List UInt8->Option Nat
 |[]=>none
 |a::r=>if (jC (a::r)).isSome then some 0 else (jB r).map (· +1)
def ny (c:UInt8):Bool:=iQ c.toNat 1
def jg (l:List UInt8):ByteArray:=⟨l.toArray⟩
def comma:List UInt8->Option (List UInt8)
 |[]=>none
 |c::r=>if c.toNat=44 then some r else none
def je:Nat->List UInt8->List dO->Option (List dO)
 |0,_,_=>none
 |f+1,x,out=>if x=[] then (if jU out=true then some out else none) else
  match (if out=[] then some x else comma x) with
  |none=>none
  |some y=>match jB y with
   |none=>none
   |some n=>if 4<out.length then none else match fF (y.drop (n+2)) with
    |none=>none
    |some (v,r)=>je f r (out++[⟨jg (y.take n),jg v⟩])
def IU (x:List UInt8) (out:List dO):Option (List dO):=if x=[125]/\jU out=true then some out else none
def Wx:Nat->List UInt8->List dO->Option (List dO)
 |0,_,_=>none
 |f+1,x,out=>if 5<=out.length then IU x out else
  match jC (x.drop (x.takeWhile ny).length) with
  |none=>none
  |some y=>match fF y with
   |none=>none
   |some (v,r)=>match r with
    |[]=>none
    |c::r'=>if c.toNat=44 then Wx f r' (out++[⟨jg (x.takeWhile ny),jg v⟩]) else IU r (out++[⟨jg (x.takeWhile ny),jg v⟩])
theorem z2A (a b:UInt8) (y:List UInt8):jC (a::b::y)=if a.toNat=61/\b.toNat=34 then some y else none:=rfl
theorem wQ {x y:List UInt8} (h:jC x=some y):∃a b,x=a::b::y/\a.toNat=61/\b.toNat=34:=by
 unfold jC at h;split at h
 ·next a b z=>
  split at h
  ·next hh=>
   injection h with h;subst h;exact ⟨a,b,rfl,hh.1,hh.2⟩
  ·cases h
 ·cases h
theorem zq:∀{x:List UInt8} {n:Nat},jB x=some n->∃y,jC (x.drop n)=some y/\y=x.drop (n+2)/\n+2<=x.length
 |[],n,h=>by cases h
 |a::r,n,h=>by
  unfold jB at h;split at h
  ·next hs=>
   injection h with h;subst h;obtain ⟨y,hy⟩:=Option.isSome_iff_exists.1 hs;obtain ⟨a',b',e,_,_⟩:=wQ hy;refine ⟨y,hy,?_,?_⟩
   ·rw[e];rfl
   ·rw[e];simp
  ·obtain ⟨m,hm,e⟩:=Option.map_eq_some_iff.1 h
   subst e;obtain ⟨y,h1,h2,h3⟩:=zq hm;exact ⟨y,h1,h2,by simp only[List.length_cons];omega⟩
theorem wJ:∀{x:List UInt8} {n j:Nat},jB x=some n->(jC (x.drop j)).isSome=true->n<=j
 |[],n,j,h,_=>by cases h
 |a::r,n,0,h,h2=>by
  unfold jB at h;rw[List.drop_zero]at h2;rw[if_pos h2]at h;injection h with h;omega
 |a::r,n,j+1,h,h2=>by
  unfold jB at h;split at h
  ·injection h with h
   omega
  ·obtain ⟨m,hm,e⟩:=Option.map_eq_some_iff.1 h
   subst e;have:=wJ hm (j:=j) (by simpa using h2);omega
theorem Du:∀{x:List UInt8} (j:Nat),jB x=none->jC (x.drop j)=none
 |[],j,_=>by rw[List.drop_nil];rfl
 |a::r,0,h=>by
  unfold jB at h;split at h
  ·cases h
  ·next hs=>
   rw[List.drop_zero];simpa using hs
 |a::r,j+1,h=>by
  unfold jB at h;split at h
  ·cases h
  ·exact Du (x:=r) j (by simpa using h)
theorem Xm {x:List UInt8}:jC (x++[125])=(jC x).map (· ++[125]):=by
 match x with
 |[]=>rfl
 |[a]=>
  show jC [a,125]=none
  rw[z2A,if_neg (by intro h;exact absurd h.2 (by decide))]
 |a::b::y=>
  show jC (a::b::(y++[125]))=_
  rw[z2A,z2A];split<;>rfl
theorem FD (x:List UInt8):(x++[125]).takeWhile ny=x.takeWhile ny:=by
 induction x with
 |nil=>decide
 |cons a r ih=>
  rw[List.cons_append,List.takeWhile_cons,List.takeWhile_cons,ih]
theorem WV {c i:Nat} (h:iQ c i=true):iQ c 1=true:=by
 unfold iQ at *;simp only[Bool.or_eq_true,Bool.and_eq_true,decide_eq_true_eq]at *;rcases h with h|h
 ·exact .inl h
 ·exact .inr ⟨by decide,h.2⟩
theorem EF {l:List UInt8} {c:UInt8} (hc:c∈l) (h:ny c=false):fM (jg l)=false:=by
 cases hn:fM (jg l) with
 |false=>rfl
 |true=>
  exfalso
  unfold fM at hn;rw[Bool.and_eq_true,List.all_eq_true]at hn;obtain ⟨i,hi⟩:=List.mem_iff_getElem?.1 hc;have hil:i<l.length:=(List.getElem?_eq_some_iff.1 hi).1;have h2:=hn.2 i (List.mem_range.2 (by show i<l.toArray.size;simpa using hil))
  have e:lN (jg l) i=c.toNat:=by
   unfold lN jg;simp[hi]
  rw[e]at h2;have h3:=WV h2;unfold ny at h;rw[h]at h3;cases h3
theorem Pg {out:List dO} {x:dO} (hx:x∈out) (h:fM x.name=false):jU out=false:=by
 obtain ⟨i,hi,rfl⟩:=List.mem_iff_getElem.1 hx;unfold jU;rw[Bool.and_eq_false_iff];right
 rw[List.all_eq_false];refine ⟨i,List.mem_range.2 hi,?_⟩;unfold ni jy;rw[List.getD_eq_getElem?_getD,List.getElem?_eq_getElem hi,Option.getD_some,h];simp
theorem qy {out:List dO} (h:4<out.length):jU out=false:=by
 unfold jU;rw[decide_eq_false (by omega)];rfl
theorem KG:∀(f:Nat) (x:List UInt8) (out:List dO),(∃z∈out,fM z.name=false)->je f x out=none
 |0,_,_,_=>rfl
 |f+1,x,out,⟨z,hz,hn⟩=>by
  unfold je;split
  ·rw[Pg hz hn]
   rfl
  ·split
   ·rfl
   ·split
    ·rfl
    ·split
     ·rfl
     ·split
      ·rfl
      ·exact KG f _ _ ⟨z,List.mem_append_left _ hz,hn⟩
theorem FW {l:List UInt8} {n:Nat} (h:∀c∈l.take n,ny c=true) (h2:∀c,l[n]?=some c->ny c=false) (hn:n<=l.length):l.takeWhile ny=l.take n:=by
 induction n generalizing l with
 |zero=>
  cases l with
  |nil=>rfl
  |cons a l=>
   rw[List.takeWhile_cons,if_neg (by rw[h2 a rfl];decide)];rfl
 |succ n ih=>
  cases l with
  |nil=>simp at hn
  |cons a l=>
   rw[List.takeWhile_cons,if_pos (h a (by simp)),List.take_succ_cons];congr 1
   exact ih (fun c hc=>h c (by rw[List.take_succ_cons];exact List.mem_cons_of_mem _ hc)) (fun c hc=>h2 c (by simpa using hc)) (by simpa using hn)
def jA (f:Nat) (y:List UInt8) (out:List dO):Option (List dO):=match jB y with
 |none=>none
 |some n=>if 4<out.length then none else match fF (y.drop (n+2)) with
  |none=>none
  |some (v,r)=>je f r (out++[⟨jg (y.take n),jg v⟩])
theorem z3u (f:Nat) {x:List UInt8} (out:List dO) (hx:x≠[]):je (f+1) x out=match (if out=[] then some x else comma x) with
 |none=>none
 |some y=>jA f y out:=by
 conv=>lhs;unfold je
 rw[if_neg hx];rfl
theorem both:∀(k:Nat) (f g:Nat) (y:List UInt8) (out:List dO),y.length<=k->y.length<f->y.length+1<g->jA f y out=Wx g (y++[125]) out:=by
 intro k;induction k with
 |zero=>
  intro f g y out hk hf hg;obtain ⟨g,rfl⟩:∃g',g=g'+1:=⟨g-1,by omega⟩;have:y=[]:=List.eq_nil_of_length_eq_zero (by omega);subst this;show none=_
  unfold Wx;split
  ·next h=>
   unfold IU;rw[if_neg (by rw[qy (by omega)];simp)]
  ·rfl
 |succ k ih=>
  intro f g y out hk hf hg;obtain ⟨g,rfl⟩:∃g',g=g'+1:=⟨g-1,by omega⟩;unfold jA Wx;by_cases h5:5<=out.length
  ·rw[if_pos h5]
   unfold IU;rw[if_neg (by rw[qy (by omega)];simp)];split
   ·rfl
   ·rw[if_pos (by omega)]
  ·rw[if_neg h5,FD,List.drop_append_of_le_length ((List.takeWhile_prefix _).length_le),Xm]
   cases hi:jB y with
   |none=>rw[Du _ hi];rfl
   |some n=>
    obtain ⟨z,e1,e2,e3⟩:=zq hi;simp only;rw[if_neg (by omega)];by_cases hall:∀c∈y.take n,ny c=true
    ·have hw:y.takeWhile ny=y.take n:=by
      refine FW hall (fun c hc=>?_) (by omega);obtain ⟨a,b,e,ha,_⟩:=wQ e1;have h0:(y.drop n)[0]?=some a:=by rw[e];rfl
      rw[List.getElem?_drop,Nat.add_zero,hc]at h0;injection h0 with h0;subst h0;unfold ny;rw[ha];decide
     rw[hw,List.length_take,Nat.min_eq_left (by omega),e1];simp only[Option.map_some];rw[←e2,Bg _ _ (Nat.le_refl _)];cases hv:fF z with
     |none=>rfl
     |some p=>
      obtain ⟨v,r⟩:=p;have hl:=z5u _ _ _ _ (Nat.le_refl _) hv;have hzl:z.length+(n+2)=y.length:=by rw[e2,List.length_drop];omega
      simp only[Option.map_some];obtain ⟨f,rfl⟩:∃f',f=f'+1:=⟨f-1,by omega⟩;cases r with
      |nil=>
       show je (f+1) [] _=IU [125] _
       unfold je IU;rw[if_pos rfl];simp
      |cons c r=>
       rw[z3u f _ (by simp),if_neg (by simp)];simp only[List.cons_append];have ec:comma (c::r)=if c.toNat=44 then some r else none:=rfl
       rw[ec];by_cases hc:c.toNat=44
       ·rw[if_pos hc,if_pos hc]
        simp only[List.length_cons]at hl;exact ih f g r _ (by omega) (by omega) (by omega)
       ·rw[if_neg hc,if_neg hc]
        unfold IU;rw[if_neg (by intro h;have:=congrArg List.length h.1;simp at this)]
    ·obtain ⟨c,hc,hcl⟩:∃c∈y.take n,ny c=false:=by
      apply Classical.byContradiction
      intro hne
      exact hall fun c hc=>by
       cases h:ny c with
       |true=>rfl
       |false=>exact absurd ⟨c,hc,h⟩ hne
     have hwn:(y.takeWhile ny).length<n:=by
      rcases Nat.lt_or_ge (y.takeWhile ny).length n with h|h
      ·exact h
      ·exfalso
       have hp:y.take n=(y.takeWhile ny).take n:=by
        conv=>lhs;rw[←List.takeWhile_append_dropWhile (p:=ny) (l:=y)]
        rw[List.take_append_of_le_length h]
       rw[hp]at hc;have:=List.all_eq_true.1 (List.all_takeWhile (p:=ny) (l:=y)) c (List.mem_of_mem_take hc);rw[hcl]at this;cases this
     have hno:jC (y.drop (y.takeWhile ny).length)=none:=by
      cases he:jC (y.drop (y.takeWhile ny).length) with
      |none=>rfl
      |some q=>have:=wJ hi (j:=(y.takeWhile ny).length) (by rw[he];rfl);omega
     rw[hno];simp only[Option.map_none];split
     ·rfl
     ·next v r hv=>exact KG f r _ ⟨⟨jg (y.take n),jg v⟩,List.mem_append_right _ (List.mem_singleton.2 rfl),EF hc hcl⟩
def jX (s:List UInt8):Option (List dO):=
 if 2<=s.length/\s[0]?=some 123/\s[s.length-1]?=some 125 then je (s.length+1) ((s.drop 1).take (s.length-2)) [] else none
end Ps
section
variable {α : Type} {lt : α → α → Bool}
structure Runs (lt:α->α->Bool) (P A B S:List (Tg α)):Prop where
 sa:A.Pairwise (Rt lt)
 sb:B.Pairwise (Rt lt)
 tg:∀x∈A,∀y∈B,x.tag<y.tag
def oD (lt:α->α->Bool) (A B C:List (Tg α)):Prop:=C.Perm (A++B)/\C.Pairwise (Rt lt)
theorem oD.left {A:List (Tg α)} (h:A.Pairwise (Rt lt)):oD lt A [] A:=⟨by rw[List.append_nil],h⟩
theorem oD.right {A:List (Tg α)} (h:A.Pairwise (Rt lt)):oD lt [] A A:=⟨by rw[List.nil_append],h⟩
theorem MC (w:Weak lt) {P A B S:List (Tg α)} (h:Runs lt P A B S) {m b mid start end_:Nat} (hm:P.length+A.length=m) (hb:m+B.length=b) (wL:2 * mid<=P.length+b) (Dx:P.length+b<=2 * mid+1) (he:end_+start=mid+m) (h1:P.length<=start) (h2:start<=m) (h3:m<=end_) (h4:end_<=b)
 (hlo:∀(hs:P.length<start) (he:end_<b),∃x y,(P++A++B++S)[start-1]?=some x/\(P++A++B++S)[end_]?=some y/\Rt lt x y)
 (hhi:∀(hs:start<m) (he:m<end_),∃x y,(P++A++B++S)[end_-1]?=some x/\(P++A++B++S)[start]?=some y/\Rt lt x y):
 ∃A1 A2 B1 B2:List (Tg α),A=A1++A2/\B=B1++B2/\A1.length=start-P.length/\A2.length=m-start/\B1.length=end_-m/\B2.length=b-end_/\rotL (P++A++B++S) start m end_=P++(A1++B1)++(A2++B2)++S/\(∀x∈A1++B1,∀y∈A2++B2,Rt lt x y):=by
 refine ⟨A.take (start-P.length),A.drop (start-P.length),B.take (end_-m),B.drop (end_-m),(List.take_append_drop _ _).symm,(List.take_append_drop _ _).symm,by simp;omega,by simp;omega,by simp;omega,by simp;omega,?_,?_⟩
 ·obtain ⟨A1,A2,rfl,hA⟩:∃A1 A2:List (Tg α),A=A1++A2/\A1.length=start-P.length:=⟨_,_,(List.take_append_drop (start-P.length) A).symm,by simp;omega⟩
  obtain ⟨B1,B2,rfl,hB⟩:∃B1 B2:List (Tg α),B=B1++B2/\B1.length=end_-m:=⟨_,_,(List.take_append_drop (end_-m) B).symm,by simp;omega⟩;rw[List.length_append]at hm hb;have e1:(A1++A2).take (start-P.length)=A1:=by rw[←hA,List.take_left]
  have e2:(A1++A2).drop (start-P.length)=A2:=by rw[←hA,List.drop_left]
  have e3:(B1++B2).take (end_-m)=B1:=by rw[←hB,List.take_left]
  have e4:(B1++B2).drop (end_-m)=B2:=by rw[←hB,List.drop_left]
  rw[e1,e2,e3,e4];have hr:=z28 (P++A1) A2 B1 (B2++S);rw[show P++(A1++A2)++(B1++B2)++S=P++A1++A2++B1++(B2++S) by simp only[List.append_assoc],show start=(P++A1).length by rw[List.length_append];omega,show m=(P++A1).length+A2.length by rw[List.length_append];omega,show end_=(P++A1).length+A2.length+B1.length by rw[List.length_append];omega,hr];simp only[List.append_assoc]
 ·refine MH w (by rw[List.take_append_drop];exact h.sa) (by rw[List.take_append_drop];exact h.sb) (fun hA hB=>?_) (fun hB hA=>?_)
  ·have hA':=List.length_pos_iff.2 hA
   have hB':=List.length_pos_iff.2 hB;rw[List.length_take]at hA';rw[List.length_drop]at hB';obtain ⟨x,y,hx,hy,hxy⟩:=hlo (by omega) (by omega)
   have ex:x=(A.take (start-P.length)).getLast hA:=by
    rw[List.getLast_eq_getElem,List.getElem_take];rw[List.append_assoc,List.append_assoc,List.getElem?_append_right (by omega),List.getElem?_append_left (by omega),List.getElem?_eq_getElem (by omega)]at hx;injection hx with hx;rw[←hx];congr 1
    rw[List.length_take];omega
   have ey:y=(B.drop (end_-m)).head hB:=by
    rw[List.head_eq_getElem,List.getElem_drop];rw[List.append_assoc,List.append_assoc,List.getElem?_append_right (by omega),List.getElem?_append_right (by omega),List.getElem?_append_left (by omega),List.getElem?_eq_getElem (by omega)]at hy;injection hy with hy;rw[←hy];congr 1
    try omega
   rw[←ex,←ey];exact hxy
  ·have hA':=List.length_pos_iff.2 hA
   have hB':=List.length_pos_iff.2 hB;rw[List.length_drop]at hA';rw[List.length_take]at hB';obtain ⟨x,y,hx,hy,hxy⟩:=hhi (by omega) (by omega)
   have ex:x=(B.take (end_-m)).getLast hB:=by
    rw[List.getLast_eq_getElem,List.getElem_take];rw[List.append_assoc,List.append_assoc,List.getElem?_append_right (by omega),List.getElem?_append_right (by omega),List.getElem?_append_left (by omega),List.getElem?_eq_getElem (by omega)]at hx;injection hx with hx;rw[←hx];congr 1
    rw[List.length_take];omega
   have ey:y=(A.drop (start-P.length)).head hA:=by
    rw[List.head_eq_getElem,List.getElem_drop];rw[List.append_assoc,List.append_assoc,List.getElem?_append_right (by omega),List.getElem?_append_left (by omega),List.getElem?_eq_getElem (by omega)]at hy;injection hy with hy;rw[←hy];congr 1
    try omega
   rw[←ex,←ey];exact hxy
theorem Runs.one {P A1 A2 B1 B2 S P' S':List (Tg α)} (h:Runs lt P (A1++A2) (B1++B2) S):Runs lt P' A1 B1 S':=
 ⟨(List.pairwise_append.1 h.sa).1,(List.pairwise_append.1 h.sb).1,fun x hx y hy=>h.tg x (List.mem_append_left _ hx) y (List.mem_append_left _ hy)⟩
theorem Runs.two {P A1 A2 B1 B2 S P' S':List (Tg α)} (h:Runs lt P (A1++A2) (B1++B2) S):Runs lt P' A2 B2 S':=
 ⟨(List.pairwise_append.1 h.sa).2.1,(List.pairwise_append.1 h.sb).2.1,fun x hx y hy=>h.tg x (List.mem_append_right _ hx) y (List.mem_append_right _ hy)⟩
theorem oD.both {A1 A2 B1 B2 C1 C2:List (Tg α)} (h1:oD lt A1 B1 C1) (h2:oD lt A2 B2 C2) (ha:∀x∈A1++B1,∀y∈A2++B2,Rt lt x y):oD lt (A1++A2) (B1++B2) (C1++C2):=
 halves h1.1 h2.1 h1.2 h2.2 ha
theorem CB (w:Weak lt) {x:Tg α} {B:List (Tg α)} {k:Nat} (hk:k<=B.length) (sb:B.Pairwise (Rt lt)) (h1:0<k->∃y,B[k-1]?=some y/\Rt lt y x) (h2:k<B.length->∃y,B[k]?=some y/\Rt lt x y):oD lt [x] B (B.take k++[x]++B.drop k):=by
 refine ⟨?_,z2M w (by rw[List.take_append_drop];exact sb) (fun y hy=>?_) (fun y hy=>?_)⟩
 ·conv=>rhs;rw[←List.take_append_drop k B]
  rw[List.append_assoc,List.singleton_append];exact List.perm_middle
 ·obtain ⟨i,hi,rfl⟩:=List.mem_iff_getElem.1 hy
  rw[List.length_take]at hi;rw[List.getElem_take];obtain ⟨z,hz,hzx⟩:=h1 (by omega);rw[List.getElem?_eq_getElem (by omega)]at hz;injection hz with hz;by_cases e:i=k-1
  ·subst e;rw[hz];exact hzx
  ·have:=List.pairwise_iff_getElem.1 sb i (k-1) (by omega) (by omega) (by omega)
   rw[hz]at this;exact this.trans w hzx
 ·obtain ⟨i,hi,rfl⟩:=List.mem_iff_getElem.1 hy
  rw[List.length_drop]at hi;rw[List.getElem_drop];obtain ⟨z,hz,hzx⟩:=h2 (by omega);rw[List.getElem?_eq_getElem (by omega)]at hz;injection hz with hz;by_cases e:i=0
  ·subst e;rw[show B[k+0]=z from hz];exact hzx
  ·have:=List.pairwise_iff_getElem.1 sb k (k+i) (by omega) (by omega) (by omega)
   rw[hz]at this;exact hzx.trans w this
theorem Nq (w:Weak lt) {x:Tg α} {A:List (Tg α)} {k:Nat} (hk:k<=A.length) (sa:A.Pairwise (Rt lt)) (h1:0<k->∃y,A[k-1]?=some y/\Rt lt y x) (h2:k<A.length->∃y,A[k]?=some y/\Rt lt x y):oD lt A [x] (A.take k++[x]++A.drop k):=by
 have h:=CB w hk sa h1 h2;exact ⟨h.1.trans List.perm_append_comm,h.2⟩
theorem Hw (P S B:List (Tg α)) (x:Tg α) (k:Nat) (hk:k<B.length):iI (P++(B.take k++[x]++B.drop k)++S) (P.length+k) (P.length+k+1)=P++(B.take (k+1)++[x]++B.drop (k+1))++S:=by
 have e:=Gf (P++B.take k) (B.drop (k+1)++S) x B[k];rw[List.length_append,List.length_take,show min k B.length=k by omega]at e;rw[List.drop_eq_getElem_cons hk,List.take_succ_eq_append_getElem hk];simp only[List.append_assoc,List.cons_append,List.nil_append]at e ⊢;exact e
theorem Nv (P S A:List (Tg α)) (x:Tg α) (k:Nat) (hk:k<A.length):iI (P++(A.take (k+1)++[x]++A.drop (k+1))++S) (P.length+k+1) (P.length+k)=P++(A.take k++[x]++A.drop k)++S:=by
 have e:=oU (P++A.take k) (A.drop (k+1)++S) A[k] x;rw[List.length_append,List.length_take,show min k A.length=k by omega]at e;rw[List.drop_eq_getElem_cons hk,List.take_succ_eq_append_getElem hk];simp only[List.append_assoc,List.cons_append,List.nil_append]at e ⊢;exact e
end
section
variable {α : Type} {lt : α → α → Bool}
def gQ (lt:α->α->Bool) (bs lo hi:Nat) (ys:List (Tg α)):Prop:=
 ∀i x,lo<=i->i<hi->ys[i]?=some x->x.tag / bs=i / bs/\∀j y,i<j->j<hi->i / bs=j / bs->ys[j]?=some y->Rt lt x y
theorem gQ.sub {bs lo hi lo' hi':Nat} {ys:List (Tg α)} (h:gQ lt bs lo hi ys) (h1:lo<=lo') (h2:hi'<=hi):gQ lt bs lo' hi' ys:=
 fun i x a b hx=>⟨(h i x (by omega) (by omega) hx).1,fun j y c d e hy=>(h i x (by omega) (by omega) hx).2 j y c (by omega) e hy⟩
theorem gQ.same {bs lo hi:Nat} {ys zs:List (Tg α)} (h:gQ lt bs lo hi ys) (e:∀i,lo<=i->i<hi->zs[i]?=ys[i]?):gQ lt bs lo hi zs:=
 fun i x a b hx=>by
  rw[e i a b]at hx;exact ⟨(h i x a b hx).1,fun j y c d f hy=>(h i x a b hx).2 j y c d f (by rw[e j (by omega) d]at hy;exact hy)⟩
theorem gQ.join {bs lo m hi:Nat} {ys:List (Tg α)} (h1:gQ lt bs lo m ys) (h2:gQ lt bs m hi ys) (hm:m % bs=0) (hb:0<bs):gQ lt bs lo hi ys:=by
 intro i x a b hx;by_cases c:i<m
 ·refine ⟨(h1 i x a c hx).1,fun j y d e f hy=>?_⟩
  by_cases g:j<m
  ·exact (h1 i x a c hx).2 j y d g f hy
  ·exfalso
   have q1:i / bs<m / bs:=by
    rw[Nat.div_lt_iff_lt_mul hb,Nat.div_mul_cancel (Nat.dvd_of_mod_eq_zero hm)];exact c
   have q2:m / bs<=j / bs:=Nat.div_le_div_right (by omega);omega
 ·exact h2 i x (by omega) b hx
theorem gQ.one {bs a b:Nat} {ys:List (Tg α)} (ha:a % bs=0) (hb:b<=a+bs) (hbs:0<bs) (ht:∀i x,a<=i->i<b->ys[i]?=some x->a<=x.tag/\x.tag<b) (hs:∀i j x y,a<=i->i<j->j<b->ys[i]?=some x->ys[j]?=some y->Rt lt x y):gQ lt bs a b ys:=by
 have hdiv:∀k,a<=k->k<b->k / bs=a / bs:=fun k h1 h2=>by
  have h3:a=bs * (a / bs):=by have:=Nat.div_add_mod a bs;omega
  have h4:a / bs<=k / bs:=Nat.div_le_div_right h1
  have h5:k / bs<a / bs+1:=by
   rw[Nat.div_lt_iff_lt_mul hbs,Nat.succ_mul,Nat.mul_comm];omega
  omega
 intro i x h1 h2 hx;obtain ⟨t1,t2⟩:=ht i x h1 h2 hx;exact ⟨by rw[hdiv x.tag t1 t2,hdiv i h1 h2],fun j y h3 h4 _ hy=>hs i j x y h1 h3 h4 hx hy⟩
theorem z4A {P C S:List (Tg α)} {i:Nat}:(P++C++S)[i]?=if i<P.length then P[i]? else if i<P.length+C.length then C[i-P.length]? else S[i-P.length-C.length]?:=by
 rw[List.append_assoc];by_cases h1:i<P.length
 ·rw[if_pos h1,List.getElem?_append_left h1]
 ·rw[if_neg h1,List.getElem?_append_right (by omega)]
  by_cases h2:i<P.length+C.length
  ·rw[if_pos h2,List.getElem?_append_left (by omega)]
  ·rw[if_neg h2,List.getElem?_append_right (by omega)]
theorem Lr {bs':Nat} {P M C S:List (Tg α)} (hp:C.Perm M) (hs:C.Pairwise (Rt lt)) (ha:P.length % bs'=0) (hb:M.length<=bs') (hbs:0<bs') (ht:∀x∈M,P.length<=x.tag/\x.tag<P.length+M.length):gQ lt bs' P.length (P.length+M.length) (P++C++S):=by
 have hl:=hp.length_eq;refine gQ.one ha (by omega) hbs (fun i x h1 h2 hx=>?_) (fun i j x y h1 h2 h3 hx hy=>?_)
 ·rw[z4A,if_neg (by omega),if_pos (by omega)]at hx
  exact ht x (hp.subset (List.mem_of_getElem? hx))
 ·rw[z4A,if_neg (by omega),if_pos (by omega)]at hx hy
  obtain ⟨q1,e1⟩:=List.getElem?_eq_some_iff.1 hx;obtain ⟨q2,e2⟩:=List.getElem?_eq_some_iff.1 hy;rw[←e1,←e2];exact List.pairwise_iff_getElem.1 hs _ _ q1 q2 (by omega)
theorem qZ {bs lo hi:Nat} {ys:List (Tg α)} (h:gQ lt bs lo hi ys) {i:Nat} {x:Tg α} (h1:lo<=i) (h2:i<hi) (hx:ys[i]?=some x) (hb:0<bs):bs * (i / bs)<=x.tag/\x.tag<bs * (i / bs)+bs:=by
 have e:=(h i x h1 h2 hx).1;have d:=Nat.div_add_mod x.tag bs;have m:=Nat.mod_lt x.tag hb;rw[e]at d;omega
theorem Ux {bs n:Nat} {P A B S:List (Tg α)} (h:gQ lt bs P.length n (P++A++B++S)) (hb:0<bs) (ha:P.length % bs=0) (hA:A.length=bs) (hB:B.length<=bs) (hn:P.length+A.length+B.length<=n):
 Runs lt P A B S:=by
 have hdA:∀k,P.length<=k->k<P.length+bs->k / bs=P.length / bs:=fun k h1 h2=>by
  have h3:=Nat.div_add_mod P.length bs;have h4:P.length / bs<=k / bs:=Nat.div_le_div_right h1
  have h5:k / bs<P.length / bs+1:=by
   rw[Nat.div_lt_iff_lt_mul hb,Nat.succ_mul,Nat.mul_comm];omega
  omega
 have hdB:∀k,P.length+bs<=k->k<P.length+bs+bs->k / bs=P.length / bs+1:=fun k h1 h2=>by
  have h3:=Nat.div_add_mod P.length bs
  have h4:P.length / bs+1<=k / bs:=by
   rw[Nat.le_div_iff_mul_le hb,Nat.succ_mul,Nat.mul_comm];omega
  have h5:k / bs<P.length / bs+1+1:=by
   rw[Nat.div_lt_iff_lt_mul hb,Nat.succ_mul,Nat.succ_mul,Nat.mul_comm];omega
  omega
 have gA:∀i (hi:i<A.length),(P++A++B++S)[P.length+i]?=some A[i]:=fun i hi=>by
  rw[List.append_assoc,List.append_assoc,List.getElem?_append_right (by omega),List.getElem?_append_left (by omega),Nat.add_sub_cancel_left,List.getElem?_eq_getElem hi]
 have gB:∀i (hi:i<B.length),(P++A++B++S)[P.length+A.length+i]?=some B[i]:=fun i hi=>by
  rw[List.append_assoc,List.append_assoc,List.getElem?_append_right (by omega),List.getElem?_append_right (by omega),List.getElem?_append_left (by omega),List.getElem?_eq_getElem (by omega)];congr 2
  omega
 refine ⟨List.pairwise_iff_getElem.2 fun i j hi hj hij=>?_,List.pairwise_iff_getElem.2 fun i j hi hj hij=>?_,fun x hx y hy=>?_⟩
 ·exact (h (P.length+i) _ (by omega) (by omega) (gA i hi)).2 (P.length+j) _ (by omega) (by omega) (by rw[hdA (P.length+i) (by omega) (by omega),hdA (P.length+j) (by omega) (by omega)]) (gA j hj)
 ·exact (h (P.length+A.length+i) _ (by omega) (by omega) (gB i hi)).2 (P.length+A.length+j) _ (by omega) (by omega) (by rw[hdB (P.length+A.length+i) (by omega) (by omega),hdB (P.length+A.length+j) (by omega) (by omega)]) (gB j hj)
 ·obtain ⟨i,hi,rfl⟩:=List.mem_iff_getElem.1 hx
  obtain ⟨j,hj,rfl⟩:=List.mem_iff_getElem.1 hy;have t1:=(qZ h (by omega) (by omega) (gA i hi) hb).2;have t2:=(qZ h (by omega) (by omega) (gB j hj) hb).1;rw[hdA _ (by omega) (by omega)]at t1;rw[hdB _ (by omega) (by omega),Nat.mul_succ]at t2;omega
theorem Uz {bs a n:Nat} {ys:List (Tg α)} (h:gQ lt bs a n ys) (hb:0<bs) (ha:a % (2 * bs)=0) (hn:n<=a+bs):gQ lt (2 * bs) a n ys:=by
 have hab:a % bs=0:=by
  have:bs∣a:=Nat.dvd_trans ⟨2,by omega⟩ (Nat.dvd_of_mod_eq_zero ha);exact Nat.mod_eq_zero_of_dvd this
 have hd:∀k,a<=k->k<a+bs->k / bs=a / bs:=fun k h1 h2=>by
  have h3:=Nat.div_add_mod a bs;have h4:a / bs<=k / bs:=Nat.div_le_div_right h1
  have h5:k / bs<a / bs+1:=by
   rw[Nat.div_lt_iff_lt_mul hb,Nat.succ_mul,Nat.mul_comm];omega
  omega
 intro i x h1 h2 hx;have e:=(h i x h1 h2 hx).1;refine ⟨?_,fun j y h3 h4 _ hy=>(h i x h1 h2 hx).2 j y h3 h4 (by rw[hd i h1 (by omega),hd j (by omega) (by omega)]) hy⟩;rw[Nat.mul_comm 2 bs,←Nat.div_div_eq_div_mul,←Nat.div_div_eq_div_mul,e]
theorem XF {bs n:Nat} {ys:List (Tg α)} (h:gQ lt bs 0 n ys) (hn:n<=bs) (hl:ys.length=n):ys.Pairwise (Rt lt):=by
 refine List.pairwise_iff_getElem.2 fun i j hi hj hij=>?_;exact (h i _ (by omega) (by omega) (List.getElem?_eq_getElem hi)).2 j _ hij (by omega) (by rw[Nat.div_eq_of_lt (by omega),Nat.div_eq_of_lt (by omega)]) (List.getElem?_eq_getElem hj)
end
section
variable {α : Type} {lt : α → α → Bool}
def rJ (lt:α->α->Bool) (P M S:List (Tg α)) (i:Nat) (ys:List (Tg α)):Prop:=
 ∃C,C.Perm (M.take i)/\C.Pairwise (Rt lt)/\ys=P++C++M.drop i++S
def JF (lt:α->α->Bool) (P M S:List (Tg α)) (i J:Nat) (ys:List (Tg α)):Prop:=
 ∃L R x,P.length+L.length=J/\(L++R).Perm (M.take i)/\(L++R).Pairwise (Rt lt)/\(∀y∈R,Rt lt x y)/\M[i]?=some x/\ys=P++L++[x]++R++M.drop (i+1)++S
theorem rJ.first (P M S:List (Tg α)):rJ lt P M S 1 (P++M++S):=by
 refine ⟨M.take 1,List.Perm.refl _,?_,by rw[List.append_assoc P (M.take 1),List.take_append_drop]⟩;cases M with
 |nil=>simp
 |cons x M=>simp
theorem JF.len {P M S:List (Tg α)} {i J:Nat} {ys:List (Tg α)} (h:JF lt P M S i J ys):ys.length=P.length+M.length+S.length:=by
 obtain ⟨L,R,x,_,hp,_,_,hx,rfl⟩:=h;have:=hp.length_eq
 have hi:i<M.length:=by
  rcases Nat.lt_or_ge i M.length with h|h
  ·exact h
  ·rw[List.getElem?_eq_none h]at hx;cases hx
 simp at this ⊢;omega
theorem rJ.enter {P M S:List (Tg α)} {i:Nat} {ys:List (Tg α)} (h:rJ lt P M S i ys) (hi:i<M.length):JF lt P M S i (P.length+i) ys:=by
 obtain ⟨C,hp,hs,rfl⟩:=h;have hl:=hp.length_eq;rw[List.length_take,Nat.min_eq_left (by omega)]at hl;refine ⟨C,[],M[i],by rw[hl],by simpa using hp,by simpa using hs,by simp,List.getElem?_eq_getElem hi,?_⟩;rw[List.drop_eq_getElem_cons hi];simp
theorem rJ.last {P M S:List (Tg α)} {i:Nat} {ys:List (Tg α)} (h:rJ lt P M S i ys) (hi:M.length<=i):∃C,C.Perm M/\C.Pairwise (Rt lt)/\ys=P++C++S:=by
 obtain ⟨C,hp,hs,rfl⟩:=h;rw[List.take_of_length_le hi]at hp;exact ⟨C,hp,hs,by rw[List.drop_eq_nil_of_le hi,List.append_nil]⟩
theorem JF.all (w:Weak lt) {P M S:List (Tg α)} {i J:Nat} {ys:List (Tg α)} (h:JF lt P M S i J ys) (ht:M.Pairwise fun x y=>x.tag<y.tag):
 ∃(hJ:J<ys.length),P.length<=J/\(J=P.length->rJ lt P M S (i+1) ys)/\(P.length<J->∃(hJ2:J-1<ys.length),(lt (ys[J]).row (ys[J-1]).row=true->JF lt P M S i (J-1) (iI ys J (J-1)))/\(lt (ys[J]).row (ys[J-1]).row=false->rJ lt P M S (i+1) ys)):=by
 obtain ⟨L,R,x,hJ,hp,hs,hR,hx,rfl⟩:=h
 have hi:i<M.length:=by
  rcases Nat.lt_or_ge i M.length with h|h
  ·exact h
  ·rw[List.getElem?_eq_none h]at hx;cases hx
 have hxe:M[i]=x:=by rw[List.getElem?_eq_getElem hi]at hx;injection hx
 have hJl:J<(P++L++[x]++R++M.drop (i+1)++S).length:=by simp;omega
 have hfin:(∀y∈L,Rt lt y x)->rJ lt P M S (i+1) (P++L++[x]++R++M.drop (i+1)++S):=fun hL=>by
  refine ⟨L++[x]++R,?_,z2M w hs hL hR,by simp⟩;rw[List.take_succ_eq_append_getElem hi,hxe];refine List.Perm.trans ?_ (hp.append_right [x]);rw[List.append_assoc,List.append_assoc];exact List.Perm.append_left L List.perm_append_comm
 refine ⟨hJl,by omega,fun e=>hfin (fun y hy=>?_),fun hlt=>?_⟩
 ·have:L=[]:=List.length_eq_zero_iff.1 (by omega)
  subst this;cases hy
 ·have hne:L≠[]:=fun e=>by subst e;simp at hJ;omega
  obtain ⟨L',y,rfl⟩:∃L' y,L=L'++[y]:=⟨L.dropLast,L.getLast hne,(List.dropLast_concat_getLast hne).symm⟩;have hJ':J=(P++L').length+1:=by simp at hJ ⊢;omega
  have eq1:P++(L'++[y])++[x]++R++M.drop (i+1)++S=(P++L')++[y,x]++(R++M.drop (i+1)++S):=by simp
  subst hJ';rw[Nat.add_sub_cancel]
  have g1:(P++(L'++[y])++[x]++R++M.drop (i+1)++S)[(P++L').length+1]?=some x:=by
   rw[eq1,List.append_assoc (P++L'),List.getElem?_append_right (by omega),show (P++L').length+1-(P++L').length=1 by omega];rfl
  have g0:(P++(L'++[y])++[x]++R++M.drop (i+1)++S)[(P++L').length]?=some y:=by
   rw[eq1,List.append_assoc (P++L'),List.getElem?_append_right (Nat.le_refl _),Nat.sub_self];rfl
  obtain ⟨h1,g1⟩:=List.getElem?_eq_some_iff.1 g1;obtain ⟨h0,g0⟩:=List.getElem?_eq_some_iff.1 g0;refine ⟨h0,fun hl=>?_,fun hl=>hfin (fun z hz=>?_)⟩
  ·rw[g1,g0]at hl
   rw[eq1,oU];refine ⟨L',y::R,x,by simp,?_,?_,?_,hx,by simp⟩
   ·rw[show L'++y::R=L'++[y]++R by simp];exact hp
   ·rw[show L'++y::R=L'++[y]++R by simp];exact hs
   ·intro z hz
    rcases List.mem_cons.1 hz with rfl|hz
    ·exact .inl hl
    ·exact hR z hz
  ·rw[g1,g0]at hl
   have hyM:y∈M.take i:=hp.subset (by simp)
   have hyt:y.tag<x.tag:=by
    rw[←List.take_append_drop i M]at ht;rw[List.pairwise_append]at ht;refine ht.2.2 y hyM x ?_;rw[List.drop_eq_getElem_cons hi,hxe];exact List.mem_cons_self
   have hyx:Rt lt y x:=Rt.qo w hyt hl;rcases List.mem_append.1 hz with hz|hz
   ·have hs2:=(List.pairwise_append.1 (List.pairwise_append.1 hs).1).2.2 z hz y (by simp)
    exact Rt.trans w hs2 hyx
   ·rw[List.mem_singleton.1 hz];exact hyx
end
end Go.Proofs.YtpakjclpjcngmaaGreat
