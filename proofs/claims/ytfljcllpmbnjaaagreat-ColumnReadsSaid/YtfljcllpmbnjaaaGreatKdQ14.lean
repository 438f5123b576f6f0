/- Contracts and plain laws that the last text rests on. Conditions: each theorem states its own. -/
import Derived.Test.YtfljcllpmbnjaaaGreatKdQ13
import Derived.Test.YtfljcllpmbnjaaaGreatKdQ12
import Derived.Test.YtfljcllpmbnjaaaGreatKdPdInfC
set_option maxRecDepth 100000
set_option maxHeartbeats 4000000
set_option linter.unusedVariables false
namespace Go.Proofs.YtfljcllpmbnjaaaGreat
open Go.RowKit
section
variable {K : Nat → Prop} {w w' : World} {r g h : Nat} {bs : List Nat} {most : Int} {s : Inf} {vo : Value}
theorem eP.keep (m:eP K w r g h bs most s vo) (n:Nx w w'):eP (fun k=>K k∨(w.heap.size<=k/\k<w'.heap.size)) w' r g h bs most s vo:=by
 have m':=m.nx n;refine ⟨m'.blk,m'.fH,m'.own,m'.okb,.inl m'.kh,fun k hk=>?_⟩;rcases hk with hk|⟨h1,h2⟩
 ·exact m'.far k hk
 ·have hr:=m.blk.lt
  have hg:=m.fH.lt;exact ⟨h2,by omega,by omega,fun e=>by have:=(m.own.lt k e).2;omega⟩
theorem bJ.keep (m:bJ K w r g h bs most s) (n:Nx w w'):bJ (fun k=>K k∨(w.heap.size<=k/\k<w'.heap.size)) w' r g h bs most s:=by
 obtain ⟨vo,m⟩:=m;exact ⟨vo,m.keep n⟩
theorem eP.less {K':Nat->Prop} (m:eP K w r g h bs most s vo) (hK:∀k,K' k->K k) (hh:K' h):eP K' w r g h bs most s vo:=
 ⟨m.blk,m.fH,m.own,m.okb,hh,fun k hk=>m.far k (hK k hk)⟩
theorem bJ.less {K':Nat->Prop} (m:bJ K w r g h bs most s) (hK:∀k,K' k->K k) (hh:K' h):bJ K' w r g h bs most s:=by
 obtain ⟨vo,m⟩:=m;exact ⟨vo,m.less hK hh⟩
end
end Go.Proofs.YtfljcllpmbnjaaaGreat
namespace Go.Proofs.YtfljcllpmbnjaaaGreat
theorem wC {d:Nat}:∀(n:Nat) (l:List Nat),(dQ n d l).length=l.length+n:=by
 intro n;induction n with
 |zero=>intro l;rfl
 |succ n ih=>intro l;rw[dQ,ih];simp only[List.length_append,List.length_singleton];omega
def Within (most:Int) (s s':Inf):Prop:=s.p<=s'.p/\(s'.out.length:Int)<=most
theorem Vu {most:Int} {n dd:Nat} {s5:Inf} (h:(s5.out.length:Int)<=most):Within most s5 (JC most n dd s5).2:=by
 by_cases he:s5.e=0
 ·by_cases hd:s5.out.length<dd
  ·rw[Kv he hd];exact ⟨by rw[lS.2];exact Nat.le_refl _,by rw[lS.1];exact h⟩
  ·by_cases hr:(aQ most n s5).e=0
   ·rw[Ku he hd hr]
    have h2:=(z32 he hr).2;exact ⟨Nat.le_refl _,by simp only[wC];omega⟩
   ·rw[ET he hd hr];exact ⟨by rw[Ug.2];exact Nat.le_refl _,by rw[Ug.1];exact h⟩
 ·rw[Kw he];exact ⟨Nat.le_refl _,h⟩
theorem Vt {bs:List Nat} {most:Int} {n:Nat} {d:Int} (hd0:0<=d) {s3:Inf} (h:(s3.out.length:Int)<=most):Within most s3 (Az bs most n d s3).2:=by
 by_cases he:s3.e=0
 ·by_cases hd:29<d
  ·rw[Ko he hd];exact ⟨by rw[lS.2];exact Nat.le_refl _,by rw[lS.1];exact h⟩
  ·obtain ⟨d,rfl⟩:=Int.eq_ofNat_of_zero_le hd0
   rw[uM he (by omega)];have h1:=sU (bs:=bs) (k:=d) (s:=s3);have h2:=Vu (most:=most) (n:=n) (dd:=(dH bs d s3).1) (s5:=(dH bs d s3).2) (by rw[h1.1];exact h);exact ⟨Nat.le_trans h1.2 h2.1,h2.2⟩
 ·rw[Kq he];exact ⟨Nat.le_refl _,h⟩
theorem wM {bs:List Nat} {most:Int} {zd:List Int} {x:Int} (hx:0<=x) (hz:zd.length<=320) {s1:Inf} (h:(s1.out.length:Int)<=most):Within most s1 (xE bs most zd x s1).2:=by
 unfold xE;by_cases h1:s1.e≠0∨x=256
 ·rw[if_pos h1];exact ⟨Nat.le_refl _,h⟩
 ·rw[if_neg h1]
  have he:s1.e=0:=Classical.byContradiction fun hn=>h1 (.inl hn);by_cases h2:x<256
  ·rw[if_pos h2]
   have hr:=Ug (most:=most) (n:=1) (s:=s1);by_cases h3:(aQ most 1 s1).e=0
   ·simp only[if_pos h3]
    have h4:=(z32 he h3).2;exact ⟨by simp only[hr.2];exact Nat.le_refl _,by simp only[hr.1,List.length_append,List.length_singleton];omega⟩
   ·simp only[if_neg h3]
    exact ⟨by rw[hr.2];exact Nat.le_refl _,by rw[hr.1];exact h⟩
  ·rw[if_neg h2]
   by_cases h3:285<x
   ·rw[if_pos h3];exact ⟨by simp only[lS.2];exact Nat.le_refl _,by simp only[lS.1];exact h⟩
   ·rw[if_neg h3]
    have q1:=z57 (bs:=bs) (k:=(x-257).toNat) (s:=s1);generalize bI bs (x-257).toNat s1=a at *;have q2:=Vd (zs:=zd) (bs:=bs) (s:=a.2);have q3:=kX (zs:=zd) (bs:=bs) (s:=a.2);have q4:=Vh (zs:=zd) (bs:=bs) (s:=a.2) hz;generalize cO bs zd a.2=b at *;have q5:=Vt (bs:=bs) (most:=most) (n:=a.1) (d:=b.1) q4.1 (s3:=b.2) (by rw[q2,q1.1];exact h);exact ⟨Nat.le_trans q1.2 (Nat.le_trans q3 q5.1),q5.2⟩
theorem tq {bs:List Nat} {most:Int} {zl zd:List Int} (hl:zl.length<=320) (hz:zd.length<=320):∀(f:Nat) (s:Inf),(s.out.length:Int)<=most->Within most s (aP bs most zl zd f s):=by
 intro f;induction f with
 |zero=>intro s h;exact ⟨Nat.le_refl _,h⟩
 |succ f ih=>
  intro s h;unfold aP;by_cases he:s.e≠0
  ·rw[if_pos he];exact ⟨Nat.le_refl _,h⟩
  ·rw[if_neg he]
   have q2:=Vd (zs:=zl) (bs:=bs) (s:=s);have q3:=kX (zs:=zl) (bs:=bs) (s:=s);have q4:=Vh (zs:=zl) (bs:=bs) (s:=s) hl;have q5:=wM (bs:=bs) (most:=most) (zd:=zd) q4.1 hz (s1:=(cO bs zl s).2) (by rw[q2];exact h);have q6:Within most s (xG bs most zl zd s).2:=⟨Nat.le_trans q3 q5.1,q5.2⟩;by_cases h3:(xG bs most zl zd s).1=true
   ·rw[if_pos h3]
    have q7:=ih _ q6.2;exact ⟨Nat.le_trans q6.1 q7.1,q7.2⟩
   ·rw[if_neg h3];exact q6
theorem yS {bs:List Nat} {n:Nat} {s:Inf} (h:s.e≠0):aA bs n s=(0,s):=by unfold aA;rw[if_pos h]
theorem FY {bs:List Nat}:∀(k i:Nat) (t:List Int) (s:Inf),s.p<=(dP bs k i t s).2.p/\(dP bs k i t s).2.out=s.out/\(s.e≠0->(dP bs k i t s).2=s)/\(dP bs k i t s).1.length=t.length:=by
 intro k;induction k with
 |zero=>intro i t s;exact ⟨Nat.le_refl _,rfl,fun _=>rfl,rfl⟩
 |succ k ih=>
  intro i t s;rw[dP];have h1:s.p<=(aA bs 3 s).2.p:=QD;have h2:=A_ bs 3 s;have h3:=ih (i+1) (t.set (dU.getD i 0) ((aA bs 3 s).1:Int)) (aA bs 3 s).2;refine ⟨Nat.le_trans h1 h3.1,by rw[h3.2.1,h2],fun he=>?_,by rw[h3.2.2.2,List.length_set]⟩;have h4:=yS (bs:=bs) (n:=3) he;rw[h3.2.2.1 (by rw[h4];exact he),h4]
theorem FX {bs:List Nat} {l:List Int} {x:Int} {s:Inf}:s.p<=(bV bs l x s).2.2.p/\(bV bs l x s).2.2.out=s.out/\((bV bs l x s).2.2.e=0->s.e=0)/\1<=(bV bs l x s).2.1:=by
 have hh:∀n,s.p<=(aA bs n s).2.p/\(aA bs n s).2.out=s.out/\((aA bs n s).2.e=0->s.e=0):=fun n=>⟨QD,A_ bs n s,fun h=>Classical.byContradiction fun he=>he (by rw[yS he]at h;exact h)⟩;unfold bV;split
 ·exact ⟨Nat.le_refl _,rfl,fun h=>h,Nat.le_refl _⟩
 ·split
  ·exact ⟨(hh 2).1,(hh 2).2.1,(hh 2).2.2,by simp only;omega⟩
  ·split
   ·exact ⟨(hh 3).1,(hh 3).2.1,(hh 3).2.2,by simp only;omega⟩
   ·exact ⟨(hh 7).1,(hh 7).2.1,(hh 7).2.2,by simp only;omega⟩
theorem K_ {nm:Nat} {l:List Int} {t:Nat} {s:Inf}:(gV nm l t s).p=s.p/\(gV nm l t s).out=s.out/\((gV nm l t s).e=0->s.e=0/\l.length+t<=nm):=by
 unfold gV;by_cases h:s.e=0/\nm<l.length+t
 ·rw[if_pos h]
  refine ⟨lS.2,lS.1,fun hh=>?_⟩;unfold aN at hh;rw[if_pos h.1]at hh;simp at hh
 ·rw[if_neg h]
  exact ⟨rfl,rfl,fun hh=>⟨hh,Nat.le_of_not_lt fun hlt=>h ⟨hh,hlt⟩⟩⟩
theorem Jj {e:Int} {s:Inf} (he:e≠0):(aN e s).e≠0:=by
 unfold aN;by_cases h:s.e=0
 ·rw[if_pos h];exact he
 ·rw[if_neg h];exact h
theorem LG {bs:List Nat} {zt:List Int} {nm:Nat}:∀(k:Nat) (l:List Int) (s:Inf),s.p<=(eF bs zt nm k l s).2.p/\(eF bs zt nm k l s).2.out=s.out/\((eF bs zt nm k l s).2.e=0->s.e=0/\(l.length<=nm->(eF bs zt nm k l s).1.length<=nm)):=by
 intro k;induction k with
 |zero=>intro l s;exact ⟨Nat.le_refl _,rfl,fun h=>⟨h,fun h=>h⟩⟩
 |succ k ih=>
  intro l s;rw[eF];by_cases h1:s.e≠0∨nm<=l.length
  ·rw[if_pos h1];exact ⟨Nat.le_refl _,rfl,fun h=>⟨h,fun h=>h⟩⟩
  ·rw[if_neg h1]
   have he:s.e=0:=Classical.byContradiction fun hn=>h1 (.inl hn);have q2:=Vd (zs:=zt) (bs:=bs) (s:=s);have q3:=kX (zs:=zt) (bs:=bs) (s:=s);generalize cO bs zt s=q at *;by_cases h2:q.2.e≠0
   ·rw[if_pos h2];exact ⟨q3,q2,fun h=>absurd h h2⟩
   ·rw[if_neg h2]
    by_cases h3:q.1=16/\l=[]
    ·rw[if_pos h3];exact ⟨by rw[lS.2];exact q3,by rw[lS.1];exact q2,fun h=>absurd h (Jj (by decide))⟩
    ·rw[if_neg h3]
     have h4:=FX (bs:=bs) (l:=l) (x:=q.1) (s:=q.2);generalize bV bs l q.1 q.2=t at *;have h5:=K_ (nm:=nm) (l:=l) (t:=t.2.1) (s:=t.2.2);have h6:=ih (l++List.replicate t.2.1 t.1) (gV nm l t.2.1 t.2.2);refine ⟨by rw[h5.1]at h6;exact Nat.le_trans q3 (Nat.le_trans h4.1 h6.1),by rw[h6.2.1,h5.2.1,h4.2.1,q2],fun h=>⟨he,fun _=>?_⟩⟩;have h7:=h6.2.2 h;have h8:=h5.2.2 h7.1;exact h7.2 (by simp only[List.length_append,List.length_replicate];exact h8.2)
theorem P_ {l:List Int} {s:Inf}:(qL l s).p=s.p/\(qL l s).out=s.out:=by
 unfold qL;split
 ·exact ⟨lS.2,lS.1⟩
 ·exact ⟨rfl,rfl⟩
theorem Gg {zs:List Int} {s:Inf}:(jq zs s).p=s.p/\(jq zs s).out=s.out/\((jq zs s).e=0->s.e=0):=by
 unfold jq;split
 ·exact ⟨rfl,rfl,fun h=>h⟩
 ·exact ⟨lS.2,lS.1,fun h=>absurd h (Jj (by decide))⟩
def Few (s:Inf) (x:(List Int×List Int)×Inf):Prop:=s.p<=x.2.p/\x.2.out=s.out/\x.1.1.length<=320/\x.1.2.length<=320
theorem nM {bs:List Nat} {n m k:Nat} {s:Inf}:Few s (Vq bs n m k s):=by
 unfold Vq;obtain ⟨s4,hs4⟩:∃s4,(if s.e=0/\(286<n∨30<m) then aN 4 s else s)=s4:=⟨_,rfl⟩
 have h4:s4.p=s.p/\s4.out=s.out/\(s4.e=0->n<=286/\m<=30):=by
  rw[←hs4];by_cases hc:s.e=0/\(286<n∨30<m)
  ·rw[if_pos hc];exact ⟨lS.2,lS.1,fun h=>absurd h (Jj (by decide))⟩
  ·rw[if_neg hc];exact ⟨rfl,rfl,fun h=>by simp only[h,true_and]at hc;omega⟩
 simp only[hs4];have h5:=FY (bs:=bs) k 0 (List.replicate 19 0) s4;generalize dP bs k 0 (List.replicate 19 0) s4=t at *;by_cases ht:t.2.e≠0
 ·rw[if_pos ht]
  exact ⟨by rw[←h4.1];exact h5.1,by rw[←h4.2.1];exact h5.2.1,Nat.zero_le _,Nat.zero_le _⟩
 ·rw[if_neg ht]
  have h40:s4.e=0:=Classical.byContradiction fun hn=>ht (by rw[h5.2.2.1 hn];exact hn);have hnm:=h4.2.2 h40;have h6:=Gg (zs:=t.1) (s:=t.2);have h7:=LG (bs:=bs) (zt:=t.1) (nm:=n+m) (n+m) [] (jq t.1 t.2);generalize eF bs t.1 (n+m) (n+m) [] (jq t.1 t.2)=l at *;have hp:s.p<=l.2.p:=by have:=h4.1;have:=h5.1;have:=h6.1;have:=h7.1;omega
  have ho:l.2.out=s.out:=by rw[h7.2.1,h6.2.1,h5.2.1,h4.2.1]
  by_cases hl:l.2.e≠0
  ·rw[if_pos hl]
   exact ⟨hp,ho,Nat.zero_le _,Nat.zero_le _⟩
  ·rw[if_neg hl]
   have h8:=(h7.2.2 (Classical.byContradiction fun hn=>hl hn)).2 (Nat.zero_le _);have h9:=P_ (l:=l.1) (s:=l.2);refine ⟨by simp only[h9.1];exact hp,by simp only[h9.2];exact ho,?_,?_⟩
   ·simp only[List.length_take];omega
   ·simp only[List.length_drop];omega
theorem zf {bs:List Nat} {s:Inf}:Few s (aH bs s):=by
 unfold aH;have h1:s.p<=(aA bs 5 s).2.p:=QD;have h2:=A_ bs 5 s;generalize aA bs 5 s=q1 at *;have h3:q1.2.p<=(aA bs 5 q1.2).2.p:=QD;have h4:=A_ bs 5 q1.2;generalize aA bs 5 q1.2=q2 at *;have h5:q2.2.p<=(aA bs 4 q2.2).2.p:=QD;have h6:=A_ bs 4 q2.2;generalize aA bs 4 q2.2=q3 at *;have h7:=nM (bs:=bs) (n:=q1.1+257) (m:=q2.1+1) (k:=q3.1+4) (s:=q3.2);exact ⟨by have:=h7.1;omega,by rw[h7.2.1,h6,h4,h2],h7.2.2.1,h7.2.2.2⟩
end Go.Proofs.YtfljcllpmbnjaaaGreat
namespace Go.Proofs.YtfljcllpmbnjaaaGreat
open Go.RowKit
section
variable {K0 : Nat → Prop} {B : Nat} {W w w' : World} {r g h t : Nat} {bs : List Nat} {most : Int} {s s' : Inf} {v : Value} {l zt : List Int} {Dt : Nat → Prop}
structure iI (K0:Nat->Prop) (B:Nat) (W w:World) (r g h:Nat) (bs:List Nat) (most:Int) (Dt:Nat->Prop) (t:Nat) (zt:List Int) (s:Inf) (v:Value) (l:List Int):Prop where
 base:W.heap.size<=B
 size:B<=w.heap.size
 kh:K0 h
 lo:∀k,K0 k->k<W.heap.size
 own:w.ownsRow B 3 1 v l.length (il l)
 inf:bJ (fun k=>(K0 k∨Dt k)∨v.ownBlock=some k) w r g h bs most s
 ch:Ch (fun k=>¬K0 k) W w
 ZO:iH w Dt t zt
 dt:∀k,Dt k->W.heap.size<=k/\k<B
theorem iI.to (m:iI K0 B W w r g h bs most Dt t zt s v l) (k:gG (fun k=>(K0 k∨Dt k)∨v.ownBlock=some k) w r g h bs most s' w'):iI K0 B W w' r g h bs most Dt t zt s' v l:=by
 obtain ⟨k1,k2⟩:=k;have hs:=k2.size;have hs2:=m.size;exact ⟨m.base,by omega,m.kh,m.lo,z06 m.own k2 (fun k hk hn=>hn (.inr hk)),k1,m.ch.trans k2 (fun i _ hn hk=>hn (.inl (.inl hk))),m.ZO.ch k2 (fun k hk hn=>hn (.inl (.inr hk))),m.dt⟩
theorem iI.nx (m:iI K0 B W w r g h bs most Dt t zt s v l) (k:Nx w w'):iI K0 B W w' r g h bs most Dt t zt s v l:=
 m.to ⟨m.inf.nx k,k.mono fun _ _ hf=>hf.elim⟩
theorem iI.app (m:iI K0 B W w r g h bs most Dt t zt s v l) {o:Obj} {v':Value} {x:Int} (h2:w'.ownsRow B 3 1 v' (l.length+1) (il l++[.int .i64 x]))
 (h3:(w.alloc o).grownBy w' v.ownBlock) (h4:v'.ownBlock=v.ownBlock∨v'.ownBlock=some (w.alloc o).heap.size):iI K0 B W w' r g h bs most Dt t zt s v' (l++[x]):=by
 have hc:Ch (fun k=>v.ownBlock=some k) w w':=((Ch.refl _ w).alloc o).grown h3 fun k hk _=>hk;have hsz:=hc.size;have hal:(w.alloc o).heap.size=w.heap.size+1:=by simp
 have hvB:∀k,v.ownBlock=some k->B<=k/\k<w.heap.size:=fun k hk=>m.own.lt k hk;have hv'B:∀k,v'.ownBlock=some k->B<=k/\k<w'.heap.size:=fun k hk=>h2.lt k hk;have hb:=m.base;have hsz2:=m.size;obtain ⟨vo,n⟩:=m.inf;have hr:=n.blk.lt;have hg:=n.fH.lt;have hlh:=m.lo h m.kh;refine ⟨m.base,by omega,m.kh,m.lo,?_,⟨vo,?_⟩,m.ch.trans hc (fun i hi hk=>?_),m.ZO.ch hc (fun k hk hn=>?_),m.dt⟩
 ·have e:(l++[x]).length=l.length+1:=by simp
  have e2:il (l++[x])=il l++[.int .i64 x]:=by simp[il]
  rw[e,e2];exact h2
 ·refine ⟨n.blk.ch hc (fun e=>(n.far r (.inr e)).2.1 rfl),n.fH.ch hc (fun e=>(n.far g (.inr e)).2.2.1 rfl) (fun e=>by have:=hvB h e;omega),z06 n.own hc (fun k hk e=>(n.far k (.inr e)).2.2.2 hk),n.okb,.inl (.inl m.kh),fun k hk=>?_⟩
  rcases hk with hk|hk
  ·have:=n.far k (.inl hk)
   exact ⟨by omega,this.2⟩
  ·have h5:=hv'B k hk
   rcases h4 with e|e
   ·have:=n.far k (.inr (by rw[←e];exact hk))
    exact ⟨h5.2,this.2⟩
   ·have hk2:k=w.heap.size+1:=by rw[e]at hk;injection hk with hk;omega
    exact ⟨h5.2,by omega,by omega,fun e=>by have:=(n.own.lt k e).2;omega⟩
 ·have:=hvB i hk;omega
 ·have h5:=hvB k hn
  have h6:=m.dt k hk;omega
theorem iI.dB (m:iI K0 B W w r g h bs most Dt t zt s v l):w.cell? ⟨r,3,none⟩=some (.int .i64 s.e):=m.inf.dB
end
section
variable {K : Nat → Prop} {w w' : World} {r g h : Nat} {bs : List Nat} {most : Int} {s : Inf} {b : Nat}
theorem bJ.side (m:bJ K w r g h bs most s) (hc:Ch (fun k=>k=b) w w') (hb:K b) (hn:h≠b):bJ K w' r g h bs most s:=by
 obtain ⟨vo,m⟩:=m;have hf:=m.far b hb;have hs:=hc.size;exact ⟨vo,m.blk.ch hc (fun e=>hf.2.1 e.symm),m.fH.ch hc (fun e=>hf.2.2.1 e.symm) hn,z06 m.own hc (fun k hk e=>hf.2.2.2 (by rw[hk,e])),m.okb,m.kh,fun k hk=>by have:=m.far k hk;exact ⟨by omega,this.2⟩⟩
end
def vY (k:Nat):Int:=if k<144∨279<k then 8 else if k<256 then 9 else 7
def nU (k:Nat):List Int:=(List.range k).map vY
theorem DK (k:Nat):nU (k+1)=nU k++[vY k]:=by simp[nU,List.range_succ]
def QB (W:World) (e:Ending) (w':World):Prop:=
 ∃A1 c1 A2 c2,e=.returned (.tuple #[.slice A1 288 c1,.slice A2 32 c2])/\Rd w' (fun k=>W.heap.size<=k/\k<w'.heap.size) 1 A1 288 (il jF)/\Rd w' (fun k=>W.heap.size<=k/\k<w'.heap.size) 1 A2 32 (il z16)/\Nx W w'
set_option maxRecDepth 100000 in
theorem Iu (W:World):Calls Tryz.prog 155 #[] W (QB W):=by
 obtain ⟨i0,hi0,hz0,hz1,hz2⟩:=info_parts Tryz.info3;have h0:=au.nil W W 3 1 (Ch.refl _ W);go_enter Tryz.func155,Tryz.ntmps155;go_wp2_with fail;go_loopw [0,3] (fun v i wr=>∃k:Nat,k<=288/\i=.int .i64 k/\au W wr 3 1 v k (il (nU k))) (fun _ i _=>288-(intOf i).toNat)
 case atStart=>exact ⟨0,by omega,rfl,by simpa [nU,il]using h0⟩
 case round=>
  clear h0;obtain ⟨w1,rfl⟩:∃w1:World,w1=wr:=⟨_,rfl⟩;obtain ⟨k,hk,rfl,ho⟩:=hrel;by_cases hlt:k<288
  ·have hs:=DK k
   have e:∀v:Int,vY k=v->il (nU (k+1))=il (nU k)++[.int .i64 v]:=fun v hv=>by rw[hs,hv];simp[il]
   have He:=ah e;clear e hs;by_cases h8:k<144∨279<k
   ·have hv:vY k=8:=by unfold vY;rw[if_pos h8]
    have Hv:=ah (He.out 8 hv);clear hv He;by_cases h9:k<144
    ·clear h8
     go_wp2_with (at_builtin;refine z02 rfl (.tmp 14) (.tmp 15) _ rfl 3 i0 _ 8 Tryz.underlying88 hi0 hz0 hz1 hz2 rfl _ rfl rfl ho rfl (by simp only[maxLen];omega) (by omega) ?_;intro v' w' ho2 hm)
     go_roundw
     case rel=>exact ⟨k+1,by omega,by go_num,by rw[Hv.out];exact ho2⟩
     case measure=>simp[intOf];omega
    ·have h10:279<k:=by omega
     clear h8;go_wp2_with (at_builtin;refine z02 rfl (.tmp 14) (.tmp 15) _ rfl 3 i0 _ 8 Tryz.underlying88 hi0 hz0 hz1 hz2 rfl _ rfl rfl ho rfl (by simp only[maxLen];omega) (by omega) ?_;intro v' w' ho2 hm)
     go_roundw
     case rel=>exact ⟨k+1,by omega,by go_num,by rw[Hv.out];exact ho2⟩
     case measure=>simp[intOf];omega
   ·by_cases h9:k<256
    ·have hv:vY k=9:=by unfold vY;rw[if_neg h8,if_pos h9]
     have Hv:=ah (He.out 9 hv);have h11:¬k<144:=(by omega);have h12:¬279<k:=(by omega);clear hv He h8;go_wp2_with (at_builtin;refine z02 rfl (.tmp 20) (.tmp 21) _ rfl 3 i0 _ 8 Tryz.underlying88 hi0 hz0 hz1 hz2 rfl _ rfl rfl ho rfl (by simp only[maxLen];omega) (by omega) ?_;intro v' w' ho2 hm)
     go_roundw
     case rel=>exact ⟨k+1,by omega,by go_num,by rw[Hv.out];exact ho2⟩
     case measure=>simp[intOf];omega
    ·have hv:vY k=7:=by unfold vY;rw[if_neg h8,if_neg h9]
     have Hv:=ah (He.out 7 hv);have h11:¬k<144:=(by omega);have h12:¬279<k:=(by omega);clear hv He h8;go_wp2_with (at_builtin;refine z02 rfl (.tmp 6) (.tmp 7) _ rfl 3 i0 _ 8 Tryz.underlying88 hi0 hz0 hz1 hz2 rfl _ rfl rfl ho rfl (by simp only[maxLen];omega) (by omega) ?_;intro v' w' ho2 hm)
     go_roundw
     case rel=>exact ⟨k+1,by omega,by go_num,by rw[Hv.out];exact ho2⟩
     case measure=>simp[intOf];omega
  ·have hk8:k=288:=by omega
   have Hk8:=ah hk8;clear hk8;have h1:=au.nil w1 w1 3 1 (Ch.refl _ w1);obtain ⟨A1,c1,rfl,_,_⟩:=ho.form;go_wp2_with fail;go_loopw [1,24] (fun v i wr=>∃k:Nat,k<=32/\i=.int .i64 k/\au w1 wr 3 1 v k (il (List.replicate k 5))) (fun _ i _=>32-(intOf i).toNat)
   case atStart=>exact ⟨0,by omega,rfl,by simpa [il]using h1⟩
   case round=>
    clear h1;obtain ⟨w2,rfl⟩:∃w2:World,w2=wr:=⟨_,rfl⟩;obtain ⟨j,hj,rfl,ho1⟩:=hrel;by_cases hlt:j<32
    ·have e:il (List.replicate (j+1) 5)=il (List.replicate j 5)++[.int .i64 5]:=by simp[il,List.replicate_succ']
     have He:=ah e;clear e;go_wp2_with (at_builtin;refine z02 rfl (.tmp 26) (.tmp 27) _ rfl 3 i0 _ 8 Tryz.underlying88 hi0 hz0 hz1 hz2 rfl _ rfl rfl ho1 rfl (by simp only[maxLen];omega) (by omega) ?_;intro v' w' ho2 hm)
     go_roundw
     case rel=>exact ⟨j+1,by omega,by go_num,by rw[He.out];exact ho2⟩
     case measure=>simp[intOf];omega
    ·have hj8:j=32:=by omega
     have Hj8:=ah hj8;clear hj8;obtain ⟨A2,c2,rfl,_,_⟩:=ho1.form;go_wp2_with fail;go_ret2;rw[Hk8.out]at ho;rw[Hj8.out]at ho1;refine ⟨A1,c1,A2,c2,by rw[Hk8.out,Hj8.out];rfl,?_,?_,ho.nx.tr ho1.nx⟩
     ·have h1:=ho1.nx.size
      exact ((ho.tr ho1.nx).rd).more fun k hk=>hk.2
     ·have h1:=ho.nx.size
      exact ho1.rd.more fun k hk=>⟨by omega,hk.2.2⟩
end Go.Proofs.YtfljcllpmbnjaaaGreat
namespace Go.Proofs.YtfljcllpmbnjaaaGreat
section
variable {bs : List Nat} {most : Int} {s : Inf}
end
section
variable {bs b2 : List Nat} {most m2 : Int} {s t : Inf}
theorem z42 {n:Int} {s:Inf} (he:s.e=0) (h:(s.out.length:Int)+n<=most):aQ most n s=s:=by
 unfold aQ;rw[if_neg (by omega)]
end
theorem Vj (bs:List Nat) (P:Nat):∀(k i:Nat),i+k<=8->aS bs (8 * P+i) k=bs.getD P 0 / 2 ^ i % 2 ^ k:=by
 intro k;induction k with
 |zero=>intro i _;simp[aS,Nat.mod_one]
 |succ k ih=>
  intro i h;rw[aS,ih i (by omega)];have e1:(8 * P+i+k) / 8=P:=(by omega);have e2:(8 * P+i+k) % 8=i+k:=(by omega);unfold dO;rw[e1,e2,Nat.mod_pow_succ,Nat.pow_add,←Nat.div_div_eq_div_mul,Nat.mul_comm]
theorem Zk (bs:List Nat) (P:Nat) (h:bs.getD P 0<256):aS bs (8 * P) 8=bs.getD P 0:=by
 have:=Vj bs P 8 0 (by omega);simp only[Nat.add_zero,Nat.pow_zero,Nat.div_one]at this;rw[this];exact Nat.mod_eq_of_lt h
theorem Ac (bs:List Nat) (P:Nat) (h:bs.getD P 0<256) (h2:bs.getD (P+1) 0<256):aS bs (8 * P) 16=bs.getD P 0+256 * bs.getD (P+1) 0:=by
 rw[show (16:Nat)=8+8 from rfl,Ny,Zk bs P h,show 8 * P+8=8 * (P+1) by omega,Zk bs (P+1) h2]
theorem RI {bs:List Nat} {n p:Nat} {out:List Nat} (h:p+n<=8 * bs.length):aA bs n ⟨p,out,0⟩=(aS bs p n,⟨p+n,out,0⟩):=by
 unfold aA;rw[if_neg (by simp),if_pos h]
theorem z4P {bs:List Nat} {q:List Nat} (hq:okB q):∀(k P:Nat) (out:List Nat),k<=q.length->P+k<=bs.length->(∀j,j<k->bs.getD (P+j) 0=q.getD (q.length-k+j) 0)->
 kH bs k ⟨8 * P,out,0⟩=⟨8 * (P+k),out++q.drop (q.length-k),0⟩:=by
 intro k;induction k with
 |zero=>intro P out _ _ _;simp[kH]
 |succ k ih=>
  intro P out hk hP h;have h0:=h 0 (by omega);simp only[Nat.add_zero]at h0;have hlt:q.length-(k+1)<q.length:=(by omega);have hget:q.getD (q.length-(k+1)) 0=q[q.length-(k+1)]:=(by simp[List.getD,List.getElem?_eq_getElem hlt]);have h1:bs.getD P 0<256:=by rw[h0,hget];exact hq _ (List.getElem_mem hlt)
  unfold kH;rw[RI (by omega),Zk bs P h1];simp only[ne_eq,not_true_eq_false,if_false]
  have h2:=ih (P+1) (out++[bs.getD P 0]) (by omega) (by omega) (fun j hj=>by
   have:=h (j+1) (by omega);rw[show P+1+j=P+(j+1) by omega,this,show q.length-(k+1)+(j+1)=q.length-k+j by omega])
  rw[show 8 * P+8=8 * (P+1) by omega,h2,show P+1+k=P+(k+1) by omega];congr 1
  rw[h0,hget,List.append_assoc,List.singleton_append,show q.length-k=q.length-(k+1)+1 by omega,←List.drop_eq_getElem_cons hlt]
end Go.Proofs.YtfljcllpmbnjaaaGreat
