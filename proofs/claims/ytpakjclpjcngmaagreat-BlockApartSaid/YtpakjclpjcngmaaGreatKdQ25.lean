/- Contracts and plain laws that the last text rests on. Conditions: each theorem states its own. -/
import Derived.Test.YtpakjclpjcngmaaGreatKdQ24
import Derived.Test.YtpakjclpjcngmaaGreatKdQ23
import Derived.Test.YtpakjclpjcngmaaGreatKdPdInfC
set_option maxRecDepth 100000
set_option maxHeartbeats 4000000
set_option linter.unusedVariables false
namespace Go.Proofs.YtpakjclpjcngmaaGreat
open Go.RowKit
section
variable {K : Nat → Prop} {w w' : World} {r g h : Nat} {bs : List Nat} {most : Int} {s : Inf} {vo : Value}
theorem fV.keep (m:fV K w r g h bs most s vo) (n:Nx w w'):fV (fun k=>K k∨(w.heap.size<=k/\k<w'.heap.size)) w' r g h bs most s vo:=by
 have m':=m.nx n;refine ⟨m'.blk,m'.Ar,m'.own,m'.okb,.inl m'.kh,fun k hk=>?_⟩;rcases hk with hk|⟨h1,h2⟩
 ·exact m'.far k hk
 ·have hr:=m.blk.lt
  have hg:=m.Ar.lt;exact ⟨h2,by omega,by omega,fun e=>by have:=(m.own.lt k e).2;omega⟩
theorem bG.keep (m:bG K w r g h bs most s) (n:Nx w w'):bG (fun k=>K k∨(w.heap.size<=k/\k<w'.heap.size)) w' r g h bs most s:=by
 obtain ⟨vo,m⟩:=m;exact ⟨vo,m.keep n⟩
theorem fV.less {K':Nat->Prop} (m:fV K w r g h bs most s vo) (hK:∀k,K' k->K k) (hh:K' h):fV K' w r g h bs most s vo:=
 ⟨m.blk,m.Ar,m.own,m.okb,hh,fun k hk=>m.far k (hK k hk)⟩
theorem bG.less {K':Nat->Prop} (m:bG K w r g h bs most s) (hK:∀k,K' k->K k) (hh:K' h):bG K' w r g h bs most s:=by
 obtain ⟨vo,m⟩:=m;exact ⟨vo,m.less hK hh⟩
end
end Go.Proofs.YtpakjclpjcngmaaGreat
namespace Go.Proofs.YtpakjclpjcngmaaGreat
theorem zH {d:Nat}:∀(n:Nat) (l:List Nat),(iL n d l).length=l.length+n:=by
 intro n;induction n with
 |zero=>intro l;rfl
 |succ n ih=>intro l;rw[iL,ih];simp only[List.length_append,List.length_singleton];omega
def Within (most:Int) (s s':Inf):Prop:=s.p<=s'.p/\(s'.out.length:Int)<=most
theorem adu {most:Int} {n dd:Nat} {s5:Inf} (h:(s5.out.length:Int)<=most):Within most s5 (PZ most n dd s5).2:=by
 by_cases he:s5.e=0
 ·by_cases hd:s5.out.length<dd
  ·rw[QI he hd];exact ⟨by rw[oI.2];exact Nat.le_refl _,by rw[oI.1];exact h⟩
  ·by_cases hr:(aV most n s5).e=0
   ·rw[QH he hd hr]
    have h2:=(z3r he hr).2;exact ⟨Nat.le_refl _,by simp only[zH];omega⟩
   ·rw[KA he hd hr];exact ⟨by rw[z2x.2];exact Nat.le_refl _,by rw[z2x.1];exact h⟩
 ·rw[QJ he];exact ⟨Nat.le_refl _,h⟩
theorem adt {bs:List Nat} {most:Int} {n:Nat} {d:Int} (hd0:0<=d) {s3:Inf} (h:(s3.out.length:Int)<=most):Within most s3 (VI bs most n d s3).2:=by
 by_cases he:s3.e=0
 ·by_cases hd:29<d
  ·rw[Qz he hd];exact ⟨by rw[oI.2];exact Nat.le_refl _,by rw[oI.1];exact h⟩
  ·obtain ⟨d,rfl⟩:=Int.eq_ofNat_of_zero_le hd0
   rw[yg he (by omega)];have h1:=wS (bs:=bs) (k:=d) (s:=s3);have h2:=adu (most:=most) (n:=n) (dd:=(fP bs d s3).1) (s5:=(fP bs d s3).2) (by rw[h1.1];exact h);exact ⟨Nat.le_trans h1.2 h2.1,h2.2⟩
 ·rw[QA he];exact ⟨Nat.le_refl _,h⟩
theorem zO {bs:List Nat} {most:Int} {zd:List Int} {x:Int} (hx:0<=x) (hz:zd.length<=320) {s1:Inf} (h:(s1.out.length:Int)<=most):Within most s1 (Fe bs most zd x s1).2:=by
 unfold Fe;by_cases h1:s1.e≠0∨x=256
 ·rw[if_pos h1];exact ⟨Nat.le_refl _,h⟩
 ·rw[if_neg h1]
  have he:s1.e=0:=Classical.byContradiction fun hn=>h1 (.inl hn);by_cases h2:x<256
  ·rw[if_pos h2]
   have hr:=z2x (most:=most) (n:=1) (s:=s1);by_cases h3:(aV most 1 s1).e=0
   ·simp only[if_pos h3]
    have h4:=(z3r he h3).2;exact ⟨by simp only[hr.2];exact Nat.le_refl _,by simp only[hr.1,List.length_append,List.length_singleton];omega⟩
   ·simp only[if_neg h3]
    exact ⟨by rw[hr.2];exact Nat.le_refl _,by rw[hr.1];exact h⟩
  ·rw[if_neg h2]
   by_cases h3:285<x
   ·rw[if_pos h3];exact ⟨by simp only[oI.2];exact Nat.le_refl _,by simp only[oI.1];exact h⟩
   ·rw[if_neg h3]
    have q1:=z5Z (bs:=bs) (k:=(x-257).toNat) (s:=s1);generalize b_ bs (x-257).toNat s1=a at *;have q2:=z43 (zs:=zd) (bs:=bs) (s:=a.2);have q3:=nO (zs:=zd) (bs:=bs) (s:=a.2);have q4:=z2v (zs:=zd) (bs:=bs) (s:=a.2) hz;generalize dF bs zd a.2=b at *;have q5:=adt (bs:=bs) (most:=most) (n:=a.1) (d:=b.1) q4.1 (s3:=b.2) (by rw[q2,q1.1];exact h);exact ⟨Nat.le_trans q1.2 (Nat.le_trans q3 q5.1),q5.2⟩
theorem wY {bs:List Nat} {most:Int} {zl zd:List Int} (hl:zl.length<=320) (hz:zd.length<=320):∀(f:Nat) (s:Inf),(s.out.length:Int)<=most->Within most s (bH bs most zl zd f s):=by
 intro f;induction f with
 |zero=>intro s h;exact ⟨Nat.le_refl _,h⟩
 |succ f ih=>
  intro s h;unfold bH;by_cases he:s.e≠0
  ·rw[if_pos he];exact ⟨Nat.le_refl _,h⟩
  ·rw[if_neg he]
   have q2:=z43 (zs:=zl) (bs:=bs) (s:=s);have q3:=nO (zs:=zl) (bs:=bs) (s:=s);have q4:=z2v (zs:=zl) (bs:=bs) (s:=s) hl;have q5:=zO (bs:=bs) (most:=most) (zd:=zd) q4.1 hz (s1:=(dF bs zl s).2) (by rw[q2];exact h);have q6:Within most s (EU bs most zl zd s).2:=⟨Nat.le_trans q3 q5.1,q5.2⟩;by_cases h3:(EU bs most zl zd s).1=true
   ·rw[if_pos h3]
    have q7:=ih _ q6.2;exact ⟨Nat.le_trans q6.1 q7.1,q7.2⟩
   ·rw[if_neg h3];exact q6
theorem CJ {bs:List Nat} {n:Nat} {s:Inf} (h:s.e≠0):aC bs n s=(0,s):=by unfold aC;rw[if_pos h]
theorem Mc {bs:List Nat}:∀(k i:Nat) (t:List Int) (s:Inf),s.p<=(eH bs k i t s).2.p/\(eH bs k i t s).2.out=s.out/\(s.e≠0->(eH bs k i t s).2=s)/\(eH bs k i t s).1.length=t.length:=by
 intro k;induction k with
 |zero=>intro i t s;exact ⟨Nat.le_refl _,rfl,fun _=>rfl,rfl⟩
 |succ k ih=>
  intro i t s;rw[eH];have h1:s.p<=(aC bs 3 s).2.p:=Yk;have h2:=z13 bs 3 s;have h3:=ih (i+1) (t.set (fJ.getD i 0) ((aC bs 3 s).1:Int)) (aC bs 3 s).2;refine ⟨Nat.le_trans h1 h3.1,by rw[h3.2.1,h2],fun he=>?_,by rw[h3.2.2.2,List.length_set]⟩;have h4:=CJ (bs:=bs) (n:=3) he;rw[h3.2.2.1 (by rw[h4];exact he),h4]
theorem L_ {bs:List Nat} {l:List Int} {x:Int} {s:Inf}:s.p<=(bU bs l x s).2.2.p/\(bU bs l x s).2.2.out=s.out/\((bU bs l x s).2.2.e=0->s.e=0)/\1<=(bU bs l x s).2.1:=by
 have hh:∀n,s.p<=(aC bs n s).2.p/\(aC bs n s).2.out=s.out/\((aC bs n s).2.e=0->s.e=0):=fun n=>⟨Yk,z13 bs n s,fun h=>Classical.byContradiction fun he=>he (by rw[CJ he]at h;exact h)⟩;unfold bU;split
 ·exact ⟨Nat.le_refl _,rfl,fun h=>h,Nat.le_refl _⟩
 ·split
  ·exact ⟨(hh 2).1,(hh 2).2.1,(hh 2).2.2,by simp only;omega⟩
  ·split
   ·exact ⟨(hh 3).1,(hh 3).2.1,(hh 3).2.2,by simp only;omega⟩
   ·exact ⟨(hh 7).1,(hh 7).2.1,(hh 7).2.2,by simp only;omega⟩
theorem Rq {nm:Nat} {l:List Int} {t:Nat} {s:Inf}:(jk nm l t s).p=s.p/\(jk nm l t s).out=s.out/\((jk nm l t s).e=0->s.e=0/\l.length+t<=nm):=by
 unfold jk;by_cases h:s.e=0/\nm<l.length+t
 ·rw[if_pos h]
  refine ⟨oI.2,oI.1,fun hh=>?_⟩;unfold aN at hh;rw[if_pos h.1]at hh;simp at hh
 ·rw[if_neg h]
  exact ⟨rfl,rfl,fun hh=>⟨hh,Nat.le_of_not_lt fun hlt=>h ⟨hh,hlt⟩⟩⟩
theorem Pq {e:Int} {s:Inf} (he:e≠0):(aN e s).e≠0:=by
 unfold aN;by_cases h:s.e=0
 ·rw[if_pos h];exact he
 ·rw[if_neg h];exact h
theorem Sj {bs:List Nat} {zt:List Int} {nm:Nat}:∀(k:Nat) (l:List Int) (s:Inf),s.p<=(fO bs zt nm k l s).2.p/\(fO bs zt nm k l s).2.out=s.out/\((fO bs zt nm k l s).2.e=0->s.e=0/\(l.length<=nm->(fO bs zt nm k l s).1.length<=nm)):=by
 intro k;induction k with
 |zero=>intro l s;exact ⟨Nat.le_refl _,rfl,fun h=>⟨h,fun h=>h⟩⟩
 |succ k ih=>
  intro l s;rw[fO];by_cases h1:s.e≠0∨nm<=l.length
  ·rw[if_pos h1];exact ⟨Nat.le_refl _,rfl,fun h=>⟨h,fun h=>h⟩⟩
  ·rw[if_neg h1]
   have he:s.e=0:=Classical.byContradiction fun hn=>h1 (.inl hn);have q2:=z43 (zs:=zt) (bs:=bs) (s:=s);have q3:=nO (zs:=zt) (bs:=bs) (s:=s);generalize dF bs zt s=q at *;by_cases h2:q.2.e≠0
   ·rw[if_pos h2];exact ⟨q3,q2,fun h=>absurd h h2⟩
   ·rw[if_neg h2]
    by_cases h3:q.1=16/\l=[]
    ·rw[if_pos h3];exact ⟨by rw[oI.2];exact q3,by rw[oI.1];exact q2,fun h=>absurd h (Pq (by decide))⟩
    ·rw[if_neg h3]
     have h4:=L_ (bs:=bs) (l:=l) (x:=q.1) (s:=q.2);generalize bU bs l q.1 q.2=t at *;have h5:=Rq (nm:=nm) (l:=l) (t:=t.2.1) (s:=t.2.2);have h6:=ih (l++List.replicate t.2.1 t.1) (jk nm l t.2.1 t.2.2);refine ⟨by rw[h5.1]at h6;exact Nat.le_trans q3 (Nat.le_trans h4.1 h6.1),by rw[h6.2.1,h5.2.1,h4.2.1,q2],fun h=>⟨he,fun _=>?_⟩⟩;have h7:=h6.2.2 h;have h8:=h5.2.2 h7.1;exact h7.2 (by simp only[List.length_append,List.length_replicate];exact h8.2)
theorem Xn {l:List Int} {s:Inf}:(tX l s).p=s.p/\(tX l s).out=s.out:=by
 unfold tX;split
 ·exact ⟨oI.2,oI.1⟩
 ·exact ⟨rfl,rfl⟩
theorem MB {zs:List Int} {s:Inf}:(z11 zs s).p=s.p/\(z11 zs s).out=s.out/\((z11 zs s).e=0->s.e=0):=by
 unfold z11;split
 ·exact ⟨rfl,rfl,fun h=>h⟩
 ·exact ⟨oI.2,oI.1,fun h=>absurd h (Pq (by decide))⟩
def Few (s:Inf) (x:(List Int×List Int)×Inf):Prop:=s.p<=x.2.p/\x.2.out=s.out/\x.1.1.length<=320/\x.1.2.length<=320
theorem qA {bs:List Nat} {n m k:Nat} {s:Inf}:Few s (z2g bs n m k s):=by
 unfold z2g;obtain ⟨s4,hs4⟩:∃s4,(if s.e=0/\(286<n∨30<m) then aN 4 s else s)=s4:=⟨_,rfl⟩
 have h4:s4.p=s.p/\s4.out=s.out/\(s4.e=0->n<=286/\m<=30):=by
  rw[←hs4];by_cases hc:s.e=0/\(286<n∨30<m)
  ·rw[if_pos hc];exact ⟨oI.2,oI.1,fun h=>absurd h (Pq (by decide))⟩
  ·rw[if_neg hc];exact ⟨rfl,rfl,fun h=>by simp only[h,true_and]at hc;omega⟩
 simp only[hs4];have h5:=Mc (bs:=bs) k 0 (List.replicate 19 0) s4;generalize eH bs k 0 (List.replicate 19 0) s4=t at *;by_cases ht:t.2.e≠0
 ·rw[if_pos ht]
  exact ⟨by rw[←h4.1];exact h5.1,by rw[←h4.2.1];exact h5.2.1,Nat.zero_le _,Nat.zero_le _⟩
 ·rw[if_neg ht]
  have h40:s4.e=0:=Classical.byContradiction fun hn=>ht (by rw[h5.2.2.1 hn];exact hn);have hnm:=h4.2.2 h40;have h6:=MB (zs:=t.1) (s:=t.2);have h7:=Sj (bs:=bs) (zt:=t.1) (nm:=n+m) (n+m) [] (z11 t.1 t.2);generalize fO bs t.1 (n+m) (n+m) [] (z11 t.1 t.2)=l at *;have hp:s.p<=l.2.p:=by have:=h4.1;have:=h5.1;have:=h6.1;have:=h7.1;omega
  have ho:l.2.out=s.out:=by rw[h7.2.1,h6.2.1,h5.2.1,h4.2.1]
  by_cases hl:l.2.e≠0
  ·rw[if_pos hl]
   exact ⟨hp,ho,Nat.zero_le _,Nat.zero_le _⟩
  ·rw[if_neg hl]
   have h8:=(h7.2.2 (Classical.byContradiction fun hn=>hl hn)).2 (Nat.zero_le _);have h9:=Xn (l:=l.1) (s:=l.2);refine ⟨by simp only[h9.1];exact hp,by simp only[h9.2];exact ho,?_,?_⟩
   ·simp only[List.length_take];omega
   ·simp only[List.length_drop];omega
theorem C_ {bs:List Nat} {s:Inf}:Few s (aG bs s):=by
 unfold aG;have h1:s.p<=(aC bs 5 s).2.p:=Yk;have h2:=z13 bs 5 s;generalize aC bs 5 s=q1 at *;have h3:q1.2.p<=(aC bs 5 q1.2).2.p:=Yk;have h4:=z13 bs 5 q1.2;generalize aC bs 5 q1.2=q2 at *;have h5:q2.2.p<=(aC bs 4 q2.2).2.p:=Yk;have h6:=z13 bs 4 q2.2;generalize aC bs 4 q2.2=q3 at *;have h7:=qA (bs:=bs) (n:=q1.1+257) (m:=q2.1+1) (k:=q3.1+4) (s:=q3.2);exact ⟨by have:=h7.1;omega,by rw[h7.2.1,h6,h4,h2],h7.2.2.1,h7.2.2.2⟩
end Go.Proofs.YtpakjclpjcngmaaGreat
namespace Go.Proofs.YtpakjclpjcngmaaGreat
open Go.RowKit
section
variable {K0 : Nat → Prop} {B : Nat} {W w w' : World} {r g h t : Nat} {bs : List Nat} {most : Int} {s s' : Inf} {v : Value} {l zt : List Int} {Dt : Nat → Prop}
structure jF (K0:Nat->Prop) (B:Nat) (W w:World) (r g h:Nat) (bs:List Nat) (most:Int) (Dt:Nat->Prop) (t:Nat) (zt:List Int) (s:Inf) (v:Value) (l:List Int):Prop where
 base:W.heap.size<=B
 size:B<=w.heap.size
 kh:K0 h
 lo:∀k,K0 k->k<W.heap.size
 own:w.ownsRow B 3 1 v l.length (il l)
 inf:bG (fun k=>(K0 k∨Dt k)∨v.ownBlock=some k) w r g h bs most s
 ch:Ch (fun k=>¬K0 k) W w
 tbl:jD w Dt t zt
 dt:∀k,Dt k->W.heap.size<=k/\k<B
theorem jF.to (m:jF K0 B W w r g h bs most Dt t zt s v l) (k:iO (fun k=>(K0 k∨Dt k)∨v.ownBlock=some k) w r g h bs most s' w'):jF K0 B W w' r g h bs most Dt t zt s' v l:=by
 obtain ⟨k1,k2⟩:=k;have hs:=k2.size;have hs2:=m.size;exact ⟨m.base,by omega,m.kh,m.lo,z09 m.own k2 (fun k hk hn=>hn (.inr hk)),k1,m.ch.trans k2 (fun i _ hn hk=>hn (.inl (.inl hk))),m.tbl.ch k2 (fun k hk hn=>hn (.inl (.inr hk))),m.dt⟩
theorem jF.nx (m:jF K0 B W w r g h bs most Dt t zt s v l) (k:Nx w w'):jF K0 B W w' r g h bs most Dt t zt s v l:=
 m.to ⟨m.inf.nx k,k.mono fun _ _ hf=>hf.elim⟩
theorem jF.app (m:jF K0 B W w r g h bs most Dt t zt s v l) {o:Obj} {v':Value} {x:Int} (h2:w'.ownsRow B 3 1 v' (l.length+1) (il l++[.int .i64 x]))
 (h3:(w.alloc o).grownBy w' v.ownBlock) (h4:v'.ownBlock=v.ownBlock∨v'.ownBlock=some (w.alloc o).heap.size):jF K0 B W w' r g h bs most Dt t zt s v' (l++[x]):=by
 have hc:Ch (fun k=>v.ownBlock=some k) w w':=((Ch.refl _ w).alloc o).grown h3 fun k hk _=>hk;have hsz:=hc.size;have hal:(w.alloc o).heap.size=w.heap.size+1:=by simp
 have hvB:∀k,v.ownBlock=some k->B<=k/\k<w.heap.size:=fun k hk=>m.own.lt k hk;have hv'B:∀k,v'.ownBlock=some k->B<=k/\k<w'.heap.size:=fun k hk=>h2.lt k hk;have hb:=m.base;have hsz2:=m.size;obtain ⟨vo,n⟩:=m.inf;have hr:=n.blk.lt;have hg:=n.Ar.lt;have hlh:=m.lo h m.kh;refine ⟨m.base,by omega,m.kh,m.lo,?_,⟨vo,?_⟩,m.ch.trans hc (fun i hi hk=>?_),m.tbl.ch hc (fun k hk hn=>?_),m.dt⟩
 ·have e:(l++[x]).length=l.length+1:=by simp
  have e2:il (l++[x])=il l++[.int .i64 x]:=by simp[il]
  rw[e,e2];exact h2
 ·refine ⟨n.blk.ch hc (fun e=>(n.far r (.inr e)).2.1 rfl),n.Ar.ch hc (fun e=>(n.far g (.inr e)).2.2.1 rfl) (fun e=>by have:=hvB h e;omega),z09 n.own hc (fun k hk e=>(n.far k (.inr e)).2.2.2 hk),n.okb,.inl (.inl m.kh),fun k hk=>?_⟩
  rcases hk with hk|hk
  ·have:=n.far k (.inl hk)
   exact ⟨by omega,this.2⟩
  ·have h5:=hv'B k hk
   rcases h4 with e|e
   ·have:=n.far k (.inr (by rw[←e];exact hk))
    exact ⟨h5.2,this.2⟩
   ·have hk2:k=w.heap.size+1:=by rw[e]at hk;injection hk with hk;omega
    exact ⟨h5.2,by omega,by omega,fun e=>by have:=(n.own.lt k e).2;omega⟩
 ·have:=hvB i hk;omega
 ·have h5:=hvB k hn
  have h6:=m.dt k hk;omega
theorem jF.dI (m:jF K0 B W w r g h bs most Dt t zt s v l):w.cell? ⟨r,3,none⟩=some (.int .i64 s.e):=m.inf.dI
end
section
variable {K : Nat → Prop} {w w' : World} {r g h : Nat} {bs : List Nat} {most : Int} {s : Inf} {b : Nat}
theorem bG.side (m:bG K w r g h bs most s) (hc:Ch (fun k=>k=b) w w') (hb:K b) (hn:h≠b):bG K w' r g h bs most s:=by
 obtain ⟨vo,m⟩:=m;have hf:=m.far b hb;have hs:=hc.size;exact ⟨vo,m.blk.ch hc (fun e=>hf.2.1 e.symm),m.Ar.ch hc (fun e=>hf.2.2.1 e.symm) hn,z09 m.own hc (fun k hk e=>hf.2.2.2 (by rw[hk,e])),m.okb,m.kh,fun k hk=>by have:=m.far k hk;exact ⟨by omega,this.2⟩⟩
end
def zB (k:Nat):Int:=if k<144∨279<k then 8 else if k<256 then 9 else 7
def qL (k:Nat):List Int:=(List.range k).map zB
theorem IQ (k:Nat):qL (k+1)=qL k++[zB k]:=by simp[qL,List.range_succ]
def Yi (W:World) (e:Ending) (w':World):Prop:=
 ∃A1 c1 A2 c2,e=.returned (.tuple #[.slice A1 288 c1,.slice A2 32 c2])/\Rd w' (fun k=>W.heap.size<=k/\k<w'.heap.size) 1 A1 288 (il z12)/\Rd w' (fun k=>W.heap.size<=k/\k<w'.heap.size) 1 A2 32 (il rU)/\Nx W w'
set_option maxRecDepth 100000 in
theorem Oq (W:World):Calls Tryz.prog 280 #[] W (Yi W):=by
 obtain ⟨i0,hi0,hz0,hz1,hz2⟩:=info_parts Tryz.info3;have h0:=ay.nil W W 3 1 (Ch.refl _ W);go_enter Tryz.func280,Tryz.ntmps280;go_wp2_with fail;go_loopw [0,3] (fun v i wr=>∃k:Nat,k<=288/\i=.int .i64 k/\ay W wr 3 1 v k (il (qL k))) (fun _ i _=>288-(intOf i).toNat)
 case atStart=>exact ⟨0,by omega,rfl,by simpa [qL,il]using h0⟩
 case round=>
  clear h0;obtain ⟨w1,rfl⟩:∃w1:World,w1=wr:=⟨_,rfl⟩;obtain ⟨k,hk,rfl,ho⟩:=hrel;by_cases hlt:k<288
  ·have hs:=IQ k
   have e:∀v:Int,zB k=v->il (qL (k+1))=il (qL k)++[.int .i64 v]:=fun v hv=>by rw[hs,hv];simp[il]
   have He:=ah e;clear e hs;by_cases h8:k<144∨279<k
   ·have hv:zB k=8:=by unfold zB;rw[if_pos h8]
    have Hv:=ah (He.out 8 hv);clear hv He;by_cases h9:k<144
    ·clear h8
     go_wp2_with (at_builtin;refine z08 rfl (.tmp 14) (.tmp 15) _ rfl 3 i0 _ 8 Tryz.underlying88 hi0 hz0 hz1 hz2 rfl _ rfl rfl ho rfl (by simp only[maxLen];omega) (by omega) ?_;intro v' w' ho2 hm)
     go_roundw
     case rel=>exact ⟨k+1,by omega,by go_num,by rw[Hv.out];exact ho2⟩
     case measure=>simp[intOf];omega
    ·have h10:279<k:=by omega
     clear h8;go_wp2_with (at_builtin;refine z08 rfl (.tmp 14) (.tmp 15) _ rfl 3 i0 _ 8 Tryz.underlying88 hi0 hz0 hz1 hz2 rfl _ rfl rfl ho rfl (by simp only[maxLen];omega) (by omega) ?_;intro v' w' ho2 hm)
     go_roundw
     case rel=>exact ⟨k+1,by omega,by go_num,by rw[Hv.out];exact ho2⟩
     case measure=>simp[intOf];omega
   ·by_cases h9:k<256
    ·have hv:zB k=9:=by unfold zB;rw[if_neg h8,if_pos h9]
     have Hv:=ah (He.out 9 hv);have h11:¬k<144:=(by omega);have h12:¬279<k:=(by omega);clear hv He h8;go_wp2_with (at_builtin;refine z08 rfl (.tmp 20) (.tmp 21) _ rfl 3 i0 _ 8 Tryz.underlying88 hi0 hz0 hz1 hz2 rfl _ rfl rfl ho rfl (by simp only[maxLen];omega) (by omega) ?_;intro v' w' ho2 hm)
     go_roundw
     case rel=>exact ⟨k+1,by omega,by go_num,by rw[Hv.out];exact ho2⟩
     case measure=>simp[intOf];omega
    ·have hv:zB k=7:=by unfold zB;rw[if_neg h8,if_neg h9]
     have Hv:=ah (He.out 7 hv);have h11:¬k<144:=(by omega);have h12:¬279<k:=(by omega);clear hv He h8;go_wp2_with (at_builtin;refine z08 rfl (.tmp 6) (.tmp 7) _ rfl 3 i0 _ 8 Tryz.underlying88 hi0 hz0 hz1 hz2 rfl _ rfl rfl ho rfl (by simp only[maxLen];omega) (by omega) ?_;intro v' w' ho2 hm)
     go_roundw
     case rel=>exact ⟨k+1,by omega,by go_num,by rw[Hv.out];exact ho2⟩
     case measure=>simp[intOf];omega
  ·have hk8:k=288:=by omega
   have Hk8:=ah hk8;clear hk8;have h1:=ay.nil w1 w1 3 1 (Ch.refl _ w1);obtain ⟨A1,c1,rfl,_,_⟩:=ho.form;go_wp2_with fail;go_loopw [1,24] (fun v i wr=>∃k:Nat,k<=32/\i=.int .i64 k/\ay w1 wr 3 1 v k (il (List.replicate k 5))) (fun _ i _=>32-(intOf i).toNat)
   case atStart=>exact ⟨0,by omega,rfl,by simpa [il]using h1⟩
   case round=>
    clear h1;obtain ⟨w2,rfl⟩:∃w2:World,w2=wr:=⟨_,rfl⟩;obtain ⟨j,hj,rfl,ho1⟩:=hrel;by_cases hlt:j<32
    ·have e:il (List.replicate (j+1) 5)=il (List.replicate j 5)++[.int .i64 5]:=by simp[il,List.replicate_succ']
     have He:=ah e;clear e;go_wp2_with (at_builtin;refine z08 rfl (.tmp 26) (.tmp 27) _ rfl 3 i0 _ 8 Tryz.underlying88 hi0 hz0 hz1 hz2 rfl _ rfl rfl ho1 rfl (by simp only[maxLen];omega) (by omega) ?_;intro v' w' ho2 hm)
     go_roundw
     case rel=>exact ⟨j+1,by omega,by go_num,by rw[He.out];exact ho2⟩
     case measure=>simp[intOf];omega
    ·have hj8:j=32:=by omega
     have Hj8:=ah hj8;clear hj8;obtain ⟨A2,c2,rfl,_,_⟩:=ho1.form;go_wp2_with fail;go_ret2;rw[Hk8.out]at ho;rw[Hj8.out]at ho1;refine ⟨A1,c1,A2,c2,by rw[Hk8.out,Hj8.out];rfl,?_,?_,ho.nx.tr ho1.nx⟩
     ·have h1:=ho1.nx.size
      exact ((ho.tr ho1.nx).rd).more fun k hk=>hk.2
     ·have h1:=ho.nx.size
      exact ho1.rd.more fun k hk=>⟨by omega,hk.2.2⟩
end Go.Proofs.YtpakjclpjcngmaaGreat
namespace Go.Proofs.YtpakjclpjcngmaaGreat
section
variable {bs : List Nat} {most : Int} {s : Inf}
end
section
variable {bs b2 : List Nat} {most m2 : Int} {s t : Inf}
theorem z4y {n:Int} {s:Inf} (he:s.e=0) (h:(s.out.length:Int)+n<=most):aV most n s=s:=by
 unfold aV;rw[if_neg (by omega)]
end
theorem z6q (bs:List Nat) (P:Nat):∀(k i:Nat),i+k<=8->dS bs (8 * P+i) k=bs.getD P 0 / 2 ^ i % 2 ^ k:=by
 intro k;induction k with
 |zero=>intro i _;simp[dS,Nat.mod_one]
 |succ k ih=>
  intro i h;rw[dS,ih i (by omega)];have e1:(8 * P+i+k) / 8=P:=(by omega);have e2:(8 * P+i+k) % 8=i+k:=(by omega);unfold iY;rw[e1,e2,Nat.mod_pow_succ,Nat.pow_add,←Nat.div_div_eq_div_mul,Nat.mul_comm]
theorem z4I (bs:List Nat) (P:Nat) (h:bs.getD P 0<256):dS bs (8 * P) 8=bs.getD P 0:=by
 have:=z6q bs P 8 0 (by omega);simp only[Nat.add_zero,Nat.pow_zero,Nat.div_one]at this;rw[this];exact Nat.mod_eq_of_lt h
theorem EC (bs:List Nat) (P:Nat) (h:bs.getD P 0<256) (h2:bs.getD (P+1) 0<256):dS bs (8 * P) 16=bs.getD P 0+256 * bs.getD (P+1) 0:=by
 rw[show (16:Nat)=8+8 from rfl,Ur,z4I bs P h,show 8 * P+8=8 * (P+1) by omega,z4I bs (P+1) h2]
theorem z3c {bs:List Nat} {n p:Nat} {out:List Nat} (h:p+n<=8 * bs.length):aC bs n ⟨p,out,0⟩=(dS bs p n,⟨p+n,out,0⟩):=by
 unfold aC;rw[if_neg (by simp),if_pos h]
theorem z5E {bs:List Nat} {q:List Nat} (hq:okB q):∀(k P:Nat) (out:List Nat),k<=q.length->P+k<=bs.length->(∀j,j<k->bs.getD (P+j) 0=q.getD (q.length-k+j) 0)->
 uM bs k ⟨8 * P,out,0⟩=⟨8 * (P+k),out++q.drop (q.length-k),0⟩:=by
 intro k;induction k with
 |zero=>intro P out _ _ _;simp[uM]
 |succ k ih=>
  intro P out hk hP h;have h0:=h 0 (by omega);simp only[Nat.add_zero]at h0;have hlt:q.length-(k+1)<q.length:=(by omega);have hget:q.getD (q.length-(k+1)) 0=q[q.length-(k+1)]:=(by simp[List.getD,List.getElem?_eq_getElem hlt]);have h1:bs.getD P 0<256:=by rw[h0,hget];exact hq _ (List.getElem_mem hlt)
  unfold uM;rw[z3c (by omega),z4I bs P h1];simp only[ne_eq,not_true_eq_false,if_false]
  have h2:=ih (P+1) (out++[bs.getD P 0]) (by omega) (by omega) (fun j hj=>by
   have:=h (j+1) (by omega);rw[show P+1+j=P+(j+1) by omega,this,show q.length-(k+1)+(j+1)=q.length-k+j by omega])
  rw[show 8 * P+8=8 * (P+1) by omega,h2,show P+1+k=P+(k+1) by omega];congr 1
  rw[h0,hget,List.append_assoc,List.singleton_append,show q.length-k=q.length-(k+1)+1 by omega,←List.drop_eq_getElem_cons hlt]
end Go.Proofs.YtpakjclpjcngmaaGreat
