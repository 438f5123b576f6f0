/- Contracts and plain laws that the last text rests on. Conditions: each theorem states its own. -/
import Derived.Test.YtpakjclpjcngmaaGreatKqQ26
import Derived.Test.YtpakjclpjcngmaaGreatKqPbInfC
import Derived.Test.YtpakjclpjcngmaaGreatKqQ12
set_option maxRecDepth 100000
set_option maxHeartbeats 8000000
set_option linter.unusedVariables false
namespace Go.Proofs.YtpakjclpjcngmaaGreat
def fM:List Nat:=[16,17,18,0,8,7,9,6,10,5,11,4,12,3,13,2,14,1,15]
def eH (bs:List Nat):Nat->Nat->List Int->Inf->List Int×Inf
 |0,_,t,s=>(t,s)
 |k+1,i,t,s=>eH bs k (i+1) (t.set (fM.getD i 0) ((aC bs 3 s).1:Int)) (aC bs 3 s).2
def bK (bs:List Nat) (l:List Int) (x:Int) (s:Inf):Int×Nat×Inf:=
 if x<16 then (x,1,s) else
 if x=16 then (l.getD (l.length-1) 0,3+(aC bs 2 s).1,(aC bs 2 s).2) else
 if x=17 then (0,3+(aC bs 3 s).1,(aC bs 3 s).2) else (0,11+(aC bs 7 s).1,(aC bs 7 s).2)
def jd (nm:Nat) (l:List Int) (times:Nat) (s:Inf):Inf:=if s.e=0/\nm<l.length+times then aJ 4 s else s
def fP (bs:List Nat) (zt:List Int) (nm:Nat):Nat->List Int->Inf->List Int×Inf
 |0,l,s=>(l,s)
 |k+1,l,s=>
  if s.e≠0∨nm<=l.length then (l,s) else
  if (dB bs zt s).2.e≠0 then (l,(dB bs zt s).2) else
  if (dB bs zt s).1=16/\l=[] then (l,aJ 4 (dB bs zt s).2) else
  fP bs zt nm k (l++List.replicate (bK bs l (dB bs zt s).1 (dB bs zt s).2).2.1 (bK bs l (dB bs zt s).1 (dB bs zt s).2).1)
   (jd nm l (bK bs l (dB bs zt s).1 (dB bs zt s).2).2.1 (bK bs l (dB bs zt s).1 (dB bs zt s).2).2.2)
def lW (zs:List Int) (s:Inf):Inf:=if dV zs=0 then s else aJ 4 s
def tZ (l:List Int) (s:Inf):Inf:=if s.e=0/\l.getD 256 0=0 then aJ 4 s else s
def z23 (bs:List Nat) (n m k:Nat) (s3:Inf):(List Int×List Int)×Inf:=
 let s4:=if s3.e=0/\(286<n∨30<m) then aJ 4 s3 else s3
 let t:=eH bs k 0 (List.replicate 19 0) s4
 if t.2.e≠0 then (([],[]),t.2) else
 let l:=fP bs t.1 (n+m) (n+m) [] (lW t.1 t.2)
 if l.2.e≠0 then (([],[]),l.2) else ((l.1.take n,l.1.drop n),tZ l.1 l.2)
def aF (bs:List Nat) (s:Inf):(List Int×List Int)×Inf:=
 z23 bs ((aC bs 5 s).1+257) ((aC bs 5 (aC bs 5 s).2).1+1) ((aC bs 4 (aC bs 5 (aC bs 5 s).2).2).1+4) (aC bs 4 (aC bs 5 (aC bs 5 s).2).2).2
def Po (bs:List Nat) (most:Int) (zl zd:List Int) (s:Inf):Inf:=
 if s.e≠0 then s else
 if (lW zl s).e≠0 then lW zl s else bD bs most zl zd (8 * bs.length+1) (lW zd (lW zl s))
def gY (bs:List Nat) (most:Int) (kind:Nat) (s:Inf):Inf:=
 if kind=0 then VF bs most s else
 if kind=1 then Po bs most mQ sD s else
 if kind=2 then Po bs most (aF bs s).1.1 (aF bs s).1.2 (aF bs s).2 else aJ 4 s
def VE (bs:List Nat) (most:Int) (s:Inf):Inf:=
 if (aC bs 2 (aC bs 1 s).2).2.e≠0 then (aC bs 2 (aC bs 1 s).2).2 else gY bs most (aC bs 2 (aC bs 1 s).2).1 (aC bs 2 (aC bs 1 s).2).2
def mV (bs:List Nat) (most:Int):Nat->Inf->Inf
 |0,s=>s
 |k+1,s=>if (VE bs most s).e=0/\(aC bs 1 s).1=0 then mV bs most k (VE bs most s) else VE bs most s
def Ah (bs:List Nat) (most:Int):List Nat×Nat×Int:=
 if most<0∨65536<most then ([],0,1) else
 let s:=mV bs most (8 * bs.length+1) ⟨0,[],0⟩
 if s.e≠0 then ([],0,s.e) else (s.out,(s.p+7) / 8,0)
end Go.Proofs.YtpakjclpjcngmaaGreat
namespace Go.Proofs.YtpakjclpjcngmaaGreat
open Go.RowKit
section
variable {K : Nat → Prop} {w w' : World} {r g h : Nat} {bs : List Nat} {most : Int} {s : Inf} {vo : Value}
theorem fZ.keep (m:fZ K w r g h bs most s vo) (n:Nx w w'):fZ (fun k=>K k∨(w.heap.size<=k/\k<w'.heap.size)) w' r g h bs most s vo:=by
 have m':=m.nx n;refine ⟨m'.blk,m'.Ai,m'.own,m'.okb,.inl m'.kh,fun k hk=>?_⟩;rcases hk with hk|⟨h1,h2⟩
 ·exact m'.far k hk
 ·have hr:=m.blk.lt
  have hg:=m.Ai.lt;exact ⟨h2,by omega,by omega,fun e=>by have:=(m.own.lt k e).2;omega⟩
theorem bg.keep (m:bg K w r g h bs most s) (n:Nx w w'):bg (fun k=>K k∨(w.heap.size<=k/\k<w'.heap.size)) w' r g h bs most s:=by
 obtain ⟨vo,m⟩:=m;exact ⟨vo,m.keep n⟩
theorem fZ.less {K':Nat->Prop} (m:fZ K w r g h bs most s vo) (hK:∀k,K' k->K k) (hh:K' h):fZ K' w r g h bs most s vo:=
 ⟨m.blk,m.Ai,m.own,m.okb,hh,fun k hk=>m.far k (hK k hk)⟩
theorem bg.less {K':Nat->Prop} (m:bg K w r g h bs most s) (hK:∀k,K' k->K k) (hh:K' h):bg K' w r g h bs most s:=by
 obtain ⟨vo,m⟩:=m;exact ⟨vo,m.less hK hh⟩
end
end Go.Proofs.YtpakjclpjcngmaaGreat
namespace Go.Proofs.YtpakjclpjcngmaaGreat
theorem zA {d:Nat}:∀(n:Nat) (l:List Nat),(iH n d l).length=l.length+n:=by
 intro n;induction n with
 |zero=>intro l;rfl
 |succ n ih=>intro l;rw[iH,ih];simp only[List.length_append,List.length_singleton];omega
def Within (most:Int) (s s':Inf):Prop:=s.p<=s'.p/\(s'.out.length:Int)<=most
theorem adk {most:Int} {n dd:Nat} {s5:Inf} (h:(s5.out.length:Int)<=most):Within most s5 (PS most n dd s5).2:=by
 by_cases he:s5.e=0
 ·by_cases hd:s5.out.length<dd
  ·rw[Qz he hd];exact ⟨by rw[oN.2];exact Nat.le_refl _,by rw[oN.1];exact h⟩
  ·by_cases hr:(aP most n s5).e=0
   ·rw[Qy he hd hr]
    have h2:=(z30 he hr).2;exact ⟨Nat.le_refl _,by simp only[zA];omega⟩
   ·rw[JX he hd hr];exact ⟨by rw[z2m.2];exact Nat.le_refl _,by rw[z2m.1];exact h⟩
 ·rw[QA he];exact ⟨Nat.le_refl _,h⟩
theorem adi {bs:List Nat} {most:Int} {n:Nat} {d:Int} (hd0:0<=d) {s3:Inf} (h:(s3.out.length:Int)<=most):Within most s3 (VN bs most n d s3).2:=by
 by_cases he:s3.e=0
 ·by_cases hd:29<d
  ·rw[Qq he hd];exact ⟨by rw[oN.2];exact Nat.le_refl _,by rw[oN.1];exact h⟩
  ·obtain ⟨d,rfl⟩:=Int.eq_ofNat_of_zero_le hd0
   rw[yc he (by omega)];have h1:=wQ (bs:=bs) (k:=d) (s:=s3);have h2:=adk (most:=most) (n:=n) (dd:=(fQ bs d s3).1) (s5:=(fQ bs d s3).2) (by rw[h1.1];exact h);exact ⟨Nat.le_trans h1.2 h2.1,h2.2⟩
 ·rw[Qr he];exact ⟨Nat.le_refl _,h⟩
theorem zF {bs:List Nat} {most:Int} {zd:List Int} {x:Int} (hx:0<=x) (hz:zd.length<=320) {s1:Inf} (h:(s1.out.length:Int)<=most):Within most s1 (Fa bs most zd x s1).2:=by
 unfold Fa;by_cases h1:s1.e≠0∨x=256
 ·rw[if_pos h1];exact ⟨Nat.le_refl _,h⟩
 ·rw[if_neg h1]
  have he:s1.e=0:=Classical.byContradiction fun hn=>h1 (.inl hn);by_cases h2:x<256
  ·rw[if_pos h2]
   have hr:=z2m (most:=most) (n:=1) (s:=s1);by_cases h3:(aP most 1 s1).e=0
   ·simp only[if_pos h3]
    have h4:=(z30 he h3).2;exact ⟨by simp only[hr.2];exact Nat.le_refl _,by simp only[hr.1,List.length_append,List.length_singleton];omega⟩
   ·simp only[if_neg h3]
    exact ⟨by rw[hr.2];exact Nat.le_refl _,by rw[hr.1];exact h⟩
  ·rw[if_neg h2]
   by_cases h3:285<x
   ·rw[if_pos h3];exact ⟨by simp only[oN.2];exact Nat.le_refl _,by simp only[oN.1];exact h⟩
   ·rw[if_neg h3]
    have q1:=z5r (bs:=bs) (k:=(x-257).toNat) (s:=s1);generalize bV bs (x-257).toNat s1=a at *;have q2:=z3z (zs:=zd) (bs:=bs) (s:=a.2);have q3:=nS (zs:=zd) (bs:=bs) (s:=a.2);have q4:=z2i (zs:=zd) (bs:=bs) (s:=a.2) hz;generalize dB bs zd a.2=b at *;have q5:=adi (bs:=bs) (most:=most) (n:=a.1) (d:=b.1) q4.1 (s3:=b.2) (by rw[q2,q1.1];exact h);exact ⟨Nat.le_trans q1.2 (Nat.le_trans q3 q5.1),q5.2⟩
theorem wW {bs:List Nat} {most:Int} {zl zd:List Int} (hl:zl.length<=320) (hz:zd.length<=320):∀(f:Nat) (s:Inf),(s.out.length:Int)<=most->Within most s (bD bs most zl zd f s):=by
 intro f;induction f with
 |zero=>intro s h;exact ⟨Nat.le_refl _,h⟩
 |succ f ih=>
  intro s h;unfold bD;by_cases he:s.e≠0
  ·rw[if_pos he];exact ⟨Nat.le_refl _,h⟩
  ·rw[if_neg he]
   have q2:=z3z (zs:=zl) (bs:=bs) (s:=s);have q3:=nS (zs:=zl) (bs:=bs) (s:=s);have q4:=z2i (zs:=zl) (bs:=bs) (s:=s) hl;have q5:=zF (bs:=bs) (most:=most) (zd:=zd) q4.1 hz (s1:=(dB bs zl s).2) (by rw[q2];exact h);have q6:Within most s (ET bs most zl zd s).2:=⟨Nat.le_trans q3 q5.1,q5.2⟩;by_cases h3:(ET bs most zl zd s).1=true
   ·rw[if_pos h3]
    have q7:=ih _ q6.2;exact ⟨Nat.le_trans q6.1 q7.1,q7.2⟩
   ·rw[if_neg h3];exact q6
theorem Ce {bs:List Nat} {n:Nat} {s:Inf} (h:s.e≠0):aC bs n s=(0,s):=by unfold aC;rw[if_pos h]
theorem LU {bs:List Nat}:∀(k i:Nat) (t:List Int) (s:Inf),s.p<=(eH bs k i t s).2.p/\(eH bs k i t s).2.out=s.out/\(s.e≠0->(eH bs k i t s).2=s)/\(eH bs k i t s).1.length=t.length:=by
 intro k;induction k with
 |zero=>intro i t s;exact ⟨Nat.le_refl _,rfl,fun _=>rfl,rfl⟩
 |succ k ih=>
  intro i t s;rw[eH];have h1:s.p<=(aC bs 3 s).2.p:=Yx;have h2:=z10 bs 3 s;have h3:=ih (i+1) (t.set (fM.getD i 0) ((aC bs 3 s).1:Int)) (aC bs 3 s).2;refine ⟨Nat.le_trans h1 h3.1,by rw[h3.2.1,h2],fun he=>?_,by rw[h3.2.2.2,List.length_set]⟩;have h4:=Ce (bs:=bs) (n:=3) he;rw[h3.2.2.1 (by rw[h4];exact he),h4]
theorem LQ {bs:List Nat} {l:List Int} {x:Int} {s:Inf}:s.p<=(bK bs l x s).2.2.p/\(bK bs l x s).2.2.out=s.out/\((bK bs l x s).2.2.e=0->s.e=0)/\1<=(bK bs l x s).2.1:=by
 have hh:∀n,s.p<=(aC bs n s).2.p/\(aC bs n s).2.out=s.out/\((aC bs n s).2.e=0->s.e=0):=fun n=>⟨Yx,z10 bs n s,fun h=>Classical.byContradiction fun he=>he (by rw[Ce he]at h;exact h)⟩;unfold bK;split
 ·exact ⟨Nat.le_refl _,rfl,fun h=>h,Nat.le_refl _⟩
 ·split
  ·exact ⟨(hh 2).1,(hh 2).2.1,(hh 2).2.2,by simp only;omega⟩
  ·split
   ·exact ⟨(hh 3).1,(hh 3).2.1,(hh 3).2.2,by simp only;omega⟩
   ·exact ⟨(hh 7).1,(hh 7).2.1,(hh 7).2.2,by simp only;omega⟩
theorem QY {nm:Nat} {l:List Int} {t:Nat} {s:Inf}:(jd nm l t s).p=s.p/\(jd nm l t s).out=s.out/\((jd nm l t s).e=0->s.e=0/\l.length+t<=nm):=by
 unfold jd;by_cases h:s.e=0/\nm<l.length+t
 ·rw[if_pos h]
  refine ⟨oN.2,oN.1,fun hh=>?_⟩;unfold aJ at hh;rw[if_pos h.1]at hh;simp at hh
 ·rw[if_neg h]
  exact ⟨rfl,rfl,fun hh=>⟨hh,Nat.le_of_not_lt fun hlt=>h ⟨hh,hlt⟩⟩⟩
theorem z1n {e:Int} {s:Inf} (he:e≠0):(aJ e s).e≠0:=by
 unfold aJ;by_cases h:s.e=0
 ·rw[if_pos h];exact he
 ·rw[if_neg h];exact h
theorem RP {bs:List Nat} {zt:List Int} {nm:Nat}:∀(k:Nat) (l:List Int) (s:Inf),s.p<=(fP bs zt nm k l s).2.p/\(fP bs zt nm k l s).2.out=s.out/\((fP bs zt nm k l s).2.e=0->s.e=0/\(l.length<=nm->(fP bs zt nm k l s).1.length<=nm)):=by
 intro k;induction k with
 |zero=>intro l s;exact ⟨Nat.le_refl _,rfl,fun h=>⟨h,fun h=>h⟩⟩
 |succ k ih=>
  intro l s;rw[fP];by_cases h1:s.e≠0∨nm<=l.length
  ·rw[if_pos h1];exact ⟨Nat.le_refl _,rfl,fun h=>⟨h,fun h=>h⟩⟩
  ·rw[if_neg h1]
   have he:s.e=0:=Classical.byContradiction fun hn=>h1 (.inl hn);have q2:=z3z (zs:=zt) (bs:=bs) (s:=s);have q3:=nS (zs:=zt) (bs:=bs) (s:=s);generalize dB bs zt s=q at *;by_cases h2:q.2.e≠0
   ·rw[if_pos h2];exact ⟨q3,q2,fun h=>absurd h h2⟩
   ·rw[if_neg h2]
    by_cases h3:q.1=16/\l=[]
    ·rw[if_pos h3];exact ⟨by rw[oN.2];exact q3,by rw[oN.1];exact q2,fun h=>absurd h (z1n (by decide))⟩
    ·rw[if_neg h3]
     have h4:=LQ (bs:=bs) (l:=l) (x:=q.1) (s:=q.2);generalize bK bs l q.1 q.2=t at *;have h5:=QY (nm:=nm) (l:=l) (t:=t.2.1) (s:=t.2.2);have h6:=ih (l++List.replicate t.2.1 t.1) (jd nm l t.2.1 t.2.2);refine ⟨by rw[h5.1]at h6;exact Nat.le_trans q3 (Nat.le_trans h4.1 h6.1),by rw[h6.2.1,h5.2.1,h4.2.1,q2],fun h=>⟨he,fun _=>?_⟩⟩;have h7:=h6.2.2 h;have h8:=h5.2.2 h7.1;exact h7.2 (by simp only[List.length_append,List.length_replicate];exact h8.2)
theorem XB {l:List Int} {s:Inf}:(tZ l s).p=s.p/\(tZ l s).out=s.out:=by
 unfold tZ;split
 ·exact ⟨oN.2,oN.1⟩
 ·exact ⟨rfl,rfl⟩
theorem LX {zs:List Int} {s:Inf}:(lW zs s).p=s.p/\(lW zs s).out=s.out/\((lW zs s).e=0->s.e=0):=by
 unfold lW;split
 ·exact ⟨rfl,rfl,fun h=>h⟩
 ·exact ⟨oN.2,oN.1,fun h=>absurd h (z1n (by decide))⟩
def Few (s:Inf) (x:(List Int×List Int)×Inf):Prop:=s.p<=x.2.p/\x.2.out=s.out/\x.1.1.length<=320/\x.1.2.length<=320
theorem qI {bs:List Nat} {n m k:Nat} {s:Inf}:Few s (z23 bs n m k s):=by
 unfold z23;obtain ⟨s4,hs4⟩:∃s4,(if s.e=0/\(286<n∨30<m) then aJ 4 s else s)=s4:=⟨_,rfl⟩
 have h4:s4.p=s.p/\s4.out=s.out/\(s4.e=0->n<=286/\m<=30):=by
  rw[←hs4];by_cases hc:s.e=0/\(286<n∨30<m)
  ·rw[if_pos hc];exact ⟨oN.2,oN.1,fun h=>absurd h (z1n (by decide))⟩
  ·rw[if_neg hc];exact ⟨rfl,rfl,fun h=>by simp only[h,true_and]at hc;omega⟩
 simp only[hs4];have h5:=LU (bs:=bs) k 0 (List.replicate 19 0) s4;generalize eH bs k 0 (List.replicate 19 0) s4=t at *;by_cases ht:t.2.e≠0
 ·rw[if_pos ht]
  exact ⟨by rw[←h4.1];exact h5.1,by rw[←h4.2.1];exact h5.2.1,Nat.zero_le _,Nat.zero_le _⟩
 ·rw[if_neg ht]
  have h40:s4.e=0:=Classical.byContradiction fun hn=>ht (by rw[h5.2.2.1 hn];exact hn);have hnm:=h4.2.2 h40;have h6:=LX (zs:=t.1) (s:=t.2);have h7:=RP (bs:=bs) (zt:=t.1) (nm:=n+m) (n+m) [] (lW t.1 t.2);generalize fP bs t.1 (n+m) (n+m) [] (lW t.1 t.2)=l at *;have hp:s.p<=l.2.p:=by have:=h4.1;have:=h5.1;have:=h6.1;have:=h7.1;omega
  have ho:l.2.out=s.out:=by rw[h7.2.1,h6.2.1,h5.2.1,h4.2.1]
  by_cases hl:l.2.e≠0
  ·rw[if_pos hl]
   exact ⟨hp,ho,Nat.zero_le _,Nat.zero_le _⟩
  ·rw[if_neg hl]
   have h8:=(h7.2.2 (Classical.byContradiction fun hn=>hl hn)).2 (Nat.zero_le _);have h9:=XB (l:=l.1) (s:=l.2);refine ⟨by simp only[h9.1];exact hp,by simp only[h9.2];exact ho,?_,?_⟩
   ·simp only[List.length_take];omega
   ·simp only[List.length_drop];omega
theorem CU {bs:List Nat} {s:Inf}:Few s (aF bs s):=by
 unfold aF;have h1:s.p<=(aC bs 5 s).2.p:=Yx;have h2:=z10 bs 5 s;generalize aC bs 5 s=q1 at *;have h3:q1.2.p<=(aC bs 5 q1.2).2.p:=Yx;have h4:=z10 bs 5 q1.2;generalize aC bs 5 q1.2=q2 at *;have h5:q2.2.p<=(aC bs 4 q2.2).2.p:=Yx;have h6:=z10 bs 4 q2.2;generalize aC bs 4 q2.2=q3 at *;have h7:=qI (bs:=bs) (n:=q1.1+257) (m:=q2.1+1) (k:=q3.1+4) (s:=q3.2);exact ⟨by have:=h7.1;omega,by rw[h7.2.1,h6,h4,h2],h7.2.2.1,h7.2.2.2⟩
end Go.Proofs.YtpakjclpjcngmaaGreat
namespace Go.Proofs.YtpakjclpjcngmaaGreat
open Go.RowKit
section
variable {K0 : Nat → Prop} {B : Nat} {W w w' : World} {r g h t : Nat} {bs : List Nat} {most : Int} {s s' : Inf} {v : Value} {l zt : List Int} {Dt : Nat → Prop}
structure jG (K0:Nat->Prop) (B:Nat) (W w:World) (r g h:Nat) (bs:List Nat) (most:Int) (Dt:Nat->Prop) (t:Nat) (zt:List Int) (s:Inf) (v:Value) (l:List Int):Prop where
 base:W.heap.size<=B
 size:B<=w.heap.size
 kh:K0 h
 lo:∀k,K0 k->k<W.heap.size
 own:w.ownsRow B 3 1 v l.length (il l)
 inf:bg (fun k=>(K0 k∨Dt k)∨v.ownBlock=some k) w r g h bs most s
 ch:Ch (fun k=>¬K0 k) W w
 tbl:jE w Dt t zt
 dt:∀k,Dt k->W.heap.size<=k/\k<B
theorem jG.to (m:jG K0 B W w r g h bs most Dt t zt s v l) (k:iJ (fun k=>(K0 k∨Dt k)∨v.ownBlock=some k) w r g h bs most s' w'):jG K0 B W w' r g h bs most Dt t zt s' v l:=by
 obtain ⟨k1,k2⟩:=k;have hs:=k2.size;have hs2:=m.size;exact ⟨m.base,by omega,m.kh,m.lo,iw m.own k2 (fun k hk hn=>hn (.inr hk)),k1,m.ch.trans k2 (fun i _ hn hk=>hn (.inl (.inl hk))),m.tbl.ch k2 (fun k hk hn=>hn (.inl (.inr hk))),m.dt⟩
theorem jG.nx (m:jG K0 B W w r g h bs most Dt t zt s v l) (k:Nx w w'):jG K0 B W w' r g h bs most Dt t zt s v l:=
 m.to ⟨m.inf.nx k,k.mono fun _ _ hf=>hf.elim⟩
theorem jG.app (m:jG K0 B W w r g h bs most Dt t zt s v l) {o:Obj} {v':Value} {x:Int} (h2:w'.ownsRow B 3 1 v' (l.length+1) (il l++[.int .i64 x]))
 (h3:(w.alloc o).grownBy w' v.ownBlock) (h4:v'.ownBlock=v.ownBlock∨v'.ownBlock=some (w.alloc o).heap.size):jG K0 B W w' r g h bs most Dt t zt s v' (l++[x]):=by
 have hc:Ch (fun k=>v.ownBlock=some k) w w':=((Ch.refl _ w).alloc o).grown h3 fun k hk _=>hk;have hsz:=hc.size;have hal:(w.alloc o).heap.size=w.heap.size+1:=by simp
 have hvB:∀k,v.ownBlock=some k->B<=k/\k<w.heap.size:=fun k hk=>m.own.lt k hk;have hv'B:∀k,v'.ownBlock=some k->B<=k/\k<w'.heap.size:=fun k hk=>h2.lt k hk;have hb:=m.base;have hsz2:=m.size;obtain ⟨vo,n⟩:=m.inf;have hr:=n.blk.lt;have hg:=n.Ai.lt;have hlh:=m.lo h m.kh;refine ⟨m.base,by omega,m.kh,m.lo,?_,⟨vo,?_⟩,m.ch.trans hc (fun i hi hk=>?_),m.tbl.ch hc (fun k hk hn=>?_),m.dt⟩
 ·have e:(l++[x]).length=l.length+1:=by simp
  have e2:il (l++[x])=il l++[.int .i64 x]:=by simp[il]
  rw[e,e2];exact h2
 ·refine ⟨n.blk.ch hc (fun e=>(n.far r (.inr e)).2.1 rfl),n.Ai.ch hc (fun e=>(n.far g (.inr e)).2.2.1 rfl) (fun e=>by have:=hvB h e;omega),iw n.own hc (fun k hk e=>(n.far k (.inr e)).2.2.2 hk),n.okb,.inl (.inl m.kh),fun k hk=>?_⟩
  rcases hk with hk|hk
  ·have:=n.far k (.inl hk)
   exact ⟨by omega,this.2⟩
  ·have h5:=hv'B k hk
   rcases h4 with e|e
   ·have:=n.far k (.inr (by rw[←e];exact hk))
    exact ⟨h5.2,this.2⟩
   ·have hk2:k=w.heap.size+1:=by rw[e]at hk;injection hk with hk;omega
    exact ⟨h5.2,by omega,by omega,fun e=>by have:=(n.own.lt k e).2;omega⟩
 ·have:=hvB i hk;omega
 ·have h5:=hvB k hn
  have h6:=m.dt k hk;omega
theorem jG.dG (m:jG K0 B W w r g h bs most Dt t zt s v l):w.cell? ⟨r,3,none⟩=some (.int .i64 s.e):=m.inf.dG
end
section
variable {K : Nat → Prop} {w w' : World} {r g h : Nat} {bs : List Nat} {most : Int} {s : Inf} {b : Nat}
theorem bg.side (m:bg K w r g h bs most s) (hc:Ch (fun k=>k=b) w w') (hb:K b) (hn:h≠b):bg K w' r g h bs most s:=by
 obtain ⟨vo,m⟩:=m;have hf:=m.far b hb;have hs:=hc.size;exact ⟨vo,m.blk.ch hc (fun e=>hf.2.1 e.symm),m.Ai.ch hc (fun e=>hf.2.2.1 e.symm) hn,iw m.own hc (fun k hk e=>hf.2.2.2 (by rw[hk,e])),m.okb,m.kh,fun k hk=>by have:=m.far k hk;exact ⟨by omega,this.2⟩⟩
end
def zo (k:Nat):Int:=if k<144∨279<k then 8 else if k<256 then 9 else 7
def qR (k:Nat):List Int:=(List.range k).map zo
theorem Iy (k:Nat):qR (k+1)=qR k++[zo k]:=by simp[qR,List.range_succ]
def Yv (W:World) (e:Ending) (w':World):Prop:=
 ∃A1 c1 A2 c2,e=.returned (.tuple #[.slice A1 288 c1,.slice A2 32 c2])/\Rd w' (fun k=>W.heap.size<=k/\k<w'.heap.size) 1 A1 288 (il mQ)/\Rd w' (fun k=>W.heap.size<=k/\k<w'.heap.size) 1 A2 32 (il sD)/\Nx W w'
set_option maxRecDepth 100000 in
theorem Oe (W:World):Calls Tryz.prog 280 #[] W (Yv W):=by
 obtain ⟨i0,hi0,hz0,hz1,hz2⟩:=info_parts Tryz.info3;have h0:=aA.nil W W 3 1 (Ch.refl _ W);go_enter Tryz.func280,Tryz.ntmps280;go_wp2_with fail;go_loopw [0,3] (fun v i wr=>∃k:Nat,k<=288/\i=.int .i64 k/\aA W wr 3 1 v k (il (qR k))) (fun _ i _=>288-(intOf i).toNat)
 case atStart=>exact ⟨0,by omega,rfl,by simpa [qR,il]using h0⟩
 case round=>
  clear h0;obtain ⟨w1,rfl⟩:∃w1:World,w1=wr:=⟨_,rfl⟩;obtain ⟨k,hk,rfl,ho⟩:=hrel;by_cases hlt:k<288
  ·have hs:=Iy k
   have e:∀v:Int,zo k=v->il (qR (k+1))=il (qR k)++[.int .i64 v]:=fun v hv=>by rw[hs,hv];simp[il]
   have He:=ah e;clear e hs;by_cases h8:k<144∨279<k
   ·have hv:zo k=8:=by unfold zo;rw[if_pos h8]
    have Hv:=ah (He.out 8 hv);clear hv He;by_cases h9:k<144
    ·clear h8
     go_wp2_with (at_builtin;refine z09 rfl (.tmp 14) (.tmp 15) _ rfl 3 i0 _ 8 Tryz.underlying88 hi0 hz0 hz1 hz2 rfl _ rfl rfl ho rfl (by simp only[maxLen];omega) (by omega) ?_;intro v' w' ho2 hm)
     go_roundw
     case rel=>exact ⟨k+1,by omega,by go_num,by rw[Hv.out];exact ho2⟩
     case measure=>simp[intOf];omega
    ·have h10:279<k:=by omega
     clear h8;go_wp2_with (at_builtin;refine z09 rfl (.tmp 14) (.tmp 15) _ rfl 3 i0 _ 8 Tryz.underlying88 hi0 hz0 hz1 hz2 rfl _ rfl rfl ho rfl (by simp only[maxLen];omega) (by omega) ?_;intro v' w' ho2 hm)
     go_roundw
     case rel=>exact ⟨k+1,by omega,by go_num,by rw[Hv.out];exact ho2⟩
     case measure=>simp[intOf];omega
   ·by_cases h9:k<256
    ·have hv:zo k=9:=by unfold zo;rw[if_neg h8,if_pos h9]
     have Hv:=ah (He.out 9 hv);have h11:¬k<144:=(by omega);have h12:¬279<k:=(by omega);clear hv He h8;go_wp2_with (at_builtin;refine z09 rfl (.tmp 20) (.tmp 21) _ rfl 3 i0 _ 8 Tryz.underlying88 hi0 hz0 hz1 hz2 rfl _ rfl rfl ho rfl (by simp only[maxLen];omega) (by omega) ?_;intro v' w' ho2 hm)
     go_roundw
     case rel=>exact ⟨k+1,by omega,by go_num,by rw[Hv.out];exact ho2⟩
     case measure=>simp[intOf];omega
    ·have hv:zo k=7:=by unfold zo;rw[if_neg h8,if_neg h9]
     have Hv:=ah (He.out 7 hv);have h11:¬k<144:=(by omega);have h12:¬279<k:=(by omega);clear hv He h8;go_wp2_with (at_builtin;refine z09 rfl (.tmp 6) (.tmp 7) _ rfl 3 i0 _ 8 Tryz.underlying88 hi0 hz0 hz1 hz2 rfl _ rfl rfl ho rfl (by simp only[maxLen];omega) (by omega) ?_;intro v' w' ho2 hm)
     go_roundw
     case rel=>exact ⟨k+1,by omega,by go_num,by rw[Hv.out];exact ho2⟩
     case measure=>simp[intOf];omega
  ·have hk8:k=288:=by omega
   have Hk8:=ah hk8;clear hk8;have h1:=aA.nil w1 w1 3 1 (Ch.refl _ w1);obtain ⟨A1,c1,rfl,_,_⟩:=ho.form;go_wp2_with fail;go_loopw [1,24] (fun v i wr=>∃k:Nat,k<=32/\i=.int .i64 k/\aA w1 wr 3 1 v k (il (List.replicate k 5))) (fun _ i _=>32-(intOf i).toNat)
   case atStart=>exact ⟨0,by omega,rfl,by simpa [il]using h1⟩
   case round=>
    clear h1;obtain ⟨w2,rfl⟩:∃w2:World,w2=wr:=⟨_,rfl⟩;obtain ⟨j,hj,rfl,ho1⟩:=hrel;by_cases hlt:j<32
    ·have e:il (List.replicate (j+1) 5)=il (List.replicate j 5)++[.int .i64 5]:=by simp[il,List.replicate_succ']
     have He:=ah e;clear e;go_wp2_with (at_builtin;refine z09 rfl (.tmp 26) (.tmp 27) _ rfl 3 i0 _ 8 Tryz.underlying88 hi0 hz0 hz1 hz2 rfl _ rfl rfl ho1 rfl (by simp only[maxLen];omega) (by omega) ?_;intro v' w' ho2 hm)
     go_roundw
     case rel=>exact ⟨j+1,by omega,by go_num,by rw[He.out];exact ho2⟩
     case measure=>simp[intOf];omega
    ·have hj8:j=32:=by omega
     have Hj8:=ah hj8;clear hj8;obtain ⟨A2,c2,rfl,_,_⟩:=ho1.form;go_wp2_with fail;go_ret2;rw[Hk8.out]at ho;rw[Hj8.out]at ho1;refine ⟨A1,c1,A2,c2,by rw[Hk8.out,Hj8.out];rfl,?_,?_,ho.nx.tr ho1.nx⟩
     ·have h1:=ho1.nx.size
      exact ((ho.tr ho1.nx).rd).more fun k hk=>hk.2
     ·have h1:=ho.nx.size
      exact ho1.rd.more fun k hk=>⟨by omega,hk.2.2⟩
def aeB:Prop:=∀(K:Nat->Prop) (w:World) (r g h:Nat) (bs:List Nat) (most:Int) (s:Inf),bg K w r g h bs most s->
 Calls Tryz.prog 281 #[.pointer (some ⟨r,0,none⟩)] w fun en w'=>∃A1 c1 A2 c2,∃D:Nat->Prop,
  en=.returned (.tuple #[.slice A1 (aF bs s).1.1.length c1,.slice A2 (aF bs s).1.2.length c2])/\bg (fun k=>K k∨D k) w' r g h bs most (aF bs s).2/\Ch (fun k=>¬K k) w w'/\(∀k,D k->w.heap.size<=k)/\
  Rd w' D 1 A1 (aF bs s).1.1.length (il (aF bs s).1.1)/\Rd w' D 1 A2 (aF bs s).1.2.length (il (aF bs s).1.2)
def EL (W:World) (r g h:Nat) (bs:List Nat) (most:Int) (i:Value) (wr:World):Prop:=
 ∃(l:Nat) (f:Nat) (sk:Inf),i=.int .i64 l/\bg (fun k=>k<W.heap.size∨k=h) wr r g h bs most sk/\Ch (fun k=>W.heap.size<=k) W wr/\(sk.out.length:Int)<=most/\
  (l=0/\sk.e=0->8 * bs.length+1<=f+sk.p)/\
  Hid (mV bs most (8 * bs.length+1) ⟨0,[],0⟩=if l=0/\sk.e=0 then mV bs most f sk else sk)
def Ez (W:World) (bs:List Nat) (most:Int) (en:Ending) (w':World):Prop:=
 ∃v,en=.returned (.tuple #[v,.int .i64 ((Ah bs most).2.1:Int),.int .i64 (Ah bs most).2.2])/\w'.ownsRow 0 5 1 v (Ah bs most).1.length (bl (Ah bs most).1)/\Ch (fun k=>W.heap.size<=k) W w'/\okB (Ah bs most).1
theorem Ky {bs:List Nat} {n:Nat} {s:Inf} (h:(aC bs n s).2.e=0):s.e=0/\(aC bs n s).2.p=s.p+n:=by
 unfold aC at h ⊢;by_cases h1:s.e≠0
 ·rw[if_pos h1]at h;exact absurd h h1
 ·rw[if_neg h1]at h ⊢
  by_cases h2:s.p+n<=8 * bs.length
  ·rw[if_pos h2];exact ⟨by simpa using h1,rfl⟩
  ·rw[if_neg h2]at h;simp at h
theorem Ur {bs:List Nat} {most:Int} {f l1 kd:Nat} {s s1 s2:Inf} (h1:aC bs 1 s=(l1,s1)) (h2:aC bs 2 s1=(kd,s2)):
 mV bs most (f+1) s=if (if s2.e≠0 then s2 else gY bs most kd s2).e=0/\l1=0 then mV bs most f (if s2.e≠0 then s2 else gY bs most kd s2) else (if s2.e≠0 then s2 else gY bs most kd s2):=by
 have hb:VE bs most s=(if s2.e≠0 then s2 else gY bs most kd s2):=by unfold VE;simp only[h1,h2]
 rw[mV,hb,h1]
theorem yL (bs:List Nat) (n:Nat) (s:Inf):s.p<=(aC bs n s).2.p:=Yx
theorem sU {bs:List Nat}:∀(k:Nat) (s:Inf),s.p<=(uK bs k s).p/\(uK bs k s).out.length<=s.out.length+k:=by
 intro k;induction k with
 |zero=>intro s;exact ⟨Nat.le_refl _,Nat.le_refl _⟩
 |succ k ih=>
  intro s;have h1:=yL bs 8 s;have h2:=z10 bs 8 s;unfold uK;generalize aC bs 8 s=q at *;by_cases he:q.2.e≠0
  ·rw[if_pos he,h2];exact ⟨h1,by omega⟩
  ·rw[if_neg he]
   have h3:=ih { q.2 with out:=q.2.out++[q.1]};refine ⟨Nat.le_trans h1 h3.1,Nat.le_trans h3.2 ?_⟩;simp only[List.length_append,List.length_singleton];rw[h2];omega
theorem TB (e:Int) (s:Inf):(aJ e s).p=s.p/\(aJ e s).out=s.out:=⟨oN.2,oN.1⟩
theorem xY {bs:List Nat} {most:Int} {n m:Nat} {s3:Inf} (h:(s3.out.length:Int)<=most):s3.p<=(JG bs most n m s3).p/\((JG bs most n m s3).out.length:Int)<=most:=by
 unfold JG;obtain ⟨s4,hs4⟩:∃s4,(if s3.e=0/\n≠65535-m then aJ 4 s3 else s3)=s4:=⟨_,rfl⟩;have h4:s4.p=s3.p/\s4.out=s3.out:=by rw[←hs4];split;exact TB 4 s3;exact ⟨rfl,rfl⟩
 simp only[hs4];by_cases he:s4.e≠0
 ·rw[if_pos he,h4.1,h4.2];exact ⟨Nat.le_refl _,h⟩
 ·rw[if_neg he]
  have hr:=z2m (most:=most) (n:=(n:Int)) (s:=s4);have hk:=z30 (most:=most) (n:=(n:Int)) (s:=s4) (by simpa using he);generalize aP most (n:Int) s4=s5 at *;by_cases he5:s5.e≠0
  ·rw[if_pos he5,hr.1,hr.2,h4.1,h4.2];exact ⟨Nat.le_refl _,h⟩
  ·rw[if_neg he5]
   have hl:=sU (bs:=bs) n s5;have h5:=(hk (by simpa using he5)).2;rw[hr.1]at hl;exact ⟨by have:=hr.2;have:=h4.1;omega,by omega⟩
theorem FT {bs:List Nat} {most:Int} {s:Inf} (h:(s.out.length:Int)<=most):s.p<=(VF bs most s).p/\((VF bs most s).out.length:Int)<=most:=by
 unfold VF;have h1:=yL bs 16 { s with p:=(s.p+7) / 8 * 8};have h2:=z10 bs 16 { s with p:=(s.p+7) / 8 * 8};generalize aC bs 16 { s with p:=(s.p+7) / 8 * 8}=q1 at *;have h3:=yL bs 16 q1.2;have h4:=z10 bs 16 q1.2;generalize aC bs 16 q1.2=q2 at *;have h5:=xY (bs:=bs) (most:=most) (n:=q1.1) (m:=q2.1) (s3:=q2.2) (by rw[h4,h2];exact h);simp only at h1;exact ⟨by omega,h5.2⟩
theorem z5A:dV mQ=0:=by decide+kernel
theorem z5B:dV sD=0:=by decide+kernel
theorem z4Z {bs:List Nat} {most:Int} {zl zd:List Int} {s:Inf} (he:s.e=0) (hl:dV zl=0) (hd:dV zd=0):Po bs most zl zd s=bD bs most zl zd (8 * bs.length+1) s:=by
 have h1:lW zl s=s:=by unfold lW;rw[if_pos hl]
 have h2:lW zd s=s:=by unfold lW;rw[if_pos hd]
 unfold Po;rw[h1,h2,if_neg (by simp[he]),if_neg (by simp[he])]
theorem aaV {bs:List Nat} {most:Int} {f l1 kd:Nat} {s s1 s2:Inf} (h1:aC bs 1 s=(l1,s1)) (h2:aC bs 2 s1=(kd,s2)) (he:s2.e=0):
 mV bs most (f+1) s=if (gY bs most kd s2).e=0/\l1=0 then mV bs most f (gY bs most kd s2) else gY bs most kd s2:=by
 have h:=Ur (most:=most) (f:=f) h1 h2;rw[if_neg (show ¬s2.e≠0 from fun hn=>hn he)]at h;exact h
theorem XT {bs:List Nat} {most:Int} {f l1 kd:Nat} {s s1 s2:Inf} (h1:aC bs 1 s=(l1,s1)) (h2:aC bs 2 s1=(kd,s2)) (he:s2.e≠0):
 mV bs most (f+1) s=s2:=by
 have h:=Ur (most:=most) (f:=f) h1 h2;rw[if_pos he,if_neg (fun hh=>he hh.1)]at h;exact h
theorem z4I {bs:List Nat} {most:Int} {s:Inf} (hm0:0<=most) (hm:most<=65536) (h:mV bs most (8 * bs.length+1) ⟨0,[],0⟩=s) (he:s.e≠0):Ah bs most=([],0,s.e):=by
 unfold Ah;rw[if_neg (by omega)];simp only[h];rw[if_pos he]
theorem Nu {bs:List Nat} {most:Int} {s:Inf} (hm0:0<=most) (hm:most<=65536) (h:mV bs most (8 * bs.length+1) ⟨0,[],0⟩=s) (he:s.e=0):Ah bs most=(s.out,(s.p+7) / 8,0):=by
 unfold Ah;rw[if_neg (by omega)];simp only[h];rw[if_neg (by simp[he])]
theorem Bc {bs:List Nat} {most:Int} {zl zd:List Int} {s:Inf} (he:s.e=0) (hl:dV zl≠0):Po bs most zl zd s=aJ 4 s:=by
 have h1:lW zl s=aJ 4 s:=by unfold lW;rw[if_neg hl]
 unfold Po;rw[h1,if_neg (by simp[he]),if_pos (z1n (by decide))]
theorem Ba {bs:List Nat} {most:Int} {zl zd:List Int} {s:Inf} (he:s.e=0) (hl:dV zl=0) (hd:dV zd≠0):Po bs most zl zd s=aJ 4 s:=by
 have h1:lW zl s=s:=by unfold lW;rw[if_pos hl]
 have h2:lW zd s=aJ 4 s:=by unfold lW;rw[if_neg hd]
 unfold Po;rw[h1,h2,if_neg (by simp[he]),if_neg (by simp[he]),bD,if_pos (z1n (by decide))]
theorem FM {bs:List Nat} {most:Int} {zl zd:List Int} {s:Inf} (he:s.e≠0):Po bs most zl zd s=s:=by
 unfold Po;rw[if_pos he]
section
variable {W : World} {bs : List Nat} {most : Int}
theorem EL.next {r g h f l1 q:Nat} {X:Inf} {w':World} (jm:Hid (mV bs most (8 * bs.length+1) ⟨0,[],0⟩=if X.e=0/\l1=0 then mV bs most f X else X)) (m:bg (fun k=>k<W.heap.size∨k=h) w' r g h bs most X)
 (kk:Ch (fun k=>W.heap.size<=k) W w') (hol:(X.out.length:Int)<=most) (hf:8 * bs.length+1<=f+1+q) (hp:q+3<=X.p):EL W r g h bs most (.int .i64 l1) w':=
 ⟨l1,f,X,rfl,m,kk,hol,(fun _=>by omega),ah (by rw[jm.out];simp only[and_comm])⟩
set_option maxRecDepth 100000 in
theorem Di (hL:aeB) (D:Nat->Prop) (A:Option Addr) (c:Nat) (hb:Rd W D 1 A bs.length (bl bs)) (hk:okB bs) (hl:bs.length<=140737488355328) (hm0:0<=most) (hm:most<=65536):
 Calls Tryz.prog 242 #[.slice A bs.length c,.int .i64 most] W (Ez W bs most):=by
 go_enter Tryz.func242,Tryz.ntmps242;go_wp2_with fail;with_reducible refine (z3L D A bs.length c bs W hb hl hk).mono ?_
 rintro e w1 ⟨g,h,rfl,hr,hg1,hh1,hg2,hh2,n1⟩;have hr1:=n1.size;obtain ⟨w2,hw2⟩:∃w2,w1.alloc (.cells #[.pointer (some ⟨g,0,none⟩),.slice none 0 0,.int .i64 most,.int .i64 0] 324)=w2:=⟨_,rfl⟩;obtain ⟨r,hrr⟩:∃r,w1.heap.size=r:=⟨_,rfl⟩
 have M0:Hid (bg (fun k=>k<W.heap.size∨k=h) w2 r g h bs most ⟨0,[],0⟩):=ah (by
  rw[←hw2,←hrr];refine ⟨.slice none 0 0,aG.new _ _ _,hr.nx ((Ch.refl _ w1).alloc _),World.ownsRow_nil _ _ _ _,(by intro x hx;cases hx),.inr rfl,fun k hk=>?_⟩;have hsz:(w1.alloc (.cells #[.pointer (some ⟨g,0,none⟩),.slice none 0 0,.int .i64 most,.int .i64 0] 324)).heap.size=w1.heap.size+1:=by simp
  have hgh:h≠g:=by obtain ⟨_,_,_,_,hne,_⟩:=hr;exact hne
  rcases hk with hk|hk
  ·exact ⟨by omega,by omega,by omega,by simp[Value.ownBlock]⟩
  ·exact ⟨by omega,by omega,by omega,by simp[Value.ownBlock]⟩)
 have C0:Hid (Ch (fun k=>W.heap.size<=k) W w2):=ah (by rw[←hw2];exact (n1.mono fun _ _ hf=>hf.elim).alloc _);clear hr n1;go_wp2_with fail
 try simp only[hrr,hw2]
 have hrW:W.heap.size<=r:=by omega
 clear hrr hw2 hg2 hh2;go_loopw [8] (fun i wr=>EL W r g h bs most i wr) (fun _ wr=>(8 * (bs.length:Int)+1-mM wr g 1).toNat)
 case atStart=>exact ⟨0,8 * bs.length+1,⟨0,[],0⟩,rfl,M0.out,C0.out,(by simpa using hm0),(fun _=>by simp),ah (by simp)⟩
 case round=>
  clear M0 C0;obtain ⟨w3,rfl⟩:∃w3:World,w3=wr:=⟨_,rfl⟩;obtain ⟨l,f,sk,rfl,mk,kk,hol,hf,PD⟩:=hrel;have d3:=mk.dG;have hp:=mk.qw.1;have Ll:=ah mk.Ye;by_cases hgo:l=0/\sk.e=0
  ·obtain ⟨rfl,he⟩:=hgo
   have hf:=hf ⟨rfl,he⟩;obtain ⟨f,rfl⟩:∃f',f=f'+1:=⟨f-1,by omega⟩;have hst:mV bs most (8 * bs.length+1) ⟨0,[],0⟩=mV bs most (f+1) sk:=(by rw[PD.out,if_pos ⟨rfl,he⟩]);have jm:=ah hst;rw[he]at d3;have He:=ah he;clear hst he PD;go_wp2_with fail;refine (JD mk 1 (by omega)).mono ?_;rintro e w4 ⟨rfl,m4,k4⟩;go_wp2_with fail;refine (JD m4 2 (by omega)).mono ?_;rintro e w5 ⟨rfl,m5,k5⟩;generalize hq1:aC bs 1 sk=q1 at *;obtain ⟨l1,s1⟩:=q1;generalize hq2:aC bs 2 s1=q2 at *;obtain ⟨kd,s2⟩:=q2;have Hq1:=ah hq1;have Hq2:=ah hq2;clear hq1 hq2;simp only at m4 m5 ⊢;have kk5:Ch (fun k=>W.heap.size<=k) W w5:=(kk.trans k4 fun i _ hn=>Nat.le_of_not_lt fun hlt=>hn (.inl hlt)).trans k5 fun i _ hn=>Nat.le_of_not_lt fun hlt=>hn (.inl hlt);have d35:=m5.dG;clear k4 k5 kk m4 mk;by_cases he2:s2.e=0
   ·have hpp:s2.p=sk.p+3:=by
     have h2:=Ky (bs:=bs) (n:=2) (s:=s1) (by rw[Hq2.out];exact he2);have h1:=Ky (bs:=bs) (n:=1) (s:=sk) (by rw[Hq1.out];exact h2.1);rw[Hq2.out]at h2;rw[Hq1.out]at h1
     have:=h1.2;have:=h2.2;simp only at *;omega
    have hst2:mV bs most (8 * bs.length+1) ⟨0,[],0⟩=if (gY bs most kd s2).e=0/\l1=0 then mV bs most f (gY bs most kd s2) else gY bs most kd s2:=by
     rw[jm.out,aaV Hq1.out Hq2.out he2]
    have hoo:s2.out=sk.out:=by have h1:=z10 bs 1 sk;have h2:=z10 bs 2 s1;rw[Hq1.out]at h1;rw[Hq2.out]at h2;simp only at h1 h2;rw[h2,h1]
    have jS:=ah hst2;have Hoo:=ah hoo;have Hpp:=ah hpp;rw[he2]at d35;have He2:=ah he2;clear hst2 hoo hpp he2 jm;have SG:(s2.out.length:Int)<=most:=by rw[Hoo.out];exact hol
    by_cases hk0:kd=0
    ·have hkd:gY bs most kd s2=VF bs most s2:=by rw[hk0];rfl
     have OW:=ah hkd;have hk0':((kd:Int)==0)=true:=by rw[beq_iff_eq];omega
     clear hkd;subst hk0;go_wp2_with fail;refine (Ic m5 hm0 hm SG).mono ?_;rintro e w6 ⟨rfl,m6,k6⟩;have hX:=FT (bs:=bs) (most:=most) (s:=s2) SG;have hXp:sk.p+3<=(VF bs most s2).p:=by have:=Hpp.out;omega
     have zQ:=ah m6.Ye;have hX6:=m6.qw.1;have kk6:Ch (fun k=>W.heap.size<=k) W w6:=kk5.trans k6 fun i _ hn=>Nat.le_of_not_lt fun hlt=>hn (.inl hlt);rw[OW.out]at jS;go_wp2_with fail;go_roundw
     case rel=>exact EL.next jS m6 kk6 hX.2 (by omega) hXp
     case measure=>rw[zQ.out,Ll.out];omega
    ·have hk0':((kd:Int)==0)=false:=by rw[beq_eq_false_iff_ne];omega
     by_cases hk1:kd=1
     ·subst hk1
      have hkd:gY bs most 1 s2=Po bs most mQ sD s2:=rfl;have OW:=ah hkd;clear hkd;go_wp2_with fail;refine (Oe w5).mono ?_;rintro e w6 ⟨A1,c1,A2,c2,rfl,hR1,hR2,n6⟩;have m6:=m5.keep n6;have d36:=m6.dG;rw[He2.out]at d36;go_wp2_with fail;refine (z1r m6 _ A1 288 c1 mQ hR1 (by decide+kernel) z5A).mono ?_;rintro e w7 ⟨t1,rfl,⟨m7,k7⟩,ht1,n7⟩;have m7:=m6.keep n7;have hR2:=hR2.nx (by decide) n7;have d37:=m7.dG;rw[He2.out]at d37;go_wp2_with fail;refine (z1r m7 _ A2 32 c2 sD hR2 (by decide+kernel) z5B).mono ?_;rintro e w8 ⟨t2,rfl,⟨m8,k8⟩,ht2,n8⟩;have m8:=m7.keep n8;have ht1:=ht1.ch n8 (fun _ _ h=>h);go_wp2_with fail;refine (wH m8 t1 t2 mQ sD _ _ ht1 ht2 (fun k hk=>.inl (.inr hk)) (fun k hk=>.inr hk) hm0 hm SG).mono ?_;rintro e w9 ⟨rfl,m9,k9⟩;have hX:=wW (bs:=bs) (most:=most) (zl:=mQ) (zd:=sD) (by decide) (by decide) (8 * bs.length+1) s2 SG
      have hkt:gY bs most 1 s2=bD bs most mQ sD (8 * bs.length+1) s2:=by
       rw[OW.out];exact z4Z He2.out z5A z5B
      have kk9:Ch (fun k=>W.heap.size<=k) W w9:=((((kk5.trans n6 fun _ _ hf=>hf.elim).trans n7 fun _ _ hf=>hf.elim).trans n8 fun _ _ hf=>hf.elim).trans k9 fun i _ hn=>Nat.le_of_not_lt fun hlt=>hn (.inl (.inl (.inl (.inl hlt)))));have m9:=m9.less (K':=fun k=>k<W.heap.size∨k=h) (fun k hk=>.inl (.inl (.inl hk))) (.inr rfl);rw[hkt]at jS;generalize bD bs most mQ sD (8 * bs.length+1) s2=X at *;have zQ:=ah m9.Ye;have hX6:=m9.qw.1;have hXp:sk.p+3<=X.p:=by have:=Hpp.out;have:=hX.1;omega
      clear hkt OW m6 m7 m8 d36 d37;go_wp2_with fail;go_roundw
      case rel=>exact EL.next jS m9 kk9 hX.2 (by omega) hXp
      case measure=>rw[zQ.out,Ll.out];omega
     ·have hk1':((kd:Int)==1)=false:=by rw[beq_eq_false_iff_ne];omega
      have kle:∀(i:Nat),¬i<W.heap.size->True:=fun _ _=>trivial;by_cases hk2:kd=2
      ·subst hk2
       have hkd:gY bs most 2 s2=Po bs most (aF bs s2).1.1 (aF bs s2).1.2 (aF bs s2).2:=rfl;have OW:=ah hkd;clear hkd kle;go_wp2_with fail;refine (hL _ w5 r g h bs most s2 m5).mono ?_;rintro e w6 ⟨A1,c1,A2,c2,D2,rfl,m6,k6,hD2,hR1,hR2⟩;have hX6:=CU (bs:=bs) (s:=s2);generalize aF bs s2=L at *;obtain ⟨⟨zl,zd⟩,s3⟩:=L;obtain ⟨hXp,hXo,hXl,hXd⟩:=hX6;simp only at *;have kk6:Ch (fun k=>W.heap.size<=k) W w6:=kk5.trans k6 fun i _ hn=>Nat.le_of_not_lt fun hlt=>hn (.inl hlt);have d36:=m6.dG;have NH:(s3.out.length:Int)<=most:=by rw[hXo];exact SG
       have NT:sk.p+3<=s3.p:=by have:=Hpp.out;omega
       clear hXo kk5 d35 hXp;by_cases tV:s3.e=0
       ·rw[tV]at d36
        by_cases hzl:dV zl=0
        ·by_cases hzd:dV zd=0
         ·have hkt:=OW.out.trans (z4Z (bs:=bs) (most:=most) tV hzl hzd)
          rw[hkt]at jS;clear hkt OW;have Hez:=ah tV;have Lh:=ah hzl;have Hzd:=ah hzd;clear tV hzl hzd;go_wp2_with fail;refine (z1r m6 _ A1 _ c1 zl hR1 rfl Lh.out).mono ?_;rintro e w7 ⟨t1,rfl,⟨m7,k7⟩,ht1,n7⟩;have m7:=m6.keep n7;have hR2:=hR2.nx (by decide) n7;have d37:=m7.dG;rw[Hez.out]at d37;go_wp2_with fail;refine (z1r m7 _ A2 _ c2 zd hR2 rfl Hzd.out).mono ?_;rintro e w8 ⟨t2,rfl,⟨m8,k8⟩,ht2,n8⟩;have m8:=m7.keep n8;have ht1:=ht1.ch n8 (fun _ _ h=>h);go_wp2_with fail;refine (wH m8 t1 t2 zl zd _ _ ht1 ht2 (fun k hk=>.inl (.inr hk)) (fun k hk=>.inr hk) hm0 hm NH).mono ?_;rintro e w9 ⟨rfl,m9,k9⟩;have hX:=wW (bs:=bs) (most:=most) (zl:=zl) (zd:=zd) hXl hXd (8 * bs.length+1) s3 NH;have kk9:Ch (fun k=>W.heap.size<=k) W w9:=(((kk6.trans n7 fun _ _ hf=>hf.elim).trans n8 fun _ _ hf=>hf.elim).trans k9 fun i _ hn=>Nat.le_of_not_lt fun hlt=>hn (.inl (.inl (.inl (.inl hlt)))));have m9:=m9.less (K':=fun k=>k<W.heap.size∨k=h) (fun k hk=>.inl (.inl (.inl hk))) (.inr rfl);generalize bD bs most zl zd (8 * bs.length+1) s3=X at *;have zQ:=ah m9.Ye;have hX6:=m9.qw.1;have hXp:sk.p+3<=X.p:=Nat.le_trans NT hX.1;clear m6 m7 m8 d36 d37 NT;go_wp2_with fail;go_roundw
          case rel=>exact EL.next jS m9 kk9 hX.2 (by omega) hXp
          case measure=>rw[zQ.out,Ll.out];omega
         ·have hkt:=OW.out.trans (Ba (bs:=bs) (most:=most) tV hzl hzd)
          rw[hkt]at jS;clear hkt OW;have Hez:=ah tV;have Lh:=ah hzl;have Hzd:=ah hzd;clear tV hzl hzd;go_wp2_with fail;refine (z1r m6 _ A1 _ c1 zl hR1 rfl Lh.out).mono ?_;rintro e w7 ⟨t1,rfl,⟨m7,k7⟩,ht1,n7⟩;have m7:=m6.keep n7;have hR2:=hR2.nx (by decide) n7;have d37:=m7.dG;rw[Hez.out]at d37;go_wp2_with fail;refine (z2C m7 _ A2 _ c2 zd hR2 rfl hXd Hzd.out).mono ?_;rintro e w8 ⟨rfl,m8,k8⟩;go_wp2_with fail;refine (tN m8 (z1n (by decide)) _ _).mono ?_;rintro e w9 ⟨rfl,rfl⟩;have kk9:Ch (fun k=>W.heap.size<=k) W w8:=(kk6.trans n7 fun _ _ hf=>hf.elim).trans k8 fun i _ hn=>Nat.le_of_not_lt fun hlt=>hn (.inl (.inl (.inl hlt)));have m9:=m8.less (K':=fun k=>k<W.heap.size∨k=h) (fun k hk=>.inl (.inl hk)) (.inr rfl);have hXq:sk.p+3<=(aJ 4 s3).p:=by rw[oN.2];exact NT
          have hXo:((aJ 4 s3).out.length:Int)<=most:=by rw[oN.1];exact NH
          generalize aJ 4 s3=X at *;have zQ:=ah m9.Ye;have hX6:=m9.qw.1;clear m6 m7 m8 d36 d37 NT;go_wp2_with fail;go_roundw
          case rel=>exact EL.next jS m9 kk9 hXo (by omega) hXq
          case measure=>rw[zQ.out,Ll.out];omega
        ·have hkt:=OW.out.trans (Bc (bs:=bs) (most:=most) (zd:=zd) tV hzl)
         rw[hkt]at jS;clear hkt OW;have hef:(aJ 4 s3).e=4:=z4c tV;have Hez:=ah tV;have Lh:=ah hzl;clear tV hzl;go_wp2_with fail;refine (z2C m6 _ A1 _ c1 zl hR1 rfl hXl Lh.out).mono ?_;rintro e w7 ⟨rfl,m7,k7⟩;have kk7:Ch (fun k=>W.heap.size<=k) W w7:=kk6.trans k7 fun i _ hn=>Nat.le_of_not_lt fun hlt=>hn (.inl (.inl hlt));have m9:=m7.less (K':=fun k=>k<W.heap.size∨k=h) (fun k hk=>.inl hk) (.inr rfl);have hXq:sk.p+3<=(aJ 4 s3).p:=by rw[oN.2];exact NT
         have hXo:((aJ 4 s3).out.length:Int)<=most:=by rw[oN.1];exact NH
         have d37:=m9.dG;rw[hef]at d37;have Hef:=ah hef;clear hef;generalize aJ 4 s3=X at *;have zQ:=ah m9.Ye;have hX6:=m9.qw.1;clear m6 m7 d36 NT;go_wp2_with fail;go_roundw
         case rel=>exact EL.next jS m9 kk7 hXo (by omega) hXq
         case measure=>rw[zQ.out,Ll.out];omega
       ·have hkt:=OW.out.trans (FM (bs:=bs) (most:=most) (zl:=zl) (zd:=zd) tV)
        rw[hkt]at jS;have hfin:mV bs most (8 * bs.length+1) ⟨0,[],0⟩=s3:=(by rw[jS.out,if_neg (fun hh=>tV hh.1)]);clear hkt OW jS;have he3:(s3.e !=0)=true:=by rw[bne_iff_ne];exact tV
        have hie:=z4I hm0 hm hfin tV;have sH:=ah hie;clear hfin tV hie;go_wp2_with fail;go_quiet (fail)
        go_wp2_with fail;refine bodyPost_ret (v:=.tuple #[.slice none 0 0,.int .i64 0,.int .i64 s3.e]) (by simp[results,go_sem]) rfl ?_;refine ⟨.slice none 0 0,?_,?_,(kk6.drewN _),by rw[sH.out];intro x hx;cases hx⟩
        ·rw[sH.out];rfl
        ·rw[sH.out];exact World.ownsRow_nil _ _ _ _
      ·have hk3:kd=3:=by have hlt:=Ar bs 2 s1;rw[Hq2.out]at hlt;simp only at hlt;omega
       have hkd:gY bs most kd s2=aJ 4 s2:=by unfold gY;rw[if_neg hk0,if_neg hk1,if_neg hk2]
       have hk2':((kd:Int)==2)=false:=by rw[beq_eq_false_iff_ne];omega
       rw[hkd]at jS;have tV:(aJ 4 s2).e≠0:=z1n (by decide);have hef:(aJ 4 s2).e=4:=z4c He2.out;have hfin:mV bs most (8 * bs.length+1) ⟨0,[],0⟩=aJ 4 s2:=(by rw[jS.out,if_neg (fun hh=>tV hh.1)]);clear hkd jS kle;go_wp2_with fail;refine (PN m5 4).mono ?_;rintro e w6 ⟨rfl,m6,k6⟩;have kk6:Ch (fun k=>W.heap.size<=k) W w6:=kk5.trans k6 fun i _ hn=>Nat.le_of_not_lt fun hlt=>hn (.inl hlt);have d36:=m6.dG;generalize aJ 4 s2=s3 at *;have he3:(s3.e !=0)=true:=by rw[bne_iff_ne];exact tV
       have hie:=z4I hm0 hm hfin tV;have sH:=ah hie;clear hfin tV hie;go_wp2_with fail;go_quiet (fail)
       go_wp2_with fail;refine bodyPost_ret (v:=.tuple #[.slice none 0 0,.int .i64 0,.int .i64 s3.e]) (by simp[results,go_sem,hef]) rfl ?_;refine ⟨.slice none 0 0,?_,?_,(kk6.drewN _),by rw[sH.out];intro x hx;cases hx⟩
       ·rw[sH.out];rfl
       ·rw[sH.out];exact World.ownsRow_nil _ _ _ _
   ·have he3:(s2.e !=0)=true:=by rw[bne_iff_ne];exact he2
    have hfin:mV bs most (8 * bs.length+1) ⟨0,[],0⟩=s2:=by
     rw[jm.out,XT Hq1.out Hq2.out he2]
    have hie:=z4I hm0 hm hfin he2;have sH:=ah hie;clear hfin he2 hie;go_wp2_with fail;go_quiet (fail)
    go_wp2_with fail;refine bodyPost_ret (v:=.tuple #[.slice none 0 0,.int .i64 0,.int .i64 s2.e]) (by simp[results,go_sem]) rfl ?_;refine ⟨.slice none 0 0,?_,?_,(kk5.drewN _),by rw[sH.out];intro x hx;cases hx⟩
    ·rw[sH.out];rfl
    ·rw[sH.out];exact World.ownsRow_nil _ _ _ _
  ·have hfin:mV bs most (8 * bs.length+1) ⟨0,[],0⟩=sk:=by rw[PD.out,if_neg hgo]
   have fG:=ah hfin;by_cases he:sk.e=0
   ·have hl0:l≠0:=fun h0=>hgo ⟨h0,he⟩
    have hl0':((l:Int)==0)=false:=by rw[beq_eq_false_iff_ne];omega
    have hie:=Nu hm0 hm hfin he;have sH:=ah hie;rw[he]at d3;clear hfin he hie hgo hf PD;obtain ⟨vo,m3⟩:=mk;have d30:w3.cell? ⟨r,0,none⟩=some (.pointer (some ⟨g,0,none⟩)):=m3.blk.cell 0;go_wp2_with fail;refine (vO g h bs sk.p w3 m3.Ai).mono ?_;rintro e w4 ⟨rfl,hr4,k4⟩;have m4:=m3.bits hr4 k4;have d40:w4.cell? ⟨r,0,none⟩=some (.pointer (some ⟨g,0,none⟩)):=m4.blk.cell 0;have d41:w4.cell? ⟨r,1,none⟩=some vo:=m4.blk.cell 1;have M4:=ah m4;have Hr4:=ah hr4;have kk4:Ch (fun k=>W.heap.size<=k) W w4:=kk.trans k4 fun i _ hn=>by omega
    clear m4 hr4 m3 k4 kk;go_wp2_with fail;go_quiet ((first|(go_at_call 286;exact VJ (QK g h bs _ _ (Hr4.out.nx (Dr.Cj _ _).nx)))|(go_at_call 286;exact qh (QK g h bs _ _ (Hr4.out.nx (Dr.Cj _ _).nx)))))
    go_wp2_with fail;refine bodyPost_ret (v:=.tuple #[vo,.int .i64 (((sk.p+7) / 8:Nat):Int),.int .i64 0]) (by simp[results,go_sem]) rfl ?_;refine ⟨vo,?_,?_,kk4.drewN _,by rw[sH.out];exact M4.out.okb⟩
    ·rw[sH.out]
    ·rw[sH.out];exact M4.out.own
   ·have he1:(sk.e==0)=false:=by rw[beq_eq_false_iff_ne];exact he
    have he2:(sk.e !=0)=true:=by rw[bne_iff_ne];exact he
    have hie:=z4I hm0 hm hfin he;have sH:=ah hie;clear hfin he hie hgo hf PD;by_cases hl0:l=0
    ·subst hl0
     go_wp2_with fail;go_quiet (fail)
     go_wp2_with fail;refine bodyPost_ret (v:=.tuple #[.slice none 0 0,.int .i64 0,.int .i64 sk.e]) (by simp[results,go_sem]) rfl ?_;refine ⟨.slice none 0 0,?_,?_,(kk.drewN _),by rw[sH.out];intro x hx;cases hx⟩
     ·rw[sH.out];rfl
     ·rw[sH.out];exact World.ownsRow_nil _ _ _ _
    ·have hl1:((l:Int)==0)=false:=by rw[beq_eq_false_iff_ne];omega
     go_wp2_with fail;go_quiet (fail)
     go_wp2_with fail;refine bodyPost_ret (v:=.tuple #[.slice none 0 0,.int .i64 0,.int .i64 sk.e]) (by simp[results,go_sem]) rfl ?_;refine ⟨.slice none 0 0,?_,?_,(kk.drewN _),by rw[sH.out];intro x hx;cases hx⟩
     ·rw[sH.out];rfl
     ·rw[sH.out];exact World.ownsRow_nil _ _ _ _
end
end Go.Proofs.YtpakjclpjcngmaaGreat
