/- Contracts and plain laws that the last text rests on. Conditions: each theorem states its own. -/
import Derived.Test.YtfljcllpmbnjaaaGreatKdQ14
import Derived.Test.YtfljcllpmbnjaaaGreatKdQ15
import Derived.Test.YtfljcllpmbnjaaaGreatKdPdInfW
import Derived.Test.YtfljcllpmbnjaaaGreatKdQ1
import Derived.Test.YtfljcllpmbnjaaaGreatKdQ16
import Derived.Test.YtfljcllpmbnjaaaGreatKdQ13
import Derived.Test.YtfljcllpmbnjaaaGreatKdQ12
set_option maxRecDepth 100000
set_option maxHeartbeats 16000000
set_option linter.unusedVariables false
namespace Go.Proofs.YtfljcllpmbnjaaaGreat.Fix
theorem Zc (L:List Bool) (p:Nat) (n:Nat) (v:Nat) (h:∀i,i<n->L.getD (p+i) false=v.testBit i):aS (pack L) p n=v % 2 ^ n:=by
 induction n with
 |zero=>simp[aS,Nat.mod_one]
 |succ n ih=>
  simp only[aS];rw[ih (fun i hi=>h i (by omega)),Vf,h n (by omega),Nat.testBit_eq_decide_div_mod_eq,wS,Nat.mod_pow_succ,Nat.mul_comm]
theorem zC (a b c:List Bool) (i:Nat) (hi:i<b.length):(a++b++c).getD (a.length+i) false=b.getD i false:=by
 simp only[List.getD];rw[List.append_assoc,List.getElem?_append_right (by omega),show a.length+i-a.length=i by omega,List.getElem?_append_left hi]
theorem qX (v n i:Nat) (hi:i<n):(ak v n).getD i false=v.testBit (n-1-i):=by
 rw[Om];simp[List.getD,hi]
theorem yQ {V n:Nat} {L:List Bool} {P:Nat} {a c:List Bool} (hL:L=a++ak V n++c) (hP:P=a.length) (hc:V<2 ^ n):msb (jU (pack L) P) n=V:=by
 have h:∀i,i<n->jU (pack L) P i=iZ (V.testBit (n-1-i)):=by
  intro i hi;unfold jU;rw[Vf,hL,hP,zC _ _ _ _ (by rw[z03];exact hi),qX _ _ _ hi]
 rw[Lp h _ (Nat.le_refl _),Nat.sub_self,Nat.pow_zero,Nat.div_one];exact Nat.mod_eq_of_lt hc
theorem nR:jF.length=288:=by decide+kernel
theorem DI {x:Nat} (h:x<288):∃hx:x<jF.length,0<jF[x]/\jF[x]<=15:=by
 refine ⟨by rw[nR];exact h,?_⟩;have e:jF[x]'(by rw[nR];exact h)=if x<144∨279<x then 8 else if x<256 then 9 else 7:=by simp[jF]
 rw[e];split
 ·omega
 ·split<;>omega
theorem Ph {L a c:List Bool} {x V n P:Nat} {out:List Nat} (hx:x<288) (hw:dI jF x=V) (hn:aZ jF x=n) (hV:V<2 ^ n) (hL:L=a++ak V n++c) (hP:P=a.length):
 cO (pack L) jF ⟨P,out,0⟩=((x:Int),⟨P+n,out,0⟩):=by
 obtain ⟨hxl,h0,h15⟩:=DI hx;have hlen:P+n<=L.length:=by rw[hL,hP];simp only[List.length_append,z03];omega
 have h:=sH (zs:=jF) (bs:=pack L) (p:=P) hxl h0 h15 (by rw[hn,hw];exact yQ hL hP hV) (by rw[hn,tZ];omega);unfold cO;rw[if_neg (by simp)];simp only;rw[h,hn]
theorem nJ {bs:List Nat} {n p v:Nat} {out:List Nat} (h:p+n<=8 * bs.length) (hv:aS bs p n=v):aA bs n ⟨p,out,0⟩=(v,⟨p+n,out,0⟩):=by
 unfold aA;rw[if_neg (by simp),if_pos h,hv]
theorem vK (v n i:Nat) (hi:i<n):(numBits v n).getD i false=v.testBit i:=by
 rw[vJ];simp[List.getD,hi]
theorem sJ:∀s,s<288->dI jF s=yZ s/\aZ jF s=qF s:=by decide+kernel
theorem DN:∀s,s<32->dI z16 s=s/\aZ z16 s=5:=by decide+kernel
theorem PK {s:Nat} (h:s<288):yZ s<2 ^ qF s:=by
 unfold yZ qF;by_cases h1:s<144
 ·rw[if_pos h1,if_pos h1];omega
 ·rw[if_neg h1,if_neg h1]
  by_cases h2:s<256
  ·rw[if_pos h2,if_pos h2];omega
  ·rw[if_neg h2,if_neg h2]
   by_cases h3:s<280
   ·rw[if_pos h3,if_pos h3];omega
   ·rw[if_neg h3,if_neg h3];omega
theorem UZ {L a c:List Bool} {s P:Nat} {out:List Nat} (hs:s<288) (hL:L=a++aK s++c) (hP:P=a.length):
 cO (pack L) jF ⟨P,out,0⟩=((s:Int),⟨P+(aK s).length,out,0⟩):=by
 have h:=Ph (out:=out) hs (sJ s hs).1 (sJ s hs).2 (PK hs) hL hP;rw[h];unfold aK;rw[z03]
theorem DJ {x:Nat} (h:x<32):∃hx:x<z16.length,0<z16[x]/\z16[x]<=15:=by
 have hl:z16.length=32:=List.length_replicate ..;have e:z16[x]'(by rw[hl];exact h)=5:=List.getElem_replicate ..;exact ⟨by rw[hl];exact h,by rw[e];omega⟩
theorem xY {L a c:List Bool} {s P:Nat} {out:List Nat} (hs:s<32) (hL:L=a++ak s 5++c) (hP:P=a.length):
 cO (pack L) z16 ⟨P,out,0⟩=((s:Int),⟨P+5,out,0⟩):=by
 obtain ⟨hxl,h0,h15⟩:=DJ hs;have hlen:P+5<=L.length:=by rw[hL,hP];simp only[List.length_append,z03];omega
 obtain ⟨hw,hn⟩:=DN s hs;have h:=sH (zs:=z16) (bs:=pack L) (p:=P) hxl h0 h15 (by rw[hn,hw];exact yQ hL hP (by omega)) (by rw[hn,tZ];omega);unfold cO;rw[if_neg (by simp)];simp only;rw[h,hn]
theorem lu {L a c:List Bool} {m n P:Nat} {out:List Nat} (hL:L=a++numBits m n++c) (hP:P=a.length):aA (pack L) n ⟨P,out,0⟩=(m % 2 ^ n,⟨P+n,out,0⟩):=by
 have hlen:P+n<=L.length:=by rw[hL,hP];simp only[List.length_append,Jo];omega
 have hv:aS (pack L) P n=m % 2 ^ n:=Zc L P n m fun i hi=>by
  rw[hL,hP,zC _ _ _ _ (by rw[Jo];exact hi),vK _ _ _ hi]
 exact nJ (by rw[tZ];omega) hv
theorem JM {b m:Nat}:∀f x,(jJ b m f x=x∨(x<jJ b m f x/\b * 2 ^ (jJ b m f x-1)<=m))/\(jJ b m f x<x+f->m<b * 2 ^ jJ b m f x):=by
 intro f;induction f with
 |zero=>intro x;exact ⟨.inl rfl,fun h=>by simp only[jJ]at h;omega⟩
 |succ f ih=>
  intro x;unfold jJ;by_cases h:b * 2 ^ x<=m
  ·rw[if_pos h]
   obtain ⟨h1,h2⟩:=ih (x+1);refine ⟨.inr ?_,fun hl=>h2 (by omega)⟩;rcases h1 with h1|h1
   ·rw[h1];exact ⟨by omega,by simpa using h⟩
   ·exact ⟨by omega,h1.2⟩
  ·rw[if_neg h]
   exact ⟨.inl rfl,fun _=>by omega⟩
theorem Ic:∀m,m<255->8<=m->1<=iL m/\iL m<=5/\4<=m / 2 ^ iL m/\m / 2 ^ iL m<8:=by decide+kernel
theorem DR {e:Nat} (h2:2<=e) (h:e<32768):fJ e<=13/\2<=e / 2 ^ fJ e/\e / 2 ^ fJ e<4:=by
 obtain ⟨h1,h3⟩:=JM (b:=4) (m:=e) 20 0;have hx:fJ e=jJ 4 e 20 0:=rfl;rw[←hx]at h1 h3;generalize fJ e=x at *
 have hx13:x<=13:=by
  rcases h1 with h1|⟨_,h1⟩
  ·omega
  ·rcases Nat.lt_or_ge 13 x with h5|h5
   ·have:=Nat.pow_le_pow_right (show 0<2 by omega) (show 13<=x-1 by omega)
    omega
   ·exact h5
 have hlt:=h3 (by omega);have hp:0<2 ^ x:=Nat.two_pow_pos x;refine ⟨hx13,?_,Nat.div_lt_of_lt_mul (by rw[Nat.mul_comm];exact hlt)⟩;rw[Nat.le_div_iff_mul_le hp];rcases h1 with h1|⟨h0,h1⟩
 ·rw[h1];omega
 ·have:2 ^ x=2 * 2 ^ (x-1):=by rw[←Nat.pow_succ',show (x-1).succ=x by omega]
  omega
theorem PO {L a c:List Bool} {n P:Nat} {out:List Nat} (h3:3<=n) (h258:n<=258) (hL:L=a++jX n++c) (hP:P=a.length):
 ∃(k:Nat) (s1:Inf),k<=28/\cO (pack L) jF ⟨P,out,0⟩=(((257+k:Nat):Int),s1)/\s1.e=0/\bI (pack L) k s1=(n,⟨P+(jX n).length,out,0⟩):=by
 unfold jX at hL ⊢;by_cases e1:n=258
 ·rw[if_pos e1]at hL ⊢
  refine ⟨28,_,by omega,UZ (by omega) hL hP,rfl,?_⟩;unfold bI;rw[if_neg (by omega),if_pos rfl,e1]
 ·rw[if_neg e1]at hL ⊢
  by_cases e2:n<11
  ·rw[if_pos e2]at hL ⊢
   refine ⟨n-3,⟨P+(aK (254+n)).length,out,0⟩,by omega,?_,rfl,?_⟩
   ·have h:=UZ (s:=254+n) (out:=out) (by omega) hL hP
    rw[show 257+(n-3)=254+n by omega];exact h
   ·unfold bI
    rw[if_pos (by omega),show n-3+3=n by omega]
  ·rw[if_neg e2]at hL ⊢
   obtain ⟨m,hm⟩:∃m,n-3=m:=⟨_,rfl⟩;rw[hm]at hL ⊢;obtain ⟨x1,x2,x3,x4⟩:=Ic m (by omega) (by omega);have hdm:=Nat.div_add_mod m (2 ^ iL m);generalize iL m=x at *;generalize hq:m / 2 ^ x=q at *;have hL1:L=a++aK (257+4 * x+q)++(numBits m x++c):=by rw[hL];simp only[List.append_assoc]
   have hL2:L=(a++aK (257+4 * x+q))++numBits m x++c:=by rw[hL];simp only[List.append_assoc]
   refine ⟨4 * x+q,⟨P+(aK (257+4 * x+q)).length,out,0⟩,by omega,?_,rfl,?_⟩
   ·have h:=UZ (s:=257+4 * x+q) (out:=out) (by omega) hL1 hP
    rw[show 257+(4 * x+q)=257+4 * x+q by omega];exact h
   ·have hk1:(4 * x+q) % 4=q-4:=by omega
    have hk2:(4 * x+q) / 4-1=x:=(by omega);unfold bI;rw[if_neg (by omega),if_neg (by omega),hk1,hk2,lu hL2 (by rw[List.length_append,hP])];simp only[List.length_append,Jo,←Nat.add_assoc];rw[show 4+(q-4)=q by omega,Nat.mul_comm q,Nat.add_assoc 3,hdm,show 3+m=n by omega]
theorem MP {L a c:List Bool} {e P:Nat} {out:List Nat} (he:e<32768) (hL:L=a++pX e++c) (hP:P=a.length):
 ∃(k:Nat) (s1:Inf),k<=29/\cO (pack L) z16 ⟨P,out,0⟩=((k:Int),s1)/\s1.e=0/\dH (pack L) k s1=(e+1,⟨P+(pX e).length,out,0⟩):=by
 unfold pX at hL ⊢;by_cases e1:e<2
 ·rw[if_pos e1]at hL ⊢
  refine ⟨e,_,by omega,xY (by omega) hL hP,rfl,?_⟩;unfold dH;rw[if_pos e1,z03]
 ·rw[if_neg e1]at hL ⊢
  obtain ⟨x1,x2,x3⟩:=DR (by omega) he;have hdm:=Nat.div_add_mod e (2 ^ fJ e);generalize fJ e=x at *;generalize hq:e / 2 ^ x=q at *;have hL1:L=a++ak (2 * x+q) 5++(numBits e x++c):=by rw[hL];simp only[List.append_assoc]
  have hL2:L=(a++ak (2 * x+q) 5)++numBits e x++c:=by rw[hL];simp only[List.append_assoc]
  refine ⟨2 * x+q,_,by omega,xY (by omega) hL1 hP,rfl,?_⟩;have hk1:(2 * x+q) % 2=q-2:=by omega
  have hk2:(2 * x+q) / 2-1=x:=by omega
  unfold dH;rw[if_neg (by omega),hk1,hk2,lu hL2 (by rw[List.length_append,hP,z03])];simp only[List.length_append,Jo,z03,←Nat.add_assoc];rw[show 2+(q-2)=q by omega,Nat.mul_comm q,Nat.add_assoc 1,hdm,Nat.add_comm 1 e]
end Go.Proofs.YtfljcllpmbnjaaaGreat.Fix
namespace Go.Proofs.YtfljcllpmbnjaaaGreat
open Go.RowKit R2
structure lM (K:Nat->Prop) (w:World) (t g h:Nat) (bs:List Nat) (N p:Nat) (xs:List Nat) (most:Nat) (vo:Value):Prop where
 blk:dD w t 154 #[.pointer (some ⟨g,0,none⟩),vo,.int .i64 (most:Int)]
 fH:fE w g h bs N p
 own:w.ownsRow 0 5 1 vo xs.length (bl xs)
 okb:okB xs
 kh:K h
 far:∀k,K k->k<w.heap.size/\k≠t/\k≠g/\vo.ownBlock≠some k
 len:xs.length<=most
def Ey (K:Nat->Prop) (w:World) (t g h:Nat) (bs:List Nat) (N p:Nat) (xs:List Nat) (most:Nat):Prop:=∃vo,lM K w t g h bs N p xs most vo
def kP (K:Nat->Prop) (w:World) (t g h:Nat) (bs:List Nat) (N p:Nat) (xs:List Nat) (most:Nat) (w':World):Prop:=Ey K w' t g h bs N p xs most/\Ch (fun k=>¬K k) w w'
section
variable {K : Nat → Prop} {w w' : World} {t g h : Nat} {bs : List Nat} {N p most : Nat} {xs : List Nat} {vo : Value}
theorem lM.rg (m:lM K w t g h bs N p xs most vo):t≠g:=by
 obtain ⟨A,c,b,_⟩:=m.fH;exact m.blk.ZU b (by decide)
theorem lM.ZT (m:lM K w t g h bs N p xs most vo):vo.ownBlock≠some t:=EI m.own m.blk (by decide)
theorem lM.Lm (m:lM K w t g h bs N p xs most vo):vo.ownBlock≠some g:=by
 obtain ⟨A,c,b,_⟩:=m.fH;exact EI m.own b (by decide)
theorem lM.bits (m:lM K w t g h bs N p xs most vo) {q:Nat} (hr:fE w' g h bs N q) (hc:Ch (· =g) w w'):lM K w' t g h bs N q xs most vo:=
 ⟨m.blk.ch hc (fun e=>m.rg e),hr,z06 m.own hc (fun k hk e=>m.Lm (by rw[hk,e])),m.okb,m.kh,fun k hk=>by have:=m.far k hk;have:=hc.size;exact ⟨by omega,by omega,by omega,(m.far k hk).2.2.2⟩,m.len⟩
theorem lM.kW (m:lM K w t g h bs N p xs most vo) {S:Nat->Prop} (hc:Ch S w w') (hS:∀k,S k->k=t∨k=g∨vo.ownBlock=some k):Ch (fun k=>¬K k) w w':=
 hc.mono fun k _ h hk=>by
  obtain ⟨_,h1,h2,h3⟩:=m.far k hk;rcases hS k h with e|e|e
  ·exact h1 e
  ·exact h2 e
  ·exact h3 e
theorem lM.nx (m:lM K w t g h bs N p xs most vo) (hc:Nx w w'):lM K w' t g h bs N p xs most vo:=
 ⟨m.blk.nx hc,m.fH.nx hc,z06 m.own hc (fun _ _ hf=>hf),m.okb,m.kh,fun k hk=>by have h1:=m.far k hk;have h2:=hc.size;exact ⟨by omega,h1.2.1,h1.2.2.1,h1.2.2.2⟩,m.len⟩
theorem lM.push {w3:World} {v':Value} {x:Nat} (X:Obj) (hx:x<256) (m:lM K w t g h bs N p xs most vo) (hlt:xs.length<most) (hown3:w3.ownsRow 0 5 1 v' (xs.length+1) (bl xs++[.int .u8 (x:Int)])) (hg3:(w.alloc X).grownBy w3 vo.ownBlock) (S_:v'.ownBlock=vo.ownBlock∨v'.ownBlock=some (w.alloc X).heap.size):
 ∃A3 c3,v'=.slice A3 (xs.length+1) c3/\w3.cell? ⟨t,1,none⟩=some vo/\w3.frozen? ⟨t,1,none⟩=false/\kP K w t g h bs N p (xs++[x]) most (w3.setCell ⟨t,1,none⟩ v'):=by
 obtain ⟨A3,c3,hv,hc1,hc2⟩:=z05 hown3;have c1:Ch (fun k=>vo.ownBlock=some k) w w3:=((Ch.refl _ w).alloc X).grown hg3 fun k hk _=>hk;have b3:=m.blk.ch c1 (fun e=>m.ZT e);have hv't:v'.ownBlock≠some t:=EI hown3 b3 (by decide);have c2:Ch (fun k=>k=t) w3 (w3.setCell ⟨t,1,none⟩ v'):=Ch.setCell (S:=fun k=>k=t) (Ch.refl _ w3) (p:=⟨t,1,none⟩) (fun _=>rfl) _;have hs1:=c1.size;have hs2:=c2.size;have hh:=m.far h m.kh;refine ⟨A3,c3,hv,b3.cell 1,b3.frozen 1,⟨v',?_,?_,?_,?_,m.kh,fun k hk=>?_,?_⟩,(m.kW c1 fun k h=>.inr (.inr h)).trans c2 fun k hk e hK=>(m.far k hK).2.1 e⟩
 ·have:=b3.dZ 1 v'
  simpa using this
 ·exact (m.fH.ch c1 (fun e=>m.Lm e) (fun e=>hh.2.2.2 e)).ch c2 (fun e=>m.rg e.symm) hh.2.1
 ·have:=z06 hown3 c2 (fun k hk e=>hv't (by rw[hk,e]))
  have e:bl (xs++[x])=bl xs++[.int .u8 (x:Int)]:=by simp[bl]
  rw[e,List.length_append];exact this
 ·intro y hy
  rw[List.mem_append]at hy;rcases hy with hy|hy
  ·exact m.okb y hy
  ·simp at hy;omega
 ·have h1:=m.far k hk
  refine ⟨by omega,h1.2.1,h1.2.2.1,?_⟩;rcases S_ with e|e
  ·rw[e];exact h1.2.2.2
  ·rw[e];simp;omega
 ·rw[List.length_append]
  simp only[List.length_cons,List.length_nil];omega
end
def xq (bs:List Nat) (q n:Nat):List Nat:=(List.range n).map fun i=>aS bs (q+8 * i) 8
theorem wP (bs:List Nat) (q n:Nat):xq bs q (n+1)=xq bs q n++[aS bs (q+8 * n) 8]:=by simp[xq,List.range_succ]
theorem oH (bs:List Nat) (q n:Nat):(xq bs q n).length=n:=by simp[xq]
theorem wQ (bs:List Nat) (q n:Nat):xq bs q (n+1)=aS bs q 8::xq bs (q+8) n:=by
 unfold xq;rw[List.range_succ_eq_map,List.map_cons,List.map_map];congr 1
 apply List.map_congr_left
 intro i _;simp only[Function.comp];congr 1
 omega
theorem z3F (bs:List Nat):∀(n q:Nat) (xs:List Nat),(kH bs n ⟨q,xs,0⟩).e=0->(n=0∨q+8 * n<=8 * bs.length)/\kH bs n ⟨q,xs,0⟩=⟨q+8 * n,xs++xq bs q n,0⟩
 |0,q,xs,_=>⟨.inl rfl,by simp[kH,xq]⟩
 |n+1,q,xs,h=>by
  rw[kH]at h ⊢;by_cases hq:q+8<=8 * bs.length
  ·have e:aA bs 8 ⟨q,xs,0⟩=(aS bs q 8,⟨q+8,xs,0⟩):=by unfold aA;rw[if_neg (by simp),if_pos hq]
   rw[e]at h ⊢;rw[if_neg (by simp)]at h ⊢;simp only at h ⊢;obtain ⟨h1,h2⟩:=z3F bs n (q+8) (xs++[aS bs q 8]) h;refine ⟨?_,?_⟩
   ·omega
   ·rw[h2,wQ]
    simp only[List.append_assoc,List.singleton_append];congr 1
    omega
  ·have e:aA bs 8 ⟨q,xs,0⟩=(0,⟨q,xs,3⟩):=by unfold aA;rw[if_neg (by simp),if_neg hq]
   rw[e,if_pos (by simp)]at h;exact absurd h (by simp)
theorem uJ {bs:List Nat} {most:Int} {n m:Nat} {s:Inf} (h:s.e=0) (hn:n=65535-m):rD bs most n m s=if (aQ most n s).e≠0 then aQ most n s else kH bs n (aQ most n s):=by
 unfold rD;have h2:¬(s.e=0/\n≠65535-m):=fun h=>h.2 hn;simp only[if_neg h2];rw[if_neg (by simp[h])]
theorem qh {bs:List Nat} {most:Int} {n m:Nat} {s:Inf} (h:s.e=0) (hn:n≠65535-m):(rD bs most n m s).e=4:=by
 unfold rD;have h2:s.e=0/\n≠65535-m:=⟨h,hn⟩;simp only[if_pos h2];have e4:(aN 4 s).e=4:=by unfold aN;rw[if_pos h]
 rw[if_pos (by rw[e4];decide)];exact e4
theorem Gm {bs:List Nat} {most p:Nat} {xs:List Nat} (h:(dV bs most ⟨p,xs,0⟩).e=0):
 ∃q n,q=(p+7) / 8 * 8/\n=aS bs q 16/\q+32<=8 * bs.length/\n=65535-aS bs (q+16) 16/\xs.length+n<=most/\q+32+8 * n<=8 * bs.length/\dV bs most ⟨p,xs,0⟩=⟨q+32+8 * n,xs++xq bs (q+32) n,0⟩:=by
 obtain ⟨q,hq⟩:∃q,q=(p+7) / 8 * 8:=⟨_,rfl⟩;refine ⟨q,aS bs q 16,hq,rfl,?_⟩;unfold dV at h ⊢;simp only[←hq]at h ⊢;by_cases h1:q+16<=8 * bs.length
 ·have e1:aA bs 16 ⟨q,xs,0⟩=(aS bs q 16,⟨q+16,xs,0⟩):=by unfold aA;rw[if_neg (by simp),if_pos h1]
  rw[e1]at h ⊢;simp only at h ⊢;by_cases h2:q+16+16<=8 * bs.length
  ·have e2:aA bs 16 ⟨q+16,xs,0⟩=(aS bs (q+16) 16,⟨q+16+16,xs,0⟩):=by unfold aA;rw[if_neg (by simp),if_pos h2]
   rw[e2]at h ⊢;simp only at h ⊢;by_cases h3:aS bs q 16=65535-aS bs (q+16) 16
   ·have e3:=uJ (bs:=bs) (most:=(most:Int)) (s:=⟨q+16+16,xs,0⟩) rfl h3
    rw[e3]at h ⊢;by_cases h4:xs.length+aS bs q 16<=most
    ·have e4:aQ most (aS bs q 16) ⟨q+16+16,xs,0⟩=⟨q+16+16,xs,0⟩:=by unfold aQ;rw[if_neg (by simp only;omega)]
     rw[e4,if_neg (by simp)]at h ⊢;obtain ⟨h5,h6⟩:=z3F bs _ _ _ h;refine ⟨by omega,h3,h4,?_,h6⟩;omega
    ·have e4:(aQ most (aS bs q 16) ⟨q+16+16,xs,0⟩).e=5:=by unfold aQ aN;rw[if_pos (by simp only;omega),if_pos rfl]
     rw[if_pos (by rw[e4];decide),e4]at h;exact absurd h (by decide)
   ·exfalso
    rw[qh rfl h3]at h;exact absurd h (by decide)
  ·exfalso
   have e2:aA bs 16 ⟨q+16,xs,0⟩=(0,⟨q+16,xs,3⟩):=by unfold aA;rw[if_neg (by simp),if_neg h2]
   rw[e2]at h;unfold rD at h;simp at h
 ·exfalso
  have e1:aA bs 16 ⟨q,xs,0⟩=(0,⟨q,xs,3⟩):=by unfold aA;rw[if_neg (by simp),if_neg h1]
  rw[e1]at h;simp only at h;have e2:aA bs 16 ⟨q,xs,3⟩=(0,⟨q,xs,3⟩):=by unfold aA;rw[if_pos (by simp)]
  rw[e2]at h;unfold rD at h;simp at h
def FN (K:Nat->Prop) (w:World) (t g h:Nat) (bs:List Nat) (N most:Nat) (F:Inf) (e:Ending) (w':World):Prop:=
 ∃(er:Int) (p':Nat) (xs':List Nat),e=.returned (.int .i64 er)/\kP K w t g h bs N p' xs' most w'/\(F.e=0->er=0/\p'=F.p/\xs'=F.out)
theorem I_ {n m:Nat} (hm:m<65536) (h:n=65535-m):n&&& m=0:=by
 subst h;apply Nat.eq_of_testBit_eq
 intro i;rw[Nat.testBit_and,show 65535-m=2 ^ 16-(m+1) by omega,Nat.testBit_two_pow_sub_succ (by omega),Nat.zero_testBit];cases h:m.testBit i<;>simp
theorem Gu {K:Nat->Prop} {w:World} {t g h:Nat} {bs:List Nat} {p most:Nat} {xs:List Nat} (m:Ey K w t g h bs (8 * bs.length) p xs most) (hm:most<=65536):
 Calls Tryz.prog 130 #[.pointer (some ⟨t,0,none⟩)] w (FN K w t g h bs (8 * bs.length) most (dV bs most ⟨p,xs,0⟩)):=by
 obtain ⟨i0,hi0,hz0,hz1,hz2⟩:=info_parts Tryz.info5;obtain ⟨vo,m⟩:=m;have HF:=ah (fun h=>Gm (bs:=bs) (most:=most) (p:=p) (xs:=xs) h);generalize dV bs most ⟨p,xs,0⟩=F at *;obtain ⟨N,hN⟩:∃N,N=8 * bs.length:=⟨_,rfl⟩;rw[←hN]at m ⊢;have hN8:N % 8=0:=by omega
 have HN:=ah hN;clear hN;have d0:w.cell? ⟨t,0,none⟩=some (.pointer (some ⟨g,0,none⟩)):=m.blk.cell 0;have hle:=m.fH.le;have M:=ah m;clear m;go_enter Tryz.func130,Tryz.ntmps130;go_wp2_with fail;with_reducible refine (z43 g h bs N p _ M.out.fH hN8).mono ?_
 rintro e w1 ⟨rfl,r1,c1⟩;obtain ⟨q,hq⟩:∃q,q=(p+7) / 8 * 8:=⟨_,rfl⟩;rw[←hq]at r1;have M1:=ah (M.out.bits r1 c1);have K1:=ah (M.out.kW c1 fun k h=>.inr (.inl h));have d1:w1.cell? ⟨t,0,none⟩=some (.pointer (some ⟨g,0,none⟩)):=M1.out.blk.cell 0;have hle1:=r1.le;have HQ:=ah hq;clear r1 c1 hq d0;by_cases h1:q+16<=N
 ·go_wp2_with fail
  refine (Ol g h bs N q 16 _ M1.out.fH (by omega) h1).mono ?_;rintro e w2 ⟨rfl,r2,c2⟩;have M2:=ah (M1.out.bits r2 c2);have K2:=ah (K1.out.trans (M1.out.kW c2 fun k h=>.inr (.inl h)) fun _ _ h=>h);have d2:w2.cell? ⟨t,0,none⟩=some (.pointer (some ⟨g,0,none⟩)):=M2.out.blk.cell 0;clear r2 c2 d1;by_cases h2:q+16+16<=N
  ·go_wp2_with fail
   refine (Ol g h bs N (q+16) 16 _ M2.out.fH (by omega) h2).mono ?_;rintro e w3 ⟨rfl,r3,c3⟩;have M3:=ah (M2.out.bits r3 c3);have K3:=ah (K2.out.trans (M2.out.kW c3 fun k h=>.inr (.inl h)) fun _ _ h=>h);clear r3 c3 d2;have hn:=AU bs q 16;have hm2:=AU bs (q+16) 16;obtain ⟨n,hn0⟩:∃n,n=aS bs q 16:=⟨_,rfl⟩;obtain ⟨mm,hm0⟩:∃n,n=aS bs (q+16) 16:=⟨_,rfl⟩;rw[←hn0]at hn ⊢;rw[←hm0]at hm2 ⊢;have HX:=ah hn0;have HY:=ah hm0;clear hn0 hm0;have hn16:n<65536:=(by omega);have hm16:mm<65536:=(by omega);clear hn hm2;have hand:=u32_and_nat n mm (by omega) (by omega);have hxl:=M3.out.len;obtain ⟨A3,cc3,rfl,hA1,hA2⟩:=z05 M3.out.own;have d3:w3.cell? ⟨t,0,none⟩=some (.pointer (some ⟨g,0,none⟩)):=M3.out.blk.cell 0;have e3:w3.cell? ⟨t,1,none⟩=some (.slice A3 xs.length cc3):=M3.out.blk.cell 1;have f3:w3.cell? ⟨t,2,none⟩=some (.int .i64 (most:Int)):=M3.out.blk.cell 2;have HM3:Hid (∃vo,lM K w3 t g h bs N (q+16+16) xs most vo):=ah ⟨_,M3.out⟩;by_cases hok:n=65535-mm
   ·have hs:n+mm=65535:=by omega
    have h0:=I_ hm16 hok;rw[h0]at hand;have hsi:(n:Int)+(mm:Int)=65535:=(by omega);by_cases hroom:xs.length+n<=most
    ·have UG:¬(most:Int)-(xs.length:Int)<(n:Int):=by omega
     clear h0 hok;go_wp2_with fail;go_quiet (fail)
     go_wp2_with fail;clear d3 e3 f3;go_loopw [6] (fun i wr=>∃k:Nat,k<=n/\i=.int .i64 k/\kP K w t g h bs N (q+32+8 * k) (xs++xq bs (q+32) k) most wr) (fun i _=>n-(intOf i).toNat)
     case atStart=>exact ⟨0,Nat.zero_le _,rfl,⟨_,by simpa [xq]using M3.out.nx ((Ch.refl _ _).drewN _)⟩,K3.out.drewN _⟩
     case round=>
      obtain ⟨w5,rfl⟩:∃w5:World,w5=wr:=⟨_,rfl⟩;obtain ⟨k,hk,rfl,⟨vk,mk⟩,kk⟩:=hrel;have hxk:(xs++xq bs (q+32) k).length=xs.length+k:=(by rw[List.length_append,oH]);have d5:w5.cell? ⟨t,0,none⟩=some (.pointer (some ⟨g,0,none⟩)):=mk.blk.cell 0;have MK:=ah mk;have KK:=ah kk;clear mk kk;by_cases hlt:k<n
      ·by_cases h8:q+32+8 * k+8<=N
       ·go_wp2_with fail
        refine (Ol g h bs N (q+32+8 * k) 8 _ MK.out.fH (by omega) h8).mono ?_;rintro e w6 ⟨rfl,r6,c6⟩;have m6:=MK.out.bits r6 c6;have k6:=KK.out.trans (MK.out.kW c6 fun k h=>.inr (.inl h)) fun _ _ h=>h;have hbs:xs++xq bs (q+32) (k+1)=xs++xq bs (q+32) k++[aS bs (q+32+8 * k) 8]:=(by rw[wP,List.append_assoc]);have hx8:=AU bs (q+32+8 * k) 8;have HBS:=ah hbs;have YN:=ah hxk;clear hbs hxk r6 c6 d5;generalize aS bs (q+32+8 * k) 8=x at *;have hx9:x<256:=(by omega);clear hx8;obtain ⟨ys,hys⟩:∃ys,ys=xs++xq bs (q+32) k:=⟨_,rfl⟩;rw[←hys]at m6 YN HBS;have hyl:ys.length<most:=by rw[YN.out];omega
        clear hys;obtain ⟨A6,cc6,rfl,hA1,hA2⟩:=z05 m6.own;have d6:w6.cell? ⟨t,1,none⟩=some (.slice A6 ys.length cc6):=m6.blk.cell 1;have M6:=ah m6;have K6:=ah k6;clear m6 k6;have hrd:Rd (w6.alloc (.cells #[.int .u8 (x:Int)] 5)) (fun i=>i=w6.heap.size) 1 (some ⟨w6.heap.size,0,none⟩) 1 [.int .u8 (x:Int)]:=⟨rfl,fun _=>⟨_,rfl,rfl,cell_one_new _ _ _⟩⟩;go_wp2_with (at_builtin;refine z00 _ rfl (.tmp 80) (.tmp 83) _ rfl 0 5 i0 _ 1 1 Tryz.underlying27 hi0 hz0 hz1 hz2 rfl (by omega) (.slice A6 ys.length cc6) ys.length (bl ys) rfl (M6.out.own.alloc _) (fun i=>i=w6.heap.size) (some ⟨w6.heap.size,0,none⟩) 1 1 [.int .u8 (x:Int)] rfl hrd (by intro u hu;simp at hu;subst hu;rfl) (by simp only[maxLen];omega) (by omega) (by omega) ?_;intro v' w7 j_ hg7 zB;obtain ⟨A7,c7,hv7,f1,f2,m8⟩:=M6.out.push (.cells #[.int .u8 (x:Int)] 5) hx9 hyl j_ hg7 zB;subst hv7;clear j_ hg7 zB)
        have M8:=ah m8;clear m8;go_roundw
        case rel=>
         refine ⟨k+1,by omega,by go_num,?_,K6.out.trans M8.out.2 fun _ _ h=>h⟩;rw[HBS.out,show q+32+8 * (k+1)=q+32+8 * k+8 by omega];exact M8.out.1
        case measure=>simp[intOf];omega
       ·go_wp2_with fail
        refine (Oo g h bs N (q+32+8 * k) 8 _ MK.out.fH (by omega) (by omega) (by omega)).mono ?_;rintro e w6 ⟨rfl,n6⟩;go_wp2_with fail;go_ret;refine ⟨3,_,_,rfl,⟨⟨_,MK.out.nx n6.nx⟩,KK.out.tr n6.nx⟩,fun h=>?_⟩;obtain ⟨q',n',e1,e2,e3,e4,e5,e6,_⟩:=HF.out h;rw[←HQ.out]at e1;subst e1;rw[←HX.out]at e2;subst e2;have:=HN.out;omega
      ·obtain rfl:k=n:=by omega
       go_wp2_with fail;go_ret;refine ⟨0,_,_,rfl,⟨⟨_,MK.out⟩,KK.out⟩,fun h=>?_⟩;obtain ⟨q',n',e1,e2,e3,e4,e5,e6,e7⟩:=HF.out h;rw[←HQ.out]at e1;subst e1;rw[←HX.out]at e2;subst e2;rw[e7];exact ⟨rfl,rfl,rfl⟩
    ·have UG:(most:Int)-(xs.length:Int)<(n:Int):=by omega
     clear h0 hok;go_wp2_with fail;go_quiet (fail)
     go_wp2_with fail;go_ret;refine ⟨5,_,_,rfl,⟨⟨_,M3.out.nx ((Ch.refl _ _).drewN _)⟩,K3.out.drewN _⟩,fun h=>?_⟩;obtain ⟨q',n',e1,e2,e3,e4,e5,e6,e7⟩:=HF.out h;rw[←HQ.out]at e1;subst e1;rw[←HX.out]at e2;subst e2;exact absurd e5 hroom
   ·have hend:∀w',Nx w3 w'->FN K w t g h bs N most F (.returned (.int .i64 4)) w':=fun w' n'=>by
     refine ⟨4,_,_,rfl,⟨⟨_,M3.out.nx n'⟩,K3.out.tr n'⟩,fun h=>?_⟩;obtain ⟨q',n',e1,e2,e3,e4,e5,e6,e7⟩:=HF.out h;rw[←HQ.out]at e1;subst e1;rw[←HX.out]at e2;subst e2;rw[←HY.out]at e4;exact absurd e4 hok
    have HE:=ah hend;clear hend;by_cases hs:n+mm=65535
    ·omega
    ·have hsi:¬(n:Int)+(mm:Int)=65535:=by omega
     go_wp2_with fail;go_ret;exact HE.out _ (Ch.refl _ _)
  ·go_wp2_with fail
   refine (Oo g h bs N (q+16) 16 _ M2.out.fH (by omega) (by omega) (by omega)).mono ?_;rintro e w3 ⟨rfl,n3⟩;go_wp2_with fail;go_ret;refine ⟨3,q+16,xs,rfl,⟨⟨_,M2.out.nx n3.nx⟩,K2.out.tr n3.nx⟩,fun h=>?_⟩;obtain ⟨q',n,e1,e2,e3,_⟩:=HF.out h;rw[←HQ.out]at e1;subst e1;have:=HN.out;omega
 ·go_wp2_with fail
  refine (Oo g h bs N q 16 _ M1.out.fH (by omega) (by omega) (by omega)).mono ?_;rintro e w2 ⟨rfl,n2⟩;go_wp2_with fail;go_ret;refine ⟨3,q,xs,rfl,⟨⟨_,M1.out.nx n2.nx⟩,K1.out.tr n2.nx⟩,fun h=>?_⟩;obtain ⟨q',n,e1,e2,e3,_⟩:=HF.out h;rw[←HQ.out]at e1;subst e1;have:=HN.out;omega
end Go.Proofs.YtfljcllpmbnjaaaGreat
namespace Go.Proofs.YtfljcllpmbnjaaaGreat
theorem XT {bs:List Nat} {n p:Nat} {xs:List Nat} (h:(aA bs n ⟨p,xs,0⟩).2.e=0):p+n<=8 * bs.length/\aA bs n ⟨p,xs,0⟩=(aS bs p n,⟨p+n,xs,0⟩):=by
 unfold aA at h ⊢;rw[if_neg (by simp)]at h ⊢;by_cases hp:p+n<=8 * bs.length
 ·rw[if_pos hp];exact ⟨hp,rfl⟩
 ·rw[if_neg hp]at h;simp at h
theorem LH:∀k,k<28->8<=k->fO k=(3+(4+k % 4) * 2 ^ (k / 4-1),k / 4-1):=by decide+kernel
theorem Dp {bs:List Nat} {k p:Nat} {xs:List Nat} (hk:k<29) (hp:p<=8 * bs.length) (h:(bI bs k ⟨p,xs,0⟩).2.e=0):p+(fO k).2<=8 * bs.length/\bI bs k ⟨p,xs,0⟩=((fO k).1+aS bs p (fO k).2,⟨p+(fO k).2,xs,0⟩):=by
 unfold bI at h ⊢;by_cases h8:k<8
 ·have e:fO k=(k+3,0):=by unfold fO;rw[if_pos h8]
  rw[if_pos h8,e];exact ⟨hp,rfl⟩
 ·rw[if_neg h8]at h ⊢
  by_cases h28:k=28
  ·have e:fO k=(258,0):=by unfold fO;rw[if_neg h8,if_pos h28]
   rw[if_pos h28,e];exact ⟨hp,rfl⟩
  ·rw[if_neg h28]at h ⊢
   obtain ⟨h1,h2⟩:=XT h;rw[LH k (by omega) (by omega),h2];exact ⟨h1,rfl⟩
theorem M_:∀k,k<30->2<=k->bD k=1+(2+k % 2) * 2 ^ (k / 2-1)/\extra k=k / 2-1:=by decide+kernel
theorem Qb:∀k,k<2->bD k=k+1/\extra k=0:=by decide+kernel
theorem MQ {bs:List Nat} {k p:Nat} {xs:List Nat} (hk:k<30) (hp:p<=8 * bs.length) (h:(dH bs k ⟨p,xs,0⟩).2.e=0):p+extra k<=8 * bs.length/\dH bs k ⟨p,xs,0⟩=(bD k+aS bs p (extra k),⟨p+extra k,xs,0⟩):=by
 unfold dH at h ⊢;by_cases h2:k<2
 ·obtain ⟨e1,e2⟩:=Qb k h2
  rw[if_pos h2,e1,e2];exact ⟨hp,rfl⟩
 ·rw[if_neg h2]at h ⊢
  obtain ⟨h3,h4⟩:=XT h;obtain ⟨e1,e2⟩:=M_ k hk (by omega);rw[e1,e2,h4];exact ⟨h3,rfl⟩
theorem XP {e:Int} {s:Inf} (h:e≠0):(aN e s).e≠0:=by
 unfold aN;by_cases h0:s.e=0
 ·rw[if_pos h0];exact h
 ·rw[if_neg h0];exact h0
theorem rP {most:Nat} {n:Nat} {p:Nat} {xs:List Nat} (h:(aQ most n ⟨p,xs,0⟩).e=0):xs.length+n<=most/\aQ most n ⟨p,xs,0⟩=⟨p,xs,0⟩:=by
 unfold aQ at h ⊢;by_cases hr:(most:Int)-(xs.length:Int)<(n:Int)
 ·rw[if_pos hr]at h
  exact absurd h (XP (by decide))
 ·rw[if_neg hr]
  exact ⟨by omega,rfl⟩
theorem rG (bs:List Nat) (zs:List Int) (p:Nat) (xs:List Nat):cO bs zs ⟨p,xs,0⟩=((bg zs bs p 15 0).1,⟨(bg zs bs p 15 0).2.2,xs,(bg zs bs p 15 0).2.1⟩):=by
 unfold cO;rw[if_neg (by simp)]
theorem z4g {bs:List Nat} {most:Int} {n:Nat} {d:Int} {s:Inf} (h:s.e≠0):Az bs most n d s=(false,s):=by
 unfold Az;have h1:¬(s.e=0/\29<d):=fun k=>h k.1;have h2:¬(s.e=0):=h;simp only[if_neg h1,if_neg h2];have h3:¬(s.e=0/\s.out.length<0):=fun k=>h k.1;simp only[if_neg h3];rw[if_pos h]
theorem xZ {bs:List Nat} {most n p:Nat} {d:Int} {xs:List Nat} (hp:p<=8 * bs.length) (hd0:0<=d) (h:(Az bs most n d ⟨p,xs,0⟩).2.e=0):
 d<=29/\p+extra d.toNat<=8 * bs.length/\bD d.toNat+aS bs p (extra d.toNat)<=xs.length/\xs.length+n<=most/\Az bs most n d ⟨p,xs,0⟩=(true,⟨p+extra d.toNat,dQ n (bD d.toNat+aS bs p (extra d.toNat)) xs,0⟩):=by
 obtain ⟨s,hs⟩:∃s,s=(⟨p,xs,0⟩:Inf):=⟨_,rfl⟩;have h0:s.e=0:=by rw[hs]
 rw[←hs]at h ⊢;unfold Az at h ⊢;by_cases h29:29<d
 ·exfalso
  have h1:s.e=0/\29<d:=⟨h0,h29⟩;have h5:¬((aN 4 s).e=0):=XP (by decide);have h6:¬((aN 4 s).e=0/\(aN 4 s).out.length<0):=fun k=>h5 k.1;simp only[if_pos h1,if_neg h5,if_neg h6]at h;rw[if_pos h5]at h;exact h5 h
 ·have h1:¬(s.e=0/\29<d):=fun k=>h29 k.2
  simp only[if_neg h1,if_pos h0]at h ⊢;by_cases hz:(dH bs d.toNat s).2.e=0
  ·rw[hs]at hz
   obtain ⟨k1,k2⟩:=MQ (by omega) hp hz;rw[←hs]at k2;generalize bD d.toNat+aS bs p (extra d.toNat)=dd at *;generalize p+extra d.toNat=p2 at *;obtain ⟨s2,hs2⟩:∃s,s=(⟨p2,xs,0⟩:Inf):=⟨_,rfl⟩;have z0:s2.e=0:=(by rw[hs2]);have z1:s2.out=xs:=(by rw[hs2]);rw[←hs2]at k2;simp only[k2,z1]at h ⊢;by_cases hdd:xs.length<dd
   ·exfalso
    have g1:s2.e=0/\xs.length<dd:=⟨z0,hdd⟩;have h4:(aN 4 s2).e≠0:=XP (by decide);simp only[if_pos g1]at h;rw[if_pos h4]at h;exact h4 h
   ·have g1:¬(s2.e=0/\xs.length<dd):=fun k=>hdd k.2
    have g2:¬(s2.e≠0):=fun k=>k z0;simp only[if_neg g1]at h ⊢;rw[if_neg g2]at h ⊢;by_cases hr:(aQ most n s2).e=0
    ·rw[hs2]at hr
     obtain ⟨r1,r2⟩:=rP hr;rw[←hs2]at hr r2;rw[if_neg (fun k=>k hr),r2,hs2];exact ⟨by omega,k1,by omega,r1,rfl⟩
    ·rw[if_pos hr]at h
     exact absurd h hr
  ·exfalso
   have g1:¬((dH bs d.toNat s).2.e=0/\(dH bs d.toNat s).2.out.length<(dH bs d.toNat s).1):=fun k=>hz k.1;simp only[if_neg g1]at h;rw[if_pos hz]at h;exact hz h
theorem Ue {bs:List Nat} {most k p:Nat} {zl zd:List Int} {xs:List Nat} (h:(aP bs most zl zd (k+1) ⟨p,xs,0⟩).e=0):
 (bg zl bs p 15 0).2.1=0/\∀(x:Nat) (q:Nat),bg zl bs p 15 0=((x:Int),0,q)->q<=8 * bs.length->
   (x=256->aP bs most zl zd (k+1) ⟨p,xs,0⟩=⟨q,xs,0⟩)/\(x<256->xs.length<most/\aP bs most zl zd (k+1) ⟨p,xs,0⟩=aP bs most zl zd k ⟨q,xs++[x],0⟩)/\
   (256<x->x<=285/\q+(fO (x-257)).2<=8 * bs.length/\(bg zd bs (q+(fO (x-257)).2) 15 0).2.1=0/\
     ∀(d:Nat) (q2:Nat),bg zd bs (q+(fO (x-257)).2) 15 0=((d:Int),0,q2)->q2<=8 * bs.length->
      d<=29/\q2+extra d<=8 * bs.length/\bD d+aS bs q2 (extra d)<=xs.length/\xs.length+((fO (x-257)).1+aS bs q (fO (x-257)).2)<=most/\
      aP bs most zl zd (k+1) ⟨p,xs,0⟩=aP bs most zl zd k ⟨q2+extra d,dQ ((fO (x-257)).1+aS bs q (fO (x-257)).2) (bD d+aS bs q2 (extra d)) xs,0⟩):=by
 rw[aP,if_neg (by simp)]at h ⊢;unfold xG at h ⊢;rw[rG]at h ⊢
 have hz:(bg zl bs p 15 0).2.1=0:=by
  by_cases hz:(bg zl bs p 15 0).2.1=0
  ·exact hz
  ·exfalso
   unfold xE at h;have g:(⟨(bg zl bs p 15 0).2.2,xs,(bg zl bs p 15 0).2.1⟩:Inf).e≠0∨(bg zl bs p 15 0).1=256:=.inl hz;simp only[if_pos g]at h;exact hz h
 refine ⟨hz,fun x q hx hq=>?_⟩;rw[hx]at h ⊢;simp only at h ⊢;unfold xE at h ⊢;by_cases h256:x=256
 ·have g:(⟨q,xs,0⟩:Inf).e≠0∨(x:Int)=256:=.inr (by omega)
  refine ⟨fun _=>?_,fun h=>by omega,fun h=>by omega⟩;simp only[if_pos g];rfl
 ·obtain ⟨s,hs⟩:∃s,s=(⟨q,xs,0⟩:Inf):=⟨_,rfl⟩
  have h0:s.e=0:=by rw[hs]
  rw[←hs]at h ⊢;have g:¬(s.e≠0∨(x:Int)=256):=fun k=>k.elim (fun k=>k h0) (fun k=>h256 (by omega));simp only[if_neg g]at h ⊢;by_cases hl:x<256
  ·have gl:(x:Int)<256:=by omega
   simp only[if_pos gl,if_true]at h ⊢;refine ⟨fun h=>by omega,fun _=>?_,fun h=>by omega⟩;by_cases hr:(aQ most 1 s).e=0
   ·have hr':=hr
    rw[hs]at hr';obtain ⟨r1,r2⟩:=rP (n:=1) hr';have r3:aQ most 1 s=s:=by rw[hs];exact r2
    rw[if_pos hr,r3,hs];exact ⟨by omega,rfl⟩
   ·exfalso
    rw[if_neg hr]at h;cases k with
    |zero=>rw[aP]at h;exact hr h
    |succ k=>rw[aP,if_pos hr]at h;exact hr h
  ·have gl:¬(x:Int)<256:=by omega
   simp only[if_neg gl]at h ⊢;refine ⟨fun h=>by omega,fun h=>by omega,fun _=>?_⟩;by_cases h285:285<x
   ·exfalso
    have g5:285<(x:Int):=(by omega);simp only[if_pos g5]at h;exact XP (by decide) h
   ·have g5:¬285<(x:Int):=by omega
    simp only[if_neg g5]at h ⊢;have ek:((x:Int)-257).toNat=x-257:=(by omega);rw[ek]at h ⊢
    have hL:(bI bs (x-257) s).2.e=0:=by
     by_cases hL:(bI bs (x-257) s).2.e=0
     ·exact hL
     ·exfalso
      have hb:cO bs zd (bI bs (x-257) s).2=(0,(bI bs (x-257) s).2):=by unfold cO;rw[if_pos hL]
      rw[hb,z4g hL]at h;exact hL h
    rw[hs]at hL;obtain ⟨l1,l2⟩:=Dp (by omega) hq hL;rw[←hs]at l2;rw[l2]at h ⊢;simp only at h ⊢;generalize (fO (x-257)).1+aS bs q (fO (x-257)).2=n at *;generalize q+(fO (x-257)).2=q1 at *;rw[rG]at h ⊢
    have hd:(bg zd bs q1 15 0).2.1=0:=by
     by_cases hd:(bg zd bs q1 15 0).2.1=0
     ·exact hd
     ·exfalso
      have hb:(⟨(bg zd bs q1 15 0).2.2,xs,(bg zd bs q1 15 0).2.1⟩:Inf).e≠0:=hd;rw[z4g hb]at h;exact hd h
    refine ⟨by omega,l1,hd,fun d q2 hdd hq2=>?_⟩;rw[hdd]at h ⊢;simp only at h ⊢
    have hst:(Az bs most n (d:Int) ⟨q2,xs,0⟩).2.e=0:=by
     by_cases hst:(Az bs most n (d:Int) ⟨q2,xs,0⟩).2.e=0
     ·exact hst
     ·exfalso
      split at h
      ·cases k with
       |zero=>rw[aP]at h;exact hst h
       |succ k=>rw[aP,if_pos hst]at h;exact hst h
      ·exact hst h
    obtain ⟨t1,t2,t3,t4,t5⟩:=xZ hq2 (by omega) hst;rw[Int.toNat_natCast]at t2 t3 t5;rw[t5];exact ⟨by omega,t2,t3,t4,rfl⟩
end Go.Proofs.YtfljcllpmbnjaaaGreat
