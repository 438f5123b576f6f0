/- Contracts and plain laws that the last text rests on. Conditions: each theorem states its own. -/
import Derived.Test.YtpakjclpjcngmaaGreatKqQ27
import Derived.Deep.CutBlock
import Derived.Test.YtpakjclpjcngmaaGreatKqQ4
import Derived.Test.YtpakjclpjcngmaaGreatKqQ25
import Derived.Test.YtpakjclpjcngmaaGreatKqQ12
import Derived.Test.YtpakjclpjcngmaaGreatKqQ3
set_option maxRecDepth 100000
set_option maxHeartbeats 8000000
set_option linter.unusedVariables false
namespace Go.Proofs.YtpakjclpjcngmaaGreat
open Go.RowKit
def z5q (n:Nat) (l:List Int×Inf):(List Int×List Int)×Inf:=if l.2.e≠0 then (([],[]),l.2) else ((l.1.take n,l.1.drop n),tZ l.1 l.2)
def z38 (bs:List Nat) (n m:Nat) (t:List Int×Inf):(List Int×List Int)×Inf:=
 if t.2.e≠0 then (([],[]),t.2) else z5q n (fP bs t.1 (n+m) (n+m) [] (lW t.1 t.2))
theorem qJ (bs:List Nat) (n m k:Nat) (s:Inf):z23 bs n m k s=z38 bs n m (eH bs k 0 (List.replicate 19 0) (if s.e=0/\(286<n∨30<m) then aJ 4 s else s)):=rfl
def rW (K:Nat->Prop) (b:Nat) (w:World) (bs:List Nat) (k:Nat) (s4:Inf) (r g h:Nat) (most:Int) (i:Value) (wr:World):Prop:=
 ∃(j:Nat) (t:List Int) (sj:Inf),j<=k/\i=.int .i64 j/\t.length=19/\bg (fun i=>K i∨i=b) wr r g h bs most sj/\aG wr b 331 (il t).toArray/\Ch (fun k=>¬K k) w wr/\
  Hid (eH bs k 0 (List.replicate 19 0) s4=eH bs (k-j) j t sj)
theorem Nv (j:Nat) (hj:j<19) (W:World):Sem.run Tryz.prog (Instr.index 331 (.agg #[.int .i64 16,.int .i64 17,.int .i64 18,.int .i64 0,.int .i64 8,.int .i64 7,.int .i64 9,.int .i64 6,.int .i64 10,.int .i64 5,.int .i64 11,.int .i64 4,.int .i64 12,.int .i64 3,.int .i64 13,.int .i64 2,.int .i64 14,.int .i64 1,.int .i64 15]) (.int .i64 (j:Int))) W=.ok (.int .i64 ((fM.getD j 0:Nat):Int)) W:=by
 have h:j=0∨j=1∨j=2∨j=3∨j=4∨j=5∨j=6∨j=7∨j=8∨j=9∨j=10∨j=11∨j=12∨j=13∨j=14∨j=15∨j=16∨j=17∨j=18:=by omega
 rcases h with rfl|rfl|rfl|rfl|rfl|rfl|rfl|rfl|rfl|rfl|rfl|rfl|rfl|rfl|rfl|rfl|rfl|rfl|rfl<;>rfl
theorem Qe (j:Nat):fM.getD j 0<19:=by
 by_cases hj:j<19
 ·have h:j=0∨j=1∨j=2∨j=3∨j=4∨j=5∨j=6∨j=7∨j=8∨j=9∨j=10∨j=11∨j=12∨j=13∨j=14∨j=15∨j=16∨j=17∨j=18:=by omega
  rcases h with rfl|rfl|rfl|rfl|rfl|rfl|rfl|rfl|rfl|rfl|rfl|rfl|rfl|rfl|rfl|rfl|rfl|rfl|rfl<;>decide
 ·have h:fM.getD j 0=0:=by
   rw[List.getD_eq_getElem?_getD,List.getElem?_eq_none (by simp[fM];omega)];rfl
  omega
theorem FD (t:List Int) (x:Nat) (ht:t.length=19) (hx:x<19):(il t).toArray[x]?=some (.int .i64 (t.getD x 0)):=by
 simp[il,List.getD_eq_getElem?_getD,List.getElem?_eq_getElem (show x<t.length by omega)]
theorem aG.lC {w:World} {b:Nat} {ty:TypeId} {xs:List Value} (h:aG w b ty xs.toArray):Rd w (fun k=>k=b) 1 (some ⟨b,0,none⟩) xs.length xs:=
 ⟨by simp,fun _=>⟨⟨b,0,none⟩,rfl,rfl,fun j u hu=>by
   have e:Addr.add ⟨b,0,none⟩ j=⟨b,j,none⟩:=by
    unfold Addr.add;by_cases hj:j=0
    ·rw[if_pos hj,hj]
    ·rw[if_neg hj];simp
   rw[e,h.cell];simpa using hu⟩⟩
def lenV:Value->Nat
 | .slice _ n _=>n
 |_=>0
def Len2 (K:Nat->Prop) (B:Nat) (w:World) (r g h:Nat) (bs:List Nat) (most:Int) (Dt:Nat->Prop) (t3:Nat) (t:List Int) (nm:Nat) (sj:Inf) (v:Value) (wr:World):Prop:=
 ∃(f:Nat) (l:List Int) (s':Inf),jG K B w wr r g h bs most Dt t3 t s' v l/\l.length<=nm+138/\(s'.e=0->nm<=f+l.length)/\Hid (fP bs t nm nm [] sj=fP bs t nm f l s')
theorem RN {bs:List Nat} {zt:List Int} {nm k:Nat} {l:List Int} {s s8:Inf} {x:Int} (hq:dB bs zt s=(x,s8)) (he:s.e=0) (hl:l.length<nm) (h2:s8.e≠0):fP bs zt nm (k+1) l s=(l,s8):=by
 rw[fP,if_neg (by simp[he];omega),hq,if_pos h2]
theorem Xc {bs:List Nat} {zt:List Int} {nm k:Nat} {s s8:Inf} (hq:dB bs zt s=(16,s8)) (he:s.e=0) (hl:0<nm) (h2:s8.e=0):fP bs zt nm (k+1) [] s=([],aJ 4 s8):=by
 rw[fP,if_neg (by simp[he];omega),hq,if_neg (by simp[h2]),if_pos ⟨rfl,rfl⟩]
theorem Xb {bs:List Nat} {zt:List Int} {nm k:Nat} {l:List Int} {s s8:Inf} {x:Int} (hq:dB bs zt s=(x,s8)) (he:s.e=0) (hl:l.length<nm) (h2:s8.e=0) (h3:¬(x=16/\l=[])):
 fP bs zt nm (k+1) l s=fP bs zt nm k (l++List.replicate (bK bs l x s8).2.1 (bK bs l x s8).1) (jd nm l (bK bs l x s8).2.1 (bK bs l x s8).2.2):=by
 rw[fP,if_neg (by simp[he];omega),hq,if_neg (by simp[h2]),if_neg h3]
theorem z2A {n:Nat} {l:List Int} {s:Inf} (h:s.e≠0):z5q n (l,s)=(([],[]),s):=by unfold z5q;rw[if_pos h]
theorem jG.out {K:Nat->Prop} {B:Nat} {w w':World} {r g h:Nat} {bs:List Nat} {most:Int} {Dt:Nat->Prop} {t3:Nat} {zt:List Int} {s8 s:Inf} {v:Value} {l:List Int} (m:jG K B w w' r g h bs most Dt t3 zt s8 v l) (hL:aF bs s=(([],[]),s8)):
 ∃A1 c1 A2 c2,∃D:Nat->Prop,Ending.returned (.tuple #[.slice none 0 0,.slice none 0 0])=.returned (.tuple #[.slice A1 (aF bs s).1.1.length c1,.slice A2 (aF bs s).1.2.length c2])/\bg (fun k=>K k∨D k) w' r g h bs most (aF bs s).2/\Ch (fun k=>¬K k) w w'/\(∀k,D k->w.heap.size<=k)/\
  Rd w' D 1 A1 (aF bs s).1.1.length (il (aF bs s).1.1)/\Rd w' D 1 A2 (aF bs s).1.2.length (il (aF bs s).1.2):=by
 rw[hL];exact ⟨none,0,none,0,fun _=>False,rfl,m.inf.less (fun k hk=>by rcases hk with hk|hk;exact .inl (.inl hk);exact hk.elim) (.inl m.kh),m.ch,fun _ hf=>hf.elim,Rd.none_ _ _ _ _,Rd.none_ _ _ _ _⟩
theorem KD {w:World} {B g c:Nat} {l:List Int} (h:w.ownsRow B 3 1 (.slice (some ⟨g,0,none⟩) l.length c) l.length (il l)) (hl:0<l.length):w.cell? ⟨g,l.length-1,none⟩=some (.int .i64 (l.getD (l.length-1) 0)):=by
 have hu:(il l)[l.length-1]?=some (.int .i64 (l.getD (l.length-1) 0)):=by
  simp[il,List.getD_eq_getElem?_getD,List.getElem?_eq_getElem (show l.length-1<l.length by omega)]
 have:=h.cells (g:=g) rfl _ _ hu
 have e:Addr.add ⟨g,0,none⟩ (l.length-1)=⟨g,l.length-1,none⟩:=by
  unfold Addr.add;by_cases hj:l.length-1=0
  ·rw[if_pos hj,hj]
  ·rw[if_neg hj];simp
 rw[e]at this;exact this
theorem FC {bs:List Nat} {l:List Int} {x:Int} {s:Inf}:1<=(bK bs l x s).2.1/\(bK bs l x s).2.1<=138:=by
 have h2:(aC bs 2 s).1<4:=Ar bs 2 s;have h3:(aC bs 3 s).1<8:=Ar bs 3 s;have h7:(aC bs 7 s).1<128:=Ar bs 7 s;unfold bK;split
 ·exact ⟨Nat.le_refl _,by simp only;omega⟩
 ·split
  ·exact ⟨by simp only;omega,by simp only;omega⟩
  ·split
   ·exact ⟨by simp only;omega,by simp only;omega⟩
   ·exact ⟨by simp only;omega,by simp only;omega⟩
theorem z5p {bs:List Nat} {zt:List Int} {nm:Nat} {l:List Int} {s:Inf} (h:s.e≠0∨nm<=l.length):∀{k:Nat},fP bs zt nm k l s=(l,s):=by
 intro k;cases k with
 |zero=>rfl
 |succ k=>rw[fP,if_pos h]
theorem YM {w:World} {B g c q:Nat} {l:List Int} (h:w.ownsRow B 3 1 (.slice (some ⟨g,0,none⟩) l.length c) l.length (il l)) (hl:q<l.length):w.cell? ⟨g,q,none⟩=some (.int .i64 (l.getD q 0)):=by
 have hu:(il l)[q]?=some (.int .i64 (l.getD q 0)):=by
  simp[il,List.getD_eq_getElem?_getD,List.getElem?_eq_getElem hl]
 have:=h.cells (g:=g) rfl _ _ hu
 have e:Addr.add ⟨g,0,none⟩ q=⟨g,q,none⟩:=by
  unfold Addr.add;by_cases hj:q=0
  ·rw[if_pos hj,hj]
  ·rw[if_neg hj];simp
 rw[e]at this;exact this
theorem jG.fin {K:Nat->Prop} {B:Nat} {w w':World} {r g h:Nat} {bs:List Nat} {most:Int} {Dt:Nat->Prop} {t3:Nat} {zt:List Int} {s8 s:Inf} {g2 c:Nat} {l:List Int} {n:Nat} (m:jG K B w w' r g h bs most Dt t3 zt s8 (.slice (some ⟨g2,0,none⟩) l.length c) l) (hL:aF bs s=((l.take n,l.drop n),s8)) (hn0:0<n) (hn:n<=l.length) (k:Nat):
 ∃A1 c1 A2 c2,∃D:Nat->Prop,Ending.returned (.tuple #[.slice (some ⟨g2,0,none⟩) n c,.slice (some ⟨g2,n,none⟩) (l.length-n) (c-n)])=.returned (.tuple #[.slice A1 (aF bs s).1.1.length c1,.slice A2 (aF bs s).1.2.length c2])/\bg (fun k=>K k∨D k) (w'.drewN k) r g h bs most (aF bs s).2/\Ch (fun k=>¬K k) w (w'.drewN k)/\(∀k,D k->w.heap.size<=k)/\
  Rd (w'.drewN k) D 1 A1 (aF bs s).1.1.length (il (aF bs s).1.1)/\Rd (w'.drewN k) D 1 A2 (aF bs s).1.2.length (il (aF bs s).1.2):=by
 have m:=m.nx ((Ch.refl _ w').drewN k);rw[hL];have e1:(l.take n).length=n:=by rw[List.length_take];omega
 have e2:(l.drop n).length=l.length-n:=List.length_drop ..;simp only[e1,e2];have hb:=m.base;refine ⟨_,c,_,c-n,fun k=>(Value.slice (some ⟨g2,0,none⟩) l.length c).ownBlock=some k,rfl,m.inf.less (fun k hk=>by rcases hk with hk|hk;exact .inl (.inl hk);exact .inr hk) (.inl m.kh),m.ch,fun k hk=>by have:=(m.own.lt k hk).1;omega,?_,?_⟩
 ·have:=(Rd.eU m.own).take hn
  rw[Nat.mul_one]at this;rw[show il (l.take n)=(il l).take n by simp[il,List.map_take]];exact this.more fun k hk=>hk.1
 ·refine ⟨by simp[il],fun h0=>⟨⟨g2,n,none⟩,rfl,rfl,fun j u hu=>?_⟩⟩
  have hj:n+j<l.length:=by
   rcases Nat.lt_or_ge (n+j) l.length with h|h
   ·exact h
   ·rw[List.getElem?_eq_none (by simp[il];omega)]at hu;cases hu
  have h3:=YM m.own hj
  have e:Addr.add ⟨g2,n,none⟩ j=⟨g2,n+j,none⟩:=by
   unfold Addr.add;by_cases hj:j=0
   ·rw[if_pos hj,hj];simp
   ·rw[if_neg hj]
  rw[e,h3,←hu];simp[il,List.getD_eq_getElem?_getD,List.getElem?_eq_getElem hj]
theorem rW.next {K:Nat->Prop} {b:Nat} {w w5 w6:World} {bs:List Nat} {k:Nat} {s4 sj s':Inf} {r g h:Nat} {most:Int} {j x y:Nat} {t:List Int} (ht:t.length=19) (hlt:j<k)
 (m6:iJ (fun i=>K i∨i=b) w5.drew r g h bs most s' w6) (hB6:aG w6 b 331 (il t).toArray) (kj:Ch (fun k=>¬K k) w w5) (hbw:w.heap.size<=b) (hhb:h<b)
 (Hth:Hid (eH bs k 0 (List.replicate 19 0) s4=eH bs (k-j) j t sj)) (Htd:Hid (eH bs (k-j) j t sj=eH bs (k-(j+1)) (j+1) (t.set x (y:Int)) s')):
 rW K b w bs k s4 r g h most (.int .i64 ((j:Int)+1)) (w6.setCell ⟨b,x,none⟩ (.int .i64 (y:Int))):=by
 have hc:Ch (fun k=>k=b) w6 (w6.setCell ⟨b,x,none⟩ (.int .i64 (y:Int))):=Ch.setCell (S:=fun k=>k=b) (Ch.refl _ w6) (p:=⟨b,x,none⟩) (fun _=>rfl) _;refine ⟨j+1,t.set x (y:Int),s',by omega,by simp,by rw[List.length_set];exact ht,m6.1.side hc (.inr rfl) (by omega),?_,?_,ah (Hth.out.trans Htd.out)⟩
 ·have h:=hB6.dY x (.int .i64 (y:Int))
  have e:(il t).toArray.setIfInBounds x (.int .i64 (y:Int))=(il (t.set x (y:Int))).toArray:=by simp[il,List.map_set]
  rw[e]at h;exact h
 ·exact (kj.drew.trans m6.2 (fun i _ hn hk=>hn (.inl hk))).trans hc (fun i hi e=>by omega)
section
set_option maxRecDepth 100000 in
theorem Dj (K:Nat->Prop) (w:World) (r g h:Nat) (bs:List Nat) (most:Int) (s:Inf) (m:bg K w r g h bs most s):
 Calls Tryz.prog 281 #[.pointer (some ⟨r,0,none⟩)] w fun en w'=>∃A1 c1 A2 c2,∃D:Nat->Prop,
  en=.returned (.tuple #[.slice A1 (aF bs s).1.1.length c1,.slice A2 (aF bs s).1.2.length c2])/\bg (fun k=>K k∨D k) w' r g h bs most (aF bs s).2/\Ch (fun k=>¬K k) w w'/\(∀k,D k->w.heap.size<=k)/\
  Rd w' D 1 A1 (aF bs s).1.1.length (il (aF bs s).1.1)/\Rd w' D 1 A2 (aF bs s).1.2.length (il (aF bs s).1.2):=by
 obtain ⟨i0,hi0,hz0,hz1,hz2⟩:=info_parts Tryz.info3;go_enter Tryz.func281,Tryz.ntmps281;go_wp2_with fail;refine (JD m 5 (by omega)).mono ?_;rintro e w1 ⟨rfl,m1,k1⟩;have b1:=Ar bs 5 s;have b1':(aC bs 5 s).1<32:=b1;go_wp2_with fail;refine (JD m1 5 (by omega)).mono ?_;rintro e w2 ⟨rfl,m2,k2⟩;have b2:=Ar bs 5 (aC bs 5 s).2;have b2':(aC bs 5 (aC bs 5 s).2).1<32:=b2;go_wp2_with fail;refine (JD m2 4 (by omega)).mono ?_;rintro e w3 ⟨rfl,m3,k3⟩;have hF:aF bs s=z23 bs ((aC bs 5 s).1+257) ((aC bs 5 (aC bs 5 s).2).1+1) ((aC bs 4 (aC bs 5 (aC bs 5 s).2).2).1+4) (aC bs 4 (aC bs 5 (aC bs 5 s).2).2).2:=rfl;have b3:=Ar bs 4 (aC bs 5 (aC bs 5 s).2).2;have kk:Hid (Ch (fun k=>¬K k) w w3):=ah ((k1.trans k2 fun _ _ h=>h).trans k3 fun _ _ h=>h);have Hlo:Hid (∀k,K k->k<w.heap.size):=ah (by obtain ⟨vo,m⟩:=m;exact fun k hk=>(m.far k hk).1);have Hkh:Hid (K h):=ah (by obtain ⟨vo,m⟩:=m;exact m.kh);clear m m1 m2 k1 k2 k3;have HF:=ah hF;clear hF;generalize aC bs 5 s=q1 at *;generalize aC bs 5 q1.2=q2 at *;generalize aC bs 4 q2.2=q3 at *;obtain ⟨n0,s1⟩:=q1;obtain ⟨m0,s2⟩:=q2;obtain ⟨k0,s3⟩:=q3;simp only at b1 b2 b3 m3 HF ⊢;obtain ⟨n,hn⟩:∃n,n0+257=n:=⟨_,rfl⟩;obtain ⟨mm,hmm⟩:∃n,m0+1=n:=⟨_,rfl⟩;obtain ⟨k,hk⟩:∃n,k0+4=n:=⟨_,rfl⟩;have e1:(n0:Int)+257=(n:Int):=by omega
 have e2:(m0:Int)+1=(mm:Int):=by omega
 have e3:(k0:Int)+4=(k:Int):=by omega
 have hn1:257<=n/\n<=288:=by omega
 have hm1:1<=mm/\mm<=32:=by omega
 have hk1:4<=k/\k<=19:=by omega
 rw[hn,hmm,hk]at HF;clear hn hmm hk b1 b2 b3;have d3:=m3.dG;have He1:=ah e1;have He2:=ah e2;have He3:=ah e3;go_upto_region 2 with fail
 go_cut [4,5,6,35] (fun s4 s5 s6 s35 wx=>s4=.int .i64 (n:Int)/\s5=.int .i64 (mm:Int)/\s6=.int .i64 (k:Int)/\s35=.bool (decide (s3.e=0/\(286<n∨30<mm)))/\wx=w3)
 case first=>
  by_cases he3:s3.e=0
  ·rw[he3]at d3
   by_cases hn2:286<n
   ·have hd:decide (s3.e=0/\(286<n∨30<mm))=true:=by simp[he3,hn2]
    have hn3:286<(n0:Int)+257:=(by omega);clear he3;go_wp2_with fail;go_meet
    exact ⟨rfl,rfl,rfl,by rw[hd],rfl⟩
   ·have hn3:¬286<(n0:Int)+257:=by omega
    by_cases hm2:30<mm
    ·have hd:decide (s3.e=0/\(286<n∨30<mm))=true:=by simp[he3,hm2]
     have hm3:30<(m0:Int)+1:=(by omega);clear he3;go_wp2_with fail;go_meet
     exact ⟨rfl,rfl,rfl,by rw[hd];simp;omega,rfl⟩
    ·have hd:decide (s3.e=0/\(286<n∨30<mm))=false:=by simp[hn2,hm2]
     have hm3:¬30<(m0:Int)+1:=(by omega);clear he3;go_wp2_with fail;go_meet
     exact ⟨rfl,rfl,rfl,by rw[hd];simp;omega,rfl⟩
  ·have he3':(s3.e==0)=false:=by rw[beq_eq_false_iff_ne];exact he3
   have hd:decide (s3.e=0/\(286<n∨30<mm))=false:=(by simp[he3]);clear he3;go_wp2_with fail;go_meet
   exact ⟨rfl,rfl,rfl,by rw[hd],rfl⟩
 case rest=>
  obtain ⟨rfl,rfl,rfl,rfl,rfl⟩:=hcut;clear d3 e1 e2 e3 He1 He2 He3;obtain ⟨s4,hs4⟩:∃s4,(if s3.e=0/\(286<n∨30<mm) then aJ 4 s3 else s3)=s4:=⟨_,rfl⟩
  have hs5:s4.e=0->n<=286/\mm<=30:=by
   rw[←hs4];intro hh
   by_cases hc:s3.e=0/\(286<n∨30<mm)
   ·rw[if_pos hc]at hh;exact absurd hh (z1n (by decide))
   ·rw[if_neg hc]at hh;simp only[hh,true_and]at hc;omega
  have hG:aF bs s=z38 bs n mm (eH bs k 0 (List.replicate 19 0) s4):=by rw[HF.out,←hs4];exact qJ _ _ _ _ _
  have HG:=ah hG;clear hG HF;have Hs4:=ah hs4;clear hs4;go_upto_if 35 with fail
  go_cut [] (fun wx=>bg K wx r g h bs most s4/\Ch (fun k=>¬K k) w wx)
  case first=>
   by_cases hc:s3.e=0/\(286<n∨30<mm)
   ·have hd:decide (s3.e=0/\(286<n∨30<mm))=true:=by simp only[hc,decide_true,and_self]
    have hs:s4=aJ 4 s3:=(by rw[←Hs4.out,if_pos hc]);clear hc;rw[hd];clear hd;go_wp2_with fail;refine (PN m3 4).mono ?_;rintro e w4 ⟨rfl,m4,k4⟩;go_wp2_with fail;go_meet
    rw[hs];exact ⟨m4,kk.out.trans k4 fun _ _ h=>h⟩
   ·have hd:decide (s3.e=0/\(286<n∨30<mm))=false:=decide_eq_false hc
    have hs:s4=s3:=(by rw[←Hs4.out,if_neg hc]);clear hc;rw[hd];clear hd;go_wp2_with fail;go_meet
    rw[hs];exact ⟨m3,kk.out⟩
  case rest=>
   obtain ⟨m4,k4⟩:=hcut;clear kk m3 Hs4;obtain ⟨w4,rfl⟩:∃w4:World,w4=wc:=⟨_,rfl⟩
   have hb0:bg (fun i=>K i∨i=w4.heap.size) (w4.alloc (.cells (il (List.replicate 19 0)).toArray 331)) r g h bs most s4:=
    (m4.keep ((Ch.refl _ w4).alloc _)).less (fun i hi=>by rcases hi with hi|hi;exact .inl hi;exact .inr ⟨by omega,by simp;omega⟩) (.inl Hkh.out)
   have hB0:=aG.new w4 331 (il (List.replicate 19 0)).toArray;have k40:=k4.alloc (.cells (il (List.replicate 19 0)).toArray 331);have h40:h<w4.heap.size:=by have:=k4.size;have:=Hlo.out h Hkh.out;omega
   have hw4:w.heap.size<=w4.heap.size:=k4.size;have HT0:Hid (rW K w4.heap.size w bs k s4 r g h most (.int .i64 0) (w4.alloc (.cells (il (List.replicate 19 0)).toArray 331))):=ah ⟨0,_,s4,by omega,rfl,by simp,hb0,hB0,k40,ah (by simp)⟩;clear hb0 hB0 k40 m4 k4;go_wp2_with fail;obtain ⟨b,hb⟩:∃b,w4.heap.size=b:=⟨_,rfl⟩;rw[hb]at HT0 h40 hw4;simp only[hb];go_loopw [39] (rW K b w bs k s4 r g h most) (fun i _=>k-(intOf i).toNat)
   case atStart=>exact HT0.out
   case round=>
    clear HT0;obtain ⟨w5,rfl⟩:∃w5:World,w5=wr:=⟨_,rfl⟩;obtain ⟨j,t,sj,hj,rfl,ht,mj,hB,kj,Hth⟩:=hrel;by_cases hlt:j<k
    ·have hix:=Nv j (by omega)
     have hi19:=Qe j
     have htd:eH bs (k-j) j t sj=eH bs (k-(j+1)) (j+1) (t.set (fM.getD j 0) ((aC bs 3 sj).1:Int)) (aC bs 3 sj).2:=by
      rw[show k-j=(k-(j+1))+1 by omega,eH]
     have Htd:=ah htd;clear htd;generalize fM.getD j 0=x at *;go_wp2_with fail;go_region_with (go_at_call 278;refine (JD mj.drew 3 (by omega)).mono ?_;rintro e w6 ⟨rfl,m6⟩;have hB6:=hB.drew.ch m6.2 (fun hn=>hn (.inr rfl));have hfr:=hB6.frozen x;have hcl:=(hB6.cell x).trans (FD t x ht hi19))
     all_goals go_wp2_with fail
     all_goals exact ⟨rW.next ht hlt m6 hB6 kj hw4 h40 Hth Htd,by simp[intOf];omega⟩
    ·have hjk:j=k:=by omega
     have hT:eH bs k 0 (List.replicate 19 0) s4=(t,sj):=by rw[Hth.out,hjk,Nat.sub_self];rfl
     rw[hT]at HG;clear hT Hth hjk;have d5:=mj.dG;by_cases he:sj.e=0
     ·rw[he]at d5
      have hR:Rd w5 (fun k=>k=b) 1 (some ⟨b,0,none⟩) 19 (il t):=by have:=hB.lC;rw[show (il t).length=19 by simp[il,ht]]at this;exact this
      have hL:aF bs s=z5q n (fP bs t (n+mm) (n+mm) [] (lW t sj)):=by rw[HG.out];unfold z38;rw[if_neg (by simp[he])]
      by_cases hz:dV t=0
      ·have hts:lW t sj=sj:=by unfold lW;rw[if_pos hz]
       rw[hts]at hL;have HL:=ah hL;have Hz:=ah hz;have He:=ah he;clear hL hz he hts HG;go_wp2_with fail;refine (z1r mj _ (some ⟨b,0,none⟩) 19 19 t hR ht Hz.out).mono ?_;rintro e w6 ⟨t3,rfl,⟨m6,k6⟩,ht3,n6⟩;have h5:=kj.size;have h6:=n6.size
       have V0:Hid (jG K w6.heap.size w w6 r g h bs most (fun k=>w5.heap.size<=k/\k<w6.heap.size) t3 t sj (.slice none 0 0) []):=ah
        ⟨by omega,Nat.le_refl _,Hkh.out,Hlo.out,World.ownsRow_nil _ _ _ _,(mj.keep n6).less (fun k hk=>by
          rcases hk with (hk|hk)|hk
          ·exact .inl (.inl hk)
          ·exact .inr hk
          ·cases hk) (.inl (.inl Hkh.out)),kj.tr n6,ht3,fun k hk=>⟨by omega,hk.2⟩⟩
       obtain ⟨Dt,hDt⟩:∃Dt:Nat->Prop,(fun k=>w5.heap.size<=k/\k<w6.heap.size)=Dt:=⟨_,rfl⟩;rw[hDt]at V0;obtain ⟨B,hBB⟩:∃B,w6.heap.size=B:=⟨_,rfl⟩;rw[hBB]at V0;clear hDt hBB m6 k6 ht3 n6 mj hB kj hR d5 h5 h6;go_wp2_with fail;go_loopw [10] (Len2 K B w r g h bs most Dt t3 t (n+mm) sj) (fun v _=>n+mm+139-lenV v)
       case atStart=>exact ⟨n+mm,[],sj,V0.out,Nat.zero_le _,fun _=>by simp,ah rfl⟩
       case round=>
        clear V0;obtain ⟨w7,rfl⟩:∃w7:World,w7=wr:=⟨_,rfl⟩;obtain ⟨f,l,s7,m7,hl7,hf7,H7⟩:=hrel;obtain ⟨A,c,rfl,hc1,hc2⟩:=z07 m7.own;have d7:=m7.dG;by_cases he7:s7.e=0
        ·rw[he7]at d7
         by_cases hlt:l.length<n+mm
         ·go_wp2_with fail
          refine (yX m7.inf Dt t3 t m7.tbl (fun k hk=>.inl (.inr hk))).mono ?_;rintro e w8 ⟨rfl,k8⟩;have m8:=m7.to k8;have hrg:=z2i (zs:=t) (bs:=bs) (s:=s7) (by omega);obtain ⟨f,rfl⟩:∃f',f=f'+1:=⟨f-1,by have:=hf7 he7;omega⟩;have hf7:=hf7 he7;generalize hq8:dB bs t s7=q8 at *;obtain ⟨x,s8⟩:=q8;simp only at hrg m8 ⊢;have Hq8:=ah hq8;have He7:=ah he7;have Hlt:=ah hlt;clear hq8 k8 m7 d7 he7 hlt;go_upto_block 4 with fail
          go_cut [12,13] (fun s12 s13 wx=>s8.e=0/\¬(x=16/\l=[])/\s12=.int .i64 (bK bs l x s8).1/\s13=.int .i64 ((bK bs l x s8).2.1:Int)/\jG K B w wx r g h bs most Dt t3 t (bK bs l x s8).2.2 (.slice A l.length c) l)
          case first=>
           have d8:=m8.dG;by_cases he8:s8.e=0
           ·rw[he8]at d8
            by_cases hx:x<16
            ·have ht1:bK bs l x s8=(x,1,s8):=by unfold bK;rw[if_pos hx]
             have Ht1:=ah ht1;have He8:=ah he8;clear ht1 he8;go_wp2_with fail;go_meet
             rw[Ht1.out];exact ⟨He8.out,fun hh=>by omega,rfl,rfl,m8⟩
            ·by_cases hx16:x=16
             ·subst hx16
              by_cases hl0:l=[]
              ·subst hl0
               have hL8:aF bs s=(([],[]),aJ 4 s8):=(by rw[HL.out,H7.out,Xc Hq8.out He7.out (by omega) he8,z2A (z1n (by decide))]);have HL8:=ah hL8;clear hL8 he8;go_wp2_with fail;refine (PN m8.inf 4).mono ?_;rintro e w9 ⟨rfl,k9⟩;have m9:=m8.to k9;clear k9;go_wp2_with fail;go_ret2;exact m9.out HL8.out
              ·have hl1:0<l.length:=List.length_pos_iff.2 hl0
               have hlb:((l.length:Int)==0)=false:=by rw[beq_eq_false_iff_ne];omega
               obtain ⟨q,hq⟩:∃q,l.length-1=q:=⟨_,rfl⟩;have hq2:(l.length:Int)-1=(q:Int):=(by omega);have hq3:q<l.length:=(by omega);have hq4:(q:Int)<(l.length:Int):=(by omega);have hq5:(0:Int)<=(q:Int):=(by omega);have hq6:IntKind.i64.wrap (q:Int)=(q:Int):=IntWalk.i64_in _ (by omega);obtain ⟨g2,cap,hv,_,_⟩:=m8.own.form hl1;injection hv with hA _ hcc;subst hA;subst hcc;have hcell:=KD m8.own hl1;rw[hq]at hcell;have ht1:bK bs l 16 s8=(l.getD q 0,3+(aC bs 2 s8).1,(aC bs 2 s8).2):=by unfold bK;rw[if_neg hx,if_pos rfl,hq]
               have Ht1:=ah ht1;have He8:=ah he8;have Hl0:=ah hl0;have Hq:=ah hq;have b9:=Ar bs 2 s8;have b9':(aC bs 2 s8).1<4:=b9;have hw9:IntKind.i64.wrap (3+((aC bs 2 s8).1:Int))=3+((aC bs 2 s8).1:Int):=IntWalk.i64_in _ (by omega);clear ht1 he8 hl0 hq;go_wp2_with fail
               go_region_held3 (fun w'=>w'.cell? ⟨g2,q,none⟩=some (.int .i64 (l.getD q 0))) (first|go_keep|exact f3) ((first
                |(go_at_call 278;refine (JD (m8.nx ((Ch.refl _ _).drew)).inf 2 (by omega)).mono ?_;rintro e w9 ⟨rfl,k9⟩;have m9:=(m8.nx ((Ch.refl _ _).drew)).to k9;have f3:=KD m9.own hl1;rw[Hq.out]at f3;clear k9)))
               all_goals go_wp2_with fail
               all_goals go_meet
               all_goals rw[Ht1.out]
               all_goals exact ⟨He8.out,fun hh=>Hl0.out hh.2,by simp[hq3],by simp,m9⟩
             ·have hxb:(x==16)=false:=by rw[beq_eq_false_iff_ne];exact hx16
              by_cases hx17:x=17
              ·have ht1:bK bs l x s8=(0,3+(aC bs 3 s8).1,(aC bs 3 s8).2):=by unfold bK;rw[if_neg hx,if_neg hx16,if_pos hx17]
               have Ht1:=ah ht1;have He8:=ah he8;have Hx16:=ah hx16;clear ht1 he8 hx16;subst hx17;have b9:=Ar bs 3 s8;have b9':(aC bs 3 s8).1<8:=b9;go_wp2_with fail;refine (JD m8.inf 3 (by omega)).mono ?_;rintro e w9 ⟨rfl,k9⟩;have m9:=m8.to k9;clear k9;go_wp2_with fail;go_meet
               rw[Ht1.out];exact ⟨He8.out,fun hh=>Hx16.out hh.1,rfl,by simp,m9⟩
              ·have ht1:bK bs l x s8=(0,11+(aC bs 7 s8).1,(aC bs 7 s8).2):=by unfold bK;rw[if_neg hx,if_neg hx16,if_neg hx17]
               have hxc:(x==17)=false:=by rw[beq_eq_false_iff_ne];exact hx17
               have Ht1:=ah ht1;have He8:=ah he8;have Hx16:=ah hx16;clear ht1 he8 hx16 hx17;have b9:=Ar bs 7 s8;have b9':(aC bs 7 s8).1<128:=b9;go_wp2_with fail;refine (JD m8.inf 7 (by omega)).mono ?_;rintro e w9 ⟨rfl,k9⟩;have m9:=m8.to k9;clear k9;go_wp2_with fail;go_meet
               rw[Ht1.out];exact ⟨He8.out,fun hh=>Hx16.out hh.1,rfl,by simp,m9⟩
           ·have he8':(s8.e !=0)=true:=by rw[bne_iff_ne];exact he8
            have hL8:aF bs s=(([],[]),s8):=(by rw[HL.out,H7.out,RN Hq8.out He7.out Hlt.out he8,z2A he8]);have HL8:=ah hL8;clear hL8 he8;go_wp2_with fail;go_ret2;exact m8.out HL8.out
          case rest=>
           obtain ⟨he8,hx16,rfl,rfl,m9⟩:=hcut
           have H9:fP bs t (n+mm) (n+mm) [] sj=fP bs t (n+mm) f (l++List.replicate (bK bs l x s8).2.1 (bK bs l x s8).1) (jd (n+mm) l (bK bs l x s8).2.1 (bK bs l x s8).2.2):=by
            rw[H7.out,Xb Hq8.out He7.out Hlt.out he8 hx16]
           have htm:=FC (bs:=bs) (l:=l) (x:=x) (s:=s8);clear hx16 he8 m8 Hq8 H7;have H9:=ah H9;generalize bK bs l x s8=q9 at *;obtain ⟨y,tm,s9⟩:=q9;simp only at m9 htm ⊢;obtain ⟨w9,rfl⟩:∃w9:World,w9=wc:=⟨_,rfl⟩;have d9:=m9.dG;have hlt:=Hlt.out;go_upto_region 28 with fail
           go_cut [123] (fun s123 wx=>s123=.bool (decide (s9.e=0/\n+mm<l.length+tm))/\wx=w9)
           case first=>
            by_cases he9:s9.e=0
            ·rw[he9]at d9
             by_cases hgt:n+mm<l.length+tm
             ·have hd:decide (s9.e=0/\n+mm<l.length+tm)=true:=by simp[he9,hgt]
              have hg2:(n:Int)+mm-l.length<tm:=(by omega);clear he9;go_wp2_with fail;go_meet
              exact ⟨by rw[hd],rfl⟩
             ·have hd:decide (s9.e=0/\n+mm<l.length+tm)=false:=by simp[hgt]
              have hg2:¬((n:Int)+mm-l.length<tm):=(by omega);clear he9;go_wp2_with fail;go_meet
              exact ⟨by rw[hd],rfl⟩
            ·have he9':(s9.e==0)=false:=by rw[beq_eq_false_iff_ne];exact he9
             have hd:decide (s9.e=0/\n+mm<l.length+tm)=false:=(by simp[he9]);clear he9;go_wp2_with fail;go_meet
             exact ⟨by rw[hd],rfl⟩
           case rest=>
            obtain ⟨rfl,rfl⟩:=hcut;go_upto_if 123 with fail
            go_cut [] (fun wx=>jG K B w wx r g h bs most Dt t3 t (jd (n+mm) l tm s9) (.slice A l.length c) l)
            case first=>
             by_cases hc:s9.e=0/\n+mm<l.length+tm
             ·have hd:decide (s9.e=0/\n+mm<l.length+tm)=true:=decide_eq_true hc
              have hs:jd (n+mm) l tm s9=aJ 4 s9:=by unfold jd;rw[if_pos hc]
              clear hc;rw[hd];clear hd;have Hs:=ah hs;clear hs;go_wp2_with fail;refine (PN m9.inf 4).mono ?_;rintro e w10 ⟨rfl,k10⟩;have m10:=m9.to k10;clear k10;go_wp2_with fail;go_meet
              rw[Hs.out];exact m10
             ·have hd:decide (s9.e=0/\n+mm<l.length+tm)=false:=decide_eq_false hc
              have hs:jd (n+mm) l tm s9=s9:=by unfold jd;rw[if_neg hc]
              clear hc;rw[hd];clear hd;have Hs:=ah hs;clear hs;go_wp2_with fail;go_meet
              rw[Hs.out];exact m9
            case rest=>
             have m10:=hcut;clear hcut d9 m9;generalize jd (n+mm) l tm s9=s10 at *;obtain ⟨w10,rfl⟩:∃w10:World,w10=wc:=⟨_,rfl⟩;go_wp2_with fail;go_loopw [10,127] (fun v i wr=>∃j:Nat,j<=tm/\i=.int .i64 j/\jG K B w wr r g h bs most Dt t3 t s10 v (l++List.replicate j y)) (fun _ i _=>tm-(intOf i).toNat)
             case atStart=>exact ⟨0,Nat.zero_le _,rfl,by simpa using m10⟩
             case round=>
              clear m10;obtain ⟨w11,rfl⟩:∃w11:World,w11=wr:=⟨_,rfl⟩;obtain ⟨i,hi,rfl,m11⟩:=hrel;obtain ⟨A2,c2,rfl,hc3,hc4⟩:=z07 m11.own;have hlen:(l++List.replicate i y).length=l.length+i:=(by simp);by_cases hit:i<tm
              ·have hsz:=m11.size
               have hrs:l++List.replicate (i+1) y=(l++List.replicate i y)++[y]:=(by rw[List.replicate_succ',List.append_assoc]);have Hrs:=ah hrs;clear hrs;have hll:(l++List.replicate i y).length<=1000:=(by omega);have Hlen:=ah hlen;clear hlen;generalize l++List.replicate i y=ls at *;go_wp2_with (at_builtin;refine z03 _ rfl (.tmp 129) (.tmp 131) _ rfl B 3 i0 _ 1 8 Tryz.underlying88 hi0 hz0 hz1 hz2 rfl (by omega) (.slice A2 ls.length c2) ls.length (il ls) rfl (m11.own.alloc _) (fun _=>True) (some ⟨w11.heap.size,0,none⟩) 1 1 [.int .i64 y] rfl ⟨rfl,fun _=>⟨⟨w11.heap.size,0,none⟩,rfl,trivial,cell_one_new _ _ _⟩⟩ (by intro u hu;simp at hu;subst hu;rfl) (by simp only[maxLen];omega) (by omega) (by simp;omega) ?_;intro v' w12 hown hg hat;have m12:=m11.app hown hg hat;clear hown hg hat)
               go_roundw
               case rel=>exact ⟨i+1,by omega,by go_num,by rw[Hrs.out];exact m12⟩
               case measure=>simp[intOf];omega
              ·have hit2:i=tm:=by omega
               subst hit2;go_wp2_with fail;go_roundw
               case rel=>exact ⟨f,l++List.replicate i y,s10,m11,by omega,fun _=>by omega,H9⟩
               case measure=>simp only[lenV];omega
         ·have hge:n+mm<=l.length:=by omega
          have hLL:aF bs s=((l.take n,l.drop n),tZ l s7):=by rw[HL.out,H7.out,z5p (.inr hge)];unfold z5q;rw[if_neg (by simp[he7])]
          have UQ:=ah hLL;have hl1:0<l.length:=(by omega);obtain ⟨g2,cap,hv,_,_⟩:=m7.own.form hl1;injection hv with hA _ hcc;subst hA;subst hcc;have hcell:=YM m7.own (show 256<l.length by omega);have h256:(256:Int)<(l.length:Int):=(by omega);have hnl:(n:Int)<=(l.length:Int):=(by omega);have hnc:(n:Int)<=(c:Int):=(by omega);have hlc:(l.length:Int)<=(c:Int):=(by omega);have hn0:(0:Int)<=(n:Int):=(by omega);obtain ⟨z,hzz⟩:∃z,l.getD 256 0=z:=⟨_,rfl⟩;rw[hzz]at hcell;by_cases hz6:z=0
          ·have hen:tZ l s7=aJ 4 s7:=by unfold tZ;rw[if_pos ⟨he7,by rw[hzz];exact hz6⟩]
           rw[hen]at UQ;rw[hz6]at hcell;clear hLL he7 hlt hz6 hen hzz hf7 H7 HL He Hz;go_wp2_with fail;refine (PN m7.inf 4).mono ?_;rintro e w8 ⟨rfl,k8⟩;have m8:=m7.to k8;clear k8;go_wp2_with fail;go_quiet (fail)
           go_wp2_with fail;go_ret2;exact m8.fin UQ.out (by omega) (by omega) _
          ·have hz7:(z==0)=false:=by rw[beq_eq_false_iff_ne];exact hz6
           have hen:tZ l s7=s7:=by unfold tZ;rw[if_neg (fun hh=>hz6 (by rw[←hzz];exact hh.2))]
           rw[hen]at UQ;clear hLL he7 hlt hz6 hen hzz hf7 H7 HL He Hz;go_wp2_with fail;go_quiet (fail)
           go_wp2_with fail;go_ret2;exact m7.fin UQ.out (by omega) (by omega) _
        ·have he7':(s7.e==0)=false:=by rw[beq_eq_false_iff_ne];exact he7
         have he7'':(s7.e !=0)=true:=by rw[bne_iff_ne];exact he7
         have hL7:aF bs s=(([],[]),s7):=(by rw[HL.out,H7.out,z5p (.inl he7),z2A he7]);have HL7:=ah hL7;clear hL7 he7 hf7 H7 HL;go_wp2_with fail;go_ret2;exact m7.out HL7.out
      ·have hts:lW t sj=aJ 4 sj:=by unfold lW;rw[if_neg hz]
       have hL2:aF bs s=(([],[]),aJ 4 sj):=(by rw[hL,hts,z5p (.inl (z1n (by decide))),z2A (z1n (by decide))]);have HL2:=ah hL2;have Hz:=ah hz;clear hL hL2 hts hz HG he;go_wp2_with fail;refine (z2C mj _ (some ⟨b,0,none⟩) 19 19 t hR ht (by omega) Hz.out).mono ?_;rintro e w6 ⟨rfl,m6,k6⟩;have hne:(aJ 4 sj).e≠0:=z1n (by decide);have kk6:Ch (fun k=>¬K k) w w6:=kj.trans k6 fun i _ hn hk=>hn (.inl hk);have d6:=m6.dG;generalize aJ 4 sj=s6 at *;have he6:(s6.e==0)=false:=by rw[beq_eq_false_iff_ne];exact hne
       have he6':(s6.e !=0)=true:=by rw[bne_iff_ne];exact hne
       clear hne k6 mj;go_wp2_with fail;refine wp_loop_rounds 1 ?_;rw[rounds_succ];go_wp2_with fail;go_ret2;rw[HL2.out];exact ⟨none,0,none,0,fun _=>False,rfl,m6.less (fun k hk=>by rcases hk with hk|hk;exact .inl hk;exact hk.elim) (.inl Hkh.out),kk6,fun _ hf=>hf.elim,Rd.none_ _ _ _ _,Rd.none_ _ _ _ _⟩
     ·have he':(sj.e !=0)=true:=by rw[bne_iff_ne];exact he
      have hL:aF bs s=(([],[]),sj):=by rw[HG.out];unfold z38;rw[if_pos he]
      have HL:=ah hL;clear hL he HG;go_wp2_with fail;go_ret2;rw[HL.out];exact ⟨none,0,none,0,fun _=>False,rfl,mj.less (fun k hk=>by rcases hk with hk|hk;exact .inl hk;exact hk.elim) (.inl Hkh.out),kj,fun _ hf=>hf.elim,Rd.none_ _ _ _ _,Rd.none_ _ _ _ _⟩
theorem ady:aeB:=Dj
end
section
variable {W : World} {bs : List Nat} {most : Int}
theorem Dh (A:Option Addr) (n c:Nat) (hm:most<0):Calls Tryz.prog 242 #[.slice A n c,.int .i64 most] W (Ez W bs most):=by
 have hF:Ah bs most=([],0,1):=by unfold Ah;rw[if_pos (.inl hm)]
 have HF:=ah hF;clear hF;go_enter Tryz.func242,Tryz.ntmps242;go_wp2_with fail;refine bodyPost_ret (v:=.tuple #[.slice none 0 0,.int .i64 0,.int .i64 1]) (by simp[results,Tryz.results242,go_sem]) rfl ?_;unfold Ez;rw[HF.out];exact ⟨.slice none 0 0,rfl,World.ownsRow_nil _ _ _ _,Ch.refl _ _,by intro x hx;cases hx⟩
theorem Ns (D:Nat->Prop) (A:Option Addr) (c:Nat) (hb:Rd W D 1 A bs.length (bl bs)) (hk:okB bs) (hl:bs.length<=140737488355328) (hm:most<=65536):
 Calls Tryz.prog 242 #[.slice A bs.length c,.int .i64 most] W (Ez W bs most):=by
 by_cases h0:most<0
 ·exact Dh A bs.length c h0
 ·exact Di ady D A c hb hk hl (by omega) hm
end
end Go.Proofs.YtpakjclpjcngmaaGreat
namespace Go.Proofs.YtpakjclpjcngmaaGreat
section
variable {bs : List Nat} {most : Int} {s : Inf}
end
section
variable {bs b2 : List Nat} {most m2 : Int} {s t : Inf}
theorem z44 {n:Int} {s:Inf} (he:s.e=0) (h:(s.out.length:Int)+n<=most):aP most n s=s:=by
 unfold aP;rw[if_neg (by omega)]
end
theorem DN {α:Type} {l:List α} {i:Nat} {x d:α} (h:l[i]?=some x):l.getD i d=x:=by simp[List.getD,h]
theorem Yg {zs:List Int} {s:Nat} (hs:s<zs.length) (h0:0<zs[s]) (h15:zs[s]<=15) {n:Nat} (hn:n<dR zs s):dA zs n<dA zs 15:=by
 have hle:=z5s hs (by omega);have hr:=yI hs (by omega);have h1:=z3R zs n (dR zs s-1-n);have h2:=z3R zs (dR zs s) (15-dR zs s);rw[show n+(dR zs s-1-n)=dR zs s-1 by omega]at h1;rw[show dR zs s+(15-dR zs s)=15 by omega]at h2
 have e:dA zs (dR zs s)=dA zs (dR zs s-1)+cnt zs (dR zs s):=by
  obtain ⟨m,hm⟩:∃m,dR zs s=m+1:=⟨dR zs s-1,by omega⟩;rw[hm];rfl
 omega
theorem vZ {zs:List Int} {bs:List Nat} {p s:Nat} (hs:s<zs.length) (h0:0<zs[s]) (h15:zs[s]<=15) (hw:msb (oM bs p) (dR zs s)=iR zs s) (hp:p+dR zs s<=8 * bs.length):
 dK zs bs p 15 0=((s:Int),0,p+dR zs s):=by
 have hle:=z5s hs (by omega)
 have key:∀k n,n+k=15->n<dR zs s->dK zs bs p k n=((s:Int),0,p+dR zs s):=by
  intro k;induction k with
  |zero=>intro n hn h;omega
  |succ k ih=>
   intro n hn h;have h1:=Yg hs h0 h15 h;unfold dK;rw[if_neg (by omega),if_neg (by omega)];by_cases hl:n+1=dR zs s
   ·have hr:=yI hs (by omega)
    have hg:=pR zs s hs h0 h15;have hc:iR zs s=2 * bT zs n+rank zs (n+1) s:=by unfold iR;rw[←hl,Nat.add_sub_cancel]
    rw[←hl]at hr hg hw ⊢;rw[hw,if_pos (by omega),hc,Nat.add_sub_cancel_left,DN (by simpa using hg)];rfl
   ·have hpa:=QU hs h0 (z5U bs p) hw (n:=n+1) (by omega)
    unfold Past at hpa;simp only[bT]at hpa;rw[if_neg (by omega)];exact ih (n+1) (by omega) (by omega)
 exact key 15 0 rfl (by omega)
theorem Rz {f:Nat->Nat} {v n:Nat} (h:∀i,i<n->f i=xu (v.testBit (n-1-i))):∀k,k<=n->msb f k=v / 2 ^ (n-k) % 2 ^ k:=by
 intro k;induction k with
 |zero=>intro _;simp[msb,Nat.mod_one]
 |succ k ih=>
  intro hk;simp only[msb];rw[ih (by omega),h k (by omega),Nat.testBit_eq_decide_div_mod_eq,zJ]
  have e1:v / 2 ^ (n-k)=v / 2 ^ (n-(k+1)) / 2:=by
   rw[Nat.div_div_eq_div_mul,←Nat.pow_succ];congr 2
   omega
  rw[e1,show n-1-k=n-(k+1) by omega,Nat.pow_succ,Nat.mul_comm (2 ^ k) 2,Nat.mod_mul];omega
end Go.Proofs.YtpakjclpjcngmaaGreat
namespace Go.Proofs.YtpakjclpjcngmaaGreat.Fix
theorem z5P (L:List Bool) (p:Nat) (n:Nat) (v:Nat) (h:∀i,i<n->L.getD (p+i) false=v.testBit i):dS (pack L) p n=v % 2 ^ n:=by
 induction n with
 |zero=>simp[dS,Nat.mod_one]
 |succ n ih=>
  simp only[dS];rw[ih (fun i hi=>h i (by omega)),z4f,h n (by omega),Nat.testBit_eq_decide_div_mod_eq,zJ,Nat.mod_pow_succ,Nat.mul_comm]
theorem DR (a b c:List Bool) (i:Nat) (hi:i<b.length):(a++b++c).getD (a.length+i) false=b.getD i false:=by
 simp only[List.getD];rw[List.append_assoc,List.getElem?_append_right (by omega),show a.length+i-a.length=i by omega,List.getElem?_append_left hi]
theorem uz (v n i:Nat) (hi:i<n):(sJ v n).getD i false=v.testBit (n-1-i):=by
 rw[uy];simp[List.getD,hi]
theorem BU {V n:Nat} {L:List Bool} {P:Nat} {a c:List Bool} (hL:L=a++sJ V n++c) (hP:P=a.length) (hc:V<2 ^ n):msb (oM (pack L) P) n=V:=by
 have h:∀i,i<n->oM (pack L) P i=xu (V.testBit (n-1-i)):=by
  intro i hi;unfold oM;rw[z4f,hL,hP,DR _ _ _ _ (by rw[Pq];exact hi),uz _ _ _ hi]
 rw[Rz h _ (Nat.le_refl _),Nat.sub_self,Nat.pow_zero,Nat.div_one];exact Nat.mod_eq_of_lt hc
theorem qQ:mQ.length=288:=by decide+kernel
theorem Iu {x:Nat} (h:x<288):∃hx:x<mQ.length,0<mQ[x]/\mQ[x]<=15:=by
 refine ⟨by rw[qQ];exact h,?_⟩;have e:mQ[x]'(by rw[qQ];exact h)=if x<144∨279<x then 8 else if x<256 then 9 else 7:=by simp[mQ]
 rw[e];split
 ·omega
 ·split<;>omega
theorem V_ {L a c:List Bool} {x V n P:Nat} {out:List Nat} (hx:x<288) (hw:iR mQ x=V) (hn:dR mQ x=n) (hV:V<2 ^ n) (hL:L=a++sJ V n++c) (hP:P=a.length):
 dB (pack L) mQ ⟨P,out,0⟩=((x:Int),⟨P+n,out,0⟩):=by
 obtain ⟨hxl,h0,h15⟩:=Iu hx;have hlen:P+n<=L.length:=by rw[hL,hP];simp only[List.length_append,Pq];omega
 have h:=vZ (zs:=mQ) (bs:=pack L) (p:=P) hxl h0 h15 (by rw[hn,hw];exact BU hL hP hV) (by rw[hn,E_];omega);unfold dB;rw[if_neg (by simp)];simp only;rw[h,hn]
theorem qC {bs:List Nat} {n p v:Nat} {out:List Nat} (h:p+n<=8 * bs.length) (hv:dS bs p n=v):aC bs n ⟨p,out,0⟩=(v,⟨p+n,out,0⟩):=by
 unfold aC;rw[if_neg (by simp),if_pos h,hv]
theorem yO (v n i:Nat) (hi:i<n):(lV v n).getD i false=v.testBit i:=by
 rw[yM];simp[List.getD,hi]
theorem wC:∀s,s<288->iR mQ s=CQ s/\dR mQ s=tK s:=by decide+kernel
theorem IE:∀s,s<32->iR sD s=s/\dR sD s=5:=by decide+kernel
theorem W_ {s:Nat} (h:s<288):CQ s<2 ^ tK s:=by
 unfold CQ tK;by_cases h1:s<144
 ·rw[if_pos h1,if_pos h1];omega
 ·rw[if_neg h1,if_neg h1]
  by_cases h2:s<256
  ·rw[if_pos h2,if_pos h2];omega
  ·rw[if_neg h2,if_neg h2]
   by_cases h3:s<280
   ·rw[if_pos h3,if_pos h3];omega
   ·rw[if_neg h3,if_neg h3];omega
theorem z52 {L a c:List Bool} {s P:Nat} {out:List Nat} (hs:s<288) (hL:L=a++jc s++c) (hP:P=a.length):
 dB (pack L) mQ ⟨P,out,0⟩=((s:Int),⟨P+(jc s).length,out,0⟩):=by
 have h:=V_ (out:=out) hs (wC s hs).1 (wC s hs).2 (W_ hs) hL hP;rw[h];unfold jc;rw[Pq]
theorem Iw {x:Nat} (h:x<32):∃hx:x<sD.length,0<sD[x]/\sD[x]<=15:=by
 have hl:sD.length=32:=List.length_replicate ..;have e:sD[x]'(by rw[hl];exact h)=5:=List.getElem_replicate ..;exact ⟨by rw[hl];exact h,by rw[e];omega⟩
theorem Bd {L a c:List Bool} {s P:Nat} {out:List Nat} (hs:s<32) (hL:L=a++sJ s 5++c) (hP:P=a.length):
 dB (pack L) sD ⟨P,out,0⟩=((s:Int),⟨P+5,out,0⟩):=by
 obtain ⟨hxl,h0,h15⟩:=Iw hs;have hlen:P+5<=L.length:=by rw[hL,hP];simp only[List.length_append,Pq];omega
 obtain ⟨hw,hn⟩:=IE s hs;have h:=vZ (zs:=sD) (bs:=pack L) (p:=P) hxl h0 h15 (by rw[hn,hw];exact BU hL hP (by omega)) (by rw[hn,E_];omega);unfold dB;rw[if_neg (by simp)];simp only;rw[h,hn]
theorem Kw {L a c:List Bool} {m n P:Nat} {out:List Nat} (hL:L=a++lV m n++c) (hP:P=a.length):aC (pack L) n ⟨P,out,0⟩=(m % 2 ^ n,⟨P+n,out,0⟩):=by
 have hlen:P+n<=L.length:=by rw[hL,hP];simp only[List.length_append,Vj];omega
 have hv:dS (pack L) P n=m % 2 ^ n:=z5P L P n m fun i hi=>by
  rw[hL,hP,DR _ _ _ _ (by rw[Vj];exact hi),yO _ _ _ hi]
 exact qC (by rw[E_];omega) hv
theorem Qa {b m:Nat}:∀f x,(nR b m f x=x∨(x<nR b m f x/\b * 2 ^ (nR b m f x-1)<=m))/\(nR b m f x<x+f->m<b * 2 ^ nR b m f x):=by
 intro f;induction f with
 |zero=>intro x;exact ⟨.inl rfl,fun h=>by simp only[nR]at h;omega⟩
 |succ f ih=>
  intro x;unfold nR;by_cases h:b * 2 ^ x<=m
  ·rw[if_pos h]
   obtain ⟨h1,h2⟩:=ih (x+1);refine ⟨.inr ?_,fun hl=>h2 (by omega)⟩;rcases h1 with h1|h1
   ·rw[h1];exact ⟨by omega,by simpa using h⟩
   ·exact ⟨by omega,h1.2⟩
  ·rw[if_neg h]
   exact ⟨.inl rfl,fun _=>by omega⟩
theorem Np:∀m,m<255->8<=m->1<=jI m/\jI m<=5/\4<=m / 2 ^ jI m/\m / 2 ^ jI m<8:=by decide+kernel
theorem IG {e:Nat} (h2:2<=e) (h:e<32768):iG e<=13/\2<=e / 2 ^ iG e/\e / 2 ^ iG e<4:=by
 obtain ⟨h1,h3⟩:=Qa (b:=4) (m:=e) 20 0;have hx:iG e=nR 4 e 20 0:=rfl;rw[←hx]at h1 h3;generalize iG e=x at *
 have hx13:x<=13:=by
  rcases h1 with h1|⟨_,h1⟩
  ·omega
  ·rcases Nat.lt_or_ge 13 x with h5|h5
   ·have:=Nat.pow_le_pow_right (show 0<2 by omega) (show 13<=x-1 by omega)
    omega
   ·exact h5
 have hlt:=h3 (by omega);have hp:0<2 ^ x:=Nat.two_pow_pos x;refine ⟨hx13,?_,Nat.div_lt_of_lt_mul (by rw[Nat.mul_comm];exact hlt)⟩;rw[Nat.le_div_iff_mul_le hp];rcases h1 with h1|⟨h0,h1⟩
 ·rw[h1];omega
 ·have:2 ^ x=2 * 2 ^ (x-1):=by rw[←Nat.pow_succ',show (x-1).succ=x by omega]
  omega
theorem Xd {L a c:List Bool} {n P:Nat} {out:List Nat} (h3:3<=n) (h258:n<=258) (hL:L=a++nO n++c) (hP:P=a.length):
 ∃(k:Nat) (s1:Inf),k<=28/\dB (pack L) mQ ⟨P,out,0⟩=(((257+k:Nat):Int),s1)/\s1.e=0/\bV (pack L) k s1=(n,⟨P+(nO n).length,out,0⟩):=by
 unfold nO at hL ⊢;by_cases e1:n=258
 ·rw[if_pos e1]at hL ⊢
  refine ⟨28,_,by omega,z52 (by omega) hL hP,rfl,?_⟩;unfold bV;rw[if_neg (by omega),if_pos rfl,e1]
 ·rw[if_neg e1]at hL ⊢
  by_cases e2:n<11
  ·rw[if_pos e2]at hL ⊢
   refine ⟨n-3,⟨P+(jc (254+n)).length,out,0⟩,by omega,?_,rfl,?_⟩
   ·have h:=z52 (s:=254+n) (out:=out) (by omega) hL hP
    rw[show 257+(n-3)=254+n by omega];exact h
   ·unfold bV
    rw[if_pos (by omega),show n-3+3=n by omega]
  ·rw[if_neg e2]at hL ⊢
   obtain ⟨m,hm⟩:∃m,n-3=m:=⟨_,rfl⟩;rw[hm]at hL ⊢;obtain ⟨x1,x2,x3,x4⟩:=Np m (by omega) (by omega);have hdm:=Nat.div_add_mod m (2 ^ jI m);generalize jI m=x at *;generalize hq:m / 2 ^ x=q at *;have hL1:L=a++jc (257+4 * x+q)++(lV m x++c):=by rw[hL];simp only[List.append_assoc]
   have hL2:L=(a++jc (257+4 * x+q))++lV m x++c:=by rw[hL];simp only[List.append_assoc]
   refine ⟨4 * x+q,⟨P+(jc (257+4 * x+q)).length,out,0⟩,by omega,?_,rfl,?_⟩
   ·have h:=z52 (s:=257+4 * x+q) (out:=out) (by omega) hL1 hP
    rw[show 257+(4 * x+q)=257+4 * x+q by omega];exact h
   ·have hk1:(4 * x+q) % 4=q-4:=by omega
    have hk2:(4 * x+q) / 4-1=x:=(by omega);unfold bV;rw[if_neg (by omega),if_neg (by omega),hk1,hk2,Kw hL2 (by rw[List.length_append,hP])];simp only[List.length_append,Vj,←Nat.add_assoc];rw[show 4+(q-4)=q by omega,Nat.mul_comm q,Nat.add_assoc 3,hdm,show 3+m=n by omega]
theorem TI {L a c:List Bool} {e P:Nat} {out:List Nat} (he:e<32768) (hL:L=a++AP e++c) (hP:P=a.length):
 ∃(k:Nat) (s1:Inf),k<=29/\dB (pack L) sD ⟨P,out,0⟩=((k:Int),s1)/\s1.e=0/\fQ (pack L) k s1=(e+1,⟨P+(AP e).length,out,0⟩):=by
 unfold AP at hL ⊢;by_cases e1:e<2
 ·rw[if_pos e1]at hL ⊢
  refine ⟨e,_,by omega,Bd (by omega) hL hP,rfl,?_⟩;unfold fQ;rw[if_pos e1,Pq]
 ·rw[if_neg e1]at hL ⊢
  obtain ⟨x1,x2,x3⟩:=IG (by omega) he;have hdm:=Nat.div_add_mod e (2 ^ iG e);generalize iG e=x at *;generalize hq:e / 2 ^ x=q at *;have hL1:L=a++sJ (2 * x+q) 5++(lV e x++c):=by rw[hL];simp only[List.append_assoc]
  have hL2:L=(a++sJ (2 * x+q) 5)++lV e x++c:=by rw[hL];simp only[List.append_assoc]
  refine ⟨2 * x+q,_,by omega,Bd (by omega) hL1 hP,rfl,?_⟩;have hk1:(2 * x+q) % 2=q-2:=by omega
  have hk2:(2 * x+q) / 2-1=x:=by omega
  unfold fQ;rw[if_neg (by omega),hk1,hk2,Kw hL2 (by rw[List.length_append,hP,Pq])];simp only[List.length_append,Vj,Pq,←Nat.add_assoc];rw[show 2+(q-2)=q by omega,Nat.mul_comm q,Nat.add_assoc 1,hdm,Nat.add_comm 1 e]
end Go.Proofs.YtpakjclpjcngmaaGreat.Fix
namespace Go.Proofs.YtpakjclpjcngmaaGreat
theorem z5Q (bs:List Nat) (P:Nat):∀(k i:Nat),i+k<=8->dS bs (8 * P+i) k=bs.getD P 0 / 2 ^ i % 2 ^ k:=by
 intro k;induction k with
 |zero=>intro i _;simp[dS,Nat.mod_one]
 |succ k ih=>
  intro i h;rw[dS,ih i (by omega)];have e1:(8 * P+i+k) / 8=P:=(by omega);have e2:(8 * P+i+k) % 8=i+k:=(by omega);unfold je;rw[e1,e2,Nat.mod_pow_succ,Nat.pow_add,←Nat.div_div_eq_div_mul,Nat.mul_comm]
theorem z4e (bs:List Nat) (P:Nat) (h:bs.getD P 0<256):dS bs (8 * P) 8=bs.getD P 0:=by
 have:=z5Q bs P 8 0 (by omega);simp only[Nat.add_zero,Nat.pow_zero,Nat.div_one]at this;rw[this];exact Nat.mod_eq_of_lt h
theorem Eo (bs:List Nat) (P:Nat) (h:bs.getD P 0<256) (h2:bs.getD (P+1) 0<256):dS bs (8 * P) 16=bs.getD P 0+256 * bs.getD (P+1) 0:=by
 rw[show (16:Nat)=8+8 from rfl,Uf,z4e bs P h,show 8 * P+8=8 * (P+1) by omega,z4e bs (P+1) h2]
theorem z2P {bs:List Nat} {n p:Nat} {out:List Nat} (h:p+n<=8 * bs.length):aC bs n ⟨p,out,0⟩=(dS bs p n,⟨p+n,out,0⟩):=by
 unfold aC;rw[if_neg (by simp),if_pos h]
theorem z57 {bs:List Nat} {q:List Nat} (hq:okB q):∀(k P:Nat) (out:List Nat),k<=q.length->P+k<=bs.length->(∀j,j<k->bs.getD (P+j) 0=q.getD (q.length-k+j) 0)->
 uK bs k ⟨8 * P,out,0⟩=⟨8 * (P+k),out++q.drop (q.length-k),0⟩:=by
 intro k;induction k with
 |zero=>intro P out _ _ _;simp[uK]
 |succ k ih=>
  intro P out hk hP h;have h0:=h 0 (by omega);simp only[Nat.add_zero]at h0;have hlt:q.length-(k+1)<q.length:=(by omega);have hget:q.getD (q.length-(k+1)) 0=q[q.length-(k+1)]:=(by simp[List.getD,List.getElem?_eq_getElem hlt]);have h1:bs.getD P 0<256:=by rw[h0,hget];exact hq _ (List.getElem_mem hlt)
  unfold uK;rw[z2P (by omega),z4e bs P h1];simp only[ne_eq,not_true_eq_false,if_false]
  have h2:=ih (P+1) (out++[bs.getD P 0]) (by omega) (by omega) (fun j hj=>by
   have:=h (j+1) (by omega);rw[show P+1+j=P+(j+1) by omega,this,show q.length-(k+1)+(j+1)=q.length-k+j by omega])
  rw[show 8 * P+8=8 * (P+1) by omega,h2,show P+1+k=P+(k+1) by omega];congr 1
  rw[h0,hget,List.append_assoc,List.singleton_append,show q.length-k=q.length-(k+1)+1 by omega,←List.drop_eq_getElem_cons hlt]
end Go.Proofs.YtpakjclpjcngmaaGreat
