/- Contracts and plain laws that the last text rests on. Conditions: each theorem states its own. -/
import Derived.Test.YtfljcllpmbnjaaaGreatKdQ14
import Derived.Test.YtfljcllpmbnjaaaGreatKdPdInfW
import Derived.Deep.CutBlock
set_option maxRecDepth 100000
set_option maxHeartbeats 8000000
set_option linter.unusedVariables false
namespace Go.Proofs.YtfljcllpmbnjaaaGreat
open Go.RowKit
def z56 (n:Nat) (l:List Int×Inf):(List Int×List Int)×Inf:=if l.2.e≠0 then (([],[]),l.2) else ((l.1.take n,l.1.drop n),qL l.1 l.2)
def z37 (bs:List Nat) (n m:Nat) (t:List Int×Inf):(List Int×List Int)×Inf:=
 if t.2.e≠0 then (([],[]),t.2) else z56 n (eF bs t.1 (n+m) (n+m) [] (jq t.1 t.2))
theorem nN (bs:List Nat) (n m k:Nat) (s:Inf):Vq bs n m k s=z37 bs n m (dP bs k 0 (List.replicate 19 0) (if s.e=0/\(286<n∨30<m) then aN 4 s else s)):=rfl
def oU (K:Nat->Prop) (b:Nat) (w:World) (bs:List Nat) (k:Nat) (s4:Inf) (r g h:Nat) (most:Int) (i:Value) (wr:World):Prop:=
 ∃(j:Nat) (t:List Int) (sj:Inf),j<=k/\i=.int .i64 j/\t.length=19/\bJ (fun i=>K i∨i=b) wr r g h bs most sj/\dD wr b 186 (il t).toArray/\Ch (fun k=>¬K k) w wr/\
  Hid (dP bs k 0 (List.replicate 19 0) s4=dP bs (k-j) j t sj)
theorem sO (j:Nat) (hj:j<19) (W:World):Sem.run Tryz.prog (Instr.index 186 (.agg #[.int .i64 16,.int .i64 17,.int .i64 18,.int .i64 0,.int .i64 8,.int .i64 7,.int .i64 9,.int .i64 6,.int .i64 10,.int .i64 5,.int .i64 11,.int .i64 4,.int .i64 12,.int .i64 3,.int .i64 13,.int .i64 2,.int .i64 14,.int .i64 1,.int .i64 15]) (.int .i64 (j:Int))) W=.ok (.int .i64 ((dU.getD j 0:Nat):Int)) W:=by
 have h:j=0∨j=1∨j=2∨j=3∨j=4∨j=5∨j=6∨j=7∨j=8∨j=9∨j=10∨j=11∨j=12∨j=13∨j=14∨j=15∨j=16∨j=17∨j=18:=by omega
 rcases h with rfl|rfl|rfl|rfl|rfl|rfl|rfl|rfl|rfl|rfl|rfl|rfl|rfl|rfl|rfl|rfl|rfl|rfl|rfl<;>rfl
theorem xM (j:Nat):dU.getD j 0<19:=by
 by_cases hj:j<19
 ·have h:j=0∨j=1∨j=2∨j=3∨j=4∨j=5∨j=6∨j=7∨j=8∨j=9∨j=10∨j=11∨j=12∨j=13∨j=14∨j=15∨j=16∨j=17∨j=18:=by omega
  rcases h with rfl|rfl|rfl|rfl|rfl|rfl|rfl|rfl|rfl|rfl|rfl|rfl|rfl|rfl|rfl|rfl|rfl|rfl|rfl<;>decide
 ·have h:dU.getD j 0=0:=by
   rw[List.getD_eq_getElem?_getD,List.getElem?_eq_none (by simp[dU];omega)];rfl
  omega
theorem BA (t:List Int) (x:Nat) (ht:t.length=19) (hx:x<19):(il t).toArray[x]?=some (.int .i64 (t.getD x 0)):=by
 simp[il,List.getD_eq_getElem?_getD,List.getElem?_eq_getElem (show x<t.length by omega)]
theorem dD.fM {w:World} {b:Nat} {ty:TypeId} {xs:List Value} (h:dD w b ty xs.toArray):Rd w (fun k=>k=b) 1 (some ⟨b,0,none⟩) xs.length xs:=
 ⟨by simp,fun _=>⟨⟨b,0,none⟩,rfl,rfl,fun j u hu=>by
   have e:Addr.add ⟨b,0,none⟩ j=⟨b,j,none⟩:=by
    unfold Addr.add;by_cases hj:j=0
    ·rw[if_pos hj,hj]
    ·rw[if_neg hj];simp
   rw[e,h.cell];simpa using hu⟩⟩
def lenV:Value->Nat
 | .slice _ n _=>n
 |_=>0
def Len2 (K:Nat->Prop) (B:Nat) (w:World) (r g h:Nat) (bs:List Nat) (most:Int) (Dt:Nat->Prop) (t3:Nat) (t:List Int) (nm:Nat) (sj:Inf) (v:Value) (wr:World):Prop:=
 ∃(f:Nat) (l:List Int) (s':Inf),iI K B w wr r g h bs most Dt t3 t s' v l/\l.length<=nm+138/\(s'.e=0->nm<=f+l.length)/\Hid (eF bs t nm nm [] sj=eF bs t nm f l s')
theorem LD {bs:List Nat} {zt:List Int} {nm k:Nat} {l:List Int} {s s8:Inf} {x:Int} (hq:cO bs zt s=(x,s8)) (he:s.e=0) (hl:l.length<nm) (h2:s8.e≠0):eF bs zt nm (k+1) l s=(l,s8):=by
 rw[eF,if_neg (by simp[he];omega),hq,if_pos h2]
theorem PN {bs:List Nat} {zt:List Int} {nm k:Nat} {s s8:Inf} (hq:cO bs zt s=(16,s8)) (he:s.e=0) (hl:0<nm) (h2:s8.e=0):eF bs zt nm (k+1) [] s=([],aN 4 s8):=by
 rw[eF,if_neg (by simp[he];omega),hq,if_neg (by simp[h2]),if_pos ⟨rfl,rfl⟩]
theorem PL {bs:List Nat} {zt:List Int} {nm k:Nat} {l:List Int} {s s8:Inf} {x:Int} (hq:cO bs zt s=(x,s8)) (he:s.e=0) (hl:l.length<nm) (h2:s8.e=0) (h3:¬(x=16/\l=[])):
 eF bs zt nm (k+1) l s=eF bs zt nm k (l++List.replicate (bV bs l x s8).2.1 (bV bs l x s8).1) (gV nm l (bV bs l x s8).2.1 (bV bs l x s8).2.2):=by
 rw[eF,if_neg (by simp[he];omega),hq,if_neg (by simp[h2]),if_neg h3]
theorem Yj {n:Nat} {l:List Int} {s:Inf} (h:s.e≠0):z56 n (l,s)=(([],[]),s):=by unfold z56;rw[if_pos h]
theorem iI.out {K:Nat->Prop} {B:Nat} {w w':World} {r g h:Nat} {bs:List Nat} {most:Int} {Dt:Nat->Prop} {t3:Nat} {zt:List Int} {s8 s:Inf} {v:Value} {l:List Int} (m:iI K B w w' r g h bs most Dt t3 zt s8 v l) (hL:aH bs s=(([],[]),s8)):
 ∃A1 c1 A2 c2,∃D:Nat->Prop,Ending.returned (.tuple #[.slice none 0 0,.slice none 0 0])=.returned (.tuple #[.slice A1 (aH bs s).1.1.length c1,.slice A2 (aH bs s).1.2.length c2])/\bJ (fun k=>K k∨D k) w' r g h bs most (aH bs s).2/\Ch (fun k=>¬K k) w w'/\(∀k,D k->w.heap.size<=k)/\
  Rd w' D 1 A1 (aH bs s).1.1.length (il (aH bs s).1.1)/\Rd w' D 1 A2 (aH bs s).1.2.length (il (aH bs s).1.2):=by
 rw[hL];exact ⟨none,0,none,0,fun _=>False,rfl,m.inf.less (fun k hk=>by rcases hk with hk|hk;exact .inl (.inl hk);exact hk.elim) (.inl m.kh),m.ch,fun _ hf=>hf.elim,Rd.none_ _ _ _ _,Rd.none_ _ _ _ _⟩
theorem Fg {w:World} {B g c:Nat} {l:List Int} (h:w.ownsRow B 3 1 (.slice (some ⟨g,0,none⟩) l.length c) l.length (il l)) (hl:0<l.length):w.cell? ⟨g,l.length-1,none⟩=some (.int .i64 (l.getD (l.length-1) 0)):=by
 have hu:(il l)[l.length-1]?=some (.int .i64 (l.getD (l.length-1) 0)):=by
  simp[il,List.getD_eq_getElem?_getD,List.getElem?_eq_getElem (show l.length-1<l.length by omega)]
 have:=h.cells (g:=g) rfl _ _ hu
 have e:Addr.add ⟨g,0,none⟩ (l.length-1)=⟨g,l.length-1,none⟩:=by
  unfold Addr.add;by_cases hj:l.length-1=0
  ·rw[if_pos hj,hj]
  ·rw[if_neg hj];simp
 rw[e]at this;exact this
theorem Bz {bs:List Nat} {l:List Int} {x:Int} {s:Inf}:1<=(bV bs l x s).2.1/\(bV bs l x s).2.1<=138:=by
 have h2:(aA bs 2 s).1<4:=z17 bs 2 s;have h3:(aA bs 3 s).1<8:=z17 bs 3 s;have h7:(aA bs 7 s).1<128:=z17 bs 7 s;unfold bV;split
 ·exact ⟨Nat.le_refl _,by simp only;omega⟩
 ·split
  ·exact ⟨by simp only;omega,by simp only;omega⟩
  ·split
   ·exact ⟨by simp only;omega,by simp only;omega⟩
   ·exact ⟨by simp only;omega,by simp only;omega⟩
theorem z55 {bs:List Nat} {zt:List Int} {nm:Nat} {l:List Int} {s:Inf} (h:s.e≠0∨nm<=l.length):∀{k:Nat},eF bs zt nm k l s=(l,s):=by
 intro k;cases k with
 |zero=>rfl
 |succ k=>rw[eF,if_pos h]
theorem zq {w:World} {B g c q:Nat} {l:List Int} (h:w.ownsRow B 3 1 (.slice (some ⟨g,0,none⟩) l.length c) l.length (il l)) (hl:q<l.length):w.cell? ⟨g,q,none⟩=some (.int .i64 (l.getD q 0)):=by
 have hu:(il l)[q]?=some (.int .i64 (l.getD q 0)):=by
  simp[il,List.getD_eq_getElem?_getD,List.getElem?_eq_getElem hl]
 have:=h.cells (g:=g) rfl _ _ hu
 have e:Addr.add ⟨g,0,none⟩ q=⟨g,q,none⟩:=by
  unfold Addr.add;by_cases hj:q=0
  ·rw[if_pos hj,hj]
  ·rw[if_neg hj];simp
 rw[e]at this;exact this
theorem iI.fin {K:Nat->Prop} {B:Nat} {w w':World} {r g h:Nat} {bs:List Nat} {most:Int} {Dt:Nat->Prop} {t3:Nat} {zt:List Int} {s8 s:Inf} {g2 c:Nat} {l:List Int} {n:Nat} (m:iI K B w w' r g h bs most Dt t3 zt s8 (.slice (some ⟨g2,0,none⟩) l.length c) l) (hL:aH bs s=((l.take n,l.drop n),s8)) (hn0:0<n) (hn:n<=l.length) (k:Nat):
 ∃A1 c1 A2 c2,∃D:Nat->Prop,Ending.returned (.tuple #[.slice (some ⟨g2,0,none⟩) n c,.slice (some ⟨g2,n,none⟩) (l.length-n) (c-n)])=.returned (.tuple #[.slice A1 (aH bs s).1.1.length c1,.slice A2 (aH bs s).1.2.length c2])/\bJ (fun k=>K k∨D k) (w'.drewN k) r g h bs most (aH bs s).2/\Ch (fun k=>¬K k) w (w'.drewN k)/\(∀k,D k->w.heap.size<=k)/\
  Rd (w'.drewN k) D 1 A1 (aH bs s).1.1.length (il (aH bs s).1.1)/\Rd (w'.drewN k) D 1 A2 (aH bs s).1.2.length (il (aH bs s).1.2):=by
 have m:=m.nx ((Ch.refl _ w').drewN k);rw[hL];have e1:(l.take n).length=n:=by rw[List.length_take];omega
 have e2:(l.drop n).length=l.length-n:=List.length_drop ..;simp only[e1,e2];have hb:=m.base;refine ⟨_,c,_,c-n,fun k=>(Value.slice (some ⟨g2,0,none⟩) l.length c).ownBlock=some k,rfl,m.inf.less (fun k hk=>by rcases hk with hk|hk;exact .inl (.inl hk);exact .inr hk) (.inl m.kh),m.ch,fun k hk=>by have:=(m.own.lt k hk).1;omega,?_,?_⟩
 ·have:=(Rd.bY m.own).take hn
  rw[Nat.mul_one]at this;rw[show il (l.take n)=(il l).take n by simp[il,List.map_take]];exact this.more fun k hk=>hk.1
 ·refine ⟨by simp[il],fun h0=>⟨⟨g2,n,none⟩,rfl,rfl,fun j u hu=>?_⟩⟩
  have hj:n+j<l.length:=by
   rcases Nat.lt_or_ge (n+j) l.length with h|h
   ·exact h
   ·rw[List.getElem?_eq_none (by simp[il];omega)]at hu;cases hu
  have h3:=zq m.own hj
  have e:Addr.add ⟨g2,n,none⟩ j=⟨g2,n+j,none⟩:=by
   unfold Addr.add;by_cases hj:j=0
   ·rw[if_pos hj,hj];simp
   ·rw[if_neg hj]
  rw[e,h3,←hu];simp[il,List.getD_eq_getElem?_getD,List.getElem?_eq_getElem hj]
theorem oU.next {K:Nat->Prop} {b:Nat} {w w5 w6:World} {bs:List Nat} {k:Nat} {s4 sj s':Inf} {r g h:Nat} {most:Int} {j x y:Nat} {t:List Int} (ht:t.length=19) (hlt:j<k)
 (m6:gG (fun i=>K i∨i=b) w5.drew r g h bs most s' w6) (hB6:dD w6 b 186 (il t).toArray) (kj:Ch (fun k=>¬K k) w w5) (hbw:w.heap.size<=b) (hhb:h<b)
 (Xh:Hid (dP bs k 0 (List.replicate 19 0) s4=dP bs (k-j) j t sj)) (Htd:Hid (dP bs (k-j) j t sj=dP bs (k-(j+1)) (j+1) (t.set x (y:Int)) s')):
 oU K b w bs k s4 r g h most (.int .i64 ((j:Int)+1)) (w6.setCell ⟨b,x,none⟩ (.int .i64 (y:Int))):=by
 have hc:Ch (fun k=>k=b) w6 (w6.setCell ⟨b,x,none⟩ (.int .i64 (y:Int))):=Ch.setCell (S:=fun k=>k=b) (Ch.refl _ w6) (p:=⟨b,x,none⟩) (fun _=>rfl) _;refine ⟨j+1,t.set x (y:Int),s',by omega,by simp,by rw[List.length_set];exact ht,m6.1.side hc (.inr rfl) (by omega),?_,?_,ah (Xh.out.trans Htd.out)⟩
 ·have h:=hB6.dZ x (.int .i64 (y:Int))
  have e:(il t).toArray.setIfInBounds x (.int .i64 (y:Int))=(il (t.set x (y:Int))).toArray:=by simp[il,List.map_set]
  rw[e]at h;exact h
 ·exact (kj.drew.trans m6.2 (fun i _ hn hk=>hn (.inl hk))).trans hc (fun i hi e=>by omega)
section
set_option maxRecDepth 100000 in
theorem zo (K:Nat->Prop) (w:World) (r g h:Nat) (bs:List Nat) (most:Int) (s:Inf) (m:bJ K w r g h bs most s):
 Calls Tryz.prog 156 #[.pointer (some ⟨r,0,none⟩)] w fun en w'=>∃A1 c1 A2 c2,∃D:Nat->Prop,
  en=.returned (.tuple #[.slice A1 (aH bs s).1.1.length c1,.slice A2 (aH bs s).1.2.length c2])/\bJ (fun k=>K k∨D k) w' r g h bs most (aH bs s).2/\Ch (fun k=>¬K k) w w'/\(∀k,D k->w.heap.size<=k)/\
  Rd w' D 1 A1 (aH bs s).1.1.length (il (aH bs s).1.1)/\Rd w' D 1 A2 (aH bs s).1.2.length (il (aH bs s).1.2):=by
 obtain ⟨i0,hi0,hz0,hz1,hz2⟩:=info_parts Tryz.info3;go_enter Tryz.func156,Tryz.ntmps156;go_wp2_with fail;refine (EH m 5 (by omega)).mono ?_;rintro e w1 ⟨rfl,m1,k1⟩;have b1:=z17 bs 5 s;have b1':(aA bs 5 s).1<32:=b1;go_wp2_with fail;refine (EH m1 5 (by omega)).mono ?_;rintro e w2 ⟨rfl,m2,k2⟩;have b2:=z17 bs 5 (aA bs 5 s).2;have b2':(aA bs 5 (aA bs 5 s).2).1<32:=b2;go_wp2_with fail;refine (EH m2 4 (by omega)).mono ?_;rintro e w3 ⟨rfl,m3,k3⟩;have hF:aH bs s=Vq bs ((aA bs 5 s).1+257) ((aA bs 5 (aA bs 5 s).2).1+1) ((aA bs 4 (aA bs 5 (aA bs 5 s).2).2).1+4) (aA bs 4 (aA bs 5 (aA bs 5 s).2).2).2:=rfl;have b3:=z17 bs 4 (aA bs 5 (aA bs 5 s).2).2;have kk:Hid (Ch (fun k=>¬K k) w w3):=ah ((k1.trans k2 fun _ _ h=>h).trans k3 fun _ _ h=>h);have UN:Hid (∀k,K k->k<w.heap.size):=ah (by obtain ⟨vo,m⟩:=m;exact fun k hk=>(m.far k hk).1);have UO:Hid (K h):=ah (by obtain ⟨vo,m⟩:=m;exact m.kh);clear m m1 m2 k1 k2 k3;have HF:=ah hF;clear hF;generalize aA bs 5 s=q1 at *;generalize aA bs 5 q1.2=q2 at *;generalize aA bs 4 q2.2=q3 at *;obtain ⟨n0,s1⟩:=q1;obtain ⟨m0,s2⟩:=q2;obtain ⟨k0,s3⟩:=q3;simp only at b1 b2 b3 m3 HF ⊢;obtain ⟨n,hn⟩:∃n,n0+257=n:=⟨_,rfl⟩;obtain ⟨mm,hmm⟩:∃n,m0+1=n:=⟨_,rfl⟩;obtain ⟨k,hk⟩:∃n,k0+4=n:=⟨_,rfl⟩;have e1:(n0:Int)+257=(n:Int):=by omega
 have e2:(m0:Int)+1=(mm:Int):=by omega
 have e3:(k0:Int)+4=(k:Int):=by omega
 have hn1:257<=n/\n<=288:=by omega
 have hm1:1<=mm/\mm<=32:=by omega
 have hk1:4<=k/\k<=19:=by omega
 rw[hn,hmm,hk]at HF;clear hn hmm hk b1 b2 b3;have d3:=m3.dB;have He1:=ah e1;have He2:=ah e2;have He3:=ah e3;go_upto_region 2 with fail
 go_cut [4,5,6,35] (fun s4 s5 s6 s35 wx=>s4=.int .i64 (n:Int)/\s5=.int .i64 (mm:Int)/\s6=.int .i64 (k:Int)/\s35=.bool (decide (s3.e=0/\(286<n∨30<mm)))/\wx=w3)
 case first=>
  by_cases he3:s3.e=0
  ·rw[he3]at d3
   by_cases hn2:286<n
   ·have hd:decide (s3.e=0/\(286<n∨30<mm))=true:=by simp[he3,hn2]
    have hn3:286<(n0:Int)+257:=(by omega);clear he3;go_wp2_with fail;go_meet
    exact ⟨rfl,rfl,rfl,by rw[hd],rfl⟩
   ·have hn3:¬286<(n0:Int)+257:=by omega
    by_cases hm2:30<mm
    ·have hd:decide (s3.e=0/\(286<n∨30<mm))=true:=by simp[he3,hm2]
     have hm3:30<(m0:Int)+1:=(by omega);clear he3;go_wp2_with fail;go_meet
     exact ⟨rfl,rfl,rfl,by rw[hd];simp;omega,rfl⟩
    ·have hd:decide (s3.e=0/\(286<n∨30<mm))=false:=by simp[hn2,hm2]
     have hm3:¬30<(m0:Int)+1:=(by omega);clear he3;go_wp2_with fail;go_meet
     exact ⟨rfl,rfl,rfl,by rw[hd];simp;omega,rfl⟩
  ·have he3':(s3.e==0)=false:=by rw[beq_eq_false_iff_ne];exact he3
   have hd:decide (s3.e=0/\(286<n∨30<mm))=false:=(by simp[he3]);clear he3;go_wp2_with fail;go_meet
   exact ⟨rfl,rfl,rfl,by rw[hd],rfl⟩
 case rest=>
  obtain ⟨rfl,rfl,rfl,rfl,rfl⟩:=hcut;clear d3 e1 e2 e3 He1 He2 He3;obtain ⟨s4,hs4⟩:∃s4,(if s3.e=0/\(286<n∨30<mm) then aN 4 s3 else s3)=s4:=⟨_,rfl⟩
  have hs5:s4.e=0->n<=286/\mm<=30:=by
   rw[←hs4];intro hh
   by_cases hc:s3.e=0/\(286<n∨30<mm)
   ·rw[if_pos hc]at hh;exact absurd hh (Jj (by decide))
   ·rw[if_neg hc]at hh;simp only[hh,true_and]at hc;omega
  have hG:aH bs s=z37 bs n mm (dP bs k 0 (List.replicate 19 0) s4):=by rw[HF.out,←hs4];exact nN _ _ _ _ _
  have HG:=ah hG;clear hG HF;have Hs4:=ah hs4;clear hs4;go_upto_if 35 with fail
  go_cut [] (fun wx=>bJ K wx r g h bs most s4/\Ch (fun k=>¬K k) w wx)
  case first=>
   by_cases hc:s3.e=0/\(286<n∨30<mm)
   ·have hd:decide (s3.e=0/\(286<n∨30<mm))=true:=by simp only[hc,decide_true,and_self]
    have hs:s4=aN 4 s3:=(by rw[←Hs4.out,if_pos hc]);clear hc;rw[hd];clear hd;go_wp2_with fail;refine (Jz m3 4).mono ?_;rintro e w4 ⟨rfl,m4,k4⟩;go_wp2_with fail;go_meet
    rw[hs];exact ⟨m4,kk.out.trans k4 fun _ _ h=>h⟩
   ·have hd:decide (s3.e=0/\(286<n∨30<mm))=false:=decide_eq_false hc
    have hs:s4=s3:=(by rw[←Hs4.out,if_neg hc]);clear hc;rw[hd];clear hd;go_wp2_with fail;go_meet
    rw[hs];exact ⟨m3,kk.out⟩
  case rest=>
   obtain ⟨m4,k4⟩:=hcut;clear kk m3 Hs4;obtain ⟨w4,rfl⟩:∃w4:World,w4=wc:=⟨_,rfl⟩
   have hb0:bJ (fun i=>K i∨i=w4.heap.size) (w4.alloc (.cells (il (List.replicate 19 0)).toArray 186)) r g h bs most s4:=
    (m4.keep ((Ch.refl _ w4).alloc _)).less (fun i hi=>by rcases hi with hi|hi;exact .inl hi;exact .inr ⟨by omega,by simp;omega⟩) (.inl UO.out)
   have hB0:=dD.new w4 186 (il (List.replicate 19 0)).toArray;have k40:=k4.alloc (.cells (il (List.replicate 19 0)).toArray 186);have h40:h<w4.heap.size:=by have:=k4.size;have:=UN.out h UO.out;omega
   have hw4:w.heap.size<=w4.heap.size:=k4.size;have HT0:Hid (oU K w4.heap.size w bs k s4 r g h most (.int .i64 0) (w4.alloc (.cells (il (List.replicate 19 0)).toArray 186))):=ah ⟨0,_,s4,by omega,rfl,by simp,hb0,hB0,k40,ah (by simp)⟩;clear hb0 hB0 k40 m4 k4;go_wp2_with fail;obtain ⟨b,hb⟩:∃b,w4.heap.size=b:=⟨_,rfl⟩;rw[hb]at HT0 h40 hw4;simp only[hb];go_loopw [39] (oU K b w bs k s4 r g h most) (fun i _=>k-(intOf i).toNat)
   case atStart=>exact HT0.out
   case round=>
    clear HT0;obtain ⟨w5,rfl⟩:∃w5:World,w5=wr:=⟨_,rfl⟩;obtain ⟨j,t,sj,hj,rfl,ht,mj,hB,kj,Xh⟩:=hrel;by_cases hlt:j<k
    ·have hix:=sO j (by omega)
     have hi19:=xM j
     have htd:dP bs (k-j) j t sj=dP bs (k-(j+1)) (j+1) (t.set (dU.getD j 0) ((aA bs 3 sj).1:Int)) (aA bs 3 sj).2:=by
      rw[show k-j=(k-(j+1))+1 by omega,dP]
     have Htd:=ah htd;clear htd;generalize dU.getD j 0=x at *;go_wp2_with fail;go_region_with (go_at_call 153;refine (EH mj.drew 3 (by omega)).mono ?_;rintro e w6 ⟨rfl,m6⟩;have hB6:=hB.drew.ch m6.2 (fun hn=>hn (.inr rfl));have hfr:=hB6.frozen x;have hcl:=(hB6.cell x).trans (BA t x ht hi19))
     all_goals go_wp2_with fail
     all_goals exact ⟨oU.next ht hlt m6 hB6 kj hw4 h40 Xh Htd,by simp[intOf];omega⟩
    ·have hjk:j=k:=by omega
     have hT:dP bs k 0 (List.replicate 19 0) s4=(t,sj):=by rw[Xh.out,hjk,Nat.sub_self];rfl
     rw[hT]at HG;clear hT Xh hjk;have d5:=mj.dB;by_cases he:sj.e=0
     ·rw[he]at d5
      have hR:Rd w5 (fun k=>k=b) 1 (some ⟨b,0,none⟩) 19 (il t):=by have:=hB.fM;rw[show (il t).length=19 by simp[il,ht]]at this;exact this
      have hL:aH bs s=z56 n (eF bs t (n+mm) (n+mm) [] (jq t sj)):=by rw[HG.out];unfold z37;rw[if_neg (by simp[he])]
      by_cases hz:bH t=0
      ·have hts:jq t sj=sj:=by unfold jq;rw[if_pos hz]
       rw[hts]at hL;have HL:=ah hL;have Hz:=ah hz;have He:=ah he;clear hL hz he hts HG;go_wp2_with fail;refine (z1n mj _ (some ⟨b,0,none⟩) 19 19 t hR ht Hz.out).mono ?_;rintro e w6 ⟨t3,rfl,⟨m6,k6⟩,ht3,n6⟩;have h5:=kj.size;have h6:=n6.size
       have V0:Hid (iI K w6.heap.size w w6 r g h bs most (fun k=>w5.heap.size<=k/\k<w6.heap.size) t3 t sj (.slice none 0 0) []):=ah
        ⟨by omega,Nat.le_refl _,UO.out,UN.out,World.ownsRow_nil _ _ _ _,(mj.keep n6).less (fun k hk=>by
          rcases hk with (hk|hk)|hk
          ·exact .inl (.inl hk)
          ·exact .inr hk
          ·cases hk) (.inl (.inl UO.out)),kj.tr n6,ht3,fun k hk=>⟨by omega,hk.2⟩⟩
       obtain ⟨Dt,hDt⟩:∃Dt:Nat->Prop,(fun k=>w5.heap.size<=k/\k<w6.heap.size)=Dt:=⟨_,rfl⟩;rw[hDt]at V0;obtain ⟨B,hBB⟩:∃B,w6.heap.size=B:=⟨_,rfl⟩;rw[hBB]at V0;clear hDt hBB m6 k6 ht3 n6 mj hB kj hR d5 h5 h6;go_wp2_with fail;go_loopw [10] (Len2 K B w r g h bs most Dt t3 t (n+mm) sj) (fun v _=>n+mm+139-lenV v)
       case atStart=>exact ⟨n+mm,[],sj,V0.out,Nat.zero_le _,fun _=>by simp,ah rfl⟩
       case round=>
        clear V0;obtain ⟨w7,rfl⟩:∃w7:World,w7=wr:=⟨_,rfl⟩;obtain ⟨f,l,s7,m7,hl7,hf7,H7⟩:=hrel;obtain ⟨A,c,rfl,hc1,hc2⟩:=z05 m7.own;have d7:=m7.dB;by_cases he7:s7.e=0
        ·rw[he7]at d7
         by_cases hlt:l.length<n+mm
         ·go_wp2_with fail
          refine (vP m7.inf Dt t3 t m7.ZO (fun k hk=>.inl (.inr hk))).mono ?_;rintro e w8 ⟨rfl,k8⟩;have m8:=m7.to k8;have hrg:=Vh (zs:=t) (bs:=bs) (s:=s7) (by omega);obtain ⟨f,rfl⟩:∃f',f=f'+1:=⟨f-1,by have:=hf7 he7;omega⟩;have hf7:=hf7 he7;generalize hq8:cO bs t s7=q8 at *;obtain ⟨x,s8⟩:=q8;simp only at hrg m8 ⊢;have Hq8:=ah hq8;have He7:=ah he7;have Xo:=ah hlt;clear hq8 k8 m7 d7 he7 hlt;go_upto_block 4 with fail
          go_cut [12,13] (fun s12 s13 wx=>s8.e=0/\¬(x=16/\l=[])/\s12=.int .i64 (bV bs l x s8).1/\s13=.int .i64 ((bV bs l x s8).2.1:Int)/\iI K B w wx r g h bs most Dt t3 t (bV bs l x s8).2.2 (.slice A l.length c) l)
          case first=>
           have d8:=m8.dB;by_cases he8:s8.e=0
           ·rw[he8]at d8
            by_cases hx:x<16
            ·have ht1:bV bs l x s8=(x,1,s8):=by unfold bV;rw[if_pos hx]
             have Ht1:=ah ht1;have He8:=ah he8;clear ht1 he8;go_wp2_with fail;go_meet
             rw[Ht1.out];exact ⟨He8.out,fun hh=>by omega,rfl,rfl,m8⟩
            ·by_cases hx16:x=16
             ·subst hx16
              by_cases hl0:l=[]
              ·subst hl0
               have hL8:aH bs s=(([],[]),aN 4 s8):=(by rw[HL.out,H7.out,PN Hq8.out He7.out (by omega) he8,Yj (Jj (by decide))]);have HL8:=ah hL8;clear hL8 he8;go_wp2_with fail;refine (Jz m8.inf 4).mono ?_;rintro e w9 ⟨rfl,k9⟩;have m9:=m8.to k9;clear k9;go_wp2_with fail;go_ret2;exact m9.out HL8.out
              ·have hl1:0<l.length:=List.length_pos_iff.2 hl0
               have hlb:((l.length:Int)==0)=false:=by rw[beq_eq_false_iff_ne];omega
               obtain ⟨q,hq⟩:∃q,l.length-1=q:=⟨_,rfl⟩;have hq2:(l.length:Int)-1=(q:Int):=(by omega);have hq3:q<l.length:=(by omega);have hq4:(q:Int)<(l.length:Int):=(by omega);have hq5:(0:Int)<=(q:Int):=(by omega);have hq6:IntKind.i64.wrap (q:Int)=(q:Int):=IntWalk.i64_in _ (by omega);obtain ⟨g2,cap,hv,_,_⟩:=m8.own.form hl1;injection hv with hA _ hcc;subst hA;subst hcc;have hcell:=Fg m8.own hl1;rw[hq]at hcell;have ht1:bV bs l 16 s8=(l.getD q 0,3+(aA bs 2 s8).1,(aA bs 2 s8).2):=by unfold bV;rw[if_neg hx,if_pos rfl,hq]
               have Ht1:=ah ht1;have He8:=ah he8;have Hl0:=ah hl0;have Hq:=ah hq;have b9:=z17 bs 2 s8;have b9':(aA bs 2 s8).1<4:=b9;have hw9:IntKind.i64.wrap (3+((aA bs 2 s8).1:Int))=3+((aA bs 2 s8).1:Int):=IntWalk.i64_in _ (by omega);clear ht1 he8 hl0 hq;go_wp2_with fail
               go_region_held3 (fun w'=>w'.cell? ⟨g2,q,none⟩=some (.int .i64 (l.getD q 0))) (first|go_keep|exact f3) ((first
                |(go_at_call 153;refine (EH (m8.nx ((Ch.refl _ _).drew)).inf 2 (by omega)).mono ?_;rintro e w9 ⟨rfl,k9⟩;have m9:=(m8.nx ((Ch.refl _ _).drew)).to k9;have f3:=Fg m9.own hl1;rw[Hq.out]at f3;clear k9)))
               all_goals go_wp2_with fail
               all_goals go_meet
               all_goals rw[Ht1.out]
               all_goals exact ⟨He8.out,fun hh=>Hl0.out hh.2,by simp[hq3],by simp,m9⟩
             ·have hxb:(x==16)=false:=by rw[beq_eq_false_iff_ne];exact hx16
              by_cases hx17:x=17
              ·have ht1:bV bs l x s8=(0,3+(aA bs 3 s8).1,(aA bs 3 s8).2):=by unfold bV;rw[if_neg hx,if_neg hx16,if_pos hx17]
               have Ht1:=ah ht1;have He8:=ah he8;have Hx16:=ah hx16;clear ht1 he8 hx16;subst hx17;have b9:=z17 bs 3 s8;have b9':(aA bs 3 s8).1<8:=b9;go_wp2_with fail;refine (EH m8.inf 3 (by omega)).mono ?_;rintro e w9 ⟨rfl,k9⟩;have m9:=m8.to k9;clear k9;go_wp2_with fail;go_meet
               rw[Ht1.out];exact ⟨He8.out,fun hh=>Hx16.out hh.1,rfl,by simp,m9⟩
              ·have ht1:bV bs l x s8=(0,11+(aA bs 7 s8).1,(aA bs 7 s8).2):=by unfold bV;rw[if_neg hx,if_neg hx16,if_neg hx17]
               have hxc:(x==17)=false:=by rw[beq_eq_false_iff_ne];exact hx17
               have Ht1:=ah ht1;have He8:=ah he8;have Hx16:=ah hx16;clear ht1 he8 hx16 hx17;have b9:=z17 bs 7 s8;have b9':(aA bs 7 s8).1<128:=b9;go_wp2_with fail;refine (EH m8.inf 7 (by omega)).mono ?_;rintro e w9 ⟨rfl,k9⟩;have m9:=m8.to k9;clear k9;go_wp2_with fail;go_meet
               rw[Ht1.out];exact ⟨He8.out,fun hh=>Hx16.out hh.1,rfl,by simp,m9⟩
           ·have he8':(s8.e !=0)=true:=by rw[bne_iff_ne];exact he8
            have hL8:aH bs s=(([],[]),s8):=(by rw[HL.out,H7.out,LD Hq8.out He7.out Xo.out he8,Yj he8]);have HL8:=ah hL8;clear hL8 he8;go_wp2_with fail;go_ret2;exact m8.out HL8.out
          case rest=>
           obtain ⟨he8,hx16,rfl,rfl,m9⟩:=hcut
           have H9:eF bs t (n+mm) (n+mm) [] sj=eF bs t (n+mm) f (l++List.replicate (bV bs l x s8).2.1 (bV bs l x s8).1) (gV (n+mm) l (bV bs l x s8).2.1 (bV bs l x s8).2.2):=by
            rw[H7.out,PL Hq8.out He7.out Xo.out he8 hx16]
           have htm:=Bz (bs:=bs) (l:=l) (x:=x) (s:=s8);clear hx16 he8 m8 Hq8 H7;have H9:=ah H9;generalize bV bs l x s8=q9 at *;obtain ⟨y,tm,s9⟩:=q9;simp only at m9 htm ⊢;obtain ⟨w9,rfl⟩:∃w9:World,w9=wc:=⟨_,rfl⟩;have d9:=m9.dB;have hlt:=Xo.out;go_upto_region 28 with fail
           go_cut [123] (fun s123 wx=>s123=.bool (decide (s9.e=0/\n+mm<l.length+tm))/\wx=w9)
           case first=>
            by_cases he9:s9.e=0
            ·rw[he9]at d9
             by_cases hgt:n+mm<l.length+tm
             ·have hd:decide (s9.e=0/\n+mm<l.length+tm)=true:=by simp[he9,hgt]
              have hg2:(n:Int)+mm-l.length<tm:=(by omega);clear he9;go_wp2_with fail;go_meet
              exact ⟨by rw[hd],rfl⟩
             ·have hd:decide (s9.e=0/\n+mm<l.length+tm)=false:=by simp[hgt]
              have hg2:¬((n:Int)+mm-l.length<tm):=(by omega);clear he9;go_wp2_with fail;go_meet
              exact ⟨by rw[hd],rfl⟩
            ·have he9':(s9.e==0)=false:=by rw[beq_eq_false_iff_ne];exact he9
             have hd:decide (s9.e=0/\n+mm<l.length+tm)=false:=(by simp[he9]);clear he9;go_wp2_with fail;go_meet
             exact ⟨by rw[hd],rfl⟩
           case rest=>
            obtain ⟨rfl,rfl⟩:=hcut;go_upto_if 123 with fail
            go_cut [] (fun wx=>iI K B w wx r g h bs most Dt t3 t (gV (n+mm) l tm s9) (.slice A l.length c) l)
            case first=>
             by_cases hc:s9.e=0/\n+mm<l.length+tm
             ·have hd:decide (s9.e=0/\n+mm<l.length+tm)=true:=decide_eq_true hc
              have hs:gV (n+mm) l tm s9=aN 4 s9:=by unfold gV;rw[if_pos hc]
              clear hc;rw[hd];clear hd;have Hs:=ah hs;clear hs;go_wp2_with fail;refine (Jz m9.inf 4).mono ?_;rintro e w10 ⟨rfl,k10⟩;have m10:=m9.to k10;clear k10;go_wp2_with fail;go_meet
              rw[Hs.out];exact m10
             ·have hd:decide (s9.e=0/\n+mm<l.length+tm)=false:=decide_eq_false hc
              have hs:gV (n+mm) l tm s9=s9:=by unfold gV;rw[if_neg hc]
              clear hc;rw[hd];clear hd;have Hs:=ah hs;clear hs;go_wp2_with fail;go_meet
              rw[Hs.out];exact m9
            case rest=>
             have m10:=hcut;clear hcut d9 m9;generalize gV (n+mm) l tm s9=s10 at *;obtain ⟨w10,rfl⟩:∃w10:World,w10=wc:=⟨_,rfl⟩;go_wp2_with fail;go_loopw [10,127] (fun v i wr=>∃j:Nat,j<=tm/\i=.int .i64 j/\iI K B w wr r g h bs most Dt t3 t s10 v (l++List.replicate j y)) (fun _ i _=>tm-(intOf i).toNat)
             case atStart=>exact ⟨0,Nat.zero_le _,rfl,by simpa using m10⟩
             case round=>
              clear m10;obtain ⟨w11,rfl⟩:∃w11:World,w11=wr:=⟨_,rfl⟩;obtain ⟨i,hi,rfl,m11⟩:=hrel;obtain ⟨A2,c2,rfl,hc3,hc4⟩:=z05 m11.own;have hlen:(l++List.replicate i y).length=l.length+i:=(by simp);by_cases hit:i<tm
              ·have hsz:=m11.size
               have hrs:l++List.replicate (i+1) y=(l++List.replicate i y)++[y]:=(by rw[List.replicate_succ',List.append_assoc]);have Qs:=ah hrs;clear hrs;have hll:(l++List.replicate i y).length<=1000:=(by omega);have Hlen:=ah hlen;clear hlen;generalize l++List.replicate i y=ls at *;go_wp2_with (at_builtin;refine z00 _ rfl (.tmp 129) (.tmp 131) _ rfl B 3 i0 _ 1 8 Tryz.underlying88 hi0 hz0 hz1 hz2 rfl (by omega) (.slice A2 ls.length c2) ls.length (il ls) rfl (m11.own.alloc _) (fun _=>True) (some ⟨w11.heap.size,0,none⟩) 1 1 [.int .i64 y] rfl ⟨rfl,fun _=>⟨⟨w11.heap.size,0,none⟩,rfl,trivial,cell_one_new _ _ _⟩⟩ (by intro u hu;simp at hu;subst hu;rfl) (by simp only[maxLen];omega) (by omega) (by simp;omega) ?_;intro v' w12 hown hg hat;have m12:=m11.app hown hg hat;clear hown hg hat)
               go_roundw
               case rel=>exact ⟨i+1,by omega,by go_num,by rw[Qs.out];exact m12⟩
               case measure=>simp[intOf];omega
              ·have hit2:i=tm:=by omega
               subst hit2;go_wp2_with fail;go_roundw
               case rel=>exact ⟨f,l++List.replicate i y,s10,m11,by omega,fun _=>by omega,H9⟩
               case measure=>simp only[lenV];omega
         ·have hge:n+mm<=l.length:=by omega
          have hLL:aH bs s=((l.take n,l.drop n),qL l s7):=by rw[HL.out,H7.out,z55 (.inr hge)];unfold z56;rw[if_neg (by simp[he7])]
          have YV:=ah hLL;have hl1:0<l.length:=(by omega);obtain ⟨g2,cap,hv,_,_⟩:=m7.own.form hl1;injection hv with hA _ hcc;subst hA;subst hcc;have hcell:=zq m7.own (show 256<l.length by omega);have h256:(256:Int)<(l.length:Int):=(by omega);have hnl:(n:Int)<=(l.length:Int):=(by omega);have hnc:(n:Int)<=(c:Int):=(by omega);have hlc:(l.length:Int)<=(c:Int):=(by omega);have hn0:(0:Int)<=(n:Int):=(by omega);obtain ⟨z,hzz⟩:∃z,l.getD 256 0=z:=⟨_,rfl⟩;rw[hzz]at hcell;by_cases hz6:z=0
          ·have hen:qL l s7=aN 4 s7:=by unfold qL;rw[if_pos ⟨he7,by rw[hzz];exact hz6⟩]
           rw[hen]at YV;rw[hz6]at hcell;clear hLL he7 hlt hz6 hen hzz hf7 H7 HL He Hz;go_wp2_with fail;refine (Jz m7.inf 4).mono ?_;rintro e w8 ⟨rfl,k8⟩;have m8:=m7.to k8;clear k8;go_wp2_with fail;go_quiet (fail)
           go_wp2_with fail;go_ret2;exact m8.fin YV.out (by omega) (by omega) _
          ·have hz7:(z==0)=false:=by rw[beq_eq_false_iff_ne];exact hz6
           have hen:qL l s7=s7:=by unfold qL;rw[if_neg (fun hh=>hz6 (by rw[←hzz];exact hh.2))]
           rw[hen]at YV;clear hLL he7 hlt hz6 hen hzz hf7 H7 HL He Hz;go_wp2_with fail;go_quiet (fail)
           go_wp2_with fail;go_ret2;exact m7.fin YV.out (by omega) (by omega) _
        ·have he7':(s7.e==0)=false:=by rw[beq_eq_false_iff_ne];exact he7
         have he7'':(s7.e !=0)=true:=by rw[bne_iff_ne];exact he7
         have hL7:aH bs s=(([],[]),s7):=(by rw[HL.out,H7.out,z55 (.inl he7),Yj he7]);have HL7:=ah hL7;clear hL7 he7 hf7 H7 HL;go_wp2_with fail;go_ret2;exact m7.out HL7.out
      ·have hts:jq t sj=aN 4 sj:=by unfold jq;rw[if_neg hz]
       have hL2:aH bs s=(([],[]),aN 4 sj):=(by rw[hL,hts,z55 (.inl (Jj (by decide))),Yj (Jj (by decide))]);have HL2:=ah hL2;have Hz:=ah hz;clear hL hL2 hts hz HG he;go_wp2_with fail;refine (ZF mj _ (some ⟨b,0,none⟩) 19 19 t hR ht (by omega) Hz.out).mono ?_;rintro e w6 ⟨rfl,m6,k6⟩;have hne:(aN 4 sj).e≠0:=Jj (by decide);have kk6:Ch (fun k=>¬K k) w w6:=kj.trans k6 fun i _ hn hk=>hn (.inl hk);have d6:=m6.dB;generalize aN 4 sj=s6 at *;have he6:(s6.e==0)=false:=by rw[beq_eq_false_iff_ne];exact hne
       have he6':(s6.e !=0)=true:=by rw[bne_iff_ne];exact hne
       clear hne k6 mj;go_wp2_with fail;refine wp_loop_rounds 1 ?_;rw[rounds_succ];go_wp2_with fail;go_ret2;rw[HL2.out];exact ⟨none,0,none,0,fun _=>False,rfl,m6.less (fun k hk=>by rcases hk with hk|hk;exact .inl hk;exact hk.elim) (.inl UO.out),kk6,fun _ hf=>hf.elim,Rd.none_ _ _ _ _,Rd.none_ _ _ _ _⟩
     ·have he':(sj.e !=0)=true:=by rw[bne_iff_ne];exact he
      have hL:aH bs s=(([],[]),sj):=by rw[HG.out];unfold z37;rw[if_pos he]
      have HL:=ah hL;clear hL he HG;go_wp2_with fail;go_ret2;rw[HL.out];exact ⟨none,0,none,0,fun _=>False,rfl,mj.less (fun k hk=>by rcases hk with hk|hk;exact .inl hk;exact hk.elim) (.inl UO.out),kj,fun _ hf=>hf.elim,Rd.none_ _ _ _ _,Rd.none_ _ _ _ _⟩
theorem VB:Xd:=zo
end
end Go.Proofs.YtfljcllpmbnjaaaGreat
