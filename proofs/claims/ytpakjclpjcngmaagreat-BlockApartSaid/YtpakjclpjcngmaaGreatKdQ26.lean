/- Contracts and plain laws that the last text rests on. Conditions: each theorem states its own. -/
import Derived.Test.YtpakjclpjcngmaaGreatKdQ25
import Derived.Test.YtpakjclpjcngmaaGreatKdPdInfC
import Derived.Test.YtpakjclpjcngmaaGreatKdQ12
import Derived.Test.YtpakjclpjcngmaaGreatKdQ23
import Derived.Test.YtpakjclpjcngmaaGreatKdQ2
set_option maxRecDepth 100000
set_option maxHeartbeats 8000000
set_option linter.unusedVariables false
namespace Go.Proofs.YtpakjclpjcngmaaGreat
open Go.RowKit
def aeJ:Prop:=∀(K:Nat->Prop) (w:World) (r g h:Nat) (bs:List Nat) (most:Int) (s:Inf),bG K w r g h bs most s->
 Calls Tryz.prog 281 #[.pointer (some ⟨r,0,none⟩)] w fun en w'=>∃A1 c1 A2 c2,∃D:Nat->Prop,
  en=.returned (.tuple #[.slice A1 (aG bs s).1.1.length c1,.slice A2 (aG bs s).1.2.length c2])/\bG (fun k=>K k∨D k) w' r g h bs most (aG bs s).2/\Ch (fun k=>¬K k) w w'/\(∀k,D k->w.heap.size<=k)/\
  Rd w' D 1 A1 (aG bs s).1.1.length (il (aG bs s).1.1)/\Rd w' D 1 A2 (aG bs s).1.2.length (il (aG bs s).1.2)
def EP (W:World) (r g h:Nat) (bs:List Nat) (most:Int) (i:Value) (wr:World):Prop:=
 ∃(l:Nat) (f:Nat) (sk:Inf),i=.int .i64 l/\bG (fun k=>k<W.heap.size∨k=h) wr r g h bs most sk/\Ch (fun k=>W.heap.size<=k) W wr/\(sk.out.length:Int)<=most/\
  (l=0/\sk.e=0->8 * bs.length+1<=f+sk.p)/\
  Hid (mQ bs most (8 * bs.length+1) ⟨0,[],0⟩=if l=0/\sk.e=0 then mQ bs most f sk else sk)
def xH (W:World) (bs:List Nat) (most:Int) (en:Ending) (w':World):Prop:=
 ∃v,en=.returned (.tuple #[v,.int .i64 ((rW bs most).2.1:Int),.int .i64 (rW bs most).2.2])/\w'.ownsRow 0 5 1 v (rW bs most).1.length (bl (rW bs most).1)/\Ch (fun k=>W.heap.size<=k) W w'/\okB (rW bs most).1
theorem KP {bs:List Nat} {n:Nat} {s:Inf} (h:(aC bs n s).2.e=0):s.e=0/\(aC bs n s).2.p=s.p+n:=by
 unfold aC at h ⊢;by_cases h1:s.e≠0
 ·rw[if_pos h1]at h;exact absurd h h1
 ·rw[if_neg h1]at h ⊢
  by_cases h2:s.p+n<=8 * bs.length
  ·rw[if_pos h2];exact ⟨by simpa using h1,rfl⟩
  ·rw[if_neg h2]at h;simp at h
theorem UA {bs:List Nat} {most:Int} {f l1 kd:Nat} {s s1 s2:Inf} (h1:aC bs 1 s=(l1,s1)) (h2:aC bs 2 s1=(kd,s2)):
 mQ bs most (f+1) s=if (if s2.e≠0 then s2 else g_ bs most kd s2).e=0/\l1=0 then mQ bs most f (if s2.e≠0 then s2 else g_ bs most kd s2) else (if s2.e≠0 then s2 else g_ bs most kd s2):=by
 have hb:VA bs most s=(if s2.e≠0 then s2 else g_ bs most kd s2):=by unfold VA;simp only[h1,h2]
 rw[mQ,hb,h1]
theorem yR (bs:List Nat) (n:Nat) (s:Inf):s.p<=(aC bs n s).2.p:=Yk
theorem sN {bs:List Nat}:∀(k:Nat) (s:Inf),s.p<=(uM bs k s).p/\(uM bs k s).out.length<=s.out.length+k:=by
 intro k;induction k with
 |zero=>intro s;exact ⟨Nat.le_refl _,Nat.le_refl _⟩
 |succ k ih=>
  intro s;have h1:=yR bs 8 s;have h2:=z13 bs 8 s;unfold uM;generalize aC bs 8 s=q at *;by_cases he:q.2.e≠0
  ·rw[if_pos he,h2];exact ⟨h1,by omega⟩
  ·rw[if_neg he]
   have h3:=ih { q.2 with out:=q.2.out++[q.1]};refine ⟨Nat.le_trans h1 h3.1,Nat.le_trans h3.2 ?_⟩;simp only[List.length_append,List.length_singleton];rw[h2];omega
theorem TN (e:Int) (s:Inf):(aN e s).p=s.p/\(aN e s).out=s.out:=⟨oI.2,oI.1⟩
theorem xZ {bs:List Nat} {most:Int} {n m:Nat} {s3:Inf} (h:(s3.out.length:Int)<=most):s3.p<=(JY bs most n m s3).p/\((JY bs most n m s3).out.length:Int)<=most:=by
 unfold JY;obtain ⟨s4,hs4⟩:∃s4,(if s3.e=0/\n≠65535-m then aN 4 s3 else s3)=s4:=⟨_,rfl⟩;have h4:s4.p=s3.p/\s4.out=s3.out:=by rw[←hs4];split;exact TN 4 s3;exact ⟨rfl,rfl⟩
 simp only[hs4];by_cases he:s4.e≠0
 ·rw[if_pos he,h4.1,h4.2];exact ⟨Nat.le_refl _,h⟩
 ·rw[if_neg he]
  have hr:=z2x (most:=most) (n:=(n:Int)) (s:=s4);have hk:=z3r (most:=most) (n:=(n:Int)) (s:=s4) (by simpa using he);generalize aV most (n:Int) s4=s5 at *;by_cases he5:s5.e≠0
  ·rw[if_pos he5,hr.1,hr.2,h4.1,h4.2];exact ⟨Nat.le_refl _,h⟩
  ·rw[if_neg he5]
   have hl:=sN (bs:=bs) n s5;have h5:=(hk (by simpa using he5)).2;rw[hr.1]at hl;exact ⟨by have:=hr.2;have:=h4.1;omega,by omega⟩
theorem Gg {bs:List Nat} {most:Int} {s:Inf} (h:(s.out.length:Int)<=most):s.p<=(VD bs most s).p/\((VD bs most s).out.length:Int)<=most:=by
 unfold VD;have h1:=yR bs 16 { s with p:=(s.p+7) / 8 * 8};have h2:=z13 bs 16 { s with p:=(s.p+7) / 8 * 8};generalize aC bs 16 { s with p:=(s.p+7) / 8 * 8}=q1 at *;have h3:=yR bs 16 q1.2;have h4:=z13 bs 16 q1.2;generalize aC bs 16 q1.2=q2 at *;have h5:=xZ (bs:=bs) (most:=most) (n:=q1.1) (m:=q2.1) (s3:=q2.2) (by rw[h4,h2];exact h);simp only at h1;exact ⟨by omega,h5.2⟩
theorem z68:dV z12=0:=by decide+kernel
theorem z69:dV rU=0:=by decide+kernel
theorem z5z {bs:List Nat} {most:Int} {zl zd:List Int} {s:Inf} (he:s.e=0) (hl:dV zl=0) (hd:dV zd=0):Pz bs most zl zd s=bH bs most zl zd (8 * bs.length+1) s:=by
 have h1:z11 zl s=s:=by unfold z11;rw[if_pos hl]
 have h2:z11 zd s=s:=by unfold z11;rw[if_pos hd]
 unfold Pz;rw[h1,h2,if_neg (by simp[he]),if_neg (by simp[he])]
theorem aaW {bs:List Nat} {most:Int} {f l1 kd:Nat} {s s1 s2:Inf} (h1:aC bs 1 s=(l1,s1)) (h2:aC bs 2 s1=(kd,s2)) (he:s2.e=0):
 mQ bs most (f+1) s=if (g_ bs most kd s2).e=0/\l1=0 then mQ bs most f (g_ bs most kd s2) else g_ bs most kd s2:=by
 have h:=UA (most:=most) (f:=f) h1 h2;rw[if_neg (show ¬s2.e≠0 from fun hn=>hn he)]at h;exact h
theorem XE {bs:List Nat} {most:Int} {f l1 kd:Nat} {s s1 s2:Inf} (h1:aC bs 1 s=(l1,s1)) (h2:aC bs 2 s1=(kd,s2)) (he:s2.e≠0):
 mQ bs most (f+1) s=s2:=by
 have h:=UA (most:=most) (f:=f) h1 h2;rw[if_pos he,if_neg (fun hh=>he hh.1)]at h;exact h
theorem z5k {bs:List Nat} {most:Int} {s:Inf} (hm0:0<=most) (hm:most<=65536) (h:mQ bs most (8 * bs.length+1) ⟨0,[],0⟩=s) (he:s.e≠0):rW bs most=([],0,s.e):=by
 unfold rW;rw[if_neg (by omega)];simp only[h];rw[if_pos he]
theorem NK {bs:List Nat} {most:Int} {s:Inf} (hm0:0<=most) (hm:most<=65536) (h:mQ bs most (8 * bs.length+1) ⟨0,[],0⟩=s) (he:s.e=0):rW bs most=(s.out,(s.p+7) / 8,0):=by
 unfold rW;rw[if_neg (by omega)];simp only[h];rw[if_neg (by simp[he])]
theorem Bv {bs:List Nat} {most:Int} {zl zd:List Int} {s:Inf} (he:s.e=0) (hl:dV zl≠0):Pz bs most zl zd s=aN 4 s:=by
 have h1:z11 zl s=aN 4 s:=by unfold z11;rw[if_neg hl]
 unfold Pz;rw[h1,if_neg (by simp[he]),if_pos (Pq (by decide))]
theorem Bq {bs:List Nat} {most:Int} {zl zd:List Int} {s:Inf} (he:s.e=0) (hl:dV zl=0) (hd:dV zd≠0):Pz bs most zl zd s=aN 4 s:=by
 have h1:z11 zl s=s:=by unfold z11;rw[if_pos hl]
 have h2:z11 zd s=aN 4 s:=by unfold z11;rw[if_neg hd]
 unfold Pz;rw[h1,h2,if_neg (by simp[he]),if_neg (by simp[he]),bH,if_pos (Pq (by decide))]
theorem FX {bs:List Nat} {most:Int} {zl zd:List Int} {s:Inf} (he:s.e≠0):Pz bs most zl zd s=s:=by
 unfold Pz;rw[if_pos he]
section
variable {W : World} {bs : List Nat} {most : Int}
theorem EP.next {r g h f l1 q:Nat} {X:Inf} {w':World} (jv:Hid (mQ bs most (8 * bs.length+1) ⟨0,[],0⟩=if X.e=0/\l1=0 then mQ bs most f X else X)) (m:bG (fun k=>k<W.heap.size∨k=h) w' r g h bs most X)
 (kk:Ch (fun k=>W.heap.size<=k) W w') (hol:(X.out.length:Int)<=most) (hf:8 * bs.length+1<=f+1+q) (hp:q+3<=X.p):EP W r g h bs most (.int .i64 l1) w':=
 ⟨l1,f,X,rfl,m,kk,hol,(fun _=>by omega),ah (by rw[jv.out];simp only[and_comm])⟩
set_option maxRecDepth 100000 in
theorem Dp (hL:aeJ) (D:Nat->Prop) (A:Option Addr) (c:Nat) (hb:Rd W D 1 A bs.length (bl bs)) (hk:okB bs) (hl:bs.length<=140737488355328) (hm0:0<=most) (hm:most<=65536):
 Calls Tryz.prog 242 #[.slice A bs.length c,.int .i64 most] W (xH W bs most):=by
 go_enter Tryz.func242,Tryz.ntmps242;go_wp2_with fail;with_reducible refine (z2J D A bs.length c bs W hb hl hk).mono ?_
 rintro e w1 ⟨g,h,rfl,hr,hg1,hh1,hg2,hh2,n1⟩;have hr1:=n1.size;obtain ⟨w2,hw2⟩:∃w2,w1.alloc (.cells #[.pointer (some ⟨g,0,none⟩),.slice none 0 0,.int .i64 most,.int .i64 0] 324)=w2:=⟨_,rfl⟩;obtain ⟨r,hrr⟩:∃r,w1.heap.size=r:=⟨_,rfl⟩
 have M0:Hid (bG (fun k=>k<W.heap.size∨k=h) w2 r g h bs most ⟨0,[],0⟩):=ah (by
  rw[←hw2,←hrr];refine ⟨.slice none 0 0,aJ.new _ _ _,hr.nx ((Ch.refl _ w1).alloc _),World.ownsRow_nil _ _ _ _,(by intro x hx;cases hx),.inr rfl,fun k hk=>?_⟩;have hsz:(w1.alloc (.cells #[.pointer (some ⟨g,0,none⟩),.slice none 0 0,.int .i64 most,.int .i64 0] 324)).heap.size=w1.heap.size+1:=by simp
  have hgh:h≠g:=by obtain ⟨_,_,_,_,hne,_⟩:=hr;exact hne
  rcases hk with hk|hk
  ·exact ⟨by omega,by omega,by omega,by simp[Value.ownBlock]⟩
  ·exact ⟨by omega,by omega,by omega,by simp[Value.ownBlock]⟩)
 have C0:Hid (Ch (fun k=>W.heap.size<=k) W w2):=ah (by rw[←hw2];exact (n1.mono fun _ _ hf=>hf.elim).alloc _);clear hr n1;go_wp2_with fail
 try simp only[hrr,hw2]
 have hrW:W.heap.size<=r:=by omega
 clear hrr hw2 hg2 hh2;go_loopw [8] (fun i wr=>EP W r g h bs most i wr) (fun _ wr=>(8 * (bs.length:Int)+1-mJ wr g 1).toNat)
 case atStart=>exact ⟨0,8 * bs.length+1,⟨0,[],0⟩,rfl,M0.out,C0.out,(by simpa using hm0),(fun _=>by simp),ah (by simp)⟩
 case round=>
  clear M0 C0;obtain ⟨w3,rfl⟩:∃w3:World,w3=wr:=⟨_,rfl⟩;obtain ⟨l,f,sk,rfl,mk,kk,hol,hf,PO⟩:=hrel;have d3:=mk.dI;have hp:=mk.qm.1;have LG:=ah mk.XR;by_cases hgo:l=0/\sk.e=0
  ·obtain ⟨rfl,he⟩:=hgo
   have hf:=hf ⟨rfl,he⟩;obtain ⟨f,rfl⟩:∃f',f=f'+1:=⟨f-1,by omega⟩;have hst:mQ bs most (8 * bs.length+1) ⟨0,[],0⟩=mQ bs most (f+1) sk:=(by rw[PO.out,if_pos ⟨rfl,he⟩]);have jv:=ah hst;rw[he]at d3;have He:=ah he;clear hst he PO;go_wp2_with fail;refine (JQ mk 1 (by omega)).mono ?_;rintro e w4 ⟨rfl,m4,k4⟩;go_wp2_with fail;refine (JQ m4 2 (by omega)).mono ?_;rintro e w5 ⟨rfl,m5,k5⟩;generalize hq1:aC bs 1 sk=q1 at *;obtain ⟨l1,s1⟩:=q1;generalize hq2:aC bs 2 s1=q2 at *;obtain ⟨kd,s2⟩:=q2;have Hq1:=ah hq1;have Hq2:=ah hq2;clear hq1 hq2;simp only at m4 m5 ⊢;have kk5:Ch (fun k=>W.heap.size<=k) W w5:=(kk.trans k4 fun i _ hn=>Nat.le_of_not_lt fun hlt=>hn (.inl hlt)).trans k5 fun i _ hn=>Nat.le_of_not_lt fun hlt=>hn (.inl hlt);have d35:=m5.dI;clear k4 k5 kk m4 mk;by_cases he2:s2.e=0
   ·have hpp:s2.p=sk.p+3:=by
     have h2:=KP (bs:=bs) (n:=2) (s:=s1) (by rw[Hq2.out];exact he2);have h1:=KP (bs:=bs) (n:=1) (s:=sk) (by rw[Hq1.out];exact h2.1);rw[Hq2.out]at h2;rw[Hq1.out]at h1
     have:=h1.2;have:=h2.2;simp only at *;omega
    have hst2:mQ bs most (8 * bs.length+1) ⟨0,[],0⟩=if (g_ bs most kd s2).e=0/\l1=0 then mQ bs most f (g_ bs most kd s2) else g_ bs most kd s2:=by
     rw[jv.out,aaW Hq1.out Hq2.out he2]
    have hoo:s2.out=sk.out:=by have h1:=z13 bs 1 sk;have h2:=z13 bs 2 s1;rw[Hq1.out]at h1;rw[Hq2.out]at h2;simp only at h1 h2;rw[h2,h1]
    have jT:=ah hst2;have Hoo:=ah hoo;have Hpp:=ah hpp;rw[he2]at d35;have He2:=ah he2;clear hst2 hoo hpp he2 jv;have SL:(s2.out.length:Int)<=most:=by rw[Hoo.out];exact hol
    by_cases hk0:kd=0
    ·have hkd:g_ bs most kd s2=VD bs most s2:=by rw[hk0];rfl
     have Ph:=ah hkd;have hk0':((kd:Int)==0)=true:=by rw[beq_iff_eq];omega
     clear hkd;subst hk0;go_wp2_with fail;refine (Io m5 hm0 hm SL).mono ?_;rintro e w6 ⟨rfl,m6,k6⟩;have hX:=Gg (bs:=bs) (most:=most) (s:=s2) SL;have Vp:sk.p+3<=(VD bs most s2).p:=by have:=Hpp.out;omega
     have z_:=ah m6.XR;have hX6:=m6.qm.1;have kk6:Ch (fun k=>W.heap.size<=k) W w6:=kk5.trans k6 fun i _ hn=>Nat.le_of_not_lt fun hlt=>hn (.inl hlt);rw[Ph.out]at jT;go_wp2_with fail;go_roundw
     case rel=>exact EP.next jT m6 kk6 hX.2 (by omega) Vp
     case measure=>rw[z_.out,LG.out];omega
    ·have hk0':((kd:Int)==0)=false:=by rw[beq_eq_false_iff_ne];omega
     by_cases hk1:kd=1
     ·subst hk1
      have hkd:g_ bs most 1 s2=Pz bs most z12 rU s2:=rfl;have Ph:=ah hkd;clear hkd;go_wp2_with fail;refine (Oq w5).mono ?_;rintro e w6 ⟨A1,c1,A2,c2,rfl,hR1,hR2,n6⟩;have m6:=m5.keep n6;have d36:=m6.dI;rw[He2.out]at d36;go_wp2_with fail;refine (z1t m6 _ A1 288 c1 z12 hR1 (by decide+kernel) z68).mono ?_;rintro e w7 ⟨t1,rfl,⟨m7,k7⟩,ht1,n7⟩;have m7:=m6.keep n7;have hR2:=hR2.nx (by decide) n7;have d37:=m7.dI;rw[He2.out]at d37;go_wp2_with fail;refine (z1t m7 _ A2 32 c2 rU hR2 (by decide+kernel) z69).mono ?_;rintro e w8 ⟨t2,rfl,⟨m8,k8⟩,ht2,n8⟩;have m8:=m7.keep n8;have ht1:=ht1.ch n8 (fun _ _ h=>h);go_wp2_with fail;refine (wI m8 t1 t2 z12 rU _ _ ht1 ht2 (fun k hk=>.inl (.inr hk)) (fun k hk=>.inr hk) hm0 hm SL).mono ?_;rintro e w9 ⟨rfl,m9,k9⟩;have hX:=wY (bs:=bs) (most:=most) (zl:=z12) (zd:=rU) (by decide) (by decide) (8 * bs.length+1) s2 SL
      have hkt:g_ bs most 1 s2=bH bs most z12 rU (8 * bs.length+1) s2:=by
       rw[Ph.out];exact z5z He2.out z68 z69
      have kk9:Ch (fun k=>W.heap.size<=k) W w9:=((((kk5.trans n6 fun _ _ hf=>hf.elim).trans n7 fun _ _ hf=>hf.elim).trans n8 fun _ _ hf=>hf.elim).trans k9 fun i _ hn=>Nat.le_of_not_lt fun hlt=>hn (.inl (.inl (.inl (.inl hlt)))));have m9:=m9.less (K':=fun k=>k<W.heap.size∨k=h) (fun k hk=>.inl (.inl (.inl hk))) (.inr rfl);rw[hkt]at jT;generalize bH bs most z12 rU (8 * bs.length+1) s2=X at *;have z_:=ah m9.XR;have hX6:=m9.qm.1;have Vp:sk.p+3<=X.p:=by have:=Hpp.out;have:=hX.1;omega
      clear hkt Ph m6 m7 m8 d36 d37;go_wp2_with fail;go_roundw
      case rel=>exact EP.next jT m9 kk9 hX.2 (by omega) Vp
      case measure=>rw[z_.out,LG.out];omega
     ·have hk1':((kd:Int)==1)=false:=by rw[beq_eq_false_iff_ne];omega
      have kle:∀(i:Nat),¬i<W.heap.size->True:=fun _ _=>trivial;by_cases hk2:kd=2
      ·subst hk2
       have hkd:g_ bs most 2 s2=Pz bs most (aG bs s2).1.1 (aG bs s2).1.2 (aG bs s2).2:=rfl;have Ph:=ah hkd;clear hkd kle;go_wp2_with fail;refine (hL _ w5 r g h bs most s2 m5).mono ?_;rintro e w6 ⟨A1,c1,A2,c2,D2,rfl,m6,k6,hD2,hR1,hR2⟩;have hX6:=C_ (bs:=bs) (s:=s2);generalize aG bs s2=L at *;obtain ⟨⟨zl,zd⟩,s3⟩:=L;obtain ⟨Vp,hXo,hXl,hXd⟩:=hX6;simp only at *;have kk6:Ch (fun k=>W.heap.size<=k) W w6:=kk5.trans k6 fun i _ hn=>Nat.le_of_not_lt fun hlt=>hn (.inl hlt);have d36:=m6.dI;have NT:(s3.out.length:Int)<=most:=by rw[hXo];exact SL
       have Og:sk.p+3<=s3.p:=by have:=Hpp.out;omega
       clear hXo kk5 d35 Vp;by_cases tV:s3.e=0
       ·rw[tV]at d36
        by_cases hzl:dV zl=0
        ·by_cases hzd:dV zd=0
         ·have hkt:=Ph.out.trans (z5z (bs:=bs) (most:=most) tV hzl hzd)
          rw[hkt]at jT;clear hkt Ph;have Hez:=ah tV;have LC:=ah hzl;have Hzd:=ah hzd;clear tV hzl hzd;go_wp2_with fail;refine (z1t m6 _ A1 _ c1 zl hR1 rfl LC.out).mono ?_;rintro e w7 ⟨t1,rfl,⟨m7,k7⟩,ht1,n7⟩;have m7:=m6.keep n7;have hR2:=hR2.nx (by decide) n7;have d37:=m7.dI;rw[Hez.out]at d37;go_wp2_with fail;refine (z1t m7 _ A2 _ c2 zd hR2 rfl Hzd.out).mono ?_;rintro e w8 ⟨t2,rfl,⟨m8,k8⟩,ht2,n8⟩;have m8:=m7.keep n8;have ht1:=ht1.ch n8 (fun _ _ h=>h);go_wp2_with fail;refine (wI m8 t1 t2 zl zd _ _ ht1 ht2 (fun k hk=>.inl (.inr hk)) (fun k hk=>.inr hk) hm0 hm NT).mono ?_;rintro e w9 ⟨rfl,m9,k9⟩;have hX:=wY (bs:=bs) (most:=most) (zl:=zl) (zd:=zd) hXl hXd (8 * bs.length+1) s3 NT;have kk9:Ch (fun k=>W.heap.size<=k) W w9:=(((kk6.trans n7 fun _ _ hf=>hf.elim).trans n8 fun _ _ hf=>hf.elim).trans k9 fun i _ hn=>Nat.le_of_not_lt fun hlt=>hn (.inl (.inl (.inl (.inl hlt)))));have m9:=m9.less (K':=fun k=>k<W.heap.size∨k=h) (fun k hk=>.inl (.inl (.inl hk))) (.inr rfl);generalize bH bs most zl zd (8 * bs.length+1) s3=X at *;have z_:=ah m9.XR;have hX6:=m9.qm.1;have Vp:sk.p+3<=X.p:=Nat.le_trans Og hX.1;clear m6 m7 m8 d36 d37 Og;go_wp2_with fail;go_roundw
          case rel=>exact EP.next jT m9 kk9 hX.2 (by omega) Vp
          case measure=>rw[z_.out,LG.out];omega
         ·have hkt:=Ph.out.trans (Bq (bs:=bs) (most:=most) tV hzl hzd)
          rw[hkt]at jT;clear hkt Ph;have Hez:=ah tV;have LC:=ah hzl;have Hzd:=ah hzd;clear tV hzl hzd;go_wp2_with fail;refine (z1t m6 _ A1 _ c1 zl hR1 rfl LC.out).mono ?_;rintro e w7 ⟨t1,rfl,⟨m7,k7⟩,ht1,n7⟩;have m7:=m6.keep n7;have hR2:=hR2.nx (by decide) n7;have d37:=m7.dI;rw[Hez.out]at d37;go_wp2_with fail;refine (z2N m7 _ A2 _ c2 zd hR2 rfl hXd Hzd.out).mono ?_;rintro e w8 ⟨rfl,m8,k8⟩;go_wp2_with fail;refine (tN m8 (Pq (by decide)) _ _).mono ?_;rintro e w9 ⟨rfl,rfl⟩;have kk9:Ch (fun k=>W.heap.size<=k) W w8:=(kk6.trans n7 fun _ _ hf=>hf.elim).trans k8 fun i _ hn=>Nat.le_of_not_lt fun hlt=>hn (.inl (.inl (.inl hlt)));have m9:=m8.less (K':=fun k=>k<W.heap.size∨k=h) (fun k hk=>.inl (.inl hk)) (.inr rfl);have hXq:sk.p+3<=(aN 4 s3).p:=by rw[oI.2];exact Og
          have hXo:((aN 4 s3).out.length:Int)<=most:=by rw[oI.1];exact NT
          generalize aN 4 s3=X at *;have z_:=ah m9.XR;have hX6:=m9.qm.1;clear m6 m7 m8 d36 d37 Og;go_wp2_with fail;go_roundw
          case rel=>exact EP.next jT m9 kk9 hXo (by omega) hXq
          case measure=>rw[z_.out,LG.out];omega
        ·have hkt:=Ph.out.trans (Bv (bs:=bs) (most:=most) (zd:=zd) tV hzl)
         rw[hkt]at jT;clear hkt Ph;have hef:(aN 4 s3).e=4:=z4G tV;have Hez:=ah tV;have LC:=ah hzl;clear tV hzl;go_wp2_with fail;refine (z2N m6 _ A1 _ c1 zl hR1 rfl hXl LC.out).mono ?_;rintro e w7 ⟨rfl,m7,k7⟩;have kk7:Ch (fun k=>W.heap.size<=k) W w7:=kk6.trans k7 fun i _ hn=>Nat.le_of_not_lt fun hlt=>hn (.inl (.inl hlt));have m9:=m7.less (K':=fun k=>k<W.heap.size∨k=h) (fun k hk=>.inl hk) (.inr rfl);have hXq:sk.p+3<=(aN 4 s3).p:=by rw[oI.2];exact Og
         have hXo:((aN 4 s3).out.length:Int)<=most:=by rw[oI.1];exact NT
         have d37:=m9.dI;rw[hef]at d37;have Hef:=ah hef;clear hef;generalize aN 4 s3=X at *;have z_:=ah m9.XR;have hX6:=m9.qm.1;clear m6 m7 d36 Og;go_wp2_with fail;go_roundw
         case rel=>exact EP.next jT m9 kk7 hXo (by omega) hXq
         case measure=>rw[z_.out,LG.out];omega
       ·have hkt:=Ph.out.trans (FX (bs:=bs) (most:=most) (zl:=zl) (zd:=zd) tV)
        rw[hkt]at jT;have hfin:mQ bs most (8 * bs.length+1) ⟨0,[],0⟩=s3:=(by rw[jT.out,if_neg (fun hh=>tV hh.1)]);clear hkt Ph jT;have he3:(s3.e !=0)=true:=by rw[bne_iff_ne];exact tV
        have hie:=z5k hm0 hm hfin tV;have rZ:=ah hie;clear hfin tV hie;go_wp2_with fail;go_quiet (fail)
        go_wp2_with fail;refine bodyPost_ret (v:=.tuple #[.slice none 0 0,.int .i64 0,.int .i64 s3.e]) (by simp[results,go_sem]) rfl ?_;refine ⟨.slice none 0 0,?_,?_,(kk6.drewN _),by rw[rZ.out];intro x hx;cases hx⟩
        ·rw[rZ.out];rfl
        ·rw[rZ.out];exact World.ownsRow_nil _ _ _ _
      ·have hk3:kd=3:=by have hlt:=AU bs 2 s1;rw[Hq2.out]at hlt;simp only at hlt;omega
       have hkd:g_ bs most kd s2=aN 4 s2:=by unfold g_;rw[if_neg hk0,if_neg hk1,if_neg hk2]
       have hk2':((kd:Int)==2)=false:=by rw[beq_eq_false_iff_ne];omega
       rw[hkd]at jT;have tV:(aN 4 s2).e≠0:=Pq (by decide);have hef:(aN 4 s2).e=4:=z4G He2.out;have hfin:mQ bs most (8 * bs.length+1) ⟨0,[],0⟩=aN 4 s2:=(by rw[jT.out,if_neg (fun hh=>tV hh.1)]);clear hkd jT kle;go_wp2_with fail;refine (PY m5 4).mono ?_;rintro e w6 ⟨rfl,m6,k6⟩;have kk6:Ch (fun k=>W.heap.size<=k) W w6:=kk5.trans k6 fun i _ hn=>Nat.le_of_not_lt fun hlt=>hn (.inl hlt);have d36:=m6.dI;generalize aN 4 s2=s3 at *;have he3:(s3.e !=0)=true:=by rw[bne_iff_ne];exact tV
       have hie:=z5k hm0 hm hfin tV;have rZ:=ah hie;clear hfin tV hie;go_wp2_with fail;go_quiet (fail)
       go_wp2_with fail;refine bodyPost_ret (v:=.tuple #[.slice none 0 0,.int .i64 0,.int .i64 s3.e]) (by simp[results,go_sem,hef]) rfl ?_;refine ⟨.slice none 0 0,?_,?_,(kk6.drewN _),by rw[rZ.out];intro x hx;cases hx⟩
       ·rw[rZ.out];rfl
       ·rw[rZ.out];exact World.ownsRow_nil _ _ _ _
   ·have he3:(s2.e !=0)=true:=by rw[bne_iff_ne];exact he2
    have hfin:mQ bs most (8 * bs.length+1) ⟨0,[],0⟩=s2:=by
     rw[jv.out,XE Hq1.out Hq2.out he2]
    have hie:=z5k hm0 hm hfin he2;have rZ:=ah hie;clear hfin he2 hie;go_wp2_with fail;go_quiet (fail)
    go_wp2_with fail;refine bodyPost_ret (v:=.tuple #[.slice none 0 0,.int .i64 0,.int .i64 s2.e]) (by simp[results,go_sem]) rfl ?_;refine ⟨.slice none 0 0,?_,?_,(kk5.drewN _),by rw[rZ.out];intro x hx;cases hx⟩
    ·rw[rZ.out];rfl
    ·rw[rZ.out];exact World.ownsRow_nil _ _ _ _
  ·have hfin:mQ bs most (8 * bs.length+1) ⟨0,[],0⟩=sk:=by rw[PO.out,if_neg hgo]
   have fG:=ah hfin;by_cases he:sk.e=0
   ·have hl0:l≠0:=fun h0=>hgo ⟨h0,he⟩
    have hl0':((l:Int)==0)=false:=by rw[beq_eq_false_iff_ne];omega
    have hie:=NK hm0 hm hfin he;have rZ:=ah hie;rw[he]at d3;clear hfin he hie hgo hf PO;obtain ⟨vo,m3⟩:=mk;have d30:w3.cell? ⟨r,0,none⟩=some (.pointer (some ⟨g,0,none⟩)):=m3.blk.cell 0;go_wp2_with fail;refine (vW g h bs sk.p w3 m3.Ar).mono ?_;rintro e w4 ⟨rfl,hr4,k4⟩;have m4:=m3.bits hr4 k4;have d40:w4.cell? ⟨r,0,none⟩=some (.pointer (some ⟨g,0,none⟩)):=m4.blk.cell 0;have d41:w4.cell? ⟨r,1,none⟩=some vo:=m4.blk.cell 1;have M4:=ah m4;have Hr4:=ah hr4;have kk4:Ch (fun k=>W.heap.size<=k) W w4:=kk.trans k4 fun i _ hn=>by omega
    clear m4 hr4 m3 k4 kk;go_wp2_with fail;go_quiet ((first|(go_at_call 286;exact VG (QZ g h bs _ _ (Hr4.out.nx (Dr.CP _ _).nx)))|(go_at_call 286;exact qg (QZ g h bs _ _ (Hr4.out.nx (Dr.CP _ _).nx)))))
    go_wp2_with fail;refine bodyPost_ret (v:=.tuple #[vo,.int .i64 (((sk.p+7) / 8:Nat):Int),.int .i64 0]) (by simp[results,go_sem]) rfl ?_;refine ⟨vo,?_,?_,kk4.drewN _,by rw[rZ.out];exact M4.out.okb⟩
    ·rw[rZ.out]
    ·rw[rZ.out];exact M4.out.own
   ·have he1:(sk.e==0)=false:=by rw[beq_eq_false_iff_ne];exact he
    have he2:(sk.e !=0)=true:=by rw[bne_iff_ne];exact he
    have hie:=z5k hm0 hm hfin he;have rZ:=ah hie;clear hfin he hie hgo hf PO;by_cases hl0:l=0
    ·subst hl0
     go_wp2_with fail;go_quiet (fail)
     go_wp2_with fail;refine bodyPost_ret (v:=.tuple #[.slice none 0 0,.int .i64 0,.int .i64 sk.e]) (by simp[results,go_sem]) rfl ?_;refine ⟨.slice none 0 0,?_,?_,(kk.drewN _),by rw[rZ.out];intro x hx;cases hx⟩
     ·rw[rZ.out];rfl
     ·rw[rZ.out];exact World.ownsRow_nil _ _ _ _
    ·have hl1:((l:Int)==0)=false:=by rw[beq_eq_false_iff_ne];omega
     go_wp2_with fail;go_quiet (fail)
     go_wp2_with fail;refine bodyPost_ret (v:=.tuple #[.slice none 0 0,.int .i64 0,.int .i64 sk.e]) (by simp[results,go_sem]) rfl ?_;refine ⟨.slice none 0 0,?_,?_,(kk.drewN _),by rw[rZ.out];intro x hx;cases hx⟩
     ·rw[rZ.out];rfl
     ·rw[rZ.out];exact World.ownsRow_nil _ _ _ _
end
end Go.Proofs.YtpakjclpjcngmaaGreat
namespace Go.Proofs.YtpakjclpjcngmaaGreat
theorem DV {α:Type} {l:List α} {i:Nat} {x d:α} (h:l[i]?=some x):l.getD i d=x:=by simp[List.getD,h]
theorem XU {zs:List Int} {s:Nat} (hs:s<zs.length) (h0:0<zs[s]) (h15:zs[s]<=15) {n:Nat} (hn:n<dR zs s):dD zs n<dD zs 15:=by
 have hle:=z60 hs (by omega);have hr:=yJ hs (by omega);have h1:=z4q zs n (dR zs s-1-n);have h2:=z4q zs (dR zs s) (15-dR zs s);rw[show n+(dR zs s-1-n)=dR zs s-1 by omega]at h1;rw[show dR zs s+(15-dR zs s)=15 by omega]at h2
 have e:dD zs (dR zs s)=dD zs (dR zs s-1)+cnt zs (dR zs s):=by
  obtain ⟨m,hm⟩:∃m,dR zs s=m+1:=⟨dR zs s-1,by omega⟩;rw[hm];rfl
 omega
theorem wB {zs:List Int} {bs:List Nat} {p s:Nat} (hs:s<zs.length) (h0:0<zs[s]) (h15:zs[s]<=15) (hw:msb (oH bs p) (dR zs s)=iV zs s) (hp:p+dR zs s<=8 * bs.length):
 dL zs bs p 15 0=((s:Int),0,p+dR zs s):=by
 have hle:=z60 hs (by omega)
 have key:∀k n,n+k=15->n<dR zs s->dL zs bs p k n=((s:Int),0,p+dR zs s):=by
  intro k;induction k with
  |zero=>intro n hn h;omega
  |succ k ih=>
   intro n hn h;have h1:=XU hs h0 h15 h;unfold dL;rw[if_neg (by omega),if_neg (by omega)];by_cases hl:n+1=dR zs s
   ·have hr:=yJ hs (by omega)
    have hg:=pI zs s hs h0 h15;have hc:iV zs s=2 * bZ zs n+rank zs (n+1) s:=by unfold iV;rw[←hl,Nat.add_sub_cancel]
    rw[←hl]at hr hg hw ⊢;rw[hw,if_pos (by omega),hc,Nat.add_sub_cancel_left,DV (by simpa using hg)];rfl
   ·have hpa:=Rl hs h0 (z6v bs p) hw (n:=n+1) (by omega)
    unfold Past at hpa;simp only[bZ]at hpa;rw[if_neg (by omega)];exact ih (n+1) (by omega) (by omega)
 exact key 15 0 rfl (by omega)
theorem RU {f:Nat->Nat} {v n:Nat} (h:∀i,i<n->f i=uD (v.testBit (n-1-i))):∀k,k<=n->msb f k=v / 2 ^ (n-k) % 2 ^ k:=by
 intro k;induction k with
 |zero=>intro _;simp[msb,Nat.mod_one]
 |succ k ih=>
  intro hk;simp only[msb];rw[ih (by omega),h k (by omega),Nat.testBit_eq_decide_div_mod_eq,zW]
  have e1:v / 2 ^ (n-k)=v / 2 ^ (n-(k+1)) / 2:=by
   rw[Nat.div_div_eq_div_mul,←Nat.pow_succ];congr 2
   omega
  rw[e1,show n-1-k=n-(k+1) by omega,Nat.pow_succ,Nat.mul_comm (2 ^ k) 2,Nat.mod_mul];omega
end Go.Proofs.YtpakjclpjcngmaaGreat
namespace Go.Proofs.YtpakjclpjcngmaaGreat.Fix
theorem z6p (L:List Bool) (p:Nat) (n:Nat) (v:Nat) (h:∀i,i<n->L.getD (p+i) false=v.testBit i):dS (pack L) p n=v % 2 ^ n:=by
 induction n with
 |zero=>simp[dS,Nat.mod_one]
 |succ n ih=>
  simp only[dS];rw[ih (fun i hi=>h i (by omega)),z3H,h n (by omega),Nat.testBit_eq_decide_div_mod_eq,zW,Nat.mod_pow_succ,Nat.mul_comm]
theorem DW (a b c:List Bool) (i:Nat) (hi:i<b.length):(a++b++c).getD (a.length+i) false=b.getD i false:=by
 simp only[List.getD];rw[List.append_assoc,List.getElem?_append_right (by omega),show a.length+i-a.length=i by omega,List.getElem?_append_left hi]
theorem uy (v n i:Nat) (hi:i<n):(sD v n).getD i false=v.testBit (n-1-i):=by
 rw[uq];simp[List.getD,hi]
theorem Ci {V n:Nat} {L:List Bool} {P:Nat} {a c:List Bool} (hL:L=a++sD V n++c) (hP:P=a.length) (hc:V<2 ^ n):msb (oH (pack L) P) n=V:=by
 have h:∀i,i<n->oH (pack L) P i=uD (V.testBit (n-1-i)):=by
  intro i hi;unfold oH;rw[z3H,hL,hP,DW _ _ _ _ (by rw[PE];exact hi),uy _ _ _ hi]
 rw[RU h _ (Nat.le_refl _),Nat.sub_self,Nat.pow_zero,Nat.div_one];exact Nat.mod_eq_of_lt hc
theorem qK:z12.length=288:=by decide+kernel
theorem IK {x:Nat} (h:x<288):∃hx:x<z12.length,0<z12[x]/\z12[x]<=15:=by
 refine ⟨by rw[qK];exact h,?_⟩;have e:z12[x]'(by rw[qK];exact h)=if x<144∨279<x then 8 else if x<256 then 9 else 7:=by simp[z12]
 rw[e];split
 ·omega
 ·split<;>omega
theorem VX {L a c:List Bool} {x V n P:Nat} {out:List Nat} (hx:x<288) (hw:iV z12 x=V) (hn:dR z12 x=n) (hV:V<2 ^ n) (hL:L=a++sD V n++c) (hP:P=a.length):
 dF (pack L) z12 ⟨P,out,0⟩=((x:Int),⟨P+n,out,0⟩):=by
 obtain ⟨hxl,h0,h15⟩:=IK hx;have hlen:P+n<=L.length:=by rw[hL,hP];simp only[List.length_append,PE];omega
 have h:=wB (zs:=z12) (bs:=pack L) (p:=P) hxl h0 h15 (by rw[hn,hw];exact Ci hL hP hV) (by rw[hn,Fb];omega);unfold dF;rw[if_neg (by simp)];simp only;rw[h,hn]
theorem qp {bs:List Nat} {n p v:Nat} {out:List Nat} (h:p+n<=8 * bs.length) (hv:dS bs p n=v):aC bs n ⟨p,out,0⟩=(v,⟨p+n,out,0⟩):=by
 unfold aC;rw[if_neg (by simp),if_pos h,hv]
theorem yU (v n i:Nat) (hi:i<n):(lV v n).getD i false=v.testBit i:=by
 rw[yS];simp[List.getD,hi]
theorem wC:∀s,s<288->iV z12 s=CZ s/\dR z12 s=tJ s:=by decide+kernel
theorem IX:∀s,s<32->iV rU s=s/\dR rU s=5:=by decide+kernel
theorem WU {s:Nat} (h:s<288):CZ s<2 ^ tJ s:=by
 unfold CZ tJ;by_cases h1:s<144
 ·rw[if_pos h1,if_pos h1];omega
 ·rw[if_neg h1,if_neg h1]
  by_cases h2:s<256
  ·rw[if_pos h2,if_pos h2];omega
  ·rw[if_neg h2,if_neg h2]
   by_cases h3:s<280
   ·rw[if_pos h3,if_pos h3];omega
   ·rw[if_neg h3,if_neg h3];omega
theorem z5A {L a c:List Bool} {s P:Nat} {out:List Nat} (hs:s<288) (hL:L=a++jh s++c) (hP:P=a.length):
 dF (pack L) z12 ⟨P,out,0⟩=((s:Int),⟨P+(jh s).length,out,0⟩):=by
 have h:=VX (out:=out) hs (wC s hs).1 (wC s hs).2 (WU hs) hL hP;rw[h];unfold jh;rw[PE]
theorem IL {x:Nat} (h:x<32):∃hx:x<rU.length,0<rU[x]/\rU[x]<=15:=by
 have hl:rU.length=32:=List.length_replicate ..;have e:rU[x]'(by rw[hl];exact h)=5:=List.getElem_replicate ..;exact ⟨by rw[hl];exact h,by rw[e];omega⟩
theorem BA {L a c:List Bool} {s P:Nat} {out:List Nat} (hs:s<32) (hL:L=a++sD s 5++c) (hP:P=a.length):
 dF (pack L) rU ⟨P,out,0⟩=((s:Int),⟨P+5,out,0⟩):=by
 obtain ⟨hxl,h0,h15⟩:=IL hs;have hlen:P+5<=L.length:=by rw[hL,hP];simp only[List.length_append,PE];omega
 obtain ⟨hw,hn⟩:=IX s hs;have h:=wB (zs:=rU) (bs:=pack L) (p:=P) hxl h0 h15 (by rw[hn,hw];exact Ci hL hP (by omega)) (by rw[hn,Fb];omega);unfold dF;rw[if_neg (by simp)];simp only;rw[h,hn]
theorem KO {L a c:List Bool} {m n P:Nat} {out:List Nat} (hL:L=a++lV m n++c) (hP:P=a.length):aC (pack L) n ⟨P,out,0⟩=(m % 2 ^ n,⟨P+n,out,0⟩):=by
 have hlen:P+n<=L.length:=by rw[hL,hP];simp only[List.length_append,Vj];omega
 have hv:dS (pack L) P n=m % 2 ^ n:=z6p L P n m fun i hi=>by
  rw[hL,hP,DW _ _ _ _ (by rw[Vj];exact hi),yU _ _ _ hi]
 exact qp (by rw[Fb];omega) hv
theorem Qj {b m:Nat}:∀f x,(nN b m f x=x∨(x<nN b m f x/\b * 2 ^ (nN b m f x-1)<=m))/\(nN b m f x<x+f->m<b * 2 ^ nN b m f x):=by
 intro f;induction f with
 |zero=>intro x;exact ⟨.inl rfl,fun h=>by simp only[nN]at h;omega⟩
 |succ f ih=>
  intro x;unfold nN;by_cases h:b * 2 ^ x<=m
  ·rw[if_pos h]
   obtain ⟨h1,h2⟩:=ih (x+1);refine ⟨.inr ?_,fun hl=>h2 (by omega)⟩;rcases h1 with h1|h1
   ·rw[h1];exact ⟨by omega,by simpa using h⟩
   ·exact ⟨by omega,h1.2⟩
  ·rw[if_neg h]
   exact ⟨.inl rfl,fun _=>by omega⟩
theorem NG:∀m,m<255->8<=m->1<=jG m/\jG m<=5/\4<=m / 2 ^ jG m/\m / 2 ^ jG m<8:=by decide+kernel
theorem IY {e:Nat} (h2:2<=e) (h:e<32768):iK e<=13/\2<=e / 2 ^ iK e/\e / 2 ^ iK e<4:=by
 obtain ⟨h1,h3⟩:=Qj (b:=4) (m:=e) 20 0;have hx:iK e=nN 4 e 20 0:=rfl;rw[←hx]at h1 h3;generalize iK e=x at *
 have hx13:x<=13:=by
  rcases h1 with h1|⟨_,h1⟩
  ·omega
  ·rcases Nat.lt_or_ge 13 x with h5|h5
   ·have:=Nat.pow_le_pow_right (show 0<2 by omega) (show 13<=x-1 by omega)
    omega
   ·exact h5
 have hlt:=h3 (by omega);have hp:0<2 ^ x:=Nat.two_pow_pos x;refine ⟨hx13,?_,Nat.div_lt_of_lt_mul (by rw[Nat.mul_comm];exact hlt)⟩;rw[Nat.le_div_iff_mul_le hp];rcases h1 with h1|⟨h0,h1⟩
 ·rw[h1];omega
 ·have:2 ^ x=2 * 2 ^ (x-1):=by rw[←Nat.pow_succ',show (x-1).succ=x by omega]
  omega
theorem WY {L a c:List Bool} {n P:Nat} {out:List Nat} (h3:3<=n) (h258:n<=258) (hL:L=a++nM n++c) (hP:P=a.length):
 ∃(k:Nat) (s1:Inf),k<=28/\dF (pack L) z12 ⟨P,out,0⟩=(((257+k:Nat):Int),s1)/\s1.e=0/\b_ (pack L) k s1=(n,⟨P+(nM n).length,out,0⟩):=by
 unfold nM at hL ⊢;by_cases e1:n=258
 ·rw[if_pos e1]at hL ⊢
  refine ⟨28,_,by omega,z5A (by omega) hL hP,rfl,?_⟩;unfold b_;rw[if_neg (by omega),if_pos rfl,e1]
 ·rw[if_neg e1]at hL ⊢
  by_cases e2:n<11
  ·rw[if_pos e2]at hL ⊢
   refine ⟨n-3,⟨P+(jh (254+n)).length,out,0⟩,by omega,?_,rfl,?_⟩
   ·have h:=z5A (s:=254+n) (out:=out) (by omega) hL hP
    rw[show 257+(n-3)=254+n by omega];exact h
   ·unfold b_
    rw[if_pos (by omega),show n-3+3=n by omega]
  ·rw[if_neg e2]at hL ⊢
   obtain ⟨m,hm⟩:∃m,n-3=m:=⟨_,rfl⟩;rw[hm]at hL ⊢;obtain ⟨x1,x2,x3,x4⟩:=NG m (by omega) (by omega);have hdm:=Nat.div_add_mod m (2 ^ jG m);generalize jG m=x at *;generalize hq:m / 2 ^ x=q at *;have hL1:L=a++jh (257+4 * x+q)++(lV m x++c):=by rw[hL];simp only[List.append_assoc]
   have hL2:L=(a++jh (257+4 * x+q))++lV m x++c:=by rw[hL];simp only[List.append_assoc]
   refine ⟨4 * x+q,⟨P+(jh (257+4 * x+q)).length,out,0⟩,by omega,?_,rfl,?_⟩
   ·have h:=z5A (s:=257+4 * x+q) (out:=out) (by omega) hL1 hP
    rw[show 257+(4 * x+q)=257+4 * x+q by omega];exact h
   ·have hk1:(4 * x+q) % 4=q-4:=by omega
    have hk2:(4 * x+q) / 4-1=x:=(by omega);unfold b_;rw[if_neg (by omega),if_neg (by omega),hk1,hk2,KO hL2 (by rw[List.length_append,hP])];simp only[List.length_append,Vj,←Nat.add_assoc];rw[show 4+(q-4)=q by omega,Nat.mul_comm q,Nat.add_assoc 3,hdm,show 3+m=n by omega]
theorem TR {L a c:List Bool} {e P:Nat} {out:List Nat} (he:e<32768) (hL:L=a++A_ e++c) (hP:P=a.length):
 ∃(k:Nat) (s1:Inf),k<=29/\dF (pack L) rU ⟨P,out,0⟩=((k:Int),s1)/\s1.e=0/\fP (pack L) k s1=(e+1,⟨P+(A_ e).length,out,0⟩):=by
 unfold A_ at hL ⊢;by_cases e1:e<2
 ·rw[if_pos e1]at hL ⊢
  refine ⟨e,_,by omega,BA (by omega) hL hP,rfl,?_⟩;unfold fP;rw[if_pos e1,PE]
 ·rw[if_neg e1]at hL ⊢
  obtain ⟨x1,x2,x3⟩:=IY (by omega) he;have hdm:=Nat.div_add_mod e (2 ^ iK e);generalize iK e=x at *;generalize hq:e / 2 ^ x=q at *;have hL1:L=a++sD (2 * x+q) 5++(lV e x++c):=by rw[hL];simp only[List.append_assoc]
  have hL2:L=(a++sD (2 * x+q) 5)++lV e x++c:=by rw[hL];simp only[List.append_assoc]
  refine ⟨2 * x+q,_,by omega,BA (by omega) hL1 hP,rfl,?_⟩;have hk1:(2 * x+q) % 2=q-2:=by omega
  have hk2:(2 * x+q) / 2-1=x:=by omega
  unfold fP;rw[if_neg (by omega),hk1,hk2,KO hL2 (by rw[List.length_append,hP,PE])];simp only[List.length_append,Vj,PE,←Nat.add_assoc];rw[show 2+(q-2)=q by omega,Nat.mul_comm q,Nat.add_assoc 1,hdm,Nat.add_comm 1 e]
end Go.Proofs.YtpakjclpjcngmaaGreat.Fix
