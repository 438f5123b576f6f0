/- Contracts and plain laws that the last text rests on. Conditions: each theorem states its own. -/
import Derived.Test.YtfljcllpmbnjaaaGreatKdQ14
import Derived.Test.YtfljcllpmbnjaaaGreatKdPdInfC
import Derived.Test.YtfljcllpmbnjaaaGreatKdQ6
set_option maxRecDepth 100000
set_option maxHeartbeats 8000000
set_option linter.unusedVariables false
namespace Go.Proofs.YtfljcllpmbnjaaaGreat
open Go.RowKit
def Xd:Prop:=∀(K:Nat->Prop) (w:World) (r g h:Nat) (bs:List Nat) (most:Int) (s:Inf),bJ K w r g h bs most s->
 Calls Tryz.prog 156 #[.pointer (some ⟨r,0,none⟩)] w fun en w'=>∃A1 c1 A2 c2,∃D:Nat->Prop,
  en=.returned (.tuple #[.slice A1 (aH bs s).1.1.length c1,.slice A2 (aH bs s).1.2.length c2])/\bJ (fun k=>K k∨D k) w' r g h bs most (aH bs s).2/\Ch (fun k=>¬K k) w w'/\(∀k,D k->w.heap.size<=k)/\
  Rd w' D 1 A1 (aH bs s).1.1.length (il (aH bs s).1.1)/\Rd w' D 1 A2 (aH bs s).1.2.length (il (aH bs s).1.2)
def Au (W:World) (r g h:Nat) (bs:List Nat) (most:Int) (i:Value) (wr:World):Prop:=
 ∃(l:Nat) (f:Nat) (sk:Inf),i=.int .i64 l/\bJ (fun k=>k<W.heap.size∨k=h) wr r g h bs most sk/\Ch (fun k=>W.heap.size<=k) W wr/\(sk.out.length:Int)<=most/\
  (l=0/\sk.e=0->8 * bs.length+1<=f+sk.p)/\
  Hid (jE bs most (8 * bs.length+1) ⟨0,[],0⟩=if l=0/\sk.e=0 then jE bs most f sk else sk)
def tH (W:World) (bs:List Nat) (most:Int) (en:Ending) (w':World):Prop:=
 ∃v,en=.returned (.tuple #[v,.int .i64 ((jV bs most).2.1:Int),.int .i64 (jV bs most).2.2])/\w'.ownsRow 0 5 1 v (jV bs most).1.length (bl (jV bs most).1)/\Ch (fun k=>W.heap.size<=k) W w'/\okB (jV bs most).1
theorem Fa {bs:List Nat} {n:Nat} {s:Inf} (h:(aA bs n s).2.e=0):s.e=0/\(aA bs n s).2.p=s.p+n:=by
 unfold aA at h ⊢;by_cases h1:s.e≠0
 ·rw[if_pos h1]at h;exact absurd h h1
 ·rw[if_neg h1]at h ⊢
  by_cases h2:s.p+n<=8 * bs.length
  ·rw[if_pos h2];exact ⟨by simpa using h1,rfl⟩
  ·rw[if_neg h2]at h;simp at h
theorem NG {bs:List Nat} {most:Int} {f l1 kd:Nat} {s s1 s2:Inf} (h1:aA bs 1 s=(l1,s1)) (h2:aA bs 2 s1=(kd,s2)):
 jE bs most (f+1) s=if (if s2.e≠0 then s2 else fA bs most kd s2).e=0/\l1=0 then jE bs most f (if s2.e≠0 then s2 else fA bs most kd s2) else (if s2.e≠0 then s2 else fA bs most kd s2):=by
 have hb:Jw bs most s=(if s2.e≠0 then s2 else fA bs most kd s2):=by unfold Jw;simp only[h1,h2]
 rw[jE,hb,h1]
theorem vI (bs:List Nat) (n:Nat) (s:Inf):s.p<=(aA bs n s).2.p:=QD
theorem qg {bs:List Nat}:∀(k:Nat) (s:Inf),s.p<=(kH bs k s).p/\(kH bs k s).out.length<=s.out.length+k:=by
 intro k;induction k with
 |zero=>intro s;exact ⟨Nat.le_refl _,Nat.le_refl _⟩
 |succ k ih=>
  intro s;have h1:=vI bs 8 s;have h2:=A_ bs 8 s;unfold kH;generalize aA bs 8 s=q at *;by_cases he:q.2.e≠0
  ·rw[if_pos he,h2];exact ⟨h1,by omega⟩
  ·rw[if_neg he]
   have h3:=ih { q.2 with out:=q.2.out++[q.1]};refine ⟨Nat.le_trans h1 h3.1,Nat.le_trans h3.2 ?_⟩;simp only[List.length_append,List.length_singleton];rw[h2];omega
theorem MN (e:Int) (s:Inf):(aN e s).p=s.p/\(aN e s).out=s.out:=⟨lS.2,lS.1⟩
theorem uI {bs:List Nat} {most:Int} {n m:Nat} {s3:Inf} (h:(s3.out.length:Int)<=most):s3.p<=(rD bs most n m s3).p/\((rD bs most n m s3).out.length:Int)<=most:=by
 unfold rD;obtain ⟨s4,hs4⟩:∃s4,(if s3.e=0/\n≠65535-m then aN 4 s3 else s3)=s4:=⟨_,rfl⟩;have h4:s4.p=s3.p/\s4.out=s3.out:=by rw[←hs4];split;exact MN 4 s3;exact ⟨rfl,rfl⟩
 simp only[hs4];by_cases he:s4.e≠0
 ·rw[if_pos he,h4.1,h4.2];exact ⟨Nat.le_refl _,h⟩
 ·rw[if_neg he]
  have hr:=Ug (most:=most) (n:=(n:Int)) (s:=s4);have hk:=z32 (most:=most) (n:=(n:Int)) (s:=s4) (by simpa using he);generalize aQ most (n:Int) s4=s5 at *;by_cases he5:s5.e≠0
  ·rw[if_pos he5,hr.1,hr.2,h4.1,h4.2];exact ⟨Nat.le_refl _,h⟩
  ·rw[if_neg he5]
   have hl:=qg (bs:=bs) n s5;have h5:=(hk (by simpa using he5)).2;rw[hr.1]at hl;exact ⟨by have:=hr.2;have:=h4.1;omega,by omega⟩
theorem BO {bs:List Nat} {most:Int} {s:Inf} (h:(s.out.length:Int)<=most):s.p<=(dV bs most s).p/\((dV bs most s).out.length:Int)<=most:=by
 unfold dV;have h1:=vI bs 16 { s with p:=(s.p+7) / 8 * 8};have h2:=A_ bs 16 { s with p:=(s.p+7) / 8 * 8};generalize aA bs 16 { s with p:=(s.p+7) / 8 * 8}=q1 at *;have h3:=vI bs 16 q1.2;have h4:=A_ bs 16 q1.2;generalize aA bs 16 q1.2=q2 at *;have h5:=uI (bs:=bs) (most:=most) (n:=q1.1) (m:=q2.1) (s3:=q2.2) (by rw[h4,h2];exact h);simp only at h1;exact ⟨by omega,h5.2⟩
theorem Zh:bH jF=0:=by decide+kernel
theorem Zg:bH z16=0:=by decide+kernel
theorem Zq {bs:List Nat} {most:Int} {zl zd:List Int} {s:Inf} (he:s.e=0) (hl:bH zl=0) (hd:bH zd=0):FU bs most zl zd s=aP bs most zl zd (8 * bs.length+1) s:=by
 have h1:jq zl s=s:=by unfold jq;rw[if_pos hl]
 have h2:jq zd s=s:=by unfold jq;rw[if_pos hd]
 unfold FU;rw[h1,h2,if_neg (by simp[he]),if_neg (by simp[he])]
theorem Tq {bs:List Nat} {most:Int} {f l1 kd:Nat} {s s1 s2:Inf} (h1:aA bs 1 s=(l1,s1)) (h2:aA bs 2 s1=(kd,s2)) (he:s2.e=0):
 jE bs most (f+1) s=if (fA bs most kd s2).e=0/\l1=0 then jE bs most f (fA bs most kd s2) else fA bs most kd s2:=by
 have h:=NG (most:=most) (f:=f) h1 h2;rw[if_neg (show ¬s2.e≠0 from fun hn=>hn he)]at h;exact h
theorem Qj {bs:List Nat} {most:Int} {f l1 kd:Nat} {s s1 s2:Inf} (h1:aA bs 1 s=(l1,s1)) (h2:aA bs 2 s1=(kd,s2)) (he:s2.e≠0):
 jE bs most (f+1) s=s2:=by
 have h:=NG (most:=most) (f:=f) h1 h2;rw[if_pos he,if_neg (fun hh=>he hh.1)]at h;exact h
theorem XR {bs:List Nat} {most:Int} {s:Inf} (hm0:0<=most) (hm:most<=65536) (h:jE bs most (8 * bs.length+1) ⟨0,[],0⟩=s) (he:s.e≠0):jV bs most=([],0,s.e):=by
 unfold jV;rw[if_neg (by omega)];simp only[h];rw[if_pos he]
theorem Ij {bs:List Nat} {most:Int} {s:Inf} (hm0:0<=most) (hm:most<=65536) (h:jE bs most (8 * bs.length+1) ⟨0,[],0⟩=s) (he:s.e=0):jV bs most=(s.out,(s.p+7) / 8,0):=by
 unfold jV;rw[if_neg (by omega)];simp only[h];rw[if_neg (by simp[he])]
theorem xW {bs:List Nat} {most:Int} {zl zd:List Int} {s:Inf} (he:s.e=0) (hl:bH zl≠0):FU bs most zl zd s=aN 4 s:=by
 have h1:jq zl s=aN 4 s:=by unfold jq;rw[if_neg hl]
 unfold FU;rw[h1,if_neg (by simp[he]),if_pos (Jj (by decide))]
theorem xU {bs:List Nat} {most:Int} {zl zd:List Int} {s:Inf} (he:s.e=0) (hl:bH zl=0) (hd:bH zd≠0):FU bs most zl zd s=aN 4 s:=by
 have h1:jq zl s=s:=by unfold jq;rw[if_pos hl]
 have h2:jq zd s=aN 4 s:=by unfold jq;rw[if_neg hd]
 unfold FU;rw[h1,h2,if_neg (by simp[he]),if_neg (by simp[he]),aP,if_pos (Jj (by decide))]
theorem BK {bs:List Nat} {most:Int} {zl zd:List Int} {s:Inf} (he:s.e≠0):FU bs most zl zd s=s:=by
 unfold FU;rw[if_pos he]
section
variable {W : World} {bs : List Nat} {most : Int}
theorem Au.next {r g h f l1 q:Nat} {X:Inf} {w':World} (iw:Hid (jE bs most (8 * bs.length+1) ⟨0,[],0⟩=if X.e=0/\l1=0 then jE bs most f X else X)) (m:bJ (fun k=>k<W.heap.size∨k=h) w' r g h bs most X)
 (kk:Ch (fun k=>W.heap.size<=k) W w') (hol:(X.out.length:Int)<=most) (hf:8 * bs.length+1<=f+1+q) (hp:q+3<=X.p):Au W r g h bs most (.int .i64 l1) w':=
 ⟨l1,f,X,rfl,m,kk,hol,(fun _=>by omega),ah (by rw[iw.out];simp only[and_comm])⟩
set_option maxRecDepth 100000 in
theorem zn (hL:Xd) (D:Nat->Prop) (A:Option Addr) (c:Nat) (hb:Rd W D 1 A bs.length (bl bs)) (hk:okB bs) (hl:bs.length<=140737488355328) (hm0:0<=most) (hm:most<=65536):
 Calls Tryz.prog 127 #[.slice A bs.length c,.int .i64 most] W (tH W bs most):=by
 go_enter Tryz.func127,Tryz.ntmps127;go_wp2_with fail;with_reducible refine (ZG D A bs.length c bs W hb hl hk).mono ?_
 rintro e w1 ⟨g,h,rfl,hr,hg1,hh1,hg2,hh2,n1⟩;have hr1:=n1.size;obtain ⟨w2,hw2⟩:∃w2,w1.alloc (.cells #[.pointer (some ⟨g,0,none⟩),.slice none 0 0,.int .i64 most,.int .i64 0] 181)=w2:=⟨_,rfl⟩;obtain ⟨r,hrr⟩:∃r,w1.heap.size=r:=⟨_,rfl⟩
 have M0:Hid (bJ (fun k=>k<W.heap.size∨k=h) w2 r g h bs most ⟨0,[],0⟩):=ah (by
  rw[←hw2,←hrr];refine ⟨.slice none 0 0,dD.new _ _ _,hr.nx ((Ch.refl _ w1).alloc _),World.ownsRow_nil _ _ _ _,(by intro x hx;cases hx),.inr rfl,fun k hk=>?_⟩;have hsz:(w1.alloc (.cells #[.pointer (some ⟨g,0,none⟩),.slice none 0 0,.int .i64 most,.int .i64 0] 181)).heap.size=w1.heap.size+1:=by simp
  have hgh:h≠g:=by obtain ⟨_,_,_,_,hne,_⟩:=hr;exact hne
  rcases hk with hk|hk
  ·exact ⟨by omega,by omega,by omega,by simp[Value.ownBlock]⟩
  ·exact ⟨by omega,by omega,by omega,by simp[Value.ownBlock]⟩)
 have C0:Hid (Ch (fun k=>W.heap.size<=k) W w2):=ah (by rw[←hw2];exact (n1.mono fun _ _ hf=>hf.elim).alloc _);clear hr n1;go_wp2_with fail
 try simp only[hrr,hw2]
 have hrW:W.heap.size<=r:=by omega
 clear hrr hw2 hg2 hh2;go_loopw [8] (fun i wr=>Au W r g h bs most i wr) (fun _ wr=>(8 * (bs.length:Int)+1-Jv wr g 1).toNat)
 case atStart=>exact ⟨0,8 * bs.length+1,⟨0,[],0⟩,rfl,M0.out,C0.out,(by simpa using hm0),(fun _=>by simp),ah (by simp)⟩
 case round=>
  clear M0 C0;obtain ⟨w3,rfl⟩:∃w3:World,w3=wr:=⟨_,rfl⟩;obtain ⟨l,f,sk,rfl,mk,kk,hol,hf,AP⟩:=hrel;have d3:=mk.dB;have hp:=mk.nI.1;have Qy:=ah mk.Qp;by_cases hgo:l=0/\sk.e=0
  ·obtain ⟨rfl,he⟩:=hgo
   have hf:=hf ⟨rfl,he⟩;obtain ⟨f,rfl⟩:∃f',f=f'+1:=⟨f-1,by omega⟩;have hst:jE bs most (8 * bs.length+1) ⟨0,[],0⟩=jE bs most (f+1) sk:=(by rw[AP.out,if_pos ⟨rfl,he⟩]);have iw:=ah hst;rw[he]at d3;have He:=ah he;clear hst he AP;go_wp2_with fail;refine (EH mk 1 (by omega)).mono ?_;rintro e w4 ⟨rfl,m4,k4⟩;go_wp2_with fail;refine (EH m4 2 (by omega)).mono ?_;rintro e w5 ⟨rfl,m5,k5⟩;generalize hq1:aA bs 1 sk=q1 at *;obtain ⟨l1,s1⟩:=q1;generalize hq2:aA bs 2 s1=q2 at *;obtain ⟨kd,s2⟩:=q2;have Hq1:=ah hq1;have Hq2:=ah hq2;clear hq1 hq2;simp only at m4 m5 ⊢;have kk5:Ch (fun k=>W.heap.size<=k) W w5:=(kk.trans k4 fun i _ hn=>Nat.le_of_not_lt fun hlt=>hn (.inl hlt)).trans k5 fun i _ hn=>Nat.le_of_not_lt fun hlt=>hn (.inl hlt);have d35:=m5.dB;clear k4 k5 kk m4 mk;by_cases he2:s2.e=0
   ·have hpp:s2.p=sk.p+3:=by
     have h2:=Fa (bs:=bs) (n:=2) (s:=s1) (by rw[Hq2.out];exact he2);have h1:=Fa (bs:=bs) (n:=1) (s:=sk) (by rw[Hq1.out];exact h2.1);rw[Hq2.out]at h2;rw[Hq1.out]at h1
     have:=h1.2;have:=h2.2;simp only at *;omega
    have hst2:jE bs most (8 * bs.length+1) ⟨0,[],0⟩=if (fA bs most kd s2).e=0/\l1=0 then jE bs most f (fA bs most kd s2) else fA bs most kd s2:=by
     rw[iw.out,Tq Hq1.out Hq2.out he2]
    have VP:s2.out=sk.out:=by have h1:=A_ bs 1 sk;have h2:=A_ bs 2 s1;rw[Hq1.out]at h1;rw[Hq2.out]at h2;simp only at h1 h2;rw[h2,h1]
    have iR:=ah hst2;have YJ:=ah VP;have UM:=ah hpp;rw[he2]at d35;have He2:=ah he2;clear hst2 VP hpp he2 iw;have LW:(s2.out.length:Int)<=most:=by rw[YJ.out];exact hol
    by_cases hk0:kd=0
    ·have hkd:fA bs most kd s2=dV bs most s2:=by rw[hk0];rfl
     have Je:=ah hkd;have hk0':((kd:Int)==0)=true:=by rw[beq_iff_eq];omega
     clear hkd;subst hk0;go_wp2_with fail;refine (Dv m5 hm0 hm LW).mono ?_;rintro e w6 ⟨rfl,m6,k6⟩;have hX:=BO (bs:=bs) (most:=most) (s:=s2) LW;have qJ:sk.p+3<=(dV bs most s2).p:=by have:=UM.out;omega
     have wX:=ah m6.Qp;have hX6:=m6.nI.1;have kk6:Ch (fun k=>W.heap.size<=k) W w6:=kk5.trans k6 fun i _ hn=>Nat.le_of_not_lt fun hlt=>hn (.inl hlt);rw[Je.out]at iR;go_wp2_with fail;go_roundw
     case rel=>exact Au.next iR m6 kk6 hX.2 (by omega) qJ
     case measure=>rw[wX.out,Qy.out];omega
    ·have hk0':((kd:Int)==0)=false:=by rw[beq_eq_false_iff_ne];omega
     by_cases hk1:kd=1
     ·subst hk1
      have hkd:fA bs most 1 s2=FU bs most jF z16 s2:=rfl;have Je:=ah hkd;clear hkd;go_wp2_with fail;refine (Iu w5).mono ?_;rintro e w6 ⟨A1,c1,A2,c2,rfl,hR1,hR2,n6⟩;have m6:=m5.keep n6;have d36:=m6.dB;rw[He2.out]at d36;go_wp2_with fail;refine (z1n m6 _ A1 288 c1 jF hR1 (by decide+kernel) Zh).mono ?_;rintro e w7 ⟨t1,rfl,⟨m7,k7⟩,ht1,n7⟩;have m7:=m6.keep n7;have hR2:=hR2.nx (by decide) n7;have d37:=m7.dB;rw[He2.out]at d37;go_wp2_with fail;refine (z1n m7 _ A2 32 c2 z16 hR2 (by decide+kernel) Zg).mono ?_;rintro e w8 ⟨t2,rfl,⟨m8,k8⟩,ht2,n8⟩;have m8:=m7.keep n8;have ht1:=ht1.ch n8 (fun _ _ h=>h);go_wp2_with fail;refine (sN m8 t1 t2 jF z16 _ _ ht1 ht2 (fun k hk=>.inl (.inr hk)) (fun k hk=>.inr hk) hm0 hm LW).mono ?_;rintro e w9 ⟨rfl,m9,k9⟩;have hX:=tq (bs:=bs) (most:=most) (zl:=jF) (zd:=z16) (by decide) (by decide) (8 * bs.length+1) s2 LW
      have hkt:fA bs most 1 s2=aP bs most jF z16 (8 * bs.length+1) s2:=by
       rw[Je.out];exact Zq He2.out Zh Zg
      have kk9:Ch (fun k=>W.heap.size<=k) W w9:=((((kk5.trans n6 fun _ _ hf=>hf.elim).trans n7 fun _ _ hf=>hf.elim).trans n8 fun _ _ hf=>hf.elim).trans k9 fun i _ hn=>Nat.le_of_not_lt fun hlt=>hn (.inl (.inl (.inl (.inl hlt)))));have m9:=m9.less (K':=fun k=>k<W.heap.size∨k=h) (fun k hk=>.inl (.inl (.inl hk))) (.inr rfl);rw[hkt]at iR;generalize aP bs most jF z16 (8 * bs.length+1) s2=X at *;have wX:=ah m9.Qp;have hX6:=m9.nI.1;have qJ:sk.p+3<=X.p:=by have:=UM.out;have:=hX.1;omega
      clear hkt Je m6 m7 m8 d36 d37;go_wp2_with fail;go_roundw
      case rel=>exact Au.next iR m9 kk9 hX.2 (by omega) qJ
      case measure=>rw[wX.out,Qy.out];omega
     ·have hk1':((kd:Int)==1)=false:=by rw[beq_eq_false_iff_ne];omega
      have kle:∀(i:Nat),¬i<W.heap.size->True:=fun _ _=>trivial;by_cases hk2:kd=2
      ·subst hk2
       have hkd:fA bs most 2 s2=FU bs most (aH bs s2).1.1 (aH bs s2).1.2 (aH bs s2).2:=rfl;have Je:=ah hkd;clear hkd kle;go_wp2_with fail;refine (hL _ w5 r g h bs most s2 m5).mono ?_;rintro e w6 ⟨A1,c1,A2,c2,D2,rfl,m6,k6,hD2,hR1,hR2⟩;have hX6:=zf (bs:=bs) (s:=s2);generalize aH bs s2=L at *;obtain ⟨⟨zl,zd⟩,s3⟩:=L;obtain ⟨qJ,UH,YE,hXd⟩:=hX6;simp only at *;have kk6:Ch (fun k=>W.heap.size<=k) W w6:=kk5.trans k6 fun i _ hn=>Nat.le_of_not_lt fun hlt=>hn (.inl hlt);have d36:=m6.dB;have Io:(s3.out.length:Int)<=most:=by rw[UH];exact LW
       have Iq:sk.p+3<=s3.p:=by have:=UM.out;omega
       clear UH kk5 d35 qJ;by_cases qH:s3.e=0
       ·rw[qH]at d36
        by_cases hzl:bH zl=0
        ·by_cases hzd:bH zd=0
         ·have hkt:=Je.out.trans (Zq (bs:=bs) (most:=most) qH hzl hzd)
          rw[hkt]at iR;clear hkt Je;have YL:=ah qH;have FD:=ah hzl;have Xf:=ah hzd;clear qH hzl hzd;go_wp2_with fail;refine (z1n m6 _ A1 _ c1 zl hR1 rfl FD.out).mono ?_;rintro e w7 ⟨t1,rfl,⟨m7,k7⟩,ht1,n7⟩;have m7:=m6.keep n7;have hR2:=hR2.nx (by decide) n7;have d37:=m7.dB;rw[YL.out]at d37;go_wp2_with fail;refine (z1n m7 _ A2 _ c2 zd hR2 rfl Xf.out).mono ?_;rintro e w8 ⟨t2,rfl,⟨m8,k8⟩,ht2,n8⟩;have m8:=m7.keep n8;have ht1:=ht1.ch n8 (fun _ _ h=>h);go_wp2_with fail;refine (sN m8 t1 t2 zl zd _ _ ht1 ht2 (fun k hk=>.inl (.inr hk)) (fun k hk=>.inr hk) hm0 hm Io).mono ?_;rintro e w9 ⟨rfl,m9,k9⟩;have hX:=tq (bs:=bs) (most:=most) (zl:=zl) (zd:=zd) YE hXd (8 * bs.length+1) s3 Io;have kk9:Ch (fun k=>W.heap.size<=k) W w9:=(((kk6.trans n7 fun _ _ hf=>hf.elim).trans n8 fun _ _ hf=>hf.elim).trans k9 fun i _ hn=>Nat.le_of_not_lt fun hlt=>hn (.inl (.inl (.inl (.inl hlt)))));have m9:=m9.less (K':=fun k=>k<W.heap.size∨k=h) (fun k hk=>.inl (.inl (.inl hk))) (.inr rfl);generalize aP bs most zl zd (8 * bs.length+1) s3=X at *;have wX:=ah m9.Qp;have hX6:=m9.nI.1;have qJ:sk.p+3<=X.p:=Nat.le_trans Iq hX.1;clear m6 m7 m8 d36 d37 Iq;go_wp2_with fail;go_roundw
          case rel=>exact Au.next iR m9 kk9 hX.2 (by omega) qJ
          case measure=>rw[wX.out,Qy.out];omega
         ·have hkt:=Je.out.trans (xU (bs:=bs) (most:=most) qH hzl hzd)
          rw[hkt]at iR;clear hkt Je;have YL:=ah qH;have FD:=ah hzl;have Xf:=ah hzd;clear qH hzl hzd;go_wp2_with fail;refine (z1n m6 _ A1 _ c1 zl hR1 rfl FD.out).mono ?_;rintro e w7 ⟨t1,rfl,⟨m7,k7⟩,ht1,n7⟩;have m7:=m6.keep n7;have hR2:=hR2.nx (by decide) n7;have d37:=m7.dB;rw[YL.out]at d37;go_wp2_with fail;refine (ZF m7 _ A2 _ c2 zd hR2 rfl hXd Xf.out).mono ?_;rintro e w8 ⟨rfl,m8,k8⟩;go_wp2_with fail;refine (qG m8 (Jj (by decide)) _ _).mono ?_;rintro e w9 ⟨rfl,rfl⟩;have kk9:Ch (fun k=>W.heap.size<=k) W w8:=(kk6.trans n7 fun _ _ hf=>hf.elim).trans k8 fun i _ hn=>Nat.le_of_not_lt fun hlt=>hn (.inl (.inl (.inl hlt)));have m9:=m8.less (K':=fun k=>k<W.heap.size∨k=h) (fun k hk=>.inl (.inl hk)) (.inr rfl);have hXq:sk.p+3<=(aN 4 s3).p:=by rw[lS.2];exact Iq
          have UH:((aN 4 s3).out.length:Int)<=most:=by rw[lS.1];exact Io
          generalize aN 4 s3=X at *;have wX:=ah m9.Qp;have hX6:=m9.nI.1;clear m6 m7 m8 d36 d37 Iq;go_wp2_with fail;go_roundw
          case rel=>exact Au.next iR m9 kk9 UH (by omega) hXq
          case measure=>rw[wX.out,Qy.out];omega
        ·have hkt:=Je.out.trans (xW (bs:=bs) (most:=most) (zd:=zd) qH hzl)
         rw[hkt]at iR;clear hkt Je;have hef:(aN 4 s3).e=4:=z49 qH;have YL:=ah qH;have FD:=ah hzl;clear qH hzl;go_wp2_with fail;refine (ZF m6 _ A1 _ c1 zl hR1 rfl YE FD.out).mono ?_;rintro e w7 ⟨rfl,m7,k7⟩;have kk7:Ch (fun k=>W.heap.size<=k) W w7:=kk6.trans k7 fun i _ hn=>Nat.le_of_not_lt fun hlt=>hn (.inl (.inl hlt));have m9:=m7.less (K':=fun k=>k<W.heap.size∨k=h) (fun k hk=>.inl hk) (.inr rfl);have hXq:sk.p+3<=(aN 4 s3).p:=by rw[lS.2];exact Iq
         have UH:((aN 4 s3).out.length:Int)<=most:=by rw[lS.1];exact Io
         have d37:=m9.dB;rw[hef]at d37;have Hef:=ah hef;clear hef;generalize aN 4 s3=X at *;have wX:=ah m9.Qp;have hX6:=m9.nI.1;clear m6 m7 d36 Iq;go_wp2_with fail;go_roundw
         case rel=>exact Au.next iR m9 kk7 UH (by omega) hXq
         case measure=>rw[wX.out,Qy.out];omega
       ·have hkt:=Je.out.trans (BK (bs:=bs) (most:=most) (zl:=zl) (zd:=zd) qH)
        rw[hkt]at iR;have hfin:jE bs most (8 * bs.length+1) ⟨0,[],0⟩=s3:=(by rw[iR.out,if_neg (fun hh=>qH hh.1)]);clear hkt Je iR;have he3:(s3.e !=0)=true:=by rw[bne_iff_ne];exact qH
        have hie:=XR hm0 hm hfin qH;have pU:=ah hie;clear hfin qH hie;go_wp2_with fail;go_quiet (fail)
        go_wp2_with fail;refine bodyPost_ret (v:=.tuple #[.slice none 0 0,.int .i64 0,.int .i64 s3.e]) (by simp[results,go_sem]) rfl ?_;refine ⟨.slice none 0 0,?_,?_,(kk6.drewN _),by rw[pU.out];intro x hx;cases hx⟩
        ·rw[pU.out];rfl
        ·rw[pU.out];exact World.ownsRow_nil _ _ _ _
      ·have hk3:kd=3:=by have hlt:=z17 bs 2 s1;rw[Hq2.out]at hlt;simp only at hlt;omega
       have hkd:fA bs most kd s2=aN 4 s2:=by unfold fA;rw[if_neg hk0,if_neg hk1,if_neg hk2]
       have hk2':((kd:Int)==2)=false:=by rw[beq_eq_false_iff_ne];omega
       rw[hkd]at iR;have qH:(aN 4 s2).e≠0:=Jj (by decide);have hef:(aN 4 s2).e=4:=z49 He2.out;have hfin:jE bs most (8 * bs.length+1) ⟨0,[],0⟩=aN 4 s2:=(by rw[iR.out,if_neg (fun hh=>qH hh.1)]);clear hkd iR kle;go_wp2_with fail;refine (Jz m5 4).mono ?_;rintro e w6 ⟨rfl,m6,k6⟩;have kk6:Ch (fun k=>W.heap.size<=k) W w6:=kk5.trans k6 fun i _ hn=>Nat.le_of_not_lt fun hlt=>hn (.inl hlt);have d36:=m6.dB;generalize aN 4 s2=s3 at *;have he3:(s3.e !=0)=true:=by rw[bne_iff_ne];exact qH
       have hie:=XR hm0 hm hfin qH;have pU:=ah hie;clear hfin qH hie;go_wp2_with fail;go_quiet (fail)
       go_wp2_with fail;refine bodyPost_ret (v:=.tuple #[.slice none 0 0,.int .i64 0,.int .i64 s3.e]) (by simp[results,go_sem,hef]) rfl ?_;refine ⟨.slice none 0 0,?_,?_,(kk6.drewN _),by rw[pU.out];intro x hx;cases hx⟩
       ·rw[pU.out];rfl
       ·rw[pU.out];exact World.ownsRow_nil _ _ _ _
   ·have he3:(s2.e !=0)=true:=by rw[bne_iff_ne];exact he2
    have hfin:jE bs most (8 * bs.length+1) ⟨0,[],0⟩=s2:=by
     rw[iw.out,Qj Hq1.out Hq2.out he2]
    have hie:=XR hm0 hm hfin he2;have pU:=ah hie;clear hfin he2 hie;go_wp2_with fail;go_quiet (fail)
    go_wp2_with fail;refine bodyPost_ret (v:=.tuple #[.slice none 0 0,.int .i64 0,.int .i64 s2.e]) (by simp[results,go_sem]) rfl ?_;refine ⟨.slice none 0 0,?_,?_,(kk5.drewN _),by rw[pU.out];intro x hx;cases hx⟩
    ·rw[pU.out];rfl
    ·rw[pU.out];exact World.ownsRow_nil _ _ _ _
  ·have hfin:jE bs most (8 * bs.length+1) ⟨0,[],0⟩=sk:=by rw[AP.out,if_neg hgo]
   have fF:=ah hfin;by_cases he:sk.e=0
   ·have hl0:l≠0:=fun h0=>hgo ⟨h0,he⟩
    have hl0':((l:Int)==0)=false:=by rw[beq_eq_false_iff_ne];omega
    have hie:=Ij hm0 hm hfin he;have pU:=ah hie;rw[he]at d3;clear hfin he hie hgo hf AP;obtain ⟨vo,m3⟩:=mk;have d30:w3.cell? ⟨r,0,none⟩=some (.pointer (some ⟨g,0,none⟩)):=m3.blk.cell 0;go_wp2_with fail;refine (rX g h bs sk.p w3 m3.fH).mono ?_;rintro e w4 ⟨rfl,hr4,k4⟩;have m4:=m3.bits hr4 k4;have d40:w4.cell? ⟨r,0,none⟩=some (.pointer (some ⟨g,0,none⟩)):=m4.blk.cell 0;have d41:w4.cell? ⟨r,1,none⟩=some vo:=m4.blk.cell 1;have M4:=ah m4;have Hr4:=ah hr4;have kk4:Ch (fun k=>W.heap.size<=k) W w4:=kk.trans k4 fun i _ hn=>by omega
    clear m4 hr4 m3 k4 kk;go_wp2_with fail;go_quiet ((first|(go_at_call 161;exact z47 (KT g h bs _ _ (Hr4.out.nx (Dr.jG _ _).nx)))|(go_at_call 161;exact z3f (KT g h bs _ _ (Hr4.out.nx (Dr.jG _ _).nx)))))
    go_wp2_with fail;refine bodyPost_ret (v:=.tuple #[vo,.int .i64 (((sk.p+7) / 8:Nat):Int),.int .i64 0]) (by simp[results,go_sem]) rfl ?_;refine ⟨vo,?_,?_,kk4.drewN _,by rw[pU.out];exact M4.out.okb⟩
    ·rw[pU.out]
    ·rw[pU.out];exact M4.out.own
   ·have he1:(sk.e==0)=false:=by rw[beq_eq_false_iff_ne];exact he
    have he2:(sk.e !=0)=true:=by rw[bne_iff_ne];exact he
    have hie:=XR hm0 hm hfin he;have pU:=ah hie;clear hfin he hie hgo hf AP;by_cases hl0:l=0
    ·subst hl0
     go_wp2_with fail;go_quiet (fail)
     go_wp2_with fail;refine bodyPost_ret (v:=.tuple #[.slice none 0 0,.int .i64 0,.int .i64 sk.e]) (by simp[results,go_sem]) rfl ?_;refine ⟨.slice none 0 0,?_,?_,(kk.drewN _),by rw[pU.out];intro x hx;cases hx⟩
     ·rw[pU.out];rfl
     ·rw[pU.out];exact World.ownsRow_nil _ _ _ _
    ·have hl1:((l:Int)==0)=false:=by rw[beq_eq_false_iff_ne];omega
     go_wp2_with fail;go_quiet (fail)
     go_wp2_with fail;refine bodyPost_ret (v:=.tuple #[.slice none 0 0,.int .i64 0,.int .i64 sk.e]) (by simp[results,go_sem]) rfl ?_;refine ⟨.slice none 0 0,?_,?_,(kk.drewN _),by rw[pU.out];intro x hx;cases hx⟩
     ·rw[pU.out];rfl
     ·rw[pU.out];exact World.ownsRow_nil _ _ _ _
end
end Go.Proofs.YtfljcllpmbnjaaaGreat
