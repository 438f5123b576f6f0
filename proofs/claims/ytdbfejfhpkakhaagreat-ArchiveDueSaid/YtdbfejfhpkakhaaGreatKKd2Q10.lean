/- Contracts and plain laws that the last text rests on. Conditions: each theorem states its own. -/
import Derived.Test.YtdbfejfhpkakhaaGreatKKd2Q5
import Derived.Deep.CutBlock
import Derived.Deep.DeepCutAuto
import Derived.Test.YtdbfejfhpkakhaaGreatKKd2Q4
set_option maxRecDepth 100000
set_option maxHeartbeats 16000000
set_option linter.unusedVariables false
set_option linter.unusedSimpArgs false
namespace Go.Proofs.YtdbfejfhpkakhaaGreat
open Go.RowKit
def Yc (g cap n:Nat) (A:Option Addr) (k:Nat):Prop:=∀(w:World) (P A1' B S:List (Tg RV)) (a m b:Nat),A1'.length+B.length<k->0<A1'.length->0<B.length->SAT w g A cap (P++A1'++B++S)->P.length+A1'.length+B.length+S.length=n->P.length=a->a+A1'.length=m->m+B.length=b->Runs dw P A1' B S->
 Calls Tryz.prog 197 #[.slice A n cap,.int .i64 a,.int .i64 m,.int .i64 b,jY] w fun e w'=>e=.returned (.tuple #[])/\∃C,kX dw A1' B C/\SAT w' g A cap (P++C++S)/\Ch (fun k=>k=g) w w'
def yQ (g cap:Nat) (A:Option Addr) (w w':World) (P A1 B1 S:List (Tg RV)):Prop:=∃C,kX dw A1 B1 C/\SAT w' g A cap (P++C++S)/\Ch (fun k=>k=g) w w'
theorem yQ.none {w w':World} {g cap:Nat} {A:Option Addr} {P A1 B1 S:List (Tg RV)} (h:SAT w' g A cap (P++(A1++B1)++S)) (hc:Ch (fun k=>k=g) w w') (ha:A1.Pairwise (Rt dw)) (hb:B1.Pairwise (Rt dw)) (e:A1=[]∨B1=[]):yQ g cap A w w' P A1 B1 S:=by
 rcases e with rfl|rfl
 ·exact ⟨B1,kX.right hb,h,hc⟩
 ·exact ⟨A1,kX.left ha,by rwa [List.append_nil]at h,hc⟩
theorem lS {w:World} {g cap:Nat} {A:Option Addr} {X Y:List (Tg RV)} (e:X=Y) (h:SAT w g A cap X):SAT w g A cap Y:=e▸h
theorem PU {w:World} {g cap:Nat} {A:Option Addr} {P A1 A2 B1 B2 S:List (Tg RV)} (h:SAT w g A cap (P++(A1++B1)++(A2++B2)++S)):SAT w g A cap (P++(A1++B1)++(A2++B2++S)):=lS (by simp only[List.append_assoc]) h
theorem Lp {w:World} {g cap:Nat} {A:Option Addr} {P A1 A2 B1 B2 S:List (Tg RV)} (h:SAT w g A cap (P++(A1++B1)++(A2++B2)++S)):SAT w g A cap (P++A1++B1++(A2++B2++S)):=lS (by simp only[List.append_assoc]) h
theorem Lm {w:World} {g cap:Nat} {A:Option Addr} {P C A2 B2 S:List (Tg RV)} (h:SAT w g A cap (P++C++(A2++B2++S))):SAT w g A cap (P++C++(A2++B2)++S):=lS (by simp only[List.append_assoc]) h
theorem Ll {w:World} {g cap:Nat} {A:Option Addr} {P C A2 B2 S:List (Tg RV)} (h:SAT w g A cap (P++C++(A2++B2++S))):SAT w g A cap (P++C++A2++B2++S):=lS (by simp only[List.append_assoc]) h
theorem xM {w:World} {g cap:Nat} {A:Option Addr} {P C D S:List (Tg RV)} (h:SAT w g A cap (P++C++D++S)):SAT w g A cap (P++(C++D)++S):=lS (by simp only[List.append_assoc]) h
theorem Tq {nn mid m s E l:Nat} (h:nn=mid+m) (he:(nn:Int)-(s:Int)=(E:Int)) (hl:l=E-m) (h2:s<=m) (h4:m<=E):l=mid-s:=by omega
theorem WU {nn mid m s E l:Nat} (h:nn=mid+m) (he:(nn:Int)-(s:Int)=(E:Int)) (hl:l=m-s) (h2:s<=m):l=E-mid:=by omega
theorem GY {a s mid:Nat} {A1 B1:List (Tg RV)} (h1:A1.length=s-a) (h2:B1.length=mid-s) (c1:a<=s) (c2:s<=mid) (h:¬(a<s/\s<mid)):A1=[]∨B1=[]:=by
 by_cases e:a<s
 ·exact .inr (List.length_eq_zero_iff.1 (by omega))
 ·exact .inl (List.length_eq_zero_iff.1 (by omega))
theorem BD {mid E b:Nat} {A2 B2:List (Tg RV)} (h1:A2.length=E-mid) (h2:B2.length=b-E) (c1:E<=b) (c2:mid<=E) (h:¬(mid<E/\E<b)):A2=[]∨B2=[]:=by
 by_cases e:mid<E
 ·exact .inr (List.length_eq_zero_iff.1 (by omega))
 ·exact .inl (List.length_eq_zero_iff.1 (by omega))
section
variable {w : World} {g cap : Nat} {A : Option Addr}
theorem Jh {P A1' B S:List (Tg RV)} {n a m b k:Nat} (IH:Yc g cap n A k) (hk:A1'.length+B.length=k) (h:SAT w g A cap (P++A1'++B++S)) (hn:P.length+A1'.length+B.length+S.length=n) (hn2:n<=1000000) (ha:P.length=a) (hm:a+A1'.length=m) (hb:m+B.length=b) (hA2:a+1<m) (hB2:m+1<b) (hR:Runs dw P A1' B S):
 Calls Tryz.prog 197 #[.slice A n cap,.int .i64 a,.int .i64 m,.int .i64 b,jY] w fun e w'=>e=.returned (.tuple #[])/\∃C,kX dw A1' B C/\SAT w' g A cap (P++C++S)/\Ch (fun k=>k=g) w w':=by
 obtain ⟨mid,hmid⟩:∃mid:Nat,((a:Int)+(b:Int)) / 2=(mid:Int):=⟨(a+b) / 2,by omega⟩;obtain ⟨nn,hnn⟩:∃nn:Nat,(mid:Int)+(m:Int)=(nn:Int):=⟨mid+m,by omega⟩;have hbn:b<=n:=by omega
 have hq:((m:Int)-(a:Int)==1)=false:=by simp;omega
 have hq2:((b:Int)-(m:Int)==1)=false:=by simp;omega
 have qW:2 * mid<=a+b:=by omega
 have xC:a+b<=2 * mid+1:=by omega
 obtain ⟨lo,hlo⟩:∃lo,lo=if mid<m then nn-b else a:=⟨_,rfl⟩
 obtain ⟨hi,hhi⟩:∃hi,hi=if mid<m then mid else m:=⟨_,rfl⟩
 have XE:nn=mid+m:=by omega
 have b0:lo<=hi/\hi<=m/\hi<=mid/\nn<=b+lo/\a<=lo:=by
  by_cases e:mid<m
  ·rw[if_pos e]at hlo hhi;omega
  ·rw[if_neg e]at hlo hhi;omega
 obtain ⟨b1,b2,b3,b4,b5⟩:=b0;have Zz:=ah hlo;have ZA:=ah hhi;have EJ:=ah XE;have HR:=ah hR;have u_:=ah hn;have HA:=ah ha;have HM:=ah hm;have HB:=ah hb;have Hh:=ah h;have HIH:=ah IH;have HK:=ah hk;have m1:2 * mid<=a+b:=qW;have m2:mid<=b:=by omega
 have n1:nn<=2000000:=by omega
 have n2:m<=nn:=by omega
 have n3:mid<=nn:=by omega
 have a1:a<m:=by omega
 have a2:m<b:=by omega
 have YE:=ah (⟨qW,xC⟩:2 * mid<=a+b/\a+b<=2 * mid+1);clear hn ha hm hb h hR IH hk hlo hhi XE qW xC;go_enter Tryz.func197,Tryz.ntmps197;go_upto_if 140 with fail
 go_cut [20,21] (fun s20 s21 wx=>s20=.int .i64 (lo:Int)/\s21=.int .i64 (hi:Int)/\wx=w)
 case first=>
  as_aux_lemma=>
  by_cases e:mid<m
  ·have e1:((nn:Int)-(b:Int))=(lo:Int):=by have:=Zz.out;rw[if_pos e]at this;have:=EJ.out;have:=YE.out;omega
   have e2:=ZA.out;rw[if_pos e]at e2;have E1:=ah e1;have E2:=ah e2;clear e1 e2;go_wp2_with fail;go_meet
   exact ⟨by rw[←E1.out],by rw[E2.out],rfl⟩
  ·have e1:=Zz.out
   have e2:=ZA.out;rw[if_neg e]at e1 e2;have E1:=ah e1;have E2:=ah e2;clear e1 e2;go_wp2_with fail;go_meet
   exact ⟨by rw[E1.out],by rw[E2.out],rfl⟩
 case rest=>
  obtain ⟨rfl,rfl,hw⟩:=hcut;rw[hw];clear hw;clear hmid hnn;have HS0:=ah (CO.start (lt:=dw) (P++A1'++B++S) nn lo hi b1);go_wp2_with fail;go_loopw [20,21] (fun s20 s21 wr=>∃(s r:Nat),s20=.int .i64 (s:Int)/\s21=.int .i64 (r:Int)/\lo<=s/\s<=r/\r<=hi/\Hid (SAT wr g A cap (P++A1'++B++S))/\Hid (Ch (fun k=>k=g) w wr)/\Hid (CO dw (P++A1'++B++S) nn lo hi s r)) (fun s20 s21 _=>(intOf s21).toNat-(intOf s20).toNat)
  case atStart=>exact ⟨lo,hi,rfl,rfl,Nat.le_refl _,b1,Nat.le_refl _,Hh,ah (Ch.refl _ _),HS0⟩
  case round=>
   obtain ⟨w5,rfl⟩:∃w5:World,w5=wr:=⟨_,rfl⟩;obtain ⟨s,r9,rfl,rfl,hls,hsr,hrh,Js,Jc,Ji⟩:=hrel;clear Hh HS0;by_cases hlt:s<r9
   ·obtain ⟨c,hce⟩:∃c:Nat,((s:Int)+(r9:Int)) / 2=(c:Int):=⟨(s+r9) / 2,by omega⟩
    have hc1:s<=c:=(by omega);have hc2:c<r9:=(by omega);go_wp2_with fail;clear hce;have hwr:IntKind.i64.wrap ((nn:Int)-1-(c:Int))=((nn-1-c:Nat):Int):=by rw[IntWalk.i64_in _ (by omega)];omega
    have hx1:(c:Int)<(n:Int):=(by omega);have hx2:((nn-1-c:Nat):Int)<(n:Int):=(by omega);have hx3:nn-1-c<n:=(by omega);have hx4:c<n:=(by omega);have hL1:(nn-1-c)<(P++A1'++B++S).length:=by simp;have:=u_.out;omega
    have hL2:c<(P++A1'++B++S).length:=by simp;have:=u_.out;omega
    have jF:(nn-1-c)<((P++A1'++B++S).map fun x=>x.row).length:=by rw[List.length_map];exact hL1
    have ig:c<((P++A1'++B++S).map fun x=>x.row).length:=by rw[List.length_map];exact hL2
    have hA:=Js.out.form jF;subst hA;have gJ:((P++A1'++B++S).map fun x=>x.row)[(nn-1-c)]=(P++A1'++B++S)[(nn-1-c)].row:=List.getElem_map ..;have gJ2:((P++A1'++B++S).map fun x=>x.row)[c]=(P++A1'++B++S)[c].row:=List.getElem_map ..;have HQ:=ah (fun w' (hn:Nx w5 w')=>(Js.out.nx hn).at_ jF);have HQ2:=ah (fun w' (hn:Nx w5 w')=>(Js.out.nx hn).at_ ig);have uZ:=ah (fun w' (hn:Nx w5 w')=>Js.out.nx hn);rw[gJ]at HQ;rw[gJ2]at HQ2;have fH:=ah (fun w=>WS (P++A1'++B++S)[(nn-1-c)].row (P++A1'++B++S)[c].row w);have hcv:=kH (P++A1'++B++S)[(nn-1-c)].row (P++A1'++B++S)[c].row;have HY:Hid (dw (P++A1'++B++S)[nn-1-c].row (P++A1'++B++S)[c].row=true->CO dw (P++A1'++B++S) nn lo hi s c):=ah (fun hl=>Ji.out.down hc1 hc2 hL2 hL1 hl);have HN:Hid (dw (P++A1'++B++S)[nn-1-c].row (P++A1'++B++S)[c].row=false->CO dw (P++A1'++B++S) nn lo hi (c+1) r9):=ah (fun hl=>Ji.out.up hc1 hc2 hL2 hL1 hl);clear Ji;generalize hK0:nn-1-c=K0 at *;clear hK0;generalize (P++A1'++B++S)[K0].row=x1 at *;generalize (P++A1'++B++S)[c].row=y1 at *;have hnd:Nx w5 w5.drew:=(Ch.refl _ w5).drew;clear Js gJ gJ2 hL1 hL2 jF ig;obtain ⟨⟨kind,time,ak,text,value,null,maker,seq,place⟩,A1,c1⟩:=x1;obtain ⟨⟨kind2,aU,bJ,bH,value2,bI,aP,seq2,aO⟩,A2,c2⟩:=y1;unfold aK at fH;unfold yM at HQ HQ2;simp only at fH HQ HQ2 hcv;refine wp_region_still_tail 11 rfl (by kernel_rfl) ?_;change wpStill _ _ w5.drew _ _ _;obtain ⟨p0,p1,p2,p3,p4,p5,p6,p7,p8⟩:=HQ.out _ hnd;obtain ⟨q0,q1,q2,q3,q4,q5,q6,q7,q8⟩:=HQ2.out _ hnd;have Vo:=ah hnd;clear hnd;generalize w5.drew=w6 at *;simp only[List.take_succ_cons,List.take_zero,List.drop_succ_cons,List.drop_zero]
    repeat still_step
    refine wpStill_nil ?_;clear p0 p1 p2 p3 p4 p5 p6 p7 p8 q0 q1 q2 q3 q4 q5 q6 q7 q8 HQ HQ2;go_wp2_with fail;refine (fH.out _).mono ?_;rintro e w7 ⟨rfl,n7⟩;have N7:=ah ((Ch.refl (fun _=>False) w5).drew.tr n7);clear n7 Vo fH;generalize dQ _ _=r at *;have Hs7:=ah (uZ.out w7 N7.out);have C7:=ah (Jc.out.tr N7.out);clear uZ N7 Jc;cases hv:dw ⟨⟨kind,time,ak,text,value,null,maker,seq,place⟩,A1,c1⟩ ⟨⟨kind2,aU,bJ,bH,value2,bI,aP,seq2,aO⟩,A2,c2⟩
    ·have HRR:=ah (HN.out hv)
     rw[hv]at hcv;have hr:(!decide (r<0))=true:=by rw[hcv];rfl
     clear hv hcv HN HY;go_wp2_with fail;go_roundw
     case rel=>exact ⟨c+1,r9,by go_num,rfl,by omega,by omega,hrh,Hs7,C7,HRR⟩
     case measure=>simp[intOf];omega
    ·have HRR:=ah (HY.out hv)
     rw[hv]at hcv;have hr:(!decide (r<0))=false:=by rw[hcv];rfl
     clear hv hcv HN HY;go_wp2_with fail;go_roundw
     case rel=>exact ⟨s,c,rfl,rfl,hls,hc1,by omega,Hs7,C7,HRR⟩
     case measure=>simp[intOf];omega
   ·obtain rfl:s=r9:=by omega
    obtain ⟨c1,c2,c3,c4,c5,c6,A1,A2,B1,B2,eA,eB,l1,l2,l3,l4,PO,hall⟩:=CO.last Tt HR.out HA.out HM.out HB.out YE.out.1 YE.out.2 EJ.out Zz.out ZA.out Ji.out;obtain ⟨E,hE⟩:∃E,nn-s=E:=⟨_,rfl⟩;rw[hE]at c4 c5 c6 l3 l4 PO;have hEi:(nn:Int)-(s:Int)=(E:Int):=(by omega);subst eA;subst eB
    have hrm:(rotL (P++(A1++A2)++(B1++B2)++S) s m E).map (fun x=>x.row)=rotL ((P++(A1++A2)++(B1++B2)++S).map fun x=>x.row) s m E:=by
     simp[rotL,List.map_take,List.map_drop]
    have hlen:((P++(A1++A2)++(B1++B2)++S).map fun x=>x.row).length=n:=by
     have:=u_.out;simp at this ⊢;omega
    have U_:=ah (fun (h1:s<m) (h2:m<E)=>Aq Js.out (by rw[hlen];exact hn2) s m E h1 h2 (by rw[hlen];omega) jY);rw[hlen,←hrm,PO]at U_
    have HSame:=ah (fun (h:¬(s<m/\m<E))=>(by
     have e:=FM (P++(A1++A2)++(B1++B2)++S) (a:=s) (m:=m) (b:=E) c2 c4 (by omega);rw[PO]at e;rw[e];exact Js.out:SAT w5 g A cap (P++(A1++B1)++(A2++B2)++S)))
    have QM:=ah hall;have L1:=ah l1;have L2:=ah l2;have L3:=ah l3;have L4:=ah l4;clear hE hrm hlen PO hall l1 l2 l3 l4 Js Ji Zz ZA hlt;go_upto_region 39 with fail
    go_cut [185] (fun s9 wx=>s9=.bool (decide (s<m/\m<E))/\wx=w5)
    case first=>
     as_aux_lemma=>
     by_cases d1:s<m
     ·by_cases d2:m<E
      ·have hd:decide (s<m/\m<E)=true:=decide_eq_true ⟨d1,d2⟩
       have hd:=ah hd;go_wp2_with fail;go_meet
       exact ⟨by rw[hd.out],rfl⟩
      ·have hd:decide (s<m/\m<E)=false:=decide_eq_false fun h=>d2 h.2
       have hd:=ah hd;go_wp2_with fail;go_meet
       exact ⟨by rw[hd.out],rfl⟩
     ·have hd:decide (s<m/\m<E)=false:=decide_eq_false fun h=>d1 h.1
      have hd:=ah hd;go_wp2_with fail;go_meet
      exact ⟨by rw[hd.out],rfl⟩
    case rest=>
     obtain ⟨rfl,hw⟩:=hcut;rw[hw];clear hw;go_upto_if 185 with fail
     go_cut [] (fun wx=>Hid (SAT wx g A cap (P++(A1++B1)++(A2++B2)++S))/\Hid (Ch (fun k=>k=g) w wx))
     case first=>
      as_aux_lemma=>
      by_cases d:s<m/\m<E
      ·have hd:decide (s<m/\m<E)=true:=decide_eq_true d
       have hc:=ah (U_.out d.1 d.2);rw[hd];clear hd d;go_wp2_with fail;refine hc.out.mono ?_;rintro e w6 ⟨rfl,h6,n6⟩;have H6:=ah h6;have N6:=ah n6;clear h6 n6;go_wp2_with fail;go_meet
       exact ⟨H6,ah (Jc.out.trans N6.out fun _ _ e=>e)⟩
      ·have hd:decide (s<m/\m<E)=false:=decide_eq_false d
       have hs:=ah (HSame.out d);rw[hd];clear hd d;go_wp2_with fail;go_meet
       exact ⟨hs,Jc⟩
     case rest=>
      obtain ⟨Js,Jc⟩:=hcut;obtain ⟨w6,rfl⟩:∃w6:World,w6=wc:=⟨_,rfl⟩;clear U_ HSame;have HSame:=ah (fun (h:¬(a<s/\s<mid))=>yQ.none (w:=w6) (PU Js.out) (Ch.refl _ w6) (List.pairwise_append.1 HR.out.sa).1 (List.pairwise_append.1 HR.out.sb).1 (GY L1.out (Tq EJ.out hEi L3.out c2 c4) c1 c3 h));have SS:=ah (fun (h1:a<s) (h2:s<mid)=>HIH.out w6 P A1 B1 (A2++B2++S) a s mid (by have:=YE.out;have:=WU EJ.out hEi L2.out c2;have:=HK.out;have:=L1.out;have:=L2.out;have:=L4.out;have:=Tq EJ.out hEi L3.out c2 c4;simp only[List.length_append]at *;omega) (by have:=L1.out;omega) (by have:=Tq EJ.out hEi L3.out c2 c4;omega) (Lp Js.out) (by have:=u_.out;simp only[List.length_append]at *;omega) HA.out (by have:=L1.out;omega) (by have:=Tq EJ.out hEi L3.out c2 c4;omega) HR.out.one);clear Js;go_upto_region 41 with fail
      go_cut [199] (fun s9 wx=>s9=.bool (decide (a<s/\s<mid))/\wx=w6)
      case first=>
       as_aux_lemma=>
       by_cases d1:a<s
       ·by_cases d2:s<mid
        ·have hd:decide (a<s/\s<mid)=true:=decide_eq_true ⟨d1,d2⟩
         have hd:=ah hd;go_wp2_with fail;go_meet
         exact ⟨by rw[hd.out],rfl⟩
        ·have hd:decide (a<s/\s<mid)=false:=decide_eq_false fun h=>d2 h.2
         have hd:=ah hd;go_wp2_with fail;go_meet
         exact ⟨by rw[hd.out],rfl⟩
       ·have hd:decide (a<s/\s<mid)=false:=decide_eq_false fun h=>d1 h.1
        have hd:=ah hd;go_wp2_with fail;go_meet
        exact ⟨by rw[hd.out],rfl⟩
      case rest=>
       obtain ⟨rfl,hw⟩:=hcut;rw[hw];clear hw;go_upto_if 199 with fail
       go_cut [] (fun wx=>Hid (yQ g cap A w6 wx P A1 B1 (A2++B2++S)))
       case first=>
        as_aux_lemma=>
        by_cases d:a<s/\s<mid
        ·have hd:decide (a<s/\s<mid)=true:=decide_eq_true d
         have hc:=ah (SS.out d.1 d.2);rw[hd];clear hd d;go_wp2_with fail;refine hc.out.mono ?_;rintro e w7 ⟨rfl,h7⟩;have H7:=ah h7;clear h7;go_wp2_with fail;go_meet
         exact ah H7.out
        ·have hd:decide (a<s/\s<mid)=false:=decide_eq_false d
         have hs:=ah (HSame.out d);rw[hd];clear hd d;go_wp2_with fail;go_meet
         exact hs
       case rest=>
        obtain ⟨w7,rfl⟩:∃w7:World,w7=wc:=⟨_,rfl⟩;obtain ⟨C1,hM1,hS1,hC1⟩:=hcut.out;have M1:=ah hM1;have J7:=ah (Jc.out.trans hC1 fun _ _ e=>e);have Vh:=ah (fun (h:¬(mid<E/\E<b))=>yQ.none (w:=w7) (Lm hS1) (Ch.refl _ w7) (List.pairwise_append.1 HR.out.sa).2.1 (List.pairwise_append.1 HR.out.sb).2.1 (BD (WU EJ.out hEi L2.out c2) L4.out c5 c6 h))
        have hlc:C1.length=mid-a:=by
         have:=hM1.1.length_eq;have:=L1.out;have:=Tq EJ.out hEi L3.out c2 c4;simp only[List.length_append]at *;omega
        have Vt:=ah (fun (h1:mid<E) (h2:E<b)=>HIH.out w7 (P++C1) A2 B2 S mid E b (by have:=YE.out;have:=HK.out;have:=L1.out;have:=L4.out;have:=WU EJ.out hEi L2.out c2;have:=Tq EJ.out hEi L3.out c2 c4;simp only[List.length_append]at *;omega) (by have:=WU EJ.out hEi L2.out c2;omega) (by have:=L4.out;omega) (Ll hS1) (by have:=u_.out;have:=L1.out;have:=Tq EJ.out hEi L3.out c2 c4;simp only[List.length_append]at *;omega) (by have:=HA.out;simp only[List.length_append]at *;omega) (by have:=WU EJ.out hEi L2.out c2;omega) (by have:=L4.out;omega) HR.out.two);clear hS1 hC1 hM1 hlc hcut HSame SS;go_upto_region 43 with fail
        go_cut [213] (fun s9 wx=>s9=.bool (decide (mid<E/\E<b))/\wx=w7)
        case first=>
         as_aux_lemma=>
         by_cases d1:mid<E
         ·by_cases d2:E<b
          ·have hd:decide (mid<E/\E<b)=true:=decide_eq_true ⟨d1,d2⟩
           have hd:=ah hd;go_wp2_with fail;go_meet
           exact ⟨by rw[hd.out],rfl⟩
          ·have hd:decide (mid<E/\E<b)=false:=decide_eq_false fun h=>d2 h.2
           have hd:=ah hd;go_wp2_with fail;go_meet
           exact ⟨by rw[hd.out],rfl⟩
         ·have hd:decide (mid<E/\E<b)=false:=decide_eq_false fun h=>d1 h.1
          have hd:=ah hd;go_wp2_with fail;go_meet
          exact ⟨by rw[hd.out],rfl⟩
        case rest=>
         obtain ⟨rfl,hw⟩:=hcut;rw[hw];clear hw;go_upto_if 213 with fail
         by_cases d:mid<E/\E<b
         ·have hd:decide (mid<E/\E<b)=true:=decide_eq_true d
          have hc:=ah (Vt.out d.1 d.2);rw[hd];clear hd d;go_wp2_with fail;refine hc.out.mono ?_;rintro e w8 ⟨rfl,h7⟩;have H7:=ah h7;clear h7;go_wp2_with fail;go_end0
          obtain ⟨C2,hM2,hS2,hC2⟩:=H7.out;exact ⟨rfl,C1++C2,kX.both M1.out hM2 QM.out,xM hS2,J7.out.trans hC2 fun _ _ e=>e⟩
         ·have hd:decide (mid<E/\E<b)=false:=decide_eq_false d
          have hs:=ah (Vh.out d);rw[hd];clear hd d;go_wp2_with fail;go_end0
          obtain ⟨C2,hM2,hS2,hC2⟩:=hs.out;exact ⟨rfl,C1++C2,kX.both M1.out hM2 QM.out,xM hS2,J7.out.trans hC2 fun _ _ e=>e⟩
end
section
variable {w : World} {g cap : Nat} {A : Option Addr}
theorem sQ {n:Nat} (hn2:n<=1000000):∀k,Yc g cap n A k
 |0=>fun w P A1 B S a m b h=>by omega
 |k+1=>fun w P A1 B S a m b hk h1 h2 hs hn ha hm hb hR=>by
  by_cases e:A1.length+B.length<k
  ·exact sQ hn2 k w P A1 B S a m b e h1 h2 hs hn ha hm hb hR
  by_cases e1:A1.length=1
  ·obtain ⟨x,rfl⟩:=List.length_eq_one_iff.1 e1
   exact Jk hs hn hn2 ha hm hb hR
  by_cases e2:B.length=1
  ·obtain ⟨x,rfl⟩:=List.length_eq_one_iff.1 e2
   exact Fj hs hn hn2 ha hm hb (by omega) hR
  exact Jh (sQ hn2 k) (by omega) hs hn hn2 ha hm hb (by omega) (by omega) hR
theorem Om {n:Nat} (hn2:n<=1000000) {P A1 B S:List (Tg RV)} {a m b:Nat} (h1:0<A1.length) (h2:0<B.length) (hs:SAT w g A cap (P++A1++B++S)) (hn:P.length+A1.length+B.length+S.length=n) (ha:P.length=a) (hm:a+A1.length=m) (hb:m+B.length=b) (hR:Runs dw P A1 B S):
 Calls Tryz.prog 197 #[.slice A n cap,.int .i64 a,.int .i64 m,.int .i64 b,jY] w fun e w'=>e=.returned (.tuple #[])/\∃C,kX dw A1 B C/\SAT w' g A cap (P++C++S)/\Ch (fun k=>k=g) w w':=
 sQ hn2 (A1.length+B.length+1) w P A1 B S a m b (by omega) h1 h2 hs hn ha hm hb hR
theorem KF {l:List RV} {a:Nat} {ys:List (Tg RV)} (hl:l.length<=1000000) (hs:SAT w g A cap ys) (h:St1 dw l a ys) {e n:Nat} (hn:l.length=n) (h1:a<=e) (h2:e<=n) (h3:e<=a+20):
 Calls Tryz.prog 196 #[.slice A n cap,.int .i64 a,.int .i64 e,jY] w fun en w'=>en=.returned (.tuple #[])/\∃zs:List (Tg RV),SAT w' g A cap zs/\zs.Perm (bV l)/\dW dw 20 0 e zs/\zs.drop e=(bV l).drop e/\Ch (fun k=>k=g) w w':=by
 obtain ⟨P,M,S,rfl,hP,hM,hS,hp,hall⟩:=h.cut h1 (by omega) h3;refine (ins_any hs (n:=n) (by omega) (by omega) hP hM (by omega) hp).mono ?_;rintro en w' ⟨rfl,C,c1,c2,c3,c4⟩;obtain ⟨d1,d2,d3⟩:=hall C c1 c2;exact ⟨rfl,_,c3,d1,d2,d3,c4⟩
theorem Jj {l:List RV} {bs a:Nat} {ys:List (Tg RV)} (hl:l.length<=1000000) (hs:SAT w g A cap ys) (h:St2 dw l bs a ys) (hb:0<bs) {m e n:Nat} (hn:l.length=n) (hm:a+bs=m) (h1:m<e) (h4:e=a+2 * bs∨(e=n/\e<=a+2 * bs)) (h3:e<=n):
 Calls Tryz.prog 197 #[.slice A n cap,.int .i64 a,.int .i64 m,.int .i64 e,jY] w fun en w'=>en=.returned (.tuple #[])/\∃zs:List (Tg RV),SAT w' g A cap zs/\zs.Perm (bV l)/\dW dw (2 * bs) 0 e zs/\dW dw bs e l.length zs/\Ch (fun k=>k=g) w w':=by
 obtain ⟨P,A1,B,S,rfl,hP,hA,hB,hS,hR,hall⟩:=h.cut hb (e:=e) (by omega) (by omega) (by omega);refine (Om (n:=n) (by omega) (by omega) (by omega) hs (by omega) hP (by omega) (by omega) hR).mono ?_;rintro en w' ⟨rfl,C,c1,c3,c4⟩;obtain ⟨d1,d2,d3⟩:=hall C c1;exact ⟨rfl,_,c3,d1,d2,d3,c4⟩
def EF (g cap:Nat) (A:Option Addr) (l:List RV) (w:World) (e:Ending) (w':World):Prop:=e=.returned (.tuple #[])/\SA w' g A cap (bP dw l)/\Ch (fun k=>k=g) w w'
theorem zX {l:List RV} {n:Nat} (h:SA w g A cap l) (hn:l.length=n) (hn2:n<=1000000):
 Calls Tryz.prog 162 #[.slice A n cap,.int .i64 n,jY] w (EF g cap A l w):=by
 have Hh:Hid (SAT w g A cap (bV l)):=ah (by rw[←vU l]at h;exact h);have HN:=ah hn;clear h hn;go_enter Tryz.func162,Tryz.ntmps162;go_wp2_with fail;go_loopw [7,8] (fun s7 s8 wr=>∃(a:Nat) (ys:List (Tg RV)),s7=.int .i64 (a:Int)/\s8=.int .i64 ((a+20:Nat):Int)/\a<=n/\Hid (SAT wr g A cap ys)/\Hid (Ch (fun k=>k=g) w wr)/\Hid (St1 dw l a ys)) (fun s7 _ _=>n-(intOf s7).toNat)
 case atStart=>exact ⟨0,_,rfl,rfl,Nat.zero_le _,Hh,ah (Ch.refl _ _),ah (St1.start l)⟩
 case round=>
  obtain ⟨w5,rfl⟩:∃w5:World,w5=wr:=⟨_,rfl⟩;obtain ⟨a,ys,rfl,rfl,han,Js,Jc,Ji⟩:=hrel;clear Hh;by_cases hlt:a+20<=n
  ·have hc:=ah (KF (by rw[HN.out];exact hn2) Js.out Ji.out HN.out (e:=a+20) (by omega) hlt (Nat.le_refl _))
   have HM:=ah Ji.out.md;clear Js Ji;go_wp2_with fail;refine hc.out.mono ?_;rintro e w6 ⟨rfl,zs,h1,h2,h3,h4,h5⟩;have H1:=ah h1;have H2:=ah (⟨by have:=HM.out;omega,h2,h3,h4⟩:St1 dw l (a+20) zs);have H5:=ah (Jc.out.trans h5 fun _ _ e=>e);clear h1 h2 h3 h4 h5 hc HM Jc;go_wp2_with fail;go_roundw
   case rel=>exact ⟨a+20,zs,by go_num,by go_num,hlt,H1,H5,H2⟩
   case measure=>simp[intOf];omega
  ·have hc:=ah (KF (by rw[HN.out];exact hn2) Js.out Ji.out HN.out (e:=n) han (Nat.le_refl _) (by omega))
   clear Js Ji;go_wp2_with fail;refine hc.out.mono ?_;rintro e w6 ⟨rfl,zs,h1,h2,h3,h4,h5⟩;have H1:=ah h1;have H2:=ah (⟨h2,by rw[HN.out];exact h3⟩:St3 dw l 20 zs);have H5:=ah (Jc.out.trans h5 fun _ _ e=>e);clear h1 h2 h3 h4 h5 hc Jc;go_wp2_with fail;go_loopw [6] (fun s6 wr=>∃(bs:Nat) (ys:List (Tg RV)),s6=.int .i64 (bs:Int)/\0<bs/\bs<=2000020/\Hid (SAT wr g A cap ys)/\Hid (Ch (fun k=>k=g) w wr)/\Hid (St3 dw l bs ys)) (fun s6 _=>n-(intOf s6).toNat)
   case atStart=>exact ⟨20,zs,rfl,by decide,by decide,H1,H5,H2⟩
   case round=>
    obtain ⟨w7,rfl⟩:∃w7:World,w7=wr:=⟨_,rfl⟩;obtain ⟨bs,ys,rfl,hb0,hb2,Js,Jc,Ji⟩:=hrel;clear H1 H2 H5;by_cases hbn:bs<n
    ·have JI2:=ah (St2.start Ji.out)
     have Js2:=Js;have Jc2:=Jc;clear Ji Js Jc;go_wp2_with fail;go_loopw [7,8] (fun s7 s8 wr=>∃(a:Nat) (ys:List (Tg RV)),s7=.int .i64 (a:Int)/\s8=.int .i64 ((a+2 * bs:Nat):Int)/\a<=n/\Hid (SAT wr g A cap ys)/\Hid (Ch (fun k=>k=g) w wr)/\Hid (St2 dw l bs a ys)) (fun s7 _ _=>n-(intOf s7).toNat)
     case atStart=>exact ⟨0,ys,rfl,by go_num,Nat.zero_le _,Js2,Jc2,JI2⟩
     case round=>
      obtain ⟨w8,rfl⟩:∃w8:World,w8=wr:=⟨_,rfl⟩;obtain ⟨a,zs,rfl,rfl,han,Js,Jc,Ji⟩:=hrel;clear Js2 Jc2 JI2;by_cases hlt2:a+2 * bs<=n
      ·have hc:=ah (Jj (by rw[HN.out];exact hn2) Js.out Ji.out hb0 HN.out (m:=a+bs) rfl (e:=a+2 * bs) (by omega) (.inl rfl) hlt2)
       have HM:=ah Ji.out.md;clear Js Ji;go_wp2_with fail;refine hc.out.mono ?_;rintro e w6 ⟨rfl,us,h1,h2,h3,h4,h5⟩;have H1:=ah h1;have H2:=ah (⟨by have:=HM.out;rw[Nat.add_mod_right];exact this,h2,h3,h4⟩:St2 dw l bs (a+2 * bs) us);have H5:=ah (Jc.out.trans h5 fun _ _ e=>e);clear h1 h2 h3 h4 h5 hc HM Jc;go_wp2_with fail;go_roundw
       case rel=>exact ⟨a+2 * bs,us,by go_num,by go_num,hlt2,H1,H5,H2⟩
       case measure=>simp[intOf];omega
      ·by_cases hm:a+bs<n
       ·have hc:=ah (Jj (by rw[HN.out];exact hn2) Js.out Ji.out hb0 HN.out (m:=a+bs) rfl (e:=n) hm (.inr ⟨rfl,by omega⟩) (Nat.le_refl _))
        clear Js Ji;go_wp2_with fail;refine hc.out.mono ?_;rintro e w6 ⟨rfl,us,h1,h2,h3,h4,h5⟩;have H1:=ah h1;have H2:=ah (⟨h2,by rw[HN.out];exact h3⟩:St3 dw l (2 * bs) us);have H5:=ah (Jc.out.trans h5 fun _ _ e=>e);clear h1 h2 h3 h4 h5 hc Jc;go_wp2_with fail;go_roundw
        case rel=>exact ⟨2 * bs,us,by go_num,by omega,by omega,H1,H5,H2⟩
        case measure=>simp[intOf];omega
       ·have H2:=ah (Ji.out.end_ hb0 (by rw[HN.out];omega))
        clear Ji;go_wp2_with fail;go_roundw
        case rel=>exact ⟨2 * bs,zs,by go_num,by omega,by omega,Js,Jc,H2⟩
        case measure=>simp[intOf];omega
    ·have HF:=ah (Ji.out.last Tt (by rw[HN.out];omega))
     have HS:=ah Js.out;clear Js Ji;go_wp2_with fail;go_end0
     exact ⟨rfl,by have:=HS.out;unfold SAT at this;rw[HF.out]at this;exact this,Jc.out⟩
theorem Ac {l:List RV} {n:Nat} (h:SA w g A cap l) (hn:l.length=n) (hn2:n<=1000000):
 Calls Tryz.prog 111 #[.slice A n cap,jY] w (EF g cap A l w):=by
 have hc:=ah (zX h hn hn2);clear h hn;go_enter Tryz.func111,Tryz.ntmps111;go_wp2_with fail;refine hc.out.mono ?_;rintro e w6 ⟨rfl,h1,h2⟩;have H1:=ah h1;have H2:=ah h2;clear h1 h2 hc;go_wp2_with fail;go_end0
 exact ⟨rfl,H1.out,H2.out⟩
end
structure bZ (W w:World) (v:Value) (zs:List RV):Prop where
 own:aF W w 79 9 v zs.length (bM zs)
 ok:∀z∈zs,z.ok w (fun k=>W.heap.size<=k/\k<w.heap.size/\v.ownBlock≠some k)
theorem bZ.nil (W w:World) (c:Nx W w):bZ W w (.slice none 0 0) []:=⟨aF.nil W w _ 9 c,by simp⟩
theorem bZ.tr {W w w':World} {v:Value} {zs:List RV} (h:bZ W w v zs) (c:Nx w w'):bZ W w' v zs:=
 ⟨h.own.tr c,fun z hz=>(h.ok z hz).ch c (fun _ _ _ hf=>hf) fun k ⟨a,b,d⟩=>⟨a,Nat.lt_of_lt_of_le b c.size,d⟩⟩
theorem bZ.form {W w:World} {v:Value} {zs:List RV} (h:bZ W w v zs):∃A c,v=.slice A zs.length c/\zs.length<=c/\c<=maxLen:=h.own.form
theorem bZ.app {W w w':World} {v v':Value} {zs ys:List RV} (h:bZ W w v zs) (o:aF W w' 79 9 v' (zs.length+ys.length) (bM zs++bM ys)) (m:Moved w w' v v')
 (hy:∀y∈ys,y.ok w (fun k=>W.heap.size<=k/\k<w.heap.size/\v.ownBlock≠some k)):bZ W w' v' (zs++ys):=by
 refine ⟨by rw[List.length_append,show bM (zs++ys)=bM zs++bM ys by simp[bM]];exact o,fun z hz=>?_⟩
 have hk:z.ok w (fun k=>W.heap.size<=k/\k<w.heap.size/\v.ownBlock≠some k):=by
  rcases List.mem_append.1 hz with hz|hz
  ·exact h.ok z hz
  ·exact hy z hz
 refine hk.ch m.ch (fun k _ hk hs=>hk.2.2 hs) fun k ⟨a,b,d⟩=>⟨a,Nat.lt_of_lt_of_le b m.ch.size,fun e=>?_⟩;rcases m.at_ with e1|⟨j,e1,h1⟩
 ·exact d (e1.symm.trans e)
 ·rw[e1]at e
  injection e with e;omega
theorem Rd.wW (w:World) (x:RV):Rd (w.alloc (.cells #[.int .i64 x.row.kind,.int .i64 x.row.time,.slice x.A x.row.ak.length x.c,.string x.row.text,.int .i64 x.row.value,.bool x.row.null,.int .i64 x.row.maker,.int .i64 x.row.seq,.int .i64 x.row.place] 79)) (fun k=>k=w.heap.size) 9 (some ⟨w.heap.size,0,none⟩) 1 (bM [x]):=
 ⟨rfl,fun _=>⟨_,rfl,rfl,fun j u hu=>by
   have:=(aG.new w 79 #[.int .i64 x.row.kind,.int .i64 x.row.time,.slice x.A x.row.ak.length x.c,.string x.row.text,.int .i64 x.row.value,.bool x.row.null,.int .i64 x.row.maker,.int .i64 x.row.seq,.int .i64 x.row.place]);exact World.news_of_block this j u (by simpa [bM,RV.cs]using hu)⟩⟩
def UW (l:List RV) (w:World) (e:Ending) (w':World):Prop:=∃v zs,e=.returned v/\bZ w w' v zs/\zs.map (fun x=>x.row)=bP dN (l.map fun x=>x.row)
theorem WY {α:Type} (lt:α->α->Bool) (l:List α):(bP lt l).Perm l:=by
 have h:∀(l a:List α),(l.foldl (fun a x=>iC lt x a) a).Perm (a++l):=fun l=>by
  induction l with
  |nil=>intro a;simp
  |cons x l ih=>
   intro a;refine (ih (iC lt x a)).trans ?_;refine ((qQ lt x a).append_right l).trans ?_;rw[List.cons_append];exact List.perm_middle.symm
 simpa [bP]using h l []
theorem Ju {W w:World} {v:Value} {zs:List RV} (h:bZ W w v zs) (hn:zs.length<=1000000):
 Calls Tryz.prog 111 #[v,jY] w fun e w'=>e=.returned (.tuple #[])/\bZ W w' v (bP dw zs):=by
 obtain ⟨A,c,rfl,hc1,hc2⟩:=h.form
 obtain ⟨g,hg,hb⟩:∃g,(A=some ⟨g,0,none⟩∨zs=[])/\(∀k,(Value.slice A zs.length c).ownBlock=some k↔(k=g/\A≠none))/\W.heap.size<=g:=by
  rcases h.own.own.2 with ⟨e,e2⟩|⟨g,cap,cur,e,hb,_⟩
  ·have:zs=[]:=List.eq_nil_of_length_eq_zero e2
   injection e with e _ _;subst e;refine ⟨w.heap.size,.inr this,⟨fun k=>by simp[Value.ownBlock],h.own.nx.size⟩⟩
  ·injection e with e _ _
   subst e;exact ⟨g,.inl rfl,fun k=>by simp[Value.ownBlock,eq_comm],hb⟩
 have hsa:SA w g A c zs:=⟨hg,su h.own.own (Nat.zero_le _)⟩;refine (Ac hsa rfl hn).mono ?_;rintro e w' ⟨rfl,hs,hc⟩;have hp:(bP dw zs).Perm zs:=WY dw zs;have hl:(bP dw zs).length=zs.length:=hp.length_eq;refine ⟨rfl,⟨?_,?_⟩,fun z hz=>?_⟩
 ·have:=hs.2
  rw[hl]at this ⊢;obtain ⟨q1,q2⟩:=this;refine ⟨q1,?_⟩;rcases q2 with q2|⟨g',cap,cur,e,_,r⟩
  ·exact .inl q2
  ·refine .inr ⟨g',cap,cur,e,?_,r⟩
   injection e with e _ _;subst e;exact (h.own.lt g' rfl).1
 ·exact h.own.nx.trans hc fun i hi e=>by have:=hb.2;omega
 ·refine (h.ok z (hp.subset hz)).ch hc (fun k hk hd e=>?_) fun k ⟨a,b,d⟩=>⟨a,Nat.lt_of_lt_of_le b hc.size,d⟩
  subst e;rcases hg with hg|hg
  ·exact hd.2.2 ((hb.1 k).2 ⟨rfl,by rw[hg];simp⟩)
  ·subst hg
   have:=hp.subset hz;simp at this
section
variable {w : World} {D : Nat → Prop} {A : Option Addr} {n c : Nat} {l : List RV}
theorem FD (h:Rd w D 9 A n (bM l)) (hl:l.length=n) (hn:n<=1000000) (hk:∀x∈l,x.ok w D/\x.row.ak.length<=1000000000):
 Calls Tryz.prog 83 #[.slice A n c] w (UW l w):=by
 obtain ⟨i0,hi0,hz0,hz1,hz2⟩:=info_parts Tryz.fZ;have Hl:=ah hl;have H:=ah h;have HK:=ah hk;clear hl h hk;go_enter Tryz.func83,Tryz.ntmps83;go_wp2_with fail;go_loopw [3,8] (fun v i wr=>∃(k:Nat) (zs:List RV),k<=n/\i=.int .i64 (k:Int)/\Hid (bZ w wr v zs)/\Hid (zs.map (fun x=>x.row)=(l.take k).map fun x=>x.row)) (fun _ i _=>n-(intOf i).toNat)
 case atStart=>exact ⟨0,[],Nat.zero_le _,rfl,ah (bZ.nil w w (Ch.refl _ _)),ah rfl⟩
 case round=>
  obtain ⟨w4,rfl⟩:∃w4:World,w4=wr:=⟨_,rfl⟩;obtain ⟨k,zs,hkn,rfl,Hr,Hm⟩:=hrel;by_cases hlt:k<n
  ·have hkl:k<l.length:=by rw[Hl.out];exact hlt
   obtain ⟨ad,rfl,hb,p0,p1,p2,p3,p4,p5,p6,p7,p8⟩:=qg (H.out.nx (by decide) Hr.out.own.nx) hkl;have HT:=ah (fun w' (hn:Nx w4 w')=>qG (x:=l[k]) (((HK.out _ (List.getElem_mem hkl)).1.ch Hr.out.own.nx (fun _ _ _ hf=>hf) (fun _ h=>h)).ch hn (D':=D) (fun _ _ _ hf=>hf) (fun _ h=>h)) (Nat.le_trans (HK.out _ (List.getElem_mem hkl)).2 (by decide)));unfold aK at HT;have Hm2:=ah (show (zs.map (fun x=>x.row))++[l[k].row]=(l.take (k+1)).map fun x=>x.row by rw[Hm.out,List.take_succ_eq_append_getElem hkl,List.map_append];rfl);clear hb;generalize l[k]=x at *;obtain ⟨⟨kind,time,ak,text,value,null,maker,seq,place⟩,A1,c1⟩:=x;simp only at p0 p1 p2 p3 p4 p5 p6 p7 p8 HT Hm2
   have hzl:zs.length<=1000000:=by
    have:=congrArg List.length Hm.out;simp at this;omega
   go_wp2_with fail;refine (HT.out _ ((Ch.refl _ w4).alloc _)).mono ?_;rintro e w5 ⟨⟨yr,A2,c2⟩,rfl,hy,hok,nx⟩;simp only at hy;subst hy;have HR5:=ah (Hr.out.tr (((Ch.refl _ w4).alloc _).tr nx))
   have HY:=ah (hok.ch (Ch.refl (fun _=>False) w5) (D':=fun k=>w.heap.size<=k/\k<w5.heap.size/\u3.ownBlock≠some k) (fun _ _ _ hf=>hf) (fun k hk=>by
    have h1:=Hr.out.own.nx.size;have h2:=hk.1;simp at h2;refine ⟨by omega,hk.2,fun e=>?_⟩;have:=(Hr.out.own.lt k e).2;omega))
   have HS:=ah HR5.out.own.nx.size;have HL9:=ah (Rd.wW w5 ⟨⟨kind,time,ak,text,value,null,maker,seq,place⟩,A2,c2⟩);clear hok nx HT p0 p1 p2 p3 p4 p5 p6 p7 p8;unfold aK;simp only at HL9;go_wp2_with (at_builtin;refine z04 _ rfl (.tmp 12) (.tmp 15) _ rfl w.heap.size 79 i0 _ 9 96 Tryz.underlying34 hi0 hz0 hz1 hz2 rfl (by omega) u3 zs.length (bM zs) rfl (HR5.out.own.alloc _).own _ (some ⟨w5.heap.size,0,none⟩) 1 1 _ rfl HL9.out (IY _) (by simp only[maxLen];omega) (by omega) (by have:=HS.out;simp;omega) ?_;intro v7 w7 dn gr7 at7;obtain ⟨o7,m7⟩:=Di HR5.out.own ((Ch.refl _ w5).alloc _) dn gr7 at7;have G7:=ah (HR5.out.app (ys:=[_]) o7 m7 (by intro y hy;rw[List.mem_singleton]at hy;subst hy;exact HY.out));clear dn gr7 at7 o7 m7)
   go_roundw
   case rel=>exact ⟨k+1,_,by omega,by go_num,G7,ah (by rw[List.map_append];exact Hm2.out)⟩
   case measure=>simp[intOf];omega
  ·have hkn2:n=k:=by omega
   have hlz:zs.length=n:=by
    have:=congrArg List.length Hm.out;have:=Hl.out;simp at *;omega
   have HC:=ah (fun (w':World) (hn:Nx w4 w')=>Ju (Hr.out.tr hn) (by omega));have HM:=ah (show zs.map (fun x=>x.row)=l.map fun x=>x.row by rw[Hm.out,List.take_of_length_le (by rw[Hl.out];omega)]);clear hkn2 hlz;go_wp2_with fail;refine (HC.out _ (Ch.refl _ _)).mono ?_;rintro e w5 ⟨rfl,hr5⟩;have H5:=ah hr5;clear hr5;go_wp2_with fail;go_ret;refine ⟨_,_,rfl,H5.out,?_⟩;have:=qC (fun x:RV=>x.row) dN zs;rw[HM.out]at this;exact this
end
def aC.few (x:aC):Prop:=x.small/\x.ak.length<=1000000
def aC.mid (x:aC):Prop:=x.small/\x.ak.length<=9223372036854775807
theorem aF.weak {W W1 w:World} {e:TypeId} {size n:Nat} {v:Value} {xs:List Value} (h:aF W1 w e size v n xs) (c:Nx W W1):aF W w e size v n xs:=⟨su h.own c.size,c.tr h.nx⟩
def Ye (w:World) (kind time:Int) (ak:List bT) (text:ByteArray) (value:Int) (null:Bool) (e:Ending) (w':World):Prop:=
 ∃A2 c2,e=.returned (.agg #[.int .i64 kind,.int .i64 time,.slice A2 ak.length c2,.string text,.int .i64 value,.bool null])/\Rd w' (fun k=>w.heap.size<=k/\k<w'.heap.size) 2 A2 ak.length (lbl ak)/\Nx w w'/\ak.length<=c2/\c2<=maxLen
section
variable {w : World} {D : Nat → Prop}
theorem Fa {kind time value:Int} {ak:List bT} {text:ByteArray} {null:Bool} {A1:Option Addr} {c1:Nat} (h1:Rd w D 2 A1 ak.length (lbl ak)) (hl:ak.length<=4398046511104):
 Calls Tryz.prog 31 #[.agg #[.int .i64 kind,.int .i64 time,.slice A1 ak.length c1,.string text,.int .i64 value,.bool null]] w (Ye w kind time ak text value null):=by
 have HR:=ah (fun w' (hn:Nx w w')=>tV (c:=c1) (h1.nx (by decide) hn) rfl hl);clear h1;go_enter Tryz.func31,Tryz.ntmps31;go_wp2_with fail;have pq:=ah (((Ch.refl (fun _=>False) w).alloc (.cells #[.int .i64 kind,.int .i64 time,.slice A1 ak.length c1,.string text,.int .i64 value,.bool null] 57)).alloc (.cells #[.int .i64 0,.int .i64 0,.slice none 0 0,.string ⟨#[]⟩,.int .i64 0,.bool false] 57));refine (HR.out _ pq.out).mono ?_;rintro e w1 ⟨A2,c2,rfl,rd,nx,hc2,hm2⟩;have b1:aG w1 w.heap.size 57 #[.int .i64 kind,.int .i64 time,.slice A1 ak.length c1,.string text,.int .i64 value,.bool null]:=((aG.new w _ _).alloc _).nx nx;have b2:aG w1 (w.heap.size+1) 57 #[.int .i64 0,.int .i64 0,.slice none 0 0,.string ⟨#[]⟩,.int .i64 0,.bool false]:=(by have:=aG.new (w.alloc (.cells #[.int .i64 kind,.int .i64 time,.slice A1 ak.length c1,.string text,.int .i64 value,.bool null] 57)) 57 #[.int .i64 0,.int .i64 0,.slice none 0 0,.string ⟨#[]⟩,.int .i64 0,.bool false];simpa using this.nx nx);have NX:=ah (pq.out.tr nx);have RD:=ah (rd.more (D':=fun k=>w.heap.size+2<=k/\k<w1.heap.size) (by intro k hk;simpa using hk));have f1:=b1.frozen;have f2:=b2.frozen;have d1:=b1.cell;have d2:=b2.cell;have hs:=ah (show w.heap.size+1<w1.heap.size from b2.lt);have B2:=ah b2;clear rd nx HR pq b1 b2;go_wp2_with fail;obtain ⟨w3,hw3⟩:∃w3,w3=w1.setCell ⟨w.heap.size,2,none⟩ (.slice A2 ak.length c2):=⟨_,rfl⟩;obtain ⟨w2,hW⟩:∃w2,w2=dI w3 (w.heap.size+1) 0 [.int .i64 kind,.int .i64 time,.slice A2 ak.length c2,.string text,.int .i64 value,.bool null]:=⟨_,rfl⟩;have UA:Ch (fun k=>k=w.heap.size) w1 w3:=by rw[hw3];exact Ch.setCell (S:=fun k=>k=w.heap.size) (Ch.refl _ w1) (p:=⟨w.heap.size,2,none⟩) (fun _=>rfl) _
 have b3:aG w3 (w.heap.size+1) 57 #[.int .i64 0,.int .i64 0,.slice none 0 0,.string ⟨#[]⟩,.int .i64 0,.bool false]:=by rw[hw3];exact B2.out.far (by simp) _
 have hch:Ch (fun k=>k=w.heap.size+1) w3 w2:=by rw[hW];exact NT _ _ _
 have b4:aG w2 (w.heap.size+1) 57 #[.int .i64 kind,.int .i64 time,.slice A2 ak.length c2,.string text,.int .i64 value,.bool null]:=by rw[hW];exact VN b3 _ rfl
 have d:=b4.cell;simp only[dI,hw3]at hW;rw[←hW];clear hW d1 d2 f1 f2 b3 b4 B2 hw3;refine bodyPost_ret (v:=.agg #[.int .i64 kind,.int .i64 time,.slice A2 ak.length c2,.string text,.int .i64 value,.bool null]) (by simp[results,Tryz.results31,go_sem,d]) rfl ?_;have hall:Ch (fun k=>k=w.heap.size∨k=w.heap.size+1) w1 w2:=(UA.mono fun _ _ h=>.inl h).trans hch fun _ _ h=>.inr h;have hsz:=hall.size;exact ⟨_,_,rfl,(RD.out.ch (by decide) hall fun k _ hk=>by omega).more fun k hk=>by have:=hs.out;omega,NX.out.trans hall fun i hi hs=>by rcases hs with rfl|rfl<;>omega,hc2,hm2⟩
end
end Go.Proofs.YtdbfejfhpkakhaaGreat
