/- Contracts and plain laws that the last text rests on. Conditions: each theorem states its own. -/
import Derived.Test.YtdbfejfhpkakhaaGreatKeQ5
import Derived.Test.YtdbfejfhpkakhaaGreatKeQ6
import Derived.Deep.QuietTactic
import Derived.BigQuiet
set_option maxRecDepth 100000
set_option maxHeartbeats 16000000
set_option linter.unusedVariables false
namespace Go.Proofs.YtdbfejfhpkakhaaGreat
open Go.RowKit
def fA (x y:RV):Bool:=dV x.row y.row
theorem Qr:Weak fA:=⟨fun x y h=>Xg.1 x.row y.row h,fun x y z h k=>Xg.2 x.row y.row z.row h k,fun x y z h k=>Xg.3 x.row y.row z.row h k⟩
theorem jV (x y:RV):decide (ny x.row y.row<0)=fA x y:=xI x.row y.row
abbrev jQ:Value:=.func (.func 112) #[] #[]
abbrev SAT (w:World) (g:Nat) (A:Option Addr) (cap:Nat) (ys:List (Tg RV)):Prop:=SA w g A cap (ys.map fun x=>x.row)
section
variable {w : World} {g cap : Nat} {A : Option Addr}
theorem ins_any {P M S:List (Tg RV)} {n a m b:Nat} (h:SAT w g A cap (P++M++S)) (hn:P.length+M.length+S.length=n) (hn2:n<=1000000) (ha:P.length=a) (hm:M.length=m) (hb:a+m=b) (ht:M.Pairwise fun x y=>x.tag<y.tag):
 Calls Tryz.prog 196 #[.slice A n cap,.int .i64 a,.int .i64 b,jQ] w fun e w'=>e=.returned (.tuple #[])/\∃C,C.Perm M/\C.Pairwise (Rt fA)/\SAT w' g A cap (P++C++S)/\Ch (fun k=>k=g) w w':=by
 have HT:=ah ht;have hmn:b<=n:=by omega
 have hab:a<=b:=by omega
 have HB:=ah hb;have yt:Hid (P.length+M.length+S.length=n):=ah hn;have HA:=ah ha;have HM:=ah hm;have Hh:=ah h;clear ht hn ha hm hb h;go_enter Tryz.func196,Tryz.ntmps196;go_wp2_with fail;go_loopw [8] (fun s8 wr=>∃(I:Nat) (ys:List (Tg RV)),s8=.int .i64 (I:Int)/\a+1<=I/\I<=b+1/\Hid (SAT wr g A cap ys)/\Hid (Ch (fun k=>k=g) w wr)/\Hid (nU fA P M S (I-a) ys)) (fun s8 _=>b+1-(intOf s8).toNat)
 case atStart=>exact ⟨a+1,_,by go_num,by omega,by omega,Hh,ah (Ch.refl _ _),ah (by rw[Nat.add_sub_cancel_left];exact nU.first P M S)⟩
 case round=>
  obtain ⟨w4,rfl⟩:∃w4:World,w4=wr:=⟨_,rfl⟩;obtain ⟨I,ys,rfl,hi1,him,Hs,Hc,Hi⟩:=hrel;clear Hh;by_cases hlt:I<b
  ·have hj0:=(Hi.out).enter (by rw[HM.out];have:=HB.out;omega)
   rw[HA.out,show a+(I-a)=I by omega]at hj0;have HJ0:=ah hj0;have HC0:=Hc;clear hj0;go_wp2_with fail;go_loopw [9] (fun s9 wr=>∃(J:Nat) (ys:List (Tg RV)),s9=.int .i64 (J:Int)/\J<=I/\Hid (SAT wr g A cap ys)/\Hid (Ch (fun k=>k=g) w wr)/\Hid (Bd fA P M S (I-a) J ys)) (fun s9 _=>(intOf s9).toNat)
   case atStart=>exact ⟨I,ys,rfl,Nat.le_refl _,Hs,Hc,HJ0⟩
   case round=>
    obtain ⟨w5,rfl⟩:∃w5:World,w5=wr:=⟨_,rfl⟩;obtain ⟨J,zs,rfl,hJi,Js,Jc,Ji⟩:=hrel;obtain ⟨Zn,haJ,h0,h1⟩:=Ji.out.all Qr HT.out;rw[HA.out]at haJ h0 h1;rw[show I-a+1=I+1-a by omega]at h0 h1;have hzn:zs.length=n:=(by rw[Ji.out.len,yt.out]);clear Hs Hc Hi HJ0 HC0 Ji;by_cases hgt:a<J
    ·obtain ⟨hJ2,hY,hN⟩:=h1 hgt
     have HY:=ah hY;have HN:=ah hN;clear h0 h1 hY hN;have jw:J<(zs.map fun x=>x.row).length:=(by simpa using Zn);have gX:J-1<(zs.map fun x=>x.row).length:=(by simpa using hJ2);have hA:=Js.out.form jw;subst hA;have gJ:(zs.map fun x=>x.row)[J]=zs[J].row:=List.getElem_map ..;have gJ2:(zs.map fun x=>x.row)[J-1]=zs[J-1].row:=List.getElem_map ..;have HQ:=ah (fun w' (hn:Nx w5 w')=>(Js.out.nx hn).at_ jw);have HQ2:=ah (fun w' (hn:Nx w5 w')=>(Js.out.nx hn).at_ gX);have HF:=ah (fun w' (hn:Nx w5 w')=>(Js.out.nx hn).frozen jw);have HS:=ah (fun w' (hn:Nx w5 w') wf=>(Js.out.nx hn).swap jw gX (w':=wf));have Bg:=ah (fun w' (hn:Nx w5 w')=>Js.out.nx hn);rw[←z34,gJ,gJ2]at HS;rw[gJ]at HQ;rw[gJ2]at HQ2;have gI:=ah (fun w=>Ut zs[J].row zs[J-1].row w);have hlt:=jV zs[J].row zs[J-1].row;have HL:=ah (pY zs J (J-1));generalize zs[J].row=x at *;generalize zs[J-1].row=y at *;have hnd:Nx w5 w5.drew:=(Ch.refl _ w5).drew;clear Js gJ gJ2;obtain ⟨⟨kind,time,ak,text,value,null,maker,seq,place⟩,A1,c1⟩:=x;obtain ⟨⟨kind2,bH,bW,bT,value2,bV,aV,seq2,aU⟩,A2,c2⟩:=y;unfold aJ at gI;unfold yc at HQ HQ2;simp only at gI HQ HQ2 hlt;go_wp2_with fail;refine wp_region_still_tail 14 rfl (by kernel_rfl) ?_;change wpStill _ _ w5.drew _ _ _;obtain ⟨p0,p1,p2,p3,p4,p5,p6,p7,p8⟩:=HQ.out _ hnd;obtain ⟨q0,q1,q2,q3,q4,q5,q6,q7,q8⟩:=HQ2.out _ hnd;have SK:=ah hnd;clear hnd;generalize w5.drew=w6 at *;simp only[List.take_succ_cons,List.take_zero,List.drop_succ_cons,List.drop_zero];have hd:decide ((a:Int)<(J:Int))=true:=by rw[decide_eq_true_iff];omega
     have hwr:IntKind.i64.wrap ((J:Int)-1)=(J:Int)-1:=IntWalk.i64_in _ (by omega);have htn:((J:Int)-1).toNat=J-1:=(by omega);have hb4:(1:Int)<=(J:Int):=(by omega);have hb1:(0:Int)<=(J:Int)-1:=(by omega);have hb2:(J:Int)-1<(n:Int):=(by omega);have hb3:(J:Int)<(n:Int):=by omega
     repeat still_step
     refine wpStill_nil ?_;clear p0 p1 p2 p3 p4 p5 p6 p7 p8 q0 q1 q2 q3 q4 q5 q6 q7 q8;go_wp2_with fail;refine (gI.out _).mono ?_;rintro e w7 ⟨rfl,n7⟩;have N7:=ah ((Ch.refl (fun _=>False) w5).drew.tr n7);clear n7 SK gI;generalize ny _ _=r at *;cases hv:fA ⟨⟨kind,time,ak,text,value,null,maker,seq,place⟩,A1,c1⟩ ⟨⟨kind2,bH,bW,bT,value2,bV,aV,seq2,aU⟩,A2,c2⟩
     ·have HR:=ah (HN.out hv)
      rw[hv]at hlt;have hr:¬r<0:=of_decide_eq_false hlt;have Hs7:=ah (Bg.out w7 N7.out);clear hv hlt HN HY HS HQ HQ2 HF Bg;go_wp2_with fail;go_roundw
      case rel=>exact ⟨I+1,zs,by go_num,by omega,by omega,Hs7,ah (Jc.out.tr N7.out),HR⟩
      case measure=>simp[intOf];omega
     ·have HR:=ah (HY.out hv)
      rw[hv]at hlt;have hr:r<0:=of_decide_eq_true hlt;have HS7:=ah (fun wf=>HS.out w7 N7.out wf);obtain ⟨p0,p1,p2,p3,p4,p5,p6,p7,p8⟩:=HQ.out w7 N7.out;obtain ⟨q0,q1,q2,q3,q4,q5,q6,q7,q8⟩:=HQ2.out w7 N7.out;have cf:=HF.out w7 N7.out;clear hv hlt HN HY HS HQ HQ2 HF Bg;go_wp2_with fail;go_region
      generalize hW:World.setCell _ _ _=W8;obtain ⟨g1,g2⟩:=HS7.out W8 hW.symm;clear hW p0 p1 p2 p3 p4 p5 p6 p7 p8 q0 q1 q2 q3 q4 q5 q6 q7 q8 cf HS7;have G1:=ah g1;have G2:=ah ((Jc.out.tr N7.out).trans g2 fun _ _ e=>e);clear g1 g2;go_wp2_with fail;go_roundw
      case rel=>exact ⟨J-1,_,by go_num,by omega,G1,ah G2.out.drew,HR⟩
      case measure=>simp[intOf];omega
    ·have hJa:J=a:=by omega
     have HR:=ah (h0 hJa);have hd:decide ((a:Int)<(J:Int))=false:=by rw[decide_eq_false_iff_not];omega
     clear h0 h1;go_wp2_with fail;go_quiet (fail)
     go_wp2_with fail;go_roundw
     case rel=>exact ⟨I+1,zs,by go_num,by omega,by omega,Js,ah (Ch.drewN Jc.out _),HR⟩
     case measure=>simp[intOf];omega
  ·have hend:=(Hi.out).last (by rw[HM.out];have:=HB.out;omega)
   obtain ⟨C,hp,Xw,hys⟩:=hend;have HE:=ah (⟨hp,Xw,hys⟩:C.Perm M/\C.Pairwise (Rt fA)/\ys=P++C++S);clear hp Xw hys;go_wp2_with fail;go_end0
   obtain ⟨hp,Xw,rfl⟩:=HE.out;exact ⟨rfl,C,hp,Xw,Hs.out,Hc.out⟩
end
section
variable {w : World} {g cap : Nat} {A : Option Addr}
theorem GY {P B S:List (Tg RV)} {x:Tg RV} {n a m b:Nat} (h:SAT w g A cap (P++[x]++B++S)) (hn:P.length+1+B.length+S.length=n) (hn2:n<=1000000) (ha:P.length=a) (hm:a+1=m) (hb:m+B.length=b) (hR:Runs fA P [x] B S):
 Calls Tryz.prog 197 #[.slice A n cap,.int .i64 a,.int .i64 m,.int .i64 b,jQ] w fun e w'=>e=.returned (.tuple #[])/\∃C,kF fA [x] B C/\SAT w' g A cap (P++C++S)/\Ch (fun k=>k=g) w w':=by
 have HR:=ah hR;have hbn:b<=n:=by omega
 have ham:a<m:=by omega
 have hmb:m<=b:=by omega
 have hq:((m:Int)-(a:Int)==1)=true:=by simp;omega
 have yt:=ah hn;have HA:=ah ha;have HM:=ah hm;have HB:=ah hb;have Hh:=ah h;clear hn ha hm hb h hR;go_enter Tryz.func197,Tryz.ntmps197;go_wp2_with fail;go_loopw [10,11] (fun s10 s11 wr=>∃(i j:Nat),s10=.int .i64 (i:Int)/\s11=.int .i64 (j:Int)/\m<=i/\i<=j/\j<=b/\Hid (SAT wr g A cap (P++[x]++B++S))/\Hid (Ch (fun k=>k=g) w wr)/\Hid (gW fA x B m i j)) (fun s10 s11 _=>(intOf s11).toNat-(intOf s10).toNat)
 case atStart=>exact ⟨m,b,rfl,rfl,Nat.le_refl _,hmb,Nat.le_refl _,Hh,ah (Ch.refl _ _),ah (gW.start x B m b HB.out.symm)⟩
 case round=>
  obtain ⟨w5,rfl⟩:∃w5:World,w5=wr:=⟨_,rfl⟩;obtain ⟨i,j,rfl,rfl,YX,hij,hjb,Js,Jc,Ji⟩:=hrel;clear Hh;by_cases hlt:i<j
  ·obtain ⟨H,Zo⟩:∃H:Nat,((i:Int)+(j:Int)) / 2=(H:Int):=⟨(i+j) / 2,by omega⟩
   have hHi:i<=H:=(by omega);have hHj:H<j:=(by omega);go_wp2_with fail;clear Zo;have hL1:H<(P++[x]++B++S).length:=by simp;have:=yt.out;have:=HB.out;have:=HA.out;have:=HM.out;omega
   have hL2:a<(P++[x]++B++S).length:=by simp;have:=yt.out;have:=HB.out;have:=HA.out;have:=HM.out;omega
   have jw:H<((P++[x]++B++S).map fun x=>x.row).length:=by rw[List.length_map];exact hL1
   have gX:a<((P++[x]++B++S).map fun x=>x.row).length:=by rw[List.length_map];exact hL2
   have hA:=Js.out.form jw;subst hA;have gJ:((P++[x]++B++S).map fun x=>x.row)[H]=(P++[x]++B++S)[H].row:=List.getElem_map ..;have gJ2:((P++[x]++B++S).map fun x=>x.row)[a]=(P++[x]++B++S)[a].row:=List.getElem_map ..;have HQ:=ah (fun w' (hn:Nx w5 w')=>(Js.out.nx hn).at_ jw);have HQ2:=ah (fun w' (hn:Nx w5 w')=>(Js.out.nx hn).at_ gX);have Bg:=ah (fun w' (hn:Nx w5 w')=>Js.out.nx hn);rw[gJ]at HQ;rw[gJ2]at HQ2;have gI:=ah (fun w=>Ut (P++[x]++B++S)[H].row (P++[x]++B++S)[a].row w);have hcv:=jV (P++[x]++B++S)[H].row (P++[x]++B++S)[a].row
   have ga:(P++[x]++B++S)[a]=x:=by
    have e:(P++[x]++B++S)[a]?=some x:=by
     rw[List.append_assoc,List.append_assoc,List.getElem?_append_right (by rw[HA.out];exact Nat.le_refl _),HA.out,Nat.sub_self];rfl
    rw[List.getElem?_eq_getElem hL2]at e;injection e
   obtain ⟨y,hy,gy⟩:∃y,B[H-m]?=some y/\(P++[x]++B++S)[H]=y:=by
    have e:(P++[x]++B++S)[H]?=B[H-m]?:=by
     rw[List.append_assoc,List.getElem?_append_right (by rw[List.length_append,HA.out];have:=HM.out;simp;omega),List.length_append,HA.out,show H-(a+[x].length)=H-m by rw[List.length_singleton,HM.out],List.getElem?_append_left (by have:=HB.out;omega)]
    rw[List.getElem?_eq_getElem hL1]at e;exact ⟨_,e.symm,rfl⟩
   have HY:Hid (fA (P++[x]++B++S)[H].row (P++[x]++B++S)[a].row=true->gW fA x B m (H+1) j):=ah (fun hl=>by
    rw[gy,ga]at hl;exact Ji.out.up hHi hHj hy (.inl hl))
   have HN:Hid (fA (P++[x]++B++S)[H].row (P++[x]++B++S)[a].row=false->gW fA x B m i H):=ah (fun hl=>by
    rw[gy,ga]at hl;exact Ji.out.down hHi hHj hy (Rt.lV Qr (HR.out.tg x (by simp) y (List.mem_of_getElem? hy)) hl))
   clear hy ga gy y Ji;have hx1:(H:Int)<(n:Int):=(by omega);have hx2:(a:Int)<(n:Int):=(by omega);generalize (P++[x]++B++S)[H].row=x1 at *;generalize (P++[x]++B++S)[a].row=y1 at *;have hnd:Nx w5 w5.drew:=(Ch.refl _ w5).drew;clear Js gJ gJ2 hL1 hL2 jw gX;obtain ⟨⟨kind,time,ak,text,value,null,maker,seq,place⟩,A1,c1⟩:=x1;obtain ⟨⟨kind2,bH,bW,bT,value2,bV,aV,seq2,aU⟩,A2,c2⟩:=y1;unfold aJ at gI;unfold yc at HQ HQ2;simp only at gI HQ HQ2 hcv;refine wp_region_still_tail 9 rfl (by kernel_rfl) ?_;change wpStill _ _ w5.drew _ _ _;obtain ⟨p0,p1,p2,p3,p4,p5,p6,p7,p8⟩:=HQ.out _ hnd;obtain ⟨q0,q1,q2,q3,q4,q5,q6,q7,q8⟩:=HQ2.out _ hnd;have SK:=ah hnd;clear hnd;generalize w5.drew=w6 at *;simp only[List.take_succ_cons,List.take_zero,List.drop_succ_cons,List.drop_zero]
   repeat still_step
   refine wpStill_nil ?_;clear p0 p1 p2 p3 p4 p5 p6 p7 p8 q0 q1 q2 q3 q4 q5 q6 q7 q8 HQ HQ2;go_wp2_with fail;refine (gI.out _).mono ?_;rintro e w7 ⟨rfl,n7⟩;have N7:=ah ((Ch.refl (fun _=>False) w5).drew.tr n7);clear n7 SK gI;generalize ny _ _=r at *;have Hs7:=ah (Bg.out w7 N7.out);have C7:=ah (Jc.out.tr N7.out);clear Bg N7 Jc;cases hv:fA ⟨⟨kind,time,ak,text,value,null,maker,seq,place⟩,A1,c1⟩ ⟨⟨kind2,bH,bW,bT,value2,bV,aV,seq2,aU⟩,A2,c2⟩
   ·have HRR:=ah (HN.out hv)
    rw[hv]at hcv;have hr:¬r<0:=of_decide_eq_false hcv;clear hv hcv HN HY;go_wp2_with fail;go_roundw
    case rel=>exact ⟨i,H,rfl,rfl,YX,hHi,by omega,Hs7,C7,HRR⟩
    case measure=>simp[intOf];omega
   ·have HRR:=ah (HY.out hv)
    rw[hv]at hcv;have hr:r<0:=of_decide_eq_true hcv;clear hv hcv HN HY;go_wp2_with fail;go_roundw
    case rel=>exact ⟨H+1,j,by go_num,rfl,by omega,by omega,hjb,Hs7,C7,HRR⟩
    case measure=>simp[intOf];omega
  ·obtain rfl:i=j:=by omega
   have HMg:=ah (Ji.out.ER Qr HR.out.sb)
   have Js0:Hid (SAT w5 g A cap (iO P x B S a a)):=ah (by
    have:=Js.out;unfold iO;rw[Nat.sub_self];simp only[List.take_zero,List.drop_zero,List.nil_append];rw[show P++([x]++B)++S=P++[x]++B++S by simp];exact this)
   have hai:a<=i-1:=(by omega);clear Ji Js;go_wp2_with fail;go_loopw [13] (fun s13 wr=>∃k:Nat,s13=.int .i64 (k:Int)/\a<=k/\k<=i-1/\Hid (SAT wr g A cap (iO P x B S a k))/\Hid (Ch (fun k=>k=g) w wr)) (fun s13 _=>i-(intOf s13).toNat)
   case atStart=>exact ⟨a,rfl,Nat.le_refl _,hai,Js0,Jc⟩
   case round=>
    obtain ⟨w5,rfl⟩:∃w5:World,w5=wr:=⟨_,rfl⟩;obtain ⟨k,rfl,hak,hki,Js,Jc⟩:=hrel;clear Js0;have hi1:(1:Int)<=(i:Int):=(by omega);by_cases hlt:k<i-1
    ·have hlt2:(k:Int)<(i:Int)-1:=by omega
     have hL1:k<(iO P x B S a k).length:=by rw[iO.len];have:=yt.out;have:=HB.out;have:=HA.out;have:=HM.out;omega
     have hL2:(k+1)<(iO P x B S a k).length:=by rw[iO.len];have:=yt.out;have:=HB.out;have:=HA.out;have:=HM.out;omega
     have jw:k<((iO P x B S a k).map fun x=>x.row).length:=by rw[List.length_map];exact hL1
     have gX:(k+1)<((iO P x B S a k).map fun x=>x.row).length:=by rw[List.length_map];exact hL2
     have hA:=Js.out.form jw;subst hA;obtain ⟨p0,p1,p2,p3,p4,p5,p6,p7,p8⟩:=Js.out.at_ jw;obtain ⟨q0,q1,q2,q3,q4,q5,q6,q7,q8⟩:=Js.out.at_ gX;have cf:=Js.out.frozen jw;have HS:=ah (fun wf=>Js.out.swap jw gX (w':=wf));rw[←z34]at HS;generalize ((iO P x B S a k).map fun x=>x.row)[k]=x1 at *;generalize ((iO P x B S a k).map fun x=>x.row)[(k+1)]=y1 at *;rw[iO.right HA.out hak (by have:=HB.out;have:=HM.out;omega)]at HS;have hx1:(k:Int)+1<(n:Int):=(by omega);have hx2:(k:Int)<(n:Int):=(by omega);clear Js hL1 hL2 jw gX;obtain ⟨⟨kind,time,ak,text,value,null,maker,seq,place⟩,A1,c1⟩:=x1;obtain ⟨⟨kind2,bH,bW,bT,value2,bV,aV,seq2,aU⟩,A2,c2⟩:=y1;simp only at p0 p1 p2 p3 p4 p5 p6 p7 p8 q0 q1 q2 q3 q4 q5 q6 q7 q8;go_wp2_with fail;go_region
     generalize hW:World.setCell _ _ _=W8;obtain ⟨g1,g2⟩:=HS.out W8 hW.symm;clear hW p0 p1 p2 p3 p4 p5 p6 p7 p8 q0 q1 q2 q3 q4 q5 q6 q7 q8 cf HS;have G1:=ah g1;have G2:=ah (Jc.out.trans g2 fun _ _ e=>e);clear g1 g2 Jc;go_wp2_with fail;go_roundw
     case rel=>exact ⟨k+1,by go_num,by omega,by omega,G1,ah G2.out.drew⟩
     case measure=>simp[intOf];omega
    ·have hk:k=i-1:=by omega
     have hlt2:¬(k:Int)<(i:Int)-1:=by omega
     have um:Hid (SAT w5 g A cap (P++(B.take (i-m)++[x]++B.drop (i-m))++S)):=ah (by
      have:=Js.out;unfold iO at this;rw[show k-a=i-m by have:=HM.out;omega]at this;exact this)
     clear Js hk;go_wp2_with fail;refine bodyPost_ret (results_none rfl _ _ _) rfl ?_;exact ⟨rfl,_,HMg.out,by first|exact um.out|(have:=um.out;rwa [List.append_assoc P]at this),Jc.out⟩
end
section
variable {w : World} {g cap : Nat} {A : Option Addr}
theorem D_ {P A1' S:List (Tg RV)} {x:Tg RV} {n a m b:Nat} (h:SAT w g A cap (P++A1'++[x]++S)) (hn:P.length+A1'.length+1+S.length=n) (hn2:n<=1000000) (ha:P.length=a) (hm:a+A1'.length=m) (hb:m+1=b) (hA2:a+1<m) (hR:Runs fA P A1' [x] S):
 Calls Tryz.prog 197 #[.slice A n cap,.int .i64 a,.int .i64 m,.int .i64 b,jQ] w fun e w'=>e=.returned (.tuple #[])/\∃C,kF fA A1' [x] C/\SAT w' g A cap (P++C++S)/\Ch (fun k=>k=g) w w':=by
 have HR:=ah hR;have hbn:b<=n:=by omega
 have ham:a<m:=by omega
 have hmb:m<b:=by omega
 have hq:((m:Int)-(a:Int)==1)=false:=by simp;omega
 have hq2:((b:Int)-(m:Int)==1)=true:=by simp;omega
 have yt:=ah hn;have HA:=ah ha;have HM:=ah hm;have HB:=ah hb;have Hh:=ah h;clear hn ha hm hb h hR hA2;go_enter Tryz.func197,Tryz.ntmps197;go_wp2_with fail;go_loopw [14,15] (fun s10 s11 wr=>∃(i j:Nat),s10=.int .i64 (i:Int)/\s11=.int .i64 (j:Int)/\a<=i/\i<=j/\j<=m/\Hid (SAT wr g A cap (P++A1'++[x]++S))/\Hid (Ch (fun k=>k=g) w wr)/\Hid (gW fA x A1' a i j)) (fun s10 s11 _=>(intOf s11).toNat-(intOf s10).toNat)
 case atStart=>exact ⟨a,m,rfl,rfl,Nat.le_refl _,by omega,Nat.le_refl _,Hh,ah (Ch.refl _ _),ah (gW.start x A1' a m HM.out.symm)⟩
 case round=>
  obtain ⟨w5,rfl⟩:∃w5:World,w5=wr:=⟨_,rfl⟩;obtain ⟨i,j,rfl,rfl,YX,hij,hjb,Js,Jc,Ji⟩:=hrel;clear Hh;by_cases hlt:i<j
  ·obtain ⟨H,Zo⟩:∃H:Nat,((i:Int)+(j:Int)) / 2=(H:Int):=⟨(i+j) / 2,by omega⟩
   have hHi:i<=H:=(by omega);have hHj:H<j:=(by omega);go_wp2_with fail;clear Zo;have hL1:m<(P++A1'++[x]++S).length:=by simp;have:=yt.out;have:=HB.out;have:=HA.out;have:=HM.out;omega
   have hL2:H<(P++A1'++[x]++S).length:=by simp;have:=yt.out;have:=HB.out;have:=HA.out;have:=HM.out;omega
   have jw:m<((P++A1'++[x]++S).map fun x=>x.row).length:=by rw[List.length_map];exact hL1
   have gX:H<((P++A1'++[x]++S).map fun x=>x.row).length:=by rw[List.length_map];exact hL2
   have hA:=Js.out.form jw;subst hA;have gJ:((P++A1'++[x]++S).map fun x=>x.row)[m]=(P++A1'++[x]++S)[m].row:=List.getElem_map ..;have gJ2:((P++A1'++[x]++S).map fun x=>x.row)[H]=(P++A1'++[x]++S)[H].row:=List.getElem_map ..;have HQ:=ah (fun w' (hn:Nx w5 w')=>(Js.out.nx hn).at_ jw);have HQ2:=ah (fun w' (hn:Nx w5 w')=>(Js.out.nx hn).at_ gX);have Bg:=ah (fun w' (hn:Nx w5 w')=>Js.out.nx hn);rw[gJ]at HQ;rw[gJ2]at HQ2;have gI:=ah (fun w=>Ut (P++A1'++[x]++S)[m].row (P++A1'++[x]++S)[H].row w);have hcv:=jV (P++A1'++[x]++S)[m].row (P++A1'++[x]++S)[H].row
   have ga:(P++A1'++[x]++S)[m]=x:=by
    have e:(P++A1'++[x]++S)[m]?=some x:=by
     rw[List.append_assoc,List.getElem?_append_right (by rw[List.length_append,HA.out,HM.out];exact Nat.le_refl _),List.length_append,HA.out,HM.out,Nat.sub_self];rfl
    rw[List.getElem?_eq_getElem hL1]at e;injection e
   obtain ⟨y,hy,gy⟩:∃y,A1'[H-a]?=some y/\(P++A1'++[x]++S)[H]=y:=by
    have e:(P++A1'++[x]++S)[H]?=A1'[H-a]?:=by
     rw[List.append_assoc,List.append_assoc,List.getElem?_append_right (by rw[HA.out];omega),HA.out,List.getElem?_append_left (by have:=HM.out;omega)]
    rw[List.getElem?_eq_getElem hL2]at e;exact ⟨_,e.symm,rfl⟩
   have HY:Hid (fA (P++A1'++[x]++S)[m].row (P++A1'++[x]++S)[H].row=true->gW fA x A1' a i H):=ah (fun hl=>by
    rw[gy,ga]at hl;exact Ji.out.down hHi hHj hy (.inl hl))
   have HN:Hid (fA (P++A1'++[x]++S)[m].row (P++A1'++[x]++S)[H].row=false->gW fA x A1' a (H+1) j):=ah (fun hl=>by
    rw[gy,ga]at hl;exact Ji.out.up hHi hHj hy (Rt.lV Qr (HR.out.tg y (List.mem_of_getElem? hy) x (by simp)) hl))
   clear hy ga gy y Ji;have hx1:(H:Int)<(n:Int):=(by omega);have hx2:(m:Int)<(n:Int):=(by omega);generalize (P++A1'++[x]++S)[m].row=x1 at *;generalize (P++A1'++[x]++S)[H].row=y1 at *;have hnd:Nx w5 w5.drew:=(Ch.refl _ w5).drew;clear Js gJ gJ2 hL1 hL2 jw gX;obtain ⟨⟨kind,time,ak,text,value,null,maker,seq,place⟩,A1,c1⟩:=x1;obtain ⟨⟨kind2,bH,bW,bT,value2,bV,aV,seq2,aU⟩,A2,c2⟩:=y1;unfold aJ at gI;unfold yc at HQ HQ2;simp only at gI HQ HQ2 hcv;refine wp_region_still_tail 9 rfl (by kernel_rfl) ?_;change wpStill _ _ w5.drew _ _ _;obtain ⟨p0,p1,p2,p3,p4,p5,p6,p7,p8⟩:=HQ.out _ hnd;obtain ⟨q0,q1,q2,q3,q4,q5,q6,q7,q8⟩:=HQ2.out _ hnd;have SK:=ah hnd;clear hnd;generalize w5.drew=w6 at *;simp only[List.take_succ_cons,List.take_zero,List.drop_succ_cons,List.drop_zero]
   repeat still_step
   refine wpStill_nil ?_;clear p0 p1 p2 p3 p4 p5 p6 p7 p8 q0 q1 q2 q3 q4 q5 q6 q7 q8 HQ HQ2;go_wp2_with fail;refine (gI.out _).mono ?_;rintro e w7 ⟨rfl,n7⟩;have N7:=ah ((Ch.refl (fun _=>False) w5).drew.tr n7);clear n7 SK gI;generalize ny _ _=r at *;have Hs7:=ah (Bg.out w7 N7.out);have C7:=ah (Jc.out.tr N7.out);clear Bg N7 Jc;cases hv:fA ⟨⟨kind,time,ak,text,value,null,maker,seq,place⟩,A1,c1⟩ ⟨⟨kind2,bH,bW,bT,value2,bV,aV,seq2,aU⟩,A2,c2⟩
   ·have HRR:=ah (HN.out hv)
    rw[hv]at hcv;have hr:(!decide (r<0))=true:=by rw[hcv];rfl
    clear hv hcv HN HY;go_wp2_with fail;go_roundw
    case rel=>exact ⟨H+1,j,by go_num,rfl,by omega,by omega,hjb,Hs7,C7,HRR⟩
    case measure=>simp[intOf];omega
   ·have HRR:=ah (HY.out hv)
    rw[hv]at hcv;have hr:(!decide (r<0))=false:=by rw[hcv];rfl
    clear hv hcv HN HY;go_wp2_with fail;go_roundw
    case rel=>exact ⟨i,H,rfl,rfl,YX,hHi,by omega,Hs7,C7,HRR⟩
    case measure=>simp[intOf];omega
  ·obtain rfl:i=j:=by omega
   have HMg:=ah (Ji.out.zY Qr HR.out.sa)
   have Js0:Hid (SAT w5 g A cap (iO P x A1' S a m)):=ah (by
    have:=Js.out;unfold iO;rw[show m-a=A1'.length by have:=HM.out;omega,List.take_length,List.drop_length];rw[show P++(A1'++[x]++[])++S=P++A1'++[x]++S by simp];exact this)
   clear Ji Js;go_wp2_with fail;go_loopw [17] (fun s13 wr=>∃k:Nat,s13=.int .i64 (k:Int)/\i<=k/\k<=m/\Hid (SAT wr g A cap (iO P x A1' S a k))/\Hid (Ch (fun k=>k=g) w wr)) (fun s13 _=>(intOf s13).toNat)
   case atStart=>exact ⟨m,rfl,hjb,Nat.le_refl _,Js0,Jc⟩
   case round=>
    obtain ⟨w5,rfl⟩:∃w5:World,w5=wr:=⟨_,rfl⟩;obtain ⟨k,rfl,hak,hki,Js,Jc⟩:=hrel;clear Js0;by_cases hlt:i<k
    ·have hk1:(1:Int)<=(k:Int):=by omega
     have hL1:k<(iO P x A1' S a k).length:=by rw[iO.len];have:=yt.out;have:=HB.out;have:=HA.out;have:=HM.out;omega
     have hL2:(k-1)<(iO P x A1' S a k).length:=by rw[iO.len];have:=yt.out;have:=HB.out;have:=HA.out;have:=HM.out;omega
     have jw:k<((iO P x A1' S a k).map fun x=>x.row).length:=by rw[List.length_map];exact hL1
     have gX:(k-1)<((iO P x A1' S a k).map fun x=>x.row).length:=by rw[List.length_map];exact hL2
     have hA:=Js.out.form jw;subst hA;obtain ⟨p0,p1,p2,p3,p4,p5,p6,p7,p8⟩:=Js.out.at_ jw;obtain ⟨q0,q1,q2,q3,q4,q5,q6,q7,q8⟩:=Js.out.at_ gX;have cf:=Js.out.frozen jw;have HS:=ah (fun wf=>Js.out.swap jw gX (w':=wf));rw[←z34]at HS;generalize ((iO P x A1' S a k).map fun x=>x.row)[k]=x1 at *;generalize ((iO P x A1' S a k).map fun x=>x.row)[(k-1)]=y1 at *;rw[iO.left HA.out (by omega) (by have:=HM.out;omega)]at HS;have hx1:(k:Int)-1<(n:Int):=(by omega);have hx2:(k:Int)<(n:Int):=(by omega);have hx3:(0:Int)<=(k:Int)-1:=(by omega);clear Js hL1 hL2 jw gX;obtain ⟨⟨kind,time,ak,text,value,null,maker,seq,place⟩,A1,c1⟩:=x1;obtain ⟨⟨kind2,bH,bW,bT,value2,bV,aV,seq2,aU⟩,A2,c2⟩:=y1;simp only at p0 p1 p2 p3 p4 p5 p6 p7 p8 q0 q1 q2 q3 q4 q5 q6 q7 q8;go_wp2_with fail;go_region
     generalize hW:World.setCell _ _ _=W8;obtain ⟨g1,g2⟩:=HS.out W8 hW.symm;clear hW p0 p1 p2 p3 p4 p5 p6 p7 p8 q0 q1 q2 q3 q4 q5 q6 q7 q8 cf HS;have G1:=ah g1;have G2:=ah (Jc.out.trans g2 fun _ _ e=>e);clear g1 g2 Jc;go_wp2_with fail;go_roundw
     case rel=>exact ⟨k-1,by go_num,by omega,by omega,G1,ah G2.out.drew⟩
     case measure=>simp[intOf];omega
    ·obtain rfl:k=i:=by omega
     have um:Hid (SAT w5 g A cap (P++(A1'.take (k-a)++[x]++A1'.drop (k-a))++S)):=ah Js.out;clear Js;go_wp2_with fail;refine bodyPost_ret (results_none rfl _ _ _) rfl ?_;exact ⟨rfl,_,HMg.out,by first|exact um.out|(have:=um.out;rwa [List.append_assoc P]at this),Jc.out⟩
end
end Go.Proofs.YtdbfejfhpkakhaaGreat
