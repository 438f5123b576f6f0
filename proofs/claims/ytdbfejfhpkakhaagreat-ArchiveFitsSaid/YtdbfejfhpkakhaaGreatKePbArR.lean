/- Contracts and plain laws that the last text rests on. Conditions: each theorem states its own. -/
import Derived.Test.YtdbfejfhpkakhaaGreatKePbArG
import Derived.Test.YtdbfejfhpkakhaaGreatKeQ6
import Derived.Test.YtdbfejfhpkakhaaGreatKeQ7
set_option maxRecDepth 100000
set_option maxHeartbeats 16000000
set_option linter.unusedVariables false
namespace Go.Proofs.YtdbfejfhpkakhaaGreat
open Go.RowKit
theorem OC (n a b:Int) (w:World):Calls Tryz.prog 18 #[.int .i64 n,.int .i64 a,.int .i64 b] w fun e w'=>e=.returned (.bool (bY n a b))/\w=w':=by
 unfold bY;by_cases h:a<=n
 ·go_enter Tryz.func18,Tryz.ntmps18
  go_wp2_with fail;go_ret;exact ⟨by simp[h],rfl⟩
 ·go_enter Tryz.func18,Tryz.ntmps18
  go_wp2_with fail;go_ret;exact ⟨by rw[show decide (a<=n)=false from decide_eq_false (by omega)];rfl,rfl⟩
theorem YH (a b c d:Int) (w:World) (k:Nat) (h:k<4):(Instr.index 73 (.agg #[.int .i64 a,.int .i64 b,.int .i64 c,.int .i64 d]) (.int .i64 (k:Int))).run Tryz.prog w=.ok (.int .i64 ([a,b,c,d].getD k 0)) w:=by
 rcases (show k=0∨k=1∨k=2∨k=3 by omega) with rfl|rfl|rfl|rfl
 all_goals kernel_rfl
theorem YI (a b c:Int) (w:World) (k:Nat) (h:k<3):(Instr.index 74 (.agg #[.int .i64 a,.int .i64 b,.int .i64 c]) (.int .i64 (k:Int))).run Tryz.prog w=.ok (.int .i64 ([a,b,c].getD k 0)) w:=by
 rcases (show k=0∨k=1∨k=2 by omega) with rfl|rfl|rfl
 all_goals kernel_rfl
def iI (l:List Int) (a b:Int) (k:Nat):Prop:=∀i,i<k->bY (l.getD i 0) a b=true
theorem iI.succ {l:List Int} {a b:Int} {k:Nat} (h:iI l a b k) (hk:bY (l.getD k 0) a b=true):iI l a b (k+1):=fun i hi=>by
 by_cases e:i=k
 ·subst e;exact hk
 ·exact h i (by omega)
theorem iI.four {x y z t a b:Int} (h:iI [x,y,z,t] a b 4):bY x a b=true/\bY y a b=true/\bY z a b=true/\bY t a b=true:=⟨h 0 (by omega),h 1 (by omega),h 2 (by omega),h 3 (by omega)⟩
theorem iI.three {x y z a b:Int} (h:iI [x,y,z] a b 3):bY x a b=true/\bY y a b=true/\bY z a b=true:=⟨h 0 (by omega),h 1 (by omega),h 2 (by omega)⟩
theorem JE {x y z t a b:Int} {k:Nat} (hk:k<4) (h:bY ([x,y,z,t].getD k 0) a b=false):(bY x a b&&bY y a b&&bY z a b&&bY t a b)=false:=by
 rcases (show k=0∨k=1∨k=2∨k=3 by omega) with rfl|rfl|rfl|rfl
 all_goals (simp at h;simp[h])
theorem DW {x y z a b:Int} {k:Nat} (hk:k<3) (h:bY ([x,y,z].getD k 0) a b=false):(bY x a b&&bY y a b&&bY z a b)=false:=by
 rcases (show k=0∨k=1∨k=2 by omega) with rfl|rfl|rfl
 all_goals (simp at h;simp[h])
theorem U_ {x y a b c d e f g h i j:Bool} (H:(a&&b&&c&&d)=false):(x&&(y&&true&&a&&b&&c&&d&&e&&f&&g&&h&&i&&j))=false:=by
 cases a<;>cases b<;>cases c<;>cases d<;>simp_all
theorem Va {x y a b c d e f g h i j:Bool} (H:(h&&i&&j)=false):(x&&(y&&true&&a&&b&&c&&d&&e&&f&&g&&h&&i&&j))=false:=by
 cases h<;>cases i<;>cases j<;>simp_all
theorem mV (C:aW) (A:Option Addr) (q:Nat) (w:World) {D:Nat->Prop} (hr:Rd w D 1 A C.aK.length (dB C.aK)) (hn:C.aK.length<=9223372036854775807) (hs:∀s∈C.aK,s.size<=9223372036854775807):
 Calls Tryz.prog 9 #[f_ C A q] w fun e w'=>e=.returned (.bool (gQ C))/\Nx w w':=by
 obtain ⟨win,fD,gr,bu,fl,ag,pc,tr,wa,sm,mo,gc⟩:=C;simp only at hr hn hs;unfold f_ gQ;simp only;have nV:=ah (fun k (h:k<fD.length) (hf:AQ fD k=false)=>Dj h hf);have jr:=ah (fun (h:∀i,i<fD.length->AQ fD i=true)=>xU h);have HS:=ah (fun k (h:k<fD.length)=>(by rw[nG h];exact hs _ (List.getElem_mem h):(dR fD k).size<=9223372036854775807));have HT:=ah (fun k (h:k<fD.length) w' (c:Nx w w')=>Hf (hr.nx (by decide) c) rfl h);have HB:=ah (fun w' (c:Nx (w.alloc (.cells #[.int .i64 win,.slice A fD.length q,.int .i64 gr,.int .i64 bu,.int .i64 fl,.int .i64 ag,.int .i64 pc,.int .i64 tr,.int .i64 wa,.int .i64 sm,.int .i64 mo,.int .i64 gc] 24)) w')=>(aG.new w 24 #[.int .i64 win,.slice A fD.length q,.int .i64 gr,.int .i64 bu,.int .i64 fl,.int .i64 ag,.int .i64 pc,.int .i64 tr,.int .i64 wa,.int .i64 sm,.int .i64 mo,.int .i64 gc]).nx c);have HN:=ah ((Ch.refl (fun _=>False) w).alloc (.cells #[.int .i64 win,.slice A fD.length q,.int .i64 gr,.int .i64 bu,.int .i64 fl,.int .i64 ag,.int .i64 pc,.int .i64 tr,.int .i64 wa,.int .i64 sm,.int .i64 mo,.int .i64 gc] 24));clear hr hs;obtain ⟨n,hl⟩:∃n,fD.length=n:=⟨_,rfl⟩;rw[hl]at nV jr HS HT HB HN hn ⊢;clear hl;by_cases h4:4<n
 ·have h4':(4:Int)<(n:Int):=by omega
  have HX:Hid (∀x y:Bool,(x&&(y&&decide (n<=4)&&bY gr 1 256&&bY bu 1 256&&bY mo 1 256&&bY fl 1 256&&bY pc 1 262144&&bY tr 1 8&&bY sm 0 2048&&bY ag 0 1048576&&bY wa 0 1048576&&bY gc 0 1048576))=false):=ah (fun x y=>by rw[decide_eq_false (show ¬n<=4 by omega)];simp);go_enter Tryz.func9,Tryz.ntmps9;go_wp2_with fail;go_ret;exact ⟨by rw[HX.out];rfl,HN.out⟩
 ·have h4':¬(4:Int)<(n:Int):=by omega
  have HX:Hid (decide (n<=4)=true):=ah (decide_eq_true (by omega));rw[HX.out];clear HX;go_enter Tryz.func9,Tryz.ntmps9;go_wp2_with fail;obtain ⟨W,hW⟩:∃W,w.alloc (.cells #[.int .i64 win,.slice A n q,.int .i64 gr,.int .i64 bu,.int .i64 fl,.int .i64 ag,.int .i64 pc,.int .i64 tr,.int .i64 wa,.int .i64 sm,.int .i64 mo,.int .i64 gc] 24)=W:=⟨_,rfl⟩;rw[hW]at HN HB;simp only[hW];clear hW;go_loopw [15] (fun i wr=>∃k:Nat,k<=n/\i=.int .i64 (k:Int)/\Hid (Nx W wr)/\Hid (∀i,i<k->AQ fD i=true)) (fun i _=>n-(intOf i).toNat)
  case atStart=>exact ⟨0,Nat.zero_le _,rfl,ah (Ch.refl _ _),ah fun i hi=>by omega⟩
  case round=>
   obtain ⟨w4,rfl⟩:∃w4:World,w4=wr:=⟨_,rfl⟩;obtain ⟨k,hk,rfl,N4,He⟩:=hrel;have b4:=HB.out _ N4.out;by_cases hlt:k<n
   ·obtain ⟨ad,rfl,hb,p0⟩:=HT.out k hlt _ (HN.out.tr N4.out)
    have d1:w4.cell? ⟨w.heap.size,1,none⟩=some (.slice (some ad) n q):=b4.cell 1;have HN8:=ah (fun w'=>EH (dR fD k) w' (HS.out k hlt));have HF:Hid (AQ fD k=(aT (dR fD k)&&(decide (k=0)||bC (dR fD (k-1)) (dR fD k)))):=ah rfl
    have HG:Hid (AQ fD k=true->∀i,i<k+1->AQ fD i=true):=ah (fun h i hi=>by
     by_cases e:i=k
     ·subst e;exact h
     ·exact He.out i (by omega))
    have Oz:=ah (fun h=>nV.out k hlt h);clear b4 hb;cases iE:aT (dR fD k)
    ·rw[iE]at HN8
     have Hk:=ah (Oz.out (by rw[HF.out,iE];rfl));clear iE;generalize dR fD k=s at *;go_wp2_with fail;go_quiet ((first|(go_at_call 21;exact Gw (HN8.out _))))
     go_wp2_with fail;go_ret;exact ⟨by rw[Hk.out];rfl,HN.out.tr (N4.out.tr (Dr.sQ w4 _).nx)⟩
    ·rw[iE]at HN8
     by_cases h0:0<k
     ·obtain ⟨j,hj⟩:∃j,k-1=j:=⟨_,rfl⟩
      rw[hj]at HF;have h0':(0:Int)<(k:Int):=(by omega);have kj:(k:Int)-1=(j:Int):=(by omega);have kw:IntKind.i64.wrap (j:Int)=(j:Int):=IntWalk.i64_in _ (by omega);have kb:(j:Int)<(n:Int):=(by omega);have kb2:j<n:=(by omega);obtain ⟨ad2,e2,_,p1⟩:=HT.out j kb2 _ (HN.out.tr N4.out);injection e2 with e2;subst e2;cases hbl:bC (dR fD j) (dR fD k)
      ·have Hk:=ah (Oz.out (by rw[HF.out,iE,hbl,decide_eq_false (show ¬k=0 by omega)];rfl))
       have hq:Op.bytesLess (dR fD j).toList (dR fD k).toList=false:=by rw[KT];exact hbl
       clear iE hbl hj;generalize dR fD j=pv at *;generalize dR fD k=s at *;go_wp2_with fail;go_quiet ((first|(go_at_call 21;exact Gw (HN8.out _))))
       go_wp2_with fail;go_ret;exact ⟨by rw[Hk.out];rfl,HN.out.tr (N4.out.tr (Dr.sQ w4 _).nx)⟩
      ·have Hk:=ah (HG.out (by rw[HF.out,iE,hbl];simp))
       have hq:Op.bytesLess (dR fD j).toList (dR fD k).toList=true:=by rw[KT];exact hbl
       clear iE hbl hj;generalize dR fD j=pv at *;generalize dR fD k=s at *;go_wp2_with fail;go_quiet ((first|(go_at_call 21;exact Gw (HN8.out _))))
       go_wp2_with fail;go_roundw
       case rel=>exact ⟨k+1,by omega,by go_num,ah (N4.out.tr (Dr.sQ w4 _).nx),Hk⟩
       case measure=>simp[intOf];omega
     ·have h0':¬(0:Int)<(k:Int):=by omega
      have Hk:=ah (HG.out (by rw[HF.out,iE,decide_eq_true (show k=0 by omega)];rfl));clear iE;generalize dR fD k=s at *;go_wp2_with fail;go_quiet ((first|(go_at_call 21;exact Gw (HN8.out _))))
      go_wp2_with fail;go_roundw
      case rel=>exact ⟨k+1,by omega,by go_num,ah (N4.out.tr (Dr.sQ w4 _).nx),Hk⟩
      case measure=>simp[intOf];omega
   ·have kE:=ah (jr.out fun i hi=>He.out i (by omega))
    have d2:w4.cell? ⟨w.heap.size,2,none⟩=some (.int .i64 gr):=b4.cell 2;have d3:w4.cell? ⟨w.heap.size,3,none⟩=some (.int .i64 bu):=b4.cell 3;have d4:w4.cell? ⟨w.heap.size,4,none⟩=some (.int .i64 fl):=b4.cell 4;have d10:w4.cell? ⟨w.heap.size,10,none⟩=some (.int .i64 mo):=b4.cell 10;have HB4:=ah b4;have W1:=ah (fun n w=>OC n 1 256 w);clear b4 HT HS nV jr;go_wp2_with fail;go_loopw [53] (fun i wr=>∃k:Nat,k<=4/\i=.int .i64 (k:Int)/\Hid (iI [gr,bu,mo,fl] 1 256 k)/\wr=w4) (fun i _=>4-(intOf i).toNat)
    case atStart=>exact ⟨0,Nat.zero_le _,rfl,ah (fun i hi=>by omega),rfl⟩
    case round=>
     obtain ⟨k4,hk4,rfl,HA,rfl⟩:=hrel;by_cases hlt4:k4<4
     ·have hix:=YH gr bu mo fl wr k4 hlt4
      have HS1:=ah (fun h=>HA.out.succ (k:=k4) h);have HK1:=ah (fun h=>JE (x:=gr) (y:=bu) (z:=mo) (t:=fl) (a:=1) (b:=256) hlt4 h);have HW:=ah (W1.out ([gr,bu,mo,fl].getD k4 0) wr);generalize [gr,bu,mo,fl].getD k4 0=x at *;cases hq:bY x 1 256
      ·rw[hq]at HW
       have HZ:=ah (HK1.out hq);clear hq;go_wp2_with fail;refine HW.out.mono ?_;rintro e w5 ⟨rfl,rfl⟩;go_wp2_with fail;go_ret;exact ⟨by rw[U_ HZ.out];rfl,HN.out.tr N4.out⟩
      ·rw[hq]at HW
       have HZ:=ah (HS1.out hq);clear hq;go_wp2_with fail;refine HW.out.mono ?_;rintro e w5 ⟨rfl,rfl⟩;go_wp2_with fail;go_roundw
       case rel=>exact ⟨k4+1,by omega,by go_num,HZ,trivial⟩
       case measure=>simp[intOf];omega
     ·have HA4:Hid (iI [gr,bu,mo,fl] 1 256 4):=ah (by have:=HA.out;rw[show k4=4 by omega]at this;exact this)
      have b4:=HB4.out;have d5:wr.cell? ⟨w.heap.size,5,none⟩=some (.int .i64 ag):=b4.cell 5;have d8:wr.cell? ⟨w.heap.size,8,none⟩=some (.int .i64 wa):=b4.cell 8;have d11:wr.cell? ⟨w.heap.size,11,none⟩=some (.int .i64 gc):=b4.cell 11;have W2:=ah (fun n w=>OC n 0 1048576 w);clear b4 d2 d3 d4 d10 HA;go_wp2_with fail;go_loopw [67] (fun i wx=>∃k:Nat,k<=3/\i=.int .i64 (k:Int)/\Hid (iI [ag,wa,gc] 0 1048576 k)/\wx=wr) (fun i _=>3-(intOf i).toNat)
      case atStart=>exact ⟨0,Nat.zero_le _,rfl,ah (fun i hi=>by omega),rfl⟩
      case round=>
       obtain ⟨k3,hk3,rfl,HA,rfl⟩:=hrel;by_cases hlt3:k3<3
       ·have hix:=YI ag wa gc wr k3 hlt3
        have HS1:=ah (fun h=>HA.out.succ (k:=k3) h);have HK1:=ah (fun h=>DW (x:=ag) (y:=wa) (z:=gc) (a:=0) (b:=1048576) hlt3 h);have HW:=ah (W2.out ([ag,wa,gc].getD k3 0) wr);generalize [ag,wa,gc].getD k3 0=x at *;cases hq:bY x 0 1048576
        ·rw[hq]at HW
         have HZ:=ah (HK1.out hq);clear hq;go_wp2_with fail;refine HW.out.mono ?_;rintro e w5 ⟨rfl,rfl⟩;go_wp2_with fail;go_ret;exact ⟨by rw[Va HZ.out];rfl,HN.out.tr N4.out⟩
        ·rw[hq]at HW
         have HZ:=ah (HS1.out hq);clear hq;go_wp2_with fail;refine HW.out.mono ?_;rintro e w5 ⟨rfl,rfl⟩;go_wp2_with fail;go_roundw
         case rel=>exact ⟨k3+1,by omega,by go_num,HZ,trivial⟩
         case measure=>simp[intOf];omega
       ·have HA3:Hid (iI [ag,wa,gc] 0 1048576 3):=ah (by have:=HA.out;rw[show k3=3 by omega]at this;exact this)
        have b4:=HB4.out;have d0:wr.cell? ⟨w.heap.size,0,none⟩=some (.int .i64 win):=b4.cell 0;have d6:wr.cell? ⟨w.heap.size,6,none⟩=some (.int .i64 pc):=b4.cell 6;have d7:wr.cell? ⟨w.heap.size,7,none⟩=some (.int .i64 tr):=b4.cell 7;have d9:wr.cell? ⟨w.heap.size,9,none⟩=some (.int .i64 sm):=b4.cell 9;have V1:=ah (fun w=>OC win 1 1099511627775 w);have V2:=ah (fun w=>OC pc 1 262144 w);have V3:=ah (fun w=>OC tr 1 8 w);have V4:=ah (fun w=>OC sm 0 2048 w);clear b4 d5 d8 d11 HA
        have XJ:Hid (∀x y z t:Bool,(JX fD&&(x&&true&&bY gr 1 256&&bY bu 1 256&&bY mo 1 256&&bY fl 1 256&&y&&z&&t&&bY ag 0 1048576&&bY wa 0 1048576&&bY gc 0 1048576))=(x&&y&&z&&t)):=ah (fun x y z t=>by
         obtain ⟨e1,e2,e3,e4⟩:=HA4.out.four;obtain ⟨e5,e6,e7⟩:=HA3.out.three;rw[kE.out,e1,e2,e3,e4,e5,e6,e7];simp)
        obtain ⟨v1,hv1⟩:∃v1,bY win 1 1099511627775=v1:=⟨_,rfl⟩;rw[hv1]at V1;have HV1:=ah hv1;clear hv1;obtain ⟨v2,hv2⟩:∃v2,bY pc 1 262144=v2:=⟨_,rfl⟩;rw[hv2]at V2;have HV2:=ah hv2;clear hv2;obtain ⟨v3,hv3⟩:∃v3,bY tr 1 8=v3:=⟨_,rfl⟩;rw[hv3]at V3;have HV3:=ah hv3;clear hv3;obtain ⟨v4,hv4⟩:∃v4,bY sm 0 2048=v4:=⟨_,rfl⟩;rw[hv4]at V4;have HV4:=ah hv4;clear hv4;rcases (show v1=false∨(v1=true/\v2=false)∨(v1=true/\v2=true/\v3=false)∨(v1=true/\v2=true/\v3=true) by cases v1<;>cases v2<;>cases v3<;>simp) with rfl|⟨rfl,rfl⟩|⟨rfl,rfl,rfl⟩|⟨rfl,rfl,rfl⟩
        ·go_wp2_with fail
         refine (V1.out _).mono ?_;rintro e w5 ⟨rfl,rfl⟩;go_wp2_with fail;go_ret;exact ⟨by rw[XJ.out,HV1.out,HV2.out,HV3.out,HV4.out];rfl,HN.out.tr N4.out⟩
        ·go_wp2_with fail
         refine (V1.out _).mono ?_;rintro e w5 ⟨rfl,rfl⟩;go_wp2_with fail;refine (V2.out _).mono ?_;rintro e w5 ⟨rfl,rfl⟩;go_wp2_with fail;go_ret;exact ⟨by rw[XJ.out,HV1.out,HV2.out,HV3.out,HV4.out];rfl,HN.out.tr N4.out⟩
        ·go_wp2_with fail
         refine (V1.out _).mono ?_;rintro e w5 ⟨rfl,rfl⟩;go_wp2_with fail;refine (V2.out _).mono ?_;rintro e w5 ⟨rfl,rfl⟩;go_wp2_with fail;refine (V3.out _).mono ?_;rintro e w5 ⟨rfl,rfl⟩;go_wp2_with fail;go_ret;exact ⟨by rw[XJ.out,HV1.out,HV2.out,HV3.out,HV4.out];rfl,HN.out.tr N4.out⟩
        ·go_wp2_with fail
         refine (V1.out _).mono ?_;rintro e w5 ⟨rfl,rfl⟩;go_wp2_with fail;refine (V2.out _).mono ?_;rintro e w5 ⟨rfl,rfl⟩;go_wp2_with fail;refine (V3.out _).mono ?_;rintro e w5 ⟨rfl,rfl⟩;go_wp2_with fail;refine (V4.out _).mono ?_;rintro e w5 ⟨rfl,rfl⟩;go_wp2_with fail;go_ret;exact ⟨by rw[XJ.out,HV1.out,HV2.out,HV3.out,HV4.out];rfl,HN.out.tr N4.out⟩
theorem EG (ag life:Int) (C:aW) (A:Option Addr) (q:Nat) (w:World) {D:Nat->Prop} (hr:Rd w D 1 A C.aK.length (dB C.aK)) (hn:C.aK.length<=9223372036854775807) (hs:∀s∈C.aK,s.size<=9223372036854775807):
 Calls Tryz.prog 7 #[.int .i64 ag,.int .i64 life,f_ C A q] w fun e w'=>(∃v,e=.returned (.tuple #[v,.bool (okA ag life C)]))/\Nx w w':=by
 have HF:=ah (fun w' (n:Nx w w')=>mV C A q w' (hr.nx (by decide) n) hn hs);have W1:=ah (fun w=>OC ag 1 8 w);have W2:=ah (fun w=>OC life 1 1099511627775 w);clear hr hs;unfold okA;unfold f_ at *;have HB:=ah (aG.new w 24 #[.int .i64 C.window,.slice A C.aK.length q,.int .i64 C.group,.int .i64 C.buffer,.int .i64 C.flush,.int .i64 C.age,.int .i64 C.piece,.int .i64 C.tries,.int .i64 C.wait,.int .i64 C.small,.int .i64 C.most,.int .i64 C.fZ]);have HN:=ah ((Ch.refl (fun _=>False) w).alloc (.cells #[.int .i64 C.window,.slice A C.aK.length q,.int .i64 C.group,.int .i64 C.buffer,.int .i64 C.flush,.int .i64 C.age,.int .i64 C.piece,.int .i64 C.tries,.int .i64 C.wait,.int .i64 C.small,.int .i64 C.most,.int .i64 C.fZ] 24));generalize bY ag 1 8=q1 at *;generalize bY life 1 1099511627775=q2 at *;generalize gQ C=q3 at *;have HK:=ah (fun w' (c:Nx (w.alloc (.cells #[.int .i64 C.window,.slice A C.aK.length q,.int .i64 C.group,.int .i64 C.buffer,.int .i64 C.flush,.int .i64 C.age,.int .i64 C.piece,.int .i64 C.tries,.int .i64 C.wait,.int .i64 C.small,.int .i64 C.most,.int .i64 C.fZ] 24)) w')=>(⟨(HB.out.nx c).cell 0,(HB.out.nx c).cell 1,(HB.out.nx c).cell 2,(HB.out.nx c).cell 3,(HB.out.nx c).cell 4,(HB.out.nx c).cell 5,(HB.out.nx c).cell 6,(HB.out.nx c).cell 7,(HB.out.nx c).cell 8,(HB.out.nx c).cell 9,(HB.out.nx c).cell 10,(HB.out.nx c).cell 11⟩:w'.cell? ⟨w.heap.size,0,none⟩=some (.int .i64 C.window)/\w'.cell? ⟨w.heap.size,1,none⟩=some (.slice A C.aK.length q)/\w'.cell? ⟨w.heap.size,2,none⟩=some (.int .i64 C.group)/\w'.cell? ⟨w.heap.size,3,none⟩=some (.int .i64 C.buffer)/\w'.cell? ⟨w.heap.size,4,none⟩=some (.int .i64 C.flush)/\w'.cell? ⟨w.heap.size,5,none⟩=some (.int .i64 C.age)/\w'.cell? ⟨w.heap.size,6,none⟩=some (.int .i64 C.piece)/\w'.cell? ⟨w.heap.size,7,none⟩=some (.int .i64 C.tries)/\w'.cell? ⟨w.heap.size,8,none⟩=some (.int .i64 C.wait)/\w'.cell? ⟨w.heap.size,9,none⟩=some (.int .i64 C.small)/\w'.cell? ⟨w.heap.size,10,none⟩=some (.int .i64 C.most)/\w'.cell? ⟨w.heap.size,11,none⟩=some (.int .i64 C.fZ)));rcases (show q1=false∨(q1=true/\q2=false)∨(q1=true/\q2=true) by cases q1<;>cases q2<;>simp) with rfl|⟨rfl,rfl⟩|⟨rfl,rfl⟩
 ·go_enter Tryz.func7,Tryz.ntmps7
  go_wp2_with fail;refine uI (fun w'=>w'.cell? ⟨w.heap.size,0,none⟩=some (.int .i64 C.window)/\w'.cell? ⟨w.heap.size,1,none⟩=some (.slice A C.aK.length q)/\w'.cell? ⟨w.heap.size,2,none⟩=some (.int .i64 C.group)/\w'.cell? ⟨w.heap.size,3,none⟩=some (.int .i64 C.buffer)/\w'.cell? ⟨w.heap.size,4,none⟩=some (.int .i64 C.flush)/\w'.cell? ⟨w.heap.size,5,none⟩=some (.int .i64 C.age)/\w'.cell? ⟨w.heap.size,6,none⟩=some (.int .i64 C.piece)/\w'.cell? ⟨w.heap.size,7,none⟩=some (.int .i64 C.tries)/\w'.cell? ⟨w.heap.size,8,none⟩=some (.int .i64 C.wait)/\w'.cell? ⟨w.heap.size,9,none⟩=some (.int .i64 C.small)/\w'.cell? ⟨w.heap.size,10,none⟩=some (.int .i64 C.most)/\w'.cell? ⟨w.heap.size,11,none⟩=some (.int .i64 C.fZ)) (fun _=>false) rfl (HK.out _ (Ch.refl _ _).drew) (fun hS0=>?_);refine z00 (i:=0) (oi:=_) (v:=?_) rfl (fun _ _ _ h=>h) (Or.inl ⟨by rfl,?_⟩) ?_;rotate_left
  ·(intro w hSw;(try dsimp only at hSw);go_split_ands;go_simp;try with_reducible rfl)
  try simp only[Act.put,aB]
  refine z00 (i:=1) (oi:=_) (v:=?_) rfl (fun _ _ _ h=>h) (Or.inl ⟨by rfl,?_⟩) ?_;rotate_left
  ·(intro w hSw;(try dsimp only at hSw);go_split_ands;go_simp;try with_reducible rfl)
  try simp only[Act.put]
  refine z00 (i:=2) (oi:=_) (v:=?_) rfl (fun _ _ _ h=>h) (Or.inl ⟨by rfl,?_⟩) ?_;rotate_left
  ·(intro w hSw;(try dsimp only at hSw);go_split_ands;go_simp;try with_reducible rfl)
  try simp only[Act.put]
  refine z00 (i:=3) (oi:=_) (v:=?_) rfl (fun _ _ _ h=>h) (Or.inl ⟨by rfl,?_⟩) ?_;rotate_left
  ·(intro w hSw;(try dsimp only at hSw);go_split_ands;go_simp;try with_reducible rfl)
  try simp only[Act.put]
  refine z00 (i:=5) (oi:=_) (v:=?_) rfl (fun _ _ _ h=>h) (Or.inl ⟨by rfl,?_⟩) ?_;rotate_left
  ·(intro w hSw;(try dsimp only at hSw);go_split_ands;go_simp;try with_reducible rfl)
  try simp only[Act.put]
  refine z02 (rs:=[4,6]) (by kernel_rfl) (by simp) (z01.cons (o:=_) rfl (fun K hK=>?_) (z01.cons (o:=_) rfl (fun K hK=>?_) z01.nil))
  ·go_simp
   refine hK.out _ _ (fun _=>HK.out _ (((Ch.refl (fun _=>False) _).drew).alloc _)) (fun aj=>?_);have hHeld:=aj (by decide);clear hK K aj
   try simp only[Act.put,aB,ay,aA]
   refine z02 (rs:=[6]) (by kernel_rfl) (by simp) (z01.cons (o:=_) rfl (fun K hK=>?_) z01.nil)
   ·go_simp
    refine (W1.out _).mono ?_;rintro e wx ⟨rfl,rfl⟩;go_wp2_with fail;refine hK.out _ _ (fun _=>HK.out _ ((((Ch.refl (fun _=>False) _).drew).alloc _))) (fun aj=>?_);have hHeld:=aj (by decide);clear hK K aj
    try simp only[Act.put,aB,ay,aA]
    refine z00 (i:=7) (oi:=_) (v:=?_) rfl (fun _ _ _ h=>h) (Or.inl ⟨by rfl,?_⟩) ?_;rotate_left
    ·(intro w hSw;(try dsimp only at hSw);go_split_ands;go_simp;try with_reducible rfl)
    try simp only[Act.put,aB]
    refine z03 (i:=8) (oi:=_) (v:=undef) rfl (by kernel_rfl) (by kernel_rfl) (by kernel_rfl) (by kernel_rfl) (by kernel_rfl) (by decide) (fun _ _ _ h=>h) (Or.inr ⟨by kernel_rfl,rfl⟩) (by assumption) ?_
    try simp only[Act.put]
    refine z03 (i:=9) (oi:=_) (v:=undef) rfl (by kernel_rfl) (by kernel_rfl) (by kernel_rfl) (by kernel_rfl) (by kernel_rfl) (by decide) (fun _ _ _ h=>h) (Or.inr ⟨by kernel_rfl,rfl⟩) (by assumption) ?_
    try simp only[Act.put]
    refine z00 (i:=10) (oi:=_) (v:=?_) rfl (fun _ _ _ h=>h) (Or.inl ⟨by rfl,?_⟩) ?_;rotate_left
    ·(intro w hSw;(try dsimp only at hSw);go_split_ands;go_simp;try with_reducible rfl)
    try simp only[Act.put]
    refine z00 (i:=11) (oi:=_) (v:=?_) rfl (fun _ _ _ h=>h) (Or.inl ⟨by rfl,?_⟩) ?_;rotate_left
    ·(intro w hSw;(try dsimp only at hSw);go_split_ands;go_simp;try with_reducible rfl)
    try simp only[Act.put]
    refine z03 (i:=12) (oi:=_) (v:=undef) rfl (by kernel_rfl) (by kernel_rfl) (by kernel_rfl) (by kernel_rfl) (by kernel_rfl) (by decide) (fun _ _ _ h=>h) (Or.inr ⟨by kernel_rfl,rfl⟩) (by assumption) ?_
    try simp only[Act.put]
    refine z03 (i:=13) (oi:=_) (v:=undef) rfl (by kernel_rfl) (by kernel_rfl) (by kernel_rfl) (by kernel_rfl) (by kernel_rfl) (by decide) (fun _ _ _ h=>h) (Or.inr ⟨by kernel_rfl,rfl⟩) (by assumption) ?_
    try simp only[Act.put]
    refine z00 (i:=14) (oi:=_) (v:=?_) rfl (fun _ _ _ h=>h) (Or.inl ⟨by rfl,?_⟩) ?_;rotate_left
    ·(intro w hSw;(try dsimp only at hSw);go_split_ands;go_simp;try with_reducible rfl)
    try simp only[Act.put]
    refine z00 (i:=15) (oi:=_) (v:=?_) rfl (fun _ _ _ h=>h) (Or.inl ⟨by rfl,?_⟩) ?_;rotate_left
    ·(intro w hSw;(try dsimp only at hSw);go_split_ands;go_simp;try with_reducible rfl)
    simp only[List.getElem_toArray,List.getElem_cons_zero,List.getElem_cons_succ,Act.put,aB,ay,aA];refine z00 (i:=16) (oi:=_) (v:=?_) rfl (fun _ _ _ h=>h) (Or.inl ⟨by rfl,?_⟩) ?_;rotate_left
    ·(intro w hSw;(try dsimp only at hSw);go_split_ands;go_simp;try with_reducible rfl)
    simp only[List.getElem_toArray,List.getElem_cons_zero,List.getElem_cons_succ,Act.put,aB,ay,aA];refine z08 (by kernel_rfl) ?_ _;go_wp2_with fail;go_ret2;exact ⟨⟨_,rfl⟩,HN.out.tr ((((Ch.refl (fun _=>False) _).drew).alloc _))⟩
  ·go_simp
   refine (W1.out _).mono ?_;rintro e wx ⟨rfl,rfl⟩;go_wp2_with fail;refine hK.out _ _ (fun _=>HK.out _ ((Ch.refl (fun _=>False) _).drew)) (fun aj=>?_);have hHeld:=aj (by decide);clear hK K aj
   try simp only[Act.put,aB,ay,aA]
   refine z00 (i:=7) (oi:=_) (v:=?_) rfl (fun _ _ _ h=>h) (Or.inl ⟨by rfl,?_⟩) ?_;rotate_left
   ·(intro w hSw;(try dsimp only at hSw);go_split_ands;go_simp;try with_reducible rfl)
   try simp only[Act.put,aB]
   refine z03 (i:=8) (oi:=_) (v:=undef) rfl (by kernel_rfl) (by kernel_rfl) (by kernel_rfl) (by kernel_rfl) (by kernel_rfl) (by decide) (fun _ _ _ h=>h) (Or.inr ⟨by kernel_rfl,rfl⟩) (by assumption) ?_
   try simp only[Act.put]
   refine z03 (i:=9) (oi:=_) (v:=undef) rfl (by kernel_rfl) (by kernel_rfl) (by kernel_rfl) (by kernel_rfl) (by kernel_rfl) (by decide) (fun _ _ _ h=>h) (Or.inr ⟨by kernel_rfl,rfl⟩) (by assumption) ?_
   try simp only[Act.put]
   refine z00 (i:=10) (oi:=_) (v:=?_) rfl (fun _ _ _ h=>h) (Or.inl ⟨by rfl,?_⟩) ?_;rotate_left
   ·(intro w hSw;(try dsimp only at hSw);go_split_ands;go_simp;try with_reducible rfl)
   try simp only[Act.put]
   refine z00 (i:=11) (oi:=_) (v:=?_) rfl (fun _ _ _ h=>h) (Or.inl ⟨by rfl,?_⟩) ?_;rotate_left
   ·(intro w hSw;(try dsimp only at hSw);go_split_ands;go_simp;try with_reducible rfl)
   try simp only[Act.put]
   refine z03 (i:=12) (oi:=_) (v:=undef) rfl (by kernel_rfl) (by kernel_rfl) (by kernel_rfl) (by kernel_rfl) (by kernel_rfl) (by decide) (fun _ _ _ h=>h) (Or.inr ⟨by kernel_rfl,rfl⟩) (by assumption) ?_
   try simp only[Act.put]
   refine z03 (i:=13) (oi:=_) (v:=undef) rfl (by kernel_rfl) (by kernel_rfl) (by kernel_rfl) (by kernel_rfl) (by kernel_rfl) (by decide) (fun _ _ _ h=>h) (Or.inr ⟨by kernel_rfl,rfl⟩) (by assumption) ?_
   try simp only[Act.put]
   refine z00 (i:=14) (oi:=_) (v:=?_) rfl (fun _ _ _ h=>h) (Or.inl ⟨by rfl,?_⟩) ?_;rotate_left
   ·(intro w hSw;(try dsimp only at hSw);go_split_ands;go_simp;try with_reducible rfl)
   try simp only[Act.put]
   refine z02 (rs:=[4]) (by kernel_rfl) (by simp) (z01.cons (o:=_) rfl (fun K hK=>?_) z01.nil)
   ·go_simp
    refine hK.out _ _ (fun _=>HK.out _ (((Ch.refl (fun _=>False) _).drew).alloc _)) (fun aj=>?_);have hHeld:=aj (by decide);clear hK K aj
    try simp only[Act.put,aB,ay,aA]
    refine z00 (i:=15) (oi:=_) (v:=?_) rfl (fun _ _ _ h=>h) (Or.inl ⟨by rfl,?_⟩) ?_;rotate_left
    ·(intro w hSw;(try dsimp only at hSw);go_split_ands;go_simp;try with_reducible rfl)
    simp only[List.getElem_toArray,List.getElem_cons_zero,List.getElem_cons_succ,Act.put,aB,ay,aA];refine z00 (i:=16) (oi:=_) (v:=?_) rfl (fun _ _ _ h=>h) (Or.inl ⟨by rfl,?_⟩) ?_;rotate_left
    ·(intro w hSw;(try dsimp only at hSw);go_split_ands;go_simp;try with_reducible rfl)
    simp only[List.getElem_toArray,List.getElem_cons_zero,List.getElem_cons_succ,Act.put,aB,ay,aA];refine z08 (by kernel_rfl) ?_ _;go_wp2_with fail;go_ret2;exact ⟨⟨_,rfl⟩,HN.out.tr ((((Ch.refl (fun _=>False) _).drew).alloc _))⟩
 ·go_enter Tryz.func7,Tryz.ntmps7
  go_wp2_with fail;refine uI (fun w'=>w'.cell? ⟨w.heap.size,0,none⟩=some (.int .i64 C.window)/\w'.cell? ⟨w.heap.size,1,none⟩=some (.slice A C.aK.length q)/\w'.cell? ⟨w.heap.size,2,none⟩=some (.int .i64 C.group)/\w'.cell? ⟨w.heap.size,3,none⟩=some (.int .i64 C.buffer)/\w'.cell? ⟨w.heap.size,4,none⟩=some (.int .i64 C.flush)/\w'.cell? ⟨w.heap.size,5,none⟩=some (.int .i64 C.age)/\w'.cell? ⟨w.heap.size,6,none⟩=some (.int .i64 C.piece)/\w'.cell? ⟨w.heap.size,7,none⟩=some (.int .i64 C.tries)/\w'.cell? ⟨w.heap.size,8,none⟩=some (.int .i64 C.wait)/\w'.cell? ⟨w.heap.size,9,none⟩=some (.int .i64 C.small)/\w'.cell? ⟨w.heap.size,10,none⟩=some (.int .i64 C.most)/\w'.cell? ⟨w.heap.size,11,none⟩=some (.int .i64 C.fZ)) (fun _=>false) rfl (HK.out _ (Ch.refl _ _).drew) (fun hS0=>?_);refine z00 (i:=0) (oi:=_) (v:=?_) rfl (fun _ _ _ h=>h) (Or.inl ⟨by rfl,?_⟩) ?_;rotate_left
  ·(intro w hSw;(try dsimp only at hSw);go_split_ands;go_simp;try with_reducible rfl)
  try simp only[Act.put,aB]
  refine z00 (i:=1) (oi:=_) (v:=?_) rfl (fun _ _ _ h=>h) (Or.inl ⟨by rfl,?_⟩) ?_;rotate_left
  ·(intro w hSw;(try dsimp only at hSw);go_split_ands;go_simp;try with_reducible rfl)
  try simp only[Act.put]
  refine z00 (i:=2) (oi:=_) (v:=?_) rfl (fun _ _ _ h=>h) (Or.inl ⟨by rfl,?_⟩) ?_;rotate_left
  ·(intro w hSw;(try dsimp only at hSw);go_split_ands;go_simp;try with_reducible rfl)
  try simp only[Act.put]
  refine z00 (i:=3) (oi:=_) (v:=?_) rfl (fun _ _ _ h=>h) (Or.inl ⟨by rfl,?_⟩) ?_;rotate_left
  ·(intro w hSw;(try dsimp only at hSw);go_split_ands;go_simp;try with_reducible rfl)
  try simp only[Act.put]
  refine z00 (i:=5) (oi:=_) (v:=?_) rfl (fun _ _ _ h=>h) (Or.inl ⟨by rfl,?_⟩) ?_;rotate_left
  ·(intro w hSw;(try dsimp only at hSw);go_split_ands;go_simp;try with_reducible rfl)
  try simp only[Act.put]
  refine z02 (rs:=[4,6]) (by kernel_rfl) (by simp) (z01.cons (o:=_) rfl (fun K hK=>?_) (z01.cons (o:=_) rfl (fun K hK=>?_) z01.nil))
  ·go_simp
   refine hK.out _ _ (fun _=>HK.out _ (((Ch.refl (fun _=>False) _).drew).alloc _)) (fun aj=>?_);have hHeld:=aj (by decide);clear hK K aj
   try simp only[Act.put,aB,ay,aA]
   refine z02 (rs:=[6]) (by kernel_rfl) (by simp) (z01.cons (o:=_) rfl (fun K hK=>?_) z01.nil)
   ·go_simp
    refine (W1.out _).mono ?_;rintro e wx ⟨rfl,rfl⟩;go_wp2_with fail;refine hK.out _ _ (fun _=>HK.out _ ((((Ch.refl (fun _=>False) _).drew).alloc _))) (fun aj=>?_);have hHeld:=aj (by decide);clear hK K aj
    try simp only[Act.put,aB,ay,aA]
    refine z00 (i:=7) (oi:=_) (v:=?_) rfl (fun _ _ _ h=>h) (Or.inl ⟨by rfl,?_⟩) ?_;rotate_left
    ·(intro w hSw;(try dsimp only at hSw);go_split_ands;go_simp;try with_reducible rfl)
    try simp only[Act.put,aB]
    refine z00 (i:=8) (oi:=_) (v:=?_) rfl (fun _ _ _ h=>h) (Or.inl ⟨by rfl,?_⟩) ?_;rotate_left
    ·(intro w hSw;(try dsimp only at hSw);go_split_ands;go_simp;try with_reducible rfl)
    try simp only[Act.put]
    refine z02 (rs:=[9]) (by kernel_rfl) (by simp) (z01.cons (o:=_) rfl (fun K hK=>?_) z01.nil)
    ·go_simp
     refine (W2.out _).mono ?_;rintro e wx ⟨rfl,rfl⟩;go_wp2_with fail;refine hK.out _ _ (fun _=>HK.out _ ((((Ch.refl (fun _=>False) _).drew).alloc _))) (fun aj=>?_);have hHeld:=aj (by decide);clear hK K aj
     try simp only[Act.put,aB,ay,aA]
     refine z00 (i:=10) (oi:=_) (v:=?_) rfl (fun _ _ _ h=>h) (Or.inl ⟨by rfl,?_⟩) ?_;rotate_left
     ·(intro w hSw;(try dsimp only at hSw);go_split_ands;go_simp;try with_reducible rfl)
     try simp only[Act.put,aB]
     refine z00 (i:=11) (oi:=_) (v:=?_) rfl (fun _ _ _ h=>h) (Or.inl ⟨by rfl,?_⟩) ?_;rotate_left
     ·(intro w hSw;(try dsimp only at hSw);go_split_ands;go_simp;try with_reducible rfl)
     try simp only[Act.put]
     refine z03 (i:=12) (oi:=_) (v:=undef) rfl (by kernel_rfl) (by kernel_rfl) (by kernel_rfl) (by kernel_rfl) (by kernel_rfl) (by decide) (fun _ _ _ h=>h) (Or.inr ⟨by kernel_rfl,rfl⟩) (by assumption) ?_
     try simp only[Act.put]
     refine z03 (i:=13) (oi:=_) (v:=undef) rfl (by kernel_rfl) (by kernel_rfl) (by kernel_rfl) (by kernel_rfl) (by kernel_rfl) (by decide) (fun _ _ _ h=>h) (Or.inr ⟨by kernel_rfl,rfl⟩) (by assumption) ?_
     try simp only[Act.put]
     refine z00 (i:=14) (oi:=_) (v:=?_) rfl (fun _ _ _ h=>h) (Or.inl ⟨by rfl,?_⟩) ?_;rotate_left
     ·(intro w hSw;(try dsimp only at hSw);go_split_ands;go_simp;try with_reducible rfl)
     try simp only[Act.put]
     refine z00 (i:=15) (oi:=_) (v:=?_) rfl (fun _ _ _ h=>h) (Or.inl ⟨by rfl,?_⟩) ?_;rotate_left
     ·(intro w hSw;(try dsimp only at hSw);go_split_ands;go_simp;try with_reducible rfl)
     simp only[List.getElem_toArray,List.getElem_cons_zero,List.getElem_cons_succ,Act.put,aB,ay,aA];refine z00 (i:=16) (oi:=_) (v:=?_) rfl (fun _ _ _ h=>h) (Or.inl ⟨by rfl,?_⟩) ?_;rotate_left
     ·(intro w hSw;(try dsimp only at hSw);go_split_ands;go_simp;try with_reducible rfl)
     simp only[List.getElem_toArray,List.getElem_cons_zero,List.getElem_cons_succ,Act.put,aB,ay,aA];refine z08 (by kernel_rfl) ?_ _;go_wp2_with fail;go_ret2;exact ⟨⟨_,rfl⟩,HN.out.tr ((((Ch.refl (fun _=>False) _).drew).alloc _))⟩
  ·go_simp
   refine (W1.out _).mono ?_;rintro e wx ⟨rfl,rfl⟩;go_wp2_with fail;refine hK.out _ _ (fun _=>HK.out _ ((Ch.refl (fun _=>False) _).drew)) (fun aj=>?_);have hHeld:=aj (by decide);clear hK K aj
   try simp only[Act.put,aB,ay,aA]
   refine z00 (i:=7) (oi:=_) (v:=?_) rfl (fun _ _ _ h=>h) (Or.inl ⟨by rfl,?_⟩) ?_;rotate_left
   ·(intro w hSw;(try dsimp only at hSw);go_split_ands;go_simp;try with_reducible rfl)
   try simp only[Act.put,aB]
   refine z00 (i:=8) (oi:=_) (v:=?_) rfl (fun _ _ _ h=>h) (Or.inl ⟨by rfl,?_⟩) ?_;rotate_left
   ·(intro w hSw;(try dsimp only at hSw);go_split_ands;go_simp;try with_reducible rfl)
   try simp only[Act.put]
   refine z02 (rs:=[4,9]) (by kernel_rfl) (by simp) (z01.cons (o:=_) rfl (fun K hK=>?_) (z01.cons (o:=_) rfl (fun K hK=>?_) z01.nil))
   ·go_simp
    refine hK.out _ _ (fun _=>HK.out _ (((Ch.refl (fun _=>False) _).drew).alloc _)) (fun aj=>?_);have hHeld:=aj (by decide);clear hK K aj
    try simp only[Act.put,aB,ay,aA]
    refine z02 (rs:=[9]) (by kernel_rfl) (by simp) (z01.cons (o:=_) rfl (fun K hK=>?_) z01.nil)
    ·go_simp
     refine (W2.out _).mono ?_;rintro e wx ⟨rfl,rfl⟩;go_wp2_with fail;refine hK.out _ _ (fun _=>HK.out _ ((((Ch.refl (fun _=>False) _).drew).alloc _))) (fun aj=>?_);have hHeld:=aj (by decide);clear hK K aj
     try simp only[Act.put,aB,ay,aA]
     refine z00 (i:=10) (oi:=_) (v:=?_) rfl (fun _ _ _ h=>h) (Or.inl ⟨by rfl,?_⟩) ?_;rotate_left
     ·(intro w hSw;(try dsimp only at hSw);go_split_ands;go_simp;try with_reducible rfl)
     try simp only[Act.put,aB]
     refine z00 (i:=11) (oi:=_) (v:=?_) rfl (fun _ _ _ h=>h) (Or.inl ⟨by rfl,?_⟩) ?_;rotate_left
     ·(intro w hSw;(try dsimp only at hSw);go_split_ands;go_simp;try with_reducible rfl)
     try simp only[Act.put]
     refine z03 (i:=12) (oi:=_) (v:=undef) rfl (by kernel_rfl) (by kernel_rfl) (by kernel_rfl) (by kernel_rfl) (by kernel_rfl) (by decide) (fun _ _ _ h=>h) (Or.inr ⟨by kernel_rfl,rfl⟩) (by assumption) ?_
     try simp only[Act.put]
     refine z03 (i:=13) (oi:=_) (v:=undef) rfl (by kernel_rfl) (by kernel_rfl) (by kernel_rfl) (by kernel_rfl) (by kernel_rfl) (by decide) (fun _ _ _ h=>h) (Or.inr ⟨by kernel_rfl,rfl⟩) (by assumption) ?_
     try simp only[Act.put]
     refine z00 (i:=14) (oi:=_) (v:=?_) rfl (fun _ _ _ h=>h) (Or.inl ⟨by rfl,?_⟩) ?_;rotate_left
     ·(intro w hSw;(try dsimp only at hSw);go_split_ands;go_simp;try with_reducible rfl)
     try simp only[Act.put]
     refine z00 (i:=15) (oi:=_) (v:=?_) rfl (fun _ _ _ h=>h) (Or.inl ⟨by rfl,?_⟩) ?_;rotate_left
     ·(intro w hSw;(try dsimp only at hSw);go_split_ands;go_simp;try with_reducible rfl)
     simp only[List.getElem_toArray,List.getElem_cons_zero,List.getElem_cons_succ,Act.put,aB,ay,aA];refine z00 (i:=16) (oi:=_) (v:=?_) rfl (fun _ _ _ h=>h) (Or.inl ⟨by rfl,?_⟩) ?_;rotate_left
     ·(intro w hSw;(try dsimp only at hSw);go_split_ands;go_simp;try with_reducible rfl)
     simp only[List.getElem_toArray,List.getElem_cons_zero,List.getElem_cons_succ,Act.put,aB,ay,aA];refine z08 (by kernel_rfl) ?_ _;go_wp2_with fail;go_ret2;exact ⟨⟨_,rfl⟩,HN.out.tr ((((Ch.refl (fun _=>False) _).drew).alloc _))⟩
   ·go_simp
    refine (W2.out _).mono ?_;rintro e wx ⟨rfl,rfl⟩;go_wp2_with fail;refine hK.out _ _ (fun _=>HK.out _ ((Ch.refl (fun _=>False) _).drew)) (fun aj=>?_);have hHeld:=aj (by decide);clear hK K aj
    try simp only[Act.put,aB,ay,aA]
    refine z00 (i:=10) (oi:=_) (v:=?_) rfl (fun _ _ _ h=>h) (Or.inl ⟨by rfl,?_⟩) ?_;rotate_left
    ·(intro w hSw;(try dsimp only at hSw);go_split_ands;go_simp;try with_reducible rfl)
    try simp only[Act.put,aB]
    refine z00 (i:=11) (oi:=_) (v:=?_) rfl (fun _ _ _ h=>h) (Or.inl ⟨by rfl,?_⟩) ?_;rotate_left
    ·(intro w hSw;(try dsimp only at hSw);go_split_ands;go_simp;try with_reducible rfl)
    try simp only[Act.put]
    refine z03 (i:=12) (oi:=_) (v:=undef) rfl (by kernel_rfl) (by kernel_rfl) (by kernel_rfl) (by kernel_rfl) (by kernel_rfl) (by decide) (fun _ _ _ h=>h) (Or.inr ⟨by kernel_rfl,rfl⟩) (by assumption) ?_
    try simp only[Act.put]
    refine z03 (i:=13) (oi:=_) (v:=undef) rfl (by kernel_rfl) (by kernel_rfl) (by kernel_rfl) (by kernel_rfl) (by kernel_rfl) (by decide) (fun _ _ _ h=>h) (Or.inr ⟨by kernel_rfl,rfl⟩) (by assumption) ?_
    try simp only[Act.put]
    refine z00 (i:=14) (oi:=_) (v:=?_) rfl (fun _ _ _ h=>h) (Or.inl ⟨by rfl,?_⟩) ?_;rotate_left
    ·(intro w hSw;(try dsimp only at hSw);go_split_ands;go_simp;try with_reducible rfl)
    try simp only[Act.put]
    refine z02 (rs:=[4]) (by kernel_rfl) (by simp) (z01.cons (o:=_) rfl (fun K hK=>?_) z01.nil)
    ·go_simp
     refine hK.out _ _ (fun _=>HK.out _ (((Ch.refl (fun _=>False) _).drew).alloc _)) (fun aj=>?_);have hHeld:=aj (by decide);clear hK K aj
     try simp only[Act.put,aB,ay,aA]
     refine z00 (i:=15) (oi:=_) (v:=?_) rfl (fun _ _ _ h=>h) (Or.inl ⟨by rfl,?_⟩) ?_;rotate_left
     ·(intro w hSw;(try dsimp only at hSw);go_split_ands;go_simp;try with_reducible rfl)
     simp only[List.getElem_toArray,List.getElem_cons_zero,List.getElem_cons_succ,Act.put,aB,ay,aA];refine z00 (i:=16) (oi:=_) (v:=?_) rfl (fun _ _ _ h=>h) (Or.inl ⟨by rfl,?_⟩) ?_;rotate_left
     ·(intro w hSw;(try dsimp only at hSw);go_split_ands;go_simp;try with_reducible rfl)
     simp only[List.getElem_toArray,List.getElem_cons_zero,List.getElem_cons_succ,Act.put,aB,ay,aA];refine z08 (by kernel_rfl) ?_ _;go_wp2_with fail;go_ret2;exact ⟨⟨_,rfl⟩,HN.out.tr ((((Ch.refl (fun _=>False) _).drew).alloc _))⟩
 ·go_enter Tryz.func7,Tryz.ntmps7
  go_wp2_with fail;refine uI (fun w'=>w'.cell? ⟨w.heap.size,0,none⟩=some (.int .i64 C.window)/\w'.cell? ⟨w.heap.size,1,none⟩=some (.slice A C.aK.length q)/\w'.cell? ⟨w.heap.size,2,none⟩=some (.int .i64 C.group)/\w'.cell? ⟨w.heap.size,3,none⟩=some (.int .i64 C.buffer)/\w'.cell? ⟨w.heap.size,4,none⟩=some (.int .i64 C.flush)/\w'.cell? ⟨w.heap.size,5,none⟩=some (.int .i64 C.age)/\w'.cell? ⟨w.heap.size,6,none⟩=some (.int .i64 C.piece)/\w'.cell? ⟨w.heap.size,7,none⟩=some (.int .i64 C.tries)/\w'.cell? ⟨w.heap.size,8,none⟩=some (.int .i64 C.wait)/\w'.cell? ⟨w.heap.size,9,none⟩=some (.int .i64 C.small)/\w'.cell? ⟨w.heap.size,10,none⟩=some (.int .i64 C.most)/\w'.cell? ⟨w.heap.size,11,none⟩=some (.int .i64 C.fZ)) (fun _=>false) rfl (HK.out _ (Ch.refl _ _).drew) (fun hS0=>?_);refine z00 (i:=0) (oi:=_) (v:=?_) rfl (fun _ _ _ h=>h) (Or.inl ⟨by rfl,?_⟩) ?_;rotate_left
  ·(intro w hSw;(try dsimp only at hSw);go_split_ands;go_simp;try with_reducible rfl)
  try simp only[Act.put,aB]
  refine z00 (i:=1) (oi:=_) (v:=?_) rfl (fun _ _ _ h=>h) (Or.inl ⟨by rfl,?_⟩) ?_;rotate_left
  ·(intro w hSw;(try dsimp only at hSw);go_split_ands;go_simp;try with_reducible rfl)
  try simp only[Act.put]
  refine z00 (i:=2) (oi:=_) (v:=?_) rfl (fun _ _ _ h=>h) (Or.inl ⟨by rfl,?_⟩) ?_;rotate_left
  ·(intro w hSw;(try dsimp only at hSw);go_split_ands;go_simp;try with_reducible rfl)
  try simp only[Act.put]
  refine z00 (i:=3) (oi:=_) (v:=?_) rfl (fun _ _ _ h=>h) (Or.inl ⟨by rfl,?_⟩) ?_;rotate_left
  ·(intro w hSw;(try dsimp only at hSw);go_split_ands;go_simp;try with_reducible rfl)
  try simp only[Act.put]
  refine z00 (i:=5) (oi:=_) (v:=?_) rfl (fun _ _ _ h=>h) (Or.inl ⟨by rfl,?_⟩) ?_;rotate_left
  ·(intro w hSw;(try dsimp only at hSw);go_split_ands;go_simp;try with_reducible rfl)
  try simp only[Act.put]
  refine z02 (rs:=[4,6]) (by kernel_rfl) (by simp) (z01.cons (o:=_) rfl (fun K hK=>?_) (z01.cons (o:=_) rfl (fun K hK=>?_) z01.nil))
  ·go_simp
   refine hK.out _ _ (fun _=>HK.out _ (((Ch.refl (fun _=>False) _).drew).alloc _)) (fun aj=>?_);have hHeld:=aj (by decide);clear hK K aj
   try simp only[Act.put,aB,ay,aA]
   refine z02 (rs:=[6]) (by kernel_rfl) (by simp) (z01.cons (o:=_) rfl (fun K hK=>?_) z01.nil)
   ·go_simp
    refine (W1.out _).mono ?_;rintro e wx ⟨rfl,rfl⟩;go_wp2_with fail;refine hK.out _ _ (fun _=>HK.out _ ((((Ch.refl (fun _=>False) _).drew).alloc _))) (fun aj=>?_);have hHeld:=aj (by decide);clear hK K aj
    try simp only[Act.put,aB,ay,aA]
    refine z00 (i:=7) (oi:=_) (v:=?_) rfl (fun _ _ _ h=>h) (Or.inl ⟨by rfl,?_⟩) ?_;rotate_left
    ·(intro w hSw;(try dsimp only at hSw);go_split_ands;go_simp;try with_reducible rfl)
    try simp only[Act.put,aB]
    refine z00 (i:=8) (oi:=_) (v:=?_) rfl (fun _ _ _ h=>h) (Or.inl ⟨by rfl,?_⟩) ?_;rotate_left
    ·(intro w hSw;(try dsimp only at hSw);go_split_ands;go_simp;try with_reducible rfl)
    try simp only[Act.put]
    refine z02 (rs:=[9]) (by kernel_rfl) (by simp) (z01.cons (o:=_) rfl (fun K hK=>?_) z01.nil)
    ·go_simp
     refine (W2.out _).mono ?_;rintro e wx ⟨rfl,rfl⟩;go_wp2_with fail;refine hK.out _ _ (fun _=>HK.out _ ((((Ch.refl (fun _=>False) _).drew).alloc _))) (fun aj=>?_);have hHeld:=aj (by decide);clear hK K aj
     try simp only[Act.put,aB,ay,aA]
     refine z00 (i:=10) (oi:=_) (v:=?_) rfl (fun _ _ _ h=>h) (Or.inl ⟨by rfl,?_⟩) ?_;rotate_left
     ·(intro w hSw;(try dsimp only at hSw);go_split_ands;go_simp;try with_reducible rfl)
     try simp only[Act.put,aB]
     refine z00 (i:=11) (oi:=_) (v:=?_) rfl (fun _ _ _ h=>h) (Or.inl ⟨by rfl,?_⟩) ?_;rotate_left
     ·(intro w hSw;(try dsimp only at hSw);go_split_ands;go_simp;try with_reducible rfl)
     try simp only[Act.put]
     refine z00 (i:=12) (oi:=_) (v:=?_) rfl (fun _ _ _ h=>h) (Or.inl ⟨by rfl,?_⟩) ?_;rotate_left
     ·(intro w hSw;(try dsimp only at hSw);go_split_ands;go_simp;try with_reducible rfl)
     try simp only[Act.put]
     refine z02 (rs:=[13]) (by kernel_rfl) (by simp) (z01.cons (o:=_) rfl (fun K hK=>?_) z01.nil)
     ·go_simp
      refine (HF.out _ (HN.out.tr ((((Ch.refl (fun _=>False) _).drew).alloc _)))).mono ?_;rintro e wf1 ⟨rfl,UR⟩;have VR:=ah UR;clear UR;go_wp2_with fail;refine hK.out _ _ (fun _=>HK.out _ (((((Ch.refl (fun _=>False) _).drew).alloc _)).tr VR.out)) (fun aj=>?_);have hHeld:=aj (by decide);clear hK K aj
      try simp only[Act.put,aB,ay,aA]
      refine z00 (i:=14) (oi:=_) (v:=?_) rfl (fun _ _ _ h=>h) (Or.inl ⟨by rfl,?_⟩) ?_;rotate_left
      ·(intro w hSw;(try dsimp only at hSw);go_split_ands;go_simp;try with_reducible rfl)
      try simp only[Act.put,aB]
      refine z00 (i:=15) (oi:=_) (v:=?_) rfl (fun _ _ _ h=>h) (Or.inl ⟨by rfl,?_⟩) ?_;rotate_left
      ·(intro w hSw;(try dsimp only at hSw);go_split_ands;go_simp;try with_reducible rfl)
      simp only[List.getElem_toArray,List.getElem_cons_zero,List.getElem_cons_succ,Act.put,aB,ay,aA];refine z00 (i:=16) (oi:=_) (v:=?_) rfl (fun _ _ _ h=>h) (Or.inl ⟨by rfl,?_⟩) ?_;rotate_left
      ·(intro w hSw;(try dsimp only at hSw);go_split_ands;go_simp;try with_reducible rfl)
      simp only[List.getElem_toArray,List.getElem_cons_zero,List.getElem_cons_succ,Act.put,aB,ay,aA];refine z08 (by kernel_rfl) ?_ _;go_wp2_with fail;go_ret2;exact ⟨⟨_,rfl⟩,HN.out.tr ((((((Ch.refl (fun _=>False) _).drew).alloc _)).tr VR.out))⟩
  ·go_simp
   refine (W1.out _).mono ?_;rintro e wx ⟨rfl,rfl⟩;go_wp2_with fail;refine hK.out _ _ (fun _=>HK.out _ ((Ch.refl (fun _=>False) _).drew)) (fun aj=>?_);have hHeld:=aj (by decide);clear hK K aj
   try simp only[Act.put,aB,ay,aA]
   refine z00 (i:=7) (oi:=_) (v:=?_) rfl (fun _ _ _ h=>h) (Or.inl ⟨by rfl,?_⟩) ?_;rotate_left
   ·(intro w hSw;(try dsimp only at hSw);go_split_ands;go_simp;try with_reducible rfl)
   try simp only[Act.put,aB]
   refine z00 (i:=8) (oi:=_) (v:=?_) rfl (fun _ _ _ h=>h) (Or.inl ⟨by rfl,?_⟩) ?_;rotate_left
   ·(intro w hSw;(try dsimp only at hSw);go_split_ands;go_simp;try with_reducible rfl)
   try simp only[Act.put]
   refine z02 (rs:=[4,9]) (by kernel_rfl) (by simp) (z01.cons (o:=_) rfl (fun K hK=>?_) (z01.cons (o:=_) rfl (fun K hK=>?_) z01.nil))
   ·go_simp
    refine hK.out _ _ (fun _=>HK.out _ (((Ch.refl (fun _=>False) _).drew).alloc _)) (fun aj=>?_);have hHeld:=aj (by decide);clear hK K aj
    try simp only[Act.put,aB,ay,aA]
    refine z02 (rs:=[9]) (by kernel_rfl) (by simp) (z01.cons (o:=_) rfl (fun K hK=>?_) z01.nil)
    ·go_simp
     refine (W2.out _).mono ?_;rintro e wx ⟨rfl,rfl⟩;go_wp2_with fail;refine hK.out _ _ (fun _=>HK.out _ ((((Ch.refl (fun _=>False) _).drew).alloc _))) (fun aj=>?_);have hHeld:=aj (by decide);clear hK K aj
     try simp only[Act.put,aB,ay,aA]
     refine z00 (i:=10) (oi:=_) (v:=?_) rfl (fun _ _ _ h=>h) (Or.inl ⟨by rfl,?_⟩) ?_;rotate_left
     ·(intro w hSw;(try dsimp only at hSw);go_split_ands;go_simp;try with_reducible rfl)
     try simp only[Act.put,aB]
     refine z00 (i:=11) (oi:=_) (v:=?_) rfl (fun _ _ _ h=>h) (Or.inl ⟨by rfl,?_⟩) ?_;rotate_left
     ·(intro w hSw;(try dsimp only at hSw);go_split_ands;go_simp;try with_reducible rfl)
     try simp only[Act.put]
     refine z00 (i:=12) (oi:=_) (v:=?_) rfl (fun _ _ _ h=>h) (Or.inl ⟨by rfl,?_⟩) ?_;rotate_left
     ·(intro w hSw;(try dsimp only at hSw);go_split_ands;go_simp;try with_reducible rfl)
     try simp only[Act.put]
     refine z02 (rs:=[13]) (by kernel_rfl) (by simp) (z01.cons (o:=_) rfl (fun K hK=>?_) z01.nil)
     ·go_simp
      refine (HF.out _ (HN.out.tr ((((Ch.refl (fun _=>False) _).drew).alloc _)))).mono ?_;rintro e wf2 ⟨rfl,UQ⟩;have VQ:=ah UQ;clear UQ;go_wp2_with fail;refine hK.out _ _ (fun _=>HK.out _ (((((Ch.refl (fun _=>False) _).drew).alloc _)).tr VQ.out)) (fun aj=>?_);have hHeld:=aj (by decide);clear hK K aj
      try simp only[Act.put,aB,ay,aA]
      refine z00 (i:=14) (oi:=_) (v:=?_) rfl (fun _ _ _ h=>h) (Or.inl ⟨by rfl,?_⟩) ?_;rotate_left
      ·(intro w hSw;(try dsimp only at hSw);go_split_ands;go_simp;try with_reducible rfl)
      try simp only[Act.put,aB]
      refine z00 (i:=15) (oi:=_) (v:=?_) rfl (fun _ _ _ h=>h) (Or.inl ⟨by rfl,?_⟩) ?_;rotate_left
      ·(intro w hSw;(try dsimp only at hSw);go_split_ands;go_simp;try with_reducible rfl)
      simp only[List.getElem_toArray,List.getElem_cons_zero,List.getElem_cons_succ,Act.put,aB,ay,aA];refine z00 (i:=16) (oi:=_) (v:=?_) rfl (fun _ _ _ h=>h) (Or.inl ⟨by rfl,?_⟩) ?_;rotate_left
      ·(intro w hSw;(try dsimp only at hSw);go_split_ands;go_simp;try with_reducible rfl)
      simp only[List.getElem_toArray,List.getElem_cons_zero,List.getElem_cons_succ,Act.put,aB,ay,aA];refine z08 (by kernel_rfl) ?_ _;go_wp2_with fail;go_ret2;exact ⟨⟨_,rfl⟩,HN.out.tr ((((((Ch.refl (fun _=>False) _).drew).alloc _)).tr VQ.out))⟩
   ·go_simp
    refine (W2.out _).mono ?_;rintro e wx ⟨rfl,rfl⟩;go_wp2_with fail;refine hK.out _ _ (fun _=>HK.out _ ((Ch.refl (fun _=>False) _).drew)) (fun aj=>?_);have hHeld:=aj (by decide);clear hK K aj
    try simp only[Act.put,aB,ay,aA]
    refine z00 (i:=10) (oi:=_) (v:=?_) rfl (fun _ _ _ h=>h) (Or.inl ⟨by rfl,?_⟩) ?_;rotate_left
    ·(intro w hSw;(try dsimp only at hSw);go_split_ands;go_simp;try with_reducible rfl)
    try simp only[Act.put,aB]
    refine z00 (i:=11) (oi:=_) (v:=?_) rfl (fun _ _ _ h=>h) (Or.inl ⟨by rfl,?_⟩) ?_;rotate_left
    ·(intro w hSw;(try dsimp only at hSw);go_split_ands;go_simp;try with_reducible rfl)
    try simp only[Act.put]
    refine z00 (i:=12) (oi:=_) (v:=?_) rfl (fun _ _ _ h=>h) (Or.inl ⟨by rfl,?_⟩) ?_;rotate_left
    ·(intro w hSw;(try dsimp only at hSw);go_split_ands;go_simp;try with_reducible rfl)
    try simp only[Act.put]
    refine z02 (rs:=[4,13]) (by kernel_rfl) (by simp) (z01.cons (o:=_) rfl (fun K hK=>?_) (z01.cons (o:=_) rfl (fun K hK=>?_) z01.nil))
    ·go_simp
     refine hK.out _ _ (fun _=>HK.out _ (((Ch.refl (fun _=>False) _).drew).alloc _)) (fun aj=>?_);have hHeld:=aj (by decide);clear hK K aj
     try simp only[Act.put,aB,ay,aA]
     refine z02 (rs:=[13]) (by kernel_rfl) (by simp) (z01.cons (o:=_) rfl (fun K hK=>?_) z01.nil)
     ·go_simp
      refine (HF.out _ (HN.out.tr ((((Ch.refl (fun _=>False) _).drew).alloc _)))).mono ?_;rintro e wf3 ⟨rfl,UO⟩;have VP:=ah UO;clear UO;go_wp2_with fail;refine hK.out _ _ (fun _=>HK.out _ (((((Ch.refl (fun _=>False) _).drew).alloc _)).tr VP.out)) (fun aj=>?_);have hHeld:=aj (by decide);clear hK K aj
      try simp only[Act.put,aB,ay,aA]
      refine z00 (i:=14) (oi:=_) (v:=?_) rfl (fun _ _ _ h=>h) (Or.inl ⟨by rfl,?_⟩) ?_;rotate_left
      ·(intro w hSw;(try dsimp only at hSw);go_split_ands;go_simp;try with_reducible rfl)
      try simp only[Act.put,aB]
      refine z00 (i:=15) (oi:=_) (v:=?_) rfl (fun _ _ _ h=>h) (Or.inl ⟨by rfl,?_⟩) ?_;rotate_left
      ·(intro w hSw;(try dsimp only at hSw);go_split_ands;go_simp;try with_reducible rfl)
      simp only[List.getElem_toArray,List.getElem_cons_zero,List.getElem_cons_succ,Act.put,aB,ay,aA];refine z00 (i:=16) (oi:=_) (v:=?_) rfl (fun _ _ _ h=>h) (Or.inl ⟨by rfl,?_⟩) ?_;rotate_left
      ·(intro w hSw;(try dsimp only at hSw);go_split_ands;go_simp;try with_reducible rfl)
      simp only[List.getElem_toArray,List.getElem_cons_zero,List.getElem_cons_succ,Act.put,aB,ay,aA];refine z08 (by kernel_rfl) ?_ _;go_wp2_with fail;go_ret2;exact ⟨⟨_,rfl⟩,HN.out.tr ((((((Ch.refl (fun _=>False) _).drew).alloc _)).tr VP.out))⟩
    ·go_simp
     refine (HF.out _ (HN.out.tr ((Ch.refl (fun _=>False) _).drew))).mono ?_;rintro e wf4 ⟨rfl,UN⟩;have Si:=ah UN;clear UN;go_wp2_with fail;refine hK.out _ _ (fun _=>HK.out _ (((Ch.refl (fun _=>False) _).drew).tr Si.out)) (fun aj=>?_);have hHeld:=aj (by decide);clear hK K aj
     try simp only[Act.put,aB,ay,aA]
     refine z00 (i:=14) (oi:=_) (v:=?_) rfl (fun _ _ _ h=>h) (Or.inl ⟨by rfl,?_⟩) ?_;rotate_left
     ·(intro w hSw;(try dsimp only at hSw);go_split_ands;go_simp;try with_reducible rfl)
     try simp only[Act.put,aB]
     refine z02 (rs:=[4]) (by kernel_rfl) (by simp) (z01.cons (o:=_) rfl (fun K hK=>?_) z01.nil)
     ·go_simp
      refine hK.out _ _ (fun _=>HK.out _ (((((Ch.refl (fun _=>False) _).drew).tr Si.out)).alloc _)) (fun aj=>?_);have hHeld:=aj (by decide);clear hK K aj
      try simp only[Act.put,aB,ay,aA]
      refine z00 (i:=15) (oi:=_) (v:=?_) rfl (fun _ _ _ h=>h) (Or.inl ⟨by rfl,?_⟩) ?_;rotate_left
      ·(intro w hSw;(try dsimp only at hSw);go_split_ands;go_simp;try with_reducible rfl)
      simp only[List.getElem_toArray,List.getElem_cons_zero,List.getElem_cons_succ,Act.put,aB,ay,aA];refine z00 (i:=16) (oi:=_) (v:=?_) rfl (fun _ _ _ h=>h) (Or.inl ⟨by rfl,?_⟩) ?_;rotate_left
      ·(intro w hSw;(try dsimp only at hSw);go_split_ands;go_simp;try with_reducible rfl)
      simp only[List.getElem_toArray,List.getElem_cons_zero,List.getElem_cons_succ,Act.put,aB,ay,aA];refine z08 (by kernel_rfl) ?_ _;go_wp2_with fail;go_ret2;exact ⟨⟨_,rfl⟩,HN.out.tr ((((((Ch.refl (fun _=>False) _).drew).tr Si.out)).alloc _))⟩
end Go.Proofs.YtdbfejfhpkakhaaGreat
