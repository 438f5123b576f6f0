/- Contracts and plain laws that the last text rests on. Conditions: each theorem states its own. -/
import Derived.Test.YtpakjclpjcngmaaGreatKbQ19
import Derived.Test.YtpakjclpjcngmaaGreatKbQ15
import Derived.Deep.CutBlock
import Derived.Test.YtpakjclpjcngmaaGreatKbPcLaw
import Derived.Test.YtpakjclpjcngmaaGreatKbQ20
import Derived.Test.YtpakjclpjcngmaaGreatKbQ1
import Derived.Test.YtpakjclpjcngmaaGreatKbQ3
import Derived.IntWalk
import Derived.Deep.DeepCutAuto
set_option maxRecDepth 100000
set_option maxHeartbeats 1000000
set_option linter.unusedVariables false
namespace Go.Proofs.YtpakjclpjcngmaaGreat
open Go.RowKit
section
variable {W : World} {bs : List Nat} {most : Int}
end
section
end
section
variable {W : World} {bs : List Nat} {most : Int}
end
end Go.Proofs.YtpakjclpjcngmaaGreat
namespace Go.Proofs.YtpakjclpjcngmaaGreat.Fix
end Go.Proofs.YtpakjclpjcngmaaGreat.Fix
namespace Go.Proofs.YtpakjclpjcngmaaGreat
open Go.RowKit
theorem tY (d:Nat) (W:World) (hd:d<32):
 Calls Tryz.prog 307 #[.int .i64 (d:Int)] W fun e w'=>e=.returned (.int .i64 (extra d:Int))/\W=w':=by
 by_cases h:d<4
 ·have he:extra d=0:=by unfold extra;rw[if_pos h]
  have He:=ah he;clear he;go_enter Tryz.func307,Tryz.ntmps307;go_wp2_with fail;go_ret;exact ⟨by rw[He.out];rfl,rfl⟩
 ·have he:extra d=d / 2-1:=by unfold extra;rw[if_neg h]
  have He:=ah he;clear he;go_enter Tryz.func307,Tryz.ntmps307;go_wp2_with fail;go_ret;exact ⟨wG (by rw[He.out];omega),rfl⟩
def LenL (W:World) (s:Nat) (b m i:Value) (wr:World):Prop:=
 ∃j:Nat,8+j<=s/\i=.int .i64 ((8+j:Nat):Int)/\b=.int .i64 ((gZ j).1:Int)/\m=.int .i64 ((gZ j).2:Int)/\wr=W
theorem yR (s:Nat) (W:World) (hs:s<29):
 Calls Tryz.prog 291 #[.int .i64 (s:Int)] W fun e w'=>e=.returned (.tuple #[.int .i64 ((yc s).1:Int),.int .i64 ((yc s).2:Int)])/\W=w':=by
 by_cases h:s<8
 ·have he:yc s=(s+3,0):=by unfold yc;rw[if_pos h]
  have He:=ah he;clear he;go_enter Tryz.func291,Tryz.ntmps291;go_wp2_with fail;go_ret2;exact ⟨by rw[He.out];simp,rfl⟩
 ·by_cases h28:s=28
  ·subst h28
   go_enter Tryz.func291,Tryz.ntmps291;go_wp2_with fail;go_ret2;exact ⟨rfl,rfl⟩
  ·have he:yc s=gZ (s-8):=by unfold yc;rw[if_neg h,if_neg h28]
   have He:=ah he;have hq:((s:Int)==28)=false:=by rw[beq_eq_false_iff_ne];omega
   clear he;go_enter Tryz.func291,Tryz.ntmps291;go_wp2_with fail;go_loopw [4,5,6] (LenL W s) (fun _ _ i _=>s-(intOf i).toNat)
   case atStart=>exact ⟨0,by omega,rfl,rfl,rfl,rfl⟩
   case round=>
    obtain ⟨j,hj,rfl,rfl,rfl,jy⟩:=hrel;rw[jy];clear jy;by_cases hlt:8+j<s
    ·obtain ⟨b1,b2⟩:=zJ j (by omega)
     have Hs:Hid (gZ (j+1)=((gZ j).1+2 ^ (gZ j).2,if (8+j) % 4=3 then (gZ j).2+1 else (gZ j).2)):=ah rfl;generalize gZ j=t at *;obtain ⟨tb,tm⟩:=t;simp only at b1 b2 Hs ⊢;obtain ⟨pw,hpw⟩:∃pw,2 ^ tm=pw:=⟨_,rfl⟩;have hp1:2 ^ tm<=64:=Nat.pow_le_pow_right (n:=2) (by omega) b2;rw[hpw]at hp1;have hp2:(2:Int) ^ tm=(pw:Int):=by rw[←hpw];simp
     have kp:IntKind.i64.wrap (pw:Int)=(pw:Int):=IntWalk.i64_in _ (by omega);rw[hpw]at Hs;clear hpw;by_cases h4:(8+j) % 4=3
     ·have h4q:(((8+j:Nat):Int) % 4==3)=true:=by rw[beq_iff_eq];omega
      rw[if_pos h4]at Hs;go_wp2_with fail;go_roundw
      case rel=>exact ⟨j+1,by omega,by go_num,by rw[Hs.out];go_num,by rw[Hs.out];go_num,rfl⟩
      case measure=>simp[intOf];omega
     ·have h4q:(((8+j:Nat):Int) % 4==3)=false:=by rw[beq_eq_false_iff_ne];omega
      rw[if_neg h4]at Hs;go_wp2_with fail;go_roundw
      case rel=>exact ⟨j+1,by omega,by go_num,by rw[Hs.out];go_num,by rw[Hs.out],rfl⟩
      case measure=>simp[intOf];omega
    ·obtain rfl:s=8+j:=by omega
     go_wp2_with fail;go_ret2;exact ⟨by rw[He.out,Nat.add_sub_cancel_left];rfl,rfl⟩
def DisL (W:World) (d:Nat) (b i:Value) (wr:World):Prop:=
 ∃j:Nat,j<=d/\i=.int .i64 (j:Int)/\b=.int .i64 (dJ j:Int)/\wr=W
theorem rF (d:Nat) (W:World) (hd:d<30):
 Calls Tryz.prog 292 #[.int .i64 (d:Int)] W fun e w'=>e=.returned (.tuple #[.int .i64 (dJ d:Int),.int .i64 (extra d:Int)])/\W=w':=by
 go_enter Tryz.func292,Tryz.ntmps292;go_wp2_with fail;go_loopw [4,5] (DisL W d) (fun _ i _=>d-(intOf i).toNat)
 case atStart=>exact ⟨0,Nat.zero_le _,rfl,rfl,rfl⟩
 case round=>
  obtain ⟨j,hj,rfl,rfl,jy⟩:=hrel;rw[jy];clear jy;by_cases hlt:j<d
  ·obtain ⟨b1,b2⟩:=z2o j (by omega)
   have hstep:dJ (j+1)=dJ j+2 ^ extra j:=rfl;have Hs:=ah hstep;clear hstep;go_wp2_with fail;refine (tY j W (by omega)).mono ?_;rintro e w1 ⟨rfl,rfl⟩;generalize dJ j=tb at *;generalize extra j=tm at *;obtain ⟨pw,hpw⟩:∃pw,2 ^ tm=pw:=⟨_,rfl⟩;have hp1:2 ^ tm<=16384:=Nat.pow_le_pow_right (n:=2) (by omega) b2;rw[hpw]at hp1;have hp2:(2:Int) ^ tm=(pw:Int):=by rw[←hpw];simp
   have kp:IntKind.i64.wrap (pw:Int)=(pw:Int):=IntWalk.i64_in _ (by omega);rw[hpw]at Hs;clear hpw;go_wp2_with fail;go_roundw
   case rel=>exact ⟨j+1,by omega,by go_num,by rw[Hs.out];go_num,rfl⟩
   case measure=>simp[intOf];omega
  ·obtain rfl:d=j:=by omega
   go_wp2_with fail;refine (tY d W (by omega)).mono ?_;rintro e w1 ⟨rfl,rfl⟩;go_wp2_with fail;go_ret2;exact ⟨rfl,rfl⟩
theorem yQ (n:Nat) (W:World) (h3:3<=n) (hn:n<=258):
 Calls Tryz.prog 274 #[.int .i64 (n:Int)] W fun e w'=>e=.returned (.tuple #[.int .i64 ((gV n).1:Int),.int .i64 ((gV n).2.1:Int),.int .i64 ((gV n).2.2:Int)])/\W=w':=by
 by_cases h258:n=258
 ·subst h258
  go_enter Tryz.func274,Tryz.ntmps274;go_wp2_with fail;go_ret3;exact ⟨rfl,rfl⟩
 ·have he:gV n=(yj n 27,n-(yc (yj n 27)).1,(yc (yj n 27)).2):=by unfold gV;rw[if_neg h258]
  have hfit:=(oJ (n-3) (by omega)).2.2.2.2;rw[show n-3+3=n by omega]at hfit;have He:=ah he;have Hf:=ah hfit;have hq:((n:Int)==258)=false:=by rw[beq_eq_false_iff_ne];omega
  clear he hfit;go_enter Tryz.func274,Tryz.ntmps274;go_wp2_with fail;go_loopw [5] (fun v wr=>∃s:Nat,s<=27/\v=.int .i64 (s:Int)/\wr=W/\Hid (yj n 27=yj n s)) (fun v _=>(intOf v).toNat)
  case atStart=>exact ⟨27,Nat.le_refl _,rfl,rfl,ah rfl⟩
  case round=>
   obtain ⟨s,hs,rfl,jy,HF⟩:=hrel;rw[jy];clear jy;obtain ⟨b1,b2⟩:=wU s (by omega);go_wp2_with fail;refine (yR s W (by omega)).mono ?_;rintro e w1 ⟨rfl,rfl⟩;by_cases hle:(yc s).1<=n
   ·have hF:yj n s=s:=by
     cases s with
     |zero=>rfl
     |succ s=>unfold yj;rw[if_pos hle]
    rw[HF.out,hF]at He;have hle2:((yc s).1:Int)<=(n:Int):=(by omega);go_wp2_with fail;go_ret3;exact ⟨by rw[He.out];simp;omega,rfl⟩
   ·have hle2:¬((yc s).1:Int)<=(n:Int):=by omega
    cases s with
    |zero=>
     exfalso
     have:=Hf.out;rw[HF.out]at this;exact hle this
    |succ s=>
     have hF:yj n (s+1)=yj n s:=(by rw[yj,if_neg hle]);have HF2:=ah (HF.out.trans hF);have hz:(((s+1:Nat):Int)==0)=false:=by rw[beq_eq_false_iff_ne];omega
     clear hF HF;go_wp2_with fail;go_roundw
     case rel=>exact ⟨s,by omega,by go_num,trivial,HF2⟩
     case measure=>simp[intOf]
theorem rE (n:Nat) (W:World) (h1:1<=n) (hn:n<=32768):
 Calls Tryz.prog 276 #[.int .i64 (n:Int)] W fun e w'=>e=.returned (.tuple #[.int .i64 (bQ n 29:Int),.int .i64 ((n-dJ (bQ n 29):Nat):Int),.int .i64 (extra (bQ n 29):Int)])/\W=w':=by
 obtain ⟨_,_,hfit⟩:=yU h1 hn;have Hf:=ah hfit;clear hfit;go_enter Tryz.func276,Tryz.ntmps276;go_wp2_with fail;go_loopw [5] (fun v wr=>∃s:Nat,s<=29/\v=.int .i64 (s:Int)/\wr=W/\Hid (bQ n 29=bQ n s)) (fun v _=>(intOf v).toNat)
 case atStart=>exact ⟨29,Nat.le_refl _,rfl,rfl,ah rfl⟩
 case round=>
  obtain ⟨s,hs,rfl,jy,HF⟩:=hrel;rw[jy];clear jy;obtain ⟨b1,b2⟩:=z2o s (by omega);go_wp2_with fail;refine (rF s W (by omega)).mono ?_;rintro e w1 ⟨rfl,rfl⟩;by_cases hle:dJ s<=n
  ·have hF:bQ n s=s:=by
    cases s with
    |zero=>rfl
    |succ s=>unfold bQ;rw[if_pos hle]
   have HF2:=ah (HF.out.trans hF);have hle2:(dJ s:Int)<=(n:Int):=(by omega);clear hF HF;go_wp2_with fail;go_ret3;exact ⟨by rw[HF2.out];simp;omega,rfl⟩
  ·have hle2:¬(dJ s:Int)<=(n:Int):=by omega
   cases s with
   |zero=>
    exfalso
    have:=Hf.out;rw[HF.out]at this;exact hle this
   |succ s=>
    have hF:bQ n (s+1)=bQ n s:=(by rw[bQ,if_neg hle]);have HF2:=ah (HF.out.trans hF);have hz:(((s+1:Nat):Int)==0)=false:=by rw[beq_eq_false_iff_ne];omega
    clear hF HF;go_wp2_with fail;go_roundw
    case rel=>exact ⟨s,by omega,by go_num,trivial,HF2⟩
    case measure=>simp[intOf]
end Go.Proofs.YtpakjclpjcngmaaGreat
