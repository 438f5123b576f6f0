/- Contracts and plain laws that the last text rests on. Conditions: each theorem states its own. -/
import Derived.Test.YtfljcllpmbnjaaaGreatKdQ16
import Derived.Test.YtfljcllpmbnjaaaGreatKdQ3
import Derived.IntWalk
import Derived.Deep.CutBlock
import Derived.Deep.DeepCutAuto
set_option maxRecDepth 100000
set_option maxHeartbeats 1000000
set_option linter.unusedVariables false
namespace Go.Proofs.YtfljcllpmbnjaaaGreat
open Go.RowKit
theorem rV (d:Nat) (W:World) (hd:d<32):
 Calls Tryz.prog 165 #[.int .i64 (d:Int)] W fun e w'=>e=.returned (.int .i64 (extra d:Int))/\W=w':=by
 by_cases h:d<4
 ·have he:extra d=0:=by unfold extra;rw[if_pos h]
  have He:=ah he;clear he;go_enter Tryz.func165,Tryz.ntmps165;go_wp2_with fail;go_ret;exact ⟨by rw[He.out];rfl,rfl⟩
 ·have he:extra d=d / 2-1:=by unfold extra;rw[if_neg h]
  have He:=ah he;clear he;go_enter Tryz.func165,Tryz.ntmps165;go_wp2_with fail;go_ret;exact ⟨UY (by rw[He.out];omega),rfl⟩
def LenL (W:World) (s:Nat) (b m i:Value) (wr:World):Prop:=
 ∃j:Nat,8+j<=s/\i=.int .i64 ((8+j:Nat):Int)/\b=.int .i64 ((gB j).1:Int)/\m=.int .i64 ((gB j).2:Int)/\wr=W
theorem z4X (s:Nat) (W:World) (hs:s<29):
 Calls Tryz.prog 141 #[.int .i64 (s:Int)] W fun e w'=>e=.returned (.tuple #[.int .i64 ((fO s).1:Int),.int .i64 ((fO s).2:Int)])/\W=w':=by
 by_cases h:s<8
 ·have he:fO s=(s+3,0):=by unfold fO;rw[if_pos h]
  have He:=ah he;clear he;go_enter Tryz.func141,Tryz.ntmps141;go_wp2_with fail;go_ret2;exact ⟨by rw[He.out];simp,rfl⟩
 ·by_cases h28:s=28
  ·subst h28
   go_enter Tryz.func141,Tryz.ntmps141;go_wp2_with fail;go_ret2;exact ⟨rfl,rfl⟩
  ·have he:fO s=gB (s-8):=by unfold fO;rw[if_neg h,if_neg h28]
   have He:=ah he;have hq:((s:Int)==28)=false:=by rw[beq_eq_false_iff_ne];omega
   clear he;go_enter Tryz.func141,Tryz.ntmps141;go_wp2_with fail;go_loopw [4,5,6] (LenL W s) (fun _ _ i _=>s-(intOf i).toNat)
   case atStart=>exact ⟨0,by omega,rfl,rfl,rfl,rfl⟩
   case round=>
    obtain ⟨j,hj,rfl,rfl,rfl,iC⟩:=hrel;rw[iC];clear iC;by_cases hlt:8+j<s
    ·obtain ⟨b1,b2⟩:=zh j (by omega)
     have Hs:Hid (gB (j+1)=((gB j).1+2 ^ (gB j).2,if (8+j) % 4=3 then (gB j).2+1 else (gB j).2)):=ah rfl;generalize gB j=t at *;obtain ⟨tb,tm⟩:=t;simp only at b1 b2 Hs ⊢;obtain ⟨pw,hpw⟩:∃pw,2 ^ tm=pw:=⟨_,rfl⟩;have hp1:2 ^ tm<=64:=Nat.pow_le_pow_right (n:=2) (by omega) b2;rw[hpw]at hp1;have hp2:(2:Int) ^ tm=(pw:Int):=by rw[←hpw];simp
     have kp:IntKind.i64.wrap (pw:Int)=(pw:Int):=IntWalk.i64_in _ (by omega);rw[hpw]at Hs;clear hpw;by_cases h4:(8+j) % 4=3
     ·have h4q:(((8+j:Nat):Int) % 4==3)=true:=by rw[beq_iff_eq];omega
      rw[if_pos h4]at Hs;go_wp2_with fail;go_roundw
      case rel=>exact ⟨j+1,by omega,by go_num,by rw[Hs.out];go_num,by rw[Hs.out];go_num,rfl⟩
      case measure=>simp[intOf];omega
     ·have h4q:(((8+j:Nat):Int) % 4==3)=false:=by rw[beq_eq_false_iff_ne];omega
      rw[if_neg h4]at Hs;go_wp2_with fail;go_roundw
      case rel=>exact ⟨j+1,by omega,by go_num,by rw[Hs.out];go_num,by rw[Hs.out],rfl⟩
      case measure=>simp[intOf];omega
    ·obtain rfl:s=8+j:=by omega
     go_wp2_with fail;go_ret2;exact ⟨by rw[He.out,Nat.add_sub_cancel_left];rfl,rfl⟩
def DisL (W:World) (d:Nat) (b i:Value) (wr:World):Prop:=
 ∃j:Nat,j<=d/\i=.int .i64 (j:Int)/\b=.int .i64 (bD j:Int)/\wr=W
theorem z3J (d:Nat) (W:World) (hd:d<30):
 Calls Tryz.prog 142 #[.int .i64 (d:Int)] W fun e w'=>e=.returned (.tuple #[.int .i64 (bD d:Int),.int .i64 (extra d:Int)])/\W=w':=by
 go_enter Tryz.func142,Tryz.ntmps142;go_wp2_with fail;go_loopw [4,5] (DisL W d) (fun _ i _=>d-(intOf i).toNat)
 case atStart=>exact ⟨0,Nat.zero_le _,rfl,rfl,rfl⟩
 case round=>
  obtain ⟨j,hj,rfl,rfl,iC⟩:=hrel;rw[iC];clear iC;by_cases hlt:j<d
  ·obtain ⟨b1,b2⟩:=z27 j (by omega)
   have hstep:bD (j+1)=bD j+2 ^ extra j:=rfl;have Hs:=ah hstep;clear hstep;go_wp2_with fail;refine (rV j W (by omega)).mono ?_;rintro e w1 ⟨rfl,rfl⟩;generalize bD j=tb at *;generalize extra j=tm at *;obtain ⟨pw,hpw⟩:∃pw,2 ^ tm=pw:=⟨_,rfl⟩;have hp1:2 ^ tm<=16384:=Nat.pow_le_pow_right (n:=2) (by omega) b2;rw[hpw]at hp1;have hp2:(2:Int) ^ tm=(pw:Int):=by rw[←hpw];simp
   have kp:IntKind.i64.wrap (pw:Int)=(pw:Int):=IntWalk.i64_in _ (by omega);rw[hpw]at Hs;clear hpw;go_wp2_with fail;go_roundw
   case rel=>exact ⟨j+1,by omega,by go_num,by rw[Hs.out];go_num,rfl⟩
   case measure=>simp[intOf];omega
  ·obtain rfl:d=j:=by omega
   go_wp2_with fail;refine (rV d W (by omega)).mono ?_;rintro e w1 ⟨rfl,rfl⟩;go_wp2_with fail;go_ret2;exact ⟨rfl,rfl⟩
theorem yI (n:Nat) (W:World) (h3:3<=n) (hn:n<=258):
 Calls Tryz.prog 115 #[.int .i64 (n:Int)] W fun e w'=>e=.returned (.tuple #[.int .i64 ((f_ n).1:Int),.int .i64 ((f_ n).2.1:Int),.int .i64 ((f_ n).2.2:Int)])/\W=w':=by
 by_cases h258:n=258
 ·subst h258
  go_enter Tryz.func115,Tryz.ntmps115;go_wp2_with fail;go_ret3;exact ⟨rfl,rfl⟩
 ·have he:f_ n=(z18 n 27,n-(fO (z18 n 27)).1,(fO (z18 n 27)).2):=by unfold f_;rw[if_neg h258]
  have hfit:=(ng (n-3) (by omega)).2.2.2.2;rw[show n-3+3=n by omega]at hfit;have He:=ah he;have Hf:=ah hfit;have hq:((n:Int)==258)=false:=by rw[beq_eq_false_iff_ne];omega
  clear he hfit;go_enter Tryz.func115,Tryz.ntmps115;go_wp2_with fail;go_loopw [5] (fun v wr=>∃s:Nat,s<=27/\v=.int .i64 (s:Int)/\wr=W/\Hid (z18 n 27=z18 n s)) (fun v _=>(intOf v).toNat)
  case atStart=>exact ⟨27,Nat.le_refl _,rfl,rfl,ah rfl⟩
  case round=>
   obtain ⟨s,hs,rfl,iC,HF⟩:=hrel;rw[iC];clear iC;obtain ⟨b1,b2⟩:=z4n s (by omega);go_wp2_with fail;refine (z4X s W (by omega)).mono ?_;rintro e w1 ⟨rfl,rfl⟩;by_cases hle:(fO s).1<=n
   ·have hF:z18 n s=s:=by
     cases s with
     |zero=>rfl
     |succ s=>unfold z18;rw[if_pos hle]
    rw[HF.out,hF]at He;have hle2:((fO s).1:Int)<=(n:Int):=(by omega);go_wp2_with fail;go_ret3;exact ⟨by rw[He.out];simp;omega,rfl⟩
   ·have hle2:¬((fO s).1:Int)<=(n:Int):=by omega
    cases s with
    |zero=>
     exfalso
     have:=Hf.out;rw[HF.out]at this;exact hle this
    |succ s=>
     have hF:z18 n (s+1)=z18 n s:=(by rw[z18,if_neg hle]);have HF2:=ah (HF.out.trans hF);have hz:(((s+1:Nat):Int)==0)=false:=by rw[beq_eq_false_iff_ne];omega
     clear hF HF;go_wp2_with fail;go_roundw
     case rel=>exact ⟨s,by omega,by go_num,trivial,HF2⟩
     case measure=>simp[intOf]
theorem qx (n:Nat) (W:World) (h1:1<=n) (hn:n<=32768):
 Calls Tryz.prog 117 #[.int .i64 (n:Int)] W fun e w'=>e=.returned (.tuple #[.int .i64 (bU n 29:Int),.int .i64 ((n-bD (bU n 29):Nat):Int),.int .i64 (extra (bU n 29):Int)])/\W=w':=by
 obtain ⟨_,_,hfit⟩:=yK h1 hn;have Hf:=ah hfit;clear hfit;go_enter Tryz.func117,Tryz.ntmps117;go_wp2_with fail;go_loopw [5] (fun v wr=>∃s:Nat,s<=29/\v=.int .i64 (s:Int)/\wr=W/\Hid (bU n 29=bU n s)) (fun v _=>(intOf v).toNat)
 case atStart=>exact ⟨29,Nat.le_refl _,rfl,rfl,ah rfl⟩
 case round=>
  obtain ⟨s,hs,rfl,iC,HF⟩:=hrel;rw[iC];clear iC;obtain ⟨b1,b2⟩:=z27 s (by omega);go_wp2_with fail;refine (z3J s W (by omega)).mono ?_;rintro e w1 ⟨rfl,rfl⟩;by_cases hle:bD s<=n
  ·have hF:bU n s=s:=by
    cases s with
    |zero=>rfl
    |succ s=>unfold bU;rw[if_pos hle]
   have HF2:=ah (HF.out.trans hF);have hle2:(bD s:Int)<=(n:Int):=(by omega);clear hF HF;go_wp2_with fail;go_ret3;exact ⟨by rw[HF2.out];simp;omega,rfl⟩
  ·have hle2:¬(bD s:Int)<=(n:Int):=by omega
   cases s with
   |zero=>
    exfalso
    have:=Hf.out;rw[HF.out]at this;exact hle this
   |succ s=>
    have hF:bU n (s+1)=bU n s:=(by rw[bU,if_neg hle]);have HF2:=ah (HF.out.trans hF);have hz:(((s+1:Nat):Int)==0)=false:=by rw[beq_eq_false_iff_ne];omega
    clear hF HF;go_wp2_with fail;go_roundw
    case rel=>exact ⟨s,by omega,by go_num,trivial,HF2⟩
    case measure=>simp[intOf]
end Go.Proofs.YtfljcllpmbnjaaaGreat
