/- Contracts and plain laws that the last text rests on. Conditions: each theorem states its own. -/
import Derived.Test.YtfljcllpmbnjaaaGreatKdQ6
import Derived.Test.YtfljcllpmbnjaaaGreatKdQ1
import Derived.IntWalk
import Derived.Deep.CutBlock
import Derived.Deep.DeepCutAuto
set_option maxRecDepth 100000
set_option maxHeartbeats 4000000
set_option linter.unusedVariables false
namespace Go.Proofs.YtfljcllpmbnjaaaGreat
open Go.RowKit
theorem XV (g:Nat) (h:Option Nat) (l:List Bool) (X:Int) (v n:Nat) (w:World) (r:ig w g h l) (hl:l.length<=999999999000) (hX:X=(v:Int)) (hv:v<4294967296) (hn:n<=16):
 Calls Tryz.prog 136 #[.pointer (some ⟨g,0,none⟩),.int .u32 X,.int .i64 (n:Int)] w fun e w'=>e=.returned (.int .i64 0)/\gI w g h (l++ak v n) w':=by
 subst hX;exact uh g h l v n w r hl hv hn
set_option maxRecDepth 100000 in
theorem OT (g:Nat) (h:Option Nat) (l:List Bool) (s:Nat) (w:World) (r:ig w g h l) (hl:l.length<=999999999000) (hs:s<288):
 Calls Tryz.prog 107 #[.pointer (some ⟨g,0,none⟩),.int .i64 (s:Int)] w fun e w'=>e=.returned (.tuple #[])/\gI w g h (l++aK s) w':=by
 by_cases h1:s<144
 ·have hb:aK s=ak (48+s) 8:=by unfold aK yZ qF;rw[if_pos h1,if_pos h1]
  have Hb:=ah hb;clear hb;go_enter Tryz.func107,Tryz.ntmps107;go_wp2_with fail;refine (XV g h l _ (48+s) 8 w r hl (by omega) (by omega) (by omega)).mono ?_;rintro e w1 ⟨rfl,t1⟩;go_wp2_with fail;go_end0
  rw[Hb.out];exact ⟨rfl,t1⟩
 ·by_cases h2:s<256
  ·have hb:aK s=ak (256+s) 9:=by unfold aK yZ qF;rw[if_neg h1,if_neg h1,if_pos h2,if_pos h2]
   have Hb:=ah hb;clear hb;go_enter Tryz.func107,Tryz.ntmps107;go_wp2_with fail;refine (XV g h l _ (256+s) 9 w r hl (by omega) (by omega) (by omega)).mono ?_;rintro e w1 ⟨rfl,t1⟩;go_wp2_with fail;go_end0
   rw[Hb.out];exact ⟨rfl,t1⟩
  ·by_cases h3:s<280
   ·have hb:aK s=ak (s-256) 7:=by unfold aK yZ qF;rw[if_neg h1,if_neg h1,if_neg h2,if_neg h2,if_pos h3,if_pos h3]
    have Hb:=ah hb;clear hb;go_enter Tryz.func107,Tryz.ntmps107;go_wp2_with fail;refine (XV g h l _ (s-256) 7 w r hl (by omega) (by omega) (by omega)).mono ?_;rintro e w1 ⟨rfl,t1⟩;go_wp2_with fail;go_end0
    rw[Hb.out];exact ⟨rfl,t1⟩
   ·have hb:aK s=ak (s-88) 8:=by unfold aK yZ qF;rw[if_neg h1,if_neg h1,if_neg h2,if_neg h2,if_neg h3,if_neg h3]
    have Hb:=ah hb;clear hb;go_enter Tryz.func107,Tryz.ntmps107;go_wp2_with fail;refine (XV g h l _ (s-88) 8 w r hl (by omega) (by omega) (by omega)).mono ?_;rintro e w1 ⟨rfl,t1⟩;go_wp2_with fail;go_end0
    rw[Hb.out];exact ⟨rfl,t1⟩
theorem JE (s:Nat):(aK s).length<=9:=by
 unfold aK qF;rw[z03];split
 ·omega
 ·split
  ·omega
  ·split<;>omega
theorem nO (n:Nat):(jX n).length<=30:=by
 unfold jX;split
 ·exact Nat.le_trans (JE _) (by omega)
 ·split
  ·exact Nat.le_trans (JE _) (by omega)
  ·rw[List.length_append,Jo]
   have h1:=JE (257+4 * iL (n-3)+(n-3) / 2 ^ iL (n-3));have h2:=(JO (b:=8) (m:=n-3) 9 1).2;unfold iL at *;omega
def UpL (w:World) (b m x0 f0 xm:Nat) (s:Value) (wr:World):Prop:=∃(x f:Nat),s=.int .i64 (x:Int)/\x+f=x0+f0/\x<=xm/\wr=w/\Hid (jJ b m f0 x0=jJ b m f x)
set_option maxRecDepth 100000 in
theorem ZB (g:Nat) (h:Option Nat) (l:List Bool) (n d:Nat) (w:World) (r:ig w g h l) (hl:l.length<=999999990000) (hn3:3<=n) (hn:n<=258) (hd1:1<=d) (hd:d<=32768):
 Calls Tryz.prog 108 #[.pointer (some ⟨g,0,none⟩),.int .i64 (n:Int),.int .i64 (d:Int)] w fun e w'=>e=.returned (.tuple #[])/\gI w g h (l++(jX n++pX (d-1))) w':=by
 go_enter Tryz.func108,Tryz.ntmps108;go_upto_block 0 with fail
 go_cut [] (fun wx=>gI w g h (l++jX n) wx)
 case first=>
  by_cases h258:n=258
  ·subst h258
   have hb:jX 258=aK 285:=rfl;have Hb:=ah hb;clear hb;go_wp2_with fail;refine (OT g h l 285 w r (by omega) (by omega)).mono ?_;rintro e w1 ⟨rfl,t1⟩;go_wp2_with fail;go_meet
   rw[Hb.out];exact t1
  ·have hq:((n:Int)==258)=false:=by rw[beq_eq_false_iff_ne];omega
   by_cases h11:n<11
   ·have hb:jX n=aK (254+n):=by unfold jX;rw[if_neg h258,if_pos h11]
    have Hb:=ah hb;have hc:(254:Int)+(n:Int)=((254+n:Nat):Int):=(by omega);clear hb;obtain ⟨s,hs⟩:∃s,254+n=s:=⟨_,rfl⟩;rw[hs]at hc Hb;have hs2:s<288:=(by omega);clear hs;go_wp2_with fail;refine (OT g h l s w r (by omega) hs2).mono ?_;rintro e w1 ⟨rfl,t1⟩;go_wp2_with fail;go_meet
    rw[Hb.out];exact t1
   ·obtain ⟨m,hm⟩:∃m,n-3=m:=⟨_,rfl⟩
    have hb:jX n=aK (257+4 * iL m+m / 2 ^ iL m)++numBits m (iL m):=by unfold jX;rw[if_neg h258,if_neg h11,hm]
    have Hb:=ah hb;have hc:(n:Int)-3=(m:Int):=(by omega);have hm1:m<=254:=(by omega);have kw:IntKind.i64.wrap (m:Int)=(m:Int):=IntWalk.i64_in _ (by omega);clear hb hm;go_wp2_with fail;go_loopw [6] (UpL w 8 m 1 9 5) (fun x _=>10-(intOf x).toNat)
    case atStart=>exact ⟨1,9,rfl,rfl,by omega,rfl,ah rfl⟩
    case round=>
     obtain ⟨x,f,rfl,hxf,hx5,iC,Hu⟩:=hrel;rw[iC];clear iC;obtain ⟨pw,hpw⟩:∃pw,8 * 2 ^ x=pw:=⟨_,rfl⟩;have hp1:2 ^ x<=2 ^ 5:=Nat.pow_le_pow_right (by omega) hx5;have hp2:(8:Int) * 2 ^ x=(pw:Int):=by rw[←hpw];simp
     have kp:IntKind.i64.wrap (pw:Int)=(pw:Int):=IntWalk.i64_in _ (by omega);have hx64:(x:Int)<64:=(by omega);have hx0:(0:Int)<=(x:Int):=(by omega);by_cases hge:pw<=m
     ·have hx4:x<=4:=by
       rcases Nat.lt_or_ge 4 x with h5|h5
       ·have:=Nat.pow_le_pow_right (show 0<2 by omega) h5
        simp only[Nat.succ_eq_add_one]at this;omega
       ·exact h5
      obtain ⟨f,rfl⟩:∃f',f=f'+1:=⟨f-1,by omega⟩;have Hu2:Hid (jJ 8 m 9 1=jJ 8 m f (x+1)):=ah (by rw[Hu.out,jJ,if_pos (by rw[hpw];exact hge)]);have Ip:(pw:Int)<=(m:Int):=(by omega);clear Hu hpw hp1;go_wp2_with fail;go_roundw
      case rel=>exact ⟨x+1,f,by go_num,by omega,by omega,rfl,Hu2⟩
      case measure=>simp[intOf];omega
     ·have hX:iL m=x:=by
       unfold iL;rw[Hu.out];cases f with
       |zero=>rfl
       |succ f=>rw[jJ,if_neg (by rw[hpw];exact hge)]
      rw[hX]at Hb;have Ip:¬((pw:Int)<=(m:Int)):=(by omega);obtain ⟨q,hq2⟩:∃q,m / 2 ^ x=q:=⟨_,rfl⟩;have hdv:(m:Int) / 2 ^ x=(q:Int):=by rw[←hq2];simp
      have hq8:q<8:=by rw[←hq2];exact Nat.div_lt_of_lt_mul (by rw[Nat.mul_comm];omega)
      rw[hq2]at Hb;obtain ⟨s,hs⟩:∃s,257+4 * x+q=s:=⟨_,rfl⟩;have hc2:(257:Int)+4 * (x:Int)+(q:Int)=(s:Int):=(by omega);have hs2:s<288:=(by omega);rw[hs]at Hb;clear Hu hpw hp1 hX hq2 hs;go_wp2_with fail;refine (OT g h l s w r (by omega) hs2).mono ?_;rintro e w1 ⟨rfl,t1⟩;obtain ⟨h1,r1,q1,c1⟩:=t1;go_wp2_with fail;refine (Rz g h1 _ m x w1 r1 (by rw[List.length_append];have:=JE s;omega) (by omega) (by omega)).mono ?_;rintro e w2 ⟨rfl,t2⟩;have t3:=gI.next q1 c1 t2;go_wp2_with fail;go_meet
      rw[Hb.out,←List.append_assoc];exact t3
 case rest=>
  obtain ⟨h5,r5,q5,c5⟩:=hcut;obtain ⟨w5,rfl⟩:∃w5:World,w5=wc:=⟨_,rfl⟩;have hl5:(l++jX n).length<=999999990030:=by rw[List.length_append];have:=nO n;omega
  obtain ⟨m,hm⟩:∃m,d-1=m:=⟨_,rfl⟩;have hc:(d:Int)-1=(m:Int):=by omega
  have hm1:m<32768:=by omega
  have kw:IntKind.i64.wrap (m:Int)=(m:Int):=IntWalk.i64_in _ (by omega);obtain ⟨l5,hle⟩:∃l5,l++jX n=l5:=⟨_,rfl⟩;rw[hle]at r5 hl5;have Hm:=ah hm;have TK:=ah hle;clear hm hle;by_cases h2:m<2
  ·have hb:pX m=ak m 5:=by unfold pX;rw[if_pos h2]
   have Hb:=ah hb;clear hb;go_wp2_with fail;refine (uh g h5 l5 m 5 w5 r5 (by omega) (by omega) (by omega)).mono ?_;rintro e w6 ⟨rfl,t6⟩;have t7:=gI.next q5 c5 t6;go_wp2_with fail;refine bodyPost_ret (results_none rfl _ _ _) rfl ?_;rw[Hm.out,←List.append_assoc,TK.out,Hb.out];exact ⟨rfl,t7⟩
  ·have hb:pX m=ak (2 * fJ m+m / 2 ^ fJ m) 5++numBits m (fJ m):=by unfold pX;rw[if_neg h2]
   have Hb:=ah hb;clear hb;go_wp2_with fail;go_loopw [7] (UpL w5 4 m 0 20 13) (fun x _=>20-(intOf x).toNat)
   case atStart=>exact ⟨0,20,rfl,rfl,by omega,rfl,ah rfl⟩
   case round=>
    obtain ⟨x,f,rfl,hxf,hx5,iC,Hu⟩:=hrel;rw[iC];clear iC;obtain ⟨pw,hpw⟩:∃pw,4 * 2 ^ x=pw:=⟨_,rfl⟩;have hp1:2 ^ x<=2 ^ 13:=Nat.pow_le_pow_right (by omega) hx5;have hp2:(4:Int) * 2 ^ x=(pw:Int):=by rw[←hpw];simp
    have kp:IntKind.i64.wrap (pw:Int)=(pw:Int):=IntWalk.i64_in _ (by omega);have hx64:(x:Int)<64:=(by omega);have hx0:(0:Int)<=(x:Int):=(by omega);by_cases hge:pw<=m
    ·have hx4:x<=12:=by
      rcases Nat.lt_or_ge 12 x with h5|h5
      ·have:=Nat.pow_le_pow_right (show 0<2 by omega) h5
       simp only[Nat.succ_eq_add_one]at this;omega
      ·exact h5
     obtain ⟨f,rfl⟩:∃f',f=f'+1:=⟨f-1,by omega⟩;have Hu2:Hid (jJ 4 m 20 0=jJ 4 m f (x+1)):=ah (by rw[Hu.out,jJ,if_pos (by rw[hpw];exact hge)]);have Ip:(pw:Int)<=(m:Int):=(by omega);clear Hu hpw hp1;go_wp2_with fail;go_roundw
     case rel=>exact ⟨x+1,f,by go_num,by omega,by omega,rfl,Hu2⟩
     case measure=>simp[intOf];omega
    ·have hX:fJ m=x:=by
      unfold fJ;rw[Hu.out];cases f with
      |zero=>rfl
      |succ f=>rw[jJ,if_neg (by rw[hpw];exact hge)]
     rw[hX]at Hb;have Ip:¬((pw:Int)<=(m:Int)):=(by omega);obtain ⟨q,hq2⟩:∃q,m / 2 ^ x=q:=⟨_,rfl⟩;have hdv:(m:Int) / 2 ^ x=(q:Int):=by rw[←hq2];simp
     have hq8:q<4:=by rw[←hq2];exact Nat.div_lt_of_lt_mul (by rw[Nat.mul_comm];omega)
     rw[hq2]at Hb;obtain ⟨s,hs⟩:∃s,2 * x+q=s:=⟨_,rfl⟩;have hc2:(2:Int) * (x:Int)+(q:Int)=(s:Int):=(by omega);have hs2:s<32:=(by omega);rw[hs]at Hb;clear Hu hpw hp1 hX hq2 hs;go_wp2_with fail;refine (uh g h5 l5 s 5 w5 r5 (by omega) (by omega) (by omega)).mono ?_;rintro e w6 ⟨rfl,t6⟩;have t7:=gI.next q5 c5 t6;obtain ⟨h7,r7,q7,c7⟩:=t7;go_wp2_with fail;refine (Rz g h7 _ m x w6 r7 (by rw[List.length_append,z03];omega) (by omega) (by omega)).mono ?_;rintro e w8 ⟨rfl,t8⟩;have t9:=gI.next q7 c7 t8;go_wp2_with fail;go_end0
     rw[Hm.out,←List.append_assoc,TK.out,Hb.out,←List.append_assoc];exact ⟨rfl,t9⟩
end Go.Proofs.YtfljcllpmbnjaaaGreat
