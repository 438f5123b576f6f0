/- Contracts and plain laws that the last text rests on. Conditions: each theorem states its own. -/
import Derived.Test.YtpakjclpjcngmaaGreatKbQ15
import Derived.Test.YtpakjclpjcngmaaGreatKbQ1
import Derived.IntWalk
import Derived.Deep.CutBlock
import Derived.Deep.DeepCutAuto
import Derived.Test.YtpakjclpjcngmaaGreatKbQ14
set_option maxRecDepth 100000
set_option maxHeartbeats 4000000
set_option linter.unusedVariables false
namespace Go.Proofs.YtpakjclpjcngmaaGreat
open Go.RowKit
theorem z2X (g:Nat) (h:Option Nat) (l:List Bool) (X:Int) (v n:Nat) (w:World) (r:iU w g h l) (hl:l.length<=999999999000) (hX:X=(v:Int)) (hv:v<4294967296) (hn:n<=16):
 Calls Tryz.prog 296 #[.pointer (some ⟨g,0,none⟩),.int .u32 X,.int .i64 (n:Int)] w fun e w'=>e=.returned (.int .i64 0)/\ig w g h (l++aC v n) w':=by
 subst hX;exact vM g h l v n w r hl hv hn
set_option maxRecDepth 100000 in
theorem Rt (g:Nat) (h:Option Nat) (l:List Bool) (s:Nat) (w:World) (r:iU w g h l) (hl:l.length<=999999999000) (hs:s<288):
 Calls Tryz.prog 261 #[.pointer (some ⟨g,0,none⟩),.int .i64 (s:Int)] w fun e w'=>e=.returned (.tuple #[])/\ig w g h (l++bG s) w':=by
 by_cases h1:s<144
 ·have hb:bG s=aC (48+s) 8:=by unfold bG NM JB;rw[if_pos h1,if_pos h1]
  have Hb:=ah hb;clear hb;go_enter Tryz.func261,Tryz.ntmps261;go_wp2_with fail;refine (z2X g h l _ (48+s) 8 w r hl (by omega) (by omega) (by omega)).mono ?_;rintro e w1 ⟨rfl,t1⟩;go_wp2_with fail;go_end0
  rw[Hb.out];exact ⟨rfl,t1⟩
 ·by_cases h2:s<256
  ·have hb:bG s=aC (256+s) 9:=by unfold bG NM JB;rw[if_neg h1,if_neg h1,if_pos h2,if_pos h2]
   have Hb:=ah hb;clear hb;go_enter Tryz.func261,Tryz.ntmps261;go_wp2_with fail;refine (z2X g h l _ (256+s) 9 w r hl (by omega) (by omega) (by omega)).mono ?_;rintro e w1 ⟨rfl,t1⟩;go_wp2_with fail;go_end0
   rw[Hb.out];exact ⟨rfl,t1⟩
  ·by_cases h3:s<280
   ·have hb:bG s=aC (s-256) 7:=by unfold bG NM JB;rw[if_neg h1,if_neg h1,if_neg h2,if_neg h2,if_pos h3,if_pos h3]
    have Hb:=ah hb;clear hb;go_enter Tryz.func261,Tryz.ntmps261;go_wp2_with fail;refine (z2X g h l _ (s-256) 7 w r hl (by omega) (by omega) (by omega)).mono ?_;rintro e w1 ⟨rfl,t1⟩;go_wp2_with fail;go_end0
    rw[Hb.out];exact ⟨rfl,t1⟩
   ·have hb:bG s=aC (s-88) 8:=by unfold bG NM JB;rw[if_neg h1,if_neg h1,if_neg h2,if_neg h2,if_neg h3,if_neg h3]
    have Hb:=ah hb;clear hb;go_enter Tryz.func261,Tryz.ntmps261;go_wp2_with fail;refine (z2X g h l _ (s-88) 8 w r hl (by omega) (by omega) (by omega)).mono ?_;rintro e w1 ⟨rfl,t1⟩;go_wp2_with fail;go_end0
    rw[Hb.out];exact ⟨rfl,t1⟩
theorem LC (s:Nat):(bG s).length<=9:=by
 unfold bG JB;rw[Ld];split
 ·omega
 ·split
  ·omega
  ·split<;>omega
theorem pK (n:Nat):(yh n).length<=30:=by
 unfold yh;split
 ·exact Nat.le_trans (LC _) (by omega)
 ·split
  ·exact Nat.le_trans (LC _) (by omega)
  ·rw[List.length_append,YU]
   have h1:=LC (257+4 * pJ (n-3)+(n-3) / 2 ^ pJ (n-3));have h2:=(LH (b:=8) (m:=n-3) 9 1).2;unfold pJ at *;omega
def UpL (w:World) (b m x0 f0 xm:Nat) (s:Value) (wr:World):Prop:=∃(x f:Nat),s=.int .i64 (x:Int)/\x+f=x0+f0/\x<=xm/\wr=w/\Hid (vP b m f0 x0=vP b m f x)
set_option maxRecDepth 100000 in
theorem z3x (g:Nat) (h:Option Nat) (l:List Bool) (n d:Nat) (w:World) (r:iU w g h l) (hl:l.length<=999999990000) (hn3:3<=n) (hn:n<=258) (hd1:1<=d) (hd:d<=32768):
 Calls Tryz.prog 262 #[.pointer (some ⟨g,0,none⟩),.int .i64 (n:Int),.int .i64 (d:Int)] w fun e w'=>e=.returned (.tuple #[])/\ig w g h (l++(yh n++CY (d-1))) w':=by
 go_enter Tryz.func262,Tryz.ntmps262;go_upto_block 0 with fail
 go_cut [] (fun wx=>ig w g h (l++yh n) wx)
 case first=>
  by_cases h258:n=258
  ·subst h258
   have hb:yh 258=bG 285:=rfl;have Hb:=ah hb;clear hb;go_wp2_with fail;refine (Rt g h l 285 w r (by omega) (by omega)).mono ?_;rintro e w1 ⟨rfl,t1⟩;go_wp2_with fail;go_meet
   rw[Hb.out];exact t1
  ·have hq:((n:Int)==258)=false:=by rw[beq_eq_false_iff_ne];omega
   by_cases h11:n<11
   ·have hb:yh n=bG (254+n):=by unfold yh;rw[if_neg h258,if_pos h11]
    have Hb:=ah hb;have hc:(254:Int)+(n:Int)=((254+n:Nat):Int):=(by omega);clear hb;obtain ⟨s,hs⟩:∃s,254+n=s:=⟨_,rfl⟩;rw[hs]at hc Hb;have hs2:s<288:=(by omega);clear hs;go_wp2_with fail;refine (Rt g h l s w r (by omega) hs2).mono ?_;rintro e w1 ⟨rfl,t1⟩;go_wp2_with fail;go_meet
    rw[Hb.out];exact t1
   ·obtain ⟨m,hm⟩:∃m,n-3=m:=⟨_,rfl⟩
    have hb:yh n=bG (257+4 * pJ m+m / 2 ^ pJ m)++numBits m (pJ m):=by unfold yh;rw[if_neg h258,if_neg h11,hm]
    have Hb:=ah hb;have hc:(n:Int)-3=(m:Int):=(by omega);have hm1:m<=254:=(by omega);have kw:IntKind.i64.wrap (m:Int)=(m:Int):=IntWalk.i64_in _ (by omega);clear hb hm;go_wp2_with fail;go_loopw [6] (UpL w 8 m 1 9 5) (fun x _=>10-(intOf x).toNat)
    case atStart=>exact ⟨1,9,rfl,rfl,by omega,rfl,ah rfl⟩
    case round=>
     obtain ⟨x,f,rfl,hxf,hx5,jy,Hu⟩:=hrel;rw[jy];clear jy;obtain ⟨pw,hpw⟩:∃pw,8 * 2 ^ x=pw:=⟨_,rfl⟩;have hp1:2 ^ x<=2 ^ 5:=Nat.pow_le_pow_right (by omega) hx5;have hp2:(8:Int) * 2 ^ x=(pw:Int):=by rw[←hpw];simp
     have kp:IntKind.i64.wrap (pw:Int)=(pw:Int):=IntWalk.i64_in _ (by omega);have hx64:(x:Int)<64:=(by omega);have hx0:(0:Int)<=(x:Int):=(by omega);by_cases hge:pw<=m
     ·have hx4:x<=4:=by
       rcases Nat.lt_or_ge 4 x with h5|h5
       ·have:=Nat.pow_le_pow_right (show 0<2 by omega) h5
        simp only[Nat.succ_eq_add_one]at this;omega
       ·exact h5
      obtain ⟨f,rfl⟩:∃f',f=f'+1:=⟨f-1,by omega⟩;have Hu2:Hid (vP 8 m 9 1=vP 8 m f (x+1)):=ah (by rw[Hu.out,vP,if_pos (by rw[hpw];exact hge)]);have Tq:(pw:Int)<=(m:Int):=(by omega);clear Hu hpw hp1;go_wp2_with fail;go_roundw
      case rel=>exact ⟨x+1,f,by go_num,by omega,by omega,rfl,Hu2⟩
      case measure=>simp[intOf];omega
     ·have hX:pJ m=x:=by
       unfold pJ;rw[Hu.out];cases f with
       |zero=>rfl
       |succ f=>rw[vP,if_neg (by rw[hpw];exact hge)]
      rw[hX]at Hb;have Tq:¬((pw:Int)<=(m:Int)):=(by omega);obtain ⟨q,hq2⟩:∃q,m / 2 ^ x=q:=⟨_,rfl⟩;have hdv:(m:Int) / 2 ^ x=(q:Int):=by rw[←hq2];simp
      have hq8:q<8:=by rw[←hq2];exact Nat.div_lt_of_lt_mul (by rw[Nat.mul_comm];omega)
      rw[hq2]at Hb;obtain ⟨s,hs⟩:∃s,257+4 * x+q=s:=⟨_,rfl⟩;have hc2:(257:Int)+4 * (x:Int)+(q:Int)=(s:Int):=(by omega);have hs2:s<288:=(by omega);rw[hs]at Hb;clear Hu hpw hp1 hX hq2 hs;go_wp2_with fail;refine (Rt g h l s w r (by omega) hs2).mono ?_;rintro e w1 ⟨rfl,t1⟩;obtain ⟨h1,r1,q1,c1⟩:=t1;go_wp2_with fail;refine (VR g h1 _ m x w1 r1 (by rw[List.length_append];have:=LC s;omega) (by omega) (by omega)).mono ?_;rintro e w2 ⟨rfl,t2⟩;have t3:=ig.next q1 c1 t2;go_wp2_with fail;go_meet
      rw[Hb.out,←List.append_assoc];exact t3
 case rest=>
  obtain ⟨h5,r5,q5,c5⟩:=hcut;obtain ⟨w5,rfl⟩:∃w5:World,w5=wc:=⟨_,rfl⟩;have hl5:(l++yh n).length<=999999990030:=by rw[List.length_append];have:=pK n;omega
  obtain ⟨m,hm⟩:∃m,d-1=m:=⟨_,rfl⟩;have hc:(d:Int)-1=(m:Int):=by omega
  have hm1:m<32768:=by omega
  have kw:IntKind.i64.wrap (m:Int)=(m:Int):=IntWalk.i64_in _ (by omega);obtain ⟨l5,hle⟩:∃l5,l++yh n=l5:=⟨_,rfl⟩;rw[hle]at r5 hl5;have Hm:=ah hm;have Hle:=ah hle;clear hm hle;by_cases h2:m<2
  ·have hb:CY m=aC m 5:=by unfold CY;rw[if_pos h2]
   have Hb:=ah hb;clear hb;go_wp2_with fail;refine (vM g h5 l5 m 5 w5 r5 (by omega) (by omega) (by omega)).mono ?_;rintro e w6 ⟨rfl,t6⟩;have t7:=ig.next q5 c5 t6;go_wp2_with fail;refine bodyPost_ret (results_none rfl _ _ _) rfl ?_;rw[Hm.out,←List.append_assoc,Hle.out,Hb.out];exact ⟨rfl,t7⟩
  ·have hb:CY m=aC (2 * jH m+m / 2 ^ jH m) 5++numBits m (jH m):=by unfold CY;rw[if_neg h2]
   have Hb:=ah hb;clear hb;go_wp2_with fail;go_loopw [7] (UpL w5 4 m 0 20 13) (fun x _=>20-(intOf x).toNat)
   case atStart=>exact ⟨0,20,rfl,rfl,by omega,rfl,ah rfl⟩
   case round=>
    obtain ⟨x,f,rfl,hxf,hx5,jy,Hu⟩:=hrel;rw[jy];clear jy;obtain ⟨pw,hpw⟩:∃pw,4 * 2 ^ x=pw:=⟨_,rfl⟩;have hp1:2 ^ x<=2 ^ 13:=Nat.pow_le_pow_right (by omega) hx5;have hp2:(4:Int) * 2 ^ x=(pw:Int):=by rw[←hpw];simp
    have kp:IntKind.i64.wrap (pw:Int)=(pw:Int):=IntWalk.i64_in _ (by omega);have hx64:(x:Int)<64:=(by omega);have hx0:(0:Int)<=(x:Int):=(by omega);by_cases hge:pw<=m
    ·have hx4:x<=12:=by
      rcases Nat.lt_or_ge 12 x with h5|h5
      ·have:=Nat.pow_le_pow_right (show 0<2 by omega) h5
       simp only[Nat.succ_eq_add_one]at this;omega
      ·exact h5
     obtain ⟨f,rfl⟩:∃f',f=f'+1:=⟨f-1,by omega⟩;have Hu2:Hid (vP 4 m 20 0=vP 4 m f (x+1)):=ah (by rw[Hu.out,vP,if_pos (by rw[hpw];exact hge)]);have Tq:(pw:Int)<=(m:Int):=(by omega);clear Hu hpw hp1;go_wp2_with fail;go_roundw
     case rel=>exact ⟨x+1,f,by go_num,by omega,by omega,rfl,Hu2⟩
     case measure=>simp[intOf];omega
    ·have hX:jH m=x:=by
      unfold jH;rw[Hu.out];cases f with
      |zero=>rfl
      |succ f=>rw[vP,if_neg (by rw[hpw];exact hge)]
     rw[hX]at Hb;have Tq:¬((pw:Int)<=(m:Int)):=(by omega);obtain ⟨q,hq2⟩:∃q,m / 2 ^ x=q:=⟨_,rfl⟩;have hdv:(m:Int) / 2 ^ x=(q:Int):=by rw[←hq2];simp
     have hq8:q<4:=by rw[←hq2];exact Nat.div_lt_of_lt_mul (by rw[Nat.mul_comm];omega)
     rw[hq2]at Hb;obtain ⟨s,hs⟩:∃s,2 * x+q=s:=⟨_,rfl⟩;have hc2:(2:Int) * (x:Int)+(q:Int)=(s:Int):=(by omega);have hs2:s<32:=(by omega);rw[hs]at Hb;clear Hu hpw hp1 hX hq2 hs;go_wp2_with fail;refine (vM g h5 l5 s 5 w5 r5 (by omega) (by omega) (by omega)).mono ?_;rintro e w6 ⟨rfl,t6⟩;have t7:=ig.next q5 c5 t6;obtain ⟨h7,r7,q7,c7⟩:=t7;go_wp2_with fail;refine (VR g h7 _ m x w6 r7 (by rw[List.length_append,Ld];omega) (by omega) (by omega)).mono ?_;rintro e w8 ⟨rfl,t8⟩;have t9:=ig.next q7 c7 t8;go_wp2_with fail;go_end0
     rw[Hm.out,←List.append_assoc,Hle.out,Hb.out,←List.append_assoc];exact ⟨rfl,t9⟩
def QG (la n:Nat):List Nat:=[la,n % 256,n / 256,255-n % 256,255-n / 256]
def cO (xs:List Nat):List Nat:=QG 1 xs.length++xs
theorem FV:∀m:Nat,m<256->bits .xor .u8 (if IntKind.u8.signed=true then -1 else IntKind.u8.max) (m:Int)=((255-m:Nat):Int):=by decide+kernel
set_option maxRecDepth 100000 in
theorem IV (D:Nat->Prop) (A:Option Addr) (c:Nat) (xs:List Nat) (W:World) (hr:Rd W D 1 A xs.length (bl xs)) (hc:xs.length<=c) (hl:xs.length<=65535):
 Calls Tryz.prog 263 #[.slice A xs.length c] W fun e w'=>∃v,e=.returned v/\ak W w' 5 1 v (cO xs).length (bl (cO xs)):=by
 obtain ⟨i0,hi0,hz0,hz1,hz2⟩:=info_parts Tryz.info5;have HR:=ah hr;obtain ⟨len,hlen⟩:∃len,xs.length=len:=⟨_,rfl⟩;rw[hlen]at hc hl HR ⊢;have Hlen:=ah hlen;have hc1:(len:Int)<=(c:Int):=by omega
 obtain ⟨qa,hqa⟩:∃qa,len % 256=qa:=⟨_,rfl⟩;obtain ⟨qb,Xt⟩:∃qb,len / 256=qb:=⟨_,rfl⟩;have ha256:qa<256:=by omega
 have hb256:qb<256:=by omega
 have k1:IntKind.u8.wrap (len:Int)=(qa:Int):=by
  have:IntKind.u8.wrap (len:Int)=(len:Int) % 256:=by simp[IntKind.wrap,IntKind.bits,IntKind.signed]
  omega
 have k2:(len:Int) / 256=(qb:Int):=by omega
 have k3:IntKind.u8.wrap (qb:Int)=(qb:Int):=by
  have:IntKind.u8.wrap (qb:Int)=(qb:Int) % 256:=by simp[IntKind.wrap,IntKind.bits,IntKind.signed]
  omega
 have Hqa:=ah hqa;have Hqb:=ah Xt;clear hqa Xt;clear hr hlen;go_enter Tryz.func263,Tryz.ntmps263;go_wp2_with fail;refine wp_loop_rounds 1 ?_;rw[rounds_succ];go_upto_region 2 with fail
 go_cut [4] (fun s4 wx=>s4=.int .i64 (len:Int)/\wx=W)
 case first=>
  go_wp2_with fail
  all_goals go_meet
  all_goals exact ⟨by first|rfl|(congr 1;omega),rfl⟩
 case rest=>
  obtain ⟨rfl,hw⟩:=hcut;rw[hw];clear hw;go_upto_region 6 with fail
  have T0:=ak.nil W (W.alloc (.cells #[.int .u8 1,.int .u8 (qa:Int),.int .u8 (qb:Int),.int .u8 (bits .xor .u8 (if IntKind.u8.signed=true then -1 else IntKind.u8.max) (qa:Int)),.int .u8 (bits .xor .u8 (if IntKind.u8.signed=true then -1 else IntKind.u8.max) (qb:Int))] 5)) 5 1 ((Ch.refl _ W).alloc _)
  have iZ:Rd (W.alloc (.cells #[.int .u8 1,.int .u8 (qa:Int),.int .u8 (qb:Int),.int .u8 (bits .xor .u8 (if IntKind.u8.signed=true then -1 else IntKind.u8.max) (qa:Int)),.int .u8 (bits .xor .u8 (if IntKind.u8.signed=true then -1 else IntKind.u8.max) (qb:Int))] 5)) (fun k=>k=W.heap.size) 1 (some ⟨W.heap.size,0,none⟩) 5 (bl [1,qa,qb,255-qa,255-qb]):=
   ⟨rfl,fun _=>⟨_,rfl,rfl,by rw[FV qa ha256,FV qb hb256];exact World.news_of_block (aG.new W 5 #[.int .u8 1,.int .u8 (qa:Int),.int .u8 (qb:Int),.int .u8 ((255-qa:Nat):Int),.int .u8 ((255-qb:Nat):Int)])⟩⟩
  have HR5:=ah iZ;clear iZ
  go_wp2_with (at_builtin;first
   |(refine z05 rfl (.tmp 13) (.tmp 27) _ rfl 5 i0 _ 1 1 Tryz.underlying26 hi0 hz0 hz1 hz2 rfl (by omega) rfl T0 _ (some ⟨W.heap.size,0,none⟩) 5 5 (bl [1,qa,qb,255-qa,255-qb]) rfl HR5.out (iL _) (by simp[maxLen]) (by omega) ?_;intro v3 w3 o3 m3)
   |(refine z05 rfl (.tmp 29) (.tmp 32) _ rfl 5 i0 _ 1 1 Tryz.underlying26 hi0 hz0 hz1 hz2 rfl (by omega) rfl o3 _ A len c (bl xs) rfl (HR.out.nx (by decide) o3.nx) (iL _) (by simp only[maxLen];omega) (by omega) ?_;intro v4 w4 o4 m4))
  all_goals go_ret
  all_goals
   refine ⟨_,rfl,?_⟩;have e1:(cO xs).length=0+5+len:=by simp[cO,QG,Hlen.out];omega
   have e2:bl (cO xs)=[]++bl [1,qa,qb,255-qa,255-qb]++bl xs:=(by simp[cO,QG,Hlen.out,Hqa.out,Hqb.out,bl]);rw[e1,e2];exact o4
theorem RH (l:List Tok):(lI l).length=3 * l.length:=by
 induction l with
 |nil=>rfl
 |cons t l ih=>
  have e:lI (t::l)=dD t++lI l:=rfl;rw[e,List.length_append,ih,List.length_cons];simp[dD];omega
theorem nM {l:List Tok} {k:Nat} (h:k<l.length) (j:Nat) (hj:j<3):(lI l)[3 * k+j]?=(dD l[k])[j]?:=by
 have e:l=l.take k++l[k]::l.drop (k+1):=by rw[←List.drop_eq_getElem_cons h,List.take_append_drop]
 have e3:∀(a:List Tok) (t:Tok) (b:List Tok),lI (a++t::b)=lI a++(dD t++lI b):=fun a t b=>by simp[lI]
 have e2:=e3 (l.take k) l[k] (l.drop (k+1));have hl:(lI (l.take k)).length=3 * k:=by rw[RH,List.length_take,Nat.min_eq_left (by omega)]
 rw[←e]at e2;rw[e2,List.getElem?_append_right (by omega),hl,show 3 * k+j-3 * k=j by omega,List.getElem?_append_left (by simp[dD];exact hj)]
theorem z33 {w:World} {B:Nat} {e:TypeId} {g c n:Nat} {l:List Tok} {k q:Nat} (h:w.ownsRow B e 3 (.slice (some ⟨g,0,none⟩) n c) n (lI l)) (hk:k<l.length) (hq:3 * k=q):
 w.cell? ⟨g,q,none⟩=some (.int .i64 (l[k].len:Int))/\w.cell? ⟨g,q+1,none⟩=some (.int .i64 (l[k].dist:Int))/\w.cell? ⟨g,q+2,none⟩=some (.int .u8 (l[k].byte:Int)):=by
 have adz:∀j,Addr.add ⟨g,0,none⟩ j=⟨g,j,none⟩:=fun j=>by
  unfold Addr.add;by_cases hj:j=0
  ·rw[if_pos hj,hj]
  ·rw[if_neg hj];simp
 have hc:=h.cells (g:=g) rfl;have e0:=hc _ _ (nM hk 0 (by omega));have e1:=hc _ _ (nM hk 1 (by omega));have e2:=hc _ _ (nM hk 2 (by omega));rw[adz,hq]at e0 e1 e2;exact ⟨e0,e1,e2⟩
def aaY (t:Tok):Prop:=(t.len=0/\t.byte<256)∨(3<=t.len/\t.len<=258/\1<=t.dist/\t.dist<=32768)
theorem z2u {xs:List Nat} (ok:okB xs):∀f p,∀t∈aI xs f p,aaY t:=by
 intro f;induction f with
 |zero=>intro p t h;cases h
 |succ f ih=>
  intro p t h;rw[aI]at h;split at h
  ·cases h
  ·rcases List.mem_cons.1 h with h|h
   ·subst h
    rcases z3G xs p with e|e
    ·rw[e];exact .inl ⟨rfl,z16 ok p⟩
    ·exact .inr ⟨e.1,e.2.1,e.2.2.1,e.2.2.2.1⟩
   ·exact ih _ t h
theorem AQ (e:Nat):(CY e).length<=30:=by
 unfold CY;split
 ·rw[Ld];omega
 ·rw[List.length_append,YU,Ld]
  have h2:=(LH (b:=4) (m:=e) 20 0).2;unfold jH;omega
theorem Dn (t:Tok):(qU t).length<=60:=by
 unfold qU;split
 ·exact Nat.le_trans (LC _) (by omega)
 ·rw[List.length_append];have:=pK t.len;have:=AQ (t.dist-1);omega
theorem z2f (l:List Tok):(bP l).length<=3+60 * l.length:=by
 unfold bP;rw[List.length_append,YU]
 have:(l.flatMap qU).length<=60 * l.length:=by
  induction l with
  |nil=>simp
  |cons t l ih=>
   have:=Dn t;rw[List.flatMap_cons,List.length_append,List.length_cons];omega
 omega
theorem z1w {l:List Tok} {k:Nat} (h:k<l.length):bP (l.take (k+1))=bP (l.take k)++qU l[k]:=by
 rw[List.take_succ_eq_append_getElem h];unfold bP;rw[List.flatMap_append,List.append_assoc];simp
def cZ (xs:List Nat):List Nat:=if (pack (aV (aI xs xs.length 0))).length<(cO xs).length then pack (aV (aI xs xs.length 0)) else cO xs
def fO (W w:World) (g:Nat) (l:List Bool):Prop:=∃h,iU w g h l/\(∀j,h=some j->W.heap.size<=j)/\Nx W w
theorem fO.next {W w w1:World} {g:Nat} {h:Option Nat} {l2:List Bool} (n:Nx W w) (hg:W.heap.size<=g) (hh:∀j,h=some j->W.heap.size<=j) (t:ig w g h l2 w1):fO W w1 g l2:=by
 obtain ⟨h1,r1,q1,c1⟩:=t;exact ⟨h1,r1,WS n.size hh q1,aah n c1 hg hh⟩
set_option maxRecDepth 100000 in
theorem DJ (D:Nat->Prop) (A:Option Addr) (c:Nat) (xs:List Nat) (W:World) (hr:Rd W D 1 A xs.length (bl xs)) (ok:okB xs) (hc:xs.length<=c) (hl:xs.length<=65535):
 Calls Tryz.prog 214 #[.slice A xs.length c] W fun e w'=>∃A' c',e=.returned (.tuple #[.slice A' (cZ xs).length c',.int .i64 0])/\(∃D',Rd w' D' 1 A' (cZ xs).length (bl (cZ xs)))/\Nx W w':=by
 go_enter Tryz.func214,Tryz.ntmps214;go_wp2_with fail;refine (z4y D A c xs W hr ok (by omega)).mono ?_;rintro e w1 ⟨v,rfl,ho,n1⟩;have hr1:=hr.nx (by decide) n1;have htl:=z2a (b:=xs) xs.length 0;have htok:=z2u ok xs.length 0;have HD:Hid (cZ xs=if (pack (aV (aI xs xs.length 0))).length<(cO xs).length then pack (aV (aI xs xs.length 0)) else cO xs):=ah rfl;generalize aI xs xs.length 0=l at *;obtain ⟨nt,hnt⟩:∃nt,l.length=nt:=⟨_,rfl⟩;rw[hnt]at ho htl;obtain ⟨A1,c1,rfl,_,_⟩:=z08 ho;have Qr:=ah hnt;have Ho:=ah ho;have xI:=ah htok;have hnew:=iU.new w1;have nw:Nx w1 (w1.alloc (.cells #[.slice none 0 0,.int .i64 0] 215)):=(Ch.refl _ w1).alloc _;obtain ⟨g,hg⟩:∃g,w1.heap.size=g:=⟨_,rfl⟩;have hg1:w1.heap.size<=g:=by omega
 rw[hg]at hnew;clear hnt ho htok;go_wp2_with fail;refine (VR g none [] 3 3 _ hnew (by simp) (by omega) (by omega)).mono ?_;rintro e w2 ⟨rfl,t2⟩;have h2:=fO.next nw hg1 (by intro j hj;cases hj) t2;clear t2 hnew nw;go_wp2_with fail;go_loopw [25] (fun i wr=>∃k:Nat,k<=nt/\i=.int .i64 (k:Int)/\fO w1 wr g (bP (l.take k))) (fun i _=>nt-(intOf i).toNat)
 case atStart=>exact ⟨0,Nat.zero_le _,rfl,by simpa [bP]using h2⟩
 case round=>
  clear h2;obtain ⟨w3,rfl⟩:∃w3:World,w3=wr:=⟨_,rfl⟩;obtain ⟨k,hk,rfl,h3,rw3,hh3,nx3⟩:=hrel
  have hl3:(bP (l.take k)).length<=10000000:=by
   have h1:=z2f (l.take k);have h2:(l.take k).length<=k:=by simp;omega
   omega
  by_cases hlt:k<nt
  ·have hkl:k<l.length:=by rw[Qr.out];exact hlt
   obtain ⟨g1,cap,hv,_,_⟩:=Ho.out.form (by omega);injection hv with hA hlq hcc;clear hlq;subst hA;subst hcc;obtain ⟨q,hq⟩:∃q,3 * k=q:=⟨_,rfl⟩;obtain ⟨a0,a1,a2⟩:=z33 (iq Ho.out nx3 (fun _ _ hf=>hf)) hkl hq;have hq':k * 3=q:=(by omega);have hlt2:(k:Int)<(nt:Int):=(by omega);have hk0:(0:Int)<=(k:Int):=(by omega);have iP:=ah (z1w hkl);have htk:=xI.out _ (List.getElem_mem hkl);clear hq;generalize l[k]=tk at *;obtain ⟨tb,htb⟩:∃tb,w3.heap.size=tb:=⟨_,rfl⟩;obtain ⟨w4,hw4⟩:∃w4,w3.alloc (.cells #[.int .i64 (tk.len:Int),.int .i64 (tk.dist:Int),.int .u8 (tk.byte:Int)] 302)=w4:=⟨_,rfl⟩;have n4:Nx w3 (w3.alloc (.cells #[.int .i64 (tk.len:Int),.int .i64 (tk.dist:Int),.int .u8 (tk.byte:Int)] 302)):=(Ch.refl _ w3).alloc _;have hB4:=aG.new w3 302 #[.int .i64 (tk.len:Int),.int .i64 (tk.dist:Int),.int .u8 (tk.byte:Int)];rw[hw4]at n4 hB4;rw[htb]at hB4;have HW:=ah hw4;have HT:=ah htb;have rw4:=rw3.ch n4 (fun hf=>hf) (fun _ _ hf=>hf);have nx4:=nx3.tr n4;clear htb hw4 rw3;go_upto_region 9 with fail
   try simp only[HT.out,HW.out]
   clear HT HW a0 a1 a2 n4 nx3;have d0:w4.cell? ⟨tb,0,none⟩=some (.int .i64 (tk.len:Int)):=hB4.cell 0;have d1:w4.cell? ⟨tb,1,none⟩=some (.int .i64 (tk.dist:Int)):=hB4.cell 1;have d2:w4.cell? ⟨tb,2,none⟩=some (.int .u8 (tk.byte:Int)):=hB4.cell 2;by_cases hz:tk.len=0
   ·have hb:qU tk=bG tk.byte:=by unfold qU;rw[if_pos hz]
    have Hb:=ah hb;have hby:tk.byte<256:=by rcases htk with h|h;exact h.2;omega
    have Xn:((tk.len:Int)==0)=true:=by rw[beq_iff_eq];omega
    clear hb htk hz;go_wp2_with fail;refine (Rt g h3 _ tk.byte w4 rw4 (by omega) (by omega)).mono ?_;rintro e w5 ⟨rfl,t5⟩;have h5:=fO.next nx4 hg1 hh3 t5;go_wp2_with fail;go_roundw
    case rel=>exact ⟨k+1,by omega,by go_num,by rw[iP.out,Hb.out];exact h5⟩
    case measure=>simp[intOf];omega
   ·have hb:qU tk=yh tk.len++CY (tk.dist-1):=by unfold qU;rw[if_neg hz]
    have Hb:=ah hb;have hok:3<=tk.len/\tk.len<=258/\1<=tk.dist/\tk.dist<=32768:=by rcases htk with h|h;exact absurd h.1 hz;exact h
    have Xn:((tk.len:Int)==0)=false:=by rw[beq_eq_false_iff_ne];omega
    clear hb htk hz;go_wp2_with fail;refine (z3x g h3 _ tk.len tk.dist w4 rw4 (by omega) hok.1 hok.2.1 hok.2.2.1 hok.2.2.2).mono ?_;rintro e w5 ⟨rfl,t5⟩;have h5:=fO.next nx4 hg1 hh3 t5;go_wp2_with fail;go_roundw
    case rel=>exact ⟨k+1,by omega,by go_num,by rw[iP.out,Hb.out];exact h5⟩
    case measure=>simp[intOf];omega
  ·have hkn:k=nt:=by omega
   have htake:l.take k=l:=List.take_of_length_le (by rw[Qr.out];omega);rw[htake]at rw3 hl3;have hlt2:¬((k:Int)<(nt:Int)):=(by omega);clear htake;go_wp2_with fail;refine (Rt g h3 _ 256 w3 rw3 (by omega) (by omega)).mono ?_;rintro e w4 ⟨rfl,t4⟩;obtain ⟨h4,rw4,hh4,nx4⟩:=fO.next nx3 hg1 hh3 t4;rw[show bP l++bG 256=aV l from rfl]at rw4;have hl4:(aV l).length<=20000000:=by unfold aV;rw[List.length_append];have:=LC 256;omega
   clear t4 rw3;go_wp2_with fail;refine (z42 g h4 _ w4 rw4 (by omega)).mono ?_;rintro e w5 ⟨k5,cap5,rfl,hk5,hk5',ho5,iZ,nx5⟩;have hr5:=(hr1.nx (by decide) nx4).nx (by decide) nx5;go_wp2_with fail;refine (IV D A c xs w5 hr5 hc hl).mono ?_;rintro e w6 ⟨v6,rfl,ho6⟩;obtain ⟨A6,c6,rfl,_,_⟩:=ho6.form;have nx6:=ho6.nx;have hall:=n1.tr ((nx4.tr nx5).tr nx6);have JJ:=iZ.nx (by decide) nx6;have hs6:=ho6.rd;clear ho5 iZ ho6;generalize pack (aV l)=pf at *;generalize cO xs=ps at *;by_cases hlt3:pf.length<ps.length
   ·have hd:cZ xs=pf:=by rw[HD.out,if_pos hlt3]
    have Hd:=ah hd;have hlt4:(pf.length:Int)<(ps.length:Int):=(by omega);clear hd;go_wp2_with fail;go_ret2;rw[Hd.out];exact ⟨_,_,rfl,⟨_,JJ⟩,hall⟩
   ·have hd:cZ xs=ps:=by rw[HD.out,if_neg hlt3]
    have Hd:=ah hd;have hlt4:¬((pf.length:Int)<(ps.length:Int)):=(by omega);clear hd;go_wp2_with fail;go_ret2;rw[Hd.out];exact ⟨_,_,rfl,⟨_,hs6⟩,hall⟩
theorem nR (A:Option Addr) (n c:Nat) (W:World) (hn:65536<n):
 Calls Tryz.prog 260 #[.slice A n c] W fun e w'=>e=.returned (.tuple #[.slice none 0 0,.int .i64 5])/\Nx W w':=by
 have hn2:(65536:Int)<(n:Int):=by omega
 go_enter Tryz.func260,Tryz.ntmps260;go_wp2_with fail;go_ret2;exact ⟨rfl,(Ch.refl _ W).alloc _⟩
theorem z4A (A:Option Addr) (n c:Nat) (W:World) (hn:65536<n):
 Calls Tryz.prog 214 #[.slice A n c] W fun e w'=>e=.returned (.tuple #[.slice none 0 0,.int .i64 5])/\Nx W w':=by
 go_enter Tryz.func214,Tryz.ntmps214;go_wp2_with fail;refine (nR A n c W hn).mono ?_;rintro e w1 ⟨rfl,n1⟩;go_wp2_with fail;go_ret2;exact ⟨rfl,n1⟩
set_option maxRecDepth 100000 in
theorem nS (D:Nat->Prop) (A:Option Addr) (c:Nat) (xs:List Nat) (W:World) (hr:Rd W D 1 A xs.length (bl xs)) (ok:okB xs) (hl:xs.length<=65536) (m:Nat) (hfew:(pack (aV (aI xs xs.length 0))).length<m)
 (hS:∀w:World,Rd w D 1 A xs.length (bl xs)->Calls Tryz.prog 263 #[.slice A xs.length c] w fun e w'=>∃A' c',e=.returned (.slice A' m c')/\Nx w w'):
 Calls Tryz.prog 214 #[.slice A xs.length c] W fun e w'=>∃A' c',e=.returned (.tuple #[.slice A' (pack (aV (aI xs xs.length 0))).length c',.int .i64 0])/\(∃D',Rd w' D' 1 A' (pack (aV (aI xs xs.length 0))).length (bl (pack (aV (aI xs xs.length 0)))))/\Nx W w':=by
 have HS:=ah hS;clear hS;have htl:=z2a (b:=xs) xs.length 0;have htok:=z2u ok xs.length 0;obtain ⟨l,hlt0⟩:∃l,aI xs xs.length 0=l:=⟨_,rfl⟩;rw[hlt0]at hfew htl htok ⊢;have HL0:=ah hlt0;clear hlt0;go_enter Tryz.func214,Tryz.ntmps214;go_wp2_with fail;refine (z4y D A c xs W hr ok (by omega)).mono ?_;rintro e w1 ⟨v,rfl,ho,n1⟩;have hr1:=hr.nx (by decide) n1;rw[HL0.out]at ho;obtain ⟨nt,hnt⟩:∃nt,l.length=nt:=⟨_,rfl⟩;rw[hnt]at ho htl;obtain ⟨A1,c1,rfl,_,_⟩:=z08 ho;have Qr:=ah hnt;have Ho:=ah ho;have xI:=ah htok;have hnew:=iU.new w1;have nw:Nx w1 (w1.alloc (.cells #[.slice none 0 0,.int .i64 0] 215)):=(Ch.refl _ w1).alloc _;obtain ⟨g,hg⟩:∃g,w1.heap.size=g:=⟨_,rfl⟩;have hg1:w1.heap.size<=g:=by omega
 rw[hg]at hnew;clear hnt ho htok;go_wp2_with fail;refine (VR g none [] 3 3 _ hnew (by simp) (by omega) (by omega)).mono ?_;rintro e w2 ⟨rfl,t2⟩;have h2:=fO.next nw hg1 (by intro j hj;cases hj) t2;clear t2 hnew nw;go_wp2_with fail;go_loopw [25] (fun i wr=>∃k:Nat,k<=nt/\i=.int .i64 (k:Int)/\fO w1 wr g (bP (l.take k))) (fun i _=>nt-(intOf i).toNat)
 case atStart=>exact ⟨0,Nat.zero_le _,rfl,by simpa [bP]using h2⟩
 case round=>
  clear h2;obtain ⟨w3,rfl⟩:∃w3:World,w3=wr:=⟨_,rfl⟩;obtain ⟨k,hk,rfl,h3,rw3,hh3,nx3⟩:=hrel
  have hl3:(bP (l.take k)).length<=10000000:=by
   have h1:=z2f (l.take k);have h2:(l.take k).length<=k:=by simp;omega
   omega
  by_cases hlt:k<nt
  ·have hkl:k<l.length:=by rw[Qr.out];exact hlt
   obtain ⟨g1,cap,hv,_,_⟩:=Ho.out.form (by omega);injection hv with hA hlq hcc;clear hlq;subst hA;subst hcc;obtain ⟨q,hq⟩:∃q,3 * k=q:=⟨_,rfl⟩;obtain ⟨a0,a1,a2⟩:=z33 (iq Ho.out nx3 (fun _ _ hf=>hf)) hkl hq;have hq':k * 3=q:=(by omega);have hlt2:(k:Int)<(nt:Int):=(by omega);have hk0:(0:Int)<=(k:Int):=(by omega);have iP:=ah (z1w hkl);have htk:=xI.out _ (List.getElem_mem hkl);clear hq;generalize l[k]=tk at *;obtain ⟨tb,htb⟩:∃tb,w3.heap.size=tb:=⟨_,rfl⟩;obtain ⟨w4,hw4⟩:∃w4,w3.alloc (.cells #[.int .i64 (tk.len:Int),.int .i64 (tk.dist:Int),.int .u8 (tk.byte:Int)] 302)=w4:=⟨_,rfl⟩;have n4:Nx w3 (w3.alloc (.cells #[.int .i64 (tk.len:Int),.int .i64 (tk.dist:Int),.int .u8 (tk.byte:Int)] 302)):=(Ch.refl _ w3).alloc _;have hB4:=aG.new w3 302 #[.int .i64 (tk.len:Int),.int .i64 (tk.dist:Int),.int .u8 (tk.byte:Int)];rw[hw4]at n4 hB4;rw[htb]at hB4;have HW:=ah hw4;have HT:=ah htb;have rw4:=rw3.ch n4 (fun hf=>hf) (fun _ _ hf=>hf);have nx4:=nx3.tr n4;clear htb hw4 rw3;go_upto_region 9 with fail
   try simp only[HT.out,HW.out]
   clear HT HW a0 a1 a2 n4 nx3;have d0:w4.cell? ⟨tb,0,none⟩=some (.int .i64 (tk.len:Int)):=hB4.cell 0;have d1:w4.cell? ⟨tb,1,none⟩=some (.int .i64 (tk.dist:Int)):=hB4.cell 1;have d2:w4.cell? ⟨tb,2,none⟩=some (.int .u8 (tk.byte:Int)):=hB4.cell 2;by_cases hz:tk.len=0
   ·have hb:qU tk=bG tk.byte:=by unfold qU;rw[if_pos hz]
    have Hb:=ah hb;have hby:tk.byte<256:=by rcases htk with h|h;exact h.2;omega
    have Xn:((tk.len:Int)==0)=true:=by rw[beq_iff_eq];omega
    clear hb htk hz;go_wp2_with fail;refine (Rt g h3 _ tk.byte w4 rw4 (by omega) (by omega)).mono ?_;rintro e w5 ⟨rfl,t5⟩;have h5:=fO.next nx4 hg1 hh3 t5;go_wp2_with fail;go_roundw
    case rel=>exact ⟨k+1,by omega,by go_num,by rw[iP.out,Hb.out];exact h5⟩
    case measure=>simp[intOf];omega
   ·have hb:qU tk=yh tk.len++CY (tk.dist-1):=by unfold qU;rw[if_neg hz]
    have Hb:=ah hb;have hok:3<=tk.len/\tk.len<=258/\1<=tk.dist/\tk.dist<=32768:=by rcases htk with h|h;exact absurd h.1 hz;exact h
    have Xn:((tk.len:Int)==0)=false:=by rw[beq_eq_false_iff_ne];omega
    clear hb htk hz;go_wp2_with fail;refine (z3x g h3 _ tk.len tk.dist w4 rw4 (by omega) hok.1 hok.2.1 hok.2.2.1 hok.2.2.2).mono ?_;rintro e w5 ⟨rfl,t5⟩;have h5:=fO.next nx4 hg1 hh3 t5;go_wp2_with fail;go_roundw
    case rel=>exact ⟨k+1,by omega,by go_num,by rw[iP.out,Hb.out];exact h5⟩
    case measure=>simp[intOf];omega
  ·have hkn:k=nt:=by omega
   have htake:l.take k=l:=List.take_of_length_le (by rw[Qr.out];omega);rw[htake]at rw3 hl3;have hlt2:¬((k:Int)<(nt:Int)):=(by omega);clear htake;go_wp2_with fail;refine (Rt g h3 _ 256 w3 rw3 (by omega) (by omega)).mono ?_;rintro e w4 ⟨rfl,t4⟩;obtain ⟨h4,rw4,hh4,nx4⟩:=fO.next nx3 hg1 hh3 t4;rw[show bP l++bG 256=aV l from rfl]at rw4;have hl4:(aV l).length<=20000000:=by unfold aV;rw[List.length_append];have:=LC 256;omega
   clear t4 rw3;go_wp2_with fail;refine (z42 g h4 _ w4 rw4 (by omega)).mono ?_;rintro e w5 ⟨k5,cap5,rfl,hk5,hk5',ho5,iZ,nx5⟩;have hr5:=(hr1.nx (by decide) nx4).nx (by decide) nx5;go_wp2_with fail;refine (HS.out w5 hr5).mono ?_;rintro e w6 ⟨A6,c6,rfl,nx6⟩;have hall:=n1.tr ((nx4.tr nx5).tr nx6);have JJ:=iZ.nx (by decide) nx6;clear ho5 iZ;obtain ⟨pf,hpf⟩:∃pf,pack (aV l)=pf:=⟨_,rfl⟩;rw[hpf]at JJ hfew ⊢;have Yo:=ah hpf;clear hpf;have hlt4:(pf.length:Int)<(m:Int):=(by omega);go_wp2_with fail;go_ret2;rw[Yo.out];exact ⟨_,_,rfl,⟨_,JJ⟩,hall⟩
set_option maxRecDepth 100000 in
theorem qZ (D:Nat->Prop) (A:Option Addr) (c:Nat) (xs:List Nat) (W:World) (hr:Rd W D 1 A 65536 (bl xs)) (hc:65536<=c):
 Calls Tryz.prog 263 #[.slice A 65536 c] W fun e w'=>∃A' c',e=.returned (.slice A' 65546 c')/\Nx W w':=by
 obtain ⟨i0,hi0,hz0,hz1,hz2⟩:=info_parts Tryz.info5;obtain ⟨ad,hA,Ht,_⟩:=hr.2 (by omega);subst hA;have hlx:xs.length=65536:=by have:=hr.1;rw[Rn]at this;omega
 have hr1:Rd W D 1 (some ad) 65535 (bl (xs.take 65535)):=by
  have:=hr.take (k:=65535) (by omega);rw[Nat.mul_one]at this;rw[show bl (xs.take 65535)=(bl xs).take 65535 by simp[bl,List.map_take]];exact this
 have hr2:Rd W D 1 (some (ad.add 65535)) 1 (bl (xs.drop 65535)):=by
  have h0:=hr.cut (k:=65535) (cap:=c) (by omega) (by omega);rw[if_neg (by omega),Nat.mul_one]at h0;rw[show bl (xs.drop 65535)=(bl xs).drop 65535 by simp[bl,List.map_drop]];exact h0
 have T0:=ak.nil W (W.alloc (.cells #[.int .u8 0,.int .u8 255,.int .u8 255,.int .u8 0,.int .u8 0] 5)) 5 1 ((Ch.refl _ W).alloc _)
 have iZ:Rd (W.alloc (.cells #[.int .u8 0,.int .u8 255,.int .u8 255,.int .u8 0,.int .u8 0] 5)) (fun k=>k=W.heap.size) 1 (some ⟨W.heap.size,0,none⟩) 5 (bl [0,255,255,0,0]):=
  ⟨rfl,fun _=>⟨_,rfl,rfl,World.news_of_block (aG.new W 5 #[.int .u8 0,.int .u8 255,.int .u8 255,.int .u8 0,.int .u8 0])⟩⟩
 have HR5:=ah iZ;have HR1:=ah hr1;have HR2:=ah hr2;have hc1:(65535:Int)<=(c:Int):=by omega
 have hc2:(65536:Int)<=(c:Int):=by omega
 have hc3:¬c=65535:=by omega
 clear iZ hr hr1 hr2;go_enter Tryz.func263,Tryz.ntmps263;go_wp2_with fail;refine wp_loop_rounds 2 ?_;rw[rounds_succ]
 go_wp2_with (at_builtin;first
  |(refine z05 rfl (.tmp 13) (.tmp 27) _ rfl 5 i0 _ 1 1 Tryz.underlying26 hi0 hz0 hz1 hz2 rfl (by omega) rfl T0 _ (some ⟨W.heap.size,0,none⟩) 5 5 (bl [0,255,255,0,0]) rfl HR5.out (iL _) (by simp[maxLen]) (by omega) ?_;intro v3 w3 o3 m3)
  |(refine z05 rfl (.tmp 29) (.tmp 32) _ rfl 5 i0 _ 1 1 Tryz.underlying26 hi0 hz0 hz1 hz2 rfl (by omega) rfl o3 _ (some ad) 65535 c (bl (xs.take 65535)) rfl (HR1.out.nx (by decide) o3.nx) (iL _) (by simp[maxLen]) (by omega) ?_;intro v4 w4 o4 m4))
 have T1:=o4.alloc (.cells #[.int .u8 1,.int .u8 1,.int .u8 0,.int .u8 254,.int .u8 255] 5)
 have iZ:Rd (w4.alloc (.cells #[.int .u8 1,.int .u8 1,.int .u8 0,.int .u8 254,.int .u8 255] 5)) (fun k=>k=w4.heap.size) 1 (some ⟨w4.heap.size,0,none⟩) 5 (bl [1,1,0,254,255]):=
  ⟨rfl,fun _=>⟨_,rfl,rfl,World.news_of_block (aG.new w4 5 #[.int .u8 1,.int .u8 1,.int .u8 0,.int .u8 254,.int .u8 255])⟩⟩
 have HR6:=ah iZ;obtain ⟨c2,hcc⟩:∃c2,c-65535=c2:=⟨_,rfl⟩;have hc4:(1:Int)<=(c2:Int):=by omega
 simp only[hcc];obtain ⟨n4,hn4⟩:∃n4,0+5+65535=n4:=⟨_,rfl⟩;have hn5:n4+5+1=65546:=by omega
 have Hn5:=ah hn5;have hn6:n4<=100000:=by omega
 rw[hn4]at T1;clear iZ hcc hc hc1 hc2 hc3 hlx HR1 HR5 T0 o3 m3 o4 m4 hn4 hn5;rw[rounds_succ]
 go_wp2_with (at_builtin;first
  |(refine z05 rfl (.tmp 13) (.tmp 27) _ rfl 5 i0 _ 1 1 Tryz.underlying26 hi0 hz0 hz1 hz2 rfl (by omega) rfl T1 _ (some ⟨w4.heap.size,0,none⟩) 5 5 (bl [1,1,0,254,255]) rfl HR6.out (iL _) (by simp only[maxLen];omega) (by omega) ?_;intro v5 w5 o5 m5)
  |(refine z05 rfl (.tmp 29) (.tmp 32) _ rfl 5 i0 _ 1 1 Tryz.underlying26 hi0 hz0 hz1 hz2 rfl (by omega) rfl o5 _ (some (ad.add 65535)) 1 c2 (bl (xs.drop 65535)) rfl (HR2.out.nx (by decide) o5.nx) (iL _) (by simp only[maxLen];omega) (by omega) ?_;intro v6 w6 o6 m6;rw[Hn5.out]at o6;obtain ⟨A6,c6,rfl,_,_⟩:=o6.form))
 all_goals go_ret
 all_goals first|exact o6.nx|exact ⟨⟨_,_,rfl⟩,o6.nx⟩|exact ⟨_,_,rfl,o6.nx⟩
set_option maxRecDepth 100000 in
theorem z4z (D:Nat->Prop) (A:Option Addr) (c:Nat) (xs:List Nat) (W:World) (hr:Rd W D 1 A xs.length (bl xs)) (ok:okB xs) (hl:xs.length<=65536) (m:Nat) (hfew:¬(pack (aV (aI xs xs.length 0))).length<m)
 (hS:∀w:World,Rd w D 1 A xs.length (bl xs)->Calls Tryz.prog 263 #[.slice A xs.length c] w fun e w'=>∃A' c',e=.returned (.slice A' m c')/\Nx w w'):
 Calls Tryz.prog 214 #[.slice A xs.length c] W fun e w'=>∃A' c',e=.returned (.tuple #[.slice A' m c',.int .i64 0])/\Nx W w':=by
 have HS:=ah hS;clear hS;have htl:=z2a (b:=xs) xs.length 0;have htok:=z2u ok xs.length 0;obtain ⟨l,hlt0⟩:∃l,aI xs xs.length 0=l:=⟨_,rfl⟩;rw[hlt0]at hfew htl htok;have HL0:=ah hlt0;clear hlt0;go_enter Tryz.func214,Tryz.ntmps214;go_wp2_with fail;refine (z4y D A c xs W hr ok (by omega)).mono ?_;rintro e w1 ⟨v,rfl,ho,n1⟩;have hr1:=hr.nx (by decide) n1;rw[HL0.out]at ho;obtain ⟨nt,hnt⟩:∃nt,l.length=nt:=⟨_,rfl⟩;rw[hnt]at ho htl;obtain ⟨A1,c1,rfl,_,_⟩:=z08 ho;have Qr:=ah hnt;have Ho:=ah ho;have xI:=ah htok;have hnew:=iU.new w1;have nw:Nx w1 (w1.alloc (.cells #[.slice none 0 0,.int .i64 0] 215)):=(Ch.refl _ w1).alloc _;obtain ⟨g,hg⟩:∃g,w1.heap.size=g:=⟨_,rfl⟩;have hg1:w1.heap.size<=g:=by omega
 rw[hg]at hnew;clear hnt ho htok;go_wp2_with fail;refine (VR g none [] 3 3 _ hnew (by simp) (by omega) (by omega)).mono ?_;rintro e w2 ⟨rfl,t2⟩;have h2:=fO.next nw hg1 (by intro j hj;cases hj) t2;clear t2 hnew nw;go_wp2_with fail;go_loopw [25] (fun i wr=>∃k:Nat,k<=nt/\i=.int .i64 (k:Int)/\fO w1 wr g (bP (l.take k))) (fun i _=>nt-(intOf i).toNat)
 case atStart=>exact ⟨0,Nat.zero_le _,rfl,by simpa [bP]using h2⟩
 case round=>
  clear h2;obtain ⟨w3,rfl⟩:∃w3:World,w3=wr:=⟨_,rfl⟩;obtain ⟨k,hk,rfl,h3,rw3,hh3,nx3⟩:=hrel
  have hl3:(bP (l.take k)).length<=10000000:=by
   have h1:=z2f (l.take k);have h2:(l.take k).length<=k:=by simp;omega
   omega
  by_cases hlt:k<nt
  ·have hkl:k<l.length:=by rw[Qr.out];exact hlt
   obtain ⟨g1,cap,hv,_,_⟩:=Ho.out.form (by omega);injection hv with hA hlq hcc;clear hlq;subst hA;subst hcc;obtain ⟨q,hq⟩:∃q,3 * k=q:=⟨_,rfl⟩;obtain ⟨a0,a1,a2⟩:=z33 (iq Ho.out nx3 (fun _ _ hf=>hf)) hkl hq;have hq':k * 3=q:=(by omega);have hlt2:(k:Int)<(nt:Int):=(by omega);have hk0:(0:Int)<=(k:Int):=(by omega);have iP:=ah (z1w hkl);have htk:=xI.out _ (List.getElem_mem hkl);clear hq;generalize l[k]=tk at *;obtain ⟨tb,htb⟩:∃tb,w3.heap.size=tb:=⟨_,rfl⟩;obtain ⟨w4,hw4⟩:∃w4,w3.alloc (.cells #[.int .i64 (tk.len:Int),.int .i64 (tk.dist:Int),.int .u8 (tk.byte:Int)] 302)=w4:=⟨_,rfl⟩;have n4:Nx w3 (w3.alloc (.cells #[.int .i64 (tk.len:Int),.int .i64 (tk.dist:Int),.int .u8 (tk.byte:Int)] 302)):=(Ch.refl _ w3).alloc _;have hB4:=aG.new w3 302 #[.int .i64 (tk.len:Int),.int .i64 (tk.dist:Int),.int .u8 (tk.byte:Int)];rw[hw4]at n4 hB4;rw[htb]at hB4;have HW:=ah hw4;have HT:=ah htb;have rw4:=rw3.ch n4 (fun hf=>hf) (fun _ _ hf=>hf);have nx4:=nx3.tr n4;clear htb hw4 rw3;go_upto_region 9 with fail
   try simp only[HT.out,HW.out]
   clear HT HW a0 a1 a2 n4 nx3;have d0:w4.cell? ⟨tb,0,none⟩=some (.int .i64 (tk.len:Int)):=hB4.cell 0;have d1:w4.cell? ⟨tb,1,none⟩=some (.int .i64 (tk.dist:Int)):=hB4.cell 1;have d2:w4.cell? ⟨tb,2,none⟩=some (.int .u8 (tk.byte:Int)):=hB4.cell 2;by_cases hz:tk.len=0
   ·have hb:qU tk=bG tk.byte:=by unfold qU;rw[if_pos hz]
    have Hb:=ah hb;have hby:tk.byte<256:=by rcases htk with h|h;exact h.2;omega
    have Xn:((tk.len:Int)==0)=true:=by rw[beq_iff_eq];omega
    clear hb htk hz;go_wp2_with fail;refine (Rt g h3 _ tk.byte w4 rw4 (by omega) (by omega)).mono ?_;rintro e w5 ⟨rfl,t5⟩;have h5:=fO.next nx4 hg1 hh3 t5;go_wp2_with fail;go_roundw
    case rel=>exact ⟨k+1,by omega,by go_num,by rw[iP.out,Hb.out];exact h5⟩
    case measure=>simp[intOf];omega
   ·have hb:qU tk=yh tk.len++CY (tk.dist-1):=by unfold qU;rw[if_neg hz]
    have Hb:=ah hb;have hok:3<=tk.len/\tk.len<=258/\1<=tk.dist/\tk.dist<=32768:=by rcases htk with h|h;exact absurd h.1 hz;exact h
    have Xn:((tk.len:Int)==0)=false:=by rw[beq_eq_false_iff_ne];omega
    clear hb htk hz;go_wp2_with fail;refine (z3x g h3 _ tk.len tk.dist w4 rw4 (by omega) hok.1 hok.2.1 hok.2.2.1 hok.2.2.2).mono ?_;rintro e w5 ⟨rfl,t5⟩;have h5:=fO.next nx4 hg1 hh3 t5;go_wp2_with fail;go_roundw
    case rel=>exact ⟨k+1,by omega,by go_num,by rw[iP.out,Hb.out];exact h5⟩
    case measure=>simp[intOf];omega
  ·have hkn:k=nt:=by omega
   have htake:l.take k=l:=List.take_of_length_le (by rw[Qr.out];omega);rw[htake]at rw3 hl3;have hlt2:¬((k:Int)<(nt:Int)):=(by omega);clear htake;go_wp2_with fail;refine (Rt g h3 _ 256 w3 rw3 (by omega) (by omega)).mono ?_;rintro e w4 ⟨rfl,t4⟩;obtain ⟨h4,rw4,hh4,nx4⟩:=fO.next nx3 hg1 hh3 t4;rw[show bP l++bG 256=aV l from rfl]at rw4;have hl4:(aV l).length<=20000000:=by unfold aV;rw[List.length_append];have:=LC 256;omega
   clear t4 rw3;go_wp2_with fail;refine (z42 g h4 _ w4 rw4 (by omega)).mono ?_;rintro e w5 ⟨k5,cap5,rfl,hk5,hk5',ho5,iZ,nx5⟩;have hr5:=(hr1.nx (by decide) nx4).nx (by decide) nx5;go_wp2_with fail;refine (HS.out w5 hr5).mono ?_;rintro e w6 ⟨A6,c6,rfl,nx6⟩;have hall:=n1.tr ((nx4.tr nx5).tr nx6);have JJ:=iZ.nx (by decide) nx6;clear ho5 iZ;obtain ⟨pf,hpf⟩:∃pf,pack (aV l)=pf:=⟨_,rfl⟩;rw[hpf]at JJ hfew ⊢;have Yo:=ah hpf;clear hpf;have hlt4:¬((pf.length:Int)<(m:Int)):=(by omega);go_wp2_with fail;go_ret2;exact ⟨_,_,rfl,hall⟩
def VI (W:World) (xs:List Nat) (e:Ending) (w':World):Prop:=
 ∃A' c' L,e=.returned (.tuple #[.slice A' L c',.int .i64 0])/\Nx W w'/\((cZ xs).length<xs.length->L=(cZ xs).length/\∃D',Rd w' D' 1 A' (cZ xs).length (bl (cZ xs)))/\(¬(cZ xs).length<xs.length->xs.length<=L)
theorem nN (xs:List Nat):(cO xs).length=xs.length+5:=by simp[cO,QG]
theorem ru (D:Nat->Prop) (A:Option Addr) (n c:Nat) (xs:List Nat) (W:World) (hr:Rd W D 1 A n (bl xs)) (ok:okB xs) (hl:xs.length=n) (hc:n<=c) (hn:n<=65536):
 Calls Tryz.prog 214 #[.slice A n c] W (VI W xs):=by
 subst hl;by_cases h5:xs.length<=65535
 ·refine (DJ D A c xs W hr ok hc h5).mono ?_
  rintro e w' ⟨A',c',rfl,hrd,n1⟩;exact ⟨A',c',_,rfl,n1,fun _=>⟨rfl,hrd⟩,fun h=>by omega⟩
 ·have h6:xs.length=65536:=by omega
  have hS:∀w:World,Rd w D 1 A xs.length (bl xs)->Calls Tryz.prog 263 #[.slice A xs.length c] w fun e w'=>∃A' c',e=.returned (.slice A' 65546 c')/\Nx w w':=fun w h=>by
   rw[h6]at h ⊢;exact qZ D A c xs w h (by omega)
  have hs1:=nN xs;by_cases hm:(pack (aV (aI xs xs.length 0))).length<65546
  ·refine (nS D A c xs W hr ok (by omega) 65546 hm hS).mono ?_
   rintro e w' ⟨A',c',rfl,hrd,n1⟩;refine ⟨A',c',_,rfl,n1,fun h=>?_,fun h=>?_⟩
   ·have e1:cZ xs=pack (aV (aI xs xs.length 0)):=by
     unfold cZ at h ⊢;split at h
     ·next h2=>rw[if_pos h2]
     ·omega
    rw[e1];exact ⟨rfl,hrd⟩
   ·have:¬(pack (aV (aI xs xs.length 0))).length<xs.length:=fun h2=>h (by
     unfold cZ;rw[if_pos (by omega)];exact h2)
    omega
  ·refine (z4z D A c xs W hr ok (by omega) 65546 hm hS).mono ?_
   rintro e w' ⟨A',c',rfl,n1⟩;refine ⟨A',c',_,rfl,n1,fun h=>?_,fun h=>by omega⟩;exfalso
   unfold cZ at h;split at h<;>omega
end Go.Proofs.YtpakjclpjcngmaaGreat
