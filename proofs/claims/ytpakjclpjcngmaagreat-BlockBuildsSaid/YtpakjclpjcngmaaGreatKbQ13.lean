/- Contracts and plain laws that the last text rests on. Conditions: each theorem states its own. -/
import Derived.Test.YtpakjclpjcngmaaGreatKbQ3
import Derived.Test.YtpakjclpjcngmaaGreatKbQ2
import Derived.IntWalk
import Derived.Lib.Varint
import Derived.Lib.Zigzag
import Derived.Deep.CutBlock
import Derived.Deep.DeepCutAuto
import Derived.Laws.MakeOwn
set_option maxRecDepth 100000
set_option maxHeartbeats 8000000
set_option linter.unusedVariables false
namespace Go.Proofs.YtpakjclpjcngmaaGreat
open Go.RowKit
theorem gQ.ji {W w:World} {e:TypeId} {n:Nat} {v:Value} {xs:List Value} (h:ak W w e 1 v n xs) (hn:0<n):gQ W e 1 n xs (.returned v) w:=by
 obtain ⟨g,cap,hv,_,_⟩:=h.own.form hn;exact gQ.rJ h (by rw[hv];simp[Value.ownBlock])
theorem U_ (v:Nat) (W:World) (hv:v<18446744073709551616):Calls Tryz.prog 91 #[.int .u64 (v:Int)] W (gQ W 5 1 (aj v).length (bl (aj v))):=by
 obtain ⟨i0,hi0,hz0,hz1,hz2⟩:=info_parts Tryz.info5;have h0:=ak.nil W W 5 1 (Ch.refl _ W);have hl10:=(z04 hv).2;go_enter Tryz.func91,Tryz.ntmps91;go_wp2_with fail;go_loopw [0,3] (fun s0 u wr=>∃(r:Nat) (pre:List Nat),r<18446744073709551616/\s0=.int .u64 (r:Int)/\ak W wr 5 1 u pre.length (bl pre)/\Hid (aj v=pre++aj r)/\pre.length+(aj r).length<=10) (fun s0 _ _=>(intOf s0).toNat)
 case atStart=>exact ⟨v,[],hv,rfl,by simpa [bl]using h0,ah rfl,by simpa using hl10⟩
 case round=>
  clear h0;obtain ⟨w1,rfl⟩:∃w1:World,w1=wr:=⟨_,rfl⟩;obtain ⟨r,pre,hr,rfl,ho,H,hlen⟩:=hrel
  have kw:IntKind.u8.wrap (r:Int)=((r % 256:Nat):Int):=by
   have:IntKind.u8.wrap (r:Int)=(r:Int) % 256:=(by simp[IntKind.wrap,IntKind.bits,IntKind.signed]);omega
  have hpl:=(z04 hr).1;by_cases h:128<=r
  ·have hb:=ZG h
   have hor:bits .or .u8 ((r % 256:Nat):Int) 128=((128+r % 128:Nat):Int):=by
    rw[Lib.u8_or128_any _ (by omega) (by omega)];omega
   have hdiv:(r:Int) / 128=((r / 128:Nat):Int):=(by omega);have e2:bl (pre++[128+r % 128])=bl pre++[.int .u8 ((128+r % 128:Nat):Int)]:=(by simp[bl]);have hlb:(aj r).length=(aj (r / 128)).length+1:=by rw[hb];rfl
   have hm:r / 128<r:=(by omega);have hr2:r / 128<18446744073709551616:=(by omega);have Hb:=ah hb;have He2:=ah e2;clear hb e2;generalize r / 128=q at *;generalize 128+r % 128=y at *;generalize r % 256=z at *;go_wp2_with (at_builtin;refine z06 rfl (.tmp 6) (.tmp 10) _ rfl 5 i0 _ 1 Tryz.underlying26 hi0 hz0 hz1 hz2 rfl _ rfl rfl ho rfl (by simp only[maxLen];omega) (by omega) ?_;intro v' w' ho2 hmv)
   go_roundw
   case rel=>exact ⟨q,pre++[y],hr2,rfl,by rw[List.length_append,He2.out];exact ho2,ah (by rw[H.out,Hb.out];simp),by rw[List.length_append];simp only[List.length_cons,List.length_nil];omega⟩
   case measure=>simp[intOf];omega
  ·have hs:=Va (show r<128 by omega)
   have e2:bl (pre++[r])=bl pre++[.int .u8 (r:Int)]:=(by simp[bl]);rw[show r % 256=r by omega]at kw;have He2:=ah e2;have Hs:=ah hs;clear e2 hs;go_wp2_with (at_builtin;refine z06 rfl (.tmp 14) (.tmp 17) _ rfl 5 i0 _ 1 Tryz.underlying26 hi0 hz0 hz1 hz2 rfl _ rfl rfl ho rfl (by simp only[maxLen];omega) (by omega) ?_;intro v' w' ho2 hmv)
   go_ret;rw[H.out,Hs.out,List.length_append,He2.out];exact gQ.ji ho2 (Nat.succ_pos _)
theorem u8_and127 (x:Nat) (h:x<256):bits .and .u8 (x:Int) 127=((x % 128:Nat):Int):=by
 have e:=u8_and_nat x 127 h (by decide);rw[show x&&& 127=x % 128 from Nat.and_two_pow_sub_one_eq_mod x 7]at e;exact e
theorem Dl (a y i:Nat) (ha:a<2 ^ i) (h:a+y * 2 ^ i<18446744073709551616):bits .or .u64 (a:Int) ((y * 2 ^ i:Nat):Int)=((a+y * 2 ^ i:Nat):Int):=by
 have h2:y * 2 ^ i<18446744073709551616:=by omega
 have h3:a<18446744073709551616:=by omega
 have e:=u64_or_nat a (y * 2 ^ i) h3 h2
 have e2:a|||y * 2 ^ i=a+y * 2 ^ i:=by
  rw[Nat.or_comm,Nat.mul_comm y,←Nat.two_pow_add_eq_or_of_lt ha,Nat.add_comm]
 rw[e2]at e;exact e
def Vy (t:Nat×Nat×Int) (W:World) (e:Ending) (w':World):Prop:=e=.returned (.tuple #[.int .u64 (t.1:Int),.int .i64 (t.2.1:Int),.int .i64 t.2.2])/\W=w'
theorem oU (D:Nat->Prop) (A:Option Addr) (n c:Nat) (b:List Nat) (p:Nat) (W:World) (hr:Rd W D 1 A n (bl b)) (ok:okB b) (hl:b.length=n) (hn:n<=1000000000) (hc:n<=c) (hp:p<=1000000000):
 Calls Tryz.prog 196 #[.slice A n c,.int .i64 (p:Int)] W (Vy (aS b p) W):=by
 by_cases hpn:n<=p
 ·have e:aS b p=(0,0,3):=by unfold aS;rw[if_pos (.inr (by omega))]
  rw[e];unfold Vy;go_enter Tryz.func196,Tryz.ntmps196;go_wp2_with fail;go_ret3;exact ⟨rfl,rfl⟩
 ·have e:aS b p=kN (b.drop p) 0 0:=by unfold aS;rw[if_neg (by omega),Int.toNat_natCast]
  rw[e];have hct:=hr.cut (k:=p) (cap:=c) (by omega) hc;rw[Nat.mul_one,show (bl b).drop p=bl (b.drop p) by simp[bl,List.map_drop],if_neg (by omega)]at hct;obtain ⟨m,hm⟩:∃m,n=p+m:=⟨n-p,by omega⟩;have hdl:(b.drop p).length=m:=by rw[List.length_drop];omega
  have Vh:okB (b.drop p):=fun x hx=>ok x (List.mem_of_mem_drop hx);rw[show n-p=m by omega]at hct;have hm0:0<m:=by omega
  generalize b.drop p=tl at *;subst hm;obtain ⟨ad0,hA, -⟩:=hct.2 hm0;rw[hA]at hct;have hcp:¬c=p:=by omega
  clear hl hr ok e;have Hdl:=ah hdl;clear hdl;unfold Vy;go_enter Tryz.func196,Tryz.ntmps196;go_wp2_with fail;go_loopw [7,22] (fun s7 i wr=>∃(k a:Nat),k<=m/\k<=9/\i=.int .i64 (k:Int)/\s7=.int .u64 (a:Int)/\wr=W/\a<2 ^ (7 * k)/\Hid (kN tl 0 0=kN (tl.drop k) k a)) (fun _ i _=>m-(intOf i).toNat)
  case atStart=>exact ⟨0,0,by omega,by omega,rfl,rfl,rfl,by decide,ah rfl⟩
  case round=>
   obtain ⟨k,a,hk,hk9,rfl,rfl,jy,ha,H⟩:=hrel;rw[jy];clear jy;by_cases hlt:k<m
   ·obtain ⟨ad,u,hA2,Ht,hu,hcx⟩:=hct.at_ hlt
    injection hA2 with hA2;subst hA2;have hkl:k<tl.length:=by rw[Hdl.out];exact hlt
    rw[K_ hkl]at hu;injection hu with hu;subst hu;have hx:=z16 Vh k
    have hstep:kN tl 0 0=kN (tl.getD k 0::tl.drop (k+1)) k a:=by
     rw[H.out,List.drop_eq_getElem_cons hkl];simp[List.getD,hkl]
    simp only[kN]at hstep;have hand:=u8_and127 _ hx;generalize tl.getD k 0=x at *
    have hpw:a+(x % 128) * 2 ^ (7 * k)<2 ^ (7 * (k+1)):=by
     have:x % 128<128:=Nat.mod_lt _ (by decide);have h3:(x % 128) * 2 ^ (7 * k)<=127 * 2 ^ (7 * k):=Nat.mul_le_mul_right _ (by omega);rw[WG];omega
    have xk:a+(x % 128) * 2 ^ (7 * k)<18446744073709551616->bits .or .u64 (a:Int) (IntKind.u64.wrap ((x:Int) % 128 * 2 ^ (7 * k)))=((a+(x % 128) * 2 ^ (7 * k):Nat):Int):=fun h=>by
     have e1:((x:Int) % 128 * 2 ^ (7 * k))=(((x % 128) * 2 ^ (7 * k):Nat):Int):=by push_cast;rfl
     have e2:IntKind.u64.wrap ((((x % 128) * 2 ^ (7 * k):Nat)):Int)=(((x % 128) * 2 ^ (7 * k):Nat):Int):=by rw[IntKind.wrap_u64];omega
     rw[e1,e2];exact Dl a (x % 128) (7 * k) ha h
    by_cases h9:k=9
    ·subst h9
     simp[Addr.add]at hcx;by_cases hx1:1<x
     ·rw[if_pos (.inl ⟨rfl,hx1⟩)]at hstep
      have BR:=ah hstep;clear hstep xk hand;go_wp2_with fail;go_ret3;exact ⟨by rw[BR.out];rfl,rfl⟩
     ·by_cases hx0:x=0
      ·rw[if_pos (.inr ⟨hx0,by omega⟩)]at hstep
       have BR:=ah hstep;subst hx0;clear hstep xk hand;go_wp2_with fail;go_ret3;exact ⟨by rw[BR.out];rfl,rfl⟩
      ·obtain rfl:x=1:=by omega
       rw[if_neg (by omega),if_pos (by omega)]at hstep
       have hor:=xk (by
        have e:(2:Nat) ^ (7 * 9)=9223372036854775808:=(by decide);rw[e]at ha ⊢;omega)
       have BR:=ah hstep
       have hor2:bits .or .u64 (a:Int) 9223372036854775808=((a+9223372036854775808:Nat):Int):=by
        rw[show (2:Nat) ^ (7 * 9)=9223372036854775808 by decide]at hor;have e1:IntKind.u64.wrap (((1:Nat):Int) % 128 * 2 ^ (7 * 9))=9223372036854775808:=(by decide);rw[e1]at hor;simpa using hor
       clear hstep xk hand hor hpw ha;go_wp2_with fail;go_ret3;have e0:IntKind.u64.wrap (IntKind.u64.wrap (bits .and .u8 1 127) * 9223372036854775808)=9223372036854775808:=(by decide);exact ⟨by rw[BR.out];simp[e0,hor2],rfl⟩
    ·have hq9:((k:Int)==9)=false:=by rw[beq_eq_false_iff_ne];omega
     have hp63:2 ^ (7 * (k+1))<=2 ^ 63:=Nat.pow_le_pow_right (by decide) (by omega);rw[show 2 ^ 63=9223372036854775808 by decide]at hp63;have hor:=xk (by omega);by_cases hx0:x=0
     ·by_cases hk0:k=0
      ·subst hk0
       subst hx0;rw[if_neg (by omega),if_pos (by omega)]at hstep;have ha0:a=0:=(by simpa using ha);subst ha0;have BR:=ah hstep;have hzz:ad0.add 0=ad0:=(by simp[Addr.add]);rw[hzz]at hcx;clear hstep xk hand hor hpw ha hzz;go_wp2_with fail;go_ret3;have e0:bits .or .u64 0 (IntKind.u64.wrap (IntKind.u64.wrap (bits .and .u8 0 127)))=0:=(by decide);exact ⟨by rw[BR.out];simp[e0],rfl⟩
      ·rw[if_pos (.inr ⟨hx0,by omega⟩)]at hstep
       subst hx0;have hk0':0<(k:Int):=(by omega);have BR:=ah hstep;clear hstep xk hand hor;go_wp2_with fail;go_ret3;exact ⟨by rw[BR.out];rfl,rfl⟩
     ·have hq0:((x:Int)==0)=false:=by rw[beq_eq_false_iff_ne];omega
      rw[if_neg (by omega)]at hstep;by_cases h128:x<128
      ·rw[if_pos h128]at hstep
       rw[show x % 128=x by omega]at hor;have BR:=ah hstep;clear hstep xk;generalize x * 2 ^ (7 * k)=sh at *;go_wp2_with fail;go_ret3;exact ⟨by rw[BR.out];simp,rfl⟩
      ·rw[if_neg h128]at hstep
       have BR:=ah hstep;clear hstep xk;generalize (x % 128) * 2 ^ (7 * k)=sh at *;go_wp2_with fail;go_roundw
       case rel=>exact ⟨k+1,a+sh,by omega,by omega,by go_num,rfl,trivial,hpw,BR⟩
       case measure=>simp[intOf];omega
   ·obtain rfl:k=m:=by omega
    have he:kN tl 0 0=(0,0,3):=by
     rw[H.out,List.drop_of_length_le (by rw[Hdl.out];exact Nat.le_refl _)];rfl
    have He:=ah he;clear he;go_wp2_with fail;go_ret3;exact ⟨by rw[He.out];rfl,rfl⟩
theorem Lr (x:Int) (h0: -9223372036854775808<=x) (h1:x<=9223372036854775807):
 bits .xor .u64 (IntKind.u64.wrap (IntKind.u64.wrap x * 2)) (IntKind.u64.wrap (x / 9223372036854775808))=(zig x:Int):=by
 by_cases h:0<=x
 ·obtain ⟨n,rfl⟩:=Int.eq_ofNat_of_zero_le h
  have e1:IntKind.u64.wrap (IntKind.u64.wrap (n:Int) * 2)=((2 * n:Nat):Int):=by rw[IntKind.wrap_u64,IntKind.wrap_u64];omega
  have e2:IntKind.u64.wrap ((n:Int) / 9223372036854775808)=((0:Nat):Int):=by rw[IntKind.wrap_u64];omega
  rw[e1,e2,u64_xor_nat _ _ (by omega) (by decide),Nat.xor_zero];unfold zig;rw[if_pos (by omega)];omega
 ·have e1:IntKind.u64.wrap (IntKind.u64.wrap x * 2)=(((2 * x+18446744073709551616).toNat:Nat):Int):=by rw[IntKind.wrap_u64,IntKind.wrap_u64];omega
  have e2:IntKind.u64.wrap (x / 9223372036854775808)=((2 ^ 64-1:Nat):Int):=by rw[IntKind.wrap_u64];omega
  rw[e1,e2,u64_xor_nat _ _ (by omega) (by decide),Nat.xor_comm,Lib.xor_ones64 _ (by omega)];unfold zig;rw[if_neg h];omega
theorem xg (a b:Int):bits .xor .i64 a b=bits .xor .i64 b a:=by
 show IntKind.i64.wrap ((BitVec.ofInt 64 a ^^^ BitVec.ofInt 64 b).toNat:Int)=IntKind.i64.wrap ((BitVec.ofInt 64 b ^^^ BitVec.ofInt 64 a).toNat:Int)
 rw[BitVec.xor_comm]
theorem w_ (n:Nat) (h:n<9223372036854775808):bits .xor .i64 (n:Int) 0=(n:Int):=by
 show IntKind.i64.wrap ((BitVec.ofInt 64 (n:Int) ^^^ BitVec.ofInt 64 0).toNat:Int)=_
 have e:(BitVec.ofInt 64 (n:Int)).toNat=n:=by rw[BitVec.ofInt_natCast,BitVec.toNat_ofNat];exact Nat.mod_eq_of_lt (by omega)
 have e2:BitVec.ofInt 64 0=0#64:=by decide
 rw[e2,BitVec.xor_zero,e,IntKind.wrap_i64];omega
theorem Ls (u:Nat) (h:u<18446744073709551616):bits .xor .i64 ((u:Int) / 2) (wrap64 (-wrap64 (bits .and .u64 (u:Int) 1)))=zag u:=by
 rw[Lib.u64_and1 _ (by omega) (by omega)];unfold zag;by_cases h1:u % 2=1
 ·rw[if_pos h1,show (u:Int) % 2=1 by omega,show wrap64 (-wrap64 1)= -1 by decide+kernel,xg,show (u:Int) / 2=((u / 2:Nat):Int) by omega,Lib.i64_not _ (by omega)]
 ·rw[if_neg h1,show (u:Int) % 2=0 by omega,show wrap64 (-wrap64 0)=0 by decide+kernel,show (u:Int) / 2=((u / 2:Nat):Int) by omega,w_ _ (by omega)]
theorem NG (x:Int) (w:World) (h0: -9223372036854775808<=x) (h1:x<=9223372036854775807):Calls Tryz.prog 259 #[.int .i64 x] w fun e w'=>e=.returned (.int .u64 (zig x:Int))/\w=w':=by
 have H:=ah (Lr x h0 h1);go_enter Tryz.func259,Tryz.ntmps259;go_wp2_with fail;go_ret;exact ⟨wG H.out,rfl⟩
theorem NH (u:Nat) (w:World) (h:u<18446744073709551616):Calls Tryz.prog 243 #[.int .u64 (u:Int)] w fun e w'=>e=.returned (.int .i64 (zag u))/\w=w':=by
 have H:=ah (Ls u h);go_enter Tryz.func243,Tryz.ntmps243;go_wp2_with fail;go_ret;exact ⟨wG H.out,rfl⟩
theorem Jw (x:Int) (W:World) (h0: -9223372036854775808<=x) (h1:x<=9223372036854775807):Calls Tryz.prog 213 #[.int .i64 x] W (gQ W 5 1 (aj (zig x)).length (bl (aj (zig x)))):=by
 have hz:=VK h0 h1;go_enter Tryz.func213,Tryz.ntmps213;go_wp2_with fail;with_reducible refine (NG x _ h0 h1).mono ?_
 rintro e w1 ⟨rfl,rfl⟩;go_wp2_with fail;with_reducible refine (U_ _ _ hz).mono ?_
 rintro e w1 ⟨k,cap,rfl,h⟩;go_wp2_with fail;go_ret;exact ⟨k,cap,rfl,h⟩
def ITo (t:Nat×Nat×Int) (W:World) (e:Ending) (w':World):Prop:=e=.returned (.tuple #[.int .i64 (if t.2.2=0 then zag t.1 else 0),.int .i64 (if t.2.2=0 then (t.2.1:Int) else 0),.int .i64 t.2.2])/\W=w'
theorem Ej (D:Nat->Prop) (A:Option Addr) (n c:Nat) (b:List Nat) (p:Nat) (W:World) (hr:Rd W D 1 A n (bl b)) (ok:okB b) (hl:b.length=n) (hn:n<=1000000000) (hc:n<=c) (hp:p<=1000000000):
 Calls Tryz.prog 198 #[.slice A n c,.int .i64 (p:Int)] W (ITo (aS b p) W):=by
 have hu:=oU D A n c b p W hr ok hl hn hc hp
 have hlt:(aS b p).1<18446744073709551616:=by
  unfold aS;split
  ·decide
  ·exact z4H _ 0 0 (fun x hx=>ok x (List.mem_of_mem_drop hx)) (by omega) (by decide)
 generalize aS b p=t at *;obtain ⟨v,k,e⟩:=t;simp only at hlt;unfold ITo;unfold Vy at hu;simp only at hu ⊢;by_cases he:e=0
 ·subst he
  have Hu:=ah hu;clear hu;go_enter Tryz.func198,Tryz.ntmps198;go_wp2_with fail;with_reducible refine Hu.out.mono ?_
  rintro e w1 ⟨rfl,rfl⟩;go_wp2_with fail;with_reducible refine (NH v _ hlt).mono ?_
  rintro e w1 ⟨rfl,rfl⟩;go_wp2_with fail;go_ret3;exact ⟨by simp,rfl⟩
 ·have hne:(e !=0)=true:=by rw[bne_iff_ne];exact he
  have Hu:=ah hu;have He:=ah he;clear hu he;go_enter Tryz.func198,Tryz.ntmps198;go_wp2_with fail;with_reducible refine Hu.out.mono ?_
  rintro e w1 ⟨rfl,rfl⟩;go_wp2_with fail;go_ret3;exact ⟨by first|rfl|(rw[if_neg He.out,if_neg He.out];rfl),rfl⟩
theorem Ic (x:Nat) (w:World) (h:x<16):Calls Tryz.prog 254 #[.int .u32 (x:Int)] w fun e w'=>e=.returned (.int .u32 (lU x:Int))/\w=w':=by
 have h16:x=0∨x=1∨x=2∨x=3∨x=4∨x=5∨x=6∨x=7∨x=8∨x=9∨x=10∨x=11∨x=12∨x=13∨x=14∨x=15:=by omega
 clear h;rcases h16 with rfl|rfl|rfl|rfl|rfl|rfl|rfl|rfl|rfl|rfl|rfl|rfl|rfl|rfl|rfl|rfl
 all_goals
  go_enter Tryz.func254,Tryz.ntmps254;go_wp2_with fail;go_ret;exact ⟨rfl,rfl⟩
theorem sN (c:Nat) (h:c<4294967296):bits .and .u32 (c:Int) 15=((c % 16:Nat):Int):=by
 have e:=u32_and_nat c 15 h (by decide);have e2:c&&& 15=c % 16:=Nat.and_two_pow_sub_one_eq_mod c 4;rw[e2]at e;exact e
theorem vS (c:Nat) (h:c<4294967296):bits .xor .u32 (if IntKind.u32.signed=true then -1 else IntKind.u32.max) (c:Int)=((4294967295-c:Nat):Int):=by
 have e:=u32_xor_nat 4294967295 c (by decide) h
 have e2:4294967295 ^^^ c=4294967295-c:=by
  apply Nat.eq_of_testBit_eq
  intro i;rw[show 4294967295=2 ^ 32-1 by decide,Nat.testBit_xor,Nat.testBit_two_pow_sub_one,show 2 ^ 32-1-c=2 ^ 32-(c+1) by omega,Nat.testBit_two_pow_sub_succ h];by_cases hi:i<32
  ·simp[hi]
  ·have:c.testBit i=false:=Nat.testBit_lt_two_pow (Nat.lt_of_lt_of_le (show c<2 ^ 32 by omega) (Nat.pow_le_pow_right (n:=2) (by decide) (by omega)))
   simp[hi,this]
 rw[e2]at e;exact e
theorem Rd.lit (w:World) (cs:Array Value) (t:TypeId) (fr:Nat×Nat):Rd (w.alloc (.cells cs t fr)) (fun k=>k=w.heap.size) 1 (some ⟨w.heap.size,0,none⟩) cs.size cs.toList:=by
 refine ⟨by simp,fun _=>⟨_,rfl,rfl,fun j u hu=>?_⟩⟩
 have ea:(Addr.mk w.heap.size 0 none).add j=⟨w.heap.size,j,none⟩:=by
  unfold Addr.add;split
  ·next e=>rw[e]
  ·simp
 rw[ea,cell_of_row _ w.heap.size j cs t fr (heap_alloc_new w _)];simpa using hu
abbrev QA (w:World) (g:Nat) (t:Nat):Prop:=aG w g 254 #[.int .u32 (t:Int)]
theorem Kv (D:Nat->Prop) (g t:Nat) (A:Option Addr) (n c:Nat) (xs:List Nat) (w:World) (hd:QA w g t) (ht:t<4294967296) (hr:Rd w D 1 A n (bl xs)) (ok:okB xs) (hl:xs.length=n) (hn:n<=9223372036854775807):
 Calls Tryz.prog 205 #[.pointer (some ⟨g,0,none⟩),.slice A n c] w fun e w'=>e=.returned (.tuple #[])/\QA w' g (4294967295-iR (4294967295-t) xs)/\Ch (· =g) w w':=by
 have d0:w.cell? ⟨g,0,none⟩=some (.int .u32 (t:Int)):=hd.cell 0;have hf:=hd.frozen;have hnot:=vS t ht;obtain ⟨r0,hr0⟩:∃r0,4294967295-t=r0:=⟨_,rfl⟩;rw[hr0]at hnot ⊢;have hr0l:r0<4294967296:=by omega
 have Hd:=ah hd;have Hl:=ah hl;clear hd hl hr0;go_enter Tryz.func205,Tryz.ntmps205;go_wp2_with fail;go_loopw [4,16] (fun v i wr=>∃k:Nat,k<=n/\i=.int .i64 (k:Int)/\v=.int .u32 (iR r0 (xs.take k):Int)/\wr=w) (fun _ i _=>n-(intOf i).toNat)
 case atStart=>exact ⟨0,Nat.zero_le _,rfl,rfl,rfl⟩
 case round=>
  clear hnot;obtain ⟨k,hk,rfl,rfl,jy⟩:=hrel;rw[jy];clear jy;have hcl:iR r0 (xs.take k)<4294967296:=Gs hr0l fun y hy=>ok y (List.mem_of_mem_take hy);by_cases hlt:k<n
  ·obtain ⟨ad,u,rfl,Ht,hu,hc⟩:=hr.at_ hlt
   have hkl:k<xs.length:=by rw[Hl.out];exact hlt
   rw[K_ hkl]at hu;injection hu with hu;subst hu;have hx:=z16 ok k
   have hsucc:iR r0 (xs.take (k+1))=jY (iR r0 (xs.take k)) (xs.getD k 0):=by
    have e:xs.getD k 0=xs[k]:=(by simp[List.getD,hkl]);rw[List.take_succ_eq_append_getElem hkl,yL,e];rfl
   generalize xs.getD k 0=x at *;generalize iR r0 (xs.take k)=c0 at *;unfold jY at hsucc;have l1:c0 ^^^ x<4294967296:=Nat.xor_lt_two_pow (n:=32) hcl (by omega);have x1:=u32_xor_nat c0 x hcl (by omega);generalize c0 ^^^ x=c1 at *;have l2:=mV l1;have a1:=sN c1 l1
   have x2:bits .xor .u32 ((c1:Int) / 16) (lU (c1 % 16):Int)=(wS c1:Int):=by
    have:=u32_xor_nat (c1 / 16) (lU (c1 % 16)) (by omega) (wB _);rw[show ((c1:Int) / 16)=((c1 / 16:Nat):Int) by omega];exact this
   generalize wS c1=c2 at *;have l3:=mV l2;have a2:=sN c2 l2
   have x3:bits .xor .u32 ((c2:Int) / 16) (lU (c2 % 16):Int)=(wS c2:Int):=by
    have:=u32_xor_nat (c2 / 16) (lU (c2 % 16)) (by omega) (wB _);rw[show ((c2:Int) / 16)=((c2 / 16:Nat):Int) by omega];exact this
   generalize wS c2=c3 at *;have m1:c1 % 16<16:=Nat.mod_lt _ (by decide);have m2:c2 % 16<16:=Nat.mod_lt _ (by decide);have hr1:=fun w=>Ic (c1 % 16) w m1;have hr2:=fun w=>Ic (c2 % 16) w m2;generalize lU (c1 % 16)=r1 at *;generalize lU (c2 % 16)=r2 at *;generalize c1 % 16=q1 at *;generalize c2 % 16=q2 at *;have Hs:=ah hsucc;have Hr1:=ah hr1;have Hr2:=ah hr2;clear hsucc hr1 hr2;go_wp2_with fail;with_reducible refine (Hr1.out _).mono ?_
   rintro e w1 ⟨rfl,rfl⟩;go_wp2_with fail;with_reducible refine (Hr2.out _).mono ?_
   rintro e w1 ⟨rfl,rfl⟩;go_wp2_with fail;go_roundw
   case rel=>exact ⟨k+1,by omega,by go_num,by rw[Hs.out],trivial⟩
   case measure=>simp[intOf];omega
  ·have htk:xs.take k=xs:=List.take_of_length_le (by rw[Hl.out];omega)
   rw[htk]at hcl ⊢;have hnot:=vS _ hcl;have hle:iR r0 xs<=4294967295:=(by omega);clear htk;obtain ⟨c0,hc0⟩:∃c0,iR r0 xs=c0:=⟨_,rfl⟩;rw[hc0]at hcl hnot hle ⊢;have Hc0:=ah hc0;clear hc0;go_wp2_with fail;go_end0
   exact ⟨rfl,by rw[Hc0.out];exact Hd.out.dK 0 (.int .u32 ((4294967295-c0:Nat):Int)),Ch.setCell (S:=fun k=>k=g) (Ch.refl _ w) (p:=⟨g,0,none⟩) (fun _=>rfl) _⟩
theorem Ph (g t:Nat) (w:World) (hd:QA w g t):Calls Tryz.prog 206 #[.pointer (some ⟨g,0,none⟩)] w fun e w'=>e=.returned (.int .u32 (t:Int))/\w=w':=by
 have d0:w.cell? ⟨g,0,none⟩=some (.int .u32 (t:Int)):=hd.cell 0;go_enter Tryz.func206,Tryz.ntmps206;go_wp2_with fail;go_ret;exact ⟨rfl,rfl⟩
def aaZ (w:World) (v:Int) (e:Ending) (w':World):Prop:=e=.returned (.int .u32 v)/\Nx w w'
theorem Bg (D:Nat->Prop) (p:Nat) (pc:Nat) (A:Option Addr) (n c:Nat) (xs:List Nat) (w:World) (hp:w.cell? ⟨p,0,none⟩=some (.slice A n c)) (hr:Rd w D 1 A n (bl xs)) (QS:∀k,D k->k<w.heap.size) (ok:okB xs) (hl:xs.length=n) (hn:n<=9223372036854775807):
 Calls Tryz.prog 154 #[.slice (some ⟨p,0,none⟩) 1 pc] w (aaZ w (sumF xs:Int)):=by
 have hplt:p<w.heap.size:=World.block_lt_of_cell? w _ hp;have hd0:QA (w.alloc (.cells #[.int .u32 0] 254)) w.heap.size 0:=aG.new w _ _;have hn0:Nx w (w.alloc (.cells #[.int .u32 0] 254)):=(Ch.refl _ w).alloc _;have hp1:(w.alloc (.cells #[.int .u32 0] 254)).cell? ⟨p,0,none⟩=some (.slice A n c):=(World.cell?_alloc_lt w _ _ hplt).trans hp;have hr1:=hr.nx (by decide) hn0;obtain ⟨dg,hdg⟩:∃dg,w.heap.size=dg:=⟨_,rfl⟩;have hpd:p<dg:=by omega
 have hDg:∀k,D k->k≠dg:=fun k hk=>by have:=QS k hk;omega
 rw[hdg]at hd0;obtain ⟨w1,hw1⟩:∃w1,w.alloc (.cells #[.int .u32 0] 254)=w1:=⟨_,rfl⟩;rw[hw1]at hd0 hn0 hp1 hr1;have HW:=ah hw1;have HG:=ah hdg;have Hl:=ah hl;clear hw1 hl hp hr;go_enter Tryz.func154,Tryz.ntmps154;go_upto_region 2 with fail
 simp only[HW.out];have hgx:w.heap.size<=dg:=by rw[HG.out];exact Nat.le_refl _
 clear HW HG hdg;go_wp2_with fail;go_loopw [8] (fun i wr=>∃k:Nat,k<=1/\i=.int .i64 (k:Int)/\QA wr dg (if k=0 then 0 else sumF xs)/\Ch (· =dg) w1 wr) (fun i _=>1-(intOf i).toNat)
 case atStart=>exact ⟨0,by omega,rfl,hd0,Ch.refl _ _⟩
 case round=>
  clear hd0;obtain ⟨w2,rfl⟩:∃w2:World,w2=wr:=⟨_,rfl⟩;obtain ⟨k,hk,rfl,hd,ch⟩:=hrel;by_cases h0:k=0
  ·subst h0
   rw[if_pos rfl]at hd;have hp2:w2.cell? ⟨p,0,none⟩=some (.slice A n c):=(ch.cell (p:=⟨p,0,none⟩) (World.block_lt_of_cell? w1 _ hp1) (by simp;omega)).trans hp1;have hr2:=hr1.ch (by decide) ch (fun k hk hd e=>hDg k hd e);go_wp2_with fail;with_reducible refine (Kv _ dg 0 A n c xs _ hd (by decide) hr2 ok Hl.out hn).mono ?_
   rintro e w3 ⟨rfl,hd3,ch3⟩;go_wp2_with fail;go_roundw
   case rel=>exact ⟨1,by omega,by go_num,by rw[if_neg (by omega)];exact hd3,ch.trans ch3 fun _ _ e=>e⟩
   case measure=>simp[intOf]
  ·obtain rfl:k=1:=by omega
   rw[if_neg (by omega)]at hd;go_wp2_with fail;with_reducible refine (Ph dg _ _ hd).mono ?_
   rintro e w3 ⟨rfl,rfl⟩;go_wp2_with fail;go_ret;exact ⟨rfl,hn0.trans ch fun i hi e=>by omega⟩
theorem FW (s:Nat):IntKind.u8.wrap (s:Int)=((s % 256:Nat):Int)/\IntKind.u8.wrap ((s:Int) / 256)=((s / 256 % 256:Nat):Int)/\IntKind.u8.wrap ((s:Int) / 65536)=((s / 65536 % 256:Nat):Int)/\IntKind.u8.wrap ((s:Int) / 16777216)=((s / 16777216 % 256:Nat):Int):=by
 have h:∀z:Int,IntKind.u8.wrap z=z % 256:=fun z=>by simp[IntKind.wrap,IntKind.bits,IntKind.signed]
 rw[h,h,h,h];exact ⟨by omega,by omega,by omega,by omega⟩
theorem Bh (D:Nat->Prop) (A:Option Addr) (n c:Nat) (xs:List Nat) (W:World) (hr:Rd W D 1 A n (bl xs)) (QS:∀k,D k->k<W.heap.size) (ok:okB xs) (hl:xs.length=n) (hn:n<=1000000000):
 Calls Tryz.prog 114 #[.slice A n c] W (gQ W 5 1 (n+4) (bl (dR xs))):=by
 obtain ⟨i0,hi0,hz0,hz1,hz2⟩:=info_parts Tryz.info5;have hn0:Nx W (W.alloc (.cells #[.slice A n c] 26)):=(Ch.refl _ W).alloc _;have hb0:=aG.new W 26 #[.slice A n c];have hsum:=Bg D W.heap.size 1 A n c xs _ (hb0.cell 0) (hr.nx (by decide) hn0) (fun k hk=>Nat.lt_of_lt_of_le (QS k hk) hn0.size) ok hl (by omega);have hsz:sumF xs<4294967296:=vU xs
 have uI:bl (dR xs)=bl xs++[.int .u8 ((sumF xs % 256:Nat):Int),.int .u8 ((sumF xs / 256 % 256:Nat):Int),.int .u8 ((sumF xs / 65536 % 256:Nat):Int),.int .u8 ((sumF xs / 16777216 % 256:Nat):Int)]:=by
  unfold dR four bl;rw[List.map_append];rfl
 have BU:=ah uI;clear uI;generalize sumF xs=s at *;obtain ⟨k0,k1,k2,k3⟩:=FW s
 have hmk:∀w:World,(Instr.makeSlice 26 (.int .i64 0) (.int .i64 ((n:Int)+4))).run Tryz.prog w=.ok (.slice (some ⟨w.heap.size,0,none⟩) 0 (n+4)) (w.alloc (.cells (madeCells #[.int .u8 0] (n+4)) 5)):=fun w=>by
  have:=run_make (P:=Tryz.prog) w 26 5 i0 (.int .u8 0) Tryz.underlying26 hi0 hz0 .i64 .i64 0 ((n:Int)+4) (by omega) (by omega) (by rw[hz2];omega) (by omega);rw[hz1,show ((n:Int)+4).toNat=n+4 by omega,Nat.mul_one]at this;exact this
 have Hs:=ah hsum;clear hsum;go_enter Tryz.func114,Tryz.ntmps114;go_wp2_with fail;with_reducible refine Hs.out.mono ?_
 rintro e w1 ⟨rfl,n1⟩;have nx1:Nx W w1:=hn0.tr n1
 have o1:ak W (w1.alloc (.cells (madeCells #[.int .u8 0] (n+4)) 5)) 5 1 (.slice (some ⟨w1.heap.size,0,none⟩) 0 (n+4)) 0 []:=
  ⟨World.ownsRow_made w1 _ (n+4) nx1.size (by simp only[maxLen];omega) (by simp[size_madeCells]),nx1.alloc _⟩
 have hr1:=hr.nx (by decide) o1.nx;have hb1:(Value.slice (some ⟨w1.heap.size,0,none⟩) 0 (n+4)).ownBlock≠none:=by simp[Value.ownBlock]
 generalize hW2:w1.alloc (.cells (madeCells #[.int .u8 0] (n+4)) 5)=w2 at *;clear Hs n1 hb0 hn0
 go_wp2_with (at_builtin;first
  |(refine z05 rfl (.tmp 11) (.tmp 12) _ rfl 5 i0 _ 1 1 Tryz.underlying26 hi0 hz0 hz1 hz2 rfl (by omega) rfl o1 D A n c (bl xs) rfl hr1 (iL _) (by simp only[maxLen];omega) (by omega) ?_;intro v3 w3 o3 m3;have hr3:=Rd.lit w3 #[.int .u8 ((s % 256:Nat):Int),.int .u8 ((s / 256 % 256:Nat):Int),.int .u8 ((s / 65536 % 256:Nat):Int),.int .u8 ((s / 16777216 % 256:Nat):Int)] 5 (0,0);have o3':=o3.alloc (.cells #[.int .u8 ((s % 256:Nat):Int),.int .u8 ((s / 256 % 256:Nat):Int),.int .u8 ((s / 65536 % 256:Nat):Int),.int .u8 ((s / 16777216 % 256:Nat):Int)] 5))
  |(refine z05 rfl (.tmp 14) (.tmp 26) _ rfl 5 i0 _ 1 1 Tryz.underlying26 hi0 hz0 hz1 hz2 rfl (by omega) rfl o3' _ _ 4 4 _ rfl hr3 (by intro u hu;simp at hu;rcases hu with rfl|rfl|rfl|rfl<;>rfl) (by simp only[maxLen];omega) (by omega) ?_;intro v4 w4 o4 m4))
 go_ret;rw[BU.out];have:=gQ.rJ o4 (m4.some_ (m3.some_ hb1));simpa using this
def FC (W:World) (b:List Nat) (e:Ending) (w':World):Prop:=
 (Cj b->∃k cap,e=.returned (.tuple #[.slice (some ⟨k,0,none⟩) (b.length-4) cap,.int .i64 0])/\ak W w' 5 1 (.slice (some ⟨k,0,none⟩) (b.length-4) cap) (b.length-4) (bl (b.take (b.length-4)))/\b.length-4<=cap)/\
 (¬Cj b->e=.returned (.tuple #[.slice none 0 0,.int .i64 (if b.length<4 then 3 else 6)])/\Nx W w')
theorem Bj (D:Nat->Prop) (A:Option Addr) (n c:Nat) (b:List Nat) (W:World) (hr:Rd W D 1 A n (bl b)) (QS:∀k,D k->k<W.heap.size) (ok:okB b) (hl:b.length=n) (hn:n<=1000000000) (hc:n<=c):
 Calls Tryz.prog 74 #[.slice A n c] W (FC W b):=by
 by_cases h4:n<4
 ·have hno:¬Cj b:=fun h=>by have:=h.1;omega
  go_enter Tryz.func74,Tryz.ntmps74;go_wp2_with fail;go_ret2;exact ⟨fun h=>absurd h hno,fun _=>⟨by rw[if_pos (by omega)];rfl,Ch.refl _ _⟩⟩
 ·obtain ⟨m,hm⟩:∃m,n=m+4:=⟨n-4,by omega⟩
  subst hm;obtain ⟨i0,hi0,hz0,hz1,hz2⟩:=info_parts Tryz.info5;have htk:=hr.take (k:=m) (by omega);rw[Nat.mul_one,show (bl b).take m=bl (b.take m) by simp[bl,List.map_take]]at htk;have hct:=hr.cut (k:=m) (cap:=c) (by omega) hc;rw[Nat.mul_one,show (bl b).drop m=bl (b.drop m) by simp[bl,List.map_drop],if_neg (by omega),Nat.add_sub_cancel_left]at hct;have hn0:Nx W (W.alloc (.cells #[.slice A m c] 26)):=(Ch.refl _ W).alloc _;have hb0:=aG.new W 26 #[.slice A m c];have hsum:=Bg D W.heap.size 1 A m c (b.take m) _ (hb0.cell 0) (htk.nx (by decide) hn0) (fun k hk=>Nat.lt_of_lt_of_le (QS k hk) hn0.size) (fun x hx=>ok x (List.mem_of_mem_take hx)) (by simp;omega) (by omega);have hsz:=vU (b.take m)
  have hopen:Cj b↔∀k,k<4->(b.drop m).getD k 0=(four (sumF (b.take m))).getD k 0:=by
   have e4:b.length-4=m:=(by omega);have e5:(b.drop m).length=4:=by rw[List.length_drop];omega
   unfold Cj;rw[e4];constructor
   ·rintro ⟨_,h⟩ k _
    rw[h]
   ·intro h
    refine ⟨by omega,List.ext_getElem (by rw[e5];rfl) fun i h1 h2=>?_⟩;have:=h i (by omega);rw[List.getD_eq_getElem?_getD,List.getD_eq_getElem?_getD,List.getElem?_eq_getElem h1,List.getElem?_eq_getElem h2]at this;exact this
  have hlen:b.length-4=m:=by omega
  have hnl:¬b.length<4:=by omega
  have Vh:okB (b.drop m):=fun x hx=>ok x (List.mem_of_mem_drop hx);have hdl:(b.drop m).length=4:=by rw[List.length_drop];omega
  have lQ:=ah hopen;clear hopen;generalize b.drop m=tl at *;have Ij:Hid (four (sumF (b.take m))=[sumF (b.take m) % 256,sumF (b.take m) / 256 % 256,sumF (b.take m) / 65536 % 256,sumF (b.take m) / 16777216 % 256]):=ah rfl;generalize sumF (b.take m)=s at *;obtain ⟨k0,k1,k2,k3⟩:=FW s;have l0:s % 256<256:=by omega
  have l1:s / 256 % 256<256:=by omega
  have l2:s / 65536 % 256<256:=by omega
  have l3:s / 16777216 % 256<256:=by omega
  generalize s % 256=f0 at *;generalize s / 256 % 256=f1 at *;generalize s / 65536 % 256=f2 at *;generalize s / 16777216 % 256=f3 at *;have Hs:=ah hsum;have Hlen:=ah hlen;have Hnl:=ah hnl;have Htk:=ah htk;clear hsum hlen hnl hl htk hr;unfold FC;go_enter Tryz.func74,Tryz.ntmps74;go_wp2_with fail;with_reducible refine Hs.out.mono ?_
  rintro e w1 ⟨rfl,n1⟩;have nx1:Nx W w1:=hn0.tr n1;clear Hs n1 hb0 hn0;go_wp2_with fail;go_loopw [22] (fun i wr=>∃k:Nat,k<=4/\i=.int .i64 (k:Int)/\wr=w1/\Hid (∀j,j<k->tl.getD j 0=(four s).getD j 0)) (fun i _=>4-(intOf i).toNat)
  case atStart=>exact ⟨0,by omega,rfl,rfl,ah (fun j hj=>absurd hj (by omega))⟩
  case round=>
   obtain ⟨k,hk,rfl,jy,H⟩:=hrel;rw[jy];clear jy;by_cases hlt:k<4
   ·obtain ⟨ad,u,hA,Ht,hu,hcx⟩:=(hct.nx (by decide) nx1).at_ (k:=k) (by omega)
    have hkl:k<tl.length:=(by omega);rw[K_ hkl]at hu;injection hu with hu;subst hu;have hxx:=z16 Vh k;obtain ⟨x,hx⟩:∃x,tl.getD k 0=x:=⟨_,rfl⟩;rw[hx]at hcx hxx;have Hx:=ah hx;have hcm:¬c=m:=(by omega);clear hx;have hk4:k=0∨k=1∨k=2∨k=3:=(by omega);have ha0:ad.add 0=ad:=(by simp[Addr.add]);rcases hk4 with rfl|rfl|rfl|rfl
    all_goals
     clear ha0;simp[Addr.add]at hcx
    ·have Hf:Hid ((four s).getD 0 0=f0):=ah (by rw[Ij.out];rfl)
     by_cases he:x=f0
     ·subst he
      go_wp2_with fail;go_roundw
      case rel=>exact ⟨1,by omega,by go_num,trivial,ah (fun j hj=>by
       by_cases e:j=0
       ·subst e;rw[Hx.out,Hf.out]
       ·exact H.out j (by omega))⟩
      case measure=>simp[intOf]
     ·have he2:((x:Int) !=(f0:Int))=true:=by rw[bne_iff_ne];omega
      have hno:¬Cj b:=fun h=>he (by rw[←Hx.out,←Hf.out];exact lQ.out.1 h 0 (by omega));have Hno:=ah hno;clear hno he;go_wp2_with fail;go_ret2;exact ⟨fun h=>absurd h Hno.out,fun _=>⟨by first|rfl|(rw[if_neg Hnl.out];rfl),nx1⟩⟩
    ·have Hf:Hid ((four s).getD 1 0=f1):=ah (by rw[Ij.out];rfl)
     by_cases he:x=f1
     ·subst he
      go_wp2_with fail;go_roundw
      case rel=>exact ⟨2,by omega,by go_num,trivial,ah (fun j hj=>by
       by_cases e:j=1
       ·subst e;rw[Hx.out,Hf.out]
       ·exact H.out j (by omega))⟩
      case measure=>simp[intOf]
     ·have he2:((x:Int) !=(f1:Int))=true:=by rw[bne_iff_ne];omega
      have hno:¬Cj b:=fun h=>he (by rw[←Hx.out,←Hf.out];exact lQ.out.1 h 1 (by omega));have Hno:=ah hno;clear hno he;go_wp2_with fail;go_ret2;exact ⟨fun h=>absurd h Hno.out,fun _=>⟨by first|rfl|(rw[if_neg Hnl.out];rfl),nx1⟩⟩
    ·have Hf:Hid ((four s).getD 2 0=f2):=ah (by rw[Ij.out];rfl)
     by_cases he:x=f2
     ·subst he
      go_wp2_with fail;go_roundw
      case rel=>exact ⟨3,by omega,by go_num,trivial,ah (fun j hj=>by
       by_cases e:j=2
       ·subst e;rw[Hx.out,Hf.out]
       ·exact H.out j (by omega))⟩
      case measure=>simp[intOf]
     ·have he2:((x:Int) !=(f2:Int))=true:=by rw[bne_iff_ne];omega
      have hno:¬Cj b:=fun h=>he (by rw[←Hx.out,←Hf.out];exact lQ.out.1 h 2 (by omega));have Hno:=ah hno;clear hno he;go_wp2_with fail;go_ret2;exact ⟨fun h=>absurd h Hno.out,fun _=>⟨by first|rfl|(rw[if_neg Hnl.out];rfl),nx1⟩⟩
    ·have Hf:Hid ((four s).getD 3 0=f3):=ah (by rw[Ij.out];rfl)
     by_cases he:x=f3
     ·subst he
      go_wp2_with fail;go_roundw
      case rel=>exact ⟨4,by omega,by go_num,trivial,ah (fun j hj=>by
       by_cases e:j=3
       ·subst e;rw[Hx.out,Hf.out]
       ·exact H.out j (by omega))⟩
      case measure=>simp[intOf]
     ·have he2:((x:Int) !=(f3:Int))=true:=by rw[bne_iff_ne];omega
      have hno:¬Cj b:=fun h=>he (by rw[←Hx.out,←Hf.out];exact lQ.out.1 h 3 (by omega));have Hno:=ah hno;clear hno he;go_wp2_with fail;go_ret2;exact ⟨fun h=>absurd h Hno.out,fun _=>⟨by first|rfl|(rw[if_neg Hnl.out];rfl),nx1⟩⟩
   ·obtain rfl:k=4:=by omega
    have hyes:Cj b:=lQ.out.2 H.out;have Hyes:=ah hyes;have hlit:=ak.lit W w1 5 nx1 1;have htk1:=Htk.out.nx (by decide) hlit.nx;have hb1:(Value.slice (some ⟨w1.heap.size,0,none⟩) 0 0).ownBlock≠none:=(by simp[Value.ownBlock]);clear hyes;go_wp2_with (at_builtin;refine z05 rfl (.tmp 35) (.tmp 38) _ rfl 5 i0 _ 1 1 Tryz.underlying26 hi0 hz0 hz1 hz2 rfl (by omega) rfl hlit D A m c (bl (b.take m)) rfl htk1 (iL _) (by simp only[maxLen];omega) (by omega) ?_;intro v3 w3 o3 m3)
    obtain ⟨q,cap,hv,o4,_,_,hcap,_⟩:=gQ.rJ o3 (m3.some_ hb1);injection hv with hv;subst hv;go_ret2;rw[Hlen.out];refine ⟨fun _=>⟨q,cap,by simp,by simpa using o4,by have:=Hlen.out;omega⟩,fun h=>absurd Hyes.out h⟩
theorem oD (v:Nat) (W:World) (hv:v<18446744073709551616):Calls Tryz.prog 194 #[.int .u64 (v:Int)] W (gQ W 5 1 (aj v).length (bl (aj v))):=by
 obtain ⟨i0,hi0,hz0,hz1,hz2⟩:=info_parts Tryz.info5;have h0:=ak.lit W W 5 (Ch.refl _ W) 1;have hl10:=(z04 hv).2;go_enter Tryz.func194,Tryz.ntmps194;go_wp2_with fail;go_loopw [0,3] (fun s0 u wr=>∃(r:Nat) (pre:List Nat),r<18446744073709551616/\s0=.int .u64 (r:Int)/\ak W wr 5 1 u pre.length (bl pre)/\Hid (aj v=pre++aj r)/\pre.length+(aj r).length<=10) (fun s0 _ _=>(intOf s0).toNat)
 case atStart=>exact ⟨v,[],hv,rfl,by simpa [bl]using h0,ah rfl,by simpa using hl10⟩
 case round=>
  clear h0;obtain ⟨w1,rfl⟩:∃w1:World,w1=wr:=⟨_,rfl⟩;obtain ⟨r,pre,hr,rfl,ho,H,hlen⟩:=hrel;have hpl:=(z04 hr).1;have td:(r:Int).tdiv 128=((r / 128:Nat):Int):=by rw[Int.tdiv_eq_ediv_of_nonneg (by omega)];omega
  have tm:(r:Int).tmod 128=((r % 128:Nat):Int):=by rw[Int.tmod_eq_emod_of_nonneg (by omega)];omega
  have hdiv:(r:Int) / 128=((r / 128:Nat):Int):=by omega
  have hmod:(r:Int) % 128=((r % 128:Nat):Int):=by omega
  by_cases h:128<=r
  ·have hb:=ZG h
   have e2:bl (pre++[128+r % 128])=bl pre++[.int .u8 ((128+r % 128:Nat):Int)]:=(by simp[bl]);have hlb:(aj r).length=(aj (r / 128)).length+1:=by rw[hb];rfl
   have hm:r / 128<r:=(by omega);have hr2:r / 128<18446744073709551616:=(by omega);have hq0:0<r / 128:=(by omega);have hx:r % 128<128:=Nat.mod_lt _ (by decide);have Hb:=ah hb;have He2:=ah e2;clear hb e2;generalize r / 128=q at *;generalize r % 128=z at *
   have kw:IntKind.u8.wrap ((128:Int)+(z:Int))=((128+z:Nat):Int):=by
    have:∀a:Int,IntKind.u8.wrap a=a % 256:=fun a=>by simp[IntKind.wrap,IntKind.bits,IntKind.signed]
    rw[this];omega
   have kw2:IntKind.u64.wrap ((128:Int)+(z:Int))=(128:Int)+(z:Int):=by rw[IntKind.wrap_u64];omega
   go_wp2_with (at_builtin;refine z06 rfl (.tmp 8) (.tmp 13) _ rfl 5 i0 _ 1 Tryz.underlying26 hi0 hz0 hz1 hz2 rfl (.int .u8 ((128+z:Nat):Int)) rfl rfl ho rfl (by simp only[maxLen];omega) (by omega) ?_;intro v' w' ho2 hmv)
   go_roundw
   case rel=>exact ⟨q,pre++[128+z],hr2,rfl,by rw[List.length_append,He2.out];exact ho2,ah (by rw[H.out,Hb.out];simp),by rw[List.length_append];simp only[List.length_cons,List.length_nil];omega⟩
   case measure=>simp[intOf];omega
  ·have hs:=Va (show r<128 by omega)
   have e2:bl (pre++[r])=bl pre++[.int .u8 (r:Int)]:=by simp[bl]
   have kw:IntKind.u8.wrap (r:Int)=(r:Int):=by
    have:IntKind.u8.wrap (r:Int)=(r:Int) % 256:=(by simp[IntKind.wrap,IntKind.bits,IntKind.signed]);omega
   have hq0:r / 128=0:=(by omega);rw[hq0]at td hdiv;have He2:=ah e2;have Hs:=ah hs;clear e2 hs tm hmod hq0;go_wp2_with (at_builtin;refine z06 rfl (.tmp 17) (.tmp 20) _ rfl 5 i0 _ 1 Tryz.underlying26 hi0 hz0 hz1 hz2 rfl (.int .u8 (r:Int)) rfl rfl ho rfl (by simp only[maxLen];omega) (by omega) ?_;intro v' w' ho2 hmv)
   go_ret;rw[H.out,Hs.out,List.length_append,He2.out];exact gQ.ji ho2 (Nat.succ_pos _)
theorem Sl (x:Int) (W:World) (h0: -9223372036854775808<=x) (h1:x<=9223372036854775807):Calls Tryz.prog 238 #[.int .i64 x] W fun e w'=>e=.returned (.int .u64 (zig x:Int))/\W=w':=by
 by_cases hx:x<0
 ·have hz:(zig x:Int)=2 * (-(x+1))+1:=by unfold zig;rw[if_neg (by omega)];omega
  have k1:IntKind.i64.wrap (x+1)=x+1:=IntWalk.i64_in _ (by omega);have k2:IntKind.i64.wrap (-(x+1))= -(x+1):=IntWalk.i64_in _ (by omega);have k3:IntKind.u64.wrap (-(x+1))= -(x+1):=by rw[IntKind.wrap_u64];omega
  have k4:IntKind.u64.wrap (2 * -(x+1))=2 * -(x+1):=by rw[IntKind.wrap_u64];omega
  have k5:IntKind.u64.wrap (2 * -(x+1)+1)=2 * -(x+1)+1:=by rw[IntKind.wrap_u64];omega
  have Hz:=ah hz;clear hz;go_enter Tryz.func238,Tryz.ntmps238;go_wp2_with fail;go_ret;exact ⟨by rw[Hz.out];try rfl,rfl⟩
 ·have hz:(zig x:Int)=2 * x:=by unfold zig;rw[if_pos (by omega)];omega
  have k3:IntKind.u64.wrap x=x:=by rw[IntKind.wrap_u64];omega
  have k4:IntKind.u64.wrap (2 * x)=2 * x:=by rw[IntKind.wrap_u64];omega
  have Hz:=ah hz;clear hz;go_enter Tryz.func238,Tryz.ntmps238;go_wp2_with fail;go_ret;exact ⟨by rw[Hz.out];try rfl,rfl⟩
theorem MN (c x:Nat) (W:World) (hc:c<4294967296) (hx:x<256):Calls Tryz.prog 240 #[.int .u32 (c:Int),.int .u8 (x:Int)] W fun e w'=>e=.returned (.int .u32 (jY c x:Int))/\W=w':=by
 have h0:=u32_xor_nat c x hc (by omega);have hl0:c ^^^ x<4294967296:=Nat.xor_lt_two_pow (n:=32) hc (by omega)
 have kx:IntKind.u32.wrap (x:Int)=(x:Int):=by
  have:IntKind.u32.wrap (x:Int)=(x:Int) % 4294967296:=by simp[IntKind.wrap,IntKind.bits,IntKind.signed]
  omega
 have H8:=ah (aaS c x);have hlt:=Qe hl0;have hstp:∀k,qF (c ^^^ x) (k+1)=jd (qF (c ^^^ x) k):=fun k=>rfl;have Hstp:=ah hstp;have Hlt:=ah hlt;have Hb0:=ah (show qF (c ^^^ x) 0=c ^^^ x from rfl);clear hlt hstp;generalize hb:qF (c ^^^ x)=B at *;clear hb;generalize c ^^^ x=y at *;go_enter Tryz.func240,Tryz.ntmps240;go_wp2_with fail;go_loop [0,5] (fun s0 s5=>∃k:Nat,k<=8/\s0=.int .u32 (B k:Int)/\s5=.int .i64 (k:Int)) (fun _ s5=>8-(intOf s5).toNat)
 case atStart=>exact ⟨0,by omega,by rw[Hb0.out],rfl⟩
 case round=>
  obtain ⟨k,hk,rfl,rfl⟩:=hrel;by_cases hk8:k<8
  ·have hl:=Hlt.out k
   have hs:=Hstp.out k;have HS:=ah hs;clear hs;generalize B k=r at *;have td:(r:Int).tdiv 2=((r / 2:Nat):Int):=by rw[Int.tdiv_eq_ediv_of_nonneg (by omega)];omega
   have tm:(r:Int).tmod 2=((r % 2:Nat):Int):=by rw[Int.tmod_eq_emod_of_nonneg (by omega)];omega
   have hdv:(r:Int) / 2=((r / 2:Nat):Int):=(by omega);have hmd:(r:Int) % 2=((r % 2:Nat):Int):=(by omega);by_cases ho:r % 2=1
   ·have hq:(((r % 2:Nat):Int)==1)=true:=by rw[ho];rfl
    have hx2:=u32_xor_nat (r / 2) 3988292384 (by omega) (by decide);have hn:B (k+1)=r / 2 ^^^ 3988292384:=by rw[HS.out];unfold jd;rw[if_pos ho]
    have Hn:=ah hn;clear hn;rw[←Hn.out]at hx2;have hx3:bits .xor .u32 ((r / 2:Nat):Int) 3988292384=(B (k+1):Int):=hx2;rw[ho]at tm hmd hq;have Xt:r / 2<4294967296:=(by omega);clear ho;generalize r / 2=q at *;have kq:IntKind.u32.wrap (q:Int)=(q:Int):=by rw[show IntKind.u32.wrap (q:Int)=(q:Int) % 4294967296 by simp[IntKind.wrap,IntKind.bits,IntKind.signed]];omega
    go_wp2_with fail;go_round
    case rel=>exact ⟨k+1,by omega,rfl,by go_num⟩
    case measure=>simp[intOf];omega
   ·have hz:r % 2=0:=by omega
    have hn:B (k+1)=r / 2:=by rw[HS.out];unfold jd;rw[if_neg (by omega),Nat.xor_zero]
    have Hn:=ah hn;rw[hz]at tm hmd;have Xt:r / 2<4294967296:=(by omega);clear hn ho hz;generalize r / 2=q at *;have kq:IntKind.u32.wrap (q:Int)=(q:Int):=by rw[show IntKind.u32.wrap (q:Int)=(q:Int) % 4294967296 by simp[IntKind.wrap,IntKind.bits,IntKind.signed]];omega
    go_wp2_with fail;go_round
    case rel=>exact ⟨k+1,by omega,by rw[Hn.out],by go_num⟩
    case measure=>simp[intOf];omega
  ·obtain rfl:k=8:=by omega
   have H9:Hid (jY c x=B 8):=ah H8.out.symm;go_wp2_with fail;go_ret;rw[H9.out];exact ⟨rfl,rfl⟩
theorem Sm (D:Nat->Prop) (A:Option Addr) (n c:Nat) (xs:List Nat) (W:World) (hr:Rd W D 1 A n (bl xs)) (ok:okB xs) (hl:xs.length=n) (hn:n<=1000000000):
 Calls Tryz.prog 195 #[.slice A n c] W fun e w'=>e=.returned (.int .u32 (sumF xs:Int))/\W=w':=by
 subst hl;have Hok:=ah ok;have HF:=ah (show sumF xs=4294967295-iR 4294967295 (xs.take xs.length) by rw[List.take_length];rfl);go_enter Tryz.func195,Tryz.ntmps195;go_wp2_with fail;go_loop [3,8] (fun s3 s8=>∃k:Nat,k<=xs.length/\s3=.int .u32 (iR 4294967295 (xs.take k):Int)/\s8=.int .i64 (k:Int)) (fun _ s8=>xs.length-(intOf s8).toNat)
 case atStart=>exact ⟨0,Nat.zero_le _,rfl,rfl⟩
 case round=>
  obtain ⟨k,hk,rfl,rfl⟩:=hrel;have hcl:iR 4294967295 (xs.take k)<4294967296:=Gs (by decide) fun x hx=>Hok.out x (List.mem_of_mem_take hx);by_cases hlt:k<xs.length
  ·obtain ⟨ad,rfl,_,hcell⟩:=hr.2 (by omega)
   have hc0:=hcell k _ (K_ hlt);have hx:=z16 Hok.out k
   have hs:iR 4294967295 (xs.take (k+1))=jY (iR 4294967295 (xs.take k)) (xs.getD k 0):=by
    have e:xs.getD k 0=xs[k]:=(by simp[List.getD,hlt]);rw[List.take_succ_eq_append_getElem hlt,yL,e];rfl
   have HS:=ah hs;clear hs hcell;generalize xs.getD k 0=x at *;generalize iR 4294967295 (xs.take k)=r at *;have hcall:=MN r x W hcl hx;rw[←HS.out]at hcall;have eP:=ah hcall;clear hcall;go_wp2_with fail;with_reducible refine eP.out.mono ?_
   rintro e w1 ⟨rfl,rfl⟩;go_wp2_with fail;go_round
   case rel=>exact ⟨k+1,by omega,rfl,by go_num⟩
   case measure=>simp[intOf];omega
  ·obtain rfl:xs.length=k:=by omega
   have hnot:=vS _ hcl;have H9:=HF.out;generalize iR 4294967295 (xs.take xs.length)=r at *;have HR:=ah H9;clear H9 HF;go_wp2_with fail;go_ret;rw[HR.out];exact ⟨rfl,rfl⟩
theorem yS (s:Nat) (W:World) (hs:s<4294967296):
 Calls Tryz.prog 55 #[.int .u32 (s:Int)] W (gQ W 5 1 4 (bl (four s))):=by
 obtain ⟨k0,k1,k2,k3⟩:=FW s
 have ho:ak W (W.alloc (.cells #[.int .u8 ((s % 256:Nat):Int),.int .u8 ((s / 256 % 256:Nat):Int),.int .u8 ((s / 65536 % 256:Nat):Int),.int .u8 ((s / 16777216 % 256:Nat):Int)] 5)) 5 1 (.slice (some ⟨W.heap.size,0,none⟩) 4 4) 4 (bl (four s)):=
  ⟨YS W _ _ 1 _ 4 (Nat.le_refl _) (by simp[maxLen]) (by simp),(Ch.refl _ W).alloc _⟩
 have Ho:=ah ho;clear ho;go_enter Tryz.func55,Tryz.ntmps55;go_wp2_with fail;go_ret;exact gQ.rJ Ho.out (by simp[Value.ownBlock])
theorem yP (D:Nat->Prop) (A:Option Addr) (n c:Nat) (xs:List Nat) (W:World) (hr:Rd W D 1 A n (bl xs)) (ok:okB xs) (hl:xs.length=n) (hn:n<=1000000):
 Calls Tryz.prog 126 #[.slice A n c] W (gQ W 5 1 (dR xs).length (bl (dR xs))):=by
 obtain ⟨i0,hi0,hz0,hz1,hz2⟩:=info_parts Tryz.info5;have htw:=twin_any D A n c xs W hr (by omega);have hsum:=fun w (nx:Nx W w)=>Sm D A n c xs w (hr.nx (by decide) nx) ok hl (by omega);have hsl:=vU xs;have hfo:=fun w=>yS (sumF xs) w hsl;have HE:=ah (show bl (dR xs)=bl xs++bl (four (sumF xs)) by unfold dR bl;rw[List.map_append]);have HL:=ah (Iz xs);have Htw:=ah htw;have abf:=ah hsum;have Hfo:=ah hfo;have Hl:=ah hl;clear htw hsum hfo hl;generalize sumF xs=s at *;go_enter Tryz.func126,Tryz.ntmps126;go_wp2_with fail;with_reducible refine Htw.out.mono ?_
 rintro e w1 ⟨k1,cap1,rfl,hk1,hk1',o1,r1,n1⟩;have oX:ak W w1 5 1 (.slice (some ⟨k1,0,none⟩) xs.length cap1) xs.length (bl xs):=⟨o1,n1⟩;go_wp2_with fail;with_reducible refine (abf.out _ n1).mono ?_
 rintro e w2 ⟨rfl,rfl⟩;go_wp2_with fail;with_reducible refine (Hfo.out _).mono ?_
 rintro e w2 ⟨k2,cap2,rfl,o2,hk2,hk2',hc2,_⟩;have oX2:=oX.tr o2.nx;have r2:=o2.iy;have hxl:xs.length<=1000000:=by rw[Hl.out];omega
 clear oX o1 r1 n1 o2 Htw abf Hfo;go_wp2_with (at_builtin;refine z05 rfl (.tmp 4) (.tmp 7) _ rfl 5 i0 _ 1 1 Tryz.underlying26 hi0 hz0 hz1 hz2 rfl (by omega) rfl oX2 _ (some ⟨k2,0,none⟩) 4 cap2 (bl (four s)) rfl r2 (iL _) (by simp only[maxLen];omega) (by omega) ?_;intro v3 w3 o3 m3)
 go_ret;rw[HE.out,HL.out];exact gQ.ji o3 (by omega)
theorem tV (W0 w:World) (v:Value) (X:List Nat) (n:Nat) (o:ak W0 w 5 1 v X.length (bl X)) (hX:X.length<=100000000) (hn:n<=9223372036854775807):
 Calls Tryz.prog 189 #[v,.int .i64 (n:Int)] w (gQ W0 5 1 (X++aj n).length (bl (X++aj n))):=by
 obtain ⟨i0,hi0,hz0,hz1,hz2⟩:=info_parts Tryz.info5;obtain ⟨A,c,rfl,hc,_⟩:=o.form;have kw:IntKind.u64.wrap (n:Int)=(n:Int):=by rw[IntKind.wrap_u64];omega
 have mD:=ah (oD n w (by omega));have hpl:=z04 (n:=n) (by omega);have HE:=ah (show bl (X++aj n)=bl X++bl (aj n) by simp[bl]);go_enter Tryz.func189,Tryz.ntmps189;go_wp2_with fail;with_reducible refine mD.out.mono ?_
 rintro e w2 ⟨k2,cap2,rfl,o2,hk2,hk2',hc2,_⟩;have oX2:=o.tr o2.nx;have r2:=o2.iy;clear o2 mD;go_wp2_with (at_builtin;refine z05 rfl (.tmp 5) (.tmp 8) _ rfl 5 i0 _ 1 1 Tryz.underlying26 hi0 hz0 hz1 hz2 rfl (by omega) rfl oX2 _ (some ⟨k2,0,none⟩) (aj n).length cap2 (bl (aj n)) rfl r2 (iL _) (by simp only[maxLen];omega) (by omega) ?_;intro v3 w3 o3 m3)
 go_ret;rw[HE.out,List.length_append];exact gQ.ji o3 (by omega)
end Go.Proofs.YtpakjclpjcngmaaGreat
