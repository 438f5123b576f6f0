/- Contracts and plain laws that the last text rests on. Conditions: each theorem states its own. -/
import Derived.Test.YtpakjclpjcngmaaGreatKdQ4
import Derived.Test.YtpakjclpjcngmaaGreatKdQ5
import Derived.IntWalk
import Derived.Lib.Varint
import Derived.Lib.Zigzag
import Derived.Deep.CutBlock
import Derived.Deep.DeepCutAuto
import Derived.Deep.RegionLaw
import Derived.BigRegion
set_option maxRecDepth 100000
set_option maxHeartbeats 8000000
set_option linter.unusedVariables false
namespace Go.Proofs.YtpakjclpjcngmaaGreat
open Go.RowKit
theorem rQ.ZV {W w:World} {e:TypeId} {n:Nat} {v:Value} {xs:List Value} (h:ay W w e 1 v n xs) (hn:0<n):rQ W e 1 n xs (.returned v) w:=by
 obtain ⟨g,cap,hv,_,_⟩:=h.own.form hn;exact rQ.CP h (by rw[hv];simp[Value.ownBlock])
theorem Yv (v:Nat) (W:World) (hv:v<18446744073709551616):Calls Tryz.prog 91 #[.int .u64 (v:Int)] W (rQ W 5 1 (ak v).length (bl (ak v))):=by
 obtain ⟨i0,hi0,hz0,hz1,hz2⟩:=info_parts Tryz.info5;have h0:=ay.nil W W 5 1 (Ch.refl _ W);have hl10:=(z05 hv).2;go_enter Tryz.func91,Tryz.ntmps91;go_wp2_with fail;go_loopw [0,3] (fun s0 u wr=>∃(r:Nat) (pre:List Nat),r<18446744073709551616/\s0=.int .u64 (r:Int)/\ay W wr 5 1 u pre.length (bl pre)/\Hid (ak v=pre++ak r)/\pre.length+(ak r).length<=10) (fun s0 _ _=>(intOf s0).toNat)
 case atStart=>exact ⟨v,[],hv,rfl,by simpa [bl]using h0,ah rfl,by simpa using hl10⟩
 case round=>
  clear h0;obtain ⟨w1,rfl⟩:∃w1:World,w1=wr:=⟨_,rfl⟩;obtain ⟨r,pre,hr,rfl,ho,H,hlen⟩:=hrel
  have kw:IntKind.u8.wrap (r:Int)=((r % 256:Nat):Int):=by
   have:IntKind.u8.wrap (r:Int)=(r:Int) % 256:=(by simp[IntKind.wrap,IntKind.bits,IntKind.signed]);omega
  have hpl:=(z05 hr).1;by_cases h:128<=r
  ·have hb:=z5h h
   have hor:bits .or .u8 ((r % 256:Nat):Int) 128=((128+r % 128:Nat):Int):=by
    rw[Lib.u8_or128_any _ (by omega) (by omega)];omega
   have hdiv:(r:Int) / 128=((r / 128:Nat):Int):=(by omega);have e2:bl (pre++[128+r % 128])=bl pre++[.int .u8 ((128+r % 128:Nat):Int)]:=(by simp[bl]);have hlb:(ak r).length=(ak (r / 128)).length+1:=by rw[hb];rfl
   have hm:r / 128<r:=(by omega);have hr2:r / 128<18446744073709551616:=(by omega);have Hb:=ah hb;have He2:=ah e2;clear hb e2;generalize r / 128=q at *;generalize 128+r % 128=y at *;generalize r % 256=z at *;go_wp2_with (at_builtin;refine z08 rfl (.tmp 6) (.tmp 10) _ rfl 5 i0 _ 1 Tryz.underlying26 hi0 hz0 hz1 hz2 rfl _ rfl rfl ho rfl (by simp only[maxLen];omega) (by omega) ?_;intro v' w' ho2 hmv)
   go_roundw
   case rel=>exact ⟨q,pre++[y],hr2,rfl,by rw[List.length_append,He2.out];exact ho2,ah (by rw[H.out,Hb.out];simp),by rw[List.length_append];simp only[List.length_cons,List.length_nil];omega⟩
   case measure=>simp[intOf];omega
  ·have hs:=Zz (show r<128 by omega)
   have e2:bl (pre++[r])=bl pre++[.int .u8 (r:Int)]:=(by simp[bl]);rw[show r % 256=r by omega]at kw;have He2:=ah e2;have Hs:=ah hs;clear e2 hs;go_wp2_with (at_builtin;refine z08 rfl (.tmp 14) (.tmp 17) _ rfl 5 i0 _ 1 Tryz.underlying26 hi0 hz0 hz1 hz2 rfl _ rfl rfl ho rfl (by simp only[maxLen];omega) (by omega) ?_;intro v' w' ho2 hmv)
   go_ret;rw[H.out,Hs.out,List.length_append,He2.out];exact rQ.ZV ho2 (Nat.succ_pos _)
theorem u8_and127 (x:Nat) (h:x<256):bits .and .u8 (x:Int) 127=((x % 128:Nat):Int):=by
 have e:=u8_and_nat x 127 h (by decide);rw[show x&&& 127=x % 128 from Nat.and_two_pow_sub_one_eq_mod x 7]at e;exact e
theorem FI (a y i:Nat) (ha:a<2 ^ i) (h:a+y * 2 ^ i<18446744073709551616):bits .or .u64 (a:Int) ((y * 2 ^ i:Nat):Int)=((a+y * 2 ^ i:Nat):Int):=by
 have h2:y * 2 ^ i<18446744073709551616:=by omega
 have h3:a<18446744073709551616:=by omega
 have e:=u64_or_nat a (y * 2 ^ i) h3 h2
 have e2:a|||y * 2 ^ i=a+y * 2 ^ i:=by
  rw[Nat.or_comm,Nat.mul_comm y,←Nat.two_pow_add_eq_or_of_lt ha,Nat.add_comm]
 rw[e2]at e;exact e
def XY (t:Nat×Nat×Int) (W:World) (e:Ending) (w':World):Prop:=e=.returned (.tuple #[.int .u64 (t.1:Int),.int .i64 (t.2.1:Int),.int .i64 t.2.2])/\W=w'
theorem lZ (D:Nat->Prop) (A:Option Addr) (n c:Nat) (b:List Nat) (p:Nat) (W:World) (hr:Rd W D 1 A n (bl b)) (ok:okB b) (hl:b.length=n) (hn:n<=1000000000) (hc:n<=c) (hp:p<=1000000000):
 Calls Tryz.prog 196 #[.slice A n c,.int .i64 (p:Int)] W (XY (aO b p) W):=by
 by_cases hpn:n<=p
 ·have e:aO b p=(0,0,3):=by unfold aO;rw[if_pos (.inr (by omega))]
  rw[e];unfold XY;go_enter Tryz.func196,Tryz.ntmps196;go_wp2_with fail;go_ret3;exact ⟨rfl,rfl⟩
 ·have e:aO b p=lT (b.drop p) 0 0:=by unfold aO;rw[if_neg (by omega),Int.toNat_natCast]
  rw[e];have hct:=hr.cut (k:=p) (cap:=c) (by omega) hc;rw[Nat.mul_one,show (bl b).drop p=bl (b.drop p) by simp[bl,List.map_drop],if_neg (by omega)]at hct;obtain ⟨m,hm⟩:∃m,n=p+m:=⟨n-p,by omega⟩;have hdl:(b.drop p).length=m:=by rw[List.length_drop];omega
  have KL:okB (b.drop p):=fun x hx=>ok x (List.mem_of_mem_drop hx);rw[show n-p=m by omega]at hct;have hm0:0<m:=by omega
  generalize b.drop p=tl at *;subst hm;obtain ⟨ad0,hA, -⟩:=hct.2 hm0;rw[hA]at hct;have hcp:¬c=p:=by omega
  clear hl hr ok e;have Hdl:=ah hdl;clear hdl;unfold XY;go_enter Tryz.func196,Tryz.ntmps196;go_wp2_with fail;go_loopw [7,22] (fun s7 i wr=>∃(k a:Nat),k<=m/\k<=9/\i=.int .i64 (k:Int)/\s7=.int .u64 (a:Int)/\wr=W/\a<2 ^ (7 * k)/\Hid (lT tl 0 0=lT (tl.drop k) k a)) (fun _ i _=>m-(intOf i).toNat)
  case atStart=>exact ⟨0,0,by omega,by omega,rfl,rfl,rfl,by decide,ah rfl⟩
  case round=>
   obtain ⟨k,a,hk,hk9,rfl,rfl,mX,ha,H⟩:=hrel;rw[mX];clear mX;by_cases hlt:k<m
   ·obtain ⟨ad,u,hA2,IB,hu,hcx⟩:=hct.at_ hlt
    injection hA2 with hA2;subst hA2;have hkl:k<tl.length:=by rw[Hdl.out];exact hlt
    rw[Pn hkl]at hu;injection hu with hu;subst hu;have hx:=z19 KL k
    have hstep:lT tl 0 0=lT (tl.getD k 0::tl.drop (k+1)) k a:=by
     rw[H.out,List.drop_eq_getElem_cons hkl];simp[List.getD,hkl]
    simp only[lT]at hstep;have hand:=u8_and127 _ hx;generalize tl.getD k 0=x at *
    have hpw:a+(x % 128) * 2 ^ (7 * k)<2 ^ (7 * (k+1)):=by
     have:x % 128<128:=Nat.mod_lt _ (by decide);have h3:(x % 128) * 2 ^ (7 * k)<=127 * 2 ^ (7 * k):=Nat.mul_le_mul_right _ (by omega);rw[ZN];omega
    have zA:a+(x % 128) * 2 ^ (7 * k)<18446744073709551616->bits .or .u64 (a:Int) (IntKind.u64.wrap ((x:Int) % 128 * 2 ^ (7 * k)))=((a+(x % 128) * 2 ^ (7 * k):Nat):Int):=fun h=>by
     have e1:((x:Int) % 128 * 2 ^ (7 * k))=(((x % 128) * 2 ^ (7 * k):Nat):Int):=by push_cast;rfl
     have e2:IntKind.u64.wrap ((((x % 128) * 2 ^ (7 * k):Nat)):Int)=(((x % 128) * 2 ^ (7 * k):Nat):Int):=by rw[IntKind.wrap_u64];omega
     rw[e1,e2];exact FI a (x % 128) (7 * k) ha h
    by_cases h9:k=9
    ·subst h9
     simp[Addr.add]at hcx;by_cases hx1:1<x
     ·rw[if_pos (.inl ⟨rfl,hx1⟩)]at hstep
      have jv:=ah hstep;clear hstep zA hand;go_wp2_with fail;go_ret3;exact ⟨by rw[jv.out];rfl,rfl⟩
     ·by_cases hx0:x=0
      ·rw[if_pos (.inr ⟨hx0,by omega⟩)]at hstep
       have jv:=ah hstep;subst hx0;clear hstep zA hand;go_wp2_with fail;go_ret3;exact ⟨by rw[jv.out];rfl,rfl⟩
      ·obtain rfl:x=1:=by omega
       rw[if_neg (by omega),if_pos (by omega)]at hstep
       have hor:=zA (by
        have e:(2:Nat) ^ (7 * 9)=9223372036854775808:=(by decide);rw[e]at ha ⊢;omega)
       have jv:=ah hstep
       have hor2:bits .or .u64 (a:Int) 9223372036854775808=((a+9223372036854775808:Nat):Int):=by
        rw[show (2:Nat) ^ (7 * 9)=9223372036854775808 by decide]at hor;have e1:IntKind.u64.wrap (((1:Nat):Int) % 128 * 2 ^ (7 * 9))=9223372036854775808:=(by decide);rw[e1]at hor;simpa using hor
       clear hstep zA hand hor hpw ha;go_wp2_with fail;go_ret3;have e0:IntKind.u64.wrap (IntKind.u64.wrap (bits .and .u8 1 127) * 9223372036854775808)=9223372036854775808:=(by decide);exact ⟨by rw[jv.out];simp[e0,hor2],rfl⟩
    ·have hq9:((k:Int)==9)=false:=by rw[beq_eq_false_iff_ne];omega
     have hp63:2 ^ (7 * (k+1))<=2 ^ 63:=Nat.pow_le_pow_right (by decide) (by omega);rw[show 2 ^ 63=9223372036854775808 by decide]at hp63;have hor:=zA (by omega);by_cases hx0:x=0
     ·by_cases hk0:k=0
      ·subst hk0
       subst hx0;rw[if_neg (by omega),if_pos (by omega)]at hstep;have ha0:a=0:=(by simpa using ha);subst ha0;have jv:=ah hstep;have hzz:ad0.add 0=ad0:=(by simp[Addr.add]);rw[hzz]at hcx;clear hstep zA hand hor hpw ha hzz;go_wp2_with fail;go_ret3;have e0:bits .or .u64 0 (IntKind.u64.wrap (IntKind.u64.wrap (bits .and .u8 0 127)))=0:=(by decide);exact ⟨by rw[jv.out];simp[e0],rfl⟩
      ·rw[if_pos (.inr ⟨hx0,by omega⟩)]at hstep
       subst hx0;have hk0':0<(k:Int):=(by omega);have jv:=ah hstep;clear hstep zA hand hor;go_wp2_with fail;go_ret3;exact ⟨by rw[jv.out];rfl,rfl⟩
     ·have hq0:((x:Int)==0)=false:=by rw[beq_eq_false_iff_ne];omega
      rw[if_neg (by omega)]at hstep;by_cases h128:x<128
      ·rw[if_pos h128]at hstep
       rw[show x % 128=x by omega]at hor;have jv:=ah hstep;clear hstep zA;generalize x * 2 ^ (7 * k)=sh at *;go_wp2_with fail;go_ret3;exact ⟨by rw[jv.out];simp,rfl⟩
      ·rw[if_neg h128]at hstep
       have jv:=ah hstep;clear hstep zA;generalize (x % 128) * 2 ^ (7 * k)=sh at *;go_wp2_with fail;go_roundw
       case rel=>exact ⟨k+1,a+sh,by omega,by omega,by go_num,rfl,trivial,hpw,jv⟩
       case measure=>simp[intOf];omega
   ·obtain rfl:k=m:=by omega
    have he:lT tl 0 0=(0,0,3):=by
     rw[H.out,List.drop_of_length_le (by rw[Hdl.out];exact Nat.le_refl _)];rfl
    have He:=ah he;clear he;go_wp2_with fail;go_ret3;exact ⟨by rw[He.out];rfl,rfl⟩
theorem PU (x:Int) (h0: -9223372036854775808<=x) (h1:x<=9223372036854775807):
 bits .xor .u64 (IntKind.u64.wrap (IntKind.u64.wrap x * 2)) (IntKind.u64.wrap (x / 9223372036854775808))=(zig x:Int):=by
 by_cases h:0<=x
 ·obtain ⟨n,rfl⟩:=Int.eq_ofNat_of_zero_le h
  have e1:IntKind.u64.wrap (IntKind.u64.wrap (n:Int) * 2)=((2 * n:Nat):Int):=by rw[IntKind.wrap_u64,IntKind.wrap_u64];omega
  have e2:IntKind.u64.wrap ((n:Int) / 9223372036854775808)=((0:Nat):Int):=by rw[IntKind.wrap_u64];omega
  rw[e1,e2,u64_xor_nat _ _ (by omega) (by decide),Nat.xor_zero];unfold zig;rw[if_pos (by omega)];omega
 ·have e1:IntKind.u64.wrap (IntKind.u64.wrap x * 2)=(((2 * x+18446744073709551616).toNat:Nat):Int):=by rw[IntKind.wrap_u64,IntKind.wrap_u64];omega
  have e2:IntKind.u64.wrap (x / 9223372036854775808)=((2 ^ 64-1:Nat):Int):=by rw[IntKind.wrap_u64];omega
  rw[e1,e2,u64_xor_nat _ _ (by omega) (by decide),Nat.xor_comm,Lib.xor_ones64 _ (by omega)];unfold zig;rw[if_neg h];omega
theorem zy (a b:Int):bits .xor .i64 a b=bits .xor .i64 b a:=by
 show IntKind.i64.wrap ((BitVec.ofInt 64 a ^^^ BitVec.ofInt 64 b).toNat:Int)=IntKind.i64.wrap ((BitVec.ofInt 64 b ^^^ BitVec.ofInt 64 a).toNat:Int)
 rw[BitVec.xor_comm]
theorem zx (n:Nat) (h:n<9223372036854775808):bits .xor .i64 (n:Int) 0=(n:Int):=by
 show IntKind.i64.wrap ((BitVec.ofInt 64 (n:Int) ^^^ BitVec.ofInt 64 0).toNat:Int)=_
 have e:(BitVec.ofInt 64 (n:Int)).toNat=n:=by rw[BitVec.ofInt_natCast,BitVec.toNat_ofNat];exact Nat.mod_eq_of_lt (by omega)
 have e2:BitVec.ofInt 64 0=0#64:=by decide
 rw[e2,BitVec.xor_zero,e,IntKind.wrap_i64];omega
theorem PW (u:Nat) (h:u<18446744073709551616):bits .xor .i64 ((u:Int) / 2) (wrap64 (-wrap64 (bits .and .u64 (u:Int) 1)))=zag u:=by
 rw[Lib.u64_and1 _ (by omega) (by omega)];unfold zag;by_cases h1:u % 2=1
 ·rw[if_pos h1,show (u:Int) % 2=1 by omega,show wrap64 (-wrap64 1)= -1 by decide+kernel,zy,show (u:Int) / 2=((u / 2:Nat):Int) by omega,Lib.i64_not _ (by omega)]
 ·rw[if_neg h1,show (u:Int) % 2=0 by omega,show wrap64 (-wrap64 0)=0 by decide+kernel,show (u:Int) / 2=((u / 2:Nat):Int) by omega,zx _ (by omega)]
theorem RI (x:Int) (w:World) (h0: -9223372036854775808<=x) (h1:x<=9223372036854775807):Calls Tryz.prog 259 #[.int .i64 x] w fun e w'=>e=.returned (.int .u64 (zig x:Int))/\w=w':=by
 have H:=ah (PU x h0 h1);go_enter Tryz.func259,Tryz.ntmps259;go_wp2_with fail;go_ret;exact ⟨KD H.out,rfl⟩
theorem RJ (u:Nat) (w:World) (h:u<18446744073709551616):Calls Tryz.prog 243 #[.int .u64 (u:Int)] w fun e w'=>e=.returned (.int .i64 (zag u))/\w=w':=by
 have H:=ah (PW u h);go_enter Tryz.func243,Tryz.ntmps243;go_wp2_with fail;go_ret;exact ⟨KD H.out,rfl⟩
theorem Nr (x:Int) (W:World) (h0: -9223372036854775808<=x) (h1:x<=9223372036854775807):Calls Tryz.prog 213 #[.int .i64 x] W (rQ W 5 1 (ak (zig x)).length (bl (ak (zig x)))):=by
 have hz:=Ym h0 h1;go_enter Tryz.func213,Tryz.ntmps213;go_wp2_with fail;with_reducible refine (RI x _ h0 h1).mono ?_
 rintro e w1 ⟨rfl,rfl⟩;go_wp2_with fail;with_reducible refine (Yv _ _ hz).mono ?_
 rintro e w1 ⟨k,cap,rfl,h⟩;go_wp2_with fail;go_ret;exact ⟨k,cap,rfl,h⟩
def ITo (t:Nat×Nat×Int) (W:World) (e:Ending) (w':World):Prop:=e=.returned (.tuple #[.int .i64 (if t.2.2=0 then zag t.1 else 0),.int .i64 (if t.2.2=0 then (t.2.1:Int) else 0),.int .i64 t.2.2])/\W=w'
theorem yQ (D:Nat->Prop) (A:Option Addr) (n c:Nat) (b:List Nat) (p:Nat) (W:World) (hr:Rd W D 1 A n (bl b)) (ok:okB b) (hl:b.length=n) (hn:n<=1000000000) (hc:n<=c) (hp:p<=1000000000):
 Calls Tryz.prog 198 #[.slice A n c,.int .i64 (p:Int)] W (ITo (aO b p) W):=by
 have hu:=lZ D A n c b p W hr ok hl hn hc hp
 have hlt:(aO b p).1<18446744073709551616:=by
  unfold aO;split
  ·decide
  ·exact z5Q _ 0 0 (fun x hx=>ok x (List.mem_of_mem_drop hx)) (by omega) (by decide)
 generalize aO b p=t at *;obtain ⟨v,k,e⟩:=t;simp only at hlt;unfold ITo;unfold XY at hu;simp only at hu ⊢;by_cases he:e=0
 ·subst he
  have Hu:=ah hu;clear hu;go_enter Tryz.func198,Tryz.ntmps198;go_wp2_with fail;with_reducible refine Hu.out.mono ?_
  rintro e w1 ⟨rfl,rfl⟩;go_wp2_with fail;with_reducible refine (RJ v _ hlt).mono ?_
  rintro e w1 ⟨rfl,rfl⟩;go_wp2_with fail;go_ret3;exact ⟨by simp,rfl⟩
 ·have hne:(e !=0)=true:=by rw[bne_iff_ne];exact he
  have Hu:=ah hu;have He:=ah he;clear hu he;go_enter Tryz.func198,Tryz.ntmps198;go_wp2_with fail;with_reducible refine Hu.out.mono ?_
  rintro e w1 ⟨rfl,rfl⟩;go_wp2_with fail;go_ret3;exact ⟨by first|rfl|(rw[if_neg He.out,if_neg He.out];rfl),rfl⟩
structure aH (w:World) (D:Nat->Prop) (g:Nat) (A:Option Addr) (c:Nat) (xs:List Nat) (p:Nat) (e:Int):Prop where
 blk:aJ w g 176 #[.slice A xs.length c,.int .i64 (p:Int),.int .i64 e]
 rd:Rd w D 1 A xs.length (bl xs)
 out:∀k,D k->k≠g
 bnd:∀k,D k->k<w.heap.size
 ok:okB xs
 len:xs.length<=1000000000
 cap:xs.length<=c
 pos:p<=xs.length
theorem aH.nx {w w':World} {D:Nat->Prop} {g:Nat} {A:Option Addr} {c:Nat} {xs:List Nat} {p:Nat} {e:Int} (h:aH w D g A c xs p e) (n:Nx w w'):aH w' D g A c xs p e:=
 ⟨h.blk.nx n,h.rd.nx (by decide) n,h.out,fun k hk=>Nat.lt_of_lt_of_le (h.bnd k hk) n.size,h.ok,h.len,h.cap,h.pos⟩
theorem aH.ch {w w':World} {D S:Nat->Prop} {g:Nat} {A:Option Addr} {c:Nat} {xs:List Nat} {p:Nat} {e:Int} (h:aH w D g A c xs p e) (n:Ch S w w') (hg:¬S g) (hD:∀k,D k->¬S k):aH w' D g A c xs p e:=
 ⟨h.blk.ch n hg,h.rd.ch (by decide) n (fun k _ hk=>hD k hk),h.out,fun k hk=>Nat.lt_of_lt_of_le (h.bnd k hk) n.size,h.ok,h.len,h.cap,h.pos⟩
theorem aH.dX {w:World} {D:Nat->Prop} {g:Nat} {A:Option Addr} {c:Nat} {xs:List Nat} {p:Nat} {e:Int} (h:aH w D g A c xs p e) (p':Nat) (hp:p'<=xs.length):
 aH (w.setCell ⟨g,1,none⟩ (.int .i64 (p':Int))) D g A c xs p' e/\Ch (· =g) w (w.setCell ⟨g,1,none⟩ (.int .i64 (p':Int))):=by
 have hc:Ch (fun k=>k=g) w (w.setCell ⟨g,1,none⟩ (.int .i64 (p':Int))):=Ch.setCell (S:=fun k=>k=g) (Ch.refl _ w) (p:=⟨g,1,none⟩) (fun _=>rfl) _;exact ⟨⟨h.blk.dX 1 _,h.rd.ch (by decide) hc (fun k _ hk e=>h.out k hk e),h.out,fun k hk=>Nat.lt_of_lt_of_le (h.bnd k hk) hc.size,h.ok,h.len,h.cap,hp⟩,hc⟩
theorem aH.aey {w:World} {D:Nat->Prop} {g:Nat} {A:Option Addr} {c:Nat} {xs:List Nat} {p:Nat} {e:Int} (h:aH w D g A c xs p e) (e':Int):
 aH (w.setCell ⟨g,2,none⟩ (.int .i64 e')) D g A c xs p e'/\Ch (· =g) w (w.setCell ⟨g,2,none⟩ (.int .i64 e')):=by
 have hc:Ch (fun k=>k=g) w (w.setCell ⟨g,2,none⟩ (.int .i64 e')):=Ch.setCell (S:=fun k=>k=g) (Ch.refl _ w) (p:=⟨g,2,none⟩) (fun _=>rfl) _;exact ⟨⟨h.blk.dX 2 _,h.rd.ch (by decide) hc (fun k _ hk e=>h.out k hk e),h.out,fun k hk=>Nat.lt_of_lt_of_le (h.bnd k hk) hc.size,h.ok,h.len,h.cap,h.pos⟩,hc⟩
def cO (w:World) (D:Nat->Prop) (g:Nat) (A:Option Addr) (c:Nat) (xs:List Nat) (p:Nat) (e:Int) (w':World):Prop:=aH w' D g A c xs p e/\Ch (· =g) w w'
theorem cO.cur {w w':World} {D:Nat->Prop} {g:Nat} {A:Option Addr} {c:Nat} {xs:List Nat} {p:Nat} {e:Int} (h:cO w D g A c xs p e w'):aH w' D g A c xs p e:=h.1
theorem cO.gW {w w':World} {D:Nat->Prop} {g:Nat} {A:Option Addr} {c:Nat} {xs:List Nat} {p:Nat} {e:Int} (h:cO w D g A c xs p e w'):Ch (· =g) w w':=h.2
theorem cO.trans {a b d:World} {D:Nat->Prop} {g:Nat} {A:Option Addr} {c:Nat} {xs:List Nat} {p p':Nat} {e e':Int} (h:cO a D g A c xs p e b) (k:cO b D g A c xs p' e' d):cO a D g A c xs p' e' d:=⟨k.1,h.2.trans k.2 fun _ _ e=>e⟩
theorem cO.drewN {a b:World} {D:Nat->Prop} {g:Nat} {A:Option Addr} {c:Nat} {xs:List Nat} {p:Nat} {e:Int} (h:cO a D g A c xs p e b) (q:Nat):cO a D g A c xs p e (b.drewN q):=⟨h.1.nx ((Ch.refl _ b).drewN q),h.2.drewN q⟩
section
variable {w : World} {D : Nat → Prop} {g : Nat} {A : Option Addr} {c : Nat} {xs : List Nat} {p : Nat} {e : Int}
theorem cO.refl (h:aH w D g A c xs p e):cO w D g A c xs p e w:=⟨h,Ch.refl _ _⟩
theorem Zp (h:aH w D g A c xs p e):Calls Tryz.prog 129 #[.pointer (some ⟨g,0,none⟩)] w fun en w'=>en=.returned (.bool (decide (e≠0)))/\w=w':=by
 have d2:w.cell? ⟨g,2,none⟩=some (.int .i64 e):=h.blk.cell 2;clear h;by_cases he:e=0
 ·subst he
  go_enter Tryz.func129,Tryz.ntmps129;go_wp2_with fail;go_ret;exact ⟨by simp,rfl⟩
 ·have hne:(e !=0)=true:=by rw[bne_iff_ne];exact he
  have He:=ah he;clear he;go_enter Tryz.func129,Tryz.ntmps129;go_wp2_with fail;go_ret;exact ⟨by simp[He.out],rfl⟩
theorem z3C (h:aH w D g A c xs p e) (p':Nat) (hp:p'<=xs.length) (e':Int):Calls Tryz.prog 131 #[.pointer (some ⟨g,0,none⟩),.int .i64 (p':Int),.int .i64 e'] w fun en w'=>en=.returned (.tuple #[])/\cO w D g A c xs p' e' w':=by
 have hf:=h.blk.frozen;have d1:w.cell? ⟨g,1,none⟩=some (.int .i64 (p:Int)):=h.blk.cell 1;have d2:w.cell? ⟨g,2,none⟩=some (.int .i64 e):=h.blk.cell 2;have H:=ah h;clear h;go_enter Tryz.func131,Tryz.ntmps131;go_wp2_with fail;go_end0
 obtain ⟨h1,c1⟩:=H.out.dX p' hp;obtain ⟨h2,c2⟩:=h1.aey e';exact ⟨rfl,h2,c1.trans c2 fun _ _ e=>e⟩
theorem Je (h:aH w D g A c xs p e):Calls Tryz.prog 241 #[.pointer (some ⟨g,0,none⟩)] w fun en w'=>en=.returned (.int .i64 (p:Int))/\w=w':=by
 have d1:w.cell? ⟨g,1,none⟩=some (.int .i64 (p:Int)):=h.blk.cell 1;clear h;go_enter Tryz.func241,Tryz.ntmps241;go_wp2_with fail;go_ret;exact ⟨rfl,rfl⟩
def bg (n p:Nat) (e:Int):Int:=if e≠0 then e else if p<n then 5 else 0
theorem su (h:aH w D g A c xs p e):Calls Tryz.prog 65 #[.pointer (some ⟨g,0,none⟩)] w fun en w'=>en=.returned (.int .i64 (bg xs.length p e))/\Dr w w':=by
 have d0:w.cell? ⟨g,0,none⟩=some (.slice A xs.length c):=h.blk.cell 0;have d1:w.cell? ⟨g,1,none⟩=some (.int .i64 (p:Int)):=h.blk.cell 1;have d2:w.cell? ⟨g,2,none⟩=some (.int .i64 e):=h.blk.cell 2;have hcap:=h.cap;clear h;by_cases he:e=0
 ·have hE:bg xs.length p e=if p<xs.length then 5 else 0:=by unfold bg;rw[if_neg (by simpa using he)]
  have HE:=ah hE;subst he;clear hE;by_cases hp:p<xs.length
  ·have hq:decide ((p:Int)<(xs.length:Int))=true:=by simp;omega
   go_enter Tryz.func65,Tryz.ntmps65;go_wp2_with fail;go_quiet (fail)
   go_wp2_with fail;go_ret;exact ⟨by rw[HE.out,if_pos hp];rfl,Dr.CP _ _⟩
  ·have hq:decide ((p:Int)<(xs.length:Int))=false:=by simp;omega
   go_enter Tryz.func65,Tryz.ntmps65;go_wp2_with fail;go_quiet (fail)
   go_wp2_with fail;go_ret;exact ⟨by rw[HE.out,if_neg hp];rfl,Dr.CP _ _⟩
 ·have hE:bg xs.length p e=e:=by unfold bg;rw[if_pos (by simpa using he)]
  have HE:=ah hE;have hne:(e !=0)=true:=by rw[bne_iff_ne];exact he
  clear hE he;go_enter Tryz.func65,Tryz.ntmps65;go_wp2_with fail;go_ret;exact ⟨by rw[HE.out];rfl,Dr.refl _⟩
end
end Go.Proofs.YtpakjclpjcngmaaGreat
