/- Contracts and plain laws that the last text rests on. Conditions: each theorem states its own. -/
import Derived.Test.YtfljcllpmbnjaaaGreatKdQ3
import Derived.Test.YtfljcllpmbnjaaaGreatKdQ2
import Derived.IntWalk
import Derived.Lib.Varint
import Derived.Lib.Zigzag
import Derived.Deep.CutBlock
import Derived.Deep.DeepCutAuto
import Derived.Test.YtfljcllpmbnjaaaGreatKdPdCrc
set_option maxRecDepth 100000
set_option maxHeartbeats 8000000
set_option linter.unusedVariables false
namespace Go.Proofs.YtfljcllpmbnjaaaGreat
open Go.RowKit
theorem fZ.iK {W w:World} {e:TypeId} {n:Nat} {v:Value} {xs:List Value} (h:au W w e 1 v n xs) (hn:0<n):fZ W e 1 n xs (.returned v) w:=by
 obtain ⟨g,cap,hv,_,_⟩:=h.own.form hn;exact fZ.jG h (by rw[hv];simp[Value.ownBlock])
theorem Uf (v:Nat) (W:World) (hv:v<18446744073709551616):Calls Tryz.prog 44 #[.int .u64 (v:Int)] W (fZ W 5 1 (aj v).length (bl (aj v))):=by
 obtain ⟨i0,hi0,hz0,hz1,hz2⟩:=info_parts Tryz.info5;have h0:=au.nil W W 5 1 (Ch.refl _ W);have hl10:=(z07 hv).2;go_enter Tryz.func44,Tryz.ntmps44;go_wp2_with fail;go_loopw [0,3] (fun s0 u wr=>∃(r:Nat) (pre:List Nat),r<18446744073709551616/\s0=.int .u64 (r:Int)/\au W wr 5 1 u pre.length (bl pre)/\Hid (aj v=pre++aj r)/\pre.length+(aj r).length<=10) (fun s0 _ _=>(intOf s0).toNat)
 case atStart=>exact ⟨v,[],hv,rfl,by simpa [bl]using h0,ah rfl,by simpa using hl10⟩
 case round=>
  clear h0;obtain ⟨w1,rfl⟩:∃w1:World,w1=wr:=⟨_,rfl⟩;obtain ⟨r,pre,hr,rfl,ho,H,hlen⟩:=hrel
  have kw:IntKind.u8.wrap (r:Int)=((r % 256:Nat):Int):=by
   have:IntKind.u8.wrap (r:Int)=(r:Int) % 256:=(by simp[IntKind.wrap,IntKind.bits,IntKind.signed]);omega
  have hpl:=(z07 hr).1;by_cases h:128<=r
  ·have hb:=z35 h
   have hor:bits .or .u8 ((r % 256:Nat):Int) 128=((128+r % 128:Nat):Int):=by
    rw[Lib.u8_or128_any _ (by omega) (by omega)];omega
   have hdiv:(r:Int) / 128=((r / 128:Nat):Int):=(by omega);have e2:bl (pre++[128+r % 128])=bl pre++[.int .u8 ((128+r % 128:Nat):Int)]:=(by simp[bl]);have hlb:(aj r).length=(aj (r / 128)).length+1:=by rw[hb];rfl
   have hm:r / 128<r:=(by omega);have hr2:r / 128<18446744073709551616:=(by omega);have Hb:=ah hb;have He2:=ah e2;clear hb e2;generalize r / 128=q at *;generalize 128+r % 128=y at *;generalize r % 256=z at *;go_wp2_with (at_builtin;refine z02 rfl (.tmp 6) (.tmp 10) _ rfl 5 i0 _ 1 Tryz.underlying27 hi0 hz0 hz1 hz2 rfl _ rfl rfl ho rfl (by simp only[maxLen];omega) (by omega) ?_;intro v' w' ho2 hmv)
   go_roundw
   case rel=>exact ⟨q,pre++[y],hr2,rfl,by rw[List.length_append,He2.out];exact ho2,ah (by rw[H.out,Hb.out];simp),by rw[List.length_append];simp only[List.length_cons,List.length_nil];omega⟩
   case measure=>simp[intOf];omega
  ·have hs:=JF (show r<128 by omega)
   have e2:bl (pre++[r])=bl pre++[.int .u8 (r:Int)]:=(by simp[bl]);rw[show r % 256=r by omega]at kw;have He2:=ah e2;have Hs:=ah hs;clear e2 hs;go_wp2_with (at_builtin;refine z02 rfl (.tmp 14) (.tmp 17) _ rfl 5 i0 _ 1 Tryz.underlying27 hi0 hz0 hz1 hz2 rfl _ rfl rfl ho rfl (by simp only[maxLen];omega) (by omega) ?_;intro v' w' ho2 hmv)
   go_ret;rw[H.out,Hs.out,List.length_append,He2.out];exact fZ.iK ho2 (Nat.succ_pos _)
theorem u8_and127 (x:Nat) (h:x<256):bits .and .u8 (x:Int) 127=((x % 128:Nat):Int):=by
 have e:=u8_and_nat x 127 h (by decide);rw[show x&&& 127=x % 128 from Nat.and_two_pow_sub_one_eq_mod x 7]at e;exact e
theorem Bq (a y i:Nat) (ha:a<2 ^ i) (h:a+y * 2 ^ i<18446744073709551616):bits .or .u64 (a:Int) ((y * 2 ^ i:Nat):Int)=((a+y * 2 ^ i:Nat):Int):=by
 have h2:y * 2 ^ i<18446744073709551616:=by omega
 have h3:a<18446744073709551616:=by omega
 have e:=u64_or_nat a (y * 2 ^ i) h3 h2
 have e2:a|||y * 2 ^ i=a+y * 2 ^ i:=by
  rw[Nat.or_comm,Nat.mul_comm y,←Nat.two_pow_add_eq_or_of_lt ha,Nat.add_comm]
 rw[e2]at e;exact e
def Ai (t:Nat×Nat×Int) (W:World) (e:Ending) (w':World):Prop:=e=.returned (.tuple #[.int .u64 (t.1:Int),.int .i64 (t.2.1:Int),.int .i64 t.2.2])/\W=w'
theorem jO (D:Nat->Prop) (A:Option Addr) (n c:Nat) (b:List Nat) (p:Nat) (W:World) (hr:Rd W D 1 A n (bl b)) (ok:okB b) (hl:b.length=n) (hn:n<=1000000000) (hc:n<=c) (hp:p<=1000000000):
 Calls Tryz.prog 95 #[.slice A n c,.int .i64 (p:Int)] W (Ai (ay b p) W):=by
 by_cases hpn:n<=p
 ·have e:ay b p=(0,0,3):=by unfold ay;rw[if_pos (.inr (by omega))]
  rw[e];unfold Ai;go_enter Tryz.func95,Tryz.ntmps95;go_wp2_with fail;go_ret3;exact ⟨rfl,rfl⟩
 ·have e:ay b p=z04 (b.drop p) 0 0:=by unfold ay;rw[if_neg (by omega),Int.toNat_natCast]
  rw[e];have hct:=hr.cut (k:=p) (cap:=c) (by omega) hc;rw[Nat.mul_one,show (bl b).drop p=bl (b.drop p) by simp[bl,List.map_drop],if_neg (by omega)]at hct;obtain ⟨m,hm⟩:∃m,n=p+m:=⟨n-p,by omega⟩;have hdl:(b.drop p).length=m:=by rw[List.length_drop];omega
  have AO:okB (b.drop p):=fun x hx=>ok x (List.mem_of_mem_drop hx);rw[show n-p=m by omega]at hct;have hm0:0<m:=by omega
  generalize b.drop p=tl at *;subst hm;obtain ⟨ad0,hA, -⟩:=hct.2 hm0;rw[hA]at hct;have hcp:¬c=p:=by omega
  clear hl hr ok e;have UQ:=ah hdl;clear hdl;unfold Ai;go_enter Tryz.func95,Tryz.ntmps95;go_wp2_with fail;go_loopw [7,22] (fun s7 i wr=>∃(k a:Nat),k<=m/\k<=9/\i=.int .i64 (k:Int)/\s7=.int .u64 (a:Int)/\wr=W/\a<2 ^ (7 * k)/\Hid (z04 tl 0 0=z04 (tl.drop k) k a)) (fun _ i _=>m-(intOf i).toNat)
  case atStart=>exact ⟨0,0,by omega,by omega,rfl,rfl,rfl,by decide,ah rfl⟩
  case round=>
   obtain ⟨k,a,hk,hk9,rfl,rfl,iC,ha,H⟩:=hrel;rw[iC];clear iC;by_cases hlt:k<m
   ·obtain ⟨ad,u,hA2,kN,hu,hcx⟩:=hct.at_ hlt
    injection hA2 with hA2;subst hA2;have hkl:k<tl.length:=by rw[UQ.out];exact hlt
    rw[tV hkl]at hu;injection hu with hu;subst hu;have hx:=uf AO k
    have hstep:z04 tl 0 0=z04 (tl.getD k 0::tl.drop (k+1)) k a:=by
     rw[H.out,List.drop_eq_getElem_cons hkl];simp[List.getD,hkl]
    simp only[z04]at hstep;have hand:=u8_and127 _ hx;generalize tl.getD k 0=x at *
    have hpw:a+(x % 128) * 2 ^ (7 * k)<2 ^ (7 * (k+1)):=by
     have:x % 128<128:=Nat.mod_lt _ (by decide);have h3:(x % 128) * 2 ^ (7 * k)<=127 * 2 ^ (7 * k):=Nat.mul_le_mul_right _ (by omega);rw[KW];omega
    have vV:a+(x % 128) * 2 ^ (7 * k)<18446744073709551616->bits .or .u64 (a:Int) (IntKind.u64.wrap ((x:Int) % 128 * 2 ^ (7 * k)))=((a+(x % 128) * 2 ^ (7 * k):Nat):Int):=fun h=>by
     have e1:((x:Int) % 128 * 2 ^ (7 * k))=(((x % 128) * 2 ^ (7 * k):Nat):Int):=by push_cast;rfl
     have e2:IntKind.u64.wrap ((((x % 128) * 2 ^ (7 * k):Nat)):Int)=(((x % 128) * 2 ^ (7 * k):Nat):Int):=by rw[IntKind.wrap_u64];omega
     rw[e1,e2];exact Bq a (x % 128) (7 * k) ha h
    by_cases h9:k=9
    ·subst h9
     simp[Addr.add]at hcx;by_cases hx1:1<x
     ·rw[if_pos (.inl ⟨rfl,hx1⟩)]at hstep
      have iw:=ah hstep;clear hstep vV hand;go_wp2_with fail;go_ret3;exact ⟨by rw[iw.out];rfl,rfl⟩
     ·by_cases hx0:x=0
      ·rw[if_pos (.inr ⟨hx0,by omega⟩)]at hstep
       have iw:=ah hstep;subst hx0;clear hstep vV hand;go_wp2_with fail;go_ret3;exact ⟨by rw[iw.out];rfl,rfl⟩
      ·obtain rfl:x=1:=by omega
       rw[if_neg (by omega),if_pos (by omega)]at hstep
       have hor:=vV (by
        have e:(2:Nat) ^ (7 * 9)=9223372036854775808:=(by decide);rw[e]at ha ⊢;omega)
       have iw:=ah hstep
       have hor2:bits .or .u64 (a:Int) 9223372036854775808=((a+9223372036854775808:Nat):Int):=by
        rw[show (2:Nat) ^ (7 * 9)=9223372036854775808 by decide]at hor;have e1:IntKind.u64.wrap (((1:Nat):Int) % 128 * 2 ^ (7 * 9))=9223372036854775808:=(by decide);rw[e1]at hor;simpa using hor
       clear hstep vV hand hor hpw ha;go_wp2_with fail;go_ret3;have e0:IntKind.u64.wrap (IntKind.u64.wrap (bits .and .u8 1 127) * 9223372036854775808)=9223372036854775808:=(by decide);exact ⟨by rw[iw.out];simp[e0,hor2],rfl⟩
    ·have hq9:((k:Int)==9)=false:=by rw[beq_eq_false_iff_ne];omega
     have hp63:2 ^ (7 * (k+1))<=2 ^ 63:=Nat.pow_le_pow_right (by decide) (by omega);rw[show 2 ^ 63=9223372036854775808 by decide]at hp63;have hor:=vV (by omega);by_cases hx0:x=0
     ·by_cases hk0:k=0
      ·subst hk0
       subst hx0;rw[if_neg (by omega),if_pos (by omega)]at hstep;have ha0:a=0:=(by simpa using ha);subst ha0;have iw:=ah hstep;have hzz:ad0.add 0=ad0:=(by simp[Addr.add]);rw[hzz]at hcx;clear hstep vV hand hor hpw ha hzz;go_wp2_with fail;go_ret3;have e0:bits .or .u64 0 (IntKind.u64.wrap (IntKind.u64.wrap (bits .and .u8 0 127)))=0:=(by decide);exact ⟨by rw[iw.out];simp[e0],rfl⟩
      ·rw[if_pos (.inr ⟨hx0,by omega⟩)]at hstep
       subst hx0;have hk0':0<(k:Int):=(by omega);have iw:=ah hstep;clear hstep vV hand hor;go_wp2_with fail;go_ret3;exact ⟨by rw[iw.out];rfl,rfl⟩
     ·have hq0:((x:Int)==0)=false:=by rw[beq_eq_false_iff_ne];omega
      rw[if_neg (by omega)]at hstep;by_cases h128:x<128
      ·rw[if_pos h128]at hstep
       rw[show x % 128=x by omega]at hor;have iw:=ah hstep;clear hstep vV;generalize x * 2 ^ (7 * k)=sh at *;go_wp2_with fail;go_ret3;exact ⟨by rw[iw.out];simp,rfl⟩
      ·rw[if_neg h128]at hstep
       have iw:=ah hstep;clear hstep vV;generalize (x % 128) * 2 ^ (7 * k)=sh at *;go_wp2_with fail;go_roundw
       case rel=>exact ⟨k+1,a+sh,by omega,by omega,by go_num,rfl,trivial,hpw,iw⟩
       case measure=>simp[intOf];omega
   ·obtain rfl:k=m:=by omega
    have he:z04 tl 0 0=(0,0,3):=by
     rw[H.out,List.drop_of_length_le (by rw[UQ.out];exact Nat.le_refl _)];rfl
    have He:=ah he;clear he;go_wp2_with fail;go_ret3;exact ⟨by rw[He.out];rfl,rfl⟩
theorem Js (x:Int) (h0: -9223372036854775808<=x) (h1:x<=9223372036854775807):
 bits .xor .u64 (IntKind.u64.wrap (IntKind.u64.wrap x * 2)) (IntKind.u64.wrap (x / 9223372036854775808))=(zig x:Int):=by
 by_cases h:0<=x
 ·obtain ⟨n,rfl⟩:=Int.eq_ofNat_of_zero_le h
  have e1:IntKind.u64.wrap (IntKind.u64.wrap (n:Int) * 2)=((2 * n:Nat):Int):=by rw[IntKind.wrap_u64,IntKind.wrap_u64];omega
  have e2:IntKind.u64.wrap ((n:Int) / 9223372036854775808)=((0:Nat):Int):=by rw[IntKind.wrap_u64];omega
  rw[e1,e2,u64_xor_nat _ _ (by omega) (by decide),Nat.xor_zero];unfold zig;rw[if_pos (by omega)];omega
 ·have e1:IntKind.u64.wrap (IntKind.u64.wrap x * 2)=(((2 * x+18446744073709551616).toNat:Nat):Int):=by rw[IntKind.wrap_u64,IntKind.wrap_u64];omega
  have e2:IntKind.u64.wrap (x / 9223372036854775808)=((2 ^ 64-1:Nat):Int):=by rw[IntKind.wrap_u64];omega
  rw[e1,e2,u64_xor_nat _ _ (by omega) (by decide),Nat.xor_comm,Lib.xor_ones64 _ (by omega)];unfold zig;rw[if_neg h];omega
theorem vU (a b:Int):bits .xor .i64 a b=bits .xor .i64 b a:=by
 show IntKind.i64.wrap ((BitVec.ofInt 64 a ^^^ BitVec.ofInt 64 b).toNat:Int)=IntKind.i64.wrap ((BitVec.ofInt 64 b ^^^ BitVec.ofInt 64 a).toNat:Int)
 rw[BitVec.xor_comm]
theorem vT (n:Nat) (h:n<9223372036854775808):bits .xor .i64 (n:Int) 0=(n:Int):=by
 show IntKind.i64.wrap ((BitVec.ofInt 64 (n:Int) ^^^ BitVec.ofInt 64 0).toNat:Int)=_
 have e:(BitVec.ofInt 64 (n:Int)).toNat=n:=by rw[BitVec.ofInt_natCast,BitVec.toNat_ofNat];exact Nat.mod_eq_of_lt (by omega)
 have e2:BitVec.ofInt 64 0=0#64:=by decide
 rw[e2,BitVec.xor_zero,e,IntKind.wrap_i64];omega
theorem Ju (u:Nat) (h:u<18446744073709551616):bits .xor .i64 ((u:Int) / 2) (wrap64 (-wrap64 (bits .and .u64 (u:Int) 1)))=zag u:=by
 rw[Lib.u64_and1 _ (by omega) (by omega)];unfold zag;by_cases h1:u % 2=1
 ·rw[if_pos h1,show (u:Int) % 2=1 by omega,show wrap64 (-wrap64 1)= -1 by decide+kernel,vU,show (u:Int) / 2=((u / 2:Nat):Int) by omega,Lib.i64_not _ (by omega)]
 ·rw[if_neg h1,show (u:Int) % 2=0 by omega,show wrap64 (-wrap64 0)=0 by decide+kernel,show (u:Int) / 2=((u / 2:Nat):Int) by omega,vT _ (by omega)]
theorem Le (x:Int) (w:World) (h0: -9223372036854775808<=x) (h1:x<=9223372036854775807):Calls Tryz.prog 105 #[.int .i64 x] w fun e w'=>e=.returned (.int .u64 (zig x:Int))/\w=w':=by
 have H:=ah (Js x h0 h1);go_enter Tryz.func105,Tryz.ntmps105;go_wp2_with fail;go_ret;exact ⟨UY H.out,rfl⟩
theorem Lh (u:Nat) (w:World) (h:u<18446744073709551616):Calls Tryz.prog 128 #[.int .u64 (u:Int)] w fun e w'=>e=.returned (.int .i64 (zag u))/\w=w':=by
 have H:=ah (Ju u h);go_enter Tryz.func128,Tryz.ntmps128;go_wp2_with fail;go_ret;exact ⟨UY H.out,rfl⟩
theorem Ht (x:Int) (W:World) (h0: -9223372036854775808<=x) (h1:x<=9223372036854775807):Calls Tryz.prog 73 #[.int .i64 x] W (fZ W 5 1 (aj (zig x)).length (bl (aj (zig x)))):=by
 have hz:=OG h0 h1;go_enter Tryz.func73,Tryz.ntmps73;go_wp2_with fail;with_reducible refine (Le x _ h0 h1).mono ?_
 rintro e w1 ⟨rfl,rfl⟩;go_wp2_with fail;with_reducible refine (Uf _ _ hz).mono ?_
 rintro e w1 ⟨k,cap,rfl,h⟩;go_wp2_with fail;go_ret;exact ⟨k,cap,rfl,h⟩
def UK (t:Nat×Nat×Int) (W:World) (e:Ending) (w':World):Prop:=e=.returned (.tuple #[.int .i64 (if t.2.2=0 then zag t.1 else 0),.int .i64 (if t.2.2=0 then (t.2.1:Int) else 0),.int .i64 t.2.2])/\W=w'
theorem vH (D:Nat->Prop) (A:Option Addr) (n c:Nat) (b:List Nat) (p:Nat) (W:World) (hr:Rd W D 1 A n (bl b)) (ok:okB b) (hl:b.length=n) (hn:n<=1000000000) (hc:n<=c) (hp:p<=1000000000):
 Calls Tryz.prog 96 #[.slice A n c,.int .i64 (p:Int)] W (UK (ay b p) W):=by
 have hu:=jO D A n c b p W hr ok hl hn hc hp
 have hlt:(ay b p).1<18446744073709551616:=by
  unfold ay;split
  ·decide
  ·exact Zy _ 0 0 (fun x hx=>ok x (List.mem_of_mem_drop hx)) (by omega) (by decide)
 generalize ay b p=t at *;obtain ⟨v,k,e⟩:=t;simp only at hlt;unfold UK;unfold Ai at hu;simp only at hu ⊢;by_cases he:e=0
 ·subst he
  have Hu:=ah hu;clear hu;go_enter Tryz.func96,Tryz.ntmps96;go_wp2_with fail;with_reducible refine Hu.out.mono ?_
  rintro e w1 ⟨rfl,rfl⟩;go_wp2_with fail;with_reducible refine (Lh v _ hlt).mono ?_
  rintro e w1 ⟨rfl,rfl⟩;go_wp2_with fail;go_ret3;exact ⟨by simp,rfl⟩
 ·have hne:(e !=0)=true:=by rw[bne_iff_ne];exact he
  have Hu:=ah hu;have He:=ah he;clear hu he;go_enter Tryz.func96,Tryz.ntmps96;go_wp2_with fail;with_reducible refine Hu.out.mono ?_
  rintro e w1 ⟨rfl,rfl⟩;go_wp2_with fail;go_ret3;exact ⟨by first|rfl|(rw[if_neg He.out,if_neg He.out];rfl),rfl⟩
theorem yH (v:Nat) (W:World) (hv:v<18446744073709551616):Calls Tryz.prog 78 #[.int .u64 (v:Int)] W (fZ W 5 1 (aj v).length (bl (aj v))):=by
 obtain ⟨i0,hi0,hz0,hz1,hz2⟩:=info_parts Tryz.info5;have h0:=au.lit W W 5 (Ch.refl _ W) 1;have hl10:=(z07 hv).2;go_enter Tryz.func78,Tryz.ntmps78;go_wp2_with fail;go_loopw [0,3] (fun s0 u wr=>∃(r:Nat) (pre:List Nat),r<18446744073709551616/\s0=.int .u64 (r:Int)/\au W wr 5 1 u pre.length (bl pre)/\Hid (aj v=pre++aj r)/\pre.length+(aj r).length<=10) (fun s0 _ _=>(intOf s0).toNat)
 case atStart=>exact ⟨v,[],hv,rfl,by simpa [bl]using h0,ah rfl,by simpa using hl10⟩
 case round=>
  clear h0;obtain ⟨w1,rfl⟩:∃w1:World,w1=wr:=⟨_,rfl⟩;obtain ⟨r,pre,hr,rfl,ho,H,hlen⟩:=hrel;have hpl:=(z07 hr).1;have td:(r:Int).tdiv 128=((r / 128:Nat):Int):=by rw[Int.tdiv_eq_ediv_of_nonneg (by omega)];omega
  have tm:(r:Int).tmod 128=((r % 128:Nat):Int):=by rw[Int.tmod_eq_emod_of_nonneg (by omega)];omega
  have hdiv:(r:Int) / 128=((r / 128:Nat):Int):=by omega
  have hmod:(r:Int) % 128=((r % 128:Nat):Int):=by omega
  by_cases h:128<=r
  ·have hb:=z35 h
   have e2:bl (pre++[128+r % 128])=bl pre++[.int .u8 ((128+r % 128:Nat):Int)]:=(by simp[bl]);have hlb:(aj r).length=(aj (r / 128)).length+1:=by rw[hb];rfl
   have hm:r / 128<r:=(by omega);have hr2:r / 128<18446744073709551616:=(by omega);have hq0:0<r / 128:=(by omega);have hx:r % 128<128:=Nat.mod_lt _ (by decide);have Hb:=ah hb;have He2:=ah e2;clear hb e2;generalize r / 128=q at *;generalize r % 128=z at *
   have kw:IntKind.u8.wrap ((128:Int)+(z:Int))=((128+z:Nat):Int):=by
    have:∀a:Int,IntKind.u8.wrap a=a % 256:=fun a=>by simp[IntKind.wrap,IntKind.bits,IntKind.signed]
    rw[this];omega
   have kw2:IntKind.u64.wrap ((128:Int)+(z:Int))=(128:Int)+(z:Int):=by rw[IntKind.wrap_u64];omega
   go_wp2_with (at_builtin;refine z02 rfl (.tmp 8) (.tmp 13) _ rfl 5 i0 _ 1 Tryz.underlying27 hi0 hz0 hz1 hz2 rfl (.int .u8 ((128+z:Nat):Int)) rfl rfl ho rfl (by simp only[maxLen];omega) (by omega) ?_;intro v' w' ho2 hmv)
   go_roundw
   case rel=>exact ⟨q,pre++[128+z],hr2,rfl,by rw[List.length_append,He2.out];exact ho2,ah (by rw[H.out,Hb.out];simp),by rw[List.length_append];simp only[List.length_cons,List.length_nil];omega⟩
   case measure=>simp[intOf];omega
  ·have hs:=JF (show r<128 by omega)
   have e2:bl (pre++[r])=bl pre++[.int .u8 (r:Int)]:=by simp[bl]
   have kw:IntKind.u8.wrap (r:Int)=(r:Int):=by
    have:IntKind.u8.wrap (r:Int)=(r:Int) % 256:=(by simp[IntKind.wrap,IntKind.bits,IntKind.signed]);omega
   have hq0:r / 128=0:=(by omega);rw[hq0]at td hdiv;have He2:=ah e2;have Hs:=ah hs;clear e2 hs tm hmod hq0;go_wp2_with (at_builtin;refine z02 rfl (.tmp 17) (.tmp 20) _ rfl 5 i0 _ 1 Tryz.underlying27 hi0 hz0 hz1 hz2 rfl (.int .u8 (r:Int)) rfl rfl ho rfl (by simp only[maxLen];omega) (by omega) ?_;intro v' w' ho2 hmv)
   go_ret;rw[H.out,Hs.out,List.length_append,He2.out];exact fZ.iK ho2 (Nat.succ_pos _)
theorem Pv (x:Int) (W:World) (h0: -9223372036854775808<=x) (h1:x<=9223372036854775807):Calls Tryz.prog 82 #[.int .i64 x] W fun e w'=>e=.returned (.int .u64 (zig x:Int))/\W=w':=by
 by_cases hx:x<0
 ·have hz:(zig x:Int)=2 * (-(x+1))+1:=by unfold zig;rw[if_neg (by omega)];omega
  have k1:IntKind.i64.wrap (x+1)=x+1:=IntWalk.i64_in _ (by omega);have k2:IntKind.i64.wrap (-(x+1))= -(x+1):=IntWalk.i64_in _ (by omega);have k3:IntKind.u64.wrap (-(x+1))= -(x+1):=by rw[IntKind.wrap_u64];omega
  have k4:IntKind.u64.wrap (2 * -(x+1))=2 * -(x+1):=by rw[IntKind.wrap_u64];omega
  have k5:IntKind.u64.wrap (2 * -(x+1)+1)=2 * -(x+1)+1:=by rw[IntKind.wrap_u64];omega
  have Hz:=ah hz;clear hz;go_enter Tryz.func82,Tryz.ntmps82;go_wp2_with fail;go_ret;exact ⟨by rw[Hz.out];try rfl,rfl⟩
 ·have hz:(zig x:Int)=2 * x:=by unfold zig;rw[if_pos (by omega)];omega
  have k3:IntKind.u64.wrap x=x:=by rw[IntKind.wrap_u64];omega
  have k4:IntKind.u64.wrap (2 * x)=2 * x:=by rw[IntKind.wrap_u64];omega
  have Hz:=ah hz;clear hz;go_enter Tryz.func82,Tryz.ntmps82;go_wp2_with fail;go_ret;exact ⟨by rw[Hz.out];try rfl,rfl⟩
theorem KJ (c x:Nat) (W:World) (hc:c<4294967296) (hx:x<256):Calls Tryz.prog 118 #[.int .u32 (c:Int),.int .u8 (x:Int)] W fun e w'=>e=.returned (.int .u32 (jA c x:Int))/\W=w':=by
 have h0:=u32_xor_nat c x hc (by omega);have hl0:c ^^^ x<4294967296:=Nat.xor_lt_two_pow (n:=32) hc (by omega)
 have kx:IntKind.u32.wrap (x:Int)=(x:Int):=by
  have:IntKind.u32.wrap (x:Int)=(x:Int) % 4294967296:=by simp[IntKind.wrap,IntKind.bits,IntKind.signed]
  omega
 have H8:=ah (WS c x);have hlt:=NH hl0;have hstp:∀k,oK (c ^^^ x) (k+1)=iE (oK (c ^^^ x) k):=fun k=>rfl;have Hstp:=ah hstp;have Xo:=ah hlt;have Hb0:=ah (show oK (c ^^^ x) 0=c ^^^ x from rfl);clear hlt hstp;generalize hb:oK (c ^^^ x)=B at *;clear hb;generalize c ^^^ x=y at *;go_enter Tryz.func118,Tryz.ntmps118;go_wp2_with fail;go_loop [0,5] (fun s0 s5=>∃k:Nat,k<=8/\s0=.int .u32 (B k:Int)/\s5=.int .i64 (k:Int)) (fun _ s5=>8-(intOf s5).toNat)
 case atStart=>exact ⟨0,by omega,by rw[Hb0.out],rfl⟩
 case round=>
  obtain ⟨k,hk,rfl,rfl⟩:=hrel;by_cases hk8:k<8
  ·have hl:=Xo.out k
   have hs:=Hstp.out k;have HS:=ah hs;clear hs;generalize B k=r at *;have td:(r:Int).tdiv 2=((r / 2:Nat):Int):=by rw[Int.tdiv_eq_ediv_of_nonneg (by omega)];omega
   have tm:(r:Int).tmod 2=((r % 2:Nat):Int):=by rw[Int.tmod_eq_emod_of_nonneg (by omega)];omega
   have hdv:(r:Int) / 2=((r / 2:Nat):Int):=(by omega);have hmd:(r:Int) % 2=((r % 2:Nat):Int):=(by omega);by_cases ho:r % 2=1
   ·have hq:(((r % 2:Nat):Int)==1)=true:=by rw[ho];rfl
    have hx2:=u32_xor_nat (r / 2) 3988292384 (by omega) (by decide);have hn:B (k+1)=r / 2 ^^^ 3988292384:=by rw[HS.out];unfold iE;rw[if_pos ho]
    have Hn:=ah hn;clear hn;rw[←Hn.out]at hx2;have hx3:bits .xor .u32 ((r / 2:Nat):Int) 3988292384=(B (k+1):Int):=hx2;rw[ho]at tm hmd hq;have SH:r / 2<4294967296:=(by omega);clear ho;generalize r / 2=q at *;have kq:IntKind.u32.wrap (q:Int)=(q:Int):=by rw[show IntKind.u32.wrap (q:Int)=(q:Int) % 4294967296 by simp[IntKind.wrap,IntKind.bits,IntKind.signed]];omega
    go_wp2_with fail;go_round
    case rel=>exact ⟨k+1,by omega,rfl,by go_num⟩
    case measure=>simp[intOf];omega
   ·have hz:r % 2=0:=by omega
    have hn:B (k+1)=r / 2:=by rw[HS.out];unfold iE;rw[if_neg (by omega),Nat.xor_zero]
    have Hn:=ah hn;rw[hz]at tm hmd;have SH:r / 2<4294967296:=(by omega);clear hn ho hz;generalize r / 2=q at *;have kq:IntKind.u32.wrap (q:Int)=(q:Int):=by rw[show IntKind.u32.wrap (q:Int)=(q:Int) % 4294967296 by simp[IntKind.wrap,IntKind.bits,IntKind.signed]];omega
    go_wp2_with fail;go_round
    case rel=>exact ⟨k+1,by omega,by rw[Hn.out],by go_num⟩
    case measure=>simp[intOf];omega
  ·obtain rfl:k=8:=by omega
   have H9:Hid (jA c x=B 8):=ah H8.out.symm;go_wp2_with fail;go_ret;rw[H9.out];exact ⟨rfl,rfl⟩
theorem Px (D:Nat->Prop) (A:Option Addr) (n c:Nat) (xs:List Nat) (W:World) (hr:Rd W D 1 A n (bl xs)) (ok:okB xs) (hl:xs.length=n) (hn:n<=1000000000):
 Calls Tryz.prog 80 #[.slice A n c] W fun e w'=>e=.returned (.int .u32 (sumF xs:Int))/\W=w':=by
 subst hl;have Hok:=ah ok;have HF:=ah (show sumF xs=4294967295-gZ 4294967295 (xs.take xs.length) by rw[List.take_length];rfl);go_enter Tryz.func80,Tryz.ntmps80;go_wp2_with fail;go_loop [3,8] (fun s3 s8=>∃k:Nat,k<=xs.length/\s3=.int .u32 (gZ 4294967295 (xs.take k):Int)/\s8=.int .i64 (k:Int)) (fun _ s8=>xs.length-(intOf s8).toNat)
 case atStart=>exact ⟨0,Nat.zero_le _,rfl,rfl⟩
 case round=>
  obtain ⟨k,hk,rfl,rfl⟩:=hrel;have hcl:gZ 4294967295 (xs.take k)<4294967296:=EW (by decide) fun x hx=>Hok.out x (List.mem_of_mem_take hx);by_cases hlt:k<xs.length
  ·obtain ⟨ad,rfl,_,hcell⟩:=hr.2 (by omega)
   have hc0:=hcell k _ (tV hlt);have hx:=uf Hok.out k
   have hs:gZ 4294967295 (xs.take (k+1))=jA (gZ 4294967295 (xs.take k)) (xs.getD k 0):=by
    have e:xs.getD k 0=xs[k]:=(by simp[List.getD,hlt]);rw[List.take_succ_eq_append_getElem hlt,yB,e];rfl
   have HS:=ah hs;clear hs hcell;generalize xs.getD k 0=x at *;generalize gZ 4294967295 (xs.take k)=r at *;have hcall:=KJ r x W hcl hx;rw[←HS.out]at hcall;have dS:=ah hcall;clear hcall;go_wp2_with fail;with_reducible refine dS.out.mono ?_
   rintro e w1 ⟨rfl,rfl⟩;go_wp2_with fail;go_round
   case rel=>exact ⟨k+1,by omega,rfl,by go_num⟩
   case measure=>simp[intOf];omega
  ·obtain rfl:xs.length=k:=by omega
   have hnot:=uz _ hcl;have H9:=HF.out;generalize gZ 4294967295 (xs.take xs.length)=r at *;have HR:=ah H9;clear H9 HF;go_wp2_with fail;go_ret;rw[HR.out];exact ⟨rfl,rfl⟩
theorem KO (s:Nat) (W:World) (hs:s<4294967296):
 Calls Tryz.prog 79 #[.int .u32 (s:Int)] W (fZ W 5 1 4 (bl (four s))):=by
 obtain ⟨k0,k1,k2,k3⟩:=JQ s
 have ho:au W (W.alloc (.cells #[.int .u8 ((s % 256:Nat):Int),.int .u8 ((s / 256 % 256:Nat):Int),.int .u8 ((s / 65536 % 256:Nat):Int),.int .u8 ((s / 16777216 % 256:Nat):Int)] 5)) 5 1 (.slice (some ⟨W.heap.size,0,none⟩) 4 4) 4 (bl (four s)):=
  ⟨Uk W _ _ 1 _ 4 (Nat.le_refl _) (by simp[maxLen]) (by simp),(Ch.refl _ W).alloc _⟩
 have Ho:=ah ho;clear ho;go_enter Tryz.func79,Tryz.ntmps79;go_wp2_with fail;go_ret;exact fZ.jG Ho.out (by simp[Value.ownBlock])
theorem yG (D:Nat->Prop) (A:Option Addr) (n c:Nat) (xs:List Nat) (W:World) (hr:Rd W D 1 A n (bl xs)) (ok:okB xs) (hl:xs.length=n) (hn:n<=1000000):
 Calls Tryz.prog 37 #[.slice A n c] W (fZ W 5 1 (dL xs).length (bl (dL xs))):=by
 obtain ⟨i0,hi0,hz0,hz1,hz2⟩:=info_parts Tryz.info5;have htw:=RH D A n c xs W hr (by omega);have hsum:=fun w (nx:Nx W w)=>Px D A n c xs w (hr.nx (by decide) nx) ok hl (by omega);have hsl:=uH xs;have hfo:=fun w=>KO (sumF xs) w hsl;have HE:=ah (show bl (dL xs)=bl xs++bl (four (sumF xs)) by unfold dL bl;rw[List.map_append]);have HL:=ah (AY xs);have Htw:=ah htw;have Xj:=ah hsum;have Hfo:=ah hfo;have Hl:=ah hl;clear htw hsum hfo hl;generalize sumF xs=s at *;go_enter Tryz.func37,Tryz.ntmps37;go_wp2_with fail;with_reducible refine Htw.out.mono ?_
 rintro e w1 ⟨k1,cap1,rfl,hk1,hk1',o1,r1,n1⟩;have oX:au W w1 5 1 (.slice (some ⟨k1,0,none⟩) xs.length cap1) xs.length (bl xs):=⟨o1,n1⟩;go_wp2_with fail;with_reducible refine (Xj.out _ n1).mono ?_
 rintro e w2 ⟨rfl,rfl⟩;go_wp2_with fail;with_reducible refine (Hfo.out _).mono ?_
 rintro e w2 ⟨k2,cap2,rfl,o2,hk2,hk2',hc2,_⟩;have oX2:=oX.tr o2.nx;have r2:=o2.fM;have hxl:xs.length<=1000000:=by rw[Hl.out];omega
 clear oX o1 r1 n1 o2 Htw Xj Hfo;go_wp2_with (at_builtin;refine z01 rfl (.tmp 4) (.tmp 7) _ rfl 5 i0 _ 1 1 Tryz.underlying27 hi0 hz0 hz1 hz2 rfl (by omega) rfl oX2 _ (some ⟨k2,0,none⟩) 4 cap2 (bl (four s)) rfl r2 (iP _) (by simp only[maxLen];omega) (by omega) ?_;intro v3 w3 o3 m3)
 go_ret;rw[HE.out,HL.out];exact fZ.iK o3 (by omega)
theorem rQ (W0 w:World) (v:Value) (X:List Nat) (n:Nat) (o:au W0 w 5 1 v X.length (bl X)) (hX:X.length<=100000000) (hn:n<=9223372036854775807):
 Calls Tryz.prog 36 #[v,.int .i64 (n:Int)] w (fZ W0 5 1 (X++aj n).length (bl (X++aj n))):=by
 obtain ⟨i0,hi0,hz0,hz1,hz2⟩:=info_parts Tryz.info5;obtain ⟨A,c,rfl,hc,_⟩:=o.form;have kw:IntKind.u64.wrap (n:Int)=(n:Int):=by rw[IntKind.wrap_u64];omega
 have pR:=ah (yH n w (by omega));have hpl:=z07 (n:=n) (by omega);have HE:=ah (show bl (X++aj n)=bl X++bl (aj n) by simp[bl]);go_enter Tryz.func36,Tryz.ntmps36;go_wp2_with fail;with_reducible refine pR.out.mono ?_
 rintro e w2 ⟨k2,cap2,rfl,o2,hk2,hk2',hc2,_⟩;have oX2:=o.tr o2.nx;have r2:=o2.fM;clear o2 pR;go_wp2_with (at_builtin;refine z01 rfl (.tmp 5) (.tmp 8) _ rfl 5 i0 _ 1 1 Tryz.underlying27 hi0 hz0 hz1 hz2 rfl (by omega) rfl oX2 _ (some ⟨k2,0,none⟩) (aj n).length cap2 (bl (aj n)) rfl r2 (iP _) (by simp only[maxLen];omega) (by omega) ?_;intro v3 w3 o3 m3)
 go_ret;rw[HE.out,List.length_append];exact fZ.iK o3 (by omega)
end Go.Proofs.YtfljcllpmbnjaaaGreat
