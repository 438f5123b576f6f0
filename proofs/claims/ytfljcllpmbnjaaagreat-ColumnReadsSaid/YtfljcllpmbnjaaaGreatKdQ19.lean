/- Contracts and plain laws that the last text rests on. Conditions: each theorem states its own. -/
import Derived.Test.YtfljcllpmbnjaaaGreatKdPdRef6
import Derived.Test.YtfljcllpmbnjaaaGreatKdQ6
import Derived.Test.YtfljcllpmbnjaaaGreatKdQ15
import Derived.Test.YtfljcllpmbnjaaaGreatKdQ7
import Derived.Test.YtfljcllpmbnjaaaGreatKdQ5
set_option maxRecDepth 100000
set_option maxHeartbeats 8000000
set_option linter.unusedVariables false
namespace Go.Proofs.YtfljcllpmbnjaaaGreat
open Go.RowKit R2
def OJ (k:Nat):List Int:=(List.range k).map jh
theorem zD (k:Nat):OJ (k+1)=OJ k++[jh k]:=by simp[OJ,List.range_succ]
def TW (W:World) (e:Ending) (w':World):Prop:=
 ∃A1 c1 A2 c2 D,e=.returned (.tuple #[.slice A1 288 c1,.slice A2 32 c2])/\Rd w' D 1 A1 288 (il qK)/\Rd w' D 1 A2 32 (il nZ)/\Nx W w'
theorem mZ (W:World):Calls Tryz.prog 111 #[] W (TW W):=by
 obtain ⟨i0,hi0,hz0,hz1,hz2⟩:=info_parts Tryz.info3;have h0:=au.lit W W 3 (Ch.refl _ W) 1;have h1:=au.lit W (W.alloc (.cells #[] 3)) 3 ((Ch.refl _ W).alloc _) 1;have h0:=h0.alloc (.cells #[] 3);simp only[World.size_alloc]at h1;go_enter Tryz.func111,Tryz.ntmps111;go_wp2_with fail;go_loopw [2,4] (fun v i wr=>∃k:Nat,k<=288/\i=.int .i64 k/\au W wr 3 1 v k (il (OJ k))/\au W wr 3 1 (.slice (some ⟨W.heap.size+1,0,none⟩) 0 0) 0 []/\v.ownBlock≠some (W.heap.size+1)) (fun _ i _=>288-(intOf i).toNat)
 case atStart=>exact ⟨0,by omega,rfl,by simpa [OJ,il]using h0,h1,by simp[Value.ownBlock]⟩
 case round=>
  clear h0 h1;obtain ⟨w1,rfl⟩:∃w1:World,w1=wr:=⟨_,rfl⟩;obtain ⟨k,hk,rfl,ho,hd,hne⟩:=hrel;have hdl:W.heap.size+1<w1.heap.size:=(hd.lt _ rfl).2;by_cases hlt:k<288
  ·have hs:=zD k
   have e:∀v:Int,jh k=v->il (OJ (k+1))=il (OJ k)++[.int .i64 v]:=fun v hv=>by rw[hs,hv];simp[il]
   have hmv:∀(v':Value) (w':World),Moved w1 w' u2 v'->au W w' 3 1 (.slice (some ⟨W.heap.size+1,0,none⟩) 0 0) 0 []/\v'.ownBlock≠some (W.heap.size+1):=fun v' w' m=>
    ⟨hd.ch m.ch (fun k hk e=>hne (by rw[e];exact congrArg some (by simpa [Value.ownBlock]using hk.symm))) (fun i hi e=>by have:=(ho.lt _ e).1;omega),by
      rcases m.at_ with e|⟨j,e,hj⟩
      ·rw[e];exact hne
      ·rw[e];intro h;injection h;omega⟩
   have He:=ah e;have NU:=ah hmv;clear e hs hmv;by_cases h8:144<=k/\k<=255
   ·have hv:jh k=9:=by unfold jh;rw[if_pos h8]
    have Hv:=ah (He.out 9 hv);obtain ⟨a1,a2⟩:=h8;have a3:¬256<=k:=(by omega);clear hv He;go_wp2_with (at_builtin;refine z02 rfl (.tmp 25) (.tmp 27) _ rfl 3 i0 _ 8 Tryz.underlying88 hi0 hz0 hz1 hz2 rfl _ rfl rfl ho rfl (by simp only[maxLen];omega) (by omega) ?_;intro v' w' ho2 hm)
    go_roundw
    case rel=>exact ⟨k+1,by omega,by go_num,by rw[Hv.out];exact ho2,(NU.out _ _ hm).1,(NU.out _ _ hm).2⟩
    case measure=>simp[intOf];omega
   ·by_cases h9:256<=k/\k<=279
    ·have hv:jh k=7:=by unfold jh;rw[if_neg h8,if_pos h9]
     have Hv:=ah (He.out 7 hv);obtain ⟨a1,a2⟩:=h9;have a3:144<=k:=(by omega);have a4:¬k<=255:=(by omega);clear hv He h8;go_wp2_with (at_builtin;refine z02 rfl (.tmp 25) (.tmp 27) _ rfl 3 i0 _ 8 Tryz.underlying88 hi0 hz0 hz1 hz2 rfl _ rfl rfl ho rfl (by simp only[maxLen];omega) (by omega) ?_;intro v' w' ho2 hm)
     go_roundw
     case rel=>exact ⟨k+1,by omega,by go_num,by rw[Hv.out];exact ho2,(NU.out _ _ hm).1,(NU.out _ _ hm).2⟩
     case measure=>simp[intOf];omega
    ·have hv:jh k=8:=by unfold jh;rw[if_neg h8,if_neg h9]
     have Hv:=ah (He.out 8 hv);clear hv He;by_cases h10:k<144
     ·have a3:¬144<=k:=by omega
      have a4:¬256<=k:=(by omega);clear h8 h9;go_wp2_with (at_builtin;refine z02 rfl (.tmp 25) (.tmp 27) _ rfl 3 i0 _ 8 Tryz.underlying88 hi0 hz0 hz1 hz2 rfl _ rfl rfl ho rfl (by simp only[maxLen];omega) (by omega) ?_;intro v' w' ho2 hm)
      go_roundw
      case rel=>exact ⟨k+1,by omega,by go_num,by rw[Hv.out];exact ho2,(NU.out _ _ hm).1,(NU.out _ _ hm).2⟩
      case measure=>simp[intOf];omega
     ·have a3:279<k:=by omega
      have a5:¬k<=279:=(by omega);have a4:256<=k:=(by omega);have a6:144<=k:=(by omega);have a7:¬k<=255:=(by omega);clear h8 h9;go_wp2_with (at_builtin;refine z02 rfl (.tmp 25) (.tmp 27) _ rfl 3 i0 _ 8 Tryz.underlying88 hi0 hz0 hz1 hz2 rfl _ rfl rfl ho rfl (by simp only[maxLen];omega) (by omega) ?_;intro v' w' ho2 hm)
      go_roundw
      case rel=>exact ⟨k+1,by omega,by go_num,by rw[Hv.out];exact ho2,(NU.out _ _ hm).1,(NU.out _ _ hm).2⟩
      case measure=>simp[intOf];omega
  ·have hk8:k=288:=by omega
   have Hk8:=ah hk8;clear hk8;obtain ⟨A1,c1,rfl,_,_⟩:=ho.form;have hro:=ho.rd;have hb1:∀v:Value,(∀j,v.ownBlock=some j->(Value.slice A1 k c1).ownBlock≠some j)->True:=fun _ _=>trivial;clear hb1;go_wp2_with fail;go_loopw [3,6] (fun v i wr=>∃j:Nat,j<=32/\i=.int .i64 j/\au W wr 3 1 v j (il (List.replicate j 5))/\au W wr 3 1 (.slice A1 k c1) k (il (OJ k))/\(∀q,v.ownBlock=some q->(Value.slice A1 k c1).ownBlock≠some q)) (fun _ i _=>32-(intOf i).toNat)
   case atStart=>exact ⟨0,by omega,rfl,by simpa [il]using hd,ho,fun q hq e=>hne (by rw[e];simpa [Value.ownBlock]using hq.symm)⟩
   case round=>
    clear hd ho hro hdl hne;obtain ⟨w2,rfl⟩:∃w2:World,w2=wr:=⟨_,rfl⟩;obtain ⟨j,hj,rfl,ho1,ho,hne⟩:=hrel;by_cases hlt:j<32
    ·have e:il (List.replicate (j+1) 5)=il (List.replicate j 5)++[.int .i64 5]:=by simp[il,List.replicate_succ']
     have He:=ah e
     have hmv:∀(v':Value) (w':World),Moved w2 w' u3 v'->au W w' 3 1 (.slice A1 k c1) k (il (OJ k))/\(∀q,v'.ownBlock=some q->(Value.slice A1 k c1).ownBlock≠some q):=fun v' w' m=>
      ⟨ho.ch m.ch (fun q hq e=>hne q e hq) (fun i hi e=>by have:=(ho1.lt _ e).1;omega),fun q hq h=>by
        have hql:=(ho.lt q h).2;rcases m.at_ with e|⟨j,e,hj⟩
        ·rw[e]at hq;exact hne q hq h
        ·rw[e]at hq;injection hq;omega⟩
     have NU:=ah hmv;clear e hmv;go_wp2_with (at_builtin;refine z02 rfl (.tmp 33) (.tmp 34) _ rfl 3 i0 _ 8 Tryz.underlying88 hi0 hz0 hz1 hz2 rfl _ rfl rfl ho1 rfl (by simp only[maxLen];omega) (by omega) ?_;intro v' w' ho2 hm)
     go_roundw
     case rel=>exact ⟨j+1,by omega,by go_num,by rw[He.out];exact ho2,(NU.out _ _ hm).1,(NU.out _ _ hm).2⟩
     case measure=>simp[intOf];omega
    ·have hj8:j=32:=by omega
     have Hj8:=ah hj8;clear hj8;obtain ⟨A2,c2,rfl,_,_⟩:=ho1.form;go_wp2_with fail;go_ret2;rw[Hk8.out]at ho;rw[Hj8.out]at ho1;refine ⟨A1,c1,A2,c2,fun _=>True,by rw[Hk8.out,Hj8.out];rfl,?_,?_,ho1.nx⟩
     ·exact ho.rd.more fun k hk=>trivial
     ·have e:nZ=List.replicate 32 5:=by decide
      rw[e];exact ho1.rd.more fun k hk=>trivial
theorem Moved.ZQ (w:World) (v:Value):Moved w w v v:=⟨Ch.refl _ _,.inl rfl⟩
theorem Moved.trans {a b c:World} {u v x:Value} (h:Moved a b u v) (k:Moved b c v x):Moved a c u x:=by
 refine ⟨h.ch.trans k.ch fun i hi e=>?_,?_⟩
 ·rcases h.at_ with e2|⟨j,e2,hj⟩
  ·rw[←e2];exact e
  ·rw[e2]at e;injection e;omega
 ·rcases k.at_ with e|⟨j,e,hj⟩
  ·rcases h.at_ with e2|⟨j,e2,hj⟩
   ·exact .inl (e.trans e2)
   ·exact .inr ⟨j,e.trans e2,hj⟩
  ·exact .inr ⟨j,e,Nat.le_trans h.ch.size hj⟩
theorem XC (W w:World) (v0:Value) (n:Nat) (l u:List Bool) (ho:au W w 4 1 v0 n (iO l)) (hv:v0.ownBlock≠none) (hn:n<=1000000000) (hu:u.length<=1000):
 Calls Tryz.prog 114 #[v0,.string (txt u)] w fun e w'=>∃v',e=.returned v'/\au W w' 4 1 v' (n+u.length) (iO (l++u))/\v'.ownBlock≠none/\Moved w w' v0 v':=by
 obtain ⟨i0,hi0,hz0,hz1,hz2⟩:=info_parts Tryz.LQ;have hs:=FQ u
 have hgt:∀k (h:k<(txt u).size),(txt u)[k].toNat=48+iZ (u.getD k false):=fun k h=>by
  have hkl:k<u.length:=by rw[←hs];exact h
  rw[OX u k h,Qd];simp[List.getD,hkl]
 generalize hT:txt u=s at *;have Hs:=ah hs;have Hg:=ah hgt;have hs15:s.size<=1000:=by omega
 clear hs hgt hT;go_enter Tryz.func114,Tryz.ntmps114;go_wp2_with fail;go_loopw [0,5] (fun v i wr=>∃k:Nat,k<=s.size/\i=.int .i64 k/\au W wr 4 1 v (n+k) (iO (l++u.take k))/\v.ownBlock≠none/\Moved w wr v0 v) (fun _ i _=>s.size-(intOf i).toNat)
 case atStart=>exact ⟨0,by omega,rfl,by simpa using ho,hv,Moved.ZQ _ _⟩
 case round=>
  clear ho hv;obtain ⟨w1,rfl⟩:∃w1:World,w1=wr:=⟨_,rfl⟩;obtain ⟨k,hk,rfl,ho,hv,hm0⟩:=hrel;by_cases hlt:k<s.size
  ·have hkl:k<u.length:=by have:=Hs.out;omega
   have hg:=Hg.out k hlt
   have e:((s[k].toNat:Int)==49)=u.getD k false:=by
    rw[hg];cases u.getD k false<;>rfl
   have e2:iO (l++u.take (k+1))=iO (l++u.take k)++[.bool (u.getD k false)]:=by
    have e3:u.getD k false=u[k]:=(by simp[List.getD,hkl]);rw[List.take_succ_eq_append_getElem hkl,e3];unfold iO;rw[←List.append_assoc,List.map_append (l₂:=[u[k]])];rfl
   clear hg;generalize u.getD k false=b at *;have He2:=ah e2;clear e2;go_wp2_with (at_builtin;refine z02 rfl (.tmp 12) (.tmp 17) _ rfl 4 i0 _ 1 Tryz.underlying24 hi0 hz0 hz1 hz2 rfl _ rfl rfl ho rfl (by simp only[maxLen];omega) (by omega) ?_;intro v' w' ho2 hm)
   go_roundw
   case rel=>exact ⟨k+1,by omega,by go_num,by rw[He2.out];exact ho2,hm.some_ hv,hm0.trans hm⟩
   case measure=>simp[intOf];omega
  ·have hk8:k=u.length:=by have:=Hs.out;omega
   go_wp2_with fail;go_ret;subst hk8;rw[List.take_length]at ho;exact ⟨_,rfl,ho,hv,hm0⟩
def iq (W:World) (tv:Value) (l:List Tok) (B nt:Nat) (w:World) (v:Value) (bits:List Bool):Prop:=
 au W w 4 1 v bits.length (iO bits)/\v.ownBlock≠none/\w.ownsRow B 138 3 tv nt (jY l)/\∀q,tv.ownBlock=some q->v.ownBlock≠some q
theorem iq.code {W w w':World} {tv v v':Value} {l:List Tok} {B nt:Nat} {bits u:List Bool} (h:iq W tv l B nt w v bits) (o:au W w' 4 1 v' (bits.length+u.length) (iO (bits++u))) (hn:v'.ownBlock≠none) (m:Moved w w' v v'):iq W tv l B nt w' v' (bits++u):=by
 obtain ⟨h1,h2,h3,h4⟩:=h;refine ⟨by rw[List.length_append];exact o,hn,z06 h3 m.ch fun k hk e=>h4 k hk e,fun q hq e=>?_⟩;rcases m.at_ with e2|⟨j,e2,hj⟩
 ·rw[e2]at e;exact h4 q hq e
 ·rw[e2]at e;injection e with e;have:=(h3.lt q hq).2;omega
theorem iq.nx {W w w':World} {tv v:Value} {l:List Tok} {B nt:Nat} {bits:List Bool} (h:iq W tv l B nt w v bits) (n:Nx w w'):iq W tv l B nt w' v bits:=by
 obtain ⟨h1,h2,h3,h4⟩:=h;exact ⟨h1.tr n,h2,z06 h3 n (fun _ _ hf=>hf),h4⟩
theorem iq.put {W w w':World} {tv v v':Value} {l:List Tok} {B nt:Nat} {bits u:List Bool} {n:Nat} (h:iq W tv l B nt w v bits) (hu:u.length=n) (g:fZ w 4 1 (bits.length+n) (iO (bits++u)) (.returned v') w'):iq W tv l B nt w' v' (bits++u):=by
 obtain ⟨h1,h2,h3,h4⟩:=h;obtain ⟨k,cap,e,o,hk,hk2,_,_⟩:=g;injection e with e;subst e;have nx:=o.nx;refine ⟨⟨iT (by rw[List.length_append,hu];exact o.own) h1.nx.size,h1.nx.tr nx⟩,by simp[Value.ownBlock],z06 h3 nx (fun _ _ hf=>hf),fun q hq e=>?_⟩;have e2:k=q:=by simpa [Value.ownBlock]using e
 have:=(h3.lt q hq).2;omega
theorem iq.rd {W w:World} {tv:Value} {l:List Tok} {B nt:Nat} {bits:List Bool} {A:Option Addr} {n c:Nat} (h:iq W tv l B nt w (.slice A n c) bits):n=bits.length/\Rd w (fun _=>True) 1 A bits.length (iO bits)/\n<=c/\c<=maxLen:=by
 obtain ⟨h1, -⟩:=h;obtain ⟨A',c',e,k1,k2⟩:=h1.form;injection e with e1 e2 e3;subst e1 e2 e3;exact ⟨rfl,h1.rd.more fun _ _=>trivial,k1,k2⟩
theorem iq.form {W w:World} {tv v:Value} {l:List Tok} {B nt:Nat} {bits:List Bool} (h:iq W tv l B nt w v bits):∃A c,v=.slice A bits.length c:=by
 obtain ⟨A,c,e,_⟩:=h.1.form;exact ⟨A,c,e⟩
theorem iq.own {W w:World} {tv v:Value} {l:List Tok} {B nt:Nat} {bits:List Bool} (h:iq W tv l B nt w v bits):au W w 4 1 v bits.length (iO bits):=h.1
theorem iq.some_ {W w:World} {tv v:Value} {l:List Tok} {B nt:Nat} {bits:List Bool} (h:iq W tv l B nt w v bits):v.ownBlock≠none:=h.2.1
theorem iq.toks {W w:World} {tv v:Value} {l:List Tok} {B nt:Nat} {bits:List Bool} (h:iq W tv l B nt w v bits):w.ownsRow B 138 3 tv nt (jY l):=h.2.2.1
theorem kU {W w:World} {D:Nat->Prop} {k n:Nat} {ls:List (List Bool)} (h:Rd W D 1 (some ⟨k,0,none⟩) n (sl ls)) (nx:Nx W w) {i:Nat} {u:List Bool} (hu:ls[i]?=some u):w.cell? ⟨k,i,none⟩=some (.string (txt u)):=by
 have hi:i<ls.length:=(List.getElem?_eq_some_iff.1 hu).1;have hn:ls.length=n:=by have:=h.1;rw[Gp]at this;omega
 obtain ⟨ad,e,_,hc⟩:=(h.nx (by decide) nx).2 (by omega);injection e with e;subst e;have e2:(sl ls)[i]?=some (.string (txt u)):=by simp[sl,hu]
 have:=hc i _ e2
 have ea:(Addr.mk k 0 none).add i=⟨k,i,none⟩:=by
  unfold Addr.add;split
  ·next e=>rw[e]
  ·simp
 rwa [ea]at this
theorem nD (v m:Nat):QE false v m m=numBits v m:=by simp[QE]
theorem wrap_u32 {v:Nat} (h:v<4294967296):IntKind.u32.wrap (v:Int)=(v:Int):=by
 have:IntKind.u32.wrap (v:Int)=(v:Int) % 4294967296:=by simp[IntKind.wrap,IntKind.bits,IntKind.signed]
 omega
def FP (W:World) (xs:List Nat) (e:Ending) (w':World):Prop:=∃A c,e=.returned (.slice A xs.length c)/\(∃D,Rd w' D 1 A xs.length (bl xs))/\Nx W w'
theorem CW (D:Nat->Prop) (A:Option Addr) (c:Nat) (xs:List Nat) (W:World) (hr:Rd W D 1 A xs.length (bl xs)) (ok:okB xs) (hl:xs.length<=65535):
 Calls Tryz.prog 76 #[.slice A xs.length c] W (FP W (pack (aI (aF xs xs.length 0)))):=by
 go_enter Tryz.func76,Tryz.ntmps76;go_wp2_with fail;refine (mZ W).mono ?_;rintro e w1 ⟨A1,c1,A2,c2,D2,rfl,hf1,hf2,n1⟩;go_wp2_with fail;refine (Vm _ A1 288 c1 qK w1 hf1 nS nT).mono ?_;rintro e w2 ⟨k1,cap1,rfl,o1,hk1,hk1',_,_⟩;have r1:=o1.fM;have n2:=n1.tr o1.nx;have hf2:=hf2.nx (by decide) o1.nx;clear hf1 o1;go_wp2_with fail;refine (Vm _ A2 32 c2 nZ w2 hf2 nV nX).mono ?_;rintro e w3 ⟨k2,cap2,rfl,o2,hk2,hk2',_,_⟩;have r2:=o2.fM;have r1:=r1.nx (by decide) o2.nx;have n3:=n2.tr o2.nx;have hr3:=hr.nx (by decide) n3
 have hrow:au w3 (w3.alloc (.cells #[.bool true,.bool true,.bool false] 4)) 4 1 (.slice (some ⟨w3.heap.size,0,none⟩) 3 3) 3 (iO (bG [])):=
  ⟨World.ownsRow_lit w3 _ 3 (Nat.le_refl _) (by simp[maxLen]) (by simp),(Ch.refl _ w3).alloc _⟩
 have n3a:Nx w3 (w3.alloc (.cells #[.bool true,.bool true,.bool false] 4)):=hrow.nx;clear hf2 o2 n1 n2 hr;have hr4:=hr3.nx (by decide) n3a;have hlt4:w3.heap.size<(w3.alloc (.cells #[.bool true,.bool true,.bool false] 4)).heap.size:=by simp
 generalize hW4:w3.alloc (.cells #[.bool true,.bool true,.bool false] 4)=w4 at *;have HW4:=ah hW4;obtain ⟨kr,hkr⟩:∃kr,w3.heap.size=kr:=⟨_,rfl⟩;have Hkr:=ah hkr;clear hW4;go_upto_region 4 with fail
 simp only[HW4.out];rw[hkr]at hrow;clear hkr;go_wp2_with fail;refine (CQ D A c xs w4 hr4 ok (by omega)).mono ?_;rintro e w5 ⟨tv,rfl,ho⟩;have htl:=z2n (b:=xs) xs.length 0;have htok:=Yt ok xs.length 0;generalize aF xs xs.length 0=l at *;obtain ⟨nt,hnt⟩:∃nt,l.length=nt:=⟨_,rfl⟩;rw[hnt]at ho htl;have QS:=hrow.tr ho.nx
 have hfr:iq w3 tv l w4.heap.size nt w5 (.slice (some ⟨kr,0,none⟩) 3 3) (bG []):=⟨QS,by simp[Value.ownBlock],ho.own,fun q hq e=>by
  have h1:=(ho.lt q hq).1;have h2:=Hkr.out;have e2:kr=q:=by simpa [Value.ownBlock]using e
  omega⟩
 obtain ⟨At,ct,rfl,_,_⟩:=ho.form;have NT:=ah hnt;have wV:=ah htok;clear hnt htok ho hrow QS hr4 hr3 n3a
 have hk1w:k1<w3.heap.size:=by
  have:=r1.ZV (by decide) (by decide);obtain ⟨ad,e,_,h⟩:=this;injection e with e;subst e;exact h
 go_wp2_with fail;go_loopw [7,25] (fun v i wr=>∃k:Nat,k<=nt/\i=.int .i64 (k:Int)/\iq w3 (.slice At nt ct) l w4.heap.size nt wr v (bG (l.take k))) (fun _ i _=>nt-(intOf i).toNat)
 case atStart=>exact ⟨0,Nat.zero_le _,rfl,by simpa using hfr⟩
 case round=>
  clear hfr;obtain ⟨w6,rfl⟩:∃w6:World,w6=wr:=⟨_,rfl⟩;obtain ⟨k,hk,rfl,hf⟩:=hrel
  have hl6:(bG (l.take k)).length<=10000000:=by
   have h1:=Yi (l.take k);have h2:(l.take k).length<=k:=by simp;omega
   omega
  by_cases hlt:k<nt
  ·have hkl:k<l.length:=by rw[NT.out];exact hlt
   obtain ⟨gt,cap,hv,_,_⟩:=hf.toks.form (by omega);injection hv with hA hlq hcc;clear hlq;subst hA;subst hcc;obtain ⟨q,hq⟩:∃q,3 * k=q:=⟨_,rfl⟩;obtain ⟨a0,a1,a2⟩:=XU hf.toks hkl hq;have hq':k * 3=q:=(by omega);have hlt2:(k:Int)<(nt:Int):=(by omega);have hk0:(0:Int)<=(k:Int):=(by omega);have gX:=ah (Yx hkl);have htk:=wV.out _ (List.getElem_mem hkl);clear hq;generalize l[k]=tk at *;obtain ⟨tb,htb⟩:∃tb,w6.heap.size=tb:=⟨_,rfl⟩;obtain ⟨w7,hw7⟩:∃w7,w6.alloc (.cells #[.int .i64 (tk.len:Int),.int .i64 (tk.dist:Int),.int .u8 (tk.byte:Int)] 138)=w7:=⟨_,rfl⟩;have n7:Nx w6 (w6.alloc (.cells #[.int .i64 (tk.len:Int),.int .i64 (tk.dist:Int),.int .u8 (tk.byte:Int)] 138)):=(Ch.refl _ w6).alloc _;have hB7:=dD.new w6 138 #[.int .i64 (tk.len:Int),.int .i64 (tk.dist:Int),.int .u8 (tk.byte:Int)];rw[hw7]at n7 hB7;rw[htb]at hB7;have HW:=ah hw7;have HT:=ah htb;have hf7:=hf.nx n7;have htbu:u7.ownBlock≠some tb:=fun e=>by have:=(hf.own.lt tb e).2;omega
   have Hbits:Hid (bG (l.take k)=bG (l.take k)):=ah rfl;clear htb hw7 hf;go_upto_region 7 with fail
   try simp only[HT.out,HW.out]
   clear HT HW a0 a1 a2 n7;have d0:w7.cell? ⟨tb,0,none⟩=some (.int .i64 (tk.len:Int)):=hB7.cell 0;have d1:w7.cell? ⟨tb,1,none⟩=some (.int .i64 (tk.dist:Int)):=hB7.cell 1;have d2:w7.cell? ⟨tb,2,none⟩=some (.int .u8 (tk.byte:Int)):=hB7.cell 2;generalize bG (l.take k)=bits at *;by_cases hz:tk.len=0
   ·have hb:iV tk=aK tk.byte:=by unfold iV;rw[if_pos hz]
    have Hb:=ah hb;have hby:tk.byte<256:=by rcases htk with h|h;exact h.2;omega
    have SC:((tk.len:Int)==0)=true:=by rw[beq_iff_eq];omega
    have hc1:=kU r1 hf7.own.nx (vX (s:=tk.byte) (by omega));have hll:=JE tk.byte;clear hb htk hz;generalize tk.byte=by_ at *;generalize aK by_=ub at *;go_wp2_with fail;with_reducible refine (XC w3 w7 _ _ _ ub hf7.own hf7.some_ (by omega) (by omega)).mono ?_
    rintro e w8 ⟨v8,rfl,o8,h8,m8⟩;have hf8:=hf7.code o8 h8 m8;go_wp2_with fail;go_roundw
    case rel=>exact ⟨k+1,by omega,by go_num,by rw[gX.out,Hb.out];exact hf8⟩
    case measure=>simp[intOf];omega
   ·have hb:iV tk=jX tk.len++pX (tk.dist-1):=by unfold iV;rw[if_neg hz]
    have hok:3<=tk.len/\tk.len<=258/\1<=tk.dist/\tk.dist<=32768:=by rcases htk with h|h;exact absurd h.1 hz;exact h
    have SC:((tk.len:Int)==0)=false:=by rw[beq_eq_false_iff_ne];omega
    obtain ⟨e1,p1,p2,p3,_⟩:=ng (tk.len-3) (by omega);rw[show tk.len-3+3=tk.len by omega]at e1 p1 p2 p3;obtain ⟨e2,p4,_⟩:=yK hok.2.2.1 hok.2.2.2;have p5:tk.dist-bD (bU tk.dist 29)<=32768:=(by omega);have p6:=(z27 (bU tk.dist 29) (by omega)).2;have hcl:=fun w=>yI tk.len w hok.1 hok.2.1;have hcd:=fun w=>qx tk.dist w hok.2.2.1 hok.2.2.2;rw[e1,e2]at hb;have Hb:=ah hb;clear e1 e2 hb htk hz;generalize f_ tk.len=rl at *;obtain ⟨s1,v1,m1⟩:=rl;simp only at p1 p2 p3 hcl Hb;generalize tk.dist-bD (bU tk.dist 29)=v2 at *;generalize extra (bU tk.dist 29)=m2 at *;generalize bU tk.dist 29=s2 at *;have tJ:=ah hcl;have Hcd:=ah hcd;clear hcl hcd;have hll:=JE (257+s1);have hl1:=Jo v1 m1;have hl2:=Jo v2 m2;have hl3:=z03 s2 5;have hs1:=vX (s:=257+s1) (by omega);have hs2:=Qa (s:=s2) (by omega);have hpv1:=nD v1 m1;have hpv2:=nD v2 m2;generalize aK (257+s1)=ub1 at *;generalize numBits v1 m1=ub2 at *;generalize ak s2 5=ub3 at *;generalize numBits v2 m2=ub4 at *;have Hs1:=ah hs1;have Hs2:=ah hs2;have t1:((257:Int)+(s1:Int)).toNat=257+s1:=(by omega);have k1:IntKind.u32.wrap (v1:Int)=(v1:Int):=wrap_u32 (by omega);have k2:IntKind.u32.wrap (v2:Int)=(v2:Int):=wrap_u32 (by omega);clear hs1 hs2;go_wp2_with fail;with_reducible refine (tJ.out _).mono ?_
    rintro e w8 ⟨rfl,rfl⟩;have hc1:=kU r1 hf7.own.nx Hs1.out;go_wp2_with fail;with_reducible refine (XC w3 w7 _ _ _ ub1 hf7.own hf7.some_ (by omega) (by omega)).mono ?_
    rintro e w8 ⟨v8,rfl,o8,h8,m8⟩;have hf8:=hf7.code o8 h8 m8;have hB8:=hB7.ch m8.ch (fun e=>htbu e);clear o8 h8 m8 hf7 hB7 d0 d1 d2 hc1;have d1:w8.cell? ⟨tb,1,none⟩=some (.int .i64 (tk.dist:Int)):=hB8.cell 1;obtain ⟨b8,e8⟩:∃b,bits++ub1=b:=⟨_,rfl⟩;have z8:b8.length=bits.length+ub1.length:=(by rw[←e8,List.length_append]);have Z8:b8.length<=15000000:=(by omega);rw[e8]at hf8;have E8:=ah e8;clear e8 z8;obtain ⟨A8,c8,rfl⟩:=hf8.form;have q8:=hf8.rd.2.1;go_wp2_with fail;with_reducible refine (EY _ A8 _ c8 _ v1 m1 false w8 q8 rfl (by omega) (by omega) (by omega)).mono ?_
    rintro e w9 hg9;rw[hpv1]at hg9;obtain ⟨k9,Em,rfl, -⟩:=id hg9;have n9:Nx w8 w9:=by obtain ⟨_,_,_,o,_⟩:=hg9;exact o.nx
    have hf9:=hf8.put hl1 hg9;obtain ⟨b9,e9⟩:∃b,b8++ub2=b:=⟨_,rfl⟩;have z9:b9.length=b8.length+ub2.length:=(by rw[←e9,List.length_append]);have Z9:b9.length<=16000000:=(by omega);have L9:b8.length+m1=b9.length:=(by omega);rw[e9]at hf9;rw[L9]at hf9 ⊢;have E9:=ah e9;clear e9 z9 L9;have hB9:=hB8.nx n9;clear hg9 q8 hf8 hB8 d1 n9;have d1:w9.cell? ⟨tb,1,none⟩=some (.int .i64 (tk.dist:Int)):=hB9.cell 1;go_wp2_with fail;with_reducible refine (Hcd.out _).mono ?_
    rintro e w10 ⟨rfl,rfl⟩;have hc2:=kU r2 hf9.own.nx Hs2.out;go_wp2_with fail;with_reducible refine (XC w3 w9 _ _ _ ub3 hf9.own hf9.some_ (by omega) (by omega)).mono ?_
    rintro e w10 ⟨v10,rfl,o10,h10,m10⟩;have hf10:=hf9.code o10 h10 m10;clear o10 h10 m10 hf9 hB9 d1 hc2;obtain ⟨b10,e10⟩:∃b,b9++ub3=b:=⟨_,rfl⟩;have z10:b10.length=b9.length+ub3.length:=(by rw[←e10,List.length_append]);have Z10:b10.length<=17000000:=(by omega);rw[e10]at hf10;have E10:=ah e10;clear e10 z10;obtain ⟨A10,c10,rfl⟩:=hf10.form;have q10:=hf10.rd.2.1;go_wp2_with fail;with_reducible refine (EY _ A10 _ c10 _ v2 m2 false w10 q10 rfl (by omega) (by omega) (by omega)).mono ?_
    rintro e w11 hg11;rw[hpv2]at hg11;obtain ⟨k11,QZ,rfl, -⟩:=id hg11;have hf11:=hf10.put hl2 hg11;clear hg11 q10 hf10;go_wp2_with fail;go_roundw
    case rel=>exact ⟨k+1,by omega,by go_num,by rw[gX.out,Hb.out,show bits++(ub1++ub2++(ub3++ub4))=b10++ub4 by rw[←E10.out,←E9.out,←E8.out];simp only[List.append_assoc]];exact hf11⟩
    case measure=>simp[intOf];omega
  ·have hkn:k=nt:=by omega
   have htake:l.take k=l:=List.take_of_length_le (by rw[NT.out];omega);rw[htake]at hf hl6;have hlt2:¬((k:Int)<(nt:Int)):=(by omega);have hc1:=kU r1 hf.own.nx (vX (s:=256) (by omega));have hll:=JE 256;have hdb:aI l=bG l++aK 256:=rfl;clear htake;generalize aK 256=ub at *;go_wp2_with fail;with_reducible refine (XC w3 w6 _ _ _ ub hf.own hf.some_ (by omega) (by omega)).mono ?_
   rintro e w8 ⟨v8,rfl,o8,h8,m8⟩;have hf8:=hf.code o8 h8 m8;rw[←hdb]at hf8;have hl8:(aI l).length<=20000000:=by rw[hdb,List.length_append];omega
   clear o8 h8 m8 hf hc1 hdb;generalize aI l=bits at *;obtain ⟨A8,c8,rfl⟩:=hf8.form;obtain ⟨_,q8,q9,q10⟩:=hf8.rd;go_wp2_with fail;with_reducible refine (rW _ A8 _ c8 bits w8 q8 rfl (by omega) q9 (by unfold maxLen at q10;omega)).mono ?_
   rintro e w9 ⟨k9,Em,rfl,o9,_,_,_,_⟩;have n9:=o9.nx;go_wp2_with fail;go_ret;exact ⟨_,_,rfl,⟨_,o9.rd⟩,n3.tr (hf8.own.nx.tr n9)⟩
end Go.Proofs.YtfljcllpmbnjaaaGreat
