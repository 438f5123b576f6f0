/- Contracts and plain laws that the last text rests on. Conditions: each theorem states its own. -/
import Derived.Test.YtfljcllpmbnjaaaGreatKdQ32
import Derived.Test.YtfljcllpmbnjaaaGreatKdQ29
import Derived.Test.YtfljcllpmbnjaaaGreatKdQ31
import Derived.Deep.CutBlock
import Derived.Deep.DeepCutAuto
import Derived.Test.YtfljcllpmbnjaaaGreatKdQ33
import Derived.Test.YtfljcllpmbnjaaaGreatKdQ27
import Derived.Test.YtfljcllpmbnjaaaGreatKdQ30
import Derived.Test.YtfljcllpmbnjaaaGreatKdQ10
set_option maxRecDepth 100000
set_option maxHeartbeats 16000000
set_option linter.unusedVariables false
namespace Go.Proofs.YtfljcllpmbnjaaaGreat
open Go.RowKit
def iF (w:Nat) (l:List Int):Int:=if w=2/\2<=l.length then 2 * l.getD (l.length-1) 0-l.getD (l.length-2) 0 else if 1<=w/\1<=l.length then l.getD (l.length-1) 0 else 0
def NZ (b:List Nat) (w u p:Nat) (l:List Int):Prop:=∀l0,aO l0=0->b=bf l0 w->u=l0.length/\l=l0.take l.length/\l.length<=l0.length/\b.drop p=gU ((aG l0 w).drop l.length)
theorem Yf {l l0:List Int} (h:l=l0.take l.length) {i:Nat} (hi:i<l.length):l.getD i 0=l0.getD i 0:=by
 have h2:l.getD i 0=(l0.take l.length).getD i 0:=by rw[←h]
 rw[h2,List.getD_eq_getElem?_getD,List.getElem?_take,if_pos hi,List.getD_eq_getElem?_getD]
theorem IZ {w:Nat} (hw:w<=2) {l l0:List Int} (h:l=l0.take l.length) (hlt:l.length<l0.length):iF w l+(aG l0 w).getD l.length 0=l0.getD l.length 0:=by
 unfold iF;obtain rfl|rfl|rfl:w=0∨w=1∨w=2:=by omega
 ·simp[aG]
 ·rw[Vp _ _ hlt,if_neg (by omega)]
  by_cases h1:1<=l.length
  ·rw[if_pos ⟨by omega,h1⟩,if_pos h1,Yf h (by omega)];omega
  ·rw[if_neg (by omega),if_neg h1];omega
 ·rw[Zr _ _ hlt]
  by_cases h2:2<=l.length
  ·rw[if_pos ⟨rfl,h2⟩,if_pos h2,Yf h (by omega),Yf h (by omega)];omega
  ·rw[if_neg (by omega),if_neg h2]
   by_cases h1:1<=l.length
   ·rw[if_pos ⟨by omega,h1⟩,if_pos h1,Yf h (by omega)];omega
   ·rw[if_neg (by omega),if_neg h1];omega
theorem BJ {l l0:List Int} (h:l=l0.take l.length) (hlt:l.length<l0.length):l++[l0.getD l.length 0]=l0.take (l.length+1):=by
 rw[List.take_succ_eq_append_getElem hlt,←h];simp[List.getD,hlt]
theorem zM {b:List Nat} {w u p:Nat} {l:List Int} (hw:w<=2) (hR:NZ b w u p l) (hlt:l.length<u) (hp:p<=b.length) {l0:List Int} (he:aO l0=0) (hb:b=bf l0 w):
 ay b p=(zig ((aG l0 w).getD l.length 0),(aj (zig ((aG l0 w).getD l.length 0))).length,0)/\iF w l+(aG l0 w).getD l.length 0=l0.getD l.length 0/\jP (l0.getD l.length 0):=by
 obtain ⟨h1,h2,h3,h4⟩:=hR l0 he hb;have hl:l.length<l0.length:=by omega
 have ht:l.length<(aG l0 w).length:=by rw[z08];exact hl
 obtain ⟨r1,r2⟩:=jH he;have hmem:(aG l0 w).getD l.length 0∈aG l0 w:=by rw[List.getD_eq_getElem?_getD,List.getElem?_eq_getElem ht];exact List.getElem_mem ht
 refine ⟨Jk (tN (z13 r2 w hw) (by omega) hmem) hp (by rw[h4,Uj ht]),IZ hw h2 hl,?_⟩;rw[List.getD_eq_getElem?_getD,List.getElem?_eq_getElem hl];exact r2 _ (List.getElem_mem hl)
theorem Nh {b:List Nat} {w u p:Nat} {l:List Int} (hw:w<=2) (hR:NZ b w u p l) (hlt:l.length<u) (hp:p<=b.length):NZ b w u (p+(ay b p).2.1) (l++[iF w l+zag (ay b p).1]):=fun l0 he hb=>by
 obtain ⟨h5,h6,h7⟩:=zM hw hR hlt hp he hb;obtain ⟨h1,h2,h3,h4⟩:=hR l0 he hb;have hl:l.length<l0.length:=by omega
 have ht:l.length<(aG l0 w).length:=by rw[z08];exact hl
 rw[h5];simp only[RD,h6,List.length_append,List.length_singleton];refine ⟨h1,BJ h2 hl,by omega,?_⟩;rw[←List.drop_drop,h4,Uj ht,List.drop_left]
theorem XQ {l:List Int} (h:∀x∈l,jP x) (j:Nat): -1152921504606846976<=l.getD j 0/\l.getD j 0<=1152921504606846976:=by
 rw[List.getD_eq_getElem?_getD];by_cases hj:j<l.length
 ·rw[List.getElem?_eq_getElem hj]
  exact h _ (List.getElem_mem hj)
 ·rw[List.getElem?_eq_none (by omega)]
  simp
theorem NJ (w:Nat) {l:List Int} (h:∀x∈l,jP x): -3458764513820540928<=iF w l/\iF w l<=3458764513820540928:=by
 have h1:=XQ h (l.length-1);have h2:=XQ h (l.length-2);unfold iF;split
 ·omega
 ·split<;>omega
theorem GY {W w:World} {v:Value} {l:List Int} (h:au W w 2 1 v l.length (il l)) (hv:v.ownBlock≠none):
 ∃g c,v=.slice (some ⟨g,0,none⟩) l.length c/\l.length<=c/\∀j,j<l.length->w.cell? ⟨g,j,none⟩=some (.int .i64 (l.getD j 0))/\w.cell? ((⟨g,0,none⟩:Addr).add j)=some (.int .i64 (l.getD j 0)):=by
 obtain ⟨g,hg⟩:∃g,v.ownBlock=some g:=Option.ne_none_iff_exists'.1 hv;obtain ⟨c,rfl,h1,_⟩:=Ot h.own hg;refine ⟨g,c,rfl,h1,fun j hj=>?_⟩;have hu:(il l)[j]?=some (.int .i64 (l.getD j 0)):=by simp[il,List.getD_eq_getElem?_getD,List.getElem?_eq_getElem hj]
 have h2:=h.own.cells (g:=g) rfl _ _ hu
 have e:Addr.add ⟨g,0,none⟩ j=⟨g,j,none⟩:=by
  unfold Addr.add;by_cases hj:j=0
  ·rw[if_pos hj,hj]
  ·rw[if_neg hj];simp
 exact ⟨by rw[←e];exact h2,h2⟩
def ru (W:World) (b:List Nat) (w:Nat) (e:Ending) (w':World):Prop:=
 ∃v l er,e=.returned (.tuple #[v,.int .i64 er])/\au W w' 2 1 v l.length (il l)/\(er=0->aO l=0)/\(∀l0,aO l0=0->b=bf l0 w->er=0/\l=l0)
theorem ru.bad {W w':World} {b:List Nat} {w:Nat} {er:Int} (n:Nx W w') (h:er≠0) (hno:∀l0,aO l0=0->b=bf l0 w->False):ru W b w (.returned (.tuple #[.slice none 0 0,.int .i64 er])) w':=
 ⟨_,[],er,rfl,au.nil _ _ _ _ n,fun h0=>absurd h0 h,fun l0 he hb=>(hno l0 he hb).elim⟩
def Xz (W:World) (b:List Nat) (w u:Nat) (p v i:Value) (wr:World):Prop:=
 ∃(q:Nat) (l:List Int),q<=b.length/\p=.int .i64 (q:Int)/\i=.int .i64 (l.length:Int)/\l.length<=u/\au W wr 2 1 v l.length (il l)/\v.ownBlock≠none/\(∀x∈l,jP x)/\NZ b w u q l
theorem yC (D:Nat->Prop) (A:Option Addr) (n c:Nat) (b:List Nat) (w:Nat) (W:World) (hr:Rd W D 1 A n (bl b)) (ok:okB b) (hl:b.length=n) (hn:n<=1000000) (hw:w<=2):
 Calls Tryz.prog 57 #[.slice A n c,.int .i64 (w:Int)] W (ru W b w):=by
 obtain ⟨i0,hi0,hz0,hz1,hz2⟩:=info_parts Tryz.g_;have hU:=fun (W':World) (nx:Nx W W') (p:Nat) (hp:p<=1000000000)=>mQ D A n c b p W' (hr.nx (by decide) nx) ok hl (by omega) hp;unfold Ai at hU;have HU:=ah hU;have hu0:=Ba (b:=b) (p:=0) (Nat.zero_le _);have hue:=OM b 0;have Ov:=OU ok 0
 have hR0:∀l0,aO l0=0->b=bf l0 w->ay b 0=(l0.length,(aj l0.length).length,0):=fun l0 he hb=>by
  have:=(jH he).1;exact Jk (v:=l0.length) (by omega) (Nat.zero_le _) (rest:=gU (aG l0 w)) (by rw[hb];rfl)
 have hR1:NZ b w (ay b 0).1 (ay b 0).2.1 []:=fun l0 he hb=>by
  rw[hR0 l0 he hb];refine ⟨rfl,by simp,Nat.zero_le _,?_⟩;rw[hb];simp[bf]
 have HR0:=ah hR0;have HR1:=ah hR1;have Hl:=ah hl;have hu0':=HU.out W (Ch.refl _ _) 0 (by omega);clear hU hR0 hR1 hr hl;have HB:=ah ok;clear ok;generalize ay b 0=t at *;obtain ⟨u,p0,er⟩:=t;simp only at hu0 hue Ov HR0 HR1 hu0';have HU0:=ah hu0';clear hu0';have hc0:(w=0)∨(w=1)∨(w=2):=by omega
 have t0:(((w:Int) !=0)=false)∨(((w:Int) !=0)=true/\((w:Int) !=1)=false)∨(((w:Int) !=0)=true/\((w:Int) !=1)=true/\((w:Int) !=2)=false):=by
  rcases hc0 with rfl|rfl|rfl<;>simp
 clear hc0;go_enter Tryz.func57,Tryz.ntmps57;go_upto_region 1 with fail
 go_cut [25] (fun s25 wx=>s25=.bool false/\wx=W)
 case first=>
  rcases t0 with t0|⟨t0,t02⟩|⟨t0,t02,t03⟩
  all_goals
   go_wp2_with fail;go_meet
   exact ⟨rfl,rfl⟩
 case rest=>
 obtain ⟨rfl,rfl⟩:=hcut;obtain ⟨W,rfl⟩:∃x:World,x=wc:=⟨_,rfl⟩;clear t0;go_wp2_with fail;refine HU0.out.mono ?_;rintro e w1 ⟨rfl,hw1⟩;rw[←hw1];clear hw1;by_cases h0:er=0
 ·subst h0
  clear hue;by_cases hbig:2048<u
  ·have t1:decide ((2048:Int)<(u:Int))=true:=by rw[decide_eq_true_iff];omega
   go_wp2_with fail;go_ret2
   exact ru.bad (Ch.refl _ _) (by decide) fun l0 he hb=>by
    have h1:=HR0.out l0 he hb;have h2:=(jH he).1;injection h1 with h1;omega
  ·have t1:decide ((2048:Int)<(u:Int))=false:=by rw[decide_eq_false_iff_not];omega
   have kw:IntKind.i64.wrap (u:Int)=(u:Int):=IntWalk.i64_in _ (by omega);have hlit:=au.lit W W 2 (Ch.refl _ W) 1;have HL0:Hid (Xz W b w u (.int .i64 (p0:Int)) (.slice (some ⟨W.heap.size,0,none⟩) 0 0) (.int .i64 0) (W.alloc (.cells #[] 2))):=ah ⟨p0,[],by omega,rfl,rfl,Nat.zero_le _,by simpa [il]using hlit,by simp[Value.ownBlock],by simp,HR1.out⟩;clear hlit t1;go_wp2_with fail;go_loopw [7,9,10] (fun p v i wr=>Xz W b w u p v i wr) (fun _ _ i _=>u-(intOf i).toNat)
   case atStart=>exact HL0.out
   case round=>
    clear HL0 HR0 HR1 HU0;obtain ⟨w3,rfl⟩:∃w3:World,w3=wr:=⟨_,rfl⟩;obtain ⟨q,l,hq,rfl,rfl,hlu,ho,hsm,hin,hR⟩:=hrel;have HO:=ah ho;have Xv:=ah hsm;have Xp:=ah hin;have HRR:=ah hR;have hqn:q<=n:=by rw[←Hl.out];exact hq
    by_cases hlt:l.length<u
    ·have HS:=ah (fun (l0:List Int) he hb=>zM (l0:=l0) hw hR hlt hq he hb)
     have OC:=ah (Nh hw hR hlt hq);have HUq:=ah (HU.out w3 ho.nx q (by omega));have hkl:=Ba hq;have hke:=OM b q;have hkb:=OU HB.out q;have vW:(l.length:Int)<(u:Int):=(by omega);rw[Hl.out]at hkl;clear ho hsm hin hR hq;generalize ay b q=t at *;obtain ⟨z,k,f⟩:=t;simp only at hkl hke hkb OC HUq;go_wp2_with fail;refine HUq.out.mono ?_;rintro e w4 ⟨rfl,hw4⟩;rw[←hw4];clear hw4 HUq;by_cases hf:f=0
     ·subst hf
      clear hke;have HZ:=ah (KF z w3 hkb);have hzr:=Jt hkb;go_wp2_with fail;refine HZ.out.mono ?_;rintro e w4 ⟨rfl,hw4⟩;rw[←hw4];clear hw4 HZ;obtain ⟨x,hxz⟩:∃x,zag z=x:=⟨_,rfl⟩;rw[hxz]at hzr OC ⊢;have HXZ:=ah hxz;clear hxz;obtain ⟨g,cg,hv,hcg,hcell⟩:=GY HO.out Xv.out;subst hv;have HC:=ah hcell;clear hcell;have hbd:=NJ w Xp.out;go_upto_region 18 with fail
      go_cut [64] (fun s64 wx=>s64=.bool (decide (1<=w/\1<=l.length))/\wx=w3)
      case first=>
       by_cases hg1:1<=w
       ·have t1:(1:Int)<=(w:Int):=by omega
        by_cases hg2:1<=l.length
        ·have t2:(1:Int)<=(l.length:Int):=by omega
         have hd:decide (1<=w/\1<=l.length)=true:=decide_eq_true ⟨hg1,hg2⟩;clear hg1 hg2;go_wp2_with fail;go_meet
         exact ⟨by rw[hd],rfl⟩
        ·have t2:¬(1:Int)<=(l.length:Int):=by omega
         have hd:decide (1<=w/\1<=l.length)=false:=decide_eq_false fun h=>hg2 h.2;clear hg1 hg2;go_wp2_with fail;go_meet
         exact ⟨by rw[hd],rfl⟩
       ·have t1:¬(1:Int)<=(w:Int):=by omega
        have hd:decide (1<=w/\1<=l.length)=false:=decide_eq_false fun h=>hg1 h.1;clear hg1;go_wp2_with fail;go_meet
        exact ⟨by rw[hd],rfl⟩
      case rest=>
      obtain ⟨rfl,hwc⟩:=hcut;rw[hwc];clear hwc;go_upto_if 64 with fail
      go_cut [15] (fun s15 wx=>s15=.int .i64 (if 1<=w/\1<=l.length then l.getD (l.length-1) 0 else 0)/\wx=w3)
      case first=>
       by_cases hg:1<=w/\1<=l.length
       ·have hd:decide (1<=w/\1<=l.length)=true:=decide_eq_true hg
        rw[hd];obtain ⟨j,hj⟩:∃j,l.length-1=j:=⟨_,rfl⟩;have hif:(if 1<=w/\1<=l.length then l.getD (l.length-1) 0 else 0)=l.getD j 0:=(by rw[if_pos hg,hj]);have Rk:=ah hif;have hji:(l.length:Int)-1=(j:Int):=(by omega);have hjl:(j:Int)<(l.length:Int):=(by omega);obtain ⟨hc1,hc2⟩:=HC.out j (by omega);clear hg hd hj hif;generalize l.getD j 0=y at *;go_wp2_with fail;go_meet
        exact ⟨by rw[Rk.out],rfl⟩
       ·have hd:decide (1<=w/\1<=l.length)=false:=decide_eq_false hg
        have Rk:Hid ((if 1<=w/\1<=l.length then l.getD (l.length-1) 0 else 0)=0):=ah (if_neg hg);rw[hd];clear hg hd;go_wp2_with fail;go_meet
        exact ⟨by rw[Rk.out],rfl⟩
      case rest=>
      obtain ⟨rfl,hwc⟩:=hcut;rw[hwc];clear hwc;obtain ⟨B1,hB1⟩:∃B1,(if 1<=w/\1<=l.length then l.getD (l.length-1) 0 else 0)=B1:=⟨_,rfl⟩;rw[hB1];have HB1:=ah hB1;clear hB1;go_upto_region 20 with fail
      go_cut [75] (fun s75 wx=>s75=.bool (decide (w=2/\2<=l.length))/\wx=w3)
      case first=>
       by_cases hg1:w=2
       ·have t1:((w:Int)==2)=true:=by rw[beq_iff_eq];omega
        by_cases hg2:2<=l.length
        ·have t2:(2:Int)<=(l.length:Int):=by omega
         have hd:decide (w=2/\2<=l.length)=true:=decide_eq_true ⟨hg1,hg2⟩;clear hg1 hg2;go_wp2_with fail;go_meet
         exact ⟨by rw[hd],rfl⟩
        ·have t2:¬(2:Int)<=(l.length:Int):=by omega
         have hd:decide (w=2/\2<=l.length)=false:=decide_eq_false fun h=>hg2 h.2;clear hg1 hg2;go_wp2_with fail;go_meet
         exact ⟨by rw[hd],rfl⟩
       ·have t1:((w:Int)==2)=false:=by rw[beq_eq_false_iff_ne];omega
        have hd:decide (w=2/\2<=l.length)=false:=decide_eq_false fun h=>hg1 h.1;clear hg1;go_wp2_with fail;go_meet
        exact ⟨by rw[hd],rfl⟩
      case rest=>
      obtain ⟨rfl,hwc⟩:=hcut;rw[hwc];clear hwc;go_upto_if 75 with fail
      go_cut [15] (fun s15 wx=>s15=.int .i64 (iF w l)/\Nx w3 wx)
      case first=>
       by_cases hg:w=2/\2<=l.length
       ·have hd:decide (w=2/\2<=l.length)=true:=decide_eq_true hg
        have hb:iF w l=2 * l.getD (l.length-1) 0-l.getD (l.length-2) 0:=by unfold iF;rw[if_pos hg]
        rw[hd];obtain ⟨j,hj⟩:∃j,l.length-1=j:=⟨_,rfl⟩;obtain ⟨i,hi⟩:∃i,l.length-2=i:=⟨_,rfl⟩;have hji:(l.length:Int)-1=(j:Int):=(by omega);have hjl:(j:Int)<(l.length:Int):=(by omega);have hii:(l.length:Int)-2=(i:Int):=(by omega);have hil:(i:Int)<(l.length:Int):=(by omega);obtain ⟨hc1,hc2⟩:=HC.out j (by omega);obtain ⟨hc3,hc4⟩:=HC.out i (by omega);have hy1:=XQ Xp.out j;have hy2:=XQ Xp.out i;rw[hj,hi]at hb;have Hb:=ah hb;clear hg hd hj hi hb;generalize l.getD j 0=y1 at *;generalize l.getD i 0=y2 at *;go_wp2_with fail;go_quiet (fail)
        go_wp2_with fail;go_meet
        exact ⟨by rw[Hb.out],(Ch.refl _ _).drewN _⟩
       ·have hd:decide (w=2/\2<=l.length)=false:=decide_eq_false hg
        have hb:iF w l=B1:=by rw[←HB1.out];unfold iF;rw[if_neg hg]
        have Hb:=ah hb;rw[hd];clear hg hd hb;go_wp2_with fail;go_meet
        exact ⟨by rw[Hb.out],Ch.refl _ _⟩
      case rest=>
      obtain ⟨rfl,n4⟩:=hcut;obtain ⟨w4,rfl⟩:∃x:World,x=wc:=⟨_,rfl⟩;have O4:=ah (HO.out.tr n4);clear n4 HB1 HC;have HBD:=ah hbd;clear hbd;have hbd:=HBD.out;generalize iF w l=B at *;by_cases hbad:1152921504606846976-B<x∨x< -1152921504606846976-B
      ·have hno:∀l0,aO l0=0->b=bf l0 w->False:=fun l0 he hb=>by
        obtain ⟨h1,h2,h3,h4⟩:=HS.out l0 he hb;injection h1 with h1;have h5:=HXZ.out;rw[h1,RD]at h5;omega
       have FI:=ah hno;clear hno;by_cases hb1:1152921504606846976-B<x
       ·clear hbad
        go_wp2_with fail;go_ret2;exact ru.bad O4.out.nx (by decide) FI.out
       ·have hb2:x< -1152921504606846976-B:=hbad.resolve_left hb1
        clear hbad;go_wp2_with fail;go_ret2;exact ru.bad O4.out.nx (by decide) FI.out
      ·have hb1:¬1152921504606846976-B<x:=fun h=>hbad (.inl h)
       have hb2:¬x< -1152921504606846976-B:=fun h=>hbad (.inr h);clear hbad;have Hix:Hid (jP (B+x)):=ah ⟨by omega,by omega⟩;go_wp2_with (at_builtin;refine z02 rfl (.tmp 98) (.tmp 102) _ rfl 2 i0 _ 8 Tryz.underlying22 hi0 hz0 hz1 hz2 rfl _ rfl rfl O4.out rfl (by simp only[maxLen];omega) (by omega) ?_;intro v' w' ho2 hmv)
       have O5:=ah ho2;have MV:=ah (hmv.some_ Xv.out);clear ho2 hmv;go_roundw
       case rel=>
        refine ⟨q+k,l++[B+x],by rw[Hl.out];exact hkl,by go_num,by rw[List.length_append];go_num,by rw[List.length_append];exact hlt,?_,MV.out,fun y hy=>?_,OC.out⟩
        ·rw[List.length_append,Ry]
         exact O5.out
        ·rcases List.mem_append.1 hy with hy|hy
         ·exact Xp.out y hy
         ·rw[List.mem_singleton]at hy;rw[hy];exact Hix.out
       case measure=>simp[intOf];omega
     ·have hf2:(f !=0)=true:=by rw[bne_iff_ne];exact hf
      have Hf:=ah hf;clear hke hf;go_wp2_with fail;go_ret2
      exact ru.bad HO.out.nx Hf.out fun l0 he hb=>by
       obtain ⟨h1, -⟩:=HS.out l0 he hb;injection h1 with _ h1;injection h1 with _ h1;exact Hf.out h1
    ·have VW:l.length=u:=by omega
     have Hlu:=ah VW;have vW:¬(l.length:Int)<(u:Int):=(by omega);have Hbig:=ah (show l.length<=2048 by omega);clear ho hsm hin hR VW;by_cases hqe:q<n
     ·have hqi:(q:Int)<(n:Int):=by omega
      go_wp2_with fail;go_ret2
      exact ru.bad HO.out.nx (by decide) fun l0 he hb=>by
       obtain ⟨h1,h2,h3,h4⟩:=HRR.out l0 he hb;have h5:=congrArg List.length h4;have h6:(aG l0 w).drop l.length=[]:=List.drop_of_length_le (by rw[z08];have:=Hlu.out;omega);rw[h6,List.length_drop,Hl.out]at h5;simp[gU]at h5;omega
     ·have hqi:¬(q:Int)<(n:Int):=by omega
      go_wp2_with fail;go_ret2;refine ⟨_,l,0,rfl,HO.out,fun _=>?_,fun l0 he hb=>⟨rfl,?_⟩⟩
      ·unfold aO
       rw[if_neg (by have:=Hbig.out;omega),if_pos Xp.out]
      ·obtain ⟨h1,h2,h3,h4⟩:=HRR.out l0 he hb
       rw[h2,List.take_of_length_le (by have:=Hlu.out;omega)]
 ·have h02:(er !=0)=true:=by rw[bne_iff_ne];exact h0
  have H0:=ah h0;clear hue h0;go_wp2_with fail;go_ret2
  exact ru.bad (Ch.refl _ _) H0.out fun l0 he hb=>by
   have h1:=HR0.out l0 he hb;injection h1 with _ h1;injection h1 with _ h1;exact H0.out h1
def Og (P:List Nat->Prop) (W:World) (e:Ending) (w':World):Prop:=
 ∃(D:Nat->Prop) (A:Option Addr) (c:Nat) (ys:List Nat) (er:Int),e=.returned (.tuple #[.slice A ys.length c,.int .i64 er])/\Rd w' D 1 A ys.length (bl ys)/\Nx W w'/\(er=0->P ys)
theorem Og.nil {P:List Nat->Prop} {W w':World} {er:Int} (n:Nx W w') (h:er≠0):Og P W (.returned (.tuple #[.slice none 0 0,.int .i64 er])) w':=⟨fun _=>True,none,0,[],er,rfl,Rd.none_ _ _ _ _,n,fun h0=>absurd h0 h⟩
theorem Og.chunk {P:List Nat->Prop} {W w':World} {xs:List Nat} {e:Ending} (h:z2b W xs e w') (hP:P xs):Og P W e w':=by
 obtain ⟨k,cap,rfl,o, -⟩:=h;exact ⟨_,_,_,xs,_,rfl,o.fM,o.nx,fun _=>hP⟩
theorem Og.put {P:List Nat->Prop} {W w':World} {kind:Nat} {xs:List Nat} {e:Ending} (h:jc W kind xs e w') (hP:xs.length<=65536->P (aC kind xs)):Og P W e w':=by
 by_cases hx:xs.length<=65536
 ·exact .chunk (h.1 hx) (hP hx)
 ·obtain ⟨rfl,n⟩:=h.2 (by omega)
  exact .nil n (by decide)
def fQ (b:List Nat) (l:List Bool):Prop:=l.length<=2048/\b=aC 4 (aU l)
def gy (b:List Nat) (l:List ByteArray):Prop:=l.length<=2048/\(∀s∈l,s.size<=1024)/\(aV l).length<=65536/\b=aC 2 (aV l)
def gu (b:List Nat) (l:List ByteArray):Prop:=l.length<=2048/\(∀s∈l,s.size<=1024)/\(bC l).length<=65536/\b=aC 3 (bC l)
def fP (b:List Nat) (l:List Int):Prop:=aO l=0/\b=aC 1 (bT l)
def Oe {α:Type} (t:TypeId) (cells:List α->List Value) (good:List α->Prop) (made:List α->Prop) (ce:Int) (W:World) (e:Ending) (w':World):Prop:=
 ∃v l er,e=.returned (.tuple #[v,.int .i64 er])/\au W w' t 1 v l.length (cells l)/\good l/\(er=0->made l)/\(er≠0->er=ce/\l=[])
theorem XE {xs ys:List Nat} (hx:okB xs) (hy:okB ys) (h:((b_ xs).toList==(b_ ys).toList)=true):xs=ys:=by
 rw[beq_iff_eq,ByteArray.toList_eq,ByteArray.toList_eq]at h;refine yg hx hy ?_;cases h1:b_ xs
 cases h2:b_ ys
 rw[h1,h2]at h;simpa [Array.ext_iff]using congrArg List.toArray h
def MJ (l:List Bool):Prop:=l.length<=2048
def sS (l:List ByteArray):Prop:=l.length<=2048/\∀s∈l,s.size<=1000000000
def MI (l:List Int):Prop:=l.length<=2048/\∀z∈l,i64 z
theorem Bg {l:List ByteArray} (hn:l.length<=2048) (hs:∀s∈l,s.size<=1024):(aV l).length<=100000000:=(lV hn hs)
theorem vg (D:Nat->Prop) (A:Option Addr) (c:Nat) (l:List Bool) (w:World) (h:Rd w D 1 A l.length (ji l)) (g:MJ l) (hc:l.length<=c):Calls Tryz.prog 15 #[.slice A l.length c] w (Og (fun ys=>okB ys/\fQ ys l) w):=
 (ZI D A l.length c l w h rfl g).mono fun _ _ h=>.chunk h ⟨Vl (by decide) (z20 g) (by have:=RN g;omega),g,rfl⟩
theorem qB (D:Nat->Prop) (A:Option Addr) (n c:Nat) (b:List Nat) (W:World) (hr:Rd W D 1 A n (bl b)) (dX:∀k,D k->k<W.heap.size) (ok:okB b) (hl:b.length=n) (hn:n<=1000000) (hc:n<=c):
 Calls Tryz.prog 67 #[.int .u8 4,.slice A n c,.func (.func 68) #[] #[],.func (.func 15) #[] #[]] W (Oe 4 ji MJ (fQ b) (aT b) W):=by
 have hcon:=Yh D A n c 4 b W hr dX ok hl hn hc (by decide);have hcn:=QG b;have OK:=ah ok;generalize aT b=ce at *;have Hc:=ah hcon;have pV:=ah hcn;clear hcon hcn;have tJ:=ah (fun (D:Nat->Prop) (g:Nat) (A:Option Addr) (c:Nat) (xs:List Nat) (w:World) (h:aJ w D g A c xs 0 0)=>DF D g A c xs w h);have iJ:=ah (fun (D:Nat->Prop) (A:Option Addr) (c:Nat) (l:List _) (w:World) h g hc=>vg D A c l w h g hc);have hstr:=fun (D:Nat->Prop) (A:Option Addr) (n c:Nat) (t:List Nat) (w:World) (h:Rd w D 1 A n (bl t))=>xB (P:=Tryz.prog) w 27 9 5 Tryz.underlying27 Tryz.underlying5 Tryz.underlying9 D A n c _ h;have eU:=ah hstr;have HR:=ah hr;clear hstr hr dX ok hl;go_enter Tryz.func67,Tryz.ntmps67;go_wp2_with fail;refine Hc.out.mono ?_;intro e w1 hca;rcases hca with ⟨her,rfl,n1⟩|⟨h4,xs, -,g,A1,c1,D1,rfl,cu1,n1,hg,hD1⟩
 ·have q1:(ce !=0)=true:=by rw[bne_iff_ne];exact her
  clear her;go_wp2_with fail;go_ret2;exact ⟨_,[],ce,rfl,au.nil _ _ _ _ n1,by first|exact Nat.zero_le _|exact ⟨Nat.zero_le _,fun z hz=>by cases hz⟩,fun h0=>absurd h0 pV.out,fun _=>⟨rfl,rfl⟩⟩
 ·have hs1:=n1.size
  have H4:=ah h4;clear h4;go_wp2_with fail;refine (tJ.out _ _ _ _ _ _ cu1).mono ?_;rintro e w2 ⟨l,v2,p2,e2,rfl,hgd,o2,cu2,c2⟩;have n2:Nx W w2:=n1.trans c2 fun i hi e=>by omega
  have vG:au W w2 4 1 v2 l.length (ji l):=⟨iT o2 hs1,n2⟩;obtain ⟨A2,cc2,rfl,hcc,_⟩:=z05 o2;have fV:=ah (EG cu2);have HG:=ah hgd;clear o2 c2 cu1 cu2 hgd;by_cases hE:bn xs.length p2 e2=0
  ·rw[hE]at fV
   clear hE;go_wp2_with fail;refine fV.out.mono ?_;rintro e w3 ⟨rfl,d3⟩;have o3:=vG.tr d3.nx;clear d3 fV vG;have HP:=ah (iJ.out _ A2 cc2 l w3 o3.rd HG.out hcc);go_wp2_with fail;refine HP.out.mono ?_;rintro e w4 ⟨D4,A4,c4,ys,er,rfl,r4,n4,hP⟩;have HP2:=ah hP;clear hP;have o4:=o3.tr n4;have s1:=eU.out _ _ _ c4 _ w4 r4;have s2:=eU.out D A n c b w4 (HR.out.nx (by decide) o4.nx);have O4:=ah o4
   have HQ0:Hid (er=0->((b_ ys).toList==(b_ b).toList)=true->fQ b l):=ah fun h0 hs=>by
    obtain ⟨k1,k2⟩:=HP2.out h0;rw[←XE k1 OK.out hs];exact k2
   clear HP2;generalize b_ ys=sx at *;generalize b_ b=sb at *;clear HP o3 o4 n4 r4;by_cases he0:er=0
   ·subst he0
    have HQ:=ah (HQ0.out rfl);obtain ⟨bb,hbb⟩:∃bb,(sx.toList==sb.toList)=bb:=⟨_,rfl⟩;cases bb
    ·have hb2:(sx.toList !=sb.toList)=true:=by simp[bne,hbb]
     go_wp2_with fail;go_ret2;exact ⟨_,[],4,rfl,au.nil _ _ _ _ O4.out.nx,by first|exact Nat.zero_le _|exact ⟨Nat.zero_le _,fun z hz=>by cases hz⟩,fun h0=>absurd h0 (by decide),fun _=>⟨H4.out.symm,rfl⟩⟩
    ·have hb2:(sx.toList !=sb.toList)=false:=by simp[bne,hbb]
     go_wp2_with fail;go_ret2;exact ⟨_,l,0,rfl,O4.out,HG.out,fun _=>HQ.out hbb,fun h0=>absurd rfl h0⟩
   ·have q1:(er !=0)=true:=by rw[bne_iff_ne];exact he0
    clear he0;go_wp2_with fail;go_ret2;exact ⟨_,[],4,rfl,au.nil _ _ _ _ O4.out.nx,by first|exact Nat.zero_le _|exact ⟨Nat.zero_le _,fun z hz=>by cases hz⟩,fun h0=>absurd h0 (by decide),fun _=>⟨H4.out.symm,rfl⟩⟩
  ·have q1:(bn xs.length p2 e2 !=0)=true:=by rw[bne_iff_ne];exact hE
   clear hE;generalize bn xs.length p2 e2=E at *;have NN:=ah n2;go_wp2_with fail;refine fV.out.mono ?_;rintro e w3 ⟨rfl,d3⟩;have N3:=ah (NN.out.tr d3.nx);clear d3;go_wp2_with fail;go_ret2;exact ⟨_,[],4,rfl,au.nil _ _ _ _ N3.out,by first|exact Nat.zero_le _|exact ⟨Nat.zero_le _,fun z hz=>by cases hz⟩,fun h0=>absurd h0 (by decide),fun _=>⟨H4.out.symm,rfl⟩⟩
theorem wK (D:Nat->Prop) (A:Option Addr) (n c:Nat) (b:List Nat) (W:World) (hr:Rd W D 1 A n (bl b)) (dX:∀k,D k->k<W.heap.size) (ok:okB b) (hl:b.length=n) (hn:n<=1000000) (hc:n<=c):
 Calls Tryz.prog 28 #[.slice A n c] W (Oe 4 ji MJ (fQ b) (aT b) W):=by
 have Hr:=ah (qB D A n c b W hr dX ok hl hn hc);clear hr dX ok hl hn hc;go_enter Tryz.func28,Tryz.ntmps28;go_wp2_with fail;refine Hr.out.mono ?_;rintro e w1 ⟨v,l,er,rfl,h⟩;go_wp2_with fail;go_ret2;exact ⟨v,l,er,rfl,h⟩
theorem uZ (D:Nat->Prop) (A:Option Addr) (c:Nat) (l:List ByteArray) (w:World) (h:Rd w D 1 A l.length (bW l)) (g:sS l) (hc:l.length<=c):Calls Tryz.prog 12 #[.slice A l.length c] w (Og (fun ys=>okB ys/\gy ys l) w):=by
 by_cases hs:∀s∈l,s.size<=1024
 ·exact (z3g D A l.length c l w h rfl g.1 hs hc (Bg g.1 hs)).mono fun _ _ h=>.put h fun hx=>⟨Vl (by decide) (RJ g.1 hs) hx,g.1,hs,hx,rfl⟩
 ·refine (z4s D A l.length c l w h rfl g.1 hs).mono ?_
  rintro e w' ⟨rfl,n⟩;exact .nil n (by decide)
theorem qy (D:Nat->Prop) (A:Option Addr) (n c:Nat) (b:List Nat) (W:World) (hr:Rd W D 1 A n (bl b)) (dX:∀k,D k->k<W.heap.size) (ok:okB b) (hl:b.length=n) (hn:n<=1000000) (hc:n<=c):
 Calls Tryz.prog 58 #[.int .u8 2,.slice A n c,.func (.func 59) #[] #[],.func (.func 12) #[] #[]] W (Oe 9 bW sS (gy b) (aT b) W):=by
 have hcon:=Yh D A n c 2 b W hr dX ok hl hn hc (by decide);have hcn:=QG b;have OK:=ah ok;generalize aT b=ce at *;have Hc:=ah hcon;have pV:=ah hcn;clear hcon hcn;have tJ:=ah (fun (D:Nat->Prop) (g:Nat) (A:Option Addr) (c:Nat) (xs:List Nat) (w:World) (h:aJ w D g A c xs 0 0)=>Bj D g A c xs w h);have iJ:=ah (fun (D:Nat->Prop) (A:Option Addr) (c:Nat) (l:List _) (w:World) h g hc=>uZ D A c l w h g hc);have hstr:=fun (D:Nat->Prop) (A:Option Addr) (n c:Nat) (t:List Nat) (w:World) (h:Rd w D 1 A n (bl t))=>xB (P:=Tryz.prog) w 27 9 5 Tryz.underlying27 Tryz.underlying5 Tryz.underlying9 D A n c _ h;have eU:=ah hstr;have HR:=ah hr;clear hstr hr dX ok hl;go_enter Tryz.func58,Tryz.ntmps58;go_wp2_with fail;refine Hc.out.mono ?_;intro e w1 hca;rcases hca with ⟨her,rfl,n1⟩|⟨h4,xs, -,g,A1,c1,D1,rfl,cu1,n1,hg,hD1⟩
 ·have q1:(ce !=0)=true:=by rw[bne_iff_ne];exact her
  clear her;go_wp2_with fail;go_ret2;exact ⟨_,[],ce,rfl,au.nil _ _ _ _ n1,by first|exact Nat.zero_le _|exact ⟨Nat.zero_le _,fun z hz=>by cases hz⟩,fun h0=>absurd h0 pV.out,fun _=>⟨rfl,rfl⟩⟩
 ·have hs1:=n1.size
  have H4:=ah h4;clear h4;go_wp2_with fail;refine (tJ.out _ _ _ _ _ _ cu1).mono ?_;rintro e w2 ⟨l,v2,p2,e2,rfl,hgd,o2,cu2,c2⟩;have n2:Nx W w2:=n1.trans c2 fun i hi e=>by omega
  have vG:au W w2 9 1 v2 l.length (bW l):=⟨iT o2 hs1,n2⟩;obtain ⟨A2,cc2,rfl,hcc,_⟩:=z05 o2;have fV:=ah (EG cu2);have HG:=ah hgd;clear o2 c2 cu1 cu2 hgd;by_cases hE:bn xs.length p2 e2=0
  ·rw[hE]at fV
   clear hE;go_wp2_with fail;refine fV.out.mono ?_;rintro e w3 ⟨rfl,d3⟩;have o3:=vG.tr d3.nx;clear d3 fV vG;have HP:=ah (iJ.out _ A2 cc2 l w3 o3.rd HG.out hcc);go_wp2_with fail;refine HP.out.mono ?_;rintro e w4 ⟨D4,A4,c4,ys,er,rfl,r4,n4,hP⟩;have HP2:=ah hP;clear hP;have o4:=o3.tr n4;have s1:=eU.out _ _ _ c4 _ w4 r4;have s2:=eU.out D A n c b w4 (HR.out.nx (by decide) o4.nx);have O4:=ah o4
   have HQ0:Hid (er=0->((b_ ys).toList==(b_ b).toList)=true->gy b l):=ah fun h0 hs=>by
    obtain ⟨k1,k2⟩:=HP2.out h0;rw[←XE k1 OK.out hs];exact k2
   clear HP2;generalize b_ ys=sx at *;generalize b_ b=sb at *;clear HP o3 o4 n4 r4;by_cases he0:er=0
   ·subst he0
    have HQ:=ah (HQ0.out rfl);obtain ⟨bb,hbb⟩:∃bb,(sx.toList==sb.toList)=bb:=⟨_,rfl⟩;cases bb
    ·have hb2:(sx.toList !=sb.toList)=true:=by simp[bne,hbb]
     go_wp2_with fail;go_ret2;exact ⟨_,[],4,rfl,au.nil _ _ _ _ O4.out.nx,by first|exact Nat.zero_le _|exact ⟨Nat.zero_le _,fun z hz=>by cases hz⟩,fun h0=>absurd h0 (by decide),fun _=>⟨H4.out.symm,rfl⟩⟩
    ·have hb2:(sx.toList !=sb.toList)=false:=by simp[bne,hbb]
     go_wp2_with fail;go_ret2;exact ⟨_,l,0,rfl,O4.out,HG.out,fun _=>HQ.out hbb,fun h0=>absurd rfl h0⟩
   ·have q1:(er !=0)=true:=by rw[bne_iff_ne];exact he0
    clear he0;go_wp2_with fail;go_ret2;exact ⟨_,[],4,rfl,au.nil _ _ _ _ O4.out.nx,by first|exact Nat.zero_le _|exact ⟨Nat.zero_le _,fun z hz=>by cases hz⟩,fun h0=>absurd h0 (by decide),fun _=>⟨H4.out.symm,rfl⟩⟩
  ·have q1:(bn xs.length p2 e2 !=0)=true:=by rw[bne_iff_ne];exact hE
   clear hE;generalize bn xs.length p2 e2=E at *;have NN:=ah n2;go_wp2_with fail;refine fV.out.mono ?_;rintro e w3 ⟨rfl,d3⟩;have N3:=ah (NN.out.tr d3.nx);clear d3;go_wp2_with fail;go_ret2;exact ⟨_,[],4,rfl,au.nil _ _ _ _ N3.out,by first|exact Nat.zero_le _|exact ⟨Nat.zero_le _,fun z hz=>by cases hz⟩,fun h0=>absurd h0 (by decide),fun _=>⟨H4.out.symm,rfl⟩⟩
theorem wI (D:Nat->Prop) (A:Option Addr) (n c:Nat) (b:List Nat) (W:World) (hr:Rd W D 1 A n (bl b)) (dX:∀k,D k->k<W.heap.size) (ok:okB b) (hl:b.length=n) (hn:n<=1000000) (hc:n<=c):
 Calls Tryz.prog 24 #[.slice A n c] W (Oe 9 bW sS (gy b) (aT b) W):=by
 have Hr:=ah (qy D A n c b W hr dX ok hl hn hc);clear hr dX ok hl hn hc;go_enter Tryz.func24,Tryz.ntmps24;go_wp2_with fail;refine Hr.out.mono ?_;rintro e w1 ⟨v,l,er,rfl,h⟩;go_wp2_with fail;go_ret2;exact ⟨v,l,er,rfl,h⟩
theorem u_ (D:Nat->Prop) (A:Option Addr) (c:Nat) (l:List ByteArray) (w:World) (h:Rd w D 1 A l.length (bW l)) (g:sS l) (hc:l.length<=c):Calls Tryz.prog 13 #[.slice A l.length c] w (Og (fun ys=>okB ys/\gu ys l) w):=by
 by_cases hs:∀s∈l,s.size<=1024
 ·exact (z3h D A l.length c l w h rfl g.1 hs hc).mono fun _ _ h=>.put h fun hx=>⟨Vl (by decide) (QI g.1 hs).1 hx,g.1,hs,hx,rfl⟩
 ·refine (z4t D A l.length c l w h rfl g.1 hs).mono ?_
  rintro e w' ⟨rfl,n⟩;exact .nil n (by decide)
theorem qA (D:Nat->Prop) (A:Option Addr) (n c:Nat) (b:List Nat) (W:World) (hr:Rd W D 1 A n (bl b)) (dX:∀k,D k->k<W.heap.size) (ok:okB b) (hl:b.length=n) (hn:n<=1000000) (hc:n<=c):
 Calls Tryz.prog 58 #[.int .u8 3,.slice A n c,.func (.func 65) #[] #[],.func (.func 13) #[] #[]] W (Oe 9 bW sS (gu b) (aT b) W):=by
 have hcon:=Yh D A n c 3 b W hr dX ok hl hn hc (by decide);have hcn:=QG b;have OK:=ah ok;generalize aT b=ce at *;have Hc:=ah hcon;have pV:=ah hcn;clear hcon hcn;have tJ:=ah (fun (D:Nat->Prop) (g:Nat) (A:Option Addr) (c:Nat) (xs:List Nat) (w:World) (h:aJ w D g A c xs 0 0)=>BH D g A c xs w h);have iJ:=ah (fun (D:Nat->Prop) (A:Option Addr) (c:Nat) (l:List _) (w:World) h g hc=>u_ D A c l w h g hc);have hstr:=fun (D:Nat->Prop) (A:Option Addr) (n c:Nat) (t:List Nat) (w:World) (h:Rd w D 1 A n (bl t))=>xB (P:=Tryz.prog) w 27 9 5 Tryz.underlying27 Tryz.underlying5 Tryz.underlying9 D A n c _ h;have eU:=ah hstr;have HR:=ah hr;clear hstr hr dX ok hl;go_enter Tryz.func58,Tryz.ntmps58;go_wp2_with fail;refine Hc.out.mono ?_;intro e w1 hca;rcases hca with ⟨her,rfl,n1⟩|⟨h4,xs, -,g,A1,c1,D1,rfl,cu1,n1,hg,hD1⟩
 ·have q1:(ce !=0)=true:=by rw[bne_iff_ne];exact her
  clear her;go_wp2_with fail;go_ret2;exact ⟨_,[],ce,rfl,au.nil _ _ _ _ n1,by first|exact Nat.zero_le _|exact ⟨Nat.zero_le _,fun z hz=>by cases hz⟩,fun h0=>absurd h0 pV.out,fun _=>⟨rfl,rfl⟩⟩
 ·have hs1:=n1.size
  have H4:=ah h4;clear h4;go_wp2_with fail;refine (tJ.out _ _ _ _ _ _ cu1).mono ?_;rintro e w2 ⟨l,v2,p2,e2,rfl,hgd,o2,cu2,c2⟩;have n2:Nx W w2:=n1.trans c2 fun i hi e=>by omega
  have vG:au W w2 9 1 v2 l.length (bW l):=⟨iT o2 hs1,n2⟩;obtain ⟨A2,cc2,rfl,hcc,_⟩:=z05 o2;have fV:=ah (EG cu2);have HG:=ah hgd;clear o2 c2 cu1 cu2 hgd;by_cases hE:bn xs.length p2 e2=0
  ·rw[hE]at fV
   clear hE;go_wp2_with fail;refine fV.out.mono ?_;rintro e w3 ⟨rfl,d3⟩;have o3:=vG.tr d3.nx;clear d3 fV vG;have HP:=ah (iJ.out _ A2 cc2 l w3 o3.rd HG.out hcc);go_wp2_with fail;refine HP.out.mono ?_;rintro e w4 ⟨D4,A4,c4,ys,er,rfl,r4,n4,hP⟩;have HP2:=ah hP;clear hP;have o4:=o3.tr n4;have s1:=eU.out _ _ _ c4 _ w4 r4;have s2:=eU.out D A n c b w4 (HR.out.nx (by decide) o4.nx);have O4:=ah o4
   have HQ0:Hid (er=0->((b_ ys).toList==(b_ b).toList)=true->gu b l):=ah fun h0 hs=>by
    obtain ⟨k1,k2⟩:=HP2.out h0;rw[←XE k1 OK.out hs];exact k2
   clear HP2;generalize b_ ys=sx at *;generalize b_ b=sb at *;clear HP o3 o4 n4 r4;by_cases he0:er=0
   ·subst he0
    have HQ:=ah (HQ0.out rfl);obtain ⟨bb,hbb⟩:∃bb,(sx.toList==sb.toList)=bb:=⟨_,rfl⟩;cases bb
    ·have hb2:(sx.toList !=sb.toList)=true:=by simp[bne,hbb]
     go_wp2_with fail;go_ret2;exact ⟨_,[],4,rfl,au.nil _ _ _ _ O4.out.nx,by first|exact Nat.zero_le _|exact ⟨Nat.zero_le _,fun z hz=>by cases hz⟩,fun h0=>absurd h0 (by decide),fun _=>⟨H4.out.symm,rfl⟩⟩
    ·have hb2:(sx.toList !=sb.toList)=false:=by simp[bne,hbb]
     go_wp2_with fail;go_ret2;exact ⟨_,l,0,rfl,O4.out,HG.out,fun _=>HQ.out hbb,fun h0=>absurd rfl h0⟩
   ·have q1:(er !=0)=true:=by rw[bne_iff_ne];exact he0
    clear he0;go_wp2_with fail;go_ret2;exact ⟨_,[],4,rfl,au.nil _ _ _ _ O4.out.nx,by first|exact Nat.zero_le _|exact ⟨Nat.zero_le _,fun z hz=>by cases hz⟩,fun h0=>absurd h0 (by decide),fun _=>⟨H4.out.symm,rfl⟩⟩
  ·have q1:(bn xs.length p2 e2 !=0)=true:=by rw[bne_iff_ne];exact hE
   clear hE;generalize bn xs.length p2 e2=E at *;have NN:=ah n2;go_wp2_with fail;refine fV.out.mono ?_;rintro e w3 ⟨rfl,d3⟩;have N3:=ah (NN.out.tr d3.nx);clear d3;go_wp2_with fail;go_ret2;exact ⟨_,[],4,rfl,au.nil _ _ _ _ N3.out,by first|exact Nat.zero_le _|exact ⟨Nat.zero_le _,fun z hz=>by cases hz⟩,fun h0=>absurd h0 (by decide),fun _=>⟨H4.out.symm,rfl⟩⟩
theorem wJ (D:Nat->Prop) (A:Option Addr) (n c:Nat) (b:List Nat) (W:World) (hr:Rd W D 1 A n (bl b)) (dX:∀k,D k->k<W.heap.size) (ok:okB b) (hl:b.length=n) (hn:n<=1000000) (hc:n<=c):
 Calls Tryz.prog 26 #[.slice A n c] W (Oe 9 bW sS (gu b) (aT b) W):=by
 have Hr:=ah (qA D A n c b W hr dX ok hl hn hc);clear hr dX ok hl hn hc;go_enter Tryz.func26,Tryz.ntmps26;go_wp2_with fail;refine Hr.out.mono ?_;rintro e w1 ⟨v,l,er,rfl,h⟩;go_wp2_with fail;go_ret2;exact ⟨v,l,er,rfl,h⟩
theorem yP (D:Nat->Prop) (A:Option Addr) (c:Nat) (l:List Int) (w:World) (h:Rd w D 1 A l.length (il l)) (g:MI l) (hc:l.length<=c):Calls Tryz.prog 7 #[.slice A l.length c] w (Og (fun ys=>okB ys/\fP ys l) w):=by
 by_cases he:aO l=0
 ·exact (z5n D A l.length c l w h rfl he).mono fun _ _ h=>.chunk h ⟨Vl (by decide) (z25 he) (by have:=(Oi he).2;have:=g.1;omega),he,rfl⟩
 ·refine (z5m D A l.length c l w h rfl (by have:=g.1;omega) he _ rfl).mono ?_
  rintro e w' ⟨rfl,rfl⟩;exact .nil (Ch.refl _ _) he
theorem uU (D:Nat->Prop) (A:Option Addr) (n c:Nat) (b:List Nat) (W:World) (hr:Rd W D 1 A n (bl b)) (dX:∀k,D k->k<W.heap.size) (ok:okB b) (hl:b.length=n) (hn:n<=1000000) (hc:n<=c):
 Calls Tryz.prog 51 #[.int .u8 1,.slice A n c,.func (.func 52) #[] #[],.func (.func 7) #[] #[]] W (Oe 2 il MI (fP b) (aT b) W):=by
 have hcon:=Yh D A n c 1 b W hr dX ok hl hn hc (by decide);have hcn:=QG b;have OK:=ah ok;generalize aT b=ce at *;have Hc:=ah hcon;have pV:=ah hcn;clear hcon hcn;have tJ:=ah (fun (D:Nat->Prop) (g:Nat) (A:Option Addr) (c:Nat) (xs:List Nat) (w:World) (h:aJ w D g A c xs 0 0)=>Ii D g A c xs w h);have iJ:=ah (fun (D:Nat->Prop) (A:Option Addr) (c:Nat) (l:List _) (w:World) h g hc=>yP D A c l w h g hc);have hstr:=fun (D:Nat->Prop) (A:Option Addr) (n c:Nat) (t:List Nat) (w:World) (h:Rd w D 1 A n (bl t))=>xB (P:=Tryz.prog) w 27 9 5 Tryz.underlying27 Tryz.underlying5 Tryz.underlying9 D A n c _ h;have eU:=ah hstr;have HR:=ah hr;clear hstr hr dX ok hl;go_enter Tryz.func51,Tryz.ntmps51;go_wp2_with fail;refine Hc.out.mono ?_;intro e w1 hca;rcases hca with ⟨her,rfl,n1⟩|⟨h4,xs, -,g,A1,c1,D1,rfl,cu1,n1,hg,hD1⟩
 ·have q1:(ce !=0)=true:=by rw[bne_iff_ne];exact her
  clear her;go_wp2_with fail;go_ret2;exact ⟨_,[],ce,rfl,au.nil _ _ _ _ n1,by first|exact Nat.zero_le _|exact ⟨Nat.zero_le _,fun z hz=>by cases hz⟩,fun h0=>absurd h0 pV.out,fun _=>⟨rfl,rfl⟩⟩
 ·have hs1:=n1.size
  have H4:=ah h4;clear h4;go_wp2_with fail;refine (tJ.out _ _ _ _ _ _ cu1).mono ?_;rintro e w2 ⟨l,v2,p2,e2,rfl,hgd,o2,cu2,c2⟩;have n2:Nx W w2:=n1.trans c2 fun i hi e=>by omega
  have vG:au W w2 2 1 v2 l.length (il l):=⟨iT o2 hs1,n2⟩;obtain ⟨A2,cc2,rfl,hcc,_⟩:=z05 o2;have fV:=ah (EG cu2);have HG:=ah hgd;clear o2 c2 cu1 cu2 hgd;by_cases hE:bn xs.length p2 e2=0
  ·rw[hE]at fV
   clear hE;go_wp2_with fail;refine fV.out.mono ?_;rintro e w3 ⟨rfl,d3⟩;have o3:=vG.tr d3.nx;clear d3 fV vG;have HP:=ah (iJ.out _ A2 cc2 l w3 o3.rd HG.out hcc);go_wp2_with fail;refine HP.out.mono ?_;rintro e w4 ⟨D4,A4,c4,ys,er,rfl,r4,n4,hP⟩;have HP2:=ah hP;clear hP;have o4:=o3.tr n4;have s1:=eU.out _ _ _ c4 _ w4 r4;have s2:=eU.out D A n c b w4 (HR.out.nx (by decide) o4.nx);have O4:=ah o4
   have HQ0:Hid (er=0->((b_ ys).toList==(b_ b).toList)=true->fP b l):=ah fun h0 hs=>by
    obtain ⟨k1,k2⟩:=HP2.out h0;rw[←XE k1 OK.out hs];exact k2
   clear HP2;generalize b_ ys=sx at *;generalize b_ b=sb at *;clear HP o3 o4 n4 r4;by_cases he0:er=0
   ·subst he0
    have HQ:=ah (HQ0.out rfl);obtain ⟨bb,hbb⟩:∃bb,(sx.toList==sb.toList)=bb:=⟨_,rfl⟩;cases bb
    ·have hb2:(sx.toList !=sb.toList)=true:=by simp[bne,hbb]
     go_wp2_with fail;go_ret2;exact ⟨_,[],4,rfl,au.nil _ _ _ _ O4.out.nx,by first|exact Nat.zero_le _|exact ⟨Nat.zero_le _,fun z hz=>by cases hz⟩,fun h0=>absurd h0 (by decide),fun _=>⟨H4.out.symm,rfl⟩⟩
    ·have hb2:(sx.toList !=sb.toList)=false:=by simp[bne,hbb]
     go_wp2_with fail;go_ret2;exact ⟨_,l,0,rfl,O4.out,HG.out,fun _=>HQ.out hbb,fun h0=>absurd rfl h0⟩
   ·have q1:(er !=0)=true:=by rw[bne_iff_ne];exact he0
    clear he0;go_wp2_with fail;go_ret2;exact ⟨_,[],4,rfl,au.nil _ _ _ _ O4.out.nx,by first|exact Nat.zero_le _|exact ⟨Nat.zero_le _,fun z hz=>by cases hz⟩,fun h0=>absurd h0 (by decide),fun _=>⟨H4.out.symm,rfl⟩⟩
  ·have q1:(bn xs.length p2 e2 !=0)=true:=by rw[bne_iff_ne];exact hE
   clear hE;generalize bn xs.length p2 e2=E at *;have NN:=ah n2;go_wp2_with fail;refine fV.out.mono ?_;rintro e w3 ⟨rfl,d3⟩;have N3:=ah (NN.out.tr d3.nx);clear d3;go_wp2_with fail;go_ret2;exact ⟨_,[],4,rfl,au.nil _ _ _ _ N3.out,by first|exact Nat.zero_le _|exact ⟨Nat.zero_le _,fun z hz=>by cases hz⟩,fun h0=>absurd h0 (by decide),fun _=>⟨H4.out.symm,rfl⟩⟩
theorem zU (D:Nat->Prop) (A:Option Addr) (n c:Nat) (b:List Nat) (W:World) (hr:Rd W D 1 A n (bl b)) (dX:∀k,D k->k<W.heap.size) (ok:okB b) (hl:b.length=n) (hn:n<=1000000) (hc:n<=c):
 Calls Tryz.prog 21 #[.slice A n c] W (Oe 2 il MI (fP b) (aT b) W):=by
 have Hr:=ah (uU D A n c b W hr dX ok hl hn hc);clear hr dX ok hl hn hc;go_enter Tryz.func21,Tryz.ntmps21;go_wp2_with fail;refine Hr.out.mono ?_;rintro e w1 ⟨v,l,er,rfl,h⟩;go_wp2_with fail;go_ret2;exact ⟨v,l,er,rfl,h⟩
end Go.Proofs.YtfljcllpmbnjaaaGreat
