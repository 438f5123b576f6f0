/- BlockBuilds: any rows' block is the document's, to the byte, or they are refused as it says. Conditions: none. -/
import Derived.Test.YtpakjclpjcngmaaGreatKbQ39
import Derived.Test.YtpakjclpjcngmaaGreatKbQ10
import Derived.Test.YtpakjclpjcngmaaGreatKbQ11
import Derived.Test.YtpakjclpjcngmaaGreatKbPcSzR
import Derived.Test.YtpakjclpjcngmaaGreatKbPcJfBb
import Derived.Shelf.Vars
set_option maxRecDepth 100000
set_option maxHeartbeats 32000000
set_option linter.unusedVariables false
namespace Go.Proofs.YtpakjclpjcngmaaGreat.BlockBuilds
open Go.RowKit Go.Proofs.YtpakjclpjcngmaaGreat
theorem KL {l:List aA} {per:Int} (h:gI l per=0):1<=per/\per<=256/\fP l=true:=by
 unfold gI at h;by_cases h1:per<1∨256<per
 ·rw[if_pos h1]at h
  exact absurd h (by decide)
 ·rw[if_neg h1]at h
  by_cases h2:2048<l.length
  ·rw[if_pos h2]at h
   exact absurd h (by decide)
  ·rw[if_neg h2]at h
   by_cases h3:fP l=true
   ·exact ⟨by omega,by omega,h3⟩
   ·rw[if_neg h3]at h
    exact absurd h (by decide)
theorem walk (A:Option Addr) (c:Nat) (l:List RV) (per:Int) (W:World) (h:Rd W (fun k=>k<W.heap.size) 9 A l.length (iE l)) (hk:∀x∈l,(x.ok W (fun k=>k<W.heap.size)/\x.row.small)/\x.row.aB.length<=4398046511104) (hc:l.length<=c) (hcm:c<=maxLen) (hp:i64 per) (hm0:∃m,W.cell? ⟨0,0,none⟩=some (.int .i64 m)):
 Calls Tryz.prog 3 #[.slice A l.length c,.int .i64 per] W fun e w'=>e=.returned (.bool true)/\Nx W w':=by
 obtain ⟨m,hm⟩:=hm0;have HZ:=ah (fun (w':World) (c':Nx W w')=>show w'.cell? ⟨0,0,none⟩=some (.int .i64 m) from (c'.cell (p:=⟨0,0,none⟩) (World.block_lt_of_cell? W _ hm)).trans hm);have HLV:=ah (fun (w':World) (c':Nx W w')=>zF w' m (HZ.out w' c'));have hl63:l.length<=9223372036854775807:=by have:=hcm;unfold maxLen at this;omega
 have QY:=ah (fun (w':World) (c':Nx W w')=>aaN (c:=c) (h.nx (by decide) c') rfl hl63);have hk':∀w',Nx W w'->∀x∈l,(x.ok w' (fun k=>k<W.heap.size)/\x.row.mid)/\x.row.aB.length<=4398046511104:=fun w' c' x hx=>⟨⟨(hk x hx).1.1.ch c' (fun _ _ _ hf=>hf) fun _ hd=>hd,(hk x hx).1.2,by have:=(hk x hx).2;omega⟩,(hk x hx).2⟩;have HL:=ah (fun (w':World) (c':Nx W w')=>h.nx (by decide) c');have HK:=ah hk';clear h hk hk' hm;go_enter Tryz.func3,Tryz.ntmps3;go_wp2_with fail;refine (HLV.out _ (Ch.refl _ _)).mono ?_;rintro e w1 ⟨rfl,n1⟩;have M1:=ah n1;clear n1;go_wp2_with fail;refine (QY.out _ M1.out).mono ?_;rintro e w2 ⟨⟨b,rfl,hb⟩,n2⟩;have M2:=ah (M1.out.tr n2);clear n2 QY;cases b
 ·clear hb
  go_wp2_with fail;refine (HLV.out _ M2.out).mono ?_;rintro e w3 ⟨rfl,n3⟩;go_wp2_with fail;go_ret;exact ⟨rfl,M2.out.tr n3⟩
 ·have h61:=hb rfl
  clear hb;have HTW:=ah (II (c:=c) (HL.out w2 M2.out) rfl (by omega) fun x hx=>⟨(HK.out w2 M2.out x hx).1.1,(HK.out w2 M2.out x hx).2⟩);obtain ⟨R,hR⟩:∃R,R=l.map fun x=>x.row:=⟨_,rfl⟩;have hRl:R.length=l.length:=by rw[hR,List.length_map]
  have QT:=ah hR;have jB:=ah hRl;clear hR hRl;go_wp2_with fail;refine HTW.out.mono ?_;rintro e w3 ⟨v3,zs,rfl,ro3, -,hz3⟩;rw[←QT.out]at hz3;have M3:=ah (M2.out.tr ro3.own.nx);obtain ⟨A3,c3,rfl,hc3,hcm3⟩:=ro3.form
  have hzl:zs.length=l.length:=by
   have:=congrArg List.length hz3;rw[List.length_map,jB.out]at this;exact this
  have HZK:Hid (∀z∈zs,z.row.mid/\z.row.aB.length<=4398046511104):=ah (fun z hz=>by
   have h1:z.row∈l.map fun x=>x.row:=by
    rw[←QT.out,←hz3];exact List.mem_map_of_mem hz
   obtain ⟨x,hx,e⟩:=List.mem_map.1 h1;have h2:=HK.out W (Ch.refl _ _) x hx;rw[←e];exact ⟨h2.1.2,h2.2⟩)
  have RO:=ah ro3;have HZR:=ah hz3;have HZL:=ah hzl;have xK:Hid (∀w',Nx w3 w'->qK w' (fun k=>k<w3.heap.size) A3 zs):=ah (fun w' c'=>⟨(RO.out.rd).nx (by decide) c',fun x hx=>⟨((RO.out.ok x hx).ch (Ch.refl (fun _=>False) _) (fun _ _ _ hf=>hf) (D':=fun k=>k<w3.heap.size) fun k hk=>hk.2.1).ch c' (fun _ _ _ hf=>hf) fun _ hd=>hd,(HZK.out x hx).2⟩⟩);have HB:=ah (z5g (c:=c3) (xK.out w3 (Ch.refl _ _)).rd rfl (by omega) hc3 (fun x hx=>⟨((xK.out w3 (Ch.refl _ _)).ok x hx).1,(HZK.out x hx).1⟩) per hp.1 hp.2);rw[HZR.out]at HB
  have HCK:=ah (fun (w':World) (c':Nx W w')=>(by
   have h:=BH (c:=c) (HL.out w' c') rfl (by omega) (fun x hx=>(HK.out w' c' x hx).1) per;rw[←QT.out]at h;exact h:Calls Tryz.prog 15 #[.slice A l.length c,.int .i64 per] w' fun e w''=>e=.returned (.int .i64 (gI R per))/\Nx w' w''))
  have HSR:=ah (fun (w':World) (c':Nx w3 w')=>vY (c:=c3) (d:=c) (xK.out w' c') rfl (by omega) (⟨HL.out w' (M3.out.tr c'),fun x hx=>⟨(HK.out w' (M3.out.tr c') x hx).1.1,(HK.out w' (M3.out.tr c') x hx).2⟩⟩:qK w' (fun k=>k<W.heap.size) A l) rfl);unfold QK at HB;rw[qE (by rw[jB.out];exact h61)]at HB;have hz61:zs.length<=61:=by omega
  clear ro3 hz3 HTW HLV hzl;go_wp2_with fail;refine HB.out.mono ?_;rintro e w4 ⟨hb1,hb2⟩;by_cases e0:gI R per=0
  ·obtain ⟨k4,c4,rfl,o4⟩:=hb2 e0
   have N4:=ah o4.nx;have O4:=ah o4;have E0:=ah e0;rw[e0]at HCK;obtain ⟨p1,p2,p3⟩:=KL e0;obtain ⟨p,rfl⟩:=Int.eq_ofNat_of_zero_le (show 0<=per by omega)
   have HBD:=ah (fun (w':World) (c':Nx W w')=>(by
    have h:=BL (per:=p) (HL.out w' c') (fun k hk=>Nat.lt_of_lt_of_le hk c'.size) rfl hc hcm (fun x hx=>(HK.out w' c' x hx).1.1) (by rw[←QT.out];exact p3) (by omega) (by omega) h61;rw[←QT.out]at h;exact h:Calls Tryz.prog 18 #[.slice A l.length c,.int .i64 (p:Int)] w' fun e w''=>∃v,e=.returned v/\ak w' w'' 5 1 v (bg R p).length (bl (bg R p))))
   have hok:okB (bg R ((p:Int)).toNat):=z4O (by rw[qE (by rw[jB.out];exact h61)];exact e0);rw[Int.toNat_natCast]at O4 hok ⊢;have abx:=ah hok;generalize bg R p=X at *;clear hb1 hb2 HB o4 e0 hok;go_wp2_with fail;refine (HCK.out _ (M3.out.tr N4.out)).mono ?_;rintro e w5 ⟨rfl,n5⟩;have N5:=ah (N4.out.tr n5);have O5:=ah (O4.out.tr n5);clear n5 HCK O4;go_wp2_with fail;refine (HSR.out _ N5.out).mono ?_;rintro e w6 ⟨bb,rfl,hbb,n6⟩;obtain rfl:bb=true:=hbb.2 (HZR.out.trans QT.out);have N6:=ah (N5.out.tr n6);have O6:=ah (O5.out.tr n6);clear n6 hbb HSR O5;go_wp2_with fail;refine (HBD.out _ (M3.out.tr N6.out)).mono ?_;rintro e w7 ⟨v7,rfl,o7⟩;obtain ⟨A7,c7,rfl, -, -⟩:=o7.form;have N7:=ah (N6.out.tr o7.nx);have xX:=ah (MC _ _ _ _ _ c4 _ c7 X X w7 (O6.out.tr o7.nx).rd o7.rd abx.out abx.out);rw[decide_eq_true rfl]at xX;clear o7 HBD O6;go_wp2_with fail;refine xX.out.mono ?_;rintro e w8 ⟨rfl,rfl⟩;go_wp2_with fail;go_ret;exact ⟨rfl,M3.out.tr N7.out⟩
  ·obtain ⟨rfl,n4⟩:=hb1 e0
   have N4:=ah n4;have q0:(gI R per !=0)=true:=by rw[bne_iff_ne];exact e0
   have q1:(gI R per !=gI R per)=false:=(by simp);clear hb1 hb2 n4 HB;generalize gI R per=er at *;go_wp2_with fail;refine (HCK.out _ (M3.out.tr N4.out)).mono ?_;rintro e w5 ⟨rfl,n5⟩;have N5:=ah (N4.out.tr n5);clear n5 HCK;go_wp2_with fail;refine (HSR.out _ N5.out).mono ?_;rintro e w6 ⟨bb,rfl,hbb,n6⟩;obtain rfl:bb=true:=hbb.2 (HZR.out.trans QT.out);have N6:=ah (N5.out.tr n6);clear n6 hbb HSR;go_wp2_with fail;go_ret;exact ⟨rfl,M3.out.tr N6.out⟩
theorem zD {W:World} (h:W.ShapedOpen Tryz.prog):∃m,W.cell? ⟨0,0,none⟩=some (.int .i64 m):=
 cell_of_shapedOpen_int (zero:= #[.int .i64 0]) (t:=3) h (of_decide_eq_true (by kernel_rfl)) (by kernel_rfl) rfl (by kernel_rfl) (by kernel_rfl) Tryz.underlying3
theorem walks:Ql 3 Tryz.f3:=by
 intro H enc W args ds ps hsh h;rw[Tryz.params3]at h;obtain ⟨A,c,l,vs,ds1,q,rfl,hr,hk,hc,hc2,h1⟩:=h.ZY;obtain ⟨a,vs2,ds2,q2,e1,ha,h2⟩:=h1.int;have e3:=h2.nil;simp at e1 e3;subst e3;subst e1;exact walk A c l a W hr hk hc hc2 ha (zD hsh)
theorem proved:Rows.BlockBuildsSaid:=
 OpenClaim.holds_of_wide 3 Tryz.f3 rfl rfl rfl rfl rfl rfl rfl ⟨rfl,rfl,rfl,rfl,rfl⟩ rfl rfl rfl rfl rfl (by as_aux_lemma=>kernel_rfl) Tryz.func3 pU
  (of_decide_eq_true (by as_aux_lemma=>kernel_rfl)) (by as_aux_lemma=>(unfold Func.isWrapper;first|(rw[if_pos (by decide+kernel)];kernel_rfl)|(rw[if_neg (by decide+kernel)];exact ⟨rfl,rfl⟩)))
  (fun os started H enc _=>EC (s:=Rows.blockBuildsSpec) Tryz.func3 (by as_aux_lemma=>kernel_rfl) rfl rfl
    (by intro H ds h;rw[Tryz.params3]at h;match ds,h with|[d1,d2],_=>rfl)
    (by rw[Tryz.params3];intro t ht;simp at ht;rcases ht with rfl|rfl<;>exact ⟨by kernel_rfl,of_decide_eq_true (by as_aux_lemma=>kernel_rfl)⟩) walks os started H enc
    (ChangeSpec.witness6 (enc:=enc) (C:=Tryz.checked) false ⟨#[], #[.slice none 0 0,.int .i64 0],[]⟩ 8 (by as_aux_lemma=>kernel_rfl) (by as_aux_lemma=>kernel_rfl) (by as_aux_lemma=>kernel_rfl) (by as_aux_lemma=>kernel_rfl)))
end Go.Proofs.YtpakjclpjcngmaaGreat.BlockBuilds
