/- BlockGrouped: however rows are grouped, their blocks are read as the same rows; the groups are as many as they must be. Conditions: none. -/
import Derived.Test.YtpakjclpjcngmaaGreatKsQ36
import Derived.Test.YtpakjclpjcngmaaGreatKsQ32
import Derived.Test.YtpakjclpjcngmaaGreatKsPbLawS
import Derived.Shelf.Vars
set_option maxRecDepth 100000
set_option maxHeartbeats 32000000
set_option linter.unusedVariables false
namespace Go.Proofs.YtpakjclpjcngmaaGreat.BlockGrouped
open Go.RowKit Go.Proofs.YtpakjclpjcngmaaGreat
theorem groups_of {l : List RowE} {per : Int} (h : z0y l per = 0) : ((rdX (buildF l per.toNat)).1.length : Int) = ((l.length : Int) + per - 1) / per := by
 obtain ⟨h1, h2, h3, h4, h5⟩ := z0X h
 rw [z2u h, z0I, z1D]
 obtain ⟨p, rfl⟩ := Int.eq_ofNat_of_zero_le (show 0 ≤ per by omega)
 rw [Int.toNat_natCast]
 have hl := (z11.1 h4).1
 rw [Int.natCast_ediv]
 congr 1
 omega
theorem GrpTo.rowsR {w w' : World} {zs : List RV} {A : Option Addr} {c : Nat} (h : RowsO w w' (.slice A zs.length c) zs) (hf : ∀ z ∈ zs, z.row.few) : RowsR w' (fun k => k < w'.heap.size) A zs :=
 ⟨h.rd, fun x hx => ⟨(h.ok x hx).ch (Ch.refl (fun _ => False) _) (fun _ _ _ hf => hf) fun k hk => hk.2.1, by have := (hf x hx).2; omega⟩⟩
theorem walk (A : Option Addr) (c : Nat) (l : List RV) (per other : Int) (W : World) (h : Rd W (fun k => k < W.heap.size) 9 A l.length (rvl l)) (hk : ∀ x ∈ l, x.ok W (fun k => k < W.heap.size) ∧ x.row.mid) (hc : l.length ≤ c) (hn : l.length ≤ 9223372036854775807) (hp : i64 per) (ho : i64 other) (hm0 : ∃ m, W.cell? ⟨0, 0, none⟩ = some (.int .i64 m)) :
  Calls Tryz.prog 8 #[.slice A l.length c, .int .i64 per, .int .i64 other] W fun e w' => e = .returned (.bool true) ∧ Nx W w' := by
 obtain ⟨m, hm⟩ := hm0
 have HZ := hI (fun (w' : World) (c' : Nx W w') => show w'.cell? ⟨0, 0, none⟩ = some (.int .i64 m) from (c'.cell (p := ⟨0, 0, none⟩) (World.block_lt_of_cell? W _ hm)).trans hm)
 have HLV := hI (fun (w' : World) (c' : Nx W w') => z56 w' m (HZ.out w' c'))
 by_cases h100 : l.length ≤ 100
 ·have hk' : ∀ w', Nx W w' → ∀ x ∈ l, x.ok w' (fun k => k < W.heap.size) ∧ x.row.mid := fun w' c' x hx => ⟨(hk x hx).1.ch c' (fun _ _ _ hf => hf) fun _ hd => hd, (hk x hx).2⟩
  have HB1 := hI (fun (w' : World) (c' : Nx W w') => z2M (h.nx (by decide) c') rfl (by omega) hc (hk' w' c') per hp.1 hp.2)
  have HB2 := hI (fun (w' : World) (c' : Nx W w') => z2M (h.nx (by decide) c') rfl (by omega) hc (hk' w' c') other ho.1 ho.2)
  obtain ⟨R, hR⟩ : ∃ R, R = l.map fun x => x.row := ⟨_, rfl⟩
  rw [← hR] at HB1 HB2
  have hRl : R.length = l.length := by rw [hR, List.length_map]
  have HRL := hI hRl
  clear h hk hk' hm hR hRl
  unfold z23 at HB1 HB2
  have k1 : decide ((100 : Int) < (l.length : Int)) = false := by rw [decide_eq_false_iff_not]; omega
  go_enter Tryz.func8, Tryz.ntmps8
  go_wp2_with fail
  refine (HLV.out _ (Ch.refl _ _)).mono ?_
  rintro e w1 ⟨rfl, n1⟩
  have M1 := hI n1
  clear n1 HLV
  go_wp2_with fail
  refine (HB1.out _ M1.out).mono ?_
  rintro e w2 ⟨hb1, hk1⟩
  by_cases e1 : z0y R per = 0
  ·obtain ⟨ka, ca, he, o1⟩ := hk1 e1
   obtain ⟨aa, haa⟩ : ∃ t, t = (⟨ka, 0, none⟩ : Addr) := ⟨_, rfl⟩
   have hca := cap_le o1
   have HX := hI (fun (w : World) (c' : Nx w2 w) => (show Rd w (fun j => j < w.heap.size) 1 (some aa) _ _ from haa ▸ ((o1.tr c').rd_.more (fun j e => by have := ((o1.tr c').lt ka rfl).2; omega))))
   rw [← haa] at he
   subst he
   have M2 := hI (M1.out.tr o1.nx)
   have E1 := hI e1
   clear hb1 hk1 HB1 e1 o1 haa
   go_wp2_with fail
   refine (HB2.out _ M2.out).mono ?_
   rintro e w3 ⟨hb2, hk2⟩
   by_cases e2 : z0y R other = 0
   ·obtain ⟨kb, cb, he, o2⟩ := hk2 e2
    obtain ⟨ab, hab⟩ : ∃ t, t = (⟨kb, 0, none⟩ : Addr) := ⟨_, rfl⟩
    have hcb := cap_le o2
    have HY := hI (fun (w : World) (c' : Nx w3 w) => (show Rd w (fun j => j < w.heap.size) 1 (some ab) _ _ from hab ▸ ((o2.tr c').rd_.more (fun j e => by have := ((o2.tr c').lt kb rfl).2; omega))))
    rw [← hab] at he
    subst he
    have M3 := hI (M2.out.tr o2.nx)
    have N3 := hI o2.nx
    have E2 := hI e2
    clear hb2 hk2 HB2 e2 o2 hab
    have HR1 := hI (fun (w : World) (c' : Nx w3 w) => z4l (w := w) (c := ca) E1.out (HX.out w (N3.out.tr c')) rfl (z1X E1.out) hca (fun j e => e) m (HZ.out w (M3.out.tr c')))
    have HR2 := hI (fun (w : World) (c' : Nx w3 w) => z4l (w := w) (c := cb) E2.out (HY.out w c') rfl (z1X E2.out) hcb (fun j e => e) m (HZ.out w (M3.out.tr c')))
    obtain ⟨p, q, hpq, hsum, hp5⟩ := z2I (show (rdE (buildF R per.toNat)).2.2 = 0 by rw [z2v E1.out])
    obtain ⟨n, hn'⟩ : ∃ n, n = (buildF R per.toNat).length := ⟨_, rfl⟩
    have hle : n ≤ 262144 := by rw [hn']; exact (z0X E1.out).2.2.2.2
    rw [← hn'] at hsum hca HX HR1 ⊢
    have HEN0 := fun (w : World) (c' : Nx w3 w) => ends_made E1.out hn'.symm (c := ca - (n - 8)) (by
     have h := (HX.out w (N3.out.tr c')).cut (k := n - 8) (cap := ca) (by omega) hca
     rw [Nat.mul_one, if_neg (by omega), Option.map_some, show (bl (buildF R per.toNat)).drop (n - 8) = bl ((buildF R per.toNat).drop (n - 8)) by simp [bl, List.map_drop]] at h
     exact h) (by omega)
    rw [hpq] at HEN0
    have HEN := hI HEN0
    have HFT0 := fun (w : World) (c' : Nx w3 w) => foot_made E1.out (q := q) (c := ca - p) (by
     have h := Rd.cutA (HX.out w (N3.out.tr c')) (p := p) (q := q) (by omega) hca
     rw [if_neg (by omega), Option.map_some] at h
     rw [hpq]
     simp only [Int.toNat_natCast]
     exact h) (by rw [hpq]) (fun j e => e) (by omega)
    have hfr : footR (((buildF R per.toNat).drop (rdE (buildF R per.toNat)).1.toNat).take (rdE (buildF R per.toNat)).2.1.toNat) = rdX (buildF R per.toNat) := rfl
    have hgr := groups_of E1.out
    have her : (rdX (buildF R per.toNat)).2.2 = 0 := by rw [z2u E1.out]
    unfold z2O at HFT0
    rw [hfr, her] at HFT0
    have HFT := hI HFT0
    have hpr := (z0X E1.out).1
    have hpr2 := (z0X E1.out).2.1
    have HRL2 : R.length = l.length := HRL.out
    rw [HRL2] at hgr
    obtain ⟨g, hg⟩ : ∃ g, g = (rdX (buildF R per.toNat)).1.length := ⟨_, rfl⟩
    rw [← hg] at hgr HFT
    have HGR := hI hgr
    clear HRL2 hpq hg hgr hfr her HFT0 HEN0 hn' HX HY
    have hs1 : p + q + 8 ≤ n := by omega
    have hs2 : n ≤ p + q + 8 := by omega
    clear hsum
    generalize buildF R per.toNat = X at *
    generalize (buildF R other.toNat).length = n2 at *
    go_wp2_with fail
    refine (HR1.out _ (Ch.refl _ _)).mono ?_
    intro e w4 hgt
    obtain ⟨z1, A1, c1, rfl, hz1, ro1, hf1⟩ := GrpTo.get hgt
    clear hgt
    have N4 := hI ro1.own.nx
    have RO1 := hI ro1
    have HZ1 := hI hz1
    have HF1 := hI hf1
    clear ro1 hz1 hf1 HR1
    go_wp2_with fail
    refine (HR2.out _ N4.out).mono ?_
    intro e w5 hgt
    obtain ⟨z2, A2, c2, rfl, hz2, ro2, hf2⟩ := GrpTo.get hgt
    clear hgt
    have N5 := hI (N4.out.tr ro2.own.nx)
    have RO1 := hI (RO1.out.tr ro2.own.nx)
    have RO2 := hI ro2
    have HZ2 := hI hz2
    have HF2 := hI hf2
    clear ro2 hz2 hf2 HR2
    have hw8 : IntKind.i64.wrap ((n : Int) - 8) = (n : Int) - 8 := IntWalk.i64_in _ (by omega)
    go_wp2_with fail
    refine (HEN.out _ N5.out).mono ?_
    rintro e w6 ⟨rfl, d6⟩
    have N6 := hI (N5.out.tr d6.nx)
    have RO1 := hI (RO1.out.tr d6.nx)
    have RO2 := hI (RO2.out.tr d6.nx)
    have HSR := hI (z2G (c := c1) (d := c2) (GrpTo.rowsR RO1.out HF1.out) rfl (by have := congrArg List.length HZ1.out; rw [List.length_map, HRL.out] at this; omega) (GrpTo.rowsR RO2.out HF2.out) rfl)
    clear d6 HEN
    go_wp2_with fail
    refine HSR.out.mono ?_
    rintro e w7 ⟨bb, rfl, hbb, n7⟩
    obtain rfl : bb = true := hbb.2 (HZ1.out.trans HZ2.out.symm)
    have N7 := hI (N6.out.tr n7)
    have kpq : IntKind.i64.wrap ((p : Int) + (q : Int)) = ((p + q : Nat) : Int) := by rw [IntWalk.i64_in _ (by omega)]; omega
    clear hbb n7 HSR hw8
    go_wp2_with fail
    refine (HFT.out _ N7.out).mono ?_
    rintro e w8 ⟨A3, A4, c3, c4, ps, rfl, -, -, -, -, -, -, n8⟩
    have N8 := hI (N7.out.tr n8)
    have hdv : ((l.length : Int) + per - 1) / per = (g : Int) := HGR.out.symm
    have hw1 : IntKind.i64.wrap ((l.length : Int) + per) = (l.length : Int) + per := IntWalk.i64_in _ (by omega)
    have hw2 : IntKind.i64.wrap ((l.length : Int) + per - 1) = (l.length : Int) + per - 1 := IntWalk.i64_in _ (by omega)
    have htd : ((l.length : Int) + per - 1).tdiv per = (g : Int) := by rw [Int.tdiv_eq_ediv_of_nonneg (by omega)]; exact hdv
    have hwg : IntKind.i64.wrap (g : Int) = (g : Int) := by
     rw [← hdv]
     refine IntWalk.i64_in _ ?_
     have h1 : ((l.length : Int) + per - 1) / per ≤ (l.length : Int) + per - 1 := Int.ediv_le_self _ (by omega)
     have h2 : 0 ≤ ((l.length : Int) + per - 1) / per := Int.ediv_nonneg (by omega) (by omega)
     omega
    have hp0 : (per == 0) = false := by rw [beq_eq_false_iff_ne]; omega
    have hp1 : ¬ per = 0 := by omega
    have B9 := hI (Blk.new w8 49 #[.slice A3 g c3, .slice A4 (rdX X).2.1.length c4])
    have N9 := hI ((M3.out.tr N8.out).tr ((Ch.refl (fun _ => False) w8).alloc (.cells #[.slice A3 g c3, .slice A4 (rdX X).2.1.length c4] 49)))
    have c90 : (w8.alloc (.cells #[.slice A3 g c3, .slice A4 (rdX X).2.1.length c4] 49)).cell? ⟨w8.heap.size, 0, none⟩ = some (.slice A3 g c3) := B9.out.cell 0
    clear n8 HFT hdv B9
    go_wp2_with fail
    go_quiet (fail)
    go_wp2_with fail
    go_ret
    exact ⟨rfl, N9.out.drewN _⟩
   ·obtain ⟨rfl, n3⟩ := hb2 e2
    have M3 := hI (M2.out.tr n3)
    have q2 : (z0y R other != 0) = true := by rw [bne_iff_ne]; exact e2
    clear hb2 hk2 n3 e2
    go_wp2_with fail
    go_ret
    exact ⟨rfl, M3.out⟩
  ·obtain ⟨rfl, n2⟩ := hb1 e1
   have M2 := hI (M1.out.tr n2)
   have q1 : (z0y R per != 0) = true := by rw [bne_iff_ne]; exact e1
   clear hb1 hk1 n2 e1 HB1
   go_wp2_with fail
   refine (HB2.out _ M2.out).mono ?_
   rintro e w3 ⟨hb2, hk2⟩
   by_cases e2 : z0y R other = 0
   ·obtain ⟨k2, cap2, rfl, o2⟩ := hk2 e2
    have M3 := hI (M2.out.tr o2.nx)
    clear hb2 hk2 o2
    go_wp2_with fail
    go_ret
    exact ⟨rfl, M3.out⟩
   ·obtain ⟨rfl, n3⟩ := hb2 e2
    have M3 := hI (M2.out.tr n3)
    clear hb2 hk2 n3
    go_wp2_with fail
    go_ret
    exact ⟨rfl, M3.out⟩
 ·have k1 : decide ((100 : Int) < (l.length : Int)) = true := by rw [decide_eq_true_eq]; omega
  clear h hk
  go_enter Tryz.func8, Tryz.ntmps8
  go_wp2_with fail
  refine (HLV.out _ (Ch.refl _ _)).mono ?_
  rintro e w1 ⟨rfl, n1⟩
  have M1 := hI n1
  clear n1
  go_wp2_with fail
  refine (HLV.out _ M1.out).mono ?_
  rintro e w2 ⟨rfl, n2⟩
  go_wp2_with fail
  go_ret
  exact ⟨rfl, M1.out.tr n2⟩
theorem maxlen_cell {W : World} (h : W.ShapedOpen Tryz.prog) : ∃ m, W.cell? ⟨0, 0, none⟩ = some (.int .i64 m) :=
 cell_of_shapedOpen_int (zero := #[.int .i64 0]) (t := 3) h (of_decide_eq_true (by kernel_rfl)) (by kernel_rfl) rfl (by kernel_rfl) (by kernel_rfl) Tryz.underlying3
theorem walks : WalksS 8 Tryz.f8 := by
 intro H enc W args ds ps hsh h
 rw [Tryz.params8] at h
 obtain ⟨A, c, l, vs, ds1, q, rfl, hr, hk, hc, hc2, h1⟩ := h.rows
 obtain ⟨a, vs2, ds2, q2, e1, ha, h2⟩ := h1.int
 obtain ⟨b, vs3, ds3, q3, e2, hb, h3⟩ := h2.int
 have e3 := h3.nil
 simp at e1 e2 e3
 subst e3
 subst e2
 subst e1
 unfold maxLen at hc2
 exact walk A c l a b W hr (fun x hx => ⟨(hk x hx).1, (hk x hx).2, by have h1 := (hk x hx).1.2.1; have h2 := (hk x hx).1.2.2; unfold maxLen at h2; omega⟩) hc (by omega) ha hb (maxlen_cell hsh)
theorem proved : Rows.BlockGroupedSaid :=
 OpenClaim.holds_of_wide 8 Tryz.f8 rfl rfl rfl rfl rfl rfl rfl ⟨rfl, rfl, rfl, rfl, rfl⟩ rfl rfl rfl rfl rfl (by as_aux_lemma => kernel_rfl) Tryz.func8 (by as_aux_lemma => kernel_rfl)
  (of_decide_eq_true (by as_aux_lemma => kernel_rfl)) (by as_aux_lemma => (unfold Func.isWrapper; first | (rw [if_pos (by decide +kernel)]; kernel_rfl) | (rw [if_neg (by decide +kernel)]; exact ⟨rfl, rfl⟩)))
  (fun os started H enc _ => law_shaped (s := Rows.blockGroupedSpec) Tryz.func8 (by as_aux_lemma => kernel_rfl) rfl rfl
    (by intro H ds h; rw [Tryz.params8] at h; match ds, h with | [d1, d2, d3], _ => rfl)
    (by rw [Tryz.params8]; intro t ht; simp at ht; rcases ht with rfl | rfl | rfl <;> exact ⟨by kernel_rfl, of_decide_eq_true (by as_aux_lemma => kernel_rfl)⟩) walks os started H enc
    (ChangeSpec.witness6 (enc := enc) (C := Tryz.checked) false ⟨#[], #[.slice none 0 0, .int .i64 0, .int .i64 0], []⟩ 8 (by as_aux_lemma => kernel_rfl) (by as_aux_lemma => kernel_rfl) (by as_aux_lemma => kernel_rfl) (by as_aux_lemma => kernel_rfl)))
end Go.Proofs.YtpakjclpjcngmaaGreat.BlockGrouped
