/- BlockEnds: of any last bytes and any size it is told where the index stands, as the document says. Conditions: none. -/
import Derived.Test.YtpakjclpjcngmaaGreatKrQ34
import Derived.Test.YtpakjclpjcngmaaGreatKrQ21
import Derived.Test.YtpakjclpjcngmaaGreatKrPbLawS
import Derived.Shelf.Vars
set_option maxRecDepth 100000
set_option linter.unusedVariables false
namespace Go.Proofs.YtpakjclpjcngmaaGreat.BlockEnds
open Go.RowKit Go.Proofs.YtpakjclpjcngmaaGreat
theorem ends_cases (b : List Nat) (size : Int) : (endsF b size).2.2 = 0 ∨ (endsF b size).2.2 = 4 := by
 unfold endsF
 split
 ·split
  ·exact .inl rfl
  ·exact .inr rfl
 ·exact .inr rfl
set_option maxHeartbeats 8000000 in
theorem walk (A : Option Addr) (n c : Nat) (b : List Nat) (size : Int) (W : World) (hr : Rd W (fun k => k < W.heap.size) 1 A n (bl b)) (hl : b.length = n) (ok : okB b) (hc : n ≤ c) (hcm : n ≤ 9223372036854775807) (hs : i64 size) (hm0 : ∃ m, W.cell? ⟨0, 0, none⟩ = some (.int .i64 m)) :
  Calls Tryz.prog 5 #[.slice A n c, .int .i64 size] W fun e w' => e = .returned (.bool true) ∧ Nx W w' := by
 obtain ⟨m, hm⟩ := hm0
 have HZ := Lib.hid (fun (w' : World) (c' : Nx W w') => show w'.cell? ⟨0, 0, none⟩ = some (.int .i64 m) from (c'.cell (p := ⟨0, 0, none⟩) (World.block_lt_of_cell? W _ hm)).trans hm)
 have HLV := Lib.hid (fun (w' : World) (c' : Nx W w') => lives11_any w' m (HZ.out w' c'))
 have HEN := Lib.hid (fun (w' : World) (c' : Nx W w') => ends_any (hr.nx (by decide) c') ok hl hc size hs.1 hs.2)
 have HRE := Lib.hid (fun (w' : World) (c' : Nx W w') => ref_ends (hr.nx (by decide) c') ok hl hc size hs.1 hs.2)
 have hec := ends_cases b size
 clear hr hm
 generalize endsF b size = t at *
 obtain ⟨p, q, e0⟩ := t
 simp only at hec
 by_cases h100 : n ≤ 100
 ·have k1 : decide ((100 : Int) < (n : Int)) = false := by rw [decide_eq_false_iff_not]; omega
  rcases hec with rfl | rfl
  all_goals
   go_enter Tryz.func5, Tryz.ntmps5
   go_wp2_with fail
   refine (HLV.out _ (Ch.refl _ _)).mono ?_
   rintro e w1 ⟨rfl, n1⟩
   have M1 := Lib.hid n1
   clear n1
   go_wp2_with fail
   refine (HEN.out _ M1.out).mono ?_
   rintro e w2 ⟨rfl, d2⟩
   have M2 := Lib.hid (M1.out.tr d2.nx)
   clear d2
   go_wp2_with fail
   refine (HRE.out _ M2.out).mono ?_
   rintro e w3 ⟨rfl, d3⟩
   have M3 := Lib.hid (M2.out.tr d3.nx)
   clear d3
   go_wp2_with fail
   go_ret
   exact ⟨rfl, M3.out⟩
 ·have k1 : decide ((100 : Int) < (n : Int)) = true := by rw [decide_eq_true_eq]; omega
  go_enter Tryz.func5, Tryz.ntmps5
  go_wp2_with fail
  refine (HLV.out _ (Ch.refl _ _)).mono ?_
  rintro e w1 ⟨rfl, n1⟩
  have M1 := Lib.hid n1
  clear n1
  go_wp2_with fail
  refine (HLV.out _ M1.out).mono ?_
  rintro e w2 ⟨rfl, n2⟩
  go_wp2_with fail
  go_ret
  exact ⟨rfl, M1.out.tr n2⟩
theorem maxlen_cell {W : World} (h : W.ShapedOpen Tryz.prog) : ∃ m, W.cell? ⟨0, 0, none⟩ = some (.int .i64 m) :=
 cell_of_shapedOpen_int (zero := #[.int .i64 0]) (t := 3) h (of_decide_eq_true (by kernel_rfl)) (by kernel_rfl) rfl (by kernel_rfl) (by kernel_rfl) Tryz.underlying3
theorem walks : WalksS 5 Tryz.f5 := by
 intro H enc W args ds ps hsh h
 rw [Tryz.params5] at h
 obtain ⟨A, n, c, xs, vs, ds1, q, rfl, hl, hr, ok, hn, hc, h1⟩ := h.bytes
 obtain ⟨a, vs2, ds2, q2, e1, ha, h2⟩ := h1.int
 have e2 := h2.nil
 simp at e1 e2
 subst e2
 subst e1
 exact walk A n c xs a W hr hl ok hn (by omega) ha (maxlen_cell hsh)
set_option maxHeartbeats 4000000 in
theorem proved : Rows.BlockEndsSaid :=
 OpenClaim.holds_of_wide 5 Tryz.f5 rfl rfl rfl rfl rfl rfl rfl ⟨rfl, rfl, rfl, rfl, rfl⟩ rfl rfl rfl rfl rfl (by as_aux_lemma => kernel_rfl) Tryz.func5 (by as_aux_lemma => kernel_rfl)
  (of_decide_eq_true (by as_aux_lemma => kernel_rfl)) (by as_aux_lemma => (unfold Func.isWrapper; first | (rw [if_pos (by decide +kernel)]; kernel_rfl) | (rw [if_neg (by decide +kernel)]; exact ⟨rfl, rfl⟩)))
  (fun os started H enc _ => law_shaped (s := Rows.blockEndsSpec) Tryz.func5 (by as_aux_lemma => kernel_rfl) rfl rfl
    (by intro H ds h; rw [Tryz.params5] at h; match ds, h with | [d1, d2], _ => rfl)
    (by rw [Tryz.params5]; intro t ht; simp at ht; rcases ht with rfl | rfl <;> exact ⟨by kernel_rfl, of_decide_eq_true (by as_aux_lemma => kernel_rfl)⟩) walks os started H enc
    (ChangeSpec.witness6 (enc := enc) (C := Tryz.checked) false ⟨#[], #[.slice none 0 0, .int .i64 0], []⟩ 8 (by as_aux_lemma => kernel_rfl) (by as_aux_lemma => kernel_rfl) (by as_aux_lemma => kernel_rfl) (by as_aux_lemma => kernel_rfl)))
end Go.Proofs.YtpakjclpjcngmaaGreat.BlockEnds
