/- SqueezeBack: whatever is squeezed comes back, of just these bytes. Conditions: none. -/
import Derived.Test.YtdfamejakjnamaaSqD
import Derived.Test.YtdfamejakjnamaaInfA
import Derived.Test.YtdfamejakjnamaaPlainY
namespace Go.Proofs.Ytdfamejakjnamaa.SqueezeBack
open Go.RowKit
open Go.Proofs.Ytdfamejakjnamaa.Fix
set_option linter.unusedVariables false
set_option maxRecDepth 100000 in
set_option maxHeartbeats 4000000 in
theorem walk (A : Option Addr) (c : Nat) (xs : List Nat) (W : World) (hr : Rd W (· < W.heap.size) 1 A xs.length (bl xs)) (ok : okB xs) (hn : xs.length ≤ 140737488351232) (hc : xs.length ≤ c) :
    Calls Try.prog 10 #[.slice A xs.length c] W fun e W' => e = .returned (.bool true) ∧ Nx W W' := by
  go_enter Try.func10, Try.ntmps10
  go_wp2_with fail
  refine (lives7_any _).mono ?_
  rintro e w1 ⟨rfl, n1⟩
  by_cases hbig : 4096 < xs.length
  · go_wp2_with fail
    refine (lives7_any _).mono ?_
    rintro e w2 ⟨rfl, n2⟩
    go_wp2_with fail
    go_ret
    exact ⟨by simp, n1.tr n2⟩
  · have hxl : xs.length ≤ 4096 := by omega
    obtain ⟨hB, hL, hO⟩ := defl_back (xs := xs) ok (by omega)
    have HB := Lib.hid hB
    have HO := Lib.hid hO
    clear hB hO
    go_wp2_with fail
    refine (sq_deflate _ A c xs w1 (hr.nx (by decide) n1) ok hc (by omega)).mono ?_
    rintro e w2 ⟨A2, c2, rfl, ⟨D2, hr2⟩, n2⟩
    generalize deflF xs = ds at *
    have nx2 := n1.tr n2
    go_wp2_with fail
    refine (inflate_c (W := w2) (bs := ds) (most := (xs.length : Int)) _ A2 c2 hr2 HO.out (by omega) (by omega)).mono ?_
    rintro e w3 ⟨v3, rfl, ho3, n3, ok3⟩
    rw [HB.out] at ho3 ok3 ⊢
    obtain ⟨A3, c3, rfl, _, _⟩ := own_form ho3
    have nx3 : Nx W w3 := nx2.trans n3 fun i hi hs => by have := nx2.size; have hs2 : w2.heap.size ≤ i := hs; omega
    have hsame := same_any _ _ A3 A xs.length c3 xs.length c xs xs w3 (Rd.of_own ho3) (hr.nx (by decide) nx3) ok ok
    simp only [decide_true] at hsame
    have hL2 : (ds.length : Int) ≤ (xs.length : Int) + 5 := by omega
    go_wp2_with fail
    refine hsame.mono ?_
    rintro e w4 ⟨rfl, rfl⟩
    go_wp2_with fail
    go_ret
    exact ⟨by simp; try omega, nx3⟩

theorem walks : Walks 10 Try.f10 := by
  intro H enc W args ds ps h
  rw [Try.params10] at h
  obtain ⟨A, n, c, xs, vs, ds1, q, rfl, hl, hr, ok, hn, hc, h1⟩ := h.bytes
  have e3 := h1.nil
  simp at e3
  subst e3
  subst hl
  exact walk A c xs W hr ok (by omega) hn

/-- whatever the input, the law answers true -/
theorem proved : Rows.SqueezeBackSaid :=
  OpenClaim.holds_of_wide 10 Try.f10 rfl rfl rfl rfl rfl rfl rfl ⟨rfl, rfl, rfl, rfl, rfl⟩ rfl rfl rfl rfl rfl (by kernel_rfl) Try.func10 (by kernel_rfl)
    (of_decide_eq_true (by kernel_rfl)) (by unfold Func.isWrapper; first | (rw [if_pos (by decide +kernel)]; kernel_rfl) | (rw [if_neg (by decide +kernel)]; exact ⟨rfl, rfl⟩))
    (fun os started H enc _ => law_lifted (s := Rows.squeezeBackSpec) Try.func10 (by kernel_rfl) rfl rfl
      (by intro H ds h; rw [Try.params10] at h; match ds, h with | [d1], _ => rfl)
      (by rw [Try.params10]; intro t ht; simp at ht; rcases ht with rfl <;> exact ⟨by kernel_rfl, of_decide_eq_true (by kernel_rfl)⟩) walks os started H enc
      (ChangeSpec.witness6 (enc := enc) (C := Try.checked) false ⟨#[], #[.slice none 0 0], []⟩ 8 (by kernel_rfl) (by kernel_rfl) (by kernel_rfl) (by kernel_rfl)))
end Go.Proofs.Ytdfamejakjnamaa.SqueezeBack
