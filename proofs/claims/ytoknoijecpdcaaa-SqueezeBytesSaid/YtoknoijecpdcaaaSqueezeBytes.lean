/- SqueezeBytes: the squeezed text of any bytes is the document's. Conditions: none. -/
import Derived.Test.YtoknoijecpdcaaaSqD
import Derived.Test.YtoknoijecpdcaaaRef7c
namespace Go.Proofs.Ytoknoijecpdcaaa.SqueezeBytes
open Go.RowKit
set_option linter.unusedVariables false
theorem okB_pack (l : List Bool) : okB (pack l) := by
  intro x hx
  unfold pack at hx
  obtain ⟨i, _, rfl⟩ := List.mem_map.1 hx
  exact byteAt_lt l i
theorem okB_sto {xs : List Nat} (ok : okB xs) (hl : xs.length ≤ 65535) : okB (stoOne xs) := by
  intro x hx
  unfold stoOne stoHdr at hx
  simp only [List.cons_append, List.nil_append, List.mem_cons] at hx
  rcases hx with rfl | rfl | rfl | rfl | rfl | h
  · omega
  · omega
  · omega
  · omega
  · omega
  · exact ok x h
theorem okB_defl {xs : List Nat} (ok : okB xs) (hl : xs.length ≤ 65535) : okB (deflF xs) := by
  unfold deflF
  split
  · exact okB_pack _
  · exact okB_sto ok hl
set_option maxRecDepth 100000 in
set_option maxHeartbeats 4000000 in
theorem walk (A : Option Addr) (c : Nat) (xs : List Nat) (W : World) (hr : Rd W (· < W.heap.size) 1 A xs.length (bl xs)) (ok : okB xs) (hn : xs.length ≤ 140737488351232) (hc : xs.length ≤ c) :
    Calls Try.prog 4 #[.slice A xs.length c] W fun e W' => e = .returned (.bool true) ∧ Nx W W' := by
  go_enter Try.func4, Try.ntmps4
  go_wp2_with fail
  refine (lives7_any _).mono ?_
  rintro e w1 ⟨rfl, n1⟩
  by_cases hbig : 600 < xs.length
  · go_wp2_with fail
    refine (lives7_any _).mono ?_
    rintro e w2 ⟨rfl, n2⟩
    go_wp2_with fail
    go_ret
    exact ⟨by simp, n1.tr n2⟩
  · have hxl : xs.length ≤ 600 := by omega
    go_wp2_with fail
    refine (twin_any _ A xs.length c xs w1 (hr.nx (by decide) n1) (by omega)).mono ?_
    rintro e w2 ⟨k2, cap2, rfl, hk1, hk2, hown2, hrd2, n2⟩
    have hcap : xs.length ≤ cap2 := by
      obtain ⟨_, _, hv, hcap, _⟩ := own_form hown2
      injection hv with _ _ hv
      omega
    have nx2 := n1.tr n2
    clear hown2
    go_wp2_with fail
    with_reducible refine (sq_deflate _ (some ⟨k2, 0, none⟩) cap2 xs w2 hrd2 ok hcap (by omega)).mono ?_
    rintro e w3 ⟨A3, c3, rfl, ⟨D3, hr3⟩, n3⟩
    have nx3 := nx2.tr n3
    have hrd3 := hrd2.nx (by decide) n3
    have hok := okB_defl ok (by omega)
    have hda := ref_deflate7 _ A c xs w3 (hr.nx (by decide) nx3) ok hc hxl
    generalize deflF xs = ds at *
    go_wp2_with fail
    with_reducible refine hda.mono ?_
    rintro e w4 ⟨A4, c4, rfl, ⟨D4, hr4⟩, n4⟩
    have nx4 := nx3.tr n4
    have h1 := same_any _ _ A3 A4 ds.length c3 ds.length c4 ds ds w4 (hr3.nx (by decide) n4) hr4 hok hok
    have h2 := same_any _ _ (some ⟨k2, 0, none⟩) A xs.length cap2 xs.length c xs xs w4 (hrd3.nx (by decide) n4) (hr.nx (by decide) nx4) ok ok
    simp only [decide_true] at h1 h2
    go_wp2_with fail
    with_reducible refine h1.mono ?_
    rintro e w5 ⟨rfl, rfl⟩
    go_wp2_with fail
    with_reducible refine h2.mono ?_
    rintro e w5 ⟨rfl, rfl⟩
    go_wp2_with fail
    go_ret
    exact ⟨by simp, nx4⟩

theorem walks : Walks 4 Try.f4 := by
  intro H enc W args ds ps h
  rw [Try.params4] at h
  obtain ⟨A, n, c, xs, vs, ds1, q, rfl, hl, hr, ok, hn, hc, h1⟩ := h.bytes
  have e3 := h1.nil
  simp at e3
  subst e3
  subst hl
  exact walk A c xs W hr ok (by omega) hn

/-- whatever the input, the law answers true -/
theorem proved : Rows.SqueezeBytesSaid :=
  OpenClaim.holds_of_wide 4 Try.f4 rfl rfl rfl rfl rfl rfl rfl ⟨rfl, rfl, rfl, rfl, rfl⟩ rfl rfl rfl rfl rfl (by kernel_rfl) Try.func4 (by kernel_rfl)
    (of_decide_eq_true (by kernel_rfl)) (by unfold Func.isWrapper; first | (rw [if_pos (by decide +kernel)]; kernel_rfl) | (rw [if_neg (by decide +kernel)]; exact ⟨rfl, rfl⟩))
    (fun os started H enc _ => law_lifted (s := Rows.squeezeBytesSpec) Try.func4 (by kernel_rfl) rfl rfl
      (by intro H ds h; rw [Try.params4] at h; match ds, h with | [d1], _ => rfl)
      (by rw [Try.params4]; intro t ht; simp at ht; rcases ht with rfl <;> exact ⟨by kernel_rfl, of_decide_eq_true (by kernel_rfl)⟩) walks os started H enc
      (ChangeSpec.witness6 (enc := enc) (C := Try.checked) false ⟨#[], #[.slice none 0 0], []⟩ 8 (by kernel_rfl) (by kernel_rfl) (by kernel_rfl) (by kernel_rfl)))
end Go.Proofs.Ytoknoijecpdcaaa.SqueezeBytes
