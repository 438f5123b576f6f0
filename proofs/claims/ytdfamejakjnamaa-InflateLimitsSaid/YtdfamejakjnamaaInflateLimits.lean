/- InflateLimits: with a limit of just as many bytes as come out it is the same, with one less too long. Conditions: none. -/
import Derived.Test.YtdfamejakjnamaaInfA
import Derived.Test.YtdfamejakjnamaaPlainM
namespace Go.Proofs.Ytdfamejakjnamaa.InflateLimits
open Go.RowKit
set_option linter.unusedVariables false
theorem inflate_whole {bs : List Nat} {most : Int} (h0 : 0 ≤ most) (hm : most ≤ 65536) : inflateF bs most = if (wholeF bs most).e ≠ 0 then ([], 0, (wholeF bs most).e) else ((wholeF bs most).out, ((wholeF bs most).p + 7) / 8, 0) := by
  unfold inflateF
  rw [if_neg (by omega)]
  rfl
theorem whole_e {bs : List Nat} {most : Int} (h0 : 0 ≤ most) (hm : most ≤ 65536) (he : (inflateF bs most).2.2 = 0) : (wholeF bs most).e = 0 := by
  rw [inflate_whole h0 hm] at he
  by_cases h : (wholeF bs most).e ≠ 0
  · rw [if_pos h] at he; exact he
  · simpa using h
/-- what the law says, of the plain functions -/
theorem limits {xs : List Nat} (he : (inflateF xs 3000).2.2 = 0) (q : Nat) (hq : q < 3000) :
    (inflateF xs 3000).1.length ≤ 3000 ∧ inflateF xs ((inflateF xs 3000).1.length + (q : Int)) = inflateF xs 3000 ∧
    (inflateF xs ((inflateF xs 3000).1.length - 1)).2.2 = if (inflateF xs 3000).1.length = 0 then 1 else 5 := by
  have hw := whole_e (by omega) (by omega) he
  have hl := whole_lock (by omega) hw
  have h1 : inflateF xs 3000 = ((wholeF xs 3000).out, ((wholeF xs 3000).p + 7) / 8, 0) := by rw [inflate_whole (by omega) (by omega), if_neg (by simp [hw])]
  have hlen := hl.2
  rw [h1]
  refine ⟨by simp only; omega, ?_, ?_⟩
  · have h2 := whole_room (m2 := (wholeF xs 3000).out.length + (q : Int)) (by omega) hw (by omega)
    simp only
    rw [inflate_whole (by omega) (by omega), h2, if_neg (by simp [hw])]
  · simp only
    by_cases h0 : (wholeF xs 3000).out.length = 0
    · rw [if_pos h0]
      unfold inflateF
      rw [if_pos (by omega)]
    · rw [if_neg h0]
      have h2 := whole_full (m2 := (wholeF xs 3000).out.length - 1) (by omega) hw (by omega) (by omega)
      rw [inflate_whole (by omega) (by omega), if_pos (by rw [h2]; decide)]
      exact h2
/-- a slice that a call has handed back, behind another call -/
theorem own_later {w w' : World} {v : Value} {n : Nat} {xs : List Value} (h : w.ownsRow 0 5 1 v n xs) (c : Ch (fun k => w.heap.size ≤ k) w w') : w'.ownsRow 0 5 1 v n xs :=
  own_ch h c fun k hk hs => by have := (h.lt k hk).2; have hs2 : w.heap.size ≤ k := hs; omega
theorem u64mod (n : Int) (k : Nat) (h0 : 0 < k) (hk : k < 9223372036854775808) : ∃ m : Nat, m < k ∧ (IntKind.u64.wrap n).tmod (k : Int) = m := by
  have h1 : IntKind.u64.wrap n = n % 18446744073709551616 := by simp [IntKind.wrap, IntKind.bits, IntKind.signed]
  have h2 : 0 ≤ n % 18446744073709551616 := Int.emod_nonneg _ (by omega)
  rw [h1, Int.tmod_eq_emod_of_nonneg h2]
  obtain ⟨m, hm⟩ := Int.eq_ofNat_of_zero_le (Int.emod_nonneg (n % 18446744073709551616) (show (k : Int) ≠ 0 by omega))
  have := Int.emod_lt_of_pos (n % 18446744073709551616) (show (0 : Int) < k by omega)
  exact ⟨m, by omega, hm⟩
set_option maxRecDepth 100000 in
set_option maxHeartbeats 4000000 in
theorem walk (A : Option Addr) (c : Nat) (xs : List Nat) (a : Int) (W : World) (hr : Rd W (· < W.heap.size) 1 A xs.length (bl xs)) (ok : okB xs) (hn : xs.length ≤ 140737488351232) (ha : i64 a) :
    Calls Try.prog 7 #[.slice A xs.length c, .int .i64 a] W fun e W' => e = .returned (.bool true) ∧ Nx W W' := by
  go_enter Try.func7, Try.ntmps7
  go_wp2_with fail
  refine (lives6_any _).mono ?_
  rintro e w1 ⟨rfl, n1⟩
  by_cases hbig : 1500 < xs.length
  · go_wp2_with fail
    refine (lives6_any _).mono ?_
    rintro e w2 ⟨rfl, n2⟩
    go_wp2_with fail
    go_ret
    exact ⟨by simp, n1.tr n2⟩
  · go_wp2_with fail
    refine (inflate_c _ A c (hr.nx (by decide) n1) ok (by omega) (by omega)).mono ?_
    rintro e w2 ⟨v, rfl, ho, n2, okx⟩
    have nx2 : Nx W w2 := n1.trans n2 fun i hi hh => by have := n1.size; omega
    by_cases he : (inflateF xs 3000).2.2 = 0
    · have hL := fun q => limits he q
      have hE := he
      generalize hF : inflateF xs 3000 = F at *
      obtain ⟨x, m, e0⟩ := F
      simp only at hL he ho okx ⊢
      subst he
      obtain ⟨A1, c1, rfl, _, _⟩ := own_form ho
      obtain ⟨q, hq, hqe⟩ := u64mod a 3000 (by omega) (by omega)
      have hqe : (IntKind.u64.wrap a).tmod 3000 = (q : Int) := hqe
      obtain ⟨hx3, hy, hz⟩ := hL q hq
      have Hy := Lib.hid hy
      have Hz := Lib.hid hz
      clear hL hy hz hE
      have hr2 := hr.nx (by decide) nx2
      go_wp2_with fail
      refine (inflate_c _ A c hr2 ok (by omega) (by omega)).mono ?_
      rintro e w3 ⟨v3, rfl, ho3, n3, ok3⟩
      rw [Hy.out] at ho3 ok3 ⊢
      obtain ⟨A3, c3, rfl, _, _⟩ := own_form ho3
      have nx3 : Nx W w3 := nx2.trans n3 fun i hi hh => by have := nx2.size; have hs2 : w2.heap.size ≤ i := hh; omega
      have hx3' := own_later ho n3
      have hr3 := hr.nx (by decide) nx3
      go_wp2_with fail
      refine (inflate_c _ A c hr3 ok (by omega) (by omega)).mono ?_
      rintro e w4 ⟨v4, rfl, ho4, n4, ok4⟩
      have hx4 := own_later hx3' n4
      have hy4 := own_later ho3 n4
      have nx4 : Nx W w4 := nx3.trans n4 fun i hi hh => by have := nx3.size; have hs2 : w3.heap.size ≤ i := hh; omega
      rw [Hz.out]
      generalize inflateF xs (↑x.length - 1) = F4 at *
      obtain ⟨A4, c4, rfl, _, _⟩ := own_form ho4
      have hsame := same_any _ _ A1 A3 x.length c1 x.length c3 x x w4 (Rd.of_own hx4) (Rd.of_own hy4) okx okx
      simp only [decide_true] at hsame
      by_cases hx0 : x.length = 0
      · rw [if_pos hx0]
        obtain rfl : x = [] := List.length_eq_zero_iff.1 hx0
        rw [List.length_nil] at hsame
        go_wp2_with fail
        refine hsame.mono ?_
        rintro e w5 ⟨rfl, rfl⟩
        go_wp2_with fail
        go_ret
        exact ⟨by simp, nx4⟩
      · rw [if_neg hx0]
        have hx0' : ((x.length : Int) == 0) = false := by rw [beq_eq_false_iff_ne]; omega
        have hx1 : (0 : Int) < (x.length : Int) := by omega
        go_wp2_with fail
        refine hsame.mono ?_
        rintro e w5 ⟨rfl, rfl⟩
        go_wp2_with fail
        go_ret
        exact ⟨by simp, nx4⟩
    · have he' : ((inflateF xs 3000).2.2 != 0) = true := by rw [bne_iff_ne]; exact he
      go_wp2_with fail
      go_ret
      exact ⟨by simp, nx2⟩

theorem walks : Walks 7 Try.f7 := by
  intro H enc W args ds ps h
  rw [Try.params7] at h
  obtain ⟨A, n, c, xs, vs, ds1, q, rfl, hl, hr, ok, hn, hc, h1⟩ := h.bytes
  obtain ⟨a, vs', ds2, q2, e2, ha, h2⟩ := h1.int
  have e3 := h2.nil
  simp at e2 e3
  subst e2 e3
  subst hl
  exact walk A c xs a W hr ok (by omega) ha

/-- whatever the input, the law answers true -/
theorem proved : Rows.InflateLimitsSaid :=
  OpenClaim.holds_of_wide 7 Try.f7 rfl rfl rfl rfl rfl rfl rfl ⟨rfl, rfl, rfl, rfl, rfl⟩ rfl rfl rfl rfl rfl (by kernel_rfl) Try.func7 (by kernel_rfl)
    (of_decide_eq_true (by kernel_rfl)) (by unfold Func.isWrapper; first | (rw [if_pos (by decide +kernel)]; kernel_rfl) | (rw [if_neg (by decide +kernel)]; exact ⟨rfl, rfl⟩))
    (fun os started H enc _ => law_lifted (s := Rows.inflateLimitsSpec) Try.func7 (by kernel_rfl) rfl rfl
      (by intro H ds h; rw [Try.params7] at h; match ds, h with | [d1, d2], _ => rfl)
      (by rw [Try.params7]; intro t ht; simp at ht; rcases ht with rfl | rfl <;> exact ⟨by kernel_rfl, of_decide_eq_true (by kernel_rfl)⟩) walks os started H enc
      (ChangeSpec.witness6 (enc := enc) (C := Try.checked) false ⟨#[], #[.slice none 0 0, .int .i64 0], []⟩ 8 (by kernel_rfl) (by kernel_rfl) (by kernel_rfl) (by kernel_rfl)))
end Go.Proofs.Ytdfamejakjnamaa.InflateLimits
