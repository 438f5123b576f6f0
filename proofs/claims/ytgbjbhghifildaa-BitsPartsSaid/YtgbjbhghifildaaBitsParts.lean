/- BitsParts: so many bits read at once are those read one by one. Conditions: none. -/
import Derived.Test.YtgbjbhghifildaaLaw
import Derived.Test.YtgbjbhghifildaaBitsN
namespace Go.Proofs.Ytgbjbhghifildaa.BitsParts
open Go.RowKit
set_option linter.unusedVariables false

set_option maxHeartbeats 2000000 in
theorem walk (A : Option Addr) (n0 c0 : Nat) (xs : List Nat) (skip n : Int) (W : World) (hr : Rd W (· < W.heap.size) 1 A n0 (bl xs)) (hx : xs.length = n0) (ok : okB xs) (hn : n0 ≤ 140737488351232) (hs : i64 skip) (hn' : i64 n) :
    Calls Try.prog 3 #[.slice A n0 c0, .int .i64 skip, .int .i64 n] W fun e W' => e = .returned (.bool true) ∧ Nx W W' := by
  have Hx := Lib.hid hx
  clear hx
  obtain ⟨m, hm, em⟩ := u64mod n 33 (by omega) (by omega)
  obtain ⟨S, hS, eS⟩ := u64mod skip 40 (by omega) (by omega)
  simp at em eS
  go_enter Try.func3, Try.ntmps3
  go_wp2_with fail
  refine (newReader_any _ A n0 c0 xs _ hr (by omega) ok).mono ?_
  rintro e w1 ⟨g1, h1, rfl, r1, a1, b1, a1', b1', c1⟩
  go_wp2_with fail
  refine (newReader_any _ A n0 c0 xs _ (hr.nx (by omega) c1) (by omega) ok).mono ?_
  rintro e w2 ⟨g2, h2, rfl, r2, a2, b2, a2', b2', c2⟩
  have r1' := r1.nx c2
  clear r1
  go_wp2_with fail
  refine (rdr_left g1 h1 xs 0 _ r1').mono ?_
  rintro e w' ⟨rfl, nd, rfl⟩
  rw [Hx.out]
  go_wp2_with fail
  clear em eS
  have Hx' := Hx.out
  subst Hx'
  go_loopw [42] (fun i wr => ∃ t p : Nat, t ≤ S ∧ i = .int .u64 t ∧ RdrIs wr g1 h1 xs p ∧ RdrIs wr g2 h2 xs p ∧ Nx W wr) (fun i _ => S - (intOf i).toNat)
  case atStart => exact ⟨0, 0, by omega, rfl, r1'.nx (Dr.mk_ _ _).nx, r2.nx (Dr.mk_ _ _).nx, (c1.tr c2).drewN _⟩
  case round =>
    obtain ⟨t, p, ht, rfl, q1, q2, cx⟩ := hrel
    have hp := q1.le
    by_cases hlt : t < S
    · by_cases hpl : p < 8 * xs.length
      · go_wp2_with fail
        refine (rdr_bit1 g1 h1 xs p _ q1 hpl).mono ?_
        rintro e w3 ⟨rfl, q1', c3⟩
        go_wp2_with fail
        refine (rdr_bit1 g2 h2 xs p _ (q2.ch c3 (by omega) (by omega)) hpl).mono ?_
        rintro e w4 ⟨rfl, q2', c4⟩
        go_wp2_with fail
        go_roundw
        case rel => exact ⟨t + 1, p + 1, by omega, by go_num, q1'.ch c4 (by omega) (by omega), q2', (cx.trans c3 (by omega)).trans c4 (by omega)⟩
        case measure => simp [intOf]; omega
      · go_wp2_with fail
        refine (rdr_bits_short g1 h1 xs p 1 _ q1 (by omega) (by omega) (by omega)).mono ?_
        rintro e w3 ⟨rfl, n3, rfl⟩
        go_wp2_with fail
        refine (rdr_bits_short g2 h2 xs p 1 _ (q2.nx (Dr.mk_ _ _).nx) (by omega) (by omega) (by omega)).mono ?_
        rintro e w4 ⟨rfl, n4, rfl⟩
        go_wp2_with fail
        go_roundw
        case rel => exact ⟨t + 1, p, by omega, by go_num, q1.nx (Dr.mk_ _ _).nx, q2.nx (Dr.mk_ _ _).nx, cx.drewN _⟩
        case measure => simp [intOf]; omega
    · go_wp2_with fail
      refine (rdr_left g1 h1 xs p _ q1).mono ?_
      rintro e w3 ⟨rfl, n3, rfl⟩
      by_cases hsh : 8 * (xs.length : Int) - p < m
      · go_wp2_with fail
        refine (rdr_bits_short g1 h1 xs p m _ (q1.nx (Dr.mk_ _ _).nx) (by omega) (by omega) (by omega)).mono ?_
        rintro e w4 ⟨rfl, n4, rfl⟩
        go_wp2_with fail
        refine (rdr_at g1 h1 xs p _ (q1.nx (Dr.mk_ _ _).nx)).mono ?_
        rintro e w5 ⟨rfl, rfl⟩
        go_wp2_with fail
        refine (rdr_at g2 h2 xs p _ (q2.nx (Dr.mk_ _ _).nx)).mono ?_
        rintro e w5 ⟨rfl, rfl⟩
        go_wp2_with fail
        go_ret
        exact ⟨by simp, cx.drewN _⟩
      · go_wp2_with fail
        refine (rdr_bits g1 h1 xs p m _ (q1.nx (Dr.mk_ _ _).nx) (by omega) (by omega)).mono ?_
        rintro e w4 ⟨rfl, q1', c4⟩
        have q2' := (q2.nx (Dr.mk_ wr n3).nx).ch c4 (by omega) (by omega)
        have cx' := (cx.drewN n3).trans c4 (T := (· = g1)) (by omega)
        clear q1 q2 cx c4
        go_wp2_with fail
        go_loopw [13, 75] (fun v i wr => ∃ k : Nat, k ≤ m ∧ i = .int .i64 k ∧ v = .int .u32 (bval xs p k : Int) ∧ RdrIs wr g1 h1 xs (p + m) ∧ RdrIs wr g2 h2 xs (p + k) ∧ Nx W wr) (fun _ i _ => m - (intOf i).toNat)
        case atStart => exact ⟨0, by omega, rfl, rfl, q1', q2', cx'⟩
        case round =>
          obtain ⟨k, hk, rfl, rfl, y1, y2, cy⟩ := hrel
          by_cases hkm : k < m
          · have hbit := bitAt_lt xs (p + k)
            have hbit0 : ((bitAt xs (p + k) : Nat) : Int) ≤ 1 := by omega
            have ho := or_u32 (bval xs p k) (bitAt xs (p + k)) k (bval_lt _ _ _) hbit (by omega)
            have Ho := Lib.hid ho
            clear ho
            go_wp2_with fail
            refine (rdr_bit1 g2 h2 xs (p + k) _ y2 (by omega)).mono ?_
            rintro e w5 ⟨rfl, y2', c5⟩
            go_wp2_with fail
            go_roundw
            case rel => exact ⟨k + 1, by omega, by go_num, by rw [Ho.out]; rfl, y1.ch c5 (by omega) (by omega), y2', cy.trans c5 (by omega)⟩
            case measure => simp [intOf]; omega
          · obtain rfl : k = m := by omega
            go_wp2_with fail
            refine (rdr_at g1 h1 xs _ _ y1).mono ?_
            rintro e w5 ⟨rfl, rfl⟩
            go_wp2_with fail
            refine (rdr_at g2 h2 xs _ _ y2).mono ?_
            rintro e w5 ⟨rfl, rfl⟩
            go_wp2_with fail
            go_ret
            exact ⟨by simp, cy⟩

theorem walks : Walks 3 Try.f3 := by
  intro H enc W args ds ps h
  rw [Try.params3] at h
  obtain ⟨A, n, c, xs, vs, ds1, q, rfl, hl, hr, ok, hn, hc, h1⟩ := h.bytes
  obtain ⟨a, vs, ds2, q, e1, ha, h2⟩ := h1.int
  obtain ⟨b, vs', ds3, q, e2, hb, h3⟩ := h2.int
  have e3 := h3.nil
  simp at e1 e2 e3
  subst e1 e2 e3
  exact walk A n c xs a b W hr hl ok (by omega) ha hb

/-- whatever the input, the law answers true -/
theorem proved : Rows.BitsPartsSaid :=
  OpenClaim.holds_of_wide 3 Try.f3 rfl rfl rfl rfl rfl rfl rfl ⟨rfl, rfl, rfl, rfl, rfl⟩ rfl rfl rfl rfl rfl (by kernel_rfl) Try.func3 (by kernel_rfl)
    (of_decide_eq_true (by kernel_rfl)) (by unfold Func.isWrapper; first | (rw [if_pos (by decide +kernel)]; kernel_rfl) | (rw [if_neg (by decide +kernel)]; exact ⟨rfl, rfl⟩))
    (fun os started H enc _ => law_lifted (s := Rows.bitsPartsSpec) Try.func3 (by kernel_rfl) rfl rfl
      (by intro H ds h; rw [Try.params3] at h; match ds, h with | [d1, d2, d3], _ => rfl)
      (by rw [Try.params3]; intro t ht; simp at ht; rcases ht with rfl | rfl <;> exact ⟨by kernel_rfl, of_decide_eq_true (by kernel_rfl)⟩) walks os started H enc
      (ChangeSpec.witness6 (enc := enc) (C := Try.checked) false ⟨#[], #[.slice none 0 0, .int .i64 0, .int .i64 0], []⟩ 8 (by kernel_rfl) (by kernel_rfl) (by kernel_rfl) (by kernel_rfl)))
end Go.Proofs.Ytgbjbhghifildaa.BitsParts
