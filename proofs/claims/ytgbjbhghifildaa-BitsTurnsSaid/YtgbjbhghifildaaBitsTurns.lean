/- BitsTurns: a code of n bits is the number of n bits whose bits stand the other way round. Conditions: none. -/
import Derived.Test.YtgbjbhghifildaaLaw
import Derived.Test.YtgbjbhghifildaaBitsN
namespace Go.Proofs.Ytgbjbhghifildaa.BitsTurns
open Go.RowKit
set_option linter.unusedVariables false

theorem or_turn (v n k : Nat) (hn : n < 17) (hk : k < n) (hv : v < 4294967296) :
    bits .or .u32 (turn v n k : Int) (bits .and .u32 ((v : Int) / 2 ^ k) 1 * 2 ^ (n - 1 - k) % 4294967296) = ((turn v n (k + 1) : Nat) : Int) := by
  have h1 : ((v : Int) / 2 ^ k) = ((v / 2 ^ k : Nat) : Int) := by simp
  have hd : v / 2 ^ k ≤ v := Nat.div_le_self _ _
  have h2 : bits .and .u32 ((v / 2 ^ k : Nat) : Int) 1 = ((v / 2 ^ k % 2 : Nat) : Int) := by
    have := u32_and_nat (v / 2 ^ k) 1 (Nat.lt_of_le_of_lt hd hv) (by omega)
    rw [Nat.and_one_is_mod] at this
    exact this
  rw [h1, h2, ← turn_step v n k hk]
  have ht := turn_lt v n k (by omega)
  have hp : (2 : Nat) ^ n ≤ 2 ^ 16 := Nat.pow_le_pow_right (by omega) (by omega)
  have hp2 : (2 : Nat) ^ (n - 1 - k) ≤ 2 ^ 16 := Nat.pow_le_pow_right (by omega) (by omega)
  have hb : v / 2 ^ k % 2 < 2 := Nat.mod_lt _ (by omega)
  generalize v / 2 ^ k % 2 = b at *
  have hbk : b * 2 ^ (n - 1 - k) ≤ 1 * 2 ^ (n - 1 - k) := Nat.mul_le_mul_right _ (by omega)
  have e2 : ((b * 2 ^ (n - 1 - k) : Nat) : Int) = (b : Int) * 2 ^ (n - 1 - k) := by simp
  rw [← e2, Int.emod_eq_of_lt (by omega) (by omega), u32_or_nat _ _ (by omega) (by omega)]

set_option maxHeartbeats 2000000 in
theorem walk (v : Nat) (n : Int) (W : World) (hv : v < 4294967296) :
    Calls Try.prog 4 #[.int .u32 (v : Int), .int .i64 n] W fun e W' => e = .returned (.bool true) ∧ Nx W W' := by
  obtain ⟨m, hm, em⟩ := u64mod n 17 (by omega) (by omega)
  simp at em
  have wa := WrIs.new W
  have wb := WrIs.new (W.alloc (.cells #[.slice none 0 0, .int .i64 0] 34))
  have wa' : WrIs ((W.alloc (.cells #[.slice none 0 0, .int .i64 0] 34)).alloc (.cells #[.slice none 0 0, .int .i64 0] 34)) W.heap.size none [] := wa.ch ((Ch.refl _ _).alloc _) (S := fun _ => False) (by simp) (by simp)
  have nx : Nx W ((W.alloc (.cells #[.slice none 0 0, .int .i64 0] 34)).alloc (.cells #[.slice none 0 0, .int .i64 0] 34)) := ((Ch.refl _ W).alloc _).alloc _
  have sz : ((W.alloc (.cells #[.slice none 0 0, .int .i64 0] 34)).alloc (.cells #[.slice none 0 0, .int .i64 0] 34)).heap.size = W.heap.size + 2 := by simp
  simp only [World.size_alloc] at wb
  clear wa
  go_enter Try.func4, Try.ntmps4
  go_wp2_with fail
  clear em
  generalize (W.alloc (.cells #[.slice none 0 0, .int .i64 0] 34)).alloc (.cells #[.slice none 0 0, .int .i64 0] 34) = w0 at *
  have Sz := Lib.hid sz
  clear sz
  go_loop [7, 20] (fun t i => ∃ k : Nat, k ≤ m ∧ i = .int .i64 k ∧ t = .int .u32 (turn v m k : Int)) (fun _ i => m - (intOf i).toNat)
  case atStart => exact ⟨0, by omega, rfl, rfl⟩
  case round =>
    obtain ⟨k, hk, rfl, rfl⟩ := hrel
    by_cases hlt : k < m
    · have ho := or_turn v m k hm hlt hv
      have Ho := Lib.hid ho
      clear ho
      have t0 : (0 : Int) ≤ (m : Int) - 1 - (k : Int) := by omega
      go_wp2_with fail
      go_round
      case rel => exact ⟨k + 1, by omega, by go_num, by rw [← Ho.out]⟩
      case measure => simp [intOf]; omega
    · obtain rfl : k = m := by omega
      have ht := turn_lt v k k (Nat.le_refl _)
      have hp : (2 : Nat) ^ k ≤ 2 ^ 16 := Nat.pow_le_pow_right (by omega) (by omega)
      go_wp2_with fail
      refine (wr_code _ _ _ v k _ wa' (by simp) hv (by omega)).mono ?_
      rintro e w1 ⟨rfl, h1, r1, q1, c1⟩
      have sz := Sz.out
      have wb' := wb.other wa' c1 (by omega) (fun _ e => by cases e)
      have e1 := new_le (W := W) (by omega) (by simp) q1
      have ap1 : Apart h1 none := fun _ _ e => by cases e
      have n1 : Nx W w1 := nx_wr nx c1 (by omega) (by simp)
      clear sz q1
      go_wp2_with fail
      refine (wr_bits _ _ _ (turn v k k) k _ wb' (by simp) (by omega) (by omega)).mono ?_
      rintro e w2 ⟨rfl, h2, r2, q2, c2⟩
      rw [turn_bits] at r2
      have e2 := new_le (W := W) n1.size (by simp) q2
      have ap2 := (ap1.symm_.next q2 r1.lt.2)
      have r1' := r1.other wb' c2 (by omega) ap1
      have n2 : Nx W w2 := nx_wr n1 c2 (by omega) (by simp)
      clear q2
      go_wp2_with fail
      refine (wr_bits _ _ _ 1 1 _ r1' (by simp [codeBits_length]; omega) (by omega) (by omega)).mono ?_
      rintro e w3 ⟨rfl, h3, r3, q3, c3⟩
      have e3 := new_le (W := W) n2.size e1 q3
      have ap3 := (ap2.symm_.next q3 r2.lt.2)
      have r2' := r2.other r1' c3 (by omega) ap2
      have n3 : Nx W w3 := nx_wr n2 c3 (by omega) e1
      clear q3
      go_wp2_with fail
      refine (wr_bits _ _ _ 1 1 _ r2' (by simp [codeBits_length]; omega) (by omega) (by omega)).mono ?_
      rintro e w4 ⟨rfl, h4, r4, q4, c4⟩
      have r3' := r3.other r2' c4 (by omega) ap3
      have n4 : Nx W w4 := nx_wr n3 c4 (by omega) e2
      have hL : ([] ++ codeBits v k ++ numBits 1 1).length = k + 1 := by simp [codeBits_length, numBits_length]
      generalize [] ++ codeBits v k ++ numBits 1 1 = L at *
      have hpk := pack_length L
      have HL := Lib.hid hL
      have Hpk := Lib.hid hpk
      clear hpk
      clear q4 r1 r2 r1' r2' wa' wb wb' r3 ap1 ap2 ap3
      go_wp2_with fail
      refine (wr_bytes _ _ L _ r3' (by omega)).mono ?_
      clear hL
      rintro e w5 ⟨k5, p5, rfl, b5, b5', o5, d5, c5⟩
      go_wp2_with fail
      refine (wr_bytes _ _ L _ (r4.nx c5) (by rw [HL.out]; omega)).mono ?_
      rintro e w6 ⟨k6, p6, rfl, b6, b6', o6, d6, c6⟩
      go_wp2_with fail
      refine (same_any _ _ _ _ _ _ _ _ (pack L) (pack L) _ (d5.nx (by omega) c6) d6 (pack_lt L) (pack_lt L)).mono ?_
      rintro e w7 ⟨rfl, rfl⟩
      go_wp2_with fail
      refine (wr_bytes _ _ L _ ((r3'.nx c5).nx c6) (by rw [HL.out]; omega)).mono ?_
      rintro e w7 ⟨k7, p7, rfl, b7, b7', o7, d7, c7⟩
      have hpk := Hpk.out
      rw [HL.out] at hpk
      clear Hpk
      have n7 := ((n4.tr c5).tr c6).tr c7
      clear b7 b6 b5 b5' b6' b7' o5 o6 o7 d5 d6 d7 c5 c6 c7
      generalize (pack L).length = pl at *
      have Hpl := Lib.hid hpk
      clear hpk
      go_wp2_with fail
      go_ret
      refine ⟨?_, n7⟩
      have hpk := Hpl.out
      simp
      omega

theorem walks : Walks 4 Try.f4 := by
  intro H enc W args ds ps h
  rw [Try.params4] at h
  obtain ⟨v, vs, ds2, q, rfl, hv, h1⟩ := h.u32
  obtain ⟨b, vs', ds3, q, e2, hb, h2⟩ := h1.int
  have e3 := h2.nil
  simp at e2 e3
  subst e2 e3
  exact walk v b W hv

/-- whatever the input, the law answers true -/
theorem proved : Rows.BitsTurnsSaid :=
  OpenClaim.holds_of_wide 4 Try.f4 rfl rfl rfl rfl rfl rfl rfl ⟨rfl, rfl, rfl, rfl, rfl⟩ rfl rfl rfl rfl rfl (by kernel_rfl) Try.func4 (by kernel_rfl)
    (of_decide_eq_true (by kernel_rfl)) (by unfold Func.isWrapper; first | (rw [if_pos (by decide +kernel)]; kernel_rfl) | (rw [if_neg (by decide +kernel)]; exact ⟨rfl, rfl⟩))
    (fun os started H enc _ => law_lifted (s := Rows.bitsTurnsSpec) Try.func4 (by kernel_rfl) rfl rfl
      (by intro H ds h; rw [Try.params4] at h; match ds, h with | [d1, d2], _ => rfl)
      (by rw [Try.params4]; intro t ht; simp at ht; rcases ht with rfl | rfl <;> exact ⟨by kernel_rfl, of_decide_eq_true (by kernel_rfl)⟩) walks os started H enc
      (ChangeSpec.witness6 (enc := enc) (C := Try.checked) false ⟨#[], #[.int .u32 0, .int .i64 0], []⟩ 8 (by kernel_rfl) (by kernel_rfl) (by kernel_rfl) (by kernel_rfl)))
end Go.Proofs.Ytgbjbhghifildaa.BitsTurns
