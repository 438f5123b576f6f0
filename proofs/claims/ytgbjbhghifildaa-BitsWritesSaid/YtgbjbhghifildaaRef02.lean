/- The contracts of the references of layer 2: rows of bits. Conditions: lengths within the reach. -/
import Derived.Test.YtgbjbhghifildaaOwn
import Derived.Test.YtgbjbhghifildaaBitsN
namespace Go.Proofs.Ytgbjbhghifildaa
open Go.RowKit
set_option linter.unusedVariables false

def bbl (l : List Bool) : List Value := l.map Value.bool
theorem bbl_length (l : List Bool) : (bbl l).length = l.length := by simp [bbl]
theorem bbl_one (l : List Bool) : ∀ u ∈ bbl l, u.oneCell' = true := by
  intro u hu
  simp only [bbl, List.mem_map] at hu
  obtain ⟨x, _, rfl⟩ := hu
  rfl
/-- the first n bits of bytes -/
def rowTo (bs : List Nat) (n : Nat) : List Bool := (List.range n).map fun i => decide (bitAt bs i = 1)
theorem rowTo_succ (bs : List Nat) (n : Nat) : rowTo bs (n + 1) = rowTo bs n ++ [decide (bitAt bs n = 1)] := by simp [rowTo, List.range_succ]
theorem rowTo_length (bs : List Nat) (n : Nat) : (rowTo bs n).length = n := by simp [rowTo]
/-- the number whose bits stand from the lowest on -/
def numOf : List Bool → Nat
  | [] => 0
  | b :: l => b2n b + 2 * numOf l
theorem numOf_lt (l : List Bool) : numOf l < 2 ^ l.length := by
  induction l with
  | nil => simp [numOf]
  | cons b l ih =>
    have := b2n_lt b
    simp only [numOf, List.length_cons, Nat.pow_succ]
    omega
theorem numOf_append (l m : List Bool) : numOf (l ++ m) = numOf l + 2 ^ l.length * numOf m := by
  induction l with
  | nil => simp [numOf]
  | cons b l ih =>
    simp only [List.cons_append, numOf, ih, List.length_cons, Nat.pow_succ, Nat.mul_add]
    rw [Nat.mul_comm (2 ^ l.length) 2, Nat.mul_assoc]
    omega
theorem numOf_row (bs : List Nat) (p m N : Nat) (h : p + m ≤ N) : numOf (((rowTo bs N).drop p).take m) = bval bs p m := by
  induction m with
  | zero => simp [numOf, bval]
  | succ m ih =>
    have hl : p + m < (rowTo bs N).length := by rw [rowTo_length]; omega
    have e : ((rowTo bs N).drop p).take (m + 1) = ((rowTo bs N).drop p).take m ++ [decide (bitAt bs (p + m) = 1)] := by
      rw [List.take_succ_eq_append_getElem (by simp [rowTo_length]; omega)]
      simp [rowTo]
    rw [e, numOf_append, ih (by omega)]
    have hlen : (((rowTo bs N).drop p).take m).length = m := by simp [rowTo_length]; omega
    rw [hlen]
    simp only [bval, numOf]
    have := bitAt_lt bs (p + m)
    have e2 : b2n (decide (bitAt bs (p + m) = 1)) = bitAt bs (p + m) := by
      unfold b2n
      by_cases h : bitAt bs (p + m) = 1 <;> simp [h]
      omega
    rw [e2]
    simp [Nat.mul_comm]

theorem Try.infoB : (Try.prog.info? 4).map (fun i => (i.zero, i.size, i.bytes)) = some (some (.bool false), 1, 1) := by kernel_rfl

set_option maxHeartbeats 1000000 in
theorem ref_row (D : Nat → Prop) (A : Option Addr) (n c : Nat) (bs : List Nat) (W : World) (hr : Rd W D 1 A n (bl bs)) (hD : ∀ k, D k → k < W.heap.size) (hb : bs.length = n) (hn : n ≤ 1000000000) (ok : okB bs) :
    Calls Try.prog 21 #[.slice A n c] W (GivesB W 4 1 (8 * n) (bbl (rowTo bs (8 * n)))) := by
  obtain ⟨i0, hi0, hz0, hz1, hz2⟩ := info_parts Try.infoB
  have hlit := OwnS.lit W W 4 (Ch.refl _ W) 1
  have Hb := Lib.hid hb
  clear hb
  go_enter Try.func21, Try.ntmps21
  go_wp2_with fail
  go_loopw [3, 10] (fun v i wr => ∃ k : Nat, k ≤ n ∧ i = .int .i64 k ∧ OwnS W wr 4 1 v (8 * k) (bbl (rowTo bs (8 * k))) ∧ v.ownBlock ≠ none) (fun _ i _ => n - (intOf i).toNat)
  case atStart => exact ⟨0, by omega, rfl, by simpa [rowTo, bbl] using hlit, by simp [Value.ownBlock]⟩
  case round =>
    obtain ⟨wo, rfl⟩ : ∃ wo : World, wo = wr := ⟨_, rfl⟩
    obtain ⟨k, hk, rfl, ho, hsm⟩ := hrel
    by_cases hlt : k < n
    · obtain ⟨ad, u, rfl, hDa, hu, hc⟩ := (hr.ch (by omega) ho.nx (fun _ _ _ hf => hf)).at_ hlt
      rw [bl_get (by rw [Hb.out]; exact hlt)] at hu
      injection hu with hu
      subst hu
      have hx := okB_getD ok k
      generalize hxx : bs.getD k 0 = x at *
      have Hx := Lib.hid hxx
      clear hxx hlit
      go_wp2_with fail
      go_loopw [3, 5, 6] (fun v y j wr => ∃ m z : Nat, m ≤ 8 ∧ z < 256 ∧ j = .int .i64 m ∧ y = .int .u8 (z : Int) ∧ Hid (z = x / 2 ^ m) ∧ OwnS W wr 4 1 v (8 * k + m) (bbl (rowTo bs (8 * k + m))) ∧ v.ownBlock ≠ none) (fun _ _ j _ => 8 - (intOf j).toNat)
      case atStart => exact ⟨0, x, by omega, hx, rfl, rfl, Lib.hid (by simp), ho, hsm⟩
      case round =>
        obtain ⟨m, z, hm, hz, rfl, rfl, Hz, ho2, hsm2⟩ := hrel
        by_cases hm8 : m < 8
        · go_wp2_with (at_builtin; refine wpList_app1 rfl (.tmp 18) (.tmp 22) _ rfl 4 i0 _ 1 Try.underlying42 hi0 hz0 hz1 hz2 rfl _ rfl rfl ho2 rfl (by simp only [maxLen]; omega) (by omega) ?_; intro v' w' ho3 hmv)
          go_roundw
          case rel =>
            refine ⟨m + 1, z / 2, by omega, by omega, by go_num, by go_num, Lib.hid (by rw [Hz.out, Nat.pow_succ, Nat.div_div_eq_div_mul]), ?_, hmv.some_ hsm2⟩
            have hbit : bitAt bs (8 * k + m) = z % 2 := by
              unfold bitAt
              rw [show (8 * k + m) / 8 = k by omega, show (8 * k + m) % 8 = m by omega, Hx.out, Hz.out]
            rw [← Nat.add_assoc, rowTo_succ, hbit]
            have e : ((z : Int) % 2 == 1) = decide (z % 2 = 1) := by
              rw [Bool.eq_iff_iff, beq_iff_eq, decide_eq_true_iff]; omega
            rw [e] at ho3
            simpa [bbl] using ho3
          case measure => simp [intOf]; omega
        · obtain rfl : m = 8 := by omega
          go_wp2_with fail
          go_roundw
          case rel => exact ⟨k + 1, by omega, by go_num, by rw [show 8 * (k + 1) = 8 * k + 8 by omega]; exact ho2, hsm2⟩
          case measure => simp [intOf]; omega
    · obtain rfl : k = n := by omega
      go_wp2_with fail
      go_ret
      exact GivesB.mk_ ho hsm

set_option maxHeartbeats 1000000 in
theorem ref_number (D : Nat → Prop) (A : Option Addr) (n c : Nat) (l : List Bool) (W : World) (hr : Rd W D 1 A n (bbl l)) (hl : l.length = n) (hn : n ≤ 32) :
    Calls Try.prog 37 #[.slice A n c] W fun e w' => e = .returned (.int .u32 (numOf l : Int)) ∧ W = w' := by
  have Hl := Lib.hid hl
  clear hl
  go_enter Try.func37, Try.ntmps37
  go_wp2_with fail
  go_loop [3, 4] (fun v i => ∃ j z : Nat, j ≤ n ∧ z < 2 ^ j ∧ i = .int .i64 ((n : Int) - 1 - j) ∧ v = .int .u32 (z : Int) ∧ Hid (z = numOf (l.drop (n - j)))) (fun _ i => (intOf i + 1).toNat)
  case atStart => exact ⟨0, 0, by omega, by simp, by simp, rfl, Lib.hid (by rw [List.drop_of_length_le (by rw [Hl.out]; omega)]; rfl)⟩
  case round =>
    obtain ⟨j, z, hj, hz, rfl, rfl, Hz⟩ := hrel
    by_cases hjn : j < n
    · have hp : (2 : Nat) ^ j ≤ 2 ^ 31 := Nat.pow_le_pow_right (by omega) (by omega)
      have hz2 : z < 2147483648 := by omega
      obtain ⟨ad, u, rfl, hDa, hu, hc⟩ := hr.at_ (k := n - 1 - j) (by omega)
      have hlt : n - 1 - j < l.length := by rw [Hl.out]; omega
      have hu2 : u = .bool l[n - 1 - j] := by
        simp [bbl, List.getElem?_eq_getElem hlt] at hu
        exact hu.symm
      subst hu2
      have hstep : numOf (l.drop (n - (j + 1))) = b2n l[n - 1 - j] + 2 * numOf (l.drop (n - j)) := by
        rw [show n - (j + 1) = n - 1 - j by omega, List.drop_eq_getElem_cons hlt, show n - 1 - j + 1 = n - j by omega]
        rfl
      generalize l[n - 1 - j] = b at *
      have Hs := Lib.hid hstep
      have hz3 : b2n b + 2 * z < 2 ^ (j + 1) := by have := b2n_lt b; rw [Nat.pow_succ]; omega
      clear hstep hu hz hp
      have hi0 : (0 : Int) ≤ (n : Int) - 1 - (j : Int) := by omega
      have ha : ((n : Int) - 1 - (j : Int)).toNat = n - 1 - j := by omega
      cases b
      · go_wp2_with fail
        go_round
        case rel => exact ⟨j + 1, 2 * z, by omega, by simpa [b2n] using hz3, by go_num, by go_num, Lib.hid (by rw [Hs.out, Hz.out]; simp [b2n])⟩
        case measure => simp [intOf]; omega
      · go_wp2_with fail
        go_round
        case rel => exact ⟨j + 1, 1 + 2 * z, by omega, by simpa [b2n] using hz3, by go_num, by go_num, Lib.hid (by rw [Hs.out, Hz.out]; simp [b2n])⟩
        case measure => simp [intOf]; omega
    · obtain rfl : j = n := by omega
      go_wp2_with fail
      go_ret
      exact ⟨by rw [Hz.out]; simp, rfl⟩
end Go.Proofs.Ytgbjbhghifildaa
