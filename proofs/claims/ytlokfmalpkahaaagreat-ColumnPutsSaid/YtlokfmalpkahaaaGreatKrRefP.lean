/- The contracts of entrepotref02's Number, Put and Bytes. Conditions: lengths within the reach. -/
import Derived.Test.YtlokfmalpkahaaaGreatKrQ2
import Derived.Test.YtlokfmalpkahaaaGreatKrBitsN
namespace Go.Proofs.YtlokfmalpkahaaaGreat.R2
open Go.RowKit
set_option linter.unusedVariables false
set_option maxRecDepth 100000
theorem Tryz.infoB : (Tryz.prog.info? 4).map (fun i => (i.zero, i.size, i.bytes)) = some (some (.bool false), 1, 1) := by kernel_rfl

def bbl (l : List Bool) : List Value := l.map Value.bool
theorem bbl_length (l : List Bool) : (bbl l).length = l.length := by simp [bbl]
theorem bbl_one (l : List Bool) : ∀ u ∈ bbl l, u.oneCell' = true := by
  intro u hu
  simp only [bbl, List.mem_map] at hu
  obtain ⟨x, _, rfl⟩ := hu
  rfl
/-- the first n bits of bytes -/
def rowTo (bs : List Nat) (n : Nat) : List Bool := (List.range n).map fun i => decide (bitAt bs i = 1)
theorem rowTo_succ (bs : List Nat) (n : Nat) : rowTo bs (n + 1) = rowTo bs n ++ [decide (bitAt bs n = 1)] := by simp [rowTo, List.range_succ]
theorem rowTo_length (bs : List Nat) (n : Nat) : (rowTo bs n).length = n := by simp [rowTo]
/-- the number whose bits stand from the lowest on -/
def numOf : List Bool → Nat
  | [] => 0
  | b :: l => b2n b + 2 * numOf l
theorem numOf_lt (l : List Bool) : numOf l < 2 ^ l.length := by
  induction l with
  | nil => simp [numOf]
  | cons b l ih =>
    have := b2n_lt b
    simp only [numOf, List.length_cons, Nat.pow_succ]
    omega
theorem numOf_append (l m : List Bool) : numOf (l ++ m) = numOf l + 2 ^ l.length * numOf m := by
  induction l with
  | nil => simp [numOf]
  | cons b l ih =>
    simp only [List.cons_append, numOf, ih, List.length_cons, Nat.pow_succ, Nat.mul_add]
    rw [Nat.mul_comm (2 ^ l.length) 2, Nat.mul_assoc]
    omega
theorem numOf_row (bs : List Nat) (p m N : Nat) (h : p + m ≤ N) : numOf (((rowTo bs N).drop p).take m) = bval bs p m := by
  induction m with
  | zero => simp [numOf, bval]
  | succ m ih =>
    have hl : p + m < (rowTo bs N).length := by rw [rowTo_length]; omega
    have e : ((rowTo bs N).drop p).take (m + 1) = ((rowTo bs N).drop p).take m ++ [decide (bitAt bs (p + m) = 1)] := by
      rw [List.take_succ_eq_append_getElem (by simp [rowTo_length]; omega)]
      simp [rowTo]
    rw [e, numOf_append, ih (by omega)]
    have hlen : (((rowTo bs N).drop p).take m).length = m := by simp [rowTo_length]; omega
    rw [hlen]
    simp only [bval, numOf]
    have := bitAt_lt bs (p + m)
    have e2 : b2n (decide (bitAt bs (p + m) = 1)) = bitAt bs (p + m) := by
      unfold b2n
      by_cases h : bitAt bs (p + m) = 1 <;> simp [h]
      omega
    rw [e2]
    simp [Nat.mul_comm]
set_option maxHeartbeats 1000000 in
theorem ref_number (D : Nat → Prop) (A : Option Addr) (n c : Nat) (l : List Bool) (W : World) (hr : Rd W D 1 A n (bbl l)) (hl : l.length = n) (hn : n ≤ 32) :
    Calls Tryz.prog 92 #[.slice A n c] W fun e w' => e = .returned (.int .u32 (numOf l : Int)) ∧ W = w' := by
  have Hl := Lib.hid hl
  clear hl
  go_enter Tryz.func92, Tryz.ntmps92
  go_wp2_with fail
  go_loop [3, 4] (fun v i => ∃ j z : Nat, j ≤ n ∧ z < 2 ^ j ∧ i = .int .i64 ((n : Int) - 1 - j) ∧ v = .int .u32 (z : Int) ∧ Hid (z = numOf (l.drop (n - j)))) (fun _ i => (intOf i + 1).toNat)
  case atStart => exact ⟨0, 0, by omega, by simp, by simp, rfl, Lib.hid (by rw [List.drop_of_length_le (by rw [Hl.out]; omega)]; rfl)⟩
  case round =>
    obtain ⟨j, z, hj, hz, rfl, rfl, Hz⟩ := hrel
    by_cases hjn : j < n
    · have hp : (2 : Nat) ^ j ≤ 2 ^ 31 := Nat.pow_le_pow_right (by omega) (by omega)
      have hz2 : z < 2147483648 := by omega
      obtain ⟨ad, u, rfl, hDa, hu, hc⟩ := hr.at_ (k := n - 1 - j) (by omega)
      have hlt : n - 1 - j < l.length := by rw [Hl.out]; omega
      have hu2 : u = .bool l[n - 1 - j] := by
        simp [bbl, List.getElem?_eq_getElem hlt] at hu
        exact hu.symm
      subst hu2
      have hstep : numOf (l.drop (n - (j + 1))) = b2n l[n - 1 - j] + 2 * numOf (l.drop (n - j)) := by
        rw [show n - (j + 1) = n - 1 - j by omega, List.drop_eq_getElem_cons hlt, show n - 1 - j + 1 = n - j by omega]
        rfl
      generalize l[n - 1 - j] = b at *
      have Hs := Lib.hid hstep
      have hz3 : b2n b + 2 * z < 2 ^ (j + 1) := by have := b2n_lt b; rw [Nat.pow_succ]; omega
      clear hstep hu hz hp
      have hi0 : (0 : Int) ≤ (n : Int) - 1 - (j : Int) := by omega
      have ha : ((n : Int) - 1 - (j : Int)).toNat = n - 1 - j := by omega
      cases b
      · go_wp2_with fail
        go_round
        case rel => exact ⟨j + 1, 2 * z, by omega, by simpa [b2n] using hz3, by go_num, by go_num, Lib.hid (by rw [Hs.out, Hz.out]; simp [b2n])⟩
        case measure => simp [intOf]; omega
      · go_wp2_with fail
        go_round
        case rel => exact ⟨j + 1, 1 + 2 * z, by omega, by simpa [b2n] using hz3, by go_num, by go_num, Lib.hid (by rw [Hs.out, Hz.out]; simp [b2n])⟩
        case measure => simp [intOf]; omega
    · obtain rfl : j = n := by omega
      go_wp2_with fail
      go_ret
      exact ⟨by rw [Hz.out]; simp, rfl⟩

/-- how many elements a slice value has -/
def lenOf : Value → Nat | .slice _ n _ => n | _ => 0
/-- the bits that a put adds -/
def putted (code : Bool) (v n k : Nat) : List Bool := if code then codeTo v n k else numBits v k
theorem putted_succ (code : Bool) (v n k : Nat) : putted code v n (k + 1) = putted code v n k ++ [decide (v / 2 ^ (if code then n - 1 - k else k) % 2 = 1)] := by
  unfold putted
  cases code
  · exact numBits_succ v k
  · exact codeTo_succ v n k
set_option maxHeartbeats 2000000 in
theorem ref_put (D : Nat → Prop) (A : Option Addr) (N c : Nat) (l : List Bool) (v n : Nat) (code : Bool) (W : World) (hr : Rd W D 1 A N (bbl l)) (hl : l.length = N) (hN : N ≤ 1000000000) (hv : v < 4294967296) (hn : n ≤ 32) :
    Calls Tryz.prog 117 #[.slice A N c, .int .u32 (v : Int), .int .i64 (n : Int), .bool code] W (GivesB W 4 1 (N + n) (bbl (l ++ putted code v n n))) := by
  obtain ⟨i0, hi0, hz0, hz1, hz2⟩ := info_parts Tryz.infoB
  have hlit := OwnS.lit W W 4 (Ch.refl _ W) 1
  have hr' : Rd (W.alloc (.cells #[] 4)) D 1 A N (bbl l) := hr.nx (by omega) ((Ch.refl _ W).alloc _)
  have Hl := Lib.hid hl
  clear hl hr
  go_enter Tryz.func117, Tryz.ntmps117
  go_wp2_with (at_builtin; refine wpList_appN rfl (.tmp 14) (.tmp 15) _ rfl 4 i0 _ 1 1 Tryz.underlying24 hi0 hz0 hz1 hz2 rfl (by omega) (v := .slice (some ⟨W.heap.size, 0, none⟩) 0 0) rfl hlit D A N c (bbl l) rfl hr' (bbl_one l) (by simp only [maxLen]; omega) (by omega) ?_; intro v' w' ho hm; have hsm := hm.some_ (by simp [Value.ownBlock]))
  simp only [Nat.zero_add, List.nil_append] at ho
  clear hlit hr' hm
  go_loopw [9, 10] (fun u i wr => ∃ k : Nat, k ≤ n ∧ i = .int .i64 k ∧ OwnS W wr 4 1 u (N + k) (bbl (l ++ putted code v n k)) ∧ u.ownBlock ≠ none) (fun _ i _ => n - (intOf i).toNat)
  case atStart => exact ⟨0, by omega, rfl, by cases code <;> simpa [putted, codeTo, numBits] using ho, hsm⟩
  case round =>
    obtain ⟨k, hk, rfl, ho1, hs1⟩ := hrel
    clear ho hsm
    obtain ⟨wo, rfl⟩ : ∃ wo : World, wo = wr := ⟨_, rfl⟩
    by_cases hlt : k < n
    · have hsucc := putted_succ code v n k
      have Hs := Lib.hid hsucc
      clear hsucc
      have k0 : (0 : Int) ≤ (n : Int) - 1 - (k : Int) := by omega
      obtain ⟨K, hK, HK⟩ : ∃ K : Nat, K ≤ 32 ∧ Hid (K = if code = true then n - 1 - k else k) := ⟨if code then n - 1 - k else k, by split <;> omega, rfl⟩
      cases code
      · have HK2 : K = k := HK.out
        subst HK2
        go_wp2_with fail
        go_loop [12, 13] (fun x j => ∃ m z : Nat, m ≤ K ∧ z < 4294967296 ∧ j = .int .i64 m ∧ x = .int .u32 (z : Int) ∧ Hid (z = v / 2 ^ m)) (fun _ j => K - (intOf j).toNat)
        case atStart => exact ⟨0, v, by omega, hv, rfl, rfl, Lib.hid (by simp)⟩
        case round =>
          obtain ⟨m, z, hm, hz, rfl, rfl, Hz⟩ := hrel
          by_cases hmk : m < K
          · go_wp2_with fail
            go_round
            case rel => exact ⟨m + 1, z / 2, by omega, by omega, by go_num, by go_num, Lib.hid (by rw [Hz.out, Nat.pow_succ, Nat.div_div_eq_div_mul])⟩
            case measure => simp [intOf]; omega
          · obtain rfl : m = K := by omega
            go_wp2_with (at_builtin; refine wpList_app1 rfl (.tmp 36) (.tmp 40) _ rfl 4 i0 _ 1 Tryz.underlying24 hi0 hz0 hz1 hz2 rfl _ rfl rfl ho1 rfl (by simp only [maxLen]; omega) (by omega) ?_; intro v' w' ho3 hmv)
            go_roundw
            case rel =>
              refine ⟨m + 1, by omega, by go_num, ?_, hmv.some_ hs1⟩
              have e : ((z : Int) % 2 == 1) = decide (z % 2 = 1) := by rw [Bool.eq_iff_iff, beq_iff_eq, decide_eq_true_iff]; omega
              rw [e] at ho3
              have hs2 := Hs.out
              simp only [Bool.false_eq_true, if_false] at hs2
              rw [hs2, ← Hz.out, ← List.append_assoc]
              simpa [bbl, Nat.add_assoc] using ho3
            case measure => simp [intOf]; omega
      · have HK2 : K = n - 1 - k := HK.out
        have hKi : ((n : Int) - 1 - (k : Int)) = (K : Int) := by omega
        have HK3 := Lib.hid HK2
        clear HK2 HK
        go_wp2_with fail
        go_loop [12, 13] (fun x j => ∃ m z : Nat, m ≤ K ∧ z < 4294967296 ∧ j = .int .i64 m ∧ x = .int .u32 (z : Int) ∧ Hid (z = v / 2 ^ m)) (fun _ j => K - (intOf j).toNat)
        case atStart => exact ⟨0, v, by omega, hv, rfl, rfl, Lib.hid (by simp)⟩
        case round =>
          obtain ⟨m, z, hm, hz, rfl, rfl, Hz⟩ := hrel
          by_cases hmk : m < K
          · go_wp2_with fail
            go_round
            case rel => exact ⟨m + 1, z / 2, by omega, by omega, by go_num, by go_num, Lib.hid (by rw [Hz.out, Nat.pow_succ, Nat.div_div_eq_div_mul])⟩
            case measure => simp [intOf]; omega
          · obtain rfl : m = K := by omega
            clear hKi
            go_wp2_with (at_builtin; refine wpList_app1 rfl (.tmp 36) (.tmp 40) _ rfl 4 i0 _ 1 Tryz.underlying24 hi0 hz0 hz1 hz2 rfl _ rfl rfl ho1 rfl (by simp only [maxLen]; omega) (by omega) ?_; intro v' w' ho3 hmv)
            go_roundw
            case rel =>
              refine ⟨k + 1, by omega, by go_num, ?_, hmv.some_ hs1⟩
              have e : ((z : Int) % 2 == 1) = decide (z % 2 = 1) := by rw [Bool.eq_iff_iff, beq_iff_eq, decide_eq_true_iff]; omega
              rw [e] at ho3
              have hs2 := Hs.out
              simp only [if_true] at hs2
              rw [hs2, ← HK3.out, ← Hz.out, ← List.append_assoc]
              simpa [bbl, Nat.add_assoc] using ho3
            case measure => simp [intOf]; omega
    · obtain rfl : k = n := by omega
      go_wp2_with fail
      go_ret
      exact GivesB.mk_ ho1 hs1
theorem numOf_byte (l : List Bool) (i k : Nat) : numOf ((l.drop (8 * i)).take k) = byteTo l i k := by
  induction k with
  | zero => simp [numOf, byteTo]
  | succ k ih =>
    simp only [byteTo]
    by_cases h : 8 * i + k < l.length
    · have e : (l.drop (8 * i)).take (k + 1) = (l.drop (8 * i)).take k ++ [l[8 * i + k]] := by
        rw [List.take_succ_eq_append_getElem (by simp; omega)]
        simp
      have hlen : ((l.drop (8 * i)).take k).length = k := by simp; omega
      rw [e, numOf_append, ih, hlen]
      have e3 : l.getD (8 * i + k) false = l[8 * i + k] := by simp [List.getD, h]
      rw [e3]
      simp [numOf, Nat.mul_comm]
    · rw [List.take_of_length_le (by simp; omega), ← ih, List.take_of_length_le (by simp; omega), getD_end l _ false (by omega)]
      simp [b2n]
set_option maxHeartbeats 2000000 in
theorem ref_bytes (D : Nat → Prop) (A : Option Addr) (n c : Nat) (l : List Bool) (W : World) (hr : Rd W D 1 A n (bbl l)) (hl : l.length = n) (hn : n ≤ 1000000000) (hnc : n ≤ c) (hc : c ≤ 9223372036854775807) :
    Calls Tryz.prog 51 #[.slice A n c] W (GivesB W 5 1 (pack l).length (bl (pack l))) := by
  obtain ⟨i0, hi0, hz0, hz1, hz2⟩ := info_parts Tryz.info5
  have hlit := OwnS.lit W W 5 (Ch.refl _ W) 1
  have Hl := Lib.hid hl
  clear hl
  go_enter Tryz.func51, Tryz.ntmps51
  go_wp2_with fail
  go_loopw [3, 4] (fun u i wr => ∃ k : Nat, k ≤ (n + 7) / 8 ∧ i = .int .i64 (8 * (k : Int)) ∧ OwnS W wr 5 1 u k (bl ((pack l).take k)) ∧ u.ownBlock ≠ none) (fun _ i _ => (n + 8) - (intOf i).toNat)
  case atStart => exact ⟨0, by omega, by simp, by simpa [bl] using hlit, by simp [Value.ownBlock]⟩
  case round =>
    obtain ⟨k, hk, rfl, ho, hs⟩ := hrel
    by_cases hlt : 8 * k < n
    · obtain ⟨m, hm, hm8, HM⟩ : ∃ m : Nat, m ≤ 8 ∧ 8 * k + m ≤ n ∧ Hid (m = min 8 (n - 8 * k)) := ⟨min 8 (n - 8 * k), by omega, by omega, rfl⟩
      have hcut := ((hr.nx (by omega) ho.nx).cut (k := 8 * k) (cap := c) (by omega) hnc).take (k := m) (by omega)
      have ebl : ((bbl l).drop (8 * k * 1)).take (m * 1) = bbl ((l.drop (8 * k)).take m) := by simp [bbl, List.map_drop, List.map_take]
      rw [ebl] at hcut
      simp only [Nat.mul_one] at hcut
      rw [if_neg (by omega)] at hcut
      clear ebl
      have hnum : numOf ((l.drop (8 * k)).take m) = byteAt l k := by
        rw [numOf_byte, HM.out]
        unfold byteAt
        by_cases h8 : 8 ≤ n - 8 * k
        · rw [show min 8 (n - 8 * k) = 8 by omega]
        · rw [show min 8 (n - 8 * k) = n - 8 * k by omega]
          exact (byteTo_end' (l := l) (i := k) 8 (by omega) (by rw [Hl.out]; omega)).symm
      have hlt256 := byteAt_lt l k
      have hsucc : bl ((pack l).take (k + 1)) = bl ((pack l).take k) ++ [.int .u8 (byteAt l k : Int)] := by
        have hp : k < (pack l).length := by rw [pack_length, Hl.out]; omega
        rw [List.take_succ_eq_append_getElem hp]
        simp [bl, pack]
      generalize byteAt l k = y at *
      have Hnum := Lib.hid hnum
      have Hsucc := Lib.hid hsucc
      clear hnum hsucc
      by_cases h8 : 8 * k + 8 ≤ n
      · obtain rfl : m = 8 := by have := HM.out; omega
        go_wp2_with fail
        with_reducible refine (ref_number _ _ 8 _ _ _ hcut (by simp [Hl.out]; omega) (by omega)).mono ?_
        rintro e w' ⟨rfl, rfl⟩
        rw [Hnum.out]
        go_wp2_with (at_builtin; refine wpList_app1 rfl (.tmp 12) (.tmp 23) _ rfl 5 i0 _ 1 Tryz.underlying27 hi0 hz0 hz1 hz2 rfl _ rfl rfl ho rfl (by simp only [maxLen]; omega) (by omega) ?_; intro v' w' ho3 hmv)
        go_roundw
        case rel => exact ⟨k + 1, by omega, by go_num, by rw [Hsucc.out]; exact ho3, hmv.some_ hs⟩
        case measure => simp [intOf]; omega
      · obtain rfl : m = n - 8 * k := by have := HM.out; omega
        have hq : ¬ (8 * (k : Int) + 8 ≤ (n : Int)) := by omega
        go_wp2_with fail
        with_reducible refine (ref_number _ _ _ _ _ _ hcut (by simp [Hl.out]) (by omega)).mono ?_
        rintro e w' ⟨rfl, rfl⟩
        rw [Hnum.out]
        go_wp2_with (at_builtin; refine wpList_app1 rfl (.tmp 12) (.tmp 23) _ rfl 5 i0 _ 1 Tryz.underlying27 hi0 hz0 hz1 hz2 rfl _ rfl rfl ho rfl (by simp only [maxLen]; omega) (by omega) ?_; intro v' w' ho3 hmv)
        go_roundw
        case rel => exact ⟨k + 1, by omega, by go_num, by rw [Hsucc.out]; exact ho3, hmv.some_ hs⟩
        case measure => simp [intOf]; omega
    · obtain rfl : k = (n + 7) / 8 := by omega
      go_wp2_with fail
      go_ret
      rw [List.take_of_length_le (by rw [pack_length, Hl.out]; omega)] at ho
      rw [pack_length, Hl.out]
      exact GivesB.mk_ ho hs
end Go.Proofs.YtlokfmalpkahaaaGreat.R2
