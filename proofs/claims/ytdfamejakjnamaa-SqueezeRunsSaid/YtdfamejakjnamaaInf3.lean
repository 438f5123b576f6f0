/- inflate's reader: length, distance, table, fixed. Conditions: a limit of at most 65536. -/
import Derived.Test.YtdfamejakjnamaaInf2
import Derived.Deep.RegionWith
import Derived.IntWalk
namespace Go.Proofs.Ytdfamejakjnamaa
open Go.RowKit
set_option linter.unusedVariables false

section
variable {K : Nat → Prop} {w w' : World} {r g h : Nat} {bs : List Nat} {most : Int} {s : Inf} {vo : Value}
theorem InfIs.drew (m : InfIs K w r g h bs most s) : InfIs K w.drew r g h bs most s := m.nx ((Ch.refl _ w).drew)
theorem InfTo.of_drew (m : InfTo K w.drew r g h bs most s w') : InfTo K w r g h bs most s w' := ⟨m.1, ((Ch.refl _ w).drew).trans m.2 fun _ _ h => h⟩

set_option maxHeartbeats 1000000 in
theorem inf_length (m : InfIs K w r g h bs most s) (k : Nat) (hk : k < 29) :
    Calls Try.prog 54 #[.pointer (some ⟨r, 0, none⟩), .int .i64 (k : Int)] w fun en w' => en = .returned (.int .i64 ((lengthF bs k s).1 : Int)) ∧ InfTo K w r g h bs most (lengthF bs k s).2 w' := by
  by_cases h8 : k < 8
  · have hf : lengthF bs k s = (k + 3, s) := by unfold lengthF; rw [if_pos h8]
    have Hf := Lib.hid hf
    clear hf
    go_enter Try.func54, Try.ntmps54
    go_wp2_with fail
    go_ret
    rw [Hf.out]
    exact ⟨by simp, m, Ch.refl _ _⟩
  · by_cases h28 : k = 28
    · subst h28
      go_enter Try.func54, Try.ntmps54
      go_wp2_with fail
      go_ret
      exact ⟨rfl, m, Ch.refl _ _⟩
    · have hf : lengthF bs k s = (3 + (4 + k % 4) * 2 ^ (k / 4 - 1) + (numF bs (k / 4 - 1) s).1, (numF bs (k / 4 - 1) s).2) := by unfold lengthF; rw [if_neg h8, if_neg h28]
      obtain ⟨y, hy⟩ : ∃ y, k / 4 - 1 = y := ⟨_, rfl⟩
      obtain ⟨z, hz⟩ : ∃ z, k % 4 = z := ⟨_, rfl⟩
      rw [hy, hz] at hf
      have hy2 : (k : Int) / 4 - 1 = (y : Int) := by omega
      have hz2 : (k : Int) % 4 = (z : Int) := by omega
      have hy5 : y ≤ 5 := by omega
      have hz3 : z < 4 := by omega
      have h28' : ((k : Int) == 28) = false := by rw [beq_eq_false_iff_ne]; omega
      have hk0 : (0 : Int) ≤ (k : Int) := by omega
      have hp : (2 : Nat) ^ y ≤ 2 ^ 5 := Nat.pow_le_pow_right (by omega) hy5
      have hp1 : (0 : Int) ≤ (4 + (z : Int)) * 2 ^ y := Int.mul_nonneg (by omega) (Int.pow_nonneg (by omega))
      have hp2 : (4 + (z : Int)) * 2 ^ y ≤ 256 := by
        have : (4 + z) * 2 ^ y ≤ 7 * 2 ^ 5 := Nat.mul_le_mul (by omega) hp
        have h3 : (((4 + z) * 2 ^ y : Nat) : Int) ≤ ((7 * 2 ^ 5 : Nat) : Int) := by omega
        simp at h3 ⊢
        omega
      have hbq := numF_lt bs y s
      have hbq2 : (numF bs y s).1 < 32 := by omega
      have Hf := Lib.hid hf
      have hv0 : (0 : Int) ≤ ((numF bs y s).1 : Int) := by omega
      have hv1 : ((numF bs y s).1 : Int) < 32 := by omega
      have ht : (k : Int).tmod 4 = (z : Int) := by rw [Int.tmod_eq_emod_of_nonneg hk0, hz2]
      have w1 : IntKind.i64.wrap (4 + (z : Int)) = 4 + (z : Int) := IntWalk.i64_in _ (by omega)
      have w2 : IntKind.i64.wrap ((4 + (z : Int)) * 2 ^ y) = (4 + (z : Int)) * 2 ^ y := IntWalk.i64_in _ (by omega)
      have w3 : IntKind.i64.wrap (3 + (4 + (z : Int)) * 2 ^ y) = 3 + (4 + (z : Int)) * 2 ^ y := IntWalk.i64_in _ (by omega)
      have w4 : IntKind.i64.wrap (3 + (4 + (z : Int)) * 2 ^ y + ((numF bs y s).1 : Int)) = 3 + (4 + (z : Int)) * 2 ^ y + ((numF bs y s).1 : Int) := IntWalk.i64_in _ (by omega)
      clear hf hy hz h28 hbq hp hz2
      go_enter Try.func54, Try.ntmps54
      go_wp2_with fail
      go_region_with (go_at_call 33; refine (inf_num m.drew y (by omega)).mono ?_; rintro e w1 ⟨rfl, m1⟩)
      all_goals go_wp2_with fail
      all_goals go_ret
      all_goals rw [Hf.out]
      all_goals exact ⟨by simp [Act.put], m1.of_drew⟩

set_option maxRecDepth 100000 in
set_option maxHeartbeats 1000000 in
theorem inf_distance (m : InfIs K w r g h bs most s) (k : Nat) (hk : k < 30) :
    Calls Try.prog 55 #[.pointer (some ⟨r, 0, none⟩), .int .i64 (k : Int)] w fun en w' => en = .returned (.int .i64 ((distF bs k s).1 : Int)) ∧ InfTo K w r g h bs most (distF bs k s).2 w' := by
  by_cases h8 : k < 2
  · have hf : distF bs k s = (k + 1, s) := by unfold distF; rw [if_pos h8]
    have Hf := Lib.hid hf
    clear hf
    go_enter Try.func55, Try.ntmps55
    go_wp2_with fail
    go_ret
    rw [Hf.out]
    exact ⟨by simp, m, Ch.refl _ _⟩
  · have hf : distF bs k s = (1 + (2 + k % 2) * 2 ^ (k / 2 - 1) + (numF bs (k / 2 - 1) s).1, (numF bs (k / 2 - 1) s).2) := by unfold distF; rw [if_neg h8]
    obtain ⟨y, hy⟩ : ∃ y, k / 2 - 1 = y := ⟨_, rfl⟩
    obtain ⟨z, hz⟩ : ∃ z, k % 2 = z := ⟨_, rfl⟩
    rw [hy, hz] at hf
    have hy2 : (k : Int) / 2 - 1 = (y : Int) := by omega
    have hz2 : (k : Int) % 2 = (z : Int) := by omega
    have hy5 : y ≤ 13 := by omega
    have hz3 : z < 2 := by omega
    have hk0 : (0 : Int) ≤ (k : Int) := by omega
    have hp : (2 : Nat) ^ y ≤ 2 ^ 13 := Nat.pow_le_pow_right (by omega) hy5
    have hp1 : (0 : Int) ≤ (2 + (z : Int)) * 2 ^ y := Int.mul_nonneg (by omega) (Int.pow_nonneg (by omega))
    have hp2 : (2 + (z : Int)) * 2 ^ y ≤ 30000 := by
      have : (2 + z) * 2 ^ y ≤ 3 * 2 ^ 13 := Nat.mul_le_mul (by omega) hp
      have h3 : (((2 + z) * 2 ^ y : Nat) : Int) ≤ ((3 * 2 ^ 13 : Nat) : Int) := by omega
      simp at h3 ⊢
      omega
    have hbq := numF_lt bs y s
    have hbq2 : (numF bs y s).1 < 8192 := by omega
    have Hf := Lib.hid hf
    have hv0 : (0 : Int) ≤ ((numF bs y s).1 : Int) := by omega
    have hv1 : ((numF bs y s).1 : Int) < 8192 := by omega
    have ht : (k : Int).tmod 2 = (z : Int) := by rw [Int.tmod_eq_emod_of_nonneg hk0, hz2]
    have w1 : IntKind.i64.wrap (2 + (z : Int)) = 2 + (z : Int) := IntWalk.i64_in _ (by omega)
    have w2 : IntKind.i64.wrap ((2 + (z : Int)) * 2 ^ y) = (2 + (z : Int)) * 2 ^ y := IntWalk.i64_in _ (by omega)
    have w3 : IntKind.i64.wrap (1 + (2 + (z : Int)) * 2 ^ y) = 1 + (2 + (z : Int)) * 2 ^ y := IntWalk.i64_in _ (by omega)
    have w4 : IntKind.i64.wrap (1 + (2 + (z : Int)) * 2 ^ y + ((numF bs y s).1 : Int)) = 1 + (2 + (z : Int)) * 2 ^ y + ((numF bs y s).1 : Int) := IntWalk.i64_in _ (by omega)
    clear hf hy hz hbq hp hz2 hbq2
    go_enter Try.func55, Try.ntmps55
    go_wp2_with fail
    go_region_with (go_at_call 33; refine (inf_num m.drew y (by omega)).mono ?_; rintro e w1 ⟨rfl, m1⟩)
    all_goals go_wp2_with fail
    all_goals go_ret
    all_goals rw [Hf.out]
    all_goals exact ⟨by simp [Act.put], m1.of_drew⟩

/-- a table that Make has made: in blocks of its own -/
def TblNew (W w : World) (D : Nat → Prop) (t : Nat) (zs : List Int) : Prop := TblIs w D t zs ∧ ∀ k, D k → W.heap.size ≤ k ∧ k < w.heap.size
set_option maxHeartbeats 1000000 in
theorem inf_table_ok (m : InfIs K w r g h bs most s) (D : Nat → Prop) (A : Option Addr) (n c : Nat) (zs : List Int) (hr : Rd w D 1 A n (il zs)) (hl : zs.length = n) (he : mkErr zs = 0) :
    Calls Try.prog 38 #[.pointer (some ⟨r, 0, none⟩), .slice A n c] w fun en w' => ∃ t, en = .returned (.pointer (some ⟨t, 0, none⟩)) ∧ InfTo K w r g h bs most s w' ∧ TblIs w' (fun k => w.heap.size ≤ k ∧ k < w'.heap.size) t zs ∧ Nx w w' := by
  have hn : n ≤ 320 := by have := (mkErr_ok he).1; omega
  have He := Lib.hid he
  have Hl := Lib.hid hl
  clear he hl
  go_enter Try.func38, Try.ntmps38
  go_wp2_with fail
  with_reducible refine (make_ok D A n c zs _ hr Hl.out hn He.out).mono ?_
  rintro e w1 ⟨t, rfl, ht, n1⟩
  go_wp2_with fail
  go_ret
  exact ⟨t, rfl, ⟨m.nx n1, n1.mono fun _ _ hf => hf.elim⟩, ht, n1⟩
set_option maxHeartbeats 1000000 in
theorem inf_table_bad (m : InfIs K w r g h bs most s) (D : Nat → Prop) (A : Option Addr) (n c : Nat) (zs : List Int) (hr : Rd w D 1 A n (il zs)) (hl : zs.length = n) (hn : n ≤ 320) (he : mkErr zs ≠ 0) :
    Calls Try.prog 38 #[.pointer (some ⟨r, 0, none⟩), .slice A n c] w fun en w' => en = .returned (.pointer none) ∧ InfTo K w r g h bs most (failF 4 s) w' := by
  have he2 : (mkErr zs != 0) = true := by rw [bne_iff_ne]; exact he
  have He := Lib.hid he
  have Hl := Lib.hid hl
  clear he hl
  go_enter Try.func38, Try.ntmps38
  go_wp2_with fail
  with_reducible refine (make_err D A n c zs _ hr Hl.out hn He.out).mono ?_
  rintro e w1 ⟨rfl, n1⟩
  go_wp2_with fail
  refine (inf_fail (m.nx n1) 4).mono ?_
  rintro e w2 ⟨rfl, m2, c2⟩
  go_wp2_with fail
  go_ret
  exact ⟨rfl, m2, ((n1.mono fun _ _ hf => hf.elim : Ch (fun k => ¬ K k) w w1)).trans c2 fun _ _ h => h⟩
end
end Go.Proofs.Ytdfamejakjnamaa
