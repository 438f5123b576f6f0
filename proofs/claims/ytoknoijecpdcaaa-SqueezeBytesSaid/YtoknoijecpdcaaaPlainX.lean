/- Words of a prefix code as texts of 0 and 1. No program in sight. -/
import Derived.Test.YtoknoijecpdcaaaPlainS
namespace Go.Proofs.Ytoknoijecpdcaaa

def chr (b : Bool) : UInt8 := if b then 49 else 48
/-- a row of bits as a text -/
def txt (l : List Bool) : ByteArray := ⟨(l.map chr).toArray⟩
theorem txt_size (l : List Bool) : (txt l).size = l.length := by simp [txt, ByteArray.size]
theorem txt_get (l : List Bool) (i : Nat) (h : i < (txt l).size) : (txt l)[i] = chr (l[i]'(by rw [txt_size] at h; exact h)) := by
  show (txt l).data[i] = _
  simp [txt]
theorem chr_nat (b : Bool) : (chr b).toNat = 48 + b2n b := by cases b <;> rfl
theorem txt_inj {l m : List Bool} (h : txt l = txt m) : l = m := by
  have h2 := congrArg (fun x : ByteArray => x.data.toList) h
  simp only [txt] at h2
  have hc : ∀ a b, chr a = chr b → a = b := by decide
  exact List.map_inj_right hc |>.1 (by simpa using h2)
/-- the number of a row of bits -/
def numOf (l : List Bool) (k : Nat) : Nat := msb (fun i => b2n (l.getD i false)) k
theorem numOf_code {v n : Nat} (h : v < 2 ^ n) : numOf (codeBits v n) n = v := by
  unfold numOf
  rw [msb_code (v := v) (n := n) (fun i hi => by rw [codeBits_test]; simp [List.getD, hi]) n (Nat.le_refl _), Nat.sub_self, Nat.pow_zero, Nat.div_one]
  exact Nat.mod_eq_of_lt h
theorem test_set {x j : Nat} (h : x.testBit j = false) (t : Nat) : (x + 2 ^ j).testBit t = if t = j then true else x.testBit t := by
  have hx : x = 2 ^ (j + 1) * (x / 2 ^ (j + 1)) + x % 2 ^ (j + 1) := (Nat.div_add_mod x (2 ^ (j + 1))).symm
  have hr : x % 2 ^ (j + 1) < 2 ^ j := by
    have h1 : x % 2 ^ (j + 1) < 2 ^ (j + 1) := Nat.mod_lt _ (Nat.two_pow_pos _)
    have h2 : (x % 2 ^ (j + 1)).testBit j = false := by rw [Nat.testBit_mod_two_pow, h]; simp
    refine Classical.byContradiction fun h3 => ?_
    have h4 : (x % 2 ^ (j + 1)).testBit j = true := by
      obtain ⟨y, hy⟩ : ∃ y, x % 2 ^ (j + 1) = 2 ^ j + y := ⟨x % 2 ^ (j + 1) - 2 ^ j, by omega⟩
      have hy2 : y < 2 ^ j := by rw [Nat.pow_succ] at h1; omega
      rw [hy, Nat.testBit_two_pow_add_eq, Nat.testBit_lt_two_pow hy2]
      rfl
    rw [h2] at h4
    cases h4
  generalize x / 2 ^ (j + 1) = a at *
  generalize x % 2 ^ (j + 1) = r at *
  subst hx
  have hp : (2 : Nat) ^ (j + 1) = 2 * 2 ^ j := by rw [Nat.pow_succ]; omega
  rw [Nat.add_assoc, Nat.testBit_two_pow_mul_add _ (by omega), Nat.testBit_two_pow_mul_add _ (by omega)]
  by_cases e : t = j
  · subst e
    rw [if_pos (by omega), if_pos rfl, Nat.add_comm r, Nat.testBit_two_pow_add_eq, Nat.testBit_lt_two_pow hr]
    rfl
  · rw [if_neg e]
    by_cases hl : t < j + 1
    · rw [if_pos hl, if_pos hl, Nat.add_comm r, Nat.testBit_two_pow_add_gt (by omega)]
    · rw [if_neg hl, if_neg hl]
/-- a bit set -/
theorem code_set {x j n : Nat} (hj : j < n) (h : x.testBit j = false) : (codeBits x n).set (n - 1 - j) true = codeBits (x + 2 ^ j) n := by
  rw [codeBits_test, codeBits_test]
  apply List.ext_getElem
  · simp
  · intro i h1 h2
    have hi : i < n := by simpa using h2
    rw [List.getElem_set]
    simp only [List.getElem_map, List.getElem_range]
    rw [test_set h]
    by_cases e : n - 1 - j = i
    · rw [if_pos e, if_pos (by omega)]
    · rw [if_neg e, if_neg (by omega)]
/-- a bit struck -/
theorem code_strike {x j n : Nat} (hj : j < n) (h : x.testBit j = false) : (codeBits (x + 2 ^ j) n).set (n - 1 - j) false = codeBits x n := by
  rw [codeBits_test, codeBits_test]
  apply List.ext_getElem
  · simp
  · intro i h1 h2
    have hi : i < n := by simpa using h2
    rw [List.getElem_set]
    simp only [List.getElem_map, List.getElem_range]
    rw [test_set h]
    by_cases e : n - 1 - j = i
    · rw [if_pos e, ← e, show n - 1 - (n - 1 - j) = j by omega, h]
    · rw [if_neg e, if_neg (by omega)]
theorem bit_split {x j : Nat} (h : x.testBit j = true) : ∃ y, x = y + 2 ^ j ∧ y.testBit j = false := by
  have hle : 2 ^ j ≤ x := Nat.ge_two_pow_of_testBit h
  refine ⟨x - 2 ^ j, by omega, ?_⟩
  obtain ⟨y, rfl⟩ : ∃ y, x = y + 2 ^ j := ⟨x - 2 ^ j, by omega⟩
  rw [Nat.add_sub_cancel]
  rw [Nat.testBit_eq_decide_div_mod_eq, Nat.add_div_right _ (Nat.two_pow_pos j)] at h
  rw [Nat.testBit_eq_decide_div_mod_eq]
  simp at h ⊢
  omega
end Go.Proofs.Ytoknoijecpdcaaa
