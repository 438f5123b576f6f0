/- The rows of words of a prefix code as texts, while they are made. No program in sight. -/
import Derived.Test.YtoknoijecpdcaaaPlainX
namespace Go.Proofs.Ytoknoijecpdcaaa

theorem txt_nil : txt [] = ⟨#[]⟩ := by simp [txt]
theorem txt_zero (l : List Bool) : txt l ++ ⟨#[48]⟩ = txt (l ++ [false]) := by
  apply ByteArray.ext
  simp [txt, chr]
theorem txt_empty {l : List Bool} (h : txt l = ⟨#[]⟩) : l = [] := by
  have := txt_size l
  rw [h] at this
  have h0 : (ByteArray.mk #[]).size = 0 := rfl
  rw [h0] at this
  exact List.eq_nil_of_length_eq_zero this.symm
theorem code_zero (v n : Nat) : codeBits v n ++ [false] = codeBits (2 * v) (n + 1) := by
  rw [codeBits_test, codeBits_test]
  apply List.ext_getElem
  · simp
  · intro i h1 h2
    have hi : i < n + 1 := by simpa using h2
    simp only [List.getElem_map, List.getElem_range]
    by_cases e : i < n
    · rw [List.getElem_append_left (by simpa using e)]
      simp only [List.getElem_map, List.getElem_range]
      rw [show n + 1 - 1 - i = (n - 1 - i) + 1 by omega, Nat.testBit_succ, Nat.mul_div_cancel_left _ (by omega : 0 < 2)]
    · obtain rfl : i = n := by omega
      rw [List.getElem_append_right (by simp)]
      simp
theorem code_get (v n i : Nat) (hi : i < (codeBits v n).length) : (codeBits v n)[i] = v.testBit (n - 1 - i) := by
  have h : ∀ l : List Bool, l = codeBits v n → ∀ h : i < l.length, l[i] = v.testBit (n - 1 - i) := by
    intro l hl
    rw [codeBits_test] at hl
    subst hl
    intro h
    simp
  exact h _ rfl hi
/-- the word of a symbol as bits; none: no bits -/
def wordS (zs : List Int) (i : Nat) : List Bool := if 0 < zs.getD i 0 then codeBits (codeW zs i) (lenS zs i) else []
/-- the words as they stand while length j is at symbol s -/
def strAt (zs : List Int) (j s : Nat) : List (List Bool) := (List.range zs.length).map fun i => if (0 < zs.getD i 0 ∧ zs.getD i 0 < (j : Int)) ∨ (zs.getD i 0 = (j : Int) ∧ i < s) then wordS zs i else []
def strs (zs : List Int) : List (List Bool) := (List.range zs.length).map fun i => wordS zs i
theorem strAt_length (zs : List Int) (j s : Nat) : (strAt zs j s).length = zs.length := by simp [strAt]
theorem strs_length (zs : List Int) : (strs zs).length = zs.length := by simp [strs]
theorem strAt_start {zs : List Int} : strAt zs 1 0 = List.replicate zs.length [] := by
  unfold strAt
  rw [List.map_congr_left (g := fun _ => []) (fun i hi => by rw [if_neg (by omega)]), List.map_const']
  simp
theorem strAt_end {zs : List Int} (h : ∀ i, i < zs.length → 0 ≤ zs.getD i 0 ∧ zs.getD i 0 ≤ 15) : strAt zs 16 0 = strs zs := by
  unfold strAt strs
  refine List.map_congr_left fun i hi => ?_
  have := h i (List.mem_range.1 hi)
  by_cases e : zs.getD i 0 = 0
  · rw [if_neg (by omega)]
    unfold wordS
    rw [if_neg (by omega)]
  · rw [if_pos (by omega)]
theorem strAt_next {zs : List Int} (j : Nat) (hj : 0 < j) : strAt zs (j + 1) 0 = strAt zs j zs.length := by
  unfold strAt
  refine List.map_congr_left fun i hi => ?_
  have := List.mem_range.1 hi
  by_cases e : (0 < zs.getD i 0 ∧ zs.getD i 0 < (j : Int)) ∨ (zs.getD i 0 = (j : Int) ∧ i < zs.length)
  · rw [if_pos e, if_pos (by omega)]
  · rw [if_neg e, if_neg (by omega)]
theorem strAt_skip {zs : List Int} (j s : Nat) (hs : s < zs.length) (h : zs[s] ≠ (j : Int)) : strAt zs j (s + 1) = strAt zs j s := by
  unfold strAt
  refine List.map_congr_left fun i hi => ?_
  have hg : zs.getD s 0 = zs[s] := by simp [List.getD, hs]
  by_cases e : i = s
  · subst e
    by_cases e2 : 0 < zs.getD i 0 ∧ zs.getD i 0 < (j : Int)
    · rw [if_pos (.inl e2), if_pos (.inl e2)]
    · rw [if_neg (by omega), if_neg (by omega)]
  · by_cases e2 : (0 < zs.getD i 0 ∧ zs.getD i 0 < (j : Int)) ∨ (zs.getD i 0 = (j : Int) ∧ i < s)
    · rw [if_pos e2, if_pos (by omega)]
    · rw [if_neg e2, if_neg (by omega)]
/-- the number of the next word of length j, where symbol s stands -/
def nextE (zs : List Int) (j s : Nat) : Nat := 2 * endc zs (j - 1) + rank zs j s
theorem codeW_next {zs : List Int} {j s : Nat} (hs : s < zs.length) (h : zs[s] = (j : Int)) : codeW zs s = nextE zs j s ∧ lenS zs s = j := by
  have hg : zs.getD s 0 = zs[s] := by simp [List.getD, hs]
  have e : lenS zs s = j := by unfold lenS; rw [hg, h]; simp
  unfold codeW nextE
  rw [e]
  exact ⟨rfl, rfl⟩
theorem strAt_set {zs : List Int} (j s : Nat) (hs : s < zs.length) (h : zs[s] = (j : Int)) (hj : 0 < j) : strAt zs j (s + 1) = (strAt zs j s).set s (codeBits (nextE zs j s) j) := by
  have hg : zs.getD s 0 = zs[s] := by simp [List.getD, hs]
  obtain ⟨hc, hl⟩ := codeW_next hs h
  apply List.ext_getElem
  · simp [strAt]
  · intro i h1 h2
    rw [List.getElem_set]
    simp only [strAt, List.getElem_map, List.getElem_range]
    by_cases e : s = i
    · subst e
      rw [if_pos rfl, if_pos (.inr ⟨by rw [hg, h], by omega⟩)]
      unfold wordS
      rw [if_pos (by rw [hg, h]; omega), hc, hl]
    · rw [if_neg e]
      by_cases e2 : (0 < zs.getD i 0 ∧ zs.getD i 0 < (j : Int)) ∨ (zs.getD i 0 = (j : Int) ∧ i < s)
      · rw [if_pos e2, if_pos (by omega)]
      · rw [if_neg e2, if_neg (by omega)]
theorem nextE_lt {zs : List Int} (he : endc zs 15 ≤ 32768) {j s : Nat} (hs : s < zs.length) (h : zs[s] = (j : Int)) (hj : 0 < j) (hj15 : j ≤ 15) : nextE zs j s < 2 ^ j := by
  obtain ⟨hc, hl⟩ := codeW_next hs h
  have h1 := codeW_lt hs (by omega)
  have h2 := endc_le he j hj15
  rw [hc, hl] at h1
  omega
theorem nextE_skip {zs : List Int} {j s : Nat} (hs : s < zs.length) (h : zs[s] ≠ (j : Int)) : nextE zs j (s + 1) = nextE zs j s := by
  unfold nextE
  rw [rank_succ zs j s hs, if_neg h]; omega
theorem nextE_step {zs : List Int} {j s : Nat} (hs : s < zs.length) (h : zs[s] = (j : Int)) : nextE zs j (s + 1) = nextE zs j s + 1 := by
  unfold nextE
  rw [rank_succ zs j s hs, if_pos h]; omega
theorem nextE_turn (zs : List Int) (j : Nat) (hj : 0 < j) : nextE zs (j + 1) 0 = 2 * nextE zs j zs.length := by
  obtain ⟨i, rfl⟩ : ∃ i, j = i + 1 := ⟨j - 1, by omega⟩
  unfold nextE
  rw [rank_all, rank_zero, Nat.add_sub_cancel, Nat.add_sub_cancel]
  rfl
theorem nextE_start (zs : List Int) : nextE zs 1 0 = 0 := by simp [nextE, rank, endc]
/-- what is known of the last word (v, m) while the next one of length j is e -/
def Last (first : Bool) (v m j e : Nat) : Prop := m ≤ j ∧ (first = true → v = 0 ∧ m = 0 ∧ e = 0) ∧ (first = false → (v + 1) * 2 ^ (j - m) = e)
theorem Last.turn {first : Bool} {v m j e : Nat} (h : Last first v m j e) : Last first v m (j + 1) (2 * e) := by
  obtain ⟨h1, h2, h3⟩ := h
  refine ⟨by omega, fun h => by have := h2 h; omega, fun h => ?_⟩
  rw [← h3 h, show j + 1 - m = (j - m) + 1 by omega, Nat.pow_succ, ← Nat.mul_assoc]
  omega
/-- the word that is padded next: u, of m bits -/
theorem Last.next_ {v m j e : Nat} (h : Last false v m j e) (hlt : e < 2 ^ j) : v + 1 < 2 ^ m ∧ (v + 1) * 2 ^ (j - m) = e := by
  obtain ⟨h1, _, h3⟩ := h
  have := h3 rfl
  refine ⟨?_, this⟩
  rw [← this, show j = m + (j - m) by omega, Nat.pow_add, show m + (j - m) - m = j - m by omega] at hlt
  exact Nat.lt_of_mul_lt_mul_right hlt
theorem Last.mk_ (j e : Nat) : Last false e j j (e + 1) := ⟨Nat.le_refl _, (fun h => by cases h), (fun _ => by simp)⟩
end Go.Proofs.Ytoknoijecpdcaaa
