/- Plain law of prefix codes by lengths: counts, first words, ranks. No program in sight. -/
import Derived.Test.YtlokfmalpkahaaaGreatKbPlainA
namespace Go.Proofs.YtlokfmalpkahaaaGreat
set_option maxRecDepth 100000

/-- how many words have length m -/
def cnt (zs : List Int) (m : Nat) : Nat := zs.count (m : Int)
/-- how many symbols ahead of s have length m -/
def rank (zs : List Int) (m s : Nat) : Nat := (zs.take s).count (m : Int)
/-- behind the last word of length j -/
def endc (zs : List Int) : Nat → Nat
  | 0 => 0
  | j + 1 => 2 * endc zs j + cnt zs (j + 1)
/-- how many words have a length from 1 to j -/
def allc (zs : List Int) : Nat → Nat
  | 0 => 0
  | j + 1 => allc zs j + cnt zs (j + 1)
/-- the room that words of lengths 1 to j take, of 32768 -/
def sumE (zs : List Int) : Nat → Nat
  | 0 => 0
  | j + 1 => sumE zs j + cnt zs (j + 1) * 2 ^ (14 - j)
theorem sumE_eq (zs : List Int) (j : Nat) (hj : j ≤ 15) : sumE zs j = endc zs j * 2 ^ (15 - j) := by
  induction j with
  | zero => simp [sumE, endc]
  | succ j ih =>
    have e : (2 : Nat) ^ (15 - j) = 2 * 2 ^ (14 - j) := by rw [← Nat.pow_succ']; congr 1; omega
    simp only [sumE, endc]
    rw [ih (by omega), e, show 15 - (j + 1) = 14 - j by omega, Nat.add_mul]
    congr 1
    rw [Nat.mul_comm 2 (endc zs j), Nat.mul_assoc]
/-- the length of symbol s -/
def lenS (zs : List Int) (s : Nat) : Nat := (zs.getD s 0).toNat
/-- the word of symbol s as a number -/
def codeW (zs : List Int) (s : Nat) : Nat := 2 * endc zs (lenS zs s - 1) + rank zs (lenS zs s) s
/-- the error of lengths -/
def mkErr (zs : List Int) : Int :=
  if 320 < zs.length then 5 else if ∃ z ∈ zs, z < 0 ∨ 15 < z then 1 else
  if 32768 < endc zs 15 ∨ (endc zs 15 < 32768 ∧ 0 < allc zs 15 ∧ ¬ (allc zs 15 = 1 ∧ cnt zs 1 = 1)) then 4 else 0

theorem cnt_le' (zs : List Int) (m : Nat) : cnt zs m ≤ zs.length := by unfold cnt; exact List.count_le_length
theorem sumE_term (zs : List Int) (j : Nat) (hn : zs.length ≤ 320) : cnt zs (j + 1) * 2 ^ (14 - j) ≤ 5242880 := by
  have h1 := cnt_le' zs (j + 1)
  have h2 : (2 : Nat) ^ (14 - j) ≤ 2 ^ 14 := Nat.pow_le_pow_right (by omega) (by omega)
  have := Nat.mul_le_mul (show cnt zs (j + 1) ≤ 320 by omega) h2
  omega
theorem sumE_le (zs : List Int) (j : Nat) (hj : j ≤ 15) (hn : zs.length ≤ 320) : sumE zs j ≤ 78643200 := by
  have h : sumE zs j ≤ j * 5242880 := by
    clear hj
    induction j with
    | zero => simp [sumE]
    | succ j ih =>
      have := sumE_term zs j hn
      simp only [sumE, Nat.succ_mul]
      omega
  omega
theorem rank_zero (zs : List Int) (m : Nat) : rank zs m 0 = 0 := by simp [rank]
theorem rank_succ (zs : List Int) (m s : Nat) (h : s < zs.length) : rank zs m (s + 1) = rank zs m s + if zs[s] = (m : Int) then 1 else 0 := by
  unfold rank
  rw [List.take_succ_eq_append_getElem h, List.count_append, List.count_singleton]
  congr 1
  by_cases e : zs[s] = (m : Int) <;> simp [e]
theorem rank_all (zs : List Int) (m : Nat) : rank zs m zs.length = cnt zs m := by simp [rank, cnt]
theorem rank_le (zs : List Int) (m s : Nat) : rank zs m s ≤ cnt zs m := by
  unfold rank cnt
  exact List.Sublist.count_le (m : Int) (List.take_sublist s zs)
theorem rank_mono (zs : List Int) (m : Nat) {s t : Nat} (h : s ≤ t) : rank zs m s ≤ rank zs m t := by
  unfold rank
  have : zs.take s = (zs.take t).take s := by rw [List.take_take, Nat.min_eq_left h]
  rw [this]
  exact List.Sublist.count_le (m : Int) (List.take_sublist s _)
theorem cnt_le (zs : List Int) (m : Nat) : cnt zs m ≤ zs.length := by unfold cnt; exact List.count_le_length
theorem allc_le (zs : List Int) (j : Nat) : allc zs j ≤ j * zs.length := by
  induction j with
  | zero => simp [allc]
  | succ j ih =>
    have := cnt_le zs (j + 1)
    simp only [allc, Nat.succ_mul]
    omega
theorem allc_le' (zs : List Int) (j : Nat) (hj : j ≤ 15) (hn : zs.length ≤ 320) : allc zs j ≤ 4800 := by
  have h1 := allc_le zs j
  have := Nat.mul_le_mul hj hn
  omega
theorem endc_mono (zs : List Int) (j k : Nat) : 2 ^ k * endc zs j ≤ endc zs (j + k) := by
  induction k with
  | zero => simp
  | succ k ih =>
    have e : endc zs (j + (k + 1)) = 2 * endc zs (j + k) + cnt zs (j + k + 1) := rfl
    rw [e, Nat.pow_succ, Nat.mul_comm (2 ^ k) 2, Nat.mul_assoc]
    omega
/-- what fits in all, fits at each length -/
theorem endc_le {zs : List Int} (h : endc zs 15 ≤ 32768) (j : Nat) (hj : j ≤ 15) : endc zs j ≤ 2 ^ j := by
  have h1 := endc_mono zs j (15 - j)
  rw [show j + (15 - j) = 15 by omega] at h1
  have h2 : (2 : Nat) ^ 15 = 2 ^ (15 - j) * 2 ^ j := by rw [← Nat.pow_add]; congr 1; omega
  have h3 : 2 ^ (15 - j) * endc zs j ≤ 2 ^ (15 - j) * 2 ^ j := by rw [← h2]; omega
  exact Nat.le_of_mul_le_mul_left h3 (Nat.two_pow_pos _)
theorem lenS_eq {zs : List Int} {s : Nat} (hs : s < zs.length) (h0 : 0 ≤ zs[s]) : ((lenS zs s : Nat) : Int) = zs[s] := by
  have e : zs.getD s 0 = zs[s] := by simp [List.getD, hs]
  unfold lenS
  rw [e]
  omega
theorem rank_lt {zs : List Int} {s : Nat} (hs : s < zs.length) (h0 : 0 ≤ zs[s]) : rank zs (lenS zs s) s < cnt zs (lenS zs s) := by
  have h1 := rank_succ zs (lenS zs s) s hs
  rw [if_pos (lenS_eq hs h0).symm] at h1
  have h2 := rank_le zs (lenS zs s) (s + 1)
  omega
theorem codeW_lt {zs : List Int} {s : Nat} (hs : s < zs.length) (h0 : 0 < zs[s]) : codeW zs s < endc zs (lenS zs s) := by
  have h1 := rank_lt hs (by omega)
  have h2 := lenS_eq hs (by omega)
  unfold codeW
  have e : endc zs (lenS zs s) = 2 * endc zs (lenS zs s - 1) + cnt zs (lenS zs s) := by
    obtain ⟨m, hm⟩ : ∃ m, lenS zs s = m + 1 := ⟨lenS zs s - 1, by omega⟩
    rw [hm]; rfl
  omega
/-- no word begins another one -/
theorem code_free {zs : List Int} {a b : Nat} (ha : a < zs.length) (hb : b < zs.length) (h0 : 0 < zs[a]) (h1 : 0 < zs[b]) (hab : a ≠ b) (hle : lenS zs a ≤ lenS zs b) :
    codeW zs b / 2 ^ (lenS zs b - lenS zs a) ≠ codeW zs a := by
  have e1 := lenS_eq ha (by omega)
  have e2 := lenS_eq hb (by omega)
  have c1 := codeW_lt ha h0
  by_cases he : lenS zs a = lenS zs b
  · rw [he, Nat.sub_self, Nat.pow_zero, Nat.div_one]
    unfold codeW
    rw [he]
    have r1 := rank_succ zs (lenS zs b) a ha
    have r2 := rank_succ zs (lenS zs b) b hb
    rw [if_pos (by omega)] at r1 r2
    rcases Nat.lt_or_ge a b with h | h
    · have := rank_mono zs (lenS zs b) (s := a + 1) (t := b) (by omega)
      omega
    · have := rank_mono zs (lenS zs b) (s := b + 1) (t := a) (by omega)
      omega
  · have hlt : lenS zs a < lenS zs b := by omega
    have h2 := endc_mono zs (lenS zs a) (lenS zs b - 1 - lenS zs a)
    rw [show lenS zs a + (lenS zs b - 1 - lenS zs a) = lenS zs b - 1 by omega] at h2
    have h3 : 2 ^ (lenS zs b - lenS zs a) * endc zs (lenS zs a) ≤ codeW zs b := by
      unfold codeW
      have e : (2 : Nat) ^ (lenS zs b - lenS zs a) = 2 * 2 ^ (lenS zs b - 1 - lenS zs a) := by rw [← Nat.pow_succ']; congr 1; omega
      rw [e, Nat.mul_assoc]
      omega
    have h4 : endc zs (lenS zs a) ≤ codeW zs b / 2 ^ (lenS zs b - lenS zs a) := by
      rw [Nat.le_div_iff_mul_le (Nat.two_pow_pos _), Nat.mul_comm]
      exact h3
    omega

/-- the symbols ahead of k whose length is m -/
def symsTo (zs : List Int) (m k : Nat) : List Int := ((List.range k).filter fun s => zs.getD s 0 == (m : Int)).map fun s : Nat => (s : Int)
theorem symsTo_zero (zs : List Int) (m : Nat) : symsTo zs m 0 = [] := rfl
theorem symsTo_succ (zs : List Int) (m k : Nat) (h : k < zs.length) : symsTo zs m (k + 1) = symsTo zs m k ++ if zs[k] = (m : Int) then [(k : Int)] else [] := by
  have e : zs.getD k 0 = zs[k] := by simp [List.getD, h]
  simp only [symsTo, List.range_succ, List.filter_append, List.map_append]
  congr 1
  by_cases hz : zs[k] = (m : Int)
  · simp [hz, List.getD, h]
  · simp [hz, List.getD, h]
theorem symsTo_length (zs : List Int) (m k : Nat) (h : k ≤ zs.length) : (symsTo zs m k).length = rank zs m k := by
  induction k with
  | zero => simp [symsTo, rank]
  | succ k ih =>
    rw [symsTo_succ zs m k (by omega), rank_succ zs m k (by omega), List.length_append, ih (by omega)]
    split <;> simp
/-- symbols by their words, of lengths 1 to j -/
def sorted (zs : List Int) : Nat → List Int
  | 0 => []
  | j + 1 => sorted zs j ++ symsTo zs (j + 1) zs.length
theorem sorted_length (zs : List Int) (j : Nat) : (sorted zs j).length = allc zs j := by
  induction j with
  | zero => rfl
  | succ j ih => simp only [sorted, allc, List.length_append, ih, symsTo_length zs (j + 1) zs.length (Nat.le_refl _), rank_all]
theorem symsTo_get (zs : List Int) (m s : Nat) (hs : s < zs.length) (hz : zs[s] = (m : Int)) : ∀ k, s < k → k ≤ zs.length → (symsTo zs m k)[rank zs m s]? = some (s : Int) := by
  intro k hsk hk
  induction k with
  | zero => omega
  | succ k ih =>
    rw [symsTo_succ zs m k (by omega)]
    by_cases h : s < k
    · have := ih h (by omega)
      rw [List.getElem?_append_left (List.getElem?_eq_some_iff.1 this).1]
      exact this
    · obtain rfl : s = k := by omega
      rw [List.getElem?_append_right (by rw [symsTo_length zs m s (by omega)]; exact Nat.le_refl _), symsTo_length zs m s (by omega), Nat.sub_self, if_pos hz]
      rfl
theorem sorted_pre (zs : List Int) (j k i : Nat) (h : i < (sorted zs j).length) : (sorted zs (j + k))[i]? = (sorted zs j)[i]? := by
  induction k with
  | zero => rfl
  | succ k ih =>
    have e : sorted zs (j + (k + 1)) = sorted zs (j + k) ++ symsTo zs (j + k + 1) zs.length := rfl
    have hl : (sorted zs j).length ≤ (sorted zs (j + k)).length := by
      clear ih e
      induction k with
      | zero => exact Nat.le_refl _
      | succ k ih =>
        have e : sorted zs (j + (k + 1)) = sorted zs (j + k) ++ symsTo zs (j + k + 1) zs.length := rfl
        rw [e, List.length_append]; omega
    rw [e, List.getElem?_append_left (by omega), ih]
/-- the symbol that stands at a word's place -/
theorem sorted_get (zs : List Int) (s : Nat) (hs : s < zs.length) (h0 : 0 < zs[s]) (h15 : zs[s] ≤ 15) : (sorted zs 15)[allc zs (lenS zs s - 1) + rank zs (lenS zs s) s]? = some (s : Int) := by
  have e1 := lenS_eq hs (by omega)
  have hr := rank_lt hs (by omega)
  obtain ⟨m, hm⟩ : ∃ m, lenS zs s = m + 1 := ⟨lenS zs s - 1, by omega⟩
  rw [hm] at e1 hr ⊢
  have hlen := sorted_length zs (m + 1)
  have hlm := sorted_length zs m
  rw [show (15 : Nat) = (m + 1) + (14 - m) by omega, sorted_pre zs (m + 1) (14 - m) _ (by rw [hlen]; simp only [allc]; simp; omega)]
  simp only [sorted, Nat.add_sub_cancel]
  rw [List.getElem?_append_right (by omega), hlm, Nat.add_sub_cancel_left]
  exact symsTo_get zs (m + 1) s hs e1.symm _ hs (Nat.le_refl _)
end Go.Proofs.YtlokfmalpkahaaaGreat
