/- entrepotref07's search for a token, as a plain function: it finds what squeeze's does. No program in sight. -/
import Derived.Test.YtoknoijecpdcaaaPlainQ
namespace Go.Proofs.Ytoknoijecpdcaaa
/-- one distance after the other, from d on, f of them at most -/
def refF (b : List Nat) (at_ : Nat) : Nat → Nat → Nat × Nat → Nat × Nat
  | 0, _, t => t
  | f + 1, d, t =>
    if d ≤ at_ ∧ d ≤ 32768 then
      if sameF b (at_ - d) at_ = 258 then (if 3 ≤ sameF b (at_ - d) at_ ∧ t.1 < sameF b (at_ - d) at_ then (sameF b (at_ - d) at_, d) else t)
      else refF b at_ f (d + 1) (if 3 ≤ sameF b (at_ - d) at_ ∧ t.1 < sameF b (at_ - d) at_ then (sameF b (at_ - d) at_, d) else t)
    else t
theorem search_far {b : List Nat} {at_ : Nat} {t : Nat × Nat} : ∀ {l : List Nat}, (∀ i ∈ l, 32768 < at_ - i) → searchF b at_ l t = t := by
  intro l h
  cases l with
  | nil => rfl
  | cons i r =>
    have := h i (by simp)
    rw [searchF, if_neg (by omega)]
theorem search_full {b : List Nat} {at_ : Nat} {t : Nat × Nat} (ht : t.1 = 258) : ∀ {l : List Nat}, searchF b at_ l t = t := by
  intro l
  cases l with
  | nil => rfl
  | cons i r => rw [searchF, if_neg (by omega)]
theorem same_three {b : List Nat} {i k : Nat} (h : 3 ≤ sameF b i k) : keyF b i = keyF b k ∧ k + 2 < b.length := by
  have h0 := sameF_eq (b := b) (i := i) (k := k) (j := 0) (by omega)
  have h1 := sameF_eq (b := b) (i := i) (k := k) (j := 1) (by omega)
  have h2 := sameF_eq (b := b) (i := i) (k := k) (j := 2) (by omega)
  refine ⟨?_, h2.1⟩
  unfold keyF
  rw [h1.2, h2.2]
  have := h0.2
  simp only [Nat.add_zero] at this
  rw [this]
theorem ref_search {b : List Nat} {at_ : Nat} : ∀ (m f : Nat) (t : Nat × Nat), m ≤ at_ → m ≤ f → t.1 < 258 →
    refF b at_ f (at_ - m + 1) t = if at_ + 2 < b.length then searchF b at_ (placesF b m (keyF b at_)).reverse t else t := by
  intro m
  induction m with
  | zero =>
    intro f t _ _ _
    have hr : refF b at_ f (at_ - 0 + 1) t = t := by
      cases f with
      | zero => rfl
      | succ f => rw [refF, if_neg (by omega)]
    rw [hr, placesF_zero]
    split <;> rfl
  | succ m ih =>
    intro f t hm hf ht
    obtain ⟨f, rfl⟩ : ∃ f', f = f' + 1 := ⟨f - 1, by omega⟩
    have hd : at_ - (m + 1) + 1 = at_ - m := by omega
    have hi : at_ - (at_ - m) = m := by omega
    rw [hd, refF, placesF_succ]
    by_cases hfar : at_ - m ≤ 32768
    · have hdd : at_ - m ≤ at_ ∧ at_ - m ≤ 32768 := ⟨by omega, hfar⟩
      rw [if_pos hdd, hi]
      by_cases hmt : 3 ≤ sameF b m at_
      · obtain ⟨hk, h2⟩ := same_three hmt
        have hc : m + 2 < b.length ∧ keyF b m = keyF b at_ := ⟨by omega, hk⟩
        rw [if_pos h2, if_pos hc, List.reverse_append]
        simp only [List.reverse_singleton, List.singleton_append]
        have hfh : at_ - m ≤ 32768 ∧ t.1 < 258 := ⟨hfar, ht⟩
        rw [searchF, if_pos hfh]
        by_cases h258 : sameF b m at_ = 258
        · have hgt : t.1 < sameF b m at_ := by omega
          have hb : 3 ≤ sameF b m at_ ∧ t.1 < sameF b m at_ := ⟨hmt, hgt⟩
          rw [if_pos h258, if_pos hb, if_pos hgt, search_full h258]
        · rw [if_neg h258]
          have hle := sameF_le b m at_
          by_cases hgt : t.1 < sameF b m at_
          · have hb : 3 ≤ sameF b m at_ ∧ t.1 < sameF b m at_ := ⟨hmt, hgt⟩
            rw [if_pos hb, if_pos hgt, ih f _ (by omega) (by omega) (by simp only; omega), if_pos h2]
          · have hnb : ¬ (3 ≤ sameF b m at_ ∧ t.1 < sameF b m at_) := fun hh => hgt hh.2
            rw [if_neg hnb, if_neg hgt, ih f _ (by omega) (by omega) ht, if_pos h2]
      · have hne : ¬ sameF b m at_ = 258 := by omega
        have hnb : ¬ (3 ≤ sameF b m at_ ∧ t.1 < sameF b m at_) := fun hh => hmt hh.1
        rw [if_neg hne, if_neg hnb, ih f t (by omega) (by omega) ht]
        by_cases h2 : at_ + 2 < b.length
        · rw [if_pos h2, if_pos h2, if_neg (fun hh => hmt (sameF_key h2 hh.2)), List.append_nil]
        · rw [if_neg h2, if_neg h2]
    · have hnd : ¬ (at_ - m ≤ at_ ∧ at_ - m ≤ 32768) := fun hh => hfar hh.2
      rw [if_neg hnd]
      by_cases h2 : at_ + 2 < b.length
      · rw [if_pos h2]
        refine (search_far fun i hi => ?_).symm
        rw [List.mem_reverse, List.mem_append] at hi
        rcases hi with hi | hi
        · have := (placesF_mem hi).1; omega
        · split at hi
          · simp at hi; omega
          · cases hi
      · rw [if_neg h2]
theorem ref_best (b : List Nat) (at_ : Nat) : refF b at_ at_ 1 (0, 0) = bestF b at_ := by
  have h := ref_search (b := b) (at_ := at_) at_ at_ (0, 0) (Nat.le_refl _) (Nat.le_refl _) (by decide)
  rw [Nat.sub_self, Nat.zero_add] at h
  rw [h]
  rfl
end Go.Proofs.Ytoknoijecpdcaaa
