/- What squeeze.Tokens does, as plain functions; its tokens, gone through one by one, make the bytes again. No program in sight. -/
import Derived.Test.YtlokfmalpkahaaaPlainA
namespace Go.Proofs.Ytlokfmalpkahaaa
set_option maxRecDepth 100000

structure Tok where
  len : Nat
  dist : Nat
  byte : Nat
/-- how many bytes from two places on are alike: from the n-th on, f more at most -/
def sameFrom (b : List Nat) (i k : Nat) : Nat → Nat → Nat
  | 0, n => n
  | f + 1, n => if k + n < b.length ∧ b.getD (i + n) 0 = b.getD (k + n) 0 then sameFrom b i k f (n + 1) else n
def sameF (b : List Nat) (i k : Nat) : Nat := sameFrom b i k 258 0
/-- the three bytes from a place on -/
def keyF (b : List Nat) (i : Nat) : Nat × Nat × Nat := (b.getD i 0, b.getD (i + 1) 0, b.getD (i + 2) 0)
/-- the places ahead of a place, with three bytes behind each, that begin with these three -/
def placesF (b : List Nat) (at_ : Nat) (k : Nat × Nat × Nat) : List Nat := (List.range at_).filter fun i => decide (i + 2 < b.length ∧ keyF b i = k)
/-- the best of these places, from the last to the first: its length, its distance -/
def searchF (b : List Nat) (at_ : Nat) : List Nat → Nat × Nat → Nat × Nat
  | [], t => t
  | i :: r, t => if at_ - i ≤ 32768 ∧ t.1 < 258 then searchF b at_ r (if t.1 < sameF b i at_ then (sameF b i at_, at_ - i) else t) else t
def bestF (b : List Nat) (at_ : Nat) : Nat × Nat := if at_ + 2 < b.length then searchF b at_ (placesF b at_ (keyF b at_)).reverse (0, 0) else (0, 0)
def tokF (b : List Nat) (at_ : Nat) (t : Nat × Nat) : Tok := ⟨t.1, t.2, if t.1 = 0 then b.getD at_ 0 else 0⟩
def tokensF (b : List Nat) : Nat → Nat → List Tok
  | 0, _ => []
  | f + 1, at_ => if b.length ≤ at_ then [] else tokF b at_ (bestF b at_) :: tokensF b f (at_ + max (bestF b at_).1 1)

theorem sameFrom_ge (b : List Nat) (i k : Nat) : ∀ f n, n ≤ sameFrom b i k f n ∧ sameFrom b i k f n ≤ n + f := by
  intro f
  induction f with
  | zero => intro n; exact ⟨Nat.le_refl _, Nat.le_refl _⟩
  | succ f ih =>
    intro n
    unfold sameFrom
    split
    · have := ih (n + 1); omega
    · omega
theorem sameFrom_eq (b : List Nat) (i k : Nat) : ∀ f n j, n ≤ j → j < sameFrom b i k f n → k + j < b.length ∧ b.getD (i + j) 0 = b.getD (k + j) 0 := by
  intro f
  induction f with
  | zero => intro n j h1 h2; unfold sameFrom at h2; omega
  | succ f ih =>
    intro n j h1 h2
    unfold sameFrom at h2
    split at h2
    · next hc =>
      by_cases hj : j = n
      · subst hj; exact hc
      · exact ih (n + 1) j (by omega) h2
    · omega
theorem sameFrom_more (b : List Nat) (i k : Nat) : ∀ f n m, n ≤ m → m ≤ n + f → (∀ j, n ≤ j → j < m → k + j < b.length ∧ b.getD (i + j) 0 = b.getD (k + j) 0) → m ≤ sameFrom b i k f n := by
  intro f
  induction f with
  | zero => intro n m h1 h2 _; unfold sameFrom; omega
  | succ f ih =>
    intro n m h1 h2 h
    unfold sameFrom
    by_cases hm : m = n
    · subst hm
      split
      · have := (sameFrom_ge b i k f (m + 1)).1; omega
      · exact Nat.le_refl _
    · rw [if_pos (h n (Nat.le_refl _) (by omega))]
      exact ih (n + 1) m (by omega) (by omega) (fun j h3 h4 => h j (by omega) h4)
theorem sameF_le (b : List Nat) (i k : Nat) : sameF b i k ≤ 258 := by have := (sameFrom_ge b i k 258 0).2; unfold sameF; omega
theorem sameF_eq {b : List Nat} {i k j : Nat} (h : j < sameF b i k) : k + j < b.length ∧ b.getD (i + j) 0 = b.getD (k + j) 0 := sameFrom_eq b i k 258 0 j (Nat.zero_le _) h
theorem sameF_key {b : List Nat} {i k : Nat} (hk : k + 2 < b.length) (h : keyF b i = keyF b k) : 3 ≤ sameF b i k := by
  unfold keyF at h
  simp only [Prod.mk.injEq] at h
  refine sameFrom_more b i k 258 0 3 (by omega) (by omega) fun j _ hj => ⟨by omega, ?_⟩
  rcases (show j = 0 ∨ j = 1 ∨ j = 2 by omega) with rfl | rfl | rfl
  · exact h.1
  · exact h.2.1
  · exact h.2.2
theorem placesF_mem {b : List Nat} {at_ i : Nat} {k : Nat × Nat × Nat} (h : i ∈ placesF b at_ k) : i < at_ ∧ i + 2 < b.length ∧ keyF b i = k := by
  unfold placesF at h
  rw [List.mem_filter, List.mem_range] at h
  exact ⟨h.1, by simpa using h.2⟩
theorem placesF_length (b : List Nat) (at_ : Nat) (k : Nat × Nat × Nat) : (placesF b at_ k).length ≤ at_ := by
  unfold placesF
  have := List.length_filter_le (fun i => decide (i + 2 < b.length ∧ keyF b i = k)) (List.range at_)
  simpa using this
theorem placesF_zero (b : List Nat) (k : Nat × Nat × Nat) : placesF b 0 k = [] := rfl
theorem placesF_succ {b : List Nat} {at_ : Nat} {k : Nat × Nat × Nat} : placesF b (at_ + 1) k = placesF b at_ k ++ if at_ + 2 < b.length ∧ keyF b at_ = k then [at_] else [] := by
  unfold placesF
  rw [List.range_succ, List.filter_append]
  congr 1
  by_cases h : at_ + 2 < b.length ∧ keyF b at_ = k
  · rw [if_pos h]; simp [h]
  · rw [if_neg h]; simp [h]
/-- a stretch that may be told at a place -/
def Good (b : List Nat) (at_ : Nat) (t : Nat × Nat) : Prop := t = (0, 0) ∨ (3 ≤ t.1 ∧ t.1 ≤ 258 ∧ 1 ≤ t.2 ∧ t.2 ≤ 32768 ∧ t.2 ≤ at_ ∧ at_ + t.1 ≤ b.length ∧ ∀ j, j < t.1 → b.getD (at_ - t.2 + j) 0 = b.getD (at_ + j) 0)
theorem searchF_good {b : List Nat} {at_ : Nat} (hat : at_ + 2 < b.length) : ∀ (l : List Nat) (t : Nat × Nat), (∀ i ∈ l, i < at_ ∧ keyF b i = keyF b at_) → Good b at_ t → Good b at_ (searchF b at_ l t) := by
  intro l
  induction l with
  | nil => intro t _ h; exact h
  | cons i r ih =>
    intro t hl h
    unfold searchF
    by_cases hc : at_ - i ≤ 32768 ∧ t.1 < 258
    · rw [if_pos hc]
      refine ih _ (fun j hj => hl j (by simp [hj])) ?_
      have hi := hl i (by simp)
      by_cases hs : t.1 < sameF b i at_
      · rw [if_pos hs]
        have h3 := sameF_key hat hi.2
        have hlast := sameF_eq (b := b) (i := i) (k := at_) (j := sameF b i at_ - 1) (by omega)
        refine .inr ⟨h3, sameF_le _ _ _, by simp only; omega, hc.1, by simp only; omega, by simp only; omega, fun j hj => ?_⟩
        simp only at hj ⊢
        rw [show at_ - (at_ - i) = i by omega]
        exact (sameF_eq hj).2
      · rw [if_neg hs]; exact h
    · rw [if_neg hc]; exact h
theorem bestF_good (b : List Nat) (at_ : Nat) : Good b at_ (bestF b at_) := by
  unfold bestF
  by_cases h : at_ + 2 < b.length
  · rw [if_pos h]
    refine searchF_good h _ _ (fun i hi => ?_) (.inl rfl)
    have := placesF_mem (List.mem_reverse.1 hi)
    exact ⟨this.1, this.2.2⟩
  · rw [if_neg h]; exact .inl rfl
theorem tokensF_len {b : List Nat} : ∀ f at_, (tokensF b f at_).length ≤ f := by
  intro f
  induction f with
  | zero => intro at_; exact Nat.le_refl _
  | succ f ih =>
    intro at_
    unfold tokensF
    split
    · simp
    · simp only [List.length_cons]; have := ih (at_ + max (bestF b at_).1 1); omega
end Go.Proofs.Ytlokfmalpkahaaa
