/- Kind 2's lengths: places do not fall, nothing comes out, they are few. No program in sight. -/
import Derived.Test.YtdfamejakjnamaaPlainJ
import Derived.Test.YtdfamejakjnamaaPlainK
namespace Go.Proofs.Ytdfamejakjnamaa
theorem numF_err {bs : List Nat} {n : Nat} {s : Inf} (h : s.e ≠ 0) : numF bs n s = (0, s) := by unfold numF; rw [if_pos h]
theorem symF_err {bs : List Nat} {zs : List Int} {s : Inf} (h : s.e ≠ 0) : symF bs zs s = (0, s) := by unfold symF; rw [if_pos h]
theorem thirdF_le {bs : List Nat} : ∀ (k i : Nat) (t : List Int) (s : Inf), s.p ≤ (thirdF bs k i t s).2.p ∧ (thirdF bs k i t s).2.out = s.out ∧ (s.e ≠ 0 → (thirdF bs k i t s).2 = s) ∧ (thirdF bs k i t s).1.length = t.length := by
  intro k
  induction k with
  | zero => intro i t s; exact ⟨Nat.le_refl _, rfl, fun _ => rfl, rfl⟩
  | succ k ih =>
    intro i t s
    rw [thirdF]
    have h1 : s.p ≤ (numF bs 3 s).2.p := numF_p
    have h2 := numF_out bs 3 s
    have h3 := ih (i + 1) (t.set (thirdOrder.getD i 0) ((numF bs 3 s).1 : Int)) (numF bs 3 s).2
    refine ⟨Nat.le_trans h1 h3.1, by rw [h3.2.1, h2], fun he => ?_, by rw [h3.2.2.2, List.length_set]⟩
    have h4 := numF_err (bs := bs) (n := 3) he
    rw [h3.2.2.1 (by rw [h4]; exact he), h4]
theorem timesF_le {bs : List Nat} {l : List Int} {x : Int} {s : Inf} : s.p ≤ (timesF bs l x s).2.2.p ∧ (timesF bs l x s).2.2.out = s.out ∧ ((timesF bs l x s).2.2.e = 0 → s.e = 0) ∧ 1 ≤ (timesF bs l x s).2.1 := by
  have hh : ∀ n, s.p ≤ (numF bs n s).2.p ∧ (numF bs n s).2.out = s.out ∧ ((numF bs n s).2.e = 0 → s.e = 0) := fun n => ⟨numF_p, numF_out bs n s, fun h => Classical.byContradiction fun he => he (by rw [numF_err he] at h; exact h)⟩
  unfold timesF
  split
  · exact ⟨Nat.le_refl _, rfl, fun h => h, Nat.le_refl _⟩
  · split
    · exact ⟨(hh 2).1, (hh 2).2.1, (hh 2).2.2, by simp only; omega⟩
    · split
      · exact ⟨(hh 3).1, (hh 3).2.1, (hh 3).2.2, by simp only; omega⟩
      · exact ⟨(hh 7).1, (hh 7).2.1, (hh 7).2.2, by simp only; omega⟩
theorem overF_le {nm : Nat} {l : List Int} {t : Nat} {s : Inf} : (overF nm l t s).p = s.p ∧ (overF nm l t s).out = s.out ∧ ((overF nm l t s).e = 0 → s.e = 0 ∧ l.length + t ≤ nm) := by
  unfold overF
  by_cases h : s.e = 0 ∧ nm < l.length + t
  · rw [if_pos h]
    refine ⟨failF_out.2, failF_out.1, fun hh => ?_⟩
    unfold failF at hh
    rw [if_pos h.1] at hh
    simp at hh
  · rw [if_neg h]
    exact ⟨rfl, rfl, fun hh => ⟨hh, Nat.le_of_not_lt fun hlt => h ⟨hh, hlt⟩⟩⟩
theorem failF_ne {e : Int} {s : Inf} (he : e ≠ 0) : (failF e s).e ≠ 0 := by
  unfold failF
  by_cases h : s.e = 0
  · rw [if_pos h]; exact he
  · rw [if_neg h]; exact h
theorem lensF_le {bs : List Nat} {zt : List Int} {nm : Nat} : ∀ (k : Nat) (l : List Int) (s : Inf), s.p ≤ (lensF bs zt nm k l s).2.p ∧ (lensF bs zt nm k l s).2.out = s.out ∧ ((lensF bs zt nm k l s).2.e = 0 → s.e = 0 ∧ (l.length ≤ nm → (lensF bs zt nm k l s).1.length ≤ nm)) := by
  intro k
  induction k with
  | zero => intro l s; exact ⟨Nat.le_refl _, rfl, fun h => ⟨h, fun h => h⟩⟩
  | succ k ih =>
    intro l s
    rw [lensF]
    by_cases h1 : s.e ≠ 0 ∨ nm ≤ l.length
    · rw [if_pos h1]; exact ⟨Nat.le_refl _, rfl, fun h => ⟨h, fun h => h⟩⟩
    · rw [if_neg h1]
      have he : s.e = 0 := Classical.byContradiction fun hn => h1 (.inl hn)
      have q2 := symF_out (zs := zt) (bs := bs) (s := s)
      have q3 := symF_pp (zs := zt) (bs := bs) (s := s)
      generalize symF bs zt s = q at *
      by_cases h2 : q.2.e ≠ 0
      · rw [if_pos h2]; exact ⟨q3, q2, fun h => absurd h h2⟩
      · rw [if_neg h2]
        by_cases h3 : q.1 = 16 ∧ l = []
        · rw [if_pos h3]; exact ⟨by rw [failF_out.2]; exact q3, by rw [failF_out.1]; exact q2, fun h => absurd h (failF_ne (by decide))⟩
        · rw [if_neg h3]
          have h4 := timesF_le (bs := bs) (l := l) (x := q.1) (s := q.2)
          generalize timesF bs l q.1 q.2 = t at *
          have h5 := overF_le (nm := nm) (l := l) (t := t.2.1) (s := t.2.2)
          have h6 := ih (l ++ List.replicate t.2.1 t.1) (overF nm l t.2.1 t.2.2)
          refine ⟨by rw [h5.1] at h6; exact Nat.le_trans q3 (Nat.le_trans h4.1 h6.1), by rw [h6.2.1, h5.2.1, h4.2.1, q2], fun h => ⟨he, fun _ => ?_⟩⟩
          have h7 := h6.2.2 h
          have h8 := h5.2.2 h7.1
          exact h7.2 (by simp only [List.length_append, List.length_replicate]; exact h8.2)
theorem endF_le {l : List Int} {s : Inf} : (endF l s).p = s.p ∧ (endF l s).out = s.out := by
  unfold endF
  split
  · exact ⟨failF_out.2, failF_out.1⟩
  · exact ⟨rfl, rfl⟩
theorem tableF_le {zs : List Int} {s : Inf} : (tableF zs s).p = s.p ∧ (tableF zs s).out = s.out ∧ ((tableF zs s).e = 0 → s.e = 0) := by
  unfold tableF
  split
  · exact ⟨rfl, rfl, fun h => h⟩
  · exact ⟨failF_out.2, failF_out.1, fun h => absurd h (failF_ne (by decide))⟩
def Few (s : Inf) (x : (List Int × List Int) × Inf) : Prop := s.p ≤ x.2.p ∧ x.2.out = s.out ∧ x.1.1.length ≤ 320 ∧ x.1.2.length ≤ 320
theorem lengthsFrom_le {bs : List Nat} {n m k : Nat} {s : Inf} : Few s (lengthsFrom bs n m k s) := by
  unfold lengthsFrom
  obtain ⟨s4, hs4⟩ : ∃ s4, (if s.e = 0 ∧ (286 < n ∨ 30 < m) then failF 4 s else s) = s4 := ⟨_, rfl⟩
  have h4 : s4.p = s.p ∧ s4.out = s.out ∧ (s4.e = 0 → n ≤ 286 ∧ m ≤ 30) := by
    rw [← hs4]
    by_cases hc : s.e = 0 ∧ (286 < n ∨ 30 < m)
    · rw [if_pos hc]; exact ⟨failF_out.2, failF_out.1, fun h => absurd h (failF_ne (by decide))⟩
    · rw [if_neg hc]; exact ⟨rfl, rfl, fun h => by simp only [h, true_and] at hc; omega⟩
  simp only [hs4]
  have h5 := thirdF_le (bs := bs) k 0 (List.replicate 19 0) s4
  generalize thirdF bs k 0 (List.replicate 19 0) s4 = t at *
  by_cases ht : t.2.e ≠ 0
  · rw [if_pos ht]
    exact ⟨by rw [← h4.1]; exact h5.1, by rw [← h4.2.1]; exact h5.2.1, Nat.zero_le _, Nat.zero_le _⟩
  · rw [if_neg ht]
    have h40 : s4.e = 0 := Classical.byContradiction fun hn => ht (by rw [h5.2.2.1 hn]; exact hn)
    have hnm := h4.2.2 h40
    have h6 := tableF_le (zs := t.1) (s := t.2)
    have h7 := lensF_le (bs := bs) (zt := t.1) (nm := n + m) (n + m) [] (tableF t.1 t.2)
    generalize lensF bs t.1 (n + m) (n + m) [] (tableF t.1 t.2) = l at *
    have hp : s.p ≤ l.2.p := by have := h4.1; have := h5.1; have := h6.1; have := h7.1; omega
    have ho : l.2.out = s.out := by rw [h7.2.1, h6.2.1, h5.2.1, h4.2.1]
    by_cases hl : l.2.e ≠ 0
    · rw [if_pos hl]
      exact ⟨hp, ho, Nat.zero_le _, Nat.zero_le _⟩
    · rw [if_neg hl]
      have h8 := (h7.2.2 (Classical.byContradiction fun hn => hl hn)).2 (Nat.zero_le _)
      have h9 := endF_le (l := l.1) (s := l.2)
      refine ⟨by simp only [h9.1]; exact hp, by simp only [h9.2]; exact ho, ?_, ?_⟩
      · simp only [List.length_take]; omega
      · simp only [List.length_drop]; omega
theorem lengthsF_le {bs : List Nat} {s : Inf} : Few s (lengthsF bs s) := by
  unfold lengthsF
  have h1 : s.p ≤ (numF bs 5 s).2.p := numF_p
  have h2 := numF_out bs 5 s
  generalize numF bs 5 s = q1 at *
  have h3 : q1.2.p ≤ (numF bs 5 q1.2).2.p := numF_p
  have h4 := numF_out bs 5 q1.2
  generalize numF bs 5 q1.2 = q2 at *
  have h5 : q2.2.p ≤ (numF bs 4 q2.2).2.p := numF_p
  have h6 := numF_out bs 4 q2.2
  generalize numF bs 4 q2.2 = q3 at *
  have h7 := lengthsFrom_le (bs := bs) (n := q1.1 + 257) (m := q2.1 + 1) (k := q3.1 + 4) (s := q3.2)
  exact ⟨by have := h7.1; omega, by rw [h7.2.1, h6, h4, h2], h7.2.2.1, h7.2.2.2⟩
end Go.Proofs.Ytdfamejakjnamaa
