/- Coded text: places do not fall, what comes out stays within the limit. No program in sight. · Kind 2's lengths: places do not fall, nothing comes out, they are few. No program in sight. -/
import Derived.Test.YtlokfmalpkahaaaGreatKbInfC
import Derived.Test.YtlokfmalpkahaaaGreatKbQ14
namespace Go.Proofs.YtlokfmalpkahaaaGreat
set_option maxRecDepth 100000
theorem copyF_length {d : Nat} : ∀ (n : Nat) (l : List Nat), (copyF n d l).length = l.length + n := by
  intro n
  induction n with
  | zero => intro l; rfl
  | succ n ih => intro l; rw [copyF, ih]; simp only [List.length_append, List.length_singleton]; omega
def Within (most : Int) (s s' : Inf) : Prop := s.p ≤ s'.p ∧ (s'.out.length : Int) ≤ most
theorem sg_le {most : Int} {n dd : Nat} {s5 : Inf} (h : (s5.out.length : Int) ≤ most) : Within most s5 (stretchG most n dd s5).2 := by
  by_cases he : s5.e = 0
  · by_cases hd : s5.out.length < dd
    · rw [sg_far he hd]; exact ⟨by rw [failF_out.2]; exact Nat.le_refl _, by rw [failF_out.1]; exact h⟩
    · by_cases hr : (roomF most n s5).e = 0
      · rw [sg_ok he hd hr]
        have h2 := (roomF_ok he hr).2
        exact ⟨Nat.le_refl _, by simp only [copyF_length]; omega⟩
      · rw [sg_full he hd hr]; exact ⟨by rw [roomF_out.2]; exact Nat.le_refl _, by rw [roomF_out.1]; exact h⟩
  · rw [sg_err he]; exact ⟨Nat.le_refl _, h⟩
theorem st_le {bs : List Nat} {most : Int} {n : Nat} {d : Int} (hd0 : 0 ≤ d) {s3 : Inf} (h : (s3.out.length : Int) ≤ most) : Within most s3 (stretchF bs most n d s3).2 := by
  by_cases he : s3.e = 0
  · by_cases hd : 29 < d
    · rw [st_far he hd]; exact ⟨by rw [failF_out.2]; exact Nat.le_refl _, by rw [failF_out.1]; exact h⟩
    · obtain ⟨d, rfl⟩ := Int.eq_ofNat_of_zero_le hd0
      rw [st_near he (by omega)]
      have h1 := distF_out (bs := bs) (k := d) (s := s3)
      have h2 := sg_le (most := most) (n := n) (dd := (distF bs d s3).1) (s5 := (distF bs d s3).2) (by rw [h1.1]; exact h)
      exact ⟨Nat.le_trans h1.2 h2.1, h2.2⟩
  · rw [st_err he]; exact ⟨Nat.le_refl _, h⟩
theorem codedFrom_le {bs : List Nat} {most : Int} {zd : List Int} {x : Int} (hx : 0 ≤ x) (hz : zd.length ≤ 320) {s1 : Inf} (h : (s1.out.length : Int) ≤ most) : Within most s1 (codedFrom bs most zd x s1).2 := by
  unfold codedFrom
  by_cases h1 : s1.e ≠ 0 ∨ x = 256
  · rw [if_pos h1]; exact ⟨Nat.le_refl _, h⟩
  · rw [if_neg h1]
    have he : s1.e = 0 := Classical.byContradiction fun hn => h1 (.inl hn)
    by_cases h2 : x < 256
    · rw [if_pos h2]
      have hr := roomF_out (most := most) (n := 1) (s := s1)
      by_cases h3 : (roomF most 1 s1).e = 0
      · simp only [if_pos h3]
        have h4 := (roomF_ok he h3).2
        exact ⟨by simp only [hr.2]; exact Nat.le_refl _, by simp only [hr.1, List.length_append, List.length_singleton]; omega⟩
      · simp only [if_neg h3]
        exact ⟨by rw [hr.2]; exact Nat.le_refl _, by rw [hr.1]; exact h⟩
    · rw [if_neg h2]
      by_cases h3 : 285 < x
      · rw [if_pos h3]; exact ⟨by simp only [failF_out.2]; exact Nat.le_refl _, by simp only [failF_out.1]; exact h⟩
      · rw [if_neg h3]
        have q1 := lengthF_out (bs := bs) (k := (x - 257).toNat) (s := s1)
        generalize lengthF bs (x - 257).toNat s1 = a at *
        have q2 := symF_out (zs := zd) (bs := bs) (s := a.2)
        have q3 := symF_pp (zs := zd) (bs := bs) (s := a.2)
        have q4 := symF_range (zs := zd) (bs := bs) (s := a.2) hz
        generalize symF bs zd a.2 = b at *
        have q5 := st_le (bs := bs) (most := most) (n := a.1) (d := b.1) q4.1 (s3 := b.2) (by rw [q2, q1.1]; exact h)
        exact ⟨Nat.le_trans q1.2 (Nat.le_trans q3 q5.1), q5.2⟩
theorem codedF_le {bs : List Nat} {most : Int} {zl zd : List Int} (hl : zl.length ≤ 320) (hz : zd.length ≤ 320) : ∀ (f : Nat) (s : Inf), (s.out.length : Int) ≤ most → Within most s (codedF bs most zl zd f s) := by
  intro f
  induction f with
  | zero => intro s h; exact ⟨Nat.le_refl _, h⟩
  | succ f ih =>
    intro s h
    unfold codedF
    by_cases he : s.e ≠ 0
    · rw [if_pos he]; exact ⟨Nat.le_refl _, h⟩
    · rw [if_neg he]
      have q2 := symF_out (zs := zl) (bs := bs) (s := s)
      have q3 := symF_pp (zs := zl) (bs := bs) (s := s)
      have q4 := symF_range (zs := zl) (bs := bs) (s := s) hl
      have q5 := codedFrom_le (bs := bs) (most := most) (zd := zd) q4.1 hz (s1 := (symF bs zl s).2) (by rw [q2]; exact h)
      have q6 : Within most s (codedStep bs most zl zd s).2 := ⟨Nat.le_trans q3 q5.1, q5.2⟩
      by_cases h3 : (codedStep bs most zl zd s).1 = true
      · rw [if_pos h3]
        have q7 := ih _ q6.2
        exact ⟨Nat.le_trans q6.1 q7.1, q7.2⟩
      · rw [if_neg h3]; exact q6
end Go.Proofs.YtlokfmalpkahaaaGreat
namespace Go.Proofs.YtlokfmalpkahaaaGreat
set_option maxRecDepth 100000
theorem numF_err {bs : List Nat} {n : Nat} {s : Inf} (h : s.e ≠ 0) : numF bs n s = (0, s) := by unfold numF; rw [if_pos h]
theorem symF_err {bs : List Nat} {zs : List Int} {s : Inf} (h : s.e ≠ 0) : symF bs zs s = (0, s) := by unfold symF; rw [if_pos h]
theorem thirdF_le {bs : List Nat} : ∀ (k i : Nat) (t : List Int) (s : Inf), s.p ≤ (thirdF bs k i t s).2.p ∧ (thirdF bs k i t s).2.out = s.out ∧ (s.e ≠ 0 → (thirdF bs k i t s).2 = s) ∧ (thirdF bs k i t s).1.length = t.length := by
  intro k
  induction k with
  | zero => intro i t s; exact ⟨Nat.le_refl _, rfl, fun _ => rfl, rfl⟩
  | succ k ih =>
    intro i t s
    rw [thirdF]
    have h1 : s.p ≤ (numF bs 3 s).2.p := numF_p
    have h2 := numF_out bs 3 s
    have h3 := ih (i + 1) (t.set (thirdOrder.getD i 0) ((numF bs 3 s).1 : Int)) (numF bs 3 s).2
    refine ⟨Nat.le_trans h1 h3.1, by rw [h3.2.1, h2], fun he => ?_, by rw [h3.2.2.2, List.length_set]⟩
    have h4 := numF_err (bs := bs) (n := 3) he
    rw [h3.2.2.1 (by rw [h4]; exact he), h4]
theorem timesF_le {bs : List Nat} {l : List Int} {x : Int} {s : Inf} : s.p ≤ (timesF bs l x s).2.2.p ∧ (timesF bs l x s).2.2.out = s.out ∧ ((timesF bs l x s).2.2.e = 0 → s.e = 0) ∧ 1 ≤ (timesF bs l x s).2.1 := by
  have hh : ∀ n, s.p ≤ (numF bs n s).2.p ∧ (numF bs n s).2.out = s.out ∧ ((numF bs n s).2.e = 0 → s.e = 0) := fun n => ⟨numF_p, numF_out bs n s, fun h => Classical.byContradiction fun he => he (by rw [numF_err he] at h; exact h)⟩
  unfold timesF
  split
  · exact ⟨Nat.le_refl _, rfl, fun h => h, Nat.le_refl _⟩
  · split
    · exact ⟨(hh 2).1, (hh 2).2.1, (hh 2).2.2, by simp only; omega⟩
    · split
      · exact ⟨(hh 3).1, (hh 3).2.1, (hh 3).2.2, by simp only; omega⟩
      · exact ⟨(hh 7).1, (hh 7).2.1, (hh 7).2.2, by simp only; omega⟩
theorem overF_le {nm : Nat} {l : List Int} {t : Nat} {s : Inf} : (overF nm l t s).p = s.p ∧ (overF nm l t s).out = s.out ∧ ((overF nm l t s).e = 0 → s.e = 0 ∧ l.length + t ≤ nm) := by
  unfold overF
  by_cases h : s.e = 0 ∧ nm < l.length + t
  · rw [if_pos h]
    refine ⟨failF_out.2, failF_out.1, fun hh => ?_⟩
    unfold failF at hh
    rw [if_pos h.1] at hh
    simp at hh
  · rw [if_neg h]
    exact ⟨rfl, rfl, fun hh => ⟨hh, Nat.le_of_not_lt fun hlt => h ⟨hh, hlt⟩⟩⟩
theorem failF_ne {e : Int} {s : Inf} (he : e ≠ 0) : (failF e s).e ≠ 0 := by
  unfold failF
  by_cases h : s.e = 0
  · rw [if_pos h]; exact he
  · rw [if_neg h]; exact h
theorem lensF_le {bs : List Nat} {zt : List Int} {nm : Nat} : ∀ (k : Nat) (l : List Int) (s : Inf), s.p ≤ (lensF bs zt nm k l s).2.p ∧ (lensF bs zt nm k l s).2.out = s.out ∧ ((lensF bs zt nm k l s).2.e = 0 → s.e = 0 ∧ (l.length ≤ nm → (lensF bs zt nm k l s).1.length ≤ nm)) := by
  intro k
  induction k with
  | zero => intro l s; exact ⟨Nat.le_refl _, rfl, fun h => ⟨h, fun h => h⟩⟩
  | succ k ih =>
    intro l s
    rw [lensF]
    by_cases h1 : s.e ≠ 0 ∨ nm ≤ l.length
    · rw [if_pos h1]; exact ⟨Nat.le_refl _, rfl, fun h => ⟨h, fun h => h⟩⟩
    · rw [if_neg h1]
      have he : s.e = 0 := Classical.byContradiction fun hn => h1 (.inl hn)
      have q2 := symF_out (zs := zt) (bs := bs) (s := s)
      have q3 := symF_pp (zs := zt) (bs := bs) (s := s)
      generalize symF bs zt s = q at *
      by_cases h2 : q.2.e ≠ 0
      · rw [if_pos h2]; exact ⟨q3, q2, fun h => absurd h h2⟩
      · rw [if_neg h2]
        by_cases h3 : q.1 = 16 ∧ l = []
        · rw [if_pos h3]; exact ⟨by rw [failF_out.2]; exact q3, by rw [failF_out.1]; exact q2, fun h => absurd h (failF_ne (by decide))⟩
        · rw [if_neg h3]
          have h4 := timesF_le (bs := bs) (l := l) (x := q.1) (s := q.2)
          generalize timesF bs l q.1 q.2 = t at *
          have h5 := overF_le (nm := nm) (l := l) (t := t.2.1) (s := t.2.2)
          have h6 := ih (l ++ List.replicate t.2.1 t.1) (overF nm l t.2.1 t.2.2)
          refine ⟨by rw [h5.1] at h6; exact Nat.le_trans q3 (Nat.le_trans h4.1 h6.1), by rw [h6.2.1, h5.2.1, h4.2.1, q2], fun h => ⟨he, fun _ => ?_⟩⟩
          have h7 := h6.2.2 h
          have h8 := h5.2.2 h7.1
          exact h7.2 (by simp only [List.length_append, List.length_replicate]; exact h8.2)
theorem endF_le {l : List Int} {s : Inf} : (endF l s).p = s.p ∧ (endF l s).out = s.out := by
  unfold endF
  split
  · exact ⟨failF_out.2, failF_out.1⟩
  · exact ⟨rfl, rfl⟩
theorem tableF_le {zs : List Int} {s : Inf} : (tableF zs s).p = s.p ∧ (tableF zs s).out = s.out ∧ ((tableF zs s).e = 0 → s.e = 0) := by
  unfold tableF
  split
  · exact ⟨rfl, rfl, fun h => h⟩
  · exact ⟨failF_out.2, failF_out.1, fun h => absurd h (failF_ne (by decide))⟩
def Few (s : Inf) (x : (List Int × List Int) × Inf) : Prop := s.p ≤ x.2.p ∧ x.2.out = s.out ∧ x.1.1.length ≤ 320 ∧ x.1.2.length ≤ 320
theorem lengthsFrom_le {bs : List Nat} {n m k : Nat} {s : Inf} : Few s (lengthsFrom bs n m k s) := by
  unfold lengthsFrom
  obtain ⟨s4, hs4⟩ : ∃ s4, (if s.e = 0 ∧ (286 < n ∨ 30 < m) then failF 4 s else s) = s4 := ⟨_, rfl⟩
  have h4 : s4.p = s.p ∧ s4.out = s.out ∧ (s4.e = 0 → n ≤ 286 ∧ m ≤ 30) := by
    rw [← hs4]
    by_cases hc : s.e = 0 ∧ (286 < n ∨ 30 < m)
    · rw [if_pos hc]; exact ⟨failF_out.2, failF_out.1, fun h => absurd h (failF_ne (by decide))⟩
    · rw [if_neg hc]; exact ⟨rfl, rfl, fun h => by simp only [h, true_and] at hc; omega⟩
  simp only [hs4]
  have h5 := thirdF_le (bs := bs) k 0 (List.replicate 19 0) s4
  generalize thirdF bs k 0 (List.replicate 19 0) s4 = t at *
  by_cases ht : t.2.e ≠ 0
  · rw [if_pos ht]
    exact ⟨by rw [← h4.1]; exact h5.1, by rw [← h4.2.1]; exact h5.2.1, Nat.zero_le _, Nat.zero_le _⟩
  · rw [if_neg ht]
    have h40 : s4.e = 0 := Classical.byContradiction fun hn => ht (by rw [h5.2.2.1 hn]; exact hn)
    have hnm := h4.2.2 h40
    have h6 := tableF_le (zs := t.1) (s := t.2)
    have h7 := lensF_le (bs := bs) (zt := t.1) (nm := n + m) (n + m) [] (tableF t.1 t.2)
    generalize lensF bs t.1 (n + m) (n + m) [] (tableF t.1 t.2) = l at *
    have hp : s.p ≤ l.2.p := by have := h4.1; have := h5.1; have := h6.1; have := h7.1; omega
    have ho : l.2.out = s.out := by rw [h7.2.1, h6.2.1, h5.2.1, h4.2.1]
    by_cases hl : l.2.e ≠ 0
    · rw [if_pos hl]
      exact ⟨hp, ho, Nat.zero_le _, Nat.zero_le _⟩
    · rw [if_neg hl]
      have h8 := (h7.2.2 (Classical.byContradiction fun hn => hl hn)).2 (Nat.zero_le _)
      have h9 := endF_le (l := l.1) (s := l.2)
      refine ⟨by simp only [h9.1]; exact hp, by simp only [h9.2]; exact ho, ?_, ?_⟩
      · simp only [List.length_take]; omega
      · simp only [List.length_drop]; omega
theorem lengthsF_le {bs : List Nat} {s : Inf} : Few s (lengthsF bs s) := by
  unfold lengthsF
  have h1 : s.p ≤ (numF bs 5 s).2.p := numF_p
  have h2 := numF_out bs 5 s
  generalize numF bs 5 s = q1 at *
  have h3 : q1.2.p ≤ (numF bs 5 q1.2).2.p := numF_p
  have h4 := numF_out bs 5 q1.2
  generalize numF bs 5 q1.2 = q2 at *
  have h5 : q2.2.p ≤ (numF bs 4 q2.2).2.p := numF_p
  have h6 := numF_out bs 4 q2.2
  generalize numF bs 4 q2.2 = q3 at *
  have h7 := lengthsFrom_le (bs := bs) (n := q1.1 + 257) (m := q2.1 + 1) (k := q3.1 + 4) (s := q3.2)
  exact ⟨by have := h7.1; omega, by rw [h7.2.1, h6, h4, h2], h7.2.2.1, h7.2.2.2⟩
end Go.Proofs.YtlokfmalpkahaaaGreat
