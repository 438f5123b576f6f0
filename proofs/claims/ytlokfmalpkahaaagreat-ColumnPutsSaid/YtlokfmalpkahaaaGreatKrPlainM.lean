/- One inflating beside another one of a text that is a beginning of its text, and of a limit that is no higher: they are the same,
or the second one has ended early, and the first one went farther, or has failed. No program in sight. -/
import Derived.Test.YtlokfmalpkahaaaGreatKrQ16
namespace Go.Proofs.YtlokfmalpkahaaaGreat
set_option maxRecDepth 100000
structure Grow (s t : Inf) : Prop where
  p : s.p ≤ t.p
  out : s.out.length ≤ t.out.length
  e : s.e ≠ 0 → t.e = s.e
theorem Grow.rfl {s : Inf} : Grow s s := ⟨Nat.le_refl _, Nat.le_refl _, fun _ => Eq.refl _⟩
theorem Grow.trans {s t u : Inf} (h1 : Grow s t) (h2 : Grow t u) : Grow s u :=
  ⟨Nat.le_trans h1.p h2.p, Nat.le_trans h1.out h2.out, fun h => by rw [h2.e (by rw [h1.e h]; exact h), h1.e h]⟩
section
variable {bs : List Nat} {most : Int} {s : Inf}
theorem failF_grow {e : Int} : Grow s (failF e s) := by
  unfold failF
  by_cases h : s.e = 0
  · rw [if_pos h]; exact ⟨Nat.le_refl _, Nat.le_refl _, fun hn => absurd h hn⟩
  · rw [if_neg h]; exact Grow.rfl
theorem numF_grow {n : Nat} : Grow s (numF bs n s).2 := ⟨numF_p, by rw [numF_out]; exact Nat.le_refl _, fun h => by rw [numF_err h]⟩
theorem symF_grow {zs : List Int} : Grow s (symF bs zs s).2 := ⟨symF_pp, by rw [symF_out]; exact Nat.le_refl _, fun h => by rw [symF_err h]⟩
theorem roomF_grow {n : Int} : Grow s (roomF most n s) := by
  unfold roomF; split
  · exact failF_grow
  · exact Grow.rfl
theorem storedLoop_grow : ∀ (k : Nat) (s : Inf), Grow s (storedLoop bs k s) := by
  intro k
  induction k with
  | zero => intro s; exact Grow.rfl
  | succ k ih =>
    intro s
    have h1 := numF_grow (bs := bs) (n := 8) (s := s)
    unfold storedLoop
    generalize numF bs 8 s = q at *
    by_cases he : q.2.e ≠ 0
    · rw [if_pos he]; exact h1
    · rw [if_neg he]
      exact (h1.trans (t := q.2) (u := { q.2 with out := q.2.out ++ [q.1] }) ⟨Nat.le_refl _, by simp only [List.length_append]; omega, fun h => absurd h he⟩).trans (ih _)
theorem storedEnd_grow {n m : Nat} : Grow s (storedEnd bs most n m s) := by
  unfold storedEnd
  have h4 : Grow s (if s.e = 0 ∧ n ≠ 65535 - m then failF 4 s else s) := by split; exact failF_grow; exact Grow.rfl
  generalize (if s.e = 0 ∧ n ≠ 65535 - m then failF 4 s else s) = s4 at *
  simp only
  by_cases he : s4.e ≠ 0
  · rw [if_pos he]; exact h4
  · rw [if_neg he]
    have h5 := h4.trans (roomF_grow (most := most) (n := (n : Int)))
    generalize roomF most (n : Int) s4 = s5 at *
    by_cases he5 : s5.e ≠ 0
    · rw [if_pos he5]; exact h5
    · rw [if_neg he5]; exact h5.trans (storedLoop_grow n s5)
theorem storedF_grow : Grow s (storedF bs most s) := by
  unfold storedF
  have h0 : Grow s { s with p := (s.p + 7) / 8 * 8 } := ⟨by simp only; omega, Nat.le_refl _, fun _ => rfl⟩
  exact ((h0.trans numF_grow).trans numF_grow).trans storedEnd_grow
theorem lengthF_grow {k : Nat} : Grow s (lengthF bs k s).2 := by
  unfold lengthF; split
  · exact Grow.rfl
  · split
    · exact Grow.rfl
    · exact numF_grow
theorem distF_grow {k : Nat} : Grow s (distF bs k s).2 := by
  unfold distF; split
  · exact Grow.rfl
  · exact numF_grow
theorem sg_grow {n dd : Nat} : Grow s (stretchG most n dd s).2 := by
  by_cases he : s.e = 0
  · by_cases hd : s.out.length < dd
    · rw [sg_far he hd]; exact failF_grow
    · by_cases hr : (roomF most n s).e = 0
      · rw [sg_ok he hd hr]
        exact ⟨Nat.le_refl _, by simp only [copyF_length]; omega, fun h => absurd he h⟩
      · rw [sg_full he hd hr]; exact roomF_grow
  · rw [sg_err he]; exact Grow.rfl
theorem st_grow {n : Nat} {d : Int} (hd0 : 0 ≤ d) : Grow s (stretchF bs most n d s).2 := by
  by_cases he : s.e = 0
  · by_cases hd : 29 < d
    · rw [st_far he hd]; exact failF_grow
    · obtain ⟨d, rfl⟩ := Int.eq_ofNat_of_zero_le hd0
      rw [st_near he (by omega)]
      exact distF_grow.trans sg_grow
  · rw [st_err he]; exact Grow.rfl
theorem codedFrom_grow {zd : List Int} {x : Int} (hz : zd.length ≤ 320) : Grow s (codedFrom bs most zd x s).2 := by
  unfold codedFrom
  by_cases h1 : s.e ≠ 0 ∨ x = 256
  · rw [if_pos h1]; exact Grow.rfl
  · rw [if_neg h1]
    have he : s.e = 0 := Classical.byContradiction fun hn => h1 (.inl hn)
    by_cases h2 : x < 256
    · rw [if_pos h2]
      have hr := roomF_grow (most := most) (n := 1) (s := s)
      by_cases h3 : (roomF most 1 s).e = 0
      · simp only [if_pos h3]
        exact ⟨hr.p, Nat.le_trans hr.out (by simp only [List.length_append]; omega), hr.e⟩
      · simp only [if_neg h3]; exact hr
    · rw [if_neg h2]
      by_cases h3 : 285 < x
      · rw [if_pos h3]; exact failF_grow
      · rw [if_neg h3]
        exact (lengthF_grow.trans symF_grow).trans (st_grow (symF_range hz).1)
theorem codedF_grow {zl zd : List Int} (hz : zd.length ≤ 320) : ∀ (f : Nat) (s : Inf), Grow s (codedF bs most zl zd f s) := by
  intro f
  induction f with
  | zero => intro s; exact Grow.rfl
  | succ f ih =>
    intro s
    unfold codedF
    by_cases he : s.e ≠ 0
    · rw [if_pos he]; exact Grow.rfl
    · rw [if_neg he]
      have q6 : Grow s (codedStep bs most zl zd s).2 := symF_grow.trans (codedFrom_grow hz)
      by_cases h3 : (codedStep bs most zl zd s).1 = true
      · rw [if_pos h3]; exact q6.trans (ih _)
      · rw [if_neg h3]; exact q6
theorem thirdF_grow : ∀ (k i : Nat) (t : List Int) (s : Inf), Grow s (thirdF bs k i t s).2 := by
  intro k
  induction k with
  | zero => intro i t s; exact Grow.rfl
  | succ k ih => intro i t s; rw [thirdF]; exact numF_grow.trans (ih _ _ _)
theorem timesF_grow {l : List Int} {x : Int} : Grow s (timesF bs l x s).2.2 := by
  unfold timesF
  split
  · exact Grow.rfl
  · split
    · exact numF_grow
    · split <;> exact numF_grow
theorem overF_grow {nm t : Nat} {l : List Int} : Grow s (overF nm l t s) := by
  unfold overF; split
  · exact failF_grow
  · exact Grow.rfl
theorem tableF_grow {zs : List Int} : Grow s (tableF zs s) := by
  unfold tableF; split
  · exact Grow.rfl
  · exact failF_grow
theorem endF_grow {l : List Int} : Grow s (endF l s) := by
  unfold endF; split
  · exact failF_grow
  · exact Grow.rfl
theorem lensF_grow {zt : List Int} {nm : Nat} : ∀ (k : Nat) (l : List Int) (s : Inf), Grow s (lensF bs zt nm k l s).2 := by
  intro k
  induction k with
  | zero => intro l s; exact Grow.rfl
  | succ k ih =>
    intro l s
    rw [lensF]
    by_cases h1 : s.e ≠ 0 ∨ nm ≤ l.length
    · rw [if_pos h1]; exact Grow.rfl
    · rw [if_neg h1]
      by_cases h2 : (symF bs zt s).2.e ≠ 0
      · rw [if_pos h2]; exact symF_grow
      · rw [if_neg h2]
        by_cases h3 : (symF bs zt s).1 = 16 ∧ l = []
        · rw [if_pos h3]; exact symF_grow.trans failF_grow
        · rw [if_neg h3]; exact ((symF_grow.trans timesF_grow).trans overF_grow).trans (ih _ _)
theorem lengthsFrom_grow {n m k : Nat} : Grow s (lengthsFrom bs n m k s).2 := by
  unfold lengthsFrom
  have h4 : Grow s (if s.e = 0 ∧ (286 < n ∨ 30 < m) then failF 4 s else s) := by split; exact failF_grow; exact Grow.rfl
  generalize (if s.e = 0 ∧ (286 < n ∨ 30 < m) then failF 4 s else s) = s4 at *
  simp only
  have h5 := h4.trans (thirdF_grow (bs := bs) k 0 (List.replicate 19 0) s4)
  generalize thirdF bs k 0 (List.replicate 19 0) s4 = t at *
  by_cases ht : t.2.e ≠ 0
  · rw [if_pos ht]; exact h5
  · rw [if_neg ht]
    have h7 := (h5.trans (tableF_grow (zs := t.1))).trans (lensF_grow (bs := bs) (zt := t.1) (nm := n + m) (n + m) [] (tableF t.1 t.2))
    generalize lensF bs t.1 (n + m) (n + m) [] (tableF t.1 t.2) = l at *
    by_cases hl : l.2.e ≠ 0
    · rw [if_pos hl]; exact h7
    · rw [if_neg hl]; exact h7.trans endF_grow
theorem lengthsF_grow : Grow s (lengthsF bs s).2 := by
  unfold lengthsF
  exact ((numF_grow.trans numF_grow).trans numF_grow).trans lengthsFrom_grow
theorem tabledF_grow {zl zd : List Int} (hz : zd.length ≤ 320) : Grow s (tabledF bs most zl zd s) := by
  unfold tabledF
  split
  · exact Grow.rfl
  · split
    · exact tableF_grow
    · exact (tableF_grow.trans tableF_grow).trans (codedF_grow hz _ _)
theorem kindF_grow {kd : Nat} : Grow s (kindF bs most kd s) := by
  unfold kindF
  split
  · exact storedF_grow
  · split
    · exact tabledF_grow (by decide)
    · split
      · exact lengthsF_grow.trans (tabledF_grow lengthsF_le.2.2.2)
      · exact failF_grow
theorem blockF_grow : Grow s (blockF bs most s) := by
  unfold blockF
  split
  · exact numF_grow.trans numF_grow
  · exact (numF_grow.trans numF_grow).trans kindF_grow
theorem blocksF_grow : ∀ (f : Nat) (s : Inf), Grow s (blocksF bs most f s) := by
  intro f
  induction f with
  | zero => intro s; exact Grow.rfl
  | succ f ih =>
    intro s
    rw [blocksF]
    split
    · exact blockF_grow.trans (ih _)
    · exact blockF_grow
end

/-- the second one has ended early -/
def Stop (b2 : List Nat) (m2 : Int) (s t : Inf) : Prop := (t.e = 3 ∧ (s.e ≠ 0 ∨ 8 * b2.length < s.p)) ∨ (t.e = 5 ∧ (s.e ≠ 0 ∨ m2 < s.out.length))
theorem Stop.step {b2 : List Nat} {m2 : Int} {s t s' t' : Inf} (h : Stop b2 m2 s t) (h1 : Grow s s') (h2 : Grow t t') : Stop b2 m2 s' t' := by
  have ho := h1.out
  rcases h with ⟨he, h⟩ | ⟨he, h⟩
  · refine .inl ⟨by rw [h2.e (by omega), he], ?_⟩
    rcases h with h | h
    · exact .inl (by rw [h1.e h]; exact h)
    · exact .inr (Nat.lt_of_lt_of_le h h1.p)
  · refine .inr ⟨by rw [h2.e (by omega), he], ?_⟩
    rcases h with h | h
    · exact .inl (by rw [h1.e h]; exact h)
    · exact .inr (by omega)
theorem Stop.ne {b2 : List Nat} {m2 : Int} {s t : Inf} (h : Stop b2 m2 s t) : t.e ≠ 0 := by rcases h with ⟨he, _⟩ | ⟨he, _⟩ <;> omega
/-- they are the same, within both limits -/
def Lock (b2 : List Nat) (m2 : Int) (s : Inf) : Prop := s.p ≤ 8 * b2.length ∧ (s.out.length : Int) ≤ m2
def Sim {α : Type} (b2 : List Nat) (m2 : Int) (x y : α × Inf) : Prop := (y = x ∧ Lock b2 m2 x.2) ∨ Stop b2 m2 x.2 y.2
def SimI (b2 : List Nat) (m2 : Int) (s t : Inf) : Prop := (t = s ∧ Lock b2 m2 s) ∨ Stop b2 m2 s t
section
variable {bs b2 : List Nat} {most m2 : Int} {s t : Inf}
theorem SimI.step {s' t' : Inf} (h : SimI b2 m2 s t) (h1 : Grow s s') (h2 : Grow t t') (hl : Lock b2 m2 s → t = s → SimI b2 m2 s' t') : SimI b2 m2 s' t' := by
  rcases h with ⟨h, hk⟩ | h
  · exact hl hk h
  · exact .inr (h.step h1 h2)
theorem SimI.lock (h : Lock b2 m2 s) : SimI b2 m2 s s := .inl ⟨rfl, h⟩
theorem failF_sim {e : Int} (h : Lock b2 m2 s) : SimI b2 m2 (failF e s) (failF e s) := .lock ⟨by rw [failF_out.2]; exact h.1, by rw [failF_out.1]; exact h.2⟩
/-- the second text is a beginning of the first one, the second limit is no higher -/
def Beg (bs b2 : List Nat) (most m2 : Int) : Prop := (∃ tl, bs = b2 ++ tl) ∧ m2 ≤ most
theorem Beg.len (h : Beg bs b2 most m2) : b2.length ≤ bs.length := by
  obtain ⟨⟨tl, rfl⟩, _⟩ := h
  rw [List.length_append]; omega
theorem Beg.bit (h : Beg bs b2 most m2) {i : Nat} (hi : i < 8 * b2.length) : bitAt bs i = bitAt b2 i := by
  obtain ⟨⟨tl, rfl⟩, _⟩ := h
  have : i / 8 < b2.length := by omega
  unfold bitAt
  rw [List.getD_eq_getElem?_getD, List.getD_eq_getElem?_getD, List.getElem?_append_left this]
theorem msb_congr {f g : Nat → Nat} : ∀ {n : Nat}, (∀ i, i < n → f i = g i) → msb f n = msb g n := by
  intro n
  induction n with
  | zero => intro _; rfl
  | succ n ih => intro h; rw [msb, msb, ih fun i hi => h i (by omega), h n (by omega)]
theorem numF_sim (hB : Beg bs b2 most m2) {n : Nat} (h : Lock b2 m2 s) : Sim b2 m2 (numF bs n s) (numF b2 n s) := by
  have hl := hB.len
  by_cases he : s.e ≠ 0
  · rw [numF_err he, numF_err he]; exact .inl ⟨rfl, h⟩
  · by_cases h2 : s.p + n ≤ 8 * b2.length
    · have h1 : s.p + n ≤ 8 * bs.length := by omega
      have hv : bval bs s.p n = bval b2 s.p n := bval_congr fun k hk => hB.bit (by omega)
      unfold numF
      rw [if_neg he, if_neg he, if_pos h1, if_pos h2, hv]
      exact .inl ⟨rfl, h2, h.2⟩
    · refine .inr (.inl ?_)
      unfold numF
      rw [if_neg he, if_neg he, if_neg h2]
      refine ⟨rfl, ?_⟩
      by_cases h1 : s.p + n ≤ 8 * bs.length
      · rw [if_pos h1]; exact .inr (by simp only; omega)
      · rw [if_neg h1]; exact .inl (by simp)
theorem nextF_sim (hB : Beg bs b2 most m2) {zs : List Int} {p : Nat} : ∀ (k n : Nat), p + n ≤ 8 * b2.length →
    (nextF zs b2 p k n = nextF zs bs p k n ∧ (nextF zs bs p k n).2.2 ≤ 8 * b2.length) ∨ ((nextF zs b2 p k n).2.1 = 3 ∧ ((nextF zs bs p k n).2.1 ≠ 0 ∨ 8 * b2.length < (nextF zs bs p k n).2.2)) := by
  have hl := hB.len
  intro k
  induction k with
  | zero => intro n hp; exact .inl ⟨rfl, hp⟩
  | succ k ih =>
    intro n hp
    by_cases h1 : allc zs 15 ≤ allc zs n
    · rw [nextF, nextF, if_pos h1, if_pos h1]; exact .inl ⟨rfl, hp⟩
    · by_cases h2 : 8 * b2.length ≤ p + n
      · refine .inr ⟨by rw [nextF, if_neg h1, if_pos h2], ?_⟩
        by_cases h0 : (nextF zs bs p (k + 1) n).2.1 = 0
        · have := nextF_p _ _ h0
          exact .inr (by omega)
        · exact .inl h0
      · have h3 : ¬ 8 * bs.length ≤ p + n := by omega
        have hm : msb (bitsFrom b2 p) (n + 1) = msb (bitsFrom bs p) (n + 1) := msb_congr fun i hi => (hB.bit (by omega)).symm
        rw [nextF, nextF, if_neg h1, if_neg h1, if_neg h2, if_neg h3, hm]
        by_cases h4 : msb (bitsFrom bs p) (n + 1) < 2 * endc zs n + cnt zs (n + 1)
        · rw [if_pos h4, if_pos h4]; exact .inl ⟨rfl, by simp only; omega⟩
        · rw [if_neg h4, if_neg h4]; exact ih (n + 1) (by omega)
theorem symF_sim (hB : Beg bs b2 most m2) {zs : List Int} (h : Lock b2 m2 s) : Sim b2 m2 (symF bs zs s) (symF b2 zs s) := by
  by_cases he : s.e ≠ 0
  · rw [symF_err he, symF_err he]; exact .inl ⟨rfl, h⟩
  · unfold symF
    rw [if_neg he, if_neg he]
    rcases nextF_sim hB (zs := zs) (p := s.p) 15 0 h.1 with ⟨h1, h2⟩ | ⟨h1, h2⟩
    · rw [h1]; exact .inl ⟨rfl, h2, h.2⟩
    · exact .inr (.inl ⟨h1, h2⟩)
theorem storedLoop_len : ∀ (k : Nat) (s : Inf), (storedLoop bs k s).e = 0 → (storedLoop bs k s).out.length = s.out.length + k := by
  intro k
  induction k with
  | zero => intro s _; rfl
  | succ k ih =>
    intro s
    have h2 := numF_out bs 8 s
    unfold storedLoop
    generalize numF bs 8 s = q at *
    by_cases he : q.2.e ≠ 0
    · rw [if_pos he]; intro h; exact absurd h he
    · rw [if_neg he]
      intro h
      rw [ih _ h]
      simp only [List.length_append, List.length_singleton, h2]; omega
theorem storedLoop_sim (hB : Beg bs b2 most m2) : ∀ (k : Nat) (s : Inf), Lock b2 m2 s → (s.out.length : Int) + k ≤ m2 → SimI b2 m2 (storedLoop bs k s) (storedLoop b2 k s) := by
  intro k
  induction k with
  | zero => intro s h _; exact .lock h
  | succ k ih =>
    intro s h hk
    have h1 := numF_sim hB (n := 8) h
    have h2 := numF_out bs 8 s
    unfold storedLoop
    generalize numF bs 8 s = q at *
    generalize numF b2 8 s = q' at *
    rcases h1 with ⟨rfl, hl⟩ | h1
    · by_cases he : q'.2.e ≠ 0
      · rw [if_pos he, if_pos he]; exact .lock hl
      · rw [if_neg he, if_neg he]
        refine ih _ ⟨hl.1, ?_⟩ ?_
        · simp only [List.length_append, List.length_singleton, h2]; omega
        · simp only [List.length_append, List.length_singleton, h2]; omega
    · rw [if_pos h1.ne]
      refine .inr (h1.step ?_ Grow.rfl)
      by_cases he : q.2.e ≠ 0
      · rw [if_pos he]; exact Grow.rfl
      · rw [if_neg he]
        exact Grow.trans (t := { q.2 with out := q.2.out ++ [q.1] }) ⟨Nat.le_refl _, by simp only [List.length_append]; omega, fun h => absurd h he⟩ (storedLoop_grow k _)
theorem roomF_bad {n : Int} {s : Inf} (he : s.e = 0) (h : (roomF m2 n s).e ≠ 0) : (roomF m2 n s).e = 5 ∧ m2 < (s.out.length : Int) + n := by
  unfold roomF at h ⊢
  by_cases hc : m2 - (s.out.length : Int) < n
  · rw [if_pos hc]
    exact ⟨failF_e he, by omega⟩
  · rw [if_neg hc] at h; exact absurd he h
theorem roomF_fine {n : Int} {s : Inf} (he : s.e = 0) (h : (s.out.length : Int) + n ≤ most) : roomF most n s = s := by
  unfold roomF; rw [if_neg (by omega)]
theorem storedEnd_sim (hB : Beg bs b2 most m2) {n m : Nat} (h : Lock b2 m2 s) : SimI b2 m2 (storedEnd bs most n m s) (storedEnd b2 m2 n m s) := by
  unfold storedEnd
  obtain ⟨s4, hs4⟩ : ∃ s4, (if s.e = 0 ∧ n ≠ 65535 - m then failF 4 s else s) = s4 := ⟨_, rfl⟩
  have h4 : Lock b2 m2 s4 := by
    rw [← hs4]; split
    · exact ⟨by rw [failF_out.2]; exact h.1, by rw [failF_out.1]; exact h.2⟩
    · exact h
  simp only [hs4]
  by_cases he : s4.e ≠ 0
  · rw [if_pos he, if_pos he]; exact .lock h4
  · have he0 : s4.e = 0 := by simpa using he
    rw [if_neg he, if_neg he]
    by_cases hr : (roomF m2 (n : Int) s4).e ≠ 0
    · have hb := roomF_bad he0 hr
      rw [if_pos hr]
      refine .inr (.inr ⟨hb.1, ?_⟩)
      by_cases hr1 : (roomF most (n : Int) s4).e ≠ 0
      · rw [if_pos hr1]; exact .inl hr1
      · rw [if_neg hr1]
        have h1 := roomF_ok he0 (by simpa using hr1)
        rw [h1.1]
        by_cases he5 : (storedLoop bs n s4).e = 0
        · have := storedLoop_len n s4 he5
          exact .inr (by omega)
        · exact .inl he5
    · have h2 := roomF_ok he0 (by simpa using hr)
      have h1 := roomF_fine (most := most) he0 (n := (n : Int)) (by have := hB.2; omega)
      rw [if_neg hr, h1, h2.1, if_neg he]
      exact storedLoop_sim hB n s4 h4 h2.2
theorem storedF_sim (hB : Beg bs b2 most m2) (h : Lock b2 m2 s) : SimI b2 m2 (storedF bs most s) (storedF b2 m2 s) := by
  unfold storedF
  have h0 : Lock b2 m2 { s with p := (s.p + 7) / 8 * 8 } := ⟨by have := h.1; simp only; omega, h.2⟩
  have h1 := numF_sim hB (n := 16) h0
  generalize numF bs 16 { s with p := (s.p + 7) / 8 * 8 } = q at *
  generalize numF b2 16 { s with p := (s.p + 7) / 8 * 8 } = q' at *
  rcases h1 with ⟨rfl, h1⟩ | h1
  · have h2 := numF_sim hB (n := 16) h1
    generalize numF bs 16 q'.2 = u at *
    generalize numF b2 16 q'.2 = u' at *
    rcases h2 with ⟨rfl, h2⟩ | h2
    · exact storedEnd_sim hB h2
    · exact .inr (h2.step storedEnd_grow storedEnd_grow)
  · exact .inr (h1.step (numF_grow.trans storedEnd_grow) (numF_grow.trans storedEnd_grow))
theorem lengthF_sim (hB : Beg bs b2 most m2) {k : Nat} (h : Lock b2 m2 s) : Sim b2 m2 (lengthF bs k s) (lengthF b2 k s) := by
  unfold lengthF
  by_cases h1 : k < 8
  · rw [if_pos h1, if_pos h1]; exact .inl ⟨rfl, h⟩
  · rw [if_neg h1, if_neg h1]
    by_cases h2 : k = 28
    · rw [if_pos h2, if_pos h2]; exact .inl ⟨rfl, h⟩
    · rw [if_neg h2, if_neg h2]
      rcases numF_sim hB (n := k / 4 - 1) h with ⟨h3, h4⟩ | h3
      · rw [h3]; exact .inl ⟨rfl, h4⟩
      · exact .inr h3
theorem distF_sim (hB : Beg bs b2 most m2) {k : Nat} (h : Lock b2 m2 s) : Sim b2 m2 (distF bs k s) (distF b2 k s) := by
  unfold distF
  by_cases h1 : k < 2
  · rw [if_pos h1, if_pos h1]; exact .inl ⟨rfl, h⟩
  · rw [if_neg h1, if_neg h1]
    rcases numF_sim hB (n := k / 2 - 1) h with ⟨h3, h4⟩ | h3
    · rw [h3]; exact .inl ⟨rfl, h4⟩
    · exact .inr h3
theorem sg_sim (hB : Beg bs b2 most m2) {n dd : Nat} (h : Lock b2 m2 s) : Sim b2 m2 (stretchG most n dd s) (stretchG m2 n dd s) := by
  by_cases he : s.e = 0
  · by_cases hd : s.out.length < dd
    · rw [sg_far he hd, sg_far he hd]
      exact .inl ⟨rfl, ⟨by simp only [failF_out.2]; exact h.1, by simp only [failF_out.1]; exact h.2⟩⟩
    · by_cases hr : (roomF m2 n s).e = 0
      · have h2 := (roomF_ok he hr).2
        have h1 := roomF_fine (most := most) he (n := (n : Int)) (by have := hB.2; omega)
        rw [sg_ok he hd hr, sg_ok he hd (by rw [h1]; exact he)]
        exact .inl ⟨rfl, h.1, by simp only [copyF_length]; omega⟩
      · have hb := roomF_bad he hr
        rw [sg_full he hd hr]
        refine .inr (.inr ⟨hb.1, ?_⟩)
        by_cases hr1 : (roomF most n s).e = 0
        · rw [sg_ok he hd hr1]; exact .inr (by simp only [copyF_length]; omega)
        · rw [sg_full he hd hr1]; exact .inl hr1
  · rw [sg_err he, sg_err he]; exact .inl ⟨rfl, h⟩
theorem st_sim (hB : Beg bs b2 most m2) {n : Nat} {d : Int} (hd0 : 0 ≤ d) (h : Lock b2 m2 s) : Sim b2 m2 (stretchF bs most n d s) (stretchF b2 m2 n d s) := by
  by_cases he : s.e = 0
  · by_cases hd : 29 < d
    · rw [st_far he hd, st_far he hd]
      exact .inl ⟨rfl, ⟨by simp only [failF_out.2]; exact h.1, by simp only [failF_out.1]; exact h.2⟩⟩
    · obtain ⟨d, rfl⟩ := Int.eq_ofNat_of_zero_le hd0
      rw [st_near he (by omega), st_near he (by omega)]
      rcases distF_sim hB (k := d) h with ⟨h3, h4⟩ | h3
      · rw [h3]; exact sg_sim hB h4
      · exact .inr (h3.step sg_grow sg_grow)
  · rw [st_err he, st_err he]; exact .inl ⟨rfl, h⟩
theorem codedFrom_sim (hB : Beg bs b2 most m2) {zd : List Int} {x : Int} (hz : zd.length ≤ 320) (h : Lock b2 m2 s) : Sim b2 m2 (codedFrom bs most zd x s) (codedFrom b2 m2 zd x s) := by
  unfold codedFrom
  by_cases h1 : s.e ≠ 0 ∨ x = 256
  · rw [if_pos h1, if_pos h1]; exact .inl ⟨rfl, h⟩
  · rw [if_neg h1, if_neg h1]
    have he : s.e = 0 := Classical.byContradiction fun hn => h1 (.inl hn)
    by_cases h2 : x < 256
    · rw [if_pos h2, if_pos h2]
      by_cases hr : (roomF m2 1 s).e = 0
      · have h3 := roomF_ok he hr
        have h4 := roomF_fine (most := most) he (n := 1) (by have := hB.2; omega)
        simp only [if_pos hr, h4, if_pos he, h3.1]
        exact .inl ⟨rfl, h.1, by simp only [List.length_append, List.length_singleton]; omega⟩
      · have hb := roomF_bad he hr
        simp only [if_neg hr]
        refine .inr (.inr ⟨hb.1, ?_⟩)
        by_cases hr1 : (roomF most 1 s).e = 0
        · simp only [(roomF_ok he hr1).1, if_pos he]
          exact .inr (by simp only [List.length_append, List.length_singleton]; omega)
        · simp only [if_neg hr1]; exact .inl hr1
    · rw [if_neg h2, if_neg h2]
      by_cases h3 : 285 < x
      · rw [if_pos h3, if_pos h3]
        exact .inl ⟨rfl, ⟨by simp only [failF_out.2]; exact h.1, by simp only [failF_out.1]; exact h.2⟩⟩
      · rw [if_neg h3, if_neg h3]
        have q1 := lengthF_sim hB (k := (x - 257).toNat) h
        generalize lengthF bs (x - 257).toNat s = a at *
        generalize lengthF b2 (x - 257).toNat s = a' at *
        rcases q1 with ⟨rfl, q1⟩ | q1
        · have q2 := symF_sim hB (zs := zd) q1
          have q4 := symF_range (zs := zd) (bs := bs) (s := a'.2) hz
          have q5 := symF_range (zs := zd) (bs := b2) (s := a'.2) hz
          generalize symF bs zd a'.2 = b at *
          generalize symF b2 zd a'.2 = b' at *
          rcases q2 with ⟨rfl, q2⟩ | q2
          · exact st_sim hB q4.1 q2
          · exact .inr (q2.step (st_grow q4.1) (st_grow q5.1))
        · exact .inr (q1.step (symF_grow.trans (st_grow (symF_range hz).1)) (symF_grow.trans (st_grow (symF_range hz).1)))
theorem codedStep_sim (hB : Beg bs b2 most m2) {zl zd : List Int} (hz : zd.length ≤ 320) (h : Lock b2 m2 s) : Sim b2 m2 (codedStep bs most zl zd s) (codedStep b2 m2 zl zd s) := by
  unfold codedStep
  have q2 := symF_sim hB (zs := zl) h
  generalize symF bs zl s = b at *
  generalize symF b2 zl s = b' at *
  rcases q2 with ⟨rfl, q2⟩ | q2
  · exact codedFrom_sim hB hz q2
  · exact .inr (q2.step (codedFrom_grow hz) (codedFrom_grow hz))
theorem codedStep_p {zl zd : List Int} (hz : zd.length ≤ 320) (he : s.e = 0) (h : (codedStep bs most zl zd s).1 = true) : s.p + 1 ≤ (codedStep bs most zl zd s).2.p := by
  have q3 := symF_p (zs := zl) (bs := bs) (s := s) he
  unfold codedStep at h ⊢
  generalize symF bs zl s = b at *
  by_cases hb : b.2.e = 0
  · exact Nat.le_trans (q3 hb) (codedFrom_grow hz).p
  · unfold codedFrom at h; rw [if_pos (.inl hb)] at h; cases h
theorem codedF_sim (hB : Beg bs b2 most m2) {zl zd : List Int} (hz : zd.length ≤ 320) : ∀ (f f2 : Nat) (s : Inf), Lock b2 m2 s → 8 * bs.length + 1 ≤ f + s.p → 8 * b2.length + 1 ≤ f2 + s.p → SimI b2 m2 (codedF bs most zl zd f s) (codedF b2 m2 zl zd f2 s) := by
  have hlen := hB.len
  intro f
  induction f with
  | zero => intro f2 s h h1 _; have := h.1; omega
  | succ f ih =>
    intro f2 s h h1 h2
    obtain ⟨f2, rfl⟩ : ∃ f', f2 = f' + 1 := ⟨f2 - 1, by have := h.1; omega⟩
    unfold codedF
    by_cases he : s.e ≠ 0
    · rw [if_pos he, if_pos he]; exact .lock h
    · rw [if_neg he, if_neg he]
      have q := codedStep_sim hB (zl := zl) hz h
      have qp := codedStep_p (bs := bs) (most := most) (zl := zl) hz (by simpa using he)
      generalize codedStep bs most zl zd s = b at *
      generalize codedStep b2 m2 zl zd s = b' at *
      rcases q with ⟨rfl, q⟩ | q
      · by_cases hc : b'.1 = true
        · rw [if_pos hc, if_pos hc]
          have := qp hc
          exact ih f2 _ q (by omega) (by omega)
        · rw [if_neg hc, if_neg hc]; exact .lock q
      · refine .inr (q.step ?_ ?_)
        · split
          · exact codedF_grow hz _ _
          · exact Grow.rfl
        · split
          · exact codedF_grow hz _ _
          · exact Grow.rfl
theorem thirdF_sim (hB : Beg bs b2 most m2) : ∀ (k i : Nat) (t : List Int) (s : Inf), Lock b2 m2 s → Sim b2 m2 (thirdF bs k i t s) (thirdF b2 k i t s) := by
  intro k
  induction k with
  | zero => intro i t s h; exact .inl ⟨rfl, h⟩
  | succ k ih =>
    intro i t s h
    rw [thirdF, thirdF]
    have q := numF_sim hB (n := 3) h
    generalize numF bs 3 s = b at *
    generalize numF b2 3 s = b' at *
    rcases q with ⟨rfl, q⟩ | q
    · exact ih _ _ _ q
    · exact .inr (q.step (thirdF_grow _ _ _ _) (thirdF_grow _ _ _ _))
def Sim3 (b2 : List Nat) (m2 : Int) (x y : Int × Nat × Inf) : Prop := (y = x ∧ Lock b2 m2 x.2.2) ∨ Stop b2 m2 x.2.2 y.2.2
theorem timesF_sim (hB : Beg bs b2 most m2) {l : List Int} {x : Int} (h : Lock b2 m2 s) : Sim3 b2 m2 (timesF bs l x s) (timesF b2 l x s) := by
  unfold timesF
  have hh : ∀ n, Sim b2 m2 (numF bs n s) (numF b2 n s) := fun n => numF_sim hB h
  by_cases h1 : x < 16
  · rw [if_pos h1, if_pos h1]; exact .inl ⟨rfl, h⟩
  · rw [if_neg h1, if_neg h1]
    by_cases h2 : x = 16
    · rw [if_pos h2, if_pos h2]
      rcases hh 2 with ⟨q, hq⟩ | q
      · rw [q]; exact .inl ⟨rfl, hq⟩
      · exact .inr q
    · rw [if_neg h2, if_neg h2]
      by_cases h3 : x = 17
      · rw [if_pos h3, if_pos h3]
        rcases hh 3 with ⟨q, hq⟩ | q
        · rw [q]; exact .inl ⟨rfl, hq⟩
        · exact .inr q
      · rw [if_neg h3, if_neg h3]
        rcases hh 7 with ⟨q, hq⟩ | q
        · rw [q]; exact .inl ⟨rfl, hq⟩
        · exact .inr q
theorem Lock.of {s t : Inf} (h : Lock b2 m2 s) (hp : t.p = s.p) (ho : t.out = s.out) : Lock b2 m2 t := ⟨by rw [hp]; exact h.1, by rw [ho]; exact h.2⟩
theorem lensF_sim (hB : Beg bs b2 most m2) {zt : List Int} {nm : Nat} : ∀ (k : Nat) (l : List Int) (s : Inf), Lock b2 m2 s → Sim b2 m2 (lensF bs zt nm k l s) (lensF b2 zt nm k l s) := by
  intro k
  induction k with
  | zero => intro l s h; exact .inl ⟨rfl, h⟩
  | succ k ih =>
    intro l s h
    rw [lensF, lensF]
    by_cases h1 : s.e ≠ 0 ∨ nm ≤ l.length
    · rw [if_pos h1, if_pos h1]; exact .inl ⟨rfl, h⟩
    · rw [if_neg h1, if_neg h1]
      have q := symF_sim hB (zs := zt) h
      generalize symF bs zt s = b at *
      generalize symF b2 zt s = b' at *
      rcases q with ⟨rfl, q⟩ | q
      · by_cases h2 : b'.2.e ≠ 0
        · rw [if_pos h2, if_pos h2]; exact .inl ⟨rfl, q⟩
        · rw [if_neg h2, if_neg h2]
          by_cases h3 : b'.1 = 16 ∧ l = []
          · rw [if_pos h3, if_pos h3]; exact .inl ⟨rfl, q.of failF_out.2 failF_out.1⟩
          · rw [if_neg h3, if_neg h3]
            have q4 := timesF_sim hB (l := l) (x := b'.1) q
            generalize timesF bs l b'.1 b'.2 = t at *
            generalize timesF b2 l b'.1 b'.2 = t' at *
            rcases q4 with ⟨rfl, q4⟩ | q4
            · exact ih _ _ (q4.of overF_le.1 overF_le.2.1)
            · exact .inr (q4.step (overF_grow.trans (lensF_grow _ _ _)) (overF_grow.trans (lensF_grow _ _ _)))
      · have hg : ∀ (cs : List Nat) (c : Int × Inf), Grow c.2 (if c.2.e ≠ 0 then (l, c.2) else if c.1 = 16 ∧ l = [] then (l, failF 4 c.2) else lensF cs zt nm k (l ++ List.replicate (timesF cs l c.1 c.2).2.1 (timesF cs l c.1 c.2).1) (overF nm l (timesF cs l c.1 c.2).2.1 (timesF cs l c.1 c.2).2.2)).2 := by
          intro cs c
          split
          · exact Grow.rfl
          · split
            · exact failF_grow
            · exact (timesF_grow.trans overF_grow).trans (lensF_grow _ _ _)
        exact .inr (q.step (hg bs b) (hg b2 b'))
theorem lengthsFrom_sim (hB : Beg bs b2 most m2) {n m k : Nat} (h : Lock b2 m2 s) : Sim b2 m2 (lengthsFrom bs n m k s) (lengthsFrom b2 n m k s) := by
  unfold lengthsFrom
  obtain ⟨s4, hs4⟩ : ∃ s4, (if s.e = 0 ∧ (286 < n ∨ 30 < m) then failF 4 s else s) = s4 := ⟨_, rfl⟩
  have h4 : Lock b2 m2 s4 := by
    rw [← hs4]; split
    · exact h.of failF_out.2 failF_out.1
    · exact h
  simp only [hs4]
  have q := thirdF_sim hB k 0 (List.replicate 19 0) s4 h4
  generalize thirdF bs k 0 (List.replicate 19 0) s4 = t at *
  generalize thirdF b2 k 0 (List.replicate 19 0) s4 = t' at *
  have hg2 : ∀ (cs : List Nat) (l : List Int × Inf), Grow l.2 (if l.2.e ≠ 0 then (([], []), l.2) else ((l.1.take n, l.1.drop n), endF l.1 l.2)).2 := by
    intro cs l
    split
    · exact Grow.rfl
    · exact endF_grow
  have hg : ∀ (cs : List Nat) (t : List Int × Inf), Grow t.2 (if t.2.e ≠ 0 then (([], []), t.2) else if (lensF cs t.1 (n + m) (n + m) [] (tableF t.1 t.2)).2.e ≠ 0 then (([], []), (lensF cs t.1 (n + m) (n + m) [] (tableF t.1 t.2)).2) else (((lensF cs t.1 (n + m) (n + m) [] (tableF t.1 t.2)).1.take n, (lensF cs t.1 (n + m) (n + m) [] (tableF t.1 t.2)).1.drop n), endF (lensF cs t.1 (n + m) (n + m) [] (tableF t.1 t.2)).1 (lensF cs t.1 (n + m) (n + m) [] (tableF t.1 t.2)).2)).2 := by
    intro cs t
    split
    · exact Grow.rfl
    · exact (tableF_grow.trans (lensF_grow _ _ _)).trans (hg2 cs _)
  rcases q with ⟨rfl, q⟩ | q
  · by_cases ht : t'.2.e ≠ 0
    · rw [if_pos ht, if_pos ht]; exact .inl ⟨rfl, q⟩
    · rw [if_neg ht, if_neg ht]
      have q6 := lensF_sim hB (zt := t'.1) (nm := n + m) (n + m) [] (tableF t'.1 t'.2) (q.of tableF_le.1 tableF_le.2.1)
      generalize lensF bs t'.1 (n + m) (n + m) [] (tableF t'.1 t'.2) = l at *
      generalize lensF b2 t'.1 (n + m) (n + m) [] (tableF t'.1 t'.2) = l' at *
      rcases q6 with ⟨rfl, q6⟩ | q6
      · by_cases hl : l'.2.e ≠ 0
        · rw [if_pos hl]; exact .inl ⟨rfl, q6⟩
        · rw [if_neg hl]; exact .inl ⟨rfl, q6.of endF_le.1 endF_le.2⟩
      · exact .inr (q6.step (hg2 bs l) (hg2 b2 l'))
  · exact .inr (q.step (hg bs t) (hg b2 t'))
theorem lengthsF_sim (hB : Beg bs b2 most m2) (h : Lock b2 m2 s) : Sim b2 m2 (lengthsF bs s) (lengthsF b2 s) := by
  unfold lengthsF
  have q1 := numF_sim hB (n := 5) h
  generalize numF bs 5 s = a at *
  generalize numF b2 5 s = a' at *
  rcases q1 with ⟨rfl, q1⟩ | q1
  · have q2 := numF_sim hB (n := 5) q1
    generalize numF bs 5 a'.2 = b at *
    generalize numF b2 5 a'.2 = b' at *
    rcases q2 with ⟨rfl, q2⟩ | q2
    · have q3 := numF_sim hB (n := 4) q2
      generalize numF bs 4 b'.2 = c at *
      generalize numF b2 4 b'.2 = c' at *
      rcases q3 with ⟨rfl, q3⟩ | q3
      · exact lengthsFrom_sim hB q3
      · exact .inr (q3.step lengthsFrom_grow lengthsFrom_grow)
    · exact .inr (q2.step (numF_grow.trans lengthsFrom_grow) (numF_grow.trans lengthsFrom_grow))
  · exact .inr (q1.step ((numF_grow.trans numF_grow).trans lengthsFrom_grow) ((numF_grow.trans numF_grow).trans lengthsFrom_grow))
theorem tabledF_sim (hB : Beg bs b2 most m2) {zl zd : List Int} (hz : zd.length ≤ 320) (h : Lock b2 m2 s) : SimI b2 m2 (tabledF bs most zl zd s) (tabledF b2 m2 zl zd s) := by
  unfold tabledF
  have h1 : Lock b2 m2 (tableF zl s) := h.of tableF_le.1 tableF_le.2.1
  have h2 : Lock b2 m2 (tableF zd (tableF zl s)) := h1.of tableF_le.1 tableF_le.2.1
  by_cases he : s.e ≠ 0
  · rw [if_pos he, if_pos he]; exact .lock h
  · rw [if_neg he, if_neg he]
    by_cases he2 : (tableF zl s).e ≠ 0
    · rw [if_pos he2, if_pos he2]; exact .lock h1
    · rw [if_neg he2, if_neg he2]
      exact codedF_sim hB hz _ _ _ h2 (by omega) (by omega)
theorem kindF_sim (hB : Beg bs b2 most m2) {kd : Nat} (h : Lock b2 m2 s) : SimI b2 m2 (kindF bs most kd s) (kindF b2 m2 kd s) := by
  unfold kindF
  by_cases h0 : kd = 0
  · rw [if_pos h0, if_pos h0]; exact storedF_sim hB h
  · rw [if_neg h0, if_neg h0]
    by_cases h1 : kd = 1
    · rw [if_pos h1, if_pos h1]; exact tabledF_sim hB (by decide) h
    · rw [if_neg h1, if_neg h1]
      by_cases h2 : kd = 2
      · rw [if_pos h2, if_pos h2]
        have q := lengthsF_sim hB h
        have hz := (lengthsF_le (bs := bs) (s := s)).2.2.2
        have hz2 := (lengthsF_le (bs := b2) (s := s)).2.2.2
        generalize lengthsF bs s = a at *
        generalize lengthsF b2 s = a' at *
        rcases q with ⟨rfl, q⟩ | q
        · exact tabledF_sim hB hz q
        · exact .inr (q.step (tabledF_grow hz) (tabledF_grow hz2))
      · rw [if_neg h2, if_neg h2]; exact failF_sim h
theorem blkF_grow {kd : Nat} : Grow s (if s.e ≠ 0 then s else kindF bs most kd s) := by
  split
  · exact Grow.rfl
  · exact kindF_grow
theorem blockF_sim (hB : Beg bs b2 most m2) (h : Lock b2 m2 s) : (SimI b2 m2 (blockF bs most s) (blockF b2 m2 s) ∧ (numF b2 1 s).1 = (numF bs 1 s).1) ∨ Stop b2 m2 (blockF bs most s) (blockF b2 m2 s) := by
  unfold blockF
  have q1 := numF_sim hB (n := 1) h
  generalize numF bs 1 s = a at *
  generalize numF b2 1 s = a' at *
  rcases q1 with ⟨rfl, q1⟩ | q1
  · refine .inl ⟨?_, rfl⟩
    have q2 := numF_sim hB (n := 2) q1
    generalize numF bs 2 a'.2 = b at *
    generalize numF b2 2 a'.2 = b' at *
    rcases q2 with ⟨rfl, q2⟩ | q2
    · by_cases he : b'.2.e ≠ 0
      · rw [if_pos he, if_pos he]; exact .lock q2
      · rw [if_neg he, if_neg he]; exact kindF_sim hB q2
    · exact .inr (q2.step blkF_grow blkF_grow)
  · exact .inr (q1.step (numF_grow.trans blkF_grow) (numF_grow.trans blkF_grow))
theorem numF_okp {n : Nat} (h : (numF bs n s).2.e = 0) : s.e = 0 ∧ (numF bs n s).2.p = s.p + n := by
  unfold numF at h ⊢
  by_cases h1 : s.e ≠ 0
  · rw [if_pos h1] at h; exact absurd h h1
  · rw [if_neg h1] at h ⊢
    by_cases h2 : s.p + n ≤ 8 * bs.length
    · rw [if_pos h2]; exact ⟨by simpa using h1, rfl⟩
    · rw [if_neg h2] at h; simp at h
theorem blockF_p (h : (blockF bs most s).e = 0) : s.p + 3 ≤ (blockF bs most s).p := by
  unfold blockF at h ⊢
  have h1 := numF_okp (bs := bs) (n := 1) (s := s)
  generalize numF bs 1 s = a at *
  have h2 := numF_okp (bs := bs) (n := 2) (s := a.2)
  generalize numF bs 2 a.2 = b at *
  by_cases he : b.2.e ≠ 0
  · rw [if_pos he] at h; exact absurd h he
  · rw [if_neg he]
    have h3 := h2 (by simpa using he)
    have h4 := h1 h3.1
    have h5 := (kindF_grow (bs := bs) (most := most) (kd := b.1) (s := b.2)).p
    omega
theorem blocksF_sim (hB : Beg bs b2 most m2) : ∀ (f f2 : Nat) (s : Inf), Lock b2 m2 s → 8 * bs.length + 1 ≤ f + s.p → 8 * b2.length + 1 ≤ f2 + s.p → SimI b2 m2 (blocksF bs most f s) (blocksF b2 m2 f2 s) := by
  have hlen := hB.len
  intro f
  induction f with
  | zero => intro f2 s h h1 _; have := h.1; omega
  | succ f ih =>
    intro f2 s h h1 h2
    obtain ⟨f2, rfl⟩ : ∃ f', f2 = f' + 1 := ⟨f2 - 1, by have := h.1; omega⟩
    rw [blocksF, blocksF]
    have q := blockF_sim hB h
    have qp := blockF_p (bs := bs) (most := most) (s := s)
    have hg : ∀ (cs : List Nat) (m3 : Int) (u : Inf) (c : Prop) [Decidable c] (k : Nat), Grow u (if c then blocksF cs m3 k u else u) := by
      intro cs m3 u c _ k
      split
      · exact blocksF_grow _ _
      · exact Grow.rfl
    generalize blockF bs most s = b at *
    generalize blockF b2 m2 s = b' at *
    rcases q with ⟨⟨rfl, q⟩ | q, qv⟩ | q
    · rw [qv]
      by_cases hc : b'.e = 0 ∧ (numF bs 1 s).1 = 0
      · rw [if_pos hc, if_pos hc]
        have := qp hc.1
        exact ih f2 _ q (by omega) (by omega)
      · rw [if_neg hc, if_neg hc]; exact .lock q
    · exact .inr (q.step (hg _ _ _ _ _) (hg _ _ _ _ _))
    · exact .inr (q.step (hg _ _ _ _ _) (hg _ _ _ _ _))
/-- how the whole ends -/
def wholeF (bs : List Nat) (most : Int) : Inf := blocksF bs most (8 * bs.length + 1) ⟨0, [], 0⟩
theorem whole_sim (hB : Beg bs b2 most m2) (h0 : 0 ≤ m2) : SimI b2 m2 (wholeF bs most) (wholeF b2 m2) := blocksF_sim hB _ _ _ ⟨Nat.zero_le _, by simpa using h0⟩ (by simp) (by simp)
theorem whole_lock (h0 : 0 ≤ most) (he : (wholeF bs most).e = 0) : Lock bs most (wholeF bs most) := by
  rcases whole_sim (bs := bs) (b2 := bs) (most := most) (m2 := most) ⟨⟨[], by simp⟩, Int.le_refl _⟩ h0 with ⟨_, h⟩ | h
  · exact h
  · exact absurd he h.ne
theorem whole_p (he : (wholeF bs most).e = 0) : 3 ≤ (wholeF bs most).p := by
  unfold wholeF at he ⊢
  rw [blocksF] at he ⊢
  have h1 := blockF_p (bs := bs) (most := most) (s := ⟨0, [], 0⟩)
  generalize blockF bs most ⟨0, [], 0⟩ = b at *
  by_cases hc : b.e = 0 ∧ (numF bs 1 ⟨0, [], 0⟩).1 = 0
  · rw [if_pos hc] at he ⊢
    have h2 := (blocksF_grow (bs := bs) (most := most) (8 * bs.length) b).p
    have := h1 hc.1
    simp only at this; omega
  · rw [if_neg hc] at he ⊢
    have := h1 he
    simp only at this; omega
/-- what stands behind does not count -/
theorem whole_behind (h0 : 0 ≤ most) (he : (wholeF bs most).e = 0) (more : List Nat) : wholeF (bs.take (((wholeF bs most).p + 7) / 8) ++ more) most = wholeF bs most := by
  have hl := whole_lock h0 he
  have hn : ((wholeF bs most).p + 7) / 8 ≤ bs.length := by have := hl.1; omega
  have hp : (wholeF bs most).p ≤ 8 * (((wholeF bs most).p + 7) / 8) := by omega
  generalize ((wholeF bs most).p + 7) / 8 = n at *
  have hlen : (bs.take n).length = n := by rw [List.length_take]; omega
  have s1 := whole_sim (bs := bs) (b2 := bs.take n) (most := most) (m2 := most) ⟨⟨bs.drop n, (List.take_append_drop _ _).symm⟩, Int.le_refl _⟩ h0
  have s2 := whole_sim (bs := bs.take n ++ more) (b2 := bs.take n) (most := most) (m2 := most) ⟨⟨more, rfl⟩, Int.le_refl _⟩ h0
  have e1 : wholeF (bs.take n) most = wholeF bs most := by
    rcases s1 with ⟨h, _⟩ | ⟨_, h⟩ | ⟨_, h⟩
    · exact h
    · rcases h with h | h
      · exact absurd he h
      · rw [hlen] at h; omega
    · rcases h with h | h
      · exact absurd he h
      · have := hl.2; omega
  rcases s2 with ⟨h, _⟩ | h
  · rw [← h, e1]
  · exact absurd he (by rw [← e1]; exact h.ne)
/-- without its last byte it ends too soon -/
theorem whole_cut (h0 : 0 ≤ most) (he : (wholeF bs most).e = 0) {n : Nat} (hn : 8 * n < (wholeF bs most).p) : (wholeF (bs.take n) most).e = 3 := by
  have hl := whole_lock h0 he
  have hnl : n < bs.length := by have := hl.1; omega
  have hlen : (bs.take n).length = n := by rw [List.length_take]; omega
  have s1 := whole_sim (bs := bs) (b2 := bs.take n) (most := most) (m2 := most) ⟨⟨bs.drop n, (List.take_append_drop _ _).symm⟩, Int.le_refl _⟩ h0
  rcases s1 with ⟨_, h, _⟩ | ⟨h, _⟩ | ⟨_, h⟩
  · rw [hlen] at h; omega
  · exact h
  · rcases h with h | h
    · exact absurd he h
    · have := hl.2; omega
theorem whole_room (h0 : 0 ≤ most) (he : (wholeF bs most).e = 0) (hm : ((wholeF bs most).out.length : Int) ≤ m2) : wholeF bs m2 = wholeF bs most := by
  have hl := whole_lock h0 he
  by_cases hc : m2 ≤ most
  · rcases whole_sim (bs := bs) (b2 := bs) (most := most) (m2 := m2) ⟨⟨[], by simp⟩, hc⟩ (by omega) with ⟨h, _⟩ | ⟨_, h⟩ | ⟨_, h⟩
    · exact h
    · rcases h with h | h
      · exact absurd he h
      · have := hl.1; omega
    · rcases h with h | h
      · exact absurd he h
      · omega
  · rcases whole_sim (bs := bs) (b2 := bs) (most := m2) (m2 := most) ⟨⟨[], by simp⟩, by omega⟩ h0 with ⟨h, _⟩ | h
    · exact h.symm
    · exact absurd he h.ne
theorem whole_full (h0 : 0 ≤ most) (he : (wholeF bs most).e = 0) (hm0 : 0 ≤ m2) (hm : m2 < ((wholeF bs most).out.length : Int)) : (wholeF bs m2).e = 5 := by
  have hl := whole_lock h0 he
  rcases whole_sim (bs := bs) (b2 := bs) (most := most) (m2 := m2) ⟨⟨[], by simp⟩, by have := hl.2; omega⟩ hm0 with ⟨_, _, h⟩ | ⟨_, h⟩ | ⟨h, _⟩
  · omega
  · rcases h with h | h
    · exact absurd he h
    · have := hl.1; omega
  · exact h
end
end Go.Proofs.YtlokfmalpkahaaaGreat
