/- Stable sorting by setting in one by one, as a plain law. Conditions: none. -/
import Derived.Test.YtihocfdnkongkaaKrPlainZs
namespace Go.Proofs.Ytihocfdnkongkaa
set_option linter.unusedVariables false
section
variable {α : Type}
/-- where x is to stand among the first n, looked for from behind -/
def posF (lt : α → α → Bool) (x : α) (l : List α) : Nat → Nat
  | 0 => 0
  | n + 1 => match l[n]? with
    | some y => if lt x y = true then posF lt x l n else n + 1
    | none => n + 1
def insF (lt : α → α → Bool) (x : α) (l : List α) : List α := l.take (posF lt x l l.length) ++ [x] ++ l.drop (posF lt x l l.length)
def sortF (lt : α → α → Bool) (l : List α) : List α := l.foldl (fun a x => insF lt x a) []
theorem posF_le (lt : α → α → Bool) (x : α) (l : List α) : ∀ n, posF lt x l n ≤ n
  | 0 => Nat.le_refl _
  | n + 1 => by
    unfold posF
    split
    · split
      · exact Nat.le_succ_of_le (posF_le lt x l n)
      · exact Nat.le_refl _
    · exact Nat.le_refl _
theorem posF_above (lt : α → α → Bool) (x : α) (l : List α) : ∀ n i y, posF lt x l n ≤ i → i < n → l[i]? = some y → lt x y = true
  | 0, i, y, h1, h2, h3 => by omega
  | n + 1, i, y, h1, h2, h3 => by
    unfold posF at h1
    split at h1
    · next z hz =>
      split at h1
      · next hlt =>
        by_cases e : i = n
        · subst e
          rw [h3] at hz
          injection hz with hz
          rw [hz]
          exact hlt
        · exact posF_above lt x l n i y h1 (by omega) h3
      · omega
    · omega
theorem posF_at (lt : α → α → Bool) (x : α) (l : List α) : ∀ n, n ≤ l.length → 0 < posF lt x l n → ∃ y, l[posF lt x l n - 1]? = some y ∧ lt x y = false
  | 0, _, h => by simp [posF] at h
  | n + 1, hn, h => by
    have hg : l[n]? = some (l[n]'(by omega)) := List.getElem?_eq_getElem (by omega)
    unfold posF at h ⊢
    rw [hg] at h ⊢
    simp only at h ⊢
    by_cases hlt : lt x l[n] = true
    · rw [if_pos hlt] at h ⊢
      exact posF_at lt x l n (by omega) h
    · rw [if_neg hlt]
      exact ⟨_, hg, by simpa using hlt⟩
theorem posF_map {β : Type} (f : β → α) (lt : α → α → Bool) (x : β) (l : List β) : ∀ n, posF (fun a b => lt (f a) (f b)) x l n = posF lt (f x) (l.map f) n
  | 0 => rfl
  | n + 1 => by
    unfold posF
    rw [List.getElem?_map, posF_map f lt x l n]
    cases l[n]? with
    | none => rfl
    | some y => rfl
theorem insF_map {β : Type} (f : β → α) (lt : α → α → Bool) (x : β) (l : List β) : (insF (fun a b => lt (f a) (f b)) x l).map f = insF lt (f x) (l.map f) := by
  unfold insF
  rw [posF_map, List.length_map]
  simp [List.map_take, List.map_drop]
theorem sortF_map {β : Type} (f : β → α) (lt : α → α → Bool) (l : List β) : (sortF (fun a b => lt (f a) (f b)) l).map f = sortF lt (l.map f) := by
  unfold sortF
  suffices H : ∀ (l a : List β), (l.foldl (fun a x => insF (fun a b => lt (f a) (f b)) x a) a).map f = (l.map f).foldl (fun a x => insF lt x a) (a.map f) from H l []
  intro l
  induction l with
  | nil => intro a; rfl
  | cons x l ih =>
    intro a
    rw [List.foldl_cons, List.map_cons, List.foldl_cons, ih, insF_map]
theorem insF_perm (lt : α → α → Bool) (x : α) (l : List α) : (insF lt x l).Perm (x :: l) := by
  unfold insF
  conv => rhs; rw [← List.take_append_drop (posF lt x l l.length) l]
  rw [List.append_assoc, List.singleton_append]
  exact List.perm_middle
/-- rows by their places -/
def tagF (l : List α) : List (Tg α) := l.zipIdx.map fun p => ⟨p.1, p.2⟩
theorem tagF_len (l : List α) : (tagF l).length = l.length := by simp [tagF]
theorem tagF_get (l : List α) (i : Nat) (h : i < (tagF l).length) : (tagF l)[i] = ⟨l[i]'(by rw [tagF_len] at h; exact h), i⟩ := by simp [tagF]
theorem tagF_row (l : List α) : (tagF l).map (fun x => x.row) = l := by
  apply List.ext_getElem
  · simp [tagF]
  · intro i h1 h2
    simp [tagF]
variable {lt : α → α → Bool}
def ltT (lt : α → α → Bool) (a b : Tg α) : Bool := lt a.row b.row
theorem ins_sorted (w : Weak lt) {x : Tg α} {l : List (Tg α)} (s : l.Pairwise (Rt lt)) (ht : ∀ y ∈ l, y.tag < x.tag) : (insF (ltT lt) x l).Pairwise (Rt lt) := by
  have hp := posF_le (ltT lt) x l l.length
  unfold insF
  generalize hP : posF (ltT lt) x l l.length = p at *
  have s' : (l.take p ++ l.drop p).Pairwise (Rt lt) := by rw [List.take_append_drop]; exact s
  refine insert_sorted w s' (fun y hy => ?_) (fun y hy => ?_)
  · obtain ⟨i, hi, rfl⟩ := List.mem_iff_getElem.1 hy
    rw [List.length_take] at hi
    rw [List.getElem_take]
    have h0 : 0 < posF (ltT lt) x l l.length := by omega
    obtain ⟨z, hz, hlt⟩ := posF_at (ltT lt) x l l.length (Nat.le_refl _) h0
    rw [hP] at hz
    have hpl : p - 1 < l.length := by omega
    rw [List.getElem?_eq_getElem hpl] at hz
    injection hz with hz
    have hzx : Rt lt z x := Rt.of_not w (by rw [← hz]; exact ht _ (List.getElem_mem hpl)) hlt
    by_cases e : i = p - 1
    · subst e
      rw [hz]
      exact hzx
    · have := List.pairwise_iff_getElem.1 s i (p - 1) (by omega) hpl (by omega)
      rw [hz] at this
      exact this.trans w hzx
  · obtain ⟨i, hi, rfl⟩ := List.mem_iff_getElem.1 hy
    rw [List.length_drop] at hi
    rw [List.getElem_drop]
    exact .inl (posF_above (ltT lt) x l l.length (p + i) _ (by omega) (by omega) (List.getElem?_eq_getElem (by omega)))
theorem sort_sorted (w : Weak lt) (l : List α) : (sortF (ltT lt) (tagF l)).Pairwise (Rt lt) ∧ (sortF (ltT lt) (tagF l)).Perm (tagF l) := by
  suffices H : ∀ k, k ≤ l.length → (sortF (ltT lt) ((tagF l).take k)).Pairwise (Rt lt) ∧ (sortF (ltT lt) ((tagF l).take k)).Perm ((tagF l).take k) by
    have := H l.length (Nat.le_refl _)
    rw [List.take_of_length_le (by rw [tagF_len]; exact Nat.le_refl _)] at this
    exact this
  intro k
  induction k with
  | zero => intro _; simp [sortF]
  | succ k ih =>
    intro hk
    obtain ⟨h1, h2⟩ := ih (by omega)
    have hkl : k < (tagF l).length := by rw [tagF_len]; omega
    have e : sortF (ltT lt) ((tagF l).take (k + 1)) = insF (ltT lt) (tagF l)[k] (sortF (ltT lt) ((tagF l).take k)) := by
      unfold sortF
      rw [List.take_succ_eq_append_getElem hkl, List.foldl_append]
      rfl
    rw [e]
    refine ⟨ins_sorted w h1 fun y hy => ?_, ?_⟩
    · have hy2 := h2.subset hy
      obtain ⟨i, hi, rfl⟩ := List.mem_iff_getElem.1 hy2
      rw [List.length_take] at hi
      rw [List.getElem_take, tagF_get, tagF_get]
      show i < k
      omega
    · refine (insF_perm _ _ _).trans ?_
      rw [List.take_succ_eq_append_getElem hkl]
      exact (List.Perm.cons _ h2).trans (List.perm_append_singleton _ _).symm
/-- whatever is sorted so is what the setting in makes -/
theorem sort_unique (w : Weak lt) {l : List α} {r : List (Tg α)} (hp : r.Perm (tagF l)) (hs : r.Pairwise (Rt lt)) : r.map (fun x => x.row) = sortF lt l := by
  obtain ⟨h1, h2⟩ := sort_sorted w l
  rw [Rt.sorted_unique w (hp.trans h2.symm) hs h1]
  have := sortF_map (fun x : Tg α => x.row) lt (tagF l)
  rw [tagF_row] at this
  exact this
end
end Go.Proofs.Ytihocfdnkongkaa
