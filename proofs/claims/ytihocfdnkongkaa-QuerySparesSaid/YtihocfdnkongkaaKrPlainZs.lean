/- Stable sorting as a plain law: rows that are tagged by their places, a strict order of them, what merging and turning round leave. Conditions: none. -/
import Derived.Test.YtihocfdnkongkaaKrBase
namespace Go.Proofs.Ytihocfdnkongkaa
set_option linter.unusedVariables false
/-- a row and where it stood -/
structure Tg (α : Type) where
  row : α
  tag : Nat
/-- less, such that what isn't less either way counts as the same -/
structure Weak {α : Type} (lt : α → α → Bool) : Prop where
  asym : ∀ x y, lt x y = true → lt y x = false
  trans : ∀ x y z, lt x y = true → lt y z = true → lt x z = true
  neg : ∀ x y z, lt y x = false → lt z y = false → lt z x = false
/-- less, or the same and ahead of it -/
def Rt {α : Type} (lt : α → α → Bool) (x y : Tg α) : Prop := lt x.row y.row = true ∨ (lt y.row x.row = false ∧ x.tag < y.tag)
section
variable {α : Type} {lt : α → α → Bool}
theorem Rt.trans (w : Weak lt) {x y z : Tg α} (h : Rt lt x y) (k : Rt lt y z) : Rt lt x z := by
  have mix : ∀ {a b c : α}, lt a b = true → lt c b = false → lt a c = true := fun {a b c} h1 h2 => by
    cases hac : lt a c with
    | true => rfl
    | false =>
      have := w.neg c a b |> fun f => (w.neg b c a h2 hac)
      rw [h1] at this
      cases this
  have mix2 : ∀ {a b c : α}, lt b a = false → lt b c = true → lt a c = true := fun {a b c} h1 h2 => by
    cases hac : lt a c with
    | true => rfl
    | false =>
      have := w.neg c a b hac h1
      rw [h2] at this
      cases this
  rcases h with h | ⟨h, ht⟩
  · rcases k with k | ⟨k, kt⟩
    · exact .inl (w.trans _ _ _ h k)
    · exact .inl (mix h k)
  · rcases k with k | ⟨k, kt⟩
    · exact .inl (mix2 h k)
    · exact .inr ⟨w.neg _ _ _ h k, Nat.lt_trans ht kt⟩
theorem Rt.irr (w : Weak lt) {x : Tg α} (h : Rt lt x x) : False := by
  rcases h with h | ⟨_, h⟩
  · have := w.asym _ _ h
    rw [h] at this
    cases this
  · omega
theorem Rt.of_not (w : Weak lt) {x y : Tg α} (ht : x.tag < y.tag) (h : lt y.row x.row = false) : Rt lt x y := .inr ⟨h, ht⟩
theorem Rt.sorted_unique (w : Weak lt) : ∀ {a b : List (Tg α)}, a.Perm b → a.Pairwise (Rt lt) → b.Pairwise (Rt lt) → a = b := by
  intro a
  induction a with
  | nil => intro b h _ _; exact (List.Perm.nil_eq h)
  | cons x a ih =>
    intro b h ha hb
    cases b with
    | nil => exact absurd h.length_eq (by simp)
    | cons y b =>
      have ha1 := List.pairwise_cons.1 ha
      have hb1 := List.pairwise_cons.1 hb
      have hxy : x = y := by
        have hx : x ∈ y :: b := h.subset (List.mem_cons_self)
        have hy : y ∈ x :: a := h.symm.subset (List.mem_cons_self)
        rcases List.mem_cons.1 hx with e | hx
        · exact e
        · rcases List.mem_cons.1 hy with e | hy
          · exact e.symm
          · exact (Rt.irr w ((ha1.1 y hy).trans w (hb1.1 x hx))).elim
      subst hxy
      rw [ih (List.Perm.cons_inv h) ha1.2 hb1.2]
/-- two halves that are sorted, all of the one ahead of all of the other -/
theorem halves {A1 A2 B1 B2 C1 C2 : List (Tg α)} (h1 : C1.Perm (A1 ++ B1)) (h2 : C2.Perm (A2 ++ B2)) (s1 : C1.Pairwise (Rt lt)) (s2 : C2.Pairwise (Rt lt)) (ha : ∀ x ∈ A1 ++ B1, ∀ y ∈ A2 ++ B2, Rt lt x y) :
    (C1 ++ C2).Perm ((A1 ++ A2) ++ (B1 ++ B2)) ∧ (C1 ++ C2).Pairwise (Rt lt) := by
  refine ⟨?_, List.pairwise_append.2 ⟨s1, s2, fun x hx y hy => ha x (h1.subset hx) y (h2.subset hy)⟩⟩
  refine (h1.append h2).trans ?_
  rw [List.append_assoc, List.append_assoc]
  refine List.Perm.append_left A1 ?_
  rw [← List.append_assoc, ← List.append_assoc]
  exact List.Perm.append_right B2 List.perm_append_comm
/-- the split of two runs -/
theorem split_all (w : Weak lt) {A1 A2 B1 B2 : List (Tg α)} (sA : (A1 ++ A2).Pairwise (Rt lt)) (sB : (B1 ++ B2).Pairwise (Rt lt))
    (h1 : ∀ (hA : A1 ≠ []) (hB : B2 ≠ []), Rt lt (A1.getLast hA) (B2.head hB)) (h2 : ∀ (hB : B1 ≠ []) (hA : A2 ≠ []), Rt lt (B1.getLast hB) (A2.head hA)) : ∀ x ∈ A1 ++ B1, ∀ y ∈ A2 ++ B2, Rt lt x y := by
  have cross : ∀ {L M : List (Tg α)}, L.Pairwise (Rt lt) → M.Pairwise (Rt lt) → (∀ (hL : L ≠ []) (hM : M ≠ []), Rt lt (L.getLast hL) (M.head hM)) → ∀ x ∈ L, ∀ y ∈ M, Rt lt x y := by
    intro L M sL sM h x hx y hy
    have hL : L ≠ [] := List.ne_nil_of_mem hx
    have hM : M ≠ [] := List.ne_nil_of_mem hy
    have e1 : x = L.getLast hL ∨ Rt lt x (L.getLast hL) := by
      rw [← List.dropLast_concat_getLast hL] at sL hx
      rw [List.mem_append] at hx
      rcases hx with hx | hx
      · right
        exact (List.pairwise_append.1 sL).2.2 x hx _ (List.mem_singleton.2 rfl)
      · left
        exact List.mem_singleton.1 hx
    have e2 : y = M.head hM ∨ Rt lt (M.head hM) y := by
      cases M with
      | nil => exact absurd rfl hM
      | cons m M =>
        rcases List.mem_cons.1 hy with e | hy
        · exact .inl e
        · exact .inr ((List.pairwise_cons.1 sM).1 y hy)
    have hm := h hL hM
    rcases e1 with e1 | e1
    · rw [e1]
      rcases e2 with e2 | e2
      · rw [e2]; exact hm
      · exact hm.trans w e2
    · rcases e2 with e2 | e2
      · rw [e2]; exact e1.trans w hm
      · exact (e1.trans w hm).trans w e2
  have pA := List.pairwise_append.1 sA
  have pB := List.pairwise_append.1 sB
  intro x hx y hy
  rw [List.mem_append] at hx hy
  rcases hx with hx | hx
  · rcases hy with hy | hy
    · exact pA.2.2 x hx y hy
    · exact cross pA.1 pB.2.1 h1 x hx y hy
  · rcases hy with hy | hy
    · exact cross pB.1 pA.2.1 h2 x hx y hy
    · exact pB.2.2 x hx y hy
/-- one element set into a run -/
theorem insert_sorted (w : Weak lt) {L M : List (Tg α)} {x : Tg α} (s : (L ++ M).Pairwise (Rt lt)) (h1 : ∀ y ∈ L, Rt lt y x) (h2 : ∀ y ∈ M, Rt lt x y) : (L ++ [x] ++ M).Pairwise (Rt lt) := by
  have p := List.pairwise_append.1 s
  rw [List.append_assoc, List.pairwise_append]
  refine ⟨p.1, ?_, fun a ha b hb => ?_⟩
  · rw [List.singleton_append, List.pairwise_cons]
    exact ⟨h2, p.2.1⟩
  · rw [List.singleton_append] at hb
    rcases List.mem_cons.1 hb with rfl | hb
    · exact h1 a ha
    · exact p.2.2 a ha b hb
end
/-- two elements in each other's place -/
def swapL {α : Type} (l : List α) (i j : Nat) : List α := match l[i]?, l[j]? with
  | some x, some y => (l.set i y).set j x
  | _, _ => l
theorem swapL_eq {α : Type} {l : List α} {i j : Nat} (hi : i < l.length) (hj : j < l.length) : swapL l i j = (l.set i l[j]).set j l[i] := by
  unfold swapL
  rw [List.getElem?_eq_getElem hi, List.getElem?_eq_getElem hj]
theorem swapL_len {α : Type} (l : List α) (i j : Nat) : (swapL l i j).length = l.length := by
  unfold swapL
  split <;> simp
theorem swapL_map {α β : Type} (f : α → β) (l : List α) (i j : Nat) : (swapL l i j).map f = swapL (l.map f) i j := by
  unfold swapL
  rw [List.getElem?_map, List.getElem?_map]
  cases l[i]? with
  | none => rfl
  | some x =>
    cases l[j]? with
    | none => rfl
    | some y => simp [List.map_set]
/-- neighbours -/
theorem swapL_next {α : Type} (P S : List α) (x y : α) : swapL (P ++ [x, y] ++ S) P.length (P.length + 1) = P ++ [y, x] ++ S := by
  rw [swapL_eq (by simp) (by simp)]
  simp [List.set_append, List.getElem_append]
theorem swapL_prev {α : Type} (P S : List α) (x y : α) : swapL (P ++ [x, y] ++ S) (P.length + 1) P.length = P ++ [y, x] ++ S := by
  rw [swapL_eq (by simp) (by simp)]
  simp [List.set_append, List.getElem_append]
/-- n elements from i on and from j on in each other's place -/
def swapsL {α : Type} (l : List α) (i j : Nat) : Nat → List α
  | 0 => l
  | n + 1 => swapL (swapsL l i j n) (i + n) (j + n)
theorem swapsL_len {α : Type} (l : List α) (i j n : Nat) : (swapsL l i j n).length = l.length := by
  induction n with
  | zero => rfl
  | succ n ih => rw [swapsL, swapL_len, ih]
theorem swapsL_map {α β : Type} (f : α → β) (l : List α) (i j n : Nat) : (swapsL l i j n).map f = swapsL (l.map f) i j n := by
  induction n with
  | zero => rfl
  | succ n ih => rw [swapsL, swapL_map, ih]; rfl
theorem swapsL_get {α : Type} (l : List α) (i j n k : Nat) (h : i + n ≤ j) (hj : j + n ≤ l.length) : (swapsL l i j n)[k]? = if i ≤ k ∧ k < i + n then l[j + (k - i)]? else if j ≤ k ∧ k < j + n then l[i + (k - j)]? else l[k]? := by
  induction n generalizing k with
  | zero =>
    rw [if_neg (by omega), if_neg (by omega)]
    rfl
  | succ n ih =>
    have hi1 : i + n < (swapsL l i j n).length := by rw [swapsL_len]; omega
    have hj1 : j + n < (swapsL l i j n).length := by rw [swapsL_len]; omega
    have g1 : (swapsL l i j n)[i + n]? = l[i + n]? := by rw [ih (i + n) (by omega) (by omega), if_neg (by omega), if_neg (by omega)]
    have g2 : (swapsL l i j n)[j + n]? = l[j + n]? := by rw [ih (j + n) (by omega) (by omega), if_neg (by omega), if_neg (by omega)]
    rw [swapsL, swapL_eq hi1 hj1, List.getElem?_set, List.getElem?_set]
    by_cases e1 : j + n = k
    · subst e1
      rw [if_pos rfl, if_pos (by rw [List.length_set]; exact hj1), if_neg (by omega), if_pos (by omega), ← List.getElem?_eq_getElem hi1, g1]
      congr 1
      omega
    · rw [if_neg e1]
      by_cases e2 : i + n = k
      · subst e2
        rw [if_pos rfl, if_pos hi1, if_pos (by omega), ← List.getElem?_eq_getElem hj1, g2]
        congr 1
        omega
      · rw [if_neg e2, ih k (by omega) (by omega)]
        by_cases c1 : i ≤ k ∧ k < i + n
        · rw [if_pos c1, if_pos (show i ≤ k ∧ k < i + (n + 1) by omega)]
        · rw [if_neg c1, if_neg (show ¬ (i ≤ k ∧ k < i + (n + 1)) by omega)]
          by_cases c2 : j ≤ k ∧ k < j + n
          · rw [if_pos c2, if_pos (show j ≤ k ∧ k < j + (n + 1) by omega)]
          · rw [if_neg c2, if_neg (show ¬ (j ≤ k ∧ k < j + (n + 1)) by omega)]
/-- two stretches of the same length, what is between them stays -/
theorem swapsL_parts {α : Type} (P X Y Z S : List α) (h : X.length = Z.length) : swapsL (P ++ X ++ Y ++ Z ++ S) P.length (P.length + X.length + Y.length) X.length = P ++ Z ++ Y ++ X ++ S := by
  apply List.ext_getElem?
  intro k
  rw [swapsL_get _ _ _ _ _ (by omega) (by simp; omega)]
  simp only [List.getElem?_append, List.length_append]
  repeat' split
  all_goals first
    | rfl
    | (exfalso; omega)
    | (congr 1; omega)
/-- l, but for the stretch from a up to b, of which what stands from m on comes first -/
def rotL {α : Type} (l : List α) (a m b : Nat) : List α := l.take a ++ (l.drop m).take (b - m) ++ (l.drop a).take (m - a) ++ l.drop b
theorem rotL_parts {α : Type} (P A B S : List α) : rotL (P ++ A ++ B ++ S) P.length (P.length + A.length) (P.length + A.length + B.length) = P ++ B ++ A ++ S := by
  unfold rotL
  have e1 : (P ++ A ++ B ++ S).take P.length = P := by simp [List.append_assoc]
  have e2 : (P ++ A ++ B ++ S).drop (P.length + A.length) = B ++ S := by
    rw [← List.length_append, List.append_assoc, List.drop_left]
  have e3 : (P ++ A ++ B ++ S).drop P.length = A ++ (B ++ S) := by simp [List.append_assoc]
  have e4 : (P ++ A ++ B ++ S).drop (P.length + A.length + B.length) = S := by
    rw [← List.length_append, ← List.length_append, List.drop_left]
  rw [e1, e2, e3, e4, Nat.add_sub_cancel_left, Nat.add_sub_cancel_left, List.take_left, List.take_left]
theorem split4 {α : Type} (l : List α) (a i j : Nat) (h : a + i + j ≤ l.length) : ∃ P A B S : List α, l = P ++ A ++ B ++ S ∧ P.length = a ∧ A.length = i ∧ B.length = j :=
  ⟨l.take a, (l.drop a).take i, (l.drop (a + i)).take j, l.drop (a + i + j), by
    have e1 := List.take_append_drop a l
    have e2 := List.take_append_drop i (l.drop a)
    have e3 := List.take_append_drop j (l.drop (a + i))
    rw [List.drop_drop] at e2 e3
    rw [List.append_assoc, List.append_assoc, e3, e2, e1], by simp; omega, by simp; omega, by simp; omega⟩
/-- the turning round, step by step -/
theorem rot_left {α : Type} (l : List α) {m i j : Nat} (hij : j < i) (hm : i ≤ m) (h : m + j ≤ l.length) : rotL (swapsL l (m - i) m j) (m - i + j) m (m + j) = rotL l (m - i) m (m + j) := by
  obtain ⟨P, A, Z, S, rfl, hP, hA, hZ⟩ := split4 l (m - i) i j (by omega)
  obtain ⟨X, Y, rfl, hX, hY⟩ : ∃ X Y : List α, A = X ++ Y ∧ X.length = j ∧ Y.length = i - j := ⟨A.take j, A.drop j, (List.take_append_drop j A).symm, by simp; omega, by simp; omega⟩
  have e1 := swapsL_parts P X Y Z S (by omega)
  have e2 := rotL_parts (P ++ Z) Y X S
  have e3 := rotL_parts P (X ++ Y) Z S
  rw [List.length_append] at e2 hA
  rw [List.length_append] at e3
  rw [show m - i = P.length by omega, show swapsL (P ++ (X ++ Y) ++ Z ++ S) P.length m j = P ++ Z ++ Y ++ X ++ S by rw [← e1]; simp only [List.append_assoc]; congr 1 <;> omega]
  rw [show P.length + j = P.length + Z.length by omega, show m = P.length + Z.length + Y.length by omega, show P.length + Z.length + Y.length + j = P.length + Z.length + Y.length + X.length by omega, e2]
  rw [show P.length + Z.length + Y.length = P.length + (X.length + Y.length) by omega, show P.length + (X.length + Y.length) + X.length = P.length + (X.length + Y.length) + Z.length by omega, e3]
  simp only [List.append_assoc]
theorem rot_right {α : Type} (l : List α) {m i j : Nat} (hij : i < j) (hm : i ≤ m) (h : m + j ≤ l.length) : rotL (swapsL l (m - i) (m + j - i) i) (m - i) m (m + (j - i)) = rotL l (m - i) m (m + j) := by
  obtain ⟨P, X, B, S, rfl, hP, hX, hB⟩ := split4 l (m - i) i j (by omega)
  obtain ⟨Y, Z, rfl, hY, hZ⟩ : ∃ Y Z : List α, B = Y ++ Z ∧ Y.length = j - i ∧ Z.length = i := ⟨B.take (j - i), B.drop (j - i), (List.take_append_drop (j - i) B).symm, by simp; omega, by simp; omega⟩
  have e1 := swapsL_parts P X Y Z S (by omega)
  have e2 := rotL_parts P Z Y (X ++ S)
  have e3 := rotL_parts P X (Y ++ Z) S
  rw [List.length_append] at e3 hB
  rw [show m - i = P.length by omega, show swapsL (P ++ X ++ (Y ++ Z) ++ S) P.length (m + j - i) i = P ++ Z ++ Y ++ (X ++ S) by
    rw [← List.append_assoc (P ++ Z ++ Y), ← e1]; simp only [List.append_assoc]; congr 1 <;> omega]
  rw [show m = P.length + Z.length by omega, show P.length + Z.length + (j - i) = P.length + Z.length + Y.length by omega, e2]
  rw [show P.length + Z.length = P.length + X.length by omega, show P.length + X.length + j = P.length + X.length + (Y.length + Z.length) by omega, e3]
  simp only [List.append_assoc]
theorem rot_last {α : Type} (l : List α) {m i : Nat} (hm : i ≤ m) (h : m + i ≤ l.length) : swapsL l (m - i) m i = rotL l (m - i) m (m + i) := by
  obtain ⟨P, X, Z, S, rfl, hP, hX, hZ⟩ := split4 l (m - i) i i (by omega)
  have e1 := swapsL_parts P X [] Z S (by omega)
  have e3 := rotL_parts P X Z S
  simp only [List.append_nil, List.length_nil, Nat.add_zero] at e1
  rw [show m - i = P.length by omega, show m = P.length + X.length by omega, show swapsL (P ++ X ++ Z ++ S) P.length (P.length + X.length) i = P ++ Z ++ X ++ S by rw [← e1]; congr 1; omega, show P.length + X.length + i = P.length + X.length + Z.length by omega, e3]
theorem rotL_len {α : Type} (l : List α) {a m b : Nat} (h1 : a ≤ m) (h2 : m ≤ b) (h3 : b ≤ l.length) : (rotL l a m b).length = l.length := by
  unfold rotL
  simp
  omega
end Go.Proofs.Ytihocfdnkongkaa
