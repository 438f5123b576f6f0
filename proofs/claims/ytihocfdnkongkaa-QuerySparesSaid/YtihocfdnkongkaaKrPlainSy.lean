/- slices' symMerge as a plain law: what a split, a turn and two merges leave; one element set into a run. Conditions: none. -/
import Derived.Test.YtihocfdnkongkaaKrPlainSo
namespace Go.Proofs.Ytihocfdnkongkaa
set_option linter.unusedVariables false
section
variable {α : Type} {lt : α → α → Bool}
/-- a stretch of ys from a on, of two runs that meet at m; what stands left stood ahead of what stands right -/
structure Runs (lt : α → α → Bool) (P A B S : List (Tg α)) : Prop where
  sa : A.Pairwise (Rt lt)
  sb : B.Pairwise (Rt lt)
  tg : ∀ x ∈ A, ∀ y ∈ B, x.tag < y.tag
/-- the stretch in order -/
def Merged (lt : α → α → Bool) (A B C : List (Tg α)) : Prop := C.Perm (A ++ B) ∧ C.Pairwise (Rt lt)
theorem Merged.left {A : List (Tg α)} (h : A.Pairwise (Rt lt)) : Merged lt A [] A := ⟨by rw [List.append_nil], h⟩
theorem Merged.right {A : List (Tg α)} (h : A.Pairwise (Rt lt)) : Merged lt [] A A := ⟨by rw [List.nil_append], h⟩
theorem get_last {l : List (Tg α)} (h : l ≠ []) : l.getLast h = l[l.length - 1]'(by have := List.length_pos_iff.2 h; omega) := List.getLast_eq_getElem h
theorem app_get {P A : List (Tg α)} {S : List (Tg α)} {i : Nat} (h1 : P.length ≤ i) (h2 : i - P.length < A.length) (h3 : i < (P ++ A ++ S).length) : (P ++ A ++ S)[i] = A[i - P.length] := by
  rw [List.getElem_append_left (by rw [List.length_append]; omega), List.getElem_append_right h1]
/-- the split of symMerge -/
theorem sym_split (w : Weak lt) {P A B S : List (Tg α)} (h : Runs lt P A B S) {m b mid start end_ : Nat} (hm : P.length + A.length = m) (hb : m + B.length = b) (hmid1 : 2 * mid ≤ P.length + b) (hmid2 : P.length + b ≤ 2 * mid + 1) (he : end_ + start = mid + m) (h1 : P.length ≤ start) (h2 : start ≤ m) (h3 : m ≤ end_) (h4 : end_ ≤ b)
    (hlo : ∀ (hs : P.length < start) (he : end_ < b), ∃ x y, (P ++ A ++ B ++ S)[start - 1]? = some x ∧ (P ++ A ++ B ++ S)[end_]? = some y ∧ Rt lt x y)
    (hhi : ∀ (hs : start < m) (he : m < end_), ∃ x y, (P ++ A ++ B ++ S)[end_ - 1]? = some x ∧ (P ++ A ++ B ++ S)[start]? = some y ∧ Rt lt x y) :
    ∃ A1 A2 B1 B2 : List (Tg α), A = A1 ++ A2 ∧ B = B1 ++ B2 ∧ A1.length = start - P.length ∧ A2.length = m - start ∧ B1.length = end_ - m ∧ B2.length = b - end_ ∧ rotL (P ++ A ++ B ++ S) start m end_ = P ++ (A1 ++ B1) ++ (A2 ++ B2) ++ S ∧ (∀ x ∈ A1 ++ B1, ∀ y ∈ A2 ++ B2, Rt lt x y) := by
  refine ⟨A.take (start - P.length), A.drop (start - P.length), B.take (end_ - m), B.drop (end_ - m), (List.take_append_drop _ _).symm, (List.take_append_drop _ _).symm, by simp; omega, by simp; omega, by simp; omega, by simp; omega, ?_, ?_⟩
  · obtain ⟨A1, A2, rfl, hA⟩ : ∃ A1 A2 : List (Tg α), A = A1 ++ A2 ∧ A1.length = start - P.length := ⟨_, _, (List.take_append_drop (start - P.length) A).symm, by simp; omega⟩
    obtain ⟨B1, B2, rfl, hB⟩ : ∃ B1 B2 : List (Tg α), B = B1 ++ B2 ∧ B1.length = end_ - m := ⟨_, _, (List.take_append_drop (end_ - m) B).symm, by simp; omega⟩
    rw [List.length_append] at hm hb
    have e1 : (A1 ++ A2).take (start - P.length) = A1 := by rw [← hA, List.take_left]
    have e2 : (A1 ++ A2).drop (start - P.length) = A2 := by rw [← hA, List.drop_left]
    have e3 : (B1 ++ B2).take (end_ - m) = B1 := by rw [← hB, List.take_left]
    have e4 : (B1 ++ B2).drop (end_ - m) = B2 := by rw [← hB, List.drop_left]
    rw [e1, e2, e3, e4]
    have hr := rotL_parts (P ++ A1) A2 B1 (B2 ++ S)
    rw [show P ++ (A1 ++ A2) ++ (B1 ++ B2) ++ S = P ++ A1 ++ A2 ++ B1 ++ (B2 ++ S) by simp only [List.append_assoc], show start = (P ++ A1).length by rw [List.length_append]; omega, show m = (P ++ A1).length + A2.length by rw [List.length_append]; omega, show end_ = (P ++ A1).length + A2.length + B1.length by rw [List.length_append]; omega, hr]
    simp only [List.append_assoc]
  · refine split_all w (by rw [List.take_append_drop]; exact h.sa) (by rw [List.take_append_drop]; exact h.sb) (fun hA hB => ?_) (fun hB hA => ?_)
    · have hA' := List.length_pos_iff.2 hA
      have hB' := List.length_pos_iff.2 hB
      rw [List.length_take] at hA'
      rw [List.length_drop] at hB'
      obtain ⟨x, y, hx, hy, hxy⟩ := hlo (by omega) (by omega)
      have ex : x = (A.take (start - P.length)).getLast hA := by
        rw [List.getLast_eq_getElem, List.getElem_take]
        rw [List.append_assoc, List.append_assoc, List.getElem?_append_right (by omega), List.getElem?_append_left (by omega), List.getElem?_eq_getElem (by omega)] at hx
        injection hx with hx
        rw [← hx]
        congr 1
        rw [List.length_take]
        omega
      have ey : y = (B.drop (end_ - m)).head hB := by
        rw [List.head_eq_getElem, List.getElem_drop]
        rw [List.append_assoc, List.append_assoc, List.getElem?_append_right (by omega), List.getElem?_append_right (by omega), List.getElem?_append_left (by omega), List.getElem?_eq_getElem (by omega)] at hy
        injection hy with hy
        rw [← hy]
        congr 1
        try omega
      rw [← ex, ← ey]
      exact hxy
    · have hA' := List.length_pos_iff.2 hA
      have hB' := List.length_pos_iff.2 hB
      rw [List.length_drop] at hA'
      rw [List.length_take] at hB'
      obtain ⟨x, y, hx, hy, hxy⟩ := hhi (by omega) (by omega)
      have ex : x = (B.take (end_ - m)).getLast hB := by
        rw [List.getLast_eq_getElem, List.getElem_take]
        rw [List.append_assoc, List.append_assoc, List.getElem?_append_right (by omega), List.getElem?_append_right (by omega), List.getElem?_append_left (by omega), List.getElem?_eq_getElem (by omega)] at hx
        injection hx with hx
        rw [← hx]
        congr 1
        rw [List.length_take]
        omega
      have ey : y = (A.drop (start - P.length)).head hA := by
        rw [List.head_eq_getElem, List.getElem_drop]
        rw [List.append_assoc, List.append_assoc, List.getElem?_append_right (by omega), List.getElem?_append_left (by omega), List.getElem?_eq_getElem (by omega)] at hy
        injection hy with hy
        rw [← hy]
        congr 1
        try omega
      rw [← ex, ← ey]
      exact hxy
theorem Runs.one {P A1 A2 B1 B2 S P' S' : List (Tg α)} (h : Runs lt P (A1 ++ A2) (B1 ++ B2) S) : Runs lt P' A1 B1 S' :=
  ⟨(List.pairwise_append.1 h.sa).1, (List.pairwise_append.1 h.sb).1, fun x hx y hy => h.tg x (List.mem_append_left _ hx) y (List.mem_append_left _ hy)⟩
theorem Runs.two {P A1 A2 B1 B2 S P' S' : List (Tg α)} (h : Runs lt P (A1 ++ A2) (B1 ++ B2) S) : Runs lt P' A2 B2 S' :=
  ⟨(List.pairwise_append.1 h.sa).2.1, (List.pairwise_append.1 h.sb).2.1, fun x hx y hy => h.tg x (List.mem_append_right _ hx) y (List.mem_append_right _ hy)⟩
theorem Merged.both {A1 A2 B1 B2 C1 C2 : List (Tg α)} (h1 : Merged lt A1 B1 C1) (h2 : Merged lt A2 B2 C2) (ha : ∀ x ∈ A1 ++ B1, ∀ y ∈ A2 ++ B2, Rt lt x y) : Merged lt (A1 ++ A2) (B1 ++ B2) (C1 ++ C2) :=
  halves h1.1 h2.1 h1.2 h2.2 ha
/-- a left run of one element -/
theorem one_left (w : Weak lt) {x : Tg α} {B : List (Tg α)} {k : Nat} (hk : k ≤ B.length) (sb : B.Pairwise (Rt lt)) (h1 : 0 < k → ∃ y, B[k - 1]? = some y ∧ Rt lt y x) (h2 : k < B.length → ∃ y, B[k]? = some y ∧ Rt lt x y) : Merged lt [x] B (B.take k ++ [x] ++ B.drop k) := by
  refine ⟨?_, insert_sorted w (by rw [List.take_append_drop]; exact sb) (fun y hy => ?_) (fun y hy => ?_)⟩
  · conv => rhs; rw [← List.take_append_drop k B]
    rw [List.append_assoc, List.singleton_append]
    exact List.perm_middle
  · obtain ⟨i, hi, rfl⟩ := List.mem_iff_getElem.1 hy
    rw [List.length_take] at hi
    rw [List.getElem_take]
    obtain ⟨z, hz, hzx⟩ := h1 (by omega)
    rw [List.getElem?_eq_getElem (by omega)] at hz
    injection hz with hz
    by_cases e : i = k - 1
    · subst e; rw [hz]; exact hzx
    · have := List.pairwise_iff_getElem.1 sb i (k - 1) (by omega) (by omega) (by omega)
      rw [hz] at this
      exact this.trans w hzx
  · obtain ⟨i, hi, rfl⟩ := List.mem_iff_getElem.1 hy
    rw [List.length_drop] at hi
    rw [List.getElem_drop]
    obtain ⟨z, hz, hzx⟩ := h2 (by omega)
    rw [List.getElem?_eq_getElem (by omega)] at hz
    injection hz with hz
    by_cases e : i = 0
    · subst e; rw [show B[k + 0] = z from hz]; exact hzx
    · have := List.pairwise_iff_getElem.1 sb k (k + i) (by omega) (by omega) (by omega)
      rw [hz] at this
      exact hzx.trans w this
/-- a right run of one element -/
theorem one_right (w : Weak lt) {x : Tg α} {A : List (Tg α)} {k : Nat} (hk : k ≤ A.length) (sa : A.Pairwise (Rt lt)) (h1 : 0 < k → ∃ y, A[k - 1]? = some y ∧ Rt lt y x) (h2 : k < A.length → ∃ y, A[k]? = some y ∧ Rt lt x y) : Merged lt A [x] (A.take k ++ [x] ++ A.drop k) := by
  have h := one_left w hk sa h1 h2
  exact ⟨h.1.trans List.perm_append_comm, h.2⟩
/-- an element on its way -/
theorem move_right (P S B : List (Tg α)) (x : Tg α) (k : Nat) (hk : k < B.length) : swapL (P ++ (B.take k ++ [x] ++ B.drop k) ++ S) (P.length + k) (P.length + k + 1) = P ++ (B.take (k + 1) ++ [x] ++ B.drop (k + 1)) ++ S := by
  have e := swapL_next (P ++ B.take k) (B.drop (k + 1) ++ S) x B[k]
  rw [List.length_append, List.length_take, show min k B.length = k by omega] at e
  rw [List.drop_eq_getElem_cons hk, List.take_succ_eq_append_getElem hk]
  simp only [List.append_assoc, List.cons_append, List.nil_append] at e ⊢
  exact e
theorem move_left (P S A : List (Tg α)) (x : Tg α) (k : Nat) (hk : k < A.length) : swapL (P ++ (A.take (k + 1) ++ [x] ++ A.drop (k + 1)) ++ S) (P.length + k + 1) (P.length + k) = P ++ (A.take k ++ [x] ++ A.drop k) ++ S := by
  have e := swapL_prev (P ++ A.take k) (A.drop (k + 1) ++ S) A[k] x
  rw [List.length_append, List.length_take, show min k A.length = k by omega] at e
  rw [List.drop_eq_getElem_cons hk, List.take_succ_eq_append_getElem hk]
  simp only [List.append_assoc, List.cons_append, List.nil_append] at e ⊢
  exact e
end
end Go.Proofs.Ytihocfdnkongkaa
