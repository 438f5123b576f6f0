/- Rows of integers as bytes, plain: differences, their bytes, the best way. No program in sight. -/
import Derived.Test.YtlokfmalpkahaaaPlainZn
namespace Go.Proofs.Ytlokfmalpkahaaa
set_option maxRecDepth 100000
def inI (x : Int) : Prop := -1152921504606846976 ≤ x ∧ x ≤ 1152921504606846976
instance (x : Int) : Decidable (inI x) := by unfold inI; exact inferInstance
/-- a row whose places above k (and from on) hold differences already -/
def stepAt (l : List Int) (fr k : Nat) : List Int := (List.range l.length).map fun j => if k < j ∧ fr ≤ j then l.getD j 0 - l.getD (j - 1) 0 else l.getD j 0
def stepsF (l : List Int) (fr : Nat) : List Int := (List.range l.length).map fun j => if fr ≤ j then l.getD j 0 - l.getD (j - 1) 0 else l.getD j 0
def turnTo (l : List Int) : Nat → List Int
  | 0 => l
  | k + 1 => stepsF (turnTo l k) (k + 1)
theorem stepAt_length (l : List Int) (fr k : Nat) : (stepAt l fr k).length = l.length := by simp [stepAt]
theorem stepsF_length (l : List Int) (fr : Nat) : (stepsF l fr).length = l.length := by simp [stepsF]
theorem turnTo_length (l : List Int) : ∀ k, (turnTo l k).length = l.length := by
  intro k
  induction k with
  | zero => rfl
  | succ k ih => rw [turnTo, stepsF_length, ih]
theorem stepAt_start (l : List Int) (fr k : Nat) (h : l.length ≤ k + 1) : stepAt l fr k = l := by
  apply List.ext_getElem
  · simp [stepAt]
  · intro i h1 h2
    simp only [stepAt, List.getElem_map, List.getElem_range]
    rw [if_neg (by omega)]
    simp [List.getD, h2]
theorem stepAt_end (l : List Int) (fr k : Nat) (h : k < fr) : stepAt l fr k = stepsF l fr := by
  unfold stepAt stepsF
  refine List.map_congr_left fun j _ => ?_
  by_cases hj : fr ≤ j
  · rw [if_pos ⟨by omega, hj⟩, if_pos hj]
  · rw [if_neg (by omega), if_neg hj]
theorem stepAt_get (l : List Int) (fr k j : Nat) (hj : j < l.length) : (stepAt l fr k).getD j 0 = if k < j ∧ fr ≤ j then l.getD j 0 - l.getD (j - 1) 0 else l.getD j 0 := by
  simp [stepAt, List.getD, hj]
/-- the round at place k + 1 -/
theorem stepAt_set (l : List Int) (fr k : Nat) (hk : k + 1 < l.length) (hf : fr ≤ k + 1) : (stepAt l fr (k + 1)).set (k + 1) ((stepAt l fr (k + 1)).getD (k + 1) 0 - (stepAt l fr (k + 1)).getD k 0) = stepAt l fr k := by
  rw [stepAt_get l fr (k + 1) (k + 1) hk, stepAt_get l fr (k + 1) k (by omega), if_neg (by omega), if_neg (by omega)]
  apply List.ext_getElem
  · simp [stepAt]
  · intro i h1 h2
    rw [List.getElem_set]
    simp only [stepAt, List.getElem_map, List.getElem_range]
    by_cases e : k + 1 = i
    · subst e
      rw [if_pos rfl, if_pos ⟨by omega, hf⟩]
      simp
    · rw [if_neg e]
      by_cases h : k + 1 < i ∧ fr ≤ i
      · rw [if_pos h, if_pos (by omega)]
      · rw [if_neg h, if_neg (by omega)]
def bndI (B : Int) (l : List Int) : Prop := ∀ x ∈ l, -B ≤ x ∧ x ≤ B
theorem bndI_getD {B : Int} {l : List Int} (h : bndI B l) (hB : 0 ≤ B) (i : Nat) : -B ≤ l.getD i 0 ∧ l.getD i 0 ≤ B := by
  by_cases hi : i < l.length
  · have e : l.getD i 0 = l[i] := by simp [List.getD, hi]
    rw [e]; exact h _ (List.getElem_mem hi)
  · rw [List.getD_eq_getElem?_getD, List.getElem?_eq_none (by omega)]
    simp only [Option.getD_none]; omega
theorem stepAt_bnd {B : Int} {l : List Int} (h : bndI B l) (hB : 0 ≤ B) (fr k : Nat) : bndI (2 * B) (stepAt l fr k) := by
  intro x hx
  simp only [stepAt, List.mem_map] at hx
  obtain ⟨j, _, rfl⟩ := hx
  have h1 := bndI_getD h hB j
  have h2 := bndI_getD h hB (j - 1)
  split <;> omega
theorem stepsF_bnd {B : Int} {l : List Int} (h : bndI B l) (hB : 0 ≤ B) (fr : Nat) : bndI (2 * B) (stepsF l fr) := by
  intro x hx
  simp only [stepsF, List.mem_map] at hx
  obtain ⟨j, _, rfl⟩ := hx
  have h1 := bndI_getD h hB j
  have h2 := bndI_getD h hB (j - 1)
  split <;> omega
theorem turnTo_bnd {l : List Int} (h : ∀ x ∈ l, inI x) : ∀ k, k ≤ 2 → bndI 4611686018427387904 (turnTo l k) := by
  have h0 : bndI 1152921504606846976 l := fun x hx => h x hx
  have h1 := stepsF_bnd h0 (by omega) 1
  have h2 := stepsF_bnd h1 (by omega) 2
  intro k hk
  match k, hk with
  | 0, _ => intro x hx; have := h0 x hx; omega
  | 1, _ => intro x hx; have := h1 x hx; omega
  | 2, _ => intro x hx; have := h2 x hx; omega
/-- the bytes of a row of differences -/
def encBody (l : List Int) : List Nat := l.flatMap fun x => putU (zig x)
def encF (l : List Int) (w : Nat) : List Nat := putU l.length ++ encBody (turnTo l w)
theorem encBody_take_succ {l : List Int} {k : Nat} (h : k < l.length) : encBody (l.take (k + 1)) = encBody (l.take k) ++ putU (zig (l.getD k 0)) := by
  have e : l.getD k 0 = l[k] := by simp [List.getD, h]
  rw [e, List.take_succ_eq_append_getElem h]
  unfold encBody
  rw [List.flatMap_append]
  simp
theorem zig_bnd {B : Int} {l : List Int} (h : bndI B l) (hB : B ≤ 4611686018427387904) {x : Int} (hx : x ∈ l) : zig x < 18446744073709551616 := by
  have := h x hx
  exact zig_lt (by omega) (by omega)
theorem encBody_ok {l : List Int} (h : bndI 4611686018427387904 l) : okB (encBody l) := by
  intro x hx
  simp only [encBody, List.mem_flatMap] at hx
  obtain ⟨y, hy, hx⟩ := hx
  exact putU_okB (zig_bnd h (Int.le_refl _) hy) x hx
theorem encBody_len {l : List Int} (h : bndI 4611686018427387904 l) : (encBody l).length ≤ 10 * l.length := by
  induction l with
  | nil => simp [encBody]
  | cons x l ih =>
    have h1 := (putU_len10 (zig_bnd h (Int.le_refl _) (x := x) (by simp))).2
    have h2 := ih (fun y hy => h y (by simp [hy]))
    have e : encBody (x :: l) = putU (zig x) ++ encBody l := rfl
    rw [e, List.length_append, List.length_cons]
    omega
theorem encF_ok {l : List Int} (h : ∀ x ∈ l, inI x) (hl : l.length < 18446744073709551616) {k : Nat} (hk : k ≤ 2) : okB (encF l k) := fun x hx => by
  rcases List.mem_append.1 hx with h1 | h1
  · exact putU_okB hl x h1
  · exact encBody_ok (turnTo_bnd h k hk) x h1
theorem encF_len {l : List Int} (h : ∀ x ∈ l, inI x) (hl : l.length < 18446744073709551616) {k : Nat} (hk : k ≤ 2) : 1 ≤ (encF l k).length ∧ (encF l k).length ≤ 10 + 10 * l.length := by
  have h1 := putU_len10 hl
  have h2 := encBody_len (turnTo_bnd h k hk)
  rw [turnTo_length] at h2
  unfold encF
  rw [List.length_append]
  omega
/-- is a row right? -/
def rowErr (l : List Int) : Int := if 2048 < l.length then 5 else if ∀ x ∈ l, inI x then 0 else 2
/-- the best of the ways below k, and its length (-1: none yet) -/
def bst (l : List Int) : Nat → Nat × Int
  | 0 => (0, -1)
  | k + 1 => if (bst l k).2 < 0 ∨ ((encF l k).length : Int) < (bst l k).2 then (k, ((encF l k).length : Int)) else bst l k
theorem bst_lt (l : List Int) : ∀ k, (bst l k).1 ≤ k - 1 := by
  intro k
  induction k with
  | zero => exact Nat.le_refl _
  | succ k ih =>
    simp only [bst]
    split
    · exact Nat.le_refl _
    · omega
def dbestF (l : List Int) : Nat := if rowErr l ≠ 0 then 0 else (bst l 3).1
theorem dbestF_le (l : List Int) : dbestF l ≤ 2 := by
  unfold dbestF
  split
  · omega
  · exact bst_lt l 3
theorem rowErr_ok {l : List Int} (h : rowErr l = 0) : l.length ≤ 2048 ∧ ∀ x ∈ l, inI x := by
  unfold rowErr at h
  split at h
  · cases h
  · split at h
    · exact ⟨by omega, by assumption⟩
    · cases h
end Go.Proofs.Ytlokfmalpkahaaa
