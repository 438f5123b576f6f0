/- Numbers as few bytes, plain: putU, readU, zig, zag. No program in sight. · Rows of integers as bytes, plain: differences, their bytes, the best way. No program in sight. -/
import Derived.Test.YtlokfmalpkahaaaGreatKrQ1
namespace Go.Proofs.YtlokfmalpkahaaaGreat
set_option maxRecDepth 100000
/-- the bytes of a number -/
def putU (n : Nat) : List Nat := if h : n < 128 then [n] else (128 + n % 128) :: putU (n / 128)
termination_by n
decreasing_by omega
theorem putU_small {n : Nat} (h : n < 128) : putU n = [n] := by rw [putU, dif_pos h]
theorem putU_big {n : Nat} (h : 128 ≤ n) : putU n = (128 + n % 128) :: putU (n / 128) := by rw [putU, dif_neg (by omega)]
theorem putU_ok : ∀ (f n : Nat), n < 128 ^ (f + 1) → okB (putU n) := by
  intro f
  induction f with
  | zero =>
    intro n h x hx
    rw [putU_small (by simpa using h)] at hx
    simp at hx; omega
  | succ f ih =>
    intro n h x hx
    by_cases hn : n < 128
    · rw [putU_small hn] at hx
      simp at hx; omega
    · rw [putU_big (by omega)] at hx
      rcases List.mem_cons.1 hx with h1 | h1
      · omega
      · refine ih (n / 128) (Nat.div_lt_of_lt_mul ?_) x h1
        rw [Nat.pow_succ, Nat.mul_comm] at h
        exact h
theorem putU_okB {n : Nat} (h : n < 18446744073709551616) : okB (putU n) := putU_ok 9 n (Nat.lt_of_lt_of_le h (by decide))
theorem putU_len : ∀ (f n : Nat), n < 128 ^ (f + 1) → 1 ≤ (putU n).length ∧ (putU n).length ≤ f + 1 := by
  intro f
  induction f with
  | zero => intro n h; rw [putU_small (by simpa using h)]; simp
  | succ f ih =>
    intro n h
    by_cases hn : n < 128
    · rw [putU_small hn]; simp
    · rw [putU_big (by omega), List.length_cons]
      have := ih (n / 128) (Nat.div_lt_of_lt_mul (by rw [Nat.pow_succ, Nat.mul_comm] at h; exact h))
      omega
theorem putU_len10 {n : Nat} (h : n < 18446744073709551616) : 1 ≤ (putU n).length ∧ (putU n).length ≤ 10 := putU_len 9 n (Nat.lt_of_lt_of_le h (by decide))
/-- reading a number behind i bytes that say n: the number, how many bytes, the error (3: it ends too soon, 4: not of the form) -/
def readFrom : List Nat → Nat → Nat → Nat × Nat × Int
  | [], _, _ => (0, 0, 3)
  | x :: xs, i, n =>
    if (i = 9 ∧ 1 < x) ∨ (x = 0 ∧ 0 < i) then (0, 0, 4)
    else if x < 128 then (n + x * 2 ^ (7 * i), i + 1, 0)
    else readFrom xs (i + 1) (n + (x % 128) * 2 ^ (7 * i))
def readU (b : List Nat) (at_ : Int) : Nat × Nat × Int := if at_ < 0 ∨ (b.length : Int) ≤ at_ then (0, 0, 3) else readFrom (b.drop at_.toNat) 0 0
theorem readFrom_err : ∀ (l : List Nat) (i n : Nat), (readFrom l i n).2.2 = 0 ∨ ((readFrom l i n).1 = 0 ∧ (readFrom l i n).2.1 = 0 ∧ ((readFrom l i n).2.2 = 3 ∨ (readFrom l i n).2.2 = 4)) := by
  intro l
  induction l with
  | nil => intro i n; simp [readFrom]
  | cons x l ih =>
    intro i n
    simp only [readFrom]
    split
    · simp
    · split
      · simp
      · exact ih _ _
theorem readFrom_len : ∀ (l : List Nat) (i n : Nat), (readFrom l i n).2.2 = 0 → i < (readFrom l i n).2.1 ∧ (readFrom l i n).2.1 ≤ i + l.length := by
  intro l
  induction l with
  | nil => intro i n h; simp [readFrom] at h
  | cons x l ih =>
    intro i n
    simp only [readFrom, List.length_cons]
    split
    · intro h; simp at h
    · split
      · intro h; simp only; omega
      · intro h
        have := ih _ _ h
        omega
theorem pow7 (i : Nat) : 2 ^ (7 * (i + 1)) = 128 * 2 ^ (7 * i) := by rw [show 7 * (i + 1) = 7 * i + 7 by omega, Nat.pow_add]; omega
/-- what is read fits 64 bits -/
theorem readFrom_lt : ∀ (l : List Nat) (i n : Nat), okB l → i ≤ 9 → n < 2 ^ (7 * i) → (readFrom l i n).1 < 18446744073709551616 := by
  intro l
  induction l with
  | nil => intro i n _ _ _; simp [readFrom]
  | cons x l ih =>
    intro i n ok hi hn
    have hx := ok x (by simp)
    simp only [readFrom]
    by_cases h1 : (i = 9 ∧ 1 < x) ∨ (x = 0 ∧ 0 < i)
    · rw [if_pos h1]; simp
    · rw [if_neg h1]
      by_cases h2 : x < 128
      · rw [if_pos h2]
        simp only
        by_cases h9 : i = 9
        · subst h9
          have hx1 : x ≤ 1 := by omega
          have : x * 2 ^ (7 * 9) ≤ 1 * 2 ^ (7 * 9) := Nat.mul_le_mul_right _ hx1
          have e : (2 : Nat) ^ (7 * 9) = 9223372036854775808 := by decide
          omega
        · have h3 : x * 2 ^ (7 * i) ≤ 127 * 2 ^ (7 * i) := Nat.mul_le_mul_right _ (by omega)
          have h4 : 2 ^ (7 * i) ≤ 2 ^ 56 := Nat.pow_le_pow_right (by decide) (by omega)
          have e : (2 : Nat) ^ 56 = 72057594037927936 := by decide
          omega
      · rw [if_neg h2]
        have h9 : i ≠ 9 := by rintro rfl; exact h1 (.inl ⟨rfl, by omega⟩)
        have hm : x % 128 < 128 := Nat.mod_lt _ (by decide)
        refine ih (i + 1) _ (fun y hy => ok y (by simp [hy])) (by omega) ?_
        have h3 : (x % 128) * 2 ^ (7 * i) ≤ 127 * 2 ^ (7 * i) := Nat.mul_le_mul_right _ (by omega)
        rw [pow7]
        omega
/-- what was put is read -/
theorem readFrom_put : ∀ (f v i n : Nat) (rest : List Nat), f + i = 9 → v < 128 ^ f * 2 → (0 < i → 0 < v) → readFrom (putU v ++ rest) i n = (n + v * 2 ^ (7 * i), i + (putU v).length, 0) := by
  intro f
  induction f with
  | zero =>
    intro v i n rest hi hv h0
    rw [putU_small (by omega)]
    simp only [List.cons_append, List.nil_append, readFrom]
    have hi9 : i = 9 := by omega
    rw [if_neg (by omega), if_pos (by omega)]
    rfl
  | succ f ih =>
    intro v i n rest hi hv h0
    by_cases h : v < 128
    · rw [putU_small h]
      simp only [List.cons_append, List.nil_append, readFrom]
      rw [if_neg (by omega), if_pos h]
      rfl
    · rw [putU_big (by omega)]
      simp only [List.cons_append, readFrom]
      rw [if_neg (by omega), if_neg (by omega)]
      rw [Nat.pow_succ] at hv
      rw [ih (v / 128) (i + 1) _ rest (by omega) (Nat.div_lt_of_lt_mul (by rw [← Nat.mul_assoc, Nat.mul_comm 128]; omega)) (fun _ => by omega)]
      rw [List.length_cons, pow7, show (128 + v % 128) % 128 = v % 128 by omega]
      have e : v % 128 * 2 ^ (7 * i) + v / 128 * (128 * 2 ^ (7 * i)) = v * 2 ^ (7 * i) := by
        rw [← Nat.mul_assoc, ← Nat.add_mul]
        congr 1
        omega
      rw [Nat.add_assoc, e, show i + 1 + (putU (v / 128)).length = i + ((putU (v / 128)).length + 1) by omega]
theorem readU_put {v : Nat} (hv : v < 18446744073709551616) (pre rest : List Nat) : readU (pre ++ putU v ++ rest) (pre.length : Int) = (v, (putU v).length, 0) := by
  have hl := putU_len10 hv
  unfold readU
  rw [if_neg (by simp only [List.length_append]; omega), Int.toNat_natCast, List.append_assoc, List.drop_left, readFrom_put 9 v 0 0 rest (by omega) (by omega) (by omega)]
  simp
/-! ### signed ones -/
def zig (x : Int) : Nat := if 0 ≤ x then (2 * x).toNat else (-2 * x - 1).toNat
def zag (u : Nat) : Int := if u % 2 = 1 then -((u / 2 : Nat) : Int) - 1 else ((u / 2 : Nat) : Int)
theorem zag_zig (x : Int) : zag (zig x) = x := by
  unfold zag zig
  split <;> split <;> omega
theorem zig_lt {x : Int} (h0 : -9223372036854775808 ≤ x) (h1 : x ≤ 9223372036854775807) : zig x < 18446744073709551616 := by
  unfold zig
  split <;> omega
theorem zag_in {u : Nat} (h : u < 18446744073709551616) : -9223372036854775808 ≤ zag u ∧ zag u ≤ 9223372036854775807 := by
  unfold zag
  split <;> omega
end Go.Proofs.YtlokfmalpkahaaaGreat
namespace Go.Proofs.YtlokfmalpkahaaaGreat
set_option maxRecDepth 100000
def inI (x : Int) : Prop := -1152921504606846976 ≤ x ∧ x ≤ 1152921504606846976
instance (x : Int) : Decidable (inI x) := by unfold inI; exact inferInstance
/-- a row whose places above k (and from on) hold differences already -/
def stepAt (l : List Int) (fr k : Nat) : List Int := (List.range l.length).map fun j => if k < j ∧ fr ≤ j then l.getD j 0 - l.getD (j - 1) 0 else l.getD j 0
def stepsF (l : List Int) (fr : Nat) : List Int := (List.range l.length).map fun j => if fr ≤ j then l.getD j 0 - l.getD (j - 1) 0 else l.getD j 0
def turnTo (l : List Int) : Nat → List Int
  | 0 => l
  | k + 1 => stepsF (turnTo l k) (k + 1)
theorem stepAt_length (l : List Int) (fr k : Nat) : (stepAt l fr k).length = l.length := by simp [stepAt]
theorem stepsF_length (l : List Int) (fr : Nat) : (stepsF l fr).length = l.length := by simp [stepsF]
theorem turnTo_length (l : List Int) : ∀ k, (turnTo l k).length = l.length := by
  intro k
  induction k with
  | zero => rfl
  | succ k ih => rw [turnTo, stepsF_length, ih]
theorem stepAt_start (l : List Int) (fr k : Nat) (h : l.length ≤ k + 1) : stepAt l fr k = l := by
  apply List.ext_getElem
  · simp [stepAt]
  · intro i h1 h2
    simp only [stepAt, List.getElem_map, List.getElem_range]
    rw [if_neg (by omega)]
    simp [List.getD, h2]
theorem stepAt_end (l : List Int) (fr k : Nat) (h : k < fr) : stepAt l fr k = stepsF l fr := by
  unfold stepAt stepsF
  refine List.map_congr_left fun j _ => ?_
  by_cases hj : fr ≤ j
  · rw [if_pos ⟨by omega, hj⟩, if_pos hj]
  · rw [if_neg (by omega), if_neg hj]
theorem stepAt_get (l : List Int) (fr k j : Nat) (hj : j < l.length) : (stepAt l fr k).getD j 0 = if k < j ∧ fr ≤ j then l.getD j 0 - l.getD (j - 1) 0 else l.getD j 0 := by
  simp [stepAt, List.getD, hj]
/-- the round at place k + 1 -/
theorem stepAt_set (l : List Int) (fr k : Nat) (hk : k + 1 < l.length) (hf : fr ≤ k + 1) : (stepAt l fr (k + 1)).set (k + 1) ((stepAt l fr (k + 1)).getD (k + 1) 0 - (stepAt l fr (k + 1)).getD k 0) = stepAt l fr k := by
  rw [stepAt_get l fr (k + 1) (k + 1) hk, stepAt_get l fr (k + 1) k (by omega), if_neg (by omega), if_neg (by omega)]
  apply List.ext_getElem
  · simp [stepAt]
  · intro i h1 h2
    rw [List.getElem_set]
    simp only [stepAt, List.getElem_map, List.getElem_range]
    by_cases e : k + 1 = i
    · subst e
      rw [if_pos rfl, if_pos ⟨by omega, hf⟩]
      simp
    · rw [if_neg e]
      by_cases h : k + 1 < i ∧ fr ≤ i
      · rw [if_pos h, if_pos (by omega)]
      · rw [if_neg h, if_neg (by omega)]
def bndI (B : Int) (l : List Int) : Prop := ∀ x ∈ l, -B ≤ x ∧ x ≤ B
theorem bndI_getD {B : Int} {l : List Int} (h : bndI B l) (hB : 0 ≤ B) (i : Nat) : -B ≤ l.getD i 0 ∧ l.getD i 0 ≤ B := by
  by_cases hi : i < l.length
  · have e : l.getD i 0 = l[i] := by simp [List.getD, hi]
    rw [e]; exact h _ (List.getElem_mem hi)
  · rw [List.getD_eq_getElem?_getD, List.getElem?_eq_none (by omega)]
    simp only [Option.getD_none]; omega
theorem stepAt_bnd {B : Int} {l : List Int} (h : bndI B l) (hB : 0 ≤ B) (fr k : Nat) : bndI (2 * B) (stepAt l fr k) := by
  intro x hx
  simp only [stepAt, List.mem_map] at hx
  obtain ⟨j, _, rfl⟩ := hx
  have h1 := bndI_getD h hB j
  have h2 := bndI_getD h hB (j - 1)
  split <;> omega
theorem stepsF_bnd {B : Int} {l : List Int} (h : bndI B l) (hB : 0 ≤ B) (fr : Nat) : bndI (2 * B) (stepsF l fr) := by
  intro x hx
  simp only [stepsF, List.mem_map] at hx
  obtain ⟨j, _, rfl⟩ := hx
  have h1 := bndI_getD h hB j
  have h2 := bndI_getD h hB (j - 1)
  split <;> omega
theorem turnTo_bnd {l : List Int} (h : ∀ x ∈ l, inI x) : ∀ k, k ≤ 2 → bndI 4611686018427387904 (turnTo l k) := by
  have h0 : bndI 1152921504606846976 l := fun x hx => h x hx
  have h1 := stepsF_bnd h0 (by omega) 1
  have h2 := stepsF_bnd h1 (by omega) 2
  intro k hk
  match k, hk with
  | 0, _ => intro x hx; have := h0 x hx; omega
  | 1, _ => intro x hx; have := h1 x hx; omega
  | 2, _ => intro x hx; have := h2 x hx; omega
/-- the bytes of a row of differences -/
def encBody (l : List Int) : List Nat := l.flatMap fun x => putU (zig x)
def encF (l : List Int) (w : Nat) : List Nat := putU l.length ++ encBody (turnTo l w)
theorem encBody_take_succ {l : List Int} {k : Nat} (h : k < l.length) : encBody (l.take (k + 1)) = encBody (l.take k) ++ putU (zig (l.getD k 0)) := by
  have e : l.getD k 0 = l[k] := by simp [List.getD, h]
  rw [e, List.take_succ_eq_append_getElem h]
  unfold encBody
  rw [List.flatMap_append]
  simp
theorem zig_bnd {B : Int} {l : List Int} (h : bndI B l) (hB : B ≤ 4611686018427387904) {x : Int} (hx : x ∈ l) : zig x < 18446744073709551616 := by
  have := h x hx
  exact zig_lt (by omega) (by omega)
theorem encBody_ok {l : List Int} (h : bndI 4611686018427387904 l) : okB (encBody l) := by
  intro x hx
  simp only [encBody, List.mem_flatMap] at hx
  obtain ⟨y, hy, hx⟩ := hx
  exact putU_okB (zig_bnd h (Int.le_refl _) hy) x hx
theorem encBody_len {l : List Int} (h : bndI 4611686018427387904 l) : (encBody l).length ≤ 10 * l.length := by
  induction l with
  | nil => simp [encBody]
  | cons x l ih =>
    have h1 := (putU_len10 (zig_bnd h (Int.le_refl _) (x := x) (by simp))).2
    have h2 := ih (fun y hy => h y (by simp [hy]))
    have e : encBody (x :: l) = putU (zig x) ++ encBody l := rfl
    rw [e, List.length_append, List.length_cons]
    omega
theorem encF_ok {l : List Int} (h : ∀ x ∈ l, inI x) (hl : l.length < 18446744073709551616) {k : Nat} (hk : k ≤ 2) : okB (encF l k) := fun x hx => by
  rcases List.mem_append.1 hx with h1 | h1
  · exact putU_okB hl x h1
  · exact encBody_ok (turnTo_bnd h k hk) x h1
theorem encF_len {l : List Int} (h : ∀ x ∈ l, inI x) (hl : l.length < 18446744073709551616) {k : Nat} (hk : k ≤ 2) : 1 ≤ (encF l k).length ∧ (encF l k).length ≤ 10 + 10 * l.length := by
  have h1 := putU_len10 hl
  have h2 := encBody_len (turnTo_bnd h k hk)
  rw [turnTo_length] at h2
  unfold encF
  rw [List.length_append]
  omega
/-- is a row right? -/
def rowErr (l : List Int) : Int := if 2048 < l.length then 5 else if ∀ x ∈ l, inI x then 0 else 2
/-- the best of the ways below k, and its length (-1: none yet) -/
def bst (l : List Int) : Nat → Nat × Int
  | 0 => (0, -1)
  | k + 1 => if (bst l k).2 < 0 ∨ ((encF l k).length : Int) < (bst l k).2 then (k, ((encF l k).length : Int)) else bst l k
theorem bst_lt (l : List Int) : ∀ k, (bst l k).1 ≤ k - 1 := by
  intro k
  induction k with
  | zero => exact Nat.le_refl _
  | succ k ih =>
    simp only [bst]
    split
    · exact Nat.le_refl _
    · omega
def dbestF (l : List Int) : Nat := if rowErr l ≠ 0 then 0 else (bst l 3).1
theorem dbestF_le (l : List Int) : dbestF l ≤ 2 := by
  unfold dbestF
  split
  · omega
  · exact bst_lt l 3
theorem rowErr_ok {l : List Int} (h : rowErr l = 0) : l.length ≤ 2048 ∧ ∀ x ∈ l, inI x := by
  unfold rowErr at h
  split at h
  · cases h
  · split at h
    · exact ⟨by omega, by assumption⟩
    · cases h
end Go.Proofs.YtlokfmalpkahaaaGreat
