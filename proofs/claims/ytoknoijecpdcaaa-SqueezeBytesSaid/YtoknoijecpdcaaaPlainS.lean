/- Plain law of the document's answer for prefix codes: the sum of the words' rooms; words as texts. No program in sight. -/
import Derived.Test.YtoknoijecpdcaaaPlainF
namespace Go.Proofs.Ytoknoijecpdcaaa

/-- the room that a length takes -/
def roomOf (z : Int) : Nat := if 0 < z then 2 ^ (15 - z.toNat) else 0
def roomTo (zs : List Int) (k : Nat) : Nat := ((zs.take k).map roomOf).sum
theorem roomOf_le (z : Int) : roomOf z ≤ 16384 := by
  unfold roomOf
  split
  · have h : (2 : Nat) ^ (15 - z.toNat) ≤ 2 ^ 14 := Nat.pow_le_pow_right (by omega) (by omega)
    simpa using h
  · omega
theorem roomTo_succ {zs : List Int} {k : Nat} (h : k < zs.length) : roomTo zs (k + 1) = roomTo zs k + roomOf zs[k] := by
  unfold roomTo
  rw [List.take_succ_eq_append_getElem h]
  simp only [List.map_append, List.map_cons, List.map_nil, List.sum_append, List.sum_cons, List.sum_nil]
  omega
theorem roomTo_le (zs : List Int) (k : Nat) (hk : k ≤ zs.length) : roomTo zs k ≤ 16384 * k := by
  induction k with
  | zero => simp [roomTo]
  | succ k ih =>
    rw [roomTo_succ hk]
    have := roomOf_le zs[k]
    have := ih (by omega)
    omega
theorem sumE_cons (z : Int) (zs : List Int) (j : Nat) (hj : j ≤ 15) : sumE (z :: zs) j = sumE zs j + if 0 < z ∧ z ≤ (j : Int) then 2 ^ (15 - z.toNat) else 0 := by
  induction j with
  | zero => simp [sumE]; omega
  | succ j ih =>
    simp only [sumE]
    rw [ih (by omega)]
    have hc : cnt (z :: zs) (j + 1) = cnt zs (j + 1) + if z = ((j + 1 : Nat) : Int) then 1 else 0 := by
      unfold cnt
      rw [List.count_cons]
      simp
    rw [hc, Nat.add_mul]
    by_cases e : z = ((j + 1 : Nat) : Int)
    · subst e
      rw [if_pos rfl, if_neg (by omega), if_pos ⟨by omega, by omega⟩]
      have e2 : 15 - (((j + 1 : Nat) : Int)).toNat = 14 - j := by omega
      rw [e2]
      omega
    · rw [if_neg e]
      by_cases h : 0 < z ∧ z ≤ (j : Int)
      · rw [if_pos h, if_pos ⟨h.1, by omega⟩]; omega
      · rw [if_neg h, if_neg (by omega)]; omega
theorem room_all {zs : List Int} (h : ∀ z ∈ zs, z ≤ 15) : roomTo zs zs.length = endc zs 15 := by
  have e : sumE zs 15 = endc zs 15 := by rw [sumE_eq zs 15 (by omega)]; simp
  rw [← e]
  unfold roomTo
  rw [List.take_length]
  clear e
  induction zs with
  | nil =>
    have : ∀ j, sumE [] j = 0 := by
      intro j
      induction j with
      | zero => rfl
      | succ j ih => simp [sumE, ih, cnt]
    rw [this]
    rfl
  | cons z zs ih =>
    rw [sumE_cons z zs 15 (by omega), List.map_cons, List.sum_cons, ih (fun x hx => h x (by simp [hx]))]
    have := h z (by simp)
    unfold roomOf
    by_cases h0 : 0 < z
    · rw [if_pos h0, if_pos ⟨h0, by omega⟩]; omega
    · rw [if_neg h0, if_neg (by omega)]; omega
/-- how many of the first k lengths are above zero -/
def posN (zs : List Int) (k : Nat) : Nat := (zs.take k).countP fun z => decide (0 < z)
theorem posN_succ {zs : List Int} {k : Nat} (h : k < zs.length) : posN zs (k + 1) = posN zs k + if 0 < zs[k] then 1 else 0 := by
  unfold posN
  rw [List.take_succ_eq_append_getElem h, List.countP_append]
  simp
theorem posN_le (zs : List Int) (k : Nat) : posN zs k ≤ k := by
  unfold posN
  have := List.countP_le_length (p := fun z : Int => decide (0 < z)) (l := zs.take k)
  simp at this
  omega
theorem roomTo_pos (zs : List Int) (k : Nat) (hk : k ≤ zs.length) : roomTo zs k ≤ 16384 * posN zs k := by
  induction k with
  | zero => simp [roomTo]
  | succ k ih =>
    rw [roomTo_succ hk, posN_succ hk]
    have := roomOf_le zs[k]
    have := ih (by omega)
    by_cases h : 0 < zs[k]
    · rw [if_pos h]; omega
    · rw [if_neg h]; unfold roomOf; rw [if_neg h]; omega
theorem room_int {z : Int} (h0 : 0 < z) (h : z ≤ 15) : (32768 : Int) / 2 ^ z.toNat = (roomOf z : Int) := by
  unfold roomOf
  rw [if_pos h0]
  obtain ⟨n, rfl⟩ := Int.eq_ofNat_of_zero_le (Int.le_of_lt h0)
  have hn : n ≤ 15 := by omega
  have h1 : (1 : Nat) ≤ n := by omega
  clear h h0
  match n, hn, h1 with
  | 1, _, _ | 2, _, _ | 3, _, _ | 4, _, _ | 5, _, _ | 6, _, _ | 7, _, _ | 8, _, _ | 9, _, _ | 10, _, _ | 11, _, _ | 12, _, _ | 13, _, _ | 14, _, _ | 15, _, _ => decide
/-- is the last length above zero 1? -/
def oneTo (zs : List Int) : Nat → Bool
  | 0 => false
  | k + 1 => if 0 < zs.getD k 0 then decide (zs.getD k 0 = 1) else oneTo zs k
theorem one_count (zs : List Int) (k : Nat) (hk : k ≤ zs.length) : rank zs 1 k ≤ posN zs k ∧ (posN zs k = 1 → (oneTo zs k = true ↔ rank zs 1 k = 1)) := by
  induction k with
  | zero => simp [rank, posN]
  | succ k ih =>
    obtain ⟨h1, h2⟩ := ih (by omega)
    have hk' : k < zs.length := hk
    have hg : zs.getD k 0 = zs[k] := by simp [List.getD, hk']
    rw [rank_succ zs 1 k hk, posN_succ hk, oneTo, hg]
    by_cases h : 0 < zs[k]
    · rw [if_pos h, if_pos h]
      by_cases e : zs[k] = ((1 : Nat) : Int)
      · rw [if_pos e]
        refine ⟨by omega, fun h3 => ?_⟩
        simp [e]
        omega
      · rw [if_neg e]
        have e' : ¬ zs[k] = 1 := by simpa using e
        refine ⟨by omega, fun h3 => ?_⟩
        simp [e']
        omega
    · rw [if_neg h, if_neg h, if_neg (by omega)]
      exact ⟨by omega, by simpa using h2⟩
/-- the error of lengths as the document's answer tests it -/
theorem mkErr_ref {zs : List Int} (hl : ¬ 320 < zs.length) (hall : ∀ z ∈ zs, 0 ≤ z ∧ z ≤ 15) :
    mkErr zs = if 0 < posN zs zs.length ∧ roomTo zs zs.length ≠ 32768 ∧ ¬ (posN zs zs.length = 1 ∧ oneTo zs zs.length = true) then 4 else 0 := by
  have h1 := room_all (fun z hz => (hall z hz).2)
  have h2 := roomTo_pos zs zs.length (Nat.le_refl _)
  obtain ⟨h3, h4⟩ := one_count zs zs.length (Nat.le_refl _)
  have h5 : allc zs 15 = posN zs zs.length := by
    rw [allc_pos hall]; unfold posN; rw [List.take_length]
  rw [rank_all] at h3 h4
  unfold mkErr
  rw [if_neg hl, if_neg (by rintro ⟨z, hz, h⟩; have := hall z hz; omega), ← h1, h5]
  by_cases hp : posN zs zs.length = 1
  · have h6 := h4 hp
    by_cases ho : oneTo zs zs.length = true
    · have h7 := h6.1 ho
      rw [if_neg (by omega), if_neg (by simp [hp, ho])]
    · have h7 : cnt zs 1 ≠ 1 := fun e => ho (h6.2 e)
      by_cases hr : roomTo zs zs.length = 32768
      · rw [if_neg (by omega), if_neg (by simp [hr])]
      · rw [if_pos (by omega), if_pos ⟨by omega, hr, by simp [ho]⟩]
  · by_cases hr : roomTo zs zs.length = 32768
    · rw [if_neg (by omega), if_neg (by simp [hr])]
    · by_cases h0 : 0 < posN zs zs.length
      · rw [if_pos (by omega), if_pos ⟨h0, hr, by simp [hp]⟩]
      · rw [if_neg (by omega), if_neg (fun h => h0 h.1)]
end Go.Proofs.Ytoknoijecpdcaaa
