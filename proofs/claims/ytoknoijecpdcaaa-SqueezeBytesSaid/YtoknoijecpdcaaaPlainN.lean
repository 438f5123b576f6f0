/- Plain law of reading prefix codes: what stands at each bit. No program in sight. -/
import Derived.Test.YtoknoijecpdcaaaPlainP
namespace Go.Proofs.Ytoknoijecpdcaaa

/-- the word of the first n bits, the first highest -/
def msb (f : Nat → Nat) : Nat → Nat
  | 0 => 0
  | n + 1 => 2 * msb f n + f n
theorem msb_lt (f : Nat → Nat) (hf : ∀ i, f i < 2) (n : Nat) : msb f n < 2 ^ n := by
  induction n with
  | zero => simp [msb]
  | succ n ih =>
    have := hf n
    simp only [msb, Nat.pow_succ]
    omega
theorem msb_mono (f : Nat → Nat) (j k : Nat) : 2 ^ k * msb f j ≤ msb f (j + k) := by
  induction k with
  | zero => simp
  | succ k ih =>
    have e : msb f (j + (k + 1)) = 2 * msb f (j + k) + f (j + k) := rfl
    rw [e, Nat.pow_succ, Nat.mul_comm (2 ^ k) 2, Nat.mul_assoc]
    omega
/-- no word of up to n bits stands there -/
def Past (zs : List Int) (f : Nat → Nat) (n : Nat) : Prop := endc zs n ≤ msb f n
theorem past_zero (zs : List Int) (f : Nat → Nat) : Past zs f 0 := by simp [Past, endc]
/-- the first word's place at length n + 1 -/
theorem past_first {zs : List Int} {f : Nat → Nat} {n : Nat} (h : Past zs f n) : 2 * endc zs n ≤ msb f (n + 1) := by
  unfold Past at h
  simp only [msb]
  omega
theorem past_step {zs : List Int} {f : Nat → Nat} {n : Nat} (h : Past zs f n) : (msb f (n + 1) < 2 * endc zs n + cnt zs (n + 1)) ∨ Past zs f (n + 1) := by
  by_cases hl : msb f (n + 1) < 2 * endc zs n + cnt zs (n + 1)
  · exact .inl hl
  · refine .inr ?_
    unfold Past
    simp only [endc]
    omega
/-- where words are left, symbols are left -/
theorem allc_mono (zs : List Int) (j k : Nat) : allc zs j ≤ allc zs (j + k) := by
  induction k with
  | zero => exact Nat.le_refl _
  | succ k ih =>
    have e : allc zs (j + (k + 1)) = allc zs (j + k) + cnt zs (j + k + 1) := rfl
    omega
theorem endc_stop {zs : List Int} {j : Nat} : ∀ k, allc zs (j + k) = allc zs j → endc zs (j + k) = 2 ^ k * endc zs j := by
  intro k
  induction k with
  | zero => intro _; simp
  | succ k ih =>
    intro h
    have e : allc zs (j + (k + 1)) = allc zs (j + k) + cnt zs (j + k + 1) := rfl
    have e2 : endc zs (j + (k + 1)) = 2 * endc zs (j + k) + cnt zs (j + k + 1) := rfl
    have h2 := allc_mono zs j k
    rw [e2, ih (by omega), Nat.pow_succ, Nat.mul_comm (2 ^ k) 2, Nat.mul_assoc]
    omega
/-- in a full code some word of at most 15 bits stands there; till then symbols are left -/
theorem full_left {zs : List Int} {f : Nat → Nat} (hf : ∀ i, f i < 2) (he : endc zs 15 = 32768) {n : Nat} (hn : n ≤ 15) (h : Past zs f n) : n < 15 ∧ allc zs n < allc zs 15 := by
  have hm := msb_lt f hf n
  have h1 : endc zs n < 2 ^ n := Nat.lt_of_le_of_lt h hm
  have hne : n ≠ 15 := by
    rintro rfl
    rw [he] at h1
    omega
  refine ⟨by omega, ?_⟩
  have h2 := allc_mono zs n (15 - n)
  rw [show n + (15 - n) = 15 by omega] at h2
  rcases Nat.lt_or_ge (allc zs n) (allc zs 15) with h3 | h3
  · exact h3
  · have h4 := endc_stop (zs := zs) (j := n) (15 - n) (by rw [show n + (15 - n) = 15 by omega]; omega)
    rw [show n + (15 - n) = 15 by omega, he] at h4
    have h5 : 2 ^ (15 - n) * endc zs n < 2 ^ (15 - n) * 2 ^ n := Nat.mul_lt_mul_of_pos_left h1 (Nat.two_pow_pos _)
    rw [← Nat.pow_add, show 15 - n + n = 15 by omega] at h5
    omega
/-- while a symbol's own word goes by, no shorter word stands there -/
theorem own_past {zs : List Int} {s : Nat} (hs : s < zs.length) (h0 : 0 < zs[s]) {f : Nat → Nat} (hf : ∀ i, f i < 2) (hw : msb f (lenS zs s) = codeW zs s) {n : Nat} (hn : n < lenS zs s) : Past zs f n := by
  unfold Past
  have h1 : 2 * endc zs (lenS zs s - 1) ≤ msb f (lenS zs s) := by rw [hw]; unfold codeW; omega
  obtain ⟨m, hm⟩ : ∃ m, lenS zs s = m + 1 := ⟨lenS zs s - 1, by omega⟩
  rw [hm] at h1 hn
  simp only [msb, Nat.add_sub_cancel] at h1
  have hfm := hf m
  have h2 : endc zs m ≤ msb f m := by omega
  rcases Nat.lt_or_ge (msb f n) (endc zs n) with h | h
  · exfalso
    have e1 := endc_mono zs n (m - n)
    rw [show n + (m - n) = m by omega] at e1
    -- the bits behind add less than one unit
    have e2 : msb f m < 2 ^ (m - n) * (msb f n + 1) := by
      have key : ∀ k, msb f (n + k) < 2 ^ k * (msb f n + 1) := by
        intro k
        induction k with
        | zero => simp
        | succ k ih =>
          have e : msb f (n + (k + 1)) = 2 * msb f (n + k) + f (n + k) := rfl
          have := hf (n + k)
          rw [e, Nat.pow_succ, Nat.mul_comm (2 ^ k) 2, Nat.mul_assoc]
          omega
      have := key (m - n)
      rwa [show n + (m - n) = m by omega] at this
    have e3 : 2 ^ (m - n) * (msb f n + 1) ≤ 2 ^ (m - n) * endc zs n := Nat.mul_le_mul_left _ h
    omega
  · exact h
/-- the symbol whose word stands there -/
theorem found {zs : List Int} (hl : zs.length ≤ 320) {w n : Nat} (hn : n ≤ 14) (h1 : 2 * endc zs n ≤ w) (h2 : w < 2 * endc zs n + cnt zs (n + 1)) :
    ∃ s, ∃ hs : s < zs.length, zs[s] = ((n + 1 : Nat) : Int) ∧ codeW zs s = w ∧ (sorted zs 15)[allc zs n + (w - 2 * endc zs n)]? = some (s : Int) := by
  -- the rank of each symbol of that length runs through all places
  have key : ∀ k, k ≤ zs.length → ∀ r, r < rank zs (n + 1) k → ∃ s, ∃ hs : s < zs.length, s < k ∧ zs[s] = ((n + 1 : Nat) : Int) ∧ rank zs (n + 1) s = r := by
    intro k
    induction k with
    | zero => intro _ r hr; simp [rank] at hr
    | succ k ih =>
      intro hk r hr
      rw [rank_succ zs (n + 1) k (by omega)] at hr
      by_cases hz : zs[k] = ((n + 1 : Nat) : Int)
      · rw [if_pos hz] at hr
        by_cases he : r = rank zs (n + 1) k
        · exact ⟨k, by omega, by omega, hz, he.symm⟩
        · obtain ⟨s, hs, h1, h2, h3⟩ := ih (by omega) r (by omega)
          exact ⟨s, hs, by omega, h2, h3⟩
      · rw [if_neg hz] at hr
        obtain ⟨s, hs, h1, h2, h3⟩ := ih (by omega) r (by omega)
        exact ⟨s, hs, by omega, h2, h3⟩
  obtain ⟨s, hs, _, hz, hr⟩ := key zs.length (Nat.le_refl _) (w - 2 * endc zs n) (by rw [rank_all]; omega)
  have hlen : lenS zs s = n + 1 := by
    have := lenS_eq hs (by omega)
    omega
  have hc : codeW zs s = w := by unfold codeW; rw [hlen, Nat.add_sub_cancel, hr]; omega
  have hg := sorted_get zs s hs (by omega) (by omega)
  rw [hlen, Nat.add_sub_cancel, hr] at hg
  exact ⟨s, hs, hz, hc, hg⟩
end Go.Proofs.Ytoknoijecpdcaaa
