/- The document's symbols of lengths and distances, and the fixed code's words, are what squeeze writes. No program in sight. -/
import Derived.Test.YtoknoijecpdcaaaPlainT
import Derived.Test.YtoknoijecpdcaaaPlainW
import Derived.Test.YtoknoijecpdcaaaPrefixT
namespace Go.Proofs.Ytoknoijecpdcaaa
set_option maxRecDepth 100000
/-- the fixed lengths of letters and of distances -/
def fixOf (s : Nat) : Int := if 144 ≤ s ∧ s ≤ 255 then 9 else if 256 ≤ s ∧ s ≤ 279 then 7 else 8
def fixZ : List Int := (List.range 288).map fixOf
def disZ : List Int := (List.range 32).map fun _ => 5
theorem fixZ_len : fixZ.length = 288 := by simp [fixZ]
theorem disZ_len : disZ.length = 32 := by simp [disZ]
theorem fixZ_err : mkErr fixZ = 0 := by decide +kernel
theorem disZ_err : mkErr disZ = 0 := by decide +kernel
theorem fix_strs : ∀ s, s < 288 → wordS fixZ s = letBits s := by decide +kernel
theorem dis_strs : ∀ s, s < 32 → wordS disZ s = codeBits s 5 := by decide +kernel
theorem fix_str {s : Nat} (h : s < 288) : (strs fixZ)[s]? = some (letBits s) := by
  unfold strs
  rw [fixZ_len]
  simp [h, fix_strs s h]
theorem dis_str {s : Nat} (h : s < 32) : (strs disZ)[s]? = some (codeBits s 5) := by
  unfold strs
  rw [disZ_len]
  simp [h, dis_strs s h]
/-! ### lengths -/
/-- the loop of the document's Length: i from 8 on -/
def lenUp : Nat → Nat × Nat
  | 0 => (11, 1)
  | j + 1 => ((lenUp j).1 + 2 ^ (lenUp j).2, if (8 + j) % 4 = 3 then (lenUp j).2 + 1 else (lenUp j).2)
def lenTab (s : Nat) : Nat × Nat := if s < 8 then (s + 3, 0) else if s = 28 then (258, 0) else lenUp (s - 8)
def lenFind (n : Nat) : Nat → Nat
  | 0 => 0
  | s + 1 => if (lenTab (s + 1)).1 ≤ n then s + 1 else lenFind n s
/-- symbol, what its bits say, how many -/
def refLen (n : Nat) : Nat × Nat × Nat := if n = 258 then (28, 0, 0) else (lenFind n 27, n - (lenTab (lenFind n 27)).1, (lenTab (lenFind n 27)).2)
theorem lenUp_small : ∀ j, j < 20 → (lenUp j).1 ≤ 259 ∧ (lenUp j).2 ≤ 6 := by decide +kernel
theorem lenTab_small : ∀ s, s < 29 → (lenTab s).1 ≤ 259 ∧ (lenTab s).2 ≤ 6 := by decide +kernel
theorem lenFind_le (n : Nat) : ∀ s, lenFind n s ≤ s := by
  intro s
  induction s with
  | zero => exact Nat.le_refl _
  | succ s ih => unfold lenFind; split <;> omega
theorem refLen_all : ∀ m, m < 256 → lenBits (m + 3) = letBits (257 + (refLen (m + 3)).1) ++ numBits (refLen (m + 3)).2.1 (refLen (m + 3)).2.2 ∧ (refLen (m + 3)).1 ≤ 28 ∧ (refLen (m + 3)).2.1 ≤ 258 ∧ (refLen (m + 3)).2.2 ≤ 6 ∧ (lenTab (lenFind (m + 3) 27)).1 ≤ m + 3 := by decide +kernel
/-! ### distances -/
def extra (d : Nat) : Nat := if d < 4 then 0 else d / 2 - 1
def disTab : Nat → Nat
  | 0 => 1
  | d + 1 => disTab d + 2 ^ extra d
def disFind (n : Nat) : Nat → Nat
  | 0 => 0
  | s + 1 => if disTab (s + 1) ≤ n then s + 1 else disFind n s
theorem disFind_le (n : Nat) : ∀ s, disFind n s ≤ s := by
  intro s
  induction s with
  | zero => exact Nat.le_refl _
  | succ s ih => unfold disFind; split <;> omega
theorem disFind_fit {n : Nat} (h1 : 1 ≤ n) : ∀ s, n < disTab (s + 1) → disTab (disFind n s) ≤ n ∧ n < disTab (disFind n s + 1) := by
  intro s
  induction s with
  | zero => intro h; exact ⟨h1, h⟩
  | succ s ih =>
    intro h
    unfold disFind
    split
    · next h2 => exact ⟨h2, h⟩
    · next h2 => exact ih (by omega)
theorem disTab_small : ∀ s, s < 31 → disTab s ≤ 32769 ∧ extra s ≤ 14 := by decide +kernel
theorem disTab_top : disTab 30 = 32769 := by decide +kernel
theorem disTab_form : ∀ s, s < 30 → 2 ≤ s → disTab s = (2 + s % 2) * 2 ^ extra s + 1 ∧ 2 * extra s + (2 + s % 2) = (if s < 4 then s else s) := by decide +kernel
theorem upF_at {b e x : Nat} (hlt : e < b * 2 ^ x) : ∀ k f x0, k ≤ f → x0 + k = x → (∀ y, y < x → b * 2 ^ y ≤ e) → upF b e f x0 = x := by
  intro k
  induction k with
  | zero =>
    intro f x0 _ hx _
    obtain rfl : x0 = x := by omega
    cases f with
    | zero => rfl
    | succ f => unfold upF; rw [if_neg (by omega)]
  | succ k ih =>
    intro f x0 hf hx hy
    obtain ⟨f, rfl⟩ : ∃ g, f = g + 1 := ⟨f - 1, by omega⟩
    unfold upF
    rw [if_pos (hy x0 (by omega))]
    exact ih f (x0 + 1) (by omega) (by omega) hy
theorem numBits_mod (a v x : Nat) : numBits (a * 2 ^ x + v) x = numBits v x := by
  unfold numBits
  refine List.map_congr_left fun i hi => ?_
  have hi : i < x := List.mem_range.1 hi
  obtain ⟨d, rfl⟩ : ∃ d, x = i + 1 + d := ⟨x - (i + 1), by omega⟩
  have e : a * 2 ^ (i + 1 + d) + v = v + 2 ^ i * (2 * (a * 2 ^ d)) := by rw [Nat.pow_add, Nat.pow_succ, Nat.add_comm]; congr 1; ac_rfl
  rw [e, Nat.add_mul_div_left _ _ (Nat.two_pow_pos i), Nat.add_mul_mod_self_left]
theorem ref_dist {n : Nat} (h1 : 1 ≤ n) (h2 : n ≤ 32768) : distBits (n - 1) = codeBits (disFind n 29) 5 ++ numBits (n - disTab (disFind n 29)) (extra (disFind n 29)) ∧ disFind n 29 ≤ 29 ∧ disTab (disFind n 29) ≤ n := by
  obtain ⟨g1, g2⟩ := disFind_fit h1 29 (by rw [disTab_top]; omega)
  have g3 := disFind_le n 29
  refine ⟨?_, g3, g1⟩
  generalize disFind n 29 = s at *
  rw [show disTab (s + 1) = disTab s + 2 ^ extra s from rfl] at g2
  by_cases hs : s < 2
  · have e : extra s = 0 := by unfold extra; rw [if_pos (by omega)]
    have e2 : disTab s = s + 1 := by
      rcases (show s = 0 ∨ s = 1 by omega) with rfl | rfl <;> rfl
    rw [e, e2] at g2
    obtain rfl : n = s + 1 := by omega
    unfold distBits
    rw [if_pos (by omega), e]
    simp [numBits]
  · obtain ⟨f1, f2⟩ := disTab_form s (by omega) (by omega)
    have f2 : 2 * extra s + (2 + s % 2) = s := by rw [f2]; split <;> rfl
    obtain ⟨v, hv⟩ : ∃ v, n = disTab s + v := ⟨n - disTab s, by omega⟩
    have hv2 : v < 2 ^ extra s := by omega
    obtain ⟨q, hq⟩ : ∃ q, 2 + s % 2 = q := ⟨_, rfl⟩
    rw [hq] at f1 f2
    have hn1 : n - 1 = q * 2 ^ extra s + v := by omega
    have hX : distX (n - 1) = extra s := by
      unfold distX
      refine upF_at (b := 4) (e := n - 1) (x := extra s) ?_ (extra s) 20 0 (by omega) (by omega) ?_
      · rw [hn1]
        have : q * 2 ^ extra s + 2 ^ extra s ≤ 4 * 2 ^ extra s := by
          rw [show q * 2 ^ extra s + 2 ^ extra s = (q + 1) * 2 ^ extra s by rw [Nat.add_mul, Nat.one_mul]]
          exact Nat.mul_le_mul_right _ (by omega)
        omega
      · intro y hy
        rw [hn1]
        have h3 : 2 * 2 ^ (y + 1) ≤ q * 2 ^ extra s := Nat.mul_le_mul (by omega) (Nat.pow_le_pow_right (by omega) (by omega))
        rw [Nat.pow_succ] at h3
        omega
    have hge : ¬ n - 1 < 2 := by
      rw [hn1]
      have h3 : 2 * 1 ≤ q * 2 ^ extra s := Nat.mul_le_mul (by omega) (Nat.two_pow_pos _)
      omega
    unfold distBits
    rw [if_neg hge, hX, hn1]
    have e1 : (q * 2 ^ extra s + v) / 2 ^ extra s = q := by
      rw [Nat.add_comm, Nat.add_mul_div_right _ _ (Nat.two_pow_pos _), Nat.div_eq_of_lt hv2, Nat.zero_add]
    rw [e1, f2, numBits_mod, hv, Nat.add_sub_cancel_left]
end Go.Proofs.Ytoknoijecpdcaaa
