/- Plain law of prefix codes: what Next answers in a full code, and behind a word's own bits. No program in sight. -/
import Derived.Test.YtoknoijecpdcaaaPrefixN
import Derived.Test.YtoknoijecpdcaaaBitsN
namespace Go.Proofs.Ytoknoijecpdcaaa

theorem getD_of_get {α : Type} {l : List α} {i : Nat} {x d : α} (h : l[i]? = some x) : l.getD i d = x := by simp [List.getD, h]

theorem nextF_full {zs : List Int} {bs : List Nat} {p : Nat} (hl : zs.length ≤ 320) (he : endc zs 15 = 32768) (hp : p + 15 ≤ 8 * bs.length) :
    ∃ s, ∃ hs : s < zs.length, 0 < zs[s] ∧ lenS zs s ≤ 15 ∧ nextF zs bs p 15 0 = ((s : Int), 0, p + lenS zs s) := by
  have key : ∀ k n, n + k = 15 → Past zs (bitsFrom bs p) n → ∃ s, ∃ hs : s < zs.length, 0 < zs[s] ∧ lenS zs s ≤ 15 ∧ nextF zs bs p k n = ((s : Int), 0, p + lenS zs s) := by
    intro k
    induction k with
    | zero =>
      intro n hn h
      have := (full_left (bitsFrom_lt bs p) he (by omega) h).1
      omega
    | succ k ih =>
      intro n hn h
      obtain ⟨h1, h2⟩ := full_left (bitsFrom_lt bs p) he (by omega) h
      unfold nextF
      rw [if_neg (by omega), if_neg (by omega)]
      by_cases hh : msb (bitsFrom bs p) (n + 1) < 2 * endc zs n + cnt zs (n + 1)
      · rw [if_pos hh]
        obtain ⟨s, hs, hz, _, hg⟩ := found hl (by omega) (past_first h) hh
        have hlen := lenS_eq hs (by omega)
        refine ⟨s, hs, by omega, by omega, ?_⟩
        rw [getD_of_get hg, show lenS zs s = n + 1 by omega]
        rfl
      · rw [if_neg hh]
        rcases past_step h with h' | h'
        · exact absurd h' hh
        · exact ih (n + 1) (by omega) h'
  exact key 15 0 rfl (past_zero _ _)

theorem allc_of {zs : List Int} {s : Nat} (hs : s < zs.length) (h0 : 0 < zs[s]) (h15 : zs[s] ≤ 15) {n : Nat} (hn : n < lenS zs s) : allc zs n < allc zs 15 := by
  have hle := lenS_eq hs (by omega)
  have hr := rank_lt hs (by omega)
  have h1 := allc_mono zs n (lenS zs s - 1 - n)
  have h2 := allc_mono zs (lenS zs s) (15 - lenS zs s)
  rw [show n + (lenS zs s - 1 - n) = lenS zs s - 1 by omega] at h1
  rw [show lenS zs s + (15 - lenS zs s) = 15 by omega] at h2
  have e : allc zs (lenS zs s) = allc zs (lenS zs s - 1) + cnt zs (lenS zs s) := by
    obtain ⟨m, hm⟩ : ∃ m, lenS zs s = m + 1 := ⟨lenS zs s - 1, by omega⟩
    rw [hm]; rfl
  omega

theorem nextF_own {zs : List Int} {bs : List Nat} {p s : Nat} (hs : s < zs.length) (h0 : 0 < zs[s]) (h15 : zs[s] ≤ 15) (hw : msb (bitsFrom bs p) (lenS zs s) = codeW zs s) (hp : p + lenS zs s ≤ 8 * bs.length) :
    nextF zs bs p 15 0 = ((s : Int), 0, p + lenS zs s) := by
  have hle := lenS_eq hs (by omega)
  have key : ∀ k n, n + k = 15 → n < lenS zs s → nextF zs bs p k n = ((s : Int), 0, p + lenS zs s) := by
    intro k
    induction k with
    | zero => intro n hn h; omega
    | succ k ih =>
      intro n hn h
      have h1 := allc_of hs h0 h15 h
      unfold nextF
      rw [if_neg (by omega), if_neg (by omega)]
      by_cases hl : n + 1 = lenS zs s
      · have hr := rank_lt hs (by omega)
        have hg := sorted_get zs s hs h0 h15
        have hc : codeW zs s = 2 * endc zs n + rank zs (n + 1) s := by unfold codeW; rw [← hl, Nat.add_sub_cancel]
        rw [← hl] at hr hg hw ⊢
        rw [hw, if_pos (by omega), hc, Nat.add_sub_cancel_left, getD_of_get (by simpa using hg)]
        rfl
      · have hpa := own_past hs h0 (bitsFrom_lt bs p) hw (n := n + 1) (by omega)
        unfold Past at hpa
        simp only [endc] at hpa
        rw [if_neg (by omega)]
        exact ih (n + 1) (by omega) (by omega)
  exact key 15 0 rfl (by omega)

theorem allc_count {zs : List Int} (j : Nat) : allc zs j = zs.countP fun z => decide (0 < z ∧ z ≤ (j : Int)) := by
  induction j with
  | zero =>
    have : (zs.countP fun z => decide (0 < z ∧ z ≤ ((0 : Nat) : Int))) = 0 := by
      rw [List.countP_eq_zero]
      intro z _
      simp only [decide_eq_true_eq]
      omega
    rw [this]; rfl
  | succ j ih =>
    simp only [allc, ih, cnt]
    clear ih
    induction zs with
    | nil => rfl
    | cons z zs ih =>
      simp only [List.countP_cons, List.count_cons, decide_eq_true_eq, beq_iff_eq]
      split <;> split <;> split <;> omega
theorem allc_pos {zs : List Int} (h : ∀ z ∈ zs, 0 ≤ z ∧ z ≤ 15) : allc zs 15 = zs.countP fun z => decide (0 < z) := by
  rw [allc_count]
  refine List.countP_congr fun z hz => ?_
  have := h z hz
  simp only [decide_eq_true_eq]
  omega

/-- the bits of a code make its number again -/
theorem msb_code {f : Nat → Nat} {v n : Nat} (h : ∀ i, i < n → f i = b2n (v.testBit (n - 1 - i))) : ∀ k, k ≤ n → msb f k = v / 2 ^ (n - k) % 2 ^ k := by
  intro k
  induction k with
  | zero => intro _; simp [msb, Nat.mod_one]
  | succ k ih =>
    intro hk
    simp only [msb]
    rw [ih (by omega), h k (by omega), Nat.testBit_eq_decide_div_mod_eq, b2n_dec]
    have e1 : v / 2 ^ (n - k) = v / 2 ^ (n - (k + 1)) / 2 := by
      rw [Nat.div_div_eq_div_mul, ← Nat.pow_succ]
      congr 2
      omega
    rw [e1, show n - 1 - k = n - (k + 1) by omega, Nat.pow_succ, Nat.mul_comm (2 ^ k) 2, Nat.mod_mul]
    omega
end Go.Proofs.Ytoknoijecpdcaaa
