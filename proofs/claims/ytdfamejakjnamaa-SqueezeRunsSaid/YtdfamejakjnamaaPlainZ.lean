/- The tokens of a row of equal bytes, and how few bits they are. No program in sight. -/
import Derived.Test.YtdfamejakjnamaaPlainR
import Derived.Test.YtdfamejakjnamaaPlainT
namespace Go.Proofs.Ytdfamejakjnamaa
theorem rep_get {n c i : Nat} (h : i < n) : (List.replicate n c).getD i 0 = c := by
  rw [List.getD_eq_getElem?_getD, List.getElem?_replicate, if_pos h]; rfl
theorem rep_same {n c i k : Nat} (hik : i < k) (hk : k ≤ n) : sameF (List.replicate n c) i k = min 258 (n - k) := by
  have h1 := sameF_le (List.replicate n c) i k
  have h2 : sameF (List.replicate n c) i k ≤ n - k := by
    rcases Nat.eq_zero_or_pos (sameF (List.replicate n c) i k) with h | h
    · omega
    · have := (sameF_eq (b := List.replicate n c) (i := i) (k := k) (j := sameF (List.replicate n c) i k - 1) (by omega)).1
      rw [List.length_replicate] at this
      omega
  have h3 : min 258 (n - k) ≤ sameF (List.replicate n c) i k := by
    refine sameFrom_more _ i k 258 0 _ (Nat.zero_le _) (by omega) fun j _ hj => ⟨by rw [List.length_replicate]; omega, ?_⟩
    rw [rep_get (by omega), rep_get (by omega)]
  omega
theorem rep_key {n c i : Nat} (h : i + 2 < n) : keyF (List.replicate n c) i = (c, c, c) := by
  unfold keyF
  rw [rep_get (by omega), rep_get (by omega), rep_get (by omega)]
theorem rep_search {n c p s : Nat} (hp : p ≤ n) (hs : s = min 258 (n - p)) : ∀ l : List Nat, (∀ i ∈ l, i < p) → searchF (List.replicate n c) p l (s, 1) = (s, 1) := by
  intro l
  induction l with
  | nil => intro _; rfl
  | cons i r ih =>
    intro h
    have hi := h i (by simp)
    rw [searchF, rep_same hi hp]
    have hns : ¬ (s, 1).1 < min 258 (n - p) := by simp only; omega
    rw [if_neg hns, ih (fun j hj => h j (by simp [hj]))]
    split <;> rfl
theorem rep_best {n c p : Nat} (h1 : 1 ≤ p) (h2 : p + 2 < n) : bestF (List.replicate n c) p = (min 258 (n - p), 1) := by
  unfold bestF
  rw [List.length_replicate, if_pos h2, rep_key h2]
  have hpl : placesF (List.replicate n c) p (c, c, c) = List.range p := by
    unfold placesF
    rw [List.filter_eq_self]
    intro i hi
    have := List.mem_range.1 hi
    rw [decide_eq_true_eq, List.length_replicate]
    exact ⟨by omega, rep_key (by omega)⟩
  obtain ⟨p, rfl⟩ : ∃ p', p = p' + 1 := ⟨p - 1, by omega⟩
  rw [hpl, List.range_succ, List.reverse_append]
  simp only [List.reverse_singleton, List.singleton_append]
  have hc : p + 1 - p ≤ 32768 ∧ (0, 0).1 < 258 := ⟨by omega, by decide⟩
  rw [searchF, if_pos hc, rep_same (by omega) (by omega)]
  have hg : (0, 0).1 < min 258 (n - (p + 1)) := by simp only; omega
  rw [if_pos hg, show p + 1 - p = 1 by omega]
  exact rep_search (by omega) rfl _ fun i hi => by
    have := List.mem_range.1 (List.mem_reverse.1 hi); omega
theorem let_le9 (s : Nat) : (letBits s).length ≤ 9 := by
  unfold letBits letN
  rw [codeBits_length]
  split
  · omega
  · split
    · omega
    · split <;> omega
theorem lenX_few : ∀ m, m < 255 → lenX m ≤ 5 := by decide +kernel
theorem len_le13 {n : Nat} (h3 : 3 ≤ n) (h : n < 258) : (lenBits n).length ≤ 13 := by
  have h8 : ∀ s, 256 ≤ s → (letBits s).length ≤ 8 := fun s hs => by
    unfold letBits letN
    rw [codeBits_length, if_neg (by omega), if_neg (by omega)]
    split <;> omega
  unfold lenBits
  rw [if_neg (by omega)]
  split
  · have := h8 (254 + n) (by omega); omega
  · rw [List.length_append, numBits_length]
    have h1 := lenX_few (n - 3) (by omega)
    generalize (n - 3) / 2 ^ lenX (n - 3) = q
    have h2 := h8 (257 + 4 * lenX (n - 3) + q) (by omega)
    omega
theorem rep_bits {n c : Nat} : ∀ f p, 1 ≤ p → ((tokensF (List.replicate n c) f p).flatMap tokBits).length ≤ 13 * ((n - p) / 258) + 18 ∧ (n - p ≤ 1 → ((tokensF (List.replicate n c) f p).flatMap tokBits).length ≤ 9) ∧ (n ≤ p → tokensF (List.replicate n c) f p = []) := by
  intro f
  induction f with
  | zero => intro p _; simp [tokensF]
  | succ f ih =>
    intro p h1
    rw [tokensF, List.length_replicate]
    by_cases hp : n ≤ p
    · rw [if_pos hp]; simp
    · rw [if_neg hp, List.flatMap_cons, List.length_append]
      by_cases h2 : p + 2 < n
      · rw [rep_best h1 h2]
        have hb : tokBits (tokF (List.replicate n c) p (min 258 (n - p), 1)) = lenBits (min 258 (n - p)) ++ distBits 0 := by
          unfold tokBits
          have hne : ¬ (tokF (List.replicate n c) p (min 258 (n - p), 1)).len = 0 := by show ¬ min 258 (n - p) = 0; omega
          rw [if_neg hne]
          rfl
        have hd : (distBits 0).length = 5 := rfl
        rw [hb, List.length_append, hd]
        have hi := ih (p + max (min 258 (n - p)) 1) (by omega)
        by_cases hbig : 258 ≤ n - p
        · have e : min 258 (n - p) = 258 := by omega
          have hl : (lenBits 258).length = 8 := rfl
          rw [e] at hi ⊢
          rw [hl]
          simp only at hi ⊢
          have hm : max 258 1 = 258 := rfl
          rw [hm] at hi ⊢
          refine ⟨?_, fun h => by omega, fun h => by omega⟩
          have := hi.1
          have hdiv : (n - p) / 258 = (n - (p + 258)) / 258 + 1 := by omega
          omega
        · have e : min 258 (n - p) = n - p := by omega
          rw [e] at hi ⊢
          have hl := len_le13 (n := n - p) (by omega) (by omega)
          have hz := hi.2.2 (by omega)
          simp only at hz ⊢
          rw [hz]
          simp only [List.flatMap_nil, List.length_nil]
          refine ⟨by omega, fun h => by omega, fun h => by omega⟩
      · have hbest : bestF (List.replicate n c) p = (0, 0) := by unfold bestF; rw [List.length_replicate, if_neg h2]
        rw [hbest]
        have hb : tokBits (tokF (List.replicate n c) p (0, 0)) = letBits ((List.replicate n c).getD p 0) := rfl
        have hl := let_le9 ((List.replicate n c).getD p 0)
        rw [hb]
        have hi := ih (p + 1) (by omega)
        have hm : max (0, 0).1 1 = 1 := rfl
        rw [hm]
        refine ⟨?_, fun h => ?_, fun h => by omega⟩
        · have := hi.2.1 (by omega); omega
        · have := hi.2.2 (by omega)
          rw [this]
          simp only [List.flatMap_nil, List.length_nil]
          omega
/-- a row of equal bytes is few bits -/
theorem rep_few (n c : Nat) : (pack (deflBits (tokensF (List.replicate n c) n 0))).length ≤ 8 + n / 80 ∧ (pack (deflBits (tokensF (List.replicate n c) n 0))).length < n + 5 := by
  have h7 : (letBits 256).length = 7 := rfl
  have key : (deflBits (tokensF (List.replicate n c) n 0)).length ≤ 19 + (if n ≤ 1 then 0 else 13 * ((n - 1) / 258) + 18) ∧ (n = 0 → (deflBits (tokensF (List.replicate n c) n 0)).length = 10) := by
    unfold deflBits deflHead
    rw [List.length_append, List.length_append, numBits_length, h7]
    cases n with
    | zero => simp [tokensF]
    | succ n =>
      rw [tokensF, List.length_replicate, if_neg (by omega), List.flatMap_cons, List.length_append]
      have hbest : bestF (List.replicate (n + 1) c) 0 = (0, 0) := by
        unfold bestF
        split
        · rw [placesF_zero]; rfl
        · rfl
      rw [hbest]
      have hb : tokBits (tokF (List.replicate (n + 1) c) 0 (0, 0)) = letBits ((List.replicate (n + 1) c).getD 0 0) := rfl
      have hl := let_le9 ((List.replicate (n + 1) c).getD 0 0)
      have hm : 0 + max (0, 0).1 1 = 1 := rfl
      rw [hb, hm]
      have hi := rep_bits (n := n + 1) (c := c) n 1 (by omega)
      refine ⟨?_, fun h => by omega⟩
      by_cases hn : n + 1 ≤ 1
      · rw [if_pos hn, hi.2.2 hn]
        simp only [List.flatMap_nil, List.length_nil]
        omega
      · rw [if_neg hn]
        have := hi.1
        omega
  have hpl := pack_length (deflBits (tokensF (List.replicate n c) n 0))
  generalize (pack (deflBits (tokensF (List.replicate n c) n 0))).length = a at *
  generalize (deflBits (tokensF (List.replicate n c) n 0)).length = b at *
  obtain ⟨k1, k2⟩ := key
  by_cases hn : n ≤ 1
  · rw [if_pos hn] at k1
    rcases Nat.eq_zero_or_pos n with h | h
    · have := k2 h; omega
    · omega
  · rw [if_neg hn] at k1
    omega
end Go.Proofs.Ytdfamejakjnamaa
