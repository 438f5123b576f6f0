/- What squeeze.Deflate writes of tokens, inflated. No program in sight. -/
import Derived.Test.YtlokfmalpkahaaaQ9
import Derived.Test.YtlokfmalpkahaaaQ2
namespace Go.Proofs.Ytlokfmalpkahaaa.Fix
set_option maxRecDepth 100000
theorem numBits_getD (v n i : Nat) (hi : i < n) : (numBits v n).getD i false = v.testBit i := by
  rw [numBits_test]; simp [List.getD, hi]
theorem let_words : ∀ s, s < 288 → codeW fixedL s = letW s ∧ lenS fixedL s = letN s := by decide +kernel
theorem dist_words : ∀ s, s < 32 → codeW fixedD s = s ∧ lenS fixedD s = 5 := by decide +kernel
theorem letW_lt {s : Nat} (h : s < 288) : letW s < 2 ^ letN s := by
  unfold letW letN
  by_cases h1 : s < 144
  · rw [if_pos h1, if_pos h1]; omega
  · rw [if_neg h1, if_neg h1]
    by_cases h2 : s < 256
    · rw [if_pos h2, if_pos h2]; omega
    · rw [if_neg h2, if_neg h2]
      by_cases h3 : s < 280
      · rw [if_pos h3, if_pos h3]; omega
      · rw [if_neg h3, if_neg h3]; omega
theorem sym_let {L a c : List Bool} {s P : Nat} {out : List Nat} (hs : s < 288) (hL : L = a ++ letBits s ++ c) (hP : P = a.length) :
    symF (pack L) fixedL ⟨P, out, 0⟩ = ((s : Int), ⟨P + (letBits s).length, out, 0⟩) := by
  have h := sym_fix (out := out) hs (let_words s hs).1 (let_words s hs).2 (letW_lt hs) hL hP
  rw [h]
  unfold letBits
  rw [codeBits_length]
theorem fixedD_get {x : Nat} (h : x < 32) : ∃ hx : x < fixedD.length, 0 < fixedD[x] ∧ fixedD[x] ≤ 15 := by
  have hl : fixedD.length = 32 := List.length_replicate ..
  have e : fixedD[x]'(by rw [hl]; exact h) = 5 := List.getElem_replicate ..
  exact ⟨by rw [hl]; exact h, by rw [e]; omega⟩
theorem sym_dist {L a c : List Bool} {s P : Nat} {out : List Nat} (hs : s < 32) (hL : L = a ++ codeBits s 5 ++ c) (hP : P = a.length) :
    symF (pack L) fixedD ⟨P, out, 0⟩ = ((s : Int), ⟨P + 5, out, 0⟩) := by
  obtain ⟨hxl, h0, h15⟩ := fixedD_get hs
  have hlen : P + 5 ≤ L.length := by rw [hL, hP]; simp only [List.length_append, codeBits_length]; omega
  obtain ⟨hw, hn⟩ := dist_words s hs
  have h := nextF_own (zs := fixedD) (bs := pack L) (p := P) hxl h0 h15 (by rw [hn, hw]; exact own_bits hL hP (by omega)) (by rw [hn, pack_length]; omega)
  unfold symF
  rw [if_neg (by simp)]
  simp only
  rw [h, hn]
theorem num_own {L a c : List Bool} {m n P : Nat} {out : List Nat} (hL : L = a ++ numBits m n ++ c) (hP : P = a.length) : numF (pack L) n ⟨P, out, 0⟩ = (m % 2 ^ n, ⟨P + n, out, 0⟩) := by
  have hlen : P + n ≤ L.length := by rw [hL, hP]; simp only [List.length_append, numBits_length]; omega
  have hv : bval (pack L) P n = m % 2 ^ n := bval_pack L P n m fun i hi => by
    rw [hL, hP, getD_app _ _ _ _ (by rw [numBits_length]; exact hi), numBits_getD _ _ _ hi]
  exact numF_fix (by rw [pack_length]; omega) hv
theorem upF_spec {b m : Nat} : ∀ f x, (upF b m f x = x ∨ (x < upF b m f x ∧ b * 2 ^ (upF b m f x - 1) ≤ m)) ∧ (upF b m f x < x + f → m < b * 2 ^ upF b m f x) := by
  intro f
  induction f with
  | zero => intro x; exact ⟨.inl rfl, fun h => by simp only [upF] at h; omega⟩
  | succ f ih =>
    intro x
    unfold upF
    by_cases h : b * 2 ^ x ≤ m
    · rw [if_pos h]
      obtain ⟨h1, h2⟩ := ih (x + 1)
      refine ⟨.inr ?_, fun hl => h2 (by omega)⟩
      rcases h1 with h1 | h1
      · rw [h1]; exact ⟨by omega, by simpa using h⟩
      · exact ⟨by omega, h1.2⟩
    · rw [if_neg h]
      exact ⟨.inl rfl, fun _ => by omega⟩
theorem lenX_spec : ∀ m, m < 255 → 8 ≤ m → 1 ≤ lenX m ∧ lenX m ≤ 5 ∧ 4 ≤ m / 2 ^ lenX m ∧ m / 2 ^ lenX m < 8 := by decide +kernel
theorem distX_spec {e : Nat} (h2 : 2 ≤ e) (h : e < 32768) : distX e ≤ 13 ∧ 2 ≤ e / 2 ^ distX e ∧ e / 2 ^ distX e < 4 := by
  obtain ⟨h1, h3⟩ := upF_spec (b := 4) (m := e) 20 0
  have hx : distX e = upF 4 e 20 0 := rfl
  rw [← hx] at h1 h3
  generalize distX e = x at *
  have hx13 : x ≤ 13 := by
    rcases h1 with h1 | ⟨_, h1⟩
    · omega
    · rcases Nat.lt_or_ge 13 x with h5 | h5
      · have := Nat.pow_le_pow_right (show 0 < 2 by omega) (show 13 ≤ x - 1 by omega)
        omega
      · exact h5
  have hlt := h3 (by omega)
  have hp : 0 < 2 ^ x := Nat.two_pow_pos x
  refine ⟨hx13, ?_, Nat.div_lt_of_lt_mul (by rw [Nat.mul_comm]; exact hlt)⟩
  rw [Nat.le_div_iff_mul_le hp]
  rcases h1 with h1 | ⟨h0, h1⟩
  · rw [h1]; omega
  · have : 2 ^ x = 2 * 2 ^ (x - 1) := by rw [← Nat.pow_succ', show (x - 1).succ = x by omega]
    omega
/-- a length's own bits -/
theorem len_own {L a c : List Bool} {n P : Nat} {out : List Nat} (h3 : 3 ≤ n) (h258 : n ≤ 258) (hL : L = a ++ lenBits n ++ c) (hP : P = a.length) :
    ∃ (k : Nat) (s1 : Inf), k ≤ 28 ∧ symF (pack L) fixedL ⟨P, out, 0⟩ = (((257 + k : Nat) : Int), s1) ∧ s1.e = 0 ∧ lengthF (pack L) k s1 = (n, ⟨P + (lenBits n).length, out, 0⟩) := by
  unfold lenBits at hL ⊢
  by_cases e1 : n = 258
  · rw [if_pos e1] at hL ⊢
    refine ⟨28, _, by omega, sym_let (by omega) hL hP, rfl, ?_⟩
    unfold lengthF
    rw [if_neg (by omega), if_pos rfl, e1]
  · rw [if_neg e1] at hL ⊢
    by_cases e2 : n < 11
    · rw [if_pos e2] at hL ⊢
      refine ⟨n - 3, ⟨P + (letBits (254 + n)).length, out, 0⟩, by omega, ?_, rfl, ?_⟩
      · have h := sym_let (s := 254 + n) (out := out) (by omega) hL hP
        rw [show 257 + (n - 3) = 254 + n by omega]
        exact h
      · unfold lengthF
        rw [if_pos (by omega), show n - 3 + 3 = n by omega]
    · rw [if_neg e2] at hL ⊢
      obtain ⟨m, hm⟩ : ∃ m, n - 3 = m := ⟨_, rfl⟩
      rw [hm] at hL ⊢
      obtain ⟨x1, x2, x3, x4⟩ := lenX_spec m (by omega) (by omega)
      have hdm := Nat.div_add_mod m (2 ^ lenX m)
      generalize lenX m = x at *
      generalize hq : m / 2 ^ x = q at *
      have hL1 : L = a ++ letBits (257 + 4 * x + q) ++ (numBits m x ++ c) := by rw [hL]; simp only [List.append_assoc]
      have hL2 : L = (a ++ letBits (257 + 4 * x + q)) ++ numBits m x ++ c := by rw [hL]; simp only [List.append_assoc]
      refine ⟨4 * x + q, ⟨P + (letBits (257 + 4 * x + q)).length, out, 0⟩, by omega, ?_, rfl, ?_⟩
      · have h := sym_let (s := 257 + 4 * x + q) (out := out) (by omega) hL1 hP
        rw [show 257 + (4 * x + q) = 257 + 4 * x + q by omega]
        exact h
      · have hk1 : (4 * x + q) % 4 = q - 4 := by omega
        have hk2 : (4 * x + q) / 4 - 1 = x := by omega
        unfold lengthF
        rw [if_neg (by omega), if_neg (by omega), hk1, hk2, num_own hL2 (by rw [List.length_append, hP])]
        simp only [List.length_append, numBits_length, ← Nat.add_assoc]
        rw [show 4 + (q - 4) = q by omega, Nat.mul_comm q, Nat.add_assoc 3, hdm, show 3 + m = n by omega]
/-- a distance's own bits -/
theorem dist_own {L a c : List Bool} {e P : Nat} {out : List Nat} (he : e < 32768) (hL : L = a ++ distBits e ++ c) (hP : P = a.length) :
    ∃ (k : Nat) (s1 : Inf), k ≤ 29 ∧ symF (pack L) fixedD ⟨P, out, 0⟩ = ((k : Int), s1) ∧ s1.e = 0 ∧ distF (pack L) k s1 = (e + 1, ⟨P + (distBits e).length, out, 0⟩) := by
  unfold distBits at hL ⊢
  by_cases e1 : e < 2
  · rw [if_pos e1] at hL ⊢
    refine ⟨e, _, by omega, sym_dist (by omega) hL hP, rfl, ?_⟩
    unfold distF
    rw [if_pos e1, codeBits_length]
  · rw [if_neg e1] at hL ⊢
    obtain ⟨x1, x2, x3⟩ := distX_spec (by omega) he
    have hdm := Nat.div_add_mod e (2 ^ distX e)
    generalize distX e = x at *
    generalize hq : e / 2 ^ x = q at *
    have hL1 : L = a ++ codeBits (2 * x + q) 5 ++ (numBits e x ++ c) := by rw [hL]; simp only [List.append_assoc]
    have hL2 : L = (a ++ codeBits (2 * x + q) 5) ++ numBits e x ++ c := by rw [hL]; simp only [List.append_assoc]
    refine ⟨2 * x + q, _, by omega, sym_dist (by omega) hL1 hP, rfl, ?_⟩
    have hk1 : (2 * x + q) % 2 = q - 2 := by omega
    have hk2 : (2 * x + q) / 2 - 1 = x := by omega
    unfold distF
    rw [if_neg (by omega), hk1, hk2, num_own hL2 (by rw [List.length_append, hP, codeBits_length])]
    simp only [List.length_append, numBits_length, codeBits_length, ← Nat.add_assoc]
    rw [show 2 + (q - 2) = q by omega, Nat.mul_comm q, Nat.add_assoc 1, hdm, Nat.add_comm 1 e]
end Go.Proofs.Ytlokfmalpkahaaa.Fix
