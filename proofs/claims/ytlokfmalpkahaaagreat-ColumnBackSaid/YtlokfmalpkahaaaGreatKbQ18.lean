/- What squeeze.Deflate writes of tokens, inflated. No program in sight. · Stored blocks, inflated: the bytes come out. No program in sight. -/
import Derived.Test.YtlokfmalpkahaaaGreatKbQ17
import Derived.Test.YtlokfmalpkahaaaGreatKbQ5
import Derived.Test.YtlokfmalpkahaaaGreatKbPlainM
namespace Go.Proofs.YtlokfmalpkahaaaGreat.Fix
set_option maxRecDepth 100000
theorem numBits_getD (v n i : Nat) (hi : i < n) : (numBits v n).getD i false = v.testBit i := by
  rw [numBits_test]; simp [List.getD, hi]
theorem let_words : ∀ s, s < 288 → codeW fixedL s = letW s ∧ lenS fixedL s = letN s := by decide +kernel
theorem dist_words : ∀ s, s < 32 → codeW fixedD s = s ∧ lenS fixedD s = 5 := by decide +kernel
theorem letW_lt {s : Nat} (h : s < 288) : letW s < 2 ^ letN s := by
  unfold letW letN
  by_cases h1 : s < 144
  · rw [if_pos h1, if_pos h1]; omega
  · rw [if_neg h1, if_neg h1]
    by_cases h2 : s < 256
    · rw [if_pos h2, if_pos h2]; omega
    · rw [if_neg h2, if_neg h2]
      by_cases h3 : s < 280
      · rw [if_pos h3, if_pos h3]; omega
      · rw [if_neg h3, if_neg h3]; omega
theorem sym_let {L a c : List Bool} {s P : Nat} {out : List Nat} (hs : s < 288) (hL : L = a ++ letBits s ++ c) (hP : P = a.length) :
    symF (pack L) fixedL ⟨P, out, 0⟩ = ((s : Int), ⟨P + (letBits s).length, out, 0⟩) := by
  have h := sym_fix (out := out) hs (let_words s hs).1 (let_words s hs).2 (letW_lt hs) hL hP
  rw [h]
  unfold letBits
  rw [codeBits_length]
theorem fixedD_get {x : Nat} (h : x < 32) : ∃ hx : x < fixedD.length, 0 < fixedD[x] ∧ fixedD[x] ≤ 15 := by
  have hl : fixedD.length = 32 := List.length_replicate ..
  have e : fixedD[x]'(by rw [hl]; exact h) = 5 := List.getElem_replicate ..
  exact ⟨by rw [hl]; exact h, by rw [e]; omega⟩
theorem sym_dist {L a c : List Bool} {s P : Nat} {out : List Nat} (hs : s < 32) (hL : L = a ++ codeBits s 5 ++ c) (hP : P = a.length) :
    symF (pack L) fixedD ⟨P, out, 0⟩ = ((s : Int), ⟨P + 5, out, 0⟩) := by
  obtain ⟨hxl, h0, h15⟩ := fixedD_get hs
  have hlen : P + 5 ≤ L.length := by rw [hL, hP]; simp only [List.length_append, codeBits_length]; omega
  obtain ⟨hw, hn⟩ := dist_words s hs
  have h := nextF_own (zs := fixedD) (bs := pack L) (p := P) hxl h0 h15 (by rw [hn, hw]; exact own_bits hL hP (by omega)) (by rw [hn, pack_length]; omega)
  unfold symF
  rw [if_neg (by simp)]
  simp only
  rw [h, hn]
theorem num_own {L a c : List Bool} {m n P : Nat} {out : List Nat} (hL : L = a ++ numBits m n ++ c) (hP : P = a.length) : numF (pack L) n ⟨P, out, 0⟩ = (m % 2 ^ n, ⟨P + n, out, 0⟩) := by
  have hlen : P + n ≤ L.length := by rw [hL, hP]; simp only [List.length_append, numBits_length]; omega
  have hv : bval (pack L) P n = m % 2 ^ n := bval_pack L P n m fun i hi => by
    rw [hL, hP, getD_app _ _ _ _ (by rw [numBits_length]; exact hi), numBits_getD _ _ _ hi]
  exact numF_fix (by rw [pack_length]; omega) hv
theorem upF_spec {b m : Nat} : ∀ f x, (upF b m f x = x ∨ (x < upF b m f x ∧ b * 2 ^ (upF b m f x - 1) ≤ m)) ∧ (upF b m f x < x + f → m < b * 2 ^ upF b m f x) := by
  intro f
  induction f with
  | zero => intro x; exact ⟨.inl rfl, fun h => by simp only [upF] at h; omega⟩
  | succ f ih =>
    intro x
    unfold upF
    by_cases h : b * 2 ^ x ≤ m
    · rw [if_pos h]
      obtain ⟨h1, h2⟩ := ih (x + 1)
      refine ⟨.inr ?_, fun hl => h2 (by omega)⟩
      rcases h1 with h1 | h1
      · rw [h1]; exact ⟨by omega, by simpa using h⟩
      · exact ⟨by omega, h1.2⟩
    · rw [if_neg h]
      exact ⟨.inl rfl, fun _ => by omega⟩
theorem lenX_spec : ∀ m, m < 255 → 8 ≤ m → 1 ≤ lenX m ∧ lenX m ≤ 5 ∧ 4 ≤ m / 2 ^ lenX m ∧ m / 2 ^ lenX m < 8 := by decide +kernel
theorem distX_spec {e : Nat} (h2 : 2 ≤ e) (h : e < 32768) : distX e ≤ 13 ∧ 2 ≤ e / 2 ^ distX e ∧ e / 2 ^ distX e < 4 := by
  obtain ⟨h1, h3⟩ := upF_spec (b := 4) (m := e) 20 0
  have hx : distX e = upF 4 e 20 0 := rfl
  rw [← hx] at h1 h3
  generalize distX e = x at *
  have hx13 : x ≤ 13 := by
    rcases h1 with h1 | ⟨_, h1⟩
    · omega
    · rcases Nat.lt_or_ge 13 x with h5 | h5
      · have := Nat.pow_le_pow_right (show 0 < 2 by omega) (show 13 ≤ x - 1 by omega)
        omega
      · exact h5
  have hlt := h3 (by omega)
  have hp : 0 < 2 ^ x := Nat.two_pow_pos x
  refine ⟨hx13, ?_, Nat.div_lt_of_lt_mul (by rw [Nat.mul_comm]; exact hlt)⟩
  rw [Nat.le_div_iff_mul_le hp]
  rcases h1 with h1 | ⟨h0, h1⟩
  · rw [h1]; omega
  · have : 2 ^ x = 2 * 2 ^ (x - 1) := by rw [← Nat.pow_succ', show (x - 1).succ = x by omega]
    omega
/-- a length's own bits -/
theorem len_own {L a c : List Bool} {n P : Nat} {out : List Nat} (h3 : 3 ≤ n) (h258 : n ≤ 258) (hL : L = a ++ lenBits n ++ c) (hP : P = a.length) :
    ∃ (k : Nat) (s1 : Inf), k ≤ 28 ∧ symF (pack L) fixedL ⟨P, out, 0⟩ = (((257 + k : Nat) : Int), s1) ∧ s1.e = 0 ∧ lengthF (pack L) k s1 = (n, ⟨P + (lenBits n).length, out, 0⟩) := by
  unfold lenBits at hL ⊢
  by_cases e1 : n = 258
  · rw [if_pos e1] at hL ⊢
    refine ⟨28, _, by omega, sym_let (by omega) hL hP, rfl, ?_⟩
    unfold lengthF
    rw [if_neg (by omega), if_pos rfl, e1]
  · rw [if_neg e1] at hL ⊢
    by_cases e2 : n < 11
    · rw [if_pos e2] at hL ⊢
      refine ⟨n - 3, ⟨P + (letBits (254 + n)).length, out, 0⟩, by omega, ?_, rfl, ?_⟩
      · have h := sym_let (s := 254 + n) (out := out) (by omega) hL hP
        rw [show 257 + (n - 3) = 254 + n by omega]
        exact h
      · unfold lengthF
        rw [if_pos (by omega), show n - 3 + 3 = n by omega]
    · rw [if_neg e2] at hL ⊢
      obtain ⟨m, hm⟩ : ∃ m, n - 3 = m := ⟨_, rfl⟩
      rw [hm] at hL ⊢
      obtain ⟨x1, x2, x3, x4⟩ := lenX_spec m (by omega) (by omega)
      have hdm := Nat.div_add_mod m (2 ^ lenX m)
      generalize lenX m = x at *
      generalize hq : m / 2 ^ x = q at *
      have hL1 : L = a ++ letBits (257 + 4 * x + q) ++ (numBits m x ++ c) := by rw [hL]; simp only [List.append_assoc]
      have hL2 : L = (a ++ letBits (257 + 4 * x + q)) ++ numBits m x ++ c := by rw [hL]; simp only [List.append_assoc]
      refine ⟨4 * x + q, ⟨P + (letBits (257 + 4 * x + q)).length, out, 0⟩, by omega, ?_, rfl, ?_⟩
      · have h := sym_let (s := 257 + 4 * x + q) (out := out) (by omega) hL1 hP
        rw [show 257 + (4 * x + q) = 257 + 4 * x + q by omega]
        exact h
      · have hk1 : (4 * x + q) % 4 = q - 4 := by omega
        have hk2 : (4 * x + q) / 4 - 1 = x := by omega
        unfold lengthF
        rw [if_neg (by omega), if_neg (by omega), hk1, hk2, num_own hL2 (by rw [List.length_append, hP])]
        simp only [List.length_append, numBits_length, ← Nat.add_assoc]
        rw [show 4 + (q - 4) = q by omega, Nat.mul_comm q, Nat.add_assoc 3, hdm, show 3 + m = n by omega]
/-- a distance's own bits -/
theorem dist_own {L a c : List Bool} {e P : Nat} {out : List Nat} (he : e < 32768) (hL : L = a ++ distBits e ++ c) (hP : P = a.length) :
    ∃ (k : Nat) (s1 : Inf), k ≤ 29 ∧ symF (pack L) fixedD ⟨P, out, 0⟩ = ((k : Int), s1) ∧ s1.e = 0 ∧ distF (pack L) k s1 = (e + 1, ⟨P + (distBits e).length, out, 0⟩) := by
  unfold distBits at hL ⊢
  by_cases e1 : e < 2
  · rw [if_pos e1] at hL ⊢
    refine ⟨e, _, by omega, sym_dist (by omega) hL hP, rfl, ?_⟩
    unfold distF
    rw [if_pos e1, codeBits_length]
  · rw [if_neg e1] at hL ⊢
    obtain ⟨x1, x2, x3⟩ := distX_spec (by omega) he
    have hdm := Nat.div_add_mod e (2 ^ distX e)
    generalize distX e = x at *
    generalize hq : e / 2 ^ x = q at *
    have hL1 : L = a ++ codeBits (2 * x + q) 5 ++ (numBits e x ++ c) := by rw [hL]; simp only [List.append_assoc]
    have hL2 : L = (a ++ codeBits (2 * x + q) 5) ++ numBits e x ++ c := by rw [hL]; simp only [List.append_assoc]
    refine ⟨2 * x + q, _, by omega, sym_dist (by omega) hL1 hP, rfl, ?_⟩
    have hk1 : (2 * x + q) % 2 = q - 2 := by omega
    have hk2 : (2 * x + q) / 2 - 1 = x := by omega
    unfold distF
    rw [if_neg (by omega), hk1, hk2, num_own hL2 (by rw [List.length_append, hP, codeBits_length])]
    simp only [List.length_append, numBits_length, codeBits_length, ← Nat.add_assoc]
    rw [show 2 + (q - 2) = q by omega, Nat.mul_comm q, Nat.add_assoc 1, hdm, Nat.add_comm 1 e]
end Go.Proofs.YtlokfmalpkahaaaGreat.Fix
namespace Go.Proofs.YtlokfmalpkahaaaGreat
set_option maxRecDepth 100000
theorem bval_byte (bs : List Nat) (P : Nat) : ∀ (k i : Nat), i + k ≤ 8 → bval bs (8 * P + i) k = bs.getD P 0 / 2 ^ i % 2 ^ k := by
  intro k
  induction k with
  | zero => intro i _; simp [bval, Nat.mod_one]
  | succ k ih =>
    intro i h
    rw [bval, ih i (by omega)]
    have e1 : (8 * P + i + k) / 8 = P := by omega
    have e2 : (8 * P + i + k) % 8 = i + k := by omega
    unfold bitAt
    rw [e1, e2, Nat.mod_pow_succ, Nat.pow_add, ← Nat.div_div_eq_div_mul, Nat.mul_comm]
theorem bval_byte8 (bs : List Nat) (P : Nat) (h : bs.getD P 0 < 256) : bval bs (8 * P) 8 = bs.getD P 0 := by
  have := bval_byte bs P 8 0 (by omega)
  simp only [Nat.add_zero, Nat.pow_zero, Nat.div_one] at this
  rw [this]; exact Nat.mod_eq_of_lt h
theorem bval_two (bs : List Nat) (P : Nat) (h : bs.getD P 0 < 256) (h2 : bs.getD (P + 1) 0 < 256) : bval bs (8 * P) 16 = bs.getD P 0 + 256 * bs.getD (P + 1) 0 := by
  rw [show (16 : Nat) = 8 + 8 from rfl, bval_add, bval_byte8 bs P h, show 8 * P + 8 = 8 * (P + 1) by omega, bval_byte8 bs (P + 1) h2]
theorem numF_fine {bs : List Nat} {n p : Nat} {out : List Nat} (h : p + n ≤ 8 * bs.length) : numF bs n ⟨p, out, 0⟩ = (bval bs p n, ⟨p + n, out, 0⟩) := by
  unfold numF
  rw [if_neg (by simp), if_pos h]
theorem storedLoop_fine {bs : List Nat} {q : List Nat} (hq : okB q) : ∀ (k P : Nat) (out : List Nat), k ≤ q.length → P + k ≤ bs.length → (∀ j, j < k → bs.getD (P + j) 0 = q.getD (q.length - k + j) 0) →
    storedLoop bs k ⟨8 * P, out, 0⟩ = ⟨8 * (P + k), out ++ q.drop (q.length - k), 0⟩ := by
  intro k
  induction k with
  | zero => intro P out _ _ _; simp [storedLoop]
  | succ k ih =>
    intro P out hk hP h
    have h0 := h 0 (by omega)
    simp only [Nat.add_zero] at h0
    have hlt : q.length - (k + 1) < q.length := by omega
    have hget : q.getD (q.length - (k + 1)) 0 = q[q.length - (k + 1)] := by simp [List.getD, List.getElem?_eq_getElem hlt]
    have h1 : bs.getD P 0 < 256 := by rw [h0, hget]; exact hq _ (List.getElem_mem hlt)
    unfold storedLoop
    rw [numF_fine (by omega), bval_byte8 bs P h1]
    simp only [ne_eq, not_true_eq_false, if_false]
    have h2 := ih (P + 1) (out ++ [bs.getD P 0]) (by omega) (by omega) (fun j hj => by
      have := h (j + 1) (by omega)
      rw [show P + 1 + j = P + (j + 1) by omega, this, show q.length - (k + 1) + (j + 1) = q.length - k + j by omega])
    rw [show 8 * P + 8 = 8 * (P + 1) by omega, h2, show P + 1 + k = P + (k + 1) by omega]
    congr 1
    rw [h0, hget, List.append_assoc, List.singleton_append, show q.length - k = q.length - (k + 1) + 1 by omega, ← List.drop_eq_getElem_cons hlt]
/-- a stored block: last is 0 or 1 -/
def storedBlk (last : Nat) (q : List Nat) : List Nat := last :: q.length :: 0 :: (255 - q.length) :: 255 :: q
theorem storedBlk_length (last : Nat) (q : List Nat) : (storedBlk last q).length = 5 + q.length := by simp [storedBlk]; omega
theorem block_stored {bs : List Nat} {most : Int} {P last : Nat} {out q : List Nat} (hl : last ≤ 1) (hq : okB q) (hq2 : q.length ≤ 255) (hP : P + 5 + q.length ≤ bs.length) (hr : (out.length : Int) + q.length ≤ most)
    (h : ∀ j, j < 5 + q.length → bs.getD (P + j) 0 = (storedBlk last q).getD j 0) :
    blockF bs most ⟨8 * P, out, 0⟩ = ⟨8 * (P + (5 + q.length)), out ++ q, 0⟩ ∧ (numF bs 1 ⟨8 * P, out, 0⟩).1 = last := by
  have h0 : bs.getD P 0 = last := h 0 (by omega)
  have h1 : bs.getD (P + 1) 0 = q.length := h 1 (by omega)
  have h2 : bs.getD (P + 2) 0 = 0 := h 2 (by omega)
  have h3 : bs.getD (P + 3) 0 = 255 - q.length := h 3 (by omega)
  have h4 : bs.getD (P + 4) 0 = 255 := h 4 (by omega)
  have b1 : bval bs (8 * P) 1 = last := by
    have := bval_byte bs P 1 0 (by omega)
    simp only [Nat.add_zero, Nat.pow_zero, Nat.div_one, Nat.pow_one] at this
    rw [this, h0]; omega
  have b2 : bval bs (8 * P + 1) 2 = 0 := by
    rw [bval_byte bs P 2 1 (by omega), h0]
    have : last / 2 ^ 1 = 0 := by rw [Nat.pow_one]; omega
    rw [this]
  have b3 : bval bs (8 * (P + 1)) 16 = q.length := by rw [bval_two bs (P + 1) (by rw [h1]; omega) (by rw [show P + 1 + 1 = P + 2 by omega, h2]; omega), h1, show P + 1 + 1 = P + 2 by omega, h2]; omega
  have b4 : bval bs (8 * (P + 3)) 16 = 65535 - q.length := by rw [bval_two bs (P + 3) (by rw [h3]; omega) (by rw [show P + 3 + 1 = P + 4 by omega, h4]; omega), h3, show P + 3 + 1 = P + 4 by omega, h4]; omega
  have n1 : numF bs 1 ⟨8 * P, out, 0⟩ = (last, ⟨8 * P + 1, out, 0⟩) := by rw [numF_fine (by omega), b1]
  have n2 : numF bs 2 ⟨8 * P + 1, out, 0⟩ = (0, ⟨8 * P + 1 + 2, out, 0⟩) := by rw [numF_fine (by omega), b2]
  refine ⟨?_, by rw [n1]⟩
  unfold blockF
  rw [n1, n2]
  simp only [ne_eq, not_true_eq_false, if_false]
  unfold kindF
  rw [if_pos rfl]
  unfold storedF
  simp only
  rw [show (8 * P + 1 + 2 + 7) / 8 * 8 = 8 * (P + 1) by omega, numF_fine (by omega), b3]
  simp only
  rw [show 8 * (P + 1) + 16 = 8 * (P + 3) by omega, numF_fine (by omega), b4]
  simp only
  unfold storedEnd
  have e1 : 65535 - (65535 - q.length) = q.length := by omega
  simp only [e1, ne_eq, not_true_eq_false, and_false, if_false]
  rw [roomF_fine (most := most) (by rfl) (by simp only; omega)]
  simp only [ne_eq, not_true_eq_false, if_false]
  have hs := storedLoop_fine (bs := bs) hq q.length (P + 5) out (Nat.le_refl _) (by omega) (fun j hj => by
    have := h (5 + j) (by omega)
    rw [show P + 5 + j = P + (5 + j) by omega, this, show 5 + j = j + 5 by omega]
    simp [storedBlk])
  rw [show 8 * (P + 3) + 16 = 8 * (P + 5) by omega, hs]
  simp
  omega
/-- the text of k parts f 0, f 1, .., as far as the i-th; and their bytes -/
def stoTxt (f : Nat → List Nat) (k i : Nat) : List Nat := (List.range i).flatMap fun j => storedBlk (if j + 1 = k then 1 else 0) (f j)
def stoAll (f : Nat → List Nat) (i : Nat) : List Nat := (List.range i).flatMap f
theorem stoTxt_succ (f : Nat → List Nat) (k i : Nat) : stoTxt f k (i + 1) = stoTxt f k i ++ storedBlk (if i + 1 = k then 1 else 0) (f i) := by simp [stoTxt, List.range_succ]
theorem stoAll_succ (f : Nat → List Nat) (i : Nat) : stoAll f (i + 1) = stoAll f i ++ f i := by simp [stoAll, List.range_succ]
theorem stoTxt_cut (f : Nat → List Nat) (k : Nat) : ∀ (d i : Nat), i + d = k → ∃ tl, stoTxt f k k = stoTxt f k i ++ tl := by
  intro d
  induction d with
  | zero => intro i h; rw [show i = k by omega]; exact ⟨[], by simp⟩
  | succ d ih =>
    intro i h
    obtain ⟨tl, e⟩ := ih (i + 1) (by omega)
    exact ⟨storedBlk (if i + 1 = k then 1 else 0) (f i) ++ tl, by rw [e, stoTxt_succ, List.append_assoc]⟩
theorem stoTxt_len (f : Nat → List Nat) (k : Nat) : ∀ i, 5 * i ≤ (stoTxt f k i).length := by
  intro i
  induction i with
  | zero => simp
  | succ i ih => rw [stoTxt_succ, List.length_append, storedBlk_length]; omega
theorem stoAll_len {f : Nat → List Nat} {m : Nat} (h : ∀ i, (f i).length ≤ m) : ∀ i, (stoAll f i).length ≤ m * i := by
  intro i
  induction i with
  | zero => simp [stoAll]
  | succ i ih => rw [stoAll_succ, List.length_append, Nat.mul_succ]; have := h i; omega
theorem blocks_stored {f : Nat → List Nat} {k : Nat} {most : Int} (hf : ∀ i, okB (f i)) (hf2 : ∀ i, (f i).length ≤ 200) (hr : ((200 * k : Nat) : Int) ≤ most) :
    ∀ (d i fu : Nat), i + d = k → 0 < d → d ≤ fu → blocksF (stoTxt f k k) most fu ⟨8 * (stoTxt f k i).length, stoAll f i, 0⟩ = ⟨8 * (stoTxt f k k).length, stoAll f k, 0⟩ := by
  intro d
  induction d with
  | zero => intro i fu _ h _; omega
  | succ d ih =>
    intro i fu hi _ hfu
    obtain ⟨fu, rfl⟩ : ∃ f', fu = f' + 1 := ⟨fu - 1, by omega⟩
    obtain ⟨tl, e⟩ := stoTxt_cut f k d (i + 1) (by omega)
    have hs := stoTxt_succ f k i
    have hlen : (stoTxt f k (i + 1)).length = (stoTxt f k i).length + (5 + (f i).length) := by rw [hs, List.length_append, storedBlk_length]
    have hle : (stoTxt f k (i + 1)).length ≤ (stoTxt f k k).length := by rw [e, List.length_append]; omega
    have hal := stoAll_len hf2 i
    have h1 := hf2 i
    have hal2 : ((stoAll f i).length : Int) + ((f i).length : Int) ≤ most := by
      have : 200 * (i + 1) ≤ 200 * k := Nat.mul_le_mul_left _ (by omega)
      omega
    have hb := block_stored (bs := stoTxt f k k) (most := most) (P := (stoTxt f k i).length) (last := if i + 1 = k then 1 else 0) (out := stoAll f i) (q := f i) (by split <;> omega) (hf i) (by omega) (by omega) hal2
      (fun j hj => by
        rw [e, hs, List.append_assoc]
        simp only [List.getD_eq_getElem?_getD]
        rw [List.getElem?_append_right (by omega), show (stoTxt f k i).length + j - (stoTxt f k i).length = j by omega, List.getElem?_append_left (by rw [storedBlk_length]; exact hj)])
    rw [blocksF, hb.1, hb.2]
    by_cases hk : i + 1 = k
    · rw [if_pos hk, if_neg (by simp)]
      rw [← hlen, ← stoAll_succ, hk]
    · rw [if_neg hk, if_pos ⟨rfl, rfl⟩, ← stoAll_succ, ← hlen]
      exact ih (i + 1) fu (by omega) (by omega) (by omega)
theorem inflate_stored {f : Nat → List Nat} {k : Nat} (hf : ∀ i, okB (f i)) (hf2 : ∀ i, (f i).length ≤ 200) (hk : 0 < k) (hk2 : k ≤ 20) : inflateF (stoTxt f k k) 5000 = (stoAll f k, (stoTxt f k k).length, 0) := by
  have hl := stoTxt_len f k k
  have h := blocks_stored hf hf2 (most := 5000) (k := k) (by omega) k 0 (8 * (stoTxt f k k).length + 1) (by omega) hk (by omega)
  have h0 : (stoTxt f k 0).length = 0 := rfl
  have h1 : stoAll f 0 = [] := rfl
  rw [h0, h1, Nat.mul_zero] at h
  unfold inflateF
  rw [if_neg (by omega)]
  simp only [h]
  rw [if_neg (by simp)]
  congr 2
  omega
end Go.Proofs.YtlokfmalpkahaaaGreat
