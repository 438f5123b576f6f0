/- What squeeze.Deflate hands back, inflated, is the bytes again. No program in sight. -/
import Derived.Test.YtlokfmalpkahaaaGreatKbQ18
import Derived.Test.YtlokfmalpkahaaaGreatKbSqS
namespace Go.Proofs.YtlokfmalpkahaaaGreat.Fix
set_option maxRecDepth 100000
theorem take_snoc {xs : List Nat} {p : Nat} (h : p < xs.length) : xs.take p ++ [xs.getD p 0] = xs.take (p + 1) := by
  rw [List.take_succ_eq_append_getElem h]
  simp [List.getD, List.getElem?_eq_getElem h]
theorem copyF_take {xs : List Nat} {d : Nat} (hd : 1 ≤ d) : ∀ n p, d ≤ p → p + n ≤ xs.length → (∀ j, j < n → xs.getD (p - d + j) 0 = xs.getD (p + j) 0) → copyF n d (xs.take p) = xs.take (p + n) := by
  intro n
  induction n with
  | zero => intro p _ _ _; rfl
  | succ n ih =>
    intro p hdp hl h
    have hlen : (xs.take p).length = p := by rw [List.length_take]; omega
    have h0 := h 0 (by omega)
    simp only [Nat.add_zero] at h0
    have hget : (xs.take p).getD (p - d) 0 = xs.getD p 0 := by
      rw [← h0]
      simp only [List.getD_eq_getElem?_getD]
      rw [List.getElem?_take, if_pos (by omega)]
    rw [copyF, hlen, hget, take_snoc (by omega), ih (p + 1) (by omega) (by omega) (fun j hj => by
      have := h (j + 1) (by omega)
      rw [show p + 1 - d + j = p - d + (j + 1) by omega, this, show p + 1 + j = p + (j + 1) by omega])]
    congr 1
    omega
theorem step_tok {xs : List Nat} {L a c : List Bool} {p P : Nat} {t2 : Nat × Nat} {most : Int} (ok : okB xs) (hg : Good xs p t2) (hp : p < xs.length) (hL : L = a ++ tokBits (tokF xs p t2) ++ c) (hP : P = a.length) (hm : (xs.length : Int) ≤ most) :
    codedStep (pack L) most fixedL fixedD ⟨P, xs.take p, 0⟩ = (true, ⟨P + (tokBits (tokF xs p t2)).length, xs.take (p + max t2.1 1), 0⟩) := by
  have hlen : (xs.take p).length = p := by rw [List.length_take]; omega
  rcases hg with rfl | ⟨g1, g2, g3, g4, g5, g6, g7⟩
  · have hb : tokBits (tokF xs p (0, 0)) = letBits (xs.getD p 0) := rfl
    have hx := okB_getD ok p
    rw [hb] at hL ⊢
    unfold codedStep
    rw [sym_let (by omega) hL hP]
    unfold codedFrom
    generalize hxx : xs.getD p 0 = x at *
    have hc1 : ¬ ((⟨P + (letBits x).length, xs.take p, 0⟩ : Inf).e ≠ 0 ∨ (x : Int) = 256) := by simp; omega
    have hc2 : (x : Int) < 256 := by omega
    rw [if_neg hc1, if_pos hc2]
    have hr := roomF_fine (most := most) (n := 1) (s := ⟨P + (letBits x).length, xs.take p, 0⟩) rfl (by simp only [hlen]; omega)
    rw [hr]
    simp only [if_true, Int.toNat_natCast]
    rw [← hxx, take_snoc hp]
    rfl
  · have hn0 : ¬ (tokF xs p t2).len = 0 := by show ¬ t2.1 = 0; omega
    have hb : tokBits (tokF xs p t2) = lenBits t2.1 ++ distBits (t2.2 - 1) := by unfold tokBits; rw [if_neg hn0]; rfl
    rw [hb] at hL ⊢
    obtain ⟨k, s1, hk, h1, he1, h2⟩ := len_own (out := xs.take p) (L := L) (a := a) (c := distBits (t2.2 - 1) ++ c) (P := P) g1 g2 (by rw [hL]; simp only [List.append_assoc]) hP
    obtain ⟨k2, s3, hk2, h3, he3, h4⟩ := dist_own (out := xs.take p) (L := L) (a := a ++ lenBits t2.1) (c := c) (P := P + (lenBits t2.1).length) (e := t2.2 - 1) (by omega) (by rw [hL]; simp only [List.append_assoc]) (by rw [List.length_append, hP])
    unfold codedStep
    rw [h1]
    unfold codedFrom
    simp only
    rw [if_neg (by simp [he1]; omega), if_neg (by omega), if_neg (by omega), show (((257 + k : Nat) : Int) - 257).toNat = k by omega, h2]
    simp only
    rw [h3]
    simp only
    rw [st_near he3 (by omega), h4]
    simp only
    have hd : t2.2 - 1 + 1 = t2.2 := by omega
    rw [hd]
    have hr := roomF_fine (most := most) (n := (t2.1 : Int)) (s := ⟨P + (lenBits t2.1).length + (distBits (t2.2 - 1)).length, xs.take p, 0⟩) rfl (by simp only [hlen]; omega)
    rw [sg_ok rfl (by simp only [hlen]; omega) (by rw [hr])]
    simp only
    rw [copyF_take g3 t2.1 p g5 g6 g7, List.length_append, show max t2.1 1 = t2.1 by omega, Nat.add_assoc]
theorem end_tok {L a : List Bool} {P : Nat} {out : List Nat} {most : Int} (hL : L = a ++ letBits 256) (hP : P = a.length) :
    codedStep (pack L) most fixedL fixedD ⟨P, out, 0⟩ = (false, ⟨L.length, out, 0⟩) := by
  unfold codedStep
  rw [sym_let (s := 256) (a := a) (c := []) (by omega) (by rw [hL, List.append_nil]) hP]
  unfold codedFrom
  rw [if_pos (.inr rfl), hL, List.length_append, hP]
theorem coded_toks {xs : List Nat} {most : Int} (ok : okB xs) (hm : (xs.length : Int) ≤ most) : ∀ f p (a : List Bool) fu, xs.length - p ≤ f → p ≤ xs.length → (tokensF xs f p).length < fu →
    ∀ L, L = a ++ (tokensF xs f p).flatMap tokBits ++ letBits 256 → codedF (pack L) most fixedL fixedD fu ⟨a.length, xs.take p, 0⟩ = ⟨L.length, xs, 0⟩ := by
  intro f
  induction f with
  | zero =>
    intro p a fu h1 h2 h3 L hL
    obtain ⟨fu, rfl⟩ : ∃ f', fu = f' + 1 := ⟨fu - 1, by omega⟩
    rw [codedF, if_neg (by simp), end_tok (L := L) (a := a) (by rw [hL]; simp [tokensF]) rfl]
    simp only [Bool.false_eq_true, if_false]
    rw [List.take_of_length_le (by omega)]
  | succ f ih =>
    intro p a fu h1 h2 h3 L hL
    obtain ⟨fu, rfl⟩ : ∃ f', fu = f' + 1 := ⟨fu - 1, by omega⟩
    rw [tokensF] at h3 hL
    by_cases hp : xs.length ≤ p
    · rw [if_pos hp] at h3 hL
      rw [codedF, if_neg (by simp), end_tok (L := L) (a := a) (by rw [hL]; simp) rfl]
      simp only [Bool.false_eq_true, if_false]
      rw [List.take_of_length_le (by omega)]
    · rw [if_neg hp] at h3 hL
      have hg := bestF_good xs p
      have hmx : p + max (bestF xs p).1 1 ≤ xs.length := by
        rcases hg with e | e
        · rw [e]; simp; omega
        · have := e.2.2.2.2.2.1; omega
      generalize bestF xs p = t2 at *
      rw [List.flatMap_cons] at hL
      rw [codedF, if_neg (by simp), step_tok (L := L) (a := a) (c := (tokensF xs f (p + max t2.1 1)).flatMap tokBits ++ letBits 256) ok hg (by omega) (by rw [hL]; simp only [List.append_assoc]) rfl hm]
      simp only [if_true]
      rw [← List.length_append]
      refine ih (p + max t2.1 1) (a ++ tokBits (tokF xs p t2)) fu (by omega) hmx (by simp only [List.length_cons] at h3; omega) L (by rw [hL]; simp only [List.append_assoc])
theorem tokBits_pos (t : Tok) : 1 ≤ (tokBits t).length := by
  have hl : ∀ s, 7 ≤ (letBits s).length := fun s => by
    unfold letBits letN
    rw [codeBits_length]
    split
    · omega
    · split
      · omega
      · split <;> omega
  unfold tokBits
  split
  · have := hl t.byte; omega
  · rw [List.length_append]
    have : 7 ≤ (lenBits t.len).length := by
      unfold lenBits
      split
      · exact hl _
      · split
        · exact hl _
        · rw [List.length_append]; have := hl (257 + 4 * lenX (t.len - 3) + (t.len - 3) / 2 ^ lenX (t.len - 3)); omega
    omega
theorem flat_ge (l : List Tok) : l.length ≤ (l.flatMap tokBits).length := by
  induction l with
  | nil => simp
  | cons t l ih => have := tokBits_pos t; rw [List.flatMap_cons, List.length_append, List.length_cons]; omega
theorem inflate_defl {xs : List Nat} {most : Int} (ok : okB xs) (hm : (xs.length : Int) ≤ most) (hm2 : most ≤ 65536) : inflateF (pack (deflBits (tokensF xs xs.length 0))) most = (xs, (pack (deflBits (tokensF xs xs.length 0))).length, 0) := by
  have hc := coded_toks ok hm xs.length 0 (numBits 3 3)
  generalize hT : tokensF xs xs.length 0 = l at *
  have hfl := flat_ge l
  have hL : deflBits l = numBits 3 3 ++ l.flatMap tokBits ++ letBits 256 := rfl
  have hle : 10 ≤ (deflBits l).length ∧ l.length ≤ (deflBits l).length := by
    have h7 : (letBits 256).length = 7 := rfl
    rw [hL]
    simp only [List.length_append, numBits_length, h7]
    omega
  have hbit : ∀ i, i < 3 → (deflBits l).getD i false = (3 : Nat).testBit i := by
    intro i hi
    have e : deflBits l = [true, true, false] ++ (l.flatMap tokBits ++ letBits 256) := by rw [hL, List.append_assoc]; rfl
    rw [e]
    match i, hi with
    | 0, _ => rfl
    | 1, _ => rfl
    | 2, _ => rfl
  have hpl := pack_length (deflBits l)
  have hc2 := hc (8 * (pack (deflBits l)).length + 1) (by omega) (by omega) (by omega) (deflBits l) hL
  rw [numBits_length, List.take_zero] at hc2
  generalize deflBits l = L at *
  have b1 : bval (pack L) 0 1 = 1 := by rw [bval_pack _ 0 1 3 (fun i hi => by rw [Nat.zero_add]; exact hbit i (by omega))]
  have b2 : bval (pack L) 1 2 = 1 := by
    rw [bval_pack _ 1 2 1 (fun i hi => by
      rw [hbit _ (by omega)]
      match i, hi with
      | 0, _ => rfl
      | 1, _ => rfl)]
  have hb : blockF (pack L) most ⟨0, [], 0⟩ = ⟨L.length, xs, 0⟩ ∧ (numF (pack L) 1 ⟨0, [], 0⟩).1 = 1 := by
    have n1 := numF_fix (bs := pack L) (n := 1) (p := 0) (out := []) (by omega) b1
    have n2 := numF_fix (bs := pack L) (n := 2) (p := 1) (out := []) (by omega) b2
    refine ⟨?_, by rw [n1]⟩
    unfold blockF
    rw [n1]
    simp only [Nat.zero_add]
    rw [n2]
    simp only [ne_eq, not_true_eq_false, if_false]
    unfold kindF
    rw [if_neg (by decide), if_pos rfl, tabled_ok rfl fixedL_ok fixedD_ok]
    exact hc2
  have hx : blocksF (pack L) most (8 * (pack L).length + 1) ⟨0, [], 0⟩ = ⟨L.length, xs, 0⟩ := by rw [blocksF, hb.1, hb.2, if_neg (by simp)]
  unfold inflateF
  rw [if_neg (by omega)]
  simp only [hx]
  rw [if_neg (by simp), hpl]
theorem inflate_sto {xs : List Nat} {most : Int} (ok : okB xs) (hl : xs.length ≤ 65535) (hm : (xs.length : Int) ≤ most) (hm2 : most ≤ 65536) : inflateF (stoOne xs) most = (xs, (stoOne xs).length, 0) := by
  obtain ⟨n, hn⟩ : ∃ n, xs.length = n := ⟨_, rfl⟩
  have hlen : (stoOne xs).length = 5 + n := by simp [stoOne, stoHdr, hn]; omega
  have h0 : (stoOne xs).getD 0 0 = 1 := rfl
  have h1 : (stoOne xs).getD 1 0 = n % 256 := by rw [← hn]; rfl
  have h2 : (stoOne xs).getD 2 0 = n / 256 := by rw [← hn]; rfl
  have h3 : (stoOne xs).getD 3 0 = 255 - n % 256 := by rw [← hn]; rfl
  have h4 : (stoOne xs).getD 4 0 = 255 - n / 256 := by rw [← hn]; rfl
  have h5 : ∀ j, (stoOne xs).getD (5 + j) 0 = xs.getD j 0 := fun j => by rw [show 5 + j = j + 5 by omega]; simp [stoOne, stoHdr]
  generalize stoOne xs = bs at *
  have b1 : bval bs 0 1 = 1 := by
    have := bval_byte bs 0 1 0 (by omega)
    simp only [Nat.mul_zero, Nat.add_zero, Nat.pow_zero, Nat.div_one, Nat.pow_one] at this
    rw [this, h0]
  have b2 : bval bs 1 2 = 0 := by
    have := bval_byte bs 0 2 1 (by omega)
    simp only [Nat.mul_zero, Nat.zero_add] at this
    rw [this, h0]
  have b3 : bval bs 8 16 = n := by
    have := bval_two bs 1 (by rw [h1]; omega) (by rw [h2]; omega)
    rw [h1, h2] at this
    rw [show (8 : Nat) = 8 * 1 from rfl, this]; omega
  have b4 : bval bs 24 16 = 65535 - n := by
    have := bval_two bs 3 (by rw [h3]; omega) (by rw [h4]; omega)
    rw [h3, h4] at this
    rw [show (24 : Nat) = 8 * 3 from rfl, this]; omega
  have n1 : numF bs 1 ⟨0, [], 0⟩ = (1, ⟨1, [], 0⟩) := by rw [numF_fine (by omega), b1]
  have n2 : numF bs 2 ⟨1, [], 0⟩ = (0, ⟨3, [], 0⟩) := by rw [numF_fine (by omega), b2]
  have hb : blockF bs most ⟨0, [], 0⟩ = ⟨8 * (5 + n), xs, 0⟩ := by
    unfold blockF
    rw [n1, n2]
    simp only [ne_eq, not_true_eq_false, if_false]
    unfold kindF
    rw [if_pos rfl]
    unfold storedF
    simp only
    rw [show (3 + 7) / 8 * 8 = 8 by omega, numF_fine (by omega), b3]
    simp only
    rw [show 8 + 16 = 24 by omega, numF_fine (by omega), b4]
    simp only
    unfold storedEnd
    have e1 : 65535 - (65535 - n) = n := by omega
    simp only [e1, ne_eq, not_true_eq_false, and_false, if_false]
    rw [roomF_fine (most := most) (by rfl) (by simp only [List.length_nil]; omega)]
    simp only [ne_eq, not_true_eq_false, if_false]
    have hs := storedLoop_fine (bs := bs) ok n 5 [] (by omega) (by omega) (fun j hj => by rw [h5 j, hn, Nat.sub_self, Nat.zero_add])
    rw [show 24 + 16 = 8 * 5 by omega, hs, hn, Nat.sub_self]
    simp
  have hx : blocksF bs most (8 * bs.length + 1) ⟨0, [], 0⟩ = ⟨8 * (5 + n), xs, 0⟩ := by rw [blocksF, hb, n1, if_neg (by simp)]
  unfold inflateF
  rw [if_neg (by omega)]
  simp only [hx]
  rw [if_neg (by simp), hlen]
  congr 2
  omega
/-- whatever is squeezed comes back, and is not much longer -/
theorem defl_back {xs : List Nat} (ok : okB xs) (hl : xs.length ≤ 65535) : inflateF (deflF xs) xs.length = (xs, (deflF xs).length, 0) ∧ (deflF xs).length ≤ xs.length + 5 ∧ okB (deflF xs) := by
  have hs : (stoOne xs).length = 5 + xs.length := by simp [stoOne, stoHdr]; omega
  unfold deflF
  split
  · next h => exact ⟨inflate_defl ok (by omega) (by omega), by omega, pack_lt _⟩
  · refine ⟨inflate_sto ok hl (by omega) (by omega), by omega, ?_⟩
    intro z hz
    simp only [stoOne, stoHdr, List.cons_append, List.nil_append, List.mem_cons] at hz
    rcases hz with h | h | h | h | h | h
    · omega
    · omega
    · omega
    · omega
    · omega
    · exact ok z h
end Go.Proofs.YtlokfmalpkahaaaGreat.Fix
