/- The contract of inflate.Inflate, of any bytes and any limit up to 65536; law06's lives. Conditions: none. · Bytes in the fixed code, inflated: they come out. No program in sight. · What squeeze.Deflate writes of tokens, inflated. No program in sight. -/
import Derived.Test.YtlokfmalpkahaaaGreatKrInfL
import Derived.Test.YtlokfmalpkahaaaGreatKrLaw
import Derived.Test.YtlokfmalpkahaaaGreatKrPlainM
import Derived.Test.YtlokfmalpkahaaaGreatKrQ17
import Derived.Test.YtlokfmalpkahaaaGreatKrInfW
import Derived.Test.YtlokfmalpkahaaaGreatKrQ3
namespace Go.Proofs.YtlokfmalpkahaaaGreat
set_option maxRecDepth 100000
open Go.RowKit
set_option linter.unusedVariables false
section
variable {W : World} {bs : List Nat} {most : Int}
set_option maxHeartbeats 400000 in
theorem inflate_arg (A : Option Addr) (n c : Nat) (hm : most < 0) : Calls Tryz.prog 128 #[.slice A n c, .int .i64 most] W (InflC W bs most) := by
  have hF : inflateF bs most = ([], 0, 1) := by unfold inflateF; rw [if_pos (.inl hm)]
  have HF := Lib.hid hF
  clear hF
  go_enter Tryz.func128, Tryz.ntmps128
  go_wp2_with fail
  refine bodyPost_ret (v := .tuple #[.slice none 0 0, .int .i64 0, .int .i64 1]) (by simp [results, Tryz.results128, go_sem]) rfl ?_
  unfold InflC
  rw [HF.out]
  exact ⟨.slice none 0 0, rfl, World.ownsRow_nil _ _ _ _, Ch.refl _ _, by intro x hx; cases hx⟩
theorem inflate_c (D : Nat → Prop) (A : Option Addr) (c : Nat) (hb : Rd W D 1 A bs.length (bl bs)) (hk : okB bs) (hl : bs.length ≤ 140737488355328) (hm : most ≤ 65536) :
    Calls Tryz.prog 128 #[.slice A bs.length c, .int .i64 most] W (InflC W bs most) := by
  by_cases h0 : most < 0
  · exact inflate_arg A bs.length c h0
  · exact inflate_any len_c D A c hb hk hl (by omega) hm
end
theorem ok_lives : okB [75, 4, 0] := by unfold okB; decide
theorem lives_bits : inflateF [75, 4, 0] 9 = ([97], 3, 0) := by decide +kernel
end Go.Proofs.YtlokfmalpkahaaaGreat
namespace Go.Proofs.YtlokfmalpkahaaaGreat.Fix
set_option maxRecDepth 100000
theorem bval_pack (L : List Bool) (p : Nat) (n : Nat) (v : Nat) (h : ∀ i, i < n → L.getD (p + i) false = v.testBit i) : bval (pack L) p n = v % 2 ^ n := by
  induction n with
  | zero => simp [bval, Nat.mod_one]
  | succ n ih =>
    simp only [bval]
    rw [ih (fun i hi => h i (by omega)), bitAt_pack, h n (by omega), Nat.testBit_eq_decide_div_mod_eq, b2n_dec, Nat.mod_pow_succ, Nat.mul_comm]
theorem getD_app (a b c : List Bool) (i : Nat) (hi : i < b.length) : (a ++ b ++ c).getD (a.length + i) false = b.getD i false := by
  simp only [List.getD]
  rw [List.append_assoc, List.getElem?_append_right (by omega), show a.length + i - a.length = i by omega, List.getElem?_append_left hi]
theorem codeBits_getD (v n i : Nat) (hi : i < n) : (codeBits v n).getD i false = v.testBit (n - 1 - i) := by
  rw [codeBits_test]; simp [List.getD, hi]
theorem own_bits {V n : Nat} {L : List Bool} {P : Nat} {a c : List Bool} (hL : L = a ++ codeBits V n ++ c) (hP : P = a.length) (hc : V < 2 ^ n) : msb (bitsFrom (pack L) P) n = V := by
  have h : ∀ i, i < n → bitsFrom (pack L) P i = b2n (V.testBit (n - 1 - i)) := by
    intro i hi
    unfold bitsFrom
    rw [bitAt_pack, hL, hP, getD_app _ _ _ _ (by rw [codeBits_length]; exact hi), codeBits_getD _ _ _ hi]
  rw [msb_code h _ (Nat.le_refl _), Nat.sub_self, Nat.pow_zero, Nat.div_one]
  exact Nat.mod_eq_of_lt hc
def fixW (x : Nat) : Nat := if x < 144 then 48 + x else 256 + x
def fixN (x : Nat) : Nat := if x < 144 then 8 else 9
theorem fix_words : ∀ x, x < 256 → codeW fixedL x = fixW x ∧ lenS fixedL x = fixN x := by decide +kernel
theorem fix_end : codeW fixedL 256 = 0 ∧ lenS fixedL 256 = 7 := by decide +kernel
theorem fixW_lt {x : Nat} (h : x < 256) : fixW x < 2 ^ fixN x := by
  unfold fixW fixN
  by_cases h1 : x < 144
  · rw [if_pos h1, if_pos h1]; omega
  · rw [if_neg h1, if_neg h1]; omega
theorem fixedL_len : fixedL.length = 288 := by decide +kernel
theorem fixedL_get {x : Nat} (h : x < 288) : ∃ hx : x < fixedL.length, 0 < fixedL[x] ∧ fixedL[x] ≤ 15 := by
  refine ⟨by rw [fixedL_len]; exact h, ?_⟩
  have e : fixedL[x]'(by rw [fixedL_len]; exact h) = if x < 144 ∨ 279 < x then 8 else if x < 256 then 9 else 7 := by simp [fixedL]
  rw [e]
  split
  · omega
  · split <;> omega
theorem sym_fix {L a c : List Bool} {x V n P : Nat} {out : List Nat} (hx : x < 288) (hw : codeW fixedL x = V) (hn : lenS fixedL x = n) (hV : V < 2 ^ n) (hL : L = a ++ codeBits V n ++ c) (hP : P = a.length) :
    symF (pack L) fixedL ⟨P, out, 0⟩ = ((x : Int), ⟨P + n, out, 0⟩) := by
  obtain ⟨hxl, h0, h15⟩ := fixedL_get hx
  have hlen : P + n ≤ L.length := by rw [hL, hP]; simp only [List.length_append, codeBits_length]; omega
  have h := nextF_own (zs := fixedL) (bs := pack L) (p := P) hxl h0 h15 (by rw [hn, hw]; exact own_bits hL hP hV) (by rw [hn, pack_length]; omega)
  unfold symF
  rw [if_neg (by simp)]
  simp only
  rw [h, hn]
theorem step_fix {L a c : List Bool} {x P : Nat} {out : List Nat} {most : Int} (hx : x < 256) (hL : L = a ++ codeBits (fixW x) (fixN x) ++ c) (hP : P = a.length) (hr : (out.length : Int) + 1 ≤ most) :
    codedStep (pack L) most fixedL fixedD ⟨P, out, 0⟩ = (true, ⟨P + fixN x, out ++ [x], 0⟩) := by
  unfold codedStep
  rw [sym_fix (by omega) (fix_words x hx).1 (fix_words x hx).2 (fixW_lt hx) hL hP]
  unfold codedFrom
  rw [if_neg (by simp; omega), if_pos (by simp only; omega)]
  simp only
  rw [roomF_fine (most := most) (by rfl) (by simp only; omega)]
  simp
theorem end_fix {L a : List Bool} {P : Nat} {out : List Nat} {most : Int} (hL : L = a ++ codeBits 0 7 ++ []) (hP : P = a.length) :
    codedStep (pack L) most fixedL fixedD ⟨P, out, 0⟩ = (false, ⟨P + 7, out, 0⟩) := by
  unfold codedStep
  rw [sym_fix (x := 256) (by omega) fix_end.1 fix_end.2 (by omega) hL hP]
  unfold codedFrom
  rw [if_pos (.inr rfl)]
def fixBits (l : List Nat) : List Bool := l.flatMap fun x => codeBits (fixW x) (fixN x)
def fixHead (l : List Nat) : List Bool := numBits 3 3 ++ fixBits l
def fixText (l : List Nat) : List Bool := fixHead l ++ codeBits 0 7
theorem fixBits_succ {l : List Nat} {k : Nat} (h : k < l.length) : fixBits (l.take (k + 1)) = fixBits (l.take k) ++ codeBits (fixW l[k]) (fixN l[k]) := by
  rw [List.take_succ_eq_append_getElem h]
  unfold fixBits
  rw [List.flatMap_append]
  simp only [List.flatMap_cons, List.flatMap_nil, List.append_nil]
theorem fixHead_succ {l : List Nat} {k : Nat} (h : k < l.length) : fixHead (l.take (k + 1)) = fixHead (l.take k) ++ codeBits (fixW l[k]) (fixN l[k]) := by
  unfold fixHead; rw [fixBits_succ h, List.append_assoc]
theorem fixHead_cut {l : List Nat} {k : Nat} (h : k < l.length) : ∃ c, fixText l = fixHead (l.take k) ++ codeBits (fixW l[k]) (fixN l[k]) ++ c := by
  refine ⟨fixBits (l.drop (k + 1)) ++ codeBits 0 7, ?_⟩
  have e : fixBits l = fixBits (l.take (k + 1)) ++ fixBits (l.drop (k + 1)) := by
    unfold fixBits
    rw [← List.flatMap_append, List.take_append_drop]
  rw [← fixHead_succ h]
  unfold fixText fixHead
  rw [e]
  simp only [List.append_assoc]
theorem fixBits_le (l : List Nat) : (fixBits l).length ≤ 9 * l.length := by
  induction l with
  | nil => simp [fixBits]
  | cons x l ih =>
    have e : fixBits (x :: l) = codeBits (fixW x) (fixN x) ++ fixBits l := rfl
    have : fixN x ≤ 9 := by unfold fixN; split <;> omega
    rw [e, List.length_append, codeBits_length, List.length_cons]
    omega
theorem coded_fix {l : List Nat} {most : Int} (hl : okB l) (hm : (l.length : Int) ≤ most) : ∀ (d k fu : Nat), k + d = l.length → d < fu → codedF (pack (fixText l)) most fixedL fixedD fu ⟨(fixHead (l.take k)).length, l.take k, 0⟩ = ⟨(fixText l).length, l, 0⟩ := by
  intro d
  induction d with
  | zero =>
    intro k fu hk hfu
    obtain ⟨fu, rfl⟩ : ∃ f', fu = f' + 1 := ⟨fu - 1, by omega⟩
    have ht : l.take k = l := List.take_of_length_le (by omega)
    rw [codedF, if_neg (by simp), ht, end_fix (L := fixText l) (a := fixHead l) (by simp [fixText]) rfl]
    simp [fixText, codeBits_length]
  | succ d ih =>
    intro k fu hk hfu
    obtain ⟨fu, rfl⟩ : ∃ f', fu = f' + 1 := ⟨fu - 1, by omega⟩
    have hkl : k < l.length := by omega
    obtain ⟨c, hc⟩ := fixHead_cut hkl
    have hx := hl _ (List.getElem_mem hkl)
    rw [codedF, if_neg (by simp), step_fix hx hc rfl (by simp only [List.length_take]; omega)]
    simp only [if_true]
    rw [← List.take_succ_eq_append_getElem hkl, show (fixHead (l.take k)).length + fixN l[k] = (fixHead (l.take (k + 1))).length by rw [fixHead_succ hkl, List.length_append, codeBits_length]]
    exact ih (k + 1) fu (by omega) (by omega)
theorem fix_bit {l : List Nat} {i : Nat} (hi : i < 3) : (fixText l).getD i false = (3 : Nat).testBit i := by
  have e : fixText l = [true, true, false] ++ (fixBits l ++ codeBits 0 7) := by
    unfold fixText fixHead; rw [List.append_assoc]; rfl
  rw [e]
  match i, hi with
  | 0, _ => rfl
  | 1, _ => rfl
  | 2, _ => rfl
theorem numF_fix {bs : List Nat} {n p v : Nat} {out : List Nat} (h : p + n ≤ 8 * bs.length) (hv : bval bs p n = v) : numF bs n ⟨p, out, 0⟩ = (v, ⟨p + n, out, 0⟩) := by
  unfold numF
  rw [if_neg (by simp), if_pos h, hv]
theorem inflate_fixed {l : List Nat} (hl : okB l) (hm : l.length ≤ 2000) : inflateF (pack (fixText l)) 2000 = (l, (pack (fixText l)).length, 0) := by
  have hle : 10 ≤ (fixText l).length := by unfold fixText fixHead; simp only [List.length_append, codeBits_length, numBits_length]; omega
  have hpl := pack_length (fixText l)
  have hll : l.length ≤ 8 * (pack (fixText l)).length := by
    have h8 : ∀ q : List Nat, q.length ≤ (fixBits q).length := by
      intro q
      induction q with
      | nil => simp
      | cons x q ih =>
        have e : fixBits (x :: q) = codeBits (fixW x) (fixN x) ++ fixBits q := rfl
        have : 1 ≤ fixN x := by unfold fixN; split <;> omega
        rw [e, List.length_append, codeBits_length, List.length_cons]; omega
    have := h8 l
    have e : (fixText l).length = 3 + (fixBits l).length + 7 := by unfold fixText fixHead; simp only [List.length_append, codeBits_length, numBits_length]
    omega
  have b1 : bval (pack (fixText l)) 0 1 = 1 := by rw [bval_pack _ 0 1 3 (fun i hi => by rw [Nat.zero_add]; exact fix_bit (by omega))]
  have b2 : bval (pack (fixText l)) 1 2 = 1 := by
    rw [bval_pack _ 1 2 1 (fun i hi => by
      rw [fix_bit (by omega)]
      match i, hi with
      | 0, _ => rfl
      | 1, _ => rfl)]
  have hc := coded_fix (most := 2000) hl (by omega) l.length 0 (8 * (pack (fixText l)).length + 1) (by omega) (by omega)
  have h3 : (fixHead (l.take 0)).length = 3 := by simp [fixHead, fixBits, numBits_length]
  rw [h3, List.take_zero] at hc
  have hb : blockF (pack (fixText l)) 2000 ⟨0, [], 0⟩ = ⟨(fixText l).length, l, 0⟩ ∧ (numF (pack (fixText l)) 1 ⟨0, [], 0⟩).1 = 1 := by
    have n1 := numF_fix (bs := pack (fixText l)) (n := 1) (p := 0) (out := []) (by omega) b1
    have n2 := numF_fix (bs := pack (fixText l)) (n := 2) (p := 1) (out := []) (by omega) b2
    refine ⟨?_, by rw [n1]⟩
    unfold blockF
    rw [n1]
    simp only [Nat.zero_add]
    rw [n2]
    simp only [ne_eq, not_true_eq_false, if_false]
    unfold kindF
    rw [if_neg (by decide), if_pos rfl, tabled_ok rfl fixedL_ok fixedD_ok]
    exact hc
  have hx : blocksF (pack (fixText l)) 2000 (8 * (pack (fixText l)).length + 1) ⟨0, [], 0⟩ = ⟨(fixText l).length, l, 0⟩ := by rw [blocksF, hb.1, hb.2, if_neg (by simp)]
  unfold inflateF
  rw [if_neg (by omega)]
  simp only [hx]
  rw [if_neg (by simp), hpl]
end Go.Proofs.YtlokfmalpkahaaaGreat.Fix
namespace Go.Proofs.YtlokfmalpkahaaaGreat.Fix
set_option maxRecDepth 100000
theorem numBits_getD (v n i : Nat) (hi : i < n) : (numBits v n).getD i false = v.testBit i := by
  rw [numBits_test]; simp [List.getD, hi]
theorem let_words : ∀ s, s < 288 → codeW fixedL s = letW s ∧ lenS fixedL s = letN s := by decide +kernel
theorem dist_words : ∀ s, s < 32 → codeW fixedD s = s ∧ lenS fixedD s = 5 := by decide +kernel
theorem letW_lt {s : Nat} (h : s < 288) : letW s < 2 ^ letN s := by
  unfold letW letN
  by_cases h1 : s < 144
  · rw [if_pos h1, if_pos h1]; omega
  · rw [if_neg h1, if_neg h1]
    by_cases h2 : s < 256
    · rw [if_pos h2, if_pos h2]; omega
    · rw [if_neg h2, if_neg h2]
      by_cases h3 : s < 280
      · rw [if_pos h3, if_pos h3]; omega
      · rw [if_neg h3, if_neg h3]; omega
theorem sym_let {L a c : List Bool} {s P : Nat} {out : List Nat} (hs : s < 288) (hL : L = a ++ letBits s ++ c) (hP : P = a.length) :
    symF (pack L) fixedL ⟨P, out, 0⟩ = ((s : Int), ⟨P + (letBits s).length, out, 0⟩) := by
  have h := sym_fix (out := out) hs (let_words s hs).1 (let_words s hs).2 (letW_lt hs) hL hP
  rw [h]
  unfold letBits
  rw [codeBits_length]
theorem fixedD_get {x : Nat} (h : x < 32) : ∃ hx : x < fixedD.length, 0 < fixedD[x] ∧ fixedD[x] ≤ 15 := by
  have hl : fixedD.length = 32 := List.length_replicate ..
  have e : fixedD[x]'(by rw [hl]; exact h) = 5 := List.getElem_replicate ..
  exact ⟨by rw [hl]; exact h, by rw [e]; omega⟩
theorem sym_dist {L a c : List Bool} {s P : Nat} {out : List Nat} (hs : s < 32) (hL : L = a ++ codeBits s 5 ++ c) (hP : P = a.length) :
    symF (pack L) fixedD ⟨P, out, 0⟩ = ((s : Int), ⟨P + 5, out, 0⟩) := by
  obtain ⟨hxl, h0, h15⟩ := fixedD_get hs
  have hlen : P + 5 ≤ L.length := by rw [hL, hP]; simp only [List.length_append, codeBits_length]; omega
  obtain ⟨hw, hn⟩ := dist_words s hs
  have h := nextF_own (zs := fixedD) (bs := pack L) (p := P) hxl h0 h15 (by rw [hn, hw]; exact own_bits hL hP (by omega)) (by rw [hn, pack_length]; omega)
  unfold symF
  rw [if_neg (by simp)]
  simp only
  rw [h, hn]
theorem num_own {L a c : List Bool} {m n P : Nat} {out : List Nat} (hL : L = a ++ numBits m n ++ c) (hP : P = a.length) : numF (pack L) n ⟨P, out, 0⟩ = (m % 2 ^ n, ⟨P + n, out, 0⟩) := by
  have hlen : P + n ≤ L.length := by rw [hL, hP]; simp only [List.length_append, numBits_length]; omega
  have hv : bval (pack L) P n = m % 2 ^ n := bval_pack L P n m fun i hi => by
    rw [hL, hP, getD_app _ _ _ _ (by rw [numBits_length]; exact hi), numBits_getD _ _ _ hi]
  exact numF_fix (by rw [pack_length]; omega) hv
theorem upF_spec {b m : Nat} : ∀ f x, (upF b m f x = x ∨ (x < upF b m f x ∧ b * 2 ^ (upF b m f x - 1) ≤ m)) ∧ (upF b m f x < x + f → m < b * 2 ^ upF b m f x) := by
  intro f
  induction f with
  | zero => intro x; exact ⟨.inl rfl, fun h => by simp only [upF] at h; omega⟩
  | succ f ih =>
    intro x
    unfold upF
    by_cases h : b * 2 ^ x ≤ m
    · rw [if_pos h]
      obtain ⟨h1, h2⟩ := ih (x + 1)
      refine ⟨.inr ?_, fun hl => h2 (by omega)⟩
      rcases h1 with h1 | h1
      · rw [h1]; exact ⟨by omega, by simpa using h⟩
      · exact ⟨by omega, h1.2⟩
    · rw [if_neg h]
      exact ⟨.inl rfl, fun _ => by omega⟩
theorem lenX_spec : ∀ m, m < 255 → 8 ≤ m → 1 ≤ lenX m ∧ lenX m ≤ 5 ∧ 4 ≤ m / 2 ^ lenX m ∧ m / 2 ^ lenX m < 8 := by decide +kernel
theorem distX_spec {e : Nat} (h2 : 2 ≤ e) (h : e < 32768) : distX e ≤ 13 ∧ 2 ≤ e / 2 ^ distX e ∧ e / 2 ^ distX e < 4 := by
  obtain ⟨h1, h3⟩ := upF_spec (b := 4) (m := e) 20 0
  have hx : distX e = upF 4 e 20 0 := rfl
  rw [← hx] at h1 h3
  generalize distX e = x at *
  have hx13 : x ≤ 13 := by
    rcases h1 with h1 | ⟨_, h1⟩
    · omega
    · rcases Nat.lt_or_ge 13 x with h5 | h5
      · have := Nat.pow_le_pow_right (show 0 < 2 by omega) (show 13 ≤ x - 1 by omega)
        omega
      · exact h5
  have hlt := h3 (by omega)
  have hp : 0 < 2 ^ x := Nat.two_pow_pos x
  refine ⟨hx13, ?_, Nat.div_lt_of_lt_mul (by rw [Nat.mul_comm]; exact hlt)⟩
  rw [Nat.le_div_iff_mul_le hp]
  rcases h1 with h1 | ⟨h0, h1⟩
  · rw [h1]; omega
  · have : 2 ^ x = 2 * 2 ^ (x - 1) := by rw [← Nat.pow_succ', show (x - 1).succ = x by omega]
    omega
/-- a length's own bits -/
theorem len_own {L a c : List Bool} {n P : Nat} {out : List Nat} (h3 : 3 ≤ n) (h258 : n ≤ 258) (hL : L = a ++ lenBits n ++ c) (hP : P = a.length) :
    ∃ (k : Nat) (s1 : Inf), k ≤ 28 ∧ symF (pack L) fixedL ⟨P, out, 0⟩ = (((257 + k : Nat) : Int), s1) ∧ s1.e = 0 ∧ lengthF (pack L) k s1 = (n, ⟨P + (lenBits n).length, out, 0⟩) := by
  unfold lenBits at hL ⊢
  by_cases e1 : n = 258
  · rw [if_pos e1] at hL ⊢
    refine ⟨28, _, by omega, sym_let (by omega) hL hP, rfl, ?_⟩
    unfold lengthF
    rw [if_neg (by omega), if_pos rfl, e1]
  · rw [if_neg e1] at hL ⊢
    by_cases e2 : n < 11
    · rw [if_pos e2] at hL ⊢
      refine ⟨n - 3, ⟨P + (letBits (254 + n)).length, out, 0⟩, by omega, ?_, rfl, ?_⟩
      · have h := sym_let (s := 254 + n) (out := out) (by omega) hL hP
        rw [show 257 + (n - 3) = 254 + n by omega]
        exact h
      · unfold lengthF
        rw [if_pos (by omega), show n - 3 + 3 = n by omega]
    · rw [if_neg e2] at hL ⊢
      obtain ⟨m, hm⟩ : ∃ m, n - 3 = m := ⟨_, rfl⟩
      rw [hm] at hL ⊢
      obtain ⟨x1, x2, x3, x4⟩ := lenX_spec m (by omega) (by omega)
      have hdm := Nat.div_add_mod m (2 ^ lenX m)
      generalize lenX m = x at *
      generalize hq : m / 2 ^ x = q at *
      have hL1 : L = a ++ letBits (257 + 4 * x + q) ++ (numBits m x ++ c) := by rw [hL]; simp only [List.append_assoc]
      have hL2 : L = (a ++ letBits (257 + 4 * x + q)) ++ numBits m x ++ c := by rw [hL]; simp only [List.append_assoc]
      refine ⟨4 * x + q, ⟨P + (letBits (257 + 4 * x + q)).length, out, 0⟩, by omega, ?_, rfl, ?_⟩
      · have h := sym_let (s := 257 + 4 * x + q) (out := out) (by omega) hL1 hP
        rw [show 257 + (4 * x + q) = 257 + 4 * x + q by omega]
        exact h
      · have hk1 : (4 * x + q) % 4 = q - 4 := by omega
        have hk2 : (4 * x + q) / 4 - 1 = x := by omega
        unfold lengthF
        rw [if_neg (by omega), if_neg (by omega), hk1, hk2, num_own hL2 (by rw [List.length_append, hP])]
        simp only [List.length_append, numBits_length, ← Nat.add_assoc]
        rw [show 4 + (q - 4) = q by omega, Nat.mul_comm q, Nat.add_assoc 3, hdm, show 3 + m = n by omega]
/-- a distance's own bits -/
theorem dist_own {L a c : List Bool} {e P : Nat} {out : List Nat} (he : e < 32768) (hL : L = a ++ distBits e ++ c) (hP : P = a.length) :
    ∃ (k : Nat) (s1 : Inf), k ≤ 29 ∧ symF (pack L) fixedD ⟨P, out, 0⟩ = ((k : Int), s1) ∧ s1.e = 0 ∧ distF (pack L) k s1 = (e + 1, ⟨P + (distBits e).length, out, 0⟩) := by
  unfold distBits at hL ⊢
  by_cases e1 : e < 2
  · rw [if_pos e1] at hL ⊢
    refine ⟨e, _, by omega, sym_dist (by omega) hL hP, rfl, ?_⟩
    unfold distF
    rw [if_pos e1, codeBits_length]
  · rw [if_neg e1] at hL ⊢
    obtain ⟨x1, x2, x3⟩ := distX_spec (by omega) he
    have hdm := Nat.div_add_mod e (2 ^ distX e)
    generalize distX e = x at *
    generalize hq : e / 2 ^ x = q at *
    have hL1 : L = a ++ codeBits (2 * x + q) 5 ++ (numBits e x ++ c) := by rw [hL]; simp only [List.append_assoc]
    have hL2 : L = (a ++ codeBits (2 * x + q) 5) ++ numBits e x ++ c := by rw [hL]; simp only [List.append_assoc]
    refine ⟨2 * x + q, _, by omega, sym_dist (by omega) hL1 hP, rfl, ?_⟩
    have hk1 : (2 * x + q) % 2 = q - 2 := by omega
    have hk2 : (2 * x + q) / 2 - 1 = x := by omega
    unfold distF
    rw [if_neg (by omega), hk1, hk2, num_own hL2 (by rw [List.length_append, hP, codeBits_length])]
    simp only [List.length_append, numBits_length, codeBits_length, ← Nat.add_assoc]
    rw [show 2 + (q - 2) = q by omega, Nat.mul_comm q, Nat.add_assoc 1, hdm, Nat.add_comm 1 e]
end Go.Proofs.YtlokfmalpkahaaaGreat.Fix
