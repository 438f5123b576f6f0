/- Plain law of prefix codes: what Next answers in a full code, and behind a word's own bits. No program in sight. · Bytes in the fixed code, inflated: they come out. No program in sight. -/
import Derived.Test.YtlokfmalpkahaaaGreatKbQ13
import Derived.Test.YtlokfmalpkahaaaGreatKbBitsN
import Derived.Test.YtlokfmalpkahaaaGreatKbPlainM
import Derived.Test.YtlokfmalpkahaaaGreatKbInfW
namespace Go.Proofs.YtlokfmalpkahaaaGreat
set_option maxRecDepth 100000

theorem getD_of_get {α : Type} {l : List α} {i : Nat} {x d : α} (h : l[i]? = some x) : l.getD i d = x := by simp [List.getD, h]

theorem nextF_full {zs : List Int} {bs : List Nat} {p : Nat} (hl : zs.length ≤ 320) (he : endc zs 15 = 32768) (hp : p + 15 ≤ 8 * bs.length) :
    ∃ s, ∃ hs : s < zs.length, 0 < zs[s] ∧ lenS zs s ≤ 15 ∧ nextF zs bs p 15 0 = ((s : Int), 0, p + lenS zs s) := by
  have key : ∀ k n, n + k = 15 → Past zs (bitsFrom bs p) n → ∃ s, ∃ hs : s < zs.length, 0 < zs[s] ∧ lenS zs s ≤ 15 ∧ nextF zs bs p k n = ((s : Int), 0, p + lenS zs s) := by
    intro k
    induction k with
    | zero =>
      intro n hn h
      have := (full_left (bitsFrom_lt bs p) he (by omega) h).1
      omega
    | succ k ih =>
      intro n hn h
      obtain ⟨h1, h2⟩ := full_left (bitsFrom_lt bs p) he (by omega) h
      unfold nextF
      rw [if_neg (by omega), if_neg (by omega)]
      by_cases hh : msb (bitsFrom bs p) (n + 1) < 2 * endc zs n + cnt zs (n + 1)
      · rw [if_pos hh]
        obtain ⟨s, hs, hz, _, hg⟩ := found hl (by omega) (past_first h) hh
        have hlen := lenS_eq hs (by omega)
        refine ⟨s, hs, by omega, by omega, ?_⟩
        rw [getD_of_get hg, show lenS zs s = n + 1 by omega]
        rfl
      · rw [if_neg hh]
        rcases past_step h with h' | h'
        · exact absurd h' hh
        · exact ih (n + 1) (by omega) h'
  exact key 15 0 rfl (past_zero _ _)

theorem allc_of {zs : List Int} {s : Nat} (hs : s < zs.length) (h0 : 0 < zs[s]) (h15 : zs[s] ≤ 15) {n : Nat} (hn : n < lenS zs s) : allc zs n < allc zs 15 := by
  have hle := lenS_eq hs (by omega)
  have hr := rank_lt hs (by omega)
  have h1 := allc_mono zs n (lenS zs s - 1 - n)
  have h2 := allc_mono zs (lenS zs s) (15 - lenS zs s)
  rw [show n + (lenS zs s - 1 - n) = lenS zs s - 1 by omega] at h1
  rw [show lenS zs s + (15 - lenS zs s) = 15 by omega] at h2
  have e : allc zs (lenS zs s) = allc zs (lenS zs s - 1) + cnt zs (lenS zs s) := by
    obtain ⟨m, hm⟩ : ∃ m, lenS zs s = m + 1 := ⟨lenS zs s - 1, by omega⟩
    rw [hm]; rfl
  omega

theorem nextF_own {zs : List Int} {bs : List Nat} {p s : Nat} (hs : s < zs.length) (h0 : 0 < zs[s]) (h15 : zs[s] ≤ 15) (hw : msb (bitsFrom bs p) (lenS zs s) = codeW zs s) (hp : p + lenS zs s ≤ 8 * bs.length) :
    nextF zs bs p 15 0 = ((s : Int), 0, p + lenS zs s) := by
  have hle := lenS_eq hs (by omega)
  have key : ∀ k n, n + k = 15 → n < lenS zs s → nextF zs bs p k n = ((s : Int), 0, p + lenS zs s) := by
    intro k
    induction k with
    | zero => intro n hn h; omega
    | succ k ih =>
      intro n hn h
      have h1 := allc_of hs h0 h15 h
      unfold nextF
      rw [if_neg (by omega), if_neg (by omega)]
      by_cases hl : n + 1 = lenS zs s
      · have hr := rank_lt hs (by omega)
        have hg := sorted_get zs s hs h0 h15
        have hc : codeW zs s = 2 * endc zs n + rank zs (n + 1) s := by unfold codeW; rw [← hl, Nat.add_sub_cancel]
        rw [← hl] at hr hg hw ⊢
        rw [hw, if_pos (by omega), hc, Nat.add_sub_cancel_left, getD_of_get (by simpa using hg)]
        rfl
      · have hpa := own_past hs h0 (bitsFrom_lt bs p) hw (n := n + 1) (by omega)
        unfold Past at hpa
        simp only [endc] at hpa
        rw [if_neg (by omega)]
        exact ih (n + 1) (by omega) (by omega)
  exact key 15 0 rfl (by omega)

theorem allc_count {zs : List Int} (j : Nat) : allc zs j = zs.countP fun z => decide (0 < z ∧ z ≤ (j : Int)) := by
  induction j with
  | zero =>
    have : (zs.countP fun z => decide (0 < z ∧ z ≤ ((0 : Nat) : Int))) = 0 := by
      rw [List.countP_eq_zero]
      intro z _
      simp only [decide_eq_true_eq]
      omega
    rw [this]; rfl
  | succ j ih =>
    simp only [allc, ih, cnt]
    clear ih
    induction zs with
    | nil => rfl
    | cons z zs ih =>
      simp only [List.countP_cons, List.count_cons, decide_eq_true_eq, beq_iff_eq]
      split <;> split <;> split <;> omega
theorem allc_pos {zs : List Int} (h : ∀ z ∈ zs, 0 ≤ z ∧ z ≤ 15) : allc zs 15 = zs.countP fun z => decide (0 < z) := by
  rw [allc_count]
  refine List.countP_congr fun z hz => ?_
  have := h z hz
  simp only [decide_eq_true_eq]
  omega

/-- the bits of a code make its number again -/
theorem msb_code {f : Nat → Nat} {v n : Nat} (h : ∀ i, i < n → f i = b2n (v.testBit (n - 1 - i))) : ∀ k, k ≤ n → msb f k = v / 2 ^ (n - k) % 2 ^ k := by
  intro k
  induction k with
  | zero => intro _; simp [msb, Nat.mod_one]
  | succ k ih =>
    intro hk
    simp only [msb]
    rw [ih (by omega), h k (by omega), Nat.testBit_eq_decide_div_mod_eq, b2n_dec]
    have e1 : v / 2 ^ (n - k) = v / 2 ^ (n - (k + 1)) / 2 := by
      rw [Nat.div_div_eq_div_mul, ← Nat.pow_succ]
      congr 2
      omega
    rw [e1, show n - 1 - k = n - (k + 1) by omega, Nat.pow_succ, Nat.mul_comm (2 ^ k) 2, Nat.mod_mul]
    omega
end Go.Proofs.YtlokfmalpkahaaaGreat
namespace Go.Proofs.YtlokfmalpkahaaaGreat.Fix
set_option maxRecDepth 100000
theorem bval_pack (L : List Bool) (p : Nat) (n : Nat) (v : Nat) (h : ∀ i, i < n → L.getD (p + i) false = v.testBit i) : bval (pack L) p n = v % 2 ^ n := by
  induction n with
  | zero => simp [bval, Nat.mod_one]
  | succ n ih =>
    simp only [bval]
    rw [ih (fun i hi => h i (by omega)), bitAt_pack, h n (by omega), Nat.testBit_eq_decide_div_mod_eq, b2n_dec, Nat.mod_pow_succ, Nat.mul_comm]
theorem getD_app (a b c : List Bool) (i : Nat) (hi : i < b.length) : (a ++ b ++ c).getD (a.length + i) false = b.getD i false := by
  simp only [List.getD]
  rw [List.append_assoc, List.getElem?_append_right (by omega), show a.length + i - a.length = i by omega, List.getElem?_append_left hi]
theorem codeBits_getD (v n i : Nat) (hi : i < n) : (codeBits v n).getD i false = v.testBit (n - 1 - i) := by
  rw [codeBits_test]; simp [List.getD, hi]
theorem own_bits {V n : Nat} {L : List Bool} {P : Nat} {a c : List Bool} (hL : L = a ++ codeBits V n ++ c) (hP : P = a.length) (hc : V < 2 ^ n) : msb (bitsFrom (pack L) P) n = V := by
  have h : ∀ i, i < n → bitsFrom (pack L) P i = b2n (V.testBit (n - 1 - i)) := by
    intro i hi
    unfold bitsFrom
    rw [bitAt_pack, hL, hP, getD_app _ _ _ _ (by rw [codeBits_length]; exact hi), codeBits_getD _ _ _ hi]
  rw [msb_code h _ (Nat.le_refl _), Nat.sub_self, Nat.pow_zero, Nat.div_one]
  exact Nat.mod_eq_of_lt hc
def fixW (x : Nat) : Nat := if x < 144 then 48 + x else 256 + x
def fixN (x : Nat) : Nat := if x < 144 then 8 else 9
theorem fix_words : ∀ x, x < 256 → codeW fixedL x = fixW x ∧ lenS fixedL x = fixN x := by decide +kernel
theorem fix_end : codeW fixedL 256 = 0 ∧ lenS fixedL 256 = 7 := by decide +kernel
theorem fixW_lt {x : Nat} (h : x < 256) : fixW x < 2 ^ fixN x := by
  unfold fixW fixN
  by_cases h1 : x < 144
  · rw [if_pos h1, if_pos h1]; omega
  · rw [if_neg h1, if_neg h1]; omega
theorem fixedL_len : fixedL.length = 288 := by decide +kernel
theorem fixedL_get {x : Nat} (h : x < 288) : ∃ hx : x < fixedL.length, 0 < fixedL[x] ∧ fixedL[x] ≤ 15 := by
  refine ⟨by rw [fixedL_len]; exact h, ?_⟩
  have e : fixedL[x]'(by rw [fixedL_len]; exact h) = if x < 144 ∨ 279 < x then 8 else if x < 256 then 9 else 7 := by simp [fixedL]
  rw [e]
  split
  · omega
  · split <;> omega
theorem sym_fix {L a c : List Bool} {x V n P : Nat} {out : List Nat} (hx : x < 288) (hw : codeW fixedL x = V) (hn : lenS fixedL x = n) (hV : V < 2 ^ n) (hL : L = a ++ codeBits V n ++ c) (hP : P = a.length) :
    symF (pack L) fixedL ⟨P, out, 0⟩ = ((x : Int), ⟨P + n, out, 0⟩) := by
  obtain ⟨hxl, h0, h15⟩ := fixedL_get hx
  have hlen : P + n ≤ L.length := by rw [hL, hP]; simp only [List.length_append, codeBits_length]; omega
  have h := nextF_own (zs := fixedL) (bs := pack L) (p := P) hxl h0 h15 (by rw [hn, hw]; exact own_bits hL hP hV) (by rw [hn, pack_length]; omega)
  unfold symF
  rw [if_neg (by simp)]
  simp only
  rw [h, hn]
theorem step_fix {L a c : List Bool} {x P : Nat} {out : List Nat} {most : Int} (hx : x < 256) (hL : L = a ++ codeBits (fixW x) (fixN x) ++ c) (hP : P = a.length) (hr : (out.length : Int) + 1 ≤ most) :
    codedStep (pack L) most fixedL fixedD ⟨P, out, 0⟩ = (true, ⟨P + fixN x, out ++ [x], 0⟩) := by
  unfold codedStep
  rw [sym_fix (by omega) (fix_words x hx).1 (fix_words x hx).2 (fixW_lt hx) hL hP]
  unfold codedFrom
  rw [if_neg (by simp; omega), if_pos (by simp only; omega)]
  simp only
  rw [roomF_fine (most := most) (by rfl) (by simp only; omega)]
  simp
theorem end_fix {L a : List Bool} {P : Nat} {out : List Nat} {most : Int} (hL : L = a ++ codeBits 0 7 ++ []) (hP : P = a.length) :
    codedStep (pack L) most fixedL fixedD ⟨P, out, 0⟩ = (false, ⟨P + 7, out, 0⟩) := by
  unfold codedStep
  rw [sym_fix (x := 256) (by omega) fix_end.1 fix_end.2 (by omega) hL hP]
  unfold codedFrom
  rw [if_pos (.inr rfl)]
def fixBits (l : List Nat) : List Bool := l.flatMap fun x => codeBits (fixW x) (fixN x)
def fixHead (l : List Nat) : List Bool := numBits 3 3 ++ fixBits l
def fixText (l : List Nat) : List Bool := fixHead l ++ codeBits 0 7
theorem fixBits_succ {l : List Nat} {k : Nat} (h : k < l.length) : fixBits (l.take (k + 1)) = fixBits (l.take k) ++ codeBits (fixW l[k]) (fixN l[k]) := by
  rw [List.take_succ_eq_append_getElem h]
  unfold fixBits
  rw [List.flatMap_append]
  simp only [List.flatMap_cons, List.flatMap_nil, List.append_nil]
theorem fixHead_succ {l : List Nat} {k : Nat} (h : k < l.length) : fixHead (l.take (k + 1)) = fixHead (l.take k) ++ codeBits (fixW l[k]) (fixN l[k]) := by
  unfold fixHead; rw [fixBits_succ h, List.append_assoc]
theorem fixHead_cut {l : List Nat} {k : Nat} (h : k < l.length) : ∃ c, fixText l = fixHead (l.take k) ++ codeBits (fixW l[k]) (fixN l[k]) ++ c := by
  refine ⟨fixBits (l.drop (k + 1)) ++ codeBits 0 7, ?_⟩
  have e : fixBits l = fixBits (l.take (k + 1)) ++ fixBits (l.drop (k + 1)) := by
    unfold fixBits
    rw [← List.flatMap_append, List.take_append_drop]
  rw [← fixHead_succ h]
  unfold fixText fixHead
  rw [e]
  simp only [List.append_assoc]
theorem fixBits_le (l : List Nat) : (fixBits l).length ≤ 9 * l.length := by
  induction l with
  | nil => simp [fixBits]
  | cons x l ih =>
    have e : fixBits (x :: l) = codeBits (fixW x) (fixN x) ++ fixBits l := rfl
    have : fixN x ≤ 9 := by unfold fixN; split <;> omega
    rw [e, List.length_append, codeBits_length, List.length_cons]
    omega
theorem coded_fix {l : List Nat} {most : Int} (hl : okB l) (hm : (l.length : Int) ≤ most) : ∀ (d k fu : Nat), k + d = l.length → d < fu → codedF (pack (fixText l)) most fixedL fixedD fu ⟨(fixHead (l.take k)).length, l.take k, 0⟩ = ⟨(fixText l).length, l, 0⟩ := by
  intro d
  induction d with
  | zero =>
    intro k fu hk hfu
    obtain ⟨fu, rfl⟩ : ∃ f', fu = f' + 1 := ⟨fu - 1, by omega⟩
    have ht : l.take k = l := List.take_of_length_le (by omega)
    rw [codedF, if_neg (by simp), ht, end_fix (L := fixText l) (a := fixHead l) (by simp [fixText]) rfl]
    simp [fixText, codeBits_length]
  | succ d ih =>
    intro k fu hk hfu
    obtain ⟨fu, rfl⟩ : ∃ f', fu = f' + 1 := ⟨fu - 1, by omega⟩
    have hkl : k < l.length := by omega
    obtain ⟨c, hc⟩ := fixHead_cut hkl
    have hx := hl _ (List.getElem_mem hkl)
    rw [codedF, if_neg (by simp), step_fix hx hc rfl (by simp only [List.length_take]; omega)]
    simp only [if_true]
    rw [← List.take_succ_eq_append_getElem hkl, show (fixHead (l.take k)).length + fixN l[k] = (fixHead (l.take (k + 1))).length by rw [fixHead_succ hkl, List.length_append, codeBits_length]]
    exact ih (k + 1) fu (by omega) (by omega)
theorem fix_bit {l : List Nat} {i : Nat} (hi : i < 3) : (fixText l).getD i false = (3 : Nat).testBit i := by
  have e : fixText l = [true, true, false] ++ (fixBits l ++ codeBits 0 7) := by
    unfold fixText fixHead; rw [List.append_assoc]; rfl
  rw [e]
  match i, hi with
  | 0, _ => rfl
  | 1, _ => rfl
  | 2, _ => rfl
theorem numF_fix {bs : List Nat} {n p v : Nat} {out : List Nat} (h : p + n ≤ 8 * bs.length) (hv : bval bs p n = v) : numF bs n ⟨p, out, 0⟩ = (v, ⟨p + n, out, 0⟩) := by
  unfold numF
  rw [if_neg (by simp), if_pos h, hv]
theorem inflate_fixed {l : List Nat} (hl : okB l) (hm : l.length ≤ 2000) : inflateF (pack (fixText l)) 2000 = (l, (pack (fixText l)).length, 0) := by
  have hle : 10 ≤ (fixText l).length := by unfold fixText fixHead; simp only [List.length_append, codeBits_length, numBits_length]; omega
  have hpl := pack_length (fixText l)
  have hll : l.length ≤ 8 * (pack (fixText l)).length := by
    have h8 : ∀ q : List Nat, q.length ≤ (fixBits q).length := by
      intro q
      induction q with
      | nil => simp
      | cons x q ih =>
        have e : fixBits (x :: q) = codeBits (fixW x) (fixN x) ++ fixBits q := rfl
        have : 1 ≤ fixN x := by unfold fixN; split <;> omega
        rw [e, List.length_append, codeBits_length, List.length_cons]; omega
    have := h8 l
    have e : (fixText l).length = 3 + (fixBits l).length + 7 := by unfold fixText fixHead; simp only [List.length_append, codeBits_length, numBits_length]
    omega
  have b1 : bval (pack (fixText l)) 0 1 = 1 := by rw [bval_pack _ 0 1 3 (fun i hi => by rw [Nat.zero_add]; exact fix_bit (by omega))]
  have b2 : bval (pack (fixText l)) 1 2 = 1 := by
    rw [bval_pack _ 1 2 1 (fun i hi => by
      rw [fix_bit (by omega)]
      match i, hi with
      | 0, _ => rfl
      | 1, _ => rfl)]
  have hc := coded_fix (most := 2000) hl (by omega) l.length 0 (8 * (pack (fixText l)).length + 1) (by omega) (by omega)
  have h3 : (fixHead (l.take 0)).length = 3 := by simp [fixHead, fixBits, numBits_length]
  rw [h3, List.take_zero] at hc
  have hb : blockF (pack (fixText l)) 2000 ⟨0, [], 0⟩ = ⟨(fixText l).length, l, 0⟩ ∧ (numF (pack (fixText l)) 1 ⟨0, [], 0⟩).1 = 1 := by
    have n1 := numF_fix (bs := pack (fixText l)) (n := 1) (p := 0) (out := []) (by omega) b1
    have n2 := numF_fix (bs := pack (fixText l)) (n := 2) (p := 1) (out := []) (by omega) b2
    refine ⟨?_, by rw [n1]⟩
    unfold blockF
    rw [n1]
    simp only [Nat.zero_add]
    rw [n2]
    simp only [ne_eq, not_true_eq_false, if_false]
    unfold kindF
    rw [if_neg (by decide), if_pos rfl, tabled_ok rfl fixedL_ok fixedD_ok]
    exact hc
  have hx : blocksF (pack (fixText l)) 2000 (8 * (pack (fixText l)).length + 1) ⟨0, [], 0⟩ = ⟨(fixText l).length, l, 0⟩ := by rw [blocksF, hb.1, hb.2, if_neg (by simp)]
  unfold inflateF
  rw [if_neg (by omega)]
  simp only [hx]
  rw [if_neg (by simp), hpl]
end Go.Proofs.YtlokfmalpkahaaaGreat.Fix
