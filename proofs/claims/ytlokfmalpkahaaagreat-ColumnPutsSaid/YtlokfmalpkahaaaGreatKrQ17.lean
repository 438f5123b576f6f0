/- Plain law of prefix codes: what Next answers in a full code, and behind a word's own bits. No program in sight. · Plain law of the document's answer for prefix codes: the sum of the words' rooms; words as texts. No program in sight. · Words of a prefix code as texts of 0 and 1. No program in sight. · The rows of words of a prefix code as texts, while they are made. No program in sight. · The document's symbols of lengths and distances, and the fixed code's words, are what squeeze writes. No program in sight. -/
import Derived.Test.YtlokfmalpkahaaaGreatKrQ14
import Derived.Test.YtlokfmalpkahaaaGreatKrBitsN
import Derived.Test.YtlokfmalpkahaaaGreatKrQ3
namespace Go.Proofs.YtlokfmalpkahaaaGreat
set_option maxRecDepth 100000

theorem getD_of_get {α : Type} {l : List α} {i : Nat} {x d : α} (h : l[i]? = some x) : l.getD i d = x := by simp [List.getD, h]

theorem nextF_full {zs : List Int} {bs : List Nat} {p : Nat} (hl : zs.length ≤ 320) (he : endc zs 15 = 32768) (hp : p + 15 ≤ 8 * bs.length) :
    ∃ s, ∃ hs : s < zs.length, 0 < zs[s] ∧ lenS zs s ≤ 15 ∧ nextF zs bs p 15 0 = ((s : Int), 0, p + lenS zs s) := by
  have key : ∀ k n, n + k = 15 → Past zs (bitsFrom bs p) n → ∃ s, ∃ hs : s < zs.length, 0 < zs[s] ∧ lenS zs s ≤ 15 ∧ nextF zs bs p k n = ((s : Int), 0, p + lenS zs s) := by
    intro k
    induction k with
    | zero =>
      intro n hn h
      have := (full_left (bitsFrom_lt bs p) he (by omega) h).1
      omega
    | succ k ih =>
      intro n hn h
      obtain ⟨h1, h2⟩ := full_left (bitsFrom_lt bs p) he (by omega) h
      unfold nextF
      rw [if_neg (by omega), if_neg (by omega)]
      by_cases hh : msb (bitsFrom bs p) (n + 1) < 2 * endc zs n + cnt zs (n + 1)
      · rw [if_pos hh]
        obtain ⟨s, hs, hz, _, hg⟩ := found hl (by omega) (past_first h) hh
        have hlen := lenS_eq hs (by omega)
        refine ⟨s, hs, by omega, by omega, ?_⟩
        rw [getD_of_get hg, show lenS zs s = n + 1 by omega]
        rfl
      · rw [if_neg hh]
        rcases past_step h with h' | h'
        · exact absurd h' hh
        · exact ih (n + 1) (by omega) h'
  exact key 15 0 rfl (past_zero _ _)

theorem allc_of {zs : List Int} {s : Nat} (hs : s < zs.length) (h0 : 0 < zs[s]) (h15 : zs[s] ≤ 15) {n : Nat} (hn : n < lenS zs s) : allc zs n < allc zs 15 := by
  have hle := lenS_eq hs (by omega)
  have hr := rank_lt hs (by omega)
  have h1 := allc_mono zs n (lenS zs s - 1 - n)
  have h2 := allc_mono zs (lenS zs s) (15 - lenS zs s)
  rw [show n + (lenS zs s - 1 - n) = lenS zs s - 1 by omega] at h1
  rw [show lenS zs s + (15 - lenS zs s) = 15 by omega] at h2
  have e : allc zs (lenS zs s) = allc zs (lenS zs s - 1) + cnt zs (lenS zs s) := by
    obtain ⟨m, hm⟩ : ∃ m, lenS zs s = m + 1 := ⟨lenS zs s - 1, by omega⟩
    rw [hm]; rfl
  omega

theorem nextF_own {zs : List Int} {bs : List Nat} {p s : Nat} (hs : s < zs.length) (h0 : 0 < zs[s]) (h15 : zs[s] ≤ 15) (hw : msb (bitsFrom bs p) (lenS zs s) = codeW zs s) (hp : p + lenS zs s ≤ 8 * bs.length) :
    nextF zs bs p 15 0 = ((s : Int), 0, p + lenS zs s) := by
  have hle := lenS_eq hs (by omega)
  have key : ∀ k n, n + k = 15 → n < lenS zs s → nextF zs bs p k n = ((s : Int), 0, p + lenS zs s) := by
    intro k
    induction k with
    | zero => intro n hn h; omega
    | succ k ih =>
      intro n hn h
      have h1 := allc_of hs h0 h15 h
      unfold nextF
      rw [if_neg (by omega), if_neg (by omega)]
      by_cases hl : n + 1 = lenS zs s
      · have hr := rank_lt hs (by omega)
        have hg := sorted_get zs s hs h0 h15
        have hc : codeW zs s = 2 * endc zs n + rank zs (n + 1) s := by unfold codeW; rw [← hl, Nat.add_sub_cancel]
        rw [← hl] at hr hg hw ⊢
        rw [hw, if_pos (by omega), hc, Nat.add_sub_cancel_left, getD_of_get (by simpa using hg)]
        rfl
      · have hpa := own_past hs h0 (bitsFrom_lt bs p) hw (n := n + 1) (by omega)
        unfold Past at hpa
        simp only [endc] at hpa
        rw [if_neg (by omega)]
        exact ih (n + 1) (by omega) (by omega)
  exact key 15 0 rfl (by omega)

theorem allc_count {zs : List Int} (j : Nat) : allc zs j = zs.countP fun z => decide (0 < z ∧ z ≤ (j : Int)) := by
  induction j with
  | zero =>
    have : (zs.countP fun z => decide (0 < z ∧ z ≤ ((0 : Nat) : Int))) = 0 := by
      rw [List.countP_eq_zero]
      intro z _
      simp only [decide_eq_true_eq]
      omega
    rw [this]; rfl
  | succ j ih =>
    simp only [allc, ih, cnt]
    clear ih
    induction zs with
    | nil => rfl
    | cons z zs ih =>
      simp only [List.countP_cons, List.count_cons, decide_eq_true_eq, beq_iff_eq]
      split <;> split <;> split <;> omega
theorem allc_pos {zs : List Int} (h : ∀ z ∈ zs, 0 ≤ z ∧ z ≤ 15) : allc zs 15 = zs.countP fun z => decide (0 < z) := by
  rw [allc_count]
  refine List.countP_congr fun z hz => ?_
  have := h z hz
  simp only [decide_eq_true_eq]
  omega

/-- the bits of a code make its number again -/
theorem msb_code {f : Nat → Nat} {v n : Nat} (h : ∀ i, i < n → f i = b2n (v.testBit (n - 1 - i))) : ∀ k, k ≤ n → msb f k = v / 2 ^ (n - k) % 2 ^ k := by
  intro k
  induction k with
  | zero => intro _; simp [msb, Nat.mod_one]
  | succ k ih =>
    intro hk
    simp only [msb]
    rw [ih (by omega), h k (by omega), Nat.testBit_eq_decide_div_mod_eq, b2n_dec]
    have e1 : v / 2 ^ (n - k) = v / 2 ^ (n - (k + 1)) / 2 := by
      rw [Nat.div_div_eq_div_mul, ← Nat.pow_succ]
      congr 2
      omega
    rw [e1, show n - 1 - k = n - (k + 1) by omega, Nat.pow_succ, Nat.mul_comm (2 ^ k) 2, Nat.mod_mul]
    omega
end Go.Proofs.YtlokfmalpkahaaaGreat
namespace Go.Proofs.YtlokfmalpkahaaaGreat
set_option maxRecDepth 100000

/-- the room that a length takes -/
def roomOf (z : Int) : Nat := if 0 < z then 2 ^ (15 - z.toNat) else 0
def roomTo (zs : List Int) (k : Nat) : Nat := ((zs.take k).map roomOf).sum
theorem roomOf_le (z : Int) : roomOf z ≤ 16384 := by
  unfold roomOf
  split
  · have h : (2 : Nat) ^ (15 - z.toNat) ≤ 2 ^ 14 := Nat.pow_le_pow_right (by omega) (by omega)
    simpa using h
  · omega
theorem roomTo_succ {zs : List Int} {k : Nat} (h : k < zs.length) : roomTo zs (k + 1) = roomTo zs k + roomOf zs[k] := by
  unfold roomTo
  rw [List.take_succ_eq_append_getElem h]
  simp only [List.map_append, List.map_cons, List.map_nil, List.sum_append, List.sum_cons, List.sum_nil]
  omega
theorem roomTo_le (zs : List Int) (k : Nat) (hk : k ≤ zs.length) : roomTo zs k ≤ 16384 * k := by
  induction k with
  | zero => simp [roomTo]
  | succ k ih =>
    rw [roomTo_succ hk]
    have := roomOf_le zs[k]
    have := ih (by omega)
    omega
theorem sumE_cons (z : Int) (zs : List Int) (j : Nat) (hj : j ≤ 15) : sumE (z :: zs) j = sumE zs j + if 0 < z ∧ z ≤ (j : Int) then 2 ^ (15 - z.toNat) else 0 := by
  induction j with
  | zero => simp [sumE]; omega
  | succ j ih =>
    simp only [sumE]
    rw [ih (by omega)]
    have hc : cnt (z :: zs) (j + 1) = cnt zs (j + 1) + if z = ((j + 1 : Nat) : Int) then 1 else 0 := by
      unfold cnt
      rw [List.count_cons]
      simp
    rw [hc, Nat.add_mul]
    by_cases e : z = ((j + 1 : Nat) : Int)
    · subst e
      rw [if_pos rfl, if_neg (by omega), if_pos ⟨by omega, by omega⟩]
      have e2 : 15 - (((j + 1 : Nat) : Int)).toNat = 14 - j := by omega
      rw [e2]
      omega
    · rw [if_neg e]
      by_cases h : 0 < z ∧ z ≤ (j : Int)
      · rw [if_pos h, if_pos ⟨h.1, by omega⟩]; omega
      · rw [if_neg h, if_neg (by omega)]; omega
theorem room_all {zs : List Int} (h : ∀ z ∈ zs, z ≤ 15) : roomTo zs zs.length = endc zs 15 := by
  have e : sumE zs 15 = endc zs 15 := by rw [sumE_eq zs 15 (by omega)]; simp
  rw [← e]
  unfold roomTo
  rw [List.take_length]
  clear e
  induction zs with
  | nil =>
    have : ∀ j, sumE [] j = 0 := by
      intro j
      induction j with
      | zero => rfl
      | succ j ih => simp [sumE, ih, cnt]
    rw [this]
    rfl
  | cons z zs ih =>
    rw [sumE_cons z zs 15 (by omega), List.map_cons, List.sum_cons, ih (fun x hx => h x (by simp [hx]))]
    have := h z (by simp)
    unfold roomOf
    by_cases h0 : 0 < z
    · rw [if_pos h0, if_pos ⟨h0, by omega⟩]; omega
    · rw [if_neg h0, if_neg (by omega)]; omega
/-- how many of the first k lengths are above zero -/
def posN (zs : List Int) (k : Nat) : Nat := (zs.take k).countP fun z => decide (0 < z)
theorem posN_succ {zs : List Int} {k : Nat} (h : k < zs.length) : posN zs (k + 1) = posN zs k + if 0 < zs[k] then 1 else 0 := by
  unfold posN
  rw [List.take_succ_eq_append_getElem h, List.countP_append]
  simp
theorem posN_le (zs : List Int) (k : Nat) : posN zs k ≤ k := by
  unfold posN
  have := List.countP_le_length (p := fun z : Int => decide (0 < z)) (l := zs.take k)
  simp at this
  omega
theorem roomTo_pos (zs : List Int) (k : Nat) (hk : k ≤ zs.length) : roomTo zs k ≤ 16384 * posN zs k := by
  induction k with
  | zero => simp [roomTo]
  | succ k ih =>
    rw [roomTo_succ hk, posN_succ hk]
    have := roomOf_le zs[k]
    have := ih (by omega)
    by_cases h : 0 < zs[k]
    · rw [if_pos h]; omega
    · rw [if_neg h]; unfold roomOf; rw [if_neg h]; omega
theorem room_int {z : Int} (h0 : 0 < z) (h : z ≤ 15) : (32768 : Int) / 2 ^ z.toNat = (roomOf z : Int) := by
  unfold roomOf
  rw [if_pos h0]
  obtain ⟨n, rfl⟩ := Int.eq_ofNat_of_zero_le (Int.le_of_lt h0)
  have hn : n ≤ 15 := by omega
  have h1 : (1 : Nat) ≤ n := by omega
  clear h h0
  match n, hn, h1 with
  | 1, _, _ | 2, _, _ | 3, _, _ | 4, _, _ | 5, _, _ | 6, _, _ | 7, _, _ | 8, _, _ | 9, _, _ | 10, _, _ | 11, _, _ | 12, _, _ | 13, _, _ | 14, _, _ | 15, _, _ => decide
/-- is the last length above zero 1? -/
def oneTo (zs : List Int) : Nat → Bool
  | 0 => false
  | k + 1 => if 0 < zs.getD k 0 then decide (zs.getD k 0 = 1) else oneTo zs k
theorem one_count (zs : List Int) (k : Nat) (hk : k ≤ zs.length) : rank zs 1 k ≤ posN zs k ∧ (posN zs k = 1 → (oneTo zs k = true ↔ rank zs 1 k = 1)) := by
  induction k with
  | zero => simp [rank, posN]
  | succ k ih =>
    obtain ⟨h1, h2⟩ := ih (by omega)
    have hk' : k < zs.length := hk
    have hg : zs.getD k 0 = zs[k] := by simp [List.getD, hk']
    rw [rank_succ zs 1 k hk, posN_succ hk, oneTo, hg]
    by_cases h : 0 < zs[k]
    · rw [if_pos h, if_pos h]
      by_cases e : zs[k] = ((1 : Nat) : Int)
      · rw [if_pos e]
        refine ⟨by omega, fun h3 => ?_⟩
        simp [e]
        omega
      · rw [if_neg e]
        have e' : ¬ zs[k] = 1 := by simpa using e
        refine ⟨by omega, fun h3 => ?_⟩
        simp [e']
        omega
    · rw [if_neg h, if_neg h, if_neg (by omega)]
      exact ⟨by omega, by simpa using h2⟩
/-- the error of lengths as the document's answer tests it -/
theorem mkErr_ref {zs : List Int} (hl : ¬ 320 < zs.length) (hall : ∀ z ∈ zs, 0 ≤ z ∧ z ≤ 15) :
    mkErr zs = if 0 < posN zs zs.length ∧ roomTo zs zs.length ≠ 32768 ∧ ¬ (posN zs zs.length = 1 ∧ oneTo zs zs.length = true) then 4 else 0 := by
  have h1 := room_all (fun z hz => (hall z hz).2)
  have h2 := roomTo_pos zs zs.length (Nat.le_refl _)
  obtain ⟨h3, h4⟩ := one_count zs zs.length (Nat.le_refl _)
  have h5 : allc zs 15 = posN zs zs.length := by
    rw [allc_pos hall]; unfold posN; rw [List.take_length]
  rw [rank_all] at h3 h4
  unfold mkErr
  rw [if_neg hl, if_neg (by rintro ⟨z, hz, h⟩; have := hall z hz; omega), ← h1, h5]
  by_cases hp : posN zs zs.length = 1
  · have h6 := h4 hp
    by_cases ho : oneTo zs zs.length = true
    · have h7 := h6.1 ho
      rw [if_neg (by omega), if_neg (by simp [hp, ho])]
    · have h7 : cnt zs 1 ≠ 1 := fun e => ho (h6.2 e)
      by_cases hr : roomTo zs zs.length = 32768
      · rw [if_neg (by omega), if_neg (by simp [hr])]
      · rw [if_pos (by omega), if_pos ⟨by omega, hr, by simp [ho]⟩]
  · by_cases hr : roomTo zs zs.length = 32768
    · rw [if_neg (by omega), if_neg (by simp [hr])]
    · by_cases h0 : 0 < posN zs zs.length
      · rw [if_pos (by omega), if_pos ⟨h0, hr, by simp [hp]⟩]
      · rw [if_neg (by omega), if_neg (fun h => h0 h.1)]
end Go.Proofs.YtlokfmalpkahaaaGreat
namespace Go.Proofs.YtlokfmalpkahaaaGreat
set_option maxRecDepth 100000

def chr (b : Bool) : UInt8 := if b then 49 else 48
/-- a row of bits as a text -/
def txt (l : List Bool) : ByteArray := ⟨(l.map chr).toArray⟩
theorem txt_size (l : List Bool) : (txt l).size = l.length := by simp [txt, ByteArray.size]
theorem txt_get (l : List Bool) (i : Nat) (h : i < (txt l).size) : (txt l)[i] = chr (l[i]'(by rw [txt_size] at h; exact h)) := by
  show (txt l).data[i] = _
  simp [txt]
theorem chr_nat (b : Bool) : (chr b).toNat = 48 + b2n b := by cases b <;> rfl
theorem txt_inj {l m : List Bool} (h : txt l = txt m) : l = m := by
  have h2 := congrArg (fun x : ByteArray => x.data.toList) h
  simp only [txt] at h2
  have hc : ∀ a b, chr a = chr b → a = b := by decide
  exact List.map_inj_right hc |>.1 (by simpa using h2)
/-- the number of a row of bits -/
def numOf (l : List Bool) (k : Nat) : Nat := msb (fun i => b2n (l.getD i false)) k
theorem numOf_code {v n : Nat} (h : v < 2 ^ n) : numOf (codeBits v n) n = v := by
  unfold numOf
  rw [msb_code (v := v) (n := n) (fun i hi => by rw [codeBits_test]; simp [List.getD, hi]) n (Nat.le_refl _), Nat.sub_self, Nat.pow_zero, Nat.div_one]
  exact Nat.mod_eq_of_lt h
theorem test_set {x j : Nat} (h : x.testBit j = false) (t : Nat) : (x + 2 ^ j).testBit t = if t = j then true else x.testBit t := by
  have hx : x = 2 ^ (j + 1) * (x / 2 ^ (j + 1)) + x % 2 ^ (j + 1) := (Nat.div_add_mod x (2 ^ (j + 1))).symm
  have hr : x % 2 ^ (j + 1) < 2 ^ j := by
    have h1 : x % 2 ^ (j + 1) < 2 ^ (j + 1) := Nat.mod_lt _ (Nat.two_pow_pos _)
    have h2 : (x % 2 ^ (j + 1)).testBit j = false := by rw [Nat.testBit_mod_two_pow, h]; simp
    refine Classical.byContradiction fun h3 => ?_
    have h4 : (x % 2 ^ (j + 1)).testBit j = true := by
      obtain ⟨y, hy⟩ : ∃ y, x % 2 ^ (j + 1) = 2 ^ j + y := ⟨x % 2 ^ (j + 1) - 2 ^ j, by omega⟩
      have hy2 : y < 2 ^ j := by rw [Nat.pow_succ] at h1; omega
      rw [hy, Nat.testBit_two_pow_add_eq, Nat.testBit_lt_two_pow hy2]
      rfl
    rw [h2] at h4
    cases h4
  generalize x / 2 ^ (j + 1) = a at *
  generalize x % 2 ^ (j + 1) = r at *
  subst hx
  have hp : (2 : Nat) ^ (j + 1) = 2 * 2 ^ j := by rw [Nat.pow_succ]; omega
  rw [Nat.add_assoc, Nat.testBit_two_pow_mul_add _ (by omega), Nat.testBit_two_pow_mul_add _ (by omega)]
  by_cases e : t = j
  · subst e
    rw [if_pos (by omega), if_pos rfl, Nat.add_comm r, Nat.testBit_two_pow_add_eq, Nat.testBit_lt_two_pow hr]
    rfl
  · rw [if_neg e]
    by_cases hl : t < j + 1
    · rw [if_pos hl, if_pos hl, Nat.add_comm r, Nat.testBit_two_pow_add_gt (by omega)]
    · rw [if_neg hl, if_neg hl]
/-- a bit set -/
theorem code_set {x j n : Nat} (hj : j < n) (h : x.testBit j = false) : (codeBits x n).set (n - 1 - j) true = codeBits (x + 2 ^ j) n := by
  rw [codeBits_test, codeBits_test]
  apply List.ext_getElem
  · simp
  · intro i h1 h2
    have hi : i < n := by simpa using h2
    rw [List.getElem_set]
    simp only [List.getElem_map, List.getElem_range]
    rw [test_set h]
    by_cases e : n - 1 - j = i
    · rw [if_pos e, if_pos (by omega)]
    · rw [if_neg e, if_neg (by omega)]
/-- a bit struck -/
theorem code_strike {x j n : Nat} (hj : j < n) (h : x.testBit j = false) : (codeBits (x + 2 ^ j) n).set (n - 1 - j) false = codeBits x n := by
  rw [codeBits_test, codeBits_test]
  apply List.ext_getElem
  · simp
  · intro i h1 h2
    have hi : i < n := by simpa using h2
    rw [List.getElem_set]
    simp only [List.getElem_map, List.getElem_range]
    rw [test_set h]
    by_cases e : n - 1 - j = i
    · rw [if_pos e, ← e, show n - 1 - (n - 1 - j) = j by omega, h]
    · rw [if_neg e, if_neg (by omega)]
theorem bit_split {x j : Nat} (h : x.testBit j = true) : ∃ y, x = y + 2 ^ j ∧ y.testBit j = false := by
  have hle : 2 ^ j ≤ x := Nat.ge_two_pow_of_testBit h
  refine ⟨x - 2 ^ j, by omega, ?_⟩
  obtain ⟨y, rfl⟩ : ∃ y, x = y + 2 ^ j := ⟨x - 2 ^ j, by omega⟩
  rw [Nat.add_sub_cancel]
  rw [Nat.testBit_eq_decide_div_mod_eq, Nat.add_div_right _ (Nat.two_pow_pos j)] at h
  rw [Nat.testBit_eq_decide_div_mod_eq]
  simp at h ⊢
  omega
end Go.Proofs.YtlokfmalpkahaaaGreat
namespace Go.Proofs.YtlokfmalpkahaaaGreat
set_option maxRecDepth 100000

theorem txt_nil : txt [] = ⟨#[]⟩ := by simp [txt]
theorem txt_zero (l : List Bool) : txt l ++ ⟨#[48]⟩ = txt (l ++ [false]) := by
  apply ByteArray.ext
  simp [txt, chr]
theorem txt_empty {l : List Bool} (h : txt l = ⟨#[]⟩) : l = [] := by
  have := txt_size l
  rw [h] at this
  have h0 : (ByteArray.mk #[]).size = 0 := rfl
  rw [h0] at this
  exact List.eq_nil_of_length_eq_zero this.symm
theorem code_zero (v n : Nat) : codeBits v n ++ [false] = codeBits (2 * v) (n + 1) := by
  rw [codeBits_test, codeBits_test]
  apply List.ext_getElem
  · simp
  · intro i h1 h2
    have hi : i < n + 1 := by simpa using h2
    simp only [List.getElem_map, List.getElem_range]
    by_cases e : i < n
    · rw [List.getElem_append_left (by simpa using e)]
      simp only [List.getElem_map, List.getElem_range]
      rw [show n + 1 - 1 - i = (n - 1 - i) + 1 by omega, Nat.testBit_succ, Nat.mul_div_cancel_left _ (by omega : 0 < 2)]
    · obtain rfl : i = n := by omega
      rw [List.getElem_append_right (by simp)]
      simp
theorem code_get (v n i : Nat) (hi : i < (codeBits v n).length) : (codeBits v n)[i] = v.testBit (n - 1 - i) := by
  have h : ∀ l : List Bool, l = codeBits v n → ∀ h : i < l.length, l[i] = v.testBit (n - 1 - i) := by
    intro l hl
    rw [codeBits_test] at hl
    subst hl
    intro h
    simp
  exact h _ rfl hi
/-- the word of a symbol as bits; none: no bits -/
def wordS (zs : List Int) (i : Nat) : List Bool := if 0 < zs.getD i 0 then codeBits (codeW zs i) (lenS zs i) else []
/-- the words as they stand while length j is at symbol s -/
def strAt (zs : List Int) (j s : Nat) : List (List Bool) := (List.range zs.length).map fun i => if (0 < zs.getD i 0 ∧ zs.getD i 0 < (j : Int)) ∨ (zs.getD i 0 = (j : Int) ∧ i < s) then wordS zs i else []
def strs (zs : List Int) : List (List Bool) := (List.range zs.length).map fun i => wordS zs i
theorem strAt_length (zs : List Int) (j s : Nat) : (strAt zs j s).length = zs.length := by simp [strAt]
theorem strs_length (zs : List Int) : (strs zs).length = zs.length := by simp [strs]
theorem strAt_start {zs : List Int} : strAt zs 1 0 = List.replicate zs.length [] := by
  unfold strAt
  rw [List.map_congr_left (g := fun _ => []) (fun i hi => by rw [if_neg (by omega)]), List.map_const']
  simp
theorem strAt_end {zs : List Int} (h : ∀ i, i < zs.length → 0 ≤ zs.getD i 0 ∧ zs.getD i 0 ≤ 15) : strAt zs 16 0 = strs zs := by
  unfold strAt strs
  refine List.map_congr_left fun i hi => ?_
  have := h i (List.mem_range.1 hi)
  by_cases e : zs.getD i 0 = 0
  · rw [if_neg (by omega)]
    unfold wordS
    rw [if_neg (by omega)]
  · rw [if_pos (by omega)]
theorem strAt_next {zs : List Int} (j : Nat) (hj : 0 < j) : strAt zs (j + 1) 0 = strAt zs j zs.length := by
  unfold strAt
  refine List.map_congr_left fun i hi => ?_
  have := List.mem_range.1 hi
  by_cases e : (0 < zs.getD i 0 ∧ zs.getD i 0 < (j : Int)) ∨ (zs.getD i 0 = (j : Int) ∧ i < zs.length)
  · rw [if_pos e, if_pos (by omega)]
  · rw [if_neg e, if_neg (by omega)]
theorem strAt_skip {zs : List Int} (j s : Nat) (hs : s < zs.length) (h : zs[s] ≠ (j : Int)) : strAt zs j (s + 1) = strAt zs j s := by
  unfold strAt
  refine List.map_congr_left fun i hi => ?_
  have hg : zs.getD s 0 = zs[s] := by simp [List.getD, hs]
  by_cases e : i = s
  · subst e
    by_cases e2 : 0 < zs.getD i 0 ∧ zs.getD i 0 < (j : Int)
    · rw [if_pos (.inl e2), if_pos (.inl e2)]
    · rw [if_neg (by omega), if_neg (by omega)]
  · by_cases e2 : (0 < zs.getD i 0 ∧ zs.getD i 0 < (j : Int)) ∨ (zs.getD i 0 = (j : Int) ∧ i < s)
    · rw [if_pos e2, if_pos (by omega)]
    · rw [if_neg e2, if_neg (by omega)]
/-- the number of the next word of length j, where symbol s stands -/
def nextE (zs : List Int) (j s : Nat) : Nat := 2 * endc zs (j - 1) + rank zs j s
theorem codeW_next {zs : List Int} {j s : Nat} (hs : s < zs.length) (h : zs[s] = (j : Int)) : codeW zs s = nextE zs j s ∧ lenS zs s = j := by
  have hg : zs.getD s 0 = zs[s] := by simp [List.getD, hs]
  have e : lenS zs s = j := by unfold lenS; rw [hg, h]; simp
  unfold codeW nextE
  rw [e]
  exact ⟨rfl, rfl⟩
theorem strAt_set {zs : List Int} (j s : Nat) (hs : s < zs.length) (h : zs[s] = (j : Int)) (hj : 0 < j) : strAt zs j (s + 1) = (strAt zs j s).set s (codeBits (nextE zs j s) j) := by
  have hg : zs.getD s 0 = zs[s] := by simp [List.getD, hs]
  obtain ⟨hc, hl⟩ := codeW_next hs h
  apply List.ext_getElem
  · simp [strAt]
  · intro i h1 h2
    rw [List.getElem_set]
    simp only [strAt, List.getElem_map, List.getElem_range]
    by_cases e : s = i
    · subst e
      rw [if_pos rfl, if_pos (.inr ⟨by rw [hg, h], by omega⟩)]
      unfold wordS
      rw [if_pos (by rw [hg, h]; omega), hc, hl]
    · rw [if_neg e]
      by_cases e2 : (0 < zs.getD i 0 ∧ zs.getD i 0 < (j : Int)) ∨ (zs.getD i 0 = (j : Int) ∧ i < s)
      · rw [if_pos e2, if_pos (by omega)]
      · rw [if_neg e2, if_neg (by omega)]
theorem nextE_lt {zs : List Int} (he : endc zs 15 ≤ 32768) {j s : Nat} (hs : s < zs.length) (h : zs[s] = (j : Int)) (hj : 0 < j) (hj15 : j ≤ 15) : nextE zs j s < 2 ^ j := by
  obtain ⟨hc, hl⟩ := codeW_next hs h
  have h1 := codeW_lt hs (by omega)
  have h2 := endc_le he j hj15
  rw [hc, hl] at h1
  omega
theorem nextE_skip {zs : List Int} {j s : Nat} (hs : s < zs.length) (h : zs[s] ≠ (j : Int)) : nextE zs j (s + 1) = nextE zs j s := by
  unfold nextE
  rw [rank_succ zs j s hs, if_neg h]; omega
theorem nextE_step {zs : List Int} {j s : Nat} (hs : s < zs.length) (h : zs[s] = (j : Int)) : nextE zs j (s + 1) = nextE zs j s + 1 := by
  unfold nextE
  rw [rank_succ zs j s hs, if_pos h]; omega
theorem nextE_turn (zs : List Int) (j : Nat) (hj : 0 < j) : nextE zs (j + 1) 0 = 2 * nextE zs j zs.length := by
  obtain ⟨i, rfl⟩ : ∃ i, j = i + 1 := ⟨j - 1, by omega⟩
  unfold nextE
  rw [rank_all, rank_zero, Nat.add_sub_cancel, Nat.add_sub_cancel]
  rfl
theorem nextE_start (zs : List Int) : nextE zs 1 0 = 0 := by simp [nextE, rank, endc]
/-- what is known of the last word (v, m) while the next one of length j is e -/
def Last (first : Bool) (v m j e : Nat) : Prop := m ≤ j ∧ (first = true → v = 0 ∧ m = 0 ∧ e = 0) ∧ (first = false → (v + 1) * 2 ^ (j - m) = e)
theorem Last.turn {first : Bool} {v m j e : Nat} (h : Last first v m j e) : Last first v m (j + 1) (2 * e) := by
  obtain ⟨h1, h2, h3⟩ := h
  refine ⟨by omega, fun h => by have := h2 h; omega, fun h => ?_⟩
  rw [← h3 h, show j + 1 - m = (j - m) + 1 by omega, Nat.pow_succ, ← Nat.mul_assoc]
  omega
/-- the word that is padded next: u, of m bits -/
theorem Last.next_ {v m j e : Nat} (h : Last false v m j e) (hlt : e < 2 ^ j) : v + 1 < 2 ^ m ∧ (v + 1) * 2 ^ (j - m) = e := by
  obtain ⟨h1, _, h3⟩ := h
  have := h3 rfl
  refine ⟨?_, this⟩
  rw [← this, show j = m + (j - m) by omega, Nat.pow_add, show m + (j - m) - m = j - m by omega] at hlt
  exact Nat.lt_of_mul_lt_mul_right hlt
theorem Last.mk_ (j e : Nat) : Last false e j j (e + 1) := ⟨Nat.le_refl _, (fun h => by cases h), (fun _ => by simp)⟩
end Go.Proofs.YtlokfmalpkahaaaGreat
namespace Go.Proofs.YtlokfmalpkahaaaGreat
set_option maxRecDepth 100000
/-- the fixed lengths of letters and of distances -/
def fixOf (s : Nat) : Int := if 144 ≤ s ∧ s ≤ 255 then 9 else if 256 ≤ s ∧ s ≤ 279 then 7 else 8
def fixZ : List Int := (List.range 288).map fixOf
def disZ : List Int := (List.range 32).map fun _ => 5
theorem fixZ_len : fixZ.length = 288 := by simp [fixZ]
theorem disZ_len : disZ.length = 32 := by simp [disZ]
theorem fixZ_err : mkErr fixZ = 0 := by decide +kernel
theorem disZ_err : mkErr disZ = 0 := by decide +kernel
theorem fix_strs : ∀ s, s < 288 → wordS fixZ s = letBits s := by decide +kernel
theorem dis_strs : ∀ s, s < 32 → wordS disZ s = codeBits s 5 := by decide +kernel
theorem fix_str {s : Nat} (h : s < 288) : (strs fixZ)[s]? = some (letBits s) := by
  unfold strs
  rw [fixZ_len]
  simp [h, fix_strs s h]
theorem dis_str {s : Nat} (h : s < 32) : (strs disZ)[s]? = some (codeBits s 5) := by
  unfold strs
  rw [disZ_len]
  simp [h, dis_strs s h]
/-! ### lengths -/
/-- the loop of the document's Length: i from 8 on -/
def lenUp : Nat → Nat × Nat
  | 0 => (11, 1)
  | j + 1 => ((lenUp j).1 + 2 ^ (lenUp j).2, if (8 + j) % 4 = 3 then (lenUp j).2 + 1 else (lenUp j).2)
def lenTab (s : Nat) : Nat × Nat := if s < 8 then (s + 3, 0) else if s = 28 then (258, 0) else lenUp (s - 8)
def lenFind (n : Nat) : Nat → Nat
  | 0 => 0
  | s + 1 => if (lenTab (s + 1)).1 ≤ n then s + 1 else lenFind n s
/-- symbol, what its bits say, how many -/
def refLen (n : Nat) : Nat × Nat × Nat := if n = 258 then (28, 0, 0) else (lenFind n 27, n - (lenTab (lenFind n 27)).1, (lenTab (lenFind n 27)).2)
theorem lenUp_small : ∀ j, j < 20 → (lenUp j).1 ≤ 259 ∧ (lenUp j).2 ≤ 6 := by decide +kernel
theorem lenTab_small : ∀ s, s < 29 → (lenTab s).1 ≤ 259 ∧ (lenTab s).2 ≤ 6 := by decide +kernel
theorem lenFind_le (n : Nat) : ∀ s, lenFind n s ≤ s := by
  intro s
  induction s with
  | zero => exact Nat.le_refl _
  | succ s ih => unfold lenFind; split <;> omega
theorem refLen_all : ∀ m, m < 256 → lenBits (m + 3) = letBits (257 + (refLen (m + 3)).1) ++ numBits (refLen (m + 3)).2.1 (refLen (m + 3)).2.2 ∧ (refLen (m + 3)).1 ≤ 28 ∧ (refLen (m + 3)).2.1 ≤ 258 ∧ (refLen (m + 3)).2.2 ≤ 6 ∧ (lenTab (lenFind (m + 3) 27)).1 ≤ m + 3 := by decide +kernel
/-! ### distances -/
def extra (d : Nat) : Nat := if d < 4 then 0 else d / 2 - 1
def disTab : Nat → Nat
  | 0 => 1
  | d + 1 => disTab d + 2 ^ extra d
def disFind (n : Nat) : Nat → Nat
  | 0 => 0
  | s + 1 => if disTab (s + 1) ≤ n then s + 1 else disFind n s
theorem disFind_le (n : Nat) : ∀ s, disFind n s ≤ s := by
  intro s
  induction s with
  | zero => exact Nat.le_refl _
  | succ s ih => unfold disFind; split <;> omega
theorem disFind_fit {n : Nat} (h1 : 1 ≤ n) : ∀ s, n < disTab (s + 1) → disTab (disFind n s) ≤ n ∧ n < disTab (disFind n s + 1) := by
  intro s
  induction s with
  | zero => intro h; exact ⟨h1, h⟩
  | succ s ih =>
    intro h
    unfold disFind
    split
    · next h2 => exact ⟨h2, h⟩
    · next h2 => exact ih (by omega)
theorem disTab_small : ∀ s, s < 31 → disTab s ≤ 32769 ∧ extra s ≤ 14 := by decide +kernel
theorem disTab_top : disTab 30 = 32769 := by decide +kernel
theorem disTab_form : ∀ s, s < 30 → 2 ≤ s → disTab s = (2 + s % 2) * 2 ^ extra s + 1 ∧ 2 * extra s + (2 + s % 2) = (if s < 4 then s else s) := by decide +kernel
theorem upF_at {b e x : Nat} (hlt : e < b * 2 ^ x) : ∀ k f x0, k ≤ f → x0 + k = x → (∀ y, y < x → b * 2 ^ y ≤ e) → upF b e f x0 = x := by
  intro k
  induction k with
  | zero =>
    intro f x0 _ hx _
    obtain rfl : x0 = x := by omega
    cases f with
    | zero => rfl
    | succ f => unfold upF; rw [if_neg (by omega)]
  | succ k ih =>
    intro f x0 hf hx hy
    obtain ⟨f, rfl⟩ : ∃ g, f = g + 1 := ⟨f - 1, by omega⟩
    unfold upF
    rw [if_pos (hy x0 (by omega))]
    exact ih f (x0 + 1) (by omega) (by omega) hy
theorem numBits_mod (a v x : Nat) : numBits (a * 2 ^ x + v) x = numBits v x := by
  unfold numBits
  refine List.map_congr_left fun i hi => ?_
  have hi : i < x := List.mem_range.1 hi
  obtain ⟨d, rfl⟩ : ∃ d, x = i + 1 + d := ⟨x - (i + 1), by omega⟩
  have e : a * 2 ^ (i + 1 + d) + v = v + 2 ^ i * (2 * (a * 2 ^ d)) := by rw [Nat.pow_add, Nat.pow_succ, Nat.add_comm]; congr 1; ac_rfl
  rw [e, Nat.add_mul_div_left _ _ (Nat.two_pow_pos i), Nat.add_mul_mod_self_left]
theorem ref_dist {n : Nat} (h1 : 1 ≤ n) (h2 : n ≤ 32768) : distBits (n - 1) = codeBits (disFind n 29) 5 ++ numBits (n - disTab (disFind n 29)) (extra (disFind n 29)) ∧ disFind n 29 ≤ 29 ∧ disTab (disFind n 29) ≤ n := by
  obtain ⟨g1, g2⟩ := disFind_fit h1 29 (by rw [disTab_top]; omega)
  have g3 := disFind_le n 29
  refine ⟨?_, g3, g1⟩
  generalize disFind n 29 = s at *
  rw [show disTab (s + 1) = disTab s + 2 ^ extra s from rfl] at g2
  by_cases hs : s < 2
  · have e : extra s = 0 := by unfold extra; rw [if_pos (by omega)]
    have e2 : disTab s = s + 1 := by
      rcases (show s = 0 ∨ s = 1 by omega) with rfl | rfl <;> rfl
    rw [e, e2] at g2
    obtain rfl : n = s + 1 := by omega
    unfold distBits
    rw [if_pos (by omega), e]
    simp [numBits]
  · obtain ⟨f1, f2⟩ := disTab_form s (by omega) (by omega)
    have f2 : 2 * extra s + (2 + s % 2) = s := by rw [f2]; split <;> rfl
    obtain ⟨v, hv⟩ : ∃ v, n = disTab s + v := ⟨n - disTab s, by omega⟩
    have hv2 : v < 2 ^ extra s := by omega
    obtain ⟨q, hq⟩ : ∃ q, 2 + s % 2 = q := ⟨_, rfl⟩
    rw [hq] at f1 f2
    have hn1 : n - 1 = q * 2 ^ extra s + v := by omega
    have hX : distX (n - 1) = extra s := by
      unfold distX
      refine upF_at (b := 4) (e := n - 1) (x := extra s) ?_ (extra s) 20 0 (by omega) (by omega) ?_
      · rw [hn1]
        have : q * 2 ^ extra s + 2 ^ extra s ≤ 4 * 2 ^ extra s := by
          rw [show q * 2 ^ extra s + 2 ^ extra s = (q + 1) * 2 ^ extra s by rw [Nat.add_mul, Nat.one_mul]]
          exact Nat.mul_le_mul_right _ (by omega)
        omega
      · intro y hy
        rw [hn1]
        have h3 : 2 * 2 ^ (y + 1) ≤ q * 2 ^ extra s := Nat.mul_le_mul (by omega) (Nat.pow_le_pow_right (by omega) (by omega))
        rw [Nat.pow_succ] at h3
        omega
    have hge : ¬ n - 1 < 2 := by
      rw [hn1]
      have h3 : 2 * 1 ≤ q * 2 ^ extra s := Nat.mul_le_mul (by omega) (Nat.two_pow_pos _)
      omega
    unfold distBits
    rw [if_neg hge, hX, hn1]
    have e1 : (q * 2 ^ extra s + v) / 2 ^ extra s = q := by
      rw [Nat.add_comm, Nat.add_mul_div_right _ _ (Nat.two_pow_pos _), Nat.div_eq_of_lt hv2, Nat.zero_add]
    rw [e1, f2, numBits_mod, hv, Nat.add_sub_cancel_left]
end Go.Proofs.YtlokfmalpkahaaaGreat
