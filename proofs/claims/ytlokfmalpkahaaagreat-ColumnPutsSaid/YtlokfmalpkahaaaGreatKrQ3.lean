/- The checksum bit by bit is the one by four bits. No program in sight. · What squeeze.Tokens does, as plain functions; its tokens, gone through one by one, make the bytes again. No program in sight. · The contracts of bits.Reader: what each method answers and changes. Conditions: the reader is one that NewReader made. · What squeeze.Deflate writes of tokens, as bits. No program in sight. -/
import Derived.Test.YtlokfmalpkahaaaGreatKrQ1
import Derived.Test.YtlokfmalpkahaaaGreatKrBase
import Derived.Deep.QuietTactic
import Derived.BigQuiet
import Derived.Laws.BitsAllLaws
namespace Go.Proofs.YtlokfmalpkahaaaGreat
set_option maxRecDepth 100000
/-- what one bit makes of the register -/
def bitF (c : Nat) : Nat := c / 2 ^^^ (if c % 2 = 1 then 3988292384 else 0)
theorem bitF_lt {c : Nat} (h : c < 4294967296) : bitF c < 4294967296 := by
  unfold bitF
  refine Nat.xor_lt_two_pow (n := 32) (by omega) ?_
  split <;> decide
theorem mod2_xor (a b : Nat) : (a ^^^ b) % 2 = (a % 2 + b % 2) % 2 := by
  have := Nat.testBit_xor (x := a) (y := b) (i := 0)
  simp only [Nat.testBit_zero] at this
  have ha := Nat.mod_two_eq_zero_or_one a
  have hb := Nat.mod_two_eq_zero_or_one b
  have hc := Nat.mod_two_eq_zero_or_one (a ^^^ b)
  rcases ha with ha | ha <;> rcases hb with hb | hb <;> rcases hc with hc | hc <;> simp_all
theorem bitF_xor (a b : Nat) : bitF (a ^^^ b) = bitF a ^^^ bitF b := by
  have h1 : (a ^^^ b) / 2 = a / 2 ^^^ b / 2 := by simpa using xor_div a b 1
  unfold bitF
  rw [h1, mod2_xor]
  have ha := Nat.mod_two_eq_zero_or_one a
  have hb := Nat.mod_two_eq_zero_or_one b
  rcases ha with ha | ha <;> rcases hb with hb | hb <;> rw [ha, hb]
  · simp
  · simp [Nat.xor_assoc]
  · simp only [Nat.add_zero, Nat.mod_succ, if_true]
    rw [if_neg (by decide), Nat.xor_zero, Nat.xor_assoc, Nat.xor_assoc]
    congr 1
    exact Nat.xor_comm _ _
  · simp only [if_true]
    rw [if_neg (by decide), Nat.xor_zero]
    rw [show a / 2 ^^^ 3988292384 ^^^ (b / 2 ^^^ 3988292384) = (a / 2 ^^^ b / 2) ^^^ (3988292384 ^^^ 3988292384) by
      rw [Nat.xor_assoc, Nat.xor_assoc, ← Nat.xor_assoc 3988292384 (b / 2), Nat.xor_comm 3988292384 (b / 2), Nat.xor_assoc (b / 2)]]
    simp
theorem bitF_even (c : Nat) : bitF (2 * c) = c := by
  unfold bitF
  rw [if_neg (by omega), Nat.xor_zero]
  omega
theorem bit4_row : ∀ r, r < 16 → bitF (bitF (bitF (bitF r))) = rowF r := by decide
theorem split16 (c : Nat) : c = 16 * (c / 16) ^^^ c % 16 := by
  have h : 16 * (c / 16) ^^^ c % 16 = 16 * (c / 16) + c % 16 := by
    have := Nat.two_pow_add_eq_or_of_lt (i := 4) (b := c % 16) (Nat.mod_lt _ (by decide)) (c / 16)
    rw [show (2 : Nat) ^ 4 = 16 by decide] at this
    rw [this]
    apply Nat.eq_of_testBit_eq
    intro i
    rw [Nat.testBit_xor, Nat.testBit_or]
    by_cases hi : i < 4
    · have : (16 * (c / 16)).testBit i = false := by
        rw [show 16 * (c / 16) = 2 ^ 4 * (c / 16) by rw [show (2 : Nat) ^ 4 = 16 by decide], Nat.testBit_two_pow_mul]
        simp; omega
      simp [this]
    · have : (c % 16).testBit i = false := by
        apply Nat.testBit_lt_two_pow
        exact Nat.lt_of_lt_of_le (Nat.mod_lt c (by decide : 0 < 16)) (by
          calc 16 = 2 ^ 4 := by decide
            _ ≤ 2 ^ i := Nat.pow_le_pow_right (by decide) (by omega))
      simp [this]
  rw [h]
  omega
theorem bit4 (c : Nat) : bitF (bitF (bitF (bitF c))) = nibF c := by
  unfold nibF
  rw [← bit4_row (c % 16) (Nat.mod_lt _ (by decide))]
  conv => lhs; rw [split16 c]
  rw [bitF_xor, bitF_xor, bitF_xor, bitF_xor]
  congr 1
  rw [show 16 * (c / 16) = 2 * (2 * (2 * (2 * (c / 16)))) by omega, bitF_even, bitF_even, bitF_even, bitF_even]
/-- so many bits -/
def bitsF (c : Nat) : Nat → Nat
  | 0 => c
  | k + 1 => bitF (bitsF c k)
theorem bitsF_lt {c : Nat} (h : c < 4294967296) : ∀ k, bitsF c k < 4294967296 := by
  intro k
  induction k with
  | zero => exact h
  | succ k ih => exact bitF_lt ih
theorem bits8 (c x : Nat) : bitsF (c ^^^ x) 8 = stepF c x := by
  unfold stepF
  rw [← bit4, ← bit4]
  rfl
end Go.Proofs.YtlokfmalpkahaaaGreat
namespace Go.Proofs.YtlokfmalpkahaaaGreat
set_option maxRecDepth 100000

structure Tok where
  len : Nat
  dist : Nat
  byte : Nat
/-- how many bytes from two places on are alike: from the n-th on, f more at most -/
def sameFrom (b : List Nat) (i k : Nat) : Nat → Nat → Nat
  | 0, n => n
  | f + 1, n => if k + n < b.length ∧ b.getD (i + n) 0 = b.getD (k + n) 0 then sameFrom b i k f (n + 1) else n
def sameF (b : List Nat) (i k : Nat) : Nat := sameFrom b i k 258 0
/-- the three bytes from a place on -/
def keyF (b : List Nat) (i : Nat) : Nat × Nat × Nat := (b.getD i 0, b.getD (i + 1) 0, b.getD (i + 2) 0)
/-- the places ahead of a place, with three bytes behind each, that begin with these three -/
def placesF (b : List Nat) (at_ : Nat) (k : Nat × Nat × Nat) : List Nat := (List.range at_).filter fun i => decide (i + 2 < b.length ∧ keyF b i = k)
/-- the best of these places, from the last to the first: its length, its distance -/
def searchF (b : List Nat) (at_ : Nat) : List Nat → Nat × Nat → Nat × Nat
  | [], t => t
  | i :: r, t => if at_ - i ≤ 32768 ∧ t.1 < 258 then searchF b at_ r (if t.1 < sameF b i at_ then (sameF b i at_, at_ - i) else t) else t
def bestF (b : List Nat) (at_ : Nat) : Nat × Nat := if at_ + 2 < b.length then searchF b at_ (placesF b at_ (keyF b at_)).reverse (0, 0) else (0, 0)
def tokF (b : List Nat) (at_ : Nat) (t : Nat × Nat) : Tok := ⟨t.1, t.2, if t.1 = 0 then b.getD at_ 0 else 0⟩
def tokensF (b : List Nat) : Nat → Nat → List Tok
  | 0, _ => []
  | f + 1, at_ => if b.length ≤ at_ then [] else tokF b at_ (bestF b at_) :: tokensF b f (at_ + max (bestF b at_).1 1)

theorem sameFrom_ge (b : List Nat) (i k : Nat) : ∀ f n, n ≤ sameFrom b i k f n ∧ sameFrom b i k f n ≤ n + f := by
  intro f
  induction f with
  | zero => intro n; exact ⟨Nat.le_refl _, Nat.le_refl _⟩
  | succ f ih =>
    intro n
    unfold sameFrom
    split
    · have := ih (n + 1); omega
    · omega
theorem sameFrom_eq (b : List Nat) (i k : Nat) : ∀ f n j, n ≤ j → j < sameFrom b i k f n → k + j < b.length ∧ b.getD (i + j) 0 = b.getD (k + j) 0 := by
  intro f
  induction f with
  | zero => intro n j h1 h2; unfold sameFrom at h2; omega
  | succ f ih =>
    intro n j h1 h2
    unfold sameFrom at h2
    split at h2
    · next hc =>
      by_cases hj : j = n
      · subst hj; exact hc
      · exact ih (n + 1) j (by omega) h2
    · omega
theorem sameFrom_more (b : List Nat) (i k : Nat) : ∀ f n m, n ≤ m → m ≤ n + f → (∀ j, n ≤ j → j < m → k + j < b.length ∧ b.getD (i + j) 0 = b.getD (k + j) 0) → m ≤ sameFrom b i k f n := by
  intro f
  induction f with
  | zero => intro n m h1 h2 _; unfold sameFrom; omega
  | succ f ih =>
    intro n m h1 h2 h
    unfold sameFrom
    by_cases hm : m = n
    · subst hm
      split
      · have := (sameFrom_ge b i k f (m + 1)).1; omega
      · exact Nat.le_refl _
    · rw [if_pos (h n (Nat.le_refl _) (by omega))]
      exact ih (n + 1) m (by omega) (by omega) (fun j h3 h4 => h j (by omega) h4)
theorem sameF_le (b : List Nat) (i k : Nat) : sameF b i k ≤ 258 := by have := (sameFrom_ge b i k 258 0).2; unfold sameF; omega
theorem sameF_eq {b : List Nat} {i k j : Nat} (h : j < sameF b i k) : k + j < b.length ∧ b.getD (i + j) 0 = b.getD (k + j) 0 := sameFrom_eq b i k 258 0 j (Nat.zero_le _) h
theorem sameF_key {b : List Nat} {i k : Nat} (hk : k + 2 < b.length) (h : keyF b i = keyF b k) : 3 ≤ sameF b i k := by
  unfold keyF at h
  simp only [Prod.mk.injEq] at h
  refine sameFrom_more b i k 258 0 3 (by omega) (by omega) fun j _ hj => ⟨by omega, ?_⟩
  rcases (show j = 0 ∨ j = 1 ∨ j = 2 by omega) with rfl | rfl | rfl
  · exact h.1
  · exact h.2.1
  · exact h.2.2
theorem placesF_mem {b : List Nat} {at_ i : Nat} {k : Nat × Nat × Nat} (h : i ∈ placesF b at_ k) : i < at_ ∧ i + 2 < b.length ∧ keyF b i = k := by
  unfold placesF at h
  rw [List.mem_filter, List.mem_range] at h
  exact ⟨h.1, by simpa using h.2⟩
theorem placesF_length (b : List Nat) (at_ : Nat) (k : Nat × Nat × Nat) : (placesF b at_ k).length ≤ at_ := by
  unfold placesF
  have := List.length_filter_le (fun i => decide (i + 2 < b.length ∧ keyF b i = k)) (List.range at_)
  simpa using this
theorem placesF_zero (b : List Nat) (k : Nat × Nat × Nat) : placesF b 0 k = [] := rfl
theorem placesF_succ {b : List Nat} {at_ : Nat} {k : Nat × Nat × Nat} : placesF b (at_ + 1) k = placesF b at_ k ++ if at_ + 2 < b.length ∧ keyF b at_ = k then [at_] else [] := by
  unfold placesF
  rw [List.range_succ, List.filter_append]
  congr 1
  by_cases h : at_ + 2 < b.length ∧ keyF b at_ = k
  · rw [if_pos h]; simp [h]
  · rw [if_neg h]; simp [h]
/-- a stretch that may be told at a place -/
def Good (b : List Nat) (at_ : Nat) (t : Nat × Nat) : Prop := t = (0, 0) ∨ (3 ≤ t.1 ∧ t.1 ≤ 258 ∧ 1 ≤ t.2 ∧ t.2 ≤ 32768 ∧ t.2 ≤ at_ ∧ at_ + t.1 ≤ b.length ∧ ∀ j, j < t.1 → b.getD (at_ - t.2 + j) 0 = b.getD (at_ + j) 0)
theorem searchF_good {b : List Nat} {at_ : Nat} (hat : at_ + 2 < b.length) : ∀ (l : List Nat) (t : Nat × Nat), (∀ i ∈ l, i < at_ ∧ keyF b i = keyF b at_) → Good b at_ t → Good b at_ (searchF b at_ l t) := by
  intro l
  induction l with
  | nil => intro t _ h; exact h
  | cons i r ih =>
    intro t hl h
    unfold searchF
    by_cases hc : at_ - i ≤ 32768 ∧ t.1 < 258
    · rw [if_pos hc]
      refine ih _ (fun j hj => hl j (by simp [hj])) ?_
      have hi := hl i (by simp)
      by_cases hs : t.1 < sameF b i at_
      · rw [if_pos hs]
        have h3 := sameF_key hat hi.2
        have hlast := sameF_eq (b := b) (i := i) (k := at_) (j := sameF b i at_ - 1) (by omega)
        refine .inr ⟨h3, sameF_le _ _ _, by simp only; omega, hc.1, by simp only; omega, by simp only; omega, fun j hj => ?_⟩
        simp only at hj ⊢
        rw [show at_ - (at_ - i) = i by omega]
        exact (sameF_eq hj).2
      · rw [if_neg hs]; exact h
    · rw [if_neg hc]; exact h
theorem bestF_good (b : List Nat) (at_ : Nat) : Good b at_ (bestF b at_) := by
  unfold bestF
  by_cases h : at_ + 2 < b.length
  · rw [if_pos h]
    refine searchF_good h _ _ (fun i hi => ?_) (.inl rfl)
    have := placesF_mem (List.mem_reverse.1 hi)
    exact ⟨this.1, this.2.2⟩
  · rw [if_neg h]; exact .inl rfl
theorem tokensF_len {b : List Nat} : ∀ f at_, (tokensF b f at_).length ≤ f := by
  intro f
  induction f with
  | zero => intro at_; exact Nat.le_refl _
  | succ f ih =>
    intro at_
    unfold tokensF
    split
    · simp
    · simp only [List.length_cons]; have := ih (at_ + max (bestF b at_).1 1); omega
end Go.Proofs.YtlokfmalpkahaaaGreat
namespace Go.Proofs.YtlokfmalpkahaaaGreat
set_option maxRecDepth 100000
open Go.RowKit
set_option linter.unusedVariables false

/-- g is a bits.Reader at bit p of the bytes bs, which lie in block h -/
def RdrIs (w : World) (g h : Nat) (bs : List Nat) (p : Nat) : Prop :=
  ∃ A c, Blk w g 123 #[.slice A bs.length c, .int .i64 (p : Int)] ∧ Rd w (· = h) 1 A bs.length (bl bs) ∧ h ≠ g ∧ p ≤ 8 * bs.length ∧ bs.length ≤ 140737488355328 ∧ okB bs

theorem RdrIs.ch {w w' : World} {g h : Nat} {bs : List Nat} {p : Nat} {S : Nat → Prop} (r : RdrIs w g h bs p) (hc : Ch S w w') (hg : ¬ S g) (hh : ¬ S h) : RdrIs w' g h bs p := by
  obtain ⟨A, c, b, rd, x⟩ := r
  exact ⟨A, c, b.ch hc hg, rd.ch (by omega) hc (fun k _ e => by rw [e]; exact hh), x⟩
theorem RdrIs.nx {w w' : World} {g h : Nat} {bs : List Nat} {p : Nat} (r : RdrIs w g h bs p) (hc : Nx w w') : RdrIs w' g h bs p := r.ch hc (fun hf => hf) (fun hf => hf)
theorem RdrIs.lt {w : World} {g h : Nat} {bs : List Nat} {p : Nat} (r : RdrIs w g h bs p) : g < w.heap.size := by
  obtain ⟨A, c, b, rd, x⟩ := r
  exact b.lt
theorem RdrIs.le {w : World} {g h : Nat} {bs : List Nat} {p : Nat} (r : RdrIs w g h bs p) : p ≤ 8 * bs.length ∧ bs.length ≤ 140737488355328 := by
  obtain ⟨A, c, b, rd, x, y, z, _⟩ := r
  exact ⟨y, z⟩
theorem RdrIs.set_ {w : World} {g h : Nat} {bs : List Nat} {p q : Nat} (r : RdrIs w g h bs p) (hq : q ≤ 8 * bs.length) (n : Nat) : RdrIs ((w.drewN n).setCell ⟨g, 1, none⟩ (.int .i64 (q : Int))) g h bs q := by
  obtain ⟨A, c, b, rd, x, y, z, u⟩ := r
  refine ⟨A, c, ?_, ?_, x, hq, z, u⟩
  · have := (b.drewN n).set_ 1 (.int .i64 (q : Int))
    simpa using this
  · exact rd.keep fun k e => by
      rw [Below.heap_setCell _ _ _ _ (by rw [e]; exact x)]
      rfl

set_option maxHeartbeats 400000 in
theorem rdr_at (g h : Nat) (bs : List Nat) (p : Nat) (w : World) (r : RdrIs w g h bs p) :
    Calls Tryz.prog 162 #[.pointer (some ⟨g, 0, none⟩)] w fun e w' => e = .returned (.int .i64 (p : Int)) ∧ w = w' := by
  obtain ⟨A, c, b, rd, x⟩ := r
  have c1 : w.cell? ⟨g, 1, none⟩ = some (.int .i64 (p : Int)) := b.cell 1
  go_enter Tryz.func162, Tryz.ntmps162
  go_wp2
  go_ret
  exact ⟨rfl, rfl⟩

set_option maxHeartbeats 400000 in
theorem rdr_at_nil (w : World) :
    Calls Tryz.prog 162 #[.pointer none] w fun e w' => e = .returned (.int .i64 0) ∧ w = w' := by
  go_enter Tryz.func162, Tryz.ntmps162
  go_wp2
  go_ret
  exact ⟨rfl, rfl⟩

set_option maxHeartbeats 400000 in
theorem rdr_left (g h : Nat) (bs : List Nat) (p : Nat) (w : World) (r : RdrIs w g h bs p) :
    Calls Tryz.prog 103 #[.pointer (some ⟨g, 0, none⟩)] w fun e w' => e = .returned (.int .i64 (8 * (bs.length : Int) - p)) ∧ Dr w w' := by
  obtain ⟨A, c, b, rd, x, hp, hl, _⟩ := r
  have c0 : w.cell? ⟨g, 0, none⟩ = some (.slice A bs.length c) := b.cell 0
  have c1 : w.cell? ⟨g, 1, none⟩ = some (.int .i64 (p : Int)) := b.cell 1
  clear b rd
  generalize bs.length = l at *
  go_enter Tryz.func103, Tryz.ntmps103
  go_wp2
  go_quiet (fail)
  go_wp2
  go_ret
  exact ⟨rfl, _, rfl⟩

set_option maxHeartbeats 400000 in
theorem rdr_left_nil (w : World) :
    Calls Tryz.prog 103 #[.pointer none] w fun e w' => e = .returned (.int .i64 0) ∧ w = w' := by
  go_enter Tryz.func103, Tryz.ntmps103
  go_wp2
  go_ret
  exact ⟨rfl, rfl⟩

theorem or_step (a x r k : Nat) (ha : a < 2 ^ k) (hx : x < 256) (hk : k < 32) :
    bits .or .u32 (a : Int) (bits .and .u8 ((x : Int) / 2 ^ r) 1 % 4294967296 * 2 ^ k % 4294967296) = ((a + x / 2 ^ r % 2 * 2 ^ k : Nat) : Int) := by
  have hp : (2 : Nat) ^ k ≤ 2 ^ 31 := Nat.pow_le_pow_right (by omega) (by omega)
  have h1 : ((x : Int) / 2 ^ r) = ((x / 2 ^ r : Nat) : Int) := by simp
  have hd : x / 2 ^ r ≤ x := Nat.div_le_self _ _
  have h2 : bits .and .u8 ((x / 2 ^ r : Nat) : Int) 1 = ((x / 2 ^ r % 2 : Nat) : Int) := by
    have := u8_and_nat (x / 2 ^ r) 1 (by omega) (by omega)
    rw [Nat.and_one_is_mod] at this
    exact this
  rw [h1, h2]
  generalize hb : x / 2 ^ r % 2 = b
  have hb2 : b < 2 := by rw [← hb]; exact Nat.mod_lt _ (by omega)
  have hbk : b * 2 ^ k ≤ 1 * 2 ^ k := Nat.mul_le_mul_right _ (by omega)
  have h3 : ((b : Nat) : Int) % 4294967296 * 2 ^ k % 4294967296 = ((b * 2 ^ k : Nat) : Int) := by
    have e1 : ((b : Nat) : Int) % 4294967296 = (b : Int) := Int.emod_eq_of_lt (by omega) (by omega)
    have e2 : ((b * 2 ^ k : Nat) : Int) = (b : Int) * 2 ^ k := by simp
    rw [e1, ← e2]
    exact Int.emod_eq_of_lt (by omega) (by omega)
  rw [h3, u32_or_nat a (b * 2 ^ k) (by omega) (by omega), or_bit a b k ha]

set_option maxHeartbeats 1000000 in
theorem rdr_bits (g h : Nat) (bs : List Nat) (p m : Nat) (w : World) (r : RdrIs w g h bs p) (hm : m ≤ 32) (hpm : p + m ≤ 8 * bs.length) :
    Calls Tryz.prog 71 #[.pointer (some ⟨g, 0, none⟩), .int .i64 (m : Int)] w fun e w' => e = .returned (.tuple #[.int .u32 (bval bs p m : Int), .int .i64 0]) ∧
      RdrIs w' g h bs (p + m) ∧ Ch (· = g) w w' := by
  have hl := r.le
  have hd : ¬ (8 * (bs.length:Int) - (p:Int) < (m : Int)) := by omega
  have hd2 : ¬ ((m : Int) < 0) := by omega
  have hd3 : ¬ ((32:Int) < (m:Int)) := by omega
  go_enter Tryz.func71, Tryz.ntmps71
  go_wp2_with (go_at_call 103; refine (rdr_left g h bs p _ r).mono ?_; rintro e w' ⟨rfl, n, rfl⟩)
  go_loopw [6, 25] (fun v i wr => ∃ k : Nat, k ≤ m ∧ i = .int .i64 k ∧ v = .int .u32 (bval bs p k : Int) ∧ RdrIs wr g h bs (p + k) ∧ Ch (· = g) w wr)
    (fun _ i _ => m - (intOf i).toNat)
  case atStart => exact ⟨0, by omega, rfl, rfl, r, (Ch.refl _ _).drewN _⟩
  case round =>
    obtain ⟨k, hk, rfl, rfl, hr, hch⟩ := hrel
    have hr' := hr
    by_cases hlt : k < m
    · obtain ⟨A, c, b, rd, x, hp, hl', hok⟩ := hr
      have d0 : wr.cell? ⟨g, 0, none⟩ = some (.slice A bs.length c) := b.cell 0
      have d1 : wr.cell? ⟨g, 1, none⟩ = some (.int .i64 ((p : Int) + (k : Int))) := by have := b.cell 1; simpa using this
      have d2 := b.frozen 1
      obtain ⟨ad, u, rfl, _, hu, hc⟩ := rd.at_ (k := (p + k) / 8) (by omega)
      rw [bl_get (by omega)] at hu
      injection hu with hu
      subst hu
      have hb := or_step (bval bs p k) (bs.getD ((p + k) / 8) 0) ((p + k) % 8) k (bval_lt _ _ _) (okB_getD hok _) (by omega)
      have hxl := okB_getD hok ((p + k) / 8)
      have Hb : Hid (_ = ((bval bs p (k + 1) : Nat) : Int)) := hb
      clear hb
      generalize bs.getD ((p + k) / 8) 0 = xx at *
      clear b rd r
      go_wp2
      go_quiet (fail)
      go_wp2
      go_roundw
      case rel => exact ⟨k + 1, by omega, by go_num, by rw [Hb.out], hr'.set_ (q := p + (k + 1)) (by omega) nq, (hch.drewN _).setCell (fun _ => rfl) _⟩
      case measure => simp [intOf]; omega
    · obtain rfl : k = m := by omega
      go_wp2
      go_ret2
      exact ⟨rfl, hr, hch⟩

theorem rdr_bit1 (g h : Nat) (bs : List Nat) (p : Nat) (w : World) (r : RdrIs w g h bs p) (hpm : p < 8 * bs.length) :
    Calls Tryz.prog 71 #[.pointer (some ⟨g, 0, none⟩), .int .i64 1] w fun e w' => e = .returned (.tuple #[.int .u32 (bitAt bs p : Int), .int .i64 0]) ∧
      RdrIs w' g h bs (p + 1) ∧ Ch (· = g) w w' := by
  have := rdr_bits g h bs p 1 w r (by omega) (by omega)
  simpa [bval] using this
theorem rdr_bits_int (g h : Nat) (bs : List Nat) (p : Nat) (M : Int) (w : World) (r : RdrIs w g h bs p) (h0 : 0 ≤ M) (hm : M ≤ 32) (hpm : p + M ≤ 8 * (bs.length : Int)) :
    Calls Tryz.prog 71 #[.pointer (some ⟨g, 0, none⟩), .int .i64 M] w fun e w' => e = .returned (.tuple #[.int .u32 (bval bs p M.toNat : Int), .int .i64 0]) ∧
      RdrIs w' g h bs (p + M.toNat) ∧ Ch (· = g) w w' := by
  obtain ⟨m, rfl⟩ := Int.eq_ofNat_of_zero_le h0
  exact rdr_bits g h bs p m w r (by omega) (by omega)
theorem or_u32 (a b k : Nat) (ha : a < 2 ^ k) (hb : b < 2) (hk : k < 32) : bits .or .u32 (a : Int) ((b : Int) * 2 ^ k % 4294967296) = ((a + b * 2 ^ k : Nat) : Int) := by
  have hp : (2 : Nat) ^ k ≤ 2 ^ 31 := Nat.pow_le_pow_right (by omega) (by omega)
  have hbk : b * 2 ^ k ≤ 1 * 2 ^ k := Nat.mul_le_mul_right _ (by omega)
  have e2 : ((b * 2 ^ k : Nat) : Int) = (b : Int) * 2 ^ k := by simp
  rw [← e2, Int.emod_eq_of_lt (by omega) (by omega), u32_or_nat a (b * 2 ^ k) (by omega) (by omega), or_bit a b k ha]
theorem u64mod (n : Int) (k : Nat) (h0 : 0 < k) (hk : k < 9223372036854775808) : ∃ m : Nat, m < k ∧ (IntKind.u64.wrap n).tmod (k : Int) = m := by
  have h1 : IntKind.u64.wrap n = n % 18446744073709551616 := by simp [IntKind.wrap, IntKind.bits, IntKind.signed]
  rw [h1]
  generalize hq : n % 18446744073709551616 = q
  have q0 : 0 ≤ q := by rw [← hq]; exact Int.emod_nonneg _ (by omega)
  obtain ⟨x, rfl⟩ := Int.eq_ofNat_of_zero_le q0
  rw [Int.tmod_eq_emod_of_nonneg q0]
  exact ⟨x % k, Nat.mod_lt _ h0, by simp⟩

set_option maxHeartbeats 400000 in
theorem rdr_bits_arg (g h : Nat) (bs : List Nat) (p : Nat) (m : Int) (w : World) (r : RdrIs w g h bs p) (hm : m < 0 ∨ 32 < m) :
    Calls Tryz.prog 71 #[.pointer (some ⟨g, 0, none⟩), .int .i64 m] w fun e w' => e = .returned (.tuple #[.int .u32 0, .int .i64 1]) ∧ w = w' := by
  rcases hm with hm | hm
  · go_enter Tryz.func71, Tryz.ntmps71
    go_wp2
    go_ret2
    exact ⟨rfl, rfl⟩
  · have hm' : ¬ m < 0 := by omega
    go_enter Tryz.func71, Tryz.ntmps71
    go_wp2
    go_ret2
    exact ⟨rfl, rfl⟩
set_option maxHeartbeats 400000 in
theorem rdr_bits_nil (m : Int) (w : World) :
    Calls Tryz.prog 71 #[.pointer none, .int .i64 m] w fun e w' => e = .returned (.tuple #[.int .u32 0, .int .i64 1]) ∧ w = w' := by
  go_enter Tryz.func71, Tryz.ntmps71
  go_wp2
  go_ret2
  exact ⟨rfl, rfl⟩
set_option maxHeartbeats 400000 in
theorem rdr_bits_short (g h : Nat) (bs : List Nat) (p : Nat) (m : Int) (w : World) (r : RdrIs w g h bs p) (hm0 : 0 ≤ m) (hm : m ≤ 32) (hpm : 8 * (bs.length : Int) < p + m) :
    Calls Tryz.prog 71 #[.pointer (some ⟨g, 0, none⟩), .int .i64 m] w fun e w' => e = .returned (.tuple #[.int .u32 0, .int .i64 3]) ∧ Dr w w' := by
  have hl := r.le
  have hd : (8 * (bs.length:Int) - (p:Int) < m) := by omega
  have hd2 : ¬ (m < 0) := by omega
  have hd3 : ¬ ((32:Int) < m) := by omega
  go_enter Tryz.func71, Tryz.ntmps71
  go_wp2_with (go_at_call 103; refine (rdr_left g h bs p _ r).mono ?_; rintro e w' ⟨rfl, n, rfl⟩)
  go_ret2
  exact ⟨rfl, _, rfl⟩

set_option maxHeartbeats 400000 in
theorem rdr_align (g h : Nat) (bs : List Nat) (p : Nat) (w : World) (r : RdrIs w g h bs p) :
    Calls Tryz.prog 161 #[.pointer (some ⟨g, 0, none⟩)] w fun e w' => e = .returned (.tuple #[]) ∧
      RdrIs w' g h bs ((p + 7) / 8 * 8) ∧ Ch (· = g) w w' := by
  have r' := r
  have hl := r.le
  obtain ⟨A, c, b, rd, x, hp, hl', hok⟩ := r
  have d1 : w.cell? ⟨g, 1, none⟩ = some (.int .i64 (p : Int)) := b.cell 1
  have d2 := b.frozen 1
  clear b rd
  go_enter Tryz.func161, Tryz.ntmps161
  go_wp2
  go_end0
  exact ⟨rfl, r'.set_ (q := (p + 7) / 8 * 8) (by omega) 0, Ch.setCell (S := (· = g)) (Ch.refl _ _) (p := ⟨g, 1, none⟩) (fun _ => rfl) _⟩
end Go.Proofs.YtlokfmalpkahaaaGreat
namespace Go.Proofs.YtlokfmalpkahaaaGreat
set_option maxRecDepth 100000
/-- a letter's word and its length in the fixed code -/
def letW (s : Nat) : Nat := if s < 144 then 48 + s else if s < 256 then 256 + s else if s < 280 then s - 256 else s - 88
def letN (s : Nat) : Nat := if s < 144 then 8 else if s < 256 then 9 else if s < 280 then 7 else 8
def letBits (s : Nat) : List Bool := codeBits (letW s) (letN s)
/-- the least x from here on with m below b times 2 to the x -/
def upF (b m : Nat) : Nat → Nat → Nat
  | 0, x => x
  | f + 1, x => if b * 2 ^ x ≤ m then upF b m f (x + 1) else x
/-- a length (m and 3 more) that is not 258 -/
def lenX (m : Nat) : Nat := upF 8 m 9 1
def distX (e : Nat) : Nat := upF 4 e 20 0
def lenBits (n : Nat) : List Bool :=
  if n = 258 then letBits 285 else if n < 11 then letBits (254 + n) else letBits (257 + 4 * lenX (n - 3) + (n - 3) / 2 ^ lenX (n - 3)) ++ numBits (n - 3) (lenX (n - 3))
/-- a distance (e and 1 more) -/
def distBits (e : Nat) : List Bool := if e < 2 then codeBits e 5 else codeBits (2 * distX e + e / 2 ^ distX e) 5 ++ numBits e (distX e)
def tokBits (t : Tok) : List Bool := if t.len = 0 then letBits t.byte else lenBits t.len ++ distBits (t.dist - 1)
def deflHead (l : List Tok) : List Bool := numBits 3 3 ++ l.flatMap tokBits
def deflBits (l : List Tok) : List Bool := deflHead l ++ letBits 256
theorem upF_le {b m : Nat} : ∀ f x, x ≤ upF b m f x ∧ upF b m f x ≤ x + f := by
  intro f
  induction f with
  | zero => intro x; exact ⟨Nat.le_refl _, Nat.le_refl _⟩
  | succ f ih =>
    intro x
    unfold upF
    split
    · have := ih (x + 1); omega
    · omega
end Go.Proofs.YtlokfmalpkahaaaGreat
