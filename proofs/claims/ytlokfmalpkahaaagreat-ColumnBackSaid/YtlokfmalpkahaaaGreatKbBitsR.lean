/- The contracts of bits.Reader: what each method answers and changes. Conditions: the reader is one that NewReader made. -/
import Derived.Test.YtlokfmalpkahaaaGreatKbBase
import Derived.Test.YtlokfmalpkahaaaGreatKbBytes
import Derived.Deep.QuietTactic
import Derived.BigQuiet
import Derived.Laws.BitsAllLaws
namespace Go.Proofs.YtlokfmalpkahaaaGreat
set_option maxRecDepth 100000
open Go.RowKit
set_option linter.unusedVariables false

/-- g is a bits.Reader at bit p of the bytes bs, which lie in block h -/
def RdrIs (w : World) (g h : Nat) (bs : List Nat) (p : Nat) : Prop :=
  ∃ A c, Blk w g 123 #[.slice A bs.length c, .int .i64 (p : Int)] ∧ Rd w (· = h) 1 A bs.length (bl bs) ∧ h ≠ g ∧ p ≤ 8 * bs.length ∧ bs.length ≤ 140737488355328 ∧ okB bs

theorem RdrIs.ch {w w' : World} {g h : Nat} {bs : List Nat} {p : Nat} {S : Nat → Prop} (r : RdrIs w g h bs p) (hc : Ch S w w') (hg : ¬ S g) (hh : ¬ S h) : RdrIs w' g h bs p := by
  obtain ⟨A, c, b, rd, x⟩ := r
  exact ⟨A, c, b.ch hc hg, rd.ch (by omega) hc (fun k _ e => by rw [e]; exact hh), x⟩
theorem RdrIs.nx {w w' : World} {g h : Nat} {bs : List Nat} {p : Nat} (r : RdrIs w g h bs p) (hc : Nx w w') : RdrIs w' g h bs p := r.ch hc (fun hf => hf) (fun hf => hf)
theorem RdrIs.lt {w : World} {g h : Nat} {bs : List Nat} {p : Nat} (r : RdrIs w g h bs p) : g < w.heap.size := by
  obtain ⟨A, c, b, rd, x⟩ := r
  exact b.lt
theorem RdrIs.le {w : World} {g h : Nat} {bs : List Nat} {p : Nat} (r : RdrIs w g h bs p) : p ≤ 8 * bs.length ∧ bs.length ≤ 140737488355328 := by
  obtain ⟨A, c, b, rd, x, y, z, _⟩ := r
  exact ⟨y, z⟩
theorem RdrIs.set_ {w : World} {g h : Nat} {bs : List Nat} {p q : Nat} (r : RdrIs w g h bs p) (hq : q ≤ 8 * bs.length) (n : Nat) : RdrIs ((w.drewN n).setCell ⟨g, 1, none⟩ (.int .i64 (q : Int))) g h bs q := by
  obtain ⟨A, c, b, rd, x, y, z, u⟩ := r
  refine ⟨A, c, ?_, ?_, x, hq, z, u⟩
  · have := (b.drewN n).set_ 1 (.int .i64 (q : Int))
    simpa using this
  · exact rd.keep fun k e => by
      rw [Below.heap_setCell _ _ _ _ (by rw [e]; exact x)]
      rfl

set_option maxHeartbeats 400000 in
theorem rdr_at (g h : Nat) (bs : List Nat) (p : Nat) (w : World) (r : RdrIs w g h bs p) :
    Calls Tryz.prog 162 #[.pointer (some ⟨g, 0, none⟩)] w fun e w' => e = .returned (.int .i64 (p : Int)) ∧ w = w' := by
  obtain ⟨A, c, b, rd, x⟩ := r
  have c1 : w.cell? ⟨g, 1, none⟩ = some (.int .i64 (p : Int)) := b.cell 1
  go_enter Tryz.func162, Tryz.ntmps162
  go_wp2
  go_ret
  exact ⟨rfl, rfl⟩

set_option maxHeartbeats 400000 in
theorem rdr_at_nil (w : World) :
    Calls Tryz.prog 162 #[.pointer none] w fun e w' => e = .returned (.int .i64 0) ∧ w = w' := by
  go_enter Tryz.func162, Tryz.ntmps162
  go_wp2
  go_ret
  exact ⟨rfl, rfl⟩

set_option maxHeartbeats 400000 in
theorem rdr_left (g h : Nat) (bs : List Nat) (p : Nat) (w : World) (r : RdrIs w g h bs p) :
    Calls Tryz.prog 103 #[.pointer (some ⟨g, 0, none⟩)] w fun e w' => e = .returned (.int .i64 (8 * (bs.length : Int) - p)) ∧ Dr w w' := by
  obtain ⟨A, c, b, rd, x, hp, hl, _⟩ := r
  have c0 : w.cell? ⟨g, 0, none⟩ = some (.slice A bs.length c) := b.cell 0
  have c1 : w.cell? ⟨g, 1, none⟩ = some (.int .i64 (p : Int)) := b.cell 1
  clear b rd
  generalize bs.length = l at *
  go_enter Tryz.func103, Tryz.ntmps103
  go_wp2
  go_quiet (fail)
  go_wp2
  go_ret
  exact ⟨rfl, _, rfl⟩

set_option maxHeartbeats 400000 in
theorem rdr_left_nil (w : World) :
    Calls Tryz.prog 103 #[.pointer none] w fun e w' => e = .returned (.int .i64 0) ∧ w = w' := by
  go_enter Tryz.func103, Tryz.ntmps103
  go_wp2
  go_ret
  exact ⟨rfl, rfl⟩

theorem or_step (a x r k : Nat) (ha : a < 2 ^ k) (hx : x < 256) (hk : k < 32) :
    bits .or .u32 (a : Int) (bits .and .u8 ((x : Int) / 2 ^ r) 1 % 4294967296 * 2 ^ k % 4294967296) = ((a + x / 2 ^ r % 2 * 2 ^ k : Nat) : Int) := by
  have hp : (2 : Nat) ^ k ≤ 2 ^ 31 := Nat.pow_le_pow_right (by omega) (by omega)
  have h1 : ((x : Int) / 2 ^ r) = ((x / 2 ^ r : Nat) : Int) := by simp
  have hd : x / 2 ^ r ≤ x := Nat.div_le_self _ _
  have h2 : bits .and .u8 ((x / 2 ^ r : Nat) : Int) 1 = ((x / 2 ^ r % 2 : Nat) : Int) := by
    have := u8_and_nat (x / 2 ^ r) 1 (by omega) (by omega)
    rw [Nat.and_one_is_mod] at this
    exact this
  rw [h1, h2]
  generalize hb : x / 2 ^ r % 2 = b
  have hb2 : b < 2 := by rw [← hb]; exact Nat.mod_lt _ (by omega)
  have hbk : b * 2 ^ k ≤ 1 * 2 ^ k := Nat.mul_le_mul_right _ (by omega)
  have h3 : ((b : Nat) : Int) % 4294967296 * 2 ^ k % 4294967296 = ((b * 2 ^ k : Nat) : Int) := by
    have e1 : ((b : Nat) : Int) % 4294967296 = (b : Int) := Int.emod_eq_of_lt (by omega) (by omega)
    have e2 : ((b * 2 ^ k : Nat) : Int) = (b : Int) * 2 ^ k := by simp
    rw [e1, ← e2]
    exact Int.emod_eq_of_lt (by omega) (by omega)
  rw [h3, u32_or_nat a (b * 2 ^ k) (by omega) (by omega), or_bit a b k ha]

set_option maxHeartbeats 1000000 in
theorem rdr_bits (g h : Nat) (bs : List Nat) (p m : Nat) (w : World) (r : RdrIs w g h bs p) (hm : m ≤ 32) (hpm : p + m ≤ 8 * bs.length) :
    Calls Tryz.prog 71 #[.pointer (some ⟨g, 0, none⟩), .int .i64 (m : Int)] w fun e w' => e = .returned (.tuple #[.int .u32 (bval bs p m : Int), .int .i64 0]) ∧
      RdrIs w' g h bs (p + m) ∧ Ch (· = g) w w' := by
  have hl := r.le
  have hd : ¬ (8 * (bs.length:Int) - (p:Int) < (m : Int)) := by omega
  have hd2 : ¬ ((m : Int) < 0) := by omega
  have hd3 : ¬ ((32:Int) < (m:Int)) := by omega
  go_enter Tryz.func71, Tryz.ntmps71
  go_wp2_with (go_at_call 103; refine (rdr_left g h bs p _ r).mono ?_; rintro e w' ⟨rfl, n, rfl⟩)
  go_loopw [6, 25] (fun v i wr => ∃ k : Nat, k ≤ m ∧ i = .int .i64 k ∧ v = .int .u32 (bval bs p k : Int) ∧ RdrIs wr g h bs (p + k) ∧ Ch (· = g) w wr)
    (fun _ i _ => m - (intOf i).toNat)
  case atStart => exact ⟨0, by omega, rfl, rfl, r, (Ch.refl _ _).drewN _⟩
  case round =>
    obtain ⟨k, hk, rfl, rfl, hr, hch⟩ := hrel
    have hr' := hr
    by_cases hlt : k < m
    · obtain ⟨A, c, b, rd, x, hp, hl', hok⟩ := hr
      have d0 : wr.cell? ⟨g, 0, none⟩ = some (.slice A bs.length c) := b.cell 0
      have d1 : wr.cell? ⟨g, 1, none⟩ = some (.int .i64 ((p : Int) + (k : Int))) := by have := b.cell 1; simpa using this
      have d2 := b.frozen 1
      obtain ⟨ad, u, rfl, _, hu, hc⟩ := rd.at_ (k := (p + k) / 8) (by omega)
      rw [bl_get (by omega)] at hu
      injection hu with hu
      subst hu
      have hb := or_step (bval bs p k) (bs.getD ((p + k) / 8) 0) ((p + k) % 8) k (bval_lt _ _ _) (okB_getD hok _) (by omega)
      have hxl := okB_getD hok ((p + k) / 8)
      have Hb : Hid (_ = ((bval bs p (k + 1) : Nat) : Int)) := hb
      clear hb
      generalize bs.getD ((p + k) / 8) 0 = xx at *
      clear b rd r
      go_wp2
      go_quiet (fail)
      go_wp2
      go_roundw
      case rel => exact ⟨k + 1, by omega, by go_num, by rw [Hb.out], hr'.set_ (q := p + (k + 1)) (by omega) nq, (hch.drewN _).setCell (fun _ => rfl) _⟩
      case measure => simp [intOf]; omega
    · obtain rfl : k = m := by omega
      go_wp2
      go_ret2
      exact ⟨rfl, hr, hch⟩

theorem rdr_bit1 (g h : Nat) (bs : List Nat) (p : Nat) (w : World) (r : RdrIs w g h bs p) (hpm : p < 8 * bs.length) :
    Calls Tryz.prog 71 #[.pointer (some ⟨g, 0, none⟩), .int .i64 1] w fun e w' => e = .returned (.tuple #[.int .u32 (bitAt bs p : Int), .int .i64 0]) ∧
      RdrIs w' g h bs (p + 1) ∧ Ch (· = g) w w' := by
  have := rdr_bits g h bs p 1 w r (by omega) (by omega)
  simpa [bval] using this
theorem rdr_bits_int (g h : Nat) (bs : List Nat) (p : Nat) (M : Int) (w : World) (r : RdrIs w g h bs p) (h0 : 0 ≤ M) (hm : M ≤ 32) (hpm : p + M ≤ 8 * (bs.length : Int)) :
    Calls Tryz.prog 71 #[.pointer (some ⟨g, 0, none⟩), .int .i64 M] w fun e w' => e = .returned (.tuple #[.int .u32 (bval bs p M.toNat : Int), .int .i64 0]) ∧
      RdrIs w' g h bs (p + M.toNat) ∧ Ch (· = g) w w' := by
  obtain ⟨m, rfl⟩ := Int.eq_ofNat_of_zero_le h0
  exact rdr_bits g h bs p m w r (by omega) (by omega)
theorem or_u32 (a b k : Nat) (ha : a < 2 ^ k) (hb : b < 2) (hk : k < 32) : bits .or .u32 (a : Int) ((b : Int) * 2 ^ k % 4294967296) = ((a + b * 2 ^ k : Nat) : Int) := by
  have hp : (2 : Nat) ^ k ≤ 2 ^ 31 := Nat.pow_le_pow_right (by omega) (by omega)
  have hbk : b * 2 ^ k ≤ 1 * 2 ^ k := Nat.mul_le_mul_right _ (by omega)
  have e2 : ((b * 2 ^ k : Nat) : Int) = (b : Int) * 2 ^ k := by simp
  rw [← e2, Int.emod_eq_of_lt (by omega) (by omega), u32_or_nat a (b * 2 ^ k) (by omega) (by omega), or_bit a b k ha]
theorem u64mod (n : Int) (k : Nat) (h0 : 0 < k) (hk : k < 9223372036854775808) : ∃ m : Nat, m < k ∧ (IntKind.u64.wrap n).tmod (k : Int) = m := by
  have h1 : IntKind.u64.wrap n = n % 18446744073709551616 := by simp [IntKind.wrap, IntKind.bits, IntKind.signed]
  rw [h1]
  generalize hq : n % 18446744073709551616 = q
  have q0 : 0 ≤ q := by rw [← hq]; exact Int.emod_nonneg _ (by omega)
  obtain ⟨x, rfl⟩ := Int.eq_ofNat_of_zero_le q0
  rw [Int.tmod_eq_emod_of_nonneg q0]
  exact ⟨x % k, Nat.mod_lt _ h0, by simp⟩

set_option maxHeartbeats 400000 in
theorem rdr_bits_arg (g h : Nat) (bs : List Nat) (p : Nat) (m : Int) (w : World) (r : RdrIs w g h bs p) (hm : m < 0 ∨ 32 < m) :
    Calls Tryz.prog 71 #[.pointer (some ⟨g, 0, none⟩), .int .i64 m] w fun e w' => e = .returned (.tuple #[.int .u32 0, .int .i64 1]) ∧ w = w' := by
  rcases hm with hm | hm
  · go_enter Tryz.func71, Tryz.ntmps71
    go_wp2
    go_ret2
    exact ⟨rfl, rfl⟩
  · have hm' : ¬ m < 0 := by omega
    go_enter Tryz.func71, Tryz.ntmps71
    go_wp2
    go_ret2
    exact ⟨rfl, rfl⟩
set_option maxHeartbeats 400000 in
theorem rdr_bits_nil (m : Int) (w : World) :
    Calls Tryz.prog 71 #[.pointer none, .int .i64 m] w fun e w' => e = .returned (.tuple #[.int .u32 0, .int .i64 1]) ∧ w = w' := by
  go_enter Tryz.func71, Tryz.ntmps71
  go_wp2
  go_ret2
  exact ⟨rfl, rfl⟩
set_option maxHeartbeats 400000 in
theorem rdr_bits_short (g h : Nat) (bs : List Nat) (p : Nat) (m : Int) (w : World) (r : RdrIs w g h bs p) (hm0 : 0 ≤ m) (hm : m ≤ 32) (hpm : 8 * (bs.length : Int) < p + m) :
    Calls Tryz.prog 71 #[.pointer (some ⟨g, 0, none⟩), .int .i64 m] w fun e w' => e = .returned (.tuple #[.int .u32 0, .int .i64 3]) ∧ Dr w w' := by
  have hl := r.le
  have hd : (8 * (bs.length:Int) - (p:Int) < m) := by omega
  have hd2 : ¬ (m < 0) := by omega
  have hd3 : ¬ ((32:Int) < m) := by omega
  go_enter Tryz.func71, Tryz.ntmps71
  go_wp2_with (go_at_call 103; refine (rdr_left g h bs p _ r).mono ?_; rintro e w' ⟨rfl, n, rfl⟩)
  go_ret2
  exact ⟨rfl, _, rfl⟩

set_option maxHeartbeats 400000 in
theorem rdr_align (g h : Nat) (bs : List Nat) (p : Nat) (w : World) (r : RdrIs w g h bs p) :
    Calls Tryz.prog 161 #[.pointer (some ⟨g, 0, none⟩)] w fun e w' => e = .returned (.tuple #[]) ∧
      RdrIs w' g h bs ((p + 7) / 8 * 8) ∧ Ch (· = g) w w' := by
  have r' := r
  have hl := r.le
  obtain ⟨A, c, b, rd, x, hp, hl', hok⟩ := r
  have d1 : w.cell? ⟨g, 1, none⟩ = some (.int .i64 (p : Int)) := b.cell 1
  have d2 := b.frozen 1
  clear b rd
  go_enter Tryz.func161, Tryz.ntmps161
  go_wp2
  go_end0
  exact ⟨rfl, r'.set_ (q := (p + 7) / 8 * 8) (by omega) 0, Ch.setCell (S := (· = g)) (Ch.refl _ _) (p := ⟨g, 1, none⟩) (fun _ => rfl) _⟩
end Go.Proofs.YtlokfmalpkahaaaGreat
