/- The contracts of the reference's reader of bits. Conditions: lengths within the reach. -/
import Derived.Test.YtgbjbhghifildaaRef02
namespace Go.Proofs.Ytgbjbhghifildaa
open Go.RowKit
set_option linter.unusedVariables false

/-- g is the reference's reader at bit p of the row of the first N bits of bs; the row lies in block h -/
def RefR (w : World) (g h : Nat) (bs : List Nat) (N p : Nat) : Prop :=
  ∃ A c, Blk w g 45 #[.slice A N c, .int .i64 (p : Int)] ∧ Rd w (· = h) 1 A N (bbl (rowTo bs N)) ∧ h ≠ g ∧ p ≤ N ∧ N ≤ 1000000000000 ∧ N ≤ c ∧ c ≤ 9223372036854775807
theorem RefR.ch {w w' : World} {g h : Nat} {bs : List Nat} {N p : Nat} {S : Nat → Prop} (r : RefR w g h bs N p) (hc : Ch S w w') (hg : ¬ S g) (hh : ¬ S h) : RefR w' g h bs N p := by
  obtain ⟨A, c, b, rd, x⟩ := r
  exact ⟨A, c, b.ch hc hg, rd.ch (by omega) hc (fun k _ e => by rw [e]; exact hh), x⟩
theorem RefR.nx {w w' : World} {g h : Nat} {bs : List Nat} {N p : Nat} (r : RefR w g h bs N p) (hc : Nx w w') : RefR w' g h bs N p := r.ch hc (fun hf => hf) (fun hf => hf)
theorem RefR.le {w : World} {g h : Nat} {bs : List Nat} {N p : Nat} (r : RefR w g h bs N p) : p ≤ N ∧ N ≤ 1000000000000 := by
  obtain ⟨A, c, b, rd, x, y, z, _⟩ := r
  exact ⟨y, z⟩
theorem RefR.cells {w : World} {g h : Nat} {bs : List Nat} {N p : Nat} (r : RefR w g h bs N p) : ∃ A c, w.cell? ⟨g, 0, none⟩ = some (.slice A N c) ∧ w.cell? ⟨g, 1, none⟩ = some (.int .i64 (p : Int)) := by
  obtain ⟨A, c, b, _⟩ := r
  exact ⟨A, c, b.cell 0, b.cell 1⟩
theorem RefR.at_ {w : World} {g h : Nat} {bs : List Nat} {N p : Nat} (r : RefR w g h bs N p) : atCell w g 1 = (p : Int) := by
  obtain ⟨A, c, b, _⟩ := r
  exact atCell_blk b rfl
theorem RefR.set_ {w : World} {g h : Nat} {bs : List Nat} {N p q : Nat} (r : RefR w g h bs N p) (hq : q ≤ N) (n : Nat) : RefR ((w.drewN n).setCell ⟨g, 1, none⟩ (.int .i64 (q : Int))) g h bs N q := by
  obtain ⟨A, c, b, rd, x, y, z, u⟩ := r
  refine ⟨A, c, ?_, ?_, x, hq, z, u⟩
  · have := (b.drewN n).set_ 1 (.int .i64 (q : Int))
    simpa using this
  · exact rd.keep fun k e => by
      rw [Below.heap_setCell _ _ _ _ (by rw [e]; exact x)]
      rfl

set_option maxHeartbeats 400000 in
theorem refr_bits_arg (g : Nat) (m : Int) (w : World) (hm : m < 0 ∨ 32 < m) :
    Calls Try.prog 24 #[.pointer (some ⟨g, 0, none⟩), .int .i64 m] w fun e w' => e = .returned (.tuple #[.int .u32 0, .int .i64 1]) ∧ w = w' := by
  rcases hm with hm | hm
  · go_enter Try.func24, Try.ntmps24
    go_wp2_with fail
    go_ret2
    exact ⟨rfl, rfl⟩
  · have hm' : ¬ m < 0 := by omega
    go_enter Try.func24, Try.ntmps24
    go_wp2_with fail
    go_ret2
    exact ⟨rfl, rfl⟩

set_option maxHeartbeats 400000 in
theorem refr_bits_short (g h : Nat) (bs : List Nat) (N p : Nat) (m : Int) (w : World) (r : RefR w g h bs N p) (h0 : 0 ≤ m) (hm : m ≤ 32) (hs : (N : Int) < p + m) :
    Calls Try.prog 24 #[.pointer (some ⟨g, 0, none⟩), .int .i64 m] w fun e w' => e = .returned (.tuple #[.int .u32 0, .int .i64 3]) ∧ Dr w w' := by
  have hle := r.le
  obtain ⟨A, c, c0, c1⟩ := r.cells
  have h1 : ¬ m < 0 := by omega
  have h2 : ¬ 32 < m := by omega
  have h3 : (N : Int) - (p : Int) < m := by omega
  go_enter Try.func24, Try.ntmps24
  go_wp2_with fail
  go_quiet (fail)
  go_wp2_with fail
  go_ret2
  exact ⟨rfl, _, rfl⟩

set_option maxHeartbeats 1000000 in
theorem refr_bits (g h : Nat) (bs : List Nat) (N p : Nat) (m : Nat) (w : World) (r : RefR w g h bs N p) (hm : m ≤ 32) (hs : p + m ≤ N) :
    Calls Try.prog 24 #[.pointer (some ⟨g, 0, none⟩), .int .i64 (m : Int)] w fun e w' => e = .returned (.tuple #[.int .u32 (bval bs p m : Int), .int .i64 0]) ∧
      RefR w' g h bs N (p + m) ∧ Ch (· = g) w w' := by
  have r' := r
  obtain ⟨A, c, b, rd, x, hp, hN, hNc, hc⟩ := r
  have c0 : w.cell? ⟨g, 0, none⟩ = some (.slice A N c) := b.cell 0
  have c1 : w.cell? ⟨g, 1, none⟩ = some (.int .i64 (p : Int)) := b.cell 1
  have f1 := b.frozen 1
  have h2 : ¬ 32 < (m : Int) := by omega
  have h3 : ¬ ((N : Int) - (p : Int) < m) := by omega
  have hcut := (rd.cut (k := p) (cap := c) hp hNc).take (k := m) (by omega)
  have hnum := numOf_row bs p m N hs
  have Hnum := Lib.hid hnum
  have Hb := Lib.hid b
  clear hnum b rd
  have hpm : (p : Int) + (m : Int) ≤ (N : Int) := by omega
  have hpm2 : (p : Int) + (m : Int) ≤ (c : Int) := by omega
  have ebl : ((bbl (rowTo bs N)).drop (p * 1)).take (m * 1) = bbl (((rowTo bs N).drop p).take m) := by simp [bbl, List.map_drop, List.map_take]
  rw [ebl] at hcut
  simp only [Nat.mul_one] at hcut
  clear ebl
  go_enter Try.func24, Try.ntmps24
  go_wp2_with fail
  go_quiet (fail)
  go_wp2_with fail
  go_quiet ((go_at_call 37; exact quiet_add_left (ref_number _ _ m _ _ _ (hcut.drewN _) (by simp [rowTo_length]; omega) hm)))
  go_wp2_with fail
  all_goals
    go_ret2
    refine ⟨by simp [Hnum.out], r'.set_ (q := p + m) (by omega) _, Ch.setCell (S := (· = g)) ((Ch.refl _ _).drewN _) (p := ⟨g, 1, none⟩) (fun _ => rfl) _⟩

set_option maxHeartbeats 1000000 in
theorem refr_align (g h : Nat) (bs : List Nat) (N p : Nat) (w : World) (r : RefR w g h bs N p) (hN8 : N % 8 = 0) :
    Calls Try.prog 23 #[.pointer (some ⟨g, 0, none⟩)] w fun e w' => e = .returned (.tuple #[]) ∧
      RefR w' g h bs N ((p + 7) / 8 * 8) ∧ Ch (· = g) w w' := by
  have hle := r.le
  go_enter Try.func23, Try.ntmps23
  go_wp2_with fail
  go_loopw [7] (fun _ wr => ∃ q : Nat, p ≤ q ∧ q ≤ (p + 7) / 8 * 8 ∧ RefR wr g h bs N q ∧ Ch (· = g) w wr) (fun _ wr => (((p + 7) / 8 * 8 : Nat) - atCell wr g 1).toNat)
  case atStart => exact ⟨p, by omega, by omega, r, Ch.refl _ _⟩
  case round =>
    obtain ⟨q, hq1, hq2, hr, hc⟩ := hrel
    have hr' := hr
    obtain ⟨A, c, b, rd, x, hp, hN, hNc, hcm⟩ := hr
    have c1 : wr.cell? ⟨g, 1, none⟩ = some (.int .i64 (q : Int)) := b.cell 1
    have f1 := b.frozen 1
    clear b rd r
    by_cases h8 : q % 8 = 0
    · have h8' : ((q : Int) % 8 == 0) = true := by rw [beq_iff_eq]; omega
      have h8n : ((q : Int) % 8 != 0) = false := by rw [bne_eq_false_iff_eq]; omega
      go_wp2_with fail
      go_end0
      obtain rfl : q = (p + 7) / 8 * 8 := by omega
      exact ⟨rfl, hr', hc⟩
    · have h8' : ((q : Int) % 8 == 0) = false := by rw [beq_eq_false_iff_ne]; omega
      have h8n : ((q : Int) % 8 != 0) = true := by rw [bne_iff_ne]; omega
      go_wp2_with fail
      have hr2 := hr'.set_ (q := q + 1) (by omega) 0
      have e1 := hr'.at_
      have e2 := hr2.at_
      refine ⟨⟨q + 1, by omega, by omega, hr2, hc.setCell (p := ⟨g, 1, none⟩) (fun _ => rfl) _⟩, ?_⟩
      have e3 : atCell (wr.setCell ⟨g, 1, none⟩ (.int .i64 ((q : Int) + 1))) g 1 = ((q + 1 : Nat) : Int) := e2
      rw [e1, e3]
      omega
end Go.Proofs.Ytgbjbhghifildaa
