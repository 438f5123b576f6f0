/- The contract of the law's lives (layer 12). Conditions: none. -/
import Derived.Test.YtihocfdnkongkaaKrQyB
namespace Go.Proofs.Ytihocfdnkongkaa
set_option maxRecDepth 100000
open Go.RowKit
set_option linter.unusedVariables false
def liveQ : QryE := ⟨5, 9, [], 0, true⟩
def liveX : RowE := ⟨1, 5, [], ⟨#[120]⟩, 0, false, 1, 1, 0⟩
theorem live_right : qrightF liveQ = true := by decide
theorem live_keeps : keepsF liveQ liveX = true := by decide
theorem live_answer : answerF liveQ [liveX] = [liveX] := by
  unfold answerF
  rw [live_right]
  rfl
set_option maxHeartbeats 4000000 in
theorem lives_any (w : World) : Calls Try.prog 4 #[] w fun e w' => e = .returned (.bool true) ∧ Nx w w' := by
  have N3 := Lib.hid (show Nx w (((w.alloc (.cells #[.int .i64 5, .int .i64 9, .slice none 0 0, .int .i64 0, .bool true] 24)).alloc (.cells #[.int .i64 1, .int .i64 5, .slice none 0 0, .string ⟨#[120]⟩, .int .i64 0, .bool false, .int .i64 1, .int .i64 1, .int .i64 0] 33)).alloc (.cells #[.int .i64 1, .int .i64 5, .slice none 0 0, .string ⟨#[120]⟩, .int .i64 0, .bool false, .int .i64 1, .int .i64 1, .int .i64 0] 33)) from (((Ch.refl _ w).alloc _).alloc _).alloc _)
  have B1 := Lib.hid (show Blk (((w.alloc (.cells #[.int .i64 5, .int .i64 9, .slice none 0 0, .int .i64 0, .bool true] 24)).alloc (.cells #[.int .i64 1, .int .i64 5, .slice none 0 0, .string ⟨#[120]⟩, .int .i64 0, .bool false, .int .i64 1, .int .i64 1, .int .i64 0] 33)).alloc (.cells #[.int .i64 1, .int .i64 5, .slice none 0 0, .string ⟨#[120]⟩, .int .i64 0, .bool false, .int .i64 1, .int .i64 1, .int .i64 0] 33)) w.heap.size 24 #[.int .i64 5, .int .i64 9, .slice none 0 0, .int .i64 0, .bool true] from ((Blk.new w _ _).alloc _).alloc _)
  have B2 := Lib.hid (show Blk (((w.alloc (.cells #[.int .i64 5, .int .i64 9, .slice none 0 0, .int .i64 0, .bool true] 24)).alloc (.cells #[.int .i64 1, .int .i64 5, .slice none 0 0, .string ⟨#[120]⟩, .int .i64 0, .bool false, .int .i64 1, .int .i64 1, .int .i64 0] 33)).alloc (.cells #[.int .i64 1, .int .i64 5, .slice none 0 0, .string ⟨#[120]⟩, .int .i64 0, .bool false, .int .i64 1, .int .i64 1, .int .i64 0] 33)) (w.heap.size + 1) 33 #[.int .i64 1, .int .i64 5, .slice none 0 0, .string ⟨#[120]⟩, .int .i64 0, .bool false, .int .i64 1, .int .i64 1, .int .i64 0] by
    have := (Blk.new (w.alloc (.cells #[.int .i64 5, .int .i64 9, .slice none 0 0, .int .i64 0, .bool true] 24)) 33 #[.int .i64 1, .int .i64 5, .slice none 0 0, .string ⟨#[120]⟩, .int .i64 0, .bool false, .int .i64 1, .int .i64 1, .int .i64 0]).alloc (.cells #[.int .i64 1, .int .i64 5, .slice none 0 0, .string ⟨#[120]⟩, .int .i64 0, .bool false, .int .i64 1, .int .i64 1, .int .i64 0] 33)
    simpa using this)
  have HRD := Lib.hid (show Rd (((w.alloc (.cells #[.int .i64 5, .int .i64 9, .slice none 0 0, .int .i64 0, .bool true] 24)).alloc (.cells #[.int .i64 1, .int .i64 5, .slice none 0 0, .string ⟨#[120]⟩, .int .i64 0, .bool false, .int .i64 1, .int .i64 1, .int .i64 0] 33)).alloc (.cells #[.int .i64 1, .int .i64 5, .slice none 0 0, .string ⟨#[120]⟩, .int .i64 0, .bool false, .int .i64 1, .int .i64 1, .int .i64 0] 33)) (fun k => k = w.heap.size + 1 + 1) 9 (some ⟨w.heap.size + 1 + 1, 0, none⟩) 1 (rvl [⟨liveX, none, 0⟩]) by
    have := Rd.lit9 ((w.alloc (.cells #[.int .i64 5, .int .i64 9, .slice none 0 0, .int .i64 0, .bool true] 24)).alloc (.cells #[.int .i64 1, .int .i64 5, .slice none 0 0, .string ⟨#[120]⟩, .int .i64 0, .bool false, .int .i64 1, .int .i64 1, .int .i64 0] 33)) ⟨liveX, none, 0⟩
    rw [World.size_alloc, World.size_alloc] at this
    exact this)
  have HQ : ∀ w, QIs w liveQ none 0 := fun w => ⟨Rd.none_ _ _ _ _, (by intro x hx; cases hx), ⟨by decide, by decide⟩, ⟨by decide, by decide⟩, ⟨by decide, by decide⟩, by decide, by decide⟩
  have HOK : ∀ w, RV.ok w (fun _ => False) ⟨liveX, none, 0⟩ := fun w => ⟨Rd.none_ _ _ _ _, by decide, by decide⟩
  have HFW : liveX.few := ⟨⟨(by intro y hy; cases hy), by decide, ⟨by decide, by decide⟩, ⟨by decide, by decide⟩, ⟨by decide, by decide⟩, ⟨by decide, by decide⟩, ⟨by decide, by decide⟩, ⟨by decide, by decide⟩⟩, by decide⟩
  have HA := Lib.hid (answer_any (c := 1) (HQ (((w.alloc (.cells #[.int .i64 5, .int .i64 9, .slice none 0 0, .int .i64 0, .bool true] 24)).alloc (.cells #[.int .i64 1, .int .i64 5, .slice none 0 0, .string ⟨#[120]⟩, .int .i64 0, .bool false, .int .i64 1, .int .i64 1, .int .i64 0] 33)).alloc (.cells #[.int .i64 1, .int .i64 5, .slice none 0 0, .string ⟨#[120]⟩, .int .i64 0, .bool false, .int .i64 1, .int .i64 1, .int .i64 0] 33))) HRD.out rfl (by decide) (by
    intro x hx
    rw [List.mem_singleton] at hx
    subst hx
    exact ⟨(HOK _).ch (Ch.refl (fun _ => False) _) (fun _ _ _ hf => hf) (fun _ hf => hf.elim), HFW⟩))
  have HR := Lib.hid (fun w => qright_q (HQ w))
  have HK := Lib.hid (fun w => keeps_q (HQ w) (HOK w) HFW)
  rw [live_right] at HR
  rw [live_keeps] at HK
  unfold qryV liveQ at HA HR HK
  unfold rowV liveX at HK
  simp only at HA HR HK
  clear HQ HOK HFW
  go_enter Try.func4, Try.ntmps4
  go_wp2_with fail
  refine HA.out.mono ?_
  rintro e w5 ⟨v, os, rfl, hr, hm⟩
  have hm2 : os.map (fun x => x.row) = [liveX] := hm.trans live_answer
  obtain ⟨y, rfl⟩ : ∃ y, os = [y] := List.length_eq_one_iff.1 (by have := congrArg List.length hm2; simpa using this)
  have hy : y.row = liveX := by simpa using hm2
  obtain ⟨A, c, rfl, hc1, hc2⟩ := hr.form
  obtain ⟨ad, rfl, -, -, -, -, t5, -⟩ := row_at hr.rd (k := 0) (by simp)
  simp only [List.getElem_cons_zero, Nat.zero_mul] at t5
  rw [hy] at t5
  have HT5 := Lib.hid t5
  have N5 := Lib.hid (N3.out.tr hr.own.nx)
  have b1 := B1.out.nx hr.own.nx
  have b2 := B2.out.nx hr.own.nx
  have p0 : w5.cell? ⟨w.heap.size, 0, none⟩ = some (.int .i64 5) := b1.cell 0
  have p1 : w5.cell? ⟨w.heap.size, 1, none⟩ = some (.int .i64 9) := b1.cell 1
  have p2 : w5.cell? ⟨w.heap.size, 2, none⟩ = some (.slice none 0 0) := b1.cell 2
  have p3 : w5.cell? ⟨w.heap.size, 3, none⟩ = some (.int .i64 0) := b1.cell 3
  have p4 : w5.cell? ⟨w.heap.size, 4, none⟩ = some (.bool true) := b1.cell 4
  have q0 : w5.cell? ⟨w.heap.size + 1, 0, none⟩ = some (.int .i64 1) := b2.cell 0
  have q1 : w5.cell? ⟨w.heap.size + 1, 1, none⟩ = some (.int .i64 5) := b2.cell 1
  have q2 : w5.cell? ⟨w.heap.size + 1, 2, none⟩ = some (.slice none 0 0) := b2.cell 2
  have q3 : w5.cell? ⟨w.heap.size + 1, 3, none⟩ = some (.string ⟨#[120]⟩) := b2.cell 3
  have q4 : w5.cell? ⟨w.heap.size + 1, 4, none⟩ = some (.int .i64 0) := b2.cell 4
  have q5 : w5.cell? ⟨w.heap.size + 1, 5, none⟩ = some (.bool false) := b2.cell 5
  have q6 : w5.cell? ⟨w.heap.size + 1, 6, none⟩ = some (.int .i64 1) := b2.cell 6
  have q7 : w5.cell? ⟨w.heap.size + 1, 7, none⟩ = some (.int .i64 1) := b2.cell 7
  have q8 : w5.cell? ⟨w.heap.size + 1, 8, none⟩ = some (.int .i64 0) := b2.cell 8
  have C1 := Lib.hid b1
  have C2 := Lib.hid b2
  clear b1 b2 hr hm hm2 hy t5 HA HRD B1 B2
  unfold liveX at HT5
  simp only at HT5
  go_wp2_with fail
  refine (HR.out _).mono ?_
  rintro e w6 ⟨rfl, n6⟩
  have N6 := Lib.hid n6
  have b1 := C1.out.nx n6
  have b2 := C2.out.nx n6
  have r0 : w6.cell? ⟨w.heap.size, 0, none⟩ = some (.int .i64 5) := b1.cell 0
  have r1 : w6.cell? ⟨w.heap.size, 1, none⟩ = some (.int .i64 9) := b1.cell 1
  have r2 : w6.cell? ⟨w.heap.size, 2, none⟩ = some (.slice none 0 0) := b1.cell 2
  have r3 : w6.cell? ⟨w.heap.size, 3, none⟩ = some (.int .i64 0) := b1.cell 3
  have r4 : w6.cell? ⟨w.heap.size, 4, none⟩ = some (.bool true) := b1.cell 4
  have s0 : w6.cell? ⟨w.heap.size + 1, 0, none⟩ = some (.int .i64 1) := b2.cell 0
  have s1 : w6.cell? ⟨w.heap.size + 1, 1, none⟩ = some (.int .i64 5) := b2.cell 1
  have s2 : w6.cell? ⟨w.heap.size + 1, 2, none⟩ = some (.slice none 0 0) := b2.cell 2
  have s3 : w6.cell? ⟨w.heap.size + 1, 3, none⟩ = some (.string ⟨#[120]⟩) := b2.cell 3
  have s4 : w6.cell? ⟨w.heap.size + 1, 4, none⟩ = some (.int .i64 0) := b2.cell 4
  have s5 : w6.cell? ⟨w.heap.size + 1, 5, none⟩ = some (.bool false) := b2.cell 5
  have s6 : w6.cell? ⟨w.heap.size + 1, 6, none⟩ = some (.int .i64 1) := b2.cell 6
  have s7 : w6.cell? ⟨w.heap.size + 1, 7, none⟩ = some (.int .i64 1) := b2.cell 7
  have s8 : w6.cell? ⟨w.heap.size + 1, 8, none⟩ = some (.int .i64 0) := b2.cell 8
  clear p0 p1 p2 p3 p4 q0 q1 q2 q3 q4 q5 q6 q7 q8 b1 b2 n6
  go_wp2_with fail
  refine (HK.out _).mono ?_
  rintro e w7 ⟨rfl, n7⟩
  have N7 := Lib.hid (N6.out.tr n7)
  have t7 := (N7.out.cell (World.block_lt_of_cell? w5 _ HT5.out) (fun h => h)).trans HT5.out
  have z : ad.add 0 = ad := rfl
  rw [z] at t7
  clear n7 r0 r1 r2 r3 r4 s0 s1 s2 s3 s4 s5 s6 s7 s8 z
  go_wp2_with fail
  go_ret
  exact ⟨rfl, N5.out.tr N7.out⟩
end Go.Proofs.Ytihocfdnkongkaa
