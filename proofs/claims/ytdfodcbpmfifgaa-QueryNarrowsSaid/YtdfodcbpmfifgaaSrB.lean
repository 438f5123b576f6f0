/- The contract of record.Compare. Conditions: none. -/
import Derived.Test.YtdfodcbpmfifgaaRowM
import Derived.Test.YtdfodcbpmfifgaaSrA
import Derived.StillTailTactics
namespace Go.Proofs.Ytdfodcbpmfifgaa
set_option maxRecDepth 100000
open Go.RowKit
set_option linter.unusedVariables false
section
variable {w : World} {D : Nat → Prop}
theorem cmp_any' (x y : Int) (w : World) : Calls Try.prog 40 #[.int .i64 x, .int .i64 y] w fun e w' => e = .returned (.int .i64 (cmpI x y)) ∧ w' = w :=
  (cmp_any x y w).mono fun e w' h => ⟨h.1, h.2.symm⟩
theorem blk_rd {w : World} {b : Nat} {ty : TypeId} {xs : List Value} (h : Blk w b ty xs.toArray) : Rd w (fun k => k = b) 1 (some ⟨b, 0, none⟩) xs.length xs :=
  ⟨by simp, fun _ => ⟨⟨b, 0, none⟩, rfl, rfl, fun j u hu => by
    have e : Addr.add ⟨b, 0, none⟩ j = ⟨b, j, none⟩ := by
      unfold Addr.add
      by_cases hj : j = 0
      · rw [if_pos hj, hj]
      · rw [if_neg hj]; simp
    rw [e, h.cell]
    simpa using hu⟩⟩
def lenV : Value → Nat
  | .slice _ n _ => n
  | _ => 0
set_option maxHeartbeats 4000000 in
theorem compare_any (x y : RV) (w : World) : Calls Try.prog 29 #[rowV x, rowV y] w fun e w' => e = .returned (.int .i64 (cmpF x.row y.row)) ∧ Nx w w' := by
  obtain ⟨⟨kind, time, labs, text, value, null, maker, seq, place⟩, A, c⟩ := x
  obtain ⟨⟨kind2, time2, labs2, text2, value2, null2, maker2, seq2, place2⟩, A2, c2⟩ := y
  have HF : Hid (cmpF ⟨kind, time, labs, text, value, null, maker, seq, place⟩ ⟨kind2, time2, labs2, text2, value2, null2, maker2, seq2, place2⟩ = orL [cmpI time time2, cmpI maker maker2, cmpI seq seq2, cmpI place place2]) := Lib.hid (by
    unfold cmpF or4 orL orL orL orL orL
    simp only
    split
    · split
      · split
        · split
          · assumption
          · rfl
        · rfl
      · rfl
    · rfl)
  have Hc := Lib.hid cmp_any'
  have Hn := Lib.hid (fun o o2 => (((Ch.refl (fun _ => False) w).alloc o).alloc o2).drew)
  unfold rowV
  simp only
  go_enter Try.func29, Try.ntmps29
  go_wp2_with fail
  have hx := (Blk.new w 36 #[.int .i64 kind, .int .i64 time, .slice A labs.length c, .string text, .int .i64 value, .bool null, .int .i64 maker, .int .i64 seq, .int .i64 place]).alloc (.cells #[.int .i64 kind2, .int .i64 time2, .slice A2 labs2.length c2, .string text2, .int .i64 value2, .bool null2, .int .i64 maker2, .int .i64 seq2, .int .i64 place2] 36)
  have hy := Blk.new (w.alloc (.cells #[.int .i64 kind, .int .i64 time, .slice A labs.length c, .string text, .int .i64 value, .bool null, .int .i64 maker, .int .i64 seq, .int .i64 place] 36)) 36 #[.int .i64 kind2, .int .i64 time2, .slice A2 labs2.length c2, .string text2, .int .i64 value2, .bool null2, .int .i64 maker2, .int .i64 seq2, .int .i64 place2]
  have hn := Hn.out (.cells #[.int .i64 kind, .int .i64 time, .slice A labs.length c, .string text, .int .i64 value, .bool null, .int .i64 maker, .int .i64 seq, .int .i64 place] 36) (.cells #[.int .i64 kind2, .int .i64 time2, .slice A2 labs2.length c2, .string text2, .int .i64 value2, .bool null2, .int .i64 maker2, .int .i64 seq2, .int .i64 place2] 36)
  rw [World.size_alloc] at hy
  generalize (w.alloc (.cells #[.int .i64 kind, .int .i64 time, .slice A labs.length c, .string text, .int .i64 value, .bool null, .int .i64 maker, .int .i64 seq, .int .i64 place] 36)).alloc (.cells #[.int .i64 kind2, .int .i64 time2, .slice A2 labs2.length c2, .string text2, .int .i64 value2, .bool null2, .int .i64 maker2, .int .i64 seq2, .int .i64 place2] 36) = W2 at *
  generalize w.heap.size = g at *
  have q1 : W2.cell? ⟨g, 1, none⟩ = some (.int .i64 time) := hx.cell 1
  have q6 : W2.cell? ⟨g, 6, none⟩ = some (.int .i64 maker) := hx.cell 6
  have q7 : W2.cell? ⟨g, 7, none⟩ = some (.int .i64 seq) := hx.cell 7
  have q8 : W2.cell? ⟨g, 8, none⟩ = some (.int .i64 place) := hx.cell 8
  have r1 : W2.cell? ⟨g + 1, 1, none⟩ = some (.int .i64 time2) := hy.cell 1
  have r6 : W2.cell? ⟨g + 1, 6, none⟩ = some (.int .i64 maker2) := hy.cell 6
  have r7 : W2.cell? ⟨g + 1, 7, none⟩ = some (.int .i64 seq2) := hy.cell 7
  have r8 : W2.cell? ⟨g + 1, 8, none⟩ = some (.int .i64 place2) := hy.cell 8
  have HN := Lib.hid hn
  clear hx hy Hn hn
  go_still_tail 22, rfl
  repeat still_step
  still_call (Hc.out _ _ _)
  repeat still_step
  still_call (Hc.out _ _ _)
  repeat still_step
  still_call (Hc.out _ _ _)
  repeat still_step
  still_call (Hc.out _ _ _)
  repeat still_step
  refine wpStill_nil ?_
  change wpList _ _ _ _ _ W2.drew
  clear q1 q6 q7 q8 r1 r6 r7 r8
  generalize W2.drew = W3 at *
  have HO := Lib.hid (fun a b c d => or_any (c := 4) (blk_rd (Blk.new W3 3 #[.int .i64 a, .int .i64 b, .int .i64 c, .int .i64 d]) (xs := [a, b, c, d].map (Value.int .i64))) rfl (by simp))
  go_wp2_with fail
  refine (HO.out _ _ _ _).mono ?_
  rintro e w5 ⟨rfl, rfl⟩
  go_wp2_with fail
  go_ret
  exact ⟨by rw [HF.out]; rfl, HN.out.alloc _⟩
end
end Go.Proofs.Ytdfodcbpmfifgaa
