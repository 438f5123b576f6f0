/- The contracts of nums.New, of Cursor's Bytes where it fails, of Text. Conditions: lengths within the reach. -/
import Derived.Test.YtlokfmalpkahaaaCur2
namespace Go.Proofs.Ytlokfmalpkahaaa
open Go.RowKit
set_option linter.unusedVariables false
set_option maxRecDepth 100000
/-- a cursor that New has made -/
def NewCur (W : World) (xs : List Nat) (e : Ending) (w' : World) : Prop :=
  ∃ g A c, e = .returned (.pointer (some ⟨g, 0, none⟩)) ∧ CurIs w' (fun k => W.heap.size ≤ k ∧ k < g) g A c xs 0 0 ∧ Nx W w' ∧ W.heap.size ≤ g
set_option maxHeartbeats 4000000 in
theorem nums_New (D : Nat → Prop) (A : Option Addr) (n c : Nat) (xs : List Nat) (W : World) (hr : Rd W D 1 A n (bl xs)) (ok : okB xs) (hl : xs.length = n) (hn : n ≤ 1000000000) :
    Calls Try.prog 74 #[.slice A n c] W (NewCur W xs) := by
  obtain ⟨i0, hi0, hz0, hz1, hz2⟩ := info_parts Try.info5
  have hlit := OwnS.lit W W 5 (Ch.refl _ W) 1
  have hr1 := hr.nx (by decide) hlit.nx
  have Hl := Lib.hid hl
  have hb1 : (Value.slice (some ⟨W.heap.size, 0, none⟩) 0 0).ownBlock ≠ none := by simp [Value.ownBlock]
  clear hl hr
  go_enter Try.func74, Try.ntmps74
  go_wp2_with (at_builtin; refine wpList_appN rfl (.tmp 3) (.tmp 4) _ rfl 5 i0 _ 1 1 Try.underlying34 hi0 hz0 hz1 hz2 rfl (by omega) rfl hlit D A n c (bl xs) rfl hr1 (bl_one _) (by simp only [maxLen]; omega) (by omega) ?_; intro v3 w3 o3 m3; obtain ⟨k, cap, hv, o4, hk1, hk2, hcap, hmx⟩ := GivesB.mk_ o3 (m3.some_ hb1); injection hv with hv; rw [hv])
  go_ret
  have hnx : Nx w3 (w3.alloc (.cells #[.slice (some ⟨k, 0, none⟩) n cap, .int .i64 0, .int .i64 0] 94)) := (Ch.refl _ w3).alloc _
  rw [Nat.zero_add] at o4 hcap
  refine ⟨w3.heap.size, some ⟨k, 0, none⟩, cap, rfl, ⟨?_, ?_, fun j hj => by omega, fun j hj => by simp; omega, ok, by rw [Hl.out]; exact hn, by rw [Hl.out]; exact hcap, Nat.zero_le _⟩, o4.nx.tr hnx, o4.nx.size⟩
  · have := Blk.new w3 94 #[.slice (some ⟨k, 0, none⟩) n cap, .int .i64 0, .int .i64 0]
    rw [Hl.out]
    exact this
  · have := (o4.rd_.nx (by decide) hnx).more (D' := fun j => W.heap.size ≤ j ∧ j < w3.heap.size) fun j hj => by omega
    rw [Hl.out]
    simpa using this
section
variable {w : World} {D : Nat → Prop} {g : Nat} {A : Option Addr} {c : Nat} {xs : List Nat} {p : Nat} {e : Int}
set_option maxHeartbeats 1000000 in
theorem cur_Bytes_err (h : CurIs w D g A c xs p e) (he : e ≠ 0) (n : Int) : Calls Try.prog 27 #[.pointer (some ⟨g, 0, none⟩), .int .i64 n] w fun en w' => en = .returned (.slice none 0 0) ∧ w = w' := by
  have hov := cur_over h
  rw [show decide (e ≠ 0) = true by simpa using he] at hov
  have Hov := Lib.hid hov
  clear hov he h
  go_enter Try.func27, Try.ntmps27
  go_wp2_with fail
  with_reducible refine Hov.out.mono ?_
  rintro e w1 ⟨rfl, rfl⟩
  go_wp2_with fail
  go_ret
  exact ⟨rfl, rfl⟩
set_option maxHeartbeats 4000000 in
theorem cur_Bytes_bad (h : CurIs w D g A c xs p 0) (n : Int) (hn : n < 0 ∨ (xs.length : Int) - p < n) : Calls Try.prog 27 #[.pointer (some ⟨g, 0, none⟩), .int .i64 n] w fun en w' => en = .returned (.slice none 0 0) ∧ CurTo w D g A c xs p 3 w' := by
  have hov := cur_over h
  rw [show decide ((0 : Int) ≠ 0) = false by simp] at hov
  have hle := h.len
  have hpos := h.pos
  have d0 : w.cell? ⟨g, 0, none⟩ = some (.slice A xs.length c) := h.blk.cell 0
  have d1 : w.cell? ⟨g, 1, none⟩ = some (.int .i64 (p : Int)) := h.blk.cell 1
  have k0 : IntKind.i64.wrap ((xs.length : Int) - (p : Int)) = (xs.length : Int) - (p : Int) := IntWalk.i64_in _ (by omega)
  have Hov := Lib.hid hov
  have H := Lib.hid h
  clear hov h
  by_cases h0 : n < 0
  · have q1 : decide (n < 0) = true := by simpa using h0
    clear hn h0
    go_enter Try.func27, Try.ntmps27
    go_wp2_with fail
    with_reducible refine Hov.out.mono ?_
    rintro e w1 ⟨rfl, rfl⟩
    go_wp2_with fail
    go_quiet (fail)
    have h1 := H.out.nx ((Ch.refl _ w).drewN nq)
    have d1 : (w.drewN nq).cell? ⟨g, 1, none⟩ = some (.int .i64 (p : Int)) := h1.blk.cell 1
    go_wp2_with fail
    with_reducible refine (cur_fail h1 p hpos 3).mono ?_
    rintro e w1 ⟨rfl, h2⟩
    go_wp2_with fail
    go_ret
    exact ⟨rfl, h2.cur, ((Ch.refl _ w).drewN nq).trans h2.chg fun _ _ e => e⟩
  · have q1 : decide (n < 0) = false := by simpa using h0
    have hn2 : (xs.length : Int) - p < n := hn.resolve_left h0
    have q2 : decide ((xs.length : Int) - (p : Int) < n) = true := by simpa using hn2
    clear hn h0 hn2
    go_enter Try.func27, Try.ntmps27
    go_wp2_with fail
    with_reducible refine Hov.out.mono ?_
    rintro e w1 ⟨rfl, rfl⟩
    go_wp2_with fail
    go_quiet (fail)
    have h1 := H.out.nx ((Ch.refl _ w).drewN nq)
    have d1 : (w.drewN nq).cell? ⟨g, 1, none⟩ = some (.int .i64 (p : Int)) := h1.blk.cell 1
    go_wp2_with fail
    with_reducible refine (cur_fail h1 p hpos 3).mono ?_
    rintro e w1 ⟨rfl, h2⟩
    go_wp2_with fail
    go_ret
    exact ⟨rfl, h2.cur, ((Ch.refl _ w).drewN nq).trans h2.chg fun _ _ e => e⟩
end
end Go.Proofs.Ytlokfmalpkahaaa
