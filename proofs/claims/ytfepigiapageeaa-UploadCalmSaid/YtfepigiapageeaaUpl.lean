/- The contracts of upload.Upload's small methods: State, Born, end, giveUp, fail, parts; what an upload is in memory. Conditions: numbers within bounds. -/
import Derived.Test.YtfepigiapageeaaOwn
import Derived.Test.YtfepigiapageeaaLaw
import Derived.BigRegion
import Derived.StillTailTactics
import Derived.Deep.RegionLaw
namespace Go.Proofs.Ytfepigiapageeaa
set_option maxRecDepth 100000
open Go.RowKit
set_option linter.unusedVariables false

/-- an upload: where it stands, its numbers -/
structure Up where
  key : ByteArray
  size : Int
  tries : Int
  wait : Int
  sAt : Int
  n : Int
  id : Int
  sFrom : Int
  fails : Int
  due : Int
  born : Int
  ends : Int
  asked : Bool
/-- its cells; its data are the slice dv -/
def Up.cells (u : Up) (dv : Value) : Array Value :=
  #[.string u.key, dv, .int .i64 u.size, .int .i64 u.tries, .int .i64 u.wait, .int .i64 u.sAt, .int .i64 u.n, .int .i64 u.id, .int .i64 u.sFrom, .int .i64 u.fails, .int .i64 u.due, .int .i64 u.born, .int .i64 u.ends, .bool u.asked]
abbrev UpB (w : World) (g : Nat) (u : Up) (dv : Value) : Prop := Blk w g 56 (u.cells dv)
/-- what comes of a method that changes the upload alone -/
def UpTo (w : World) (g : Nat) (u : Up) (dv : Value) (w' : World) : Prop := UpB w' g u dv ∧ Ch (· = g) w w'
theorem UpTo.trans {a b c : World} {g : Nat} {u u' : Up} {dv : Value} (h : UpTo a g u dv b) (k : UpTo b g u' dv c) : UpTo a g u' dv c := ⟨k.1, h.2.trans k.2 fun _ _ e => e⟩
theorem UpTo.refl {w : World} {g : Nat} {u : Up} {dv : Value} (h : UpB w g u dv) : UpTo w g u dv w := ⟨h, Ch.refl _ _⟩
theorem UpTo.nx {a b c : World} {g : Nat} {u : Up} {dv : Value} (h : UpTo a g u dv b) (k : Nx b c) : UpTo a g u dv c := ⟨h.1.nx k, h.2.tr k⟩
theorem UpTo.drewN {a b : World} {g : Nat} {u : Up} {dv : Value} (h : UpTo a g u dv b) (q : Nat) : UpTo a g u dv (b.drewN q) := h.nx (Dr.mk_ _ q).nx
theorem UpTo.set_ {a w : World} {g : Nat} {u u' : Up} {dv : Value} (h : UpTo a g u dv w) (i : Nat) (v : Value) (e : (u.cells dv).setIfInBounds i v = u'.cells dv) : UpTo a g u' dv (w.setCell ⟨g, i, none⟩ v) :=
  ⟨by rw [UpB, ← e]; exact h.1.set_ i v, h.2.setCell (fun _ => rfl) v⟩
theorem UpTo.setAt {a w : World} {g : Nat} {u : Up} {dv : Value} (h : UpTo a g u dv w) (x : Int) : UpTo a g { u with sAt := x } dv (w.setCell ⟨g, 5, none⟩ (.int .i64 x)) := h.set_ 5 _ (by simp [Up.cells])
theorem UpTo.setN {a w : World} {g : Nat} {u : Up} {dv : Value} (h : UpTo a g u dv w) (x : Int) : UpTo a g { u with n := x } dv (w.setCell ⟨g, 6, none⟩ (.int .i64 x)) := h.set_ 6 _ (by simp [Up.cells])
theorem UpTo.setId {a w : World} {g : Nat} {u : Up} {dv : Value} (h : UpTo a g u dv w) (x : Int) : UpTo a g { u with id := x } dv (w.setCell ⟨g, 7, none⟩ (.int .i64 x)) := h.set_ 7 _ (by simp [Up.cells])
theorem UpTo.setFrom {a w : World} {g : Nat} {u : Up} {dv : Value} (h : UpTo a g u dv w) (x : Int) : UpTo a g { u with sFrom := x } dv (w.setCell ⟨g, 8, none⟩ (.int .i64 x)) := h.set_ 8 _ (by simp [Up.cells])
theorem UpTo.setFails {a w : World} {g : Nat} {u : Up} {dv : Value} (h : UpTo a g u dv w) (x : Int) : UpTo a g { u with fails := x } dv (w.setCell ⟨g, 9, none⟩ (.int .i64 x)) := h.set_ 9 _ (by simp [Up.cells])
theorem UpTo.setDue {a w : World} {g : Nat} {u : Up} {dv : Value} (h : UpTo a g u dv w) (x : Int) : UpTo a g { u with due := x } dv (w.setCell ⟨g, 10, none⟩ (.int .i64 x)) := h.set_ 10 _ (by simp [Up.cells])
theorem UpTo.setBorn {a w : World} {g : Nat} {u : Up} {dv : Value} (h : UpTo a g u dv w) (x : Int) : UpTo a g { u with born := x } dv (w.setCell ⟨g, 11, none⟩ (.int .i64 x)) := h.set_ 11 _ (by simp [Up.cells])
theorem UpTo.setEnds {a w : World} {g : Nat} {u : Up} {dv : Value} (h : UpTo a g u dv w) (x : Int) : UpTo a g { u with ends := x } dv (w.setCell ⟨g, 12, none⟩ (.int .i64 x)) := h.set_ 12 _ (by simp [Up.cells])
theorem UpTo.setAsked {a w : World} {g : Nat} {u : Up} {dv : Value} (h : UpTo a g u dv w) (x : Bool) : UpTo a g { u with asked := x } dv (w.setCell ⟨g, 13, none⟩ (.bool x)) := h.set_ 13 _ (by simp [Up.cells])

/-- the end; giving up; a failure: what they leave -/
def Up.end_ (u : Up) (how born : Int) : Up := { u with sAt := 5, ends := how, born := born }
def Up.giveUp (u : Up) : Up := if u.id = 0 then { u with due := 0 }.end_ 2 0 else { u with due := 0, sAt := 4 }
def Up.fail (u : Up) (a now : Int) : Up :=
  if u.tries ≤ u.fails + 1 then { u with fails := u.fails + 1 }.giveUp else { u with fails := u.fails + 1, sAt := a, due := now + u.wait * 2 ^ u.fails.toNat }

theorem shl_bd {x : Int} {f : Nat} (h0 : 0 ≤ x) (h1 : x ≤ 1099511627776) (hf : f < 8) : 0 ≤ x * 2 ^ f ∧ x * 2 ^ f ≤ 140737488355328 := by
  match f, hf with
  | 0, _ | 1, _ | 2, _ | 3, _ | 4, _ | 5, _ | 6, _ | 7, _ => exact ⟨by omega, by omega⟩
section
variable {w : World} {g : Nat} {u : Up} {dv : Value}
theorem UpB.cell_ (h : UpB w g u dv) (i : Nat) : w.cell? ⟨g, i, none⟩ = (u.cells dv)[i]? := Blk.cell h i

set_option maxHeartbeats 400000 in
theorem up_state_nil (w : World) : Calls Try.prog 12 #[.pointer none] w fun e w' => e = .returned (.int .i64 2) ∧ w = w' := by
  go_enter Try.func12, Try.ntmps12
  go_wp2_with fail
  go_ret
  exact ⟨rfl, rfl⟩
set_option maxHeartbeats 400000 in
theorem up_state (h : UpB w g u dv) : Calls Try.prog 12 #[.pointer (some ⟨g, 0, none⟩)] w fun e w' => e = .returned (.int .i64 u.ends) ∧ w = w' := by
  have d12 : w.cell? ⟨g, 12, none⟩ = some (.int .i64 u.ends) := h.cell_ 12
  go_enter Try.func12, Try.ntmps12
  go_wp2_with fail
  go_ret
  exact ⟨rfl, rfl⟩
set_option maxHeartbeats 400000 in
theorem up_born (h : UpB w g u dv) : Calls Try.prog 17 #[.pointer (some ⟨g, 0, none⟩)] w fun e w' => e = .returned (.int .i64 u.born) ∧ w = w' := by
  have d12 : w.cell? ⟨g, 11, none⟩ = some (.int .i64 u.born) := h.cell_ 11
  go_enter Try.func17, Try.ntmps17
  go_wp2_with fail
  go_ret
  exact ⟨rfl, rfl⟩

set_option maxHeartbeats 400000 in
theorem up_end (h : UpB w g u dv) (how born : Int) : Calls Try.prog 32 #[.pointer (some ⟨g, 0, none⟩), .int .i64 how, .int .i64 born] w fun e w' => e = .returned (.tuple #[]) ∧ UpTo w g (u.end_ how born) dv w' := by
  have d5 : w.cell? ⟨g, 5, none⟩ = some (.int .i64 u.sAt) := h.cell_ 5
  have d11 : w.cell? ⟨g, 11, none⟩ = some (.int .i64 u.born) := h.cell_ 11
  have d12 : w.cell? ⟨g, 12, none⟩ = some (.int .i64 u.ends) := h.cell_ 12
  have hf := h.frozen
  have H := Lib.hid h
  clear h
  go_enter Try.func32, Try.ntmps32
  go_wp2_with fail
  go_end0
  exact ⟨rfl, (((UpTo.refl H.out).setAt 5).setEnds how).setBorn born⟩

set_option maxHeartbeats 400000 in
theorem up_giveUp (h : UpB w g u dv) : Calls Try.prog 34 #[.pointer (some ⟨g, 0, none⟩)] w fun e w' => e = .returned (.tuple #[]) ∧ UpTo w g u.giveUp dv w' := by
  have d5 : w.cell? ⟨g, 5, none⟩ = some (.int .i64 u.sAt) := h.cell_ 5
  have d7 : w.cell? ⟨g, 7, none⟩ = some (.int .i64 u.id) := h.cell_ 7
  have d10 : w.cell? ⟨g, 10, none⟩ = some (.int .i64 u.due) := h.cell_ 10
  have hf := h.frozen
  have h1 := (UpTo.refl h).setDue 0
  have H1 := Lib.hid h1
  clear h h1
  by_cases hid : u.id = 0
  · have e : u.giveUp = { u with due := 0 }.end_ 2 0 := by unfold Up.giveUp; rw [if_pos hid]
    have E := Lib.hid e
    rw [hid] at d7
    clear e hid
    go_enter Try.func34, Try.ntmps34
    go_wp2_with fail
    refine (up_end H1.out.1 2 0).mono ?_
    rintro e w' ⟨rfl, h2⟩
    go_wp2_with fail
    refine bodyPost_ret (results_none rfl _ _ _) rfl ?_
    exact ⟨rfl, by rw [E.out]; exact H1.out.trans h2⟩
  · have e : u.giveUp = { u with due := 0, sAt := 4 } := by unfold Up.giveUp; rw [if_neg hid]
    have E := Lib.hid e
    have hid' : (u.id == 0) = false := by rw [beq_eq_false_iff_ne]; exact hid
    clear e hid
    go_enter Try.func34, Try.ntmps34
    go_wp2_with fail
    go_end0
    exact ⟨rfl, by rw [E.out]; exact H1.out.setAt 4⟩

set_option maxHeartbeats 1000000 in
theorem up_fail (h : UpB w g u dv) (a now : Int) (f : Nat) (hf8 : f < 8) (hfe : u.fails = (f : Int)) (hw0 : 0 ≤ u.wait) (hw : u.wait ≤ 1099511627776) (hn0 : 0 ≤ now) (hn : now ≤ 1000000000000000) :
    Calls Try.prog 33 #[.pointer (some ⟨g, 0, none⟩), .int .i64 a, .int .i64 now] w fun e w' => e = .returned (.tuple #[]) ∧ UpTo w g (u.fail a now) dv w' := by
  have d3 : w.cell? ⟨g, 3, none⟩ = some (.int .i64 u.tries) := h.cell_ 3
  have d4 : w.cell? ⟨g, 4, none⟩ = some (.int .i64 u.wait) := h.cell_ 4
  have d5 : w.cell? ⟨g, 5, none⟩ = some (.int .i64 u.sAt) := h.cell_ 5
  have d9 : w.cell? ⟨g, 9, none⟩ = some (.int .i64 u.fails) := h.cell_ 9
  have d10 : w.cell? ⟨g, 10, none⟩ = some (.int .i64 u.due) := h.cell_ 10
  have hf := h.frozen
  have h1 := (UpTo.refl h).setFails (u.fails + 1)
  have H1 := Lib.hid h1
  rw [hfe] at d9
  have Hfe := Lib.hid hfe
  clear h h1 hfe
  by_cases hid : u.tries ≤ (f : Int) + 1
  · have e : u.fail a now = { u with fails := u.fails + 1 }.giveUp := by unfold Up.fail; rw [if_pos (by rw [Hfe.out]; exact hid)]
    have E := Lib.hid e
    rw [Hfe.out] at H1
    clear e
    go_enter Try.func33, Try.ntmps33
    go_wp2_with fail
    go_quiet (fail)
    go_wp2_with fail
    refine (up_giveUp (H1.out.drewN _).1).mono ?_
    rintro e w' ⟨rfl, h2⟩
    go_wp2_with fail
    refine bodyPost_ret (results_none rfl _ _ _) rfl ?_
    exact ⟨rfl, by rw [E.out, Hfe.out]; exact (H1.out.drewN _).trans h2⟩
  · have hid2 : ¬ u.tries ≤ (f : Int) + 1 := hid
    go_enter Try.func33, Try.ntmps33
    go_wp2_with fail
    go_quiet (fail)
    go_wp2_with fail
    obtain ⟨hb0, hb1⟩ := shl_bd hw0 hw hf8
    have hf0 : (0 : Int) ≤ (f : Int) := by omega
    have hf1 : (0 : Int) ≤ (f : Int) + 1 - 1 := by omega
    have hf2 : (f : Int) + 1 - 1 < 64 := by omega
    go_region
    go_wp2_with fail
    go_end0
    have e : u.fail a now = { u with fails := u.fails + 1, sAt := a, due := now + u.wait * 2 ^ u.fails.toNat } := by unfold Up.fail; rw [if_neg (by rw [Hfe.out]; omega)]
    have h2 := (((H1.out.drewN nq).setAt a).setDue (now + u.wait * 2 ^ f)).nx ((Ch.refl _ _).drew)
    rw [e]
    rw [Hfe.out] at h2 ⊢
    rw [Int.toNat_natCast]
    exact ⟨rfl, h2⟩
end
end Go.Proofs.Ytfepigiapageeaa
