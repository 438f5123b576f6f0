/- The contracts of upload.Upload's Next and Take where it creates, or where no reply comes. Conditions: numbers within bounds. -/
import Derived.Test.YtfepigiapageeaaUpN
namespace Go.Proofs.Ytfepigiapageeaa
set_option maxRecDepth 100000
open Go.RowKit
set_option linter.unusedVariables false

/-- a call as a value -/
def callV (kind : Int) (key : ByteArray) (dv : Value) (ver at_ n id : Int) : Value := .agg #[.int .i64 kind, .string key, dv, .int .i64 ver, .int .i64 at_, .int .i64 n, .int .i64 id]
def noCall : Value := callV 0 ⟨#[]⟩ (.slice none 0 0) 0 0 0 0
/-- a reply as a value -/
def replyV (err : Int) (dv : Value) (ver born id : Int) (lv : Value) (more : Bool) : Value := .agg #[.int .i64 err, dv, .int .i64 ver, .int .i64 born, .int .i64 id, lv, .bool more]

section
variable {w : World} {g : Nat} {u : Up} {dv : Value}
/-- what comes of Next where no call is made -/
def NoCall (w : World) (e : Ending) (w' : World) : Prop := e = .returned (.tuple #[noCall, .bool false]) ∧ Nx w w'
set_option maxHeartbeats 1000000 in
theorem next_no (h : UpB w g u dv) (now : Int) (hno : u.sAt = 5 ∨ u.asked = true ∨ now < u.due) :
    Calls Try.prog 13 #[.pointer (some ⟨g, 0, none⟩), .int .i64 now] w (NoCall w) := by
  have d5 : w.cell? ⟨g, 5, none⟩ = some (.int .i64 u.sAt) := h.cell_ 5
  have d10 : w.cell? ⟨g, 10, none⟩ = some (.int .i64 u.due) := h.cell_ 10
  have d13 : w.cell? ⟨g, 13, none⟩ = some (.bool u.asked) := h.cell_ 13
  have hlt := h.lt
  clear h
  generalize u.sAt = x5 at *
  generalize u.due = x10 at *
  generalize u.asked = x13 at *
  have hfin : ∀ o, Nx w (w.alloc o) := fun o => (Ch.refl _ w).alloc o
  have Hfin := Lib.hid hfin
  clear hfin
  by_cases h5 : x5 = 5
  · subst h5
    clear hno
    go_enter Try.func13, Try.ntmps13
    go_wp2_with fail
    exact bodyPost_ret (v := .tuple #[noCall, .bool false]) (by simp [results, Try.results13, go_sem, noCall, callV]) rfl ⟨rfl, Hfin.out _⟩
  · have h5' : (x5 == 5) = false := by rw [beq_eq_false_iff_ne]; exact h5
    cases x13
    · have hlt2 : now < x10 := by
        rcases hno with h | h | h
        · exact absurd h h5
        · cases h
        · exact h
      clear hno h5
      go_enter Try.func13, Try.ntmps13
      go_wp2_with fail
      exact bodyPost_ret (v := .tuple #[noCall, .bool false]) (by simp [results, Try.results13, go_sem, noCall, callV]) rfl ⟨rfl, Hfin.out _⟩
    · clear hno h5
      go_enter Try.func13, Try.ntmps13
      go_wp2_with fail
      exact bodyPost_ret (v := .tuple #[noCall, .bool false]) (by simp [results, Try.results13, go_sem, noCall, callV]) rfl ⟨rfl, Hfin.out _⟩

/-- what comes of Next where a call is made -/
def ACall (w : World) (g : Nat) (u : Up) (dv : Value) (c : Value) (e : Ending) (w' : World) : Prop := e = .returned (.tuple #[c, .bool true]) ∧ UpTo w g { u with asked := true } dv w'
set_option maxHeartbeats 1000000 in
theorem next_create (h : UpB w g u dv) (now : Int) (h5 : u.sAt = 0) (h13 : u.asked = false) (h10 : u.due ≤ now) :
    Calls Try.prog 13 #[.pointer (some ⟨g, 0, none⟩), .int .i64 now] w (ACall w g u dv (callV 7 u.key (.slice none 0 0) 0 0 0 0)) := by
  have d0 : w.cell? ⟨g, 0, none⟩ = some (.string u.key) := h.cell_ 0
  have d5 : w.cell? ⟨g, 5, none⟩ = some (.int .i64 u.sAt) := h.cell_ 5
  have d10 : w.cell? ⟨g, 10, none⟩ = some (.int .i64 u.due) := h.cell_ 10
  have d13 : w.cell? ⟨g, 13, none⟩ = some (.bool u.asked) := h.cell_ 13
  have hf := h.frozen
  have hlt := h.lt
  rw [h5] at d5
  rw [h13] at d13
  have Hfin := Lib.hid ((UpTo.refl h).setAsked true)
  clear h h5 h13
  go_enter Try.func13, Try.ntmps13
  go_wp2_with fail
  exact bodyPost_ret (v := .tuple #[callV 7 u.key (.slice none 0 0) 0 0 0 0, .bool true]) (by simp [results, Try.results13, go_sem, callV]) rfl ⟨rfl, Hfin.out.nx ((Ch.refl _ _).alloc _)⟩

/-- what comes of Take -/
def Took (w : World) (g : Nat) (u : Up) (dv : Value) (e : Ending) (w' : World) : Prop := e = .returned (.int .i64 0) ∧ UpTo w g u dv w'
set_option maxRecDepth 100000 in
set_option maxHeartbeats 2000000 in
theorem take_create_again (h : UpB w g u dv) (err ver born id now : Int) (rv lv : Value) (more : Bool) (h5 : u.sAt = 0) (h13 : u.asked = true) (he : err = 9 ∨ err = 10)
    (f : Nat) (hf8 : f < 8) (hfe : u.fails = (f : Int)) (hw0 : 0 ≤ u.wait) (hw : u.wait ≤ 1099511627776) (hn0 : 0 ≤ now) (hn : now ≤ 1000000000000000) :
    Calls Try.prog 14 #[.pointer (some ⟨g, 0, none⟩), replyV err rv ver born id lv more, .int .i64 now] w (Took w g ({ u with asked := false }.fail 0 now) dv) := by
  have d5 : w.cell? ⟨g, 5, none⟩ = some (.int .i64 u.sAt) := h.cell_ 5
  have d13 : w.cell? ⟨g, 13, none⟩ = some (.bool u.asked) := h.cell_ 13
  have hf := h.frozen
  have hlt := h.lt
  rw [h5] at d5
  rw [h13] at d13
  have Hfin := Lib.hid ((UpTo.refl h).setAsked false)
  have Hfe := Lib.hid hfe
  clear h h5 h13 hfe
  unfold replyV
  have hcall := fun W (hb : UpB W g { u with asked := false } dv) => up_fail hb 0 now f hf8 Hfe.out hw0 hw hn0 hn
  have Hcall := Lib.hid hcall
  clear hcall
  rcases he with rfl | rfl
  all_goals
    go_enter Try.func14, Try.ntmps14
    go_wp2_with fail
    refine (Hcall.out _ (Hfin.out.nx ((Ch.refl _ _).alloc _)).1).mono ?_
    rintro e w1 ⟨rfl, h1⟩
    go_wp2_with fail
    go_ret
    exact ⟨rfl, (Hfin.out.nx ((Ch.refl _ _).alloc _)).trans h1⟩
end
end Go.Proofs.Ytfepigiapageeaa
