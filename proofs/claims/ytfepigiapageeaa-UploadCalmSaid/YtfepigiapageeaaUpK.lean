/- The contract of upload.Upload's Take, whatever the reply is. Conditions: numbers within bounds. Printed by gen_take.py. -/
import Derived.Test.YtfepigiapageeaaUpT
namespace Go.Proofs.Ytfepigiapageeaa
set_option maxRecDepth 100000
open Go.RowKit
set_option linter.unusedVariables false
section
variable {w : World} {g : Nat} {u : Up} {A : Option Addr} {n c : Nat} {rv lv : Value} {more : Bool}
set_option maxHeartbeats 2000000 in
theorem take_4_10 (h : UpB w g u (.slice A n c)) (ver born id now : Int) (h5 : u.sAt = 4) (h13 : u.asked = true) :
    Calls Try.prog 14 #[.pointer (some ⟨g, 0, none⟩), replyV 10 rv ver born id lv more, .int .i64 now] w (Took w g (({ u with asked := false } : Up).end_ 2 0) (.slice A n c)) := by
  have d5 : w.cell? ⟨g, 5, none⟩ = some (.int .i64 u.sAt) := h.cell_ 5
  have d13 : w.cell? ⟨g, 13, none⟩ = some (.bool u.asked) := h.cell_ 13
  have hf := h.frozen
  have hlt := h.lt
  rw [h5] at d5
  rw [h13] at d13
  have Hfin := Lib.hid ((UpTo.refl h).setAsked false)
  clear h h13 h5
  unfold replyV
  go_enter Try.func14, Try.ntmps14
  go_wp2_with fail
  refine (up_end (Hfin.out.nx ((Ch.refl _ _).alloc _)).1 2 0).mono ?_
  rintro e w1 ⟨rfl, h1⟩
  go_wp2_with fail
  go_ret
  exact ⟨rfl, (Hfin.out.nx ((Ch.refl _ _).alloc _)).trans h1⟩
set_option maxHeartbeats 2000000 in
theorem take_4_9 (h : UpB w g u (.slice A n c)) (ver born id now : Int) (h5 : u.sAt = 4) (h13 : u.asked = true) :
    Calls Try.prog 14 #[.pointer (some ⟨g, 0, none⟩), replyV 9 rv ver born id lv more, .int .i64 now] w (Took w g (({ u with asked := false } : Up).end_ 2 0) (.slice A n c)) := by
  have d5 : w.cell? ⟨g, 5, none⟩ = some (.int .i64 u.sAt) := h.cell_ 5
  have d13 : w.cell? ⟨g, 13, none⟩ = some (.bool u.asked) := h.cell_ 13
  have hf := h.frozen
  have hlt := h.lt
  rw [h5] at d5
  rw [h13] at d13
  have Hfin := Lib.hid ((UpTo.refl h).setAsked false)
  clear h h13 h5
  unfold replyV
  go_enter Try.func14, Try.ntmps14
  go_wp2_with fail
  refine (up_end (Hfin.out.nx ((Ch.refl _ _).alloc _)).1 2 0).mono ?_
  rintro e w1 ⟨rfl, h1⟩
  go_wp2_with fail
  go_ret
  exact ⟨rfl, (Hfin.out.nx ((Ch.refl _ _).alloc _)).trans h1⟩
set_option maxHeartbeats 2000000 in
theorem take_4_x (h : UpB w g u (.slice A n c)) (ver born id now : Int) (err : Int) (hx : err ≠ 10 ∧ err ≠ 9) (h5 : u.sAt = 4) (h13 : u.asked = true) :
    Calls Try.prog 14 #[.pointer (some ⟨g, 0, none⟩), replyV err rv ver born id lv more, .int .i64 now] w (Took w g (({ u with asked := false } : Up).end_ 2 0) (.slice A n c)) := by
  have d5 : w.cell? ⟨g, 5, none⟩ = some (.int .i64 u.sAt) := h.cell_ 5
  have d13 : w.cell? ⟨g, 13, none⟩ = some (.bool u.asked) := h.cell_ 13
  have hf := h.frozen
  have hlt := h.lt
  rw [h5] at d5
  rw [h13] at d13
  have Hfin := Lib.hid ((UpTo.refl h).setAsked false)
  have q10 : (err == 10) = false := by rw [beq_eq_false_iff_ne]; exact hx.1
  have q9 : (err == 9) = false := by rw [beq_eq_false_iff_ne]; omega
  clear h h13 h5 hx
  unfold replyV
  go_enter Try.func14, Try.ntmps14
  go_wp2_with fail
  refine (up_end (Hfin.out.nx ((Ch.refl _ _).alloc _)).1 2 0).mono ?_
  rintro e w1 ⟨rfl, h1⟩
  go_wp2_with fail
  go_ret
  exact ⟨rfl, (Hfin.out.nx ((Ch.refl _ _).alloc _)).trans h1⟩
set_option maxHeartbeats 2000000 in
theorem take_2_10 (h : UpB w g u (.slice A n c)) (ver born id now : Int) (f : Nat) (hf8 : f < 8) (hfe : u.fails = (f : Int)) (hw0 : 0 ≤ u.wait) (hw : u.wait ≤ 1099511627776) (hn0 : 0 ≤ now) (hn : now ≤ 1000000000000000) (h5 : u.sAt = 2) (h13 : u.asked = true) :
    Calls Try.prog 14 #[.pointer (some ⟨g, 0, none⟩), replyV 10 rv ver born id lv more, .int .i64 now] w (Took w g (({ u with asked := false, sFrom := 2 } : Up).fail 3 now) (.slice A n c)) := by
  have d5 : w.cell? ⟨g, 5, none⟩ = some (.int .i64 u.sAt) := h.cell_ 5
  have d13 : w.cell? ⟨g, 13, none⟩ = some (.bool u.asked) := h.cell_ 13
  have d8 : w.cell? ⟨g, 8, none⟩ = some (.int .i64 u.sFrom) := h.cell_ 8
  have hf := h.frozen
  have hlt := h.lt
  rw [h5] at d5
  rw [h13] at d13
  have Hfin := Lib.hid ((UpTo.refl h).setAsked false)
  have Hfe := Lib.hid hfe
  have Hcall := Lib.hid (fun W (hb : UpB W g { u with asked := false, sFrom := 2 } (.slice A n c)) => up_fail hb 3 now f hf8 Hfe.out hw0 hw hn0 hn)
  clear h h13 h5 hfe
  unfold replyV
  go_enter Try.func14, Try.ntmps14
  go_wp2_with fail
  refine (Hcall.out _ ((Hfin.out.setFrom 2).nx ((Ch.refl _ _).alloc _)).1).mono ?_
  rintro e w1 ⟨rfl, h1⟩
  go_wp2_with fail
  go_ret
  exact ⟨rfl, ((Hfin.out.setFrom 2).nx ((Ch.refl _ _).alloc _)).trans h1⟩
set_option maxHeartbeats 2000000 in
theorem take_2_7 (h : UpB w g u (.slice A n c)) (ver born id now : Int) (f : Nat) (hf8 : f < 8) (hfe : u.fails = (f : Int)) (hw0 : 0 ≤ u.wait) (hw : u.wait ≤ 1099511627776) (hn0 : 0 ≤ now) (hn : now ≤ 1000000000000000) (h5 : u.sAt = 2) (h13 : u.asked = true) :
    Calls Try.prog 14 #[.pointer (some ⟨g, 0, none⟩), replyV 7 rv ver born id lv more, .int .i64 now] w (Took w g (({ u with asked := false, sFrom := 4, id := 0 } : Up).fail 3 now) (.slice A n c)) := by
  have d5 : w.cell? ⟨g, 5, none⟩ = some (.int .i64 u.sAt) := h.cell_ 5
  have d13 : w.cell? ⟨g, 13, none⟩ = some (.bool u.asked) := h.cell_ 13
  have d8 : w.cell? ⟨g, 8, none⟩ = some (.int .i64 u.sFrom) := h.cell_ 8
  have d7 : w.cell? ⟨g, 7, none⟩ = some (.int .i64 u.id) := h.cell_ 7
  have hf := h.frozen
  have hlt := h.lt
  rw [h5] at d5
  rw [h13] at d13
  have Hfin := Lib.hid ((UpTo.refl h).setAsked false)
  have Hfe := Lib.hid hfe
  have Hcall := Lib.hid (fun W (hb : UpB W g { u with asked := false, sFrom := 4, id := 0 } (.slice A n c)) => up_fail hb 3 now f hf8 Hfe.out hw0 hw hn0 hn)
  clear h h13 h5 hfe
  unfold replyV
  go_enter Try.func14, Try.ntmps14
  go_wp2_with fail
  refine (Hcall.out _ ((((Hfin.out.setFrom 2).setFrom 4).setId 0).nx ((Ch.refl _ _).alloc _)).1).mono ?_
  rintro e w1 ⟨rfl, h1⟩
  go_wp2_with fail
  go_ret
  exact ⟨rfl, ((((Hfin.out.setFrom 2).setFrom 4).setId 0).nx ((Ch.refl _ _).alloc _)).trans h1⟩
set_option maxHeartbeats 2000000 in
theorem take_2_9 (h : UpB w g u (.slice A n c)) (ver born id now : Int) (f : Nat) (hf8 : f < 8) (hfe : u.fails = (f : Int)) (hw0 : 0 ≤ u.wait) (hw : u.wait ≤ 1099511627776) (hn0 : 0 ≤ now) (hn : now ≤ 1000000000000000) (h5 : u.sAt = 2) (h13 : u.asked = true) :
    Calls Try.prog 14 #[.pointer (some ⟨g, 0, none⟩), replyV 9 rv ver born id lv more, .int .i64 now] w (Took w g (({ u with asked := false } : Up).fail 2 now) (.slice A n c)) := by
  have d5 : w.cell? ⟨g, 5, none⟩ = some (.int .i64 u.sAt) := h.cell_ 5
  have d13 : w.cell? ⟨g, 13, none⟩ = some (.bool u.asked) := h.cell_ 13
  have hf := h.frozen
  have hlt := h.lt
  rw [h5] at d5
  rw [h13] at d13
  have Hfin := Lib.hid ((UpTo.refl h).setAsked false)
  have Hfe := Lib.hid hfe
  have Hcall := Lib.hid (fun W (hb : UpB W g { u with asked := false } (.slice A n c)) => up_fail hb 2 now f hf8 Hfe.out hw0 hw hn0 hn)
  clear h h13 h5 hfe
  unfold replyV
  go_enter Try.func14, Try.ntmps14
  go_wp2_with fail
  refine (Hcall.out _ (Hfin.out.nx ((Ch.refl _ _).alloc _)).1).mono ?_
  rintro e w1 ⟨rfl, h1⟩
  go_wp2_with fail
  go_ret
  exact ⟨rfl, (Hfin.out.nx ((Ch.refl _ _).alloc _)).trans h1⟩
set_option maxHeartbeats 2000000 in
theorem take_2_0 (h : UpB w g u (.slice A n c)) (ver born id now : Int) (h5 : u.sAt = 2) (h13 : u.asked = true) :
    Calls Try.prog 14 #[.pointer (some ⟨g, 0, none⟩), replyV 0 rv ver born id lv more, .int .i64 now] w (Took w g (({ u with asked := false } : Up).end_ 1 born) (.slice A n c)) := by
  have d5 : w.cell? ⟨g, 5, none⟩ = some (.int .i64 u.sAt) := h.cell_ 5
  have d13 : w.cell? ⟨g, 13, none⟩ = some (.bool u.asked) := h.cell_ 13
  have hf := h.frozen
  have hlt := h.lt
  rw [h5] at d5
  rw [h13] at d13
  have Hfin := Lib.hid ((UpTo.refl h).setAsked false)
  clear h h13 h5
  unfold replyV
  go_enter Try.func14, Try.ntmps14
  go_wp2_with fail
  go_quiet (fail)
  go_wp2_with fail
  refine (up_end ((Hfin.out.nx ((Ch.refl _ _).alloc _)).drewN _).1 1 born).mono ?_
  rintro e w1 ⟨rfl, h1⟩
  go_wp2_with fail
  go_ret
  exact ⟨rfl, ((Hfin.out.nx ((Ch.refl _ _).alloc _)).drewN _).trans h1⟩
set_option maxHeartbeats 2000000 in
theorem take_2_x (h : UpB w g u (.slice A n c)) (ver born id now : Int) (err : Int) (hx : err ≠ 10 ∧ err ≠ 9 ∧ err ≠ 7 ∧ err ≠ 0) (h5 : u.sAt = 2) (h13 : u.asked = true) :
    Calls Try.prog 14 #[.pointer (some ⟨g, 0, none⟩), replyV err rv ver born id lv more, .int .i64 now] w (Took w g ({ u with asked := false } : Up).giveUp (.slice A n c)) := by
  have d5 : w.cell? ⟨g, 5, none⟩ = some (.int .i64 u.sAt) := h.cell_ 5
  have d13 : w.cell? ⟨g, 13, none⟩ = some (.bool u.asked) := h.cell_ 13
  have hf := h.frozen
  have hlt := h.lt
  rw [h5] at d5
  rw [h13] at d13
  have Hfin := Lib.hid ((UpTo.refl h).setAsked false)
  have q10 : (err == 10) = false := by rw [beq_eq_false_iff_ne]; exact hx.1
  have q9 : (err == 9) = false := by rw [beq_eq_false_iff_ne]; omega
  have q7 : (err == 7) = false := by rw [beq_eq_false_iff_ne]; omega
  have q0 : (err == 0) = false := by rw [beq_eq_false_iff_ne]; omega
  have q0n : (err != 0) = true := by rw [bne_iff_ne]; omega
  clear h h13 h5 hx
  unfold replyV
  go_enter Try.func14, Try.ntmps14
  go_wp2_with fail
  refine (up_giveUp (Hfin.out.nx ((Ch.refl _ _).alloc _)).1).mono ?_
  rintro e w1 ⟨rfl, h1⟩
  go_wp2_with fail
  go_ret
  exact ⟨rfl, (Hfin.out.nx ((Ch.refl _ _).alloc _)).trans h1⟩
set_option maxHeartbeats 2000000 in
theorem take_3_10 (h : UpB w g u (.slice A n c)) (ver born id now : Int) (f : Nat) (hf8 : f < 8) (hfe : u.fails = (f : Int)) (hw0 : 0 ≤ u.wait) (hw : u.wait ≤ 1099511627776) (hn0 : 0 ≤ now) (hn : now ≤ 1000000000000000) (h5 : u.sAt = 3) (h13 : u.asked = true) :
    Calls Try.prog 14 #[.pointer (some ⟨g, 0, none⟩), replyV 10 rv ver born id lv more, .int .i64 now] w (Took w g (({ u with asked := false } : Up).fail 3 now) (.slice A n c)) := by
  have d5 : w.cell? ⟨g, 5, none⟩ = some (.int .i64 u.sAt) := h.cell_ 5
  have d13 : w.cell? ⟨g, 13, none⟩ = some (.bool u.asked) := h.cell_ 13
  have hf := h.frozen
  have hlt := h.lt
  rw [h5] at d5
  rw [h13] at d13
  have Hfin := Lib.hid ((UpTo.refl h).setAsked false)
  have Hfe := Lib.hid hfe
  have Hcall := Lib.hid (fun W (hb : UpB W g { u with asked := false } (.slice A n c)) => up_fail hb 3 now f hf8 Hfe.out hw0 hw hn0 hn)
  clear h h13 h5 hfe
  unfold replyV
  go_enter Try.func14, Try.ntmps14
  go_wp2_with fail
  refine (Hcall.out _ (Hfin.out.nx ((Ch.refl _ _).alloc _)).1).mono ?_
  rintro e w1 ⟨rfl, h1⟩
  go_wp2_with fail
  go_ret
  exact ⟨rfl, (Hfin.out.nx ((Ch.refl _ _).alloc _)).trans h1⟩
set_option maxHeartbeats 2000000 in
theorem take_3_9 (h : UpB w g u (.slice A n c)) (ver born id now : Int) (f : Nat) (hf8 : f < 8) (hfe : u.fails = (f : Int)) (hw0 : 0 ≤ u.wait) (hw : u.wait ≤ 1099511627776) (hn0 : 0 ≤ now) (hn : now ≤ 1000000000000000) (h5 : u.sAt = 3) (h13 : u.asked = true) :
    Calls Try.prog 14 #[.pointer (some ⟨g, 0, none⟩), replyV 9 rv ver born id lv more, .int .i64 now] w (Took w g (({ u with asked := false } : Up).fail 3 now) (.slice A n c)) := by
  have d5 : w.cell? ⟨g, 5, none⟩ = some (.int .i64 u.sAt) := h.cell_ 5
  have d13 : w.cell? ⟨g, 13, none⟩ = some (.bool u.asked) := h.cell_ 13
  have hf := h.frozen
  have hlt := h.lt
  rw [h5] at d5
  rw [h13] at d13
  have Hfin := Lib.hid ((UpTo.refl h).setAsked false)
  have Hfe := Lib.hid hfe
  have Hcall := Lib.hid (fun W (hb : UpB W g { u with asked := false } (.slice A n c)) => up_fail hb 3 now f hf8 Hfe.out hw0 hw hn0 hn)
  clear h h13 h5 hfe
  unfold replyV
  go_enter Try.func14, Try.ntmps14
  go_wp2_with fail
  refine (Hcall.out _ (Hfin.out.nx ((Ch.refl _ _).alloc _)).1).mono ?_
  rintro e w1 ⟨rfl, h1⟩
  go_wp2_with fail
  go_ret
  exact ⟨rfl, (Hfin.out.nx ((Ch.refl _ _).alloc _)).trans h1⟩
set_option maxHeartbeats 2000000 in
theorem take_3_7_a (h : UpB w g u (.slice A n c)) (ver born id now : Int) (h8 : u.sFrom = 4) (h5 : u.sAt = 3) (h13 : u.asked = true) :
    Calls Try.prog 14 #[.pointer (some ⟨g, 0, none⟩), replyV 7 rv ver born id lv more, .int .i64 now] w (Took w g ({ u with asked := false } : Up).giveUp (.slice A n c)) := by
  have d5 : w.cell? ⟨g, 5, none⟩ = some (.int .i64 u.sAt) := h.cell_ 5
  have d13 : w.cell? ⟨g, 13, none⟩ = some (.bool u.asked) := h.cell_ 13
  have d8 : w.cell? ⟨g, 8, none⟩ = some (.int .i64 u.sFrom) := h.cell_ 8
  have hf := h.frozen
  have hlt := h.lt
  rw [h5] at d5
  rw [h13] at d13
  have Hfin := Lib.hid ((UpTo.refl h).setAsked false)
  rw [h8] at d8
  clear h h13 h5 h8
  unfold replyV
  go_enter Try.func14, Try.ntmps14
  go_wp2_with fail
  refine (up_giveUp (Hfin.out.nx ((Ch.refl _ _).alloc _)).1).mono ?_
  rintro e w1 ⟨rfl, h1⟩
  go_wp2_with fail
  go_ret
  exact ⟨rfl, (Hfin.out.nx ((Ch.refl _ _).alloc _)).trans h1⟩
set_option maxHeartbeats 2000000 in
theorem take_3_7_b (h : UpB w g u (.slice A n c)) (ver born id now : Int) (h8 : u.sFrom ≠ 4) (h5 : u.sAt = 3) (h13 : u.asked = true) :
    Calls Try.prog 14 #[.pointer (some ⟨g, 0, none⟩), replyV 7 rv ver born id lv more, .int .i64 now] w (Took w g { u with asked := false, sAt := 2 } (.slice A n c)) := by
  have d5 : w.cell? ⟨g, 5, none⟩ = some (.int .i64 u.sAt) := h.cell_ 5
  have d13 : w.cell? ⟨g, 13, none⟩ = some (.bool u.asked) := h.cell_ 13
  have d8 : w.cell? ⟨g, 8, none⟩ = some (.int .i64 u.sFrom) := h.cell_ 8
  have hf := h.frozen
  have hlt := h.lt
  rw [h5] at d5
  rw [h13] at d13
  have Hfin := Lib.hid ((UpTo.refl h).setAsked false)
  have q4 : (u.sFrom == 4) = false := by rw [beq_eq_false_iff_ne]; exact h8
  clear h h13 h5 h8
  unfold replyV
  go_enter Try.func14, Try.ntmps14
  go_wp2_with fail
  go_ret
  exact ⟨rfl, (Hfin.out.setAt 2).nx ((Ch.refl _ _).alloc _)⟩
set_option maxHeartbeats 2000000 in
theorem take_3_0 (h : UpB w g u (.slice A n c)) (ver born id now : Int) {D D2 : Nat → Prop} {B : Option Addr} {m d : Nat} {xs ys : List Nat} (hr : Rd w D 1 A n (bl xs)) (hr2 : Rd w D2 1 B m (bl ys)) (okx : okB xs) (oky : okB ys) (hDg : ¬ D g) (hD2g : ¬ D2 g) (h5 : u.sAt = 3) (h13 : u.asked = true) :
    Calls Try.prog 14 #[.pointer (some ⟨g, 0, none⟩), replyV 0 (.slice B m d) ver born id lv more, .int .i64 now] w (Took w g (if ys = xs then ({ u with asked := false } : Up).end_ 1 born else ({ u with asked := false } : Up).giveUp) (.slice A n c)) := by
  have d5 : w.cell? ⟨g, 5, none⟩ = some (.int .i64 u.sAt) := h.cell_ 5
  have d13 : w.cell? ⟨g, 13, none⟩ = some (.bool u.asked) := h.cell_ 13
  have d1 : w.cell? ⟨g, 1, none⟩ = some (.slice A n c) := h.cell_ 1
  have hf := h.frozen
  have hlt := h.lt
  rw [h5] at d5
  rw [h13] at d13
  have Hfin := Lib.hid ((UpTo.refl h).setAsked false)
  have hcr : ∀ {A7 m7} {zs : List Nat} {D7 : Nat → Prop}, ¬ D7 g → Rd w D7 1 A7 m7 (bl zs) → Rd ((w.setCell ⟨g, 13, none⟩ (.bool false)).alloc (.cells #[.int .i64 0, .slice B m d, .int .i64 ver, .int .i64 born, .int .i64 id, lv, .bool more] 37)) D7 1 A7 m7 (bl zs) := fun hd hh => hh.ch (by decide) (Hfin.out.nx ((Ch.refl _ _).alloc _)).2 fun j _ hj e => hd (e ▸ hj)
  have hq := fun k => equal_any D2 D B A m d n c ys xs (((w.setCell ⟨g, 13, none⟩ (.bool false)).alloc (.cells #[.int .i64 0, .slice B m d, .int .i64 ver, .int .i64 born, .int .i64 id, lv, .bool more] 37)).drewN k) (hcr hD2g hr2) (hcr hDg hr) oky okx
  clear h h13 h5 hcr hr hr2 okx oky
  unfold replyV
  by_cases hxy : ys = xs
  · rw [if_pos hxy]
    rw [decide_eq_true hxy] at hq
    have Hq := Lib.hid hq
    clear hq hxy
    go_enter Try.func14, Try.ntmps14
    go_wp2_with fail
    go_quiet ((first | (go_at_call 35; exact quiet_left (Hq.out _))))
    go_wp2_with fail
    refine (up_end ((Hfin.out.nx ((Ch.refl _ _).alloc _)).drewN _).1 1 born).mono ?_
    rintro e w1 ⟨rfl, h1⟩
    go_wp2_with fail
    go_ret
    exact ⟨rfl, ((Hfin.out.nx ((Ch.refl _ _).alloc _)).drewN _).trans h1⟩
  · rw [if_neg hxy]
    rw [decide_eq_false hxy] at hq
    have Hq := Lib.hid hq
    clear hq hxy
    go_enter Try.func14, Try.ntmps14
    go_wp2_with fail
    go_quiet ((first | (go_at_call 35; exact quiet_left (Hq.out _))))
    go_wp2_with fail
    refine (up_giveUp ((Hfin.out.nx ((Ch.refl _ _).alloc _)).drewN _).1).mono ?_
    rintro e w1 ⟨rfl, h1⟩
    go_wp2_with fail
    go_ret
    exact ⟨rfl, ((Hfin.out.nx ((Ch.refl _ _).alloc _)).drewN _).trans h1⟩
set_option maxHeartbeats 2000000 in
theorem take_3_x (h : UpB w g u (.slice A n c)) (ver born id now : Int) (err : Int) (hx : err ≠ 10 ∧ err ≠ 9 ∧ err ≠ 7 ∧ err ≠ 0) (h5 : u.sAt = 3) (h13 : u.asked = true) :
    Calls Try.prog 14 #[.pointer (some ⟨g, 0, none⟩), replyV err rv ver born id lv more, .int .i64 now] w (Took w g ({ u with asked := false } : Up).giveUp (.slice A n c)) := by
  have d5 : w.cell? ⟨g, 5, none⟩ = some (.int .i64 u.sAt) := h.cell_ 5
  have d13 : w.cell? ⟨g, 13, none⟩ = some (.bool u.asked) := h.cell_ 13
  have hf := h.frozen
  have hlt := h.lt
  rw [h5] at d5
  rw [h13] at d13
  have Hfin := Lib.hid ((UpTo.refl h).setAsked false)
  have q10 : (err == 10) = false := by rw [beq_eq_false_iff_ne]; exact hx.1
  have q9 : (err == 9) = false := by rw [beq_eq_false_iff_ne]; omega
  have q7 : (err == 7) = false := by rw [beq_eq_false_iff_ne]; omega
  have q0 : (err == 0) = false := by rw [beq_eq_false_iff_ne]; omega
  have q0n : (err != 0) = true := by rw [bne_iff_ne]; omega
  clear h h13 h5 hx
  unfold replyV
  go_enter Try.func14, Try.ntmps14
  go_wp2_with fail
  refine (up_giveUp (Hfin.out.nx ((Ch.refl _ _).alloc _)).1).mono ?_
  rintro e w1 ⟨rfl, h1⟩
  go_wp2_with fail
  go_ret
  exact ⟨rfl, (Hfin.out.nx ((Ch.refl _ _).alloc _)).trans h1⟩
set_option maxHeartbeats 2000000 in
theorem take_0_10 (h : UpB w g u (.slice A n c)) (ver born id now : Int) (f : Nat) (hf8 : f < 8) (hfe : u.fails = (f : Int)) (hw0 : 0 ≤ u.wait) (hw : u.wait ≤ 1099511627776) (hn0 : 0 ≤ now) (hn : now ≤ 1000000000000000) (h5 : u.sAt = 0) (h13 : u.asked = true) :
    Calls Try.prog 14 #[.pointer (some ⟨g, 0, none⟩), replyV 10 rv ver born id lv more, .int .i64 now] w (Took w g (({ u with asked := false } : Up).fail 0 now) (.slice A n c)) := by
  have d5 : w.cell? ⟨g, 5, none⟩ = some (.int .i64 u.sAt) := h.cell_ 5
  have d13 : w.cell? ⟨g, 13, none⟩ = some (.bool u.asked) := h.cell_ 13
  have hf := h.frozen
  have hlt := h.lt
  rw [h5] at d5
  rw [h13] at d13
  have Hfin := Lib.hid ((UpTo.refl h).setAsked false)
  have Hfe := Lib.hid hfe
  have Hcall := Lib.hid (fun W (hb : UpB W g { u with asked := false } (.slice A n c)) => up_fail hb 0 now f hf8 Hfe.out hw0 hw hn0 hn)
  clear h h13 h5 hfe
  unfold replyV
  go_enter Try.func14, Try.ntmps14
  go_wp2_with fail
  refine (Hcall.out _ (Hfin.out.nx ((Ch.refl _ _).alloc _)).1).mono ?_
  rintro e w1 ⟨rfl, h1⟩
  go_wp2_with fail
  go_ret
  exact ⟨rfl, (Hfin.out.nx ((Ch.refl _ _).alloc _)).trans h1⟩
set_option maxHeartbeats 2000000 in
theorem take_0_9 (h : UpB w g u (.slice A n c)) (ver born id now : Int) (f : Nat) (hf8 : f < 8) (hfe : u.fails = (f : Int)) (hw0 : 0 ≤ u.wait) (hw : u.wait ≤ 1099511627776) (hn0 : 0 ≤ now) (hn : now ≤ 1000000000000000) (h5 : u.sAt = 0) (h13 : u.asked = true) :
    Calls Try.prog 14 #[.pointer (some ⟨g, 0, none⟩), replyV 9 rv ver born id lv more, .int .i64 now] w (Took w g (({ u with asked := false } : Up).fail 0 now) (.slice A n c)) := by
  have d5 : w.cell? ⟨g, 5, none⟩ = some (.int .i64 u.sAt) := h.cell_ 5
  have d13 : w.cell? ⟨g, 13, none⟩ = some (.bool u.asked) := h.cell_ 13
  have hf := h.frozen
  have hlt := h.lt
  rw [h5] at d5
  rw [h13] at d13
  have Hfin := Lib.hid ((UpTo.refl h).setAsked false)
  have Hfe := Lib.hid hfe
  have Hcall := Lib.hid (fun W (hb : UpB W g { u with asked := false } (.slice A n c)) => up_fail hb 0 now f hf8 Hfe.out hw0 hw hn0 hn)
  clear h h13 h5 hfe
  unfold replyV
  go_enter Try.func14, Try.ntmps14
  go_wp2_with fail
  refine (Hcall.out _ (Hfin.out.nx ((Ch.refl _ _).alloc _)).1).mono ?_
  rintro e w1 ⟨rfl, h1⟩
  go_wp2_with fail
  go_ret
  exact ⟨rfl, (Hfin.out.nx ((Ch.refl _ _).alloc _)).trans h1⟩
set_option maxHeartbeats 2000000 in
theorem take_0_0 (h : UpB w g u (.slice A n c)) (ver born id now : Int) (h5 : u.sAt = 0) (h13 : u.asked = true) :
    Calls Try.prog 14 #[.pointer (some ⟨g, 0, none⟩), replyV 0 rv ver born id lv more, .int .i64 now] w (Took w g { u with asked := false, sAt := 1, n := 1, id := id } (.slice A n c)) := by
  have d5 : w.cell? ⟨g, 5, none⟩ = some (.int .i64 u.sAt) := h.cell_ 5
  have d13 : w.cell? ⟨g, 13, none⟩ = some (.bool u.asked) := h.cell_ 13
  have d6 : w.cell? ⟨g, 6, none⟩ = some (.int .i64 u.n) := h.cell_ 6
  have d7 : w.cell? ⟨g, 7, none⟩ = some (.int .i64 u.id) := h.cell_ 7
  have hf := h.frozen
  have hlt := h.lt
  rw [h5] at d5
  rw [h13] at d13
  have Hfin := Lib.hid ((UpTo.refl h).setAsked false)
  clear h h13 h5
  unfold replyV
  go_enter Try.func14, Try.ntmps14
  go_wp2_with fail
  go_quiet (fail)
  go_wp2_with fail
  have hU1 := (Hfin.out.nx ((Ch.refl _ _).alloc (.cells #[.int .i64 0, rv, .int .i64 ver, .int .i64 born, .int .i64 id, lv, .bool more] 37))).drewN nq
  have hB1 := (Blk.new (w.setCell ⟨g, 13, none⟩ (.bool false)) 37 #[.int .i64 0, rv, .int .i64 ver, .int .i64 born, .int .i64 id, lv, .bool more]).drewN nq
  rw [World.size_setCell] at hB1
  generalize ((w.setCell ⟨g, 13, none⟩ (.bool false)).alloc (.cells #[.int .i64 0, rv, .int .i64 ver, .int .i64 born, .int .i64 id, lv, .bool more] 37)).drewN nq = W1 at *
  have r4 : W1.cell? ⟨w.heap.size, 4, none⟩ = some (.int .i64 id) := hB1.cell 4
  have r5 : W1.cell? ⟨g, 5, none⟩ = some (.int .i64 u.sAt) := hU1.1.cell_ 5
  have r6 : W1.cell? ⟨g, 6, none⟩ = some (.int .i64 u.n) := hU1.1.cell_ 6
  have r7 : W1.cell? ⟨g, 7, none⟩ = some (.int .i64 u.id) := hU1.1.cell_ 7
  have f1 := hU1.1.frozen
  have HU := Lib.hid hU1
  clear hU1 hB1 d5 d13 d6 d7 hf Hfin
  have hne : ¬ w.heap.size = g := by omega
  have hne2 : ¬ g = w.heap.size := by omega
  go_region_held3 (fun w' => w'.cell? ⟨w.heap.size, 4, none⟩ = some (.int .i64 id)) (go_keep) (fail)
  all_goals
    go_wp2_with fail
    go_ret
    exact ⟨rfl, (((HU.out.nx ((Ch.refl _ _).drew)).setAt 1).setN 1).setId id⟩
set_option maxHeartbeats 2000000 in
theorem take_0_x (h : UpB w g u (.slice A n c)) (ver born id now : Int) (err : Int) (hx : err ≠ 10 ∧ err ≠ 9 ∧ err ≠ 0) (h5 : u.sAt = 0) (h13 : u.asked = true) :
    Calls Try.prog 14 #[.pointer (some ⟨g, 0, none⟩), replyV err rv ver born id lv more, .int .i64 now] w (Took w g ({ u with asked := false } : Up).giveUp (.slice A n c)) := by
  have d5 : w.cell? ⟨g, 5, none⟩ = some (.int .i64 u.sAt) := h.cell_ 5
  have d13 : w.cell? ⟨g, 13, none⟩ = some (.bool u.asked) := h.cell_ 13
  have hf := h.frozen
  have hlt := h.lt
  rw [h5] at d5
  rw [h13] at d13
  have Hfin := Lib.hid ((UpTo.refl h).setAsked false)
  have q10 : (err == 10) = false := by rw [beq_eq_false_iff_ne]; exact hx.1
  have q9 : (err == 9) = false := by rw [beq_eq_false_iff_ne]; omega
  have q0 : (err == 0) = false := by rw [beq_eq_false_iff_ne]; omega
  have q0n : (err != 0) = true := by rw [bne_iff_ne]; omega
  clear h h13 h5 hx
  unfold replyV
  go_enter Try.func14, Try.ntmps14
  go_wp2_with fail
  refine (up_giveUp (Hfin.out.nx ((Ch.refl _ _).alloc _)).1).mono ?_
  rintro e w1 ⟨rfl, h1⟩
  go_wp2_with fail
  go_ret
  exact ⟨rfl, (Hfin.out.nx ((Ch.refl _ _).alloc _)).trans h1⟩
set_option maxHeartbeats 2000000 in
theorem take_1_10 (h : UpB w g u (.slice A n c)) (ver born id now : Int) (f : Nat) (hf8 : f < 8) (hfe : u.fails = (f : Int)) (hw0 : 0 ≤ u.wait) (hw : u.wait ≤ 1099511627776) (hn0 : 0 ≤ now) (hn : now ≤ 1000000000000000) (h5 : u.sAt = 1) (h13 : u.asked = true) :
    Calls Try.prog 14 #[.pointer (some ⟨g, 0, none⟩), replyV 10 rv ver born id lv more, .int .i64 now] w (Took w g (({ u with asked := false } : Up).fail 1 now) (.slice A n c)) := by
  have d5 : w.cell? ⟨g, 5, none⟩ = some (.int .i64 u.sAt) := h.cell_ 5
  have d13 : w.cell? ⟨g, 13, none⟩ = some (.bool u.asked) := h.cell_ 13
  have hf := h.frozen
  have hlt := h.lt
  rw [h5] at d5
  rw [h13] at d13
  have Hfin := Lib.hid ((UpTo.refl h).setAsked false)
  have Hfe := Lib.hid hfe
  have Hcall := Lib.hid (fun W (hb : UpB W g { u with asked := false } (.slice A n c)) => up_fail hb 1 now f hf8 Hfe.out hw0 hw hn0 hn)
  clear h h13 h5 hfe
  unfold replyV
  go_enter Try.func14, Try.ntmps14
  go_wp2_with fail
  refine (Hcall.out _ (Hfin.out.nx ((Ch.refl _ _).alloc _)).1).mono ?_
  rintro e w1 ⟨rfl, h1⟩
  go_wp2_with fail
  go_ret
  exact ⟨rfl, (Hfin.out.nx ((Ch.refl _ _).alloc _)).trans h1⟩
set_option maxHeartbeats 2000000 in
theorem take_1_9 (h : UpB w g u (.slice A n c)) (ver born id now : Int) (f : Nat) (hf8 : f < 8) (hfe : u.fails = (f : Int)) (hw0 : 0 ≤ u.wait) (hw : u.wait ≤ 1099511627776) (hn0 : 0 ≤ now) (hn : now ≤ 1000000000000000) (h5 : u.sAt = 1) (h13 : u.asked = true) :
    Calls Try.prog 14 #[.pointer (some ⟨g, 0, none⟩), replyV 9 rv ver born id lv more, .int .i64 now] w (Took w g (({ u with asked := false } : Up).fail 1 now) (.slice A n c)) := by
  have d5 : w.cell? ⟨g, 5, none⟩ = some (.int .i64 u.sAt) := h.cell_ 5
  have d13 : w.cell? ⟨g, 13, none⟩ = some (.bool u.asked) := h.cell_ 13
  have hf := h.frozen
  have hlt := h.lt
  rw [h5] at d5
  rw [h13] at d13
  have Hfin := Lib.hid ((UpTo.refl h).setAsked false)
  have Hfe := Lib.hid hfe
  have Hcall := Lib.hid (fun W (hb : UpB W g { u with asked := false } (.slice A n c)) => up_fail hb 1 now f hf8 Hfe.out hw0 hw hn0 hn)
  clear h h13 h5 hfe
  unfold replyV
  go_enter Try.func14, Try.ntmps14
  go_wp2_with fail
  refine (Hcall.out _ (Hfin.out.nx ((Ch.refl _ _).alloc _)).1).mono ?_
  rintro e w1 ⟨rfl, h1⟩
  go_wp2_with fail
  go_ret
  exact ⟨rfl, (Hfin.out.nx ((Ch.refl _ _).alloc _)).trans h1⟩
set_option maxHeartbeats 2000000 in
theorem take_1_0 (h : UpB w g u (.slice A n c)) (ver born id now : Int) (h1 : 1 ≤ u.size) (h2 : u.size ≤ 1000000) (hn : n ≤ 1000000) (hk0 : 0 ≤ u.n) (hk : u.n ≤ 1000) (h5 : u.sAt = 1) (h13 : u.asked = true) :
    Calls Try.prog 14 #[.pointer (some ⟨g, 0, none⟩), replyV 0 rv ver born id lv more, .int .i64 now] w (Took w g (if partsF n u.size < u.n + 1 then { u with asked := false, n := u.n + 1, sAt := 2 } else { u with asked := false, n := u.n + 1 }) (.slice A n c)) := by
  have d5 : w.cell? ⟨g, 5, none⟩ = some (.int .i64 u.sAt) := h.cell_ 5
  have d13 : w.cell? ⟨g, 13, none⟩ = some (.bool u.asked) := h.cell_ 13
  have d6 : w.cell? ⟨g, 6, none⟩ = some (.int .i64 u.n) := h.cell_ 6
  have hf := h.frozen
  have hlt := h.lt
  rw [h5] at d5
  rw [h13] at d13
  have Hfin := Lib.hid ((UpTo.refl h).setAsked false)
  have Hp := Lib.hid (fun W (hb : UpB W g { u with asked := false, n := u.n + 1 } (.slice A n c)) => up_parts hb h1 h2 hn)
  have kn : IntKind.i64.wrap (u.n + 1) = u.n + 1 := IntWalk.i64_in _ (by omega)
  clear h h13 h5
  unfold replyV
  clear h1 h2 hn hk0 hk
  generalize partsF n u.size = P at *
  by_cases hP : P < u.n + 1
  · rw [if_pos hP]
    go_enter Try.func14, Try.ntmps14
    go_wp2_with fail
    go_quiet (fail)
    go_wp2_with fail
    have hU1 := ((Hfin.out.nx ((Ch.refl _ _).alloc (.cells #[.int .i64 0, rv, .int .i64 ver, .int .i64 born, .int .i64 id, lv, .bool more] 37))).drewN nq).setN (u.n + 1)
    generalize (((w.setCell ⟨g, 13, none⟩ (.bool false)).alloc (.cells #[.int .i64 0, rv, .int .i64 ver, .int .i64 born, .int .i64 id, lv, .bool more] 37)).drewN nq).setCell ⟨g, 6, none⟩ (.int .i64 (u.n + 1)) = W1 at *
    have r6 : W1.cell? ⟨g, 6, none⟩ = some (.int .i64 (u.n + 1)) := hU1.1.cell_ 6
    have r5 : W1.cell? ⟨g, 5, none⟩ = some (.int .i64 u.sAt) := hU1.1.cell_ 5
    have f1 := hU1.1.frozen
    have HU := Lib.hid hU1
    clear hU1 d5 d13 d6 hf Hfin
    go_region_held3 (fun w' => w'.cell? ⟨g, 6, none⟩ = some (.int .i64 (u.n + 1))) (go_keep) ((first | (go_at_call 31; refine (Hp.out _ HU.out.1.drew).mono ?_; rintro e w1 ⟨rfl, k1, rfl⟩)))
    all_goals
      go_wp2_with fail
      go_ret
      exact ⟨rfl, (HU.out.nx ((Ch.refl _ _).drewN _)).setAt 2⟩
  · rw [if_neg hP]
    go_enter Try.func14, Try.ntmps14
    go_wp2_with fail
    go_quiet (fail)
    go_wp2_with fail
    have hU1 := ((Hfin.out.nx ((Ch.refl _ _).alloc (.cells #[.int .i64 0, rv, .int .i64 ver, .int .i64 born, .int .i64 id, lv, .bool more] 37))).drewN nq).setN (u.n + 1)
    generalize (((w.setCell ⟨g, 13, none⟩ (.bool false)).alloc (.cells #[.int .i64 0, rv, .int .i64 ver, .int .i64 born, .int .i64 id, lv, .bool more] 37)).drewN nq).setCell ⟨g, 6, none⟩ (.int .i64 (u.n + 1)) = W1 at *
    have r6 : W1.cell? ⟨g, 6, none⟩ = some (.int .i64 (u.n + 1)) := hU1.1.cell_ 6
    have r5 : W1.cell? ⟨g, 5, none⟩ = some (.int .i64 u.sAt) := hU1.1.cell_ 5
    have f1 := hU1.1.frozen
    have HU := Lib.hid hU1
    clear hU1 d5 d13 d6 hf Hfin
    go_region_held3 (fun w' => w'.cell? ⟨g, 6, none⟩ = some (.int .i64 (u.n + 1))) (go_keep) ((first | (go_at_call 31; refine (Hp.out _ HU.out.1.drew).mono ?_; rintro e w1 ⟨rfl, k1, rfl⟩)))
    all_goals
      go_wp2_with fail
      go_ret
      exact ⟨rfl, (HU.out.nx ((Ch.refl _ _).drewN _))⟩
set_option maxHeartbeats 2000000 in
theorem take_1_x (h : UpB w g u (.slice A n c)) (ver born id now : Int) (err : Int) (hx : err ≠ 10 ∧ err ≠ 9 ∧ err ≠ 0) (h5 : u.sAt = 1) (h13 : u.asked = true) :
    Calls Try.prog 14 #[.pointer (some ⟨g, 0, none⟩), replyV err rv ver born id lv more, .int .i64 now] w (Took w g ({ u with asked := false } : Up).giveUp (.slice A n c)) := by
  have d5 : w.cell? ⟨g, 5, none⟩ = some (.int .i64 u.sAt) := h.cell_ 5
  have d13 : w.cell? ⟨g, 13, none⟩ = some (.bool u.asked) := h.cell_ 13
  have hf := h.frozen
  have hlt := h.lt
  rw [h5] at d5
  rw [h13] at d13
  have Hfin := Lib.hid ((UpTo.refl h).setAsked false)
  have q10 : (err == 10) = false := by rw [beq_eq_false_iff_ne]; exact hx.1
  have q9 : (err == 9) = false := by rw [beq_eq_false_iff_ne]; omega
  have q0 : (err == 0) = false := by rw [beq_eq_false_iff_ne]; omega
  have q0n : (err != 0) = true := by rw [bne_iff_ne]; omega
  clear h h13 h5 hx
  unfold replyV
  go_enter Try.func14, Try.ntmps14
  go_wp2_with fail
  refine (up_giveUp (Hfin.out.nx ((Ch.refl _ _).alloc _)).1).mono ?_
  rintro e w1 ⟨rfl, h1⟩
  go_wp2_with fail
  go_ret
  exact ⟨rfl, (Hfin.out.nx ((Ch.refl _ _).alloc _)).trans h1⟩
end
end Go.Proofs.Ytfepigiapageeaa
