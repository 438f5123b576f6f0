/- The contracts of upload.Upload's parts and of Next where it sends a part, completes, looks, aborts. Conditions: numbers within bounds. -/
import Derived.Test.YtfepigiapageeaaUpC
import Derived.Test.YtfepigiapageeaaSet
import Derived.Deep.RegionHeld3
namespace Go.Proofs.Ytfepigiapageeaa
set_option maxRecDepth 100000
open Go.RowKit
set_option linter.unusedVariables false

theorem UpTo.far {a b c : World} {g B : Nat} {u : Up} {dv : Value} (h : UpTo a g u dv b) (k : Ch (fun k => k = B) b c) (hB : a.heap.size ≤ B) (hne : ¬ g = B) : UpTo a g u dv c :=
  ⟨h.1.ch k (fun e => hne e), h.2.trans k fun i hi e => by omega⟩
theorem call_blk (w : World) (g : Nat) : Blk ((w.setCell ⟨g, 13, none⟩ (.bool true)).alloc (.cells #[.int .i64 0, .string ⟨#[]⟩, .slice none 0 0, .int .i64 0, .int .i64 0, .int .i64 0, .int .i64 0] 40)) w.heap.size 40 #[.int .i64 0, .string ⟨#[]⟩, .slice none 0 0, .int .i64 0, .int .i64 0, .int .i64 0, .int .i64 0] := by
  have := Blk.new (w.setCell ⟨g, 13, none⟩ (.bool true)) 40 #[.int .i64 0, .string ⟨#[]⟩, .slice none 0 0, .int .i64 0, .int .i64 0, .int .i64 0, .int .i64 0]
  simpa using this
/-- how many parts -/
def partsF (n : Nat) (z : Int) : Int := max 1 (((n : Int) + z - 1) / z)
section
variable {w : World} {g : Nat} {u : Up} {dv : Value}
set_option maxHeartbeats 1000000 in
theorem up_parts {A : Option Addr} {n c : Nat} (h : UpB w g u (.slice A n c)) (h1 : 1 ≤ u.size) (h2 : u.size ≤ 1000000) (hn : n ≤ 1000000) :
    Calls Try.prog 31 #[.pointer (some ⟨g, 0, none⟩)] w fun e w' => e = .returned (.int .i64 (partsF n u.size)) ∧ Dr w w' := by
  have d1 : w.cell? ⟨g, 1, none⟩ = some (.slice A n c) := h.cell_ 1
  have d2 : w.cell? ⟨g, 2, none⟩ = some (.int .i64 u.size) := h.cell_ 2
  have hP : partsF n u.size = max 1 (((n : Int) + u.size - 1) / u.size) := rfl
  clear h
  generalize partsF n u.size = P at *
  generalize u.size = z at *
  have td : ((n : Int) + z - 1).tdiv z = ((n : Int) + z - 1) / z := Int.tdiv_eq_ediv_of_nonneg (by omega)
  have b0 : 0 ≤ ((n : Int) + z - 1) / z := Int.ediv_nonneg (by omega) (by omega)
  have b1 : ((n : Int) + z - 1) / z ≤ (n : Int) + z - 1 := Int.ediv_le_self _ (by omega)
  have hz : (z == 0) = false := by rw [beq_eq_false_iff_ne]; omega
  have hz2 : ¬ z = 0 := by omega
  have kw1 : IntKind.i64.wrap ((n : Int) + z) = (n : Int) + z := IntWalk.i64_in _ (by omega)
  have kw2 : IntKind.i64.wrap ((n : Int) + z - 1) = (n : Int) + z - 1 := IntWalk.i64_in _ (by omega)
  generalize ((n : Int) + z - 1) / z = q at *
  have kw3 : IntKind.i64.wrap q = q := IntWalk.i64_in _ (by omega)
  by_cases hq : q ≤ 1
  · have HP : Hid (P = 1) := Lib.hid (by rw [hP]; omega)
    clear hP
    go_enter Try.func31, Try.ntmps31
    go_wp2_with fail
    go_quiet (fail)
    go_wp2_with fail
    go_ret
    rw [HP.out]
    exact ⟨rfl, Dr.mk_ _ _⟩
  · have HP : Hid (P = q) := Lib.hid (by rw [hP]; omega)
    clear hP
    go_enter Try.func31, Try.ntmps31
    go_wp2_with fail
    go_quiet (fail)
    go_wp2_with fail
    go_ret
    rw [HP.out]
    exact ⟨rfl, Dr.mk_ _ _⟩

set_option maxHeartbeats 1000000 in
theorem next_look (h : UpB w g u dv) (now : Int) (h5 : u.sAt = 3) (h13 : u.asked = false) (h10 : u.due ≤ now) :
    Calls Try.prog 13 #[.pointer (some ⟨g, 0, none⟩), .int .i64 now] w (ACall w g u dv (callV 3 u.key (.slice none 0 0) 0 0 0 0)) := by
  have d0 : w.cell? ⟨g, 0, none⟩ = some (.string u.key) := h.cell_ 0
  have d5 : w.cell? ⟨g, 5, none⟩ = some (.int .i64 u.sAt) := h.cell_ 5
  have d10 : w.cell? ⟨g, 10, none⟩ = some (.int .i64 u.due) := h.cell_ 10
  have d13 : w.cell? ⟨g, 13, none⟩ = some (.bool u.asked) := h.cell_ 13
  have hf := h.frozen
  have hlt := h.lt
  rw [h5] at d5
  rw [h13] at d13
  have Hfin := Lib.hid ((UpTo.refl h).setAsked true)
  clear h h5 h13
  go_enter Try.func13, Try.ntmps13
  go_wp2_with fail
  exact bodyPost_ret (v := .tuple #[callV 3 u.key (.slice none 0 0) 0 0 0 0, .bool true]) (by simp [results, Try.results13, go_sem, callV]) rfl ⟨rfl, Hfin.out.nx ((Ch.refl _ _).alloc _)⟩
set_option maxHeartbeats 1000000 in
theorem next_abort (h : UpB w g u dv) (now : Int) (h5 : u.sAt = 4) (h13 : u.asked = false) (h10 : u.due ≤ now) :
    Calls Try.prog 13 #[.pointer (some ⟨g, 0, none⟩), .int .i64 now] w (ACall w g u dv (callV 10 ⟨#[]⟩ (.slice none 0 0) 0 0 0 u.id)) := by
  have d0 : w.cell? ⟨g, 7, none⟩ = some (.int .i64 u.id) := h.cell_ 7
  have d5 : w.cell? ⟨g, 5, none⟩ = some (.int .i64 u.sAt) := h.cell_ 5
  have d10 : w.cell? ⟨g, 10, none⟩ = some (.int .i64 u.due) := h.cell_ 10
  have d13 : w.cell? ⟨g, 13, none⟩ = some (.bool u.asked) := h.cell_ 13
  have hf := h.frozen
  have hlt := h.lt
  rw [h5] at d5
  rw [h13] at d13
  have Hfin := Lib.hid ((UpTo.refl h).setAsked true)
  clear h h5 h13
  go_enter Try.func13, Try.ntmps13
  go_wp2_with fail
  exact bodyPost_ret (v := .tuple #[callV 10 ⟨#[]⟩ (.slice none 0 0) 0 0 0 u.id, .bool true]) (by simp [results, Try.results13, go_sem, callV]) rfl ⟨rfl, Hfin.out.nx ((Ch.refl _ _).alloc _)⟩
set_option maxHeartbeats 1000000 in
theorem next_complete {A : Option Addr} {n c : Nat} (h : UpB w g u (.slice A n c)) (now : Int) (h5 : u.sAt = 2) (h13 : u.asked = false) (h10 : u.due ≤ now) (h1 : 1 ≤ u.size) (h2 : u.size ≤ 1000000) (hn : n ≤ 1000000) :
    Calls Try.prog 13 #[.pointer (some ⟨g, 0, none⟩), .int .i64 now] w (ACall w g u (.slice A n c) (callV 9 ⟨#[]⟩ (.slice none 0 0) 0 0 (partsF n u.size) u.id)) := by
  have d0 : w.cell? ⟨g, 7, none⟩ = some (.int .i64 u.id) := h.cell_ 7
  have d5 : w.cell? ⟨g, 5, none⟩ = some (.int .i64 u.sAt) := h.cell_ 5
  have d10 : w.cell? ⟨g, 10, none⟩ = some (.int .i64 u.due) := h.cell_ 10
  have d13 : w.cell? ⟨g, 13, none⟩ = some (.bool u.asked) := h.cell_ 13
  have hf := h.frozen
  have hlt := h.lt
  rw [h5] at d5
  rw [h13] at d13
  have hfin := (UpTo.refl h).setAsked true
  have Hp := Lib.hid (fun W (hb : UpB W g { u with asked := true } (.slice A n c)) => up_parts hb h1 h2 hn)
  have Hfin := Lib.hid hfin
  clear h h5 h13 hfin
  go_enter Try.func13, Try.ntmps13
  go_wp2_with fail
  have hU1 : UpTo w g { u with asked := true } (.slice A n c) ((w.setCell ⟨g, 13, none⟩ (.bool true)).alloc (.cells #[.int .i64 0, .string ⟨#[]⟩, .slice none 0 0, .int .i64 0, .int .i64 0, .int .i64 0, .int .i64 0] 40)) := Hfin.out.nx ((Ch.refl _ _).alloc _)
  have hB4 := call_blk w g
  have hlt2 : g < w.heap.size := hlt
  generalize (w.setCell ⟨g, 13, none⟩ (.bool true)).alloc (.cells #[.int .i64 0, .string ⟨#[]⟩, .slice none 0 0, .int .i64 0, .int .i64 0, .int .i64 0, .int .i64 0] 40) = W1 at *
  have f7 : W1.cell? ⟨g, 7, none⟩ = some (.int .i64 u.id) := hU1.1.cell_ 7
  have r0 : ∀ i : Nat, W1.cell? ⟨w.heap.size, i, none⟩ = (#[.int .i64 0, .string ⟨#[]⟩, .slice none 0 0, .int .i64 0, .int .i64 0, .int .i64 0, .int .i64 0] : Array Value)[i]? := fun i => hB4.cell i
  have r1 : ∀ i : Nat, W1.frozen? ⟨w.heap.size, i, none⟩ = false := hB4.frozen
  have HU := Lib.hid hU1
  have HB := Lib.hid hB4
  clear hU1 hB4 d0 d5 d10 d13 hf Hfin
  obtain ⟨B, hB⟩ : ∃ B, w.heap.size = B := ⟨_, rfl⟩
  have HBs := Lib.hid hB
  rw [hB] at r0 r1 hlt2 HB ⊢
  clear hB hlt
  have hne : ¬ B = g := by omega
  have hne2 : ¬ g = B := by omega
  go_region_held3 (fun w' => w'.cell? ⟨g, 7, none⟩ = some (.int .i64 u.id)) (go_keep) ((first
    | (go_at_call 31; refine (Hp.out _ HU.out.1.drew).mono ?_; rintro e w1 ⟨rfl, k1, rfl⟩)))
  all_goals
    generalize 1 + k1 = q at *
    have hb7 := set_blk7 (HB.out.drewN q) (.int .i64 9) (.string ⟨#[]⟩) (.slice none 0 0) (.int .i64 0) (.int .i64 0) (.int .i64 (partsF n u.size)) (.int .i64 u.id)
    have hc7 := set_ch7 (W1.drewN q) B (.int .i64 9) (.string ⟨#[]⟩) (.slice none 0 0) (.int .i64 0) (.int .i64 0) (.int .i64 (partsF n u.size)) (.int .i64 u.id)
    generalize ((((((((W1.drewN q).setCell ⟨B, 0, none⟩ (.int .i64 9)).setCell ⟨B, 1, none⟩ (.string ⟨#[]⟩)).setCell ⟨B, 2, none⟩ (.slice none 0 0)).setCell ⟨B, 3, none⟩ (.int .i64 0)).setCell ⟨B, 4, none⟩ (.int .i64 0)).setCell ⟨B, 5, none⟩ (.int .i64 (partsF n u.size))).setCell ⟨B, 6, none⟩ (.int .i64 u.id)) = w5 at *
    have r : ∀ i : Nat, w5.cell? ⟨B, i, none⟩ = (#[.int .i64 9, .string ⟨#[]⟩, .slice none 0 0, .int .i64 0, .int .i64 0, .int .i64 (partsF n u.size), .int .i64 u.id] : Array Value)[i]? := fun i => hb7.cell i
    have hU5 := (HU.out.drewN q).far hc7 (Nat.le_of_eq HBs.out) hne2
    go_wp2_with fail
    exact bodyPost_ret (v := .tuple #[callV 9 ⟨#[]⟩ (.slice none 0 0) 0 0 (partsF n u.size) u.id, .bool true]) (by simp [results, Try.results13, go_sem, callV, r]) rfl ⟨rfl, hU5⟩
end
end Go.Proofs.Ytfepigiapageeaa
