/- What entrepotref09.Right tells where it says yes. Conditions: none. · The contract of the law's few (layer 12). Conditions: none. -/
import Derived.Test.YtihocfdnkongkaaKrQ9
import Derived.Test.YtihocfdnkongkaaKrQyA
import Derived.Test.YtihocfdnkongkaaKrQyB
import Derived.Test.YtihocfdnkongkaaKrQyV
namespace Go.Proofs.Ytihocfdnkongkaa
set_option maxRecDepth 100000
open Go.RowKit
set_option linter.unusedVariables false
def Yes9 (x : RowE) : Prop := rightF x.labs = true ∧ 0 ≤ x.time ∧ x.time ≤ 1099511627775
/-- it tells yes only of such a row -/
def Says9 (Y : Prop) (w : World) (e : Ending) (w' : World) : Prop := ∃ b, e = .returned (.bool b) ∧ (b = true → Y) ∧ Nx w w'
set_option maxHeartbeats 16000000 in
theorem right9_any {w : World} {D : Nat → Prop} (x : RV) (hx : x.ok w D) (hf : x.row.few) :
    Calls Try.prog 6 #[.agg #[.int .i64 x.row.kind, .int .i64 x.row.time, .slice x.A x.row.labs.length x.c, .string x.row.text, .int .i64 x.row.value, .bool x.row.null]] w (Says9 (Yes9 x.row) w) := by
  have HR := Lib.hid (fun w' (c' : Nx w w') => right8_any (c := x.c) (hx.1.nx (by decide) c') rfl (by have := hf.2; omega) hf.1.1)
  have HYES : Hid (Yes9 x.row = (rightF x.row.labs = true ∧ 0 ≤ x.row.time ∧ x.row.time ≤ 1099511627775)) := Lib.hid rfl
  generalize Yes9 x.row = Y at *
  obtain ⟨⟨kind, time, labs, text, value, null, maker, seq, place⟩, A1, c1⟩ := x
  simp only at HR HYES ⊢
  clear hx hf
  have B1 := Lib.hid (Blk.new w 31 #[.int .i64 kind, .int .i64 time, .slice A1 labs.length c1, .string text, .int .i64 value, .bool null])
  have N1 := Lib.hid ((Ch.refl (fun _ => False) w).alloc (.cells #[.int .i64 kind, .int .i64 time, .slice A1 labs.length c1, .string text, .int .i64 value, .bool null] 31))
  by_cases h1 : 0 ≤ time
  · by_cases h2 : time ≤ 1099511627775
    · have HT := Lib.hid (And.intro h1 h2)
      generalize rightF labs = rb at *
      cases rb
      · go_enter Try.func6, Try.ntmps6
        go_wp2_with fail
        refine (HR.out _ N1.out).mono ?_
        rintro e w2 ⟨rfl, n2⟩
        have N2 := Lib.hid (N1.out.tr n2)
        go_wp2_with fail
        go_ret
        exact ⟨_, rfl, (fun h => by cases h), N2.out⟩
      · have HYY : Hid Y := Lib.hid (by rw [HYES.out]; exact ⟨rfl, HT.out.1, HT.out.2⟩)
        go_enter Try.func6, Try.ntmps6
        go_wp2_with fail
        refine (HR.out _ N1.out).mono ?_
        rintro e w2 ⟨rfl, n2⟩
        have N2 := Lib.hid (N1.out.tr n2)
        have b2 := B1.out.nx n2
        have q0 : w2.cell? ⟨w.heap.size, 0, none⟩ = some (.int .i64 kind) := b2.cell 0
        have q3 : w2.cell? ⟨w.heap.size, 3, none⟩ = some (.string text) := b2.cell 3
        have q4 : w2.cell? ⟨w.heap.size, 4, none⟩ = some (.int .i64 value) := b2.cell 4
        have q5 : w2.cell? ⟨w.heap.size, 5, none⟩ = some (.bool null) := b2.cell 5
        clear n2 b2 h1 h2
        cases null
        all_goals
          go_wp2_with fail
          all_goals
            first
            | (go_ret; exact ⟨_, rfl, fun _ => HYY.out, N2.out⟩)
    · go_enter Try.func6, Try.ntmps6
      go_wp2_with fail
      go_ret
      exact ⟨_, rfl, (fun h => by cases h), N1.out⟩
  · go_enter Try.func6, Try.ntmps6
    go_wp2_with fail
    go_ret
    exact ⟨_, rfl, (fun h => by cases h), N1.out⟩
end Go.Proofs.Ytihocfdnkongkaa
namespace Go.Proofs.Ytihocfdnkongkaa
set_option maxRecDepth 100000
open Go.RowKit
set_option linter.unusedVariables false
/-- what few tells -/
def FewTo (q : QryE) (l : List RV) (w : World) (e : Ending) (w' : World) : Prop := ∃ b : Bool, e = .returned (.bool b) ∧ (b = true → q.ms.length ≤ 20 ∧ l.length ≤ 60 ∧ ∀ x ∈ l, x.row.labs.length ≤ 50) ∧ Nx w w'
section
variable {w : World} {D : Nat → Prop} {A B : Option Addr} {n c d : Nat} {l : List RV} {q : QryE}
set_option maxHeartbeats 4000000 in
theorem few_any (hq : QIs w q B d) (h : Rd w D 9 A n (rvl l)) (hl : l.length = n) (hsm : ∀ x ∈ l, x.row.small) (hn : n ≤ 9223372036854775807) :
    Calls Try.prog 5 #[qryV q B d, .slice A n c] w (FewTo q l w) := by
  have Hl := Lib.hid hl
  have H := Lib.hid h
  have hd := hq.hd
  have hd2 := hq.hd2
  unfold maxLen at hd2
  obtain ⟨lo, hi, ms, limit, texts⟩ := q
  have HN := Lib.hid ((Ch.refl (fun _ => False) w).alloc (.cells #[.int .i64 lo, .int .i64 hi, .slice B ms.length d, .int .i64 limit, .bool texts] 24))
  clear hl h hq
  unfold qryV
  simp only at *
  by_cases a1 : 20 < ms.length
  · have a1' : (20 : Int) < (ms.length : Int) := by omega
    go_enter Try.func5, Try.ntmps5
    go_wp2_with fail
    go_ret
    exact ⟨false, rfl, (fun h => by cases h), HN.out⟩
  have a1' : ¬ (20 : Int) < (ms.length : Int) := by omega
  by_cases a2 : 60 < n
  · have a2' : (60 : Int) < (n : Int) := by omega
    go_enter Try.func5, Try.ntmps5
    go_wp2_with fail
    go_ret
    exact ⟨false, rfl, (fun h => by cases h), HN.out⟩
  have a2' : ¬ (60 : Int) < (n : Int) := by omega
  go_enter Try.func5, Try.ntmps5
  go_wp2_with fail
  go_loopw [18] (fun i wr => ∃ k : Nat, k ≤ n ∧ i = .int .i64 (k : Int) ∧ Nx w wr ∧ Hid (∀ x ∈ l.take k, x.row.labs.length ≤ 50)) (fun i _ => n - (intOf i).toNat)
  case atStart => exact ⟨0, Nat.zero_le _, rfl, HN.out, Lib.hid (by simp)⟩
  case round =>
    obtain ⟨w4, rfl⟩ : ∃ w4 : World, w4 = wr := ⟨_, rfl⟩
    obtain ⟨k, hk, rfl, hn4, Ha⟩ := hrel
    have N4 := Lib.hid hn4
    by_cases hlt : k < n
    · have hkl : k < l.length := by rw [Hl.out]; exact hlt
      obtain ⟨ad, rfl, -, p0, p1, p2, p3, p4, p5, p6, p7, p8⟩ := row_at (H.out.nx (by decide) hn4) hkl
      have HT := Lib.hid (List.take_succ_eq_append_getElem hkl)
      have hs := (hsm _ (List.getElem_mem hkl)).2.1
      clear hn4
      generalize l[k] = x at *
      have HA2 := Lib.hid (fun (h : x.row.labs.length ≤ 50) => show ∀ x ∈ l.take (k + 1), x.row.labs.length ≤ 50 by
        rw [HT.out]
        intro y hy
        rcases List.mem_append.1 hy with hy | hy
        · exact Ha.out y hy
        · rw [List.mem_singleton] at hy; subst hy; exact h)
      obtain ⟨⟨kind, time, labs, text, value, null, maker, seq, place⟩, A1, c1⟩ := x
      simp only at p0 p1 p2 p3 p4 p5 p6 p7 p8 hs HA2
      by_cases b1 : 50 < labs.length
      · have b1' : (50 : Int) < (labs.length : Int) := by omega
        go_wp2_with fail
        go_ret
        exact ⟨false, rfl, (fun h => by cases h), N4.out.alloc _⟩
      have b1' : ¬ (50 : Int) < (labs.length : Int) := by omega
      have HR := Lib.hid (HA2.out (by omega))
      by_cases b2 : 2000 < text.size
      · have b2' : (2000 : Int) < (text.size : Int) := by omega
        go_wp2_with fail
        go_ret
        exact ⟨false, rfl, (fun h => by cases h), N4.out.alloc _⟩
      have b2' : ¬ (2000 : Int) < (text.size : Int) := by omega
      go_wp2_with fail
      go_roundw
      case rel => exact ⟨k + 1, by omega, by go_num, N4.out.alloc _, HR⟩
      case measure => simp [intOf]; omega
    · have HR := Lib.hid (show ∀ x ∈ l, x.row.labs.length ≤ 50 by
        have := Ha.out
        rw [List.take_of_length_le (by rw [Hl.out]; omega)] at this
        exact this)
      clear hn4
      go_wp2_with fail
      go_ret
      exact ⟨true, rfl, fun _ => ⟨by simp only; omega, by rw [Hl.out]; omega, HR.out⟩, N4.out⟩
end
end Go.Proofs.Ytihocfdnkongkaa
