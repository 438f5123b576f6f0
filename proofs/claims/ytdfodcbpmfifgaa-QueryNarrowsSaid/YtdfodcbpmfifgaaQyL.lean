/- The contracts of the law's few and lives (layer 12). Conditions: none. -/
import Derived.Test.YtdfodcbpmfifgaaQyB
import Derived.Test.YtdfodcbpmfifgaaR9B
namespace Go.Proofs.Ytdfodcbpmfifgaa
set_option maxRecDepth 100000
open Go.RowKit
set_option linter.unusedVariables false
/-- what few tells -/
def FewTo (q : QryE) (l : List RV) (w : World) (e : Ending) (w' : World) : Prop := ∃ b : Bool, e = .returned (.bool b) ∧ (b = true → q.ms.length ≤ 20 ∧ l.length ≤ 60 ∧ ∀ x ∈ l, x.row.labs.length ≤ 50) ∧ Nx w w'
section
variable {w : World} {D : Nat → Prop} {A B : Option Addr} {n c d : Nat} {l : List RV} {q : QryE}
set_option maxHeartbeats 4000000 in
theorem few_any (hq : QIs w q B d) (h : Rd w D 9 A n (rvl l)) (hl : l.length = n) (hsm : ∀ x ∈ l, x.row.small) (hn : n ≤ 9223372036854775807) :
    Calls Try.prog 7 #[qryV q B d, .slice A n c] w (FewTo q l w) := by
  have Hl := Lib.hid hl
  have H := Lib.hid h
  have hd := hq.hd
  have hd2 := hq.hd2
  unfold maxLen at hd2
  obtain ⟨lo, hi, ms, limit, texts⟩ := q
  have HN := Lib.hid ((Ch.refl (fun _ => False) w).alloc (.cells #[.int .i64 lo, .int .i64 hi, .slice B ms.length d, .int .i64 limit, .bool texts] 24))
  clear hl h hq
  unfold qryV
  simp only at *
  by_cases a1 : 20 < ms.length
  · have a1' : (20 : Int) < (ms.length : Int) := by omega
    go_enter Try.func7, Try.ntmps7
    go_wp2_with fail
    go_ret
    exact ⟨false, rfl, (fun h => by cases h), HN.out⟩
  have a1' : ¬ (20 : Int) < (ms.length : Int) := by omega
  by_cases a2 : 60 < n
  · have a2' : (60 : Int) < (n : Int) := by omega
    go_enter Try.func7, Try.ntmps7
    go_wp2_with fail
    go_ret
    exact ⟨false, rfl, (fun h => by cases h), HN.out⟩
  have a2' : ¬ (60 : Int) < (n : Int) := by omega
  go_enter Try.func7, Try.ntmps7
  go_wp2_with fail
  go_loopw [18] (fun i wr => ∃ k : Nat, k ≤ n ∧ i = .int .i64 (k : Int) ∧ Nx w wr ∧ Hid (∀ x ∈ l.take k, x.row.labs.length ≤ 50)) (fun i _ => n - (intOf i).toNat)
  case atStart => exact ⟨0, Nat.zero_le _, rfl, HN.out, Lib.hid (by simp)⟩
  case round =>
    obtain ⟨w4, rfl⟩ : ∃ w4 : World, w4 = wr := ⟨_, rfl⟩
    obtain ⟨k, hk, rfl, hn4, Ha⟩ := hrel
    have N4 := Lib.hid hn4
    by_cases hlt : k < n
    · have hkl : k < l.length := by rw [Hl.out]; exact hlt
      obtain ⟨ad, rfl, -, p0, p1, p2, p3, p4, p5, p6, p7, p8⟩ := row_at (H.out.nx (by decide) hn4) hkl
      have HT := Lib.hid (List.take_succ_eq_append_getElem hkl)
      have hs := (hsm _ (List.getElem_mem hkl)).2.1
      clear hn4
      generalize l[k] = x at *
      have HA2 := Lib.hid (fun (h : x.row.labs.length ≤ 50) => show ∀ x ∈ l.take (k + 1), x.row.labs.length ≤ 50 by
        rw [HT.out]
        intro y hy
        rcases List.mem_append.1 hy with hy | hy
        · exact Ha.out y hy
        · rw [List.mem_singleton] at hy; subst hy; exact h)
      obtain ⟨⟨kind, time, labs, text, value, null, maker, seq, place⟩, A1, c1⟩ := x
      simp only at p0 p1 p2 p3 p4 p5 p6 p7 p8 hs HA2
      by_cases b1 : 50 < labs.length
      · have b1' : (50 : Int) < (labs.length : Int) := by omega
        go_wp2_with fail
        go_ret
        exact ⟨false, rfl, (fun h => by cases h), N4.out.alloc _⟩
      have b1' : ¬ (50 : Int) < (labs.length : Int) := by omega
      have HR := Lib.hid (HA2.out (by omega))
      by_cases b2 : 2000 < text.size
      · have b2' : (2000 : Int) < (text.size : Int) := by omega
        go_wp2_with fail
        go_ret
        exact ⟨false, rfl, (fun h => by cases h), N4.out.alloc _⟩
      have b2' : ¬ (2000 : Int) < (text.size : Int) := by omega
      go_wp2_with fail
      go_roundw
      case rel => exact ⟨k + 1, by omega, by go_num, N4.out.alloc _, HR⟩
      case measure => simp [intOf]; omega
    · have HR := Lib.hid (show ∀ x ∈ l, x.row.labs.length ≤ 50 by
        have := Ha.out
        rw [List.take_of_length_le (by rw [Hl.out]; omega)] at this
        exact this)
      clear hn4
      go_wp2_with fail
      go_ret
      exact ⟨true, rfl, fun _ => ⟨by simp only; omega, by rw [Hl.out]; omega, HR.out⟩, N4.out⟩
theorem answer_mem {q : QryE} {l : List RowE} {x : RowE} (h : x ∈ answerF q l) : ∃ y ∈ l, x.labs = y.labs := by
  cases hr : qrightF q
  · rw [answer_wrong _ hr] at h
    cases h
  · rw [answer_right _ hr] at h
    unfold ansG at h
    obtain ⟨y, hy, rfl⟩ := List.mem_map.1 h
    have h2 : y ∈ (sortF keyLt l).filter (keeps0 q) := by
      unfold cutF at hy
      split at hy
      · exact hy
      · exact List.mem_of_mem_take hy
    refine ⟨y, (sortF_perm keyLt l).subset (List.mem_filter.1 h2).1, ?_⟩
    unfold stripF
    split <;> rfl
theorem answer_len (q : QryE) (l : List RowE) : (answerF q l).length ≤ l.length := by
  unfold answerF
  split
  · rw [List.length_map]
    have e1 : (cutF q ((sortF keyLt l).filter (keeps0 q))).length ≤ ((sortF keyLt l).filter (keeps0 q)).length := by
      unfold cutF
      split
      · exact Nat.le_refl _
      · rw [List.length_take]; omega
    have e2 := List.length_filter_le (keeps0 q) (sortF keyLt l)
    have e3 := (sortF_perm keyLt l).length_eq
    omega
  · simp
theorem answer_rows {q : QryE} {l os : List RV} {w w' : World} {A : Option Addr} {c : Nat} (hr : RowsO w w' (.slice A os.length c) os) (hm : os.map (fun x => x.row) = answerF q (l.map fun x => x.row)) (hl : ∀ x ∈ l, x.row.labs.length ≤ 1000000000) : RowsR w' (fun k => k < w'.heap.size) A os := by
  refine ⟨hr.rd, fun x hx => ⟨(hr.ok x hx).ch (Ch.refl (fun _ => False) w') (fun _ _ _ hf => hf) fun k hk => hk.2.1, ?_⟩⟩
  have h1 : x.row ∈ os.map fun x => x.row := List.mem_map_of_mem hx
  rw [hm] at h1
  obtain ⟨y, hy, e⟩ := answer_mem h1
  obtain ⟨z, hz, rfl⟩ := List.mem_map.1 hy
  rw [e]
  exact hl z hz
theorem answer_join {q1 q2 : QryE} {l o1 o2 : List RV} {w w' : World} {A : Option Addr} {n c : Nat} (hr : RowsO w w' (.slice A n c) (o1 ++ o2)) (h1 : o1.map (fun x => x.row) = answerF q1 (l.map fun x => x.row)) (h2 : o2.map (fun x => x.row) = answerF q2 (l.map fun x => x.row)) (hl : ∀ x ∈ l, x.row.labs.length ≤ 1000000000) : RowsR w' (fun k => k < w'.heap.size) A (o1 ++ o2) := by
  obtain ⟨A', c', e, _⟩ := hr.own.form
  injection e with e1 e2 e3
  subst e1
  subst e2
  refine ⟨hr.rd, fun x hx => ⟨(hr.ok x hx).ch (Ch.refl (fun _ => False) w') (fun _ _ _ hf => hf) fun k hk => hk.2.1, ?_⟩⟩
  have hy : ∃ y ∈ l.map (fun x => x.row), x.row.labs = y.labs := by
    rcases List.mem_append.1 hx with hx | hx
    · have h : x.row ∈ o1.map fun x => x.row := List.mem_map_of_mem hx
      rw [h1] at h
      exact answer_mem h
    · have h : x.row ∈ o2.map fun x => x.row := List.mem_map_of_mem hx
      rw [h2] at h
      exact answer_mem h
  obtain ⟨y, hy, e⟩ := hy
  obtain ⟨z, hz, rfl⟩ := List.mem_map.1 hy
  rw [e]
  exact hl z hz
def liveQ : QryE := ⟨5, 9, [], 0, true⟩
def liveX : RowE := ⟨1, 5, [], ⟨#[120]⟩, 0, false, 1, 1, 0⟩
theorem live_right : qrightF liveQ = true := by decide
theorem live_keeps : keepsF liveQ liveX = true := by decide
theorem live_answer : answerF liveQ [liveX] = [liveX] := by
  unfold answerF
  rw [live_right]
  rfl
set_option maxHeartbeats 4000000 in
theorem lives_any (w : World) : Calls Try.prog 6 #[] w fun e w' => e = .returned (.bool true) ∧ Nx w w' := by
  have N3 := Lib.hid (show Nx w (((w.alloc (.cells #[.int .i64 5, .int .i64 9, .slice none 0 0, .int .i64 0, .bool true] 24)).alloc (.cells #[.int .i64 1, .int .i64 5, .slice none 0 0, .string ⟨#[120]⟩, .int .i64 0, .bool false, .int .i64 1, .int .i64 1, .int .i64 0] 36)).alloc (.cells #[.int .i64 1, .int .i64 5, .slice none 0 0, .string ⟨#[120]⟩, .int .i64 0, .bool false, .int .i64 1, .int .i64 1, .int .i64 0] 36)) from (((Ch.refl _ w).alloc _).alloc _).alloc _)
  have B1 := Lib.hid (show Blk (((w.alloc (.cells #[.int .i64 5, .int .i64 9, .slice none 0 0, .int .i64 0, .bool true] 24)).alloc (.cells #[.int .i64 1, .int .i64 5, .slice none 0 0, .string ⟨#[120]⟩, .int .i64 0, .bool false, .int .i64 1, .int .i64 1, .int .i64 0] 36)).alloc (.cells #[.int .i64 1, .int .i64 5, .slice none 0 0, .string ⟨#[120]⟩, .int .i64 0, .bool false, .int .i64 1, .int .i64 1, .int .i64 0] 36)) w.heap.size 24 #[.int .i64 5, .int .i64 9, .slice none 0 0, .int .i64 0, .bool true] from ((Blk.new w _ _).alloc _).alloc _)
  have B2 := Lib.hid (show Blk (((w.alloc (.cells #[.int .i64 5, .int .i64 9, .slice none 0 0, .int .i64 0, .bool true] 24)).alloc (.cells #[.int .i64 1, .int .i64 5, .slice none 0 0, .string ⟨#[120]⟩, .int .i64 0, .bool false, .int .i64 1, .int .i64 1, .int .i64 0] 36)).alloc (.cells #[.int .i64 1, .int .i64 5, .slice none 0 0, .string ⟨#[120]⟩, .int .i64 0, .bool false, .int .i64 1, .int .i64 1, .int .i64 0] 36)) (w.heap.size + 1) 36 #[.int .i64 1, .int .i64 5, .slice none 0 0, .string ⟨#[120]⟩, .int .i64 0, .bool false, .int .i64 1, .int .i64 1, .int .i64 0] by
    have := (Blk.new (w.alloc (.cells #[.int .i64 5, .int .i64 9, .slice none 0 0, .int .i64 0, .bool true] 24)) 36 #[.int .i64 1, .int .i64 5, .slice none 0 0, .string ⟨#[120]⟩, .int .i64 0, .bool false, .int .i64 1, .int .i64 1, .int .i64 0]).alloc (.cells #[.int .i64 1, .int .i64 5, .slice none 0 0, .string ⟨#[120]⟩, .int .i64 0, .bool false, .int .i64 1, .int .i64 1, .int .i64 0] 36)
    simpa using this)
  have HRD := Lib.hid (show Rd (((w.alloc (.cells #[.int .i64 5, .int .i64 9, .slice none 0 0, .int .i64 0, .bool true] 24)).alloc (.cells #[.int .i64 1, .int .i64 5, .slice none 0 0, .string ⟨#[120]⟩, .int .i64 0, .bool false, .int .i64 1, .int .i64 1, .int .i64 0] 36)).alloc (.cells #[.int .i64 1, .int .i64 5, .slice none 0 0, .string ⟨#[120]⟩, .int .i64 0, .bool false, .int .i64 1, .int .i64 1, .int .i64 0] 36)) (fun k => k = w.heap.size + 1 + 1) 9 (some ⟨w.heap.size + 1 + 1, 0, none⟩) 1 (rvl [⟨liveX, none, 0⟩]) by
    have := Rd.lit9 ((w.alloc (.cells #[.int .i64 5, .int .i64 9, .slice none 0 0, .int .i64 0, .bool true] 24)).alloc (.cells #[.int .i64 1, .int .i64 5, .slice none 0 0, .string ⟨#[120]⟩, .int .i64 0, .bool false, .int .i64 1, .int .i64 1, .int .i64 0] 36)) ⟨liveX, none, 0⟩
    rw [World.size_alloc, World.size_alloc] at this
    exact this)
  have HQ : ∀ w, QIs w liveQ none 0 := fun w => ⟨Rd.none_ _ _ _ _, (by intro x hx; cases hx), ⟨by decide, by decide⟩, ⟨by decide, by decide⟩, ⟨by decide, by decide⟩, by decide, by decide⟩
  have HOK : ∀ w, RV.ok w (fun _ => False) ⟨liveX, none, 0⟩ := fun w => ⟨Rd.none_ _ _ _ _, by decide, by decide⟩
  have HFW : liveX.few := ⟨⟨(by intro y hy; cases hy), by decide, ⟨by decide, by decide⟩, ⟨by decide, by decide⟩, ⟨by decide, by decide⟩, ⟨by decide, by decide⟩, ⟨by decide, by decide⟩, ⟨by decide, by decide⟩⟩, by decide⟩
  have HA := Lib.hid (answer_any (c := 1) (HQ (((w.alloc (.cells #[.int .i64 5, .int .i64 9, .slice none 0 0, .int .i64 0, .bool true] 24)).alloc (.cells #[.int .i64 1, .int .i64 5, .slice none 0 0, .string ⟨#[120]⟩, .int .i64 0, .bool false, .int .i64 1, .int .i64 1, .int .i64 0] 36)).alloc (.cells #[.int .i64 1, .int .i64 5, .slice none 0 0, .string ⟨#[120]⟩, .int .i64 0, .bool false, .int .i64 1, .int .i64 1, .int .i64 0] 36))) HRD.out rfl (by decide) (by
    intro x hx
    rw [List.mem_singleton] at hx
    subst hx
    exact ⟨(HOK _).ch (Ch.refl (fun _ => False) _) (fun _ _ _ hf => hf) (fun _ hf => hf.elim), HFW⟩))
  have HR := Lib.hid (fun w => qright_q (HQ w))
  have HK := Lib.hid (fun w => keeps_q (HQ w) (HOK w) HFW)
  rw [live_right] at HR
  rw [live_keeps] at HK
  unfold qryV liveQ at HA HR HK
  unfold rowV liveX at HK
  simp only at HA HR HK
  clear HQ HOK HFW
  go_enter Try.func6, Try.ntmps6
  go_wp2_with fail
  refine HA.out.mono ?_
  rintro e w5 ⟨v, os, rfl, hr, hm⟩
  have hm2 : os.map (fun x => x.row) = [liveX] := hm.trans live_answer
  obtain ⟨y, rfl⟩ : ∃ y, os = [y] := List.length_eq_one_iff.1 (by have := congrArg List.length hm2; simpa using this)
  have hy : y.row = liveX := by simpa using hm2
  obtain ⟨A, c, rfl, hc1, hc2⟩ := hr.form
  obtain ⟨ad, rfl, -, -, -, -, t5, -⟩ := row_at hr.rd (k := 0) (by simp)
  simp only [List.getElem_cons_zero, Nat.zero_mul] at t5
  rw [hy] at t5
  have HT5 := Lib.hid t5
  have N5 := Lib.hid (N3.out.tr hr.own.nx)
  have b1 := B1.out.nx hr.own.nx
  have b2 := B2.out.nx hr.own.nx
  have p0 : w5.cell? ⟨w.heap.size, 0, none⟩ = some (.int .i64 5) := b1.cell 0
  have p1 : w5.cell? ⟨w.heap.size, 1, none⟩ = some (.int .i64 9) := b1.cell 1
  have p2 : w5.cell? ⟨w.heap.size, 2, none⟩ = some (.slice none 0 0) := b1.cell 2
  have p3 : w5.cell? ⟨w.heap.size, 3, none⟩ = some (.int .i64 0) := b1.cell 3
  have p4 : w5.cell? ⟨w.heap.size, 4, none⟩ = some (.bool true) := b1.cell 4
  have q0 : w5.cell? ⟨w.heap.size + 1, 0, none⟩ = some (.int .i64 1) := b2.cell 0
  have q1 : w5.cell? ⟨w.heap.size + 1, 1, none⟩ = some (.int .i64 5) := b2.cell 1
  have q2 : w5.cell? ⟨w.heap.size + 1, 2, none⟩ = some (.slice none 0 0) := b2.cell 2
  have q3 : w5.cell? ⟨w.heap.size + 1, 3, none⟩ = some (.string ⟨#[120]⟩) := b2.cell 3
  have q4 : w5.cell? ⟨w.heap.size + 1, 4, none⟩ = some (.int .i64 0) := b2.cell 4
  have q5 : w5.cell? ⟨w.heap.size + 1, 5, none⟩ = some (.bool false) := b2.cell 5
  have q6 : w5.cell? ⟨w.heap.size + 1, 6, none⟩ = some (.int .i64 1) := b2.cell 6
  have q7 : w5.cell? ⟨w.heap.size + 1, 7, none⟩ = some (.int .i64 1) := b2.cell 7
  have q8 : w5.cell? ⟨w.heap.size + 1, 8, none⟩ = some (.int .i64 0) := b2.cell 8
  have C1 := Lib.hid b1
  have C2 := Lib.hid b2
  clear b1 b2 hr hm hm2 hy t5 HA HRD B1 B2
  unfold liveX at HT5
  simp only at HT5
  go_wp2_with fail
  refine (HR.out _).mono ?_
  rintro e w6 ⟨rfl, n6⟩
  have N6 := Lib.hid n6
  have b1 := C1.out.nx n6
  have b2 := C2.out.nx n6
  have r0 : w6.cell? ⟨w.heap.size, 0, none⟩ = some (.int .i64 5) := b1.cell 0
  have r1 : w6.cell? ⟨w.heap.size, 1, none⟩ = some (.int .i64 9) := b1.cell 1
  have r2 : w6.cell? ⟨w.heap.size, 2, none⟩ = some (.slice none 0 0) := b1.cell 2
  have r3 : w6.cell? ⟨w.heap.size, 3, none⟩ = some (.int .i64 0) := b1.cell 3
  have r4 : w6.cell? ⟨w.heap.size, 4, none⟩ = some (.bool true) := b1.cell 4
  have s0 : w6.cell? ⟨w.heap.size + 1, 0, none⟩ = some (.int .i64 1) := b2.cell 0
  have s1 : w6.cell? ⟨w.heap.size + 1, 1, none⟩ = some (.int .i64 5) := b2.cell 1
  have s2 : w6.cell? ⟨w.heap.size + 1, 2, none⟩ = some (.slice none 0 0) := b2.cell 2
  have s3 : w6.cell? ⟨w.heap.size + 1, 3, none⟩ = some (.string ⟨#[120]⟩) := b2.cell 3
  have s4 : w6.cell? ⟨w.heap.size + 1, 4, none⟩ = some (.int .i64 0) := b2.cell 4
  have s5 : w6.cell? ⟨w.heap.size + 1, 5, none⟩ = some (.bool false) := b2.cell 5
  have s6 : w6.cell? ⟨w.heap.size + 1, 6, none⟩ = some (.int .i64 1) := b2.cell 6
  have s7 : w6.cell? ⟨w.heap.size + 1, 7, none⟩ = some (.int .i64 1) := b2.cell 7
  have s8 : w6.cell? ⟨w.heap.size + 1, 8, none⟩ = some (.int .i64 0) := b2.cell 8
  clear p0 p1 p2 p3 p4 q0 q1 q2 q3 q4 q5 q6 q7 q8 b1 b2 n6
  go_wp2_with fail
  refine (HK.out _).mono ?_
  rintro e w7 ⟨rfl, n7⟩
  have N7 := Lib.hid (N6.out.tr n7)
  have t7 := (N7.out.cell (World.block_lt_of_cell? w5 _ HT5.out) (fun h => h)).trans HT5.out
  have z : ad.add 0 = ad := rfl
  rw [z] at t7
  clear n7 r0 r1 r2 r3 r4 s0 s1 s2 s3 s4 s5 s6 s7 s8 z
  go_wp2_with fail
  go_ret
  exact ⟨rfl, N5.out.tr N7.out⟩
end
end Go.Proofs.Ytdfodcbpmfifgaa
