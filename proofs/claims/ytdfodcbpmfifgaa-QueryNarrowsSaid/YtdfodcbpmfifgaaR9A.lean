/- The contracts of the references' Same of labels and Compare of rows. Conditions: none. -/
import Derived.Test.YtdfodcbpmfifgaaRcA
import Derived.Test.YtdfodcbpmfifgaaSrA
import Derived.Test.YtdfodcbpmfifgaaLbB
import Derived.Laws.StructEq
namespace Go.Proofs.Ytdfodcbpmfifgaa
set_option maxRecDepth 100000
open Go.RowKit
set_option linter.unusedVariables false
theorem cmp_lt0 {x y : RowE} (h : x.time < y.time) : cmpF x y = -1 := by simp [cmpF, or4, cmpI]; omega
theorem cmp_gt0 {x y : RowE} (h : y.time < x.time) : cmpF x y = 1 := by simp [cmpF, or4, cmpI]; omega
theorem cmp_lt1 {x y : RowE} (h0 : x.time = y.time) (h : x.maker < y.maker) : cmpF x y = -1 := by simp [cmpF, or4, cmpI, h0]; omega
theorem cmp_gt1 {x y : RowE} (h0 : x.time = y.time) (h : y.maker < x.maker) : cmpF x y = 1 := by simp [cmpF, or4, cmpI, h0]; omega
theorem cmp_lt2 {x y : RowE} (h0 : x.time = y.time) (h1 : x.maker = y.maker) (h : x.seq < y.seq) : cmpF x y = -1 := by simp [cmpF, or4, cmpI, h0, h1]; omega
theorem cmp_gt2 {x y : RowE} (h0 : x.time = y.time) (h1 : x.maker = y.maker) (h : y.seq < x.seq) : cmpF x y = 1 := by simp [cmpF, or4, cmpI, h0, h1]; omega
theorem cmp_lt3 {x y : RowE} (h0 : x.time = y.time) (h1 : x.maker = y.maker) (h2 : x.seq = y.seq) (h : x.place < y.place) : cmpF x y = -1 := by simp [cmpF, or4, cmpI, h0, h1, h2]; omega
theorem cmp_gt3 {x y : RowE} (h0 : x.time = y.time) (h1 : x.maker = y.maker) (h2 : x.seq = y.seq) (h : y.place < x.place) : cmpF x y = 1 := by simp [cmpF, or4, cmpI, h0, h1, h2]; omega
theorem cmp_eq {x y : RowE} (h0 : x.time = y.time) (h1 : x.maker = y.maker) (h2 : x.seq = y.seq) (h3 : x.place = y.place) : cmpF x y = 0 := by simp [cmpF, or4, cmpI, h0, h1, h2, h3]
/-- the first k of the four are the same -/
def SameK (x y : RowE) (k : Nat) : Prop := (0 < k → x.time = y.time) ∧ (1 < k → x.maker = y.maker) ∧ (2 < k → x.seq = y.seq) ∧ (3 < k → x.place = y.place)
section
variable {w : World}
set_option maxHeartbeats 4000000 in
theorem compare9_any (x y : RV) (w : World) : Calls Try.prog 34 #[rowV x, rowV y] w fun e w' => e = .returned (.int .i64 (cmpF x.row y.row)) ∧ Nx w w' := by
  obtain ⟨⟨kind, time, labs, text, value, null, maker, seq, place⟩, A1, c1⟩ := x
  obtain ⟨⟨kind2, time2, labs2, text2, value2, null2, maker2, seq2, place2⟩, A2, c2⟩ := y
  unfold rowV
  simp only
  generalize hX : (⟨kind, time, labs, text, value, null, maker, seq, place⟩ : RowE) = X
  generalize hY : (⟨kind2, time2, labs2, text2, value2, null2, maker2, seq2, place2⟩ : RowE) = Y
  have E : Hid (X.time = time ∧ X.maker = maker ∧ X.seq = seq ∧ X.place = place ∧ Y.time = time2 ∧ Y.maker = maker2 ∧ Y.seq = seq2 ∧ Y.place = place2) := Lib.hid (by subst hX; subst hY; exact ⟨rfl, rfl, rfl, rfl, rfl, rfl, rfl, rfl⟩)
  clear hX hY
  go_enter Try.func34, Try.ntmps34
  go_wp2_with fail
  go_loopw [28] (fun i wr => ∃ k : Nat, k ≤ 4 ∧ i = .int .i64 (k : Int) ∧ Nx w wr ∧ Hid (Blk wr (w.heap.size + 1 + 1) 65 #[.int .i64 time, .int .i64 maker, .int .i64 seq, .int .i64 place]) ∧ Hid (Blk wr (w.heap.size + 1 + 1 + 1) 65 #[.int .i64 time2, .int .i64 maker2, .int .i64 seq2, .int .i64 place2]) ∧ Hid (SameK X Y k)) (fun i _ => 4 - (intOf i).toNat)
  case atStart =>
    refine ⟨0, by decide, rfl, ((((Ch.refl _ w).alloc _).alloc _).alloc _).alloc _, Lib.hid ?_, Lib.hid ?_, Lib.hid ⟨fun h => by omega, fun h => by omega, fun h => by omega, fun h => by omega⟩⟩
    · refine Blk.alloc ?_ _
      have := Blk.new ((w.alloc (.cells #[.int .i64 kind, .int .i64 time, .slice A1 labs.length c1, .string text, .int .i64 value, .bool null, .int .i64 maker, .int .i64 seq, .int .i64 place] 36)).alloc (.cells #[.int .i64 kind2, .int .i64 time2, .slice A2 labs2.length c2, .string text2, .int .i64 value2, .bool null2, .int .i64 maker2, .int .i64 seq2, .int .i64 place2] 36)) 65 #[.int .i64 time, .int .i64 maker, .int .i64 seq, .int .i64 place]
      simpa using this
    · have := Blk.new (((w.alloc (.cells #[.int .i64 kind, .int .i64 time, .slice A1 labs.length c1, .string text, .int .i64 value, .bool null, .int .i64 maker, .int .i64 seq, .int .i64 place] 36)).alloc (.cells #[.int .i64 kind2, .int .i64 time2, .slice A2 labs2.length c2, .string text2, .int .i64 value2, .bool null2, .int .i64 maker2, .int .i64 seq2, .int .i64 place2] 36)).alloc (.cells #[.int .i64 time, .int .i64 maker, .int .i64 seq, .int .i64 place] 65)) 65 #[.int .i64 time2, .int .i64 maker2, .int .i64 seq2, .int .i64 place2]
      simpa using this
  case round =>
    obtain ⟨w4, rfl⟩ : ∃ w4 : World, w4 = wr := ⟨_, rfl⟩
    obtain ⟨k, hk, rfl, hn4, H1, H2, Hs⟩ := hrel
    have N4 := Lib.hid hn4
    clear hn4
    rcases k with _ | _ | _ | _ | k
    · have p := H1.out.cell 0
      have r := H2.out.cell 0
      simp only [List.getElem?_toArray, List.getElem?_cons_succ, List.getElem?_cons_zero] at p r
      have hx : X.time = time := E.out.1
      have hy : Y.time = time2 := E.out.2.2.2.2.1
      have HLT := Lib.hid (fun (h : time < time2) => cmp_lt0 (x := X) (y := Y)  (by rw [hx, hy]; exact h))
      have HGT := Lib.hid (fun (h : time2 < time) => cmp_gt0 (x := X) (y := Y)  (by rw [hx, hy]; exact h))
      have HSM := Lib.hid (fun (h1 : ¬ time < time2) (h2 : ¬ time2 < time) => (⟨fun _ => by rw [hx, hy]; omega, fun h => by omega, fun h => by omega, fun h => by omega⟩ : SameK X Y 1))
      clear hx hy 
      by_cases h1 : time < time2
      · have HR := Lib.hid (HLT.out h1)
        go_wp2_with fail
        go_quiet (fail)
        go_wp2_with fail
        go_ret
        exact ⟨by rw [HR.out]; rfl, by first | exact N4.out.drewN _ | exact (N4.out.drewN _).drewN _⟩
      · by_cases h2 : time2 < time
        · have HR := Lib.hid (HGT.out h2)
          go_wp2_with fail
          go_quiet (fail)
          go_wp2_with fail
          go_quiet (fail)
          go_wp2_with fail
          go_ret
          exact ⟨by rw [HR.out]; rfl, by first | exact N4.out.drewN _ | exact (N4.out.drewN _).drewN _⟩
        · have HR := Lib.hid (HSM.out h1 h2)
          go_wp2_with fail
          go_quiet (fail)
          go_wp2_with fail
          go_quiet (fail)
          go_wp2_with fail
          go_roundw
          case rel => exact ⟨1, by decide, by go_num, N4.out.drewN _, Lib.hid (H1.out.drewN _), Lib.hid (H2.out.drewN _), HR⟩
          case measure => simp [intOf]
    · have p := H1.out.cell 1
      have r := H2.out.cell 1
      simp only [List.getElem?_toArray, List.getElem?_cons_succ, List.getElem?_cons_zero] at p r
      have hx : X.maker = maker := E.out.2.1
      have hy : Y.maker = maker2 := E.out.2.2.2.2.2.1
      have g0 : X.time = Y.time := Hs.out.1 (by decide)
      have HLT := Lib.hid (fun (h : maker < maker2) => cmp_lt1 (x := X) (y := Y) g0 (by rw [hx, hy]; exact h))
      have HGT := Lib.hid (fun (h : maker2 < maker) => cmp_gt1 (x := X) (y := Y) g0 (by rw [hx, hy]; exact h))
      have HSM := Lib.hid (fun (h1 : ¬ maker < maker2) (h2 : ¬ maker2 < maker) => (⟨fun _ => g0, fun _ => by rw [hx, hy]; omega, fun h => by omega, fun h => by omega⟩ : SameK X Y 2))
      clear hx hy g0
      by_cases h1 : maker < maker2
      · have HR := Lib.hid (HLT.out h1)
        go_wp2_with fail
        go_quiet (fail)
        go_wp2_with fail
        go_ret
        exact ⟨by rw [HR.out]; rfl, by first | exact N4.out.drewN _ | exact (N4.out.drewN _).drewN _⟩
      · by_cases h2 : maker2 < maker
        · have HR := Lib.hid (HGT.out h2)
          go_wp2_with fail
          go_quiet (fail)
          go_wp2_with fail
          go_quiet (fail)
          go_wp2_with fail
          go_ret
          exact ⟨by rw [HR.out]; rfl, by first | exact N4.out.drewN _ | exact (N4.out.drewN _).drewN _⟩
        · have HR := Lib.hid (HSM.out h1 h2)
          go_wp2_with fail
          go_quiet (fail)
          go_wp2_with fail
          go_quiet (fail)
          go_wp2_with fail
          go_roundw
          case rel => exact ⟨2, by decide, by go_num, N4.out.drewN _, Lib.hid (H1.out.drewN _), Lib.hid (H2.out.drewN _), HR⟩
          case measure => simp [intOf]
    · have p := H1.out.cell 2
      have r := H2.out.cell 2
      simp only [List.getElem?_toArray, List.getElem?_cons_succ, List.getElem?_cons_zero] at p r
      have hx : X.seq = seq := E.out.2.2.1
      have hy : Y.seq = seq2 := E.out.2.2.2.2.2.2.1
      have g0 : X.time = Y.time := Hs.out.1 (by decide)
      have g1 : X.maker = Y.maker := Hs.out.2.1 (by decide)
      have HLT := Lib.hid (fun (h : seq < seq2) => cmp_lt2 (x := X) (y := Y) g0 g1 (by rw [hx, hy]; exact h))
      have HGT := Lib.hid (fun (h : seq2 < seq) => cmp_gt2 (x := X) (y := Y) g0 g1 (by rw [hx, hy]; exact h))
      have HSM := Lib.hid (fun (h1 : ¬ seq < seq2) (h2 : ¬ seq2 < seq) => (⟨fun _ => g0, fun _ => g1, fun _ => by rw [hx, hy]; omega, fun h => by omega⟩ : SameK X Y 3))
      clear hx hy g0 g1
      by_cases h1 : seq < seq2
      · have HR := Lib.hid (HLT.out h1)
        go_wp2_with fail
        go_quiet (fail)
        go_wp2_with fail
        go_ret
        exact ⟨by rw [HR.out]; rfl, by first | exact N4.out.drewN _ | exact (N4.out.drewN _).drewN _⟩
      · by_cases h2 : seq2 < seq
        · have HR := Lib.hid (HGT.out h2)
          go_wp2_with fail
          go_quiet (fail)
          go_wp2_with fail
          go_quiet (fail)
          go_wp2_with fail
          go_ret
          exact ⟨by rw [HR.out]; rfl, by first | exact N4.out.drewN _ | exact (N4.out.drewN _).drewN _⟩
        · have HR := Lib.hid (HSM.out h1 h2)
          go_wp2_with fail
          go_quiet (fail)
          go_wp2_with fail
          go_quiet (fail)
          go_wp2_with fail
          go_roundw
          case rel => exact ⟨3, by decide, by go_num, N4.out.drewN _, Lib.hid (H1.out.drewN _), Lib.hid (H2.out.drewN _), HR⟩
          case measure => simp [intOf]
    · have p := H1.out.cell 3
      have r := H2.out.cell 3
      simp only [List.getElem?_toArray, List.getElem?_cons_succ, List.getElem?_cons_zero] at p r
      have hx : X.place = place := E.out.2.2.2.1
      have hy : Y.place = place2 := E.out.2.2.2.2.2.2.2
      have g0 : X.time = Y.time := Hs.out.1 (by decide)
      have g1 : X.maker = Y.maker := Hs.out.2.1 (by decide)
      have g2 : X.seq = Y.seq := Hs.out.2.2.1 (by decide)
      have HLT := Lib.hid (fun (h : place < place2) => cmp_lt3 (x := X) (y := Y) g0 g1 g2 (by rw [hx, hy]; exact h))
      have HGT := Lib.hid (fun (h : place2 < place) => cmp_gt3 (x := X) (y := Y) g0 g1 g2 (by rw [hx, hy]; exact h))
      have HSM := Lib.hid (fun (h1 : ¬ place < place2) (h2 : ¬ place2 < place) => (⟨fun _ => g0, fun _ => g1, fun _ => g2, fun _ => by rw [hx, hy]; omega⟩ : SameK X Y 4))
      clear hx hy g0 g1 g2
      by_cases h1 : place < place2
      · have HR := Lib.hid (HLT.out h1)
        go_wp2_with fail
        go_quiet (fail)
        go_wp2_with fail
        go_ret
        exact ⟨by rw [HR.out]; rfl, by first | exact N4.out.drewN _ | exact (N4.out.drewN _).drewN _⟩
      · by_cases h2 : place2 < place
        · have HR := Lib.hid (HGT.out h2)
          go_wp2_with fail
          go_quiet (fail)
          go_wp2_with fail
          go_quiet (fail)
          go_wp2_with fail
          go_ret
          exact ⟨by rw [HR.out]; rfl, by first | exact N4.out.drewN _ | exact (N4.out.drewN _).drewN _⟩
        · have HR := Lib.hid (HSM.out h1 h2)
          go_wp2_with fail
          go_quiet (fail)
          go_wp2_with fail
          go_quiet (fail)
          go_wp2_with fail
          go_roundw
          case rel => exact ⟨4, by decide, by go_num, N4.out.drewN _, Lib.hid (H1.out.drewN _), Lib.hid (H2.out.drewN _), HR⟩
          case measure => simp [intOf]
    · have hk4 : k = 0 := by omega
      subst hk4
      have HR := Lib.hid (cmp_eq (x := X) (y := Y) (Hs.out.1 (by decide)) (Hs.out.2.1 (by decide)) (Hs.out.2.2.1 (by decide)) (Hs.out.2.2.2 (by decide)))
      go_wp2_with fail
      go_ret
      exact ⟨by rw [HR.out]; rfl, N4.out⟩
end
/-- a call tells whether it is so -/
def Tells (p : Prop) (w : World) (e : Ending) (w' : World) : Prop := ∃ b : Bool, e = .returned (.bool b) ∧ (b = true ↔ p) ∧ Nx w w'
theorem Lab.neq (a b c d : ByteArray) (w : World) : (Op.equalIn 10000 57 (.agg #[.string a, .string b]) (.agg #[.string c, .string d])).run Try.prog w = .ok (a.toList == c.toList && b.toList == d.toList) w := by
  have u3 := Try.underlying9
  have a3 := Try.isAgg9
  have z3 := Try.sizeOf9
  have hS : Try.prog.underlying 57 = some (.struct (Try.prog.fieldsOf 57)) := by kernel_rfl
  have hp : Try.prog.stoodInHeld 57 = false := by kernel_rfl
  rw [show (10000 : Nat) = 9999 + 1 from rfl, run_equalIn_agg w 9999 57 _ _ hS hp]
  simp only [Program.fieldsOf, Try.underlying57]
  go_simp
  by_cases h1 : a.toList = c.toList <;> by_cases h2 : b.toList = d.toList <;> simp [h1, h2]
section
variable {w : World} {D D2 : Nat → Prop} {A B : Option Addr} {n c m d : Nat} {l ls : List Lab}
set_option maxHeartbeats 4000000 in
theorem same8_any (hr : Rd w D 2 A n (lbl l)) (hl : l.length = n) (hn : n ≤ 1000000000) (hr2 : Rd w D2 2 B m (lbl ls)) (hm : ls.length = m) :
    Calls Try.prog 35 #[.slice A n c, .slice B m d] w (Tells (l = ls) w) := by
  have Hl := Lib.hid hl
  have Hm := Lib.hid hm
  by_cases hnm : n = m
  · subst hnm
    clear hl hm
    go_enter Try.func35, Try.ntmps35
    go_wp2_with fail
    go_loopw [13] (fun i wr => ∃ k : Nat, k ≤ n ∧ i = .int .i64 (k : Int) ∧ Nx w wr ∧ Hid (l.take k = ls.take k)) (fun i _ => n - (intOf i).toNat)
    case atStart => exact ⟨0, Nat.zero_le _, rfl, Ch.refl _ _, Lib.hid rfl⟩
    case round =>
      obtain ⟨w4, rfl⟩ : ∃ w4 : World, w4 = wr := ⟨_, rfl⟩
      obtain ⟨k, hk, rfl, hn4, He⟩ := hrel
      by_cases hlt : k < n
      · have hkl : k < l.length := by rw [Hl.out]; exact hlt
        have hkm : k < ls.length := by rw [Hm.out]; exact hlt
        obtain ⟨ad, rfl, -, p0, p1⟩ := lab_at (hr.nx (by decide) hn4) hkl
        obtain ⟨ad2, rfl, -, q0, q1⟩ := lab_at (hr2.nx (by decide) hn4) hkm
        have HS := Lib.hid (fun (h : l[k] = ls[k]) => show l.take (k + 1) = ls.take (k + 1) by rw [List.take_succ_eq_append_getElem hkl, List.take_succ_eq_append_getElem hkm, He.out, h])
        have HD := Lib.hid (fun (h : l[k] ≠ ls[k]) => show ¬ l = ls by
          intro e
          refine h ?_
          subst e
          rfl)
        have N4 := Lib.hid hn4
        clear hn4
        generalize l[k] = x at *
        generalize ls[k] = y at *
        obtain ⟨xn, xv⟩ := x
        obtain ⟨yn, yv⟩ := y
        simp only at p0 p1 q0 q1
        have e1 := str_eq xn yn
        have e2 := str_eq xv yv
        have hgd : ∀ (op : BinOp) (x y : Operand) (w : World), (eqGuard op 57 x y (.agg #[.string xn, .string xv]) (.agg #[.string yn, .string yv])).run Try.prog w = .ok () w := fun op x y w => run_eqGuard_agg w op _ x y _ _ (by kernel_rfl)
        have hne : ∀ w, (binOp .neq 57 (.agg #[.string xn, .string xv]) (.agg #[.string yn, .string yv])).run Try.prog w = .ok (.bool (!(xn.toList == yn.toList && xv.toList == yv.toList))) w := fun w => by
          rw [run_neq_struct, Lab.neq]
          rfl
        by_cases he : xn = yn ∧ xv = yv
        · have HR := Lib.hid (HS.out (by rw [he.1, he.2]))
          have hbb : (!(xn.toList == yn.toList && xv.toList == yv.toList)) = false := by rw [e1, e2, decide_eq_true he.1, decide_eq_true he.2]; rfl
          rw [hbb] at hne
          clear e1 e2 hbb he
          go_wp2_with fail
          go_quiet (fail)
          go_wp2_with fail
          go_roundw
          case rel => exact ⟨k + 1, by omega, by go_num, N4.out.drewN _, HR⟩
          case measure => simp [intOf]; omega
        · have HR := Lib.hid (HD.out (fun h => he (by injection h with h1 h2; exact ⟨h1, h2⟩)))
          have hbb : (!(xn.toList == yn.toList && xv.toList == yv.toList)) = true := by
            rw [e1, e2]
            by_cases h1 : xn = yn
            · rw [decide_eq_true h1, decide_eq_false (fun h2 => he ⟨h1, h2⟩)]; rfl
            · rw [decide_eq_false h1]; rfl
          rw [hbb] at hne
          clear e1 e2 hbb he
          go_wp2_with fail
          go_quiet (fail)
          go_wp2_with fail
          go_ret
          exact ⟨false, rfl, by simp [HR.out], N4.out.drewN _⟩
      · have HR : Hid (l = ls) := Lib.hid (by
          have := He.out
          rw [List.take_of_length_le (by rw [Hl.out]; omega), List.take_of_length_le (by rw [Hm.out]; omega)] at this
          exact this)
        have N4 := Lib.hid hn4
        clear hn4
        go_wp2_with fail
        go_ret
        exact ⟨true, rfl, by simp [HR.out], N4.out⟩
  · have HR : Hid (¬ l = ls) := Lib.hid (fun e => hnm (by rw [← Hl.out, ← Hm.out, e]))
    have hne : ((n : Int) != (m : Int)) = true := by rw [bne_iff_ne]; omega
    clear hl hm hnm
    go_enter Try.func35, Try.ntmps35
    go_wp2_with fail
    go_ret
    exact ⟨false, rfl, by simp [HR.out], Ch.refl _ _⟩
end
end Go.Proofs.Ytdfodcbpmfifgaa
