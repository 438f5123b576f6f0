/- The contracts of the reference's Asks and Right (layer 8). Conditions: none. -/
import Derived.Test.YtbgeddlakcaikaaKrR8A
import Derived.Test.YtbgeddlakcaikaaKrQ3
namespace Go.Proofs.Ytbgeddlakcaikaa
set_option maxRecDepth 100000
open Go.RowKit
set_option linter.unusedVariables false
set_option maxHeartbeats 4000000 in
theorem asks8_any (m : Mat) (hm : m.small) (w : World) :
    Calls Try.prog 28 #[.agg #[.string m.name, .int .i64 m.way, .string m.value]] w fun e w' => e = .returned (.bool (asksF m)) ∧ Nx w w' := by
  have hnm := fun w => name8_any m.name w hm.1
  have Hnx := Lib.hid (fun o => (Ch.refl (fun _ => False) w).alloc o)
  have HF : Hid (asksF m = (nameF m.name && decide (m.value.size ≤ 16) && (decide (1 ≤ m.way ∧ m.way ≤ 4)) && (decide (m.way ≠ 4) || decide (m.value.size = 0)))) := Lib.hid rfl
  obtain ⟨nm, way, val⟩ := m
  simp only at *
  cases hv : nameF nm
  · rw [hv] at hnm
    have Hnm := Lib.hid hnm
    have HR : Hid (asksF ⟨nm, way, val⟩ = false) := Lib.hid (by rw [HF.out, hv]; rfl)
    clear hnm hv hm
    go_enter Try.func28, Try.ntmps28
    go_wp2_with fail
    refine (Hnm.out _).mono ?_
    rintro e w1 ⟨rfl, rfl⟩
    go_wp2_with fail
    go_ret
    exact ⟨by rw [HR.out]; rfl, Hnx.out _⟩
  · rw [hv] at hnm
    have Hnm := Lib.hid hnm
    have Hv := Lib.hid hv
    clear hnm hv hm
    by_cases h16 : val.size ≤ 16
    · have k16 : ¬ (16 : Int) < (val.size : Int) := by omega
      by_cases h5 : way = 4
      · have HR : Hid (asksF ⟨nm, way, val⟩ = val.toList.isEmpty) := Lib.hid (by rw [HF.out, Hv.out, decide_eq_true h16, decide_eq_true (show 1 ≤ way ∧ way ≤ 4 by omega), decide_eq_false (show ¬ way ≠ 4 by omega), emp_eq]; simp)
        subst h5
        clear h16
        cases he : val.toList.isEmpty
        all_goals
          have HE := Lib.hid he
          go_enter Try.func28, Try.ntmps28
          go_wp2_with fail
          refine (Hnm.out _).mono ?_
          rintro e w1 ⟨rfl, rfl⟩
          go_wp2_with fail
          go_ret
          exact ⟨by rw [HR.out, HE.out]; try rfl, Hnx.out _⟩
      · have hw : (1 ≤ way ∧ way ≤ 4) ↔ (way = 1 ∨ way = 2 ∨ way = 3) := by omega
        have HR : Hid (asksF ⟨nm, way, val⟩ = decide (way = 1 ∨ way = 2 ∨ way = 3)) := Lib.hid (by rw [HF.out, Hv.out, decide_eq_true h16, decide_eq_true h5]; simp [hw])
        have k4 : (way == 4) = false := by simpa using h5
        clear h16 hw
        by_cases e1 : way = 1
        · subst e1
          clear h5
          go_enter Try.func28, Try.ntmps28
          go_wp2_with fail
          refine (Hnm.out _).mono ?_
          rintro e w1 ⟨rfl, rfl⟩
          go_wp2_with fail
          go_ret
          exact ⟨by rw [HR.out]; rfl, Hnx.out _⟩
        by_cases e2 : way = 2
        · subst e2
          clear h5
          go_enter Try.func28, Try.ntmps28
          go_wp2_with fail
          refine (Hnm.out _).mono ?_
          rintro e w1 ⟨rfl, rfl⟩
          go_wp2_with fail
          go_ret
          exact ⟨by rw [HR.out]; rfl, Hnx.out _⟩
        by_cases e3 : way = 3
        · subst e3
          clear h5
          go_enter Try.func28, Try.ntmps28
          go_wp2_with fail
          refine (Hnm.out _).mono ?_
          rintro e w1 ⟨rfl, rfl⟩
          go_wp2_with fail
          go_ret
          exact ⟨by rw [HR.out]; rfl, Hnx.out _⟩
        have HR2 : Hid (asksF ⟨nm, way, val⟩ = false) := Lib.hid (by rw [HR.out]; exact decide_eq_false (by omega))
        have k1 : (way == 1) = false := by simpa using e1
        have k2 : (way == 2) = false := by simpa using e2
        have k3 : (way == 3) = false := by simpa using e3
        clear h5 e1 e2 e3
        go_enter Try.func28, Try.ntmps28
        go_wp2_with fail
        refine (Hnm.out _).mono ?_
        rintro e w1 ⟨rfl, rfl⟩
        go_wp2_with fail
        go_ret
        exact ⟨by rw [HR2.out]; rfl, Hnx.out _⟩
    · have k16 : (16 : Int) < (val.size : Int) := by omega
      have HR : Hid (asksF ⟨nm, way, val⟩ = false) := Lib.hid (by rw [HF.out, Hv.out, decide_eq_false h16]; rfl)
      clear h16
      go_enter Try.func28, Try.ntmps28
      go_wp2_with fail
      refine (Hnm.out _).mono ?_
      rintro e w1 ⟨rfl, rfl⟩
      go_wp2_with fail
      go_ret
      exact ⟨by rw [HR.out]; rfl, Hnx.out _⟩
theorem labR_bad {l : List Lab} {k : Nat} (h : k < l.length) (hf : labR l k = false) : rightF l = false := by
  rw [← right_ref, Bool.and_eq_false_iff]
  right
  rw [List.all_eq_false]
  exact ⟨k, List.mem_range.2 h, by rw [hf]; simp⟩
theorem labR_good {l : List Lab} (h4 : l.length ≤ 4) (h : ∀ i, i < l.length → labR l i = true) : rightF l = true := by
  rw [← right_ref, show ((List.range l.length).all fun i => labR l i) = true from all_range.2 h, decide_eq_true h4]
  rfl
theorem labR_long {l : List Lab} (h4 : ¬ l.length ≤ 4) : rightF l = false := by
  rw [← right_ref, decide_eq_false h4]
  rfl
section
variable {w : World} {D : Nat → Prop} {A : Option Addr} {n c : Nat} {l : List Lab}
set_option maxHeartbeats 4000000 in
theorem right8_any (hr : Rd w D 2 A n (lbl l)) (hl : l.length = n) (hn : n ≤ 1000000) (hsm : ∀ x ∈ l, x.small) :
    Calls Try.prog 31 #[.slice A n c] w fun e w' => e = .returned (.bool (rightF l)) ∧ Nx w w' := by
  have Hl := Lib.hid hl
  have Hsm := Lib.hid hsm
  by_cases h4 : n ≤ 4
  · have HG := Lib.hid (fun h => labR_good (l := l) (by omega) h)
    clear hl hsm
    go_enter Try.func31, Try.ntmps31
    go_wp2_with fail
    go_loopw [10] (fun i wr => ∃ k : Nat, k ≤ n ∧ i = .int .i64 (k : Int) ∧ Nx w wr ∧ Hid (∀ i, i < k → labR l i = true)) (fun i _ => n - (intOf i).toNat)
    case atStart => exact ⟨0, Nat.zero_le _, rfl, Ch.refl _ _, Lib.hid fun i hi => by omega⟩
    case round =>
      obtain ⟨w4, rfl⟩ : ∃ w4 : World, w4 = wr := ⟨_, rfl⟩
      obtain ⟨k, hk, rfl, hn4, He⟩ := hrel
      by_cases hlt : k < n
      · have hkl : k < l.length := by rw [Hl.out]; exact hlt
        obtain ⟨ad, rfl, hb, p0, p1⟩ := lab_at (hr.nx (by decide) hn4) hkl
        have hsx := Hsm.out _ (List.getElem_mem hkl)
        have hB := Lib.hid (fun h => labR_bad hkl h)
        have hnm := Lib.hid (fun w => name8_any l[k].name w hsx.1)
        have HF : Hid (labR l k = (nameF l[k].name && decide (l[k].value.size ≤ 16) && (List.range k).all fun j => bltF (labAt l j).name l[k].name)) := Lib.hid (by unfold labR; rw [lab_get hkl])
        have Hn4 := Lib.hid hn4
        have HRD := Lib.hid (fun w' (hn : Nx w4 w') => (hr.nx (by decide) hn4).nx (by decide) hn)
        clear hn4 hsx
        have Hx := Lib.hid (lab_get hkl)
        generalize l[k] = x at *
        cases hnv : nameF x.name
        · have Hk := Lib.hid (hB.out (by rw [HF.out, hnv]; rfl))
          rw [hnv] at hnm
          clear hnv
          go_wp2_with fail
          refine (hnm.out _).mono ?_
          rintro e w1 ⟨rfl, rfl⟩
          go_wp2_with fail
          go_ret
          exact ⟨by rw [Hk.out]; rfl, Hn4.out⟩
        · rw [hnv] at hnm
          by_cases hv : x.value.size ≤ 16
          · have hv1 : ¬ (16 : Int) < (x.value.size : Int) := by omega
            have HF2 : Hid (labR l k = (List.range k).all fun j => bltF (labAt l j).name x.name) := Lib.hid (by rw [HF.out, hnv, decide_eq_true hv]; rfl)
            clear hnv hv
            go_wp2_with fail
            refine (hnm.out _).mono ?_
            rintro e w1 ⟨rfl, rfl⟩
            go_wp2_with fail
            go_loopw [4] (fun i wr => ∃ j : Nat, j ≤ k ∧ i = .int .i64 (j : Int) ∧ Nx w4 wr ∧ Hid (∀ i, i < j → bltF (labAt l i).name x.name = true)) (fun i _ => k - (intOf i).toNat)
            case atStart => exact ⟨0, Nat.zero_le _, rfl, Ch.refl _ _, Lib.hid fun i hi => by omega⟩
            case round =>
              obtain ⟨w5, rfl⟩ : ∃ w5 : World, w5 = wr := ⟨_, rfl⟩
              obtain ⟨j, hj, rfl, hn5, Hj⟩ := hrel
              by_cases hjk : j < k
              · have hjl : j < l.length := by omega
                obtain ⟨ad2, e2, -, q0, -⟩ := lab_at (HRD.out _ hn5) hjl
                injection e2 with e2
                subst e2
                obtain ⟨ad3, e3, -, q2, -⟩ := lab_at (HRD.out _ hn5) hkl
                injection e3 with e3
                subst e3
                rw [← lab_get hjl] at q0
                rw [← lab_get hkl, Hx.out] at q2
                have hq := less_eq (labAt l j).name x.name
                have hjn : j < n := by omega
                have N5 := Lib.hid (Hn4.out.tr hn5)
                have N45 := Lib.hid hn5
                have HSt := Lib.hid (fun (h : bltF (labAt l j).name x.name = true) i (hi : i < j + 1) => (by
                  by_cases e : i = j
                  · subst e; exact h
                  · exact Hj.out i (by omega) : bltF (labAt l i).name x.name = true))
                have HBj := Lib.hid (fun (h : bltF (labAt l j).name x.name = false) => hB.out (by
                  rw [HF2.out, List.all_eq_false]
                  exact ⟨j, List.mem_range.2 hjk, by rw [h]; simp⟩))
                clear hn5 hkl hjl p0 p1
                generalize (labAt l j).name = pv at *
                cases hbl : bltF pv x.name
                · rw [hbl] at hq
                  have HR := Lib.hid (HBj.out hbl)
                  clear hbl HBj HSt
                  go_wp2_with fail
                  go_quiet (fail)
                  go_wp2_with fail
                  go_ret
                  exact ⟨by rw [HR.out]; rfl, N5.out.drewN _⟩
                · rw [hbl] at hq
                  have HR := Lib.hid (HSt.out hbl)
                  clear hbl HBj HSt
                  go_wp2_with fail
                  go_quiet (fail)
                  go_wp2_with fail
                  go_roundw
                  case rel => exact ⟨j + 1, by omega, by go_num, N45.out.drewN _, HR⟩
                  case measure => simp [intOf]; omega
              · have hjk2 : j = k := by omega
                have HR : Hid (∀ i, i < k + 1 → labR l i = true) := Lib.hid (fun i hi => by
                  by_cases e : i = k
                  · subst e
                    rw [HF2.out]
                    exact all_range.2 fun i hi => Hj.out i (by omega)
                  · exact He.out i (by omega))
                have N5 := Lib.hid (Hn4.out.tr hn5)
                clear hn5
                subst hjk2
                go_wp2_with fail
                go_roundw
                case rel => exact ⟨j + 1, by omega, by go_num, N5.out, HR⟩
                case measure => simp [intOf]; omega
          · have hv1 : (16 : Int) < (x.value.size : Int) := by omega
            have Hk := Lib.hid (hB.out (by rw [HF.out, hnv, decide_eq_false hv]; rfl))
            clear hnv
            go_wp2_with fail
            refine (hnm.out _).mono ?_
            rintro e w1 ⟨rfl, rfl⟩
            go_wp2_with fail
            go_ret
            exact ⟨by rw [Hk.out]; rfl, Hn4.out⟩
      · have HR := Lib.hid (HG.out fun i hi => He.out i (by have := Hl.out; omega))
        have Hn4 := Lib.hid hn4
        clear hn4
        have hkn : k = n := by omega
        go_wp2_with fail
        go_ret
        exact ⟨by rw [HR.out]; rfl, Hn4.out⟩
  · have HR := Lib.hid (labR_long (l := l) (by omega))
    have h4' : (4 : Int) < (n : Int) := by omega
    clear hl hsm
    go_enter Try.func31, Try.ntmps31
    go_wp2_with fail
    go_ret
    exact ⟨by rw [HR.out]; rfl, Ch.refl _ _⟩
end
end Go.Proofs.Ytbgeddlakcaikaa
