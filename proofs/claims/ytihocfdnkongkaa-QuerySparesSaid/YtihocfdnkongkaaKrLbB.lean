/- The contracts of package label's Right, Get, Asks. Conditions: none. -/
import Derived.Test.YtihocfdnkongkaaKrQ3
import Derived.Test.YtihocfdnkongkaaKrOrd
import Derived.Lib.RowBridge
import Derived.Sort.Walk0
namespace Go.Proofs.Ytihocfdnkongkaa
set_option maxRecDepth 100000
open Go.RowKit
set_option linter.unusedVariables false
theorem less_eq (a b : ByteArray) : Op.bytesLess a.toList b.toList = bltF a b := by
  unfold bltF
  rw [Proofs.bytesLess_eq, ByteArray.toList_eq, ByteArray.toList_eq]
theorem str_eq (a b : ByteArray) : (a.toList == b.toList) = decide (a = b) := by
  rw [Bool.eq_iff_iff, beq_iff_eq, decide_eq_true_iff]
  constructor
  · intro h
    rw [ByteArray.toList_eq, ByteArray.toList_eq] at h
    cases a; cases b
    simpa [Array.ext_iff] using congrArg List.toArray h
  · rintro rfl; rfl
theorem lab_get {l : List Lab} {k : Nat} (h : k < l.length) : labAt l k = l[k] := by
  unfold labAt
  rw [List.getD_eq_getElem?_getD, List.getElem?_eq_getElem h]
  rfl
section
variable {w : World} {D : Nat → Prop} {A : Option Addr} {n c : Nat} {l : List Lab}
set_option maxHeartbeats 4000000 in
theorem get_any (hr : Rd w D 2 A n (lbl l)) (hl : l.length = n) (nm : ByteArray) (hn : n ≤ 1000000) :
    Calls Try.prog 23 #[.slice A n c, .string nm] w fun e w' => e = .returned (.tuple #[.string ((getF l nm).getD ⟨#[]⟩), .bool (getF l nm).isSome]) ∧ Nx w w' := by
  have Hl := Lib.hid hl
  clear hl
  go_enter Try.func23, Try.ntmps23
  go_wp2_with fail
  go_loopw [10] (fun i wr => ∃ k : Nat, k ≤ n ∧ i = .int .i64 (k : Int) ∧ Nx w wr ∧ Hid (getF l nm = getF (l.drop k) nm)) (fun i _ => n - (intOf i).toNat)
  case atStart => exact ⟨0, Nat.zero_le _, rfl, Ch.refl _ _, Lib.hid rfl⟩
  case round =>
    obtain ⟨w4, rfl⟩ : ∃ w4 : World, w4 = wr := ⟨_, rfl⟩
    obtain ⟨k, hk, rfl, hn4, He⟩ := hrel
    by_cases hlt : k < n
    · have hkl : k < l.length := by rw [Hl.out]; exact hlt
      obtain ⟨ad, rfl, hb, p0, p1⟩ := lab_at (hr.nx (by decide) hn4) hkl
      have Hd := Lib.hid (List.drop_eq_getElem_cons hkl)
      have hq := str_eq l[k].name nm
      have Hn4 := Lib.hid hn4
      clear hn4
      generalize l[k] = x at *
      by_cases he : x.name = nm
      · have he2 : (x.name.toList == nm.toList) = true := by rw [hq]; simpa using he
        have Hr : Hid (getF l nm = some x.value) := Lib.hid (by rw [He.out, Hd.out]; unfold getF; rw [if_pos he])
        clear he hq
        go_wp2_with fail
        exact bodyPost_ret (v := .tuple #[.string x.value, .bool true]) (by simp [results, Try.results23, go_sem]) rfl ⟨by rw [Hr.out]; rfl, Hn4.out.alloc _⟩
      · have he2 : (x.name.toList == nm.toList) = false := by rw [hq]; simpa using he
        have Hr : Hid (getF l nm = getF (l.drop (k + 1)) nm) := Lib.hid (by rw [He.out, Hd.out]; unfold getF; rw [if_neg he]; cases l.drop (k + 1) <;> rfl)
        clear he hq
        go_wp2_with fail
        go_roundw
        case rel => exact ⟨k + 1, by omega, by go_num, Hn4.out.alloc _, Hr⟩
        case measure => simp [intOf]; omega
    · obtain rfl : k = n := by omega
      have Hr : Hid (getF l nm = none) := Lib.hid (by rw [He.out, List.drop_of_length_le (by rw [Hl.out]; exact Nat.le_refl _)]; rfl)
      have Hn4 := Lib.hid hn4
      clear hn4
      go_wp2_with fail
      exact bodyPost_ret (v := .tuple #[.string ⟨#[]⟩, .bool false]) (by simp [results, Try.results23, go_sem]) rfl ⟨by rw [Hr.out]; rfl, Hn4.out⟩
set_option maxHeartbeats 4000000 in
theorem right_any (hr : Rd w D 2 A n (lbl l)) (hl : l.length = n) (hn : n ≤ 1000000) (hsm : ∀ x ∈ l, x.small) :
    Calls Try.prog 32 #[.slice A n c] w fun e w' => e = .returned (.bool (rightF l)) ∧ Nx w w' := by
  have hbad : ∀ k, k < l.length → labF l k = false → rightF l = false := fun k h hf => by
    unfold rightF
    rw [Bool.and_eq_false_iff]
    right
    rw [List.all_eq_false]
    exact ⟨k, List.mem_range.2 h, by rw [hf]; simp⟩
  have hgood : (∀ i, i < l.length → labF l i = true) → rightF l = decide (l.length ≤ 4) := fun h => by
    unfold rightF
    rw [show ((List.range l.length).all fun i => labF l i) = true from all_range.2 h, Bool.and_true]
  have Hl := Lib.hid hl
  have Hbad := Lib.hid hbad
  have Hgood := Lib.hid hgood
  have Hsm := Lib.hid hsm
  clear hl hbad hgood hsm
  go_enter Try.func32, Try.ntmps32
  go_wp2_with fail
  go_loopw [7] (fun i wr => ∃ k : Nat, k ≤ n ∧ i = .int .i64 (k : Int) ∧ Nx w wr ∧ Hid (∀ i, i < k → labF l i = true)) (fun i _ => n - (intOf i).toNat)
  case atStart => exact ⟨0, Nat.zero_le _, rfl, Ch.refl _ _, Lib.hid fun i hi => by omega⟩
  case round =>
    obtain ⟨w4, rfl⟩ : ∃ w4 : World, w4 = wr := ⟨_, rfl⟩
    obtain ⟨k, hk, rfl, hn4, He⟩ := hrel
    by_cases hlt : k < n
    · have hkl : k < l.length := by rw [Hl.out]; exact hlt
      obtain ⟨ad, rfl, hb, p0, p1⟩ := lab_at (hr.nx (by decide) hn4) hkl
      have hsx := Hsm.out _ (List.getElem_mem hkl)
      have hB := Lib.hid (fun h => Hbad.out k hkl h)
      have hG : Hid (labF l k = true → ∀ i, i < k + 1 → labF l i = true) := Lib.hid (fun h i hi => by
        by_cases e : i = k
        · subst e; exact h
        · exact He.out i (by omega))
      have hnm := fun w => name_any l[k].name w hsx.1
      have HF : Hid (labF l k = (nameF l[k].name && decide (l[k].value.size ≤ 16) && (decide (k = 0) || bltF (labAt l (k - 1)).name l[k].name))) := Lib.hid (by unfold labF; rw [lab_get hkl])
      obtain ⟨j, hj⟩ : ∃ j, k - 1 = j := ⟨_, rfl⟩
      have hprev : 0 < k → ∃ pv : ByteArray, (labAt l j).name = pv ∧ ∀ o, (w4.alloc o).cell? (ad.add (j * 2)) = some (.string pv) := fun h0 => by
        have hjl : j < l.length := by omega
        obtain ⟨ad2, e2, _, q0, _⟩ := lab_at (hr.nx (by decide) hn4) hjl
        injection e2 with e2
        subst e2
        refine ⟨_, by rw [lab_get hjl], fun o => ?_⟩
        exact (World.cell?_alloc_lt w4 o _ (World.block_lt_of_cell? w4 _ q0)).trans q0
      rw [hj] at HF
      have Hn4 := Lib.hid hn4
      clear hn4 hsx
      generalize l[k] = x at *
      have Hnm := Lib.hid hnm
      clear hnm
      cases hnv : nameF x.name
      · have Hk := Lib.hid (hB.out (by rw [HF.out, hnv]; rfl))
        rw [hnv] at Hnm
        clear hnv
        go_wp2_with fail
        go_quiet ((first | (go_at_call 47; exact quiet_left (Hnm.out _))))
        go_wp2_with fail
        go_ret
        exact ⟨by rw [Hk.out]; rfl, (Hn4.out.alloc _).drewN _⟩
      · rw [hnv] at Hnm
        by_cases hv : x.value.size ≤ 16
        · have hv1 : ¬ (16 : Int) < (x.value.size : Int) := by omega
          by_cases h0 : 0 < k
          · obtain ⟨pv, hpv, q0⟩ := hprev h0
            have h0' : (0 : Int) < (k : Int) := by omega
            have kj : (k : Int) - 1 = (j : Int) := by omega
            have kw : IntKind.i64.wrap (j : Int) = (j : Int) := IntWalk.i64_in _ (by omega)
            have kb : (j : Int) < (n : Int) := by omega
            have kb2 : j < n := by omega
            cases hbl : bltF pv x.name
            · have Hk := Lib.hid (hB.out (by rw [HF.out, hnv, hpv, hbl, decide_eq_false (show ¬ k = 0 by omega)]; simp))
              have hq : Op.bytesLess pv.toList x.name.toList = false := by rw [less_eq]; exact hbl
              clear hnv hbl hprev hpv hj
              go_wp2_with fail
              go_quiet ((first | (go_at_call 47; exact quiet_left (Hnm.out _))))
              go_wp2_with fail
              go_ret
              exact ⟨by rw [Hk.out]; rfl, (Hn4.out.alloc _).drewN _⟩
            · have Hk := Lib.hid (hG.out (by rw [HF.out, hnv, hpv, hbl, decide_eq_true hv]; simp))
              have hq : Op.bytesLess pv.toList x.name.toList = true := by rw [less_eq]; exact hbl
              clear hnv hbl hprev hpv hj
              go_wp2_with fail
              go_quiet ((first | (go_at_call 47; exact quiet_left (Hnm.out _))))
              go_wp2_with fail
              go_roundw
              case rel => exact ⟨k + 1, by omega, by go_num, (Hn4.out.alloc _).drewN _, Lib.hid Hk.out⟩
              case measure => simp [intOf]; omega
          · have Hk := Lib.hid (hG.out (by rw [HF.out, hnv, decide_eq_true hv, decide_eq_true (show k = 0 by omega)]; rfl))
            have hA : decide (0 < k) = false := by rw [decide_eq_false_iff_not]; exact h0
            have hV : decide ((16 : Int) < (x.value.size : Int)) = false := by rw [decide_eq_false_iff_not]; exact hv1
            clear hnv hprev hj h0 hv1 hv
            go_wp2_with fail
            go_quiet ((first | (go_at_call 47; exact quiet_left (Hnm.out _))))
            go_wp2_with fail
            go_roundw
            case rel => exact ⟨k + 1, by omega, by go_num, (Hn4.out.alloc _).drewN _, Lib.hid Hk.out⟩
            case measure => simp [intOf]; omega
        · have hv1 : (16 : Int) < (x.value.size : Int) := by omega
          have Hk := Lib.hid (hB.out (by rw [HF.out, hnv, decide_eq_false hv]; rfl))
          clear hnv hprev hj
          go_wp2_with fail
          go_quiet ((first | (go_at_call 47; exact quiet_left (Hnm.out _))))
          go_wp2_with fail
          go_ret
          exact ⟨by rw [Hk.out]; rfl, (Hn4.out.alloc _).drewN _⟩
    · have Hk := Lib.hid (Hgood.out fun i hi => He.out i (by have := Hl.out; omega))
      have hkn : k = n := by omega
      have e : Hid (decide (l.length ≤ 4) = decide ((n : Int) ≤ 4)) := Lib.hid (by rw [Hl.out, decide_eq_decide]; omega)
      have Hn4 := Lib.hid hn4
      clear hn4
      go_wp2_with fail
      go_ret
      exact ⟨by rw [Hk.out, e.out]; rfl, Hn4.out⟩
end
end Go.Proofs.Ytihocfdnkongkaa
