/- The contract of package label's Meets. Conditions: none. · The contracts of the reference's Asks and Right (layer 8). Conditions: none. -/
import Derived.Test.YtihocfdnkongkaaKrQ8
import Derived.Test.YtihocfdnkongkaaKrQ3
namespace Go.Proofs.Ytihocfdnkongkaa
set_option maxRecDepth 100000
open Go.RowKit
set_option linter.unusedVariables false
theorem getF_mem : ∀ {l : List Lab} {n v : ByteArray}, getF l n = some v → ∃ x ∈ l, x.value = v
  | [], n, v, h => by simp [getF] at h
  | x :: l, n, v, h => by
    unfold getF at h
    by_cases e : x.name = n
    · rw [if_pos e] at h
      injection h with h
      exact ⟨x, List.mem_cons_self, h⟩
    · rw [if_neg e] at h
      obtain ⟨y, hy, e2⟩ := getF_mem h
      exact ⟨y, List.mem_cons_of_mem _ hy, e2⟩
section
variable {w : World} {D D2 : Nat → Prop} {A B : Option Addr} {n c m d : Nat} {l : List Lab} {ms : List Mat}
set_option maxHeartbeats 8000000 in
theorem meets_any (hr : Rd w D 2 A n (lbl l)) (hl : l.length = n) (hn : n ≤ 1000000) (hsm : ∀ x ∈ l, x.small) (hr2 : Rd w D2 3 B m (mtl ms)) (hm : ms.length = m) (hmn : m ≤ 1000000) (hsm2 : ∀ x ∈ ms, x.small) :
    Calls Try.prog 24 #[.slice A n c, .slice B m d] w fun e w' => e = .returned (.bool (meetsF l ms)) ∧ Nx w w' := by
  have Hl := Lib.hid hl
  have Hm := Lib.hid hm
  have Hrt := Lib.hid (right_any (c := c) hr hl hn hsm)
  have Hget := Lib.hid (fun w' (hn' : Nx w w') nm => get_any (c := c) (hr.nx (by decide) hn') hl nm hn)
  have Hsm := Lib.hid hsm
  have Hsm2 := Lib.hid hsm2
  have hfin : meetsF l ms = (rightF l && ms.all fun x => asksF x && wayF x (getF l x.name)) := rfl
  have Hfin := Lib.hid hfin
  clear hl hm hsm hsm2 hfin hr
  go_enter Try.func24, Try.ntmps24
  go_wp2_with fail
  refine Hrt.out.mono ?_
  rintro e w1 ⟨rfl, n1⟩
  go_wp2_with fail
  go_loopw [5, 14] (fun s5 i wr => ∃ (k : Nat) (b : Bool), k ≤ m ∧ i = .int .i64 (k : Int) ∧ s5 = .bool b ∧ Nx w wr ∧ Hid (b = (rightF l && (ms.take k).all fun x => wayF x (getF l x.name))) ∧ Hid ((ms.take k).all asksF = true)) (fun _ i _ => m - (intOf i).toNat)
  case atStart => exact ⟨0, _, Nat.zero_le _, rfl, rfl, n1, Lib.hid (by simp), Lib.hid (by simp)⟩
  case round =>
    obtain ⟨w4, rfl⟩ : ∃ w4 : World, w4 = wr := ⟨_, rfl⟩
    obtain ⟨k, b, hk, rfl, rfl, hn4, Hb, Ha⟩ := hrel
    by_cases hlt : k < m
    · have hkl : k < ms.length := by rw [Hm.out]; exact hlt
      obtain ⟨ad, rfl, hb, p0, p1, p2⟩ := mat_at (hr2.nx (by decide) hn4) hkl
      have hsx := Hsm2.out _ (List.getElem_mem hkl)
      have HT := Lib.hid (List.take_succ_eq_append_getElem hkl)
      have HD := Lib.hid (fun (h : asksF ms[k] = false) => show meetsF l ms = false by
        rw [Hfin.out, Bool.and_eq_false_iff]
        right
        rw [List.all_eq_false]
        exact ⟨_, List.getElem_mem hkl, by rw [h]; simp⟩)
      have Hg := Lib.hid (fun o => Hget.out _ (hn4.alloc o) ms[k].name)
      have hak := fun w => asks_any ms[k] hsx w
      generalize ms[k] = x at *
      obtain ⟨nm, way, val⟩ := x
      simp only at p0 p1 p2 hsx HT HD Hg hak
      have HB := Lib.hid (Blk.new w4 65 #[.string nm, .int .i64 way, .string val])
      have Hn4 := Lib.hid hn4
      have HVal : Hid (val.size ≤ 9223372036854775807) := Lib.hid hsx.2.1
      clear hn4 hsx
      cases hav : asksF ⟨nm, way, val⟩
      · rw [hav] at hak
        have Hak := Lib.hid hak
        have HR := Lib.hid (HD.out hav)
        clear hak hav
        go_wp2_with fail
        refine (Hg.out _).mono ?_
        rintro e w5 ⟨rfl, n5⟩
        have hb5 := HB.out.nx n5
        have q0 : w5.cell? ⟨w4.heap.size, 0, none⟩ = some (.string nm) := hb5.cell 0
        have q1 : w5.cell? ⟨w4.heap.size, 1, none⟩ = some (.int .i64 way) := hb5.cell 1
        have q2 : w5.cell? ⟨w4.heap.size, 2, none⟩ = some (.string val) := hb5.cell 2
        have N5 := Lib.hid ((Hn4.out.alloc _).tr n5)
        clear n5 hb5
        go_wp2_with fail
        refine (Hak.out _).mono ?_
        rintro e w6 ⟨rfl, n6⟩
        go_wp2_with fail
        go_ret
        exact ⟨by rw [HR.out]; rfl, N5.out.tr n6⟩
      · rw [hav] at hak
        have Hak := Lib.hid hak
        have hway : way = 1 ∨ way = 2 ∨ way = 3 ∨ way = 4 := by
          unfold asksF at hav
          simp only [Bool.and_eq_true, decide_eq_true_eq] at hav
          have := hav.1.2
          omega
        have HA2 : Hid ((ms.take (k + 1)).all asksF = true) := Lib.hid (by rw [HT.out, List.all_append, Ha.out]; simp [hav])
        have HW : Hid (∀ r, (b && wayF ⟨nm, way, val⟩ (getF l nm)) = r → r = (rightF l && (ms.take (k + 1)).all fun x => wayF x (getF l x.name))) := Lib.hid (fun r h => by
          rw [← h, HT.out, List.all_append, Hb.out, Bool.and_assoc]
          simp)
        have Hov := Lib.hid (fun v (h : getF l nm = some v) => getF_mem h)
        generalize getF l nm = o at *
        clear hak hav
        have hfq : ∀ v : ByteArray, (v.toList == val.toList) = decide (v = val) := fun v => str_eq v val
        have Hfq := Lib.hid hfq
        clear hfq
        rcases hway with rfl | rfl | rfl | rfl
        all_goals
          cases b
          all_goals
            rcases o with _ | v
            all_goals
              go_wp2_with fail
              refine (Hg.out _).mono ?_
              rintro e w5 ⟨rfl, n5⟩
              have hb5 := HB.out.nx n5
              have q0 : w5.cell? ⟨w4.heap.size, 0, none⟩ = some (.string nm) := hb5.cell 0
              have q1 := hb5.cell 1
              have q2 : w5.cell? ⟨w4.heap.size, 2, none⟩ = some (.string val) := hb5.cell 2
              simp only [List.getElem?_toArray, List.getElem?_cons_succ, List.getElem?_cons_zero] at q1
              have N5 := Lib.hid ((Hn4.out.alloc _).tr n5)
              have HB5 := Lib.hid hb5
              clear n5 hb5
              simp only [Option.getD_none, Option.getD_some, Option.isSome_none, Option.isSome_some]
              go_wp2_with fail
              refine (Hak.out _).mono ?_
              rintro e w6 ⟨rfl, n6⟩
              have hb6 := HB5.out.nx n6
              have z0 : w6.cell? ⟨w4.heap.size, 0, none⟩ = some (.string nm) := hb6.cell 0
              have z1 := hb6.cell 1
              have z2 : w6.cell? ⟨w4.heap.size, 2, none⟩ = some (.string val) := hb6.cell 2
              simp only [List.getElem?_toArray, List.getElem?_cons_succ, List.getElem?_cons_zero] at z1
              have N6 := Lib.hid (N5.out.tr n6)
              clear n6 hb6 q0 q1 q2
              go_wp2_with fail
              first
              | (go_roundw
                 case rel => exact ⟨k + 1, _, by omega, by go_num, rfl, N6.out, Lib.hid (HW.out _ (by simp [wayF, Hfq.out])), HA2⟩
                 case measure => simp [intOf]; omega)
              | (refine (hasp_any v val _ (by obtain ⟨y, hy, e⟩ := Hov.out v rfl; rw [← e]; exact (Hsm.out y hy).2) HVal.out).mono ?_
                 rintro e w7 ⟨rfl, rfl⟩
                 go_wp2_with fail
                 go_roundw
                 case rel => exact ⟨k + 1, _, by omega, by go_num, rfl, N6.out, Lib.hid (HW.out _ (by simp [wayF])), HA2⟩
                 case measure => simp [intOf]; omega)
    · have hkk : ms.take k = ms := List.take_of_length_le (by rw [Hm.out]; omega)
      have HR : Hid (meetsF l ms = b) := Lib.hid (by
        have ha := Ha.out
        have hb := Hb.out
        rw [hkk] at ha hb
        rw [Hfin.out, hb]
        congr 1
        rw [List.all_eq_true] at ha
        rw [Bool.eq_iff_iff, List.all_eq_true, List.all_eq_true]
        exact ⟨fun h x hx => by have := h x hx; rw [ha x hx, Bool.true_and] at this; exact this, fun h x hx => by rw [ha x hx, Bool.true_and]; exact h x hx⟩)
      have Hn4 := Lib.hid hn4
      clear hn4 hkk
      go_wp2_with fail
      go_ret
      exact ⟨by rw [HR.out]; rfl, Hn4.out⟩
end
end Go.Proofs.Ytihocfdnkongkaa
namespace Go.Proofs.Ytihocfdnkongkaa
set_option maxRecDepth 100000
open Go.RowKit
set_option linter.unusedVariables false
theorem labR_bad {l : List Lab} {k : Nat} (h : k < l.length) (hf : labR l k = false) : rightF l = false := by
  rw [← right_ref, Bool.and_eq_false_iff]
  right
  rw [List.all_eq_false]
  exact ⟨k, List.mem_range.2 h, by rw [hf]; simp⟩
theorem labR_good {l : List Lab} (h4 : l.length ≤ 4) (h : ∀ i, i < l.length → labR l i = true) : rightF l = true := by
  rw [← right_ref, show ((List.range l.length).all fun i => labR l i) = true from all_range.2 h, decide_eq_true h4]
  rfl
theorem labR_long {l : List Lab} (h4 : ¬ l.length ≤ 4) : rightF l = false := by
  rw [← right_ref, decide_eq_false h4]
  rfl
section
variable {w : World} {D : Nat → Prop} {A : Option Addr} {n c : Nat} {l : List Lab}
set_option maxHeartbeats 4000000 in
theorem right8_any (hr : Rd w D 2 A n (lbl l)) (hl : l.length = n) (hn : n ≤ 1000000) (hsm : ∀ x ∈ l, x.small) :
    Calls Try.prog 12 #[.slice A n c] w fun e w' => e = .returned (.bool (rightF l)) ∧ Nx w w' := by
  have Hl := Lib.hid hl
  have Hsm := Lib.hid hsm
  by_cases h4 : n ≤ 4
  · have HG := Lib.hid (fun h => labR_good (l := l) (by omega) h)
    clear hl hsm
    go_enter Try.func12, Try.ntmps12
    go_wp2_with fail
    go_loopw [10] (fun i wr => ∃ k : Nat, k ≤ n ∧ i = .int .i64 (k : Int) ∧ Nx w wr ∧ Hid (∀ i, i < k → labR l i = true)) (fun i _ => n - (intOf i).toNat)
    case atStart => exact ⟨0, Nat.zero_le _, rfl, Ch.refl _ _, Lib.hid fun i hi => by omega⟩
    case round =>
      obtain ⟨w4, rfl⟩ : ∃ w4 : World, w4 = wr := ⟨_, rfl⟩
      obtain ⟨k, hk, rfl, hn4, He⟩ := hrel
      by_cases hlt : k < n
      · have hkl : k < l.length := by rw [Hl.out]; exact hlt
        obtain ⟨ad, rfl, hb, p0, p1⟩ := lab_at (hr.nx (by decide) hn4) hkl
        have hsx := Hsm.out _ (List.getElem_mem hkl)
        have hB := Lib.hid (fun h => labR_bad hkl h)
        have hnm := Lib.hid (fun w => name8_any l[k].name w hsx.1)
        have HF : Hid (labR l k = (nameF l[k].name && decide (l[k].value.size ≤ 16) && (List.range k).all fun j => bltF (labAt l j).name l[k].name)) := Lib.hid (by unfold labR; rw [lab_get hkl])
        have Hn4 := Lib.hid hn4
        have HRD := Lib.hid (fun w' (hn : Nx w4 w') => (hr.nx (by decide) hn4).nx (by decide) hn)
        clear hn4 hsx
        have Hx := Lib.hid (lab_get hkl)
        generalize l[k] = x at *
        cases hnv : nameF x.name
        · have Hk := Lib.hid (hB.out (by rw [HF.out, hnv]; rfl))
          rw [hnv] at hnm
          clear hnv
          go_wp2_with fail
          refine (hnm.out _).mono ?_
          rintro e w1 ⟨rfl, rfl⟩
          go_wp2_with fail
          go_ret
          exact ⟨by rw [Hk.out]; rfl, Hn4.out⟩
        · rw [hnv] at hnm
          by_cases hv : x.value.size ≤ 16
          · have hv1 : ¬ (16 : Int) < (x.value.size : Int) := by omega
            have HF2 : Hid (labR l k = (List.range k).all fun j => bltF (labAt l j).name x.name) := Lib.hid (by rw [HF.out, hnv, decide_eq_true hv]; rfl)
            clear hnv hv
            go_wp2_with fail
            refine (hnm.out _).mono ?_
            rintro e w1 ⟨rfl, rfl⟩
            go_wp2_with fail
            go_loopw [4] (fun i wr => ∃ j : Nat, j ≤ k ∧ i = .int .i64 (j : Int) ∧ Nx w4 wr ∧ Hid (∀ i, i < j → bltF (labAt l i).name x.name = true)) (fun i _ => k - (intOf i).toNat)
            case atStart => exact ⟨0, Nat.zero_le _, rfl, Ch.refl _ _, Lib.hid fun i hi => by omega⟩
            case round =>
              obtain ⟨w5, rfl⟩ : ∃ w5 : World, w5 = wr := ⟨_, rfl⟩
              obtain ⟨j, hj, rfl, hn5, Hj⟩ := hrel
              by_cases hjk : j < k
              · have hjl : j < l.length := by omega
                obtain ⟨ad2, e2, -, q0, -⟩ := lab_at (HRD.out _ hn5) hjl
                injection e2 with e2
                subst e2
                obtain ⟨ad3, e3, -, q2, -⟩ := lab_at (HRD.out _ hn5) hkl
                injection e3 with e3
                subst e3
                rw [← lab_get hjl] at q0
                rw [← lab_get hkl, Hx.out] at q2
                have hq := less_eq (labAt l j).name x.name
                have hjn : j < n := by omega
                have N5 := Lib.hid (Hn4.out.tr hn5)
                have N45 := Lib.hid hn5
                have HSt := Lib.hid (fun (h : bltF (labAt l j).name x.name = true) i (hi : i < j + 1) => (by
                  by_cases e : i = j
                  · subst e; exact h
                  · exact Hj.out i (by omega) : bltF (labAt l i).name x.name = true))
                have HBj := Lib.hid (fun (h : bltF (labAt l j).name x.name = false) => hB.out (by
                  rw [HF2.out, List.all_eq_false]
                  exact ⟨j, List.mem_range.2 hjk, by rw [h]; simp⟩))
                clear hn5 hkl hjl p0 p1
                generalize (labAt l j).name = pv at *
                cases hbl : bltF pv x.name
                · rw [hbl] at hq
                  have HR := Lib.hid (HBj.out hbl)
                  clear hbl HBj HSt
                  go_wp2_with fail
                  go_quiet (fail)
                  go_wp2_with fail
                  go_ret
                  exact ⟨by rw [HR.out]; rfl, N5.out.drewN _⟩
                · rw [hbl] at hq
                  have HR := Lib.hid (HSt.out hbl)
                  clear hbl HBj HSt
                  go_wp2_with fail
                  go_quiet (fail)
                  go_wp2_with fail
                  go_roundw
                  case rel => exact ⟨j + 1, by omega, by go_num, N45.out.drewN _, HR⟩
                  case measure => simp [intOf]; omega
              · have hjk2 : j = k := by omega
                have HR : Hid (∀ i, i < k + 1 → labR l i = true) := Lib.hid (fun i hi => by
                  by_cases e : i = k
                  · subst e
                    rw [HF2.out]
                    exact all_range.2 fun i hi => Hj.out i (by omega)
                  · exact He.out i (by omega))
                have N5 := Lib.hid (Hn4.out.tr hn5)
                clear hn5
                subst hjk2
                go_wp2_with fail
                go_roundw
                case rel => exact ⟨j + 1, by omega, by go_num, N5.out, HR⟩
                case measure => simp [intOf]; omega
          · have hv1 : (16 : Int) < (x.value.size : Int) := by omega
            have Hk := Lib.hid (hB.out (by rw [HF.out, hnv, decide_eq_false hv]; rfl))
            clear hnv
            go_wp2_with fail
            refine (hnm.out _).mono ?_
            rintro e w1 ⟨rfl, rfl⟩
            go_wp2_with fail
            go_ret
            exact ⟨by rw [Hk.out]; rfl, Hn4.out⟩
      · have HR := Lib.hid (HG.out fun i hi => He.out i (by have := Hl.out; omega))
        have Hn4 := Lib.hid hn4
        clear hn4
        have hkn : k = n := by omega
        go_wp2_with fail
        go_ret
        exact ⟨by rw [HR.out]; rfl, Hn4.out⟩
  · have HR := Lib.hid (labR_long (l := l) (by omega))
    have h4' : (4 : Int) < (n : Int) := by omega
    clear hl hsm
    go_enter Try.func12, Try.ntmps12
    go_wp2_with fail
    go_ret
    exact ⟨by rw [HR.out]; rfl, Ch.refl _ _⟩
end
end Go.Proofs.Ytihocfdnkongkaa
