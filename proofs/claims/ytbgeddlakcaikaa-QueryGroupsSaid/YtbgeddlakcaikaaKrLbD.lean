/- The contract of package label's Meets. Conditions: none. -/
import Derived.Test.YtbgeddlakcaikaaKrQ3
namespace Go.Proofs.Ytbgeddlakcaikaa
set_option maxRecDepth 100000
open Go.RowKit
set_option linter.unusedVariables false
theorem getF_mem : ∀ {l : List Lab} {n v : ByteArray}, getF l n = some v → ∃ x ∈ l, x.value = v
  | [], n, v, h => by simp [getF] at h
  | x :: l, n, v, h => by
    unfold getF at h
    by_cases e : x.name = n
    · rw [if_pos e] at h
      injection h with h
      exact ⟨x, List.mem_cons_self, h⟩
    · rw [if_neg e] at h
      obtain ⟨y, hy, e2⟩ := getF_mem h
      exact ⟨y, List.mem_cons_of_mem _ hy, e2⟩
section
variable {w : World} {D D2 : Nat → Prop} {A B : Option Addr} {n c m d : Nat} {l : List Lab} {ms : List Mat}
set_option maxHeartbeats 8000000 in
theorem meets_any (hr : Rd w D 2 A n (lbl l)) (hl : l.length = n) (hn : n ≤ 1000000) (hsm : ∀ x ∈ l, x.small) (hr2 : Rd w D2 3 B m (mtl ms)) (hm : ms.length = m) (hmn : m ≤ 1000000) (hsm2 : ∀ x ∈ ms, x.small) :
    Calls Try.prog 14 #[.slice A n c, .slice B m d] w fun e w' => e = .returned (.bool (meetsF l ms)) ∧ Nx w w' := by
  have Hl := Lib.hid hl
  have Hm := Lib.hid hm
  have Hrt := Lib.hid (right_any (c := c) hr hl hn hsm)
  have Hget := Lib.hid (fun w' (hn' : Nx w w') nm => get_any (c := c) (hr.nx (by decide) hn') hl nm hn)
  have Hsm := Lib.hid hsm
  have Hsm2 := Lib.hid hsm2
  have hfin : meetsF l ms = (rightF l && ms.all fun x => asksF x && wayF x (getF l x.name)) := rfl
  have Hfin := Lib.hid hfin
  clear hl hm hsm hsm2 hfin hr
  go_enter Try.func14, Try.ntmps14
  go_wp2_with fail
  refine Hrt.out.mono ?_
  rintro e w1 ⟨rfl, n1⟩
  go_wp2_with fail
  go_loopw [5, 14] (fun s5 i wr => ∃ (k : Nat) (b : Bool), k ≤ m ∧ i = .int .i64 (k : Int) ∧ s5 = .bool b ∧ Nx w wr ∧ Hid (b = (rightF l && (ms.take k).all fun x => wayF x (getF l x.name))) ∧ Hid ((ms.take k).all asksF = true)) (fun _ i _ => m - (intOf i).toNat)
  case atStart => exact ⟨0, _, Nat.zero_le _, rfl, rfl, n1, Lib.hid (by simp), Lib.hid (by simp)⟩
  case round =>
    obtain ⟨w4, rfl⟩ : ∃ w4 : World, w4 = wr := ⟨_, rfl⟩
    obtain ⟨k, b, hk, rfl, rfl, hn4, Hb, Ha⟩ := hrel
    by_cases hlt : k < m
    · have hkl : k < ms.length := by rw [Hm.out]; exact hlt
      obtain ⟨ad, rfl, hb, p0, p1, p2⟩ := mat_at (hr2.nx (by decide) hn4) hkl
      have hsx := Hsm2.out _ (List.getElem_mem hkl)
      have HT := Lib.hid (List.take_succ_eq_append_getElem hkl)
      have HD := Lib.hid (fun (h : asksF ms[k] = false) => show meetsF l ms = false by
        rw [Hfin.out, Bool.and_eq_false_iff]
        right
        rw [List.all_eq_false]
        exact ⟨_, List.getElem_mem hkl, by rw [h]; simp⟩)
      have Hg := Lib.hid (fun o => Hget.out _ (hn4.alloc o) ms[k].name)
      have hak := fun w => asks_any ms[k] hsx w
      generalize ms[k] = x at *
      obtain ⟨nm, way, val⟩ := x
      simp only at p0 p1 p2 hsx HT HD Hg hak
      have HB := Lib.hid (Blk.new w4 67 #[.string nm, .int .i64 way, .string val])
      have Hn4 := Lib.hid hn4
      have HVal : Hid (val.size ≤ 9223372036854775807) := Lib.hid hsx.2.1
      clear hn4 hsx
      cases hav : asksF ⟨nm, way, val⟩
      · rw [hav] at hak
        have Hak := Lib.hid hak
        have HR := Lib.hid (HD.out hav)
        clear hak hav
        go_wp2_with fail
        refine (Hg.out _).mono ?_
        rintro e w5 ⟨rfl, n5⟩
        have hb5 := HB.out.nx n5
        have q0 : w5.cell? ⟨w4.heap.size, 0, none⟩ = some (.string nm) := hb5.cell 0
        have q1 : w5.cell? ⟨w4.heap.size, 1, none⟩ = some (.int .i64 way) := hb5.cell 1
        have q2 : w5.cell? ⟨w4.heap.size, 2, none⟩ = some (.string val) := hb5.cell 2
        have N5 := Lib.hid ((Hn4.out.alloc _).tr n5)
        clear n5 hb5
        go_wp2_with fail
        refine (Hak.out _).mono ?_
        rintro e w6 ⟨rfl, n6⟩
        go_wp2_with fail
        go_ret
        exact ⟨by rw [HR.out]; rfl, N5.out.tr n6⟩
      · rw [hav] at hak
        have Hak := Lib.hid hak
        have hway : way = 1 ∨ way = 2 ∨ way = 3 ∨ way = 4 := by
          unfold asksF at hav
          simp only [Bool.and_eq_true, decide_eq_true_eq] at hav
          have := hav.1.2
          omega
        have HA2 : Hid ((ms.take (k + 1)).all asksF = true) := Lib.hid (by rw [HT.out, List.all_append, Ha.out]; simp [hav])
        have HW : Hid (∀ r, (b && wayF ⟨nm, way, val⟩ (getF l nm)) = r → r = (rightF l && (ms.take (k + 1)).all fun x => wayF x (getF l x.name))) := Lib.hid (fun r h => by
          rw [← h, HT.out, List.all_append, Hb.out, Bool.and_assoc]
          simp)
        have Hov := Lib.hid (fun v (h : getF l nm = some v) => getF_mem h)
        generalize getF l nm = o at *
        clear hak hav
        have hfq : ∀ v : ByteArray, (v.toList == val.toList) = decide (v = val) := fun v => str_eq v val
        have Hfq := Lib.hid hfq
        clear hfq
        rcases hway with rfl | rfl | rfl | rfl
        all_goals
          cases b
          all_goals
            rcases o with _ | v
            all_goals
              go_wp2_with fail
              refine (Hg.out _).mono ?_
              rintro e w5 ⟨rfl, n5⟩
              have hb5 := HB.out.nx n5
              have q0 : w5.cell? ⟨w4.heap.size, 0, none⟩ = some (.string nm) := hb5.cell 0
              have q1 := hb5.cell 1
              have q2 : w5.cell? ⟨w4.heap.size, 2, none⟩ = some (.string val) := hb5.cell 2
              simp only [List.getElem?_toArray, List.getElem?_cons_succ, List.getElem?_cons_zero] at q1
              have N5 := Lib.hid ((Hn4.out.alloc _).tr n5)
              have HB5 := Lib.hid hb5
              clear n5 hb5
              simp only [Option.getD_none, Option.getD_some, Option.isSome_none, Option.isSome_some]
              go_wp2_with fail
              refine (Hak.out _).mono ?_
              rintro e w6 ⟨rfl, n6⟩
              have hb6 := HB5.out.nx n6
              have z0 : w6.cell? ⟨w4.heap.size, 0, none⟩ = some (.string nm) := hb6.cell 0
              have z1 := hb6.cell 1
              have z2 : w6.cell? ⟨w4.heap.size, 2, none⟩ = some (.string val) := hb6.cell 2
              simp only [List.getElem?_toArray, List.getElem?_cons_succ, List.getElem?_cons_zero] at z1
              have N6 := Lib.hid (N5.out.tr n6)
              clear n6 hb6 q0 q1 q2
              go_wp2_with fail
              first
              | (go_roundw
                 case rel => exact ⟨k + 1, _, by omega, by go_num, rfl, N6.out, Lib.hid (HW.out _ (by simp [wayF, Hfq.out])), HA2⟩
                 case measure => simp [intOf]; omega)
              | (refine (hasp_any v val _ (by obtain ⟨y, hy, e⟩ := Hov.out v rfl; rw [← e]; exact (Hsm.out y hy).2) HVal.out).mono ?_
                 rintro e w7 ⟨rfl, rfl⟩
                 go_wp2_with fail
                 go_roundw
                 case rel => exact ⟨k + 1, _, by omega, by go_num, rfl, N6.out, Lib.hid (HW.out _ (by simp [wayF])), HA2⟩
                 case measure => simp [intOf]; omega)
    · have hkk : ms.take k = ms := List.take_of_length_le (by rw [Hm.out]; omega)
      have HR : Hid (meetsF l ms = b) := Lib.hid (by
        have ha := Ha.out
        have hb := Hb.out
        rw [hkk] at ha hb
        rw [Hfin.out, hb]
        congr 1
        rw [List.all_eq_true] at ha
        rw [Bool.eq_iff_iff, List.all_eq_true, List.all_eq_true]
        exact ⟨fun h x hx => by have := h x hx; rw [ha x hx, Bool.true_and] at this; exact this, fun h x hx => by rw [ha x hx, Bool.true_and]; exact h x hx⟩)
      have Hn4 := Lib.hid hn4
      clear hn4 hkk
      go_wp2_with fail
      go_ret
      exact ⟨by rw [HR.out]; rfl, Hn4.out⟩
end
end Go.Proofs.Ytbgeddlakcaikaa
