/- The contract of the reference's Meets (layer 8). Conditions: none. -/
import Derived.Test.YtbgeddlakcaikaaKrR8B
import Derived.Test.YtbgeddlakcaikaaKrLbD
namespace Go.Proofs.Ytbgeddlakcaikaa
set_option maxRecDepth 100000
open Go.RowKit
set_option linter.unusedVariables false
def begF (val : ByteArray) : Option ByteArray → Bool
  | some v => hasPF v val
  | none => false
theorem lastF_hit {l : List Lab} {k : Nat} (hk : k < l.length) {nm : ByteArray} (h : l[k].name = nm) : lastF (l.take (k + 1)) nm = some l[k].value := by
  rw [List.take_succ_eq_append_getElem hk, lastF_snoc, if_pos h]
theorem lastF_miss {l : List Lab} {k : Nat} (hk : k < l.length) {nm : ByteArray} (h : l[k].name ≠ nm) : lastF (l.take (k + 1)) nm = lastF (l.take k) nm := by
  rw [List.take_succ_eq_append_getElem hk, lastF_snoc, if_neg h]
section
variable {w : World} {D D2 : Nat → Prop} {A B : Option Addr} {n c m d : Nat} {l : List Lab} {ms : List Mat}
set_option maxHeartbeats 16000000 in
theorem meets8_any (hr : Rd w D 2 A n (lbl l)) (hl : l.length = n) (hn : n ≤ 1000000) (hsm : ∀ x ∈ l, x.small) (hr2 : Rd w D2 3 B m (mtl ms)) (hm : ms.length = m) (hmn : m ≤ 1000000) (hsm2 : ∀ x ∈ ms, x.small) :
    Calls Try.prog 17 #[.slice A n c, .slice B m d] w fun e w' => e = .returned (.bool (meetsF l ms)) ∧ Nx w w' := by
  have Hl := Lib.hid hl
  have Hm := Lib.hid hm
  have Hrt := Lib.hid (right8_any (c := c) hr hl hn hsm)
  have Hsm := Lib.hid hsm
  have Hsm2 := Lib.hid hsm2
  have HRd := Lib.hid hr
  have Hfin : Hid (meetsF l ms = (rightF l && ms.all fun x => asksF x && wayF x (getF l x.name))) := Lib.hid rfl
  have HRL := Lib.hid (fun (h : rightF l = true) nm => right_last h nm)
  clear hl hm hsm hsm2 hr
  cases hrt : rightF l
  · have HR : Hid (meetsF l ms = false) := Lib.hid (by rw [Hfin.out, hrt]; rfl)
    rw [hrt] at Hrt
    clear hrt
    go_enter Try.func17, Try.ntmps17
    go_wp2_with fail
    refine Hrt.out.mono ?_
    rintro e w1 ⟨rfl, n1⟩
    go_wp2_with fail
    go_ret
    exact ⟨by rw [HR.out]; rfl, n1⟩
  · have HL := Lib.hid (HRL.out hrt)
    have HF2 : Hid (meetsF l ms = ms.all fun x => asksF x && wayF x (lastF l x.name)) := Lib.hid (by
      rw [Hfin.out, hrt, Bool.true_and]
      have e : getF l = lastF l := funext fun nm => HL.out nm
      rw [e])
    rw [hrt] at Hrt
    clear hrt HRL Hfin HL
    go_enter Try.func17, Try.ntmps17
    go_wp2_with fail
    refine Hrt.out.mono ?_
    rintro e w1 ⟨rfl, n1⟩
    go_wp2_with fail
    go_loopw [17] (fun i wr => ∃ k : Nat, k ≤ m ∧ i = .int .i64 (k : Int) ∧ Nx w wr ∧ Hid ((ms.take k).all (fun x => asksF x && wayF x (lastF l x.name)) = true)) (fun i _ => m - (intOf i).toNat)
    case atStart => exact ⟨0, Nat.zero_le _, rfl, n1, Lib.hid (by simp)⟩
    case round =>
      obtain ⟨w4, rfl⟩ : ∃ w4 : World, w4 = wr := ⟨_, rfl⟩
      obtain ⟨k, hk, rfl, hn4, Ha⟩ := hrel
      by_cases hlt : k < m
      · have hkl : k < ms.length := by rw [Hm.out]; exact hlt
        obtain ⟨ad, rfl, hb, p0, p1, p2⟩ := mat_at (hr2.nx (by decide) hn4) hkl
        have hsx := Hsm2.out _ (List.getElem_mem hkl)
        have HT := Lib.hid (List.take_succ_eq_append_getElem hkl)
        have HD := Lib.hid (fun (h : (asksF ms[k] && wayF ms[k] (lastF l ms[k].name)) = false) => show meetsF l ms = false by
          rw [HF2.out, List.all_eq_false]
          exact ⟨_, List.getElem_mem hkl, by rw [h]; simp⟩)
        have hak := fun w => asks8_any ms[k] hsx w
        have HRl := Lib.hid (fun w' (c' : Nx w4 w') => HRd.out.nx (by decide) (hn4.tr c'))
        generalize ms[k] = x at *
        obtain ⟨nm, way, val⟩ := x
        simp only at p0 p1 p2 hsx HT HD hak
        have HB := Lib.hid (Blk.new w4 67 #[.string nm, .int .i64 way, .string val])
        have Hn4 := Lib.hid hn4
        have HVal : Hid (val.size ≤ 9223372036854775807) := Lib.hid hsx.2.1
        clear hn4 hsx
        cases hav : asksF ⟨nm, way, val⟩
        · rw [hav] at hak
          have Hak := Lib.hid hak
          have HR := Lib.hid (HD.out (by rw [hav]; rfl))
          clear hak hav
          go_wp2_with fail
          refine (Hak.out _).mono ?_
          rintro e w5 ⟨rfl, n5⟩
          have N5 := Lib.hid ((Hn4.out.alloc _).tr n5)
          clear n5
          go_wp2_with fail
          go_ret
          exact ⟨by rw [HR.out]; rfl, N5.out⟩
        · rw [hav] at hak
          have Hak := Lib.hid hak
          have hway : way = 1 ∨ way = 2 ∨ way = 3 ∨ way = 4 := by
            unfold asksF at hav
            simp only [Bool.and_eq_true, decide_eq_true_eq] at hav
            have := hav.1.2
            omega
          have HD2 := Lib.hid (fun (h : wayF ⟨nm, way, val⟩ (lastF l nm) = false) => HD.out (by rw [h, Bool.and_false]))
          have HA2 := Lib.hid (fun (h : wayF ⟨nm, way, val⟩ (lastF l nm) = true) => show (ms.take (k + 1)).all (fun x => asksF x && wayF x (lastF l x.name)) = true by
            rw [HT.out, List.all_append, Ha.out]
            simp [hav, h])
          clear hak hav HD
          go_wp2_with fail
          refine (Hak.out _).mono ?_
          rintro e w5 ⟨rfl, n5⟩
          have N45 := Lib.hid (((Ch.refl (fun _ => False) w4).alloc _).tr n5)
          have HB5 := Lib.hid (HB.out.nx n5)
          clear n5 p0 p1 p2 HB
          go_wp2_with fail
          go_loopw [7, 8, 9, 26] (fun s7 s8 s9 i wr => ∃ (j : Nat) (o : Option ByteArray), j ≤ n ∧ i = .int .i64 (j : Int) ∧ s7 = .bool o.isSome ∧ s8 = .bool (decide (o = some val)) ∧ s9 = .bool (begF val o) ∧ Nx w5 wr ∧ Hid (o = lastF (l.take j) nm)) (fun _ _ _ i _ => n - (intOf i).toNat)
          case atStart => exact ⟨0, none, Nat.zero_le _, rfl, rfl, rfl, rfl, Ch.refl _ _, Lib.hid rfl⟩
          case round =>
            obtain ⟨w6, rfl⟩ : ∃ w6 : World, w6 = wr := ⟨_, rfl⟩
            obtain ⟨j, o, hj, rfl, rfl, rfl, rfl, hn6, Ho⟩ := hrel
            have N46 := Lib.hid (N45.out.tr hn6)
            have N6 := Lib.hid hn6
            have b6 := HB5.out.nx hn6
            have q0 : w6.cell? ⟨w4.heap.size, 0, none⟩ = some (.string nm) := b6.cell 0
            have q1 : w6.cell? ⟨w4.heap.size, 1, none⟩ = some (.int .i64 way) := b6.cell 1
            have q2 : w6.cell? ⟨w4.heap.size, 2, none⟩ = some (.string val) := b6.cell 2
            have hsz6 : w4.heap.size < w6.heap.size := b6.lt
            clear b6 hn6
            by_cases hjn : j < n
            · have hjl : j < l.length := by rw [Hl.out]; exact hjn
              obtain ⟨ad2, rfl, -, r0, r1⟩ := lab_at (HRl.out _ N46.out) hjl
              have hsy := Hsm.out _ (List.getElem_mem hjl)
              have Hhit := Lib.hid (fun h => lastF_hit hjl (nm := nm) h)
              have Hmis := Lib.hid (fun h => lastF_miss hjl (nm := nm) h)
              have hqn := str_eq l[j].name nm
              have hqv := str_eq l[j].value val
              generalize l[j] = y at *
              obtain ⟨yn, yv⟩ := y
              simp only at r0 r1 hsy Hhit Hmis hqn hqv
              have hyv := hsy.2
              clear hsy
              by_cases hen : yn = nm
              · have HR := Lib.hid (Hhit.out hen)
                have hen2 : (yn.toList == nm.toList) = true := by rw [hqn]; exact decide_eq_true hen
                have HO : Hid (∀ q, q = decide (yv = val) → q = decide (some yv = some val)) := Lib.hid (fun q h => by rw [h]; simp)
                clear hen hqn Hhit Hmis
                by_cases hs : val.size ≤ yv.size
                · have hs1 : decide ((val.size : Int) ≤ (yv.size : Int)) = true := decide_eq_true (by omega)
                  have hs2 : decide (val.size ≤ yv.size) = true := decide_eq_true hs
                  have hp := pref_eq yv val hs
                  have HP : Hid (hasPF yv val = begF val (some yv)) := Lib.hid rfl
                  generalize hasPF yv val = hb1 at *
                  generalize decide (yv = val) = hb2 at *
                  go_wp2_with fail
                  go_quiet (fail)
                  go_wp2_with fail
                  go_roundw
                  case rel => exact ⟨j + 1, some yv, by omega, by go_num, rfl, by rw [HO.out _ rfl], by rw [HP.out], (N6.out.alloc _).drewN _, Lib.hid HR.out.symm⟩
                  case measure => simp [intOf]; omega
                · have hs1 : decide ((val.size : Int) ≤ (yv.size : Int)) = false := decide_eq_false (by omega)
                  have hs2 : decide (val.size ≤ yv.size) = false := decide_eq_false hs
                  have HP : Hid (false = begF val (some yv)) := Lib.hid (by show false = hasPF yv val; unfold hasPF; rw [decide_eq_false hs]; rfl)
                  generalize decide (yv = val) = hb2 at *
                  go_wp2_with fail
                  go_quiet (fail)
                  go_wp2_with fail
                  go_roundw
                  case rel => exact ⟨j + 1, some yv, by omega, by go_num, rfl, by rw [HO.out _ rfl], by rw [← HP.out], (N6.out.alloc _).drewN _, Lib.hid HR.out.symm⟩
                  case measure => simp [intOf]; omega
              · have HR : Hid (o = lastF (l.take (j + 1)) nm) := Lib.hid (by rw [Hmis.out hen]; exact Ho.out)
                have hen2 : (yn.toList == nm.toList) = false := by rw [hqn]; exact decide_eq_false hen
                clear hen hqn hqv Hhit Hmis
                go_wp2_with fail
                go_roundw
                case rel => exact ⟨j + 1, o, by omega, by go_num, rfl, rfl, rfl, N6.out.alloc _, HR⟩
                case measure => simp [intOf]; omega
            · have ho : o = lastF l nm := by
                have := Ho.out
                rw [List.take_of_length_le (by rw [Hl.out]; omega)] at this
                exact this
              rw [← ho] at HD2 HA2
              have NW := Lib.hid (Hn4.out.tr N46.out)
              clear ho Ho HF2
              have HW : Hid (wayF ⟨nm, way, val⟩ o = if way = 1 then decide (o = some val) else if way = 2 then !decide (o = some val) else if way = 3 then begF val o else o.isSome) := Lib.hid (by
                unfold wayF begF
                rfl)
              generalize decide (o = some val) = b8 at *
              generalize o.isSome = b7 at *
              generalize begF val o = b9 at *
              rcases hway with rfl | rfl | rfl | rfl
              · have HV : Hid (wayF ⟨nm, 1, val⟩ o = b8) := Lib.hid (by rw [HW.out]; rfl)
                cases b8
                · have HR := Lib.hid (HD2.out HV.out)
                  go_wp2_with fail
                  go_ret
                  exact ⟨by rw [HR.out]; rfl, NW.out⟩
                · have HR := Lib.hid (HA2.out HV.out)
                  go_wp2_with fail
                  go_roundw
                  case rel => exact ⟨k + 1, by omega, by go_num, NW.out, HR⟩
                  case measure => simp [intOf]; omega
              · have HV : Hid (wayF ⟨nm, 2, val⟩ o = !b8) := Lib.hid (by rw [HW.out]; rfl)
                cases b8
                · have HR := Lib.hid (HA2.out HV.out)
                  go_wp2_with fail
                  go_roundw
                  case rel => exact ⟨k + 1, by omega, by go_num, NW.out, HR⟩
                  case measure => simp [intOf]; omega
                · have HR := Lib.hid (HD2.out HV.out)
                  go_wp2_with fail
                  go_ret
                  exact ⟨by rw [HR.out]; rfl, NW.out⟩
              · have HV : Hid (wayF ⟨nm, 3, val⟩ o = b9) := Lib.hid (by rw [HW.out]; rfl)
                cases b9
                · have HR := Lib.hid (HD2.out HV.out)
                  go_wp2_with fail
                  go_ret
                  exact ⟨by rw [HR.out]; rfl, NW.out⟩
                · have HR := Lib.hid (HA2.out HV.out)
                  go_wp2_with fail
                  go_roundw
                  case rel => exact ⟨k + 1, by omega, by go_num, NW.out, HR⟩
                  case measure => simp [intOf]; omega
              · have HV : Hid (wayF ⟨nm, 4, val⟩ o = b7) := Lib.hid (by rw [HW.out]; rfl)
                cases b7
                · have HR := Lib.hid (HD2.out HV.out)
                  go_wp2_with fail
                  go_ret
                  exact ⟨by rw [HR.out]; rfl, NW.out⟩
                · have HR := Lib.hid (HA2.out HV.out)
                  go_wp2_with fail
                  go_roundw
                  case rel => exact ⟨k + 1, by omega, by go_num, NW.out, HR⟩
                  case measure => simp [intOf]; omega
      · have HR : Hid (meetsF l ms = true) := Lib.hid (by
          have := Ha.out
          rw [List.take_of_length_le (by rw [Hm.out]; omega)] at this
          rw [HF2.out]
          exact this)
        have Hn4 := Lib.hid hn4
        clear hn4
        go_wp2_with fail
        go_ret
        exact ⟨by rw [HR.out]; rfl, Hn4.out⟩
end
end Go.Proofs.Ytbgeddlakcaikaa
