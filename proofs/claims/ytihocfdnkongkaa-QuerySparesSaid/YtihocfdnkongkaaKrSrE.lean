/- The contract of insertionSort over rows. Conditions: none. -/
import Derived.Test.YtihocfdnkongkaaKrQ6
import Derived.Test.YtihocfdnkongkaaKrQ4
import Derived.Test.YtihocfdnkongkaaKrQ1
import Derived.Deep.QuietTactic
import Derived.BigQuiet
namespace Go.Proofs.Ytihocfdnkongkaa
set_option maxRecDepth 100000
open Go.RowKit
set_option linter.unusedVariables false
def ltR (x y : RV) : Bool := keyLt x.row y.row
theorem ltR_weak : Weak ltR := ⟨fun x y h => key_weak.1 x.row y.row h, fun x y z h k => key_weak.2 x.row y.row z.row h k, fun x y z h k => key_weak.3 x.row y.row z.row h k⟩
theorem ltR_cmp (x y : RV) : decide (cmpF x.row y.row < 0) = ltR x y := cmpF_neg x.row y.row
abbrev cmpV : Value := .func (.func 31) #[] #[]
abbrev SAT (w : World) (g : Nat) (A : Option Addr) (cap : Nat) (ys : List (Tg RV)) : Prop := SA w g A cap (ys.map fun x => x.row)
section
variable {w : World} {g cap : Nat} {A : Option Addr}
set_option maxHeartbeats 16000000 in
theorem ins_any {P M S : List (Tg RV)} {n a m b : Nat} (h : SAT w g A cap (P ++ M ++ S)) (hn : P.length + M.length + S.length = n) (hn2 : n ≤ 1000000) (ha : P.length = a) (hm : M.length = m) (hb : a + m = b) (ht : M.Pairwise fun x y => x.tag < y.tag) :
    Calls Try.prog 66 #[.slice A n cap, .int .i64 a, .int .i64 b, cmpV] w fun e w' => e = .returned (.tuple #[]) ∧ ∃ C, C.Perm M ∧ C.Pairwise (Rt ltR) ∧ SAT w' g A cap (P ++ C ++ S) ∧ Ch (fun k => k = g) w w' := by
  have HT := Lib.hid ht
  have hmn : b ≤ n := by omega
  have hab : a ≤ b := by omega
  have HB := Lib.hid hb
  have HNL : Hid (P.length + M.length + S.length = n) := Lib.hid hn
  have HA := Lib.hid ha
  have HM := Lib.hid hm
  have Hh := Lib.hid h
  clear ht hn ha hm hb h
  go_enter Try.func66, Try.ntmps66
  go_wp2_with fail
  go_loopw [8] (fun s8 wr => ∃ (I : Nat) (ys : List (Tg RV)), s8 = .int .i64 (I : Int) ∧ a + 1 ≤ I ∧ I ≤ b + 1 ∧ Hid (SAT wr g A cap ys) ∧ Hid (Ch (fun k => k = g) w wr) ∧ Hid (InsI ltR P M S (I - a) ys)) (fun s8 _ => b + 1 - (intOf s8).toNat)
  case atStart => exact ⟨a + 1, _, by go_num, by omega, by omega, Hh, Lib.hid (Ch.refl _ _), Lib.hid (by rw [Nat.add_sub_cancel_left]; exact InsI.first P M S)⟩
  case round =>
    obtain ⟨w4, rfl⟩ : ∃ w4 : World, w4 = wr := ⟨_, rfl⟩
    obtain ⟨I, ys, rfl, hi1, him, Hs, Hc, Hi⟩ := hrel
    clear Hh
    by_cases hlt : I < b
    · have hj0 := (Hi.out).enter (by rw [HM.out]; have := HB.out; omega)
      rw [HA.out, show a + (I - a) = I by omega] at hj0
      have HJ0 := Lib.hid hj0
      have HC0 := Hc
      clear hj0
      go_wp2_with fail
      go_loopw [9] (fun s9 wr => ∃ (J : Nat) (ys : List (Tg RV)), s9 = .int .i64 (J : Int) ∧ J ≤ I ∧ Hid (SAT wr g A cap ys) ∧ Hid (Ch (fun k => k = g) w wr) ∧ Hid (InnI ltR P M S (I - a) J ys)) (fun s9 _ => (intOf s9).toNat)
      case atStart => exact ⟨I, ys, rfl, Nat.le_refl _, Hs, Hc, HJ0⟩
      case round =>
        obtain ⟨w5, rfl⟩ : ∃ w5 : World, w5 = wr := ⟨_, rfl⟩
        obtain ⟨J, zs, rfl, hJi, Js, Jc, Ji⟩ := hrel
        obtain ⟨hJl, haJ, h0, h1⟩ := Ji.out.all ltR_weak HT.out
        rw [HA.out] at haJ h0 h1
        rw [show I - a + 1 = I + 1 - a by omega] at h0 h1
        have hzn : zs.length = n := by rw [Ji.out.len, HNL.out]
        clear Hs Hc Hi HJ0 HC0 Ji
        by_cases hgt : a < J
        · obtain ⟨hJ2, hY, hN⟩ := h1 hgt
          have HY := Lib.hid hY
          have HN := Lib.hid hN
          clear h0 h1 hY hN
          have hJm : J < (zs.map fun x => x.row).length := by simpa using hJl
          have hJ2m : J - 1 < (zs.map fun x => x.row).length := by simpa using hJ2
          have hA := Js.out.form hJm
          subst hA
          have gJ : (zs.map fun x => x.row)[J] = zs[J].row := List.getElem_map ..
          have gJ2 : (zs.map fun x => x.row)[J - 1] = zs[J - 1].row := List.getElem_map ..
          have HQ := Lib.hid (fun w' (hn : Nx w5 w') => (Js.out.nx hn).at_ hJm)
          have HQ2 := Lib.hid (fun w' (hn : Nx w5 w') => (Js.out.nx hn).at_ hJ2m)
          have HF := Lib.hid (fun w' (hn : Nx w5 w') => (Js.out.nx hn).frozen hJm)
          have HS := Lib.hid (fun w' (hn : Nx w5 w') wf => (Js.out.nx hn).swap hJm hJ2m (w' := wf))
          have HNX := Lib.hid (fun w' (hn : Nx w5 w') => Js.out.nx hn)
          rw [← swapL_map, gJ, gJ2] at HS
          rw [gJ] at HQ
          rw [gJ2] at HQ2
          have Hcmp := Lib.hid (fun w => compare_any zs[J].row zs[J - 1].row w)
          have hlt := ltR_cmp zs[J].row zs[J - 1].row
          have HL := Lib.hid (swapL_len zs J (J - 1))
          generalize zs[J].row = x at *
          generalize zs[J - 1].row = y at *
          have hnd : Nx w5 w5.drew := (Ch.refl _ w5).drew
          clear Js gJ gJ2
          obtain ⟨⟨kind, time, labs, text, value, null, maker, seq, place⟩, A1, c1⟩ := x
          obtain ⟨⟨kind2, time2, labs2, text2, value2, null2, maker2, seq2, place2⟩, A2, c2⟩ := y
          unfold rowV at Hcmp
          unfold RowAt at HQ HQ2
          simp only at Hcmp HQ HQ2 hlt
          go_wp2_with fail
          refine wp_region_still_tail 14 rfl (by kernel_rfl) ?_
          change wpStill _ _ w5.drew _ _ _
          obtain ⟨p0, p1, p2, p3, p4, p5, p6, p7, p8⟩ := HQ.out _ hnd
          obtain ⟨q0, q1, q2, q3, q4, q5, q6, q7, q8⟩ := HQ2.out _ hnd
          have HND := Lib.hid hnd
          clear hnd
          generalize w5.drew = w6 at *
          simp only [List.take_succ_cons, List.take_zero, List.drop_succ_cons, List.drop_zero]
          have hd : decide ((a : Int) < (J : Int)) = true := by rw [decide_eq_true_iff]; omega
          have hwr : IntKind.i64.wrap ((J : Int) - 1) = (J : Int) - 1 := IntWalk.i64_in _ (by omega)
          have htn : ((J : Int) - 1).toNat = J - 1 := by omega
          have hb4 : (1 : Int) ≤ (J : Int) := by omega
          have hb1 : (0 : Int) ≤ (J : Int) - 1 := by omega
          have hb2 : (J : Int) - 1 < (n : Int) := by omega
          have hb3 : (J : Int) < (n : Int) := by omega
          repeat still_step
          refine wpStill_nil ?_
          clear p0 p1 p2 p3 p4 p5 p6 p7 p8 q0 q1 q2 q3 q4 q5 q6 q7 q8
          go_wp2_with fail
          refine (Hcmp.out _).mono ?_
          rintro e w7 ⟨rfl, n7⟩
          have N7 := Lib.hid ((Ch.refl (fun _ => False) w5).drew.tr n7)
          clear n7 HND Hcmp
          generalize cmpF _ _ = r at *
          cases hv : ltR ⟨⟨kind, time, labs, text, value, null, maker, seq, place⟩, A1, c1⟩ ⟨⟨kind2, time2, labs2, text2, value2, null2, maker2, seq2, place2⟩, A2, c2⟩
          · have HR := Lib.hid (HN.out hv)
            rw [hv] at hlt
            have hr : ¬ r < 0 := of_decide_eq_false hlt
            have Hs7 := Lib.hid (HNX.out w7 N7.out)
            clear hv hlt HN HY HS HQ HQ2 HF HNX
            go_wp2_with fail
            go_roundw
            case rel => exact ⟨I + 1, zs, by go_num, by omega, by omega, Hs7, Lib.hid (Jc.out.tr N7.out), HR⟩
            case measure => simp [intOf]; omega
          · have HR := Lib.hid (HY.out hv)
            rw [hv] at hlt
            have hr : r < 0 := of_decide_eq_true hlt
            have HS7 := Lib.hid (fun wf => HS.out w7 N7.out wf)
            obtain ⟨p0, p1, p2, p3, p4, p5, p6, p7, p8⟩ := HQ.out w7 N7.out
            obtain ⟨q0, q1, q2, q3, q4, q5, q6, q7, q8⟩ := HQ2.out w7 N7.out
            have cf := HF.out w7 N7.out
            clear hv hlt HN HY HS HQ HQ2 HF HNX
            go_wp2_with fail
            go_region
            generalize hW : World.setCell _ _ _ = W8
            obtain ⟨g1, g2⟩ := HS7.out W8 hW.symm
            clear hW p0 p1 p2 p3 p4 p5 p6 p7 p8 q0 q1 q2 q3 q4 q5 q6 q7 q8 cf HS7
            have G1 := Lib.hid g1
            have G2 := Lib.hid ((Jc.out.tr N7.out).trans g2 fun _ _ e => e)
            clear g1 g2
            go_wp2_with fail
            go_roundw
            case rel => exact ⟨J - 1, _, by go_num, by omega, G1, Lib.hid G2.out.drew, HR⟩
            case measure => simp [intOf]; omega
        · have hJa : J = a := by omega
          have HR := Lib.hid (h0 hJa)
          have hd : decide ((a : Int) < (J : Int)) = false := by rw [decide_eq_false_iff_not]; omega
          clear h0 h1
          go_wp2_with fail
          go_quiet (fail)
          go_wp2_with fail
          go_roundw
          case rel => exact ⟨I + 1, zs, by go_num, by omega, by omega, Js, Lib.hid (Ch.drewN Jc.out _), HR⟩
          case measure => simp [intOf]; omega
    · have hend := (Hi.out).last (by rw [HM.out]; have := HB.out; omega)
      obtain ⟨C, hp, hsC, hys⟩ := hend
      have HE := Lib.hid (⟨hp, hsC, hys⟩ : C.Perm M ∧ C.Pairwise (Rt ltR) ∧ ys = P ++ C ++ S)
      clear hp hsC hys
      go_wp2_with fail
      go_end0
      obtain ⟨hp, hsC, rfl⟩ := HE.out
      exact ⟨rfl, C, hp, hsC, Hs.out, Hc.out⟩
end
end Go.Proofs.Ytihocfdnkongkaa
