/- The contract of symMerge over rows: where the left run is one element (printed by gen_sym.py F). Conditions: none. -/
import Derived.Test.YtihocfdnkongkaaKrSrE
import Derived.Test.YtihocfdnkongkaaKrQ5
namespace Go.Proofs.Ytihocfdnkongkaa
set_option maxRecDepth 100000
open Go.RowKit
set_option linter.unusedVariables false
section
variable {w : World} {g cap : Nat} {A : Option Addr}
set_option maxHeartbeats 16000000 in
theorem sym_left {P B S : List (Tg RV)} {x : Tg RV} {n a m b : Nat} (h : SAT w g A cap (P ++ [x] ++ B ++ S)) (hn : P.length + 1 + B.length + S.length = n) (hn2 : n ≤ 1000000) (ha : P.length = a) (hm : a + 1 = m) (hb : m + B.length = b) (hR : Runs ltR P [x] B S) :
    Calls Try.prog 67 #[.slice A n cap, .int .i64 a, .int .i64 m, .int .i64 b, cmpV] w fun e w' => e = .returned (.tuple #[]) ∧ ∃ C, Merged ltR [x] B C ∧ SAT w' g A cap (P ++ C ++ S) ∧ Ch (fun k => k = g) w w' := by
  have HR := Lib.hid hR
  have hbn : b ≤ n := by omega
  have ham : a < m := by omega
  have hmb : m ≤ b := by omega
  have hq : ((m : Int) - (a : Int) == 1) = true := by simp; omega
  have HNL := Lib.hid hn
  have HA := Lib.hid ha
  have HM := Lib.hid hm
  have HB := Lib.hid hb
  have Hh := Lib.hid h
  clear hn ha hm hb h hR
  go_enter Try.func67, Try.ntmps67
  go_wp2_with fail
  go_loopw [10, 11] (fun s10 s11 wr => ∃ (i j : Nat), s10 = .int .i64 (i : Int) ∧ s11 = .int .i64 (j : Int) ∧ m ≤ i ∧ i ≤ j ∧ j ≤ b ∧ Hid (SAT wr g A cap (P ++ [x] ++ B ++ S)) ∧ Hid (Ch (fun k => k = g) w wr) ∧ Hid (SymS ltR x B m i j)) (fun s10 s11 _ => (intOf s11).toNat - (intOf s10).toNat)
  case atStart => exact ⟨m, b, rfl, rfl, Nat.le_refl _, hmb, Nat.le_refl _, Hh, Lib.hid (Ch.refl _ _), Lib.hid (SymS.start x B m b HB.out.symm)⟩
  case round =>
    obtain ⟨w5, rfl⟩ : ∃ w5 : World, w5 = wr := ⟨_, rfl⟩
    obtain ⟨i, j, rfl, rfl, hmi, hij, hjb, Js, Jc, Ji⟩ := hrel
    clear Hh
    by_cases hlt : i < j
    · obtain ⟨H, hHe⟩ : ∃ H : Nat, ((i : Int) + (j : Int)) / 2 = (H : Int) := ⟨(i + j) / 2, by omega⟩
      have hHi : i ≤ H := by omega
      have hHj : H < j := by omega
      go_wp2_with fail

      clear hHe
      have hL1 : H < (P ++ [x] ++ B ++ S).length := by simp; have := HNL.out; have := HB.out; have := HA.out; have := HM.out; omega
      have hL2 : a < (P ++ [x] ++ B ++ S).length := by simp; have := HNL.out; have := HB.out; have := HA.out; have := HM.out; omega
      have hJm : H < ((P ++ [x] ++ B ++ S).map fun x => x.row).length := by rw [List.length_map]; exact hL1
      have hJ2m : a < ((P ++ [x] ++ B ++ S).map fun x => x.row).length := by rw [List.length_map]; exact hL2
      have hA := Js.out.form hJm
      subst hA
      have gJ : ((P ++ [x] ++ B ++ S).map fun x => x.row)[H] = (P ++ [x] ++ B ++ S)[H].row := List.getElem_map ..
      have gJ2 : ((P ++ [x] ++ B ++ S).map fun x => x.row)[a] = (P ++ [x] ++ B ++ S)[a].row := List.getElem_map ..
      have HQ := Lib.hid (fun w' (hn : Nx w5 w') => (Js.out.nx hn).at_ hJm)
      have HQ2 := Lib.hid (fun w' (hn : Nx w5 w') => (Js.out.nx hn).at_ hJ2m)
      have HNX := Lib.hid (fun w' (hn : Nx w5 w') => Js.out.nx hn)
      rw [gJ] at HQ
      rw [gJ2] at HQ2
      have Hcmp := Lib.hid (fun w => compare_any (P ++ [x] ++ B ++ S)[H].row (P ++ [x] ++ B ++ S)[a].row w)
      have hcv := ltR_cmp (P ++ [x] ++ B ++ S)[H].row (P ++ [x] ++ B ++ S)[a].row
      have ga : (P ++ [x] ++ B ++ S)[a] = x := by
        have e : (P ++ [x] ++ B ++ S)[a]? = some x := by
          rw [List.append_assoc, List.append_assoc, List.getElem?_append_right (by rw [HA.out]; exact Nat.le_refl _), HA.out, Nat.sub_self]
          rfl
        rw [List.getElem?_eq_getElem hL2] at e
        injection e
      obtain ⟨y, hy, gy⟩ : ∃ y, B[H - m]? = some y ∧ (P ++ [x] ++ B ++ S)[H] = y := by
        have e : (P ++ [x] ++ B ++ S)[H]? = B[H - m]? := by
          rw [List.append_assoc, List.getElem?_append_right (by rw [List.length_append, HA.out]; have := HM.out; simp; omega), List.length_append, HA.out, show H - (a + [x].length) = H - m by rw [List.length_singleton, HM.out], List.getElem?_append_left (by have := HB.out; omega)]
        rw [List.getElem?_eq_getElem hL1] at e
        exact ⟨_, e.symm, rfl⟩
      have HY : Hid (ltR (P ++ [x] ++ B ++ S)[H].row (P ++ [x] ++ B ++ S)[a].row = true → SymS ltR x B m (H + 1) j) := Lib.hid (fun hl => by
        rw [gy, ga] at hl
        exact Ji.out.up hHi hHj hy (.inl hl))
      have HN : Hid (ltR (P ++ [x] ++ B ++ S)[H].row (P ++ [x] ++ B ++ S)[a].row = false → SymS ltR x B m i H) := Lib.hid (fun hl => by
        rw [gy, ga] at hl
        exact Ji.out.down hHi hHj hy (Rt.of_not ltR_weak (HR.out.tg x (by simp) y (List.mem_of_getElem? hy)) hl))
      clear hy ga gy y Ji
      have hx1 : (H : Int) < (n : Int) := by omega
      have hx2 : (a : Int) < (n : Int) := by omega
      generalize (P ++ [x] ++ B ++ S)[H].row = x1 at *
      generalize (P ++ [x] ++ B ++ S)[a].row = y1 at *
      have hnd : Nx w5 w5.drew := (Ch.refl _ w5).drew
      clear Js gJ gJ2 hL1 hL2 hJm hJ2m
      obtain ⟨⟨kind, time, labs, text, value, null, maker, seq, place⟩, A1, c1⟩ := x1
      obtain ⟨⟨kind2, time2, labs2, text2, value2, null2, maker2, seq2, place2⟩, A2, c2⟩ := y1
      unfold rowV at Hcmp
      unfold RowAt at HQ HQ2
      simp only at Hcmp HQ HQ2 hcv
      refine wp_region_still_tail 9 rfl (by kernel_rfl) ?_
      change wpStill _ _ w5.drew _ _ _
      obtain ⟨p0, p1, p2, p3, p4, p5, p6, p7, p8⟩ := HQ.out _ hnd
      obtain ⟨q0, q1, q2, q3, q4, q5, q6, q7, q8⟩ := HQ2.out _ hnd
      have HND := Lib.hid hnd
      clear hnd
      generalize w5.drew = w6 at *
      simp only [List.take_succ_cons, List.take_zero, List.drop_succ_cons, List.drop_zero]
      repeat still_step
      refine wpStill_nil ?_
      clear p0 p1 p2 p3 p4 p5 p6 p7 p8 q0 q1 q2 q3 q4 q5 q6 q7 q8 HQ HQ2
      go_wp2_with fail
      refine (Hcmp.out _).mono ?_
      rintro e w7 ⟨rfl, n7⟩
      have N7 := Lib.hid ((Ch.refl (fun _ => False) w5).drew.tr n7)
      clear n7 HND Hcmp
      generalize cmpF _ _ = r at *
      have Hs7 := Lib.hid (HNX.out w7 N7.out)
      have C7 := Lib.hid (Jc.out.tr N7.out)
      clear HNX N7 Jc
      cases hv : ltR ⟨⟨kind, time, labs, text, value, null, maker, seq, place⟩, A1, c1⟩ ⟨⟨kind2, time2, labs2, text2, value2, null2, maker2, seq2, place2⟩, A2, c2⟩
      · have HRR := Lib.hid (HN.out hv)
        rw [hv] at hcv
        have hr : ¬ r < 0 := of_decide_eq_false hcv
        clear hv hcv HN HY
        go_wp2_with fail
        go_roundw
        case rel => exact ⟨i, H, rfl, rfl, hmi, hHi, by omega, Hs7, C7, HRR⟩
        case measure => simp [intOf]; omega
      · have HRR := Lib.hid (HY.out hv)
        rw [hv] at hcv
        have hr : r < 0 := of_decide_eq_true hcv
        clear hv hcv HN HY
        go_wp2_with fail
        go_roundw
        case rel => exact ⟨H + 1, j, by go_num, rfl, by omega, by omega, hjb, Hs7, C7, HRR⟩
        case measure => simp [intOf]; omega
    · obtain rfl : i = j := by omega
      have HMg := Lib.hid (Ji.out.last_left ltR_weak HR.out.sb)
      have Js0 : Hid (SAT w5 g A cap (Mov P x B S a a)) := Lib.hid (by
        have := Js.out
        unfold Mov
        rw [Nat.sub_self]
        simp only [List.take_zero, List.drop_zero, List.nil_append]
        rw [show P ++ ([x] ++ B) ++ S = P ++ [x] ++ B ++ S by simp]
        exact this)
      have hai : a ≤ i - 1 := by omega
      clear Ji Js
      go_wp2_with fail
      go_loopw [13] (fun s13 wr => ∃ k : Nat, s13 = .int .i64 (k : Int) ∧ a ≤ k ∧ k ≤ i - 1 ∧ Hid (SAT wr g A cap (Mov P x B S a k)) ∧ Hid (Ch (fun k => k = g) w wr)) (fun s13 _ => i - (intOf s13).toNat)
      case atStart => exact ⟨a, rfl, Nat.le_refl _, hai, Js0, Jc⟩
      case round =>
        obtain ⟨w5, rfl⟩ : ∃ w5 : World, w5 = wr := ⟨_, rfl⟩
        obtain ⟨k, rfl, hak, hki, Js, Jc⟩ := hrel
        clear Js0
        have hi1 : (1 : Int) ≤ (i : Int) := by omega
        by_cases hlt : k < i - 1
        · have hlt2 : (k : Int) < (i : Int) - 1 := by omega
          have hL1 : k < (Mov P x B S a k).length := by rw [Mov.len]; have := HNL.out; have := HB.out; have := HA.out; have := HM.out; omega
          have hL2 : (k + 1) < (Mov P x B S a k).length := by rw [Mov.len]; have := HNL.out; have := HB.out; have := HA.out; have := HM.out; omega
          have hJm : k < ((Mov P x B S a k).map fun x => x.row).length := by rw [List.length_map]; exact hL1
          have hJ2m : (k + 1) < ((Mov P x B S a k).map fun x => x.row).length := by rw [List.length_map]; exact hL2
          have hA := Js.out.form hJm
          subst hA
          obtain ⟨p0, p1, p2, p3, p4, p5, p6, p7, p8⟩ := Js.out.at_ hJm
          obtain ⟨q0, q1, q2, q3, q4, q5, q6, q7, q8⟩ := Js.out.at_ hJ2m
          have cf := Js.out.frozen hJm
          have HS := Lib.hid (fun wf => Js.out.swap hJm hJ2m (w' := wf))
          rw [← swapL_map] at HS
          generalize ((Mov P x B S a k).map fun x => x.row)[k] = x1 at *
          generalize ((Mov P x B S a k).map fun x => x.row)[(k + 1)] = y1 at *
          rw [Mov.right HA.out hak (by have := HB.out; have := HM.out; omega)] at HS
          have hx1 : (k : Int) + 1 < (n : Int) := by omega
          have hx2 : (k : Int) < (n : Int) := by omega
          clear Js hL1 hL2 hJm hJ2m
          obtain ⟨⟨kind, time, labs, text, value, null, maker, seq, place⟩, A1, c1⟩ := x1
          obtain ⟨⟨kind2, time2, labs2, text2, value2, null2, maker2, seq2, place2⟩, A2, c2⟩ := y1
          simp only at p0 p1 p2 p3 p4 p5 p6 p7 p8 q0 q1 q2 q3 q4 q5 q6 q7 q8
          go_wp2_with fail
          go_region
          generalize hW : World.setCell _ _ _ = W8
          obtain ⟨g1, g2⟩ := HS.out W8 hW.symm
          clear hW p0 p1 p2 p3 p4 p5 p6 p7 p8 q0 q1 q2 q3 q4 q5 q6 q7 q8 cf HS
          have G1 := Lib.hid g1
          have G2 := Lib.hid (Jc.out.trans g2 fun _ _ e => e)
          clear g1 g2 Jc
          go_wp2_with fail
          go_roundw
          case rel => exact ⟨k + 1, by go_num, by omega, by omega, G1, Lib.hid G2.out.drew⟩
          case measure => simp [intOf]; omega
        · have hk : k = i - 1 := by omega
          have hlt2 : ¬ (k : Int) < (i : Int) - 1 := by omega
          have Hfin : Hid (SAT w5 g A cap (P ++ (B.take (i - m) ++ [x] ++ B.drop (i - m)) ++ S)) := Lib.hid (by
            have := Js.out
            unfold Mov at this
            rw [show k - a = i - m by have := HM.out; omega] at this
            exact this)
          clear Js hk
          go_wp2_with fail
          refine bodyPost_ret (results_none rfl _ _ _) rfl ?_
          exact ⟨rfl, _, HMg.out, by first | exact Hfin.out | (have := Hfin.out; rwa [List.append_assoc P] at this), Jc.out⟩
end
end Go.Proofs.Ytihocfdnkongkaa
