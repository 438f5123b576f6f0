/- The contract of the reference's Sort (layer 9). Conditions: at most 1000000 rows. -/
import Derived.Test.YtdfodcbpmfifgaaR9B
import Derived.Test.YtdfodcbpmfifgaaRcB
namespace Go.Proofs.Ytdfodcbpmfifgaa
set_option maxRecDepth 100000
open Go.RowKit
set_option linter.unusedVariables false
theorem cmpF_pos (x y : RowE) : decide (0 < cmpF x y) = keyLt y x := by
  unfold keyLt
  rw [decide_eq_decide]
  rcases Int.lt_trichotomy x.time y.time with h | h | h
  · rw [cmp_lt0 h]; omega
  · rcases Int.lt_trichotomy x.maker y.maker with h1 | h1 | h1
    · rw [cmp_lt1 h h1]; omega
    · rcases Int.lt_trichotomy x.seq y.seq with h2 | h2 | h2
      · rw [cmp_lt2 h h1 h2]; omega
      · rcases Int.lt_trichotomy x.place y.place with h3 | h3 | h3
        · rw [cmp_lt3 h h1 h2 h3]; omega
        · rw [cmp_eq h h1 h2 h3]; omega
        · rw [cmp_gt3 h h1 h2 h3]; omega
      · rw [cmp_gt2 h h1 h2]; omega
    · rw [cmp_gt1 h h1]; omega
  · rw [cmp_gt0 h]; omega
theorem sortF_snoc {α : Type} (lt : α → α → Bool) (l : List α) (x : α) : sortF lt (l ++ [x]) = insF lt x (sortF lt l) := by
  unfold sortF
  rw [List.foldl_append]
  rfl
theorem posF_down {α : Type} {lt : α → α → Bool} {x : α} {l : List α} {j : Nat} (h0 : 0 < j) (hj : j - 1 < l.length) (h : lt x l[j - 1] = true) : posF lt x l j = posF lt x l (j - 1) := by
  obtain ⟨i, rfl⟩ : ∃ i, j = i + 1 := ⟨j - 1, by omega⟩
  simp only [Nat.add_sub_cancel] at hj h ⊢
  conv => lhs; unfold posF
  rw [List.getElem?_eq_getElem hj]
  simp only
  rw [if_pos h]
theorem posF_stop {α : Type} {lt : α → α → Bool} {x : α} {l : List α} {j : Nat} (h0 : 0 < j) (hj : j - 1 < l.length) (h : lt x l[j - 1] = false) : posF lt x l j = j := by
  obtain ⟨i, rfl⟩ : ∃ i, j = i + 1 := ⟨j - 1, by omega⟩
  simp only [Nat.add_sub_cancel] at hj h
  unfold posF
  rw [List.getElem?_eq_getElem hj]
  simp only
  rw [h]
  rfl
/-- what it hands back: the rows in order, in memory of its own; their labels are where they were -/
def Sort9To (l : List RV) (w : World) (e : Ending) (w' : World) : Prop := ∃ v, e = .returned v ∧ OwnS w w' 36 9 v l.length (rvl (sortF ltR l))
section
variable {w : World} {D : Nat → Prop} {A : Option Addr} {n c : Nat} {l : List RV}
set_option maxHeartbeats 16000000 in
theorem sort9_any (h : Rd w D 9 A n (rvl l)) (hl : l.length = n) (hn : n ≤ 1000000) :
    Calls Try.prog 24 #[.slice A n c] w (Sort9To l w) := by
  obtain ⟨i0, hi0, hz0, hz1, hz2⟩ := info_parts Try.infoRow
  have Hl := Lib.hid hl
  have H := Lib.hid h
  clear hl h
  have H0 := Lib.hid (OwnS.lit w w 36 (Ch.refl _ _) 9)
  go_enter Try.func24, Try.ntmps24
  go_wp2_with fail
  go_loopw [3, 11] (fun v i wr => ∃ (k : Nat) (os : List RV), k ≤ n ∧ os.length = k ∧ i = .int .i64 (k : Int) ∧ Hid (OwnS w wr 36 9 v k (rvl os)) ∧ Hid (os = sortF ltR (l.take k))) (fun _ i _ => n - (intOf i).toNat)
  case atStart => exact ⟨0, [], Nat.zero_le _, rfl, rfl, H0, Lib.hid rfl⟩
  case round =>
    obtain ⟨w4, rfl⟩ : ∃ w4 : World, w4 = wr := ⟨_, rfl⟩
    obtain ⟨k, os, hkn, hok, rfl, Hr, Ho⟩ := hrel
    have Hok := Lib.hid hok
    clear hok
    obtain ⟨A6, c6, hu3, hc6, hm6⟩ := Hr.out.form
    subst hu3
    by_cases hlt : k < n
    · have hkl : k < l.length := by rw [Hl.out]; exact hlt
      obtain ⟨ad, rfl, hb, p0, p1, p2, p3, p4, p5, p6, p7, p8⟩ := row_at (H.out.nx (by decide) Hr.out.nx) hkl
      have HT := Lib.hid (show sortF ltR (l.take (k + 1)) = insF ltR l[k] os by rw [List.take_succ_eq_append_getElem hkl, sortF_snoc, Ho.out])
      clear hb
      generalize l[k] = x at *
      obtain ⟨⟨kind, time, labs, text, value, null, maker, seq, place⟩, A1, c1⟩ := x
      simp only at p0 p1 p2 p3 p4 p5 p6 p7 p8
      have HB := Lib.hid (Blk.new w4 36 #[.int .i64 kind, .int .i64 time, .slice A1 labs.length c1, .string text, .int .i64 value, .bool null, .int .i64 maker, .int .i64 seq, .int .i64 place])
      have HRO := Lib.hid (fun w' (c' : Nx w4 w') => Hr.out.rd.nx (by decide) c')
      generalize hX : (⟨⟨kind, time, labs, text, value, null, maker, seq, place⟩, A1, c1⟩ : RV) = X at *
      have HX := Lib.hid hX
      clear hX
      go_upto_block 2 with fail
      go_cut [6] (fun s6 wx => s6 = .int .i64 ((posF ltR X os os.length : Nat) : Int) ∧ Hid (Nx (w4.alloc (.cells #[.int .i64 kind, .int .i64 time, .slice A1 labs.length c1, .string text, .int .i64 value, .bool null, .int .i64 maker, .int .i64 seq, .int .i64 place] 36)) wx))
      case first =>
        go_wp2_with fail
        clear p0 p1 p2 p3 p4 p5 p6 p7 p8
        go_loopw [6] (fun s6 wr => ∃ j : Nat, j ≤ k ∧ s6 = .int .i64 (j : Int) ∧ Hid (Nx (w4.alloc (.cells #[.int .i64 kind, .int .i64 time, .slice A1 labs.length c1, .string text, .int .i64 value, .bool null, .int .i64 maker, .int .i64 seq, .int .i64 place] 36)) wr) ∧ Hid (posF ltR X os j = posF ltR X os os.length)) (fun s6 _ => (intOf s6).toNat)
        case atStart => exact ⟨k, Nat.le_refl _, rfl, Lib.hid (Ch.refl _ _), Lib.hid (by rw [Hok.out])⟩
        case round =>
          obtain ⟨w5, rfl⟩ : ∃ w5 : World, w5 = wr := ⟨_, rfl⟩
          obtain ⟨j, hj, rfl, hn5, Hp⟩ := hrel
          by_cases hj0 : 0 < j
          · have hjl : j - 1 < os.length := by rw [Hok.out]; omega
            have HQ := Lib.hid (fun w' (c' : Nx w5 w') => row_at (HRO.out w' ((((Ch.refl (fun _ => False) w4).alloc _).tr hn5.out).tr c')) hjl)
            have HQ2 := Lib.hid (fun w' (c' : Nx w5 w') => (HB.out.nx hn5.out).nx c')
            have HDn := Lib.hid (fun h => posF_down (lt := ltR) (x := X) hj0 hjl h)
            have HSt := Lib.hid (fun h => posF_stop (lt := ltR) (x := X) hj0 hjl h)
            have Hcmp := Lib.hid (fun w => compare9_any os[j - 1] X w)
            have hcp : decide (0 < cmpF os[j - 1].row ⟨kind, time, labs, text, value, null, maker, seq, place⟩) = ltR X os[j - 1] := by rw [← HX.out]; exact cmpF_pos _ _
            rw [← HX.out] at Hcmp
            generalize os[j - 1] = y at *
            obtain ⟨⟨kind2, time2, labs2, text2, value2, null2, maker2, seq2, place2⟩, A2, c2⟩ := y
            unfold rowV at Hcmp
            simp only at Hcmp HQ hcp
            obtain ⟨ad6, rfl, -, -⟩ := HQ.out _ (Ch.refl _ _)
            go_wp2_with fail
            have hnd : Nx w5 w5.drew := (Ch.refl _ w5).drew
            refine wp_region_still_tail 9 rfl (by kernel_rfl) ?_
            change wpStill _ _ w5.drew _ _ _
            obtain ⟨ad6', ea, -, p0, p1, p2, p3, p4, p5, p6, p7, p8⟩ := HQ.out _ hnd
            injection ea with ea
            subst ea
            have bq := HQ2.out _ hnd
            have q0 : w5.drew.cell? ⟨w4.heap.size, 0, none⟩ = some (.int .i64 kind) := bq.cell 0
            have q1 : w5.drew.cell? ⟨w4.heap.size, 1, none⟩ = some (.int .i64 time) := bq.cell 1
            have q2 : w5.drew.cell? ⟨w4.heap.size, 2, none⟩ = some (.slice A1 labs.length c1) := bq.cell 2
            have q3 : w5.drew.cell? ⟨w4.heap.size, 3, none⟩ = some (.string text) := bq.cell 3
            have q4 : w5.drew.cell? ⟨w4.heap.size, 4, none⟩ = some (.int .i64 value) := bq.cell 4
            have q5 : w5.drew.cell? ⟨w4.heap.size, 5, none⟩ = some (.bool null) := bq.cell 5
            have q6 : w5.drew.cell? ⟨w4.heap.size, 6, none⟩ = some (.int .i64 maker) := bq.cell 6
            have q7 : w5.drew.cell? ⟨w4.heap.size, 7, none⟩ = some (.int .i64 seq) := bq.cell 7
            have q8 : w5.drew.cell? ⟨w4.heap.size, 8, none⟩ = some (.int .i64 place) := bq.cell 8
            clear bq hnd
            generalize w5.drew = w6 at *
            simp only [List.take_succ_cons, List.take_zero, List.drop_succ_cons, List.drop_zero]
            have hd : decide ((0 : Int) < (j : Int)) = true := by rw [decide_eq_true_iff]; omega
            have hd2 : decide (0 < j) = true := by rw [decide_eq_true_iff]; exact hj0
            have hwr : IntKind.i64.wrap ((j : Int) - 1) = (j : Int) - 1 := IntWalk.i64_in _ (by omega)
            have htn : ((j : Int) - 1).toNat = j - 1 := by omega
            have hb4 : (1 : Int) ≤ (j : Int) := by omega
            have hb1 : (0 : Int) ≤ (j : Int) - 1 := by omega
            have hb2 : (j : Int) - 1 < (k : Int) := by omega
            have hb3 : j - 1 < k := by omega
            repeat still_step
            refine wpStill_nil ?_
            clear p0 p1 p2 p3 p4 p5 p6 p7 p8 q0 q1 q2 q3 q4 q5 q6 q7 q8 HQ HQ2
            go_wp2_with fail
            refine (Hcmp.out _).mono ?_
            rintro e w7 ⟨rfl, n7⟩
            have N7 := Lib.hid (hn5.out.drew.tr n7)
            clear n7 Hcmp
            generalize cmpF _ _ = r at *
            cases hv : ltR X ⟨⟨kind2, time2, labs2, text2, value2, null2, maker2, seq2, place2⟩, A2, c2⟩
            · rw [hv] at hcp
              have HR := Lib.hid ((HSt.out hv).symm.trans Hp.out)
              have hr : ¬ (0 < r) := of_decide_eq_false hcp
              clear hv hcp HDn HSt
              go_wp2_with fail
              go_meet
              exact ⟨by rw [← HR.out], N7⟩
            · rw [hv] at hcp
              have HR := Lib.hid ((HDn.out hv).symm.trans Hp.out)
              have hr : 0 < r := of_decide_eq_true hcp
              clear hv hcp HDn HSt
              go_wp2_with fail
              go_roundw
              case rel => exact ⟨j - 1, by omega, by go_num, N7, HR⟩
              case measure => simp [intOf]; omega
          · obtain rfl : j = 0 := by omega
            have HR : Hid (0 = posF ltR X os os.length) := Lib.hid Hp.out
            have hd : decide ((0 : Int) < ((0 : Nat) : Int)) = false := rfl
            go_wp2_with fail
            go_quiet (fail)
            go_wp2_with fail
            go_meet
            exact ⟨by rw [← HR.out], Lib.hid (hn5.out.drewN _)⟩
      case rest =>
        obtain ⟨rfl, N6⟩ := hcut
        obtain ⟨w6, rfl⟩ : ∃ w6 : World, w6 = wc := ⟨_, rfl⟩
        have hpl : posF ltR X os os.length ≤ k := by
          have := posF_le ltR X os os.length
          have := Hok.out
          omega
        obtain ⟨j, hj⟩ : ∃ j, posF ltR X os os.length = j := ⟨_, rfl⟩
        rw [hj] at hpl ⊢
        have HI := Lib.hid (show insF ltR X os = os.take j ++ [X] ++ os.drop j by unfold insF; rw [hj])
        have N46 := Lib.hid (((Ch.refl (fun _ => False) w4).alloc _).tr N6.out)
        have HO6 := Lib.hid (Hr.out.tr N46.out)
        have HB6 := Lib.hid (HB.out.nx N6.out)
        have hrt : ∀ w', Nx w6 w' → Rd w' (fun k_1 => (Value.slice A6 k c6).ownBlock = some k_1 ∧ w.heap.size ≤ k_1 ∧ k_1 < w4.heap.size) 9 A6 j (rvl (os.take j)) := fun w' c' => by
          have := (HRO.out w' (N46.out.tr c')).take hpl
          unfold rvl at this ⊢
          rw [flat_take RV.cs_len] at this
          exact this
        have hrc : ∀ w', Nx w6 w' → Rd w' (fun k_1 => (Value.slice A6 k c6).ownBlock = some k_1 ∧ w.heap.size ≤ k_1 ∧ k_1 < w4.heap.size) 9 (if c6 = j then A6 else A6.map (·.add (j * 9))) (k - j) (rvl (os.drop j)) := fun w' c' => by
          have := (HRO.out w' (N46.out.tr c')).cut (k := j) (cap := c6) hpl hc6
          unfold rvl at this ⊢
          rw [flat_drop RV.cs_len] at this
          exact this
        have HRT := Lib.hid hrt
        have HRC := Lib.hid hrc
        have hjc : j ≤ c6 := by omega
        clear hj hrt hrc N6 HB p0 p1 p2 p3 p4 p5 p6 p7 p8
        go_wp2_with (at_builtin; first
          | (refine wpList_appN rfl (.tmp 31) (.tmp 34) _ rfl 36 i0 _ 9 96 Try.underlying25 hi0 hz0 hz1 hz2 rfl (by omega) rfl (OwnS.lit w6 w6 36 (Ch.refl _ _) 9) _ A6 j c6 _ rfl (HRT.out _ ((Ch.refl _ w6).alloc _)) (rvl_one _) (by simp only [maxLen]; omega) (by omega) ?_; intro v7 w7 o7 m7; rw [Nat.zero_add, List.nil_append] at o7; have O7 := Lib.hid o7; have b7 := HB6.out.nx o7.nx; have e0 : w7.cell? ⟨w4.heap.size, 0, none⟩ = some (.int .i64 kind) := b7.cell 0; have e1 : w7.cell? ⟨w4.heap.size, 1, none⟩ = some (.int .i64 time) := b7.cell 1; have e2 : w7.cell? ⟨w4.heap.size, 2, none⟩ = some (.slice A1 labs.length c1) := b7.cell 2; have e3 : w7.cell? ⟨w4.heap.size, 3, none⟩ = some (.string text) := b7.cell 3; have e4 : w7.cell? ⟨w4.heap.size, 4, none⟩ = some (.int .i64 value) := b7.cell 4; have e5 : w7.cell? ⟨w4.heap.size, 5, none⟩ = some (.bool null) := b7.cell 5; have e6 : w7.cell? ⟨w4.heap.size, 6, none⟩ = some (.int .i64 maker) := b7.cell 6; have e7 : w7.cell? ⟨w4.heap.size, 7, none⟩ = some (.int .i64 seq) := b7.cell 7; have e8 : w7.cell? ⟨w4.heap.size, 8, none⟩ = some (.int .i64 place) := b7.cell 8; clear o7 m7 b7)
          | (refine wpList_append_any _ rfl (.tmp 36) (.tmp 38) _ rfl w6.heap.size 36 i0 _ 9 96 Try.underlying25 hi0 hz0 hz1 hz2 rfl (by omega) v7 j _ rfl (O7.out.alloc _).own _ (some ⟨w7.heap.size, 0, none⟩) 1 1 _ rfl (Rd.lit9 w7 ⟨⟨kind, time, labs, text, value, null, maker, seq, place⟩, A1, c1⟩) (rvl_one _) (by simp only [maxLen]; omega) (by omega) (by have := O7.out.nx.size; simp; omega) ?_; intro v8 w8 own8 gr8 at8; obtain ⟨o8, m8⟩ := step_own O7.out ((Ch.refl _ _).alloc _) own8 gr8 at8; have O8 := Lib.hid o8; clear own8 gr8 at8 o8 m8)
          | (refine wpList_appN rfl (.tmp 40) (.tmp 43) _ rfl 36 i0 _ 9 96 Try.underlying25 hi0 hz0 hz1 hz2 rfl (by omega) rfl O8.out _ _ (k - j) _ _ rfl (HRC.out _ O8.out.nx) (rvl_one _) (by simp only [maxLen]; omega) (by omega) ?_; intro v9 w9 o9 m9; have O9 := Lib.hid o9; clear o9 m9))
        have O := Lib.hid (show OwnS w w9 36 9 v9 (k + 1) (rvl (insF ltR X os)) by
          have := O9.out.weak HO6.out.nx
          rw [show j + 1 + (k - j) = k + 1 by omega] at this
          rw [HI.out]
          rw [← HX.out]
          simpa [rvl] using this)
        go_roundw
        case rel => exact ⟨k + 1, _, by omega, by rw [HI.out]; have := Hok.out; simp; omega, by go_num, O, Lib.hid HT.out.symm⟩
        case measure => simp [intOf]; omega
    · have HR := Lib.hid (show sortF ltR l = os by rw [Ho.out, List.take_of_length_le (by rw [Hl.out]; omega)])
      have hkk : k = n := by omega
      have HLn := Lib.hid (show l.length = k by rw [Hl.out, hkk])
      clear hkk
      go_wp2_with fail
      go_ret
      exact ⟨_, rfl, by rw [HR.out, HLn.out]; exact Hr.out⟩
end
end Go.Proofs.Ytdfodcbpmfifgaa
