/- The contract of query.Answer. Conditions: at most 1000000 rows. -/
import Derived.Test.YtihocfdnkongkaaKrQyA
import Derived.Test.YtihocfdnkongkaaKrQ2
import Derived.Deep.CutBlock
import Derived.Deep.DeepCutAuto
namespace Go.Proofs.Ytihocfdnkongkaa
set_option maxRecDepth 100000
open Go.RowKit
set_option linter.unusedVariables false
section
variable {w : World} {D : Nat → Prop} {A B : Option Addr} {n c d : Nat} {l : List RV} {q : QryE}
theorem answer_wrong (l : List RowE) (h : qrightF q = false) : answerF q l = [] := by unfold answerF; rw [h]; rfl
theorem answer_right (l : List RowE) (h : qrightF q = true) : answerF q l = ansG q (keeps0 q) (sortF keyLt l) := by unfold answerF ansG; rw [h]; rfl
set_option maxHeartbeats 8000000 in
theorem answer_any (hq : QIs w q B d) (h : Rd w D 9 A n (rvl l)) (hl : l.length = n) (hn : n ≤ 1000000) (hk : ∀ x ∈ l, x.ok w D ∧ x.row.few) :
    Calls Try.prog 10 #[qryV q B d, .slice A n c] w (AnsTo q l w) := by
  obtain ⟨i0, hi0, hz0, hz1, hz2⟩ := info_parts Try.infoRow
  have HQ := Lib.hid (fun w' (c' : Nx w w') => qright_q (hq.nx c'))
  have HK0 := Lib.hid (fun (h8 : qrightF q = true) w' (c' : Nx w w') (x : RV) (D : Nat → Prop) (hx : x.ok w' D) (hf : x.row.few) => qkeeps0_q (hq.nx c') h8 hx hf)
  have HS := Lib.hid (fun w' (c' : Nx w w') => rsort_any (c := c) (h.nx (by decide) c') hl hn fun x hx => ⟨(hk x hx).1.ch c' (fun _ _ _ hf => hf) fun _ hD => hD, by have := (hk x hx).2.2; omega⟩)
  have Hl := Lib.hid hl
  have Hfew := Lib.hid (fun x hx => (hk x hx).2)
  have Hok := Lib.hid (fun h => answer_wrong (q := q) (l.map fun x => x.row) h)
  have Hok2 := Lib.hid (fun h => answer_right (q := q) (l.map fun x => x.row) h)
  have hi64 := hq.i2
  have hlim0 : qrightF q = true → 0 ≤ q.limit ∧ q.limit ≤ 2048 := fun h => (right_bounds h).2.2
  have HST : Hid (∀ x, stripF q x = if q.texts then x else { x with text := ⟨#[]⟩ }) := Lib.hid (fun x => rfl)
  have HKP := Lib.hid (fun (l : List RowE) (x : RowE) (h1 : keeps0 q x = true) (h2 : q.limit = 0 ∨ (ansG q (keeps0 q) l).length < q.limit.toNat) => ans_keep (q := q) (p := keeps0 q) (l := l) (x := x) h1 h2)
  have HSK := Lib.hid (fun (l : List RowE) (x : RowE) (h1 : keeps0 q x = false) => ans_skip (q := q) (p := keeps0 q) (l := l) (x := x) h1)
  have HFU := Lib.hid (fun (l : List RowE) (x : RowE) (h1 : q.limit ≠ 0) (h2 : q.limit.toNat ≤ (ansG q (keeps0 q) l).length) => ans_full (q := q) (p := keeps0 q) (l := l) (x := x) h1 h2)
  obtain ⟨lo, hi, ms, limit, texts⟩ := q
  clear h hl hk hq
  have HB := Lib.hid (Blk.new w 24 #[.int .i64 lo, .int .i64 hi, .slice B ms.length d, .int .i64 limit, .bool texts])
  have HN := Lib.hid ((Ch.refl (fun _ => False) w).alloc (.cells #[.int .i64 lo, .int .i64 hi, .slice B ms.length d, .int .i64 limit, .bool texts] 24))
  unfold qryV at *
  simp only at *
  cases hqr : qrightF ⟨lo, hi, ms, limit, texts⟩
  · have hE := Lib.hid (Hok.out hqr)
    rw [hqr] at HQ
    clear hqr HK0 HS hlim0
    go_enter Try.func10, Try.ntmps10
    go_wp2_with fail
    refine (HQ.out _ HN.out).mono ?_
    rintro e w1 ⟨rfl, n1⟩
    have N1 := Lib.hid (HN.out.tr n1)
    have b1 := HB.out.nx n1
    clear n1
    go_wp2_with fail
    go_ret
    exact ⟨_, [], rfl, RowsO.nil _ _ N1.out, by rw [hE.out]; rfl⟩
  · have hE := Lib.hid (Hok2.out hqr)
    obtain ⟨hlim1, hlim2⟩ := hlim0 hqr
    have HK := Lib.hid (HK0.out hqr)
    rw [hqr] at HQ
    clear hqr HK0 Hok Hok2 hlim0
    go_enter Try.func10, Try.ntmps10
    go_wp2_with fail
    refine (HQ.out _ HN.out).mono ?_
    rintro e w1 ⟨rfl, n1⟩
    have N1 := Lib.hid (HN.out.tr n1)
    have B1 := Lib.hid (HB.out.nx n1)
    clear n1 HN HB HQ
    go_wp2_with fail
    refine (HS.out _ N1.out).mono ?_
    rintro e w5 ⟨v0, zs, rfl, hr5, hm5⟩
    obtain ⟨A0, c0, rfl, hc1, hc2⟩ := hr5.form
    have hzn : zs.length = n := by
      have := congrArg List.length hm5
      rw [List.length_map, (sortF_perm _ _).length_eq, List.length_map, Hl.out] at this
      exact this
    have hsub : ∀ z ∈ zs, z.row ∈ l.map fun x => x.row := fun z hz => by
      have h1 : z.row ∈ zs.map fun x => x.row := List.mem_map_of_mem hz
      rw [hm5] at h1
      exact (sortF_perm _ _).subset h1
    have HFEW := Lib.hid (fun z (hz : z ∈ zs) => (by
      obtain ⟨x, hx, e⟩ := List.mem_map.1 (hsub z hz)
      rw [← e]
      exact Hfew.out x hx : z.row.few))
    have HR5 := Lib.hid hr5
    have HW := Lib.hid (N1.out.tr hr5.own.nx)
    have B5 := Lib.hid (B1.out.nx hr5.own.nx)
    have HM5 := Lib.hid hm5
    have HW1 := Lib.hid N1.out.size
    subst hzn
    clear hr5 hm5 hsub Hfew HS N1 B1
    generalize hnn : zs.length = n at *
    have HZL := Lib.hid hnn
    have RD5 : Hid (Rd w5 (fun k => k < w5.heap.size) 9 A0 n (rvl zs)) := Lib.hid (by
      have h := HR5.out
      rw [← HZL.out] at h ⊢
      exact h.rd)
    clear hnn
    go_wp2_with fail
    go_loopw [5, 14] (fun v i wr => ∃ (k : Nat) (os : List RV), k ≤ n ∧ i = .int .i64 (k : Int) ∧ Hid (AnsI w w5 wr v os) ∧ Hid (os.map (fun x => x.row) = ansG ⟨lo, hi, ms, limit, texts⟩ (keeps0 ⟨lo, hi, ms, limit, texts⟩) ((zs.take k).map fun x => x.row))) (fun _ i _ => n - (intOf i).toNat)
    case atStart => exact ⟨0, [], Nat.zero_le _, rfl, Lib.hid (AnsI.nil HW.out), Lib.hid (by unfold ansG cutF; simp)⟩
    case round =>
      obtain ⟨w4, rfl⟩ : ∃ w4 : World, w4 = wr := ⟨_, rfl⟩
      obtain ⟨k, os, hkn, rfl, Hr, Hm⟩ := hrel
      by_cases hlt : k < n
      · have hkl : k < zs.length := by rw [HZL.out]; exact hlt
        have hosl : os.length ≤ k := by
          have := congrArg List.length Hm.out
          rw [List.length_map, ans_len] at this
          have h2 := List.length_filter_le (keeps0 ⟨lo, hi, ms, limit, texts⟩) ((zs.take k).map fun x => x.row)
          rw [List.length_map, List.length_take] at h2
          simp only at this
          split at this <;> omega
        have b4 := B5.out.nx Hr.out.own.nx
        obtain ⟨ad, rfl, hb, p0, p1, p2, p3, p4, p5, p6, p7, p8⟩ := row_at (RD5.out.nx (by decide) Hr.out.own.nx) hkl
        have HX := Lib.hid (HFEW.out _ (List.getElem_mem hkl))
        have HXO := Lib.hid (HR5.out.ok _ (List.getElem_mem hkl))
        have HT := Lib.hid (show ((zs.take (k + 1)).map fun x => x.row) = ((zs.take k).map fun x => x.row) ++ [zs[k].row] by rw [List.take_succ_eq_append_getElem hkl, List.map_append]; rfl)
        have HB4 := Lib.hid b4
        have q0 : w4.cell? ⟨w.heap.size, 0, none⟩ = some (.int .i64 lo) := b4.cell 0
        have q1 : w4.cell? ⟨w.heap.size, 1, none⟩ = some (.int .i64 hi) := b4.cell 1
        have q2 : w4.cell? ⟨w.heap.size, 2, none⟩ = some (.slice B ms.length d) := b4.cell 2
        have q3 : w4.cell? ⟨w.heap.size, 3, none⟩ = some (.int .i64 limit) := b4.cell 3
        have q4 : w4.cell? ⟨w.heap.size, 4, none⟩ = some (.bool texts) := b4.cell 4
        have hbl : w.heap.size < w4.heap.size := b4.lt
        clear b4 hb
        generalize zs[k] = x at *
        obtain ⟨⟨kind, time, labs, text, value, null, maker, seq, place⟩, A1, c1⟩ := x
        simp only at p0 p1 p2 p3 p4 p5 p6 p7 p8 HX HXO HT
        obtain ⟨A6, c6, hu5, hc6, hm6⟩ := Hr.out.rows.form
        subst hu5
        have hosc : os.length ≤ 1000000 := by omega
        obtain ⟨kb, hkb⟩ : ∃ kb, kb = (keeps0 ⟨lo, hi, ms, limit, texts⟩ ⟨kind, time, labs, text, value, null, maker, seq, place⟩ && (decide (limit = 0) || decide ((os.length : Int) < limit))) := ⟨_, rfl⟩
        have HKB := Lib.hid hkb
        clear hkb
        have hk1 := Lib.hid (HK.out (w4.alloc (.cells #[.int .i64 kind, .int .i64 time, .slice A1 labs.length c1, .string text, .int .i64 value, .bool null, .int .i64 maker, .int .i64 seq, .int .i64 place] 33)) ((HW.out.tr Hr.out.own.nx).alloc _) ⟨⟨kind, time, labs, text, value, null, maker, seq, place⟩, A1, c1⟩ _ (HXO.out.ch (Hr.out.own.nx.alloc _) (D' := fun k => w1.heap.size ≤ k ∧ k < w5.heap.size) (fun _ _ _ hf => hf) (fun k hk => ⟨hk.1, hk.2.1⟩)) HX.out)
        unfold rowV at hk1
        simp only at hk1
        go_upto_region 7 with fail
        go_cut [32] (fun s32 wx => s32 = .bool kb ∧ Hid (Nx (w4.alloc (.cells #[.int .i64 kind, .int .i64 time, .slice A1 labs.length c1, .string text, .int .i64 value, .bool null, .int .i64 maker, .int .i64 seq, .int .i64 place] 33)) wx))
        case first =>
          go_wp2_with fail
          refine hk1.out.mono ?_
          rintro e w6 ⟨rfl, n6⟩
          have N6 := Lib.hid n6
          have b6 := HB4.out.nx (((Ch.refl _ w4).alloc _).tr n6)
          have r3 : w6.cell? ⟨w.heap.size, 3, none⟩ = some (.int .i64 limit) := b6.cell 3
          clear n6 b6 hk1 q0 q1 q2 q3 q4 p0 p1 p2 p3 p4 p5 p6 p7 p8
          cases hkp : keeps0 ⟨lo, hi, ms, limit, texts⟩ ⟨kind, time, labs, text, value, null, maker, seq, place⟩
          · rw [hkp] at HKB
            clear hkp
            go_wp2_with fail
            go_meet
            exact ⟨by rw [HKB.out]; rfl, N6⟩
          · rw [hkp] at HKB
            clear hkp
            by_cases h0 : limit = 0
            · subst h0
              go_wp2_with fail
              go_meet
              exact ⟨by rw [HKB.out]; rfl, N6⟩
            · have h0b : (limit == 0) = false := by simpa using h0
              by_cases h1 : (os.length : Int) < limit
              · have h1b : decide ((os.length : Int) < limit) = true := decide_eq_true h1
                have H0 := Lib.hid h0
                have HKB2 := Lib.hid (show kb = true by rw [HKB.out, h1b]; simp)
                clear h0 HKB
                go_wp2_with fail
                go_meet
                exact ⟨by rw [HKB2.out], N6⟩
              · have h1b : decide ((os.length : Int) < limit) = false := decide_eq_false h1
                have HKB2 := Lib.hid (show kb = false by rw [HKB.out, h1b]; simp [h0])
                have H0 := Lib.hid h0
                clear h0 HKB
                go_wp2_with fail
                go_meet
                exact ⟨by rw [HKB2.out], N6⟩
        case rest =>
          obtain ⟨rfl, N6⟩ := hcut
          obtain ⟨w6, rfl⟩ : ∃ w6 : World, w6 = wc := ⟨_, rfl⟩
          have N46 := Lib.hid (((Ch.refl (fun _ => False) w4).alloc _).tr N6.out)
          have b6 := HB4.out.nx N46.out
          have d6 := (Blk.new w4 33 #[.int .i64 kind, .int .i64 time, .slice A1 labs.length c1, .string text, .int .i64 value, .bool null, .int .i64 maker, .int .i64 seq, .int .i64 place]).nx N6.out
          have r4 : w6.cell? ⟨w.heap.size, 4, none⟩ = some (.bool texts) := b6.cell 4
          have e0 : w6.cell? ⟨w4.heap.size, 0, none⟩ = some (.int .i64 kind) := d6.cell 0
          have e1 : w6.cell? ⟨w4.heap.size, 1, none⟩ = some (.int .i64 time) := d6.cell 1
          have e2 : w6.cell? ⟨w4.heap.size, 2, none⟩ = some (.slice A1 labs.length c1) := d6.cell 2
          have e3 : w6.cell? ⟨w4.heap.size, 3, none⟩ = some (.string text) := d6.cell 3
          have e4 : w6.cell? ⟨w4.heap.size, 4, none⟩ = some (.int .i64 value) := d6.cell 4
          have e5 : w6.cell? ⟨w4.heap.size, 5, none⟩ = some (.bool null) := d6.cell 5
          have e6 : w6.cell? ⟨w4.heap.size, 6, none⟩ = some (.int .i64 maker) := d6.cell 6
          have e7 : w6.cell? ⟨w4.heap.size, 7, none⟩ = some (.int .i64 seq) := d6.cell 7
          have e8 : w6.cell? ⟨w4.heap.size, 8, none⟩ = some (.int .i64 place) := d6.cell 8
          have fz : w6.frozen? ⟨w4.heap.size, 3, none⟩ = false := d6.frozen 3
          have hlt6 : w4.heap.size < w6.heap.size := d6.lt
          clear b6 d6 hk1 N6
          cases kb
          · have HRR : Hid (os.map (fun x => x.row) = ansG ⟨lo, hi, ms, limit, texts⟩ (keeps0 ⟨lo, hi, ms, limit, texts⟩) ((zs.take (k + 1)).map fun x => x.row)) := Lib.hid (by
              rw [HT.out]
              cases hkp : keeps0 ⟨lo, hi, ms, limit, texts⟩ ⟨kind, time, labs, text, value, null, maker, seq, place⟩
              · rw [HSK.out _ _ hkp]; exact Hm.out
              · have := HKB.out
                rw [hkp, Bool.true_and] at this
                have h2 := this.symm
                rw [Bool.or_eq_false_iff, decide_eq_false_iff_not, decide_eq_false_iff_not] at h2
                rw [HFU.out _ _ h2.1 (by rw [← Hm.out, List.length_map]; omega)]
                exact Hm.out)
            have HA := Lib.hid (Hr.out.tr N46.out)
            clear HKB
            go_wp2_with fail
            go_roundw
            case rel => exact ⟨k + 1, os, by omega, by go_num, HA, HRR⟩
            case measure => simp [intOf]; omega
          · have HRR : Hid (os.map (fun x => x.row) ++ [stripF ⟨lo, hi, ms, limit, texts⟩ ⟨kind, time, labs, text, value, null, maker, seq, place⟩] = ansG ⟨lo, hi, ms, limit, texts⟩ (keeps0 ⟨lo, hi, ms, limit, texts⟩) ((zs.take (k + 1)).map fun x => x.row)) := Lib.hid (by
              rw [HT.out]
              have := HKB.out.symm
              rw [Bool.and_eq_true, Bool.or_eq_true, decide_eq_true_eq, decide_eq_true_eq] at this
              rw [HKP.out _ _ this.1 (by rw [← Hm.out, List.length_map]; omega), Hm.out])
            rw [HST.out] at HRR
            cases texts
            · simp only [Bool.false_eq_true, if_false] at HRR
              have HA := Lib.hid (Hr.out.tr (N46.out.setCell (p := ⟨w4.heap.size, 3, none⟩) (fun h => absurd h (Nat.lt_irrefl _)) (.string ⟨#[]⟩)))
              have HY : Hid (RV.ok (w6.setCell ⟨w4.heap.size, 3, none⟩ (.string ⟨#[]⟩)) (fun k => w.heap.size ≤ k ∧ k < w5.heap.size) ⟨⟨kind, time, labs, ⟨#[]⟩, value, null, maker, seq, place⟩, A1, c1⟩) := Lib.hid (RV.ok.ch (x := ⟨⟨kind, time, labs, ⟨#[]⟩, value, null, maker, seq, place⟩, A1, c1⟩) (w := w5) HXO.out (Hr.out.own.nx.tr (N46.out.setCell (p := ⟨w4.heap.size, 3, none⟩) (fun h => absurd h (Nat.lt_irrefl _)) (.string ⟨#[]⟩))) (fun _ _ _ hf => hf) (fun k hk => ⟨Nat.le_trans HW1.out hk.1, hk.2.1⟩))
              have HL9 := Lib.hid (Rd.lit9 (w6.setCell ⟨w4.heap.size, 3, none⟩ (.string ⟨#[]⟩)) ⟨⟨kind, time, labs, ⟨#[]⟩, value, null, maker, seq, place⟩, A1, c1⟩)
              have HS := Lib.hid HA.out.own.nx.size
              simp only [World.size_setCell] at HL9 HS
              clear HK HKB HB4 HXO q0 q1 q2 q3 q4 p0 p1 p2 p3 p4 p5 p6 p7 p8
              go_wp2_with (at_builtin; refine wpList_append_any _ rfl (.tmp 38) (.tmp 40) _ rfl w5.heap.size 33 i0 _ 9 96 Try.underlying25 hi0 hz0 hz1 hz2 rfl (by omega) (.slice A6 os.length c6) os.length (rvl os) rfl (HA.out.own.alloc _).own _ (some ⟨w6.heap.size, 0, none⟩) 1 1 _ rfl HL9.out (rvl_one _) (by simp only [maxLen]; omega) (by omega) (by have := HS.out; simp; omega) ?_; intro v7 w7 own7 gr7 at7; obtain ⟨o7, m7⟩ := step_own HA.out.own ((Ch.refl _ _).alloc _) own7 gr7 at7; have G7 := Lib.hid (HA.out.app (y := ⟨⟨kind, time, labs, ⟨#[]⟩, value, null, maker, seq, place⟩, A1, c1⟩) HW.out o7 m7 HY.out); clear own7 gr7 at7 o7 m7)
              go_roundw
              case rel => exact ⟨k + 1, _, by omega, by go_num, G7, Lib.hid (by rw [List.map_append]; exact HRR.out)⟩
              case measure => simp [intOf]; omega
            · simp only [if_true] at HRR
              have HA := Lib.hid (Hr.out.tr N46.out)
              have HY : Hid (RV.ok w6 (fun k => w.heap.size ≤ k ∧ k < w5.heap.size) ⟨⟨kind, time, labs, text, value, null, maker, seq, place⟩, A1, c1⟩) := Lib.hid (RV.ok.ch (x := ⟨⟨kind, time, labs, text, value, null, maker, seq, place⟩, A1, c1⟩) (w := w5) HXO.out (Hr.out.own.nx.tr N46.out) (fun _ _ _ hf => hf) (fun k hk => ⟨Nat.le_trans HW1.out hk.1, hk.2.1⟩))
              have HL9 := Lib.hid (Rd.lit9 (w6) ⟨⟨kind, time, labs, text, value, null, maker, seq, place⟩, A1, c1⟩)
              have HS := Lib.hid HA.out.own.nx.size
              simp only [World.size_setCell] at HL9 HS
              clear HK HKB HB4 HXO q0 q1 q2 q3 q4 p0 p1 p2 p3 p4 p5 p6 p7 p8
              go_wp2_with (at_builtin; refine wpList_append_any _ rfl (.tmp 38) (.tmp 40) _ rfl w5.heap.size 33 i0 _ 9 96 Try.underlying25 hi0 hz0 hz1 hz2 rfl (by omega) (.slice A6 os.length c6) os.length (rvl os) rfl (HA.out.own.alloc _).own _ (some ⟨w6.heap.size, 0, none⟩) 1 1 _ rfl HL9.out (rvl_one _) (by simp only [maxLen]; omega) (by omega) (by have := HS.out; simp; omega) ?_; intro v7 w7 own7 gr7 at7; obtain ⟨o7, m7⟩ := step_own HA.out.own ((Ch.refl _ _).alloc _) own7 gr7 at7; have G7 := Lib.hid (HA.out.app (y := ⟨⟨kind, time, labs, text, value, null, maker, seq, place⟩, A1, c1⟩) HW.out o7 m7 HY.out); clear own7 gr7 at7 o7 m7)
              go_roundw
              case rel => exact ⟨k + 1, _, by omega, by go_num, G7, Lib.hid (by rw [List.map_append]; exact HRR.out)⟩
              case measure => simp [intOf]; omega
      · have hkn2 : zs.take k = zs := List.take_of_length_le (by rw [HZL.out]; omega)
        have HE2 := Lib.hid (show os.map (fun x => x.row) = answerF ⟨lo, hi, ms, limit, texts⟩ (l.map fun x => x.row) by rw [hE.out, Hm.out, hkn2, HM5.out])
        clear hkn2
        go_wp2_with fail
        go_ret
        exact ⟨_, os, rfl, Hr.out.rows, HE2.out⟩
end
end Go.Proofs.Ytihocfdnkongkaa
