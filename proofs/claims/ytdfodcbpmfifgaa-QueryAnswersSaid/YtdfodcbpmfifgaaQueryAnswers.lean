/- QueryAnswers: whatever rows and query, the program's answer is the document's, and so is what it says of each row. Conditions: none. -/
import Derived.Test.YtdfodcbpmfifgaaR12B
import Derived.Test.YtdfodcbpmfifgaaR9C
import Derived.Test.YtdfodcbpmfifgaaQyL
import Derived.Deep.RegionHeld3
import Derived.StillTailTactics
namespace Go.Proofs.Ytdfodcbpmfifgaa.QueryAnswers
set_option maxRecDepth 100000
open Go.RowKit Go.Proofs.Ytdfodcbpmfifgaa
set_option linter.unusedVariables false
set_option maxHeartbeats 16000000 in
theorem walk (q : QryE) (B : Option Addr) (d : Nat) (A : Option Addr) (c : Nat) (l : List RV) (W : World) (hq : QIs W q B d) (h : Rd W (fun k => k < W.heap.size) 9 A l.length (rvl l)) (hk : ∀ x ∈ l, x.ok W (fun k => k < W.heap.size) ∧ x.row.small) (hn : l.length ≤ 9223372036854775807) :
    Calls Try.prog 3 #[qryV q B d, .slice A l.length c] W fun e w' => e = .returned (.bool true) ∧ Nx W w' := by
  have HRD := Lib.hid h
  have HOK := Lib.hid hk
  have HQ := Lib.hid hq
  have HF := Lib.hid (fun w' (c' : Nx W w') => few_any (c := c) (hq.nx c') (h.nx (by decide) c') rfl (fun x hx => (hk x hx).2) hn)
  have HR := Lib.hid (fun w' (c' : Nx W w') => qright_q (hq.nx c'))
  have HRR := Lib.hid (fun w' (c' : Nx W w') => ref12right_q (hq.nx c'))
  have HAN := Lib.hid (fun w' (c' : Nx W w') D A n c l h hl hn hk => answer_any (D := D) (A := A) (n := n) (c := c) (l := l) (hq.nx c') h hl hn hk)
  have HRA := Lib.hid (fun w' (c' : Nx W w') (h60 : l.length ≤ 60) (h50 : ∀ x ∈ l, x.row.labs.length ≤ 50) => ref12answer_any (c := c) (hq.nx c') ((h.nx (by decide) c').more fun k hk => Nat.lt_of_lt_of_le hk c'.size) rfl (by omega) fun x hx => ⟨(hk x hx).1.ch c' (fun _ _ _ hf => hf) fun k hk => Nat.lt_of_lt_of_le hk c'.size, (hk x hx).2, by have := h50 x hx; omega⟩)
  have HKP := Lib.hid (fun w' (c' : Nx W w') x hx (h50 : x.row.labs.length ≤ 50) => keeps_q (x := x) (hq.nx c') ((hk x hx).1.ch c' (D' := fun _ => True) (fun _ _ _ hf => hf) fun _ _ => trivial) ⟨(hk x hx).2, by omega⟩)
  have HKR := Lib.hid (fun w' (c' : Nx W w') x hx (h50 : x.row.labs.length ≤ 50) => ref12keeps_q (x := x) (hq.nx c') ((hk x hx).1.ch c' (D' := fun _ => True) (fun _ _ _ hf => hf) fun _ _ => trivial) ⟨(hk x hx).2, by omega⟩)
  have HTW := Lib.hid (fun w' (c' : Nx W w') (h60 : l.length ≤ 60) (h50 : ∀ x ∈ l, x.row.labs.length ≤ 50) => twins_any (c := c) (h.nx (by decide) c') rfl (by omega) fun x hx => ⟨(hk x hx).1.ch c' (fun _ _ _ hf => hf) fun _ hk => hk, by have := h50 x hx; omega⟩)
  have HS := Lib.hid (fun w' A B n c m d l ls D D2 h1 h2 hn h3 h4 => samerows_any (w := w') (A := A) (B := B) (n := n) (c := c) (m := m) (d := d) (l := l) (ls := ls) (D := D) (D2 := D2) h1 h2 hn h3 h4)
  obtain ⟨lo, hi, ms, limit, texts⟩ := q
  clear h hk hq
  have HB := Lib.hid (Blk.new W 24 #[.int .i64 lo, .int .i64 hi, .slice B ms.length d, .int .i64 limit, .bool texts])
  have HN := Lib.hid ((Ch.refl (fun _ => False) W).alloc (.cells #[.int .i64 lo, .int .i64 hi, .slice B ms.length d, .int .i64 limit, .bool texts] 24))
  have HKEEP := Lib.hid (fun w' (c' : Nx (W.alloc (.cells #[.int .i64 lo, .int .i64 hi, .slice B ms.length d, .int .i64 limit, .bool texts] 24)) w') => show w'.cell? ⟨W.heap.size, 0, none⟩ = some (.int .i64 lo) ∧ w'.cell? ⟨W.heap.size, 1, none⟩ = some (.int .i64 hi) ∧ w'.cell? ⟨W.heap.size, 2, none⟩ = some (.slice B ms.length d) ∧ w'.cell? ⟨W.heap.size, 3, none⟩ = some (.int .i64 limit) ∧ w'.cell? ⟨W.heap.size, 4, none⟩ = some (.bool texts) from ⟨(HB.out.nx c').cell 0, (HB.out.nx c').cell 1, (HB.out.nx c').cell 2, (HB.out.nx c').cell 3, (HB.out.nx c').cell 4⟩)
  unfold qryV at *
  simp only at *
  go_enter Try.func3, Try.ntmps3
  go_wp2_with fail
  refine (lives_any _).mono ?_
  rintro e w1 ⟨rfl, n1⟩
  have M1 := Lib.hid n1
  obtain ⟨q0, q1, q2, q3, q4⟩ := HKEEP.out w1 n1
  clear n1
  go_wp2_with fail
  refine (HF.out _ (HN.out.tr M1.out)).mono ?_
  rintro e w2 ⟨b, rfl, hb, n2⟩
  have M2 := Lib.hid (M1.out.tr n2)
  have HFB := Lib.hid hb
  clear n2 hb q0 q1 q2 q3 q4
  cases b
  · go_wp2_with fail
    refine (lives_any _).mono ?_
    rintro e w3 ⟨rfl, n3⟩
    go_wp2_with fail
    go_ret
    exact ⟨rfl, (HN.out.tr M2.out).tr n3⟩
  · obtain ⟨h20, h60, h50⟩ := HFB.out rfl
    have H50 := Lib.hid h50
    have H60 := Lib.hid h60
    have Hln := Lib.hid (show l.length = l.length from rfl)
    clear h50 HF HFB
    go_wp2_with fail
    refine (HTW.out _ (HN.out.tr M2.out) H60.out H50.out).mono ?_
    rintro e w3 ⟨v, zs, rfl, hr3, -, hm3⟩
    obtain ⟨Az, cz, rfl, hcz1, hcz2⟩ := hr3.form
    have hzl : zs.length = l.length := by have := congrArg List.length hm3; simpa using this
    rw [hzl]
    rw [hzl] at hcz1
    have M3 := Lib.hid (M2.out.tr hr3.own.nx)
    have HZ := Lib.hid hr3
    have HZL := Lib.hid hzl
    have HZM := Lib.hid hm3
    obtain ⟨q0, q1, q2, q3, q4⟩ := HKEEP.out w3 M3.out
    have HZF := Lib.hid (fun x (hx : x ∈ zs) => show x.row.few from by
      have h1 : x.row ∈ zs.map fun x => x.row := List.mem_map_of_mem hx
      rw [hm3] at h1
      obtain ⟨y, hy, e⟩ := List.mem_map.1 h1
      rw [← e]
      exact ⟨(HOK.out y hy).2, by have := H50.out y hy; omega⟩)
    have HZR := Lib.hid (show RowsR w3 (fun k => k < w3.heap.size) Az zs from ⟨hr3.rd, fun x hx => ⟨(hr3.ok x hx).ch (Ch.refl (fun _ => False) w3) (fun _ _ _ hf => hf) fun k hk => hk.2.1, by have := (HZF.out x hx).2; omega⟩⟩)
    have HRD3 := Lib.hid (show Rd w3 (fun k => k < w3.heap.size) 9 Az l.length (rvl zs) by have := HZR.out.rd; rw [hzl] at this; exact this)
    clear hr3 hzl hm3 HTW
    go_wp2_with fail
    refine (HAN.out _ (HN.out.tr M3.out) _ _ _ _ _ HRD3.out HZL.out (by have := H60.out; omega) (fun x hx => ⟨(HZR.out.ok x hx).1, HZF.out x hx⟩)).mono ?_
    rintro e w4 ⟨v4, os, rfl, hr4, hm4⟩
    obtain ⟨A4, c4, rfl, hc4, hc42⟩ := hr4.form
    have M4 := Lib.hid (M3.out.tr hr4.own.nx)
    have HO4 := Lib.hid (answer_rows hr4 hm4 (fun x hx => by have := (HZF.out x hx).2; omega))
    have HM4 := Lib.hid (show os.map (fun x => x.row) = answerF ⟨lo, hi, ms, limit, texts⟩ (l.map fun x => x.row) by rw [hm4, HZM.out])
    have HOL := Lib.hid (show os.length ≤ 1000000000 by
      have h1 := congrArg List.length HM4.out
      rw [List.length_map] at h1
      have h2 : (answerF ⟨lo, hi, ms, limit, texts⟩ (l.map fun x => x.row)).length ≤ l.length := by
        unfold answerF
        split
        · rw [List.length_map]
          have e1 : (cutF ⟨lo, hi, ms, limit, texts⟩ ((sortF keyLt (l.map fun x => x.row)).filter (keeps0 ⟨lo, hi, ms, limit, texts⟩))).length ≤ ((sortF keyLt (l.map fun x => x.row)).filter (keeps0 ⟨lo, hi, ms, limit, texts⟩)).length := by
            unfold cutF
            split
            · exact Nat.le_refl _
            · rw [List.length_take]; omega
          have e2 := List.length_filter_le (keeps0 ⟨lo, hi, ms, limit, texts⟩) (sortF keyLt (l.map fun x => x.row))
          have e3 := (sortF_perm keyLt (l.map fun x => x.row)).length_eq
          rw [List.length_map] at e3
          omega
        · simp
      have := H60.out
      omega)
    have HZR4 := Lib.hid (HZR.out.nx hr4.own.nx)
    obtain ⟨q0, q1, q2, q3, q4⟩ := HKEEP.out w4 M4.out
    clear hr4 hm4 HZR HRD3 HAN
    generalize qrightF ⟨lo, hi, ms, limit, texts⟩ = b0 at *
    have HNE : Hid (∀ b : Bool, (b != b) = false) := Lib.hid (fun b => by cases b <;> rfl)
    go_wp2_with fail
    cases b0
    all_goals
      go_region_held3 (fun w' => w'.cell? ⟨W.heap.size, 0, none⟩ = some (.int .i64 lo) ∧ w'.cell? ⟨W.heap.size, 1, none⟩ = some (.int .i64 hi) ∧ w'.cell? ⟨W.heap.size, 2, none⟩ = some (.slice B ms.length d) ∧ w'.cell? ⟨W.heap.size, 3, none⟩ = some (.int .i64 limit) ∧ w'.cell? ⟨W.heap.size, 4, none⟩ = some (.bool texts)) (first | (with_reducible exact ⟨q0, q1, q2, q3, q4⟩) | go_keep) ((first
        | (go_at_call 10; refine (HR.out _ (HN.out.tr M4.out.drew)).mono ?_; rintro e w5 ⟨rfl, n5⟩; have N5 := Lib.hid (M4.out.drew.tr n5); have N45 := Lib.hid ((Ch.refl (fun _ => False) w4).drew.tr n5); obtain ⟨q0, q1, q2, q3, q4⟩ := HKEEP.out w5 N5.out; clear n5)
        | (go_at_call 11; refine (HRR.out w5 (HN.out.tr N5.out)).mono ?_; rintro e w6 ⟨rfl, n6⟩; have N6 := Lib.hid (N5.out.tr n6); have N46 := Lib.hid (N45.out.tr n6); obtain ⟨q0, q1, q2, q3, q4⟩ := HKEEP.out w6 N6.out; clear n6)
        | (go_at_call 13; refine (HRA.out w6 (HN.out.tr N6.out) H60.out H50.out).mono ?_; rintro e w7 ⟨Ar, cr, rs, rfl, hrr, nr, hmr⟩; have N7 := Lib.hid (N6.out.tr nr); have N47 := Lib.hid (N46.out.tr nr); have HRS := Lib.hid hrr; have HRM := Lib.hid hmr; obtain ⟨q0, q1, q2, q3, q4⟩ := HKEEP.out w7 N7.out; clear nr hrr hmr)
        | (go_at_call 12; first
            | ((with_reducible refine (HS.out w7 A4 Ar os.length c4 rs.length cr os rs _ _ (HO4.out.nx N47.out) rfl HOL.out HRS.out rfl).mono ?_); rintro e w8 ⟨b, rfl, hb, n8⟩; have N8 := Lib.hid (N7.out.tr n8); have N48 := Lib.hid (N47.out.tr n8); obtain rfl : b = true := hb.2 (by rw [HM4.out, HRM.out]); obtain ⟨q0, q1, q2, q3, q4⟩ := HKEEP.out w8 N8.out; clear n8 hb)
            | ((with_reducible refine (HS.out w8 Az A l.length cz l.length c zs l _ _ (HZR4.out.nx N48.out) HZL.out (by have := H60.out; omega) (RowsR.nx ⟨HRD.out, fun x hx => ⟨(HOK.out x hx).1, by have := H50.out x hx; omega⟩⟩ (HN.out.tr N8.out)) rfl).mono ?_); rintro e w9 ⟨b, rfl, hb, n9⟩; have N9 := Lib.hid (N8.out.tr n9); obtain rfl : b = true := hb.2 HZM.out; obtain ⟨q0, q1, q2, q3, q4⟩ := HKEEP.out w9 N9.out; clear n9 hb))))
      clear q0 q1 q2 q3 q4
      go_wp2_with fail
      go_loopw [44] (fun i wr => ∃ k : Nat, k ≤ l.length ∧ i = .int .i64 (k : Int) ∧ Hid (Nx (W.alloc (.cells #[.int .i64 lo, .int .i64 hi, .slice B ms.length d, .int .i64 limit, .bool texts] 24)) wr)) (fun i _ => l.length - (intOf i).toNat)
      case atStart => exact ⟨0, Nat.zero_le _, rfl, N9⟩
      case round =>
        obtain ⟨w10, rfl⟩ : ∃ w10 : World, w10 = wr := ⟨_, rfl⟩
        obtain ⟨k, hk, rfl, N10⟩ := hrel
        by_cases hlt : k < l.length
        · obtain ⟨ad, rfl, -, p0, p1, p2, p3, p4, p5, p6, p7, p8⟩ := row_at (HRD.out.nx (by decide) (HN.out.tr N10.out)) hlt
          have HK1 := Lib.hid (fun w' (c' : Nx W w') => HKP.out w' c' _ (List.getElem_mem hlt) (H50.out _ (List.getElem_mem hlt)))
          have HK2 := Lib.hid (fun w' (c' : Nx W w') => HKR.out w' c' _ (List.getElem_mem hlt) (H50.out _ (List.getElem_mem hlt)))
          generalize l[k] = x at *
          obtain ⟨⟨kind, time, labs, text, value, null, maker, seq, place⟩, A1, c1⟩ := x
          have HB10 := Lib.hid (Blk.new w10 36 #[.int .i64 kind, .int .i64 time, .slice A1 labs.length c1, .string text, .int .i64 value, .bool null, .int .i64 maker, .int .i64 seq, .int .i64 place])
          have HKX := Lib.hid (fun w' (c' : Nx (w10.alloc (.cells #[.int .i64 kind, .int .i64 time, .slice A1 labs.length c1, .string text, .int .i64 value, .bool null, .int .i64 maker, .int .i64 seq, .int .i64 place] 36)) w') => show w'.cell? ⟨w10.heap.size, 0, none⟩ = some (.int .i64 kind) ∧ w'.cell? ⟨w10.heap.size, 1, none⟩ = some (.int .i64 time) ∧ w'.cell? ⟨w10.heap.size, 2, none⟩ = some (.slice A1 labs.length c1) ∧ w'.cell? ⟨w10.heap.size, 3, none⟩ = some (.string text) ∧ w'.cell? ⟨w10.heap.size, 4, none⟩ = some (.int .i64 value) ∧ w'.cell? ⟨w10.heap.size, 5, none⟩ = some (.bool null) ∧ w'.cell? ⟨w10.heap.size, 6, none⟩ = some (.int .i64 maker) ∧ w'.cell? ⟨w10.heap.size, 7, none⟩ = some (.int .i64 seq) ∧ w'.cell? ⟨w10.heap.size, 8, none⟩ = some (.int .i64 place) from ⟨(HB10.out.nx c').cell 0, (HB10.out.nx c').cell 1, (HB10.out.nx c').cell 2, (HB10.out.nx c').cell 3, (HB10.out.nx c').cell 4, (HB10.out.nx c').cell 5, (HB10.out.nx c').cell 6, (HB10.out.nx c').cell 7, (HB10.out.nx c').cell 8⟩)
          have N11 := Lib.hid (N10.out.alloc (.cells #[.int .i64 kind, .int .i64 time, .slice A1 labs.length c1, .string text, .int .i64 value, .bool null, .int .i64 maker, .int .i64 seq, .int .i64 place] 36))
          unfold rowV at HK1 HK2
          simp only at p0 p1 p2 p3 p4 p5 p6 p7 p8 HK1 HK2
          generalize keepsF _ _ = b1 at *
          obtain ⟨q0, q1, q2, q3, q4⟩ := HKEEP.out (w10.alloc (.cells #[.int .i64 kind, .int .i64 time, .slice A1 labs.length c1, .string text, .int .i64 value, .bool null, .int .i64 maker, .int .i64 seq, .int .i64 place] 36)) N11.out
          have h60 := H60.out
          cases b1
          all_goals
            go_wp2_with fail
            clear p0 p1 p2 p3 p4 p5 p6 p7 p8
            obtain ⟨e0, e1, e2, e3, e4, e5, e6, e7, e8⟩ := HKX.out (w10.alloc (.cells #[.int .i64 kind, .int .i64 time, .slice A1 labs.length c1, .string text, .int .i64 value, .bool null, .int .i64 maker, .int .i64 seq, .int .i64 place] 36)) (Ch.refl _ _)
            go_region_held3 (fun w' => w'.cell? ⟨W.heap.size, 0, none⟩ = some (.int .i64 lo) ∧ w'.cell? ⟨W.heap.size, 1, none⟩ = some (.int .i64 hi) ∧ w'.cell? ⟨W.heap.size, 2, none⟩ = some (.slice B ms.length d) ∧ w'.cell? ⟨W.heap.size, 3, none⟩ = some (.int .i64 limit) ∧ w'.cell? ⟨W.heap.size, 4, none⟩ = some (.bool texts) ∧ w'.cell? ⟨w10.heap.size, 0, none⟩ = some (.int .i64 kind) ∧ w'.cell? ⟨w10.heap.size, 1, none⟩ = some (.int .i64 time) ∧ w'.cell? ⟨w10.heap.size, 2, none⟩ = some (.slice A1 labs.length c1) ∧ w'.cell? ⟨w10.heap.size, 3, none⟩ = some (.string text) ∧ w'.cell? ⟨w10.heap.size, 4, none⟩ = some (.int .i64 value) ∧ w'.cell? ⟨w10.heap.size, 5, none⟩ = some (.bool null) ∧ w'.cell? ⟨w10.heap.size, 6, none⟩ = some (.int .i64 maker) ∧ w'.cell? ⟨w10.heap.size, 7, none⟩ = some (.int .i64 seq) ∧ w'.cell? ⟨w10.heap.size, 8, none⟩ = some (.int .i64 place)) (first | (with_reducible exact ⟨q0, q1, q2, q3, q4, e0, e1, e2, e3, e4, e5, e6, e7, e8⟩) | go_keep) ((first
              | (go_at_call 14; refine (HK1.out _ (HN.out.tr N11.out.drew)).mono ?_; rintro e w12 ⟨rfl, n12⟩; have N12 := Lib.hid (N11.out.drew.tr n12); have M12 := Lib.hid ((Ch.refl (fun _ => False) (w10.alloc (.cells #[.int .i64 kind, .int .i64 time, .slice A1 labs.length c1, .string text, .int .i64 value, .bool null, .int .i64 maker, .int .i64 seq, .int .i64 place] 36))).drew.tr n12); obtain ⟨q0, q1, q2, q3, q4⟩ := HKEEP.out w12 N12.out; obtain ⟨e0, e1, e2, e3, e4, e5, e6, e7, e8⟩ := HKX.out w12 M12.out; clear n12)
              | (go_at_call 15; refine (HK2.out w12 (HN.out.tr N12.out)).mono ?_; rintro e w13 ⟨rfl, n13⟩; have N13 := Lib.hid (N12.out.tr n13); have M13 := Lib.hid (M12.out.tr n13); obtain ⟨q0, q1, q2, q3, q4⟩ := HKEEP.out w13 N13.out; obtain ⟨e0, e1, e2, e3, e4, e5, e6, e7, e8⟩ := HKX.out w13 M13.out; clear n13)))
            clear q0 q1 q2 q3 q4 e0 e1 e2 e3 e4 e5 e6 e7 e8
            go_wp2_with fail
            go_roundw
            case rel => exact ⟨k + 1, by omega, by go_num, N13⟩
            case measure => simp [intOf]; omega
        · go_wp2_with fail
          go_ret
          exact ⟨rfl, HN.out.tr N10.out⟩
theorem walks : Walks 3 Try.f3 := by
  intro H enc W args ds ps h
  rw [Try.params3] at h
  obtain ⟨q, B, d, vs, ds1, p1, rfl, hr, hs, hd, hd2, i0, i1, i2, h1⟩ := h.query
  obtain ⟨A, c, l, vs2, ds2, p2, e2, hr2, hk2, hc, hc2, h2⟩ := h1.rows
  have e1 := h2.nil
  simp at e1 e2
  subst e1
  subst e2
  exact walk q B d A c l W ⟨hr, hs, i0, i1, i2, hd, hd2⟩ hr2 hk2 (by unfold maxLen at hc2; omega)
/-- whatever the input, the law answers true -/
theorem proved : Rows.QueryAnswersSaid :=
  OpenClaim.holds_of_wide 3 Try.f3 rfl rfl rfl rfl rfl rfl rfl ⟨rfl, rfl, rfl, rfl, rfl⟩ rfl rfl rfl rfl rfl (by kernel_rfl) Try.func3 (by kernel_rfl)
    (of_decide_eq_true (by kernel_rfl)) (by unfold Func.isWrapper; first | (rw [if_pos (by decide +kernel)]; kernel_rfl) | (rw [if_neg (by decide +kernel)]; exact ⟨rfl, rfl⟩))
    (fun os started H enc _ => law_lifted (s := Rows.queryAnswersSpec) Try.func3 (by kernel_rfl) rfl rfl
      (by intro H ds h; rw [Try.params3] at h; match ds, h with | [d1, d2], _ => rfl)
      (by rw [Try.params3]; intro t ht; simp at ht; rcases ht with rfl | rfl <;> exact ⟨by kernel_rfl, of_decide_eq_true (by kernel_rfl)⟩) walks os started H enc
      (ChangeSpec.witness6 (enc := enc) (C := Try.checked) false ⟨#[], #[.agg #[.int .i64 0, .int .i64 0, .slice none 0 0, .int .i64 0, .bool false], .slice none 0 0], []⟩ 8 (by kernel_rfl) (by kernel_rfl) (by kernel_rfl) (by kernel_rfl)))
end Go.Proofs.Ytdfodcbpmfifgaa.QueryAnswers
