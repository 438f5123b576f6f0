/- QueryLimits: an answer with a limit is a beginning of the one without; what is cut in two times is answered in two. Conditions: none. -/
import Derived.Test.YtdfodcbpmfifgaaQyB
import Derived.Test.YtdfodcbpmfifgaaR9B
import Derived.Test.YtdfodcbpmfifgaaQyL
import Derived.Deep.RegionHeld3
import Derived.StillTailTactics
namespace Go.Proofs.Ytdfodcbpmfifgaa.QueryLimits
set_option maxRecDepth 100000
open Go.RowKit Go.Proofs.Ytdfodcbpmfifgaa
set_option linter.unusedVariables false
/-- three copies of the query, in blocks of their own -/
def Three (W1 : World) (cs : Array Value) (s7 s8 s9 : Value) (wx : World) : Prop := ∃ b7 b8 b9 : Nat, s7 = .pointer (some ⟨b7, 0, none⟩) ∧ s8 = .pointer (some ⟨b8, 0, none⟩) ∧ s9 = .pointer (some ⟨b9, 0, none⟩) ∧
  b7 ≠ b8 ∧ b7 ≠ b9 ∧ b8 ≠ b9 ∧ W1.heap.size ≤ b7 ∧ W1.heap.size ≤ b8 ∧ W1.heap.size ≤ b9 ∧ Blk wx b7 24 cs ∧ Blk wx b8 24 cs ∧ Blk wx b9 24 cs ∧ Nx W1 wx
theorem three_mk (w : World) (t : TypeId) (cs : Array Value) : Blk (((w.alloc (.cells cs t)).alloc (.cells cs t)).alloc (.cells cs t)).drew w.heap.size t cs ∧ Blk (((w.alloc (.cells cs t)).alloc (.cells cs t)).alloc (.cells cs t)).drew (w.heap.size + 1) t cs ∧ Blk (((w.alloc (.cells cs t)).alloc (.cells cs t)).alloc (.cells cs t)).drew (w.heap.size + 1 + 1) t cs := by
  refine ⟨(((Blk.new w t cs).alloc _).alloc _).drew, ?_, ?_⟩
  · have := ((Blk.new (w.alloc (.cells cs t)) t cs).alloc (.cells cs t)).drew
    rwa [World.size_alloc] at this
  · have := (Blk.new ((w.alloc (.cells cs t)).alloc (.cells cs t)) t cs).drew
    rwa [World.size_alloc, World.size_alloc] at this
set_option maxHeartbeats 16000000 in
theorem walk (q : QryE) (B : Option Addr) (d : Nat) (A : Option Addr) (c : Nat) (l : List RV) (cut : Int) (W : World) (hq : QIs W q B d) (h : Rd W (fun k => k < W.heap.size) 9 A l.length (rvl l)) (hk : ∀ x ∈ l, x.ok W (fun k => k < W.heap.size) ∧ x.row.small) (hn : l.length ≤ 9223372036854775807) (hcut : i64 cut) :
    Calls Try.prog 4 #[qryV q B d, .slice A l.length c, .int .i64 cut] W fun e w' => e = .returned (.bool true) ∧ Nx W w' := by
  obtain ⟨i0, hi0, hz0, hz1, hz2⟩ := info_parts Try.infoRow
  have HF := Lib.hid (fun w' (c' : Nx W w') => few_any (c := c) (hq.nx c') (h.nx (by decide) c') rfl (fun x hx => (hk x hx).2) hn)
  have HR := Lib.hid (fun w' (c' : Nx W w') => qright_q (hq.nx c'))
  have HAN := Lib.hid (fun w' (c' : Nx W w') (lo hi limit : Int) (i0 : i64 lo) (i1 : i64 hi) (i2 : i64 limit) (h60 : l.length ≤ 60) (h50 : ∀ x ∈ l, x.row.labs.length ≤ 50) => answer_any (q := ⟨lo, hi, q.ms, limit, q.texts⟩) (B := B) (d := d) (c := c) ⟨(hq.nx c').rd, hq.sm, i0, i1, i2, hq.hd, hq.hd2⟩ (h.nx (by decide) c') rfl (by omega) fun x hx => ⟨(hk x hx).1.ch c' (fun _ _ _ hf => hf) fun _ hD => hD, (hk x hx).2, by have := h50 x hx; omega⟩)
  have HS := Lib.hid (fun w' A B n c m d l ls D D2 h1 h2 hn h3 h4 => samerows_any (w := w') (A := A) (B := B) (n := n) (c := c) (m := m) (d := d) (l := l) (ls := ls) (D := D) (D2 := D2) h1 h2 hn h3 h4)
  have I0 := Lib.hid hq.i0
  have I1 := Lib.hid hq.i1
  have I2 := Lib.hid hq.i2
  have IC := Lib.hid hcut
  have hi64 := hq.i2
  have HLM := Lib.hid (fun (h : qrightF q = true) => answer_lim h (l.map fun x => x.row))
  have HCT := Lib.hid (fun (h : qrightF q = true) h1 h2 => answer_cut h (l.map fun x => x.row) cut h1 h2)
  have HBD := Lib.hid (fun (h : qrightF q = true) => right_bounds h)
  obtain ⟨lo, hi, ms, limit, texts⟩ := q
  clear h hk hq
  have HB := Lib.hid (Blk.new W 24 #[.int .i64 lo, .int .i64 hi, .slice B ms.length d, .int .i64 limit, .bool texts])
  have HN := Lib.hid ((Ch.refl (fun _ => False) W).alloc (.cells #[.int .i64 lo, .int .i64 hi, .slice B ms.length d, .int .i64 limit, .bool texts] 24))
  have HKEEP := Lib.hid (fun w' (c' : Nx (W.alloc (.cells #[.int .i64 lo, .int .i64 hi, .slice B ms.length d, .int .i64 limit, .bool texts] 24)) w') => show w'.cell? ⟨W.heap.size, 0, none⟩ = some (.int .i64 lo) ∧ w'.cell? ⟨W.heap.size, 1, none⟩ = some (.int .i64 hi) ∧ w'.cell? ⟨W.heap.size, 2, none⟩ = some (.slice B ms.length d) ∧ w'.cell? ⟨W.heap.size, 3, none⟩ = some (.int .i64 limit) ∧ w'.cell? ⟨W.heap.size, 4, none⟩ = some (.bool texts) from ⟨(HB.out.nx c').cell 0, (HB.out.nx c').cell 1, (HB.out.nx c').cell 2, (HB.out.nx c').cell 3, (HB.out.nx c').cell 4⟩)
  unfold qryV at *
  simp only at *
  go_enter Try.func4, Try.ntmps4
  go_wp2_with fail
  refine (lives_any _).mono ?_
  rintro e w1 ⟨rfl, n1⟩
  have M1 := Lib.hid n1
  obtain ⟨q0, q1, q2, q3, q4⟩ := HKEEP.out w1 n1
  clear n1
  go_wp2_with fail
  refine (HF.out _ (HN.out.tr M1.out)).mono ?_
  rintro e w2 ⟨b, rfl, hb, n2⟩
  have M2 := Lib.hid (M1.out.tr n2)
  have HFB := Lib.hid hb
  obtain ⟨q0, q1, q2, q3, q4⟩ := HKEEP.out w2 M2.out
  clear n2 hb
  cases b
  · go_wp2_with fail
    refine (lives_any _).mono ?_
    rintro e w3 ⟨rfl, n3⟩
    go_wp2_with fail
    go_ret
    exact ⟨rfl, (HN.out.tr M2.out).tr n3⟩
  · obtain ⟨h20, h60, h50⟩ := HFB.out rfl
    have H50 := Lib.hid h50
    have H60 := Lib.hid h60
    clear h50 h60 h20 HF HFB
    go_wp2_with fail
    refine (HR.out _ (HN.out.tr M2.out)).mono ?_
    rintro e w3 ⟨rfl, n3⟩
    have M2 := Lib.hid (M2.out.tr n3)
    obtain ⟨q0, q1, q2, q3, q4⟩ := HKEEP.out w3 M2.out
    clear n3
    cases hqr : qrightF ⟨lo, hi, ms, limit, texts⟩
    · clear hqr
      go_wp2_with fail
      refine (lives_any _).mono ?_
      rintro e w4 ⟨rfl, n4⟩
      go_wp2_with fail
      go_ret
      exact ⟨rfl, (HN.out.tr M2.out).tr n4⟩
    have HQR := Lib.hid hqr
    clear hqr
    by_cases a1 : cut < lo
    · go_wp2_with fail
      refine (lives_any _).mono ?_
      rintro e w4 ⟨rfl, n4⟩
      go_wp2_with fail
      go_ret
      exact ⟨rfl, (HN.out.tr M2.out).tr n4⟩
    by_cases a2 : hi < cut
    · go_wp2_with fail
      refine (lives_any _).mono ?_
      rintro e w4 ⟨rfl, n4⟩
      go_wp2_with fail
      go_ret
      exact ⟨rfl, (HN.out.tr M2.out).tr n4⟩
    have h60' := H60.out
    obtain ⟨hlm1, hlm2⟩ := (HBD.out HQR.out).2.2
    have HC12 := Lib.hid (show lo ≤ cut ∧ cut ≤ hi by omega)
    go_upto_region 3 with fail
    go_cut [7, 8, 9] (fun s7 s8 s9 wx => Three (W.alloc (.cells #[.int .i64 lo, .int .i64 hi, .slice B ms.length d, .int .i64 limit, .bool texts] 24)) #[.int .i64 lo, .int .i64 hi, .slice B ms.length d, .int .i64 limit, .bool texts] s7 s8 s9 wx)
    case first =>
      have hsz : W.heap.size < w3.heap.size := by have := M2.out.size; simp at this; omega
      have H3 := Lib.hid (three_mk w3 24 #[.int .i64 lo, .int .i64 hi, .slice B ms.length d, .int .i64 limit, .bool texts])
      have N3 := Lib.hid (((M2.out.alloc (.cells #[.int .i64 lo, .int .i64 hi, .slice B ms.length d, .int .i64 limit, .bool texts] 24)).alloc (.cells #[.int .i64 lo, .int .i64 hi, .slice B ms.length d, .int .i64 limit, .bool texts] 24)).alloc (.cells #[.int .i64 lo, .int .i64 hi, .slice B ms.length d, .int .i64 limit, .bool texts] 24)).drew
      clear a1 a2 HC12 h60' hlm1 hlm2
      go_region_held3 (fun w' => w'.cell? ⟨W.heap.size, 0, none⟩ = some (.int .i64 lo) ∧ w'.cell? ⟨W.heap.size, 1, none⟩ = some (.int .i64 hi) ∧ w'.cell? ⟨W.heap.size, 2, none⟩ = some (.slice B ms.length d) ∧ w'.cell? ⟨W.heap.size, 3, none⟩ = some (.int .i64 limit) ∧ w'.cell? ⟨W.heap.size, 4, none⟩ = some (.bool texts)) (first | (with_reducible exact ⟨q0, q1, q2, q3, q4⟩) | (refine HKEEP.out _ ?_; repeat (first | exact M2.out | refine Ch.drew ?_ | refine Ch.alloc ?_ _ | refine Ch.setCell ?_ (fun h => by simp at h; omega) _))) (fail)
      all_goals
        go_wp2_with fail
        go_meet
        exact ⟨_, _, _, rfl, rfl, rfl, by omega, by omega, by omega, by simp; omega, by simp; omega, by simp; omega, by first | exact H3.out.1 | exact H3.out.2.1 | exact H3.out.2.2, by first | exact H3.out.1 | exact H3.out.2.1 | exact H3.out.2.2, by first | exact H3.out.1 | exact H3.out.2.1 | exact H3.out.2.2, N3.out⟩
    case rest =>
      obtain ⟨b7, b8, b9, rfl, rfl, rfl, n78, n79, n89, l7, l8, l9, k7, k8, k9, nx⟩ := hcut
      obtain ⟨w4, rfl⟩ : ∃ w4 : World, w4 = wc := ⟨_, rfl⟩
      have s7 : w4.cell? ⟨b7, 3, none⟩ = some (.int .i64 limit) := k7.cell 3
      have s8 : w4.cell? ⟨b8, 3, none⟩ = some (.int .i64 limit) := k8.cell 3
      have s9 : w4.cell? ⟨b9, 3, none⟩ = some (.int .i64 limit) := k9.cell 3
      have t8 : w4.cell? ⟨b8, 1, none⟩ = some (.int .i64 hi) := k8.cell 1
      have t9 : w4.cell? ⟨b9, 0, none⟩ = some (.int .i64 lo) := k9.cell 0
      have f7 := k7.frozen 3
      have f8 := k8.frozen 3
      have f9 := k9.frozen 3
      have g8 := k8.frozen 1
      have g9 := k9.frozen 0
      have K7 := Lib.hid k7
      have K8 := Lib.hid k8
      have K9 := Lib.hid k9
      have NX := Lib.hid nx
      clear k7 k8 k9 nx q0 q1 q2 q3 q4
      go_upto_region 6 with fail
      generalize hW : World.setCell _ _ _ = w5
      have k7 : Blk w5 b7 24 #[.int .i64 lo, .int .i64 hi, .slice B ms.length d, .int .i64 0, .bool texts] := by
        rw [← hW]
        exact ((((K7.out.set_ 3 (.int .i64 0)).far (p := ⟨b8, 3, none⟩) n78 _).far (p := ⟨b9, 3, none⟩) n79 _).far (p := ⟨b8, 1, none⟩) n78 _).far (p := ⟨b9, 0, none⟩) n79 _
      have k8 : Blk w5 b8 24 #[.int .i64 lo, .int .i64 cut, .slice B ms.length d, .int .i64 0, .bool texts] := by
        rw [← hW]
        exact ((((K8.out.far (p := ⟨b7, 3, none⟩) (Ne.symm n78) _).set_ 3 (.int .i64 0)).far (p := ⟨b9, 3, none⟩) n89 _).set_ 1 (.int .i64 cut)).far (p := ⟨b9, 0, none⟩) n89 _
      have k9 : Blk w5 b9 24 #[.int .i64 cut, .int .i64 hi, .slice B ms.length d, .int .i64 0, .bool texts] := by
        rw [← hW]
        exact ((((K9.out.far (p := ⟨b7, 3, none⟩) (Ne.symm n79) _).far (p := ⟨b8, 3, none⟩) (Ne.symm n89) _).set_ 3 (.int .i64 0)).far (p := ⟨b8, 1, none⟩) (Ne.symm n89) _).set_ 0 (.int .i64 cut)
      have N5 := Lib.hid (show Nx (W.alloc (.cells #[.int .i64 lo, .int .i64 hi, .slice B ms.length d, .int .i64 limit, .bool texts] 24)) w5 by
        rw [← hW]
        refine Ch.setCell ?_ (fun h => absurd h (Nat.not_lt.2 l9)) _
        refine Ch.setCell ?_ (fun h => absurd h (Nat.not_lt.2 l8)) _
        refine Ch.setCell ?_ (fun h => absurd h (Nat.not_lt.2 l9)) _
        refine Ch.setCell ?_ (fun h => absurd h (Nat.not_lt.2 l8)) _
        refine Ch.setCell ?_ (fun h => absurd h (Nat.not_lt.2 l7)) _
        exact NX.out)
      have HK7 := Lib.hid (fun w' (c' : Nx w5 w') => show w'.cell? ⟨b7, 0, none⟩ = some (.int .i64 lo) ∧ w'.cell? ⟨b7, 1, none⟩ = some (.int .i64 hi) ∧ w'.cell? ⟨b7, 2, none⟩ = some (.slice B ms.length d) ∧ w'.cell? ⟨b7, 3, none⟩ = some (.int .i64 0) ∧ w'.cell? ⟨b7, 4, none⟩ = some (.bool texts) from ⟨(k7.nx c').cell 0, (k7.nx c').cell 1, (k7.nx c').cell 2, (k7.nx c').cell 3, (k7.nx c').cell 4⟩)
      have HK8 := Lib.hid (fun w' (c' : Nx w5 w') => show w'.cell? ⟨b8, 0, none⟩ = some (.int .i64 lo) ∧ w'.cell? ⟨b8, 1, none⟩ = some (.int .i64 cut) ∧ w'.cell? ⟨b8, 2, none⟩ = some (.slice B ms.length d) ∧ w'.cell? ⟨b8, 3, none⟩ = some (.int .i64 0) ∧ w'.cell? ⟨b8, 4, none⟩ = some (.bool texts) from ⟨(k8.nx c').cell 0, (k8.nx c').cell 1, (k8.nx c').cell 2, (k8.nx c').cell 3, (k8.nx c').cell 4⟩)
      have HK9 := Lib.hid (fun w' (c' : Nx w5 w') => show w'.cell? ⟨b9, 0, none⟩ = some (.int .i64 cut) ∧ w'.cell? ⟨b9, 1, none⟩ = some (.int .i64 hi) ∧ w'.cell? ⟨b9, 2, none⟩ = some (.slice B ms.length d) ∧ w'.cell? ⟨b9, 3, none⟩ = some (.int .i64 0) ∧ w'.cell? ⟨b9, 4, none⟩ = some (.bool texts) from ⟨(k9.nx c').cell 0, (k9.nx c').cell 1, (k9.nx c').cell 2, (k9.nx c').cell 3, (k9.nx c').cell 4⟩)
      have I00 : i64 0 := ⟨by decide, by decide⟩
      clear hW k7 k8 k9 s7 s8 s9 t8 t9 f7 f8 f9 g8 g9 K7 K8 K9 NX
      obtain ⟨a0, a1', a2', a3, a4⟩ := HK7.out w5 (Ch.refl _ _)
      obtain ⟨q0, q1, q2, q3, q4⟩ := HKEEP.out w5 N5.out
      go_region_held3 (fun w' => w'.cell? ⟨b7, 0, none⟩ = some (.int .i64 lo) ∧ w'.cell? ⟨b7, 1, none⟩ = some (.int .i64 hi) ∧ w'.cell? ⟨b7, 2, none⟩ = some (.slice B ms.length d) ∧ w'.cell? ⟨b7, 3, none⟩ = some (.int .i64 0) ∧ w'.cell? ⟨b7, 4, none⟩ = some (.bool texts) ∧ w'.cell? ⟨W.heap.size, 0, none⟩ = some (.int .i64 lo) ∧ w'.cell? ⟨W.heap.size, 1, none⟩ = some (.int .i64 hi) ∧ w'.cell? ⟨W.heap.size, 2, none⟩ = some (.slice B ms.length d) ∧ w'.cell? ⟨W.heap.size, 3, none⟩ = some (.int .i64 limit) ∧ w'.cell? ⟨W.heap.size, 4, none⟩ = some (.bool texts)) (first | (with_reducible exact ⟨a0, a1', a2', a3, a4, q0, q1, q2, q3, q4⟩) | go_keep) ((first
        | (go_at_call 9; first
            | ((with_reducible refine (HAN.out w5.drew (HN.out.tr N5.out.drew) lo hi 0 I0.out I1.out I00 H60.out H50.out).mono ?_); rintro e w6 ⟨v6, o6, rfl, hr6, hm6⟩; have N56 := Lib.hid ((Ch.refl (fun _ => False) w5).drew.tr hr6.own.nx); have N6 := Lib.hid (N5.out.tr N56.out); have HR6 := Lib.hid hr6; have HM6 := Lib.hid hm6; obtain ⟨a0, a1', a2', a3, a4⟩ := HK7.out w6 N56.out; obtain ⟨q0, q1, q2, q3, q4⟩ := HKEEP.out w6 N6.out; clear hr6 hm6)
            | ((with_reducible refine (HAN.out w6 (HN.out.tr N6.out) lo hi limit I0.out I1.out I2.out H60.out H50.out).mono ?_); rintro e w7 ⟨v7, o7, rfl, hr7, hm7⟩; have N57 := Lib.hid (N56.out.tr hr7.own.nx); have N7 := Lib.hid (N6.out.tr hr7.own.nx); have HR7 := Lib.hid hr7; have HM7 := Lib.hid hm7; obtain ⟨a0, a1', a2', a3, a4⟩ := HK7.out w7 N57.out; obtain ⟨q0, q1, q2, q3, q4⟩ := HKEEP.out w7 N7.out; clear hr7 hm7))))
      obtain ⟨A6, c6, rfl, hc6, hm6⟩ := HR6.out.form
      obtain ⟨A7, c7, rfl, hc7, hm7⟩ := HR7.out.form
      have HL := Lib.hid (show o7.map (fun x => x.row) = (o6.map (fun x => x.row)).take (if limit = 0 then o6.length else limit.toNat) by
        have := HLM.out HQR.out
        rw [← HM7.out, ← HM6.out] at this
        simpa using this)
      have hlen : o7.length = min (if limit = 0 then o6.length else limit.toNat) o6.length := by
        have := congrArg List.length HL.out
        simpa using this
      have hle : o7.length ≤ o6.length := by omega
      have HRow := Lib.hid (show o7.map (fun x => x.row) = (o6.take o7.length).map fun x => x.row by
        rw [List.map_take, HL.out, hlen]
        refine (List.take_eq_take_min ..).trans ?_
        rw [List.length_map])
      have H50L := Lib.hid (fun (x : RV) (hx : x ∈ l) => show x.row.labs.length ≤ 1000000000 by have := H50.out x hx; omega)
      have HO6 := Lib.hid ((answer_rows HR6.out HM6.out H50L.out).nx HR7.out.own.nx)
      have HO7 := Lib.hid (answer_rows HR7.out HM7.out H50L.out)
      have HO6T := Lib.hid (show RowsR w7 (fun k => k < w6.heap.size) A6 (o6.take o7.length) from ⟨by
        have := HO6.out.rd.take hle
        unfold rvl at this ⊢
        rw [flat_take RV.cs_len] at this
        rw [List.length_take, Nat.min_eq_left hle]
        exact this, fun x hx => HO6.out.ok x (List.mem_of_mem_take hx)⟩)
      have hmn : (if 0 < limit then (o7.length : Int) = min limit (o6.length : Int) else True) := by
        split
        · rw [if_neg (by omega)] at hlen
          omega
        · trivial
      have hl6 : o6.length ≤ 100 := by
        have h1 := congrArg List.length HM6.out
        rw [List.length_map] at h1
        have h2 : (answerF ⟨lo, hi, ms, 0, texts⟩ (l.map fun x => x.row)).length ≤ l.length := by have := answer_len ⟨lo, hi, ms, 0, texts⟩ (l.map fun x => x.row); rwa [List.length_map] at this
        have := H60.out
        omega
      have HMN := Lib.hid hmn
      have hs6 := HR6.out.own.nx.size
      clear hlen hmn
      have hle' : ¬ o6.length < o7.length := by omega
      have hc67 : o7.length ≤ c6 := by omega
      have HCUT := Lib.hid (show answerF ⟨lo, cut, ms, 0, texts⟩ (l.map fun x => x.row) ++ answerF ⟨cut, hi, ms, 0, texts⟩ (l.map fun x => x.row) = o6.map fun x => x.row by rw [HM6.out]; exact HCT.out HQR.out HC12.out.1 HC12.out.2)
      clear HLM HCT HL a0 a1' a2' a3 a4 HK7
      have HLE := Lib.hid (fun (o : List RV) (q : QryE) (h : o.map (fun x => x.row) = answerF q (l.map fun x => x.row)) => show o.length ≤ 60 by
        have h1 := congrArg List.length h
        rw [List.length_map] at h1
        have h2 := answer_len q (l.map fun x => x.row)
        rw [List.length_map] at h2
        have := H60.out
        omega)
      have HJOIN := Lib.hid (fun (w w' : World) (A : Option Addr) (n c : Nat) (o1 o2 : List RV) (q1 q2 : QryE) (h : RowsO w w' (.slice A n c) (o1 ++ o2)) (h1 : o1.map (fun x => x.row) = answerF q1 (l.map fun x => x.row)) (h2 : o2.map (fun x => x.row) = answerF q2 (l.map fun x => x.row)) => show RowsR w' (fun k => k < w'.heap.size) A (o1 ++ o2) from answer_join h h1 h2 H50L.out)
      by_cases hz : 0 < limit
      · have hmin := HMN.out
        rw [if_pos hz] at hmin
        have hmb : ((o7.length : Int) != min limit (o6.length : Int)) = false := by rw [bne_eq_false_iff_eq]; exact hmin
        clear hmin
        go_wp2_with fail
        refine (HS.out w7 A7 A6 o7.length c7 o7.length c6 o7 (o6.take o7.length) _ _ HO7.out rfl (by omega) HO6T.out (by rw [List.length_take]; omega)).mono ?_
        rintro e w8 ⟨b, rfl, hb, n8⟩
        obtain rfl : b = true := hb.2 HRow.out
        have N8 := Lib.hid (N7.out.tr n8)
        have N58 := Lib.hid (N57.out.tr n8)
        have NL8 := Lib.hid n8
        clear n8 hb
        go_wp2_with fail
        have i00 := I00
        obtain ⟨a0, a1', a2', a3, a4⟩ := HK8.out w8 N58.out
        obtain ⟨e0, e1, e2, e3, e4⟩ := HK9.out w8 N58.out
        go_region_held3 (fun w' => w'.cell? ⟨b8, 0, none⟩ = some (.int .i64 lo) ∧ w'.cell? ⟨b8, 1, none⟩ = some (.int .i64 cut) ∧ w'.cell? ⟨b8, 2, none⟩ = some (.slice B ms.length d) ∧ w'.cell? ⟨b8, 3, none⟩ = some (.int .i64 0) ∧ w'.cell? ⟨b8, 4, none⟩ = some (.bool texts) ∧ w'.cell? ⟨b9, 0, none⟩ = some (.int .i64 cut) ∧ w'.cell? ⟨b9, 1, none⟩ = some (.int .i64 hi) ∧ w'.cell? ⟨b9, 2, none⟩ = some (.slice B ms.length d) ∧ w'.cell? ⟨b9, 3, none⟩ = some (.int .i64 0) ∧ w'.cell? ⟨b9, 4, none⟩ = some (.bool texts)) (first | (with_reducible exact ⟨a0, a1', a2', a3, a4, e0, e1, e2, e3, e4⟩) | go_keep) ((first
          | (go_at_call 9; first
              | ((with_reducible refine (HAN.out w8.drew (HN.out.tr N8.out.drew) lo cut 0 I0.out IC.out i00 H60.out H50.out).mono ?_); rintro e w9 ⟨v9, o9, rfl, hr9, hm9⟩; obtain ⟨A9, c9, rfl, hc9, hm9b⟩ := hr9.form; have N59 := Lib.hid (N58.out.drew.tr hr9.own.nx); have N9 := Lib.hid (N8.out.drew.tr hr9.own.nx); have HR9 := Lib.hid hr9; have HM9 := Lib.hid hm9; obtain ⟨a0, a1', a2', a3, a4⟩ := HK8.out w9 N59.out; obtain ⟨e0, e1, e2, e3, e4⟩ := HK9.out w9 N59.out; clear hr9 hm9)
              | ((with_reducible refine (HAN.out w9 (HN.out.tr N9.out) cut hi 0 IC.out I1.out i00 H60.out H50.out).mono ?_); rintro e w10 ⟨v10, o10, rfl, hr10, hm10⟩; obtain ⟨A10, c10, rfl, hc10, hm10b⟩ := hr10.form; have N510 := Lib.hid (N59.out.tr hr10.own.nx); have N10 := Lib.hid (N9.out.tr hr10.own.nx); have HR10 := Lib.hid hr10; have HM10 := Lib.hid hm10; have HB9 := Lib.hid (HR9.out.tr hr10.own.nx); have hl9 := HLE.out o9 _ HM9.out; have hl10 := HLE.out o10 _ HM10.out; obtain ⟨a0, a1', a2', a3, a4⟩ := HK8.out w10 N510.out; obtain ⟨e0, e1, e2, e3, e4⟩ := HK9.out w10 N510.out; clear hr10 hm10))
          | (refine step_append_any _ (by rfl) (.tmp 85) (.tmp 88) _ (by rfl) w8.drew.heap.size 36 i0 _ 9 96 Try.underlying25 hi0 hz0 hz1 hz2 (by rfl) (by omega) (.slice A9 o9.length c9) o9.length (rvl o9) (by rfl) HB9.out.own.own _ A10 o10.length c10 (rvl o10) (by rfl) HR10.out.rd (rvl_one _) (by simp only [maxLen]; omega) (by omega) HB9.out.own.nx.size ?_; intro v11 w11 own11 gr11 at11; obtain ⟨o11, m11⟩ := step_own HB9.out.own (Ch.refl _ w10) own11 gr11 at11; obtain ⟨A11, c11, rfl, hc11, hm11⟩ := own_form own11; have HR11 := Lib.hid (HB9.out.app (ys := o10) o11 m11 (fun y hy => (HR10.out.ok y hy).ch (Ch.refl (fun _ => False) w10) (fun _ _ _ hf => hf) fun k hk => ⟨Nat.le_trans HR9.out.own.nx.size hk.1, hk.2.1, fun e => by have := (HR9.out.own.lt k e).2; have := hk.1; omega⟩)); have N511 := Lib.hid (N58.out.drew.tr o11.nx); have N11 := Lib.hid (N8.out.drew.tr o11.nx); have N811 := Lib.hid o11.nx; obtain ⟨a0, a1', a2', a3, a4⟩ := HK8.out w11 N511.out; obtain ⟨e0, e1, e2, e3, e4⟩ := HK9.out w11 N511.out; clear own11 gr11 at11 o11 m11)
          | (go_at_call 12; refine (HS.out w11 A11 A6 (o9.length + o10.length) c11 o6.length c6 (o9 ++ o10) o6 _ _ (HJOIN.out _ _ _ _ _ _ _ _ _ HR11.out HM9.out HM10.out) (by simp) (by omega) (HO6.out.nx ((NL8.out.drew).tr N811.out)) rfl).mono ?_; rintro e w12 ⟨b, rfl, hb, n12⟩; obtain rfl : b = true := hb.2 (by rw [List.map_append, HM9.out, HM10.out, HCUT.out]); have N12 := Lib.hid (N11.out.tr n12); obtain ⟨a0, a1', a2', a3, a4⟩ := HK8.out w12 (N511.out.tr n12); obtain ⟨e0, e1, e2, e3, e4⟩ := HK9.out w12 (N511.out.tr n12); clear n12 hb)))
        go_wp2_with fail
        go_ret
        exact ⟨rfl, HN.out.tr N12.out⟩
      · go_wp2_with fail
        refine (HS.out w7 A7 A6 o7.length c7 o7.length c6 o7 (o6.take o7.length) _ _ HO7.out rfl (by omega) HO6T.out (by rw [List.length_take]; omega)).mono ?_
        rintro e w8 ⟨b, rfl, hb, n8⟩
        obtain rfl : b = true := hb.2 HRow.out
        have N8 := Lib.hid (N7.out.tr n8)
        have N58 := Lib.hid (N57.out.tr n8)
        have NL8 := Lib.hid n8
        clear n8 hb
        go_wp2_with fail
        have i00 := I00
        obtain ⟨a0, a1', a2', a3, a4⟩ := HK8.out w8 N58.out
        obtain ⟨e0, e1, e2, e3, e4⟩ := HK9.out w8 N58.out
        go_region_held3 (fun w' => w'.cell? ⟨b8, 0, none⟩ = some (.int .i64 lo) ∧ w'.cell? ⟨b8, 1, none⟩ = some (.int .i64 cut) ∧ w'.cell? ⟨b8, 2, none⟩ = some (.slice B ms.length d) ∧ w'.cell? ⟨b8, 3, none⟩ = some (.int .i64 0) ∧ w'.cell? ⟨b8, 4, none⟩ = some (.bool texts) ∧ w'.cell? ⟨b9, 0, none⟩ = some (.int .i64 cut) ∧ w'.cell? ⟨b9, 1, none⟩ = some (.int .i64 hi) ∧ w'.cell? ⟨b9, 2, none⟩ = some (.slice B ms.length d) ∧ w'.cell? ⟨b9, 3, none⟩ = some (.int .i64 0) ∧ w'.cell? ⟨b9, 4, none⟩ = some (.bool texts)) (first | (with_reducible exact ⟨a0, a1', a2', a3, a4, e0, e1, e2, e3, e4⟩) | go_keep) ((first
          | (go_at_call 9; first
              | ((with_reducible refine (HAN.out w8.drew (HN.out.tr N8.out.drew) lo cut 0 I0.out IC.out i00 H60.out H50.out).mono ?_); rintro e w9 ⟨v9, o9, rfl, hr9, hm9⟩; obtain ⟨A9, c9, rfl, hc9, hm9b⟩ := hr9.form; have N59 := Lib.hid (N58.out.drew.tr hr9.own.nx); have N9 := Lib.hid (N8.out.drew.tr hr9.own.nx); have HR9 := Lib.hid hr9; have HM9 := Lib.hid hm9; obtain ⟨a0, a1', a2', a3, a4⟩ := HK8.out w9 N59.out; obtain ⟨e0, e1, e2, e3, e4⟩ := HK9.out w9 N59.out; clear hr9 hm9)
              | ((with_reducible refine (HAN.out w9 (HN.out.tr N9.out) cut hi 0 IC.out I1.out i00 H60.out H50.out).mono ?_); rintro e w10 ⟨v10, o10, rfl, hr10, hm10⟩; obtain ⟨A10, c10, rfl, hc10, hm10b⟩ := hr10.form; have N510 := Lib.hid (N59.out.tr hr10.own.nx); have N10 := Lib.hid (N9.out.tr hr10.own.nx); have HR10 := Lib.hid hr10; have HM10 := Lib.hid hm10; have HB9 := Lib.hid (HR9.out.tr hr10.own.nx); have hl9 := HLE.out o9 _ HM9.out; have hl10 := HLE.out o10 _ HM10.out; obtain ⟨a0, a1', a2', a3, a4⟩ := HK8.out w10 N510.out; obtain ⟨e0, e1, e2, e3, e4⟩ := HK9.out w10 N510.out; clear hr10 hm10))
          | (refine step_append_any _ (by rfl) (.tmp 85) (.tmp 88) _ (by rfl) w8.drew.heap.size 36 i0 _ 9 96 Try.underlying25 hi0 hz0 hz1 hz2 (by rfl) (by omega) (.slice A9 o9.length c9) o9.length (rvl o9) (by rfl) HB9.out.own.own _ A10 o10.length c10 (rvl o10) (by rfl) HR10.out.rd (rvl_one _) (by simp only [maxLen]; omega) (by omega) HB9.out.own.nx.size ?_; intro v11 w11 own11 gr11 at11; obtain ⟨o11, m11⟩ := step_own HB9.out.own (Ch.refl _ w10) own11 gr11 at11; obtain ⟨A11, c11, rfl, hc11, hm11⟩ := own_form own11; have HR11 := Lib.hid (HB9.out.app (ys := o10) o11 m11 (fun y hy => (HR10.out.ok y hy).ch (Ch.refl (fun _ => False) w10) (fun _ _ _ hf => hf) fun k hk => ⟨Nat.le_trans HR9.out.own.nx.size hk.1, hk.2.1, fun e => by have := (HR9.out.own.lt k e).2; have := hk.1; omega⟩)); have N511 := Lib.hid (N58.out.drew.tr o11.nx); have N11 := Lib.hid (N8.out.drew.tr o11.nx); have N811 := Lib.hid o11.nx; obtain ⟨a0, a1', a2', a3, a4⟩ := HK8.out w11 N511.out; obtain ⟨e0, e1, e2, e3, e4⟩ := HK9.out w11 N511.out; clear own11 gr11 at11 o11 m11)
          | (go_at_call 12; refine (HS.out w11 A11 A6 (o9.length + o10.length) c11 o6.length c6 (o9 ++ o10) o6 _ _ (HJOIN.out _ _ _ _ _ _ _ _ _ HR11.out HM9.out HM10.out) (by simp) (by omega) (HO6.out.nx ((NL8.out.drew).tr N811.out)) rfl).mono ?_; rintro e w12 ⟨b, rfl, hb, n12⟩; obtain rfl : b = true := hb.2 (by rw [List.map_append, HM9.out, HM10.out, HCUT.out]); have N12 := Lib.hid (N11.out.tr n12); obtain ⟨a0, a1', a2', a3, a4⟩ := HK8.out w12 (N511.out.tr n12); obtain ⟨e0, e1, e2, e3, e4⟩ := HK9.out w12 (N511.out.tr n12); clear n12 hb)))
        go_wp2_with fail
        go_ret
        exact ⟨rfl, HN.out.tr N12.out⟩
theorem walks : Walks 4 Try.f4 := by
  intro H enc W args ds ps h
  rw [Try.params4] at h
  obtain ⟨q, B, d, vs, ds1, p1, rfl, hr, hs, hd, hd2, i0, i1, i2, h1⟩ := h.query
  obtain ⟨A, c, l, vs2, ds2, p2, e2, hr2, hk2, hc, hc2, h2⟩ := h1.rows
  obtain ⟨cut, vs3, ds3, p3, e3, hcut, h3⟩ := h2.int
  have e1 := h3.nil
  simp at e1 e2 e3
  subst e1
  subst e3
  subst e2
  exact walk q B d A c l cut W ⟨hr, hs, i0, i1, i2, hd, hd2⟩ hr2 hk2 (by unfold maxLen at hc2; omega) hcut
/-- whatever the input, the law answers true -/
theorem proved : Rows.QueryLimitsSaid :=
  OpenClaim.holds_of_wide 4 Try.f4 rfl rfl rfl rfl rfl rfl rfl ⟨rfl, rfl, rfl, rfl, rfl⟩ rfl rfl rfl rfl rfl (by kernel_rfl) Try.func4 (by kernel_rfl)
    (of_decide_eq_true (by kernel_rfl)) (by unfold Func.isWrapper; first | (rw [if_pos (by decide +kernel)]; kernel_rfl) | (rw [if_neg (by decide +kernel)]; exact ⟨rfl, rfl⟩))
    (fun os started H enc _ => law_lifted (s := Rows.queryLimitsSpec) Try.func4 (by kernel_rfl) rfl rfl
      (by intro H ds h; rw [Try.params4] at h; match ds, h with | [d1, d2, d3], _ => rfl)
      (by rw [Try.params4]; intro t ht; simp at ht; rcases ht with rfl | rfl | rfl <;> exact ⟨by kernel_rfl, of_decide_eq_true (by kernel_rfl)⟩) walks os started H enc
      (ChangeSpec.witness6 (enc := enc) (C := Try.checked) false ⟨#[], #[.agg #[.int .i64 0, .int .i64 0, .slice none 0 0, .int .i64 0, .bool false], .slice none 0 0, .int .i64 0], []⟩ 8 (by kernel_rfl) (by kernel_rfl) (by kernel_rfl) (by kernel_rfl)))
end Go.Proofs.Ytdfodcbpmfifgaa.QueryLimits
