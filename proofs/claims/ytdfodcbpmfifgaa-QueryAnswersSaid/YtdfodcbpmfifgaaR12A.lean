/- The contracts of the reference's Right and Keeps (layer 12). Conditions: none. -/
import Derived.Test.YtdfodcbpmfifgaaQyA
import Derived.Test.YtdfodcbpmfifgaaR8C
namespace Go.Proofs.Ytdfodcbpmfifgaa
set_option maxRecDepth 100000
open Go.RowKit
set_option linter.unusedVariables false
theorem qright_out {q : QryE} (h : ¬ (0 ≤ q.lo ∧ q.lo ≤ q.hi ∧ q.hi ≤ 1099511627776 ∧ q.ms.length ≤ 8 ∧ 0 ≤ q.limit ∧ q.limit ≤ 2048)) : qrightF q = false := by unfold qrightF; rw [decide_eq_false h]; rfl
theorem qright_in {q : QryE} (h : 0 ≤ q.lo ∧ q.lo ≤ q.hi ∧ q.hi ≤ 1099511627776 ∧ q.ms.length ≤ 8 ∧ 0 ≤ q.limit ∧ q.limit ≤ 2048) : qrightF q = q.ms.all asksF := by unfold qrightF; rw [decide_eq_true h]; rfl
section
variable {w : World} {D : Nat → Prop} {A B : Option Addr} {n c d : Nat} {l : List RV} {q : QryE}
set_option maxHeartbeats 8000000 in
theorem ref12right_q (hq : QIs w q B d) : Calls Try.prog 11 #[qryV q B d] w fun e w' => e = .returned (.bool (qrightF q)) ∧ Nx w w' := by
  have HB := Lib.hid (fun h => qright_out (q := q) h)
  have HG := Lib.hid (fun h => qright_in (q := q) h)
  have Hsm := Lib.hid hq.sm
  have hd := hq.hd
  have hd2 := hq.hd2
  have i0 := hq.i0
  have i1 := hq.i1
  have i2 := hq.i2
  have Hrd := Lib.hid hq.rd
  obtain ⟨lo, hi, ms, limit, texts⟩ := q
  simp only at *
  unfold qryV
  simp only
  have HN := Lib.hid ((Ch.refl (fun _ => False) w).alloc (.cells #[.int .i64 lo, .int .i64 hi, .slice B ms.length d, .int .i64 limit, .bool texts] 24))
  clear hq
  by_cases a1 : lo < 0
  · have HR := Lib.hid (HB.out (by omega))
    go_enter Try.func11, Try.ntmps11
    go_wp2_with fail
    go_ret
    exact ⟨by rw [HR.out]; rfl, HN.out⟩
  by_cases a2 : hi < lo
  · have HR := Lib.hid (HB.out (by omega))
    go_enter Try.func11, Try.ntmps11
    go_wp2_with fail
    go_ret
    exact ⟨by rw [HR.out]; rfl, HN.out⟩
  by_cases a3 : 1099511627776 < hi
  · have HR := Lib.hid (HB.out (by omega))
    go_enter Try.func11, Try.ntmps11
    go_wp2_with fail
    go_ret
    exact ⟨by rw [HR.out]; rfl, HN.out⟩
  by_cases a4 : 8 < ms.length
  · have a4' : (8 : Int) < (ms.length : Int) := by omega
    have HR := Lib.hid (HB.out (by omega))
    go_enter Try.func11, Try.ntmps11
    go_wp2_with fail
    go_ret
    exact ⟨by rw [HR.out]; rfl, HN.out⟩
  have a4' : ¬ (8 : Int) < (ms.length : Int) := by omega
  by_cases a5 : limit < 0
  · have HR := Lib.hid (HB.out (by omega))
    go_enter Try.func11, Try.ntmps11
    go_wp2_with fail
    go_ret
    exact ⟨by rw [HR.out]; rfl, HN.out⟩
  by_cases a6 : 2048 < limit
  · have HR := Lib.hid (HB.out (by omega))
    go_enter Try.func11, Try.ntmps11
    go_wp2_with fail
    go_ret
    exact ⟨by rw [HR.out]; rfl, HN.out⟩
  have HG2 := Lib.hid (HG.out (by omega))
  have hn8 : ms.length ≤ 8 := by omega
  generalize hm : ms.length = m at *
  have Hm := Lib.hid hm
  clear hm HG HB
  go_enter Try.func11, Try.ntmps11
  go_wp2_with fail
  go_loopw [39] (fun i wr => ∃ k : Nat, k ≤ m ∧ i = .int .i64 (k : Int) ∧ Nx w wr ∧ Hid ((ms.take k).all asksF = true)) (fun i _ => m - (intOf i).toNat)
  case atStart => exact ⟨0, Nat.zero_le _, rfl, HN.out, Lib.hid (by simp)⟩
  case round =>
    obtain ⟨w4, rfl⟩ : ∃ w4 : World, w4 = wr := ⟨_, rfl⟩
    obtain ⟨k, hk, rfl, hn4, Ha⟩ := hrel
    have N4 := Lib.hid hn4
    by_cases hlt : k < m
    · have hkl : k < ms.length := by rw [Hm.out]; exact hlt
      obtain ⟨ad, rfl, -, p0, p1, p2⟩ := mat_at (Hrd.out.nx (by decide) hn4) hkl
      have HT := Lib.hid (List.take_succ_eq_append_getElem hkl)
      have hak := Lib.hid (fun w => asks8_any ms[k] (Hsm.out _ (List.getElem_mem hkl)) w)
      have HD := Lib.hid (fun (h : asksF ms[k] = false) => show ms.all asksF = false by
        rw [List.all_eq_false]
        exact ⟨_, List.getElem_mem hkl, by rw [h]; simp⟩)
      clear hn4
      generalize ms[k] = x at *
      have HA2 := Lib.hid (fun (h : asksF x = true) => show (ms.take (k + 1)).all asksF = true by rw [HT.out, List.all_append, Ha.out]; simp [h])
      obtain ⟨nm, way, val⟩ := x
      simp only at p0 p1 p2 hak
      cases hav : asksF ⟨nm, way, val⟩
      · rw [hav] at hak
        have HR := Lib.hid (HG2.out.trans (HD.out hav))
        clear hav
        go_wp2_with fail
        refine (hak.out _).mono ?_
        rintro e w5 ⟨rfl, n5⟩
        have N5 := Lib.hid ((N4.out.alloc _).tr n5)
        clear n5
        go_wp2_with fail
        go_ret
        exact ⟨by rw [HR.out]; rfl, N5.out⟩
      · rw [hav] at hak
        have HR := Lib.hid (HA2.out hav)
        clear hav
        go_wp2_with fail
        refine (hak.out _).mono ?_
        rintro e w5 ⟨rfl, n5⟩
        have N5 := Lib.hid ((N4.out.alloc _).tr n5)
        clear n5
        go_wp2_with fail
        go_roundw
        case rel => exact ⟨k + 1, by omega, by go_num, N5.out, HR⟩
        case measure => simp [intOf]; omega
    · have HR := Lib.hid (show qrightF ⟨lo, hi, ms, limit, texts⟩ = true by
        rw [HG2.out]
        have := Ha.out
        rw [List.take_of_length_le (by rw [Hm.out]; omega)] at this
        exact this)
      clear hn4
      go_wp2_with fail
      go_ret
      exact ⟨by rw [HR.out]; rfl, N4.out⟩
set_option maxHeartbeats 8000000 in
theorem ref12keeps_q {x : RV} (hq : QIs w q B d) (hx : x.ok w D) (hf : x.row.few) : Calls Try.prog 15 #[qryV q B d, rowV x] w fun e w' => e = .returned (.bool (keepsF q x.row)) ∧ Nx w w' := by
  have HQ := Lib.hid (fun w' (c' : Nx w w') => ref12right_q (hq.nx c'))
  have HM := Lib.hid (fun (h8 : q.ms.length ≤ 8) w' (c' : Nx w w') => meets8_any (c := x.c) (d := d) (hx.1.nx (by decide) c') rfl hf.2 hf.1.1 ((hq.nx c').rd) rfl (by omega) hq.sm)
  have H8 : Hid (qrightF q = true → q.ms.length ≤ 8) := Lib.hid (fun h => by
    unfold qrightF at h
    rw [Bool.and_eq_true, decide_eq_true_eq] at h
    exact h.1.2.2.2.1)
  have HF : Hid (keepsF q x.row = (qrightF q && (decide (q.lo ≤ x.row.time ∧ x.row.time < q.hi) && meetsF x.row.labs q.ms))) := Lib.hid rfl
  have i0 := hq.i0
  have i1 := hq.i1
  have i2 := hf.1.2.2.2.1
  obtain ⟨lo, hi, ms, limit, texts⟩ := q
  obtain ⟨⟨kind, time, labs, text, value, null, maker, seq, place⟩, A1, c1⟩ := x
  have HB := Lib.hid (fun o => (Blk.new w 24 #[.int .i64 lo, .int .i64 hi, .slice B ms.length d, .int .i64 limit, .bool texts]).alloc o)
  have HC := Lib.hid (fun o => Blk.new (w.alloc o) 36 #[.int .i64 kind, .int .i64 time, .slice A1 labs.length c1, .string text, .int .i64 value, .bool null, .int .i64 maker, .int .i64 seq, .int .i64 place])
  have HN := Lib.hid (((Ch.refl (fun _ => False) w).alloc (.cells #[.int .i64 lo, .int .i64 hi, .slice B ms.length d, .int .i64 limit, .bool texts] 24)).alloc (.cells #[.int .i64 kind, .int .i64 time, .slice A1 labs.length c1, .string text, .int .i64 value, .bool null, .int .i64 maker, .int .i64 seq, .int .i64 place] 36))
  clear hx hf hq
  unfold qryV rowV at *
  simp only at *
  cases hqr : qrightF ⟨lo, hi, ms, limit, texts⟩
  all_goals
    rw [hqr] at HQ HF
    go_enter Try.func15, Try.ntmps15
    have HQR := Lib.hid hqr
    clear hqr
    go_wp2_with fail
    refine (HQ.out _ HN.out).mono ?_
    rintro e w5 ⟨rfl, n5⟩
    have b5 := (HB.out (.cells #[.int .i64 kind, .int .i64 time, .slice A1 labs.length c1, .string text, .int .i64 value, .bool null, .int .i64 maker, .int .i64 seq, .int .i64 place] 36)).nx n5
    have c5 := (HC.out (.cells #[.int .i64 lo, .int .i64 hi, .slice B ms.length d, .int .i64 limit, .bool texts] 24)).nx n5
    rw [World.size_alloc] at c5
    have q0 : w5.cell? ⟨w.heap.size, 0, none⟩ = some (.int .i64 lo) := b5.cell 0
    have q1 : w5.cell? ⟨w.heap.size, 1, none⟩ = some (.int .i64 hi) := b5.cell 1
    have q2 : w5.cell? ⟨w.heap.size, 2, none⟩ = some (.slice B ms.length d) := b5.cell 2
    have r1 : w5.cell? ⟨w.heap.size + 1, 1, none⟩ = some (.int .i64 time) := c5.cell 1
    have r2 : w5.cell? ⟨w.heap.size + 1, 2, none⟩ = some (.slice A1 labs.length c1) := c5.cell 2
    have N5 := Lib.hid (HN.out.tr n5)
    clear n5 b5 c5 HB HC
  · go_wp2_with fail
    go_ret
    exact ⟨by rw [HF.out]; rfl, N5.out⟩
  · have h8 := Lib.hid (H8.out HQR.out)
    by_cases h1 : lo ≤ time
    · by_cases h2 : time < hi
      · have HR := Lib.hid (HF.out.trans (by rw [decide_eq_true ⟨h1, h2⟩]; rfl : _ = meetsF labs ms))
        have HMM := Lib.hid (HM.out h8.out _ N5.out)
        generalize meetsF labs ms = mb at *
        go_wp2_with fail
        refine HMM.out.mono ?_
        rintro e w6 ⟨rfl, n6⟩
        go_wp2_with fail
        go_ret
        exact ⟨by rw [HR.out]; rfl, N5.out.tr n6⟩
      · have HR := Lib.hid (HF.out.trans (by rw [decide_eq_false (fun h => h2 h.2)]; rfl : _ = false))
        go_wp2_with fail
        go_ret
        exact ⟨by rw [HR.out]; rfl, N5.out⟩
    · have HR := Lib.hid (HF.out.trans (by rw [decide_eq_false (fun h => h1 h.1)]; rfl : _ = false))
      go_wp2_with fail
      go_ret
      exact ⟨by rw [HR.out]; rfl, N5.out⟩
end
end Go.Proofs.Ytdfodcbpmfifgaa
