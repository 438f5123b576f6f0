/- The contract of the document's Wants. Conditions: a part's text of at most 600 bytes. -/
import Derived.Test.YtbgeddlakcaikaaKrGrB
namespace Go.Proofs.Ytbgeddlakcaikaa
set_option maxRecDepth 100000
open Go.RowKit Go.Maps Ps
set_option linter.unusedVariables false
section
variable {w : World} {B : Option Addr} {d : Nat} {q : QryE}
set_option maxHeartbeats 16000000 in
theorem rwants_any (hq : QIs w q B d) (x : EntE) (htx : x.part.size ≤ 600) :
    Calls Try.prog 9 #[qryV q B d, entV x] w fun e w' => e = .returned (.bool (wantsF q x.part x.lo x.hi)) ∧ Nx w w' := by
  have HQ := Lib.hid (fun w' (c' : Nx w w') => ref12right_q (hq.nx c'))
  have HQI := Lib.hid hq
  have HWN := Lib.hid (fun (h : parseF x.part.data.toList = none) => want_none (q := q) (lo := x.lo) (hi := x.hi) h)
  have HWS := Lib.hid (fun (l : List Lab) (h : parseF x.part.data.toList = some l) => want_some (q := q) (lo := x.lo) (hi := x.hi) h)
  have HPA := Lib.hid (fun (w' : World) (c' : Nx w w') => parse8_any (w := w') x.part (by omega))
  have hms8 : qrightF q = true → q.ms.length ≤ 8 := fun h => by
    unfold qrightF at h
    simp only [Bool.and_eq_true, decide_eq_true_eq] at h
    exact h.1.2.2.2.1
  have Hms8 := Lib.hid hms8
  have Hsm := Lib.hid hq.sm
  obtain ⟨lo, hi, ms, limit, texts⟩ := q
  obtain ⟨key, window, part, elo, ehi, rows, size, sum, born⟩ := x
  clear hq hms8
  unfold qryV entV at *
  simp only at *
  have HB := Lib.hid (Blk.new w 24 #[.int .i64 lo, .int .i64 hi, .slice B ms.length d, .int .i64 limit, .bool texts])
  have HN := Lib.hid (((Ch.refl (fun _ => False) w).alloc (.cells #[.int .i64 lo, .int .i64 hi, .slice B ms.length d, .int .i64 limit, .bool texts] 24)).alloc (.cells #[.string key, .int .i64 window, .string part, .int .i64 elo, .int .i64 ehi, .int .i64 rows, .int .i64 size, .int .u32 (sum : Int), .int .i64 born] 29))
  have HI := Lib.hid (Blk.new (w.alloc (.cells #[.int .i64 lo, .int .i64 hi, .slice B ms.length d, .int .i64 limit, .bool texts] 24)) 29 #[.string key, .int .i64 window, .string part, .int .i64 elo, .int .i64 ehi, .int .i64 rows, .int .i64 size, .int .u32 (sum : Int), .int .i64 born])
  have HB2 := Lib.hid (HB.out.alloc (.cells #[.string key, .int .i64 window, .string part, .int .i64 elo, .int .i64 ehi, .int .i64 rows, .int .i64 size, .int .u32 (sum : Int), .int .i64 born] 29))
  simp only [World.size_alloc] at HI
  go_enter Try.func9, Try.ntmps9
  go_wp2_with fail
  refine (HPA.out _ HN.out).mono ?_
  rintro e w3 he
  rcases he.cases with ⟨l, A6, c6, hpf, rfl, o6, hs6, hl6⟩ | ⟨hpf, rfl, n6⟩
  · have hrl := parse_right hpf
    have HW := Lib.hid (HWS.out l hpf)
    have O3 := Lib.hid o6
    have N3 := Lib.hid (HN.out.tr o6.nx)
    have b3 := HB2.out.nx o6.nx
    have q0 : w3.cell? ⟨w.heap.size, 0, none⟩ = some (.int .i64 lo) := b3.cell 0
    have q1 : w3.cell? ⟨w.heap.size, 1, none⟩ = some (.int .i64 hi) := b3.cell 1
    have q2 : w3.cell? ⟨w.heap.size, 2, none⟩ = some (.slice B ms.length d) := b3.cell 2
    have q3 : w3.cell? ⟨w.heap.size, 3, none⟩ = some (.int .i64 limit) := b3.cell 3
    have q4 : w3.cell? ⟨w.heap.size, 4, none⟩ = some (.bool texts) := b3.cell 4
    have B3 := Lib.hid b3
    have I3 := Lib.hid (HI.out.nx o6.nx)
    have HQ3 := Lib.hid (HQ.out w3 N3.out)
    have HRL := Lib.hid hrl
    have HS6 := Lib.hid hs6
    clear he hpf o6 hs6 hrl HWN HWS HPA HN HB HB2 HI HQ b3
    cases hqr : qrightF ⟨lo, hi, ms, limit, texts⟩
    · rw [hqr] at HQ3 HW
      clear hqr
      go_wp2_with fail
      refine HQ3.out.mono ?_
      rintro e w4 ⟨rfl, n4⟩
      have N4 := Lib.hid (N3.out.tr n4)
      clear n4
      go_wp2_with fail
      go_ret
      exact ⟨by rw [HW.out]; rfl, N4.out⟩
    · have hms := Hms8.out hqr
      rw [hqr] at HQ3 HW
      clear hqr
      by_cases g1 : elo < hi
      · by_cases g2 : lo ≤ ehi
        · have HW2 := Lib.hid (show wantsF ⟨lo, hi, ms, limit, texts⟩ part elo ehi = ms.all (askW l) by rw [HW.out, decide_eq_true ⟨g1, g2⟩]; rfl)
          clear HW
          go_wp2_with fail
          refine HQ3.out.mono ?_
          rintro e w4 ⟨rfl, n4⟩
          have N4 := Lib.hid (N3.out.tr n4)
          have B4 := Lib.hid (B3.out.nx n4)
          have b4 := B4.out
          have i4 := I3.out.nx n4
          have O4 := Lib.hid (O3.out.tr n4)
          have q0 : w4.cell? ⟨w.heap.size, 0, none⟩ = some (.int .i64 lo) := b4.cell 0
          have q1 : w4.cell? ⟨w.heap.size, 1, none⟩ = some (.int .i64 hi) := b4.cell 1
          have q2 : w4.cell? ⟨w.heap.size, 2, none⟩ = some (.slice B ms.length d) := b4.cell 2
          have e3 : w4.cell? ⟨w.heap.size + 1, 3, none⟩ = some (.int .i64 elo) := i4.cell 3
          have e4 : w4.cell? ⟨w.heap.size + 1, 4, none⟩ = some (.int .i64 ehi) := i4.cell 4
          clear n4 b4 i4
          go_wp2_with fail
          go_loopw [41] (fun i wr => ∃ k : Nat, k ≤ ms.length ∧ i = .int .i64 (k : Int) ∧ Hid (Nx w4 wr) ∧ Hid ((ms.take k).all (askW l) = true)) (fun i _ => ms.length - (intOf i).toNat)
          case atStart => exact ⟨0, Nat.zero_le _, rfl, Lib.hid (Ch.refl _ _), Lib.hid (by simp)⟩
          case round =>
            obtain ⟨w5, rfl⟩ : ∃ w5 : World, w5 = wr := ⟨_, rfl⟩
            obtain ⟨k, hk, rfl, N5, Ha⟩ := hrel
            by_cases hlt : k < ms.length
            · obtain ⟨ad, rfl, -, p0, p1, p2⟩ := mat_at ((HQI.out.nx (N4.out.tr N5.out)).rd) hlt
              have HST := Lib.hid (all_step (p := askW l) hlt)
              have HFA := Lib.hid (fun h => all_false (p := askW l) hlt h)
              have hsx := Hsm.out _ (List.getElem_mem hlt)
              generalize ms[k] = x at *
              obtain ⟨nm, way, val⟩ := x
              simp only at p0 p1 p2
              have HM5 := Lib.hid (Blk.new w5 67 #[.string nm, .int .i64 way, .string val])
              have N6 := Lib.hid (N5.out.alloc (.cells #[.string nm, .int .i64 way, .string val] 67))
              have HSX := Lib.hid hsx
              have HAK : Hid (askW l ⟨nm, way, val⟩ = l.all fun x => !(decide (x.name = nm)) || meetsF [x] [⟨nm, way, val⟩]) := Lib.hid (by rw [← ask_ref HRL.out]; rfl)
              clear hsx
              go_wp2_with fail
              go_loopw [47] (fun i wr => ∃ j : Nat, j ≤ l.length ∧ i = .int .i64 (j : Int) ∧ Hid (Nx (w5.alloc (.cells #[.string nm, .int .i64 way, .string val] 67)) wr) ∧ Hid ((l.take j).all (fun x => !(decide (x.name = nm)) || meetsF [x] [⟨nm, way, val⟩]) = true)) (fun i _ => l.length - (intOf i).toNat)
              case atStart => exact ⟨0, Nat.zero_le _, rfl, Lib.hid (Ch.refl _ _), Lib.hid (by simp)⟩
              case round =>
                obtain ⟨w7, rfl⟩ : ∃ w7 : World, w7 = wr := ⟨_, rfl⟩
                obtain ⟨j, hj, rfl, N7, Hb⟩ := hrel
                by_cases hjl : j < l.length
                · obtain ⟨al, rfl, -, r0, r1⟩ := lab_at ((O4.out.tr (N6.out.tr N7.out)).rd) hjl
                  have b7 := HM5.out.nx N7.out
                  have m0 : w7.cell? ⟨w5.heap.size, 0, none⟩ = some (.string nm) := b7.cell 0
                  have m1 : w7.cell? ⟨w5.heap.size, 1, none⟩ = some (.int .i64 way) := b7.cell 1
                  have m2 : w7.cell? ⟨w5.heap.size, 2, none⟩ = some (.string val) := b7.cell 2
                  have hb7 := b7.lt
                  have HSJ := Lib.hid (all_step (p := fun x => !(decide (x.name = nm)) || meetsF [x] [⟨nm, way, val⟩]) hjl)
                  have HFJ := Lib.hid (fun h => all_false (p := fun x => !(decide (x.name = nm)) || meetsF [x] [⟨nm, way, val⟩]) hjl h)
                  have hsy := HS6.out _ (List.getElem_mem hjl)
                  generalize l[j] = y at *
                  obtain ⟨yn, yv⟩ := y
                  simp only at r0 r1 HSJ HFJ
                  have hqs := str_eq yn nm
                  have N8 := Lib.hid (N7.out.alloc (.cells #[.string yn, .string yv] 71))
                  have HSY := Lib.hid hsy
                  clear hsy b7
                  by_cases hyn : yn = nm
                  · have hq1 : (yn.toList == nm.toList) = true := by rw [hqs]; exact decide_eq_true hyn
                    rw [decide_eq_true hyn] at HSJ HFJ
                    have HME := Lib.hid (meets8_any (c := 1) (d := 1) (w := ((w7.alloc (.cells #[.string yn, .string yv] 71)).alloc (.cells #[.string yn, .string yv] 71)).alloc (.cells #[.string nm, .int .i64 way, .string val] 67))
                      ((Rd.labOne (w := w7.alloc (.cells #[.string yn, .string yv] 71)) ⟨yn, yv⟩).nx (by decide) ((Ch.refl (fun _ => False) _).alloc _)) rfl (by omega) (by intro z hz; rw [List.mem_singleton] at hz; subst hz; exact HSY.out)
                      (Rd.matAt (w := (w7.alloc (.cells #[.string yn, .string yv] 71)).alloc (.cells #[.string yn, .string yv] 71)) ⟨nm, way, val⟩) rfl (by omega) (by intro z hz; rw [List.mem_singleton] at hz; subst hz; exact HSX.out))
                    have N9 := Lib.hid ((N8.out.alloc (.cells #[.string yn, .string yv] 71)).alloc (.cells #[.string nm, .int .i64 way, .string val] 67))
                    simp only [World.size_alloc] at HME
                    clear hyn hqs
                    cases hme : meetsF [⟨yn, yv⟩] [⟨nm, way, val⟩]
                    · rw [hme] at HME HFJ
                      have HR := Lib.hid (show ms.all (askW l) = false from HFA.out (by rw [HAK.out]; exact HFJ.out rfl))
                      clear hme
                      go_wp2_with fail
                      refine HME.out.mono ?_
                      rintro e w8 ⟨rfl, n8⟩
                      have N10 := Lib.hid ((N6.out.tr N9.out).tr n8)
                      clear n8
                      go_wp2_with fail
                      go_ret
                      exact ⟨by rw [HW2.out, HR.out]; rfl, N4.out.tr N10.out⟩
                    · rw [hme] at HME HSJ
                      have HNX := Lib.hid (show (l.take (j + 1)).all (fun x => !(decide (x.name = nm)) || meetsF [x] [⟨nm, way, val⟩]) = true by rw [HSJ.out, Hb.out]; rfl)
                      clear hme
                      go_wp2_with fail
                      refine HME.out.mono ?_
                      rintro e w8 ⟨rfl, n8⟩
                      have N10 := Lib.hid (N9.out.tr n8)
                      clear n8
                      go_wp2_with fail
                      go_roundw
                      case rel => exact ⟨j + 1, by omega, by go_num, N10, HNX⟩
                      case measure => simp [intOf]; omega
                  · have hq1 : (yn.toList == nm.toList) = false := by rw [hqs]; exact decide_eq_false hyn
                    rw [decide_eq_false hyn] at HSJ
                    have HNX := Lib.hid (show (l.take (j + 1)).all (fun x => !(decide (x.name = nm)) || meetsF [x] [⟨nm, way, val⟩]) = true by rw [HSJ.out, Hb.out]; rfl)
                    clear hyn hqs
                    go_wp2_with fail
                    go_roundw
                    case rel => exact ⟨j + 1, by omega, by go_num, N8, HNX⟩
                    case measure => simp [intOf]; omega
                · have HAL := Lib.hid (show askW l ⟨nm, way, val⟩ = true by rw [HAK.out]; have h := Hb.out; rw [List.take_of_length_le (by omega)] at h; exact h)
                  have HNX := Lib.hid (show (ms.take (k + 1)).all (askW l) = true by rw [HST.out, Ha.out, HAL.out]; rfl)
                  have N8 := Lib.hid (N6.out.tr N7.out)
                  go_wp2_with fail
                  go_roundw
                  case rel => exact ⟨k + 1, by omega, by go_num, N8, HNX⟩
                  case measure => simp [intOf]; omega
            · have HTK := Lib.hid (show ms.all (askW l) = true by have h := Ha.out; rw [List.take_of_length_le (by omega)] at h; exact h)
              go_wp2_with fail
              go_ret
              exact ⟨by rw [HW2.out, HTK.out]; rfl, N4.out.tr N5.out⟩
        · have HW2 := Lib.hid (show wantsF ⟨lo, hi, ms, limit, texts⟩ part elo ehi = false by rw [HW.out, decide_eq_false (fun h => g2 h.2)]; rfl)
          clear HW
          go_wp2_with fail
          refine HQ3.out.mono ?_
          rintro e w4 ⟨rfl, n4⟩
          have N4 := Lib.hid (N3.out.tr n4)
          have b4 := B3.out.nx n4
          have i4 := I3.out.nx n4
          have q0 : w4.cell? ⟨w.heap.size, 0, none⟩ = some (.int .i64 lo) := b4.cell 0
          have q1 : w4.cell? ⟨w.heap.size, 1, none⟩ = some (.int .i64 hi) := b4.cell 1
          have e3 : w4.cell? ⟨w.heap.size + 1, 3, none⟩ = some (.int .i64 elo) := i4.cell 3
          have e4 : w4.cell? ⟨w.heap.size + 1, 4, none⟩ = some (.int .i64 ehi) := i4.cell 4
          clear n4 b4 i4
          go_wp2_with fail
          go_ret
          exact ⟨by rw [HW2.out]; rfl, N4.out⟩
      · have HW2 := Lib.hid (show wantsF ⟨lo, hi, ms, limit, texts⟩ part elo ehi = false by rw [HW.out, decide_eq_false (fun h => g1 h.1)]; rfl)
        clear HW
        go_wp2_with fail
        refine HQ3.out.mono ?_
        rintro e w4 ⟨rfl, n4⟩
        have N4 := Lib.hid (N3.out.tr n4)
        have b4 := B3.out.nx n4
        have i4 := I3.out.nx n4
        have q1 : w4.cell? ⟨w.heap.size, 1, none⟩ = some (.int .i64 hi) := b4.cell 1
        have e3 : w4.cell? ⟨w.heap.size + 1, 3, none⟩ = some (.int .i64 elo) := i4.cell 3
        clear n4 b4 i4
        go_wp2_with fail
        go_ret
        exact ⟨by rw [HW2.out]; rfl, N4.out⟩
  · have HW := Lib.hid (HWN.out hpf)
    have N3 := Lib.hid (HN.out.tr n6)
    have b3 := HB2.out.nx n6
    have q0 : w3.cell? ⟨w.heap.size, 0, none⟩ = some (.int .i64 lo) := b3.cell 0
    have q1 : w3.cell? ⟨w.heap.size, 1, none⟩ = some (.int .i64 hi) := b3.cell 1
    have q2 : w3.cell? ⟨w.heap.size, 2, none⟩ = some (.slice B ms.length d) := b3.cell 2
    have q3 : w3.cell? ⟨w.heap.size, 3, none⟩ = some (.int .i64 limit) := b3.cell 3
    have q4 : w3.cell? ⟨w.heap.size, 4, none⟩ = some (.bool texts) := b3.cell 4
    have HQ3 := Lib.hid (HQ.out w3 N3.out)
    clear he hpf n6 b3 HB HB2 HI HQ HWN HWS HPA
    generalize qrightF ⟨lo, hi, ms, limit, texts⟩ = bq at *
    cases bq
    all_goals
      go_wp2_with fail
      refine HQ3.out.mono ?_
      rintro e w4 ⟨rfl, n4⟩
      have N4 := Lib.hid (N3.out.tr n4)
      clear n4
      go_wp2_with fail
      go_ret
      exact ⟨by rw [HW.out]; rfl, N4.out⟩
end
end Go.Proofs.Ytbgeddlakcaikaa
