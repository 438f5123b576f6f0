/- The contracts of the document's Groups and SameInts. Conditions: at most 40 spans and postings, at most 60 groups of each. -/
import Derived.Test.YtbgeddlakcaikaaKrGrC
import Derived.Test.YtbgeddlakcaikaaKrOrd
namespace Go.Proofs.Ytbgeddlakcaikaa
set_option maxRecDepth 100000
open Go.RowKit Go.Maps Ps
set_option linter.unusedVariables false
/-- is it named? as the document counts -/
def nmF (ms : List Mat) (i : Int) (ps : List PV) : Bool := ps.any fun p => hitF ms p && p.gs.any (fun g => g == i)
theorem nm_named (ms : List Mat) (ps : List PV) (i : Int) : nmF ms i ps = (namedF ms ps).contains i := by
  rw [Bool.eq_iff_iff]
  unfold nmF namedF
  simp only [List.any_eq_true, Bool.and_eq_true, List.contains_iff_mem, List.mem_flatMap, beq_iff_eq]
  constructor
  · rintro ⟨p, hp, h1, g, hg, rfl⟩
    exact ⟨p, hp, by rw [if_pos h1]; exact hg⟩
  · rintro ⟨p, hp, h⟩
    by_cases h1 : hitF ms p = true
    · rw [if_pos h1] at h
      exact ⟨p, hp, h1, i, h, rfl⟩
    · rw [if_neg h1] at h
      cases h
theorem any_step {α : Type} {p : α → Bool} {l : List α} {k : Nat} (hk : k < l.length) : (l.take (k + 1)).any p = ((l.take k).any p || p l[k]) := by
  rw [List.take_succ_eq_append_getElem hk, List.any_append]
  simp
theorem nm_step {ms : List Mat} {i : Int} {ps : List PV} {k : Nat} (hk : k < ps.length) : nmF ms i (ps.take (k + 1)) = (nmF ms i (ps.take k) || (hitF ms ps[k] && ps[k].gs.any (fun g => g == i))) := any_step hk
/-- numbers of the call's own: the first block of them is the third one of the call -/
structure GrI (w w3 wr : World) (v : Value) (l : List Int) : Prop where
  own : OwnS w wr 3 1 v l.length (ints l)
  ch : Ch (fun k => k = w.heap.size + 1 + 1) w3 wr
  at_ : ∀ k, v.ownBlock = some k → k = w.heap.size + 1 + 1 ∨ w3.heap.size ≤ k
theorem GrI.tr {w w3 wr w' : World} {v : Value} {l : List Int} (h : GrI w w3 wr v l) (c : Nx wr w') : GrI w w3 w' v l := ⟨h.own.tr c, h.ch.tr c, h.at_⟩
theorem GrI.app {w w3 w6 w8 : World} {v v' : Value} {l : List Int} {x : Int} (h : GrI w w3 w6 v l) (o : OwnS w w8 3 1 v' (l.length + 1) (ints l ++ [.int .i64 x])) (m : Moved w6 w8 v v') : GrI w w3 w8 v' (l ++ [x]) := by
  refine ⟨by rw [List.length_append, List.length_singleton, show ints (l ++ [x]) = ints l ++ [.int .i64 x] by simp [ints]]; exact o, h.ch.trans m.ch fun i hi e => ?_, fun k hk => ?_⟩
  · rcases h.at_ i e with e | e
    · exact e
    · omega
  · rcases m.at_ with e | ⟨j, e, hj⟩
    · exact h.at_ k (e.symm.trans hk)
    · rw [e] at hk
      injection hk with hk
      have := h.ch.size
      omega
section
variable {w : World} {D : Nat → Prop} {As Ap B : Option Addr} {cs cp d : Nat} {ss : List SpanE} {ps : List PV} {q : QryE}
set_option maxHeartbeats 16000000 in
theorem rgroups_any (hq : QIs w q B d) (hs : Rd w D 5 As ss.length (spl ss)) (hp : Rd w D 2 Ap ps.length (pvl ps)) (hk : ∀ x ∈ ps, x.ok w D) (hsn : ss.length ≤ 40) (hpn : ps.length ≤ 40) :
    Calls Try.prog 7 #[qryV q B d, .agg #[.slice As ss.length cs, .slice Ap ps.length cp]] w (GrpTo (groupsF q ss ps) w) := by
  obtain ⟨i0, hi0, hz0, hz1, hz2⟩ := info_parts Try.infoInt
  have HQ := Lib.hid (fun w' (c' : Nx w w') => ref12right_q (hq.nx c'))
  have HS := Lib.hid hs
  have HP := Lib.hid hp
  have HK := Lib.hid hk
  have HQI := Lib.hid hq
  have hfin : groupsF q ss ps = if qrightF q then grpF q (namedF q.ms ps) ss ss.length else [] := rfl
  have HFIN := Lib.hid hfin
  have hms8 : qrightF q = true → q.ms.length ≤ 8 := fun h => by
    unfold qrightF at h
    simp only [Bool.and_eq_true, decide_eq_true_eq] at h
    exact h.1.2.2.2.1
  obtain ⟨lo, hi, ms, limit, texts⟩ := q
  clear hs hp hk hq hfin
  have HB := Lib.hid (Blk.new w 24 #[.int .i64 lo, .int .i64 hi, .slice B ms.length d, .int .i64 limit, .bool texts])
  have HN0 := Lib.hid (((Ch.refl (fun _ => False) w).alloc (.cells #[.int .i64 lo, .int .i64 hi, .slice B ms.length d, .int .i64 limit, .bool texts] 24)).alloc (.cells #[.slice As ss.length cs, .slice Ap ps.length cp] 34))
  have HN := Lib.hid (HN0.out.alloc (.cells #[] 3))
  have HI := Lib.hid (Blk.new (w.alloc (.cells #[.int .i64 lo, .int .i64 hi, .slice B ms.length d, .int .i64 limit, .bool texts] 24)) 34 #[.slice As ss.length cs, .slice Ap ps.length cp])
  have HB2 := Lib.hid ((HB.out.alloc (.cells #[.slice As ss.length cs, .slice Ap ps.length cp] 34)).alloc (.cells #[] 3))
  have HI2 := Lib.hid (HI.out.alloc (.cells #[] 3))
  have HO := Lib.hid (OwnS.lit w _ 3 HN0.out 1)
  simp only [World.size_alloc] at HI2 HO
  clear HI HB HN0
  unfold qryV at *
  simp only at *
  cases hqr : qrightF ⟨lo, hi, ms, limit, texts⟩
  · rw [hqr] at HQ HFIN
    clear hqr hms8
    go_enter Try.func7, Try.ntmps7
    go_wp2_with fail
    refine (HQ.out _ HN.out).mono ?_
    rintro e w3 ⟨rfl, n3⟩
    have O3 := Lib.hid (HO.out.tr n3)
    clear n3
    go_wp2_with fail
    go_ret
    refine ⟨_, rfl, ?_⟩
    rw [HFIN.out]
    exact O3.out
  · have hms := hms8 hqr
    rw [hqr] at HQ HFIN
    clear hqr hms8
    have HSP : Hid (∀ (s : SpanE), spanF ⟨lo, hi, ms, limit, texts⟩ s = decide (s.lo < hi ∧ lo ≤ s.hi)) := Lib.hid (fun s => rfl)
    have HIN := Lib.hid (fun (j : Nat) (hj : j < ss.length) h1 h2 => grp_in (q := ⟨lo, hi, ms, limit, texts⟩) (N := namedF ms ps) (ss := ss) hj h1 h2)
    have HOUT := Lib.hid (fun (j : Nat) (hj : j < ss.length) h => grp_out (q := ⟨lo, hi, ms, limit, texts⟩) (N := namedF ms ps) (ss := ss) hj h)
    have HGL := Lib.hid (fun j => grp_len ⟨lo, hi, ms, limit, texts⟩ (namedF ms ps) ss j)
    have HG0 := Lib.hid (grp_zero ⟨lo, hi, ms, limit, texts⟩ (namedF ms ps) ss)
    have HFN := Lib.hid (show groupsF ⟨lo, hi, ms, limit, texts⟩ ss ps = grpF ⟨lo, hi, ms, limit, texts⟩ (namedF ms ps) ss ss.length by rw [HFIN.out]; rfl)
    have HNM := Lib.hid (fun i => nm_named ms ps i)
    clear HFIN
    generalize hgf : grpF ⟨lo, hi, ms, limit, texts⟩ (namedF ms ps) ss = G at *
    clear hgf
    go_enter Try.func7, Try.ntmps7
    go_wp2_with fail
    refine (HQ.out _ HN.out).mono ?_
    rintro e w3 ⟨rfl, n3⟩
    have N3 := Lib.hid (HN.out.tr n3)
    have B3 := Lib.hid (HB2.out.nx n3)
    have I3 := Lib.hid (HI2.out.nx n3)
    have O3 := Lib.hid (HO.out.tr n3)
    have x0 : w3.cell? ⟨w.heap.size + 1, 0, none⟩ = some (.slice As ss.length cs) := I3.out.cell 0
    have hlt3 := I3.out.lt
    clear n3 HN HB2 HI2 HQ HO
    go_wp2_with fail
    go_loopw [5, 23] (fun s5 s23 wr => ∃ j : Nat, j ≤ ss.length ∧ s23 = .int .i64 (j : Int) ∧ Hid (GrI w w3 wr s5 (G j))) (fun _ s23 _ => ss.length - (intOf s23).toNat)
    case atStart => exact ⟨0, Nat.zero_le _, rfl, Lib.hid (by rw [HG0.out]; exact ⟨O3.out, Ch.refl _ _, fun k hk => by
        left
        injection hk with hk
        exact hk.symm⟩)⟩
    case round =>
      obtain ⟨w5, rfl⟩ : ∃ w5 : World, w5 = wr := ⟨_, rfl⟩
      obtain ⟨j, hj, rfl, Ho⟩ := hrel
      obtain ⟨A7, c7, hu7, hc7, hm7⟩ := Ho.out.own.form
      have W5 := Lib.hid Ho.out.own.nx
      subst hu7
      have hgl := HGL.out j
      by_cases hjl : j < ss.length
      · obtain ⟨ad, rfl, hbd, p0, p1, p2, p3, p4⟩ := span_at (HS.out.nx (by decide) W5.out) hjl
        have hsp := HSP.out ss[j]
        have HI1 := Lib.hid (HIN.out j hjl)
        have HO1 := Lib.hid (HOUT.out j hjl)
        have b5 := B3.out.ch Ho.out.ch (by omega)
        have q0 : w5.cell? ⟨w.heap.size, 0, none⟩ = some (.int .i64 lo) := b5.cell 0
        have q1 : w5.cell? ⟨w.heap.size, 1, none⟩ = some (.int .i64 hi) := b5.cell 1
        have ix5 := I3.out.ch Ho.out.ch (by omega)
        have q2 : w5.cell? ⟨w.heap.size + 1, 1, none⟩ = some (.slice Ap ps.length cp) := ix5.cell 1
        have hbl := b5.lt
        have hbl2 := ix5.lt
        generalize ss[j] = s at *
        obtain ⟨place, size, rows, lo', hi'⟩ := s
        simp only at p0 p1 p2 p3 p4 hsp
        have B5 := Lib.hid b5
        have N6 := Lib.hid (W5.out.alloc (.cells #[.int .i64 place, .int .i64 size, .int .i64 rows, .int .i64 lo', .int .i64 hi'] 37))
        have HA := Lib.hid (Ho.out.tr ((Ch.refl (fun _ => False) w5).alloc (.cells #[.int .i64 place, .int .i64 size, .int .i64 rows, .int .i64 lo', .int .i64 hi'] 37)))
        clear b5 hbd ix5
        by_cases g1 : lo' < hi
        · by_cases g2 : lo ≤ hi'
          · have HSPT := Lib.hid (show spanF ⟨lo, hi, ms, limit, texts⟩ ⟨place, size, rows, lo', hi'⟩ = true by rw [hsp]; exact decide_eq_true ⟨g1, g2⟩)
            clear hsp
            go_wp2_with fail
            clear p0 p1 p2 p3 p4 q0 q1 q2 g1 g2
            go_loopw [8, 43] (fun s8 s43 wr => ∃ k : Nat, k ≤ ps.length ∧ s8 = .bool (nmF ms (j : Int) (ps.take k)) ∧ s43 = .int .i64 (k : Int) ∧ Hid (Nx (w5.alloc (.cells #[.int .i64 place, .int .i64 size, .int .i64 rows, .int .i64 lo', .int .i64 hi'] 37)) wr)) (fun _ s43 _ => ps.length - (intOf s43).toNat)
            case atStart => exact ⟨0, Nat.zero_le _, rfl, rfl, Lib.hid (Ch.refl _ _)⟩
            case round =>
              obtain ⟨w6, rfl⟩ : ∃ w6 : World, w6 = wr := ⟨_, rfl⟩
              obtain ⟨k, hkn, rfl, rfl, H6⟩ := hrel
              by_cases hlt : k < ps.length
              · have W6 := Lib.hid (N6.out.tr H6.out)
                obtain ⟨ad, rfl, hb, p0, p1⟩ := post_at (HP.out.nx (by decide) W6.out) hlt
                have HX := Lib.hid (HK.out _ (List.getElem_mem hlt))
                have HT := Lib.hid (nm_step (ms := ms) (i := (j : Int)) hlt)
                generalize ps[k] = x at *
                obtain ⟨text, gs, A1, c1⟩ := x
                simp only at p0 p1 HT
                have HG := Lib.hid (HX.out.rd)
                have htx := HX.out.tx
                have hgn := HX.out.gn
                simp only at htx hgn HG
                have H7 := Lib.hid (H6.out.alloc (.cells #[.string text, .slice A1 gs.length c1] 41))
                have BX := Lib.hid (Blk.new w6 41 #[.string text, .slice A1 gs.length c1])
                have HPA := Lib.hid (parse8_any (w := w6.alloc (.cells #[.string text, .slice A1 gs.length c1] 41)) text (by omega))
                have B6 := Lib.hid (B5.out.nx (((Ch.refl (fun _ => False) w5).alloc _).tr H7.out))
                generalize nmF ms (j : Int) (ps.take k) = b0 at *
                clear hb HX
                go_wp2_with fail
                clear p0 p1
                refine HPA.out.mono ?_
                rintro e w8 he
                rcases he.cases with ⟨l, A6, c6, hpf, rfl, o6, hs6, hl6⟩ | ⟨hpf, rfl, n6⟩
                · have O6 := Lib.hid o6
                  have H8 := Lib.hid (H7.out.tr o6.nx)
                  have W8 := Lib.hid (N6.out.tr H8.out)
                  have b6 := B6.out.nx o6.nx
                  have q2 : w8.cell? ⟨w.heap.size, 2, none⟩ = some (.slice B ms.length d) := b6.cell 2
                  have BX6 := Lib.hid (BX.out.nx o6.nx)
                  have HME := Lib.hid (meets8_any (c := c6) (d := d) (w := w8) O6.out.rd rfl (by omega) hs6 ((HQI.out.nx W8.out).rd) rfl (by show ms.length ≤ _; omega) (HQI.out.nx W8.out).sm)
                  have HHIT := Lib.hid (show hitF ms ⟨text, gs, A1, c1⟩ = meetsF l ms by unfold hitF; simp only; rw [hpf])
                  clear he hpf o6 hs6 b6
                  simp only at HME
                  cases hme : meetsF l ms
                  · rw [hme] at HME HHIT
                    have HT2 := Lib.hid (show nmF ms (j : Int) (ps.take (k + 1)) = b0 by rw [HT.out, HHIT.out]; simp)
                    clear hme HHIT HT
                    go_wp2_with fail
                    with_reducible refine HME.out.mono ?_
                    rintro e w9 ⟨rfl, n9⟩
                    have H9 := Lib.hid (H8.out.tr n9)
                    clear n9
                    go_wp2_with fail
                    go_roundw
                    case rel => exact ⟨k + 1, by omega, by rw [HT2.out], by go_num, H9⟩
                    case measure => simp [intOf]; omega
                  · rw [hme] at HME HHIT
                    have HT2 := Lib.hid (show nmF ms (j : Int) (ps.take (k + 1)) = (b0 || gs.any (fun g => g == (j : Int))) by rw [HT.out, HHIT.out]; simp)
                    clear hme HHIT HT
                    go_wp2_with fail
                    with_reducible refine HME.out.mono ?_
                    rintro e w9 ⟨rfl, n9⟩
                    have H9 := Lib.hid (H8.out.tr n9)
                    have x7 : w9.cell? ⟨w6.heap.size, 1, none⟩ = some (.slice A1 gs.length c1) := (BX6.out.nx n9).cell 1
                    clear n9 q2
                    go_wp2_with fail
                    clear x7
                    go_loopw [8, 65] (fun s8 s65 wr => ∃ (m : Nat) (b : Bool), m ≤ gs.length ∧ s8 = .bool b ∧ s65 = .int .i64 (m : Int) ∧ Hid (b = (b0 || (gs.take m).any (fun g => g == (j : Int)))) ∧ wr = w9) (fun _ s65 _ => gs.length - (intOf s65).toNat)
                    case atStart => exact ⟨0, b0, Nat.zero_le _, rfl, rfl, Lib.hid (by simp), rfl⟩
                    case round =>
                      obtain ⟨m, b, hm, rfl, rfl, Hb, rfl⟩ := hrel
                      by_cases hml : m < gs.length
                      · obtain ⟨ag, rfl, hbg, g0⟩ := int_at (HG.out.nx (by decide) (N6.out.tr H9.out)) hml
                        have HST := Lib.hid (any_step (p := fun g => g == (j : Int)) hml)
                        generalize gs[m] = g at *
                        clear hbg
                        cases b
                        · by_cases hgj : g = (j : Int)
                          · have hq1 : (g == (j : Int)) = true := by rw [hgj]; simp
                            have HNX := Lib.hid (show true = (b0 || (gs.take (m + 1)).any (fun g => g == (j : Int))) by rw [HST.out, hgj]; simp)
                            clear hgj
                            go_wp2_with fail
                            go_roundw
                            case rel => exact ⟨m + 1, true, by omega, by first | rfl | simp_all, by go_num, HNX, trivial⟩
                            case measure => simp [intOf]; omega
                          · have hq1 : (g == (j : Int)) = false := by simp [hgj]
                            have HNX := Lib.hid (show false = (b0 || (gs.take (m + 1)).any (fun g => g == (j : Int))) by rw [HST.out, ← Bool.or_assoc, ← Hb.out, hq1]; rfl)
                            clear hgj
                            go_wp2_with fail
                            go_roundw
                            case rel => exact ⟨m + 1, false, by omega, by first | rfl | simp_all, by go_num, HNX, trivial⟩
                            case measure => simp [intOf]; omega
                        · have HNX := Lib.hid (show true = (b0 || (gs.take (m + 1)).any (fun g => g == (j : Int))) by rw [HST.out, ← Bool.or_assoc, ← Hb.out]; rfl)
                          go_wp2_with fail
                          go_roundw
                          case rel => exact ⟨m + 1, true, by omega, by first | rfl | simp_all, by go_num, HNX, trivial⟩
                          case measure => simp [intOf]; omega
                      · have HE := Lib.hid (show nmF ms (j : Int) (ps.take (k + 1)) = b by rw [HT2.out, Hb.out, List.take_of_length_le (by omega)])
                        go_wp2_with fail
                        go_roundw
                        case rel => exact ⟨k + 1, by omega, by rw [HE.out], by go_num, H9⟩
                        case measure => simp [intOf]; omega
                · have HT2 := Lib.hid (show nmF ms (j : Int) (ps.take (k + 1)) = b0 by
                    rw [HT.out, show hitF ms ⟨text, gs, A1, c1⟩ = false from by unfold hitF; simp only; rw [hpf]]
                    simp)
                  have H8 := Lib.hid (H7.out.tr n6)
                  clear he hpf n6 HT
                  go_wp2_with fail
                  go_roundw
                  case rel => exact ⟨k + 1, by omega, by rw [HT2.out], by go_num, H8⟩
                  case measure => simp [intOf]; omega
              · have HE := Lib.hid (show nmF ms (j : Int) (ps.take k) = (namedF ms ps).contains (j : Int) by rw [List.take_of_length_le (by omega)]; exact HNM.out _)
                generalize nmF ms (j : Int) (ps.take k) = bn at *
                have HA6 := Lib.hid (HA.out.tr H6.out)
                cases bn
                · have HEQ := Lib.hid (HO1.out (.inl HE.out.symm))
                  go_wp2_with fail
                  go_roundw
                  case rel => exact ⟨j + 1, by omega, by go_num, by rw [HEQ.out]; exact HA6⟩
                  case measure => simp [intOf]; omega
                · have HEQ := Lib.hid (HI1.out HE.out.symm HSPT.out)
                  go_wp2_with (at_builtin; refine wpList_app1 rfl (.tmp 78) (.tmp 80) _ rfl 3 i0 _ 8 Try.underlying38 hi0 hz0 hz1 hz2 rfl (.int .i64 (j : Int)) rfl rfl HA6.out.own rfl (by simp only [maxLen]; omega) (by omega) ?_; intro v9 w9 o9 m9)
                  have O9 := Lib.hid (HA6.out.app o9 m9)
                  clear o9 m9
                  go_roundw
                  case rel => exact ⟨j + 1, by omega, by go_num, by rw [HEQ.out]; exact O9⟩
                  case measure => simp [intOf]; omega
          · have HE := Lib.hid (HO1.out (.inr (by rw [hsp]; exact decide_eq_false (fun h => g2 h.2))))
            clear hsp
            go_wp2_with fail
            go_roundw
            case rel => exact ⟨j + 1, by omega, by go_num, by rw [HE.out]; exact HA⟩
            case measure => simp [intOf]; omega
        · have HE := Lib.hid (HO1.out (.inr (by rw [hsp]; exact decide_eq_false (fun h => g1 h.1))))
          clear hsp
          go_wp2_with fail
          go_roundw
          case rel => exact ⟨j + 1, by omega, by go_num, by rw [HE.out]; exact HA⟩
          case measure => simp [intOf]; omega
      · have hjj : j = ss.length := by omega
        have HJJ := Lib.hid hjj
        clear hjj
        go_wp2_with fail
        go_ret
        refine ⟨_, rfl, ?_⟩
        rw [HFN.out, ← HJJ.out]
        exact Ho.out.own
end
set_option maxHeartbeats 4000000 in
theorem sameints_any {w : World} {D D2 : Nat → Prop} {A B : Option Addr} {c d : Nat} {l m : List Int} (h : Rd w D 1 A l.length (ints l)) (h2 : Rd w D2 1 B m.length (ints m)) (hl : l.length ≤ 1000000) (hm : m.length ≤ 1000000) :
    Calls Try.prog 5 #[.slice A l.length c, .slice B m.length d] w fun e w' => ∃ b, e = .returned (.bool b) ∧ (l = m → b = true) ∧ Nx w w' := by
  by_cases hlm : l.length = m.length
  · have HLM := Lib.hid hlm
    have HA := Lib.hid h
    have HB := Lib.hid h2
    clear h h2
    rw [← hlm]
    clear hlm hm
    go_enter Try.func5, Try.ntmps5
    go_wp2_with fail
    go_loopw [13] (fun s13 wr => ∃ k : Nat, k ≤ l.length ∧ s13 = .int .i64 (k : Int) ∧ Hid (Nx w wr)) (fun s13 _ => l.length - (intOf s13).toNat)
    case atStart => exact ⟨0, Nat.zero_le _, rfl, Lib.hid (Ch.refl _ _)⟩
    case round =>
      obtain ⟨k, hk, rfl, HD⟩ := hrel
      by_cases hlt : k < l.length
      · obtain ⟨a1, rfl, -, p0⟩ := int_at (HA.out.nx (by decide) HD.out) hlt
        obtain ⟨a2, rfl, -, p1⟩ := int_at (HB.out.nx (by decide) HD.out) (show k < m.length by have := HLM.out; omega)
        have HNE := Lib.hid (show l = m → l[k] = m[k]'(by have := HLM.out; omega) from fun e => by subst e; rfl)
        generalize l[k] = x at *
        generalize m[k]'(by have := HLM.out; omega) = y at *
        by_cases he : x = y
        · subst he
          go_wp2_with fail
          go_quiet (fail)
          go_wp2_with fail
          go_roundw
          case rel => exact ⟨k + 1, by omega, by go_num, Lib.hid (HD.out.drewN _)⟩
          case measure => simp [intOf]; omega
        · have hq1 : (x != y) = true := by simp [he]
          have HNE2 := Lib.hid (fun e => he (HNE.out e))
          clear he HNE
          go_wp2_with fail
          go_quiet (fail)
          go_wp2_with fail
          go_ret
          exact ⟨_, rfl, fun e => absurd e HNE2.out, HD.out.drewN _⟩
      · go_wp2_with fail
        go_ret
        exact ⟨_, rfl, fun _ => rfl, HD.out⟩
  · go_enter Try.func5, Try.ntmps5
    go_wp2_with fail
    go_ret
    exact ⟨_, rfl, fun e => absurd (congrArg List.length e) hlm, Ch.refl _ _⟩
end Go.Proofs.Ytbgeddlakcaikaa
