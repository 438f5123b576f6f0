/- The contract of query.Groups. Conditions: at most 40 spans and postings, at most 60 groups of each. -/
import Derived.Test.YtbgeddlakcaikaaKrGrP
import Derived.Test.YtbgeddlakcaikaaKrPsC
import Derived.Test.YtbgeddlakcaikaaKrQyB
namespace Go.Proofs.Ytbgeddlakcaikaa
set_option maxRecDepth 100000
open Go.RowKit Go.Maps Ps
set_option linter.unusedVariables false
theorem fin_right {x : List UInt8} {out l : List Lab} (h : finL x out = some l) : rightF l = true := by
  unfold finL at h
  split at h
  · next hh =>
    injection h with h
    rw [← h]
    exact hh.2
  · cases h
theorem prg_right : ∀ {f : Nat} {x : List UInt8} {out l : List Lab}, prgN f x out = some l → rightF l = true
  | 0, _, _, _, h => by cases h
  | f + 1, x, out, l, h => by
    unfold prgN at h
    split at h
    · split at h
      · next hh =>
        injection h with h
        rw [← h]
        exact hh
      · cases h
    · split at h
      · cases h
      · split at h
        · cases h
        · split at h
          · cases h
          · split at h
            · cases h
            · exact prg_right h
theorem parse_right {x : List UInt8} {l : List Lab} (h : parseF x = some l) : rightF l = true := by
  unfold parseF at h
  split at h
  · exact prg_right h
  · cases h
theorem right_few {l : List Lab} (h : rightF l = true) : l.length ≤ 4 := by
  unfold rightF at h
  rw [Bool.and_eq_true, decide_eq_true_eq] at h
  exact h.1
theorem SetTo.cases {s : ByteArray} {w w' : World} {e : Ending} (h : SetTo s w e w') :
    (∃ l A c, parseF s.data.toList = some l ∧ e = .returned (.tuple #[.slice A l.length c, .int .i64 0]) ∧ OwnS w w' 71 2 (.slice A l.length c) l.length (lbl l) ∧ (∀ x ∈ l, x.small) ∧ l.length ≤ 4) ∨
    (parseF s.data.toList = none ∧ e = .returned (.tuple #[.slice none 0 0, .int .i64 4]) ∧ Nx w w') := by
  obtain ⟨v, k, rfl, h⟩ := h
  cases hp : parseF s.data.toList with
  | none =>
    rw [hp] at h
    obtain ⟨rfl, rfl, hn⟩ := h
    exact .inr ⟨rfl, rfl, hn⟩
  | some l =>
    rw [hp] at h
    obtain ⟨rfl, ho, hs⟩ := h
    obtain ⟨A, c, rfl, _, _⟩ := ho.form
    exact .inl ⟨l, A, c, rfl, rfl, ho, hs, right_few (parse_right hp)⟩
theorem Try.infoInt : (Try.prog.info? 3).map (fun i => (i.zero, i.size, i.bytes)) = some (some (.int .i64 0), 1, 8) := by kernel_rfl
theorem wpList_named_put {ops : Array Oper} {rest : List Oper} {o : Oper} {a : Act} {Q : Exit → Act → World → Prop} {w : World} {b n : Nat} {l : List Int} {i : Int}
    (hg : o.guard = none) (m x v : Operand) (hop : o.op = Op.mapUpdate 58 m x v) (hm : a.eval m = .map (some b)) (hx : a.eval x = .int .i64 i) (hv : a.eval v = .bool true)
    (h : Named w b n l) (hn : n < maxLen) (hi : i64 i) (hK : ∀ w', Named w' b (n + 1) (l ++ [i]) → Ch (· = b) w w' → wpList Try.prog ops Q rest (a.put o.dst undef) w') :
    wpList Try.prog ops Q (o :: rest) a w := by
  refine wpList_plain hg fun K' hK' => ?_
  obtain ⟨w', hrun, r1, r2⟩ := h.put hn hi
  unfold Oper.wp
  simp [execOp, hop, hm, hx, hv, hrun, Result.andThen]
  exact hK' _ _ (hK w' r1 r2)
/-- what Groups hands back -/
def GrpTo (l : List Int) (w : World) (e : Ending) (w' : World) : Prop := ∃ v, e = .returned v ∧ OwnS w w' 3 1 v l.length (ints l)
section
variable {w : World} {D : Nat → Prop} {As Ap B : Option Addr} {cs cp d : Nat} {ss : List SpanE} {ps : List PV} {q : QryE}
set_option maxHeartbeats 16000000 in
theorem qgroups_any (hq : QIs w q B d) (hs : Rd w D 5 As ss.length (spl ss)) (hp : Rd w D 2 Ap ps.length (pvl ps)) (hk : ∀ x ∈ ps, x.ok w D) (hsn : ss.length ≤ 40) (hpn : ps.length ≤ 40)
    (m : Int) (hm : w.cell? ⟨0, 0, none⟩ = some (.int .i64 m)) :
    Calls Try.prog 6 #[qryV q B d, .agg #[.slice As ss.length cs, .slice Ap ps.length cp]] w (GrpTo (groupsF q ss ps) w) := by
  obtain ⟨i0, hi0, hz0, hz1, hz2⟩ := info_parts Try.infoInt
  have hmm := @run_makeMap Try.prog
  have HQ := Lib.hid (fun w' (c' : Nx w w') => qright_q (hq.nx c'))
  have HM := Lib.hid (fun (w' : World) (c' : Nx w w') => show w'.cell? ⟨0, 0, none⟩ = some (.int .i64 m) from (c'.cell (p := ⟨0, 0, none⟩) (World.block_lt_of_cell? w ⟨0, 0, none⟩ hm)).trans hm)
  have HS := Lib.hid hs
  have HP := Lib.hid hp
  have HK := Lib.hid hk
  have HQI := Lib.hid hq
  have hfin : groupsF q ss ps = if qrightF q then grpF q (namedF q.ms ps) ss ss.length else [] := rfl
  have HFIN := Lib.hid hfin
  have HSP := Lib.hid (fun (s : SpanE) => (rfl : spanF q s = decide (s.lo < q.hi ∧ q.lo ≤ s.hi)))
  have hms8 : qrightF q = true → q.ms.length ≤ 8 := fun h => by
    unfold qrightF at h
    simp only [Bool.and_eq_true, decide_eq_true_eq] at h
    exact h.1.2.2.2.1
  obtain ⟨lo, hi, ms, limit, texts⟩ := q
  clear hs hp hk hq hm hfin
  have HB := Lib.hid (Blk.new w 24 #[.int .i64 lo, .int .i64 hi, .slice B ms.length d, .int .i64 limit, .bool texts])
  have HN := Lib.hid (((Ch.refl (fun _ => False) w).alloc (.cells #[.int .i64 lo, .int .i64 hi, .slice B ms.length d, .int .i64 limit, .bool texts] 24)).alloc (.cells #[.slice As ss.length cs, .slice Ap ps.length cp] 45))
  unfold qryV at *
  simp only at *
  cases hqr : qrightF ⟨lo, hi, ms, limit, texts⟩
  · rw [hqr] at HQ HFIN
    clear hqr hms8
    go_enter Try.func6, Try.ntmps6
    go_wp2_with fail
    refine (HQ.out _ HN.out).mono ?_
    rintro e w3 ⟨rfl, n3⟩
    have N3 := Lib.hid (HN.out.tr n3)
    clear n3
    go_wp2_with fail
    go_ret
    refine ⟨_, rfl, ?_⟩
    rw [HFIN.out]
    exact OwnS.nil w w3 _ 1 N3.out
  · have hms := hms8 hqr
    rw [hqr] at HQ HFIN
    clear hqr hms8
    have HSP : Hid (∀ (s : SpanE), spanF ⟨lo, hi, ms, limit, texts⟩ s = decide (s.lo < hi ∧ lo ≤ s.hi)) := Lib.hid (fun s => rfl)
    have HI := Lib.hid (Blk.new (w.alloc (.cells #[.int .i64 lo, .int .i64 hi, .slice B ms.length d, .int .i64 limit, .bool texts] 24)) 45 #[.slice As ss.length cs, .slice Ap ps.length cp])
    have HB2 := Lib.hid (HB.out.alloc (.cells #[.slice As ss.length cs, .slice Ap ps.length cp] 45))
    simp only [World.size_alloc] at HI
    go_enter Try.func6, Try.ntmps6
    go_wp2_with fail
    refine (HQ.out _ HN.out).mono ?_
    rintro e w3 ⟨rfl, n3⟩
    have N3 := Lib.hid (HN.out.tr n3)
    have B3 := Lib.hid (HB2.out.nx n3)
    have I3 := Lib.hid (HI.out.nx n3)
    have i1 : w3.cell? ⟨w.heap.size + 1, 1, none⟩ = some (.slice Ap ps.length cp) := I3.out.cell 1
    have hlt3 := I3.out.lt
    have HNM := Lib.hid (Named.made w3)
    have HM3 := Lib.hid ((Ch.refl (fun _ => False) w3).alloc (.map #[] 0))
    clear n3 HN HB HB2 HI HQ
    go_wp2_with fail
    go_loopw [22] (fun s22 wr => ∃ (k n : Nat), k ≤ ps.length ∧ n ≤ k * 60 ∧ s22 = .int .i64 (k : Int) ∧ Hid (Nx w3 wr) ∧ Hid (Named wr w3.heap.size n (namedF ms (ps.take k)))) (fun s22 _ => ps.length - (intOf s22).toNat)
    case atStart => exact ⟨0, 0, Nat.zero_le _, Nat.zero_le _, rfl, HM3, HNM⟩
    case round =>
      obtain ⟨w4, rfl⟩ : ∃ w4 : World, w4 = wr := ⟨_, rfl⟩
      obtain ⟨k, n, hkn, hn, rfl, H4, HD4⟩ := hrel
      by_cases hlt : k < ps.length
      · obtain ⟨ad, rfl, hb, p0, p1⟩ := post_at (HP.out.nx (by decide) (N3.out.tr H4.out)) hlt
        have HX := Lib.hid (HK.out _ (List.getElem_mem hlt))
        have HT := Lib.hid (show namedF ms (ps.take (k + 1)) = namedF ms (ps.take k) ++ (if hitF ms ps[k] then ps[k].gs else []) by rw [List.take_succ_eq_append_getElem hlt, named_snoc])
        generalize ps[k] = x at *
        obtain ⟨text, gs, A1, c1⟩ := x
        simp only at p0 p1 HT
        have HG := Lib.hid (HX.out.rd)
        have htx := HX.out.tx
        have hgn := HX.out.gn
        have HGI := Lib.hid HX.out.gi
        simp only at htx hgn HG HGI
        have H5 := Lib.hid (H4.out.alloc (.cells #[.string text, .slice A1 gs.length c1] 40))
        have BX := Lib.hid (Blk.new w4 40 #[.string text, .slice A1 gs.length c1])
        have HPA := Lib.hid (parse_any (w := w4.alloc (.cells #[.string text, .slice A1 gs.length c1] 40)) text (by omega) m (HM.out _ (N3.out.tr H5.out)))
        clear hb HX
        go_wp2_with fail
        clear p0 p1
        refine HPA.out.mono ?_
        rintro e w6 he
        rcases he.cases with ⟨l, A6, c6, hpf, rfl, o6, hs6, hl6⟩ | ⟨hpf, rfl, n6⟩
        · have O6 := Lib.hid o6
          have H6 := Lib.hid (H5.out.tr o6.nx)
          have HD6 := Lib.hid ((HD4.out.nx ((Ch.refl (fun _ => False) w4).alloc _)).nx o6.nx)
          have b6 := B3.out.nx H6.out
          have q2 : w6.cell? ⟨w.heap.size, 2, none⟩ = some (.slice B ms.length d) := b6.cell 2
          have bx6 := BX.out.nx o6.nx
          have x1 : w6.cell? ⟨w4.heap.size, 1, none⟩ = some (.slice A1 gs.length c1) := bx6.cell 1
          have HME := Lib.hid (meets_any (c := c6) (d := d) (w := w6) O6.out.rd rfl (by omega) hs6 ((HQI.out.nx (N3.out.tr H6.out)).rd) rfl (by show ms.length ≤ _; omega) (HQI.out.nx (N3.out.tr H6.out)).sm)
          have HHIT := Lib.hid (show hitF ms ⟨text, gs, A1, c1⟩ = meetsF l ms by unfold hitF; simp only; rw [hpf])
          have BX6 := Lib.hid bx6
          clear he hpf o6 hs6 b6 bx6
          simp only at HME
          cases hme : meetsF l ms
          · rw [hme] at HME HHIT
            have HT2 := Lib.hid (show namedF ms (ps.take (k + 1)) = namedF ms (ps.take k) by rw [HT.out, HHIT.out]; simp)
            clear hme HHIT HT
            go_wp2_with fail
            with_reducible refine HME.out.mono ?_
            rintro e w7 ⟨rfl, n7⟩
            have H7 := Lib.hid (H6.out.tr n7)
            have HD7 := Lib.hid (HD6.out.nx n7)
            clear n7
            go_wp2_with fail
            go_roundw
            case rel => exact ⟨k + 1, n, by omega, by omega, by go_num, H7, by rw [HT2.out]; exact HD7⟩
            case measure => simp [intOf]; omega
          · rw [hme] at HME HHIT
            have HT2 := Lib.hid (show namedF ms (ps.take (k + 1)) = namedF ms (ps.take k) ++ gs by rw [HT.out, HHIT.out]; simp)
            clear hme HHIT HT
            go_wp2_with fail
            with_reducible refine HME.out.mono ?_
            rintro e w7 ⟨rfl, n7⟩
            have H7 := Lib.hid (H6.out.tr n7)
            have HD7 := Lib.hid (HD6.out.nx n7)
            have x7 : w7.cell? ⟨w4.heap.size, 1, none⟩ = some (.slice A1 gs.length c1) := (BX6.out.nx n7).cell 1
            clear n7 q2 x1
            go_wp2_with fail
            go_loopw [43] (fun s43 wr => ∃ (j : Nat), j ≤ gs.length ∧ s43 = .int .i64 (j : Int) ∧ Hid (Nx w3 wr) ∧ Hid (Named wr w3.heap.size (n + j) (namedF ms (ps.take k) ++ gs.take j))) (fun s43 _ => gs.length - (intOf s43).toNat)
            case atStart => exact ⟨0, Nat.zero_le _, rfl, H7, Lib.hid (by rw [List.take_zero, List.append_nil]; exact HD7.out)⟩
            case round =>
              obtain ⟨w8, rfl⟩ : ∃ w8 : World, w8 = wr := ⟨_, rfl⟩
              obtain ⟨j, hj, rfl, H8, HD8⟩ := hrel
              by_cases hjl : j < gs.length
              · obtain ⟨ag, rfl, hbg, g0⟩ := int_at (HG.out.nx (by decide) (N3.out.tr H8.out)) hjl
                have HTJ := Lib.hid (List.take_succ_eq_append_getElem hjl)
                have hi64 := HGI.out _ (List.getElem_mem hjl)
                generalize gs[j] = g at *
                have Hi64 := Lib.hid hi64
                clear hbg hi64
                go_wp2_with (at_mapUpdate; refine wpList_named_put rfl _ _ _ rfl rfl rfl rfl HD8.out (by unfold maxLen; omega) Hi64.out ?_; intro w9 hd9 hc9)
                have H9 := Lib.hid (H8.out.trans hc9 (fun i hi hs => by have h' : i = w3.heap.size := hs; omega))
                have HD9 := Lib.hid hd9
                clear hd9 hc9
                go_roundw
                case rel => exact ⟨j + 1, by omega, by go_num, H9, by rw [HTJ.out, ← List.append_assoc]; exact HD9⟩
                case measure => simp [intOf]; omega
              · have HTJ := Lib.hid (show gs.take j = gs from List.take_of_length_le (by omega))
                go_wp2_with fail
                go_roundw
                case rel => exact ⟨k + 1, n + j, by omega, by omega, by go_num, H8, by rw [HT2.out]; rw [HTJ.out] at HD8; exact HD8⟩
                case measure => simp [intOf]; omega
        · have HT2 := Lib.hid (show namedF ms (ps.take (k + 1)) = namedF ms (ps.take k) by
            rw [HT.out, show hitF ms ⟨text, gs, A1, c1⟩ = false from by unfold hitF; simp only; rw [hpf]]
            simp)
          have H6 := Lib.hid (H5.out.tr n6)
          have HD6 := Lib.hid ((HD4.out.nx ((Ch.refl (fun _ => False) w4).alloc _)).nx n6)
          clear he hpf n6 HT
          go_wp2_with fail
          go_roundw
          case rel => exact ⟨k + 1, n, by omega, by omega, by go_num, H6, by rw [HT2.out]; exact HD6⟩
          case measure => simp [intOf]; omega
      · have HTK := Lib.hid (show ps.take k = ps from List.take_of_length_le (by omega))
        have HN4 : Hid (Named w4 w3.heap.size n (namedF ms ps)) := Lib.hid (by have h := HD4.out; rw [HTK.out] at h; exact h)
        have HFN := Lib.hid (show groupsF ⟨lo, hi, ms, limit, texts⟩ ss ps = grpF ⟨lo, hi, ms, limit, texts⟩ (namedF ms ps) ss ss.length by rw [HFIN.out]; rfl)
        have HW4 := Lib.hid (N3.out.tr H4.out)
        have B4 := Lib.hid (B3.out.nx H4.out)
        have i0' : w4.cell? ⟨w.heap.size + 1, 0, none⟩ = some (.slice As ss.length cs) := (I3.out.nx H4.out).cell 0
        have HIN := Lib.hid (fun (j : Nat) (hj : j < ss.length) h1 h2 => grp_in (q := ⟨lo, hi, ms, limit, texts⟩) (N := namedF ms ps) (ss := ss) hj h1 h2)
        have HOUT := Lib.hid (fun (j : Nat) (hj : j < ss.length) h => grp_out (q := ⟨lo, hi, ms, limit, texts⟩) (N := namedF ms ps) (ss := ss) hj h)
        have HGL := Lib.hid (fun j => grp_len ⟨lo, hi, ms, limit, texts⟩ (namedF ms ps) ss j)
        have HG0 := Lib.hid (grp_zero ⟨lo, hi, ms, limit, texts⟩ (namedF ms ps) ss)
        clear HFIN HTK HD4
        generalize namedF ms ps = N at *
        generalize hgf : grpF ⟨lo, hi, ms, limit, texts⟩ N ss = G at *
        clear hgf
        go_wp2_with fail
        go_loopw [12, 54] (fun s12 s54 wr => ∃ j : Nat, j ≤ ss.length ∧ s54 = .int .i64 (j : Int) ∧ Hid (OwnS w4 wr 3 1 s12 (G j).length (ints (G j)))) (fun _ s54 _ => ss.length - (intOf s54).toNat)
        case atStart => exact ⟨0, Nat.zero_le _, rfl, Lib.hid (by rw [HG0.out]; exact OwnS.nil w4 w4 _ 1 (Ch.refl _ _))⟩
        case round =>
          obtain ⟨w5, rfl⟩ : ∃ w5 : World, w5 = wr := ⟨_, rfl⟩
          obtain ⟨j, hj, rfl, Ho⟩ := hrel
          obtain ⟨A7, c7, hu7, hc7, hm7⟩ := Ho.out.form
          subst hu7
          have hgl := HGL.out j
          by_cases hjl : j < ss.length
          · obtain ⟨ad, rfl, hbd, p0, p1, p2, p3, p4⟩ := span_at (HS.out.nx (by decide) (HW4.out.tr Ho.out.nx)) hjl
            have hsp := HSP.out ss[j]
            have HI1 := Lib.hid (HIN.out j hjl)
            have HO1 := Lib.hid (HOUT.out j hjl)
            have b5 := B4.out.nx Ho.out.nx
            have q0 : w5.cell? ⟨w.heap.size, 0, none⟩ = some (.int .i64 lo) := b5.cell 0
            have q1 : w5.cell? ⟨w.heap.size, 1, none⟩ = some (.int .i64 hi) := b5.cell 1
            have hbl := b5.lt
            generalize ss[j] = s at *
            obtain ⟨place, size, rows, lo', hi'⟩ := s
            simp only at p0 p1 p2 p3 p4 hsp
            have hrun := ((HN4.out.nx Ho.out.nx).nx ((Ch.refl (fun _ => False) w5).alloc (.cells #[.int .i64 place, .int .i64 size, .int .i64 rows, .int .i64 lo', .int .i64 hi'] 36))).look (i := (j : Int)) ⟨by omega, by omega⟩
            have HA := Lib.hid (Ho.out.alloc (.cells #[.int .i64 place, .int .i64 size, .int .i64 rows, .int .i64 lo', .int .i64 hi'] 36))
            clear b5 hbd
            cases hc : N.contains (j : Int)
            · rw [hc] at hrun
              have HE := Lib.hid (HO1.out (.inl hc))
              clear hc hsp
              go_wp2_with fail
              go_roundw
              case rel => exact ⟨j + 1, by omega, by go_num, by rw [HE.out]; exact HA⟩
              case measure => simp [intOf]; omega
            · rw [hc] at hrun
              have HC := Lib.hid hc
              clear hc
              by_cases g1 : lo' < hi
              · by_cases g2 : lo ≤ hi'
                · have HE := Lib.hid (HI1.out HC.out (by rw [hsp]; exact decide_eq_true ⟨g1, g2⟩))
                  clear hsp
                  go_wp2_with (at_builtin; refine wpList_app1 rfl (.tmp 76) (.tmp 78) _ rfl 3 i0 _ 8 Try.underlying38 hi0 hz0 hz1 hz2 rfl (.int .i64 (j : Int)) rfl rfl HA.out (congrArg (fun k => Value.slice (some ⟨k, 0, none⟩) 1 1) (World.size_alloc _ _).symm) (by simp only [maxLen]; omega) (by omega) ?_; intro v9 w9 o9 m9)
                  have O9 := Lib.hid (show OwnS w4 w9 3 1 v9 (G j ++ [(j : Int)]).length (ints (G j ++ [(j : Int)])) by
                    rw [List.length_append, List.length_singleton]
                    unfold ints
                    rw [List.map_append]
                    exact o9)
                  clear o9 m9
                  go_roundw
                  case rel => exact ⟨j + 1, by omega, by go_num, by rw [HE.out]; exact O9⟩
                  case measure => simp [intOf]; omega
                · have HE := Lib.hid (HO1.out (.inr (by rw [hsp]; exact decide_eq_false (fun h => g2 h.2))))
                  clear hsp
                  go_wp2_with fail
                  go_roundw
                  case rel => exact ⟨j + 1, by omega, by go_num, by rw [HE.out]; exact HA⟩
                  case measure => simp [intOf]; omega
              · have HE := Lib.hid (HO1.out (.inr (by rw [hsp]; exact decide_eq_false (fun h => g1 h.1))))
                clear hsp
                go_wp2_with fail
                go_roundw
                case rel => exact ⟨j + 1, by omega, by go_num, by rw [HE.out]; exact HA⟩
                case measure => simp [intOf]; omega
          · have hjj : j = ss.length := by omega
            have HJJ := Lib.hid hjj
            clear hjj
            go_wp2_with fail
            go_ret
            refine ⟨_, rfl, ?_⟩
            rw [HFN.out, ← HJJ.out]
            exact Ho.out.weak HW4.out
end
end Go.Proofs.Ytbgeddlakcaikaa
