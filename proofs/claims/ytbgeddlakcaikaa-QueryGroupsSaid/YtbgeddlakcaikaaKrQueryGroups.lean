/- QueryGroups: of any index the groups that are to be read are the document's, and of any entry it is told whether it is wanted, as the document says. Conditions: none. -/
import Derived.Test.YtbgeddlakcaikaaKrGrF
import Derived.Test.YtbgeddlakcaikaaKrQyV
import Derived.Deep.RegionHeld3
import Derived.StillTailTactics
namespace Go.Proofs.Ytbgeddlakcaikaa.QueryGroups
set_option maxRecDepth 100000
open Go.RowKit Go.Proofs.Ytbgeddlakcaikaa
set_option linter.unusedVariables false
set_option maxHeartbeats 16000000 in
theorem walk (q : QryE) (B : Option Addr) (d : Nat) (As Ap : Option Addr) (cs cp : Nat) (ss : List SpanE) (ps : List PV) (x : EntE) (W : World) (hq : QIs W q B d)
    (hs : Rd W (fun k => k < W.heap.size) 5 As ss.length (spl ss)) (hp : Rd W (fun k => k < W.heap.size) 2 Ap ps.length (pvl ps)) (hk : ∀ x ∈ ps, x.ok0 W) (hm0 : ∃ m, W.cell? ⟨0, 0, none⟩ = some (.int .i64 m))
    (hn1 : ss.length ≤ 9223372036854775807) (hn2 : ps.length ≤ 9223372036854775807) (hn3 : x.part.size ≤ 9223372036854775807) (hn4 : q.ms.length ≤ 9223372036854775807) :
    Calls Try.prog 3 #[qryV q B d, .slice As ss.length cs, .slice Ap ps.length cp, entV x] W fun e w' => e = .returned (.bool true) ∧ Nx W w' := by
  obtain ⟨i0, hi0, hz0, hz1, hz2⟩ := info_parts Try.infoSpan11
  obtain ⟨j0, hj0, hy0, hy1, hy2⟩ := info_parts Try.infoPost11
  obtain ⟨m, hm⟩ := hm0
  have HS := Lib.hid hs
  have HP := Lib.hid hp
  have HK0 := Lib.hid hk
  have HM := Lib.hid (fun (w' : World) (c' : Nx W w') => show w'.cell? ⟨0, 0, none⟩ = some (.int .i64 m) from (c'.cell (p := ⟨0, 0, none⟩) (World.block_lt_of_cell? W ⟨0, 0, none⟩ hm)).trans hm)
  have HG1 := Lib.hid (fun w' (c' : Nx W w') (h1 : ss.length ≤ 40) (h2 : ps.length ≤ 40) (h3 : ∀ x ∈ ps, x.text.size ≤ 600 ∧ x.gs.length ≤ 60) => qgroups_any (cs := cs) (cp := cp) (hq.nx c') (hs.nx (by decide) c') (hp.nx (by decide) c')
    (fun x hx => ⟨(hk x hx).1.nx (by decide) c', (h3 x hx).1, (h3 x hx).2, (hk x hx).2.1⟩) h1 h2 m (HM.out w' c'))
  have HG2 := Lib.hid (fun w' (c' : Nx W w') (h1 : ss.length ≤ 40) (h2 : ps.length ≤ 40) (h3 : ∀ x ∈ ps, x.text.size ≤ 600 ∧ x.gs.length ≤ 60) (A1 A2 : Option Addr) (c1 c2 : Nat) (D1 D2 : Nat → Prop) (r1 : Rd w' D1 5 A1 ss.length (spl ss)) (r2 : Rd w' D2 2 A2 ps.length (pvl ps)) =>
    rgroups_any (D := fun _ => True) (cs := c1) (cp := c2) (hq.nx c') (r1.more fun _ _ => trivial) (r2.more fun _ _ => trivial) (fun x hx => ⟨((hk x hx).1.nx (by decide) c').more fun _ _ => trivial, (h3 x hx).1, (h3 x hx).2, (hk x hx).2.1⟩) h1 h2)
  have HW1 := Lib.hid (fun w' (c' : Nx W w') (h : x.part.size ≤ 600) => qwants_any (hq.nx c') x h m (HM.out w' c'))
  have HW2 := Lib.hid (fun w' (c' : Nx W w') (h : x.part.size ≤ 600) => rwants_any (hq.nx c') x h)
  have HGL := Lib.hid (groups_len q ss ps)
  generalize groupsF q ss ps = G at *
  generalize hwf : wantsF q x.part x.lo x.hi = bw at *
  obtain ⟨lo, hi, ms, limit, texts⟩ := q
  obtain ⟨key, window, part, elo, ehi, rows, size, sum, born⟩ := x
  clear hq hs hp hk hm hwf
  unfold qryV entV at *
  simp only at *
  have HB := Lib.hid ((Blk.new W 24 #[.int .i64 lo, .int .i64 hi, .slice B ms.length d, .int .i64 limit, .bool texts]).alloc (.cells #[.string key, .int .i64 window, .string part, .int .i64 elo, .int .i64 ehi, .int .i64 rows, .int .i64 size, .int .u32 (sum : Int), .int .i64 born] 29))
  have HN := Lib.hid (((Ch.refl (fun _ => False) W).alloc (.cells #[.int .i64 lo, .int .i64 hi, .slice B ms.length d, .int .i64 limit, .bool texts] 24)).alloc (.cells #[.string key, .int .i64 window, .string part, .int .i64 elo, .int .i64 ehi, .int .i64 rows, .int .i64 size, .int .u32 (sum : Int), .int .i64 born] 29))
  have HE := Lib.hid (Blk.new (W.alloc (.cells #[.int .i64 lo, .int .i64 hi, .slice B ms.length d, .int .i64 limit, .bool texts] 24)) 29 #[.string key, .int .i64 window, .string part, .int .i64 elo, .int .i64 ehi, .int .i64 rows, .int .i64 size, .int .u32 (sum : Int), .int .i64 born])
  simp only [World.size_alloc] at HE
  go_enter Try.func3, Try.ntmps3
  go_wp2_with fail
  refine (lives_any _).mono ?_
  rintro e w1 ⟨rfl, n1⟩
  have N1 := Lib.hid (HN.out.tr n1)
  have B1 := Lib.hid (HB.out.nx n1)
  have E1 := Lib.hid (HE.out.nx n1)
  have q2 : w1.cell? ⟨W.heap.size, 2, none⟩ = some (.slice B ms.length d) := B1.out.cell 2
  have e2 : w1.cell? ⟨W.heap.size + 1, 2, none⟩ = some (.string part) := E1.out.cell 2
  have hlt1 := E1.out.lt
  clear n1 HB HN HE
  by_cases g1 : ms.length ≤ 20
  · by_cases g2 : ss.length ≤ 40
    · by_cases g3 : ps.length ≤ 40
      · by_cases g4 : part.size ≤ 600
        · go_wp2_with fail
          clear q2 e2
          have HI := Lib.hid (IdxI.init w1)
          go_loopw [41] (fun s41 wr => ∃ (k : Nat) (v : Value), k ≤ ss.length ∧ s41 = .int .i64 (k : Int) ∧ Hid (IdxI w1 wr v (.slice none 0 0) (ss.take k) [])) (fun s41 _ => ss.length - (intOf s41).toNat)
          case atStart => exact ⟨0, _, Nat.zero_le _, rfl, HI⟩
          case round =>
            obtain ⟨w2, rfl⟩ : ∃ w2 : World, w2 = wr := ⟨_, rfl⟩
            obtain ⟨k, v, hkn, rfl, H2⟩ := hrel
            by_cases hlt : k < ss.length
            · obtain ⟨ad, rfl, hb, p0, p1, p2, p3, p4⟩ := span_at (HS.out.nx (by decide) (N1.out.tr H2.out.own1.nx)) hlt
              have HT := Lib.hid (List.take_succ_eq_append_getElem hlt)
              generalize ss[k] = s at *
              obtain ⟨place, ssize, srows, lo', hi'⟩ := s
              simp only at p0 p1 p2 p3 p4
              obtain ⟨A7, c7, hu7, hc7, hm7⟩ := H2.out.own1.form
              have hx0 : w2.cell? ⟨w1.heap.size, 0, none⟩ = some v := H2.out.blk.cell 0
              have hxl := H2.out.blk.lt
              have hlk : (ss.take k).length = k := by rw [List.length_take]; omega
              rw [hlk] at hu7
              subst hu7
              have H3 := Lib.hid (H2.out.tr ((Ch.refl (fun _ => False) w2).alloc (.cells #[.int .i64 place, .int .i64 ssize, .int .i64 srows, .int .i64 lo', .int .i64 hi'] 36)))
              have HL := Lib.hid (Rd.lit5 (w2.alloc (.cells #[.int .i64 place, .int .i64 ssize, .int .i64 srows, .int .i64 lo', .int .i64 hi'] 36)) ⟨place, ssize, srows, lo', hi'⟩)
              have HSZ := Lib.hid H2.out.own1.nx.size
              have HO := Lib.hid (by have h := H3.out.own1; rw [hlk] at h; exact h)
              have HPU := Lib.hid (fun w7 v' o mv => H3.out.push1 (w7 := w7) (v' := v') (x := ⟨place, ssize, srows, lo', hi'⟩) o mv)
              rw [hlk] at HPU
              simp only [World.size_alloc] at HL
              clear hlk
              clear hb
              go_wp2_with (at_builtin; refine wpList_append_any _ rfl (.tmp 46) (.tmp 58) _ rfl w1.heap.size 37 i0 _ 5 40 Try.underlying31 hi0 hz0 hz1 hz2 rfl (by omega) (.slice A7 k c7) k (spl (ss.take k)) rfl (HO.out.alloc _).own _ (some ⟨w2.heap.size + 1, 0, none⟩) 1 1 _ rfl HL.out (spl_one _) (by simp only [maxLen]; omega) (by omega) (by have := HSZ.out; simp; omega) ?_; intro v7 w7 own7 gr7 at7; obtain ⟨o7, m7⟩ := step_own HO.out ((Ch.refl _ _).alloc _) own7 gr7 at7; obtain ⟨A8, c8, hu8, -, -⟩ := o7.form; subst hu8; have b7 := H3.out.mid1 m7; have r0 : w7.cell? ⟨w1.heap.size, 0, none⟩ = some (.slice A7 k c7) := b7.cell 0; have r1 : w7.frozen? ⟨w1.heap.size, 0, none⟩ = false := b7.frozen 0; have H7 := Lib.hid (HPU.out _ _ o7 m7); clear own7 gr7 at7 o7 m7 b7 hx0)
              go_roundw
              case rel => exact ⟨k + 1, _, by omega, by go_num, by rw [HT.out]; exact H7⟩
              case measure => simp [intOf]; omega
            · have HIX : Hid (IdxI w1 w2 v (.slice none 0 0) ss []) := Lib.hid (by have h := H2.out; rw [List.take_of_length_le (by omega)] at h; exact h)
              clear H2
              go_wp2_with fail
              go_loopw [64] (fun s64 wr => ∃ (k : Nat) (u : Value), k ≤ ps.length ∧ s64 = .int .i64 (k : Int) ∧ Hid (IdxI w1 wr v u ss (ps.take k)) ∧ Hid (∀ x ∈ ps.take k, x.text.size ≤ 600 ∧ x.gs.length ≤ 60)) (fun s64 _ => ps.length - (intOf s64).toNat)
              case atStart => exact ⟨0, _, Nat.zero_le _, rfl, HIX, Lib.hid (by intro x hx; cases hx)⟩
              case round =>
                obtain ⟨w5, rfl⟩ : ∃ w5 : World, w5 = wr := ⟨_, rfl⟩
                obtain ⟨k, u, hkn, rfl, H5, HAL⟩ := hrel
                by_cases hlt : k < ps.length
                · obtain ⟨ad, rfl, hb, p0, p1⟩ := post_at (HP.out.nx (by decide) (N1.out.tr H5.out.own1.nx)) hlt
                  have HT := Lib.hid (List.take_succ_eq_append_getElem hlt)
                  have hok := HK0.out _ (List.getElem_mem hlt)
                  generalize ps[k] = x at *
                  obtain ⟨text, gs, Ag, cg⟩ := x
                  simp only at p0 p1
                  have hgl : gs.length ≤ 9223372036854775807 := by have h1 := hok.2.2.1; have h2 := hok.2.2.2.1; unfold maxLen at h2; simp only at h1 h2; omega
                  have htl : text.size ≤ 9223372036854775807 := hok.2.2.2.2
                  have hlk : (ps.take k).length = k := by rw [List.length_take]; omega
                  obtain ⟨A7, c7, hu7, hc7, hm7⟩ := H5.out.own2.form
                  rw [hlk] at hu7
                  have hx1 : w5.cell? ⟨w1.heap.size, 1, none⟩ = some u := H5.out.blk.cell 1
                  have hxl := H5.out.blk.lt
                  subst hu7
                  have H6 := Lib.hid (H5.out.tr ((Ch.refl (fun _ => False) w5).alloc (.cells #[.string text, .slice Ag gs.length cg] 40)))
                  have HL := Lib.hid (Rd.lit2p (w5.alloc (.cells #[.string text, .slice Ag gs.length cg] 40)) ⟨text, gs, Ag, cg⟩)
                  have HSZ := Lib.hid H5.out.own1.nx.size
                  have HO := Lib.hid (by have h := H6.out.own2; rw [hlk] at h; exact h)
                  have HPU := Lib.hid (fun w7 v' o mv => H6.out.push2 (w7 := w7) (v' := v') (x := ⟨text, gs, Ag, cg⟩) o mv)
                  rw [hlk] at HPU
                  simp only [World.size_alloc] at HL
                  clear hlk hb hok
                  by_cases t1 : gs.length ≤ 60
                  · by_cases t2 : text.size ≤ 600
                    · have HAL2 := Lib.hid (show ∀ x ∈ ps.take (k + 1), x.text.size ≤ 600 ∧ x.gs.length ≤ 60 by
                        intro y hy
                        rw [HT.out, List.mem_append, List.mem_singleton] at hy
                        rcases hy with hy | rfl
                        · exact HAL.out y hy
                        · exact ⟨t2, t1⟩)
                      go_wp2_with (at_builtin; refine wpList_append_any _ rfl (.tmp 79) (.tmp 85) _ rfl w1.heap.size 41 j0 _ 2 40 Try.underlying32 hj0 hy0 hy1 hy2 rfl (by omega) (.slice A7 k c7) k (pvl (ps.take k)) rfl (HO.out.alloc _).own _ (some ⟨w5.heap.size + 1, 0, none⟩) 1 1 _ rfl HL.out (pvl_one _) (by simp only [maxLen]; omega) (by omega) (by have := HSZ.out; simp; omega) ?_; intro v7 w7 own7 gr7 at7; obtain ⟨o7, m7⟩ := step_own HO.out ((Ch.refl _ _).alloc _) own7 gr7 at7; obtain ⟨A8, c8, hu8, -, -⟩ := o7.form; subst hu8; have b7 := H6.out.mid2 m7; have r0 : w7.cell? ⟨w1.heap.size, 1, none⟩ = some (.slice A7 k c7) := b7.cell 1; have r1 : w7.frozen? ⟨w1.heap.size, 1, none⟩ = false := b7.frozen 1; have H7 := Lib.hid (HPU.out _ _ o7 m7); clear own7 gr7 at7 o7 m7 b7 hx1)
                      go_roundw
                      case rel => exact ⟨k + 1, _, by omega, by go_num, by rw [HT.out]; exact H7, HAL2⟩
                      case measure => simp [intOf]; omega
                    · go_wp2_with fail
                      go_ret
                      exact ⟨rfl, N1.out.tr H6.out.own1.nx⟩
                  · go_wp2_with fail
                    go_ret
                    exact ⟨rfl, N1.out.tr H6.out.own1.nx⟩
                · have HALL : Hid (∀ x ∈ ps, x.text.size ≤ 600 ∧ x.gs.length ≤ 60) := Lib.hid (by have h := HAL.out; rw [List.take_of_length_le (by omega)] at h; exact h)
                  have H8 : Hid (IdxI w1 w5 v u ss ps) := Lib.hid (by have h := H5.out; rw [List.take_of_length_le (by omega)] at h; exact h)
                  obtain ⟨A1, c1, hv1, -, -⟩ := H8.out.own1.form
                  obtain ⟨A2, c2, hv2, -, -⟩ := H8.out.own2.form
                  subst hv1
                  subst hv2
                  have R1 := Lib.hid H8.out.own1.rd
                  have R2 := Lib.hid H8.out.own2.rd
                  have N5 := Lib.hid (N1.out.tr H8.out.own1.nx)
                  have M5 := Lib.hid (Ch.refl (fun _ => False) w5)
                  have HKEEP := Lib.hid (fun (w' : World) (c' : Nx w5 w') => show w'.cell? ⟨W.heap.size, 0, none⟩ = some (.int .i64 lo) ∧ w'.cell? ⟨W.heap.size, 1, none⟩ = some (.int .i64 hi) ∧ w'.cell? ⟨W.heap.size, 2, none⟩ = some (.slice B ms.length d) ∧ w'.cell? ⟨W.heap.size, 3, none⟩ = some (.int .i64 limit) ∧ w'.cell? ⟨W.heap.size, 4, none⟩ = some (.bool texts) ∧ w'.cell? ⟨w1.heap.size, 0, none⟩ = some (.slice A1 ss.length c1) ∧ w'.cell? ⟨w1.heap.size, 1, none⟩ = some (.slice A2 ps.length c2) ∧ w'.cell? ⟨W.heap.size + 1, 0, none⟩ = some (.string key) ∧ w'.cell? ⟨W.heap.size + 1, 1, none⟩ = some (.int .i64 window) ∧ w'.cell? ⟨W.heap.size + 1, 2, none⟩ = some (.string part) ∧ w'.cell? ⟨W.heap.size + 1, 3, none⟩ = some (.int .i64 elo) ∧ w'.cell? ⟨W.heap.size + 1, 4, none⟩ = some (.int .i64 ehi) ∧ w'.cell? ⟨W.heap.size + 1, 5, none⟩ = some (.int .i64 rows) ∧ w'.cell? ⟨W.heap.size + 1, 6, none⟩ = some (.int .i64 size) ∧ w'.cell? ⟨W.heap.size + 1, 7, none⟩ = some (.int .u32 (sum : Int)) ∧ w'.cell? ⟨W.heap.size + 1, 8, none⟩ = some (.int .i64 born) from
                    ⟨((B1.out.nx H8.out.own1.nx).nx c').cell 0, ((B1.out.nx H8.out.own1.nx).nx c').cell 1, ((B1.out.nx H8.out.own1.nx).nx c').cell 2, ((B1.out.nx H8.out.own1.nx).nx c').cell 3, ((B1.out.nx H8.out.own1.nx).nx c').cell 4, (H8.out.blk.nx c').cell 0, (H8.out.blk.nx c').cell 1, ((E1.out.nx H8.out.own1.nx).nx c').cell 0, ((E1.out.nx H8.out.own1.nx).nx c').cell 1, ((E1.out.nx H8.out.own1.nx).nx c').cell 2, ((E1.out.nx H8.out.own1.nx).nx c').cell 3, ((E1.out.nx H8.out.own1.nx).nx c').cell 4, ((E1.out.nx H8.out.own1.nx).nx c').cell 5, ((E1.out.nx H8.out.own1.nx).nx c').cell 6, ((E1.out.nx H8.out.own1.nx).nx c').cell 7, ((E1.out.nx H8.out.own1.nx).nx c').cell 8⟩)
                  clear HAL H5 HIX HK0
                  cases bw
                  all_goals
                    go_wp2_with fail
                    obtain ⟨q0, q1, q2, q3, q4, x0, x1, e0, e1, e2, e3, e4, e5, e6, e7, e8⟩ := HKEEP.out w5 M5.out
                    go_region_held3 (fun w' => w'.cell? ⟨W.heap.size, 0, none⟩ = some (.int .i64 lo) ∧ w'.cell? ⟨W.heap.size, 1, none⟩ = some (.int .i64 hi) ∧ w'.cell? ⟨W.heap.size, 2, none⟩ = some (.slice B ms.length d) ∧ w'.cell? ⟨W.heap.size, 3, none⟩ = some (.int .i64 limit) ∧ w'.cell? ⟨W.heap.size, 4, none⟩ = some (.bool texts) ∧ w'.cell? ⟨w1.heap.size, 0, none⟩ = some (.slice A1 ss.length c1) ∧ w'.cell? ⟨w1.heap.size, 1, none⟩ = some (.slice A2 ps.length c2) ∧ w'.cell? ⟨W.heap.size + 1, 0, none⟩ = some (.string key) ∧ w'.cell? ⟨W.heap.size + 1, 1, none⟩ = some (.int .i64 window) ∧ w'.cell? ⟨W.heap.size + 1, 2, none⟩ = some (.string part) ∧ w'.cell? ⟨W.heap.size + 1, 3, none⟩ = some (.int .i64 elo) ∧ w'.cell? ⟨W.heap.size + 1, 4, none⟩ = some (.int .i64 ehi) ∧ w'.cell? ⟨W.heap.size + 1, 5, none⟩ = some (.int .i64 rows) ∧ w'.cell? ⟨W.heap.size + 1, 6, none⟩ = some (.int .i64 size) ∧ w'.cell? ⟨W.heap.size + 1, 7, none⟩ = some (.int .u32 (sum : Int)) ∧ w'.cell? ⟨W.heap.size + 1, 8, none⟩ = some (.int .i64 born)) (first | (with_reducible exact ⟨q0, q1, q2, q3, q4, x0, x1, e0, e1, e2, e3, e4, e5, e6, e7, e8⟩) | go_keep) ((first
                      | (go_at_call 6; refine (HG1.out _ (N5.out.tr M5.out.drew) g2 g3 HALL.out).mono ?_; rintro e w6 ⟨va, rfl, oa⟩; obtain ⟨Aa, ca, rfl, hca, hca2⟩ := oa.form; have M6 := Lib.hid (M5.out.drew.tr oa.nx); have OA := Lib.hid oa; obtain ⟨q0, q1, q2, q3, q4, x0, x1, e0, e1, e2, e3, e4, e5, e6, e7, e8⟩ := HKEEP.out w6 M6.out; clear oa hca hca2)
                      | (go_at_call 7; refine (HG2.out w6 (N5.out.tr M6.out) g2 g3 HALL.out A1 A2 c1 c2 _ _ (R1.out.nx (by decide) M6.out) (R2.out.nx (by decide) M6.out)).mono ?_; rintro e w7 ⟨vb, rfl, ob⟩; obtain ⟨Ab, cb, rfl, hcb, hcb2⟩ := ob.form; have M7 := Lib.hid (M6.out.tr ob.nx); have OB := Lib.hid ob; have OA7 := Lib.hid (OA.out.tr ob.nx); obtain ⟨q0, q1, q2, q3, q4, x0, x1, e0, e1, e2, e3, e4, e5, e6, e7, e8⟩ := HKEEP.out w7 M7.out; clear ob hcb hcb2)
                      | (go_at_call 5; refine (sameints_any OA7.out.rd OB.out.rd (by have := HGL.out; omega) (by have := HGL.out; omega)).mono ?_; rintro e w8 ⟨b, rfl, hb, n8⟩; have M8 := Lib.hid (M7.out.tr n8); obtain rfl : b = true := hb rfl; obtain ⟨q0, q1, q2, q3, q4, x0, x1, e0, e1, e2, e3, e4, e5, e6, e7, e8⟩ := HKEEP.out w8 M8.out; clear n8 hb)
                      | (go_at_call 8; refine (HW1.out w8 (N5.out.tr M8.out) g4).mono ?_; rintro e w9 ⟨rfl, n9⟩; have M9 := Lib.hid (M8.out.tr n9); obtain ⟨q0, q1, q2, q3, q4, x0, x1, e0, e1, e2, e3, e4, e5, e6, e7, e8⟩ := HKEEP.out w9 M9.out; clear n9)
                      | (go_at_call 9; refine (HW2.out w9 (N5.out.tr M9.out) g4).mono ?_; rintro e w10 ⟨rfl, n10⟩; have M10 := Lib.hid (M9.out.tr n10); obtain ⟨q0, q1, q2, q3, q4, x0, x1, e0, e1, e2, e3, e4, e5, e6, e7, e8⟩ := HKEEP.out w10 M10.out; clear n10)))
                    go_wp2_with fail
                    go_ret
                    exact ⟨rfl, N5.out.tr M10.out⟩
        · go_wp2_with fail
          refine (lives_any _).mono ?_
          rintro e w2 ⟨rfl, n2⟩
          go_wp2_with fail
          go_ret
          exact ⟨rfl, N1.out.tr n2⟩
      · go_wp2_with fail
        refine (lives_any _).mono ?_
        rintro e w2 ⟨rfl, n2⟩
        go_wp2_with fail
        go_ret
        exact ⟨rfl, N1.out.tr n2⟩
    · go_wp2_with fail
      refine (lives_any _).mono ?_
      rintro e w2 ⟨rfl, n2⟩
      go_wp2_with fail
      go_ret
      exact ⟨rfl, N1.out.tr n2⟩
  · go_wp2_with fail
    refine (lives_any _).mono ?_
    rintro e w2 ⟨rfl, n2⟩
    go_wp2_with fail
    go_ret
    exact ⟨rfl, N1.out.tr n2⟩
theorem walks : WalksS 3 Try.f3 := by
  intro H enc W args ds ps hsh h
  rw [Try.params3] at h
  obtain ⟨q, B, d, vs, ds1, p1, rfl, hr, hs, hd, hd2, i0, i1, i2, h1⟩ := h.query
  obtain ⟨As, cs, ss, vs2, ds2, p2, e2, hr2, -, hc, hc2, h2⟩ := h1.spans
  obtain ⟨Ap, cp, pp, vs3, ds3, p3, e3, hr3, hk3, hd3, hd4, h3⟩ := h2.posts
  obtain ⟨x, vs4, ds4, p4, e4, hx, h4⟩ := h3.entry
  have e1 := h4.nil
  simp at e1 e2 e3 e4
  subst e1
  subst e4
  subst e3
  subst e2
  unfold maxLen at hc2 hd4 hd2
  exact walk q B d As Ap cs cp ss pp x W ⟨hr, hs, i0, i1, i2, hd, by unfold maxLen; omega⟩ hr2 hr3 hk3 (maxlen_cell hsh) (by omega) (by omega) hx (by omega)
/-- whatever the input, the law answers true -/
theorem proved : Rows.QueryGroupsSaid :=
  OpenClaim.holds_of_wide 3 Try.f3 rfl rfl rfl rfl rfl rfl rfl ⟨rfl, rfl, rfl, rfl, rfl⟩ rfl rfl rfl rfl rfl (by kernel_rfl) Try.func3 (by kernel_rfl)
    (of_decide_eq_true (by kernel_rfl)) (by unfold Func.isWrapper; first | (rw [if_pos (by decide +kernel)]; kernel_rfl) | (rw [if_neg (by decide +kernel)]; exact ⟨rfl, rfl⟩))
    (fun os started H enc _ => law_shaped (s := Rows.queryGroupsSpec) Try.func3 (by kernel_rfl) rfl rfl
      (by intro H ds h; rw [Try.params3] at h; match ds, h with | [d1, d2, d3, d4], _ => rfl)
      (by rw [Try.params3]; intro t ht; simp at ht; rcases ht with rfl | rfl | rfl | rfl <;> exact ⟨by kernel_rfl, of_decide_eq_true (by kernel_rfl)⟩) walks os started H enc
      (ChangeSpec.witness6 (enc := enc) (C := Try.checked) false ⟨#[], #[.agg #[.int .i64 0, .int .i64 0, .slice none 0 0, .int .i64 0, .bool false], .slice none 0 0, .slice none 0 0, .agg #[.string ⟨#[]⟩, .int .i64 0, .string ⟨#[]⟩, .int .i64 0, .int .i64 0, .int .i64 0, .int .i64 0, .int .u32 0, .int .i64 0]], []⟩ 8 (by kernel_rfl) (by kernel_rfl) (by kernel_rfl) (by kernel_rfl)))
end Go.Proofs.Ytbgeddlakcaikaa.QueryGroups
