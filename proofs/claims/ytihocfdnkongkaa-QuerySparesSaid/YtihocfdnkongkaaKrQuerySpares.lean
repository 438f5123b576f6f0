/- QuerySpares: of a part of rows that is not wanted no row is kept. Conditions: none. -/
import Derived.Test.YtihocfdnkongkaaKrSpE
import Derived.Test.YtihocfdnkongkaaKrSpL
import Derived.Test.YtihocfdnkongkaaKrQ10
import Derived.Test.YtihocfdnkongkaaKrLawS
import Derived.Shelf.Vars
import Derived.SliceStrings
import Derived.Deep.RegionHeld3
import Derived.StillTailTactics
namespace Go.Proofs.Ytihocfdnkongkaa.QuerySpares
set_option maxRecDepth 100000
open Go.RowKit Go.Proofs.Ytihocfdnkongkaa Ps
set_option linter.unusedVariables false
theorem grp_at {w : World} {D : Nat → Prop} {A : Option Addr} {n k : Nat} {l : List GV} (h : Rd w D 3 A n (gvl l)) (hk : k < l.length) : ∃ ad, A = some ad ∧ D ad.block ∧ w.cell? (ad.add (k * 3)) = some (.int .i64 l[k].g.win) ∧
    w.cell? ⟨(ad.add (k * 3)).block, (ad.add (k * 3)).off + 1, none⟩ = some (.string l[k].g.part) ∧ w.cell? ⟨(ad.add (k * 3)).block, (ad.add (k * 3)).off + 2, none⟩ = some (.slice l[k].A l[k].g.rows.length l[k].c) := by
  have hn : 0 < n := by have := h.1; rw [gvl_len] at this; omega
  obtain ⟨ad, rfl, hb, hc⟩ := h.2 hn
  have g := fun i (hi : i < 3) u (hu : (l[k].cs)[i]? = some u) => hc (k * 3 + i) u ((flat_get GV.cs_len hk hi).trans hu)
  exact ⟨ad, rfl, hb, g 0 (by decide) _ rfl, cell_next 0 (g 1 (by decide) _ rfl), cell_next 1 (g 2 (by decide) _ rfl)⟩
set_option maxHeartbeats 16000000 in
theorem walk (q : QryE) (B : Option Addr) (d : Nat) (A : Option Addr) (c : Nat) (l : List RV) (window : Int) (Bb : Option Addr) (db : Nat) (by_ : List ByteArray) (W : World) (hq : QIs W q B d) (h : Rd W (fun k => k < W.heap.size) 9 A l.length (rvl l))
    (hk : ∀ x ∈ l, x.ok W (fun k => k < W.heap.size) ∧ x.row.small) (hb : Rd W (fun k => k < W.heap.size) 1 Bb by_.length (stl by_)) (hm0 : ∃ m, W.cell? ⟨0, 0, none⟩ = some (.int .i64 m)) (hwi : i64 window)
    (hn : l.length ≤ 9223372036854775807) (hbn : by_.length ≤ 9223372036854775807) :
    Calls Try.prog 3 #[qryV q B d, .slice A l.length c, .int .i64 window, .slice Bb by_.length db] W fun e w' => e = .returned (.bool true) ∧ Nx W w' := by
  obtain ⟨m, hm⟩ := hm0
  have HRD := Lib.hid h
  have HOK := Lib.hid hk
  have HM := Lib.hid (fun (w' : World) (c' : Nx W w') => show w'.cell? ⟨0, 0, none⟩ = some (.int .i64 m) from (c'.cell (p := ⟨0, 0, none⟩) (World.block_lt_of_cell? W ⟨0, 0, none⟩ hm)).trans hm)
  have HF := Lib.hid (fun w' (c' : Nx W w') => few_any (c := c) (hq.nx c') (h.nx (by decide) c') rfl (fun x hx => (hk x hx).2) hn)
  have HKP := Lib.hid (fun w' (c' : Nx W w') (x : RV) (hx : x.ok w' (fun _ => True)) (hf : x.row.few) => keeps_q (hq.nx c') hx hf)
  have HWA := Lib.hid (fun w' (c' : Nx W w') (x : EntE) (hx : x.part.size ≤ 600) => qwants_any (hq.nx c') x hx m (HM.out w' c'))
  have HR9 := Lib.hid (fun w' (c' : Nx W w') x hx (hf : x.row.few) => right9_any (x := x) ((hk x hx).1.ch c' (D' := fun _ => True) (fun _ _ _ hf => hf) fun _ _ => trivial) hf)
  have HSP := Lib.hid (fun w' (c' : Nx W w') (h60 : l.length ≤ 60) (hfew : ∀ x ∈ l, x.row.few) (hy : ∀ x ∈ l, Yes9 x.row) (hw1 : 1 ≤ window) (hb20 : by_.length ≤ 20) => split_any (c := c) (d := db) (window := window) (by_ := by_) (h.nx (by decide) c') rfl (by omega)
    (fun x hx => ⟨(hk x hx).1.ch c' (fun _ _ _ hf => hf) fun _ hd => hd, hfew x hx⟩) (fun x hx => ⟨(hy x hx).1, (hy x hx).2.1, by have := (hy x hx).2.2; omega⟩) hw1 hwi.2 ((hb.nx (by decide) c').more fun k hk => Nat.lt_of_lt_of_le hk c'.size) (by omega))
  have Hwi := Lib.hid hwi
  have HQE : Hid (∀ x, keepsF q x = keepsF q x) := Lib.hid fun _ => rfl
  obtain ⟨lo, hi, ms, limit, texts⟩ := q
  clear h hk hq hb hm hwi
  have HB := Lib.hid (Blk.new W 24 #[.int .i64 lo, .int .i64 hi, .slice B ms.length d, .int .i64 limit, .bool texts])
  have HN := Lib.hid ((Ch.refl (fun _ => False) W).alloc (.cells #[.int .i64 lo, .int .i64 hi, .slice B ms.length d, .int .i64 limit, .bool texts] 24))
  have HKEEP := Lib.hid (fun w' (c' : Nx (W.alloc (.cells #[.int .i64 lo, .int .i64 hi, .slice B ms.length d, .int .i64 limit, .bool texts] 24)) w') => show w'.cell? ⟨W.heap.size, 0, none⟩ = some (.int .i64 lo) ∧ w'.cell? ⟨W.heap.size, 1, none⟩ = some (.int .i64 hi) ∧ w'.cell? ⟨W.heap.size, 2, none⟩ = some (.slice B ms.length d) ∧ w'.cell? ⟨W.heap.size, 3, none⟩ = some (.int .i64 limit) ∧ w'.cell? ⟨W.heap.size, 4, none⟩ = some (.bool texts) from ⟨(HB.out.nx c').cell 0, (HB.out.nx c').cell 1, (HB.out.nx c').cell 2, (HB.out.nx c').cell 3, (HB.out.nx c').cell 4⟩)
  unfold qryV at *
  simp only at *
  go_enter Try.func3, Try.ntmps3
  go_wp2_with fail
  refine (lives_any _).mono ?_
  rintro e w1 ⟨rfl, n1⟩
  have M1 := Lib.hid n1
  obtain ⟨q0, q1, q2, q3, q4⟩ := HKEEP.out w1 n1
  clear n1
  go_wp2_with fail
  refine (HF.out _ (HN.out.tr M1.out)).mono ?_
  rintro e w2 ⟨b, rfl, hb, n2⟩
  have M2 := Lib.hid (M1.out.tr n2)
  have HFB := Lib.hid hb
  clear n2 hb q0 q1 q2 q3 q4
  cases b
  · go_wp2_with fail
    refine (lives_any _).mono ?_
    rintro e w3 ⟨rfl, n3⟩
    go_wp2_with fail
    go_ret
    exact ⟨rfl, (HN.out.tr M2.out).tr n3⟩
  obtain ⟨h20, h60, h50⟩ := HFB.out rfl
  have HFW := Lib.hid (fun (x : RV) (hx : x ∈ l) => show x.row.few from ⟨(HOK.out x hx).2, by have := h50 x hx; omega⟩)
  have H60 := Lib.hid h60
  clear h50 HF HFB
  by_cases hw1 : 1 ≤ window
  · by_cases hb20 : by_.length ≤ 20
    · go_wp2_with fail
      go_loopw [36] (fun i wr => ∃ k : Nat, k ≤ l.length ∧ i = .int .i64 (k : Int) ∧ Hid (Nx (W.alloc (.cells #[.int .i64 lo, .int .i64 hi, .slice B ms.length d, .int .i64 limit, .bool texts] 24)) wr) ∧ Hid (∀ x ∈ l.take k, Yes9 x.row)) (fun i _ => l.length - (intOf i).toNat)
      case atStart => exact ⟨0, Nat.zero_le _, rfl, M2, Lib.hid (by intro x hx; cases hx)⟩
      case round =>
        obtain ⟨w4, rfl⟩ : ∃ w4 : World, w4 = wr := ⟨_, rfl⟩
        obtain ⟨k, hk, rfl, N4, HY⟩ := hrel
        by_cases hlt : k < l.length
        · obtain ⟨ad, rfl, -, p0, p1, p2, p3, p4, p5, p6, p7, p8⟩ := row_at (HRD.out.nx (by decide) (HN.out.tr N4.out)) hlt
          have HT := Lib.hid (List.take_succ_eq_append_getElem hlt)
          have HR := Lib.hid (fun w' (c' : Nx W w') => HR9.out w' c' _ (List.getElem_mem hlt) (HFW.out _ (List.getElem_mem hlt)))
          generalize l[k] = x at *
          obtain ⟨⟨kind, time, labs, text, value, null, maker, seq, place⟩, A1, c1⟩ := x
          have N5 := Lib.hid (N4.out.alloc (.cells #[.int .i64 kind, .int .i64 time, .slice A1 labs.length c1, .string text, .int .i64 value, .bool null, .int .i64 maker, .int .i64 seq, .int .i64 place] 33))
          simp only at p0 p1 p2 p3 p4 p5 p6 p7 p8 HR
          go_wp2_with fail
          clear p0 p1 p2 p3 p4 p5 p6 p7 p8
          refine (HR.out _ (HN.out.tr N5.out)).mono ?_
          rintro e w6 ⟨b, rfl, hy, n6⟩
          have N6 := Lib.hid (N5.out.tr n6)
          have HYB := Lib.hid hy
          clear n6 hy
          cases b
          · go_wp2_with fail
            go_ret
            exact ⟨rfl, HN.out.tr N6.out⟩
          · have HY2 := Lib.hid (show ∀ x ∈ l.take (k + 1), Yes9 x.row from by
              rw [HT.out]
              intro y hy
              rcases List.mem_append.1 hy with hy | hy
              · exact HY.out y hy
              · rw [List.mem_singleton] at hy
                subst hy
                exact HYB.out rfl)
            go_wp2_with fail
            go_roundw
            case rel => exact ⟨k + 1, by omega, by go_num, N6, HY2⟩
            case measure => simp [intOf]; omega
        · have HYA := Lib.hid (show ∀ x ∈ l, Yes9 x.row from by have h := HY.out; rw [List.take_of_length_le (by omega)] at h; exact h)
          have HS := Lib.hid (HSP.out w4 (HN.out.tr N4.out) H60.out HFW.out HYA.out hw1 hb20)
          clear HY
          go_wp2_with fail
          refine HS.out.mono ?_
          rintro e w5 ⟨A5, c5, gm, zs, rfl, hr5, hg5, hz5, hsp, hzm, n5, hml⟩
          have HG := Lib.hid hr5
          have HG5 := Lib.hid hg5
          have HZ5 := Lib.hid hz5
          have HSPI := Lib.hid hsp
          have hzl : zs.length ≤ 60 := by
            have h1 := congrArg List.length hzm
            have h2 := (sortF_perm keyLt (l.map fun x => x.row)).length_eq
            simp only [List.length_map] at h1 h2
            have := H60.out
            omega
          have HZP := Lib.hid (fun z (hz : z ∈ zs) => show ∃ x ∈ l, x.row = z.row from by
            have h1 : z.row ∈ zs.map fun x => x.row := List.mem_map_of_mem hz
            rw [hzm] at h1
            obtain ⟨x, hx, e⟩ := List.mem_map.1 ((sortF_perm keyLt _).mem_iff.1 h1)
            exact ⟨x, hx, e⟩)
          have HRISE := Lib.hid (show (zs.map fun x => x.row).Pairwise fun a b => keyLt b a = false from by rw [hzm]; exact sort_rise key_weak _)
          have N5 := Lib.hid (N4.out.tr n5)
          clear hr5 hg5 hz5 hsp hzm n5 HS
          go_wp2_with fail
          go_loopw [50] (fun i wr => ∃ k : Nat, k ≤ gm.length ∧ i = .int .i64 (k : Int) ∧ Hid (Nx w5 wr)) (fun i _ => gm.length - (intOf i).toNat)
          case atStart => exact ⟨0, Nat.zero_le _, rfl, Lib.hid (Ch.refl _ _)⟩
          case round =>
            obtain ⟨w6, rfl⟩ : ∃ w6 : World, w6 = wr := ⟨_, rfl⟩
            obtain ⟨k, hk, rfl, N6⟩ := hrel
            by_cases hlt : k < gm.length
            · obtain ⟨ad, rfl, -, p0, p1, p2⟩ := grp_at (HG.out.nx (by decide) N6.out) hlt
              have hgk := HG5.out _ (List.getElem_mem hlt)
              have HSPA := Lib.hid (fun (q : QryE) (i : Nat) (hi : i < gm[k].g.rows.length) (hke : keepsF q gm[k].g.rows[i].row = true) => spares (q := q) HSPI.out HRISE.out (fun z hz => by obtain ⟨x, hx, e⟩ := HZP.out z hz; rw [← e]; exact (HYA.out x hx).1) (g := gm[k].g) (List.mem_map_of_mem (List.getElem_mem hlt)) hi hke)
              have hrl : gm[k].g.rows.length ≤ 60 := by
                have h1 := HSPI.out.rows gm[k].g (List.mem_map_of_mem (List.getElem_mem hlt))
                rw [h1]
                have h2 := List.length_filter_le (fun x : RV => decide (keyE window by_ x.row = gm[k].g.key)) zs
                omega
              have HRZ := Lib.hid (fun z (hz : z ∈ gm[k].g.rows) => show z ∈ zs from by
                have h1 := HSPI.out.rows gm[k].g (List.mem_map_of_mem (List.getElem_mem hlt))
                rw [h1] at hz
                exact (List.mem_filter.1 hz).1)
              have hps : gm[k].g.part.size ≤ 600 := by
                have hgk2 := hgk.2
                have h1 := HSPI.out.rows gm[k].g (List.mem_map_of_mem (List.getElem_mem hlt))
                obtain ⟨z, hz⟩ := List.exists_mem_of_ne_nil _ hgk2
                rw [h1] at hz
                have h2 := (List.mem_filter.1 hz).2
                rw [decide_eq_true_iff] at h2
                have h3 : (keyE window by_ z.row).2 = gm[k].g.part := by rw [h2]; rfl
                rw [← h3]
                have := partT_size z.row.labs by_
                show (partT z.row.labs by_).size ≤ 600
                omega
              generalize gm[k] = y at *
              obtain ⟨⟨win, part, rows⟩, Ay, cy⟩ := y
              simp only at p0 p1 p2 hgk hrl HSPA HRZ hps
              have HRR := Lib.hid hgk.1
              have hpos : 0 < rows.length := List.length_pos_iff.2 hgk.2
              clear hgk
              have N7 := Lib.hid (N6.out.alloc (.cells #[.int .i64 win, .string part, .slice Ay rows.length cy] 38))
              have BG := Lib.hid (Blk.new w6 38 #[.int .i64 win, .string part, .slice Ay rows.length cy])
              obtain ⟨ar, har, -, -, r1, -⟩ := row_at (HRR.out.nx (by decide) N7.out) (k := 0) hpos
              obtain ⟨ar', har', -, -, s1, -⟩ := row_at (HRR.out.nx (by decide) N7.out) (k := rows.length - 1) (by omega)
              rw [har] at har'
              injection har' with har'
              subst har'
              subst har
              have z0 : ar.add (0 * 9) = ar := rfl
              rw [z0] at r1
              have hex : ∃ (T0 T1 : Int) (nl : Nat), (w6.alloc (.cells #[.int .i64 win, .string part, .slice (some ar) rows.length cy] 38)).cell? ⟨ar.block, ar.off + 1, none⟩ = some (.int .i64 T0) ∧ (w6.alloc (.cells #[.int .i64 win, .string part, .slice (some ar) rows.length cy] 38)).cell? ⟨(ar.add (nl * 9)).block, (ar.add (nl * 9)).off + 1, none⟩ = some (.int .i64 T1) ∧ nl + 1 = rows.length ∧
                  ∀ (q : QryE) (i : Nat) (hi : i < rows.length), keepsF q rows[i].row = true → wantsF q part T0 T1 = true := ⟨_, _, rows.length - 1, r1, s1, by omega, HSPA.out⟩
              clear r1 s1 HSPA z0
              obtain ⟨T0, T1, nl, r1, s1, hnl1, hsw⟩ := hex
              have HSW := Lib.hid hsw
              have hi1 : (rows.length : Int) - 1 = (nl : Int) := by omega
              have hi2 : IntKind.i64.wrap (nl : Int) = (nl : Int) := IntWalk.i64_in _ (by omega)
              have hi3 : (nl : Int) < (rows.length : Int) := by omega
              have hpi : (0 : Int) < (rows.length : Int) := by omega
              have HNL := Lib.hid hnl1
              clear hsw hnl1
              have hne : ((rows.length : Int) == 0) = false := by rw [beq_eq_false_iff_ne]; omega
              have f0 : (w6.alloc (.cells #[.int .i64 win, .string part, .slice (some ar) rows.length cy] 38)).cell? ⟨w6.heap.size, 0, none⟩ = some (.int .i64 win) := BG.out.cell 0
              have f1 : (w6.alloc (.cells #[.int .i64 win, .string part, .slice (some ar) rows.length cy] 38)).cell? ⟨w6.heap.size, 1, none⟩ = some (.string part) := BG.out.cell 1
              have f2 : (w6.alloc (.cells #[.int .i64 win, .string part, .slice (some ar) rows.length cy] 38)).cell? ⟨w6.heap.size, 2, none⟩ = some (.slice (some ar) rows.length cy) := BG.out.cell 2
              go_wp2_with fail
              go_region_held3 (fun w' => w'.cell? ⟨w6.heap.size, 0, none⟩ = some (.int .i64 win) ∧ w'.cell? ⟨w6.heap.size, 1, none⟩ = some (.string part) ∧ w'.cell? ⟨w6.heap.size, 2, none⟩ = some (.slice (some ar) rows.length cy) ∧ w'.cell? ⟨ar.block, ar.off + 1, none⟩ = some (.int .i64 T0) ∧ w'.cell? ⟨(ar.add (nl * 9)).block, (ar.add (nl * 9)).off + 1, none⟩ = some (.int .i64 T1)) (first | (with_reducible exact ⟨f0, f1, f2, r1, s1⟩) | go_keep) (fail)
              have N9 := Lib.hid (show Nx w6 (((w6.alloc (.cells #[.int .i64 win, .string part, .slice (some ar) rows.length cy] 38)).alloc (.cells #[.string ⟨#[]⟩, .int .i64 win, .string part, .int .i64 T0, .int .i64 T1, .int .i64 0, .int .i64 0, .int .u32 0, .int .i64 0] 41)).drew) from (((Ch.refl (fun _ => False) w6).alloc _).alloc _).drew)
              have BE := Lib.hid (show Blk (((w6.alloc (.cells #[.int .i64 win, .string part, .slice (some ar) rows.length cy] 38)).alloc (.cells #[.string ⟨#[]⟩, .int .i64 win, .string part, .int .i64 T0, .int .i64 T1, .int .i64 0, .int .i64 0, .int .u32 0, .int .i64 0] 41)).drew) (w6.heap.size + 1) 41 #[.string ⟨#[]⟩, .int .i64 win, .string part, .int .i64 T0, .int .i64 T1, .int .i64 0, .int .i64 0, .int .u32 0, .int .i64 0] from by
                have h1 := (Blk.new (w6.alloc (.cells #[.int .i64 win, .string part, .slice (some ar) rows.length cy] 38)) 41 #[.string ⟨#[]⟩, .int .i64 win, .string part, .int .i64 T0, .int .i64 T1, .int .i64 0, .int .i64 0, .int .u32 0, .int .i64 0]).drew
                rw [World.size_alloc] at h1
                exact h1)
              clear f0 f1 r1 s1
              go_wp2_with fail
              go_loopw [82] (fun i wr => ∃ j : Nat, j ≤ rows.length ∧ i = .int .i64 (j : Int) ∧ Hid (Nx (((w6.alloc (.cells #[.int .i64 win, .string part, .slice (some ar) rows.length cy] 38)).alloc (.cells #[.string ⟨#[]⟩, .int .i64 win, .string part, .int .i64 T0, .int .i64 T1, .int .i64 0, .int .i64 0, .int .u32 0, .int .i64 0] 41)).drew) wr)) (fun i _ => rows.length - (intOf i).toNat)
              case atStart => exact ⟨0, Nat.zero_le _, rfl, Lib.hid (Ch.refl _ _)⟩
              case round =>
                obtain ⟨w10, rfl⟩ : ∃ w10 : World, w10 = wr := ⟨_, rfl⟩
                obtain ⟨j, hj, rfl, N10⟩ := hrel
                by_cases hjl : j < rows.length
                · have N610 := Lib.hid ((N6.out.tr N9.out).tr N10.out)
                  obtain ⟨a2, ha2, -, p0, p1, p2, p3, p4, p5, p6, p7, p8⟩ := row_at (HRR.out.nx (by decide) N610.out) hjl
                  injection ha2 with ha2
                  subst ha2
                  have HWS := Lib.hid (HSW.out ⟨lo, hi, ms, limit, texts⟩ j hjl)
                  have hzz := HRZ.out _ (List.getElem_mem hjl)
                  have HXO := Lib.hid (HZ5.out _ hzz)
                  have HXF := Lib.hid (show rows[j].row.few from by obtain ⟨x, hx, e⟩ := HZP.out _ hzz; rw [← e]; exact HFW.out x hx)
                  clear hzz
                  generalize rows[j] = x at *
                  obtain ⟨⟨kind, time, labs, text, value, null, maker, seq, place⟩, A1, c1⟩ := x
                  simp only at p0 p1 p2 p3 p4 p5 p6 p7 p8
                  have M11 := Lib.hid ((Ch.refl (fun _ => False) w10).alloc (.cells #[.int .i64 kind, .int .i64 time, .slice A1 labs.length c1, .string text, .int .i64 value, .bool null, .int .i64 maker, .int .i64 seq, .int .i64 place] 33))
                  have N11 := Lib.hid (N5.out.tr (N610.out.tr M11.out))
                  obtain ⟨q0, q1, q2, q3, q4⟩ := HKEEP.out _ N11.out
                  have HKX := Lib.hid (HKP.out _ (HN.out.tr N11.out) ⟨⟨kind, time, labs, text, value, null, maker, seq, place⟩, A1, c1⟩ (HXO.out.ch (N610.out.tr M11.out) (fun _ _ _ hf => hf) fun _ _ => trivial) HXF.out)
                  unfold rowV at HKX
                  simp only at HKX
                  have BE11 := Lib.hid (BE.out.nx (N10.out.tr M11.out))
                  cases hkf : keepsF ⟨lo, hi, ms, limit, texts⟩ ⟨kind, time, labs, text, value, null, maker, seq, place⟩
                  · rw [hkf] at HKX
                    clear hkf
                    go_wp2_with fail
                    refine HKX.out.mono ?_
                    rintro e w12 ⟨rfl, n12⟩
                    have M12 := Lib.hid (M11.out.tr n12)
                    clear n12 q0 q1 q2 q3 q4 p0 p1 p2 p3 p4 p5 p6 p7 p8
                    go_wp2_with fail
                    go_roundw
                    case rel => exact ⟨j + 1, by omega, by go_num, Lib.hid (N10.out.tr M12.out)⟩
                    case measure => simp [intOf]; omega
                  · rw [hkf] at HKX
                    have hwt := HWS.out hkf
                    have HWT := Lib.hid hwt
                    clear hkf hwt
                    go_wp2_with fail
                    refine HKX.out.mono ?_
                    rintro e w12 ⟨rfl, n12⟩
                    have M12 := Lib.hid (M11.out.tr n12)
                    have N12 := Lib.hid (N11.out.tr n12)
                    have BE12 := Lib.hid (BE11.out.nx n12)
                    have HWX := Lib.hid (HWA.out w12 (HN.out.tr N12.out) ⟨⟨#[]⟩, win, part, T0, T1, 0, 0, 0, 0⟩ hps)
                    simp only at HWX
                    rw [HWT.out] at HWX
                    unfold entV at HWX
                    simp only at HWX
                    clear n12 q0 q1 q2 q3 q4 p0 p1 p2 p3 p4 p5 p6 p7 p8
                    obtain ⟨q0, q1, q2, q3, q4⟩ := HKEEP.out _ N12.out
                    have e0 := BE12.out.cell 0
                    have e1 := BE12.out.cell 1
                    have e2 := BE12.out.cell 2
                    have e3 := BE12.out.cell 3
                    have e4 := BE12.out.cell 4
                    have e5 := BE12.out.cell 5
                    have e6 := BE12.out.cell 6
                    have e7 := BE12.out.cell 7
                    have e8 := BE12.out.cell 8
                    go_wp2_with fail
                    refine HWX.out.mono ?_
                    rintro e w13 ⟨rfl, n13⟩
                    have M13 := Lib.hid (M12.out.tr n13)
                    clear n13 q0 q1 q2 q3 q4 e0 e1 e2 e3 e4 e5 e6 e7 e8
                    go_wp2_with fail
                    go_roundw
                    case rel => exact ⟨j + 1, by omega, by go_num, Lib.hid (N10.out.tr M13.out)⟩
                    case measure => simp [intOf]; omega
                · go_wp2_with fail
                  go_roundw
                  case rel => exact ⟨k + 1, by omega, by go_num, Lib.hid ((N6.out.tr N9.out).tr N10.out)⟩
                  case measure => simp [intOf]; omega
            · go_wp2_with fail
              go_ret
              exact ⟨rfl, HN.out.tr (N5.out.tr N6.out)⟩
    · go_wp2_with fail
      refine (lives_any _).mono ?_
      rintro e w3 ⟨rfl, n3⟩
      go_wp2_with fail
      go_ret
      exact ⟨rfl, (HN.out.tr M2.out).tr n3⟩
  · go_wp2_with fail
    refine (lives_any _).mono ?_
    rintro e w3 ⟨rfl, n3⟩
    go_wp2_with fail
    go_ret
    exact ⟨rfl, (HN.out.tr M2.out).tr n3⟩
section
open Go.ChangeShapes Go.WideShapes Go.ChangeAt
variable {H : Type} {enc : TypeId × Value → H} {W : World} {args : Array Value} {ds : List (DataW H)} {ps : List MemPlace}
theorem Told.strings {ts : List TypeId} (h : Told enc (26 :: ts) W args ds ps) : ∃ (A : Option Addr) (c : Nat) (l : List ByteArray) (vs : List Value) (ds' : List (DataW H)) (q : List MemPlace), args = (.slice A l.length c :: vs).toArray ∧
      Rd W (fun k => k < W.heap.size) 1 A l.length (stl l) ∧ l.length ≤ c ∧ c ≤ maxLen ∧ Told enc ts W vs.toArray ds' q := by
  obtain ⟨v, vs, d, ds', p, q, rfl, rfl, h0, ⟨b, ho⟩, hlt, hw, h'⟩ := h.cons
  obtain ⟨A, n, c, rfl⟩ := okWide_slice Try.underlying26 ho
  obtain ⟨fuel, hf⟩ := h0
  rcases open_strings Try.underlying26 Try.underlying9 (by kernel_rfl) hf with ⟨hcs, hx⟩ | ⟨a, len, cap, ss, hcs, _, hl, hm, hz, hx, hcell, _⟩
  · simp [Value.cells] at hcs
    obtain ⟨rfl, rfl, rfl⟩ := hcs
    exact ⟨none, 0, [], vs, ds', q, rfl, Rd.none_ _ _ _ _, Nat.le_refl _, by simp [maxLen], h'⟩
  · simp [Value.cells] at hcs
    obtain ⟨rfl, rfl, rfl⟩ := hcs
    simp only [if_true] at hz
    have hlen : (ss.take n).length = n := by rw [List.length_take]; omega
    refine ⟨some a, c, ss.take n, vs, ds', q, by rw [hlen], ⟨by rw [stl_length, Nat.mul_one], fun hn => ⟨a, rfl, ?_, fun j u hu => ?_⟩⟩, by omega, hm, h'⟩
    · have := World.block_lt_of_cell? W _ (hcell 0 (by omega))
      rwa [block_of_add] at this
    · have hj : j < n := by
        rcases Nat.lt_or_ge j n with hj | hj
        · exact hj
        · rw [List.getElem?_eq_none (by rw [stl_length]; omega)] at hu; cases hu
      rw [hcell j (by omega), ← hu]
      unfold stl
      rw [List.getElem?_map, List.getElem?_take, if_pos hj, List.getElem?_eq_getElem (by omega)]
      simp [List.getD, List.getElem?_eq_getElem (show j < ss.length by omega)]
end
theorem maxlen_cell {W : World} (h : W.ShapedOpen Try.prog) : ∃ m, W.cell? ⟨0, 0, none⟩ = some (.int .i64 m) :=
  cell_of_shapedOpen_int (zero := #[.int .i64 0]) (t := 3) h (of_decide_eq_true (by kernel_rfl)) (by kernel_rfl) rfl (by kernel_rfl) (by kernel_rfl) Try.underlying3
theorem walks : WalksS 3 Try.f3 := by
  intro H enc W args ds ps hsh h
  rw [Try.params3] at h
  obtain ⟨q, B, d, vs, ds1, p1, rfl, hr, hs, hd, hd2, i0, i1, i2, h1⟩ := h.query
  obtain ⟨A, c, l, vs2, ds2, p2, e2, hr2, hk2, hc, hc2, h2⟩ := h1.rows
  obtain ⟨window, vs3, ds3, p3, e3, hwi, h3⟩ := h2.int
  obtain ⟨Bb, db, by_, vs4, ds4, p4, e4, hr4, hd4, hd5, h4⟩ := Told.strings h3
  have e1 := h4.nil
  simp at e1 e2 e3 e4
  subst e1
  subst e4
  subst e3
  subst e2
  unfold maxLen at hc2 hd5
  exact walk q B d A c l window Bb db by_ W ⟨hr, hs, i0, i1, i2, hd, hd2⟩ hr2 hk2 hr4 (maxlen_cell hsh) hwi (by omega) (by omega)
/-- whatever the input, the law answers true -/
theorem proved : Rows.QuerySparesSaid :=
  OpenClaim.holds_of_wide 3 Try.f3 rfl rfl rfl rfl rfl rfl rfl ⟨rfl, rfl, rfl, rfl, rfl⟩ rfl rfl rfl rfl rfl (by kernel_rfl) Try.func3 (by kernel_rfl)
    (of_decide_eq_true (by kernel_rfl)) (by unfold Func.isWrapper; first | (rw [if_pos (by decide +kernel)]; kernel_rfl) | (rw [if_neg (by decide +kernel)]; exact ⟨rfl, rfl⟩))
    (fun os started H enc _ => law_shaped (s := Rows.querySparesSpec) Try.func3 (by kernel_rfl) rfl rfl
      (by intro H ds h; rw [Try.params3] at h; match ds, h with | [d1, d2, d3, d4], _ => rfl)
      (by rw [Try.params3]; intro t ht; simp at ht; rcases ht with rfl | rfl | rfl | rfl <;> exact ⟨by kernel_rfl, of_decide_eq_true (by kernel_rfl)⟩) walks os started H enc
      (ChangeSpec.witness6 (enc := enc) (C := Try.checked) false ⟨#[], #[.agg #[.int .i64 0, .int .i64 0, .slice none 0 0, .int .i64 0, .bool false], .slice none 0 0, .int .i64 0, .slice none 0 0], []⟩ 8 (by kernel_rfl) (by kernel_rfl) (by kernel_rfl) (by kernel_rfl)))
end Go.Proofs.Ytihocfdnkongkaa.QuerySpares
