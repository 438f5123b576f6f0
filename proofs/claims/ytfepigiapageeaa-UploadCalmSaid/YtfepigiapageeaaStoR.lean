/- The contract of the document's store's complete. Conditions: the upload's parts are there, by rising numbers from 1; no object is there. -/
import Derived.Test.YtfepigiapageeaaStoQ
namespace Go.Proofs.Ytfepigiapageeaa
set_option maxRecDepth 100000
open Go.RowKit
set_option linter.unusedVariables false
/-- parts' bytes, one behind another -/
def flatP (ps : List PartE) : List Nat := (ps.map fun p => p.data).flatten
theorem flatP_len (ps : List PartE) : (flatP ps).length = sizeP ps := by
  unfold flatP sizeP
  induction ps with
  | nil => rfl
  | cons p ps ih => simp [ih]
theorem flatP_take {ps : List PartE} {q : Nat} (h : q < ps.length) : flatP (ps.take (q + 1)) = flatP (ps.take q) ++ ps[q].data := by
  unfold flatP
  rw [List.take_succ_eq_append_getElem h, List.map_append, List.flatten_append]
  simp
theorem flatP_ok {w : World} {D : Nat → Prop} : ∀ {ps : List PartE} {l : List Value}, PartsR w D ps l → okB (flatP ps) := by
  intro ps
  induction ps with
  | nil => intro l h x hx; simp [flatP] at hx
  | cons p ps ih =>
    rintro l ⟨A, c, rest, rfl, r, hl, ok, h⟩ x hx
    have e : flatP (p :: ps) = p.data ++ flatP ps := by simp [flatP]
    rw [e, List.mem_append] at hx
    rcases hx with hx | hx
    · exact ok x hx
    · exact ih h x hx
theorem sizeP_take (ps : List PartE) (q : Nat) : (flatP (ps.take q)).length ≤ sizeP ps := by
  rw [flatP_len]
  exact sum_take_le (fun p : PartE => p.data.length) ps q
/-- at the head of complete's loops -/
def CmpA (W3 : World) (ps : List PartE) (v i : Value) (wr : World) : Prop :=
  ∃ q : Nat, q ≤ ps.length ∧ i = .int .i64 ((q : Int) + 1) ∧ OwnS W3 wr 5 1 v (flatP (ps.take q)).length (bl (flatP (ps.take q)))
def CmpB (W3 : World) (ps : List PartE) (q : Nat) (v t i : Value) (wr : World) : Prop :=
  ∃ r : Nat, r ≤ ps.length ∧ i = .int .i64 (r : Int) ∧ t = .bool (decide (q < r)) ∧ OwnS W3 wr 5 1 v (flatP (ps.take (if q < r then q + 1 else q))).length (bl (flatP (ps.take (if q < r then q + 1 else q))))
section
variable {w : World} {D : Nat → Prop} {g : Nat} {s : Sto}
set_option maxHeartbeats 8000000 in
theorem sto_complete (h : StoIs w D g s) (k : Nat) (hk : k < s.ups.length) (hob : s.objs = []) (hlen : s.ups.length ≤ 1000) (hnum : ∀ i (hi : i < s.ups[k].parts.length), s.ups[k].parts[i].n = (i : Int) + 1) (hp1 : 1 ≤ s.ups[k].parts.length) (hp2 : s.ups[k].parts.length ≤ 100) (hz : sizeP s.ups[k].parts ≤ 262144) (hv0 : 0 ≤ s.ver) (hv : s.ver ≤ 1000000)
    (ckey : ByteArray) (dv : Value) (ver at_ id N : Int) (hN : N = (s.ups[k].parts.length : Int)) :
    Calls Try.prog 27 #[.pointer (some ⟨g, 0, none⟩), .int .i64 (k : Int), callV 9 ckey dv ver at_ N id] w
      (DoTo w D g { s with ups := s.ups.take k ++ s.ups.drop (k + 1), objs := [⟨s.ups[k].key, flatP s.ups[k].parts, s.ver + 1, s.now⟩], ver := s.ver + 1 } (replyV 0 (.slice none 0 0) (s.ver + 1) s.now 0 (.slice none 0 0) false)) := by
  have HS := Lib.hid h
  have HAT := Lib.hid (fun w' (hn : Nx w w') key => sto_at (h.nx hn) key (by rw [hob]; simp))
  have HDR := Lib.hid (fun w' (hn : Nx w w') => sto_drop (h.nx hn) k hk hlen)
  have Hob := Lib.hid hob
  obtain ⟨Ao, co, lo, vu, lu, m⟩ := h
  obtain ⟨A1, c1, rfl, hn1, hc1⟩ := own_form m.own
  have d1 : w.cell? ⟨g, 1, none⟩ = some (.slice A1 s.ups.length c1) := m.blk.cell 1
  have hro := Rd.of_own m.own
  obtain ⟨Ak, ck, psk, h1, h2, h3, h4, h5, h6, h7⟩ := m.ups.get hk
  obtain ⟨ad, rfl, -, hcell⟩ := hro.2 (by omega)
  have hc0 := hcell _ _ h1
  have hc1' := hcell _ _ h2
  have hc2 := hcell _ _ h3
  have hc3 := hcell _ _ h4
  obtain ⟨uk, huk⟩ : ∃ uk, s.ups[k] = uk := ⟨_, rfl⟩
  rw [huk] at hp1 hp2 hz hN h1 h2 h3 h4 h5 h6 h7 hc0 hc1' hc2 hc3 ⊢
  have hnum' : ∀ i (hi : i < uk.parts.length), uk.parts[i].n = (i : Int) + 1 := by subst huk; exact hnum
  clear hnum
  obtain ⟨xid, xborn, xkey, xps⟩ := uk
  simp only at hp1 hp2 hz hN h1 h2 h3 h4 h5 h6 h7 hc0 hc1' hc2 hc3 hnum' ⊢
  obtain ⟨np, hnp⟩ : ∃ np, xps.length = np := ⟨_, rfl⟩
  have Hnp := Lib.hid hnp
  have Hnum := Lib.hid hnum'
  rw [hnp] at h4 h5 h6 hc3 hp1 hp2 hN
  have hc1'' := cell_plus 0 hc1'
  have hc2'' := cell_plus 1 hc2
  have hc3'' := cell_plus 2 hc3
  simp only [Nat.zero_add, Nat.reduceAdd] at hc1'' hc2'' hc3''
  have hbl : (ad.add (k * 4)).block < w.heap.size := World.block_lt_of_cell? w _ hc0
  have nxa : ∀ o o', Nx w ((w.alloc o).alloc o') := fun o o' => ((Ch.refl _ w).alloc o).alloc o'
  have q0 := fun o o' => (Nx.cell (nxa o o') (p := ad.add (k * 4)) hbl).trans hc0
  have q1 := fun o o' => (Nx.cell (nxa o o') (p := ⟨(ad.add (k * 4)).block, (ad.add (k * 4)).off + 1, none⟩) hbl).trans hc1''
  have q2 := fun o o' => (Nx.cell (nxa o o') (p := ⟨(ad.add (k * 4)).block, (ad.add (k * 4)).off + 2, none⟩) hbl).trans hc2''
  have q3 := fun o o' => (Nx.cell (nxa o o') (p := ⟨(ad.add (k * 4)).block, (ad.add (k * 4)).off + 3, none⟩) hbl).trans hc3''
  have Nxa := Lib.hid nxa
  clear nxa hc0 hc1'' hc2'' hc3''
  obtain ⟨i0, hi0, hz0, hz1, hz2⟩ := info_parts Try.info5
  obtain ⟨nu, hnu⟩ : ∃ nu, s.ups.length = nu := ⟨_, rfl⟩
  have Hnu := Lib.hid hnu
  rw [hnu] at d1 hlen hk
  have M := Lib.hid m
  have Hz := Lib.hid hz
  have Hok := Lib.hid (flatP_ok h7)
  have H5 := Lib.hid h5
  have H7 := Lib.hid h7
  have Huk := Lib.hid huk
  have hgl := m.blk.lt
  have kwk : IntKind.i64.wrap (k : Int) = (k : Int) := IntWalk.i64_in _ (by omega)
  have t3 : k < nu := hk
  subst hN
  clear m hro h1 h2 h3 h4 h5 h7 hcell hc1' hc2 hc3 huk hnp hnu hob hz hnum'
  have hN1 : ¬ (np : Int) < 1 := by omega
  unfold callV
  go_enter Try.func27, Try.ntmps27
  go_wp2_with fail
  have hB0 : Blk ((((w.alloc (.cells #[.int .i64 9, .string ckey, dv, .int .i64 ver, .int .i64 at_, .int .i64 (np : Int), .int .i64 id] 40)).alloc (.cells #[.int .i64 0, .slice none 0 0, .int .i64 0, .int .i64 0, .int .i64 0, .slice none 0 0, .bool false] 37)).alloc (.cells #[.int .i64 xid, .int .i64 xborn, .string xkey, .slice Ak np ck] 66))) w.heap.size 40 #[.int .i64 9, .string ckey, dv, .int .i64 ver, .int .i64 at_, .int .i64 (np : Int), .int .i64 id] := ((Blk.new w _ _).alloc _).alloc _
  have hB1 : Blk ((((w.alloc (.cells #[.int .i64 9, .string ckey, dv, .int .i64 ver, .int .i64 at_, .int .i64 (np : Int), .int .i64 id] 40)).alloc (.cells #[.int .i64 0, .slice none 0 0, .int .i64 0, .int .i64 0, .int .i64 0, .slice none 0 0, .bool false] 37)).alloc (.cells #[.int .i64 xid, .int .i64 xborn, .string xkey, .slice Ak np ck] 66))) (w.heap.size + 1) 37 #[.int .i64 0, .slice none 0 0, .int .i64 0, .int .i64 0, .int .i64 0, .slice none 0 0, .bool false] := by
    have := (Blk.new (w.alloc (.cells #[.int .i64 9, .string ckey, dv, .int .i64 ver, .int .i64 at_, .int .i64 (np : Int), .int .i64 id] 40)) 37 #[.int .i64 0, .slice none 0 0, .int .i64 0, .int .i64 0, .int .i64 0, .slice none 0 0, .bool false]).alloc (.cells #[.int .i64 xid, .int .i64 xborn, .string xkey, .slice Ak np ck] 66)
    rw [World.size_alloc] at this
    exact this
  have hB2 : Blk ((((w.alloc (.cells #[.int .i64 9, .string ckey, dv, .int .i64 ver, .int .i64 at_, .int .i64 (np : Int), .int .i64 id] 40)).alloc (.cells #[.int .i64 0, .slice none 0 0, .int .i64 0, .int .i64 0, .int .i64 0, .slice none 0 0, .bool false] 37)).alloc (.cells #[.int .i64 xid, .int .i64 xborn, .string xkey, .slice Ak np ck] 66))) (w.heap.size + 1 + 1) 66 #[.int .i64 xid, .int .i64 xborn, .string xkey, .slice Ak np ck] := by
    have := Blk.new ((w.alloc (.cells #[.int .i64 9, .string ckey, dv, .int .i64 ver, .int .i64 at_, .int .i64 (np : Int), .int .i64 id] 40)).alloc (.cells #[.int .i64 0, .slice none 0 0, .int .i64 0, .int .i64 0, .int .i64 0, .slice none 0 0, .bool false] 37)) 66 #[.int .i64 xid, .int .i64 xborn, .string xkey, .slice Ak np ck]
    rw [World.size_alloc, World.size_alloc] at this
    exact this
  have hN3 : Nx w ((((w.alloc (.cells #[.int .i64 9, .string ckey, dv, .int .i64 ver, .int .i64 at_, .int .i64 (np : Int), .int .i64 id] 40)).alloc (.cells #[.int .i64 0, .slice none 0 0, .int .i64 0, .int .i64 0, .int .i64 0, .slice none 0 0, .bool false] 37)).alloc (.cells #[.int .i64 xid, .int .i64 xborn, .string xkey, .slice Ak np ck] 66))) := (Nxa.out _ _).alloc _
  have h0 := OwnS.lit ((((w.alloc (.cells #[.int .i64 9, .string ckey, dv, .int .i64 ver, .int .i64 at_, .int .i64 (np : Int), .int .i64 id] 40)).alloc (.cells #[.int .i64 0, .slice none 0 0, .int .i64 0, .int .i64 0, .int .i64 0, .slice none 0 0, .bool false] 37)).alloc (.cells #[.int .i64 xid, .int .i64 xborn, .string xkey, .slice Ak np ck] 66))) ((((w.alloc (.cells #[.int .i64 9, .string ckey, dv, .int .i64 ver, .int .i64 at_, .int .i64 (np : Int), .int .i64 id] 40)).alloc (.cells #[.int .i64 0, .slice none 0 0, .int .i64 0, .int .i64 0, .int .i64 0, .slice none 0 0, .bool false] 37)).alloc (.cells #[.int .i64 xid, .int .i64 xborn, .string xkey, .slice Ak np ck] 66))) 5 (Ch.refl _ _) 1
  have hs3 : ((((w.alloc (.cells #[.int .i64 9, .string ckey, dv, .int .i64 ver, .int .i64 at_, .int .i64 (np : Int), .int .i64 id] 40)).alloc (.cells #[.int .i64 0, .slice none 0 0, .int .i64 0, .int .i64 0, .int .i64 0, .slice none 0 0, .bool false] 37)).alloc (.cells #[.int .i64 xid, .int .i64 xborn, .string xkey, .slice Ak np ck] 66))).heap.size = w.heap.size + 1 + 1 + 1 := by simp
  rw [hs3] at h0
  generalize ((((w.alloc (.cells #[.int .i64 9, .string ckey, dv, .int .i64 ver, .int .i64 at_, .int .i64 (np : Int), .int .i64 id] 40)).alloc (.cells #[.int .i64 0, .slice none 0 0, .int .i64 0, .int .i64 0, .int .i64 0, .slice none 0 0, .bool false] 37)).alloc (.cells #[.int .i64 xid, .int .i64 xborn, .string xkey, .slice Ak np ck] 66))) = W3 at *
  have HB0 := Lib.hid hB0
  have HB1 := Lib.hid hB1
  have HB2 := Lib.hid hB2
  have HN3 := Lib.hid hN3
  have HS3 := Lib.hid hs3
  clear hB0 hB1 hB2 hN3 hs3 q0 q1 q2 q3 d1
  go_loopw [8, 9] (fun v i wr => CmpA W3 xps v i wr) (fun _ i _ => np + 1 - (intOf i).toNat)
  case atStart => exact ⟨0, Nat.zero_le _, rfl, h0⟩
  case round =>
    clear h0
    obtain ⟨w4, rfl⟩ : ∃ w4 : World, w4 = wr := ⟨_, rfl⟩
    obtain ⟨q, hq, rfl, o4⟩ := hrel
    rw [Hnp.out] at hq
    have hb0 := HB0.out.nx o4.nx
    have r5 : w4.cell? ⟨w.heap.size, 5, none⟩ = some (.int .i64 (np : Int)) := hb0.cell 5
    have hb2 := HB2.out.nx o4.nx
    have u3 : w4.cell? ⟨w.heap.size + 1 + 1, 3, none⟩ = some (.slice Ak np ck) := hb2.cell 3
    have hlt0 := hb0.lt
    clear hb0 hb2
    by_cases hlt : q < np
    · have hle1 : (q : Int) + 1 ≤ (np : Int) := by omega
      have HO := Lib.hid o4
      clear o4
      go_wp2_with fail
      go_loopw [8, 10, 42] (fun v t i wr => CmpB W3 xps q v t i wr) (fun _ _ i _ => np - (intOf i).toNat)
      case atStart => exact ⟨0, Nat.zero_le _, rfl, rfl, by rw [if_neg (Nat.not_lt_zero q)]; exact HO.out⟩
      case round =>
        clear HO u3 r5
        obtain ⟨w5, rfl⟩ : ∃ w5 : World, w5 = wr := ⟨_, rfl⟩
        obtain ⟨r, hr, rfl, rfl, o5⟩ := hrel
        rw [Hnp.out] at hr
        by_cases hrt : r < np
        · have hrl : r < xps.length := by rw [Hnp.out]; exact hrt
          obtain ⟨Aj, cj, g1, g2, g3, g4, g5⟩ := H7.out.get hrl
          obtain ⟨adp, rfl, -, hcellp⟩ := (H5.out.nx (by decide) (HN3.out.tr o5.nx)).2 (by omega)
          rw [Hnum.out r hrl] at g1
          have p0 := hcellp _ _ g1
          have p1 := cell_plus 0 (hcellp _ _ g2)
          simp only [Nat.zero_add] at p1
          have G3 := Lib.hid (fun o => g3.nx (by decide) ((HN3.out.tr o5.nx).alloc o))
          have HT := Lib.hid (flatP_take hrl)
          have hsz1 := sizeP_take xps (r + 1)
          have hsz2 := sizeP_take xps (if q < r then q + 1 else q)
          have hzz := Hz.out
          clear g1 g2 g3 g4 g5 hcellp
          generalize xps[r].data = pd at *
          obtain ⟨m, hmm⟩ : ∃ m, pd.length = m := ⟨_, rfl⟩
          have HM := Lib.hid hmm
          rw [hmm] at p1 G3
          clear hmm
          by_cases he : r = q
          · subst he
            rw [if_neg (Nat.lt_irrefl r)] at o5 hsz2
            have hml : (flatP (xps.take r)).length + m ≤ 262144 := by
              rw [HT.out, List.length_append, HM.out] at hsz1
              omega
            have E : Hid (flatP (xps.take (if r < r + 1 then r + 1 else r)) = flatP (xps.take r) ++ pd) := Lib.hid (by rw [if_pos (Nat.lt_succ_self r)]; exact HT.out)
            generalize flatP (xps.take r) = F at *
            obtain ⟨f, hf⟩ : ∃ f, F.length = f := ⟨_, rfl⟩
            have HF := Lib.hid hf
            rw [hf] at o5 hml
            have O5 := Lib.hid o5
            clear hf hsz1 hsz2 o5
            go_wp2_with (at_builtin; refine wpList_appN rfl (.tmp 50) (.tmp 52) _ rfl 5 i0 _ 1 1 Try.underlying22 hi0 hz0 hz1 hz2 rfl (by omega) rfl (O5.out.alloc _) _ Aj m cj (bl pd) rfl (G3.out _) (bl_one _) (by simp only [maxLen]; omega) (by omega) ?_; intro v6 w6 o6 m6; have O6 := Lib.hid o6; clear o6 m6)
            go_roundw
            case rel => exact ⟨r + 1, by rw [Hnp.out]; omega, by go_num, by rw [decide_eq_true (Nat.lt_succ_self r)], by rw [E.out, List.length_append, HF.out, HM.out, show bl (F ++ pd) = bl F ++ bl pd by simp [bl]]; exact O6.out⟩
            case measure => simp [intOf]; omega
          · have hne : ((r : Int) + 1 == (q : Int) + 1) = false := by rw [beq_eq_false_iff_ne]; omega
            have hne2 : ¬ (r : Int) = (q : Int) := by omega
            have hdd : decide (q < r + 1) = decide (q < r) := by rw [decide_eq_decide]; omega
            have E : Hid ((if q < r + 1 then q + 1 else q) = (if q < r then q + 1 else q)) := Lib.hid (by
              by_cases h : q < r
              · rw [if_pos h, if_pos (by omega)]
              · rw [if_neg h, if_neg (by omega)])
            have O5 := Lib.hid o5
            have HDD := Lib.hid hdd
            clear o5 hsz1 hsz2 hdd
            generalize decide (q < r) = B at *
            go_wp2_with fail
            go_roundw
            case rel => exact ⟨r + 1, by rw [Hnp.out]; omega, by go_num, by rw [HDD.out], by rw [E.out]; exact O5.out.alloc _⟩
            case measure => simp [intOf]; omega
        · obtain rfl : r = np := by omega
          rw [if_pos hlt] at o5
          have O5 := Lib.hid o5
          rw [decide_eq_true hlt]
          clear o5
          go_wp2_with fail
          go_roundw
          case rel => exact ⟨q + 1, by rw [Hnp.out]; omega, by go_num, O5.out⟩
          case measure => simp [intOf]; omega
    · obtain rfl : q = np := by omega
      have hfx : xps.take q = xps := List.take_of_length_le (by rw [Hnp.out]; exact Nat.le_refl _)
      rw [hfx] at o4
      obtain ⟨A8, c8, rfl, hc8, _⟩ := o4.form
      have hfl : (flatP xps).length ≤ 262144 := by
        have := sizeP_take xps q
        rw [hfx] at this
        have := Hz.out
        omega
      obtain ⟨n8, hn8⟩ : ∃ n8, (flatP xps).length = n8 := ⟨_, rfl⟩
      have HN8 := Lib.hid hn8
      rw [hn8] at o4 hc8 hfl ⊢
      have hnw4 := HN3.out.tr o4.nx
      have hb2 := HB2.out.nx o4.nx
      have u2 : w4.cell? ⟨w.heap.size + 1 + 1, 2, none⟩ = some (.string xkey) := hb2.cell 2
      have hlt2 := hb2.lt
      have hgB := M.out.blk.nx hnw4
      have d0 : w4.cell? ⟨g, 0, none⟩ = some (.slice Ao 0 co) := by
        have := hgB.cell 0
        rw [Hob.out] at this
        exact this
      have hat := HAT.out w4 hnw4 xkey
      rw [atF_nil Hob.out] at hat
      have Hat := Lib.hid hat
      have Hdr := Lib.hid (HDR.out w4 hnw4)
      have O4 := Lib.hid o4
      have hq1 : ¬ ((q : Int) + 1 ≤ (q : Int)) := by omega
      clear hat o4 hb2 hgB hn8 hfx hlt
      go_wp2_with fail
      refine Hat.out.mono ?_
      rintro e w5 ⟨rfl, rfl⟩
      go_wp2_with fail
      refine Hdr.out.mono ?_
      rintro e w5 ⟨rfl, h5, c5⟩
      have hs3 := HS3.out
      have hs4 := O4.out.nx.size
      have u2 : w5.cell? ⟨w.heap.size + 1 + 1, 2, none⟩ = some (.string xkey) := ((HB2.out.nx O4.out.nx).ch c5 (fun e => by omega)).cell 2
      have rd5 := (Rd.of_own O4.out.own).ch (by decide) c5 (fun b hb e h => by have := e.2.1; omega)
      have hput := sto_put (c := c8) h5 Hob.out xkey (flatP xps) (rd5.more (D' := fun b => W3.heap.size ≤ b) (fun b e => e.2.1)) Hok.out (by omega) HN8.out hfl hv0 hv
      have Hput := Lib.hid hput
      have H5' := Lib.hid h5
      have C5 := Lib.hid c5
      clear hput h5 c5 rd5 d0
      go_wp2_with fail
      refine Hput.out.mono ?_
      rintro e w6 ⟨rfl, h6, c6⟩
      unfold replyV
      have hn4' : Nx w w4 := HN3.out.tr O4.out.nx
      have hrb := ((HB1.out.nx O4.out.nx).ch C5.out (fun e => by omega)).ch c6 (fun e => by omega)
      have rc : ∀ i : Nat, w6.cell? ⟨w.heap.size + 1, i, none⟩ = (#[.int .i64 0, .slice none 0 0, .int .i64 0, .int .i64 0, .int .i64 0, .slice none 0 0, .bool false] : Array Value)[i]? := fun i => hrb.cell i
      have rf := hrb.frozen
      have HRB := Lib.hid hrb
      have H6 := Lib.hid h6
      have C6 := Lib.hid c6
      clear hrb h6 c6 u2
      go_wp2_with fail
      have hb12 := set_blk7 HRB.out (.int .i64 0) (.slice none 0 0) (.int .i64 (s.ver + 1)) (.int .i64 s.now) (.int .i64 0) (.slice none 0 0) (.bool false)
      have c12 := set_ch7 w6 (w.heap.size + 1) (.int .i64 0) (.slice none 0 0) (.int .i64 (s.ver + 1)) (.int .i64 s.now) (.int .i64 0) (.slice none 0 0) (.bool false)
      generalize (((((((w6.setCell ⟨w.heap.size + 1, 0, none⟩ (.int .i64 0)).setCell ⟨w.heap.size + 1, 1, none⟩ (.slice none 0 0)).setCell ⟨w.heap.size + 1, 2, none⟩ (.int .i64 (s.ver + 1))).setCell ⟨w.heap.size + 1, 3, none⟩ (.int .i64 s.now)).setCell ⟨w.heap.size + 1, 4, none⟩ (.int .i64 0)).setCell ⟨w.heap.size + 1, 5, none⟩ (.slice none 0 0)).setCell ⟨w.heap.size + 1, 6, none⟩ (.bool false)) = w12 at *
      have r : ∀ i : Nat, w12.cell? ⟨w.heap.size + 1, i, none⟩ = (#[.int .i64 0, .slice none 0 0, .int .i64 (s.ver + 1), .int .i64 s.now, .int .i64 0, .slice none 0 0, .bool false] : Array Value)[i]? := fun i => hb12.cell i
      have hc12 : Ch (fun b => b = g) w w12 := (((hn4'.mono (T := fun b => b = g) fun _ _ hf => hf.elim).trans C5.out fun _ _ e => e).trans C6.out fun _ _ e => e).trans c12 fun i hi e => by omega
      have hbnd := HS.out.bnd
      have hz5 := C5.out.size
      have hz6 := C6.out.size
      have hz12 := c12.size
      have hfin := H6.out.grow c12 (D' := Dnew D w w12) (fun b _ hb e => by
        rcases hb with (hb | hb) | hb
        · have := hbnd b hb; omega
        · omega
        · omega) (fun b hb => by
        rcases hb with (hb | hb) | hb
        · exact .inl hb
        · exact .inr ⟨by omega, by omega⟩
        · exact .inr ⟨by omega, by omega⟩) (fun b hb => by
        rcases hb with hb | hb
        · have := hbnd b hb; omega
        · exact hb.2)
      exact bodyPost_ret (v := replyV 0 (.slice none 0 0) (s.ver + 1) s.now 0 (.slice none 0 0) false) (by simp [results, Try.results27, go_sem, replyV, r]) rfl ⟨rfl, hfin, hc12.mono fun b _ e => by rw [e]; exact HS.out.inD⟩
end
end Go.Proofs.Ytfepigiapageeaa
