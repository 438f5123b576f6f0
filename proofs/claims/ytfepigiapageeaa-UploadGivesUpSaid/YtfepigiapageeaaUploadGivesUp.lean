/- UploadGivesUp: if no reply ever comes, it has failed behind just as many calls as it has tries. Conditions: none. -/
import Derived.Test.YtfepigiapageeaaUpRunA
import Derived.Laws.MakeOwn
import Derived.Deep.RegionHeld3
namespace Go.Proofs.Ytfepigiapageeaa.UploadGivesUp
open Go.RowKit UploadPaces
set_option linter.unusedVariables false

theorem Try.infoF : (Try.prog.info? 44).map (fun i => (i.zero, i.size, i.bytes)) = some (some (.int .i64 0), 1, 8) := by kernel_rfl
theorem run_make_rowN {P : Program} (t e : TypeId) (i : TypeInfo) (z : Value) (ht : P.underlying t = some (.slice e)) (hi : P.info? e = some i) (hz : i.zero = some z)
    (kl kc : IntKind) (n c : Nat) (hnc : n ≤ c) (hbytes : i.bytes * c ≤ 281474976710656) (h63 : c ≤ 9223372036854775807) (w : World) :
    (Instr.makeSlice t (.int kl (n : Int)) (.int kc (c : Int))).run P w = .ok (.slice (some ⟨w.heap.size, 0, none⟩) n c) (w.alloc (.cells (madeCells z.cells (c * i.size)) e)) := by
  have hb : (i.bytes : Int) * (c : Int) ≤ 281474976710656 := by
    have h : ((i.bytes * c : Nat) : Int) ≤ 281474976710656 := by omega
    rwa [Int.natCast_mul] at h
  have hr := run_make (P := P) w t e i z ht hi hz kl kc n c (by omega) (by omega) hb (by omega)
  simp only [Int.toNat_natCast] at hr
  exact hr
/-- fates while they are laid -/
def fill (v : Int) (j : Nat) : List Int := (List.range 40).map fun i => if i < j then v else 0
theorem fill_length (v : Int) (j : Nat) : (fill v j).length = 40 := by simp [fill]
theorem fill_all (v : Int) : fill v 40 = List.replicate 40 v := by
  apply List.ext_getElem
  · simp [fill]
  · intro i h1 h2
    have hi : i < 40 := by simpa [fill] using h1
    rw [List.getElem_replicate]
    simp [fill, hi]
theorem fill_set (v : Int) (j : Nat) (hj : j < 40) : (fill v j).set j v = fill v (j + 1) := by
  apply List.ext_getElem
  · simp [fill]
  · intro i h1 h2
    rw [List.getElem_set]
    simp only [fill, List.getElem_map, List.getElem_range]
    by_cases e : j = i
    · subst e; simp
    · rw [if_neg e]
      by_cases h : i < j
      · rw [if_pos h, if_pos (by omega)]
      · rw [if_neg h, if_neg (by omega)]
theorem own_made_f (W w : World) (c : Nx W w) : OwnS W (w.alloc (.cells (madeCells #[.int .i64 0] 40) 44)) 44 1 (.slice (some ⟨w.heap.size, 0, none⟩) 40 40) 40 (il (fill 0 0)) := by
  have e : il (fill 0 0) = (madeCells #[Value.int .i64 0] 40).toList := by
    rw [toList_madeCells_one]
    rfl
  rw [e]
  exact ⟨World.ownsRow_lit w _ 40 c.size (by simp [maxLen]) (by simp [size_madeCells]), c.alloc _⟩
theorem store_own {W w : World} {e : TypeId} {n g c : Nat} {xs : List Value} {size : Nat} (h : OwnS W w e size (.slice (some ⟨g, 0, none⟩) n c) n xs) (j : Nat) (u : Value) :
    OwnS W (w.setCell ⟨g, j, none⟩ u) e size (.slice (some ⟨g, 0, none⟩) n c) n (xs.set j u) :=
  ⟨(h.own.stored j u).1, h.nx.setCell (fun hlt => absurd hlt (Nat.not_lt.2 (h.lt g rfl).1)) u⟩
theorem at_own {W w : World} {e : TypeId} {n g c : Nat} {xs : List Value} (h : OwnS W w e 1 (.slice (some ⟨g, 0, none⟩) n c) n xs) (j : Nat) (hj : j < n) :
    ∃ u, xs[j]? = some u ∧ w.cell? ⟨g, j, none⟩ = some u ∧ w.frozen? ⟨g, j, none⟩ = false := by
  have hl : j < xs.length := by have := h.own.1; omega
  exact ⟨xs[j], List.getElem?_eq_getElem hl, (h.own.cellAt j (by omega)).trans (List.getElem?_eq_getElem hl), h.own.frozenAt j⟩
theorem fill_zero (v : Int) : fill v 0 = fill 0 0 := by simp [fill]
theorem sto_new (w : World) : StoIs (w.alloc (.cells #[.slice none 0 0, .slice none 0 0, .int .i64 0, .int .i64 0, .int .i64 0] 33)) (fun k => k = w.heap.size) w.heap.size ⟨[], [], 0, 0, 0⟩ :=
  ⟨none, 0, [], .slice none 0 0, [], rfl, Blk.new _ _ _, Rd.none_ _ _ _ _, rfl, World.ownsRow_nil _ _ _ _, rfl, (fun k hk => by simp [Value.ownBlock] at hk), Nat.le_refl _, (fun k hk => by rw [hk]; simp)⟩

set_option maxRecDepth 100000 in
set_option maxHeartbeats 8000000 in
theorem walk (key : ByteArray) (A : Option Addr) (n c : Nat) (xs : List Nat) (piece tries wait : Int) (dn : Bool) (W : World) (hk : key.size ≤ 9223372036854775807) (hl : xs.length = n) (hr : Rd W (· < W.heap.size) 1 A n (bl xs)) (hn : n ≤ 9223372036854775807)
    (ht : i64 tries) (hw : i64 wait) :
    Calls Try.prog 4 #[setV key (.slice A n c) piece tries wait, .bool dn] W fun e W' => e = .returned (.bool true) ∧ Nx W W' := by
  have Hl := Lib.hid hl
  clear hl
  obtain ⟨hw1, hw2⟩ := hw
  obtain ⟨ht1, ht2⟩ := ht
  have hb0 := Blk.new W 24 #[.string key, .slice A n c, .int .i64 piece, .int .i64 tries, .int .i64 wait]
  have nx0 : Nx W (W.alloc (.cells #[.string key, .slice A n c, .int .i64 piece, .int .i64 tries, .int .i64 wait] 24)) := (Ch.refl _ W).alloc _
  have hfew := fun w => few_any key A n c piece tries wait w hk hn
  have Hfew := Lib.hid hfew
  clear hfew
  unfold setV at *
  generalize hW0 : W.alloc (.cells #[.string key, .slice A n c, .int .i64 piece, .int .i64 tries, .int .i64 wait] 24) = W0 at *
  go_enter Try.func4, Try.ntmps4
  go_wp2_with fail
  clear hW0
  with_reducible refine (lives_any _).mono ?_
  rintro e w1 ⟨rfl, n1⟩
  have b1 := hb0.nx n1
  have d0 : w1.cell? ⟨W.heap.size, 0, none⟩ = some (.string key) := b1.cell 0
  have d1 : w1.cell? ⟨W.heap.size, 1, none⟩ = some (.slice A n c) := b1.cell 1
  have d2 : w1.cell? ⟨W.heap.size, 2, none⟩ = some (.int .i64 piece) := b1.cell 2
  have d3 : w1.cell? ⟨W.heap.size, 3, none⟩ = some (.int .i64 tries) := b1.cell 3
  have d4 : w1.cell? ⟨W.heap.size, 4, none⟩ = some (.int .i64 wait) := b1.cell 4
  have Hfew' := Hfew.out
  go_wp2_with fail
  with_reducible refine (Hfew.out _).mono ?_
  rintro e w2 ⟨rfl, n2⟩
  have nx2 := (nx0.tr n1).tr n2
  have b2 := b1.nx n2
  clear d0 d1 d2 d3 d4 b1 n1 n2 hb0 nx0 Hfew'
  by_cases hfew : n ≤ 3000 ∧ key.size ≤ 100
  · obtain ⟨hn3, hk3⟩ := hfew
    rw [show decide (n ≤ 3000 ∧ key.size ≤ 100) = true by simp [hn3, hk3]]
    have d0 : w2.cell? ⟨W.heap.size, 0, none⟩ = some (.string key) := b2.cell 0
    have d1 : w2.cell? ⟨W.heap.size, 1, none⟩ = some (.slice A n c) := b2.cell 1
    have d2 : w2.cell? ⟨W.heap.size, 2, none⟩ = some (.int .i64 piece) := b2.cell 2
    have d3 : w2.cell? ⟨W.heap.size, 3, none⟩ = some (.int .i64 tries) := b2.cell 3
    have d4 : w2.cell? ⟨W.heap.size, 4, none⟩ = some (.int .i64 wait) := b2.cell 4
    by_cases hw3 : 3 < wait
    · go_wp2_with fail
      with_reducible refine (lives_any _).mono ?_
      rintro e w3 ⟨rfl, n3⟩
      go_wp2_with fail
      go_ret
      exact ⟨rfl, nx2.tr n3⟩
    · go_wp2_with fail
      by_cases hok : okNew n piece tries wait
      · have Hok := Lib.hid hok
        have hok' := hok
        obtain ⟨-, -, o3, o4, o5, o6, o7⟩ := hok'
        obtain ⟨tr, rfl⟩ := Int.eq_ofNat_of_zero_le (show 0 ≤ tries by omega)
        obtain ⟨wt, rfl⟩ := Int.eq_ofNat_of_zero_le o5
        clear hok
        with_reducible refine (new_ok _ key A n c xs piece tr wt _ (hr.nx (by omega) nx2) Hl.out Hok.out).mono ?_
        rintro e w3 ⟨g, A', c', rfl, hu, hrd, n3, hg, hc1, hc2⟩
        rw [Hl.out] at hu hrd hc1
        have nx3 := nx2.tr n3
        have b3 := b2.nx n3
        clear d0 d1 d2 d3 d4 b2
        have hu0 : UpB w3 g (st key n piece tr wt 0) (.slice A' n c') := by
          unfold st
          rw [if_pos (by omega)]
          exact hu
        have hsg := nx2.size
        obtain ⟨i0, hi0, hz0, hz1, hz2⟩ := info_parts Try.infoF
        have hmk : ∀ w : World, (Instr.makeSlice 43 (.int .i64 40) (.int .i64 40)).run Try.prog w = .ok (.slice (some ⟨w.heap.size, 0, none⟩) 40 40) (w.alloc (.cells (madeCells #[.int .i64 0] 40) 44)) := fun w => by
          have := run_make_rowN (P := Try.prog) 43 44 i0 (.int .i64 0) Try.underlying43 hi0 hz0 .i64 .i64 40 40 (Nat.le_refl _) (by rw [hz2]; omega) (by omega) w
          rw [hz1] at this
          exact this
        have o3 := own_made_f w3 w3 (Ch.refl _ w3)
        go_wp2_with fail
        rw [← fill_zero (if dn then 2 else 1)] at o3
        go_loopw [37] (fun i wr => ∃ j : Nat, j ≤ 40 ∧ i = .int .i64 j ∧ OwnS w3 wr 44 1 (.slice (some ⟨w3.heap.size, 0, none⟩) 40 40) 40 (il (fill (if dn then 2 else 1) j))) (fun i _ => 40 - (intOf i).toNat)
        case atStart => exact ⟨0, by omega, rfl, o3⟩
        case round =>
          clear o3 hmk
          obtain ⟨w4, rfl⟩ : ∃ w4 : World, w4 = wr := ⟨_, rfl⟩
          obtain ⟨j, hj, rfl, ho⟩ := hrel
          by_cases hlt : j < 40
          · obtain ⟨uo, hou, hoc, hof⟩ := at_own ho j hlt
            have hst := fun v => store_own ho j (.int .i64 v)
            have e1 : ∀ v : Int, (il (fill (if dn then 2 else 1) j)).set j (.int .i64 v) = il ((fill (if dn then 2 else 1) j).set j v) := fun v => by simp [il, List.map_set]
            have Hst := Lib.hid hst
            have He1 := Lib.hid e1
            clear hst e1 hou
            cases dn
            · go_wp2_with fail
              go_roundw
              case rel =>
                refine ⟨j + 1, by omega, by go_num, ?_⟩
                have h1 : OwnS w3 (w4.setCell ⟨w3.heap.size, j, none⟩ (.int .i64 1)) 44 1 (.slice (some ⟨w3.heap.size, 0, none⟩) 40 40) 40 (il ((fill 1 j).set j 1)) := by
                  have := Hst.out 1
                  rw [He1.out] at this
                  exact this
                rw [fill_set _ _ hlt] at h1
                exact h1
              case measure => simp [intOf]; omega
            · go_wp2_with fail
              go_roundw
              case rel =>
                refine ⟨j + 1, by omega, by go_num, ?_⟩
                have h1 := Hst.out 1
                have h2 := store_own h1 j (.int .i64 2)
                rw [He1.out, show ∀ l : List Int, (il l).set j (.int .i64 2) = il (l.set j 2) from fun l => by simp [il, List.map_set], List.set_set] at h2
                have h3 : OwnS w3 ((w4.setCell ⟨w3.heap.size, j, none⟩ (.int .i64 1)).setCell ⟨w3.heap.size, j, none⟩ (.int .i64 2)) 44 1 (.slice (some ⟨w3.heap.size, 0, none⟩) 40 40) 40 (il ((fill 2 j).set j 2)) := h2
                rw [fill_set _ _ hlt] at h3
                exact h3
              case measure => simp [intOf]; omega
          · obtain rfl : j = 40 := by omega
            rw [fill_all] at ho
            have hrd4 : Rd w4 (fun k => k = w3.heap.size) 1 (some ⟨w3.heap.size, 0, none⟩) 40 (il (List.replicate 40 (if dn then 2 else 1))) := ho.rd_
            have hf0 : (if dn then (2 : Int) else 1) = 1 ∨ (if dn then (2 : Int) else 1) = 2 := by cases dn <;> simp
            generalize (if dn then (2 : Int) else 1) = f0 at *
            have hU4 := hu0.nx ho.nx
            have hB4 := b3.nx ho.nx
            have nx4 := nx3.tr ho.nx
            have hs34 := ho.nx.size
            have hl3 : w3.heap.size < w4.heap.size := (ho.lt _ rfl).2
            have hgB := hU4.ne_ hB4 (by decide)
            have hg4 := hU4.lt
            have hg3 : g < w3.heap.size := hu0.lt
            have d3 : w4.cell? ⟨W.heap.size, 3, none⟩ = some (.int .i64 (tr : Int)) := hB4.cell 3
            have hWl := hB4.lt
            clear ho hu0 b3 nx3 hu hrd
            have hDf : ∀ k, k = w3.heap.size → k ≠ g ∧ ¬ (k = w4.heap.size) := fun k e => ⟨by omega, by omega⟩
            have hso := fun W => up_state (w := W) (g := g) (u := st key n piece tr wt tr) (dv := .slice A' n c')
            rw [(st_over (key := key) (n := n) (piece := piece) (wt := wt) (tr := tr)).1] at hso
            have Hso := Lib.hid hso
            clear hso
            go_wp2_with fail
            go_region_held3 (fun w' => w'.cell? ⟨W.heap.size, 3, none⟩ = some (.int .i64 (tr : Int))) (first | go_keep | exact f3) ((first
              | (go_at_call 11; refine (run_silent _ (fun k => k = w4.heap.size) (fun k => k = w3.heap.size) g w4.heap.size key n piece tr wt _ _ _ f0 hf0 (hU4.alloc _).drew ((sto_new w4).nx ((Ch.refl _ _).drew)) (hrd4.nx (by omega) (((Ch.refl _ w4).alloc _).drew)) (by omega) (by simp [maxLen]) (by omega) hDf (by omega) (by omega) (by omega) hk).mono ?_; rintro e w5 ⟨rfl, hU5, c5⟩; have f3 : w5.cell? ⟨W.heap.size, 3, none⟩ = some (.int .i64 (tr : Int)) := (c5.cell (p := ⟨W.heap.size, 3, none⟩) (by simp; omega) (by rintro (e | e); exact hgB e.symm; simp at e; omega)).trans ((World.cell?_alloc_lt w4 _ _ hWl).trans d3); have nx5 : Nx W w5 := ((nx4.alloc _).drew).trans c5 (fun k hk e => by omega); clear c5)
              | (go_at_call 12; refine (Hso.out _ hU5).mono ?_; rintro e w6 ⟨rfl, rfl⟩)))
            all_goals go_wp2_with fail
            all_goals go_ret
            all_goals exact ⟨by simp, by assumption⟩
      · have Hok := Lib.hid hok
        clear hok
        with_reducible refine (new_bad key A n c piece tries wait _ (by omega) Hok.out).mono ?_
        rintro e w3 ⟨rfl, rfl⟩
        go_wp2_with fail
        go_ret
        exact ⟨rfl, nx2⟩
  · rw [show decide (n ≤ 3000 ∧ key.size ≤ 100) = false by simp only [decide_eq_false_iff_not]; exact hfew]
    clear hfew
    go_wp2_with fail
    with_reducible refine (lives_any _).mono ?_
    rintro e w3 ⟨rfl, n3⟩
    go_wp2_with fail
    go_ret
    exact ⟨rfl, nx2.tr n3⟩

theorem walks : Walks 4 Try.f4 := by
  intro H enc W args ds ps h
  rw [Try.params4] at h
  obtain ⟨key, A, n, c, xs, piece, tries, wait, vs, ds1, q, rfl, hk, hl, hr, ok, hn, hc, i1, i2, i3, h1⟩ := h.setting
  obtain ⟨dn, vs', ds2, q2, e2, h2⟩ := h1.bool
  have e3 := h2.nil
  simp at e2 e3
  subst e2 e3
  exact walk key A n c xs piece tries wait dn W hk hl hr (by unfold maxLen at hc; omega) i2 i3

/-- whatever the input, the law answers true -/
theorem proved : Rows.UploadGivesUpSaid :=
  OpenClaim.holds_of_wide 4 Try.f4 rfl rfl rfl rfl rfl rfl rfl ⟨rfl, rfl, rfl, rfl, rfl⟩ rfl rfl rfl rfl rfl (by kernel_rfl) Try.func4 (by kernel_rfl)
    (of_decide_eq_true (by kernel_rfl)) (by unfold Func.isWrapper; first | (rw [if_pos (by decide +kernel)]; kernel_rfl) | (rw [if_neg (by decide +kernel)]; exact ⟨rfl, rfl⟩))
    (fun os started H enc _ => law_lifted (s := Rows.uploadGivesUpSpec) Try.func4 (by kernel_rfl) rfl rfl
      (by intro H ds h; rw [Try.params4] at h; match ds, h with | [d1, d2], _ => rfl)
      (by rw [Try.params4]; intro t ht; simp at ht; rcases ht with rfl | rfl <;> exact ⟨by kernel_rfl, of_decide_eq_true (by kernel_rfl)⟩) walks os started H enc
      (ChangeSpec.witness6 (enc := enc) (C := Try.checked) false ⟨#[], #[.agg #[.string ⟨#[]⟩, .slice none 0 0, .int .i64 0, .int .i64 0, .int .i64 0], .bool false], []⟩ 8 (by kernel_rfl) (by kernel_rfl) (by kernel_rfl) (by kernel_rfl)))
end Go.Proofs.Ytfepigiapageeaa.UploadGivesUp
