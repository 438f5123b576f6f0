/- PrefixFull: by a code of at least two words any bits are read, symbol by symbol, as long as there are fifteen left. Conditions: none. -/
import Derived.Test.YtgbjbhghifildaaPrefixL
import Derived.Test.YtgbjbhghifildaaPlainF
namespace Go.Proofs.Ytgbjbhghifildaa.PrefixFull
open Go.RowKit
set_option linter.unusedVariables false

theorem rdr_at_cell {w : World} {g h : Nat} {bs : List Nat} {p : Nat} (r : RdrIs w g h bs p) : atCell w g 1 = (p : Int) := by
  obtain ⟨A, c, b, _⟩ := r
  exact atCell_blk b rfl
/-- how many of the first k lengths are above nought -/
def posTo (zs : List Int) (k : Nat) : Nat := (zs.take k).countP fun z => decide (0 < z)
theorem posTo_succ {zs : List Int} {k : Nat} (h : k < zs.length) : posTo zs (k + 1) = posTo zs k + if 0 < zs[k] then 1 else 0 := by
  unfold posTo
  rw [List.take_succ_eq_append_getElem h, List.countP_append]
  simp
theorem posTo_le (zs : List Int) (k : Nat) : posTo zs k ≤ k := by
  unfold posTo
  have := List.countP_le_length (p := fun z : Int => decide (0 < z)) (l := zs.take k)
  simp at this
  omega

set_option maxRecDepth 100000 in
set_option maxHeartbeats 8000000 in
theorem walk (A A2 : Option Addr) (n c n2 c2 : Nat) (zs : List Int) (xs : List Nat) (W : World) (hr : Rd W (· < W.heap.size) 1 A n (il zs)) (hl : zs.length = n) (hn : n ≤ 140737488351232)
    (hr2 : Rd W (· < W.heap.size) 1 A2 n2 (bl xs)) (hx : xs.length = n2) (ok : okB xs) (hn2 : n2 ≤ 140737488351232) :
    Calls Try.prog 10 #[.slice A n c, .slice A2 n2 c2] W fun e W' => e = .returned (.bool true) ∧ Nx W W' := by
  have Hl := Lib.hid hl
  have HX := Lib.hid hx
  clear hl hx
  go_enter Try.func10, Try.ntmps10
  go_wp2_with fail
  with_reducible refine (lives_any _).mono ?_
  rintro e w1 ⟨rfl, n1⟩
  by_cases hbig : 320 < n
  · go_wp2_with fail
    with_reducible refine (lives_any _).mono ?_
    rintro e w2 ⟨rfl, n2'⟩
    go_wp2_with fail
    go_ret
    exact ⟨rfl, n1.tr n2'⟩
  by_cases hbig2 : 200 < n2
  · go_wp2_with fail
    with_reducible refine (lives_any _).mono ?_
    rintro e w2 ⟨rfl, n2'⟩
    go_wp2_with fail
    go_ret
    exact ⟨rfl, n1.tr n2'⟩
  by_cases herr : mkErr zs = 0
  · go_wp2_with fail
    with_reducible refine (make_ok _ A n c zs _ (hr.nx (by omega) n1) Hl.out (by omega) herr).mono ?_
    rintro e w2 ⟨t, rfl, ht, n2'⟩
    have n12 := n1.tr n2'
    have Herr := Lib.hid herr
    clear herr n2'
    go_wp2_with fail
    go_loop [7, 37] (fun v i => ∃ k : Nat, k ≤ n ∧ i = .int .i64 k ∧ v = .int .i64 (posTo zs k : Int)) (fun _ i => n - (intOf i).toNat)
    case atStart => exact ⟨0, by omega, rfl, by simp [posTo]⟩
    case round =>
      obtain ⟨k, hk, rfl, rfl⟩ := hrel
      by_cases hlt : k < n
      · obtain ⟨ad, u, rfl, hDa, hu, hc⟩ := (hr.nx (by omega) n12).at_ hlt
        have hkz : k < zs.length := by rw [Hl.out]; exact hlt
        rw [il_get hkz] at hu
        injection hu with hu
        subst hu
        have hps := posTo_succ hkz
        have hpl := posTo_le zs k
        generalize zs[k] = z at *
        have Hps := Lib.hid hps
        clear hps
        by_cases hz : 0 < z
        · go_wp2_with fail
          go_round
          case rel => exact ⟨k + 1, by omega, by go_num, by rw [Hps.out, if_pos hz]; go_num⟩
          case measure => simp [intOf]; omega
        · go_wp2_with fail
          go_round
          case rel => exact ⟨k + 1, by omega, by go_num, by rw [Hps.out, if_neg hz]; go_num⟩
          case measure => simp [intOf]; omega
      · obtain rfl : k = n := by omega
        have hall : posTo zs k = allc zs 15 := by
          rw [allc_pos (mkErr_ok Herr.out).2.1]
          unfold posTo
          rw [List.take_of_length_le (by rw [Hl.out]; exact Nat.le_refl _)]
        rw [hall]
        have Hall := Lib.hid hall
        clear hall
        by_cases h2 : allc zs 15 < 2
        · go_wp2_with fail
          go_ret
          exact ⟨by simp, n12⟩
        · have hful : endc zs 15 = 32768 := by
            have := (mkErr_ok Herr.out).2.2.2
            omega
          have Hful := Lib.hid hful
          clear hful
          have hge : (15 : Int) ≤ 15 := by omega
          go_wp2_with fail
          with_reducible refine (newReader_any _ A2 n2 c2 xs _ (hr2.nx (by omega) n12) (by omega) ok).mono ?_
          rintro e w3 ⟨g, h, rfl, q, a1, a2, a3, a4, c3⟩
          have ht3 := (ht.nx c3)
          have hsz := n12.size
          have hwl := mkErr_ok Herr.out
          have Hwl := Lib.hid hwl
          clear hwl
          go_wp2_with fail
          go_loopw [11] (fun _ wr => ∃ p : Nat, RdrIs wr g h xs p ∧ TblIs wr (fun k => w1.heap.size ≤ k ∧ k < w2.heap.size) t zs ∧ Nx W wr) (fun _ wr => (8 * (xs.length : Int) - atCell wr g 1).toNat)
          case atStart => exact ⟨0, q, ht3, n12.tr c3⟩
          case round =>
            clear q ht3
            obtain ⟨wo, rfl⟩ : ∃ wo : World, wo = wr := ⟨_, rfl⟩
            obtain ⟨p, q, tb, nx⟩ := hrel
            have hm0 := rdr_at_cell q
            have Hm0 := Lib.hid hm0
            have hple := q.le
            clear hm0
            by_cases h15 : p + 15 ≤ 8 * xs.length
            · obtain ⟨s, hs, h0, hs15, hnf⟩ := nextF_full (p := p) (by rw [Hl.out]; omega) Hful.out h15
              have Hnf := Lib.hid hnf
              have hle15 : (15 : Int) ≤ 8 * (xs.length : Int) - (p : Int) := by omega
              have hne : zs[s] ≠ 0 := by omega
              have hls1 := lenS_eq hs (by omega)
              have hlpos : 0 < lenS zs s := by omega
              clear hnf h0 hls1
              go_wp2_with fail
              with_reducible refine (rdr_left g h xs p _ q).mono ?_
              rintro e w4 ⟨rfl, nd, rfl⟩
              go_wp2_with fail
              with_reducible refine (rdr_at g h xs p _ (q.nx (Dr.mk_ _ _).nx)).mono ?_
              rintro e w4 ⟨rfl, rfl⟩
              go_wp2_with fail
              with_reducible refine (next_any _ t zs g h xs p _ (tb.nx (Dr.mk_ _ _).nx) (q.nx (Dr.mk_ _ _).nx) (by omega)).mono ?_
              rintro e w4 ⟨rfl, q4, c4⟩
              rw [Hnf.out] at q4 ⊢
              have n4 := (nx.drewN nd).trans c4 (by intro i hi e; omega)
              have tb4 := (tb.nx (Dr.mk_ wo nd).nx).ch c4 (fun k hk e => by omega)
              go_wp2_with fail
              with_reducible refine (word_some _ t zs s _ tb4 hs hne).mono ?_
              rintro e w5 ⟨rfl, nd5, rfl⟩
              go_wp2_with fail
              with_reducible refine (rdr_at g h xs _ _ (q4.nx (Dr.mk_ _ _).nx)).mono ?_
              rintro e w5 ⟨rfl, rfl⟩
              go_wp2_with fail
              have q5 := q4.nx (Dr.mk_ w4 nd5).nx
              refine ⟨⟨_, q5, tb4.nx (Dr.mk_ _ _).nx, n4.drewN _⟩, ?_⟩
              have e1 := rdr_at_cell q5
              rw [e1, Hm0.out]
              show (8 * (xs.length : Int) - ((p + lenS zs s : Nat) : Int)).toNat < _
              omega
            · have hle15 : ¬ ((15 : Int) ≤ 8 * (xs.length : Int) - (p : Int)) := by omega
              go_wp2_with fail
              with_reducible refine (rdr_left g h xs p _ q).mono ?_
              rintro e w4 ⟨rfl, nd, rfl⟩
              go_wp2_with fail
              with_reducible refine (rdr_left g h xs p _ (q.nx (Dr.mk_ _ _).nx)).mono ?_
              rintro e w5 ⟨rfl, nd5, rfl⟩
              go_wp2_with fail
              go_ret
              exact ⟨by simp, nx.drewN _⟩
  · have herr' : (mkErr zs != 0) = true := by rw [bne_iff_ne]; exact herr
    go_wp2_with fail
    with_reducible refine (make_err _ A n c zs _ (hr.nx (by omega) n1) Hl.out (by omega) herr).mono ?_
    rintro e w2 ⟨rfl, n2'⟩
    have n12 := n1.tr n2'
    go_wp2_with fail
    go_loop [7, 37] (fun v i => ∃ k : Nat, k ≤ n ∧ i = .int .i64 k ∧ v = .int .i64 (posTo zs k : Int)) (fun _ i => n - (intOf i).toNat)
    case atStart => exact ⟨0, by omega, rfl, by simp [posTo]⟩
    case round =>
      obtain ⟨k, hk, rfl, rfl⟩ := hrel
      by_cases hlt : k < n
      · obtain ⟨ad, u, rfl, hDa, hu, hc⟩ := (hr.nx (by omega) n12).at_ hlt
        have hkz : k < zs.length := by rw [Hl.out]; exact hlt
        rw [il_get hkz] at hu
        injection hu with hu
        subst hu
        have hps := posTo_succ hkz
        have hpl := posTo_le zs k
        generalize zs[k] = z at *
        have Hps := Lib.hid hps
        clear hps
        by_cases hz : 0 < z
        · go_wp2_with fail
          go_round
          case rel => exact ⟨k + 1, by omega, by go_num, by rw [Hps.out, if_pos hz]; go_num⟩
          case measure => simp [intOf]; omega
        · go_wp2_with fail
          go_round
          case rel => exact ⟨k + 1, by omega, by go_num, by rw [Hps.out, if_neg hz]; go_num⟩
          case measure => simp [intOf]; omega
      · go_wp2_with fail
        go_ret
        exact ⟨by simp, n12⟩

theorem walks : Walks 10 Try.f10 := by
  intro H enc W args ds ps h
  rw [Try.params10] at h
  obtain ⟨A, n, c, zs, vs, ds1, q, rfl, hl, hr, ok, hn, hc, h1⟩ := h.intl
  obtain ⟨A2, n2, c2, xs, vs', ds2, q2, e2, hl2, hr2, ok2, hn2, hc2, h2⟩ := h1.bytes
  have e3 := h2.nil
  simp at e2 e3
  subst e2 e3
  exact walk A A2 n c n2 c2 zs xs W hr hl (by omega) hr2 hl2 ok2 (by omega)

/-- whatever the input, the law answers true -/
theorem proved : Rows.PrefixFullSaid :=
  OpenClaim.holds_of_wide 10 Try.f10 rfl rfl rfl rfl rfl rfl rfl ⟨rfl, rfl, rfl, rfl, rfl⟩ rfl rfl rfl rfl rfl (by kernel_rfl) Try.func10 (by kernel_rfl)
    (of_decide_eq_true (by kernel_rfl)) (by unfold Func.isWrapper; first | (rw [if_pos (by decide +kernel)]; kernel_rfl) | (rw [if_neg (by decide +kernel)]; exact ⟨rfl, rfl⟩))
    (fun os started H enc _ => law_lifted (s := Rows.prefixFullSpec) Try.func10 (by kernel_rfl) rfl rfl
      (by intro H ds h; rw [Try.params10] at h; match ds, h with | [d1, d2], _ => rfl)
      (by rw [Try.params10]; intro t ht; simp at ht; rcases ht with rfl | rfl <;> exact ⟨by kernel_rfl, of_decide_eq_true (by kernel_rfl)⟩) walks os started H enc
      (ChangeSpec.witness6 (enc := enc) (C := Try.checked) false ⟨#[], #[.slice none 0 0, .slice none 0 0], []⟩ 8 (by kernel_rfl) (by kernel_rfl) (by kernel_rfl) (by kernel_rfl)))
end Go.Proofs.Ytgbjbhghifildaa.PrefixFull
