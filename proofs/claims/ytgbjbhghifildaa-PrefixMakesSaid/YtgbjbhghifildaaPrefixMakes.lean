/- PrefixMakes: any lengths make the words that the document says, or are refused as it says. Conditions: none. -/
import Derived.Test.YtgbjbhghifildaaRef05W
import Derived.Test.YtgbjbhghifildaaRef05
import Derived.Test.YtgbjbhghifildaaRef05N
namespace Go.Proofs.Ytgbjbhghifildaa.PrefixMakes
open Go.RowKit
set_option linter.unusedVariables false

theorem make_bad (D : Nat → Prop) (A : Option Addr) (n c : Nat) (zs : List Int) (W : World) (hr : Rd W D 1 A n (il zs)) (hl : zs.length = n) (hn : n ≤ 400) (he : mkErr zs ≠ 0) :
    Calls Try.prog 30 #[.slice A n c] W fun e w' => e = .returned (.tuple #[.pointer none, .int .i64 (mkErr zs)]) ∧ Nx W w' := by
  by_cases hbig : 320 < n
  · refine (make_long A n c W hbig (by omega)).mono ?_
    rintro e w' ⟨rfl, rfl⟩
    have h5 : mkErr zs = 5 := by unfold mkErr; rw [if_pos (by omega)]
    rw [h5]
    exact ⟨rfl, Ch.refl _ _⟩
  · exact make_err D A n c zs W hr hl (by omega) he
theorem word_ne {zs : List Int} {s : Nat} (h : 0 < lenS zs s) : (txt (codeBits (codeW zs s) (lenS zs s))).toList.isEmpty = false ∧ ((txt (codeBits (codeW zs s) (lenS zs s))).toList == []) = false := by
  have h1 : (txt (codeBits (codeW zs s) (lenS zs s))).size = lenS zs s := by rw [txt_size, codeBits_length]
  have h2 : (txt (codeBits (codeW zs s) (lenS zs s))).toList ≠ [] := by
    intro e
    rw [ByteArray.toList_eq] at e
    have : (txt (codeBits (codeW zs s) (lenS zs s))).data = #[] := by simpa using e
    simp [ByteArray.size, this] at h1
    omega
  exact ⟨by simpa using h2, by simpa using h2⟩
/-- the law's own copy while it is gone through -/
def Mine (W wr : World) (zs : List Int) (n k g cap : Nat) : Prop := ∃ ys : List Int, ys.length = n ∧ OwnS W wr 3 1 (.slice (some ⟨g, 0, none⟩) n cap) n (il ys) ∧ ∀ i, k ≤ i → ys[i]? = zs[i]?

theorem Mine.step {W wr : World} {zs : List Int} {n k g cap : Nat} (h : Mine W wr zs n k g cap) : Mine W (wr.setCell ⟨g, k, none⟩ (.int .i64 3)) zs n (k + 1) g cap := by
  obtain ⟨ys, h1, h2, h3⟩ := h
  refine ⟨ys.set k 3, by simpa using h1, ?_, fun i hi => ?_⟩
  · have e : il (ys.set k 3) = (il ys).set k (.int .i64 3) := by simp [il, List.map_set]
    rw [e]
    exact h2.store k _
  · rw [List.getElem?_set_ne (by omega)]
    exact h3 i (by omega)
theorem Mine.drewN {W wr : World} {zs : List Int} {n k g cap : Nat} (h : Mine W wr zs n k g cap) (q : Nat) : Mine W (wr.drewN q) zs n k g cap := by
  obtain ⟨ys, h1, h2, h3⟩ := h
  exact ⟨ys, h1, h2.drewN q, h3⟩
def LoopB (W w2 w3 w5 : World) (zs : List Int) (n kw capw t : Nat) (i : Value) (wr : World) : Prop :=
  ∃ j : Nat, j ≤ n ∧ i = .int .i64 j ∧ OwnS w5 wr 9 1 (.slice (some ⟨kw, 0, none⟩) n capw) n (sl (strs zs)) ∧ TblIs wr (fun b => w2.heap.size ≤ b ∧ b < w3.heap.size) t zs ∧ Nx W wr
def LoopA (W w1 w2 w3 : World) (zs : List Int) (n k cap t : Nat) (i : Value) (wr : World) : Prop :=
  ∃ j : Nat, j ≤ n ∧ i = .int .i64 j ∧ Mine w1 wr zs n j k cap ∧ TblIs wr (fun b => w2.heap.size ≤ b ∧ b < w3.heap.size) t zs ∧ Nx W wr
def LoopE (W w1 : World) (zs : List Int) (n k cap : Nat) (i : Value) (wr : World) : Prop :=
  ∃ j : Nat, j ≤ n ∧ i = .int .i64 j ∧ Mine w1 wr zs n j k cap ∧ Nx W wr

set_option maxRecDepth 100000 in
set_option maxHeartbeats 8000000 in
theorem walk (A : Option Addr) (n c : Nat) (zs : List Int) (sym : Int) (W : World) (hr : Rd W (· < W.heap.size) 1 A n (il zs)) (hl : zs.length = n) (hn : n ≤ 140737488351232) :
    Calls Try.prog 9 #[.slice A n c, .int .i64 sym] W fun e W' => e = .returned (.bool true) ∧ Nx W W' := by
  obtain ⟨i0, hi0, hz0, hz1, hz2⟩ := info_parts Try.info3
  have Hl := Lib.hid hl
  clear hl
  go_enter Try.func9, Try.ntmps9
  go_wp2_with fail
  with_reducible refine (lives_any _).mono ?_
  rintro e w1 ⟨rfl, n1⟩
  by_cases hbig : 400 < n
  · go_wp2_with fail
    with_reducible refine (lives_any _).mono ?_
    rintro e w2 ⟨rfl, n2⟩
    go_wp2_with fail
    go_ret
    exact ⟨rfl, n1.tr n2⟩
  have hr1 : Rd (w1.alloc (.cells #[] 3)) (· < W.heap.size) 1 A n (il zs) := (hr.nx (by omega) n1).nx (by omega) ((Ch.refl _ w1).alloc _)
  have hil : ∀ u ∈ il zs, u.oneCell' = true := by intro u hu; simp only [il, List.mem_map] at hu; obtain ⟨x, _, rfl⟩ := hu; rfl
  have Hil := Lib.hid hil
  clear hil
  go_wp2_with (at_builtin; refine wpList_append_any _ rfl (.tmp 32) (.tmp 33) _ rfl w1.heap.size 3 i0 _ 1 8 Try.underlying39 hi0 hz0 hz1 hz2 rfl (by omega) (.slice (some ⟨w1.heap.size, 0, none⟩) 0 0) 0 [] rfl (World.ownsRow_made w1 #[] 0 (Nat.le_refl _) (by simp [maxLen]) rfl) (· < W.heap.size) A n c (il zs) rfl hr1 Hil.out (by simp only [maxLen]; omega) (by omega) (by simp) ?_; intro v' w2 hown hg hat; obtain ⟨k, cap, hv, hk, hk1, hrd, hnx, ho⟩ := fresh_lit hown hg hat; clear hown hg hat; rw [hv]; clear hv)
  have o2 : OwnS w1 w2 3 1 (.slice (some ⟨k, 0, none⟩) n cap) n (il zs) := ⟨ho, hnx⟩
  clear ho hr1
  have hr2 : Rd w2 (· < W.heap.size) 1 A n (il zs) := hr.nx (by omega) (n1.tr hnx)
  have hs1 := n1.size
  have hcap := o2.form
  by_cases herr : mkErr zs = 0
  · have hn320 := (mkErr_ok herr).1
    rw [Hl.out] at hn320
    have Herr := Lib.hid herr
    clear herr hcap
    with_reducible refine (make_ok _ _ n cap zs _ hrd Hl.out hn320 Herr.out).mono ?_
    rintro e w3 ⟨t, rfl, ht, n3⟩
    have o3 := o2.tr n3
    clear o2 hrd
    have hk3 := n3.size
    go_wp2_with fail
    go_loopw [42] (LoopA W w1 w2 w3 zs n k cap t) (fun i _ => n - (intOf i).toNat)
    case atStart => exact ⟨0, by omega, rfl, ⟨zs, Hl.out, o3, fun _ _ => rfl⟩, ht, (n1.tr hnx).tr n3⟩
    case round =>
      clear o3 ht hr2
      obtain ⟨w4, rfl⟩ : ∃ w4 : World, w4 = wr := ⟨_, rfl⟩
      obtain ⟨j, hj, rfl, hm, tb, nx⟩ := hrel
      by_cases hlt : j < n
      · obtain ⟨ad, u, rfl, hDa, hu, hc⟩ := (hr.nx (by omega) nx).at_ hlt
        have hjz : j < zs.length := by rw [Hl.out]; exact hlt
        rw [il_get hjz] at hu
        injection hu with hu
        subst hu
        have hm0 := hm
        obtain ⟨ys, hy1, hy2, hy3⟩ := hm0
        obtain ⟨uo, hou, hoc, hof⟩ := hy2.at_ j hlt
        rw [il_get (by omega)] at hou
        injection hou with hou
        have hyz : ys[j]'(by omega) = zs[j] := by
          have := hy3 j (Nat.le_refl _)
          rw [List.getElem?_eq_getElem (by omega), List.getElem?_eq_getElem hjz] at this
          injection this
        rw [← hou, hyz] at hoc
        clear hou hyz hy1 hy2 hy3
        generalize zs[j] = z at *
        have hstep : ∀ q : Nat, LoopA W w1 w2 w3 zs n k cap t (.int .i64 ((j : Int) + 1)) ((w4.drewN q).setCell ⟨k, j, none⟩ (.int .i64 3)) := fun q =>
          ⟨j + 1, by omega, by go_num, (hm.drewN q).step, (tb.nx (Dr.mk_ _ q).nx).ch (Ch.setCell (S := fun b => b = k) (Ch.refl _ _) (p := ⟨k, j, none⟩) (fun _ => rfl) (.int .i64 3)) (fun b hb e => by omega), (nx.drewN q).setCell (fun h => by simp only at h; omega) _⟩
        have hlt2 : (j : Int) < (n : Int) := by omega
        have h0j : (0 : Int) ≤ (j : Int) := by omega
        have Hstep := Lib.hid hstep
        clear hjz hstep hm
        go_wp2_with fail
        go_quiet (fail)
        go_wp2_with fail
        go_roundw
        case rel => exact Hstep.out _
        case measure => simp [intOf]; omega
      · obtain rfl : j = n := by omega
        have hr3 := hr.nx (by omega) nx
        clear hm
        go_wp2_with fail
        with_reducible refine (ref_check _ A j c zs _ hr3 Hl.out (by omega)).mono ?_
        rintro e w5 ⟨rfl, n5⟩
        rw [Herr.out]
        go_wp2_with fail
        have hr5 := hr3.nx (by omega) n5
        have tb5 := tb.nx n5
        have nx5 := nx.tr n5
        clear hr3 tb nx
        with_reducible refine (ref_words _ A j c zs _ hr5 Hl.out Herr.out).mono ?_
        rintro e w6 ⟨kw, capw, rfl, o6, hkw, hkw2, hcw1, hcw2⟩
        have hW5 := nx5.size
        have tb6 := tb5.nx o6.nx
        have nx6 := nx5.tr o6.nx
        clear tb5 nx5 hr5
        have hj320 := hn320
        go_wp2_with fail
        go_loopw [93] (LoopB W w2 w3 w5 zs j kw capw t) (fun i _ => j - (intOf i).toNat)
        case atStart => exact ⟨0, by omega, rfl, o6, tb6, nx6⟩
        case round =>
          clear o6 tb6 nx6
          obtain ⟨w7, rfl⟩ : ∃ w7 : World, w7 = wr := ⟨_, rfl⟩
          obtain ⟨s, hs, rfl, o7, tb7, nx7⟩ := hrel
          by_cases hlt : s < j
          · obtain ⟨uo, hou, hoc, hof⟩ := o7.at_ s hlt
            have hsz : s < zs.length := by rw [Hl.out]; exact hlt
            rw [sl_get (by rw [strs_length]; exact hsz)] at hou
            injection hou with hou
            have hst : (strs zs)[s]'(by rw [strs_length]; exact hsz) = wordS zs s := by simp [strs]
            rw [← hou, hst] at hoc
            clear hou hst
            have hgd : zs.getD s 0 = zs[s] := by simp [List.getD, hsz]
            have hall := (mkErr_ok Herr.out).2.1 _ (List.getElem_mem hsz)
            have hends : ∀ q : Nat, LoopB W w2 w3 w5 zs j kw capw t (.int .i64 ((s : Int) + 1)) (w7.drewN q) := fun q => ⟨s + 1, by omega, by go_num, o7.drewN q, tb7.nx (Dr.mk_ _ q).nx, nx7.drewN q⟩
            have Hends := Lib.hid hends
            clear hends
            by_cases hz : zs[s] = 0
            · have hw0 : wordS zs s = [] := by unfold wordS; rw [if_neg (by rw [hgd, hz]; omega)]
              rw [hw0, txt_nil] at hoc
              have Hgd0 : Hid (zs.getD s 0 = 0) := Lib.hid (hgd.trans hz)
              clear hw0 hgd hall hz
              go_wp2_with fail
              with_reducible refine (word_none _ t zs (s : Int) _ tb7 (.inr (.inr (by rw [Int.toNat_natCast]; exact Hgd0.out)))).mono ?_
              rintro e w8 ⟨rfl, rfl⟩
              go_wp2_with fail
              go_roundw
              case rel => exact Hends.out 0
              case measure => simp [intOf]; omega
            · have hpos : 0 < zs[s] := by omega
              have hlen := lenS_eq hsz (by omega)
              have hlt3 := codeW_lt hsz hpos
              have hend := endc_le (mkErr_ok Herr.out).2.2.1 (lenS zs s) (by omega)
              have hw1 : wordS zs s = codeBits (codeW zs s) (lenS zs s) := by unfold wordS; rw [if_pos (by rw [hgd]; exact hpos)]
              rw [hw1] at hoc
              obtain ⟨hemp, hemp2⟩ := word_ne (zs := zs) (s := s) (by omega)
              have hnum := fun w => ref_number (codeBits (codeW zs s) (lenS zs s)) w (by rw [codeBits_length]; omega)
              rw [codeBits_length, numOf_code (by omega)] at hnum
              have hsize := txt_size (codeBits (codeW zs s) (lenS zs s))
              rw [codeBits_length] at hsize
              have Hz := Lib.hid hz
              generalize txt (codeBits (codeW zs s) (lenS zs s)) = str at *
              have Hnum := Lib.hid hnum
              have hls : lenS zs s ≤ 15 := by omega
              clear hnum hw1 hend hlt3 hlen hpos hgd hall hz
              go_wp2_with fail
              with_reducible refine (word_some _ t zs s _ tb7 hsz Hz.out).mono ?_
              rintro e w8 ⟨rfl, nd, rfl⟩
              go_wp2_with fail
              with_reducible refine (Hnum.out _).mono ?_
              rintro e w9 ⟨rfl, rfl⟩
              go_wp2_with fail
              go_roundw
              case rel => exact Hends.out nd
              case measure => simp [intOf]; omega
          · obtain rfl : s = j := by omega
            clear o7
            by_cases hs0 : sym < 0
            · go_wp2_with fail
              with_reducible refine (word_none _ t zs sym _ tb7 (.inl hs0)).mono ?_
              rintro e w8 ⟨rfl, rfl⟩
              go_wp2_with fail
              with_reducible refine (next_nil2 t _).mono ?_
              rintro e w9 ⟨rfl, rfl⟩
              go_wp2_with fail
              go_ret
              exact ⟨rfl, nx7⟩
            · by_cases hs1 : (s : Int) ≤ sym
              · go_wp2_with fail
                with_reducible refine (word_none _ t zs sym _ tb7 (.inr (.inl (by rw [Hl.out]; exact hs1)))).mono ?_
                rintro e w8 ⟨rfl, rfl⟩
                go_wp2_with fail
                with_reducible refine (next_nil2 t _).mono ?_
                rintro e w9 ⟨rfl, rfl⟩
                go_wp2_with fail
                go_ret
                exact ⟨rfl, nx7⟩
              · obtain ⟨ks, rfl⟩ := Int.eq_ofNat_of_zero_le (show 0 ≤ sym by omega)
                have hks : ks < zs.length := by rw [Hl.out]; omega
                by_cases hz : zs[ks] = 0
                · have hgd : zs.getD ks 0 = 0 := by simp [List.getD, hks, hz]
                  have Hgd := Lib.hid hgd
                  clear hgd hz hks
                  go_wp2_with fail
                  with_reducible refine (word_none _ t zs (ks : Int) _ tb7 (.inr (.inr (by rw [Int.toNat_natCast]; exact Hgd.out)))).mono ?_
                  rintro e w8 ⟨rfl, rfl⟩
                  go_wp2_with fail
                  with_reducible refine (next_nil2 t _).mono ?_
                  rintro e w9 ⟨rfl, rfl⟩
                  go_wp2_with fail
                  go_ret
                  exact ⟨rfl, nx7⟩
                · have Hz := Lib.hid hz
                  clear hz
                  go_wp2_with fail
                  with_reducible refine (word_some _ t zs ks _ tb7 hks Hz.out).mono ?_
                  rintro e w8 ⟨rfl, nd, rfl⟩
                  go_wp2_with fail
                  with_reducible refine (next_nil2 t _).mono ?_
                  rintro e w9 ⟨rfl, rfl⟩
                  go_wp2_with fail
                  go_ret
                  exact ⟨rfl, nx7.drewN nd⟩
  · with_reducible refine (make_bad _ _ n cap zs _ hrd Hl.out (by omega) herr).mono ?_
    rintro e w3 ⟨rfl, n3⟩
    have o3 := o2.tr n3
    have Herr := Lib.hid herr
    clear herr hcap
    go_wp2_with fail
    go_loopw [42] (LoopE W w1 zs n k cap) (fun i _ => n - (intOf i).toNat)
    case atStart => exact ⟨0, by omega, rfl, ⟨zs, Hl.out, o3, fun _ _ => rfl⟩, (n1.tr hnx).tr n3⟩
    case round =>
      clear o3 hr2
      obtain ⟨w4, rfl⟩ : ∃ w4 : World, w4 = wr := ⟨_, rfl⟩
      obtain ⟨j, hj, rfl, hm, nx⟩ := hrel
      by_cases hlt : j < n
      · obtain ⟨ad, u, rfl, hDa, hu, hc⟩ := (hr.nx (by omega) nx).at_ hlt
        have hjz : j < zs.length := by rw [Hl.out]; exact hlt
        rw [il_get hjz] at hu
        injection hu with hu
        subst hu
        have hm0 := hm
        obtain ⟨ys, hy1, hy2, hy3⟩ := hm0
        obtain ⟨uo, hou, hoc, hof⟩ := hy2.at_ j hlt
        rw [il_get (by omega)] at hou
        injection hou with hou
        have hyz : ys[j]'(by omega) = zs[j] := by
          have := hy3 j (Nat.le_refl _)
          rw [List.getElem?_eq_getElem (by omega), List.getElem?_eq_getElem hjz] at this
          injection this
        rw [← hou, hyz] at hoc
        clear hou hyz hy1 hy2 hy3
        generalize zs[j] = z at *
        have hstep : ∀ q : Nat, LoopE W w1 zs n k cap (.int .i64 ((j : Int) + 1)) ((w4.drewN q).setCell ⟨k, j, none⟩ (.int .i64 3)) := fun q =>
          ⟨j + 1, by omega, by go_num, (hm.drewN q).step, (nx.drewN q).setCell (fun h => by simp only at h; omega) _⟩
        have hlt2 : (j : Int) < (n : Int) := by omega
        have h0j : (0 : Int) ≤ (j : Int) := by omega
        have Hstep := Lib.hid hstep
        clear hjz hstep hm
        go_wp2_with fail
        go_quiet (fail)
        go_wp2_with fail
        go_roundw
        case rel => exact Hstep.out _
        case measure => simp [intOf]; omega
      · obtain rfl : j = n := by omega
        have hr3 := hr.nx (by omega) nx
        clear hm
        have herr' : (mkErr zs != 0) = true := by rw [bne_iff_ne]; exact Herr.out
        go_wp2_with fail
        with_reducible refine (ref_check _ A j c zs _ hr3 Hl.out (by omega)).mono ?_
        rintro e w5 ⟨rfl, n5⟩
        have nx5 := nx.tr n5
        go_wp2_with fail
        with_reducible refine (word_nil 0 _).mono ?_
        rintro e w6 ⟨rfl, rfl⟩
        go_wp2_with fail
        with_reducible refine (newReader_any (fun _ => False) none 0 0 [] _ (Rd.none_ _ _ _ _) (by omega) (by unfold okB; intro x hx; simp at hx)).mono ?_
        rintro e w7 ⟨g, h, rfl, -, -, -, -, -, n7⟩
        go_wp2_with fail
        with_reducible refine (next_nil (some ⟨g, 0, none⟩) _).mono ?_
        rintro e w8 ⟨rfl, rfl⟩
        go_wp2_with fail
        go_ret
        exact ⟨rfl, nx5.tr n7⟩

theorem walks : Walks 9 Try.f9 := by
  intro H enc W args ds ps h
  rw [Try.params9] at h
  obtain ⟨A, n, c, zs, vs, ds1, q, rfl, hl, hr, ok, hn, hc, h1⟩ := h.intl
  obtain ⟨a, vs', ds2, q2, e2, ha, h2⟩ := h1.int
  have e3 := h2.nil
  simp at e2 e3
  subst e2 e3
  exact walk A n c zs a W hr hl (by omega)

/-- whatever the input, the law answers true -/
theorem proved : Rows.PrefixMakesSaid :=
  OpenClaim.holds_of_wide 9 Try.f9 rfl rfl rfl rfl rfl rfl rfl ⟨rfl, rfl, rfl, rfl, rfl⟩ rfl rfl rfl rfl rfl (by kernel_rfl) Try.func9 (by kernel_rfl)
    (of_decide_eq_true (by kernel_rfl)) (by unfold Func.isWrapper; first | (rw [if_pos (by decide +kernel)]; kernel_rfl) | (rw [if_neg (by decide +kernel)]; exact ⟨rfl, rfl⟩))
    (fun os started H enc _ => law_lifted (s := Rows.prefixMakesSpec) Try.func9 (by kernel_rfl) rfl rfl
      (by intro H ds h; rw [Try.params9] at h; match ds, h with | [d1, d2], _ => rfl)
      (by rw [Try.params9]; intro t ht; simp at ht; rcases ht with rfl | rfl <;> exact ⟨by kernel_rfl, of_decide_eq_true (by kernel_rfl)⟩) walks os started H enc
      (ChangeSpec.witness6 (enc := enc) (C := Try.checked) false ⟨#[], #[.slice none 0 0, .int .i64 0], []⟩ 8 (by kernel_rfl) (by kernel_rfl) (by kernel_rfl) (by kernel_rfl)))
end Go.Proofs.Ytgbjbhghifildaa.PrefixMakes
