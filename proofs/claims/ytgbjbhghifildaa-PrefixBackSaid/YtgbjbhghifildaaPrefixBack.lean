/- PrefixBack: what is written word by word is read so. Conditions: none. -/
import Derived.Test.YtgbjbhghifildaaPrefixL
import Derived.Test.YtgbjbhghifildaaPlainF
import Derived.Test.YtgbjbhghifildaaPuts
namespace Go.Proofs.Ytgbjbhghifildaa.PrefixBack
open Go.RowKit
set_option linter.unusedVariables false

/-- is there a word of symbol s? -/
def Has (zs : List Int) (s : Int) : Prop := 0 ≤ s ∧ s < (zs.length : Int) ∧ zs.getD s.toNat 0 ≠ 0
instance (zs : List Int) (s : Int) : Decidable (Has zs s) := by unfold Has; infer_instance
/-- the symbols that have words -/
def taken (zs : List Int) (l : List Int) : List Nat := l.filterMap fun s => if Has zs s then some s.toNat else none
def symBits (zs : List Int) (l : List Nat) : List Bool := l.flatMap fun s => codeBits (codeW zs s) (lenS zs s)
def nl (l : List Nat) : List Int := l.map fun x : Nat => (x : Int)
theorem taken_succ {zs l : List Int} {k : Nat} (h : k < l.length) : taken zs (l.take (k + 1)) = taken zs (l.take k) ++ if Has zs l[k] then [l[k].toNat] else [] := by
  unfold taken
  rw [List.take_succ_eq_append_getElem h, List.filterMap_append]
  congr 1
  by_cases hh : Has zs l[k] <;> simp [hh]
theorem taken_le (zs l : List Int) : (taken zs l).length ≤ l.length := List.length_filterMap_le _ _
theorem taken_has {zs l : List Int} {s : Nat} (h : s ∈ taken zs l) : Has zs (s : Int) := by
  unfold taken at h
  rw [List.mem_filterMap] at h
  obtain ⟨x, _, hx⟩ := h
  split at hx
  · next hh =>
    injection hx with hx
    have : ((s : Nat) : Int) = x := by have := hh.1; omega
    rw [this]
    exact hh
  · cases hx
theorem symBits_le {zs : List Int} (l : List Nat) (h : ∀ s ∈ l, lenS zs s ≤ 15) : (symBits zs l).length ≤ 15 * l.length := by
  induction l with
  | nil => simp [symBits]
  | cons s l ih =>
    have e : symBits zs (s :: l) = codeBits (codeW zs s) (lenS zs s) ++ symBits zs l := rfl
    have h1 := h s (by simp)
    have h2 := ih (fun x hx => h x (by simp [hx]))
    rw [e, List.length_append, codeBits_length, List.length_cons]
    omega
theorem symBits_succ {zs : List Int} {l : List Nat} {k : Nat} (h : k < l.length) : symBits zs (l.take (k + 1)) = symBits zs (l.take k) ++ codeBits (codeW zs l[k]) (lenS zs l[k]) := by
  rw [List.take_succ_eq_append_getElem h]
  unfold symBits
  rw [List.flatMap_append]
  simp only [List.flatMap_cons, List.flatMap_nil, List.append_nil]
/-- the bits of a word, where the pack holds it -/
theorem own_bits {zs : List Int} {L : List Bool} {P s : Nat} {a c : List Bool} (hL : L = a ++ codeBits (codeW zs s) (lenS zs s) ++ c) (hP : P = a.length) (hc : codeW zs s < 2 ^ lenS zs s) :
    msb (bitsFrom (pack L) P) (lenS zs s) = codeW zs s := by
  have h : ∀ i, i < lenS zs s → bitsFrom (pack L) P i = b2n ((codeW zs s).testBit (lenS zs s - 1 - i)) := by
    intro i hi
    unfold bitsFrom
    rw [bitAt_pack, hL, hP, getD_app _ _ _ _ (by rw [codeBits_length]; exact hi), codeBits_getD _ _ _ hi]
  rw [msb_code h _ (Nat.le_refl _), Nat.sub_self, Nat.pow_zero, Nat.div_one]
  exact Nat.mod_eq_of_lt hc
theorem symBits_cut {zs : List Int} {l : List Nat} {k : Nat} (h : k < l.length) : ∃ c, symBits zs l = symBits zs (l.take k) ++ codeBits (codeW zs l[k]) (lenS zs l[k]) ++ c := by
  refine ⟨symBits zs (l.drop (k + 1)), ?_⟩
  rw [← symBits_succ h]
  unfold symBits
  rw [← List.flatMap_append, List.take_append_drop]
theorem has_lt {zs : List Int} {s : Nat} (h : Has zs (s : Int)) : ∃ hs : s < zs.length, zs[s] ≠ 0 := by
  obtain ⟨h0, h1, h2⟩ := h
  have hs : s < zs.length := by omega
  refine ⟨hs, fun e => h2 ?_⟩
  simp [List.getD, hs, e]
theorem len_le {zs : List Int} (he : mkErr zs = 0) {s : Nat} (h : Has zs (s : Int)) : lenS zs s ≤ 15 ∧ codeW zs s < 2 ^ lenS zs s := by
  obtain ⟨hs, hz⟩ := has_lt h
  have hall := (mkErr_ok he).2.1 _ (List.getElem_mem hs)
  have hle := lenS_eq hs hall.1
  have hc := codeW_lt hs (by omega)
  have := endc_le (mkErr_ok he).2.2.1 (lenS zs s) (by omega)
  omega
theorem own_wr3 {W w w' : World} {v : Value} {n : Nat} {xs : List Value} {g : Nat} {h : Option Nat} {l : List Bool} (ho : OwnS W w 3 1 v n xs) (r : WrIs w g h l) (c : Ch (fun k => k = g ∨ h = some k) w w')
    (hg : W.heap.size ≤ g) (hh : ∀ j, h = some j → W.heap.size ≤ j) : OwnS W w' 3 1 v n xs := by
  obtain ⟨u, b, o, x⟩ := r
  refine ho.ch c ?_ ?_
  · rintro k hk (e | e)
    · exact own_blk_ne ho.own b (by decide) (by rw [hk, e])
    · exact own_own_far ho.own o (by decide) k hk (x.trans e)
  · rintro i hi (e | e)
    · omega
    · have := hh i e; omega
theorem wr_own3 {W w w' : World} {v v' : Value} {n : Nat} {xs : List Value} {g : Nat} {h : Option Nat} {l : List Bool} (ho : OwnS W w 3 1 v n xs) (r : WrIs w g h l) (m : Moved w w' v v') : WrIs w' g h l := by
  have r' := r
  obtain ⟨u, b, o, x⟩ := r
  refine r'.ch m.ch (fun e => own_blk_ne ho.own b (by decide) e) (fun k hk e => ?_)
  exact own_own_far ho.own o (by decide) k e (x.trans hk)

set_option maxRecDepth 100000 in
set_option maxHeartbeats 8000000 in
theorem walk (A A2 : Option Addr) (n c n2 c2 : Nat) (zs ss : List Int) (W : World) (hr : Rd W (· < W.heap.size) 1 A n (il zs)) (hl : zs.length = n) (hn : n ≤ 140737488351232)
    (hr2 : Rd W (· < W.heap.size) 1 A2 n2 (il ss)) (hx : ss.length = n2) (hn2 : n2 ≤ 140737488351232) :
    Calls Try.prog 11 #[.slice A n c, .slice A2 n2 c2] W fun e W' => e = .returned (.bool true) ∧ Nx W W' := by
  obtain ⟨i0, hi0, hz0, hz1, hz2⟩ := info_parts Try.info3
  have Hl := Lib.hid hl
  have HX := Lib.hid hx
  clear hl hx
  go_enter Try.func11, Try.ntmps11
  go_wp2_with fail
  with_reducible refine (lives_any _).mono ?_
  rintro e w1 ⟨rfl, n1⟩
  by_cases hbig : 320 < n
  · go_wp2_with fail
    with_reducible refine (lives_any _).mono ?_
    rintro e w2 ⟨rfl, n2'⟩
    go_wp2_with fail
    go_ret
    exact ⟨rfl, n1.tr n2'⟩
  by_cases hbig2 : 300 < n2
  · go_wp2_with fail
    with_reducible refine (lives_any _).mono ?_
    rintro e w2 ⟨rfl, n2'⟩
    go_wp2_with fail
    go_ret
    exact ⟨rfl, n1.tr n2'⟩
  by_cases herr : mkErr zs = 0
  · go_wp2_with fail
    with_reducible refine (make_ok _ A n c zs _ (hr.nx (by omega) n1) Hl.out (by omega) herr).mono ?_
    rintro e w2 ⟨t, rfl, ht, n2'⟩
    have n12 := n1.tr n2'
    have Herr := Lib.hid herr
    clear herr n2'
    have hat : WrAt w2 (w2.alloc (.cells #[.slice none 0 0, .int .i64 0] 34)) w2.heap.size [] := ⟨none, WrIs.new w2, by simp, (Ch.refl _ w2).alloc _⟩
    have hnl := OwnS.nil w2 (w2.alloc (.cells #[.slice none 0 0, .int .i64 0] 34)) 3 1 ((Ch.refl _ w2).alloc _)
    go_wp2_with fail
    generalize w2.alloc (.cells #[.slice none 0 0, .int .i64 0] 34) = w3 at *
    go_loopw [8, 45] (fun v i wr => ∃ k : Nat, k ≤ n2 ∧ i = .int .i64 k ∧ WrAt w2 wr w2.heap.size (symBits zs (taken zs (ss.take k))) ∧ OwnS w2 wr 3 1 v (taken zs (ss.take k)).length (il (nl (taken zs (ss.take k))))) (fun _ i _ => n2 - (intOf i).toNat)
    case atStart => exact ⟨0, by omega, rfl, by simpa [taken, symBits] using hat, by simpa [taken, nl, il] using hnl⟩
    case round =>
      clear hat hnl
      obtain ⟨wo, rfl⟩ : ∃ wo : World, wo = wr := ⟨_, rfl⟩
      obtain ⟨k, hk, rfl, ⟨h1, r1, e1, nx⟩, ho⟩ := hrel
      by_cases hlt : k < n2
      · obtain ⟨ad, u, rfl, hDa, hu, hc⟩ := ((hr2.nx (by omega) n12).nx (by omega) nx).at_ hlt
        have hkz : k < ss.length := by rw [HX.out]; exact hlt
        rw [il_get hkz] at hu
        injection hu with hu
        subst hu
        have hts := taken_succ (zs := zs) hkz
        have htl := taken_le zs (ss.take k)
        have htl2 : (taken zs (ss.take k)).length ≤ 300 := by simp at htl; omega
        have hsl := symBits_le (zs := zs) (taken zs (ss.take k)) (fun s hs => (len_le Herr.out (taken_has hs)).1)
        have hsl2 : (symBits zs (taken zs (ss.take k))).length ≤ 4500 := by omega
        clear htl hsl
        generalize ss[k] = s at *
        generalize hT : taken zs (ss.take k) = T at *
        have HT := Lib.hid hT
        have Hts := Lib.hid hts
        clear hT hts
        have tb := ht.nx nx
        by_cases hh : Has zs s
        · obtain ⟨s', rfl⟩ := Int.eq_ofNat_of_zero_le hh.1
          obtain ⟨hs, hz⟩ := has_lt hh
          have hll := len_le Herr.out hh
          have hcw : codeW zs s' < 4294967296 := by
            have : (2 : Nat) ^ lenS zs s' ≤ 2 ^ 15 := Nat.pow_le_pow_right (by omega) hll.1
            omega
          have hl15 : lenS zs s' ≤ 15 := hll.1
          have Hh := Lib.hid hh
          clear hll hh
          go_wp2_with fail
          with_reducible refine (word_some _ t zs s' _ tb hs hz).mono ?_
          rintro e w4 ⟨rfl, nd, rfl⟩
          go_wp2_with fail
          with_reducible refine (wr_code _ h1 _ (codeW zs s') (lenS zs s') _ (r1.nx (Dr.mk_ _ _).nx) (by omega) hcw (by omega)).mono ?_
          rintro e w5 ⟨rfl, h5, r5, q5, c5⟩
          have o5 := own_wr3 (ho.drewN nd) (r1.nx (Dr.mk_ _ _).nx) c5 (Nat.le_refl _) e1
          have e5 := new_le (W := w2) (w := wo.drewN nd) nx.size e1 q5
          clear c5 q5 r1 ho
          go_wp2_with (at_builtin; refine wpList_app1 rfl (.tmp 62) (.tmp 64) _ rfl 3 i0 _ 8 Try.underlying39 hi0 hz0 hz1 hz2 rfl _ rfl rfl o5 rfl (by simp only [maxLen]; omega) (by omega) ?_; intro v' w6 o6 m6)
          have r6 := wr_own3 o5 r5 m6
          obtain ⟨A6, c6, hv6, _, _⟩ := o6.form
          go_roundw
          case rel =>
            refine ⟨k + 1, by omega, by go_num, ?_, ?_⟩
            · rw [Hts.out, if_pos Hh.out]
              refine ⟨h5, ?_, e5, o6.nx⟩
              have e : symBits zs (T ++ [((s' : Nat) : Int).toNat]) = symBits zs T ++ codeBits (codeW zs s') (lenS zs s') := by simp [symBits]
              rw [e]
              exact r6
            · rw [Hts.out, if_pos Hh.out]
              have e : il (nl (T ++ [((s' : Nat) : Int).toNat])) = il (nl T) ++ [.int .i64 (s' : Int)] := by simp [il, nl]
              rw [e, List.length_append]
              exact o6
          case measure => simp [intOf]; omega
        · have hno : s < 0 ∨ (zs.length : Int) ≤ s ∨ zs.getD s.toNat 0 = 0 := by
            unfold Has at hh
            by_cases h1 : 0 ≤ s
            · by_cases h2 : s < (zs.length : Int)
              · exact .inr (.inr (Classical.byContradiction fun h3 => hh ⟨h1, h2, h3⟩))
              · omega
            · omega
          have Hno := Lib.hid hno
          have Hh := Lib.hid hh
          clear hno hh
          go_wp2_with fail
          with_reducible refine (word_none _ t zs s _ tb Hno.out).mono ?_
          rintro e w4 ⟨rfl, rfl⟩
          go_wp2_with fail
          go_roundw
          case rel => exact ⟨k + 1, by omega, by go_num, by rw [Hts.out, if_neg Hh.out, List.append_nil]; exact ⟨h1, r1, e1, nx⟩, by rw [Hts.out, if_neg Hh.out, List.append_nil]; exact ho⟩
          case measure => simp [intOf]; omega
      · rw [List.take_of_length_le (by rw [HX.out]; omega)] at r1 ho
        have htl := taken_le zs ss
        have htl2 : (taken zs ss).length ≤ 300 := by have := HX.out; omega
        have hsl := symBits_le (zs := zs) (taken zs ss) (fun s hs => (len_le Herr.out (taken_has hs)).1)
        have hsl2 : (symBits zs (taken zs ss)).length ≤ 4500 := by omega
        have hhas := fun s hs => taken_has (zs := zs) (l := ss) (s := s) hs
        clear htl hsl
        generalize taken zs ss = T at *
        generalize hL : symBits zs T = L at *
        have HL := Lib.hid hL
        have Hhas := Lib.hid hhas
        clear hL hhas
        obtain ⟨A3, c3, rfl, _, _⟩ := ho.form
        have hpk := pack_length L
        have hpk1 : (pack L).length ≤ 1000 := by omega
        have Hpk := Lib.hid hpk
        clear hpk
        have hpok : okB (pack L) := pack_lt L
        go_wp2_with fail
        with_reducible refine (wr_bytes _ _ L _ r1 (by omega)).mono ?_
        rintro e w4 ⟨k5, p5, rfl, b5, b5', o5, d5, c5⟩
        go_wp2_with fail
        with_reducible refine (newReader_any _ _ _ _ (pack L) _ d5 (by omega) hpok).mono ?_
        rintro e w5 ⟨g, hh, rfl, q, a1, a2, a3, a4, c6⟩
        have n5 := (nx.tr c5).tr c6
        have s5 := c5.size
        have s1 := nx.size
        have rd5 : Rd w5 (· < w4.heap.size) 1 A3 T.length (il (nl T)) := ((ho.tr c5).rd.more fun k hk => hk.2.2).nx (by omega) c6
        have tb5 := ht.nx n5
        have nx5 := n12.tr n5
        have hw2 : w2.heap.size ≤ w4.heap.size := by omega
        have hW2 := n12.size
        clear c5 c6 o5 d5 r1 ho
        go_wp2_with fail
        go_loopw [72] (fun i wr => ∃ k : Nat, k ≤ T.length ∧ i = .int .i64 k ∧ RdrIs wr g hh (pack L) (symBits zs (T.take k)).length ∧ TblIs wr (fun k => w1.heap.size ≤ k ∧ k < w2.heap.size) t zs ∧ Rd wr (· < w4.heap.size) 1 A3 T.length (il (nl T)) ∧ Nx W wr) (fun i _ => T.length - (intOf i).toNat)
        case atStart => exact ⟨0, by omega, rfl, by simpa [symBits] using q, tb5, rd5, nx5⟩
        case round =>
          clear q tb5 rd5 nx5
          obtain ⟨wi, rfl⟩ : ∃ wi : World, wi = wr := ⟨_, rfl⟩
          obtain ⟨k, hk, rfl, q, tb, rd, nxi⟩ := hrel
          by_cases hlt : k < T.length
          · obtain ⟨ad, u, rfl, hDa, hu, hc⟩ := rd.at_ hlt
            have hkl : k < (nl T).length := by unfold nl; rw [List.length_map]; exact hlt
            have hnk : (nl T)[k] = ((T[k] : Nat) : Int) := by simp [nl]
            rw [il_get hkl, hnk] at hu
            injection hu with hu
            subst hu
            have hs := Hhas.out T[k] (List.getElem_mem hlt)
            obtain ⟨hsl, hz⟩ := has_lt hs
            obtain ⟨hl15, hcw⟩ := len_le Herr.out hs
            have hsu := symBits_succ (zs := zs) hlt
            obtain ⟨c', hcut⟩ := symBits_cut (zs := zs) hlt
            rw [HL.out] at hcut
            have hm := own_bits hcut rfl hcw
            have hlc := congrArg List.length hcut
            rw [List.length_append, List.length_append, codeBits_length] at hlc
            have hpk := Hpk.out
            have hran := (mkErr_ok Herr.out).2.1 _ (List.getElem_mem hsl)
            have hnf := nextF_own hsl (by omega) hran.2 hm (by omega)
            have Hnf := Lib.hid hnf
            have Hsu := Lib.hid hsu
            have hsul := congrArg List.length hsu
            rw [List.length_append, codeBits_length] at hsul
            have Hsul := Lib.hid hsul
            clear hsu hsul hcut hm hlc hpk hran hnf hcw hs
            generalize T[k] = s at *
            generalize hP : (symBits zs (T.take k)).length = P at *
            have HP := Lib.hid hP
            clear hP
            go_wp2_with fail
            with_reducible refine (next_any _ t zs g hh (pack L) P _ tb q (by omega)).mono ?_
            rintro e w6 ⟨rfl, q6, c6⟩
            rw [Hnf.out] at q6 ⊢
            have n6 := nxi.trans c6 (by intro i hi e; omega)
            have tb6 := tb.ch c6 (fun k hk e => by omega)
            have rd6 := rd.ch (by omega) c6 (fun k _ hk e => by omega)
            go_wp2_with fail
            go_roundw
            case rel => exact ⟨k + 1, by omega, by go_num, by rw [Hsul.out]; exact q6, tb6, rd6, n6⟩
            case measure => simp [intOf]; omega
          · have hkT : k = T.length := by omega
            have hP : (symBits zs (T.take k)).length = L.length := by rw [hkT, List.take_length, HL.out]
            rw [hP] at q
            have hpk := Hpk.out
            have h8 : 8 * ((pack L).length : Int) - (L.length : Int) < 8 := by omega
            clear hP hpk
            go_wp2_with fail
            with_reducible refine (rdr_left g hh (pack L) _ _ q).mono ?_
            rintro e w6 ⟨rfl, nd, rfl⟩
            go_wp2_with fail
            go_ret
            exact ⟨by simp [h8], nxi.drewN _⟩
  · have herr' : (mkErr zs != 0) = true := by rw [bne_iff_ne]; exact herr
    go_wp2_with fail
    with_reducible refine (make_err _ A n c zs _ (hr.nx (by omega) n1) Hl.out (by omega) herr).mono ?_
    rintro e w2 ⟨rfl, n2'⟩
    go_wp2_with fail
    go_ret
    exact ⟨rfl, n1.tr n2'⟩

theorem walks : Walks 11 Try.f11 := by
  intro H enc W args ds ps h
  rw [Try.params11] at h
  obtain ⟨A, n, c, zs, vs, ds1, q, rfl, hl, hr, ok, hn, hc, h1⟩ := h.intl
  obtain ⟨A2, n2, c2, xs, vs', ds2, q2, e2, hl2, hr2, ok2, hn2, hc2, h2⟩ := h1.intl
  have e3 := h2.nil
  simp at e2 e3
  subst e2 e3
  exact walk A A2 n c n2 c2 zs xs W hr hl (by omega) hr2 hl2 (by omega)

/-- whatever the input, the law answers true -/
theorem proved : Rows.PrefixBackSaid :=
  OpenClaim.holds_of_wide 11 Try.f11 rfl rfl rfl rfl rfl rfl rfl ⟨rfl, rfl, rfl, rfl, rfl⟩ rfl rfl rfl rfl rfl (by kernel_rfl) Try.func11 (by kernel_rfl)
    (of_decide_eq_true (by kernel_rfl)) (by unfold Func.isWrapper; first | (rw [if_pos (by decide +kernel)]; kernel_rfl) | (rw [if_neg (by decide +kernel)]; exact ⟨rfl, rfl⟩))
    (fun os started H enc _ => law_lifted (s := Rows.prefixBackSpec) Try.func11 (by kernel_rfl) rfl rfl
      (by intro H ds h; rw [Try.params11] at h; match ds, h with | [d1, d2], _ => rfl)
      (by rw [Try.params11]; intro t ht; simp at ht; rcases ht with rfl | rfl <;> exact ⟨by kernel_rfl, of_decide_eq_true (by kernel_rfl)⟩) walks os started H enc
      (ChangeSpec.witness6 (enc := enc) (C := Try.checked) false ⟨#[], #[.slice none 0 0, .slice none 0 0], []⟩ 8 (by kernel_rfl) (by kernel_rfl) (by kernel_rfl) (by kernel_rfl)))
end Go.Proofs.Ytgbjbhghifildaa.PrefixBack
