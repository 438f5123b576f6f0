/- InflateBehind: what stands behind a squeezed text does not count, and without its last byte it ends too soon. Conditions: none. -/
import Derived.Test.YtdfamejakjnamaaInfA
import Derived.Test.YtdfamejakjnamaaPlainM
namespace Go.Proofs.Ytdfamejakjnamaa.InflateBehind
open Go.RowKit
set_option linter.unusedVariables false
theorem inflate_whole {bs : List Nat} {most : Int} (h0 : 0 ≤ most) (hm : most ≤ 65536) : inflateF bs most = if (wholeF bs most).e ≠ 0 then ([], 0, (wholeF bs most).e) else ((wholeF bs most).out, ((wholeF bs most).p + 7) / 8, 0) := by
  unfold inflateF
  rw [if_neg (by omega)]
  rfl
theorem whole_e {bs : List Nat} {most : Int} (h0 : 0 ≤ most) (hm : most ≤ 65536) (he : (inflateF bs most).2.2 = 0) : (wholeF bs most).e = 0 := by
  rw [inflate_whole h0 hm] at he
  by_cases h : (wholeF bs most).e ≠ 0
  · rw [if_pos h] at he; exact he
  · simpa using h
theorem inflate_bad {bs : List Nat} {most : Int} (h0 : 0 ≤ most) (hm : most ≤ 65536) (he : (inflateF bs most).2.2 ≠ 0) : (inflateF bs most).1 = [] ∧ (inflateF bs most).2.1 = 0 := by
  rw [inflate_whole h0 hm] at he ⊢
  by_cases h : (wholeF bs most).e ≠ 0
  · rw [if_pos h]; exact ⟨rfl, rfl⟩
  · rw [if_neg h] at he; exact absurd rfl he
theorem behind {xs ys : List Nat} (he : (inflateF xs 3000).2.2 = 0) : 1 ≤ (inflateF xs 3000).2.1 ∧ (inflateF xs 3000).2.1 ≤ xs.length ∧ inflateF (xs.take (inflateF xs 3000).2.1 ++ ys) 3000 = inflateF xs 3000 ∧
    (inflateF (xs.take ((inflateF xs 3000).2.1 - 1)) 3000) = ([], 0, 3) := by
  have hw := whole_e (by omega) (by omega) he
  have hl := whole_lock (by omega) hw
  have hp := whole_p hw
  have h1 : inflateF xs 3000 = ((wholeF xs 3000).out, ((wholeF xs 3000).p + 7) / 8, 0) := by rw [inflate_whole (by omega) (by omega), if_neg (by simp [hw])]
  have hb := whole_behind (by omega) hw ys
  have hc := whole_cut (by omega) hw (n := ((wholeF xs 3000).p + 7) / 8 - 1) (by omega)
  have hlen := hl.1
  rw [h1]
  refine ⟨by simp only; omega, by simp only; omega, ?_, ?_⟩
  · simp only
    rw [inflate_whole (by omega) (by omega), hb, if_neg (by simp [hw])]
  · simp only
    rw [inflate_whole (by omega) (by omega), if_pos (by rw [hc]; decide), hc]
theorem own_later {w w' : World} {v : Value} {n : Nat} {xs : List Value} (h : w.ownsRow 0 5 1 v n xs) (c : Ch (fun k => w.heap.size ≤ k) w w') : w'.ownsRow 0 5 1 v n xs :=
  own_ch h c fun k hk hs => by have := (h.lt k hk).2; have hs2 : w.heap.size ≤ k := hs; omega
theorem bl_take (xs : List Nat) (n : Nat) : (bl xs).take n = bl (xs.take n) := by simp [bl, List.map_take]
set_option maxRecDepth 100000 in
set_option maxHeartbeats 4000000 in
theorem walk (A A2 : Option Addr) (c c2 : Nat) (xs ys : List Nat) (W : World) (hr : Rd W (· < W.heap.size) 1 A xs.length (bl xs)) (ok : okB xs) (hn : xs.length ≤ 140737488351232) (hc : xs.length ≤ c) (hr2 : Rd W (· < W.heap.size) 1 A2 ys.length (bl ys)) (ok2 : okB ys) (hn2 : ys.length ≤ 140737488351232) :
    Calls Try.prog 6 #[.slice A xs.length c, .slice A2 ys.length c2] W fun e W' => e = .returned (.bool true) ∧ Nx W W' := by
  obtain ⟨i0, hi0, hz0, hz1, hz2⟩ := info_parts Try.info5
  go_enter Try.func6, Try.ntmps6
  go_wp2_with fail
  refine (lives6_any _).mono ?_
  rintro e w1 ⟨rfl, n1⟩
  by_cases hbig : 1500 < xs.length
  · go_wp2_with fail
    refine (lives6_any _).mono ?_
    rintro e w2 ⟨rfl, n2⟩
    go_wp2_with fail
    go_ret
    exact ⟨by simp, n1.tr n2⟩
  · by_cases hbig2 : 1500 < ys.length
    · go_wp2_with fail
      refine (lives6_any _).mono ?_
      rintro e w2 ⟨rfl, n2⟩
      go_wp2_with fail
      go_ret
      exact ⟨by simp, n1.tr n2⟩
    · go_wp2_with fail
      refine (inflate_c _ A c (hr.nx (by decide) n1) ok (by omega) (by omega)).mono ?_
      rintro e w2 ⟨v, rfl, ho, n2, okx⟩
      have nx2 : Nx W w2 := n1.trans n2 fun i hi hh => by have := n1.size; omega
      by_cases he : (inflateF xs 3000).2.2 = 0
      · obtain ⟨p1, p2, p3, p4⟩ := behind (ys := ys) he
        have P3 := Lib.hid p3
        have P4 := Lib.hid p4
        clear p3 p4
        generalize hF : inflateF xs 3000 = F at *
        obtain ⟨x, m, e0⟩ := F
        simp only at p1 p2 he ho okx P3 P4 ⊢
        subst he
        have HF := Lib.hid hF
        clear hF
        obtain ⟨A1, c1, rfl, _, _⟩ := own_form ho
        have hm1 : ¬ ((m : Int) < 1) := by omega
        have hm2 : (m : Int) ≤ (xs.length : Int) := by omega
        have hm3 : (m : Int) ≤ (c : Int) := by omega
        have hm0 : (0 : Int) ≤ (m : Int) := by omega
        obtain ⟨q, hq⟩ : ∃ q, m - 1 = q := ⟨_, rfl⟩
        have hq1 : (m : Int) - 1 = (q : Int) := by omega
        have hq2 : (q : Int) ≤ (c : Int) := by omega
        have hq0 : (0 : Int) ≤ (q : Int) := by omega
        have hq6 : IntKind.i64.wrap (q : Int) = (q : Int) := IntWalk.i64_in _ (by omega)
        have hq7 : q ≤ xs.length := by omega
        rw [hq] at P4
        have Hq := Lib.hid hq
        clear hq
        have hR2 : Rd w2 (· < W.heap.size) 1 A m (bl (xs.take m)) := by have := (hr.nx (by decide) nx2).take p2; rw [Nat.mul_one, bl_take] at this; exact this
        have hpl : (xs.take m).length = m := by rw [List.length_take]; omega
        go_wp2_with fail
        refine (twin_any _ A m c (xs.take m) _ hR2 (by omega)).mono ?_
        rintro e w3 ⟨k, cap, rfl, hk1, hk2, hown3, hrd3, nx3⟩
        have hRy := (hr2.nx (by decide) nx2).nx (by decide) nx3
        rw [hpl] at hown3 ⊢
        go_wp2_with (at_builtin; refine wpList_append_any _ rfl (.tmp 54) (.tmp 55) _ rfl w2.heap.size 5 i0 _ 1 1 Try.underlying22 hi0 hz0 hz1 hz2 rfl (by omega) (.slice (some ⟨k, 0, none⟩) m cap) m (bl (xs.take m)) rfl hown3 _ A2 ys.length c2 (bl ys) rfl hRy (bl_one ys) (by simp only [maxLen]; omega) (by omega) (by omega) ?_; intro v' w4 hown4 hg4 hat4; obtain ⟨A4, c4, rfl, _, _⟩ := own_form hown4)
        have hpy : (xs.take m ++ ys).length = m + ys.length := by rw [List.length_append, hpl]
        rw [← show bl (xs.take m ++ ys) = bl (xs.take m) ++ bl ys by simp [bl]] at hown4
        have hoky : okB (xs.take m ++ ys) := by
          intro x hx
          rcases List.mem_append.1 hx with hx | hx
          · exact ok x (List.mem_of_mem_take hx)
          · exact ok2 x hx
        have c34 : Ch (fun i => w2.heap.size ≤ i) w3 w4 := (Ch.refl _ w3).grown hg4 fun i hi _ => by simp [Value.ownBlock] at hi; omega
        have hrd4 := Rd.of_own hown4
        rw [← hpy] at hrd4 ⊢
        clear hown3 hrd3 hg4 hat4 hRy
        refine (inflate_c _ A4 c4 hrd4 hoky (by omega) (by omega)).mono ?_
        rintro e w5 ⟨v5, rfl, ho5, n5, ok5⟩
        rw [P3.out] at ho5 ok5 ⊢
        obtain ⟨A5, c5, rfl, _, _⟩ := own_form ho5
        have nx23 : Ch (fun i => w2.heap.size ≤ i) w2 w3 := nx3.mono fun _ _ hf => hf.elim
        have nx24 := nx23.trans c34 fun i _ h => h
        have hs24 := nx24.size
        have hs34 := c34.size
        have nx25 := nx24.trans n5 fun i _ h => by have hs2 : w4.heap.size ≤ i := h; show w2.heap.size ≤ i; omega
        have nx5 : Nx W w5 := nx2.trans nx25 fun i hi hh => by have := nx2.size; have hs2 : w2.heap.size ≤ i := hh; omega
        have hx5 := own_later ho nx25
        have hR5 : Rd w5 (· < W.heap.size) 1 A q (bl (xs.take q)) := by have := (hr.nx (by decide) nx5).take hq7; rw [Nat.mul_one, bl_take] at this; exact this
        have hql : (xs.take q).length = q := by rw [List.length_take]; omega
        clear hR2 hpl hpy hrd4
        go_wp2_with fail
        have h6 := inflate_c (W := w5) (bs := xs.take q) (most := 3000) _ A c (by rw [hql]; exact hR5) (fun x hx => ok x (List.mem_of_mem_take hx)) (by omega) (by omega)
        rw [hql] at h6
        refine h6.mono ?_
        rintro e w6 ⟨v6, rfl, ho6, n6, ok6⟩
        rw [P4.out] at ho6 ok6 ⊢
        obtain ⟨A6, c6, rfl, _, _⟩ := own_form ho6
        have nx6 : Nx W w6 := nx5.trans n6 fun i hi hh => by have := nx5.size; have hs2 : w5.heap.size ≤ i := hh; omega
        have hx6 := own_later hx5 n6
        have hy6 := own_later ho5 n6
        have hsame := same_any _ _ A1 A5 x.length c1 x.length c5 x x w6 (Rd.of_own hx6) (Rd.of_own hy6) okx okx
        simp only [decide_true] at hsame
        clear h6
        go_wp2_with fail
        refine hsame.mono ?_
        rintro e w7 ⟨rfl, rfl⟩
        go_wp2_with fail
        go_ret
        exact ⟨by simp, nx6⟩
      · have he' : ((inflateF xs 3000).2.2 != 0) = true := by rw [bne_iff_ne]; exact he
        obtain ⟨h1, h2⟩ := inflate_bad (by omega) (by omega) he
        rw [h1] at ho
        rw [h2]
        obtain ⟨A1, c1, rfl, _, _⟩ := own_form ho
        clear he h1 h2
        go_wp2_with fail
        go_ret
        exact ⟨by simp, nx2⟩

theorem walks : Walks 6 Try.f6 := by
  intro H enc W args ds ps h
  rw [Try.params6] at h
  obtain ⟨A, n, c, xs, vs, ds1, q, rfl, hl, hr, ok, hn, hc, h1⟩ := h.bytes
  obtain ⟨A2, n2, c2, ys, vs', ds2, q2, e2, hl2, hr2, ok2, hn2, hc2, h2⟩ := h1.bytes
  have e3 := h2.nil
  simp at e2 e3
  subst e2 e3
  subst hl hl2
  exact walk A A2 c c2 xs ys W hr ok (by omega) hn hr2 ok2 (by omega)

/-- whatever the input, the law answers true -/
theorem proved : Rows.InflateBehindSaid :=
  OpenClaim.holds_of_wide 6 Try.f6 rfl rfl rfl rfl rfl rfl rfl ⟨rfl, rfl, rfl, rfl, rfl⟩ rfl rfl rfl rfl rfl (by kernel_rfl) Try.func6 (by kernel_rfl)
    (of_decide_eq_true (by kernel_rfl)) (by unfold Func.isWrapper; first | (rw [if_pos (by decide +kernel)]; kernel_rfl) | (rw [if_neg (by decide +kernel)]; exact ⟨rfl, rfl⟩))
    (fun os started H enc _ => law_lifted (s := Rows.inflateBehindSpec) Try.func6 (by kernel_rfl) rfl rfl
      (by intro H ds h; rw [Try.params6] at h; match ds, h with | [d1, d2], _ => rfl)
      (by rw [Try.params6]; intro t ht; simp at ht; rcases ht with rfl | rfl <;> exact ⟨by kernel_rfl, of_decide_eq_true (by kernel_rfl)⟩) walks os started H enc
      (ChangeSpec.witness6 (enc := enc) (C := Try.checked) false ⟨#[], #[.slice none 0 0, .slice none 0 0], []⟩ 8 (by kernel_rfl) (by kernel_rfl) (by kernel_rfl) (by kernel_rfl)))
end Go.Proofs.Ytdfamejakjnamaa.InflateBehind
