/- PrefixFree: no word begins another one. Conditions: none. -/
import Derived.Test.YtgbjbhghifildaaPrefixL
namespace Go.Proofs.Ytgbjbhghifildaa.PrefixFree
open Go.RowKit
set_option linter.unusedVariables false

set_option maxRecDepth 100000 in
set_option maxHeartbeats 4000000 in
theorem walk (A : Option Addr) (n c : Nat) (zs : List Int) (a b : Int) (W : World) (hr : Rd W (· < W.heap.size) 1 A n (il zs)) (hl : zs.length = n) (hn : n ≤ 140737488351232) :
    Calls Try.prog 7 #[.slice A n c, .int .i64 a, .int .i64 b] W fun e W' => e = .returned (.bool true) ∧ Nx W W' := by
  have Hl := Lib.hid hl
  clear hl
  go_enter Try.func7, Try.ntmps7
  go_wp2_with fail
  with_reducible refine (lives_any _).mono ?_
  rintro e w1 ⟨rfl, n1⟩
  by_cases hbig : 320 < n
  · go_wp2_with fail
    with_reducible refine (lives_any _).mono ?_
    rintro e w2 ⟨rfl, n2⟩
    go_wp2_with fail
    go_ret
    exact ⟨rfl, n1.tr n2⟩
  · by_cases hab : a = b
    · subst hab
      go_wp2_with fail
      with_reducible refine (lives_any _).mono ?_
      rintro e w2 ⟨rfl, n2⟩
      go_wp2_with fail
      go_ret
      exact ⟨rfl, n1.tr n2⟩
    · have hab' : (a == b) = false := by rw [beq_eq_false_iff_ne]; exact hab
      by_cases herr : mkErr zs = 0
      · go_wp2_with fail
        with_reducible refine (make_ok _ A n c zs _ (hr.nx (by omega) n1) Hl.out (by omega) herr).mono ?_
        rintro e w2 ⟨t, rfl, ht, n2⟩
        have n12 := n1.tr n2
        by_cases ha : a < 0 ∨ (zs.length : Int) ≤ a ∨ zs.getD a.toNat 0 = 0
        · by_cases hb : b < 0 ∨ (zs.length : Int) ≤ b ∨ zs.getD b.toNat 0 = 0
          · have Ha := Lib.hid ha
            have Hb := Lib.hid hb
            clear ha hb
            go_wp2_with fail
            with_reducible refine (word_none _ t zs a _ ht Ha.out).mono ?_
            rintro e w3 ⟨rfl, rfl⟩
            go_wp2_with fail
            with_reducible refine (word_none _ t zs b _ ht Hb.out).mono ?_
            rintro e w3 ⟨rfl, rfl⟩
            go_wp2_with fail
            go_ret
            exact ⟨rfl, n12⟩
          · obtain ⟨kb, rfl⟩ := Int.eq_ofNat_of_zero_le (show 0 ≤ b by omega)
            have hkb : kb < zs.length := by omega
            have hzb : zs[kb] ≠ 0 := fun h => hb (.inr (.inr (by simpa [List.getD, hkb] using h)))
            have Ha := Lib.hid ha
            clear ha hb
            go_wp2_with fail
            with_reducible refine (word_none _ t zs a _ ht Ha.out).mono ?_
            rintro e w3 ⟨rfl, rfl⟩
            go_wp2_with fail
            with_reducible refine (word_some _ t zs kb _ ht hkb hzb).mono ?_
            rintro e w3 ⟨rfl, nd, rfl⟩
            go_wp2_with fail
            go_ret
            exact ⟨rfl, n12.drewN _⟩
        · obtain ⟨ka, rfl⟩ := Int.eq_ofNat_of_zero_le (show 0 ≤ a by omega)
          have hka : ka < zs.length := by omega
          have hza : zs[ka] ≠ 0 := fun h => ha (.inr (.inr (by simpa [List.getD, hka] using h)))
          by_cases hb : b < 0 ∨ (zs.length : Int) ≤ b ∨ zs.getD b.toNat 0 = 0
          · have Hb := Lib.hid hb
            clear ha hb
            go_wp2_with fail
            with_reducible refine (word_some _ t zs ka _ ht hka hza).mono ?_
            rintro e w3 ⟨rfl, nd, rfl⟩
            go_wp2_with fail
            with_reducible refine (word_none _ t zs b _ (ht.nx (Dr.mk_ _ _).nx) Hb.out).mono ?_
            rintro e w3 ⟨rfl, rfl⟩
            go_wp2_with fail
            go_ret
            exact ⟨rfl, n12.drewN _⟩
          · obtain ⟨kb, rfl⟩ := Int.eq_ofNat_of_zero_le (show 0 ≤ b by omega)
            have hkb : kb < zs.length := by omega
            have hzb : zs[kb] ≠ 0 := fun h => hb (.inr (.inr (by simpa [List.getD, hkb] using h)))
            have hall := (mkErr_ok herr).2.1
            have h0a := hall _ (List.getElem_mem hka)
            have h0b := hall _ (List.getElem_mem hkb)
            have hea := lenS_eq hka h0a.1
            have heb := lenS_eq hkb h0b.1
            have hla : lenS zs ka ≤ 15 := by omega
            have hlb : lenS zs kb ≤ 15 := by omega
            have hfree : lenS zs ka ≤ lenS zs kb → (((codeW zs kb : Int) / 2 ^ (lenS zs kb - lenS zs ka)) != (codeW zs ka : Int)) = true := fun hle => by
              rw [bne_iff_ne]
              intro h
              refine code_free hka hkb (by omega) (by omega) (fun e => hab (by rw [e])) hle ?_
              have e1 : ((codeW zs kb : Int) / 2 ^ (lenS zs kb - lenS zs ka)) = ((codeW zs kb / 2 ^ (lenS zs kb - lenS zs ka) : Nat) : Int) := by simp
              rw [e1] at h
              omega
            clear ha hb h0a h0b hea heb hall
            go_wp2_with fail
            with_reducible refine (word_some _ t zs ka _ ht hka hza).mono ?_
            rintro e w3 ⟨rfl, nd, rfl⟩
            go_wp2_with fail
            with_reducible refine (word_some _ t zs kb _ (ht.nx (Dr.mk_ _ _).nx) hkb hzb).mono ?_
            rintro e w3 ⟨rfl, nd2, rfl⟩
            by_cases hle : lenS zs ka ≤ lenS zs kb
            · have hf := hfree hle
              have hle2 : ¬ ((lenS zs kb : Int) < (lenS zs ka : Int)) := by omega
              have hle3 : (0 : Int) ≤ (lenS zs kb : Int) - (lenS zs ka : Int) := by omega
              clear hfree
              go_wp2_with fail
              go_ret
              exact ⟨by simp, n12.drewN _⟩
            · have hle2 : ((lenS zs kb : Int) < (lenS zs ka : Int)) := by omega
              clear hfree
              go_wp2_with fail
              go_ret
              exact ⟨by simp, n12.drewN _⟩
      · have herr' : (mkErr zs != 0) = true := by rw [bne_iff_ne]; exact herr
        go_wp2_with fail
        with_reducible refine (make_err _ A n c zs _ (hr.nx (by omega) n1) Hl.out (by omega) herr).mono ?_
        rintro e w2 ⟨rfl, n2⟩
        go_wp2_with fail
        go_ret
        exact ⟨rfl, n1.tr n2⟩

theorem walks : Walks 7 Try.f7 := by
  intro H enc W args ds ps h
  rw [Try.params7] at h
  obtain ⟨A, n, c, zs, vs, ds1, q, rfl, hl, hr, ok, hn, hc, h1⟩ := h.intl
  obtain ⟨a, vs, ds2, q, e1, ha, h2⟩ := h1.int
  obtain ⟨b, vs', ds3, q, e2, hb, h3⟩ := h2.int
  have e3 := h3.nil
  simp at e1 e2 e3
  subst e1 e2 e3
  exact walk A n c zs a b W hr hl (by omega)

/-- whatever the input, the law answers true -/
theorem proved : Rows.PrefixFreeSaid :=
  OpenClaim.holds_of_wide 7 Try.f7 rfl rfl rfl rfl rfl rfl rfl ⟨rfl, rfl, rfl, rfl, rfl⟩ rfl rfl rfl rfl rfl (by kernel_rfl) Try.func7 (by kernel_rfl)
    (of_decide_eq_true (by kernel_rfl)) (by unfold Func.isWrapper; first | (rw [if_pos (by decide +kernel)]; kernel_rfl) | (rw [if_neg (by decide +kernel)]; exact ⟨rfl, rfl⟩))
    (fun os started H enc _ => law_lifted (s := Rows.prefixFreeSpec) Try.func7 (by kernel_rfl) rfl rfl
      (by intro H ds h; rw [Try.params7] at h; match ds, h with | [d1, d2, d3], _ => rfl)
      (by rw [Try.params7]; intro t ht; simp at ht; rcases ht with rfl | rfl <;> exact ⟨by kernel_rfl, of_decide_eq_true (by kernel_rfl)⟩) walks os started H enc
      (ChangeSpec.witness6 (enc := enc) (C := Try.checked) false ⟨#[], #[.slice none 0 0, .int .i64 0, .int .i64 0], []⟩ 8 (by kernel_rfl) (by kernel_rfl) (by kernel_rfl) (by kernel_rfl)))
end Go.Proofs.Ytgbjbhghifildaa.PrefixFree
