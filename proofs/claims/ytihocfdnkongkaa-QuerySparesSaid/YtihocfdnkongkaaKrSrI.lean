/- The contracts of symMerge, stable and SortStableFunc over rows. Conditions: at most 1000000 rows, in memory that the call owns. -/
import Derived.Test.YtihocfdnkongkaaKrSrH
import Derived.Test.YtihocfdnkongkaaKrPlainSt
namespace Go.Proofs.Ytihocfdnkongkaa
set_option maxRecDepth 100000
open Go.RowKit
set_option linter.unusedVariables false
section
variable {w : World} {g cap : Nat} {A : Option Addr}
theorem sym_all {n : Nat} (hn2 : n ≤ 1000000) : ∀ k, SymC g cap n A k
  | 0 => fun w P A1 B S a m b h => by omega
  | k + 1 => fun w P A1 B S a m b hk h1 h2 hs hn ha hm hb hR => by
    by_cases e : A1.length + B.length < k
    · exact sym_all hn2 k w P A1 B S a m b e h1 h2 hs hn ha hm hb hR
    by_cases e1 : A1.length = 1
    · obtain ⟨x, rfl⟩ := List.length_eq_one_iff.1 e1
      exact sym_left hs hn hn2 ha hm hb hR
    by_cases e2 : B.length = 1
    · obtain ⟨x, rfl⟩ := List.length_eq_one_iff.1 e2
      exact sym_right hs hn hn2 ha hm hb (by omega) hR
    exact sym_step (sym_all hn2 k) (by omega) hs hn hn2 ha hm hb (by omega) (by omega) hR
theorem sym_any {n : Nat} (hn2 : n ≤ 1000000) {P A1 B S : List (Tg RV)} {a m b : Nat} (h1 : 0 < A1.length) (h2 : 0 < B.length) (hs : SAT w g A cap (P ++ A1 ++ B ++ S)) (hn : P.length + A1.length + B.length + S.length = n) (ha : P.length = a) (hm : a + A1.length = m) (hb : m + B.length = b) (hR : Runs ltR P A1 B S) :
    Calls Try.prog 67 #[.slice A n cap, .int .i64 a, .int .i64 m, .int .i64 b, cmpV] w fun e w' => e = .returned (.tuple #[]) ∧ ∃ C, Merged ltR A1 B C ∧ SAT w' g A cap (P ++ C ++ S) ∧ Ch (fun k => k = g) w w' :=
  sym_all hn2 (A1.length + B.length + 1) w P A1 B S a m b (by omega) h1 h2 hs hn ha hm hb hR
/-- what insertion of a block leaves -/
theorem ins_st {l : List RV} {a : Nat} {ys : List (Tg RV)} (hl : l.length ≤ 1000000) (hs : SAT w g A cap ys) (h : St1 ltR l a ys) {e n : Nat} (hn : l.length = n) (h1 : a ≤ e) (h2 : e ≤ n) (h3 : e ≤ a + 20) :
    Calls Try.prog 66 #[.slice A n cap, .int .i64 a, .int .i64 e, cmpV] w fun en w' => en = .returned (.tuple #[]) ∧ ∃ zs : List (Tg RV), SAT w' g A cap zs ∧ zs.Perm (tagF l) ∧ BlkI ltR 20 0 e zs ∧ zs.drop e = (tagF l).drop e ∧ Ch (fun k => k = g) w w' := by
  obtain ⟨P, M, S, rfl, hP, hM, hS, hp, hall⟩ := h.cut h1 (by omega) h3
  refine (ins_any hs (n := n) (by omega) (by omega) hP hM (by omega) hp).mono ?_
  rintro en w' ⟨rfl, C, c1, c2, c3, c4⟩
  obtain ⟨d1, d2, d3⟩ := hall C c1 c2
  exact ⟨rfl, _, c3, d1, d2, d3, c4⟩
theorem sym_st {l : List RV} {bs a : Nat} {ys : List (Tg RV)} (hl : l.length ≤ 1000000) (hs : SAT w g A cap ys) (h : St2 ltR l bs a ys) (hb : 0 < bs) {m e n : Nat} (hn : l.length = n) (hm : a + bs = m) (h1 : m < e) (h4 : e = a + 2 * bs ∨ (e = n ∧ e ≤ a + 2 * bs)) (h3 : e ≤ n) :
    Calls Try.prog 67 #[.slice A n cap, .int .i64 a, .int .i64 m, .int .i64 e, cmpV] w fun en w' => en = .returned (.tuple #[]) ∧ ∃ zs : List (Tg RV), SAT w' g A cap zs ∧ zs.Perm (tagF l) ∧ BlkI ltR (2 * bs) 0 e zs ∧ BlkI ltR bs e l.length zs ∧ Ch (fun k => k = g) w w' := by
  obtain ⟨P, A1, B, S, rfl, hP, hA, hB, hS, hR, hall⟩ := h.cut hb (e := e) (by omega) (by omega) (by omega)
  refine (sym_any (n := n) (by omega) (by omega) (by omega) hs (by omega) hP (by omega) (by omega) hR).mono ?_
  rintro en w' ⟨rfl, C, c1, c3, c4⟩
  obtain ⟨d1, d2, d3⟩ := hall C c1
  exact ⟨rfl, _, c3, d1, d2, d3, c4⟩
/-- what stable leaves -/
def Sorted2 (g cap : Nat) (A : Option Addr) (l : List RV) (w : World) (e : Ending) (w' : World) : Prop := e = .returned (.tuple #[]) ∧ SA w' g A cap (sortF ltR l) ∧ Ch (fun k => k = g) w w'
set_option maxHeartbeats 16000000 in
theorem stable_any {l : List RV} {n : Nat} (h : SA w g A cap l) (hn : l.length = n) (hn2 : n ≤ 1000000) :
    Calls Try.prog 50 #[.slice A n cap, .int .i64 n, cmpV] w (Sorted2 g cap A l w) := by
  have Hh : Hid (SAT w g A cap (tagF l)) := Lib.hid (by rw [← tagF_row l] at h; exact h)
  have HN := Lib.hid hn
  clear h hn
  go_enter Try.func50, Try.ntmps50
  go_wp2_with fail
  go_loopw [7, 8] (fun s7 s8 wr => ∃ (a : Nat) (ys : List (Tg RV)), s7 = .int .i64 (a : Int) ∧ s8 = .int .i64 ((a + 20 : Nat) : Int) ∧ a ≤ n ∧ Hid (SAT wr g A cap ys) ∧ Hid (Ch (fun k => k = g) w wr) ∧ Hid (St1 ltR l a ys)) (fun s7 _ _ => n - (intOf s7).toNat)
  case atStart => exact ⟨0, _, rfl, rfl, Nat.zero_le _, Hh, Lib.hid (Ch.refl _ _), Lib.hid (St1.start l)⟩
  case round =>
    obtain ⟨w5, rfl⟩ : ∃ w5 : World, w5 = wr := ⟨_, rfl⟩
    obtain ⟨a, ys, rfl, rfl, han, Js, Jc, Ji⟩ := hrel
    clear Hh
    by_cases hlt : a + 20 ≤ n
    · have hc := Lib.hid (ins_st (by rw [HN.out]; exact hn2) Js.out Ji.out HN.out (e := a + 20) (by omega) hlt (Nat.le_refl _))
      have HM := Lib.hid Ji.out.md
      clear Js Ji
      go_wp2_with fail
      refine hc.out.mono ?_
      rintro e w6 ⟨rfl, zs, h1, h2, h3, h4, h5⟩
      have H1 := Lib.hid h1
      have H2 := Lib.hid (⟨by have := HM.out; omega, h2, h3, h4⟩ : St1 ltR l (a + 20) zs)
      have H5 := Lib.hid (Jc.out.trans h5 fun _ _ e => e)
      clear h1 h2 h3 h4 h5 hc HM Jc
      go_wp2_with fail
      go_roundw
      case rel => exact ⟨a + 20, zs, by go_num, by go_num, hlt, H1, H5, H2⟩
      case measure => simp [intOf]; omega
    · have hc := Lib.hid (ins_st (by rw [HN.out]; exact hn2) Js.out Ji.out HN.out (e := n) han (Nat.le_refl _) (by omega))
      clear Js Ji
      go_wp2_with fail
      refine hc.out.mono ?_
      rintro e w6 ⟨rfl, zs, h1, h2, h3, h4, h5⟩
      have H1 := Lib.hid h1
      have H2 := Lib.hid (⟨h2, by rw [HN.out]; exact h3⟩ : St3 ltR l 20 zs)
      have H5 := Lib.hid (Jc.out.trans h5 fun _ _ e => e)
      clear h1 h2 h3 h4 h5 hc Jc
      go_wp2_with fail
      go_loopw [6] (fun s6 wr => ∃ (bs : Nat) (ys : List (Tg RV)), s6 = .int .i64 (bs : Int) ∧ 0 < bs ∧ bs ≤ 2000020 ∧ Hid (SAT wr g A cap ys) ∧ Hid (Ch (fun k => k = g) w wr) ∧ Hid (St3 ltR l bs ys)) (fun s6 _ => n - (intOf s6).toNat)
      case atStart => exact ⟨20, zs, rfl, by decide, by decide, H1, H5, H2⟩
      case round =>
        obtain ⟨w7, rfl⟩ : ∃ w7 : World, w7 = wr := ⟨_, rfl⟩
        obtain ⟨bs, ys, rfl, hb0, hb2, Js, Jc, Ji⟩ := hrel
        clear H1 H2 H5
        by_cases hbn : bs < n
        · have JI2 := Lib.hid (St2.start Ji.out)
          have Js2 := Js
          have Jc2 := Jc
          clear Ji Js Jc
          go_wp2_with fail
          go_loopw [7, 8] (fun s7 s8 wr => ∃ (a : Nat) (ys : List (Tg RV)), s7 = .int .i64 (a : Int) ∧ s8 = .int .i64 ((a + 2 * bs : Nat) : Int) ∧ a ≤ n ∧ Hid (SAT wr g A cap ys) ∧ Hid (Ch (fun k => k = g) w wr) ∧ Hid (St2 ltR l bs a ys)) (fun s7 _ _ => n - (intOf s7).toNat)
          case atStart => exact ⟨0, ys, rfl, by go_num, Nat.zero_le _, Js2, Jc2, JI2⟩
          case round =>
            obtain ⟨w8, rfl⟩ : ∃ w8 : World, w8 = wr := ⟨_, rfl⟩
            obtain ⟨a, zs, rfl, rfl, han, Js, Jc, Ji⟩ := hrel
            clear Js2 Jc2 JI2
            by_cases hlt2 : a + 2 * bs ≤ n
            · have hc := Lib.hid (sym_st (by rw [HN.out]; exact hn2) Js.out Ji.out hb0 HN.out (m := a + bs) rfl (e := a + 2 * bs) (by omega) (.inl rfl) hlt2)
              have HM := Lib.hid Ji.out.md
              clear Js Ji
              go_wp2_with fail
              refine hc.out.mono ?_
              rintro e w6 ⟨rfl, us, h1, h2, h3, h4, h5⟩
              have H1 := Lib.hid h1
              have H2 := Lib.hid (⟨by have := HM.out; rw [Nat.add_mod_right]; exact this, h2, h3, h4⟩ : St2 ltR l bs (a + 2 * bs) us)
              have H5 := Lib.hid (Jc.out.trans h5 fun _ _ e => e)
              clear h1 h2 h3 h4 h5 hc HM Jc
              go_wp2_with fail
              go_roundw
              case rel => exact ⟨a + 2 * bs, us, by go_num, by go_num, hlt2, H1, H5, H2⟩
              case measure => simp [intOf]; omega
            · by_cases hm : a + bs < n
              · have hc := Lib.hid (sym_st (by rw [HN.out]; exact hn2) Js.out Ji.out hb0 HN.out (m := a + bs) rfl (e := n) hm (.inr ⟨rfl, by omega⟩) (Nat.le_refl _))
                clear Js Ji
                go_wp2_with fail
                refine hc.out.mono ?_
                rintro e w6 ⟨rfl, us, h1, h2, h3, h4, h5⟩
                have H1 := Lib.hid h1
                have H2 := Lib.hid (⟨h2, by rw [HN.out]; exact h3⟩ : St3 ltR l (2 * bs) us)
                have H5 := Lib.hid (Jc.out.trans h5 fun _ _ e => e)
                clear h1 h2 h3 h4 h5 hc Jc
                go_wp2_with fail
                go_roundw
                case rel => exact ⟨2 * bs, us, by go_num, by omega, by omega, H1, H5, H2⟩
                case measure => simp [intOf]; omega
              · have H2 := Lib.hid (Ji.out.end_ hb0 (by rw [HN.out]; omega))
                clear Ji
                go_wp2_with fail
                go_roundw
                case rel => exact ⟨2 * bs, zs, by go_num, by omega, by omega, Js, Jc, H2⟩
                case measure => simp [intOf]; omega
        · have HF := Lib.hid (Ji.out.last ltR_weak (by rw [HN.out]; omega))
          have HS := Lib.hid Js.out
          clear Js Ji
          go_wp2_with fail
          go_end0
          exact ⟨rfl, by have := HS.out; unfold SAT at this; rw [HF.out] at this; exact this, Jc.out⟩
theorem sortst_any {l : List RV} {n : Nat} (h : SA w g A cap l) (hn : l.length = n) (hn2 : n ≤ 1000000) :
    Calls Try.prog 30 #[.slice A n cap, cmpV] w (Sorted2 g cap A l w) := by
  have hc := Lib.hid (stable_any h hn hn2)
  clear h hn
  go_enter Try.func30, Try.ntmps30
  go_wp2_with fail
  refine hc.out.mono ?_
  rintro e w6 ⟨rfl, h1, h2⟩
  have H1 := Lib.hid h1
  have H2 := Lib.hid h2
  clear h1 h2 hc
  go_wp2_with fail
  go_end0
  exact ⟨rfl, H1.out, H2.out⟩
end
end Go.Proofs.Ytihocfdnkongkaa
