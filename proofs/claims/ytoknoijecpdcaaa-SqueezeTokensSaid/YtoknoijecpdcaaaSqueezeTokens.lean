/- SqueezeTokens: the tokens of any bytes are the document's. Conditions: none. -/
import Derived.Test.YtoknoijecpdcaaaSqD
import Derived.Test.YtoknoijecpdcaaaSqRef
namespace Go.Proofs.Ytoknoijecpdcaaa.SqueezeTokens
open Go.RowKit
set_option linter.unusedVariables false
theorem tcl_length (l : List Tok) : (tcl l).length = 3 * l.length := by
  induction l with
  | nil => rfl
  | cons t l ih =>
    have e : tcl (t :: l) = tokCs t ++ tcl l := rfl
    rw [e, List.length_append, ih, List.length_cons]
    simp [tokCs]; omega
theorem tcl_get (a : List Tok) (t : Tok) (b : List Tok) (j : Nat) (hj : j < 3) : (tcl (a ++ t :: b))[3 * a.length + j]? = (tokCs t)[j]? := by
  have e : tcl (a ++ t :: b) = tcl a ++ (tokCs t ++ tcl b) := by simp [tcl]
  have hl := tcl_length a
  rw [e, List.getElem?_append_right (by omega), hl, show 3 * a.length + j - 3 * a.length = j by omega, List.getElem?_append_left (by simp [tokCs]; exact hj)]
theorem tcl_at {l : List Tok} {k : Nat} (h : k < l.length) (j : Nat) (hj : j < 3) : (tcl l)[3 * k + j]? = (tokCs l[k])[j]? := by
  have e : l = l.take k ++ l[k] :: l.drop (k + 1) := by rw [← List.drop_eq_getElem_cons h, List.take_append_drop]
  have h1 := tcl_get (l.take k) l[k] (l.drop (k + 1)) j hj
  rw [← e, List.length_take, Nat.min_eq_left (by omega)] at h1
  exact h1
theorem adz (g j : Nat) : Addr.add ⟨g, 0, none⟩ j = ⟨g, j, none⟩ := by
  unfold Addr.add
  by_cases hj : j = 0
  · rw [if_pos hj, hj]
  · rw [if_neg hj]; simp
/-- the k-th token's cells -/
theorem cells_of {w : World} {B : Nat} {e : TypeId} {g c n : Nat} {l : List Tok} {k q : Nat} (h : w.ownsRow B e 3 (.slice (some ⟨g, 0, none⟩) n c) n (tcl l)) (hk : k < l.length) (hq : 3 * k = q) :
    w.cell? ⟨g, q, none⟩ = some (.int .i64 (l[k].len : Int)) ∧ w.cell? ⟨g, q + 1, none⟩ = some (.int .i64 (l[k].dist : Int)) ∧ w.cell? ⟨g, q + 2, none⟩ = some (.int .u8 (l[k].byte : Int)) := by
  have hc := h.cells (g := g) rfl
  have e0 := hc _ _ (tcl_at hk 0 (by omega))
  have e1 := hc _ _ (tcl_at hk 1 (by omega))
  have e2 := hc _ _ (tcl_at hk 2 (by omega))
  rw [adz, hq] at e0 e1 e2
  exact ⟨e0, e1, e2⟩
set_option maxRecDepth 100000 in
set_option maxHeartbeats 4000000 in
theorem walk (A : Option Addr) (c : Nat) (xs : List Nat) (W : World) (hr : Rd W (· < W.heap.size) 1 A xs.length (bl xs)) (ok : okB xs) (hn : xs.length ≤ 140737488351232) :
    Calls Try.prog 3 #[.slice A xs.length c] W fun e W' => e = .returned (.bool true) ∧ Nx W W' := by
  go_enter Try.func3, Try.ntmps3
  go_wp2_with fail
  refine (lives7_any _).mono ?_
  rintro e w1 ⟨rfl, n1⟩
  by_cases hbig : 600 < xs.length
  · go_wp2_with fail
    refine (lives7_any _).mono ?_
    rintro e w2 ⟨rfl, n2⟩
    go_wp2_with fail
    go_ret
    exact ⟨by simp, n1.tr n2⟩
  · have hxl : xs.length ≤ 600 := by omega
    go_wp2_with fail
    refine (twin_any _ A xs.length c xs w1 (hr.nx (by decide) n1) (by omega)).mono ?_
    rintro e w2 ⟨k2, cap2, rfl, hk1, hk2, hown2, hrd2, n2⟩
    have nx2 := n1.tr n2
    clear hown2
    go_wp2_with fail
    refine (sq_tokens _ (some ⟨k2, 0, none⟩) cap2 xs w2 hrd2 ok (by omega)).mono ?_
    rintro e w3 ⟨v1, rfl, ho1, n3⟩
    have nx3 := nx2.tr n3
    have htl := tokensF_len (b := xs) xs.length 0
    go_wp2_with fail
    refine (ref_tokens _ A c xs w3 (hr.nx (by decide) nx3) ok (by omega)).mono ?_
    rintro e w4 ⟨v2, rfl, ho2⟩
    have nx4 := nx3.tr ho2.nx
    have ho1 := own_ch ho1 ho2.nx (fun _ _ hf => hf)
    have ho2' := ho2.own
    generalize tokensF xs xs.length 0 = l at *
    obtain ⟨A1, c1, rfl, _, _⟩ := own_form ho1
    obtain ⟨A2, c2, rfl, _, _⟩ := own_form ho2'
    have hsame := same_any _ _ (some ⟨k2, 0, none⟩) A xs.length cap2 xs.length c xs xs w4 ((hrd2.nx (by decide) n3).nx (by decide) ho2.nx) (hr.nx (by decide) nx4) ok ok
    simp only [decide_true] at hsame
    obtain ⟨nt, hnt⟩ : ∃ nt, l.length = nt := ⟨_, rfl⟩
    rw [hnt] at ho1 ho2' htl ⊢
    have Hnt := Lib.hid hnt
    have Ho1 := Lib.hid ho1
    have Ho2 := Lib.hid ho2'
    clear hnt ho1 ho2' ho2
    go_wp2_with fail
    refine hsame.mono ?_
    rintro e w5 ⟨rfl, rfl⟩
    go_wp2_with fail
    go_loopw [42] (fun i wr => ∃ k : Nat, k ≤ nt ∧ i = .int .i64 (k : Int) ∧ Nx w4 wr) (fun i _ => nt - (intOf i).toNat)
    case atStart => exact ⟨0, Nat.zero_le _, rfl, Ch.refl _ _⟩
    case round =>
      obtain ⟨w6, rfl⟩ : ∃ w6 : World, w6 = wr := ⟨_, rfl⟩
      obtain ⟨k, hk, rfl, nx6⟩ := hrel
      by_cases hlt : k < nt
      · have hkl : k < l.length := by rw [Hnt.out]; exact hlt
        obtain ⟨g1, cap, hv, _, _⟩ := Ho1.out.form (by omega)
        injection hv with hA hlq hcc
        clear hlq
        subst hA
        subst hcc
        obtain ⟨g2, cap, hv, _, _⟩ := Ho2.out.form (by omega)
        injection hv with hA hlq hcc
        clear hlq
        subst hA
        subst hcc
        obtain ⟨q, hq⟩ : ∃ q, 3 * k = q := ⟨_, rfl⟩
        obtain ⟨a0, a1, a2⟩ := cells_of (own_ch Ho1.out nx6 (fun _ _ hf => hf)) hkl hq
        obtain ⟨b0, b1, b2⟩ := cells_of (own_ch Ho2.out nx6 (fun _ _ hf => hf)) hkl hq
        have hq' : k * 3 = q := by omega
        have hlt2 : (k : Int) < (nt : Int) := by omega
        have hk0 : (0 : Int) ≤ (k : Int) := by omega
        clear hq
        generalize l[k].len = x0 at *
        generalize l[k].dist = x1 at *
        generalize l[k].byte = x2 at *
        go_wp2_with fail
        go_quiet (fail)
        go_wp2_with fail
        go_roundw
        case rel => exact ⟨k + 1, by omega, by go_num, nx6.drewN _⟩
        case measure => simp [intOf]; omega
      · have hlt2 : ¬ ((k : Int) < (nt : Int)) := by omega
        go_wp2_with fail
        go_ret
        exact ⟨by simp, nx4.tr nx6⟩

theorem walks : Walks 3 Try.f3 := by
  intro H enc W args ds ps h
  rw [Try.params3] at h
  obtain ⟨A, n, c, xs, vs, ds1, q, rfl, hl, hr, ok, hn, hc, h1⟩ := h.bytes
  have e3 := h1.nil
  simp at e3
  subst e3
  subst hl
  exact walk A c xs W hr ok (by omega)

/-- whatever the input, the law answers true -/
theorem proved : Rows.SqueezeTokensSaid :=
  OpenClaim.holds_of_wide 3 Try.f3 rfl rfl rfl rfl rfl rfl rfl ⟨rfl, rfl, rfl, rfl, rfl⟩ rfl rfl rfl rfl rfl (by kernel_rfl) Try.func3 (by kernel_rfl)
    (of_decide_eq_true (by kernel_rfl)) (by unfold Func.isWrapper; first | (rw [if_pos (by decide +kernel)]; kernel_rfl) | (rw [if_neg (by decide +kernel)]; exact ⟨rfl, rfl⟩))
    (fun os started H enc _ => law_lifted (s := Rows.squeezeTokensSpec) Try.func3 (by kernel_rfl) rfl rfl
      (by intro H ds h; rw [Try.params3] at h; match ds, h with | [d1], _ => rfl)
      (by rw [Try.params3]; intro t ht; simp at ht; rcases ht with rfl <;> exact ⟨by kernel_rfl, of_decide_eq_true (by kernel_rfl)⟩) walks os started H enc
      (ChangeSpec.witness6 (enc := enc) (C := Try.checked) false ⟨#[], #[.slice none 0 0], []⟩ 8 (by kernel_rfl) (by kernel_rfl) (by kernel_rfl) (by kernel_rfl)))
end Go.Proofs.Ytoknoijecpdcaaa.SqueezeTokens
