/- UploadCalm: if nothing goes wrong an upload is done, with one call for each part and two more, and leaves nothing open. Conditions: none. -/
import Derived.Test.YtfepigiapageeaaUpZ
namespace Go.Proofs.Ytfepigiapageeaa.UploadCalm
set_option maxRecDepth 100000
open Go.RowKit
set_option linter.unusedVariables false

theorem field_err (e v b i : Int) (w : World) : (Instr.field 37 (.agg #[.int .i64 e, .slice none 0 0, .int .i64 v, .int .i64 b, .int .i64 i, .slice none 0 0, .bool false]) 0).run Try.prog w = .ok (.int .i64 e) w := by kernel_rfl
set_option maxRecDepth 100000 in
set_option maxHeartbeats 8000000 in
theorem walk (key : ByteArray) (A : Option Addr) (n c : Nat) (xs : List Nat) (piece tries wait : Int) (W : World) (hk : key.size ≤ 9223372036854775807) (hl : xs.length = n) (hr : Rd W (· < W.heap.size) 1 A n (bl xs)) (okx : okB xs) (hn : n ≤ 9223372036854775807)
    (ht : i64 tries) (hw : i64 wait) :
    Calls Try.prog 3 #[setV key (.slice A n c) piece tries wait] W fun e W' => e = .returned (.bool true) ∧ Nx W W' := by
  have Hl := Lib.hid hl
  clear hl
  obtain ⟨hw1, hw2⟩ := hw
  obtain ⟨ht1, ht2⟩ := ht
  have hb0 := Blk.new W 24 #[.string key, .slice A n c, .int .i64 piece, .int .i64 tries, .int .i64 wait]
  have nx0 : Nx W (W.alloc (.cells #[.string key, .slice A n c, .int .i64 piece, .int .i64 tries, .int .i64 wait] 24)) := (Ch.refl _ W).alloc _
  have hfew := fun w => few_any key A n c piece tries wait w hk hn
  have Hfew := Lib.hid hfew
  clear hfew
  unfold setV at *
  generalize hW0 : W.alloc (.cells #[.string key, .slice A n c, .int .i64 piece, .int .i64 tries, .int .i64 wait] 24) = W0 at *
  go_enter Try.func3, Try.ntmps3
  go_wp2_with fail
  clear hW0
  with_reducible refine (lives_any _).mono ?_
  rintro e w1 ⟨rfl, n1⟩
  have b1 := hb0.nx n1
  have d0 : w1.cell? ⟨W.heap.size, 0, none⟩ = some (.string key) := b1.cell 0
  have d1 : w1.cell? ⟨W.heap.size, 1, none⟩ = some (.slice A n c) := b1.cell 1
  have d2 : w1.cell? ⟨W.heap.size, 2, none⟩ = some (.int .i64 piece) := b1.cell 2
  have d3 : w1.cell? ⟨W.heap.size, 3, none⟩ = some (.int .i64 tries) := b1.cell 3
  have d4 : w1.cell? ⟨W.heap.size, 4, none⟩ = some (.int .i64 wait) := b1.cell 4
  have Hfew' := Hfew.out
  go_wp2_with fail
  with_reducible refine (Hfew.out _).mono ?_
  rintro e w2 ⟨rfl, n2⟩
  have nx2 := (nx0.tr n1).tr n2
  have b2 := b1.nx n2
  clear d0 d1 d2 d3 d4 b1 n1 n2 hb0 nx0 Hfew'
  by_cases hfew : n ≤ 3000 ∧ key.size ≤ 100
  · obtain ⟨hn3, hk3⟩ := hfew
    rw [show decide (n ≤ 3000 ∧ key.size ≤ 100) = true by simp [hn3, hk3]]
    have d0 : w2.cell? ⟨W.heap.size, 0, none⟩ = some (.string key) := b2.cell 0
    have d1 : w2.cell? ⟨W.heap.size, 1, none⟩ = some (.slice A n c) := b2.cell 1
    have d2 : w2.cell? ⟨W.heap.size, 2, none⟩ = some (.int .i64 piece) := b2.cell 2
    have d3 : w2.cell? ⟨W.heap.size, 3, none⟩ = some (.int .i64 tries) := b2.cell 3
    have d4 : w2.cell? ⟨W.heap.size, 4, none⟩ = some (.int .i64 wait) := b2.cell 4
    go_wp2_with fail
    by_cases hok : okNew n piece tries wait
    · have Hok := Lib.hid hok
      clear hok
      with_reducible refine (new_ok _ key A n c xs piece tries wait _ (hr.nx (by omega) nx2) Hl.out Hok.out).mono ?_
      rintro e w3 ⟨g, A', c', rfl, hu, hrd, n3, hg, hc1, hc2⟩
      have nx3 := nx2.tr n3
      have b3 := b2.nx n3
      have d0 : ∀ o, (w3.alloc o).cell? ⟨W.heap.size, 0, none⟩ = some (.string key) := fun o => (b3.alloc o).cell 0
      have hgw := hu.lt
      have hS3 := sto_new w3
      have hsW := nx2.size
      have hWl := b3.lt
      have HU3 := Lib.hid hu
      have HR3 := Lib.hid hrd
      have HS3 := Lib.hid hS3
      have NX3 := Lib.hid nx3
      clear hu hrd hS3 nx3 b3 b2 n3 d1 d2 d3 d4
      cases hok : keyOk key
      · have hdo := do_create_bad HS3.out key (.slice none 0 0) 0 0 0 0 hk hok (by simp) (by simp)
        unfold callV at hdo
        have Hdo := Lib.hid hdo
        clear hdo
        go_wp2_with fail
        refine Hdo.out.mono ?_
        rintro e w4 ⟨rfl, n4⟩
        unfold badV
        have hfe := field_err 1 0 0 0
        go_wp2_with fail
        go_ret
        exact ⟨rfl, (NX3.out.alloc _).tr n4⟩
      · have hdo := do_create HS3.out key (.slice none 0 0) 0 0 0 0 hk hok (by simp) (by simp) (by decide) (by decide)
        unfold callV replyV at hdo
        have Hdo := Lib.hid hdo
        have Hkey := Lib.hid hok
        clear hdo hok
        go_wp2_with fail
        refine Hdo.out.mono ?_
        rintro e w4 ⟨rfl, hS4, c4⟩
        obtain ⟨hS5, c5⟩ := sto_clear hS4
        obtain ⟨v1, hv1, hz1⟩ : ∃ v, w4.cell? ⟨w3.heap.size, 1, none⟩ = some v ∧ w4.frozen? ⟨w3.heap.size, 1, none⟩ = false := by
          obtain ⟨Ao, co, lo, vu, lu, m⟩ := hS4
          exact ⟨_, m.blk.cell 1, m.blk.frozen 1⟩
        have hca : Ch (fun k => k = w3.heap.size) w3 w4 := (Ch.refl _ w3).alloc _ |>.trans c4 (fun _ _ e => e)
        have hcb := hca.trans c5 (fun _ _ e => e)
        have hU5 := (HU3.out.ch hca (fun e => by omega)).ch c5 (fun e => by omega)
        have hR5 := (HR3.out.ch (by decide) hca (fun k _ hk e => by have := hk.2; omega)).ch (by decide) c5 (fun k _ hk e => by have := hk.2; omega)
        have hnx5 : Nx W (w4.setCell ⟨w3.heap.size, 1, none⟩ (.slice none 0 0)) := NX3.out.trans hcb (fun k hk e => by have := NX3.out.size; omega)
        have hs4 := hca.size
        have hcalm := calm_all (key := key) (xs := xs) (piece := piece) (T := tries) (W := wait) (by rw [Hl.out]; omega) okx (by omega) (by rw [Hl.out]; exact Hok.out) Hkey.out
        obtain ⟨hgood, E, hE, e1, e2, e3, e4, e5⟩ := hcalm
        have hs5 := c5.size
        have hrun := run_any (startF (newUp key xs.length piece tries wait) ((1 : Nat) : Int)) hU5 hS5 hR5 okx rfl (by rw [Hl.out]; omega) hc1 (fun k hk => ⟨by have := hk.2; omega, fun h => by
          have := hk.2
          rcases h with h | h
          · omega
          · have := h.1; simp at this; omega⟩) (Rd.none_ _ (fun _ => False) 1 none) (cf := 0) (fates := []) rfl (fun k hk => hk.elim) (fun h => by
          rcases h with h | h
          · omega
          · have := h.1; simp at this; omega) (fun i _ => hgood i) rfl
        rw [hE] at hrun
        have Hrun := Lib.hid hrun
        have hfe := field_err 0 0 0 1
        have HNX5 := Lib.hid hnx5
        clear hrun hS4 c4 hS5 c5 hca hcb hU5 hR5 hnx5 hgood hE
        go_wp2_with fail
        refine Hrun.out.mono ?_
        rintro e w6 ⟨D6, rfl, hU6, hS6, hD6, c6⟩
        have hst := up_state hU6
        rw [e3] at hst
        obtain ⟨Ao, co, lo, vu, lu, m⟩ := hS6
        obtain ⟨A1, c1, rfl, hn1, hc1'⟩ := own_form m.own
        have d0 : w6.cell? ⟨w3.heap.size, 0, none⟩ = some (.slice Ao 1 co) := by have := m.blk.cell 0; rw [e4] at this; exact this
        have d1 : w6.cell? ⟨w3.heap.size, 1, none⟩ = some (.slice A1 0 c1) := by have := m.blk.cell 1; rw [e5] at this; exact this
        have hnx6 : Nx W w6 := HNX5.out.trans c6 (fun k hk h => by
          have := NX3.out.size
          rcases h with h | h | h
          · omega
          · omega
          · have := h.1; simp at this; omega)
        have Hst := Lib.hid hst
        have HNX6 := Lib.hid hnx6
        generalize E.n = N at *
        have e1' : (3 : Int) ≤ (N : Int) := by omega
        have e2' : (N : Int) ≤ 34 := by omega
        clear hst hnx6 c6 m hU6 hD6 hn1 hc1' e1 e2 e3 e4 e5 hv1 hz1 hfe
        go_wp2_with fail
        refine Hst.out.mono ?_
        rintro e w7 ⟨rfl, rfl⟩
        go_wp2_with fail
        go_ret
        exact ⟨rfl, HNX6.out⟩
    · have Hok := Lib.hid hok
      clear hok
      with_reducible refine (new_bad key A n c piece tries wait _ (by omega) Hok.out).mono ?_
      rintro e w3 ⟨rfl, rfl⟩
      go_wp2_with fail
      go_ret
      exact ⟨rfl, nx2.alloc _⟩
  · rw [show decide (n ≤ 3000 ∧ key.size ≤ 100) = false by simp only [decide_eq_false_iff_not]; exact hfew]
    clear hfew
    go_wp2_with fail
    with_reducible refine (lives_any _).mono ?_
    rintro e w3 ⟨rfl, n3⟩
    go_wp2_with fail
    go_ret
    exact ⟨rfl, nx2.tr n3⟩

theorem walks : Walks 3 Try.f3 := by
  intro H enc W args ds ps h
  rw [Try.params3] at h
  obtain ⟨key, A, n, c, xs, piece, tries, wait, vs, ds1, q, rfl, hk, hl, hr, ok, hn, hc, i1, i2, i3, h1⟩ := h.setting
  have e3 := h1.nil
  simp at e3
  subst e3
  exact walk key A n c xs piece tries wait W hk hl hr ok (by unfold maxLen at hc; omega) i2 i3

/-- whatever the input, the law answers true -/
theorem proved : Rows.UploadCalmSaid :=
  OpenClaim.holds_of_wide 3 Try.f3 rfl rfl rfl rfl rfl rfl rfl ⟨rfl, rfl, rfl, rfl, rfl⟩ rfl rfl rfl rfl rfl (by kernel_rfl) Try.func3 (by kernel_rfl)
    (of_decide_eq_true (by kernel_rfl)) (by unfold Func.isWrapper; first | (rw [if_pos (by decide +kernel)]; kernel_rfl) | (rw [if_neg (by decide +kernel)]; exact ⟨rfl, rfl⟩))
    (fun os started H enc _ => law_lifted (s := Rows.uploadCalmSpec) Try.func3 (by kernel_rfl) rfl rfl
      (by intro H ds h; rw [Try.params3] at h; match ds, h with | [d1], _ => rfl)
      (by rw [Try.params3]; intro t ht; simp at ht; rcases ht with rfl; exact ⟨by kernel_rfl, of_decide_eq_true (by kernel_rfl)⟩) walks os started H enc
      (ChangeSpec.witness6 (enc := enc) (C := Try.checked) false ⟨#[], #[.agg #[.string ⟨#[]⟩, .slice none 0 0, .int .i64 0, .int .i64 0, .int .i64 0]], []⟩ 8 (by kernel_rfl) (by kernel_rfl) (by kernel_rfl) (by kernel_rfl)))
end Go.Proofs.Ytfepigiapageeaa.UploadCalm
