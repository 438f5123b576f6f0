/- UploadDone: through a store, whatever becomes of its calls, an upload comes to an end; done, the object is there, with its bytes and its tick. Conditions: none. -/
import Derived.Test.YtfepigiapageeaaUpZ
namespace Go.Proofs.Ytfepigiapageeaa.UploadDone
set_option maxRecDepth 100000
open Go.RowKit
set_option linter.unusedVariables false

set_option maxRecDepth 100000 in
set_option maxHeartbeats 8000000 in
theorem walk (key : ByteArray) (A : Option Addr) (n c : Nat) (xs : List Nat) (piece tries wait : Int) (F : Option Addr) (nf cf : Nat) (fates : List Int) (W : World) (hk : key.size ≤ 9223372036854775807) (hl : xs.length = n) (hr : Rd W (· < W.heap.size) 1 A n (bl xs)) (okx : okB xs) (hn : n ≤ 9223372036854775807)
    (ht : i64 tries) (hw : i64 wait) (hfr : Rd W (· < W.heap.size) 1 F nf (il fates)) (hfl : fates.length = nf) :
    Calls Try.prog 6 #[setV key (.slice A n c) piece tries wait, .slice F nf cf] W fun e W' => e = .returned (.bool true) ∧ Nx W W' := by
  have Hl := Lib.hid hl
  have Hfl := Lib.hid hfl
  clear hl hfl
  obtain ⟨hw1, hw2⟩ := hw
  obtain ⟨ht1, ht2⟩ := ht
  have hb0 := Blk.new W 24 #[.string key, .slice A n c, .int .i64 piece, .int .i64 tries, .int .i64 wait]
  have nx0 : Nx W (W.alloc (.cells #[.string key, .slice A n c, .int .i64 piece, .int .i64 tries, .int .i64 wait] 24)) := (Ch.refl _ W).alloc _
  have hfew := fun w => few_any key A n c piece tries wait w hk hn
  have Hfew := Lib.hid hfew
  clear hfew
  unfold setV at *
  generalize hW0 : W.alloc (.cells #[.string key, .slice A n c, .int .i64 piece, .int .i64 tries, .int .i64 wait] 24) = W0 at *
  go_enter Try.func6, Try.ntmps6
  go_wp2_with fail
  clear hW0
  with_reducible refine (lives_any _).mono ?_
  rintro e w1 ⟨rfl, n1⟩
  have b1 := hb0.nx n1
  have d0 : w1.cell? ⟨W.heap.size, 0, none⟩ = some (.string key) := b1.cell 0
  have d1 : w1.cell? ⟨W.heap.size, 1, none⟩ = some (.slice A n c) := b1.cell 1
  have d2 : w1.cell? ⟨W.heap.size, 2, none⟩ = some (.int .i64 piece) := b1.cell 2
  have d3 : w1.cell? ⟨W.heap.size, 3, none⟩ = some (.int .i64 tries) := b1.cell 3
  have d4 : w1.cell? ⟨W.heap.size, 4, none⟩ = some (.int .i64 wait) := b1.cell 4
  have Hfew' := Hfew.out
  go_wp2_with fail
  with_reducible refine (Hfew.out _).mono ?_
  rintro e w2 ⟨rfl, n2⟩
  have nx2 := (nx0.tr n1).tr n2
  have b2 := b1.nx n2
  clear d0 d1 d2 d3 d4 b1 n1 n2 hb0 nx0 Hfew'
  by_cases hfew : n ≤ 3000 ∧ key.size ≤ 100
  · obtain ⟨hn3, hk3⟩ := hfew
    rw [show decide (n ≤ 3000 ∧ key.size ≤ 100) = true by simp [hn3, hk3]]
    have d0 : w2.cell? ⟨W.heap.size, 0, none⟩ = some (.string key) := b2.cell 0
    have d1 : w2.cell? ⟨W.heap.size, 1, none⟩ = some (.slice A n c) := b2.cell 1
    have d2 : w2.cell? ⟨W.heap.size, 2, none⟩ = some (.int .i64 piece) := b2.cell 2
    have d3 : w2.cell? ⟨W.heap.size, 3, none⟩ = some (.int .i64 tries) := b2.cell 3
    have d4 : w2.cell? ⟨W.heap.size, 4, none⟩ = some (.int .i64 wait) := b2.cell 4
    by_cases hbad : 300 < nf ∨ 3 < wait
    · by_cases hf3 : 300 < nf
      · have hf3' : (300 : Int) < (nf : Int) := by omega
        clear hbad
        go_wp2_with fail
        with_reducible refine (lives_any _).mono ?_
        rintro e w3 ⟨rfl, n3⟩
        go_wp2_with fail
        go_ret
        exact ⟨rfl, nx2.tr n3⟩
      · have hf3' : ¬ (300 : Int) < (nf : Int) := by omega
        have hw3 : 3 < wait := by omega
        clear hbad
        go_wp2_with fail
        with_reducible refine (lives_any _).mono ?_
        rintro e w3 ⟨rfl, n3⟩
        go_wp2_with fail
        go_ret
        exact ⟨rfl, nx2.tr n3⟩
    have hf3 : ¬ (300 : Int) < (nf : Int) := by omega
    have hw3 : ¬ 3 < wait := by omega
    clear hbad
    go_wp2_with fail
    by_cases hok : okNew n piece tries wait
    · have Hok := Lib.hid hok
      have hT1 := hok.2.2.1
      have hT8 := hok.2.2.2.1
      clear hok
      with_reducible refine (new_ok _ key A n c xs piece tries wait _ (hr.nx (by omega) nx2) Hl.out Hok.out).mono ?_
      rintro e w3 ⟨g, A', c', rfl, hu, hrd, n3, hg, hc1, hc2⟩
      have nx3 := nx2.tr n3
      have b3 := b2.nx n3
      have hgw := hu.lt
      have hS3 := sto_new w3
      have hsW := nx2.size
      have hWl := b3.lt
      have hfr3 := (hfr.nx (by decide) nx3).nx (by decide) ((Ch.refl _ w3).alloc (.cells #[.slice none 0 0, .slice none 0 0, .int .i64 0, .int .i64 0, .int .i64 0] 33))
      obtain ⟨hgood, E, hE, e1, e2, e3⟩ := done_all (key := key) (xs := xs) (piece := piece) (T := tries) (W := wait) (by rw [Hl.out]; omega) okx (by omega) (by rw [Hl.out]; exact Hok.out) (by omega) fates
      have hs3 := nx3.size
      have hrun := run_any (cf := cf) (startF (newUp key xs.length piece tries wait) ((0 : Nat) : Int)) (hu.nx ((Ch.refl _ w3).alloc _)) hS3 (hrd.nx (by decide) ((Ch.refl _ w3).alloc _)) okx rfl (by rw [Hl.out]; omega) hc1 (fun k hk => ⟨by have := hk.2; omega, fun h => by have := hk.2; have h' : k = w3.heap.size := h; omega⟩)
        hfr3 Hfl.out (fun k hk => ⟨by have h' : k < W.heap.size := hk; omega, fun h => by have h' : k < W.heap.size := hk; have h2 : k = w3.heap.size := h; omega⟩) (fun h => by have h' : g = w3.heap.size := h; omega) (fun i _ => hgood i) rfl
      rw [hE] at hrun
      have Hrun := Lib.hid hrun
      have HB3 := Lib.hid (b3.alloc (.cells #[.slice none 0 0, .slice none 0 0, .int .i64 0, .int .i64 0, .int .i64 0] 33))
      have NX3 := Lib.hid (nx3.alloc (.cells #[.slice none 0 0, .slice none 0 0, .int .i64 0, .int .i64 0, .int .i64 0] 33))
      have HgB := Lib.hid (show ¬ W.heap.size = g from hu.ne_ b3 (by decide) |> fun h e => h e.symm)
      clear hrun hu hS3 hrd hfr3 hgood hE b3 b2 n3 nx3 d0 d1 d2 d3 d4
      go_wp2_with fail
      refine Hrun.out.mono ?_
      rintro e w6 ⟨D6, rfl, hU6, hS6, hD6, c6⟩
      have b6 := HB3.out.ch c6 (fun h => by
        rcases h with h | h
        · exact HgB.out h
        · have h' : W.heap.size = w3.heap.size := h; omega)
      have d0 : w6.cell? ⟨W.heap.size, 0, none⟩ = some (.string key) := b6.cell 0
      have d1 : w6.cell? ⟨W.heap.size, 1, none⟩ = some (.slice A n c) := b6.cell 1
      have d3 : w6.cell? ⟨W.heap.size, 3, none⟩ = some (.int .i64 tries) := b6.cell 3
      have hnx6 : Nx W w6 := NX3.out.trans c6 (fun k hk h => by
        rcases h with h | h
        · omega
        · have h' : k = w3.heap.size := h; omega)
      have HNX6 := Lib.hid hnx6
      have hat := sto_at hS6 key (by omega)
      have hst := up_state hU6
      have hbo := up_born hU6
      have kT : IntKind.i64.wrap (37 * tries) = 37 * tries := IntWalk.i64_in _ (by omega)
      have hdn : decide ((E.n : Int) ≤ 37 * tries) = true := decide_eq_true e1
      rcases e3 with ⟨e4, o, e5, e6, e7, e8⟩ | ⟨e4, e5⟩
      · rw [e4] at hst
        rw [atF_one e5, if_pos e6] at hat
        have hrx := hr.nx (by decide) hnx6
        obtain ⟨Ao, co, lo, vu, lu, m⟩ := hS6
        have hro := m.rdo
        have hl1 : E.s.objs.length = 1 := by rw [e5]; rfl
        have m0 : w6.cell? ⟨w3.heap.size, 0, none⟩ = some (.slice Ao 1 co) := by have := m.blk.cell 0; rw [hl1] at this; exact this
        have hcap := m.cap
        rw [hl1] at hcap
        obtain ⟨Ak, ck, h1, h2, h3, h4, h5, h6, h7⟩ := m.obj.get (k := 0) (by omega)
        obtain ⟨ad, rfl, _, hcell⟩ := hro.2 (by omega)
        simp only [e5, List.getElem_cons_zero] at h1 h2 h3 h4 h5 h6 h7
        rw [e7] at h2 h5 h6 h7
        rw [e8] at h4
        have p1 := cell_plus (a := 0) 0 (hcell _ _ h2)
        have p3 := cell_plus (a := 0) 2 (hcell _ _ h4)
        rw [show ad.add 0 = ad from rfl] at p1 p3
        simp only [Nat.zero_add, Nat.reduceAdd] at p1 p3
        have hsm := fun q => same_any (w := w6.drewN q) _ _ Ak A xs.length ck n c xs xs (h5.drewN q) (hrx.drewN q) okx okx
        rw [decide_eq_true rfl] at hsm
        have hbo2 := fun q => up_born (hU6.drewN q)
        have Hsm := Lib.hid hsm
        have Hbo := Lib.hid hbo2
        have Hat := Lib.hid hat
        have Hst := Lib.hid hst
        generalize E.u.born = ub at *
        generalize (E.n : Int) = N at *
        clear hsm hbo2 hat hst hbo m hro h1 h2 h3 h4 h5 h6 h7 hcell hrx hnx6 b6 c6 hU6 hD6 e1 e2 e4 e5 e6 e7 e8 hl1
        go_wp2_with fail
        refine Hat.out.mono ?_
        rintro e w7 ⟨rfl, rfl⟩
        go_wp2_with fail
        refine Hst.out.mono ?_
        rintro e w7 ⟨rfl, rfl⟩
        go_wp2_with fail
        go_quiet ((first | (go_at_call 16; exact quiet_left (Hsm.out _)) | (go_at_call 17; exact quiet_left (Hbo.out _))))
        go_wp2_with fail
        go_ret
        exact ⟨by simp, HNX6.out.drewN _⟩
      · rw [e4] at hst
        rw [e5] at hbo
        have Hbo := Lib.hid hbo
        have Hat := Lib.hid hat
        have Hst := Lib.hid hst
        generalize atF E.s key = a at *
        generalize (E.n : Int) = N at *
        clear hat hst hbo hnx6 b6 c6 hU6 hD6 e1 e2 e4 e5 hS6
        go_wp2_with fail
        refine Hat.out.mono ?_
        rintro e w7 ⟨rfl, rfl⟩
        go_wp2_with fail
        refine Hst.out.mono ?_
        rintro e w7 ⟨rfl, rfl⟩
        go_wp2_with fail
        refine Hbo.out.mono ?_
        rintro e w7 ⟨rfl, rfl⟩
        go_wp2_with fail
        go_ret
        exact ⟨by simp, HNX6.out⟩
    · have Hok := Lib.hid hok
      clear hok
      with_reducible refine (new_bad key A n c piece tries wait _ (by omega) Hok.out).mono ?_
      rintro e w3 ⟨rfl, rfl⟩
      go_wp2_with fail
      go_ret
      exact ⟨rfl, nx2⟩
  · rw [show decide (n ≤ 3000 ∧ key.size ≤ 100) = false by simp only [decide_eq_false_iff_not]; exact hfew]
    clear hfew
    go_wp2_with fail
    with_reducible refine (lives_any _).mono ?_
    rintro e w3 ⟨rfl, n3⟩
    go_wp2_with fail
    go_ret
    exact ⟨rfl, nx2.tr n3⟩

theorem walks : Walks 6 Try.f6 := by
  intro H enc W args ds ps h
  rw [Try.params6] at h
  obtain ⟨key, A, n, c, xs, piece, tries, wait, vs, ds1, q, rfl, hk, hl, hr, ok, hn, hc, i1, i2, i3, h1⟩ := h.setting
  obtain ⟨F, nf, cf, fates, vs', ds2, q2, e2, hfl, hfr, _, _, _, h2⟩ := h1.ints Try.underlying43 Try.underlying44 (by kernel_rfl)
  have e3 := h2.nil
  simp at e2 e3
  subst e2 e3
  exact walk key A n c xs piece tries wait F nf cf fates W hk hl hr ok (by unfold maxLen at hc; omega) i2 i3 hfr hfl

/-- whatever the input, the law answers true -/
theorem proved : Rows.UploadDoneSaid :=
  OpenClaim.holds_of_wide 6 Try.f6 rfl rfl rfl rfl rfl rfl rfl ⟨rfl, rfl, rfl, rfl, rfl⟩ rfl rfl rfl rfl rfl (by kernel_rfl) Try.func6 (by kernel_rfl)
    (of_decide_eq_true (by kernel_rfl)) (by unfold Func.isWrapper; first | (rw [if_pos (by decide +kernel)]; kernel_rfl) | (rw [if_neg (by decide +kernel)]; exact ⟨rfl, rfl⟩))
    (fun os started H enc _ => law_lifted (s := Rows.uploadDoneSpec) Try.func6 (by kernel_rfl) rfl rfl
      (by intro H ds h; rw [Try.params6] at h; match ds, h with | [d1, d2], _ => rfl)
      (by rw [Try.params6]; intro t ht; simp at ht; rcases ht with rfl | rfl <;> exact ⟨by kernel_rfl, of_decide_eq_true (by kernel_rfl)⟩) walks os started H enc
      (ChangeSpec.witness6 (enc := enc) (C := Try.checked) false ⟨#[], #[.agg #[.string ⟨#[]⟩, .slice none 0 0, .int .i64 0, .int .i64 0, .int .i64 0], .slice none 0 0], []⟩ 8 (by kernel_rfl) (by kernel_rfl) (by kernel_rfl) (by kernel_rfl)))
end Go.Proofs.Ytfepigiapageeaa.UploadDone
