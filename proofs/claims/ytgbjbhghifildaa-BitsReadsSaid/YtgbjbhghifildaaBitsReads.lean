/- BitsReads: whatever numbers of bits are read of any bytes, with the ends of bytes passed over or not, they are the document's. Conditions: none. -/
import Derived.Test.YtgbjbhghifildaaLaw
import Derived.Test.YtgbjbhghifildaaRef02R
namespace Go.Proofs.Ytgbjbhghifildaa.BitsReads
open Go.RowKit
set_option linter.unusedVariables false

set_option maxRecDepth 100000 in
set_option maxHeartbeats 8000000 in
theorem walk (A A2 : Option Addr) (c0 n2 c2 : Nat) (xs : List Nat) (zs : List Int) (W : World) (hr : Rd W (· < W.heap.size) 1 A xs.length (bl xs)) (ok : okB xs) (hn : xs.length ≤ 140737488351232)
    (hr2 : Rd W (· < W.heap.size) 1 A2 n2 (il zs)) (hz : zs.length = n2) (hc2 : n2 ≤ 140737488351232) :
    Calls Try.prog 5 #[.slice A xs.length c0, .slice A2 n2 c2] W fun e W' => e = .returned (.bool true) ∧ Nx W W' := by
  have Hz := Lib.hid hz
  clear hz
  go_enter Try.func5, Try.ntmps5
  go_wp2_with fail
  refine (twin_any _ A _ c0 xs _ hr (by omega)).mono ?_
  rintro e w1 ⟨k5, p5, rfl, b5, b5', o5, d5, n1⟩
  have hp5 : xs.length ≤ p5 := by obtain ⟨A', c', e, h1, _⟩ := own_form o5; injection e; omega
  go_wp2_with fail
  refine (newReader_any _ _ _ _ xs _ d5 (by omega) ok).mono ?_
  rintro e w2 ⟨g, hh, rfl, q, a1, a2, a3, a4, n2'⟩
  by_cases hbig : 300 < n2 ∨ 1024 < xs.length
  · rcases hbig with hb | hb
    · have hb' : (300 : Int) < (n2 : Int) := by omega
      go_wp2_with fail
      go_ret
      exact ⟨rfl, n1.tr n2'⟩
    · by_cases hb2 : 300 < n2
      all_goals
        go_wp2_with fail
        go_ret
        exact ⟨rfl, n1.tr n2'⟩
  · have hb1 : ¬ ((300 : Int) < (n2 : Int)) := by omega
    have hb2 : ¬ ((1024 : Int) < (xs.length : Int)) := by omega
    have o2 := own_ch o5 n2' (fun _ _ hf => hf)
    have s1 := n1.size
    go_wp2_with fail
    go_loopw [38] (fun i wr => ∃ (k : Nat) (ys : List Value), k ≤ xs.length ∧ i = .int .i64 k ∧ wr.ownsRow W.heap.size 5 1 (.slice (some ⟨k5, 0, none⟩) xs.length p5) xs.length ys ∧ RdrIs wr g hh xs 0 ∧ Nx W wr ∧ w2.heap.size ≤ wr.heap.size) (fun i _ => xs.length - (intOf i).toNat)
    case atStart => exact ⟨0, _, by omega, rfl, own_base o2 (Nat.le_refl _), q, n1.tr n2', Nat.le_refl _⟩
    case round =>
      obtain ⟨k, ys, hk, rfl, oy, q1, ny, sy2⟩ := hrel
      by_cases hlt : k < xs.length
      · have hyl := oy.1
        obtain ⟨uu, hc⟩ : ∃ uu, wr.cell? ⟨k5, k, none⟩ = some uu := ⟨_, (oy.cellAt k (by omega)).trans (List.getElem?_eq_getElem (by omega))⟩
        have hf := oy.frozenAt k
        have st := oy.stored k (.int .u8 0)
        have hch : Ch (fun j => j = k5) wr (wr.setCell ⟨k5, k, none⟩ (.int .u8 0)) := Ch.setCell (S := fun j => j = k5) (Ch.refl _ wr) (p := ⟨k5, k, none⟩) (fun _ => rfl) _
        have St := Lib.hid st.1
        clear hyl st
        go_wp2_with fail
        go_roundw
        case rel => exact ⟨k + 1, _, by omega, by go_num, St.out, q1.ch hch (by omega) (by omega), ny.trans hch (by omega), by simpa using sy2⟩
        case measure => simp [intOf]; omega
      · clear q o2 o5 d5 oy n2'
        have hrw := hr.nx (by omega) ny
        have hr2w := hr2
        go_wp2_with fail
        refine (ref_row _ A _ c0 xs _ hrw (fun j hj => Nat.lt_of_lt_of_le hj ny.size) rfl (by omega) ok).mono ?_
        rintro e w3 ⟨k6, p6, rfl, o6, b6, b6', hp6, hp6'⟩
        have q3 := q1.nx o6.nx
        have n3 := ny.tr o6.nx
        have hg3 := q1.lt
        have sy := ny.size
        have yR : RefR (w3.alloc (.cells #[.slice (some ⟨k6, 0, none⟩) (8 * xs.length) p6, .int .i64 0] 45)) w3.heap.size k6 xs (8 * xs.length) 0 :=
          ⟨_, p6, Blk.new _ _ _, o6.rd_.nx (by omega) ((Ch.refl _ w3).alloc _), by omega, by omega, by omega, hp6, by simpa [maxLen] using hp6'⟩
        have q4 := q3.nx ((Ch.refl _ w3).alloc (.cells #[.slice (some ⟨k6, 0, none⟩) (8 * xs.length) p6, .int .i64 0] 45))
        have n4 := n3.alloc (.cells #[.slice (some ⟨k6, 0, none⟩) (8 * xs.length) p6, .int .i64 0] 45)
        clear q3 n3 o6 q1 ny hrw
        go_wp2_with fail
        go_loopw [51] (fun i wr => ∃ k p : Nat, k ≤ n2 ∧ i = .int .i64 k ∧ RdrIs wr g hh xs p ∧ RefR wr w3.heap.size k6 xs (8 * xs.length) p ∧ Nx W wr) (fun i _ => n2 - (intOf i).toNat)
        case atStart => exact ⟨0, 0, by omega, rfl, q4, yR, n4⟩
        case round =>
          obtain ⟨k, p, hk2, rfl, q, y, n5⟩ := hrel
          clear q4 yR n4
          have hle := q.le
          by_cases hlt2 : k < n2
          · obtain ⟨ad, u, rfl, hDa, hu, hc⟩ := (hr2.nx (by omega) n5).at_ hlt2
            simp only [il, List.getElem?_map, Option.map_eq_some_iff] at hu
            obtain ⟨z, hzk, rfl⟩ := hu
            clear hzk
            by_cases hm1 : z = -1
            · subst hm1
              go_wp2_with fail
              refine (rdr_align g hh xs p _ q).mono ?_
              rintro e w4 ⟨rfl, q', ch4⟩
              go_wp2_with fail
              refine (refr_align _ _ xs _ p _ (y.ch ch4 (by omega) (by omega)) (by omega)).mono ?_
              rintro e w5 ⟨rfl, y', ch5⟩
              have q3 := q'.ch ch5 (by omega) (by omega)
              have y3 := y'
              have n3 := (n5.trans ch4 (by omega)).trans ch5 (by omega)
              have hle3 := q3.le
              obtain ⟨A3, c3, b0, b1⟩ := y3.cells
              go_wp2_with fail
              go_quiet ((first | (go_at_call 15; exact quiet_left (rdr_at g hh xs _ _ (q3.nx (Dr.mk_ _ _).nx))) | (go_at_call 15; exact quiet_add_left (rdr_at g hh xs _ _ (q3.nx (Dr.mk_ _ _).nx))) | (go_at_call 13; exact quiet_dr (rdr_left g hh xs _ _ (q3.nx (Dr.mk_ _ _).nx))) | (go_at_call 13; exact quiet_add_dr (rdr_left g hh xs _ _ (q3.nx (Dr.mk_ _ _).nx)))))
              go_wp2_with fail
              go_roundw
              case rel => exact ⟨k + 1, _, by omega, by go_num, q3.nx (Dr.mk_ _ _).nx, y3.nx (Dr.mk_ _ _).nx, n3.drewN _⟩
              case measure => simp [intOf]; omega
            · have hm1' : (z == -1) = false := by rw [beq_eq_false_iff_ne]; exact hm1
              by_cases harg : z < 0 ∨ 32 < z
              · go_wp2_with fail
                refine (rdr_bits_arg g hh xs p z _ q harg).mono ?_
                rintro e w4 ⟨rfl, rfl⟩
                go_wp2_with fail
                refine (refr_bits_arg _ z _ harg).mono ?_
                rintro e w5 ⟨rfl, rfl⟩
                have q3 := q
                have y3 := y
                have n3 := n5
                have hle3 := q3.le
                obtain ⟨A3, c3, b0, b1⟩ := y3.cells
                go_wp2_with fail
                go_quiet ((first | (go_at_call 15; exact quiet_left (rdr_at g hh xs _ _ (q3.nx (Dr.mk_ _ _).nx))) | (go_at_call 15; exact quiet_add_left (rdr_at g hh xs _ _ (q3.nx (Dr.mk_ _ _).nx))) | (go_at_call 13; exact quiet_dr (rdr_left g hh xs _ _ (q3.nx (Dr.mk_ _ _).nx))) | (go_at_call 13; exact quiet_add_dr (rdr_left g hh xs _ _ (q3.nx (Dr.mk_ _ _).nx)))))
                go_wp2_with fail
                go_roundw
                case rel => exact ⟨k + 1, _, by omega, by go_num, q3.nx (Dr.mk_ _ _).nx, y3.nx (Dr.mk_ _ _).nx, n3.drewN _⟩
                case measure => simp [intOf]; omega
              · by_cases hsh : 8 * (xs.length : Int) < p + z
                · go_wp2_with fail
                  refine (rdr_bits_short g hh xs p z _ q (by omega) (by omega) hsh).mono ?_
                  rintro e w4 ⟨rfl, n4', rfl⟩
                  go_wp2_with fail
                  refine (refr_bits_short _ _ xs _ p z _ (y.nx (Dr.mk_ _ _).nx) (by omega) (by omega) (by omega)).mono ?_
                  rintro e w5 ⟨rfl, n5', rfl⟩
                  have q3 := q
                  have y3 := y
                  have n3 := n5
                  have hle3 := q3.le
                  obtain ⟨A3, c3, b0, b1⟩ := y3.cells
                  go_wp2_with fail
                  go_quiet ((first | (go_at_call 15; exact quiet_left (rdr_at g hh xs _ _ (q3.nx (Dr.mk_ _ _).nx))) | (go_at_call 15; exact quiet_add_left (rdr_at g hh xs _ _ (q3.nx (Dr.mk_ _ _).nx))) | (go_at_call 13; exact quiet_dr (rdr_left g hh xs _ _ (q3.nx (Dr.mk_ _ _).nx))) | (go_at_call 13; exact quiet_add_dr (rdr_left g hh xs _ _ (q3.nx (Dr.mk_ _ _).nx)))))
                  go_wp2_with fail
                  go_roundw
                  case rel => exact ⟨k + 1, _, by omega, by go_num, q3.nx (Dr.mk_ _ _).nx, y3.nx (Dr.mk_ _ _).nx, n3.drewN _⟩
                  case measure => simp [intOf]; omega
                · obtain ⟨m, rfl⟩ := Int.eq_ofNat_of_zero_le (show 0 ≤ z by omega)
                  go_wp2_with fail
                  refine (rdr_bits g hh xs p m _ q (by omega) (by omega)).mono ?_
                  rintro e w4 ⟨rfl, q', ch4⟩
                  go_wp2_with fail
                  refine (refr_bits _ _ xs _ p m _ (y.ch ch4 (by omega) (by omega)) (by omega) (by omega)).mono ?_
                  rintro e w5 ⟨rfl, y', ch5⟩
                  have q3 := q'.ch ch5 (by omega) (by omega)
                  have y3 := y'
                  have n3 := (n5.trans ch4 (by omega)).trans ch5 (by omega)
                  have hle3 := q3.le
                  obtain ⟨A3, c3, b0, b1⟩ := y3.cells
                  go_wp2_with fail
                  go_quiet ((first | (go_at_call 15; exact quiet_left (rdr_at g hh xs _ _ (q3.nx (Dr.mk_ _ _).nx))) | (go_at_call 15; exact quiet_add_left (rdr_at g hh xs _ _ (q3.nx (Dr.mk_ _ _).nx))) | (go_at_call 13; exact quiet_dr (rdr_left g hh xs _ _ (q3.nx (Dr.mk_ _ _).nx))) | (go_at_call 13; exact quiet_add_dr (rdr_left g hh xs _ _ (q3.nx (Dr.mk_ _ _).nx)))))
                  go_wp2_with fail
                  go_roundw
                  case rel => exact ⟨k + 1, _, by omega, by go_num, q3.nx (Dr.mk_ _ _).nx, y3.nx (Dr.mk_ _ _).nx, n3.drewN _⟩
                  case measure => simp [intOf]; omega
          · go_wp2_with fail
            refine (rdr_bits_nil 0 _).mono ?_
            rintro e w4 ⟨rfl, rfl⟩
            go_wp2_with fail
            refine (rdr_at_nil _).mono ?_
            rintro e w4 ⟨rfl, rfl⟩
            go_wp2_with fail
            refine (rdr_left_nil _).mono ?_
            rintro e w4 ⟨rfl, rfl⟩
            go_wp2_with fail
            go_ret
            exact ⟨by simp, n5⟩

theorem walks : Walks 5 Try.f5 := by
  intro H enc W args ds ps h
  rw [Try.params5] at h
  obtain ⟨A, n, c, xs, vs, ds1, q, rfl, hl, hr, ok, hn, hc, h1⟩ := h.bytes
  obtain ⟨A2, n2, c2, zs, vs', ds2, q2, e2, hl2, hr2, ok2, hn2, hc2, h2⟩ := h1.intl
  have e3 := h2.nil
  simp at e2 e3
  subst e2 e3
  subst hl
  exact walk A A2 c n2 c2 xs zs W hr ok (by omega) hr2 hl2 (by omega)

/-- whatever the input, the law answers true -/
theorem proved : Rows.BitsReadsSaid :=
  OpenClaim.holds_of_wide 5 Try.f5 rfl rfl rfl rfl rfl rfl rfl ⟨rfl, rfl, rfl, rfl, rfl⟩ rfl rfl rfl rfl rfl (by kernel_rfl) Try.func5 (by kernel_rfl)
    (of_decide_eq_true (by kernel_rfl)) (by unfold Func.isWrapper; first | (rw [if_pos (by decide +kernel)]; kernel_rfl) | (rw [if_neg (by decide +kernel)]; exact ⟨rfl, rfl⟩))
    (fun os started H enc _ => law_lifted (s := Rows.bitsReadsSpec) Try.func5 (by kernel_rfl) rfl rfl
      (by intro H ds h; rw [Try.params5] at h; match ds, h with | [d1, d2], _ => rfl)
      (by rw [Try.params5]; intro t ht; simp at ht; rcases ht with rfl | rfl <;> exact ⟨by kernel_rfl, of_decide_eq_true (by kernel_rfl)⟩) walks os started H enc
      (ChangeSpec.witness6 (enc := enc) (C := Try.checked) false ⟨#[], #[.slice none 0 0, .slice none 0 0], []⟩ 8 (by kernel_rfl) (by kernel_rfl) (by kernel_rfl) (by kernel_rfl)))
end Go.Proofs.Ytgbjbhghifildaa.BitsReads
