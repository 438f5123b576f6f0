/- SqueezeRuns: a row of equal bytes is squeezed to next to nothing; longer ones are refused. Conditions: none. -/
import Derived.Test.YtdfamejakjnamaaSqD
import Derived.Test.YtdfamejakjnamaaInfA
import Derived.Test.YtdfamejakjnamaaPlainY
import Derived.Test.YtdfamejakjnamaaPlainZ
import Derived.Test.YtdfamejakjnamaaSqG
namespace Go.Proofs.Ytdfamejakjnamaa.SqueezeRuns
open Go.RowKit Go.ChangeShapes Go.WideShapes Go.ChangeAt
open Go.Proofs.Ytdfamejakjnamaa.Fix
set_option linter.unusedVariables false
theorem u64mod (n : Int) (k : Nat) (h0 : 0 < k) (hk : k < 9223372036854775808) : ∃ m : Nat, m < k ∧ (IntKind.u64.wrap n).tmod (k : Int) = m := by
  have h1 : IntKind.u64.wrap n = n % 18446744073709551616 := by simp [IntKind.wrap, IntKind.bits, IntKind.signed]
  have h2 : 0 ≤ n % 18446744073709551616 := Int.emod_nonneg _ (by omega)
  rw [h1, Int.tmod_eq_emod_of_nonneg h2]
  obtain ⟨m, hm⟩ := Int.eq_ofNat_of_zero_le (Int.emod_nonneg (n % 18446744073709551616) (show (k : Int) ≠ 0 by omega))
  have := Int.emod_lt_of_pos (n % 18446744073709551616) (show (0 : Int) < k by omega)
  exact ⟨m, by omega, hm⟩
theorem fill_set (k m c : Nat) (h : k < m) : (bl (List.replicate k c ++ List.replicate (m - k) 0)).set k (.int .u8 (c : Int)) = bl (List.replicate (k + 1) c ++ List.replicate (m - (k + 1)) 0) := by
  have e : m - k = (m - (k + 1)) + 1 := by omega
  unfold bl
  rw [List.map_append, List.map_append, List.set_append_right _ _ (by simp), List.map_replicate, List.map_replicate, List.map_replicate, List.map_replicate, List.length_replicate, Nat.sub_self, e, List.replicate_succ, List.set_cons_zero, List.replicate_succ', List.append_assoc]
  rfl
theorem bl_rep (m : Nat) : (madeCells #[.int .u8 0] m).toList = bl (List.replicate m 0) := by
  rw [toList_madeCells_one]; simp [bl]
/-- the row while it is filled -/
def FillL (W : World) (g m c : Nat) (i : Value) (wr : World) : Prop :=
  ∃ k : Nat, k ≤ m ∧ i = .int .i64 (k : Int) ∧ OwnS W wr 5 1 (.slice (some ⟨g, 0, none⟩) m m) m (bl (List.replicate k c ++ List.replicate (m - k) 0))
set_option maxRecDepth 100000 in
set_option maxHeartbeats 4000000 in
theorem walk (c : Nat) (n : Int) (W : World) (hc : c < 256) :
    Calls Try.prog 11 #[.int .u8 (c : Int), .int .i64 n] W fun e W' => e = .returned (.bool true) ∧ Nx W W' := by
  obtain ⟨i0, hi0, hz0, hz1, hz2⟩ := info_parts Try.info5
  obtain ⟨m, hm, hme⟩ := u64mod n 65540 (by omega) (by omega)
  have hme : (IntKind.u64.wrap n).tmod 65540 = (m : Int) := hme
  have hmk := fun w => run_make_rowN (P := Try.prog) 22 5 i0 _ Try.underlying22 hi0 hz0 .i64 .i64 m m (Nat.le_refl _) (by rw [hz2]; omega) (by omega) w
  rw [hz1] at hmk
  simp only [Nat.mul_one] at hmk
  go_enter Try.func11, Try.ntmps11
  go_wp2_with fail
  refine (lives7_any _).mono ?_
  rintro e w1 ⟨rfl, n1⟩
  obtain ⟨g, hg⟩ : ∃ g, w1.heap.size = g := ⟨_, rfl⟩
  have T0 : OwnS w1 (w1.alloc (.cells (madeCells #[.int .u8 0] m) 5)) 5 1 (.slice (some ⟨g, 0, none⟩) m m) m (bl (List.replicate 0 c ++ List.replicate (m - 0) 0)) := by
    have h := World.ownsRow_lit (base := w1.heap.size) (size := 1) (e := 5) w1 (madeCells #[.int .u8 0] m) m (Nat.le_refl _) (by simp only [maxLen]; omega) (by simp [size_madeCells])
    rw [hg, bl_rep] at h
    exact ⟨by rw [hg]; simpa using h, (Ch.refl _ w1).alloc _⟩
  have HT0 := Lib.hid T0
  clear T0
  go_wp2_with fail
  try clear hmk
  try simp only [hg]
  go_loopw [22] (FillL w1 g m c) (fun i _ => m - (intOf i).toNat)
  case atStart => exact ⟨0, Nat.zero_le _, rfl, HT0.out⟩
  case round =>
    clear HT0
    obtain ⟨w2, rfl⟩ : ∃ w2 : World, w2 = wr := ⟨_, rfl⟩
    obtain ⟨k, hk, rfl, T⟩ := hrel
    by_cases hlt : k < m
    · have hlt2 : (k : Int) < (m : Int) := by omega
      have hk0 : (0 : Int) ≤ (k : Int) := by omega
      have hfr := T.own.frozenAt k
      have hcl : w2.cell? ⟨g, k, none⟩ = some (.int .u8 0) := by
        have hu : (bl (List.replicate k c ++ List.replicate (m - k) 0))[k]? = some (.int .u8 0) := by
          unfold bl
          rw [List.map_append, List.getElem?_append_right (by simp), List.map_replicate, List.map_replicate, List.getElem?_replicate, if_pos (by rw [List.length_replicate]; omega)]
          rfl
        have h1 := T.own.cells (g := g) rfl _ _ hu
        have e : Addr.add ⟨g, 0, none⟩ k = ⟨g, k, none⟩ := by
          unfold Addr.add
          by_cases hj : k = 0
          · rw [if_pos hj, hj]
          · rw [if_neg hj]; simp
        rw [e] at h1
        exact h1
      obtain ⟨s1, s2⟩ := T.own.stored k (.int .u8 (c : Int))
      rw [fill_set k m c hlt] at s1
      have hgl := (T.lt g rfl).1
      have S1 : OwnS w1 (w2.setCell ⟨g, k, none⟩ (.int .u8 (c : Int))) 5 1 (.slice (some ⟨g, 0, none⟩) m m) m (bl (List.replicate (k + 1) c ++ List.replicate (m - (k + 1)) 0)) := ⟨s1, T.nx.grown s2 fun j hj hlt => by injection hj with hj; omega⟩
      have HS1 := Lib.hid S1
      clear s1 s2 S1
      go_wp2_with fail
      go_roundw
      case rel => exact ⟨k + 1, by omega, by go_num, HS1.out⟩
      case measure => simp [intOf]; omega
    · have hkm : k = m := by omega
      subst hkm
      have hlt2 : ¬ ((k : Int) < (k : Int)) := by omega
      rw [Nat.sub_self, List.replicate_zero, List.append_nil] at T
      have hR := T.rd
      have hN := T.nx
      have okr : okB (List.replicate k c) := by intro x hx; rw [List.mem_replicate] at hx; omega
      have hlr : (List.replicate k c).length = k := List.length_replicate
      by_cases hlong : 65536 < k
      · have hl2 : (65536 : Int) < (k : Int) := by omega
        go_wp2_with fail
        refine (sq_deflate_long _ k k w2 hlong).mono ?_
        rintro e w3 ⟨rfl, n3⟩
        go_wp2_with fail
        go_ret
        exact ⟨by simp, n1.tr (hN.tr n3)⟩
      · have hl2 : ¬ ((65536 : Int) < (k : Int)) := by omega
        obtain ⟨f1, f2⟩ := rep_few k c
        have hinf := inflate_defl (xs := List.replicate k c) (most := (k : Int)) okr (by rw [hlr]; omega) (by omega)
        have hokp : okB (pack (deflBits (tokensF (List.replicate k c) k 0))) := pack_lt _
        have hdef := sq_deflate_few (W := w2) _ (some ⟨g, 0, none⟩) k (List.replicate k c) (by rw [hlr]; exact hR) okr (by rw [hlr]; omega) (if k = 65536 then 65546 else 5 + k) (by rw [hlr]; split <;> omega) (fun w hw => by
          rw [hlr] at hw ⊢
          by_cases h6 : k = 65536
          · subst h6
            rw [if_pos rfl]
            exact sq_stored_big _ _ _ _ w hw (by omega)
          · rw [if_neg h6]
            have h := sq_stored _ (some ⟨g, 0, none⟩) k (List.replicate k c) w (by rw [hlr]; exact hw) (by rw [hlr]; omega) (by rw [hlr]; omega)
            rw [hlr] at h
            refine h.mono ?_
            rintro e w' ⟨v, rfl, hv⟩
            obtain ⟨A', c', rfl, _, _⟩ := hv.form
            have e2 : (stoOne (List.replicate k c)).length = 5 + k := by simp [stoOne, stoHdr]; omega
            rw [e2]
            exact ⟨_, _, rfl, hv.nx⟩)
        rw [hlr] at hdef hinf
        generalize pack (deflBits (tokensF (List.replicate k c) k 0)) = pf at *
        have HI := Lib.hid hinf
        clear hinf
        go_wp2_with fail
        refine hdef.mono ?_
        rintro e w3 ⟨A3, c3, rfl, ⟨D3, hr3⟩, n3⟩
        clear hdef
        go_wp2_with fail
        refine (inflate_c (W := w3) (bs := pf) (most := (k : Int)) _ A3 c3 hr3 hokp (by omega) (by omega)).mono ?_
        rintro e w4 ⟨v4, rfl, ho4, n4, ok4⟩
        rw [HI.out] at ho4 ok4 ⊢
        obtain ⟨A4, c4, rfl, _, _⟩ := own_form ho4
        have nx4 : Nx w1 w4 := (hN.tr n3).trans n4 fun i hi hs => by have := hN.size; have := n3.size; have hs2 : w3.heap.size ≤ i := hs; omega
        have hR4 : Rd w4 (fun j => (Value.slice (some ⟨g, 0, none⟩) k k).ownBlock = some j ∧ w1.heap.size ≤ j ∧ j < w2.heap.size) 1 (some ⟨g, 0, none⟩) k (bl (List.replicate k c)) := (hR.nx (by decide) n3).ch (by decide) n4 fun j hj hd hs => by have h1 := n3.size; have hs2 : w3.heap.size ≤ j := hs; have := hd.2.2; omega
        have hsame := same_any _ _ A4 (some ⟨g, 0, none⟩) k c4 k k (List.replicate k c) (List.replicate k c) w4 (by have := Rd.of_own ho4; rw [hlr] at this; exact this) hR4 okr okr
        simp only [decide_true] at hsame
        have q1 : (k : Int).tdiv 80 = ((k / 80 : Nat) : Int) := by rw [Int.tdiv_eq_ediv_of_nonneg (by omega)]; omega
        obtain ⟨kq, hkq⟩ : ∃ kq, k / 80 = kq := ⟨_, rfl⟩
        rw [hkq] at q1 f1
        have q2 : (k : Int) / 80 = (kq : Int) := by omega
        have q3 : (pf.length : Int) ≤ 8 + (kq : Int) := by omega
        have hkq2 : kq ≤ 1000 := by omega
        clear hkq
        rw [hlr]
        go_wp2_with fail
        refine hsame.mono ?_
        rintro e w5 ⟨rfl, rfl⟩
        go_wp2_with fail
        go_ret
        exact ⟨by simp; try omega, n1.tr nx4⟩

theorem walks : Walks 11 Try.f11 := by
  intro H enc W args ds ps h
  rw [Try.params11] at h
  obtain ⟨v, vs, d, ds', p, q, rfl, rfl, h0, ⟨b, ho⟩, _, _, h1⟩ := h.cons
  obtain ⟨a, rfl, rfl, rfl, wf⟩ := open_int Try.underlying5 ho h0
  have hmn : IntKind.u8.min = 0 := rfl
  have hmx : IntKind.u8.max = 255 := rfl
  simp only [Lit.wf, Bool.and_eq_true, decide_eq_true_eq] at wf
  obtain ⟨x, rfl⟩ := Int.eq_ofNat_of_zero_le (show 0 ≤ a by omega)
  obtain ⟨n, vs', ds2, q2, e2, ha, h2⟩ := h1.int
  have e3 := h2.nil
  simp at e2 e3
  subst e2 e3
  exact walk x n W (by omega)

/-- whatever the input, the law answers true -/
theorem proved : Rows.SqueezeRunsSaid :=
  OpenClaim.holds_of_wide 11 Try.f11 rfl rfl rfl rfl rfl rfl rfl ⟨rfl, rfl, rfl, rfl, rfl⟩ rfl rfl rfl rfl rfl (by kernel_rfl) Try.func11 (by kernel_rfl)
    (of_decide_eq_true (by kernel_rfl)) (by unfold Func.isWrapper; first | (rw [if_pos (by decide +kernel)]; kernel_rfl) | (rw [if_neg (by decide +kernel)]; exact ⟨rfl, rfl⟩))
    (fun os started H enc _ => law_lifted (s := Rows.squeezeRunsSpec) Try.func11 (by kernel_rfl) rfl rfl
      (by intro H ds h; rw [Try.params11] at h; match ds, h with | [d1, d2], _ => rfl)
      (by rw [Try.params11]; intro t ht; simp at ht; rcases ht with rfl | rfl <;> exact ⟨by kernel_rfl, of_decide_eq_true (by kernel_rfl)⟩) walks os started H enc
      (ChangeSpec.witness6 (enc := enc) (C := Try.checked) false ⟨#[], #[.int .u8 0, .int .i64 0], []⟩ 8 (by kernel_rfl) (by kernel_rfl) (by kernel_rfl) (by kernel_rfl)))
end Go.Proofs.Ytdfamejakjnamaa.SqueezeRuns
