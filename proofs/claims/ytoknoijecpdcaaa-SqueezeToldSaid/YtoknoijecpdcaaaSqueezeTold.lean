/- SqueezeTold: tokens, gone through one by one, make the bytes again. Conditions: none. -/
import Derived.Test.YtoknoijecpdcaaaSqD
namespace Go.Proofs.Ytoknoijecpdcaaa.SqueezeTold
open Go.RowKit
set_option linter.unusedVariables false
theorem tcl_length (l : List Tok) : (tcl l).length = 3 * l.length := by
  induction l with
  | nil => rfl
  | cons t l ih =>
    have e : tcl (t :: l) = tokCs t ++ tcl l := rfl
    rw [e, List.length_append, ih, List.length_cons]
    simp [tokCs]; omega
theorem tcl_get (a : List Tok) (t : Tok) (b : List Tok) (j : Nat) (hj : j < 3) : (tcl (a ++ t :: b))[3 * a.length + j]? = (tokCs t)[j]? := by
  have e : tcl (a ++ t :: b) = tcl a ++ (tokCs t ++ tcl b) := by simp [tcl]
  have hl := tcl_length a
  rw [e, List.getElem?_append_right (by omega), hl, show 3 * a.length + j - 3 * a.length = j by omega, List.getElem?_append_left (by simp [tokCs]; exact hj)]
theorem bl_snoc (xs : List Nat) (p : Nat) (h : p < xs.length) : bl (xs.take (p + 1)) = bl (xs.take p) ++ [.int .u8 (xs.getD p 0 : Int)] := by
  rw [List.take_succ_eq_append_getElem h]
  unfold bl
  rw [List.map_append]
  simp [List.getD, List.getElem?_eq_getElem h]
/-- at the head of the law's loop: how far it is -/
def ToldL (W2 : World) (xs : List Nat) (s5 i : Value) (wr : World) : Prop :=
  ∃ (p : Nat) (a : List Tok), i = .int .i64 (a.length : Int) ∧ p ≤ xs.length ∧ Hid (tokensF xs xs.length 0 = a ++ tokensF xs (xs.length - p) p) ∧ OwnS W2 wr 5 1 s5 p (bl (xs.take p))
/-- at the head of the loop that repeats a stretch -/
def RepL (W2 : World) (xs : List Nat) (p m tb : Nat) (t2 : Nat × Nat) (s5 i : Value) (wr : World) : Prop :=
  ∃ j : Nat, j ≤ m ∧ i = .int .i64 (j : Int) ∧ OwnS W2 wr 5 1 s5 (p + j) (bl (xs.take (p + j))) ∧ Blk wr tb 33 #[.int .i64 (t2.1 : Int), .int .i64 (t2.2 : Int), .int .u8 0] ∧ s5.ownBlock ≠ some tb
set_option maxRecDepth 100000 in
set_option maxHeartbeats 4000000 in
theorem walk (A : Option Addr) (c : Nat) (xs : List Nat) (W : World) (hr : Rd W (· < W.heap.size) 1 A xs.length (bl xs)) (ok : okB xs) (hn : xs.length ≤ 140737488351232) :
    Calls Try.prog 5 #[.slice A xs.length c] W fun e W' => e = .returned (.bool true) ∧ Nx W W' := by
  obtain ⟨i0, hi0, hz0, hz1, hz2⟩ := info_parts Try.info5
  go_enter Try.func5, Try.ntmps5
  go_wp2_with fail
  refine (lives7_any _).mono ?_
  rintro e w1 ⟨rfl, n1⟩
  by_cases hbig : 4096 < xs.length
  · go_wp2_with fail
    refine (lives7_any _).mono ?_
    rintro e w2 ⟨rfl, n2⟩
    go_wp2_with fail
    go_ret
    exact ⟨by simp, n1.tr n2⟩
  · have hxl : xs.length ≤ 4096 := by omega
    go_wp2_with fail
    refine (sq_tokens _ A c xs w1 (hr.nx (by decide) n1) ok (by omega)).mono ?_
    rintro e w2 ⟨v, rfl, ho, n2⟩
    have htl := tokensF_len (b := xs) xs.length 0
    obtain ⟨A1, c1, rfl, _, _⟩ := own_form ho
    have nx2 := n1.tr n2
    have hr2 := hr.nx (by decide) nx2
    have HTl := Lib.hid htl
    obtain ⟨nt, hnt⟩ : ∃ nt, (tokensF xs xs.length 0).length = nt := ⟨_, rfl⟩
    rw [hnt] at ho htl ⊢
    have Hnt := Lib.hid hnt
    have Ho := Lib.hid ho
    clear hnt ho
    go_wp2_with fail
    go_loopw [5, 23] (ToldL w2 xs) (fun _ i _ => nt - (intOf i).toNat)
    case atStart => exact ⟨0, [], rfl, Nat.zero_le _, Lib.hid (by simp), by simpa [bl] using OwnS.nil w2 w2 5 1 (Ch.refl _ w2)⟩
    case round =>
      obtain ⟨w3, rfl⟩ : ∃ w3 : World, w3 = wr := ⟨_, rfl⟩
      obtain ⟨p, a, rfl, hp, Ht, T⟩ := hrel
      obtain ⟨A5, c5, rfl, hc51, hc52⟩ := T.form
      by_cases hlt : p < xs.length
      · have hgood := bestF_good xs p
        have hstep : tokensF xs (xs.length - p) p = tokF xs p (bestF xs p) :: tokensF xs (xs.length - p - 1) (p + max (bestF xs p).1 1) := by
          rw [show xs.length - p = (xs.length - p - 1) + 1 by omega, tokensF, if_neg (by omega)]; rfl
        generalize bestF xs p = t2 at *
        have hall : tokensF xs xs.length 0 = a ++ tokF xs p t2 :: tokensF xs (xs.length - p - 1) (p + max t2.1 1) := by rw [Ht.out, hstep]
        have hal : a.length < nt := by rw [← Hnt.out, hall]; simp
        have ho2 := Ho.out
        rw [hall] at ho2
        obtain ⟨g, cap, hv, _, hgl⟩ := ho2.form (by omega)
        injection hv with hA hlq hcc
        clear hlq
        subst hA
        subst hcc
        have hcells := ho2.cells (g := g) rfl
        have e0 := hcells _ _ (tcl_get a (tokF xs p t2) _ 0 (by omega))
        have e1 := hcells _ _ (tcl_get a (tokF xs p t2) _ 1 (by omega))
        have e2 := hcells _ _ (tcl_get a (tokF xs p t2) _ 2 (by omega))
        have cg : ∀ q, w3.cell? ⟨g, q, none⟩ = w2.cell? ⟨g, q, none⟩ := fun q => T.nx.cell (p := ⟨g, q, none⟩) hgl
        have adz : ∀ j, Addr.add ⟨g, 0, none⟩ j = ⟨g, j, none⟩ := fun j => by
          unfold Addr.add
          by_cases hj : j = 0
          · rw [if_pos hj, hj]
          · rw [if_neg hj]; simp
        rw [adz, ← cg] at e0 e1 e2
        obtain ⟨q, hq⟩ : ∃ q, 3 * a.length = q := ⟨_, rfl⟩
        rw [hq] at e0 e1 e2
        rw [Nat.add_zero] at e0
        have hq' : a.length * 3 = q := by omega
        have hq2 : (a.length : Int) < (nt : Int) := by omega
        have Hall : Hid (tokensF xs xs.length 0 = a ++ tokF xs p t2 :: tokensF xs (xs.length - p - 1) (p + max t2.1 1)) := Lib.hid hall
        have hfuel : tokensF xs (xs.length - p - 1) (p + max t2.1 1) = tokensF xs (xs.length - (p + max t2.1 1)) (p + max t2.1 1) := tokensF_fuel xs _ _ _ (by omega) (by omega)
        have Hfuel := Lib.hid hfuel
        clear hall hstep ho2 hcells cg adz hq hfuel
        rcases hgood with rfl | ⟨g1, g2, g3, g4, g5, g6, g7⟩
        · have hx := okB_getD ok p
          have hbyte : (tokF xs p (0, 0)).byte = xs.getD p 0 := rfl
          have hsn := bl_snoc xs p hlt
          rw [hbyte] at e2
          have z0 : ((tokF xs p (0, 0)).len : Int) = 0 := rfl
          have z1 : ((tokF xs p (0, 0)).dist : Int) = 0 := rfl
          rw [z0] at e0
          rw [z1] at e1
          have Hsn := Lib.hid hsn
          clear hbyte z0 z1 hsn
          generalize xs.getD p 0 = x at *
          obtain ⟨tb, htb⟩ : ∃ tb, w3.heap.size = tb := ⟨_, rfl⟩
          obtain ⟨w4, hw4⟩ : ∃ w4, w3.alloc (.cells #[.int .i64 0, .int .i64 0, .int .u8 (x : Int)] 33) = w4 := ⟨_, rfl⟩
          have T4 := T.alloc (.cells #[.int .i64 0, .int .i64 0, .int .u8 (x : Int)] 33)
          have hB4 := Blk.new w3 33 #[.int .i64 0, .int .i64 0, .int .u8 (x : Int)]
          rw [hw4] at T4 hB4
          rw [htb] at hB4
          go_upto_region 8 with fail
          try simp only [htb, hw4]
          clear htb hw4 T e0 e1 e2
          have d0 : w4.cell? ⟨tb, 0, none⟩ = some (.int .i64 0) := hB4.cell 0
          have d2 : w4.cell? ⟨tb, 2, none⟩ = some (.int .u8 (x : Int)) := hB4.cell 2
          go_wp2_with (at_builtin; refine wpList_app1 rfl (.tmp 30) (.tmp 33) _ rfl 5 i0 _ 1 Try.underlying22 hi0 hz0 hz1 hz2 rfl _ rfl rfl T4 rfl (by simp only [maxLen]; omega) (by omega) ?_; intro v5 w5 o5 m5)
          go_roundw
          case rel =>
            refine ⟨p + 1, a ++ [tokF xs p (0, 0)], by simp, by omega, Lib.hid ?_, by rw [Hsn.out]; exact o5⟩
            rw [Hall.out, List.append_assoc, List.singleton_append, Hfuel.out]
            rfl
          case measure => simp [intOf]; omega
        · have hd0 : ¬ t2.1 = 0 := by omega
          have hbyte : (tokF xs p t2).byte = 0 := by unfold tokF; simp [hd0]
          have z0 : ((tokF xs p t2).len : Int) = (t2.1 : Int) := rfl
          have z1 : ((tokF xs p t2).dist : Int) = (t2.2 : Int) := rfl
          rw [hbyte] at e2
          rw [z0] at e0
          rw [z1] at e1
          have hz29 : ((t2.1 : Int) == 0) = false := by rw [beq_eq_false_iff_ne]; omega
          have f1 : ¬ ((t2.1 : Int) < 3) := by omega
          have f2 : ¬ (258 < (t2.1 : Int)) := by omega
          have f3 : ¬ ((t2.2 : Int) < 1) := by omega
          have f4 : ¬ (32768 < (t2.2 : Int)) := by omega
          have f5 : ¬ ((p : Int) < (t2.2 : Int)) := by omega
          have f6 : ¬ ((xs.length : Int) < (p : Int)) := by omega
          clear hbyte z0 z1
          obtain ⟨tb, htb⟩ : ∃ tb, w3.heap.size = tb := ⟨_, rfl⟩
          obtain ⟨w4, hw4⟩ : ∃ w4, w3.alloc (.cells #[.int .i64 (t2.1 : Int), .int .i64 (t2.2 : Int), .int .u8 0] 33) = w4 := ⟨_, rfl⟩
          have T4 := T.alloc (.cells #[.int .i64 (t2.1 : Int), .int .i64 (t2.2 : Int), .int .u8 0] 33)
          have hB4 := Blk.new w3 33 #[.int .i64 (t2.1 : Int), .int .i64 (t2.2 : Int), .int .u8 0]
          have hvb : (Value.slice A5 p c5).ownBlock ≠ some tb := fun e => by have := (T.lt tb e).2; omega
          rw [hw4] at T4 hB4
          rw [htb] at hB4
          have HW := Lib.hid hw4
          have HT := Lib.hid htb
          clear htb hw4
          go_upto_region 8 with fail
          try simp only [HT.out, HW.out]
          clear HT HW T e0 e1 e2
          have d0 : w4.cell? ⟨tb, 0, none⟩ = some (.int .i64 (t2.1 : Int)) := hB4.cell 0
          have d1 : w4.cell? ⟨tb, 1, none⟩ = some (.int .i64 (t2.2 : Int)) := hB4.cell 1
          have d2 : w4.cell? ⟨tb, 2, none⟩ = some (.int .u8 0) := hB4.cell 2
          go_wp2_with fail
          go_loopw [5, 74] (RepL w2 xs p t2.1 tb t2) (fun _ i _ => t2.1 - (intOf i).toNat)
          case atStart => exact ⟨0, Nat.zero_le _, rfl, T4, hB4, hvb⟩
          case round =>
            clear T4 hB4 d0 d1 d2 hvb
            obtain ⟨w5, rfl⟩ : ∃ w5 : World, w5 = wr := ⟨_, rfl⟩
            obtain ⟨j, hj, rfl, T5, hB5, hvb5⟩ := hrel
            obtain ⟨A6, c6, rfl, hc61, hc62⟩ := T5.form
            by_cases hjl : j < t2.1
            · have d1 : w5.cell? ⟨tb, 1, none⟩ = some (.int .i64 (t2.2 : Int)) := hB5.cell 1
              obtain ⟨z, hz⟩ : ∃ z, p + j - t2.2 = z := ⟨_, rfl⟩
              have hzi : (p : Int) + (j : Int) - (t2.2 : Int) = (z : Int) := by omega
              have hzl : z < p + j := by omega
              have hxz : xs.getD z 0 = xs.getD (p + j) 0 := by
                have := g7 j hjl
                rw [← this]
                congr 1
                omega
              obtain ⟨ad, u, rfl, hDa, hu, hc⟩ := T5.rd.at_ hzl
              have hzlen : z < (xs.take (p + j)).length := by rw [List.length_take]; omega
              rw [bl_get hzlen] at hu
              injection hu with hu
              subst hu
              have htk : (xs.take (p + j)).getD z 0 = xs.getD z 0 := by
                simp only [List.getD_eq_getElem?_getD]
                rw [List.getElem?_take, if_pos hzl]
              rw [htk, hxz] at hc
              have hsn := bl_snoc xs (p + j) (by omega)
              have Hsn := Lib.hid hsn
              have hpj : ((p + j : Nat) : Int) = (p : Int) + (j : Int) := by omega
              have kw : IntKind.i64.wrap ((p : Int) + (j : Int) - (t2.2 : Int)) = (z : Int) := by rw [← hzi]; exact IntWalk.i64_in _ (by omega)
              have hz0' : (0 : Int) ≤ (z : Int) := by omega
              have hzp : (z : Int) < (p : Int) + (j : Int) := by omega
              clear hsn htk hxz hzlen hz
              generalize xs.getD (p + j) 0 = x at *
              go_wp2_with (at_builtin; refine wpList_app1 rfl (.tmp 76) (.tmp 85) _ rfl 5 i0 _ 1 Try.underlying22 hi0 hz0 hz1 hz2 rfl _ rfl rfl T5 rfl (by simp only [maxLen]; omega) (by omega) ?_; intro v6 w6 o6 m6)
              have hB6 := hB5.ch m6.ch (fun e => hvb5 e)
              have hvb6 : v6.ownBlock ≠ some tb := fun e => by
                rcases m6.at_ with q | ⟨k, q, hk⟩
                · exact hvb5 (q.symm.trans e)
                · rw [q] at e; injection e with e; have := hB5.lt; omega
              go_roundw
              case rel => exact ⟨j + 1, by omega, by go_num, by rw [← Nat.add_assoc, Hsn.out]; exact o6, hB6, hvb6⟩
              case measure => simp [intOf]; omega
            · have hjm : j = t2.1 := by omega
              go_wp2_with fail
              go_roundw
              case rel =>
                refine ⟨p + j, a ++ [tokF xs p t2], by simp, by omega, Lib.hid ?_, T5⟩
                rw [Hall.out, List.append_assoc, List.singleton_append, Hfuel.out, show max t2.1 1 = j by omega]
              case measure => simp [intOf]; omega
      · have hpl : p = xs.length := by omega
        have hfin : tokensF xs xs.length 0 = a := by rw [Ht.out, hpl, Nat.sub_self]; simp [tokensF]
        have hal : a.length = nt := by rw [← hfin]; exact Hnt.out
        have hal2 : ¬ ((a.length : Int) < (nt : Int)) := by omega
        rw [hpl, List.take_length] at T
        have nx3 := T.nx
        have hsame := same_any _ _ A5 A xs.length c5 xs.length c xs xs w3 T.rd (hr2.nx (by decide) nx3) ok ok
        simp only [decide_true] at hsame
        rw [hpl]
        clear hpl hfin T Ht
        go_wp2_with fail
        refine hsame.mono ?_
        rintro e w5 ⟨rfl, rfl⟩
        go_wp2_with fail
        go_ret
        exact ⟨by simp, nx2.tr nx3⟩

theorem walks : Walks 5 Try.f5 := by
  intro H enc W args ds ps h
  rw [Try.params5] at h
  obtain ⟨A, n, c, xs, vs, ds1, q, rfl, hl, hr, ok, hn, hc, h1⟩ := h.bytes
  have e3 := h1.nil
  simp at e3
  subst e3
  subst hl
  exact walk A c xs W hr ok (by omega)

/-- whatever the input, the law answers true -/
theorem proved : Rows.SqueezeToldSaid :=
  OpenClaim.holds_of_wide 5 Try.f5 rfl rfl rfl rfl rfl rfl rfl ⟨rfl, rfl, rfl, rfl, rfl⟩ rfl rfl rfl rfl rfl (by kernel_rfl) Try.func5 (by kernel_rfl)
    (of_decide_eq_true (by kernel_rfl)) (by unfold Func.isWrapper; first | (rw [if_pos (by decide +kernel)]; kernel_rfl) | (rw [if_neg (by decide +kernel)]; exact ⟨rfl, rfl⟩))
    (fun os started H enc _ => law_lifted (s := Rows.squeezeToldSpec) Try.func5 (by kernel_rfl) rfl rfl
      (by intro H ds h; rw [Try.params5] at h; match ds, h with | [d1], _ => rfl)
      (by rw [Try.params5]; intro t ht; simp at ht; rcases ht with rfl <;> exact ⟨by kernel_rfl, of_decide_eq_true (by kernel_rfl)⟩) walks os started H enc
      (ChangeSpec.witness6 (enc := enc) (C := Try.checked) false ⟨#[], #[.slice none 0 0], []⟩ 8 (by kernel_rfl) (by kernel_rfl) (by kernel_rfl) (by kernel_rfl)))
end Go.Proofs.Ytoknoijecpdcaaa.SqueezeTold
