/- The document's rows of integers (entrepotref04: In, Check, Turn, Encode, Best; entrepotref10.IntsOf), walked. Conditions: Turn, Encode of right rows. -/
import Derived.Test.YtlokfmalpkahaaaGreatKrQ5
import Derived.Test.YtlokfmalpkahaaaGreatKrDelta4
import Derived.Test.YtlokfmalpkahaaaGreatKrQ12
namespace Go.Proofs.YtlokfmalpkahaaaGreat
open Go.RowKit
set_option linter.unusedVariables false
set_option maxRecDepth 100000
set_option maxHeartbeats 1000000 in
theorem ref_in (x : Int) (W : World) : Calls Tryz.prog 35 #[.int .i64 x] W fun e w' => e = .returned (.bool (decide (inI x))) ∧ W = w' := by
  by_cases h1 : -1152921504606846976 ≤ x
  · by_cases h2 : x ≤ 1152921504606846976
    · have hd : decide (inI x) = true := decide_eq_true ⟨h1, h2⟩
      have Hd := Lib.hid hd
      clear hd
      go_enter Tryz.func35, Tryz.ntmps35
      go_wp2_with fail
      go_ret
      rw [Hd.out]
      exact ⟨by simp [h2], rfl⟩
    · have hd : decide (inI x) = false := decide_eq_false fun h => h2 h.2
      have Hd := Lib.hid hd
      clear hd
      go_enter Tryz.func35, Tryz.ntmps35
      go_wp2_with fail
      go_ret
      rw [Hd.out]
      exact ⟨by simp; try omega, rfl⟩
  · have hd : decide (inI x) = false := decide_eq_false fun h => h1 h.1
    have Hd := Lib.hid hd
    clear hd
    go_enter Tryz.func35, Tryz.ntmps35
    go_wp2_with fail
    go_ret
    rw [Hd.out]
    exact ⟨by simp; try omega, rfl⟩
set_option maxHeartbeats 2000000 in
theorem ref_check (D : Nat → Prop) (A : Option Addr) (n c : Nat) (zs : List Int) (W : World) (hr : Rd W D 1 A n (il zs)) (hl : zs.length = n) (hn : n ≤ 2048) :
    Calls Tryz.prog 9 #[.slice A n c, .int .i64 0] W fun e w' => e = .returned (.int .i64 (rowErr zs)) ∧ W = w' := by
  subst hl
  have hq : ¬ ((2048 : Int) < (zs.length : Int)) := by omega
  have H2 : Hid ((¬ ∀ x ∈ zs, inI x) → rowErr zs = 2) := Lib.hid fun h => by unfold rowErr; rw [if_neg (by omega), if_neg h]
  have H0 : Hid ((∀ x ∈ zs, inI x) → rowErr zs = 0) := Lib.hid fun h => by unfold rowErr; rw [if_neg (by omega), if_pos h]
  go_enter Tryz.func9, Tryz.ntmps9
  go_wp2_with fail
  go_loop [22] (fun i => ∃ k : Nat, k ≤ zs.length ∧ i = .int .i64 (k : Int) ∧ Hid (∀ j, j < k → inI (zs.getD j 0))) (fun i => zs.length - (intOf i).toNat)
  case atStart => exact ⟨0, Nat.zero_le _, rfl, Lib.hid fun j hj => by omega⟩
  case round =>
    obtain ⟨k, hk, rfl, Hk⟩ := hrel
    by_cases hlt : k < zs.length
    · obtain ⟨ad, rfl, _, hcell⟩ := hr.2 (by omega)
      have hc0 := hcell k _ (dil_at hlt)
      have hin := fun h => H2.out h
      have Hmem := Lib.hid (show zs.getD k 0 ∈ zs by rw [List.getD, List.getElem?_eq_getElem hlt]; exact List.getElem_mem hlt)
      by_cases hx : inI (zs.getD k 0)
      · have hnx : Hid (∀ j, j < k + 1 → inI (zs.getD j 0)) := Lib.hid fun j hj => by
          by_cases e : j = k
          · subst e; exact hx
          · exact Hk.out j (by omega)
        have hcall := ref_in (zs.getD k 0) W
        rw [decide_eq_true hx] at hcall
        have Hcall := Lib.hid hcall
        clear hcall hcell hin hx Hk Hmem
        generalize zs.getD k 0 = x at *
        go_wp2_with fail
        with_reducible refine Hcall.out.mono ?_
        rintro e w1 ⟨rfl, rfl⟩
        go_wp2_with fail
        go_round
        case rel => exact ⟨k + 1, by omega, by go_num, hnx⟩
        case measure => simp [intOf]; omega
      · have hfin := Lib.hid (H2.out fun h => hx (h _ Hmem.out))
        have hcall := ref_in (zs.getD k 0) W
        rw [decide_eq_false hx] at hcall
        have Hcall := Lib.hid hcall
        clear hcall hcell hin hx Hk Hmem
        generalize zs.getD k 0 = x at *
        go_wp2_with fail
        with_reducible refine Hcall.out.mono ?_
        rintro e w1 ⟨rfl, rfl⟩
        go_wp2_with fail
        go_ret
        rw [hfin.out]
        exact ⟨rfl, rfl⟩
    · obtain rfl : zs.length = k := by omega
      have hfin := Lib.hid (H0.out fun x hx => by
        obtain ⟨j, hj, rfl⟩ := List.mem_iff_getElem.1 hx
        have := Hk.out j hj
        rw [List.getD, List.getElem?_eq_getElem hj] at this
        exact this)
      clear Hk
      go_wp2_with fail
      go_ret
      rw [hfin.out]
      exact ⟨rfl, rfl⟩
set_option maxHeartbeats 8000000 in
theorem ref_turn0 (D : Nat → Prop) (A : Option Addr) (n c : Nat) (l : List Int) (W : World) (hr : Rd W D 1 A n (il l)) (hl : l.length = n) (he : rowErr l = 0) :
    Calls Tryz.prog 82 #[.slice A n c, .int .i64 0] W fun e w' => ∃ v, e = .returned v ∧ OwnS W w' 2 1 v n (il (turnTo l 0)) := by
  obtain ⟨i0, hi0, hz0, hz1, hz2⟩ := info_parts Tryz.info64
  obtain ⟨hll, hin⟩ := rowErr_ok he
  have hL : ∀ k, -1152921504606846976 ≤ l.getD k 0 ∧ l.getD k 0 ≤ 1152921504606846976 := fun k => bndI_getD (B := 1152921504606846976) (fun x hx => hin x hx) (by omega) k
  have HL := Lib.hid hL
  have Hl := Lib.hid hl
  have Htl := Lib.hid (turnTo_length l 0)
  rw [hl] at hll
  clear hL hl hin he
  have h0 := OwnS.lit W W 2 (Ch.refl _ W) 1
  go_enter Tryz.func82, Tryz.ntmps82
  go_wp2_with fail
  go_loopw [5, 12] (fun v i wr => ∃ k : Nat, k ≤ n ∧ i = .int .i64 (k : Int) ∧ OwnS W wr 2 1 v k (il ((turnTo l 0).take k))) (fun _ i _ => n - (intOf i).toNat)
  case atStart => exact ⟨0, Nat.zero_le _, rfl, h0⟩
  case round =>
    clear h0
    obtain ⟨w4, rfl⟩ : ∃ w4 : World, w4 = wr := ⟨_, rfl⟩
    obtain ⟨k, hk, rfl, o4⟩ := hrel
    by_cases hlt : k < n
    · obtain ⟨ad, rfl, _, hcell⟩ := (hr.nx (by decide) o4.nx).2 (by omega)
      have Hcell := Lib.hid (fun j (hj : j < n) => hcell j _ (dil_at (by rw [Hl.out]; exact hj)))
      have c0 := Hcell.out k hlt
      have HS := Lib.hid (il_snoc (l := turnTo l 0) (k := k) (by rw [Htl.out, Hl.out]; exact hlt))
      have hTe : (turnTo l 0).getD k 0 = l.getD k 0 := rfl
      have hx0 := HL.out k
      have hx1 := HL.out (k - 1)
      have hx2 := HL.out (k - 2)
      clear hcell
      rw [hTe] at HS
      clear hTe hx1 hx2
      generalize l.getD k 0 = x at *
      go_wp2_with (at_builtin; refine wpList_app1 rfl (.tmp 51) (.tmp 53) _ rfl 2 i0 _ 8 Tryz.underlying22 hi0 hz0 hz1 hz2 rfl (.int .i64 (x)) rfl rfl o4 rfl (by simp only [maxLen]; omega) (by omega) ?_; intro v6 w6 o6 m6)
      go_roundw
      case rel => exact ⟨k + 1, by omega, by go_num, by rw [HS.out]; exact o6⟩
      case measure => simp [intOf]; omega
    · obtain rfl : n = k := by omega
      rw [List.take_of_length_le (by rw [Htl.out, Hl.out]; omega)] at o4
      go_wp2_with fail
      go_ret
      exact ⟨_, rfl, o4⟩
set_option maxHeartbeats 8000000 in
theorem ref_turn1 (D : Nat → Prop) (A : Option Addr) (n c : Nat) (l : List Int) (W : World) (hr : Rd W D 1 A n (il l)) (hl : l.length = n) (he : rowErr l = 0) :
    Calls Tryz.prog 82 #[.slice A n c, .int .i64 1] W fun e w' => ∃ v, e = .returned v ∧ OwnS W w' 2 1 v n (il (turnTo l 1)) := by
  obtain ⟨i0, hi0, hz0, hz1, hz2⟩ := info_parts Tryz.info64
  obtain ⟨hll, hin⟩ := rowErr_ok he
  have hL : ∀ k, -1152921504606846976 ≤ l.getD k 0 ∧ l.getD k 0 ≤ 1152921504606846976 := fun k => bndI_getD (B := 1152921504606846976) (fun x hx => hin x hx) (by omega) k
  have HL := Lib.hid hL
  have Hl := Lib.hid hl
  have Htl := Lib.hid (turnTo_length l 1)
  rw [hl] at hll
  clear hL hl hin he
  have h0 := OwnS.lit W W 2 (Ch.refl _ W) 1
  go_enter Tryz.func82, Tryz.ntmps82
  go_wp2_with fail
  go_loopw [5, 12] (fun v i wr => ∃ k : Nat, k ≤ n ∧ i = .int .i64 (k : Int) ∧ OwnS W wr 2 1 v k (il ((turnTo l 1).take k))) (fun _ i _ => n - (intOf i).toNat)
  case atStart => exact ⟨0, Nat.zero_le _, rfl, h0⟩
  case round =>
    clear h0
    obtain ⟨w4, rfl⟩ : ∃ w4 : World, w4 = wr := ⟨_, rfl⟩
    obtain ⟨k, hk, rfl, o4⟩ := hrel
    by_cases hlt : k < n
    · obtain ⟨ad, rfl, _, hcell⟩ := (hr.nx (by decide) o4.nx).2 (by omega)
      have Hcell := Lib.hid (fun j (hj : j < n) => hcell j _ (dil_at (by rw [Hl.out]; exact hj)))
      have c0 := Hcell.out k hlt
      have HS := Lib.hid (il_snoc (l := turnTo l 1) (k := k) (by rw [Htl.out, Hl.out]; exact hlt))
      have hTe := turn1_get l k (by rw [Hl.out]; exact hlt)
      have hx0 := HL.out k
      have hx1 := HL.out (k - 1)
      have hx2 := HL.out (k - 2)
      clear hcell
      by_cases hk0 : k = 0
      · subst hk0
        have ha0 : ad.add 0 = ad := by simp [Addr.add]
        rw [ha0] at c0
        rw [hTe, if_neg (by omega)] at HS
        clear hTe hx1 hx2
        generalize l.getD 0 0 = x at *
        go_wp2_with (at_builtin; refine wpList_app1 rfl (.tmp 51) (.tmp 53) _ rfl 2 i0 _ 8 Tryz.underlying22 hi0 hz0 hz1 hz2 rfl (.int .i64 (x)) rfl rfl o4 rfl (by simp only [maxLen]; omega) (by omega) ?_; intro v6 w6 o6 m6)
        go_roundw
        case rel => exact ⟨0 + 1, by omega, by go_num, by rw [HS.out]; exact o6⟩
        case measure => simp [intOf]; omega
      · have c1 := Hcell.out (k - 1) (by omega)
        rw [hTe, if_pos (show 1 ≤ k by omega)] at HS
        clear hTe hx2
        have b1 : IntKind.i64.wrap ((k : Int) - 1) = (((k - 1 : Nat)) : Int) := by rw [IntWalk.i64_in _ (by omega)]; omega
        have b2 : (k : Int) - 1 = ((k - 1 : Nat) : Int) := by omega
        have hg1 : (1 : Int) ≤ (k : Int) := by omega
        generalize l.getD k 0 = x at *
        generalize l.getD (k - 1) 0 = y at *
        have kw : IntKind.i64.wrap (x - y) = x - y := IntWalk.i64_in _ (by omega)
        go_wp2_with (at_builtin; refine wpList_app1 rfl (.tmp 51) (.tmp 53) _ rfl 2 i0 _ 8 Tryz.underlying22 hi0 hz0 hz1 hz2 rfl (.int .i64 (x - y)) rfl rfl o4 rfl (by simp only [maxLen]; omega) (by omega) ?_; intro v6 w6 o6 m6)
        go_roundw
        case rel => exact ⟨k + 1, by omega, by go_num, by rw [HS.out]; exact o6⟩
        case measure => simp [intOf]; omega
    · obtain rfl : n = k := by omega
      rw [List.take_of_length_le (by rw [Htl.out, Hl.out]; omega)] at o4
      go_wp2_with fail
      go_ret
      exact ⟨_, rfl, o4⟩
set_option maxHeartbeats 8000000 in
theorem ref_turn2 (D : Nat → Prop) (A : Option Addr) (n c : Nat) (l : List Int) (W : World) (hr : Rd W D 1 A n (il l)) (hl : l.length = n) (he : rowErr l = 0) :
    Calls Tryz.prog 82 #[.slice A n c, .int .i64 2] W fun e w' => ∃ v, e = .returned v ∧ OwnS W w' 2 1 v n (il (turnTo l 2)) := by
  obtain ⟨i0, hi0, hz0, hz1, hz2⟩ := info_parts Tryz.info64
  obtain ⟨hll, hin⟩ := rowErr_ok he
  have hL : ∀ k, -1152921504606846976 ≤ l.getD k 0 ∧ l.getD k 0 ≤ 1152921504606846976 := fun k => bndI_getD (B := 1152921504606846976) (fun x hx => hin x hx) (by omega) k
  have HL := Lib.hid hL
  have Hl := Lib.hid hl
  have Htl := Lib.hid (turnTo_length l 2)
  rw [hl] at hll
  clear hL hl hin he
  have h0 := OwnS.lit W W 2 (Ch.refl _ W) 1
  go_enter Tryz.func82, Tryz.ntmps82
  go_wp2_with fail
  go_loopw [5, 12] (fun v i wr => ∃ k : Nat, k ≤ n ∧ i = .int .i64 (k : Int) ∧ OwnS W wr 2 1 v k (il ((turnTo l 2).take k))) (fun _ i _ => n - (intOf i).toNat)
  case atStart => exact ⟨0, Nat.zero_le _, rfl, h0⟩
  case round =>
    clear h0
    obtain ⟨w4, rfl⟩ : ∃ w4 : World, w4 = wr := ⟨_, rfl⟩
    obtain ⟨k, hk, rfl, o4⟩ := hrel
    by_cases hlt : k < n
    · obtain ⟨ad, rfl, _, hcell⟩ := (hr.nx (by decide) o4.nx).2 (by omega)
      have Hcell := Lib.hid (fun j (hj : j < n) => hcell j _ (dil_at (by rw [Hl.out]; exact hj)))
      have c0 := Hcell.out k hlt
      have HS := Lib.hid (il_snoc (l := turnTo l 2) (k := k) (by rw [Htl.out, Hl.out]; exact hlt))
      have hTe := turn2_get l k (by rw [Hl.out]; exact hlt)
      have hx0 := HL.out k
      have hx1 := HL.out (k - 1)
      have hx2 := HL.out (k - 2)
      clear hcell
      by_cases hk0 : k = 0
      · subst hk0
        have ha0 : ad.add 0 = ad := by simp [Addr.add]
        rw [ha0] at c0
        rw [hTe, if_neg (by omega), if_neg (by omega)] at HS
        clear hTe hx1 hx2
        generalize l.getD 0 0 = x at *
        go_wp2_with (at_builtin; refine wpList_app1 rfl (.tmp 51) (.tmp 53) _ rfl 2 i0 _ 8 Tryz.underlying22 hi0 hz0 hz1 hz2 rfl (.int .i64 (x)) rfl rfl o4 rfl (by simp only [maxLen]; omega) (by omega) ?_; intro v6 w6 o6 m6)
        go_roundw
        case rel => exact ⟨0 + 1, by omega, by go_num, by rw [HS.out]; exact o6⟩
        case measure => simp [intOf]; omega
      · by_cases hk1 : k = 1
        · have hk2 : ¬ (2 : Int) ≤ (k : Int) := by omega
          have c1 := Hcell.out (k - 1) (by omega)
          rw [hTe, if_neg (by omega), if_pos (by omega)] at HS
          clear hTe hx2
          have b1 : IntKind.i64.wrap ((k : Int) - 1) = (((k - 1 : Nat)) : Int) := by rw [IntWalk.i64_in _ (by omega)]; omega
          have hk3 : 1 ≤ k := by omega
          clear hk1 hk0
          generalize l.getD k 0 = x at *
          generalize l.getD (k - 1) 0 = y at *
          have kw : IntKind.i64.wrap (x - y) = x - y := IntWalk.i64_in _ (by omega)
          go_wp2_with (at_builtin; refine wpList_app1 rfl (.tmp 51) (.tmp 53) _ rfl 2 i0 _ 8 Tryz.underlying22 hi0 hz0 hz1 hz2 rfl (.int .i64 (x - y)) rfl rfl o4 rfl (by simp only [maxLen]; omega) (by omega) ?_; intro v6 w6 o6 m6)
          go_roundw
          case rel => exact ⟨k + 1, by omega, by go_num, by rw [HS.out]; exact o6⟩
          case measure => simp [intOf]; omega
        · have c1 := Hcell.out (k - 1) (by omega)
          have c2 := Hcell.out (k - 2) (by omega)
          rw [hTe, if_pos (show 2 ≤ k by omega)] at HS
          clear hTe
          have b1 : IntKind.i64.wrap ((k : Int) - 1) = ((k - 1 : Nat) : Int) := by rw [IntWalk.i64_in _ (by omega)]; omega
          have b3 : IntKind.i64.wrap ((k : Int) - 2) = ((k - 2 : Nat) : Int) := by rw [IntWalk.i64_in _ (by omega)]; omega
          have b2 : (k : Int) - 1 = ((k - 1 : Nat) : Int) := by omega
          have b4 : (k : Int) - 2 = ((k - 2 : Nat) : Int) := by omega
          have hg1 : (1 : Int) ≤ (k : Int) := by omega
          have hg2 : (2 : Int) ≤ (k : Int) := by omega
          generalize l.getD k 0 = x at *
          generalize l.getD (k - 1) 0 = y at *
          generalize l.getD (k - 2) 0 = z at *
          have kw : IntKind.i64.wrap (x - y) = x - y := IntWalk.i64_in _ (by omega)
          have kw2 : IntKind.i64.wrap (2 * y) = 2 * y := IntWalk.i64_in _ (by omega)
          have kw3 : IntKind.i64.wrap (x - 2 * y) = x - 2 * y := IntWalk.i64_in _ (by omega)
          have kw4 : IntKind.i64.wrap (x - 2 * y + z) = x - 2 * y + z := IntWalk.i64_in _ (by omega)
          rw [show x - y - (y - z) = x - 2 * y + z by omega] at HS
          go_wp2_with fail
          go_quiet (fail)
          have o4 := o4.drewN nq
          go_wp2_with (at_builtin; refine wpList_app1 rfl (.tmp 51) (.tmp 53) _ rfl 2 i0 _ 8 Tryz.underlying22 hi0 hz0 hz1 hz2 rfl (.int .i64 (x - 2 * y + z)) rfl rfl o4 rfl (by simp only [maxLen]; omega) (by omega) ?_; intro v6 w6 o6 m6)
          go_roundw
          case rel => exact ⟨k + 1, by omega, by go_num, by rw [HS.out]; exact o6⟩
          case measure => simp [intOf]; omega
    · obtain rfl : n = k := by omega
      rw [List.take_of_length_le (by rw [Htl.out, Hl.out]; omega)] at o4
      go_wp2_with fail
      go_ret
      exact ⟨_, rfl, o4⟩
theorem ref_turn (D : Nat → Prop) (A : Option Addr) (n c : Nat) (l : List Int) (w : Nat) (hw : w ≤ 2) (W : World) (hr : Rd W D 1 A n (il l)) (hl : l.length = n) (he : rowErr l = 0) :
    Calls Tryz.prog 82 #[.slice A n c, .int .i64 (w : Int)] W fun e w' => ∃ v, e = .returned v ∧ OwnS W w' 2 1 v n (il (turnTo l w)) := by
  match w, hw with
  | 0, _ => exact ref_turn0 D A n c l W hr hl he
  | 1, _ => exact ref_turn1 D A n c l W hr hl he
  | 2, _ => exact ref_turn2 D A n c l W hr hl he
set_option maxHeartbeats 8000000 in
theorem ref_encode (D : Nat → Prop) (A : Option Addr) (n c : Nat) (l : List Int) (w : Nat) (hw : w ≤ 2) (W : World) (hr : Rd W D 1 A n (il l)) (hl : l.length = n) (he : rowErr l = 0) :
    Calls Tryz.prog 40 #[.slice A n c, .int .i64 (w : Int)] W (GivesB W 5 1 (encF l w).length (bl (encF l w))) := by
  obtain ⟨i0, hi0, hz0, hz1, hz2⟩ := info_parts Tryz.info5
  obtain ⟨hll, hin⟩ := rowErr_ok he
  have hlen := (encF_len hin (by omega) hw).2
  have hpos := (encF_len hin (by omega) hw).1
  have htb := turnTo_bnd hin w hw
  have HB := Lib.hid (fun k => bndI_getD htb (by omega) k)
  have HE : Hid (encF l w = putU l.length ++ encBody ((turnTo l w).drop 0)) := Lib.hid rfl
  have Htl := Lib.hid (turnTo_length l w)
  have htn := fun w' (nx : Nx W w') => ref_turn D A n c l w hw w' (hr.nx (by decide) nx) hl he
  have Htn := Lib.hid htn
  have Hpu := Lib.hid (fun (v : Nat) (w : World) (hv : v < 18446744073709551616) => ref_putU v w hv)
  have Hpl := Lib.hid (fun v (hv : v < 18446744073709551616) => putU_len10 (n := v) hv)
  have Hl := Lib.hid hl
  rw [hl] at HE hll hlen
  have kw : IntKind.u64.wrap (n : Int) = (n : Int) := by rw [IntKind.wrap_u64]; omega
  clear hl hin he htb htn hr
  generalize encF l w = T at *
  generalize turnTo l w = t at *
  go_enter Tryz.func40, Tryz.ntmps40
  go_wp2_with fail
  with_reducible refine (Hpu.out n W (by omega)).mono ?_
  rintro e w1 ⟨k1, cap1, rfl, o1, _, _, _, _⟩
  go_wp2_with fail
  with_reducible refine (Htn.out w1 o1.nx).mono ?_
  rintro e w2 ⟨v2, rfl, o2⟩
  obtain ⟨A2, c2, rfl, _, _⟩ := o2.form
  have r2 := o2.rd.more (D' := fun k => w1.heap.size ≤ k ∧ k < w2.heap.size) fun k hk => hk.2
  have hk1 := (o1.lt k1 rfl).2
  have hb0 : ∀ j, (Value.slice (some ⟨k1, 0, none⟩) (putU n).length cap1).ownBlock = some j → j < w1.heap.size ∨ w2.heap.size ≤ j := fun j hj => .inl (by have : k1 = j := (by simpa [Value.ownBlock] using hj); omega)
  have h0 : ∃ X, OwnS W w2 5 1 (.slice (some ⟨k1, 0, none⟩) (putU n).length cap1) X.length (bl X) ∧ X ++ encBody (t.drop 0) = T := ⟨putU n, o1.tr o2.nx, HE.out.symm⟩
  have H0 := Lib.hid h0
  clear h0 o1 o2 Htn
  go_wp2_with fail
  go_loopw [5, 16] (fun v i wr => ∃ k : Nat, k ≤ n ∧ i = .int .i64 (k : Int) ∧ w2.heap.size ≤ wr.heap.size ∧ Rd wr (fun k => w1.heap.size ≤ k ∧ k < w2.heap.size) 1 A2 n (il t) ∧ Hid (∀ j, v.ownBlock = some j → j < w1.heap.size ∨ w2.heap.size ≤ j) ∧ Hid (∃ X, OwnS W wr 5 1 v X.length (bl X) ∧ X ++ encBody (t.drop k) = T)) (fun _ i _ => n - (intOf i).toNat)
  case atStart => exact ⟨0, Nat.zero_le _, rfl, Nat.le_refl _, r2, Lib.hid hb0, H0⟩
  case round =>
    clear H0 r2 hb0
    obtain ⟨w4, rfl⟩ : ∃ w4 : World, w4 = wr := ⟨_, rfl⟩
    obtain ⟨k, hk, rfl, hw4, r4, hob, hout⟩ := hrel
    obtain ⟨X, oX, eX⟩ := hout.out
    by_cases hlt : k < n
    · have e1 := encBody_drop (l := t) (k := k) (by rw [Htl.out, Hl.out]; exact hlt)
      rw [e1] at eX
      obtain ⟨ad, rfl, _, hcell⟩ := r4.2 (by omega)
      have hc0 := hcell k _ (dil_at (by rw [Htl.out, Hl.out]; exact hlt))
      have hx := HB.out k
      have hlb := congrArg List.length eX
      simp only [List.length_append] at hlb
      have E := Lib.hid eX
      clear hcell e1 eX hout
      generalize t.getD k 0 = x at *
      have hzl : zig x < 18446744073709551616 := zig_lt (by omega) (by omega)
      have hpz := Hpl.out (zig x) hzl
      have Hzg := Lib.hid (fun w => ref_zig x w (by omega) (by omega))
      have hxb : X.length + (putU (zig x)).length ≤ 1000000 := by omega
      clear hlb
      go_wp2_with fail
      with_reducible refine (Hzg.out _).mono ?_
      rintro e w5 ⟨rfl, rfl⟩
      go_wp2_with fail
      with_reducible refine (Hpu.out (zig x) w4 hzl).mono ?_
      rintro e w5 ⟨k5, cap5, rfl, o5, _, _, _, _⟩
      have oX5 := oX.tr o5.nx
      have r5 := o5.rd_
      have r45 := r4.nx (by decide) o5.nx
      have hw5 := o5.nx.size
      have fin : ∀ v w, OwnS W w 5 1 v (X.length + (putU (zig x)).length) (bl X ++ bl (putU (zig x))) → ∃ X, OwnS W w 5 1 v X.length (bl X) ∧ X ++ encBody (t.drop (k + 1)) = T := fun v w o => ⟨X ++ putU (zig x), by rw [List.length_append, show bl (X ++ putU (zig x)) = bl X ++ bl (putU (zig x)) by simp [bl]]; exact o, by rw [← E.out]; simp only [List.append_assoc]⟩
      have Fin := Lib.hid fin
      have nxt : ∀ v7 w7, Moved w5 w7 u5 v7 → w2.heap.size ≤ w7.heap.size ∧ Rd w7 (fun k => w1.heap.size ≤ k ∧ k < w2.heap.size) 1 (some ad) n (il t) ∧ ∀ j, v7.ownBlock = some j → j < w1.heap.size ∨ w2.heap.size ≤ j := fun v7 w7 m => by
        have hs := m.ch.size
        refine ⟨by omega, r45.ch (by decide) m.ch (fun k hk hd e => ?_), fun j hj => ?_⟩
        · rcases hob.out k e with h | h <;> omega
        · rcases m.at_ with h | ⟨k, h, h2⟩
          · exact hob.out j (by rw [← h]; exact hj)
          · rw [h] at hj
            injection hj with hj
            exact .inr (by omega)
      have Nxt := Lib.hid nxt
      clear nxt
      clear fin o5 oX
      go_wp2_with (at_builtin; (refine wpList_appN rfl (.tmp 20) (.tmp 23) _ rfl 5 i0 _ 1 1 Tryz.underlying27 hi0 hz0 hz1 hz2 rfl (by omega) rfl oX5 _ (some ⟨k5, 0, none⟩) (putU (zig x)).length cap5 (bl (putU (zig x))) rfl r5 (bl_one _) (by simp only [maxLen]; omega) (by omega) ?_; intro v7 w7 o7 m7; have Ho7 := Lib.hid (Fin.out v7 w7 o7)))
      go_roundw
      case rel =>
        obtain ⟨q1, q2, q3⟩ := Nxt.out _ _ m7
        exact ⟨k + 1, by omega, by go_num, q1, q2, Lib.hid q3, Ho7⟩
      case measure => simp [intOf]; omega
    · obtain rfl : n = k := by omega
      have e1 : encBody (t.drop n) = [] := by
        rw [List.drop_of_length_le (by rw [Htl.out, Hl.out]; omega)]
        rfl
      rw [e1, List.append_nil] at eX
      subst eX
      clear hout e1
      go_wp2_with fail
      go_ret
      exact GivesB.of_pos oX hpos
theorem bst_len (l : List Int) : ∀ k, 0 < k → (bst l k).2 = ((encF l (bst l k).1).length : Int) := by
  intro k
  induction k with
  | zero => intro h; omega
  | succ k ih =>
    intro _
    by_cases h : (bst l k).2 < 0 ∨ ((encF l k).length : Int) < (bst l k).2
    · have e : bst l (k + 1) = (k, ((encF l k).length : Int)) := by rw [bst, if_pos h]
      rw [e]
    · have e : bst l (k + 1) = bst l k := by rw [bst, if_neg h]
      rw [e]
      rcases Nat.eq_zero_or_pos k with rfl | hk
      · exact absurd (.inl (by simp [bst])) h
      · exact ih hk
theorem bst_next (l : List Int) (k : Nat) (hk : 0 < k) : (bst l (k + 1)).1 = if (encF l k).length < (encF l (bst l k).1).length then k else (bst l k).1 := by
  have h := bst_len l k hk
  rw [bst, h]
  by_cases hlt : (encF l k).length < (encF l (bst l k).1).length
  · rw [if_pos (.inr (by omega)), if_pos hlt]
  · rw [if_neg (by omega), if_neg hlt]
set_option maxHeartbeats 4000000 in
theorem refd_best (D : Nat → Prop) (A : Option Addr) (n c : Nat) (l : List Int) (W : World) (hr : Rd W D 1 A n (il l)) (hl : l.length = n) (he : rowErr l = 0) :
    Calls Tryz.prog 39 #[.slice A n c] W fun e w' => e = .returned (.int .i64 (dbestF l : Int)) ∧ Nx W w' := by
  have hll := (rowErr_ok he).1
  have hck := ref_check D A n c l W hr hl (by omega)
  rw [he] at hck
  have hen := fun (w : Nat) (hw : w ≤ 2) w' (nx : Nx W w') => ref_encode D A n c l w hw w' (hr.nx (by decide) nx) hl he
  have HD : Hid (dbestF l = (bst l 3).1) := Lib.hid (by unfold dbestF; rw [if_neg (by simpa using he)])
  have Hn := Lib.hid (fun k hk => bst_next l k hk)
  have Hle := Lib.hid (bst_lt l)
  have H1 := Lib.hid (show (bst l 1).1 = 0 by simp [bst])
  have Hck := Lib.hid hck
  have Hen := Lib.hid hen
  clear hck hen he hr hl
  generalize hb : (fun k => (bst l k).1) = B at *
  have HB := Lib.hid (fun k => congrFun hb k)
  clear hb
  go_enter Tryz.func39, Tryz.ntmps39
  go_wp2_with fail
  with_reducible refine Hck.out.mono ?_
  rintro e w1 ⟨rfl, rfl⟩
  go_wp2_with fail
  go_loopw [3, 4] (fun s3 s4 wr => ∃ k : Nat, 1 ≤ k ∧ k ≤ 3 ∧ s4 = .int .i64 (k : Int) ∧ s3 = .int .i64 (B k : Int) ∧ Nx W wr) (fun _ s4 _ => 3 - (intOf s4).toNat)
  case atStart => exact ⟨1, by omega, by omega, rfl, by rw [← HB.out 1, H1.out]; rfl, Ch.refl _ _⟩
  case round =>
    obtain ⟨w4, rfl⟩ : ∃ w4 : World, w4 = wr := ⟨_, rfl⟩
    obtain ⟨k, hk1, hk3, rfl, rfl, n4⟩ := hrel
    by_cases hk : k ≤ 2
    · have hnx := Hn.out k (by omega)
      have hbl := Hle.out k
      rw [HB.out k, HB.out (k + 1)] at hnx
      have hbl2 : B k ≤ 2 := by rw [← HB.out k]; omega
      have hcall := Hen.out k hk w4 n4
      generalize B k = b at *
      have HX := Lib.hid hnx
      clear hnx
      obtain ⟨L1, hL1⟩ : ∃ L1, (encF l k).length = L1 := ⟨_, rfl⟩
      obtain ⟨L2, hL2⟩ : ∃ L2, (encF l b).length = L2 := ⟨_, rfl⟩
      have hcall2 := fun w (nx : Nx W w) => Hen.out b hbl2 w nx
      rw [hL1] at hcall HX
      rw [hL2] at hcall2 HX
      have Hcall := Lib.hid hcall
      have Hcall2 := Lib.hid hcall2
      clear hcall hcall2 hL1 hL2
      go_wp2_with fail
      with_reducible refine Hcall.out.mono ?_
      rintro e w5 ⟨k5, cap5, rfl, o5, _, _, _, _⟩
      have n5 := n4.tr o5.nx
      clear o5
      go_wp2_with fail
      with_reducible refine (Hcall2.out _ n5).mono ?_
      rintro e w6 ⟨k6, cap6, rfl, o6, _, _, _, _⟩
      have n6 := n5.tr o6.nx
      clear o6
      by_cases hlt : L1 < L2
      · have hq : (L1 : Int) < (L2 : Int) := by omega
        have hB : B (k + 1) = k := by rw [HX.out, if_pos hlt]
        have HB1 := Lib.hid hB
        clear hB
        go_wp2_with fail
        go_roundw
        case rel => exact ⟨k + 1, by omega, by omega, by go_num, by rw [HB1.out], n6⟩
        case measure => simp [intOf]; omega
      · have hq : ¬ ((L1 : Int) < (L2 : Int)) := by omega
        have hB : B (k + 1) = b := by rw [HX.out, if_neg hlt]
        have HB1 := Lib.hid hB
        clear hB
        go_wp2_with fail
        go_roundw
        case rel => exact ⟨k + 1, by omega, by omega, by go_num, by rw [HB1.out], n6⟩
        case measure => simp [intOf]; omega
    · obtain rfl : k = 3 := by omega
      have HF : Hid (dbestF l = B 3) := Lib.hid (by rw [HD.out]; exact HB.out 3)
      go_wp2_with fail
      go_ret
      exact ⟨by rw [HF.out]; rfl, n4⟩
set_option maxHeartbeats 4000000 in
theorem ref_intsOf (D : Nat → Prop) (A : Option Addr) (n c : Nat) (l : List Int) (W : World) (hr : Rd W D 1 A n (il l)) (hl : l.length = n) (he : rowErr l = 0) :
    Calls Tryz.prog 12 #[.slice A n c] W (GivesB W 5 1 (intsC l).length (bl (intsC l))) := by
  obtain ⟨i0, hi0, hz0, hz1, hz2⟩ := info_parts Tryz.info5
  have hd2 := dbestF_le l
  have hil := intsC_len he
  have hll := (rowErr_ok he).1
  have hbe := refd_best D A n c l W hr hl he
  have hen := fun w' (nx : Nx W w') => ref_encode D A n c l (dbestF l) hd2 w' (hr.nx (by decide) nx) hl he
  have HE : Hid (intsC l = [dbestF l] ++ encF l (dbestF l)) := Lib.hid rfl
  have Hbe := Lib.hid hbe
  have Hen := Lib.hid hen
  have hel : (intsC l).length = 1 + (encF l (dbestF l)).length := by rw [HE.out, List.length_append]; rfl
  have hel2 : (encF l (dbestF l)).length ≤ 100000 := by omega
  have HEL := Lib.hid hel
  clear hbe hen he hr hl hel hil
  generalize intsC l = T at *
  generalize encF l (dbestF l) = E at *
  generalize dbestF l = d at *
  have kd : IntKind.u8.wrap (d : Int) = (d : Int) := by
    have : IntKind.u8.wrap (d : Int) = (d : Int) % 256 := by simp [IntKind.wrap, IntKind.bits, IntKind.signed]
    omega
  go_enter Tryz.func12, Tryz.ntmps12
  go_wp2_with fail
  with_reducible refine Hbe.out.mono ?_
  rintro e w1 ⟨rfl, n1⟩
  have o0 : OwnS W (w1.alloc (.cells #[.int .u8 (d : Int)] 5)) 5 1 (.slice (some ⟨w1.heap.size, 0, none⟩) 1 1) 1 (bl [d]) := ⟨own_alloc_lit w1 _ _ 1 _ 1 n1.size (by simp [maxLen]) (by simp), n1.alloc _⟩
  go_wp2_with fail
  with_reducible refine (Hen.out _ o0.nx).mono ?_
  rintro e w2 ⟨k2, cap2, rfl, o2, _, _, _, _⟩
  have oX := o0.tr o2.nx
  have r2 := o2.rd_
  clear o0 o2 Hbe Hen
  go_wp2_with (at_builtin; refine wpList_appN rfl (.tmp 8) (.tmp 11) _ rfl 5 i0 _ 1 1 Tryz.underlying27 hi0 hz0 hz1 hz2 rfl (by omega) rfl oX _ (some ⟨k2, 0, none⟩) E.length cap2 (bl E) rfl r2 (bl_one _) (by simp only [maxLen]; omega) (by omega) ?_; intro v3 w3 o3 m3)
  go_ret
  rw [HEL.out, HE.out, show bl ([d] ++ E) = bl [d] ++ bl E by simp [bl]]
  exact GivesB.of_pos o3 (by omega)
end Go.Proofs.YtlokfmalpkahaaaGreat
