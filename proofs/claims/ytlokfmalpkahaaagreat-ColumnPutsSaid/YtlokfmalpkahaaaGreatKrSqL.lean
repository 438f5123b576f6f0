/- squeeze's letter and stretch, walked. Conditions: none beyond their ranges. -/
import Derived.Test.YtlokfmalpkahaaaGreatKrBitsN
import Derived.Test.YtlokfmalpkahaaaGreatKrQ3
import Derived.IntWalk
import Derived.Deep.CutBlock
import Derived.Deep.DeepCutAuto
namespace Go.Proofs.YtlokfmalpkahaaaGreat
set_option maxRecDepth 100000
open Go.RowKit
set_option linter.unusedVariables false
theorem wr_code_i (g : Nat) (h : Option Nat) (l : List Bool) (X : Int) (v n : Nat) (w : World) (r : WrIs w g h l) (hl : l.length ≤ 999999999000) (hX : X = (v : Int)) (hv : v < 4294967296) (hn : n ≤ 16) :
    Calls Tryz.prog 137 #[.pointer (some ⟨g, 0, none⟩), .int .u32 X, .int .i64 (n : Int)] w fun e w' => e = .returned (.int .i64 0) ∧ WrTo w g h (l ++ codeBits v n) w' := by
  subst hX
  exact wr_code g h l v n w r hl hv hn
set_option maxRecDepth 100000 in
set_option maxHeartbeats 1000000 in
theorem sq_letter (g : Nat) (h : Option Nat) (l : List Bool) (s : Nat) (w : World) (r : WrIs w g h l) (hl : l.length ≤ 999999999000) (hs : s < 288) :
    Calls Tryz.prog 108 #[.pointer (some ⟨g, 0, none⟩), .int .i64 (s : Int)] w fun e w' => e = .returned (.tuple #[]) ∧ WrTo w g h (l ++ letBits s) w' := by
  by_cases h1 : s < 144
  · have hb : letBits s = codeBits (48 + s) 8 := by unfold letBits letW letN; rw [if_pos h1, if_pos h1]
    have Hb := Lib.hid hb
    clear hb
    go_enter Tryz.func108, Tryz.ntmps108
    go_wp2_with fail
    refine (wr_code_i g h l _ (48 + s) 8 w r hl (by omega) (by omega) (by omega)).mono ?_
    rintro e w1 ⟨rfl, t1⟩
    go_wp2_with fail
    go_end0
    rw [Hb.out]
    exact ⟨rfl, t1⟩
  · by_cases h2 : s < 256
    · have hb : letBits s = codeBits (256 + s) 9 := by unfold letBits letW letN; rw [if_neg h1, if_neg h1, if_pos h2, if_pos h2]
      have Hb := Lib.hid hb
      clear hb
      go_enter Tryz.func108, Tryz.ntmps108
      go_wp2_with fail
      refine (wr_code_i g h l _ (256 + s) 9 w r hl (by omega) (by omega) (by omega)).mono ?_
      rintro e w1 ⟨rfl, t1⟩
      go_wp2_with fail
      go_end0
      rw [Hb.out]
      exact ⟨rfl, t1⟩
    · by_cases h3 : s < 280
      · have hb : letBits s = codeBits (s - 256) 7 := by unfold letBits letW letN; rw [if_neg h1, if_neg h1, if_neg h2, if_neg h2, if_pos h3, if_pos h3]
        have Hb := Lib.hid hb
        clear hb
        go_enter Tryz.func108, Tryz.ntmps108
        go_wp2_with fail
        refine (wr_code_i g h l _ (s - 256) 7 w r hl (by omega) (by omega) (by omega)).mono ?_
        rintro e w1 ⟨rfl, t1⟩
        go_wp2_with fail
        go_end0
        rw [Hb.out]
        exact ⟨rfl, t1⟩
      · have hb : letBits s = codeBits (s - 88) 8 := by unfold letBits letW letN; rw [if_neg h1, if_neg h1, if_neg h2, if_neg h2, if_neg h3, if_neg h3]
        have Hb := Lib.hid hb
        clear hb
        go_enter Tryz.func108, Tryz.ntmps108
        go_wp2_with fail
        refine (wr_code_i g h l _ (s - 88) 8 w r hl (by omega) (by omega) (by omega)).mono ?_
        rintro e w1 ⟨rfl, t1⟩
        go_wp2_with fail
        go_end0
        rw [Hb.out]
        exact ⟨rfl, t1⟩
theorem letBits_le (s : Nat) : (letBits s).length ≤ 9 := by
  unfold letBits letN
  rw [codeBits_length]
  split
  · omega
  · split
    · omega
    · split <;> omega
theorem lenBits_le (n : Nat) : (lenBits n).length ≤ 30 := by
  unfold lenBits
  split
  · exact Nat.le_trans (letBits_le _) (by omega)
  · split
    · exact Nat.le_trans (letBits_le _) (by omega)
    · rw [List.length_append, numBits_length]
      have h1 := letBits_le (257 + 4 * lenX (n - 3) + (n - 3) / 2 ^ lenX (n - 3))
      have h2 := (upF_le (b := 8) (m := n - 3) 9 1).2
      unfold lenX at *
      omega
/-- at the head of a loop that seeks the number of bits -/
def UpL (w : World) (b m x0 f0 xm : Nat) (s : Value) (wr : World) : Prop := ∃ (x f : Nat), s = .int .i64 (x : Int) ∧ x + f = x0 + f0 ∧ x ≤ xm ∧ wr = w ∧ Hid (upF b m f0 x0 = upF b m f x)
set_option maxRecDepth 100000 in
set_option maxHeartbeats 4000000 in
theorem sq_stretch (g : Nat) (h : Option Nat) (l : List Bool) (n d : Nat) (w : World) (r : WrIs w g h l) (hl : l.length ≤ 999999990000) (hn3 : 3 ≤ n) (hn : n ≤ 258) (hd1 : 1 ≤ d) (hd : d ≤ 32768) :
    Calls Tryz.prog 109 #[.pointer (some ⟨g, 0, none⟩), .int .i64 (n : Int), .int .i64 (d : Int)] w fun e w' => e = .returned (.tuple #[]) ∧ WrTo w g h (l ++ (lenBits n ++ distBits (d - 1))) w' := by
  go_enter Tryz.func109, Tryz.ntmps109
  go_upto_block 0 with fail
  go_cut [] (fun wx => WrTo w g h (l ++ lenBits n) wx)
  case first =>
    by_cases h258 : n = 258
    · subst h258
      have hb : lenBits 258 = letBits 285 := rfl
      have Hb := Lib.hid hb
      clear hb
      go_wp2_with fail
      refine (sq_letter g h l 285 w r (by omega) (by omega)).mono ?_
      rintro e w1 ⟨rfl, t1⟩
      go_wp2_with fail
      go_meet
      rw [Hb.out]
      exact t1
    · have hq : ((n : Int) == 258) = false := by rw [beq_eq_false_iff_ne]; omega
      by_cases h11 : n < 11
      · have hb : lenBits n = letBits (254 + n) := by unfold lenBits; rw [if_neg h258, if_pos h11]
        have Hb := Lib.hid hb
        have hc : (254 : Int) + (n : Int) = ((254 + n : Nat) : Int) := by omega
        clear hb
        obtain ⟨s, hs⟩ : ∃ s, 254 + n = s := ⟨_, rfl⟩
        rw [hs] at hc Hb
        have hs2 : s < 288 := by omega
        clear hs
        go_wp2_with fail
        refine (sq_letter g h l s w r (by omega) hs2).mono ?_
        rintro e w1 ⟨rfl, t1⟩
        go_wp2_with fail
        go_meet
        rw [Hb.out]
        exact t1
      · obtain ⟨m, hm⟩ : ∃ m, n - 3 = m := ⟨_, rfl⟩
        have hb : lenBits n = letBits (257 + 4 * lenX m + m / 2 ^ lenX m) ++ numBits m (lenX m) := by unfold lenBits; rw [if_neg h258, if_neg h11, hm]
        have Hb := Lib.hid hb
        have hc : (n : Int) - 3 = (m : Int) := by omega
        have hm1 : m ≤ 254 := by omega
        have kw : IntKind.i64.wrap (m : Int) = (m : Int) := IntWalk.i64_in _ (by omega)
        clear hb hm
        go_wp2_with fail
        go_loopw [6] (UpL w 8 m 1 9 5) (fun x _ => 10 - (intOf x).toNat)
        case atStart => exact ⟨1, 9, rfl, rfl, by omega, rfl, Lib.hid rfl⟩
        case round =>
          obtain ⟨x, f, rfl, hxf, hx5, hww, Hu⟩ := hrel
          rw [hww]
          clear hww
          obtain ⟨pw, hpw⟩ : ∃ pw, 8 * 2 ^ x = pw := ⟨_, rfl⟩
          have hp1 : 2 ^ x ≤ 2 ^ 5 := Nat.pow_le_pow_right (by omega) hx5
          have hp2 : (8 : Int) * 2 ^ x = (pw : Int) := by rw [← hpw]; simp
          have kp : IntKind.i64.wrap (pw : Int) = (pw : Int) := IntWalk.i64_in _ (by omega)
          have hx64 : (x : Int) < 64 := by omega
          have hx0 : (0 : Int) ≤ (x : Int) := by omega
          by_cases hge : pw ≤ m
          · have hx4 : x ≤ 4 := by
              rcases Nat.lt_or_ge 4 x with h5 | h5
              · have := Nat.pow_le_pow_right (show 0 < 2 by omega) h5
                simp only [Nat.succ_eq_add_one] at this
                omega
              · exact h5
            obtain ⟨f, rfl⟩ : ∃ f', f = f' + 1 := ⟨f - 1, by omega⟩
            have Hu2 : Hid (upF 8 m 9 1 = upF 8 m f (x + 1)) := Lib.hid (by rw [Hu.out, upF, if_pos (by rw [hpw]; exact hge)])
            have hge2 : (pw : Int) ≤ (m : Int) := by omega
            clear Hu hpw hp1
            go_wp2_with fail
            go_roundw
            case rel => exact ⟨x + 1, f, by go_num, by omega, by omega, rfl, Hu2⟩
            case measure => simp [intOf]; omega
          · have hX : lenX m = x := by
              unfold lenX
              rw [Hu.out]
              cases f with
              | zero => rfl
              | succ f => rw [upF, if_neg (by rw [hpw]; exact hge)]
            rw [hX] at Hb
            have hge2 : ¬ ((pw : Int) ≤ (m : Int)) := by omega
            obtain ⟨q, hq2⟩ : ∃ q, m / 2 ^ x = q := ⟨_, rfl⟩
            have hdv : (m : Int) / 2 ^ x = (q : Int) := by rw [← hq2]; simp
            have hq8 : q < 8 := by rw [← hq2]; exact Nat.div_lt_of_lt_mul (by rw [Nat.mul_comm]; omega)
            rw [hq2] at Hb
            obtain ⟨s, hs⟩ : ∃ s, 257 + 4 * x + q = s := ⟨_, rfl⟩
            have hc2 : (257 : Int) + 4 * (x : Int) + (q : Int) = (s : Int) := by omega
            have hs2 : s < 288 := by omega
            rw [hs] at Hb
            clear Hu hpw hp1 hX hq2 hs
            go_wp2_with fail
            refine (sq_letter g h l s w r (by omega) hs2).mono ?_
            rintro e w1 ⟨rfl, t1⟩
            obtain ⟨h1, r1, q1, c1⟩ := t1
            go_wp2_with fail
            refine (wr_bits g h1 _ m x w1 r1 (by rw [List.length_append]; have := letBits_le s; omega) (by omega) (by omega)).mono ?_
            rintro e w2 ⟨rfl, t2⟩
            have t3 := WrTo.next q1 c1 t2
            go_wp2_with fail
            go_meet
            rw [Hb.out, ← List.append_assoc]
            exact t3
  case rest =>
    obtain ⟨h5, r5, q5, c5⟩ := hcut
    obtain ⟨w5, rfl⟩ : ∃ w5 : World, w5 = wc := ⟨_, rfl⟩
    have hl5 : (l ++ lenBits n).length ≤ 999999990030 := by rw [List.length_append]; have := lenBits_le n; omega
    obtain ⟨m, hm⟩ : ∃ m, d - 1 = m := ⟨_, rfl⟩
    have hc : (d : Int) - 1 = (m : Int) := by omega
    have hm1 : m < 32768 := by omega
    have kw : IntKind.i64.wrap (m : Int) = (m : Int) := IntWalk.i64_in _ (by omega)
    obtain ⟨l5, hle⟩ : ∃ l5, l ++ lenBits n = l5 := ⟨_, rfl⟩
    rw [hle] at r5 hl5
    have Hm := Lib.hid hm
    have Hle := Lib.hid hle
    clear hm hle
    by_cases h2 : m < 2
    · have hb : distBits m = codeBits m 5 := by unfold distBits; rw [if_pos h2]
      have Hb := Lib.hid hb
      clear hb
      go_wp2_with fail
      refine (wr_code g h5 l5 m 5 w5 r5 (by omega) (by omega) (by omega)).mono ?_
      rintro e w6 ⟨rfl, t6⟩
      have t7 := WrTo.next q5 c5 t6
      go_wp2_with fail
      refine bodyPost_ret (results_none rfl _ _ _) rfl ?_
      rw [Hm.out, ← List.append_assoc, Hle.out, Hb.out]
      exact ⟨rfl, t7⟩
    · have hb : distBits m = codeBits (2 * distX m + m / 2 ^ distX m) 5 ++ numBits m (distX m) := by unfold distBits; rw [if_neg h2]
      have Hb := Lib.hid hb
      clear hb
      go_wp2_with fail
      go_loopw [7] (UpL w5 4 m 0 20 13) (fun x _ => 20 - (intOf x).toNat)
      case atStart => exact ⟨0, 20, rfl, rfl, by omega, rfl, Lib.hid rfl⟩
      case round =>
        obtain ⟨x, f, rfl, hxf, hx5, hww, Hu⟩ := hrel
        rw [hww]
        clear hww
        obtain ⟨pw, hpw⟩ : ∃ pw, 4 * 2 ^ x = pw := ⟨_, rfl⟩
        have hp1 : 2 ^ x ≤ 2 ^ 13 := Nat.pow_le_pow_right (by omega) hx5
        have hp2 : (4 : Int) * 2 ^ x = (pw : Int) := by rw [← hpw]; simp
        have kp : IntKind.i64.wrap (pw : Int) = (pw : Int) := IntWalk.i64_in _ (by omega)
        have hx64 : (x : Int) < 64 := by omega
        have hx0 : (0 : Int) ≤ (x : Int) := by omega
        by_cases hge : pw ≤ m
        · have hx4 : x ≤ 12 := by
            rcases Nat.lt_or_ge 12 x with h5 | h5
            · have := Nat.pow_le_pow_right (show 0 < 2 by omega) h5
              simp only [Nat.succ_eq_add_one] at this
              omega
            · exact h5
          obtain ⟨f, rfl⟩ : ∃ f', f = f' + 1 := ⟨f - 1, by omega⟩
          have Hu2 : Hid (upF 4 m 20 0 = upF 4 m f (x + 1)) := Lib.hid (by rw [Hu.out, upF, if_pos (by rw [hpw]; exact hge)])
          have hge2 : (pw : Int) ≤ (m : Int) := by omega
          clear Hu hpw hp1
          go_wp2_with fail
          go_roundw
          case rel => exact ⟨x + 1, f, by go_num, by omega, by omega, rfl, Hu2⟩
          case measure => simp [intOf]; omega
        · have hX : distX m = x := by
            unfold distX
            rw [Hu.out]
            cases f with
            | zero => rfl
            | succ f => rw [upF, if_neg (by rw [hpw]; exact hge)]
          rw [hX] at Hb
          have hge2 : ¬ ((pw : Int) ≤ (m : Int)) := by omega
          obtain ⟨q, hq2⟩ : ∃ q, m / 2 ^ x = q := ⟨_, rfl⟩
          have hdv : (m : Int) / 2 ^ x = (q : Int) := by rw [← hq2]; simp
          have hq8 : q < 4 := by rw [← hq2]; exact Nat.div_lt_of_lt_mul (by rw [Nat.mul_comm]; omega)
          rw [hq2] at Hb
          obtain ⟨s, hs⟩ : ∃ s, 2 * x + q = s := ⟨_, rfl⟩
          have hc2 : (2 : Int) * (x : Int) + (q : Int) = (s : Int) := by omega
          have hs2 : s < 32 := by omega
          rw [hs] at Hb
          clear Hu hpw hp1 hX hq2 hs
          go_wp2_with fail
          refine (wr_code g h5 l5 s 5 w5 r5 (by omega) (by omega) (by omega)).mono ?_
          rintro e w6 ⟨rfl, t6⟩
          have t7 := WrTo.next q5 c5 t6
          obtain ⟨h7, r7, q7, c7⟩ := t7
          go_wp2_with fail
          refine (wr_bits g h7 _ m x w6 r7 (by rw [List.length_append, codeBits_length]; omega) (by omega) (by omega)).mono ?_
          rintro e w8 ⟨rfl, t8⟩
          have t9 := WrTo.next q7 c7 t8
          go_wp2_with fail
          go_end0
          rw [Hm.out, ← List.append_assoc, Hle.out, Hb.out, ← List.append_assoc]
          exact ⟨rfl, t9⟩
end Go.Proofs.YtlokfmalpkahaaaGreat
