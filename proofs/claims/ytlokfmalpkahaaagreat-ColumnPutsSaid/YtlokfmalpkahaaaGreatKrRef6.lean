/- entrepotref06's Extra, Length, Distance, and entrepotref07's length, distance, walked. Conditions: symbols and numbers within their ranges. -/
import Derived.Test.YtlokfmalpkahaaaGreatKrQ17
import Derived.Test.YtlokfmalpkahaaaGreatKrQ2
import Derived.IntWalk
import Derived.Deep.CutBlock
import Derived.Deep.DeepCutAuto
namespace Go.Proofs.YtlokfmalpkahaaaGreat
open Go.RowKit
set_option linter.unusedVariables false
set_option maxRecDepth 100000
theorem ref_extra (d : Nat) (W : World) (hd : d < 32) :
    Calls Tryz.prog 166 #[.int .i64 (d : Int)] W fun e w' => e = .returned (.int .i64 (extra d : Int)) ∧ W = w' := by
  by_cases h : d < 4
  · have he : extra d = 0 := by unfold extra; rw [if_pos h]
    have He := Lib.hid he
    clear he
    go_enter Tryz.func166, Tryz.ntmps166
    go_wp2_with fail
    go_ret
    exact ⟨by rw [He.out]; rfl, rfl⟩
  · have he : extra d = d / 2 - 1 := by unfold extra; rw [if_neg h]
    have He := Lib.hid he
    clear he
    go_enter Tryz.func166, Tryz.ntmps166
    go_wp2_with fail
    go_ret
    exact ⟨ret_int (by rw [He.out]; omega), rfl⟩
def LenL (W : World) (s : Nat) (b m i : Value) (wr : World) : Prop :=
  ∃ j : Nat, 8 + j ≤ s ∧ i = .int .i64 ((8 + j : Nat) : Int) ∧ b = .int .i64 ((lenUp j).1 : Int) ∧ m = .int .i64 ((lenUp j).2 : Int) ∧ wr = W
set_option maxHeartbeats 1000000 in
theorem ref_length6 (s : Nat) (W : World) (hs : s < 29) :
    Calls Tryz.prog 142 #[.int .i64 (s : Int)] W fun e w' => e = .returned (.tuple #[.int .i64 ((lenTab s).1 : Int), .int .i64 ((lenTab s).2 : Int)]) ∧ W = w' := by
  by_cases h : s < 8
  · have he : lenTab s = (s + 3, 0) := by unfold lenTab; rw [if_pos h]
    have He := Lib.hid he
    clear he
    go_enter Tryz.func142, Tryz.ntmps142
    go_wp2_with fail
    go_ret2
    exact ⟨by rw [He.out]; simp, rfl⟩
  · by_cases h28 : s = 28
    · subst h28
      go_enter Tryz.func142, Tryz.ntmps142
      go_wp2_with fail
      go_ret2
      exact ⟨rfl, rfl⟩
    · have he : lenTab s = lenUp (s - 8) := by unfold lenTab; rw [if_neg h, if_neg h28]
      have He := Lib.hid he
      have hq : ((s : Int) == 28) = false := by rw [beq_eq_false_iff_ne]; omega
      clear he
      go_enter Tryz.func142, Tryz.ntmps142
      go_wp2_with fail
      go_loopw [4, 5, 6] (LenL W s) (fun _ _ i _ => s - (intOf i).toNat)
      case atStart => exact ⟨0, by omega, rfl, rfl, rfl, rfl⟩
      case round =>
        obtain ⟨j, hj, rfl, rfl, rfl, hww⟩ := hrel
        rw [hww]
        clear hww
        by_cases hlt : 8 + j < s
        · obtain ⟨b1, b2⟩ := lenUp_small j (by omega)
          have Hs : Hid (lenUp (j + 1) = ((lenUp j).1 + 2 ^ (lenUp j).2, if (8 + j) % 4 = 3 then (lenUp j).2 + 1 else (lenUp j).2)) := Lib.hid rfl
          generalize lenUp j = t at *
          obtain ⟨tb, tm⟩ := t
          simp only at b1 b2 Hs ⊢
          obtain ⟨pw, hpw⟩ : ∃ pw, 2 ^ tm = pw := ⟨_, rfl⟩
          have hp1 : 2 ^ tm ≤ 64 := Nat.pow_le_pow_right (n := 2) (by omega) b2
          rw [hpw] at hp1
          have hp2 : (2 : Int) ^ tm = (pw : Int) := by rw [← hpw]; simp
          have kp : IntKind.i64.wrap (pw : Int) = (pw : Int) := IntWalk.i64_in _ (by omega)
          rw [hpw] at Hs
          clear hpw
          by_cases h4 : (8 + j) % 4 = 3
          · have h4q : (((8 + j : Nat) : Int) % 4 == 3) = true := by rw [beq_iff_eq]; omega
            rw [if_pos h4] at Hs
            go_wp2_with fail
            go_roundw
            case rel => exact ⟨j + 1, by omega, by go_num, by rw [Hs.out]; go_num, by rw [Hs.out]; go_num, rfl⟩
            case measure => simp [intOf]; omega
          · have h4q : (((8 + j : Nat) : Int) % 4 == 3) = false := by rw [beq_eq_false_iff_ne]; omega
            rw [if_neg h4] at Hs
            go_wp2_with fail
            go_roundw
            case rel => exact ⟨j + 1, by omega, by go_num, by rw [Hs.out]; go_num, by rw [Hs.out], rfl⟩
            case measure => simp [intOf]; omega
        · obtain rfl : s = 8 + j := by omega
          go_wp2_with fail
          go_ret2
          exact ⟨by rw [He.out, Nat.add_sub_cancel_left]; rfl, rfl⟩
def DisL (W : World) (d : Nat) (b i : Value) (wr : World) : Prop :=
  ∃ j : Nat, j ≤ d ∧ i = .int .i64 (j : Int) ∧ b = .int .i64 (disTab j : Int) ∧ wr = W
set_option maxHeartbeats 1000000 in
theorem ref_distance6 (d : Nat) (W : World) (hd : d < 30) :
    Calls Tryz.prog 143 #[.int .i64 (d : Int)] W fun e w' => e = .returned (.tuple #[.int .i64 (disTab d : Int), .int .i64 (extra d : Int)]) ∧ W = w' := by
  go_enter Tryz.func143, Tryz.ntmps143
  go_wp2_with fail
  go_loopw [4, 5] (DisL W d) (fun _ i _ => d - (intOf i).toNat)
  case atStart => exact ⟨0, Nat.zero_le _, rfl, rfl, rfl⟩
  case round =>
    obtain ⟨j, hj, rfl, rfl, hww⟩ := hrel
    rw [hww]
    clear hww
    by_cases hlt : j < d
    · obtain ⟨b1, b2⟩ := disTab_small j (by omega)
      have hstep : disTab (j + 1) = disTab j + 2 ^ extra j := rfl
      have Hs := Lib.hid hstep
      clear hstep
      go_wp2_with fail
      refine (ref_extra j W (by omega)).mono ?_
      rintro e w1 ⟨rfl, rfl⟩
      generalize disTab j = tb at *
      generalize extra j = tm at *
      obtain ⟨pw, hpw⟩ : ∃ pw, 2 ^ tm = pw := ⟨_, rfl⟩
      have hp1 : 2 ^ tm ≤ 16384 := Nat.pow_le_pow_right (n := 2) (by omega) b2
      rw [hpw] at hp1
      have hp2 : (2 : Int) ^ tm = (pw : Int) := by rw [← hpw]; simp
      have kp : IntKind.i64.wrap (pw : Int) = (pw : Int) := IntWalk.i64_in _ (by omega)
      rw [hpw] at Hs
      clear hpw
      go_wp2_with fail
      go_roundw
      case rel => exact ⟨j + 1, by omega, by go_num, by rw [Hs.out]; go_num, rfl⟩
      case measure => simp [intOf]; omega
    · obtain rfl : d = j := by omega
      go_wp2_with fail
      refine (ref_extra d W (by omega)).mono ?_
      rintro e w1 ⟨rfl, rfl⟩
      go_wp2_with fail
      go_ret2
      exact ⟨rfl, rfl⟩
set_option maxHeartbeats 1000000 in
theorem ref_length7 (n : Nat) (W : World) (h3 : 3 ≤ n) (hn : n ≤ 258) :
    Calls Tryz.prog 116 #[.int .i64 (n : Int)] W fun e w' => e = .returned (.tuple #[.int .i64 ((refLen n).1 : Int), .int .i64 ((refLen n).2.1 : Int), .int .i64 ((refLen n).2.2 : Int)]) ∧ W = w' := by
  by_cases h258 : n = 258
  · subst h258
    go_enter Tryz.func116, Tryz.ntmps116
    go_wp2_with fail
    go_ret3
    exact ⟨rfl, rfl⟩
  · have he : refLen n = (lenFind n 27, n - (lenTab (lenFind n 27)).1, (lenTab (lenFind n 27)).2) := by unfold refLen; rw [if_neg h258]
    have hfit := (refLen_all (n - 3) (by omega)).2.2.2.2
    rw [show n - 3 + 3 = n by omega] at hfit
    have He := Lib.hid he
    have Hf := Lib.hid hfit
    have hq : ((n : Int) == 258) = false := by rw [beq_eq_false_iff_ne]; omega
    clear he hfit
    go_enter Tryz.func116, Tryz.ntmps116
    go_wp2_with fail
    go_loopw [5] (fun v wr => ∃ s : Nat, s ≤ 27 ∧ v = .int .i64 (s : Int) ∧ wr = W ∧ Hid (lenFind n 27 = lenFind n s)) (fun v _ => (intOf v).toNat)
    case atStart => exact ⟨27, Nat.le_refl _, rfl, rfl, Lib.hid rfl⟩
    case round =>
      obtain ⟨s, hs, rfl, hww, HF⟩ := hrel
      rw [hww]
      clear hww
      obtain ⟨b1, b2⟩ := lenTab_small s (by omega)
      go_wp2_with fail
      refine (ref_length6 s W (by omega)).mono ?_
      rintro e w1 ⟨rfl, rfl⟩
      by_cases hle : (lenTab s).1 ≤ n
      · have hF : lenFind n s = s := by
          cases s with
          | zero => rfl
          | succ s => unfold lenFind; rw [if_pos hle]
        rw [HF.out, hF] at He
        have hle2 : ((lenTab s).1 : Int) ≤ (n : Int) := by omega
        go_wp2_with fail
        go_ret3
        exact ⟨by rw [He.out]; simp; omega, rfl⟩
      · have hle2 : ¬ ((lenTab s).1 : Int) ≤ (n : Int) := by omega
        cases s with
        | zero =>
          exfalso
          have := Hf.out
          rw [HF.out] at this
          exact hle this
        | succ s =>
          have hF : lenFind n (s + 1) = lenFind n s := by rw [lenFind, if_neg hle]
          have HF2 := Lib.hid (HF.out.trans hF)
          have hz : (((s + 1 : Nat) : Int) == 0) = false := by rw [beq_eq_false_iff_ne]; omega
          clear hF HF
          go_wp2_with fail
          go_roundw
          case rel => exact ⟨s, by omega, by go_num, trivial, HF2⟩
          case measure => simp [intOf]
set_option maxHeartbeats 1000000 in
theorem ref_distance7 (n : Nat) (W : World) (h1 : 1 ≤ n) (hn : n ≤ 32768) :
    Calls Tryz.prog 118 #[.int .i64 (n : Int)] W fun e w' => e = .returned (.tuple #[.int .i64 (disFind n 29 : Int), .int .i64 ((n - disTab (disFind n 29) : Nat) : Int), .int .i64 (extra (disFind n 29) : Int)]) ∧ W = w' := by
  obtain ⟨_, _, hfit⟩ := ref_dist h1 hn
  have Hf := Lib.hid hfit
  clear hfit
  go_enter Tryz.func118, Tryz.ntmps118
  go_wp2_with fail
  go_loopw [5] (fun v wr => ∃ s : Nat, s ≤ 29 ∧ v = .int .i64 (s : Int) ∧ wr = W ∧ Hid (disFind n 29 = disFind n s)) (fun v _ => (intOf v).toNat)
  case atStart => exact ⟨29, Nat.le_refl _, rfl, rfl, Lib.hid rfl⟩
  case round =>
    obtain ⟨s, hs, rfl, hww, HF⟩ := hrel
    rw [hww]
    clear hww
    obtain ⟨b1, b2⟩ := disTab_small s (by omega)
    go_wp2_with fail
    refine (ref_distance6 s W (by omega)).mono ?_
    rintro e w1 ⟨rfl, rfl⟩
    by_cases hle : disTab s ≤ n
    · have hF : disFind n s = s := by
        cases s with
        | zero => rfl
        | succ s => unfold disFind; rw [if_pos hle]
      have HF2 := Lib.hid (HF.out.trans hF)
      have hle2 : (disTab s : Int) ≤ (n : Int) := by omega
      clear hF HF
      go_wp2_with fail
      go_ret3
      exact ⟨by rw [HF2.out]; simp; omega, rfl⟩
    · have hle2 : ¬ (disTab s : Int) ≤ (n : Int) := by omega
      cases s with
      | zero =>
        exfalso
        have := Hf.out
        rw [HF.out] at this
        exact hle this
      | succ s =>
        have hF : disFind n (s + 1) = disFind n s := by rw [disFind, if_neg hle]
        have HF2 := Lib.hid (HF.out.trans hF)
        have hz : (((s + 1 : Nat) : Int) == 0) = false := by rw [beq_eq_false_iff_ne]; omega
        clear hF HF
        go_wp2_with fail
        go_roundw
        case rel => exact ⟨s, by omega, by go_num, trivial, HF2⟩
        case measure => simp [intOf]
end Go.Proofs.YtlokfmalpkahaaaGreat
