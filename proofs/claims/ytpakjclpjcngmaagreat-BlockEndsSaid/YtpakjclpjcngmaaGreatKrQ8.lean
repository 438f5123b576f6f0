/- Contracts and plain laws that the last text rests on. Conditions: each theorem states its own. -/
import Derived.Test.YtpakjclpjcngmaaGreatKrPbBitsN
import Derived.Test.YtpakjclpjcngmaaGreatKrQ2
import Derived.IntWalk
import Derived.Deep.CutBlock
import Derived.Deep.DeepCutAuto
import Derived.Laws.MakeOwn
set_option maxRecDepth 100000
set_option linter.unusedVariables false
namespace Go.Proofs.YtpakjclpjcngmaaGreat
open Go.RowKit
theorem wr_code_i (g : Nat) (h : Option Nat) (l : List Bool) (X : Int) (v n : Nat) (w : World) (r : WrIs w g h l) (hl : l.length ≤ 999999999000) (hX : X = (v : Int)) (hv : v < 4294967296) (hn : n ≤ 16) :
  Calls Tryz.prog 296 #[.pointer (some ⟨g, 0, none⟩), .int .u32 X, .int .i64 (n : Int)] w fun e w' => e = .returned (.int .i64 0) ∧ WrTo w g h (l ++ codeBits v n) w' := by
 subst hX
 exact wr_code g h l v n w r hl hv hn
set_option maxRecDepth 100000 in
set_option maxHeartbeats 1000000 in
theorem sq_letter (g : Nat) (h : Option Nat) (l : List Bool) (s : Nat) (w : World) (r : WrIs w g h l) (hl : l.length ≤ 999999999000) (hs : s < 288) :
  Calls Tryz.prog 261 #[.pointer (some ⟨g, 0, none⟩), .int .i64 (s : Int)] w fun e w' => e = .returned (.tuple #[]) ∧ WrTo w g h (l ++ letBits s) w' := by
 by_cases h1 : s < 144
 ·have hb : letBits s = codeBits (48 + s) 8 := by unfold letBits letW letN; rw [if_pos h1, if_pos h1]
  have Hb := Lib.hid hb
  clear hb
  go_enter Tryz.func261, Tryz.ntmps261
  go_wp2_with fail
  refine (wr_code_i g h l _ (48 + s) 8 w r hl (by omega) (by omega) (by omega)).mono ?_
  rintro e w1 ⟨rfl, t1⟩
  go_wp2_with fail
  go_end0
  rw [Hb.out]
  exact ⟨rfl, t1⟩
 ·by_cases h2 : s < 256
  ·have hb : letBits s = codeBits (256 + s) 9 := by unfold letBits letW letN; rw [if_neg h1, if_neg h1, if_pos h2, if_pos h2]
   have Hb := Lib.hid hb
   clear hb
   go_enter Tryz.func261, Tryz.ntmps261
   go_wp2_with fail
   refine (wr_code_i g h l _ (256 + s) 9 w r hl (by omega) (by omega) (by omega)).mono ?_
   rintro e w1 ⟨rfl, t1⟩
   go_wp2_with fail
   go_end0
   rw [Hb.out]
   exact ⟨rfl, t1⟩
  ·by_cases h3 : s < 280
   ·have hb : letBits s = codeBits (s - 256) 7 := by unfold letBits letW letN; rw [if_neg h1, if_neg h1, if_neg h2, if_neg h2, if_pos h3, if_pos h3]
    have Hb := Lib.hid hb
    clear hb
    go_enter Tryz.func261, Tryz.ntmps261
    go_wp2_with fail
    refine (wr_code_i g h l _ (s - 256) 7 w r hl (by omega) (by omega) (by omega)).mono ?_
    rintro e w1 ⟨rfl, t1⟩
    go_wp2_with fail
    go_end0
    rw [Hb.out]
    exact ⟨rfl, t1⟩
   ·have hb : letBits s = codeBits (s - 88) 8 := by unfold letBits letW letN; rw [if_neg h1, if_neg h1, if_neg h2, if_neg h2, if_neg h3, if_neg h3]
    have Hb := Lib.hid hb
    clear hb
    go_enter Tryz.func261, Tryz.ntmps261
    go_wp2_with fail
    refine (wr_code_i g h l _ (s - 88) 8 w r hl (by omega) (by omega) (by omega)).mono ?_
    rintro e w1 ⟨rfl, t1⟩
    go_wp2_with fail
    go_end0
    rw [Hb.out]
    exact ⟨rfl, t1⟩
theorem letBits_le (s : Nat) : (letBits s).length ≤ 9 := by
 unfold letBits letN
 rw [codeBits_length]
 split
 ·omega
 ·split
  ·omega
  ·split <;> omega
theorem lenBits_le (n : Nat) : (lenBits n).length ≤ 30 := by
 unfold lenBits
 split
 ·exact Nat.le_trans (letBits_le _) (by omega)
 ·split
  ·exact Nat.le_trans (letBits_le _) (by omega)
  ·rw [List.length_append, numBits_length]
   have h1 := letBits_le (257 + 4 * lenX (n - 3) + (n - 3) / 2 ^ lenX (n - 3))
   have h2 := (upF_le (b := 8) (m := n - 3) 9 1).2
   unfold lenX at *
   omega
def UpL (w : World) (b m x0 f0 xm : Nat) (s : Value) (wr : World) : Prop := ∃ (x f : Nat), s = .int .i64 (x : Int) ∧ x + f = x0 + f0 ∧ x ≤ xm ∧ wr = w ∧ Hid (upF b m f0 x0 = upF b m f x)
set_option maxRecDepth 100000 in
set_option maxHeartbeats 4000000 in
theorem sq_stretch (g : Nat) (h : Option Nat) (l : List Bool) (n d : Nat) (w : World) (r : WrIs w g h l) (hl : l.length ≤ 999999990000) (hn3 : 3 ≤ n) (hn : n ≤ 258) (hd1 : 1 ≤ d) (hd : d ≤ 32768) :
  Calls Tryz.prog 262 #[.pointer (some ⟨g, 0, none⟩), .int .i64 (n : Int), .int .i64 (d : Int)] w fun e w' => e = .returned (.tuple #[]) ∧ WrTo w g h (l ++ (lenBits n ++ distBits (d - 1))) w' := by
 go_enter Tryz.func262, Tryz.ntmps262
 go_upto_block 0 with fail
 go_cut [] (fun wx => WrTo w g h (l ++ lenBits n) wx)
 case first =>
  by_cases h258 : n = 258
  ·subst h258
   have hb : lenBits 258 = letBits 285 := rfl
   have Hb := Lib.hid hb
   clear hb
   go_wp2_with fail
   refine (sq_letter g h l 285 w r (by omega) (by omega)).mono ?_
   rintro e w1 ⟨rfl, t1⟩
   go_wp2_with fail
   go_meet
   rw [Hb.out]
   exact t1
  ·have hq : ((n : Int) == 258) = false := by rw [beq_eq_false_iff_ne]; omega
   by_cases h11 : n < 11
   ·have hb : lenBits n = letBits (254 + n) := by unfold lenBits; rw [if_neg h258, if_pos h11]
    have Hb := Lib.hid hb
    have hc : (254 : Int) + (n : Int) = ((254 + n : Nat) : Int) := by omega
    clear hb
    obtain ⟨s, hs⟩ : ∃ s, 254 + n = s := ⟨_, rfl⟩
    rw [hs] at hc Hb
    have hs2 : s < 288 := by omega
    clear hs
    go_wp2_with fail
    refine (sq_letter g h l s w r (by omega) hs2).mono ?_
    rintro e w1 ⟨rfl, t1⟩
    go_wp2_with fail
    go_meet
    rw [Hb.out]
    exact t1
   ·obtain ⟨m, hm⟩ : ∃ m, n - 3 = m := ⟨_, rfl⟩
    have hb : lenBits n = letBits (257 + 4 * lenX m + m / 2 ^ lenX m) ++ numBits m (lenX m) := by unfold lenBits; rw [if_neg h258, if_neg h11, hm]
    have Hb := Lib.hid hb
    have hc : (n : Int) - 3 = (m : Int) := by omega
    have hm1 : m ≤ 254 := by omega
    have kw : IntKind.i64.wrap (m : Int) = (m : Int) := IntWalk.i64_in _ (by omega)
    clear hb hm
    go_wp2_with fail
    go_loopw [6] (UpL w 8 m 1 9 5) (fun x _ => 10 - (intOf x).toNat)
    case atStart => exact ⟨1, 9, rfl, rfl, by omega, rfl, Lib.hid rfl⟩
    case round =>
     obtain ⟨x, f, rfl, hxf, hx5, hww, Hu⟩ := hrel
     rw [hww]
     clear hww
     obtain ⟨pw, hpw⟩ : ∃ pw, 8 * 2 ^ x = pw := ⟨_, rfl⟩
     have hp1 : 2 ^ x ≤ 2 ^ 5 := Nat.pow_le_pow_right (by omega) hx5
     have hp2 : (8 : Int) * 2 ^ x = (pw : Int) := by rw [← hpw]; simp
     have kp : IntKind.i64.wrap (pw : Int) = (pw : Int) := IntWalk.i64_in _ (by omega)
     have hx64 : (x : Int) < 64 := by omega
     have hx0 : (0 : Int) ≤ (x : Int) := by omega
     by_cases hge : pw ≤ m
     ·have hx4 : x ≤ 4 := by
       rcases Nat.lt_or_ge 4 x with h5 | h5
       ·have := Nat.pow_le_pow_right (show 0 < 2 by omega) h5
        simp only [Nat.succ_eq_add_one] at this
        omega
       ·exact h5
      obtain ⟨f, rfl⟩ : ∃ f', f = f' + 1 := ⟨f - 1, by omega⟩
      have Hu2 : Hid (upF 8 m 9 1 = upF 8 m f (x + 1)) := Lib.hid (by rw [Hu.out, upF, if_pos (by rw [hpw]; exact hge)])
      have hge2 : (pw : Int) ≤ (m : Int) := by omega
      clear Hu hpw hp1
      go_wp2_with fail
      go_roundw
      case rel => exact ⟨x + 1, f, by go_num, by omega, by omega, rfl, Hu2⟩
      case measure => simp [intOf]; omega
     ·have hX : lenX m = x := by
       unfold lenX
       rw [Hu.out]
       cases f with
       | zero => rfl
       | succ f => rw [upF, if_neg (by rw [hpw]; exact hge)]
      rw [hX] at Hb
      have hge2 : ¬ ((pw : Int) ≤ (m : Int)) := by omega
      obtain ⟨q, hq2⟩ : ∃ q, m / 2 ^ x = q := ⟨_, rfl⟩
      have hdv : (m : Int) / 2 ^ x = (q : Int) := by rw [← hq2]; simp
      have hq8 : q < 8 := by rw [← hq2]; exact Nat.div_lt_of_lt_mul (by rw [Nat.mul_comm]; omega)
      rw [hq2] at Hb
      obtain ⟨s, hs⟩ : ∃ s, 257 + 4 * x + q = s := ⟨_, rfl⟩
      have hc2 : (257 : Int) + 4 * (x : Int) + (q : Int) = (s : Int) := by omega
      have hs2 : s < 288 := by omega
      rw [hs] at Hb
      clear Hu hpw hp1 hX hq2 hs
      go_wp2_with fail
      refine (sq_letter g h l s w r (by omega) hs2).mono ?_
      rintro e w1 ⟨rfl, t1⟩
      obtain ⟨h1, r1, q1, c1⟩ := t1
      go_wp2_with fail
      refine (wr_bits g h1 _ m x w1 r1 (by rw [List.length_append]; have := letBits_le s; omega) (by omega) (by omega)).mono ?_
      rintro e w2 ⟨rfl, t2⟩
      have t3 := WrTo.next q1 c1 t2
      go_wp2_with fail
      go_meet
      rw [Hb.out, ← List.append_assoc]
      exact t3
 case rest =>
  obtain ⟨h5, r5, q5, c5⟩ := hcut
  obtain ⟨w5, rfl⟩ : ∃ w5 : World, w5 = wc := ⟨_, rfl⟩
  have hl5 : (l ++ lenBits n).length ≤ 999999990030 := by rw [List.length_append]; have := lenBits_le n; omega
  obtain ⟨m, hm⟩ : ∃ m, d - 1 = m := ⟨_, rfl⟩
  have hc : (d : Int) - 1 = (m : Int) := by omega
  have hm1 : m < 32768 := by omega
  have kw : IntKind.i64.wrap (m : Int) = (m : Int) := IntWalk.i64_in _ (by omega)
  obtain ⟨l5, hle⟩ : ∃ l5, l ++ lenBits n = l5 := ⟨_, rfl⟩
  rw [hle] at r5 hl5
  have Hm := Lib.hid hm
  have Hle := Lib.hid hle
  clear hm hle
  by_cases h2 : m < 2
  ·have hb : distBits m = codeBits m 5 := by unfold distBits; rw [if_pos h2]
   have Hb := Lib.hid hb
   clear hb
   go_wp2_with fail
   refine (wr_code g h5 l5 m 5 w5 r5 (by omega) (by omega) (by omega)).mono ?_
   rintro e w6 ⟨rfl, t6⟩
   have t7 := WrTo.next q5 c5 t6
   go_wp2_with fail
   refine bodyPost_ret (results_none rfl _ _ _) rfl ?_
   rw [Hm.out, ← List.append_assoc, Hle.out, Hb.out]
   exact ⟨rfl, t7⟩
  ·have hb : distBits m = codeBits (2 * distX m + m / 2 ^ distX m) 5 ++ numBits m (distX m) := by unfold distBits; rw [if_neg h2]
   have Hb := Lib.hid hb
   clear hb
   go_wp2_with fail
   go_loopw [7] (UpL w5 4 m 0 20 13) (fun x _ => 20 - (intOf x).toNat)
   case atStart => exact ⟨0, 20, rfl, rfl, by omega, rfl, Lib.hid rfl⟩
   case round =>
    obtain ⟨x, f, rfl, hxf, hx5, hww, Hu⟩ := hrel
    rw [hww]
    clear hww
    obtain ⟨pw, hpw⟩ : ∃ pw, 4 * 2 ^ x = pw := ⟨_, rfl⟩
    have hp1 : 2 ^ x ≤ 2 ^ 13 := Nat.pow_le_pow_right (by omega) hx5
    have hp2 : (4 : Int) * 2 ^ x = (pw : Int) := by rw [← hpw]; simp
    have kp : IntKind.i64.wrap (pw : Int) = (pw : Int) := IntWalk.i64_in _ (by omega)
    have hx64 : (x : Int) < 64 := by omega
    have hx0 : (0 : Int) ≤ (x : Int) := by omega
    by_cases hge : pw ≤ m
    ·have hx4 : x ≤ 12 := by
      rcases Nat.lt_or_ge 12 x with h5 | h5
      ·have := Nat.pow_le_pow_right (show 0 < 2 by omega) h5
       simp only [Nat.succ_eq_add_one] at this
       omega
      ·exact h5
     obtain ⟨f, rfl⟩ : ∃ f', f = f' + 1 := ⟨f - 1, by omega⟩
     have Hu2 : Hid (upF 4 m 20 0 = upF 4 m f (x + 1)) := Lib.hid (by rw [Hu.out, upF, if_pos (by rw [hpw]; exact hge)])
     have hge2 : (pw : Int) ≤ (m : Int) := by omega
     clear Hu hpw hp1
     go_wp2_with fail
     go_roundw
     case rel => exact ⟨x + 1, f, by go_num, by omega, by omega, rfl, Hu2⟩
     case measure => simp [intOf]; omega
    ·have hX : distX m = x := by
      unfold distX
      rw [Hu.out]
      cases f with
      | zero => rfl
      | succ f => rw [upF, if_neg (by rw [hpw]; exact hge)]
     rw [hX] at Hb
     have hge2 : ¬ ((pw : Int) ≤ (m : Int)) := by omega
     obtain ⟨q, hq2⟩ : ∃ q, m / 2 ^ x = q := ⟨_, rfl⟩
     have hdv : (m : Int) / 2 ^ x = (q : Int) := by rw [← hq2]; simp
     have hq8 : q < 4 := by rw [← hq2]; exact Nat.div_lt_of_lt_mul (by rw [Nat.mul_comm]; omega)
     rw [hq2] at Hb
     obtain ⟨s, hs⟩ : ∃ s, 2 * x + q = s := ⟨_, rfl⟩
     have hc2 : (2 : Int) * (x : Int) + (q : Int) = (s : Int) := by omega
     have hs2 : s < 32 := by omega
     rw [hs] at Hb
     clear Hu hpw hp1 hX hq2 hs
     go_wp2_with fail
     refine (wr_code g h5 l5 s 5 w5 r5 (by omega) (by omega) (by omega)).mono ?_
     rintro e w6 ⟨rfl, t6⟩
     have t7 := WrTo.next q5 c5 t6
     obtain ⟨h7, r7, q7, c7⟩ := t7
     go_wp2_with fail
     refine (wr_bits g h7 _ m x w6 r7 (by rw [List.length_append, codeBits_length]; omega) (by omega) (by omega)).mono ?_
     rintro e w8 ⟨rfl, t8⟩
     have t9 := WrTo.next q7 c7 t8
     go_wp2_with fail
     go_end0
     rw [Hm.out, ← List.append_assoc, Hle.out, Hb.out, ← List.append_assoc]
     exact ⟨rfl, t9⟩
set_option maxHeartbeats 4000000 in
theorem crc_row (x : Nat) (w : World) (h : x < 16) : Calls Tryz.prog 254 #[.int .u32 (x : Int)] w fun e w' => e = .returned (.int .u32 (rowF x : Int)) ∧ w = w' := by
 have h16 : x = 0 ∨ x = 1 ∨ x = 2 ∨ x = 3 ∨ x = 4 ∨ x = 5 ∨ x = 6 ∨ x = 7 ∨ x = 8 ∨ x = 9 ∨ x = 10 ∨ x = 11 ∨ x = 12 ∨ x = 13 ∨ x = 14 ∨ x = 15 := by omega
 clear h
 rcases h16 with rfl | rfl | rfl | rfl | rfl | rfl | rfl | rfl | rfl | rfl | rfl | rfl | rfl | rfl | rfl | rfl
 all_goals
  go_enter Tryz.func254, Tryz.ntmps254
  go_wp2_with fail
  go_ret
  exact ⟨rfl, rfl⟩
theorem u32_and15 (c : Nat) (h : c < 4294967296) : bits .and .u32 (c : Int) 15 = ((c % 16 : Nat) : Int) := by
 have e := u32_and_nat c 15 h (by decide)
 have e2 : c &&& 15 = c % 16 := Nat.and_two_pow_sub_one_eq_mod c 4
 rw [e2] at e
 exact e
theorem u32_not (c : Nat) (h : c < 4294967296) : bits .xor .u32 (if IntKind.u32.signed = true then -1 else IntKind.u32.max) (c : Int) = ((4294967295 - c : Nat) : Int) := by
 have e := u32_xor_nat 4294967295 c (by decide) h
 have e2 : 4294967295 ^^^ c = 4294967295 - c := by
  apply Nat.eq_of_testBit_eq
  intro i
  rw [show 4294967295 = 2 ^ 32 - 1 by decide, Nat.testBit_xor, Nat.testBit_two_pow_sub_one, show 2 ^ 32 - 1 - c = 2 ^ 32 - (c + 1) by omega, Nat.testBit_two_pow_sub_succ h]
  by_cases hi : i < 32
  ·simp [hi]
  ·have : c.testBit i = false := Nat.testBit_lt_two_pow (Nat.lt_of_lt_of_le (show c < 2 ^ 32 by omega) (Nat.pow_le_pow_right (n := 2) (by decide) (by omega)))
   simp [hi, this]
 rw [e2] at e
 exact e
theorem Rd.lit (w : World) (cs : Array Value) (t : TypeId) (fr : Nat × Nat) : Rd (w.alloc (.cells cs t fr)) (fun k => k = w.heap.size) 1 (some ⟨w.heap.size, 0, none⟩) cs.size cs.toList := by
 refine ⟨by simp, fun _ => ⟨_, rfl, rfl, fun j u hu => ?_⟩⟩
 have ea : (Addr.mk w.heap.size 0 none).add j = ⟨w.heap.size, j, none⟩ := by
  unfold Addr.add
  split
  ·next e => rw [e]
  ·simp
 rw [ea, cell_of_row _ w.heap.size j cs t fr (heap_alloc_new w _)]
 simpa using hu
abbrev DigB (w : World) (g : Nat) (t : Nat) : Prop := Blk w g 254 #[.int .u32 (t : Int)]
set_option maxHeartbeats 4000000 in
theorem crc_write (D : Nat → Prop) (g t : Nat) (A : Option Addr) (n c : Nat) (xs : List Nat) (w : World) (hd : DigB w g t) (ht : t < 4294967296) (hr : Rd w D 1 A n (bl xs)) (ok : okB xs) (hl : xs.length = n) (hn : n ≤ 9223372036854775807) :
  Calls Tryz.prog 205 #[.pointer (some ⟨g, 0, none⟩), .slice A n c] w fun e w' => e = .returned (.tuple #[]) ∧ DigB w' g (4294967295 - regF (4294967295 - t) xs) ∧ Ch (· = g) w w' := by
 have d0 : w.cell? ⟨g, 0, none⟩ = some (.int .u32 (t : Int)) := hd.cell 0
 have hf := hd.frozen
 have hnot := u32_not t ht
 obtain ⟨r0, hr0⟩ : ∃ r0, 4294967295 - t = r0 := ⟨_, rfl⟩
 rw [hr0] at hnot ⊢
 have hr0l : r0 < 4294967296 := by omega
 have Hd := Lib.hid hd
 have Hl := Lib.hid hl
 clear hd hl hr0
 go_enter Tryz.func205, Tryz.ntmps205
 go_wp2_with fail
 go_loopw [4, 16] (fun v i wr => ∃ k : Nat, k ≤ n ∧ i = .int .i64 (k : Int) ∧ v = .int .u32 (regF r0 (xs.take k) : Int) ∧ wr = w) (fun _ i _ => n - (intOf i).toNat)
 case atStart => exact ⟨0, Nat.zero_le _, rfl, rfl, rfl⟩
 case round =>
  clear hnot
  obtain ⟨k, hk, rfl, rfl, hww⟩ := hrel
  rw [hww]
  clear hww
  have hcl : regF r0 (xs.take k) < 4294967296 := regF_lt hr0l fun y hy => ok y (List.mem_of_mem_take hy)
  by_cases hlt : k < n
  ·obtain ⟨ad, u, rfl, hDa, hu, hc⟩ := hr.at_ hlt
   have hkl : k < xs.length := by rw [Hl.out]; exact hlt
   rw [bl_get hkl] at hu
   injection hu with hu
   subst hu
   have hx := okB_getD ok k
   have hsucc : regF r0 (xs.take (k + 1)) = stepF (regF r0 (xs.take k)) (xs.getD k 0) := by
    have e : xs.getD k 0 = xs[k] := by simp [List.getD, hkl]
    rw [List.take_succ_eq_append_getElem hkl, regF_app, e]; rfl
   generalize xs.getD k 0 = x at *
   generalize regF r0 (xs.take k) = c0 at *
   unfold stepF at hsucc
   have l1 : c0 ^^^ x < 4294967296 := Nat.xor_lt_two_pow (n := 32) hcl (by omega)
   have x1 := u32_xor_nat c0 x hcl (by omega)
   generalize c0 ^^^ x = c1 at *
   have l2 := nibF_lt l1
   have a1 := u32_and15 c1 l1
   have x2 : bits .xor .u32 ((c1 : Int) / 16) (rowF (c1 % 16) : Int) = (nibF c1 : Int) := by
    have := u32_xor_nat (c1 / 16) (rowF (c1 % 16)) (by omega) (rowF_lt _)
    rw [show ((c1 : Int) / 16) = ((c1 / 16 : Nat) : Int) by omega]
    exact this
   generalize nibF c1 = c2 at *
   have l3 := nibF_lt l2
   have a2 := u32_and15 c2 l2
   have x3 : bits .xor .u32 ((c2 : Int) / 16) (rowF (c2 % 16) : Int) = (nibF c2 : Int) := by
    have := u32_xor_nat (c2 / 16) (rowF (c2 % 16)) (by omega) (rowF_lt _)
    rw [show ((c2 : Int) / 16) = ((c2 / 16 : Nat) : Int) by omega]
    exact this
   generalize nibF c2 = c3 at *
   have m1 : c1 % 16 < 16 := Nat.mod_lt _ (by decide)
   have m2 : c2 % 16 < 16 := Nat.mod_lt _ (by decide)
   have hr1 := fun w => crc_row (c1 % 16) w m1
   have hr2 := fun w => crc_row (c2 % 16) w m2
   generalize rowF (c1 % 16) = r1 at *
   generalize rowF (c2 % 16) = r2 at *
   generalize c1 % 16 = q1 at *
   generalize c2 % 16 = q2 at *
   have Hs := Lib.hid hsucc
   have Hr1 := Lib.hid hr1
   have Hr2 := Lib.hid hr2
   clear hsucc hr1 hr2
   go_wp2_with fail
   with_reducible refine (Hr1.out _).mono ?_
   rintro e w1 ⟨rfl, rfl⟩
   go_wp2_with fail
   with_reducible refine (Hr2.out _).mono ?_
   rintro e w1 ⟨rfl, rfl⟩
   go_wp2_with fail
   go_roundw
   case rel => exact ⟨k + 1, by omega, by go_num, by rw [Hs.out], trivial⟩
   case measure => simp [intOf]; omega
  ·have htk : xs.take k = xs := List.take_of_length_le (by rw [Hl.out]; omega)
   rw [htk] at hcl ⊢
   have hnot := u32_not _ hcl
   have hle : regF r0 xs ≤ 4294967295 := by omega
   clear htk
   obtain ⟨c0, hc0⟩ : ∃ c0, regF r0 xs = c0 := ⟨_, rfl⟩
   rw [hc0] at hcl hnot hle ⊢
   have Hc0 := Lib.hid hc0
   clear hc0
   go_wp2_with fail
   go_end0
   exact ⟨rfl, by rw [Hc0.out]; exact Hd.out.set_ 0 (.int .u32 ((4294967295 - c0 : Nat) : Int)), Ch.setCell (S := fun k => k = g) (Ch.refl _ w) (p := ⟨g, 0, none⟩) (fun _ => rfl) _⟩
set_option maxHeartbeats 400000 in
theorem crc_dsum (g t : Nat) (w : World) (hd : DigB w g t) : Calls Tryz.prog 206 #[.pointer (some ⟨g, 0, none⟩)] w fun e w' => e = .returned (.int .u32 (t : Int)) ∧ w = w' := by
 have d0 : w.cell? ⟨g, 0, none⟩ = some (.int .u32 (t : Int)) := hd.cell 0
 go_enter Tryz.func206, Tryz.ntmps206
 go_wp2_with fail
 go_ret
 exact ⟨rfl, rfl⟩
def SumAt (w : World) (v : Int) (e : Ending) (w' : World) : Prop := e = .returned (.int .u32 v) ∧ Nx w w'
set_option maxHeartbeats 4000000 in
theorem crc_sum1 (D : Nat → Prop) (p : Nat) (pc : Nat) (A : Option Addr) (n c : Nat) (xs : List Nat) (w : World) (hp : w.cell? ⟨p, 0, none⟩ = some (.slice A n c)) (hr : Rd w D 1 A n (bl xs)) (hDw : ∀ k, D k → k < w.heap.size) (ok : okB xs) (hl : xs.length = n) (hn : n ≤ 9223372036854775807) :
  Calls Tryz.prog 154 #[.slice (some ⟨p, 0, none⟩) 1 pc] w (SumAt w (sumF xs : Int)) := by
 have hplt : p < w.heap.size := World.block_lt_of_cell? w _ hp
 have hd0 : DigB (w.alloc (.cells #[.int .u32 0] 254)) w.heap.size 0 := Blk.new w _ _
 have hn0 : Nx w (w.alloc (.cells #[.int .u32 0] 254)) := (Ch.refl _ w).alloc _
 have hp1 : (w.alloc (.cells #[.int .u32 0] 254)).cell? ⟨p, 0, none⟩ = some (.slice A n c) := (World.cell?_alloc_lt w _ _ hplt).trans hp
 have hr1 := hr.nx (by decide) hn0
 obtain ⟨dg, hdg⟩ : ∃ dg, w.heap.size = dg := ⟨_, rfl⟩
 have hpd : p < dg := by omega
 have hDg : ∀ k, D k → k ≠ dg := fun k hk => by have := hDw k hk; omega
 rw [hdg] at hd0
 obtain ⟨w1, hw1⟩ : ∃ w1, w.alloc (.cells #[.int .u32 0] 254) = w1 := ⟨_, rfl⟩
 rw [hw1] at hd0 hn0 hp1 hr1
 have HW := Lib.hid hw1
 have HG := Lib.hid hdg
 have Hl := Lib.hid hl
 clear hw1 hl hp hr
 go_enter Tryz.func154, Tryz.ntmps154
 go_upto_region 2 with fail
 simp only [HW.out]
 have hgx : w.heap.size ≤ dg := by rw [HG.out]; exact Nat.le_refl _
 clear HW HG hdg
 go_wp2_with fail
 go_loopw [8] (fun i wr => ∃ k : Nat, k ≤ 1 ∧ i = .int .i64 (k : Int) ∧ DigB wr dg (if k = 0 then 0 else sumF xs) ∧ Ch (· = dg) w1 wr) (fun i _ => 1 - (intOf i).toNat)
 case atStart => exact ⟨0, by omega, rfl, hd0, Ch.refl _ _⟩
 case round =>
  clear hd0
  obtain ⟨w2, rfl⟩ : ∃ w2 : World, w2 = wr := ⟨_, rfl⟩
  obtain ⟨k, hk, rfl, hd, ch⟩ := hrel
  by_cases h0 : k = 0
  ·subst h0
   rw [if_pos rfl] at hd
   have hp2 : w2.cell? ⟨p, 0, none⟩ = some (.slice A n c) := (ch.cell (p := ⟨p, 0, none⟩) (World.block_lt_of_cell? w1 _ hp1) (by simp; omega)).trans hp1
   have hr2 := hr1.ch (by decide) ch (fun k hk hd e => hDg k hd e)
   go_wp2_with fail
   with_reducible refine (crc_write _ dg 0 A n c xs _ hd (by decide) hr2 ok Hl.out hn).mono ?_
   rintro e w3 ⟨rfl, hd3, ch3⟩
   go_wp2_with fail
   go_roundw
   case rel => exact ⟨1, by omega, by go_num, by rw [if_neg (by omega)]; exact hd3, ch.trans ch3 fun _ _ e => e⟩
   case measure => simp [intOf]
  ·obtain rfl : k = 1 := by omega
   rw [if_neg (by omega)] at hd
   go_wp2_with fail
   with_reducible refine (crc_dsum dg _ _ hd).mono ?_
   rintro e w3 ⟨rfl, rfl⟩
   go_wp2_with fail
   go_ret
   exact ⟨rfl, hn0.trans ch fun i hi e => by omega⟩
theorem u8_at (s : Nat) : IntKind.u8.wrap (s : Int) = ((s % 256 : Nat) : Int) ∧ IntKind.u8.wrap ((s : Int) / 256) = ((s / 256 % 256 : Nat) : Int) ∧ IntKind.u8.wrap ((s : Int) / 65536) = ((s / 65536 % 256 : Nat) : Int) ∧ IntKind.u8.wrap ((s : Int) / 16777216) = ((s / 16777216 % 256 : Nat) : Int) := by
 have h : ∀ z : Int, IntKind.u8.wrap z = z % 256 := fun z => by simp [IntKind.wrap, IntKind.bits, IntKind.signed]
 rw [h, h, h, h]
 exact ⟨by omega, by omega, by omega, by omega⟩
set_option maxHeartbeats 4000000 in
theorem crc_seal (D : Nat → Prop) (A : Option Addr) (n c : Nat) (xs : List Nat) (W : World) (hr : Rd W D 1 A n (bl xs)) (hDw : ∀ k, D k → k < W.heap.size) (ok : okB xs) (hl : xs.length = n) (hn : n ≤ 1000000000) :
  Calls Tryz.prog 114 #[.slice A n c] W (GivesB W 5 1 (n + 4) (bl (sealF xs))) := by
 obtain ⟨i0, hi0, hz0, hz1, hz2⟩ := info_parts Tryz.info5
 have hn0 : Nx W (W.alloc (.cells #[.slice A n c] 26)) := (Ch.refl _ W).alloc _
 have hb0 := Blk.new W 26 #[.slice A n c]
 have hsum := crc_sum1 D W.heap.size 1 A n c xs _ (hb0.cell 0) (hr.nx (by decide) hn0) (fun k hk => Nat.lt_of_lt_of_le (hDw k hk) hn0.size) ok hl (by omega)
 have hsz : sumF xs < 4294967296 := sumF_lt xs
 have hseal : bl (sealF xs) = bl xs ++ [.int .u8 ((sumF xs % 256 : Nat) : Int), .int .u8 ((sumF xs / 256 % 256 : Nat) : Int), .int .u8 ((sumF xs / 65536 % 256 : Nat) : Int), .int .u8 ((sumF xs / 16777216 % 256 : Nat) : Int)] := by
  unfold sealF four bl
  rw [List.map_append]
  rfl
 have Hseal := Lib.hid hseal
 clear hseal
 generalize sumF xs = s at *
 obtain ⟨k0, k1, k2, k3⟩ := u8_at s
 have hmk : ∀ w : World, (Instr.makeSlice 26 (.int .i64 0) (.int .i64 ((n : Int) + 4))).run Tryz.prog w = .ok (.slice (some ⟨w.heap.size, 0, none⟩) 0 (n + 4)) (w.alloc (.cells (madeCells #[.int .u8 0] (n + 4)) 5)) := fun w => by
  have := run_make (P := Tryz.prog) w 26 5 i0 (.int .u8 0) Tryz.underlying26 hi0 hz0 .i64 .i64 0 ((n : Int) + 4) (by omega) (by omega) (by rw [hz2]; omega) (by omega)
  rw [hz1, show ((n : Int) + 4).toNat = n + 4 by omega, Nat.mul_one] at this
  exact this
 have Hs := Lib.hid hsum
 clear hsum
 go_enter Tryz.func114, Tryz.ntmps114
 go_wp2_with fail
 with_reducible refine Hs.out.mono ?_
 rintro e w1 ⟨rfl, n1⟩
 have nx1 : Nx W w1 := hn0.tr n1
 have o1 : OwnS W (w1.alloc (.cells (madeCells #[.int .u8 0] (n + 4)) 5)) 5 1 (.slice (some ⟨w1.heap.size, 0, none⟩) 0 (n + 4)) 0 [] :=
  ⟨World.ownsRow_made w1 _ (n + 4) nx1.size (by simp only [maxLen]; omega) (by simp [size_madeCells]), nx1.alloc _⟩
 have hr1 := hr.nx (by decide) o1.nx
 have hb1 : (Value.slice (some ⟨w1.heap.size, 0, none⟩) 0 (n + 4)).ownBlock ≠ none := by simp [Value.ownBlock]
 generalize hW2 : w1.alloc (.cells (madeCells #[.int .u8 0] (n + 4)) 5) = w2 at *
 clear Hs n1 hb0 hn0
 go_wp2_with (at_builtin; first
  | (refine wpList_appN rfl (.tmp 11) (.tmp 12) _ rfl 5 i0 _ 1 1 Tryz.underlying26 hi0 hz0 hz1 hz2 rfl (by omega) rfl o1 D A n c (bl xs) rfl hr1 (bl_one _) (by simp only [maxLen]; omega) (by omega) ?_; intro v3 w3 o3 m3; have hr3 := Rd.lit w3 #[.int .u8 ((s % 256 : Nat) : Int), .int .u8 ((s / 256 % 256 : Nat) : Int), .int .u8 ((s / 65536 % 256 : Nat) : Int), .int .u8 ((s / 16777216 % 256 : Nat) : Int)] 5 (0, 0); have o3' := o3.alloc (.cells #[.int .u8 ((s % 256 : Nat) : Int), .int .u8 ((s / 256 % 256 : Nat) : Int), .int .u8 ((s / 65536 % 256 : Nat) : Int), .int .u8 ((s / 16777216 % 256 : Nat) : Int)] 5))
  | (refine wpList_appN rfl (.tmp 14) (.tmp 26) _ rfl 5 i0 _ 1 1 Tryz.underlying26 hi0 hz0 hz1 hz2 rfl (by omega) rfl o3' _ _ 4 4 _ rfl hr3 (by intro u hu; simp at hu; rcases hu with rfl | rfl | rfl | rfl <;> rfl) (by simp only [maxLen]; omega) (by omega) ?_; intro v4 w4 o4 m4))
 go_ret
 rw [Hseal.out]
 have := GivesB.mk_ o4 (m4.some_ (m3.some_ hb1))
 simpa using this
def OpenTo (W : World) (b : List Nat) (e : Ending) (w' : World) : Prop :=
 (openOk b → ∃ k cap, e = .returned (.tuple #[.slice (some ⟨k, 0, none⟩) (b.length - 4) cap, .int .i64 0]) ∧ OwnS W w' 5 1 (.slice (some ⟨k, 0, none⟩) (b.length - 4) cap) (b.length - 4) (bl (b.take (b.length - 4))) ∧ b.length - 4 ≤ cap) ∧
 (¬ openOk b → e = .returned (.tuple #[.slice none 0 0, .int .i64 (if b.length < 4 then 3 else 6)]) ∧ Nx W w')
set_option maxHeartbeats 8000000 in
theorem crc_open (D : Nat → Prop) (A : Option Addr) (n c : Nat) (b : List Nat) (W : World) (hr : Rd W D 1 A n (bl b)) (hDw : ∀ k, D k → k < W.heap.size) (ok : okB b) (hl : b.length = n) (hn : n ≤ 1000000000) (hc : n ≤ c) :
  Calls Tryz.prog 74 #[.slice A n c] W (OpenTo W b) := by
 by_cases h4 : n < 4
 ·have hno : ¬ openOk b := fun h => by have := h.1; omega
  go_enter Tryz.func74, Tryz.ntmps74
  go_wp2_with fail
  go_ret2
  exact ⟨fun h => absurd h hno, fun _ => ⟨by rw [if_pos (by omega)]; rfl, Ch.refl _ _⟩⟩
 ·obtain ⟨m, hm⟩ : ∃ m, n = m + 4 := ⟨n - 4, by omega⟩
  subst hm
  obtain ⟨i0, hi0, hz0, hz1, hz2⟩ := info_parts Tryz.info5
  have htk := hr.take (k := m) (by omega)
  rw [Nat.mul_one, show (bl b).take m = bl (b.take m) by simp [bl, List.map_take]] at htk
  have hct := hr.cut (k := m) (cap := c) (by omega) hc
  rw [Nat.mul_one, show (bl b).drop m = bl (b.drop m) by simp [bl, List.map_drop], if_neg (by omega), Nat.add_sub_cancel_left] at hct
  have hn0 : Nx W (W.alloc (.cells #[.slice A m c] 26)) := (Ch.refl _ W).alloc _
  have hb0 := Blk.new W 26 #[.slice A m c]
  have hsum := crc_sum1 D W.heap.size 1 A m c (b.take m) _ (hb0.cell 0) (htk.nx (by decide) hn0) (fun k hk => Nat.lt_of_lt_of_le (hDw k hk) hn0.size) (fun x hx => ok x (List.mem_of_mem_take hx)) (by simp; omega) (by omega)
  have hsz := sumF_lt (b.take m)
  have hopen : openOk b ↔ ∀ k, k < 4 → (b.drop m).getD k 0 = (four (sumF (b.take m))).getD k 0 := by
   have e4 : b.length - 4 = m := by omega
   have e5 : (b.drop m).length = 4 := by rw [List.length_drop]; omega
   unfold openOk
   rw [e4]
   constructor
   ·rintro ⟨_, h⟩ k _
    rw [h]
   ·intro h
    refine ⟨by omega, List.ext_getElem (by rw [e5]; rfl) fun i h1 h2 => ?_⟩
    have := h i (by omega)
    rw [List.getD_eq_getElem?_getD, List.getD_eq_getElem?_getD, List.getElem?_eq_getElem h1, List.getElem?_eq_getElem h2] at this
    exact this
  have hlen : b.length - 4 = m := by omega
  have hnl : ¬ b.length < 4 := by omega
  have okd : okB (b.drop m) := fun x hx => ok x (List.mem_of_mem_drop hx)
  have hdl : (b.drop m).length = 4 := by rw [List.length_drop]; omega
  have Hopen := Lib.hid hopen
  clear hopen
  generalize b.drop m = tl at *
  have Hfour : Hid (four (sumF (b.take m)) = [sumF (b.take m) % 256, sumF (b.take m) / 256 % 256, sumF (b.take m) / 65536 % 256, sumF (b.take m) / 16777216 % 256]) := Lib.hid rfl
  generalize sumF (b.take m) = s at *
  obtain ⟨k0, k1, k2, k3⟩ := u8_at s
  have l0 : s % 256 < 256 := by omega
  have l1 : s / 256 % 256 < 256 := by omega
  have l2 : s / 65536 % 256 < 256 := by omega
  have l3 : s / 16777216 % 256 < 256 := by omega
  generalize s % 256 = f0 at *
  generalize s / 256 % 256 = f1 at *
  generalize s / 65536 % 256 = f2 at *
  generalize s / 16777216 % 256 = f3 at *
  have Hs := Lib.hid hsum
  have Hlen := Lib.hid hlen
  have Hnl := Lib.hid hnl
  have Htk := Lib.hid htk
  clear hsum hlen hnl hl htk hr
  unfold OpenTo
  go_enter Tryz.func74, Tryz.ntmps74
  go_wp2_with fail
  with_reducible refine Hs.out.mono ?_
  rintro e w1 ⟨rfl, n1⟩
  have nx1 : Nx W w1 := hn0.tr n1
  clear Hs n1 hb0 hn0
  go_wp2_with fail
  go_loopw [22] (fun i wr => ∃ k : Nat, k ≤ 4 ∧ i = .int .i64 (k : Int) ∧ wr = w1 ∧ Hid (∀ j, j < k → tl.getD j 0 = (four s).getD j 0)) (fun i _ => 4 - (intOf i).toNat)
  case atStart => exact ⟨0, by omega, rfl, rfl, Lib.hid (fun j hj => absurd hj (by omega))⟩
  case round =>
   obtain ⟨k, hk, rfl, hww, H⟩ := hrel
   rw [hww]
   clear hww
   by_cases hlt : k < 4
   ·obtain ⟨ad, u, hA, hDa, hu, hcx⟩ := (hct.nx (by decide) nx1).at_ (k := k) (by omega)
    have hkl : k < tl.length := by omega
    rw [bl_get hkl] at hu
    injection hu with hu
    subst hu
    have hxx := okB_getD okd k
    obtain ⟨x, hx⟩ : ∃ x, tl.getD k 0 = x := ⟨_, rfl⟩
    rw [hx] at hcx hxx
    have Hx := Lib.hid hx
    have hcm : ¬ c = m := by omega
    clear hx
    have hk4 : k = 0 ∨ k = 1 ∨ k = 2 ∨ k = 3 := by omega
    have ha0 : ad.add 0 = ad := by simp [Addr.add]
    rcases hk4 with rfl | rfl | rfl | rfl
    all_goals
     clear ha0
     simp [Addr.add] at hcx
    ·have Hf : Hid ((four s).getD 0 0 = f0) := Lib.hid (by rw [Hfour.out]; rfl)
     by_cases he : x = f0
     ·subst he
      go_wp2_with fail
      go_roundw
      case rel => exact ⟨1, by omega, by go_num, trivial, Lib.hid (fun j hj => by
       by_cases e : j = 0
       ·subst e; rw [Hx.out, Hf.out]
       ·exact H.out j (by omega))⟩
      case measure => simp [intOf]
     ·have he2 : ((x : Int) != (f0 : Int)) = true := by rw [bne_iff_ne]; omega
      have hno : ¬ openOk b := fun h => he (by rw [← Hx.out, ← Hf.out]; exact Hopen.out.1 h 0 (by omega))
      have Hno := Lib.hid hno
      clear hno he
      go_wp2_with fail
      go_ret2
      exact ⟨fun h => absurd h Hno.out, fun _ => ⟨by first | rfl | (rw [if_neg Hnl.out]; rfl), nx1⟩⟩
    ·have Hf : Hid ((four s).getD 1 0 = f1) := Lib.hid (by rw [Hfour.out]; rfl)
     by_cases he : x = f1
     ·subst he
      go_wp2_with fail
      go_roundw
      case rel => exact ⟨2, by omega, by go_num, trivial, Lib.hid (fun j hj => by
       by_cases e : j = 1
       ·subst e; rw [Hx.out, Hf.out]
       ·exact H.out j (by omega))⟩
      case measure => simp [intOf]
     ·have he2 : ((x : Int) != (f1 : Int)) = true := by rw [bne_iff_ne]; omega
      have hno : ¬ openOk b := fun h => he (by rw [← Hx.out, ← Hf.out]; exact Hopen.out.1 h 1 (by omega))
      have Hno := Lib.hid hno
      clear hno he
      go_wp2_with fail
      go_ret2
      exact ⟨fun h => absurd h Hno.out, fun _ => ⟨by first | rfl | (rw [if_neg Hnl.out]; rfl), nx1⟩⟩
    ·have Hf : Hid ((four s).getD 2 0 = f2) := Lib.hid (by rw [Hfour.out]; rfl)
     by_cases he : x = f2
     ·subst he
      go_wp2_with fail
      go_roundw
      case rel => exact ⟨3, by omega, by go_num, trivial, Lib.hid (fun j hj => by
       by_cases e : j = 2
       ·subst e; rw [Hx.out, Hf.out]
       ·exact H.out j (by omega))⟩
      case measure => simp [intOf]
     ·have he2 : ((x : Int) != (f2 : Int)) = true := by rw [bne_iff_ne]; omega
      have hno : ¬ openOk b := fun h => he (by rw [← Hx.out, ← Hf.out]; exact Hopen.out.1 h 2 (by omega))
      have Hno := Lib.hid hno
      clear hno he
      go_wp2_with fail
      go_ret2
      exact ⟨fun h => absurd h Hno.out, fun _ => ⟨by first | rfl | (rw [if_neg Hnl.out]; rfl), nx1⟩⟩
    ·have Hf : Hid ((four s).getD 3 0 = f3) := Lib.hid (by rw [Hfour.out]; rfl)
     by_cases he : x = f3
     ·subst he
      go_wp2_with fail
      go_roundw
      case rel => exact ⟨4, by omega, by go_num, trivial, Lib.hid (fun j hj => by
       by_cases e : j = 3
       ·subst e; rw [Hx.out, Hf.out]
       ·exact H.out j (by omega))⟩
      case measure => simp [intOf]
     ·have he2 : ((x : Int) != (f3 : Int)) = true := by rw [bne_iff_ne]; omega
      have hno : ¬ openOk b := fun h => he (by rw [← Hx.out, ← Hf.out]; exact Hopen.out.1 h 3 (by omega))
      have Hno := Lib.hid hno
      clear hno he
      go_wp2_with fail
      go_ret2
      exact ⟨fun h => absurd h Hno.out, fun _ => ⟨by first | rfl | (rw [if_neg Hnl.out]; rfl), nx1⟩⟩
   ·obtain rfl : k = 4 := by omega
    have hyes : openOk b := Hopen.out.2 H.out
    have Hyes := Lib.hid hyes
    have hlit := OwnS.lit W w1 5 nx1 1
    have htk1 := Htk.out.nx (by decide) hlit.nx
    have hb1 : (Value.slice (some ⟨w1.heap.size, 0, none⟩) 0 0).ownBlock ≠ none := by simp [Value.ownBlock]
    clear hyes
    go_wp2_with (at_builtin; refine wpList_appN rfl (.tmp 35) (.tmp 38) _ rfl 5 i0 _ 1 1 Tryz.underlying26 hi0 hz0 hz1 hz2 rfl (by omega) rfl hlit D A m c (bl (b.take m)) rfl htk1 (bl_one _) (by simp only [maxLen]; omega) (by omega) ?_; intro v3 w3 o3 m3)
    obtain ⟨q, cap, hv, o4, _, _, hcap, _⟩ := GivesB.mk_ o3 (m3.some_ hb1)
    injection hv with hv
    subst hv
    go_ret2
    rw [Hlen.out]
    refine ⟨fun _ => ⟨q, cap, by simp, by simpa using o4, by have := Hlen.out; omega⟩, fun h => absurd Hyes.out h⟩
end Go.Proofs.YtpakjclpjcngmaaGreat
