/- The contracts of package nums: PutU, U, Zig, Zag, PutI, I. Conditions: numbers of 64 bits, lengths within the reach. · The document's numbers as bytes (entrepotref01.PutU, Zig), checksum (entrepotref03) and entrepotref10.u, walked. Conditions: numbers below 2^64. -/
import Derived.Test.YtlokfmalpkahaaaGreatKrQ2
import Derived.Test.YtlokfmalpkahaaaGreatKrQ4
import Derived.IntWalk
import Derived.Lib.Varint
import Derived.Lib.Zigzag
import Derived.Deep.CutBlock
import Derived.Deep.DeepCutAuto
import Derived.Test.YtlokfmalpkahaaaGreatKrCrc
import Derived.Test.YtlokfmalpkahaaaGreatKrQ3
namespace Go.Proofs.YtlokfmalpkahaaaGreat
open Go.RowKit
set_option linter.unusedVariables false
set_option maxRecDepth 100000
theorem GivesB.of_pos {W w : World} {e : TypeId} {n : Nat} {v : Value} {xs : List Value} (h : OwnS W w e 1 v n xs) (hn : 0 < n) : GivesB W e 1 n xs (.returned v) w := by
  obtain ⟨g, cap, hv, _, _⟩ := h.own.form hn
  exact GivesB.mk_ h (by rw [hv]; simp [Value.ownBlock])
set_option maxHeartbeats 4000000 in
theorem nums_putU (v : Nat) (W : World) (hv : v < 18446744073709551616) : Calls Tryz.prog 45 #[.int .u64 (v : Int)] W (GivesB W 5 1 (putU v).length (bl (putU v))) := by
  obtain ⟨i0, hi0, hz0, hz1, hz2⟩ := info_parts Tryz.info5
  have h0 := OwnS.nil W W 5 1 (Ch.refl _ W)
  have hl10 := (putU_len10 hv).2
  go_enter Tryz.func45, Tryz.ntmps45
  go_wp2_with fail
  go_loopw [0, 3] (fun s0 u wr => ∃ (r : Nat) (pre : List Nat), r < 18446744073709551616 ∧ s0 = .int .u64 (r : Int) ∧ OwnS W wr 5 1 u pre.length (bl pre) ∧ Hid (putU v = pre ++ putU r) ∧ pre.length + (putU r).length ≤ 10) (fun s0 _ _ => (intOf s0).toNat)
  case atStart => exact ⟨v, [], hv, rfl, by simpa [bl] using h0, Lib.hid rfl, by simpa using hl10⟩
  case round =>
    clear h0
    obtain ⟨w1, rfl⟩ : ∃ w1 : World, w1 = wr := ⟨_, rfl⟩
    obtain ⟨r, pre, hr, rfl, ho, H, hlen⟩ := hrel
    have kw : IntKind.u8.wrap (r : Int) = ((r % 256 : Nat) : Int) := by
      have : IntKind.u8.wrap (r : Int) = (r : Int) % 256 := by simp [IntKind.wrap, IntKind.bits, IntKind.signed]
      omega
    have hpl := (putU_len10 hr).1
    by_cases h : 128 ≤ r
    · have hb := putU_big h
      have hor : bits .or .u8 ((r % 256 : Nat) : Int) 128 = ((128 + r % 128 : Nat) : Int) := by
        rw [Lib.u8_or128_any _ (by omega) (by omega)]
        omega
      have hdiv : (r : Int) / 128 = ((r / 128 : Nat) : Int) := by omega
      have e2 : bl (pre ++ [128 + r % 128]) = bl pre ++ [.int .u8 ((128 + r % 128 : Nat) : Int)] := by simp [bl]
      have hlb : (putU r).length = (putU (r / 128)).length + 1 := by rw [hb]; rfl
      have hm : r / 128 < r := by omega
      have hr2 : r / 128 < 18446744073709551616 := by omega
      have Hb := Lib.hid hb
      have He2 := Lib.hid e2
      clear hb e2
      generalize r / 128 = q at *
      generalize 128 + r % 128 = y at *
      generalize r % 256 = z at *
      go_wp2_with (at_builtin; refine wpList_app1 rfl (.tmp 6) (.tmp 10) _ rfl 5 i0 _ 1 Tryz.underlying27 hi0 hz0 hz1 hz2 rfl _ rfl rfl ho rfl (by simp only [maxLen]; omega) (by omega) ?_; intro v' w' ho2 hmv)
      go_roundw
      case rel => exact ⟨q, pre ++ [y], hr2, rfl, by rw [List.length_append, He2.out]; exact ho2, Lib.hid (by rw [H.out, Hb.out]; simp), by rw [List.length_append]; simp only [List.length_cons, List.length_nil]; omega⟩
      case measure => simp [intOf]; omega
    · have hs := putU_small (show r < 128 by omega)
      have e2 : bl (pre ++ [r]) = bl pre ++ [.int .u8 (r : Int)] := by simp [bl]
      rw [show r % 256 = r by omega] at kw
      have He2 := Lib.hid e2
      have Hs := Lib.hid hs
      clear e2 hs
      go_wp2_with (at_builtin; refine wpList_app1 rfl (.tmp 14) (.tmp 17) _ rfl 5 i0 _ 1 Tryz.underlying27 hi0 hz0 hz1 hz2 rfl _ rfl rfl ho rfl (by simp only [maxLen]; omega) (by omega) ?_; intro v' w' ho2 hmv)
      go_ret
      rw [H.out, Hs.out, List.length_append, He2.out]
      exact GivesB.of_pos ho2 (Nat.succ_pos _)
theorem u8_and127 (x : Nat) (h : x < 256) : bits .and .u8 (x : Int) 127 = ((x % 128 : Nat) : Int) := by
  have e := u8_and_nat x 127 h (by decide)
  rw [show x &&& 127 = x % 128 from Nat.and_two_pow_sub_one_eq_mod x 7] at e
  exact e
theorem u64_or_add (a y i : Nat) (ha : a < 2 ^ i) (h : a + y * 2 ^ i < 18446744073709551616) : bits .or .u64 (a : Int) ((y * 2 ^ i : Nat) : Int) = ((a + y * 2 ^ i : Nat) : Int) := by
  have h2 : y * 2 ^ i < 18446744073709551616 := by omega
  have h3 : a < 18446744073709551616 := by omega
  have e := u64_or_nat a (y * 2 ^ i) h3 h2
  have e2 : a ||| y * 2 ^ i = a + y * 2 ^ i := by
    rw [Nat.or_comm, Nat.mul_comm y, ← Nat.two_pow_add_eq_or_of_lt ha, Nat.add_comm]
  rw [e2] at e
  exact e
/-- what U hands back -/
def UTo (t : Nat × Nat × Int) (W : World) (e : Ending) (w' : World) : Prop := e = .returned (.tuple #[.int .u64 (t.1 : Int), .int .i64 (t.2.1 : Int), .int .i64 t.2.2]) ∧ W = w'
set_option maxHeartbeats 8000000 in
theorem nums_U (D : Nat → Prop) (A : Option Addr) (n c : Nat) (b : List Nat) (p : Nat) (W : World) (hr : Rd W D 1 A n (bl b)) (ok : okB b) (hl : b.length = n) (hn : n ≤ 1000000000) (hc : n ≤ c) (hp : p ≤ 1000000000) :
    Calls Tryz.prog 96 #[.slice A n c, .int .i64 (p : Int)] W (UTo (readU b p) W) := by
  by_cases hpn : n ≤ p
  · have e : readU b p = (0, 0, 3) := by unfold readU; rw [if_pos (.inr (by omega))]
    rw [e]
    unfold UTo
    go_enter Tryz.func96, Tryz.ntmps96
    go_wp2_with fail
    go_ret3
    exact ⟨rfl, rfl⟩
  · have e : readU b p = readFrom (b.drop p) 0 0 := by unfold readU; rw [if_neg (by omega), Int.toNat_natCast]
    rw [e]
    have hct := hr.cut (k := p) (cap := c) (by omega) hc
    rw [Nat.mul_one, show (bl b).drop p = bl (b.drop p) by simp [bl, List.map_drop], if_neg (by omega)] at hct
    obtain ⟨m, hm⟩ : ∃ m, n = p + m := ⟨n - p, by omega⟩
    have hdl : (b.drop p).length = m := by rw [List.length_drop]; omega
    have okd : okB (b.drop p) := fun x hx => ok x (List.mem_of_mem_drop hx)
    rw [show n - p = m by omega] at hct
    have hm0 : 0 < m := by omega
    generalize b.drop p = tl at *
    subst hm
    obtain ⟨ad0, hA, -⟩ := hct.2 hm0
    rw [hA] at hct
    have hcp : ¬ c = p := by omega
    clear hl hr ok e
    have Hdl := Lib.hid hdl
    clear hdl
    unfold UTo
    go_enter Tryz.func96, Tryz.ntmps96
    go_wp2_with fail
    go_loopw [7, 22] (fun s7 i wr => ∃ (k a : Nat), k ≤ m ∧ k ≤ 9 ∧ i = .int .i64 (k : Int) ∧ s7 = .int .u64 (a : Int) ∧ wr = W ∧ a < 2 ^ (7 * k) ∧ Hid (readFrom tl 0 0 = readFrom (tl.drop k) k a)) (fun _ i _ => m - (intOf i).toNat)
    case atStart => exact ⟨0, 0, by omega, by omega, rfl, rfl, rfl, by decide, Lib.hid rfl⟩
    case round =>
      obtain ⟨k, a, hk, hk9, rfl, rfl, hww, ha, H⟩ := hrel
      rw [hww]
      clear hww
      by_cases hlt : k < m
      · obtain ⟨ad, u, hA2, hDa, hu, hcx⟩ := hct.at_ hlt
        injection hA2 with hA2
        subst hA2
        have hkl : k < tl.length := by rw [Hdl.out]; exact hlt
        rw [bl_get hkl] at hu
        injection hu with hu
        subst hu
        have hx := okB_getD okd k
        have hstep : readFrom tl 0 0 = readFrom (tl.getD k 0 :: tl.drop (k + 1)) k a := by
          rw [H.out, List.drop_eq_getElem_cons hkl]
          simp [List.getD, hkl]
        simp only [readFrom] at hstep
        have hand := u8_and127 _ hx
        generalize tl.getD k 0 = x at *
        have hpw : a + (x % 128) * 2 ^ (7 * k) < 2 ^ (7 * (k + 1)) := by
          have : x % 128 < 128 := Nat.mod_lt _ (by decide)
          have h3 : (x % 128) * 2 ^ (7 * k) ≤ 127 * 2 ^ (7 * k) := Nat.mul_le_mul_right _ (by omega)
          rw [pow7]; omega
        have horf : a + (x % 128) * 2 ^ (7 * k) < 18446744073709551616 → bits .or .u64 (a : Int) (IntKind.u64.wrap ((x : Int) % 128 * 2 ^ (7 * k))) = ((a + (x % 128) * 2 ^ (7 * k) : Nat) : Int) := fun h => by
          have e1 : ((x : Int) % 128 * 2 ^ (7 * k)) = (((x % 128) * 2 ^ (7 * k) : Nat) : Int) := by push_cast; rfl
          have e2 : IntKind.u64.wrap ((((x % 128) * 2 ^ (7 * k) : Nat)) : Int) = (((x % 128) * 2 ^ (7 * k) : Nat) : Int) := by rw [IntKind.wrap_u64]; omega
          rw [e1, e2]
          exact u64_or_add a (x % 128) (7 * k) ha h
        by_cases h9 : k = 9
        · subst h9
          simp [Addr.add] at hcx
          by_cases hx1 : 1 < x
          · rw [if_pos (.inl ⟨rfl, hx1⟩)] at hstep
            have Hst := Lib.hid hstep
            clear hstep horf hand
            go_wp2_with fail
            go_ret3
            exact ⟨by rw [Hst.out]; rfl, rfl⟩
          · by_cases hx0 : x = 0
            · rw [if_pos (.inr ⟨hx0, by omega⟩)] at hstep
              have Hst := Lib.hid hstep
              subst hx0
              clear hstep horf hand
              go_wp2_with fail
              go_ret3
              exact ⟨by rw [Hst.out]; rfl, rfl⟩
            · obtain rfl : x = 1 := by omega
              rw [if_neg (by omega), if_pos (by omega)] at hstep
              have hor := horf (by
                have e : (2 : Nat) ^ (7 * 9) = 9223372036854775808 := by decide
                rw [e] at ha ⊢
                omega)
              have Hst := Lib.hid hstep
              have hor2 : bits .or .u64 (a : Int) 9223372036854775808 = ((a + 9223372036854775808 : Nat) : Int) := by
                rw [show (2 : Nat) ^ (7 * 9) = 9223372036854775808 by decide] at hor
                have e1 : IntKind.u64.wrap (((1 : Nat) : Int) % 128 * 2 ^ (7 * 9)) = 9223372036854775808 := by decide
                rw [e1] at hor
                simpa using hor
              clear hstep horf hand hor hpw ha
              go_wp2_with fail
              go_ret3
              have e0 : IntKind.u64.wrap (IntKind.u64.wrap (bits .and .u8 1 127) * 9223372036854775808) = 9223372036854775808 := by decide
              exact ⟨by rw [Hst.out]; simp [e0, hor2], rfl⟩
        · have hq9 : ((k : Int) == 9) = false := by rw [beq_eq_false_iff_ne]; omega
          have hp63 : 2 ^ (7 * (k + 1)) ≤ 2 ^ 63 := Nat.pow_le_pow_right (by decide) (by omega)
          rw [show 2 ^ 63 = 9223372036854775808 by decide] at hp63
          have hor := horf (by omega)
          by_cases hx0 : x = 0
          · by_cases hk0 : k = 0
            · subst hk0
              subst hx0
              rw [if_neg (by omega), if_pos (by omega)] at hstep
              have ha0 : a = 0 := by simpa using ha
              subst ha0
              have Hst := Lib.hid hstep
              have hzz : ad0.add 0 = ad0 := by simp [Addr.add]
              rw [hzz] at hcx
              clear hstep horf hand hor hpw ha hzz
              go_wp2_with fail
              go_ret3
              have e0 : bits .or .u64 0 (IntKind.u64.wrap (IntKind.u64.wrap (bits .and .u8 0 127))) = 0 := by decide
              exact ⟨by rw [Hst.out]; simp [e0], rfl⟩
            · rw [if_pos (.inr ⟨hx0, by omega⟩)] at hstep
              subst hx0
              have hk0' : 0 < (k : Int) := by omega
              have Hst := Lib.hid hstep
              clear hstep horf hand hor
              go_wp2_with fail
              go_ret3
              exact ⟨by rw [Hst.out]; rfl, rfl⟩
          · have hq0 : ((x : Int) == 0) = false := by rw [beq_eq_false_iff_ne]; omega
            rw [if_neg (by omega)] at hstep
            by_cases h128 : x < 128
            · rw [if_pos h128] at hstep
              rw [show x % 128 = x by omega] at hor
              have Hst := Lib.hid hstep
              clear hstep horf
              generalize x * 2 ^ (7 * k) = sh at *
              go_wp2_with fail
              go_ret3
              exact ⟨by rw [Hst.out]; simp, rfl⟩
            · rw [if_neg h128] at hstep
              have Hst := Lib.hid hstep
              clear hstep horf
              generalize (x % 128) * 2 ^ (7 * k) = sh at *
              go_wp2_with fail
              go_roundw
              case rel => exact ⟨k + 1, a + sh, by omega, by omega, by go_num, rfl, trivial, hpw, Hst⟩
              case measure => simp [intOf]; omega
      · obtain rfl : k = m := by omega
        have he : readFrom tl 0 0 = (0, 0, 3) := by
          rw [H.out, List.drop_of_length_le (by rw [Hdl.out]; exact Nat.le_refl _)]
          rfl
        have He := Lib.hid he
        clear he
        go_wp2_with fail
        go_ret3
        exact ⟨by rw [He.out]; rfl, rfl⟩
theorem zig_bits (x : Int) (h0 : -9223372036854775808 ≤ x) (h1 : x ≤ 9223372036854775807) :
    bits .xor .u64 (IntKind.u64.wrap (IntKind.u64.wrap x * 2)) (IntKind.u64.wrap (x / 9223372036854775808)) = (zig x : Int) := by
  by_cases h : 0 ≤ x
  · obtain ⟨n, rfl⟩ := Int.eq_ofNat_of_zero_le h
    have e1 : IntKind.u64.wrap (IntKind.u64.wrap (n : Int) * 2) = ((2 * n : Nat) : Int) := by rw [IntKind.wrap_u64, IntKind.wrap_u64]; omega
    have e2 : IntKind.u64.wrap ((n : Int) / 9223372036854775808) = ((0 : Nat) : Int) := by rw [IntKind.wrap_u64]; omega
    rw [e1, e2, u64_xor_nat _ _ (by omega) (by decide), Nat.xor_zero]
    unfold zig
    rw [if_pos (by omega)]
    omega
  · have e1 : IntKind.u64.wrap (IntKind.u64.wrap x * 2) = (((2 * x + 18446744073709551616).toNat : Nat) : Int) := by rw [IntKind.wrap_u64, IntKind.wrap_u64]; omega
    have e2 : IntKind.u64.wrap (x / 9223372036854775808) = ((2 ^ 64 - 1 : Nat) : Int) := by rw [IntKind.wrap_u64]; omega
    rw [e1, e2, u64_xor_nat _ _ (by omega) (by decide), Nat.xor_comm, Lib.xor_ones64 _ (by omega)]
    unfold zig
    rw [if_neg h]
    omega
theorem i64_xor_comm (a b : Int) : bits .xor .i64 a b = bits .xor .i64 b a := by
  show IntKind.i64.wrap ((BitVec.ofInt 64 a ^^^ BitVec.ofInt 64 b).toNat : Int) = IntKind.i64.wrap ((BitVec.ofInt 64 b ^^^ BitVec.ofInt 64 a).toNat : Int)
  rw [BitVec.xor_comm]
theorem i64_xor_zero (n : Nat) (h : n < 9223372036854775808) : bits .xor .i64 (n : Int) 0 = (n : Int) := by
  show IntKind.i64.wrap ((BitVec.ofInt 64 (n : Int) ^^^ BitVec.ofInt 64 0).toNat : Int) = _
  have e : (BitVec.ofInt 64 (n : Int)).toNat = n := by rw [BitVec.ofInt_natCast, BitVec.toNat_ofNat]; exact Nat.mod_eq_of_lt (by omega)
  have e2 : BitVec.ofInt 64 0 = 0#64 := by decide
  rw [e2, BitVec.xor_zero, e, IntKind.wrap_i64]
  omega
theorem zag_bits (u : Nat) (h : u < 18446744073709551616) : bits .xor .i64 ((u : Int) / 2) (wrap64 (-wrap64 (bits .and .u64 (u : Int) 1))) = zag u := by
  rw [Lib.u64_and1 _ (by omega) (by omega)]
  unfold zag
  by_cases h1 : u % 2 = 1
  · rw [if_pos h1, show (u : Int) % 2 = 1 by omega, show wrap64 (-wrap64 1) = -1 by decide +kernel, i64_xor_comm, show (u : Int) / 2 = ((u / 2 : Nat) : Int) by omega, Lib.i64_not _ (by omega)]
  · rw [if_neg h1, show (u : Int) % 2 = 0 by omega, show wrap64 (-wrap64 0) = 0 by decide +kernel, show (u : Int) / 2 = ((u / 2 : Nat) : Int) by omega, i64_xor_zero _ (by omega)]
set_option maxHeartbeats 1000000 in
theorem nums_Zig (x : Int) (w : World) (h0 : -9223372036854775808 ≤ x) (h1 : x ≤ 9223372036854775807) : Calls Tryz.prog 106 #[.int .i64 x] w fun e w' => e = .returned (.int .u64 (zig x : Int)) ∧ w = w' := by
  have H := Lib.hid (zig_bits x h0 h1)
  go_enter Tryz.func106, Tryz.ntmps106
  go_wp2_with fail
  go_ret
  exact ⟨ret_int H.out, rfl⟩
set_option maxHeartbeats 1000000 in
theorem nums_Zag (u : Nat) (w : World) (h : u < 18446744073709551616) : Calls Tryz.prog 129 #[.int .u64 (u : Int)] w fun e w' => e = .returned (.int .i64 (zag u)) ∧ w = w' := by
  have H := Lib.hid (zag_bits u h)
  go_enter Tryz.func129, Tryz.ntmps129
  go_wp2_with fail
  go_ret
  exact ⟨ret_int H.out, rfl⟩
set_option maxHeartbeats 1000000 in
theorem nums_putI (x : Int) (W : World) (h0 : -9223372036854775808 ≤ x) (h1 : x ≤ 9223372036854775807) : Calls Tryz.prog 74 #[.int .i64 x] W (GivesB W 5 1 (putU (zig x)).length (bl (putU (zig x)))) := by
  have hz := zig_lt h0 h1
  go_enter Tryz.func74, Tryz.ntmps74
  go_wp2_with fail
  with_reducible refine (nums_Zig x _ h0 h1).mono ?_
  rintro e w1 ⟨rfl, rfl⟩
  go_wp2_with fail
  with_reducible refine (nums_putU _ _ hz).mono ?_
  rintro e w1 ⟨k, cap, rfl, h⟩
  go_wp2_with fail
  go_ret
  exact ⟨k, cap, rfl, h⟩
/-- what I hands back -/
def ITo (t : Nat × Nat × Int) (W : World) (e : Ending) (w' : World) : Prop := e = .returned (.tuple #[.int .i64 (if t.2.2 = 0 then zag t.1 else 0), .int .i64 (if t.2.2 = 0 then (t.2.1 : Int) else 0), .int .i64 t.2.2]) ∧ W = w'
set_option maxHeartbeats 2000000 in
theorem nums_I (D : Nat → Prop) (A : Option Addr) (n c : Nat) (b : List Nat) (p : Nat) (W : World) (hr : Rd W D 1 A n (bl b)) (ok : okB b) (hl : b.length = n) (hn : n ≤ 1000000000) (hc : n ≤ c) (hp : p ≤ 1000000000) :
    Calls Tryz.prog 97 #[.slice A n c, .int .i64 (p : Int)] W (ITo (readU b p) W) := by
  have hu := nums_U D A n c b p W hr ok hl hn hc hp
  have hlt : (readU b p).1 < 18446744073709551616 := by
    unfold readU
    split
    · decide
    · exact readFrom_lt _ 0 0 (fun x hx => ok x (List.mem_of_mem_drop hx)) (by omega) (by decide)
  generalize readU b p = t at *
  obtain ⟨v, k, e⟩ := t
  simp only at hlt
  unfold ITo
  unfold UTo at hu
  simp only at hu ⊢
  by_cases he : e = 0
  · subst he
    have Hu := Lib.hid hu
    clear hu
    go_enter Tryz.func97, Tryz.ntmps97
    go_wp2_with fail
    with_reducible refine Hu.out.mono ?_
    rintro e w1 ⟨rfl, rfl⟩
    go_wp2_with fail
    with_reducible refine (nums_Zag v _ hlt).mono ?_
    rintro e w1 ⟨rfl, rfl⟩
    go_wp2_with fail
    go_ret3
    exact ⟨by simp, rfl⟩
  · have hne : (e != 0) = true := by rw [bne_iff_ne]; exact he
    have Hu := Lib.hid hu
    have He := Lib.hid he
    clear hu he
    go_enter Tryz.func97, Tryz.ntmps97
    go_wp2_with fail
    with_reducible refine Hu.out.mono ?_
    rintro e w1 ⟨rfl, rfl⟩
    go_wp2_with fail
    go_ret3
    exact ⟨by first | rfl | (rw [if_neg He.out, if_neg He.out]; rfl), rfl⟩
end Go.Proofs.YtlokfmalpkahaaaGreat
namespace Go.Proofs.YtlokfmalpkahaaaGreat
open Go.RowKit
set_option linter.unusedVariables false
set_option maxRecDepth 100000
set_option maxHeartbeats 4000000 in
theorem ref_putU (v : Nat) (W : World) (hv : v < 18446744073709551616) : Calls Tryz.prog 79 #[.int .u64 (v : Int)] W (GivesB W 5 1 (putU v).length (bl (putU v))) := by
  obtain ⟨i0, hi0, hz0, hz1, hz2⟩ := info_parts Tryz.info5
  have h0 := OwnS.lit W W 5 (Ch.refl _ W) 1
  have hl10 := (putU_len10 hv).2
  go_enter Tryz.func79, Tryz.ntmps79
  go_wp2_with fail
  go_loopw [0, 3] (fun s0 u wr => ∃ (r : Nat) (pre : List Nat), r < 18446744073709551616 ∧ s0 = .int .u64 (r : Int) ∧ OwnS W wr 5 1 u pre.length (bl pre) ∧ Hid (putU v = pre ++ putU r) ∧ pre.length + (putU r).length ≤ 10) (fun s0 _ _ => (intOf s0).toNat)
  case atStart => exact ⟨v, [], hv, rfl, by simpa [bl] using h0, Lib.hid rfl, by simpa using hl10⟩
  case round =>
    clear h0
    obtain ⟨w1, rfl⟩ : ∃ w1 : World, w1 = wr := ⟨_, rfl⟩
    obtain ⟨r, pre, hr, rfl, ho, H, hlen⟩ := hrel
    have hpl := (putU_len10 hr).1
    have td : (r : Int).tdiv 128 = ((r / 128 : Nat) : Int) := by rw [Int.tdiv_eq_ediv_of_nonneg (by omega)]; omega
    have tm : (r : Int).tmod 128 = ((r % 128 : Nat) : Int) := by rw [Int.tmod_eq_emod_of_nonneg (by omega)]; omega
    have hdiv : (r : Int) / 128 = ((r / 128 : Nat) : Int) := by omega
    have hmod : (r : Int) % 128 = ((r % 128 : Nat) : Int) := by omega
    by_cases h : 128 ≤ r
    · have hb := putU_big h
      have e2 : bl (pre ++ [128 + r % 128]) = bl pre ++ [.int .u8 ((128 + r % 128 : Nat) : Int)] := by simp [bl]
      have hlb : (putU r).length = (putU (r / 128)).length + 1 := by rw [hb]; rfl
      have hm : r / 128 < r := by omega
      have hr2 : r / 128 < 18446744073709551616 := by omega
      have hq0 : 0 < r / 128 := by omega
      have hx : r % 128 < 128 := Nat.mod_lt _ (by decide)
      have Hb := Lib.hid hb
      have He2 := Lib.hid e2
      clear hb e2
      generalize r / 128 = q at *
      generalize r % 128 = z at *
      have kw : IntKind.u8.wrap ((128 : Int) + (z : Int)) = ((128 + z : Nat) : Int) := by
        have : ∀ a : Int, IntKind.u8.wrap a = a % 256 := fun a => by simp [IntKind.wrap, IntKind.bits, IntKind.signed]
        rw [this]; omega
      have kw2 : IntKind.u64.wrap ((128 : Int) + (z : Int)) = (128 : Int) + (z : Int) := by rw [IntKind.wrap_u64]; omega
      go_wp2_with (at_builtin; refine wpList_app1 rfl (.tmp 8) (.tmp 13) _ rfl 5 i0 _ 1 Tryz.underlying27 hi0 hz0 hz1 hz2 rfl (.int .u8 ((128 + z : Nat) : Int)) rfl rfl ho rfl (by simp only [maxLen]; omega) (by omega) ?_; intro v' w' ho2 hmv)
      go_roundw
      case rel => exact ⟨q, pre ++ [128 + z], hr2, rfl, by rw [List.length_append, He2.out]; exact ho2, Lib.hid (by rw [H.out, Hb.out]; simp), by rw [List.length_append]; simp only [List.length_cons, List.length_nil]; omega⟩
      case measure => simp [intOf]; omega
    · have hs := putU_small (show r < 128 by omega)
      have e2 : bl (pre ++ [r]) = bl pre ++ [.int .u8 (r : Int)] := by simp [bl]
      have kw : IntKind.u8.wrap (r : Int) = (r : Int) := by
        have : IntKind.u8.wrap (r : Int) = (r : Int) % 256 := by simp [IntKind.wrap, IntKind.bits, IntKind.signed]
        omega
      have hq0 : r / 128 = 0 := by omega
      rw [hq0] at td hdiv
      have He2 := Lib.hid e2
      have Hs := Lib.hid hs
      clear e2 hs tm hmod hq0
      go_wp2_with (at_builtin; refine wpList_app1 rfl (.tmp 17) (.tmp 20) _ rfl 5 i0 _ 1 Tryz.underlying27 hi0 hz0 hz1 hz2 rfl (.int .u8 (r : Int)) rfl rfl ho rfl (by simp only [maxLen]; omega) (by omega) ?_; intro v' w' ho2 hmv)
      go_ret
      rw [H.out, Hs.out, List.length_append, He2.out]
      exact GivesB.of_pos ho2 (Nat.succ_pos _)
set_option maxHeartbeats 1000000 in
theorem ref_zig (x : Int) (W : World) (h0 : -9223372036854775808 ≤ x) (h1 : x ≤ 9223372036854775807) : Calls Tryz.prog 83 #[.int .i64 x] W fun e w' => e = .returned (.int .u64 (zig x : Int)) ∧ W = w' := by
  by_cases hx : x < 0
  · have hz : (zig x : Int) = 2 * (-(x + 1)) + 1 := by unfold zig; rw [if_neg (by omega)]; omega
    have k1 : IntKind.i64.wrap (x + 1) = x + 1 := IntWalk.i64_in _ (by omega)
    have k2 : IntKind.i64.wrap (-(x + 1)) = -(x + 1) := IntWalk.i64_in _ (by omega)
    have k3 : IntKind.u64.wrap (-(x + 1)) = -(x + 1) := by rw [IntKind.wrap_u64]; omega
    have k4 : IntKind.u64.wrap (2 * -(x + 1)) = 2 * -(x + 1) := by rw [IntKind.wrap_u64]; omega
    have k5 : IntKind.u64.wrap (2 * -(x + 1) + 1) = 2 * -(x + 1) + 1 := by rw [IntKind.wrap_u64]; omega
    have Hz := Lib.hid hz
    clear hz
    go_enter Tryz.func83, Tryz.ntmps83
    go_wp2_with fail
    go_ret
    exact ⟨by rw [Hz.out]; try rfl, rfl⟩
  · have hz : (zig x : Int) = 2 * x := by unfold zig; rw [if_pos (by omega)]; omega
    have k3 : IntKind.u64.wrap x = x := by rw [IntKind.wrap_u64]; omega
    have k4 : IntKind.u64.wrap (2 * x) = 2 * x := by rw [IntKind.wrap_u64]; omega
    have Hz := Lib.hid hz
    clear hz
    go_enter Tryz.func83, Tryz.ntmps83
    go_wp2_with fail
    go_ret
    exact ⟨by rw [Hz.out]; try rfl, rfl⟩
set_option maxHeartbeats 2000000 in
theorem ref_step (c x : Nat) (W : World) (hc : c < 4294967296) (hx : x < 256) : Calls Tryz.prog 119 #[.int .u32 (c : Int), .int .u8 (x : Int)] W fun e w' => e = .returned (.int .u32 (stepF c x : Int)) ∧ W = w' := by
  have h0 := u32_xor_nat c x hc (by omega)
  have hl0 : c ^^^ x < 4294967296 := Nat.xor_lt_two_pow (n := 32) hc (by omega)
  have kx : IntKind.u32.wrap (x : Int) = (x : Int) := by
    have : IntKind.u32.wrap (x : Int) = (x : Int) % 4294967296 := by simp [IntKind.wrap, IntKind.bits, IntKind.signed]
    omega
  have H8 := Lib.hid (bits8 c x)
  have hlt := bitsF_lt hl0
  have hstp : ∀ k, bitsF (c ^^^ x) (k + 1) = bitF (bitsF (c ^^^ x) k) := fun k => rfl
  have Hstp := Lib.hid hstp
  have Hlt := Lib.hid hlt
  have Hb0 := Lib.hid (show bitsF (c ^^^ x) 0 = c ^^^ x from rfl)
  clear hlt hstp
  generalize hb : bitsF (c ^^^ x) = B at *
  clear hb
  generalize c ^^^ x = y at *
  go_enter Tryz.func119, Tryz.ntmps119
  go_wp2_with fail
  go_loop [0, 5] (fun s0 s5 => ∃ k : Nat, k ≤ 8 ∧ s0 = .int .u32 (B k : Int) ∧ s5 = .int .i64 (k : Int)) (fun _ s5 => 8 - (intOf s5).toNat)
  case atStart => exact ⟨0, by omega, by rw [Hb0.out], rfl⟩
  case round =>
    obtain ⟨k, hk, rfl, rfl⟩ := hrel
    by_cases hk8 : k < 8
    · have hl := Hlt.out k
      have hs := Hstp.out k
      have HS := Lib.hid hs
      clear hs
      generalize B k = r at *
      have td : (r : Int).tdiv 2 = ((r / 2 : Nat) : Int) := by rw [Int.tdiv_eq_ediv_of_nonneg (by omega)]; omega
      have tm : (r : Int).tmod 2 = ((r % 2 : Nat) : Int) := by rw [Int.tmod_eq_emod_of_nonneg (by omega)]; omega
      have hdv : (r : Int) / 2 = ((r / 2 : Nat) : Int) := by omega
      have hmd : (r : Int) % 2 = ((r % 2 : Nat) : Int) := by omega
      by_cases ho : r % 2 = 1
      · have hq : (((r % 2 : Nat) : Int) == 1) = true := by rw [ho]; rfl
        have hx2 := u32_xor_nat (r / 2) 3988292384 (by omega) (by decide)
        have hn : B (k + 1) = r / 2 ^^^ 3988292384 := by rw [HS.out]; unfold bitF; rw [if_pos ho]
        have Hn := Lib.hid hn
        clear hn
        rw [← Hn.out] at hx2
        have hx3 : bits .xor .u32 ((r / 2 : Nat) : Int) 3988292384 = (B (k + 1) : Int) := hx2
        rw [ho] at tm hmd hq
        have hqb : r / 2 < 4294967296 := by omega
        clear ho
        generalize r / 2 = q at *
        have kq : IntKind.u32.wrap (q : Int) = (q : Int) := by rw [show IntKind.u32.wrap (q : Int) = (q : Int) % 4294967296 by simp [IntKind.wrap, IntKind.bits, IntKind.signed]]; omega
        go_wp2_with fail
        go_round
        case rel => exact ⟨k + 1, by omega, rfl, by go_num⟩
        case measure => simp [intOf]; omega
      · have hz : r % 2 = 0 := by omega
        have hn : B (k + 1) = r / 2 := by rw [HS.out]; unfold bitF; rw [if_neg (by omega), Nat.xor_zero]
        have Hn := Lib.hid hn
        rw [hz] at tm hmd
        have hqb : r / 2 < 4294967296 := by omega
        clear hn ho hz
        generalize r / 2 = q at *
        have kq : IntKind.u32.wrap (q : Int) = (q : Int) := by rw [show IntKind.u32.wrap (q : Int) = (q : Int) % 4294967296 by simp [IntKind.wrap, IntKind.bits, IntKind.signed]]; omega
        go_wp2_with fail
        go_round
        case rel => exact ⟨k + 1, by omega, by rw [Hn.out], by go_num⟩
        case measure => simp [intOf]; omega
    · obtain rfl : k = 8 := by omega
      have H9 : Hid (stepF c x = B 8) := Lib.hid H8.out.symm
      go_wp2_with fail
      go_ret
      rw [H9.out]
      exact ⟨rfl, rfl⟩
set_option maxHeartbeats 2000000 in
theorem ref_sum (D : Nat → Prop) (A : Option Addr) (n c : Nat) (xs : List Nat) (W : World) (hr : Rd W D 1 A n (bl xs)) (ok : okB xs) (hl : xs.length = n) (hn : n ≤ 1000000000) :
    Calls Tryz.prog 81 #[.slice A n c] W fun e w' => e = .returned (.int .u32 (sumF xs : Int)) ∧ W = w' := by
  subst hl
  have Hok := Lib.hid ok
  have HF := Lib.hid (show sumF xs = 4294967295 - regF 4294967295 (xs.take xs.length) by rw [List.take_length]; rfl)
  go_enter Tryz.func81, Tryz.ntmps81
  go_wp2_with fail
  go_loop [3, 8] (fun s3 s8 => ∃ k : Nat, k ≤ xs.length ∧ s3 = .int .u32 (regF 4294967295 (xs.take k) : Int) ∧ s8 = .int .i64 (k : Int)) (fun _ s8 => xs.length - (intOf s8).toNat)
  case atStart => exact ⟨0, Nat.zero_le _, rfl, rfl⟩
  case round =>
    obtain ⟨k, hk, rfl, rfl⟩ := hrel
    have hcl : regF 4294967295 (xs.take k) < 4294967296 := regF_lt (by decide) fun x hx => Hok.out x (List.mem_of_mem_take hx)
    by_cases hlt : k < xs.length
    · obtain ⟨ad, rfl, _, hcell⟩ := hr.2 (by omega)
      have hc0 := hcell k _ (bl_get hlt)
      have hx := okB_getD Hok.out k
      have hs : regF 4294967295 (xs.take (k + 1)) = stepF (regF 4294967295 (xs.take k)) (xs.getD k 0) := by
        have e : xs.getD k 0 = xs[k] := by simp [List.getD, hlt]
        rw [List.take_succ_eq_append_getElem hlt, regF_app, e]; rfl
      have HS := Lib.hid hs
      clear hs hcell
      generalize xs.getD k 0 = x at *
      generalize regF 4294967295 (xs.take k) = r at *
      have hcall := ref_step r x W hcl hx
      rw [← HS.out] at hcall
      have Hcall := Lib.hid hcall
      clear hcall
      go_wp2_with fail
      with_reducible refine Hcall.out.mono ?_
      rintro e w1 ⟨rfl, rfl⟩
      go_wp2_with fail
      go_round
      case rel => exact ⟨k + 1, by omega, rfl, by go_num⟩
      case measure => simp [intOf]; omega
    · obtain rfl : xs.length = k := by omega
      have hnot := u32_not _ hcl
      have H9 := HF.out
      generalize regF 4294967295 (xs.take xs.length) = r at *
      have HR := Lib.hid H9
      clear H9 HF
      go_wp2_with fail
      go_ret
      rw [HR.out]
      exact ⟨rfl, rfl⟩
set_option maxHeartbeats 1000000 in
theorem ref_four (s : Nat) (W : World) (hs : s < 4294967296) :
    Calls Tryz.prog 80 #[.int .u32 (s : Int)] W (GivesB W 5 1 4 (bl (four s))) := by
  obtain ⟨k0, k1, k2, k3⟩ := u8_at s
  have ho : OwnS W (W.alloc (.cells #[.int .u8 ((s % 256 : Nat) : Int), .int .u8 ((s / 256 % 256 : Nat) : Int), .int .u8 ((s / 65536 % 256 : Nat) : Int), .int .u8 ((s / 16777216 % 256 : Nat) : Int)] 5)) 5 1 (.slice (some ⟨W.heap.size, 0, none⟩) 4 4) 4 (bl (four s)) :=
    ⟨own_alloc_lit W _ _ 1 _ 4 (Nat.le_refl _) (by simp [maxLen]) (by simp), (Ch.refl _ W).alloc _⟩
  have Ho := Lib.hid ho
  clear ho
  go_enter Tryz.func80, Tryz.ntmps80
  go_wp2_with fail
  go_ret
  exact GivesB.mk_ Ho.out (by simp [Value.ownBlock])
set_option maxHeartbeats 2000000 in
theorem ref_seal (D : Nat → Prop) (A : Option Addr) (n c : Nat) (xs : List Nat) (W : World) (hr : Rd W D 1 A n (bl xs)) (ok : okB xs) (hl : xs.length = n) (hn : n ≤ 1000000) :
    Calls Tryz.prog 38 #[.slice A n c] W (GivesB W 5 1 (sealF xs).length (bl (sealF xs))) := by
  obtain ⟨i0, hi0, hz0, hz1, hz2⟩ := info_parts Tryz.info5
  have htw := twin_any D A n c xs W hr (by omega)
  have hsum := fun w (nx : Nx W w) => ref_sum D A n c xs w (hr.nx (by decide) nx) ok hl (by omega)
  have hsl := sumF_lt xs
  have hfo := fun w => ref_four (sumF xs) w hsl
  have HE := Lib.hid (show bl (sealF xs) = bl xs ++ bl (four (sumF xs)) by unfold sealF bl; rw [List.map_append])
  have HL := Lib.hid (sealF_length xs)
  have Htw := Lib.hid htw
  have Hsum := Lib.hid hsum
  have Hfo := Lib.hid hfo
  have Hl := Lib.hid hl
  clear htw hsum hfo hl
  generalize sumF xs = s at *
  go_enter Tryz.func38, Tryz.ntmps38
  go_wp2_with fail
  with_reducible refine Htw.out.mono ?_
  rintro e w1 ⟨k1, cap1, rfl, hk1, hk1', o1, r1, n1⟩
  have oX : OwnS W w1 5 1 (.slice (some ⟨k1, 0, none⟩) xs.length cap1) xs.length (bl xs) := ⟨o1, n1⟩
  go_wp2_with fail
  with_reducible refine (Hsum.out _ n1).mono ?_
  rintro e w2 ⟨rfl, rfl⟩
  go_wp2_with fail
  with_reducible refine (Hfo.out _).mono ?_
  rintro e w2 ⟨k2, cap2, rfl, o2, hk2, hk2', hc2, _⟩
  have oX2 := oX.tr o2.nx
  have r2 := o2.rd_
  have hxl : xs.length ≤ 1000000 := by rw [Hl.out]; omega
  clear oX o1 r1 n1 o2 Htw Hsum Hfo
  go_wp2_with (at_builtin; refine wpList_appN rfl (.tmp 4) (.tmp 7) _ rfl 5 i0 _ 1 1 Tryz.underlying27 hi0 hz0 hz1 hz2 rfl (by omega) rfl oX2 _ (some ⟨k2, 0, none⟩) 4 cap2 (bl (four s)) rfl r2 (bl_one _) (by simp only [maxLen]; omega) (by omega) ?_; intro v3 w3 o3 m3)
  go_ret
  rw [HE.out, HL.out]
  exact GivesB.of_pos o3 (by omega)
set_option maxHeartbeats 2000000 in
/-- a number's bytes behind others -/
theorem ref_u (W0 w : World) (v : Value) (X : List Nat) (n : Nat) (o : OwnS W0 w 5 1 v X.length (bl X)) (hX : X.length ≤ 100000000) (hn : n ≤ 9223372036854775807) :
    Calls Tryz.prog 37 #[v, .int .i64 (n : Int)] w (GivesB W0 5 1 (X ++ putU n).length (bl (X ++ putU n))) := by
  obtain ⟨i0, hi0, hz0, hz1, hz2⟩ := info_parts Tryz.info5
  obtain ⟨A, c, rfl, hc, _⟩ := o.form
  have kw : IntKind.u64.wrap (n : Int) = (n : Int) := by rw [IntKind.wrap_u64]; omega
  have Hpu := Lib.hid (ref_putU n w (by omega))
  have hpl := putU_len10 (n := n) (by omega)
  have HE := Lib.hid (show bl (X ++ putU n) = bl X ++ bl (putU n) by simp [bl])
  go_enter Tryz.func37, Tryz.ntmps37
  go_wp2_with fail
  with_reducible refine Hpu.out.mono ?_
  rintro e w2 ⟨k2, cap2, rfl, o2, hk2, hk2', hc2, _⟩
  have oX2 := o.tr o2.nx
  have r2 := o2.rd_
  clear o2 Hpu
  go_wp2_with (at_builtin; refine wpList_appN rfl (.tmp 5) (.tmp 8) _ rfl 5 i0 _ 1 1 Tryz.underlying27 hi0 hz0 hz1 hz2 rfl (by omega) rfl oX2 _ (some ⟨k2, 0, none⟩) (putU n).length cap2 (bl (putU n)) rfl r2 (bl_one _) (by simp only [maxLen]; omega) (by omega) ?_; intro v3 w3 o3 m3)
  go_ret
  rw [HE.out, List.length_append]
  exact GivesB.of_pos o3 (by omega)
end Go.Proofs.YtlokfmalpkahaaaGreat
