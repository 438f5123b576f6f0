/- BitsBack: what was written is read again; a code's bits are its number's, the other way round. Conditions: none. -/
import Derived.Test.YtgbjbhghifildaaPuts
namespace Go.Proofs.Ytgbjbhghifildaa.BitsBack
open Go.RowKit
set_option linter.unusedVariables false

theorem mask64 (V n : Nat) (hV : V < 4294967296) (hn : n ≤ 32) : bits .and .u64 (V : Int) (IntKind.u64.wrap (IntKind.u64.wrap (2 ^ n) - 1)) % 4294967296 = (V : Int) % 2 ^ n := by
  have hp : (2 : Nat) ^ n ≤ 2 ^ 32 := Nat.pow_le_pow_right (by omega) (by omega)
  have hp0 : 0 < (2 : Nat) ^ n := Nat.two_pow_pos n
  have hw : ∀ x : Int, IntKind.u64.wrap x = x % 18446744073709551616 := fun x => by simp [IntKind.wrap, IntKind.bits, IntKind.signed]
  have e1 : ((2 : Int) ^ n) = ((2 ^ n : Nat) : Int) := by simp
  have e2 : IntKind.u64.wrap (IntKind.u64.wrap (2 ^ n) - 1) = ((2 ^ n - 1 : Nat) : Int) := by
    rw [hw, hw, e1]
    generalize 2 ^ n = x at *
    omega
  rw [e2, u64_and_nat _ _ (by omega) (by omega), Nat.and_two_pow_sub_one_eq_mod]
  have h3 : V % 2 ^ n ≤ V := Nat.mod_le _ _
  rw [e1, Int.emod_eq_of_lt (by omega) (by omega)]
  simp
theorem and1 (V k : Nat) (hV : V < 4294967296) : bits .and .u32 ((V : Int) / 2 ^ k) 1 = ((b2n (V.testBit k) : Nat) : Int) := by
  have h1 : ((V : Int) / 2 ^ k) = ((V / 2 ^ k : Nat) : Int) := by simp
  have hd : V / 2 ^ k ≤ V := Nat.div_le_self _ _
  rw [Nat.testBit_eq_decide_div_mod_eq, b2n_dec, h1]
  have := u32_and_nat (V / 2 ^ k) 1 (Nat.lt_of_le_of_lt hd hV) (by omega)
  rw [Nat.and_one_is_mod] at this
  exact this

set_option maxRecDepth 100000 in
set_option maxHeartbeats 8000000 in
theorem walk (A : Option Addr) (n0 c0 : Nat) (l0 : List PutL) (W : World) (hr0 : Rd W (· < W.heap.size) 4 A n0 (pl l0)) (hx0 : l0.length = n0) (ok0 : ∀ p ∈ l0, p.ok) (hn0 : n0 ≤ c0) (hc : c0 ≤ 9223372036854775807) :
    Calls Try.prog 8 #[.slice A n0 c0] W fun e W' => e = .returned (.bool true) ∧ Nx W W' := by
  have wr0 := WrIs.new W
  have hat : WrAt W (W.alloc (.cells #[.slice none 0 0, .int .i64 0] 34)) W.heap.size [] := ⟨none, wr0, by simp, (Ch.refl _ W).alloc _⟩
  have hr2 : 200 < n0 → Rd W (· < W.heap.size) 4 A 200 (pl (l0.take 200)) := fun h => by
    have := hr0.take (k := 200) (by omega)
    rwa [pl_take] at this
  have hx2 : 200 < n0 → (l0.take 200).length = 200 := fun h => by simp; omega
  have ok2 : ∀ p ∈ l0.take 200, p.ok := fun p hp => ok0 p (List.mem_of_mem_take hp)
  clear wr0
  by_cases h200 : 200 < n0
  have hr := hr2 h200
  have hx := hx2 h200
  have ok := ok2
  have hn : 200 ≤ 200 := Nat.le_refl _
  clear hr2 hx2 ok2 hr0 ok0
  generalize l0.take 200 = l at *
  clear hx0
  have hd : decide (200 < (n0 : Int)) = true := by rw [decide_eq_true_iff]; omega
  go_enter Try.func8, Try.ntmps8
  go_wp2_with fail
  rotate_left
  have hr := hr0
  have hx := hx0
  have ok := ok0
  have hn : n0 ≤ 200 := by omega
  clear hr2 hx2 ok2 hr0 hx0 ok0
  rename List PutL => l
  have hd : decide (200 < (n0 : Int)) = false := by rw [decide_eq_false_iff_not]; omega
  go_enter Try.func8, Try.ntmps8
  go_wp2_with fail
  all_goals
    generalize W.alloc (.cells #[.slice none 0 0, .int .i64 0] 34) = w0 at *
    go_loopw [23] (fun i wr => ∃ k : Nat, k ≤ l.length ∧ i = .int .i64 k ∧ WrAt W wr W.heap.size (allBits (l.take k))) (fun i _ => 200 - (intOf i).toNat)
    case atStart => exact ⟨0, by omega, rfl, by simpa [allBits] using hat⟩
    case round =>
      obtain ⟨k, hk, rfl, hat1⟩ := hrel
      by_cases hlt : k < l.length
      · obtain ⟨b, o, p, rfl, hD, hp, p0, p1, p2, p3⟩ := hr.put_ (k := k) hx (by omega)
        obtain ⟨h1, r1, e1, n1⟩ := hat1
        have cc : ∀ j, wr.cell? ⟨b, j, none⟩ = W.cell? ⟨b, j, none⟩ := fun j => n1.cell hD
        rw [← cc] at p0 p1 p2 p3
        clear cc
        have hsucc := allBits_succ hp
        have hb := allBits_take_le l k (by omega)
        have hok := ok p (List.mem_of_getElem? hp)
        obtain ⟨V, N, code, al⟩ := p
        have hV : V < 4294967296 := hok.1
        have r1' := r1.nx ((Ch.refl _ wr).alloc (.cells #[.int .u32 (V : Int), .int .i64 N, .bool code, .bool al] 49))
        have n1' := n1.alloc (.cells #[.int .u32 (V : Int), .int .i64 N, .bool code, .bool al] 49)
        have HS := Lib.hid hsucc
        have Hp := Lib.hid hp
        clear hsucc hp hok r1
        dsimp only at p0 p1 p2 p3
        cases code
        · go_wp2_with fail
          refine (wr_bits_any _ h1 _ V N _ r1' (by omega) hV).mono ?_
          rintro e w1 ⟨rfl, ht⟩
          go_wp2_with fail
          go_roundw
          case rel => exact ⟨k + 1, by omega, by go_num, by rw [HS.out]; exact WrAt.next n1' (Nat.le_refl _) e1 ht⟩
          case measure => simp [intOf]; omega
        · go_wp2_with fail
          refine (wr_code_any _ h1 _ V N _ r1' (by omega) hV).mono ?_
          rintro e w1 ⟨rfl, ht⟩
          go_wp2_with fail
          go_roundw
          case rel => exact ⟨k + 1, by omega, by go_num, by rw [HS.out]; exact WrAt.next n1' (Nat.le_refl _) e1 ht⟩
          case measure => simp [intOf]; omega
      · obtain ⟨h1, r1, e1, n1⟩ := hat1
        rw [List.take_of_length_le (by omega)] at r1
        have hL := allBits_le l
        have hL2 : (allBits l).length ≤ 6400 := by omega
        clear hL
        generalize hLL : allBits l = L at *
        have HLL := Lib.hid hLL
        clear hLL
        go_wp2_with fail
        refine (wr_bytes _ _ L _ r1 (by omega)).mono ?_
        rintro e w1 ⟨k5, p5, rfl, b5, b5', o5, d5, c5⟩
        have hpk := pack_length L
        have hpk2 : (pack L).length ≤ 1000 := by omega
        clear hpk
        go_wp2_with fail
        refine (newReader_any _ _ _ _ (pack L) _ d5 (by omega) (pack_lt L)).mono ?_
        rintro e w2 ⟨g, hh, rfl, q, a1, a2, a3, a4, c6⟩
        have n2 := (n1.tr c5).tr c6
        have s5 := c5.size
        have s1 := n1.size
        clear c6 c5 o5 d5 b5 b5'
        clear hat r1 e1 n1
        go_wp2_with fail
        go_loopw [49] (fun i wr => ∃ k : Nat, k ≤ l.length ∧ i = .int .i64 k ∧ RdrIs wr g hh (pack L) (allBits (l.take k)).length ∧ Nx W wr) (fun i _ => 200 - (intOf i).toNat)
        case atStart => exact ⟨0, by omega, rfl, by simpa [allBits] using q, n2⟩
        case round =>
          obtain ⟨wo, rfl⟩ : ∃ wo : World, wo = wr := ⟨_, rfl⟩
          obtain ⟨k, hk, rfl, q1, n1⟩ := hrel
          by_cases hlt2 : k < l.length
          · obtain ⟨b, o, p, rfl, hD, hp, p0, p1, p2, p3⟩ := hr.put_ (k := k) hx (by omega)
            have cc : ∀ j, wo.cell? ⟨b, j, none⟩ = W.cell? ⟨b, j, none⟩ := fun j => n1.cell hD
            rw [← cc] at p0 p1 p2 p3
            clear cc
            have hsucc := allBits_succ hp
            obtain ⟨ct, hcut⟩ := allBits_cut hp
            rw [HLL.out] at hcut
            have hok := ok p (List.mem_of_getElem? hp)
            have hble := putBits_le p
            obtain ⟨V, N, code, al⟩ := p
            have hV : V < 4294967296 := hok.1
            have n1' := n1.alloc (.cells #[.int .u32 (V : Int), .int .i64 N, .bool code, .bool al] 49)
            have q1' := q1.nx ((Ch.refl _ wo).alloc (.cells #[.int .u32 (V : Int), .int .i64 N, .bool code, .bool al] 49))
            have hln : (allBits (l.take (k + 1))).length = (allBits (l.take k)).length + (putBits ⟨V, N, code, al⟩).length := by rw [hsucc, List.length_append]
            have hlL : (allBits (l.take k)).length + (putBits ⟨V, N, code, al⟩).length ≤ L.length := by rw [hcut]; simp
            have hgd : ∀ i, i < (putBits ⟨V, N, code, al⟩).length → L.getD ((allBits (l.take k)).length + i) false = (putBits ⟨V, N, code, al⟩).getD i false := fun i hi => by
              conv => lhs; rw [hcut]
              exact getD_app _ _ _ _ hi
            have hpk := pack_length L
            have Hln := Lib.hid hln
            have Hgd := Lib.hid hgd
            have Hpk := Lib.hid hpk
            have Hg := Lib.hid q1.lt
            clear hsucc hp hok hcut hln hgd hpk q1 hble
            dsimp only at p0 p1 p2 p3
            generalize hpos : (allBits (l.take k)).length = pos at *
            have Hpos := Lib.hid hpos
            clear hpos
            by_cases hbad : N < 0 ∨ 32 < N ∨ (code = true ∧ 16 < N)
            · have hz : putBits ⟨V, N, code, al⟩ = [] := by
                unfold putBits codeOf bitsOf
                dsimp only
                split
                · rw [if_neg (by rintro ⟨h1, h2⟩; rcases hbad with h | h | ⟨h, h'⟩ <;> omega)]
                · next hc => rw [if_neg (by rintro ⟨h1, h2⟩; rcases hbad with h | h | ⟨h, h'⟩; omega; omega; exact hc h)]
              rw [hz] at Hln hlL
              have HZ := Hln.out
              simp only [List.length_nil, Nat.add_zero] at HZ
              have HZ' := Lib.hid HZ
              clear HZ Hln hz Hgd
              rcases hbad with hb | hb | ⟨rfl, hb⟩
              · go_wp2_with fail
                go_roundw
                case rel => exact ⟨k + 1, by omega, by go_num, by rw [HZ'.out]; exact q1', n1'⟩
                case measure => simp [intOf]; omega
              · have hb' : ¬ N < 0 := by omega
                go_wp2_with fail
                go_roundw
                case rel => exact ⟨k + 1, by omega, by go_num, by rw [HZ'.out]; exact q1', n1'⟩
                case measure => simp [intOf]; omega
              · have hb' : ¬ N < 0 := by omega
                by_cases hb2 : 32 < N
                all_goals
                  go_wp2_with fail
                  go_roundw
                  case rel => exact ⟨k + 1, by omega, by go_num, by rw [HZ'.out]; exact q1', n1'⟩
                  case measure => simp [intOf]; omega
            · obtain ⟨n, rfl⟩ := Int.eq_ofNat_of_zero_le (show 0 ≤ N by omega)
              have hb1 : ¬ ((n : Int) < 0) := by omega
              have hb2 : ¬ (32 < (n : Int)) := by omega
              cases code
              · have hpb : putBits ⟨V, n, false, al⟩ = numBits V n := by simp [putBits, bitsOf]; omega
                rw [hpb, numBits_length] at hlL
                have hv2 : bval (pack L) pos n = V % 2 ^ n := bval_pack L pos n V fun i hi => by
                  rw [Hgd.out i (by rw [hpb, numBits_length]; exact hi), hpb, numBits_getD _ _ _ hi]
                have hp8 : pos + n ≤ 8 * (pack L).length := by have := Hpk.out; omega
                have hgl := q1'.lt
                have hgl2 : g ≠ wo.heap.size := by have := Hg.out; omega
                have hb3 : ((n : Int) < 64) := by omega
                go_wp2_with fail
                refine (rdr_bits g hh (pack L) pos n _ q1' (by omega) hp8).mono ?_
                rintro e w3 ⟨rfl, q3, c3⟩
                rw [hv2]
                have bx := (Blk.new wo 49 #[.int .u32 (V : Int), .int .i64 (n : Int), .bool false, .bool al]).ch c3 (Ne.symm hgl2)
                have x0 : w3.cell? ⟨wo.heap.size, 0, none⟩ = some (.int .u32 (V : Int)) := bx.cell 0
                have x1 : w3.cell? ⟨wo.heap.size, 1, none⟩ = some (.int .i64 (n : Int)) := bx.cell 1
                clear bx hv2
                have hmask := mask64 V n hV (by omega)
                go_wp2_with fail
                go_quiet (fail)
                go_wp2_with fail
                clear hmask
                go_roundw
                case rel => exact ⟨k + 1, by omega, by go_num, by rw [Hln.out, hpb, numBits_length]; exact q3.nx (Dr.mk_ _ _).nx, (n1'.trans c3 (by intro i hi e; omega)).drewN _⟩
                case measure => simp [intOf]; omega
              · have hb4 : ¬ (16 < (n : Int)) := fun h => hbad (.inr (.inr ⟨rfl, h⟩))
                have hpb : putBits ⟨V, n, true, al⟩ = codeBits V n := by simp [putBits, codeOf]; omega
                rw [hpb, codeBits_length] at hlL
                have hv2 : ∀ j, j < n → bitAt (pack L) (pos + j) = b2n (V.testBit (n - 1 - j)) := fun j hj => by
                  rw [bitAt_pack, Hgd.out j (by rw [hpb, codeBits_length]; exact hj), hpb, codeBits_getD _ _ _ hj]
                have hp8 : pos + n ≤ 8 * (pack L).length := by have := Hpk.out; omega
                have hgl2 : g ≠ wo.heap.size := by have := Hg.out; omega
                have bx := Blk.new wo 49 #[.int .u32 (V : Int), .int .i64 (n : Int), .bool true, .bool al]
                have Hv2 := Lib.hid hv2
                clear hv2
                go_wp2_with fail
                go_loopw [9] (fun i wr => ∃ j : Nat, j ≤ n ∧ i = .int .i64 ((n : Int) - 1 - j) ∧ RdrIs wr g hh (pack L) (pos + j) ∧ Nx W wr ∧ Blk wr wo.heap.size 49 #[.int .u32 (V : Int), .int .i64 (n : Int), .bool true, .bool al]) (fun i _ => (intOf i + 1).toNat)
                case atStart => exact ⟨0, by omega, by simp, q1', n1', bx⟩
                case round =>
                  obtain ⟨j, hj, rfl, q3, n3, b3⟩ := hrel
                  by_cases hjn : j < n
                  · have hj0 : (0 : Int) ≤ (n : Int) - 1 - (j : Int) := by omega
                    go_wp2_with fail
                    refine (rdr_bit1 g hh (pack L) (pos + j) _ q3 (by omega)).mono ?_
                    rintro e w4 ⟨rfl, q4, c4⟩
                    rw [Hv2.out j hjn]
                    have b4 := b3.ch c4 (Ne.symm hgl2)
                    have x0 : w4.cell? ⟨wo.heap.size, 0, none⟩ = some (.int .u32 (V : Int)) := b4.cell 0
                    have ha1 := and1 V (n - 1 - j) hV
                    go_wp2_with fail
                    clear ha1
                    go_roundw
                    case rel => exact ⟨j + 1, by omega, by go_num, q4, n3.trans c4 (by intro i hi e; omega), b4⟩
                    case measure => simp [intOf]; omega
                  · obtain rfl : j = n := by omega
                    have hj1 : (j : Int) - 1 - (j : Int) < 0 := by omega
                    go_wp2_with fail
                    go_roundw
                    case rel => exact ⟨k + 1, by omega, by go_num, by rw [Hln.out, hpb, codeBits_length]; exact q3, n3⟩
                    case measure => simp [intOf]; omega
          · rw [List.take_of_length_le (by omega), HLL.out] at q1
            have hpk := pack_length L
            have hpl8 : (0 : Int) ≤ 8 * ((pack L).length : Int) - (L.length : Int) := by omega
            have hpl9 : 8 * ((pack L).length : Int) - (L.length : Int) < 8 := by omega
            clear hpk
            go_wp2_with fail
            refine (rdr_left g hh (pack L) _ _ q1).mono ?_
            rintro e w3 ⟨rfl, nq, rfl⟩
            have rd5 : Rd ((wo.drewN nq).alloc (.cells #[.int .u8 5] 5)) (· = wo.heap.size) 1 (some ⟨wo.heap.size, 0, none⟩) 1 (bl [5]) :=
              ⟨rfl, fun _ => ⟨_, rfl, rfl, cell_one_new (wo.drewN nq) _ _⟩⟩
            go_wp2_with fail
            refine (newReader_any _ _ _ _ [5] _ rd5 (by omega) (by intro x hx; simp at hx; omega)).mono ?_
            rintro e w4 ⟨g4, h4, rfl, q4, _, _, _, _, c4⟩
            go_wp2_with fail
            refine (rdr_left g4 h4 [5] 0 _ q4).mono ?_
            rintro e w5 ⟨rfl, nq5, rfl⟩
            go_wp2_with fail
            go_ret
            exact ⟨by simp, ((((n1.drewN nq).alloc _).tr c4).drewN _)⟩

theorem walks : Walks 8 Try.f8 := by
  intro H enc W args ds ps h
  rw [Try.params8] at h
  obtain ⟨A, n, c, l, vs, ds1, q, rfl, hl, hr, ok, hn, hc, h1⟩ := h.puts
  have e3 := h1.nil
  simp at e3
  subst e3
  exact walk A n c l W hr hl ok hn hc

/-- whatever the input, the law answers true -/
theorem proved : Rows.BitsBackSaid :=
  OpenClaim.holds_of_wide 8 Try.f8 rfl rfl rfl rfl rfl rfl rfl ⟨rfl, rfl, rfl, rfl, rfl⟩ rfl rfl rfl rfl rfl (by kernel_rfl) Try.func8 (by kernel_rfl)
    (of_decide_eq_true (by kernel_rfl)) (by unfold Func.isWrapper; first | (rw [if_pos (by decide +kernel)]; kernel_rfl) | (rw [if_neg (by decide +kernel)]; exact ⟨rfl, rfl⟩))
    (fun os started H enc _ => law_lifted (s := Rows.bitsBackSpec) Try.func8 (by kernel_rfl) rfl rfl
      (by intro H ds h; rw [Try.params8] at h; match ds, h with | [d1], _ => rfl)
      (by rw [Try.params8]; intro t ht; simp at ht; subst ht; exact ⟨by kernel_rfl, of_decide_eq_true (by kernel_rfl)⟩) walks os started H enc
      (ChangeSpec.witness6 (enc := enc) (C := Try.checked) false ⟨#[], #[.slice none 0 0], []⟩ 8 (by kernel_rfl) (by kernel_rfl) (by kernel_rfl) (by kernel_rfl)))
end Go.Proofs.Ytgbjbhghifildaa.BitsBack
