/- squeeze's Deflate where the tokens are fewer bytes than the stored form, whatever that is; stored of 65536 bytes; longer ones are refused. Conditions: those. · squeeze.Deflate of up to 65536 bytes: what chunk wants of it. Conditions: at most 65536 bytes. -/
import Derived.Test.YtlokfmalpkahaaaGreatKrSqS
namespace Go.Proofs.YtlokfmalpkahaaaGreat
set_option maxRecDepth 100000
open Go.RowKit
set_option linter.unusedVariables false
set_option maxHeartbeats 400000 in
theorem sq_tokens_long (A : Option Addr) (n c : Nat) (W : World) (hn : 65536 < n) :
    Calls Tryz.prog 107 #[.slice A n c] W fun e w' => e = .returned (.tuple #[.slice none 0 0, .int .i64 5]) ∧ Nx W w' := by
  have hn2 : (65536 : Int) < (n : Int) := by omega
  go_enter Tryz.func107, Tryz.ntmps107
  go_wp2_with fail
  go_ret2
  exact ⟨rfl, (Ch.refl _ W).alloc _⟩
set_option maxHeartbeats 400000 in
theorem sq_deflate_long (A : Option Addr) (n c : Nat) (W : World) (hn : 65536 < n) :
    Calls Tryz.prog 75 #[.slice A n c] W fun e w' => e = .returned (.tuple #[.slice none 0 0, .int .i64 5]) ∧ Nx W w' := by
  go_enter Tryz.func75, Tryz.ntmps75
  go_wp2_with fail
  refine (sq_tokens_long A n c W hn).mono ?_
  rintro e w1 ⟨rfl, n1⟩
  go_wp2_with fail
  go_ret2
  exact ⟨rfl, n1⟩
set_option maxRecDepth 100000 in
set_option maxHeartbeats 4000000 in
theorem sq_deflate_few (D : Nat → Prop) (A : Option Addr) (c : Nat) (xs : List Nat) (W : World) (hr : Rd W D 1 A xs.length (bl xs)) (ok : okB xs) (hl : xs.length ≤ 65536) (m : Nat) (hfew : (pack (deflBits (tokensF xs xs.length 0))).length < m)
    (hS : ∀ w : World, Rd w D 1 A xs.length (bl xs) → Calls Tryz.prog 110 #[.slice A xs.length c] w fun e w' => ∃ A' c', e = .returned (.slice A' m c') ∧ Nx w w') :
    Calls Tryz.prog 75 #[.slice A xs.length c] W fun e w' => ∃ A' c', e = .returned (.tuple #[.slice A' (pack (deflBits (tokensF xs xs.length 0))).length c', .int .i64 0]) ∧ (∃ D', Rd w' D' 1 A' (pack (deflBits (tokensF xs xs.length 0))).length (bl (pack (deflBits (tokensF xs xs.length 0))))) ∧ Nx W w' := by
  have HS := Lib.hid hS
  clear hS
  have htl := tokensF_len (b := xs) xs.length 0
  have htok := tokensF_ok ok xs.length 0
  obtain ⟨l, hlt0⟩ : ∃ l, tokensF xs xs.length 0 = l := ⟨_, rfl⟩
  rw [hlt0] at hfew htl htok ⊢
  have HL0 := Lib.hid hlt0
  clear hlt0
  go_enter Tryz.func75, Tryz.ntmps75
  go_wp2_with fail
  refine (sq_tokens D A c xs W hr ok (by omega)).mono ?_
  rintro e w1 ⟨v, rfl, ho, n1⟩
  have hr1 := hr.nx (by decide) n1
  rw [HL0.out] at ho
  obtain ⟨nt, hnt⟩ : ∃ nt, l.length = nt := ⟨_, rfl⟩
  rw [hnt] at ho htl
  obtain ⟨A1, c1, rfl, _, _⟩ := own_form ho
  have Hnt := Lib.hid hnt
  have Ho := Lib.hid ho
  have Htok := Lib.hid htok
  have hnew := WrIs.new w1
  have nw : Nx w1 (w1.alloc (.cells #[.slice none 0 0, .int .i64 0] 69)) := (Ch.refl _ w1).alloc _
  obtain ⟨g, hg⟩ : ∃ g, w1.heap.size = g := ⟨_, rfl⟩
  have hg1 : w1.heap.size ≤ g := by omega
  rw [hg] at hnew
  clear hnt ho htok
  go_wp2_with fail
  refine (wr_bits g none [] 3 3 _ hnew (by simp) (by omega) (by omega)).mono ?_
  rintro e w2 ⟨rfl, t2⟩
  have h2 := WrAt3.next nw hg1 (by intro j hj; cases hj) t2
  clear t2 hnew nw
  go_wp2_with fail
  go_loopw [25] (fun i wr => ∃ k : Nat, k ≤ nt ∧ i = .int .i64 (k : Int) ∧ WrAt3 w1 wr g (deflHead (l.take k))) (fun i _ => nt - (intOf i).toNat)
  case atStart => exact ⟨0, Nat.zero_le _, rfl, by simpa [deflHead] using h2⟩
  case round =>
    clear h2
    obtain ⟨w3, rfl⟩ : ∃ w3 : World, w3 = wr := ⟨_, rfl⟩
    obtain ⟨k, hk, rfl, h3, rw3, hh3, nx3⟩ := hrel
    have hl3 : (deflHead (l.take k)).length ≤ 10000000 := by
      have h1 := deflHead_le (l.take k)
      have h2 : (l.take k).length ≤ k := by simp; omega
      omega
    by_cases hlt : k < nt
    · have hkl : k < l.length := by rw [Hnt.out]; exact hlt
      obtain ⟨g1, cap, hv, _, _⟩ := Ho.out.form (by omega)
      injection hv with hA hlq hcc
      clear hlq
      subst hA
      subst hcc
      obtain ⟨q, hq⟩ : ∃ q, 3 * k = q := ⟨_, rfl⟩
      obtain ⟨a0, a1, a2⟩ := tok_cells (own_ch Ho.out nx3 (fun _ _ hf => hf)) hkl hq
      have hq' : k * 3 = q := by omega
      have hlt2 : (k : Int) < (nt : Int) := by omega
      have hk0 : (0 : Int) ≤ (k : Int) := by omega
      have Hsucc := Lib.hid (deflHead_succ hkl)
      have htk := Htok.out _ (List.getElem_mem hkl)
      clear hq
      generalize l[k] = tk at *
      obtain ⟨tb, htb⟩ : ∃ tb, w3.heap.size = tb := ⟨_, rfl⟩
      obtain ⟨w4, hw4⟩ : ∃ w4, w3.alloc (.cells #[.int .i64 (tk.len : Int), .int .i64 (tk.dist : Int), .int .u8 (tk.byte : Int)] 129) = w4 := ⟨_, rfl⟩
      have n4 : Nx w3 (w3.alloc (.cells #[.int .i64 (tk.len : Int), .int .i64 (tk.dist : Int), .int .u8 (tk.byte : Int)] 129)) := (Ch.refl _ w3).alloc _
      have hB4 := Blk.new w3 129 #[.int .i64 (tk.len : Int), .int .i64 (tk.dist : Int), .int .u8 (tk.byte : Int)]
      rw [hw4] at n4 hB4
      rw [htb] at hB4
      have HW := Lib.hid hw4
      have HT := Lib.hid htb
      have rw4 := rw3.ch n4 (fun hf => hf) (fun _ _ hf => hf)
      have nx4 := nx3.tr n4
      clear htb hw4 rw3
      go_upto_region 9 with fail
      try simp only [HT.out, HW.out]
      clear HT HW a0 a1 a2 n4 nx3
      have d0 : w4.cell? ⟨tb, 0, none⟩ = some (.int .i64 (tk.len : Int)) := hB4.cell 0
      have d1 : w4.cell? ⟨tb, 1, none⟩ = some (.int .i64 (tk.dist : Int)) := hB4.cell 1
      have d2 : w4.cell? ⟨tb, 2, none⟩ = some (.int .u8 (tk.byte : Int)) := hB4.cell 2
      by_cases hz : tk.len = 0
      · have hb : tokBits tk = letBits tk.byte := by unfold tokBits; rw [if_pos hz]
        have Hb := Lib.hid hb
        have hby : tk.byte < 256 := by rcases htk with h | h; exact h.2; omega
        have hzq : ((tk.len : Int) == 0) = true := by rw [beq_iff_eq]; omega
        clear hb htk hz
        go_wp2_with fail
        refine (sq_letter g h3 _ tk.byte w4 rw4 (by omega) (by omega)).mono ?_
        rintro e w5 ⟨rfl, t5⟩
        have h5 := WrAt3.next nx4 hg1 hh3 t5
        go_wp2_with fail
        go_roundw
        case rel => exact ⟨k + 1, by omega, by go_num, by rw [Hsucc.out, Hb.out]; exact h5⟩
        case measure => simp [intOf]; omega
      · have hb : tokBits tk = lenBits tk.len ++ distBits (tk.dist - 1) := by unfold tokBits; rw [if_neg hz]
        have Hb := Lib.hid hb
        have hok : 3 ≤ tk.len ∧ tk.len ≤ 258 ∧ 1 ≤ tk.dist ∧ tk.dist ≤ 32768 := by rcases htk with h | h; exact absurd h.1 hz; exact h
        have hzq : ((tk.len : Int) == 0) = false := by rw [beq_eq_false_iff_ne]; omega
        clear hb htk hz
        go_wp2_with fail
        refine (sq_stretch g h3 _ tk.len tk.dist w4 rw4 (by omega) hok.1 hok.2.1 hok.2.2.1 hok.2.2.2).mono ?_
        rintro e w5 ⟨rfl, t5⟩
        have h5 := WrAt3.next nx4 hg1 hh3 t5
        go_wp2_with fail
        go_roundw
        case rel => exact ⟨k + 1, by omega, by go_num, by rw [Hsucc.out, Hb.out]; exact h5⟩
        case measure => simp [intOf]; omega
    · have hkn : k = nt := by omega
      have htake : l.take k = l := List.take_of_length_le (by rw [Hnt.out]; omega)
      rw [htake] at rw3 hl3
      have hlt2 : ¬ ((k : Int) < (nt : Int)) := by omega
      clear htake
      go_wp2_with fail
      refine (sq_letter g h3 _ 256 w3 rw3 (by omega) (by omega)).mono ?_
      rintro e w4 ⟨rfl, t4⟩
      obtain ⟨h4, rw4, hh4, nx4⟩ := WrAt3.next nx3 hg1 hh3 t4
      rw [show deflHead l ++ letBits 256 = deflBits l from rfl] at rw4
      have hl4 : (deflBits l).length ≤ 20000000 := by unfold deflBits; rw [List.length_append]; have := letBits_le 256; omega
      clear t4 rw3
      go_wp2_with fail
      refine (wr_bytes g h4 _ w4 rw4 (by omega)).mono ?_
      rintro e w5 ⟨k5, cap5, rfl, hk5, hk5', ho5, hrd5, nx5⟩
      have hr5 := (hr1.nx (by decide) nx4).nx (by decide) nx5
      go_wp2_with fail
      refine (HS.out w5 hr5).mono ?_
      rintro e w6 ⟨A6, c6, rfl, nx6⟩
      have hall := n1.tr ((nx4.tr nx5).tr nx6)
      have hrd6 := hrd5.nx (by decide) nx6
      clear ho5 hrd5
      obtain ⟨pf, hpf⟩ : ∃ pf, pack (deflBits l) = pf := ⟨_, rfl⟩
      rw [hpf] at hrd6 hfew ⊢
      have HPF := Lib.hid hpf
      clear hpf
      have hlt4 : (pf.length : Int) < (m : Int) := by omega
      go_wp2_with fail
      go_ret2
      rw [HPF.out]
      exact ⟨_, _, rfl, ⟨_, hrd6⟩, hall⟩
set_option maxRecDepth 100000 in
set_option maxHeartbeats 4000000 in
theorem sq_stored_big (D : Nat → Prop) (A : Option Addr) (c : Nat) (xs : List Nat) (W : World) (hr : Rd W D 1 A 65536 (bl xs)) (hc : 65536 ≤ c) :
    Calls Tryz.prog 110 #[.slice A 65536 c] W fun e w' => ∃ A' c', e = .returned (.slice A' 65546 c') ∧ Nx W w' := by
  obtain ⟨i0, hi0, hz0, hz1, hz2⟩ := info_parts Tryz.info5
  obtain ⟨ad, hA, hDa, _⟩ := hr.2 (by omega)
  subst hA
  have hlx : xs.length = 65536 := by have := hr.1; rw [bl_length] at this; omega
  have hr1 : Rd W D 1 (some ad) 65535 (bl (xs.take 65535)) := by
    have := hr.take (k := 65535) (by omega)
    rw [Nat.mul_one] at this
    rw [show bl (xs.take 65535) = (bl xs).take 65535 by simp [bl, List.map_take]]
    exact this
  have hr2 : Rd W D 1 (some (ad.add 65535)) 1 (bl (xs.drop 65535)) := by
    have h0 := hr.cut (k := 65535) (cap := c) (by omega) (by omega)
    rw [if_neg (by omega), Nat.mul_one] at h0
    rw [show bl (xs.drop 65535) = (bl xs).drop 65535 by simp [bl, List.map_drop]]
    exact h0
  have T0 := OwnS.nil W (W.alloc (.cells #[.int .u8 0, .int .u8 255, .int .u8 255, .int .u8 0, .int .u8 0] 5)) 5 1 ((Ch.refl _ W).alloc _)
  have hrd5 : Rd (W.alloc (.cells #[.int .u8 0, .int .u8 255, .int .u8 255, .int .u8 0, .int .u8 0] 5)) (fun k => k = W.heap.size) 1 (some ⟨W.heap.size, 0, none⟩) 5 (bl [0, 255, 255, 0, 0]) :=
    ⟨rfl, fun _ => ⟨_, rfl, rfl, World.news_of_block (Blk.new W 5 #[.int .u8 0, .int .u8 255, .int .u8 255, .int .u8 0, .int .u8 0])⟩⟩
  have HR5 := Lib.hid hrd5
  have HR1 := Lib.hid hr1
  have HR2 := Lib.hid hr2
  have hc1 : (65535 : Int) ≤ (c : Int) := by omega
  have hc2 : (65536 : Int) ≤ (c : Int) := by omega
  have hc3 : ¬ c = 65535 := by omega
  clear hrd5 hr hr1 hr2
  go_enter Tryz.func110, Tryz.ntmps110
  go_wp2_with fail
  refine wp_loop_rounds 2 ?_
  rw [rounds_succ]
  go_wp2_with (at_builtin; first
    | (refine wpList_appN rfl (.tmp 13) (.tmp 27) _ rfl 5 i0 _ 1 1 Tryz.underlying27 hi0 hz0 hz1 hz2 rfl (by omega) rfl T0 _ (some ⟨W.heap.size, 0, none⟩) 5 5 (bl [0, 255, 255, 0, 0]) rfl HR5.out (bl_one _) (by simp [maxLen]) (by omega) ?_; intro v3 w3 o3 m3)
    | (refine wpList_appN rfl (.tmp 29) (.tmp 32) _ rfl 5 i0 _ 1 1 Tryz.underlying27 hi0 hz0 hz1 hz2 rfl (by omega) rfl o3 _ (some ad) 65535 c (bl (xs.take 65535)) rfl (HR1.out.nx (by decide) o3.nx) (bl_one _) (by simp [maxLen]) (by omega) ?_; intro v4 w4 o4 m4))
  have T1 := o4.alloc (.cells #[.int .u8 1, .int .u8 1, .int .u8 0, .int .u8 254, .int .u8 255] 5)
  have hrd5 : Rd (w4.alloc (.cells #[.int .u8 1, .int .u8 1, .int .u8 0, .int .u8 254, .int .u8 255] 5)) (fun k => k = w4.heap.size) 1 (some ⟨w4.heap.size, 0, none⟩) 5 (bl [1, 1, 0, 254, 255]) :=
    ⟨rfl, fun _ => ⟨_, rfl, rfl, World.news_of_block (Blk.new w4 5 #[.int .u8 1, .int .u8 1, .int .u8 0, .int .u8 254, .int .u8 255])⟩⟩
  have HR6 := Lib.hid hrd5
  obtain ⟨c2, hcc⟩ : ∃ c2, c - 65535 = c2 := ⟨_, rfl⟩
  have hc4 : (1 : Int) ≤ (c2 : Int) := by omega
  simp only [hcc]
  obtain ⟨n4, hn4⟩ : ∃ n4, 0 + 5 + 65535 = n4 := ⟨_, rfl⟩
  have hn5 : n4 + 5 + 1 = 65546 := by omega
  have Hn5 := Lib.hid hn5
  have hn6 : n4 ≤ 100000 := by omega
  rw [hn4] at T1
  clear hrd5 hcc hc hc1 hc2 hc3 hlx HR1 HR5 T0 o3 m3 o4 m4 hn4 hn5
  rw [rounds_succ]
  go_wp2_with (at_builtin; first
    | (refine wpList_appN rfl (.tmp 13) (.tmp 27) _ rfl 5 i0 _ 1 1 Tryz.underlying27 hi0 hz0 hz1 hz2 rfl (by omega) rfl T1 _ (some ⟨w4.heap.size, 0, none⟩) 5 5 (bl [1, 1, 0, 254, 255]) rfl HR6.out (bl_one _) (by simp only [maxLen]; omega) (by omega) ?_; intro v5 w5 o5 m5)
    | (refine wpList_appN rfl (.tmp 29) (.tmp 32) _ rfl 5 i0 _ 1 1 Tryz.underlying27 hi0 hz0 hz1 hz2 rfl (by omega) rfl o5 _ (some (ad.add 65535)) 1 c2 (bl (xs.drop 65535)) rfl (HR2.out.nx (by decide) o5.nx) (bl_one _) (by simp only [maxLen]; omega) (by omega) ?_; intro v6 w6 o6 m6; rw [Hn5.out] at o6; obtain ⟨A6, c6, rfl, _, _⟩ := o6.form))
  all_goals go_ret
  all_goals first | exact o6.nx | exact ⟨⟨_, _, rfl⟩, o6.nx⟩ | exact ⟨_, _, rfl, o6.nx⟩
end Go.Proofs.YtlokfmalpkahaaaGreat
namespace Go.Proofs.YtlokfmalpkahaaaGreat
set_option maxRecDepth 100000
open Go.RowKit
set_option linter.unusedVariables false
set_option maxRecDepth 100000 in
set_option maxHeartbeats 4000000 in
theorem sq_deflate_many (D : Nat → Prop) (A : Option Addr) (c : Nat) (xs : List Nat) (W : World) (hr : Rd W D 1 A xs.length (bl xs)) (ok : okB xs) (hl : xs.length ≤ 65536) (m : Nat) (hfew : ¬ (pack (deflBits (tokensF xs xs.length 0))).length < m)
    (hS : ∀ w : World, Rd w D 1 A xs.length (bl xs) → Calls Tryz.prog 110 #[.slice A xs.length c] w fun e w' => ∃ A' c', e = .returned (.slice A' m c') ∧ Nx w w') :
    Calls Tryz.prog 75 #[.slice A xs.length c] W fun e w' => ∃ A' c', e = .returned (.tuple #[.slice A' m c', .int .i64 0]) ∧ Nx W w' := by
  have HS := Lib.hid hS
  clear hS
  have htl := tokensF_len (b := xs) xs.length 0
  have htok := tokensF_ok ok xs.length 0
  obtain ⟨l, hlt0⟩ : ∃ l, tokensF xs xs.length 0 = l := ⟨_, rfl⟩
  rw [hlt0] at hfew htl htok
  have HL0 := Lib.hid hlt0
  clear hlt0
  go_enter Tryz.func75, Tryz.ntmps75
  go_wp2_with fail
  refine (sq_tokens D A c xs W hr ok (by omega)).mono ?_
  rintro e w1 ⟨v, rfl, ho, n1⟩
  have hr1 := hr.nx (by decide) n1
  rw [HL0.out] at ho
  obtain ⟨nt, hnt⟩ : ∃ nt, l.length = nt := ⟨_, rfl⟩
  rw [hnt] at ho htl
  obtain ⟨A1, c1, rfl, _, _⟩ := own_form ho
  have Hnt := Lib.hid hnt
  have Ho := Lib.hid ho
  have Htok := Lib.hid htok
  have hnew := WrIs.new w1
  have nw : Nx w1 (w1.alloc (.cells #[.slice none 0 0, .int .i64 0] 69)) := (Ch.refl _ w1).alloc _
  obtain ⟨g, hg⟩ : ∃ g, w1.heap.size = g := ⟨_, rfl⟩
  have hg1 : w1.heap.size ≤ g := by omega
  rw [hg] at hnew
  clear hnt ho htok
  go_wp2_with fail
  refine (wr_bits g none [] 3 3 _ hnew (by simp) (by omega) (by omega)).mono ?_
  rintro e w2 ⟨rfl, t2⟩
  have h2 := WrAt3.next nw hg1 (by intro j hj; cases hj) t2
  clear t2 hnew nw
  go_wp2_with fail
  go_loopw [25] (fun i wr => ∃ k : Nat, k ≤ nt ∧ i = .int .i64 (k : Int) ∧ WrAt3 w1 wr g (deflHead (l.take k))) (fun i _ => nt - (intOf i).toNat)
  case atStart => exact ⟨0, Nat.zero_le _, rfl, by simpa [deflHead] using h2⟩
  case round =>
    clear h2
    obtain ⟨w3, rfl⟩ : ∃ w3 : World, w3 = wr := ⟨_, rfl⟩
    obtain ⟨k, hk, rfl, h3, rw3, hh3, nx3⟩ := hrel
    have hl3 : (deflHead (l.take k)).length ≤ 10000000 := by
      have h1 := deflHead_le (l.take k)
      have h2 : (l.take k).length ≤ k := by simp; omega
      omega
    by_cases hlt : k < nt
    · have hkl : k < l.length := by rw [Hnt.out]; exact hlt
      obtain ⟨g1, cap, hv, _, _⟩ := Ho.out.form (by omega)
      injection hv with hA hlq hcc
      clear hlq
      subst hA
      subst hcc
      obtain ⟨q, hq⟩ : ∃ q, 3 * k = q := ⟨_, rfl⟩
      obtain ⟨a0, a1, a2⟩ := tok_cells (own_ch Ho.out nx3 (fun _ _ hf => hf)) hkl hq
      have hq' : k * 3 = q := by omega
      have hlt2 : (k : Int) < (nt : Int) := by omega
      have hk0 : (0 : Int) ≤ (k : Int) := by omega
      have Hsucc := Lib.hid (deflHead_succ hkl)
      have htk := Htok.out _ (List.getElem_mem hkl)
      clear hq
      generalize l[k] = tk at *
      obtain ⟨tb, htb⟩ : ∃ tb, w3.heap.size = tb := ⟨_, rfl⟩
      obtain ⟨w4, hw4⟩ : ∃ w4, w3.alloc (.cells #[.int .i64 (tk.len : Int), .int .i64 (tk.dist : Int), .int .u8 (tk.byte : Int)] 129) = w4 := ⟨_, rfl⟩
      have n4 : Nx w3 (w3.alloc (.cells #[.int .i64 (tk.len : Int), .int .i64 (tk.dist : Int), .int .u8 (tk.byte : Int)] 129)) := (Ch.refl _ w3).alloc _
      have hB4 := Blk.new w3 129 #[.int .i64 (tk.len : Int), .int .i64 (tk.dist : Int), .int .u8 (tk.byte : Int)]
      rw [hw4] at n4 hB4
      rw [htb] at hB4
      have HW := Lib.hid hw4
      have HT := Lib.hid htb
      have rw4 := rw3.ch n4 (fun hf => hf) (fun _ _ hf => hf)
      have nx4 := nx3.tr n4
      clear htb hw4 rw3
      go_upto_region 9 with fail
      try simp only [HT.out, HW.out]
      clear HT HW a0 a1 a2 n4 nx3
      have d0 : w4.cell? ⟨tb, 0, none⟩ = some (.int .i64 (tk.len : Int)) := hB4.cell 0
      have d1 : w4.cell? ⟨tb, 1, none⟩ = some (.int .i64 (tk.dist : Int)) := hB4.cell 1
      have d2 : w4.cell? ⟨tb, 2, none⟩ = some (.int .u8 (tk.byte : Int)) := hB4.cell 2
      by_cases hz : tk.len = 0
      · have hb : tokBits tk = letBits tk.byte := by unfold tokBits; rw [if_pos hz]
        have Hb := Lib.hid hb
        have hby : tk.byte < 256 := by rcases htk with h | h; exact h.2; omega
        have hzq : ((tk.len : Int) == 0) = true := by rw [beq_iff_eq]; omega
        clear hb htk hz
        go_wp2_with fail
        refine (sq_letter g h3 _ tk.byte w4 rw4 (by omega) (by omega)).mono ?_
        rintro e w5 ⟨rfl, t5⟩
        have h5 := WrAt3.next nx4 hg1 hh3 t5
        go_wp2_with fail
        go_roundw
        case rel => exact ⟨k + 1, by omega, by go_num, by rw [Hsucc.out, Hb.out]; exact h5⟩
        case measure => simp [intOf]; omega
      · have hb : tokBits tk = lenBits tk.len ++ distBits (tk.dist - 1) := by unfold tokBits; rw [if_neg hz]
        have Hb := Lib.hid hb
        have hok : 3 ≤ tk.len ∧ tk.len ≤ 258 ∧ 1 ≤ tk.dist ∧ tk.dist ≤ 32768 := by rcases htk with h | h; exact absurd h.1 hz; exact h
        have hzq : ((tk.len : Int) == 0) = false := by rw [beq_eq_false_iff_ne]; omega
        clear hb htk hz
        go_wp2_with fail
        refine (sq_stretch g h3 _ tk.len tk.dist w4 rw4 (by omega) hok.1 hok.2.1 hok.2.2.1 hok.2.2.2).mono ?_
        rintro e w5 ⟨rfl, t5⟩
        have h5 := WrAt3.next nx4 hg1 hh3 t5
        go_wp2_with fail
        go_roundw
        case rel => exact ⟨k + 1, by omega, by go_num, by rw [Hsucc.out, Hb.out]; exact h5⟩
        case measure => simp [intOf]; omega
    · have hkn : k = nt := by omega
      have htake : l.take k = l := List.take_of_length_le (by rw [Hnt.out]; omega)
      rw [htake] at rw3 hl3
      have hlt2 : ¬ ((k : Int) < (nt : Int)) := by omega
      clear htake
      go_wp2_with fail
      refine (sq_letter g h3 _ 256 w3 rw3 (by omega) (by omega)).mono ?_
      rintro e w4 ⟨rfl, t4⟩
      obtain ⟨h4, rw4, hh4, nx4⟩ := WrAt3.next nx3 hg1 hh3 t4
      rw [show deflHead l ++ letBits 256 = deflBits l from rfl] at rw4
      have hl4 : (deflBits l).length ≤ 20000000 := by unfold deflBits; rw [List.length_append]; have := letBits_le 256; omega
      clear t4 rw3
      go_wp2_with fail
      refine (wr_bytes g h4 _ w4 rw4 (by omega)).mono ?_
      rintro e w5 ⟨k5, cap5, rfl, hk5, hk5', ho5, hrd5, nx5⟩
      have hr5 := (hr1.nx (by decide) nx4).nx (by decide) nx5
      go_wp2_with fail
      refine (HS.out w5 hr5).mono ?_
      rintro e w6 ⟨A6, c6, rfl, nx6⟩
      have hall := n1.tr ((nx4.tr nx5).tr nx6)
      have hrd6 := hrd5.nx (by decide) nx6
      clear ho5 hrd5
      obtain ⟨pf, hpf⟩ : ∃ pf, pack (deflBits l) = pf := ⟨_, rfl⟩
      rw [hpf] at hrd6 hfew ⊢
      have HPF := Lib.hid hpf
      clear hpf
      have hlt4 : ¬ ((pf.length : Int) < (m : Int)) := by omega
      go_wp2_with fail
      go_ret2
      exact ⟨_, _, rfl, hall⟩
/-- what comes back where a chunk is made -/
def DeflC (W : World) (xs : List Nat) (e : Ending) (w' : World) : Prop :=
  ∃ A' c' L, e = .returned (.tuple #[.slice A' L c', .int .i64 0]) ∧ Nx W w' ∧ ((deflF xs).length < xs.length → L = (deflF xs).length ∧ ∃ D', Rd w' D' 1 A' (deflF xs).length (bl (deflF xs))) ∧ (¬ (deflF xs).length < xs.length → xs.length ≤ L)
theorem stoOne_len (xs : List Nat) : (stoOne xs).length = xs.length + 5 := by simp [stoOne, stoHdr]
theorem sq_deflate_ch (D : Nat → Prop) (A : Option Addr) (n c : Nat) (xs : List Nat) (W : World) (hr : Rd W D 1 A n (bl xs)) (ok : okB xs) (hl : xs.length = n) (hc : n ≤ c) (hn : n ≤ 65536) :
    Calls Tryz.prog 75 #[.slice A n c] W (DeflC W xs) := by
  subst hl
  by_cases h5 : xs.length ≤ 65535
  · refine (sq_deflate D A c xs W hr ok hc h5).mono ?_
    rintro e w' ⟨A', c', rfl, hrd, n1⟩
    exact ⟨A', c', _, rfl, n1, fun _ => ⟨rfl, hrd⟩, fun h => by omega⟩
  · have h6 : xs.length = 65536 := by omega
    have hS : ∀ w : World, Rd w D 1 A xs.length (bl xs) → Calls Tryz.prog 110 #[.slice A xs.length c] w fun e w' => ∃ A' c', e = .returned (.slice A' 65546 c') ∧ Nx w w' := fun w h => by
      rw [h6] at h ⊢
      exact sq_stored_big D A c xs w h (by omega)
    have hs1 := stoOne_len xs
    by_cases hm : (pack (deflBits (tokensF xs xs.length 0))).length < 65546
    · refine (sq_deflate_few D A c xs W hr ok (by omega) 65546 hm hS).mono ?_
      rintro e w' ⟨A', c', rfl, hrd, n1⟩
      refine ⟨A', c', _, rfl, n1, fun h => ?_, fun h => ?_⟩
      · have e1 : deflF xs = pack (deflBits (tokensF xs xs.length 0)) := by
          unfold deflF at h ⊢
          split at h
          · next h2 => rw [if_pos h2]
          · omega
        rw [e1]
        exact ⟨rfl, hrd⟩
      · have : ¬ (pack (deflBits (tokensF xs xs.length 0))).length < xs.length := fun h2 => h (by
          unfold deflF
          rw [if_pos (by omega)]
          exact h2)
        omega
    · refine (sq_deflate_many D A c xs W hr ok (by omega) 65546 hm hS).mono ?_
      rintro e w' ⟨A', c', rfl, n1⟩
      refine ⟨A', c', _, rfl, n1, fun h => ?_, fun h => by omega⟩
      exfalso
      unfold deflF at h
      split at h <;> omega
end Go.Proofs.YtlokfmalpkahaaaGreat
