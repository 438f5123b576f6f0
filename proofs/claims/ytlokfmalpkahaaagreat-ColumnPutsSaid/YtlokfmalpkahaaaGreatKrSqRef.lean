/- entrepotref07's Alike and Tokens, walked. Conditions: at most 65536 bytes. -/
import Derived.Test.YtlokfmalpkahaaaGreatKrSqT
import Derived.Test.YtlokfmalpkahaaaGreatKrQ7
import Derived.Deep.CutBlock
import Derived.Deep.DeepCutAuto
namespace Go.Proofs.YtlokfmalpkahaaaGreat
set_option maxRecDepth 100000
open Go.RowKit
set_option linter.unusedVariables false
set_option maxRecDepth 100000 in
set_option maxHeartbeats 8000000 in
theorem ref_alike (D : Nat → Prop) (A : Option Addr) (c : Nat) (xs : List Nat) (i k : Nat) (W : World) (hr : Rd W D 1 A xs.length (bl xs)) (ok : okB xs) (hik : i < k) (hk : k < xs.length) (hl : xs.length ≤ 65536) :
    Calls Tryz.prog 141 #[.slice A xs.length c, .int .i64 (i : Int), .int .i64 (k : Int)] W fun e w' => e = .returned (.int .i64 (sameF xs i k : Int)) ∧ Nx W w' := by
  have k0 : IntKind.i64.wrap ((xs.length : Int) - (k : Int)) = (xs.length : Int) - (k : Int) := IntWalk.i64_in _ (by omega)
  go_enter Tryz.func141, Tryz.ntmps141
  go_wp2_with fail
  go_loopw [7] (fun v wr => ∃ m : Nat, m ≤ 258 ∧ v = .int .i64 m ∧ Nx W wr ∧ Hid (sameF xs i k = sameFrom xs i k (258 - m) m)) (fun v _ => 258 - (intOf v).toNat)
  case atStart => exact ⟨0, by omega, rfl, Ch.refl _ _, Lib.hid rfl⟩
  case round =>
    obtain ⟨w1, rfl⟩ : ∃ w1 : World, w1 = wr := ⟨_, rfl⟩
    obtain ⟨m, hm, rfl, nx, H⟩ := hrel
    by_cases h1 : m < 258
    · have e1 : 258 - m = (258 - (m + 1)) + 1 := by omega
      have q1 : decide ((m : Int) < 258) = true := by simp; omega
      by_cases h2 : k + m < xs.length
      · obtain ⟨ad, u, rfl, hDa, hu, hc⟩ := (hr.nx (by decide) nx).at_ (show i + m < xs.length by omega)
        obtain ⟨ad2, u2, hae, hDa2, hu2, hc2⟩ := (hr.nx (by decide) nx).at_ h2
        injection hae with hae
        subst hae
        rw [bl_get (by omega)] at hu hu2
        injection hu with hu
        injection hu2 with hu2
        subst hu hu2
        have k1 : IntKind.i64.wrap ((i : Int) + (m : Int)) = (i : Int) + (m : Int) := IntWalk.i64_in _ (by omega)
        have k2 : IntKind.i64.wrap ((k : Int) + (m : Int)) = (k : Int) + (m : Int) := IntWalk.i64_in _ (by omega)
        have t1 : ((i : Int) + (m : Int)).toNat = i + m := by omega
        have t2 : ((k : Int) + (m : Int)).toNat = k + m := by omega
        have q2 : decide ((m : Int) < (xs.length : Int) - (k : Int)) = true := by simp; omega
        have i1 : (0 : Int) ≤ (i : Int) + (m : Int) := by omega
        have i2 : (i : Int) + (m : Int) < (xs.length : Int) := by omega
        have i3 : (0 : Int) ≤ (k : Int) + (m : Int) := by omega
        have i4 : (k : Int) + (m : Int) < (xs.length : Int) := by omega
        by_cases h3 : xs.getD (i + m) 0 = xs.getD (k + m) 0
        · have Hs : Hid (sameF xs i k = sameFrom xs i k (258 - (m + 1)) (m + 1)) := Lib.hid (by rw [H.out, e1, sameFrom, if_pos ⟨h2, h3⟩])
          rw [← h3] at hc2
          clear h3 e1
          generalize xs.getD (i + m) 0 = x at *
          go_wp2_with fail
          go_quiet (fail)
          go_wp2_with fail
          go_roundw
          case rel => exact ⟨m + 1, by omega, by go_num, nx.drewN _, Hs⟩
          case measure => simp [intOf]; omega
        · have Hs : Hid (sameF xs i k = m) := Lib.hid (by rw [H.out, e1, sameFrom, if_neg (fun hh => h3 hh.2)])
          have h3' : ((xs.getD (i + m) 0 : Int) == (xs.getD (k + m) 0 : Int)) = false := by rw [beq_eq_false_iff_ne]; omega
          clear h3 e1
          generalize xs.getD (i + m) 0 = x at *
          generalize xs.getD (k + m) 0 = y at *
          go_wp2_with fail
          go_quiet (fail)
          go_wp2_with fail
          go_ret
          exact ⟨by rw [Hs.out]; rfl, nx.drewN _⟩
      · have Hs : Hid (sameF xs i k = m) := Lib.hid (by rw [H.out, e1, sameFrom, if_neg (fun hh => h2 hh.1)])
        have q2 : decide ((m : Int) < (xs.length : Int) - (k : Int)) = false := by simp; omega
        clear e1
        go_wp2_with fail
        go_quiet (fail)
        go_wp2_with fail
        go_ret
        exact ⟨by rw [Hs.out]; rfl, nx.drewN _⟩
    · have hm8 : m = 258 := by omega
      subst hm8
      have Hs : Hid (sameF xs i k = 258) := Lib.hid (by rw [H.out]; rfl)
      go_wp2_with fail
      go_quiet (fail)
      go_wp2_with fail
      go_ret
      exact ⟨by rw [Hs.out]; rfl, nx.drewN _⟩
/-- at the head of ref07's outer loop -/
def RefL (W : World) (xs : List Nat) (s3 s4 : Value) (wr : World) : Prop :=
  ∃ (p : Nat) (o : List Tok), s4 = .int .i64 (p : Int) ∧ p ≤ xs.length ∧ o.length ≤ p ∧ Hid (tokensF xs xs.length 0 = o ++ tokensF xs (xs.length - p) p) ∧ OwnS W wr 138 3 s3 o.length (tcl o)
/-- at the head of ref07's search -/
def RefS (W : World) (xs : List Nat) (p tb : Nat) (w3 : World) (s6 : Value) (wr : World) : Prop :=
  ∃ (d : Nat) (t2 : Nat × Nat), s6 = .int .i64 (d : Int) ∧ 1 ≤ d ∧ d ≤ p + 1 ∧ Ch (fun g => g = tb) w3 wr ∧ Blk wr tb 138 (tokCs (tokF xs p t2)).toArray ∧ Hid (refF xs p p 1 (0, 0) = refF xs p (p + 1 - d) d t2) ∧ t2.1 ≤ 258
theorem Tryz.infoRTok : (Tryz.prog.info? 138).map (fun i => (i.zero, i.size, i.bytes)) = some (some (.agg #[.int .i64 0, .int .i64 0, .int .u8 0]), 3, 24) := by kernel_rfl
set_option maxRecDepth 100000 in
set_option maxHeartbeats 8000000 in
theorem ref_tokens (D : Nat → Prop) (A : Option Addr) (c : Nat) (xs : List Nat) (W : World) (hr : Rd W D 1 A xs.length (bl xs)) (ok : okB xs) (hl : xs.length ≤ 65536) :
    Calls Tryz.prog 114 #[.slice A xs.length c] W fun e w' => ∃ v, e = .returned v ∧ OwnS W w' 138 3 v (tokensF xs xs.length 0).length (tcl (tokensF xs xs.length 0)) := by
  obtain ⟨it, hit, hy0, hy1, hy2⟩ := info_parts Tryz.infoRTok
  have L0 := OwnS.lit W W 138 (Ch.refl _ W) 3
  go_enter Tryz.func114, Tryz.ntmps114
  go_wp2_with fail
  go_loopw [3, 4] (RefL W xs) (fun _ i _ => xs.length - (intOf i).toNat)
  case atStart => exact ⟨0, [], rfl, Nat.zero_le _, Nat.zero_le _, Lib.hid (by simp), L0⟩
  case round =>
    clear L0
    obtain ⟨w1, rfl⟩ : ∃ w1 : World, w1 = wr := ⟨_, rfl⟩
    obtain ⟨p, o, rfl, hp, ho, Hsp, T1⟩ := hrel
    by_cases hlt : p < xs.length
    · obtain ⟨ad, u, rfl, hDa, hu, hc⟩ := (hr.nx (by decide) T1.nx).at_ hlt
      rw [bl_get hlt] at hu
      injection hu with hu
      subst hu
      obtain ⟨x, hx⟩ : ∃ x, xs.getD p 0 = x := ⟨_, rfl⟩
      rw [hx] at hc
      have Hx := Lib.hid hx
      clear hx
      obtain ⟨tb, htb⟩ : ∃ tb, w1.heap.size = tb := ⟨_, rfl⟩
      obtain ⟨w2, hw2⟩ : ∃ w2, w1.alloc (.cells #[.int .i64 0, .int .i64 0, .int .u8 (x : Int)] 138) = w2 := ⟨_, rfl⟩
      have T2 := T1.alloc (.cells #[.int .i64 0, .int .i64 0, .int .u8 (x : Int)] 138)
      have hB2 := Blk.new w1 138 #[.int .i64 0, .int .i64 0, .int .u8 (x : Int)]
      have hvb : u3.ownBlock ≠ some tb := fun e => by have := (T1.lt tb e).2; omega
      rw [hw2] at T2 hB2
      rw [htb] at hB2
      have htbW : W.heap.size ≤ tb := by have := T1.nx.size; omega
      have HW := Lib.hid hw2
      have HT := Lib.hid htb
      clear hw2 htb
      go_upto_region 5 with fail
      try simp only [HT.out, HW.out]
      clear HT HW T1 hc
      have hst0 : (tokCs (tokF xs p (0, 0))).toArray = #[.int .i64 0, .int .i64 0, .int .u8 (x : Int)] := by unfold tokF tokCs; rw [Hx.out]; rfl
      rw [← hst0] at hB2
      clear hst0
      go_upto_block 2 with fail
      go_cut [] (fun wx => OwnS W wx 138 3 u3 o.length (tcl o) ∧ Blk wx tb 138 (tokCs (tokF xs p (bestF xs p))).toArray)
      case first =>
        go_wp2_with fail
        go_loopw [6] (RefS W xs p tb w2) (fun s6 _ => p + 1 - (intOf s6).toNat)
        case atStart => exact ⟨1, (0, 0), rfl, Nat.le_refl _, by omega, Ch.refl _ _, hB2, Lib.hid (by simp), by simp⟩
        case round =>
          clear hB2
          obtain ⟨w4, rfl⟩ : ∃ w4 : World, w4 = wr := ⟨_, rfl⟩
          obtain ⟨d, t2, rfl, hd1, hd2, ch4, hB4, Hs, ht2⟩ := hrel
          have Hdone : Hid (∀ (w' : World) (t3 : Nat × Nat), Ch (fun g => g = tb) w2 w' → Blk w' tb 138 (tokCs (tokF xs p t3)).toArray → refF xs p p 1 (0, 0) = t3 → OwnS W w' 138 3 u3 o.length (tcl o) ∧ Blk w' tb 138 (tokCs (tokF xs p (bestF xs p))).toArray) :=
            Lib.hid fun w' t3 ch hb e => ⟨T2.ch ch (fun k hk e => hvb (by rw [hk, e])) (fun i hi e => by omega), by rw [← ref_best, e]; exact hb⟩
          have d0 : w4.cell? ⟨tb, 0, none⟩ = some (.int .i64 (t2.1 : Int)) := hB4.cell 0
          by_cases hdp : d ≤ p
          · by_cases hd3 : d ≤ 32768
            · obtain ⟨i, hi⟩ : ∃ i, p - d = i := ⟨_, rfl⟩
              have hip : i < p := by omega
              have e1 : (p : Int) - (d : Int) = (i : Int) := by omega
              have kw : IntKind.i64.wrap (i : Int) = (i : Int) := IntWalk.i64_in _ (by omega)
              have f1 : (d : Int) ≤ 32768 := by omega
              have Hs5 : Hid (refF xs p p 1 (0, 0) = if sameF xs i p = 258 then (if 3 ≤ sameF xs i p ∧ t2.1 < sameF xs i p then (sameF xs i p, d) else t2) else refF xs p (p + 1 - (d + 1)) (d + 1) (if 3 ≤ sameF xs i p ∧ t2.1 < sameF xs i p then (sameF xs i p, d) else t2)) := Lib.hid (by
                rw [Hs.out, show p + 1 - d = (p + 1 - (d + 1)) + 1 by omega, refF, if_pos ⟨hdp, hd3⟩, hi])
              have hr4 := hr.nx (by decide) ((T2.nx.trans ch4 fun k hk e => by omega))
              clear Hs hi
              go_wp2_with fail
              refine (ref_alike D (some ad) c xs i p w4 hr4 ok hip hlt hl).mono ?_
              rintro e w5 ⟨rfl, n5⟩
              have hB5 := hB4.nx n5
              have ch5 : Ch (fun g => g = tb) w2 w5 := ch4.trans n5 fun _ _ hf => hf.elim
              have d5 : w5.cell? ⟨tb, 0, none⟩ = some (.int .i64 (t2.1 : Int)) := hB5.cell 0
              have hn5 := sameF_le xs i p
              generalize sameF xs i p = nn at *
              by_cases h3 : 3 ≤ nn
              · have h3' : ¬ ((nn : Int) < 3) := by omega
                have h3'' : (3 : Int) ≤ (nn : Int) := by omega
                by_cases hgt : t2.1 < nn
                · have hgt2 : (t2.1 : Int) < (nn : Int) := by omega
                  have hb5c : ∀ i, w5.cell? ⟨tb, i, none⟩ = (#[.int .i64 (t2.1 : Int), .int .i64 (t2.2 : Int), .int .u8 ((tokF xs p t2).byte : Int)] : Array Value)[i]? := fun i => hB5.cell i
                  have hb5f : ∀ i, w5.frozen? ⟨tb, i, none⟩ = false := fun i => hB5.frozen i
                  have hb6 : (tokCs (tokF xs p (nn, d))).toArray = #[.int .i64 (nn : Int), .int .i64 (d : Int), .int .u8 0] := by
                    unfold tokF tokCs
                    simp only
                    rw [if_neg (by omega)]
                    rfl
                  have hB6 := set_blk3 (t := 138) (x0 := .int .i64 (t2.1 : Int)) (x1 := .int .i64 (t2.2 : Int)) (x2 := .int .u8 ((tokF xs p t2).byte : Int)) hB5 (.int .i64 (nn : Int)) (.int .i64 (d : Int)) (.int .u8 0)
                  rw [← hb6] at hB6
                  have ch6 := ch5.trans (set_ch3 w5 tb (.int .i64 (nn : Int)) (.int .i64 (d : Int)) (.int .u8 0)) (fun _ _ h => h)
                  have HB6 := Lib.hid hB6
                  have HC6 := Lib.hid ch6
                  have hab : 3 ≤ nn ∧ t2.1 < nn := ⟨h3, hgt⟩
                  clear hb6 hB6 ch6
                  by_cases h258 : nn = 258
                  · have hr1 : refF xs p p 1 (0, 0) = (nn, d) := by rw [Hs5.out, if_pos h258, if_pos hab]
                    have Hr1 := Lib.hid hr1
                    clear Hs5 hr1 hab
                    subst h258
                    go_wp2_with fail
                    go_meet
                    exact Hdone.out _ _ HC6.out HB6.out Hr1.out
                  · have Hr1 : Hid (refF xs p p 1 (0, 0) = refF xs p (p + 1 - (d + 1)) (d + 1) (nn, d)) := Lib.hid (by rw [Hs5.out, if_neg h258, if_pos hab])
                    have hbq : ((nn : Int) == 258) = false := by rw [beq_eq_false_iff_ne]; omega
                    clear Hs5 hab
                    go_wp2_with fail
                    go_roundw
                    case rel => exact ⟨d + 1, (nn, d), by go_num, by omega, by omega, HC6.out, HB6.out, Hr1, hn5⟩
                    case measure => simp [intOf]; omega
                · have hgt2 : ¬ ((t2.1 : Int) < (nn : Int)) := by omega
                  have hnb : ¬ (3 ≤ nn ∧ t2.1 < nn) := fun hh => hgt hh.2
                  by_cases h258 : nn = 258
                  · have hr1 : refF xs p p 1 (0, 0) = t2 := by rw [Hs5.out, if_pos h258, if_neg hnb]
                    have Hr1 := Lib.hid hr1
                    have hbq : ((nn : Int) == 258) = true := by rw [beq_iff_eq]; omega
                    clear Hs5 hr1 hnb
                    go_wp2_with fail
                    go_meet
                    exact Hdone.out _ _ ch5 hB5 Hr1.out
                  · have Hr1 : Hid (refF xs p p 1 (0, 0) = refF xs p (p + 1 - (d + 1)) (d + 1) t2) := Lib.hid (by rw [Hs5.out, if_neg h258, if_neg hnb])
                    have hbq : ((nn : Int) == 258) = false := by rw [beq_eq_false_iff_ne]; omega
                    clear Hs5 hnb
                    go_wp2_with fail
                    go_roundw
                    case rel => exact ⟨d + 1, t2, by go_num, by omega, by omega, ch5, hB5, Hr1, ht2⟩
                    case measure => simp [intOf]; omega
              · have h3' : (nn : Int) < 3 := by omega
                have h3'' : ¬ ((3 : Int) ≤ (nn : Int)) := by omega
                have hnb : ¬ (3 ≤ nn ∧ t2.1 < nn) := fun hh => h3 hh.1
                have hne : ¬ nn = 258 := by omega
                have Hr1 : Hid (refF xs p p 1 (0, 0) = refF xs p (p + 1 - (d + 1)) (d + 1) t2) := Lib.hid (by rw [Hs5.out, if_neg hne, if_neg hnb])
                have hbq : ((nn : Int) == 258) = false := by rw [beq_eq_false_iff_ne]; omega
                clear Hs5 hnb
                go_wp2_with fail
                go_roundw
                case rel => exact ⟨d + 1, t2, by go_num, by omega, by omega, ch5, hB5, Hr1, ht2⟩
                case measure => simp [intOf]; omega
            · have f1 : ¬ ((d : Int) ≤ 32768) := by omega
              have hr1 : refF xs p p 1 (0, 0) = t2 := by rw [Hs.out, show p + 1 - d = (p + 1 - (d + 1)) + 1 by omega, refF, if_neg (fun hh => hd3 hh.2)]
              have Hr1 := Lib.hid hr1
              clear hr1 Hs
              go_wp2_with fail
              go_meet
              exact Hdone.out _ _ ch4 hB4 Hr1.out
          · have f1 : ¬ ((d : Int) ≤ (p : Int)) := by omega
            have hr1 : refF xs p p 1 (0, 0) = t2 := by rw [Hs.out, show p + 1 - d = 0 by omega]; rfl
            have Hr1 := Lib.hid hr1
            clear hr1 Hs
            go_wp2_with fail
            go_meet
            exact Hdone.out _ _ ch4 hB4 Hr1.out
      case rest =>
        obtain ⟨T6, hB6⟩ := hcut
        have hgood := bestF_good xs p
        have hstep : tokensF xs (xs.length - p) p = tokF xs p (bestF xs p) :: tokensF xs (xs.length - p - 1) (p + max (bestF xs p).1 1) := by
          rw [show xs.length - p = (xs.length - p - 1) + 1 by omega, tokensF, if_neg (by omega)]; rfl
        have Hstep := Lib.hid hstep
        clear hstep T2 hB2
        generalize bestF xs p = t2 at *
        obtain ⟨w7, rfl⟩ : ∃ w7 : World, w7 = wc := ⟨_, rfl⟩
        have htl : t2.1 ≤ 258 := by rcases hgood with e | e; rw [e]; exact Nat.zero_le _; exact e.2.1
        have hte : p + t2.1 ≤ xs.length := by rcases hgood with e | e; rw [e]; simp; omega; exact e.2.2.2.2.2.1
        clear hgood
        have c0 : w7.cell? ⟨tb, 0, none⟩ = some (.int .i64 (t2.1 : Int)) := hB6.cell 0
        have c1 : w7.cell? ⟨tb, 1, none⟩ = some (.int .i64 (t2.2 : Int)) := hB6.cell 1
        have c2 : w7.cell? ⟨tb, 2, none⟩ = some (.int .u8 ((tokF xs p t2).byte : Int)) := hB6.cell 2
        have hrd : Rd (w7.alloc (.cells #[.int .i64 (t2.1 : Int), .int .i64 (t2.2 : Int), .int .u8 ((tokF xs p t2).byte : Int)] 138)) (fun k => k = w7.heap.size) 3 (some ⟨w7.heap.size, 0, none⟩) 1 (tokCs (tokF xs p t2)) :=
          ⟨rfl, fun _ => ⟨_, rfl, rfl, World.news_of_block (Blk.new w7 138 #[.int .i64 (t2.1 : Int), .int .i64 (t2.2 : Int), .int .u8 ((tokF xs p t2).byte : Int)])⟩⟩
        have HRD := Lib.hid hrd
        have Hone : Hid (∀ u ∈ tokCs (tokF xs p t2), u.oneCell' = true) := Lib.hid (by intro u hu; simp only [tokCs, List.mem_cons] at hu; rcases hu with rfl | rfl | rfl | h; rfl; rfl; rfl; cases h)
        have T8 := T6.alloc (.cells #[.int .i64 (t2.1 : Int), .int .i64 (t2.2 : Int), .int .u8 ((tokF xs p t2).byte : Int)] 138)
        clear hrd
        go_wp2_with (at_builtin; refine wpList_appN rfl (.tmp 46) (.tmp 48) _ rfl 138 it _ 3 24 Tryz.underlying136 hit hy0 hy1 hy2 rfl (by omega) rfl T8 _ (some ⟨w7.heap.size, 0, none⟩) 1 1 (tokCs (tokF xs p t2)) rfl HRD.out Hone.out (by simp only [maxLen]; omega) (by omega) ?_; intro v9 w9 o9 m9; have d9 : w9.cell? ⟨tb, 0, none⟩ = some (.int .i64 (t2.1 : Int)) := ((hB6.alloc _).ch m9.ch (fun e => hvb e)).cell 0)
        have hmx : (if (t2.1 : Int) < 1 then 1 else (t2.1 : Int)) = ((max t2.1 1 : Nat) : Int) := by split <;> omega
        rw [hmx]
        refine ⟨⟨p + max t2.1 1, o ++ [tokF xs p t2], by simp, by omega, by simp; omega, Lib.hid ?_, ?_⟩, by simp only [intOf]; omega⟩
        · rw [Hsp.out, Hstep.out, List.append_assoc, List.singleton_append, tokensF_fuel xs (xs.length - p - 1) (xs.length - (p + max t2.1 1)) (p + max t2.1 1) (by omega) (by omega)]
        · rw [List.length_append, tcl_app, tcl_one]; exact o9
    · have hpl : p = xs.length := by omega
      have e : tokensF xs xs.length 0 = o := by rw [Hsp.out, hpl, Nat.sub_self]; simp [tokensF]
      have He := Lib.hid e
      clear e Hsp
      go_wp2_with fail
      go_ret
      exact ⟨_, rfl, by rw [He.out]; exact T1⟩
end Go.Proofs.YtlokfmalpkahaaaGreat
