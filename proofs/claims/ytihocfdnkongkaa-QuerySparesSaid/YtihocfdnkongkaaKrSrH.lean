/- The contract of symMerge over rows (printed by gen_sym.py H). Conditions: none. -/
import Derived.Test.YtihocfdnkongkaaKrSrF
import Derived.Test.YtihocfdnkongkaaKrSrG
import Derived.Deep.CutBlock
import Derived.Deep.DeepCutAuto
namespace Go.Proofs.Ytihocfdnkongkaa
set_option maxRecDepth 100000
open Go.RowKit
set_option linter.unusedVariables false
/-- symMerge's contract at runs of so many elements -/
def SymC (g cap n : Nat) (A : Option Addr) (k : Nat) : Prop := ∀ (w : World) (P A1' B S : List (Tg RV)) (a m b : Nat), A1'.length + B.length < k → 0 < A1'.length → 0 < B.length → SAT w g A cap (P ++ A1' ++ B ++ S) → P.length + A1'.length + B.length + S.length = n → P.length = a → a + A1'.length = m → m + B.length = b → Runs ltR P A1' B S →
    Calls Try.prog 67 #[.slice A n cap, .int .i64 a, .int .i64 m, .int .i64 b, cmpV] w fun e w' => e = .returned (.tuple #[]) ∧ ∃ C, Merged ltR A1' B C ∧ SAT w' g A cap (P ++ C ++ S) ∧ Ch (fun k => k = g) w w'
def HalfC (g cap : Nat) (A : Option Addr) (w w' : World) (P A1 B1 S : List (Tg RV)) : Prop := ∃ C, Merged ltR A1 B1 C ∧ SAT w' g A cap (P ++ C ++ S) ∧ Ch (fun k => k = g) w w'
theorem HalfC.none {w w' : World} {g cap : Nat} {A : Option Addr} {P A1 B1 S : List (Tg RV)} (h : SAT w' g A cap (P ++ (A1 ++ B1) ++ S)) (hc : Ch (fun k => k = g) w w') (ha : A1.Pairwise (Rt ltR)) (hb : B1.Pairwise (Rt ltR)) (e : A1 = [] ∨ B1 = []) : HalfC g cap A w w' P A1 B1 S := by
  rcases e with rfl | rfl
  · exact ⟨B1, Merged.right hb, h, hc⟩
  · exact ⟨A1, Merged.left ha, by rwa [List.append_nil] at h, hc⟩
theorem sat_eq {w : World} {g cap : Nat} {A : Option Addr} {X Y : List (Tg RV)} (e : X = Y) (h : SAT w g A cap X) : SAT w g A cap Y := e ▸ h
theorem half_in {w : World} {g cap : Nat} {A : Option Addr} {P A1 A2 B1 B2 S : List (Tg RV)} (h : SAT w g A cap (P ++ (A1 ++ B1) ++ (A2 ++ B2) ++ S)) : SAT w g A cap (P ++ (A1 ++ B1) ++ (A2 ++ B2 ++ S)) := sat_eq (by simp only [List.append_assoc]) h
theorem half_in2 {w : World} {g cap : Nat} {A : Option Addr} {P A1 A2 B1 B2 S : List (Tg RV)} (h : SAT w g A cap (P ++ (A1 ++ B1) ++ (A2 ++ B2) ++ S)) : SAT w g A cap (P ++ A1 ++ B1 ++ (A2 ++ B2 ++ S)) := sat_eq (by simp only [List.append_assoc]) h
theorem half_in3 {w : World} {g cap : Nat} {A : Option Addr} {P C A2 B2 S : List (Tg RV)} (h : SAT w g A cap (P ++ C ++ (A2 ++ B2 ++ S))) : SAT w g A cap (P ++ C ++ (A2 ++ B2) ++ S) := sat_eq (by simp only [List.append_assoc]) h
theorem half_in4 {w : World} {g cap : Nat} {A : Option Addr} {P C A2 B2 S : List (Tg RV)} (h : SAT w g A cap (P ++ C ++ (A2 ++ B2 ++ S))) : SAT w g A cap (P ++ C ++ A2 ++ B2 ++ S) := sat_eq (by simp only [List.append_assoc]) h
theorem half_out {w : World} {g cap : Nat} {A : Option Addr} {P C D S : List (Tg RV)} (h : SAT w g A cap (P ++ C ++ D ++ S)) : SAT w g A cap (P ++ (C ++ D) ++ S) := sat_eq (by simp only [List.append_assoc]) h
theorem half_len {nn mid m s E l : Nat} (h : nn = mid + m) (he : (nn : Int) - (s : Int) = (E : Int)) (hl : l = E - m) (h2 : s ≤ m) (h4 : m ≤ E) : l = mid - s := by omega
theorem half_len2 {nn mid m s E l : Nat} (h : nn = mid + m) (he : (nn : Int) - (s : Int) = (E : Int)) (hl : l = m - s) (h2 : s ≤ m) : l = E - mid := by omega
theorem half_zero {a s mid : Nat} {A1 B1 : List (Tg RV)} (h1 : A1.length = s - a) (h2 : B1.length = mid - s) (c1 : a ≤ s) (c2 : s ≤ mid) (h : ¬ (a < s ∧ s < mid)) : A1 = [] ∨ B1 = [] := by
  by_cases e : a < s
  · exact .inr (List.length_eq_zero_iff.1 (by omega))
  · exact .inl (List.length_eq_zero_iff.1 (by omega))
theorem half_zero2 {mid E b : Nat} {A2 B2 : List (Tg RV)} (h1 : A2.length = E - mid) (h2 : B2.length = b - E) (c1 : E ≤ b) (c2 : mid ≤ E) (h : ¬ (mid < E ∧ E < b)) : A2 = [] ∨ B2 = [] := by
  by_cases e : mid < E
  · exact .inr (List.length_eq_zero_iff.1 (by omega))
  · exact .inl (List.length_eq_zero_iff.1 (by omega))
section
variable {w : World} {g cap : Nat} {A : Option Addr}
set_option maxHeartbeats 16000000 in
theorem sym_step {P A1' B S : List (Tg RV)} {n a m b k : Nat} (IH : SymC g cap n A k) (hk : A1'.length + B.length = k) (h : SAT w g A cap (P ++ A1' ++ B ++ S)) (hn : P.length + A1'.length + B.length + S.length = n) (hn2 : n ≤ 1000000) (ha : P.length = a) (hm : a + A1'.length = m) (hb : m + B.length = b) (hA2 : a + 1 < m) (hB2 : m + 1 < b) (hR : Runs ltR P A1' B S) :
    Calls Try.prog 67 #[.slice A n cap, .int .i64 a, .int .i64 m, .int .i64 b, cmpV] w fun e w' => e = .returned (.tuple #[]) ∧ ∃ C, Merged ltR A1' B C ∧ SAT w' g A cap (P ++ C ++ S) ∧ Ch (fun k => k = g) w w' := by
  obtain ⟨mid, hmid⟩ : ∃ mid : Nat, ((a : Int) + (b : Int)) / 2 = (mid : Int) := ⟨(a + b) / 2, by omega⟩
  obtain ⟨nn, hnn⟩ : ∃ nn : Nat, (mid : Int) + (m : Int) = (nn : Int) := ⟨mid + m, by omega⟩
  have hbn : b ≤ n := by omega
  have hq : ((m : Int) - (a : Int) == 1) = false := by simp; omega
  have hq2 : ((b : Int) - (m : Int) == 1) = false := by simp; omega
  have hmid1 : 2 * mid ≤ a + b := by omega
  have hmid2 : a + b ≤ 2 * mid + 1 := by omega
  obtain ⟨lo, hlo⟩ : ∃ lo, lo = if mid < m then nn - b else a := ⟨_, rfl⟩
  obtain ⟨hi, hhi⟩ : ∃ hi, hi = if mid < m then mid else m := ⟨_, rfl⟩
  have hnn2 : nn = mid + m := by omega
  have b0 : lo ≤ hi ∧ hi ≤ m ∧ hi ≤ mid ∧ nn ≤ b + lo ∧ a ≤ lo := by
    by_cases e : mid < m
    · rw [if_pos e] at hlo hhi; omega
    · rw [if_neg e] at hlo hhi; omega
  obtain ⟨b1, b2, b3, b4, b5⟩ := b0
  have HLO := Lib.hid hlo
  have HHI := Lib.hid hhi
  have HNN := Lib.hid hnn2
  have HR := Lib.hid hR
  have HNL := Lib.hid hn
  have HA := Lib.hid ha
  have HM := Lib.hid hm
  have HB := Lib.hid hb
  have Hh := Lib.hid h
  have HIH := Lib.hid IH
  have HK := Lib.hid hk
  have m1 : 2 * mid ≤ a + b := hmid1
  have m2 : mid ≤ b := by omega
  have n1 : nn ≤ 2000000 := by omega
  have n2 : m ≤ nn := by omega
  have n3 : mid ≤ nn := by omega
  have a1 : a < m := by omega
  have a2 : m < b := by omega
  have HMI := Lib.hid (⟨hmid1, hmid2⟩ : 2 * mid ≤ a + b ∧ a + b ≤ 2 * mid + 1)
  clear hn ha hm hb h hR IH hk hlo hhi hnn2 hmid1 hmid2
  go_enter Try.func67, Try.ntmps67
  go_upto_if 140 with fail
  go_cut [20, 21] (fun s20 s21 wx => s20 = .int .i64 (lo : Int) ∧ s21 = .int .i64 (hi : Int) ∧ wx = w)
  case first =>
    as_aux_lemma =>
    by_cases e : mid < m
    · have e1 : ((nn : Int) - (b : Int)) = (lo : Int) := by have := HLO.out; rw [if_pos e] at this; have := HNN.out; have := HMI.out; omega
      have e2 := HHI.out
      rw [if_pos e] at e2
      have E1 := Lib.hid e1
      have E2 := Lib.hid e2
      clear e1 e2
      go_wp2_with fail
      go_meet
      exact ⟨by rw [← E1.out], by rw [E2.out], rfl⟩
    · have e1 := HLO.out
      have e2 := HHI.out
      rw [if_neg e] at e1 e2
      have E1 := Lib.hid e1
      have E2 := Lib.hid e2
      clear e1 e2
      go_wp2_with fail
      go_meet
      exact ⟨by rw [E1.out], by rw [E2.out], rfl⟩
  case rest =>
    obtain ⟨rfl, rfl, hw⟩ := hcut
    rw [hw]
    clear hw
    clear hmid hnn
    have HS0 := Lib.hid (Spl.start (lt := ltR) (P ++ A1' ++ B ++ S) nn lo hi b1)
    go_wp2_with fail
    go_loopw [20, 21] (fun s20 s21 wr => ∃ (s r : Nat), s20 = .int .i64 (s : Int) ∧ s21 = .int .i64 (r : Int) ∧ lo ≤ s ∧ s ≤ r ∧ r ≤ hi ∧ Hid (SAT wr g A cap (P ++ A1' ++ B ++ S)) ∧ Hid (Ch (fun k => k = g) w wr) ∧ Hid (Spl ltR (P ++ A1' ++ B ++ S) nn lo hi s r)) (fun s20 s21 _ => (intOf s21).toNat - (intOf s20).toNat)
    case atStart => exact ⟨lo, hi, rfl, rfl, Nat.le_refl _, b1, Nat.le_refl _, Hh, Lib.hid (Ch.refl _ _), HS0⟩
    case round =>
      obtain ⟨w5, rfl⟩ : ∃ w5 : World, w5 = wr := ⟨_, rfl⟩
      obtain ⟨s, r9, rfl, rfl, hls, hsr, hrh, Js, Jc, Ji⟩ := hrel
      clear Hh HS0
      by_cases hlt : s < r9
      · obtain ⟨c, hce⟩ : ∃ c : Nat, ((s : Int) + (r9 : Int)) / 2 = (c : Int) := ⟨(s + r9) / 2, by omega⟩
        have hc1 : s ≤ c := by omega
        have hc2 : c < r9 := by omega
        go_wp2_with fail
        clear hce
        have hwr : IntKind.i64.wrap ((nn : Int) - 1 - (c : Int)) = ((nn - 1 - c : Nat) : Int) := by rw [IntWalk.i64_in _ (by omega)]; omega
        have hx1 : (c : Int) < (n : Int) := by omega
        have hx2 : ((nn - 1 - c : Nat) : Int) < (n : Int) := by omega
        have hx3 : nn - 1 - c < n := by omega
        have hx4 : c < n := by omega
        have hL1 : (nn - 1 - c) < (P ++ A1' ++ B ++ S).length := by simp; have := HNL.out; omega
        have hL2 : c < (P ++ A1' ++ B ++ S).length := by simp; have := HNL.out; omega
        have hJm : (nn - 1 - c) < ((P ++ A1' ++ B ++ S).map fun x => x.row).length := by rw [List.length_map]; exact hL1
        have hJ2m : c < ((P ++ A1' ++ B ++ S).map fun x => x.row).length := by rw [List.length_map]; exact hL2
        have hA := Js.out.form hJm
        subst hA
        have gJ : ((P ++ A1' ++ B ++ S).map fun x => x.row)[(nn - 1 - c)] = (P ++ A1' ++ B ++ S)[(nn - 1 - c)].row := List.getElem_map ..
        have gJ2 : ((P ++ A1' ++ B ++ S).map fun x => x.row)[c] = (P ++ A1' ++ B ++ S)[c].row := List.getElem_map ..
        have HQ := Lib.hid (fun w' (hn : Nx w5 w') => (Js.out.nx hn).at_ hJm)
        have HQ2 := Lib.hid (fun w' (hn : Nx w5 w') => (Js.out.nx hn).at_ hJ2m)
        have HNX := Lib.hid (fun w' (hn : Nx w5 w') => Js.out.nx hn)
        rw [gJ] at HQ
        rw [gJ2] at HQ2
        have Hcmp := Lib.hid (fun w => compare_any (P ++ A1' ++ B ++ S)[(nn - 1 - c)].row (P ++ A1' ++ B ++ S)[c].row w)
        have hcv := ltR_cmp (P ++ A1' ++ B ++ S)[(nn - 1 - c)].row (P ++ A1' ++ B ++ S)[c].row
        have HY : Hid (ltR (P ++ A1' ++ B ++ S)[nn - 1 - c].row (P ++ A1' ++ B ++ S)[c].row = true → Spl ltR (P ++ A1' ++ B ++ S) nn lo hi s c) := Lib.hid (fun hl => Ji.out.down hc1 hc2 hL2 hL1 hl)
        have HN : Hid (ltR (P ++ A1' ++ B ++ S)[nn - 1 - c].row (P ++ A1' ++ B ++ S)[c].row = false → Spl ltR (P ++ A1' ++ B ++ S) nn lo hi (c + 1) r9) := Lib.hid (fun hl => Ji.out.up hc1 hc2 hL2 hL1 hl)
        clear Ji
        generalize hK0 : nn - 1 - c = K0 at *
        clear hK0
        generalize (P ++ A1' ++ B ++ S)[K0].row = x1 at *
        generalize (P ++ A1' ++ B ++ S)[c].row = y1 at *
        have hnd : Nx w5 w5.drew := (Ch.refl _ w5).drew
        clear Js gJ gJ2 hL1 hL2 hJm hJ2m
        obtain ⟨⟨kind, time, labs, text, value, null, maker, seq, place⟩, A1, c1⟩ := x1
        obtain ⟨⟨kind2, time2, labs2, text2, value2, null2, maker2, seq2, place2⟩, A2, c2⟩ := y1
        unfold rowV at Hcmp
        unfold RowAt at HQ HQ2
        simp only at Hcmp HQ HQ2 hcv
        refine wp_region_still_tail 11 rfl (by kernel_rfl) ?_
        change wpStill _ _ w5.drew _ _ _
        obtain ⟨p0, p1, p2, p3, p4, p5, p6, p7, p8⟩ := HQ.out _ hnd
        obtain ⟨q0, q1, q2, q3, q4, q5, q6, q7, q8⟩ := HQ2.out _ hnd
        have HND := Lib.hid hnd
        clear hnd
        generalize w5.drew = w6 at *
        simp only [List.take_succ_cons, List.take_zero, List.drop_succ_cons, List.drop_zero]
        repeat still_step
        refine wpStill_nil ?_
        clear p0 p1 p2 p3 p4 p5 p6 p7 p8 q0 q1 q2 q3 q4 q5 q6 q7 q8 HQ HQ2
        go_wp2_with fail
        refine (Hcmp.out _).mono ?_
        rintro e w7 ⟨rfl, n7⟩
        have N7 := Lib.hid ((Ch.refl (fun _ => False) w5).drew.tr n7)
        clear n7 HND Hcmp
        generalize cmpF _ _ = r at *
        have Hs7 := Lib.hid (HNX.out w7 N7.out)
        have C7 := Lib.hid (Jc.out.tr N7.out)
        clear HNX N7 Jc
        cases hv : ltR ⟨⟨kind, time, labs, text, value, null, maker, seq, place⟩, A1, c1⟩ ⟨⟨kind2, time2, labs2, text2, value2, null2, maker2, seq2, place2⟩, A2, c2⟩
        · have HRR := Lib.hid (HN.out hv)
          rw [hv] at hcv
          have hr : (!decide (r < 0)) = true := by rw [hcv]; rfl
          clear hv hcv HN HY
          go_wp2_with fail
          go_roundw
          case rel => exact ⟨c + 1, r9, by go_num, rfl, by omega, by omega, hrh, Hs7, C7, HRR⟩
          case measure => simp [intOf]; omega
        · have HRR := Lib.hid (HY.out hv)
          rw [hv] at hcv
          have hr : (!decide (r < 0)) = false := by rw [hcv]; rfl
          clear hv hcv HN HY
          go_wp2_with fail
          go_roundw
          case rel => exact ⟨s, c, rfl, rfl, hls, hc1, by omega, Hs7, C7, HRR⟩
          case measure => simp [intOf]; omega
      · obtain rfl : s = r9 := by omega
        obtain ⟨c1, c2, c3, c4, c5, c6, A1, A2, B1, B2, eA, eB, l1, l2, l3, l4, hrot, hall⟩ := Spl.last ltR_weak HR.out HA.out HM.out HB.out HMI.out.1 HMI.out.2 HNN.out HLO.out HHI.out Ji.out
        obtain ⟨E, hE⟩ : ∃ E, nn - s = E := ⟨_, rfl⟩
        rw [hE] at c4 c5 c6 l3 l4 hrot
        have hEi : (nn : Int) - (s : Int) = (E : Int) := by omega
        subst eA
        subst eB
        have hrm : (rotL (P ++ (A1 ++ A2) ++ (B1 ++ B2) ++ S) s m E).map (fun x => x.row) = rotL ((P ++ (A1 ++ A2) ++ (B1 ++ B2) ++ S).map fun x => x.row) s m E := by
          simp [rotL, List.map_take, List.map_drop]
        have hlen : ((P ++ (A1 ++ A2) ++ (B1 ++ B2) ++ S).map fun x => x.row).length = n := by
          have := HNL.out
          simp at this ⊢
          omega
        have Hrot := Lib.hid (fun (h1 : s < m) (h2 : m < E) => rotate_any Js.out (by rw [hlen]; exact hn2) s m E h1 h2 (by rw [hlen]; omega) cmpV)
        rw [hlen, ← hrm, hrot] at Hrot
        have HSame := Lib.hid (fun (h : ¬ (s < m ∧ m < E)) => (by
          have e := rotL_same (P ++ (A1 ++ A2) ++ (B1 ++ B2) ++ S) (a := s) (m := m) (b := E) c2 c4 (by omega)
          rw [hrot] at e
          rw [e]
          exact Js.out : SAT w5 g A cap (P ++ (A1 ++ B1) ++ (A2 ++ B2) ++ S)))
        have Hall := Lib.hid hall
        have L1 := Lib.hid l1
        have L2 := Lib.hid l2
        have L3 := Lib.hid l3
        have L4 := Lib.hid l4
        clear hE hrm hlen hrot hall l1 l2 l3 l4 Js Ji HLO HHI hlt
        go_upto_region 39 with fail
        go_cut [185] (fun s9 wx => s9 = .bool (decide (s < m ∧ m < E)) ∧ wx = w5)
        case first =>
          as_aux_lemma =>
          by_cases d1 : s < m
          · by_cases d2 : m < E
            · have hd : decide (s < m ∧ m < E) = true := decide_eq_true ⟨d1, d2⟩
              have hd := Lib.hid hd
              go_wp2_with fail
              go_meet
              exact ⟨by rw [hd.out], rfl⟩
            · have hd : decide (s < m ∧ m < E) = false := decide_eq_false fun h => d2 h.2
              have hd := Lib.hid hd
              go_wp2_with fail
              go_meet
              exact ⟨by rw [hd.out], rfl⟩
          · have hd : decide (s < m ∧ m < E) = false := decide_eq_false fun h => d1 h.1
            have hd := Lib.hid hd
            go_wp2_with fail
            go_meet
            exact ⟨by rw [hd.out], rfl⟩
        case rest =>
          obtain ⟨rfl, hw⟩ := hcut
          rw [hw]
          clear hw
          go_upto_if 185 with fail
          go_cut [] (fun wx => Hid (SAT wx g A cap (P ++ (A1 ++ B1) ++ (A2 ++ B2) ++ S)) ∧ Hid (Ch (fun k => k = g) w wx))
          case first =>
            as_aux_lemma =>
            by_cases d : s < m ∧ m < E
            · have hd : decide (s < m ∧ m < E) = true := decide_eq_true d
              have hc := Lib.hid (Hrot.out d.1 d.2)
              rw [hd]
              clear hd d
              go_wp2_with fail
              refine hc.out.mono ?_
              rintro e w6 ⟨rfl, h6, n6⟩
              have H6 := Lib.hid h6
              have N6 := Lib.hid n6
              clear h6 n6
              go_wp2_with fail
              go_meet
              exact ⟨H6, Lib.hid (Jc.out.trans N6.out fun _ _ e => e)⟩
            · have hd : decide (s < m ∧ m < E) = false := decide_eq_false d
              have hs := Lib.hid (HSame.out d)
              rw [hd]
              clear hd d
              go_wp2_with fail
              go_meet
              exact ⟨hs, Jc⟩
          case rest =>
            obtain ⟨Js, Jc⟩ := hcut
            obtain ⟨w6, rfl⟩ : ∃ w6 : World, w6 = wc := ⟨_, rfl⟩
            clear Hrot HSame
            have HSame := Lib.hid (fun (h : ¬ (a < s ∧ s < mid)) => HalfC.none (w := w6) (half_in Js.out) (Ch.refl _ w6) (List.pairwise_append.1 HR.out.sa).1 (List.pairwise_append.1 HR.out.sb).1 (half_zero L1.out (half_len HNN.out hEi L3.out c2 c4) c1 c3 h))
            have HCall := Lib.hid (fun (h1 : a < s) (h2 : s < mid) => HIH.out w6 P A1 B1 (A2 ++ B2 ++ S) a s mid (by have := HMI.out; have := half_len2 HNN.out hEi L2.out c2; have := HK.out; have := L1.out; have := L2.out; have := L4.out; have := half_len HNN.out hEi L3.out c2 c4; simp only [List.length_append] at *; omega) (by have := L1.out; omega) (by have := half_len HNN.out hEi L3.out c2 c4; omega) (half_in2 Js.out) (by have := HNL.out; simp only [List.length_append] at *; omega) HA.out (by have := L1.out; omega) (by have := half_len HNN.out hEi L3.out c2 c4; omega) HR.out.one)
            clear Js
            go_upto_region 41 with fail
            go_cut [199] (fun s9 wx => s9 = .bool (decide (a < s ∧ s < mid)) ∧ wx = w6)
            case first =>
              as_aux_lemma =>
              by_cases d1 : a < s
              · by_cases d2 : s < mid
                · have hd : decide (a < s ∧ s < mid) = true := decide_eq_true ⟨d1, d2⟩
                  have hd := Lib.hid hd
                  go_wp2_with fail
                  go_meet
                  exact ⟨by rw [hd.out], rfl⟩
                · have hd : decide (a < s ∧ s < mid) = false := decide_eq_false fun h => d2 h.2
                  have hd := Lib.hid hd
                  go_wp2_with fail
                  go_meet
                  exact ⟨by rw [hd.out], rfl⟩
              · have hd : decide (a < s ∧ s < mid) = false := decide_eq_false fun h => d1 h.1
                have hd := Lib.hid hd
                go_wp2_with fail
                go_meet
                exact ⟨by rw [hd.out], rfl⟩
            case rest =>
              obtain ⟨rfl, hw⟩ := hcut
              rw [hw]
              clear hw
              go_upto_if 199 with fail
              go_cut [] (fun wx => Hid (HalfC g cap A w6 wx P A1 B1 (A2 ++ B2 ++ S)))
              case first =>
                as_aux_lemma =>
                by_cases d : a < s ∧ s < mid
                · have hd : decide (a < s ∧ s < mid) = true := decide_eq_true d
                  have hc := Lib.hid (HCall.out d.1 d.2)
                  rw [hd]
                  clear hd d
                  go_wp2_with fail
                  refine hc.out.mono ?_
                  rintro e w7 ⟨rfl, h7⟩
                  have H7 := Lib.hid h7
                  clear h7
                  go_wp2_with fail
                  go_meet
                  exact Lib.hid H7.out
                · have hd : decide (a < s ∧ s < mid) = false := decide_eq_false d
                  have hs := Lib.hid (HSame.out d)
                  rw [hd]
                  clear hd d
                  go_wp2_with fail
                  go_meet
                  exact hs
              case rest =>
                obtain ⟨w7, rfl⟩ : ∃ w7 : World, w7 = wc := ⟨_, rfl⟩
                obtain ⟨C1, hM1, hS1, hC1⟩ := hcut.out
                have M1 := Lib.hid hM1
                have J7 := Lib.hid (Jc.out.trans hC1 fun _ _ e => e)
                have HSame2 := Lib.hid (fun (h : ¬ (mid < E ∧ E < b)) => HalfC.none (w := w7) (half_in3 hS1) (Ch.refl _ w7) (List.pairwise_append.1 HR.out.sa).2.1 (List.pairwise_append.1 HR.out.sb).2.1 (half_zero2 (half_len2 HNN.out hEi L2.out c2) L4.out c5 c6 h))
                have hlc : C1.length = mid - a := by
                  have := hM1.1.length_eq
                  have := L1.out
                  have := half_len HNN.out hEi L3.out c2 c4
                  simp only [List.length_append] at *
                  omega
                have HCall2 := Lib.hid (fun (h1 : mid < E) (h2 : E < b) => HIH.out w7 (P ++ C1) A2 B2 S mid E b (by have := HMI.out; have := HK.out; have := L1.out; have := L4.out; have := half_len2 HNN.out hEi L2.out c2; have := half_len HNN.out hEi L3.out c2 c4; simp only [List.length_append] at *; omega) (by have := half_len2 HNN.out hEi L2.out c2; omega) (by have := L4.out; omega) (half_in4 hS1) (by have := HNL.out; have := L1.out; have := half_len HNN.out hEi L3.out c2 c4; simp only [List.length_append] at *; omega) (by have := HA.out; simp only [List.length_append] at *; omega) (by have := half_len2 HNN.out hEi L2.out c2; omega) (by have := L4.out; omega) HR.out.two)
                clear hS1 hC1 hM1 hlc hcut HSame HCall
                go_upto_region 43 with fail
                go_cut [213] (fun s9 wx => s9 = .bool (decide (mid < E ∧ E < b)) ∧ wx = w7)
                case first =>
                  as_aux_lemma =>
                  by_cases d1 : mid < E
                  · by_cases d2 : E < b
                    · have hd : decide (mid < E ∧ E < b) = true := decide_eq_true ⟨d1, d2⟩
                      have hd := Lib.hid hd
                      go_wp2_with fail
                      go_meet
                      exact ⟨by rw [hd.out], rfl⟩
                    · have hd : decide (mid < E ∧ E < b) = false := decide_eq_false fun h => d2 h.2
                      have hd := Lib.hid hd
                      go_wp2_with fail
                      go_meet
                      exact ⟨by rw [hd.out], rfl⟩
                  · have hd : decide (mid < E ∧ E < b) = false := decide_eq_false fun h => d1 h.1
                    have hd := Lib.hid hd
                    go_wp2_with fail
                    go_meet
                    exact ⟨by rw [hd.out], rfl⟩
                case rest =>
                  obtain ⟨rfl, hw⟩ := hcut
                  rw [hw]
                  clear hw
                  go_upto_if 213 with fail
                  by_cases d : mid < E ∧ E < b
                  · have hd : decide (mid < E ∧ E < b) = true := decide_eq_true d
                    have hc := Lib.hid (HCall2.out d.1 d.2)
                    rw [hd]
                    clear hd d
                    go_wp2_with fail
                    refine hc.out.mono ?_
                    rintro e w8 ⟨rfl, h7⟩
                    have H7 := Lib.hid h7
                    clear h7
                    go_wp2_with fail
                    go_end0
                    obtain ⟨C2, hM2, hS2, hC2⟩ := H7.out
                    exact ⟨rfl, C1 ++ C2, Merged.both M1.out hM2 Hall.out, half_out hS2, J7.out.trans hC2 fun _ _ e => e⟩
                  · have hd : decide (mid < E ∧ E < b) = false := decide_eq_false d
                    have hs := Lib.hid (HSame2.out d)
                    rw [hd]
                    clear hd d
                    go_wp2_with fail
                    go_end0
                    obtain ⟨C2, hM2, hS2, hC2⟩ := hs.out
                    exact ⟨rfl, C1 ++ C2, Merged.both M1.out hM2 Hall.out, half_out hS2, J7.out.trans hC2 fun _ _ e => e⟩
end
end Go.Proofs.Ytihocfdnkongkaa
