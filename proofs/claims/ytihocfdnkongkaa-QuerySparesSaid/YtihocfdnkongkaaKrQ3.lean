/- The contracts of package label's name, Right, Get, Asks. Conditions: none. · The contracts of the reference's letter and Name (layer 8). Conditions: none. -/
import Derived.Test.YtihocfdnkongkaaKrRowM
import Derived.Deep.RegionHeld3
import Derived.StillTailTactics
namespace Go.Proofs.Ytihocfdnkongkaa
set_option maxRecDepth 100000
open Go.RowKit
set_option linter.unusedVariables false
theorem let_cases (c k : Nat) : ((97 : Int) ≤ c ∧ (c : Int) ≤ 122 ∧ letF c k = true) ∨ (¬ (97 : Int) ≤ c ∧ ¬ (0 : Int) < k ∧ letF c k = false) ∨ ((97 : Int) ≤ c ∧ ¬ (c : Int) ≤ 122 ∧ ¬ (0 : Int) < k ∧ letF c k = false) ∨ ((97 : Int) ≤ c ∧ ¬ (c : Int) ≤ 122 ∧ (0 : Int) < k ∧ (48 : Int) ≤ c ∧ ¬ (c : Int) ≤ 57 ∧ ((c : Int) == 95) = false ∧ letF c k = false) ∨
    (¬ (97 : Int) ≤ c ∧ (0 : Int) < k ∧ ¬ (48 : Int) ≤ c ∧ ((c : Int) == 95) = false ∧ letF c k = false) ∨ (¬ (97 : Int) ≤ c ∧ (0 : Int) < k ∧ (48 : Int) ≤ c ∧ (c : Int) ≤ 57 ∧ letF c k = true) ∨ (¬ (97 : Int) ≤ c ∧ (0 : Int) < k ∧ (48 : Int) ≤ c ∧ ¬ (c : Int) ≤ 57 ∧ ((c : Int) == 95) = false ∧ letF c k = false) ∨ (¬ (97 : Int) ≤ c ∧ (0 : Int) < k ∧ (48 : Int) ≤ c ∧ ¬ (c : Int) ≤ 57 ∧ ((c : Int) == 95) = true ∧ letF c k = true) := by
  have T : (97 ≤ c ∧ c ≤ 122) ∨ (0 < k ∧ ((48 ≤ c ∧ c ≤ 57) ∨ c = 95)) → letF c k = true := fun h => by
    unfold letF
    rw [Bool.or_eq_true, Bool.and_eq_true, Bool.or_eq_true]
    simp only [decide_eq_true_eq]
    exact h
  have F : ¬ ((97 ≤ c ∧ c ≤ 122) ∨ (0 < k ∧ ((48 ≤ c ∧ c ≤ 57) ∨ c = 95))) → letF c k = false := fun h => by
    cases hl : letF c k with
    | false => rfl
    | true =>
      exfalso
      unfold letF at hl
      rw [Bool.or_eq_true, Bool.and_eq_true, Bool.or_eq_true] at hl
      simp only [decide_eq_true_eq] at hl
      exact h hl
  by_cases a1 : (97 : Int) ≤ c
  · by_cases a2 : (c : Int) ≤ 122
    · exact .inl ⟨a1, a2, T (by omega)⟩
    · by_cases b0 : k = 0
      · exact .inr (.inr (.inl ⟨a1, a2, by omega, F (by omega)⟩))
      · exact .inr (.inr (.inr (.inl ⟨a1, a2, by omega, by omega, by omega, by rw [beq_eq_false_iff_ne]; omega, F (by omega)⟩)))
  · by_cases b0 : k = 0
    · exact .inr (.inl ⟨a1, by omega, F (by omega)⟩)
    · by_cases b1 : (48 : Int) ≤ c
      · by_cases b2 : (c : Int) ≤ 57
        · exact .inr (.inr (.inr (.inr (.inr (.inl ⟨a1, by omega, b1, b2, T (by omega)⟩)))))
        · by_cases b3 : (c : Int) = 95
          · exact .inr (.inr (.inr (.inr (.inr (.inr (.inr ⟨a1, by omega, b1, b2, by rw [beq_iff_eq]; exact b3, T (by omega)⟩))))))
          · exact .inr (.inr (.inr (.inr (.inr (.inr (.inl ⟨a1, by omega, b1, b2, by rw [beq_eq_false_iff_ne]; exact b3, F (by omega)⟩))))))
      · exact .inr (.inr (.inr (.inr (.inl ⟨a1, by omega, b1, by rw [beq_eq_false_iff_ne]; omega, F (by omega)⟩))))
theorem byte_at {s : ByteArray} {k : Nat} (h : k < s.size) : byteF s k = s[k].toNat := by
  unfold byteF
  rw [Array.getElem?_eq_getElem (show k < s.data.size from h)]
  rfl
section
variable {w : World}
set_option maxHeartbeats 4000000 in
theorem name_any (s : ByteArray) (w : World) (hs : s.size ≤ 9223372036854775807) : Calls Try.prog 47 #[.string s] w fun en w' => en = .returned (.bool (nameF s)) ∧ w = w' := by
  have hall : (∀ i, i < s.size → letF (byteF s i) i = true) → nameF s = decide (1 ≤ s.size ∧ s.size ≤ 8) := fun h => by
    unfold nameF
    rw [show ((List.range s.size).all fun i => letF (byteF s i) i) = true from all_range.2 h, Bool.and_true]
  have hbad : ∀ k (h : k < s.size), letF s[k].toNat k = false → nameF s = false := fun k h hf => by
    unfold nameF
    rw [Bool.and_eq_false_iff]
    right
    rw [List.all_eq_false]
    refine ⟨k, List.mem_range.2 h, ?_⟩
    rw [byte_at h, hf]
    simp
  have Hall := Lib.hid hall
  have Hbad := Lib.hid hbad
  clear hall hbad
  go_enter Try.func47, Try.ntmps47
  go_wp2_with fail
  go_loop [7] (fun i => ∃ k : Nat, k ≤ s.size ∧ i = .int .i64 k ∧ Hid (∀ i, i < k → letF (byteF s i) i = true)) (fun i => s.size - (intOf i).toNat)
  case atStart => exact ⟨0, by omega, rfl, Lib.hid (fun i hk => by omega)⟩
  case round =>
    obtain ⟨k, hk, rfl, He⟩ := hrel
    by_cases hlt : k < s.size
    · have hB := Lib.hid (Hbad.out k hlt)
      have hG : Hid (letF s[k].toNat k = true → ∀ i, i < k + 1 → letF (byteF s i) i = true) := Lib.hid (fun h i hi => by
        by_cases e : i = k
        · subst e; rw [byte_at hlt]; exact h
        · exact He.out i (by omega))
      rcases let_cases s[k].toNat k with ⟨c1, c2, c3⟩ | ⟨c1, c2, c3⟩ | ⟨c1, c2, c4, c3⟩ | ⟨c1, c2, c4, c5, c6, c7, c3⟩ | ⟨c1, c4, c5, c6, c3⟩ | ⟨c1, c2, c4, c5, c3⟩ | ⟨c1, c2, c4, c5, c6, c3⟩ | ⟨c1, c2, c4, c5, c6, c3⟩
      all_goals
        have Hc := Lib.hid c3
        clear c3
        first
        | (have Hk := Lib.hid (hB.out Hc.out)
           go_wp2_with fail
           go_ret
           exact ⟨by rw [Hk.out]; rfl, rfl⟩)
        | (go_wp2_with fail
           go_round
           case rel => exact ⟨k + 1, by omega, by go_num, Lib.hid (hG.out Hc.out)⟩
           case measure => simp [intOf]; omega)
    · have hkk : s.size = k := by omega
      have Hk := Lib.hid (Hall.out fun i hi => He.out i (by omega))
      by_cases h1 : 1 ≤ s.size
      · have e : Hid (decide (1 ≤ s.size ∧ s.size ≤ 8) = decide ((s.size : Int) ≤ 8)) := Lib.hid (by rw [decide_eq_decide]; omega)
        clear hkk
        go_wp2_with fail
        go_ret
        exact ⟨by rw [Hk.out, e.out]; rfl, rfl⟩
      · have e : Hid (decide (1 ≤ s.size ∧ s.size ≤ 8) = false) := Lib.hid (by simp [h1])
        clear hkk
        go_wp2_with fail
        go_ret
        exact ⟨by rw [Hk.out, e.out]; rfl, rfl⟩
end
end Go.Proofs.Ytihocfdnkongkaa
namespace Go.Proofs.Ytihocfdnkongkaa
set_option maxRecDepth 100000
open Go.RowKit
set_option linter.unusedVariables false
theorem letF_pos (c : Nat) {k : Nat} (h : 0 < k) : letF c k = letF c 1 := by
  unfold letF
  rw [decide_eq_true h, decide_eq_true (show 0 < 1 by decide)]
theorem letF_zero (c : Nat) : letF c 0 = decide (97 ≤ c ∧ c ≤ 122) := by
  unfold letF
  simp
theorem letF_low {c : Nat} (h1 : 97 ≤ c) (h2 : c ≤ 122) (k : Nat) : letF c k = true := by
  unfold letF
  rw [decide_eq_true ⟨h1, h2⟩]
  rfl
section
variable {w : World}
set_option maxHeartbeats 2000000 in
theorem letter_any (c : Nat) (hc : c < 256) (w : World) : Calls Try.prog 48 #[.int .u8 (c : Int)] w fun e w' => e = .returned (.bool (letF c 1)) ∧ w = w' := by
  rcases let_cases c 1 with ⟨c1, c2, c3⟩ | ⟨c1, c2, c3⟩ | ⟨c1, c2, c4, c3⟩ | ⟨c1, c2, c4, c5, c6, c7, c3⟩ | ⟨c1, c4, c5, c6, c3⟩ | ⟨c1, c2, c4, c5, c3⟩ | ⟨c1, c2, c4, c5, c6, c3⟩ | ⟨c1, c2, c4, c5, c6, c3⟩
  all_goals
    have Hc := Lib.hid c3
    clear c3
    first
    | (exfalso; omega)
    | (go_enter Try.func48, Try.ntmps48
       go_wp2_with fail
       go_ret
       exact ⟨by rw [Hc.out]; rfl, rfl⟩)
theorem nameF_bad {s : ByteArray} {k : Nat} (h : k < s.size) (hf : letF s[k].toNat k = false) : nameF s = false := by
  unfold nameF
  rw [Bool.and_eq_false_iff]
  right
  rw [List.all_eq_false]
  refine ⟨k, List.mem_range.2 h, ?_⟩
  rw [byte_at h, hf]
  simp
theorem nameF_good {s : ByteArray} (h1 : 1 ≤ s.size) (h8 : s.size ≤ 8) (h : ∀ i, i < s.size → letF (byteF s i) i = true) : nameF s = true := by
  unfold nameF
  rw [show ((List.range s.size).all fun i => letF (byteF s i) i) = true from all_range.2 h, Bool.and_true]
  exact decide_eq_true ⟨h1, h8⟩
theorem nameF_size {s : ByteArray} (h : ¬ (1 ≤ s.size ∧ s.size ≤ 8)) : nameF s = false := by
  unfold nameF
  rw [decide_eq_false h]
  rfl
set_option maxHeartbeats 4000000 in
theorem name8_any (s : ByteArray) (w : World) (hs : s.size ≤ 9223372036854775807) : Calls Try.prog 28 #[.string s] w fun en w' => en = .returned (.bool (nameF s)) ∧ w = w' := by
  by_cases h1 : 1 ≤ s.size
  · by_cases h8 : s.size ≤ 8
    · have h0 : 0 < s.size := h1
      have HB0 := Lib.hid (fun (h : letF s[0].toNat 0 = false) => nameF_bad h0 h)
      have hb0 := letF_zero s[0].toNat
      by_cases d1 : 97 ≤ s[0].toNat
      · by_cases d2 : s[0].toNat ≤ 122
        · have e1 : ¬ ((s[0].toNat : Int) < 97) := by omega
          have e2 : ¬ ((122 : Int) < (s[0].toNat : Int)) := by omega
          have HB := Lib.hid (fun k (hk : k < s.size) (h : letF s[k].toNat 1 = false) => nameF_bad hk (by
            by_cases hz : k = 0
            · subst hz; rw [letF_low d1 d2] at h; cases h
            · rw [letF_pos _ (by omega)]; exact h))
          have HG := Lib.hid (fun (h : ∀ i (hi : i < s.size), letF s[i].toNat 1 = true) => nameF_good h1 h8 (fun i hi => by
            rw [byte_at hi]
            by_cases hz : i = 0
            · subst hz; exact letF_low d1 d2 _
            · rw [letF_pos _ (by omega)]; exact h i hi))
          clear hb0 d1 d2 HB0
          go_enter Try.func28, Try.ntmps28
          go_wp2_with fail
          go_loop [3] (fun i => ∃ k : Nat, k ≤ s.size ∧ i = .int .i64 k ∧ Hid (∀ i (hi : i < s.size), i < k → letF s[i].toNat 1 = true)) (fun i => s.size - (intOf i).toNat)
          case atStart => exact ⟨0, by omega, rfl, Lib.hid (fun i _ hk => by omega)⟩
          case round =>
            obtain ⟨k, hk, rfl, He⟩ := hrel
            by_cases hlt : k < s.size
            · have hb := UInt8.toNat_lt s[k]
              have HL := Lib.hid (fun w => letter_any s[k].toNat hb w)
              have HBk := Lib.hid (HB.out k hlt)
              have HE := Lib.hid (fun (h : letF s[k].toNat 1 = true) i (hi : i < s.size) (hk : i < k + 1) => (by
                by_cases e : i = k
                · subst e; exact h
                · exact He.out i hi (by omega) : letF s[i].toNat 1 = true))
              clear hb
              cases hv : letF s[k].toNat 1
              · rw [hv] at HL
                have HR := Lib.hid (HBk.out hv)
                clear hv HBk
                go_wp2_with fail
                refine (HL.out _).mono ?_
                rintro e w1 ⟨rfl, rfl⟩
                go_wp2_with fail
                go_ret
                exact ⟨by rw [HR.out]; rfl, rfl⟩
              · rw [hv] at HL
                have HR := Lib.hid (HE.out hv)
                clear hv HBk
                go_wp2_with fail
                refine (HL.out _).mono ?_
                rintro e w1 ⟨rfl, rfl⟩
                go_wp2_with fail
                go_round
                case rel => exact ⟨k + 1, by omega, by go_num, HR⟩
                case measure => simp [intOf]; omega
            · have HR := Lib.hid (HG.out fun i hi => He.out i hi (by omega))
              go_wp2_with fail
              go_ret
              exact ⟨by rw [HR.out]; rfl, rfl⟩
        · have e1 : ¬ ((s[0].toNat : Int) < 97) := by omega
          have e2 : ((122 : Int) < (s[0].toNat : Int)) := by omega
          have HR := Lib.hid (HB0.out (by rw [hb0]; exact decide_eq_false (by omega)))
          clear hb0 d1 d2 HB0
          go_enter Try.func28, Try.ntmps28
          go_wp2_with fail
          go_ret
          exact ⟨by rw [HR.out]; rfl, rfl⟩
      · have e1 : ((s[0].toNat : Int) < 97) := by omega
        have HR := Lib.hid (HB0.out (by rw [hb0]; exact decide_eq_false (by omega)))
        clear hb0 d1 HB0
        go_enter Try.func28, Try.ntmps28
        go_wp2_with fail
        go_ret
        exact ⟨by rw [HR.out]; rfl, rfl⟩
    · have HR := Lib.hid (nameF_size (s := s) (by omega))
      have h8' : (8 : Int) < (s.size : Int) := by omega
      go_enter Try.func28, Try.ntmps28
      go_wp2_with fail
      go_ret
      exact ⟨by rw [HR.out]; rfl, rfl⟩
  · have HR := Lib.hid (nameF_size (s := s) (by omega))
    have h1' : (s.size : Int) < 1 := by omega
    go_enter Try.func28, Try.ntmps28
    go_wp2_with fail
    go_ret
    exact ⟨by rw [HR.out]; rfl, rfl⟩
end
end Go.Proofs.Ytihocfdnkongkaa
