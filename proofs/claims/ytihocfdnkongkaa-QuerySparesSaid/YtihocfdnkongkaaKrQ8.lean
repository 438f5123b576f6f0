/- The contracts of package label's digit, plain, value. Conditions: texts no longer than the reach. · The contracts of package label's Asks, Meets, of strings.HasPrefix. Conditions: none. -/
import Derived.Test.YtihocfdnkongkaaKrPlainPs
import Derived.Test.YtihocfdnkongkaaKrLbB
import Derived.Test.YtihocfdnkongkaaKrOwn
namespace Go.Proofs.Ytihocfdnkongkaa
set_option maxRecDepth 100000
open Go.RowKit Ps
set_option linter.unusedVariables false
def dgI (c : Nat) : Int := match dgF c with
  | some x => (x : Int)
  | none => -1
set_option maxHeartbeats 1000000 in
theorem digit_any (c : Nat) (hc : c < 256) (w : World) : Calls Try.prog 64 #[.int .u8 (c : Int)] w fun e w' => e = .returned (.int .i64 (dgI c)) ∧ w = w' := by
  by_cases a1 : 48 ≤ c ∧ c ≤ 57
  · have HR : Hid (dgI c = (c : Int) - 48) := Lib.hid (by unfold dgI dgF; rw [if_pos a1]; simp only; omega)
    have b1 : (48 : Int) ≤ (c : Int) := by omega
    have b2 : (c : Int) ≤ 57 := by omega
    clear a1
    go_enter Try.func64, Try.ntmps64
    go_wp2_with fail
    go_ret
    exact ⟨by rw [HR.out]; rfl, rfl⟩
  · by_cases a2 : 97 ≤ c ∧ c ≤ 102
    · have HR : Hid (dgI c = (c : Int) - 97 + 10) := Lib.hid (by unfold dgI dgF; rw [if_neg a1, if_pos a2]; simp only; omega)
      have b1 : (48 : Int) ≤ (c : Int) := by omega
      have b2 : ¬ (c : Int) ≤ 57 := by omega
      have b3 : (97 : Int) ≤ (c : Int) := by omega
      have b4 : (c : Int) ≤ 102 := by omega
      clear a1 a2
      go_enter Try.func64, Try.ntmps64
      go_wp2_with fail
      go_ret
      exact ⟨by rw [HR.out]; rfl, rfl⟩
    · have HR : Hid (dgI c = -1) := Lib.hid (by unfold dgI dgF; rw [if_neg a1, if_neg a2])
      by_cases c1 : (48 : Int) ≤ (c : Int)
      · have b2 : ¬ (c : Int) ≤ 57 := by omega
        by_cases c2 : (97 : Int) ≤ (c : Int)
        · have b4 : ¬ (c : Int) ≤ 102 := by omega
          clear a1 a2
          go_enter Try.func64, Try.ntmps64
          go_wp2_with fail
          go_ret
          exact ⟨by rw [HR.out]; rfl, rfl⟩
        · clear a1 a2
          go_enter Try.func64, Try.ntmps64
          go_wp2_with fail
          go_ret
          exact ⟨by rw [HR.out]; rfl, rfl⟩
      · have c2 : ¬ (97 : Int) ≤ (c : Int) := by omega
        clear a1 a2
        go_enter Try.func64, Try.ntmps64
        go_wp2_with fail
        go_ret
        exact ⟨by rw [HR.out]; rfl, rfl⟩
set_option maxHeartbeats 1000000 in
theorem plain_any (c : Nat) (hc : c < 256) (w : World) : Calls Try.prog 34 #[.int .u8 (c : Int)] w fun e w' => e = .returned (.bool (plF c)) ∧ w = w' := by
  by_cases a : 32 ≤ c ∧ c ≤ 126 ∧ c ≠ 34 ∧ c ≠ 92
  · have HR : Hid (plF c = true) := Lib.hid (decide_eq_true a)
    have b1 : (32 : Int) ≤ (c : Int) := by omega
    have b2 : (c : Int) ≤ 126 := by omega
    have b3 : ((c : Int) != 34) = true := by rw [bne_iff_ne]; omega
    have b4 : ((c : Int) != 92) = true := by rw [bne_iff_ne]; omega
    clear a
    go_enter Try.func34, Try.ntmps34
    go_wp2_with fail
    go_ret
    exact ⟨by rw [HR.out]; rfl, rfl⟩
  · have HR : Hid (plF c = false) := Lib.hid (decide_eq_false a)
    by_cases b1 : (32 : Int) ≤ (c : Int)
    · by_cases b2 : (c : Int) ≤ 126
      · by_cases b3 : (c : Int) = 34
        · have b3' : ((c : Int) != 34) = false := by rw [b3]; rfl
          clear a b3
          go_enter Try.func34, Try.ntmps34
          go_wp2_with fail
          go_ret
          exact ⟨by rw [HR.out]; rfl, rfl⟩
        · have b3' : ((c : Int) != 34) = true := by rw [bne_iff_ne]; exact b3
          have b4' : ((c : Int) != 92) = false := by rw [bne_eq_false_iff_eq]; omega
          clear a b3
          go_enter Try.func34, Try.ntmps34
          go_wp2_with fail
          go_ret
          exact ⟨by rw [HR.out]; rfl, rfl⟩
      · clear a
        go_enter Try.func34, Try.ntmps34
        go_wp2_with fail
        go_ret
        exact ⟨by rw [HR.out]; rfl, rfl⟩
    · clear a
      go_enter Try.func34, Try.ntmps34
      go_wp2_with fail
      go_ret
      exact ⟨by rw [HR.out]; rfl, rfl⟩
end Go.Proofs.Ytihocfdnkongkaa
namespace Go.Proofs.Ytihocfdnkongkaa
set_option maxRecDepth 100000
open Go.RowKit
set_option linter.unusedVariables false
theorem empty_eq (s : ByteArray) : decide (s = ⟨#[]⟩) = decide (s.size = 0) := by
  rw [decide_eq_decide]
  constructor
  · rintro rfl; rfl
  · intro h
    obtain ⟨a⟩ := s
    have : a = #[] := Array.eq_empty_of_size_eq_zero h
    rw [this]
theorem emp_eq (s : ByteArray) : s.toList.isEmpty = decide (s.size = 0) := by
  rw [ByteArray.toList_eq]
  obtain ⟨a⟩ := s
  show a.toList.isEmpty = decide (a.size = 0)
  rw [Bool.eq_iff_iff, List.isEmpty_iff, decide_eq_true_iff]
  constructor
  · intro h
    rw [← Array.length_toList, h]
    rfl
  · intro h
    exact List.eq_nil_of_length_eq_zero (by rw [Array.length_toList]; exact h)
theorem pref_eq (v p : ByteArray) (h : p.size ≤ v.size) : ((v.extract 0 p.size).toList == p.toList) = hasPF v p := by
  unfold hasPF
  rw [decide_eq_true h, Bool.true_and, Bool.eq_iff_iff, beq_iff_eq, decide_eq_true_iff, ByteArray.toList_eq, ByteArray.toList_eq]
  have e : (v.extract 0 p.size).data.toList = v.data.toList.take p.size := by simp
  rw [e]
section
variable {w : World} {D : Nat → Prop} {A : Option Addr} {n c : Nat} {l : List Lab}
set_option maxHeartbeats 4000000 in
theorem asks_any (m : Mat) (hm : m.small) (w : World) :
    Calls Try.prog 27 #[.agg #[.string m.name, .int .i64 m.way, .string m.value]] w fun e w' => e = .returned (.bool (asksF m)) ∧ Nx w w' := by
  have hnm := fun w => name_any m.name w hm.1
  have hnx : ∀ o, Nx w (w.alloc o) := fun o => (Ch.refl _ w).alloc o
  have HF : Hid (asksF m = (nameF m.name && decide (m.value.size ≤ 16) && (decide (1 ≤ m.way ∧ m.way ≤ 4)) && (decide (m.way ≠ 4) || decide (m.value.size = 0)))) := Lib.hid rfl
  have he := str_eq m.value ⟨#[]⟩
  rw [empty_eq] at he
  obtain ⟨nm, way, val⟩ := m
  simp only at *
  have Hnx := Lib.hid hnx
  clear hm hnx
  cases hv : nameF nm
  · rw [hv] at hnm
    have Hnm := Lib.hid hnm
    have HR : Hid (asksF ⟨nm, way, val⟩ = false) := Lib.hid (by rw [HF.out, hv]; rfl)
    clear hnm hv he
    go_enter Try.func27, Try.ntmps27
    go_wp2_with fail
    refine (Hnm.out _).mono ?_
    rintro e w1 ⟨rfl, rfl⟩
    go_wp2_with fail
    go_ret
    exact ⟨by rw [HR.out]; rfl, Hnx.out _⟩
  · rw [hv] at hnm
    have Hnm := Lib.hid hnm
    have Hv := Lib.hid hv
    clear hnm hv
    by_cases h1 : 1 ≤ way
    · by_cases h4 : way ≤ 4
      · by_cases h16 : val.size ≤ 16
        · have k16 : (val.size : Int) ≤ 16 := by omega
          by_cases h5 : way = 4
          · have k5 : (way != 4) = false := by rw [h5]; rfl
            have HR : Hid (asksF ⟨nm, way, val⟩ = decide (val.size = 0)) := Lib.hid (by rw [HF.out, Hv.out, decide_eq_true h16, decide_eq_true (show 1 ≤ way ∧ way ≤ 4 from ⟨h1, h4⟩), decide_eq_false (show ¬ way ≠ 4 by omega)]; simp)
            clear h5 h16 he
            rw [← emp_eq] at HR
            go_enter Try.func27, Try.ntmps27
            go_wp2_with fail
            refine (Hnm.out _).mono ?_
            rintro e w1 ⟨rfl, rfl⟩
            go_wp2_with fail
            go_ret
            exact ⟨by rw [HR.out]; rfl, Hnx.out _⟩
          · have k5 : (way != 4) = true := by rw [bne_iff_ne]; exact h5
            have HR : Hid (asksF ⟨nm, way, val⟩ = true) := Lib.hid (by rw [HF.out, Hv.out, decide_eq_true h16, decide_eq_true (show 1 ≤ way ∧ way ≤ 4 from ⟨h1, h4⟩), decide_eq_true h5]; rfl)
            clear h5 h16 he
            go_enter Try.func27, Try.ntmps27
            go_wp2_with fail
            refine (Hnm.out _).mono ?_
            rintro e w1 ⟨rfl, rfl⟩
            go_wp2_with fail
            go_ret
            exact ⟨by rw [HR.out]; rfl, Hnx.out _⟩
        · have k16 : ¬ (val.size : Int) ≤ 16 := by omega
          have HR : Hid (asksF ⟨nm, way, val⟩ = false) := Lib.hid (by rw [HF.out, Hv.out, decide_eq_false h16]; rfl)
          clear h16 he
          go_enter Try.func27, Try.ntmps27
          go_wp2_with fail
          refine (Hnm.out _).mono ?_
          rintro e w1 ⟨rfl, rfl⟩
          go_wp2_with fail
          go_ret
          exact ⟨by rw [HR.out]; rfl, Hnx.out _⟩
      · have HR : Hid (asksF ⟨nm, way, val⟩ = false) := Lib.hid (by rw [HF.out, Hv.out, decide_eq_false (show ¬ (1 ≤ way ∧ way ≤ 4) by omega)]; simp)
        clear he
        go_enter Try.func27, Try.ntmps27
        go_wp2_with fail
        refine (Hnm.out _).mono ?_
        rintro e w1 ⟨rfl, rfl⟩
        go_wp2_with fail
        go_ret
        exact ⟨by rw [HR.out]; rfl, Hnx.out _⟩
    · have HR : Hid (asksF ⟨nm, way, val⟩ = false) := Lib.hid (by rw [HF.out, Hv.out, decide_eq_false (show ¬ (1 ≤ way ∧ way ≤ 4) by omega)]; simp)
      clear he
      go_enter Try.func27, Try.ntmps27
      go_wp2_with fail
      refine (Hnm.out _).mono ?_
      rintro e w1 ⟨rfl, rfl⟩
      go_wp2_with fail
      go_ret
      exact ⟨by rw [HR.out]; rfl, Hnx.out _⟩
set_option maxHeartbeats 4000000 in
theorem pref_any (v p : ByteArray) (w : World) (hv : v.size ≤ 9223372036854775807) (hp : p.size ≤ 9223372036854775807) : Calls Try.prog 65 #[.string v, .string p] w fun e w' => e = .returned (.bool (hasPF v p)) ∧ w = w' := by
  by_cases h : p.size ≤ v.size
  · have k : (p.size : Int) ≤ (v.size : Int) := by omega
    have HR := Lib.hid (pref_eq v p h)
    go_enter Try.func65, Try.ntmps65
    go_wp2_with fail
    go_ret
    exact ⟨by rw [← HR.out]; rfl, rfl⟩
  · have k : ¬ (p.size : Int) ≤ (v.size : Int) := by omega
    have HR : Hid (hasPF v p = false) := Lib.hid (by unfold hasPF; rw [decide_eq_false h]; rfl)
    clear h
    go_enter Try.func65, Try.ntmps65
    go_wp2_with fail
    go_ret
    exact ⟨by rw [HR.out]; rfl, rfl⟩
set_option maxHeartbeats 4000000 in
theorem hasp_any (v p : ByteArray) (w : World) (hv : v.size ≤ 9223372036854775807) (hp : p.size ≤ 9223372036854775807) : Calls Try.prog 45 #[.string v, .string p] w fun e w' => e = .returned (.bool (hasPF v p)) ∧ w = w' := by
  have H := Lib.hid (fun w => pref_any v p w hv hp)
  go_enter Try.func45, Try.ntmps45
  go_wp2_with fail
  refine (H.out _).mono ?_
  rintro e w1 ⟨rfl, rfl⟩
  go_wp2_with fail
  go_ret
  exact ⟨rfl, rfl⟩
end
end Go.Proofs.Ytihocfdnkongkaa
