/- The document's sameness of rows of integers, texts, flags, where they are the same. Conditions: rows of at most 1000000. -/
import Derived.Test.YtlokfmalpkahaaaGreatKrStl
import Derived.Test.YtlokfmalpkahaaaGreatKrQ6
import Derived.Test.YtlokfmalpkahaaaGreatKrQ10
namespace Go.Proofs.YtlokfmalpkahaaaGreat
open Go.RowKit
set_option linter.unusedVariables false
set_option maxRecDepth 100000
set_option maxHeartbeats 2000000 in
theorem same_texts (D E : Nat → Prop) (A B : Option Addr) (n c d : Nat) (l : List ByteArray) (W : World) (ha : Rd W D 1 A n (stl l)) (hb : Rd W E 1 B n (stl l)) (hl : l.length = n) (hn : n ≤ 1000000) :
    Calls Tryz.prog 15 #[.slice A n c, .slice B n d] W fun e w' => e = .returned (.bool true) ∧ Nx W w' := by
  subst hl
  go_enter Tryz.func15, Tryz.ntmps15
  go_wp2_with fail
  go_loopw [13] (fun i wr => ∃ k q : Nat, k ≤ l.length ∧ i = .int .i64 (k : Int) ∧ wr = W.drewN q) (fun i _ => l.length - (intOf i).toNat)
  case atStart => exact ⟨0, 0, Nat.zero_le _, rfl, rfl⟩
  case round =>
    obtain ⟨k, q, hk, rfl, rfl⟩ := hrel
    by_cases hlt : k < l.length
    · obtain ⟨aa, rfl, _, hca⟩ := ha.2 (by omega)
      obtain ⟨ab, rfl, _, hcb⟩ := hb.2 (by omega)
      have c1 := hca k _ (stg hlt)
      have c2 := hcb k _ (stg hlt)
      clear hca hcb
      generalize l.getD k ByteArray.empty = s at *
      have hq : (s.toList == s.toList) = true := by simp
      go_wp2_with fail
      go_quiet (fail)
      go_wp2_with fail
      go_roundw
      case rel => exact ⟨k + 1, _, by omega, by go_num, rfl⟩
      case measure => simp [intOf]; omega
    · obtain rfl : k = l.length := by omega
      have hx : Nx W (W.drewN q) := (Ch.refl _ W).drewN q
      go_wp2_with fail
      go_ret
      exact ⟨rfl, hx⟩
set_option maxHeartbeats 2000000 in
theorem same_ints (D E : Nat → Prop) (A B : Option Addr) (n c d : Nat) (l : List Int) (W : World) (ha : Rd W D 1 A n (il l)) (hb : Rd W E 1 B n (il l)) (hl : l.length = n) (hn : n ≤ 1000000) :
    Calls Tryz.prog 24 #[.slice A n c, .slice B n d] W fun e w' => e = .returned (.bool true) ∧ Nx W w' := by
  subst hl
  go_enter Tryz.func24, Tryz.ntmps24
  go_wp2_with fail
  go_loopw [13] (fun i wr => ∃ k q : Nat, k ≤ l.length ∧ i = .int .i64 (k : Int) ∧ wr = W.drewN q) (fun i _ => l.length - (intOf i).toNat)
  case atStart => exact ⟨0, 0, Nat.zero_le _, rfl, rfl⟩
  case round =>
    obtain ⟨k, q, hk, rfl, rfl⟩ := hrel
    by_cases hlt : k < l.length
    · obtain ⟨aa, rfl, _, hca⟩ := ha.2 (by omega)
      obtain ⟨ab, rfl, _, hcb⟩ := hb.2 (by omega)
      have c1 := hca k _ (dil_at hlt)
      have c2 := hcb k _ (dil_at hlt)
      clear hca hcb
      generalize l.getD k 0 = s at *
      go_wp2_with fail
      go_quiet (fail)
      go_wp2_with fail
      go_roundw
      case rel => exact ⟨k + 1, _, by omega, by go_num, rfl⟩
      case measure => simp [intOf]; omega
    · obtain rfl : k = l.length := by omega
      have hx : Nx W (W.drewN q) := (Ch.refl _ W).drewN q
      go_wp2_with fail
      go_ret
      exact ⟨rfl, hx⟩
set_option maxHeartbeats 2000000 in
theorem same_flags (D E : Nat → Prop) (A B : Option Addr) (n c d : Nat) (l : List Bool) (W : World) (ha : Rd W D 1 A n (fbl l)) (hb : Rd W E 1 B n (fbl l)) (hl : l.length = n) (hn : n ≤ 1000000) :
    Calls Tryz.prog 31 #[.slice A n c, .slice B n d] W fun e w' => e = .returned (.bool true) ∧ Nx W w' := by
  subst hl
  go_enter Tryz.func31, Tryz.ntmps31
  go_wp2_with fail
  go_loopw [13] (fun i wr => ∃ k q : Nat, k ≤ l.length ∧ i = .int .i64 (k : Int) ∧ wr = W.drewN q) (fun i _ => l.length - (intOf i).toNat)
  case atStart => exact ⟨0, 0, Nat.zero_le _, rfl, rfl⟩
  case round =>
    obtain ⟨k, q, hk, rfl, rfl⟩ := hrel
    by_cases hlt : k < l.length
    · obtain ⟨aa, rfl, _, hca⟩ := ha.2 (by omega)
      obtain ⟨ab, rfl, _, hcb⟩ := hb.2 (by omega)
      have c1 := hca k _ (fbl_get hlt)
      have c2 := hcb k _ (fbl_get hlt)
      clear hca hcb
      generalize l[k] = s at *
      have hq : (s == s) = true := by simp
      go_wp2_with fail
      go_quiet (fail)
      go_wp2_with fail
      go_roundw
      case rel => exact ⟨k + 1, _, by omega, by go_num, rfl⟩
      case measure => simp [intOf]; omega
    · obtain rfl : k = l.length := by omega
      have hx : Nx W (W.drewN q) := (Ch.refl _ W).drewN q
      go_wp2_with fail
      go_ret
      exact ⟨rfl, hx⟩
end Go.Proofs.YtlokfmalpkahaaaGreat
