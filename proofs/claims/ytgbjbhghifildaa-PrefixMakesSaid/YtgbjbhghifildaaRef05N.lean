/- The contract of entrepotref05.Number. Conditions: a word of at most 15 bits. -/
import Derived.Test.YtgbjbhghifildaaPrefixL
import Derived.Test.YtgbjbhghifildaaPlainX
namespace Go.Proofs.Ytgbjbhghifildaa
open Go.RowKit
set_option linter.unusedVariables false

set_option maxHeartbeats 400000 in
theorem ref_number (l : List Bool) (w : World) (hl : l.length ≤ 15) :
    Calls Try.prog 35 #[.string (txt l)] w fun e w' => e = .returned (.int .u32 (numOf l l.length)) ∧ w' = w := by
  have hs := txt_size l
  generalize hT : txt l = s at *
  have Hs := Lib.hid hs
  have hs15 : s.size ≤ 15 := by omega
  clear hs
  go_enter Try.func35, Try.ntmps35
  go_wp2_with fail
  go_loop [3, 4] (fun n i => ∃ k : Nat, k ≤ s.size ∧ i = .int .i64 k ∧ n = .int .u32 (numOf l k : Int)) (fun _ i => s.size - (intOf i).toNat)
  case atStart => exact ⟨0, Nat.zero_le _, rfl, rfl⟩
  case round =>
    obtain ⟨k, hk, rfl, rfl⟩ := hrel
    by_cases hlt : k < s.size
    · have hkl : k < l.length := by have := Hs.out; omega
      have hb : s[k].toNat = 48 + b2n (l.getD k false) := by
        subst hT
        rw [txt_get l k hlt, chr_nat]
        simp [List.getD, hkl]
      have hn : numOf l (k + 1) = 2 * numOf l k + b2n (l.getD k false) := rfl
      have hlt2 := msb_lt (fun i => b2n (l.getD i false)) (fun i => by cases l.getD i false <;> decide) k
      have hp : (2 : Nat) ^ k ≤ 2 ^ 15 := Nat.pow_le_pow_right (by omega) (by omega)
      have hnk : numOf l k < 32768 := by unfold numOf; omega
      have hbb : b2n (l.getD k false) < 2 := by cases l.getD k false <;> decide
      clear hlt2 hp
      generalize b2n (l.getD k false) = b at *
      have Hn := Lib.hid hn
      clear hn
      go_wp2_with fail
      go_round
      case rel => exact ⟨k + 1, by omega, by go_num, by rw [Hn.out]; congr 1; omega⟩
      case measure => simp [intOf]; omega
    · go_wp2_with fail
      go_ret
      have e : k = l.length := by have := Hs.out; omega
      subst e
      exact ⟨by simp, rfl⟩
end Go.Proofs.Ytgbjbhghifildaa
