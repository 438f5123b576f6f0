/- The contract of rotate. Conditions: none. -/
import Derived.Test.YtdfodcbpmfifgaaSrC
namespace Go.Proofs.Ytdfodcbpmfifgaa
set_option maxRecDepth 100000
open Go.RowKit
set_option linter.unusedVariables false
section
variable {w : World} {g cap : Nat} {A : Option Addr} {ys : List RV}
set_option maxHeartbeats 8000000 in
theorem rotate_any (h : SA w g A cap ys) (hn : ys.length ≤ 1000000) (a m b : Nat) (h1 : a < m) (h2 : m < b) (h3 : b ≤ ys.length) (F : Value) :
    Calls Try.prog 49 #[.slice A ys.length cap, .int .i64 a, .int .i64 m, .int .i64 b, F] w fun e w' => e = .returned (.tuple #[]) ∧ SA w' g A cap (rotL ys a m b) ∧ Ch (fun k => k = g) w w' := by
  go_enter Try.func49, Try.ntmps49
  go_wp2_with fail
  go_loopw [10, 11] (fun s10 s11 wr => ∃ (i j : Nat) (zs : List RV), 0 < i ∧ 0 < j ∧ i ≤ m ∧ m + j ≤ ys.length ∧ s10 = .int .i64 (i : Int) ∧ s11 = .int .i64 (j : Int) ∧ zs.length = ys.length ∧ SA wr g A cap zs ∧ Ch (fun k => k = g) w wr ∧ rotL zs (m - i) m (m + j) = rotL ys a m b) (fun s10 s11 _ => (intOf s10).toNat + (intOf s11).toNat)
  case atStart => exact ⟨m - a, b - m, ys, by omega, by omega, by omega, by omega, by go_num, by go_num, rfl, h, Ch.refl _ _, by congr 1 <;> omega⟩
  case round =>
    obtain ⟨w4, rfl⟩ : ∃ w4 : World, w4 = wr := ⟨_, rfl⟩
    obtain ⟨i, j, zs, hi, hj, him, hjm, rfl, rfl, hl, hs, hc, he⟩ := hrel
    have Hsw := Lib.hid (fun a b n h1 h2 => swaprange_any hs (by omega) a b n h1 h2 F)
    rw [hl] at Hsw
    have HC := Lib.hid hc
    have HE := Lib.hid he
    clear hs hc he h
    by_cases hlt : j < i
    · have ht : ((i : Int) != (j : Int)) = true := by simp; omega
      have HR := Lib.hid (rot_left zs hlt him (by omega))
      have HK := Lib.hid (Hsw.out (m - i) m j (by omega) (by omega))
      clear Hsw
      have hz : m - i + j = m - (i - j) := by omega
      rw [hz] at HR
      have e1 : ((m - i : Nat) : Int) = (m : Int) - i := by omega
      rw [e1] at HK
      go_wp2_with fail
      refine HK.out.mono ?_
      rintro e w5 ⟨rfl, s5, c5⟩
      have S5 := Lib.hid s5
      have C5 := Lib.hid c5
      clear s5 c5
      go_wp2_with fail
      go_roundw
      case rel => exact ⟨i - j, j, _, by omega, hj, by omega, hjm, by go_num, rfl, (swapsL_len _ _ _ _).trans hl, S5.out, HC.out.trans C5.out fun _ _ e => e, HR.out.trans HE.out⟩
      case measure => simp [intOf]; omega
    · by_cases hlt2 : i < j
      · have ht : ((i : Int) != (j : Int)) = true := by simp; omega
        have HR := Lib.hid (rot_right zs hlt2 him (by omega))
        have HK := Lib.hid (Hsw.out (m - i) (m + j - i) i (by omega) (by omega))
        clear Hsw
        have e1 : ((m - i : Nat) : Int) = (m : Int) - i := by omega
        have e2 : ((m + j - i : Nat) : Int) = (m : Int) + j - i := by omega
        rw [e1, e2] at HK
        go_wp2_with fail
        refine HK.out.mono ?_
        rintro e w5 ⟨rfl, s5, c5⟩
        have S5 := Lib.hid s5
        have C5 := Lib.hid c5
        clear s5 c5
        go_wp2_with fail
        go_roundw
        case rel => exact ⟨i, j - i, _, hi, by omega, him, by omega, rfl, by go_num, (swapsL_len _ _ _ _).trans hl, S5.out, HC.out.trans C5.out fun _ _ e => e, HR.out.trans HE.out⟩
        case measure => simp [intOf]; omega
      · obtain rfl : i = j := by omega
        have HR := Lib.hid (rot_last zs him (by omega))
        have HK := Lib.hid (Hsw.out (m - i) m i (by omega) (by omega))
        clear Hsw
        have e1 : ((m - i : Nat) : Int) = (m : Int) - i := by omega
        rw [e1] at HK
        go_wp2_with fail
        refine HK.out.mono ?_
        rintro e w5 ⟨rfl, s5, c5⟩
        rw [HR.out, HE.out] at s5
        have S5 := Lib.hid s5
        have C5 := Lib.hid c5
        clear s5 c5
        go_wp2_with fail
        go_end0
        exact ⟨rfl, S5.out, HC.out.trans C5.out fun _ _ e => e⟩
end
end Go.Proofs.Ytdfodcbpmfifgaa
