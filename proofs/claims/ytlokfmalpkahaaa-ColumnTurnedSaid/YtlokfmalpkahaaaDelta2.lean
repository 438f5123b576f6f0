/- The contracts of delta's Encode and Best. Conditions: ways 0, 1, 2; lengths within the reach. -/
import Derived.Test.YtlokfmalpkahaaaDelta
namespace Go.Proofs.Ytlokfmalpkahaaa
open Go.RowKit
set_option linter.unusedVariables false
set_option maxRecDepth 100000
set_option maxHeartbeats 4000000 in
theorem delta_Turn_bad (D : Nat → Prop) (A : Option Addr) (n c : Nat) (zs : List Int) (w : Nat) (W : World) (hr : Rd W D 1 A n (il zs)) (hl : zs.length = n) (hn : n ≤ 9223372036854775807) (hw : w ≤ 2) (he : rowErr zs ≠ 0) :
    Calls Try.prog 46 #[.slice A n c, .int .i64 (w : Int)] W fun e w' => e = .returned (.tuple #[.slice none 0 0, .int .i64 (rowErr zs)]) ∧ W = w' := by
  have hck := delta_check D A n c zs w W hr hl hn hw
  generalize rowErr zs = er at *
  have hne : (er != 0) = true := by rw [bne_iff_ne]; exact he
  have Hck := Lib.hid hck
  clear hck hl hr he
  go_enter Try.func46, Try.ntmps46
  go_wp2_with fail
  with_reducible refine Hck.out.mono ?_
  rintro e w1 ⟨rfl, rfl⟩
  go_wp2_with fail
  go_ret2
  exact ⟨rfl, rfl⟩
/-- what comes back from Encode where the row is right -/
def EncTo (W : World) (zs : List Int) (w : Nat) (e : Ending) (w' : World) : Prop :=
  ∃ k cap, e = .returned (.tuple #[.slice (some ⟨k, 0, none⟩) (encF zs w).length cap, .int .i64 0]) ∧ OwnS W w' 5 1 (.slice (some ⟨k, 0, none⟩) (encF zs w).length cap) (encF zs w).length (bl (encF zs w)) ∧ (encF zs w).length ≤ cap
set_option maxHeartbeats 8000000 in
theorem delta_Encode (D : Nat → Prop) (A : Option Addr) (n c : Nat) (zs : List Int) (w : Nat) (W : World) (hr : Rd W D 1 A n (il zs)) (hl : zs.length = n) (hw : w ≤ 2) (he : rowErr zs = 0) :
    Calls Try.prog 23 #[.slice A n c, .int .i64 (w : Int)] W (EncTo W zs w) := by
  obtain ⟨i0, hi0, hz0, hz1, hz2⟩ := info_parts Try.info5
  obtain ⟨hn, hin⟩ := rowErr_ok he
  have htn := delta_Turn D A n c zs w W hr hl hw he
  rw [hl] at hn
  have hbd := turnTo_bnd hin w hw
  have htl := turnTo_length zs w
  have HE : Hid (encF zs w = putU n ++ encBody (turnTo zs w)) := Lib.hid (by unfold encF; rw [hl])
  unfold TurnTo at htn
  rw [hl] at htn htl
  unfold EncTo
  generalize turnTo zs w = ts at *
  have Htl := Lib.hid htl
  have Htn := Lib.hid htn
  have hpu := fun w => nums_putU n w (by omega)
  have hpl := putU_len10 (n := n) (by omega)
  have Hpu := Lib.hid hpu
  clear htl htn hpu hl hr he
  go_enter Try.func23, Try.ntmps23
  go_wp2_with fail
  with_reducible refine Htn.out.mono ?_
  rintro e w1 ⟨v1, rfl, o1⟩
  obtain ⟨A1, c1, rfl, _, _⟩ := o1.form
  have r1 := o1.rd
  go_wp2_with fail
  with_reducible refine (Hpu.out _).mono ?_
  rintro e w2 ⟨k2, cap2, rfl, o2, hk2, hk2', hc2, _⟩
  have o2' : OwnS w1 w2 5 1 (.slice (some ⟨k2, 0, none⟩) (putU n).length cap2) (putU n).length (bl (putU n)) := o2
  generalize putU n = pu at *
  go_wp2_with fail
  go_loopw [8, 26] (fun v i wr => ∃ k : Nat, k ≤ n ∧ i = .int .i64 (k : Int) ∧ OwnS w1 wr 5 1 v (pu ++ encBody (ts.take k)).length (bl (pu ++ encBody (ts.take k))) ∧ v.ownBlock ≠ none ∧ (pu ++ encBody (ts.take k)).length ≤ 10 + 10 * k) (fun _ i _ => n - (intOf i).toNat)
  case atStart => exact ⟨0, Nat.zero_le _, rfl, by simpa [encBody] using o2', by simp [Value.ownBlock], by simp [encBody]; omega⟩
  case round =>
    clear o2 o2'
    obtain ⟨w3, rfl⟩ : ∃ w3 : World, w3 = wr := ⟨_, rfl⟩
    obtain ⟨k, hk, rfl, o3, hb3, hlen⟩ := hrel
    by_cases hlt : k < n
    · obtain ⟨ad, u, rfl, hDa, hu, hcx⟩ := (r1.nx (by decide) o3.nx).at_ hlt
      have hkl : k < ts.length := by rw [Htl.out]; exact hlt
      rw [il_at hkl] at hu
      injection hu with hu
      subst hu
      have hx := bndI_getD hbd (by omega) k
      have hsucc : bl (pu ++ encBody (ts.take (k + 1))) = bl (pu ++ encBody (ts.take k)) ++ bl (putU (zig (ts.getD k 0))) := by
        rw [encBody_take_succ hkl]; simp [bl]
      have hsl : (pu ++ encBody (ts.take (k + 1))).length = (pu ++ encBody (ts.take k)).length + (putU (zig (ts.getD k 0))).length := by
        rw [encBody_take_succ hkl]; simp; omega
      have hz := zig_lt (x := ts.getD k 0) (by omega) (by omega)
      have hzl := (putU_len10 hz).2
      generalize ts.getD k 0 = x at *
      have hpi := fun w => nums_putI x w (by omega) (by omega)
      generalize putU (zig x) = pz at *
      have Hpi := Lib.hid hpi
      have Hs := Lib.hid hsucc
      have Hsl := Lib.hid hsl
      clear hsucc hsl hpi
      generalize pu ++ encBody (ts.take k) = cur at *
      go_wp2_with fail
      with_reducible refine (Hpi.out _).mono ?_
      rintro e w4 ⟨k4, cap4, rfl, o4, _, _, _, _⟩
      have o5 := o3.tr o4.nx
      have r4 := o4.rd_
      go_wp2_with (at_builtin; refine wpList_appN rfl (.tmp 30) (.tmp 32) _ rfl 5 i0 _ 1 1 Try.underlying34 hi0 hz0 hz1 hz2 rfl (by omega) rfl o5 _ (some ⟨k4, 0, none⟩) pz.length cap4 (bl pz) rfl r4 (bl_one _) (by simp only [maxLen]; omega) (by omega) ?_; intro v5 w5 o6 m5)
      go_roundw
      case rel => exact ⟨k + 1, by omega, by go_num, by rw [Hs.out, Hsl.out]; exact o6, m5.some_ hb3, by rw [Hsl.out]; omega⟩
      case measure => simp [intOf]; omega
    · obtain rfl : k = n := by omega
      rw [List.take_of_length_le (by rw [Htl.out]; exact Nat.le_refl _), ← HE.out] at o3
      have o4 : OwnS W w3 5 1 _ _ _ := ⟨own_base o3.own o1.nx.size, o1.nx.tr o3.nx⟩
      obtain ⟨k4, cap4, hv, o5, _, _, hc5, _⟩ := GivesB.mk_ o4 hb3
      injection hv with hv
      subst hv
      go_wp2_with fail
      go_ret2
      exact ⟨k4, cap4, rfl, o5, hc5⟩
end Go.Proofs.Ytlokfmalpkahaaa
