/- The contracts of entrepotref05's Check and Number. Conditions: none beyond a slice that reads. -/
import Derived.Test.YtgbjbhghifildaaPrefixL
import Derived.Test.YtgbjbhghifildaaPlainS
namespace Go.Proofs.Ytgbjbhghifildaa
open Go.RowKit
set_option linter.unusedVariables false

set_option maxHeartbeats 400000 in
theorem ref_check (D : Nat → Prop) (A : Option Addr) (n c : Nat) (zs : List Int) (w : World) (hr : Rd w D 1 A n (il zs)) (hl : zs.length = n) (hn : n ≤ 400) :
    Calls Try.prog 32 #[.slice A n c] w fun e w' => e = .returned (.int .i64 (mkErr zs)) ∧ Nx w w' := by
  have Hl := Lib.hid hl
  clear hl
  go_enter Try.func32, Try.ntmps32
  by_cases hbig : 320 < n
  · have he : mkErr zs = 5 := by unfold mkErr; rw [if_pos (by rw [Hl.out]; exact hbig)]
    go_wp2_with fail
    go_ret
    rw [he]
    exact ⟨by simp, Ch.refl _ _⟩
  · go_wp2_with fail
    go_loop [3, 4, 5, 13] (fun sm wd on i => ∃ k : Nat, k ≤ n ∧ i = .int .i64 k ∧ sm = .int .i64 (roomTo zs k : Int) ∧ wd = .int .i64 (posN zs k : Int) ∧ on = .bool (oneTo zs k) ∧ Hid (∀ z ∈ zs.take k, 0 ≤ z ∧ z ≤ 15)) (fun _ _ _ i => n - (intOf i).toNat)
    case atStart => exact ⟨0, by omega, rfl, by simp [roomTo], by simp [posN], rfl, Lib.hid (by simp)⟩
    case round =>
      obtain ⟨k, hk, rfl, rfl, rfl, rfl, hall⟩ := hrel
      by_cases hlt : k < n
      · obtain ⟨ad, u, rfl, hDa, hu, hc⟩ := hr.at_ hlt
        have hkz : k < zs.length := by rw [Hl.out]; exact hlt
        rw [il_get hkz] at hu
        injection hu with hu
        subst hu
        have hrs := roomTo_succ hkz
        have hps := posN_succ hkz
        have hrl := roomTo_le zs k (by omega)
        have hpl := posN_le zs k
        have hmem : zs[k] ∈ zs := List.getElem_mem hkz
        have hgd : zs.getD k 0 = zs[k] := by simp [List.getD, hkz]
        have Hk := Lib.hid hkz
        have hgz : zs[k] = zs[k] := rfl
        generalize hz : zs[k] = z at *
        have Hgz : Hid (zs[k]'Hk.out = z) := Lib.hid hz
        have Hgd := Lib.hid hgd
        clear hgd hgz hz hkz
        have Hrs := Lib.hid hrs
        have Hps := Lib.hid hps
        have Hmem := Lib.hid hmem
        clear hrs hps hmem
        have ho1 : oneTo zs (k + 1) = if 0 < z then decide (z = 1) else oneTo zs k := by
          rw [oneTo, Hgd.out]
        have Ho1 := Lib.hid ho1
        clear ho1
        by_cases hbad : z < 0 ∨ 15 < z
        · have he : mkErr zs = 1 := by unfold mkErr; rw [if_neg (by rw [Hl.out]; exact hbig), if_pos ⟨z, Hmem.out, hbad⟩]
          have He := Lib.hid he
          clear he
          by_cases hneg : z < 0
          · go_wp2_with fail
            go_ret
            exact ⟨by simp [He.out], Ch.refl _ _⟩
          · have hbig2 : 15 < z := by omega
            go_wp2_with fail
            go_ret
            exact ⟨by simp [He.out], Ch.refl _ _⟩
        · have hall' : Hid (∀ x ∈ zs.take (k + 1), 0 ≤ x ∧ x ≤ 15) := Lib.hid (by
            intro x hx
            rw [List.take_succ_eq_append_getElem Hk.out, List.mem_append] at hx
            rcases hx with hx | hx
            · exact hall.out x hx
            · simp at hx
              rw [hx, Hgz.out]
              omega)
          by_cases hpos : 0 < z
          · go_wp2_with fail
            have hri := room_int hpos (by omega)
            have hro : roomOf z ≤ 16384 := roomOf_le z
            have hww : wrap64 ((roomTo zs k : Int) + (roomOf z : Int)) = ((roomTo zs k + roomOf z : Nat) : Int) := by unfold wrap64; omega
            go_round
            case rel => exact ⟨k + 1, by omega, by go_num, by rw [Hrs.out, hri, hww], by rw [Hps.out, if_pos hpos]; go_num, by rw [Ho1.out, if_pos hpos]; rfl, hall'⟩
            case measure => simp [intOf]; omega
          · go_wp2_with fail
            go_round
            case rel => exact ⟨k + 1, by omega, by go_num, by rw [Hrs.out]; unfold roomOf; rw [if_neg hpos]; go_num, by rw [Hps.out, if_neg hpos]; go_num, by rw [Ho1.out, if_neg hpos], hall'⟩
            case measure => simp [intOf]; omega
      · obtain rfl : k = n := by omega
        have hzk : k = zs.length := Hl.out.symm
        have hm := mkErr_ref (zs := zs) (by omega) (by have := hall.out; rw [hzk, List.take_length] at this; exact this)
        rw [← hzk] at hm
        have Hm := Lib.hid hm
        clear hm hzk
        have hpl := posN_le zs k
        generalize posN zs k = P at *
        generalize roomTo zs k = R at *
        generalize oneTo zs k = O at *
        have fin : ∀ v : Int, ((0 < P ∧ R ≠ 32768 ∧ ¬ (P = 1 ∧ O = true)) → v = 4) → (¬ (0 < P ∧ R ≠ 32768 ∧ ¬ (P = 1 ∧ O = true)) → v = 0) → Ending.returned (.int .i64 v) = .returned (.int .i64 (mkErr zs)) := by
          intro v h1 h2
          rw [Hm.out]
          split
          · next h => rw [h1 h]
          · next h => rw [h2 h]
        have Fin := Lib.hid fin
        clear fin
        by_cases h0 : 0 < P
        · by_cases h1 : R = 32768
          · go_wp2_with fail
            go_ret
            exact ⟨Fin.out _ (fun h => absurd h1 h.2.1) (fun _ => rfl), Ch.refl _ _⟩
          · by_cases h2 : P = 1
            · cases O
              · go_wp2_with fail
                go_ret
                exact ⟨Fin.out _ (fun _ => rfl) (fun h => absurd ⟨h0, h1, by simp⟩ h), Ch.refl _ _⟩
              · go_wp2_with fail
                go_ret
                exact ⟨Fin.out _ (fun h => absurd ⟨h2, by first | trivial | rfl⟩ h.2.2) (fun _ => rfl), Ch.refl _ _⟩
            · go_wp2_with fail
              go_ret
              exact ⟨Fin.out _ (fun _ => rfl) (fun h => absurd ⟨h0, h1, fun e => h2 e.1⟩ h), Ch.refl _ _⟩
        · go_wp2_with fail
          go_ret
          exact ⟨Fin.out _ (fun h => absurd h.1 h0) (fun _ => rfl), Ch.refl _ _⟩
end Go.Proofs.Ytgbjbhghifildaa
