/- The contracts of delta's Encode of a row that is refused, of Best, of column's PutInts. Conditions: rows of at most 2048. · Texts as cells. Conditions: none. -/
import Derived.Test.YtlokfmalpkahaaaGreatKbQ3
import Derived.Test.YtlokfmalpkahaaaGreatKbQ7
import Derived.Test.YtlokfmalpkahaaaGreatKbQ1
import Derived.Lib.MinMaxS
namespace Go.Proofs.YtlokfmalpkahaaaGreat
open Go.RowKit
set_option linter.unusedVariables false
set_option maxRecDepth 100000
set_option maxHeartbeats 4000000 in
theorem delta_Encode_bad (D : Nat → Prop) (A : Option Addr) (n c : Nat) (zs : List Int) (w : Nat) (W : World) (hr : Rd W D 1 A n (il zs)) (hl : zs.length = n) (hn : n ≤ 9223372036854775807) (hw : w ≤ 2) (he : rowErr zs ≠ 0) :
    Calls Tryz.prog 33 #[.slice A n c, .int .i64 (w : Int)] W fun e w' => e = .returned (.tuple #[.slice none 0 0, .int .i64 (rowErr zs)]) ∧ W = w' := by
  have hck := delta_Turn_bad D A n c zs w W hr hl hn hw he
  generalize rowErr zs = er at *
  have hne : (er != 0) = true := by rw [bne_iff_ne]; exact he
  have Hck := Lib.hid hck
  clear hck hl hr he
  go_enter Tryz.func33, Tryz.ntmps33
  go_wp2_with fail
  with_reducible refine Hck.out.mono ?_
  rintro e w1 ⟨rfl, rfl⟩
  go_wp2_with fail
  go_ret2
  exact ⟨rfl, rfl⟩
set_option maxHeartbeats 4000000 in
theorem delta_Best_bad (D : Nat → Prop) (A : Option Addr) (n c : Nat) (zs : List Int) (W : World) (hr : Rd W D 1 A n (il zs)) (hl : zs.length = n) (hn : n ≤ 9223372036854775807) (he : rowErr zs ≠ 0) :
    Calls Tryz.prog 32 #[.slice A n c] W fun e w' => e = .returned (.int .i64 0) ∧ W = w' := by
  have hck := delta_Encode_bad D A n c zs 0 W hr hl hn (by omega) he
  generalize rowErr zs = er at *
  have hne : (er != 0) = true := by rw [bne_iff_ne]; exact he
  have Hck := Lib.hid hck
  clear hck hl hr he
  go_enter Tryz.func32, Tryz.ntmps32
  go_wp2_with fail
  refine wp_loop_rounds 1 ?_
  rw [rounds_succ]
  go_wp2_with fail
  refine Hck.out.mono ?_
  rintro e w1 ⟨rfl, rfl⟩
  go_wp2_with fail
  go_ret
  exact ⟨rfl, rfl⟩
set_option maxHeartbeats 8000000 in
theorem delta_Best (D : Nat → Prop) (A : Option Addr) (n c : Nat) (zs : List Int) (W : World) (hr : Rd W D 1 A n (il zs)) (hl : zs.length = n) (he : rowErr zs = 0) :
    Calls Tryz.prog 32 #[.slice A n c] W fun e w' => e = .returned (.int .i64 (dbestF zs : Int)) ∧ Nx W w' := by
  have henc := fun (w : World) (nx : Nx W w) (k : Nat) (hk : k ≤ 2) => delta_Encode D A n c zs k w (hr.nx (by decide) nx) hl hk he
  have hlen : ∀ k, k ≤ 2 → (encF zs k).length ≤ 100000 := fun k hk => by
    obtain ⟨h1, h2⟩ := rowErr_ok he
    have := (encF_len h2 (by omega) hk).2
    omega
  have Hd : Hid (dbestF zs = (bst zs 3).1) := Lib.hid (by unfold dbestF; rw [if_neg (by simpa using he)])
  have Henc := Lib.hid henc
  have Hlen := Lib.hid hlen
  clear henc hlen hr he
  go_enter Tryz.func32, Tryz.ntmps32
  go_wp2_with fail
  go_loopw [3, 4, 5] (fun s3 s4 i wr => ∃ k : Nat, k ≤ 3 ∧ i = .int .i64 (k : Int) ∧ s3 = .int .i64 ((bst zs k).1 : Int) ∧ s4 = .int .i64 (bst zs k).2 ∧ Nx W wr) (fun _ _ i _ => 3 - (intOf i).toNat)
  case atStart => exact ⟨0, by omega, rfl, rfl, rfl, Ch.refl _ _⟩
  case round =>
    obtain ⟨w1, rfl⟩ : ∃ w1 : World, w1 = wr := ⟨_, rfl⟩
    obtain ⟨k, hk, rfl, rfl, rfl, nx⟩ := hrel
    by_cases hlt : k < 3
    · have hs : bst zs (k + 1) = if (bst zs k).2 < 0 ∨ ((encF zs k).length : Int) < (bst zs k).2 then (k, ((encF zs k).length : Int)) else bst zs k := rfl
      have hen := Henc.out w1 nx k (by omega)
      have hll := Hlen.out k (by omega)
      unfold EncTo at hen
      generalize encF zs k = ec at *
      generalize bst zs k = t at *
      obtain ⟨tb, tl⟩ := t
      simp only at hs ⊢
      have Hen := Lib.hid hen
      clear hen
      by_cases h1 : tl < 0 ∨ (ec.length : Int) < tl
      · rw [if_pos h1] at hs
        have Hs := Lib.hid hs
        clear hs
        go_wp2_with fail
        with_reducible refine Hen.out.mono ?_
        rintro e w2 ⟨k2, cap2, rfl, o2, _⟩
        have nx2 := nx.tr o2.nx
        rcases Classical.em (tl < 0) with h2 | h2
        · go_wp2_with fail
          go_roundw
          case rel => exact ⟨k + 1, by omega, by go_num, by rw [Hs.out], by rw [Hs.out], nx2⟩
          case measure => simp [intOf]; omega
        · have h3 := h1.resolve_left h2
          go_wp2_with fail
          go_roundw
          case rel => exact ⟨k + 1, by omega, by go_num, by rw [Hs.out], by rw [Hs.out], nx2⟩
          case measure => simp [intOf]; omega
      · rw [if_neg h1] at hs
        have Hs := Lib.hid hs
        have h2 : ¬ tl < 0 := fun h => h1 (.inl h)
        have h3 : ¬ (ec.length : Int) < tl := fun h => h1 (.inr h)
        clear hs h1
        go_wp2_with fail
        with_reducible refine Hen.out.mono ?_
        rintro e w2 ⟨k2, cap2, rfl, o2, _⟩
        have nx2 := nx.tr o2.nx
        go_wp2_with fail
        go_roundw
        case rel => exact ⟨k + 1, by omega, by go_num, by rw [Hs.out], by rw [Hs.out], nx2⟩
        case measure => simp [intOf]; omega
    · obtain rfl : k = 3 := by omega
      go_wp2_with fail
      go_ret
      exact ⟨by rw [Hd.out]; rfl, nx⟩
end Go.Proofs.YtlokfmalpkahaaaGreat
namespace Go.Proofs.YtlokfmalpkahaaaGreat
def stl (ss : List ByteArray) : List Value := ss.map Value.string
theorem stl_length (ss : List ByteArray) : (stl ss).length = ss.length := by simp [stl]
theorem stg {ss : List ByteArray} {k : Nat} (h : k < ss.length) : (stl ss)[k]? = some (.string (ss.getD k ByteArray.empty)) := by simp [stl, List.getD, h]
end Go.Proofs.YtlokfmalpkahaaaGreat
