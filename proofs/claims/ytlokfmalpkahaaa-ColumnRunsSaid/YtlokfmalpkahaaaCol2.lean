/- column's PutFlags, walked. Conditions: at most 2048 flags. -/
import Derived.Test.YtlokfmalpkahaaaCol1
namespace Go.Proofs.Ytlokfmalpkahaaa
open Go.RowKit
set_option linter.unusedVariables false
set_option maxRecDepth 100000
/-- flags as cells -/
def fbl (l : List Bool) : List Value := l.map Value.bool
theorem fbl_length (l : List Bool) : (fbl l).length = l.length := by simp [fbl]
theorem fbl_get {l : List Bool} {k : Nat} (h : k < l.length) : (fbl l)[k]? = some (.bool l[k]) := by simp [fbl, h]
/-- the content of flags -/
def flagsC (l : List Bool) : List Nat := putU l.length ++ pack l
theorem flagsC_ok {l : List Bool} (h : l.length ≤ 2048) : okB (flagsC l) := fun x hx => by
  rcases List.mem_append.1 hx with h1 | h1
  · exact putU_okB (by omega) x h1
  · exact okB_pack l x h1
theorem flagsC_len {l : List Bool} (h : l.length ≤ 2048) : (flagsC l).length ≤ 300 := by
  unfold flagsC
  rw [List.length_append, pack_length]
  have := (putU_len10 (n := l.length) (by omega)).2
  omega
set_option maxHeartbeats 8000000 in
theorem col_PutFlags (D : Nat → Prop) (A : Option Addr) (n c : Nat) (l : List Bool) (W : World) (hr : Rd W D 1 A n (fbl l)) (hl : l.length = n) (hn : n ≤ 2048) :
    Calls Try.prog 16 #[.slice A n c] W (ChunkTo W (chunkF 4 (flagsC l))) := by
  obtain ⟨i0, hi0, hz0, hz1, hz2⟩ := info_parts Try.info5
  subst hl
  have hok := flagsC_ok hn
  have hcl := flagsC_len hn
  have HC : Hid (flagsC l = putU l.length ++ pack l) := Lib.hid rfl
  have hpu := fun w => nums_putU l.length w (by omega)
  have hpl := putU_len10 (n := l.length) (by omega)
  have Hpu := Lib.hid hpu
  have hw0 := WrIs.new W
  have nw0 : Nx W (W.alloc (.cells #[.slice none 0 0, .int .i64 0] 77)) := (Ch.refl _ W).alloc _
  have h0 : WrAt3 W (W.alloc (.cells #[.slice none 0 0, .int .i64 0] 77)) W.heap.size [] := ⟨none, hw0, (fun j hj => by cases hj), nw0⟩
  clear hpu hw0 nw0
  go_enter Try.func16, Try.ntmps16
  go_wp2_with fail
  go_loopw [12] (fun i wr => ∃ k : Nat, k ≤ l.length ∧ i = .int .i64 (k : Int) ∧ WrAt3 W wr W.heap.size (l.take k)) (fun i _ => l.length - (intOf i).toNat)
  case atStart => exact ⟨0, Nat.zero_le _, rfl, h0⟩
  case round =>
    clear h0
    obtain ⟨w1, rfl⟩ : ∃ w1 : World, w1 = wr := ⟨_, rfl⟩
    obtain ⟨k, hk, rfl, h1, rw1, hh1, nx1⟩ := hrel
    have hl1 : (l.take k).length ≤ 10000 := by rw [List.length_take]; omega
    by_cases hlt : k < l.length
    · obtain ⟨ad, u, rfl, hDa, hu, hcx⟩ := (hr.nx (by decide) nx1).at_ hlt
      rw [fbl_get hlt] at hu
      injection hu with hu
      subst hu
      have hsucc : l.take (k + 1) = l.take k ++ [l[k]] := List.take_succ_eq_append_getElem hlt
      have Hs := Lib.hid hsucc
      clear hsucc
      generalize l[k] = x at *
      cases x
      · go_wp2_with fail
        refine (wr_bits W.heap.size h1 _ 0 1 w1 rw1 (by omega) (by omega) (by omega)).mono ?_
        rintro e w2 ⟨rfl, t2⟩
        have h2 := WrAt3.next nx1 (Nat.le_refl _) hh1 t2
        rw [show numBits 0 1 = [false] by decide] at h2
        go_wp2_with fail
        go_roundw
        case rel => exact ⟨k + 1, by omega, by go_num, by rw [Hs.out]; exact h2⟩
        case measure => simp [intOf]; omega
      · go_wp2_with fail
        refine (wr_bits W.heap.size h1 _ 1 1 w1 rw1 (by omega) (by omega) (by omega)).mono ?_
        rintro e w2 ⟨rfl, t2⟩
        have h2 := WrAt3.next nx1 (Nat.le_refl _) hh1 t2
        rw [show numBits 1 1 = [true] by decide] at h2
        go_wp2_with fail
        go_roundw
        case rel => exact ⟨k + 1, by omega, by go_num, by rw [Hs.out]; exact h2⟩
        case measure => simp [intOf]; omega
    · have hkn : k = l.length := by omega
      have htk : l.take k = l := List.take_of_length_le (by omega)
      rw [htk] at rw1
      clear htk
      go_wp2_with fail
      with_reducible refine (Hpu.out _).mono ?_
      rintro e w2 ⟨k2, cap2, rfl, o2, hk2, hk2', hc2, _⟩
      have rw2 := rw1.ch o2.nx (fun hf => hf) (fun _ _ hf => hf)
      go_wp2_with fail
      with_reducible refine (wr_bytes W.heap.size h1 l w2 rw2 (by omega)).mono ?_
      rintro e w3 ⟨k3, cap3, rfl, hk3, hk3', ho3, hrd3, nx3⟩
      have o2' : OwnS W w3 5 1 (.slice (some ⟨k2, 0, none⟩) (putU l.length).length cap2) (putU l.length).length (bl (putU l.length)) := ⟨own_base (o2.tr nx3).own nx1.size, nx1.tr (o2.nx.tr nx3)⟩
      have fin : ∀ (w5 : World) (v5 : Value), OwnS W w5 5 1 v5 (flagsC l).length (bl (flagsC l)) → v5.ownBlock ≠ none → ∃ k cap, v5 = .slice (some ⟨k, 0, none⟩) (flagsC l).length cap ∧
          Calls Try.prog 24 #[.int .u8 4, .slice (some ⟨k, 0, none⟩) (flagsC l).length cap] w5 (ChunkTo W (chunkF 4 (flagsC l))) := fun w5 v5 o hb => by
        obtain ⟨k, cap, hv, o4, hk1, hk2, hcp, _⟩ := GivesB.mk_ o hb
        injection hv with hv
        subst hv
        refine ⟨k, cap, rfl, (col_chunk (fun j => j = k) (some ⟨k, 0, none⟩) _ cap 4 (flagsC l) w5 o4.rd_ (fun j e => by omega) hok rfl hcp (by omega) (by omega)).mono ?_⟩
        rintro e w6 ⟨k6, cap6, rfl, o6, h6⟩
        exact ⟨k6, cap6, rfl, ⟨own_base o6.own o4.nx.size, o4.nx.tr o6.nx⟩, h6⟩
      have Fin := Lib.hid fin
      clear fin ho3 o2 nx3
      generalize putU l.length = pu at *
      have hpkl : (pack l).length ≤ 300 := by rw [pack_length]; omega
      generalize pack l = pk at *
      go_wp2_with (at_builtin; refine wpList_appN rfl (.tmp 23) (.tmp 24) _ rfl 5 i0 _ 1 1 Try.underlying34 hi0 hz0 hz1 hz2 rfl (by omega) rfl o2' _ (some ⟨k3, 0, none⟩) pk.length cap3 (bl pk) rfl hrd3 (bl_one _) (by simp only [maxLen]; omega) (by omega) ?_; intro v5 w5 o5 m5; obtain ⟨k5, cap5, hv5, hcall⟩ := Fin.out w5 v5 (by rw [HC.out, List.length_append, show bl (pu ++ pk) = bl pu ++ bl pk by simp [bl]]; exact o5) (Moved.some_ (v := .slice (some ⟨k2, 0, none⟩) pu.length cap2) m5 (by simp [Value.ownBlock])); rw [hv5])
      with_reducible refine hcall.mono ?_
      rintro e w6 ⟨k6, cap6, rfl, o6, h6⟩
      go_wp2_with fail
      go_ret2
      exact ⟨k6, cap6, rfl, o6, h6⟩
end Go.Proofs.Ytlokfmalpkahaaa
