/- column's tooLong and PutWords. Conditions: at most 2048 words of at most 1024 bytes, a content of at most 65535 bytes. -/
import Derived.Test.YtlokfmalpkahaaaGreatKrSortS
import Derived.Test.YtlokfmalpkahaaaGreatKrQ11
import Derived.Test.YtlokfmalpkahaaaGreatKrCur4
import Derived.Lib.AppendStr
namespace Go.Proofs.YtlokfmalpkahaaaGreat
open Go.RowKit
set_option linter.unusedVariables false
set_option maxRecDepth 100000
/-- how IndexFunc looks for a long text -/
def IdxL (l : List ByteArray) (W : World) (e : Ending) (w' : World) : Prop :=
  ∃ r : Int, e = .returned (.int .i64 r) ∧ W = w' ∧ (decide (0 ≤ r) = l.any fun s => decide (1024 < s.size))
set_option maxHeartbeats 400000 in
theorem tooLong1 (s : ByteArray) (w : World) : Calls Tryz.prog 85 #[.string s] w fun e w' => e = .returned (.bool (decide (1024 < s.size))) ∧ w = w' := by
  go_enter Tryz.func85, Tryz.ntmps85
  go_wp2_with fail
  go_ret
  exact ⟨by show Ending.returned (Value.bool (decide ((1024 : Int) < (s.size : Int)))) = _; rw [decide_eq_decide.2 (show (1024 : Int) < (s.size : Int) ↔ 1024 < s.size from ⟨fun h => by omega, fun h => by omega⟩)], rfl⟩
set_option maxHeartbeats 2000000 in
theorem index_long (D : Nat → Prop) (A : Option Addr) (n c : Nat) (l : List ByteArray) (W : World) (hr : Rd W D 1 A n (stl l)) (hl : l.length = n) (hn : n ≤ 1000000) :
    Calls Tryz.prog 120 #[.slice A n c, .func (.func 85) #[] #[]] W (IdxL l W) := by
  subst hl
  have hcl := fun s => tooLong1 s W
  have Hcl := Lib.hid hcl
  clear hcl
  go_enter Tryz.func120, Tryz.ntmps120
  go_wp2_with fail
  go_loop [8] (fun i => ∃ k : Nat, k ≤ l.length ∧ i = .int .i64 k ∧ Hid (∀ j, j < k → (l.getD j ByteArray.empty).size ≤ 1024)) (fun i => l.length - (intOf i).toNat)
  case atStart => exact ⟨0, by omega, rfl, Lib.hid (fun j hj => by omega)⟩
  case round =>
    obtain ⟨k, hk, rfl, He⟩ := hrel
    by_cases hlt : k < l.length
    · obtain ⟨ad, rfl, -, hcell⟩ := hr.2 (by omega)
      have hc0 := hcell _ _ (stg hlt)
      have HK := Lib.hid (show l.getD k ByteArray.empty = l.getD k ByteArray.empty from rfl)
      have hany : 1024 < (l.getD k ByteArray.empty).size → (l.any fun s => decide (1024 < s.size)) = true := fun h => by
        rw [List.any_eq_true]
        refine ⟨l[k], List.getElem_mem hlt, ?_⟩
        have e0 : l.getD k ByteArray.empty = l[k] := by rw [List.getD, List.getElem?_eq_getElem hlt]; rfl
        rw [e0] at h
        simpa using h
      have Hany := Lib.hid hany
      have hnx : (l.getD k ByteArray.empty).size ≤ 1024 → Hid (∀ j, j < k + 1 → (l.getD j ByteArray.empty).size ≤ 1024) := fun h => Lib.hid fun j hj => by
        by_cases e : j = k
        · subst e; exact h
        · exact He.out j (by omega)
      have Hnx := Lib.hid hnx
      clear hcell hany hnx HK
      generalize l.getD k ByteArray.empty = s at *
      by_cases hs : 1024 < s.size
      · have hd : decide (1024 < s.size) = true := decide_eq_true hs
        have hfin := Hany.out hs
        have Hfin := Lib.hid hfin
        have hcall := Hcl.out s
        rw [hd] at hcall
        have Hcall := Lib.hid hcall
        clear hfin Hany Hnx hcall
        go_wp2_with fail
        refine Hcall.out.mono ?_
        rintro e w1 ⟨rfl, rfl⟩
        go_wp2_with fail
        go_ret
        exact ⟨_, rfl, rfl, by rw [Hfin.out]; simp⟩
      · have hd : decide (1024 < s.size) = false := decide_eq_false hs
        have hnx := Hnx.out (by omega)
        have hcall := Hcl.out s
        rw [hd] at hcall
        have Hcall := Lib.hid hcall
        clear Hany Hnx hcall
        go_wp2_with fail
        refine Hcall.out.mono ?_
        rintro e w1 ⟨rfl, rfl⟩
        go_wp2_with fail
        go_round
        case rel => exact ⟨k + 1, by omega, by go_num, hnx⟩
        case measure => simp [intOf]; omega
    · obtain rfl : k = l.length := by omega
      have hno : (l.any fun s => decide (1024 < s.size)) = false := by
        rw [List.any_eq_false]
        intro s hs
        obtain ⟨j, hj, rfl⟩ := List.mem_iff_getElem.1 hs
        have := He.out j hj
        rw [List.getD, List.getElem?_eq_getElem hj] at this
        simpa using this
      have Hno := Lib.hid hno
      clear hno
      go_wp2_with fail
      go_ret
      exact ⟨_, rfl, rfl, by rw [Hno.out]; simp⟩
set_option maxHeartbeats 1000000 in
theorem contains_long (D : Nat → Prop) (A : Option Addr) (n c : Nat) (l : List ByteArray) (W : World) (hr : Rd W D 1 A n (stl l)) (hl : l.length = n) (hn : n ≤ 1000000) :
    Calls Tryz.prog 84 #[.slice A n c, .func (.func 85) #[] #[]] W fun e w' => e = .returned (.bool (l.any fun s => decide (1024 < s.size))) ∧ W = w' := by
  have Hi := Lib.hid (index_long D A n c l W hr hl hn)
  clear hr
  go_enter Tryz.func84, Tryz.ntmps84
  go_wp2_with fail
  with_reducible refine Hi.out.mono ?_
  rintro e w1 ⟨r, rfl, rfl, hd⟩
  have Hd := Lib.hid hd
  clear hd
  go_wp2_with fail
  go_ret
  rw [← Hd.out]
  exact ⟨rfl, rfl⟩
set_option maxHeartbeats 1000000 in
theorem col_tooLong (D : Nat → Prop) (A : Option Addr) (n c : Nat) (l : List ByteArray) (W : World) (hr : Rd W D 1 A n (stl l)) (hl : l.length = n) (hn : n ≤ 2048) :
    Calls Tryz.prog 41 #[.slice A n c] W fun e w' => e = .returned (.bool (l.any fun s => decide (1024 < s.size))) ∧ W = w' := by
  have Hi := Lib.hid (contains_long D A n c l W hr hl (by omega))
  clear hr
  have q1 : decide ((2048 : Int) < (n : Int)) = false := by rw [decide_eq_false_iff_not]; omega
  generalize (l.any fun s => decide (1024 < s.size)) = bb at *
  go_enter Tryz.func41, Tryz.ntmps41
  go_wp2_with fail
  refine Hi.out.mono ?_
  rintro e w1 ⟨rfl, rfl⟩
  go_wp2_with fail
  go_ret
  exact ⟨rfl, rfl⟩
end Go.Proofs.YtlokfmalpkahaaaGreat
