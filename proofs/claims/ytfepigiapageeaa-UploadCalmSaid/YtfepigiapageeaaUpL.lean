/- The contracts of layer 17's lives and few; a setting opened. Conditions: none. -/
import Derived.Test.YtfepigiapageeaaUpC
import Derived.Lib.SmallJoins
import Derived.Deep.Slices
import Derived.Deep.Fields
import Derived.ChangeSame
import Derived.Lib.SlBytesConst
namespace Go.Proofs.Ytfepigiapageeaa
set_option maxRecDepth 100000
open Go.RowKit
open Go.Joins Go.ChangeShapes Go.WideShapes Go.Deep
set_option linter.unusedVariables false

/-- a setting as a value -/
def setV (key : ByteArray) (dv : Value) (piece tries wait : Int) : Value := .agg #[.string key, dv, .int .i64 piece, .int .i64 tries, .int .i64 wait]

set_option maxHeartbeats 400000 in
theorem few_any (key : ByteArray) (A : Option Addr) (n c : Nat) (piece tries wait : Int) (w : World) (hk : key.size ≤ 9223372036854775807) (hn : n ≤ 9223372036854775807) :
    Calls Try.prog 8 #[setV key (.slice A n c) piece tries wait] w fun e w' => e = .returned (.bool (decide (n ≤ 3000 ∧ key.size ≤ 100))) ∧ Nx w w' := by
  unfold setV
  have hfin : ∀ o, Nx w (w.alloc o) := fun o => (Ch.refl _ w).alloc o
  have Hfin := Lib.hid hfin
  clear hfin
  by_cases h1 : n ≤ 3000
  · by_cases h2 : key.size ≤ 100
    · go_enter Try.func8, Try.ntmps8
      go_wp2_with fail
      go_ret
      exact ⟨by simp [h1, h2]; try omega, Hfin.out _⟩
    · go_enter Try.func8, Try.ntmps8
      go_wp2_with fail
      go_ret
      exact ⟨by simp [h1, h2]; try omega, Hfin.out _⟩
  · go_enter Try.func8, Try.ntmps8
    go_wp2_with fail
    go_ret
    exact ⟨by simp [h1], Hfin.out _⟩

theorem Rd.lit (w : World) (cs : Array Value) (t : TypeId) (fr : Nat × Nat) : Rd (w.alloc (.cells cs t fr)) (fun k => k = w.heap.size) 1 (some ⟨w.heap.size, 0, none⟩) cs.size cs.toList := by
  refine ⟨by simp, fun _ => ⟨_, rfl, rfl, fun j u hu => ?_⟩⟩
  have ea : (Addr.mk w.heap.size 0 none).add j = ⟨w.heap.size, j, none⟩ := by
    unfold Addr.add
    split
    · next e => rw [e]
    · simp
  rw [ea, cell_of_row _ w.heap.size j cs t fr (heap_alloc_new w _)]
  simpa using hu

set_option maxHeartbeats 1000000 in
theorem lives_any (W : World) : Calls Try.prog 7 #[] W fun e W' => e = .returned (.bool true) ∧ Nx W W' := by
  have hr : Rd (W.alloc (.cells #[.int .u8 97, .int .u8 98] 5 (2, 3))) (fun k => k = W.heap.size) 1 (some ⟨W.heap.size, 0, none⟩) 2 (bl [97, 98]) := Rd.lit W #[.int .u8 97, .int .u8 98] 5 (2, 3)
  have kc := fun (w : World) (C : Array Value) (n c : Nat) => Lib.run_convert_bytes_const (P := Try.prog) w 22 5 C n c Try.underlying22 Try.underlying5
  go_enter Try.func7, Try.ntmps7
  go_wp2_with fail
  with_reducible refine (new_ok _ _ _ 2 2 [97, 98] 1 2 1 _ hr rfl (by unfold okNew; omega)).mono ?_
  rintro e w1 ⟨g, A, c, rfl, hu, hrd, n1, hg, hc1, hc2⟩
  go_wp2_with fail
  refine (next_create hu 0 rfl rfl (Int.le_refl _)).mono ?_
  rintro e w2 ⟨rfl, h2⟩
  have nx2 : Nx W w2 := (((Ch.refl _ W).alloc _).tr n1).trans h2.2 (fun i hi e => by simp at hg; omega)
  unfold callV
  rw [show (newUp ⟨#[107]⟩ [97, 98].length 1 2 1).key = ⟨#[107]⟩ from rfl]
  have H2 := Lib.hid h2
  clear h2 hu hr hrd
  go_wp2_with fail
  refine (up_state (H2.out.nx ((Ch.refl _ _).alloc _)).1).mono ?_
  rintro e w3 ⟨rfl, rfl⟩
  go_wp2_with fail
  go_ret
  exact ⟨by simp [newUp], nx2.alloc _⟩
end Go.Proofs.Ytfepigiapageeaa
