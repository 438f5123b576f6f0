/- The contract of layer 5's lives. Conditions: none. -/
import Derived.Test.YtgbjbhghifildaaPrefixT
namespace Go.Proofs.Ytgbjbhghifildaa
open Go.RowKit
set_option linter.unusedVariables false

set_option maxHeartbeats 1000000 in
theorem lives_any (W : World) :
    Calls Try.prog 29 #[] W fun e W' => e = .returned (.bool true) ∧ Nx W W' := by
  have hb := Blk.new W 3 #[.int .i64 2, .int .i64 1, .int .i64 3, .int .i64 3]
  have hr : Rd (W.alloc (.cells #[.int .i64 2, .int .i64 1, .int .i64 3, .int .i64 3] 3)) (fun k => k = W.heap.size) 1 (some ⟨W.heap.size, 0, none⟩) 4 (il [2, 1, 3, 3]) :=
    ⟨rfl, fun _ => ⟨_, rfl, rfl, World.news_of_block hb⟩⟩
  have he : mkErr [2, 1, 3, 3] = 0 := by decide +kernel
  have hc : codeW [2, 1, 3, 3] 2 = 6 := by decide +kernel
  have hle : lenS [2, 1, 3, 3] 2 = 3 := by decide +kernel
  have He := Lib.hid he
  have Hc := Lib.hid hc
  have Hle := Lib.hid hle
  clear he hc hle hb
  go_enter Try.func29, Try.ntmps29
  go_wp2_with fail
  with_reducible refine (make_ok _ _ 4 4 [2, 1, 3, 3] _ hr rfl (by omega) He.out).mono ?_
  rintro e w1 ⟨t, rfl, ht, n1⟩
  go_wp2_with fail
  have hw := word_some _ t [2, 1, 3, 3] 2 w1 ht (by simp) (by simp)
  rw [Hc.out, Hle.out] at hw
  refine hw.mono ?_
  rintro e w2 ⟨rfl, nd, rfl⟩
  go_wp2_with fail
  go_ret
  exact ⟨by simp, (((Ch.refl _ W).alloc _).tr n1).drewN _⟩
end Go.Proofs.Ytgbjbhghifildaa
