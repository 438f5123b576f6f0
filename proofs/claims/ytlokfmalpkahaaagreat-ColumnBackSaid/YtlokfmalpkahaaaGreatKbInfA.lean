/- The contract of inflate.Inflate, of any bytes and any limit up to 65536; law06's lives. Conditions: none. -/
import Derived.Test.YtlokfmalpkahaaaGreatKbInfL
import Derived.Test.YtlokfmalpkahaaaGreatKbQ2
namespace Go.Proofs.YtlokfmalpkahaaaGreat
set_option maxRecDepth 100000
open Go.RowKit
set_option linter.unusedVariables false
section
variable {W : World} {bs : List Nat} {most : Int}
set_option maxHeartbeats 400000 in
theorem inflate_arg (A : Option Addr) (n c : Nat) (hm : most < 0) : Calls Tryz.prog 128 #[.slice A n c, .int .i64 most] W (InflC W bs most) := by
  have hF : inflateF bs most = ([], 0, 1) := by unfold inflateF; rw [if_pos (.inl hm)]
  have HF := Lib.hid hF
  clear hF
  go_enter Tryz.func128, Tryz.ntmps128
  go_wp2_with fail
  refine bodyPost_ret (v := .tuple #[.slice none 0 0, .int .i64 0, .int .i64 1]) (by simp [results, Tryz.results128, go_sem]) rfl ?_
  unfold InflC
  rw [HF.out]
  exact ⟨.slice none 0 0, rfl, World.ownsRow_nil _ _ _ _, Ch.refl _ _, by intro x hx; cases hx⟩
theorem inflate_c (D : Nat → Prop) (A : Option Addr) (c : Nat) (hb : Rd W D 1 A bs.length (bl bs)) (hk : okB bs) (hl : bs.length ≤ 140737488355328) (hm : most ≤ 65536) :
    Calls Tryz.prog 128 #[.slice A bs.length c, .int .i64 most] W (InflC W bs most) := by
  by_cases h0 : most < 0
  · exact inflate_arg A bs.length c h0
  · exact inflate_any len_c D A c hb hk hl (by omega) hm
end
theorem ok_lives : okB [75, 4, 0] := by unfold okB; decide
theorem lives_bits : inflateF [75, 4, 0] 9 = ([97], 3, 0) := by decide +kernel
end Go.Proofs.YtlokfmalpkahaaaGreat
