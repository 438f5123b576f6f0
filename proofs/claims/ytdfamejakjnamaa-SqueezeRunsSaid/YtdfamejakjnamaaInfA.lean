/- The contract of inflate.Inflate, of any bytes and any limit up to 65536; law06's lives. Conditions: none. -/
import Derived.Test.YtdfamejakjnamaaInfL
import Derived.Test.YtdfamejakjnamaaLaw
namespace Go.Proofs.Ytdfamejakjnamaa
open Go.RowKit
set_option linter.unusedVariables false
section
variable {W : World} {bs : List Nat} {most : Int}
set_option maxHeartbeats 400000 in
theorem inflate_arg (A : Option Addr) (n c : Nat) (hm : most < 0) : Calls Try.prog 20 #[.slice A n c, .int .i64 most] W (InflC W bs most) := by
  have hF : inflateF bs most = ([], 0, 1) := by unfold inflateF; rw [if_pos (.inl hm)]
  have HF := Lib.hid hF
  clear hF
  go_enter Try.func20, Try.ntmps20
  go_wp2_with fail
  refine bodyPost_ret (v := .tuple #[.slice none 0 0, .int .i64 0, .int .i64 1]) (by simp [results, Try.results20, go_sem]) rfl ?_
  unfold InflC
  rw [HF.out]
  exact ⟨.slice none 0 0, rfl, World.ownsRow_nil _ _ _ _, Ch.refl _ _, by intro x hx; cases hx⟩
theorem inflate_c (D : Nat → Prop) (A : Option Addr) (c : Nat) (hb : Rd W D 1 A bs.length (bl bs)) (hk : okB bs) (hl : bs.length ≤ 140737488355328) (hm : most ≤ 65536) :
    Calls Try.prog 20 #[.slice A bs.length c, .int .i64 most] W (InflC W bs most) := by
  by_cases h0 : most < 0
  · exact inflate_arg A bs.length c h0
  · exact inflate_any len_c D A c hb hk hl (by omega) hm
end
theorem ok_lives : okB [75, 4, 0] := by unfold okB; decide
theorem lives_bits : inflateF [75, 4, 0] 9 = ([97], 3, 0) := by decide +kernel
set_option maxHeartbeats 1000000 in
theorem lives6_any (W : World) :
    Calls Try.prog 19 #[] W fun e W' => e = .returned (.bool true) ∧ Nx W W' := by
  have hb := Blk.new W 5 #[.int .u8 75, .int .u8 4, .int .u8 0]
  have hr : Rd (W.alloc (.cells #[.int .u8 75, .int .u8 4, .int .u8 0] 5)) (fun k => k = W.heap.size) 1 (some ⟨W.heap.size, 0, none⟩) 3 (bl [75, 4, 0]) :=
    ⟨rfl, fun _ => ⟨_, rfl, rfl, World.news_of_block hb⟩⟩
  clear hb
  go_enter Try.func19, Try.ntmps19
  go_wp2_with fail
  refine (inflate_c (bs := [75, 4, 0]) (most := 9) _ _ 3 hr ok_lives (by simp) (by omega)).mono ?_
  rintro e w1 ⟨v, rfl, ho, n1, hk⟩
  rw [lives_bits] at ho ⊢
  obtain ⟨A, c, rfl, _, _⟩ := own_form ho
  have hR := Rd.of_own ho
  have hs := run_str_of (P := Try.prog) w1 22 9 5 Try.underlying22 Try.underlying5 Try.underlying9 _ A 1 c [97] hR
  have hst : strB [97] = { data := #[97] } := rfl
  simp only [List.length_singleton] at *
  rw [hst] at hs
  go_wp2_with fail
  go_ret
  exact ⟨by simp, ((Ch.refl _ W).alloc _).trans n1 fun i hi hh => by simp at hh; omega⟩
end Go.Proofs.Ytdfamejakjnamaa
