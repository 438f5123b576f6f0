/- law07's lives: squeeze.Deflate of one letter. Conditions: none. -/
import Derived.Test.YtoknoijecpdcaaaSqT
import Derived.Test.YtoknoijecpdcaaaBitsN
import Derived.Test.YtoknoijecpdcaaaLaw
import Derived.Lib.SlBytesConst
namespace Go.Proofs.Ytoknoijecpdcaaa
open Go.RowKit
set_option linter.unusedVariables false
set_option maxHeartbeats 1000000 in
theorem sq_letter_a (g : Nat) (h : Option Nat) (l : List Bool) (w : World) (r : WrIs w g h l) (hl : l.length ≤ 999999999000) :
    Calls Try.prog 20 #[.pointer (some ⟨g, 0, none⟩), .int .i64 97] w fun e w' => e = .returned (.tuple #[]) ∧ WrTo w g h (l ++ codeBits 145 8) w' := by
  go_enter Try.func20, Try.ntmps20
  go_wp2_with fail
  refine (wr_code g h l 145 8 w r hl (by omega) (by omega)).mono ?_
  rintro e w1 ⟨rfl, t1⟩
  go_wp2_with fail
  go_end0
  exact ⟨rfl, t1⟩
set_option maxHeartbeats 1000000 in
theorem sq_letter_end (g : Nat) (h : Option Nat) (l : List Bool) (w : World) (r : WrIs w g h l) (hl : l.length ≤ 999999999000) :
    Calls Try.prog 20 #[.pointer (some ⟨g, 0, none⟩), .int .i64 256] w fun e w' => e = .returned (.tuple #[]) ∧ WrTo w g h (l ++ codeBits 0 7) w' := by
  go_enter Try.func20, Try.ntmps20
  go_wp2_with fail
  refine (wr_code g h l 0 7 w r hl (by omega) (by omega)).mono ?_
  rintro e w1 ⟨rfl, t1⟩
  go_wp2_with fail
  go_end0
  exact ⟨rfl, t1⟩
set_option maxRecDepth 100000 in
set_option maxHeartbeats 2000000 in
theorem sq_stored_a (D : Nat → Prop) (A : Option Addr) (c : Nat) (W : World) (hr : Rd W D 1 A 1 (bl [97])) (hc : 1 ≤ c) :
    Calls Try.prog 23 #[.slice A 1 c] W fun e w' => ∃ A' c', e = .returned (.slice A' 6 c') ∧ Nx W w' := by
  obtain ⟨i0, hi0, hz0, hz1, hz2⟩ := info_parts Try.info5
  have T0 := OwnS.nil W (W.alloc (.cells #[.int .u8 1, .int .u8 1, .int .u8 0, .int .u8 254, .int .u8 255] 5)) 5 1 ((Ch.refl _ W).alloc _)
  have hrd5 : Rd (W.alloc (.cells #[.int .u8 1, .int .u8 1, .int .u8 0, .int .u8 254, .int .u8 255] 5)) (fun k => k = W.heap.size) 1 (some ⟨W.heap.size, 0, none⟩) 5 (bl [1, 1, 0, 254, 255]) :=
    ⟨rfl, fun _ => ⟨_, rfl, rfl, World.news_of_block (Blk.new W 5 #[.int .u8 1, .int .u8 1, .int .u8 0, .int .u8 254, .int .u8 255])⟩⟩
  have HR5 := Lib.hid hrd5
  have HR := Lib.hid hr
  have hc1 : (1 : Int) ≤ (c : Int) := by omega
  clear hrd5 hr
  go_enter Try.func23, Try.ntmps23
  go_wp2_with fail
  refine wp_loop_rounds 1 ?_
  rw [rounds_succ]
  go_wp2_with (at_builtin; first
    | (refine wpList_appN rfl (.tmp 13) (.tmp 27) _ rfl 5 i0 _ 1 1 Try.underlying22 hi0 hz0 hz1 hz2 rfl (by omega) rfl T0 _ (some ⟨W.heap.size, 0, none⟩) 5 5 (bl [1, 1, 0, 254, 255]) rfl HR5.out (bl_one _) (by simp [maxLen]) (by omega) ?_; intro v3 w3 o3 m3)
    | (refine wpList_appN rfl (.tmp 29) (.tmp 32) _ rfl 5 i0 _ 1 1 Try.underlying22 hi0 hz0 hz1 hz2 rfl (by omega) rfl o3 _ A 1 c (bl [97]) rfl (HR.out.nx (by decide) o3.nx) (bl_one _) (by simp [maxLen]) (by omega) ?_; intro v4 w4 o4 m4; obtain ⟨A4, c4, rfl, _, _⟩ := o4.form))
  all_goals go_ret
  all_goals exact ⟨⟨_, _, rfl⟩, o4.nx⟩
/-- the writer of the call's own at a loop's head -/
def WrAt2 (W w : World) (g : Nat) (l : List Bool) : Prop := ∃ h, WrIs w g h l ∧ (∀ j, h = some j → W.heap.size ≤ j) ∧ Nx W w
theorem WrAt2.next {W w w1 : World} {g : Nat} {h : Option Nat} {l2 : List Bool} (n : Nx W w) (hg : W.heap.size ≤ g) (hh : ∀ j, h = some j → W.heap.size ≤ j) (t : WrTo w g h l2 w1) : WrAt2 W w1 g l2 := by
  obtain ⟨h1, r1, q1, c1⟩ := t
  have hs := n.size
  refine ⟨h1, r1, fun j hj => ?_, n.trans c1 fun i hi hk => ?_⟩
  · rcases q1 with e | ⟨k, e, hk⟩
    · exact hh j (by rw [← e]; exact hj)
    · rw [e] at hj; injection hj with hj; omega
  · rcases hk with e | e
    · omega
    · have := hh i e; omega
theorem tok_a : tokensF [97] [97].length 0 = [⟨0, 0, 97⟩] := rfl
theorem bits_a : pack ((([] ++ numBits 3 3) ++ codeBits 145 8) ++ codeBits 0 7) = [75, 4, 0] := by decide +kernel
theorem ok_a : okB [97] := by unfold okB; decide
set_option maxRecDepth 100000 in
set_option maxHeartbeats 4000000 in
theorem sq_deflate_a (D : Nat → Prop) (A : Option Addr) (c : Nat) (W : World) (hr : Rd W D 1 A 1 (bl [97])) (hc : 1 ≤ c) :
    Calls Try.prog 13 #[.slice A 1 c] W fun e w' => ∃ A' c', e = .returned (.tuple #[.slice A' 3 c', .int .i64 0]) ∧ (∃ D', Rd w' D' 1 A' 3 (bl [75, 4, 0])) ∧ Nx W w' := by
  go_enter Try.func13, Try.ntmps13
  go_wp2_with fail
  refine (sq_tokens D A c [97] W hr ok_a (by simp)).mono ?_
  rintro e w1 ⟨v, rfl, ho, n1⟩
  rw [tok_a] at ho
  have hr1 := hr.nx (by decide) n1
  obtain ⟨k, cap, rfl, _, _⟩ := ho.form (by simp)
  have hcell := ho.cells (g := k) rfl
  have c0 : w1.cell? ⟨k, 0, none⟩ = some (.int .i64 0) := hcell 0 _ rfl
  have c1 : w1.cell? ⟨k, 1, none⟩ = some (.int .i64 0) := hcell 1 _ rfl
  have c2 : w1.cell? ⟨k, 2, none⟩ = some (.int .u8 97) := hcell 2 _ rfl
  have hk1 := World.block_lt_of_cell? w1 _ c0
  have hnew := WrIs.new w1
  have nw : Nx w1 (w1.alloc (.cells #[.slice none 0 0, .int .i64 0] 49)) := (Ch.refl _ w1).alloc _
  obtain ⟨g, hg⟩ : ∃ g, w1.heap.size = g := ⟨_, rfl⟩
  have hg1 : w1.heap.size ≤ g := by omega
  rw [hg] at hnew
  clear hcell ho
  go_wp2_with fail
  refine (wr_bits g none [] 3 3 _ hnew (by simp) (by omega) (by omega)).mono ?_
  rintro e w2 ⟨rfl, t2⟩
  obtain ⟨h2, rw2, hh2, nx2⟩ := WrAt2.next nw hg1 (by intro j hj; cases hj) t2
  have d0 := (nx2.cell (p := ⟨k, 0, none⟩) hk1).trans c0
  have d1 := (nx2.cell (p := ⟨k, 1, none⟩) hk1).trans c1
  have d2 := (nx2.cell (p := ⟨k, 2, none⟩) hk1).trans c2
  clear t2 hnew nw c0 c1 c2
  go_wp2_with fail
  refine wp_loop_rounds 2 ?_
  rw [rounds_succ]
  go_wp2_with fail
  have na : Nx w2 (w2.alloc (.cells #[.int .i64 0, .int .i64 0, .int .u8 97] 33)) := (Ch.refl _ w2).alloc _
  refine (sq_letter_a g h2 _ _ (rw2.ch na (fun hf => hf) (fun _ _ hf => hf)) (by simp [numBits_length])).mono ?_
  rintro e w3 ⟨rfl, t3⟩
  obtain ⟨h3, rw3, hh3, nx3⟩ := WrAt2.next (nx2.tr na) hg1 hh2 t3
  clear t3 na rw2
  go_wp2_with fail
  rw [rounds_succ]
  go_wp2_with fail
  refine (sq_letter_end g h3 _ _ rw3 (by simp [numBits_length, codeBits_length])).mono ?_
  rintro e w4 ⟨rfl, t4⟩
  obtain ⟨h4, rw4, hh4, nx4⟩ := WrAt2.next nx3 hg1 hh3 t4
  clear t4 rw3
  go_wp2_with fail
  refine (wr_bytes g h4 _ _ rw4 (by simp [numBits_length, codeBits_length])).mono ?_
  rintro e w5 ⟨k5, cap5, rfl, hk5, hk5', ho5, hrd5, nx5⟩
  rw [bits_a] at ho5 hrd5 ⊢
  have hr5 := (hr1.nx (by decide) nx4).nx (by decide) nx5
  go_wp2_with fail
  refine (sq_stored_a D A c w5 hr5 hc).mono ?_
  rintro e w6 ⟨A6, c6, rfl, nx6⟩
  go_wp2_with fail
  go_ret2
  exact ⟨_, _, rfl, ⟨_, hrd5.nx (by decide) nx6⟩, n1.tr ((nx4.tr nx5).tr nx6)⟩
set_option maxRecDepth 100000 in
set_option maxHeartbeats 1000000 in
theorem lives7_any (W : World) :
    Calls Try.prog 8 #[] W fun e W' => e = .returned (.bool true) ∧ Nx W W' := by
  have hh : (W.alloc (.cells #[.int .u8 97] 5 (1, 2))).heap[W.heap.size]? = some (.cells #[.int .u8 97] 5 (1, 2)) := heap_alloc_new W _
  have hr : Rd (W.alloc (.cells #[.int .u8 97] 5 (1, 2))) (fun k => k = W.heap.size) 1 (some ⟨W.heap.size, 0, none⟩) 1 (bl [97]) :=
    ⟨rfl, fun _ => ⟨⟨W.heap.size, 0, none⟩, rfl, rfl, fun j u hu => by
      match j, hu with
      | 0, hu =>
        simp [bl] at hu
        subst hu
        exact cell_of_row _ W.heap.size 0 _ _ _ hh⟩⟩
  have hcv := Lib.run_convert_bytes_const (P := Try.prog) W 22 5 #[.int .u8 97] 1 1 Try.underlying22 Try.underlying5
  clear hh
  go_enter Try.func8, Try.ntmps8
  go_wp2_with fail
  refine (sq_deflate_a _ _ 1 _ hr (by omega)).mono ?_
  rintro e w1 ⟨A, c, rfl, ⟨D', hR⟩, n1⟩
  have hs := run_str_of (P := Try.prog) w1 22 9 5 Try.underlying22 Try.underlying5 Try.underlying9 _ A 3 c [75, 4, 0] hR
  have hst : strB [75, 4, 0] = { data := #[75, 4, 0] } := rfl
  rw [hst] at hs
  go_wp2_with fail
  go_ret
  exact ⟨by simp, ((Ch.refl _ W).alloc _).tr n1⟩
end Go.Proofs.Ytoknoijecpdcaaa
