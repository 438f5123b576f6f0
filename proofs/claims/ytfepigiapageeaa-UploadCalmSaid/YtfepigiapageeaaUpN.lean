/- The contracts of bytes.Clone, bytes.Equal, upload.New. Conditions: lengths within the reach. -/
import Derived.Test.YtfepigiapageeaaUpl
namespace Go.Proofs.Ytfepigiapageeaa
set_option maxRecDepth 100000
open Go.RowKit
set_option linter.unusedVariables false

/-- a copy of bytes in memory of its own (or nil) -/
def CloneTo (w : World) (xs : List Nat) (e : Ending) (w' : World) : Prop :=
  ∃ A c, e = .returned (.slice A xs.length c) ∧ Rd w' (fun k => w.heap.size ≤ k ∧ k < w'.heap.size) 1 A xs.length (bl xs) ∧ Nx w w' ∧ xs.length ≤ c ∧ c ≤ maxLen

set_option maxHeartbeats 400000 in
theorem clone_any (D : Nat → Prop) (A : Option Addr) (n c : Nat) (xs : List Nat) (w : World) (h : Rd w D 1 A n (bl xs)) (hn : n ≤ 140737488355328) :
    Calls Try.prog 18 #[.slice A n c] w (CloneTo w xs) := by
  obtain ⟨i0, hi0, hz0, hz1, hz2⟩ := info_parts Try.info5
  have hlen : xs.length = n := by have := h.1; rw [bl_length] at this; omega
  have Hlen := Lib.hid hlen
  clear hlen
  have h' : Rd (w.alloc (.cells #[] 5)) D 1 A n (bl xs) := h.nx (by omega) ((Ch.refl _ w).alloc _)
  have heq := fun w : World => Lib.run_eql_slice_nil (P := Try.prog) w 22 5 A n c 0 0 Try.underlying22
  rcases A with _ | ad
  · have h0 : n = 0 := by
      rcases Nat.eq_zero_or_pos n with h0 | h0
      · exact h0
      · obtain ⟨_, h, _⟩ := h.2 h0; cases h
    have hx : xs = [] := List.eq_nil_of_length_eq_zero (by rw [Hlen.out, h0])
    have Hx := Lib.hid hx
    clear h0 hx
    go_enter Try.func18, Try.ntmps18
    go_wp2_with fail
    go_ret
    rw [CloneTo, Hx.out]
    exact ⟨none, 0, rfl, Rd.none_ _ _ _ _, Ch.refl _ _, by simp, by simp⟩
  · go_enter Try.func18, Try.ntmps18
    go_wp2_with (at_builtin; refine wpList_append_any _ rfl (.tmp 5) (.tmp 6) _ rfl w.heap.size 5 i0 _ 1 1 Try.underlying22 hi0 hz0 hz1 hz2 rfl (by omega) (.slice (some ⟨w.heap.size, 0, none⟩) 0 0) 0 [] rfl (World.ownsRow_made w #[] 0 (Nat.le_refl _) (by simp [maxLen]) rfl) D (some ad) n c (bl xs) rfl h' (bl_one xs) (by simp only [maxLen]; omega) (by omega) (by simp) ?_; intro v' w1 hown hg hat; obtain ⟨k, cap, hv, hk, hk1, hrd, hnx, ho⟩ := fresh_lit hown hg hat; clear hown hg hat; rw [hv]; clear hv)
    go_ret
    obtain ⟨A', c', hv, hc1, hc2⟩ := own_form ho
    injection hv with _ _ hv
    subst hv
    exact ⟨some ⟨k, 0, none⟩, cap, by simp [Hlen.out], by rw [Hlen.out]; exact hrd.more fun j e => by omega, hnx, by rw [Hlen.out]; exact hc1, hc2⟩

set_option maxHeartbeats 400000 in
theorem equal_any (D D' : Nat → Prop) (A B : Option Addr) (n c m d : Nat) (xs ys : List Nat) (w : World) (hx : Rd w D 1 A n (bl xs)) (hy : Rd w D' 1 B m (bl ys)) (ox : okB xs) (oy : okB ys) :
    Calls Try.prog 35 #[.slice A n c, .slice B m d] w fun e w' => e = .returned (.bool (decide (xs = ys))) ∧ w = w' := by
  have e1 := run_str_of (P := Try.prog) w 22 9 5 Try.underlying22 Try.underlying5 Try.underlying9 D A n c xs hx
  have e2 := run_str_of (P := Try.prog) w 22 9 5 Try.underlying22 Try.underlying5 Try.underlying9 D' B m d ys hy
  have Hinj : Hid (strB xs = strB ys → xs = ys) := strB_inj ox oy
  clear hx hy ox oy
  generalize hsx : strB xs = sx at *
  generalize hsy : strB ys = sy at *
  have HX := Lib.hid hsx
  have HY := Lib.hid hsy
  clear hsx hsy
  go_enter Try.func35, Try.ntmps35
  go_wp2
  go_ret
  refine ⟨?_, rfl⟩
  have hq : (sx.toList == sy.toList) = decide (xs = ys) := by
    rw [Bool.eq_iff_iff, beq_iff_eq, decide_eq_true_iff]
    constructor
    · intro h
      refine Hinj.out ?_
      rw [ByteArray.toList_eq, ByteArray.toList_eq] at h
      cases sx; cases sy
      simpa [Array.ext_iff] using congrArg List.toArray h
    · rintro rfl
      rw [← HX.out, ← HY.out]
  simp [hq]

/-- does New make an upload? -/
def okNew (n : Nat) (piece tries wait : Int) : Prop := 1 ≤ piece ∧ piece ≤ 262144 ∧ 1 ≤ tries ∧ tries ≤ 8 ∧ 0 ≤ wait ∧ wait ≤ 1099511627776 ∧ n ≤ 262144
def newUp (key : ByteArray) (n : Nat) (piece tries wait : Int) : Up :=
  { key := key, size := max piece (((n : Int) + 31) / 32), tries := tries, wait := wait, sAt := 0, n := 0, id := 0, sFrom := 0, fails := 0, due := 0, born := 0, ends := 0, asked := false }
/-- an upload that New has made -/
def NewTo (w : World) (key : ByteArray) (xs : List Nat) (piece tries wait : Int) (e : Ending) (w' : World) : Prop :=
  ∃ g A c, e = .returned (.pointer (some ⟨g, 0, none⟩)) ∧ UpB w' g (newUp key xs.length piece tries wait) (.slice A xs.length c) ∧ Rd w' (fun k => w.heap.size ≤ k ∧ k < g) 1 A xs.length (bl xs) ∧ Nx w w' ∧ w.heap.size ≤ g ∧ xs.length ≤ c ∧ c ≤ maxLen

set_option maxHeartbeats 1000000 in
theorem new_ok (D : Nat → Prop) (key : ByteArray) (A : Option Addr) (n c : Nat) (xs : List Nat) (piece tries wait : Int) (w : World) (hrd : Rd w D 1 A n (bl xs)) (hl : xs.length = n) (hok : okNew n piece tries wait) :
    Calls Try.prog 9 #[.string key, .slice A n c, .int .i64 piece, .int .i64 tries, .int .i64 wait] w (NewTo w key xs piece tries wait) := by
  obtain ⟨h1, h2, h3, h4, h5, h6, h7⟩ := hok
  have Hl := Lib.hid hl
  clear hl
  go_enter Try.func9, Try.ntmps9
  go_wp2_with fail
  all_goals
    with_reducible refine (clone_any D A n c xs _ hrd (by omega)).mono ?_
    rintro e w1 ⟨A1, c1, rfl, r1, n1, hc1, hc2⟩
    go_wp2_with fail
    go_ret
    refine ⟨w1.heap.size, A1, c1, rfl, ?_, r1.nx (by omega) ((Ch.refl _ w1).alloc _), n1.alloc _, n1.size, hc1, hc2⟩
    unfold newUp
    rw [Hl.out]
    first
    | (rw [show max piece (((n : Int) + 31) / 32) = piece by omega]; exact Blk.new _ _ _)
    | (rw [show max piece (((n : Int) + 31) / 32) = ((n : Int) + 32 - 1) / 32 by omega]; exact Blk.new _ _ _)

set_option maxHeartbeats 2000000 in
theorem new_bad (key : ByteArray) (A : Option Addr) (n c : Nat) (piece tries wait : Int) (w : World) (hn : n ≤ 140737488355328) (hok : ¬ okNew n piece tries wait) :
    Calls Try.prog 9 #[.string key, .slice A n c, .int .i64 piece, .int .i64 tries, .int .i64 wait] w fun e w' => e = .returned (.pointer none) ∧ w = w' := by
  have Hok := Lib.hid hok
  clear hok
  by_cases hbad : (((((1 ≤ piece ∧ piece ≤ 262144) ∧ 1 ≤ tries) ∧ tries ≤ 8) ∧ 0 ≤ wait) ∧ wait ≤ 1099511627776) ∧ (n : Int) ≤ 262144
  · exact absurd ⟨by omega, by omega, by omega, by omega, by omega, by omega, by omega⟩ Hok.out
  · clear Hok
    go_enter Try.func9, Try.ntmps9
    go_wp2_with fail
    all_goals
      go_ret
      exact ⟨rfl, rfl⟩
end Go.Proofs.Ytfepigiapageeaa
