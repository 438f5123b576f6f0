/- Rows and labels copied: slices.Clone of labels, record.twin, the references' Twin. Conditions: lengths within the reach. -/
import Derived.Test.YtihocfdnkongkaaKrRowM
import Derived.Test.YtihocfdnkongkaaKrOwn
namespace Go.Proofs.Ytihocfdnkongkaa
set_option maxRecDepth 100000
open Go.RowKit
set_option linter.unusedVariables false
theorem Try.infoLab : (Try.prog.info? 73).map (fun i => (i.zero, i.size, i.bytes)) = some (some (.agg #[.string ⟨#[]⟩, .string ⟨#[]⟩]), 2, 32) := by kernel_rfl
theorem Try.infoRow : (Try.prog.info? 33).map (fun i => (i.zero, i.size, i.bytes)) = some (some (.agg #[.int .i64 0, .int .i64 0, .slice none 0 0, .string ⟨#[]⟩, .int .i64 0, .bool false, .int .i64 0, .int .i64 0, .int .i64 0]), 9, 96) := by kernel_rfl
theorem lbl_one (l : List Lab) : ∀ u ∈ lbl l, u.oneCell' = true := by
  intro u hu
  obtain ⟨x, _, hx⟩ := List.mem_flatMap.1 hu
  simp [Lab.cs] at hx
  rcases hx with rfl | rfl <;> rfl
theorem rvl_one (l : List RV) : ∀ u ∈ rvl l, u.oneCell' = true := by
  intro u hu
  obtain ⟨x, _, hx⟩ := List.mem_flatMap.1 hu
  simp [RV.cs] at hx
  rcases hx with rfl | rfl | rfl | rfl | rfl | rfl | rfl | rfl | rfl <;> rfl
/-- a block whose cells are all written anew -/
theorem setsW_blk {b : Nat} {t : TypeId} : ∀ (vs xs pre : List Value) (w : World), Blk w b t (pre ++ xs).toArray → xs.length = vs.length → Blk (setsW w b pre.length vs) b t (pre ++ vs).toArray
  | [], xs, pre, w, h, hl => by
    have : xs = [] := List.eq_nil_of_length_eq_zero hl
    subst this
    exact h
  | v :: vs, [], pre, w, h, hl => by simp at hl
  | v :: vs, x :: xs, pre, w, h, hl => by
    have h1 := h.set_ pre.length v
    have e : (pre ++ x :: xs).toArray.setIfInBounds pre.length v = ((pre ++ [v]) ++ xs).toArray := by simp
    rw [e] at h1
    have h2 := setsW_blk vs xs (pre ++ [v]) _ h1 (by simpa using hl)
    rw [List.length_append, List.length_singleton] at h2
    have e2 : (pre ++ [v] ++ vs) = pre ++ v :: vs := by simp
    rw [e2] at h2
    exact h2
theorem setsW_all {w : World} {b : Nat} {t : TypeId} {xs : Array Value} (h : Blk w b t xs) (vs : List Value) (hl : xs.size = vs.length) : Blk (setsW w b 0 vs) b t vs.toArray := by
  have := setsW_blk vs xs.toList [] w (by simpa using h) (by simpa using hl)
  simpa using this
/-- a copy of labels in memory of its own -/
def LabTo (w : World) (l : List Lab) (e : Ending) (w' : World) : Prop :=
  ∃ A c, e = .returned (.slice A l.length c) ∧ Rd w' (fun k => w.heap.size ≤ k ∧ k < w'.heap.size) 2 A l.length (lbl l) ∧ Nx w w' ∧ l.length ≤ c ∧ c ≤ maxLen
section
variable {w : World} {D : Nat → Prop} {A : Option Addr} {n c : Nat} {l : List Lab}
set_option maxHeartbeats 1000000 in
theorem labclone_any (h : Rd w D 2 A n (lbl l)) (hl : l.length = n) (hn : n ≤ 1000000000) :
    Calls Try.prog 49 #[.slice A n c] w (LabTo w l) := by
  obtain ⟨i0, hi0, hz0, hz1, hz2⟩ := info_parts Try.infoLab
  have Hlen := Lib.hid hl
  clear hl
  have h' : Rd (w.alloc (.cells #[] 73)) D 2 A n (lbl l) := h.nx (by omega) ((Ch.refl _ w).alloc _)
  have heq := fun w : World => Lib.run_eql_slice_nil (P := Try.prog) w 29 73 A n c 0 0 Try.underlying29
  rcases A with _ | ad
  · have h0 : n = 0 := by
      rcases Nat.eq_zero_or_pos n with h0 | h0
      · exact h0
      · obtain ⟨_, h, _⟩ := h.2 h0; cases h
    have hx : l = [] := List.eq_nil_of_length_eq_zero (by rw [Hlen.out, h0])
    have Hx := Lib.hid hx
    clear h0 hx
    go_enter Try.func49, Try.ntmps49
    go_wp2_with fail
    go_ret
    rw [LabTo, Hx.out]
    exact ⟨none, 0, rfl, Rd.none_ _ _ _ _, Ch.refl _ _, by simp, by simp⟩
  · go_enter Try.func49, Try.ntmps49
    go_wp2_with (at_builtin; refine wpList_append_any _ rfl (.tmp 5) (.tmp 6) _ rfl w.heap.size 73 i0 _ 2 32 Try.underlying29 hi0 hz0 hz1 hz2 rfl (by omega) (.slice (some ⟨w.heap.size, 0, none⟩) 0 0) 0 [] rfl (World.ownsRow_made w #[] 0 (Nat.le_refl _) (by simp [maxLen]) rfl) D (some ad) n c (lbl l) rfl h' (lbl_one l) (by simp only [maxLen]; omega) (by omega) (by simp) ?_; intro v' w1 hown hg hat; obtain ⟨k, cap, hv, hk, hk1, hrd, hnx, ho⟩ := fresh_lit hown hg hat; clear hown hg hat; rw [hv]; clear hv)
    go_ret
    obtain ⟨A', c', hv, hc1, hc2⟩ := own_form ho
    injection hv with _ _ hv
    subst hv
    exact ⟨some ⟨k, 0, none⟩, cap, by simp [Hlen.out], by rw [Hlen.out]; exact hrd.more fun j e => by omega, hnx, by rw [Hlen.out]; exact hc1, hc2⟩
/-- the same row, its labels in memory that is new -/
def TwinTo (w : World) (x : RV) (e : Ending) (w' : World) : Prop :=
  ∃ y : RV, e = .returned (rowV y) ∧ y.row = x.row ∧ y.ok w' (fun k => w.heap.size ≤ k ∧ k < w'.heap.size) ∧ Nx w w'
end
section
variable {w : World} {D : Nat → Prop} {x : RV}
set_option maxHeartbeats 2000000 in
theorem rtwin_any (h : x.ok w D) (hl : x.row.labs.length ≤ 1000000000) : Calls Try.prog 29 #[rowV x] w (TwinTo w x) := by
  obtain ⟨⟨kind, time, labs, text, value, null, maker, seq, place⟩, A1, c1⟩ := x
  obtain ⟨h1, h2, h3⟩ := h
  unfold rowV
  simp only at h1 h2 h3 hl ⊢
  have HR := Lib.hid (fun w' (hn : Nx w w') => labclone_any (c := c1) (h1.nx (by decide) hn) rfl hl)
  clear h1
  go_enter Try.func29, Try.ntmps29
  go_wp2_with fail
  have hnx0 := Lib.hid (((Ch.refl (fun _ => False) w).alloc (.cells #[.int .i64 kind, .int .i64 time, .slice A1 labs.length c1, .string text, .int .i64 value, .bool null, .int .i64 maker, .int .i64 seq, .int .i64 place] 33)).alloc (.cells #[.int .i64 0, .int .i64 0, .slice none 0 0, .string ⟨#[]⟩, .int .i64 0, .bool false, .int .i64 0, .int .i64 0, .int .i64 0] 33))
  refine (HR.out _ hnx0.out).mono ?_
  rintro e w1 ⟨A2, c2, rfl, rd, nx, hc2, hm2⟩
  have b1 : Blk w1 w.heap.size 33 #[.int .i64 kind, .int .i64 time, .slice A1 labs.length c1, .string text, .int .i64 value, .bool null, .int .i64 maker, .int .i64 seq, .int .i64 place] := ((Blk.new w _ _).alloc _).nx nx
  have b2 : Blk w1 (w.heap.size + 1) 33 #[.int .i64 0, .int .i64 0, .slice none 0 0, .string ⟨#[]⟩, .int .i64 0, .bool false, .int .i64 0, .int .i64 0, .int .i64 0] := (by have := Blk.new (w.alloc (.cells #[.int .i64 kind, .int .i64 time, .slice A1 labs.length c1, .string text, .int .i64 value, .bool null, .int .i64 maker, .int .i64 seq, .int .i64 place] 33)) 33 #[.int .i64 0, .int .i64 0, .slice none 0 0, .string ⟨#[]⟩, .int .i64 0, .bool false, .int .i64 0, .int .i64 0, .int .i64 0]; simpa using this.nx nx)
  have NX := Lib.hid (hnx0.out.tr nx)
  have RD := Lib.hid (rd.more (D' := fun k => w.heap.size + 2 ≤ k ∧ k < w1.heap.size) (by intro k hk; simpa using hk))
  have f1 := b1.frozen
  have f2 := b2.frozen
  have d1 := b1.cell
  have d2 := b2.cell
  have hs := Lib.hid (show w.heap.size + 1 < w1.heap.size from b2.lt)
  have B2 := Lib.hid b2
  clear rd nx HR hnx0 b1 b2
  go_wp2_with fail
  obtain ⟨w3, hw3⟩ : ∃ w3, w3 = w1.setCell ⟨w.heap.size, 2, none⟩ (.slice A2 labs.length c2) := ⟨_, rfl⟩
  obtain ⟨w2, hW⟩ : ∃ w2, w2 = setsW w3 (w.heap.size + 1) 0 (RV.cs ⟨⟨kind, time, labs, text, value, null, maker, seq, place⟩, A2, c2⟩) := ⟨_, rfl⟩
  have hch3 : Ch (fun k => k = w.heap.size) w1 w3 := by rw [hw3]; exact Ch.setCell (S := fun k => k = w.heap.size) (Ch.refl _ w1) (p := ⟨w.heap.size, 2, none⟩) (fun _ => rfl) _
  have b3 : Blk w3 (w.heap.size + 1) 33 #[.int .i64 0, .int .i64 0, .slice none 0 0, .string ⟨#[]⟩, .int .i64 0, .bool false, .int .i64 0, .int .i64 0, .int .i64 0] := by rw [hw3]; exact B2.out.far (by simp) _
  have hch : Ch (fun k => k = w.heap.size + 1) w3 w2 := by rw [hW]; exact setsW_ch _ _ _
  have b4 : Blk w2 (w.heap.size + 1) 33 #[.int .i64 kind, .int .i64 time, .slice A2 labs.length c2, .string text, .int .i64 value, .bool null, .int .i64 maker, .int .i64 seq, .int .i64 place] := by rw [hW]; exact setsW_all b3 _ rfl
  have d := b4.cell
  simp only [RV.cs, setsW, hw3] at hW
  rw [← hW]
  clear hW d1 d2 f1 f2 b3 b4 B2 hw3
  refine bodyPost_ret (v := rowV ⟨⟨kind, time, labs, text, value, null, maker, seq, place⟩, A2, c2⟩) (by simp [results, Try.results29, go_sem, rowV, d, RV.cs]) rfl ?_
  have hall : Ch (fun k => k = w.heap.size ∨ k = w.heap.size + 1) w1 w2 := (hch3.mono fun _ _ h => .inl h).trans hch fun _ _ h => .inr h
  have hsz := hall.size
  exact ⟨_, rfl, rfl, ⟨(RD.out.ch (by decide) hall fun k _ hk => by omega).more fun k hk => by have := hs.out; omega, hc2, hm2⟩, NX.out.trans hall fun i hi hs => by rcases hs with rfl | rfl <;> omega⟩
end
end Go.Proofs.Ytihocfdnkongkaa
