/- The contracts of the reference's Twin and Twins (layer 9). Conditions: at most 1000000 rows. -/
import Derived.Test.YtdfodcbpmfifgaaRcB
namespace Go.Proofs.Ytdfodcbpmfifgaa
set_option maxRecDepth 100000
open Go.RowKit
set_option linter.unusedVariables false
/-- a record whose labels lie in memory that is new -/
def RecTo (w : World) (kind time : Int) (labs : List Lab) (text : ByteArray) (value : Int) (null : Bool) (e : Ending) (w' : World) : Prop :=
  ∃ A2 c2, e = .returned (.agg #[.int .i64 kind, .int .i64 time, .slice A2 labs.length c2, .string text, .int .i64 value, .bool null]) ∧ Rd w' (fun k => w.heap.size ≤ k ∧ k < w'.heap.size) 2 A2 labs.length (lbl labs) ∧ Nx w w' ∧ labs.length ≤ c2 ∧ c2 ≤ maxLen
section
variable {w : World} {D : Nat → Prop}
set_option maxHeartbeats 2000000 in
theorem twin9_any {kind time value : Int} {labs : List Lab} {text : ByteArray} {null : Bool} {A1 : Option Addr} {c1 : Nat} (h1 : Rd w D 2 A1 labs.length (lbl labs)) (hl : labs.length ≤ 1000000000) :
    Calls Try.prog 16 #[.agg #[.int .i64 kind, .int .i64 time, .slice A1 labs.length c1, .string text, .int .i64 value, .bool null]] w (RecTo w kind time labs text value null) := by
  have HR := Lib.hid (fun w' (hn : Nx w w') => reftwin8_any (c := c1) (h1.nx (by decide) hn) rfl hl)
  clear h1
  go_enter Try.func16, Try.ntmps16
  go_wp2_with fail
  have hnx0 := Lib.hid (((Ch.refl (fun _ => False) w).alloc (.cells #[.int .i64 kind, .int .i64 time, .slice A1 labs.length c1, .string text, .int .i64 value, .bool null] 34)).alloc (.cells #[.int .i64 0, .int .i64 0, .slice none 0 0, .string ⟨#[]⟩, .int .i64 0, .bool false] 34))
  refine (HR.out _ hnx0.out).mono ?_
  rintro e w1 ⟨A2, c2, rfl, rd, nx, hc2, hm2⟩
  have b1 : Blk w1 w.heap.size 34 #[.int .i64 kind, .int .i64 time, .slice A1 labs.length c1, .string text, .int .i64 value, .bool null] := ((Blk.new w _ _).alloc _).nx nx
  have b2 : Blk w1 (w.heap.size + 1) 34 #[.int .i64 0, .int .i64 0, .slice none 0 0, .string ⟨#[]⟩, .int .i64 0, .bool false] := (by have := Blk.new (w.alloc (.cells #[.int .i64 kind, .int .i64 time, .slice A1 labs.length c1, .string text, .int .i64 value, .bool null] 34)) 34 #[.int .i64 0, .int .i64 0, .slice none 0 0, .string ⟨#[]⟩, .int .i64 0, .bool false]; simpa using this.nx nx)
  have NX := Lib.hid (hnx0.out.tr nx)
  have RD := Lib.hid (rd.more (D' := fun k => w.heap.size + 2 ≤ k ∧ k < w1.heap.size) (by intro k hk; simpa using hk))
  have f1 := b1.frozen
  have f2 := b2.frozen
  have d1 := b1.cell
  have d2 := b2.cell
  have hs := Lib.hid (show w.heap.size + 1 < w1.heap.size from b2.lt)
  have B2 := Lib.hid b2
  clear rd nx HR hnx0 b1 b2
  go_wp2_with fail
  obtain ⟨w3, hw3⟩ : ∃ w3, w3 = w1.setCell ⟨w.heap.size, 2, none⟩ (.slice A2 labs.length c2) := ⟨_, rfl⟩
  obtain ⟨w2, hW⟩ : ∃ w2, w2 = setsW w3 (w.heap.size + 1) 0 [.int .i64 kind, .int .i64 time, .slice A2 labs.length c2, .string text, .int .i64 value, .bool null] := ⟨_, rfl⟩
  have hch3 : Ch (fun k => k = w.heap.size) w1 w3 := by rw [hw3]; exact Ch.setCell (S := fun k => k = w.heap.size) (Ch.refl _ w1) (p := ⟨w.heap.size, 2, none⟩) (fun _ => rfl) _
  have b3 : Blk w3 (w.heap.size + 1) 34 #[.int .i64 0, .int .i64 0, .slice none 0 0, .string ⟨#[]⟩, .int .i64 0, .bool false] := by rw [hw3]; exact B2.out.far (by simp) _
  have hch : Ch (fun k => k = w.heap.size + 1) w3 w2 := by rw [hW]; exact setsW_ch _ _ _
  have b4 : Blk w2 (w.heap.size + 1) 34 #[.int .i64 kind, .int .i64 time, .slice A2 labs.length c2, .string text, .int .i64 value, .bool null] := by rw [hW]; exact setsW_all b3 _ rfl
  have d := b4.cell
  simp only [setsW, hw3] at hW
  rw [← hW]
  clear hW d1 d2 f1 f2 b3 b4 B2 hw3
  refine bodyPost_ret (v := .agg #[.int .i64 kind, .int .i64 time, .slice A2 labs.length c2, .string text, .int .i64 value, .bool null]) (by simp [results, Try.results16, go_sem, d]) rfl ?_
  have hall : Ch (fun k => k = w.heap.size ∨ k = w.heap.size + 1) w1 w2 := (hch3.mono fun _ _ h => .inl h).trans hch fun _ _ h => .inr h
  have hsz := hall.size
  exact ⟨_, _, rfl, (RD.out.ch (by decide) hall fun k _ hk => by omega).more fun k hk => by have := hs.out; omega, NX.out.trans hall fun i hi hs => by rcases hs with rfl | rfl <;> omega, hc2, hm2⟩
/-- the same rows in memory of the call's own -/
def TwinsTo (l : List RV) (w : World) (e : Ending) (w' : World) : Prop := ∃ v zs, e = .returned v ∧ RowsO w w' v zs ∧ v.ownBlock ≠ none ∧ zs.map (fun x => x.row) = l.map fun x => x.row
set_option maxHeartbeats 4000000 in
theorem twins_any {A : Option Addr} {n c : Nat} {l : List RV} (h : Rd w D 9 A n (rvl l)) (hl : l.length = n) (hn : n ≤ 1000000) (hk : ∀ x ∈ l, x.ok w D ∧ x.row.labs.length ≤ 1000000000) :
    Calls Try.prog 8 #[.slice A n c] w (TwinsTo l w) := by
  obtain ⟨i0, hi0, hz0, hz1, hz2⟩ := info_parts Try.infoRow
  have Hl := Lib.hid hl
  have H := Lib.hid h
  have HK := Lib.hid hk
  clear hl h hk
  have H0 := Lib.hid (RowsO.lit w w (Ch.refl _ _))
  go_enter Try.func8, Try.ntmps8
  go_wp2_with fail
  go_loopw [3, 9] (fun v i wr => ∃ (k : Nat) (zs : List RV), k ≤ n ∧ i = .int .i64 (k : Int) ∧ Hid (RowsO w wr v zs) ∧ Hid (v.ownBlock ≠ none) ∧ Hid (zs.map (fun x => x.row) = (l.take k).map fun x => x.row)) (fun _ i _ => n - (intOf i).toNat)
  case atStart => exact ⟨0, [], Nat.zero_le _, rfl, H0, Lib.hid (by simp [Value.ownBlock]), Lib.hid rfl⟩
  case round =>
    obtain ⟨w4, rfl⟩ : ∃ w4 : World, w4 = wr := ⟨_, rfl⟩
    obtain ⟨k, zs, hkn, rfl, Hr, Hv, Hm⟩ := hrel
    by_cases hlt : k < n
    · have hkl : k < l.length := by rw [Hl.out]; exact hlt
      obtain ⟨ad, rfl, hb, p0, p1, p2, p3, p4, p5, p6, p7, p8⟩ := row_at (H.out.nx (by decide) Hr.out.own.nx) hkl
      have HT := Lib.hid (fun w' (hn : Nx w4 w') => (((HK.out _ (List.getElem_mem hkl)).1.ch Hr.out.own.nx (fun _ _ _ hf => hf) (fun _ h => h)).ch hn (D' := D) (fun _ _ _ hf => hf) (fun _ h => h)))
      have HTL := Lib.hid ((HK.out _ (List.getElem_mem hkl)).2)
      have Hm2 := Lib.hid (show (zs.map (fun x => x.row)) ++ [l[k].row] = (l.take (k + 1)).map fun x => x.row by rw [Hm.out, List.take_succ_eq_append_getElem hkl, List.map_append]; rfl)
      clear hb
      generalize l[k] = x at *
      obtain ⟨⟨kind, time, labs, text, value, null, maker, seq, place⟩, A1, c1⟩ := x
      unfold RV.ok at HT
      simp only at p0 p1 p2 p3 p4 p5 p6 p7 p8 HT HTL Hm2
      have hzl : zs.length ≤ 1000000 := by
        have := congrArg List.length Hm.out
        simp at this
        omega
      have HB := Lib.hid (Blk.new w4 36 #[.int .i64 kind, .int .i64 time, .slice A1 labs.length c1, .string text, .int .i64 value, .bool null, .int .i64 maker, .int .i64 seq, .int .i64 place])
      go_wp2_with fail
      refine (twin9_any (HT.out _ ((Ch.refl _ w4).alloc _)).1 HTL.out).mono ?_
      rintro e w5 ⟨A2, c2, rfl, rd, nx, hc2, hm2⟩
      have b5 := HB.out.nx nx
      have e0 : w5.cell? ⟨w4.heap.size, 0, none⟩ = some (.int .i64 kind) := b5.cell 0
      have e1 : w5.cell? ⟨w4.heap.size, 1, none⟩ = some (.int .i64 time) := b5.cell 1
      have e2 : w5.cell? ⟨w4.heap.size, 2, none⟩ = some (.slice A1 labs.length c1) := b5.cell 2
      have e3 : w5.cell? ⟨w4.heap.size, 3, none⟩ = some (.string text) := b5.cell 3
      have e4 : w5.cell? ⟨w4.heap.size, 4, none⟩ = some (.int .i64 value) := b5.cell 4
      have e5 : w5.cell? ⟨w4.heap.size, 5, none⟩ = some (.bool null) := b5.cell 5
      have e6 : w5.cell? ⟨w4.heap.size, 6, none⟩ = some (.int .i64 maker) := b5.cell 6
      have e7 : w5.cell? ⟨w4.heap.size, 7, none⟩ = some (.int .i64 seq) := b5.cell 7
      have e8 : w5.cell? ⟨w4.heap.size, 8, none⟩ = some (.int .i64 place) := b5.cell 8
      have ef := b5.frozen
      have NX := Lib.hid (((Ch.refl (fun _ => False) w4).alloc _).tr nx)
      have RD := Lib.hid rd
      have hlt5 : w4.heap.size < w5.heap.size := b5.lt
      have B5 := Lib.hid b5
      clear rd nx b5 p0 p1 p2 p3 p4 p5 p6 p7 p8 HT HB
      go_upto_region 6 with fail
      obtain ⟨w6, hW⟩ : ∃ w6, w6 = setsW w5 w4.heap.size 0 [.int .i64 kind, .int .i64 time, .slice A2 labs.length c2, .string text, .int .i64 value, .bool null] := ⟨_, rfl⟩
      have C6 := Lib.hid (show Ch (fun k => k = w4.heap.size) w5 w6 by rw [hW]; exact setsW_ch _ _ _)
      have hB6 : Blk w6 w4.heap.size 36 #[.int .i64 kind, .int .i64 time, .slice A2 labs.length c2, .string text, .int .i64 value, .bool null, .int .i64 maker, .int .i64 seq, .int .i64 place] := by
        rw [hW]
        have h1 := B5.out.set_ 0 (.int .i64 kind)
        have h2 := h1.set_ 1 (.int .i64 time)
        have h3 := h2.set_ 2 (.slice A2 labs.length c2)
        have h4 := h3.set_ 3 (.string text)
        have h5 := h4.set_ 4 (.int .i64 value)
        have h6 := h5.set_ 5 (.bool null)
        exact h6
      simp only [setsW] at hW
      rw [← hW]
      have e0 : w6.cell? ⟨w4.heap.size, 0, none⟩ = some (.int .i64 kind) := hB6.cell 0
      have e1 : w6.cell? ⟨w4.heap.size, 1, none⟩ = some (.int .i64 time) := hB6.cell 1
      have e2 : w6.cell? ⟨w4.heap.size, 2, none⟩ = some (.slice A2 labs.length c2) := hB6.cell 2
      have e3 : w6.cell? ⟨w4.heap.size, 3, none⟩ = some (.string text) := hB6.cell 3
      have e4 : w6.cell? ⟨w4.heap.size, 4, none⟩ = some (.int .i64 value) := hB6.cell 4
      have e5 : w6.cell? ⟨w4.heap.size, 5, none⟩ = some (.bool null) := hB6.cell 5
      have e6 : w6.cell? ⟨w4.heap.size, 6, none⟩ = some (.int .i64 maker) := hB6.cell 6
      have e7 : w6.cell? ⟨w4.heap.size, 7, none⟩ = some (.int .i64 seq) := hB6.cell 7
      have e8 : w6.cell? ⟨w4.heap.size, 8, none⟩ = some (.int .i64 place) := hB6.cell 8
      have N46 := Lib.hid (show Nx w4 w6 from NX.out.trans C6.out fun i hi e => by omega)
      have HA := Lib.hid (Hr.out.tr N46.out)
      have HY : Hid (RV.ok w6 (fun k => w.heap.size ≤ k ∧ k < w6.heap.size ∧ u3.ownBlock ≠ some k) ⟨⟨kind, time, labs, text, value, null, maker, seq, place⟩, A2, c2⟩) := Lib.hid ⟨(RD.out.ch (by decide) C6.out (fun k hk h e => by have := h.1; simp at this; omega)).more (fun k h => by
        have h1 := Hr.out.own.nx.size
        have h2 := h.1
        simp at h2
        exact ⟨by omega, Nat.lt_of_lt_of_le h.2 C6.out.size, fun e => by have := (Hr.out.own.lt k e).2; omega⟩), hc2, hm2⟩
      have HS := Lib.hid HA.out.own.nx.size
      have HL9 := Lib.hid (Rd.lit9 w6 ⟨⟨kind, time, labs, text, value, null, maker, seq, place⟩, A2, c2⟩)
      simp only at HL9
      clear hW hB6 B5 RD ef
      go_wp2_with (at_builtin; refine wpList_append_any _ rfl (.tmp 17) (.tmp 19) _ rfl w.heap.size 36 i0 _ 9 96 Try.underlying25 hi0 hz0 hz1 hz2 rfl (by omega) u3 zs.length (rvl zs) rfl (HA.out.own.alloc _).own _ (some ⟨w6.heap.size, 0, none⟩) 1 1 _ rfl HL9.out (rvl_one _) (by simp only [maxLen]; omega) (by omega) (by have := HS.out; simp; omega) ?_; intro v7 w7 own7 gr7 at7; obtain ⟨o7, m7⟩ := step_own HA.out.own ((Ch.refl _ _).alloc _) own7 gr7 at7; have G8 := Lib.hid (m7.some_ Hv.out); have G7 := Lib.hid (HA.out.app (ys := [_]) o7 m7 (by intro y hy; rw [List.mem_singleton] at hy; subst hy; exact HY.out)); clear own7 gr7 at7 o7 m7)
      go_roundw
      case rel => exact ⟨k + 1, _, by omega, by go_num, G7, G8, Lib.hid (by rw [List.map_append]; exact Hm2.out)⟩
      case measure => simp [intOf]; omega
    · have HM := Lib.hid (show zs.map (fun x => x.row) = l.map fun x => x.row by rw [Hm.out, List.take_of_length_le (by rw [Hl.out]; omega)])
      go_wp2_with fail
      go_ret
      exact ⟨_, zs, rfl, Hr.out, Hv.out, HM.out⟩
end
end Go.Proofs.Ytdfodcbpmfifgaa
