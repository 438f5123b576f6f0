/- Slices of rows that a call has made; the contract of record.Sort. Conditions: at most 1000000 rows, labels within the reach. -/
import Derived.Test.YtihocfdnkongkaaKrRcA
import Derived.Test.YtihocfdnkongkaaKrSrI
namespace Go.Proofs.Ytihocfdnkongkaa
set_option maxRecDepth 100000
open Go.RowKit
set_option linter.unusedVariables false
/-- rows of the call's own (it began in W), their labels in memory of its own too -/
structure RowsO (W w : World) (v : Value) (zs : List RV) : Prop where
  own : OwnS W w 33 9 v zs.length (rvl zs)
  ok : ∀ z ∈ zs, z.ok w (fun k => W.heap.size ≤ k ∧ k < w.heap.size ∧ v.ownBlock ≠ some k)
theorem RowsO.nil (W w : World) (c : Nx W w) : RowsO W w (.slice none 0 0) [] := ⟨OwnS.nil W w _ 9 c, by simp⟩
theorem RowsO.lit (W w : World) (c : Nx W w) : RowsO W (w.alloc (.cells #[] 33)) (.slice (some ⟨w.heap.size, 0, none⟩) 0 0) [] := ⟨OwnS.lit W w _ c 9, by simp⟩
theorem RowsO.tr {W w w' : World} {v : Value} {zs : List RV} (h : RowsO W w v zs) (c : Nx w w') : RowsO W w' v zs :=
  ⟨h.own.tr c, fun z hz => (h.ok z hz).ch c (fun _ _ _ hf => hf) fun k ⟨a, b, d⟩ => ⟨a, Nat.lt_of_lt_of_le b c.size, d⟩⟩
theorem RowsO.form {W w : World} {v : Value} {zs : List RV} (h : RowsO W w v zs) : ∃ A c, v = .slice A zs.length c ∧ zs.length ≤ c ∧ c ≤ maxLen := h.own.form
/-- rows of its own appended -/
theorem RowsO.app {W w w' : World} {v v' : Value} {zs ys : List RV} (h : RowsO W w v zs) (o : OwnS W w' 33 9 v' (zs.length + ys.length) (rvl zs ++ rvl ys)) (m : Moved w w' v v')
    (hy : ∀ y ∈ ys, y.ok w (fun k => W.heap.size ≤ k ∧ k < w.heap.size ∧ v.ownBlock ≠ some k)) : RowsO W w' v' (zs ++ ys) := by
  refine ⟨by rw [List.length_append, show rvl (zs ++ ys) = rvl zs ++ rvl ys by simp [rvl]]; exact o, fun z hz => ?_⟩
  have hk : z.ok w (fun k => W.heap.size ≤ k ∧ k < w.heap.size ∧ v.ownBlock ≠ some k) := by
    rcases List.mem_append.1 hz with hz | hz
    · exact h.ok z hz
    · exact hy z hz
  refine hk.ch m.ch (fun k _ hk hs => hk.2.2 hs) fun k ⟨a, b, d⟩ => ⟨a, Nat.lt_of_lt_of_le b m.ch.size, fun e => ?_⟩
  rcases m.at_ with e1 | ⟨j, e1, h1⟩
  · exact d (e1.symm.trans e)
  · rw [e1] at e
    injection e with e
    omega
/-- one row's cells in a block of its own -/
theorem Rd.lit9 (w : World) (x : RV) : Rd (w.alloc (.cells #[.int .i64 x.row.kind, .int .i64 x.row.time, .slice x.A x.row.labs.length x.c, .string x.row.text, .int .i64 x.row.value, .bool x.row.null, .int .i64 x.row.maker, .int .i64 x.row.seq, .int .i64 x.row.place] 33)) (fun k => k = w.heap.size) 9 (some ⟨w.heap.size, 0, none⟩) 1 (rvl [x]) :=
  ⟨rfl, fun _ => ⟨_, rfl, rfl, fun j u hu => by
    have := (Blk.new w 33 #[.int .i64 x.row.kind, .int .i64 x.row.time, .slice x.A x.row.labs.length x.c, .string x.row.text, .int .i64 x.row.value, .bool x.row.null, .int .i64 x.row.maker, .int .i64 x.row.seq, .int .i64 x.row.place])
    exact World.news_of_block this j u (by simpa [rvl, RV.cs] using hu)⟩⟩
/-- what record.Sort hands back -/
def SortTo (l : List RV) (w : World) (e : Ending) (w' : World) : Prop := ∃ v zs, e = .returned v ∧ RowsO w w' v zs ∧ zs.map (fun x => x.row) = sortF keyLt (l.map fun x => x.row)
theorem sortF_perm {α : Type} (lt : α → α → Bool) (l : List α) : (sortF lt l).Perm l := by
  have h : ∀ (l a : List α), (l.foldl (fun a x => insF lt x a) a).Perm (a ++ l) := fun l => by
    induction l with
    | nil => intro a; simp
    | cons x l ih =>
      intro a
      refine (ih (insF lt x a)).trans ?_
      refine ((insF_perm lt x a).append_right l).trans ?_
      rw [List.cons_append]
      exact List.perm_middle.symm
  simpa [sortF] using h l []
/-- sorted where they stand -/
theorem sort_own {W w : World} {v : Value} {zs : List RV} (h : RowsO W w v zs) (hn : zs.length ≤ 1000000) :
    Calls Try.prog 30 #[v, cmpV] w fun e w' => e = .returned (.tuple #[]) ∧ RowsO W w' v (sortF ltR zs) := by
  obtain ⟨A, c, rfl, hc1, hc2⟩ := h.form
  obtain ⟨g, hg, hb⟩ : ∃ g, (A = some ⟨g, 0, none⟩ ∨ zs = []) ∧ (∀ k, (Value.slice A zs.length c).ownBlock = some k ↔ (k = g ∧ A ≠ none)) ∧ W.heap.size ≤ g := by
    rcases h.own.own.2 with ⟨e, e2⟩ | ⟨g, cap, cur, e, hb, _⟩
    · have : zs = [] := List.eq_nil_of_length_eq_zero e2
      injection e with e _ _
      subst e
      refine ⟨w.heap.size, .inr this, ⟨fun k => by simp [Value.ownBlock], h.own.nx.size⟩⟩
    · injection e with e _ _
      subst e
      exact ⟨g, .inl rfl, fun k => by simp [Value.ownBlock, eq_comm], hb⟩
  have hsa : SA w g A c zs := ⟨hg, own_base h.own.own (Nat.zero_le _)⟩
  refine (sortst_any hsa rfl hn).mono ?_
  rintro e w' ⟨rfl, hs, hc⟩
  have hp : (sortF ltR zs).Perm zs := sortF_perm ltR zs
  have hl : (sortF ltR zs).length = zs.length := hp.length_eq
  refine ⟨rfl, ⟨?_, ?_⟩, fun z hz => ?_⟩
  · have := hs.2
    rw [hl] at this ⊢
    obtain ⟨q1, q2⟩ := this
    refine ⟨q1, ?_⟩
    rcases q2 with q2 | ⟨g', cap, cur, e, _, r⟩
    · exact .inl q2
    · refine .inr ⟨g', cap, cur, e, ?_, r⟩
      injection e with e _ _
      subst e
      exact (h.own.lt g' rfl).1
  · exact h.own.nx.trans hc fun i hi e => by have := hb.2; omega
  · refine (h.ok z (hp.subset hz)).ch hc (fun k hk hd e => ?_) fun k ⟨a, b, d⟩ => ⟨a, Nat.lt_of_lt_of_le b hc.size, d⟩
    subst e
    rcases hg with hg | hg
    · exact hd.2.2 ((hb.1 k).2 ⟨rfl, by rw [hg]; simp⟩)
    · subst hg
      have := hp.subset hz
      simp at this
section
variable {w : World} {D : Nat → Prop} {A : Option Addr} {n c : Nat} {l : List RV}
set_option maxHeartbeats 4000000 in
theorem rsort_any (h : Rd w D 9 A n (rvl l)) (hl : l.length = n) (hn : n ≤ 1000000) (hk : ∀ x ∈ l, x.ok w D ∧ x.row.labs.length ≤ 1000000000) :
    Calls Try.prog 13 #[.slice A n c] w (SortTo l w) := by
  obtain ⟨i0, hi0, hz0, hz1, hz2⟩ := info_parts Try.infoRow
  have Hl := Lib.hid hl
  have H := Lib.hid h
  have HK := Lib.hid hk
  clear hl h hk
  go_enter Try.func13, Try.ntmps13
  go_wp2_with fail
  go_loopw [3, 8] (fun v i wr => ∃ (k : Nat) (zs : List RV), k ≤ n ∧ i = .int .i64 (k : Int) ∧ Hid (RowsO w wr v zs) ∧ Hid (zs.map (fun x => x.row) = (l.take k).map fun x => x.row)) (fun _ i _ => n - (intOf i).toNat)
  case atStart => exact ⟨0, [], Nat.zero_le _, rfl, Lib.hid (RowsO.nil w w (Ch.refl _ _)), Lib.hid rfl⟩
  case round =>
    obtain ⟨w4, rfl⟩ : ∃ w4 : World, w4 = wr := ⟨_, rfl⟩
    obtain ⟨k, zs, hkn, rfl, Hr, Hm⟩ := hrel
    by_cases hlt : k < n
    · have hkl : k < l.length := by rw [Hl.out]; exact hlt
      obtain ⟨ad, rfl, hb, p0, p1, p2, p3, p4, p5, p6, p7, p8⟩ := row_at (H.out.nx (by decide) Hr.out.own.nx) hkl
      have HT := Lib.hid (fun w' (hn : Nx w4 w') => rtwin_any (x := l[k]) (((HK.out _ (List.getElem_mem hkl)).1.ch Hr.out.own.nx (fun _ _ _ hf => hf) (fun _ h => h)).ch hn (D' := D) (fun _ _ _ hf => hf) (fun _ h => h)) (HK.out _ (List.getElem_mem hkl)).2)
      unfold rowV at HT
      have Hm2 := Lib.hid (show (zs.map (fun x => x.row)) ++ [l[k].row] = (l.take (k + 1)).map fun x => x.row by rw [Hm.out, List.take_succ_eq_append_getElem hkl, List.map_append]; rfl)
      clear hb
      generalize l[k] = x at *
      obtain ⟨⟨kind, time, labs, text, value, null, maker, seq, place⟩, A1, c1⟩ := x
      simp only at p0 p1 p2 p3 p4 p5 p6 p7 p8 HT Hm2
      have hzl : zs.length ≤ 1000000 := by
        have := congrArg List.length Hm.out
        simp at this
        omega
      go_wp2_with fail
      refine (HT.out _ ((Ch.refl _ w4).alloc _)).mono ?_
      rintro e w5 ⟨⟨yr, A2, c2⟩, rfl, hy, hok, nx⟩
      simp only at hy
      subst hy
      have HR5 := Lib.hid (Hr.out.tr (((Ch.refl _ w4).alloc _).tr nx))
      have HY := Lib.hid (hok.ch (Ch.refl (fun _ => False) w5) (D' := fun k => w.heap.size ≤ k ∧ k < w5.heap.size ∧ u3.ownBlock ≠ some k) (fun _ _ _ hf => hf) (fun k hk => by
        have h1 := Hr.out.own.nx.size
        have h2 := hk.1
        simp at h2
        refine ⟨by omega, hk.2, fun e => ?_⟩
        have := (Hr.out.own.lt k e).2
        omega))
      have HS := Lib.hid HR5.out.own.nx.size
      have HL9 := Lib.hid (Rd.lit9 w5 ⟨⟨kind, time, labs, text, value, null, maker, seq, place⟩, A2, c2⟩)
      clear hok nx HT p0 p1 p2 p3 p4 p5 p6 p7 p8
      unfold rowV
      simp only at HL9
      go_wp2_with (at_builtin; refine wpList_append_any _ rfl (.tmp 12) (.tmp 15) _ rfl w.heap.size 33 i0 _ 9 96 Try.underlying25 hi0 hz0 hz1 hz2 rfl (by omega) u3 zs.length (rvl zs) rfl (HR5.out.own.alloc _).own _ (some ⟨w5.heap.size, 0, none⟩) 1 1 _ rfl HL9.out (rvl_one _) (by simp only [maxLen]; omega) (by omega) (by have := HS.out; simp; omega) ?_; intro v7 w7 own7 gr7 at7; obtain ⟨o7, m7⟩ := step_own HR5.out.own ((Ch.refl _ w5).alloc _) own7 gr7 at7; have G7 := Lib.hid (HR5.out.app (ys := [_]) o7 m7 (by intro y hy; rw [List.mem_singleton] at hy; subst hy; exact HY.out)); clear own7 gr7 at7 o7 m7)
      go_roundw
      case rel => exact ⟨k + 1, _, by omega, by go_num, G7, Lib.hid (by rw [List.map_append]; exact Hm2.out)⟩
      case measure => simp [intOf]; omega
    · have hkn2 : n = k := by omega
      have hlz : zs.length = n := by
        have := congrArg List.length Hm.out
        have := Hl.out
        simp at *
        omega
      have HC := Lib.hid (fun (w' : World) (hn : Nx w4 w') => sort_own (Hr.out.tr hn) (by omega))
      have HM := Lib.hid (show zs.map (fun x => x.row) = l.map fun x => x.row by rw [Hm.out, List.take_of_length_le (by rw [Hl.out]; omega)])
      clear hkn2 hlz
      go_wp2_with fail
      refine (HC.out _ (Ch.refl _ _)).mono ?_
      rintro e w5 ⟨rfl, hr5⟩
      have H5 := Lib.hid hr5
      clear hr5
      go_wp2_with fail
      go_ret
      refine ⟨_, _, rfl, H5.out, ?_⟩
      have := sortF_map (fun x : RV => x.row) keyLt zs
      rw [HM.out] at this
      exact this
end
/-- a row that is small -/
def RowE.few (x : RowE) : Prop := x.small ∧ x.labs.length ≤ 1000000
theorem OwnS.weak {W W1 w : World} {e : TypeId} {size n : Nat} {v : Value} {xs : List Value} (h : OwnS W1 w e size v n xs) (c : Nx W W1) : OwnS W w e size v n xs := ⟨own_base h.own c.size, c.tr h.nx⟩
theorem RowsO.rd {W w : World} {A : Option Addr} {c : Nat} {zs : List RV} (h : RowsO W w (.slice A zs.length c) zs) : Rd w (fun k => k < w.heap.size) 9 A zs.length (rvl zs) := h.own.rd.more fun k hk => hk.2.2
end Go.Proofs.Ytihocfdnkongkaa
