/- Contracts and plain laws that the last text rests on. Conditions: each theorem states its own. -/
import Derived.Test.YtpakjclpjcngmaaGreatKrQ20
import Derived.Test.YtpakjclpjcngmaaGreatKrQ3
import Derived.Test.YtpakjclpjcngmaaGreatKrQ6
import Derived.IntWalk
import Derived.Test.YtpakjclpjcngmaaGreatKrPbOrdR
import Derived.RangeFuncBox
import Derived.RangeFuncLeaves
import Derived.Shelf.Abstract
import Derived.WalkKit
import Derived.OwnWalkIn
import Derived.TacticsInMore
import Derived.LoopNIn
import Derived.LoopIn
import Derived.Deep.RegionHeld3
set_option maxRecDepth 100000
set_option linter.unusedVariables false
namespace Go.Proofs.YtpakjclpjcngmaaGreat
open Go.RowKit
def OutI (W w : World) (g : Nat) (xs : List Nat) : Prop := ∃ v, Blk w g 26 #[v] ∧ OwnS W w 5 1 v xs.length (bl xs)
def KeepT (w w' : World) : Prop := ∀ b t cs, t ≠ 5 → t ≠ 26 → Blk w b t cs → Blk w' b t cs
theorem KeepT.of {w w' : World} {g : Nat} {v : Value} {W : World} {n : Nat} {xs : List Value} (hb : Blk w g 26 #[v]) (ho : OwnS W w 5 1 v n xs) (c : Ch (fun k => k = g ∨ v.ownBlock = some k) w w') : KeepT w w' := fun b t cs h1 h2 h => h.ch c (by
 rintro (e | e)
 ·subst e
  exact Blk.ne_ h hb h2 rfl
 ·exact own_blk_ne ho.own h (Ne.symm h1) e)
def PutsTo (W w : World) (g : Nat) (zs : List Nat) (e : Ending) (w' : World) : Prop := e = .returned (.tuple #[]) ∧ OutI W w' g zs ∧ KeepT w w'
set_option maxHeartbeats 16000000 in
theorem bput_any {W w : World} {g : Nat} {v : Value} {xs ys : List Nat} {B : Option Addr} {m c : Nat} {D : Nat → Prop} (hb : Blk w g 26 #[v]) (ho : OwnS W w 5 1 v xs.length (bl xs)) (hW : W.heap.size ≤ g) (hy : Rd w D 1 B m (bl ys)) (hl : ys.length = m) (hD : ∀ k, D k → v.ownBlock ≠ some k) (er : Int)
  (hs : xs.length + ys.length ≤ 100000000) :
  Calls Tryz.prog 90 #[.slice B m c, .int .i64 er, .pointer (some ⟨g, 0, none⟩)] w (PutsTo W w g (xs ++ withF ys)) := by
 obtain ⟨i0, hi0, hz0, hz1, hz2⟩ := info_parts Tryz.info5
 have HPU := Lib.hid (fun (w : World) => nums_putU m w (by omega))
 have HW : Hid (xs ++ withF ys = xs ++ putU m ++ ys) := Lib.hid (by rw [← hl]; simp [withF])
 have hpl := (putU_len10 (n := m) (by omega)).2
 have HB := Lib.hid hb
 have HO := Lib.hid ho
 have HY := Lib.hid hy
 have kw : IntKind.u64.wrap (m : Int) = (m : Int) := by rw [IntKind.wrap_u64]; omega
 have hne := own_blk_ne ho.own hb (by decide)
 have HNE := Lib.hid hne
 have c0 : w.drew.cell? ⟨g, 0, none⟩ = some v := hb.cell 0
 clear hb ho hy hne
 generalize xs ++ withF ys = Z at *
 go_enter Tryz.func90, Tryz.ntmps90
 refine wp_region_E (fun _ => True) (fun _ => false) rfl trivial (fun hS0 => ?_)
 try simp only [Act.put, s_A, s_Z, s_S]
 refine wpAnyE_T (i := 1) (oi := _) (v := ?_) rfl (fun _ _ _ h => h) (Or.inl ⟨by rfl, ?_⟩) ?_
 rotate_left
 ·(intro w hSw; (try dsimp only at hSw); go_split_ands; go_simp; try with_reducible rfl)
 try simp only [Act.put, List.setIfInBounds_toArray]
 refine wpAnyE_T (i := 2) (oi := _) (v := ?_) rfl (fun _ _ _ h => h) (Or.inl ⟨by rfl, ?_⟩) ?_
 rotate_left
 ·(intro w hSw; (try dsimp only at hSw); go_split_ands; go_simp; try with_reducible rfl)
 try simp only [Act.put]
 refine wpAnyE_T (i := 3) (oi := _) (v := ?_) rfl (fun _ _ _ h => h) (Or.inl ⟨by rfl, ?_⟩) ?_
 rotate_left
 ·(intro w hSw; (try dsimp only at hSw); go_split_ands; go_simp; try with_reducible rfl)
 try simp only [Act.put]
 refine wpAnyE_T (i := 6) (oi := _) (v := ?_) rfl (fun _ _ _ h => h) (Or.inl ⟨by rfl, ?_⟩) ?_
 rotate_left
 ·(intro w hSw; (try dsimp only at hSw); go_split_ands; go_simp; try with_reducible rfl)
 try simp only [Act.put]
 refine wpAnyE_switch (fun w' => w'.cell? ⟨g, 0, none⟩ = some v) (fun i => decide (i = 5 ∨ i = 7 ∨ i = 8)) (fun _ => trivial) ?_
 have hSS : (fun w' => w'.cell? ⟨g, 0, none⟩ = some v) w.drew := c0
 refine wpAnyE_T (i := 0) (oi := _) (v := ?_) rfl (fun _ _ _ h => h) (Or.inl ⟨by rfl, ?_⟩) ?_
 rotate_left
 ·(intro w hSw; (try dsimp only at hSw); go_split_ands; go_simp; try with_reducible rfl)
 try simp only [Act.put]
 refine wpAnyE_ready (rs := [4]) (by kernel_rfl) (by simp) (AllReadyE.cons (o := _) rfl (fun K hK => ?_) AllReadyE.nil)
 go_simp
 refine (HPU.out _).mono ?_
 rintro e w3 ⟨k3, cap3, rfl, o3, hk3, hk3', hc3, -⟩
 have N3 := Lib.hid (((Ch.refl (fun _ => False) w).drew).tr o3.nx)
 have OV := Lib.hid (HO.out.tr N3.out)
 have BV := Lib.hid (HB.out.nx N3.out)
 have R3 := Lib.hid o3.rd_
 have c3 : w3.cell? ⟨g, 0, none⟩ = some v := BV.out.cell 0
 have RY := Lib.hid (HY.out.nx (by decide) N3.out)
 have hk3w : w.heap.size ≤ k3 := hk3
 have hlt3 : ∀ k, v.ownBlock = some k → k ≠ k3 := fun k e => by have := (HO.out.lt k e).2; omega
 clear o3
 refine hK.out _ _ (fun _ => c3) (fun hHeld' => ?_)
 have hHeld := hHeld' (by decide)
 clear hK K hHeld'
 try simp only [Act.put, s_A, s_Z, s_S]
 refine wpAnyE_ready (rs := [5]) (by kernel_rfl) (by simp) (AllReadyE.cons (o := _) rfl (fun K hK => ?_) AllReadyE.nil)
 refine step_append_any _ rfl (.tmp 5) (.tmp 9) _ rfl W.heap.size 5 i0 _ 1 1 Tryz.underlying26 hi0 hz0 hz1 hz2 rfl (by omega) v xs.length (bl xs) rfl OV.out.own _ (some ⟨k3, 0, none⟩) (putU m).length cap3 (bl (putU m)) rfl R3.out (bl_one _) (by simp only [maxLen]; omega) (by omega) OV.out.nx.size ?_
 intro v5 w5 own5 gr5 at5
 obtain ⟨o5, m5⟩ := step_own OV.out (Ch.refl _ _) own5 gr5 at5
 have O5 := Lib.hid o5
 have M5 := Lib.hid m5
 have RY5 := Lib.hid (RY.out.ch (by decide) m5.ch (fun k _ hk e => hD k hk e))
 clear own5 gr5 at5 o5 m5
 refine hK.out _ _ (fun h => absurd h (by decide)) (fun hHeld' => ?_)
 clear hK K hHeld'
 try simp only [Act.put, List.setIfInBounds_toArray]
 refine wpAnyE_ready (rs := [7]) (by kernel_rfl) (by simp) (AllReadyE.cons (o := _) rfl (fun K hK => ?_) AllReadyE.nil)
 refine step_append_any _ rfl (.tmp 10) (.tmp 11) _ rfl W.heap.size 5 i0 _ 1 1 Tryz.underlying26 hi0 hz0 hz1 hz2 rfl (by omega) v5 (xs.length + (putU m).length) (bl xs ++ bl (putU m)) rfl O5.out.own D B m c (bl ys) rfl RY5.out (bl_one _) (by simp only [maxLen]; omega) (by omega) O5.out.nx.size ?_
 intro v7 w7 own7 gr7 at7
 obtain ⟨o7, m7⟩ := step_own O5.out (Ch.refl _ _) own7 gr7 at7
 have O7 := Lib.hid o7
 have M7 := Lib.hid m7
 have hv5 : v5.ownBlock ≠ some g := own_blk_ne O5.out.own (BV.out.ch M5.out.ch HNE.out) (by decide)
 have B7 := Lib.hid ((BV.out.ch M5.out.ch HNE.out).ch m7.ch hv5)
 have f7 : w7.frozen? ⟨g, 0, none⟩ = false := B7.out.frozen 0
 have c7 : w7.cell? ⟨g, 0, none⟩ = some v := B7.out.cell 0
 obtain ⟨A7, cp7, rfl, -, -⟩ := o7.form
 clear own7 gr7 at7 o7 m7 hv5
 refine hK.out _ _ (fun h => absurd h (by decide)) (fun hHeld' => ?_)
 clear hK K hHeld'
 try simp only [Act.put]
 refine wpAnyE_ready (rs := [8]) (by kernel_rfl) (by simp) (AllReadyE.cons (o := _) rfl (fun K hK => ?_) AllReadyE.nil)
 go_simp
 refine hK.out _ _ (fun h => absurd h (by decide)) (fun hHeld' => ?_)
 clear hK K hHeld'
 try simp only [Act.put, s_A, s_Z, s_S]
 refine wpAnyE_done (by kernel_rfl) ?_ _
 go_wp2_with fail
 refine bodyPost_ret (results_none rfl _ _ _) rfl ?_
 have hv7 : (Value.slice A7 (xs.length + (putU m).length + m) cp7).ownBlock ≠ some g := own_blk_ne O7.out.own B7.out (by decide)
 have cs : Ch (fun k => k = g) w7 (w7.setCell ⟨g, 0, none⟩ (.slice A7 (xs.length + (putU m).length + m) cp7)) := Ch.setCell (S := fun k => k = g) (Ch.refl _ w7) (p := ⟨g, 0, none⟩) (fun _ => rfl) _
 refine ⟨rfl, ⟨_, B7.out.set_ 0 _, ?_⟩, KeepT.of HB.out HO.out ?_⟩
 ·rw [HW.out, ← hl]
  have := O7.out.ch cs (fun k e h => hv7 (by rw [e, h])) (fun i hi e => by omega)
  rw [← hl] at this
  simpa [bl, Nat.add_assoc] using this
 ·refine (((N3.out.mono (fun _ _ hf => hf.elim)).trans M5.out.ch (fun i _ e => .inr e)).trans M7.out.ch (fun i hi e => ?_)).trans cs (fun i _ e => .inl e)
  rcases M5.out.at_ with h | ⟨j, h, h2⟩
  ·right; rw [← h]; exact e
  ·rw [h] at e
   injection e with e
   have := N3.out.size
   omega
def BuTo (W w : World) (v : Value) (xs : List Nat) (z : Nat) (e : Ending) (w' : World) : Prop :=
 ∃ v', e = .returned v' ∧ OwnS W w' 5 1 v' (xs ++ putU z).length (bl (xs ++ putU z)) ∧ Moved w w' v v'
set_option maxHeartbeats 8000000 in
theorem bu_any {W w : World} {v : Value} {xs : List Nat} {z : Nat} (ho : OwnS W w 5 1 v xs.length (bl xs)) (hz : z < 9223372036854775808) (hs : xs.length ≤ 100000000) :
  Calls Tryz.prog 113 #[v, .int .i64 (z : Int)] w (BuTo W w v xs z) := by
 obtain ⟨i0, hi0, hz0, hz1, hz2⟩ := info_parts Tryz.info5
 have HPU := Lib.hid (fun (w : World) => nums_putU z w (by omega))
 have hpl := (putU_len10 (n := z) (by omega)).2
 have HO := Lib.hid ho
 have kw : IntKind.u64.wrap (z : Int) = (z : Int) := by rw [IntKind.wrap_u64]; omega
 obtain ⟨A, c, rfl, -, -⟩ := ho.form
 clear ho
 go_enter Tryz.func113, Tryz.ntmps113
 go_wp2_with fail
 refine (HPU.out _).mono ?_
 rintro e w3 ⟨k3, cap3, rfl, o3, hk3, hk3', hc3, -⟩
 have N3 := Lib.hid o3.nx
 have OV := Lib.hid (HO.out.tr N3.out)
 have R3 := Lib.hid o3.rd_
 clear o3
 go_wp2_with (at_builtin; refine wpList_appN rfl (.tmp 5) (.tmp 8) _ rfl 5 i0 _ 1 1 Tryz.underlying26 hi0 hz0 hz1 hz2 rfl (by omega) rfl OV.out _ (some ⟨k3, 0, none⟩) (putU z).length cap3 (bl (putU z)) rfl R3.out (bl_one _) (by simp only [maxLen]; omega) (by omega) ?_; intro v5 w5 o5 m5; have O5 := Lib.hid o5; have M5 := Lib.hid m5; clear o5 m5)
 go_ret
 refine ⟨_, rfl, ?_, ⟨(N3.out.mono (fun _ _ hf => hf.elim)).trans M5.out.ch (fun i _ e => e), ?_⟩⟩
 ·have := O5.out
  simpa [bl] using this
 ·rcases M5.out.at_ with e | ⟨j, e, h⟩
  ·exact .inl e
  ·exact .inr ⟨j, e, Nat.le_trans N3.out.size h⟩
end Go.Proofs.YtpakjclpjcngmaaGreat
namespace Go.Proofs.YtpakjclpjcngmaaGreat
/-! rows in groups -/
theorem cutsF_len {α : Type} (per : Nat) (l : List α) : (cutsF per l).length = (l.length + per - 1) / per := by simp [cutsF]
theorem cutsF_get {α : Type} {per : Nat} {l : List α} {i : Nat} (h : i < (cutsF per l).length) : (cutsF per l)[i] = (l.drop (i * per)).take per := by simp [cutsF]
theorem cuts_at {per n i : Nat} (hp : 0 < per) : i < (n + per - 1) / per ↔ i * per < n := by
 rw [Nat.lt_div_iff_mul_lt hp]
 constructor
 ·intro h; omega
 ·intro h; omega
theorem cutsF_nil {α : Type} {per : Nat} (hp : 0 < per) : cutsF per ([] : List α) = [] := by
 have : (cutsF per ([] : List α)).length = 0 := by rw [cutsF_len]; simp; omega
 exact List.eq_nil_of_length_eq_zero this
theorem cutsF_cons {α : Type} {per : Nat} {l : List α} (hp : 0 < per) (hl : 0 < l.length) : cutsF per l = l.take per :: cutsF per (l.drop per) := by
 apply List.ext_getElem
 ·rw [List.length_cons, cutsF_len, cutsF_len, List.length_drop]
  by_cases h : per ≤ l.length
  ·rw [show l.length + per - 1 = (l.length - per + per - 1) + per by omega, Nat.add_div_right _ hp]
  ·rw [show l.length - per = 0 by omega, Nat.zero_add, Nat.div_eq_of_lt (show per - 1 < per by omega)]
   exact Nat.div_eq_of_lt_le (by omega) (by omega)
 ·intro i h1 h2
  rw [cutsF_get h1]
  cases i with
  | zero => simp
  | succ i =>
    rw [List.getElem_cons_succ, cutsF_get, List.drop_drop]
    congr 2
    rw [Nat.succ_mul, Nat.add_comm]
theorem cutsF_flat {α : Type} {per : Nat} (hp : 0 < per) : ∀ (n : Nat) (l : List α), l.length ≤ n → (cutsF per l).flatten = l
 | 0, l, h => by
   have : l = [] := List.eq_nil_of_length_eq_zero (by omega)
   subst this
   rw [cutsF_nil hp]
   rfl
 | n + 1, l, h => by
   by_cases h0 : l.length = 0
   ·have : l = [] := List.eq_nil_of_length_eq_zero h0
    subst this
    rw [cutsF_nil hp]
    rfl
   ·rw [cutsF_cons hp (by omega), List.flatten_cons, cutsF_flat hp n (l.drop per) (by rw [List.length_drop]; omega), List.take_append_drop]
theorem cuts_flat {α : Type} {per : Nat} (hp : 0 < per) (l : List α) : (cutsF per l).flatten = l := cutsF_flat hp l.length l (Nat.le_refl _)
theorem cuts_mem {α : Type} {per : Nat} (hp : 0 < per) {l g : List α} (hg : g ∈ cutsF per l) : 0 < g.length ∧ g.length ≤ per ∧ g.length ≤ l.length ∧ (∀ x ∈ g, x ∈ l) ∧ g <:+: l := by
 obtain ⟨i, hi, rfl⟩ := List.mem_iff_getElem.1 hg
 have h2 := hi
 rw [cutsF_len, cuts_at hp] at h2
 rw [cutsF_get hi]
 refine ⟨?_, ?_, ?_, fun x hx => List.mem_of_mem_drop (List.mem_of_mem_take hx), (List.take_prefix _ _).isInfix.trans (List.drop_suffix _ _).isInfix⟩
 ·rw [List.length_take, List.length_drop]; omega
 ·rw [List.length_take]; omega
 ·rw [List.length_take, List.length_drop]; omega
/-! the spans -/
theorem spansF_len : ∀ (gs : List (List RowE)) (a : Nat), (spansF a gs).length = gs.length
 | [], _ => rfl
 | g :: gs, a => by rw [spansF, List.length_cons, List.length_cons, spansF_len gs]
theorem spansF_get : ∀ (gs : List (List RowE)) (a k : Nat) (h : k < gs.length) (h2 : k < (spansF a gs).length), (spansF a gs)[k] = ⟨((a + (bodyG (gs.take k)).length : Nat) : Int), (groupF gs[k]).length, gs[k].length, firstT gs[k], lastT gs[k]⟩
 | g :: gs, a, 0, _, _ => by simp [spansF, bodyG]
 | g :: gs, a, k + 1, h, h2 => by
   have ih := spansF_get gs (a + (groupF g).length) k (by simpa using h) (by rw [spansF_len]; simpa using h)
   simp only [spansF, List.getElem_cons_succ, ih, bodyG, List.take_succ_cons, List.flatMap_cons, List.length_append, Nat.add_assoc]
theorem body_at {gs : List (List RowE)} {k : Nat} (h : k < gs.length) : (bodyG gs).drop (bodyG (gs.take k)).length = groupF gs[k] ++ bodyG (gs.drop (k + 1)) := by
 have e : bodyG gs = bodyG (gs.take k) ++ (groupF gs[k] ++ bodyG (gs.drop (k + 1))) := by
  unfold bodyG
  rw [← List.flatMap_cons, ← List.flatMap_append, ← List.drop_eq_getElem_cons h, List.take_append_drop]
 conv => lhs; arg 2; rw [e]
 rw [List.drop_left]
theorem body_le {gs : List (List RowE)} {k : Nat} (h : k < gs.length) : (bodyG (gs.take k)).length + (groupF gs[k]).length ≤ (bodyG gs).length := by
 have e : bodyG gs = bodyG (gs.take k) ++ (groupF gs[k] ++ bodyG (gs.drop (k + 1))) := by
  unfold bodyG
  rw [← List.flatMap_cons, ← List.flatMap_append, ← List.drop_eq_getElem_cons h, List.take_append_drop]
 have := congrArg List.length e
 rw [List.length_append, List.length_append] at this
 omega
theorem blk_form (gs : List (List RowE)) : blkF gs = headB ++ (bodyG gs ++ (footF gs ++ (four (footF gs).length ++ [69, 78, 84, 82]))) := by simp [blkF]
theorem blk_len (gs : List (List RowE)) : (blkF gs).length = 5 + (bodyG gs).length + (footF gs).length + 8 := by
 rw [blk_form]
 simp only [List.length_append, headB, four, List.length_cons, List.length_nil]
 omega
theorem blk_group {gs : List (List RowE)} {k : Nat} (h : k < gs.length) : ((blkF gs).drop (5 + (bodyG (gs.take k)).length)).take (groupF gs[k]).length = groupF gs[k] := by
 have h2 := body_le h
 rw [blk_form, ← List.drop_drop, show (5 : Nat) = headB.length from rfl, List.drop_left, List.drop_append_of_le_length (by omega), body_at h, List.append_assoc, List.take_left]
theorem blk_foot (gs : List (List RowE)) : ((blkF gs).drop (5 + (bodyG gs).length)).take (footF gs).length = footF gs := by
 rw [blk_form, ← List.drop_drop, show (5 : Nat) = headB.length from rfl, List.drop_left, List.drop_left, List.take_left]
theorem blk_tail (gs : List (List RowE)) : (blkF gs).drop (5 + (bodyG gs).length + (footF gs).length) = four (footF gs).length ++ [69, 78, 84, 82] := by
 rw [blk_form, ← List.drop_drop, ← List.drop_drop, show (5 : Nat) = headB.length from rfl, List.drop_left, List.drop_left, List.drop_left]
theorem le4_four {n : Nat} (h : n < 4294967296) (r : List Nat) : le4 (four n ++ r) = n := by
 unfold le4 four
 simp only [List.cons_append, List.getD_cons_zero, List.getD_cons_succ]
 omega
theorem ends_blk {gs : List (List RowE)} (h : (blkF gs).length ≤ 262144) : endsF ((blkF gs).drop ((blkF gs).length - 8)) (blkF gs).length = (((5 + (bodyG gs).length : Nat) : Int), (((footF gs).length : Nat) : Int), 0) := by
 have hl := blk_len gs
 rw [show (blkF gs).length - 8 = 5 + (bodyG gs).length + (footF gs).length by omega, blk_tail]
 unfold endsF
 rw [if_pos ⟨by simp [four], by simp [four], by omega⟩, le4_four (by omega), if_pos (by omega)]
 congr 1
 omega
end Go.Proofs.YtpakjclpjcngmaaGreat
namespace Go.Proofs.YtpakjclpjcngmaaGreat
open Go.RowKit Go.Shelf
attribute [local go_sem] Oper.semAt_some
def chunkN (n per k : Nat) : Nat := min per (n - k * per)
def chunksN (n per : Nat) : Nat := (n + per - 1) / per
def chunkV (A : Option Addr) (n per k : Nat) : Value := .slice (A.map fun ad => ad.add (k * per * 9)) (chunkN n per k) (chunkN n per k)
def ChK (p q : Nat) (W W' : World) : Prop := W.heap.size ≤ W'.heap.size ∧ W'.heap[p]? = W.heap[p]? ∧ W'.heap[q]? = W.heap[q]?
theorem ChK.refl (p q : Nat) (W : World) : ChK p q W W := ⟨Nat.le_refl _, rfl, rfl⟩
theorem ChK.trans {p q : Nat} {A B C : World} (h : ChK p q A B) (k : ChK p q B C) : ChK p q A C := ⟨Nat.le_trans h.1 k.1, k.2.1.trans h.2.1, k.2.2.trans h.2.2⟩
theorem cell_heap {W W' : World} {p : Nat} (h : W'.heap[p]? = W.heap[p]?) (i : Nat) : W'.cell? ⟨p, i, none⟩ = W.cell? ⟨p, i, none⟩ := by
 unfold World.cell?
 simp only [h]
set_option maxHeartbeats 4000000 in
theorem chunk1_in (l p q : Nat) (A : Option Addr) (n c per : Nat) (hper : 1 ≤ per) (hper2 : per ≤ 1000000) (hn : n ≤ 1000000) (hc : n ≤ c) (hA : 0 < n → A ≠ none) (J : Nat → World → Prop) (Jx : World → Prop) (hJd : ∀ k W q, J k W → J k (W.drewN q))
  (hY : ∀ k W, J k W → k < chunksN n per → YieldAt Fence.wide 8 Tryz.prog l #[chunkV A n per k] W fun e W' =>
    (e = .returned (.bool true) ∧ J (k + 1) W' ∧ ChK p q W W') ∨ (e = .returned (.bool false) ∧ Jx W'))
  (W : World) (hp : W.cell? ⟨p, 0, none⟩ = some (.slice A n c)) (hq : W.cell? ⟨q, 0, none⟩ = some (.int .i64 (per : Int))) (h0 : J 0 W) :
  CallsIn Fence.wide 9 Tryz.prog 89 #[.func (.yield l) #[] #[], .pointer (some ⟨p, 0, none⟩), .pointer (some ⟨q, 0, none⟩)] W fun e W' => (∃ v, e = .returned v) ∧
   (J (chunksN n per) W' ∨ Jx W') := by
 refine callsIn_of_wp Tryz.func89 rfl trivial ?_ rfl
 simp only [Tryz.ntmps89, List.size_toArray, List.length_cons, List.length_nil, Nat.reduceAdd, Nat.reduceSub, Array.replicate_succ, Array.replicate_zero, List.push_toArray, List.append_toArray, List.nil_append, List.cons_append]
 gi_wp2
 gi_loopw [4] (fun i wr => ∃ k : Nat, k ≤ chunksN n per ∧ i = .int .i64 ((k * per : Nat) : Int) ∧ J k wr ∧ ChK p q W wr)
  (fun i _ => n + per - (intOf i).toNat)
 case atStart => exact ⟨0, Nat.zero_le _, by simp, h0, ChK.refl _ _ _⟩
 case round =>
  obtain ⟨k, hk, rfl, hJs, hnx⟩ := hrel
  have p0 : wr.cell? ⟨p, 0, none⟩ = some (.slice A n c) := (cell_heap hnx.2.1 0).trans hp
  have q0 : wr.cell? ⟨q, 0, none⟩ = some (.int .i64 (per : Int)) := (cell_heap hnx.2.2 0).trans hq
  by_cases hlt : k < chunksN n per
  ·have hlt2 : k * per < n := (cuts_at (by omega)).1 hlt
   obtain ⟨ad, rfl⟩ := Option.ne_none_iff_exists'.1 (hA (by omega))
   have HY := Lib.hid fun q' => hY k (wr.drewN q') (hJd _ _ _ hJs) hlt
   have hm1 : chunkN n per k = min per (n - k * per) := rfl
   have hm2 : 0 < chunkN n per k := by rw [hm1]; omega
   have hm3 : k * per + chunkN n per k ≤ n := by rw [hm1]; omega
   have hmul : (k + 1) * per = k * per + per := Nat.succ_mul k per
   have HMUL := Lib.hid hmul
   unfold chunkV at HY
   clear hmul hJs
   unfold chunkN at HY hm1 hm2 hm3
   clear hm1
   generalize k * per = i at *
   have e1 : IntKind.i64.wrap ((n : Int) - (i : Int)) = (n : Int) - i := IntWalk.i64_in _ (by omega)
   gi_wp2
   refine wpIn_wide.2 ?_
   go_quiet (fail)
   obtain ⟨fn, tmps, assign, body, hy, hR⟩ := HY.out nq
   have eT : ((i : Int) + min (per : Int) ((n - i : Nat) : Int)).toNat - i = min per (n - i) := by omega
   rw [Option.map_some] at hy
   gi_wp2
   refine hR.mono ?_
   rintro e W3 (⟨rfl, hJ3, hk3⟩ | ⟨rfl, hJx3⟩)
   ·have hk4 : ChK p q W W3 := hnx.trans (ChK.trans (B := wr.drewN nq) ⟨Nat.le_refl _, rfl, rfl⟩ hk3)
    have q3 : W3.cell? ⟨q, 0, none⟩ = some (.int .i64 (per : Int)) := (cell_heap hk4.2.2 0).trans hq
    gi_wp2
    go_roundw
    case rel => exact ⟨k + 1, hlt, by rw [HMUL.out]; simp, hJ3, hk4⟩
    case measure => simp [intOf]; omega
   ·gi_wp2
    refine bodyPost_ret (results_none rfl _ _ _) rfl ?_
    exact ⟨⟨_, rfl⟩, .inr hJx3⟩
  ·obtain rfl : k = chunksN n per := by omega
   have hge : n ≤ chunksN n per * per := by
    have h1 := (cuts_at (per := per) (n := n) (i := chunksN n per) (by omega)).2
    exact Nat.not_lt.1 fun h => absurd (h1 h) (Nat.lt_irrefl _)
   generalize chunksN n per * per = i at *
   gi_wp2
   go_end0
   exact ⟨⟨_, rfl⟩, .inl hJs⟩
theorem grown_drewN (W : World) (k : Nat) : W.grownBy (W.drewN k) none := ⟨rfl, rfl, rfl, Nat.le_refl _, fun _ _ _ => rfl⟩
theorem finTake {N k : Nat} (h : k < N) : (List.finRange N).take (k + 1) = (List.finRange N).take k ++ [⟨k, h⟩] := by
 rw [List.take_succ_eq_append_getElem (by rw [List.length_finRange]; exact h)]
 simp
theorem finMap {α : Type} {N : Nat} (f : Nat → α) : (List.finRange N).map (fun i => f i.val) = (List.range N).map f := by
 apply List.ext_getElem
 ·simp
 ·intro i h1 h2
  simp
theorem chunk_stops (p q : Nat) (A : Option Addr) (n c per : Nat) (hper : 1 ≤ per) (hper2 : per ≤ 1000000) (hn : n ≤ 1000000) (hc : n ≤ c) (hA : 0 < n → A ≠ none) (w : World) (hp : w.cell? ⟨p, 0, none⟩ = some (.slice A n c)) (hq : w.cell? ⟨q, 0, none⟩ = some (.int .i64 (per : Int))) :
  SeqStopsK Fence.wide 9 Tryz.prog 89 #[.pointer (some ⟨p, 0, none⟩), .pointer (some ⟨q, 0, none⟩)] (fun k : Fin (chunksN n per) => #[chunkV A n per k.val]) (ChK p q) (fun xs => xs = List.finRange (chunksN n per)) (fun _ => True) (chunksN n per) w := fun l J Jx W hW hJ _ hY h0 => by
 have h1 := World.block_lt_of_cell? w _ hp
 have h2 := World.block_lt_of_cell? w _ hq
 refine (chunk1_in l p q A n c per hper hper2 hn hc hA (fun k W => J ((List.finRange (chunksN n per)).take k) W) (fun W => ∃ pre, Jx pre W) (fun k W' q' h => hJ _ W' _ none h (grown_drewN W' q') (fun r hr => by cases hr)) (fun k W' h hk => ?_) W ((hW.cell (p := ⟨p, 0, none⟩) h1).trans hp) ((hW.cell (p := ⟨q, 0, none⟩) h2).trans hq) (by simpa using h0)).mono ?_
 ·obtain ⟨fn, tmps, assign, body, hy, hR⟩ := hY _ ⟨k, hk⟩ W' h (by rw [List.length_take, List.length_finRange]; omega)
  refine ⟨fn, tmps, assign, body, hy, hR.mono ?_⟩
  rintro e W2 (⟨rfl, hJ2, hk2⟩ | ⟨rfl, hJ2⟩)
  ·exact .inl ⟨rfl, by rw [finTake hk]; exact hJ2, hk2⟩
  ·exact .inr ⟨rfl, _, hJ2⟩
 ·rintro e W2 ⟨he, hJ2 | ⟨pre, hJ2⟩⟩
  ·exact ⟨he, .inl ⟨_, rfl, by rw [List.take_of_length_le (by simp)] at hJ2; exact hJ2⟩⟩
  ·exact ⟨he, .inr ⟨pre, trivial, hJ2⟩⟩
set_option maxHeartbeats 1000000 in
theorem chunk_any (A : Option Addr) (n c per : Nat) (hper : 1 ≤ per) (hp2 : per ≤ 1000000) (w : World) :
  Calls Tryz.prog 39 #[.slice A n c, .int .i64 (per : Int)] w fun e w' => e = .returned (.func (.func 89) #[] #[.pointer (some ⟨w.heap.size, 0, none⟩), .pointer (some ⟨w.heap.size + 1, 0, none⟩)]) ∧
   w' = (w.alloc (.cells #[.slice A n c] 22)).alloc (.cells #[.int .i64 (per : Int)] 3) := by
 have q1 : ¬ ((per : Int) < 1) := by omega
 go_enter Tryz.func39, Tryz.ntmps39
 go_wp2_with fail
 go_ret
 exact ⟨rfl, rfl⟩
end Go.Proofs.YtpakjclpjcngmaaGreat
namespace Go.Proofs.YtpakjclpjcngmaaGreat
open Go.RowKit
def RefEnds (w : World) (t : Int × Int × Int) (e : Ending) (w' : World) : Prop := e = .returned (.tuple #[.int .i64 t.1, .int .i64 t.2.1, .bool (decide (t.2.2 = 0))]) ∧ Dr w w'
set_option maxHeartbeats 8000000 in
theorem ref_ends {w : World} {D : Nat → Prop} {A : Option Addr} {n c : Nat} {b : List Nat} (hr : Rd w D 1 A n (bl b)) (ok : okB b) (hl : b.length = n) (hc : n ≤ c) (size : Int) (hs0 : -9223372036854775808 ≤ size) (hs1 : size ≤ 9223372036854775807) :
  Calls Tryz.prog 24 #[.slice A n c, .int .i64 size] w (RefEnds w (endsF b size)) := by
 by_cases h8 : n = 8
 ·subst h8
  have hcut := hr.cut (k := 4) (cap := c) (by omega) hc
  rw [Nat.mul_one, show (bl b).drop 4 = bl (b.drop 4) by simp [bl, List.map_drop], if_neg (by omega)] at hcut
  obtain ⟨ad, rfl, -, -⟩ := hr.2 (by omega)
  have hST1 := run_str_of (P := Tryz.prog) w 26 9 5 Tryz.underlying26 Tryz.underlying5 Tryz.underlying9 D _ _ (c - 4) _ hcut
  have hc4 : ¬ c = 4 := by omega
  have hadd : ad.add 4 = ⟨ad.block, ad.off + 4, none⟩ := by simp [Addr.add]
  simp only [Option.map_some, hadd, show (8:Nat) - 4 = 4 from rfl] at hST1
  have okd : okB (b.drop 4) := fun x hx => ok x (List.mem_of_mem_drop hx)
  by_cases hm : b.drop 4 = [69, 78, 84, 82] ∧ 13 ≤ size
  ·have ht : strB (b.drop 4) = ⟨#[69, 78, 84, 82]⟩ := by rw [hm.1]; rfl
   rw [ht] at hST1
   have hF : endsF b size = if (le4 b : Int) ≤ size - 13 then (size - 8 - le4 b, (le4 b : Int), 0) else (0, 0, 4) := by unfold endsF; rw [if_pos ⟨hl, hm⟩]
   have q2 : decide (size < 13) = false := by rw [decide_eq_false_iff_not]; omega
   have k1 : IntKind.i64.wrap (size - 8) = size - 8 := IntWalk.i64_in _ (by omega)
   have k2 : IntKind.i64.wrap (size - 13) = size - 13 := IntWalk.i64_in _ (by omega)
   have h13 := hm.2
   have at_ : ∀ k, k < 8 → w.cell? (ad.add k) = some (.int .u8 (b.getD k 0 : Int)) := fun k hk => by
    obtain ⟨ad2, u, hA2, -, hu, hcx⟩ := hr.at_ (k := k) (by omega)
    injection hA2 with hA2
    subst hA2
    rw [bl_get (by omega)] at hu
    injection hu with hu
    rw [hu]
    simpa using hcx
   have e0 := at_ 0 (by omega)
   rw [show ad.add 0 = ad by simp [Addr.add]] at e0
   have e1 := at_ 1 (by omega)
   rw [show ad.add 1 = ⟨ad.block, ad.off + 1, none⟩ by simp [Addr.add]] at e1
   have e2 := at_ 2 (by omega)
   rw [show ad.add 2 = ⟨ad.block, ad.off + 2, none⟩ by simp [Addr.add]] at e2
   have e3 := at_ 3 (by omega)
   rw [show ad.add 3 = ⟨ad.block, ad.off + 3, none⟩ by simp [Addr.add]] at e3
   have g0 := okB_getD ok 0
   have g1 := okB_getD ok 1
   have g2 := okB_getD ok 2
   have g3 := okB_getD ok 3
   have hle : le4 b = b.getD 0 0 + b.getD 1 0 * 256 + b.getD 2 0 * 65536 + b.getD 3 0 * 16777216 := rfl
   clear at_
   generalize b.getD 0 0 = x0 at *
   generalize b.getD 1 0 = x1 at *
   generalize b.getD 2 0 = x2 at *
   generalize b.getD 3 0 = x3 at *
   have w0 : IntKind.i64.wrap (x0 : Int) = (x0 : Int) := IntWalk.i64_in _ (by omega)
   have w1 : IntKind.i64.wrap (x1 : Int) = (x1 : Int) := IntWalk.i64_in _ (by omega)
   have w2 : IntKind.i64.wrap (x2 : Int) = (x2 : Int) := IntWalk.i64_in _ (by omega)
   have w3 : IntKind.i64.wrap (x3 : Int) = (x3 : Int) := IntWalk.i64_in _ (by omega)
   have m1 : IntKind.i64.wrap (256 * (x1 : Int)) = 256 * (x1 : Int) := IntWalk.i64_in _ (by omega)
   have m2 : IntKind.i64.wrap (65536 * (x2 : Int)) = 65536 * (x2 : Int) := IntWalk.i64_in _ (by omega)
   have m3 : IntKind.i64.wrap (16777216 * (x3 : Int)) = 16777216 * (x3 : Int) := IntWalk.i64_in _ (by omega)
   have s1 : IntKind.i64.wrap ((x0 : Int) + 256 * (x1 : Int)) = (x0 : Int) + 256 * (x1 : Int) := IntWalk.i64_in _ (by omega)
   have s2 : IntKind.i64.wrap ((x0 : Int) + 256 * (x1 : Int) + 65536 * (x2 : Int)) = (x0 : Int) + 256 * (x1 : Int) + 65536 * (x2 : Int) := IntWalk.i64_in _ (by omega)
   have s3 : IntKind.i64.wrap ((x0 : Int) + 256 * (x1 : Int) + 65536 * (x2 : Int) + 16777216 * (x3 : Int)) = (le4 b : Int) := by rw [IntWalk.i64_in _ (by omega), hle]; omega
   have hlt4 : le4 b < 4294967296 := by omega
   have HF := Lib.hid hF
   have HL := Lib.hid hle
   generalize le4 b = m at *
   clear hF ok hr hl hcut okd ht hm hle
   by_cases hmm : (m : Int) ≤ size - 13
   ·have q5 : decide (size - 13 < (m : Int)) = false := by rw [decide_eq_false_iff_not]; omega
    have k4 : IntKind.i64.wrap (size - 8 - (m : Int)) = size - 8 - (m : Int) := IntWalk.i64_in _ (by omega)
    rw [if_pos hmm] at HF
    go_enter Tryz.func24, Tryz.ntmps24
    go_wp2_with fail
    go_quiet (fail)
    go_wp2_with fail
    exact bodyPost_ret (v := .tuple #[.int .i64 (size - 8 - (m : Int)), .int .i64 (m : Int), .bool true]) (by simp [results, Tryz.results24, go_sem]) rfl ⟨by rw [HF.out]; rfl, ⟨_, rfl⟩⟩
   ·have q5 : decide (size - 13 < (m : Int)) = true := by rw [decide_eq_true_eq]; omega
    rw [if_neg hmm] at HF
    go_enter Tryz.func24, Tryz.ntmps24
    go_wp2_with fail
    go_quiet (fail)
    go_wp2_with fail
    exact bodyPost_ret (v := .tuple #[.int .i64 0, .int .i64 0, .bool false]) (by simp [results, Tryz.results24, go_sem]) rfl ⟨by rw [HF.out]; rfl, ⟨_, rfl⟩⟩
  ·have HF : Hid (endsF b size = (0, 0, 4)) := Lib.hid (by unfold endsF; rw [if_neg (fun h => hm h.2)])
   by_cases he : b.drop 4 = [69, 78, 84, 82]
   ·have ht : strB (b.drop 4) = ⟨#[69, 78, 84, 82]⟩ := by rw [he]; rfl
    rw [ht] at hST1
    have q2 : decide (size < 13) = true := by rw [decide_eq_true_eq]; exact Int.not_le.1 fun h => hm ⟨he, h⟩
    clear hr ok hl hcut okd ht hm he
    go_enter Tryz.func24, Tryz.ntmps24
    go_wp2_with fail
    exact bodyPost_ret (v := .tuple #[.int .i64 0, .int .i64 0, .bool false]) (by simp [results, Tryz.results24, go_sem]) rfl ⟨by rw [HF.out]; rfl, (Dr.refl _)⟩
   ·have qn : ((strB (b.drop 4)).toList == ([69, 78, 84, 82] : List UInt8)) = false := by
     rw [show ([69, 78, 84, 82] : List UInt8) = (strB [69, 78, 84, 82]).toList from by decide +kernel, strs_eq, decide_eq_false_iff_not]
     exact fun e => he (strB_inj okd (fun x hx => by simp only [List.mem_cons, List.not_mem_nil, or_false] at hx; omega) e)
    clear hr ok hl hcut okd hm he
    generalize strB (b.drop 4) = T at *
    go_enter Tryz.func24, Tryz.ntmps24
    go_wp2_with fail
    exact bodyPost_ret (v := .tuple #[.int .i64 0, .int .i64 0, .bool false]) (by simp [results, Tryz.results24, go_sem]) rfl ⟨by rw [HF.out]; rfl, (Dr.refl _)⟩
 ·have HF : Hid (endsF b size = (0, 0, 4)) := Lib.hid (by unfold endsF; rw [if_neg (fun h => h8 (hl ▸ h.1))])
  have q0 : ((n : Int) != 8) = true := by
   simp only [bne_iff_ne, ne_eq]
   omega
  clear hr ok hl
  go_enter Tryz.func24, Tryz.ntmps24
  go_wp2_with fail
  exact bodyPost_ret (v := .tuple #[.int .i64 0, .int .i64 0, .bool false]) (by simp [results, Tryz.results24, go_sem]) rfl ⟨by rw [HF.out]; rfl, (Dr.refl _)⟩
end Go.Proofs.YtpakjclpjcngmaaGreat
