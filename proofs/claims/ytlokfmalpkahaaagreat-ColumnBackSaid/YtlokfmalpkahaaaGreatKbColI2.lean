/- column's Ints of what PutInts made. Conditions: a right row. -/
import Derived.Test.YtlokfmalpkahaaaGreatKbDelta4
import Derived.Test.YtlokfmalpkahaaaGreatKbQ10
import Derived.Test.YtlokfmalpkahaaaGreatKbColW3
import Derived.Test.YtlokfmalpkahaaaGreatKbCol6
namespace Go.Proofs.YtlokfmalpkahaaaGreat
open Go.RowKit
set_option linter.unusedVariables false
set_option maxRecDepth 100000
theorem delta_Decode (D : Nat → Prop) (A : Option Addr) (n c : Nat) (l : List Int) (w : Nat) (hw : w ≤ 2) (W : World) (hr : Rd W D 1 A n (bl (encF l w))) (hl : (encF l w).length = n) (hc : n ≤ c) (he : rowErr l = 0) :
    Calls Tryz.prog 56 #[.slice A n c, .int .i64 (w : Int)] W (DecTo W l) := by
  match w, hw with
  | 0, _ => exact delta_Decode0 D A n c l W hr hl hc he
  | 1, _ => exact delta_Decode1 D A n c l W hr hl hc he
  | 2, _ => exact delta_Decode2 D A n c l W hr hl hc he
/-- the cursor behind an append of what lies already -/
theorem cur_grown0 {W w5 w6 : World} {D : Nat → Prop} {g : Nat} {A : Option Addr} {c : Nat} {T : List Nat} {p : Nat} {u : Value} (cu : CurIs w5 D g A c T p 0) (hgl : g < W.heap.size) (hbnd : ∀ k, D k → k < W.heap.size) (c5 : Ch (· = g) W w5)
    (hg : w5.grownBy w6 u.ownBlock) (hu : ∀ j, u.ownBlock = some j → W.heap.size ≤ j) : CurIs w6 D g A c T p 0 ∧ Ch (· = g) W w6 := by
  have c6 : Ch (fun j => u.ownBlock = some j) w5 w6 := (Ch.refl _ w5).grown hg fun j hj _ => hj
  exact ⟨cu.ch c6 (fun e => by have := hu _ e; omega) (fun k hk e => by have := hu _ e; have := hbnd k hk; omega), c5.trans c6 fun i hi e => by have := hu _ e; omega⟩
/-- what Ints' closure hands back -/
def IntsC (w : World) (D : Nat → Prop) (g : Nat) (A : Option Addr) (c : Nat) (xs : List Nat) (l : List Int) (e : Ending) (w' : World) : Prop :=
  ∃ v, e = .returned v ∧ w'.ownsRow w.heap.size 2 1 v l.length (il l) ∧ CurIs w' D g A c xs xs.length 0 ∧ Ch (· = g) w w'
set_option maxHeartbeats 16000000 in
theorem col_Ints1 (D : Nat → Prop) (g : Nat) (A : Option Addr) (c : Nat) (l : List Int) (W : World) (h : CurIs W D g A c (intsC l) 0 0) (he : rowErr l = 0) :
    Calls Tryz.prog 53 #[.pointer (some ⟨g, 0, none⟩)] W (IntsC W D g A c (intsC l) l) := by
  obtain ⟨i0, hi0, hz0, hz1, hz2⟩ := info_parts Tryz.info5
  have hd2 := dbestF_le l
  have hok := intsC_ok he
  have hTe : intsC l = [dbestF l] ++ encF l (dbestF l) := rfl
  have hil := intsC_len he
  have hll := (rowErr_ok he).1
  have hdec := fun (D : Nat → Prop) (A : Option Addr) (c : Nat) (w : World) (h : Rd w D 1 A (encF l (dbestF l)).length (bl (encF l (dbestF l)))) (hc : (encF l (dbestF l)).length ≤ c) => delta_Decode D A _ c l (dbestF l) hd2 w h rfl hc he
  unfold DecTo at hdec
  have Hdec := Lib.hid hdec
  have hgl := h.blk.lt
  have hbnd := h.bnd
  have hb0 := cur_Bytes h 1 (by omega)
  unfold BytesTo at hb0
  have h1 : ((intsC l).drop 0).take 1 = [dbestF l] := by rw [hTe]; rfl
  rw [h1, Nat.zero_add] at hb0
  have Hb0 := Lib.hid hb0
  have hTl : (intsC l).length = 1 + (encF l (dbestF l)).length := by rw [hTe, List.length_append]; rfl
  have hTd : ∀ k, k < (encF l (dbestF l)).length → ((intsC l).drop (1 + k)).take 1 = [(encF l (dbestF l)).getD k 0] := fun k hk => by
    rw [hTe, Nat.add_comm, show [dbestF l] ++ encF l (dbestF l) = dbestF l :: encF l (dbestF l) from rfl, List.drop_succ_cons, List.drop_eq_getElem_cons hk, List.getD, List.getElem?_eq_getElem hk]
    rfl
  have HTd := Lib.hid hTd
  have hT1 : (intsC l).length ≤ 1 + (encF l (dbestF l)).length := by omega
  have hT2 : 1 + (encF l (dbestF l)).length ≤ (intsC l).length := by omega
  clear hdec hb0 h1 hTe hTd h hok he
  have hEl : (encF l (dbestF l)).length ≤ 1000000 := by omega
  clear hil hTl
  generalize encF l (dbestF l) = E at *
  generalize intsC l = T at *
  generalize dbestF l = d at *
  have kd : IntKind.i64.wrap (d : Int) = (d : Int) := IntWalk.i64_in _ (by omega)
  go_enter Tryz.func53, Tryz.ntmps53
  go_wp2_with fail
  refine Hb0.out.mono ?_
  rintro e w2 ⟨k2, cap2, rfl, t2, o2, hc2, hk2⟩
  have hw2 := t2.chg.size
  have c20 : w2.cell? ⟨k2, 0, none⟩ = some (.int .u8 (d : Int)) := o2.cellAt 0 (by omega)
  have hk2l : k2 < w2.heap.size := (o2.lt k2 rfl).2
  have hgl2 : g < w2.heap.size := by omega
  have hbnd2 : ∀ k, D k → k < w2.heap.size := fun k hk => by have := hbnd k hk; omega
  have t2c := t2.cur
  have t2g := t2.chg
  clear Hb0 t2 o2
  go_wp2_with fail
  go_loopw [4] (fun v wr => ∃ k : Nat, k ≤ E.length ∧ CurIs wr D g A c T (1 + k) 0 ∧ wr.ownsRow w2.heap.size 5 1 v k (bl (E.take k)) ∧ Ch (· = g) w2 wr) (fun v _ => E.length - slenV v)
  case atStart => exact ⟨0, Nat.zero_le _, t2c, World.ownsRow_nil _ _ _ _, Ch.refl _ _⟩
  case round =>
    clear t2c
    obtain ⟨w4, rfl⟩ : ∃ w4 : World, w4 = wr := ⟨_, rfl⟩
    obtain ⟨k, hk, cu4, o4, c4⟩ := hrel
    obtain ⟨A4, c4', rfl, hc4, _⟩ := own_form o4
    have hen := cur_end cu4
    by_cases hlt : k < E.length
    · rw [show cendF T.length (1 + k) 0 = 5 by unfold cendF; rw [if_neg (by simp), if_pos (by omega)]] at hen
      have Hen := Lib.hid hen
      have HS := Lib.hid (show bl (E.take (k + 1)) = bl (E.take k) ++ bl [E.getD k 0] by rw [List.take_succ_eq_append_getElem hlt, List.getD, List.getElem?_eq_getElem hlt]; unfold bl; rw [List.map_append]; rfl)
      have hx := HTd.out k hlt
      clear hen
      generalize E.getD k 0 = x at *
      go_wp2_with fail
      refine Hen.out.mono ?_
      rintro e w5 ⟨rfl, d5⟩
      have cu5 := cu4.nx d5.nx
      have o5 := own_ch o4 d5.nx (fun _ _ hf => hf)
      have c5 := c4.tr d5.nx
      have hby := cur_Bytes cu5 1 (by omega)
      unfold BytesTo at hby
      rw [hx] at hby
      have Hby := Lib.hid hby
      have hw5 := c5.size
      clear hby hx cu4 o4 c4 d5 Hen
      go_wp2_with fail
      refine Hby.out.mono ?_
      rintro e w6 ⟨k6, cap6, rfl, t6, o6, hc6, hk6⟩
      have hu : ∀ j, (Value.slice A4 k c4').ownBlock = some j → w2.heap.size ≤ j := fun j hj => (o5.lt j hj).1
      have o56 := own_ch o5 t6.chg (fun j hj e => by have := hu j hj; omega)
      have c6 : Ch (· = g) w2 w6 := c5.trans t6.chg fun _ _ e => e
      have hw6 := c6.size
      have r6 := Rd.of_own o6
      have one : ∀ (v' : Value) (w8 : World), w6.grownBy w8 (Value.slice A4 k c4').ownBlock → CurIs w8 D g A c T (1 + k + 1) 0 ∧ Ch (· = g) w2 w8 := fun v' w8 hg => cur_grown0 t6.cur hgl2 hbnd2 c6 hg hu
      have One := Lib.hid one
      clear one t6 o6 o5 c5 c6 Hby hu
      go_wp2_with (at_builtin; refine wpList_append_any _ rfl (.tmp 12) (.tmp 14) _ rfl w2.heap.size 5 i0 _ 1 1 Tryz.underlying27 hi0 hz0 hz1 hz2 rfl (by omega) _ k (bl (E.take k)) rfl o56 _ (some ⟨k6, 0, none⟩) 1 cap6 (bl [x]) rfl r6 (bl_one _) (by simp only [maxLen]; omega) (by omega) (by omega) ?_; intro v' w8 h2 h3 h4)
      obtain ⟨A8, c8', rfl, _, _⟩ := own_form h2
      go_roundw
      case rel =>
        obtain ⟨q1, q2⟩ := One.out (.slice A8 (k + 1) c8') w8 h3
        exact ⟨k + 1, by omega, q1, by rw [HS.out]; exact h2, q2⟩
      case measure => simp [slenV]; omega
    · obtain rfl : E.length = k := by omega
      rw [show cendF T.length (1 + E.length) 0 = 0 by unfold cendF; rw [if_neg (by simp), if_neg (by omega)]] at hen
      have Hen := Lib.hid hen
      rw [List.take_length] at o4
      have hTk : 1 + E.length = T.length := by omega
      rw [hTk] at cu4
      clear hen hTk
      go_wp2_with fail
      refine Hen.out.mono ?_
      rintro e w5 ⟨rfl, d5⟩
      have cu5 := cu4.nx d5.nx
      have o5 := own_ch o4 d5.nx (fun _ _ hf => hf)
      have c5 := c4.tr d5.nx
      have hk2g : k2 ≠ g := by omega
      have c50 : w5.cell? ⟨k2, 0, none⟩ = some (.int .u8 (d : Int)) := (c5.cell hk2l hk2g).trans c20
      have hcall := Hdec.out _ A4 c4' w5 (Rd.of_own o5) hc4
      have hw5 := c5.size
      clear Hen cu4 o4 c4 d5 Hdec o5
      go_wp2_with fail
      with_reducible refine hcall.mono ?_
      rintro e w6 ⟨v6, rfl, o6⟩
      go_wp2_with fail
      go_ret
      exact ⟨v6, rfl, own_base o6.own (by omega), cu5.nx o6.nx, t2g.trans (c5.tr o6.nx) fun _ _ e => e⟩
/-- what comes back from Ints: the integers, in memory of the call's own -/
def IntsTo (W : World) (l : List Int) (e : Ending) (w' : World) : Prop :=
  ∃ v, e = .returned (.tuple #[v, .int .i64 0]) ∧ OwnS W w' 2 1 v l.length (il l)
set_option maxHeartbeats 8000000 in
theorem col_readI (D : Nat → Prop) (A : Option Addr) (n c : Nat) (l : List Int) (W : World) (hr : Rd W D 1 A n (bl (chunkF 1 (intsC l)))) (hl : (chunkF 1 (intsC l)).length = n) (hr0 : rowErr l = 0)
    (hcont : Calls Tryz.prog 93 #[.int .u8 1, .slice A n c] W (ContTo W (intsC l))) :
    Calls Tryz.prog 52 #[.int .u8 1, .slice A n c, .func (.func 53) #[] #[], .func (.func 8) #[] #[]] W (IntsTo W l) := by
  have hput := fun (D : Nat → Prop) (A : Option Addr) (c : Nat) (w : World) (h : Rd w D 1 A l.length (il l)) => col_PutInts D A l.length c l w h rfl hr0
  have hcl := fun (D : Nat → Prop) (g : Nat) (A : Option Addr) (c : Nat) (w : World) (h : CurIs w D g A c (intsC l) 0 0) => col_Ints1 D g A c l w h hr0
  have hstr := fun (D : Nat → Prop) (A : Option Addr) (c : Nat) (w : World) (h : Rd w D 1 A n (bl (chunkF 1 (intsC l)))) => run_str_of (P := Tryz.prog) w 27 9 5 Tryz.underlying27 Tryz.underlying5 Tryz.underlying9 D A n c _ h
  have Hput := Lib.hid hput
  have Hcl := Lib.hid hcl
  have Hstr := Lib.hid hstr
  have Hc := Lib.hid hcont
  clear hput hcl hstr hcont
  generalize intsC l = fc at *
  generalize chunkF 1 fc = ch at *
  subst hl
  go_enter Tryz.func52, Tryz.ntmps52
  go_wp2_with fail
  with_reducible refine Hc.out.mono ?_
  rintro e w1 ⟨g, A1, c1, D1, rfl, cu1, n1, hg, hD1⟩
  go_wp2_with fail
  with_reducible refine (Hcl.out _ _ _ _ _ cu1).mono ?_
  rintro e w2 ⟨v2, rfl, o2, cu2, c2⟩
  have n2 : Nx W w2 := n1.trans c2 fun i hi e => by omega
  have hs1 := n1.size
  have o2W : OwnS W w2 2 1 v2 l.length (il l) := ⟨own_base o2 hs1, n2⟩
  obtain ⟨A2, cc2, rfl, hcc2, _⟩ := own_form o2
  have hen := cur_end cu2
  rw [show cendF fc.length fc.length 0 = 0 by unfold cendF; rw [if_neg (by simp), if_neg (by omega)]] at hen
  have Hen := Lib.hid hen
  clear hen o2 c2 cu1 cu2
  go_wp2_with fail
  with_reducible refine Hen.out.mono ?_
  rintro e w3 ⟨rfl, d3⟩
  have o3 := o2W.tr d3.nx
  clear d3 Hen
  go_wp2_with fail
  with_reducible refine (Hput.out _ _ _ _ o3.rd).mono ?_
  rintro e w4 ⟨k4, cap4, rfl, o4, h4⟩
  have o5 := o3.tr o4.nx
  have n5 := o5.nx
  have e1 := Hstr.out _ _ cap4 w4 o4.rd_
  have e2 := Hstr.out D A c w4 (hr.nx (by decide) n5)
  generalize strB ch = sx at *
  go_wp2_with fail
  go_ret2
  exact ⟨_, rfl, o5⟩
set_option maxHeartbeats 4000000 in
theorem col_Ints (D : Nat → Prop) (A : Option Addr) (n c : Nat) (l : List Int) (W : World) (hr : Rd W D 1 A n (bl (chunkF 1 (intsC l)))) (hl : (chunkF 1 (intsC l)).length = n) (hr0 : rowErr l = 0)
    (hcont : Calls Tryz.prog 93 #[.int .u8 1, .slice A n c] W (ContTo W (intsC l))) :
    Calls Tryz.prog 22 #[.slice A n c] W (IntsTo W l) := by
  have Hr := Lib.hid (col_readI D A n c l W hr hl hr0 hcont)
  clear hr hcont hl
  go_enter Tryz.func22, Tryz.ntmps22
  go_wp2_with fail
  with_reducible refine Hr.out.mono ?_
  rintro e w1 ⟨v, rfl, h⟩
  go_wp2_with fail
  go_ret2
  exact ⟨_, rfl, h⟩
/-- Ints of a chunk that PutInts made -/
theorem col_Ints_any (D : Nat → Prop) (A : Option Addr) (n c : Nat) (l : List Int) (W : World) (hr : Rd W D 1 A n (bl (chunkF 1 (intsC l)))) (hDw : ∀ k, D k → k < W.heap.size) (hl : (chunkF 1 (intsC l)).length = n) (hc : n ≤ c) (hr0 : rowErr l = 0) :
    Calls Tryz.prog 22 #[.slice A n c] W (IntsTo W l) :=
  col_Ints D A n c l W hr hl hr0 (col_content D A n c 1 (intsC l) W hr hDw (intsC_ok hr0) (by decide) hl hc (by have := intsC_len hr0; have := (rowErr_ok hr0).1; omega) (by have := intsC_len hr0; omega))
end Go.Proofs.YtlokfmalpkahaaaGreat
