/- Spans, postings and an entry as arguments, opened. Conditions: none. -/
import Derived.Test.YtbgeddlakcaikaaKrGrB
import Derived.Test.YtbgeddlakcaikaaKrLawS
import Derived.Shelf.Vars
namespace Go.Proofs.Ytbgeddlakcaikaa
set_option maxRecDepth 100000
open Go.ChangeShapes Go.WideShapes Go.ChangeAt Go.RowKit Go.Deep
set_option linter.unusedVariables false
theorem maxlen_cell {W : World} (h : W.ShapedOpen Try.prog) : ∃ m, W.cell? ⟨0, 0, none⟩ = some (.int .i64 m) :=
  cell_of_shapedOpen_int (zero := #[.int .i64 0]) (t := 3) h (of_decide_eq_true (by kernel_rfl)) (by kernel_rfl) rfl (by kernel_rfl) (by kernel_rfl) Try.underlying3
/-- a posting as it came -/
def PV.ok0 (w : World) (x : PV) : Prop := Rd w (· < w.heap.size) 1 x.A x.gs.length (ints x.gs) ∧ (∀ g ∈ x.gs, i64 g) ∧ x.gs.length ≤ x.c ∧ x.c ≤ maxLen ∧ x.text.size ≤ 9223372036854775807
def SpanE.wf (x : SpanE) : Prop := i64 x.place ∧ i64 x.size ∧ i64 x.rows ∧ i64 x.lo ∧ i64 x.hi
section
variable {H : Type} {enc : TypeId × Value → H} {W : World}
theorem intl_of_trod {n : Nat} {v : Value} {y : DataW H × List MemPlace} (h : DataW.trod enc Try.prog W 0 (fun _ => true) true n 38 [v] = some y) :
    ∃ (A : Option Addr) (c : Nat) (zs : List Int), v = .slice A zs.length c ∧ Rd W (· < W.heap.size) 1 A zs.length (ints zs) ∧ (∀ z ∈ zs, i64 z) ∧ zs.length ≤ c ∧ c ≤ maxLen := by
  rcases open_ints Try.underlying38 Try.underlying3 (by kernel_rfl) h with ⟨hcs, hx⟩ | ⟨x, l, c', zs, hcs, _, hl, hm, hz, hx, hcell, hwz⟩
  · simp at hcs
    exact ⟨none, 0, [], hcs, Rd.none_ _ _ _ _, (by intro z hz; cases hz), Nat.le_refl _, by simp [maxLen]⟩
  · simp at hcs
    subst hcs
    simp only [if_true] at hz
    have hlen : (zs.take l).length = l := by simp; omega
    refine ⟨some x, c', zs.take l, by rw [hlen], ?_, fun z hz' => i64_of_wf (hwz z (List.mem_of_mem_take hz')), by omega, hm⟩
    refine ⟨by simp [ints], fun hn => ⟨x, rfl, ?_, fun j u hu => ?_⟩⟩
    · have := World.block_lt_of_cell? W _ (hcell 0 (by omega))
      rwa [block_of_add] at this
    · have hj : j < l := by
        rcases Nat.lt_or_ge j l with hj | hj
        · exact hj
        · rw [List.getElem?_eq_none (by simp [ints]; omega)] at hu; cases hu
      rw [hcell j (by omega), ← hu]
      simp [ints, List.getD, List.getElem?_take, hj, List.getElem?_eq_getElem (show j < zs.length by omega)]
theorem span_of_trod {n : Nat} {cs : List Value} {y : DataW H × List MemPlace} (h : DataW.trod enc Try.prog W 0 (fun _ => true) true n 36 cs = some y) : ∃ x : SpanE, cs = x.cs ∧ x.wf := by
  obtain ⟨ys, n', hn', hy, hlen, hyl, hf⟩ := DataW.trod_struct Try.underlying36 h
  have hC : Try.prog.cellsOf 36 = 5 := by kernel_rfl
  rw [hC] at hlen
  match cs, hlen with
  | [v0, v1, v2, v3, v4], _ =>
    have g0 : DataW.trod enc Try.prog W 0 (fun _ => true) true n' 3 (([v0, v1, v2, v3, v4].drop 0).take (Try.prog.cellsOf 3)) = ys[0]? := hf 0 _ rfl
    have g1 : DataW.trod enc Try.prog W 0 (fun _ => true) true n' 3 (([v0, v1, v2, v3, v4].drop 1).take (Try.prog.cellsOf 3)) = ys[1]? := hf 1 _ rfl
    have g2 : DataW.trod enc Try.prog W 0 (fun _ => true) true n' 3 (([v0, v1, v2, v3, v4].drop 2).take (Try.prog.cellsOf 3)) = ys[2]? := hf 2 _ rfl
    have g3 : DataW.trod enc Try.prog W 0 (fun _ => true) true n' 3 (([v0, v1, v2, v3, v4].drop 3).take (Try.prog.cellsOf 3)) = ys[3]? := hf 3 _ rfl
    have g4 : DataW.trod enc Try.prog W 0 (fun _ => true) true n' 3 (([v0, v1, v2, v3, v4].drop 4).take (Try.prog.cellsOf 3)) = ys[4]? := hf 4 _ rfl
    have ei : Try.prog.cellsOf 3 = 1 := by kernel_rfl
    simp only [ei, List.drop_zero, List.take_succ_cons, List.take_zero, List.drop_succ_cons] at g0 g1 g2 g3 g4
    obtain ⟨a0, rfl, i0⟩ := int_of_trod Try.underlying3 (g0.trans (List.getElem?_eq_getElem (by rw [hyl]; decide)))
    obtain ⟨a1, rfl, i1⟩ := int_of_trod Try.underlying3 (g1.trans (List.getElem?_eq_getElem (by rw [hyl]; decide)))
    obtain ⟨a2, rfl, i2⟩ := int_of_trod Try.underlying3 (g2.trans (List.getElem?_eq_getElem (by rw [hyl]; decide)))
    obtain ⟨a3, rfl, i3⟩ := int_of_trod Try.underlying3 (g3.trans (List.getElem?_eq_getElem (by rw [hyl]; decide)))
    obtain ⟨a4, rfl, i4⟩ := int_of_trod Try.underlying3 (g4.trans (List.getElem?_eq_getElem (by rw [hyl]; decide)))
    exact ⟨⟨a0, a1, a2, a3, a4⟩, rfl, i0, i1, i2, i3, i4⟩
theorem post_of_trod {n : Nat} {cs : List Value} {y : DataW H × List MemPlace} (h : DataW.trod enc Try.prog W 0 (fun _ => true) true n 40 cs = some y) : ∃ x : PV, cs = x.cs ∧ x.ok0 W := by
  obtain ⟨ys, n', hn', hy, hlen, hyl, hf⟩ := DataW.trod_struct Try.underlying40 h
  have hC : Try.prog.cellsOf 40 = 2 := by kernel_rfl
  rw [hC] at hlen
  match cs, hlen with
  | [v0, v1], _ =>
    have g0 : DataW.trod enc Try.prog W 0 (fun _ => true) true n' 9 (([v0, v1].drop 0).take (Try.prog.cellsOf 9)) = ys[0]? := hf 0 _ rfl
    have g1 : DataW.trod enc Try.prog W 0 (fun _ => true) true n' 38 (([v0, v1].drop 1).take (Try.prog.cellsOf 38)) = ys[1]? := hf 1 _ rfl
    have es : Try.prog.cellsOf 9 = 1 := by kernel_rfl
    have el : Try.prog.cellsOf 38 = 1 := by kernel_rfl
    simp only [es, el, List.drop_zero, List.take_succ_cons, List.take_zero, List.drop_succ_cons] at g0 g1
    obtain ⟨a0, rfl, i0⟩ := str_of_trod (g0.trans (List.getElem?_eq_getElem (by rw [hyl]; decide)))
    obtain ⟨A, c, zs, rfl, h1, h2, h3, h4⟩ := intl_of_trod (g1.trans (List.getElem?_eq_getElem (by rw [hyl]; decide)))
    exact ⟨⟨a0, zs, A, c⟩, rfl, h1, h2, h3, h4, i0⟩
variable {args : Array Value} {ds : List (DataW H)} {ps : List MemPlace}
theorem Told.spans {ts : List TypeId} (h : Told enc (25 :: ts) W args ds ps) : ∃ (A : Option Addr) (c : Nat) (l : List SpanE) (vs : List Value) (ds' : List (DataW H)) (q : List MemPlace), args = (.slice A l.length c :: vs).toArray ∧
      Rd W (· < W.heap.size) 5 A l.length (spl l) ∧ (∀ x ∈ l, x.wf) ∧ l.length ≤ c ∧ c ≤ maxLen ∧ Told enc ts W vs.toArray ds' q := by
  obtain ⟨v, vs, d, ds', p, q, rfl, rfl, h0, ⟨b, ho⟩, hlt, hw, h'⟩ := h.cons
  obtain ⟨A, n, c, rfl⟩ := okWide_slice Try.underlying25 ho
  obtain ⟨fuel, hf⟩ := h0
  rcases open_slice Try.underlying25 hf with ⟨hcs, hx⟩ | ⟨a, len, cap, m, nn, D, Pl, hcs, hb, hl, hm, hmm, hx, hi⟩
  · simp [Value.cells] at hcs
    obtain ⟨rfl, rfl, rfl⟩ := hcs
    exact ⟨none, 0, [], vs, ds', q, rfl, Rd.none_ _ _ _ _, by simp, Nat.le_refl _, by simp [maxLen], h'⟩
  · simp [Value.cells] at hcs
    obtain ⟨rfl, rfl, rfl⟩ := hcs
    simp only [if_true] at hmm
    have hC : Try.prog.cellsOf 36 = 5 := by kernel_rfl
    rw [hC] at hi
    obtain ⟨l, h1, h2, h3⟩ := rd_of_index (W := W) (a := a) (n := n) (good := SpanE.wf) SpanE.cs_len (by decide) (fun i hin => by
      obtain ⟨cs', hc, ht'⟩ := hi i (by omega)
      obtain ⟨x, rfl, hx1⟩ := span_of_trod ht'
      obtain ⟨_, hcl, hat⟩ := World.cells?_some hc
      refine ⟨x, hx1, fun j u hj hu => ?_⟩
      rw [← Go.Deep.add_add, hat j hj, ← hu])
    subst h1
    exact ⟨some a, c, l, vs, ds', q, rfl, h3, h2, hl, hm, h'⟩
theorem Told.posts {ts : List TypeId} (h : Told enc (26 :: ts) W args ds ps) : ∃ (A : Option Addr) (c : Nat) (l : List PV) (vs : List Value) (ds' : List (DataW H)) (q : List MemPlace), args = (.slice A l.length c :: vs).toArray ∧
      Rd W (· < W.heap.size) 2 A l.length (pvl l) ∧ (∀ x ∈ l, x.ok0 W) ∧ l.length ≤ c ∧ c ≤ maxLen ∧ Told enc ts W vs.toArray ds' q := by
  obtain ⟨v, vs, d, ds', p, q, rfl, rfl, h0, ⟨b, ho⟩, hlt, hw, h'⟩ := h.cons
  obtain ⟨A, n, c, rfl⟩ := okWide_slice Try.underlying26 ho
  obtain ⟨fuel, hf⟩ := h0
  rcases open_slice Try.underlying26 hf with ⟨hcs, hx⟩ | ⟨a, len, cap, m, nn, D, Pl, hcs, hb, hl, hm, hmm, hx, hi⟩
  · simp [Value.cells] at hcs
    obtain ⟨rfl, rfl, rfl⟩ := hcs
    exact ⟨none, 0, [], vs, ds', q, rfl, Rd.none_ _ _ _ _, by simp, Nat.le_refl _, by simp [maxLen], h'⟩
  · simp [Value.cells] at hcs
    obtain ⟨rfl, rfl, rfl⟩ := hcs
    simp only [if_true] at hmm
    have hC : Try.prog.cellsOf 40 = 2 := by kernel_rfl
    rw [hC] at hi
    obtain ⟨l, h1, h2, h3⟩ := rd_of_index (W := W) (a := a) (n := n) (good := fun x : PV => x.ok0 W) PV.cs_len (by decide) (fun i hin => by
      obtain ⟨cs', hc, ht'⟩ := hi i (by omega)
      obtain ⟨x, rfl, hx1⟩ := post_of_trod ht'
      obtain ⟨_, hcl, hat⟩ := World.cells?_some hc
      refine ⟨x, hx1, fun j u hj hu => ?_⟩
      rw [← Go.Deep.add_add, hat j hj, ← hu])
    subst h1
    exact ⟨some a, c, l, vs, ds', q, rfl, h3, h2, hl, hm, h'⟩
theorem u32_of_trod {n : Nat} {v : Value} {y : DataW H × List MemPlace} (h : DataW.trod enc Try.prog W 0 (fun _ => true) true n 27 [v] = some y) : ∃ a : Nat, v = .int .u32 (a : Int) := by
  obtain ⟨a, e, _, wf⟩ := DataW.trod_int Try.underlying27 h
  simp at e
  have h1 : IntKind.u32.min = 0 := rfl
  simp only [Lit.wf, Bool.and_eq_true, decide_eq_true_eq] at wf
  obtain ⟨x, rfl⟩ := Int.eq_ofNat_of_zero_le (show 0 ≤ a by omega)
  exact ⟨x, e⟩
theorem Told.entry {ts : List TypeId} (h : Told enc (29 :: ts) W args ds ps) : ∃ (x : EntE) (vs : List Value) (ds' : List (DataW H)) (q : List MemPlace), args = (entV x :: vs).toArray ∧ x.part.size ≤ 9223372036854775807 ∧ Told enc ts W vs.toArray ds' q := by
  obtain ⟨v, vs, d, ds', p, q, rfl, rfl, h0, ⟨b, ho⟩, hlt, hw, h'⟩ := h.cons
  obtain ⟨cs, ys, n, rfl, hcl, hyl, hg⟩ := open_aggN Try.underlying29 (by kernel_rfl) (by kernel_rfl) ho h0
  match cs, hcl with
  | [c0, c1, c2, c3, c4, c5, c6, c7, c8], _ =>
    obtain ⟨_, _, t0⟩ := hg 0 _ c0 rfl rfl
    obtain ⟨_, _, t1⟩ := hg 1 _ c1 rfl rfl
    obtain ⟨_, _, t2⟩ := hg 2 _ c2 rfl rfl
    obtain ⟨_, _, t3⟩ := hg 3 _ c3 rfl rfl
    obtain ⟨_, _, t4⟩ := hg 4 _ c4 rfl rfl
    obtain ⟨_, _, t5⟩ := hg 5 _ c5 rfl rfl
    obtain ⟨_, _, t6⟩ := hg 6 _ c6 rfl rfl
    obtain ⟨_, _, t7⟩ := hg 7 _ c7 rfl rfl
    obtain ⟨_, _, t8⟩ := hg 8 _ c8 rfl rfl
    obtain ⟨a0, rfl, _⟩ := str_of_trod t0
    obtain ⟨a1, rfl, _⟩ := int_of_trod Try.underlying3 t1
    obtain ⟨a2, rfl, k2⟩ := str_of_trod t2
    obtain ⟨a3, rfl, _⟩ := int_of_trod Try.underlying3 t3
    obtain ⟨a4, rfl, _⟩ := int_of_trod Try.underlying3 t4
    obtain ⟨a5, rfl, _⟩ := int_of_trod Try.underlying3 t5
    obtain ⟨a6, rfl, _⟩ := int_of_trod Try.underlying3 t6
    obtain ⟨a7, rfl⟩ := u32_of_trod t7
    obtain ⟨a8, rfl, _⟩ := int_of_trod Try.underlying3 t8
    exact ⟨⟨a0, a1, a2, a3, a4, a5, a6, a7, a8⟩, vs, ds', q, rfl, k2, h'⟩
end
end Go.Proofs.Ytbgeddlakcaikaa
