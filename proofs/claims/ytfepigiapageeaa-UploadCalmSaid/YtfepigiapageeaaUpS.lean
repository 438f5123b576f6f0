/- A setting of layer 17 as an argument. Conditions: none. -/
import Derived.Test.YtfepigiapageeaaAgg
import Derived.Test.YtfepigiapageeaaUpL
namespace Go.Proofs.Ytfepigiapageeaa
set_option maxRecDepth 100000
open Go.ChangeShapes Go.WideShapes Go.ChangeAt Go.RowKit Go.Deep
set_option linter.unusedVariables false

theorem Told.setting {H : Type} {enc : TypeId × Value → H} {W : World} {args : Array Value} {ds : List (DataW H)} {ps : List MemPlace} {ts : List TypeId} (h : Told enc (24 :: ts) W args ds ps) :
    ∃ (key : ByteArray) (A : Option Addr) (n c : Nat) (xs : List Nat) (piece tries wait : Int) (vs : List Value) (ds' : List (DataW H)) (q : List MemPlace), args = (setV key (.slice A n c) piece tries wait :: vs).toArray ∧
      key.size ≤ 9223372036854775807 ∧ xs.length = n ∧ Rd W (· < W.heap.size) 1 A n (bl xs) ∧ okB xs ∧ n ≤ c ∧ c ≤ maxLen ∧ i64 piece ∧ i64 tries ∧ i64 wait ∧ Told enc ts W vs.toArray ds' q := by
  obtain ⟨v, vs, d, ds', p, q, rfl, rfl, h0, ⟨b, ho⟩, hlt, hw, h'⟩ := h.cons
  obtain ⟨cs, ys, n, rfl, hcl, hyl, hg⟩ := open_aggN Try.underlying24 (by kernel_rfl) (by kernel_rfl) ho h0
  match cs, hcl with
  | [c0, c1, c2, c3, c4], _ =>
    obtain ⟨_, _, t0⟩ := hg 0 _ c0 rfl rfl
    obtain ⟨_, _, t1⟩ := hg 1 _ c1 rfl rfl
    obtain ⟨_, _, t2⟩ := hg 2 _ c2 rfl rfl
    obtain ⟨_, _, t3⟩ := hg 3 _ c3 rfl rfl
    obtain ⟨_, _, t4⟩ := hg 4 _ c4 rfl rfl
    obtain ⟨key, rfl, hk⟩ := str_of_trod t0
    obtain ⟨A, n, c, xs, rfl, h1, h2, h3, h4, h5⟩ := bytes_of_trod t1
    obtain ⟨piece, rfl, i1⟩ := int_of_trod Try.underlying3 t2
    obtain ⟨tries, rfl, i2⟩ := int_of_trod Try.underlying3 t3
    obtain ⟨wait, rfl, i3⟩ := int_of_trod Try.underlying3 t4
    exact ⟨key, A, n, c, xs, piece, tries, wait, vs, ds', q, rfl, hk, h1, h2, h3, h4, h5, i1, i2, i3, h'⟩
end Go.Proofs.Ytfepigiapageeaa
