/- The groups that an index names, as plain functions, and an index in memory; a map of numbers as a set. Conditions: none. -/
import Derived.Test.YtbgeddlakcaikaaKrQ4
import Derived.Test.YtbgeddlakcaikaaKrPlainPs
import Derived.Maps.Views
import Derived.Maps.OwnOps
namespace Go.Proofs.Ytbgeddlakcaikaa
set_option maxRecDepth 100000
open Go.RowKit Go.Maps Ps
set_option linter.unusedVariables false
structure SpanE where
  place : Int
  size : Int
  rows : Int
  lo : Int
  hi : Int
/-- a text of labels and its groups -/
structure PV where
  text : ByteArray
  gs : List Int
  A : Option Addr
  c : Nat
def hitF (ms : List Mat) (p : PV) : Bool := match parseF p.text.data.toList with
  | some l => meetsF l ms
  | none => false
def namedF (ms : List Mat) (ps : List PV) : List Int := ps.flatMap fun p => if hitF ms p then p.gs else []
theorem named_snoc (ms : List Mat) (ps : List PV) (p : PV) : namedF ms (ps ++ [p]) = namedF ms ps ++ (if hitF ms p then p.gs else []) := by
  unfold namedF
  rw [List.flatMap_append]
  simp
def spanF (q : QryE) (s : SpanE) : Bool := decide (s.lo < q.hi ∧ q.lo ≤ s.hi)
def pickF (q : QryE) (N : List Int) (ss : List SpanE) (i : Nat) : Bool := match ss[i]? with
  | some s => N.contains (i : Int) && spanF q s
  | none => false
def grpF (q : QryE) (N : List Int) (ss : List SpanE) (k : Nat) : List Int := ((List.range k).filter (pickF q N ss)).map fun i : Nat => (i : Int)
theorem grp_zero (q : QryE) (N : List Int) (ss : List SpanE) : grpF q N ss 0 = [] := rfl
theorem grp_len (q : QryE) (N : List Int) (ss : List SpanE) (k : Nat) : (grpF q N ss k).length ≤ k := by
  unfold grpF
  rw [List.length_map]
  have := List.length_filter_le (pickF q N ss) (List.range k)
  rw [List.length_range] at this
  exact this
theorem grp_in {q : QryE} {N : List Int} {ss : List SpanE} {k : Nat} (hk : k < ss.length) (h : N.contains (k : Int) = true) (hs : spanF q ss[k] = true) : grpF q N ss (k + 1) = grpF q N ss k ++ [(k : Int)] := by
  unfold grpF
  have e : pickF q N ss k = true := by
    unfold pickF
    rw [List.getElem?_eq_getElem hk]
    simp only
    rw [h, hs]
    rfl
  rw [List.range_succ, List.filter_append, List.filter_cons, if_pos e, List.map_append]
  rfl
theorem grp_out {q : QryE} {N : List Int} {ss : List SpanE} {k : Nat} (hk : k < ss.length) (h : N.contains (k : Int) = false ∨ spanF q ss[k] = false) : grpF q N ss (k + 1) = grpF q N ss k := by
  unfold grpF
  have e : pickF q N ss k = false := by
    unfold pickF
    rw [List.getElem?_eq_getElem hk]
    simp only
    rcases h with h | h
    · rw [h]; rfl
    · rw [h]; simp
  rw [List.range_succ, List.filter_append, List.filter_cons, if_neg (by rw [e]; decide), List.filter_nil, List.append_nil]
/-- the answer -/
def groupsF (q : QryE) (ss : List SpanE) (ps : List PV) : List Int := if qrightF q then grpF q (namedF q.ms ps) ss ss.length else []
theorem groups_len (q : QryE) (ss : List SpanE) (ps : List PV) : (groupsF q ss ps).length ≤ ss.length := by
  unfold groupsF
  split
  · exact grp_len ..
  · simp
/-! memory -/
def SpanE.cs (s : SpanE) : List Value := [.int .i64 s.place, .int .i64 s.size, .int .i64 s.rows, .int .i64 s.lo, .int .i64 s.hi]
def PV.cs (x : PV) : List Value := [.string x.text, .slice x.A x.gs.length x.c]
theorem SpanE.cs_len (s : SpanE) : s.cs.length = 5 := rfl
theorem PV.cs_len (x : PV) : x.cs.length = 2 := rfl
def spl (l : List SpanE) : List Value := l.flatMap fun s => s.cs
def pvl (l : List PV) : List Value := l.flatMap fun x => x.cs
def ints (l : List Int) : List Value := l.map fun z => .int .i64 z
structure PV.ok (w : World) (D : Nat → Prop) (x : PV) : Prop where
  rd : Rd w D 1 x.A x.gs.length (ints x.gs)
  tx : x.text.size ≤ 600
  gn : x.gs.length ≤ 60
  gi : ∀ g ∈ x.gs, i64 g
theorem spl_len (l : List SpanE) : (spl l).length = l.length * 5 := by
  unfold spl
  induction l with
  | nil => rfl
  | cons x l ih => rw [List.flatMap_cons, List.length_append, ih, SpanE.cs_len, List.length_cons]; omega
theorem pvl_len (l : List PV) : (pvl l).length = l.length * 2 := by
  unfold pvl
  induction l with
  | nil => rfl
  | cons x l ih => rw [List.flatMap_cons, List.length_append, ih, PV.cs_len, List.length_cons]; omega
theorem span_at {w : World} {D : Nat → Prop} {A : Option Addr} {n k : Nat} {l : List SpanE} (h : Rd w D 5 A n (spl l)) (hk : k < l.length) : ∃ ad, A = some ad ∧ D ad.block ∧ w.cell? (ad.add (k * 5)) = some (.int .i64 l[k].place) ∧
    w.cell? ⟨(ad.add (k * 5)).block, (ad.add (k * 5)).off + 1, none⟩ = some (.int .i64 l[k].size) ∧ w.cell? ⟨(ad.add (k * 5)).block, (ad.add (k * 5)).off + 2, none⟩ = some (.int .i64 l[k].rows) ∧
    w.cell? ⟨(ad.add (k * 5)).block, (ad.add (k * 5)).off + 3, none⟩ = some (.int .i64 l[k].lo) ∧ w.cell? ⟨(ad.add (k * 5)).block, (ad.add (k * 5)).off + 4, none⟩ = some (.int .i64 l[k].hi) := by
  have hn : 0 < n := by have := h.1; rw [spl_len] at this; omega
  obtain ⟨ad, rfl, hb, hc⟩ := h.2 hn
  have g := fun i (hi : i < 5) u (hu : (l[k].cs)[i]? = some u) => hc (k * 5 + i) u ((flat_get SpanE.cs_len hk hi).trans hu)
  exact ⟨ad, rfl, hb, g 0 (by decide) _ rfl, cell_next 0 (g 1 (by decide) _ rfl), cell_next 1 (g 2 (by decide) _ rfl), cell_next 2 (g 3 (by decide) _ rfl), cell_next 3 (g 4 (by decide) _ rfl)⟩
theorem post_at {w : World} {D : Nat → Prop} {A : Option Addr} {n k : Nat} {l : List PV} (h : Rd w D 2 A n (pvl l)) (hk : k < l.length) : ∃ ad, A = some ad ∧ D ad.block ∧ w.cell? (ad.add (k * 2)) = some (.string l[k].text) ∧
    w.cell? ⟨(ad.add (k * 2)).block, (ad.add (k * 2)).off + 1, none⟩ = some (.slice l[k].A l[k].gs.length l[k].c) := by
  have hn : 0 < n := by have := h.1; rw [pvl_len] at this; omega
  obtain ⟨ad, rfl, hb, hc⟩ := h.2 hn
  have g := fun i (hi : i < 2) u (hu : (l[k].cs)[i]? = some u) => hc (k * 2 + i) u ((flat_get PV.cs_len hk hi).trans hu)
  exact ⟨ad, rfl, hb, g 0 (by decide) _ rfl, cell_next 0 (g 1 (by decide) _ rfl)⟩
theorem int_at {w : World} {D : Nat → Prop} {A : Option Addr} {n k : Nat} {l : List Int} (h : Rd w D 1 A n (ints l)) (hk : k < l.length) : ∃ ad, A = some ad ∧ D ad.block ∧ w.cell? (ad.add k) = some (.int .i64 l[k]) := by
  have hn : 0 < n := by have := h.1; unfold ints at this; simp at this; omega
  obtain ⟨ad, rfl, hb, hc⟩ := h.2 hn
  exact ⟨ad, rfl, hb, hc k _ (by unfold ints; rw [List.getElem?_map, List.getElem?_eq_getElem hk]; rfl)⟩
/-! a map of numbers as a set -/
theorem Try.intKeyed : Keyed Try.prog 3 := int_keyed Try.underlying3
theorem zero_bool (w : World) : (zeroValue 4).run Try.prog w = .ok (.bool false) w := by kernel_rfl
theorem plainElem_bool_inv {v : Value} {z : DataW Unit × List MemPlace} (h : plainElem Try.prog 4 v = some z) : ∃ b, v = .bool b ∧ z = (.lit (.bool b), []) := by
  unfold plainElem at h
  rw [Try.underlying4] at h
  cases v <;> simp at h
  subst h
  exact ⟨_, rfl, rfl⟩
/-- block b is a map that says of each number whether it is one of l -/
def Named (w : World) (b n : Nat) (l : List Int) : Prop := ∃ D : DataW Unit, w.ownsMap Try.prog 3 (plainElem Try.prog 4) b n D ∧ IsMap D ∧ ∀ i : Int, D.atKey (.int .i64 i) (.lit (.bool false)) = .lit (.bool (l.contains i))
theorem Named.made (w : World) : Named (w.alloc (.map #[] 0)) w.heap.size 0 [] := ⟨_, World.ownsMap_made w _ _ _, isMap_empty, fun i => rfl⟩
theorem Named.lt {w : World} {b n : Nat} {l : List Int} (h : Named w b n l) : b < w.heap.size := h.choose_spec.1.lt
theorem Named.nx {w w' : World} {b n : Nat} {l : List Int} (h : Named w b n l) (c : Nx w w') : Named w' b n l := by
  obtain ⟨D, h1, h2, h3⟩ := h
  refine ⟨D, ?_, h2, h3⟩
  have hlt := h1.lt
  obtain ⟨es, clock, hb, F, hs, hD⟩ := h1
  exact ⟨es, clock, (c.block_ hlt).trans hb, F, hs, hD⟩
theorem wf_of_i64 {a : Int} (h : i64 a) : (Lit.int .i64 a).wf = true := by
  obtain ⟨h3, h4⟩ := h
  have h1 : IntKind.i64.min = -9223372036854775808 := rfl
  have h2 : IntKind.i64.max = 9223372036854775807 := rfl
  simp only [Lit.wf, Bool.and_eq_true, decide_eq_true_eq]
  omega
theorem Named.look {w : World} {b n : Nat} {l : List Int} (h : Named w b n l) {i : Int} (hi : i64 i) : (Instr.lookup 58 (.map (some b)) (.int .i64 i) false).run Try.prog w = .ok (.bool (l.contains i)) w := by
  obtain ⟨D, h1, h2, h3⟩ := h
  obtain ⟨v, ps, hrun, hv⟩ := h1.lookup Try.intKeyed Try.underlying58 (zero_bool w) (plainElem_bool Try.underlying4 false) (keyOf_int_mk Try.underlying3 (wf_of_i64 hi))
  obtain ⟨c, rfl, hc⟩ := plainElem_bool_inv hv
  simp only [Prod.mk.injEq] at hc
  have h4 := hc.1
  rw [h3] at h4
  injection h4 with h4
  injection h4 with h4
  rw [hrun, h4]
theorem Named.put {w : World} {b n : Nat} {l : List Int} (h : Named w b n l) (hn : n < maxLen) {i : Int} (hi : i64 i) : ∃ w', (Instr.mapUpdate 58 (.map (some b)) (.int .i64 i) (.bool true)).run Try.prog w = .ok () w' ∧ Named w' b (n + 1) (l ++ [i]) ∧ Ch (· = b) w w' := by
  obtain ⟨D, h1, h2, h3⟩ := h
  obtain ⟨w', hrun, hown, hg⟩ := h1.update Try.intKeyed Try.underlying58 hn (keyOf_int_mk Try.underlying3 (wf_of_i64 hi)) (plainElem_bool Try.underlying4 true)
  refine ⟨w', hrun, ⟨_, hown, h2.put _ _, fun j => ?_⟩, (Ch.refl (· = b) w).grown hg (fun k hk _ => by cases hk; rfl)⟩
  by_cases e : j = i
  · subst e
    rw [atKey_put_same h2 (show WideAt.IsKeyLit (Lit.int .i64 j) from trivial)]
    simp
  · rw [atKey_put_other (fun he => e (by injection he)), h3]
    simp [e]
end Go.Proofs.Ytbgeddlakcaikaa
