/- Groups that a call builds: a row of them, and a row of rows for each. Conditions: none. -/
import Derived.Test.YtihocfdnkongkaaKrQ7
import Derived.Test.YtihocfdnkongkaaKrRcA
namespace Go.Proofs.Ytihocfdnkongkaa
set_option maxRecDepth 100000
open Go.RowKit Ps
set_option linter.unusedVariables false
theorem Try.infoGrp : (Try.prog.info? 38).map (fun i => (i.zero, i.size, i.bytes)) = some (some (.agg #[.int .i64 0, .string ⟨#[]⟩, .slice none 0 0]), 3, 48) := by kernel_rfl
def GV.sl (x : GV) : Value := .slice x.A x.g.rows.length x.c
def GV.key (x : GV) : Int × ByteArray := x.g.key
theorem gvl_one (l : List GV) : ∀ u ∈ gvl l, u.oneCell' = true := by
  intro u hu
  obtain ⟨x, _, hx⟩ := List.mem_flatMap.1 hu
  simp [GV.cs] at hx
  rcases hx with rfl | rfl | rfl <;> rfl
theorem gvl_len (l : List GV) : (gvl l).length = l.length * 3 := flat_len GV.cs_len l
theorem own_far {w : World} {base base' : Nat} {e e' : TypeId} {size size' n n' : Nat} {v v' : Value} {xs xs' : List Value} (h : w.ownsRow base e size v n xs) (h' : w.ownsRow base' e' size' v' n' xs') (hne : e ≠ e') : ∀ k, v.ownBlock = some k → v'.ownBlock ≠ some k := by
  rcases h.2 with ⟨rfl, _⟩ | ⟨g, cap, cur, rfl, _, hh, _⟩
  · intro k hk
    simp [Value.ownBlock] at hk
  · intro k hk
    have hg : g = k := by simpa [Value.ownBlock] using hk
    subst hg
    rcases h'.2 with ⟨rfl, _⟩ | ⟨g', cap', cur', rfl, _, hh', _⟩
    · simp [Value.ownBlock]
    · intro he
      have : g' = g := by simpa [Value.ownBlock] using he
      subst this
      rw [hh] at hh'
      injection hh' with hh'
      injection hh' with _ ht
      exact hne ht
structure GrpsI (B : Nat) (w : World) (v : Value) (gs : List GV) : Prop where
  own : w.ownsRow B 38 3 v gs.length (gvl gs)
  rows : ∀ i (hi : i < gs.length), w.ownsRow B 33 9 gs[i].sl gs[i].g.rows.length (rvl gs[i].g.rows)
  apart : ∀ i j (hi : i < gs.length) (hj : j < gs.length), i ≠ j → ∀ k, gs[i].sl.ownBlock = some k → gs[j].sl.ownBlock ≠ some k
section
variable {B : Nat} {w w' w7 : World} {v v' : Value} {gs : List GV}
theorem GrpsI.nil (B : Nat) (w : World) : GrpsI B w (.slice none 0 0) [] := ⟨World.ownsRow_nil _ _ _ _, fun i hi => absurd hi (Nat.not_lt_zero _), fun i j hi => absurd hi (Nat.not_lt_zero _)⟩
theorem GrpsI.ch {S : Nat → Prop} (h : GrpsI B w v gs) (c : Ch S w w') (hS : ∀ k, B ≤ k → ¬ S k) : GrpsI B w' v gs :=
  ⟨own_ch h.own c (fun k hk => hS k (h.own.lt k hk).1), fun i hi => own_ch (h.rows i hi) c (fun k hk => hS k ((h.rows i hi).lt k hk).1), h.apart⟩
theorem GrpsI.tr (h : GrpsI B w v gs) (c : Nx w w') : GrpsI B w' v gs := h.ch c fun _ _ hf => hf
/-- a group without rows appended -/
theorem GrpsI.push (h : GrpsI B w v gs) {q : Int} {p : ByteArray} (o : w7.ownsRow B 38 3 v' (gs.length + 1) (gvl gs ++ gvl [⟨⟨q, p, []⟩, none, 0⟩])) (c : Ch (fun k => v.ownBlock = some k) w w7) : GrpsI B w7 v' (gs ++ [⟨⟨q, p, []⟩, none, 0⟩]) := by
  refine ⟨by rw [List.length_append, List.length_singleton, show gvl (gs ++ [⟨⟨q, p, []⟩, none, 0⟩]) = gvl gs ++ gvl [⟨⟨q, p, []⟩, none, 0⟩] by simp [gvl]]; exact o, fun i hi => ?_, fun i j hi hj hne k hk => ?_⟩
  · rcases Nat.lt_or_ge i gs.length with hl | hl
    · rw [List.getElem_append_left hl]
      exact own_ch (h.rows i hl) c (fun k hk => own_far (h.rows i hl) h.own (by decide) k hk)
    · have : i = gs.length := by rw [List.length_append, List.length_singleton] at hi; omega
      subst this
      have e : (gs ++ [(⟨⟨q, p, []⟩, none, 0⟩ : GV)])[gs.length]'hi = ⟨⟨q, p, []⟩, none, 0⟩ := by simp
      rw [e]
      exact World.ownsRow_nil _ _ _ _
  · rw [List.length_append, List.length_singleton] at hi hj
    rcases Nat.lt_or_ge i gs.length with hl | hl
    · rw [List.getElem_append_left hl] at hk
      rcases Nat.lt_or_ge j gs.length with hl2 | hl2
      · rw [List.getElem_append_left hl2]
        exact h.apart i j hl hl2 hne k hk
      · have : j = gs.length := by omega
        subst this
        have e : (gs ++ [(⟨⟨q, p, []⟩, none, 0⟩ : GV)])[gs.length]'(by simp) = ⟨⟨q, p, []⟩, none, 0⟩ := by simp
        rw [e]
        simp [GV.sl, Value.ownBlock]
    · exfalso
      have : i = gs.length := by omega
      subst this
      have e : (gs ++ [(⟨⟨q, p, []⟩, none, 0⟩ : GV)])[gs.length]'(by simp) = ⟨⟨q, p, []⟩, none, 0⟩ := by simp
      rw [e] at hk
      simp [GV.sl, Value.ownBlock] at hk
/-- a group with one row more -/
def GV.add (x : GV) (y : RV) (A : Option Addr) (c : Nat) : GV := ⟨x.g.add y, A, c⟩
theorem gvl_setc : ∀ {gs : List GV} {n : Nat} (hn : n < gs.length) (z : GV) (u : Value), z.cs = [.int .i64 gs[n].g.win, .string gs[n].g.part, u] → gvl (gs.set n z) = (gvl gs).set (n * 3 + 2) u
  | x :: gs, 0, _, z, u, hz => by
    show z.cs ++ gvl gs = (x.cs ++ gvl gs).set 2 u
    rw [hz]
    rfl
  | x :: gs, n + 1, hn, z, u, hz => by
    have ih := gvl_setc (gs := gs) (n := n) (by simpa using hn) z u hz
    show x.cs ++ gvl (gs.set n z) = (x.cs ++ gvl gs).set ((n + 1) * 3 + 2) u
    rw [ih, List.set_append, if_neg (by rw [GV.cs_len]; omega)]
    congr 2
    rw [GV.cs_len]
    omega
theorem gvl_set {n : Nat} (hn : n < gs.length) (y : RV) (A : Option Addr) (c : Nat) : gvl (gs.set n (gs[n].add y A c)) = (gvl gs).set (n * 3 + 2) (.slice A (gs[n].g.rows.length + 1) c) := by
  refine gvl_setc hn _ _ ?_
  show [Value.int .i64 gs[n].g.win, .string gs[n].g.part, .slice A (gs[n].g.rows ++ [y]).length c] = _
  rw [List.length_append, List.length_singleton]
theorem GrpsI.add {g c0 : Nat} (h : GrpsI B w (.slice (some ⟨g, 0, none⟩) gs.length c0) gs) {n : Nat} (hn : n < gs.length) {y : RV} {A : Option Addr} {c : Nat} (o : w7.ownsRow B 33 9 (.slice A (gs[n].g.rows.length + 1) c) (gs[n].g.rows.length + 1) (rvl gs[n].g.rows ++ rvl [y]))
    (ch : Ch (fun k => gs[n].sl.ownBlock = some k) w w7) (hat : (Value.slice A (gs[n].g.rows.length + 1) c).ownBlock = gs[n].sl.ownBlock ∨ ∃ k, (Value.slice A (gs[n].g.rows.length + 1) c).ownBlock = some k ∧ w.heap.size ≤ k) :
    GrpsI B (w7.setCell ⟨g, n * 3 + 2, none⟩ (.slice A (gs[n].g.rows.length + 1) c)) (.slice (some ⟨g, 0, none⟩) gs.length c0) (gs.set n (gs[n].add y A c)) := by
  have o7 : w7.ownsRow B 38 3 (.slice (some ⟨g, 0, none⟩) gs.length c0) gs.length (gvl gs) := own_ch h.own ch (fun k hk => own_far h.own (h.rows n hn) (by decide) k hk)
  have r7 : ∀ i (hi : i < gs.length), i ≠ n → w7.ownsRow B 33 9 gs[i].sl gs[i].g.rows.length (rvl gs[i].g.rows) := fun i hi hne => own_ch (h.rows i hi) ch (fun k hk => h.apart i n hi hn hne k hk)
  have cs : Ch (fun k => k = g) w7 (w7.setCell ⟨g, n * 3 + 2, none⟩ (.slice A (gs[n].g.rows.length + 1) c)) := Ch.setCell (Ch.refl (fun k => k = g) w7) (p := ⟨g, n * 3 + 2, none⟩) (fun _ => rfl) _
  refine ⟨?_, fun i hi => ?_, fun i j hi hj hne k hk => ?_⟩
  · rw [List.length_set, gvl_set hn]
    exact (o7.stored _ _).1
  · rw [List.length_set] at hi
    rw [List.getElem_set]
    split
    · next e =>
      subst e
      have h1 : (gs[n].add y A c).g.rows = gs[n].g.rows ++ [y] := rfl
      have h2 : (gs[n].add y A c).sl = .slice A (gs[n].g.rows.length + 1) c := by
        unfold GV.sl
        rw [h1, List.length_append, List.length_singleton]
        rfl
      rw [h2, h1, List.length_append, List.length_singleton, show rvl (gs[n].g.rows ++ [y]) = rvl gs[n].g.rows ++ rvl [y] by simp [rvl]]
      exact own_ch o cs (fun k hk e => own_far o o7 (by decide) k hk (by rw [e]; rfl))
    · next e => exact own_ch (r7 i hi (fun e2 => e e2.symm)) cs (fun k hk e2 => own_far (r7 i hi (fun e2 => e e2.symm)) o7 (by decide) k hk (by rw [e2]; rfl))
  · rw [List.length_set] at hi hj
    have key : ∀ i (hi : i < gs.length), i ≠ n → ∀ k, (Value.slice A (gs[n].g.rows.length + 1) c).ownBlock = some k → gs[i].sl.ownBlock ≠ some k := by
      intro i hi hne k hk e
      rcases hat with hh | ⟨k2, hk2, hge⟩
      · rw [hh] at hk
        exact h.apart i n hi hn hne k e hk
      · rw [hk2] at hk
        injection hk with hk
        subst hk
        have := ((h.rows i hi).lt _ e).2
        omega
    have h2 : (gs[n].add y A c).sl = .slice A (gs[n].g.rows.length + 1) c := by
      unfold GV.sl
      have h1 : (gs[n].add y A c).g.rows = gs[n].g.rows ++ [y] := rfl
      rw [h1, List.length_append, List.length_singleton]
      rfl
    rw [List.getElem_set] at hk ⊢
    by_cases e1 : n = i
    · rw [if_pos e1] at hk
      subst e1
      rw [if_neg hne]
      rw [h2] at hk
      exact key j hj (fun e => hne e.symm) k hk
    · rw [if_neg e1] at hk
      by_cases e2 : n = j
      · subst e2
        rw [if_pos rfl, h2]
        intro e
        exact key i hi (fun e => e1 e.symm) k e hk
      · rw [if_neg e2]
        exact h.apart i j hi hj hne k hk
end
end Go.Proofs.Ytihocfdnkongkaa
