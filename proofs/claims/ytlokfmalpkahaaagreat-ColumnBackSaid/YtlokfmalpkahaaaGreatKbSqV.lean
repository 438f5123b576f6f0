/- squeeze.Tokens in memory: its box, its map, the tokens that came out, the token under way. Conditions: none. -/
import Derived.Test.YtlokfmalpkahaaaGreatKbQ4
namespace Go.Proofs.YtlokfmalpkahaaaGreat
set_option maxRecDepth 100000
open Go.RowKit Go.WideMaps Go.Maps Go.ChangeShapes
set_option linter.unusedVariables false
def tokCs (t : Tok) : List Value := [.int .i64 (t.len : Int), .int .i64 (t.dist : Int), .int .u8 (t.byte : Int)]
def tcl (l : List Tok) : List Value := l.flatMap tokCs
theorem tcl_app (a b : List Tok) : tcl (a ++ b) = tcl a ++ tcl b := by simp [tcl]
theorem tcl_one (t : Tok) : tcl [t] = tokCs t := by simp [tcl]
theorem Nx.gr {w w' : World} (h : Nx w w') : w.grownBy w' none := ⟨h.os, h.tape, h.output, h.size, fun k hk _ => h.block_ hk⟩
theorem Ch.gr {w w' : World} {b : Nat} (h : Ch (fun k => k = b) w w') : w.grownBy w' (some b) := ⟨h.os, h.tape, h.output, h.size, fun k hk hn => h.block k hk fun e => hn (by rw [e])⟩
/-- Z: blocks besides that no row of the map's is -/
structure TokM (W w : World) (A : Option Addr) (c : Nat) (xs : List Nat) (q : Nat) (o : List Tok) (v : Value) (Z : Nat → Prop) : Prop where
  nx : Nx W w
  box : w.cell? ⟨W.heap.size, 0, none⟩ = some (.slice A xs.length c)
  grp : ∃ (D : DataW Unit) (N : Nat), w.ownsGroups Tryz.prog 159 (W.heap.size + 2) 3 .i64 (W.heap.size + 1) N D ∧ Reads D xs q ∧ N ≤ q
  own : w.ownsRow (W.heap.size + 2) 129 3 v o.length (tcl o)
  shun : w.Shuns (W.heap.size + 1) (fun g => v.ownBlock = some g ∨ Z g)
  size : W.heap.size + 2 ≤ w.heap.size
  zb : ∀ g, Z g → W.heap.size + 2 ≤ g ∧ g < w.heap.size ∧ v.ownBlock ≠ some g
section
variable {W w w' : World} {A : Option Addr} {c : Nat} {xs : List Nat} {q : Nat} {o : List Tok} {v : Value} {Z : Nat → Prop}
theorem TokM.more (m : TokM W w A c xs q o v Z) (n : Nx w w') : TokM W w' A c xs q o v Z := by
  obtain ⟨D, N, g1, g2, g3⟩ := m.grp
  have hs := n.size
  have hs2 := m.size
  refine ⟨m.nx.tr n, ?_, ⟨D, N, g1.kept n.gr (by simp) (m.shun.rowsOff fun j hj => by cases hj), g2, g3⟩, own_ch m.own n (fun _ _ hf => hf), m.shun.kept n.gr (by omega) (by simp), by omega, fun g hg => ?_⟩
  · rw [n.cell (by show W.heap.size < w.heap.size; omega)]; exact m.box
  · have := m.zb g hg; exact ⟨this.1, by omega, this.2.2⟩
theorem TokM.side {b : Nat} (m : TokM W w A c xs q o v Z) (n : Ch (fun k => k = b) w w') (hb : Z b) : TokM W w' A c xs q o v Z := by
  obtain ⟨D, N, g1, g2, g3⟩ := m.grp
  have hs := n.size
  have hs2 := m.size
  have hz := m.zb b hb
  refine ⟨m.nx.trans n fun i hi e => by omega, ?_, ⟨D, N, g1.kept n.gr (by simp; omega) (m.shun.rowsOff fun j hj => by injection hj with hj; exact .inr (by rw [← hj]; exact hb)), g2, g3⟩, own_ch m.own n (fun k hk e => hz.2.2 (by rw [hk, e])), m.shun.kept n.gr (by omega) (by simp; omega), by omega, fun g hg => ?_⟩
  · rw [n.cell (by show W.heap.size < w.heap.size; omega) (by show ¬ W.heap.size = b; omega)]; exact m.box
  · have := m.zb g hg; exact ⟨this.1, by omega, this.2.2⟩
/-- a block of its own is made -/
theorem TokM.with_ (m : TokM W w A c xs q o v (fun _ => False)) (ob : Obj) : TokM W (w.alloc ob) A c xs q o v (fun g => g = w.heap.size) := by
  have m1 := m.more ((Ch.refl _ w).alloc ob)
  obtain ⟨D, N, g1, g2, g3⟩ := m.grp
  have hs2 := m.size
  have hsz : (w.alloc ob).heap.size = w.heap.size + 1 := by simp
  refine ⟨m1.nx, m1.box, m1.grp, m1.own, ?_, m1.size, fun g hg => ?_⟩
  · refine Go.World.Shuns.kept (row := none) (m.shun.reno g1 (No' := fun g => v.ownBlock = some g ∨ g = w.heap.size) fun g hg => ?_) (Nx.gr ((Ch.refl _ w).alloc ob)) (by omega) (by simp)
    rcases hg with hg | hg
    · exact .inl (.inl hg)
    · exact .inr (by omega)
  · have hg : g = w.heap.size := hg
    refine ⟨by omega, by omega, fun e => ?_⟩
    have := (m.own.lt g e).2
    omega
theorem TokM.reads (m : TokM W w A c xs q o v Z) (hq : ¬ q + 2 < xs.length) : TokM W w A c xs (q + 1) o v Z := by
  obtain ⟨D, N, g1, g2, g3⟩ := m.grp
  exact ⟨m.nx, m.box, ⟨D, N, g1, g2.skip hq, by omega⟩, m.own, m.shun, m.size, m.zb⟩
/-- one token more has come out -/
theorem TokM.push {w1 : World} {b : Nat} {t : Tok} {v' : Value} (m : TokM W w A c xs q o v (fun g => g = b)) (n : Nx w w1) (h2 : w'.ownsRow (W.heap.size + 2) 129 3 v' (o.length + 1) (tcl o ++ tokCs t))
    (h3 : w1.grownBy w' v.ownBlock) (h4 : v'.ownBlock = v.ownBlock ∨ v'.ownBlock = some w1.heap.size) : TokM W w' A c xs q (o ++ [t]) v' (fun _ => False) := by
  have m1 := m.more n
  obtain ⟨D, N, g1, g2, g3⟩ := m1.grp
  have hs2 := m1.size
  have hs3 := h3.size
  have hsh : w'.Shuns (W.heap.size + 1) (fun g => v.ownBlock = some g ∨ g = b) := m1.shun.kept h3 (by omega) (fun e => by have := (m1.own.lt _ e.symm).1; omega)
  have hg' : w'.ownsGroups Tryz.prog 159 (W.heap.size + 2) 3 .i64 (W.heap.size + 1) N D := g1.kept h3 (fun e => by have := (m1.own.lt _ e.symm).1; omega) (m1.shun.rowsOff fun j hj => .inl hj)
  have hsh1 : w1.Shuns (W.heap.size + 1) (fun g => v'.ownBlock = some g ∨ False) := m1.shun.reno g1 fun g hg => by
    rcases hg with hg | hg
    · rcases h4 with e | e
      · exact .inl (.inl (by rw [← e]; exact hg))
      · rw [e] at hg; injection hg with hg; exact .inr (by omega)
    · exact hg.elim
  refine ⟨m1.nx.grown h3 fun k hk hlt => by have := (m1.own.lt k hk).1; omega, ?_, ⟨D, N, hg', g2, g3⟩, ?_, hsh1.kept h3 (by omega) (fun e => by have := (m1.own.lt _ e.symm).1; omega), by omega, fun g hg => hg.elim⟩
  · have : w'.heap[W.heap.size]? = w1.heap[W.heap.size]? := h3.block _ (by omega) (fun e => by have := (m1.own.lt _ e.symm).1; omega)
    rw [World.cell?_of_block (a := ⟨W.heap.size, 0, none⟩) this]; exact m1.box
  · rw [List.length_append, tcl_app, tcl_one]; exact h2
/-- a place more has been laid into the map; w0: where the map was looked up, w1: behind the append, w2: behind the store -/
theorem TokM.laid {w0 w1 w2 : World} {u v' : Value} {zs : List Int} {D : DataW Unit} {N : Nat} (m : TokM W w0 A c xs q o v Z) (ok : okB xs) (hq : q + 2 < xs.length) (hr : Reads D xs q) (hN : N ≤ q)
    (hzs : zs = zl (placesF xs q (keyF xs q))) (hu : ∀ No : Nat → Prop, w0.Shuns (W.heap.size + 1) No → ∀ g, u.ownBlock = some g → ¬ No g) (hub : ∀ g, u.ownBlock = some g → W.heap.size + 2 ≤ g)
    (h1 : w0.grownBy w1 u.ownBlock) (hoi : w1.ownsInts (W.heap.size + 2) 3 .i64 v' (zs ++ [(q : Int)]))
    (h2 : w2.ownsGroups Tryz.prog 159 (W.heap.size + 2) 3 .i64 (W.heap.size + 1) (N + 1) (D.put (kL (keyF xs q)) (rowDatum .i64 v' (zs ++ [(q : Int)])))) (h3 : w1.grownBy w2 (some (W.heap.size + 1)))
    (h4 : w2.Shuns (W.heap.size + 1) (fun g => v.ownBlock = some g ∨ Z g)) : TokM W w2 A c xs (q + 1) o v Z := by
  have hs0 := m.size
  have hs1 := h1.size
  have hs2 := h3.size
  have hsh := hu _ m.shun
  have key : ∀ k, k < w0.heap.size → u.ownBlock ≠ some k → k ≠ W.heap.size + 1 → w2.heap[k]? = w0.heap[k]? := fun k hk hn hn2 =>
    (h3.block k (by omega) (fun e => hn2 (by injection e))).trans (h1.block k hk (fun e => hn e.symm))
  refine ⟨?_, ?_, ⟨_, N + 1, h2, hr.put ok hq (by rw [hoi.datum_pos (by simp), hzs]), by omega⟩, ?_, h4, by omega, fun g hg => by have := m.zb g hg; exact ⟨this.1, by omega, this.2.2⟩⟩
  · have c1 := m.nx.grown h1 fun k hk hlt => by have := hub k hk; omega
    exact c1.grown h3 fun k hk hlt => by injection hk with hk; omega
  · rw [World.cell?_of_block (a := ⟨W.heap.size, 0, none⟩) (key W.heap.size (by omega) (fun e => by have := hub _ e; omega) (by omega))]; exact m.box
  · refine (m.own.kept h1 ?_).kept h3 ?_
    · cases hv : v.ownBlock with
      | none => exact .inl rfl
      | some g => exact .inr fun e => hsh g e.symm (.inl hv)
    · cases hv : v.ownBlock with
      | none => exact .inl rfl
      | some g => exact .inr fun e => by injection e with e; have := (m.own.lt g hv).1; omega
end
theorem set_blk3 {w : World} {b : Nat} {t : TypeId} {x0 x1 x2 : Value} (h : Blk w b t #[x0, x1, x2]) (v0 v1 v2 : Value) : Blk (((w.setCell ⟨b, 0, none⟩ v0).setCell ⟨b, 1, none⟩ v1).setCell ⟨b, 2, none⟩ v2) b t #[v0, v1, v2] := by
  have h1 : Blk (w.setCell ⟨b, 0, none⟩ v0) b t #[v0, x1, x2] := h.set_ 0 v0
  have h2 := h1.set_ 1 v1
  have h3 := h2.set_ 2 v2
  exact h3
theorem set_ch3 (w : World) (b : Nat) (v0 v1 v2 : Value) : Ch (fun k => k = b) w (((w.setCell ⟨b, 0, none⟩ v0).setCell ⟨b, 1, none⟩ v1).setCell ⟨b, 2, none⟩ v2) := by
  have c0 : Ch (fun k => k = b) w w := Ch.refl _ w
  have c1 := Ch.setCell c0 (p := ⟨b, 0, none⟩) (fun _ => rfl) v0
  have c2 := Ch.setCell c1 (p := ⟨b, 1, none⟩) (fun _ => rfl) v1
  have c3 := Ch.setCell c2 (p := ⟨b, 2, none⟩) (fun _ => rfl) v2
  exact c3
end Go.Proofs.YtlokfmalpkahaaaGreat
