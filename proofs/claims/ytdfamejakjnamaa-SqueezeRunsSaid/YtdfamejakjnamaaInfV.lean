/- inflate's lengths: what its list and the third table are in memory. Conditions: none. -/
import Derived.Test.YtdfamejakjnamaaInf4
import Derived.Test.YtdfamejakjnamaaInfC
import Derived.Test.YtdfamejakjnamaaPlainL
namespace Go.Proofs.Ytdfamejakjnamaa
open Go.RowKit
set_option linter.unusedVariables false
section
variable {K0 : Nat → Prop} {B : Nat} {W w w' : World} {r g h t : Nat} {bs : List Nat} {most : Int} {s s' : Inf} {v : Value} {l zt : List Int} {Dt : Nat → Prop}
/-- a call of the reader's: K0 is what the whole call leaves alone -/
structure LenV (K0 : Nat → Prop) (B : Nat) (W w : World) (r g h : Nat) (bs : List Nat) (most : Int) (Dt : Nat → Prop) (t : Nat) (zt : List Int) (s : Inf) (v : Value) (l : List Int) : Prop where
  base : W.heap.size ≤ B
  size : B ≤ w.heap.size
  kh : K0 h
  lo : ∀ k, K0 k → k < W.heap.size
  own : w.ownsRow B 3 1 v l.length (il l)
  inf : InfIs (fun k => (K0 k ∨ Dt k) ∨ v.ownBlock = some k) w r g h bs most s
  ch : Ch (fun k => ¬ K0 k) W w
  tbl : TblIs w Dt t zt
  dt : ∀ k, Dt k → W.heap.size ≤ k ∧ k < B
theorem LenV.to (m : LenV K0 B W w r g h bs most Dt t zt s v l) (k : InfTo (fun k => (K0 k ∨ Dt k) ∨ v.ownBlock = some k) w r g h bs most s' w') : LenV K0 B W w' r g h bs most Dt t zt s' v l := by
  obtain ⟨k1, k2⟩ := k
  have hs := k2.size
  have hs2 := m.size
  exact ⟨m.base, by omega, m.kh, m.lo, own_ch m.own k2 (fun k hk hn => hn (.inr hk)), k1, m.ch.trans k2 (fun i _ hn hk => hn (.inl (.inl hk))), m.tbl.ch k2 (fun k hk hn => hn (.inl (.inr hk))), m.dt⟩
theorem LenV.nx (m : LenV K0 B W w r g h bs most Dt t zt s v l) (k : Nx w w') : LenV K0 B W w' r g h bs most Dt t zt s v l :=
  m.to ⟨m.inf.nx k, k.mono fun _ _ hf => hf.elim⟩
theorem LenV.app (m : LenV K0 B W w r g h bs most Dt t zt s v l) {o : Obj} {v' : Value} {x : Int} (h2 : w'.ownsRow B 3 1 v' (l.length + 1) (il l ++ [.int .i64 x]))
    (h3 : (w.alloc o).grownBy w' v.ownBlock) (h4 : v'.ownBlock = v.ownBlock ∨ v'.ownBlock = some (w.alloc o).heap.size) : LenV K0 B W w' r g h bs most Dt t zt s v' (l ++ [x]) := by
  have hc : Ch (fun k => v.ownBlock = some k) w w' := ((Ch.refl _ w).alloc o).grown h3 fun k hk _ => hk
  have hsz := hc.size
  have hal : (w.alloc o).heap.size = w.heap.size + 1 := by simp
  have hvB : ∀ k, v.ownBlock = some k → B ≤ k ∧ k < w.heap.size := fun k hk => m.own.lt k hk
  have hv'B : ∀ k, v'.ownBlock = some k → B ≤ k ∧ k < w'.heap.size := fun k hk => h2.lt k hk
  have hb := m.base
  have hsz2 := m.size
  obtain ⟨vo, n⟩ := m.inf
  have hr := n.blk.lt
  have hg := n.rdr.lt
  have hlh := m.lo h m.kh
  refine ⟨m.base, by omega, m.kh, m.lo, ?_, ⟨vo, ?_⟩, m.ch.trans hc (fun i hi hk => ?_), m.tbl.ch hc (fun k hk hn => ?_), m.dt⟩
  · have e : (l ++ [x]).length = l.length + 1 := by simp
    have e2 : il (l ++ [x]) = il l ++ [.int .i64 x] := by simp [il]
    rw [e, e2]; exact h2
  · refine ⟨n.blk.ch hc (fun e => (n.far r (.inr e)).2.1 rfl), n.rdr.ch hc (fun e => (n.far g (.inr e)).2.2.1 rfl) (fun e => by have := hvB h e; omega), own_ch n.own hc (fun k hk e => (n.far k (.inr e)).2.2.2 hk), n.okb, .inl (.inl m.kh), fun k hk => ?_⟩
    rcases hk with hk | hk
    · have := n.far k (.inl hk)
      exact ⟨by omega, this.2⟩
    · have h5 := hv'B k hk
      rcases h4 with e | e
      · have := n.far k (.inr (by rw [← e]; exact hk))
        exact ⟨h5.2, this.2⟩
      · have hk2 : k = w.heap.size + 1 := by rw [e] at hk; injection hk with hk; omega
        exact ⟨h5.2, by omega, by omega, fun e => by have := (n.own.lt k e).2; omega⟩
  · have := hvB i hk; omega
  · have h5 := hvB k hn
    have h6 := m.dt k hk
    omega
theorem LenV.e_cell (m : LenV K0 B W w r g h bs most Dt t zt s v l) : w.cell? ⟨r, 3, none⟩ = some (.int .i64 s.e) := m.inf.e_cell
end
section
variable {K : Nat → Prop} {w w' : World} {r g h : Nat} {bs : List Nat} {most : Int} {s : Inf} {b : Nat}
/-- a block that it leaves alone has changed -/
theorem InfIs.side (m : InfIs K w r g h bs most s) (hc : Ch (fun k => k = b) w w') (hb : K b) (hn : h ≠ b) : InfIs K w' r g h bs most s := by
  obtain ⟨vo, m⟩ := m
  have hf := m.far b hb
  have hs := hc.size
  exact ⟨vo, m.blk.ch hc (fun e => hf.2.1 e.symm), m.rdr.ch hc (fun e => hf.2.2.1 e.symm) hn, own_ch m.own hc (fun k hk e => hf.2.2.2 (by rw [hk, e])), m.okb, m.kh, fun k hk => by have := m.far k hk; exact ⟨by omega, this.2⟩⟩
end
end Go.Proofs.Ytdfamejakjnamaa
