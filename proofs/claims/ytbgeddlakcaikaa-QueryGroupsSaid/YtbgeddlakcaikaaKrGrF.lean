/- The law's index, built by two loops of appends into a struct in a cell. Conditions: none. -/
import Derived.Test.YtbgeddlakcaikaaKrGrD
import Derived.Test.YtbgeddlakcaikaaKrGrE
namespace Go.Proofs.Ytbgeddlakcaikaa
set_option maxRecDepth 100000
open Go.RowKit
set_option linter.unusedVariables false
theorem Try.infoSpan11 : (Try.prog.info? 37).map (fun i => (i.zero, i.size, i.bytes)) = some (some (.agg #[.int .i64 0, .int .i64 0, .int .i64 0, .int .i64 0, .int .i64 0]), 5, 40) := by kernel_rfl
theorem Try.infoPost11 : (Try.prog.info? 41).map (fun i => (i.zero, i.size, i.bytes)) = some (some (.agg #[.string ⟨#[]⟩, .slice none 0 0]), 2, 40) := by kernel_rfl
theorem spl_one (l : List SpanE) : ∀ u ∈ spl l, u.oneCell' = true := by
  intro u hu
  obtain ⟨x, _, hx⟩ := List.mem_flatMap.1 hu
  simp [SpanE.cs] at hx
  rcases hx with rfl | rfl | rfl | rfl | rfl <;> rfl
theorem pvl_one (l : List PV) : ∀ u ∈ pvl l, u.oneCell' = true := by
  intro u hu
  obtain ⟨x, _, hx⟩ := List.mem_flatMap.1 hu
  simp [PV.cs] at hx
  rcases hx with rfl | rfl <;> rfl
theorem Rd.lit5 (w : World) (x : SpanE) : Rd (w.alloc (.cells #[.int .i64 x.place, .int .i64 x.size, .int .i64 x.rows, .int .i64 x.lo, .int .i64 x.hi] 37)) (fun k => k = w.heap.size) 5 (some ⟨w.heap.size, 0, none⟩) 1 (spl [x]) :=
  ⟨rfl, fun _ => ⟨_, rfl, rfl, fun j u hu => World.news_of_block (Blk.new w 37 #[.int .i64 x.place, .int .i64 x.size, .int .i64 x.rows, .int .i64 x.lo, .int .i64 x.hi]) j u (by simpa [spl, SpanE.cs] using hu)⟩⟩
theorem Rd.lit2p (w : World) (x : PV) : Rd (w.alloc (.cells #[.string x.text, .slice x.A x.gs.length x.c] 41)) (fun k => k = w.heap.size) 2 (some ⟨w.heap.size, 0, none⟩) 1 (pvl [x]) :=
  ⟨rfl, fun _ => ⟨_, rfl, rfl, fun j u hu => World.news_of_block (Blk.new w 41 #[.string x.text, .slice x.A x.gs.length x.c]) j u (by simpa [pvl, PV.cs] using hu)⟩⟩
/-- two owned rows of unlike elements lie apart -/
theorem own_apart {w : World} {base base' : Nat} {e e' : TypeId} {size size' n n' : Nat} {v v' : Value} {xs xs' : List Value} (h : w.ownsRow base e size v n xs) (h' : w.ownsRow base' e' size' v' n' xs') (hne : e ≠ e') : ∀ k, v.ownBlock = some k → v'.ownBlock ≠ some k := by
  rcases h.2 with ⟨rfl, _⟩ | ⟨g, cap, cur, rfl, _, hh, _⟩
  · intro k hk
    simp [Value.ownBlock] at hk
  · intro k hk
    have hg : g = k := by simpa [Value.ownBlock] using hk
    subst hg
    rcases h'.2 with ⟨rfl, _⟩ | ⟨g', cap', cur', rfl, _, hh', _⟩
    · simp [Value.ownBlock]
    · intro he
      have : g' = g := by simpa [Value.ownBlock] using he
      subst this
      rw [hh] at hh'
      injection hh' with hh'
      injection hh' with _ ht
      exact hne ht
/-- the index in block g, and what it has so far -/
structure IdxI (W w : World) (v1 v2 : Value) (l : List SpanE) (m : List PV) : Prop where
  blk : Blk w W.heap.size 34 #[v1, v2]
  own1 : OwnS W w 37 5 v1 l.length (spl l)
  own2 : OwnS W w 41 2 v2 m.length (pvl m)
section
variable {W w w7 : World} {v1 v2 v' : Value} {l : List SpanE} {m : List PV}
theorem IdxI.tr (h : IdxI W w v1 v2 l m) (c : Nx w w7) : IdxI W w7 v1 v2 l m := ⟨h.blk.nx c, h.own1.tr c, h.own2.tr c⟩
theorem IdxI.init (W : World) : IdxI W (W.alloc (.cells #[.slice none 0 0, .slice none 0 0] 34)) (.slice none 0 0) (.slice none 0 0) [] [] :=
  ⟨Blk.new .., OwnS.nil W _ _ 5 ((Ch.refl _ W).alloc _), OwnS.nil W _ _ 2 ((Ch.refl _ W).alloc _)⟩
theorem IdxI.ne1 (h : IdxI W w v1 v2 l m) : v1.ownBlock ≠ some W.heap.size := own_blk_ne h.own1.own h.blk (by decide)
theorem IdxI.ne2 (h : IdxI W w v1 v2 l m) : v2.ownBlock ≠ some W.heap.size := own_blk_ne h.own2.own h.blk (by decide)
theorem IdxI.mid1 (h : IdxI W w v1 v2 l m) (mv : Moved w w7 v1 v') : Blk w7 W.heap.size 34 #[v1, v2] := h.blk.ch mv.ch h.ne1
theorem IdxI.mid2 (h : IdxI W w v1 v2 l m) (mv : Moved w w7 v2 v') : Blk w7 W.heap.size 34 #[v1, v2] := h.blk.ch mv.ch h.ne2
theorem IdxI.push1 (h : IdxI W w v1 v2 l m) {x : SpanE} (o : OwnS W w7 37 5 v' (l.length + 1) (spl l ++ spl [x])) (mv : Moved w w7 v1 v') : IdxI W (w7.setCell ⟨W.heap.size, 0, none⟩ v') v' v2 (l ++ [x]) m := by
  have b7 := h.mid1 mv
  have o2 : OwnS W w7 41 2 v2 m.length (pvl m) := h.own2.ch mv.ch (fun k hk => own_apart h.own2.own h.own1.own (by decide) k hk) (fun i hi e => by have := (h.own1.lt i e).1; omega)
  have c : Ch (fun k => k = W.heap.size) w7 (w7.setCell ⟨W.heap.size, 0, none⟩ v') := Ch.setCell (Ch.refl (fun k => k = W.heap.size) w7) (p := ⟨W.heap.size, 0, none⟩) (fun _ => rfl) v'
  have n1 := own_blk_ne o.own b7 (by decide)
  have n2 := own_blk_ne o2.own b7 (by decide)
  refine ⟨b7.set_ 0 v', ?_, o2.ch c (fun k hk e => n2 (by rw [hk, e])) (fun i hi e => by omega)⟩
  rw [List.length_append, List.length_singleton, show spl (l ++ [x]) = spl l ++ spl [x] by simp [spl]]
  exact o.ch c (fun k hk e => n1 (by rw [hk, e])) (fun i hi e => by omega)
theorem IdxI.push2 (h : IdxI W w v1 v2 l m) {x : PV} (o : OwnS W w7 41 2 v' (m.length + 1) (pvl m ++ pvl [x])) (mv : Moved w w7 v2 v') : IdxI W (w7.setCell ⟨W.heap.size, 1, none⟩ v') v1 v' l (m ++ [x]) := by
  have b7 := h.mid2 mv
  have o2 : OwnS W w7 37 5 v1 l.length (spl l) := h.own1.ch mv.ch (fun k hk => own_apart h.own1.own h.own2.own (by decide) k hk) (fun i hi e => by have := (h.own2.lt i e).1; omega)
  have c : Ch (fun k => k = W.heap.size) w7 (w7.setCell ⟨W.heap.size, 1, none⟩ v') := Ch.setCell (Ch.refl (fun k => k = W.heap.size) w7) (p := ⟨W.heap.size, 1, none⟩) (fun _ => rfl) v'
  have n1 := own_blk_ne o.own b7 (by decide)
  have n2 := own_blk_ne o2.own b7 (by decide)
  refine ⟨b7.set_ 1 v', o2.ch c (fun k hk e => n2 (by rw [hk, e])) (fun i hi e => by omega), ?_⟩
  rw [List.length_append, List.length_singleton, show pvl (m ++ [x]) = pvl m ++ pvl [x] by simp [pvl]]
  exact o.ch c (fun k hk e => n1 (by rw [hk, e])) (fun i hi e => by omega)
end
end Go.Proofs.Ytbgeddlakcaikaa
