/- The memory of prefix.Table while Make works: the table's block, its slices. Conditions: none. -/
import Derived.Test.YtlokfmalpkahaaaGreatKrQ2
import Derived.Test.YtlokfmalpkahaaaGreatKrLaw
import Derived.Deep.RegionLaw
import Derived.Deep.DeepCutAuto
import Derived.Deep.DrawnRows
import Derived.Laws.MakeOwn
import Derived.BigRegion
namespace Go.Proofs.YtlokfmalpkahaaaGreat
set_option maxRecDepth 100000
open Go.RowKit
set_option linter.unusedVariables false

theorem Tryz.info3 : (Tryz.prog.info? 3).map (fun i => (i.zero, i.size, i.bytes)) = some (some (.int .i64 0), 1, 8) := by kernel_rfl
theorem Tryz.info27 : (Tryz.prog.info? 71).map (fun i => (i.zero, i.size, i.bytes)) = some (some (.int .u32 0), 1, 4) := by kernel_rfl
theorem run_make_rowN {P : Program} (t e : TypeId) (i : TypeInfo) (z : Value) (ht : P.underlying t = some (.slice e)) (hi : P.info? e = some i) (hz : i.zero = some z)
    (kl kc : IntKind) (n c : Nat) (hnc : n ≤ c) (hbytes : i.bytes * c ≤ 281474976710656) (h63 : c ≤ 9223372036854775807) (w : World) :
    (Instr.makeSlice t (.int kl (n : Int)) (.int kc (c : Int))).run P w = .ok (.slice (some ⟨w.heap.size, 0, none⟩) n c) (w.alloc (.cells (madeCells z.cells (c * i.size)) e)) := by
  have hb : (i.bytes : Int) * (c : Int) ≤ 281474976710656 := by
    have h : ((i.bytes * c : Nat) : Int) ≤ 281474976710656 := by omega
    rwa [Int.natCast_mul] at h
  have hr := run_make (P := P) w t e i z ht hi hz kl kc n c (by omega) (by omega) hb (by omega)
  simp only [Int.toNat_natCast] at hr
  exact hr

/-- wpList_app1 where the walk writes the heap's size B -/
theorem wpList_app1B {P : Program} {ops : Array Oper} {rest : List Oper} {o : Oper} {a : Act} {Q : Exit → Act → World → Prop} (B : Nat) {w : World} (hB : w.heap.size = B) (hgd : o.guard = none) (s x : Operand) (t : TypeId)
    (ho : o.op = .call { callee := .builtin .append, args := #[s, x], argTypes := #[t, t] })
    (e : TypeId) (i : TypeInfo) (z : Value) (bytes : Nat) (ht : P.underlying t = some (.slice e)) (hi : P.info? e = some i) (hz : i.zero = some z)
    (hsize : i.size = 1) (hby : i.bytes = bytes) (hzs : z.cells.size = 1)
    {W : World} {v : Value} {n : Nat} {xs : List Value} (u : Value) (hu : u.oneCell' = true) (hs : a.eval s = v) (hown : OwnS W w e 1 v n xs)
    (hx : a.eval x = .slice (some ⟨B, 0, none⟩) 1 1)
    (h63 : n + 1 ≤ maxLen) (hbytes : (n + 1) * bytes ≤ 140737488355328)
    (h : ∀ v' w', OwnS W w' e 1 v' (n + 1) (xs ++ [u]) → Moved w w' v v' → wpList P ops Q rest (a.put o.dst v') w') : wpList P ops Q (o :: rest) a (w.alloc (.cells #[u] e)) := by
  subst hB
  exact wpList_app1 hgd s x t ho e i z bytes ht hi hz hsize hby hzs u hu hs hown hx h63 hbytes h

theorem lit_app {W w0 w1 : World} {e : TypeId} {size n b : Nat} {v' : Value} {xs : List Value} (hnx : Nx W w0) (hb : W.heap.size ≤ b)
    (hown : w1.ownsRow W.heap.size e size v' (0 + n) ([] ++ xs)) (hg : w0.grownBy w1 (Value.ownBlock (.slice (some ⟨b, 0, none⟩) 0 0)))
    (hat : v'.ownBlock = Value.ownBlock (.slice (some ⟨b, 0, none⟩) 0 0) ∨ v'.ownBlock = some w0.heap.size) :
    ∃ k cap, v' = .slice (some ⟨k, 0, none⟩) n cap ∧ OwnS W w1 e size (.slice (some ⟨k, 0, none⟩) n cap) n xs ∧ Ch (fun i => i = b) w0 w1 := by
  have hc : Ch (fun i => i = b) w0 w1 := (Ch.refl _ w0).grown hg (fun k hk _ => by simpa [Value.ownBlock] using hk.symm)
  obtain ⟨k, hk⟩ : ∃ k, v'.ownBlock = some k := by
    rcases hat with e | e
    · exact ⟨_, e⟩
    · exact ⟨_, e⟩
  simp only [Nat.zero_add, List.nil_append] at hown
  obtain ⟨cap, hv, h1, h2⟩ := own_block_of hown hk
  subst hv
  exact ⟨k, cap, rfl, ⟨hown, hnx.trans hc fun i hi e => by omega⟩, hc⟩

/-- the table's cells: its slices, its counts -/
def tblCells (lv wv sv : Value) (cn : Nat → Int) : Array Value :=
  #[lv, wv, .int .i64 (cn 0), .int .i64 (cn 1), .int .i64 (cn 2), .int .i64 (cn 3), .int .i64 (cn 4), .int .i64 (cn 5), .int .i64 (cn 6), .int .i64 (cn 7), .int .i64 (cn 8), .int .i64 (cn 9), .int .i64 (cn 10), .int .i64 (cn 11), .int .i64 (cn 12), .int .i64 (cn 13), .int .i64 (cn 14), .int .i64 (cn 15), sv]
/-- the words' cells -/
def wl (ws : List Nat) : List Value := ws.map fun x : Nat => .int .u32 (x : Int)
/-- what Make holds while it works: the table in block t; its lengths are zs, its words ws, its counts cn, its symbols ss -/
structure Mk (W w : World) (t : Nat) (zs : List Int) (ws : List Nat) (cn : Nat → Int) (ss : List Int) (lv wv sv : Value) : Prop where
  blk : Blk w t 208 (tblCells lv wv sv cn)
  lo : W.heap.size ≤ t
  len : OwnS W w 3 1 lv zs.length (il zs)
  wrd : OwnS W w 71 1 wv ws.length (wl ws)
  srt : OwnS W w 3 1 sv ss.length (il ss)

theorem wl_rep (n : Nat) : (madeCells #[Value.int .u32 0] n).toList = wl (List.replicate n 0) := by
  rw [toList_madeCells_one]; simp [wl]
theorem own_made (W w : World) (n : Nat) (c : Nx W w) (hn : n ≤ maxLen) : OwnS W (w.alloc (.cells (madeCells #[.int .u32 0] n) 71)) 71 1 (.slice (some ⟨w.heap.size, 0, none⟩) (List.replicate n 0).length n) (List.replicate n 0).length (wl (List.replicate n 0)) := by
  rw [← wl_rep]
  have e : (List.replicate n 0).length = n := by simp
  rw [e]
  exact ⟨World.ownsRow_lit w _ n c.size hn (by simp [size_madeCells]), c.alloc _⟩


theorem tbl_cell (lv wv sv : Value) (cn : Nat → Int) (z : Nat) (hz : z < 16) : (tblCells lv wv sv cn)[2 + z]? = some (.int .i64 (cn z)) := by
  rcases (show z = 0 ∨ z = 1 ∨ z = 2 ∨ z = 3 ∨ z = 4 ∨ z = 5 ∨ z = 6 ∨ z = 7 ∨ z = 8 ∨ z = 9 ∨ z = 10 ∨ z = 11 ∨ z = 12 ∨ z = 13 ∨ z = 14 ∨ z = 15 by omega) with rfl | rfl | rfl | rfl | rfl | rfl | rfl | rfl | rfl | rfl | rfl | rfl | rfl | rfl | rfl | rfl <;> rfl
theorem tbl_set (lv wv sv : Value) (cn : Nat → Int) (z : Nat) (hz : z < 16) (v : Int) : (tblCells lv wv sv cn).setIfInBounds (2 + z) (.int .i64 v) = tblCells lv wv sv (fun m => if m = z then v else cn m) := by
  rcases (show z = 0 ∨ z = 1 ∨ z = 2 ∨ z = 3 ∨ z = 4 ∨ z = 5 ∨ z = 6 ∨ z = 7 ∨ z = 8 ∨ z = 9 ∨ z = 10 ∨ z = 11 ∨ z = 12 ∨ z = 13 ∨ z = 14 ∨ z = 15 by omega) with rfl | rfl | rfl | rfl | rfl | rfl | rfl | rfl | rfl | rfl | rfl | rfl | rfl | rfl | rfl | rfl <;> simp [tblCells]
theorem tbl_sorted (lv wv sv sv' : Value) (cn : Nat → Int) : (tblCells lv wv sv cn).setIfInBounds 18 sv' = tblCells lv wv sv' cn := by simp [tblCells]
theorem tbl_congr (lv wv sv : Value) {cn cn' : Nat → Int} (h : ∀ m, m < 16 → cn m = cn' m) : tblCells lv wv sv cn = tblCells lv wv sv cn' := by
  simp only [tblCells, h 0 (by omega), h 1 (by omega), h 2 (by omega), h 3 (by omega), h 4 (by omega), h 5 (by omega), h 6 (by omega), h 7 (by omega), h 8 (by omega), h 9 (by omega), h 10 (by omega), h 11 (by omega), h 12 (by omega), h 13 (by omega), h 14 (by omega), h 15 (by omega)]

theorem own_blk_far {w : World} {b : Nat} {e t : TypeId} {s n g : Nat} {v : Value} {xs : List Value} {cs : Array Value} (h : w.ownsRow b e s v n xs) (hb : Blk w g t cs) (hne : e ≠ t) : ∀ k, v.ownBlock = some k → k ≠ g := by
  rintro k hk rfl
  exact own_blk_ne h hb hne hk
theorem own_own_far {w : World} {b b' : Nat} {e e' : TypeId} {s s' n n' : Nat} {v v' : Value} {xs ys : List Value} (h : w.ownsRow b e s v n xs) (h' : w.ownsRow b' e' s' v' n' ys) (hne : e ≠ e') : ∀ k, v.ownBlock = some k → v'.ownBlock ≠ some k := by
  intro k hk
  rcases h.2 with ⟨rfl, _⟩ | ⟨g, cap, cur, rfl, _, hh, _⟩
  · simp [Value.ownBlock] at hk
  · simp [Value.ownBlock] at hk
    subst hk
    exact own_blk_ne h' hh (Ne.symm hne)

namespace Mk
variable {W w w' : World} {t : Nat} {zs ss : List Int} {ws : List Nat} {cn : Nat → Int} {lv wv sv : Value}
theorem congr_ {cn' : Nat → Int} (m : Mk W w t zs ws cn ss lv wv sv) (h : ∀ i, i < 16 → cn i = cn' i) : Mk W w t zs ws cn' ss lv wv sv :=
  ⟨by rw [← tbl_congr lv wv sv h]; exact m.blk, m.lo, m.len, m.wrd, m.srt⟩
/-- a store into the table's block -/
theorem setT (m : Mk W w t zs ws cn ss lv wv sv) (i : Nat) (v : Value) {lv' wv' sv' : Value} {cn' : Nat → Int} (h : (tblCells lv wv sv cn).setIfInBounds i v = tblCells lv wv sv cn') :
    Mk W (w.setCell ⟨t, i, none⟩ v) t zs ws cn' ss lv wv sv := by
  have hc : Ch (fun j => j = t) w (w.setCell ⟨t, i, none⟩ v) := Ch.setCell (S := fun j => j = t) (Ch.refl _ w) (p := ⟨t, i, none⟩) (fun _ => rfl) _
  have hlo := m.lo
  exact ⟨by rw [← h]; exact m.blk.set_ i v, m.lo, m.len.ch hc (own_blk_far m.len.own m.blk (by decide)) (fun j hj e => by omega),
    m.wrd.ch hc (own_blk_far m.wrd.own m.blk (by decide)) (fun j hj e => by omega), m.srt.ch hc (own_blk_far m.srt.own m.blk (by decide)) (fun j hj e => by omega)⟩
theorem count (m : Mk W w t zs ws cn ss lv wv sv) (z : Nat) (hz : z < 16) (v : Int) : Mk W (w.setCell ⟨t, 2 + z, none⟩ (.int .i64 v)) t zs ws (fun i => if i = z then v else cn i) ss lv wv sv :=
  m.setT (lv' := lv) (wv' := wv) (sv' := sv) (2 + z) _ (tbl_set lv wv sv cn z hz v)
theorem drewN (m : Mk W w t zs ws cn ss lv wv sv) (k : Nat) : Mk W (w.drewN k) t zs ws cn ss lv wv sv := ⟨m.blk, m.lo, m.len.drewN k, m.wrd.drewN k, m.srt.drewN k⟩
theorem tr (m : Mk W w t zs ws cn ss lv wv sv) (c : Nx w w') : Mk W w' t zs ws cn ss lv wv sv := ⟨m.blk.nx c, m.lo, m.len.tr c, m.wrd.tr c, m.srt.tr c⟩
/-- a word stored -/
theorem setW {kw c : Nat} (m : Mk W w t zs ws cn ss lv (.slice (some ⟨kw, 0, none⟩) ws.length c) sv) (s x : Nat) :
    Mk W (w.setCell ⟨kw, s, none⟩ (.int .u32 (x : Int))) t zs (ws.set s x) cn ss lv (.slice (some ⟨kw, 0, none⟩) ws.length c) sv := by
  have hc : Ch (fun j => j = kw) w (w.setCell ⟨kw, s, none⟩ (.int .u32 (x : Int))) := Ch.setCell (S := fun j => j = kw) (Ch.refl _ w) (p := ⟨kw, s, none⟩) (fun _ => rfl) _
  have hk := m.wrd.lt kw rfl
  have hkt : kw ≠ t := own_blk_far m.wrd.own m.blk (by decide) kw rfl
  have hW : ∀ i, i < W.heap.size → ¬ i = kw := fun i hi e => by omega
  have hst := (m.wrd.own.stored s (.int .u32 (x : Int))).1
  refine ⟨m.blk.ch hc (Ne.symm hkt), m.lo, m.len.ch hc (fun j hj e => ?_) hW, ⟨?_, m.wrd.nx.trans hc fun i hi e => hW i hi e⟩, m.srt.ch hc (fun j hj e => ?_) hW⟩
  · subst e
    exact own_own_far m.wrd.own m.len.own (by decide) j rfl hj
  · have e : (wl ws).set s (.int .u32 (x : Int)) = wl (ws.set s x) := by simp [wl, List.map_set]
    rw [e] at hst
    rw [List.length_set]
    exact hst
  · subst e
    exact own_own_far m.wrd.own m.srt.own (by decide) j rfl hj
/-- a symbol added -/
theorem addS {sv' : Value} {x : Int} (m : Mk W w t zs ws cn ss lv wv sv) (ha : ∀ k, sv.ownBlock = some k → lv.ownBlock ≠ some k) (ho : OwnS W w' 3 1 sv' (ss.length + 1) (il ss ++ [.int .i64 x])) (hm : Moved w w' sv sv') :
    Mk W (w'.setCell ⟨t, 18, none⟩ sv') t zs ws cn (ss ++ [x]) lv wv sv' ∧ ∀ k, sv'.ownBlock = some k → lv.ownBlock ≠ some k := by
  have hW : ∀ i, i < W.heap.size → ¬ sv.ownBlock = some i := fun i hi e => by have := m.srt.lt i e; omega
  have hb : Blk w' t 208 (tblCells lv wv sv cn) := m.blk.ch hm.ch (fun e => own_blk_far m.srt.own m.blk (by decide) t e rfl)
  have hc : Ch (fun j => j = t) w' (w'.setCell ⟨t, 18, none⟩ sv') := Ch.setCell (S := fun j => j = t) (Ch.refl _ w') (p := ⟨t, 18, none⟩) (fun _ => rfl) _
  have hlo := m.lo
  have hT : ∀ i, i < W.heap.size → ¬ i = t := fun i hi e => by omega
  have hl := m.len.ch hm.ch (fun k hk e => ha k e hk) hW
  have hw := m.wrd.ch hm.ch (fun k hk e => own_own_far m.wrd.own m.srt.own (by decide) k hk e) hW
  refine ⟨⟨?_, m.lo, hl.ch hc (own_blk_far hl.own hb (by decide)) hT, hw.ch hc (own_blk_far hw.own hb (by decide)) hT, ?_⟩, ?_⟩
  · rw [← tbl_sorted lv wv sv sv' cn]
    exact hb.set_ 18 sv'
  · have e : il (ss ++ [x]) = il ss ++ [.int .i64 x] := by simp [il]
    rw [e, show (ss ++ [x]).length = ss.length + 1 by simp]
    exact ho.ch hc (own_blk_far ho.own hb (by decide)) hT
  · intro k hk hk'
    rcases hm.at_ with e | ⟨k2, e, h2⟩
    · exact ha k (e ▸ hk) hk'
    · rw [e] at hk
      injection hk with hk
      have := (m.len.lt k hk').2
      omega
end Mk
theorem mk_fin {W w : World} {k kw cap n : Nat} {zs : List Int} (hz : zs.length = n) (ho : OwnS W w 3 1 (.slice (some ⟨k, 0, none⟩) n cap) n (il zs)) (hw : OwnS W w 71 1 (.slice (some ⟨kw, 0, none⟩) n n) n (wl (List.replicate n 0))) :
    Mk W (w.alloc (.cells (tblCells (.slice (some ⟨k, 0, none⟩) n cap) (.slice (some ⟨kw, 0, none⟩) n n) (.slice none 0 0) (fun _ => 0)) 208)) w.heap.size zs (List.replicate n 0) (fun _ => 0) [] (.slice (some ⟨k, 0, none⟩) n cap) (.slice (some ⟨kw, 0, none⟩) n n) (.slice none 0 0) :=
  ⟨Blk.new _ _ _, ho.nx.size, by rw [hz]; exact ho.alloc _, by rw [List.length_replicate]; exact hw.alloc _, OwnS.nil _ _ _ _ (ho.nx.alloc _)⟩
end Go.Proofs.YtlokfmalpkahaaaGreat
