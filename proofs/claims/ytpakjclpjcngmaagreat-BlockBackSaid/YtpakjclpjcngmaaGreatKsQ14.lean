/- Contracts and plain laws that the last text rests on. Conditions: each theorem states its own. -/
import Derived.Test.YtpakjclpjcngmaaGreatKsPbLaw
import Derived.Lib.SmallJoins
import Derived.Deep.Slices
import Derived.Deep.Fields
import Derived.ChangeSame
import Derived.Test.YtpakjclpjcngmaaGreatKsQ2
import Derived.Test.YtpakjclpjcngmaaGreatKsQ1
import Derived.BigRegion
set_option maxRecDepth 100000
set_option linter.unusedVariables false
namespace Go.Proofs.YtpakjclpjcngmaaGreat
open Go.ChangeShapes Go.WideShapes Go.ChangeAt Go.RowKit Go.Deep
section
variable {H : Type} {enc : TypeId × Value → H} {P : Program} {w : World} {base : Nat} {spare : Nat → Bool} {held : Bool}
end
section
variable {H : Type} {enc : TypeId × Value → H} {W : World}
theorem z1w {n : Nat} {v : Value} {t : TypeId} {y : DataW H × List MemPlace} (ht : Tryz.prog.underlying t = some (.int .i64)) (h : DataW.trod enc Tryz.prog W 0 (fun _ => true) true n t [v] = some y) : ∃ a : Int, v = .int .i64 a ∧ i64 a := by
 obtain ⟨a, e, _, wf⟩ := DataW.trod_int ht h
 simp at e
 exact ⟨a, e, i64_of_wf wf⟩
theorem z3i {n : Nat} {v : Value} {y : DataW H × List MemPlace} (h : DataW.trod enc Tryz.prog W 0 (fun _ => true) true n 9 [v] = some y) : ∃ s : ByteArray, v = .string s ∧ s.size ≤ 9223372036854775807 := by
 obtain ⟨a, e, _, wf⟩ := DataW.trod_string Tryz.underlying9 h
 simp at e
 unfold maxLen at wf
 exact ⟨a, e, by omega⟩
theorem bool_of_trod {n : Nat} {v : Value} {y : DataW H × List MemPlace} (h : DataW.trod enc Tryz.prog W 0 (fun _ => true) true n 4 [v] = some y) : ∃ b : Bool, v = .bool b := by
 obtain ⟨a, e, _⟩ := DataW.trod_bool Tryz.underlying4 h
 simp at e
 exact ⟨a, e⟩
end
def Lab.cs (x : Lab) : List Value := [.string x.name, .string x.value]
def lbl (l : List Lab) : List Value := l.flatMap Lab.cs
structure RV where
 row : RowE
 A : Option Addr
 c : Nat
def RV.cs (x : RV) : List Value := [.int .i64 x.row.kind, .int .i64 x.row.time, .slice x.A x.row.labs.length x.c, .string x.row.text, .int .i64 x.row.value, .bool x.row.null, .int .i64 x.row.maker, .int .i64 x.row.seq, .int .i64 x.row.place]
def rvl (l : List RV) : List Value := l.flatMap RV.cs
theorem Lab.cs_len (x : Lab) : x.cs.length = 2 := rfl
theorem RV.cs_len (x : RV) : x.cs.length = 9 := rfl
theorem lbl_len (l : List Lab) : (lbl l).length = l.length * 2 := z33 Lab.cs_len l
theorem rvl_len (l : List RV) : (rvl l).length = l.length * 9 := z33 RV.cs_len l
def RV.ok (w : World) (D : Nat → Prop) (x : RV) : Prop := Rd w D 2 x.A x.row.labs.length (lbl x.row.labs) ∧ x.row.labs.length ≤ x.c ∧ x.c ≤ maxLen
theorem RV.ok.ch {w w' : World} {D D' S : Nat → Prop} {x : RV} (h : x.ok w D) (hc : Ch S w w') (hS : ∀ k, k < w.heap.size → D k → ¬ S k) (hD : ∀ k, D k → D' k) : x.ok w' D' :=
 ⟨(h.1.ch (by decide) hc hS).more hD, h.2⟩
theorem z5c {w : World} {D : Nat → Prop} {A : Option Addr} {n k : Nat} {l : List Lab} (h : Rd w D 2 A n (lbl l)) (hk : k < l.length) : ∃ ad, A = some ad ∧ D ad.block ∧ w.cell? (ad.add (k * 2)) = some (.string l[k].name) ∧ w.cell? ⟨(ad.add (k * 2)).block, (ad.add (k * 2)).off + 1, none⟩ = some (.string l[k].value) := by
 have hn : 0 < n := by have := h.1; rw [lbl_len] at this; omega
 obtain ⟨ad, rfl, hb, hc⟩ := h.2 hn
 exact ⟨ad, rfl, hb, hc (k * 2 + 0) _ (z2a Lab.cs_len hk (by decide)), z0R 0 (hc (k * 2 + 1) _ (z2a Lab.cs_len hk (by decide)))⟩
theorem z27 {w : World} {D : Nat → Prop} {A : Option Addr} {n k : Nat} {l : List RV} (h : Rd w D 9 A n (rvl l)) (hk : k < l.length) : ∃ ad, A = some ad ∧ D ad.block ∧ w.cell? (ad.add (k * 9)) = some (.int .i64 l[k].row.kind) ∧
  w.cell? ⟨(ad.add (k * 9)).block, (ad.add (k * 9)).off + 1, none⟩ = some (.int .i64 l[k].row.time) ∧ w.cell? ⟨(ad.add (k * 9)).block, (ad.add (k * 9)).off + 2, none⟩ = some (.slice l[k].A l[k].row.labs.length l[k].c) ∧
  w.cell? ⟨(ad.add (k * 9)).block, (ad.add (k * 9)).off + 3, none⟩ = some (.string l[k].row.text) ∧ w.cell? ⟨(ad.add (k * 9)).block, (ad.add (k * 9)).off + 4, none⟩ = some (.int .i64 l[k].row.value) ∧
  w.cell? ⟨(ad.add (k * 9)).block, (ad.add (k * 9)).off + 5, none⟩ = some (.bool l[k].row.null) ∧ w.cell? ⟨(ad.add (k * 9)).block, (ad.add (k * 9)).off + 6, none⟩ = some (.int .i64 l[k].row.maker) ∧
  w.cell? ⟨(ad.add (k * 9)).block, (ad.add (k * 9)).off + 7, none⟩ = some (.int .i64 l[k].row.seq) ∧ w.cell? ⟨(ad.add (k * 9)).block, (ad.add (k * 9)).off + 8, none⟩ = some (.int .i64 l[k].row.place) := by
 have hn : 0 < n := by have := h.1; rw [rvl_len] at this; omega
 obtain ⟨ad, rfl, hb, hc⟩ := h.2 hn
 have g := fun i (hi : i < 9) u (hu : (l[k].cs)[i]? = some u) => hc (k * 9 + i) u ((z2a RV.cs_len hk hi).trans hu)
 exact ⟨ad, rfl, hb, g 0 (by decide) _ rfl, z0R 0 (g 1 (by decide) _ rfl), z0R 1 (g 2 (by decide) _ rfl), z0R 2 (g 3 (by decide) _ rfl), z0R 3 (g 4 (by decide) _ rfl), z0R 4 (g 5 (by decide) _ rfl), z0R 5 (g 6 (by decide) _ rfl), z0R 6 (g 7 (by decide) _ rfl), z0R 7 (g 8 (by decide) _ rfl)⟩
def Lab.small (x : Lab) : Prop := x.name.size ≤ 9223372036854775807 ∧ x.value.size ≤ 9223372036854775807
def RowE.small (x : RowE) : Prop := (∀ y ∈ x.labs, y.small) ∧ x.text.size ≤ 9223372036854775807 ∧ i64 x.kind ∧ i64 x.time ∧ i64 x.value ∧ i64 x.maker ∧ i64 x.seq ∧ i64 x.place
def rowV (x : RV) : Value := .agg #[.int .i64 x.row.kind, .int .i64 x.row.time, .slice x.A x.row.labs.length x.c, .string x.row.text, .int .i64 x.row.value, .bool x.row.null, .int .i64 x.row.maker, .int .i64 x.row.seq, .int .i64 x.row.place]
section
variable {H : Type} {enc : TypeId × Value → H} {W : World}
theorem labs_of_trod {n : Nat} {v : Value} {y : DataW H × List MemPlace} (h : DataW.trod enc Tryz.prog W 0 (fun _ => true) true n 54 [v] = some y) :
  ∃ (A : Option Addr) (c : Nat) (l : List Lab), v = .slice A l.length c ∧ Rd W (· < W.heap.size) 2 A l.length (lbl l) ∧ (∀ x ∈ l, x.small) ∧ l.length ≤ c ∧ c ≤ maxLen := by
 rcases open_slice Tryz.underlying54 h with ⟨hcs, hx⟩ | ⟨a, len, cap, m, nn, D, Pl, hcs, hb, hl, hm, hmm, hx, hi⟩
 ·simp at hcs
  subst hcs
  exact ⟨none, 0, [], rfl, Rd.none_ _ _ _ _, by simp, Nat.le_refl _, by simp [maxLen]⟩
 ·simp at hcs
  subst hcs
  simp only [if_true] at hmm
  have hC : Tryz.prog.cellsOf 135 = 2 := by kernel_rfl
  rw [hC] at hi
  obtain ⟨l, h1, h2, h3⟩ := z4X (W := W) (a := a) (n := len) (good := Lab.small) Lab.cs_len (by decide) (fun i hin => by
   obtain ⟨cs', hc, ht'⟩ := hi i (by omega)
   obtain ⟨ys, n', hn', hy, hlen, hyl, hf⟩ := DataW.trod_struct Tryz.underlying135 ht'
   obtain ⟨_, hcl, hat⟩ := World.cells?_some hc
   match cs', hcl with
   | [v0, v1], _ =>
     have g0 : DataW.trod enc Tryz.prog W 0 (fun _ => true) true n' 9 (([v0, v1].drop 0).take (Tryz.prog.cellsOf 9)) = ys[0]? := hf 0 _ rfl
     have g1 : DataW.trod enc Tryz.prog W 0 (fun _ => true) true n' 9 (([v0, v1].drop 1).take (Tryz.prog.cellsOf 9)) = ys[1]? := hf 1 _ rfl
     have e0 : Tryz.prog.cellsOf 9 = 1 := by kernel_rfl
     simp only [e0, List.drop_zero, List.take_succ_cons, List.take_zero, List.drop_succ_cons] at g0 g1
     obtain ⟨a0, rfl, k0⟩ := z3i (g0.trans (List.getElem?_eq_getElem (by rw [hyl]; decide)))
     obtain ⟨a1, rfl, k1⟩ := z3i (g1.trans (List.getElem?_eq_getElem (by rw [hyl]; decide)))
     refine ⟨⟨a0, a1⟩, ⟨k0, k1⟩, fun j u hj hu => ?_⟩
     rw [← Go.Deep.add_add, hat j hj, ← hu]
     rfl)
  subst h1
  exact ⟨some a, cap, l, rfl, h3, h2, hl, hm⟩
theorem row_of_trod {n : Nat} {cs : List Value} {y : DataW H × List MemPlace} (h : DataW.trod enc Tryz.prog W 0 (fun _ => true) true n 58 cs = some y) : ∃ x : RV, cs = x.cs ∧ x.ok W (· < W.heap.size) ∧ x.row.small := by
 obtain ⟨ys, n', hn', hy, hlen, hyl, hf⟩ := DataW.trod_struct Tryz.underlying58 h
 have hC : Tryz.prog.cellsOf 58 = 9 := by kernel_rfl
 rw [hC] at hlen
 match cs, hlen with
 | [v0, v1, v2, v3, v4, v5, v6, v7, v8], _ =>
   have g0 : DataW.trod enc Tryz.prog W 0 (fun _ => true) true n' 56 (([v0, v1, v2, v3, v4, v5, v6, v7, v8].drop 0).take (Tryz.prog.cellsOf 56)) = ys[0]? := hf 0 _ rfl
   have g1 : DataW.trod enc Tryz.prog W 0 (fun _ => true) true n' 3 (([v0, v1, v2, v3, v4, v5, v6, v7, v8].drop 6).take (Tryz.prog.cellsOf 3)) = ys[1]? := hf 1 _ rfl
   have g2 : DataW.trod enc Tryz.prog W 0 (fun _ => true) true n' 3 (([v0, v1, v2, v3, v4, v5, v6, v7, v8].drop 7).take (Tryz.prog.cellsOf 3)) = ys[2]? := hf 2 _ rfl
   have g3 : DataW.trod enc Tryz.prog W 0 (fun _ => true) true n' 3 (([v0, v1, v2, v3, v4, v5, v6, v7, v8].drop 8).take (Tryz.prog.cellsOf 3)) = ys[3]? := hf 3 _ rfl
   have es : Tryz.prog.cellsOf 9 = 1 := by kernel_rfl
   have ei : Tryz.prog.cellsOf 3 = 1 := by kernel_rfl
   have eb : Tryz.prog.cellsOf 4 = 1 := by kernel_rfl
   have el : Tryz.prog.cellsOf 54 = 1 := by kernel_rfl
   have er : Tryz.prog.cellsOf 56 = 6 := by kernel_rfl
   simp only [ei, er, List.drop_zero, List.take_succ_cons, List.take_zero, List.drop_succ_cons] at g0 g1 g2 g3
   obtain ⟨zs, n2, _, _, _, hzl, hf2⟩ := DataW.trod_struct Tryz.underlying56 (g0.trans (List.getElem?_eq_getElem (by rw [hyl]; decide)))
   have r0 : DataW.trod enc Tryz.prog W 0 (fun _ => true) true n2 3 (([v0, v1, v2, v3, v4, v5].drop 0).take (Tryz.prog.cellsOf 3)) = zs[0]? := hf2 0 _ rfl
   have r1 : DataW.trod enc Tryz.prog W 0 (fun _ => true) true n2 3 (([v0, v1, v2, v3, v4, v5].drop 1).take (Tryz.prog.cellsOf 3)) = zs[1]? := hf2 1 _ rfl
   have r2 : DataW.trod enc Tryz.prog W 0 (fun _ => true) true n2 54 (([v0, v1, v2, v3, v4, v5].drop 2).take (Tryz.prog.cellsOf 54)) = zs[2]? := hf2 2 _ rfl
   have r3 : DataW.trod enc Tryz.prog W 0 (fun _ => true) true n2 9 (([v0, v1, v2, v3, v4, v5].drop 3).take (Tryz.prog.cellsOf 9)) = zs[3]? := hf2 3 _ rfl
   have r4 : DataW.trod enc Tryz.prog W 0 (fun _ => true) true n2 3 (([v0, v1, v2, v3, v4, v5].drop 4).take (Tryz.prog.cellsOf 3)) = zs[4]? := hf2 4 _ rfl
   have r5 : DataW.trod enc Tryz.prog W 0 (fun _ => true) true n2 4 (([v0, v1, v2, v3, v4, v5].drop 5).take (Tryz.prog.cellsOf 4)) = zs[5]? := hf2 5 _ rfl
   simp only [es, ei, eb, el, List.drop_zero, List.take_succ_cons, List.take_zero, List.drop_succ_cons] at r0 r1 r2 r3 r4 r5
   obtain ⟨kind, rfl, i0⟩ := z1w Tryz.underlying3 (r0.trans (List.getElem?_eq_getElem (by rw [hzl]; decide)))
   obtain ⟨time, rfl, i1⟩ := z1w Tryz.underlying3 (r1.trans (List.getElem?_eq_getElem (by rw [hzl]; decide)))
   obtain ⟨A, c, labs, rfl, h1, h2, h3, h4⟩ := labs_of_trod (r2.trans (List.getElem?_eq_getElem (by rw [hzl]; decide)))
   obtain ⟨text, rfl, i3⟩ := z3i (r3.trans (List.getElem?_eq_getElem (by rw [hzl]; decide)))
   obtain ⟨value, rfl, i4⟩ := z1w Tryz.underlying3 (r4.trans (List.getElem?_eq_getElem (by rw [hzl]; decide)))
   obtain ⟨null, rfl⟩ := bool_of_trod (r5.trans (List.getElem?_eq_getElem (by rw [hzl]; decide)))
   obtain ⟨maker, rfl, i6⟩ := z1w Tryz.underlying3 (g1.trans (List.getElem?_eq_getElem (by rw [hyl]; decide)))
   obtain ⟨seq, rfl, i7⟩ := z1w Tryz.underlying3 (g2.trans (List.getElem?_eq_getElem (by rw [hyl]; decide)))
   obtain ⟨place, rfl, i8⟩ := z1w Tryz.underlying3 (g3.trans (List.getElem?_eq_getElem (by rw [hyl]; decide)))
   exact ⟨⟨⟨kind, time, labs, text, value, null, maker, seq, place⟩, A, c⟩, rfl, ⟨h1, h3, h4⟩, h2, i3, i0, i1, i4, i6, i7, i8⟩
variable {args : Array Value} {ds : List (DataW H)} {ps : List MemPlace}
theorem Told.rows {ts : List TypeId} (h : Told enc (22 :: ts) W args ds ps) : ∃ (A : Option Addr) (c : Nat) (l : List RV) (vs : List Value) (ds' : List (DataW H)) (q : List MemPlace), args = (.slice A l.length c :: vs).toArray ∧
   Rd W (· < W.heap.size) 9 A l.length (rvl l) ∧ (∀ x ∈ l, x.ok W (· < W.heap.size) ∧ x.row.small) ∧ l.length ≤ c ∧ c ≤ maxLen ∧ Told enc ts W vs.toArray ds' q := by
 obtain ⟨v, vs, d, ds', p, q, rfl, rfl, h0, ⟨b, ho⟩, hlt, hw, h'⟩ := h.cons
 obtain ⟨A, n, c, rfl⟩ := okWide_slice Tryz.underlying22 ho
 obtain ⟨fuel, hf⟩ := h0
 rcases open_slice Tryz.underlying22 hf with ⟨hcs, hx⟩ | ⟨a, len, cap, m, nn, D, Pl, hcs, hb, hl, hm, hmm, hx, hi⟩
 ·simp [Value.cells] at hcs
  obtain ⟨rfl, rfl, rfl⟩ := hcs
  exact ⟨none, 0, [], vs, ds', q, rfl, Rd.none_ _ _ _ _, by simp, Nat.le_refl _, by simp [maxLen], h'⟩
 ·simp [Value.cells] at hcs
  obtain ⟨rfl, rfl, rfl⟩ := hcs
  simp only [if_true] at hmm
  have hC : Tryz.prog.cellsOf 58 = 9 := by kernel_rfl
  rw [hC] at hi
  obtain ⟨l, h1, h2, h3⟩ := z4X (W := W) (a := a) (n := n) (good := fun x : RV => x.ok W (· < W.heap.size) ∧ x.row.small) RV.cs_len (by decide) (fun i hin => by
   obtain ⟨cs', hc, ht'⟩ := hi i (by omega)
   obtain ⟨x, rfl, hx1, hx2⟩ := row_of_trod ht'
   obtain ⟨_, hcl, hat⟩ := World.cells?_some hc
   refine ⟨x, ⟨hx1, hx2⟩, fun j u hj hu => ?_⟩
   rw [← Go.Deep.add_add, hat j hj, ← hu])
  subst h1
  exact ⟨some a, c, l, vs, ds', q, rfl, h3, h2, hl, hm, h'⟩
end
end Go.Proofs.YtpakjclpjcngmaaGreat
namespace Go.Proofs.YtpakjclpjcngmaaGreat
open Go.RowKit
theorem Tryz.infoRow : (Tryz.prog.info? 58).map (fun i => (i.zero, i.size, i.bytes)) = some (some (.agg #[.int .i64 0, .int .i64 0, .slice none 0 0, .string ⟨#[]⟩, .int .i64 0, .bool false, .int .i64 0, .int .i64 0, .int .i64 0]), 9, 96) := by kernel_rfl
theorem rvl_one (l : List RV) : ∀ u ∈ rvl l, u.oneCell' = true := by
 intro u hu
 obtain ⟨x, _, hx⟩ := List.mem_flatMap.1 hu
 simp [RV.cs] at hx
 rcases hx with rfl | rfl | rfl | rfl | rfl | rfl | rfl | rfl | rfl <;> rfl
section
variable {w : World} {D : Nat → Prop} {A : Option Addr} {n c : Nat} {l : List Lab}
end
section
variable {w : World} {D : Nat → Prop} {x : RV}
end
section
variable {w : World} {g cap : Nat} {A : Option Addr} {ys : List RV}
end
section
variable {w : World} {g cap : Nat} {A : Option Addr} {ys : List RV}
end
end Go.Proofs.YtpakjclpjcngmaaGreat
