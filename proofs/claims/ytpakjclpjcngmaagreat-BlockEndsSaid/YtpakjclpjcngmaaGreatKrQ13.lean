/- Contracts and plain laws that the last text rests on. Conditions: each theorem states its own. -/
import Derived.Test.YtpakjclpjcngmaaGreatKrQ12
import Derived.Lib.SmallJoins
import Derived.Deep.Slices
import Derived.Deep.Fields
import Derived.ChangeSame
import Derived.Test.YtpakjclpjcngmaaGreatKrQ2
import Derived.Test.YtpakjclpjcngmaaGreatKrQ1
import Derived.BigRegion
set_option maxRecDepth 100000
set_option linter.unusedVariables false
namespace Go.Proofs.YtpakjclpjcngmaaGreat
open Go.ChangeShapes Go.WideShapes Go.ChangeAt Go.RowKit Go.Deep
section
variable {H : Type} {enc : TypeId × Value → H} {P : Program} {w : World} {base : Nat} {spare : Nat → Bool} {held : Bool}
end
section
variable {H : Type} {enc : TypeId × Value → H} {W : World}
end
def Lab.cs (x : Lab) : List Value := [.string x.name, .string x.value]
def lbl (l : List Lab) : List Value := l.flatMap Lab.cs
structure RV where
 row : RowE
 A : Option Addr
 c : Nat
def RV.cs (x : RV) : List Value := [.int .i64 x.row.kind, .int .i64 x.row.time, .slice x.A x.row.labs.length x.c, .string x.row.text, .int .i64 x.row.value, .bool x.row.null, .int .i64 x.row.maker, .int .i64 x.row.seq, .int .i64 x.row.place]
def rvl (l : List RV) : List Value := l.flatMap RV.cs
theorem Lab.cs_len (x : Lab) : x.cs.length = 2 := rfl
theorem RV.cs_len (x : RV) : x.cs.length = 9 := rfl
theorem lbl_len (l : List Lab) : (lbl l).length = l.length * 2 := flat_len Lab.cs_len l
theorem rvl_len (l : List RV) : (rvl l).length = l.length * 9 := flat_len RV.cs_len l
def RV.ok (w : World) (D : Nat → Prop) (x : RV) : Prop := Rd w D 2 x.A x.row.labs.length (lbl x.row.labs) ∧ x.row.labs.length ≤ x.c ∧ x.c ≤ maxLen
theorem RV.ok.ch {w w' : World} {D D' S : Nat → Prop} {x : RV} (h : x.ok w D) (hc : Ch S w w') (hS : ∀ k, k < w.heap.size → D k → ¬ S k) (hD : ∀ k, D k → D' k) : x.ok w' D' :=
 ⟨(h.1.ch (by decide) hc hS).more hD, h.2⟩
theorem lab_at {w : World} {D : Nat → Prop} {A : Option Addr} {n k : Nat} {l : List Lab} (h : Rd w D 2 A n (lbl l)) (hk : k < l.length) : ∃ ad, A = some ad ∧ D ad.block ∧ w.cell? (ad.add (k * 2)) = some (.string l[k].name) ∧ w.cell? ⟨(ad.add (k * 2)).block, (ad.add (k * 2)).off + 1, none⟩ = some (.string l[k].value) := by
 have hn : 0 < n := by have := h.1; rw [lbl_len] at this; omega
 obtain ⟨ad, rfl, hb, hc⟩ := h.2 hn
 exact ⟨ad, rfl, hb, hc (k * 2 + 0) _ (flat_get Lab.cs_len hk (by decide)), cell_next 0 (hc (k * 2 + 1) _ (flat_get Lab.cs_len hk (by decide)))⟩
theorem row_at {w : World} {D : Nat → Prop} {A : Option Addr} {n k : Nat} {l : List RV} (h : Rd w D 9 A n (rvl l)) (hk : k < l.length) : ∃ ad, A = some ad ∧ D ad.block ∧ w.cell? (ad.add (k * 9)) = some (.int .i64 l[k].row.kind) ∧
  w.cell? ⟨(ad.add (k * 9)).block, (ad.add (k * 9)).off + 1, none⟩ = some (.int .i64 l[k].row.time) ∧ w.cell? ⟨(ad.add (k * 9)).block, (ad.add (k * 9)).off + 2, none⟩ = some (.slice l[k].A l[k].row.labs.length l[k].c) ∧
  w.cell? ⟨(ad.add (k * 9)).block, (ad.add (k * 9)).off + 3, none⟩ = some (.string l[k].row.text) ∧ w.cell? ⟨(ad.add (k * 9)).block, (ad.add (k * 9)).off + 4, none⟩ = some (.int .i64 l[k].row.value) ∧
  w.cell? ⟨(ad.add (k * 9)).block, (ad.add (k * 9)).off + 5, none⟩ = some (.bool l[k].row.null) ∧ w.cell? ⟨(ad.add (k * 9)).block, (ad.add (k * 9)).off + 6, none⟩ = some (.int .i64 l[k].row.maker) ∧
  w.cell? ⟨(ad.add (k * 9)).block, (ad.add (k * 9)).off + 7, none⟩ = some (.int .i64 l[k].row.seq) ∧ w.cell? ⟨(ad.add (k * 9)).block, (ad.add (k * 9)).off + 8, none⟩ = some (.int .i64 l[k].row.place) := by
 have hn : 0 < n := by have := h.1; rw [rvl_len] at this; omega
 obtain ⟨ad, rfl, hb, hc⟩ := h.2 hn
 have g := fun i (hi : i < 9) u (hu : (l[k].cs)[i]? = some u) => hc (k * 9 + i) u ((flat_get RV.cs_len hk hi).trans hu)
 exact ⟨ad, rfl, hb, g 0 (by decide) _ rfl, cell_next 0 (g 1 (by decide) _ rfl), cell_next 1 (g 2 (by decide) _ rfl), cell_next 2 (g 3 (by decide) _ rfl), cell_next 3 (g 4 (by decide) _ rfl), cell_next 4 (g 5 (by decide) _ rfl), cell_next 5 (g 6 (by decide) _ rfl), cell_next 6 (g 7 (by decide) _ rfl), cell_next 7 (g 8 (by decide) _ rfl)⟩
def Lab.small (x : Lab) : Prop := x.name.size ≤ 9223372036854775807 ∧ x.value.size ≤ 9223372036854775807
def RowE.small (x : RowE) : Prop := (∀ y ∈ x.labs, y.small) ∧ x.text.size ≤ 9223372036854775807 ∧ i64 x.kind ∧ i64 x.time ∧ i64 x.value ∧ i64 x.maker ∧ i64 x.seq ∧ i64 x.place
def rowV (x : RV) : Value := .agg #[.int .i64 x.row.kind, .int .i64 x.row.time, .slice x.A x.row.labs.length x.c, .string x.row.text, .int .i64 x.row.value, .bool x.row.null, .int .i64 x.row.maker, .int .i64 x.row.seq, .int .i64 x.row.place]
section
variable {H : Type} {enc : TypeId × Value → H} {W : World}
variable {args : Array Value} {ds : List (DataW H)} {ps : List MemPlace}
end
end Go.Proofs.YtpakjclpjcngmaaGreat
namespace Go.Proofs.YtpakjclpjcngmaaGreat
open Go.RowKit
theorem Tryz.infoRow : (Tryz.prog.info? 58).map (fun i => (i.zero, i.size, i.bytes)) = some (some (.agg #[.int .i64 0, .int .i64 0, .slice none 0 0, .string ⟨#[]⟩, .int .i64 0, .bool false, .int .i64 0, .int .i64 0, .int .i64 0]), 9, 96) := by kernel_rfl
theorem rvl_one (l : List RV) : ∀ u ∈ rvl l, u.oneCell' = true := by
 intro u hu
 obtain ⟨x, _, hx⟩ := List.mem_flatMap.1 hu
 simp [RV.cs] at hx
 rcases hx with rfl | rfl | rfl | rfl | rfl | rfl | rfl | rfl | rfl <;> rfl
section
variable {w : World} {D : Nat → Prop} {A : Option Addr} {n c : Nat} {l : List Lab}
end
section
variable {w : World} {D : Nat → Prop} {x : RV}
end
section
variable {w : World} {g cap : Nat} {A : Option Addr} {ys : List RV}
end
section
variable {w : World} {g cap : Nat} {A : Option Addr} {ys : List RV}
end
end Go.Proofs.YtpakjclpjcngmaaGreat
