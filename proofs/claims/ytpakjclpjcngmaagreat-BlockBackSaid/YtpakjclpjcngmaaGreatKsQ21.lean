/- Contracts and plain laws that the last text rests on. Conditions: each theorem states its own. -/
import Derived.Test.YtpakjclpjcngmaaGreatKsQ15
import Derived.Deep.CutBlock
import Derived.Deep.DeepCutAuto
import Derived.Test.YtpakjclpjcngmaaGreatKsQ7
import Derived.Test.YtpakjclpjcngmaaGreatKsQ14
set_option maxRecDepth 100000
set_option linter.unusedVariables false
namespace Go.Proofs.YtpakjclpjcngmaaGreat
open Go.RowKit
section
variable {w : World} {g cap : Nat} {A : Option Addr}
end
section
variable {w : World} {g cap : Nat} {A : Option Addr}
end
structure RowsO (W w : World) (v : Value) (zs : List RV) : Prop where
 own : OwnS W w 58 9 v zs.length (rvl zs)
 ok : ∀ z ∈ zs, z.ok w (fun k => W.heap.size ≤ k ∧ k < w.heap.size ∧ v.ownBlock ≠ some k)
theorem RowsO.nil (W w : World) (c : Nx W w) : RowsO W w (.slice none 0 0) [] := ⟨OwnS.nil W w _ 9 c, by simp⟩
theorem RowsO.tr {W w w' : World} {v : Value} {zs : List RV} (h : RowsO W w v zs) (c : Nx w w') : RowsO W w' v zs :=
 ⟨h.own.tr c, fun z hz => (h.ok z hz).ch c (fun _ _ _ hf => hf) fun k ⟨a, b, d⟩ => ⟨a, Nat.lt_of_lt_of_le b c.size, d⟩⟩
theorem RowsO.form {W w : World} {v : Value} {zs : List RV} (h : RowsO W w v zs) : ∃ A c, v = .slice A zs.length c ∧ zs.length ≤ c ∧ c ≤ maxLen := h.own.form
theorem RowsO.app {W w w' : World} {v v' : Value} {zs ys : List RV} (h : RowsO W w v zs) (o : OwnS W w' 58 9 v' (zs.length + ys.length) (rvl zs ++ rvl ys)) (m : Moved w w' v v')
  (hy : ∀ y ∈ ys, y.ok w (fun k => W.heap.size ≤ k ∧ k < w.heap.size ∧ v.ownBlock ≠ some k)) : RowsO W w' v' (zs ++ ys) := by
 refine ⟨by rw [List.length_append, show rvl (zs ++ ys) = rvl zs ++ rvl ys by simp [rvl]]; exact o, fun z hz => ?_⟩
 have hk : z.ok w (fun k => W.heap.size ≤ k ∧ k < w.heap.size ∧ v.ownBlock ≠ some k) := by
  rcases List.mem_append.1 hz with hz | hz
  ·exact h.ok z hz
  ·exact hy z hz
 refine hk.ch m.ch (fun k _ hk hs => hk.2.2 hs) fun k ⟨a, b, d⟩ => ⟨a, Nat.lt_of_lt_of_le b m.ch.size, fun e => ?_⟩
 rcases m.at_ with e1 | ⟨j, e1, h1⟩
 ·exact d (e1.symm.trans e)
 ·rw [e1] at e
  injection e with e
  omega
theorem Rd.lit9 (w : World) (x : RV) : Rd (w.alloc (.cells #[.int .i64 x.row.kind, .int .i64 x.row.time, .slice x.A x.row.labs.length x.c, .string x.row.text, .int .i64 x.row.value, .bool x.row.null, .int .i64 x.row.maker, .int .i64 x.row.seq, .int .i64 x.row.place] 58)) (fun k => k = w.heap.size) 9 (some ⟨w.heap.size, 0, none⟩) 1 (rvl [x]) :=
 ⟨rfl, fun _ => ⟨_, rfl, rfl, fun j u hu => by
   have := (Blk.new w 58 #[.int .i64 x.row.kind, .int .i64 x.row.time, .slice x.A x.row.labs.length x.c, .string x.row.text, .int .i64 x.row.value, .bool x.row.null, .int .i64 x.row.maker, .int .i64 x.row.seq, .int .i64 x.row.place])
   exact World.news_of_block this j u (by simpa [rvl, RV.cs] using hu)⟩⟩
section
variable {w : World} {D : Nat → Prop} {A : Option Addr} {n c : Nat} {l : List RV}
end
def RowE.few (x : RowE) : Prop := x.small ∧ x.labs.length ≤ 1000000
def RowE.mid (x : RowE) : Prop := x.small ∧ x.labs.length ≤ 9223372036854775807
theorem RowE.few.mid {x : RowE} (h : x.few) : x.mid := ⟨h.1, by have := h.2; omega⟩
theorem OwnS.weak {W W1 w : World} {e : TypeId} {size n : Nat} {v : Value} {xs : List Value} (h : OwnS W1 w e size v n xs) (c : Nx W W1) : OwnS W w e size v n xs := ⟨z0D h.own c.size, c.tr h.nx⟩
theorem RowsO.rd {W w : World} {A : Option Addr} {c : Nat} {zs : List RV} (h : RowsO W w (.slice A zs.length c) zs) : Rd w (fun k => k < w.heap.size) 9 A zs.length (rvl zs) := h.own.rd.more fun k hk => hk.2.2
end Go.Proofs.YtpakjclpjcngmaaGreat
