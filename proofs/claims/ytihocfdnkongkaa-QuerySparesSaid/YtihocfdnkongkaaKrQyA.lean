/- The contract of query.Answer. Conditions: at most 1000000 rows. -/
import Derived.Test.YtihocfdnkongkaaKrRcB
import Derived.Test.YtihocfdnkongkaaKrLbE
namespace Go.Proofs.Ytihocfdnkongkaa
set_option maxRecDepth 100000
open Go.RowKit
set_option linter.unusedVariables false
/-- a query in memory -/
structure QIs (w : World) (q : QryE) (B : Option Addr) (d : Nat) : Prop where
  rd : Rd w (fun k => k < w.heap.size) 3 B q.ms.length (mtl q.ms)
  sm : ∀ x ∈ q.ms, x.small
  i0 : i64 q.lo
  i1 : i64 q.hi
  i2 : i64 q.limit
  hd : q.ms.length ≤ d
  hd2 : d ≤ maxLen
theorem QIs.nx {w w' : World} {q : QryE} {B : Option Addr} {d : Nat} (h : QIs w q B d) (c : Nx w w') : QIs w' q B d :=
  ⟨(h.rd.nx (by decide) c).more fun k hk => Nat.lt_of_lt_of_le hk c.size, h.sm, h.i0, h.i1, h.i2, h.hd, h.hd2⟩
theorem qright_q {w : World} {q : QryE} {B : Option Addr} {d : Nat} (h : QIs w q B d) : Calls Try.prog 11 #[qryV q B d] w fun e w' => e = .returned (.bool (qrightF q)) ∧ Nx w w' :=
  qright_any q h.rd (fun _ h => h) h.sm h.i0 h.i1 h.i2 h.hd h.hd2
theorem qkeeps0_q {w : World} {q : QryE} {B : Option Addr} {d : Nat} {D : Nat → Prop} {x : RV} (h : QIs w q B d) (h8 : qrightF q = true) (hx : x.ok w D) (hf : x.row.few) : Calls Try.prog 21 #[qryV q B d, rowV x] w fun e w' => e = .returned (.bool (keeps0 q x.row)) ∧ Nx w w' :=
  qkeeps0_any q x hx hf.1 h.rd h.sm h.i0 h.i1 h.i2 h.hd h.hd2 hf.2 (by
    unfold qrightF at h8
    rw [Bool.and_eq_true, decide_eq_true_eq] at h8
    have := h8.1.2.2.2.1
    omega)
theorem keeps_q {w : World} {q : QryE} {B : Option Addr} {d : Nat} {D : Nat → Prop} {x : RV} (h : QIs w q B d) (hx : x.ok w D) (hf : x.row.few) : Calls Try.prog 8 #[qryV q B d, rowV x] w fun e w' => e = .returned (.bool (keepsF q x.row)) ∧ Nx w w' :=
  keeps_any q x hx hf.1 h.rd (fun _ h => h) h.sm h.i0 h.i1 h.i2 h.hd h.hd2 hf.2
/-- the answer of a part -/
def ansG (q : QryE) (p : RowE → Bool) (l : List RowE) : List RowE := (cutF q (l.filter p)).map (stripF q)
section
variable {q : QryE} {p : RowE → Bool} {l : List RowE} {x : RowE}
theorem ans_skip (h : p x = false) : ansG q p (l ++ [x]) = ansG q p l := by
  unfold ansG
  rw [List.filter_append]
  simp [h]
theorem ans_len : (ansG q p l).length = if q.limit = 0 then (l.filter p).length else min q.limit.toNat (l.filter p).length := by
  unfold ansG cutF
  by_cases h : q.limit = 0
  · simp [h]
  · simp [h]
theorem ans_keep (h : p x = true) (hl : q.limit = 0 ∨ (ansG q p l).length < q.limit.toNat) : ansG q p (l ++ [x]) = ansG q p l ++ [stripF q x] := by
  have e := ans_len (q := q) (p := p) (l := l)
  unfold ansG cutF at *
  rw [List.filter_append]
  by_cases h0 : q.limit = 0
  · simp [h, h0]
  · simp only [h0, if_false, false_or] at *
    rw [e] at hl
    have h1 : (l.filter p).length < q.limit.toNat := by omega
    rw [List.take_of_length_le (by simp [h]; omega), List.take_of_length_le (by omega)]
    simp [h]
theorem ans_full (h0 : q.limit ≠ 0) (hl : q.limit.toNat ≤ (ansG q p l).length) : ansG q p (l ++ [x]) = ansG q p l := by
  have e := ans_len (q := q) (p := p) (l := l)
  unfold ansG cutF at *
  rw [List.filter_append]
  simp only [h0, if_false] at *
  rw [e] at hl
  rw [List.take_append_of_le_length (by omega)]
end
/-- what an answer hands back -/
def AnsTo (q : QryE) (l : List RV) (w : World) (e : Ending) (w' : World) : Prop := ∃ v os, e = .returned v ∧ RowsO w w' v os ∧ os.map (fun x => x.row) = answerF q (l.map fun x => x.row)
/-- what the loop holds: rows of its own in memory that is new since w5, their labels older -/
structure AnsI (W w5 wr : World) (v : Value) (os : List RV) : Prop where
  rows : RowsO W wr v os
  own : OwnS w5 wr 33 9 v os.length (rvl os)
theorem AnsI.tr {W w5 wr w' : World} {v : Value} {os : List RV} (h : AnsI W w5 wr v os) (c : Nx wr w') : AnsI W w5 w' v os := ⟨h.rows.tr c, h.own.tr c⟩
theorem AnsI.nil {W w5 : World} (c : Nx W w5) : AnsI W w5 w5 (.slice none 0 0) [] := ⟨RowsO.nil W w5 c, OwnS.nil w5 w5 _ 9 (Ch.refl _ _)⟩
theorem AnsI.app {W w5 w6 w8 : World} {v v' : Value} {os : List RV} {y : RV} (h : AnsI W w5 w6 v os) (hW : Nx W w5) (o : OwnS w5 w8 33 9 v' (os.length + 1) (rvl os ++ rvl [y])) (m : Moved w6 w8 v v')
    (hy : y.ok w6 (fun k => W.heap.size ≤ k ∧ k < w5.heap.size)) : AnsI W w5 w8 v' (os ++ [y]) := by
  refine ⟨h.rows.app (ys := [y]) (o.weak hW) m fun z hz => ?_, by rw [List.length_append, show rvl (os ++ [y]) = rvl os ++ rvl [y] by simp [rvl]]; exact o⟩
  rw [List.mem_singleton] at hz
  subst hz
  refine hy.ch (Ch.refl (fun _ => False) w6) (fun _ _ _ hf => hf) fun k hk => ⟨hk.1, Nat.lt_of_lt_of_le hk.2 h.own.nx.size, fun e => ?_⟩
  have := (h.own.lt k e).1
  omega
end Go.Proofs.Ytihocfdnkongkaa
