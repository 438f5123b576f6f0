/- The contract of query.Answer. Conditions: at most 1000000 rows. · The contracts of the reference's Right and Keeps (layer 12). Conditions: none. -/
import Derived.Test.YtbgeddlakcaikaaKrRcB
import Derived.Test.YtbgeddlakcaikaaKrLbE
import Derived.Test.YtbgeddlakcaikaaKrR8C
namespace Go.Proofs.Ytbgeddlakcaikaa
set_option maxRecDepth 100000
open Go.RowKit
set_option linter.unusedVariables false
/-- a query in memory -/
structure QIs (w : World) (q : QryE) (B : Option Addr) (d : Nat) : Prop where
  rd : Rd w (fun k => k < w.heap.size) 3 B q.ms.length (mtl q.ms)
  sm : ∀ x ∈ q.ms, x.small
  i0 : i64 q.lo
  i1 : i64 q.hi
  i2 : i64 q.limit
  hd : q.ms.length ≤ d
  hd2 : d ≤ maxLen
theorem QIs.nx {w w' : World} {q : QryE} {B : Option Addr} {d : Nat} (h : QIs w q B d) (c : Nx w w') : QIs w' q B d :=
  ⟨(h.rd.nx (by decide) c).more fun k hk => Nat.lt_of_lt_of_le hk c.size, h.sm, h.i0, h.i1, h.i2, h.hd, h.hd2⟩
/-- a row that is small -/
def RowE.few (x : RowE) : Prop := x.small ∧ x.labs.length ≤ 1000000
theorem qright_q {w : World} {q : QryE} {B : Option Addr} {d : Nat} (h : QIs w q B d) : Calls Try.prog 11 #[qryV q B d] w fun e w' => e = .returned (.bool (qrightF q)) ∧ Nx w w' :=
  qright_any q h.rd (fun _ h => h) h.sm h.i0 h.i1 h.i2 h.hd h.hd2
theorem qkeeps0_q {w : World} {q : QryE} {B : Option Addr} {d : Nat} {D : Nat → Prop} {x : RV} (h : QIs w q B d) (h8 : qrightF q = true) (hx : x.ok w D) (hf : x.row.few) : Calls Try.prog 20 #[qryV q B d, rowV x] w fun e w' => e = .returned (.bool (keeps0 q x.row)) ∧ Nx w w' :=
  qkeeps0_any q x hx hf.1 h.rd h.sm h.i0 h.i1 h.i2 h.hd h.hd2 hf.2 (by
    unfold qrightF at h8
    rw [Bool.and_eq_true, decide_eq_true_eq] at h8
    have := h8.1.2.2.2.1
    omega)
theorem keeps_q {w : World} {q : QryE} {B : Option Addr} {d : Nat} {D : Nat → Prop} {x : RV} (h : QIs w q B d) (hx : x.ok w D) (hf : x.row.few) : Calls Try.prog 12 #[qryV q B d, rowV x] w fun e w' => e = .returned (.bool (keepsF q x.row)) ∧ Nx w w' :=
  keeps_any q x hx hf.1 h.rd (fun _ h => h) h.sm h.i0 h.i1 h.i2 h.hd h.hd2 hf.2
/-- the answer of a part -/
def ansG (q : QryE) (p : RowE → Bool) (l : List RowE) : List RowE := (cutF q (l.filter p)).map (stripF q)
section
variable {q : QryE} {p : RowE → Bool} {l : List RowE} {x : RowE}
theorem ans_skip (h : p x = false) : ansG q p (l ++ [x]) = ansG q p l := by
  unfold ansG
  rw [List.filter_append]
  simp [h]
theorem ans_len : (ansG q p l).length = if q.limit = 0 then (l.filter p).length else min q.limit.toNat (l.filter p).length := by
  unfold ansG cutF
  by_cases h : q.limit = 0
  · simp [h]
  · simp [h]
theorem ans_keep (h : p x = true) (hl : q.limit = 0 ∨ (ansG q p l).length < q.limit.toNat) : ansG q p (l ++ [x]) = ansG q p l ++ [stripF q x] := by
  have e := ans_len (q := q) (p := p) (l := l)
  unfold ansG cutF at *
  rw [List.filter_append]
  by_cases h0 : q.limit = 0
  · simp [h, h0]
  · simp only [h0, if_false, false_or] at *
    rw [e] at hl
    have h1 : (l.filter p).length < q.limit.toNat := by omega
    rw [List.take_of_length_le (by simp [h]; omega), List.take_of_length_le (by omega)]
    simp [h]
theorem ans_full (h0 : q.limit ≠ 0) (hl : q.limit.toNat ≤ (ansG q p l).length) : ansG q p (l ++ [x]) = ansG q p l := by
  have e := ans_len (q := q) (p := p) (l := l)
  unfold ansG cutF at *
  rw [List.filter_append]
  simp only [h0, if_false] at *
  rw [e] at hl
  rw [List.take_append_of_le_length (by omega)]
end
/-- what an answer hands back -/
def AnsTo (q : QryE) (l : List RV) (w : World) (e : Ending) (w' : World) : Prop := ∃ v os, e = .returned v ∧ RowsO w w' v os ∧ os.map (fun x => x.row) = answerF q (l.map fun x => x.row)
theorem OwnS.weak {W W1 w : World} {e : TypeId} {size n : Nat} {v : Value} {xs : List Value} (h : OwnS W1 w e size v n xs) (c : Nx W W1) : OwnS W w e size v n xs := ⟨own_base h.own c.size, c.tr h.nx⟩
theorem RowsO.rd {W w : World} {A : Option Addr} {c : Nat} {zs : List RV} (h : RowsO W w (.slice A zs.length c) zs) : Rd w (fun k => k < w.heap.size) 9 A zs.length (rvl zs) := h.own.rd.more fun k hk => hk.2.2
/-- what the loop holds: rows of its own in memory that is new since w5, their labels older -/
structure AnsI (W w5 wr : World) (v : Value) (os : List RV) : Prop where
  rows : RowsO W wr v os
  own : OwnS w5 wr 53 9 v os.length (rvl os)
theorem AnsI.tr {W w5 wr w' : World} {v : Value} {os : List RV} (h : AnsI W w5 wr v os) (c : Nx wr w') : AnsI W w5 w' v os := ⟨h.rows.tr c, h.own.tr c⟩
theorem AnsI.nil {W w5 : World} (c : Nx W w5) : AnsI W w5 w5 (.slice none 0 0) [] := ⟨RowsO.nil W w5 c, OwnS.nil w5 w5 _ 9 (Ch.refl _ _)⟩
theorem AnsI.app {W w5 w6 w8 : World} {v v' : Value} {os : List RV} {y : RV} (h : AnsI W w5 w6 v os) (hW : Nx W w5) (o : OwnS w5 w8 53 9 v' (os.length + 1) (rvl os ++ rvl [y])) (m : Moved w6 w8 v v')
    (hy : y.ok w6 (fun k => W.heap.size ≤ k ∧ k < w5.heap.size)) : AnsI W w5 w8 v' (os ++ [y]) := by
  refine ⟨h.rows.app (ys := [y]) (o.weak hW) m fun z hz => ?_, by rw [List.length_append, show rvl (os ++ [y]) = rvl os ++ rvl [y] by simp [rvl]]; exact o⟩
  rw [List.mem_singleton] at hz
  subst hz
  refine hy.ch (Ch.refl (fun _ => False) w6) (fun _ _ _ hf => hf) fun k hk => ⟨hk.1, Nat.lt_of_lt_of_le hk.2 h.own.nx.size, fun e => ?_⟩
  have := (h.own.lt k e).1
  omega
end Go.Proofs.Ytbgeddlakcaikaa
namespace Go.Proofs.Ytbgeddlakcaikaa
set_option maxRecDepth 100000
open Go.RowKit
set_option linter.unusedVariables false
theorem qright_out {q : QryE} (h : ¬ (0 ≤ q.lo ∧ q.lo ≤ q.hi ∧ q.hi ≤ 1099511627776 ∧ q.ms.length ≤ 8 ∧ 0 ≤ q.limit ∧ q.limit ≤ 2048)) : qrightF q = false := by unfold qrightF; rw [decide_eq_false h]; rfl
theorem qright_in {q : QryE} (h : 0 ≤ q.lo ∧ q.lo ≤ q.hi ∧ q.hi ≤ 1099511627776 ∧ q.ms.length ≤ 8 ∧ 0 ≤ q.limit ∧ q.limit ≤ 2048) : qrightF q = q.ms.all asksF := by unfold qrightF; rw [decide_eq_true h]; rfl
section
variable {w : World} {D : Nat → Prop} {A B : Option Addr} {n c d : Nat} {l : List RV} {q : QryE}
set_option maxHeartbeats 8000000 in
theorem ref12right_q (hq : QIs w q B d) : Calls Try.prog 15 #[qryV q B d] w fun e w' => e = .returned (.bool (qrightF q)) ∧ Nx w w' := by
  have HB := Lib.hid (fun h => qright_out (q := q) h)
  have HG := Lib.hid (fun h => qright_in (q := q) h)
  have Hsm := Lib.hid hq.sm
  have hd := hq.hd
  have hd2 := hq.hd2
  have i0 := hq.i0
  have i1 := hq.i1
  have i2 := hq.i2
  have Hrd := Lib.hid hq.rd
  obtain ⟨lo, hi, ms, limit, texts⟩ := q
  simp only at *
  unfold qryV
  simp only
  have HN := Lib.hid ((Ch.refl (fun _ => False) w).alloc (.cells #[.int .i64 lo, .int .i64 hi, .slice B ms.length d, .int .i64 limit, .bool texts] 24))
  clear hq
  by_cases a1 : lo < 0
  · have HR := Lib.hid (HB.out (by omega))
    go_enter Try.func15, Try.ntmps15
    go_wp2_with fail
    go_ret
    exact ⟨by rw [HR.out]; rfl, HN.out⟩
  by_cases a2 : hi < lo
  · have HR := Lib.hid (HB.out (by omega))
    go_enter Try.func15, Try.ntmps15
    go_wp2_with fail
    go_ret
    exact ⟨by rw [HR.out]; rfl, HN.out⟩
  by_cases a3 : 1099511627776 < hi
  · have HR := Lib.hid (HB.out (by omega))
    go_enter Try.func15, Try.ntmps15
    go_wp2_with fail
    go_ret
    exact ⟨by rw [HR.out]; rfl, HN.out⟩
  by_cases a4 : 8 < ms.length
  · have a4' : (8 : Int) < (ms.length : Int) := by omega
    have HR := Lib.hid (HB.out (by omega))
    go_enter Try.func15, Try.ntmps15
    go_wp2_with fail
    go_ret
    exact ⟨by rw [HR.out]; rfl, HN.out⟩
  have a4' : ¬ (8 : Int) < (ms.length : Int) := by omega
  by_cases a5 : limit < 0
  · have HR := Lib.hid (HB.out (by omega))
    go_enter Try.func15, Try.ntmps15
    go_wp2_with fail
    go_ret
    exact ⟨by rw [HR.out]; rfl, HN.out⟩
  by_cases a6 : 2048 < limit
  · have HR := Lib.hid (HB.out (by omega))
    go_enter Try.func15, Try.ntmps15
    go_wp2_with fail
    go_ret
    exact ⟨by rw [HR.out]; rfl, HN.out⟩
  have HG2 := Lib.hid (HG.out (by omega))
  have hn8 : ms.length ≤ 8 := by omega
  generalize hm : ms.length = m at *
  have Hm := Lib.hid hm
  clear hm HG HB
  go_enter Try.func15, Try.ntmps15
  go_wp2_with fail
  go_loopw [39] (fun i wr => ∃ k : Nat, k ≤ m ∧ i = .int .i64 (k : Int) ∧ Nx w wr ∧ Hid ((ms.take k).all asksF = true)) (fun i _ => m - (intOf i).toNat)
  case atStart => exact ⟨0, Nat.zero_le _, rfl, HN.out, Lib.hid (by simp)⟩
  case round =>
    obtain ⟨w4, rfl⟩ : ∃ w4 : World, w4 = wr := ⟨_, rfl⟩
    obtain ⟨k, hk, rfl, hn4, Ha⟩ := hrel
    have N4 := Lib.hid hn4
    by_cases hlt : k < m
    · have hkl : k < ms.length := by rw [Hm.out]; exact hlt
      obtain ⟨ad, rfl, -, p0, p1, p2⟩ := mat_at (Hrd.out.nx (by decide) hn4) hkl
      have HT := Lib.hid (List.take_succ_eq_append_getElem hkl)
      have hak := Lib.hid (fun w => asks8_any ms[k] (Hsm.out _ (List.getElem_mem hkl)) w)
      have HD := Lib.hid (fun (h : asksF ms[k] = false) => show ms.all asksF = false by
        rw [List.all_eq_false]
        exact ⟨_, List.getElem_mem hkl, by rw [h]; simp⟩)
      clear hn4
      generalize ms[k] = x at *
      have HA2 := Lib.hid (fun (h : asksF x = true) => show (ms.take (k + 1)).all asksF = true by rw [HT.out, List.all_append, Ha.out]; simp [h])
      obtain ⟨nm, way, val⟩ := x
      simp only at p0 p1 p2 hak
      cases hav : asksF ⟨nm, way, val⟩
      · rw [hav] at hak
        have HR := Lib.hid (HG2.out.trans (HD.out hav))
        clear hav
        go_wp2_with fail
        refine (hak.out _).mono ?_
        rintro e w5 ⟨rfl, n5⟩
        have N5 := Lib.hid ((N4.out.alloc _).tr n5)
        clear n5
        go_wp2_with fail
        go_ret
        exact ⟨by rw [HR.out]; rfl, N5.out⟩
      · rw [hav] at hak
        have HR := Lib.hid (HA2.out hav)
        clear hav
        go_wp2_with fail
        refine (hak.out _).mono ?_
        rintro e w5 ⟨rfl, n5⟩
        have N5 := Lib.hid ((N4.out.alloc _).tr n5)
        clear n5
        go_wp2_with fail
        go_roundw
        case rel => exact ⟨k + 1, by omega, by go_num, N5.out, HR⟩
        case measure => simp [intOf]; omega
    · have HR := Lib.hid (show qrightF ⟨lo, hi, ms, limit, texts⟩ = true by
        rw [HG2.out]
        have := Ha.out
        rw [List.take_of_length_le (by rw [Hm.out]; omega)] at this
        exact this)
      clear hn4
      go_wp2_with fail
      go_ret
      exact ⟨by rw [HR.out]; rfl, N4.out⟩
end
end Go.Proofs.Ytbgeddlakcaikaa
