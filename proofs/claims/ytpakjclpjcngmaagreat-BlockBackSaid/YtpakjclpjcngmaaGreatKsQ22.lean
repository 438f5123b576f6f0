/- Contracts and plain laws that the last text rests on. Conditions: each theorem states its own. -/
import Derived.Test.YtpakjclpjcngmaaGreatKsQ18
import Derived.Test.YtpakjclpjcngmaaGreatKsQ2
import Derived.Test.YtpakjclpjcngmaaGreatKsQ20
import Derived.Test.YtpakjclpjcngmaaGreatKsQ13
import Derived.Test.YtpakjclpjcngmaaGreatKsQ6
import Derived.Test.YtpakjclpjcngmaaGreatKsQ21
set_option maxRecDepth 100000
set_option maxHeartbeats 16000000
set_option linter.unusedVariables false
namespace Go.Proofs.YtpakjclpjcngmaaGreat
def recF (x : RowE) : Bool :=
 decide (0 ≤ x.time ∧ x.time < 1099511627776) && z0v x.labs &&
  (if x.kind = 1 then decide (x.text.size ≤ 200 ∧ x.value = 0) && !x.null
   else if x.kind = 2 then decide (x.text.size = 0 ∧ -1152921504606846976 ≤ x.value ∧ x.value ≤ 1152921504606846976) && (!x.null || decide (x.value = 0))
   else false)
def idF (x : RowE) : Bool := decide (1 ≤ x.maker ∧ x.maker ≤ 64 ∧ 1 ≤ x.seq ∧ x.seq < 1099511627776 ∧ 0 ≤ x.place ∧ x.place < 64)
def mayAt (l : List RowE) (i : Nat) : Bool := match l[i]? with
 | none => false
 | some x => recF x && idF x && (match i with | 0 => true | j + 1 => match l[j]? with | none => false | some y => keyLt y x)
def mayF (l : List RowE) : Bool := decide (0 < l.length) && (List.range l.length).all (mayAt l)
def rtxt (x : RowE) : ByteArray := txtF x.labs
def withF (x : List Nat) : List Nat := putU x.length ++ x
def colsF (l : List RowE) : List (List Nat) :=
 [chunkF 1 (intsC (l.map fun x => x.time)), chunkF 1 (intsC (l.map fun x => x.maker)), chunkF 1 (intsC (l.map fun x => x.seq)), chunkF 1 (intsC (l.map fun x => x.place)), chunkF 1 (intsC (l.map fun x => x.kind)),
  chunkF 2 (wordsC (l.map rtxt)), chunkF 3 (textsC (l.map fun x => x.text)), chunkF 1 (intsC (l.map fun x => x.value)), chunkF 4 (flagsC (l.map fun x => x.null))]
def z08 (l : List RowE) : List Nat := (colsF l).flatMap withF
def cutsF {α : Type} (per : Nat) (l : List α) : List (List α) := (List.range ((l.length + per - 1) / per)).map fun i => (l.drop (i * per)).take per
structure PostE where
 text : ByteArray
 gs : List Nat
def spanB (s : SpanE) : List Nat := putU s.place.toNat ++ putU s.size.toNat ++ putU s.rows.toNat ++ putU s.lo.toNat ++ putU s.hi.toNat
def postB (p : PostE) : List Nat := putU p.text.size ++ wbF p.text ++ putU p.gs.length ++ p.gs.flatMap putU
def idxB (ss : List SpanE) (ps : List PostE) : List Nat := putU ss.length ++ ss.flatMap spanB ++ putU ps.length ++ ps.flatMap postB
def headB : List Nat := [69, 78, 84, 82, 1]
def firstT (l : List RowE) : Int := match l.head? with | some x => x.time | none => 0
def lastT (l : List RowE) : Int := match l.getLast? with | some x => x.time | none => 0
def z0C : Nat → List (List RowE) → List SpanE
 | _, [] => []
 | at_, g :: gs => ⟨at_, (z08 g).length, g.length, firstT g, lastT g⟩ :: z0C (at_ + (z08 g).length) gs
def hasF (t : ByteArray) (k : Nat) (gs : List (List RowE)) : List Nat := ((List.range gs.length).filter fun i => (gs.getD i []).any fun x => decide (rtxt x = t)).map (· + k)
def z1f (gs : List (List RowE)) : List PostE := (allF (gs.flatten.map rtxt)).map fun t => ⟨t, hasF t 0 gs⟩
def bodyG (gs : List (List RowE)) : List Nat := gs.flatMap z08
def footF (gs : List (List RowE)) : List Nat := sealF (idxB (z0C 5 gs) (z1f gs))
def blkF (gs : List (List RowE)) : List Nat := headB ++ bodyG gs ++ footF gs ++ four (footF gs).length ++ [69, 78, 84, 82]
def buildF (l : List RowE) (per : Nat) : List Nat := blkF (cutsF per l)
abbrev CurS := Nat × Int
def spanS (xs : List Nat) (s : CurS) : SpanE × CurS :=
 let a := cnumF xs s.1 s.2 262144
 let b := cnumF xs a.2.1 a.2.2 262144
 let c := cnumF xs b.2.1 b.2.2 262144
 let d := cnumF xs c.2.1 c.2.2 1099511627775
 let e := cnumF xs d.2.1 d.2.2 1099511627775
 (⟨a.1, b.1, c.1, d.1, e.1⟩, e.2)
def z1A (xs : List Nat) : Nat → CurS → List SpanE × CurS
 | 0, s => ([], s)
 | n + 1, s => let a := spanS xs s; let b := z1A xs n a.2; (a.1 :: b.1, b.2)
def numsS (xs : List Nat) : Nat → CurS → List Nat × CurS
 | 0, s => ([], s)
 | n + 1, s => let a := cnumF xs s.1 s.2 262144; let b := numsS xs n a.2; (a.1 :: b.1, b.2)
def postS (xs : List Nat) (s : CurS) : PostE × CurS :=
 let t := ctextF xs s.1 s.2 1024
 let m := cnumF xs t.2.1 t.2.2 2048
 let g := numsS xs m.1 m.2
 (⟨strB t.1, g.1⟩, g.2)
def z3b (xs : List Nat) (s : CurS) : Bool := decide (cendF xs.length s.1 s.2 = 0 ∨ cendF xs.length s.1 s.2 = 5)
def z1W (xs : List Nat) : Nat → CurS → List PostE × CurS
 | 0, s => ([], s)
 | n + 1, s => let a := postS xs s; if z3b xs a.2 = true then let b := z1W xs n a.2; (a.1 :: b.1, b.2) else ([a.1], a.2)
def footS (xs : List Nat) : List SpanE × List PostE × CurS :=
 let n := cnumF xs 0 0 2048
 let a := z1A xs n.1 n.2
 let m := cnumF xs a.2.1 a.2.2 2048
 let b := z1W xs m.1 m.2
 (a.1, b.1, b.2)
def footR (b : List Nat) : List SpanE × List PostE × Int :=
 if z1B b then
  let t := footS (b.take (b.length - 4))
  if cendF (b.length - 4) t.2.2.1 t.2.2.2 = 0 then (t.1, t.2.1, 0) else ([], [], 4)
 else ([], [], if b.length < 4 then 3 else 6)
/-! what was written is read -/
theorem z1P {xs rest : List Nat} {p v : Nat} {most : Int} (hd : xs.drop p = putU v ++ rest) (hp : p ≤ xs.length) (hv : (v : Int) ≤ most) (hm : most ≤ 9223372036854775807) :
  cnumF xs p 0 most = (v, p + (putU v).length, 0) ∧ xs.drop (p + (putU v).length) = rest ∧ p + (putU v).length ≤ xs.length := by
 have hr := z1y (v := v) (by omega) hp hd
 refine ⟨?_, z12 hd, ?_⟩
 ·unfold cnumF
  rw [if_neg (by simp), hr, if_neg (by simp), if_neg (by simp only; omega)]
 ·have := congrArg List.length hd
  rw [List.length_drop, List.length_append] at this
  have := (z06 (n := v) (by omega)).1
  omega
theorem z5n {xs rest t : List Nat} {p m : Nat} (hd : xs.drop p = putU t.length ++ (t ++ rest)) (hp : p ≤ xs.length) (hv : t.length ≤ m) (hm : m < 9223372036854775808) :
  ctextF xs p 0 m = (t, p + (putU t.length).length + t.length, 0) ∧ xs.drop (p + (putU t.length).length + t.length) = rest ∧ p + (putU t.length).length + t.length ≤ xs.length := by
 have hr := z1y (v := t.length) (by omega) hp hd
 have hl := congrArg List.length hd
 rw [List.length_drop, List.length_append, List.length_append] at hl
 have h1 := (z06 (n := t.length) (by omega)).1
 have h2 := z12 hd
 refine ⟨?_, z12 h2, by omega⟩
 unfold ctextF
 rw [if_neg (by simp), hr, if_neg (by simp), if_neg (by simp only; omega), if_neg (by simp only; omega)]
 simp only
 rw [h2, List.take_left]
def SpanE.fits (s : SpanE) : Prop := (0 ≤ s.place ∧ s.place ≤ 262144) ∧ (0 ≤ s.size ∧ s.size ≤ 262144) ∧ (0 ≤ s.rows ∧ s.rows ≤ 262144) ∧ (0 ≤ s.lo ∧ s.lo ≤ 1099511627775) ∧ (0 ≤ s.hi ∧ s.hi ≤ 1099511627775)
theorem span_put {xs rest : List Nat} {p : Nat} {s : SpanE} (hf : s.fits) (hd : xs.drop p = spanB s ++ rest) (hp : p ≤ xs.length) :
  spanS xs (p, 0) = (s, p + (spanB s).length, 0) ∧ xs.drop (p + (spanB s).length) = rest ∧ p + (spanB s).length ≤ xs.length := by
 obtain ⟨a, b, c, d, e⟩ := s
 obtain ⟨h1, h2, h3, h4, h5⟩ := hf
 simp only at h1 h2 h3 h4 h5
 obtain ⟨a, rfl⟩ := Int.eq_ofNat_of_zero_le h1.1
 obtain ⟨b, rfl⟩ := Int.eq_ofNat_of_zero_le h2.1
 obtain ⟨c, rfl⟩ := Int.eq_ofNat_of_zero_le h3.1
 obtain ⟨d, rfl⟩ := Int.eq_ofNat_of_zero_le h4.1
 obtain ⟨e, rfl⟩ := Int.eq_ofNat_of_zero_le h5.1
 unfold spanB at *
 simp only [Int.toNat_natCast, List.append_assoc] at hd ⊢
 obtain ⟨e1, d1, l1⟩ := z1P (most := 262144) hd hp h1.2 (by decide)
 obtain ⟨e2, d2, l2⟩ := z1P (most := 262144) d1 l1 h2.2 (by decide)
 obtain ⟨e3, d3, l3⟩ := z1P (most := 262144) d2 l2 h3.2 (by decide)
 obtain ⟨e4, d4, l4⟩ := z1P (most := 1099511627775) d3 l3 h4.2 (by decide)
 obtain ⟨e5, d5, l5⟩ := z1P (most := 1099511627775) d4 l4 h5.2 (by decide)
 simp only [List.length_append, ← Nat.add_assoc]
 refine ⟨?_, d5, l5⟩
 unfold spanS
 simp only [e1, e2, e3, e4, e5]
theorem spans_put {xs : List Nat} : ∀ {l : List SpanE} {rest : List Nat} {p : Nat}, (∀ s ∈ l, s.fits) → xs.drop p = l.flatMap spanB ++ rest → p ≤ xs.length →
  z1A xs l.length (p, 0) = (l, p + (l.flatMap spanB).length, 0) ∧ xs.drop (p + (l.flatMap spanB).length) = rest ∧ p + (l.flatMap spanB).length ≤ xs.length
 | [], rest, p, _, hd, hp => ⟨rfl, hd, hp⟩
 | s :: l, rest, p, hf, hd, hp => by
   rw [List.flatMap_cons, List.append_assoc] at hd
   obtain ⟨e1, d1, l1⟩ := span_put (hf s List.mem_cons_self) hd hp
   obtain ⟨e2, d2, l2⟩ := spans_put (fun t ht => hf t (List.mem_cons_of_mem _ ht)) d1 l1
   rw [List.flatMap_cons, List.length_append, ← Nat.add_assoc]
   refine ⟨?_, d2, l2⟩
   rw [List.length_cons, z1A]
   simp only [e1, e2]
theorem nums_put {xs : List Nat} : ∀ {l : List Nat} {rest : List Nat} {p : Nat}, (∀ s ∈ l, s ≤ 262144) → xs.drop p = l.flatMap putU ++ rest → p ≤ xs.length →
  numsS xs l.length (p, 0) = (l, p + (l.flatMap putU).length, 0) ∧ xs.drop (p + (l.flatMap putU).length) = rest ∧ p + (l.flatMap putU).length ≤ xs.length
 | [], rest, p, _, hd, hp => ⟨rfl, hd, hp⟩
 | s :: l, rest, p, hf, hd, hp => by
   rw [List.flatMap_cons, List.append_assoc] at hd
   obtain ⟨e1, d1, l1⟩ := z1P (most := 262144) hd hp (by have := hf s List.mem_cons_self; omega) (by decide)
   obtain ⟨e2, d2, l2⟩ := nums_put (fun t ht => hf t (List.mem_cons_of_mem _ ht)) d1 l1
   rw [List.flatMap_cons, List.length_append, ← Nat.add_assoc]
   refine ⟨?_, d2, l2⟩
   rw [List.length_cons, numsS]
   simp only [e1, e2]
def PostE.fits (p : PostE) : Prop := p.text.size ≤ 1024 ∧ p.gs.length ≤ 2048 ∧ ∀ g ∈ p.gs, g ≤ 262144
theorem post_put {xs rest : List Nat} {p : Nat} {x : PostE} (hf : x.fits) (hd : xs.drop p = postB x ++ rest) (hp : p ≤ xs.length) :
  postS xs (p, 0) = (x, p + (postB x).length, 0) ∧ xs.drop (p + (postB x).length) = rest ∧ p + (postB x).length ≤ xs.length := by
 obtain ⟨t, gs⟩ := x
 obtain ⟨h1, h2, h3⟩ := hf
 simp only at h1 h2 h3
 unfold postB at *
 simp only [List.append_assoc] at hd ⊢
 rw [← z0r t] at hd h1 ⊢
 obtain ⟨e1, d1, l1⟩ := z5n hd hp h1 (by decide)
 obtain ⟨e2, d2, l2⟩ := z1P (most := 2048) d1 l1 (by omega) (by decide)
 obtain ⟨e3, d3, l3⟩ := nums_put h3 d2 l2
 simp only [List.length_append, ← Nat.add_assoc]
 refine ⟨?_, d3, l3⟩
 unfold postS
 simp only [e1, e2, e3, strB_wbF]
theorem goesOn_ok (xs : List Nat) (p : Nat) : z3b xs (p, 0) = true := by
 unfold z3b cendF
 rw [decide_eq_true_eq]
 simp only [ne_eq, not_true_eq_false, if_false]
 split
 ·exact .inr rfl
 ·exact .inl rfl
theorem posts_put {xs : List Nat} : ∀ {l : List PostE} {rest : List Nat} {p : Nat}, (∀ s ∈ l, s.fits) → xs.drop p = l.flatMap postB ++ rest → p ≤ xs.length →
  z1W xs l.length (p, 0) = (l, p + (l.flatMap postB).length, 0) ∧ xs.drop (p + (l.flatMap postB).length) = rest ∧ p + (l.flatMap postB).length ≤ xs.length
 | [], rest, p, _, hd, hp => ⟨rfl, hd, hp⟩
 | s :: l, rest, p, hf, hd, hp => by
   rw [List.flatMap_cons, List.append_assoc] at hd
   obtain ⟨e1, d1, l1⟩ := post_put (hf s List.mem_cons_self) hd hp
   obtain ⟨e2, d2, l2⟩ := posts_put (fun t ht => hf t (List.mem_cons_of_mem _ ht)) d1 l1
   rw [List.flatMap_cons, List.length_append, ← Nat.add_assoc]
   refine ⟨?_, d2, l2⟩
   rw [List.length_cons, z1W]
   simp only [e1, goesOn_ok, if_true, e2]
theorem foot_put {ss : List SpanE} {ps : List PostE} (hs : ∀ s ∈ ss, s.fits) (hp : ∀ p ∈ ps, p.fits) (h1 : ss.length ≤ 2048) (h2 : ps.length ≤ 2048) : footR (sealF (idxB ss ps)) = (ss, ps, 0) := by
 have hd0 : (idxB ss ps).drop 0 = putU ss.length ++ (ss.flatMap spanB ++ (putU ps.length ++ (ps.flatMap postB ++ []))) := by simp [idxB]
 obtain ⟨e1, d1, l1⟩ := z1P (most := 2048) hd0 (Nat.zero_le _) (by omega) (by decide)
 rw [Nat.zero_add] at e1 d1 l1
 obtain ⟨e2, d2, l2⟩ := spans_put hs d1 l1
 obtain ⟨e3, d3, l3⟩ := z1P (most := 2048) d2 l2 (by omega) (by decide)
 obtain ⟨e4, d4, l4⟩ := posts_put hp d3 l3
 have hl : (sealF (idxB ss ps)).length - 4 = (idxB ss ps).length := by rw [z0H]; omega
 have ht : (sealF (idxB ss ps)).take (idxB ss ps).length = idxB ss ps := by unfold sealF; rw [List.take_left]
 unfold footR
 rw [if_pos (z3l _), hl, ht]
 unfold footS
 simp only [e1, e2, e3, e4]
 have := List.drop_eq_nil_iff.1 d4
 rw [if_pos (by unfold cendF; rw [if_neg (by simp), if_neg (by omega)])]
end Go.Proofs.YtpakjclpjcngmaaGreat
namespace Go.Proofs.YtpakjclpjcngmaaGreat
open Ps
theorem runsF_len4 (all : List ByteArray) (ha : all.length ≤ 256) : ∀ (n : Nat) (l : List ByteArray), l.length ≤ n → n ≤ 256 → (runsF all l).length ≤ 4 * l.length := by
 intro n
 induction n with
 | zero =>
   intro l h _
   have : l = [] := List.eq_nil_of_length_eq_zero (by omega)
   subst this
   rw [z2h]
   exact Nat.zero_le _
 | succ n ih =>
   intro l h hn
   cases l with
   | nil => rw [z2h]; exact Nat.zero_le _
   | cons x xs =>
     rw [runsF]
     have h1 := runN_le x xs
     have h2 : idxF all x ≤ all.length := List.findIdx_le_length
     simp only [List.length_cons] at h
     have h3 := ih (xs.drop (runN x xs)) (by rw [List.length_drop]; omega) (by omega)
     have h4 := z1V (n := idxF all x) (by omega)
     have h5 := z1V (n := runN x xs + 1) (by omega)
     rw [List.length_drop] at h3
     simp only [List.length_append, List.length_cons]
     omega
theorem z4H : ∀ {all : List ByteArray}, (∀ s ∈ all, s.size ≤ 242) → (z1i all).length ≤ 244 * all.length
 | [], _ => Nat.le_refl _
 | s :: all, h => by
   have h1 := z4H (all := all) fun t ht => h t (List.mem_cons_of_mem _ ht)
   have h2 := h s List.mem_cons_self
   have h3 := z1V (n := s.size) (by omega)
   rw [z3g, List.length_append, List.length_append, z0r, List.length_cons]
   omega
theorem wordsC_few {l : List ByteArray} (hl : l.length ≤ 256) (hs : ∀ s ∈ l, s.size ≤ 242) : (wordsC l).length ≤ 65536 := by
 have h1 := z13 l
 have h2 := z4H (all := allF l) fun s h => hs s (z1o.1 h)
 have h3 := runsF_len4 (allF l) (by omega) _ l (Nat.le_refl _) hl
 have h4 := z1V (n := (allF l).length) (by omega)
 have h5 := z1V (n := l.length) (by omega)
 unfold wordsC
 simp only [List.length_append]
 omega
theorem szsF_len2 : ∀ {l : List ByteArray}, (∀ s ∈ l, s.size ≤ 200) → (szsF l).length ≤ 2 * l.length ∧ (catF l).length ≤ 200 * l.length
 | [], _ => ⟨Nat.le_refl _, Nat.le_refl _⟩
 | s :: l, h => by
   have h1 := szsF_len2 (l := l) fun t ht => h t (List.mem_cons_of_mem _ ht)
   have h2 := h s List.mem_cons_self
   have h3 := z1V (n := s.size) (by omega)
   unfold szsF catF at *
   simp only [List.flatMap_cons, List.length_append, List.length_cons, z0r]
   omega
theorem textsC_few {l : List ByteArray} (hl : l.length ≤ 256) (hs : ∀ s ∈ l, s.size ≤ 200) : (textsC l).length ≤ 65536 := by
 have h1 := szsF_len2 hs
 have h2 := z1V (n := l.length) (by omega)
 unfold textsC
 simp only [List.length_append]
 omega
def RowG (x : RowE) : Prop := recF x = true ∧ idF x = true
theorem z15 {x : RowE} (h : recF x = true) : 0 ≤ x.time ∧ x.time < 1099511627776 ∧ z0v x.labs = true ∧ (x.kind = 1 ∨ x.kind = 2) ∧ -1152921504606846976 ≤ x.value ∧ x.value ≤ 1152921504606846976 ∧ x.text.size ≤ 200 := by
 unfold recF at h
 rw [Bool.and_eq_true, Bool.and_eq_true, decide_eq_true_eq] at h
 obtain ⟨⟨⟨h1, h2⟩, h3⟩, h4⟩ := h
 refine ⟨h1, h2, h3, ?_⟩
 by_cases k1 : x.kind = 1
 ·rw [if_pos k1, Bool.and_eq_true, decide_eq_true_eq] at h4
  obtain ⟨⟨h5, h6⟩, _⟩ := h4
  exact ⟨.inl k1, by omega, by omega, h5⟩
 ·rw [if_neg k1] at h4
  by_cases k2 : x.kind = 2
  ·rw [if_pos k2, Bool.and_eq_true, decide_eq_true_eq] at h4
   obtain ⟨⟨h5, h6, h7⟩, _⟩ := h4
   exact ⟨.inr k2, h6, h7, by omega⟩
  ·rw [if_neg k2] at h4
   cases h4
theorem z5f {x : RowE} (h : idF x = true) : 1 ≤ x.maker ∧ x.maker ≤ 64 ∧ 1 ≤ x.seq ∧ x.seq < 1099511627776 ∧ 0 ≤ x.place ∧ x.place < 64 := by
 unfold idF at h
 rw [decide_eq_true_eq] at h
 exact h
theorem right_labs {l : List Lab} (h : z0v l = true) : l.length ≤ 4 ∧ ∀ x ∈ l, nameF x.name = true ∧ x.value.size ≤ 16 := by
 unfold z0v at h
 rw [Bool.and_eq_true, decide_eq_true_eq, z2o] at h
 refine ⟨h.1, fun x hx => ?_⟩
 obtain ⟨i, hi, rfl⟩ := List.mem_iff_getElem.1 hx
 have h2 := h.2 i hi
 unfold labF at h2
 rw [lab_get hi, Bool.and_eq_true, Bool.and_eq_true, decide_eq_true_eq] at h2
 exact h2.1
theorem z2H (x : RowE) : (rtxt x).size ≤ 242 := by
 unfold rtxt txtF
 split
 ·next h =>
  obtain ⟨h1, h2⟩ := right_labs h
  have h3 := z2N h2
  show (textF x.labs).toArray.size ≤ 242
  rw [List.size_toArray]
  unfold textF
  simp only [List.length_cons, List.length_append, List.length_nil]
  omega
 ·exact Nat.zero_le _
theorem rowErr_of {l : List Int} (h1 : l.length ≤ 2048) (h2 : ∀ x ∈ l, inI x) : rowErr l = 0 := by
 unfold rowErr
 rw [if_neg (by omega), if_pos h2]
theorem word_le (l : List RowE) : ∀ s ∈ l.map rtxt, s.size ≤ 1024 := fun s hs => by
 obtain ⟨x, _, rfl⟩ := List.mem_map.1 hs
 have := z2H x
 omega
structure GrpG (l : List RowE) : Prop where
 few : l.length ≤ 256
 row : ∀ x ∈ l, RowG x
theorem GrpG.ints {l : List RowE} (h : GrpG l) {f : RowE → Int} (hf : ∀ x, RowG x → inI (f x)) : rowErr (l.map f) = 0 :=
 rowErr_of (by rw [List.length_map]; have := h.few; omega) fun y hy => by
  obtain ⟨x, hx, rfl⟩ := List.mem_map.1 hy
  exact hf x (h.row x hx)
section
variable {l : List RowE} (h : GrpG l)
include h
theorem GrpG.time : rowErr (l.map fun x => x.time) = 0 := h.ints fun x hx => by have := z15 hx.1; unfold inI; omega
theorem GrpG.maker : rowErr (l.map fun x => x.maker) = 0 := h.ints fun x hx => by have := z5f hx.2; unfold inI; omega
theorem GrpG.seq : rowErr (l.map fun x => x.seq) = 0 := h.ints fun x hx => by have := z5f hx.2; unfold inI; omega
theorem GrpG.place : rowErr (l.map fun x => x.place) = 0 := h.ints fun x hx => by have := z5f hx.2; unfold inI; omega
theorem GrpG.kind : rowErr (l.map fun x => x.kind) = 0 := h.ints fun x hx => by have := z15 hx.1; unfold inI; omega
theorem GrpG.value : rowErr (l.map fun x => x.value) = 0 := h.ints fun x hx => by have := z15 hx.1; unfold inI; omega
theorem GrpG.words : (wordsC (l.map rtxt)).length ≤ 65536 := wordsC_few (by rw [List.length_map]; exact h.few) fun s hs => by
 obtain ⟨x, _, rfl⟩ := List.mem_map.1 hs
 exact z2H x
theorem GrpG.texts : (textsC (l.map fun x => x.text)).length ≤ 65536 := textsC_few (by rw [List.length_map]; exact h.few) fun s hs => by
 obtain ⟨x, hx, rfl⟩ := List.mem_map.1 hs
 exact (z15 (h.row x hx).1).2.2.2.2.2.2
theorem GrpG.text : ∀ s ∈ l.map (fun x => x.text), s.size ≤ 1024 := fun s hs => by
 obtain ⟨x, hx, rfl⟩ := List.mem_map.1 hs
 have := (z15 (h.row x hx).1).2.2.2.2.2.2
 show x.text.size ≤ 1024
 omega
end
theorem z30 {l : List RowE} {i : Nat} (h : i < l.length) : mayAt l i = (recF l[i] && idF l[i] && (decide (i = 0) || keyLt (l.getD (i - 1) l[i]) l[i])) := by
 unfold mayAt
 rw [List.getElem?_eq_getElem h]
 simp only
 cases i with
 | zero => simp
 | succ j =>
   simp only [List.getElem?_eq_getElem (show j < l.length by omega), Nat.add_sub_cancel, List.getD, Option.getD_some]
   simp
theorem z11 {l : List RowE} : mayF l = true ↔ 0 < l.length ∧ (∀ x ∈ l, RowG x) ∧ l.Pairwise (fun x y => keyLt x y = true) := by
 unfold mayF
 rw [Bool.and_eq_true, decide_eq_true_eq, z2o]
 constructor
 ·rintro ⟨h1, h2⟩
  refine ⟨h1, fun x hx => ?_, ?_⟩
  ·obtain ⟨i, hi, rfl⟩ := List.mem_iff_getElem.1 hx
   have h3 := h2 i hi
   rw [z30 hi, Bool.and_eq_true, Bool.and_eq_true] at h3
   exact h3.1
  ·have key : ∀ d i (hi : i + d + 1 < l.length), keyLt (l[i]'(by omega)) l[i + d + 1] = true := by
    intro d
    induction d with
    | zero =>
      intro i hi
      have h3 := h2 (i + 1) hi
      rw [z30 hi, Bool.and_eq_true, Bool.or_eq_true] at h3
      rcases h3.2 with h3 | h3
      ·simp at h3
      ·simpa [List.getD, List.getElem?_eq_getElem (show i < l.length by omega)] using h3
    | succ d ih =>
      intro i hi
      have a := ih i (by omega)
      have h3 := h2 (i + (d + 1) + 1) hi
      rw [z30 hi, Bool.and_eq_true, Bool.or_eq_true] at h3
      have b : keyLt (l[i + d + 1]'(by omega)) l[i + (d + 1) + 1] = true := by
       rcases h3.2 with h3 | h3
       ·simp at h3
       ·simpa [List.getD, List.getElem?_eq_getElem (show i + d + 1 < l.length by omega), show i + (d + 1) = i + d + 1 by omega] using h3
      exact key_weak.trans _ _ _ a b
   rw [List.pairwise_iff_getElem]
   intro i j hi hj hij
   have := key (j - i - 1) i (by omega)
   simpa [show i + (j - i - 1) + 1 = j by omega] using this
 ·rintro ⟨h1, h2, h3⟩
  refine ⟨h1, fun i hi => ?_⟩
  obtain ⟨h4, h5⟩ := h2 l[i] (List.getElem_mem hi)
  rw [z30 hi, h4, h5, Bool.and_eq_true, Bool.or_eq_true, decide_eq_true_eq]
  refine ⟨rfl, ?_⟩
  by_cases h0 : i = 0
  ·exact .inl h0
  ·right
   have := List.pairwise_iff_getElem.1 h3 (i - 1) i (by omega) hi (by omega)
   simpa [List.getD, List.getElem?_eq_getElem (show i - 1 < l.length by omega)] using this
end Go.Proofs.YtpakjclpjcngmaaGreat
namespace Go.Proofs.YtpakjclpjcngmaaGreat
open Go.RowKit
theorem txt_empty (t : ByteArray) : t.toList.isEmpty = decide (t.size = 0) := by
 rw [Bool.eq_iff_iff, List.isEmpty_iff, decide_eq_true_iff, ← List.length_eq_zero_iff]
 have : t.toList.length = t.size := by rw [ByteArray.toList_eq, Array.length_toList]; rfl
 omega
def recV (x : RV) : Value := .agg #[.int .i64 x.row.kind, .int .i64 x.row.time, .slice x.A x.row.labs.length x.c, .string x.row.text, .int .i64 x.row.value, .bool x.row.null]
section
variable {kind time value maker seq place : Int} {labs : List Lab} {text : ByteArray} {null : Bool}
theorem rec_t1 (h : ¬ 0 ≤ time) : recF (⟨kind, time, labs, text, value, null, maker, seq, place⟩ : RowE) = false := by simp [recF, h]
theorem rec_t2 (h : ¬ time < 1099511627776) : recF (⟨kind, time, labs, text, value, null, maker, seq, place⟩ : RowE) = false := by simp [recF]; omega
theorem rec_l (h : z0v labs = false) : recF (⟨kind, time, labs, text, value, null, maker, seq, place⟩ : RowE) = false := by simp [recF, h]
theorem rec_k (h1 : kind ≠ 1) (h2 : kind ≠ 2) : recF (⟨kind, time, labs, text, value, null, maker, seq, place⟩ : RowE) = false := by simp [recF, h1, h2]
end
section
variable {time value maker seq place : Int} {labs : List Lab} {text : ByteArray} {null : Bool}
theorem rec_1s (h : ¬ text.size ≤ 200) : recF (⟨1, time, labs, text, value, null, maker, seq, place⟩ : RowE) = false := by simp [recF, h]
theorem rec_1v (h : ¬ value = 0) : recF (⟨1, time, labs, text, value, null, maker, seq, place⟩ : RowE) = false := by simp [recF, h]
theorem rec_1 (h1 : 0 ≤ time) (h2 : time < 1099511627776) (h3 : z0v labs = true) (h4 : text.size ≤ 200) (h5 : value = 0) : recF (⟨1, time, labs, text, value, null, maker, seq, place⟩ : RowE) = !null := by simp [recF, h1, h2, h3, h4, h5]
theorem rec_2s (h : ¬ text.size = 0) : recF (⟨2, time, labs, text, value, null, maker, seq, place⟩ : RowE) = false := by simp [recF, h]
theorem rec_2a (h : ¬ -1152921504606846976 ≤ value) : recF (⟨2, time, labs, text, value, null, maker, seq, place⟩ : RowE) = false := by simp [recF]; omega
theorem rec_2b (h : ¬ value ≤ 1152921504606846976) : recF (⟨2, time, labs, text, value, null, maker, seq, place⟩ : RowE) = false := by simp [recF]; omega
theorem rec_2 (h1 : 0 ≤ time) (h2 : time < 1099511627776) (h3 : z0v labs = true) (h4 : text.size = 0) (h5 : -1152921504606846976 ≤ value) (h6 : value ≤ 1152921504606846976) : recF (⟨2, time, labs, text, value, null, maker, seq, place⟩ : RowE) = (!null || decide (value = 0)) := by simp [recF, h1, h2, h3, h4, h5, h6]
end
theorem recright_any {w : World} {D : Nat → Prop} (x : RV) (hx : x.ok w D) (hf : x.row.mid) :
  Calls Tryz.prog 88 #[recV x] w fun e w' => e = .returned (.bool (recF x.row)) ∧ Nx w w' := by
 have HR := hI (fun w' (c' : Nx w w') => z4U (c := x.c) (hx.1.nx (by decide) c') rfl (by have := hf.2; omega) hf.1.1)
 unfold recV
 obtain ⟨⟨kind, time, labs, text, value, null, maker, seq, place⟩, A1, c1⟩ := x
 simp only at HR ⊢
 clear hx hf
 have B1 := hI (Blk.new w 56 #[.int .i64 kind, .int .i64 time, .slice A1 labs.length c1, .string text, .int .i64 value, .bool null])
 have N1 := hI ((Ch.refl (fun _ => False) w).alloc (.cells #[.int .i64 kind, .int .i64 time, .slice A1 labs.length c1, .string text, .int .i64 value, .bool null] 56))
 by_cases h1 : 0 ≤ time
 ·by_cases h2 : time < 1099511627776
  ·cases hr : z0v labs
   ·rw [hr] at HR
    have HL := hI hr
    clear hr
    go_enter Tryz.func88, Tryz.ntmps88
    go_wp2_with fail
    refine (HR.out _ N1.out).mono ?_
    rintro e w2 ⟨rfl, n2⟩
    have N2 := hI (N1.out.tr n2)
    clear n2
    go_wp2_with fail
    go_ret
    exact ⟨by rw [rec_l HL.out]; first | done | rfl, N2.out⟩
   ·rw [hr] at HR
    have HL := hI hr
    clear hr
    by_cases hk1 : kind = 1
    ·subst hk1
     by_cases h4 : text.size ≤ 200
     ·by_cases h5 : value = 0
      ·subst h5
       cases null
       all_goals
        go_enter Tryz.func88, Tryz.ntmps88
        go_wp2_with fail
        refine (HR.out _ N1.out).mono ?_
        rintro e w2 ⟨rfl, n2⟩
        have N2 := hI (N1.out.tr n2)
        have b2 := B1.out.nx n2
        have q0 : w2.cell? ⟨w.heap.size, 0, none⟩ = some _ := b2.cell 0
        have q3 : w2.cell? ⟨w.heap.size, 3, none⟩ = some _ := b2.cell 3
        have q4 : w2.cell? ⟨w.heap.size, 4, none⟩ = some _ := b2.cell 4
        have q5 : w2.cell? ⟨w.heap.size, 5, none⟩ = some _ := b2.cell 5
        clear n2 b2
        go_wp2_with fail
        go_ret
        exact ⟨by rw [rec_1 h1 h2 HL.out h4 rfl]; first | done | rfl, N2.out⟩
      ·have q9 : (value == 0) = false := by simp [h5]
       go_enter Tryz.func88, Tryz.ntmps88
       go_wp2_with fail
       refine (HR.out _ N1.out).mono ?_
       rintro e w2 ⟨rfl, n2⟩
       have N2 := hI (N1.out.tr n2)
       have b2 := B1.out.nx n2
       have q0 : w2.cell? ⟨w.heap.size, 0, none⟩ = some _ := b2.cell 0
       have q3 : w2.cell? ⟨w.heap.size, 3, none⟩ = some _ := b2.cell 3
       have q4 : w2.cell? ⟨w.heap.size, 4, none⟩ = some _ := b2.cell 4
       have q5 : w2.cell? ⟨w.heap.size, 5, none⟩ = some _ := b2.cell 5
       clear n2 b2
       go_wp2_with fail
       go_ret
       exact ⟨by rw [rec_1v (by omega)]; first | done | rfl, N2.out⟩
     ·go_enter Tryz.func88, Tryz.ntmps88
      go_wp2_with fail
      refine (HR.out _ N1.out).mono ?_
      rintro e w2 ⟨rfl, n2⟩
      have N2 := hI (N1.out.tr n2)
      have b2 := B1.out.nx n2
      have q0 : w2.cell? ⟨w.heap.size, 0, none⟩ = some _ := b2.cell 0
      have q3 : w2.cell? ⟨w.heap.size, 3, none⟩ = some _ := b2.cell 3
      have q4 : w2.cell? ⟨w.heap.size, 4, none⟩ = some _ := b2.cell 4
      have q5 : w2.cell? ⟨w.heap.size, 5, none⟩ = some _ := b2.cell 5
      clear n2 b2
      go_wp2_with fail
      go_ret
      exact ⟨by rw [rec_1s (by omega)]; first | done | rfl, N2.out⟩
    ·by_cases hk2 : kind = 2
     ·subst hk2
      have hE : (text.toList.isEmpty) = decide (text.size = 0) := txt_empty text
      by_cases h4 : text.size = 0
      ·rw [decide_eq_true h4] at hE
       by_cases h5 : -1152921504606846976 ≤ value
       ·by_cases h6 : value ≤ 1152921504606846976
        ·cases null
         ·go_enter Tryz.func88, Tryz.ntmps88
          go_wp2_with fail
          refine (HR.out _ N1.out).mono ?_
          rintro e w2 ⟨rfl, n2⟩
          have N2 := hI (N1.out.tr n2)
          have b2 := B1.out.nx n2
          have q0 : w2.cell? ⟨w.heap.size, 0, none⟩ = some _ := b2.cell 0
          have q3 : w2.cell? ⟨w.heap.size, 3, none⟩ = some _ := b2.cell 3
          have q4 : w2.cell? ⟨w.heap.size, 4, none⟩ = some _ := b2.cell 4
          have q5 : w2.cell? ⟨w.heap.size, 5, none⟩ = some _ := b2.cell 5
          clear n2 b2
          go_wp2_with fail
          go_ret
          exact ⟨by rw [rec_2 h1 h2 HL.out h4 h5 h6]; first | done | rfl, N2.out⟩
         ·by_cases h7 : value = 0
          ·subst h7
           go_enter Tryz.func88, Tryz.ntmps88
           go_wp2_with fail
           refine (HR.out _ N1.out).mono ?_
           rintro e w2 ⟨rfl, n2⟩
           have N2 := hI (N1.out.tr n2)
           have b2 := B1.out.nx n2
           have q0 : w2.cell? ⟨w.heap.size, 0, none⟩ = some _ := b2.cell 0
           have q3 : w2.cell? ⟨w.heap.size, 3, none⟩ = some _ := b2.cell 3
           have q4 : w2.cell? ⟨w.heap.size, 4, none⟩ = some _ := b2.cell 4
           have q5 : w2.cell? ⟨w.heap.size, 5, none⟩ = some _ := b2.cell 5
           clear n2 b2
           go_wp2_with fail
           go_ret
           exact ⟨by rw [rec_2 h1 h2 HL.out h4 (by decide) (by decide)]; rfl, N2.out⟩
          ·have q9 : (value == 0) = false := by simp [h7]
           go_enter Tryz.func88, Tryz.ntmps88
           go_wp2_with fail
           refine (HR.out _ N1.out).mono ?_
           rintro e w2 ⟨rfl, n2⟩
           have N2 := hI (N1.out.tr n2)
           have b2 := B1.out.nx n2
           have q0 : w2.cell? ⟨w.heap.size, 0, none⟩ = some _ := b2.cell 0
           have q3 : w2.cell? ⟨w.heap.size, 3, none⟩ = some _ := b2.cell 3
           have q4 : w2.cell? ⟨w.heap.size, 4, none⟩ = some _ := b2.cell 4
           have q5 : w2.cell? ⟨w.heap.size, 5, none⟩ = some _ := b2.cell 5
           clear n2 b2
           go_wp2_with fail
           go_ret
           exact ⟨by rw [rec_2 h1 h2 HL.out h4 h5 h6]; simp [h7], N2.out⟩
        ·go_enter Tryz.func88, Tryz.ntmps88
         go_wp2_with fail
         refine (HR.out _ N1.out).mono ?_
         rintro e w2 ⟨rfl, n2⟩
         have N2 := hI (N1.out.tr n2)
         have b2 := B1.out.nx n2
         have q0 : w2.cell? ⟨w.heap.size, 0, none⟩ = some _ := b2.cell 0
         have q3 : w2.cell? ⟨w.heap.size, 3, none⟩ = some _ := b2.cell 3
         have q4 : w2.cell? ⟨w.heap.size, 4, none⟩ = some _ := b2.cell 4
         have q5 : w2.cell? ⟨w.heap.size, 5, none⟩ = some _ := b2.cell 5
         clear n2 b2
         go_wp2_with fail
         go_ret
         exact ⟨by rw [rec_2b (by omega)]; first | done | rfl, N2.out⟩
       ·go_enter Tryz.func88, Tryz.ntmps88
        go_wp2_with fail
        refine (HR.out _ N1.out).mono ?_
        rintro e w2 ⟨rfl, n2⟩
        have N2 := hI (N1.out.tr n2)
        have b2 := B1.out.nx n2
        have q0 : w2.cell? ⟨w.heap.size, 0, none⟩ = some _ := b2.cell 0
        have q3 : w2.cell? ⟨w.heap.size, 3, none⟩ = some _ := b2.cell 3
        have q4 : w2.cell? ⟨w.heap.size, 4, none⟩ = some _ := b2.cell 4
        have q5 : w2.cell? ⟨w.heap.size, 5, none⟩ = some _ := b2.cell 5
        clear n2 b2
        go_wp2_with fail
        go_ret
        exact ⟨by rw [rec_2a (by omega)]; first | done | rfl, N2.out⟩
      ·rw [decide_eq_false h4] at hE
       go_enter Tryz.func88, Tryz.ntmps88
       go_wp2_with fail
       refine (HR.out _ N1.out).mono ?_
       rintro e w2 ⟨rfl, n2⟩
       have N2 := hI (N1.out.tr n2)
       have b2 := B1.out.nx n2
       have q0 : w2.cell? ⟨w.heap.size, 0, none⟩ = some _ := b2.cell 0
       have q3 : w2.cell? ⟨w.heap.size, 3, none⟩ = some _ := b2.cell 3
       have q4 : w2.cell? ⟨w.heap.size, 4, none⟩ = some _ := b2.cell 4
       have q5 : w2.cell? ⟨w.heap.size, 5, none⟩ = some _ := b2.cell 5
       clear n2 b2
       go_wp2_with fail
       go_ret
       exact ⟨by rw [rec_2s (by omega)]; first | done | rfl, N2.out⟩
     ·have q7 : (kind == 1) = false := by simp [hk1]
      have q8 : (kind == 2) = false := by simp [hk2]
      go_enter Tryz.func88, Tryz.ntmps88
      go_wp2_with fail
      refine (HR.out _ N1.out).mono ?_
      rintro e w2 ⟨rfl, n2⟩
      have N2 := hI (N1.out.tr n2)
      have b2 := B1.out.nx n2
      have q0 : w2.cell? ⟨w.heap.size, 0, none⟩ = some _ := b2.cell 0
      have q3 : w2.cell? ⟨w.heap.size, 3, none⟩ = some _ := b2.cell 3
      have q4 : w2.cell? ⟨w.heap.size, 4, none⟩ = some _ := b2.cell 4
      have q5 : w2.cell? ⟨w.heap.size, 5, none⟩ = some _ := b2.cell 5
      clear n2 b2
      go_wp2_with fail
      go_ret
      exact ⟨by rw [rec_k hk1 hk2]; first | done | rfl, N2.out⟩
  ·go_enter Tryz.func88, Tryz.ntmps88
   go_wp2_with fail
   go_wp2_with fail
   go_ret
   exact ⟨by rw [rec_t2 (by omega)]; first | done | rfl, N1.out⟩
 ·go_enter Tryz.func88, Tryz.ntmps88
  go_wp2_with fail
  go_wp2_with fail
  go_ret
  exact ⟨by rw [rec_t1 (by omega)]; first | done | rfl, N1.out⟩
end Go.Proofs.YtpakjclpjcngmaaGreat
