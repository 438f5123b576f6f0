/- Contracts and plain laws that the last text rests on. Conditions: each theorem states its own. -/
import Derived.Test.YtpakjclpjcngmaaGreatKrQ16
import Derived.Test.YtpakjclpjcngmaaGreatKrQ2
import Derived.Test.YtpakjclpjcngmaaGreatKrQ18
import Derived.Test.YtpakjclpjcngmaaGreatKrQ11
import Derived.Test.YtpakjclpjcngmaaGreatKrQ5
import Derived.Test.YtpakjclpjcngmaaGreatKrQ1
import Derived.IntWalk
import Derived.Laws.BitsAllLaws
import Derived.Deep.RegionHeld3
import Derived.Test.YtpakjclpjcngmaaGreatKrQ19
set_option maxRecDepth 100000
set_option linter.unusedVariables false
namespace Go.Proofs.YtpakjclpjcngmaaGreat
def recF (x : RowE) : Bool :=
 decide (0 ≤ x.time ∧ x.time < 1099511627776) && rightF x.labs &&
  (if x.kind = 1 then decide (x.text.size ≤ 200 ∧ x.value = 0) && !x.null
   else if x.kind = 2 then decide (x.text.size = 0 ∧ -1152921504606846976 ≤ x.value ∧ x.value ≤ 1152921504606846976) && (!x.null || decide (x.value = 0))
   else false)
def idF (x : RowE) : Bool := decide (1 ≤ x.maker ∧ x.maker ≤ 64 ∧ 1 ≤ x.seq ∧ x.seq < 1099511627776 ∧ 0 ≤ x.place ∧ x.place < 64)
def mayAt (l : List RowE) (i : Nat) : Bool := match l[i]? with
 | none => false
 | some x => recF x && idF x && (match i with | 0 => true | j + 1 => match l[j]? with | none => false | some y => keyLt y x)
def mayF (l : List RowE) : Bool := decide (0 < l.length) && (List.range l.length).all (mayAt l)
def rtxt (x : RowE) : ByteArray := txtF x.labs
def withF (x : List Nat) : List Nat := putU x.length ++ x
def colsF (l : List RowE) : List (List Nat) :=
 [chunkF 1 (intsC (l.map fun x => x.time)), chunkF 1 (intsC (l.map fun x => x.maker)), chunkF 1 (intsC (l.map fun x => x.seq)), chunkF 1 (intsC (l.map fun x => x.place)), chunkF 1 (intsC (l.map fun x => x.kind)),
  chunkF 2 (wordsC (l.map rtxt)), chunkF 3 (textsC (l.map fun x => x.text)), chunkF 1 (intsC (l.map fun x => x.value)), chunkF 4 (flagsC (l.map fun x => x.null))]
def groupF (l : List RowE) : List Nat := (colsF l).flatMap withF
def cutsF {α : Type} (per : Nat) (l : List α) : List (List α) := (List.range ((l.length + per - 1) / per)).map fun i => (l.drop (i * per)).take per
structure PostE where
 text : ByteArray
 gs : List Nat
def spanB (s : SpanE) : List Nat := putU s.place.toNat ++ putU s.size.toNat ++ putU s.rows.toNat ++ putU s.lo.toNat ++ putU s.hi.toNat
def postB (p : PostE) : List Nat := putU p.text.size ++ wbF p.text ++ putU p.gs.length ++ p.gs.flatMap putU
def idxB (ss : List SpanE) (ps : List PostE) : List Nat := putU ss.length ++ ss.flatMap spanB ++ putU ps.length ++ ps.flatMap postB
def headB : List Nat := [69, 78, 84, 82, 1]
def firstT (l : List RowE) : Int := match l.head? with | some x => x.time | none => 0
def lastT (l : List RowE) : Int := match l.getLast? with | some x => x.time | none => 0
def spansF : Nat → List (List RowE) → List SpanE
 | _, [] => []
 | at_, g :: gs => ⟨at_, (groupF g).length, g.length, firstT g, lastT g⟩ :: spansF (at_ + (groupF g).length) gs
def hasF (t : ByteArray) (k : Nat) (gs : List (List RowE)) : List Nat := ((List.range gs.length).filter fun i => (gs.getD i []).any fun x => decide (rtxt x = t)).map (· + k)
def postsF (gs : List (List RowE)) : List PostE := (allF (gs.flatten.map rtxt)).map fun t => ⟨t, hasF t 0 gs⟩
def bodyG (gs : List (List RowE)) : List Nat := gs.flatMap groupF
def footF (gs : List (List RowE)) : List Nat := sealF (idxB (spansF 5 gs) (postsF gs))
def blkF (gs : List (List RowE)) : List Nat := headB ++ bodyG gs ++ footF gs ++ four (footF gs).length ++ [69, 78, 84, 82]
def buildF (l : List RowE) (per : Nat) : List Nat := blkF (cutsF per l)
abbrev CurS := Nat × Int
def spanS (xs : List Nat) (s : CurS) : SpanE × CurS :=
 let a := cnumF xs s.1 s.2 262144
 let b := cnumF xs a.2.1 a.2.2 262144
 let c := cnumF xs b.2.1 b.2.2 262144
 let d := cnumF xs c.2.1 c.2.2 1099511627775
 let e := cnumF xs d.2.1 d.2.2 1099511627775
 (⟨a.1, b.1, c.1, d.1, e.1⟩, e.2)
def spansS (xs : List Nat) : Nat → CurS → List SpanE × CurS
 | 0, s => ([], s)
 | n + 1, s => let a := spanS xs s; let b := spansS xs n a.2; (a.1 :: b.1, b.2)
def numsS (xs : List Nat) : Nat → CurS → List Nat × CurS
 | 0, s => ([], s)
 | n + 1, s => let a := cnumF xs s.1 s.2 262144; let b := numsS xs n a.2; (a.1 :: b.1, b.2)
def postS (xs : List Nat) (s : CurS) : PostE × CurS :=
 let t := ctextF xs s.1 s.2 1024
 let m := cnumF xs t.2.1 t.2.2 2048
 let g := numsS xs m.1 m.2
 (⟨strB t.1, g.1⟩, g.2)
def goesOn (xs : List Nat) (s : CurS) : Bool := decide (cendF xs.length s.1 s.2 = 0 ∨ cendF xs.length s.1 s.2 = 5)
def postsS (xs : List Nat) : Nat → CurS → List PostE × CurS
 | 0, s => ([], s)
 | n + 1, s => let a := postS xs s; if goesOn xs a.2 = true then let b := postsS xs n a.2; (a.1 :: b.1, b.2) else ([a.1], a.2)
def footS (xs : List Nat) : List SpanE × List PostE × CurS :=
 let n := cnumF xs 0 0 2048
 let a := spansS xs n.1 n.2
 let m := cnumF xs a.2.1 a.2.2 2048
 let b := postsS xs m.1 m.2
 (a.1, b.1, b.2)
def footR (b : List Nat) : List SpanE × List PostE × Int :=
 if openOk b then
  let t := footS (b.take (b.length - 4))
  if cendF (b.length - 4) t.2.2.1 t.2.2.2 = 0 then (t.1, t.2.1, 0) else ([], [], 4)
 else ([], [], if b.length < 4 then 3 else 6)
/-! what was written is read -/
theorem cnum_put {xs rest : List Nat} {p v : Nat} {most : Int} (hd : xs.drop p = putU v ++ rest) (hp : p ≤ xs.length) (hv : (v : Int) ≤ most) (hm : most ≤ 9223372036854775807) :
  cnumF xs p 0 most = (v, p + (putU v).length, 0) ∧ xs.drop (p + (putU v).length) = rest ∧ p + (putU v).length ≤ xs.length := by
 have hr := readU_at (v := v) (by omega) hp hd
 refine ⟨?_, drop_at hd, ?_⟩
 ·unfold cnumF
  rw [if_neg (by simp), hr, if_neg (by simp), if_neg (by simp only; omega)]
 ·have := congrArg List.length hd
  rw [List.length_drop, List.length_append] at this
  have := (putU_len10 (n := v) (by omega)).1
  omega
theorem ctext_put {xs rest t : List Nat} {p m : Nat} (hd : xs.drop p = putU t.length ++ (t ++ rest)) (hp : p ≤ xs.length) (hv : t.length ≤ m) (hm : m < 9223372036854775808) :
  ctextF xs p 0 m = (t, p + (putU t.length).length + t.length, 0) ∧ xs.drop (p + (putU t.length).length + t.length) = rest ∧ p + (putU t.length).length + t.length ≤ xs.length := by
 have hr := readU_at (v := t.length) (by omega) hp hd
 have hl := congrArg List.length hd
 rw [List.length_drop, List.length_append, List.length_append] at hl
 have h1 := (putU_len10 (n := t.length) (by omega)).1
 have h2 := drop_at hd
 refine ⟨?_, drop_at h2, by omega⟩
 unfold ctextF
 rw [if_neg (by simp), hr, if_neg (by simp), if_neg (by simp only; omega), if_neg (by simp only; omega)]
 simp only
 rw [h2, List.take_left]
def SpanE.fits (s : SpanE) : Prop := (0 ≤ s.place ∧ s.place ≤ 262144) ∧ (0 ≤ s.size ∧ s.size ≤ 262144) ∧ (0 ≤ s.rows ∧ s.rows ≤ 262144) ∧ (0 ≤ s.lo ∧ s.lo ≤ 1099511627775) ∧ (0 ≤ s.hi ∧ s.hi ≤ 1099511627775)
theorem span_put {xs rest : List Nat} {p : Nat} {s : SpanE} (hf : s.fits) (hd : xs.drop p = spanB s ++ rest) (hp : p ≤ xs.length) :
  spanS xs (p, 0) = (s, p + (spanB s).length, 0) ∧ xs.drop (p + (spanB s).length) = rest ∧ p + (spanB s).length ≤ xs.length := by
 obtain ⟨a, b, c, d, e⟩ := s
 obtain ⟨h1, h2, h3, h4, h5⟩ := hf
 simp only at h1 h2 h3 h4 h5
 obtain ⟨a, rfl⟩ := Int.eq_ofNat_of_zero_le h1.1
 obtain ⟨b, rfl⟩ := Int.eq_ofNat_of_zero_le h2.1
 obtain ⟨c, rfl⟩ := Int.eq_ofNat_of_zero_le h3.1
 obtain ⟨d, rfl⟩ := Int.eq_ofNat_of_zero_le h4.1
 obtain ⟨e, rfl⟩ := Int.eq_ofNat_of_zero_le h5.1
 unfold spanB at *
 simp only [Int.toNat_natCast, List.append_assoc] at hd ⊢
 obtain ⟨e1, d1, l1⟩ := cnum_put (most := 262144) hd hp h1.2 (by decide)
 obtain ⟨e2, d2, l2⟩ := cnum_put (most := 262144) d1 l1 h2.2 (by decide)
 obtain ⟨e3, d3, l3⟩ := cnum_put (most := 262144) d2 l2 h3.2 (by decide)
 obtain ⟨e4, d4, l4⟩ := cnum_put (most := 1099511627775) d3 l3 h4.2 (by decide)
 obtain ⟨e5, d5, l5⟩ := cnum_put (most := 1099511627775) d4 l4 h5.2 (by decide)
 simp only [List.length_append, ← Nat.add_assoc]
 refine ⟨?_, d5, l5⟩
 unfold spanS
 simp only [e1, e2, e3, e4, e5]
theorem spans_put {xs : List Nat} : ∀ {l : List SpanE} {rest : List Nat} {p : Nat}, (∀ s ∈ l, s.fits) → xs.drop p = l.flatMap spanB ++ rest → p ≤ xs.length →
  spansS xs l.length (p, 0) = (l, p + (l.flatMap spanB).length, 0) ∧ xs.drop (p + (l.flatMap spanB).length) = rest ∧ p + (l.flatMap spanB).length ≤ xs.length
 | [], rest, p, _, hd, hp => ⟨rfl, hd, hp⟩
 | s :: l, rest, p, hf, hd, hp => by
   rw [List.flatMap_cons, List.append_assoc] at hd
   obtain ⟨e1, d1, l1⟩ := span_put (hf s List.mem_cons_self) hd hp
   obtain ⟨e2, d2, l2⟩ := spans_put (fun t ht => hf t (List.mem_cons_of_mem _ ht)) d1 l1
   rw [List.flatMap_cons, List.length_append, ← Nat.add_assoc]
   refine ⟨?_, d2, l2⟩
   rw [List.length_cons, spansS]
   simp only [e1, e2]
theorem nums_put {xs : List Nat} : ∀ {l : List Nat} {rest : List Nat} {p : Nat}, (∀ s ∈ l, s ≤ 262144) → xs.drop p = l.flatMap putU ++ rest → p ≤ xs.length →
  numsS xs l.length (p, 0) = (l, p + (l.flatMap putU).length, 0) ∧ xs.drop (p + (l.flatMap putU).length) = rest ∧ p + (l.flatMap putU).length ≤ xs.length
 | [], rest, p, _, hd, hp => ⟨rfl, hd, hp⟩
 | s :: l, rest, p, hf, hd, hp => by
   rw [List.flatMap_cons, List.append_assoc] at hd
   obtain ⟨e1, d1, l1⟩ := cnum_put (most := 262144) hd hp (by have := hf s List.mem_cons_self; omega) (by decide)
   obtain ⟨e2, d2, l2⟩ := nums_put (fun t ht => hf t (List.mem_cons_of_mem _ ht)) d1 l1
   rw [List.flatMap_cons, List.length_append, ← Nat.add_assoc]
   refine ⟨?_, d2, l2⟩
   rw [List.length_cons, numsS]
   simp only [e1, e2]
def PostE.fits (p : PostE) : Prop := p.text.size ≤ 1024 ∧ p.gs.length ≤ 2048 ∧ ∀ g ∈ p.gs, g ≤ 262144
theorem post_put {xs rest : List Nat} {p : Nat} {x : PostE} (hf : x.fits) (hd : xs.drop p = postB x ++ rest) (hp : p ≤ xs.length) :
  postS xs (p, 0) = (x, p + (postB x).length, 0) ∧ xs.drop (p + (postB x).length) = rest ∧ p + (postB x).length ≤ xs.length := by
 obtain ⟨t, gs⟩ := x
 obtain ⟨h1, h2, h3⟩ := hf
 simp only at h1 h2 h3
 unfold postB at *
 simp only [List.append_assoc] at hd ⊢
 rw [← wbF_length t] at hd h1 ⊢
 obtain ⟨e1, d1, l1⟩ := ctext_put hd hp h1 (by decide)
 obtain ⟨e2, d2, l2⟩ := cnum_put (most := 2048) d1 l1 (by omega) (by decide)
 obtain ⟨e3, d3, l3⟩ := nums_put h3 d2 l2
 simp only [List.length_append, ← Nat.add_assoc]
 refine ⟨?_, d3, l3⟩
 unfold postS
 simp only [e1, e2, e3, strB_wbF]
theorem goesOn_ok (xs : List Nat) (p : Nat) : goesOn xs (p, 0) = true := by
 unfold goesOn cendF
 rw [decide_eq_true_eq]
 simp only [ne_eq, not_true_eq_false, if_false]
 split
 ·exact .inr rfl
 ·exact .inl rfl
theorem posts_put {xs : List Nat} : ∀ {l : List PostE} {rest : List Nat} {p : Nat}, (∀ s ∈ l, s.fits) → xs.drop p = l.flatMap postB ++ rest → p ≤ xs.length →
  postsS xs l.length (p, 0) = (l, p + (l.flatMap postB).length, 0) ∧ xs.drop (p + (l.flatMap postB).length) = rest ∧ p + (l.flatMap postB).length ≤ xs.length
 | [], rest, p, _, hd, hp => ⟨rfl, hd, hp⟩
 | s :: l, rest, p, hf, hd, hp => by
   rw [List.flatMap_cons, List.append_assoc] at hd
   obtain ⟨e1, d1, l1⟩ := post_put (hf s List.mem_cons_self) hd hp
   obtain ⟨e2, d2, l2⟩ := posts_put (fun t ht => hf t (List.mem_cons_of_mem _ ht)) d1 l1
   rw [List.flatMap_cons, List.length_append, ← Nat.add_assoc]
   refine ⟨?_, d2, l2⟩
   rw [List.length_cons, postsS]
   simp only [e1, goesOn_ok, if_true, e2]
theorem foot_put {ss : List SpanE} {ps : List PostE} (hs : ∀ s ∈ ss, s.fits) (hp : ∀ p ∈ ps, p.fits) (h1 : ss.length ≤ 2048) (h2 : ps.length ≤ 2048) : footR (sealF (idxB ss ps)) = (ss, ps, 0) := by
 have hd0 : (idxB ss ps).drop 0 = putU ss.length ++ (ss.flatMap spanB ++ (putU ps.length ++ (ps.flatMap postB ++ []))) := by simp [idxB]
 obtain ⟨e1, d1, l1⟩ := cnum_put (most := 2048) hd0 (Nat.zero_le _) (by omega) (by decide)
 rw [Nat.zero_add] at e1 d1 l1
 obtain ⟨e2, d2, l2⟩ := spans_put hs d1 l1
 obtain ⟨e3, d3, l3⟩ := cnum_put (most := 2048) d2 l2 (by omega) (by decide)
 obtain ⟨e4, d4, l4⟩ := posts_put hp d3 l3
 have hl : (sealF (idxB ss ps)).length - 4 = (idxB ss ps).length := by rw [sealF_length]; omega
 have ht : (sealF (idxB ss ps)).take (idxB ss ps).length = idxB ss ps := by unfold sealF; rw [List.take_left]
 unfold footR
 rw [if_pos (openOk_seal _), hl, ht]
 unfold footS
 simp only [e1, e2, e3, e4]
 have := List.drop_eq_nil_iff.1 d4
 rw [if_pos (by unfold cendF; rw [if_neg (by simp), if_neg (by omega)])]
end Go.Proofs.YtpakjclpjcngmaaGreat
namespace Go.Proofs.YtpakjclpjcngmaaGreat
open Ps
theorem runsF_len4 (all : List ByteArray) (ha : all.length ≤ 256) : ∀ (n : Nat) (l : List ByteArray), l.length ≤ n → n ≤ 256 → (runsF all l).length ≤ 4 * l.length := by
 intro n
 induction n with
 | zero =>
   intro l h _
   have : l = [] := List.eq_nil_of_length_eq_zero (by omega)
   subst this
   rw [runsF_nil]
   exact Nat.zero_le _
 | succ n ih =>
   intro l h hn
   cases l with
   | nil => rw [runsF_nil]; exact Nat.zero_le _
   | cons x xs =>
     rw [runsF]
     have h1 := runN_le x xs
     have h2 : idxF all x ≤ all.length := List.findIdx_le_length
     simp only [List.length_cons] at h
     have h3 := ih (xs.drop (runN x xs)) (by rw [List.length_drop]; omega) (by omega)
     have h4 := putU_len2 (n := idxF all x) (by omega)
     have h5 := putU_len2 (n := runN x xs + 1) (by omega)
     rw [List.length_drop] at h3
     simp only [List.length_append, List.length_cons]
     omega
theorem textsF_len4 : ∀ {all : List ByteArray}, (∀ s ∈ all, s.size ≤ 242) → (textsF all).length ≤ 244 * all.length
 | [], _ => Nat.le_refl _
 | s :: all, h => by
   have h1 := textsF_len4 (all := all) fun t ht => h t (List.mem_cons_of_mem _ ht)
   have h2 := h s List.mem_cons_self
   have h3 := putU_len2 (n := s.size) (by omega)
   rw [textsF_cons, List.length_append, List.length_append, wbF_length, List.length_cons]
   omega
theorem wordsC_few {l : List ByteArray} (hl : l.length ≤ 256) (hs : ∀ s ∈ l, s.size ≤ 242) : (wordsC l).length ≤ 65536 := by
 have h1 := allF_length l
 have h2 := textsF_len4 (all := allF l) fun s h => hs s (mem_allF.1 h)
 have h3 := runsF_len4 (allF l) (by omega) _ l (Nat.le_refl _) hl
 have h4 := putU_len2 (n := (allF l).length) (by omega)
 have h5 := putU_len2 (n := l.length) (by omega)
 unfold wordsC
 simp only [List.length_append]
 omega
theorem szsF_len2 : ∀ {l : List ByteArray}, (∀ s ∈ l, s.size ≤ 200) → (szsF l).length ≤ 2 * l.length ∧ (catF l).length ≤ 200 * l.length
 | [], _ => ⟨Nat.le_refl _, Nat.le_refl _⟩
 | s :: l, h => by
   have h1 := szsF_len2 (l := l) fun t ht => h t (List.mem_cons_of_mem _ ht)
   have h2 := h s List.mem_cons_self
   have h3 := putU_len2 (n := s.size) (by omega)
   unfold szsF catF at *
   simp only [List.flatMap_cons, List.length_append, List.length_cons, wbF_length]
   omega
theorem textsC_few {l : List ByteArray} (hl : l.length ≤ 256) (hs : ∀ s ∈ l, s.size ≤ 200) : (textsC l).length ≤ 65536 := by
 have h1 := szsF_len2 hs
 have h2 := putU_len2 (n := l.length) (by omega)
 unfold textsC
 simp only [List.length_append]
 omega
def RowG (x : RowE) : Prop := recF x = true ∧ idF x = true
theorem recF_facts {x : RowE} (h : recF x = true) : 0 ≤ x.time ∧ x.time < 1099511627776 ∧ rightF x.labs = true ∧ (x.kind = 1 ∨ x.kind = 2) ∧ -1152921504606846976 ≤ x.value ∧ x.value ≤ 1152921504606846976 ∧ x.text.size ≤ 200 := by
 unfold recF at h
 rw [Bool.and_eq_true, Bool.and_eq_true, decide_eq_true_eq] at h
 obtain ⟨⟨⟨h1, h2⟩, h3⟩, h4⟩ := h
 refine ⟨h1, h2, h3, ?_⟩
 by_cases k1 : x.kind = 1
 ·rw [if_pos k1, Bool.and_eq_true, decide_eq_true_eq] at h4
  obtain ⟨⟨h5, h6⟩, _⟩ := h4
  exact ⟨.inl k1, by omega, by omega, h5⟩
 ·rw [if_neg k1] at h4
  by_cases k2 : x.kind = 2
  ·rw [if_pos k2, Bool.and_eq_true, decide_eq_true_eq] at h4
   obtain ⟨⟨h5, h6, h7⟩, _⟩ := h4
   exact ⟨.inr k2, h6, h7, by omega⟩
  ·rw [if_neg k2] at h4
   cases h4
theorem idF_facts {x : RowE} (h : idF x = true) : 1 ≤ x.maker ∧ x.maker ≤ 64 ∧ 1 ≤ x.seq ∧ x.seq < 1099511627776 ∧ 0 ≤ x.place ∧ x.place < 64 := by
 unfold idF at h
 rw [decide_eq_true_eq] at h
 exact h
theorem right_labs {l : List Lab} (h : rightF l = true) : l.length ≤ 4 ∧ ∀ x ∈ l, nameF x.name = true ∧ x.value.size ≤ 16 := by
 unfold rightF at h
 rw [Bool.and_eq_true, decide_eq_true_eq, all_range] at h
 refine ⟨h.1, fun x hx => ?_⟩
 obtain ⟨i, hi, rfl⟩ := List.mem_iff_getElem.1 hx
 have h2 := h.2 i hi
 unfold labF at h2
 rw [lab_get hi, Bool.and_eq_true, Bool.and_eq_true, decide_eq_true_eq] at h2
 exact h2.1
theorem rtxt_size (x : RowE) : (rtxt x).size ≤ 242 := by
 unfold rtxt txtF
 split
 ·next h =>
  obtain ⟨h1, h2⟩ := right_labs h
  have h3 := bodyT_len h2
  show (textF x.labs).toArray.size ≤ 242
  rw [List.size_toArray]
  unfold textF
  simp only [List.length_cons, List.length_append, List.length_nil]
  omega
 ·exact Nat.zero_le _
theorem rowErr_of {l : List Int} (h1 : l.length ≤ 2048) (h2 : ∀ x ∈ l, inI x) : rowErr l = 0 := by
 unfold rowErr
 rw [if_neg (by omega), if_pos h2]
theorem word_le (l : List RowE) : ∀ s ∈ l.map rtxt, s.size ≤ 1024 := fun s hs => by
 obtain ⟨x, _, rfl⟩ := List.mem_map.1 hs
 have := rtxt_size x
 omega
structure GrpG (l : List RowE) : Prop where
 few : l.length ≤ 256
 row : ∀ x ∈ l, RowG x
theorem GrpG.ints {l : List RowE} (h : GrpG l) {f : RowE → Int} (hf : ∀ x, RowG x → inI (f x)) : rowErr (l.map f) = 0 :=
 rowErr_of (by rw [List.length_map]; have := h.few; omega) fun y hy => by
  obtain ⟨x, hx, rfl⟩ := List.mem_map.1 hy
  exact hf x (h.row x hx)
section
variable {l : List RowE} (h : GrpG l)
include h
theorem GrpG.time : rowErr (l.map fun x => x.time) = 0 := h.ints fun x hx => by have := recF_facts hx.1; unfold inI; omega
theorem GrpG.maker : rowErr (l.map fun x => x.maker) = 0 := h.ints fun x hx => by have := idF_facts hx.2; unfold inI; omega
theorem GrpG.seq : rowErr (l.map fun x => x.seq) = 0 := h.ints fun x hx => by have := idF_facts hx.2; unfold inI; omega
theorem GrpG.place : rowErr (l.map fun x => x.place) = 0 := h.ints fun x hx => by have := idF_facts hx.2; unfold inI; omega
theorem GrpG.kind : rowErr (l.map fun x => x.kind) = 0 := h.ints fun x hx => by have := recF_facts hx.1; unfold inI; omega
theorem GrpG.value : rowErr (l.map fun x => x.value) = 0 := h.ints fun x hx => by have := recF_facts hx.1; unfold inI; omega
theorem GrpG.words : (wordsC (l.map rtxt)).length ≤ 65536 := wordsC_few (by rw [List.length_map]; exact h.few) fun s hs => by
 obtain ⟨x, _, rfl⟩ := List.mem_map.1 hs
 exact rtxt_size x
theorem GrpG.texts : (textsC (l.map fun x => x.text)).length ≤ 65536 := textsC_few (by rw [List.length_map]; exact h.few) fun s hs => by
 obtain ⟨x, hx, rfl⟩ := List.mem_map.1 hs
 exact (recF_facts (h.row x hx).1).2.2.2.2.2.2
theorem GrpG.text : ∀ s ∈ l.map (fun x => x.text), s.size ≤ 1024 := fun s hs => by
 obtain ⟨x, hx, rfl⟩ := List.mem_map.1 hs
 have := (recF_facts (h.row x hx).1).2.2.2.2.2.2
 show x.text.size ≤ 1024
 omega
end
theorem mayF_get {l : List RowE} {i : Nat} (h : i < l.length) : mayAt l i = (recF l[i] && idF l[i] && (decide (i = 0) || keyLt (l.getD (i - 1) l[i]) l[i])) := by
 unfold mayAt
 rw [List.getElem?_eq_getElem h]
 simp only
 cases i with
 | zero => simp
 | succ j =>
   simp only [List.getElem?_eq_getElem (show j < l.length by omega), Nat.add_sub_cancel, List.getD, Option.getD_some]
   simp
theorem mayF_iff {l : List RowE} : mayF l = true ↔ 0 < l.length ∧ (∀ x ∈ l, RowG x) ∧ l.Pairwise (fun x y => keyLt x y = true) := by
 unfold mayF
 rw [Bool.and_eq_true, decide_eq_true_eq, all_range]
 constructor
 ·rintro ⟨h1, h2⟩
  refine ⟨h1, fun x hx => ?_, ?_⟩
  ·obtain ⟨i, hi, rfl⟩ := List.mem_iff_getElem.1 hx
   have h3 := h2 i hi
   rw [mayF_get hi, Bool.and_eq_true, Bool.and_eq_true] at h3
   exact h3.1
  ·have key : ∀ d i (hi : i + d + 1 < l.length), keyLt (l[i]'(by omega)) l[i + d + 1] = true := by
    intro d
    induction d with
    | zero =>
      intro i hi
      have h3 := h2 (i + 1) hi
      rw [mayF_get hi, Bool.and_eq_true, Bool.or_eq_true] at h3
      rcases h3.2 with h3 | h3
      ·simp at h3
      ·simpa [List.getD, List.getElem?_eq_getElem (show i < l.length by omega)] using h3
    | succ d ih =>
      intro i hi
      have a := ih i (by omega)
      have h3 := h2 (i + (d + 1) + 1) hi
      rw [mayF_get hi, Bool.and_eq_true, Bool.or_eq_true] at h3
      have b : keyLt (l[i + d + 1]'(by omega)) l[i + (d + 1) + 1] = true := by
       rcases h3.2 with h3 | h3
       ·simp at h3
       ·simpa [List.getD, List.getElem?_eq_getElem (show i + d + 1 < l.length by omega), show i + (d + 1) = i + d + 1 by omega] using h3
      exact key_weak.trans _ _ _ a b
   rw [List.pairwise_iff_getElem]
   intro i j hi hj hij
   have := key (j - i - 1) i (by omega)
   simpa [show i + (j - i - 1) + 1 = j by omega] using this
 ·rintro ⟨h1, h2, h3⟩
  refine ⟨h1, fun i hi => ?_⟩
  obtain ⟨h4, h5⟩ := h2 l[i] (List.getElem_mem hi)
  rw [mayF_get hi, h4, h5, Bool.and_eq_true, Bool.or_eq_true, decide_eq_true_eq]
  refine ⟨rfl, ?_⟩
  by_cases h0 : i = 0
  ·exact .inl h0
  ·right
   have := List.pairwise_iff_getElem.1 h3 (i - 1) i (by omega) hi (by omega)
   simpa [List.getD, List.getElem?_eq_getElem (show i - 1 < l.length by omega)] using this
end Go.Proofs.YtpakjclpjcngmaaGreat
namespace Go.Proofs.YtpakjclpjcngmaaGreat
open Go.RowKit
theorem i64_or_nat (a b : Nat) (ha : a < 4611686018427387904) (hb : b < 4611686018427387904) : bits .or .i64 (a : Int) (b : Int) = ((a ||| b : Nat) : Int) := by
 have hx : a ||| b < 2 ^ 62 := Nat.or_lt_two_pow (by omega) (by omega)
 show IntKind.i64.wrap ((BitVec.ofInt 64 (a : Int) ||| BitVec.ofInt 64 (b : Int)).toNat : Int) = _
 rw [BitVec.toNat_or, ofInt_u64 a (by omega), ofInt_u64 b (by omega)]
 exact IntWalk.i64_in _ (by omega)
theorem or_add (a b k : Nat) (ha : a < 2 ^ k) : a ||| b * 2 ^ k = a + b * 2 ^ k := by
 rw [Nat.or_comm, Nat.mul_comm, ← Nat.two_pow_add_eq_or_of_lt ha, Nat.add_comm]
theorem or_at (a b k : Nat) (ha : a < 2 ^ k) (hk : k ≤ 24) (hb : b < 256) : bits .or .i64 (a : Int) (IntKind.i64.wrap ((b : Int) * 2 ^ k)) = ((a + b * 2 ^ k : Nat) : Int) := by
 have h1 : 2 ^ k ≤ 2 ^ 24 := Nat.pow_le_pow_right (by omega) hk
 have h2 : b * 2 ^ k ≤ 255 * 2 ^ 24 := Nat.mul_le_mul (by omega) h1
 have e1 : ((b : Int) * 2 ^ k) = ((b * 2 ^ k : Nat) : Int) := by push_cast; rfl
 rw [e1, IntWalk.i64_in _ (by omega), i64_or_nat _ _ (by omega) (by omega), or_add _ _ _ ha]
def lep (b : List Nat) : Nat → Nat
 | 0 => 0
 | k + 1 => lep b k + b.getD k 0 * 2 ^ (8 * k)
theorem lep_lt {b : List Nat} (ok : okB b) : ∀ k, lep b k < 2 ^ (8 * k)
 | 0 => by simp [lep]
 | k + 1 => by
   have h1 := lep_lt ok k
   have h2 := okB_getD ok k
   have h3 : b.getD k 0 * 2 ^ (8 * k) ≤ 255 * 2 ^ (8 * k) := Nat.mul_le_mul_right _ (by omega)
   rw [lep, show 8 * (k + 1) = 8 * k + 8 by omega, Nat.pow_add]
   omega
def le4 (b : List Nat) : Nat := b.getD 0 0 + b.getD 1 0 * 256 + b.getD 2 0 * 65536 + b.getD 3 0 * 16777216
theorem lep4 (b : List Nat) : lep b 4 = le4 b := by simp [lep, le4]
theorem le4_lt {b : List Nat} (ok : okB b) : le4 b < 4294967296 := by rw [← lep4]; exact lep_lt ok 4
def endsF (b : List Nat) (size : Int) : Int × Int × Int :=
 if b.length = 8 ∧ b.drop 4 = [69, 78, 84, 82] ∧ 13 ≤ size then
  if (le4 b : Int) ≤ size - 13 then (size - 8 - le4 b, (le4 b : Int), 0) else (0, 0, 4)
 else (0, 0, 4)
def EndsTo (w : World) (t : Int × Int × Int) (e : Ending) (w' : World) : Prop := e = .returned (.tuple #[.int .i64 t.1, .int .i64 t.2.1, .int .i64 t.2.2]) ∧ Dr w w'
set_option maxHeartbeats 8000000 in
theorem ends_any {w : World} {D : Nat → Prop} {A : Option Addr} {n c : Nat} {b : List Nat} (hr : Rd w D 1 A n (bl b)) (ok : okB b) (hl : b.length = n) (hc : n ≤ c) (size : Int) (hs0 : -9223372036854775808 ≤ size) (hs1 : size ≤ 9223372036854775807) :
  Calls Tryz.prog 23 #[.slice A n c, .int .i64 size] w (EndsTo w (endsF b size)) := by
 by_cases h8 : n = 8
 ·subst h8
  have hstr := run_str_of (P := Tryz.prog) w 26 9 5 Tryz.underlying26 Tryz.underlying5 Tryz.underlying9
  have hcut := hr.cut (k := 4) (cap := c) (by omega) hc
  rw [Nat.mul_one, show (bl b).drop 4 = bl (b.drop 4) by simp [bl, List.map_drop], if_neg (by omega)] at hcut
  obtain ⟨ad, rfl, -, -⟩ := hr.2 (by omega)
  have hST := fun (w' : World) (c' : Dr w w') => run_str_of (P := Tryz.prog) w' 26 9 5 Tryz.underlying26 Tryz.underlying5 Tryz.underlying9 D _ _ (c - 4) _ (hcut.nx (by decide) c'.nx)
  have hc4 : ¬ c = 4 := by omega
  have hST1 := fun q => hST (w.drewN q) ⟨q, rfl⟩
  have hadd : ad.add 4 = ⟨ad.block, ad.off + 4, none⟩ := by simp [Addr.add]
  simp only [Option.map_some, hadd, show (8:Nat) - 4 = 4 from rfl] at hST1
  have okd : okB (b.drop 4) := fun x hx => ok x (List.mem_of_mem_drop hx)
  by_cases hm : b.drop 4 = [69, 78, 84, 82] ∧ 13 ≤ size
  ·have ht : strB (b.drop 4) = ⟨#[69, 78, 84, 82]⟩ := by rw [hm.1]; rfl
   rw [ht] at hST1
   have hF : endsF b size = if (le4 b : Int) ≤ size - 13 then (size - 8 - le4 b, (le4 b : Int), 0) else (0, 0, 4) := by unfold endsF; rw [if_pos ⟨hl, hm⟩]
   have q2 : decide (size < 13) = false := by rw [decide_eq_false_iff_not]; omega
   have k1 : IntKind.i64.wrap (size - 8) = size - 8 := IntWalk.i64_in _ (by omega)
   have k2 : IntKind.i64.wrap (size - 8 - 5) = size - 13 := by rw [IntWalk.i64_in _ (by omega)]; omega
   have hlt4 := le4_lt ok
   have HF := Lib.hid hF
   have HOK := Lib.hid ok
   have HR := Lib.hid hr
   have HL := Lib.hid hl
   have h13 := hm.2
   have qe : (([69, 78, 84, 82] : List UInt8) == ((⟨#[69, 78, 84, 82, 1]⟩ : ByteArray).extract 0 4).toList) = true := by decide +kernel
   clear hF ok hr hl hcut hST okd ht hm
   go_enter Tryz.func23, Tryz.ntmps23
   go_wp2_with fail
   go_quiet (fail)
   go_wp2_with fail
   go_loopw [7, 23] (fun v i wr => ∃ k : Nat, k ≤ 4 ∧ v = .int .i64 (lep b k : Int) ∧ i = .int .i64 (k : Int) ∧ wr = w.drewN nq) (fun _ i _ => 4 - (intOf i).toNat)
   case atStart => exact ⟨0, by omega, rfl, rfl, rfl⟩
   case round =>
    obtain ⟨k, hk, rfl, rfl, hww⟩ := hrel
    rw [hww]
    clear hww
    by_cases hlt : k < 4
    ·obtain ⟨ad2, u, hA2, hDa, hu, hcx⟩ := (HR.out.drewN nq).at_ (k := k) (by omega)
     injection hA2 with hA2
     subst hA2
     rw [bl_get (by rw [HL.out]; omega)] at hu
     injection hu with hu
     subst hu
     have hx := okB_getD HOK.out k
     have hor := or_at (lep b k) (b.getD k 0) (8 * k) (lep_lt HOK.out k) (by omega) hx
     rw [IntWalk.i64_left] at hor
     have HS : Hid (lep b (k + 1) = lep b k + b.getD k 0 * 2 ^ (8 * k)) := Lib.hid rfl
     have k3 : IntKind.i64.wrap (8 * (k : Int)) = ((8 * k : Nat) : Int) := by rw [IntWalk.i64_in _ (by omega)]; omega
     generalize lep b k = a at *
     generalize b.getD k 0 = x at *
     go_wp2_with fail
     go_roundw
     case rel => exact ⟨k + 1, by omega, by rw [HS.out]; exact congrArg (Value.int IntKind.i64) (by push_cast; rfl), by go_num, by first | rfl | trivial⟩
     case measure => simp [intOf]; omega
    ·have hk4 : k = 4 := by omega
     subst hk4
     rw [lep4]
     generalize le4 b = m at *
     by_cases hmm : (m : Int) ≤ size - 13
     ·have q5 : decide (size - 13 < (m : Int)) = false := by rw [decide_eq_false_iff_not]; omega
      have k4 : IntKind.i64.wrap (size - 8 - (m : Int)) = size - 8 - (m : Int) := IntWalk.i64_in _ (by omega)
      rw [if_pos hmm] at HF
      clear hmm
      go_wp2_with fail
      exact bodyPost_ret (v := .tuple #[.int .i64 (size - 8 - (m : Int)), .int .i64 (m : Int), .int .i64 0]) (by simp [results, Tryz.results23, go_sem]) rfl ⟨by rw [HF.out], ⟨_, rfl⟩⟩
     ·have q5 : decide (size - 13 < (m : Int)) = true := by rw [decide_eq_true_eq]; omega
      rw [if_neg hmm] at HF
      clear hmm
      go_wp2_with fail
      exact bodyPost_ret (v := .tuple #[.int .i64 0, .int .i64 0, .int .i64 4]) (by simp [results, Tryz.results23, go_sem]) rfl ⟨by rw [HF.out], ⟨_, rfl⟩⟩
  ·have HF : Hid (endsF b size = (0, 0, 4)) := Lib.hid (by unfold endsF; rw [if_neg (fun h => hm h.2)])
   by_cases he : b.drop 4 = [69, 78, 84, 82]
   ·have ht : strB (b.drop 4) = ⟨#[69, 78, 84, 82]⟩ := by rw [he]; rfl
    rw [ht] at hST1
    have qe : (([69, 78, 84, 82] : List UInt8) == ((⟨#[69, 78, 84, 82, 1]⟩ : ByteArray).extract 0 4).toList) = true := by decide +kernel
    have q2 : decide (size < 13) = true := by rw [decide_eq_true_eq]; exact Int.not_le.1 fun h => hm ⟨he, h⟩
    clear hr ok hl hcut hST okd ht hm he
    go_enter Tryz.func23, Tryz.ntmps23
    go_wp2_with fail
    go_quiet (fail)
    go_wp2_with fail
    exact bodyPost_ret (v := .tuple #[.int .i64 0, .int .i64 0, .int .i64 4]) (by simp [results, Tryz.results23, go_sem]) rfl ⟨by rw [HF.out], ⟨_, rfl⟩⟩
   ·have qn : ((strB (b.drop 4)).toList == ((⟨#[69, 78, 84, 82, 1]⟩ : ByteArray).extract 0 4).toList) = false := by
     rw [strs_eq, decide_eq_false_iff_not, show ((⟨#[69, 78, 84, 82, 1]⟩ : ByteArray).extract 0 4) = strB [69, 78, 84, 82] from by decide +kernel]
     exact fun e => he (strB_inj okd (fun x hx => by simp only [List.mem_cons, List.not_mem_nil, or_false] at hx; omega) e)
    clear hr ok hl hcut hST okd hm he
    generalize strB (b.drop 4) = T at *
    go_enter Tryz.func23, Tryz.ntmps23
    go_wp2_with fail
    go_quiet (fail)
    go_wp2_with fail
    exact bodyPost_ret (v := .tuple #[.int .i64 0, .int .i64 0, .int .i64 4]) (by simp [results, Tryz.results23, go_sem]) rfl ⟨by rw [HF.out], ⟨_, rfl⟩⟩
 ·have hF : endsF b size = (0, 0, 4) := by unfold endsF; rw [if_neg (by rw [hl]; exact fun h => h8 h.1)]
  have HF := Lib.hid hF
  have q8 : ((n : Int) != 8) = true := by rw [bne_iff_ne]; omega
  clear hF hr ok hl hc h8
  go_enter Tryz.func23, Tryz.ntmps23
  go_wp2_with fail
  go_quiet (fail)
  go_wp2_with fail
  exact bodyPost_ret (v := .tuple #[.int .i64 0, .int .i64 0, .int .i64 4]) (by simp [results, Tryz.results23, go_sem]) rfl ⟨by rw [HF.out], ⟨_, rfl⟩⟩
theorem txt_empty (t : ByteArray) : t.toList.isEmpty = decide (t.size = 0) := by
 rw [Bool.eq_iff_iff, List.isEmpty_iff, decide_eq_true_iff, ← List.length_eq_zero_iff]
 have : t.toList.length = t.size := by rw [ByteArray.toList_eq, Array.length_toList]; rfl
 omega
def recV (x : RV) : Value := .agg #[.int .i64 x.row.kind, .int .i64 x.row.time, .slice x.A x.row.labs.length x.c, .string x.row.text, .int .i64 x.row.value, .bool x.row.null]
section
variable {kind time value maker seq place : Int} {labs : List Lab} {text : ByteArray} {null : Bool}
theorem rec_t1 (h : ¬ 0 ≤ time) : recF (⟨kind, time, labs, text, value, null, maker, seq, place⟩ : RowE) = false := by simp [recF, h]
theorem rec_t2 (h : ¬ time < 1099511627776) : recF (⟨kind, time, labs, text, value, null, maker, seq, place⟩ : RowE) = false := by simp [recF]; omega
theorem rec_l (h : rightF labs = false) : recF (⟨kind, time, labs, text, value, null, maker, seq, place⟩ : RowE) = false := by simp [recF, h]
theorem rec_k (h1 : kind ≠ 1) (h2 : kind ≠ 2) : recF (⟨kind, time, labs, text, value, null, maker, seq, place⟩ : RowE) = false := by simp [recF, h1, h2]
end
section
variable {time value maker seq place : Int} {labs : List Lab} {text : ByteArray} {null : Bool}
theorem rec_1s (h : ¬ text.size ≤ 200) : recF (⟨1, time, labs, text, value, null, maker, seq, place⟩ : RowE) = false := by simp [recF, h]
theorem rec_1v (h : ¬ value = 0) : recF (⟨1, time, labs, text, value, null, maker, seq, place⟩ : RowE) = false := by simp [recF, h]
theorem rec_1 (h1 : 0 ≤ time) (h2 : time < 1099511627776) (h3 : rightF labs = true) (h4 : text.size ≤ 200) (h5 : value = 0) : recF (⟨1, time, labs, text, value, null, maker, seq, place⟩ : RowE) = !null := by simp [recF, h1, h2, h3, h4, h5]
theorem rec_2s (h : ¬ text.size = 0) : recF (⟨2, time, labs, text, value, null, maker, seq, place⟩ : RowE) = false := by simp [recF, h]
theorem rec_2a (h : ¬ -1152921504606846976 ≤ value) : recF (⟨2, time, labs, text, value, null, maker, seq, place⟩ : RowE) = false := by simp [recF]; omega
theorem rec_2b (h : ¬ value ≤ 1152921504606846976) : recF (⟨2, time, labs, text, value, null, maker, seq, place⟩ : RowE) = false := by simp [recF]; omega
theorem rec_2 (h1 : 0 ≤ time) (h2 : time < 1099511627776) (h3 : rightF labs = true) (h4 : text.size = 0) (h5 : -1152921504606846976 ≤ value) (h6 : value ≤ 1152921504606846976) : recF (⟨2, time, labs, text, value, null, maker, seq, place⟩ : RowE) = (!null || decide (value = 0)) := by simp [recF, h1, h2, h3, h4, h5, h6]
end
set_option maxHeartbeats 16000000 in
theorem recright_any {w : World} {D : Nat → Prop} (x : RV) (hx : x.ok w D) (hf : x.row.mid) :
  Calls Tryz.prog 88 #[recV x] w fun e w' => e = .returned (.bool (recF x.row)) ∧ Nx w w' := by
 have HR := Lib.hid (fun w' (c' : Nx w w') => right_any (c := x.c) (hx.1.nx (by decide) c') rfl (by have := hf.2; omega) hf.1.1)
 unfold recV
 obtain ⟨⟨kind, time, labs, text, value, null, maker, seq, place⟩, A1, c1⟩ := x
 simp only at HR ⊢
 clear hx hf
 have B1 := Lib.hid (Blk.new w 56 #[.int .i64 kind, .int .i64 time, .slice A1 labs.length c1, .string text, .int .i64 value, .bool null])
 have N1 := Lib.hid ((Ch.refl (fun _ => False) w).alloc (.cells #[.int .i64 kind, .int .i64 time, .slice A1 labs.length c1, .string text, .int .i64 value, .bool null] 56))
 by_cases h1 : 0 ≤ time
 ·by_cases h2 : time < 1099511627776
  ·cases hr : rightF labs
   ·rw [hr] at HR
    have HL := Lib.hid hr
    clear hr
    go_enter Tryz.func88, Tryz.ntmps88
    go_wp2_with fail
    refine (HR.out _ N1.out).mono ?_
    rintro e w2 ⟨rfl, n2⟩
    have N2 := Lib.hid (N1.out.tr n2)
    clear n2
    go_wp2_with fail
    go_ret
    exact ⟨by rw [rec_l HL.out]; first | done | rfl, N2.out⟩
   ·rw [hr] at HR
    have HL := Lib.hid hr
    clear hr
    by_cases hk1 : kind = 1
    ·subst hk1
     by_cases h4 : text.size ≤ 200
     ·by_cases h5 : value = 0
      ·subst h5
       cases null
       all_goals
        go_enter Tryz.func88, Tryz.ntmps88
        go_wp2_with fail
        refine (HR.out _ N1.out).mono ?_
        rintro e w2 ⟨rfl, n2⟩
        have N2 := Lib.hid (N1.out.tr n2)
        have b2 := B1.out.nx n2
        have q0 : w2.cell? ⟨w.heap.size, 0, none⟩ = some _ := b2.cell 0
        have q3 : w2.cell? ⟨w.heap.size, 3, none⟩ = some _ := b2.cell 3
        have q4 : w2.cell? ⟨w.heap.size, 4, none⟩ = some _ := b2.cell 4
        have q5 : w2.cell? ⟨w.heap.size, 5, none⟩ = some _ := b2.cell 5
        clear n2 b2
        go_wp2_with fail
        go_ret
        exact ⟨by rw [rec_1 h1 h2 HL.out h4 rfl]; first | done | rfl, N2.out⟩
      ·have q9 : (value == 0) = false := by simp [h5]
       go_enter Tryz.func88, Tryz.ntmps88
       go_wp2_with fail
       refine (HR.out _ N1.out).mono ?_
       rintro e w2 ⟨rfl, n2⟩
       have N2 := Lib.hid (N1.out.tr n2)
       have b2 := B1.out.nx n2
       have q0 : w2.cell? ⟨w.heap.size, 0, none⟩ = some _ := b2.cell 0
       have q3 : w2.cell? ⟨w.heap.size, 3, none⟩ = some _ := b2.cell 3
       have q4 : w2.cell? ⟨w.heap.size, 4, none⟩ = some _ := b2.cell 4
       have q5 : w2.cell? ⟨w.heap.size, 5, none⟩ = some _ := b2.cell 5
       clear n2 b2
       go_wp2_with fail
       go_ret
       exact ⟨by rw [rec_1v (by omega)]; first | done | rfl, N2.out⟩
     ·go_enter Tryz.func88, Tryz.ntmps88
      go_wp2_with fail
      refine (HR.out _ N1.out).mono ?_
      rintro e w2 ⟨rfl, n2⟩
      have N2 := Lib.hid (N1.out.tr n2)
      have b2 := B1.out.nx n2
      have q0 : w2.cell? ⟨w.heap.size, 0, none⟩ = some _ := b2.cell 0
      have q3 : w2.cell? ⟨w.heap.size, 3, none⟩ = some _ := b2.cell 3
      have q4 : w2.cell? ⟨w.heap.size, 4, none⟩ = some _ := b2.cell 4
      have q5 : w2.cell? ⟨w.heap.size, 5, none⟩ = some _ := b2.cell 5
      clear n2 b2
      go_wp2_with fail
      go_ret
      exact ⟨by rw [rec_1s (by omega)]; first | done | rfl, N2.out⟩
    ·by_cases hk2 : kind = 2
     ·subst hk2
      have hE : (text.toList.isEmpty) = decide (text.size = 0) := txt_empty text
      by_cases h4 : text.size = 0
      ·rw [decide_eq_true h4] at hE
       by_cases h5 : -1152921504606846976 ≤ value
       ·by_cases h6 : value ≤ 1152921504606846976
        ·cases null
         ·go_enter Tryz.func88, Tryz.ntmps88
          go_wp2_with fail
          refine (HR.out _ N1.out).mono ?_
          rintro e w2 ⟨rfl, n2⟩
          have N2 := Lib.hid (N1.out.tr n2)
          have b2 := B1.out.nx n2
          have q0 : w2.cell? ⟨w.heap.size, 0, none⟩ = some _ := b2.cell 0
          have q3 : w2.cell? ⟨w.heap.size, 3, none⟩ = some _ := b2.cell 3
          have q4 : w2.cell? ⟨w.heap.size, 4, none⟩ = some _ := b2.cell 4
          have q5 : w2.cell? ⟨w.heap.size, 5, none⟩ = some _ := b2.cell 5
          clear n2 b2
          go_wp2_with fail
          go_ret
          exact ⟨by rw [rec_2 h1 h2 HL.out h4 h5 h6]; first | done | rfl, N2.out⟩
         ·by_cases h7 : value = 0
          ·subst h7
           go_enter Tryz.func88, Tryz.ntmps88
           go_wp2_with fail
           refine (HR.out _ N1.out).mono ?_
           rintro e w2 ⟨rfl, n2⟩
           have N2 := Lib.hid (N1.out.tr n2)
           have b2 := B1.out.nx n2
           have q0 : w2.cell? ⟨w.heap.size, 0, none⟩ = some _ := b2.cell 0
           have q3 : w2.cell? ⟨w.heap.size, 3, none⟩ = some _ := b2.cell 3
           have q4 : w2.cell? ⟨w.heap.size, 4, none⟩ = some _ := b2.cell 4
           have q5 : w2.cell? ⟨w.heap.size, 5, none⟩ = some _ := b2.cell 5
           clear n2 b2
           go_wp2_with fail
           go_ret
           exact ⟨by rw [rec_2 h1 h2 HL.out h4 (by decide) (by decide)]; rfl, N2.out⟩
          ·have q9 : (value == 0) = false := by simp [h7]
           go_enter Tryz.func88, Tryz.ntmps88
           go_wp2_with fail
           refine (HR.out _ N1.out).mono ?_
           rintro e w2 ⟨rfl, n2⟩
           have N2 := Lib.hid (N1.out.tr n2)
           have b2 := B1.out.nx n2
           have q0 : w2.cell? ⟨w.heap.size, 0, none⟩ = some _ := b2.cell 0
           have q3 : w2.cell? ⟨w.heap.size, 3, none⟩ = some _ := b2.cell 3
           have q4 : w2.cell? ⟨w.heap.size, 4, none⟩ = some _ := b2.cell 4
           have q5 : w2.cell? ⟨w.heap.size, 5, none⟩ = some _ := b2.cell 5
           clear n2 b2
           go_wp2_with fail
           go_ret
           exact ⟨by rw [rec_2 h1 h2 HL.out h4 h5 h6]; simp [h7], N2.out⟩
        ·go_enter Tryz.func88, Tryz.ntmps88
         go_wp2_with fail
         refine (HR.out _ N1.out).mono ?_
         rintro e w2 ⟨rfl, n2⟩
         have N2 := Lib.hid (N1.out.tr n2)
         have b2 := B1.out.nx n2
         have q0 : w2.cell? ⟨w.heap.size, 0, none⟩ = some _ := b2.cell 0
         have q3 : w2.cell? ⟨w.heap.size, 3, none⟩ = some _ := b2.cell 3
         have q4 : w2.cell? ⟨w.heap.size, 4, none⟩ = some _ := b2.cell 4
         have q5 : w2.cell? ⟨w.heap.size, 5, none⟩ = some _ := b2.cell 5
         clear n2 b2
         go_wp2_with fail
         go_ret
         exact ⟨by rw [rec_2b (by omega)]; first | done | rfl, N2.out⟩
       ·go_enter Tryz.func88, Tryz.ntmps88
        go_wp2_with fail
        refine (HR.out _ N1.out).mono ?_
        rintro e w2 ⟨rfl, n2⟩
        have N2 := Lib.hid (N1.out.tr n2)
        have b2 := B1.out.nx n2
        have q0 : w2.cell? ⟨w.heap.size, 0, none⟩ = some _ := b2.cell 0
        have q3 : w2.cell? ⟨w.heap.size, 3, none⟩ = some _ := b2.cell 3
        have q4 : w2.cell? ⟨w.heap.size, 4, none⟩ = some _ := b2.cell 4
        have q5 : w2.cell? ⟨w.heap.size, 5, none⟩ = some _ := b2.cell 5
        clear n2 b2
        go_wp2_with fail
        go_ret
        exact ⟨by rw [rec_2a (by omega)]; first | done | rfl, N2.out⟩
      ·rw [decide_eq_false h4] at hE
       go_enter Tryz.func88, Tryz.ntmps88
       go_wp2_with fail
       refine (HR.out _ N1.out).mono ?_
       rintro e w2 ⟨rfl, n2⟩
       have N2 := Lib.hid (N1.out.tr n2)
       have b2 := B1.out.nx n2
       have q0 : w2.cell? ⟨w.heap.size, 0, none⟩ = some _ := b2.cell 0
       have q3 : w2.cell? ⟨w.heap.size, 3, none⟩ = some _ := b2.cell 3
       have q4 : w2.cell? ⟨w.heap.size, 4, none⟩ = some _ := b2.cell 4
       have q5 : w2.cell? ⟨w.heap.size, 5, none⟩ = some _ := b2.cell 5
       clear n2 b2
       go_wp2_with fail
       go_ret
       exact ⟨by rw [rec_2s (by omega)]; first | done | rfl, N2.out⟩
     ·have q7 : (kind == 1) = false := by simp [hk1]
      have q8 : (kind == 2) = false := by simp [hk2]
      go_enter Tryz.func88, Tryz.ntmps88
      go_wp2_with fail
      refine (HR.out _ N1.out).mono ?_
      rintro e w2 ⟨rfl, n2⟩
      have N2 := Lib.hid (N1.out.tr n2)
      have b2 := B1.out.nx n2
      have q0 : w2.cell? ⟨w.heap.size, 0, none⟩ = some _ := b2.cell 0
      have q3 : w2.cell? ⟨w.heap.size, 3, none⟩ = some _ := b2.cell 3
      have q4 : w2.cell? ⟨w.heap.size, 4, none⟩ = some _ := b2.cell 4
      have q5 : w2.cell? ⟨w.heap.size, 5, none⟩ = some _ := b2.cell 5
      clear n2 b2
      go_wp2_with fail
      go_ret
      exact ⟨by rw [rec_k hk1 hk2]; first | done | rfl, N2.out⟩
  ·go_enter Tryz.func88, Tryz.ntmps88
   go_wp2_with fail
   go_wp2_with fail
   go_ret
   exact ⟨by rw [rec_t2 (by omega)]; first | done | rfl, N1.out⟩
 ·go_enter Tryz.func88, Tryz.ntmps88
  go_wp2_with fail
  go_wp2_with fail
  go_ret
  exact ⟨by rw [rec_t1 (by omega)]; first | done | rfl, N1.out⟩
end Go.Proofs.YtpakjclpjcngmaaGreat
