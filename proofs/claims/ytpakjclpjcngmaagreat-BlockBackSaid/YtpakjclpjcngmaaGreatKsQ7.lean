/- Contracts and plain laws that the last text rests on. Conditions: each theorem states its own. -/
import Derived.Test.YtpakjclpjcngmaaGreatKsQ1
set_option maxRecDepth 100000
set_option linter.unusedVariables false
namespace Go.Proofs.YtpakjclpjcngmaaGreat
structure Tok where
 len : Nat
 dist : Nat
 byte : Nat
def z0V (b : List Nat) (i k : Nat) : Nat → Nat → Nat
 | 0, n => n
 | f + 1, n => if k + n < b.length ∧ b.getD (i + n) 0 = b.getD (k + n) 0 then z0V b i k f (n + 1) else n
def sameF (b : List Nat) (i k : Nat) : Nat := z0V b i k 258 0
def keyF (b : List Nat) (i : Nat) : Nat × Nat × Nat := (b.getD i 0, b.getD (i + 1) 0, b.getD (i + 2) 0)
def z17 (b : List Nat) (at_ : Nat) (k : Nat × Nat × Nat) : List Nat := (List.range at_).filter fun i => decide (i + 2 < b.length ∧ keyF b i = k)
def z1e (b : List Nat) (at_ : Nat) : List Nat → Nat × Nat → Nat × Nat
 | [], t => t
 | i :: r, t => if at_ - i ≤ 32768 ∧ t.1 < 258 then z1e b at_ r (if t.1 < sameF b i at_ then (sameF b i at_, at_ - i) else t) else t
def bestF (b : List Nat) (at_ : Nat) : Nat × Nat := if at_ + 2 < b.length then z1e b at_ (z17 b at_ (keyF b at_)).reverse (0, 0) else (0, 0)
def tokF (b : List Nat) (at_ : Nat) (t : Nat × Nat) : Tok := ⟨t.1, t.2, if t.1 = 0 then b.getD at_ 0 else 0⟩
def tokensF (b : List Nat) : Nat → Nat → List Tok
 | 0, _ => []
 | f + 1, at_ => if b.length ≤ at_ then [] else tokF b at_ (bestF b at_) :: tokensF b f (at_ + max (bestF b at_).1 1)
theorem z4T (b : List Nat) (i k : Nat) : ∀ f n, n ≤ z0V b i k f n ∧ z0V b i k f n ≤ n + f := by
 intro f
 induction f with
 | zero => intro n; exact ⟨Nat.le_refl _, Nat.le_refl _⟩
 | succ f ih =>
   intro n
   unfold z0V
   split
   ·have := ih (n + 1); omega
   ·omega
theorem sameFrom_eq (b : List Nat) (i k : Nat) : ∀ f n j, n ≤ j → j < z0V b i k f n → k + j < b.length ∧ b.getD (i + j) 0 = b.getD (k + j) 0 := by
 intro f
 induction f with
 | zero => intro n j h1 h2; unfold z0V at h2; omega
 | succ f ih =>
   intro n j h1 h2
   unfold z0V at h2
   split at h2
   ·next hc =>
    by_cases hj : j = n
    ·subst hj; exact hc
    ·exact ih (n + 1) j (by omega) h2
   ·omega
theorem sameFrom_more (b : List Nat) (i k : Nat) : ∀ f n m, n ≤ m → m ≤ n + f → (∀ j, n ≤ j → j < m → k + j < b.length ∧ b.getD (i + j) 0 = b.getD (k + j) 0) → m ≤ z0V b i k f n := by
 intro f
 induction f with
 | zero => intro n m h1 h2 _; unfold z0V; omega
 | succ f ih =>
   intro n m h1 h2 h
   unfold z0V
   by_cases hm : m = n
   ·subst hm
    split
    ·have := (z4T b i k f (m + 1)).1; omega
    ·exact Nat.le_refl _
   ·rw [if_pos (h n (Nat.le_refl _) (by omega))]
    exact ih (n + 1) m (by omega) (by omega) (fun j h3 h4 => h j (by omega) h4)
theorem sameF_le (b : List Nat) (i k : Nat) : sameF b i k ≤ 258 := by have := (z4T b i k 258 0).2; unfold sameF; omega
theorem sameF_eq {b : List Nat} {i k j : Nat} (h : j < sameF b i k) : k + j < b.length ∧ b.getD (i + j) 0 = b.getD (k + j) 0 := sameFrom_eq b i k 258 0 j (Nat.zero_le _) h
theorem sameF_key {b : List Nat} {i k : Nat} (hk : k + 2 < b.length) (h : keyF b i = keyF b k) : 3 ≤ sameF b i k := by
 unfold keyF at h
 simp only [Prod.mk.injEq] at h
 refine sameFrom_more b i k 258 0 3 (by omega) (by omega) fun j _ hj => ⟨by omega, ?_⟩
 rcases (show j = 0 ∨ j = 1 ∨ j = 2 by omega) with rfl | rfl | rfl
 ·exact h.1
 ·exact h.2.1
 ·exact h.2.2
theorem z4Y {b : List Nat} {at_ i : Nat} {k : Nat × Nat × Nat} (h : i ∈ z17 b at_ k) : i < at_ ∧ i + 2 < b.length ∧ keyF b i = k := by
 unfold z17 at h
 rw [List.mem_filter, List.mem_range] at h
 exact ⟨h.1, by simpa using h.2⟩
theorem placesF_length (b : List Nat) (at_ : Nat) (k : Nat × Nat × Nat) : (z17 b at_ k).length ≤ at_ := by
 unfold z17
 have := List.length_filter_le (fun i => decide (i + 2 < b.length ∧ keyF b i = k)) (List.range at_)
 simpa using this
theorem z4b {b : List Nat} {at_ : Nat} {k : Nat × Nat × Nat} : z17 b (at_ + 1) k = z17 b at_ k ++ if at_ + 2 < b.length ∧ keyF b at_ = k then [at_] else [] := by
 unfold z17
 rw [List.range_succ, List.filter_append]
 congr 1
 by_cases h : at_ + 2 < b.length ∧ keyF b at_ = k
 ·rw [if_pos h]; simp [h]
 ·rw [if_neg h]; simp [h]
def Good (b : List Nat) (at_ : Nat) (t : Nat × Nat) : Prop := t = (0, 0) ∨ (3 ≤ t.1 ∧ t.1 ≤ 258 ∧ 1 ≤ t.2 ∧ t.2 ≤ 32768 ∧ t.2 ≤ at_ ∧ at_ + t.1 ≤ b.length ∧ ∀ j, j < t.1 → b.getD (at_ - t.2 + j) 0 = b.getD (at_ + j) 0)
theorem searchF_good {b : List Nat} {at_ : Nat} (hat : at_ + 2 < b.length) : ∀ (l : List Nat) (t : Nat × Nat), (∀ i ∈ l, i < at_ ∧ keyF b i = keyF b at_) → Good b at_ t → Good b at_ (z1e b at_ l t) := by
 intro l
 induction l with
 | nil => intro t _ h; exact h
 | cons i r ih =>
   intro t hl h
   unfold z1e
   by_cases hc : at_ - i ≤ 32768 ∧ t.1 < 258
   ·rw [if_pos hc]
    refine ih _ (fun j hj => hl j (by simp [hj])) ?_
    have hi := hl i (by simp)
    by_cases hs : t.1 < sameF b i at_
    ·rw [if_pos hs]
     have h3 := sameF_key hat hi.2
     have hlast := sameF_eq (b := b) (i := i) (k := at_) (j := sameF b i at_ - 1) (by omega)
     refine .inr ⟨h3, sameF_le _ _ _, by simp only; omega, hc.1, by simp only; omega, by simp only; omega, fun j hj => ?_⟩
     simp only at hj ⊢
     rw [show at_ - (at_ - i) = i by omega]
     exact (sameF_eq hj).2
    ·rw [if_neg hs]; exact h
   ·rw [if_neg hc]; exact h
theorem z41 (b : List Nat) (at_ : Nat) : Good b at_ (bestF b at_) := by
 unfold bestF
 by_cases h : at_ + 2 < b.length
 ·rw [if_pos h]
  refine searchF_good h _ _ (fun i hi => ?_) (.inl rfl)
  have := z4Y (List.mem_reverse.1 hi)
  exact ⟨this.1, this.2.2⟩
 ·rw [if_neg h]; exact .inl rfl
theorem z3f {b : List Nat} : ∀ f at_, (tokensF b f at_).length ≤ f := by
 intro f
 induction f with
 | zero => intro at_; exact Nat.le_refl _
 | succ f ih =>
   intro at_
   unfold tokensF
   split
   ·simp
   ·simp only [List.length_cons]; have := ih (at_ + max (bestF b at_).1 1); omega
def letW (s : Nat) : Nat := if s < 144 then 48 + s else if s < 256 then 256 + s else if s < 280 then s - 256 else s - 88
def letN (s : Nat) : Nat := if s < 144 then 8 else if s < 256 then 9 else if s < 280 then 7 else 8
def z0b (s : Nat) : List Bool := z0z (letW s) (letN s)
def upF (b m : Nat) : Nat → Nat → Nat
 | 0, x => x
 | f + 1, x => if b * 2 ^ x ≤ m then upF b m f (x + 1) else x
def lenX (m : Nat) : Nat := upF 8 m 9 1
def distX (e : Nat) : Nat := upF 4 e 20 0
def z0G (n : Nat) : List Bool :=
 if n = 258 then z0b 285 else if n < 11 then z0b (254 + n) else z0b (257 + 4 * lenX (n - 3) + (n - 3) / 2 ^ lenX (n - 3)) ++ z0x (n - 3) (lenX (n - 3))
def z0Q (e : Nat) : List Bool := if e < 2 then z0z e 5 else z0z (2 * distX e + e / 2 ^ distX e) 5 ++ z0x e (distX e)
def z0p (t : Tok) : List Bool := if t.len = 0 then z0b t.byte else z0G t.len ++ z0Q (t.dist - 1)
def z0N (l : List Tok) : List Bool := z0x 3 3 ++ l.flatMap z0p
def deflBits (l : List Tok) : List Bool := z0N l ++ z0b 256
theorem upF_le {b m : Nat} : ∀ f x, x ≤ upF b m f x ∧ upF b m f x ≤ x + f := by
 intro f
 induction f with
 | zero => intro x; exact ⟨Nat.le_refl _, Nat.le_refl _⟩
 | succ f ih =>
   intro x
   unfold upF
   split
   ·have := ih (x + 1); omega
   ·omega
namespace Ps
def hexU (n : Nat) : UInt8 := UInt8.ofNat (if n < 10 then 48 + n else 87 + n)
def byL (c : UInt8) : List UInt8 := if plF c.toNat = true then [c] else [92, hexU (c.toNat / 16), hexU (c.toNat % 16)]
def valT (v : List UInt8) : List UInt8 := v.flatMap byL
def labT (x : Lab) : List UInt8 := x.name.data.toList ++ 61 :: 34 :: (valT x.value.data.toList ++ [34])
def tailT (l : List Lab) : List UInt8 := l.flatMap fun x => 44 :: labT x
def bodyT : List Lab → List UInt8
 | [] => []
 | x :: r => labT x ++ tailT r
def textF (l : List Lab) : List UInt8 := 123 :: (bodyT l ++ [125])
theorem body_snoc (l : List Lab) (x : Lab) : bodyT (l ++ [x]) = bodyT l ++ ((if l = [] then [] else [44]) ++ labT x) := by
 cases l with
 | nil => simp [bodyT, tailT]
 | cons y r => simp [bodyT, tailT, List.flatMap_append]
theorem valT_snoc (v : List UInt8) (c : UInt8) : valT (v ++ [c]) = valT v ++ byL c := by
 unfold valT
 rw [List.flatMap_append]
 simp
theorem dg_hex {n : Nat} (h : n < 16) : dgF (hexU n).toNat = some n := by
 have : ∀ n, n < 16 → dgF (hexU n).toNat = some n := by decide
 exact this n h
theorem one_by (c : UInt8) (r : List UInt8) : oneF (byL c ++ r) = some (c, (byL c).length) := by
 unfold byL
 have hc := c.toNat_lt
 by_cases h : plF c.toNat = true
 ·rw [if_pos h]
  have h92 : c.toNat ≠ 92 := by
   intro e
   rw [e] at h
   exact absurd h (by decide)
  show oneF (c :: r) = _
  unfold oneF
  simp only
  rw [if_neg h92, if_pos h]
  rfl
 ·rw [if_neg h]
  show oneF (92 :: hexU (c.toNat / 16) :: hexU (c.toNat % 16) :: r) = _
  unfold oneF
  simp only
  rw [if_pos (by decide), dg_hex (by omega), dg_hex (by omega)]
  simp only
  rw [show 16 * (c.toNat / 16) + c.toNat % 16 = c.toNat by omega, if_neg h]
  simp
theorem by_head (c : UInt8) : ∃ a r, byL c = a :: r ∧ a.toNat ≠ 34 := by
 unfold byL
 by_cases h : plF c.toNat = true
 ·rw [if_pos h]
  refine ⟨c, [], rfl, fun e => ?_⟩
  rw [e] at h
  exact absurd h (by decide)
 ·rw [if_neg h]
  exact ⟨92, _, rfl, by decide⟩
theorem val_text : ∀ (v r : List UInt8), valL (valT v ++ 34 :: r) = some (v, r)
 | [], r => z2s r (by decide)
 | c :: v, r => by
   obtain ⟨a, t, e, ha⟩ := by_head c
   have h1 := one_by c (valT v ++ 34 :: r)
   have e2 : valT (c :: v) ++ 34 :: r = byL c ++ (valT v ++ 34 :: r) := by
    unfold valT
    rw [List.flatMap_cons, List.append_assoc]
   rw [e2]
   rw [e] at h1 ⊢
   rw [List.cons_append] at h1 ⊢
   rw [z2r ha h1, ← List.cons_append, List.drop_left, val_text v r]
   rfl
theorem idx_name : ∀ (n : List UInt8) (r : List UInt8), (∀ c ∈ n, c.toNat ≠ 61) → idxL (n ++ 61 :: 34 :: r) = some n.length
 | [], r, _ => rfl
 | c :: n, r, h => by
   have ih := idx_name n r (fun d hd => h d (List.mem_cons_of_mem _ hd))
   have hc := h c List.mem_cons_self
   show idxL (c :: (n ++ 61 :: 34 :: r)) = _
   unfold idxL
   have : eqAt (c :: (n ++ 61 :: 34 :: r)) = none := by
    cases n with
    | nil => show eqAt (c :: 61 :: 34 :: r) = none; rw [z2m, if_neg (fun hh => hc hh.1)]
    | cons d n => show eqAt (c :: d :: (n ++ 61 :: 34 :: r)) = none; rw [z2m, if_neg (fun hh => hc hh.1)]
   rw [this, if_neg (by decide), ih]
   rfl
theorem mkB_data (b : ByteArray) : mkB b.data.toList = b := rfl
theorem name_not {n : ByteArray} (h : nameF n = true) : ∀ c ∈ n.data.toList, c.toNat ≠ 61 := by
 intro c hc e
 have hb : isL c = false := by
  unfold isL
  rw [e]
  decide
 have := bad_name hc hb
 rw [mkB_data, h] at this
 cases this
theorem item_text {f : Nat} {x : Lab} {r : List UInt8} {out : List Lab} (hn : nameF x.name = true) (hl : out.length ≤ 4) : itemN f (labT x ++ r) out = prgN f r (out ++ [x]) := by
 have e : labT x ++ r = x.name.data.toList ++ 61 :: 34 :: (valT x.value.data.toList ++ 34 :: r) := by simp [labT]
 unfold itemN
 rw [e, idx_name _ _ (name_not hn)]
 simp only
 rw [if_neg (by omega)]
 have e2 : (x.name.data.toList ++ 61 :: 34 :: (valT x.value.data.toList ++ 34 :: r)).drop (x.name.data.toList.length + 2) = valT x.value.data.toList ++ 34 :: r := by
  rw [← List.drop_drop, List.drop_left]
  rfl
 rw [e2, val_text]
 simp only
 rw [List.take_left, mkB_data, mkB_data]
theorem tail_text : ∀ (r : List Lab) (f : Nat) (out : List Lab), (∀ x ∈ r, nameF x.name = true) → out ≠ [] → out.length + r.length ≤ 4 → r.length < f → prgN f (tailT r) out = if z0v (out ++ r) = true then some (out ++ r) else none
 | [], f, out, _, _, _, hf => by
   obtain ⟨g, rfl⟩ : ∃ g, f = g + 1 := ⟨f - 1, by simp only [List.length_nil] at hf; omega⟩
   show prgN (g + 1) [] out = _
   unfold prgN
   rw [if_pos rfl, List.append_nil]
 | x :: r, f, out, hn, ho, hl, hf => by
   obtain ⟨g, rfl⟩ : ∃ g, f = g + 1 := ⟨f - 1, by omega⟩
   simp only [List.length_cons] at hl hf
   have e : tailT (x :: r) = 44 :: (labT x ++ tailT r) := by simp [tailT]
   rw [e, z2X _ _ (by simp), if_neg ho]
   have ec : comma (44 :: (labT x ++ tailT r)) = some (labT x ++ tailT r) := rfl
   rw [ec]
   simp only
   rw [item_text (hn x List.mem_cons_self) (by omega), tail_text r g (out ++ [x]) (fun y hy => hn y (List.mem_cons_of_mem _ hy)) (by simp) (by rw [List.length_append, List.length_singleton]; omega) (by omega), List.append_assoc]
   rfl
theorem z29 {l : List Lab} (h : z0v l = true) {x : Lab} (hx : x ∈ l) : nameF x.name = true ∧ x.value.size ≤ 16 := by
 obtain ⟨i, hi, rfl⟩ := List.mem_iff_getElem.1 hx
 unfold z0v at h
 rw [Bool.and_eq_true, z2o] at h
 have h1 := h.2 i hi
 unfold labF labAt at h1
 rw [List.getD_eq_getElem?_getD, List.getElem?_eq_getElem hi, Option.getD_some] at h1
 simp only [Bool.and_eq_true, decide_eq_true_eq] at h1
 exact ⟨h1.1.1, h1.1.2⟩
theorem body_pos {x : Lab} {r : List Lab} : bodyT (x :: r) ≠ [] := by
 simp [bodyT, labT]
theorem tail_len : ∀ (r : List Lab), r.length ≤ (tailT r).length
 | [] => Nat.zero_le _
 | x :: r => by
   have := tail_len r
   have e : tailT (x :: r) = 44 :: (labT x ++ tailT r) := by simp [tailT]
   rw [e]
   simp only [List.length_cons, List.length_append]
   omega
theorem parse_text {l : List Lab} (h : z0v l = true) : z0A (textF l) = some l := by
 have h4 : l.length ≤ 4 := by
  unfold z0v at h
  rw [Bool.and_eq_true, decide_eq_true_eq] at h
  exact h.1
 have hlen : (textF l).length = (bodyT l).length + 2 := by simp [textF]
 unfold z0A
 rw [if_pos ⟨by omega, rfl, by
  rw [hlen]
  show (123 :: (bodyT l ++ [125]))[(bodyT l).length + 2 - 1]? = some 125
  rw [show (bodyT l).length + 2 - 1 = (bodyT l).length + 1 by omega, List.getElem?_cons_succ, List.getElem?_append_right (Nat.le_refl _)]
  simp⟩]
 have e : ((textF l).drop 1).take ((textF l).length - 2) = bodyT l := by
  rw [hlen]
  show (bodyT l ++ [125]).take _ = _
  rw [show (bodyT l).length + 2 - 2 = (bodyT l).length by omega, List.take_left]
 rw [e, hlen]
 cases l with
 | nil => rfl
 | cons x r =>
   rw [z2X _ _ body_pos, if_pos rfl]
   simp only [List.length_cons] at h4
   have hr := tail_len r
   have hb : bodyT (x :: r) = labT x ++ tailT r := rfl
   simp only
   rw [hb, item_text (z29 h List.mem_cons_self).1 (by simp), List.nil_append, tail_text r _ [x] (fun y hy => (z29 h (List.mem_cons_of_mem _ hy)).1) (by simp) (by simp only [List.length_singleton]; omega) (by simp only [List.length_append]; omega), List.singleton_append, if_pos h]
theorem by_len (c : UInt8) : (byL c).length ≤ 3 := by
 unfold byL
 split <;> simp
theorem z1K : ∀ (v : List UInt8), (valT v).length ≤ 3 * v.length
 | [] => Nat.le_refl _
 | c :: v => by
   have := by_len c
   have := z1K v
   have e : valT (c :: v) = byL c ++ valT v := by simp [valT]
   rw [e, List.length_append, List.length_cons]
   omega
theorem labT_len {x : Lab} (h : nameF x.name = true) (h2 : x.value.size ≤ 16) : (labT x).length ≤ 59 := by
 have h1 := z1K x.value.data.toList
 have hn : x.name.size ≤ 8 := by
  unfold nameF at h
  rw [Bool.and_eq_true, decide_eq_true_eq] at h
  exact h.1.2
 have e1 : x.value.data.toList.length = x.value.size := Array.length_toList ..
 have e2 : x.name.data.toList.length = x.name.size := Array.length_toList ..
 unfold labT
 simp only [List.length_append, List.length_cons, List.length_nil]
 omega
theorem tailT_len : ∀ {r : List Lab}, (∀ x ∈ r, nameF x.name = true ∧ x.value.size ≤ 16) → (tailT r).length ≤ 60 * r.length
 | [], _ => Nat.le_refl _
 | x :: r, h => by
   have h1 := labT_len (h x List.mem_cons_self).1 (h x List.mem_cons_self).2
   have h2 := tailT_len (r := r) (fun y hy => h y (List.mem_cons_of_mem _ hy))
   have e : tailT (x :: r) = 44 :: (labT x ++ tailT r) := by simp [tailT]
   rw [e]
   simp only [List.length_cons, List.length_append]
   omega
/-! a part of a set -/
end Ps
end Go.Proofs.YtpakjclpjcngmaaGreat
namespace Go.Proofs.YtpakjclpjcngmaaGreat
open Ps
def hexB : ByteArray := ⟨#[48, 49, 50, 51, 52, 53, 54, 55, 56, 57, 97, 98, 99, 100, 101, 102]⟩
theorem hex_u {n : Nat} (h : n < 16) : hexB[n]'h = hexU n := by
 have : ∀ n : Fin 16, hexB[n.val]'n.isLt = hexU n.val := by decide
 exact this ⟨n, h⟩
end Go.Proofs.YtpakjclpjcngmaaGreat
namespace Go.Proofs.YtpakjclpjcngmaaGreat
section
variable {α : Type} {lt : α → α → Bool}
end
def cnt (zs : List Int) (m : Nat) : Nat := zs.count (m : Int)
def rank (zs : List Int) (m s : Nat) : Nat := (zs.take s).count (m : Int)
def endc (zs : List Int) : Nat → Nat
 | 0 => 0
 | j + 1 => 2 * endc zs j + cnt zs (j + 1)
def allc (zs : List Int) : Nat → Nat
 | 0 => 0
 | j + 1 => allc zs j + cnt zs (j + 1)
def sumE (zs : List Int) : Nat → Nat
 | 0 => 0
 | j + 1 => sumE zs j + cnt zs (j + 1) * 2 ^ (14 - j)
theorem sumE_eq (zs : List Int) (j : Nat) (hj : j ≤ 15) : sumE zs j = endc zs j * 2 ^ (15 - j) := by
 induction j with
 | zero => simp [sumE, endc]
 | succ j ih =>
   have e : (2 : Nat) ^ (15 - j) = 2 * 2 ^ (14 - j) := by rw [← Nat.pow_succ']; congr 1; omega
   simp only [sumE, endc]
   rw [ih (by omega), e, show 15 - (j + 1) = 14 - j by omega, Nat.add_mul]
   congr 1
   rw [Nat.mul_comm 2 (endc zs j), Nat.mul_assoc]
def lenS (zs : List Int) (s : Nat) : Nat := (zs.getD s 0).toNat
def codeW (zs : List Int) (s : Nat) : Nat := 2 * endc zs (lenS zs s - 1) + rank zs (lenS zs s) s
def mkErr (zs : List Int) : Int :=
 if 320 < zs.length then 5 else if ∃ z ∈ zs, z < 0 ∨ 15 < z then 1 else
 if 32768 < endc zs 15 ∨ (endc zs 15 < 32768 ∧ 0 < allc zs 15 ∧ ¬ (allc zs 15 = 1 ∧ cnt zs 1 = 1)) then 4 else 0
theorem cnt_le' (zs : List Int) (m : Nat) : cnt zs m ≤ zs.length := by unfold cnt; exact List.count_le_length
theorem sumE_term (zs : List Int) (j : Nat) (hn : zs.length ≤ 320) : cnt zs (j + 1) * 2 ^ (14 - j) ≤ 5242880 := by
 have h1 := cnt_le' zs (j + 1)
 have h2 : (2 : Nat) ^ (14 - j) ≤ 2 ^ 14 := Nat.pow_le_pow_right (by omega) (by omega)
 have := Nat.mul_le_mul (show cnt zs (j + 1) ≤ 320 by omega) h2
 omega
theorem sumE_le (zs : List Int) (j : Nat) (hj : j ≤ 15) (hn : zs.length ≤ 320) : sumE zs j ≤ 78643200 := by
 have h : sumE zs j ≤ j * 5242880 := by
  clear hj
  induction j with
  | zero => simp [sumE]
  | succ j ih =>
    have := sumE_term zs j hn
    simp only [sumE, Nat.succ_mul]
    omega
 omega
theorem z2J (zs : List Int) (m s : Nat) (h : s < zs.length) : rank zs m (s + 1) = rank zs m s + if zs[s] = (m : Int) then 1 else 0 := by
 unfold rank
 rw [List.take_succ_eq_append_getElem h, List.count_append, List.count_singleton]
 congr 1
 by_cases e : zs[s] = (m : Int) <;> simp [e]
theorem z4m (zs : List Int) (m : Nat) : rank zs m zs.length = cnt zs m := by simp [rank, cnt]
theorem rank_le (zs : List Int) (m s : Nat) : rank zs m s ≤ cnt zs m := by
 unfold rank cnt
 exact List.Sublist.count_le (m : Int) (List.take_sublist s zs)
theorem cnt_le (zs : List Int) (m : Nat) : cnt zs m ≤ zs.length := by unfold cnt; exact List.count_le_length
theorem allc_le (zs : List Int) (j : Nat) : allc zs j ≤ j * zs.length := by
 induction j with
 | zero => simp [allc]
 | succ j ih =>
   have := cnt_le zs (j + 1)
   simp only [allc, Nat.succ_mul]
   omega
theorem z4A (zs : List Int) (j : Nat) (hj : j ≤ 15) (hn : zs.length ≤ 320) : allc zs j ≤ 4800 := by
 have h1 := allc_le zs j
 have := Nat.mul_le_mul hj hn
 omega
theorem endc_mono (zs : List Int) (j k : Nat) : 2 ^ k * endc zs j ≤ endc zs (j + k) := by
 induction k with
 | zero => simp
 | succ k ih =>
   have e : endc zs (j + (k + 1)) = 2 * endc zs (j + k) + cnt zs (j + k + 1) := rfl
   rw [e, Nat.pow_succ, Nat.mul_comm (2 ^ k) 2, Nat.mul_assoc]
   omega
theorem endc_le {zs : List Int} (h : endc zs 15 ≤ 32768) (j : Nat) (hj : j ≤ 15) : endc zs j ≤ 2 ^ j := by
 have h1 := endc_mono zs j (15 - j)
 rw [show j + (15 - j) = 15 by omega] at h1
 have h2 : (2 : Nat) ^ 15 = 2 ^ (15 - j) * 2 ^ j := by rw [← Nat.pow_add]; congr 1; omega
 have h3 : 2 ^ (15 - j) * endc zs j ≤ 2 ^ (15 - j) * 2 ^ j := by rw [← h2]; omega
 exact Nat.le_of_mul_le_mul_left h3 (Nat.two_pow_pos _)
theorem z5a {zs : List Int} {s : Nat} (hs : s < zs.length) (h0 : 0 ≤ zs[s]) : ((lenS zs s : Nat) : Int) = zs[s] := by
 have e : zs.getD s 0 = zs[s] := by simp [List.getD, hs]
 unfold lenS
 rw [e]
 omega
theorem rank_lt {zs : List Int} {s : Nat} (hs : s < zs.length) (h0 : 0 ≤ zs[s]) : rank zs (lenS zs s) s < cnt zs (lenS zs s) := by
 have h1 := z2J zs (lenS zs s) s hs
 rw [if_pos (z5a hs h0).symm] at h1
 have h2 := rank_le zs (lenS zs s) (s + 1)
 omega
def z1z (zs : List Int) (m k : Nat) : List Int := ((List.range k).filter fun s => zs.getD s 0 == (m : Int)).map fun s : Nat => (s : Int)
theorem z3h (zs : List Int) (m k : Nat) (h : k < zs.length) : z1z zs m (k + 1) = z1z zs m k ++ if zs[k] = (m : Int) then [(k : Int)] else [] := by
 have e : zs.getD k 0 = zs[k] := by simp [List.getD, h]
 simp only [z1z, List.range_succ, List.filter_append, List.map_append]
 congr 1
 by_cases hz : zs[k] = (m : Int)
 ·simp [hz, List.getD, h]
 ·simp [hz, List.getD, h]
theorem z1L (zs : List Int) (m k : Nat) (h : k ≤ zs.length) : (z1z zs m k).length = rank zs m k := by
 induction k with
 | zero => simp [z1z, rank]
 | succ k ih =>
   rw [z3h zs m k (by omega), z2J zs m k (by omega), List.length_append, ih (by omega)]
   split <;> simp
def z0n (zs : List Int) : Nat → List Int
 | 0 => []
 | j + 1 => z0n zs j ++ z1z zs (j + 1) zs.length
theorem z1O (zs : List Int) (j : Nat) : (z0n zs j).length = allc zs j := by
 induction j with
 | zero => rfl
 | succ j ih => simp only [z0n, allc, List.length_append, ih, z1L zs (j + 1) zs.length (Nat.le_refl _), z4m]
theorem symsTo_get (zs : List Int) (m s : Nat) (hs : s < zs.length) (hz : zs[s] = (m : Int)) : ∀ k, s < k → k ≤ zs.length → (z1z zs m k)[rank zs m s]? = some (s : Int) := by
 intro k hsk hk
 induction k with
 | zero => omega
 | succ k ih =>
   rw [z3h zs m k (by omega)]
   by_cases h : s < k
   ·have := ih h (by omega)
    rw [List.getElem?_append_left (List.getElem?_eq_some_iff.1 this).1]
    exact this
   ·obtain rfl : s = k := by omega
    rw [List.getElem?_append_right (by rw [z1L zs m s (by omega)]; exact Nat.le_refl _), z1L zs m s (by omega), Nat.sub_self, if_pos hz]
    rfl
theorem sorted_pre (zs : List Int) (j k i : Nat) (h : i < (z0n zs j).length) : (z0n zs (j + k))[i]? = (z0n zs j)[i]? := by
 induction k with
 | zero => rfl
 | succ k ih =>
   have e : z0n zs (j + (k + 1)) = z0n zs (j + k) ++ z1z zs (j + k + 1) zs.length := rfl
   have hl : (z0n zs j).length ≤ (z0n zs (j + k)).length := by
    clear ih e
    induction k with
    | zero => exact Nat.le_refl _
    | succ k ih =>
      have e : z0n zs (j + (k + 1)) = z0n zs (j + k) ++ z1z zs (j + k + 1) zs.length := rfl
      rw [e, List.length_append]; omega
   rw [e, List.getElem?_append_left (by omega), ih]
theorem sorted_get (zs : List Int) (s : Nat) (hs : s < zs.length) (h0 : 0 < zs[s]) (h15 : zs[s] ≤ 15) : (z0n zs 15)[allc zs (lenS zs s - 1) + rank zs (lenS zs s) s]? = some (s : Int) := by
 have e1 := z5a hs (by omega)
 have hr := rank_lt hs (by omega)
 obtain ⟨m, hm⟩ : ∃ m, lenS zs s = m + 1 := ⟨lenS zs s - 1, by omega⟩
 rw [hm] at e1 hr ⊢
 have hlen := z1O zs (m + 1)
 have hlm := z1O zs m
 rw [show (15 : Nat) = (m + 1) + (14 - m) by omega, sorted_pre zs (m + 1) (14 - m) _ (by rw [hlen]; simp only [allc]; simp; omega)]
 simp only [z0n, Nat.add_sub_cancel]
 rw [List.getElem?_append_right (by omega), hlm, Nat.add_sub_cancel_left]
 exact symsTo_get zs (m + 1) s hs e1.symm _ hs (Nat.le_refl _)
def msb (f : Nat → Nat) : Nat → Nat
 | 0 => 0
 | n + 1 => 2 * msb f n + f n
theorem msb_lt (f : Nat → Nat) (hf : ∀ i, f i < 2) (n : Nat) : msb f n < 2 ^ n := by
 induction n with
 | zero => simp [msb]
 | succ n ih =>
   have := hf n
   simp only [msb, Nat.pow_succ]
   omega
def Past (zs : List Int) (f : Nat → Nat) (n : Nat) : Prop := endc zs n ≤ msb f n
theorem past_zero (zs : List Int) (f : Nat → Nat) : Past zs f 0 := by simp [Past, endc]
theorem past_first {zs : List Int} {f : Nat → Nat} {n : Nat} (h : Past zs f n) : 2 * endc zs n ≤ msb f (n + 1) := by
 unfold Past at h
 simp only [msb]
 omega
theorem past_step {zs : List Int} {f : Nat → Nat} {n : Nat} (h : Past zs f n) : (msb f (n + 1) < 2 * endc zs n + cnt zs (n + 1)) ∨ Past zs f (n + 1) := by
 by_cases hl : msb f (n + 1) < 2 * endc zs n + cnt zs (n + 1)
 ·exact .inl hl
 ·refine .inr ?_
  unfold Past
  simp only [endc]
  omega
theorem z3I (zs : List Int) (j k : Nat) : allc zs j ≤ allc zs (j + k) := by
 induction k with
 | zero => exact Nat.le_refl _
 | succ k ih =>
   have e : allc zs (j + (k + 1)) = allc zs (j + k) + cnt zs (j + k + 1) := rfl
   omega
theorem own_past {zs : List Int} {s : Nat} (hs : s < zs.length) (h0 : 0 < zs[s]) {f : Nat → Nat} (hf : ∀ i, f i < 2) (hw : msb f (lenS zs s) = codeW zs s) {n : Nat} (hn : n < lenS zs s) : Past zs f n := by
 unfold Past
 have h1 : 2 * endc zs (lenS zs s - 1) ≤ msb f (lenS zs s) := by rw [hw]; unfold codeW; omega
 obtain ⟨m, hm⟩ : ∃ m, lenS zs s = m + 1 := ⟨lenS zs s - 1, by omega⟩
 rw [hm] at h1 hn
 simp only [msb, Nat.add_sub_cancel] at h1
 have hfm := hf m
 have h2 : endc zs m ≤ msb f m := by omega
 rcases Nat.lt_or_ge (msb f n) (endc zs n) with h | h
 ·exfalso
  have e1 := endc_mono zs n (m - n)
  rw [show n + (m - n) = m by omega] at e1
  -- the bits behind add less than one unit
  have e2 : msb f m < 2 ^ (m - n) * (msb f n + 1) := by
   have key : ∀ k, msb f (n + k) < 2 ^ k * (msb f n + 1) := by
    intro k
    induction k with
    | zero => simp
    | succ k ih =>
      have e : msb f (n + (k + 1)) = 2 * msb f (n + k) + f (n + k) := rfl
      have := hf (n + k)
      rw [e, Nat.pow_succ, Nat.mul_comm (2 ^ k) 2, Nat.mul_assoc]
      omega
   have := key (m - n)
   rwa [show n + (m - n) = m by omega] at this
  have e3 : 2 ^ (m - n) * (msb f n + 1) ≤ 2 ^ (m - n) * endc zs n := Nat.mul_le_mul_left _ h
  omega
 ·exact h
theorem found {zs : List Int} (hl : zs.length ≤ 320) {w n : Nat} (hn : n ≤ 14) (h1 : 2 * endc zs n ≤ w) (h2 : w < 2 * endc zs n + cnt zs (n + 1)) :
  ∃ s, ∃ hs : s < zs.length, zs[s] = ((n + 1 : Nat) : Int) ∧ codeW zs s = w ∧ (z0n zs 15)[allc zs n + (w - 2 * endc zs n)]? = some (s : Int) := by
 -- the rank of each symbol of that length runs through all places
 have key : ∀ k, k ≤ zs.length → ∀ r, r < rank zs (n + 1) k → ∃ s, ∃ hs : s < zs.length, s < k ∧ zs[s] = ((n + 1 : Nat) : Int) ∧ rank zs (n + 1) s = r := by
  intro k
  induction k with
  | zero => intro _ r hr; simp [rank] at hr
  | succ k ih =>
    intro hk r hr
    rw [z2J zs (n + 1) k (by omega)] at hr
    by_cases hz : zs[k] = ((n + 1 : Nat) : Int)
    ·rw [if_pos hz] at hr
     by_cases he : r = rank zs (n + 1) k
     ·exact ⟨k, by omega, by omega, hz, he.symm⟩
     ·obtain ⟨s, hs, h1, h2, h3⟩ := ih (by omega) r (by omega)
      exact ⟨s, hs, by omega, h2, h3⟩
    ·rw [if_neg hz] at hr
     obtain ⟨s, hs, h1, h2, h3⟩ := ih (by omega) r (by omega)
     exact ⟨s, hs, by omega, h2, h3⟩
 obtain ⟨s, hs, _, hz, hr⟩ := key zs.length (Nat.le_refl _) (w - 2 * endc zs n) (by rw [z4m]; omega)
 have hlen : lenS zs s = n + 1 := by
  have := z5a hs (by omega)
  omega
 have hc : codeW zs s = w := by unfold codeW; rw [hlen, Nat.add_sub_cancel, hr]; omega
 have hg := sorted_get zs s hs (by omega) (by omega)
 rw [hlen, Nat.add_sub_cancel, hr] at hg
 exact ⟨s, hs, hz, hc, hg⟩
end Go.Proofs.YtpakjclpjcngmaaGreat
