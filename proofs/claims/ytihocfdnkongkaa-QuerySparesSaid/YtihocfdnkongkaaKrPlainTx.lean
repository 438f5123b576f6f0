/- A set's text, as a plain function, and that it is parsed to the set; a part of a right set. Conditions: none. -/
import Derived.Test.YtihocfdnkongkaaKrPlainPs
namespace Go.Proofs.Ytihocfdnkongkaa
set_option linter.unusedVariables false
namespace Ps
def hexU (n : Nat) : UInt8 := UInt8.ofNat (if n < 10 then 48 + n else 87 + n)
/-- a byte of a value, as it is written -/
def byL (c : UInt8) : List UInt8 := if plF c.toNat = true then [c] else [92, hexU (c.toNat / 16), hexU (c.toNat % 16)]
def valT (v : List UInt8) : List UInt8 := v.flatMap byL
def labT (x : Lab) : List UInt8 := x.name.data.toList ++ 61 :: 34 :: (valT x.value.data.toList ++ [34])
def tailT (l : List Lab) : List UInt8 := l.flatMap fun x => 44 :: labT x
def bodyT : List Lab → List UInt8
  | [] => []
  | x :: r => labT x ++ tailT r
def textF (l : List Lab) : List UInt8 := 123 :: (bodyT l ++ [125])
theorem body_snoc (l : List Lab) (x : Lab) : bodyT (l ++ [x]) = bodyT l ++ ((if l = [] then [] else [44]) ++ labT x) := by
  cases l with
  | nil => simp [bodyT, tailT]
  | cons y r => simp [bodyT, tailT, List.flatMap_append]
theorem valT_snoc (v : List UInt8) (c : UInt8) : valT (v ++ [c]) = valT v ++ byL c := by
  unfold valT
  rw [List.flatMap_append]
  simp
theorem dg_hex {n : Nat} (h : n < 16) : dgF (hexU n).toNat = some n := by
  have : ∀ n, n < 16 → dgF (hexU n).toNat = some n := by decide
  exact this n h
theorem one_by (c : UInt8) (r : List UInt8) : oneF (byL c ++ r) = some (c, (byL c).length) := by
  unfold byL
  have hc := c.toNat_lt
  by_cases h : plF c.toNat = true
  · rw [if_pos h]
    have h92 : c.toNat ≠ 92 := by
      intro e
      rw [e] at h
      exact absurd h (by decide)
    show oneF (c :: r) = _
    unfold oneF
    simp only
    rw [if_neg h92, if_pos h]
    rfl
  · rw [if_neg h]
    show oneF (92 :: hexU (c.toNat / 16) :: hexU (c.toNat % 16) :: r) = _
    unfold oneF
    simp only
    rw [if_pos (by decide), dg_hex (by omega), dg_hex (by omega)]
    simp only
    rw [show 16 * (c.toNat / 16) + c.toNat % 16 = c.toNat by omega, if_neg h]
    simp
theorem by_head (c : UInt8) : ∃ a r, byL c = a :: r ∧ a.toNat ≠ 34 := by
  unfold byL
  by_cases h : plF c.toNat = true
  · rw [if_pos h]
    refine ⟨c, [], rfl, fun e => ?_⟩
    rw [e] at h
    exact absurd h (by decide)
  · rw [if_neg h]
    exact ⟨92, _, rfl, by decide⟩
theorem val_text : ∀ (v r : List UInt8), valL (valT v ++ 34 :: r) = some (v, r)
  | [], r => valL_end r (by decide)
  | c :: v, r => by
    obtain ⟨a, t, e, ha⟩ := by_head c
    have h1 := one_by c (valT v ++ 34 :: r)
    have e2 : valT (c :: v) ++ 34 :: r = byL c ++ (valT v ++ 34 :: r) := by
      unfold valT
      rw [List.flatMap_cons, List.append_assoc]
    rw [e2]
    rw [e] at h1 ⊢
    rw [List.cons_append] at h1 ⊢
    rw [valL_one ha h1, ← List.cons_append, List.drop_left, val_text v r]
    rfl
theorem idx_name : ∀ (n : List UInt8) (r : List UInt8), (∀ c ∈ n, c.toNat ≠ 61) → idxL (n ++ 61 :: 34 :: r) = some n.length
  | [], r, _ => rfl
  | c :: n, r, h => by
    have ih := idx_name n r (fun d hd => h d (List.mem_cons_of_mem _ hd))
    have hc := h c List.mem_cons_self
    show idxL (c :: (n ++ 61 :: 34 :: r)) = _
    unfold idxL
    have : eqAt (c :: (n ++ 61 :: 34 :: r)) = none := by
      cases n with
      | nil => show eqAt (c :: 61 :: 34 :: r) = none; rw [eqAt_cons, if_neg (fun hh => hc hh.1)]
      | cons d n => show eqAt (c :: d :: (n ++ 61 :: 34 :: r)) = none; rw [eqAt_cons, if_neg (fun hh => hc hh.1)]
    rw [this, if_neg (by decide), ih]
    rfl
theorem mkB_data (b : ByteArray) : mkB b.data.toList = b := rfl
theorem name_not {n : ByteArray} (h : nameF n = true) : ∀ c ∈ n.data.toList, c.toNat ≠ 61 := by
  intro c hc e
  have hb : isL c = false := by
    unfold isL
    rw [e]
    decide
  have := bad_name hc hb
  rw [mkB_data, h] at this
  cases this
theorem item_text {f : Nat} {x : Lab} {r : List UInt8} {out : List Lab} (hn : nameF x.name = true) (hl : out.length ≤ 4) : itemN f (labT x ++ r) out = prgN f r (out ++ [x]) := by
  have e : labT x ++ r = x.name.data.toList ++ 61 :: 34 :: (valT x.value.data.toList ++ 34 :: r) := by simp [labT]
  unfold itemN
  rw [e, idx_name _ _ (name_not hn)]
  simp only
  rw [if_neg (by omega)]
  have e2 : (x.name.data.toList ++ 61 :: 34 :: (valT x.value.data.toList ++ 34 :: r)).drop (x.name.data.toList.length + 2) = valT x.value.data.toList ++ 34 :: r := by
    rw [← List.drop_drop, List.drop_left]
    rfl
  rw [e2, val_text]
  simp only
  rw [List.take_left, mkB_data, mkB_data]
theorem tail_text : ∀ (r : List Lab) (f : Nat) (out : List Lab), (∀ x ∈ r, nameF x.name = true) → out ≠ [] → out.length + r.length ≤ 4 → r.length < f → prgN f (tailT r) out = if rightF (out ++ r) = true then some (out ++ r) else none
  | [], f, out, _, _, _, hf => by
    obtain ⟨g, rfl⟩ : ∃ g, f = g + 1 := ⟨f - 1, by simp only [List.length_nil] at hf; omega⟩
    show prgN (g + 1) [] out = _
    unfold prgN
    rw [if_pos rfl, List.append_nil]
  | x :: r, f, out, hn, ho, hl, hf => by
    obtain ⟨g, rfl⟩ : ∃ g, f = g + 1 := ⟨f - 1, by omega⟩
    simp only [List.length_cons] at hl hf
    have e : tailT (x :: r) = 44 :: (labT x ++ tailT r) := by simp [tailT]
    rw [e, prg_item _ _ (by simp), if_neg ho]
    have ec : comma (44 :: (labT x ++ tailT r)) = some (labT x ++ tailT r) := rfl
    rw [ec]
    simp only
    rw [item_text (hn x List.mem_cons_self) (by omega), tail_text r g (out ++ [x]) (fun y hy => hn y (List.mem_cons_of_mem _ hy)) (by simp) (by rw [List.length_append, List.length_singleton]; omega) (by omega), List.append_assoc]
    rfl
theorem lab_in_right {l : List Lab} (h : rightF l = true) {x : Lab} (hx : x ∈ l) : nameF x.name = true ∧ x.value.size ≤ 16 := by
  obtain ⟨i, hi, rfl⟩ := List.mem_iff_getElem.1 hx
  unfold rightF at h
  rw [Bool.and_eq_true, all_range] at h
  have h1 := h.2 i hi
  unfold labF labAt at h1
  rw [List.getD_eq_getElem?_getD, List.getElem?_eq_getElem hi, Option.getD_some] at h1
  simp only [Bool.and_eq_true, decide_eq_true_eq] at h1
  exact ⟨h1.1.1, h1.1.2⟩
theorem body_pos {x : Lab} {r : List Lab} : bodyT (x :: r) ≠ [] := by
  simp [bodyT, labT]
theorem tail_len : ∀ (r : List Lab), r.length ≤ (tailT r).length
  | [] => Nat.zero_le _
  | x :: r => by
    have := tail_len r
    have e : tailT (x :: r) = 44 :: (labT x ++ tailT r) := by simp [tailT]
    rw [e]
    simp only [List.length_cons, List.length_append]
    omega
theorem parse_text {l : List Lab} (h : rightF l = true) : parseF (textF l) = some l := by
  have h4 : l.length ≤ 4 := by
    unfold rightF at h
    rw [Bool.and_eq_true, decide_eq_true_eq] at h
    exact h.1
  have hlen : (textF l).length = (bodyT l).length + 2 := by simp [textF]
  unfold parseF
  rw [if_pos ⟨by omega, rfl, by
    rw [hlen]
    show (123 :: (bodyT l ++ [125]))[(bodyT l).length + 2 - 1]? = some 125
    rw [show (bodyT l).length + 2 - 1 = (bodyT l).length + 1 by omega, List.getElem?_cons_succ, List.getElem?_append_right (Nat.le_refl _)]
    simp⟩]
  have e : ((textF l).drop 1).take ((textF l).length - 2) = bodyT l := by
    rw [hlen]
    show (bodyT l ++ [125]).take _ = _
    rw [show (bodyT l).length + 2 - 2 = (bodyT l).length by omega, List.take_left]
  rw [e, hlen]
  cases l with
  | nil => rfl
  | cons x r =>
    rw [prg_item _ _ body_pos, if_pos rfl]
    simp only [List.length_cons] at h4
    have hr := tail_len r
    have hb : bodyT (x :: r) = labT x ++ tailT r := rfl
    simp only
    rw [hb, item_text (lab_in_right h List.mem_cons_self).1 (by simp), List.nil_append, tail_text r _ [x] (fun y hy => (lab_in_right h (List.mem_cons_of_mem _ hy)).1) (by simp) (by simp only [List.length_singleton]; omega) (by simp only [List.length_append]; omega), List.singleton_append, if_pos h]
theorem by_len (c : UInt8) : (byL c).length ≤ 3 := by
  unfold byL
  split <;> simp
theorem valT_len : ∀ (v : List UInt8), (valT v).length ≤ 3 * v.length
  | [] => Nat.le_refl _
  | c :: v => by
    have := by_len c
    have := valT_len v
    have e : valT (c :: v) = byL c ++ valT v := by simp [valT]
    rw [e, List.length_append, List.length_cons]
    omega
theorem labT_len {x : Lab} (h : nameF x.name = true) (h2 : x.value.size ≤ 16) : (labT x).length ≤ 59 := by
  have h1 := valT_len x.value.data.toList
  have hn : x.name.size ≤ 8 := by
    unfold nameF at h
    rw [Bool.and_eq_true, decide_eq_true_eq] at h
    exact h.1.2
  have e1 : x.value.data.toList.length = x.value.size := Array.length_toList ..
  have e2 : x.name.data.toList.length = x.name.size := Array.length_toList ..
  unfold labT
  simp only [List.length_append, List.length_cons, List.length_nil]
  omega
theorem tailT_len : ∀ {r : List Lab}, (∀ x ∈ r, nameF x.name = true ∧ x.value.size ≤ 16) → (tailT r).length ≤ 60 * r.length
  | [], _ => Nat.le_refl _
  | x :: r, h => by
    have h1 := labT_len (h x List.mem_cons_self).1 (h x List.mem_cons_self).2
    have h2 := tailT_len (r := r) (fun y hy => h y (List.mem_cons_of_mem _ hy))
    have e : tailT (x :: r) = 44 :: (labT x ++ tailT r) := by simp [tailT]
    rw [e]
    simp only [List.length_cons, List.length_append]
    omega
theorem text_len {l : List Lab} (h : rightF l = true) : (textF l).length ≤ 300 := by
  have h4 : l.length ≤ 4 := by
    unfold rightF at h
    rw [Bool.and_eq_true, decide_eq_true_eq] at h
    exact h.1
  cases l with
  | nil => decide
  | cons x r =>
    have h1 := labT_len (lab_in_right h List.mem_cons_self).1 (lab_in_right h List.mem_cons_self).2
    have h2 := tailT_len (r := r) (fun y hy => lab_in_right h (List.mem_cons_of_mem _ hy))
    simp only [List.length_cons] at h4
    unfold textF bodyT
    simp only [List.length_cons, List.length_append, List.length_nil]
    omega
/-! a part of a set -/
theorem right_pair {l : List Lab} : rightF l = true ↔ l.length ≤ 4 ∧ (∀ x ∈ l, nameF x.name = true ∧ x.value.size ≤ 16) ∧ l.Pairwise (fun a b => bltF a.name b.name = true) := by
  rw [← right_ref, Bool.and_eq_true, decide_eq_true_eq, all_range]
  have g : ∀ i (hi : i < l.length), labAt l i = l[i] := fun i hi => by
    unfold labAt
    rw [List.getD_eq_getElem?_getD, List.getElem?_eq_getElem hi, Option.getD_some]
  constructor
  · rintro ⟨h1, h2⟩
    refine ⟨h1, fun x hx => ?_, ?_⟩
    · obtain ⟨i, hi, rfl⟩ := List.mem_iff_getElem.1 hx
      have := h2 i hi
      unfold labR at this
      rw [g i hi] at this
      simp only [Bool.and_eq_true, decide_eq_true_eq] at this
      exact this.1
    · rw [List.pairwise_iff_getElem]
      intro i j hi hj hij
      have := h2 j hj
      unfold labR at this
      simp only [Bool.and_eq_true, decide_eq_true_eq] at this
      have h3 := all_range.1 this.2 i hij
      rw [g i hi, g j hj] at h3
      exact h3
  · rintro ⟨h1, h2, h3⟩
    refine ⟨h1, fun i hi => ?_⟩
    unfold labR
    rw [g i hi]
    simp only [Bool.and_eq_true, decide_eq_true_eq]
    refine ⟨h2 _ (List.getElem_mem hi), all_range.2 fun k hk => ?_⟩
    rw [g k (by omega)]
    exact List.pairwise_iff_getElem.1 h3 k i (by omega) hi hk
def inB (by_ : List ByteArray) (x : ByteArray) : Bool := by_.any fun y => decide (y = x)
theorem inB_iff {by_ : List ByteArray} {x : ByteArray} : inB by_ x = true ↔ x ∈ by_ := by
  unfold inB
  rw [List.any_eq_true]
  constructor
  · rintro ⟨y, hy, e⟩
    rw [decide_eq_true_iff] at e
    exact e ▸ hy
  · intro h
    exact ⟨x, h, decide_eq_true rfl⟩
def partF (l : List Lab) (by_ : List ByteArray) : List Lab := l.filter fun x => inB by_ x.name
theorem right_part {l : List Lab} (h : rightF l = true) (by_ : List ByteArray) : rightF (partF l by_) = true := by
  obtain ⟨h1, h2, h3⟩ := right_pair.1 h
  refine right_pair.2 ⟨?_, fun x hx => h2 x (List.mem_filter.1 hx).1, h3.filter _⟩
  have := List.length_filter_le (fun x : Lab => inB by_ x.name) l
  unfold partF
  omega
theorem get_part {by_ : List ByteArray} {n v : ByteArray} : ∀ {l : List Lab}, getF (partF l by_) n = some v → getF l n = some v
  | [], h => by cases h
  | x :: l, h => by
    unfold getF
    unfold partF at h
    rw [List.filter_cons] at h
    split at h
    · unfold getF at h
      split
      · next e =>
        rw [if_pos e] at h
        exact h
      · next e =>
        rw [if_neg e] at h
        exact get_part (l := l) h
    · next hb =>
      split
      · next e =>
        exfalso
        have h2 : ∀ (m : List Lab), (∀ y ∈ m, inB by_ y.name = true) → getF m n = some v → inB by_ n = true := by
          intro m
          induction m with
          | nil => intro _ hh; cases hh
          | cons y m ih =>
            intro hm hh
            unfold getF at hh
            split at hh
            · next ee => rw [← ee]; exact hm y List.mem_cons_self
            · exact ih (fun z hz => hm z (List.mem_cons_of_mem _ hz)) hh
        have := h2 _ (fun y hy => (List.mem_filter.1 hy).2) h
        rw [← e] at this
        exact hb this
      · exact get_part (l := l) h
end Ps
end Go.Proofs.Ytihocfdnkongkaa
