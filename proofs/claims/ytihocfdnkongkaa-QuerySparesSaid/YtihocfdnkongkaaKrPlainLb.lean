/- Labels, matchers, rows and queries as plain functions. Conditions: none. -/
import Derived.Test.YtihocfdnkongkaaKrPlainSo
namespace Go.Proofs.Ytihocfdnkongkaa
set_option linter.unusedVariables false
structure Lab where
  name : ByteArray
  value : ByteArray
structure Mat where
  name : ByteArray
  way : Int
  value : ByteArray
structure RowE where
  kind : Int
  time : Int
  labs : List Lab
  text : ByteArray
  value : Int
  null : Bool
  maker : Int
  seq : Int
  place : Int
structure QryE where
  lo : Int
  hi : Int
  ms : List Mat
  limit : Int
  texts : Bool
/-- less, as texts -/
def bltF (a b : ByteArray) : Bool := decide (a.data.toList < b.data.toList)
theorem bltF_trans {a b c : ByteArray} (h : bltF a b = true) (k : bltF b c = true) : bltF a c = true := by
  unfold bltF at *
  rw [decide_eq_true_iff] at *
  exact List.lt_trans h k
theorem bltF_irr (a : ByteArray) : bltF a a = false := by
  unfold bltF
  rw [decide_eq_false_iff_not]
  exact List.lt_irrefl _
/-- a byte of a name, at a place -/
def letF (c i : Nat) : Bool := decide (97 ≤ c ∧ c ≤ 122) || (decide (0 < i) && (decide (48 ≤ c ∧ c ≤ 57) || decide (c = 95)))
def byteF (s : ByteArray) (i : Nat) : Nat := (s.data[i]?.getD 0).toNat
def nameF (s : ByteArray) : Bool := decide (1 ≤ s.size ∧ s.size ≤ 8) && (List.range s.size).all fun i => letF (byteF s i) i
def labAt (l : List Lab) (i : Nat) : Lab := l.getD i ⟨⟨#[]⟩, ⟨#[]⟩⟩
/-- a label at its place -/
def labF (l : List Lab) (i : Nat) : Bool := nameF (labAt l i).name && decide ((labAt l i).value.size ≤ 16) && (decide (i = 0) || bltF (labAt l (i - 1)).name (labAt l i).name)
def rightF (l : List Lab) : Bool := decide (l.length ≤ 4) && (List.range l.length).all fun i => labF l i
def asksF (m : Mat) : Bool := nameF m.name && decide (m.value.size ≤ 16) && (decide (1 ≤ m.way ∧ m.way ≤ 4)) && (decide (m.way ≠ 4) || decide (m.value.size = 0))
def getF : List Lab → ByteArray → Option ByteArray
  | [], _ => none
  | x :: l, n => if x.name = n then some x.value else getF l n
def hasPF (v p : ByteArray) : Bool := decide (p.size ≤ v.size) && decide (v.data.toList.take p.size = p.data.toList)
def wayF (m : Mat) (o : Option ByteArray) : Bool :=
  if m.way = 1 then decide (o = some m.value) else if m.way = 2 then !decide (o = some m.value) else if m.way = 3 then (match o with | some v => hasPF v m.value | none => false) else o.isSome
def meetsF (l : List Lab) (ms : List Mat) : Bool := rightF l && ms.all fun m => asksF m && wayF m (getF l m.name)
def qrightF (q : QryE) : Bool := decide (0 ≤ q.lo ∧ q.lo ≤ q.hi ∧ q.hi ≤ 1099511627776 ∧ q.ms.length ≤ 8 ∧ 0 ≤ q.limit ∧ q.limit ≤ 2048) && q.ms.all asksF
def keeps0 (q : QryE) (x : RowE) : Bool := decide (q.lo ≤ x.time ∧ x.time < q.hi) && meetsF x.labs q.ms
def keepsF (q : QryE) (x : RowE) : Bool := qrightF q && keeps0 q x
/-- the order of rows -/
def keyLt (x y : RowE) : Bool := decide (x.time < y.time ∨ (x.time = y.time ∧ (x.maker < y.maker ∨ (x.maker = y.maker ∧ (x.seq < y.seq ∨ (x.seq = y.seq ∧ x.place < y.place))))))
theorem key_weak : Weak keyLt := by
  refine ⟨fun x y h => ?_, fun x y z h k => ?_, fun x y z h k => ?_⟩
  · unfold keyLt at *
    rw [decide_eq_true_iff] at h
    rw [decide_eq_false_iff_not]
    omega
  · unfold keyLt at *
    rw [decide_eq_true_iff] at *
    omega
  · unfold keyLt at *
    rw [decide_eq_false_iff_not] at *
    omega
def stripF (q : QryE) (x : RowE) : RowE := if q.texts then x else { x with text := ⟨#[]⟩ }
def cutF (q : QryE) (l : List RowE) : List RowE := if q.limit = 0 then l else l.take q.limit.toNat
def answerF (q : QryE) (l : List RowE) : List RowE := if qrightF q then (cutF q ((sortF keyLt l).filter (keeps0 q))).map (stripF q) else []

/-! the document's forms -/
theorem all_range {n : Nat} {p : Nat → Bool} : ((List.range n).all p = true) ↔ ∀ i, i < n → p i = true := by
  rw [List.all_eq_true]
  exact ⟨fun h i hi => h i (List.mem_range.2 hi), fun h i hi => h i (List.mem_range.1 hi)⟩
/-- each label behind all ahead of it -/
def labR (l : List Lab) (i : Nat) : Bool := nameF (labAt l i).name && decide ((labAt l i).value.size ≤ 16) && (List.range i).all fun k => bltF (labAt l k).name (labAt l i).name
theorem right_ref (l : List Lab) : (decide (l.length ≤ 4) && (List.range l.length).all fun i => labR l i) = rightF l := by
  unfold rightF
  congr 1
  rw [Bool.eq_iff_iff, all_range, all_range]
  constructor
  · intro h i hi
    have := h i hi
    unfold labR at this
    unfold labF
    simp only [Bool.and_eq_true, decide_eq_true_eq, all_range] at this
    simp only [Bool.and_eq_true, decide_eq_true_eq, Bool.or_eq_true]
    refine ⟨this.1, ?_⟩
    by_cases e : i = 0
    · exact .inl e
    · exact .inr (this.2 (i - 1) (by omega))
  · intro h i hi
    have hi' := h i hi
    unfold labF at hi'
    simp only [Bool.and_eq_true, decide_eq_true_eq, Bool.or_eq_true] at hi'
    unfold labR
    simp only [Bool.and_eq_true, decide_eq_true_eq, all_range]
    refine ⟨hi'.1, ?_⟩
    have H : ∀ d k, k + d + 1 = i → bltF (labAt l k).name (labAt l i).name = true := by
      intro d
      induction d with
      | zero =>
        intro k hk
        rcases hi'.2 with e | e
        · omega
        · rw [show i - 1 = k by omega] at e; exact e
      | succ d ih =>
        intro k hk
        have hk1 := h (k + 1) (by omega)
        unfold labF at hk1
        simp only [Bool.and_eq_true, decide_eq_true_eq, Bool.or_eq_true] at hk1
        rcases hk1.2 with e | e
        · omega
        · rw [Nat.add_sub_cancel] at e
          exact bltF_trans e (ih (k + 1) (by omega))
    intro k hk
    exact H (i - k - 1) k (by omega)
/-- names of a label set are each there once -/
theorem right_uniq {l : List Lab} (h : rightF l = true) {i j : Nat} (hi : i < l.length) (hj : j < l.length) (e : (labAt l i).name = (labAt l j).name) : i = j := by
  rw [← right_ref] at h
  simp only [Bool.and_eq_true, decide_eq_true_eq, all_range] at h
  have H : ∀ a b, a < b → b < l.length → (labAt l a).name = (labAt l b).name → False := by
    intro a b hab hb he
    have := h.2 b hb
    unfold labR at this
    simp only [Bool.and_eq_true, decide_eq_true_eq, all_range] at this
    have := this.2 a hab
    rw [he, bltF_irr] at this
    cases this
  by_cases h1 : i < j
  · exact (H i j h1 hj e).elim
  · by_cases h2 : j < i
    · exact (H j i h2 hi e.symm).elim
    · omega
/-- the last label of a name -/
def lastF : List Lab → ByteArray → Option ByteArray
  | [], _ => none
  | x :: l, n => match lastF l n with
    | some v => some v
    | none => if x.name = n then some x.value else none
theorem lastF_none {l : List Lab} {n : ByteArray} : lastF l n = none ↔ ∀ x ∈ l, x.name ≠ n := by
  induction l with
  | nil => simp [lastF]
  | cons x l ih =>
    unfold lastF
    cases h : lastF l n with
    | some v =>
      simp only [reduceCtorEq, false_iff]
      intro hall
      have := ih.2 (fun y hy => hall y (List.mem_cons_of_mem _ hy))
      rw [h] at this
      cases this
    | none =>
      simp only
      by_cases e : x.name = n
      · rw [if_pos e]
        simp only [reduceCtorEq, false_iff]
        intro hall
        exact hall x (List.mem_cons_self) e
      · rw [if_neg e]
        simp only [true_iff]
        intro y hy
        rcases List.mem_cons.1 hy with rfl | hy
        · exact e
        · exact ih.1 h y hy
theorem getF_last : ∀ {l : List Lab} {n : ByteArray}, (∀ i j (hi : i < l.length) (hj : j < l.length), l[i].name = l[j].name → i = j) → getF l n = lastF l n
  | [], n, _ => rfl
  | x :: l, n, h => by
    have ih := getF_last (l := l) (n := n) (fun i j hi hj e => by
      have := h (i + 1) (j + 1) (by simp; omega) (by simp; omega) (by simpa using e)
      omega)
    unfold getF lastF
    by_cases e : x.name = n
    · rw [if_pos e]
      have hn : lastF l n = none := lastF_none.2 fun y hy hyn => by
        obtain ⟨j, hj, rfl⟩ := List.mem_iff_getElem.1 hy
        have := h 0 (j + 1) (by simp) (by simp; omega) (by simpa using e.trans hyn.symm)
        omega
      rw [hn]
      simp [e]
    · rw [if_neg e, ih]
      cases lastF l n with
      | some v => rfl
      | none => simp [e]
theorem right_last {l : List Lab} (h : rightF l = true) (n : ByteArray) : getF l n = lastF l n := by
  refine getF_last fun i j hi hj e => right_uniq h hi hj ?_
  unfold labAt
  rw [List.getD_eq_getElem?_getD, List.getD_eq_getElem?_getD, List.getElem?_eq_getElem hi, List.getElem?_eq_getElem hj]
  exact e
theorem lastF_snoc (l : List Lab) (x : Lab) (n : ByteArray) : lastF (l ++ [x]) n = if x.name = n then some x.value else lastF l n := by
  induction l with
  | nil => simp [lastF]
  | cons y l ih =>
    rw [List.cons_append]
    unfold lastF
    rw [ih]
    by_cases e : x.name = n
    · rw [if_pos e, if_pos e]
    · rw [if_neg e, if_neg e]
end Go.Proofs.Ytihocfdnkongkaa
