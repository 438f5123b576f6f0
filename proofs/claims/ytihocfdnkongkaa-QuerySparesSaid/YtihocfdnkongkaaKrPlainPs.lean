/- A set's text parsed: as the program does it, and as the reference does it; both say the same. Conditions: none. -/
import Derived.Test.YtihocfdnkongkaaKrPlainLb
namespace Go.Proofs.Ytihocfdnkongkaa
set_option linter.unusedVariables false
namespace Ps
def plF (c : Nat) : Bool := decide (32 ≤ c ∧ c ≤ 126 ∧ c ≠ 34 ∧ c ≠ 92)
def dgF (c : Nat) : Option Nat := if 48 ≤ c ∧ c ≤ 57 then some (c - 48) else if 97 ≤ c ∧ c ≤ 102 then some (c - 87) else none
/-- a byte of a value, and how long it is written -/
def oneF : List UInt8 → Option (UInt8 × Nat)
  | [] => none
  | c :: r => if c.toNat = 92 then (match r with
      | a :: b :: _ => match dgF a.toNat, dgF b.toNat with
        | some x, some y => if plF (16 * x + y) = true then none else some (UInt8.ofNat (16 * x + y), 3)
        | _, _ => none
      | _ => none) else if plF c.toNat = true then some (c, 1) else none
/-- a value up to its quote, and what stands behind that -/
def valN : Nat → List UInt8 → Option (List UInt8 × List UInt8)
  | 0, _ => none
  | _ + 1, [] => none
  | f + 1, c :: r => if c.toNat = 34 then some ([], r) else match oneF (c :: r) with
    | none => none
    | some (b, n) => (valN f ((c :: r).drop n)).map fun p => (b :: p.1, p.2)
def valL (x : List UInt8) : Option (List UInt8 × List UInt8) := valN (x.length + 1) x
theorem oneF_len {x : List UInt8} {b : UInt8} {n : Nat} (h : oneF x = some (b, n)) : 1 ≤ n ∧ n ≤ x.length := by
  unfold oneF at h
  split at h
  · cases h
  · split at h
    · split at h
      · split at h
        · split at h
          · cases h
          · injection h with h
            injection h with _ h
            subst h
            simp
        · cases h
      · cases h
    · split at h
      · injection h with h
        injection h with _ h
        subst h
        simp
      · cases h
theorem valN_fuel : ∀ (f g : Nat) (x : List UInt8), x.length < f → x.length < g → valN f x = valN g x
  | 0, _, x, h, _ => by omega
  | _, 0, x, _, h => by omega
  | f + 1, g + 1, [], _, _ => rfl
  | f + 1, g + 1, c :: r, h1, h2 => by
    unfold valN
    split
    · rfl
    · cases ho : oneF (c :: r) with
      | none => rfl
      | some p =>
        obtain ⟨b, n⟩ := p
        obtain ⟨l1, l2⟩ := oneF_len ho
        simp only
        rw [valN_fuel f g ((c :: r).drop n) (by rw [List.length_drop]; omega) (by rw [List.length_drop]; omega)]
theorem valL_nil : valL [] = none := rfl
theorem valL_end {c : UInt8} (r : List UInt8) (h : c.toNat = 34) : valL (c :: r) = some ([], r) := by
  unfold valL valN
  rw [if_pos h]
theorem valL_bad {c : UInt8} {r : List UInt8} (h : c.toNat ≠ 34) (ho : oneF (c :: r) = none) : valL (c :: r) = none := by
  unfold valL valN
  rw [if_neg h, ho]
theorem valL_one {c : UInt8} {r : List UInt8} {b : UInt8} {n : Nat} (h : c.toNat ≠ 34) (ho : oneF (c :: r) = some (b, n)) : valL (c :: r) = (valL ((c :: r).drop n)).map fun p => (b :: p.1, p.2) := by
  obtain ⟨l1, l2⟩ := oneF_len ho
  have e : valN (c :: r).length ((c :: r).drop n) = valL ((c :: r).drop n) := valN_fuel _ _ _ (by rw [List.length_drop]; simp only [List.length_cons] at *; omega) (by omega)
  rw [← e]
  conv => lhs; unfold valL valN
  rw [if_neg h, ho]
/-- the text's end counts for nothing -/
theorem one_tail {c : UInt8} {r : List UInt8} : oneF (c :: (r ++ [125])) = oneF (c :: r) := by
  unfold oneF
  simp only
  split
  · cases r with
    | nil => rfl
    | cons a r => cases r with
      | nil =>
        simp only [List.nil_append, List.cons_append]
        have e : dgF (125 : UInt8).toNat = none := by decide
        rw [e]
        cases dgF a.toNat <;> rfl
      | cons b r => rfl
  · rfl
theorem val_tail : ∀ (k : Nat) (x : List UInt8), x.length ≤ k → valL (x ++ [125]) = (valL x).map fun p => (p.1, p.2 ++ [125])
  | k, [], _ => by decide
  | 0, c :: r, h => by simp at h
  | k + 1, c :: r, h => by
    by_cases hc : c.toNat = 34
    · rw [List.cons_append, valL_end _ hc, valL_end _ hc]
      rfl
    · cases ho : oneF (c :: r) with
      | none => rw [List.cons_append, valL_bad hc (by rw [one_tail]; exact ho), valL_bad hc ho]; rfl
      | some p =>
        obtain ⟨b, n⟩ := p
        obtain ⟨l1, l2⟩ := oneF_len ho
        have ho2 : oneF (c :: (r ++ [125])) = some (b, n) := by rw [one_tail]; exact ho
        rw [List.cons_append, valL_one hc ho2, valL_one hc ho, ← List.cons_append, List.drop_append_of_le_length l2, val_tail k ((c :: r).drop n) (by rw [List.length_drop]; simp only [List.length_cons] at *; omega), Option.map_map, Option.map_map]
        rfl
theorem val_len : ∀ (k : Nat) (x v r : List UInt8), x.length ≤ k → valL x = some (v, r) → r.length < x.length
  | k, [], v, r, _, h => by rw [valL_nil] at h; cases h
  | 0, c :: y, v, r, h, _ => by simp at h
  | k + 1, c :: y, v, r, hk, h => by
    by_cases hc : c.toNat = 34
    · rw [valL_end _ hc] at h
      injection h with h
      injection h with _ h
      subst h
      simp
    · cases ho : oneF (c :: y) with
      | none => rw [valL_bad hc ho] at h; cases h
      | some p =>
        obtain ⟨b, n⟩ := p
        obtain ⟨l1, l2⟩ := oneF_len ho
        rw [valL_one hc ho] at h
        cases hv : valL ((c :: y).drop n) with
        | none => rw [hv] at h; cases h
        | some q =>
          rw [hv] at h
          obtain ⟨v', r'⟩ := q
          injection h with h
          injection h with _ h
          simp only at h
          subst h
          have := val_len k _ _ _ (by rw [List.length_drop]; simp only [List.length_cons] at *; omega) hv
          rw [List.length_drop] at this
          omega
/-- '="' ahead -/
def eqAt : List UInt8 → Option (List UInt8)
  | a :: b :: y => if a.toNat = 61 ∧ b.toNat = 34 then some y else none
  | _ => none
/-- where the first '="' stands -/
def idxL : List UInt8 → Option Nat
  | [] => none
  | a :: r => if (eqAt (a :: r)).isSome then some 0 else (idxL r).map (· + 1)
def isL (c : UInt8) : Bool := letF c.toNat 1
def mkB (l : List UInt8) : ByteArray := ⟨l.toArray⟩
def comma : List UInt8 → Option (List UInt8)
  | [] => none
  | c :: r => if c.toNat = 44 then some r else none
/-- as the program does it -/
def prgN : Nat → List UInt8 → List Lab → Option (List Lab)
  | 0, _, _ => none
  | f + 1, x, out => if x = [] then (if rightF out = true then some out else none) else
    match (if out = [] then some x else comma x) with
    | none => none
    | some y => match idxL y with
      | none => none
      | some n => if 4 < out.length then none else match valL (y.drop (n + 2)) with
        | none => none
        | some (v, r) => prgN f r (out ++ [⟨mkB (y.take n), mkB v⟩])
def finL (x : List UInt8) (out : List Lab) : Option (List Lab) := if x = [125] ∧ rightF out = true then some out else none
/-- as the reference does it -/
def refN : Nat → List UInt8 → List Lab → Option (List Lab)
  | 0, _, _ => none
  | f + 1, x, out => if 5 ≤ out.length then finL x out else
    match eqAt (x.drop (x.takeWhile isL).length) with
    | none => none
    | some y => match valL y with
      | none => none
      | some (v, r) => match r with
        | [] => none
        | c :: r' => if c.toNat = 44 then refN f r' (out ++ [⟨mkB (x.takeWhile isL), mkB v⟩]) else finL r (out ++ [⟨mkB (x.takeWhile isL), mkB v⟩])
theorem eqAt_cons (a b : UInt8) (y : List UInt8) : eqAt (a :: b :: y) = if a.toNat = 61 ∧ b.toNat = 34 then some y else none := rfl
theorem eqAt_form {x y : List UInt8} (h : eqAt x = some y) : ∃ a b, x = a :: b :: y ∧ a.toNat = 61 ∧ b.toNat = 34 := by
  unfold eqAt at h
  split at h
  · next a b z =>
    split at h
    · next hh =>
      injection h with h
      subst h
      exact ⟨a, b, rfl, hh.1, hh.2⟩
    · cases h
  · cases h
theorem idx_at : ∀ {x : List UInt8} {n : Nat}, idxL x = some n → ∃ y, eqAt (x.drop n) = some y ∧ y = x.drop (n + 2) ∧ n + 2 ≤ x.length
  | [], n, h => by cases h
  | a :: r, n, h => by
    unfold idxL at h
    split at h
    · next hs =>
      injection h with h
      subst h
      obtain ⟨y, hy⟩ := Option.isSome_iff_exists.1 hs
      obtain ⟨a', b', e, _, _⟩ := eqAt_form hy
      refine ⟨y, hy, ?_, ?_⟩
      · rw [e]; rfl
      · rw [e]; simp
    · obtain ⟨m, hm, e⟩ := Option.map_eq_some_iff.1 h
      subst e
      obtain ⟨y, h1, h2, h3⟩ := idx_at hm
      exact ⟨y, h1, h2, by simp only [List.length_cons]; omega⟩
theorem idx_first : ∀ {x : List UInt8} {n j : Nat}, idxL x = some n → (eqAt (x.drop j)).isSome = true → n ≤ j
  | [], n, j, h, _ => by cases h
  | a :: r, n, 0, h, h2 => by
    unfold idxL at h
    rw [List.drop_zero] at h2
    rw [if_pos h2] at h
    injection h with h
    omega
  | a :: r, n, j + 1, h, h2 => by
    unfold idxL at h
    split at h
    · injection h with h
      omega
    · obtain ⟨m, hm, e⟩ := Option.map_eq_some_iff.1 h
      subst e
      have := idx_first hm (j := j) (by simpa using h2)
      omega
theorem idx_none : ∀ {x : List UInt8} (j : Nat), idxL x = none → eqAt (x.drop j) = none
  | [], j, _ => by rw [List.drop_nil]; rfl
  | a :: r, 0, h => by
    unfold idxL at h
    split at h
    · cases h
    · next hs =>
      rw [List.drop_zero]
      simpa using hs
  | a :: r, j + 1, h => by
    unfold idxL at h
    split at h
    · cases h
    · exact idx_none (x := r) j (by simpa using h)
/-- '="' is not made by the text's end -/
theorem eq_tail {x : List UInt8} : eqAt (x ++ [125]) = (eqAt x).map (· ++ [125]) := by
  match x with
  | [] => rfl
  | [a] =>
    show eqAt [a, 125] = none
    rw [eqAt_cons, if_neg (by intro h; exact absurd h.2 (by decide))]
  | a :: b :: y =>
    show eqAt (a :: b :: (y ++ [125])) = _
    rw [eqAt_cons, eqAt_cons]
    split <;> rfl
theorem while_tail (x : List UInt8) : (x ++ [125]).takeWhile isL = x.takeWhile isL := by
  induction x with
  | nil => decide
  | cons a r ih =>
    rw [List.cons_append, List.takeWhile_cons, List.takeWhile_cons, ih]
theorem letF_le {c i : Nat} (h : letF c i = true) : letF c 1 = true := by
  unfold letF at *
  simp only [Bool.or_eq_true, Bool.and_eq_true, decide_eq_true_eq] at *
  rcases h with h | h
  · exact .inl h
  · exact .inr ⟨by decide, h.2⟩
theorem bad_name {l : List UInt8} {c : UInt8} (hc : c ∈ l) (h : isL c = false) : nameF (mkB l) = false := by
  cases hn : nameF (mkB l) with
  | false => rfl
  | true =>
    exfalso
    unfold nameF at hn
    rw [Bool.and_eq_true, List.all_eq_true] at hn
    obtain ⟨i, hi⟩ := List.mem_iff_getElem?.1 hc
    have hil : i < l.length := (List.getElem?_eq_some_iff.1 hi).1
    have h2 := hn.2 i (List.mem_range.2 (by show i < l.toArray.size; simpa using hil))
    have e : byteF (mkB l) i = c.toNat := by
      unfold byteF mkB
      simp [hi]
    rw [e] at h2
    have h3 := letF_le h2
    unfold isL at h
    rw [h] at h3
    cases h3
theorem bad_right {out : List Lab} {x : Lab} (hx : x ∈ out) (h : nameF x.name = false) : rightF out = false := by
  obtain ⟨i, hi, rfl⟩ := List.mem_iff_getElem.1 hx
  unfold rightF
  rw [Bool.and_eq_false_iff]
  right
  rw [List.all_eq_false]
  refine ⟨i, List.mem_range.2 hi, ?_⟩
  unfold labF labAt
  rw [List.getD_eq_getElem?_getD, List.getElem?_eq_getElem hi, Option.getD_some, h]
  simp
theorem long_right {out : List Lab} (h : 4 < out.length) : rightF out = false := by
  unfold rightF
  rw [decide_eq_false (by omega)]
  rfl
theorem prg_bad : ∀ (f : Nat) (x : List UInt8) (out : List Lab), (∃ z ∈ out, nameF z.name = false) → prgN f x out = none
  | 0, _, _, _ => rfl
  | f + 1, x, out, ⟨z, hz, hn⟩ => by
    unfold prgN
    split
    · rw [bad_right hz hn]
      rfl
    · split
      · rfl
      · split
        · rfl
        · split
          · rfl
          · split
            · rfl
            · exact prg_bad f _ _ ⟨z, List.mem_append_left _ hz, hn⟩
theorem take_while {l : List UInt8} {n : Nat} (h : ∀ c ∈ l.take n, isL c = true) (h2 : ∀ c, l[n]? = some c → isL c = false) (hn : n ≤ l.length) : l.takeWhile isL = l.take n := by
  induction n generalizing l with
  | zero =>
    cases l with
    | nil => rfl
    | cons a l =>
      rw [List.takeWhile_cons, if_neg (by rw [h2 a rfl]; decide)]
      rfl
  | succ n ih =>
    cases l with
    | nil => simp at hn
    | cons a l =>
      rw [List.takeWhile_cons, if_pos (h a (by simp)), List.take_succ_cons]
      congr 1
      exact ih (fun c hc => h c (by rw [List.take_succ_cons]; exact List.mem_cons_of_mem _ hc)) (fun c hc => h2 c (by simpa using hc)) (by simpa using hn)
/-- what the program does with what stands behind a comma -/
def itemN (f : Nat) (y : List UInt8) (out : List Lab) : Option (List Lab) := match idxL y with
  | none => none
  | some n => if 4 < out.length then none else match valL (y.drop (n + 2)) with
    | none => none
    | some (v, r) => prgN f r (out ++ [⟨mkB (y.take n), mkB v⟩])
theorem prg_item (f : Nat) {x : List UInt8} (out : List Lab) (hx : x ≠ []) : prgN (f + 1) x out = match (if out = [] then some x else comma x) with
    | none => none
    | some y => itemN f y out := by
  conv => lhs; unfold prgN
  rw [if_neg hx]
  rfl
theorem both : ∀ (k : Nat) (f g : Nat) (y : List UInt8) (out : List Lab), y.length ≤ k → y.length < f → y.length + 1 < g → itemN f y out = refN g (y ++ [125]) out := by
  intro k
  induction k with
  | zero =>
    intro f g y out hk hf hg
    obtain ⟨g, rfl⟩ : ∃ g', g = g' + 1 := ⟨g - 1, by omega⟩
    have : y = [] := List.eq_nil_of_length_eq_zero (by omega)
    subst this
    show none = _
    unfold refN
    split
    · next h =>
      unfold finL
      rw [if_neg (by rw [long_right (by omega)]; simp)]
    · rfl
  | succ k ih =>
    intro f g y out hk hf hg
    obtain ⟨g, rfl⟩ : ∃ g', g = g' + 1 := ⟨g - 1, by omega⟩
    unfold itemN refN
    by_cases h5 : 5 ≤ out.length
    · rw [if_pos h5]
      unfold finL
      rw [if_neg (by rw [long_right (by omega)]; simp)]
      split
      · rfl
      · rw [if_pos (by omega)]
    · rw [if_neg h5, while_tail, List.drop_append_of_le_length ((List.takeWhile_prefix _).length_le), eq_tail]
      cases hi : idxL y with
      | none => rw [idx_none _ hi]; rfl
      | some n =>
        obtain ⟨z, e1, e2, e3⟩ := idx_at hi
        simp only
        rw [if_neg (by omega)]
        by_cases hall : ∀ c ∈ y.take n, isL c = true
        · have hw : y.takeWhile isL = y.take n := by
            refine take_while hall (fun c hc => ?_) (by omega)
            obtain ⟨a, b, e, ha, _⟩ := eqAt_form e1
            have h0 : (y.drop n)[0]? = some a := by rw [e]; rfl
            rw [List.getElem?_drop, Nat.add_zero, hc] at h0
            injection h0 with h0
            subst h0
            unfold isL
            rw [ha]
            decide
          rw [hw, List.length_take, Nat.min_eq_left (by omega), e1]
          simp only [Option.map_some]
          rw [← e2, val_tail _ _ (Nat.le_refl _)]
          cases hv : valL z with
          | none => rfl
          | some p =>
            obtain ⟨v, r⟩ := p
            have hl := val_len _ _ _ _ (Nat.le_refl _) hv
            have hzl : z.length + (n + 2) = y.length := by rw [e2, List.length_drop]; omega
            simp only [Option.map_some]
            obtain ⟨f, rfl⟩ : ∃ f', f = f' + 1 := ⟨f - 1, by omega⟩
            cases r with
            | nil =>
              show prgN (f + 1) [] _ = finL [125] _
              unfold prgN finL
              rw [if_pos rfl]
              simp
            | cons c r =>
              rw [prg_item f _ (by simp), if_neg (by simp)]
              simp only [List.cons_append]
              have ec : comma (c :: r) = if c.toNat = 44 then some r else none := rfl
              rw [ec]
              by_cases hc : c.toNat = 44
              · rw [if_pos hc, if_pos hc]
                simp only [List.length_cons] at hl
                exact ih f g r _ (by omega) (by omega) (by omega)
              · rw [if_neg hc, if_neg hc]
                unfold finL
                rw [if_neg (by intro h; have := congrArg List.length h.1; simp at this)]
        · obtain ⟨c, hc, hcl⟩ : ∃ c ∈ y.take n, isL c = false := by
            apply Classical.byContradiction
            intro hne
            exact hall fun c hc => by
              cases h : isL c with
              | true => rfl
              | false => exact absurd ⟨c, hc, h⟩ hne
          have hwn : (y.takeWhile isL).length < n := by
            rcases Nat.lt_or_ge (y.takeWhile isL).length n with h | h
            · exact h
            · exfalso
              have hp : y.take n = (y.takeWhile isL).take n := by
                conv => lhs; rw [← List.takeWhile_append_dropWhile (p := isL) (l := y)]
                rw [List.take_append_of_le_length h]
              rw [hp] at hc
              have := List.all_eq_true.1 (List.all_takeWhile (p := isL) (l := y)) c (List.mem_of_mem_take hc)
              rw [hcl] at this
              cases this
          have hno : eqAt (y.drop (y.takeWhile isL).length) = none := by
            cases he : eqAt (y.drop (y.takeWhile isL).length) with
            | none => rfl
            | some q => have := idx_first hi (j := (y.takeWhile isL).length) (by rw [he]; rfl); omega
          rw [hno]
          simp only [Option.map_none]
          split
          · rfl
          · next v r hv => exact prg_bad f r _ ⟨⟨mkB (y.take n), mkB v⟩, List.mem_append_right _ (List.mem_singleton.2 rfl), bad_name hc hcl⟩
/-- the set of a text -/
def parseF (s : List UInt8) : Option (List Lab) :=
  if 2 ≤ s.length ∧ s[0]? = some 123 ∧ s[s.length - 1]? = some 125 then prgN (s.length + 1) ((s.drop 1).take (s.length - 2)) [] else none
theorem parse_ref {s : List UInt8} (h : 2 ≤ s.length ∧ s[0]? = some 123 ∧ s[s.length - 1]? = some 125) (h2 : s ≠ [123, 125]) {g : Nat} (hg : s.length < g) : parseF s = refN g (s.drop 1) [] := by
  unfold parseF
  rw [if_pos h]
  obtain ⟨h0, h1, h3⟩ := h
  have e : s.drop 1 = (s.drop 1).take (s.length - 2) ++ [125] := by
    conv => lhs; rw [← List.take_append_drop (s.length - 2) (s.drop 1), List.drop_drop]
    congr 1
    rw [List.drop_eq_getElem_cons (by omega), List.drop_of_length_le (by omega)]
    congr 1
    have := List.getElem?_eq_some_iff.1 h3
    obtain ⟨_, h4⟩ := this
    rw [← h4]
    congr 1
    omega
  have hl : ((s.drop 1).take (s.length - 2)).length = s.length - 2 := by rw [List.length_take, List.length_drop]; omega
  have hne : (s.drop 1).take (s.length - 2) ≠ [] := by
    intro hn
    apply h2
    rw [hn] at hl e
    match s, h0, h1, e with
    | a :: b :: r, _, h1, e =>
      simp at h1 e
      rw [h1, e.1, e.2]
  rw [prg_item _ _ hne, if_pos rfl]
  simp only
  conv => rhs; rw [e]
  exact both _ _ _ _ _ (Nat.le_refl _) (by omega) (by omega)
theorem parse_empty : parseF [123, 125] = some [] := rfl
end Ps
end Go.Proofs.Ytihocfdnkongkaa
