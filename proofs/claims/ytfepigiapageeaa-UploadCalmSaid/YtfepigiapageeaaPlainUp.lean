/- An upload and the store as plain functions: the call an upload makes, what the store does with it, what the upload takes of the reply. Conditions: none. -/
import Derived.Test.YtfepigiapageeaaStoR
import Derived.Test.YtfepigiapageeaaUpP
namespace Go.Proofs.Ytfepigiapageeaa
set_option linter.unusedVariables false
structure CallE where
  kind : Int
  key : ByteArray
  data : List Nat
  n : Int
  id : Int
structure RepE where
  err : Int
  data : List Nat
  ver : Int
  born : Int
  id : Int
def badR (e : Int) : RepE := ⟨e, [], 0, 0, 0⟩
/-- the call that an upload makes now -/
def Up.call (u : Up) (xs : List Nat) : CallE :=
  if u.sAt = 0 then ⟨7, u.key, [], 0, 0⟩
  else if u.sAt = 1 then ⟨8, ⟨#[]⟩, pieceF xs u.size.toNat u.n.toNat, u.n, u.id⟩
  else if u.sAt = 2 then ⟨9, ⟨#[]⟩, [], partsF xs.length u.size, u.id⟩
  else if u.sAt = 3 then ⟨3, u.key, [], 0, 0⟩
  else ⟨10, ⟨#[]⟩, [], 0, u.id⟩
/-- what it becomes by a reply -/
def Up.take (u : Up) (xs : List Nat) (r : RepE) (now : Int) : Up :=
  if u.sAt = 4 then ({ u with asked := false } : Up).end_ 2 0
  else if u.sAt = 2 ∧ r.err = 10 then ({ u with asked := false, sFrom := 2 } : Up).fail 3 now
  else if u.sAt = 2 ∧ r.err = 7 then ({ u with asked := false, sFrom := 4, id := 0 } : Up).fail 3 now
  else if u.sAt = 3 ∧ r.err = 7 then (if u.sFrom = 4 then ({ u with asked := false } : Up).giveUp else { u with asked := false, sAt := 2 })
  else if r.err = 10 ∨ r.err = 9 then ({ u with asked := false } : Up).fail u.sAt now
  else if r.err ≠ 0 then ({ u with asked := false } : Up).giveUp
  else if u.sAt = 3 then (if r.data = xs then ({ u with asked := false } : Up).end_ 1 r.born else ({ u with asked := false } : Up).giveUp)
  else if u.sAt = 0 then { u with asked := false, sAt := 1, n := 1, id := r.id }
  else if u.sAt = 1 then (if partsF xs.length u.size < u.n + 1 then { u with asked := false, n := u.n + 1, sAt := 2 } else { u with asked := false, n := u.n + 1 })
  else ({ u with asked := false } : Up).end_ 1 r.born
/-- what the store does with a call of an upload's -/
def Sto.doF (s : Sto) (c : CallE) : Sto × RepE :=
  if c.kind = 7 then (if keyOk c.key = true then ({ s with id := s.id + 1, ups := s.ups ++ [⟨s.id + 1, s.now, c.key, []⟩] }, ⟨0, [], 0, s.now, s.id + 1⟩) else (s, badR 1))
  else if c.kind = 3 then (if atF s c.key = -1 then (s, badR 7) else match s.objs with
    | [] => (s, badR 7)
    | o :: _ => (s, ⟨0, o.data, o.ver, o.born, 0⟩))
  else if openF s c.id = -1 then (s, badR 7)
  else match s.ups[(openF s c.id).toNat]? with
    | none => (s, badR 7)
    | some u =>
      if c.kind = 8 then ({ s with ups := s.ups.set (openF s c.id).toNat { u with parts := newParts c.n u.parts c.data } }, badR 0)
      else if c.kind = 9 then ({ s with ups := s.ups.take (openF s c.id).toNat ++ s.ups.drop ((openF s c.id).toNat + 1), objs := [⟨u.key, flatP u.parts, s.ver + 1, s.now⟩], ver := s.ver + 1 }, ⟨0, [], s.ver + 1, s.now, 0⟩)
      else ({ s with ups := s.ups.take (openF s c.id).toNat ++ s.ups.drop ((openF s c.id).toNat + 1) }, badR 0)
/-- what a call must be for the store's contracts -/
structure Fit (s : Sto) (c : CallE) : Prop where
  ups : s.ups.length ≤ 400
  objs : s.objs = [] ∨ ∃ o, s.objs = [o] ∧ o.data.length ≤ 3000 ∧ (c.kind = 3 → o.key = c.key)
  id0 : 0 ≤ s.id
  id1 : s.id ≤ 1000
  ver0 : 0 ≤ s.ver
  ver1 : s.ver ≤ 1000
  small : ∀ u ∈ s.ups, u.parts.length ≤ 32 ∧ sizeP u.parts ≤ 3000
  okc : okB c.data
  part : c.kind = 8 → s.objs = [] ∧ 1 ≤ c.n ∧ c.n ≤ 32 ∧ c.data.length ≤ 3000
  comp : c.kind = 9 → s.objs = [] ∧ ∀ k (hk : k < s.ups.length), openF s c.id = (k : Int) → (∀ i (hi : i < s.ups[k].parts.length), s.ups[k].parts[i].n = (i : Int) + 1) ∧ c.n = (s.ups[k].parts.length : Int) ∧ 1 ≤ s.ups[k].parts.length
/-- one round of run: an upload, the store, how many calls there were -/
structure RunE where
  u : Up
  s : Sto
  n : Nat
def fateOf (fates : List Int) (n : Nat) : Int := fates.getD n 0
def stepF (xs : List Nat) (fates : List Int) (t : RunE) : RunE :=
  if t.u.sAt = 5 then t
  else if t.s.now < t.u.due then { t with s := { t.s with now := t.s.now + 1 } }
  else
    let v : Up := { t.u with asked := true }
    let f := fateOf fates t.n
    if f = 1 then ⟨v.take xs (badR 10) t.s.now, t.s, t.n + 1⟩
    else if f = 2 then ⟨v.take xs (badR 10) t.s.now, (t.s.doF (t.u.call xs)).1, t.n + 1⟩
    else if f = 3 then ⟨v.take xs (badR 9) t.s.now, t.s, t.n + 1⟩
    else
      let s0 : Sto := if f = 4 then { t.s with ups := [] } else t.s
      let d := s0.doF (t.u.call xs)
      ⟨v.take xs d.2 t.s.now, d.1, t.n + 1⟩

theorem findK_spec {α : Type} {p : α → Bool} {l : List α} : ∀ {m k : Nat}, m = l.length - k → k ≤ l.length → findK p l k = -1 ∧ (∀ j (h : j < l.length), k ≤ j → p l[j] = false) ∨ ∃ i, ∃ hi : i < l.length, findK p l k = (i : Int) ∧ p l[i] = true ∧ k ≤ i ∧ ∀ j (h : j < l.length), k ≤ j → j < i → p l[j] = false := by
  intro m
  induction m with
  | zero =>
    intro k h1 h2
    obtain rfl : k = l.length := by omega
    exact .inl ⟨findK_end, fun j h1 h2 => by omega⟩
  | succ m ih =>
    intro k h1 h2
    have hk : k < l.length := by omega
    cases hp : p l[k] with
    | true => exact .inr ⟨k, hk, findK_hit hk hp, hp, Nat.le_refl _, fun j _ h3 h4 => by omega⟩
    | false =>
      rw [findK_miss hk hp]
      rcases ih (k := k + 1) (by omega) (by omega) with ⟨h3, h4⟩ | ⟨i, hi, h3, h4, h5, h6⟩
      · refine .inl ⟨h3, fun j hj hkj => ?_⟩
        by_cases e : j = k
        · subst e; exact hp
        · exact h4 j hj (by omega)
      · refine .inr ⟨i, hi, h3, h4, by omega, fun j hj hkj hji => ?_⟩
        by_cases e : j = k
        · subst e; exact hp
        · exact h6 j hj (by omega) hji
theorem openF_spec (s : Sto) (id : Int) : openF s id = -1 ∧ (∀ u ∈ s.ups, u.id ≠ id) ∨ ∃ k, ∃ hk : k < s.ups.length, openF s id = (k : Int) ∧ s.ups[k].id = id ∧ ∀ j (h : j < s.ups.length), j < k → s.ups[j].id ≠ id := by
  rcases findK_spec (p := fun u : UpE => decide (u.id = id)) (l := s.ups) (m := s.ups.length) (k := 0) (by omega) (by omega) with ⟨h1, h2⟩ | ⟨i, hi, h1, h2, h3, h4⟩
  · refine .inl ⟨h1, fun u hu e => ?_⟩
    obtain ⟨j, hj, rfl⟩ := List.mem_iff_getElem.1 hu
    have := h2 j hj (Nat.zero_le _)
    simp [e] at this
  · refine .inr ⟨i, hi, h1, by simpa using h2, fun j hj hji e => ?_⟩
    have := h4 j hj (Nat.zero_le _) hji
    simp [e] at this
theorem atF_one {s : Sto} {o : ObjE} (h : s.objs = [o]) (key : ByteArray) : atF s key = if o.key = key then 0 else -1 := by
  unfold atF
  rw [h]
  by_cases e : o.key = key
  · rw [if_pos e]
    exact findK_hit (k := 0) (by simp) (by simp [e])
  · rw [if_neg e, findK_miss (k := 0) (by simp) (by simp [e])]
    exact findK_end
end Go.Proofs.Ytfepigiapageeaa
