/- The plain law of uploads: what holds behind every round of run. Conditions: none. -/
import Derived.Test.YtfepigiapageeaaPlainUp
namespace Go.Proofs.Ytfepigiapageeaa
set_option linter.unusedVariables false
/-- the first parts of bytes -/
def pcs (xs : List Nat) (z j : Nat) : List PartE := (List.range j).map fun (i : Nat) => ⟨(i : Int) + 1, pieceF xs z (i + 1)⟩
section
variable {xs : List Nat} {z : Nat}
theorem pcs_len (j : Nat) : (pcs xs z j).length = j := by simp [pcs]
theorem pcs_succ (j : Nat) : pcs xs z (j + 1) = pcs xs z j ++ [⟨(j : Int) + 1, pieceF xs z (j + 1)⟩] := by simp [pcs, List.range_succ]
theorem pcs_get (j i : Nat) (h : i < (pcs xs z j).length) : (pcs xs z j)[i].n = (i : Int) + 1 := by simp [pcs]
theorem pcs_filter (j : Nat) (N : Int) (h : (j : Int) < N) : (pcs xs z j).filter (fun p => decide (p.n ≠ N)) = pcs xs z j := by
  rw [List.filter_eq_self]
  intro p hp
  obtain ⟨i, hi, rfl⟩ := List.mem_iff_getElem.1 hp
  rw [pcs_get j i hi]
  rw [pcs_len] at hi
  simp
  omega
theorem newParts_a (j : Nat) : newParts ((j : Int) + 1) (pcs xs z j) (pieceF xs z (j + 1)) = pcs xs z (j + 1) := by
  unfold newParts
  rw [pcs_filter j _ (by omega), pcs_succ]
theorem newParts_b (j : Nat) : newParts ((j : Int) + 1) (pcs xs z (j + 1)) (pieceF xs z (j + 1)) = pcs xs z (j + 1) := by
  unfold newParts
  rw [pcs_succ, List.filter_append, pcs_filter j _ (by omega)]
  simp
theorem flat_pcs (j : Nat) : flatP (pcs xs z j) = xs.take (j * z) := by
  induction j with
  | zero => simp [pcs, flatP]
  | succ j ih =>
    have e : flatP (pcs xs z (j + 1)) = flatP (pcs xs z j) ++ pieceF xs z (j + 1) := by rw [pcs_succ]; simp [flatP]
    rw [e, ih, Nat.succ_mul, List.take_add]
    rfl
theorem size_pcs (j : Nat) : sizeP (pcs xs z j) ≤ xs.length := by
  rw [← flatP_len, flat_pcs, List.length_take]
  exact Nat.min_le_right _ _
end
/-- how many parts, as a number -/
theorem parts_spec {n z P : Nat} (hz : 1 ≤ z) (hP : (P : Int) = partsF n z) : 1 ≤ P ∧ n ≤ P * z ∧ ∀ j, j < P → j * z < n ∨ (n = 0 ∧ j = 0) := by
  have e : ((n : Int) + z - 1) / z = ((n + z - 1) / z : Nat) := by
    rw [Int.natCast_ediv]
    congr 1
    omega
  unfold partsF at hP
  rw [e] at hP
  have hP2 : P = max 1 ((n + z - 1) / z) := by omega
  have h1 := Nat.div_add_mod (n + z - 1) z
  have h2 := Nat.mod_lt (n + z - 1) hz
  generalize (n + z - 1) / z = q at *
  generalize (n + z - 1) % z = r at *
  have hm : z * q = q * z := Nat.mul_comm _ _
  refine ⟨by omega, ?_, fun j hj => ?_⟩
  · have : q * z ≤ P * z := Nat.mul_le_mul_right z (by omega)
    omega
  · by_cases hq : q ≤ 1
    · have hj0 : j = 0 := by omega
      subst hj0
      by_cases hn : n = 0
      · exact .inr ⟨hn, rfl⟩
      · left; omega
    · left
      have : (j + 1) * z ≤ q * z := Nat.mul_le_mul_right z (by omega)
      rw [Nat.succ_mul] at this
      omega
/-- the ticks by which an upload has failed f times -/
def bnd (W : Int) : Nat → Int
  | 0 => 0
  | f + 1 => bnd W f + W * 2 ^ f
theorem bnd_le {W : Int} (h : 0 ≤ W) (f : Nat) : bnd W f ≤ bnd W (f + 1) := by
  have := Int.mul_nonneg h (Int.le_of_lt (Int.pow_pos (n := 2) (m := f) (by decide)))
  simp only [bnd]
  omega
theorem bnd0 {W : Int} (h : 0 ≤ W) : ∀ f, 0 ≤ bnd W f
  | 0 => Int.le_refl _
  | f + 1 => Int.le_trans (bnd0 h f) (bnd_le h f)
theorem bnd_8 {W : Int} (h0 : 0 ≤ W) (h : W ≤ 3) {f : Nat} (hf : f ≤ 8) : bnd W f ≤ 765 := by
  match f, hf with
  | 0, _ | 1, _ | 2, _ | 3, _ | 4, _ | 5, _ | 6, _ | 7, _ | 8, _ => simp only [bnd]; omega
def progF (P : Nat) (u : Up) : Int := if u.sAt = 0 then 0 else if u.sAt = 1 then u.n else if u.sAt = 2 then (P : Int) + 1 else if u.sAt = 3 then 0 else if u.sAt = 4 then 35 else 36
/-- what holds of the store -/
structure SB (key : ByteArray) (xs : List Nat) (z P : Nat) (s : Sto) : Prop where
  ids : ∀ p ∈ s.ups, 1 ≤ p.id ∧ p.id ≤ s.id
  nod : s.ups.Pairwise fun a b => a.id < b.id
  parts : ∀ p ∈ s.ups, (∃ j, j ≤ P ∧ p.parts = pcs xs z j) ∧ p.key = key
  obj : (s.objs = [] ∧ s.ver = 0) ∨ ∃ o, s.objs = [o] ∧ o.key = key ∧ o.data = xs ∧ s.ver = 1
  id0 : 0 ≤ s.id
def Cur1 (xs : List Nat) (z P : Nat) (u : Up) (s : Sto) : Prop := 1 ≤ u.n ∧ u.n ≤ P ∧ ∀ p ∈ s.ups, p.id = u.id → p.parts = pcs xs z (u.n.toNat - 1) ∨ p.parts = pcs xs z u.n.toNat
def Cur2 (xs : List Nat) (z P : Nat) (id : Int) (s : Sto) : Prop := ∀ p ∈ s.ups, p.id = id → p.parts = pcs xs z P
/-- what holds at the head of every round; f calls have failed -/
structure Inv (key : ByteArray) (xs : List Nat) (z P : Nat) (T W : Int) (i0 f : Nat) (t : RunE) : Prop where
  ukey : t.u.key = key
  usize : t.u.size = (z : Int)
  utries : t.u.tries = T
  uwait : t.u.wait = W
  uasked : t.u.asked = false
  ufails : t.u.fails = (f : Int)
  fT : (f : Int) ≤ T
  fT2 : t.u.sAt ≠ 4 → t.u.sAt ≠ 5 → (f : Int) < T
  at_ : t.u.sAt = 0 ∨ t.u.sAt = 1 ∨ t.u.sAt = 2 ∨ t.u.sAt = 3 ∨ t.u.sAt = 4 ∨ t.u.sAt = 5
  ends5 : t.u.sAt = 5 → (t.u.ends = 1 ∧ ∃ o, t.s.objs = [o] ∧ o.key = key ∧ o.data = xs ∧ o.born = t.u.born) ∨ (t.u.ends = 2 ∧ t.u.born = 0)
  ends0 : t.u.sAt ≠ 5 → t.u.ends = 0
  now0 : 0 ≤ t.s.now
  nowB : t.s.now ≤ bnd W f
  dueB : t.u.due ≤ bnd W f
  nB : (t.n : Int) ≤ 37 * min (f : Int) (T - 1) + progF P t.u
  sb : SB key xs z P t.s
  len : t.s.ups.length ≤ f + 1 ∧ t.s.id ≤ (f : Int) + i0 + 1
  len0 : t.u.sAt = 0 → t.s.ups.length ≤ f ∧ t.s.id ≤ (f : Int) + i0
  o012 : t.u.sAt = 0 ∨ t.u.sAt = 1 ∨ t.u.sAt = 2 → t.s.objs = []
  c1 : t.u.sAt = 1 → Cur1 xs z P t.u t.s
  c2 : t.u.sAt = 2 ∨ (t.u.sAt = 3 ∧ t.s.objs = []) → Cur2 xs z P t.u.id t.s

section
variable {key : ByteArray} {xs : List Nat} {z P : Nat} {T W : Int} {i0 f : Nat} {t : RunE}
/-- a failure -/
theorem inv_fail (h : Inv key xs z P T W i0 f t) (hW : 0 ≤ W) (h4 : t.u.sAt ≠ 4) (h5 : t.u.sAt ≠ 5) (sf id a : Int) (s' : Sto) (sb : SB key xs z P s') (hn : s'.now = t.s.now) (hl : s'.ups.length ≤ f + 1 ∧ s'.id ≤ (f : Int) + i0 + 1) (ha : a = 0 ∨ a = 1 ∨ a = 2 ∨ a = 3) (hP : P ≤ 32)
    (ho : a = 0 ∨ a = 1 ∨ a = 2 → s'.objs = []) (hc1 : a = 1 → Cur1 xs z P { t.u with id := id } s') (hc2 : a = 2 ∨ (a = 3 ∧ s'.objs = []) → Cur2 xs z P id s') :
    Inv key xs z P T W i0 (f + 1) ⟨({ t.u with asked := false, sFrom := sf, id := id } : Up).fail a t.s.now, s', t.n + 1⟩ := by
  have hfT := h.fT2 h4 h5
  have hb := bnd_le hW f
  have hb0 := bnd0 hW (f + 1)
  have hnB := h.nB
  have hm : min (f : Int) (T - 1) = f := Int.min_eq_left (by omega)
  rw [hm] at hnB
  have hpr : progF P t.u ≤ 34 := by
    unfold progF
    have hat := h.at_
    split
    · omega
    · split
      · have := (h.c1 ‹_›).2.1; omega
      · split
        · omega
        · split
          · omega
          · omega
  have hnow := h.now0
  have hnowB := h.nowB
  have hends := h.ends0 h5
  by_cases hlast : T ≤ (f : Int) + 1
  · have hm2 : min ((f + 1 : Nat) : Int) (T - 1) = f := by rw [Int.min_eq_right (by push_cast; omega)]; omega
    by_cases hid : id = 0
    · have e : ({ t.u with asked := false, sFrom := sf, id := id } : Up).fail a t.s.now = { t.u with asked := false, sFrom := sf, id := id, fails := t.u.fails + 1, due := 0, sAt := 5, ends := 2, born := 0 } := by
        unfold Up.fail
        rw [if_pos (by simp only; rw [h.utries, h.ufails]; exact hlast)]
        unfold Up.giveUp
        rw [if_pos hid]
        rfl
      rw [e]
      exact ⟨h.ukey, h.usize, h.utries, h.uwait, rfl, by show t.u.fails + 1 = _; rw [h.ufails]; rfl, by push_cast; omega, fun _ h' => absurd rfl h', .inr (.inr (.inr (.inr (.inr rfl)))), fun _ => .inr ⟨rfl, rfl⟩, fun h' => absurd rfl h', by rw [hn]; exact hnow, by rw [hn]; omega, hb0,
        by show ((t.n + 1 : Nat) : Int) ≤ 37 * min ((f + 1 : Nat) : Int) (T - 1) + 36; rw [hm2]; push_cast; omega, sb, ⟨Nat.le_succ_of_le hl.1, by show s'.id ≤ ((f + 1 : Nat) : Int) + i0 + 1; have := hl.2; push_cast; omega⟩, fun h' => absurd h' (by simp), fun h' => absurd h' (by simp), fun h' => absurd h' (by simp), fun h' => absurd h' (by simp)⟩
    · have e : ({ t.u with asked := false, sFrom := sf, id := id } : Up).fail a t.s.now = { t.u with asked := false, sFrom := sf, id := id, fails := t.u.fails + 1, due := 0, sAt := 4 } := by
        unfold Up.fail
        rw [if_pos (by simp only; rw [h.utries, h.ufails]; exact hlast)]
        unfold Up.giveUp
        rw [if_neg hid]
      rw [e]
      exact ⟨h.ukey, h.usize, h.utries, h.uwait, rfl, by show t.u.fails + 1 = _; rw [h.ufails]; rfl, by push_cast; omega, fun h' _ => absurd rfl h', .inr (.inr (.inr (.inr (.inl rfl)))), fun h' => absurd h' (by simp), fun _ => hends, by rw [hn]; exact hnow, by rw [hn]; omega, hb0,
        by show ((t.n + 1 : Nat) : Int) ≤ 37 * min ((f + 1 : Nat) : Int) (T - 1) + 35; rw [hm2]; push_cast; omega, sb, ⟨Nat.le_succ_of_le hl.1, by show s'.id ≤ ((f + 1 : Nat) : Int) + i0 + 1; have := hl.2; push_cast; omega⟩, fun h' => absurd h' (by simp), fun h' => absurd h' (by simp), fun h' => absurd h' (by simp), fun h' => absurd h' (by simp)⟩
  · have e : ({ t.u with asked := false, sFrom := sf, id := id } : Up).fail a t.s.now = { t.u with asked := false, sFrom := sf, id := id, fails := t.u.fails + 1, sAt := a, due := t.s.now + W * 2 ^ f } := by
      unfold Up.fail
      rw [if_neg (by simp only; rw [h.utries, h.ufails]; exact hlast)]
      simp only
      rw [h.ufails, h.uwait, Int.toNat_natCast]
    rw [e]
    have hm2 : min ((f + 1 : Nat) : Int) (T - 1) = f + 1 := by rw [Int.min_eq_left (by push_cast; omega)]; push_cast; rfl
    have hpa : 0 ≤ progF P ({ t.u with asked := false, sFrom := sf, id := id, fails := t.u.fails + 1, sAt := a, due := t.s.now + W * 2 ^ f } : Up) := by
      unfold progF
      simp only
      split
      · omega
      · split
        · have := (hc1 ‹_›).1
          simp only at this
          omega
        · split
          · omega
          · split
            · omega
            · split <;> omega
    exact ⟨h.ukey, h.usize, h.utries, h.uwait, rfl, by show t.u.fails + 1 = _; rw [h.ufails]; rfl, by push_cast; omega, fun _ _ => by push_cast; omega, by rcases ha with h' | h' | h' | h' <;> simp [h'], fun h' => absurd h' (by show ¬ a = 5; omega), fun _ => hends, by rw [hn]; exact hnow, by rw [hn]; omega, by show t.s.now + W * 2 ^ f ≤ bnd W f + W * 2 ^ f; omega,
      by show ((t.n + 1 : Nat) : Int) ≤ 37 * min ((f + 1 : Nat) : Int) (T - 1) + progF P _; rw [hm2]; refine Int.le_trans ?_ (Int.add_le_add_left hpa _); push_cast; omega, sb, ⟨Nat.le_succ_of_le hl.1, by show s'.id ≤ ((f + 1 : Nat) : Int) + i0 + 1; have := hl.2; push_cast; omega⟩, fun _ => ⟨hl.1, by show s'.id ≤ ((f + 1 : Nat) : Int) + i0; have := hl.2; push_cast; omega⟩, fun h' => ho h', fun h' => hc1 h', fun h' => hc2 h'⟩

/-- it gives up -/
theorem inv_give (h : Inv key xs z P T W i0 f t) (hW : 0 ≤ W) (h4 : t.u.sAt ≠ 4) (h5 : t.u.sAt ≠ 5) (s' : Sto) (sb : SB key xs z P s') (hn : s'.now = t.s.now) (hl : s'.ups.length ≤ f + 1 ∧ s'.id ≤ (f : Int) + i0 + 1) (hP : P ≤ 32) :
    Inv key xs z P T W i0 f ⟨({ t.u with asked := false } : Up).giveUp, s', t.n + 1⟩ := by
  have hfT := h.fT2 h4 h5
  have hb0 := bnd0 hW f
  have hnB := h.nB
  have hm : min (f : Int) (T - 1) = f := Int.min_eq_left (by omega)
  rw [hm] at hnB
  have hpr : progF P t.u ≤ 34 := by
    unfold progF
    have hat := h.at_
    split
    · omega
    · split
      · have := (h.c1 ‹_›).2.1; omega
      · split
        · omega
        · split
          · omega
          · omega
  have hnow := h.now0
  have hnowB := h.nowB
  have hends := h.ends0 h5
  by_cases hid : t.u.id = 0
  · have e : ({ t.u with asked := false } : Up).giveUp = { t.u with asked := false, due := 0, sAt := 5, ends := 2, born := 0 } := by
      unfold Up.giveUp
      rw [if_pos hid]
      rfl
    rw [e]
    exact ⟨h.ukey, h.usize, h.utries, h.uwait, rfl, h.ufails, h.fT, fun _ h' => absurd rfl h', .inr (.inr (.inr (.inr (.inr rfl)))), fun _ => .inr ⟨rfl, rfl⟩, fun h' => absurd rfl h', by rw [hn]; exact hnow, by rw [hn]; omega, hb0,
      by show ((t.n + 1 : Nat) : Int) ≤ 37 * min (f : Int) (T - 1) + 36; rw [hm]; push_cast; omega, sb, hl, fun h' => absurd h' (by simp), fun h' => absurd h' (by simp), fun h' => absurd h' (by simp), fun h' => absurd h' (by simp)⟩
  · have e : ({ t.u with asked := false } : Up).giveUp = { t.u with asked := false, due := 0, sAt := 4 } := by
      unfold Up.giveUp
      rw [if_neg hid]
    rw [e]
    exact ⟨h.ukey, h.usize, h.utries, h.uwait, rfl, h.ufails, h.fT, fun h' _ => absurd rfl h', .inr (.inr (.inr (.inr (.inl rfl)))), fun h' => absurd h' (by simp), fun _ => hends, by rw [hn]; exact hnow, by rw [hn]; omega, hb0,
      by show ((t.n + 1 : Nat) : Int) ≤ 37 * min (f : Int) (T - 1) + 35; rw [hm]; push_cast; omega, sb, hl, fun h' => absurd h' (by simp), fun h' => absurd h' (by simp), fun h' => absurd h' (by simp), fun h' => absurd h' (by simp)⟩
end
end Go.Proofs.Ytfepigiapageeaa
