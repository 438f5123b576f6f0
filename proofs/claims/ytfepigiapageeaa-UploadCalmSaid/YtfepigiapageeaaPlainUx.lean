/- The plain law of uploads, one round: what holds at its head holds behind it. Conditions: none. -/
import Derived.Test.YtfepigiapageeaaPlainUw
namespace Go.Proofs.Ytfepigiapageeaa
set_option linter.unusedVariables false
section
variable {key : ByteArray} {xs : List Nat} {z P : Nat} {T W : Int} {i0 f : Nat} {t : RunE}
theorem prog_le (h : Inv key xs z P T W i0 f t) (hP : P ≤ 32) (h4 : t.u.sAt ≠ 4) (h5 : t.u.sAt ≠ 5) : progF P t.u ≤ 34 := by
  unfold progF
  have hat := h.at_
  split
  · omega
  · split
    · have := (h.c1 ‹_›).2.1; omega
    · split
      · omega
      · split
        · omega
        · omega
theorem inv_over (h : Inv key xs z P T W i0 f t) (hP : P ≤ 32) (h5 : t.u.sAt ≠ 5) (how born : Int) (s' : Sto) (sb : SB key xs z P s') (hn : s'.now = t.s.now) (hl : s'.ups.length ≤ f + 1 ∧ s'.id ≤ (f : Int) + i0 + 1)
    (hd : (how = 1 ∧ ∃ o, s'.objs = [o] ∧ o.key = key ∧ o.data = xs ∧ o.born = born) ∨ (how = 2 ∧ born = 0)) : Inv key xs z P T W i0 f ⟨({ t.u with asked := false } : Up).end_ how born, s', t.n + 1⟩ := by
  have hpr : progF P t.u ≤ 35 := by
    by_cases h4 : t.u.sAt = 4
    · simp [progF, h4]
    · have := prog_le h hP h4 h5; omega
  have hnB := h.nB
  exact ⟨h.ukey, h.usize, h.utries, h.uwait, rfl, h.ufails, h.fT, fun _ h' => absurd rfl h', .inr (.inr (.inr (.inr (.inr rfl)))), fun _ => hd, fun h' => absurd rfl h', by rw [hn]; exact h.now0, by rw [hn]; exact h.nowB, h.dueB,
    by show ((t.n + 1 : Nat) : Int) ≤ 37 * min (f : Int) (T - 1) + 36; generalize min (f : Int) (T - 1) = m at *; push_cast; omega, sb, hl, fun h' => absurd h' (by show ¬ (5 : Int) = 0; decide), fun h' => absurd h' (by show ¬ ((5 : Int) = 0 ∨ (5 : Int) = 1 ∨ (5 : Int) = 2); decide), fun h' => absurd h' (by show ¬ (5 : Int) = 1; decide), fun h' => by
      rcases h' with h' | h'
      · exact absurd h' (by show ¬ (5 : Int) = 2; decide)
      · exact absurd h'.1 (by show ¬ (5 : Int) = 3; decide)⟩
/-- what a store must be behind a call whose reply is e or is lost -/
structure After (key : ByteArray) (xs : List Nat) (z P i0 f : Nat) (t : RunE) (e : Int) (s' : Sto) : Prop where
  sb : SB key xs z P s'
  now : s'.now = t.s.now
  len : s'.ups.length ≤ f + 1 ∧ s'.id ≤ (f : Int) + i0 + 1
  o01 : t.u.sAt = 0 ∨ t.u.sAt = 1 → s'.objs = []
  c1 : t.u.sAt = 1 → Cur1 xs z P t.u s'
  c2 : t.u.sAt = 2 ∨ t.u.sAt = 3 → s'.objs = [] → Cur2 xs z P t.u.id s'
  o2 : e = 9 → t.u.sAt = 2 → s'.objs = []
theorem after_same (h : Inv key xs z P T W i0 f t) (e : Int) : After key xs z P i0 f t e t.s :=
  ⟨h.sb, rfl, h.len, fun h' => h.o012 (by omega), h.c1, fun h' ho => h.c2 (by rcases h' with h' | h'; exact .inl h'; exact .inr ⟨h', ho⟩), fun _ h' => h.o012 (by omega)⟩
theorem inv_lost (h : Inv key xs z P T W i0 f t) (hW : 0 ≤ W) (hP : P ≤ 32) (h5 : t.u.sAt ≠ 5) (e : Int) (he : e = 10 ∨ e = 9) (s' : Sto) (a : After key xs z P i0 f t e s') :
    ∃ f', Inv key xs z P T W i0 f' ⟨({ t.u with asked := true } : Up).take xs (badR e) t.s.now, s', t.n + 1⟩ := by
  rcases h.at_ with e0 | e0 | e0 | e0 | e0 | e0
  · have et : ({ t.u with asked := true } : Up).take xs (badR e) t.s.now = ({ t.u with asked := false, sFrom := t.u.sFrom, id := t.u.id } : Up).fail 0 t.s.now := by rcases he with rfl | rfl <;> simp [Up.take, e0, badR]
    rw [et]
    exact ⟨f + 1, inv_fail h hW (by omega) h5 _ _ 0 s' a.sb a.now a.len (by omega) hP (fun _ => a.o01 (.inl e0)) (fun h' => absurd h' (by decide)) (fun h' => by rcases h' with h' | ⟨h', _⟩ <;> exact absurd h' (by decide))⟩
  · have et : ({ t.u with asked := true } : Up).take xs (badR e) t.s.now = ({ t.u with asked := false, sFrom := t.u.sFrom, id := t.u.id } : Up).fail 1 t.s.now := by rcases he with rfl | rfl <;> simp [Up.take, e0, badR]
    rw [et]
    exact ⟨f + 1, inv_fail h hW (by omega) h5 _ _ 1 s' a.sb a.now a.len (by omega) hP (fun _ => a.o01 (.inr e0)) (fun _ => a.c1 e0) (fun h' => by rcases h' with h' | ⟨h', _⟩ <;> exact absurd h' (by decide))⟩
  · rcases he with rfl | rfl
    · have et : ({ t.u with asked := true } : Up).take xs (badR 10) t.s.now = ({ t.u with asked := false, sFrom := 2, id := t.u.id } : Up).fail 3 t.s.now := by simp [Up.take, e0, badR]
      rw [et]
      exact ⟨f + 1, inv_fail h hW (by omega) h5 _ _ 3 s' a.sb a.now a.len (by omega) hP (fun h' => absurd h' (by decide)) (fun h' => absurd h' (by decide)) (fun h' => by
        rcases h' with h' | ⟨_, h'⟩
        · exact absurd h' (by decide)
        · exact a.c2 (.inl e0) h')⟩
    · have et : ({ t.u with asked := true } : Up).take xs (badR 9) t.s.now = ({ t.u with asked := false, sFrom := t.u.sFrom, id := t.u.id } : Up).fail 2 t.s.now := by simp [Up.take, e0, badR]
      rw [et]
      exact ⟨f + 1, inv_fail h hW (by omega) h5 _ _ 2 s' a.sb a.now a.len (by omega) hP (fun _ => a.o2 rfl e0) (fun h' => absurd h' (by decide)) (fun _ => a.c2 (.inl e0) (a.o2 rfl e0))⟩
  · have et : ({ t.u with asked := true } : Up).take xs (badR e) t.s.now = ({ t.u with asked := false, sFrom := t.u.sFrom, id := t.u.id } : Up).fail 3 t.s.now := by rcases he with rfl | rfl <;> simp [Up.take, e0, badR]
    rw [et]
    exact ⟨f + 1, inv_fail h hW (by omega) h5 _ _ 3 s' a.sb a.now a.len (by omega) hP (fun h' => absurd h' (by decide)) (fun h' => absurd h' (by decide)) (fun h' => by
      rcases h' with h' | ⟨_, h'⟩
      · exact absurd h' (by decide)
      · exact a.c2 (.inr e0) h')⟩
  · have et : ({ t.u with asked := true } : Up).take xs (badR e) t.s.now = ({ t.u with asked := false } : Up).end_ 2 0 := by simp [Up.take, e0]
    rw [et]
    exact ⟨f, inv_over h hP h5 2 0 s' a.sb a.now a.len (.inr ⟨rfl, rfl⟩)⟩
  · exact absurd e0 h5

theorem sb_create {s : Sto} (h : SB key xs z P s) : SB key xs z P { s with id := s.id + 1, ups := s.ups ++ [⟨s.id + 1, s.now, key, []⟩] } := by
  have h0 := h.id0
  refine ⟨fun p hp => ?_, ?_, fun p hp => ?_, h.obj, by show 0 ≤ s.id + 1; omega⟩
  · simp only [List.mem_append, List.mem_singleton] at hp
    rcases hp with hp | rfl
    · have := h.ids p hp
      exact ⟨this.1, by show p.id ≤ s.id + 1; omega⟩
    · exact ⟨by show 1 ≤ s.id + 1; omega, Int.le_refl _⟩
  · show (s.ups ++ _).Pairwise _
    rw [List.pairwise_append]
    refine ⟨h.nod, List.pairwise_singleton _ _, fun a ha b hb => ?_⟩
    rw [List.mem_singleton] at hb
    subst hb
    have := (h.ids a ha).2
    show a.id < s.id + 1
    omega
  · simp only [List.mem_append, List.mem_singleton] at hp
    rcases hp with hp | rfl
    · exact h.parts p hp
    · exact ⟨⟨0, Nat.zero_le _, rfl⟩, rfl⟩
theorem sb_drop {s : Sto} (h : SB key xs z P s) (k : Nat) : SB key xs z P { s with ups := s.ups.take k ++ s.ups.drop (k + 1) } := by
  have hsub : (s.ups.take k ++ s.ups.drop (k + 1)).Sublist s.ups := by
    conv => rhs; rw [← List.take_append_drop k s.ups]
    exact List.Sublist.append (List.Sublist.refl _) (by rw [← List.drop_drop]; exact List.drop_sublist 1 _)
  exact ⟨fun p hp => h.ids p (hsub.subset hp), h.nod.sublist hsub, fun p hp => h.parts p (hsub.subset hp), h.obj, h.id0⟩
theorem drop_len {s : Sto} (k : Nat) : (s.ups.take k ++ s.ups.drop (k + 1)).length ≤ s.ups.length := by
  rw [List.length_append, List.length_take, List.length_drop]
  omega
theorem sb_clear {s : Sto} (h : SB key xs z P s) : SB key xs z P { s with ups := [] } :=
  ⟨fun p hp => by simp at hp, List.Pairwise.nil, fun p hp => by simp at hp, h.obj, h.id0⟩
theorem inv_clear (h : Inv key xs z P T W i0 f t) : Inv key xs z P T W i0 f ⟨t.u, { t.s with ups := [] }, t.n⟩ :=
  ⟨h.ukey, h.usize, h.utries, h.uwait, h.uasked, h.ufails, h.fT, h.fT2, h.at_, h.ends5, h.ends0, h.now0, h.nowB, h.dueB, h.nB, sb_clear h.sb, ⟨Nat.zero_le _, h.len.2⟩, fun h' => ⟨Nat.zero_le _, (h.len0 h').2⟩, h.o012, fun h' => ⟨(h.c1 h').1, (h.c1 h').2.1, fun p hp => by simp at hp⟩, fun _ p hp => by simp at hp⟩
/-- other uploads have other IDs -/
theorem nod_eq {us : List UpE} (h : us.Pairwise fun a b => a.id < b.id) {i j : Nat} (hi : i < us.length) (hj : j < us.length) (e : us[i].id = us[j].id) : i = j := by
  rw [List.pairwise_iff_getElem] at h
  by_cases h1 : i < j
  · have := h i j hi hj h1; omega
  · by_cases h2 : j < i
    · have := h j i hj hi h2; omega
    · omega
theorem new_parts {N : Int} {k : Nat} (hk : 1 ≤ k) (hN : N = (k : Int)) {ps : List PartE} (h : ps = pcs xs z (k - 1) ∨ ps = pcs xs z k) : newParts N ps (pieceF xs z k) = pcs xs z k := by
  obtain ⟨j, rfl⟩ : ∃ j, k = j + 1 := ⟨k - 1, by omega⟩
  have e : N = (j : Int) + 1 := by omega
  subst e
  rcases h with rfl | rfl
  · exact newParts_a j
  · exact newParts_b j
theorem sb_part {s : Sto} (h : SB key xs z P s) (k : Nat) (hk : k < s.ups.length) (N : Nat) (hN : N ≤ P) : SB key xs z P { s with ups := s.ups.set k { s.ups[k] with parts := pcs xs z N } } := by
  have hmem : ∀ p ∈ s.ups.set k { s.ups[k] with parts := pcs xs z N }, p ∈ s.ups ∨ p = { s.ups[k] with parts := pcs xs z N } := fun p hp => by
    rcases List.mem_or_eq_of_mem_set hp with h | h
    · exact .inl h
    · exact .inr h
  refine ⟨fun p hp => ?_, ?_, fun p hp => ?_, h.obj, h.id0⟩
  · rcases hmem p hp with h' | rfl
    · exact h.ids p h'
    · exact h.ids s.ups[k] (List.getElem_mem hk)
  · have hm : (s.ups.set k { s.ups[k] with parts := pcs xs z N }).map (fun u => u.id) = s.ups.map fun u => u.id := by
      apply List.ext_getElem
      · simp
      · intro i h1 h2
        simp only [List.getElem_map, List.getElem_set]
        split
        · next e => subst e; rfl
        · rfl
    have h1 := h.nod
    rw [← List.pairwise_map (f := fun u : UpE => u.id) (R := fun a b : Int => a < b)] at h1
    rw [← hm, List.pairwise_map] at h1
    exact h1
  · rcases hmem p hp with h' | rfl
    · exact h.parts p h'
    · exact ⟨⟨N, hN, rfl⟩, (h.parts s.ups[k] (List.getElem_mem hk)).2⟩
/-- the store behind the call, and what it has answered -/
theorem after_do (h : Inv key xs z P T W i0 f t) (hz : 1 ≤ z) (hPs : (P : Int) = partsF xs.length z) (h5 : t.u.sAt ≠ 5) : After key xs z P i0 f t 10 (t.s.doF (t.u.call xs)).1 := by
  have hl := h.len
  have hps := parts_spec hz hPs
  rcases h.at_ with e | e | e | e | e | e
  · have hc : t.u.call xs = ⟨7, key, [], 0, 0⟩ := by simp [Up.call, e, h.ukey]
    rw [hc]
    cases hok : keyOk key
    · rw [show t.s.doF ⟨7, key, [], 0, 0⟩ = (t.s, badR 1) by simp [Sto.doF, hok]]
      exact after_same h 10
    · rw [show t.s.doF ⟨7, key, [], 0, 0⟩ = ({ t.s with id := t.s.id + 1, ups := t.s.ups ++ [⟨t.s.id + 1, t.s.now, key, []⟩] }, ⟨0, [], 0, t.s.now, t.s.id + 1⟩) by simp [Sto.doF, hok]]
      have hl0 := h.len0 e
      exact ⟨sb_create h.sb, rfl, ⟨by simp; omega, by show t.s.id + 1 ≤ _; omega⟩, fun _ => h.o012 (.inl e), fun h' => by omega, fun h' => by omega, fun h' => by omega⟩
  · obtain ⟨c1, c2, c3⟩ := h.c1 e
    have hob := h.o012 (.inr (.inl e))
    have hc : t.u.call xs = ⟨8, ⟨#[]⟩, pieceF xs z t.u.n.toNat, t.u.n, t.u.id⟩ := by simp [Up.call, e, h.usize]
    rw [hc]
    rcases openF_spec t.s t.u.id with ⟨h1, h2⟩ | ⟨k, hk, h1, h2, h3⟩
    · rw [show t.s.doF ⟨8, ⟨#[]⟩, pieceF xs z t.u.n.toNat, t.u.n, t.u.id⟩ = (t.s, badR 7) by simp [Sto.doF, h1]]
      exact after_same h 10
    · have hne : ¬ (k : Int) = -1 := by omega
      have hget : t.s.ups[k]? = some t.s.ups[k] := List.getElem?_eq_getElem hk
      rw [show t.s.doF ⟨8, ⟨#[]⟩, pieceF xs z t.u.n.toNat, t.u.n, t.u.id⟩ = ({ t.s with ups := t.s.ups.set k { t.s.ups[k] with parts := newParts t.u.n t.s.ups[k].parts (pieceF xs z t.u.n.toNat) } }, badR 0) by simp [Sto.doF, h1, hget]]
      rw [new_parts (by omega) (by omega) (c3 _ (List.getElem_mem hk) h2)]
      refine ⟨sb_part h.sb k hk _ (by omega), rfl, ⟨by simp; omega, hl.2⟩, fun _ => hob, fun _ => ⟨c1, c2, fun p hp hid => ?_⟩, fun h' => by omega, fun h' => by omega⟩
      rcases List.mem_or_eq_of_mem_set hp with h' | rfl
      · exact c3 p h' hid
      · exact .inr rfl
  · have hob := h.o012 (.inr (.inr e))
    have hc2 := h.c2 (.inl e)
    have hc : t.u.call xs = ⟨9, ⟨#[]⟩, [], partsF xs.length z, t.u.id⟩ := by simp [Up.call, e, h.usize]
    rw [hc]
    rcases openF_spec t.s t.u.id with ⟨h1, h2⟩ | ⟨k, hk, h1, h2, h3⟩
    · rw [show t.s.doF ⟨9, ⟨#[]⟩, [], partsF xs.length z, t.u.id⟩ = (t.s, badR 7) by simp [Sto.doF, h1]]
      exact after_same h 10
    · have hget : t.s.ups[k]? = some t.s.ups[k] := List.getElem?_eq_getElem hk
      rw [show t.s.doF ⟨9, ⟨#[]⟩, [], partsF xs.length z, t.u.id⟩ = ({ t.s with ups := t.s.ups.take k ++ t.s.ups.drop (k + 1), objs := [⟨t.s.ups[k].key, flatP t.s.ups[k].parts, t.s.ver + 1, t.s.now⟩], ver := t.s.ver + 1 }, ⟨0, [], t.s.ver + 1, t.s.now, 0⟩) by simp [Sto.doF, h1, hget]]
      have hsd := sb_drop h.sb k
      have hv : t.s.ver = 0 := by
        rcases h.sb.obj with ⟨_, h'⟩ | ⟨o, h', _⟩
        · exact h'
        · rw [hob] at h'; simp at h'
      refine ⟨⟨hsd.ids, hsd.nod, hsd.parts, .inr ⟨_, rfl, (h.sb.parts _ (List.getElem_mem hk)).2, ?_, by show t.s.ver + 1 = 1; omega⟩, h.sb.id0⟩, rfl, ⟨Nat.le_trans (drop_len k) hl.1, hl.2⟩, fun h' => by omega, fun h' => by omega, fun _ h' => by simp at h', fun h' => by omega⟩
      show flatP t.s.ups[k].parts = xs
      rw [hc2 _ (List.getElem_mem hk) h2, flat_pcs]
      exact List.take_of_length_le hps.2.1
  · have hc : t.u.call xs = ⟨3, key, [], 0, 0⟩ := by simp [Up.call, e, h.ukey]
    rw [hc]
    have hs : (t.s.doF ⟨3, key, [], 0, 0⟩).1 = t.s := by
      unfold Sto.doF
      simp only
      rw [if_neg (by decide), if_pos trivial]
      split
      · rfl
      · split <;> rfl
    rw [hs]
    exact after_same h 10
  · have hc : t.u.call xs = ⟨10, ⟨#[]⟩, [], 0, t.u.id⟩ := by simp [Up.call, e]
    rw [hc]
    rcases openF_spec t.s t.u.id with ⟨h1, h2⟩ | ⟨k, hk, h1, h2, h3⟩
    · rw [show t.s.doF ⟨10, ⟨#[]⟩, [], 0, t.u.id⟩ = (t.s, badR 7) by simp [Sto.doF, h1]]
      exact after_same h 10
    · have hget : t.s.ups[k]? = some t.s.ups[k] := List.getElem?_eq_getElem hk
      rw [show t.s.doF ⟨10, ⟨#[]⟩, [], 0, t.u.id⟩ = ({ t.s with ups := t.s.ups.take k ++ t.s.ups.drop (k + 1) }, badR 0) by simp [Sto.doF, h1, hget]]
      exact ⟨sb_drop h.sb k, rfl, ⟨Nat.le_trans (drop_len k) hl.1, hl.2⟩, fun h' => by omega, fun h' => by omega, fun h' => by omega, fun h' => by omega⟩
  · exact absurd e h5
theorem inv_do (h : Inv key xs z P T W i0 f t) (hz : 1 ≤ z) (hW : 0 ≤ W) (hP : P ≤ 32) (hPs : (P : Int) = partsF xs.length z) (h5 : t.u.sAt ≠ 5) :
    ∃ f', Inv key xs z P T W i0 f' ⟨({ t.u with asked := true } : Up).take xs (t.s.doF (t.u.call xs)).2 t.s.now, (t.s.doF (t.u.call xs)).1, t.n + 1⟩ := by
  have ha := after_do h hz hPs h5
  have hl := h.len
  have hps := parts_spec hz hPs
  have hnB := h.nB
  have hends := h.ends0 h5
  rcases h.at_ with e | e | e | e | e | e
  · have hfT := h.fT2 (by omega) h5
    have hc : t.u.call xs = ⟨7, key, [], 0, 0⟩ := by simp [Up.call, e, h.ukey]
    rw [hc] at ha ⊢
    cases hok : keyOk key
    · rw [show t.s.doF ⟨7, key, [], 0, 0⟩ = (t.s, badR 1) by simp [Sto.doF, hok]]
      rw [show ({ t.u with asked := true } : Up).take xs (badR 1) t.s.now = ({ t.u with asked := false } : Up).giveUp by simp [Up.take, e, badR]]
      exact ⟨f, inv_give h hW (by omega) h5 t.s h.sb rfl hl hP⟩
    · rw [show t.s.doF ⟨7, key, [], 0, 0⟩ = ({ t.s with id := t.s.id + 1, ups := t.s.ups ++ [⟨t.s.id + 1, t.s.now, key, []⟩] }, ⟨0, [], 0, t.s.now, t.s.id + 1⟩) by simp [Sto.doF, hok]] at ha ⊢
      rw [show ({ t.u with asked := true } : Up).take xs ⟨0, [], 0, t.s.now, t.s.id + 1⟩ t.s.now = { t.u with asked := false, sAt := 1, n := 1, id := t.s.id + 1 } by simp [Up.take, e]]
      refine ⟨f, h.ukey, h.usize, h.utries, h.uwait, rfl, h.ufails, h.fT, fun _ _ => hfT, .inr (.inl rfl), fun h' => absurd h' (by show ¬ (1 : Int) = 5; decide), fun _ => hends, h.now0, h.nowB, h.dueB, ?_, ha.sb, ha.len, fun h' => absurd h' (by show ¬ (1 : Int) = 0; decide), fun _ => ha.o01 (.inl e), fun _ => ⟨by show (1 : Int) ≤ 1; decide, by show (1 : Int) ≤ P; omega, fun p hp hid => ?_⟩, fun h' => by
        rcases h' with h' | h'
        · exact absurd h' (by show ¬ (1 : Int) = 2; decide)
        · exact absurd h'.1 (by show ¬ (1 : Int) = 3; decide)⟩
      · have hp0 : progF P t.u = 0 := by simp [progF, e]
        rw [hp0] at hnB
        show ((t.n + 1 : Nat) : Int) ≤ 37 * min (f : Int) (T - 1) + 1
        push_cast
        generalize min (f : Int) (T - 1) = m at *
        omega
      · left
        simp only [List.mem_append, List.mem_singleton] at hp
        rcases hp with hp | rfl
        · have := (h.sb.ids p hp).2
          have : p.id = t.s.id + 1 := hid
          omega
        · rfl
  · have hfT := h.fT2 (by omega) h5
    obtain ⟨c1, c2, c3⟩ := h.c1 e
    have hob := h.o012 (.inr (.inl e))
    have hc : t.u.call xs = ⟨8, ⟨#[]⟩, pieceF xs z t.u.n.toNat, t.u.n, t.u.id⟩ := by simp [Up.call, e, h.usize]
    rw [hc] at ha ⊢
    rcases openF_spec t.s t.u.id with ⟨h1, h2⟩ | ⟨k, hk, h1, h2, h3⟩
    · rw [show t.s.doF ⟨8, ⟨#[]⟩, pieceF xs z t.u.n.toNat, t.u.n, t.u.id⟩ = (t.s, badR 7) by simp [Sto.doF, h1]]
      rw [show ({ t.u with asked := true } : Up).take xs (badR 7) t.s.now = ({ t.u with asked := false } : Up).giveUp by simp [Up.take, e, badR]]
      exact ⟨f, inv_give h hW (by omega) h5 t.s h.sb rfl hl hP⟩
    · have hget : t.s.ups[k]? = some t.s.ups[k] := List.getElem?_eq_getElem hk
      have hdo : t.s.doF ⟨8, ⟨#[]⟩, pieceF xs z t.u.n.toNat, t.u.n, t.u.id⟩ = ({ t.s with ups := t.s.ups.set k { t.s.ups[k] with parts := pcs xs z t.u.n.toNat } }, badR 0) := by
        rw [← new_parts (xs := xs) (z := z) (N := t.u.n) (k := t.u.n.toNat) (by omega) (by omega) (c3 _ (List.getElem_mem hk) h2)]
        simp [Sto.doF, h1, hget]
      rw [hdo] at ha ⊢
      have hall : ∀ p ∈ t.s.ups.set k { t.s.ups[k] with parts := pcs xs z t.u.n.toNat }, p.id = t.u.id → p.parts = pcs xs z t.u.n.toNat := fun p hp hid => by
        obtain ⟨i, hi, rfl⟩ := List.mem_iff_getElem.1 hp
        rw [List.getElem_set] at hid ⊢
        split
        · rfl
        · next hne =>
          rw [if_neg hne] at hid
          rw [List.length_set] at hi
          exact absurd (nod_eq h.sb.nod hk hi (by rw [h2, hid])) hne
      have hp1 : progF P t.u = t.u.n := by simp [progF, e]
      rw [hp1] at hnB
      by_cases hlast : partsF xs.length z < t.u.n + 1
      · rw [show ({ t.u with asked := true } : Up).take xs (badR 0) t.s.now = { t.u with asked := false, n := t.u.n + 1, sAt := 2 } by simp [Up.take, e, badR, h.usize, hlast]]
        have hnP : t.u.n.toNat = P := by omega
        rw [hnP] at hall
        refine ⟨f, h.ukey, h.usize, h.utries, h.uwait, rfl, h.ufails, h.fT, fun _ _ => hfT, .inr (.inr (.inl rfl)), fun h' => absurd h' (by show ¬ (2 : Int) = 5; decide), fun _ => hends, h.now0, h.nowB, h.dueB, ?_, ha.sb, ha.len, fun h' => absurd h' (by show ¬ (2 : Int) = 0; decide), fun _ => hob, fun h' => absurd h' (by show ¬ (2 : Int) = 1; decide), fun _ p hp hid => ?_⟩
        · show ((t.n + 1 : Nat) : Int) ≤ 37 * min (f : Int) (T - 1) + ((P : Int) + 1)
          push_cast
          generalize min (f : Int) (T - 1) = m at *
          omega
        · refine hall p ?_ hid
          rw [← hnP]
          exact hp
      · rw [show ({ t.u with asked := true } : Up).take xs (badR 0) t.s.now = { t.u with asked := false, n := t.u.n + 1 } by simp [Up.take, e, badR, h.usize, hlast]]
        refine ⟨f, h.ukey, h.usize, h.utries, h.uwait, rfl, h.ufails, h.fT, fun _ _ => hfT, .inr (.inl e), fun h' => absurd h' h5, fun _ => hends, h.now0, h.nowB, h.dueB, ?_, ha.sb, ha.len, fun h' => absurd (show t.u.sAt = 0 from h') (by omega), fun _ => hob, fun _ => ⟨by show 1 ≤ t.u.n + 1; omega, by show t.u.n + 1 ≤ P; omega, fun p hp hid => .inl ?_⟩, fun h' => by
          rcases h' with h' | h'
          · exact absurd (show t.u.sAt = 2 from h') (by omega)
          · exact absurd (show t.u.sAt = 3 from h'.1) (by omega)⟩
        · have hpn : progF P ({ t.u with asked := false, n := t.u.n + 1 } : Up) = t.u.n + 1 := by simp [progF, e]
          show ((t.n + 1 : Nat) : Int) ≤ 37 * min (f : Int) (T - 1) + progF P ({ t.u with asked := false, n := t.u.n + 1 } : Up)
          rw [hpn]
          push_cast
          generalize min (f : Int) (T - 1) = m at *
          omega
        · have hnn : (t.u.n + 1).toNat - 1 = t.u.n.toNat := by omega
          show p.parts = pcs xs z ((t.u.n + 1).toNat - 1)
          rw [hnn]
          exact hall p hp hid
  · have hob := h.o012 (.inr (.inr e))
    have hc : t.u.call xs = ⟨9, ⟨#[]⟩, [], partsF xs.length z, t.u.id⟩ := by simp [Up.call, e, h.usize]
    rw [hc] at ha ⊢
    rcases openF_spec t.s t.u.id with ⟨h1, h2⟩ | ⟨k, hk, h1, h2, h3⟩
    · rw [show t.s.doF ⟨9, ⟨#[]⟩, [], partsF xs.length z, t.u.id⟩ = (t.s, badR 7) by simp [Sto.doF, h1]]
      rw [show ({ t.u with asked := true } : Up).take xs (badR 7) t.s.now = ({ t.u with asked := false, sFrom := 4, id := 0 } : Up).fail 3 t.s.now by simp [Up.take, e, badR]]
      refine ⟨f + 1, inv_fail h hW (by omega) h5 4 0 3 t.s h.sb rfl hl (by omega) hP (fun h' => absurd h' (by decide)) (fun h' => absurd h' (by decide)) (fun _ p hp hid => ?_)⟩
      have := (h.sb.ids p hp).1
      omega
    · have hget : t.s.ups[k]? = some t.s.ups[k] := List.getElem?_eq_getElem hk
      rw [show t.s.doF ⟨9, ⟨#[]⟩, [], partsF xs.length z, t.u.id⟩ = ({ t.s with ups := t.s.ups.take k ++ t.s.ups.drop (k + 1), objs := [⟨t.s.ups[k].key, flatP t.s.ups[k].parts, t.s.ver + 1, t.s.now⟩], ver := t.s.ver + 1 }, ⟨0, [], t.s.ver + 1, t.s.now, 0⟩) by simp [Sto.doF, h1, hget]] at ha ⊢
      rw [show ({ t.u with asked := true } : Up).take xs ⟨0, [], t.s.ver + 1, t.s.now, 0⟩ t.s.now = ({ t.u with asked := false } : Up).end_ 1 t.s.now by simp [Up.take, e]]
      refine ⟨f, inv_over h hP h5 1 t.s.now _ ha.sb rfl ha.len (.inl ⟨rfl, ?_⟩)⟩
      rcases ha.sb.obj with ⟨h', _⟩ | ⟨o, h', ho1, ho2, _⟩
      · simp at h'
      · refine ⟨o, h', ho1, ho2, ?_⟩
        simp only [List.cons.injEq, and_true] at h'
        rw [← h']
  · have hc : t.u.call xs = ⟨3, key, [], 0, 0⟩ := by simp [Up.call, e, h.ukey]
    have hfT := h.fT2 (by omega) h5
    rw [hc] at ha ⊢
    rcases h.sb.obj with ⟨hob, _⟩ | ⟨o, hob, ho1, ho2, _⟩
    · rw [show t.s.doF ⟨3, key, [], 0, 0⟩ = (t.s, badR 7) by simp [Sto.doF, atF_nil hob]]
      by_cases hfr : t.u.sFrom = 4
      · rw [show ({ t.u with asked := true } : Up).take xs (badR 7) t.s.now = ({ t.u with asked := false } : Up).giveUp by unfold Up.take; simp only [e, badR]; simp [hfr]]
        exact ⟨f, inv_give h hW (by omega) h5 t.s h.sb rfl hl hP⟩
      · rw [show ({ t.u with asked := true } : Up).take xs (badR 7) t.s.now = { t.u with asked := false, sAt := 2 } by simp [Up.take, e, badR, hfr]]
        refine ⟨f, h.ukey, h.usize, h.utries, h.uwait, rfl, h.ufails, h.fT, fun _ _ => hfT, .inr (.inr (.inl rfl)), fun h' => absurd h' (by show ¬ (2 : Int) = 5; decide), fun _ => hends, h.now0, h.nowB, h.dueB, ?_, h.sb, hl, fun h' => absurd h' (by show ¬ (2 : Int) = 0; decide), fun _ => hob, fun h' => absurd h' (by show ¬ (2 : Int) = 1; decide), fun _ => h.c2 (.inr ⟨e, hob⟩)⟩
        have hp0 : progF P t.u = 0 := by simp [progF, e]
        rw [hp0] at hnB
        show ((t.n + 1 : Nat) : Int) ≤ 37 * min (f : Int) (T - 1) + ((P : Int) + 1)
        push_cast
        generalize min (f : Int) (T - 1) = m at *
        omega
    · have hat : atF t.s key = 0 := by rw [atF_one hob, if_pos ho1]
      rw [show t.s.doF ⟨3, key, [], 0, 0⟩ = (t.s, ⟨0, o.data, o.ver, o.born, 0⟩) by simp [Sto.doF, hat, hob]]
      rw [show ({ t.u with asked := true } : Up).take xs ⟨0, o.data, o.ver, o.born, 0⟩ t.s.now = ({ t.u with asked := false } : Up).end_ 1 o.born by simp [Up.take, e, ho2]]
      exact ⟨f, inv_over h hP h5 1 o.born _ h.sb rfl hl (.inl ⟨rfl, o, hob, ho1, ho2, rfl⟩)⟩
  · rw [show ({ t.u with asked := true } : Up).take xs (t.s.doF (t.u.call xs)).2 t.s.now = ({ t.u with asked := false } : Up).end_ 2 0 by simp [Up.take, e]]
    exact ⟨f, inv_over h hP h5 2 0 _ ha.sb ha.now ha.len (.inr ⟨rfl, rfl⟩)⟩
  · exact absurd e h5
theorem inv_step (h : Inv key xs z P T W i0 f t) (hz : 1 ≤ z) (hW : 0 ≤ W) (hP : P ≤ 32) (hPs : (P : Int) = partsF xs.length z) (fates : List Int) : ∃ f', Inv key xs z P T W i0 f' (stepF xs fates t) := by
  by_cases h5 : t.u.sAt = 5
  · unfold stepF
    rw [if_pos h5]
    exact ⟨f, h⟩
  by_cases hd : t.s.now < t.u.due
  · unfold stepF
    rw [if_neg h5, if_pos hd]
    have := h.dueB
    have := h.now0
    exact ⟨f, h.ukey, h.usize, h.utries, h.uwait, h.uasked, h.ufails, h.fT, h.fT2, h.at_, h.ends5, h.ends0, by show 0 ≤ t.s.now + 1; omega, by show t.s.now + 1 ≤ _; omega, h.dueB, h.nB, ⟨h.sb.ids, h.sb.nod, h.sb.parts, h.sb.obj, h.sb.id0⟩, h.len, h.len0, h.o012, h.c1, h.c2⟩
  · unfold stepF
    rw [if_neg h5, if_neg hd]
    simp only
    by_cases h1 : fateOf fates t.n = 1
    · rw [if_pos h1]
      exact inv_lost h hW hP h5 10 (.inl rfl) _ (after_same h 10)
    rw [if_neg h1]
    by_cases h2 : fateOf fates t.n = 2
    · rw [if_pos h2]
      exact inv_lost h hW hP h5 10 (.inl rfl) _ (after_do h hz hPs h5)
    rw [if_neg h2]
    by_cases h3 : fateOf fates t.n = 3
    · rw [if_pos h3]
      exact inv_lost h hW hP h5 9 (.inr rfl) _ (after_same h 9)
    rw [if_neg h3]
    by_cases h4 : fateOf fates t.n = 4
    · rw [if_pos h4]
      exact inv_do (inv_clear h) hz hW hP hPs h5
    · rw [if_neg h4]
      exact inv_do h hz hW hP hPs h5
end
end Go.Proofs.Ytfepigiapageeaa
