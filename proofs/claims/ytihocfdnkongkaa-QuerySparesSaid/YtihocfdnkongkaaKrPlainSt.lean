/- The states of stable's loops: blocks sorted, then merged two by two. Conditions: none. -/
import Derived.Test.YtihocfdnkongkaaKrPlainSb
namespace Go.Proofs.Ytihocfdnkongkaa
set_option linter.unusedVariables false
section
variable {α : Type} {lt : α → α → Bool}
theorem tag_at {l : List α} {i : Nat} {x : Tg α} (h : (tagF l)[i]? = some x) : x.tag = i ∧ i < l.length := by
  obtain ⟨h1, e⟩ := List.getElem?_eq_some_iff.1 h
  rw [tagF_get] at e
  subst e
  rw [tagF_len] at h1
  exact ⟨rfl, h1⟩
/-- behind some blocks of twenty -/
structure St1 (lt : α → α → Bool) (l : List α) (a : Nat) (ys : List (Tg α)) : Prop where
  md : a % 20 = 0
  pm : ys.Perm (tagF l)
  bk : BlkI lt 20 0 a ys
  tl : ys.drop a = (tagF l).drop a
theorem St1.start (l : List α) : St1 lt l 0 (tagF l) := ⟨rfl, List.Perm.refl _, fun i x _ h => by omega, rfl⟩
theorem St1.len {l : List α} {a : Nat} {ys : List (Tg α)} (h : St1 lt l a ys) : ys.length = l.length := by
  rw [h.pm.length_eq, tagF_len]
theorem St1.cut {l : List α} {a : Nat} {ys : List (Tg α)} (h : St1 lt l a ys) {e : Nat} (h1 : a ≤ e) (h2 : e ≤ l.length) (h3 : e ≤ a + 20) : ∃ P M S, ys = P ++ M ++ S ∧ P.length = a ∧ M.length = e - a ∧ S.length = l.length - e ∧ (M.Pairwise fun x y => x.tag < y.tag) ∧
    ∀ C, C.Perm M → C.Pairwise (Rt lt) → (P ++ C ++ S).Perm (tagF l) ∧ BlkI lt 20 0 e (P ++ C ++ S) ∧ (P ++ C ++ S).drop e = (tagF l).drop e := by
  have hl := h.len
  have ht := tagF_len l
  have hP : (ys.take a).length = a := by rw [List.length_take]; omega
  have hM : (((tagF l).drop a).take (e - a)).length = e - a := by rw [List.length_take, List.length_drop]; omega
  have hM0 : ∀ i x, (((tagF l).drop a).take (e - a))[i]? = some x → x.tag = a + i ∧ i < e - a := fun i x hx => by
    have hi : i < e - a := by
      have := (List.getElem?_eq_some_iff.1 hx).1
      rwa [hM] at this
    rw [List.getElem?_take_of_lt hi, List.getElem?_drop] at hx
    exact ⟨(tag_at hx).1, hi⟩
  have hy : ys = ys.take a ++ ((tagF l).drop a).take (e - a) ++ (tagF l).drop e := by
    conv => lhs; rw [← List.take_append_drop a ys, h.tl]
    rw [List.append_assoc]
    congr 1
    conv => lhs; rw [← List.take_append_drop (e - a) ((tagF l).drop a)]
    rw [List.drop_drop, show a + (e - a) = e by omega]
  refine ⟨ys.take a, ((tagF l).drop a).take (e - a), (tagF l).drop e, hy, hP, hM, by rw [List.length_drop, ht], ?_, fun C hp hs => ?_⟩
  · refine List.pairwise_iff_getElem.2 fun i j hi hj hij => ?_
    have e1 := (hM0 i _ (List.getElem?_eq_getElem hi)).1
    have e2 := (hM0 j _ (List.getElem?_eq_getElem hj)).1
    omega
  · have hCl : C.length = e - a := by rw [hp.length_eq, hM]
    refine ⟨?_, ?_, ?_⟩
    · refine List.Perm.trans ?_ h.pm
      conv => rhs; rw [hy]
      exact (List.Perm.append_left _ hp).append_right _
    · refine BlkI.join (m := a) (h.bk.same fun i _ hi => ?_) ?_ h.md (by decide)
      · rw [mid_get, if_pos (by omega), List.getElem?_take_of_lt hi]
      · have := blk_new (bs' := 20) (P := ys.take a) (S := (tagF l).drop e) hp hs (by rw [hP]; exact h.md) (by omega) (by decide) (fun x hx => by
          obtain ⟨i, hi⟩ := List.mem_iff_getElem?.1 hx
          obtain ⟨e1, e2⟩ := hM0 i x hi
          rw [hP, hM]
          omega)
        rwa [hP, hM, show a + (e - a) = e by omega] at this
    · rw [List.drop_append_of_le_length (by rw [List.length_append]; omega), List.drop_eq_nil_of_le (by rw [List.length_append]; omega), List.nil_append]
/-- behind some merged blocks of twice bs -/
structure St2 (lt : α → α → Bool) (l : List α) (bs a : Nat) (ys : List (Tg α)) : Prop where
  md : a % (2 * bs) = 0
  pm : ys.Perm (tagF l)
  bk : BlkI lt (2 * bs) 0 a ys
  tl : BlkI lt bs a l.length ys
/-- all blocks of bs are in order -/
structure St3 (lt : α → α → Bool) (l : List α) (bs : Nat) (ys : List (Tg α)) : Prop where
  pm : ys.Perm (tagF l)
  bk : BlkI lt bs 0 l.length ys
theorem St2.start {l : List α} {bs : Nat} {ys : List (Tg α)} (h : St3 lt l bs ys) : St2 lt l bs 0 ys := ⟨Nat.zero_mod _, h.pm, fun i x _ h => by omega, h.bk⟩
theorem St3.last (w : Weak lt) {l : List α} {bs : Nat} {ys : List (Tg α)} (h : St3 lt l bs ys) (hn : l.length ≤ bs) : ys.map (fun x => x.row) = sortF lt l :=
  sort_unique w h.pm (blk_all h.bk hn (by rw [h.pm.length_eq, tagF_len]))
theorem St2.len {l : List α} {bs a : Nat} {ys : List (Tg α)} (h : St2 lt l bs a ys) : ys.length = l.length := by
  rw [h.pm.length_eq, tagF_len]
theorem St2.end_ {l : List α} {bs a : Nat} {ys : List (Tg α)} (h : St2 lt l bs a ys) (hb : 0 < bs) (hn : l.length ≤ a + bs) : St3 lt l (2 * bs) ys :=
  ⟨h.pm, BlkI.join h.bk (blk_last h.tl hb h.md hn) h.md (by omega)⟩
theorem St2.cut {l : List α} {bs a : Nat} {ys : List (Tg α)} (h : St2 lt l bs a ys) (hb : 0 < bs) {e : Nat} (h1 : a + bs < e) (h4 : e = a + 2 * bs ∨ (e = l.length ∧ e ≤ a + 2 * bs)) (h3 : e ≤ l.length) : ∃ P A B S, ys = P ++ A ++ B ++ S ∧ P.length = a ∧ A.length = bs ∧ B.length = e - (a + bs) ∧ S.length = l.length - e ∧ Runs lt P A B S ∧
    ∀ C, Merged lt A B C → (P ++ C ++ S).Perm (tagF l) ∧ BlkI lt (2 * bs) 0 e (P ++ C ++ S) ∧ BlkI lt bs e l.length (P ++ C ++ S) := by
  have hl := h.len
  have h2 : e ≤ a + 2 * bs := by omega
  obtain ⟨P, A, B, S, rfl, hP, hA, hB, hS⟩ : ∃ P A B S, ys = P ++ A ++ B ++ S ∧ P.length = a ∧ A.length = bs ∧ B.length = e - (a + bs) ∧ S.length = l.length - e := by
    refine ⟨ys.take a, (ys.drop a).take bs, (ys.drop (a + bs)).take (e - (a + bs)), ys.drop e, ?_, by simp; omega, by simp; omega, by simp; omega, by simp; omega⟩
    conv => lhs; rw [← List.take_append_drop a ys, ← List.take_append_drop bs (ys.drop a), List.drop_drop, ← List.take_append_drop (e - (a + bs)) (ys.drop (a + bs)), List.drop_drop, show a + bs + (e - (a + bs)) = e by omega]
    simp only [List.append_assoc]
  have hab : a % bs = 0 := by
    have h5 : 2 * bs ∣ a := Nat.dvd_of_mod_eq_zero h.md
    exact Nat.mod_eq_zero_of_dvd (Nat.dvd_trans (Nat.dvd_mul_left bs 2) h5)
  refine ⟨P, A, B, S, rfl, hP, hA, hB, hS, ?_, fun C hM => ?_⟩
  · have := h.tl
    rw [← hP] at this hab
    exact blk_runs this hb hab hA (by omega) (by omega)
  · have hCl := hM.1.length_eq
    rw [List.length_append] at hCl
    refine ⟨?_, ?_, ?_⟩
    · refine List.Perm.trans ?_ h.pm
      rw [List.append_assoc P A B]
      exact (List.Perm.append_left _ hM.1).append_right _
    · refine BlkI.join (m := a) (h.bk.same fun i _ hi => ?_) ?_ h.md (by omega)
      · rw [mid_get, if_pos (by omega), List.append_assoc, List.append_assoc, List.getElem?_append_left (by omega)]
      · have := blk_new (bs' := 2 * bs) (P := P) (S := S) hM.1 hM.2 (by rw [hP]; exact h.md) (by rw [List.length_append]; omega) (by omega) (fun x hx => by
          rw [List.length_append, hP, hA, hB]
          obtain ⟨i, hi⟩ := List.mem_iff_getElem?.1 hx
          have hil : i < A.length + B.length := by
            have := (List.getElem?_eq_some_iff.1 hi).1
            rwa [List.length_append] at this
          have hx2 : (P ++ A ++ B ++ S)[a + i]? = some x := by
            rw [List.append_assoc P A B, mid_get, if_neg (by omega), if_pos (by rw [List.length_append]; omega), show a + i - P.length = i by omega]
            exact hi
          obtain ⟨t1, t2⟩ := blk_tags h.tl (by omega) (by omega) hx2 hb
          obtain ⟨q, hq⟩ : ∃ q, a = bs * q := by
            obtain ⟨q, hq⟩ := Nat.dvd_of_mod_eq_zero hab
            exact ⟨q, hq⟩
          by_cases hib : i < bs
          · have e1 : (a + i) / bs = q := by rw [hq, Nat.mul_add_div hb, Nat.div_eq_of_lt hib, Nat.add_zero]
            rw [e1, ← hq] at t1 t2
            omega
          · have e1 : (a + i) / bs = q + 1 := by
              rw [hq, Nat.mul_add_div hb, show i = bs * 1 + (i - bs) by omega, Nat.mul_add_div hb, Nat.div_eq_of_lt (by omega)]
            rw [e1, Nat.mul_add, ← hq, Nat.mul_one] at t1 t2
            have hin := (h.tl (a + i) x (by omega) (by omega) hx2).1
            have ht : x.tag < l.length := by
              have := h.pm.subset (List.mem_of_getElem? hx2)
              obtain ⟨j, hj⟩ := List.mem_iff_getElem?.1 this
              have := tag_at hj
              omega
            omega)
        rw [List.length_append, hP, hA, hB] at this
        rwa [show a + (bs + (e - (a + bs))) = e by omega] at this
    · refine (h.tl.sub (lo' := e) (by omega) (Nat.le_refl _)).same fun i hi _ => ?_
      rw [mid_get, if_neg (by omega), if_neg (by omega), List.getElem?_append_right (by simp; omega)]
      congr 1
      simp
      omega
end
end Go.Proofs.Ytihocfdnkongkaa
