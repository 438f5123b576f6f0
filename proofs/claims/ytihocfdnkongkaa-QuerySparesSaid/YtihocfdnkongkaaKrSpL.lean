/- What is kept of a part that is not wanted: nothing, as a plain law. Conditions: none. -/
import Derived.Test.YtihocfdnkongkaaKrQ6
import Derived.Test.YtihocfdnkongkaaKrGrB
namespace Go.Proofs.Ytihocfdnkongkaa
set_option linter.unusedVariables false
open Ps
theorem key_time {a b : RowE} (h : keyLt b a = false) : a.time ≤ b.time := by
  unfold keyLt at h
  rw [decide_eq_false_iff_not] at h
  rcases Int.lt_or_le b.time a.time with h1 | h1
  · exact absurd (.inl h1) h
  · exact h1
section
variable {α : Type} {lt : α → α → Bool}
theorem ins_rise (hw : Weak lt) {l : List α} (h : l.Pairwise fun a b => lt b a = false) (x : α) : (insF lt x l).Pairwise fun a b => lt b a = false := by
  have hp := posF_le lt x l l.length
  have hat := posF_at lt x l l.length (Nat.le_refl _)
  have hab := fun i y => posF_above lt x l l.length i y
  unfold insF
  generalize posF lt x l l.length = p at *
  have hsplit := h
  rw [← List.take_append_drop p l, List.pairwise_append] at hsplit
  obtain ⟨h1, h2, h3⟩ := hsplit
  rw [List.append_assoc, List.pairwise_append]
  have hd : ∀ b ∈ l.drop p, lt b x = false := by
    intro b hb
    obtain ⟨i, hi, rfl⟩ := List.mem_iff_getElem.1 hb
    rw [List.length_drop] at hi
    have hb2 : l[p + i]? = some ((l.drop p)[i]'(by rw [List.length_drop]; exact hi)) := by
      rw [← List.getElem?_drop, List.getElem?_eq_getElem (by rw [List.length_drop]; exact hi)]
    exact hw.asym _ _ (hab (p + i) _ (by omega) (by omega) hb2)
  have ht : ∀ a ∈ l.take p, lt x a = false := by
    intro a ha
    obtain ⟨i, hi, rfl⟩ := List.mem_iff_getElem.1 ha
    rw [List.length_take] at hi
    obtain ⟨y, hy, hxy⟩ := hat (by omega)
    rw [List.getElem_take]
    have hyl : p - 1 < l.length := by omega
    rw [List.getElem?_eq_getElem hyl] at hy
    injection hy with hy
    rcases Nat.lt_or_ge i (p - 1) with hl | hl
    · have h4 := List.pairwise_iff_getElem.1 h i (p - 1) (by omega) hyl hl
      rw [hy] at h4
      exact hw.neg _ _ _ h4 hxy
    · have : i = p - 1 := by omega
      subst this
      rw [hy]
      exact hxy
  refine ⟨h1, ?_, fun a ha b hb => ?_⟩
  · rw [List.singleton_append, List.pairwise_cons]
    exact ⟨hd, h2⟩
  · rw [List.singleton_append, List.mem_cons] at hb
    rcases hb with rfl | hb
    · exact ht a ha
    · exact h3 a ha b hb
theorem sort_rise (hw : Weak lt) (l : List α) : (sortF lt l).Pairwise fun a b => lt b a = false := by
  have h : ∀ (l a : List α), a.Pairwise (fun a b => lt b a = false) → (l.foldl (fun a x => insF lt x a) a).Pairwise fun a b => lt b a = false := by
    intro l
    induction l with
    | nil => intro a ha; exact ha
    | cons x l ih => intro a ha; exact ih _ (ins_rise hw ha x)
  exact h l [] List.Pairwise.nil
end
theorem spares {q : QryE} {by_ : List ByteArray} {window : Int} {zs : List RV} {gs : List (GrpE RV)} (hs : SpI (fun z : RV => keyE window by_ z.row) gs zs) (hz : (zs.map fun x => x.row).Pairwise fun a b => keyLt b a = false)
    (hr : ∀ z ∈ zs, rightF z.row.labs = true) {g : GrpE RV} (hg : g ∈ gs) {i : Nat} (hi : i < g.rows.length) (hk : keepsF q g.rows[i].row = true) :
    wantsF q g.part (g.rows[0]'(by omega)).row.time (g.rows[g.rows.length - 1]'(by omega)).row.time = true := by
  have e := hs.rows g hg
  have hp : g.rows.Pairwise fun a b : RV => a.row.time ≤ b.row.time := by
    rw [e]
    rw [List.pairwise_map] at hz
    exact (hz.imp fun h => key_time h).filter _
  have hmem : g.rows[i] ∈ zs.filter fun x => decide (keyE window by_ x.row = g.key) := by rw [← e]; exact List.getElem_mem hi
  obtain ⟨hzi, hkey⟩ := List.mem_filter.1 hmem
  rw [decide_eq_true_iff] at hkey
  have hlo : (g.rows[0]'(by omega)).row.time ≤ g.rows[i].row.time := by
    rcases Nat.eq_zero_or_pos i with h0 | h0
    · subst h0; exact Int.le_refl _
    · exact List.pairwise_iff_getElem.1 hp 0 i (by omega) hi h0
  have hhi : g.rows[i].row.time ≤ (g.rows[g.rows.length - 1]'(by omega)).row.time := by
    rcases Nat.lt_or_ge i (g.rows.length - 1) with h0 | h0
    · exact List.pairwise_iff_getElem.1 hp i (g.rows.length - 1) hi (by omega) h0
    · have : i = g.rows.length - 1 := by omega
      subst this
      exact Int.le_refl _
  generalize (g.rows[0]'(by omega)).row.time = lo at *
  generalize (g.rows[g.rows.length - 1]'(by omega)).row.time = hi' at *
  generalize g.rows[i] = z at *
  have hrz := hr z hzi
  have hpart : g.part = mkB (textF (partF z.row.labs by_)) := by
    have h1 : (keyE window by_ z.row).2 = g.part := by rw [hkey]; rfl
    rw [← h1]
    exact partT_right hrz
  unfold keepsF keeps0 at hk
  simp only [Bool.and_eq_true, decide_eq_true_eq] at hk
  obtain ⟨hq, ⟨h1, h2⟩, hm⟩ := hk
  have hps : parseF g.part.data.toList = some (partF z.row.labs by_) := by
    rw [hpart]
    show parseF (textF (partF z.row.labs by_)) = _
    exact parse_text (right_part hrz by_)
  rw [want_some hps, hq, decide_eq_true ⟨by omega, by omega⟩]
  simp only [Bool.true_and]
  rw [List.all_eq_true]
  intro m hmm
  unfold askW
  rcases ask_part hm by_ m hmm with h | h
  · rw [h]
  · cases getF (partF z.row.labs by_) m.name with
    | none => rfl
    | some v => exact h
end Go.Proofs.Ytihocfdnkongkaa
