/- Queries as a plain law: limits, times cut in two, matchers in another order. Conditions: none. -/
import Derived.Test.YtbgeddlakcaikaaKrPlainLb
namespace Go.Proofs.Ytbgeddlakcaikaa
set_option linter.unusedVariables false
theorem sort_times (l : List RowE) : (sortF keyLt l).Pairwise fun x y => x.time ≤ y.time := by
  obtain ⟨h1, h2⟩ := sort_sorted key_weak l
  have e := sortF_map (fun x : Tg RowE => x.row) keyLt (tagF l)
  rw [tagF_row] at e
  rw [← e, List.pairwise_map]
  refine h1.imp fun {x y} h => ?_
  have hk : keyLt y.row x.row = false := by
    rcases h with h | h
    · exact key_weak.asym _ _ h
    · exact h.1
  unfold keyLt at hk
  rw [decide_eq_false_iff_not] at hk
  omega
/-- a list in order of time, filtered by two times beside one another -/
theorem filter_cut {l : List RowE} (h : l.Pairwise fun x y => x.time ≤ y.time) (p : RowE → Bool) (lo cut hi : Int) (h1 : lo ≤ cut) (h2 : cut ≤ hi) :
    l.filter (fun x => decide (lo ≤ x.time ∧ x.time < cut) && p x) ++ l.filter (fun x => decide (cut ≤ x.time ∧ x.time < hi) && p x) = l.filter (fun x => decide (lo ≤ x.time ∧ x.time < hi) && p x) := by
  induction l with
  | nil => rfl
  | cons x l ih =>
    have hp := List.pairwise_cons.1 h
    by_cases hx : x.time < cut
    · have e2 : (decide (cut ≤ x.time ∧ x.time < hi) && p x) = false := by rw [decide_eq_false (by omega)]; rfl
      have e1 : (decide (lo ≤ x.time ∧ x.time < hi) && p x) = (decide (lo ≤ x.time ∧ x.time < cut) && p x) := by
        congr 1
        rw [decide_eq_decide]
        omega
      rw [List.filter_cons (x := x) (p := fun x => decide (cut ≤ x.time ∧ x.time < hi) && p x), e2, if_neg (by simp), List.filter_cons (x := x) (p := fun x => decide (lo ≤ x.time ∧ x.time < cut) && p x), List.filter_cons (x := x) (p := fun x => decide (lo ≤ x.time ∧ x.time < hi) && p x), e1]
      split
      · rw [List.cons_append, ih hp.2]
      · exact ih hp.2
    · have e0 : (x :: l).filter (fun x => decide (lo ≤ x.time ∧ x.time < cut) && p x) = [] := by
        rw [List.filter_eq_nil_iff]
        intro y hy
        have hy' : cut ≤ y.time := by
          rcases List.mem_cons.1 hy with rfl | hy
          · omega
          · have := hp.1 y hy; omega
        rw [decide_eq_false (by omega)]
        simp
      rw [e0, List.nil_append]
      refine List.filter_congr fun y hy => ?_
      have hy' : cut ≤ y.time := by
        rcases List.mem_cons.1 hy with rfl | hy
        · omega
        · have := hp.1 y hy; omega
      congr 1
      rw [decide_eq_decide]
      omega
theorem right_lim {q : QryE} (h : qrightF q = true) (lim : Int) (h0 : 0 ≤ lim) (h1 : lim ≤ 2048) : qrightF { q with limit := lim } = true := by
  unfold qrightF at *
  simp only [Bool.and_eq_true, decide_eq_true_eq] at *
  exact ⟨⟨h.1.1, h.1.2.1, h.1.2.2.1, h.1.2.2.2.1, h0, h1⟩, h.2⟩
theorem right_times {q : QryE} (h : qrightF q = true) (lo hi : Int) (h0 : 0 ≤ lo) (h1 : lo ≤ hi) (h2 : hi ≤ q.hi) : qrightF { q with lo := lo, hi := hi } = true := by
  unfold qrightF at *
  simp only [Bool.and_eq_true, decide_eq_true_eq] at *
  exact ⟨⟨h0, h1, by have := h.1.2.2.1; omega, h.1.2.2.2.1, h.1.2.2.2.2⟩, h.2⟩
theorem right_bounds {q : QryE} (h : qrightF q = true) : 0 ≤ q.lo ∧ q.lo ≤ q.hi ∧ 0 ≤ q.limit ∧ q.limit ≤ 2048 := by
  unfold qrightF at h
  simp only [Bool.and_eq_true, decide_eq_true_eq] at h
  exact ⟨h.1.1, h.1.2.1, h.1.2.2.2.2.1, h.1.2.2.2.2.2⟩
/-- an answer with a limit is a beginning of the one without -/
theorem answer_lim {q : QryE} (h : qrightF q = true) (l : List RowE) : answerF q l = (answerF { q with limit := 0 } l).take (if q.limit = 0 then (answerF { q with limit := 0 } l).length else q.limit.toNat) := by
  have h0 := right_lim h 0 (by decide) (by decide)
  unfold answerF
  rw [if_pos h, if_pos h0]
  have e : cutF { q with limit := 0 } ((sortF keyLt l).filter (keeps0 { q with limit := 0 })) = (sortF keyLt l).filter (keeps0 q) := by
    unfold cutF
    rw [if_pos rfl]
    rfl
  rw [e]
  have es : stripF { q with limit := 0 } = stripF q := rfl
  rw [es]
  unfold cutF
  by_cases hl : q.limit = 0
  · rw [if_pos hl, if_pos hl, List.take_length]
  · rw [if_neg hl, if_neg hl, List.map_take]
/-- what is cut in two times is answered in two -/
theorem answer_cut {q : QryE} (h : qrightF q = true) (l : List RowE) (cut : Int) (h1 : q.lo ≤ cut) (h2 : cut ≤ q.hi) :
    answerF { q with limit := 0, hi := cut } l ++ answerF { q with limit := 0, lo := cut } l = answerF { q with limit := 0 } l := by
  obtain ⟨b1, b2, b3, b4⟩ := right_bounds h
  have h0 := right_lim h 0 (by decide) (by decide)
  have ha := right_times h0 q.lo cut b1 h1 h2
  have hb := right_times h0 cut q.hi (by omega) h2 (Int.le_refl _)
  unfold answerF
  rw [if_pos h0, if_pos (by exact ha), if_pos (by exact hb)]
  unfold cutF
  rw [if_pos rfl, if_pos rfl, if_pos rfl]
  rw [show stripF { lo := q.lo, hi := cut, ms := q.ms, limit := 0, texts := q.texts } = stripF q from rfl, show stripF { lo := cut, hi := q.hi, ms := q.ms, limit := 0, texts := q.texts } = stripF q from rfl, show stripF { lo := q.lo, hi := q.hi, ms := q.ms, limit := 0, texts := q.texts } = stripF q from rfl, ← List.map_append]
  congr 1
  exact filter_cut (sort_times l) (fun x => meetsF x.labs q.ms) q.lo cut q.hi h1 h2
/-- one matcher more, ahead or behind -/
theorem all_snoc {α : Type} (p : α → Bool) (l : List α) (m : α) : (l ++ [m]).all p = (m :: l).all p := by
  rw [List.all_append, List.all_cons, List.all_cons, List.all_nil, Bool.and_true, Bool.and_comm]
theorem right_ab (q : QryE) (m : Mat) : qrightF { q with ms := q.ms ++ [m] } = qrightF { q with ms := m :: q.ms } := by
  unfold qrightF
  simp only [all_snoc, List.length_append, List.length_cons, List.length_nil, Nat.zero_add]
theorem keeps_ab (q : QryE) (m : Mat) (x : RowE) : keeps0 { q with ms := q.ms ++ [m] } x = keeps0 { q with ms := m :: q.ms } x := by
  unfold keeps0 meetsF
  simp only [all_snoc]
theorem keepsF_ab (q : QryE) (m : Mat) (x : RowE) : keepsF { q with ms := q.ms ++ [m] } x = keepsF { q with ms := m :: q.ms } x := by
  unfold keepsF
  rw [right_ab, keeps_ab]
theorem answer_ab (q : QryE) (m : Mat) (l : List RowE) : answerF { q with ms := q.ms ++ [m] } l = answerF { q with ms := m :: q.ms } l := by
  unfold answerF
  rw [right_ab]
  have e : keeps0 { q with ms := q.ms ++ [m] } = keeps0 { q with ms := m :: q.ms } := funext fun x => keeps_ab q m x
  rw [e]
  rfl
theorem keepsF_more (q : QryE) (m : Mat) (x : RowE) (h : keepsF { q with ms := m :: q.ms } x = true) : keepsF q x = true := by
  unfold keepsF keeps0 qrightF meetsF at *
  simp only [Bool.and_eq_true, decide_eq_true_eq, List.all_cons, List.length_cons] at *
  obtain ⟨⟨⟨a1, a2, a3, a4, a5⟩, _, a6⟩, a7, a8, _, a9⟩ := h
  exact ⟨⟨⟨a1, a2, a3, by omega, a5⟩, a6⟩, a7, a8, a9⟩
end Go.Proofs.Ytbgeddlakcaikaa
