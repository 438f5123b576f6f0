/- Arguments that are structs of one-cell fields, opened: by value (five fields), byte slices inside. Conditions: none. · Queries as a plain law: limits, times cut in two, matchers in another order. Conditions: none. -/
import Derived.Test.YtihocfdnkongkaaKrLaw
import Derived.Lib.SmallJoins
import Derived.Deep.Slices
import Derived.Deep.Fields
import Derived.ChangeSame
import Derived.Test.YtihocfdnkongkaaKrPlainLb
namespace Go.Proofs.Ytihocfdnkongkaa
set_option maxRecDepth 100000
open Go.ChangeShapes Go.WideShapes Go.ChangeAt Go.RowKit Go.Deep
set_option linter.unusedVariables false

section
variable {H : Type} {enc : TypeId × Value → H} {P : Program} {w : World} {base : Nat} {spare : Nat → Bool} {held : Bool}
/-- the cells of a struct by value, and each field's reading -/
theorem open_aggN {r : Reach} {b0 : Nat} {t : TypeId} {fs : Array Field} {v : Value} {d : DataW H} {p : List MemPlace} (hs : P.underlying t = some (.struct fs)) (hone : oneCellFields P fs = true) (hC : P.cellsOf t = fs.size)
    (hv : Value.okWide P w r b0 t v) (h : DataW.Trod enc P w base spare held t v d p) :
    ∃ (cs : List Value) (ys : List (DataW H × List MemPlace)) (n : Nat), v = .agg cs.toArray ∧ cs.length = fs.size ∧ ys.length = fs.size ∧
      ∀ (j : Nat) (f : Field) (c : Value), fs[j]? = some f → cs[j]? = some c → ∃ y, ys[j]? = some y ∧ DataW.trod enc P w base spare held n f.type [c] = some y := by
  obtain ⟨cs, rfl, hsz⟩ := okWide_struct hs hv
  obtain ⟨l⟩ := cs
  obtain ⟨fuel, hf⟩ := h
  obtain ⟨xs, n, _, hx, hlen, hyl, hg⟩ := DataW.trod_struct hs hf
  have hl : l.length = fs.size := hsz.trans hC
  refine ⟨l, xs, n, rfl, hl, hyl, fun j f c hj hc => ?_⟩
  obtain ⟨ho, hk⟩ := hone_of hone j f hj
  have hjl : j < fs.size := (Array.getElem?_eq_some_iff.1 hj).1
  have hys : xs[j]? = some (xs[j]'(by omega)) := List.getElem?_eq_getElem (by omega)
  have h1 := hg j f hj
  have hcj : l[j]'(by omega) = c := by
    rw [List.getElem?_eq_getElem (by omega)] at hc
    injection hc
  have hone' : (l.drop j).take 1 = [c] := by
    rw [List.drop_eq_getElem_cons (by omega), hcj]
    rfl
  rw [ho, hk] at h1
  refine ⟨_, hys, ?_⟩
  rw [← hys, ← h1, ← hone']
  simp [Value.cells]
end

section
variable {H : Type} {enc : TypeId × Value → H} {W : World}
/-- a slice of bytes, inside a struct -/
theorem bytes_of_trod {n : Nat} {v : Value} {y : DataW H × List MemPlace} (h : DataW.trod enc Try.prog W 0 (fun _ => true) true n 78 [v] = some y) :
    ∃ (A : Option Addr) (n c : Nat) (xs : List Nat), v = .slice A n c ∧ xs.length = n ∧ Rd W (· < W.heap.size) 1 A n (bl xs) ∧ okB xs ∧ n ≤ c ∧ c ≤ maxLen := by
  rcases open_ints Try.underlying78 Try.underlying5 (by kernel_rfl) h with ⟨hcs, hx⟩ | ⟨x, l, c', zs, hcs, _, hl, hm, hz, hx, hcell, hwz⟩
  · simp at hcs
    exact ⟨none, 0, 0, [], hcs, rfl, Rd.none_ _ _ _ _, (by unfold okB; intro x hx; simp at hx), Nat.le_refl _, by simp [maxLen]⟩
  · simp at hcs
    subst hcs
    simp only [if_true] at hz
    obtain ⟨xs, e, ok, el⟩ := u8_list (zs := zs.take l) (fun z hz' => hwz z (List.mem_of_mem_take hz'))
    refine ⟨_, l, c', xs, rfl, by rw [el]; simp; omega, ?_, ok, hl, hm⟩
    rw [← e]
    refine ⟨by simp; omega, fun hn => ⟨x, rfl, ?_, fun j u hu => ?_⟩⟩
    · have := World.block_lt_of_cell? W _ (hcell 0 (by omega))
      rwa [block_of_add] at this
    · have hj : j < l := by
        rcases Nat.lt_or_ge j l with hj | hj
        · exact hj
        · rw [List.getElem?_eq_none (by simp; omega)] at hu; cases hu
      rw [hcell j (by omega), ← hu]
      simp [List.getD, List.getElem?_take, hj, List.getElem?_eq_getElem (show j < zs.length by omega)]
theorem int_of_trod {n : Nat} {v : Value} {t : TypeId} {y : DataW H × List MemPlace} (ht : Try.prog.underlying t = some (.int .i64)) (h : DataW.trod enc Try.prog W 0 (fun _ => true) true n t [v] = some y) : ∃ a : Int, v = .int .i64 a ∧ i64 a := by
  obtain ⟨a, e, _, wf⟩ := DataW.trod_int ht h
  simp at e
  exact ⟨a, e, i64_of_wf wf⟩
theorem str_of_trod {n : Nat} {v : Value} {y : DataW H × List MemPlace} (h : DataW.trod enc Try.prog W 0 (fun _ => true) true n 9 [v] = some y) : ∃ s : ByteArray, v = .string s ∧ s.size ≤ 9223372036854775807 := by
  obtain ⟨a, e, _, wf⟩ := DataW.trod_string Try.underlying9 h
  simp at e
  unfold maxLen at wf
  exact ⟨a, e, by omega⟩
theorem bool_of_trod {n : Nat} {v : Value} {y : DataW H × List MemPlace} (h : DataW.trod enc Try.prog W 0 (fun _ => true) true n 4 [v] = some y) : ∃ b : Bool, v = .bool b := by
  obtain ⟨a, e, _⟩ := DataW.trod_bool Try.underlying4 h
  simp at e
  exact ⟨a, e⟩
end
end Go.Proofs.Ytihocfdnkongkaa
namespace Go.Proofs.Ytihocfdnkongkaa
set_option linter.unusedVariables false
theorem sort_times (l : List RowE) : (sortF keyLt l).Pairwise fun x y => x.time ≤ y.time := by
  obtain ⟨h1, h2⟩ := sort_sorted key_weak l
  have e := sortF_map (fun x : Tg RowE => x.row) keyLt (tagF l)
  rw [tagF_row] at e
  rw [← e, List.pairwise_map]
  refine h1.imp fun {x y} h => ?_
  have hk : keyLt y.row x.row = false := by
    rcases h with h | h
    · exact key_weak.asym _ _ h
    · exact h.1
  unfold keyLt at hk
  rw [decide_eq_false_iff_not] at hk
  omega
/-- a list in order of time, filtered by two times beside one another -/
theorem filter_cut {l : List RowE} (h : l.Pairwise fun x y => x.time ≤ y.time) (p : RowE → Bool) (lo cut hi : Int) (h1 : lo ≤ cut) (h2 : cut ≤ hi) :
    l.filter (fun x => decide (lo ≤ x.time ∧ x.time < cut) && p x) ++ l.filter (fun x => decide (cut ≤ x.time ∧ x.time < hi) && p x) = l.filter (fun x => decide (lo ≤ x.time ∧ x.time < hi) && p x) := by
  induction l with
  | nil => rfl
  | cons x l ih =>
    have hp := List.pairwise_cons.1 h
    by_cases hx : x.time < cut
    · have e2 : (decide (cut ≤ x.time ∧ x.time < hi) && p x) = false := by rw [decide_eq_false (by omega)]; rfl
      have e1 : (decide (lo ≤ x.time ∧ x.time < hi) && p x) = (decide (lo ≤ x.time ∧ x.time < cut) && p x) := by
        congr 1
        rw [decide_eq_decide]
        omega
      rw [List.filter_cons (x := x) (p := fun x => decide (cut ≤ x.time ∧ x.time < hi) && p x), e2, if_neg (by simp), List.filter_cons (x := x) (p := fun x => decide (lo ≤ x.time ∧ x.time < cut) && p x), List.filter_cons (x := x) (p := fun x => decide (lo ≤ x.time ∧ x.time < hi) && p x), e1]
      split
      · rw [List.cons_append, ih hp.2]
      · exact ih hp.2
    · have e0 : (x :: l).filter (fun x => decide (lo ≤ x.time ∧ x.time < cut) && p x) = [] := by
        rw [List.filter_eq_nil_iff]
        intro y hy
        have hy' : cut ≤ y.time := by
          rcases List.mem_cons.1 hy with rfl | hy
          · omega
          · have := hp.1 y hy; omega
        rw [decide_eq_false (by omega)]
        simp
      rw [e0, List.nil_append]
      refine List.filter_congr fun y hy => ?_
      have hy' : cut ≤ y.time := by
        rcases List.mem_cons.1 hy with rfl | hy
        · omega
        · have := hp.1 y hy; omega
      congr 1
      rw [decide_eq_decide]
      omega
theorem right_lim {q : QryE} (h : qrightF q = true) (lim : Int) (h0 : 0 ≤ lim) (h1 : lim ≤ 2048) : qrightF { q with limit := lim } = true := by
  unfold qrightF at *
  simp only [Bool.and_eq_true, decide_eq_true_eq] at *
  exact ⟨⟨h.1.1, h.1.2.1, h.1.2.2.1, h.1.2.2.2.1, h0, h1⟩, h.2⟩
theorem right_times {q : QryE} (h : qrightF q = true) (lo hi : Int) (h0 : 0 ≤ lo) (h1 : lo ≤ hi) (h2 : hi ≤ q.hi) : qrightF { q with lo := lo, hi := hi } = true := by
  unfold qrightF at *
  simp only [Bool.and_eq_true, decide_eq_true_eq] at *
  exact ⟨⟨h0, h1, by have := h.1.2.2.1; omega, h.1.2.2.2.1, h.1.2.2.2.2⟩, h.2⟩
theorem right_bounds {q : QryE} (h : qrightF q = true) : 0 ≤ q.lo ∧ q.lo ≤ q.hi ∧ 0 ≤ q.limit ∧ q.limit ≤ 2048 := by
  unfold qrightF at h
  simp only [Bool.and_eq_true, decide_eq_true_eq] at h
  exact ⟨h.1.1, h.1.2.1, h.1.2.2.2.2.1, h.1.2.2.2.2.2⟩
/-- an answer with a limit is a beginning of the one without -/
theorem answer_lim {q : QryE} (h : qrightF q = true) (l : List RowE) : answerF q l = (answerF { q with limit := 0 } l).take (if q.limit = 0 then (answerF { q with limit := 0 } l).length else q.limit.toNat) := by
  have h0 := right_lim h 0 (by decide) (by decide)
  unfold answerF
  rw [if_pos h, if_pos h0]
  have e : cutF { q with limit := 0 } ((sortF keyLt l).filter (keeps0 { q with limit := 0 })) = (sortF keyLt l).filter (keeps0 q) := by
    unfold cutF
    rw [if_pos rfl]
    rfl
  rw [e]
  have es : stripF { q with limit := 0 } = stripF q := rfl
  rw [es]
  unfold cutF
  by_cases hl : q.limit = 0
  · rw [if_pos hl, if_pos hl, List.take_length]
  · rw [if_neg hl, if_neg hl, List.map_take]
/-- what is cut in two times is answered in two -/
theorem answer_cut {q : QryE} (h : qrightF q = true) (l : List RowE) (cut : Int) (h1 : q.lo ≤ cut) (h2 : cut ≤ q.hi) :
    answerF { q with limit := 0, hi := cut } l ++ answerF { q with limit := 0, lo := cut } l = answerF { q with limit := 0 } l := by
  obtain ⟨b1, b2, b3, b4⟩ := right_bounds h
  have h0 := right_lim h 0 (by decide) (by decide)
  have ha := right_times h0 q.lo cut b1 h1 h2
  have hb := right_times h0 cut q.hi (by omega) h2 (Int.le_refl _)
  unfold answerF
  rw [if_pos h0, if_pos (by exact ha), if_pos (by exact hb)]
  unfold cutF
  rw [if_pos rfl, if_pos rfl, if_pos rfl]
  rw [show stripF { lo := q.lo, hi := cut, ms := q.ms, limit := 0, texts := q.texts } = stripF q from rfl, show stripF { lo := cut, hi := q.hi, ms := q.ms, limit := 0, texts := q.texts } = stripF q from rfl, show stripF { lo := q.lo, hi := q.hi, ms := q.ms, limit := 0, texts := q.texts } = stripF q from rfl, ← List.map_append]
  congr 1
  exact filter_cut (sort_times l) (fun x => meetsF x.labs q.ms) q.lo cut q.hi h1 h2
/-- one matcher more, ahead or behind -/
theorem all_snoc {α : Type} (p : α → Bool) (l : List α) (m : α) : (l ++ [m]).all p = (m :: l).all p := by
  rw [List.all_append, List.all_cons, List.all_cons, List.all_nil, Bool.and_true, Bool.and_comm]
theorem right_ab (q : QryE) (m : Mat) : qrightF { q with ms := q.ms ++ [m] } = qrightF { q with ms := m :: q.ms } := by
  unfold qrightF
  simp only [all_snoc, List.length_append, List.length_cons, List.length_nil, Nat.zero_add]
theorem keeps_ab (q : QryE) (m : Mat) (x : RowE) : keeps0 { q with ms := q.ms ++ [m] } x = keeps0 { q with ms := m :: q.ms } x := by
  unfold keeps0 meetsF
  simp only [all_snoc]
theorem keepsF_ab (q : QryE) (m : Mat) (x : RowE) : keepsF { q with ms := q.ms ++ [m] } x = keepsF { q with ms := m :: q.ms } x := by
  unfold keepsF
  rw [right_ab, keeps_ab]
theorem answer_ab (q : QryE) (m : Mat) (l : List RowE) : answerF { q with ms := q.ms ++ [m] } l = answerF { q with ms := m :: q.ms } l := by
  unfold answerF
  rw [right_ab]
  have e : keeps0 { q with ms := q.ms ++ [m] } = keeps0 { q with ms := m :: q.ms } := funext fun x => keeps_ab q m x
  rw [e]
  rfl
theorem keepsF_more (q : QryE) (m : Mat) (x : RowE) (h : keepsF { q with ms := m :: q.ms } x = true) : keepsF q x = true := by
  unfold keepsF keeps0 qrightF meetsF at *
  simp only [Bool.and_eq_true, decide_eq_true_eq, List.all_cons, List.length_cons] at *
  obtain ⟨⟨⟨a1, a2, a3, a4, a5⟩, _, a6⟩, a7, a8, _, a9⟩ := h
  exact ⟨⟨⟨a1, a2, a3, by omega, a5⟩, a6⟩, a7, a8, a9⟩
end Go.Proofs.Ytihocfdnkongkaa
