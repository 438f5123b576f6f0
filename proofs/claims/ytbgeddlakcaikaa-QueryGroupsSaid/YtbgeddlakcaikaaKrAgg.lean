/- Arguments that are structs of one-cell fields, opened: by value (five fields), byte slices inside. Conditions: none. -/
import Derived.Test.YtbgeddlakcaikaaKrLaw
import Derived.Lib.SmallJoins
import Derived.Deep.Slices
import Derived.Deep.Fields
import Derived.ChangeSame
namespace Go.Proofs.Ytbgeddlakcaikaa
set_option maxRecDepth 100000
open Go.ChangeShapes Go.WideShapes Go.ChangeAt Go.RowKit Go.Deep
set_option linter.unusedVariables false

section
variable {H : Type} {enc : TypeId × Value → H} {P : Program} {w : World} {base : Nat} {spare : Nat → Bool} {held : Bool}
/-- the cells of a struct by value, and each field's reading -/
theorem open_aggN {r : Reach} {b0 : Nat} {t : TypeId} {fs : Array Field} {v : Value} {d : DataW H} {p : List MemPlace} (hs : P.underlying t = some (.struct fs)) (hone : oneCellFields P fs = true) (hC : P.cellsOf t = fs.size)
    (hv : Value.okWide P w r b0 t v) (h : DataW.Trod enc P w base spare held t v d p) :
    ∃ (cs : List Value) (ys : List (DataW H × List MemPlace)) (n : Nat), v = .agg cs.toArray ∧ cs.length = fs.size ∧ ys.length = fs.size ∧
      ∀ (j : Nat) (f : Field) (c : Value), fs[j]? = some f → cs[j]? = some c → ∃ y, ys[j]? = some y ∧ DataW.trod enc P w base spare held n f.type [c] = some y := by
  obtain ⟨cs, rfl, hsz⟩ := okWide_struct hs hv
  obtain ⟨l⟩ := cs
  obtain ⟨fuel, hf⟩ := h
  obtain ⟨xs, n, _, hx, hlen, hyl, hg⟩ := DataW.trod_struct hs hf
  have hl : l.length = fs.size := hsz.trans hC
  refine ⟨l, xs, n, rfl, hl, hyl, fun j f c hj hc => ?_⟩
  obtain ⟨ho, hk⟩ := hone_of hone j f hj
  have hjl : j < fs.size := (Array.getElem?_eq_some_iff.1 hj).1
  have hys : xs[j]? = some (xs[j]'(by omega)) := List.getElem?_eq_getElem (by omega)
  have h1 := hg j f hj
  have hcj : l[j]'(by omega) = c := by
    rw [List.getElem?_eq_getElem (by omega)] at hc
    injection hc
  have hone' : (l.drop j).take 1 = [c] := by
    rw [List.drop_eq_getElem_cons (by omega), hcj]
    rfl
  rw [ho, hk] at h1
  refine ⟨_, hys, ?_⟩
  rw [← hys, ← h1, ← hone']
  simp [Value.cells]
end

section
variable {H : Type} {enc : TypeId × Value → H} {W : World}
/-- a slice of bytes, inside a struct -/
theorem bytes_of_trod {n : Nat} {v : Value} {y : DataW H × List MemPlace} (h : DataW.trod enc Try.prog W 0 (fun _ => true) true n 83 [v] = some y) :
    ∃ (A : Option Addr) (n c : Nat) (xs : List Nat), v = .slice A n c ∧ xs.length = n ∧ Rd W (· < W.heap.size) 1 A n (bl xs) ∧ okB xs ∧ n ≤ c ∧ c ≤ maxLen := by
  rcases open_ints Try.underlying83 Try.underlying5 (by kernel_rfl) h with ⟨hcs, hx⟩ | ⟨x, l, c', zs, hcs, _, hl, hm, hz, hx, hcell, hwz⟩
  · simp at hcs
    exact ⟨none, 0, 0, [], hcs, rfl, Rd.none_ _ _ _ _, (by unfold okB; intro x hx; simp at hx), Nat.le_refl _, by simp [maxLen]⟩
  · simp at hcs
    subst hcs
    simp only [if_true] at hz
    obtain ⟨xs, e, ok, el⟩ := u8_list (zs := zs.take l) (fun z hz' => hwz z (List.mem_of_mem_take hz'))
    refine ⟨_, l, c', xs, rfl, by rw [el]; simp; omega, ?_, ok, hl, hm⟩
    rw [← e]
    refine ⟨by simp; omega, fun hn => ⟨x, rfl, ?_, fun j u hu => ?_⟩⟩
    · have := World.block_lt_of_cell? W _ (hcell 0 (by omega))
      rwa [block_of_add] at this
    · have hj : j < l := by
        rcases Nat.lt_or_ge j l with hj | hj
        · exact hj
        · rw [List.getElem?_eq_none (by simp; omega)] at hu; cases hu
      rw [hcell j (by omega), ← hu]
      simp [List.getD, List.getElem?_take, hj, List.getElem?_eq_getElem (show j < zs.length by omega)]
theorem int_of_trod {n : Nat} {v : Value} {t : TypeId} {y : DataW H × List MemPlace} (ht : Try.prog.underlying t = some (.int .i64)) (h : DataW.trod enc Try.prog W 0 (fun _ => true) true n t [v] = some y) : ∃ a : Int, v = .int .i64 a ∧ i64 a := by
  obtain ⟨a, e, _, wf⟩ := DataW.trod_int ht h
  simp at e
  exact ⟨a, e, i64_of_wf wf⟩
theorem str_of_trod {n : Nat} {v : Value} {y : DataW H × List MemPlace} (h : DataW.trod enc Try.prog W 0 (fun _ => true) true n 9 [v] = some y) : ∃ s : ByteArray, v = .string s ∧ s.size ≤ 9223372036854775807 := by
  obtain ⟨a, e, _, wf⟩ := DataW.trod_string Try.underlying9 h
  simp at e
  unfold maxLen at wf
  exact ⟨a, e, by omega⟩
theorem bool_of_trod {n : Nat} {v : Value} {y : DataW H × List MemPlace} (h : DataW.trod enc Try.prog W 0 (fun _ => true) true n 4 [v] = some y) : ∃ b : Bool, v = .bool b := by
  obtain ⟨a, e, _⟩ := DataW.trod_bool Try.underlying4 h
  simp at e
  exact ⟨a, e⟩
end
end Go.Proofs.Ytbgeddlakcaikaa
