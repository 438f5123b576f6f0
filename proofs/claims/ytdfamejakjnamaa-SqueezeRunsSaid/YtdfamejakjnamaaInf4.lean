/- inflate's reader: more blocks that it leaves alone, fewer of them. Conditions: none. -/
import Derived.Test.YtdfamejakjnamaaInf3
import Derived.Test.YtdfamejakjnamaaPlainJ
namespace Go.Proofs.Ytdfamejakjnamaa
open Go.RowKit
set_option linter.unusedVariables false
section
variable {K : Nat → Prop} {w w' : World} {r g h : Nat} {bs : List Nat} {most : Int} {s : Inf} {vo : Value}
/-- blocks that came meanwhile are left alone too -/
theorem InfM.keep (m : InfM K w r g h bs most s vo) (n : Nx w w') : InfM (fun k => K k ∨ (w.heap.size ≤ k ∧ k < w'.heap.size)) w' r g h bs most s vo := by
  have m' := m.nx n
  refine ⟨m'.blk, m'.rdr, m'.own, m'.okb, .inl m'.kh, fun k hk => ?_⟩
  rcases hk with hk | ⟨h1, h2⟩
  · exact m'.far k hk
  · have hr := m.blk.lt
    have hg := m.rdr.lt
    exact ⟨h2, by omega, by omega, fun e => by have := (m.own.lt k e).2; omega⟩
theorem InfIs.keep (m : InfIs K w r g h bs most s) (n : Nx w w') : InfIs (fun k => K k ∨ (w.heap.size ≤ k ∧ k < w'.heap.size)) w' r g h bs most s := by
  obtain ⟨vo, m⟩ := m
  exact ⟨vo, m.keep n⟩
theorem InfM.less {K' : Nat → Prop} (m : InfM K w r g h bs most s vo) (hK : ∀ k, K' k → K k) (hh : K' h) : InfM K' w r g h bs most s vo :=
  ⟨m.blk, m.rdr, m.own, m.okb, hh, fun k hk => m.far k (hK k hk)⟩
theorem InfIs.less {K' : Nat → Prop} (m : InfIs K w r g h bs most s) (hK : ∀ k, K' k → K k) (hh : K' h) : InfIs K' w r g h bs most s := by
  obtain ⟨vo, m⟩ := m
  exact ⟨vo, m.less hK hh⟩
end
end Go.Proofs.Ytdfamejakjnamaa
