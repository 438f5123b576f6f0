/- A block of seven cells, all written anew. Conditions: none. -/
import Derived.Test.YtfepigiapageeaaOwn
namespace Go.Proofs.Ytfepigiapageeaa
set_option maxRecDepth 100000
open Go.RowKit
theorem set_blk7 {w : World} {b : Nat} {t : TypeId} {x0 x1 x2 x3 x4 x5 x6 : Value} (h : Blk w b t #[x0, x1, x2, x3, x4, x5, x6]) (v0 v1 v2 v3 v4 v5 v6 : Value) :
    Blk (((((((w.setCell ⟨b, 0, none⟩ v0).setCell ⟨b, 1, none⟩ v1).setCell ⟨b, 2, none⟩ v2).setCell ⟨b, 3, none⟩ v3).setCell ⟨b, 4, none⟩ v4).setCell ⟨b, 5, none⟩ v5).setCell ⟨b, 6, none⟩ v6) b t #[v0, v1, v2, v3, v4, v5, v6] := by
  have h1 : Blk (w.setCell ⟨b, 0, none⟩ v0) b t #[v0, x1, x2, x3, x4, x5, x6] := h.set_ 0 v0
  have h2 := h1.set_ 1 v1
  have h3 := h2.set_ 2 v2
  have h4 := h3.set_ 3 v3
  have h5 := h4.set_ 4 v4
  have h6 := h5.set_ 5 v5
  have h7 := h6.set_ 6 v6
  exact h7
theorem set_ch7 (w : World) (b : Nat) (v0 v1 v2 v3 v4 v5 v6 : Value) :
    Ch (fun k => k = b) w (((((((w.setCell ⟨b, 0, none⟩ v0).setCell ⟨b, 1, none⟩ v1).setCell ⟨b, 2, none⟩ v2).setCell ⟨b, 3, none⟩ v3).setCell ⟨b, 4, none⟩ v4).setCell ⟨b, 5, none⟩ v5).setCell ⟨b, 6, none⟩ v6) := by
  have c0 : Ch (fun k => k = b) w w := Ch.refl _ w
  have c1 := Ch.setCell c0 (p := ⟨b, 0, none⟩) (fun _ => rfl) v0
  have c2 := Ch.setCell c1 (p := ⟨b, 1, none⟩) (fun _ => rfl) v1
  have c3 := Ch.setCell c2 (p := ⟨b, 2, none⟩) (fun _ => rfl) v2
  have c4 := Ch.setCell c3 (p := ⟨b, 3, none⟩) (fun _ => rfl) v3
  have c5 := Ch.setCell c4 (p := ⟨b, 4, none⟩) (fun _ => rfl) v4
  have c6 := Ch.setCell c5 (p := ⟨b, 5, none⟩) (fun _ => rfl) v5
  have c7 := Ch.setCell c6 (p := ⟨b, 6, none⟩) (fun _ => rfl) v6
  exact c7
end Go.Proofs.Ytfepigiapageeaa
