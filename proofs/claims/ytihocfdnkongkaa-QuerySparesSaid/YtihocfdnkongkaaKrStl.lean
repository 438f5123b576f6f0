/- Texts as cells. Conditions: none. -/
import Derived.Test.YtihocfdnkongkaaKrOwn
import Derived.Lib.MinMaxS
namespace Go.Proofs.Ytihocfdnkongkaa
def stl (ss : List ByteArray) : List Value := ss.map Value.string
theorem stl_length (ss : List ByteArray) : (stl ss).length = ss.length := by simp [stl]
theorem stg {ss : List ByteArray} {k : Nat} (h : k < ss.length) : (stl ss)[k]? = some (.string (ss.getD k ByteArray.empty)) := by simp [stl, List.getD, h]
end Go.Proofs.Ytihocfdnkongkaa
