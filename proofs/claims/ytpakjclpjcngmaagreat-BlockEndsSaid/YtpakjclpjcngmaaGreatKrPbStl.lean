/- Contracts and plain laws that the last text rests on. Conditions: each theorem states its own. -/
import Derived.Test.YtpakjclpjcngmaaGreatKrQ2
import Derived.Lib.MinMaxS
set_option maxRecDepth 100000
set_option linter.unusedVariables false
namespace Go.Proofs.YtpakjclpjcngmaaGreat
def stl (ss : List ByteArray) : List Value := ss.map Value.string
theorem stl_length (ss : List ByteArray) : (stl ss).length = ss.length := by simp [stl]
theorem stg {ss : List ByteArray} {k : Nat} (h : k < ss.length) : (stl ss)[k]? = some (.string (ss.getD k ByteArray.empty)) := by simp [stl, List.getD, h]
end Go.Proofs.YtpakjclpjcngmaaGreat
