/- Contracts and plain laws that the last text rests on. Conditions: each theorem states its own. -/
import Derived.Test.YtfljcllpmbnjaaaGreatKdQ3
import Derived.Lib.MinMaxS
set_option maxRecDepth 100000
set_option linter.unusedVariables false
namespace Go.Proofs.YtfljcllpmbnjaaaGreat
def bW (ss:List ByteArray):List Value:=ss.map Value.string
theorem yj {ss:List ByteArray} {k:Nat} (h:k<ss.length):(bW ss)[k]?=some (.string (ss.getD k ByteArray.empty)):=by simp[bW,List.getD,h]
end Go.Proofs.YtfljcllpmbnjaaaGreat
