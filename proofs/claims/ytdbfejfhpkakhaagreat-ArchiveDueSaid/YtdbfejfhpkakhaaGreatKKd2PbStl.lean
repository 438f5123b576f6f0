/- Contracts and plain laws that the last text rests on. Conditions: each theorem states its own. -/
import Derived.Test.YtdbfejfhpkakhaaGreatKKd2Q3
import Derived.Lib.MinMaxS
set_option maxRecDepth 100000
set_option linter.unusedVariables false
set_option linter.unusedSimpArgs false
namespace Go.Proofs.YtdbfejfhpkakhaaGreat
def dK (ss:List ByteArray):List Value:=ss.map Value.string
theorem Jp {ss:List ByteArray} {k:Nat} (h:k<ss.length):(dK ss)[k]?=some (.string (ss.getD k ByteArray.empty)):=by simp[dK,List.getD,h]
end Go.Proofs.YtdbfejfhpkakhaaGreat
