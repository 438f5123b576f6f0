/- Contracts and plain laws that the last text rests on. Conditions: each theorem states its own. -/
import Derived.Test.YtdbfejfhpkakhaaGreatKKf2Q3
import Derived.Lib.MinMaxS
set_option maxRecDepth 100000
set_option linter.unusedVariables false
namespace Go.Proofs.YtdbfejfhpkakhaaGreat
def dI (ss:List ByteArray):List Value:=ss.map Value.string
theorem Ja {ss:List ByteArray} {k:Nat} (h:k<ss.length):(dI ss)[k]?=some (.string (ss.getD k ByteArray.empty)):=by simp[dI,List.getD,h]
end Go.Proofs.YtdbfejfhpkakhaaGreat
