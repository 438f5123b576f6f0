/- Contracts and plain laws that the last text rests on. Conditions: each theorem states its own. -/
import Derived.Test.YtdbfejfhpkakhaaGreatKeQ4
import Derived.Lib.MinMaxS
set_option maxRecDepth 100000
set_option linter.unusedVariables false
namespace Go.Proofs.YtdbfejfhpkakhaaGreat
def dB (ss:List ByteArray):List Value:=ss.map Value.string
theorem Hg {ss:List ByteArray} {k:Nat} (h:k<ss.length):(dB ss)[k]?=some (.string (ss.getD k ByteArray.empty)):=by simp[dB,List.getD,h]
end Go.Proofs.YtdbfejfhpkakhaaGreat
