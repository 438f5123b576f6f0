/- Contracts and plain laws that the last text rests on. Conditions: each theorem states its own. -/
import Derived.Test.YtdbfejfhpkakhaaGreatKeQ13
import Derived.Test.YtdbfejfhpkakhaaGreatKeQ8
set_option maxRecDepth 100000
set_option linter.unusedVariables false
namespace Go.Proofs.YtdbfejfhpkakhaaGreat
open Go.RowKit
section
variable {q : ZG} {p : aC → Bool} {l : List aC} {x : aC}
end
end Go.Proofs.YtdbfejfhpkakhaaGreat
