/- Contracts and plain laws that the last text rests on. Conditions: each theorem states its own. -/
import Derived.Test.YtpakjclpjcngmaaGreatKrQ19
import Derived.Test.YtpakjclpjcngmaaGreatKrQ15
import Derived.Test.YtpakjclpjcngmaaGreatKrQ2
import Derived.Deep.CutBlock
import Derived.Deep.DeepCutAuto
set_option maxRecDepth 100000
set_option linter.unusedVariables false
namespace Go.Proofs.YtpakjclpjcngmaaGreat
open Go.RowKit
section
variable {q : QryE} {p : RowE → Bool} {l : List RowE} {x : RowE}
end
section
variable {w : World} {D : Nat → Prop} {A B : Option Addr} {n c d : Nat} {l : List RV} {q : QryE}
end
end Go.Proofs.YtpakjclpjcngmaaGreat
