/- Contracts and plain laws that the last text rests on. Conditions: each theorem states its own. -/
import Derived.Test.YtdbfejfhpkakhaaGreatKeQ4
import Derived.Test.YtdbfejfhpkakhaaGreatKePbLaw
import Derived.Test.YtdbfejfhpkakhaaGreatKeQ3
import Derived.Deep.RegionLaw
import Derived.Deep.DeepCutAuto
import Derived.Deep.DrawnRows
import Derived.Laws.MakeOwn
import Derived.BigRegion
import Derived.Test.YtdbfejfhpkakhaaGreatKeQ1
import Derived.Deep.QuietTactic
import Derived.BigQuiet
import Derived.Laws.BitsAllLaws
import Derived.Deep.RegionHeld3
import Derived.Deep.RegionWith
import Derived.IntWalk
import Derived.Test.YtdbfejfhpkakhaaGreatKeQ7
import Derived.Test.YtdbfejfhpkakhaaGreatKeQ18
import Derived.Deep.CutBlock
set_option maxRecDepth 100000
set_option linter.unusedVariables false
namespace Go.Proofs.YtdbfejfhpkakhaaGreat
structure Inf where
 p:Nat
 out:List Nat
 e:Int
end Go.Proofs.YtdbfejfhpkakhaaGreat
namespace Go.Proofs.YtdbfejfhpkakhaaGreat
open Go.RowKit
section
end
end Go.Proofs.YtdbfejfhpkakhaaGreat
namespace Go.Proofs.YtdbfejfhpkakhaaGreat
section
variable {bs : List Nat} {most : Int} {s : Inf}
end
section
variable {bs b2 : List Nat} {most m2 : Int} {s t : Inf}
end
end Go.Proofs.YtdbfejfhpkakhaaGreat
