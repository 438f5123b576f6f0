/- Contracts and plain laws that the last text rests on. Conditions: each theorem states its own. -/
import Derived.Test.YtdbfejfhpkakhaaGreatKKd2Q3
import Derived.Test.YtdbfejfhpkakhaaGreatKKd2PbLaw
import Derived.Test.YtdbfejfhpkakhaaGreatKKd2Q2
import Derived.Deep.RegionLaw
import Derived.Deep.DeepCutAuto
import Derived.Deep.DrawnRows
import Derived.Laws.MakeOwn
import Derived.BigRegion
import Derived.Test.YtdbfejfhpkakhaaGreatKKd2Q1
import Derived.Deep.QuietTactic
import Derived.BigQuiet
import Derived.Laws.BitsAllLaws
import Derived.Deep.RegionHeld3
import Derived.Deep.RegionWith
import Derived.IntWalk
import Derived.Test.YtdbfejfhpkakhaaGreatKKd2Q6
import Derived.Test.YtdbfejfhpkakhaaGreatKKd2Q16
import Derived.Deep.CutBlock
set_option maxRecDepth 100000
set_option linter.unusedVariables false
set_option linter.unusedSimpArgs false
namespace Go.Proofs.YtdbfejfhpkakhaaGreat
structure Inf where
 p:Nat
 out:List Nat
 e:Int
end Go.Proofs.YtdbfejfhpkakhaaGreat
namespace Go.Proofs.YtdbfejfhpkakhaaGreat
open Go.RowKit
section
end
end Go.Proofs.YtdbfejfhpkakhaaGreat
namespace Go.Proofs.YtdbfejfhpkakhaaGreat
section
variable {bs : List Nat} {most : Int} {s : Inf}
end
section
variable {bs b2 : List Nat} {most m2 : Int} {s t : Inf}
end
end Go.Proofs.YtdbfejfhpkakhaaGreat
