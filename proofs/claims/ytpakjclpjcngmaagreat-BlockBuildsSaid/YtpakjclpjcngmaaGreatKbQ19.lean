/- Contracts and plain laws that the last text rests on. Conditions: each theorem states its own. -/
import Derived.Test.YtpakjclpjcngmaaGreatKbQ18
import Derived.Deep.RegionHeld3
import Derived.Deep.RegionWith
import Derived.IntWalk
import Derived.Test.YtpakjclpjcngmaaGreatKbQ6
set_option maxRecDepth 100000
set_option linter.unusedVariables false
namespace Go.Proofs.YtpakjclpjcngmaaGreat
open Go.RowKit
section
variable {K : Nat → Prop} {w w' : World} {r g h : Nat} {bs : List Nat} {most : Int} {s : Inf} {vo : Value}
end
section
variable {K : Nat → Prop} {w w' : World} {r g h : Nat} {bs : List Nat} {most : Int} {s : Inf} {vo : Value}
end
section
variable {K : Nat → Prop} {w w' : World} {r g h : Nat} {bs : List Nat} {most : Int} {s : Inf} {vo : Value}
end
section
variable {K : Nat → Prop} {w w' : World} {r g h : Nat} {bs : List Nat} {most : Int} {s : Inf} {vo : Value}
end
section
variable {K : Nat → Prop} {w w' : World} {r g h : Nat} {bs : List Nat} {most : Int} {s : Inf} {vo : Value}
end
end Go.Proofs.YtpakjclpjcngmaaGreat
namespace Go.Proofs.YtpakjclpjcngmaaGreat
end Go.Proofs.YtpakjclpjcngmaaGreat
namespace Go.Proofs.YtpakjclpjcngmaaGreat
open Go.RowKit
section
variable {K0 : Nat → Prop} {B : Nat} {W w w' : World} {r g h t : Nat} {bs : List Nat} {most : Int} {s s' : Inf} {v : Value} {l zt : List Int} {Dt : Nat → Prop}
end
section
variable {K : Nat → Prop} {w w' : World} {r g h : Nat} {bs : List Nat} {most : Int} {s : Inf} {b : Nat}
end
end Go.Proofs.YtpakjclpjcngmaaGreat
namespace Go.Proofs.YtpakjclpjcngmaaGreat
section
variable {bs : List Nat} {most : Int} {s : Inf}
end
section
variable {bs b2 : List Nat} {most m2 : Int} {s t : Inf}
end
end Go.Proofs.YtpakjclpjcngmaaGreat
