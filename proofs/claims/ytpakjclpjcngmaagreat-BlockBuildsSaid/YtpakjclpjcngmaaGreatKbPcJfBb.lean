/- Contracts and plain laws that the last text rests on. Conditions: each theorem states its own. -/
import Derived.Test.YtpakjclpjcngmaaGreatKbPcLawS
import Derived.Test.YtpakjclpjcngmaaGreatRows
import Derived.JoinedOf
set_option maxRecDepth 100000
set_option maxHeartbeats 4000000
set_option linter.unusedVariables false
namespace Go.Proofs.YtpakjclpjcngmaaGreat
theorem aaW {a b:Bool} (h1:a=true) (h2:b=true):(a&&b)=true:=by rw[h1,h2];rfl
theorem pU:joinedFacts Tryz.pinned.checked.prog 3 Tryz.f3 Rows.blockBuildsSpec Rows.blockBuildsRow=true:=by
 unfold joinedFacts
 iterate 31 (refine aaW ?_ (by as_aux_lemma=>kernel_rfl))
 as_aux_lemma=>kernel_rfl
end Go.Proofs.YtpakjclpjcngmaaGreat
