/-
  No cell of these rows narrows 'for every input' (looked for: loops, veiled, ifaces, maps, wideKeys, modest, calm, conditions, laid).
  DERIVED. THE GIVEN ROWS OF THIS SEAT. 9 by the template 'for every input the law returns true; each argument reads behind the call as it read before'; 0 by the template 'total and deterministic' (their statements: YtdfamejakjnamaaTotals.lean).
  GIVEN WITH THE SEED: the statements are not yours to turn. If you find one false, say at which input.
  Laid BY PROGRAM, IN A SANDBOX (cutbox-rows.mjs): the forced cells as the released guide's own fill.sh prints them over the translation 3ba415c830955004… (all of the seat's roots in one cut). By AI agents, Wed Nov 11 2026. No macro, syntax, notation, axiom, sorry.
-/
import Derived.Test.YtdfamejakjnamaaChecked
import GoSem.Claim
import GoSem.ClaimJoined
import GoSem.ClaimMapViews
import Derived.JoinedTies
import Derived.KernelRfl
namespace Go.Proofs.Ytdfamejakjnamaa
/- THE CELL 'sum', in the pinned program and in every row, IS THE sha256 OF THE DUMP (.gsa) THAT YtdfamejakjnamaaProg.lean LOADS. Nothing in Lean hashes anything: it is a label: what it is worth is what the hold of that sum in a sandbox is worth. -/
noncomputable def Try.pinned : Pinned := { name := "ytdfamejakjnamaa", sum := "3ba415c83095500456798143c5d5894e18a883d422df0986add3f9ac98f54c7e", checked := Try.checked }
namespace Rows
def none {H : Type} : Left H := { results := [], args := [] }

/-- 'entrepotlaw07.SqueezeTokens': WHATEVER THE INPUT: true; the input reads as it did. -/
def squeezeTokensSpec : ChangeSpec := { name := "squeezeTokens", fn := fun _ => fun
  | [d] => { results := [.lit (.bool true)], args := [d] }
  | _ => none }
def squeezeTokensRow : OpenClaim := { program := "ytdfamejakjnamaa", sum := "3ba415c83095500456798143c5d5894e18a883d422df0986add3f9ac98f54c7e", func := "entrepot/entrepotlaw07.SqueezeTokens", spec := "squeezeTokens", unfollowed := true, recurses := true, plainKeys := false, apart := false }
def SqueezeTokensSaid : Prop := squeezeTokensRow.holds Try.pinned (OpenSpec.ofChange squeezeTokensSpec)

/-- ITS FALSE NEIGHBOUR: 'it returns false'. Refute it at one input. -/
def squeezeTokensWrong : ChangeSpec := { name := "squeezeTokens", fn := fun _ => fun
  | [d] => { results := [.lit (.bool false)], args := [d] }
  | _ => none }
def SqueezeTokensWrongFalsely : Prop := squeezeTokensRow.holds Try.pinned (OpenSpec.ofChange squeezeTokensWrong)

/-- 'entrepotlaw07.SqueezeBytes': WHATEVER THE INPUT: true; the input reads as it did. -/
def squeezeBytesSpec : ChangeSpec := { name := "squeezeBytes", fn := fun _ => fun
  | [d] => { results := [.lit (.bool true)], args := [d] }
  | _ => none }
def squeezeBytesRow : OpenClaim := { program := "ytdfamejakjnamaa", sum := "3ba415c83095500456798143c5d5894e18a883d422df0986add3f9ac98f54c7e", func := "entrepot/entrepotlaw07.SqueezeBytes", spec := "squeezeBytes", unfollowed := true, recurses := true, plainKeys := false, apart := false }
def SqueezeBytesSaid : Prop := squeezeBytesRow.holds Try.pinned (OpenSpec.ofChange squeezeBytesSpec)

/-- ITS FALSE NEIGHBOUR: 'it returns false'. Refute it at one input. -/
def squeezeBytesWrong : ChangeSpec := { name := "squeezeBytes", fn := fun _ => fun
  | [d] => { results := [.lit (.bool false)], args := [d] }
  | _ => none }
def SqueezeBytesWrongFalsely : Prop := squeezeBytesRow.holds Try.pinned (OpenSpec.ofChange squeezeBytesWrong)

/-- 'entrepotlaw07.SqueezeTold': WHATEVER THE INPUT: true; the input reads as it did. -/
def squeezeToldSpec : ChangeSpec := { name := "squeezeTold", fn := fun _ => fun
  | [d] => { results := [.lit (.bool true)], args := [d] }
  | _ => none }
def squeezeToldRow : OpenClaim := { program := "ytdfamejakjnamaa", sum := "3ba415c83095500456798143c5d5894e18a883d422df0986add3f9ac98f54c7e", func := "entrepot/entrepotlaw07.SqueezeTold", spec := "squeezeTold", unfollowed := true, recurses := true, plainKeys := false, apart := false }
def SqueezeToldSaid : Prop := squeezeToldRow.holds Try.pinned (OpenSpec.ofChange squeezeToldSpec)

/-- ITS FALSE NEIGHBOUR: 'it returns false'. Refute it at one input. -/
def squeezeToldWrong : ChangeSpec := { name := "squeezeTold", fn := fun _ => fun
  | [d] => { results := [.lit (.bool false)], args := [d] }
  | _ => none }
def SqueezeToldWrongFalsely : Prop := squeezeToldRow.holds Try.pinned (OpenSpec.ofChange squeezeToldWrong)

/-- 'entrepotlaw06.InflateBehind': WHATEVER THE INPUT: true; the input reads as it did. -/
def inflateBehindSpec : ChangeSpec := { name := "inflateBehind", fn := fun _ => fun
  | [d1, d2] => { results := [.lit (.bool true)], args := [d1, d2] }
  | _ => none }
def inflateBehindRow : OpenClaim := { program := "ytdfamejakjnamaa", sum := "3ba415c83095500456798143c5d5894e18a883d422df0986add3f9ac98f54c7e", func := "entrepot/entrepotlaw06.InflateBehind", spec := "inflateBehind", plainKeys := false, apart := false }
def InflateBehindSaid : Prop := inflateBehindRow.holds Try.pinned (OpenSpec.ofChange inflateBehindSpec)

/-- ITS FALSE NEIGHBOUR: 'it returns false'. Refute it at one input. -/
def inflateBehindWrong : ChangeSpec := { name := "inflateBehind", fn := fun _ => fun
  | [d1, d2] => { results := [.lit (.bool false)], args := [d1, d2] }
  | _ => none }
def InflateBehindWrongFalsely : Prop := inflateBehindRow.holds Try.pinned (OpenSpec.ofChange inflateBehindWrong)

/-- 'entrepotlaw06.InflateLimits': WHATEVER THE INPUT: true; the input reads as it did. -/
def inflateLimitsSpec : ChangeSpec := { name := "inflateLimits", fn := fun _ => fun
  | [d1, d2] => { results := [.lit (.bool true)], args := [d1, d2] }
  | _ => none }
def inflateLimitsRow : OpenClaim := { program := "ytdfamejakjnamaa", sum := "3ba415c83095500456798143c5d5894e18a883d422df0986add3f9ac98f54c7e", func := "entrepot/entrepotlaw06.InflateLimits", spec := "inflateLimits", plainKeys := false, apart := false }
def InflateLimitsSaid : Prop := inflateLimitsRow.holds Try.pinned (OpenSpec.ofChange inflateLimitsSpec)

/-- ITS FALSE NEIGHBOUR: 'it returns false'. Refute it at one input. -/
def inflateLimitsWrong : ChangeSpec := { name := "inflateLimits", fn := fun _ => fun
  | [d1, d2] => { results := [.lit (.bool false)], args := [d1, d2] }
  | _ => none }
def InflateLimitsWrongFalsely : Prop := inflateLimitsRow.holds Try.pinned (OpenSpec.ofChange inflateLimitsWrong)

/-- 'entrepotlaw06.InflateStored': WHATEVER THE INPUT: true; the input reads as it did. -/
def inflateStoredSpec : ChangeSpec := { name := "inflateStored", fn := fun _ => fun
  | [d] => { results := [.lit (.bool true)], args := [d] }
  | _ => none }
def inflateStoredRow : OpenClaim := { program := "ytdfamejakjnamaa", sum := "3ba415c83095500456798143c5d5894e18a883d422df0986add3f9ac98f54c7e", func := "entrepot/entrepotlaw06.InflateStored", spec := "inflateStored", plainKeys := false, apart := false }
def InflateStoredSaid : Prop := inflateStoredRow.holds Try.pinned (OpenSpec.ofChange inflateStoredSpec)

/-- ITS FALSE NEIGHBOUR: 'it returns false'. Refute it at one input. -/
def inflateStoredWrong : ChangeSpec := { name := "inflateStored", fn := fun _ => fun
  | [d] => { results := [.lit (.bool false)], args := [d] }
  | _ => none }
def InflateStoredWrongFalsely : Prop := inflateStoredRow.holds Try.pinned (OpenSpec.ofChange inflateStoredWrong)

/-- 'entrepotlaw06.InflateFixed': WHATEVER THE INPUT: true; the input reads as it did. -/
def inflateFixedSpec : ChangeSpec := { name := "inflateFixed", fn := fun _ => fun
  | [d] => { results := [.lit (.bool true)], args := [d] }
  | _ => none }
def inflateFixedRow : OpenClaim := { program := "ytdfamejakjnamaa", sum := "3ba415c83095500456798143c5d5894e18a883d422df0986add3f9ac98f54c7e", func := "entrepot/entrepotlaw06.InflateFixed", spec := "inflateFixed", plainKeys := false, apart := false }
def InflateFixedSaid : Prop := inflateFixedRow.holds Try.pinned (OpenSpec.ofChange inflateFixedSpec)

/-- ITS FALSE NEIGHBOUR: 'it returns false'. Refute it at one input. -/
def inflateFixedWrong : ChangeSpec := { name := "inflateFixed", fn := fun _ => fun
  | [d] => { results := [.lit (.bool false)], args := [d] }
  | _ => none }
def InflateFixedWrongFalsely : Prop := inflateFixedRow.holds Try.pinned (OpenSpec.ofChange inflateFixedWrong)

/-- 'entrepotlaw07.SqueezeBack': WHATEVER THE INPUT: true; the input reads as it did. -/
def squeezeBackSpec : ChangeSpec := { name := "squeezeBack", fn := fun _ => fun
  | [d] => { results := [.lit (.bool true)], args := [d] }
  | _ => none }
def squeezeBackRow : OpenClaim := { program := "ytdfamejakjnamaa", sum := "3ba415c83095500456798143c5d5894e18a883d422df0986add3f9ac98f54c7e", func := "entrepot/entrepotlaw07.SqueezeBack", spec := "squeezeBack", unfollowed := true, recurses := true, plainKeys := false, apart := false }
def SqueezeBackSaid : Prop := squeezeBackRow.holds Try.pinned (OpenSpec.ofChange squeezeBackSpec)

/-- ITS FALSE NEIGHBOUR: 'it returns false'. Refute it at one input. -/
def squeezeBackWrong : ChangeSpec := { name := "squeezeBack", fn := fun _ => fun
  | [d] => { results := [.lit (.bool false)], args := [d] }
  | _ => none }
def SqueezeBackWrongFalsely : Prop := squeezeBackRow.holds Try.pinned (OpenSpec.ofChange squeezeBackWrong)

/-- 'entrepotlaw07.SqueezeRuns': WHATEVER THE INPUT: true; the input reads as it did. -/
def squeezeRunsSpec : ChangeSpec := { name := "squeezeRuns", fn := fun _ => fun
  | [d1, d2] => { results := [.lit (.bool true)], args := [d1, d2] }
  | _ => none }
def squeezeRunsRow : OpenClaim := { program := "ytdfamejakjnamaa", sum := "3ba415c83095500456798143c5d5894e18a883d422df0986add3f9ac98f54c7e", func := "entrepot/entrepotlaw07.SqueezeRuns", spec := "squeezeRuns", unfollowed := true, recurses := true, plainKeys := false, apart := false }
def SqueezeRunsSaid : Prop := squeezeRunsRow.holds Try.pinned (OpenSpec.ofChange squeezeRunsSpec)

/-- ITS FALSE NEIGHBOUR: 'it returns false'. Refute it at one input. -/
def squeezeRunsWrong : ChangeSpec := { name := "squeezeRuns", fn := fun _ => fun
  | [d1, d2] => { results := [.lit (.bool false)], args := [d1, d2] }
  | _ => none }
def SqueezeRunsWrongFalsely : Prop := squeezeRunsRow.holds Try.pinned (OpenSpec.ofChange squeezeRunsWrong)

/- THE SECOND FORM. 'bulk': how many values and letters a reading holds, each counted each time it is reached (what is shared counts as often as it is met; a slice's spare places count too). A statement '..UptoSaid' is the law's where the arguments, and the package variables that the reading takes, are together of bulk at most 1048576: NARROWER than '..Said'. Prove '..Said' where nothing that the law and all that it calls make is longer than what came in: it says more and counts as full. Else prove '..UptoSaid'. A law counts once. -/
mutual
def uptoBulk {H : Type} : DataW H → Nat
  | .lit (.string bytes) => bytes.length + 1
  | .lit _ => 1
  | .nil => 1
  | .ptr d => uptoBulk d + 1
  | .slice elems spare => uptoBulkAll elems + uptoBulkAll spare + 1
  | .agg parts => uptoBulkAll parts + 1
  | .iface _ d => uptoBulk d + 1
  | .map entries => uptoBulkEntries entries + 1
  | .held _ => 1
def uptoBulkAll {H : Type} : List (DataW H) → Nat
  | [] => 0
  | d :: r => uptoBulk d + uptoBulkAll r
def uptoBulkEntries {H : Type} : List (Lit × DataW H) → Nat
  | [] => 0
  | x :: r => uptoBulkEntry x + uptoBulkEntries r
def uptoBulkEntry {H : Type} : Lit × DataW H → Nat
  | (.string bytes, d) => bytes.length + uptoBulk d + 1
  | (_, d) => uptoBulk d + 1
 end
def uptoSmall : (H : Type) → List (DataW H) → Bool := fun _ ds => decide (uptoBulkAll ds ≤ 1048576)
def OpenSpec.upto (s : _root_.Go.ChangeSpec) : _root_.Go.OpenSpec := { _root_.Go.OpenSpec.ofChange s with cond := some uptoSmall }

/-- 'entrepotlaw07.SqueezeTokens', WHERE WHAT IT READS IS OF BULK AT MOST 1048576: true; the input reads as it did. -/
def squeezeTokensUptoRow : OpenClaim := { program := "ytdfamejakjnamaa", sum := "3ba415c83095500456798143c5d5894e18a883d422df0986add3f9ac98f54c7e", func := "entrepot/entrepotlaw07.SqueezeTokens", spec := "squeezeTokens", unfollowed := true, recurses := true, plainKeys := false, apart := false, narrowed := true }
def SqueezeTokensUptoSaid : Prop := squeezeTokensUptoRow.holds Try.pinned (OpenSpec.upto squeezeTokensSpec)

/-- 'entrepotlaw07.SqueezeBytes', WHERE WHAT IT READS IS OF BULK AT MOST 1048576: true; the input reads as it did. -/
def squeezeBytesUptoRow : OpenClaim := { program := "ytdfamejakjnamaa", sum := "3ba415c83095500456798143c5d5894e18a883d422df0986add3f9ac98f54c7e", func := "entrepot/entrepotlaw07.SqueezeBytes", spec := "squeezeBytes", unfollowed := true, recurses := true, plainKeys := false, apart := false, narrowed := true }
def SqueezeBytesUptoSaid : Prop := squeezeBytesUptoRow.holds Try.pinned (OpenSpec.upto squeezeBytesSpec)

/-- 'entrepotlaw07.SqueezeTold', WHERE WHAT IT READS IS OF BULK AT MOST 1048576: true; the input reads as it did. -/
def squeezeToldUptoRow : OpenClaim := { program := "ytdfamejakjnamaa", sum := "3ba415c83095500456798143c5d5894e18a883d422df0986add3f9ac98f54c7e", func := "entrepot/entrepotlaw07.SqueezeTold", spec := "squeezeTold", unfollowed := true, recurses := true, plainKeys := false, apart := false, narrowed := true }
def SqueezeToldUptoSaid : Prop := squeezeToldUptoRow.holds Try.pinned (OpenSpec.upto squeezeToldSpec)

/-- 'entrepotlaw06.InflateBehind', WHERE WHAT IT READS IS OF BULK AT MOST 1048576: true; the input reads as it did. -/
def inflateBehindUptoRow : OpenClaim := { program := "ytdfamejakjnamaa", sum := "3ba415c83095500456798143c5d5894e18a883d422df0986add3f9ac98f54c7e", func := "entrepot/entrepotlaw06.InflateBehind", spec := "inflateBehind", plainKeys := false, apart := false, narrowed := true }
def InflateBehindUptoSaid : Prop := inflateBehindUptoRow.holds Try.pinned (OpenSpec.upto inflateBehindSpec)

/-- 'entrepotlaw06.InflateLimits', WHERE WHAT IT READS IS OF BULK AT MOST 1048576: true; the input reads as it did. -/
def inflateLimitsUptoRow : OpenClaim := { program := "ytdfamejakjnamaa", sum := "3ba415c83095500456798143c5d5894e18a883d422df0986add3f9ac98f54c7e", func := "entrepot/entrepotlaw06.InflateLimits", spec := "inflateLimits", plainKeys := false, apart := false, narrowed := true }
def InflateLimitsUptoSaid : Prop := inflateLimitsUptoRow.holds Try.pinned (OpenSpec.upto inflateLimitsSpec)

/-- 'entrepotlaw06.InflateStored', WHERE WHAT IT READS IS OF BULK AT MOST 1048576: true; the input reads as it did. -/
def inflateStoredUptoRow : OpenClaim := { program := "ytdfamejakjnamaa", sum := "3ba415c83095500456798143c5d5894e18a883d422df0986add3f9ac98f54c7e", func := "entrepot/entrepotlaw06.InflateStored", spec := "inflateStored", plainKeys := false, apart := false, narrowed := true }
def InflateStoredUptoSaid : Prop := inflateStoredUptoRow.holds Try.pinned (OpenSpec.upto inflateStoredSpec)

/-- 'entrepotlaw06.InflateFixed', WHERE WHAT IT READS IS OF BULK AT MOST 1048576: true; the input reads as it did. -/
def inflateFixedUptoRow : OpenClaim := { program := "ytdfamejakjnamaa", sum := "3ba415c83095500456798143c5d5894e18a883d422df0986add3f9ac98f54c7e", func := "entrepot/entrepotlaw06.InflateFixed", spec := "inflateFixed", plainKeys := false, apart := false, narrowed := true }
def InflateFixedUptoSaid : Prop := inflateFixedUptoRow.holds Try.pinned (OpenSpec.upto inflateFixedSpec)

/-- 'entrepotlaw07.SqueezeBack', WHERE WHAT IT READS IS OF BULK AT MOST 1048576: true; the input reads as it did. -/
def squeezeBackUptoRow : OpenClaim := { program := "ytdfamejakjnamaa", sum := "3ba415c83095500456798143c5d5894e18a883d422df0986add3f9ac98f54c7e", func := "entrepot/entrepotlaw07.SqueezeBack", spec := "squeezeBack", unfollowed := true, recurses := true, plainKeys := false, apart := false, narrowed := true }
def SqueezeBackUptoSaid : Prop := squeezeBackUptoRow.holds Try.pinned (OpenSpec.upto squeezeBackSpec)

/-- 'entrepotlaw07.SqueezeRuns', WHERE WHAT IT READS IS OF BULK AT MOST 1048576: true; the input reads as it did. -/
def squeezeRunsUptoRow : OpenClaim := { program := "ytdfamejakjnamaa", sum := "3ba415c83095500456798143c5d5894e18a883d422df0986add3f9ac98f54c7e", func := "entrepot/entrepotlaw07.SqueezeRuns", spec := "squeezeRuns", unfollowed := true, recurses := true, plainKeys := false, apart := false, narrowed := true }
def SqueezeRunsUptoSaid : Prop := squeezeRunsUptoRow.holds Try.pinned (OpenSpec.upto squeezeRunsSpec)

end Rows
end Go.Proofs.Ytdfamejakjnamaa
