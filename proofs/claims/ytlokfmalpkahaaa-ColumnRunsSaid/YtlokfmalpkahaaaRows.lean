/-
  No cell of these rows narrows 'for every input' (looked for: loops, veiled, ifaces, maps, wideKeys, modest, calm, conditions, laid).
  DERIVED. THE GIVEN ROWS OF THIS SEAT. 3 by the template 'for every input the law returns true; each argument reads behind the call as it read before'; 0 by the template 'total and deterministic' (their statements: YtlokfmalpkahaaaTotals.lean).
  GIVEN WITH THE SEED: the statements are not yours to turn. If you find one false, say at which input.
  Laid BY PROGRAM, IN A SANDBOX (cutbox-rows.mjs): the forced cells as the released guide's own fill.sh prints them over the translation 04833c51cc3674de… (all of the seat's roots in one cut). By AI agents, Wed Nov 11 2026. No macro, syntax, notation, axiom, sorry.
-/
import Derived.Test.YtlokfmalpkahaaaChecked
import GoSem.Claim
import GoSem.ClaimJoined
import GoSem.ClaimMapViews
import Derived.JoinedTies
import Derived.KernelRfl
namespace Go.Proofs.Ytlokfmalpkahaaa
/- THE CELL 'sum', in the pinned program and in every row, IS THE sha256 OF THE DUMP (.gsa) THAT YtlokfmalpkahaaaProg.lean LOADS. Nothing in Lean hashes anything: it is a label: what it is worth is what the hold of that sum in a sandbox is worth. -/
noncomputable def Try.pinned : Pinned := { name := "ytlokfmalpkahaaa", sum := "04833c51cc3674de11e57ea038cd04edb01e7e89356a481e058819bd795b785c", checked := Try.checked }
namespace Rows
def none {H : Type} : Left H := { results := [], args := [] }

/-- 'entrepotlaw10.ColumnStats': WHATEVER THE INPUT: true; the input reads as it did. -/
def columnStatsSpec : ChangeSpec := { name := "columnStats", fn := fun _ => fun
  | [d1, d2, d3, d4] => { results := [.lit (.bool true)], args := [d1, d2, d3, d4] }
  | _ => none }
def columnStatsRow : OpenClaim := { program := "ytlokfmalpkahaaa", sum := "04833c51cc3674de11e57ea038cd04edb01e7e89356a481e058819bd795b785c", func := "entrepot/entrepotlaw10.ColumnStats", spec := "columnStats", unfollowed := true, recurses := true, plainKeys := false, apart := false }
def ColumnStatsSaid : Prop := columnStatsRow.holds Try.pinned (OpenSpec.ofChange columnStatsSpec)

/-- ITS FALSE NEIGHBOUR: 'it returns false'. Refute it at one input. -/
def columnStatsWrong : ChangeSpec := { name := "columnStats", fn := fun _ => fun
  | [d1, d2, d3, d4] => { results := [.lit (.bool false)], args := [d1, d2, d3, d4] }
  | _ => none }
def ColumnStatsWrongFalsely : Prop := columnStatsRow.holds Try.pinned (OpenSpec.ofChange columnStatsWrong)

/-- 'entrepotlaw10.ColumnTurned': WHATEVER THE INPUT: true; the input reads as it did. -/
def columnTurnedSpec : ChangeSpec := { name := "columnTurned", fn := fun _ => fun
  | [d1, d2, d3] => { results := [.lit (.bool true)], args := [d1, d2, d3] }
  | _ => none }
def columnTurnedRow : OpenClaim := { program := "ytlokfmalpkahaaa", sum := "04833c51cc3674de11e57ea038cd04edb01e7e89356a481e058819bd795b785c", func := "entrepot/entrepotlaw10.ColumnTurned", spec := "columnTurned", unfollowed := true, recurses := true, plainKeys := false, apart := false }
def ColumnTurnedSaid : Prop := columnTurnedRow.holds Try.pinned (OpenSpec.ofChange columnTurnedSpec)

/-- ITS FALSE NEIGHBOUR: 'it returns false'. Refute it at one input. -/
def columnTurnedWrong : ChangeSpec := { name := "columnTurned", fn := fun _ => fun
  | [d1, d2, d3] => { results := [.lit (.bool false)], args := [d1, d2, d3] }
  | _ => none }
def ColumnTurnedWrongFalsely : Prop := columnTurnedRow.holds Try.pinned (OpenSpec.ofChange columnTurnedWrong)

/-- 'entrepotlaw10.ColumnRuns': WHATEVER THE INPUT: true; the input reads as it did. -/
def columnRunsSpec : ChangeSpec := { name := "columnRuns", fn := fun _ => fun
  | [d1, d2] => { results := [.lit (.bool true)], args := [d1, d2] }
  | _ => none }
def columnRunsRow : OpenClaim := { program := "ytlokfmalpkahaaa", sum := "04833c51cc3674de11e57ea038cd04edb01e7e89356a481e058819bd795b785c", func := "entrepot/entrepotlaw10.ColumnRuns", spec := "columnRuns", unfollowed := true, recurses := true, plainKeys := false, apart := false }
def ColumnRunsSaid : Prop := columnRunsRow.holds Try.pinned (OpenSpec.ofChange columnRunsSpec)

/-- ITS FALSE NEIGHBOUR: 'it returns false'. Refute it at one input. -/
def columnRunsWrong : ChangeSpec := { name := "columnRuns", fn := fun _ => fun
  | [d1, d2] => { results := [.lit (.bool false)], args := [d1, d2] }
  | _ => none }
def ColumnRunsWrongFalsely : Prop := columnRunsRow.holds Try.pinned (OpenSpec.ofChange columnRunsWrong)

/- THE SECOND FORM. 'bulk': how many values and letters a reading holds, each counted each time it is reached (what is shared counts as often as it is met; a slice's spare places count too). A statement '..UptoSaid' is the law's where the arguments, and the package variables that the reading takes, are together of bulk at most 1048576: NARROWER than '..Said'. Prove '..Said' where nothing that the law and all that it calls make is longer than what came in: it says more and counts as full. Else prove '..UptoSaid'. A law counts once. -/
mutual
def uptoBulk {H : Type} : DataW H → Nat
  | .lit (.string bytes) => bytes.length + 1
  | .lit _ => 1
  | .nil => 1
  | .ptr d => uptoBulk d + 1
  | .slice elems spare => uptoBulkAll elems + uptoBulkAll spare + 1
  | .agg parts => uptoBulkAll parts + 1
  | .iface _ d => uptoBulk d + 1
  | .map entries => uptoBulkEntries entries + 1
  | .held _ => 1
def uptoBulkAll {H : Type} : List (DataW H) → Nat
  | [] => 0
  | d :: r => uptoBulk d + uptoBulkAll r
def uptoBulkEntries {H : Type} : List (Lit × DataW H) → Nat
  | [] => 0
  | x :: r => uptoBulkEntry x + uptoBulkEntries r
def uptoBulkEntry {H : Type} : Lit × DataW H → Nat
  | (.string bytes, d) => bytes.length + uptoBulk d + 1
  | (_, d) => uptoBulk d + 1
 end
def uptoSmall : (H : Type) → List (DataW H) → Bool := fun _ ds => decide (uptoBulkAll ds ≤ 1048576)
def OpenSpec.upto (s : _root_.Go.ChangeSpec) : _root_.Go.OpenSpec := { _root_.Go.OpenSpec.ofChange s with cond := some uptoSmall }

/-- 'entrepotlaw10.ColumnStats', WHERE WHAT IT READS IS OF BULK AT MOST 1048576: true; the input reads as it did. -/
def columnStatsUptoRow : OpenClaim := { program := "ytlokfmalpkahaaa", sum := "04833c51cc3674de11e57ea038cd04edb01e7e89356a481e058819bd795b785c", func := "entrepot/entrepotlaw10.ColumnStats", spec := "columnStats", unfollowed := true, recurses := true, plainKeys := false, apart := false, narrowed := true }
def ColumnStatsUptoSaid : Prop := columnStatsUptoRow.holds Try.pinned (OpenSpec.upto columnStatsSpec)

/-- 'entrepotlaw10.ColumnTurned', WHERE WHAT IT READS IS OF BULK AT MOST 1048576: true; the input reads as it did. -/
def columnTurnedUptoRow : OpenClaim := { program := "ytlokfmalpkahaaa", sum := "04833c51cc3674de11e57ea038cd04edb01e7e89356a481e058819bd795b785c", func := "entrepot/entrepotlaw10.ColumnTurned", spec := "columnTurned", unfollowed := true, recurses := true, plainKeys := false, apart := false, narrowed := true }
def ColumnTurnedUptoSaid : Prop := columnTurnedUptoRow.holds Try.pinned (OpenSpec.upto columnTurnedSpec)

/-- 'entrepotlaw10.ColumnRuns', WHERE WHAT IT READS IS OF BULK AT MOST 1048576: true; the input reads as it did. -/
def columnRunsUptoRow : OpenClaim := { program := "ytlokfmalpkahaaa", sum := "04833c51cc3674de11e57ea038cd04edb01e7e89356a481e058819bd795b785c", func := "entrepot/entrepotlaw10.ColumnRuns", spec := "columnRuns", unfollowed := true, recurses := true, plainKeys := false, apart := false, narrowed := true }
def ColumnRunsUptoSaid : Prop := columnRunsUptoRow.holds Try.pinned (OpenSpec.upto columnRunsSpec)

end Rows
end Go.Proofs.Ytlokfmalpkahaaa
