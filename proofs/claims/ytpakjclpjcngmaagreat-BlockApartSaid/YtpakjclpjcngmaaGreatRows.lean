/-
  No cell of these rows narrows 'for every input' (looked for: loops, veiled, ifaces, maps, wideKeys, modest, calm, conditions, laid).
  DERIVED. THE GIVEN ROWS OF THIS SEAT. 8 by the template 'for every input the law returns true; each argument reads behind the call as it read before'; 0 by the template 'total and deterministic' (their statements: YtpakjclpjcngmaaGreatTotals.lean).
  GIVEN WITH THE SEED: the statements are not yours to turn. If you find one false, say at which input.
  Laid BY PROGRAM, IN A SANDBOX (cutbox-rows.mjs): the forced cells as the released guide's own fill.sh prints them over the translation 668a5dee756c4cd6… (all of the seat's roots in one cut). By AI agents, Wed Nov 11 2026. No macro, syntax, notation, axiom, sorry.
-/
import Derived.Test.YtpakjclpjcngmaaGreatChecked
import GoSem.Claim
import GoSem.ClaimJoined
import GoSem.ClaimMapViews
import Derived.JoinedTies
import Derived.KernelRfl
namespace Go.Proofs.YtpakjclpjcngmaaGreat
/- THE CELL 'sum', in the pinned program and in every row, IS THE sha256 OF THE DUMP (.gsa) THAT YtpakjclpjcngmaaGreatProg.lean LOADS. Nothing in Lean hashes anything: it is a label: what it is worth is what the hold of that sum in a sandbox is worth. -/
noncomputable def Tryz.pinned : Pinned := { name := "ytpakjclpjcngmaagreat", sum := "668a5dee756c4cd67768c9ee6279acc088d23ab3399e56bdd30e56111400bc63", checked := Tryz.checked }
namespace Rows
def none {H : Type} : Left H := { results := [], args := [] }

/-- 'entrepotlaw11.BlockBuilds': WHATEVER THE INPUT: true; the input reads as it did. -/
def blockBuildsSpec : ChangeSpec := { name := "blockBuilds", fn := fun _ => fun
  | [d1, d2] => { results := [.lit (.bool true)], args := [d1, d2] }
  | _ => none }
def blockBuildsRow : OpenClaim := { program := "ytpakjclpjcngmaagreat", sum := "668a5dee756c4cd67768c9ee6279acc088d23ab3399e56bdd30e56111400bc63", func := "entrepot/entrepotlaw11.BlockBuilds", spec := "blockBuilds", inPlace := ["internal/abi.NoEscape", "internal/bytealg.IndexByteString", "internal/bytealg.IndexString"], unfollowed := true, recurses := true, named := ["internal/bytealg.MaxLen"], plainKeys := false, apart := false }
def BlockBuildsSaid : Prop := blockBuildsRow.holds Tryz.pinned (OpenSpec.ofChange blockBuildsSpec)

/-- ITS FALSE NEIGHBOUR: 'it returns false'. Refute it at one input. -/
def blockBuildsWrong : ChangeSpec := { name := "blockBuilds", fn := fun _ => fun
  | [d1, d2] => { results := [.lit (.bool false)], args := [d1, d2] }
  | _ => none }
def BlockBuildsWrongFalsely : Prop := blockBuildsRow.holds Tryz.pinned (OpenSpec.ofChange blockBuildsWrong)

/-- 'entrepotlaw11.BlockReads': WHATEVER THE INPUT: true; the input reads as it did. -/
def blockReadsSpec : ChangeSpec := { name := "blockReads", fn := fun _ => fun
  | [d] => { results := [.lit (.bool true)], args := [d] }
  | _ => none }
def blockReadsRow : OpenClaim := { program := "ytpakjclpjcngmaagreat", sum := "668a5dee756c4cd67768c9ee6279acc088d23ab3399e56bdd30e56111400bc63", func := "entrepot/entrepotlaw11.BlockReads", spec := "blockReads", inPlace := ["internal/abi.NoEscape", "internal/bytealg.IndexByteString", "internal/bytealg.IndexString"], unfollowed := true, recurses := true, named := ["internal/bytealg.MaxLen"], plainKeys := false, apart := false }
def BlockReadsSaid : Prop := blockReadsRow.holds Tryz.pinned (OpenSpec.ofChange blockReadsSpec)

/-- ITS FALSE NEIGHBOUR: 'it returns false'. Refute it at one input. -/
def blockReadsWrong : ChangeSpec := { name := "blockReads", fn := fun _ => fun
  | [d] => { results := [.lit (.bool false)], args := [d] }
  | _ => none }
def BlockReadsWrongFalsely : Prop := blockReadsRow.holds Tryz.pinned (OpenSpec.ofChange blockReadsWrong)

/-- 'entrepotlaw11.BlockEnds': WHATEVER THE INPUT: true; the input reads as it did. -/
def blockEndsSpec : ChangeSpec := { name := "blockEnds", fn := fun _ => fun
  | [d1, d2] => { results := [.lit (.bool true)], args := [d1, d2] }
  | _ => none }
def blockEndsRow : OpenClaim := { program := "ytpakjclpjcngmaagreat", sum := "668a5dee756c4cd67768c9ee6279acc088d23ab3399e56bdd30e56111400bc63", func := "entrepot/entrepotlaw11.BlockEnds", spec := "blockEnds", inPlace := ["internal/abi.NoEscape", "internal/bytealg.IndexByteString", "internal/bytealg.IndexString"], unfollowed := true, recurses := true, named := ["internal/bytealg.MaxLen"], plainKeys := false, apart := false }
def BlockEndsSaid : Prop := blockEndsRow.holds Tryz.pinned (OpenSpec.ofChange blockEndsSpec)

/-- ITS FALSE NEIGHBOUR: 'it returns false'. Refute it at one input. -/
def blockEndsWrong : ChangeSpec := { name := "blockEnds", fn := fun _ => fun
  | [d1, d2] => { results := [.lit (.bool false)], args := [d1, d2] }
  | _ => none }
def BlockEndsWrongFalsely : Prop := blockEndsRow.holds Tryz.pinned (OpenSpec.ofChange blockEndsWrong)

/-- 'entrepotlaw11.BlockGroups': WHATEVER THE INPUT: true; the input reads as it did. -/
def blockGroupsSpec : ChangeSpec := { name := "blockGroups", fn := fun _ => fun
  | [d] => { results := [.lit (.bool true)], args := [d] }
  | _ => none }
def blockGroupsRow : OpenClaim := { program := "ytpakjclpjcngmaagreat", sum := "668a5dee756c4cd67768c9ee6279acc088d23ab3399e56bdd30e56111400bc63", func := "entrepot/entrepotlaw11.BlockGroups", spec := "blockGroups", inPlace := ["internal/abi.NoEscape", "internal/bytealg.IndexByteString", "internal/bytealg.IndexString"], unfollowed := true, recurses := true, named := ["internal/bytealg.MaxLen"], plainKeys := false, apart := false }
def BlockGroupsSaid : Prop := blockGroupsRow.holds Tryz.pinned (OpenSpec.ofChange blockGroupsSpec)

/-- ITS FALSE NEIGHBOUR: 'it returns false'. Refute it at one input. -/
def blockGroupsWrong : ChangeSpec := { name := "blockGroups", fn := fun _ => fun
  | [d] => { results := [.lit (.bool false)], args := [d] }
  | _ => none }
def BlockGroupsWrongFalsely : Prop := blockGroupsRow.holds Tryz.pinned (OpenSpec.ofChange blockGroupsWrong)

/-- 'entrepotlaw11.BlockBack': WHATEVER THE INPUT: true; the input reads as it did. -/
def blockBackSpec : ChangeSpec := { name := "blockBack", fn := fun _ => fun
  | [d1, d2] => { results := [.lit (.bool true)], args := [d1, d2] }
  | _ => none }
def blockBackRow : OpenClaim := { program := "ytpakjclpjcngmaagreat", sum := "668a5dee756c4cd67768c9ee6279acc088d23ab3399e56bdd30e56111400bc63", func := "entrepot/entrepotlaw11.BlockBack", spec := "blockBack", inPlace := ["internal/abi.NoEscape", "internal/bytealg.IndexByteString", "internal/bytealg.IndexString"], unfollowed := true, recurses := true, named := ["internal/bytealg.MaxLen"], plainKeys := false, apart := false }
def BlockBackSaid : Prop := blockBackRow.holds Tryz.pinned (OpenSpec.ofChange blockBackSpec)

/-- ITS FALSE NEIGHBOUR: 'it returns false'. Refute it at one input. -/
def blockBackWrong : ChangeSpec := { name := "blockBack", fn := fun _ => fun
  | [d1, d2] => { results := [.lit (.bool false)], args := [d1, d2] }
  | _ => none }
def BlockBackWrongFalsely : Prop := blockBackRow.holds Tryz.pinned (OpenSpec.ofChange blockBackWrong)

/-- 'entrepotlaw11.BlockGrouped': WHATEVER THE INPUT: true; the input reads as it did. -/
def blockGroupedSpec : ChangeSpec := { name := "blockGrouped", fn := fun _ => fun
  | [d1, d2, d3] => { results := [.lit (.bool true)], args := [d1, d2, d3] }
  | _ => none }
def blockGroupedRow : OpenClaim := { program := "ytpakjclpjcngmaagreat", sum := "668a5dee756c4cd67768c9ee6279acc088d23ab3399e56bdd30e56111400bc63", func := "entrepot/entrepotlaw11.BlockGrouped", spec := "blockGrouped", inPlace := ["internal/abi.NoEscape", "internal/bytealg.IndexByteString", "internal/bytealg.IndexString"], unfollowed := true, recurses := true, named := ["internal/bytealg.MaxLen"], plainKeys := false, apart := false }
def BlockGroupedSaid : Prop := blockGroupedRow.holds Tryz.pinned (OpenSpec.ofChange blockGroupedSpec)

/-- ITS FALSE NEIGHBOUR: 'it returns false'. Refute it at one input. -/
def blockGroupedWrong : ChangeSpec := { name := "blockGrouped", fn := fun _ => fun
  | [d1, d2, d3] => { results := [.lit (.bool false)], args := [d1, d2, d3] }
  | _ => none }
def BlockGroupedWrongFalsely : Prop := blockGroupedRow.holds Tryz.pinned (OpenSpec.ofChange blockGroupedWrong)

/-- 'entrepotlaw11.BlockApart': WHATEVER THE INPUT: true; the input reads as it did. -/
def blockApartSpec : ChangeSpec := { name := "blockApart", fn := fun _ => fun
  | [d1, d2, d3, d4, d5] => { results := [.lit (.bool true)], args := [d1, d2, d3, d4, d5] }
  | _ => none }
def blockApartRow : OpenClaim := { program := "ytpakjclpjcngmaagreat", sum := "668a5dee756c4cd67768c9ee6279acc088d23ab3399e56bdd30e56111400bc63", func := "entrepot/entrepotlaw11.BlockApart", spec := "blockApart", inPlace := ["internal/abi.NoEscape", "internal/bytealg.IndexByteString", "internal/bytealg.IndexString"], unfollowed := true, recurses := true, named := ["internal/bytealg.MaxLen"], plainKeys := false, apart := false }
def BlockApartSaid : Prop := blockApartRow.holds Tryz.pinned (OpenSpec.ofChange blockApartSpec)

/-- ITS FALSE NEIGHBOUR: 'it returns false'. Refute it at one input. -/
def blockApartWrong : ChangeSpec := { name := "blockApart", fn := fun _ => fun
  | [d1, d2, d3, d4, d5] => { results := [.lit (.bool false)], args := [d1, d2, d3, d4, d5] }
  | _ => none }
def BlockApartWrongFalsely : Prop := blockApartRow.holds Tryz.pinned (OpenSpec.ofChange blockApartWrong)

/-- 'entrepotlaw12.QueryPrunes': WHATEVER THE INPUT: true; the input reads as it did. -/
def queryPrunesSpec : ChangeSpec := { name := "queryPrunes", fn := fun _ => fun
  | [d1, d2, d3] => { results := [.lit (.bool true)], args := [d1, d2, d3] }
  | _ => none }
def queryPrunesRow : OpenClaim := { program := "ytpakjclpjcngmaagreat", sum := "668a5dee756c4cd67768c9ee6279acc088d23ab3399e56bdd30e56111400bc63", func := "entrepot/entrepotlaw12.QueryPrunes", spec := "queryPrunes", inPlace := ["internal/abi.NoEscape", "internal/bytealg.IndexByteString", "internal/bytealg.IndexString"], unfollowed := true, recurses := true, named := ["internal/bytealg.MaxLen"], plainKeys := false, apart := false }
def QueryPrunesSaid : Prop := queryPrunesRow.holds Tryz.pinned (OpenSpec.ofChange queryPrunesSpec)

/-- ITS FALSE NEIGHBOUR: 'it returns false'. Refute it at one input. -/
def queryPrunesWrong : ChangeSpec := { name := "queryPrunes", fn := fun _ => fun
  | [d1, d2, d3] => { results := [.lit (.bool false)], args := [d1, d2, d3] }
  | _ => none }
def QueryPrunesWrongFalsely : Prop := queryPrunesRow.holds Tryz.pinned (OpenSpec.ofChange queryPrunesWrong)

/- THE SECOND FORM. 'bulk': how many values and letters a reading holds, each counted each time it is reached (what is shared counts as often as it is met; a slice's spare places count too). A statement '..UptoSaid' is the law's where the arguments, and the package variables that the reading takes, are together of bulk at most 1048576: NARROWER than '..Said'. Prove '..Said' where nothing that the law and all that it calls make is longer than what came in: it says more and counts as full. Else prove '..UptoSaid'. A law counts once. -/
mutual
def uptoBulk {H : Type} : DataW H → Nat
  | .lit (.string bytes) => bytes.length + 1
  | .lit _ => 1
  | .nil => 1
  | .ptr d => uptoBulk d + 1
  | .slice elems spare => uptoBulkAll elems + uptoBulkAll spare + 1
  | .agg parts => uptoBulkAll parts + 1
  | .iface _ d => uptoBulk d + 1
  | .map entries => uptoBulkEntries entries + 1
  | .held _ => 1
def uptoBulkAll {H : Type} : List (DataW H) → Nat
  | [] => 0
  | d :: r => uptoBulk d + uptoBulkAll r
def uptoBulkEntries {H : Type} : List (Lit × DataW H) → Nat
  | [] => 0
  | x :: r => uptoBulkEntry x + uptoBulkEntries r
def uptoBulkEntry {H : Type} : Lit × DataW H → Nat
  | (.string bytes, d) => bytes.length + uptoBulk d + 1
  | (_, d) => uptoBulk d + 1
 end
def uptoSmall : (H : Type) → List (DataW H) → Bool := fun _ ds => decide (uptoBulkAll ds ≤ 1048576)
def OpenSpec.upto (s : _root_.Go.ChangeSpec) : _root_.Go.OpenSpec := { _root_.Go.OpenSpec.ofChange s with cond := some uptoSmall }

/-- 'entrepotlaw11.BlockBuilds', WHERE WHAT IT READS IS OF BULK AT MOST 1048576: true; the input reads as it did. -/
def blockBuildsUptoRow : OpenClaim := { program := "ytpakjclpjcngmaagreat", sum := "668a5dee756c4cd67768c9ee6279acc088d23ab3399e56bdd30e56111400bc63", func := "entrepot/entrepotlaw11.BlockBuilds", spec := "blockBuilds", inPlace := ["internal/abi.NoEscape", "internal/bytealg.IndexByteString", "internal/bytealg.IndexString"], unfollowed := true, recurses := true, named := ["internal/bytealg.MaxLen"], plainKeys := false, apart := false, narrowed := true }
def BlockBuildsUptoSaid : Prop := blockBuildsUptoRow.holds Tryz.pinned (OpenSpec.upto blockBuildsSpec)

/-- 'entrepotlaw11.BlockReads', WHERE WHAT IT READS IS OF BULK AT MOST 1048576: true; the input reads as it did. -/
def blockReadsUptoRow : OpenClaim := { program := "ytpakjclpjcngmaagreat", sum := "668a5dee756c4cd67768c9ee6279acc088d23ab3399e56bdd30e56111400bc63", func := "entrepot/entrepotlaw11.BlockReads", spec := "blockReads", inPlace := ["internal/abi.NoEscape", "internal/bytealg.IndexByteString", "internal/bytealg.IndexString"], unfollowed := true, recurses := true, named := ["internal/bytealg.MaxLen"], plainKeys := false, apart := false, narrowed := true }
def BlockReadsUptoSaid : Prop := blockReadsUptoRow.holds Tryz.pinned (OpenSpec.upto blockReadsSpec)

/-- 'entrepotlaw11.BlockEnds', WHERE WHAT IT READS IS OF BULK AT MOST 1048576: true; the input reads as it did. -/
def blockEndsUptoRow : OpenClaim := { program := "ytpakjclpjcngmaagreat", sum := "668a5dee756c4cd67768c9ee6279acc088d23ab3399e56bdd30e56111400bc63", func := "entrepot/entrepotlaw11.BlockEnds", spec := "blockEnds", inPlace := ["internal/abi.NoEscape", "internal/bytealg.IndexByteString", "internal/bytealg.IndexString"], unfollowed := true, recurses := true, named := ["internal/bytealg.MaxLen"], plainKeys := false, apart := false, narrowed := true }
def BlockEndsUptoSaid : Prop := blockEndsUptoRow.holds Tryz.pinned (OpenSpec.upto blockEndsSpec)

/-- 'entrepotlaw11.BlockGroups', WHERE WHAT IT READS IS OF BULK AT MOST 1048576: true; the input reads as it did. -/
def blockGroupsUptoRow : OpenClaim := { program := "ytpakjclpjcngmaagreat", sum := "668a5dee756c4cd67768c9ee6279acc088d23ab3399e56bdd30e56111400bc63", func := "entrepot/entrepotlaw11.BlockGroups", spec := "blockGroups", inPlace := ["internal/abi.NoEscape", "internal/bytealg.IndexByteString", "internal/bytealg.IndexString"], unfollowed := true, recurses := true, named := ["internal/bytealg.MaxLen"], plainKeys := false, apart := false, narrowed := true }
def BlockGroupsUptoSaid : Prop := blockGroupsUptoRow.holds Tryz.pinned (OpenSpec.upto blockGroupsSpec)

/-- 'entrepotlaw11.BlockBack', WHERE WHAT IT READS IS OF BULK AT MOST 1048576: true; the input reads as it did. -/
def blockBackUptoRow : OpenClaim := { program := "ytpakjclpjcngmaagreat", sum := "668a5dee756c4cd67768c9ee6279acc088d23ab3399e56bdd30e56111400bc63", func := "entrepot/entrepotlaw11.BlockBack", spec := "blockBack", inPlace := ["internal/abi.NoEscape", "internal/bytealg.IndexByteString", "internal/bytealg.IndexString"], unfollowed := true, recurses := true, named := ["internal/bytealg.MaxLen"], plainKeys := false, apart := false, narrowed := true }
def BlockBackUptoSaid : Prop := blockBackUptoRow.holds Tryz.pinned (OpenSpec.upto blockBackSpec)

/-- 'entrepotlaw11.BlockGrouped', WHERE WHAT IT READS IS OF BULK AT MOST 1048576: true; the input reads as it did. -/
def blockGroupedUptoRow : OpenClaim := { program := "ytpakjclpjcngmaagreat", sum := "668a5dee756c4cd67768c9ee6279acc088d23ab3399e56bdd30e56111400bc63", func := "entrepot/entrepotlaw11.BlockGrouped", spec := "blockGrouped", inPlace := ["internal/abi.NoEscape", "internal/bytealg.IndexByteString", "internal/bytealg.IndexString"], unfollowed := true, recurses := true, named := ["internal/bytealg.MaxLen"], plainKeys := false, apart := false, narrowed := true }
def BlockGroupedUptoSaid : Prop := blockGroupedUptoRow.holds Tryz.pinned (OpenSpec.upto blockGroupedSpec)

/-- 'entrepotlaw11.BlockApart', WHERE WHAT IT READS IS OF BULK AT MOST 1048576: true; the input reads as it did. -/
def blockApartUptoRow : OpenClaim := { program := "ytpakjclpjcngmaagreat", sum := "668a5dee756c4cd67768c9ee6279acc088d23ab3399e56bdd30e56111400bc63", func := "entrepot/entrepotlaw11.BlockApart", spec := "blockApart", inPlace := ["internal/abi.NoEscape", "internal/bytealg.IndexByteString", "internal/bytealg.IndexString"], unfollowed := true, recurses := true, named := ["internal/bytealg.MaxLen"], plainKeys := false, apart := false, narrowed := true }
def BlockApartUptoSaid : Prop := blockApartUptoRow.holds Tryz.pinned (OpenSpec.upto blockApartSpec)

/-- 'entrepotlaw12.QueryPrunes', WHERE WHAT IT READS IS OF BULK AT MOST 1048576: true; the input reads as it did. -/
def queryPrunesUptoRow : OpenClaim := { program := "ytpakjclpjcngmaagreat", sum := "668a5dee756c4cd67768c9ee6279acc088d23ab3399e56bdd30e56111400bc63", func := "entrepot/entrepotlaw12.QueryPrunes", spec := "queryPrunes", inPlace := ["internal/abi.NoEscape", "internal/bytealg.IndexByteString", "internal/bytealg.IndexString"], unfollowed := true, recurses := true, named := ["internal/bytealg.MaxLen"], plainKeys := false, apart := false, narrowed := true }
def QueryPrunesUptoSaid : Prop := queryPrunesUptoRow.holds Tryz.pinned (OpenSpec.upto queryPrunesSpec)

end Rows
end Go.Proofs.YtpakjclpjcngmaaGreat
