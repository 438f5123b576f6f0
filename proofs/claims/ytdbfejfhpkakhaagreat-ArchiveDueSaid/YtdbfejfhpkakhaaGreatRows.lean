/-
  No cell of these rows narrows 'for every input' (looked for: loops, veiled, ifaces, maps, wideKeys, modest, calm, conditions, laid).
  DERIVED. THE GIVEN ROWS OF THIS SEAT. 3 by the template 'for every input the law returns true; each argument reads behind the call as it read before'; 0 by the template 'total and deterministic' (their statements: YtdbfejfhpkakhaaGreatTotals.lean).
  GIVEN WITH THE SEED: the statements are not yours to turn. If you find one false, say at which input.
  Laid BY PROGRAM, IN A SANDBOX (cutbox-rows.mjs): the forced cells as the released guide's own fill.sh prints them over the translation 6c8c9cf517ca174f… (all of the seat's roots in one cut). By AI agents, Wed Nov 11 2026. No macro, syntax, notation, axiom, sorry.
-/
import Derived.Test.YtdbfejfhpkakhaaGreatChecked
import GoSem.Claim
import GoSem.ClaimJoined
import GoSem.ClaimMapViews
import Derived.JoinedTies
import Derived.KernelRfl
namespace Go.Proofs.YtdbfejfhpkakhaaGreat
/- THE CELL 'sum', in the pinned program and in every row, IS THE sha256 OF THE DUMP (.gsa) THAT YtdbfejfhpkakhaaGreatProg.lean LOADS. Nothing in Lean hashes anything: it is a label: what it is worth is what the hold of that sum in a sandbox is worth. -/
noncomputable def Tryz.pinned : Pinned := { name := "ytdbfejfhpkakhaagreat", sum := "6c8c9cf517ca174f8212fb207f46bc83dbc2ad0503a8d3b7b7698324d9045b2b", checked := Tryz.checked }
namespace Rows
def none {H : Type} : Left H := { results := [], args := [] }

/-- 'entrepotlaw19.ArchiveFits': WHATEVER THE INPUT: true; the input reads as it did. -/
def archiveFitsSpec : ChangeSpec := { name := "archiveFits", fn := fun _ => fun
  | [d1, d2, d3] => { results := [.lit (.bool true)], args := [d1, d2, d3] }
  | _ => none }
def archiveFitsRow : OpenClaim := { program := "ytdbfejfhpkakhaagreat", sum := "6c8c9cf517ca174f8212fb207f46bc83dbc2ad0503a8d3b7b7698324d9045b2b", func := "entrepot/entrepotlaw19.ArchiveFits", spec := "archiveFits", inPlace := ["internal/abi.NoEscape", "internal/bytealg.IndexByteString", "internal/bytealg.IndexString"], unfollowed := true, recurses := true, named := ["internal/bytealg.MaxLen"], plainKeys := false, apart := false }
def ArchiveFitsSaid : Prop := archiveFitsRow.holds Tryz.pinned (OpenSpec.ofChange archiveFitsSpec)

/-- ITS FALSE NEIGHBOUR: 'it returns false'. Refute it at one input. -/
def archiveFitsWrong : ChangeSpec := { name := "archiveFits", fn := fun _ => fun
  | [d1, d2, d3] => { results := [.lit (.bool false)], args := [d1, d2, d3] }
  | _ => none }
def ArchiveFitsWrongFalsely : Prop := archiveFitsRow.holds Tryz.pinned (OpenSpec.ofChange archiveFitsWrong)

/-- 'entrepotlaw19.ArchiveRoom': WHATEVER THE INPUT: true; the input reads as it did. -/
def archiveRoomSpec : ChangeSpec := { name := "archiveRoom", fn := fun _ => fun
  | [d1, d2] => { results := [.lit (.bool true)], args := [d1, d2] }
  | _ => none }
def archiveRoomRow : OpenClaim := { program := "ytdbfejfhpkakhaagreat", sum := "6c8c9cf517ca174f8212fb207f46bc83dbc2ad0503a8d3b7b7698324d9045b2b", func := "entrepot/entrepotlaw19.ArchiveRoom", spec := "archiveRoom", inPlace := ["internal/abi.NoEscape", "internal/bytealg.IndexByteString", "internal/bytealg.IndexString"], unfollowed := true, recurses := true, named := ["internal/bytealg.MaxLen"], plainKeys := false, apart := false }
def ArchiveRoomSaid : Prop := archiveRoomRow.holds Tryz.pinned (OpenSpec.ofChange archiveRoomSpec)

/-- ITS FALSE NEIGHBOUR: 'it returns false'. Refute it at one input. -/
def archiveRoomWrong : ChangeSpec := { name := "archiveRoom", fn := fun _ => fun
  | [d1, d2] => { results := [.lit (.bool false)], args := [d1, d2] }
  | _ => none }
def ArchiveRoomWrongFalsely : Prop := archiveRoomRow.holds Tryz.pinned (OpenSpec.ofChange archiveRoomWrong)

/-- 'entrepotlaw19.ArchiveDue': WHATEVER THE INPUT: true; the input reads as it did. -/
def archiveDueSpec : ChangeSpec := { name := "archiveDue", fn := fun _ => fun
  | [d1, d2, d3] => { results := [.lit (.bool true)], args := [d1, d2, d3] }
  | _ => none }
def archiveDueRow : OpenClaim := { program := "ytdbfejfhpkakhaagreat", sum := "6c8c9cf517ca174f8212fb207f46bc83dbc2ad0503a8d3b7b7698324d9045b2b", func := "entrepot/entrepotlaw19.ArchiveDue", spec := "archiveDue", inPlace := ["internal/abi.NoEscape", "internal/bytealg.IndexByteString", "internal/bytealg.IndexString"], unfollowed := true, recurses := true, named := ["internal/bytealg.MaxLen"], plainKeys := false, apart := false }
def ArchiveDueSaid : Prop := archiveDueRow.holds Tryz.pinned (OpenSpec.ofChange archiveDueSpec)

/-- ITS FALSE NEIGHBOUR: 'it returns false'. Refute it at one input. -/
def archiveDueWrong : ChangeSpec := { name := "archiveDue", fn := fun _ => fun
  | [d1, d2, d3] => { results := [.lit (.bool false)], args := [d1, d2, d3] }
  | _ => none }
def ArchiveDueWrongFalsely : Prop := archiveDueRow.holds Tryz.pinned (OpenSpec.ofChange archiveDueWrong)

/- THE SECOND FORM. 'bulk': how many values and letters a reading holds, each counted each time it is reached (what is shared counts as often as it is met; a slice's spare places count too). A statement '..UptoSaid' is the law's where the arguments, and the package variables that the reading takes, are together of bulk at most 1048576: NARROWER than '..Said'. Prove '..Said' where nothing that the law and all that it calls make is longer than what came in: it says more and counts as full. Else prove '..UptoSaid'. A law counts once. -/
mutual
def uptoBulk {H : Type} : DataW H → Nat
  | .lit (.string bytes) => bytes.length + 1
  | .lit _ => 1
  | .nil => 1
  | .ptr d => uptoBulk d + 1
  | .slice elems spare => uptoBulkAll elems + uptoBulkAll spare + 1
  | .agg parts => uptoBulkAll parts + 1
  | .iface _ d => uptoBulk d + 1
  | .map entries => uptoBulkEntries entries + 1
  | .held _ => 1
def uptoBulkAll {H : Type} : List (DataW H) → Nat
  | [] => 0
  | d :: r => uptoBulk d + uptoBulkAll r
def uptoBulkEntries {H : Type} : List (Lit × DataW H) → Nat
  | [] => 0
  | x :: r => uptoBulkEntry x + uptoBulkEntries r
def uptoBulkEntry {H : Type} : Lit × DataW H → Nat
  | (.string bytes, d) => bytes.length + uptoBulk d + 1
  | (_, d) => uptoBulk d + 1
 end
def uptoSmall : (H : Type) → List (DataW H) → Bool := fun _ ds => decide (uptoBulkAll ds ≤ 1048576)
def OpenSpec.upto (s : _root_.Go.ChangeSpec) : _root_.Go.OpenSpec := { _root_.Go.OpenSpec.ofChange s with cond := some uptoSmall }

/-- 'entrepotlaw19.ArchiveFits', WHERE WHAT IT READS IS OF BULK AT MOST 1048576: true; the input reads as it did. -/
def archiveFitsUptoRow : OpenClaim := { program := "ytdbfejfhpkakhaagreat", sum := "6c8c9cf517ca174f8212fb207f46bc83dbc2ad0503a8d3b7b7698324d9045b2b", func := "entrepot/entrepotlaw19.ArchiveFits", spec := "archiveFits", inPlace := ["internal/abi.NoEscape", "internal/bytealg.IndexByteString", "internal/bytealg.IndexString"], unfollowed := true, recurses := true, named := ["internal/bytealg.MaxLen"], plainKeys := false, apart := false, narrowed := true }
def ArchiveFitsUptoSaid : Prop := archiveFitsUptoRow.holds Tryz.pinned (OpenSpec.upto archiveFitsSpec)

/-- 'entrepotlaw19.ArchiveRoom', WHERE WHAT IT READS IS OF BULK AT MOST 1048576: true; the input reads as it did. -/
def archiveRoomUptoRow : OpenClaim := { program := "ytdbfejfhpkakhaagreat", sum := "6c8c9cf517ca174f8212fb207f46bc83dbc2ad0503a8d3b7b7698324d9045b2b", func := "entrepot/entrepotlaw19.ArchiveRoom", spec := "archiveRoom", inPlace := ["internal/abi.NoEscape", "internal/bytealg.IndexByteString", "internal/bytealg.IndexString"], unfollowed := true, recurses := true, named := ["internal/bytealg.MaxLen"], plainKeys := false, apart := false, narrowed := true }
def ArchiveRoomUptoSaid : Prop := archiveRoomUptoRow.holds Tryz.pinned (OpenSpec.upto archiveRoomSpec)

/-- 'entrepotlaw19.ArchiveDue', WHERE WHAT IT READS IS OF BULK AT MOST 1048576: true; the input reads as it did. -/
def archiveDueUptoRow : OpenClaim := { program := "ytdbfejfhpkakhaagreat", sum := "6c8c9cf517ca174f8212fb207f46bc83dbc2ad0503a8d3b7b7698324d9045b2b", func := "entrepot/entrepotlaw19.ArchiveDue", spec := "archiveDue", inPlace := ["internal/abi.NoEscape", "internal/bytealg.IndexByteString", "internal/bytealg.IndexString"], unfollowed := true, recurses := true, named := ["internal/bytealg.MaxLen"], plainKeys := false, apart := false, narrowed := true }
def ArchiveDueUptoSaid : Prop := archiveDueUptoRow.holds Tryz.pinned (OpenSpec.upto archiveDueSpec)

end Rows
end Go.Proofs.YtdbfejfhpkakhaaGreat
