/-
  No cell of these rows narrows 'for every input' (looked for: loops, veiled, ifaces, maps, wideKeys, modest, calm, conditions, laid).
  DERIVED. THE GIVEN ROWS OF THIS SEAT. 9 by the template 'for every input the law returns true; each argument reads behind the call as it read before'; 0 by the template 'total and deterministic' (their statements: YtpnlcogbahjnoaaTotals.lean).
  GIVEN WITH THE SEED: the statements are not yours to turn. If you find one false, say at which input.
  Laid BY PROGRAM, IN A SANDBOX (cutbox-rows.mjs): the forced cells as the released guide's own fill.sh prints them over the translation a824787ac90b3a55… (all of the seat's roots in one cut). By AI agents, Wed Nov 11 2026. No macro, syntax, notation, axiom, sorry.
-/
import Derived.Test.YtpnlcogbahjnoaaChecked
import GoSem.Claim
import GoSem.ClaimJoined
import GoSem.ClaimMapViews
import Derived.JoinedTies
import Derived.KernelRfl
namespace Go.Proofs.Ytpnlcogbahjnoaa
/- THE CELL 'sum', in the pinned program and in every row, IS THE sha256 OF THE DUMP (.gsa) THAT YtpnlcogbahjnoaaProg.lean LOADS. Nothing in Lean hashes anything: it is a label: what it is worth is what the hold of that sum in a sandbox is worth. -/
noncomputable def Try.pinned : Pinned := { name := "ytpnlcogbahjnoaa", sum := "a824787ac90b3a5540abe8a28a4395e0685cc7eefc9e986360f10d5ee70da366", checked := Try.checked }
namespace Rows
def none {H : Type} : Left H := { results := [], args := [] }

/-- 'wapentakelaw13.RecordScans': WHATEVER THE INPUT: true; the input reads as it did. -/
def recordScansSpec : ChangeSpec := { name := "recordScans", fn := fun _ => fun
  | [d1, d2] => { results := [.lit (.bool true)], args := [d1, d2] }
  | _ => none }
def recordScansRow : OpenClaim := { program := "ytpnlcogbahjnoaa", sum := "a824787ac90b3a5540abe8a28a4395e0685cc7eefc9e986360f10d5ee70da366", func := "wapentake/wapentakelaw13.RecordScans", spec := "recordScans", unfollowed := true, recurses := true, apart := false }
def RecordScansSaid : Prop := recordScansRow.holds Try.pinned (OpenSpec.ofChange recordScansSpec)

/-- ITS FALSE NEIGHBOUR: 'it returns false'. Refute it at one input. -/
def recordScansWrong : ChangeSpec := { name := "recordScans", fn := fun _ => fun
  | [d1, d2] => { results := [.lit (.bool false)], args := [d1, d2] }
  | _ => none }
def RecordScansWrongFalsely : Prop := recordScansRow.holds Try.pinned (OpenSpec.ofChange recordScansWrong)

/-- 'wapentakelaw13.RecordKnown': WHATEVER THE INPUT: true; the input reads as it did. -/
def recordKnownSpec : ChangeSpec := { name := "recordKnown", fn := fun _ => fun
  | [] => { results := [.lit (.bool true)], args := [] }
  | _ => none }
def recordKnownRow : OpenClaim := { program := "ytpnlcogbahjnoaa", sum := "a824787ac90b3a5540abe8a28a4395e0685cc7eefc9e986360f10d5ee70da366", func := "wapentake/wapentakelaw13.RecordKnown", spec := "recordKnown", unfollowed := true, recurses := true, apart := false }
def RecordKnownSaid : Prop := recordKnownRow.holds Try.pinned (OpenSpec.ofChange recordKnownSpec)

/-- ITS FALSE NEIGHBOUR: 'it returns false'. Refute it at one input. -/
def recordKnownWrong : ChangeSpec := { name := "recordKnown", fn := fun _ => fun
  | [] => { results := [.lit (.bool false)], args := [] }
  | _ => none }
def RecordKnownWrongFalsely : Prop := recordKnownRow.holds Try.pinned (OpenSpec.ofChange recordKnownWrong)

/-- 'wapentakelaw13.RecordSpoilt': WHATEVER THE INPUT: true; the input reads as it did. -/
def recordSpoiltSpec : ChangeSpec := { name := "recordSpoilt", fn := fun _ => fun
  | [d1, d2] => { results := [.lit (.bool true)], args := [d1, d2] }
  | _ => none }
def recordSpoiltRow : OpenClaim := { program := "ytpnlcogbahjnoaa", sum := "a824787ac90b3a5540abe8a28a4395e0685cc7eefc9e986360f10d5ee70da366", func := "wapentake/wapentakelaw13.RecordSpoilt", spec := "recordSpoilt", unfollowed := true, recurses := true, apart := false }
def RecordSpoiltSaid : Prop := recordSpoiltRow.holds Try.pinned (OpenSpec.ofChange recordSpoiltSpec)

/-- ITS FALSE NEIGHBOUR: 'it returns false'. Refute it at one input. -/
def recordSpoiltWrong : ChangeSpec := { name := "recordSpoilt", fn := fun _ => fun
  | [d1, d2] => { results := [.lit (.bool false)], args := [d1, d2] }
  | _ => none }
def RecordSpoiltWrongFalsely : Prop := recordSpoiltRow.holds Try.pinned (OpenSpec.ofChange recordSpoiltWrong)

/-- 'wapentakelaw12.FileLasts': WHATEVER THE INPUT: true; the input reads as it did. -/
def fileLastsSpec : ChangeSpec := { name := "fileLasts", fn := fun _ => fun
  | [d1, d2, d3] => { results := [.lit (.bool true)], args := [d1, d2, d3] }
  | _ => none }
def fileLastsRow : OpenClaim := { program := "ytpnlcogbahjnoaa", sum := "a824787ac90b3a5540abe8a28a4395e0685cc7eefc9e986360f10d5ee70da366", func := "wapentake/wapentakelaw12.FileLasts", spec := "fileLasts", unfollowed := true, recurses := true, apart := false }
def FileLastsSaid : Prop := fileLastsRow.holds Try.pinned (OpenSpec.ofChange fileLastsSpec)

/-- ITS FALSE NEIGHBOUR: 'it returns false'. Refute it at one input. -/
def fileLastsWrong : ChangeSpec := { name := "fileLasts", fn := fun _ => fun
  | [d1, d2, d3] => { results := [.lit (.bool false)], args := [d1, d2, d3] }
  | _ => none }
def FileLastsWrongFalsely : Prop := fileLastsRow.holds Try.pinned (OpenSpec.ofChange fileLastsWrong)

/-- 'wapentakelaw12.FileRenames': WHATEVER THE INPUT: true; the input reads as it did. -/
def fileRenamesSpec : ChangeSpec := { name := "fileRenames", fn := fun _ => fun
  | [d1, d2, d3] => { results := [.lit (.bool true)], args := [d1, d2, d3] }
  | _ => none }
def fileRenamesRow : OpenClaim := { program := "ytpnlcogbahjnoaa", sum := "a824787ac90b3a5540abe8a28a4395e0685cc7eefc9e986360f10d5ee70da366", func := "wapentake/wapentakelaw12.FileRenames", spec := "fileRenames", unfollowed := true, recurses := true, apart := false }
def FileRenamesSaid : Prop := fileRenamesRow.holds Try.pinned (OpenSpec.ofChange fileRenamesSpec)

/-- ITS FALSE NEIGHBOUR: 'it returns false'. Refute it at one input. -/
def fileRenamesWrong : ChangeSpec := { name := "fileRenames", fn := fun _ => fun
  | [d1, d2, d3] => { results := [.lit (.bool false)], args := [d1, d2, d3] }
  | _ => none }
def FileRenamesWrongFalsely : Prop := fileRenamesRow.holds Try.pinned (OpenSpec.ofChange fileRenamesWrong)

/-- 'wapentakelaw12.FileKnown': WHATEVER THE INPUT: true; the input reads as it did. -/
def fileKnownSpec : ChangeSpec := { name := "fileKnown", fn := fun _ => fun
  | [] => { results := [.lit (.bool true)], args := [] }
  | _ => none }
def fileKnownRow : OpenClaim := { program := "ytpnlcogbahjnoaa", sum := "a824787ac90b3a5540abe8a28a4395e0685cc7eefc9e986360f10d5ee70da366", func := "wapentake/wapentakelaw12.FileKnown", spec := "fileKnown", unfollowed := true, recurses := true, apart := false }
def FileKnownSaid : Prop := fileKnownRow.holds Try.pinned (OpenSpec.ofChange fileKnownSpec)

/-- ITS FALSE NEIGHBOUR: 'it returns false'. Refute it at one input. -/
def fileKnownWrong : ChangeSpec := { name := "fileKnown", fn := fun _ => fun
  | [] => { results := [.lit (.bool false)], args := [] }
  | _ => none }
def FileKnownWrongFalsely : Prop := fileKnownRow.holds Try.pinned (OpenSpec.ofChange fileKnownWrong)

/-- 'wapentakelaw12.FileFuse': WHATEVER THE INPUT: true; the input reads as it did. -/
def fileFuseSpec : ChangeSpec := { name := "fileFuse", fn := fun _ => fun
  | [d1, d2] => { results := [.lit (.bool true)], args := [d1, d2] }
  | _ => none }
def fileFuseRow : OpenClaim := { program := "ytpnlcogbahjnoaa", sum := "a824787ac90b3a5540abe8a28a4395e0685cc7eefc9e986360f10d5ee70da366", func := "wapentake/wapentakelaw12.FileFuse", spec := "fileFuse", unfollowed := true, recurses := true, apart := false }
def FileFuseSaid : Prop := fileFuseRow.holds Try.pinned (OpenSpec.ofChange fileFuseSpec)

/-- ITS FALSE NEIGHBOUR: 'it returns false'. Refute it at one input. -/
def fileFuseWrong : ChangeSpec := { name := "fileFuse", fn := fun _ => fun
  | [d1, d2] => { results := [.lit (.bool false)], args := [d1, d2] }
  | _ => none }
def FileFuseWrongFalsely : Prop := fileFuseRow.holds Try.pinned (OpenSpec.ofChange fileFuseWrong)

/-- 'wapentakelaw13.RecordCuts': WHATEVER THE INPUT: true; the input reads as it did. -/
def recordCutsSpec : ChangeSpec := { name := "recordCuts", fn := fun _ => fun
  | [d1, d2, d3] => { results := [.lit (.bool true)], args := [d1, d2, d3] }
  | _ => none }
def recordCutsRow : OpenClaim := { program := "ytpnlcogbahjnoaa", sum := "a824787ac90b3a5540abe8a28a4395e0685cc7eefc9e986360f10d5ee70da366", func := "wapentake/wapentakelaw13.RecordCuts", spec := "recordCuts", unfollowed := true, recurses := true, apart := false }
def RecordCutsSaid : Prop := recordCutsRow.holds Try.pinned (OpenSpec.ofChange recordCutsSpec)

/-- ITS FALSE NEIGHBOUR: 'it returns false'. Refute it at one input. -/
def recordCutsWrong : ChangeSpec := { name := "recordCuts", fn := fun _ => fun
  | [d1, d2, d3] => { results := [.lit (.bool false)], args := [d1, d2, d3] }
  | _ => none }
def RecordCutsWrongFalsely : Prop := recordCutsRow.holds Try.pinned (OpenSpec.ofChange recordCutsWrong)

/-- 'wapentakelaw13.RecordWhole': WHATEVER THE INPUT: true; the input reads as it did. -/
def recordWholeSpec : ChangeSpec := { name := "recordWhole", fn := fun _ => fun
  | [d1, d2, d3] => { results := [.lit (.bool true)], args := [d1, d2, d3] }
  | _ => none }
def recordWholeRow : OpenClaim := { program := "ytpnlcogbahjnoaa", sum := "a824787ac90b3a5540abe8a28a4395e0685cc7eefc9e986360f10d5ee70da366", func := "wapentake/wapentakelaw13.RecordWhole", spec := "recordWhole", unfollowed := true, recurses := true, apart := false }
def RecordWholeSaid : Prop := recordWholeRow.holds Try.pinned (OpenSpec.ofChange recordWholeSpec)

/-- ITS FALSE NEIGHBOUR: 'it returns false'. Refute it at one input. -/
def recordWholeWrong : ChangeSpec := { name := "recordWhole", fn := fun _ => fun
  | [d1, d2, d3] => { results := [.lit (.bool false)], args := [d1, d2, d3] }
  | _ => none }
def RecordWholeWrongFalsely : Prop := recordWholeRow.holds Try.pinned (OpenSpec.ofChange recordWholeWrong)

/- THE SECOND FORM. 'bulk': how many values and letters a reading holds, each counted each time it is reached (what is shared counts as often as it is met; a slice's spare places count too). A statement '..UptoSaid' is the law's where the arguments, and the package variables that the reading takes, are together of bulk at most 1048576: NARROWER than '..Said'. Prove '..Said' where nothing that the law and all that it calls make is longer than what came in: it says more and counts as full. Else prove '..UptoSaid'. A law counts once. -/
mutual
def uptoBulk {H : Type} : DataW H → Nat
  | .lit (.string bytes) => bytes.length + 1
  | .lit _ => 1
  | .nil => 1
  | .ptr d => uptoBulk d + 1
  | .slice elems spare => uptoBulkAll elems + uptoBulkAll spare + 1
  | .agg parts => uptoBulkAll parts + 1
  | .iface _ d => uptoBulk d + 1
  | .map entries => uptoBulkEntries entries + 1
  | .held _ => 1
def uptoBulkAll {H : Type} : List (DataW H) → Nat
  | [] => 0
  | d :: r => uptoBulk d + uptoBulkAll r
def uptoBulkEntries {H : Type} : List (Lit × DataW H) → Nat
  | [] => 0
  | x :: r => uptoBulkEntry x + uptoBulkEntries r
def uptoBulkEntry {H : Type} : Lit × DataW H → Nat
  | (.string bytes, d) => bytes.length + uptoBulk d + 1
  | (_, d) => uptoBulk d + 1
 end
def uptoSmall : (H : Type) → List (DataW H) → Bool := fun _ ds => decide (uptoBulkAll ds ≤ 1048576)
def OpenSpec.upto (s : _root_.Go.ChangeSpec) : _root_.Go.OpenSpec := { _root_.Go.OpenSpec.ofChange s with cond := some uptoSmall }

/-- 'wapentakelaw13.RecordScans', WHERE WHAT IT READS IS OF BULK AT MOST 1048576: true; the input reads as it did. -/
def recordScansUptoRow : OpenClaim := { program := "ytpnlcogbahjnoaa", sum := "a824787ac90b3a5540abe8a28a4395e0685cc7eefc9e986360f10d5ee70da366", func := "wapentake/wapentakelaw13.RecordScans", spec := "recordScans", unfollowed := true, recurses := true, apart := false, narrowed := true }
def RecordScansUptoSaid : Prop := recordScansUptoRow.holds Try.pinned (OpenSpec.upto recordScansSpec)

/-- 'wapentakelaw13.RecordKnown', WHERE WHAT IT READS IS OF BULK AT MOST 1048576: true; the input reads as it did. -/
def recordKnownUptoRow : OpenClaim := { program := "ytpnlcogbahjnoaa", sum := "a824787ac90b3a5540abe8a28a4395e0685cc7eefc9e986360f10d5ee70da366", func := "wapentake/wapentakelaw13.RecordKnown", spec := "recordKnown", unfollowed := true, recurses := true, apart := false, narrowed := true }
def RecordKnownUptoSaid : Prop := recordKnownUptoRow.holds Try.pinned (OpenSpec.upto recordKnownSpec)

/-- 'wapentakelaw13.RecordSpoilt', WHERE WHAT IT READS IS OF BULK AT MOST 1048576: true; the input reads as it did. -/
def recordSpoiltUptoRow : OpenClaim := { program := "ytpnlcogbahjnoaa", sum := "a824787ac90b3a5540abe8a28a4395e0685cc7eefc9e986360f10d5ee70da366", func := "wapentake/wapentakelaw13.RecordSpoilt", spec := "recordSpoilt", unfollowed := true, recurses := true, apart := false, narrowed := true }
def RecordSpoiltUptoSaid : Prop := recordSpoiltUptoRow.holds Try.pinned (OpenSpec.upto recordSpoiltSpec)

/-- 'wapentakelaw12.FileLasts', WHERE WHAT IT READS IS OF BULK AT MOST 1048576: true; the input reads as it did. -/
def fileLastsUptoRow : OpenClaim := { program := "ytpnlcogbahjnoaa", sum := "a824787ac90b3a5540abe8a28a4395e0685cc7eefc9e986360f10d5ee70da366", func := "wapentake/wapentakelaw12.FileLasts", spec := "fileLasts", unfollowed := true, recurses := true, apart := false, narrowed := true }
def FileLastsUptoSaid : Prop := fileLastsUptoRow.holds Try.pinned (OpenSpec.upto fileLastsSpec)

/-- 'wapentakelaw12.FileRenames', WHERE WHAT IT READS IS OF BULK AT MOST 1048576: true; the input reads as it did. -/
def fileRenamesUptoRow : OpenClaim := { program := "ytpnlcogbahjnoaa", sum := "a824787ac90b3a5540abe8a28a4395e0685cc7eefc9e986360f10d5ee70da366", func := "wapentake/wapentakelaw12.FileRenames", spec := "fileRenames", unfollowed := true, recurses := true, apart := false, narrowed := true }
def FileRenamesUptoSaid : Prop := fileRenamesUptoRow.holds Try.pinned (OpenSpec.upto fileRenamesSpec)

/-- 'wapentakelaw12.FileKnown', WHERE WHAT IT READS IS OF BULK AT MOST 1048576: true; the input reads as it did. -/
def fileKnownUptoRow : OpenClaim := { program := "ytpnlcogbahjnoaa", sum := "a824787ac90b3a5540abe8a28a4395e0685cc7eefc9e986360f10d5ee70da366", func := "wapentake/wapentakelaw12.FileKnown", spec := "fileKnown", unfollowed := true, recurses := true, apart := false, narrowed := true }
def FileKnownUptoSaid : Prop := fileKnownUptoRow.holds Try.pinned (OpenSpec.upto fileKnownSpec)

/-- 'wapentakelaw12.FileFuse', WHERE WHAT IT READS IS OF BULK AT MOST 1048576: true; the input reads as it did. -/
def fileFuseUptoRow : OpenClaim := { program := "ytpnlcogbahjnoaa", sum := "a824787ac90b3a5540abe8a28a4395e0685cc7eefc9e986360f10d5ee70da366", func := "wapentake/wapentakelaw12.FileFuse", spec := "fileFuse", unfollowed := true, recurses := true, apart := false, narrowed := true }
def FileFuseUptoSaid : Prop := fileFuseUptoRow.holds Try.pinned (OpenSpec.upto fileFuseSpec)

/-- 'wapentakelaw13.RecordCuts', WHERE WHAT IT READS IS OF BULK AT MOST 1048576: true; the input reads as it did. -/
def recordCutsUptoRow : OpenClaim := { program := "ytpnlcogbahjnoaa", sum := "a824787ac90b3a5540abe8a28a4395e0685cc7eefc9e986360f10d5ee70da366", func := "wapentake/wapentakelaw13.RecordCuts", spec := "recordCuts", unfollowed := true, recurses := true, apart := false, narrowed := true }
def RecordCutsUptoSaid : Prop := recordCutsUptoRow.holds Try.pinned (OpenSpec.upto recordCutsSpec)

/-- 'wapentakelaw13.RecordWhole', WHERE WHAT IT READS IS OF BULK AT MOST 1048576: true; the input reads as it did. -/
def recordWholeUptoRow : OpenClaim := { program := "ytpnlcogbahjnoaa", sum := "a824787ac90b3a5540abe8a28a4395e0685cc7eefc9e986360f10d5ee70da366", func := "wapentake/wapentakelaw13.RecordWhole", spec := "recordWhole", unfollowed := true, recurses := true, apart := false, narrowed := true }
def RecordWholeUptoSaid : Prop := recordWholeUptoRow.holds Try.pinned (OpenSpec.upto recordWholeSpec)

end Rows
end Go.Proofs.Ytpnlcogbahjnoaa
