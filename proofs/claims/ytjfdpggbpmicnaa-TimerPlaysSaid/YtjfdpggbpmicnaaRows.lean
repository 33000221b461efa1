/-
  No cell of these rows narrows 'for every input' (looked for: loops, veiled, ifaces, maps, wideKeys, modest, calm, conditions, laid).
  DERIVED. THE GIVEN ROWS OF THIS SEAT. 8 by the template 'for every input the law returns true; each argument reads behind the call as it read before'; 0 by the template 'total and deterministic' (their statements: YtjfdpggbpmicnaaTotals.lean).
  GIVEN WITH THE SEED: the statements are not yours to turn. If you find one false, say at which input.
  Laid BY PROGRAM, IN A SANDBOX (cutbox-rows.mjs): the forced cells as the released guide's own fill.sh prints them over the translation 64883da881d02d84… (all of the seat's roots in one cut). By AI agents, Wed Nov 11 2026. No macro, syntax, notation, axiom, sorry.
-/
import Derived.Test.YtjfdpggbpmicnaaChecked
import GoSem.Claim
import GoSem.ClaimJoined
import GoSem.ClaimMapViews
import Derived.JoinedTies
import Derived.KernelRfl
namespace Go.Proofs.Ytjfdpggbpmicnaa
/- THE CELL 'sum', in the pinned program and in every row, IS THE sha256 OF THE DUMP (.gsa) THAT YtjfdpggbpmicnaaProg.lean LOADS. Nothing in Lean hashes anything: it is a label: what it is worth is what the hold of that sum in a sandbox is worth. -/
noncomputable def Try.pinned : Pinned := { name := "ytjfdpggbpmicnaa", sum := "64883da881d02d8415581927fd02e1acfcf0018e563dfc514ff14d8c9dd52591", checked := Try.checked }
namespace Rows
def none {H : Type} : Left H := { results := [], args := [] }

/-- 'wapentakelaw15.BallotOrders': WHATEVER THE INPUT: true; the input reads as it did. -/
def ballotOrdersSpec : ChangeSpec := { name := "ballotOrders", fn := fun _ => fun
  | [d1, d2] => { results := [.lit (.bool true)], args := [d1, d2] }
  | _ => none }
def ballotOrdersRow : OpenClaim := { program := "ytjfdpggbpmicnaa", sum := "64883da881d02d8415581927fd02e1acfcf0018e563dfc514ff14d8c9dd52591", func := "wapentake/wapentakelaw15.BallotOrders", spec := "ballotOrders", apart := false }
def BallotOrdersSaid : Prop := ballotOrdersRow.holds Try.pinned (OpenSpec.ofChange ballotOrdersSpec)

/-- ITS FALSE NEIGHBOUR: 'it returns false'. Refute it at one input. -/
def ballotOrdersWrong : ChangeSpec := { name := "ballotOrders", fn := fun _ => fun
  | [d1, d2] => { results := [.lit (.bool false)], args := [d1, d2] }
  | _ => none }
def BallotOrdersWrongFalsely : Prop := ballotOrdersRow.holds Try.pinned (OpenSpec.ofChange ballotOrdersWrong)

/-- 'wapentakelaw15.BallotKnown': WHATEVER THE INPUT: true; the input reads as it did. -/
def ballotKnownSpec : ChangeSpec := { name := "ballotKnown", fn := fun _ => fun
  | [] => { results := [.lit (.bool true)], args := [] }
  | _ => none }
def ballotKnownRow : OpenClaim := { program := "ytjfdpggbpmicnaa", sum := "64883da881d02d8415581927fd02e1acfcf0018e563dfc514ff14d8c9dd52591", func := "wapentake/wapentakelaw15.BallotKnown", spec := "ballotKnown", apart := false }
def BallotKnownSaid : Prop := ballotKnownRow.holds Try.pinned (OpenSpec.ofChange ballotKnownSpec)

/-- ITS FALSE NEIGHBOUR: 'it returns false'. Refute it at one input. -/
def ballotKnownWrong : ChangeSpec := { name := "ballotKnown", fn := fun _ => fun
  | [] => { results := [.lit (.bool false)], args := [] }
  | _ => none }
def BallotKnownWrongFalsely : Prop := ballotKnownRow.holds Try.pinned (OpenSpec.ofChange ballotKnownWrong)

/-- 'wapentakelaw15.BallotMakes': WHATEVER THE INPUT: true; the input reads as it did. -/
def ballotMakesSpec : ChangeSpec := { name := "ballotMakes", fn := fun _ => fun
  | [d1, d2] => { results := [.lit (.bool true)], args := [d1, d2] }
  | _ => none }
def ballotMakesRow : OpenClaim := { program := "ytjfdpggbpmicnaa", sum := "64883da881d02d8415581927fd02e1acfcf0018e563dfc514ff14d8c9dd52591", func := "wapentake/wapentakelaw15.BallotMakes", spec := "ballotMakes", apart := false }
def BallotMakesSaid : Prop := ballotMakesRow.holds Try.pinned (OpenSpec.ofChange ballotMakesSpec)

/-- ITS FALSE NEIGHBOUR: 'it returns false'. Refute it at one input. -/
def ballotMakesWrong : ChangeSpec := { name := "ballotMakes", fn := fun _ => fun
  | [d1, d2] => { results := [.lit (.bool false)], args := [d1, d2] }
  | _ => none }
def BallotMakesWrongFalsely : Prop := ballotMakesRow.holds Try.pinned (OpenSpec.ofChange ballotMakesWrong)

/-- 'wapentakelaw15.BallotNexts': WHATEVER THE INPUT: true; the input reads as it did. -/
def ballotNextsSpec : ChangeSpec := { name := "ballotNexts", fn := fun _ => fun
  | [d1, d2, d3] => { results := [.lit (.bool true)], args := [d1, d2, d3] }
  | _ => none }
def ballotNextsRow : OpenClaim := { program := "ytjfdpggbpmicnaa", sum := "64883da881d02d8415581927fd02e1acfcf0018e563dfc514ff14d8c9dd52591", func := "wapentake/wapentakelaw15.BallotNexts", spec := "ballotNexts", apart := false }
def BallotNextsSaid : Prop := ballotNextsRow.holds Try.pinned (OpenSpec.ofChange ballotNextsSpec)

/-- ITS FALSE NEIGHBOUR: 'it returns false'. Refute it at one input. -/
def ballotNextsWrong : ChangeSpec := { name := "ballotNexts", fn := fun _ => fun
  | [d1, d2, d3] => { results := [.lit (.bool false)], args := [d1, d2, d3] }
  | _ => none }
def BallotNextsWrongFalsely : Prop := ballotNextsRow.holds Try.pinned (OpenSpec.ofChange ballotNextsWrong)

/-- 'wapentakelaw19.TimerWaits': WHATEVER THE INPUT: true; the input reads as it did. -/
def timerWaitsSpec : ChangeSpec := { name := "timerWaits", fn := fun _ => fun
  | [d1, d2, d3] => { results := [.lit (.bool true)], args := [d1, d2, d3] }
  | _ => none }
def timerWaitsRow : OpenClaim := { program := "ytjfdpggbpmicnaa", sum := "64883da881d02d8415581927fd02e1acfcf0018e563dfc514ff14d8c9dd52591", func := "wapentake/wapentakelaw19.TimerWaits", spec := "timerWaits", unfollowed := true, recurses := true, apart := false }
def TimerWaitsSaid : Prop := timerWaitsRow.holds Try.pinned (OpenSpec.ofChange timerWaitsSpec)

/-- ITS FALSE NEIGHBOUR: 'it returns false'. Refute it at one input. -/
def timerWaitsWrong : ChangeSpec := { name := "timerWaits", fn := fun _ => fun
  | [d1, d2, d3] => { results := [.lit (.bool false)], args := [d1, d2, d3] }
  | _ => none }
def TimerWaitsWrongFalsely : Prop := timerWaitsRow.holds Try.pinned (OpenSpec.ofChange timerWaitsWrong)

/-- 'wapentakelaw19.TimerTapes': WHATEVER THE INPUT: true; the input reads as it did. -/
def timerTapesSpec : ChangeSpec := { name := "timerTapes", fn := fun _ => fun
  | [d1, d2, d3] => { results := [.lit (.bool true)], args := [d1, d2, d3] }
  | _ => none }
def timerTapesRow : OpenClaim := { program := "ytjfdpggbpmicnaa", sum := "64883da881d02d8415581927fd02e1acfcf0018e563dfc514ff14d8c9dd52591", func := "wapentake/wapentakelaw19.TimerTapes", spec := "timerTapes", unfollowed := true, recurses := true, apart := false }
def TimerTapesSaid : Prop := timerTapesRow.holds Try.pinned (OpenSpec.ofChange timerTapesSpec)

/-- ITS FALSE NEIGHBOUR: 'it returns false'. Refute it at one input. -/
def timerTapesWrong : ChangeSpec := { name := "timerTapes", fn := fun _ => fun
  | [d1, d2, d3] => { results := [.lit (.bool false)], args := [d1, d2, d3] }
  | _ => none }
def TimerTapesWrongFalsely : Prop := timerTapesRow.holds Try.pinned (OpenSpec.ofChange timerTapesWrong)

/-- 'wapentakelaw19.TimerKnown': WHATEVER THE INPUT: true; the input reads as it did. -/
def timerKnownSpec : ChangeSpec := { name := "timerKnown", fn := fun _ => fun
  | [] => { results := [.lit (.bool true)], args := [] }
  | _ => none }
def timerKnownRow : OpenClaim := { program := "ytjfdpggbpmicnaa", sum := "64883da881d02d8415581927fd02e1acfcf0018e563dfc514ff14d8c9dd52591", func := "wapentake/wapentakelaw19.TimerKnown", spec := "timerKnown", unfollowed := true, recurses := true, apart := false }
def TimerKnownSaid : Prop := timerKnownRow.holds Try.pinned (OpenSpec.ofChange timerKnownSpec)

/-- ITS FALSE NEIGHBOUR: 'it returns false'. Refute it at one input. -/
def timerKnownWrong : ChangeSpec := { name := "timerKnown", fn := fun _ => fun
  | [] => { results := [.lit (.bool false)], args := [] }
  | _ => none }
def TimerKnownWrongFalsely : Prop := timerKnownRow.holds Try.pinned (OpenSpec.ofChange timerKnownWrong)

/-- 'wapentakelaw19.TimerPlays': WHATEVER THE INPUT: true; the input reads as it did. -/
def timerPlaysSpec : ChangeSpec := { name := "timerPlays", fn := fun _ => fun
  | [d1, d2, d3] => { results := [.lit (.bool true)], args := [d1, d2, d3] }
  | _ => none }
def timerPlaysRow : OpenClaim := { program := "ytjfdpggbpmicnaa", sum := "64883da881d02d8415581927fd02e1acfcf0018e563dfc514ff14d8c9dd52591", func := "wapentake/wapentakelaw19.TimerPlays", spec := "timerPlays", unfollowed := true, recurses := true, apart := false }
def TimerPlaysSaid : Prop := timerPlaysRow.holds Try.pinned (OpenSpec.ofChange timerPlaysSpec)

/-- ITS FALSE NEIGHBOUR: 'it returns false'. Refute it at one input. -/
def timerPlaysWrong : ChangeSpec := { name := "timerPlays", fn := fun _ => fun
  | [d1, d2, d3] => { results := [.lit (.bool false)], args := [d1, d2, d3] }
  | _ => none }
def TimerPlaysWrongFalsely : Prop := timerPlaysRow.holds Try.pinned (OpenSpec.ofChange timerPlaysWrong)

/- THE SECOND FORM. 'bulk': how many values and letters a reading holds, each counted each time it is reached (what is shared counts as often as it is met; a slice's spare places count too). A statement '..UptoSaid' is the law's where the arguments, and the package variables that the reading takes, are together of bulk at most 1048576: NARROWER than '..Said'. Prove '..Said' where nothing that the law and all that it calls make is longer than what came in: it says more and counts as full. Else prove '..UptoSaid'. A law counts once. -/
mutual
def uptoBulk {H : Type} : DataW H → Nat
  | .lit (.string bytes) => bytes.length + 1
  | .lit _ => 1
  | .nil => 1
  | .ptr d => uptoBulk d + 1
  | .slice elems spare => uptoBulkAll elems + uptoBulkAll spare + 1
  | .agg parts => uptoBulkAll parts + 1
  | .iface _ d => uptoBulk d + 1
  | .map entries => uptoBulkEntries entries + 1
  | .held _ => 1
def uptoBulkAll {H : Type} : List (DataW H) → Nat
  | [] => 0
  | d :: r => uptoBulk d + uptoBulkAll r
def uptoBulkEntries {H : Type} : List (Lit × DataW H) → Nat
  | [] => 0
  | x :: r => uptoBulkEntry x + uptoBulkEntries r
def uptoBulkEntry {H : Type} : Lit × DataW H → Nat
  | (.string bytes, d) => bytes.length + uptoBulk d + 1
  | (_, d) => uptoBulk d + 1
 end
def uptoSmall : (H : Type) → List (DataW H) → Bool := fun _ ds => decide (uptoBulkAll ds ≤ 1048576)
def OpenSpec.upto (s : _root_.Go.ChangeSpec) : _root_.Go.OpenSpec := { _root_.Go.OpenSpec.ofChange s with cond := some uptoSmall }

/-- 'wapentakelaw15.BallotOrders', WHERE WHAT IT READS IS OF BULK AT MOST 1048576: true; the input reads as it did. -/
def ballotOrdersUptoRow : OpenClaim := { program := "ytjfdpggbpmicnaa", sum := "64883da881d02d8415581927fd02e1acfcf0018e563dfc514ff14d8c9dd52591", func := "wapentake/wapentakelaw15.BallotOrders", spec := "ballotOrders", apart := false, narrowed := true }
def BallotOrdersUptoSaid : Prop := ballotOrdersUptoRow.holds Try.pinned (OpenSpec.upto ballotOrdersSpec)

/-- 'wapentakelaw15.BallotKnown', WHERE WHAT IT READS IS OF BULK AT MOST 1048576: true; the input reads as it did. -/
def ballotKnownUptoRow : OpenClaim := { program := "ytjfdpggbpmicnaa", sum := "64883da881d02d8415581927fd02e1acfcf0018e563dfc514ff14d8c9dd52591", func := "wapentake/wapentakelaw15.BallotKnown", spec := "ballotKnown", apart := false, narrowed := true }
def BallotKnownUptoSaid : Prop := ballotKnownUptoRow.holds Try.pinned (OpenSpec.upto ballotKnownSpec)

/-- 'wapentakelaw15.BallotMakes', WHERE WHAT IT READS IS OF BULK AT MOST 1048576: true; the input reads as it did. -/
def ballotMakesUptoRow : OpenClaim := { program := "ytjfdpggbpmicnaa", sum := "64883da881d02d8415581927fd02e1acfcf0018e563dfc514ff14d8c9dd52591", func := "wapentake/wapentakelaw15.BallotMakes", spec := "ballotMakes", apart := false, narrowed := true }
def BallotMakesUptoSaid : Prop := ballotMakesUptoRow.holds Try.pinned (OpenSpec.upto ballotMakesSpec)

/-- 'wapentakelaw15.BallotNexts', WHERE WHAT IT READS IS OF BULK AT MOST 1048576: true; the input reads as it did. -/
def ballotNextsUptoRow : OpenClaim := { program := "ytjfdpggbpmicnaa", sum := "64883da881d02d8415581927fd02e1acfcf0018e563dfc514ff14d8c9dd52591", func := "wapentake/wapentakelaw15.BallotNexts", spec := "ballotNexts", apart := false, narrowed := true }
def BallotNextsUptoSaid : Prop := ballotNextsUptoRow.holds Try.pinned (OpenSpec.upto ballotNextsSpec)

/-- 'wapentakelaw19.TimerWaits', WHERE WHAT IT READS IS OF BULK AT MOST 1048576: true; the input reads as it did. -/
def timerWaitsUptoRow : OpenClaim := { program := "ytjfdpggbpmicnaa", sum := "64883da881d02d8415581927fd02e1acfcf0018e563dfc514ff14d8c9dd52591", func := "wapentake/wapentakelaw19.TimerWaits", spec := "timerWaits", unfollowed := true, recurses := true, apart := false, narrowed := true }
def TimerWaitsUptoSaid : Prop := timerWaitsUptoRow.holds Try.pinned (OpenSpec.upto timerWaitsSpec)

/-- 'wapentakelaw19.TimerTapes', WHERE WHAT IT READS IS OF BULK AT MOST 1048576: true; the input reads as it did. -/
def timerTapesUptoRow : OpenClaim := { program := "ytjfdpggbpmicnaa", sum := "64883da881d02d8415581927fd02e1acfcf0018e563dfc514ff14d8c9dd52591", func := "wapentake/wapentakelaw19.TimerTapes", spec := "timerTapes", unfollowed := true, recurses := true, apart := false, narrowed := true }
def TimerTapesUptoSaid : Prop := timerTapesUptoRow.holds Try.pinned (OpenSpec.upto timerTapesSpec)

/-- 'wapentakelaw19.TimerKnown', WHERE WHAT IT READS IS OF BULK AT MOST 1048576: true; the input reads as it did. -/
def timerKnownUptoRow : OpenClaim := { program := "ytjfdpggbpmicnaa", sum := "64883da881d02d8415581927fd02e1acfcf0018e563dfc514ff14d8c9dd52591", func := "wapentake/wapentakelaw19.TimerKnown", spec := "timerKnown", unfollowed := true, recurses := true, apart := false, narrowed := true }
def TimerKnownUptoSaid : Prop := timerKnownUptoRow.holds Try.pinned (OpenSpec.upto timerKnownSpec)

/-- 'wapentakelaw19.TimerPlays', WHERE WHAT IT READS IS OF BULK AT MOST 1048576: true; the input reads as it did. -/
def timerPlaysUptoRow : OpenClaim := { program := "ytjfdpggbpmicnaa", sum := "64883da881d02d8415581927fd02e1acfcf0018e563dfc514ff14d8c9dd52591", func := "wapentake/wapentakelaw19.TimerPlays", spec := "timerPlays", unfollowed := true, recurses := true, apart := false, narrowed := true }
def TimerPlaysUptoSaid : Prop := timerPlaysUptoRow.holds Try.pinned (OpenSpec.upto timerPlaysSpec)

end Rows
end Go.Proofs.Ytjfdpggbpmicnaa
