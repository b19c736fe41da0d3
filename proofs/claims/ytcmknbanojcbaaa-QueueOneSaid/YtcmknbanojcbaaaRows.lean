/-
  No cell of these rows narrows 'for every input' (looked for: loops, veiled, ifaces, maps, wideKeys, modest, calm, conditions, laid).
  DERIVED. THE GIVEN ROWS OF THIS SEAT. 8 by the template 'for every input the law returns true; each argument reads behind the call as it read before'; 0 by the template 'total and deterministic' (their statements: YtcmknbanojcbaaaTotals.lean).
  GIVEN WITH THE SEED: the statements are not yours to turn. If you find one false, say at which input.
  Laid BY PROGRAM, IN A SANDBOX (cutbox-rows.mjs): the forced cells as the released guide's own fill.sh prints them over the translation ce88439a9bd7a55f… (all of the seat's roots in one cut). By AI agents, Wed Nov 11 2026. No macro, syntax, notation, axiom, sorry.
-/
import Derived.Test.YtcmknbanojcbaaaChecked
import GoSem.Claim
import GoSem.ClaimJoined
import GoSem.ClaimMapViews
import Derived.JoinedTies
import Derived.KernelRfl
namespace Go.Proofs.Ytcmknbanojcbaaa
/- THE CELL 'sum', in the pinned program and in every row, IS THE sha256 OF THE DUMP (.gsa) THAT YtcmknbanojcbaaaProg.lean LOADS. Nothing in Lean hashes anything: it is a label: what it is worth is what the hold of that sum in a sandbox is worth. -/
noncomputable def Try.pinned : Pinned := { name := "ytcmknbanojcbaaa", sum := "ce88439a9bd7a55fdd91692eb79a68ba52ac6d7496786145f1c015f826536ea7", checked := Try.checked }
namespace Rows
def none {H : Type} : Left H := { results := [], args := [] }

/-- 'tiltyardlaw07.RackOrder': WHATEVER THE INPUT: true; the input reads as it did. -/
def rackOrderSpec : ChangeSpec := { name := "rackOrder", fn := fun _ => fun
  | [d1, d2] => { results := [.lit (.bool true)], args := [d1, d2] }
  | _ => none }
def rackOrderRow : OpenClaim := { program := "ytcmknbanojcbaaa", sum := "ce88439a9bd7a55fdd91692eb79a68ba52ac6d7496786145f1c015f826536ea7", func := "tiltyard/tiltyardlaw07.RackOrder", spec := "rackOrder", inPlace := ["slices.overlaps[tiltyard/rack.row[string]]", "slices.overlaps[tiltyard/rack.row[int]]"], unfollowed := true, recurses := true, apart := false }
def RackOrderSaid : Prop := rackOrderRow.holds Try.pinned (OpenSpec.ofChange rackOrderSpec)

/-- ITS FALSE NEIGHBOUR: 'it returns false'. Refute it at one input. -/
def rackOrderWrong : ChangeSpec := { name := "rackOrder", fn := fun _ => fun
  | [d1, d2] => { results := [.lit (.bool false)], args := [d1, d2] }
  | _ => none }
def RackOrderWrongFalsely : Prop := rackOrderRow.holds Try.pinned (OpenSpec.ofChange rackOrderWrong)

/-- 'tiltyardlaw07.RackBound': WHATEVER THE INPUT: true; the input reads as it did. -/
def rackBoundSpec : ChangeSpec := { name := "rackBound", fn := fun _ => fun
  | [d1, d2] => { results := [.lit (.bool true)], args := [d1, d2] }
  | _ => none }
def rackBoundRow : OpenClaim := { program := "ytcmknbanojcbaaa", sum := "ce88439a9bd7a55fdd91692eb79a68ba52ac6d7496786145f1c015f826536ea7", func := "tiltyard/tiltyardlaw07.RackBound", spec := "rackBound", inPlace := ["slices.overlaps[tiltyard/rack.row[int]]"], unfollowed := true, recurses := true, apart := false }
def RackBoundSaid : Prop := rackBoundRow.holds Try.pinned (OpenSpec.ofChange rackBoundSpec)

/-- ITS FALSE NEIGHBOUR: 'it returns false'. Refute it at one input. -/
def rackBoundWrong : ChangeSpec := { name := "rackBound", fn := fun _ => fun
  | [d1, d2] => { results := [.lit (.bool false)], args := [d1, d2] }
  | _ => none }
def RackBoundWrongFalsely : Prop := rackBoundRow.holds Try.pinned (OpenSpec.ofChange rackBoundWrong)

/-- 'tiltyardlaw07.RackFree': WHATEVER THE INPUT: true; the input reads as it did. -/
def rackFreeSpec : ChangeSpec := { name := "rackFree", fn := fun _ => fun
  | [d1, d2] => { results := [.lit (.bool true)], args := [d1, d2] }
  | _ => none }
def rackFreeRow : OpenClaim := { program := "ytcmknbanojcbaaa", sum := "ce88439a9bd7a55fdd91692eb79a68ba52ac6d7496786145f1c015f826536ea7", func := "tiltyard/tiltyardlaw07.RackFree", spec := "rackFree", inPlace := ["slices.overlaps[tiltyard/rack.row[byte]]", "slices.overlaps[tiltyard/rack.row[int]]"], unfollowed := true, recurses := true, apart := false }
def RackFreeSaid : Prop := rackFreeRow.holds Try.pinned (OpenSpec.ofChange rackFreeSpec)

/-- ITS FALSE NEIGHBOUR: 'it returns false'. Refute it at one input. -/
def rackFreeWrong : ChangeSpec := { name := "rackFree", fn := fun _ => fun
  | [d1, d2] => { results := [.lit (.bool false)], args := [d1, d2] }
  | _ => none }
def RackFreeWrongFalsely : Prop := rackFreeRow.holds Try.pinned (OpenSpec.ofChange rackFreeWrong)

/-- 'tiltyardlaw07.RackRuns': WHATEVER THE INPUT: true; the input reads as it did. -/
def rackRunsSpec : ChangeSpec := { name := "rackRuns", fn := fun _ => fun
  | [d1, d2] => { results := [.lit (.bool true)], args := [d1, d2] }
  | _ => none }
def rackRunsRow : OpenClaim := { program := "ytcmknbanojcbaaa", sum := "ce88439a9bd7a55fdd91692eb79a68ba52ac6d7496786145f1c015f826536ea7", func := "tiltyard/tiltyardlaw07.RackRuns", spec := "rackRuns", inPlace := ["slices.overlaps[tiltyard/rack.row[int]]"], unfollowed := true, recurses := true, apart := false }
def RackRunsSaid : Prop := rackRunsRow.holds Try.pinned (OpenSpec.ofChange rackRunsSpec)

/-- ITS FALSE NEIGHBOUR: 'it returns false'. Refute it at one input. -/
def rackRunsWrong : ChangeSpec := { name := "rackRuns", fn := fun _ => fun
  | [d1, d2] => { results := [.lit (.bool false)], args := [d1, d2] }
  | _ => none }
def RackRunsWrongFalsely : Prop := rackRunsRow.holds Try.pinned (OpenSpec.ofChange rackRunsWrong)

/-- 'tiltyardlaw07.RackNil': WHATEVER THE INPUT: true; the input reads as it did. -/
def rackNilSpec : ChangeSpec := { name := "rackNil", fn := fun _ => fun
  | [d1, d2] => { results := [.lit (.bool true)], args := [d1, d2] }
  | _ => none }
def rackNilRow : OpenClaim := { program := "ytcmknbanojcbaaa", sum := "ce88439a9bd7a55fdd91692eb79a68ba52ac6d7496786145f1c015f826536ea7", func := "tiltyard/tiltyardlaw07.RackNil", spec := "rackNil", inPlace := ["slices.overlaps[tiltyard/rack.row[int]]"], unfollowed := true, recurses := true, apart := false }
def RackNilSaid : Prop := rackNilRow.holds Try.pinned (OpenSpec.ofChange rackNilSpec)

/-- ITS FALSE NEIGHBOUR: 'it returns false'. Refute it at one input. -/
def rackNilWrong : ChangeSpec := { name := "rackNil", fn := fun _ => fun
  | [d1, d2] => { results := [.lit (.bool false)], args := [d1, d2] }
  | _ => none }
def RackNilWrongFalsely : Prop := rackNilRow.holds Try.pinned (OpenSpec.ofChange rackNilWrong)

/-- 'tiltyardlaw17.QueueOne': WHATEVER THE INPUT: true; the input reads as it did. -/
def queueOneSpec : ChangeSpec := { name := "queueOne", fn := fun _ => fun
  | [d] => { results := [.lit (.bool true)], args := [d] }
  | _ => none }
def queueOneRow : OpenClaim := { program := "ytcmknbanojcbaaa", sum := "ce88439a9bd7a55fdd91692eb79a68ba52ac6d7496786145f1c015f826536ea7", func := "tiltyard/tiltyardlaw17.QueueOne", spec := "queueOne", inPlace := ["slices.overlaps[tiltyard/queue.Ticket]"], unfollowed := true, recurses := true, apart := false }
def QueueOneSaid : Prop := queueOneRow.holds Try.pinned (OpenSpec.ofChange queueOneSpec)

/-- ITS FALSE NEIGHBOUR: 'it returns false'. Refute it at one input. -/
def queueOneWrong : ChangeSpec := { name := "queueOne", fn := fun _ => fun
  | [d] => { results := [.lit (.bool false)], args := [d] }
  | _ => none }
def QueueOneWrongFalsely : Prop := queueOneRow.holds Try.pinned (OpenSpec.ofChange queueOneWrong)

/-- 'tiltyardlaw17.QueueRuns': WHATEVER THE INPUT: true; the input reads as it did. -/
def queueRunsSpec : ChangeSpec := { name := "queueRuns", fn := fun _ => fun
  | [d1, d2] => { results := [.lit (.bool true)], args := [d1, d2] }
  | _ => none }
def queueRunsRow : OpenClaim := { program := "ytcmknbanojcbaaa", sum := "ce88439a9bd7a55fdd91692eb79a68ba52ac6d7496786145f1c015f826536ea7", func := "tiltyard/tiltyardlaw17.QueueRuns", spec := "queueRuns", inPlace := ["slices.overlaps[tiltyard/queue.Ticket]"], unfollowed := true, recurses := true, apart := false }
def QueueRunsSaid : Prop := queueRunsRow.holds Try.pinned (OpenSpec.ofChange queueRunsSpec)

/-- ITS FALSE NEIGHBOUR: 'it returns false'. Refute it at one input. -/
def queueRunsWrong : ChangeSpec := { name := "queueRuns", fn := fun _ => fun
  | [d1, d2] => { results := [.lit (.bool false)], args := [d1, d2] }
  | _ => none }
def QueueRunsWrongFalsely : Prop := queueRunsRow.holds Try.pinned (OpenSpec.ofChange queueRunsWrong)

/-- 'tiltyardlaw17.QueueAgain': WHATEVER THE INPUT: true; the input reads as it did. -/
def queueAgainSpec : ChangeSpec := { name := "queueAgain", fn := fun _ => fun
  | [d1, d2] => { results := [.lit (.bool true)], args := [d1, d2] }
  | _ => none }
def queueAgainRow : OpenClaim := { program := "ytcmknbanojcbaaa", sum := "ce88439a9bd7a55fdd91692eb79a68ba52ac6d7496786145f1c015f826536ea7", func := "tiltyard/tiltyardlaw17.QueueAgain", spec := "queueAgain", inPlace := ["slices.overlaps[tiltyard/queue.Ticket]"], unfollowed := true, recurses := true, apart := false }
def QueueAgainSaid : Prop := queueAgainRow.holds Try.pinned (OpenSpec.ofChange queueAgainSpec)

/-- ITS FALSE NEIGHBOUR: 'it returns false'. Refute it at one input. -/
def queueAgainWrong : ChangeSpec := { name := "queueAgain", fn := fun _ => fun
  | [d1, d2] => { results := [.lit (.bool false)], args := [d1, d2] }
  | _ => none }
def QueueAgainWrongFalsely : Prop := queueAgainRow.holds Try.pinned (OpenSpec.ofChange queueAgainWrong)

/- THE SECOND FORM. 'bulk': how many values and letters a reading holds, each counted each time it is reached (what is shared counts as often as it is met; a slice's spare places count too). A statement '..UptoSaid' is the law's where the arguments, and the package variables that the reading takes, are together of bulk at most 1048576: NARROWER than '..Said'. Prove '..Said' where nothing that the law and all that it calls make is longer than what came in: it says more and counts as full. Else prove '..UptoSaid'. A law counts once. -/
mutual
def uptoBulk {H : Type} : DataW H → Nat
  | .lit (.string bytes) => bytes.length + 1
  | .lit _ => 1
  | .nil => 1
  | .ptr d => uptoBulk d + 1
  | .slice elems spare => uptoBulkAll elems + uptoBulkAll spare + 1
  | .agg parts => uptoBulkAll parts + 1
  | .iface _ d => uptoBulk d + 1
  | .map entries => uptoBulkEntries entries + 1
  | .held _ => 1
def uptoBulkAll {H : Type} : List (DataW H) → Nat
  | [] => 0
  | d :: r => uptoBulk d + uptoBulkAll r
def uptoBulkEntries {H : Type} : List (Lit × DataW H) → Nat
  | [] => 0
  | x :: r => uptoBulkEntry x + uptoBulkEntries r
def uptoBulkEntry {H : Type} : Lit × DataW H → Nat
  | (.string bytes, d) => bytes.length + uptoBulk d + 1
  | (_, d) => uptoBulk d + 1
 end
def uptoSmall : (H : Type) → List (DataW H) → Bool := fun _ ds => decide (uptoBulkAll ds ≤ 1048576)
def OpenSpec.upto (s : _root_.Go.ChangeSpec) : _root_.Go.OpenSpec := { _root_.Go.OpenSpec.ofChange s with cond := some uptoSmall }

/-- 'tiltyardlaw07.RackOrder', WHERE WHAT IT READS IS OF BULK AT MOST 1048576: true; the input reads as it did. -/
def rackOrderUptoRow : OpenClaim := { program := "ytcmknbanojcbaaa", sum := "ce88439a9bd7a55fdd91692eb79a68ba52ac6d7496786145f1c015f826536ea7", func := "tiltyard/tiltyardlaw07.RackOrder", spec := "rackOrder", inPlace := ["slices.overlaps[tiltyard/rack.row[string]]", "slices.overlaps[tiltyard/rack.row[int]]"], unfollowed := true, recurses := true, apart := false, narrowed := true }
def RackOrderUptoSaid : Prop := rackOrderUptoRow.holds Try.pinned (OpenSpec.upto rackOrderSpec)

/-- 'tiltyardlaw07.RackBound', WHERE WHAT IT READS IS OF BULK AT MOST 1048576: true; the input reads as it did. -/
def rackBoundUptoRow : OpenClaim := { program := "ytcmknbanojcbaaa", sum := "ce88439a9bd7a55fdd91692eb79a68ba52ac6d7496786145f1c015f826536ea7", func := "tiltyard/tiltyardlaw07.RackBound", spec := "rackBound", inPlace := ["slices.overlaps[tiltyard/rack.row[int]]"], unfollowed := true, recurses := true, apart := false, narrowed := true }
def RackBoundUptoSaid : Prop := rackBoundUptoRow.holds Try.pinned (OpenSpec.upto rackBoundSpec)

/-- 'tiltyardlaw07.RackFree', WHERE WHAT IT READS IS OF BULK AT MOST 1048576: true; the input reads as it did. -/
def rackFreeUptoRow : OpenClaim := { program := "ytcmknbanojcbaaa", sum := "ce88439a9bd7a55fdd91692eb79a68ba52ac6d7496786145f1c015f826536ea7", func := "tiltyard/tiltyardlaw07.RackFree", spec := "rackFree", inPlace := ["slices.overlaps[tiltyard/rack.row[byte]]", "slices.overlaps[tiltyard/rack.row[int]]"], unfollowed := true, recurses := true, apart := false, narrowed := true }
def RackFreeUptoSaid : Prop := rackFreeUptoRow.holds Try.pinned (OpenSpec.upto rackFreeSpec)

/-- 'tiltyardlaw07.RackRuns', WHERE WHAT IT READS IS OF BULK AT MOST 1048576: true; the input reads as it did. -/
def rackRunsUptoRow : OpenClaim := { program := "ytcmknbanojcbaaa", sum := "ce88439a9bd7a55fdd91692eb79a68ba52ac6d7496786145f1c015f826536ea7", func := "tiltyard/tiltyardlaw07.RackRuns", spec := "rackRuns", inPlace := ["slices.overlaps[tiltyard/rack.row[int]]"], unfollowed := true, recurses := true, apart := false, narrowed := true }
def RackRunsUptoSaid : Prop := rackRunsUptoRow.holds Try.pinned (OpenSpec.upto rackRunsSpec)

/-- 'tiltyardlaw07.RackNil', WHERE WHAT IT READS IS OF BULK AT MOST 1048576: true; the input reads as it did. -/
def rackNilUptoRow : OpenClaim := { program := "ytcmknbanojcbaaa", sum := "ce88439a9bd7a55fdd91692eb79a68ba52ac6d7496786145f1c015f826536ea7", func := "tiltyard/tiltyardlaw07.RackNil", spec := "rackNil", inPlace := ["slices.overlaps[tiltyard/rack.row[int]]"], unfollowed := true, recurses := true, apart := false, narrowed := true }
def RackNilUptoSaid : Prop := rackNilUptoRow.holds Try.pinned (OpenSpec.upto rackNilSpec)

/-- 'tiltyardlaw17.QueueOne', WHERE WHAT IT READS IS OF BULK AT MOST 1048576: true; the input reads as it did. -/
def queueOneUptoRow : OpenClaim := { program := "ytcmknbanojcbaaa", sum := "ce88439a9bd7a55fdd91692eb79a68ba52ac6d7496786145f1c015f826536ea7", func := "tiltyard/tiltyardlaw17.QueueOne", spec := "queueOne", inPlace := ["slices.overlaps[tiltyard/queue.Ticket]"], unfollowed := true, recurses := true, apart := false, narrowed := true }
def QueueOneUptoSaid : Prop := queueOneUptoRow.holds Try.pinned (OpenSpec.upto queueOneSpec)

/-- 'tiltyardlaw17.QueueRuns', WHERE WHAT IT READS IS OF BULK AT MOST 1048576: true; the input reads as it did. -/
def queueRunsUptoRow : OpenClaim := { program := "ytcmknbanojcbaaa", sum := "ce88439a9bd7a55fdd91692eb79a68ba52ac6d7496786145f1c015f826536ea7", func := "tiltyard/tiltyardlaw17.QueueRuns", spec := "queueRuns", inPlace := ["slices.overlaps[tiltyard/queue.Ticket]"], unfollowed := true, recurses := true, apart := false, narrowed := true }
def QueueRunsUptoSaid : Prop := queueRunsUptoRow.holds Try.pinned (OpenSpec.upto queueRunsSpec)

/-- 'tiltyardlaw17.QueueAgain', WHERE WHAT IT READS IS OF BULK AT MOST 1048576: true; the input reads as it did. -/
def queueAgainUptoRow : OpenClaim := { program := "ytcmknbanojcbaaa", sum := "ce88439a9bd7a55fdd91692eb79a68ba52ac6d7496786145f1c015f826536ea7", func := "tiltyard/tiltyardlaw17.QueueAgain", spec := "queueAgain", inPlace := ["slices.overlaps[tiltyard/queue.Ticket]"], unfollowed := true, recurses := true, apart := false, narrowed := true }
def QueueAgainUptoSaid : Prop := queueAgainUptoRow.holds Try.pinned (OpenSpec.upto queueAgainSpec)

end Rows
end Go.Proofs.Ytcmknbanojcbaaa
