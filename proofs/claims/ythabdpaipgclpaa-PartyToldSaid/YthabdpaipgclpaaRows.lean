/-
  No cell of these rows narrows 'for every input' (looked for: loops, veiled, ifaces, maps, wideKeys, modest, calm, conditions, laid).
  DERIVED. THE GIVEN ROWS OF THIS SEAT. 8 by the template 'for every input the law returns true; each argument reads behind the call as it read before'; 0 by the template 'total and deterministic' (their statements: YthabdpaipgclpaaTotals.lean).
  GIVEN WITH THE SEED: the statements are not yours to turn. If you find one false, say at which input.
  Laid BY PROGRAM, IN A SANDBOX (cutbox-rows.mjs): the forced cells as the released guide's own fill.sh prints them over the translation e58a935f1230780d… (all of the seat's roots in one cut). By AI agents, Wed Nov 11 2026. No macro, syntax, notation, axiom, sorry.
-/
import Derived.Test.YthabdpaipgclpaaChecked
import GoSem.Claim
import GoSem.ClaimJoined
import GoSem.ClaimMapViews
import Derived.JoinedTies
import Derived.KernelRfl
namespace Go.Proofs.Ythabdpaipgclpaa
/- THE CELL 'sum', in the pinned program and in every row, IS THE sha256 OF THE DUMP (.gsa) THAT YthabdpaipgclpaaProg.lean LOADS. Nothing in Lean hashes anything: it is a label: what it is worth is what the hold of that sum in a sandbox is worth. -/
noncomputable def Try.pinned : Pinned := { name := "ythabdpaipgclpaa", sum := "e58a935f1230780d40f7bec5a5b4f59c65d4d71668f2ff5570f10577bc015afd", checked := Try.checked }
namespace Rows
def none {H : Type} : Left H := { results := [], args := [] }

/-- 'tiltyardlaw20.ReadyAll': WHATEVER THE INPUT: true; the input reads as it did. -/
def readyAllSpec : ChangeSpec := { name := "readyAll", fn := fun _ => fun
  | [d1, d2] => { results := [.lit (.bool true)], args := [d1, d2] }
  | _ => none }
def readyAllRow : OpenClaim := { program := "ythabdpaipgclpaa", sum := "e58a935f1230780d40f7bec5a5b4f59c65d4d71668f2ff5570f10577bc015afd", func := "tiltyard/tiltyardlaw20.ReadyAll", spec := "readyAll", inPlace := ["slices.overlaps[tiltyard/rack.row[tiltyard/ready.Check]]"], unfollowed := true, recurses := true, apart := false }
def ReadyAllSaid : Prop := readyAllRow.holds Try.pinned (OpenSpec.ofChange readyAllSpec)

/-- ITS FALSE NEIGHBOUR: 'it returns false'. Refute it at one input. -/
def readyAllWrong : ChangeSpec := { name := "readyAll", fn := fun _ => fun
  | [d1, d2] => { results := [.lit (.bool false)], args := [d1, d2] }
  | _ => none }
def ReadyAllWrongFalsely : Prop := readyAllRow.holds Try.pinned (OpenSpec.ofChange readyAllWrong)

/-- 'tiltyardlaw20.ReadyNil': WHATEVER THE INPUT: true; the input reads as it did. -/
def readyNilSpec : ChangeSpec := { name := "readyNil", fn := fun _ => fun
  | [d] => { results := [.lit (.bool true)], args := [d] }
  | _ => none }
def readyNilRow : OpenClaim := { program := "ythabdpaipgclpaa", sum := "e58a935f1230780d40f7bec5a5b4f59c65d4d71668f2ff5570f10577bc015afd", func := "tiltyard/tiltyardlaw20.ReadyNil", spec := "readyNil", inPlace := ["slices.overlaps[tiltyard/rack.row[tiltyard/ready.Check]]"], unfollowed := true, recurses := true, apart := false }
def ReadyNilSaid : Prop := readyNilRow.holds Try.pinned (OpenSpec.ofChange readyNilSpec)

/-- ITS FALSE NEIGHBOUR: 'it returns false'. Refute it at one input. -/
def readyNilWrong : ChangeSpec := { name := "readyNil", fn := fun _ => fun
  | [d] => { results := [.lit (.bool false)], args := [d] }
  | _ => none }
def ReadyNilWrongFalsely : Prop := readyNilRow.holds Try.pinned (OpenSpec.ofChange readyNilWrong)

/-- 'tiltyardlaw20.ReadyRuns': WHATEVER THE INPUT: true; the input reads as it did. -/
def readyRunsSpec : ChangeSpec := { name := "readyRuns", fn := fun _ => fun
  | [d1, d2] => { results := [.lit (.bool true)], args := [d1, d2] }
  | _ => none }
def readyRunsRow : OpenClaim := { program := "ythabdpaipgclpaa", sum := "e58a935f1230780d40f7bec5a5b4f59c65d4d71668f2ff5570f10577bc015afd", func := "tiltyard/tiltyardlaw20.ReadyRuns", spec := "readyRuns", inPlace := ["slices.overlaps[tiltyard/rack.row[tiltyard/ready.Check]]"], unfollowed := true, recurses := true, apart := false }
def ReadyRunsSaid : Prop := readyRunsRow.holds Try.pinned (OpenSpec.ofChange readyRunsSpec)

/-- ITS FALSE NEIGHBOUR: 'it returns false'. Refute it at one input. -/
def readyRunsWrong : ChangeSpec := { name := "readyRuns", fn := fun _ => fun
  | [d1, d2] => { results := [.lit (.bool false)], args := [d1, d2] }
  | _ => none }
def ReadyRunsWrongFalsely : Prop := readyRunsRow.holds Try.pinned (OpenSpec.ofChange readyRunsWrong)

/-- 'tiltyardlaw20.ReadyNo': WHATEVER THE INPUT: true; the input reads as it did. -/
def readyNoSpec : ChangeSpec := { name := "readyNo", fn := fun _ => fun
  | [d1, d2, d3] => { results := [.lit (.bool true)], args := [d1, d2, d3] }
  | _ => none }
def readyNoRow : OpenClaim := { program := "ythabdpaipgclpaa", sum := "e58a935f1230780d40f7bec5a5b4f59c65d4d71668f2ff5570f10577bc015afd", func := "tiltyard/tiltyardlaw20.ReadyNo", spec := "readyNo", inPlace := ["slices.overlaps[tiltyard/rack.row[tiltyard/ready.Check]]"], unfollowed := true, recurses := true, apart := false }
def ReadyNoSaid : Prop := readyNoRow.holds Try.pinned (OpenSpec.ofChange readyNoSpec)

/-- ITS FALSE NEIGHBOUR: 'it returns false'. Refute it at one input. -/
def readyNoWrong : ChangeSpec := { name := "readyNo", fn := fun _ => fun
  | [d1, d2, d3] => { results := [.lit (.bool false)], args := [d1, d2, d3] }
  | _ => none }
def ReadyNoWrongFalsely : Prop := readyNoRow.holds Try.pinned (OpenSpec.ofChange readyNoWrong)

/-- 'tiltyardlaw13.PartyRuns': WHATEVER THE INPUT: true; the input reads as it did. -/
def partyRunsSpec : ChangeSpec := { name := "partyRuns", fn := fun _ => fun
  | [d1, d2] => { results := [.lit (.bool true)], args := [d1, d2] }
  | _ => none }
def partyRunsRow : OpenClaim := { program := "ythabdpaipgclpaa", sum := "e58a935f1230780d40f7bec5a5b4f59c65d4d71668f2ff5570f10577bc015afd", func := "tiltyard/tiltyardlaw13.PartyRuns", spec := "partyRuns", inPlace := ["slices.overlaps[tiltyard/rack.row[tiltyard/party.Party]]"], unfollowed := true, recurses := true, apart := false }
def PartyRunsSaid : Prop := partyRunsRow.holds Try.pinned (OpenSpec.ofChange partyRunsSpec)

/-- ITS FALSE NEIGHBOUR: 'it returns false'. Refute it at one input. -/
def partyRunsWrong : ChangeSpec := { name := "partyRuns", fn := fun _ => fun
  | [d1, d2] => { results := [.lit (.bool false)], args := [d1, d2] }
  | _ => none }
def PartyRunsWrongFalsely : Prop := partyRunsRow.holds Try.pinned (OpenSpec.ofChange partyRunsWrong)

/-- 'tiltyardlaw13.PartyOne': WHATEVER THE INPUT: true; the input reads as it did. -/
def partyOneSpec : ChangeSpec := { name := "partyOne", fn := fun _ => fun
  | [d] => { results := [.lit (.bool true)], args := [d] }
  | _ => none }
def partyOneRow : OpenClaim := { program := "ythabdpaipgclpaa", sum := "e58a935f1230780d40f7bec5a5b4f59c65d4d71668f2ff5570f10577bc015afd", func := "tiltyard/tiltyardlaw13.PartyOne", spec := "partyOne", inPlace := ["slices.overlaps[tiltyard/rack.row[tiltyard/party.Party]]"], unfollowed := true, recurses := true, apart := false }
def PartyOneSaid : Prop := partyOneRow.holds Try.pinned (OpenSpec.ofChange partyOneSpec)

/-- ITS FALSE NEIGHBOUR: 'it returns false'. Refute it at one input. -/
def partyOneWrong : ChangeSpec := { name := "partyOne", fn := fun _ => fun
  | [d] => { results := [.lit (.bool false)], args := [d] }
  | _ => none }
def PartyOneWrongFalsely : Prop := partyOneRow.holds Try.pinned (OpenSpec.ofChange partyOneWrong)

/-- 'tiltyardlaw13.PartyTold': WHATEVER THE INPUT: true; the input reads as it did. -/
def partyToldSpec : ChangeSpec := { name := "partyTold", fn := fun _ => fun
  | [d1, d2] => { results := [.lit (.bool true)], args := [d1, d2] }
  | _ => none }
def partyToldRow : OpenClaim := { program := "ythabdpaipgclpaa", sum := "e58a935f1230780d40f7bec5a5b4f59c65d4d71668f2ff5570f10577bc015afd", func := "tiltyard/tiltyardlaw13.PartyTold", spec := "partyTold", inPlace := ["slices.overlaps[tiltyard/rack.row[tiltyard/party.Party]]"], unfollowed := true, recurses := true, apart := false }
def PartyToldSaid : Prop := partyToldRow.holds Try.pinned (OpenSpec.ofChange partyToldSpec)

/-- ITS FALSE NEIGHBOUR: 'it returns false'. Refute it at one input. -/
def partyToldWrong : ChangeSpec := { name := "partyTold", fn := fun _ => fun
  | [d1, d2] => { results := [.lit (.bool false)], args := [d1, d2] }
  | _ => none }
def PartyToldWrongFalsely : Prop := partyToldRow.holds Try.pinned (OpenSpec.ofChange partyToldWrong)

/-- 'tiltyardlaw13.PartyRefuses': WHATEVER THE INPUT: true; the input reads as it did. -/
def partyRefusesSpec : ChangeSpec := { name := "partyRefuses", fn := fun _ => fun
  | [d1, d2] => { results := [.lit (.bool true)], args := [d1, d2] }
  | _ => none }
def partyRefusesRow : OpenClaim := { program := "ythabdpaipgclpaa", sum := "e58a935f1230780d40f7bec5a5b4f59c65d4d71668f2ff5570f10577bc015afd", func := "tiltyard/tiltyardlaw13.PartyRefuses", spec := "partyRefuses", inPlace := ["slices.overlaps[tiltyard/rack.row[tiltyard/party.Party]]"], unfollowed := true, recurses := true, apart := false }
def PartyRefusesSaid : Prop := partyRefusesRow.holds Try.pinned (OpenSpec.ofChange partyRefusesSpec)

/-- ITS FALSE NEIGHBOUR: 'it returns false'. Refute it at one input. -/
def partyRefusesWrong : ChangeSpec := { name := "partyRefuses", fn := fun _ => fun
  | [d1, d2] => { results := [.lit (.bool false)], args := [d1, d2] }
  | _ => none }
def PartyRefusesWrongFalsely : Prop := partyRefusesRow.holds Try.pinned (OpenSpec.ofChange partyRefusesWrong)

/- THE SECOND FORM. 'bulk': how many values and letters a reading holds, each counted each time it is reached (what is shared counts as often as it is met; a slice's spare places count too). A statement '..UptoSaid' is the law's where the arguments, and the package variables that the reading takes, are together of bulk at most 1048576: NARROWER than '..Said'. Prove '..Said' where nothing that the law and all that it calls make is longer than what came in: it says more and counts as full. Else prove '..UptoSaid'. A law counts once. -/
mutual
def uptoBulk {H : Type} : DataW H → Nat
  | .lit (.string bytes) => bytes.length + 1
  | .lit _ => 1
  | .nil => 1
  | .ptr d => uptoBulk d + 1
  | .slice elems spare => uptoBulkAll elems + uptoBulkAll spare + 1
  | .agg parts => uptoBulkAll parts + 1
  | .iface _ d => uptoBulk d + 1
  | .map entries => uptoBulkEntries entries + 1
  | .held _ => 1
def uptoBulkAll {H : Type} : List (DataW H) → Nat
  | [] => 0
  | d :: r => uptoBulk d + uptoBulkAll r
def uptoBulkEntries {H : Type} : List (Lit × DataW H) → Nat
  | [] => 0
  | x :: r => uptoBulkEntry x + uptoBulkEntries r
def uptoBulkEntry {H : Type} : Lit × DataW H → Nat
  | (.string bytes, d) => bytes.length + uptoBulk d + 1
  | (_, d) => uptoBulk d + 1
 end
def uptoSmall : (H : Type) → List (DataW H) → Bool := fun _ ds => decide (uptoBulkAll ds ≤ 1048576)
def OpenSpec.upto (s : _root_.Go.ChangeSpec) : _root_.Go.OpenSpec := { _root_.Go.OpenSpec.ofChange s with cond := some uptoSmall }

/-- 'tiltyardlaw20.ReadyAll', WHERE WHAT IT READS IS OF BULK AT MOST 1048576: true; the input reads as it did. -/
def readyAllUptoRow : OpenClaim := { program := "ythabdpaipgclpaa", sum := "e58a935f1230780d40f7bec5a5b4f59c65d4d71668f2ff5570f10577bc015afd", func := "tiltyard/tiltyardlaw20.ReadyAll", spec := "readyAll", inPlace := ["slices.overlaps[tiltyard/rack.row[tiltyard/ready.Check]]"], unfollowed := true, recurses := true, apart := false, narrowed := true }
def ReadyAllUptoSaid : Prop := readyAllUptoRow.holds Try.pinned (OpenSpec.upto readyAllSpec)

/-- 'tiltyardlaw20.ReadyNil', WHERE WHAT IT READS IS OF BULK AT MOST 1048576: true; the input reads as it did. -/
def readyNilUptoRow : OpenClaim := { program := "ythabdpaipgclpaa", sum := "e58a935f1230780d40f7bec5a5b4f59c65d4d71668f2ff5570f10577bc015afd", func := "tiltyard/tiltyardlaw20.ReadyNil", spec := "readyNil", inPlace := ["slices.overlaps[tiltyard/rack.row[tiltyard/ready.Check]]"], unfollowed := true, recurses := true, apart := false, narrowed := true }
def ReadyNilUptoSaid : Prop := readyNilUptoRow.holds Try.pinned (OpenSpec.upto readyNilSpec)

/-- 'tiltyardlaw20.ReadyRuns', WHERE WHAT IT READS IS OF BULK AT MOST 1048576: true; the input reads as it did. -/
def readyRunsUptoRow : OpenClaim := { program := "ythabdpaipgclpaa", sum := "e58a935f1230780d40f7bec5a5b4f59c65d4d71668f2ff5570f10577bc015afd", func := "tiltyard/tiltyardlaw20.ReadyRuns", spec := "readyRuns", inPlace := ["slices.overlaps[tiltyard/rack.row[tiltyard/ready.Check]]"], unfollowed := true, recurses := true, apart := false, narrowed := true }
def ReadyRunsUptoSaid : Prop := readyRunsUptoRow.holds Try.pinned (OpenSpec.upto readyRunsSpec)

/-- 'tiltyardlaw20.ReadyNo', WHERE WHAT IT READS IS OF BULK AT MOST 1048576: true; the input reads as it did. -/
def readyNoUptoRow : OpenClaim := { program := "ythabdpaipgclpaa", sum := "e58a935f1230780d40f7bec5a5b4f59c65d4d71668f2ff5570f10577bc015afd", func := "tiltyard/tiltyardlaw20.ReadyNo", spec := "readyNo", inPlace := ["slices.overlaps[tiltyard/rack.row[tiltyard/ready.Check]]"], unfollowed := true, recurses := true, apart := false, narrowed := true }
def ReadyNoUptoSaid : Prop := readyNoUptoRow.holds Try.pinned (OpenSpec.upto readyNoSpec)

/-- 'tiltyardlaw13.PartyRuns', WHERE WHAT IT READS IS OF BULK AT MOST 1048576: true; the input reads as it did. -/
def partyRunsUptoRow : OpenClaim := { program := "ythabdpaipgclpaa", sum := "e58a935f1230780d40f7bec5a5b4f59c65d4d71668f2ff5570f10577bc015afd", func := "tiltyard/tiltyardlaw13.PartyRuns", spec := "partyRuns", inPlace := ["slices.overlaps[tiltyard/rack.row[tiltyard/party.Party]]"], unfollowed := true, recurses := true, apart := false, narrowed := true }
def PartyRunsUptoSaid : Prop := partyRunsUptoRow.holds Try.pinned (OpenSpec.upto partyRunsSpec)

/-- 'tiltyardlaw13.PartyOne', WHERE WHAT IT READS IS OF BULK AT MOST 1048576: true; the input reads as it did. -/
def partyOneUptoRow : OpenClaim := { program := "ythabdpaipgclpaa", sum := "e58a935f1230780d40f7bec5a5b4f59c65d4d71668f2ff5570f10577bc015afd", func := "tiltyard/tiltyardlaw13.PartyOne", spec := "partyOne", inPlace := ["slices.overlaps[tiltyard/rack.row[tiltyard/party.Party]]"], unfollowed := true, recurses := true, apart := false, narrowed := true }
def PartyOneUptoSaid : Prop := partyOneUptoRow.holds Try.pinned (OpenSpec.upto partyOneSpec)

/-- 'tiltyardlaw13.PartyTold', WHERE WHAT IT READS IS OF BULK AT MOST 1048576: true; the input reads as it did. -/
def partyToldUptoRow : OpenClaim := { program := "ythabdpaipgclpaa", sum := "e58a935f1230780d40f7bec5a5b4f59c65d4d71668f2ff5570f10577bc015afd", func := "tiltyard/tiltyardlaw13.PartyTold", spec := "partyTold", inPlace := ["slices.overlaps[tiltyard/rack.row[tiltyard/party.Party]]"], unfollowed := true, recurses := true, apart := false, narrowed := true }
def PartyToldUptoSaid : Prop := partyToldUptoRow.holds Try.pinned (OpenSpec.upto partyToldSpec)

/-- 'tiltyardlaw13.PartyRefuses', WHERE WHAT IT READS IS OF BULK AT MOST 1048576: true; the input reads as it did. -/
def partyRefusesUptoRow : OpenClaim := { program := "ythabdpaipgclpaa", sum := "e58a935f1230780d40f7bec5a5b4f59c65d4d71668f2ff5570f10577bc015afd", func := "tiltyard/tiltyardlaw13.PartyRefuses", spec := "partyRefuses", inPlace := ["slices.overlaps[tiltyard/rack.row[tiltyard/party.Party]]"], unfollowed := true, recurses := true, apart := false, narrowed := true }
def PartyRefusesUptoSaid : Prop := partyRefusesUptoRow.holds Try.pinned (OpenSpec.upto partyRefusesSpec)

end Rows
end Go.Proofs.Ythabdpaipgclpaa
