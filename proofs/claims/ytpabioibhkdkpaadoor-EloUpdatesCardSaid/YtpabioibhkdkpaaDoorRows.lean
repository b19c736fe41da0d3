/-
  NARROWER THAN 'FOR EVERY INPUT', by the rows' own cells (each row's printed sentence says how): EloExpects: laid · EloShares: laid · EloUpdates: laid · EloZero: laid · EloWins: laid · EloTurned: laid · EloMore: laid.
  DERIVED. THE GIVEN ROWS OF THIS SEAT. 7 by the template 'for every input the law returns true; each argument reads behind the call as it read before'; 0 by the template 'total and deterministic' (their statements: YtpabioibhkdkpaaDoorTotals.lean).
  GIVEN WITH THE SEED: the statements are not yours to turn. If you find one false, say at which input.
  Laid BY PROGRAM, IN A SANDBOX (cutbox-rows.mjs): the forced cells as the released guide's own fill.sh prints them over the translation bf378e85297e80a6… (all of the seat's roots in one cut). By AI agents, Wed Nov 11 2026. No macro, syntax, notation, axiom, sorry.
-/
import Derived.Test.YtpabioibhkdkpaaDoorChecked
import GoSem.Claim
import GoSem.ClaimJoined
import GoSem.ClaimMapViews
import Derived.JoinedTies
import Derived.KernelRfl
namespace Go.Proofs.YtpabioibhkdkpaaDoor
/- THE CELL 'sum', in the pinned program and in every row, IS THE sha256 OF THE DUMP (.gsa) THAT YtpabioibhkdkpaaDoorProg.lean LOADS. Nothing in Lean hashes anything: it is a label: what it is worth is what the hold of that sum in a sandbox is worth. -/
noncomputable def Tryd.pinned : Pinned := { name := "ytpabioibhkdkpaadoor", sum := "bf378e85297e80a6bb154ad475d63634d4cf8e65dc1fe9b485563828763bf2ad", checked := Tryd.checked }
namespace Rows
def none {H : Type} : Left H := { results := [], args := [] }

/- WHAT THE LISTED PACKAGE-LEVEL VARIABLES READ AS WHEN THE CALL BEGINS. Each datum BY PROGRAM (the guide's laid-datum.mjs) off the statement by which the dump's own 'gosem.cut.vars' lays the variable. In a bare row this is a premise. The card (YtpabioibhkdkpaaDoorCards.lean) ties it to the program's text. -/
def laid_tiltyard_elo_expected {H : Type} : DataW H := .agg [.lit (.int .i64 500), .lit (.int .i64 571), .lit (.int .i64 640), .lit (.int .i64 703), .lit (.int .i64 760), .lit (.int .i64 808), .lit (.int .i64 849), .lit (.int .i64 882), .lit (.int .i64 909), .lit (.int .i64 930), .lit (.int .i64 947), .lit (.int .i64 960), .lit (.int .i64 969), .lit (.int .i64 977), .lit (.int .i64 983), .lit (.int .i64 987), .lit (.int .i64 990)]
def laid_tiltyard_elo_scores {H : Type} : DataW H := .agg [.lit (.int .i64 500), .lit (.int .i64 1000), .lit (.int .i64 0)]

/-- 'tiltyardlaw15.EloExpects': WHATEVER THE INPUT: true; the input reads as it did. -/
def eloExpectsSpec : ChangeSpec := { name := "eloExpects", fn := fun _ => fun
  | [d1, d2, d3] => { results := [.lit (.bool true)], args := [d1, d2, d3] }
  | _ => none }
def eloExpectsRow : OpenClaim := { program := "ytpabioibhkdkpaadoor", sum := "bf378e85297e80a6bb154ad475d63634d4cf8e65dc1fe9b485563828763bf2ad", func := "tiltyard/tiltyardlaw15.EloExpects", spec := "eloExpects", recurses := true, named := ["tiltyard/elo.expected", "tiltyard/elo.scores"], apart := false, laid := [("tiltyard/elo.expected", laid_tiltyard_elo_expected), ("tiltyard/elo.scores", laid_tiltyard_elo_scores)] }
def EloExpectsSaid : Prop := eloExpectsRow.holds Tryd.pinned (OpenSpec.ofChange eloExpectsSpec)

/-- ITS FALSE NEIGHBOUR: 'it returns false'. Refute it at one input. -/
def eloExpectsWrong : ChangeSpec := { name := "eloExpects", fn := fun _ => fun
  | [d1, d2, d3] => { results := [.lit (.bool false)], args := [d1, d2, d3] }
  | _ => none }
def EloExpectsWrongFalsely : Prop := eloExpectsRow.holds Tryd.pinned (OpenSpec.ofChange eloExpectsWrong)

/-- 'tiltyardlaw15.EloShares': WHATEVER THE INPUT: true; the input reads as it did. -/
def eloSharesSpec : ChangeSpec := { name := "eloShares", fn := fun _ => fun
  | [d1, d2, d3] => { results := [.lit (.bool true)], args := [d1, d2, d3] }
  | _ => none }
def eloSharesRow : OpenClaim := { program := "ytpabioibhkdkpaadoor", sum := "bf378e85297e80a6bb154ad475d63634d4cf8e65dc1fe9b485563828763bf2ad", func := "tiltyard/tiltyardlaw15.EloShares", spec := "eloShares", recurses := true, named := ["tiltyard/elo.scores", "tiltyard/elo.expected"], apart := false, laid := [("tiltyard/elo.expected", laid_tiltyard_elo_expected), ("tiltyard/elo.scores", laid_tiltyard_elo_scores)] }
def EloSharesSaid : Prop := eloSharesRow.holds Tryd.pinned (OpenSpec.ofChange eloSharesSpec)

/-- ITS FALSE NEIGHBOUR: 'it returns false'. Refute it at one input. -/
def eloSharesWrong : ChangeSpec := { name := "eloShares", fn := fun _ => fun
  | [d1, d2, d3] => { results := [.lit (.bool false)], args := [d1, d2, d3] }
  | _ => none }
def EloSharesWrongFalsely : Prop := eloSharesRow.holds Tryd.pinned (OpenSpec.ofChange eloSharesWrong)

/-- 'tiltyardlaw15.EloUpdates': WHATEVER THE INPUT: true; the input reads as it did. -/
def eloUpdatesSpec : ChangeSpec := { name := "eloUpdates", fn := fun _ => fun
  | [d1, d2, d3] => { results := [.lit (.bool true)], args := [d1, d2, d3] }
  | _ => none }
def eloUpdatesRow : OpenClaim := { program := "ytpabioibhkdkpaadoor", sum := "bf378e85297e80a6bb154ad475d63634d4cf8e65dc1fe9b485563828763bf2ad", func := "tiltyard/tiltyardlaw15.EloUpdates", spec := "eloUpdates", recurses := true, named := ["tiltyard/elo.scores", "tiltyard/elo.expected"], apart := false, laid := [("tiltyard/elo.expected", laid_tiltyard_elo_expected), ("tiltyard/elo.scores", laid_tiltyard_elo_scores)] }
def EloUpdatesSaid : Prop := eloUpdatesRow.holds Tryd.pinned (OpenSpec.ofChange eloUpdatesSpec)

/-- ITS FALSE NEIGHBOUR: 'it returns false'. Refute it at one input. -/
def eloUpdatesWrong : ChangeSpec := { name := "eloUpdates", fn := fun _ => fun
  | [d1, d2, d3] => { results := [.lit (.bool false)], args := [d1, d2, d3] }
  | _ => none }
def EloUpdatesWrongFalsely : Prop := eloUpdatesRow.holds Tryd.pinned (OpenSpec.ofChange eloUpdatesWrong)

/-- 'tiltyardlaw15.EloZero': WHATEVER THE INPUT: true; the input reads as it did. -/
def eloZeroSpec : ChangeSpec := { name := "eloZero", fn := fun _ => fun
  | [d1, d2, d3] => { results := [.lit (.bool true)], args := [d1, d2, d3] }
  | _ => none }
def eloZeroRow : OpenClaim := { program := "ytpabioibhkdkpaadoor", sum := "bf378e85297e80a6bb154ad475d63634d4cf8e65dc1fe9b485563828763bf2ad", func := "tiltyard/tiltyardlaw15.EloZero", spec := "eloZero", recurses := true, named := ["tiltyard/elo.scores", "tiltyard/elo.expected"], apart := false, laid := [("tiltyard/elo.expected", laid_tiltyard_elo_expected), ("tiltyard/elo.scores", laid_tiltyard_elo_scores)] }
def EloZeroSaid : Prop := eloZeroRow.holds Tryd.pinned (OpenSpec.ofChange eloZeroSpec)

/-- ITS FALSE NEIGHBOUR: 'it returns false'. Refute it at one input. -/
def eloZeroWrong : ChangeSpec := { name := "eloZero", fn := fun _ => fun
  | [d1, d2, d3] => { results := [.lit (.bool false)], args := [d1, d2, d3] }
  | _ => none }
def EloZeroWrongFalsely : Prop := eloZeroRow.holds Tryd.pinned (OpenSpec.ofChange eloZeroWrong)

/-- 'tiltyardlaw15.EloWins': WHATEVER THE INPUT: true; the input reads as it did. -/
def eloWinsSpec : ChangeSpec := { name := "eloWins", fn := fun _ => fun
  | [d1, d2, d3] => { results := [.lit (.bool true)], args := [d1, d2, d3] }
  | _ => none }
def eloWinsRow : OpenClaim := { program := "ytpabioibhkdkpaadoor", sum := "bf378e85297e80a6bb154ad475d63634d4cf8e65dc1fe9b485563828763bf2ad", func := "tiltyard/tiltyardlaw15.EloWins", spec := "eloWins", recurses := true, named := ["tiltyard/elo.scores", "tiltyard/elo.expected"], apart := false, laid := [("tiltyard/elo.expected", laid_tiltyard_elo_expected), ("tiltyard/elo.scores", laid_tiltyard_elo_scores)] }
def EloWinsSaid : Prop := eloWinsRow.holds Tryd.pinned (OpenSpec.ofChange eloWinsSpec)

/-- ITS FALSE NEIGHBOUR: 'it returns false'. Refute it at one input. -/
def eloWinsWrong : ChangeSpec := { name := "eloWins", fn := fun _ => fun
  | [d1, d2, d3] => { results := [.lit (.bool false)], args := [d1, d2, d3] }
  | _ => none }
def EloWinsWrongFalsely : Prop := eloWinsRow.holds Tryd.pinned (OpenSpec.ofChange eloWinsWrong)

/-- 'tiltyardlaw15.EloTurned': WHATEVER THE INPUT: true; the input reads as it did. -/
def eloTurnedSpec : ChangeSpec := { name := "eloTurned", fn := fun _ => fun
  | [d1, d2, d3] => { results := [.lit (.bool true)], args := [d1, d2, d3] }
  | _ => none }
def eloTurnedRow : OpenClaim := { program := "ytpabioibhkdkpaadoor", sum := "bf378e85297e80a6bb154ad475d63634d4cf8e65dc1fe9b485563828763bf2ad", func := "tiltyard/tiltyardlaw15.EloTurned", spec := "eloTurned", recurses := true, named := ["tiltyard/elo.scores", "tiltyard/elo.expected"], apart := false, laid := [("tiltyard/elo.expected", laid_tiltyard_elo_expected), ("tiltyard/elo.scores", laid_tiltyard_elo_scores)] }
def EloTurnedSaid : Prop := eloTurnedRow.holds Tryd.pinned (OpenSpec.ofChange eloTurnedSpec)

/-- ITS FALSE NEIGHBOUR: 'it returns false'. Refute it at one input. -/
def eloTurnedWrong : ChangeSpec := { name := "eloTurned", fn := fun _ => fun
  | [d1, d2, d3] => { results := [.lit (.bool false)], args := [d1, d2, d3] }
  | _ => none }
def EloTurnedWrongFalsely : Prop := eloTurnedRow.holds Tryd.pinned (OpenSpec.ofChange eloTurnedWrong)

/-- 'tiltyardlaw15.EloMore': WHATEVER THE INPUT: true; the input reads as it did. -/
def eloMoreSpec : ChangeSpec := { name := "eloMore", fn := fun _ => fun
  | [d1, d2, d3] => { results := [.lit (.bool true)], args := [d1, d2, d3] }
  | _ => none }
def eloMoreRow : OpenClaim := { program := "ytpabioibhkdkpaadoor", sum := "bf378e85297e80a6bb154ad475d63634d4cf8e65dc1fe9b485563828763bf2ad", func := "tiltyard/tiltyardlaw15.EloMore", spec := "eloMore", recurses := true, named := ["tiltyard/elo.scores", "tiltyard/elo.expected"], apart := false, laid := [("tiltyard/elo.expected", laid_tiltyard_elo_expected), ("tiltyard/elo.scores", laid_tiltyard_elo_scores)] }
def EloMoreSaid : Prop := eloMoreRow.holds Tryd.pinned (OpenSpec.ofChange eloMoreSpec)

/-- ITS FALSE NEIGHBOUR: 'it returns false'. Refute it at one input. -/
def eloMoreWrong : ChangeSpec := { name := "eloMore", fn := fun _ => fun
  | [d1, d2, d3] => { results := [.lit (.bool false)], args := [d1, d2, d3] }
  | _ => none }
def EloMoreWrongFalsely : Prop := eloMoreRow.holds Tryd.pinned (OpenSpec.ofChange eloMoreWrong)

/- THE SECOND FORM. 'bulk': how many values and letters a reading holds, each counted each time it is reached (what is shared counts as often as it is met; a slice's spare places count too). A statement '..UptoSaid' is the law's where the arguments, and the package variables that the reading takes, are together of bulk at most 1048576: NARROWER than '..Said'. Prove '..Said' where nothing that the law and all that it calls make is longer than what came in: it says more and counts as full. Else prove '..UptoSaid'. A law counts once. -/
mutual
def uptoBulk {H : Type} : DataW H → Nat
  | .lit (.string bytes) => bytes.length + 1
  | .lit _ => 1
  | .nil => 1
  | .ptr d => uptoBulk d + 1
  | .slice elems spare => uptoBulkAll elems + uptoBulkAll spare + 1
  | .agg parts => uptoBulkAll parts + 1
  | .iface _ d => uptoBulk d + 1
  | .map entries => uptoBulkEntries entries + 1
  | .held _ => 1
def uptoBulkAll {H : Type} : List (DataW H) → Nat
  | [] => 0
  | d :: r => uptoBulk d + uptoBulkAll r
def uptoBulkEntries {H : Type} : List (Lit × DataW H) → Nat
  | [] => 0
  | x :: r => uptoBulkEntry x + uptoBulkEntries r
def uptoBulkEntry {H : Type} : Lit × DataW H → Nat
  | (.string bytes, d) => bytes.length + uptoBulk d + 1
  | (_, d) => uptoBulk d + 1
 end
def uptoSmall : (H : Type) → List (DataW H) → Bool := fun _ ds => decide (uptoBulkAll ds ≤ 1048576)
def OpenSpec.upto (s : _root_.Go.ChangeSpec) : _root_.Go.OpenSpec := { _root_.Go.OpenSpec.ofChange s with cond := some uptoSmall }

/-- 'tiltyardlaw15.EloExpects', WHERE WHAT IT READS IS OF BULK AT MOST 1048576: true; the input reads as it did. -/
def eloExpectsUptoRow : OpenClaim := { program := "ytpabioibhkdkpaadoor", sum := "bf378e85297e80a6bb154ad475d63634d4cf8e65dc1fe9b485563828763bf2ad", func := "tiltyard/tiltyardlaw15.EloExpects", spec := "eloExpects", recurses := true, named := ["tiltyard/elo.expected", "tiltyard/elo.scores"], apart := false, laid := [("tiltyard/elo.expected", laid_tiltyard_elo_expected), ("tiltyard/elo.scores", laid_tiltyard_elo_scores)], narrowed := true }
def EloExpectsUptoSaid : Prop := eloExpectsUptoRow.holds Tryd.pinned (OpenSpec.upto eloExpectsSpec)

/-- 'tiltyardlaw15.EloShares', WHERE WHAT IT READS IS OF BULK AT MOST 1048576: true; the input reads as it did. -/
def eloSharesUptoRow : OpenClaim := { program := "ytpabioibhkdkpaadoor", sum := "bf378e85297e80a6bb154ad475d63634d4cf8e65dc1fe9b485563828763bf2ad", func := "tiltyard/tiltyardlaw15.EloShares", spec := "eloShares", recurses := true, named := ["tiltyard/elo.scores", "tiltyard/elo.expected"], apart := false, laid := [("tiltyard/elo.expected", laid_tiltyard_elo_expected), ("tiltyard/elo.scores", laid_tiltyard_elo_scores)], narrowed := true }
def EloSharesUptoSaid : Prop := eloSharesUptoRow.holds Tryd.pinned (OpenSpec.upto eloSharesSpec)

/-- 'tiltyardlaw15.EloUpdates', WHERE WHAT IT READS IS OF BULK AT MOST 1048576: true; the input reads as it did. -/
def eloUpdatesUptoRow : OpenClaim := { program := "ytpabioibhkdkpaadoor", sum := "bf378e85297e80a6bb154ad475d63634d4cf8e65dc1fe9b485563828763bf2ad", func := "tiltyard/tiltyardlaw15.EloUpdates", spec := "eloUpdates", recurses := true, named := ["tiltyard/elo.scores", "tiltyard/elo.expected"], apart := false, laid := [("tiltyard/elo.expected", laid_tiltyard_elo_expected), ("tiltyard/elo.scores", laid_tiltyard_elo_scores)], narrowed := true }
def EloUpdatesUptoSaid : Prop := eloUpdatesUptoRow.holds Tryd.pinned (OpenSpec.upto eloUpdatesSpec)

/-- 'tiltyardlaw15.EloZero', WHERE WHAT IT READS IS OF BULK AT MOST 1048576: true; the input reads as it did. -/
def eloZeroUptoRow : OpenClaim := { program := "ytpabioibhkdkpaadoor", sum := "bf378e85297e80a6bb154ad475d63634d4cf8e65dc1fe9b485563828763bf2ad", func := "tiltyard/tiltyardlaw15.EloZero", spec := "eloZero", recurses := true, named := ["tiltyard/elo.scores", "tiltyard/elo.expected"], apart := false, laid := [("tiltyard/elo.expected", laid_tiltyard_elo_expected), ("tiltyard/elo.scores", laid_tiltyard_elo_scores)], narrowed := true }
def EloZeroUptoSaid : Prop := eloZeroUptoRow.holds Tryd.pinned (OpenSpec.upto eloZeroSpec)

/-- 'tiltyardlaw15.EloWins', WHERE WHAT IT READS IS OF BULK AT MOST 1048576: true; the input reads as it did. -/
def eloWinsUptoRow : OpenClaim := { program := "ytpabioibhkdkpaadoor", sum := "bf378e85297e80a6bb154ad475d63634d4cf8e65dc1fe9b485563828763bf2ad", func := "tiltyard/tiltyardlaw15.EloWins", spec := "eloWins", recurses := true, named := ["tiltyard/elo.scores", "tiltyard/elo.expected"], apart := false, laid := [("tiltyard/elo.expected", laid_tiltyard_elo_expected), ("tiltyard/elo.scores", laid_tiltyard_elo_scores)], narrowed := true }
def EloWinsUptoSaid : Prop := eloWinsUptoRow.holds Tryd.pinned (OpenSpec.upto eloWinsSpec)

/-- 'tiltyardlaw15.EloTurned', WHERE WHAT IT READS IS OF BULK AT MOST 1048576: true; the input reads as it did. -/
def eloTurnedUptoRow : OpenClaim := { program := "ytpabioibhkdkpaadoor", sum := "bf378e85297e80a6bb154ad475d63634d4cf8e65dc1fe9b485563828763bf2ad", func := "tiltyard/tiltyardlaw15.EloTurned", spec := "eloTurned", recurses := true, named := ["tiltyard/elo.scores", "tiltyard/elo.expected"], apart := false, laid := [("tiltyard/elo.expected", laid_tiltyard_elo_expected), ("tiltyard/elo.scores", laid_tiltyard_elo_scores)], narrowed := true }
def EloTurnedUptoSaid : Prop := eloTurnedUptoRow.holds Tryd.pinned (OpenSpec.upto eloTurnedSpec)

/-- 'tiltyardlaw15.EloMore', WHERE WHAT IT READS IS OF BULK AT MOST 1048576: true; the input reads as it did. -/
def eloMoreUptoRow : OpenClaim := { program := "ytpabioibhkdkpaadoor", sum := "bf378e85297e80a6bb154ad475d63634d4cf8e65dc1fe9b485563828763bf2ad", func := "tiltyard/tiltyardlaw15.EloMore", spec := "eloMore", recurses := true, named := ["tiltyard/elo.scores", "tiltyard/elo.expected"], apart := false, laid := [("tiltyard/elo.expected", laid_tiltyard_elo_expected), ("tiltyard/elo.scores", laid_tiltyard_elo_scores)], narrowed := true }
def EloMoreUptoSaid : Prop := eloMoreUptoRow.holds Tryd.pinned (OpenSpec.upto eloMoreSpec)

end Rows
end Go.Proofs.YtpabioibhkdkpaaDoor
