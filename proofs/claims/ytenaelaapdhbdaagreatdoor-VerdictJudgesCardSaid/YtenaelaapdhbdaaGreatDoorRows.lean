/-
  NARROWER THAN 'FOR EVERY INPUT', by the rows' own cells (each row's printed sentence says how): VerdictReports: laid · VerdictJudges: laid · VerdictApplies: laid.
  DERIVED. THE GIVEN ROWS OF THIS SEAT. 3 by the template 'for every input the law returns true; each argument reads behind the call as it read before'; 0 by the template 'total and deterministic' (their statements: YtenaelaapdhbdaaGreatDoorTotals.lean).
  GIVEN WITH THE SEED: the statements are not yours to turn. If you find one false, say at which input.
  Laid BY PROGRAM, IN A SANDBOX (cutbox-rows.mjs): the forced cells as the released guide's own fill.sh prints them over the translation a73f48330f989f84… (all of the seat's roots in one cut). By AI agents, Wed Nov 11 2026. No macro, syntax, notation, axiom, sorry.
-/
import Derived.Test.YtenaelaapdhbdaaGreatDoorChecked
import GoSem.Claim
import GoSem.ClaimJoined
import GoSem.ClaimMapViews
import Derived.JoinedTies
import Derived.KernelRfl
namespace Go.Proofs.YtenaelaapdhbdaaGreatDoor
/- THE CELL 'sum', in the pinned program and in every row, IS THE sha256 OF THE DUMP (.gsa) THAT YtenaelaapdhbdaaGreatDoorProg.lean LOADS. Nothing in Lean hashes anything: it is a label: what it is worth is what the hold of that sum in a sandbox is worth. -/
noncomputable def Tryz.pinned : Pinned := { name := "ytenaelaapdhbdaagreatdoor", sum := "a73f48330f989f8450482e97da5dca148c197d113329415c7ecdfcc2187e54eb", checked := Tryz.checked }
namespace Rows
def none {H : Type} : Left H := { results := [], args := [] }

/- WHAT THE LISTED PACKAGE-LEVEL VARIABLES READ AS WHEN THE CALL BEGINS. Each datum BY PROGRAM (the guide's laid-datum.mjs) off the statement by which the dump's own 'gosem.cut.vars' lays the variable. In a bare row this is a premise. The card (YtenaelaapdhbdaaGreatDoorCards.lean) ties it to the program's text. -/
def laid_tiltyard_elo_expected {H : Type} : DataW H := .agg [.lit (.int .i64 500), .lit (.int .i64 571), .lit (.int .i64 640), .lit (.int .i64 703), .lit (.int .i64 760), .lit (.int .i64 808), .lit (.int .i64 849), .lit (.int .i64 882), .lit (.int .i64 909), .lit (.int .i64 930), .lit (.int .i64 947), .lit (.int .i64 960), .lit (.int .i64 969), .lit (.int .i64 977), .lit (.int .i64 983), .lit (.int .i64 987), .lit (.int .i64 990)]
def laid_tiltyard_elo_scores {H : Type} : DataW H := .agg [.lit (.int .i64 500), .lit (.int .i64 1000), .lit (.int .i64 0)]

/-- 'tiltyardlaw23.VerdictReports': WHATEVER THE INPUT: true; the input reads as it did. -/
def verdictReportsSpec : ChangeSpec := { name := "verdictReports", fn := fun _ => fun
  | [d1, d2] => { results := [.lit (.bool true)], args := [d1, d2] }
  | _ => none }
def verdictReportsRow : OpenClaim := { program := "ytenaelaapdhbdaagreatdoor", sum := "a73f48330f989f8450482e97da5dca148c197d113329415c7ecdfcc2187e54eb", func := "tiltyard/tiltyardlaw23.VerdictReports", spec := "verdictReports", inPlace := ["slices.overlaps[tiltyard/rack.row[int]]", "slices.overlaps[tiltyard/seat.Seat]", "slices.overlaps[tiltyard/rack.row[tiltyard/seat.Match]]"], unfollowed := true, recurses := true, named := ["tiltyard/elo.scores", "tiltyard/elo.expected"], apart := false, laid := [("tiltyard/elo.expected", laid_tiltyard_elo_expected), ("tiltyard/elo.scores", laid_tiltyard_elo_scores)] }
def VerdictReportsSaid : Prop := verdictReportsRow.holds Tryz.pinned (OpenSpec.ofChange verdictReportsSpec)

/-- ITS FALSE NEIGHBOUR: 'it returns false'. Refute it at one input. -/
def verdictReportsWrong : ChangeSpec := { name := "verdictReports", fn := fun _ => fun
  | [d1, d2] => { results := [.lit (.bool false)], args := [d1, d2] }
  | _ => none }
def VerdictReportsWrongFalsely : Prop := verdictReportsRow.holds Tryz.pinned (OpenSpec.ofChange verdictReportsWrong)

/-- 'tiltyardlaw23.VerdictJudges': WHATEVER THE INPUT: true; the input reads as it did. -/
def verdictJudgesSpec : ChangeSpec := { name := "verdictJudges", fn := fun _ => fun
  | [d1, d2] => { results := [.lit (.bool true)], args := [d1, d2] }
  | _ => none }
def verdictJudgesRow : OpenClaim := { program := "ytenaelaapdhbdaagreatdoor", sum := "a73f48330f989f8450482e97da5dca148c197d113329415c7ecdfcc2187e54eb", func := "tiltyard/tiltyardlaw23.VerdictJudges", spec := "verdictJudges", inPlace := ["slices.overlaps[tiltyard/rack.row[int]]", "slices.overlaps[tiltyard/seat.Seat]", "slices.overlaps[tiltyard/rack.row[tiltyard/seat.Match]]"], unfollowed := true, recurses := true, named := ["tiltyard/elo.scores", "tiltyard/elo.expected"], apart := false, laid := [("tiltyard/elo.expected", laid_tiltyard_elo_expected), ("tiltyard/elo.scores", laid_tiltyard_elo_scores)] }
def VerdictJudgesSaid : Prop := verdictJudgesRow.holds Tryz.pinned (OpenSpec.ofChange verdictJudgesSpec)

/-- ITS FALSE NEIGHBOUR: 'it returns false'. Refute it at one input. -/
def verdictJudgesWrong : ChangeSpec := { name := "verdictJudges", fn := fun _ => fun
  | [d1, d2] => { results := [.lit (.bool false)], args := [d1, d2] }
  | _ => none }
def VerdictJudgesWrongFalsely : Prop := verdictJudgesRow.holds Tryz.pinned (OpenSpec.ofChange verdictJudgesWrong)

/-- 'tiltyardlaw23.VerdictApplies': WHATEVER THE INPUT: true; the input reads as it did. -/
def verdictAppliesSpec : ChangeSpec := { name := "verdictApplies", fn := fun _ => fun
  | [d1, d2, d3] => { results := [.lit (.bool true)], args := [d1, d2, d3] }
  | _ => none }
def verdictAppliesRow : OpenClaim := { program := "ytenaelaapdhbdaagreatdoor", sum := "a73f48330f989f8450482e97da5dca148c197d113329415c7ecdfcc2187e54eb", func := "tiltyard/tiltyardlaw23.VerdictApplies", spec := "verdictApplies", inPlace := ["slices.overlaps[tiltyard/rack.row[int]]", "slices.overlaps[tiltyard/seat.Seat]", "slices.overlaps[tiltyard/rack.row[tiltyard/seat.Match]]"], unfollowed := true, recurses := true, named := ["tiltyard/elo.scores", "tiltyard/elo.expected"], apart := false, laid := [("tiltyard/elo.expected", laid_tiltyard_elo_expected), ("tiltyard/elo.scores", laid_tiltyard_elo_scores)] }
def VerdictAppliesSaid : Prop := verdictAppliesRow.holds Tryz.pinned (OpenSpec.ofChange verdictAppliesSpec)

/-- ITS FALSE NEIGHBOUR: 'it returns false'. Refute it at one input. -/
def verdictAppliesWrong : ChangeSpec := { name := "verdictApplies", fn := fun _ => fun
  | [d1, d2, d3] => { results := [.lit (.bool false)], args := [d1, d2, d3] }
  | _ => none }
def VerdictAppliesWrongFalsely : Prop := verdictAppliesRow.holds Tryz.pinned (OpenSpec.ofChange verdictAppliesWrong)

/- THE SECOND FORM. 'bulk': how many values and letters a reading holds, each counted each time it is reached (what is shared counts as often as it is met; a slice's spare places count too). A statement '..UptoSaid' is the law's where the arguments, and the package variables that the reading takes, are together of bulk at most 1048576: NARROWER than '..Said'. Prove '..Said' where nothing that the law and all that it calls make is longer than what came in: it says more and counts as full. Else prove '..UptoSaid'. A law counts once. -/
mutual
def uptoBulk {H : Type} : DataW H → Nat
  | .lit (.string bytes) => bytes.length + 1
  | .lit _ => 1
  | .nil => 1
  | .ptr d => uptoBulk d + 1
  | .slice elems spare => uptoBulkAll elems + uptoBulkAll spare + 1
  | .agg parts => uptoBulkAll parts + 1
  | .iface _ d => uptoBulk d + 1
  | .map entries => uptoBulkEntries entries + 1
  | .held _ => 1
def uptoBulkAll {H : Type} : List (DataW H) → Nat
  | [] => 0
  | d :: r => uptoBulk d + uptoBulkAll r
def uptoBulkEntries {H : Type} : List (Lit × DataW H) → Nat
  | [] => 0
  | x :: r => uptoBulkEntry x + uptoBulkEntries r
def uptoBulkEntry {H : Type} : Lit × DataW H → Nat
  | (.string bytes, d) => bytes.length + uptoBulk d + 1
  | (_, d) => uptoBulk d + 1
 end
def uptoSmall : (H : Type) → List (DataW H) → Bool := fun _ ds => decide (uptoBulkAll ds ≤ 1048576)
def OpenSpec.upto (s : _root_.Go.ChangeSpec) : _root_.Go.OpenSpec := { _root_.Go.OpenSpec.ofChange s with cond := some uptoSmall }

/-- 'tiltyardlaw23.VerdictReports', WHERE WHAT IT READS IS OF BULK AT MOST 1048576: true; the input reads as it did. -/
def verdictReportsUptoRow : OpenClaim := { program := "ytenaelaapdhbdaagreatdoor", sum := "a73f48330f989f8450482e97da5dca148c197d113329415c7ecdfcc2187e54eb", func := "tiltyard/tiltyardlaw23.VerdictReports", spec := "verdictReports", inPlace := ["slices.overlaps[tiltyard/rack.row[int]]", "slices.overlaps[tiltyard/seat.Seat]", "slices.overlaps[tiltyard/rack.row[tiltyard/seat.Match]]"], unfollowed := true, recurses := true, named := ["tiltyard/elo.scores", "tiltyard/elo.expected"], apart := false, laid := [("tiltyard/elo.expected", laid_tiltyard_elo_expected), ("tiltyard/elo.scores", laid_tiltyard_elo_scores)], narrowed := true }
def VerdictReportsUptoSaid : Prop := verdictReportsUptoRow.holds Tryz.pinned (OpenSpec.upto verdictReportsSpec)

/-- 'tiltyardlaw23.VerdictJudges', WHERE WHAT IT READS IS OF BULK AT MOST 1048576: true; the input reads as it did. -/
def verdictJudgesUptoRow : OpenClaim := { program := "ytenaelaapdhbdaagreatdoor", sum := "a73f48330f989f8450482e97da5dca148c197d113329415c7ecdfcc2187e54eb", func := "tiltyard/tiltyardlaw23.VerdictJudges", spec := "verdictJudges", inPlace := ["slices.overlaps[tiltyard/rack.row[int]]", "slices.overlaps[tiltyard/seat.Seat]", "slices.overlaps[tiltyard/rack.row[tiltyard/seat.Match]]"], unfollowed := true, recurses := true, named := ["tiltyard/elo.scores", "tiltyard/elo.expected"], apart := false, laid := [("tiltyard/elo.expected", laid_tiltyard_elo_expected), ("tiltyard/elo.scores", laid_tiltyard_elo_scores)], narrowed := true }
def VerdictJudgesUptoSaid : Prop := verdictJudgesUptoRow.holds Tryz.pinned (OpenSpec.upto verdictJudgesSpec)

/-- 'tiltyardlaw23.VerdictApplies', WHERE WHAT IT READS IS OF BULK AT MOST 1048576: true; the input reads as it did. -/
def verdictAppliesUptoRow : OpenClaim := { program := "ytenaelaapdhbdaagreatdoor", sum := "a73f48330f989f8450482e97da5dca148c197d113329415c7ecdfcc2187e54eb", func := "tiltyard/tiltyardlaw23.VerdictApplies", spec := "verdictApplies", inPlace := ["slices.overlaps[tiltyard/rack.row[int]]", "slices.overlaps[tiltyard/seat.Seat]", "slices.overlaps[tiltyard/rack.row[tiltyard/seat.Match]]"], unfollowed := true, recurses := true, named := ["tiltyard/elo.scores", "tiltyard/elo.expected"], apart := false, laid := [("tiltyard/elo.expected", laid_tiltyard_elo_expected), ("tiltyard/elo.scores", laid_tiltyard_elo_scores)], narrowed := true }
def VerdictAppliesUptoSaid : Prop := verdictAppliesUptoRow.holds Tryz.pinned (OpenSpec.upto verdictAppliesSpec)

end Rows
end Go.Proofs.YtenaelaapdhbdaaGreatDoor
