/-
  NARROWER THAN 'FOR EVERY INPUT', by the rows' own cells (each row's printed sentence says how): PenalMarks: laid · PenalBetween: laid · PenalHarder: laid.
  DERIVED. THE GIVEN ROWS OF THIS SEAT. 3 by the template 'for every input the law returns true; each argument reads behind the call as it read before'; 0 by the template 'total and deterministic' (their statements: YtgknnjbojkjiaaaDoorTotals.lean).
  GIVEN WITH THE SEED: the statements are not yours to turn. If you find one false, say at which input.
  Laid BY PROGRAM, IN A SANDBOX (cutbox-rows.mjs): the forced cells as the released guide's own fill.sh prints them over the translation 7ae6170a104097dc… (all of the seat's roots in one cut). By AI agents, Wed Nov 11 2026. No macro, syntax, notation, axiom, sorry.
-/
import Derived.Test.YtgknnjbojkjiaaaDoorChecked
import GoSem.Claim
import GoSem.ClaimJoined
import GoSem.ClaimMapViews
import Derived.JoinedTies
import Derived.KernelRfl
namespace Go.Proofs.YtgknnjbojkjiaaaDoor
/- THE CELL 'sum', in the pinned program and in every row, IS THE sha256 OF THE DUMP (.gsa) THAT YtgknnjbojkjiaaaDoorProg.lean LOADS. Nothing in Lean hashes anything: it is a label: what it is worth is what the hold of that sum in a sandbox is worth. -/
noncomputable def Tryd.pinned : Pinned := { name := "ytgknnjbojkjiaaadoor", sum := "7ae6170a104097dcb73eafa09147db816584493128f71579b655c7d6b057e5e8", checked := Tryd.checked }
namespace Rows
def none {H : Type} : Left H := { results := [], args := [] }

/- WHAT THE LISTED PACKAGE-LEVEL VARIABLES READ AS WHEN THE CALL BEGINS. Each datum BY PROGRAM (the guide's laid-datum.mjs) off the statement by which the dump's own 'gosem.cut.vars' lays the variable. In a bare row this is a premise. The card (YtgknnjbojkjiaaaDoorCards.lean) ties it to the program's text. -/
def laid_tiltyard_penal_ladder {H : Type} : DataW H := .agg [.lit (.int .i64 60), .lit (.int .i64 300), .lit (.int .i64 900), .lit (.int .i64 3600), .lit (.int .i64 14400), .lit (.int .i64 86400)]

/-- 'tiltyardlaw16.PenalMarks': WHATEVER THE INPUT: true; the input reads as it did. -/
def penalMarksSpec : ChangeSpec := { name := "penalMarks", fn := fun _ => fun
  | [d1, d2] => { results := [.lit (.bool true)], args := [d1, d2] }
  | _ => none }
def penalMarksRow : OpenClaim := { program := "ytgknnjbojkjiaaadoor", sum := "7ae6170a104097dcb73eafa09147db816584493128f71579b655c7d6b057e5e8", func := "tiltyard/tiltyardlaw16.PenalMarks", spec := "penalMarks", named := ["tiltyard/penal.ladder"], apart := false, laid := [("tiltyard/penal.ladder", laid_tiltyard_penal_ladder)] }
def PenalMarksSaid : Prop := penalMarksRow.holds Tryd.pinned (OpenSpec.ofChange penalMarksSpec)

/-- ITS FALSE NEIGHBOUR: 'it returns false'. Refute it at one input. -/
def penalMarksWrong : ChangeSpec := { name := "penalMarks", fn := fun _ => fun
  | [d1, d2] => { results := [.lit (.bool false)], args := [d1, d2] }
  | _ => none }
def PenalMarksWrongFalsely : Prop := penalMarksRow.holds Tryd.pinned (OpenSpec.ofChange penalMarksWrong)

/-- 'tiltyardlaw16.PenalBetween': WHATEVER THE INPUT: true; the input reads as it did. -/
def penalBetweenSpec : ChangeSpec := { name := "penalBetween", fn := fun _ => fun
  | [d1, d2] => { results := [.lit (.bool true)], args := [d1, d2] }
  | _ => none }
def penalBetweenRow : OpenClaim := { program := "ytgknnjbojkjiaaadoor", sum := "7ae6170a104097dcb73eafa09147db816584493128f71579b655c7d6b057e5e8", func := "tiltyard/tiltyardlaw16.PenalBetween", spec := "penalBetween", named := ["tiltyard/penal.ladder"], apart := false, laid := [("tiltyard/penal.ladder", laid_tiltyard_penal_ladder)] }
def PenalBetweenSaid : Prop := penalBetweenRow.holds Tryd.pinned (OpenSpec.ofChange penalBetweenSpec)

/-- ITS FALSE NEIGHBOUR: 'it returns false'. Refute it at one input. -/
def penalBetweenWrong : ChangeSpec := { name := "penalBetween", fn := fun _ => fun
  | [d1, d2] => { results := [.lit (.bool false)], args := [d1, d2] }
  | _ => none }
def PenalBetweenWrongFalsely : Prop := penalBetweenRow.holds Tryd.pinned (OpenSpec.ofChange penalBetweenWrong)

/-- 'tiltyardlaw16.PenalHarder': WHATEVER THE INPUT: true; the input reads as it did. -/
def penalHarderSpec : ChangeSpec := { name := "penalHarder", fn := fun _ => fun
  | [d1, d2] => { results := [.lit (.bool true)], args := [d1, d2] }
  | _ => none }
def penalHarderRow : OpenClaim := { program := "ytgknnjbojkjiaaadoor", sum := "7ae6170a104097dcb73eafa09147db816584493128f71579b655c7d6b057e5e8", func := "tiltyard/tiltyardlaw16.PenalHarder", spec := "penalHarder", named := ["tiltyard/penal.ladder"], apart := false, laid := [("tiltyard/penal.ladder", laid_tiltyard_penal_ladder)] }
def PenalHarderSaid : Prop := penalHarderRow.holds Tryd.pinned (OpenSpec.ofChange penalHarderSpec)

/-- ITS FALSE NEIGHBOUR: 'it returns false'. Refute it at one input. -/
def penalHarderWrong : ChangeSpec := { name := "penalHarder", fn := fun _ => fun
  | [d1, d2] => { results := [.lit (.bool false)], args := [d1, d2] }
  | _ => none }
def PenalHarderWrongFalsely : Prop := penalHarderRow.holds Tryd.pinned (OpenSpec.ofChange penalHarderWrong)

/- THE SECOND FORM. 'bulk': how many values and letters a reading holds, each counted each time it is reached (what is shared counts as often as it is met; a slice's spare places count too). A statement '..UptoSaid' is the law's where the arguments, and the package variables that the reading takes, are together of bulk at most 1048576: NARROWER than '..Said'. Prove '..Said' where nothing that the law and all that it calls make is longer than what came in: it says more and counts as full. Else prove '..UptoSaid'. A law counts once. -/
mutual
def uptoBulk {H : Type} : DataW H → Nat
  | .lit (.string bytes) => bytes.length + 1
  | .lit _ => 1
  | .nil => 1
  | .ptr d => uptoBulk d + 1
  | .slice elems spare => uptoBulkAll elems + uptoBulkAll spare + 1
  | .agg parts => uptoBulkAll parts + 1
  | .iface _ d => uptoBulk d + 1
  | .map entries => uptoBulkEntries entries + 1
  | .held _ => 1
def uptoBulkAll {H : Type} : List (DataW H) → Nat
  | [] => 0
  | d :: r => uptoBulk d + uptoBulkAll r
def uptoBulkEntries {H : Type} : List (Lit × DataW H) → Nat
  | [] => 0
  | x :: r => uptoBulkEntry x + uptoBulkEntries r
def uptoBulkEntry {H : Type} : Lit × DataW H → Nat
  | (.string bytes, d) => bytes.length + uptoBulk d + 1
  | (_, d) => uptoBulk d + 1
 end
def uptoSmall : (H : Type) → List (DataW H) → Bool := fun _ ds => decide (uptoBulkAll ds ≤ 1048576)
def OpenSpec.upto (s : _root_.Go.ChangeSpec) : _root_.Go.OpenSpec := { _root_.Go.OpenSpec.ofChange s with cond := some uptoSmall }

/-- 'tiltyardlaw16.PenalMarks', WHERE WHAT IT READS IS OF BULK AT MOST 1048576: true; the input reads as it did. -/
def penalMarksUptoRow : OpenClaim := { program := "ytgknnjbojkjiaaadoor", sum := "7ae6170a104097dcb73eafa09147db816584493128f71579b655c7d6b057e5e8", func := "tiltyard/tiltyardlaw16.PenalMarks", spec := "penalMarks", named := ["tiltyard/penal.ladder"], apart := false, laid := [("tiltyard/penal.ladder", laid_tiltyard_penal_ladder)], narrowed := true }
def PenalMarksUptoSaid : Prop := penalMarksUptoRow.holds Tryd.pinned (OpenSpec.upto penalMarksSpec)

/-- 'tiltyardlaw16.PenalBetween', WHERE WHAT IT READS IS OF BULK AT MOST 1048576: true; the input reads as it did. -/
def penalBetweenUptoRow : OpenClaim := { program := "ytgknnjbojkjiaaadoor", sum := "7ae6170a104097dcb73eafa09147db816584493128f71579b655c7d6b057e5e8", func := "tiltyard/tiltyardlaw16.PenalBetween", spec := "penalBetween", named := ["tiltyard/penal.ladder"], apart := false, laid := [("tiltyard/penal.ladder", laid_tiltyard_penal_ladder)], narrowed := true }
def PenalBetweenUptoSaid : Prop := penalBetweenUptoRow.holds Tryd.pinned (OpenSpec.upto penalBetweenSpec)

/-- 'tiltyardlaw16.PenalHarder', WHERE WHAT IT READS IS OF BULK AT MOST 1048576: true; the input reads as it did. -/
def penalHarderUptoRow : OpenClaim := { program := "ytgknnjbojkjiaaadoor", sum := "7ae6170a104097dcb73eafa09147db816584493128f71579b655c7d6b057e5e8", func := "tiltyard/tiltyardlaw16.PenalHarder", spec := "penalHarder", named := ["tiltyard/penal.ladder"], apart := false, laid := [("tiltyard/penal.ladder", laid_tiltyard_penal_ladder)], narrowed := true }
def PenalHarderUptoSaid : Prop := penalHarderUptoRow.holds Tryd.pinned (OpenSpec.upto penalHarderSpec)

end Rows
end Go.Proofs.YtgknnjbojkjiaaaDoor
