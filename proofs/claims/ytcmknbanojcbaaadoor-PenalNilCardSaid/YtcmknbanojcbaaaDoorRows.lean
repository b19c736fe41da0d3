/-
  NARROWER THAN 'FOR EVERY INPUT', by the rows' own cells (each row's printed sentence says how): PenalNil: laid · PenalRuns: laid · PenalForgets: laid.
  DERIVED. THE GIVEN ROWS OF THIS SEAT. 3 by the template 'for every input the law returns true; each argument reads behind the call as it read before'; 0 by the template 'total and deterministic' (their statements: YtcmknbanojcbaaaDoorTotals.lean).
  GIVEN WITH THE SEED: the statements are not yours to turn. If you find one false, say at which input.
  Laid BY PROGRAM, IN A SANDBOX (cutbox-rows.mjs): the forced cells as the released guide's own fill.sh prints them over the translation 2035442fadd2d5ce… (all of the seat's roots in one cut). By AI agents, Wed Nov 11 2026. No macro, syntax, notation, axiom, sorry.
-/
import Derived.Test.YtcmknbanojcbaaaDoorChecked
import GoSem.Claim
import GoSem.ClaimJoined
import GoSem.ClaimMapViews
import Derived.JoinedTies
import Derived.KernelRfl
namespace Go.Proofs.YtcmknbanojcbaaaDoor
/- THE CELL 'sum', in the pinned program and in every row, IS THE sha256 OF THE DUMP (.gsa) THAT YtcmknbanojcbaaaDoorProg.lean LOADS. Nothing in Lean hashes anything: it is a label: what it is worth is what the hold of that sum in a sandbox is worth. -/
noncomputable def Tryd.pinned : Pinned := { name := "ytcmknbanojcbaaadoor", sum := "2035442fadd2d5ce998fc8783361f79418f9fb219541900e43b1189e495ef7dd", checked := Tryd.checked }
namespace Rows
def none {H : Type} : Left H := { results := [], args := [] }

/- WHAT THE LISTED PACKAGE-LEVEL VARIABLES READ AS WHEN THE CALL BEGINS. Each datum BY PROGRAM (the guide's laid-datum.mjs) off the statement by which the dump's own 'gosem.cut.vars' lays the variable. In a bare row this is a premise. The card (YtcmknbanojcbaaaDoorCards.lean) ties it to the program's text. -/
def laid_tiltyard_penal_ladder {H : Type} : DataW H := .agg [.lit (.int .i64 60), .lit (.int .i64 300), .lit (.int .i64 900), .lit (.int .i64 3600), .lit (.int .i64 14400), .lit (.int .i64 86400)]

/-- 'tiltyardlaw16.PenalNil': WHATEVER THE INPUT: true; the input reads as it did. -/
def penalNilSpec : ChangeSpec := { name := "penalNil", fn := fun _ => fun
  | [d1, d2] => { results := [.lit (.bool true)], args := [d1, d2] }
  | _ => none }
def penalNilRow : OpenClaim := { program := "ytcmknbanojcbaaadoor", sum := "2035442fadd2d5ce998fc8783361f79418f9fb219541900e43b1189e495ef7dd", func := "tiltyard/tiltyardlaw16.PenalNil", spec := "penalNil", inPlace := ["slices.overlaps[tiltyard/rack.row[tiltyard/penal.Mark]]"], unfollowed := true, recurses := true, named := ["tiltyard/penal.ladder"], apart := false, laid := [("tiltyard/penal.ladder", laid_tiltyard_penal_ladder)] }
def PenalNilSaid : Prop := penalNilRow.holds Tryd.pinned (OpenSpec.ofChange penalNilSpec)

/-- ITS FALSE NEIGHBOUR: 'it returns false'. Refute it at one input. -/
def penalNilWrong : ChangeSpec := { name := "penalNil", fn := fun _ => fun
  | [d1, d2] => { results := [.lit (.bool false)], args := [d1, d2] }
  | _ => none }
def PenalNilWrongFalsely : Prop := penalNilRow.holds Tryd.pinned (OpenSpec.ofChange penalNilWrong)

/-- 'tiltyardlaw16.PenalRuns': WHATEVER THE INPUT: true; the input reads as it did. -/
def penalRunsSpec : ChangeSpec := { name := "penalRuns", fn := fun _ => fun
  | [d1, d2] => { results := [.lit (.bool true)], args := [d1, d2] }
  | _ => none }
def penalRunsRow : OpenClaim := { program := "ytcmknbanojcbaaadoor", sum := "2035442fadd2d5ce998fc8783361f79418f9fb219541900e43b1189e495ef7dd", func := "tiltyard/tiltyardlaw16.PenalRuns", spec := "penalRuns", inPlace := ["slices.overlaps[tiltyard/rack.row[tiltyard/penal.Mark]]"], unfollowed := true, recurses := true, named := ["tiltyard/penal.ladder"], apart := false, laid := [("tiltyard/penal.ladder", laid_tiltyard_penal_ladder)] }
def PenalRunsSaid : Prop := penalRunsRow.holds Tryd.pinned (OpenSpec.ofChange penalRunsSpec)

/-- ITS FALSE NEIGHBOUR: 'it returns false'. Refute it at one input. -/
def penalRunsWrong : ChangeSpec := { name := "penalRuns", fn := fun _ => fun
  | [d1, d2] => { results := [.lit (.bool false)], args := [d1, d2] }
  | _ => none }
def PenalRunsWrongFalsely : Prop := penalRunsRow.holds Tryd.pinned (OpenSpec.ofChange penalRunsWrong)

/-- 'tiltyardlaw16.PenalForgets': WHATEVER THE INPUT: true; the input reads as it did. -/
def penalForgetsSpec : ChangeSpec := { name := "penalForgets", fn := fun _ => fun
  | [d1, d2] => { results := [.lit (.bool true)], args := [d1, d2] }
  | _ => none }
def penalForgetsRow : OpenClaim := { program := "ytcmknbanojcbaaadoor", sum := "2035442fadd2d5ce998fc8783361f79418f9fb219541900e43b1189e495ef7dd", func := "tiltyard/tiltyardlaw16.PenalForgets", spec := "penalForgets", inPlace := ["slices.overlaps[tiltyard/rack.row[tiltyard/penal.Mark]]"], unfollowed := true, recurses := true, named := ["tiltyard/penal.ladder"], apart := false, laid := [("tiltyard/penal.ladder", laid_tiltyard_penal_ladder)] }
def PenalForgetsSaid : Prop := penalForgetsRow.holds Tryd.pinned (OpenSpec.ofChange penalForgetsSpec)

/-- ITS FALSE NEIGHBOUR: 'it returns false'. Refute it at one input. -/
def penalForgetsWrong : ChangeSpec := { name := "penalForgets", fn := fun _ => fun
  | [d1, d2] => { results := [.lit (.bool false)], args := [d1, d2] }
  | _ => none }
def PenalForgetsWrongFalsely : Prop := penalForgetsRow.holds Tryd.pinned (OpenSpec.ofChange penalForgetsWrong)

/- THE SECOND FORM. 'bulk': how many values and letters a reading holds, each counted each time it is reached (what is shared counts as often as it is met; a slice's spare places count too). A statement '..UptoSaid' is the law's where the arguments, and the package variables that the reading takes, are together of bulk at most 1048576: NARROWER than '..Said'. Prove '..Said' where nothing that the law and all that it calls make is longer than what came in: it says more and counts as full. Else prove '..UptoSaid'. A law counts once. -/
mutual
def uptoBulk {H : Type} : DataW H → Nat
  | .lit (.string bytes) => bytes.length + 1
  | .lit _ => 1
  | .nil => 1
  | .ptr d => uptoBulk d + 1
  | .slice elems spare => uptoBulkAll elems + uptoBulkAll spare + 1
  | .agg parts => uptoBulkAll parts + 1
  | .iface _ d => uptoBulk d + 1
  | .map entries => uptoBulkEntries entries + 1
  | .held _ => 1
def uptoBulkAll {H : Type} : List (DataW H) → Nat
  | [] => 0
  | d :: r => uptoBulk d + uptoBulkAll r
def uptoBulkEntries {H : Type} : List (Lit × DataW H) → Nat
  | [] => 0
  | x :: r => uptoBulkEntry x + uptoBulkEntries r
def uptoBulkEntry {H : Type} : Lit × DataW H → Nat
  | (.string bytes, d) => bytes.length + uptoBulk d + 1
  | (_, d) => uptoBulk d + 1
 end
def uptoSmall : (H : Type) → List (DataW H) → Bool := fun _ ds => decide (uptoBulkAll ds ≤ 1048576)
def OpenSpec.upto (s : _root_.Go.ChangeSpec) : _root_.Go.OpenSpec := { _root_.Go.OpenSpec.ofChange s with cond := some uptoSmall }

/-- 'tiltyardlaw16.PenalNil', WHERE WHAT IT READS IS OF BULK AT MOST 1048576: true; the input reads as it did. -/
def penalNilUptoRow : OpenClaim := { program := "ytcmknbanojcbaaadoor", sum := "2035442fadd2d5ce998fc8783361f79418f9fb219541900e43b1189e495ef7dd", func := "tiltyard/tiltyardlaw16.PenalNil", spec := "penalNil", inPlace := ["slices.overlaps[tiltyard/rack.row[tiltyard/penal.Mark]]"], unfollowed := true, recurses := true, named := ["tiltyard/penal.ladder"], apart := false, laid := [("tiltyard/penal.ladder", laid_tiltyard_penal_ladder)], narrowed := true }
def PenalNilUptoSaid : Prop := penalNilUptoRow.holds Tryd.pinned (OpenSpec.upto penalNilSpec)

/-- 'tiltyardlaw16.PenalRuns', WHERE WHAT IT READS IS OF BULK AT MOST 1048576: true; the input reads as it did. -/
def penalRunsUptoRow : OpenClaim := { program := "ytcmknbanojcbaaadoor", sum := "2035442fadd2d5ce998fc8783361f79418f9fb219541900e43b1189e495ef7dd", func := "tiltyard/tiltyardlaw16.PenalRuns", spec := "penalRuns", inPlace := ["slices.overlaps[tiltyard/rack.row[tiltyard/penal.Mark]]"], unfollowed := true, recurses := true, named := ["tiltyard/penal.ladder"], apart := false, laid := [("tiltyard/penal.ladder", laid_tiltyard_penal_ladder)], narrowed := true }
def PenalRunsUptoSaid : Prop := penalRunsUptoRow.holds Tryd.pinned (OpenSpec.upto penalRunsSpec)

/-- 'tiltyardlaw16.PenalForgets', WHERE WHAT IT READS IS OF BULK AT MOST 1048576: true; the input reads as it did. -/
def penalForgetsUptoRow : OpenClaim := { program := "ytcmknbanojcbaaadoor", sum := "2035442fadd2d5ce998fc8783361f79418f9fb219541900e43b1189e495ef7dd", func := "tiltyard/tiltyardlaw16.PenalForgets", spec := "penalForgets", inPlace := ["slices.overlaps[tiltyard/rack.row[tiltyard/penal.Mark]]"], unfollowed := true, recurses := true, named := ["tiltyard/penal.ladder"], apart := false, laid := [("tiltyard/penal.ladder", laid_tiltyard_penal_ladder)], narrowed := true }
def PenalForgetsUptoSaid : Prop := penalForgetsUptoRow.holds Tryd.pinned (OpenSpec.upto penalForgetsSpec)

end Rows
end Go.Proofs.YtcmknbanojcbaaaDoor
