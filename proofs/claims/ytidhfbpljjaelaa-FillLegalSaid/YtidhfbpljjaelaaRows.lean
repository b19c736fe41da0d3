/-
  No cell of these rows narrows 'for every input' (looked for: loops, veiled, ifaces, maps, wideKeys, modest, calm, conditions, laid).
  DERIVED. THE GIVEN ROWS OF THIS SEAT. 8 by the template 'for every input the law returns true; each argument reads behind the call as it read before'; 0 by the template 'total and deterministic' (their statements: YtidhfbpljjaelaaTotals.lean).
  GIVEN WITH THE SEED: the statements are not yours to turn. If you find one false, say at which input.
  Laid BY PROGRAM, IN A SANDBOX (cutbox-rows.mjs): the forced cells as the released guide's own fill.sh prints them over the translation 07a87c1b1a9de254… (all of the seat's roots in one cut). By AI agents, Wed Nov 11 2026. No macro, syntax, notation, axiom, sorry.
-/
import Derived.Test.YtidhfbpljjaelaaChecked
import GoSem.Claim
import GoSem.ClaimJoined
import GoSem.ClaimMapViews
import Derived.JoinedTies
import Derived.KernelRfl
namespace Go.Proofs.Ytidhfbpljjaelaa
/- THE CELL 'sum', in the pinned program and in every row, IS THE sha256 OF THE DUMP (.gsa) THAT YtidhfbpljjaelaaProg.lean LOADS. Nothing in Lean hashes anything: it is a label: what it is worth is what the hold of that sum in a sandbox is worth. -/
noncomputable def Try.pinned : Pinned := { name := "ytidhfbpljjaelaa", sum := "07a87c1b1a9de254517d3b100549784e49b4cc1c932d8e6ac922040209afeb54", checked := Try.checked }
namespace Rows
def none {H : Type} : Left H := { results := [], args := [] }

/-- 'tiltyardlaw11.PlanWindows': WHATEVER THE INPUT: true; the input reads as it did. -/
def planWindowsSpec : ChangeSpec := { name := "planWindows", fn := fun _ => fun
  | [d1, d2] => { results := [.lit (.bool true)], args := [d1, d2] }
  | _ => none }
def planWindowsRow : OpenClaim := { program := "ytidhfbpljjaelaa", sum := "07a87c1b1a9de254517d3b100549784e49b4cc1c932d8e6ac922040209afeb54", func := "tiltyard/tiltyardlaw11.PlanWindows", spec := "planWindows", unfollowed := true, recurses := true, apart := false }
def PlanWindowsSaid : Prop := planWindowsRow.holds Try.pinned (OpenSpec.ofChange planWindowsSpec)

/-- ITS FALSE NEIGHBOUR: 'it returns false'. Refute it at one input. -/
def planWindowsWrong : ChangeSpec := { name := "planWindows", fn := fun _ => fun
  | [d1, d2] => { results := [.lit (.bool false)], args := [d1, d2] }
  | _ => none }
def PlanWindowsWrongFalsely : Prop := planWindowsRow.holds Try.pinned (OpenSpec.ofChange planWindowsWrong)

/-- 'tiltyardlaw11.PlanWidens': WHATEVER THE INPUT: true; the input reads as it did. -/
def planWidensSpec : ChangeSpec := { name := "planWidens", fn := fun _ => fun
  | [d1, d2] => { results := [.lit (.bool true)], args := [d1, d2] }
  | _ => none }
def planWidensRow : OpenClaim := { program := "ytidhfbpljjaelaa", sum := "07a87c1b1a9de254517d3b100549784e49b4cc1c932d8e6ac922040209afeb54", func := "tiltyard/tiltyardlaw11.PlanWidens", spec := "planWidens", unfollowed := true, recurses := true, apart := false }
def PlanWidensSaid : Prop := planWidensRow.holds Try.pinned (OpenSpec.ofChange planWidensSpec)

/-- ITS FALSE NEIGHBOUR: 'it returns false'. Refute it at one input. -/
def planWidensWrong : ChangeSpec := { name := "planWidens", fn := fun _ => fun
  | [d1, d2] => { results := [.lit (.bool false)], args := [d1, d2] }
  | _ => none }
def PlanWidensWrongFalsely : Prop := planWidensRow.holds Try.pinned (OpenSpec.ofChange planWidensWrong)

/-- 'tiltyardlaw11.PlanRight': WHATEVER THE INPUT: true; the input reads as it did. -/
def planRightSpec : ChangeSpec := { name := "planRight", fn := fun _ => fun
  | [d1, d2, d3] => { results := [.lit (.bool true)], args := [d1, d2, d3] }
  | _ => none }
def planRightRow : OpenClaim := { program := "ytidhfbpljjaelaa", sum := "07a87c1b1a9de254517d3b100549784e49b4cc1c932d8e6ac922040209afeb54", func := "tiltyard/tiltyardlaw11.PlanRight", spec := "planRight", unfollowed := true, recurses := true, apart := false }
def PlanRightSaid : Prop := planRightRow.holds Try.pinned (OpenSpec.ofChange planRightSpec)

/-- ITS FALSE NEIGHBOUR: 'it returns false'. Refute it at one input. -/
def planRightWrong : ChangeSpec := { name := "planRight", fn := fun _ => fun
  | [d1, d2, d3] => { results := [.lit (.bool false)], args := [d1, d2, d3] }
  | _ => none }
def PlanRightWrongFalsely : Prop := planRightRow.holds Try.pinned (OpenSpec.ofChange planRightWrong)

/-- 'tiltyardlaw11.PlanUsual': WHATEVER THE INPUT: true; the input reads as it did. -/
def planUsualSpec : ChangeSpec := { name := "planUsual", fn := fun _ => fun
  | [d1, d2] => { results := [.lit (.bool true)], args := [d1, d2] }
  | _ => none }
def planUsualRow : OpenClaim := { program := "ytidhfbpljjaelaa", sum := "07a87c1b1a9de254517d3b100549784e49b4cc1c932d8e6ac922040209afeb54", func := "tiltyard/tiltyardlaw11.PlanUsual", spec := "planUsual", unfollowed := true, recurses := true, apart := false }
def PlanUsualSaid : Prop := planUsualRow.holds Try.pinned (OpenSpec.ofChange planUsualSpec)

/-- ITS FALSE NEIGHBOUR: 'it returns false'. Refute it at one input. -/
def planUsualWrong : ChangeSpec := { name := "planUsual", fn := fun _ => fun
  | [d1, d2] => { results := [.lit (.bool false)], args := [d1, d2] }
  | _ => none }
def PlanUsualWrongFalsely : Prop := planUsualRow.holds Try.pinned (OpenSpec.ofChange planUsualWrong)

/-- 'tiltyardlaw19.FillFits': WHATEVER THE INPUT: true; the input reads as it did. -/
def fillFitsSpec : ChangeSpec := { name := "fillFits", fn := fun _ => fun
  | [d1, d2] => { results := [.lit (.bool true)], args := [d1, d2] }
  | _ => none }
def fillFitsRow : OpenClaim := { program := "ytidhfbpljjaelaa", sum := "07a87c1b1a9de254517d3b100549784e49b4cc1c932d8e6ac922040209afeb54", func := "tiltyard/tiltyardlaw19.FillFits", spec := "fillFits", unfollowed := true, recurses := true, apart := false }
def FillFitsSaid : Prop := fillFitsRow.holds Try.pinned (OpenSpec.ofChange fillFitsSpec)

/-- ITS FALSE NEIGHBOUR: 'it returns false'. Refute it at one input. -/
def fillFitsWrong : ChangeSpec := { name := "fillFits", fn := fun _ => fun
  | [d1, d2] => { results := [.lit (.bool false)], args := [d1, d2] }
  | _ => none }
def FillFitsWrongFalsely : Prop := fillFitsRow.holds Try.pinned (OpenSpec.ofChange fillFitsWrong)

/-- 'tiltyardlaw19.FillFinds': WHATEVER THE INPUT: true; the input reads as it did. -/
def fillFindsSpec : ChangeSpec := { name := "fillFinds", fn := fun _ => fun
  | [d] => { results := [.lit (.bool true)], args := [d] }
  | _ => none }
def fillFindsRow : OpenClaim := { program := "ytidhfbpljjaelaa", sum := "07a87c1b1a9de254517d3b100549784e49b4cc1c932d8e6ac922040209afeb54", func := "tiltyard/tiltyardlaw19.FillFinds", spec := "fillFinds", unfollowed := true, recurses := true, apart := false }
def FillFindsSaid : Prop := fillFindsRow.holds Try.pinned (OpenSpec.ofChange fillFindsSpec)

/-- ITS FALSE NEIGHBOUR: 'it returns false'. Refute it at one input. -/
def fillFindsWrong : ChangeSpec := { name := "fillFinds", fn := fun _ => fun
  | [d] => { results := [.lit (.bool false)], args := [d] }
  | _ => none }
def FillFindsWrongFalsely : Prop := fillFindsRow.holds Try.pinned (OpenSpec.ofChange fillFindsWrong)

/-- 'tiltyardlaw19.FillLegal': WHATEVER THE INPUT: true; the input reads as it did. -/
def fillLegalSpec : ChangeSpec := { name := "fillLegal", fn := fun _ => fun
  | [d] => { results := [.lit (.bool true)], args := [d] }
  | _ => none }
def fillLegalRow : OpenClaim := { program := "ytidhfbpljjaelaa", sum := "07a87c1b1a9de254517d3b100549784e49b4cc1c932d8e6ac922040209afeb54", func := "tiltyard/tiltyardlaw19.FillLegal", spec := "fillLegal", unfollowed := true, recurses := true, apart := false }
def FillLegalSaid : Prop := fillLegalRow.holds Try.pinned (OpenSpec.ofChange fillLegalSpec)

/-- ITS FALSE NEIGHBOUR: 'it returns false'. Refute it at one input. -/
def fillLegalWrong : ChangeSpec := { name := "fillLegal", fn := fun _ => fun
  | [d] => { results := [.lit (.bool false)], args := [d] }
  | _ => none }
def FillLegalWrongFalsely : Prop := fillLegalRow.holds Try.pinned (OpenSpec.ofChange fillLegalWrong)

/-- 'tiltyardlaw19.FillOldest': WHATEVER THE INPUT: true; the input reads as it did. -/
def fillOldestSpec : ChangeSpec := { name := "fillOldest", fn := fun _ => fun
  | [d] => { results := [.lit (.bool true)], args := [d] }
  | _ => none }
def fillOldestRow : OpenClaim := { program := "ytidhfbpljjaelaa", sum := "07a87c1b1a9de254517d3b100549784e49b4cc1c932d8e6ac922040209afeb54", func := "tiltyard/tiltyardlaw19.FillOldest", spec := "fillOldest", unfollowed := true, recurses := true, apart := false }
def FillOldestSaid : Prop := fillOldestRow.holds Try.pinned (OpenSpec.ofChange fillOldestSpec)

/-- ITS FALSE NEIGHBOUR: 'it returns false'. Refute it at one input. -/
def fillOldestWrong : ChangeSpec := { name := "fillOldest", fn := fun _ => fun
  | [d] => { results := [.lit (.bool false)], args := [d] }
  | _ => none }
def FillOldestWrongFalsely : Prop := fillOldestRow.holds Try.pinned (OpenSpec.ofChange fillOldestWrong)

/- THE SECOND FORM. 'bulk': how many values and letters a reading holds, each counted each time it is reached (what is shared counts as often as it is met; a slice's spare places count too). A statement '..UptoSaid' is the law's where the arguments, and the package variables that the reading takes, are together of bulk at most 1048576: NARROWER than '..Said'. Prove '..Said' where nothing that the law and all that it calls make is longer than what came in: it says more and counts as full. Else prove '..UptoSaid'. A law counts once. -/
mutual
def uptoBulk {H : Type} : DataW H → Nat
  | .lit (.string bytes) => bytes.length + 1
  | .lit _ => 1
  | .nil => 1
  | .ptr d => uptoBulk d + 1
  | .slice elems spare => uptoBulkAll elems + uptoBulkAll spare + 1
  | .agg parts => uptoBulkAll parts + 1
  | .iface _ d => uptoBulk d + 1
  | .map entries => uptoBulkEntries entries + 1
  | .held _ => 1
def uptoBulkAll {H : Type} : List (DataW H) → Nat
  | [] => 0
  | d :: r => uptoBulk d + uptoBulkAll r
def uptoBulkEntries {H : Type} : List (Lit × DataW H) → Nat
  | [] => 0
  | x :: r => uptoBulkEntry x + uptoBulkEntries r
def uptoBulkEntry {H : Type} : Lit × DataW H → Nat
  | (.string bytes, d) => bytes.length + uptoBulk d + 1
  | (_, d) => uptoBulk d + 1
 end
def uptoSmall : (H : Type) → List (DataW H) → Bool := fun _ ds => decide (uptoBulkAll ds ≤ 1048576)
def OpenSpec.upto (s : _root_.Go.ChangeSpec) : _root_.Go.OpenSpec := { _root_.Go.OpenSpec.ofChange s with cond := some uptoSmall }

/-- 'tiltyardlaw11.PlanWindows', WHERE WHAT IT READS IS OF BULK AT MOST 1048576: true; the input reads as it did. -/
def planWindowsUptoRow : OpenClaim := { program := "ytidhfbpljjaelaa", sum := "07a87c1b1a9de254517d3b100549784e49b4cc1c932d8e6ac922040209afeb54", func := "tiltyard/tiltyardlaw11.PlanWindows", spec := "planWindows", unfollowed := true, recurses := true, apart := false, narrowed := true }
def PlanWindowsUptoSaid : Prop := planWindowsUptoRow.holds Try.pinned (OpenSpec.upto planWindowsSpec)

/-- 'tiltyardlaw11.PlanWidens', WHERE WHAT IT READS IS OF BULK AT MOST 1048576: true; the input reads as it did. -/
def planWidensUptoRow : OpenClaim := { program := "ytidhfbpljjaelaa", sum := "07a87c1b1a9de254517d3b100549784e49b4cc1c932d8e6ac922040209afeb54", func := "tiltyard/tiltyardlaw11.PlanWidens", spec := "planWidens", unfollowed := true, recurses := true, apart := false, narrowed := true }
def PlanWidensUptoSaid : Prop := planWidensUptoRow.holds Try.pinned (OpenSpec.upto planWidensSpec)

/-- 'tiltyardlaw11.PlanRight', WHERE WHAT IT READS IS OF BULK AT MOST 1048576: true; the input reads as it did. -/
def planRightUptoRow : OpenClaim := { program := "ytidhfbpljjaelaa", sum := "07a87c1b1a9de254517d3b100549784e49b4cc1c932d8e6ac922040209afeb54", func := "tiltyard/tiltyardlaw11.PlanRight", spec := "planRight", unfollowed := true, recurses := true, apart := false, narrowed := true }
def PlanRightUptoSaid : Prop := planRightUptoRow.holds Try.pinned (OpenSpec.upto planRightSpec)

/-- 'tiltyardlaw11.PlanUsual', WHERE WHAT IT READS IS OF BULK AT MOST 1048576: true; the input reads as it did. -/
def planUsualUptoRow : OpenClaim := { program := "ytidhfbpljjaelaa", sum := "07a87c1b1a9de254517d3b100549784e49b4cc1c932d8e6ac922040209afeb54", func := "tiltyard/tiltyardlaw11.PlanUsual", spec := "planUsual", unfollowed := true, recurses := true, apart := false, narrowed := true }
def PlanUsualUptoSaid : Prop := planUsualUptoRow.holds Try.pinned (OpenSpec.upto planUsualSpec)

/-- 'tiltyardlaw19.FillFits', WHERE WHAT IT READS IS OF BULK AT MOST 1048576: true; the input reads as it did. -/
def fillFitsUptoRow : OpenClaim := { program := "ytidhfbpljjaelaa", sum := "07a87c1b1a9de254517d3b100549784e49b4cc1c932d8e6ac922040209afeb54", func := "tiltyard/tiltyardlaw19.FillFits", spec := "fillFits", unfollowed := true, recurses := true, apart := false, narrowed := true }
def FillFitsUptoSaid : Prop := fillFitsUptoRow.holds Try.pinned (OpenSpec.upto fillFitsSpec)

/-- 'tiltyardlaw19.FillFinds', WHERE WHAT IT READS IS OF BULK AT MOST 1048576: true; the input reads as it did. -/
def fillFindsUptoRow : OpenClaim := { program := "ytidhfbpljjaelaa", sum := "07a87c1b1a9de254517d3b100549784e49b4cc1c932d8e6ac922040209afeb54", func := "tiltyard/tiltyardlaw19.FillFinds", spec := "fillFinds", unfollowed := true, recurses := true, apart := false, narrowed := true }
def FillFindsUptoSaid : Prop := fillFindsUptoRow.holds Try.pinned (OpenSpec.upto fillFindsSpec)

/-- 'tiltyardlaw19.FillLegal', WHERE WHAT IT READS IS OF BULK AT MOST 1048576: true; the input reads as it did. -/
def fillLegalUptoRow : OpenClaim := { program := "ytidhfbpljjaelaa", sum := "07a87c1b1a9de254517d3b100549784e49b4cc1c932d8e6ac922040209afeb54", func := "tiltyard/tiltyardlaw19.FillLegal", spec := "fillLegal", unfollowed := true, recurses := true, apart := false, narrowed := true }
def FillLegalUptoSaid : Prop := fillLegalUptoRow.holds Try.pinned (OpenSpec.upto fillLegalSpec)

/-- 'tiltyardlaw19.FillOldest', WHERE WHAT IT READS IS OF BULK AT MOST 1048576: true; the input reads as it did. -/
def fillOldestUptoRow : OpenClaim := { program := "ytidhfbpljjaelaa", sum := "07a87c1b1a9de254517d3b100549784e49b4cc1c932d8e6ac922040209afeb54", func := "tiltyard/tiltyardlaw19.FillOldest", spec := "fillOldest", unfollowed := true, recurses := true, apart := false, narrowed := true }
def FillOldestUptoSaid : Prop := fillOldestUptoRow.holds Try.pinned (OpenSpec.upto fillOldestSpec)

end Rows
end Go.Proofs.Ytidhfbpljjaelaa
