/-
  DERIVED. GIVEN WITH THE SEED: THE CARDS: each row of YtenaelaapdhbdaaGreatDoorRows.lean that lists a variable, with what it lists TIED to the program's text (the seventh form; the later family's looks); each row that meets fmt, with fmt's text TOLD by the authors' own Lean function (tested against real Go, not proved from fmt's source: count such statements apart). THE CARD IS WHAT COUNTS. Prove the row's statement (the work); the ties are given (YtenaelaapdhbdaaGreatDoorTie.lean); close each card by the builder's one call (the guide's Derived/Test/ToyasCard.lean, 'card_holds'). Laid BY PROGRAM, IN A SANDBOX (cutbox-door.mjs). By AI agents, Wed Nov 11 2026. No macro, syntax, notation, axiom, sorry.
-/
import Derived.Test.YtenaelaapdhbdaaGreatDoorRows
import GoSem.ClaimSeven
namespace Go.Proofs.YtenaelaapdhbdaaGreatDoor
namespace Rows

/-- THE TIED CARD OF 'tiltyardlaw23.VerdictReports'. -/
def verdictReportsCard : Claim7 := { stood := { row := verdictReportsRow, standIns := [], harness := (true, "8f14db1090b4447bea94cb84df1b77628d7f8ebf1a6bda5e3bb0af822ea9783b"), looks := false }, kinds := [], alts := [], laidByText := true, laidKinds := [.data, .data], laidTests := true, laidLooks := .later }
def VerdictReportsCardSaid : Prop := Claim7.holds Tryz.pinned (.plain (OpenSpec.ofChange verdictReportsSpec)) verdictReportsCard

/-- THE TIED CARD OF 'tiltyardlaw23.VerdictJudges'. -/
def verdictJudgesCard : Claim7 := { stood := { row := verdictJudgesRow, standIns := [], harness := (true, "8f14db1090b4447bea94cb84df1b77628d7f8ebf1a6bda5e3bb0af822ea9783b"), looks := false }, kinds := [], alts := [], laidByText := true, laidKinds := [.data, .data], laidTests := true, laidLooks := .later }
def VerdictJudgesCardSaid : Prop := Claim7.holds Tryz.pinned (.plain (OpenSpec.ofChange verdictJudgesSpec)) verdictJudgesCard

/-- THE TIED CARD OF 'tiltyardlaw23.VerdictApplies'. -/
def verdictAppliesCard : Claim7 := { stood := { row := verdictAppliesRow, standIns := [], harness := (true, "8f14db1090b4447bea94cb84df1b77628d7f8ebf1a6bda5e3bb0af822ea9783b"), looks := false }, kinds := [], alts := [], laidByText := true, laidKinds := [.data, .data], laidTests := true, laidLooks := .later }
def VerdictAppliesCardSaid : Prop := Claim7.holds Tryz.pinned (.plain (OpenSpec.ofChange verdictAppliesSpec)) verdictAppliesCard

/-- THE SECOND FORM's CARD OF 'tiltyardlaw23.VerdictReports'. -/
def verdictReportsUptoCard : Claim7 := { stood := { row := verdictReportsUptoRow, standIns := [], harness := (true, "8f14db1090b4447bea94cb84df1b77628d7f8ebf1a6bda5e3bb0af822ea9783b"), looks := false }, kinds := [], alts := [], laidByText := true, laidKinds := [.data, .data], laidTests := true, laidLooks := .later }
def VerdictReportsUptoCardSaid : Prop := Claim7.holds Tryz.pinned (.plain (OpenSpec.upto verdictReportsSpec)) verdictReportsUptoCard

/-- THE SECOND FORM's CARD OF 'tiltyardlaw23.VerdictJudges'. -/
def verdictJudgesUptoCard : Claim7 := { stood := { row := verdictJudgesUptoRow, standIns := [], harness := (true, "8f14db1090b4447bea94cb84df1b77628d7f8ebf1a6bda5e3bb0af822ea9783b"), looks := false }, kinds := [], alts := [], laidByText := true, laidKinds := [.data, .data], laidTests := true, laidLooks := .later }
def VerdictJudgesUptoCardSaid : Prop := Claim7.holds Tryz.pinned (.plain (OpenSpec.upto verdictJudgesSpec)) verdictJudgesUptoCard

/-- THE SECOND FORM's CARD OF 'tiltyardlaw23.VerdictApplies'. -/
def verdictAppliesUptoCard : Claim7 := { stood := { row := verdictAppliesUptoRow, standIns := [], harness := (true, "8f14db1090b4447bea94cb84df1b77628d7f8ebf1a6bda5e3bb0af822ea9783b"), looks := false }, kinds := [], alts := [], laidByText := true, laidKinds := [.data, .data], laidTests := true, laidLooks := .later }
def VerdictAppliesUptoCardSaid : Prop := Claim7.holds Tryz.pinned (.plain (OpenSpec.upto verdictAppliesSpec)) verdictAppliesUptoCard
end Rows
end Go.Proofs.YtenaelaapdhbdaaGreatDoor
