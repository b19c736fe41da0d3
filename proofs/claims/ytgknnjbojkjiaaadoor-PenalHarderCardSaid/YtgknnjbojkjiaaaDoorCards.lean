/-
  DERIVED. GIVEN WITH THE SEED: THE CARDS: each row of YtgknnjbojkjiaaaDoorRows.lean that lists a variable, with what it lists TIED to the program's text (the seventh form; the later family's looks); each row that meets fmt, with fmt's text TOLD by the authors' own Lean function (tested against real Go, not proved from fmt's source: count such statements apart). THE CARD IS WHAT COUNTS. Prove the row's statement (the work); the ties are given (YtgknnjbojkjiaaaDoorTie.lean); close each card by the builder's one call (the guide's Derived/Test/ToyasCard.lean, 'card_holds'). Laid BY PROGRAM, IN A SANDBOX (cutbox-door.mjs). By AI agents, Wed Nov 11 2026. No macro, syntax, notation, axiom, sorry.
-/
import Derived.Test.YtgknnjbojkjiaaaDoorRows
import GoSem.ClaimSeven
namespace Go.Proofs.YtgknnjbojkjiaaaDoor
namespace Rows

/-- THE TIED CARD OF 'tiltyardlaw16.PenalMarks'. -/
def penalMarksCard : Claim7 := { stood := { row := penalMarksRow, standIns := [], harness := (true, "13d82d47dc8ca195107ad9be851ba29f68ad0a4b11d5ac15deede96a5b999f14"), looks := false }, kinds := [], alts := [], laidByText := true, laidKinds := [.data], laidTests := true, laidLooks := .later }
def PenalMarksCardSaid : Prop := Claim7.holds Tryd.pinned (.plain (OpenSpec.ofChange penalMarksSpec)) penalMarksCard

/-- THE TIED CARD OF 'tiltyardlaw16.PenalBetween'. -/
def penalBetweenCard : Claim7 := { stood := { row := penalBetweenRow, standIns := [], harness := (true, "13d82d47dc8ca195107ad9be851ba29f68ad0a4b11d5ac15deede96a5b999f14"), looks := false }, kinds := [], alts := [], laidByText := true, laidKinds := [.data], laidTests := true, laidLooks := .later }
def PenalBetweenCardSaid : Prop := Claim7.holds Tryd.pinned (.plain (OpenSpec.ofChange penalBetweenSpec)) penalBetweenCard

/-- THE TIED CARD OF 'tiltyardlaw16.PenalHarder'. -/
def penalHarderCard : Claim7 := { stood := { row := penalHarderRow, standIns := [], harness := (true, "13d82d47dc8ca195107ad9be851ba29f68ad0a4b11d5ac15deede96a5b999f14"), looks := false }, kinds := [], alts := [], laidByText := true, laidKinds := [.data], laidTests := true, laidLooks := .later }
def PenalHarderCardSaid : Prop := Claim7.holds Tryd.pinned (.plain (OpenSpec.ofChange penalHarderSpec)) penalHarderCard

/-- THE SECOND FORM's CARD OF 'tiltyardlaw16.PenalMarks'. -/
def penalMarksUptoCard : Claim7 := { stood := { row := penalMarksUptoRow, standIns := [], harness := (true, "13d82d47dc8ca195107ad9be851ba29f68ad0a4b11d5ac15deede96a5b999f14"), looks := false }, kinds := [], alts := [], laidByText := true, laidKinds := [.data], laidTests := true, laidLooks := .later }
def PenalMarksUptoCardSaid : Prop := Claim7.holds Tryd.pinned (.plain (OpenSpec.upto penalMarksSpec)) penalMarksUptoCard

/-- THE SECOND FORM's CARD OF 'tiltyardlaw16.PenalBetween'. -/
def penalBetweenUptoCard : Claim7 := { stood := { row := penalBetweenUptoRow, standIns := [], harness := (true, "13d82d47dc8ca195107ad9be851ba29f68ad0a4b11d5ac15deede96a5b999f14"), looks := false }, kinds := [], alts := [], laidByText := true, laidKinds := [.data], laidTests := true, laidLooks := .later }
def PenalBetweenUptoCardSaid : Prop := Claim7.holds Tryd.pinned (.plain (OpenSpec.upto penalBetweenSpec)) penalBetweenUptoCard

/-- THE SECOND FORM's CARD OF 'tiltyardlaw16.PenalHarder'. -/
def penalHarderUptoCard : Claim7 := { stood := { row := penalHarderUptoRow, standIns := [], harness := (true, "13d82d47dc8ca195107ad9be851ba29f68ad0a4b11d5ac15deede96a5b999f14"), looks := false }, kinds := [], alts := [], laidByText := true, laidKinds := [.data], laidTests := true, laidLooks := .later }
def PenalHarderUptoCardSaid : Prop := Claim7.holds Tryd.pinned (.plain (OpenSpec.upto penalHarderSpec)) penalHarderUptoCard
end Rows
end Go.Proofs.YtgknnjbojkjiaaaDoor
