/-
  DERIVED. GIVEN WITH THE SEED: THE CARDS: each row of YtcmknbanojcbaaaDoorRows.lean that lists a variable, with what it lists TIED to the program's text (the seventh form; the later family's looks); each row that meets fmt, with fmt's text TOLD by the authors' own Lean function (tested against real Go, not proved from fmt's source: count such statements apart). THE CARD IS WHAT COUNTS. Prove the row's statement (the work); the ties are given (YtcmknbanojcbaaaDoorTie.lean); close each card by the builder's one call (the guide's Derived/Test/ToyasCard.lean, 'card_holds'). Laid BY PROGRAM, IN A SANDBOX (cutbox-door.mjs). By AI agents, Wed Nov 11 2026. No macro, syntax, notation, axiom, sorry.
-/
import Derived.Test.YtcmknbanojcbaaaDoorRows
import GoSem.ClaimSeven
namespace Go.Proofs.YtcmknbanojcbaaaDoor
namespace Rows

/-- THE TIED CARD OF 'tiltyardlaw16.PenalNil'. -/
def penalNilCard : Claim7 := { stood := { row := penalNilRow, standIns := [], harness := (true, "c3b95b435f84a08e637170847850586ed12c14e491d432c6db2b694dd636a3aa"), looks := false }, kinds := [], alts := [], laidByText := true, laidKinds := [.data], laidTests := true, laidLooks := .later }
def PenalNilCardSaid : Prop := Claim7.holds Tryd.pinned (.plain (OpenSpec.ofChange penalNilSpec)) penalNilCard

/-- THE TIED CARD OF 'tiltyardlaw16.PenalRuns'. -/
def penalRunsCard : Claim7 := { stood := { row := penalRunsRow, standIns := [], harness := (true, "c3b95b435f84a08e637170847850586ed12c14e491d432c6db2b694dd636a3aa"), looks := false }, kinds := [], alts := [], laidByText := true, laidKinds := [.data], laidTests := true, laidLooks := .later }
def PenalRunsCardSaid : Prop := Claim7.holds Tryd.pinned (.plain (OpenSpec.ofChange penalRunsSpec)) penalRunsCard

/-- THE TIED CARD OF 'tiltyardlaw16.PenalForgets'. -/
def penalForgetsCard : Claim7 := { stood := { row := penalForgetsRow, standIns := [], harness := (true, "c3b95b435f84a08e637170847850586ed12c14e491d432c6db2b694dd636a3aa"), looks := false }, kinds := [], alts := [], laidByText := true, laidKinds := [.data], laidTests := true, laidLooks := .later }
def PenalForgetsCardSaid : Prop := Claim7.holds Tryd.pinned (.plain (OpenSpec.ofChange penalForgetsSpec)) penalForgetsCard

/-- THE SECOND FORM's CARD OF 'tiltyardlaw16.PenalNil'. -/
def penalNilUptoCard : Claim7 := { stood := { row := penalNilUptoRow, standIns := [], harness := (true, "c3b95b435f84a08e637170847850586ed12c14e491d432c6db2b694dd636a3aa"), looks := false }, kinds := [], alts := [], laidByText := true, laidKinds := [.data], laidTests := true, laidLooks := .later }
def PenalNilUptoCardSaid : Prop := Claim7.holds Tryd.pinned (.plain (OpenSpec.upto penalNilSpec)) penalNilUptoCard

/-- THE SECOND FORM's CARD OF 'tiltyardlaw16.PenalRuns'. -/
def penalRunsUptoCard : Claim7 := { stood := { row := penalRunsUptoRow, standIns := [], harness := (true, "c3b95b435f84a08e637170847850586ed12c14e491d432c6db2b694dd636a3aa"), looks := false }, kinds := [], alts := [], laidByText := true, laidKinds := [.data], laidTests := true, laidLooks := .later }
def PenalRunsUptoCardSaid : Prop := Claim7.holds Tryd.pinned (.plain (OpenSpec.upto penalRunsSpec)) penalRunsUptoCard

/-- THE SECOND FORM's CARD OF 'tiltyardlaw16.PenalForgets'. -/
def penalForgetsUptoCard : Claim7 := { stood := { row := penalForgetsUptoRow, standIns := [], harness := (true, "c3b95b435f84a08e637170847850586ed12c14e491d432c6db2b694dd636a3aa"), looks := false }, kinds := [], alts := [], laidByText := true, laidKinds := [.data], laidTests := true, laidLooks := .later }
def PenalForgetsUptoCardSaid : Prop := Claim7.holds Tryd.pinned (.plain (OpenSpec.upto penalForgetsSpec)) penalForgetsUptoCard
end Rows
end Go.Proofs.YtcmknbanojcbaaaDoor
