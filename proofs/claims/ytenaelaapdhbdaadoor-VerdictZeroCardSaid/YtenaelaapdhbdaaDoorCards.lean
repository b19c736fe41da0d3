/-
  DERIVED. GIVEN WITH THE SEED: THE CARDS: each row of YtenaelaapdhbdaaDoorRows.lean that lists a variable, with what it lists TIED to the program's text (the seventh form; the later family's looks); each row that meets fmt, with fmt's text TOLD by the authors' own Lean function (tested against real Go, not proved from fmt's source: count such statements apart). THE CARD IS WHAT COUNTS. Prove the row's statement (the work); the ties are given (YtenaelaapdhbdaaDoorTie.lean); close each card by the builder's one call (the guide's Derived/Test/ToyasCard.lean, 'card_holds'). Laid BY PROGRAM, IN A SANDBOX (cutbox-door.mjs). By AI agents, Wed Nov 11 2026. No macro, syntax, notation, axiom, sorry.
-/
import Derived.Test.YtenaelaapdhbdaaDoorRows
import GoSem.ClaimSeven
namespace Go.Proofs.YtenaelaapdhbdaaDoor
namespace Rows

/-- THE TIED CARD OF 'tiltyardlaw23.VerdictOnce'. -/
def verdictOnceCard : Claim7 := { stood := { row := verdictOnceRow, standIns := [], harness := (true, "61bd66acc9ffe9d7a0b6a0265c364591d6975eeede9f5ad7f9dd4c2de8d55071"), looks := false }, kinds := [], alts := [], laidByText := true, laidKinds := [.data, .data], laidTests := true, laidLooks := .later }
def VerdictOnceCardSaid : Prop := Claim7.holds Tryd.pinned (.plain (OpenSpec.ofChange verdictOnceSpec)) verdictOnceCard

/-- THE TIED CARD OF 'tiltyardlaw23.VerdictZero'. -/
def verdictZeroCard : Claim7 := { stood := { row := verdictZeroRow, standIns := [], harness := (true, "61bd66acc9ffe9d7a0b6a0265c364591d6975eeede9f5ad7f9dd4c2de8d55071"), looks := false }, kinds := [], alts := [], laidByText := true, laidKinds := [.data, .data], laidTests := true, laidLooks := .later }
def VerdictZeroCardSaid : Prop := Claim7.holds Tryd.pinned (.plain (OpenSpec.ofChange verdictZeroSpec)) verdictZeroCard

/-- THE SECOND FORM's CARD OF 'tiltyardlaw23.VerdictOnce'. -/
def verdictOnceUptoCard : Claim7 := { stood := { row := verdictOnceUptoRow, standIns := [], harness := (true, "61bd66acc9ffe9d7a0b6a0265c364591d6975eeede9f5ad7f9dd4c2de8d55071"), looks := false }, kinds := [], alts := [], laidByText := true, laidKinds := [.data, .data], laidTests := true, laidLooks := .later }
def VerdictOnceUptoCardSaid : Prop := Claim7.holds Tryd.pinned (.plain (OpenSpec.upto verdictOnceSpec)) verdictOnceUptoCard

/-- THE SECOND FORM's CARD OF 'tiltyardlaw23.VerdictZero'. -/
def verdictZeroUptoCard : Claim7 := { stood := { row := verdictZeroUptoRow, standIns := [], harness := (true, "61bd66acc9ffe9d7a0b6a0265c364591d6975eeede9f5ad7f9dd4c2de8d55071"), looks := false }, kinds := [], alts := [], laidByText := true, laidKinds := [.data, .data], laidTests := true, laidLooks := .later }
def VerdictZeroUptoCardSaid : Prop := Claim7.holds Tryd.pinned (.plain (OpenSpec.upto verdictZeroSpec)) verdictZeroUptoCard
end Rows
end Go.Proofs.YtenaelaapdhbdaaDoor
