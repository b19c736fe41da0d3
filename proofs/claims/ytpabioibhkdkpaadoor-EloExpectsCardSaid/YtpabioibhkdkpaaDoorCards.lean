/-
  DERIVED. GIVEN WITH THE SEED: THE CARDS: each row of YtpabioibhkdkpaaDoorRows.lean that lists a variable, with what it lists TIED to the program's text (the seventh form; the later family's looks); each row that meets fmt, with fmt's text TOLD by the authors' own Lean function (tested against real Go, not proved from fmt's source: count such statements apart). THE CARD IS WHAT COUNTS. Prove the row's statement (the work); the ties are given (YtpabioibhkdkpaaDoorTie.lean); close each card by the builder's one call (the guide's Derived/Test/ToyasCard.lean, 'card_holds'). Laid BY PROGRAM, IN A SANDBOX (cutbox-door.mjs). By AI agents, Wed Nov 11 2026. No macro, syntax, notation, axiom, sorry.
-/
import Derived.Test.YtpabioibhkdkpaaDoorRows
import GoSem.ClaimSeven
namespace Go.Proofs.YtpabioibhkdkpaaDoor
namespace Rows

/-- THE TIED CARD OF 'tiltyardlaw15.EloExpects'. -/
def eloExpectsCard : Claim7 := { stood := { row := eloExpectsRow, standIns := [], harness := (true, "a2284ade903ddf7055f18d0c4c14d0260930ab28575359727880d4158442b664"), looks := false }, kinds := [], alts := [], laidByText := true, laidKinds := [.data, .data], laidTests := true, laidLooks := .later }
def EloExpectsCardSaid : Prop := Claim7.holds Tryd.pinned (.plain (OpenSpec.ofChange eloExpectsSpec)) eloExpectsCard

/-- THE TIED CARD OF 'tiltyardlaw15.EloShares'. -/
def eloSharesCard : Claim7 := { stood := { row := eloSharesRow, standIns := [], harness := (true, "a2284ade903ddf7055f18d0c4c14d0260930ab28575359727880d4158442b664"), looks := false }, kinds := [], alts := [], laidByText := true, laidKinds := [.data, .data], laidTests := true, laidLooks := .later }
def EloSharesCardSaid : Prop := Claim7.holds Tryd.pinned (.plain (OpenSpec.ofChange eloSharesSpec)) eloSharesCard

/-- THE TIED CARD OF 'tiltyardlaw15.EloUpdates'. -/
def eloUpdatesCard : Claim7 := { stood := { row := eloUpdatesRow, standIns := [], harness := (true, "a2284ade903ddf7055f18d0c4c14d0260930ab28575359727880d4158442b664"), looks := false }, kinds := [], alts := [], laidByText := true, laidKinds := [.data, .data], laidTests := true, laidLooks := .later }
def EloUpdatesCardSaid : Prop := Claim7.holds Tryd.pinned (.plain (OpenSpec.ofChange eloUpdatesSpec)) eloUpdatesCard

/-- THE TIED CARD OF 'tiltyardlaw15.EloZero'. -/
def eloZeroCard : Claim7 := { stood := { row := eloZeroRow, standIns := [], harness := (true, "a2284ade903ddf7055f18d0c4c14d0260930ab28575359727880d4158442b664"), looks := false }, kinds := [], alts := [], laidByText := true, laidKinds := [.data, .data], laidTests := true, laidLooks := .later }
def EloZeroCardSaid : Prop := Claim7.holds Tryd.pinned (.plain (OpenSpec.ofChange eloZeroSpec)) eloZeroCard

/-- THE TIED CARD OF 'tiltyardlaw15.EloWins'. -/
def eloWinsCard : Claim7 := { stood := { row := eloWinsRow, standIns := [], harness := (true, "a2284ade903ddf7055f18d0c4c14d0260930ab28575359727880d4158442b664"), looks := false }, kinds := [], alts := [], laidByText := true, laidKinds := [.data, .data], laidTests := true, laidLooks := .later }
def EloWinsCardSaid : Prop := Claim7.holds Tryd.pinned (.plain (OpenSpec.ofChange eloWinsSpec)) eloWinsCard

/-- THE TIED CARD OF 'tiltyardlaw15.EloTurned'. -/
def eloTurnedCard : Claim7 := { stood := { row := eloTurnedRow, standIns := [], harness := (true, "a2284ade903ddf7055f18d0c4c14d0260930ab28575359727880d4158442b664"), looks := false }, kinds := [], alts := [], laidByText := true, laidKinds := [.data, .data], laidTests := true, laidLooks := .later }
def EloTurnedCardSaid : Prop := Claim7.holds Tryd.pinned (.plain (OpenSpec.ofChange eloTurnedSpec)) eloTurnedCard

/-- THE TIED CARD OF 'tiltyardlaw15.EloMore'. -/
def eloMoreCard : Claim7 := { stood := { row := eloMoreRow, standIns := [], harness := (true, "a2284ade903ddf7055f18d0c4c14d0260930ab28575359727880d4158442b664"), looks := false }, kinds := [], alts := [], laidByText := true, laidKinds := [.data, .data], laidTests := true, laidLooks := .later }
def EloMoreCardSaid : Prop := Claim7.holds Tryd.pinned (.plain (OpenSpec.ofChange eloMoreSpec)) eloMoreCard

/-- THE SECOND FORM's CARD OF 'tiltyardlaw15.EloExpects'. -/
def eloExpectsUptoCard : Claim7 := { stood := { row := eloExpectsUptoRow, standIns := [], harness := (true, "a2284ade903ddf7055f18d0c4c14d0260930ab28575359727880d4158442b664"), looks := false }, kinds := [], alts := [], laidByText := true, laidKinds := [.data, .data], laidTests := true, laidLooks := .later }
def EloExpectsUptoCardSaid : Prop := Claim7.holds Tryd.pinned (.plain (OpenSpec.upto eloExpectsSpec)) eloExpectsUptoCard

/-- THE SECOND FORM's CARD OF 'tiltyardlaw15.EloShares'. -/
def eloSharesUptoCard : Claim7 := { stood := { row := eloSharesUptoRow, standIns := [], harness := (true, "a2284ade903ddf7055f18d0c4c14d0260930ab28575359727880d4158442b664"), looks := false }, kinds := [], alts := [], laidByText := true, laidKinds := [.data, .data], laidTests := true, laidLooks := .later }
def EloSharesUptoCardSaid : Prop := Claim7.holds Tryd.pinned (.plain (OpenSpec.upto eloSharesSpec)) eloSharesUptoCard

/-- THE SECOND FORM's CARD OF 'tiltyardlaw15.EloUpdates'. -/
def eloUpdatesUptoCard : Claim7 := { stood := { row := eloUpdatesUptoRow, standIns := [], harness := (true, "a2284ade903ddf7055f18d0c4c14d0260930ab28575359727880d4158442b664"), looks := false }, kinds := [], alts := [], laidByText := true, laidKinds := [.data, .data], laidTests := true, laidLooks := .later }
def EloUpdatesUptoCardSaid : Prop := Claim7.holds Tryd.pinned (.plain (OpenSpec.upto eloUpdatesSpec)) eloUpdatesUptoCard

/-- THE SECOND FORM's CARD OF 'tiltyardlaw15.EloZero'. -/
def eloZeroUptoCard : Claim7 := { stood := { row := eloZeroUptoRow, standIns := [], harness := (true, "a2284ade903ddf7055f18d0c4c14d0260930ab28575359727880d4158442b664"), looks := false }, kinds := [], alts := [], laidByText := true, laidKinds := [.data, .data], laidTests := true, laidLooks := .later }
def EloZeroUptoCardSaid : Prop := Claim7.holds Tryd.pinned (.plain (OpenSpec.upto eloZeroSpec)) eloZeroUptoCard

/-- THE SECOND FORM's CARD OF 'tiltyardlaw15.EloWins'. -/
def eloWinsUptoCard : Claim7 := { stood := { row := eloWinsUptoRow, standIns := [], harness := (true, "a2284ade903ddf7055f18d0c4c14d0260930ab28575359727880d4158442b664"), looks := false }, kinds := [], alts := [], laidByText := true, laidKinds := [.data, .data], laidTests := true, laidLooks := .later }
def EloWinsUptoCardSaid : Prop := Claim7.holds Tryd.pinned (.plain (OpenSpec.upto eloWinsSpec)) eloWinsUptoCard

/-- THE SECOND FORM's CARD OF 'tiltyardlaw15.EloTurned'. -/
def eloTurnedUptoCard : Claim7 := { stood := { row := eloTurnedUptoRow, standIns := [], harness := (true, "a2284ade903ddf7055f18d0c4c14d0260930ab28575359727880d4158442b664"), looks := false }, kinds := [], alts := [], laidByText := true, laidKinds := [.data, .data], laidTests := true, laidLooks := .later }
def EloTurnedUptoCardSaid : Prop := Claim7.holds Tryd.pinned (.plain (OpenSpec.upto eloTurnedSpec)) eloTurnedUptoCard

/-- THE SECOND FORM's CARD OF 'tiltyardlaw15.EloMore'. -/
def eloMoreUptoCard : Claim7 := { stood := { row := eloMoreUptoRow, standIns := [], harness := (true, "a2284ade903ddf7055f18d0c4c14d0260930ab28575359727880d4158442b664"), looks := false }, kinds := [], alts := [], laidByText := true, laidKinds := [.data, .data], laidTests := true, laidLooks := .later }
def EloMoreUptoCardSaid : Prop := Claim7.holds Tryd.pinned (.plain (OpenSpec.upto eloMoreSpec)) eloMoreUptoCard
end Rows
end Go.Proofs.YtpabioibhkdkpaaDoor
