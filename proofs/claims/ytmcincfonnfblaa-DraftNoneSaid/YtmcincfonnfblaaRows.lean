/-
  No cell of these rows narrows 'for every input' (looked for: loops, veiled, ifaces, maps, wideKeys, modest, calm, conditions, laid).
  DERIVED. THE GIVEN ROWS OF THIS SEAT. 6 by the template 'for every input the law returns true; each argument reads behind the call as it read before'; 0 by the template 'total and deterministic' (their statements: YtmcincfonnfblaaTotals.lean).
  GIVEN WITH THE SEED: the statements are not yours to turn. If you find one false, say at which input.
  Laid BY PROGRAM, IN A SANDBOX (cutbox-rows.mjs): the forced cells as the released guide's own fill.sh prints them over the translation 471887f635598dba… (all of the seat's roots in one cut). By AI agents, Wed Nov 11 2026. No macro, syntax, notation, axiom, sorry.
-/
import Derived.Test.YtmcincfonnfblaaChecked
import GoSem.Claim
import GoSem.ClaimJoined
import GoSem.ClaimMapViews
import Derived.JoinedTies
import Derived.KernelRfl
namespace Go.Proofs.Ytmcincfonnfblaa
/- THE CELL 'sum', in the pinned program and in every row, IS THE sha256 OF THE DUMP (.gsa) THAT YtmcincfonnfblaaProg.lean LOADS. Nothing in Lean hashes anything: it is a label: what it is worth is what the hold of that sum in a sandbox is worth. -/
noncomputable def Try.pinned : Pinned := { name := "ytmcincfonnfblaa", sum := "471887f635598dba93cca2a96741dec621c819e4a30430c31586e955f9582cc1", checked := Try.checked }
namespace Rows
def none {H : Type} : Left H := { results := [], args := [] }

/-- 'tiltyardlaw18.DraftTeams': WHATEVER THE INPUT: true; the input reads as it did. -/
def draftTeamsSpec : ChangeSpec := { name := "draftTeams", fn := fun _ => fun
  | [d1, d2] => { results := [.lit (.bool true)], args := [d1, d2] }
  | _ => none }
def draftTeamsRow : OpenClaim := { program := "ytmcincfonnfblaa", sum := "471887f635598dba93cca2a96741dec621c819e4a30430c31586e955f9582cc1", func := "tiltyard/tiltyardlaw18.DraftTeams", spec := "draftTeams", unfollowed := true, recurses := true, apart := false }
def DraftTeamsSaid : Prop := draftTeamsRow.holds Try.pinned (OpenSpec.ofChange draftTeamsSpec)

/-- ITS FALSE NEIGHBOUR: 'it returns false'. Refute it at one input. -/
def draftTeamsWrong : ChangeSpec := { name := "draftTeams", fn := fun _ => fun
  | [d1, d2] => { results := [.lit (.bool false)], args := [d1, d2] }
  | _ => none }
def DraftTeamsWrongFalsely : Prop := draftTeamsRow.holds Try.pinned (OpenSpec.ofChange draftTeamsWrong)

/-- 'tiltyardlaw18.DraftFinds': WHATEVER THE INPUT: true; the input reads as it did. -/
def draftFindsSpec : ChangeSpec := { name := "draftFinds", fn := fun _ => fun
  | [d1, d2, d3] => { results := [.lit (.bool true)], args := [d1, d2, d3] }
  | _ => none }
def draftFindsRow : OpenClaim := { program := "ytmcincfonnfblaa", sum := "471887f635598dba93cca2a96741dec621c819e4a30430c31586e955f9582cc1", func := "tiltyard/tiltyardlaw18.DraftFinds", spec := "draftFinds", unfollowed := true, recurses := true, apart := false }
def DraftFindsSaid : Prop := draftFindsRow.holds Try.pinned (OpenSpec.ofChange draftFindsSpec)

/-- ITS FALSE NEIGHBOUR: 'it returns false'. Refute it at one input. -/
def draftFindsWrong : ChangeSpec := { name := "draftFinds", fn := fun _ => fun
  | [d1, d2, d3] => { results := [.lit (.bool false)], args := [d1, d2, d3] }
  | _ => none }
def DraftFindsWrongFalsely : Prop := draftFindsRow.holds Try.pinned (OpenSpec.ofChange draftFindsWrong)

/-- 'tiltyardlaw18.DraftLegal': WHATEVER THE INPUT: true; the input reads as it did. -/
def draftLegalSpec : ChangeSpec := { name := "draftLegal", fn := fun _ => fun
  | [d1, d2, d3] => { results := [.lit (.bool true)], args := [d1, d2, d3] }
  | _ => none }
def draftLegalRow : OpenClaim := { program := "ytmcincfonnfblaa", sum := "471887f635598dba93cca2a96741dec621c819e4a30430c31586e955f9582cc1", func := "tiltyard/tiltyardlaw18.DraftLegal", spec := "draftLegal", unfollowed := true, recurses := true, apart := false }
def DraftLegalSaid : Prop := draftLegalRow.holds Try.pinned (OpenSpec.ofChange draftLegalSpec)

/-- ITS FALSE NEIGHBOUR: 'it returns false'. Refute it at one input. -/
def draftLegalWrong : ChangeSpec := { name := "draftLegal", fn := fun _ => fun
  | [d1, d2, d3] => { results := [.lit (.bool false)], args := [d1, d2, d3] }
  | _ => none }
def DraftLegalWrongFalsely : Prop := draftLegalRow.holds Try.pinned (OpenSpec.ofChange draftLegalWrong)

/-- 'tiltyardlaw18.DraftFits': WHATEVER THE INPUT: true; the input reads as it did. -/
def draftFitsSpec : ChangeSpec := { name := "draftFits", fn := fun _ => fun
  | [d1, d2, d3] => { results := [.lit (.bool true)], args := [d1, d2, d3] }
  | _ => none }
def draftFitsRow : OpenClaim := { program := "ytmcincfonnfblaa", sum := "471887f635598dba93cca2a96741dec621c819e4a30430c31586e955f9582cc1", func := "tiltyard/tiltyardlaw18.DraftFits", spec := "draftFits", unfollowed := true, recurses := true, apart := false }
def DraftFitsSaid : Prop := draftFitsRow.holds Try.pinned (OpenSpec.ofChange draftFitsSpec)

/-- ITS FALSE NEIGHBOUR: 'it returns false'. Refute it at one input. -/
def draftFitsWrong : ChangeSpec := { name := "draftFits", fn := fun _ => fun
  | [d1, d2, d3] => { results := [.lit (.bool false)], args := [d1, d2, d3] }
  | _ => none }
def DraftFitsWrongFalsely : Prop := draftFitsRow.holds Try.pinned (OpenSpec.ofChange draftFitsWrong)

/-- 'tiltyardlaw18.DraftNone': WHATEVER THE INPUT: true; the input reads as it did. -/
def draftNoneSpec : ChangeSpec := { name := "draftNone", fn := fun _ => fun
  | [d1, d2, d3] => { results := [.lit (.bool true)], args := [d1, d2, d3] }
  | _ => none }
def draftNoneRow : OpenClaim := { program := "ytmcincfonnfblaa", sum := "471887f635598dba93cca2a96741dec621c819e4a30430c31586e955f9582cc1", func := "tiltyard/tiltyardlaw18.DraftNone", spec := "draftNone", unfollowed := true, recurses := true, apart := false }
def DraftNoneSaid : Prop := draftNoneRow.holds Try.pinned (OpenSpec.ofChange draftNoneSpec)

/-- ITS FALSE NEIGHBOUR: 'it returns false'. Refute it at one input. -/
def draftNoneWrong : ChangeSpec := { name := "draftNone", fn := fun _ => fun
  | [d1, d2, d3] => { results := [.lit (.bool false)], args := [d1, d2, d3] }
  | _ => none }
def DraftNoneWrongFalsely : Prop := draftNoneRow.holds Try.pinned (OpenSpec.ofChange draftNoneWrong)

/-- 'tiltyardlaw18.DraftWaits': WHATEVER THE INPUT: true; the input reads as it did. -/
def draftWaitsSpec : ChangeSpec := { name := "draftWaits", fn := fun _ => fun
  | [d1, d2, d3] => { results := [.lit (.bool true)], args := [d1, d2, d3] }
  | _ => none }
def draftWaitsRow : OpenClaim := { program := "ytmcincfonnfblaa", sum := "471887f635598dba93cca2a96741dec621c819e4a30430c31586e955f9582cc1", func := "tiltyard/tiltyardlaw18.DraftWaits", spec := "draftWaits", unfollowed := true, recurses := true, apart := false }
def DraftWaitsSaid : Prop := draftWaitsRow.holds Try.pinned (OpenSpec.ofChange draftWaitsSpec)

/-- ITS FALSE NEIGHBOUR: 'it returns false'. Refute it at one input. -/
def draftWaitsWrong : ChangeSpec := { name := "draftWaits", fn := fun _ => fun
  | [d1, d2, d3] => { results := [.lit (.bool false)], args := [d1, d2, d3] }
  | _ => none }
def DraftWaitsWrongFalsely : Prop := draftWaitsRow.holds Try.pinned (OpenSpec.ofChange draftWaitsWrong)

/- THE SECOND FORM. 'bulk': how many values and letters a reading holds, each counted each time it is reached (what is shared counts as often as it is met; a slice's spare places count too). A statement '..UptoSaid' is the law's where the arguments, and the package variables that the reading takes, are together of bulk at most 1048576: NARROWER than '..Said'. Prove '..Said' where nothing that the law and all that it calls make is longer than what came in: it says more and counts as full. Else prove '..UptoSaid'. A law counts once. -/
mutual
def uptoBulk {H : Type} : DataW H → Nat
  | .lit (.string bytes) => bytes.length + 1
  | .lit _ => 1
  | .nil => 1
  | .ptr d => uptoBulk d + 1
  | .slice elems spare => uptoBulkAll elems + uptoBulkAll spare + 1
  | .agg parts => uptoBulkAll parts + 1
  | .iface _ d => uptoBulk d + 1
  | .map entries => uptoBulkEntries entries + 1
  | .held _ => 1
def uptoBulkAll {H : Type} : List (DataW H) → Nat
  | [] => 0
  | d :: r => uptoBulk d + uptoBulkAll r
def uptoBulkEntries {H : Type} : List (Lit × DataW H) → Nat
  | [] => 0
  | x :: r => uptoBulkEntry x + uptoBulkEntries r
def uptoBulkEntry {H : Type} : Lit × DataW H → Nat
  | (.string bytes, d) => bytes.length + uptoBulk d + 1
  | (_, d) => uptoBulk d + 1
 end
def uptoSmall : (H : Type) → List (DataW H) → Bool := fun _ ds => decide (uptoBulkAll ds ≤ 1048576)
def OpenSpec.upto (s : _root_.Go.ChangeSpec) : _root_.Go.OpenSpec := { _root_.Go.OpenSpec.ofChange s with cond := some uptoSmall }

/-- 'tiltyardlaw18.DraftTeams', WHERE WHAT IT READS IS OF BULK AT MOST 1048576: true; the input reads as it did. -/
def draftTeamsUptoRow : OpenClaim := { program := "ytmcincfonnfblaa", sum := "471887f635598dba93cca2a96741dec621c819e4a30430c31586e955f9582cc1", func := "tiltyard/tiltyardlaw18.DraftTeams", spec := "draftTeams", unfollowed := true, recurses := true, apart := false, narrowed := true }
def DraftTeamsUptoSaid : Prop := draftTeamsUptoRow.holds Try.pinned (OpenSpec.upto draftTeamsSpec)

/-- 'tiltyardlaw18.DraftFinds', WHERE WHAT IT READS IS OF BULK AT MOST 1048576: true; the input reads as it did. -/
def draftFindsUptoRow : OpenClaim := { program := "ytmcincfonnfblaa", sum := "471887f635598dba93cca2a96741dec621c819e4a30430c31586e955f9582cc1", func := "tiltyard/tiltyardlaw18.DraftFinds", spec := "draftFinds", unfollowed := true, recurses := true, apart := false, narrowed := true }
def DraftFindsUptoSaid : Prop := draftFindsUptoRow.holds Try.pinned (OpenSpec.upto draftFindsSpec)

/-- 'tiltyardlaw18.DraftLegal', WHERE WHAT IT READS IS OF BULK AT MOST 1048576: true; the input reads as it did. -/
def draftLegalUptoRow : OpenClaim := { program := "ytmcincfonnfblaa", sum := "471887f635598dba93cca2a96741dec621c819e4a30430c31586e955f9582cc1", func := "tiltyard/tiltyardlaw18.DraftLegal", spec := "draftLegal", unfollowed := true, recurses := true, apart := false, narrowed := true }
def DraftLegalUptoSaid : Prop := draftLegalUptoRow.holds Try.pinned (OpenSpec.upto draftLegalSpec)

/-- 'tiltyardlaw18.DraftFits', WHERE WHAT IT READS IS OF BULK AT MOST 1048576: true; the input reads as it did. -/
def draftFitsUptoRow : OpenClaim := { program := "ytmcincfonnfblaa", sum := "471887f635598dba93cca2a96741dec621c819e4a30430c31586e955f9582cc1", func := "tiltyard/tiltyardlaw18.DraftFits", spec := "draftFits", unfollowed := true, recurses := true, apart := false, narrowed := true }
def DraftFitsUptoSaid : Prop := draftFitsUptoRow.holds Try.pinned (OpenSpec.upto draftFitsSpec)

/-- 'tiltyardlaw18.DraftNone', WHERE WHAT IT READS IS OF BULK AT MOST 1048576: true; the input reads as it did. -/
def draftNoneUptoRow : OpenClaim := { program := "ytmcincfonnfblaa", sum := "471887f635598dba93cca2a96741dec621c819e4a30430c31586e955f9582cc1", func := "tiltyard/tiltyardlaw18.DraftNone", spec := "draftNone", unfollowed := true, recurses := true, apart := false, narrowed := true }
def DraftNoneUptoSaid : Prop := draftNoneUptoRow.holds Try.pinned (OpenSpec.upto draftNoneSpec)

/-- 'tiltyardlaw18.DraftWaits', WHERE WHAT IT READS IS OF BULK AT MOST 1048576: true; the input reads as it did. -/
def draftWaitsUptoRow : OpenClaim := { program := "ytmcincfonnfblaa", sum := "471887f635598dba93cca2a96741dec621c819e4a30430c31586e955f9582cc1", func := "tiltyard/tiltyardlaw18.DraftWaits", spec := "draftWaits", unfollowed := true, recurses := true, apart := false, narrowed := true }
def DraftWaitsUptoSaid : Prop := draftWaitsUptoRow.holds Try.pinned (OpenSpec.upto draftWaitsSpec)

end Rows
end Go.Proofs.Ytmcincfonnfblaa
