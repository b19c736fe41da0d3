/-
  The tied cards: without a book nobody is hit; whoever is hit, and when, each answer and mark is the document's (of 60 acts, a book of 20); in the end all is forgotten (of 20 hits).
-/
import Derived.Test.YtcmknbanojcbaaaDoorHr
namespace Go.Proofs.YtcmknbanojcbaaaDoor
open Go Go.AM
/-- The tied card of PenalNil. -/
theorem penalNil_card : Rows.PenalNilCardSaid :=
  Claim7.holds_tied_plain_at .later [] [.data] true (true, "c3b95b435f84a08e637170847850586ed12c14e491d432c6db2b694dd636a3aa") false
    penalNil_over (fun _ h => by cases h) (by kernel_rfl) (fun _ h => by cases h) penalNil_row_tie rfl ⟨rfl, rfl⟩ (by kernel_rfl) rfl
    (fun f fn hf hfn => by
      obtain rfl : f = 3 := Option.some.inj ((show Tryd.prog.funcNamed "tiltyard/tiltyardlaw16.PenalNil" = some 3 by kernel_rfl).symm.trans hf) |>.symm
      obtain rfl : fn = Tryd.f3 := (Option.some.inj (Tryd.func3.symm.trans hfn)).symm
      exact ⟨by kernel_rfl, fun j t ht => by
        have hall : Tryd.f3.params.toList.all (fun t => !Tryd.prog.wantsStandIn t) = true := by kernel_rfl
        have hm : t ∈ Tryd.f3.params.toList := Array.mem_toList_iff.2 (Array.mem_of_getElem? ht)
        have := List.all_eq_true.1 hall t hm
        exact (by simpa using this : Tryd.prog.wantsStandIn t = false)⟩)
    (by kernel_rfl)
#print axioms penalNil_card
/-- The tied card of PenalRuns. -/
theorem penalRuns_card : Rows.PenalRunsCardSaid :=
  Claim7.holds_tied_plain_at .later [] [.data] true (true, "c3b95b435f84a08e637170847850586ed12c14e491d432c6db2b694dd636a3aa") false
    penalRuns_over (fun _ h => by cases h) (by kernel_rfl) (fun _ h => by cases h) penalRuns_row_tie rfl ⟨rfl, rfl⟩ (by kernel_rfl) rfl
    (fun f fn hf hfn => by
      obtain rfl : f = 4 := Option.some.inj ((show Tryd.prog.funcNamed "tiltyard/tiltyardlaw16.PenalRuns" = some 4 by kernel_rfl).symm.trans hf) |>.symm
      obtain rfl : fn = Tryd.f4 := (Option.some.inj (Tryd.func4.symm.trans hfn)).symm
      exact ⟨by kernel_rfl, fun j t ht => by
        have hall : Tryd.f4.params.toList.all (fun t => !Tryd.prog.wantsStandIn t) = true := by kernel_rfl
        have hm : t ∈ Tryd.f4.params.toList := Array.mem_toList_iff.2 (Array.mem_of_getElem? ht)
        have := List.all_eq_true.1 hall t hm
        exact (by simpa using this : Tryd.prog.wantsStandIn t = false)⟩)
    (by kernel_rfl)
#print axioms penalRuns_card
/-- The tied card of PenalForgets. -/
theorem penalForgets_card : Rows.PenalForgetsCardSaid :=
  Claim7.holds_tied_plain_at .later [] [.data] true (true, "c3b95b435f84a08e637170847850586ed12c14e491d432c6db2b694dd636a3aa") false
    penalForgets_over (fun _ h => by cases h) (by kernel_rfl) (fun _ h => by cases h) penalForgets_row_tie rfl ⟨rfl, rfl⟩ (by kernel_rfl) rfl
    (fun f fn hf hfn => by
      obtain rfl : f = 5 := Option.some.inj ((show Tryd.prog.funcNamed "tiltyard/tiltyardlaw16.PenalForgets" = some 5 by kernel_rfl).symm.trans hf) |>.symm
      obtain rfl : fn = Tryd.f5 := (Option.some.inj (Tryd.func5.symm.trans hfn)).symm
      exact ⟨by kernel_rfl, fun j t ht => by
        have hall : Tryd.f5.params.toList.all (fun t => !Tryd.prog.wantsStandIn t) = true := by kernel_rfl
        have hm : t ∈ Tryd.f5.params.toList := Array.mem_toList_iff.2 (Array.mem_of_getElem? ht)
        have := List.all_eq_true.1 hall t hm
        exact (by simpa using this : Tryd.prog.wantsStandIn t = false)⟩)
    (by kernel_rfl)
#print axioms penalForgets_card
end Go.Proofs.YtcmknbanojcbaaaDoor
