/-
  The tied cards of PenalMarks, PenalBetween, PenalHarder: the law returns true for every input; conditions: those of the card.
-/
import Derived.Test.YtgknnjbojkjiaaaDoorPr
namespace Go.Proofs.YtgknnjbojkjiaaaDoor
open Go Go.AM
/-- The tied card of PenalMarks. -/
theorem penalMarks_card : Rows.PenalMarksCardSaid :=
  Claim7.holds_tied_plain_at .later [] [.data] true (true, "13d82d47dc8ca195107ad9be851ba29f68ad0a4b11d5ac15deede96a5b999f14") false
    penalMarks_over (fun _ h => by cases h) (by kernel_rfl) (fun _ h => by cases h) penalMarks_row_tie rfl ⟨rfl, rfl⟩ (by kernel_rfl) rfl
    (fun f fn hf hfn => by
      obtain rfl : f = 3 := Option.some.inj ((show Tryd.prog.funcNamed "tiltyard/tiltyardlaw16.PenalMarks" = some 3 by kernel_rfl).symm.trans hf) |>.symm
      obtain rfl : fn = Tryd.f3 := (Option.some.inj (Tryd.func3.symm.trans hfn)).symm
      exact ⟨by kernel_rfl, fun j t ht => by
        have hall : Tryd.f3.params.toList.all (fun t => !Tryd.prog.wantsStandIn t) = true := by kernel_rfl
        have hm : t ∈ Tryd.f3.params.toList := Array.mem_toList_iff.2 (Array.mem_of_getElem? ht)
        have := List.all_eq_true.1 hall t hm
        exact (by simpa using this : Tryd.prog.wantsStandIn t = false)⟩)
    (by kernel_rfl)
#print axioms penalMarks_card
/-- The tied card of PenalBetween. -/
theorem penalBetween_card : Rows.PenalBetweenCardSaid :=
  Claim7.holds_tied_plain_at .later [] [.data] true (true, "13d82d47dc8ca195107ad9be851ba29f68ad0a4b11d5ac15deede96a5b999f14") false
    penalBetween_over (fun _ h => by cases h) (by kernel_rfl) (fun _ h => by cases h) penalBetween_row_tie rfl ⟨rfl, rfl⟩ (by kernel_rfl) rfl
    (fun f fn hf hfn => by
      obtain rfl : f = 4 := Option.some.inj ((show Tryd.prog.funcNamed "tiltyard/tiltyardlaw16.PenalBetween" = some 4 by kernel_rfl).symm.trans hf) |>.symm
      obtain rfl : fn = Tryd.f4 := (Option.some.inj (Tryd.func4.symm.trans hfn)).symm
      exact ⟨by kernel_rfl, fun j t ht => by
        have hall : Tryd.f4.params.toList.all (fun t => !Tryd.prog.wantsStandIn t) = true := by kernel_rfl
        have hm : t ∈ Tryd.f4.params.toList := Array.mem_toList_iff.2 (Array.mem_of_getElem? ht)
        have := List.all_eq_true.1 hall t hm
        exact (by simpa using this : Tryd.prog.wantsStandIn t = false)⟩)
    (by kernel_rfl)
#print axioms penalBetween_card
/-- The tied card of PenalHarder. -/
theorem penalHarder_card : Rows.PenalHarderCardSaid :=
  Claim7.holds_tied_plain_at .later [] [.data] true (true, "13d82d47dc8ca195107ad9be851ba29f68ad0a4b11d5ac15deede96a5b999f14") false
    penalHarder_over (fun _ h => by cases h) (by kernel_rfl) (fun _ h => by cases h) penalHarder_row_tie rfl ⟨rfl, rfl⟩ (by kernel_rfl) rfl
    (fun f fn hf hfn => by
      obtain rfl : f = 5 := Option.some.inj ((show Tryd.prog.funcNamed "tiltyard/tiltyardlaw16.PenalHarder" = some 5 by kernel_rfl).symm.trans hf) |>.symm
      obtain rfl : fn = Tryd.f5 := (Option.some.inj (Tryd.func5.symm.trans hfn)).symm
      exact ⟨by kernel_rfl, fun j t ht => by
        have hall : Tryd.f5.params.toList.all (fun t => !Tryd.prog.wantsStandIn t) = true := by kernel_rfl
        have hm : t ∈ Tryd.f5.params.toList := Array.mem_toList_iff.2 (Array.mem_of_getElem? ht)
        have := List.all_eq_true.1 hall t hm
        exact (by simpa using this : Tryd.prog.wantsStandIn t = false)⟩)
    (by kernel_rfl)
#print axioms penalHarder_card
end Go.Proofs.YtgknnjbojkjiaaaDoor
