/-
  The tied cards of the statements of layer 15: for every input each law returns true, and each argument reads as it did.
-/
import Derived.Test.YtpabioibhkdkpaaDoorEr
namespace Go.Proofs.YtpabioibhkdkpaaDoor
open Go Go.AM
/-- The tied card of EloExpects. -/
theorem eloExpects_card : Rows.EloExpectsCardSaid :=
  Claim7.holds_tied_plain_at .later [] [.data, .data] true (true, "a2284ade903ddf7055f18d0c4c14d0260930ab28575359727880d4158442b664") false
    eloExpects_over (fun _ h => by cases h) (by kernel_rfl) (fun _ h => by cases h) eloExpects_row_tie rfl ⟨rfl, rfl⟩ (by kernel_rfl) rfl
    (fun f fn hf hfn => by
      obtain rfl : f = 3 := Option.some.inj ((show Tryd.prog.funcNamed "tiltyard/tiltyardlaw15.EloExpects" = some 3 by kernel_rfl).symm.trans hf) |>.symm
      obtain rfl : fn = Tryd.f3 := (Option.some.inj (Tryd.func3.symm.trans hfn)).symm
      exact ⟨by kernel_rfl, fun j t ht => by
        have hall : Tryd.f3.params.toList.all (fun t => !Tryd.prog.wantsStandIn t) = true := by kernel_rfl
        have hm : t ∈ Tryd.f3.params.toList := Array.mem_toList_iff.2 (Array.mem_of_getElem? ht)
        have := List.all_eq_true.1 hall t hm
        exact (by simpa using this : Tryd.prog.wantsStandIn t = false)⟩)
    (by kernel_rfl)
#print axioms eloExpects_card
/-- The tied card of EloShares. -/
theorem eloShares_card : Rows.EloSharesCardSaid :=
  Claim7.holds_tied_plain_at .later [] [.data, .data] true (true, "a2284ade903ddf7055f18d0c4c14d0260930ab28575359727880d4158442b664") false
    eloShares_over (fun _ h => by cases h) (by kernel_rfl) (fun _ h => by cases h) eloShares_row_tie rfl ⟨rfl, rfl⟩ (by kernel_rfl) rfl
    (fun f fn hf hfn => by
      obtain rfl : f = 4 := Option.some.inj ((show Tryd.prog.funcNamed "tiltyard/tiltyardlaw15.EloShares" = some 4 by kernel_rfl).symm.trans hf) |>.symm
      obtain rfl : fn = Tryd.f4 := (Option.some.inj (Tryd.func4.symm.trans hfn)).symm
      exact ⟨by kernel_rfl, fun j t ht => by
        have hall : Tryd.f4.params.toList.all (fun t => !Tryd.prog.wantsStandIn t) = true := by kernel_rfl
        have hm : t ∈ Tryd.f4.params.toList := Array.mem_toList_iff.2 (Array.mem_of_getElem? ht)
        have := List.all_eq_true.1 hall t hm
        exact (by simpa using this : Tryd.prog.wantsStandIn t = false)⟩)
    (by kernel_rfl)
#print axioms eloShares_card
/-- The tied card of EloUpdates. -/
theorem eloUpdates_card : Rows.EloUpdatesCardSaid :=
  Claim7.holds_tied_plain_at .later [] [.data, .data] true (true, "a2284ade903ddf7055f18d0c4c14d0260930ab28575359727880d4158442b664") false
    eloUpdates_over (fun _ h => by cases h) (by kernel_rfl) (fun _ h => by cases h) eloUpdates_row_tie rfl ⟨rfl, rfl⟩ (by kernel_rfl) rfl
    (fun f fn hf hfn => by
      obtain rfl : f = 5 := Option.some.inj ((show Tryd.prog.funcNamed "tiltyard/tiltyardlaw15.EloUpdates" = some 5 by kernel_rfl).symm.trans hf) |>.symm
      obtain rfl : fn = Tryd.f5 := (Option.some.inj (Tryd.func5.symm.trans hfn)).symm
      exact ⟨by kernel_rfl, fun j t ht => by
        have hall : Tryd.f5.params.toList.all (fun t => !Tryd.prog.wantsStandIn t) = true := by kernel_rfl
        have hm : t ∈ Tryd.f5.params.toList := Array.mem_toList_iff.2 (Array.mem_of_getElem? ht)
        have := List.all_eq_true.1 hall t hm
        exact (by simpa using this : Tryd.prog.wantsStandIn t = false)⟩)
    (by kernel_rfl)
#print axioms eloUpdates_card
/-- The tied card of EloZero. -/
theorem eloZero_card : Rows.EloZeroCardSaid :=
  Claim7.holds_tied_plain_at .later [] [.data, .data] true (true, "a2284ade903ddf7055f18d0c4c14d0260930ab28575359727880d4158442b664") false
    eloZero_over (fun _ h => by cases h) (by kernel_rfl) (fun _ h => by cases h) eloZero_row_tie rfl ⟨rfl, rfl⟩ (by kernel_rfl) rfl
    (fun f fn hf hfn => by
      obtain rfl : f = 6 := Option.some.inj ((show Tryd.prog.funcNamed "tiltyard/tiltyardlaw15.EloZero" = some 6 by kernel_rfl).symm.trans hf) |>.symm
      obtain rfl : fn = Tryd.f6 := (Option.some.inj (Tryd.func6.symm.trans hfn)).symm
      exact ⟨by kernel_rfl, fun j t ht => by
        have hall : Tryd.f6.params.toList.all (fun t => !Tryd.prog.wantsStandIn t) = true := by kernel_rfl
        have hm : t ∈ Tryd.f6.params.toList := Array.mem_toList_iff.2 (Array.mem_of_getElem? ht)
        have := List.all_eq_true.1 hall t hm
        exact (by simpa using this : Tryd.prog.wantsStandIn t = false)⟩)
    (by kernel_rfl)
#print axioms eloZero_card
/-- The tied card of EloWins. -/
theorem eloWins_card : Rows.EloWinsCardSaid :=
  Claim7.holds_tied_plain_at .later [] [.data, .data] true (true, "a2284ade903ddf7055f18d0c4c14d0260930ab28575359727880d4158442b664") false
    eloWins_over (fun _ h => by cases h) (by kernel_rfl) (fun _ h => by cases h) eloWins_row_tie rfl ⟨rfl, rfl⟩ (by kernel_rfl) rfl
    (fun f fn hf hfn => by
      obtain rfl : f = 7 := Option.some.inj ((show Tryd.prog.funcNamed "tiltyard/tiltyardlaw15.EloWins" = some 7 by kernel_rfl).symm.trans hf) |>.symm
      obtain rfl : fn = Tryd.f7 := (Option.some.inj (Tryd.func7.symm.trans hfn)).symm
      exact ⟨by kernel_rfl, fun j t ht => by
        have hall : Tryd.f7.params.toList.all (fun t => !Tryd.prog.wantsStandIn t) = true := by kernel_rfl
        have hm : t ∈ Tryd.f7.params.toList := Array.mem_toList_iff.2 (Array.mem_of_getElem? ht)
        have := List.all_eq_true.1 hall t hm
        exact (by simpa using this : Tryd.prog.wantsStandIn t = false)⟩)
    (by kernel_rfl)
#print axioms eloWins_card
/-- The tied card of EloTurned. -/
theorem eloTurned_card : Rows.EloTurnedCardSaid :=
  Claim7.holds_tied_plain_at .later [] [.data, .data] true (true, "a2284ade903ddf7055f18d0c4c14d0260930ab28575359727880d4158442b664") false
    eloTurned_over (fun _ h => by cases h) (by kernel_rfl) (fun _ h => by cases h) eloTurned_row_tie rfl ⟨rfl, rfl⟩ (by kernel_rfl) rfl
    (fun f fn hf hfn => by
      obtain rfl : f = 8 := Option.some.inj ((show Tryd.prog.funcNamed "tiltyard/tiltyardlaw15.EloTurned" = some 8 by kernel_rfl).symm.trans hf) |>.symm
      obtain rfl : fn = Tryd.f8 := (Option.some.inj (Tryd.func8.symm.trans hfn)).symm
      exact ⟨by kernel_rfl, fun j t ht => by
        have hall : Tryd.f8.params.toList.all (fun t => !Tryd.prog.wantsStandIn t) = true := by kernel_rfl
        have hm : t ∈ Tryd.f8.params.toList := Array.mem_toList_iff.2 (Array.mem_of_getElem? ht)
        have := List.all_eq_true.1 hall t hm
        exact (by simpa using this : Tryd.prog.wantsStandIn t = false)⟩)
    (by kernel_rfl)
#print axioms eloTurned_card
/-- The tied card of EloMore. -/
theorem eloMore_card : Rows.EloMoreCardSaid :=
  Claim7.holds_tied_plain_at .later [] [.data, .data] true (true, "a2284ade903ddf7055f18d0c4c14d0260930ab28575359727880d4158442b664") false
    eloMore_over (fun _ h => by cases h) (by kernel_rfl) (fun _ h => by cases h) eloMore_row_tie rfl ⟨rfl, rfl⟩ (by kernel_rfl) rfl
    (fun f fn hf hfn => by
      obtain rfl : f = 9 := Option.some.inj ((show Tryd.prog.funcNamed "tiltyard/tiltyardlaw15.EloMore" = some 9 by kernel_rfl).symm.trans hf) |>.symm
      obtain rfl : fn = Tryd.f9 := (Option.some.inj (Tryd.func9.symm.trans hfn)).symm
      exact ⟨by kernel_rfl, fun j t ht => by
        have hall : Tryd.f9.params.toList.all (fun t => !Tryd.prog.wantsStandIn t) = true := by kernel_rfl
        have hm : t ∈ Tryd.f9.params.toList := Array.mem_toList_iff.2 (Array.mem_of_getElem? ht)
        have := List.all_eq_true.1 hall t hm
        exact (by simpa using this : Tryd.prog.wantsStandIn t = false)⟩)
    (by kernel_rfl)
#print axioms eloMore_card
end Go.Proofs.YtpabioibhkdkpaaDoor
