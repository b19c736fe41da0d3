/-
  VerdictZero's card.
-/
import Derived.Test.YtenaelaapdhbdaaDoorDxa
namespace Go.Proofs.YtenaelaapdhbdaaDoor
open Go Go.AM
theorem verdictZero_card:Rows.VerdictZeroCardSaid:=
 Claim7.holds_tied_plain_at .later [] [.data,.data] true (true, "61bd66acc9ffe9d7a0b6a0265c364591d6975eeede9f5ad7f9dd4c2de8d55071") false
  verdictZero_over (fun _ h=>by cases h) (by kernel_rfl) (fun _ h=>by cases h) verdictZero_row_tie rfl ⟨rfl,rfl⟩ (by kernel_rfl) rfl
  (fun f fn hf hfn=>by
   obtain rfl:f=4:=Option.some.inj ((show Tryd.prog.funcNamed "tiltyard/tiltyardlaw23.VerdictZero" = some 4 by kernel_rfl).symm.trans hf) |>.symm
   obtain rfl:fn=Tryd.f4:=(Option.some.inj (Tryd.func4.symm.trans hfn)).symm
   exact⟨by kernel_rfl,fun j t ht=>by
    have hall:Tryd.f4.params.toList.all (fun t=> !Tryd.prog.wantsStandIn t)=true:=by kernel_rfl
    have hm:t∈Tryd.f4.params.toList:=Array.mem_toList_iff.2 (Array.mem_of_getElem? ht)
    have:=List.all_eq_true.1 hall t hm
    exact(by simpa using this:Tryd.prog.wantsStandIn t=false)⟩)
  (by kernel_rfl)
end Go.Proofs.YtenaelaapdhbdaaDoor
