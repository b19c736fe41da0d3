/-
  VerdictOnce's card.
-/
import Derived.Test.YtenaelaapdhbdaaDoorDbs
namespace Go.Proofs.YtenaelaapdhbdaaDoor
open Go Go.AM
theorem verdictOnce_card:Rows.VerdictOnceCardSaid:=
 Claim7.holds_tied_plain_at .later [] [.data,.data] true (true, "61bd66acc9ffe9d7a0b6a0265c364591d6975eeede9f5ad7f9dd4c2de8d55071") false
  verdictOnce_over (fun _ h=>by cases h) (by kernel_rfl) (fun _ h=>by cases h) verdictOnce_row_tie rfl ⟨rfl,rfl⟩ (by kernel_rfl) rfl
  (fun f fn hf hfn=>by
   obtain rfl:f=3:=Option.some.inj ((show Tryd.prog.funcNamed "tiltyard/tiltyardlaw23.VerdictOnce" = some 3 by kernel_rfl).symm.trans hf) |>.symm
   obtain rfl:fn=Tryd.f3:=(Option.some.inj (Tryd.func3.symm.trans hfn)).symm
   exact⟨by kernel_rfl,fun j t ht=>by
    have hall:Tryd.f3.params.toList.all (fun t=> !Tryd.prog.wantsStandIn t)=true:=by kernel_rfl
    have hm:t∈Tryd.f3.params.toList:=Array.mem_toList_iff.2 (Array.mem_of_getElem? ht)
    have:=List.all_eq_true.1 hall t hm
    exact(by simpa using this:Tryd.prog.wantsStandIn t=false)⟩)
  (by kernel_rfl)
end Go.Proofs.YtenaelaapdhbdaaDoor
