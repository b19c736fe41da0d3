/-
  SeatOne's row.
-/
import Derived.Test.YtenaelaapdhbdaaSal
import Derived.Test.YtenaelaapdhbdaaA3
import Derived.Test.YtenaelaapdhbdaaRows
import Derived.WalkKit
import Derived.ProofKit
import Derived.OpenShut
import Derived.ChangeSame
import Derived.ChangeVars
import Derived.JoinedOf
import Derived.RowKit
import Derived.SevenTiedAt
import Derived.Handed
import Derived.WitnessAt
namespace Go.Proofs.Ytenaelaapdhbdaa
open Go Go.AM Go.ChangeShapes Go.WideShapes Go.ChangeAt Go.RowKit
theorem ownK:ownKnob Try.prog.godebug=none:=by kernel_rfl
theorem laidOutK:laidOutB Try.prog=true:=by kernel_rfl
set_option maxRecDepth 100000 in
theorem seatOne_lifted (os:Os) (started:os.Started) (H:Type) (enc:TypeId×Value→H):
  ReturnsInHanded {} Try.checked os 4 .any (Rows.seatOneSpec.pre6 enc Try.prog Try.f4 [] false)
   (Rows.seatOneSpec.post enc Try.prog Try.f4 false true false false):=by
 refine returnsInHanded_of_change (C:=Try.checked) ownK started (by kernel_rfl) Try.func4
  (ChangeSpec.witness6 (enc:=enc) (C:=Try.checked) (os:=os) false ⟨#[],#[.slice none 0 0],[]⟩ 8 (by kernel_rfl) (by kernel_rfl) (by kernel_rfl) (by kernel_rfl) (by kernel_rfl)) ?_
 intro W base args ds gs before hval0 hW _ _
 have hval:∀(j:Nat) t v,Try.f4.params[j]?=some t→args[j]?=some v→Value.okWide Try.prog W .any base t v:=hval0
 have hW':=hW
 obtain⟨p,q,hA0,hV,rfl,hfz,hnd⟩:=hW
 have hA:DataW.TrodAll enc Try.prog W 0 (fun _=>true) true Try.f4.params.toList args.toList ds p:=hA0
 obtain⟨rfl,rfl⟩:=trodVars_none hV
 obtain⟨xs,hr,hw⟩:=args_of (k:=6) (by kernel_rfl:Try.f4.params.toList.all (fine Try.prog 6)=true) (fun j t v ht hv=>hval j t v (by simpa using ht) (by simpa using hv)) hA
 have hcall:=calls_of_acalls (globOk_of fun k cs hk=>by cases hk) hr (one_args xs hw)
 have hA1:=hA
 rw[Try.params4] at hA1
 obtain⟨v0,vs0,d0,ds0,p0,q0,hargs,rfl,rfl,h0,r0⟩:=trodAll_cons hA1
 obtain⟨rfl,rfl,rfl⟩:=trodAll_nil r0
 refine hcall.mono fun e W' ⟨he,bel⟩=>?_
 subst he
 exact⟨_,rfl,_,_,_,[],_,[],hW',trodAll_mk1 (shut_bool Try.underlying4 _),below_trodAll laidOutK bel (by kernel_rfl) hA,rfl,bel.frame _,fun h=>by cases h⟩
theorem seatOne_over:Rows.seatOneRow.holds Try.pinned (OpenSpec.ofChange Rows.seatOneSpec):=
 OpenClaim.holds_of_wide 4 Try.f4 rfl rfl rfl rfl rfl rfl rfl ⟨rfl,rfl,rfl,rfl,rfl⟩ rfl rfl rfl rfl rfl (by kernel_rfl) Try.func4 (by kernel_rfl)
  (of_decide_eq_true (by kernel_rfl)) (by unfold Func.isWrapper; rw[if_neg (of_decide_eq_false (by kernel_rfl))]; exact⟨rfl,rfl⟩)
  (fun os started H enc _=>seatOne_lifted os started H enc)
theorem seatOne_said:Rows.SeatOneSaid:=seatOne_over
end Go.Proofs.Ytenaelaapdhbdaa
