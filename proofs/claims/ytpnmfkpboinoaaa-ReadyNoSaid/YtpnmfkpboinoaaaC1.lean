/-
  The law's row, and its card.
-/
import Derived.Test.YtpnmfkpboinoaaaB2
import Derived.Test.YtpnmfkpboinoaaaRows
import Derived.WalkKit
import Derived.ProofKit
import Derived.OpenShut
import Derived.ChangeSame
import Derived.ChangeVars
import Derived.JoinedOf
import Derived.RowKit
import Derived.SevenTiedAt
import Derived.Handed
import Derived.WitnessAt
namespace Go.Proofs.Ytpnmfkpboinoaaa
open Go Go.AM Go.ChangeShapes Go.WideShapes Go.ChangeAt Go.RowKit
theorem vR:ownKnob Try.prog.godebug=none:=by kernel_rfl
theorem pw:laidOutB Try.prog=true:=by kernel_rfl
set_option maxRecDepth 100000 in
theorem iv (os:Os) (started:os.Started) (H:Type) (enc:TypeId×Value→H):
  ReturnsInHanded {} Try.checked os 3 .any (Rows.readyNoSpec.pre6 enc Try.prog Try.f3 [] false)
   (Rows.readyNoSpec.post enc Try.prog Try.f3 false true false false):=by
 refine returnsInHanded_of_change (C:=Try.checked) vR started (by kernel_rfl) Try.func3
  (ChangeSpec.witness6 (enc:=enc) (C:=Try.checked) (os:=os) false ⟨#[],#[.int .u8 0,.int .u8 0,.int .u8 0],[]⟩ 8 (by kernel_rfl) (by kernel_rfl) (by kernel_rfl) (by kernel_rfl) (by kernel_rfl)) ?_
 intro W base args ds gs before hval0 hW _ _
 have hval:∀(j:Nat) t v,Try.f3.params[j]?=some t→args[j]?=some v→Value.okWide Try.prog W .any base t v:=hval0
 have hW':=hW
 obtain⟨p,q,hA0,hV,rfl,hfz,hnd⟩:=hW
 have hA:DataW.TrodAll enc Try.prog W 0 (fun _=>true) true Try.f3.params.toList args.toList ds p:=hA0
 obtain⟨rfl,rfl⟩:=trodVars_none hV
 obtain⟨xs,hr,hw⟩:=nj (k:=6) (by kernel_rfl:Try.f3.params.toList.all (iY Try.prog 6)=true) (fun j t v ht hv=>hval j t v (by simpa using ht) (by simpa using hv)) hA
 have hcall:=gT (nR fun k cs hk=>by cases hk) hr (sg xs hw)
 have hA1:=hA
 rw[Try.params3] at hA1
 obtain⟨v0,vs0,d0,ds0,p0,q0,hargs,rfl,rfl,h0,r0⟩:=trodAll_cons hA1
 obtain⟨v1,vs1,d1,ds1,p1,q1,rfl,rfl,rfl,h1,r1⟩:=trodAll_cons r0
 obtain⟨v2,vs2,d2,ds2,p2,q2,rfl,rfl,rfl,h2,r2⟩:=trodAll_cons r1
 obtain⟨rfl,rfl,rfl⟩:=trodAll_nil r2
 refine hcall.mono fun e W' ⟨he,bel⟩=>?_
 subst he
 exact⟨_,rfl,_,_,_,[],_,[],hW',trodAll_mk1 (shut_bool Try.underlying4 _),eY pw bel (by kernel_rfl) hA,rfl,bel.frame _,fun h=>by cases h⟩
theorem readyNo_over:Rows.readyNoRow.holds Try.pinned (OpenSpec.ofChange Rows.readyNoSpec):=
 OpenClaim.holds_of_wide 3 Try.f3 rfl rfl rfl rfl rfl rfl rfl ⟨rfl,rfl,rfl,rfl,rfl⟩ rfl rfl rfl rfl rfl (by kernel_rfl) Try.func3 (by kernel_rfl)
  (of_decide_eq_true (by kernel_rfl)) (by unfold Func.isWrapper; rw[if_neg (of_decide_eq_false (by kernel_rfl))]; exact⟨rfl,rfl⟩)
  (fun os started H enc _=>iv os started H enc)
theorem readyNo_said:Rows.ReadyNoSaid:=readyNo_over
end Go.Proofs.Ytpnmfkpboinoaaa
