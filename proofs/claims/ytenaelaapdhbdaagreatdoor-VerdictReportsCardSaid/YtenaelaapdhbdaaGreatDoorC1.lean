/-
  The law's row, and its card.
-/
import Derived.Test.YtenaelaapdhbdaaGreatDoorB4
import Derived.Test.YtenaelaapdhbdaaGreatDoorRows
import Derived.Test.YtenaelaapdhbdaaGreatDoorTie
import Derived.Test.YtenaelaapdhbdaaGreatDoorCards
import Derived.WalkKit
import Derived.ProofKit
import Derived.OpenShut
import Derived.ChangeSame
import Derived.ChangeVars
import Derived.JoinedOf
import Derived.RowKit
import Derived.SevenTiedAt
namespace Go.Proofs.YtenaelaapdhbdaaGreatDoor
open Go Go.AM Go.ChangeShapes Go.WideShapes Go.ChangeAt Go.RowKit
theorem N3:ownKnob Tryz.prog.godebug=none:=by kernel_rfl
theorem E0:laidOutB Tryz.prog=true:=by kernel_rfl
theorem NF:Tryz.prog.globalNamed "tiltyard/elo.expected" = some 1:=by kernel_rfl
theorem ND:(Tryz.prog.globals[1]?).map (·.type)=some 192:=by kernel_rfl
theorem NW:Tryz.prog.globalNamed "tiltyard/elo.scores" = some 0:=by kernel_rfl
theorem M9:(Tryz.prog.globals[0]?).map (·.type)=some 182:=by kernel_rfl
theorem GI {W:World} (h:laidMet Tryz.prog [("tiltyard/elo.expected",Rows.laid_tiltyard_elo_expected),("tiltyard/elo.scores",Rows.laid_tiltyard_elo_scores)] W):c9 (gh0 W) W gl:=by
 obtain⟨ps,h,_⟩:=h
 obtain⟨hc0,ps,h⟩:=kr (ns:=[500,571,640,703,760,808,849,882,909,930,947,960,969,977,983,987,990]) (k:= .i64) NF ND Tryz.underlying192 Tryz.underlying3 (by kernel_rfl) (by kernel_rfl) rfl h
 obtain⟨hc1,ps,h⟩:=kr (ns:=[500,1000,0]) (k:= .i64) NW M9 Tryz.underlying182 Tryz.underlying3 (by kernel_rfl) (by kernel_rfl) rfl h
 refine yS fun k cs hk=>?_
 unfold gl at hk
 split at hk
 ·cases hk; exact⟨_,mv .i64 [500,571,640,703,760,808,849,882,909,930,947,960,969,977,983,987,990],hc0⟩
 ·cases hk; exact⟨_,mv .i64 [500,1000,0],hc1⟩
 ·cases hk
noncomputable def jB (os:Os):World:=
 { World.holding Tryz.prog os ⟨#[],#[],[]⟩ with heap:=(((World.holding Tryz.prog os ⟨#[],#[],[]⟩).heap.modify 1 fun
   | .cells _ t frozen=> .cells #[.int .i64 500,.int .i64 571,.int .i64 640,.int .i64 703,.int .i64 760,.int .i64 808,.int .i64 849,.int .i64 882,.int .i64 909,.int .i64 930,.int .i64 947,.int .i64 960,.int .i64 969,.int .i64 977,.int .i64 983,.int .i64 987,.int .i64 990] t frozen
   | o=>o).modify 0 fun
   | .cells _ t frozen=> .cells #[.int .i64 500,.int .i64 1000,.int .i64 0] t frozen
   | o=>o) }
theorem fL (os:Os):((jB os).forCall (fun _ _=>0) ⟨#[],#[.agg #[.slice none 0 0,.slice none 0 0,.slice none 0 0],.slice none 0 0],[]⟩).memory.heap[1]?=some (.cells #[.int .i64 500,.int .i64 571,.int .i64 640,.int .i64 703,.int .i64 760,.int .i64 808,.int .i64 849,.int .i64 882,.int .i64 909,.int .i64 930,.int .i64 947,.int .i64 960,.int .i64 969,.int .i64 977,.int .i64 983,.int .i64 987,.int .i64 990] 192 (0,0)):=by kernel_rfl
theorem fK (os:Os):((jB os).forCall (fun _ _=>0) ⟨#[],#[.agg #[.slice none 0 0,.slice none 0 0,.slice none 0 0],.slice none 0 0],[]⟩).memory.heap[0]?=some (.cells #[.int .i64 500,.int .i64 1000,.int .i64 0] 182 (0,0)):=by kernel_rfl
theorem kz (os:Os):laidMet Tryz.prog [("tiltyard/elo.expected",Rows.laid_tiltyard_elo_expected),("tiltyard/elo.scores",Rows.laid_tiltyard_elo_scores)] ((jB os).forCall (fun _ _=>0) ⟨#[],#[.agg #[.slice none 0 0,.slice none 0 0,.slice none 0 0],.slice none 0 0],[]⟩).memory:=
 ⟨[MemPlace.cell 1 0,MemPlace.cell 1 1,MemPlace.cell 1 2,MemPlace.cell 1 3,MemPlace.cell 1 4,MemPlace.cell 1 5,MemPlace.cell 1 6,MemPlace.cell 1 7,MemPlace.cell 1 8,MemPlace.cell 1 9,MemPlace.cell 1 10,MemPlace.cell 1 11,MemPlace.cell 1 12,MemPlace.cell 1 13,MemPlace.cell 1 14,MemPlace.cell 1 15,MemPlace.cell 1 16,MemPlace.cell 0 0,MemPlace.cell 0 1,MemPlace.cell 0 2],⟨1,192,#[.int .i64 500,.int .i64 571,.int .i64 640,.int .i64 703,.int .i64 760,.int .i64 808,.int .i64 849,.int .i64 882,.int .i64 909,.int .i64 930,.int .i64 947,.int .i64 960,.int .i64 969,.int .i64 977,.int .i64 983,.int .i64 987,.int .i64 990],8,[],_,by kernel_rfl,by kernel_rfl,by kernel_rfl,by kernel_rfl,⟨0,182,#[.int .i64 500,.int .i64 1000,.int .i64 0],8,[],_,by kernel_rfl,by kernel_rfl,by kernel_rfl,by kernel_rfl,rfl,rfl⟩,rfl⟩,by decide,fun b off h=>by
  have h':MemPlace.cell b off∈[MemPlace.cell 1 0,MemPlace.cell 1 1,MemPlace.cell 1 2,MemPlace.cell 1 3,MemPlace.cell 1 4,MemPlace.cell 1 5,MemPlace.cell 1 6,MemPlace.cell 1 7,MemPlace.cell 1 8,MemPlace.cell 1 9,MemPlace.cell 1 10,MemPlace.cell 1 11,MemPlace.cell 1 12,MemPlace.cell 1 13,MemPlace.cell 1 14,MemPlace.cell 1 15,MemPlace.cell 1 16,MemPlace.cell 0 0,MemPlace.cell 0 1,MemPlace.cell 0 2]:=h
  simp only[List.mem_cons,List.not_mem_nil,or_false,MemPlace.cell.injEq] at h'
  have hb:(b=1∧off<17)∨(b=0∧off<3):=by omega
  rcases hb with⟨rfl,ho⟩|⟨rfl,ho⟩
  ·refine⟨⟨_,_,fL os⟩,fun u v hc=>?_⟩
   simp only[World.cell?,fL os] at hc
   have hl:(#[.int .i64 500,.int .i64 571,.int .i64 640,.int .i64 703,.int .i64 760,.int .i64 808,.int .i64 849,.int .i64 882,.int .i64 909,.int .i64 930,.int .i64 947,.int .i64 960,.int .i64 969,.int .i64 977,.int .i64 983,.int .i64 987,.int .i64 990]:Array Value).toList.all (fun v=>match v with| .iface _ _=>false|_=>true)=true:=rfl
   have hm:=List.all_eq_true.1 hl _ (Array.mem_toList_iff.2 (Array.mem_of_getElem? hc))
   cases hm
  ·refine⟨⟨_,_,fK os⟩,fun u v hc=>?_⟩
   simp only[World.cell?,fK os] at hc
   have hl:(#[.int .i64 500,.int .i64 1000,.int .i64 0]:Array Value).toList.all (fun v=>match v with| .iface _ _=>false|_=>true)=true:=rfl
   have hm:=List.all_eq_true.1 hl _ (Array.mem_toList_iff.2 (Array.mem_of_getElem? hc))
   cases hm⟩
set_option maxRecDepth 100000 in
theorem iT (os:Os) (started:os.Started) (H:Type) (enc:TypeId×Value→H):
  ReturnsInHanded {} Tryz.checked os 3 .any (fun w args=>(Rows.verdictReportsSpec.pre enc Tryz.prog Tryz.f3 [] false w args∧laidMet Tryz.prog [("tiltyard/elo.expected",Rows.laid_tiltyard_elo_expected),("tiltyard/elo.scores",Rows.laid_tiltyard_elo_scores)] w)∧sizedMet enc Tryz.prog Tryz.f3 (OpenSpec.ofChange Rows.verdictReportsSpec) false w args)
   (Rows.verdictReportsSpec.post enc Tryz.prog Tryz.f3 false true false false):=by
 refine returnsInHanded_of_change_and (C:=Tryz.checked) (X:=fun w _=>laidMet Tryz.prog [("tiltyard/elo.expected",Rows.laid_tiltyard_elo_expected),("tiltyard/elo.scores",Rows.laid_tiltyard_elo_scores)] w) (fun _ _ _ hh h=>h.of_heap hh) N3 started (by kernel_rfl) Tryz.func3
  (ChangeSpec.witness_at (enc:=enc) (C:=Tryz.checked) (os:=os) (X:=fun w _=>laidMet Tryz.prog [("tiltyard/elo.expected",Rows.laid_tiltyard_elo_expected),("tiltyard/elo.scores",Rows.laid_tiltyard_elo_scores)] w) false (jB os) #[.agg #[.slice none 0 0,.slice none 0 0,.slice none 0 0],.slice none 0 0] 8 rfl (by kernel_rfl) (by kernel_rfl) (by kernel_rfl) (by kernel_rfl) (by kernel_rfl) (kz os)) ?_
 intro W base args ds gs before hval0 hW _ _ hL _
 have hval:∀(j:Nat) t v,Tryz.f3.params[j]?=some t→args[j]?=some v→Value.okWide Tryz.prog W .any base t v:=hval0
 have hW':=hW
 obtain⟨p,q,hA0,hV,rfl,hfz,hnd⟩:=hW
 have hA:DataW.TrodAll enc Tryz.prog W 0 (fun _=>true) true Tryz.f3.params.toList args.toList ds p:=hA0
 obtain⟨rfl,rfl⟩:=trodVars_none hV
 obtain⟨xs,hr,hw⟩:=yK (k:=6) (by kernel_rfl:Tryz.f3.params.toList.all (p4 Tryz.prog 6)=true) (fun j t v ht hv=>hval j t v (by simpa using ht) (by simpa using hv)) hA
 have hcall:=nT (GI hL) hr (sF xs hw)
 have hA1:=hA
 rw[Tryz.params3] at hA1
 obtain⟨v0,vs0,d0,ds0,p0,q0,hargs,rfl,rfl,h0,r0⟩:=trodAll_cons hA1
 obtain⟨v1,vs1,d1,ds1,p1,q1,rfl,rfl,rfl,h1,r1⟩:=trodAll_cons r0
 obtain⟨rfl,rfl,rfl⟩:=trodAll_nil r1
 refine hcall.mono fun e W' ⟨he,bel⟩=>?_
 subst he
 exact⟨_,rfl,_,_,_,[],_,[],hW',trodAll_mk1 (shut_bool Tryz.underlying4 _),kp E0 bel (by kernel_rfl) hA,rfl,bel.frame _,fun h=>by cases h⟩
theorem verdictReports_over:Rows.verdictReportsRow.holds Tryz.pinned (OpenSpec.ofChange Rows.verdictReportsSpec):=
 OpenClaim.holds_of_wide 3 Tryz.f3 rfl rfl rfl rfl rfl rfl rfl ⟨rfl,rfl,rfl,rfl,rfl⟩ rfl rfl rfl rfl rfl (by kernel_rfl) Tryz.func3 (by kernel_rfl)
  (of_decide_eq_true (by kernel_rfl)) (by unfold Func.isWrapper; rw[if_neg (of_decide_eq_false (by kernel_rfl))]; exact⟨rfl,rfl⟩)
  (fun os started H enc _=>iT os started H enc)
end Go.Proofs.YtenaelaapdhbdaaGreatDoor
namespace Go.Proofs.YtenaelaapdhbdaaGreatDoor
open Go Go.AM
theorem verdictReports_card:Rows.VerdictReportsCardSaid:=
 Claim7.holds_tied_plain_at .later [] [.data,.data] true (true, "8f14db1090b4447bea94cb84df1b77628d7f8ebf1a6bda5e3bb0af822ea9783b") false
  verdictReports_over (fun _ h=>by cases h) (by kernel_rfl) (fun _ h=>by cases h) verdictReports_row_tie rfl ⟨rfl,rfl⟩ (by kernel_rfl) rfl
  (fun f fn hf hfn=>by
   obtain rfl:f=3:=Option.some.inj ((show Tryz.prog.funcNamed "tiltyard/tiltyardlaw23.VerdictReports" = some 3 by kernel_rfl).symm.trans hf) |>.symm
   obtain rfl:fn=Tryz.f3:=(Option.some.inj (Tryz.func3.symm.trans hfn)).symm
   exact⟨by kernel_rfl,fun j t ht=>by
    have hall:Tryz.f3.params.toList.all (fun t=> !Tryz.prog.wantsStandIn t)=true:=by kernel_rfl
    have hm:t∈Tryz.f3.params.toList:=Array.mem_toList_iff.2 (Array.mem_of_getElem? ht)
    have:=List.all_eq_true.1 hall t hm
    exact(by simpa using this:Tryz.prog.wantsStandIn t=false)⟩)
  (by kernel_rfl)
end Go.Proofs.YtenaelaapdhbdaaGreatDoor
