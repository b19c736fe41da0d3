/-
  The law's row, and its card.
-/
import Derived.Test.YtenaelaapdhbdaaGreatDoorB4
import Derived.Test.YtenaelaapdhbdaaGreatDoorRows
import Derived.Test.YtenaelaapdhbdaaGreatDoorTie
import Derived.Test.YtenaelaapdhbdaaGreatDoorCards
import Derived.WalkKit
import Derived.ProofKit
import Derived.OpenShut
import Derived.ChangeSame
import Derived.ChangeVars
import Derived.JoinedOf
import Derived.RowKit
import Derived.SevenTiedAt
namespace Go.Proofs.YtenaelaapdhbdaaGreatDoor
open Go Go.AM Go.ChangeShapes Go.WideShapes Go.ChangeAt Go.RowKit
theorem Nh:ownKnob Tryz.prog.godebug=none:=by kernel_rfl
theorem BP:laidOutB Tryz.prog=true:=by kernel_rfl
theorem Nl:Tryz.prog.globalNamed "tiltyard/elo.expected" = some 1:=by kernel_rfl
theorem MM:(Tryz.prog.globals[1]?).map (·.type)=some 192:=by kernel_rfl
theorem Nk:Tryz.prog.globalNamed "tiltyard/elo.scores" = some 0:=by kernel_rfl
theorem Na:(Tryz.prog.globals[0]?).map (·.type)=some 182:=by kernel_rfl
theorem G5 {W:World} (h:laidMet Tryz.prog [("tiltyard/elo.expected",Rows.laid_tiltyard_elo_expected),("tiltyard/elo.scores",Rows.laid_tiltyard_elo_scores)] W):cZ (gh0 W) W gl:=by
 obtain⟨ps,h,_⟩:=h
 obtain⟨hc0,ps,h⟩:=j8 (ns:=[500,571,640,703,760,808,849,882,909,930,947,960,969,977,983,987,990]) (k:= .i64) Nl MM Tryz.underlying192 Tryz.underlying3 (by kernel_rfl) (by kernel_rfl) rfl h
 obtain⟨hc1,ps,h⟩:=j8 (ns:=[500,1000,0]) (k:= .i64) Nk Na Tryz.underlying182 Tryz.underlying3 (by kernel_rfl) (by kernel_rfl) rfl h
 refine y9 fun k cs hk=>?_
 unfold gl at hk
 split at hk
 ·cases hk; exact⟨_,mv .i64 [500,571,640,703,760,808,849,882,909,930,947,960,969,977,983,987,990],hc0⟩
 ·cases hk; exact⟨_,mv .i64 [500,1000,0],hc1⟩
 ·cases hk
noncomputable def jE (os:Os):World:=
 { World.holding Tryz.prog os ⟨#[],#[],[]⟩ with heap:=(((World.holding Tryz.prog os ⟨#[],#[],[]⟩).heap.modify 1 fun
   | .cells _ t frozen=> .cells #[.int .i64 500,.int .i64 571,.int .i64 640,.int .i64 703,.int .i64 760,.int .i64 808,.int .i64 849,.int .i64 882,.int .i64 909,.int .i64 930,.int .i64 947,.int .i64 960,.int .i64 969,.int .i64 977,.int .i64 983,.int .i64 987,.int .i64 990] t frozen
   | o=>o).modify 0 fun
   | .cells _ t frozen=> .cells #[.int .i64 500,.int .i64 1000,.int .i64 0] t frozen
   | o=>o) }
theorem gb (os:Os):((jE os).forCall (fun _ _=>0) ⟨#[],#[.agg #[.slice none 0 0,.slice none 0 0,.slice none 0 0],.agg #[.int .u32 0,.int .u32 0,.int .i64 0]],[]⟩).memory.heap[1]?=some (.cells #[.int .i64 500,.int .i64 571,.int .i64 640,.int .i64 703,.int .i64 760,.int .i64 808,.int .i64 849,.int .i64 882,.int .i64 909,.int .i64 930,.int .i64 947,.int .i64 960,.int .i64 969,.int .i64 977,.int .i64 983,.int .i64 987,.int .i64 990] 192 (0,0)):=by kernel_rfl
theorem fW (os:Os):((jE os).forCall (fun _ _=>0) ⟨#[],#[.agg #[.slice none 0 0,.slice none 0 0,.slice none 0 0],.agg #[.int .u32 0,.int .u32 0,.int .i64 0]],[]⟩).memory.heap[0]?=some (.cells #[.int .i64 500,.int .i64 1000,.int .i64 0] 182 (0,0)):=by kernel_rfl
theorem lN (os:Os):laidMet Tryz.prog [("tiltyard/elo.expected",Rows.laid_tiltyard_elo_expected),("tiltyard/elo.scores",Rows.laid_tiltyard_elo_scores)] ((jE os).forCall (fun _ _=>0) ⟨#[],#[.agg #[.slice none 0 0,.slice none 0 0,.slice none 0 0],.agg #[.int .u32 0,.int .u32 0,.int .i64 0]],[]⟩).memory:=
 ⟨[MemPlace.cell 1 0,MemPlace.cell 1 1,MemPlace.cell 1 2,MemPlace.cell 1 3,MemPlace.cell 1 4,MemPlace.cell 1 5,MemPlace.cell 1 6,MemPlace.cell 1 7,MemPlace.cell 1 8,MemPlace.cell 1 9,MemPlace.cell 1 10,MemPlace.cell 1 11,MemPlace.cell 1 12,MemPlace.cell 1 13,MemPlace.cell 1 14,MemPlace.cell 1 15,MemPlace.cell 1 16,MemPlace.cell 0 0,MemPlace.cell 0 1,MemPlace.cell 0 2],⟨1,192,#[.int .i64 500,.int .i64 571,.int .i64 640,.int .i64 703,.int .i64 760,.int .i64 808,.int .i64 849,.int .i64 882,.int .i64 909,.int .i64 930,.int .i64 947,.int .i64 960,.int .i64 969,.int .i64 977,.int .i64 983,.int .i64 987,.int .i64 990],8,[],_,by kernel_rfl,by kernel_rfl,by kernel_rfl,by kernel_rfl,⟨0,182,#[.int .i64 500,.int .i64 1000,.int .i64 0],8,[],_,by kernel_rfl,by kernel_rfl,by kernel_rfl,by kernel_rfl,rfl,rfl⟩,rfl⟩,by decide,fun b off h=>by
  have h':MemPlace.cell b off∈[MemPlace.cell 1 0,MemPlace.cell 1 1,MemPlace.cell 1 2,MemPlace.cell 1 3,MemPlace.cell 1 4,MemPlace.cell 1 5,MemPlace.cell 1 6,MemPlace.cell 1 7,MemPlace.cell 1 8,MemPlace.cell 1 9,MemPlace.cell 1 10,MemPlace.cell 1 11,MemPlace.cell 1 12,MemPlace.cell 1 13,MemPlace.cell 1 14,MemPlace.cell 1 15,MemPlace.cell 1 16,MemPlace.cell 0 0,MemPlace.cell 0 1,MemPlace.cell 0 2]:=h
  simp only[List.mem_cons,List.not_mem_nil,or_false,MemPlace.cell.injEq] at h'
  have hb:(b=1∧off<17)∨(b=0∧off<3):=by omega
  rcases hb with⟨rfl,ho⟩|⟨rfl,ho⟩
  ·refine⟨⟨_,_,gb os⟩,fun u v hc=>?_⟩
   simp only[World.cell?,gb os] at hc
   have hl:(#[.int .i64 500,.int .i64 571,.int .i64 640,.int .i64 703,.int .i64 760,.int .i64 808,.int .i64 849,.int .i64 882,.int .i64 909,.int .i64 930,.int .i64 947,.int .i64 960,.int .i64 969,.int .i64 977,.int .i64 983,.int .i64 987,.int .i64 990]:Array Value).toList.all (fun v=>match v with| .iface _ _=>false|_=>true)=true:=rfl
   have hm:=List.all_eq_true.1 hl _ (Array.mem_toList_iff.2 (Array.mem_of_getElem? hc))
   cases hm
  ·refine⟨⟨_,_,fW os⟩,fun u v hc=>?_⟩
   simp only[World.cell?,fW os] at hc
   have hl:(#[.int .i64 500,.int .i64 1000,.int .i64 0]:Array Value).toList.all (fun v=>match v with| .iface _ _=>false|_=>true)=true:=rfl
   have hm:=List.all_eq_true.1 hl _ (Array.mem_toList_iff.2 (Array.mem_of_getElem? hc))
   cases hm⟩
set_option maxRecDepth 100000 in
theorem jp (os:Os) (started:os.Started) (H:Type) (enc:TypeId×Value→H):
  ReturnsInHanded {} Tryz.checked os 4 .any (fun w args=>(Rows.verdictJudgesSpec.pre enc Tryz.prog Tryz.f4 [] false w args∧laidMet Tryz.prog [("tiltyard/elo.expected",Rows.laid_tiltyard_elo_expected),("tiltyard/elo.scores",Rows.laid_tiltyard_elo_scores)] w)∧sizedMet enc Tryz.prog Tryz.f4 (OpenSpec.ofChange Rows.verdictJudgesSpec) false w args)
   (Rows.verdictJudgesSpec.post enc Tryz.prog Tryz.f4 false true false false):=by
 refine returnsInHanded_of_change_and (C:=Tryz.checked) (X:=fun w _=>laidMet Tryz.prog [("tiltyard/elo.expected",Rows.laid_tiltyard_elo_expected),("tiltyard/elo.scores",Rows.laid_tiltyard_elo_scores)] w) (fun _ _ _ hh h=>h.of_heap hh) Nh started (by kernel_rfl) Tryz.func4
  (ChangeSpec.witness_at (enc:=enc) (C:=Tryz.checked) (os:=os) (X:=fun w _=>laidMet Tryz.prog [("tiltyard/elo.expected",Rows.laid_tiltyard_elo_expected),("tiltyard/elo.scores",Rows.laid_tiltyard_elo_scores)] w) false (jE os) #[.agg #[.slice none 0 0,.slice none 0 0,.slice none 0 0],.agg #[.int .u32 0,.int .u32 0,.int .i64 0]] 8 rfl (by kernel_rfl) (by kernel_rfl) (by kernel_rfl) (by kernel_rfl) (by kernel_rfl) (lN os)) ?_
 intro W base args ds gs before hval0 hW _ _ hL _
 have hval:∀(j:Nat) t v,Tryz.f4.params[j]?=some t→args[j]?=some v→Value.okWide Tryz.prog W .any base t v:=hval0
 have hW':=hW
 obtain⟨p,q,hA0,hV,rfl,hfz,hnd⟩:=hW
 have hA:DataW.TrodAll enc Tryz.prog W 0 (fun _=>true) true Tryz.f4.params.toList args.toList ds p:=hA0
 obtain⟨rfl,rfl⟩:=trodVars_none hV
 obtain⟨xs,hr,hw⟩:=xY (k:=6) (by kernel_rfl:Tryz.f4.params.toList.all (pU Tryz.prog 6)=true) (fun j t v ht hv=>hval j t v (by simpa using ht) (by simpa using hv)) hA
 have hcall:=nS (G5 hL) hr (sY xs hw)
 have hA1:=hA
 rw[Tryz.params4] at hA1
 obtain⟨v0,vs0,d0,ds0,p0,q0,hargs,rfl,rfl,h0,r0⟩:=trodAll_cons hA1
 obtain⟨v1,vs1,d1,ds1,p1,q1,rfl,rfl,rfl,h1,r1⟩:=trodAll_cons r0
 obtain⟨rfl,rfl,rfl⟩:=trodAll_nil r1
 refine hcall.mono fun e W' ⟨he,bel⟩=>?_
 subst he
 exact⟨_,rfl,_,_,_,[],_,[],hW',trodAll_mk1 (shut_bool Tryz.underlying4 _),ke BP bel (by kernel_rfl) hA,rfl,bel.frame _,fun h=>by cases h⟩
theorem verdictJudges_over:Rows.verdictJudgesRow.holds Tryz.pinned (OpenSpec.ofChange Rows.verdictJudgesSpec):=
 OpenClaim.holds_of_wide 4 Tryz.f4 rfl rfl rfl rfl rfl rfl rfl ⟨rfl,rfl,rfl,rfl,rfl⟩ rfl rfl rfl rfl rfl (by kernel_rfl) Tryz.func4 (by kernel_rfl)
  (of_decide_eq_true (by kernel_rfl)) (by unfold Func.isWrapper; rw[if_neg (of_decide_eq_false (by kernel_rfl))]; exact⟨rfl,rfl⟩)
  (fun os started H enc _=>jp os started H enc)
end Go.Proofs.YtenaelaapdhbdaaGreatDoor
namespace Go.Proofs.YtenaelaapdhbdaaGreatDoor
open Go Go.AM
theorem verdictJudges_card:Rows.VerdictJudgesCardSaid:=
 Claim7.holds_tied_plain_at .later [] [.data,.data] true (true, "8f14db1090b4447bea94cb84df1b77628d7f8ebf1a6bda5e3bb0af822ea9783b") false
  verdictJudges_over (fun _ h=>by cases h) (by kernel_rfl) (fun _ h=>by cases h) verdictJudges_row_tie rfl ⟨rfl,rfl⟩ (by kernel_rfl) rfl
  (fun f fn hf hfn=>by
   obtain rfl:f=4:=Option.some.inj ((show Tryz.prog.funcNamed "tiltyard/tiltyardlaw23.VerdictJudges" = some 4 by kernel_rfl).symm.trans hf) |>.symm
   obtain rfl:fn=Tryz.f4:=(Option.some.inj (Tryz.func4.symm.trans hfn)).symm
   exact⟨by kernel_rfl,fun j t ht=>by
    have hall:Tryz.f4.params.toList.all (fun t=> !Tryz.prog.wantsStandIn t)=true:=by kernel_rfl
    have hm:t∈Tryz.f4.params.toList:=Array.mem_toList_iff.2 (Array.mem_of_getElem? ht)
    have:=List.all_eq_true.1 hall t hm
    exact(by simpa using this:Tryz.prog.wantsStandIn t=false)⟩)
  (by kernel_rfl)
end Go.Proofs.YtenaelaapdhbdaaGreatDoor
