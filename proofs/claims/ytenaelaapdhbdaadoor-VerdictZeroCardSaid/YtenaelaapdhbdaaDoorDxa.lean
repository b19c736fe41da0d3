/-
  VerdictZero's row.
-/
import Derived.Test.YtenaelaapdhbdaaDoorDbz
import Derived.Test.YtenaelaapdhbdaaDoorA3
import Derived.Test.YtenaelaapdhbdaaDoorA2
import Derived.Test.YtenaelaapdhbdaaDoorRows
import Derived.Test.YtenaelaapdhbdaaDoorTie
import Derived.Test.YtenaelaapdhbdaaDoorCards
import Derived.WalkKit
import Derived.ProofKit
import Derived.OpenShut
import Derived.ChangeSame
import Derived.ChangeVars
import Derived.JoinedOf
import Derived.RowKit
import Derived.SevenTiedAt
namespace Go.Proofs.YtenaelaapdhbdaaDoor
open Go Go.AM Go.ChangeShapes Go.WideShapes Go.ChangeAt Go.RowKit
theorem Ls:ownKnob Tryd.prog.godebug=none:=by kernel_rfl
theorem Cb:laidOutB Tryd.prog=true:=by kernel_rfl
theorem Lc:Tryd.prog.globalNamed "tiltyard/elo.expected" = some 1:=by kernel_rfl
theorem K7:(Tryd.prog.globals[1]?).map (·.type)=some 171:=by kernel_rfl
theorem Lq:Tryd.prog.globalNamed "tiltyard/elo.scores" = some 0:=by kernel_rfl
theorem KQ:(Tryd.prog.globals[0]?).map (·.type)=some 165:=by kernel_rfl
theorem Fw {W:World} (h:laidMet Tryd.prog [("tiltyard/elo.expected",Rows.laid_tiltyard_elo_expected),("tiltyard/elo.scores",Rows.laid_tiltyard_elo_scores)] W):cZ (gh0 W) W gl:=by
 obtain⟨ps,h,_⟩:=h
 obtain⟨hc0,ps,h⟩:=ju (ns:=[500,571,640,703,760,808,849,882,909,930,947,960,969,977,983,987,990]) (k:= .i64) Lc K7 Tryd.underlying171 Tryd.underlying3 (by kernel_rfl) (by kernel_rfl) rfl h
 obtain⟨hc1,ps,h⟩:=ju (ns:=[500,1000,0]) (k:= .i64) Lq KQ Tryd.underlying165 Tryd.underlying3 (by kernel_rfl) (by kernel_rfl) rfl h
 refine xL fun k cs hk=>?_
 unfold gl at hk
 split at hk
 ·cases hk; exact⟨_,lI .i64 [500,571,640,703,760,808,849,882,909,930,947,960,969,977,983,987,990],hc0⟩
 ·cases hk; exact⟨_,lI .i64 [500,1000,0],hc1⟩
 ·cases hk
noncomputable def iQ (os:Os):World:=
 { World.holding Tryd.prog os ⟨#[],#[],[]⟩ with heap:=(((World.holding Tryd.prog os ⟨#[],#[],[]⟩).heap.modify 1 fun
   | .cells _ t frozen=> .cells #[.int .i64 500,.int .i64 571,.int .i64 640,.int .i64 703,.int .i64 760,.int .i64 808,.int .i64 849,.int .i64 882,.int .i64 909,.int .i64 930,.int .i64 947,.int .i64 960,.int .i64 969,.int .i64 977,.int .i64 983,.int .i64 987,.int .i64 990] t frozen
   | o=>o).modify 0 fun
   | .cells _ t frozen=> .cells #[.int .i64 500,.int .i64 1000,.int .i64 0] t frozen
   | o=>o) }
theorem gi (os:Os):((iQ os).forCall (fun _ _=>0) ⟨#[],#[.agg #[.slice none 0 0,.slice none 0 0,.slice none 0 0],.agg #[.int .u32 0,.int .u32 0,.int .i64 0]],[]⟩).memory.heap[1]?=some (.cells #[.int .i64 500,.int .i64 571,.int .i64 640,.int .i64 703,.int .i64 760,.int .i64 808,.int .i64 849,.int .i64 882,.int .i64 909,.int .i64 930,.int .i64 947,.int .i64 960,.int .i64 969,.int .i64 977,.int .i64 983,.int .i64 987,.int .i64 990] 171 (0,0)):=by kernel_rfl
theorem gr (os:Os):((iQ os).forCall (fun _ _=>0) ⟨#[],#[.agg #[.slice none 0 0,.slice none 0 0,.slice none 0 0],.agg #[.int .u32 0,.int .u32 0,.int .i64 0]],[]⟩).memory.heap[0]?=some (.cells #[.int .i64 500,.int .i64 1000,.int .i64 0] 165 (0,0)):=by kernel_rfl
theorem m9 (os:Os):laidMet Tryd.prog [("tiltyard/elo.expected",Rows.laid_tiltyard_elo_expected),("tiltyard/elo.scores",Rows.laid_tiltyard_elo_scores)] ((iQ os).forCall (fun _ _=>0) ⟨#[],#[.agg #[.slice none 0 0,.slice none 0 0,.slice none 0 0],.agg #[.int .u32 0,.int .u32 0,.int .i64 0]],[]⟩).memory:=
 ⟨[MemPlace.cell 1 0,MemPlace.cell 1 1,MemPlace.cell 1 2,MemPlace.cell 1 3,MemPlace.cell 1 4,MemPlace.cell 1 5,MemPlace.cell 1 6,MemPlace.cell 1 7,MemPlace.cell 1 8,MemPlace.cell 1 9,MemPlace.cell 1 10,MemPlace.cell 1 11,MemPlace.cell 1 12,MemPlace.cell 1 13,MemPlace.cell 1 14,MemPlace.cell 1 15,MemPlace.cell 1 16,MemPlace.cell 0 0,MemPlace.cell 0 1,MemPlace.cell 0 2],⟨1,171,#[.int .i64 500,.int .i64 571,.int .i64 640,.int .i64 703,.int .i64 760,.int .i64 808,.int .i64 849,.int .i64 882,.int .i64 909,.int .i64 930,.int .i64 947,.int .i64 960,.int .i64 969,.int .i64 977,.int .i64 983,.int .i64 987,.int .i64 990],8,[],_,by kernel_rfl,by kernel_rfl,by kernel_rfl,by kernel_rfl,⟨0,165,#[.int .i64 500,.int .i64 1000,.int .i64 0],8,[],_,by kernel_rfl,by kernel_rfl,by kernel_rfl,by kernel_rfl,rfl,rfl⟩,rfl⟩,by decide,fun b off h=>by
  have h':MemPlace.cell b off∈[MemPlace.cell 1 0,MemPlace.cell 1 1,MemPlace.cell 1 2,MemPlace.cell 1 3,MemPlace.cell 1 4,MemPlace.cell 1 5,MemPlace.cell 1 6,MemPlace.cell 1 7,MemPlace.cell 1 8,MemPlace.cell 1 9,MemPlace.cell 1 10,MemPlace.cell 1 11,MemPlace.cell 1 12,MemPlace.cell 1 13,MemPlace.cell 1 14,MemPlace.cell 1 15,MemPlace.cell 1 16,MemPlace.cell 0 0,MemPlace.cell 0 1,MemPlace.cell 0 2]:=h
  simp only[List.mem_cons,List.not_mem_nil,or_false,MemPlace.cell.injEq] at h'
  have hb:(b=1∧off<17)∨(b=0∧off<3):=by omega
  rcases hb with⟨rfl,ho⟩|⟨rfl,ho⟩
  ·refine⟨⟨_,_,gi os⟩,fun u v hc=>?_⟩
   simp only[World.cell?,gi os] at hc
   have hl:(#[.int .i64 500,.int .i64 571,.int .i64 640,.int .i64 703,.int .i64 760,.int .i64 808,.int .i64 849,.int .i64 882,.int .i64 909,.int .i64 930,.int .i64 947,.int .i64 960,.int .i64 969,.int .i64 977,.int .i64 983,.int .i64 987,.int .i64 990]:Array Value).toList.all (fun v=>match v with| .iface _ _=>false|_=>true)=true:=rfl
   have hm:=List.all_eq_true.1 hl _ (Array.mem_toList_iff.2 (Array.mem_of_getElem? hc))
   cases hm
  ·refine⟨⟨_,_,gr os⟩,fun u v hc=>?_⟩
   simp only[World.cell?,gr os] at hc
   have hl:(#[.int .i64 500,.int .i64 1000,.int .i64 0]:Array Value).toList.all (fun v=>match v with| .iface _ _=>false|_=>true)=true:=rfl
   have hm:=List.all_eq_true.1 hl _ (Array.mem_toList_iff.2 (Array.mem_of_getElem? hc))
   cases hm⟩
set_option maxRecDepth 100000 in
theorem jP (os:Os) (started:os.Started) (H:Type) (enc:TypeId×Value→H):
  ReturnsInHanded {} Tryd.checked os 4 .any (fun w args=>(Rows.verdictZeroSpec.pre enc Tryd.prog Tryd.f4 [] false w args∧laidMet Tryd.prog [("tiltyard/elo.expected",Rows.laid_tiltyard_elo_expected),("tiltyard/elo.scores",Rows.laid_tiltyard_elo_scores)] w)∧sizedMet enc Tryd.prog Tryd.f4 (OpenSpec.ofChange Rows.verdictZeroSpec) false w args)
   (Rows.verdictZeroSpec.post enc Tryd.prog Tryd.f4 false true false false):=by
 refine returnsInHanded_of_change_and (C:=Tryd.checked) (X:=fun w _=>laidMet Tryd.prog [("tiltyard/elo.expected",Rows.laid_tiltyard_elo_expected),("tiltyard/elo.scores",Rows.laid_tiltyard_elo_scores)] w) (fun _ _ _ hh h=>h.of_heap hh) Ls started (by kernel_rfl) Tryd.func4
  (ChangeSpec.witness_at (enc:=enc) (C:=Tryd.checked) (os:=os) (X:=fun w _=>laidMet Tryd.prog [("tiltyard/elo.expected",Rows.laid_tiltyard_elo_expected),("tiltyard/elo.scores",Rows.laid_tiltyard_elo_scores)] w) false (iQ os) #[.agg #[.slice none 0 0,.slice none 0 0,.slice none 0 0],.agg #[.int .u32 0,.int .u32 0,.int .i64 0]] 8 rfl (by kernel_rfl) (by kernel_rfl) (by kernel_rfl) (by kernel_rfl) (by kernel_rfl) (m9 os)) ?_
 intro W base args ds gs before hval0 hW _ _ hL _
 have hval:∀(j:Nat) t v,Tryd.f4.params[j]?=some t→args[j]?=some v→Value.okWide Tryd.prog W .any base t v:=hval0
 have hW':=hW
 obtain⟨p,q,hA0,hV,rfl,hfz,hnd⟩:=hW
 have hA:DataW.TrodAll enc Tryd.prog W 0 (fun _=>true) true Tryd.f4.params.toList args.toList ds p:=hA0
 obtain⟨rfl,rfl⟩:=trodVars_none hV
 obtain⟨xs,hr,hw⟩:=vn (k:=6) (by kernel_rfl:Tryd.f4.params.toList.all (nW Tryd.prog 6)=true) (fun j t v ht hv=>hval j t v (by simpa using ht) (by simpa using hv)) hA
 have hcall:=mW (Fw hL) hr (yQ xs hw)
 have hA1:=hA
 rw[Tryd.params4] at hA1
 obtain⟨v0,vs0,d0,ds0,p0,q0,hargs,rfl,rfl,h0,r0⟩:=trodAll_cons hA1
 obtain⟨v1,vs1,d1,ds1,p1,q1,rfl,rfl,rfl,h1,r1⟩:=trodAll_cons r0
 obtain⟨rfl,rfl,rfl⟩:=trodAll_nil r1
 refine hcall.mono fun e W' ⟨he,bel⟩=>?_
 subst he
 exact⟨_,rfl,_,_,_,[],_,[],hW',trodAll_mk1 (shut_bool Tryd.underlying4 _),jr Cb bel (by kernel_rfl) hA,rfl,bel.frame _,fun h=>by cases h⟩
theorem verdictZero_over:Rows.verdictZeroRow.holds Tryd.pinned (OpenSpec.ofChange Rows.verdictZeroSpec):=
 OpenClaim.holds_of_wide 4 Tryd.f4 rfl rfl rfl rfl rfl rfl rfl ⟨rfl,rfl,rfl,rfl,rfl⟩ rfl rfl rfl rfl rfl (by kernel_rfl) Tryd.func4 (by kernel_rfl)
  (of_decide_eq_true (by kernel_rfl)) (by unfold Func.isWrapper; rw[if_neg (of_decide_eq_false (by kernel_rfl))]; exact⟨rfl,rfl⟩)
  (fun os started H enc _=>jP os started H enc)
end Go.Proofs.YtenaelaapdhbdaaDoor
