/-
  VerdictOnce: its inner loop.
-/
import Derived.Test.YtenaelaapdhbdaaDoorDbn
import Derived.Test.YtenaelaapdhbdaaDoorA4
import Derived.Test.YtenaelaapdhbdaaDoorProg
namespace Go.Proofs.YtenaelaapdhbdaaDoor
open Go Go.AM Go.Proofs
def CZ (args:List PV) (H:ag) (K:PV→Prop):Prop:=∃(ra:List RwI) (w:List Mt) (ins id:Int),ak args [.ptr 0 0,.ptr 2 0,.int .u32 ins,.int .u32 id,.int .i64 1]∧bH H 0 (rkI ra 40)∧bM H 2 1 (rkM (aq w) 6)∧Ok ra 40∧MO w 6∧aX Mt.id w id=false∧K (.tup [.agg (vdC vd0),.agg (mtc mt0),.int .i64 12])
theorem Gf:aQ Tryd.prog gl 7 (.read CZ):=by
 rintro args H K ⟨ra,w,ins,id,he,hI,hB,ok,ro,hm,hk⟩
 have he:args=_:=he
 subst he
 have e:bn ra 40 w ins id 1=⟨ra,w,vd0,mt0,12⟩:=by unfold bn; rw[if_pos hm]
 have core:=(mW ok ro ins id 1)
 rw[e] at core
 refine⟨_,oE ay hI hB (by decide) (dy (.int _ _) (.int _ _) (.int _ _)) (sS ⟨ra,w,vd0,mt0,12⟩) (bC (core.mono fun x H' ⟨h1,h2⟩=>⟨_,h1,rfl,h2⟩)) ⟨rfl,?_⟩,hk⟩
 rw[qP hI,qP hB.2]
def TON:Tab:=[(7,.read CZ)]
theorem DC:aE Tryd.prog gl TON:= .cons Gf (.nil _ _)
def Mb (a b:Nat):Oper→Nat:=fun o=>match o.dst with|some 124=>5|some 118=>900|some 123=>900|some _=>0|none=>(match o.op with| .store _ (.tmp 16) _=>a| .store _ (.tmp 17) _=>b|_=>0)
def hnA (is:List Nat):Oper→Nat:=match Nat.blt (is.idxOf 16) (is.idxOf 17) with|true=>Mb 401006 501005|false=>Mb 501006 401005
theorem Ku (ra:List RwI) (w:List Mt) (T1:PV) (l:List Int) (i j:Nat):(by refine(?_:_→_→_→_→Prop) (List.getD (l.map u1) (Int.toNat (j:Int)) []) (opsOf (bJ [1,1,1,1,0,1,0,0,1,0,0,1,1,1,1,1,1,0,0,1,0,0,0] (aj Tryd.f3))) (PV.list (l.map u1) (.tok 3)) (Ob.abs (rkM (aq w) 6)); exact fun a c f g=>by refine(?_:_→_→Prop) [Ob.abs (rkI ra 40),g,.cells [.ptr 1 0],.tok] (true && aH [.int .u32] 0 a); exact fun b d=>∀(R:List PV→ag→Prop),(InL (l.map u1) 1 (j:Int)∧br d (InL (l.map u1) 1 (j:Int)∧br d (∃(ra_1:List RwI) (w_1:List Mt) (ins:Int) (id:Int),ak [.ptr 0 0,.ptr 2 0,.int .u32 (IntKind.wrap .u32 (cI a 0+10)),.int .u32 (cI a 0),.int .i64 1] [.ptr 0 0,.ptr 2 0,.int .u32 ins,.int .u32 id,.int .i64 1]∧bH b 0 (rkI ra_1 40)∧bM b 2 1 (rkM (aq w_1) 6)∧Ok ra_1 40∧MO w_1 6∧aX Mt.id w_1 id=false∧R [T1,.ptr 0 0,.ptr 2 0,f,.int .i64 i,.int .i64 j,.int .i64 12] [.abs (rkI ra 40),g,.cells [.ptr 1 0],.tok,.cells [.int .u32 0,.int .u32 0,.int .i64 0,.list [] .no,.list [] .no,.list [] .no],.cells [.int .u32 0,.int .i64 0,.int .u32 0,.list [] .no,.list [] .no]]) False) False)→Holds (eo br Tryd.prog gl TON (hnA [0,1,2,3,4,5,6,7,8,9,10,11,12,13,14,15,16,17,18,19,20]) true c (bO c [0,1,2,3,4,5,6,7,8,9,10,11,12,13,14,15,16,17,18,19,20]) (ax [1,5,6,9,10,15] [T1,.ptr 0 0,.ptr 2 0,f,.int .i64 i,.int .i64 j]) b (fun e H=>R (List.map e [1,5,6,9,10,15,18]) H)):Prop):=fun R h=>ah (by kernel_rfl) h
theorem KS (ra:List RwI) (w:List Mt) (T1:PV) (l:List Int) (i j:Nat):(by refine(?_:_→_→_→_→Prop) (List.getD (l.map u1) (Int.toNat (j:Int)) []) (opsOf (bJ [1,1,1,1,0,1,0,0,1,0,0,1,1,1,1,1,1,0,0,1,0,0,0] (aj Tryd.f3))) (PV.list (l.map u1) (.tok 3)) (Ob.abs (rkM (aq w) 6)); exact fun a c f g=>by refine(?_:_→_→Prop) [Ob.abs (rkI ra 40),g,.cells [.ptr 1 0],.tok] (true && aH [.int .u32] 0 a); exact fun b d=>∀(R:List PV→ag→Prop),(InL (l.map u1) 1 (j:Int)∧br d (InL (l.map u1) 1 (j:Int)∧br d (∃(ra_1:List RwI) (w_1:List Mt) (ins:Int) (id:Int),ak [.ptr 0 0,.ptr 2 0,.int .u32 (IntKind.wrap .u32 (cI a 0+10)),.int .u32 (cI a 0),.int .i64 1] [.ptr 0 0,.ptr 2 0,.int .u32 ins,.int .u32 id,.int .i64 1]∧bH b 0 (rkI ra_1 40)∧bM b 2 1 (rkM (aq w_1) 6)∧Ok ra_1 40∧MO w_1 6∧aX Mt.id w_1 id=false∧R [T1,.ptr 0 0,.ptr 2 0,f,.int .i64 i,.int .i64 j,.int .i64 12] [.abs (rkI ra 40),g,.cells [.ptr 1 0],.tok,.cells [.int .u32 0,.int .u32 0,.int .i64 0,.list [] .no,.list [] .no,.list [] .no],.cells [.int .u32 0,.int .i64 0,.int .u32 0,.list [] .no,.list [] .no]]) False) False)→Holds (eo br Tryd.prog gl TON (hnA [0,1,2,3,4,5,6,7,8,9,10,11,12,13,14,15,16,17,19,18,20]) true c (bO c [0,1,2,3,4,5,6,7,8,9,10,11,12,13,14,15,16,17,19,18,20]) (ax [1,5,6,9,10,15] [T1,.ptr 0 0,.ptr 2 0,f,.int .i64 i,.int .i64 j]) b (fun e H=>R (List.map e [1,5,6,9,10,15,18]) H)):Prop):=fun R h=>ah (by kernel_rfl) h
theorem Kz (ra:List RwI) (w:List Mt) (T1:PV) (l:List Int) (i j:Nat):(by refine(?_:_→_→_→_→Prop) (List.getD (l.map u1) (Int.toNat (j:Int)) []) (opsOf (bJ [1,1,1,1,0,1,0,0,1,0,0,1,1,1,1,1,1,0,0,1,0,0,0] (aj Tryd.f3))) (PV.list (l.map u1) (.tok 3)) (Ob.abs (rkM (aq w) 6)); exact fun a c f g=>by refine(?_:_→_→Prop) [Ob.abs (rkI ra 40),g,.cells [.ptr 1 0],.tok] (true && aH [.int .u32] 0 a); exact fun b d=>∀(R:List PV→ag→Prop),(InL (l.map u1) 1 (j:Int)∧br d (InL (l.map u1) 1 (j:Int)∧br d (∃(ra_1:List RwI) (w_1:List Mt) (ins:Int) (id:Int),ak [.ptr 0 0,.ptr 2 0,.int .u32 (IntKind.wrap .u32 (cI a 0+10)),.int .u32 (cI a 0),.int .i64 1] [.ptr 0 0,.ptr 2 0,.int .u32 ins,.int .u32 id,.int .i64 1]∧bH b 0 (rkI ra_1 40)∧bM b 2 1 (rkM (aq w_1) 6)∧Ok ra_1 40∧MO w_1 6∧aX Mt.id w_1 id=false∧R [T1,.ptr 0 0,.ptr 2 0,f,.int .i64 i,.int .i64 j,.int .i64 12] [.abs (rkI ra 40),g,.cells [.ptr 1 0],.tok,.cells [.int .u32 0,.int .u32 0,.int .i64 0,.list [] .no,.list [] .no,.list [] .no],.cells [.int .u32 0,.int .i64 0,.int .u32 0,.list [] .no,.list [] .no]]) False) False)→Holds (eo br Tryd.prog gl TON (hnA [0,1,2,3,4,5,6,7,8,9,10,11,12,13,14,15,16,18,17,19,20]) true c (bO c [0,1,2,3,4,5,6,7,8,9,10,11,12,13,14,15,16,18,17,19,20]) (ax [1,5,6,9,10,15] [T1,.ptr 0 0,.ptr 2 0,f,.int .i64 i,.int .i64 j]) b (fun e H=>R (List.map e [1,5,6,9,10,15,18]) H)):Prop):=fun R h=>ah (by kernel_rfl) h
theorem KZ (ra:List RwI) (w:List Mt) (T1:PV) (l:List Int) (i j:Nat):(by refine(?_:_→_→_→_→Prop) (List.getD (l.map u1) (Int.toNat (j:Int)) []) (opsOf (bJ [1,1,1,1,0,1,0,0,1,0,0,1,1,1,1,1,1,0,0,1,0,0,0] (aj Tryd.f3))) (PV.list (l.map u1) (.tok 3)) (Ob.abs (rkM (aq w) 6)); exact fun a c f g=>by refine(?_:_→_→Prop) [Ob.abs (rkI ra 40),g,.cells [.ptr 1 0],.tok] (true && aH [.int .u32] 0 a); exact fun b d=>∀(R:List PV→ag→Prop),(InL (l.map u1) 1 (j:Int)∧br d (InL (l.map u1) 1 (j:Int)∧br d (∃(ra_1:List RwI) (w_1:List Mt) (ins:Int) (id:Int),ak [.ptr 0 0,.ptr 2 0,.int .u32 (IntKind.wrap .u32 (cI a 0+10)),.int .u32 (cI a 0),.int .i64 1] [.ptr 0 0,.ptr 2 0,.int .u32 ins,.int .u32 id,.int .i64 1]∧bH b 0 (rkI ra_1 40)∧bM b 2 1 (rkM (aq w_1) 6)∧Ok ra_1 40∧MO w_1 6∧aX Mt.id w_1 id=false∧R [T1,.ptr 0 0,.ptr 2 0,f,.int .i64 i,.int .i64 j,.int .i64 12] [.abs (rkI ra 40),g,.cells [.ptr 1 0],.tok,.cells [.int .u32 0,.int .i64 0,.int .u32 0,.list [] .no,.list [] .no],.cells [.int .u32 0,.int .u32 0,.int .i64 0,.list [] .no,.list [] .no,.list [] .no]]) False) False)→Holds (eo br Tryd.prog gl TON (hnA [0,1,2,3,4,5,6,7,8,9,10,11,12,13,14,15,17,16,18,19,20]) true c (bO c [0,1,2,3,4,5,6,7,8,9,10,11,12,13,14,15,17,16,18,19,20]) (ax [1,5,6,9,10,15] [T1,.ptr 0 0,.ptr 2 0,f,.int .i64 i,.int .i64 j]) b (fun e H=>R (List.map e [1,5,6,9,10,15,18]) H)):Prop):=fun R h=>ah (by kernel_rfl) h
theorem Lq (ra:List RwI) (w:List Mt) (T1:PV) (l:List Int) (i j:Nat):(by refine(?_:_→_→_→_→Prop) (List.getD (l.map u1) (Int.toNat (j:Int)) []) (opsOf (bJ [1,1,1,1,0,1,0,0,1,0,0,1,1,1,1,1,1,0,0,1,0,0,0] (aj Tryd.f3))) (PV.list (l.map u1) (.tok 3)) (Ob.abs (rkM (aq w) 6)); exact fun a c f g=>by refine(?_:_→_→Prop) [Ob.abs (rkI ra 40),g,.cells [.ptr 1 0],.tok] (true && aH [.int .u32] 0 a); exact fun b d=>∀(R:List PV→ag→Prop),(InL (l.map u1) 1 (j:Int)∧br d (InL (l.map u1) 1 (j:Int)∧br d (∃(ra_1:List RwI) (w_1:List Mt) (ins:Int) (id:Int),ak [.ptr 0 0,.ptr 2 0,.int .u32 (IntKind.wrap .u32 (cI a 0+10)),.int .u32 (cI a 0),.int .i64 1] [.ptr 0 0,.ptr 2 0,.int .u32 ins,.int .u32 id,.int .i64 1]∧bH b 0 (rkI ra_1 40)∧bM b 2 1 (rkM (aq w_1) 6)∧Ok ra_1 40∧MO w_1 6∧aX Mt.id w_1 id=false∧R [T1,.ptr 0 0,.ptr 2 0,f,.int .i64 i,.int .i64 j,.int .i64 12] [.abs (rkI ra 40),g,.cells [.ptr 1 0],.tok,.cells [.int .u32 0,.int .i64 0,.int .u32 0,.list [] .no,.list [] .no],.cells [.int .u32 0,.int .u32 0,.int .i64 0,.list [] .no,.list [] .no,.list [] .no]]) False) False)→Holds (eo br Tryd.prog gl TON (hnA [0,1,2,3,4,5,6,7,8,9,10,11,12,13,14,15,17,16,19,18,20]) true c (bO c [0,1,2,3,4,5,6,7,8,9,10,11,12,13,14,15,17,16,19,18,20]) (ax [1,5,6,9,10,15] [T1,.ptr 0 0,.ptr 2 0,f,.int .i64 i,.int .i64 j]) b (fun e H=>R (List.map e [1,5,6,9,10,15,18]) H)):Prop):=fun R h=>ah (by kernel_rfl) h
theorem JZ (ra:List RwI) (w:List Mt) (T1:PV) (l:List Int) (i j:Nat):(by refine(?_:_→_→_→_→Prop) (List.getD (l.map u1) (Int.toNat (j:Int)) []) (opsOf (bJ [1,1,1,1,0,1,0,0,1,0,0,1,1,1,1,1,1,0,0,1,0,0,0] (aj Tryd.f3))) (PV.list (l.map u1) (.tok 3)) (Ob.abs (rkM (aq w) 6)); exact fun a c f g=>by refine(?_:_→_→Prop) [Ob.abs (rkI ra 40),g,.cells [.ptr 1 0],.tok] (true && aH [.int .u32] 0 a); exact fun b d=>∀(R:List PV→ag→Prop),(InL (l.map u1) 1 (j:Int)∧br d (InL (l.map u1) 1 (j:Int)∧br d (∃(ra_1:List RwI) (w_1:List Mt) (ins:Int) (id:Int),ak [.ptr 0 0,.ptr 2 0,.int .u32 (IntKind.wrap .u32 (cI a 0+10)),.int .u32 (cI a 0),.int .i64 1] [.ptr 0 0,.ptr 2 0,.int .u32 ins,.int .u32 id,.int .i64 1]∧bH b 0 (rkI ra_1 40)∧bM b 2 1 (rkM (aq w_1) 6)∧Ok ra_1 40∧MO w_1 6∧aX Mt.id w_1 id=false∧R [T1,.ptr 0 0,.ptr 2 0,f,.int .i64 i,.int .i64 j,.int .i64 12] [.abs (rkI ra 40),g,.cells [.ptr 1 0],.tok,.cells [.int .u32 0,.int .i64 0,.int .u32 0,.list [] .no,.list [] .no],.cells [.int .u32 0,.int .u32 0,.int .i64 0,.list [] .no,.list [] .no,.list [] .no]]) False) False)→Holds (eo br Tryd.prog gl TON (hnA [0,1,2,3,4,5,6,7,8,9,10,11,12,13,14,15,17,19,16,18,20]) true c (bO c [0,1,2,3,4,5,6,7,8,9,10,11,12,13,14,15,17,19,16,18,20]) (ax [1,5,6,9,10,15] [T1,.ptr 0 0,.ptr 2 0,f,.int .i64 i,.int .i64 j]) b (fun e H=>R (List.map e [1,5,6,9,10,15,18]) H)):Prop):=fun R h=>ah (by kernel_rfl) h
theorem Kh (ra:List RwI) (w:List Mt) (T1:PV) (l:List Int) (i j:Nat):(by refine(?_:_→_→_→_→Prop) (List.getD (l.map u1) (Int.toNat (j:Int)) []) (opsOf (bJ [1,1,1,1,0,1,0,0,1,0,0,1,1,1,1,1,1,0,0,1,0,0,0] (aj Tryd.f3))) (Ob.abs (rkM (aq w) 6)) (PV.list (l.map u1) (.tok 3)); exact fun b c d g=>by refine(?_:_→_→Prop) [Ob.abs (rkI ra 40),d,.cells [.ptr 1 0],.tok,.cells [.int .u32 0,.int .u32 0,.int .i64 0,.list [] .exact,.list [] .exact,.list [] .exact]] (true && aH [.int .u32] 0 b); exact fun a f=>∀(R:List PV→ag→Prop),(InL (l.map u1) 1 (j:Int)∧br f (InL (l.map u1) 1 (j:Int)∧br f (∃(ra_1:List RwI) (w_1:List Mt) (ins:Int) (id:Int),ak [.ptr 0 0,.ptr 2 0,.int .u32 (IntKind.wrap .u32 (cI b 0+10)),.int .u32 (cI b 0),.int .i64 1] [.ptr 0 0,.ptr 2 0,.int .u32 ins,.int .u32 id,.int .i64 1]∧bH a 0 (rkI ra_1 40)∧bM a 2 1 (rkM (aq w_1) 6)∧Ok ra_1 40∧MO w_1 6∧aX Mt.id w_1 id=false∧R [T1,.ptr 0 0,.ptr 2 0,g,.int .i64 i,.int .i64 j,.int .i64 12] [.abs (rkI ra 40),d,.cells [.ptr 1 0],.tok,.cells [.int .u32 0,.int .u32 0,.int .i64 0,.list [] .no,.list [] .no,.list [] .no],.cells [.int .u32 0,.int .i64 0,.int .u32 0,.list [] .no,.list [] .no]]) False) False)→Holds (eo br Tryd.prog gl TON (hnA [0,1,2,3,4,5,6,7,8,9,10,16,11,12,13,14,15,17,18,19,20]) true c (bO c [0,1,2,3,4,5,6,7,8,9,10,16,11,12,13,14,15,17,18,19,20]) (ax [1,5,6,9,10,15] [T1,.ptr 0 0,.ptr 2 0,g,.int .i64 i,.int .i64 j]) [.abs (rkI ra 40),d,.cells [.ptr 1 0],.tok] (fun e H=>R (List.map e [1,5,6,9,10,15,18]) H)):Prop):=fun R h=>ah (by kernel_rfl) h
theorem JA (ra:List RwI) (w:List Mt) (T1:PV) (l:List Int) (i j:Nat):(by refine(?_:_→_→_→_→Prop) (List.getD (l.map u1) (Int.toNat (j:Int)) []) (opsOf (bJ [1,1,1,1,0,1,0,0,1,0,0,1,1,1,1,1,1,0,0,1,0,0,0] (aj Tryd.f3))) (Ob.abs (rkM (aq w) 6)) (PV.list (l.map u1) (.tok 3)); exact fun b c d g=>by refine(?_:_→_→Prop) [Ob.abs (rkI ra 40),d,.cells [.ptr 1 0],.tok,.cells [.int .u32 0,.int .u32 0,.int .i64 0,.list [] .exact,.list [] .exact,.list [] .exact]] (true && aH [.int .u32] 0 b); exact fun a f=>∀(R:List PV→ag→Prop),(InL (l.map u1) 1 (j:Int)∧br f (InL (l.map u1) 1 (j:Int)∧br f (∃(ra_1:List RwI) (w_1:List Mt) (ins:Int) (id:Int),ak [.ptr 0 0,.ptr 2 0,.int .u32 (IntKind.wrap .u32 (cI b 0+10)),.int .u32 (cI b 0),.int .i64 1] [.ptr 0 0,.ptr 2 0,.int .u32 ins,.int .u32 id,.int .i64 1]∧bH a 0 (rkI ra_1 40)∧bM a 2 1 (rkM (aq w_1) 6)∧Ok ra_1 40∧MO w_1 6∧aX Mt.id w_1 id=false∧R [T1,.ptr 0 0,.ptr 2 0,g,.int .i64 i,.int .i64 j,.int .i64 12] [.abs (rkI ra 40),d,.cells [.ptr 1 0],.tok,.cells [.int .u32 0,.int .u32 0,.int .i64 0,.list [] .no,.list [] .no,.list [] .no],.cells [.int .u32 0,.int .i64 0,.int .u32 0,.list [] .no,.list [] .no]]) False) False)→Holds (eo br Tryd.prog gl TON (hnA [0,1,2,3,4,5,6,7,8,9,10,16,11,12,13,14,15,17,19,18,20]) true c (bO c [0,1,2,3,4,5,6,7,8,9,10,16,11,12,13,14,15,17,19,18,20]) (ax [1,5,6,9,10,15] [T1,.ptr 0 0,.ptr 2 0,g,.int .i64 i,.int .i64 j]) [.abs (rkI ra 40),d,.cells [.ptr 1 0],.tok] (fun e H=>R (List.map e [1,5,6,9,10,15,18]) H)):Prop):=fun R h=>ah (by kernel_rfl) h
theorem JG (ra:List RwI) (w:List Mt) (T1:PV) (l:List Int) (i j:Nat):(by refine(?_:_→_→_→_→Prop) (List.getD (l.map u1) (Int.toNat (j:Int)) []) (opsOf (bJ [1,1,1,1,0,1,0,0,1,0,0,1,1,1,1,1,1,0,0,1,0,0,0] (aj Tryd.f3))) (Ob.abs (rkM (aq w) 6)) (PV.list (l.map u1) (.tok 3)); exact fun b c d g=>by refine(?_:_→_→Prop) [Ob.abs (rkI ra 40),d,.cells [.ptr 1 0],.tok,.cells [.int .u32 0,.int .u32 0,.int .i64 0,.list [] .exact,.list [] .exact,.list [] .exact]] (true && aH [.int .u32] 0 b); exact fun a f=>∀(R:List PV→ag→Prop),(InL (l.map u1) 1 (j:Int)∧br f (InL (l.map u1) 1 (j:Int)∧br f (∃(ra_1:List RwI) (w_1:List Mt) (ins:Int) (id:Int),ak [.ptr 0 0,.ptr 2 0,.int .u32 (IntKind.wrap .u32 (cI b 0+10)),.int .u32 (cI b 0),.int .i64 1] [.ptr 0 0,.ptr 2 0,.int .u32 ins,.int .u32 id,.int .i64 1]∧bH a 0 (rkI ra_1 40)∧bM a 2 1 (rkM (aq w_1) 6)∧Ok ra_1 40∧MO w_1 6∧aX Mt.id w_1 id=false∧R [T1,.ptr 0 0,.ptr 2 0,g,.int .i64 i,.int .i64 j,.int .i64 12] [.abs (rkI ra 40),d,.cells [.ptr 1 0],.tok,.cells [.int .u32 0,.int .u32 0,.int .i64 0,.list [] .no,.list [] .no,.list [] .no],.cells [.int .u32 0,.int .i64 0,.int .u32 0,.list [] .no,.list [] .no]]) False) False)→Holds (eo br Tryd.prog gl TON (hnA [0,1,2,3,4,5,6,7,8,9,10,16,11,12,13,14,15,18,17,19,20]) true c (bO c [0,1,2,3,4,5,6,7,8,9,10,16,11,12,13,14,15,18,17,19,20]) (ax [1,5,6,9,10,15] [T1,.ptr 0 0,.ptr 2 0,g,.int .i64 i,.int .i64 j]) [.abs (rkI ra 40),d,.cells [.ptr 1 0],.tok] (fun e H=>R (List.map e [1,5,6,9,10,15,18]) H)):Prop):=fun R h=>ah (by kernel_rfl) h
theorem Kb (ra:List RwI) (w:List Mt) (T1:PV) (l:List Int) (i j:Nat):(by refine(?_:_→_→_→_→Prop) (List.getD (l.map u1) (Int.toNat (j:Int)) []) (opsOf (bJ [1,1,1,1,0,1,0,0,1,0,0,1,1,1,1,1,1,0,0,1,0,0,0] (aj Tryd.f3))) (Ob.abs (rkM (aq w) 6)) (PV.list (l.map u1) (.tok 3)); exact fun b c d g=>by refine(?_:_→_→Prop) [Ob.abs (rkI ra 40),d,.cells [.ptr 1 0],.tok,.cells [.int .u32 0,.int .u32 0,.int .i64 0,.list [] .exact,.list [] .exact,.list [] .exact],.cells [.int .u32 0,.int .i64 0,.int .u32 0,.list [] .exact,.list [] .exact]] (true && aH [.int .u32] 0 b); exact fun a f=>∀(R:List PV→ag→Prop),(InL (l.map u1) 1 (j:Int)∧br f (InL (l.map u1) 1 (j:Int)∧br f (∃(ra_1:List RwI) (w_1:List Mt) (ins:Int) (id:Int),ak [.ptr 0 0,.ptr 2 0,.int .u32 (IntKind.wrap .u32 (cI b 0+10)),.int .u32 (cI b 0),.int .i64 1] [.ptr 0 0,.ptr 2 0,.int .u32 ins,.int .u32 id,.int .i64 1]∧bH a 0 (rkI ra_1 40)∧bM a 2 1 (rkM (aq w_1) 6)∧Ok ra_1 40∧MO w_1 6∧aX Mt.id w_1 id=false∧R [T1,.ptr 0 0,.ptr 2 0,g,.int .i64 i,.int .i64 j,.int .i64 12] [.abs (rkI ra 40),d,.cells [.ptr 1 0],.tok,.cells [.int .u32 0,.int .u32 0,.int .i64 0,.list [] .no,.list [] .no,.list [] .no],.cells [.int .u32 0,.int .i64 0,.int .u32 0,.list [] .no,.list [] .no]]) False) False)→Holds (eo br Tryd.prog gl TON (hnA [0,1,2,3,4,5,6,7,8,9,10,16,17,11,12,13,14,15,18,19,20]) true c (bO c [0,1,2,3,4,5,6,7,8,9,10,16,17,11,12,13,14,15,18,19,20]) (ax [1,5,6,9,10,15] [T1,.ptr 0 0,.ptr 2 0,g,.int .i64 i,.int .i64 j]) [.abs (rkI ra 40),d,.cells [.ptr 1 0],.tok] (fun e H=>R (List.map e [1,5,6,9,10,15,18]) H)):Prop):=fun R h=>ah (by kernel_rfl) h
theorem Kl (ra:List RwI) (w:List Mt) (T1:PV) (l:List Int) (i j:Nat):(by refine(?_:_→_→_→_→Prop) (List.getD (l.map u1) (Int.toNat (j:Int)) []) (opsOf (bJ [1,1,1,1,0,1,0,0,1,0,0,1,1,1,1,1,1,0,0,1,0,0,0] (aj Tryd.f3))) (Ob.abs (rkM (aq w) 6)) (PV.list (l.map u1) (.tok 3)); exact fun b c d g=>by refine(?_:_→_→Prop) [Ob.abs (rkI ra 40),d,.cells [.ptr 1 0],.tok,.cells [.int .u32 0,.int .u32 0,.int .i64 0,.list [] .exact,.list [] .exact,.list [] .exact],.cells [.int .u32 0,.int .i64 0,.int .u32 0,.list [] .exact,.list [] .exact]] (true && aH [.int .u32] 0 b); exact fun a f=>∀(R:List PV→ag→Prop),(InL (l.map u1) 1 (j:Int)∧br f (InL (l.map u1) 1 (j:Int)∧br f (∃(ra_1:List RwI) (w_1:List Mt) (ins:Int) (id:Int),ak [.ptr 0 0,.ptr 2 0,.int .u32 (IntKind.wrap .u32 (cI b 0+10)),.int .u32 (cI b 0),.int .i64 1] [.ptr 0 0,.ptr 2 0,.int .u32 ins,.int .u32 id,.int .i64 1]∧bH a 0 (rkI ra_1 40)∧bM a 2 1 (rkM (aq w_1) 6)∧Ok ra_1 40∧MO w_1 6∧aX Mt.id w_1 id=false∧R [T1,.ptr 0 0,.ptr 2 0,g,.int .i64 i,.int .i64 j,.int .i64 12] [.abs (rkI ra 40),d,.cells [.ptr 1 0],.tok,.cells [.int .u32 0,.int .u32 0,.int .i64 0,.list [] .no,.list [] .no,.list [] .no],.cells [.int .u32 0,.int .i64 0,.int .u32 0,.list [] .no,.list [] .no]]) False) False)→Holds (eo br Tryd.prog gl TON (hnA [0,1,2,3,4,5,6,7,8,9,10,16,17,11,12,13,14,15,19,18,20]) true c (bO c [0,1,2,3,4,5,6,7,8,9,10,16,17,11,12,13,14,15,19,18,20]) (ax [1,5,6,9,10,15] [T1,.ptr 0 0,.ptr 2 0,g,.int .i64 i,.int .i64 j]) [.abs (rkI ra 40),d,.cells [.ptr 1 0],.tok] (fun e H=>R (List.map e [1,5,6,9,10,15,18]) H)):Prop):=fun R h=>ah (by kernel_rfl) h
theorem KA (ra:List RwI) (w:List Mt) (T1:PV) (l:List Int) (i j:Nat):(by refine(?_:_→_→_→_→Prop) (List.getD (l.map u1) (Int.toNat (j:Int)) []) (opsOf (bJ [1,1,1,1,0,1,0,0,1,0,0,1,1,1,1,1,1,0,0,1,0,0,0] (aj Tryd.f3))) (Ob.abs (rkM (aq w) 6)) (PV.list (l.map u1) (.tok 3)); exact fun b c d g=>by refine(?_:_→_→Prop) [Ob.abs (rkI ra 40),d,.cells [.ptr 1 0],.tok,.cells [.int .u32 0,.int .i64 0,.int .u32 0,.list [] .exact,.list [] .exact]] (true && aH [.int .u32] 0 b); exact fun a f=>∀(R:List PV→ag→Prop),(InL (l.map u1) 1 (j:Int)∧br f (InL (l.map u1) 1 (j:Int)∧br f (∃(ra_1:List RwI) (w_1:List Mt) (ins:Int) (id:Int),ak [.ptr 0 0,.ptr 2 0,.int .u32 (IntKind.wrap .u32 (cI b 0+10)),.int .u32 (cI b 0),.int .i64 1] [.ptr 0 0,.ptr 2 0,.int .u32 ins,.int .u32 id,.int .i64 1]∧bH a 0 (rkI ra_1 40)∧bM a 2 1 (rkM (aq w_1) 6)∧Ok ra_1 40∧MO w_1 6∧aX Mt.id w_1 id=false∧R [T1,.ptr 0 0,.ptr 2 0,g,.int .i64 i,.int .i64 j,.int .i64 12] [.abs (rkI ra 40),d,.cells [.ptr 1 0],.tok,.cells [.int .u32 0,.int .i64 0,.int .u32 0,.list [] .no,.list [] .no],.cells [.int .u32 0,.int .u32 0,.int .i64 0,.list [] .no,.list [] .no,.list [] .no]]) False) False)→Holds (eo br Tryd.prog gl TON (hnA [0,1,2,3,4,5,6,7,8,9,10,17,11,12,13,14,15,16,18,19,20]) true c (bO c [0,1,2,3,4,5,6,7,8,9,10,17,11,12,13,14,15,16,18,19,20]) (ax [1,5,6,9,10,15] [T1,.ptr 0 0,.ptr 2 0,g,.int .i64 i,.int .i64 j]) [.abs (rkI ra 40),d,.cells [.ptr 1 0],.tok] (fun e H=>R (List.map e [1,5,6,9,10,15,18]) H)):Prop):=fun R h=>ah (by kernel_rfl) h
theorem K1 (ra:List RwI) (w:List Mt) (T1:PV) (l:List Int) (i j:Nat):(by refine(?_:_→_→_→_→Prop) (List.getD (l.map u1) (Int.toNat (j:Int)) []) (opsOf (bJ [1,1,1,1,0,1,0,0,1,0,0,1,1,1,1,1,1,0,0,1,0,0,0] (aj Tryd.f3))) (Ob.abs (rkM (aq w) 6)) (PV.list (l.map u1) (.tok 3)); exact fun b c d g=>by refine(?_:_→_→Prop) [Ob.abs (rkI ra 40),d,.cells [.ptr 1 0],.tok,.cells [.int .u32 0,.int .i64 0,.int .u32 0,.list [] .exact,.list [] .exact]] (true && aH [.int .u32] 0 b); exact fun a f=>∀(R:List PV→ag→Prop),(InL (l.map u1) 1 (j:Int)∧br f (InL (l.map u1) 1 (j:Int)∧br f (∃(ra_1:List RwI) (w_1:List Mt) (ins:Int) (id:Int),ak [.ptr 0 0,.ptr 2 0,.int .u32 (IntKind.wrap .u32 (cI b 0+10)),.int .u32 (cI b 0),.int .i64 1] [.ptr 0 0,.ptr 2 0,.int .u32 ins,.int .u32 id,.int .i64 1]∧bH a 0 (rkI ra_1 40)∧bM a 2 1 (rkM (aq w_1) 6)∧Ok ra_1 40∧MO w_1 6∧aX Mt.id w_1 id=false∧R [T1,.ptr 0 0,.ptr 2 0,g,.int .i64 i,.int .i64 j,.int .i64 12] [.abs (rkI ra 40),d,.cells [.ptr 1 0],.tok,.cells [.int .u32 0,.int .i64 0,.int .u32 0,.list [] .no,.list [] .no],.cells [.int .u32 0,.int .u32 0,.int .i64 0,.list [] .no,.list [] .no,.list [] .no]]) False) False)→Holds (eo br Tryd.prog gl TON (hnA [0,1,2,3,4,5,6,7,8,9,10,17,11,12,13,14,15,16,19,18,20]) true c (bO c [0,1,2,3,4,5,6,7,8,9,10,17,11,12,13,14,15,16,19,18,20]) (ax [1,5,6,9,10,15] [T1,.ptr 0 0,.ptr 2 0,g,.int .i64 i,.int .i64 j]) [.abs (rkI ra 40),d,.cells [.ptr 1 0],.tok] (fun e H=>R (List.map e [1,5,6,9,10,15,18]) H)):Prop):=fun R h=>ah (by kernel_rfl) h
theorem Ka (ra:List RwI) (w:List Mt) (T1:PV) (l:List Int) (i j:Nat):(by refine(?_:_→_→_→_→Prop) (List.getD (l.map u1) (Int.toNat (j:Int)) []) (opsOf (bJ [1,1,1,1,0,1,0,0,1,0,0,1,1,1,1,1,1,0,0,1,0,0,0] (aj Tryd.f3))) (Ob.abs (rkM (aq w) 6)) (PV.list (l.map u1) (.tok 3)); exact fun b c d g=>by refine(?_:_→_→Prop) [Ob.abs (rkI ra 40),d,.cells [.ptr 1 0],.tok,.cells [.int .u32 0,.int .i64 0,.int .u32 0,.list [] .exact,.list [] .exact]] (true && aH [.int .u32] 0 b); exact fun a f=>∀(R:List PV→ag→Prop),(InL (l.map u1) 1 (j:Int)∧br f (InL (l.map u1) 1 (j:Int)∧br f (∃(ra_1:List RwI) (w_1:List Mt) (ins:Int) (id:Int),ak [.ptr 0 0,.ptr 2 0,.int .u32 (IntKind.wrap .u32 (cI b 0+10)),.int .u32 (cI b 0),.int .i64 1] [.ptr 0 0,.ptr 2 0,.int .u32 ins,.int .u32 id,.int .i64 1]∧bH a 0 (rkI ra_1 40)∧bM a 2 1 (rkM (aq w_1) 6)∧Ok ra_1 40∧MO w_1 6∧aX Mt.id w_1 id=false∧R [T1,.ptr 0 0,.ptr 2 0,g,.int .i64 i,.int .i64 j,.int .i64 12] [.abs (rkI ra 40),d,.cells [.ptr 1 0],.tok,.cells [.int .u32 0,.int .i64 0,.int .u32 0,.list [] .no,.list [] .no],.cells [.int .u32 0,.int .u32 0,.int .i64 0,.list [] .no,.list [] .no,.list [] .no]]) False) False)→Holds (eo br Tryd.prog gl TON (hnA [0,1,2,3,4,5,6,7,8,9,10,17,11,12,13,14,15,19,16,18,20]) true c (bO c [0,1,2,3,4,5,6,7,8,9,10,17,11,12,13,14,15,19,16,18,20]) (ax [1,5,6,9,10,15] [T1,.ptr 0 0,.ptr 2 0,g,.int .i64 i,.int .i64 j]) [.abs (rkI ra 40),d,.cells [.ptr 1 0],.tok] (fun e H=>R (List.map e [1,5,6,9,10,15,18]) H)):Prop):=fun R h=>ah (by kernel_rfl) h
theorem K3 (ra:List RwI) (w:List Mt) (T1:PV) (l:List Int) (i j:Nat):(by refine(?_:_→_→_→_→Prop) (List.getD (l.map u1) (Int.toNat (j:Int)) []) (opsOf (bJ [1,1,1,1,0,1,0,0,1,0,0,1,1,1,1,1,1,0,0,1,0,0,0] (aj Tryd.f3))) (Ob.abs (rkM (aq w) 6)) (PV.list (l.map u1) (.tok 3)); exact fun b c d g=>by refine(?_:_→_→Prop) [Ob.abs (rkI ra 40),d,.cells [.ptr 1 0],.tok,.cells [.int .u32 0,.int .i64 0,.int .u32 0,.list [] .exact,.list [] .exact],.cells [.int .u32 0,.int .u32 0,.int .i64 0,.list [] .exact,.list [] .exact,.list [] .exact]] (true && aH [.int .u32] 0 b); exact fun a f=>∀(R:List PV→ag→Prop),(InL (l.map u1) 1 (j:Int)∧br f (InL (l.map u1) 1 (j:Int)∧br f (∃(ra_1:List RwI) (w_1:List Mt) (ins:Int) (id:Int),ak [.ptr 0 0,.ptr 2 0,.int .u32 (IntKind.wrap .u32 (cI b 0+10)),.int .u32 (cI b 0),.int .i64 1] [.ptr 0 0,.ptr 2 0,.int .u32 ins,.int .u32 id,.int .i64 1]∧bH a 0 (rkI ra_1 40)∧bM a 2 1 (rkM (aq w_1) 6)∧Ok ra_1 40∧MO w_1 6∧aX Mt.id w_1 id=false∧R [T1,.ptr 0 0,.ptr 2 0,g,.int .i64 i,.int .i64 j,.int .i64 12] [.abs (rkI ra 40),d,.cells [.ptr 1 0],.tok,.cells [.int .u32 0,.int .i64 0,.int .u32 0,.list [] .no,.list [] .no],.cells [.int .u32 0,.int .u32 0,.int .i64 0,.list [] .no,.list [] .no,.list [] .no]]) False) False)→Holds (eo br Tryd.prog gl TON (hnA [0,1,2,3,4,5,6,7,8,9,10,17,16,11,12,13,14,15,18,19,20]) true c (bO c [0,1,2,3,4,5,6,7,8,9,10,17,16,11,12,13,14,15,18,19,20]) (ax [1,5,6,9,10,15] [T1,.ptr 0 0,.ptr 2 0,g,.int .i64 i,.int .i64 j]) [.abs (rkI ra 40),d,.cells [.ptr 1 0],.tok] (fun e H=>R (List.map e [1,5,6,9,10,15,18]) H)):Prop):=fun R h=>ah (by kernel_rfl) h
theorem Ln (ra:List RwI) (w:List Mt) (T1:PV) (l:List Int) (i j:Nat):(by refine(?_:_→_→_→_→Prop) (List.getD (l.map u1) (Int.toNat (j:Int)) []) (opsOf (bJ [1,1,1,1,0,1,0,0,1,0,0,1,1,1,1,1,1,0,0,1,0,0,0] (aj Tryd.f3))) (Ob.abs (rkM (aq w) 6)) (PV.list (l.map u1) (.tok 3)); exact fun b c d g=>by refine(?_:_→_→Prop) [Ob.abs (rkI ra 40),d,.cells [.ptr 1 0],.tok,.cells [.int .u32 0,.int .i64 0,.int .u32 0,.list [] .exact,.list [] .exact],.cells [.int .u32 0,.int .u32 0,.int .i64 0,.list [] .exact,.list [] .exact,.list [] .exact]] (true && aH [.int .u32] 0 b); exact fun a f=>∀(R:List PV→ag→Prop),(InL (l.map u1) 1 (j:Int)∧br f (InL (l.map u1) 1 (j:Int)∧br f (∃(ra_1:List RwI) (w_1:List Mt) (ins:Int) (id:Int),ak [.ptr 0 0,.ptr 2 0,.int .u32 (IntKind.wrap .u32 (cI b 0+10)),.int .u32 (cI b 0),.int .i64 1] [.ptr 0 0,.ptr 2 0,.int .u32 ins,.int .u32 id,.int .i64 1]∧bH a 0 (rkI ra_1 40)∧bM a 2 1 (rkM (aq w_1) 6)∧Ok ra_1 40∧MO w_1 6∧aX Mt.id w_1 id=false∧R [T1,.ptr 0 0,.ptr 2 0,g,.int .i64 i,.int .i64 j,.int .i64 12] [.abs (rkI ra 40),d,.cells [.ptr 1 0],.tok,.cells [.int .u32 0,.int .i64 0,.int .u32 0,.list [] .no,.list [] .no],.cells [.int .u32 0,.int .u32 0,.int .i64 0,.list [] .no,.list [] .no,.list [] .no]]) False) False)→Holds (eo br Tryd.prog gl TON (hnA [0,1,2,3,4,5,6,7,8,9,10,17,16,11,12,13,14,15,19,18,20]) true c (bO c [0,1,2,3,4,5,6,7,8,9,10,17,16,11,12,13,14,15,19,18,20]) (ax [1,5,6,9,10,15] [T1,.ptr 0 0,.ptr 2 0,g,.int .i64 i,.int .i64 j]) [.abs (rkI ra 40),d,.cells [.ptr 1 0],.tok] (fun e H=>R (List.map e [1,5,6,9,10,15,18]) H)):Prop):=fun R h=>ah (by kernel_rfl) h
def Lr:LSp:=fun e H Q=>∃(ra:List RwI) (w:List Mt) (T1:PV) (l:List Int) (i j:Nat),j<l.length∧Ok ra 40∧MO w 6∧(∀ z∈l,aX Mt.id w z=false)∧ak (List.map e [1,5,6,9,10,15]) [T1,.ptr 0 0,.ptr 2 0,.list (l.map u1) (.tok 3),.int .i64 i,.int .i64 j]∧aC H [.abs (rkI ra 40),.abs (rkM (aq w) 6),.cells [.ptr 1 0],.tok]∧(∀ G:ag,Q .normal (ax [1,5,6,9,10,15,18] [T1,.ptr 0 0,.ptr 2 0,.list (l.map u1) (.tok 3),.int .i64 i,.int .i64 j,.int .i64 12]) ([.abs (rkI ra 40),.abs (rkM (aq w) 6),.cells [.ptr 1 0],.tok]++G))
theorem FK:o4 (bJ [1,1,1,1,0,1,0,0,1,0,0,1,1,1,1,1,1,0,0,1,0,0,0] (aj Tryd.f3))=true:=by kernel_rfl
theorem Jv:rF (opsOf (bJ [1,1,1,1,0,1,0,0,1,0,0,1,1,1,1,1,1,0,0,1,0,0,0] (aj Tryd.f3))) hnA [11,16,17,18,19] [[0,1,2,3,4,5,6,7,8,9,10,11,12,13,14,15,16,17,18,19,20],[0,1,2,3,4,5,6,7,8,9,10,11,12,13,14,15,16,17,19,18,20],[0,1,2,3,4,5,6,7,8,9,10,11,12,13,14,15,16,18,17,19,20],[0,1,2,3,4,5,6,7,8,9,10,11,12,13,14,15,17,16,18,19,20],[0,1,2,3,4,5,6,7,8,9,10,11,12,13,14,15,17,16,19,18,20],[0,1,2,3,4,5,6,7,8,9,10,11,12,13,14,15,17,19,16,18,20],[0,1,2,3,4,5,6,7,8,9,10,16,11,12,13,14,15,17,18,19,20],[0,1,2,3,4,5,6,7,8,9,10,16,11,12,13,14,15,17,19,18,20],[0,1,2,3,4,5,6,7,8,9,10,16,11,12,13,14,15,18,17,19,20],[0,1,2,3,4,5,6,7,8,9,10,16,17,11,12,13,14,15,18,19,20],[0,1,2,3,4,5,6,7,8,9,10,16,17,11,12,13,14,15,19,18,20],[0,1,2,3,4,5,6,7,8,9,10,17,11,12,13,14,15,16,18,19,20],[0,1,2,3,4,5,6,7,8,9,10,17,11,12,13,14,15,16,19,18,20],[0,1,2,3,4,5,6,7,8,9,10,17,11,12,13,14,15,19,16,18,20],[0,1,2,3,4,5,6,7,8,9,10,17,16,11,12,13,14,15,18,19,20],[0,1,2,3,4,5,6,7,8,9,10,17,16,11,12,13,14,15,19,18,20]]=true:=by kernel_rfl
theorem FM:∀ e H Q,Lr e H Q→AW Tryd.prog gl Tryd.f3.ntmps (bJ [1,1,1,1,0,1,0,0,1,0,0,1,1,1,1,1,1,0,0,1,0,0,0] (aj Tryd.f3)) Q e H:=by
 rintro e H Q ⟨ra,w,T1,l,i,j,h,ok,ro,hn,he,hH,hQ⟩
 have inl:InL (l.map u1) 1 (j:Int):=by rw[eB]; exact h
 have cu:∀ z:Int,cI (u1 z) 0=z:=fun _=>rfl
 refine wm (T:=TON) (slots:=[1,5,6,9,10,15]) (outs:=[1,5,6,9,10,15,18]) (hn:=hnA) DC [11,16,17,18,19] [[0,1,2,3,4,5,6,7,8,9,10,11,12,13,14,15,16,17,18,19,20],[0,1,2,3,4,5,6,7,8,9,10,11,12,13,14,15,16,17,19,18,20],[0,1,2,3,4,5,6,7,8,9,10,11,12,13,14,15,16,18,17,19,20],[0,1,2,3,4,5,6,7,8,9,10,11,12,13,14,15,17,16,18,19,20],[0,1,2,3,4,5,6,7,8,9,10,11,12,13,14,15,17,16,19,18,20],[0,1,2,3,4,5,6,7,8,9,10,11,12,13,14,15,17,19,16,18,20],[0,1,2,3,4,5,6,7,8,9,10,16,11,12,13,14,15,17,18,19,20],[0,1,2,3,4,5,6,7,8,9,10,16,11,12,13,14,15,17,19,18,20],[0,1,2,3,4,5,6,7,8,9,10,16,11,12,13,14,15,18,17,19,20],[0,1,2,3,4,5,6,7,8,9,10,16,17,11,12,13,14,15,18,19,20],[0,1,2,3,4,5,6,7,8,9,10,16,17,11,12,13,14,15,19,18,20],[0,1,2,3,4,5,6,7,8,9,10,17,11,12,13,14,15,16,18,19,20],[0,1,2,3,4,5,6,7,8,9,10,17,11,12,13,14,15,16,19,18,20],[0,1,2,3,4,5,6,7,8,9,10,17,11,12,13,14,15,19,16,18,20],[0,1,2,3,4,5,6,7,8,9,10,17,16,11,12,13,14,15,18,19,20],[0,1,2,3,4,5,6,7,8,9,10,17,16,11,12,13,14,15,19,18,20]] FK Jv he hH ?_
 intro is his
 simp only[List.mem_cons,List.not_mem_nil,or_false] at his
 rcases his with rfl|rfl|rfl|rfl|rfl|rfl|rfl|rfl|rfl|rfl|rfl|rfl|rfl|rfl|rfl|rfl
 ·refine Ku ra w T1 l i j (fun vs H'=>Q .normal (ax [1,5,6,9,10,15,18] vs) H') ?_
  simp only[az,au,getD_map 0 h,cu]
  refine⟨inl,?_⟩
  rw[if_pos (by rfl)]
  refine⟨inl,?_⟩
  rw[if_pos (by rfl)]
  exact⟨ra,w,_,l.getD j 0,rfl,rfl,⟨rfl,rfl⟩,ok,ro,hn _ (aI h),hQ [_,_]⟩
 ·refine KS ra w T1 l i j (fun vs H'=>Q .normal (ax [1,5,6,9,10,15,18] vs) H') ?_
  simp only[az,au,getD_map 0 h,cu]
  refine⟨inl,?_⟩
  rw[if_pos (by rfl)]
  refine⟨inl,?_⟩
  rw[if_pos (by rfl)]
  exact⟨ra,w,_,l.getD j 0,rfl,rfl,⟨rfl,rfl⟩,ok,ro,hn _ (aI h),hQ [_,_]⟩
 ·refine Kz ra w T1 l i j (fun vs H'=>Q .normal (ax [1,5,6,9,10,15,18] vs) H') ?_
  simp only[az,au,getD_map 0 h,cu]
  refine⟨inl,?_⟩
  rw[if_pos (by rfl)]
  refine⟨inl,?_⟩
  rw[if_pos (by rfl)]
  exact⟨ra,w,_,l.getD j 0,rfl,rfl,⟨rfl,rfl⟩,ok,ro,hn _ (aI h),hQ [_,_]⟩
 ·refine KZ ra w T1 l i j (fun vs H'=>Q .normal (ax [1,5,6,9,10,15,18] vs) H') ?_
  simp only[az,au,getD_map 0 h,cu]
  refine⟨inl,?_⟩
  rw[if_pos (by rfl)]
  refine⟨inl,?_⟩
  rw[if_pos (by rfl)]
  exact⟨ra,w,_,l.getD j 0,rfl,rfl,⟨rfl,rfl⟩,ok,ro,hn _ (aI h),hQ [_,_]⟩
 ·refine Lq ra w T1 l i j (fun vs H'=>Q .normal (ax [1,5,6,9,10,15,18] vs) H') ?_
  simp only[az,au,getD_map 0 h,cu]
  refine⟨inl,?_⟩
  rw[if_pos (by rfl)]
  refine⟨inl,?_⟩
  rw[if_pos (by rfl)]
  exact⟨ra,w,_,l.getD j 0,rfl,rfl,⟨rfl,rfl⟩,ok,ro,hn _ (aI h),hQ [_,_]⟩
 ·refine JZ ra w T1 l i j (fun vs H'=>Q .normal (ax [1,5,6,9,10,15,18] vs) H') ?_
  simp only[az,au,getD_map 0 h,cu]
  refine⟨inl,?_⟩
  rw[if_pos (by rfl)]
  refine⟨inl,?_⟩
  rw[if_pos (by rfl)]
  exact⟨ra,w,_,l.getD j 0,rfl,rfl,⟨rfl,rfl⟩,ok,ro,hn _ (aI h),hQ [_,_]⟩
 ·refine Kh ra w T1 l i j (fun vs H'=>Q .normal (ax [1,5,6,9,10,15,18] vs) H') ?_
  simp only[az,au,getD_map 0 h,cu]
  refine⟨inl,?_⟩
  rw[if_pos (by rfl)]
  refine⟨inl,?_⟩
  rw[if_pos (by rfl)]
  exact⟨ra,w,_,l.getD j 0,rfl,rfl,⟨rfl,rfl⟩,ok,ro,hn _ (aI h),hQ [_,_]⟩
 ·refine JA ra w T1 l i j (fun vs H'=>Q .normal (ax [1,5,6,9,10,15,18] vs) H') ?_
  simp only[az,au,getD_map 0 h,cu]
  refine⟨inl,?_⟩
  rw[if_pos (by rfl)]
  refine⟨inl,?_⟩
  rw[if_pos (by rfl)]
  exact⟨ra,w,_,l.getD j 0,rfl,rfl,⟨rfl,rfl⟩,ok,ro,hn _ (aI h),hQ [_,_]⟩
 ·refine JG ra w T1 l i j (fun vs H'=>Q .normal (ax [1,5,6,9,10,15,18] vs) H') ?_
  simp only[az,au,getD_map 0 h,cu]
  refine⟨inl,?_⟩
  rw[if_pos (by rfl)]
  refine⟨inl,?_⟩
  rw[if_pos (by rfl)]
  exact⟨ra,w,_,l.getD j 0,rfl,rfl,⟨rfl,rfl⟩,ok,ro,hn _ (aI h),hQ [_,_]⟩
 ·refine Kb ra w T1 l i j (fun vs H'=>Q .normal (ax [1,5,6,9,10,15,18] vs) H') ?_
  simp only[az,au,getD_map 0 h,cu]
  refine⟨inl,?_⟩
  rw[if_pos (by rfl)]
  refine⟨inl,?_⟩
  rw[if_pos (by rfl)]
  exact⟨ra,w,_,l.getD j 0,rfl,rfl,⟨rfl,rfl⟩,ok,ro,hn _ (aI h),hQ [_,_]⟩
 ·refine Kl ra w T1 l i j (fun vs H'=>Q .normal (ax [1,5,6,9,10,15,18] vs) H') ?_
  simp only[az,au,getD_map 0 h,cu]
  refine⟨inl,?_⟩
  rw[if_pos (by rfl)]
  refine⟨inl,?_⟩
  rw[if_pos (by rfl)]
  exact⟨ra,w,_,l.getD j 0,rfl,rfl,⟨rfl,rfl⟩,ok,ro,hn _ (aI h),hQ [_,_]⟩
 ·refine KA ra w T1 l i j (fun vs H'=>Q .normal (ax [1,5,6,9,10,15,18] vs) H') ?_
  simp only[az,au,getD_map 0 h,cu]
  refine⟨inl,?_⟩
  rw[if_pos (by rfl)]
  refine⟨inl,?_⟩
  rw[if_pos (by rfl)]
  exact⟨ra,w,_,l.getD j 0,rfl,rfl,⟨rfl,rfl⟩,ok,ro,hn _ (aI h),hQ [_,_]⟩
 ·refine K1 ra w T1 l i j (fun vs H'=>Q .normal (ax [1,5,6,9,10,15,18] vs) H') ?_
  simp only[az,au,getD_map 0 h,cu]
  refine⟨inl,?_⟩
  rw[if_pos (by rfl)]
  refine⟨inl,?_⟩
  rw[if_pos (by rfl)]
  exact⟨ra,w,_,l.getD j 0,rfl,rfl,⟨rfl,rfl⟩,ok,ro,hn _ (aI h),hQ [_,_]⟩
 ·refine Ka ra w T1 l i j (fun vs H'=>Q .normal (ax [1,5,6,9,10,15,18] vs) H') ?_
  simp only[az,au,getD_map 0 h,cu]
  refine⟨inl,?_⟩
  rw[if_pos (by rfl)]
  refine⟨inl,?_⟩
  rw[if_pos (by rfl)]
  exact⟨ra,w,_,l.getD j 0,rfl,rfl,⟨rfl,rfl⟩,ok,ro,hn _ (aI h),hQ [_,_]⟩
 ·refine K3 ra w T1 l i j (fun vs H'=>Q .normal (ax [1,5,6,9,10,15,18] vs) H') ?_
  simp only[az,au,getD_map 0 h,cu]
  refine⟨inl,?_⟩
  rw[if_pos (by rfl)]
  refine⟨inl,?_⟩
  rw[if_pos (by rfl)]
  exact⟨ra,w,_,l.getD j 0,rfl,rfl,⟨rfl,rfl⟩,ok,ro,hn _ (aI h),hQ [_,_]⟩
 ·refine Ln ra w T1 l i j (fun vs H'=>Q .normal (ax [1,5,6,9,10,15,18] vs) H') ?_
  simp only[az,au,getD_map 0 h,cu]
  refine⟨inl,?_⟩
  rw[if_pos (by rfl)]
  refine⟨inl,?_⟩
  rw[if_pos (by rfl)]
  exact⟨ra,w,_,l.getD j 0,rfl,rfl,⟨rfl,rfl⟩,ok,ro,hn _ (aI h),hQ [_,_]⟩
theorem CH:∀ e H Q,Lr e H Q→AW Tryd.prog gl Tryd.f3.ntmps (bJ [1,0,0,0] (av [1,1,1,1,0,1,0,0,1,0,0,1,1,1,1,1,1,0] (aj Tryd.f3))) Q e H:=by
 rw[show bJ [1,0,0,0] (av [1,1,1,1,0,1,0,0,1,0,0,1,1,1,1,1,1,0] (aj Tryd.f3))=bJ [1,1,1,1,0,1,0,0,1,0,0,1,1,1,1,1,1,0,0,1,0,0,0] (aj Tryd.f3) from by kernel_rfl]; exact FM
theorem LN (ra:List RwI) (w:List Mt) (T1:PV) (l:List Int) (i j:Nat):(by refine(?_:_→_→Prop) [T1,.ptr 0 0,.ptr 2 0,.list (l.map u1) (.tok 3),.int .i64 i,.int .i64 j] [Ob.abs (rkI ra 40),.abs (rkM (aq w) 6),.cells [.ptr 1 0],.tok]; exact fun c d=>∀(R:Ex→List PV→ag→Prop),(br (decide ((j:Int)<(↑(List.length (l.map u1)):Int))) (∃(ra_1:List RwI) (w_1:List Mt) (T1_1:PV) (l_1:List Int) (i_1:Nat) (j_1:Nat),by refine(?_:_→_→Prop) [Ob.abs (rkI ra_1 40),.abs (rkM (aq w_1) 6),.cells [.ptr 1 0],.tok] (PV.list (l_1.map u1) (.tok 3)); exact fun a b=>j_1<l_1.length∧Ok ra_1 40∧MO w_1 6∧(∀(z:Int),z∈l_1→aX Mt.id w_1 z=false)∧ak c [T1_1,.ptr 0 0,.ptr 2 0,b,.int .i64 i_1,.int .i64 j_1]∧aC d a∧∀(G:ag),R .normal [T1_1,.ptr 0 0,.ptr 2 0,b,.int .i64 i_1,.int .i64 (wI ((j_1:Int)+1))] (a++G)) (R (.exit 2) c d))→Holds (wpc br Tryd.prog gl TON [([1,0,0,0],Lr)] (fun _=>0) (av [1,1,1,1,0,1,0,0,1,0,0,1,1,1,1,1,1,0] (aj Tryd.f3)) [] (ax [1,5,6,9,10,15] c) d (fun ex e H=>R ex (List.map e [1,5,6,9,10,15]) H)):Prop):=fun R h=>ah (by kernel_rfl) h
theorem ya {ρ:Nat→Nat} {n k:Nat} (hk:k<n) (l:List Int):Ren ρ n (.list (l.map u1) (.tok k)) (.list (l.map u1) (.tok (ρ k))):= .ltok _ _ hk (by intro x hx; exact bu (fun a _=>bU a) x hx)
theorem yc {n0:Nat} {vs:List PV} {X G:ag} (hX:gk X.length X) (hv:aW (fun o=>o) X.length vs vs) (hn:n0≤X.length):dZ n0 vs (X++G) vs X:=⟨vs,X++G,fun o=>o,.refl _,.refl _,iR hX,hn,fun _ _=>rfl,hv⟩
theorem CQ {ra:List RwI} {w:List Mt}:gk 4 [.abs (rkI ra 40),.abs (rkM (aq w) 6),.cells [.ptr 1 0],.tok]:=by
 intro o cs ho x hx
 have k1:=(List.getElem?_eq_some_iff.1 ho).1
 simp at k1
 have:o=0∨o=1∨o=2∨o=3:=by omega
 rcases this with rfl|rfl|rfl|rfl<;>cases ho
 simp only[List.mem_cons,List.not_mem_nil,or_false] at hx
 subst hx
 exact .ptr _ _ (by decide)
theorem C3 {T1:PV} (hT:Low 0 T1) (l:List Int) (i j:Int):aW (fun o=>o) 4 [T1,.ptr 0 0,.ptr 2 0,.list (l.map u1) (.tok 3),.int .i64 i,.int .i64 j] [T1,.ptr 0 0,.ptr 2 0,.list (l.map u1) (.tok 3),.int .i64 i,.int .i64 j]:=
 .cons (.low hT) (.cons (.ptr 0 0 (by decide)) (.cons (.ptr 2 0 (by decide)) (.cons (ya (ρ:=fun o=>o) (by decide) l) (.cons (.low (.int _ _)) (.cons (.low (.int _ _)) .nil)))))
theorem Fw {ra:List RwI} {w:List Mt} {T1:PV} {l:List Int} {i:Nat} (hl:l.length≤1000000) (ok:Ok ra 40) (ro:MO w 6) (hn:∀ z∈l,aX Mt.id w z=false) (hT:Low 0 T1) {Q:Ex→Env→ag→Prop} (hQ:Q (.exit 2) (ax [1,5,6,9,10,15] [T1,.ptr 0 0,.ptr 2 0,.list (l.map u1) (.tok 3),.int .i64 i,.int .i64 l.length]) [.abs (rkI ra 40),.abs (rkM (aq w) 6),.cells [.ptr 1 0],.tok]):
  AW Tryd.prog gl Tryd.f3.ntmps (.loop (av [1,1,1,1,0,1,0,0,1,0,0,1,1,1,1,1,1,0] (aj Tryd.f3))) Q (ax [1,5,6,9,10,15] [T1,.ptr 0 0,.ptr 2 0,.list (l.map u1) (.tok 3),.int .i64 i,.int .i64 0]) [.abs (rkI ra 40),.abs (rkM (aq w) 6),.cells [.ptr 1 0],.tok]:=by
 refine eS (hn:=fun _=>0) ay DC (.cons (iA (by kernel_rfl)) CH (.nil _ _ _ _ _)) (σ:=Nat) [1,5,6,9,10,15] (fun j=>j≤l.length) (fun j=>[T1,.ptr 0 0,.ptr 2 0,.list (l.map u1) (.tok 3),.int .i64 i,.int .i64 j]) (fun _=>[.abs (rkI ra 40),.abs (rkM (aq w) 6),.cells [.ptr 1 0],.tok]) (fun j=>l.length-j) 0 (Nat.zero_le _) rfl rfl ?_
 intro j hj
 have hj':j≤l.length:=hj
 refine LN ra w T1 l i j _ ?_
 simp only[az,dt,List.length_map]
 by_cases h:j<l.length
 ·rw[if_pos (by omega)]
  exact⟨ra,w,T1,l,i,j,h,ok,ro,hn,rfl,rfl,fun G=>⟨j+1,(show l.length-(j+1)<l.length-j by omega),h,by rw[aA h (by omega)]; exact yc CQ (C3 hT l i _) (Nat.le_refl _)⟩⟩
 ·rw[if_neg (by omega)]
  have:j=l.length:=by omega
  subst this
  exact⟨_,_,yc (G:=[]) CQ (C3 hT l i _) (Nat.le_refl _),hQ⟩
def Ih (H:ag) (k:Nat):Prop:=H[k]?=some .tok
def ρon (k:Nat):Nat→Nat:=fun o=>if o=3 then k else o+1
theorem Ji {σ:Nat→Nat} {H:ag} {k:Nat} {ra:List RwI} {w:List Mt} (hI:bH H 1 (rkI ra 40)) (hB:bM H 3 2 (rkM (aq w) 6)) (hk:Ih H k) (h0:σ 0=1) (h1:σ 1=2) (h2:σ 2=3) (h3:σ 3=k):∀(o:Nat) (a:Ob),[.abs (rkI ra 40),.abs (rkM (aq w) 6),.cells [.ptr 1 0],.tok][o]?=some a→∃ b,H[σ o]?=some b∧dh σ 4 a b∧(b.alive=true→a.alive=true):=by
 intro o a ho
 have k1:=(List.getElem?_eq_some_iff.1 ho).1
 simp at k1
 have:o=0∨o=1∨o=2∨o=3:=by omega
 rcases this with rfl|rfl|rfl|rfl<;>cases ho
 ·exact⟨_,by rw[h0]; exact hI,.abs _,fun h=>h⟩
 ·exact⟨_,by rw[h1]; exact hB.2,.abs _,fun h=>h⟩
 ·refine⟨.cells [.ptr 2 0],by rw[h2]; exact hB.1,.cells (.cons ?_ .nil),fun h=>h⟩
  have:=Ren.ptr (ρ:=σ) (n:=4) 1 0 (by decide)
  rwa [h1] at this
 ·exact⟨_,by rw[h3]; exact hk,.tok,fun h=>h⟩
theorem EB {σ:Nat→Nat} {k:Nat} (h0:σ 0=1) (h2:σ 2=3) (h3:σ 3=k) {T1:PV} (hT:Low 0 T1) (l:List Int) (i j:Int):aW σ 4 [T1,.ptr 0 0,.ptr 2 0,.list (l.map u1) (.tok 3),.int .i64 i,.int .i64 j] [T1,.ptr 1 0,.ptr 3 0,.list (l.map u1) (.tok k),.int .i64 i,.int .i64 j]:=by
 have a:=Ren.ptr (ρ:=σ) (n:=4) 0 0 (by decide)
 have b:=Ren.ptr (ρ:=σ) (n:=4) 2 0 (by decide)
 have c:=ya (ρ:=σ) (n:=4) (k:=3) (by decide) l
 rw[h0] at a; rw[h2] at b; rw[h3] at c
 exact .cons (.low hT) (.cons a (.cons b (.cons c (.cons (.low (.int _ _)) (.cons (.low (.int _ _)) .nil)))))
def wM:LSp:=fun e H Q=>∃(k:Nat) (ra:List RwI) (w:List Mt) (T1:PV) (l:List Int) (i:Nat),l.length≤1000000∧Ok ra 40∧MO w 6∧(∀ z∈l,aX Mt.id w z=false)∧Low 0 T1∧ak (List.map e [1,5,6,9,10,15]) [T1,.ptr 1 0,.ptr 3 0,.list (l.map u1) (.tok k),.int .i64 i,.int .i64 0]∧bH H 1 (rkI ra 40)∧bM H 3 2 (rkM (aq w) 6)∧Ih H k∧4≤k∧Q (.exit 2) (ax [1,5,6,9,10,15] [T1,.ptr 1 0,.ptr 3 0,.list (l.map u1) (.tok k),.int .i64 i,.int .i64 l.length]) H
theorem C5:∀ e H Q,wM e H Q→AW Tryd.prog gl Tryd.f3.ntmps (.loop (av [1,1,1,1,0,1,0,0,1,0,0,1,1,1,1,1,1,0] (aj Tryd.f3))) Q e H:=by
 rintro e H Q ⟨k,ra,w,T1,l,i,hl,ok,ro,hn,hT,he,hI,hB,hk,h4,hQ⟩
 have l1:=(List.getElem?_eq_some_iff.1 hI).1
 have l2:=(List.getElem?_eq_some_iff.1 hB.1).1
 have l3:=(List.getElem?_eq_some_iff.1 hk).1
 have i3:ρon k 3=k:=rfl
 have hsub:Sub (ρon k) [.abs (rkI ra 40),.abs (rkM (aq w) 6),.cells [.ptr 1 0],.tok] H:=by
  refine⟨fun o ho=>?_,fun a b ha hb e=>?_,fun o a ho=>?_⟩
  ·simp at ho
   unfold ρon; split<;>omega
  ·simp at ha hb
   unfold ρon at e
   split at e<;>split at e<;>omega
  ·obtain⟨b,h1,h2,_⟩:=Ji hI hB hk rfl rfl rfl i3 o a ho
   exact⟨b,h1,h2⟩
 have x0:aJ (ρon k) 4 H.length 0=1:=by simp[aJ,ρon]
 have x1:aJ (ρon k) 4 H.length 1=2:=by simp[aJ,ρon]
 have x2:aJ (ρon k) 4 H.length 2=3:=by simp[aJ,ρon]
 have x3:aJ (ρon k) 4 H.length 3=k:=by simp[aJ,ρon]
 exact AW.frame ay (X:=[.abs (rkI ra 40),.abs (rkM (aq w) 6),.cells [.ptr 1 0],.tok]) (slots:=[1,5,6,9,10,15]) (outs:=[1,5,6,9,10,15]) (vals0:=[T1,.ptr 0 0,.ptr 2 0,.list (l.map u1) (.tok 3),.int .i64 i,.int .i64 0]) hsub he (EB rfl rfl i3 hT l _ _) (Fw hl ok ro hn hT ⟨[T1,.ptr 1 0,.ptr 3 0,.list (l.map u1) (.tok k),.int .i64 i,.int .i64 l.length],H,⟨Nat.le_refl _,by simp,fun o a ho=>Ji hI hB hk x0 x1 x2 x3 o a ho,fun _ _ _=>rfl⟩,EB x0 x2 x3 hT l _ _,hQ⟩)
theorem Ia:av [1,0,0,1,1,1,1,1,1,0] (av [1,1,1,1,0,1,0] (aj Tryd.f3))=av [1,1,1,1,0,1,0,0,1,0,0,1,1,1,1,1,1,0] (aj Tryd.f3):=by kernel_rfl
theorem qT:∀ e H Q,wM e H Q→AW Tryd.prog gl Tryd.f3.ntmps (.loop (av [1,0,0,1,1,1,1,1,1,0] (av [1,1,1,1,0,1,0] (aj Tryd.f3)))) Q e H:=by rw[Ia]; exact C5
end Go.Proofs.YtenaelaapdhbdaaDoor
