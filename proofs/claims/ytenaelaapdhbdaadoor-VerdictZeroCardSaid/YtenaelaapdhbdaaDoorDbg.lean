/-
  Apply.
-/
import Derived.Test.YtenaelaapdhbdaaDoorDbf
import Derived.Test.YtenaelaapdhbdaaDoorProg
namespace Go.Proofs.YtenaelaapdhbdaaDoor
open Go Go.AM Go.Proofs
def b8 (ra:List RwI) (most:Int) (xs:List (Int×Int)):List RwI:=xs.foldl (fun l x=>(bZ l most x.1 x.2).1) ra
def TAP:Tab:=[(11,.read oG),(14,.heap tA)]
theorem uC:aB Tryd.prog gl TAP:= .cons nj (.cons q3 (.nil _ _))
theorem Jr (ra:List RwI) (most:Int) (v:Vd) (i:Nat):(by refine(?_:_→_→_→Prop) (PV.list (v.ps.map u1) .no) (List.getD (v.ps.map u1) (Int.toNat (i:Int)) []) (PV.int .i64 v.ps.length); exact fun c d f=>by refine(?_:_→_→Prop) [Ob.abs (rkI ra most),.cells [.int .u32 v.m,.int .u32 v.i,.int .i64 v.r,c,.list (v.old.map i1) .no,.list (v.new.map i1) .no]] [PV.ptr 0 0,.ptr 1 0,.int .i64 0,c,f,.int .i64 i]; exact fun a b=>∀(R:Ex→List PV→ae→Prop),(br (decide ((i:Int)<(v.ps.length:Int))) (InL (v.ps.map u1) 1 (i:Int)∧br (true && aP [.int .u32] 0 d) (∃(q:Nat) (l:List RwI) (most_1:Int) (t:Int),ak [.ptr 0 0,.int .u32 (cI d 0)] [.ptr q 0,.int .u32 t]∧bO a q (rkI l most_1)∧Ok l most_1∧br (!has l t) (R .ret [.ptr 0 0,.ptr 1 0,.int .i64 12,c,f,.int .i64 i] a) (R .normal [.ptr 0 0,.ptr 1 0,.int .i64 0,c,f,.int .i64 (wI ((i:Int)+1))] a)) False) (R (.exit 0) b a))→Holds (wpc br Tryd.prog gl TAP [] (fun _=>0) (an [1,1,0,1,0] (ai Tryd.f22)) [] (av [0,3,4,19,20,21] b) [.abs (rkI ra most),.cells (vdC v)] (fun ex e H=>R ex (List.map e [0,3,4,19,20,21]) H)):Prop):=fun R h=>ag (by kernel_rfl) h
theorem Jz (ra:List RwI) (most:Int) (v:Vd) (i:Nat):(by refine(?_:_→_→_→_→Prop) (Int.toNat (i:Int)) (PV.list (v.ps.map u1) .no) (Ob.abs (rkI ra most)) (PV.int .i64 v.ps.length); exact fun c d f j=>by refine(?_:_→_→_→_→Prop) (Ob.cells [.int .u32 v.m,.int .u32 v.i,.int .i64 v.r,d,.list (v.old.map i1) .no,.list (v.new.map i1) .no]) [PV.ptr 0 0,.ptr 1 0,d,j,.int .i64 i] (List.getD (v.new.map i1) c []) (List.getD (v.ps.map u1) c []); exact fun a b g h=>∀(R:Ex→List PV→ae→Prop),(br (decide ((i:Int)<(v.ps.length:Int))) (InL (v.ps.map u1) 1 (i:Int)∧br (true && aP [.int .u32] 0 h) (InL (v.new.map i1) 1 (i:Int)∧br (true && aP [.int .i64] 0 g) (∃(l:List RwI) (most_1:Int) (t:Int) (v_1:Int),ak [.int .u32 (cI h 0),.int .i64 (cI g 0)] [.int .u32 t,.int .i64 v_1]∧bO [f,a] 0 (rkI l most_1)∧Ok l most_1∧R .normal [.ptr 0 0,.ptr 1 0,d,j,.int .i64 (wI ((i:Int)+1))] [.abs (rkI (Prod.fst (bZ l most_1 t v_1)) most_1),a]) False) False) (R (.exit 2) b [f,a]))→Holds (wpc br Tryd.prog gl TAP [] (fun _=>0) (an [1,1,1,0,1,0] (ai Tryd.f22)) [] (av [0,3,35,36,37] b) [f,.cells (vdC v)] (fun ex e H=>R ex (List.map e [0,3,35,36,37]) H)):Prop):=fun R h=>ag (by kernel_rfl) h
def hasAll (ra:List RwI) (l:List Int):Bool:=l.all fun p=>has ra p
def cX (ra:List RwI) (most:Int) (v:Vd):List RwI×Int:=if v.new.length≠v.ps.length then(ra,21) else if hasAll ra v.ps=true then(b8 ra most (v.ps.zip v.new),0) else(ra,12)
theorem kS {ra:List RwI} {most:Int} (ok:Ok ra most) (xs:List (Int×Int)):Ok (b8 ra most xs) most:=by
 unfold b8
 induction xs generalizing ra with
 | nil=>exact ok
 | cons x xs ih=>exact ih (ok.put _ _)
theorem xK {ra:List RwI} {most:Int} (ok:Ok ra most) (v:Vd):Ok (cX ra most v).1 most:=by
 unfold cX
 split
 ·exact ok
 ·split
  ·exact kS ok _
  ·exact ok
theorem uI {ra:List RwI} {most:Int} {ps ns:List Int} {i:Nat} (h:i<ps.length) (hl:ns.length=ps.length):b8 ra most ((ps.zip ns).take (i+1))=(bZ (b8 ra most ((ps.zip ns).take i)) most (ps.getD i 0) (ns.getD i 0)).1:=by
 have hz:i<(ps.zip ns).length:=by rw[List.length_zip]; omega
 unfold b8
 rw[aZ (0,0) hz,List.foldl_append]
 rw[List.getD_eq_getElem?_getD,List.getD_eq_getElem?_getD,List.getD_eq_getElem?_getD,List.getElem?_eq_getElem hz,List.getElem?_eq_getElem h,List.getElem?_eq_getElem (by omega),List.getElem_zip]
 rfl
def Hr:LSp:=fun e H Q=>∃(ra:List RwI) (most:Int) (v:Vd),Ok ra most∧v.ps.length≤1000000∧ak (List.map e [0,3,4,19,20,21]) [.ptr 0 0,.ptr 1 0,.int .i64 0,.list (v.ps.map u1) .no,.int .i64 v.ps.length,.int .i64 0]∧az H [.abs (rkI ra most),.cells (vdC v)]∧(hasAll ra v.ps=true→Q (.exit 0) (av [0,3,4,19,20,21] [.ptr 0 0,.ptr 1 0,.int .i64 0,.list (v.ps.map u1) .no,.int .i64 v.ps.length,.int .i64 v.ps.length]) [.abs (rkI ra most),.cells (vdC v)])∧(hasAll ra v.ps=false→∀ i:Nat,Q .ret (av [0,3,4,19,20,21] [.ptr 0 0,.ptr 1 0,.int .i64 12,.list (v.ps.map u1) .no,.int .i64 v.ps.length,.int .i64 i]) [.abs (rkI ra most),.cells (vdC v)])
theorem D1:∀ e H Q,Hr e H Q→AW Tryd.prog gl Tryd.f22.ntmps (.loop (an [1,1,0,1,0] (ai Tryd.f22))) Q e H:=by
 rintro e H Q ⟨ra,most,v,ok,hl,he,hH,hQ0,hQ1⟩
 refine aG (hn:=fun _=>0) aq uC (.nil _ _ _ _ _) (σ:=Nat) [0,3,4,19,20,21] (fun i=>i≤v.ps.length∧hasAll ra (v.ps.take i)=true) (fun i=>[.ptr 0 0,.ptr 1 0,.int .i64 0,.list (v.ps.map u1) .no,.int .i64 v.ps.length,.int .i64 i]) (fun _=>[.abs (rkI ra most),.cells (vdC v)]) (fun i=>v.ps.length-i) 0 ⟨Nat.zero_le _,rfl⟩ he hH ?_
 rintro i ⟨hi,hall⟩
 refine Jr ra most v i _ ?_
 simp only[ay,dt,au]
 by_cases h:i<v.ps.length
 ·rw[if_pos (by omega)]
  have inl:InL (v.ps.map u1) 1 (i:Int):=by rw[ec]; exact h
  have cp:∀ z:Int,cI (u1 z) 0=z:=fun _=>rfl
  have cq:∀ z:Int,cI (i1 z) 0=z:=fun _=>rfl
  refine⟨inl,?_⟩
  simp only[getD_map 0 h,cp]
  rw[if_pos (by rfl)]
  refine⟨0,ra,most,v.ps.getD i 0,rfl,rfl,ok,?_⟩
  have hs:hasAll ra (v.ps.take (i+1))=(hasAll ra (v.ps.take i) && has ra (v.ps.getD i 0)):=by unfold hasAll; rw[aZ 0 h,List.all_append]; simp
  by_cases c:has ra (v.ps.getD i 0)=true
  ·rw[if_neg (by rw[c]; decide)]
   exact⟨i+1,(show v.ps.length-(i+1)<v.ps.length-i by omega),⟨h,by rw[hs,hall,c]; rfl⟩,by rw[ax h (by omega)],[],rfl,Nat.le_refl _,.inl rfl⟩
  ·rw[if_pos (by rw[eq_false_of_ne_true c]; rfl)]
   refine hQ1 ?_ i
   refine eq_false_of_ne_true fun hA=>c (List.all_eq_true.1 hA _ ?_)
   rw[List.getD_eq_getElem?_getD,List.getElem?_eq_getElem h]; exact List.getElem_mem h
 ·rw[if_neg (by omega)]
  have:i=v.ps.length:=by omega
  subst this
  rw[List.take_length] at hall
  exact hQ0 hall
def HK:LSp:=fun e H Q=>∃(ra:List RwI) (most:Int) (v:Vd),Ok ra most∧v.ps.length≤1000000∧v.new.length=v.ps.length∧ak (List.map e [0,3,35,36,37]) [.ptr 0 0,.ptr 1 0,.list (v.ps.map u1) .no,.int .i64 v.ps.length,.int .i64 0]∧az H [.abs (rkI ra most),.cells (vdC v)]∧Q (.exit 2) (av [0,3,35,36,37] [.ptr 0 0,.ptr 1 0,.list (v.ps.map u1) .no,.int .i64 v.ps.length,.int .i64 v.ps.length]) [.abs (rkI (b8 ra most (v.ps.zip v.new)) most),.cells (vdC v)]
theorem AJ:∀ e H Q,HK e H Q→AW Tryd.prog gl Tryd.f22.ntmps (.loop (an [1,1,1,0,1,0] (ai Tryd.f22))) Q e H:=by
 rintro e H Q ⟨ra,most,v,ok,hl,hnl,he,hH,hQ⟩
 refine aG (hn:=fun _=>0) aq uC (.nil _ _ _ _ _) (σ:=Nat) [0,3,35,36,37] (fun i=>i≤v.ps.length) (fun i=>[.ptr 0 0,.ptr 1 0,.list (v.ps.map u1) .no,.int .i64 v.ps.length,.int .i64 i]) (fun i=>[.abs (rkI (b8 ra most ((v.ps.zip v.new).take i)) most),.cells (vdC v)]) (fun i=>v.ps.length-i) 0 (Nat.zero_le _) he hH ?_
 intro i hi
 have hi':i≤v.ps.length:=hi
 refine Jz _ most v i _ ?_
 simp only[ay,dt,au]
 by_cases h:i<v.ps.length
 ·rw[if_pos (by omega)]
  have inl:InL (v.ps.map u1) 1 (i:Int):=by rw[ec]; exact h
  have cp:∀ z:Int,cI (u1 z) 0=z:=fun _=>rfl
  have cq:∀ z:Int,cI (i1 z) 0=z:=fun _=>rfl
  refine⟨inl,?_⟩
  simp only[getD_map 0 h,cp]
  rw[if_pos (by rfl)]
  refine⟨by rw[tx]; omega,?_⟩
  simp only[getD_map 0 (show i<v.new.length by omega),cq]
  rw[if_pos (by rfl)]
  refine⟨_,most,v.ps.getD i 0,v.new.getD i 0,rfl,rfl,kS ok _,?_⟩
  rw[← uI h hnl]
  exact⟨i+1,(show v.ps.length-(i+1)<v.ps.length-i by omega),h,by rw[ax h (by omega)],[],rfl,Nat.le_refl _,.inl rfl⟩
 ·rw[if_neg (by omega)]
  have:i=v.ps.length:=by omega
  subst this
  rw[List.take_of_length_le (by rw[List.length_zip]; omega)]
  exact hQ
theorem J2 (ra:List RwI) (most:Int) (v:Vd):(by refine(?_:_→_→Prop) (↑(List.length (v.ps.map u1)):Int) (PV.list (v.ps.map u1) .no); exact fun f g=>by refine(?_:_→Prop) [Ob.abs (rkI ra most),.cells [.int .u32 v.m,.int .u32 v.i,.int .i64 v.r,g,.list (v.old.map i1) .no,.list (v.new.map i1) .no]]; exact fun e=>∀(K:PV→ae→Prop),(br ((↑(List.length (v.new.map i1)):Int) != f) (K (.int .i64 21) e) (∃(ra_1:List RwI) (most_1:Int) (v_1:Vd),by refine(?_:_→Prop) (PV.list (v_1.ps.map u1) .no); exact fun d=>by refine(?_:_→Prop) [Ob.abs (rkI ra_1 most_1),.cells [.int .u32 v_1.m,.int .u32 v_1.i,.int .i64 v_1.r,d,.list (v_1.old.map i1) .no,.list (v_1.new.map i1) .no]]; exact fun c=>Ok ra_1 most_1∧v_1.ps.length≤1000000∧ak [.ptr 0 0,.ptr 1 0,.int .i64 0,g,.int .i64 f,.int .i64 0] [.ptr 0 0,.ptr 1 0,.int .i64 0,d,.int .i64 v_1.ps.length,.int .i64 0]∧az e c∧(hasAll ra_1 v_1.ps=true→∃(ra:List RwI) (most:Int) (v:Vd),by refine(?_:_→Prop) (PV.list (v.ps.map u1) .no); exact fun b=>by refine(?_:_→Prop) (Ob.cells [.int .u32 v.m,.int .u32 v.i,.int .i64 v.r,b,.list (v.old.map i1) .no,.list (v.new.map i1) .no]); exact fun a=>Ok ra most∧v.ps.length≤1000000∧v.new.length=v.ps.length∧ak [.ptr 0 0,.ptr 1 0,d,.int .i64 (↑(List.length (v_1.ps.map u1)):Int),.int .i64 0] [.ptr 0 0,.ptr 1 0,b,.int .i64 v.ps.length,.int .i64 0]∧az c [.abs (rkI ra most),a]∧K (.int .i64 0) [.abs (rkI (b8 ra most (List.zip v.ps v.new)) most),a])∧(hasAll ra_1 v_1.ps=false→∀(_:Nat),K (.int .i64 12) c)))→aj Tryd.prog gl 22 [.ptr 0 0,.agg (vdC v)] [.abs (rkI ra most)] K:Prop):=fun K h=>ah (T:=TAP) (L:=[([1,1,0,1,0],Hr),([1,1,1,0,1,0],HK)]) (fun _=>0) Tryd.func22 (by kernel_rfl) (by kernel_rfl) (by kernel_rfl) (uC) (.cons (aH (by kernel_rfl)) D1 (.cons (aH (by kernel_rfl)) AJ (.nil _ _ _ _ _))) (ag (by kernel_rfl) h)
def qV (args:List PV) (H:ae) (K:PV→ae→Prop):Prop:=match args with
 | .ptr q 0::rest=>∃(ra:List RwI) (most:Int) (v:Vd) (t1 t2 t3:Tail),ak rest [.agg [.int .u32 v.m,.int .u32 v.i,.int .i64 v.r,.list (v.ps.map u1) t1,.list (v.old.map i1) t2,.list (v.new.map i1) t3]]∧bO H q (rkI ra most)∧Ok ra most∧v.ps.length≤1000000∧K (.int .i64 (cX ra most v).2) (H.set q (.abs (rkI (cX ra most v).1 most)))
 | _=>False
theorem D6:aO Tryd.prog gl 22 (.heap qV):=by
 intro args H K h
 unfold qV at h
 split at h
 ·rename_i q rest
  obtain⟨ra,most,v,t1,t2,t3,he,hA,ok,hl,hk⟩:=h
  have he:rest=_:=he
  subst he
  refine bg (.cons (.refl _) (.cons (.agg (xs':=vdC v) (.cons (.refl _) (.cons (.refl _) (.cons (.refl _) (.cons (.list _ _) (.cons (.list _ _) (.cons (.list _ _) .nil))))))) .nil)) ?_
  refine tq aq (R':=rkI (cX ra most v).1 most) hA (bw (.agg _ (qe v))) (.int _ _) ?_ hk
  refine J2 ra most v (fun x H'=>x = .int .i64 (cX ra most v).2∧∃ G,H' = .abs (rkI (cX ra most v).1 most)::G) ?_
  simp only[ay,List.length_map]
  by_cases c:v.new.length=v.ps.length
  ·rw[if_neg (by simp[c])]
   refine⟨ra,most,v,ok,hl,(by first|rfl|(show _=_; simp)),rfl,fun h1=>?_,fun h1 i=>?_⟩
   ·have e:cX ra most v=(b8 ra most (v.ps.zip v.new),0):=by unfold cX; rw[if_neg (by simp[c]),if_pos h1]
    refine⟨ra,most,v,ok,hl,c,(by first|rfl|(show _=_; simp)),rfl,?_⟩
    rw[e]; exact⟨rfl,[_],rfl⟩
   ·have e:cX ra most v=(ra,12):=by unfold cX; rw[if_neg (by simp[c]),if_neg (by rw[h1]; decide)]
    rw[e]; exact⟨rfl,[_],rfl⟩
  ·rw[if_pos (by simp; omega)]
   have e:cX ra most v=(ra,21):=by unfold cX; rw[if_pos c]
   rw[e]; exact⟨rfl,[_],rfl⟩
 ·exact h.elim
end Go.Proofs.YtenaelaapdhbdaaDoor
