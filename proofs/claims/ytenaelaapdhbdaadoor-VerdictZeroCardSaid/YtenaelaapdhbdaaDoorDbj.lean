/-
  A world; great.
-/
import Derived.Test.YtenaelaapdhbdaaDoorDbi
import Derived.Test.YtenaelaapdhbdaaDoorProg
namespace Go.Proofs.YtenaelaapdhbdaaDoor
open Go Go.AM Go.Proofs
structure Wd where
 ra:List (Int×Int)
 rows:List (List Rr)
 st:List Int
def prC (p:Int×Int):List PV:=[.int .u32 p.1,.int .i64 p.2]
theorem FZ (p:Int×Int):(prC p).length=2:=rfl
theorem FD {n:Nat} (p:Int×Int):∀ y∈prC p,Low n y:=bF (.int _ _) (.int _ _)
def wdC (w:Wd):List PV:=[.list (w.ra.map prC) .no,.list (w.rows.map lcs) .no,.list (w.st.map i1) .no]
theorem nr {n:Nat} (w:Wd):∀ y∈wdC w,Low n y:=dK (bD FD _) (bD iV _) (bD iD _)
theorem Ik (w:Wd) (i j:Nat):(by refine(?_:_→_→_→Prop) (List.getD (w.rows.map lcs) (Int.toNat (i:Int)) []) [Ob.cells [.list (w.ra.map prC) .no,.list (w.rows.map lcs) .no,.list (w.st.map i1) .no]] [PV.ptr 0 0,.bool false,.int .i64 i,.int .i64 j]; exact fun a b d=>by refine(?_:_→_→Prop) (List.drop 1 (List.getD (cL a 0) (Int.toNat (j:Int)) [])) (true && aP [.list] 0 a); exact fun c f=>∀(R:Ex→List PV→ae→Prop),(InL (w.rows.map lcs) 1 (i:Int)∧br f (br (decide ((j:Int)<(↑(List.length (cL a 0)):Int))) (InL (w.rows.map lcs) 1 (i:Int)∧br f (InL (cL a 0) 4 (j:Int)∧br (true && aP [.list] 0 c) (br (decide ((↑(List.length (cL c 0)):Int)>8)) (R .ret [.ptr 0 0,.bool true,.int .i64 i,.int .i64 j] b) (R .normal [.ptr 0 0,.bool false,.int .i64 i,.int .i64 (wI ((j:Int)+1))] b)) False) False) (R (.exit 2) d b)) False)→Holds (wpc br Tryd.prog gl [] [] (fun _=>0) (an [1,1,0,1,0,0,1,0,0,1,1,0] (ai Tryd.f5)) [] (av [1,2,3,4] d) [.cells (wdC w)] (fun ex e H=>R ex (List.map e [1,2,3,4]) H)):Prop):=fun R h=>ag (by kernel_rfl) h
def g8 (r:Rr):Bool:=decide (r.pl.length>8)
def o7 (l:List Rr):Bool:=decide (l.length>8) || l.any g8
def eR (w:Wd):Bool:=decide (w.ra.length>40) || decide (w.rows.length>6) || decide (w.st.length>60) || w.rows.any o7
theorem qP {α:Type} {p:α→Bool} {l:List α} {i:Nat} (d:α) (h:i<l.length):(l.take (i+1)).any p=((l.take i).any p || p (l.getD i d)):=by
 rw[aZ d h,List.any_append]; simp
theorem qX {α:Type} {p:α→Bool} {l:List α} {i:Nat} (d:α) (h:i<l.length) (hp:p (l.getD i d)=true):l.any p=true:=
 List.any_eq_true.2 ⟨_,by rw[List.getD_eq_getElem?_getD,List.getElem?_eq_getElem h]; exact List.getElem_mem h,hp⟩
def Bp:LSp:=fun e H Q=>∃(w:Wd) (i:Nat),i<w.rows.length∧(w.rows.getD i []).length≤1000000∧ak (List.map e [1,2,3,4]) [.ptr 0 0,.bool false,.int .i64 i,.int .i64 0]∧az H [.cells (wdC w)]∧((w.rows.getD i []).any g8=false→∀ j:Int,Q (.exit 2) (av [1,2,3,4] [.ptr 0 0,.bool false,.int .i64 i,.int .i64 j]) [.cells (wdC w)])∧((w.rows.getD i []).any g8=true→∀ j:Int,Q .ret (av [1,2,3,4] [.ptr 0 0,.bool true,.int .i64 i,.int .i64 j]) [.cells (wdC w)])
theorem DI:∀ e H Q,Bp e H Q→AW Tryd.prog gl Tryd.f5.ntmps (.loop (an [1,1,0,1,0,0,1,0,0,1,1,0] (ai Tryd.f5))) Q e H:=by
 rintro e H Q ⟨w,i,hi,hll,he,hH,hQ0,hQ1⟩
 have inl:InL (w.rows.map lcs) 1 (i:Int):=by rw[ct]; exact hi
 obtain⟨l,hl⟩:∃ l,l=w.rows.getD i []:=⟨_,rfl⟩
 rw[← hl] at hll hQ0 hQ1
 have c0:cL (lcs l) 0=l.map rrc:=rfl
 refine aG (hn:=fun _=>0) aq (.nil _ _) (.nil _ _ _ _ _) (σ:=Nat) [1,2,3,4] (fun j=>j≤l.length∧(l.take j).any g8=false) (fun j=>[.ptr 0 0,.bool false,.int .i64 i,.int .i64 j]) (fun _=>[.cells (wdC w)]) (fun j=>l.length-j) 0 ⟨Nat.zero_le _,rfl⟩ he hH ?_
 rintro j ⟨hj,ha⟩
 refine Ik w i j _ ?_
 simp only[ay,dt,au,getD_map [] hi,← hl,c0,List.length_map]
 refine⟨inl,?_⟩
 rw[if_pos (by rfl)]
 by_cases h:j<l.length
 ·rw[if_pos (by omega)]
  have inl2:InL (l.map rrc) 4 (j:Int):=by rw[dF]; exact h
  have c1:∀ r:Rr,cL (List.drop 1 (rrc r)) 0=r.pl.map u1:=fun _=>rfl
  refine⟨inl,?_⟩
  rw[if_pos (by rfl)]
  refine⟨inl2,?_⟩
  simp only[getD_map default h,c1,List.length_map]
  rw[if_pos (by rfl)]
  by_cases c:g8 (l.getD j default)=true
  ·have c':(l.getD j default).pl.length>8:=by simpa[g8] using c
   rw[if_pos (by omega)]
   exact hQ1 (qX default h c) _
  ·have c':¬ (l.getD j default).pl.length>8:=by simpa[g8] using c
   rw[if_neg (by omega)]
   exact⟨j+1,(show l.length-(j+1)<l.length-j by omega),⟨h,by rw[qP default h,ha,eq_false_of_ne_true c]; rfl⟩,by rw[ax h (by omega)],[],rfl,Nat.le_refl _,.inl rfl⟩
 ·rw[if_neg (by omega)]
  have:j=l.length:=by omega
  subst this
  rw[List.take_length] at ha
  exact hQ0 ha _
theorem I4:an [1,0,0,1,1,0] (an [1,1,0,1,0] (ai Tryd.f5))=an [1,1,0,1,0,0,1,0,0,1,1,0] (ai Tryd.f5):=by kernel_rfl
theorem x6:∀ e H Q,Bp e H Q→AW Tryd.prog gl Tryd.f5.ntmps (.loop (an [1,0,0,1,1,0] (an [1,1,0,1,0] (ai Tryd.f5)))) Q e H:=by rw[I4]; exact DI
theorem IC (w:Wd) (i:Nat):(by refine(?_:_→_→_→Prop) [Ob.cells [.list (w.ra.map prC) .no,.list (w.rows.map lcs) .no,.list (w.st.map i1) .no]] (List.getD (w.rows.map lcs) (Int.toNat (i:Int)) []) [PV.ptr 0 0,.bool false,.int .i64 i]; exact fun c d f=>∀(R:Ex→List PV→ae→Prop),(br (decide ((i:Int)<(↑(List.length (w.rows.map lcs)):Int))) (InL (w.rows.map lcs) 1 (i:Int)∧br (true && aP [.list] 0 d) (br (decide ((↑(List.length (cL d 0)):Int)>8)) (R .ret [.ptr 0 0,.bool true,.int .i64 i] c) (∃(w_1:Wd) (i_1:Nat),by refine(?_:_→_→Prop) [Ob.cells [.list (w_1.ra.map prC) .no,.list (w_1.rows.map lcs) .no,.list (w_1.st.map i1) .no]] (List.getD w_1.rows i_1 []); exact fun a b=>i_1<w_1.rows.length∧List.length b≤1000000∧ak [.ptr 0 0,.bool false,.int .i64 i,.int .i64 0] [.ptr 0 0,.bool false,.int .i64 i_1,.int .i64 0]∧az c a∧(List.any b g8=false→∀(_:Int),R .normal [.ptr 0 0,.bool false,.int .i64 (wI ((i_1:Int)+1))] a)∧(List.any b g8=true→∀(_:Int),R .ret [.ptr 0 0,.bool true,.int .i64 i_1] a))) False) (R (.exit 0) f c))→Holds (wpc br Tryd.prog gl [] [([1,0,0,1,1,0],Bp)] (fun _=>0) (an [1,1,0,1,0] (ai Tryd.f5)) [] (av [1,2,3] f) [.cells (wdC w)] (fun ex e H=>R ex (List.map e [1,2,3]) H)):Prop):=fun R h=>ag (by kernel_rfl) h
def HO:LSp:=fun e H Q=>∃(w:Wd),w.rows.length≤1000000∧ak (List.map e [1,2,3]) [.ptr 0 0,.bool false,.int .i64 0]∧az H [.cells (wdC w)]∧(w.rows.any o7=false→∀ i:Int,Q (.exit 0) (av [1,2,3] [.ptr 0 0,.bool false,.int .i64 i]) [.cells (wdC w)])∧(w.rows.any o7=true→∀ i:Int,Q .ret (av [1,2,3] [.ptr 0 0,.bool true,.int .i64 i]) [.cells (wdC w)])
theorem Eg:∀ e H Q,HO e H Q→AW Tryd.prog gl Tryd.f5.ntmps (.loop (an [1,1,0,1,0] (ai Tryd.f5))) Q e H:=by
 rintro e H Q ⟨w,hwl,he,hH,hQ0,hQ1⟩
 refine aG (hn:=fun _=>0) aq (.nil _ _) (.cons (aH (by kernel_rfl)) x6 (.nil _ _ _ _ _)) (σ:=Nat) [1,2,3] (fun i=>i≤w.rows.length∧(w.rows.take i).any o7=false) (fun i=>[.ptr 0 0,.bool false,.int .i64 i]) (fun _=>[.cells (wdC w)]) (fun i=>w.rows.length-i) 0 ⟨Nat.zero_le _,rfl⟩ he hH ?_
 rintro i ⟨hi,ha⟩
 refine IC w i _ ?_
 simp only[ay,dt,au,List.length_map]
 by_cases h:i<w.rows.length
 ·rw[if_pos (by omega)]
  have inl:InL (w.rows.map lcs) 1 (i:Int):=by rw[ct]; exact h
  have c0:∀ l:List Rr,cL (lcs l) 0=l.map rrc:=fun _=>rfl
  refine⟨inl,?_⟩
  simp only[getD_map [] h,c0,List.length_map]
  rw[if_pos (by rfl)]
  by_cases c:(w.rows.getD i []).length>8
  ·rw[if_pos (by omega)]
   exact hQ1 (qX [] h (by unfold o7; rw[decide_eq_true c]; rfl)) _
  ·rw[if_neg (by omega)]
   refine⟨w,i,h,by omega,rfl,rfl,fun h0 _=>?_,fun h1 _=>?_⟩
   ·exact⟨i+1,(show w.rows.length-(i+1)<w.rows.length-i by omega),⟨h,by rw[qP [] h,ha]; unfold o7; rw[h0,decide_eq_false c]; rfl⟩,by rw[ax h (by omega)],[],rfl,Nat.le_refl _,.inl rfl⟩
   ·exact hQ1 (qX [] h (by unfold o7; rw[h1]; simp)) _
 ·rw[if_neg (by omega)]
  have:i=w.rows.length:=by omega
  subst this
  rw[List.take_length] at ha
  exact hQ0 ha _
theorem J0 (w:Wd):∀(K:PV→Prop),(br (decide ((↑(List.length (w.ra.map prC)):Int)>40) == false) (br (decide ((↑(List.length (w.rows.map lcs)):Int)>6) == false) (br (decide ((↑(List.length (w.st.map i1)):Int)>60)) (K (.bool true)) (∃(w_1:Wd),w_1.rows.length≤1000000∧ak [.ptr 0 0,.bool false,.int .i64 0] [.ptr 0 0,.bool false,.int .i64 0]∧az [.cells [.list (w.ra.map prC) .no,.list (w.rows.map lcs) .no,.list (w.st.map i1) .no]] [.cells [.list (w_1.ra.map prC) .no,.list (w_1.rows.map lcs) .no,.list (w_1.st.map i1) .no]]∧(List.any w_1.rows o7=false→∀(_:Int),K (.bool false))∧(List.any w_1.rows o7=true→∀(_:Int),K (.bool true)))) (K (.bool true))) (K (.bool true)))→aj Tryd.prog gl 5 [.agg (wdC w)] [] (fun x _=>K x):=fun K h=>ah (T:=[]) (L:=[([1,1,0,1,0],HO)]) (fun _=>0) Tryd.func5 (by kernel_rfl) (by kernel_rfl) (by kernel_rfl) (aB.nil _ _) (.cons (aH (by kernel_rfl)) Eg (.nil _ _ _ _ _)) (ag (by kernel_rfl) h)
def HX (args:List PV) (K:PV→Prop):Prop:=∃(w:Wd) (t1 t2 t3:Tail),ak args [.agg [.list (w.ra.map prC) t1,.list (w.rows.map lcs) t2,.list (w.st.map i1) t3]]∧K (.bool (eR w))
theorem JC:aO Tryd.prog gl 5 (.pure HX):=by
 rintro args K ⟨w,t1,t2,t3,he,hk⟩
 have he:args=_:=he
 subst he
 refine bH aq (.cons (.agg (xs':=wdC w) (.cons (.list _ _) (.cons (.list _ _) (.cons (.list _ _) .nil)))) .nil) (bw (.agg _ (nr w))) (.bool _) (J0 w (fun x=>x = .bool (eR w)) ?_) hk
 simp only[ay,List.length_map]
 by_cases c1:w.ra.length>40
 ·rw[if_neg (by simp; omega)]
  unfold eR; rw[decide_eq_true c1]; rfl
 ·rw[if_pos (by simp; omega)]
  by_cases c2:w.rows.length>6
  ·rw[if_neg (by simp; omega)]
   unfold eR; rw[decide_eq_true c2]; simp
  ·rw[if_pos (by simp; omega)]
   by_cases c3:w.st.length>60
   ·rw[if_pos (by simp; omega)]
    unfold eR; rw[decide_eq_true c3]; simp
   ·rw[if_neg (by simp; omega)]
    refine⟨w,by omega,(by first|rfl|(show _=_; simp)),rfl,fun h0 _=>?_,fun h1 _=>?_⟩
    ·unfold eR; rw[decide_eq_false c1,decide_eq_false c2,decide_eq_false c3,h0]; rfl
    ·unfold eR; rw[h1]; simp
theorem yU {w:Wd} (h:eR w=false):w.ra.length≤40∧w.rows.length≤6∧w.st.length≤60∧∀ l∈w.rows,smR l:=by
 unfold eR at h
 simp only[Bool.or_eq_false_iff,decide_eq_false_iff_not] at h
 obtain⟨⟨⟨h1,h2⟩,h3⟩,h4⟩:=h
 refine⟨by omega,by omega,by omega,fun l hl=>?_⟩
 have:=List.any_eq_false.1 h4 l hl
 unfold o7 at this
 simp only[Bool.or_eq_true,decide_eq_true_eq,not_or,Bool.not_eq_true] at this
 refine⟨by omega,fun r hr=>?_⟩
 have:=List.any_eq_false.1 this.2 r hr
 unfold g8 at this
 have:=(by simpa using this:r.pl.length≤8)
 omega
end Go.Proofs.YtenaelaapdhbdaaDoor
