/-
  A world; great.
-/
import Derived.Test.YtenaelaapdhbdaaDoorDbi
import Derived.Test.YtenaelaapdhbdaaDoorProg
namespace Go.Proofs.YtenaelaapdhbdaaDoor
open Go Go.AM Go.Proofs
structure Wd where
 ra:List (Int×Int)
 rows:List (List Rr)
 st:List Int
def prC (p:Int×Int):List PV:=[.int .u32 p.1,.int .i64 p.2]
theorem Fj (p:Int×Int):(prC p).length=2:=rfl
theorem Ig {n:Nat} (p:Int×Int):∀ y∈prC p,Low n y:=bN (.int _ _) (.int _ _)
def wdC (w:Wd):List PV:=[.list (w.ra.map prC) .no,.list (w.rows.map lcs) .no,.list (w.st.map i1) .no]
theorem nW {n:Nat} (w:Wd):∀ y∈wdC w,Low n y:=dy (bB Ig _) (bB jr _) (bB ke _)
theorem Ke (w:Wd) (i j:Nat):(by refine(?_:_→_→_→Prop) (List.getD (w.rows.map lcs) (Int.toNat (i:Int)) []) [Ob.cells [.list (w.ra.map prC) .no,.list (w.rows.map lcs) .no,.list (w.st.map i1) .no]] [PV.ptr 0 0,.bool false,.int .i64 i,.int .i64 j]; exact fun a b d=>by refine(?_:_→_→Prop) (List.drop 1 (List.getD (cL a 0) (Int.toNat (j:Int)) [])) (true && aH [.list] 0 a); exact fun c f=>∀(R:Ex→List PV→ag→Prop),(InL (w.rows.map lcs) 1 (i:Int)∧br f (br (decide ((j:Int)<(↑(List.length (cL a 0)):Int))) (InL (w.rows.map lcs) 1 (i:Int)∧br f (InL (cL a 0) 4 (j:Int)∧br (true && aH [.list] 0 c) (br (decide ((↑(List.length (cL c 0)):Int)>8)) (R .ret [.ptr 0 0,.bool true,.int .i64 i,.int .i64 j] b) (R .normal [.ptr 0 0,.bool false,.int .i64 i,.int .i64 (wI ((j:Int)+1))] b)) False) False) (R (.exit 2) d b)) False)→Holds (wpc br Tryd.prog gl [] [] (fun _=>0) (av [1,1,0,1,0,0,1,0,0,1,1,0] (aj Tryd.f5)) [] (ax [1,2,3,4] d) [.cells (wdC w)] (fun ex e H=>R ex (List.map e [1,2,3,4]) H)):Prop):=fun R h=>ah (by kernel_rfl) h
def g8 (r:Rr):Bool:=decide (r.pl.length>8)
def p7 (l:List Rr):Bool:=decide (l.length>8) || l.any g8
def fm (w:Wd):Bool:=decide (w.ra.length>40) || decide (w.rows.length>6) || decide (w.st.length>60) || w.rows.any p7
theorem xQ {α:Type} {p:α→Bool} {l:List α} {i:Nat} (d:α) (h:i<l.length):(l.take (i+1)).any p=((l.take i).any p || p (l.getD i d)):=by
 rw[bh d h,List.any_append]; simp
theorem rE {α:Type} {p:α→Bool} {l:List α} {i:Nat} (d:α) (h:i<l.length) (hp:p (l.getD i d)=true):l.any p=true:=
 List.any_eq_true.2 ⟨_,by rw[List.getD_eq_getElem?_getD,List.getElem?_eq_getElem h]; exact List.getElem_mem h,hp⟩
def AD:LSp:=fun e H Q=>∃(w:Wd) (i:Nat),i<w.rows.length∧(w.rows.getD i []).length≤1000000∧ak (List.map e [1,2,3,4]) [.ptr 0 0,.bool false,.int .i64 i,.int .i64 0]∧aC H [.cells (wdC w)]∧((w.rows.getD i []).any g8=false→∀ j:Int,Q (.exit 2) (ax [1,2,3,4] [.ptr 0 0,.bool false,.int .i64 i,.int .i64 j]) [.cells (wdC w)])∧((w.rows.getD i []).any g8=true→∀ j:Int,Q .ret (ax [1,2,3,4] [.ptr 0 0,.bool true,.int .i64 i,.int .i64 j]) [.cells (wdC w)])
theorem D6:∀ e H Q,AD e H Q→AW Tryd.prog gl Tryd.f5.ntmps (.loop (av [1,1,0,1,0,0,1,0,0,1,1,0] (aj Tryd.f5))) Q e H:=by
 rintro e H Q ⟨w,i,hi,hll,he,hH,hQ0,hQ1⟩
 have inl:InL (w.rows.map lcs) 1 (i:Int):=by rw[cE]; exact hi
 obtain⟨l,hl⟩:∃ l,l=w.rows.getD i []:=⟨_,rfl⟩
 rw[← hl] at hll hQ0 hQ1
 have c0:cL (lcs l) 0=l.map rrc:=rfl
 refine aL (hn:=fun _=>0) ay (.nil _ _) (.nil _ _ _ _ _) (σ:=Nat) [1,2,3,4] (fun j=>j≤l.length∧(l.take j).any g8=false) (fun j=>[.ptr 0 0,.bool false,.int .i64 i,.int .i64 j]) (fun _=>[.cells (wdC w)]) (fun j=>l.length-j) 0 ⟨Nat.zero_le _,rfl⟩ he hH ?_
 rintro j ⟨hj,ha⟩
 refine Ke w i j _ ?_
 simp only[az,dt,au,getD_map [] hi,← hl,c0,List.length_map]
 refine⟨inl,?_⟩
 rw[if_pos (by rfl)]
 by_cases h:j<l.length
 ·rw[if_pos (by omega)]
  have inl2:InL (l.map rrc) 4 (j:Int):=by rw[dV]; exact h
  have c1:∀ r:Rr,cL (List.drop 1 (rrc r)) 0=r.pl.map u1:=fun _=>rfl
  refine⟨inl,?_⟩
  rw[if_pos (by rfl)]
  refine⟨inl2,?_⟩
  simp only[getD_map default h,c1,List.length_map]
  rw[if_pos (by rfl)]
  by_cases c:g8 (l.getD j default)=true
  ·have c':(l.getD j default).pl.length>8:=by simpa[g8] using c
   rw[if_pos (by omega)]
   exact hQ1 (rE default h c) _
  ·have c':¬ (l.getD j default).pl.length>8:=by simpa[g8] using c
   rw[if_neg (by omega)]
   exact⟨j+1,(show l.length-(j+1)<l.length-j by omega),⟨h,by rw[xQ default h,ha,eq_false_of_ne_true c]; rfl⟩,by rw[aA h (by omega)],[],rfl,Nat.le_refl _,.inl rfl⟩
 ·rw[if_neg (by omega)]
  have:j=l.length:=by omega
  subst this
  rw[List.take_length] at ha
  exact hQ0 ha _
theorem JU:av [1,0,0,1,1,0] (av [1,1,0,1,0] (aj Tryd.f5))=av [1,1,0,1,0,0,1,0,0,1,1,0] (aj Tryd.f5):=by kernel_rfl
theorem yH:∀ e H Q,AD e H Q→AW Tryd.prog gl Tryd.f5.ntmps (.loop (av [1,0,0,1,1,0] (av [1,1,0,1,0] (aj Tryd.f5)))) Q e H:=by rw[JU]; exact D6
theorem J2 (w:Wd) (i:Nat):(by refine(?_:_→_→_→Prop) [Ob.cells [.list (w.ra.map prC) .no,.list (w.rows.map lcs) .no,.list (w.st.map i1) .no]] (List.getD (w.rows.map lcs) (Int.toNat (i:Int)) []) [PV.ptr 0 0,.bool false,.int .i64 i]; exact fun c d f=>∀(R:Ex→List PV→ag→Prop),(br (decide ((i:Int)<(↑(List.length (w.rows.map lcs)):Int))) (InL (w.rows.map lcs) 1 (i:Int)∧br (true && aH [.list] 0 d) (br (decide ((↑(List.length (cL d 0)):Int)>8)) (R .ret [.ptr 0 0,.bool true,.int .i64 i] c) (∃(w_1:Wd) (i_1:Nat),by refine(?_:_→_→Prop) [Ob.cells [.list (w_1.ra.map prC) .no,.list (w_1.rows.map lcs) .no,.list (w_1.st.map i1) .no]] (List.getD w_1.rows i_1 []); exact fun a b=>i_1<w_1.rows.length∧List.length b≤1000000∧ak [.ptr 0 0,.bool false,.int .i64 i,.int .i64 0] [.ptr 0 0,.bool false,.int .i64 i_1,.int .i64 0]∧aC c a∧(List.any b g8=false→∀(_:Int),R .normal [.ptr 0 0,.bool false,.int .i64 (wI ((i_1:Int)+1))] a)∧(List.any b g8=true→∀(_:Int),R .ret [.ptr 0 0,.bool true,.int .i64 i_1] a))) False) (R (.exit 0) f c))→Holds (wpc br Tryd.prog gl [] [([1,0,0,1,1,0],AD)] (fun _=>0) (av [1,1,0,1,0] (aj Tryd.f5)) [] (ax [1,2,3] f) [.cells (wdC w)] (fun ex e H=>R ex (List.map e [1,2,3]) H)):Prop):=fun R h=>ah (by kernel_rfl) h
def Ir:LSp:=fun e H Q=>∃(w:Wd),w.rows.length≤1000000∧ak (List.map e [1,2,3]) [.ptr 0 0,.bool false,.int .i64 0]∧aC H [.cells (wdC w)]∧(w.rows.any p7=false→∀ i:Int,Q (.exit 0) (ax [1,2,3] [.ptr 0 0,.bool false,.int .i64 i]) [.cells (wdC w)])∧(w.rows.any p7=true→∀ i:Int,Q .ret (ax [1,2,3] [.ptr 0 0,.bool true,.int .i64 i]) [.cells (wdC w)])
theorem Ec:∀ e H Q,Ir e H Q→AW Tryd.prog gl Tryd.f5.ntmps (.loop (av [1,1,0,1,0] (aj Tryd.f5))) Q e H:=by
 rintro e H Q ⟨w,hwl,he,hH,hQ0,hQ1⟩
 refine aL (hn:=fun _=>0) ay (.nil _ _) (.cons (aK (by kernel_rfl)) yH (.nil _ _ _ _ _)) (σ:=Nat) [1,2,3] (fun i=>i≤w.rows.length∧(w.rows.take i).any p7=false) (fun i=>[.ptr 0 0,.bool false,.int .i64 i]) (fun _=>[.cells (wdC w)]) (fun i=>w.rows.length-i) 0 ⟨Nat.zero_le _,rfl⟩ he hH ?_
 rintro i ⟨hi,ha⟩
 refine J2 w i _ ?_
 simp only[az,dt,au,List.length_map]
 by_cases h:i<w.rows.length
 ·rw[if_pos (by omega)]
  have inl:InL (w.rows.map lcs) 1 (i:Int):=by rw[cE]; exact h
  have c0:∀ l:List Rr,cL (lcs l) 0=l.map rrc:=fun _=>rfl
  refine⟨inl,?_⟩
  simp only[getD_map [] h,c0,List.length_map]
  rw[if_pos (by rfl)]
  by_cases c:(w.rows.getD i []).length>8
  ·rw[if_pos (by omega)]
   exact hQ1 (rE [] h (by unfold p7; rw[decide_eq_true c]; rfl)) _
  ·rw[if_neg (by omega)]
   refine⟨w,i,h,by omega,rfl,rfl,fun h0 _=>?_,fun h1 _=>?_⟩
   ·exact⟨i+1,(show w.rows.length-(i+1)<w.rows.length-i by omega),⟨h,by rw[xQ [] h,ha]; unfold p7; rw[h0,decide_eq_false c]; rfl⟩,by rw[aA h (by omega)],[],rfl,Nat.le_refl _,.inl rfl⟩
   ·exact hQ1 (rE [] h (by unfold p7; rw[h1]; simp)) _
 ·rw[if_neg (by omega)]
  have:i=w.rows.length:=by omega
  subst this
  rw[List.take_length] at ha
  exact hQ0 ha _
theorem Jp (w:Wd):∀(K:PV→Prop),(br (decide ((↑(List.length (w.ra.map prC)):Int)>40) == false) (br (decide ((↑(List.length (w.rows.map lcs)):Int)>6) == false) (br (decide ((↑(List.length (w.st.map i1)):Int)>60)) (K (.bool true)) (∃(w_1:Wd),w_1.rows.length≤1000000∧ak [.ptr 0 0,.bool false,.int .i64 0] [.ptr 0 0,.bool false,.int .i64 0]∧aC [.cells [.list (w.ra.map prC) .no,.list (w.rows.map lcs) .no,.list (w.st.map i1) .no]] [.cells [.list (w_1.ra.map prC) .no,.list (w_1.rows.map lcs) .no,.list (w_1.st.map i1) .no]]∧(List.any w_1.rows p7=false→∀(_:Int),K (.bool false))∧(List.any w_1.rows p7=true→∀(_:Int),K (.bool true)))) (K (.bool true))) (K (.bool true)))→an Tryd.prog gl 5 [.agg (wdC w)] [] (fun x _=>K x):=fun K h=>ai (T:=[]) (L:=[([1,1,0,1,0],Ir)]) (fun _=>0) Tryd.func5 (by kernel_rfl) (by kernel_rfl) (by kernel_rfl) (aE.nil _ _) (.cons (aK (by kernel_rfl)) Ec (.nil _ _ _ _ _)) (ah (by kernel_rfl) h)
def I9 (args:List PV) (K:PV→Prop):Prop:=∃(w:Wd) (t1 t2 t3:Tail),ak args [.agg [.list (w.ra.map prC) t1,.list (w.rows.map lcs) t2,.list (w.st.map i1) t3]]∧K (.bool (fm w))
theorem K9:aQ Tryd.prog gl 5 (.pure I9):=by
 rintro args K ⟨w,t1,t2,t3,he,hk⟩
 have he:args=_:=he
 subst he
 refine bS ay (.cons (.agg (xs':=wdC w) (.cons (.list _ _) (.cons (.list _ _) (.cons (.list _ _) .nil)))) .nil) (bF (.agg _ (nW w))) (.bool _) (Jp w (fun x=>x = .bool (fm w)) ?_) hk
 simp only[az,List.length_map]
 by_cases c1:w.ra.length>40
 ·rw[if_neg (by simp; omega)]
  unfold fm; rw[decide_eq_true c1]; rfl
 ·rw[if_pos (by simp; omega)]
  by_cases c2:w.rows.length>6
  ·rw[if_neg (by simp; omega)]
   unfold fm; rw[decide_eq_true c2]; simp
  ·rw[if_pos (by simp; omega)]
   by_cases c3:w.st.length>60
   ·rw[if_pos (by simp; omega)]
    unfold fm; rw[decide_eq_true c3]; simp
   ·rw[if_neg (by simp; omega)]
    refine⟨w,by omega,(by first|rfl|(show _=_; simp)),rfl,fun h0 _=>?_,fun h1 _=>?_⟩
    ·unfold fm; rw[decide_eq_false c1,decide_eq_false c2,decide_eq_false c3,h0]; rfl
    ·unfold fm; rw[h1]; simp
theorem qq {w:Wd} (h:fm w=false):w.ra.length≤40∧w.rows.length≤6∧w.st.length≤60∧∀ l∈w.rows,smR l:=by
 unfold fm at h
 simp only[Bool.or_eq_false_iff,decide_eq_false_iff_not] at h
 obtain⟨⟨⟨h1,h2⟩,h3⟩,h4⟩:=h
 refine⟨by omega,by omega,by omega,fun l hl=>?_⟩
 have:=List.any_eq_false.1 h4 l hl
 unfold p7 at this
 simp only[Bool.or_eq_true,decide_eq_true_eq,not_or,Bool.not_eq_true] at this
 refine⟨by omega,fun r hr=>?_⟩
 have:=List.any_eq_false.1 this.2 r hr
 unfold g8 at this
 have:=(by simpa using this:r.pl.length≤8)
 omega
end Go.Proofs.YtenaelaapdhbdaaDoor
