/-
  The document's table: loops.
-/
import Derived.Test.YtenaelaapdhbdaaDoorDs
import Derived.Test.YtenaelaapdhbdaaDoorProg
namespace Go.Proofs.YtenaelaapdhbdaaDoor
open Go Go.AM Go.Proofs
theorem ye (t:Int)  (K:PV→Prop) (h:br ((t != 0) == true) (K (.bool (decide (t≤2147483647)))) (K (.bool false))):aj Tryd.prog gl 28 [.int .u32 t] [] (fun x _=>K x):=
 ah (T:=[]) (L:=[]) (fun _=>0) Tryd.func28 (by kernel_rfl) (by kernel_rfl) (by kernel_rfl) (aB.nil _ _) (LOk.nil _ _ _ _ _) (ag (by kernel_rfl) h)
def wK (args:List PV) (K:PV→Prop):Prop:=∃ t:Int,0≤t∧ak args [.int .u32 t]∧K (.bool (aF t))
theorem ul:aO Tryd.prog gl 28 (.pure wK):=by
 rintro args K ⟨t,h0,he,hk⟩
 have he:args=_:=he
 subst he
 refine eM aq (by simp[dY]) (.bool _) (ye t (fun x=>x = .bool (aF t)) ?_) hk
 simp only[ay,bt]
 unfold aF
 by_cases c:t=0
 ·subst c; rw[if_neg (by decide)]; rfl
 ·rw[if_pos (by simpa using c)]; congr 1; apply decide_eq_decide.2; omega
theorem ej {ns:List Int} {k:IntKind} {t:Tail} (ht:NT t) {n:Nat}:Low n (.list (en1 k ns) t):=aI ht (vG k ns)
theorem Jb (l:List (Int)) (t:Int) (i:Nat):(by refine(?_:_→_→_→Prop) [PV.list (l.map u1) .no,.int .u32 t,.bool false,.int .i64 i] (List.getD (l.map u1) (Int.toNat (i:Int)) []) (PV.list (l.map u1) .no); exact fun a b c=>∀(R:Ex→List PV→ae→Prop),(br (decide ((i:Int)<(↑(List.length (l.map u1)):Int))) (InL (l.map u1) 1 (i:Int)∧br (true && aP [.int .u32] 0 b) (br (cI b 0 == t) (R .ret [c,.int .u32 t,.bool true,.int .i64 i] []) (R .normal [c,.int .u32 t,.bool false,.int .i64 (wI ((i:Int)+1))] [])) False) (R (.exit 0) a []))→Holds (wpc br Tryd.prog gl [] [] (fun _=>0) (an [1,0,1,0] (ai Tryd.f8)) [] (av [0,1,4,5] a) [] (fun ex e H=>R ex (List.map e [0,1,4,5]) H)):Prop):=fun R h=>ag (by kernel_rfl) h
def Hf:LSp:=fun e H Q=>∃(l:List (Int)) (t:Int),l.length≤1000000∧(True)∧ak (List.map e [0,1,4,5]) [.list (l.map u1) .no,.int .u32 t,.bool false,.int .i64 0]∧az H []∧
 (l.findIdx (fun x=>x == t)<l.length→Q .ret (av [0,1,4,5] [.list (l.map u1) .no,.int .u32 t,.bool true,.int .i64 (l.findIdx (fun x=>x == t))]) [])∧(l.findIdx (fun x=>x == t)=l.length→Q (.exit 0) (av [0,1,4,5] [.list (l.map u1) .no,.int .u32 t,.bool false,.int .i64 l.length]) [])
theorem BE:∀ e H Q,Hf e H Q→AW Tryd.prog gl Tryd.f8.ntmps (.loop (an [1,0,1,0] (ai Tryd.f8))) Q e H:=by
 rintro e H Q ⟨l,t,hl,_,he,hH,hQ1,hQ2⟩
 have hfl:l.findIdx (fun x=>x == t)≤l.length:=List.findIdx_le_length
 refine aG (hn:=fun _=>0) aq (.nil _ _) (.nil _ _ _ _ _) (σ:=Nat) [0,1,4,5] (fun i=>i≤l.findIdx (fun x=>x == t)) (fun i=>[.list (l.map u1) .no,.int .u32 t,.bool false,.int .i64 i]) (fun _=>[]) (fun i=>l.length-i) 0 (Nat.zero_le _) he hH ?_
 intro i hi
 have hi':i≤l.findIdx (fun x=>x == t):=hi
 refine Jb l t i _ ?_
 simp only[ay,dt,au,List.length_map,ec]
 by_cases h:i<l.length
 ·rw[if_pos (by omega)]
  simp only[getD_map 0 h]
  repeat (first|refine⟨h,?_⟩|rw[if_pos (by rfl)])
  by_cases c:(fun x=>x == t) (l.getD i 0)=true
  ·have hge:l.findIdx (fun x=>x == t)=i:=dA 0 hi' h c
   rw[hge] at hQ1
   rw[if_pos (by exact c)]
   repeat (first|refine⟨h,?_⟩|rw[if_pos (by rfl)])
   exact hQ1 h
  ·have hlt:i<l.findIdx (fun x=>x == t):=dH 0 hi' h (by simpa using c)
   rw[if_neg (by exact c)]
   exact⟨i+1,(show l.length-(i+1)<l.length-i by omega),hlt,by rw[ax h (by omega)],[],rfl,Nat.le_refl _,.inl rfl⟩
 ·rw[if_neg (by omega)]
  have:i=l.length:=by omega
  subst this
  exact hQ2 (by omega)
theorem FC (l:List Int) (t:Int):∀(K:PV→Prop),(∃(l_1:List Int) (t_1:Int),l_1.length≤1000000∧True∧ak [.list (l.map u1) .no,.int .u32 t,.bool false,.int .i64 0] [.list (l_1.map u1) .no,.int .u32 t_1,.bool false,.int .i64 0]∧az [] []∧(List.findIdx (fun(x:Int)=>x == t_1) l_1<l_1.length→K (.bool true))∧(List.findIdx (fun(x:Int)=>x == t_1) l_1=l_1.length→K (.bool false)))→aj Tryd.prog gl 8 [.list (l.map u1) .no,.int .u32 t] [] (fun x _=>K x):=fun K h=>ah (T:=[]) (L:=[([1,0,1,0],Hf)]) (fun _=>0) Tryd.func8 (by kernel_rfl) (by kernel_rfl) (by kernel_rfl) (aB.nil _ _) (.cons (aH (by kernel_rfl)) BE (.nil _ _ _ _ _)) (ag (by kernel_rfl) h)
theorem th (l:List Int) (t:Int):(l.findIdx (fun x=>x == t)<l.length↔t∈l):=by
 rw[List.findIdx_lt_length]
 exact⟨fun⟨x,hx,e⟩=>by rw[← eq_of_beq e]; exact hx,fun h=>⟨t,h,by simp⟩⟩
def Cq (args:List PV) (K:PV→Prop):Prop:=∃(l:List Int) (tl:Tail) (t:Int),ak args [.list (l.map u1) tl,.int .u32 t]∧l.length≤1000000∧K (.bool (cf l t))
theorem zu:aO Tryd.prog gl 8 (.pure Cq):=by
 rintro args K ⟨l,tl,t,he,hl,hk⟩
 have he:args=_:=he
 subst he
 refine bH aq (.cons (.list _ _) (.cons (.refl _) .nil)) (bF (eE l) (.int _ _)) (.bool _) (FC l t (fun x=>x = .bool (cf l t)) ⟨l,t,hl,trivial,rfl,rfl,fun h=>?_,fun h=>?_⟩) hk
 ·rw[kp.2 ((th l t).1 h)]
 ·rw[show cf l t=false from eq_false_of_ne_true fun k=>by have:=(th l t).2 (kp.1 k); omega]
def mtc (c:Mt):List PV:=[.int .u32 c.id,.int .i64 c.md,.int .u32 c.ins,.list (c.rows.map rrc) .no,.list (c.aa.map stc) .no]
theorem eD (c:Mt):(mtc c).length=5:=rfl
theorem kH {n:Nat} (c:Mt):∀ y∈mtc c,Low n y:=fY (.int _ _) (.int _ _) (.int _ _) (aQ _) (dg _)
theorem fa (c:Mt):∀ y∈mtc c,y.one=true:=by
 intro y hy
 simp only[mtc,List.mem_cons,List.not_mem_nil,or_false] at hy
 rcases hy with rfl|rfl|rfl|rfl|rfl<;>rfl
theorem bY {n:Nat} (w:List Mt):Low n (.list (w.map mtc) .no):=bD kH w
def idT (t:Int) (c:Mt):Bool:=c.id == t
def nuT (t:Int) (s:Se):Bool:=s.nu == t
theorem nB (l:List (Mt)) (i:Nat):InL (l.map mtc) 5 (i:Int)=(i<l.length):=cW eD (by decide) l i
theorem GC (l:List (Mt)) (t:Int) (i:Nat):(by refine(?_:_→_→_→_→Prop) (List.getD (l.map mtc) (Int.toNat (i:Int)) []) [Ob.cells [.int .u32 0,.int .i64 0,.int .u32 0,.list [] .exact,.list [] .exact]] [PV.list (l.map mtc) .no,.int .u32 t,.ptr 0 0,.bool false,.int .i64 i] (PV.list (l.map mtc) .no); exact fun a b c d=>∀(R:Ex→List PV→ae→Prop),(br (decide ((i:Int)<(↑(List.length (l.map mtc)):Int))) (InL (l.map mtc) 5 (i:Int)∧br (true && aP [.int .u32] 0 (List.drop 0 a)) (br (cI (List.drop 0 a) 0 == t) (InL (l.map mtc) 5 (i:Int)∧br (true && aP [.int .u32,.int .i64,.int .u32,.list,.list] 0 a) (R .ret [d,.int .u32 t,.ptr 0 0,.bool true,.int .i64 i] [.cells [.int .u32 (cI a 0),.int .i64 (cI a 1),.int .u32 (cI a 2),.list (cL a 3) (cT a 3),.list (cL a 4) (cT a 4)]]) False) (R .normal [d,.int .u32 t,.ptr 0 0,.bool false,.int .i64 (wI ((i:Int)+1))] b)) False) (R (.exit 0) c b))→Holds (wpc br Tryd.prog gl [] [] (fun _=>0) (an [1,0,1,0] (ai Tryd.f35)) [] (av [0,1,4,5,6] c) b (fun ex e H=>R ex (List.map e [0,1,4,5,6]) H)):Prop):=fun R h=>ag (by kernel_rfl) h
def Ag:LSp:=fun e H Q=>∃(l:List (Mt)) (t:Int),l.length≤1000000∧(True)∧ak (List.map e [0,1,4,5,6]) [.list (l.map mtc) .no,.int .u32 t,.ptr 0 0,.bool false,.int .i64 0]∧az H [.cells [.int .u32 0,.int .i64 0,.int .u32 0,.list [] .exact,.list [] .exact]]∧
 (l.findIdx (idT t)<l.length→Q .ret (av [0,1,4,5,6] [.list (l.map mtc) .no,.int .u32 t,.ptr 0 0,.bool true,.int .i64 (l.findIdx (idT t))]) [.cells (mtc (l.getD (l.findIdx (idT t)) default))])∧(l.findIdx (idT t)=l.length→Q (.exit 0) (av [0,1,4,5,6] [.list (l.map mtc) .no,.int .u32 t,.ptr 0 0,.bool false,.int .i64 l.length]) [.cells [.int .u32 0,.int .i64 0,.int .u32 0,.list [] .exact,.list [] .exact]])
theorem xq:∀ e H Q,Ag e H Q→AW Tryd.prog gl Tryd.f35.ntmps (.loop (an [1,0,1,0] (ai Tryd.f35))) Q e H:=by
 rintro e H Q ⟨l,t,hl,_,he,hH,hQ1,hQ2⟩
 have hfl:l.findIdx (idT t)≤l.length:=List.findIdx_le_length
 refine aG (hn:=fun _=>0) aq (.nil _ _) (.nil _ _ _ _ _) (σ:=Nat) [0,1,4,5,6] (fun i=>i≤l.findIdx (idT t)) (fun i=>[.list (l.map mtc) .no,.int .u32 t,.ptr 0 0,.bool false,.int .i64 i]) (fun _=>[.cells [.int .u32 0,.int .i64 0,.int .u32 0,.list [] .exact,.list [] .exact]]) (fun i=>l.length-i) 0 (Nat.zero_le _) he hH ?_
 intro i hi
 have hi':i≤l.findIdx (idT t):=hi
 refine GC l t i _ ?_
 simp only[ay,dt,au,List.length_map,nB]
 by_cases h:i<l.length
 ·rw[if_pos (by omega)]
  simp only[getD_map default h]
  repeat (first|refine⟨h,?_⟩|rw[if_pos (by rfl)])
  by_cases c:(idT t) (l.getD i default)=true
  ·have hge:l.findIdx (idT t)=i:=dA default hi' h c
   rw[hge] at hQ1
   rw[if_pos (by exact c)]
   repeat (first|refine⟨h,?_⟩|rw[if_pos (by rfl)])
   exact hQ1 h
  ·have hlt:i<l.findIdx (idT t):=dH default hi' h (by simpa using c)
   rw[if_neg (by exact c)]
   exact⟨i+1,(show l.length-(i+1)<l.length-i by omega),hlt,by rw[ax h (by omega)],[],rfl,Nat.le_refl _,.inl rfl⟩
 ·rw[if_neg (by omega)]
  have:i=l.length:=by omega
  subst this
  exact hQ2 (by omega)
theorem DX (l:List Mt) (t:Int):(by refine(?_:_→_→Prop) [PV.int .u32 0,.int .i64 0,.int .u32 0,.list [] .exact,.list [] .exact] (PV.list (l.map mtc) .no); exact fun b c=>∀(K:PV→Prop),(∃(l_1:List Mt) (t_1:Int),by refine(?_:_→Prop) (List.getD l_1 (List.findIdx (idT t_1) l_1) default); exact fun a=>l_1.length≤1000000∧True∧ak [c,.int .u32 t,.ptr 0 0,.bool false,.int .i64 0] [.list (l_1.map mtc) .no,.int .u32 t_1,.ptr 0 0,.bool false,.int .i64 0]∧az [.cells b] [.cells b]∧(List.findIdx (idT t_1) l_1<l_1.length→K (.tup [.agg [.int .u32 (Mt.id a),.int .i64 (Mt.md a),.int .u32 (Mt.ins a),.list (List.map rrc (Mt.rows a)) .no,.list (List.map stc (Mt.aa a)) .no],.bool true]))∧(List.findIdx (idT t_1) l_1=l_1.length→K (.tup [.agg b,.bool false])))→aj Tryd.prog gl 35 [c,.int .u32 t] [] (fun x _=>K x):Prop):=fun K h=>ah (T:=[]) (L:=[([1,0,1,0],Ag)]) (fun _=>0) Tryd.func35 (by kernel_rfl) (by kernel_rfl) (by kernel_rfl) (aB.nil _ _) (.cons (aH (by kernel_rfl)) xq (.nil _ _ _ _ _)) (ag (by kernel_rfl) h)
theorem AX (l:List (Se)) (id md ins t:Int) (rw:List Rr) (i:Nat):(by refine(?_:_→_→_→Prop) (List.getD (l.map stc) (Int.toNat (i:Int)) []) [PV.int .u32 id,.int .i64 md,.int .u32 ins,.list (rw.map rrc) .no,.list (l.map stc) .no] [PV.int .u32 t,.ptr 0 0,.ptr 1 0,.bool false,.int .i64 i]; exact fun a c d=>by refine(?_:_→Prop) [Ob.cells c,.cells [.int .u32 0,.int .i64 0,.int .i64 0,.int .i64 0,.int .i64 0,.int .u64 0]]; exact fun b=>∀(R:Ex→List PV→ae→Prop),(br (decide ((i:Int)<(↑(List.length (l.map stc)):Int))) (InL (l.map stc) 6 (i:Int)∧br (true && aP [.int .u32] 0 (List.drop 0 a)) (br (cI (List.drop 0 a) 0 == t) (InL (l.map stc) 6 (i:Int)∧br (true && aP [.int .u32,.int .i64,.int .i64,.int .i64,.int .i64,.int .u64] 0 a) (R .ret [.int .u32 t,.ptr 0 0,.ptr 1 0,.bool true,.int .i64 i] [.cells c,.cells [.int .u32 (cI a 0),.int .i64 (cI a 1),.int .i64 (cI a 2),.int .i64 (cI a 3),.int .i64 (cI a 4),.int .u64 (cI a 5)]]) False) (R .normal [.int .u32 t,.ptr 0 0,.ptr 1 0,.bool false,.int .i64 (wI ((i:Int)+1))] b)) False) (R (.exit 0) d b))→Holds (wpc br Tryd.prog gl [] [] (fun _=>0) (an [1,0,1,0] (ai Tryd.f69)) [] (av [1,2,4,5,6] d) b (fun ex e H=>R ex (List.map e [1,2,4,5,6]) H)):Prop):=fun R h=>ag (by kernel_rfl) h
def v9:LSp:=fun e H Q=>∃(l:List (Se)) (id md ins t:Int) (rw:List Rr),l.length≤1000000∧(True)∧ak (List.map e [1,2,4,5,6]) [.int .u32 t,.ptr 0 0,.ptr 1 0,.bool false,.int .i64 0]∧az H [.cells [.int .u32 id,.int .i64 md,.int .u32 ins,.list (rw.map rrc) .no,.list (l.map stc) .no],.cells [.int .u32 0,.int .i64 0,.int .i64 0,.int .i64 0,.int .i64 0,.int .u64 0]]∧
 (l.findIdx (isP t)<l.length→Q .ret (av [1,2,4,5,6] [.int .u32 t,.ptr 0 0,.ptr 1 0,.bool true,.int .i64 (l.findIdx (isP t))]) [.cells [.int .u32 id,.int .i64 md,.int .u32 ins,.list (rw.map rrc) .no,.list (l.map stc) .no],.cells (stc (l.getD (l.findIdx (isP t)) default))])∧(l.findIdx (isP t)=l.length→Q (.exit 0) (av [1,2,4,5,6] [.int .u32 t,.ptr 0 0,.ptr 1 0,.bool false,.int .i64 l.length]) [.cells [.int .u32 id,.int .i64 md,.int .u32 ins,.list (rw.map rrc) .no,.list (l.map stc) .no],.cells [.int .u32 0,.int .i64 0,.int .i64 0,.int .i64 0,.int .i64 0,.int .u64 0]])
theorem tJ:∀ e H Q,v9 e H Q→AW Tryd.prog gl Tryd.f69.ntmps (.loop (an [1,0,1,0] (ai Tryd.f69))) Q e H:=by
 rintro e H Q ⟨l,id,md,ins,t,rw,hl,_,he,hH,hQ1,hQ2⟩
 have hfl:l.findIdx (isP t)≤l.length:=List.findIdx_le_length
 refine aG (hn:=fun _=>0) aq (.nil _ _) (.nil _ _ _ _ _) (σ:=Nat) [1,2,4,5,6] (fun i=>i≤l.findIdx (isP t)) (fun i=>[.int .u32 t,.ptr 0 0,.ptr 1 0,.bool false,.int .i64 i]) (fun _=>[.cells [.int .u32 id,.int .i64 md,.int .u32 ins,.list (rw.map rrc) .no,.list (l.map stc) .no],.cells [.int .u32 0,.int .i64 0,.int .i64 0,.int .i64 0,.int .i64 0,.int .u64 0]]) (fun i=>l.length-i) 0 (Nat.zero_le _) he hH ?_
 intro i hi
 have hi':i≤l.findIdx (isP t):=hi
 refine AX l id md ins t rw i _ ?_
 simp only[ay,dt,au,List.length_map,wZ]
 by_cases h:i<l.length
 ·rw[if_pos (by omega)]
  simp only[getD_map default h]
  repeat (first|refine⟨h,?_⟩|rw[if_pos (by rfl)])
  by_cases c:(isP t) (l.getD i default)=true
  ·have hge:l.findIdx (isP t)=i:=dA default hi' h c
   rw[hge] at hQ1
   rw[if_pos (by exact c)]
   repeat (first|refine⟨h,?_⟩|rw[if_pos (by rfl)])
   exact hQ1 h
  ·have hlt:i<l.findIdx (isP t):=dH default hi' h (by simpa using c)
   rw[if_neg (by exact c)]
   exact⟨i+1,(show l.length-(i+1)<l.length-i by omega),hlt,by rw[ax h (by omega)],[],rfl,Nat.le_refl _,.inl rfl⟩
 ·rw[if_neg (by omega)]
  have:i=l.length:=by omega
  subst this
  exact hQ2 (by omega)
theorem xH (c:Mt) (t:Int):(by refine(?_:_→Prop) [PV.int .u32 0,.int .i64 0,.int .i64 0,.int .i64 0,.int .i64 0,.int .u64 0]; exact fun b=>∀(K:PV→Prop),(∃(l:List Se) (id:Int) (md:Int) (ins:Int) (t_1:Int) (rw:List Rr),by refine(?_:_→Prop) (List.getD l (List.findIdx (isP t_1) l) default); exact fun a=>l.length≤1000000∧True∧ak [.int .u32 t,.ptr 0 0,.ptr 1 0,.bool false,.int .i64 0] [.int .u32 t_1,.ptr 0 0,.ptr 1 0,.bool false,.int .i64 0]∧az [.cells [.int .u32 c.id,.int .i64 c.md,.int .u32 c.ins,.list (c.rows.map rrc) .no,.list (c.aa.map stc) .no],.cells b] [.cells [.int .u32 id,.int .i64 md,.int .u32 ins,.list (rw.map rrc) .no,.list (l.map stc) .no],.cells b]∧(List.findIdx (isP t_1) l<l.length→K (.tup [.agg [.int .u32 (Se.pl a),.int .i64 (Se.tm a),.int .i64 (Se.nu a),.int .i64 (Se.st a),.int .i64 (Se.un a),.int .u64 (Se.no a)],.bool true]))∧(List.findIdx (isP t_1) l=l.length→K (.tup [.agg b,.bool false])))→aj Tryd.prog gl 69 [.agg (mtc c),.int .u32 t] [] (fun x _=>K x):Prop):=fun K h=>ah (T:=[]) (L:=[([1,0,1,0],v9)]) (fun _=>0) Tryd.func69 (by kernel_rfl) (by kernel_rfl) (by kernel_rfl) (aB.nil _ _) (.cons (aH (by kernel_rfl)) tJ (.nil _ _ _ _ _)) (ag (by kernel_rfl) h)
theorem E8 (l:List (Se)) (t:Int) (i:Nat):(by refine(?_:_→_→_→Prop) (List.drop 2 (List.getD (l.map stc) (Int.toNat (i:Int)) [])) [PV.list (l.map stc) .no,.int .i64 t,.int .i64 0,.int .i64 i] (PV.list (l.map stc) .no); exact fun a b c=>∀(R:Ex→List PV→ae→Prop),(br (decide ((i:Int)<(↑(List.length (l.map stc)):Int))) (InL (l.map stc) 6 (i:Int)∧br (true && aP [.int .i64] 0 a) (br (cI a 0 == t) (R .ret [c,.int .i64 t,.int .i64 i,.int .i64 i] []) (R .normal [c,.int .i64 t,.int .i64 0,.int .i64 (wI ((i:Int)+1))] [])) False) (R (.exit 0) b []))→Holds (wpc br Tryd.prog gl [] [] (fun _=>0) (an [1,0,1,0] (ai Tryd.f62)) [] (av [0,1,4,5] b) [] (fun ex e H=>R ex (List.map e [0,1,4,5]) H)):Prop):=fun R h=>ag (by kernel_rfl) h
def CT:LSp:=fun e H Q=>∃(l:List (Se)) (t:Int),l.length≤1000000∧(True)∧ak (List.map e [0,1,4,5]) [.list (l.map stc) .no,.int .i64 t,.int .i64 0,.int .i64 0]∧az H []∧
 (l.findIdx (nuT t)<l.length→Q .ret (av [0,1,4,5] [.list (l.map stc) .no,.int .i64 t,.int .i64 (l.findIdx (nuT t)),.int .i64 (l.findIdx (nuT t))]) [])∧(l.findIdx (nuT t)=l.length→Q (.exit 0) (av [0,1,4,5] [.list (l.map stc) .no,.int .i64 t,.int .i64 0,.int .i64 l.length]) [])
theorem ym:∀ e H Q,CT e H Q→AW Tryd.prog gl Tryd.f62.ntmps (.loop (an [1,0,1,0] (ai Tryd.f62))) Q e H:=by
 rintro e H Q ⟨l,t,hl,_,he,hH,hQ1,hQ2⟩
 have hfl:l.findIdx (nuT t)≤l.length:=List.findIdx_le_length
 refine aG (hn:=fun _=>0) aq (.nil _ _) (.nil _ _ _ _ _) (σ:=Nat) [0,1,4,5] (fun i=>i≤l.findIdx (nuT t)) (fun i=>[.list (l.map stc) .no,.int .i64 t,.int .i64 0,.int .i64 i]) (fun _=>[]) (fun i=>l.length-i) 0 (Nat.zero_le _) he hH ?_
 intro i hi
 have hi':i≤l.findIdx (nuT t):=hi
 refine E8 l t i _ ?_
 simp only[ay,dt,au,List.length_map,wZ]
 by_cases h:i<l.length
 ·rw[if_pos (by omega)]
  simp only[getD_map default h]
  repeat (first|refine⟨h,?_⟩|rw[if_pos (by rfl)])
  by_cases c:(nuT t) (l.getD i default)=true
  ·have hge:l.findIdx (nuT t)=i:=dA default hi' h c
   rw[hge] at hQ1
   rw[if_pos (by exact c)]
   repeat (first|refine⟨h,?_⟩|rw[if_pos (by rfl)])
   exact hQ1 h
  ·have hlt:i<l.findIdx (nuT t):=dH default hi' h (by simpa using c)
   rw[if_neg (by exact c)]
   exact⟨i+1,(show l.length-(i+1)<l.length-i by omega),hlt,by rw[ax h (by omega)],[],rfl,Nat.le_refl _,.inl rfl⟩
 ·rw[if_neg (by omega)]
  have:i=l.length:=by omega
  subst this
  exact hQ2 (by omega)
theorem zU (l:List Se) (t:Int):∀(K:PV→Prop),(∃(l_1:List Se) (t_1:Int),l_1.length≤1000000∧True∧ak [.list (l.map stc) .no,.int .i64 t,.int .i64 0,.int .i64 0] [.list (l_1.map stc) .no,.int .i64 t_1,.int .i64 0,.int .i64 0]∧az [] []∧(List.findIdx (nuT t_1) l_1<l_1.length→K (.int .i64 (↑(List.findIdx (nuT t_1) l_1):Int)))∧(List.findIdx (nuT t_1) l_1=l_1.length→K (.int .i64 (-1))))→aj Tryd.prog gl 62 [.list (l.map stc) .no,.int .i64 t] [] (fun x _=>K x):=fun K h=>ah (T:=[]) (L:=[([1,0,1,0],CT)]) (fun _=>0) Tryd.func62 (by kernel_rfl) (by kernel_rfl) (by kernel_rfl) (aB.nil _ _) (.cons (aH (by kernel_rfl)) ym (.nil _ _ _ _ _)) (ag (by kernel_rfl) h)
end Go.Proofs.YtenaelaapdhbdaaDoor
