/-
  The document's table: loops.
-/
import Derived.Test.YtenaelaapdhbdaaSs
import Derived.Test.YtenaelaapdhbdaaProg
namespace Go.Proofs.Ytenaelaapdhbdaa
open Go Go.AM Go.Proofs
theorem rright_vc (t:Int)  (K:PV→Prop) (h:br ((t != 0) == true) (K (.bool (decide (t≤2147483647)))) (K (.bool false))):ACalls Try.prog gl 45 [.int .u32 t] [] (fun x _=>K x):=
 acalls_of_wpc2 (T:=[]) (L:=[]) (fun _=>0) Try.func45 (by kernel_rfl) (by kernel_rfl) (by kernel_rfl) (TabOk.nil _ _) (LOk.nil _ _ _ _ _) (holds_of_eq (by kernel_rfl) h)
def rrt_s (args:List PV) (K:PV→Prop):Prop:=∃ t:Int,0≤t∧SlIs args [.int .u32 t]∧K (.bool (rightS t))
theorem rrt_ok:SpOk Try.prog gl 45 (.pure rrt_s):=by
 rintro args K ⟨t,h0,he,hk⟩
 have he:args=_:=he
 subst he
 refine spure gl_low (by simp[low_int]) (.bool _) (rright_vc t (fun x=>x = .bool (rightS t)) ?_) hk
 simp only[br_if,bt]
 unfold rightS
 by_cases c:t=0
 ·subst c; rw[if_neg (by decide)]; rfl
 ·rw[if_pos (by simpa using c)]; congr 1; apply decide_eq_decide.2; omega
theorem same_vc (a b:List (List PV)) (i:Nat):(by refine(?_:_→_→Prop) [PV.list a .no,.list b .no,.bool false,.int .i64 i] (Int.toNat (i:Int)); exact fun c d=>by refine(?_:_→_→Prop) (List.getD a d []) (List.getD b d []); exact fun f g=>∀(R:Ex→List PV→Heap→Prop),(br (decide ((i:Int)<(a.length:Int))) (InL a 1 (i:Int)∧br (true && fitX [.int .u32] 0 f) (InL b 1 (i:Int)∧br (true && fitX [.int .u32] 0 g) (br (cI f 0 != cI g 0) (R .ret c []) (R .normal [.list a .no,.list b .no,.bool false,.int .i64 (wI ((i:Int)+1))] [])) False) False) (R (.exit 0) c []))→Holds (wpc br Try.prog gl [] [] (fun _=>0) (subOf [1,1,0,1,0] (bodyOf Try.f9)) [] (envS [0,1,4,5] c) [] (fun ex e H=>R ex (List.map e [0,1,4,5]) H)):Prop):=fun R h=>holds_of_eq (by kernel_rfl) h
theorem low_list1 {ns:List Int} {k:IntKind} {t:Tail} (ht:NT t) {n:Nat}:Low n (.list (en1 k ns) t):=low_list ht (low_en1 k ns)
def same_l:LSp:=fun e H Q=>∃(a b:List Int),a.length≤1000000∧a.length=b.length∧SlIs (List.map e [0,1,4,5]) [.list (en1 .u32 a) .no,.list (en1 .u32 b) .no,.bool false,.int .i64 0]∧HpIs H []∧
 (a=b→Q (.exit 0) (envS [0,1,4,5] [.list (en1 .u32 a) .no,.list (en1 .u32 b) .no,.bool false,.int .i64 a.length]) [])∧
 (a≠b→∀ i:Int,Q .ret (envS [0,1,4,5] [.list (en1 .u32 a) .no,.list (en1 .u32 b) .no,.bool false,.int .i64 i]) [])
theorem same_l_ok:∀ e H Q,same_l e H Q→AW Try.prog gl Try.f9.ntmps (.loop (subOf [1,1,0,1,0] (bodyOf Try.f9))) Q e H:=by
 rintro e H Q ⟨a,b,hl,hab,he,hH,hx,hr⟩
 refine aw_loop4 (hn:=fun _=>0) gl_low (.nil _ _) (.nil _ _ _ _ _) (σ:=Nat) [0,1,4,5] (fun i=>i≤a.length∧∀ k,k<i→a.getD k 0=b.getD k 0)
  (fun i=>[.list (en1 .u32 a) .no,.list (en1 .u32 b) .no,.bool false,.int .i64 i]) (fun _=>[]) (fun i=>a.length-i) 0 ⟨Nat.zero_le _,fun k hk=>absurd hk (Nat.not_lt_zero _)⟩ he hH ?_
 rintro i ⟨hi,hk⟩
 refine same_vc _ _ i _ ?_
 simp only[br_if,dt,en1_length,toNat_nat]
 by_cases h:i<a.length
 ·rw[if_pos (by omega),en1_get _ _ _ h,en1_get _ _ _ (by omega)]
  refine⟨en1_in _ _ _ (by omega) (by omega),?_⟩
  rw[if_pos (by rfl)]
  refine⟨en1_in _ _ _ (by omega) (by omega),?_⟩
  rw[if_pos (by rfl)]
  have e1:cI [PV.int .u32 (a.getD i 0)] 0=a.getD i 0:=rfl
  have e2:cI [PV.int .u32 (b.getD i 0)] 0=b.getD i 0:=rfl
  rw[e1,e2]
  by_cases c:a.getD i 0=b.getD i 0
  ·rw[if_neg (by simpa using c)]
   refine⟨i+1,(show a.length-(i+1)<a.length-i by omega),⟨h,fun k hk'=>?_⟩,by rw[wI_succ h (by omega)],[],rfl,Nat.le_refl _,.inl rfl⟩
   rcases Nat.eq_or_lt_of_le (Nat.le_of_lt_succ hk') with rfl|q
   ·exact c
   ·exact hk k q
  ·rw[if_pos (by simpa using c)]
   exact hr (fun e=>c (by rw[e])) i
 ·rw[if_neg (by omega)]
  have:i=a.length:=by omega
  subst this
  refine hx (List.ext_getElem hab fun k h1 h2=>?_)
  have:=hk k h1
  rwa [getD_eq' h1,getD_eq' h2] at this
theorem same1_vc (a b:List Int)  (K:PV→Prop) (h:br ((↑(List.length (en1 .u32 a)):Int) != (↑(List.length (en1 .u32 b)):Int)) (K (.bool false)) (∃(a_1:List Int) (b_1:List Int),List.length a_1≤1000000∧List.length a_1=List.length b_1∧SlIs [.list (en1 .u32 a) .no,.list (en1 .u32 b) .no,.bool false,.int .i64 0] [.list (en1 .u32 a_1) .no,.list (en1 .u32 b_1) .no,.bool false,.int .i64 0]∧HpIs [] []∧(a_1=b_1→K (.bool true))∧(a_1≠b_1→∀(_:Int),K (.bool false)))):ACalls Try.prog gl 9 [.list (en1 .u32 a) .no,.list (en1 .u32 b) .no] [] (fun x _=>K x):=
 acalls_of_wpc2 (T:=[]) (L:=[([1,1,0,1,0],same_l)]) (fun _=>0) Try.func9 (by kernel_rfl) (by kernel_rfl) (by kernel_rfl) (TabOk.nil _ _) (.cons (sub_of (by kernel_rfl)) same_l_ok (.nil _ _ _ _ _)) (holds_of_eq (by kernel_rfl) h)
def same_s (args:List PV) (K:PV→Prop):Prop:=∃(a b:List Int) (t t':Tail),SlIs args [.list (en1 .u32 a) t,.list (en1 .u32 b) t']∧a.length≤1000000∧K (.bool (decide (a=b)))
theorem same_ok:SpOk Try.prog gl 9 (.pure same_s):=by
 rintro args K ⟨a,b,t,t',he,hl,hk⟩
 have he:args=_:=he
 subst he
 refine spure_w gl_low (.cons (.list _ _) (.cons (.list _ _) .nil)) (low_two (low_list1 NT.no) (low_list1 NT.no)) (.bool _) (same1_vc a b (fun x=>x = .bool (decide (a=b))) ?_) hk
 simp only[br_if,en1_length]
 by_cases c:a.length=b.length
 ·rw[if_neg (by simp[c])]
  exact⟨a,b,hl,c,rfl,rfl,fun e=>by rw[decide_eq_true e],fun e _=>by rw[decide_eq_false e]⟩
 ·rw[if_pos (by simp; omega)]
  rw[decide_eq_false (fun e=>c (by rw[e]))]
theorem has_vc (l:List (Int)) (t:Int) (i:Nat):(by refine(?_:_→_→_→Prop) [PV.list (l.map u1) .no,.int .u32 t,.bool false,.int .i64 i] (List.getD (l.map u1) (Int.toNat (i:Int)) []) (PV.list (l.map u1) .no); exact fun a b c=>∀(R:Ex→List PV→Heap→Prop),(br (decide ((i:Int)<(↑(List.length (l.map u1)):Int))) (InL (l.map u1) 1 (i:Int)∧br (true && fitX [.int .u32] 0 b) (br (cI b 0 == t) (R .ret [c,.int .u32 t,.bool true,.int .i64 i] []) (R .normal [c,.int .u32 t,.bool false,.int .i64 (wI ((i:Int)+1))] [])) False) (R (.exit 0) a []))→Holds (wpc br Try.prog gl [] [] (fun _=>0) (subOf [1,0,1,0] (bodyOf Try.f23)) [] (envS [0,1,4,5] a) [] (fun ex e H=>R ex (List.map e [0,1,4,5]) H)):Prop):=fun R h=>holds_of_eq (by kernel_rfl) h
def has_l:LSp:=fun e H Q=>∃(l:List (Int)) (t:Int),l.length≤1000000∧(True)∧SlIs (List.map e [0,1,4,5]) [.list (l.map u1) .no,.int .u32 t,.bool false,.int .i64 0]∧HpIs H []∧
 (l.findIdx (fun x=>x == t)<l.length→Q .ret (envS [0,1,4,5] [.list (l.map u1) .no,.int .u32 t,.bool true,.int .i64 (l.findIdx (fun x=>x == t))]) [])∧(l.findIdx (fun x=>x == t)=l.length→Q (.exit 0) (envS [0,1,4,5] [.list (l.map u1) .no,.int .u32 t,.bool false,.int .i64 l.length]) [])
theorem has_l_ok:∀ e H Q,has_l e H Q→AW Try.prog gl Try.f23.ntmps (.loop (subOf [1,0,1,0] (bodyOf Try.f23))) Q e H:=by
 rintro e H Q ⟨l,t,hl,_,he,hH,hQ1,hQ2⟩
 have hfl:l.findIdx (fun x=>x == t)≤l.length:=List.findIdx_le_length
 refine aw_loop4 (hn:=fun _=>0) gl_low (.nil _ _) (.nil _ _ _ _ _) (σ:=Nat) [0,1,4,5] (fun i=>i≤l.findIdx (fun x=>x == t)) (fun i=>[.list (l.map u1) .no,.int .u32 t,.bool false,.int .i64 i]) (fun _=>[]) (fun i=>l.length-i) 0 (Nat.zero_le _) he hH ?_
 intro i hi
 have hi':i≤l.findIdx (fun x=>x == t):=hi
 refine has_vc l t i _ ?_
 simp only[br_if,dt,toNat_nat,List.length_map,inL_u1]
 by_cases h:i<l.length
 ·rw[if_pos (by omega)]
  simp only[getD_map 0 h]
  repeat (first|refine⟨h,?_⟩|rw[if_pos (by rfl)])
  by_cases c:(fun x=>x == t) (l.getD i 0)=true
  ·have hge:l.findIdx (fun x=>x == t)=i:=fidx_stop 0 hi' h c
   rw[hge] at hQ1
   rw[if_pos (by exact c)]
   repeat (first|refine⟨h,?_⟩|rw[if_pos (by rfl)])
   exact hQ1 h
  ·have hlt:i<l.findIdx (fun x=>x == t):=fidx_step 0 hi' h (by simpa using c)
   rw[if_neg (by exact c)]
   exact⟨i+1,(show l.length-(i+1)<l.length-i by omega),hlt,by rw[wI_succ h (by omega)],[],rfl,Nat.le_refl _,.inl rfl⟩
 ·rw[if_neg (by omega)]
  have:i=l.length:=by omega
  subst this
  exact hQ2 (by omega)
theorem has1_vc (l:List Int) (t:Int):∀(K:PV→Prop),(∃(l_1:List Int) (t_1:Int),l_1.length≤1000000∧True∧SlIs [.list (l.map u1) .no,.int .u32 t,.bool false,.int .i64 0] [.list (l_1.map u1) .no,.int .u32 t_1,.bool false,.int .i64 0]∧HpIs [] []∧(List.findIdx (fun(x:Int)=>x == t_1) l_1<l_1.length→K (.bool true))∧(List.findIdx (fun(x:Int)=>x == t_1) l_1=l_1.length→K (.bool false)))→ACalls Try.prog gl 23 [.list (l.map u1) .no,.int .u32 t] [] (fun x _=>K x):=fun K h=>acalls_of_wpc2 (T:=[]) (L:=[([1,0,1,0],has_l)]) (fun _=>0) Try.func23 (by kernel_rfl) (by kernel_rfl) (by kernel_rfl) (TabOk.nil _ _) (.cons (sub_of (by kernel_rfl)) has_l_ok (.nil _ _ _ _ _)) (holds_of_eq (by kernel_rfl) h)
theorem mem_find (l:List Int) (t:Int):(l.findIdx (fun x=>x == t)<l.length↔t∈l):=by
 rw[List.findIdx_lt_length]
 exact⟨fun⟨x,hx,e⟩=>by rw[← eq_of_beq e]; exact hx,fun h=>⟨t,h,by simp⟩⟩
def has_s (args:List PV) (K:PV→Prop):Prop:=∃(l:List Int) (tl:Tail) (t:Int),SlIs args [.list (l.map u1) tl,.int .u32 t]∧l.length≤1000000∧K (.bool (memB l t))
theorem has_ok:SpOk Try.prog gl 23 (.pure has_s):=by
 rintro args K ⟨l,tl,t,he,hl,hk⟩
 have he:args=_:=he
 subst he
 refine spure_w gl_low (.cons (.list _ _) (.cons (.refl _) .nil)) (low_two (low_us l) (.int _ _)) (.bool _) (has1_vc l t (fun x=>x = .bool (memB l t)) ⟨l,t,hl,trivial,rfl,rfl,fun h=>?_,fun h=>?_⟩) hk
 ·rw[memB_iff.2 ((mem_find l t).1 h)]
 ·rw[show memB l t=false from eq_false_of_ne_true fun k=>by have:=(mem_find l t).2 (memB_iff.1 k); omega]
def mtc (c:Mt):List PV:=[.int .u32 c.id,.int .i64 c.md,.int .u32 c.ins,.list (c.rows.map rrc) .no,.list (c.seats.map stc) .no]
theorem mtc_len (c:Mt):(mtc c).length=5:=rfl
theorem low_mtc {n:Nat} (c:Mt):∀ y∈mtc c,Low n y:=low_five (.int _ _) (.int _ _) (.int _ _) (low_rrs _) (low_sts _)
theorem one_mtc (c:Mt):∀ y∈mtc c,y.one=true:=by
 intro y hy
 simp only[mtc,List.mem_cons,List.not_mem_nil,or_false] at hy
 rcases hy with rfl|rfl|rfl|rfl|rfl<;>rfl
theorem low_mts {n:Nat} (w:List Mt):Low n (.list (w.map mtc) .no):=low_rows low_mtc w
def neT (t v:Int):Bool:=v != t
def idT (t:Int) (c:Mt):Bool:=c.id == t
def niT (t:Int) (c:Mt):Bool:=c.id != t
def nuT (t:Int) (s:Se):Bool:=s.nu == t
theorem inL_mtc (l:List (Mt)) (i:Nat):InL (l.map mtc) 5 (i:Int)=(i<l.length):=inL_map mtc_len (by decide) l i
theorem qwoA_vc (l:List (Int)) (t:Int) (i:Nat):(by refine(?_:_→_→_→_→Prop) (List.getD (l.map u1) (Int.toNat (i:Int)) []) [PV.list (l.map u1) .no,.int .u32 t,.list [] .exact,.int .i64 i] (PV.int .i64 (wI ((i:Int)+1))) (PV.list (l.map u1) .no); exact fun a b f g=>by refine(?_:_→_→Prop) [[PV.int .u32 (cI a 0)]] (true && fitX [.int .u32] 0 a); exact fun c d=>∀(R:Ex→List PV→Heap→Prop),(br (decide ((i:Int)<(↑(List.length (l.map u1)):Int))) (InL (l.map u1) 1 (i:Int)∧br d (br (cI a 0 != t) (InL (l.map u1) 1 (i:Int)∧br d (AppL [] c 1 4∧(List.all [.int .u32 (cI a 0)] PV.one=true∧c≠[])∧R .normal [g,.int .u32 t,.list c (.tok 0),f] [.tok]) False) (R .normal [g,.int .u32 t,.list [] .exact,f] [])) False) (R (.exit 0) b []))→Holds (wpc br Try.prog gl [] [] (fun o=>match o.dst with|some 25=>1|_=>0) (subOf [1,1,0,1,0] (bodyOf Try.f55)) [] (envS [0,1,5,6] b) [] (fun ex e H=>R ex (List.map e [0,1,5,6]) H)):Prop):=fun R h=>holds_of_eq (by kernel_rfl) h
theorem qwoB_vc (l:List (Int)) (t:Int) (es:List (List PV)) (i:Nat):(by refine(?_:_→_→_→_→Prop) (List.getD (l.map u1) (Int.toNat (i:Int)) []) [PV.list (l.map u1) .no,.int .u32 t,.list es (.tok 0),.int .i64 i] (PV.int .i64 (wI ((i:Int)+1))) (PV.list (l.map u1) .no); exact fun a b f g=>by refine(?_:_→_→Prop) [[PV.int .u32 (cI a 0)]] (true && fitX [.int .u32] 0 a); exact fun c d=>∀(R:Ex→List PV→Heap→Prop),(br (decide ((i:Int)<(↑(List.length (l.map u1)):Int))) (InL (l.map u1) 1 (i:Int)∧br d (br (cI a 0 != t) (InL (l.map u1) 1 (i:Int)∧br d (AppL es c 1 4∧(List.all [.int .u32 (cI a 0)] PV.one=true∧c≠[])∧R .normal [g,.int .u32 t,.list (es++c) (.tok 1),f] [.dead,.tok]) False) (R .normal [g,.int .u32 t,.list es (.tok 0),f] [.tok])) False) (R (.exit 0) b [.tok]))→Holds (wpc br Try.prog gl [] [] (fun o=>match o.dst with|some 25=>1|_=>0) (subOf [1,1,0,1,0] (bodyOf Try.f55)) [] (envS [0,1,5,6] b) [.tok] (fun ex e H=>R ex (List.map e [0,1,5,6]) H)):Prop):=fun R h=>holds_of_eq (by kernel_rfl) h
def qwo_l:LSp:=fun e H Q=>∃(l:List (Int)) (t:Int),l.length≤1000000∧(True)∧SlIs (List.map e [0,1,5,6]) [.list (l.map u1) .no,.int .u32 t,.list [] .exact,.int .i64 0]∧HpIs H []∧
 Q (.exit 0) (envS [0,1,5,6] [.list (l.map u1) .no,.int .u32 t,.list ((l.filter (neT t)).map u1) .no,.int .i64 l.length]) [.dead]
theorem qwo_l_ok:∀ e H Q,qwo_l e H Q→AW Try.prog gl Try.f55.ntmps (.loop (subOf [1,1,0,1,0] (bodyOf Try.f55))) Q e H:=by
 rintro e H Q ⟨l,t,hl,_,he,hH,hQ⟩
 have hH2:H=[]:=hH
 refine aw_growif (f:=u1) (acc:=fun i=>(l.take i).filter (neT t)) (I:=fun i=>i≤l.length) (m:=fun i=>l.length-i) (hn:=fun o=>match o.dst with|some 25=>1|_=>0) gl_low (.nil _ _) (.nil _ _ _ _ _) [0,1,5,6] (fun r i=>[.list (l.map u1) .no,.int .u32 t,r,.int .i64 i]) [] (0:Nat)
  (low_cells0) (fun _ _ a _=>low_u1 a) (fun es i k _ h=> .same (low_us l) (.same (.int _ _) (.row h (.same (.int _ _) (.nil))))) (fun i _ w hw=>by
   simp only[List.mem_cons,List.not_mem_nil,or_false] at hw
   rcases hw with rfl|rfl|rfl|rfl
   ·exact low_us l
   ·exact .int _ _
   ·exact low_list NT.exact (by simp)
   ·exact .int _ _) (Nat.zero_le _) (by simp) he hH2 ?_ ?_
 ·intro i hi ha
  have hi':i≤l.length:=hi
  refine qwoA_vc l t i _ ?_
  simp only[br_if,dt,toNat_nat,List.length_map,inL_u1]
  by_cases h:i<l.length
  ·rw[if_pos (by omega)]
   simp only[getD_map 0 h]
   have hs:=filter_take (p:=neT t) 0 h
   have hle:=filter_take_le (neT t) l i
   repeat (first|refine⟨h,?_⟩|rw[if_pos (by rfl)])
   by_cases c:(neT t) (l.getD i 0)=true
   ·rw[if_pos c] at hs
    rw[if_pos (by unfold neT at c; exact c)]
    repeat (first|refine⟨h,?_⟩|rw[if_pos (by rfl)])
    refine⟨appL_map (l:=[]) (by_:=4) u1_len (l.getD i 0) (by show(0+1)*4≤_; decide),one_row one_u1 (l.getD i 0),?_⟩
    exact growQ_add (i+1) (show l.length-(i+1)<l.length-i by omega) h hs (ne_snoc _ _) [.tok] 0 rfl rfl (by simp) (by rw[ha]; rw[wI_succ h (by omega)]; rfl)
   ·rw[if_neg c,List.append_nil] at hs
    rw[if_neg (by unfold neT at c; exact c)]
    exact growQ_none (i+1) (show l.length-(i+1)<l.length-i by omega) h (hs.trans ha) [] rfl (by rw[wI_succ h (by omega)])
  ·rw[if_neg (by omega)]
   have:i=l.length:=by omega
   subst this
   simp only[List.take_length] at ha ⊢
   rw[ha] at hQ
   exact growQ_end (.cons (.refl _) (.cons (.refl _) (.cons (.list _ _) (.cons (.refl _) (.nil))))) (pad_dead _) hQ
 ·intro i hi ha
  have hi':i≤l.length:=hi
  refine qwoB_vc l t (((l.take i).filter (neT t)).map u1) i _ ?_
  simp only[br_if,dt,toNat_nat,List.length_map,inL_u1]
  by_cases h:i<l.length
  ·rw[if_pos (by omega)]
   simp only[getD_map 0 h]
   have hs:=filter_take (p:=neT t) 0 h
   have hle:=filter_take_le (neT t) l i
   repeat (first|refine⟨h,?_⟩|rw[if_pos (by rfl)])
   by_cases c:(neT t) (l.getD i 0)=true
   ·rw[if_pos c] at hs
    rw[if_pos (by unfold neT at c; exact c)]
    repeat (first|refine⟨h,?_⟩|rw[if_pos (by rfl)])
    refine⟨appL_map u1_len _ _ (by omega),one_row one_u1 (l.getD i 0),?_⟩
    exact growQ_add (i+1) (show l.length-(i+1)<l.length-i by omega) h hs (ne_snoc _ _) [.dead,.tok] 1 rfl rfl (by simp) (by  rw[wI_succ h (by omega)]; rw[List.map_append]; rfl)
   ·rw[if_neg c,List.append_nil] at hs
    rw[if_neg (by unfold neT at c; exact c)]
    exact growQ_add (i+1) (show l.length-(i+1)<l.length-i by omega) h hs ha [.tok] 0 rfl rfl (by simp) (by rw[wI_succ h (by omega)])
  ·rw[if_neg (by omega)]
   have:i=l.length:=by omega
   subst this
   simp only[List.take_length] at ha ⊢
   exact growQ_end (.cons (.refl _) (.cons (.refl _) (.cons (.list _ _) (.cons (.refl _) (.nil))))) (pad_kill [] .tok) hQ
theorem qwo1_vc (l:List Int) (t:Int)  (K:PV→Prop) (h:∃(l_1:List Int) (t_1:Int),List.length l_1≤1000000∧True∧SlIs [.list (List.map u1 l) .no,.int .u32 t,.list [] .exact,.int .i64 0] [.list (List.map u1 l_1) .no,.int .u32 t_1,.list [] .exact,.int .i64 0]∧HpIs [] []∧K (.list (List.map u1 (List.filter (neT t_1) l_1)) .no)):ACalls Try.prog gl 55 [.list (l.map u1) .no,.int .u32 t] [] (fun x _=>K x):=
 acalls_of_wpc2 (T:=[]) (L:=[([1,1,0,1,0],qwo_l)]) (fun o=>match o.dst with|some 25=>1|_=>0) Try.func55 (by kernel_rfl) (by kernel_rfl) (by kernel_rfl) (TabOk.nil _ _) (.cons (sub_of (by kernel_rfl)) qwo_l_ok (.nil _ _ _ _ _)) (holds_of_eq (by kernel_rfl) h)
theorem rget_vc (l:List (Mt)) (t:Int) (i:Nat):(by refine(?_:_→_→_→_→Prop) (List.getD (l.map mtc) (Int.toNat (i:Int)) []) [Ob.cells [.int .u32 0,.int .i64 0,.int .u32 0,.list [] .exact,.list [] .exact]] [PV.list (l.map mtc) .no,.int .u32 t,.ptr 0 0,.bool false,.int .i64 i] (PV.list (l.map mtc) .no); exact fun a b c d=>∀(R:Ex→List PV→Heap→Prop),(br (decide ((i:Int)<(↑(List.length (l.map mtc)):Int))) (InL (l.map mtc) 5 (i:Int)∧br (true && fitX [.int .u32] 0 (List.drop 0 a)) (br (cI (List.drop 0 a) 0 == t) (InL (l.map mtc) 5 (i:Int)∧br (true && fitX [.int .u32,.int .i64,.int .u32,.list,.list] 0 a) (R .ret [d,.int .u32 t,.ptr 0 0,.bool true,.int .i64 i] [.cells [.int .u32 (cI a 0),.int .i64 (cI a 1),.int .u32 (cI a 2),.list (cL a 3) (cT a 3),.list (cL a 4) (cT a 4)]]) False) (R .normal [d,.int .u32 t,.ptr 0 0,.bool false,.int .i64 (wI ((i:Int)+1))] b)) False) (R (.exit 0) c b))→Holds (wpc br Try.prog gl [] [] (fun _=>0) (subOf [1,0,1,0] (bodyOf Try.f20)) [] (envS [0,1,4,5,6] c) b (fun ex e H=>R ex (List.map e [0,1,4,5,6]) H)):Prop):=fun R h=>holds_of_eq (by kernel_rfl) h
def rget_l:LSp:=fun e H Q=>∃(l:List (Mt)) (t:Int),l.length≤1000000∧(True)∧SlIs (List.map e [0,1,4,5,6]) [.list (l.map mtc) .no,.int .u32 t,.ptr 0 0,.bool false,.int .i64 0]∧HpIs H [.cells [.int .u32 0,.int .i64 0,.int .u32 0,.list [] .exact,.list [] .exact]]∧
 (l.findIdx (idT t)<l.length→Q .ret (envS [0,1,4,5,6] [.list (l.map mtc) .no,.int .u32 t,.ptr 0 0,.bool true,.int .i64 (l.findIdx (idT t))]) [.cells (mtc (l.getD (l.findIdx (idT t)) default))])∧(l.findIdx (idT t)=l.length→Q (.exit 0) (envS [0,1,4,5,6] [.list (l.map mtc) .no,.int .u32 t,.ptr 0 0,.bool false,.int .i64 l.length]) [.cells [.int .u32 0,.int .i64 0,.int .u32 0,.list [] .exact,.list [] .exact]])
theorem rget_l_ok:∀ e H Q,rget_l e H Q→AW Try.prog gl Try.f20.ntmps (.loop (subOf [1,0,1,0] (bodyOf Try.f20))) Q e H:=by
 rintro e H Q ⟨l,t,hl,_,he,hH,hQ1,hQ2⟩
 have hfl:l.findIdx (idT t)≤l.length:=List.findIdx_le_length
 refine aw_loop4 (hn:=fun _=>0) gl_low (.nil _ _) (.nil _ _ _ _ _) (σ:=Nat) [0,1,4,5,6] (fun i=>i≤l.findIdx (idT t)) (fun i=>[.list (l.map mtc) .no,.int .u32 t,.ptr 0 0,.bool false,.int .i64 i]) (fun _=>[.cells [.int .u32 0,.int .i64 0,.int .u32 0,.list [] .exact,.list [] .exact]]) (fun i=>l.length-i) 0 (Nat.zero_le _) he hH ?_
 intro i hi
 have hi':i≤l.findIdx (idT t):=hi
 refine rget_vc l t i _ ?_
 simp only[br_if,dt,toNat_nat,List.length_map,inL_mtc]
 by_cases h:i<l.length
 ·rw[if_pos (by omega)]
  simp only[getD_map default h]
  repeat (first|refine⟨h,?_⟩|rw[if_pos (by rfl)])
  by_cases c:(idT t) (l.getD i default)=true
  ·have hge:l.findIdx (idT t)=i:=fidx_stop default hi' h c
   rw[hge] at hQ1
   rw[if_pos (by exact c)]
   repeat (first|refine⟨h,?_⟩|rw[if_pos (by rfl)])
   exact hQ1 h
  ·have hlt:i<l.findIdx (idT t):=fidx_step default hi' h (by simpa using c)
   rw[if_neg (by exact c)]
   exact⟨i+1,(show l.length-(i+1)<l.length-i by omega),hlt,by rw[wI_succ h (by omega)],[],rfl,Nat.le_refl _,.inl rfl⟩
 ·rw[if_neg (by omega)]
  have:i=l.length:=by omega
  subst this
  exact hQ2 (by omega)
theorem rget1_vc (l:List Mt) (t:Int):(by refine(?_:_→_→Prop) [PV.int .u32 0,.int .i64 0,.int .u32 0,.list [] .exact,.list [] .exact] (PV.list (l.map mtc) .no); exact fun b c=>∀(K:PV→Prop),(∃(l_1:List Mt) (t_1:Int),by refine(?_:_→Prop) (List.getD l_1 (List.findIdx (idT t_1) l_1) default); exact fun a=>l_1.length≤1000000∧True∧SlIs [c,.int .u32 t,.ptr 0 0,.bool false,.int .i64 0] [.list (l_1.map mtc) .no,.int .u32 t_1,.ptr 0 0,.bool false,.int .i64 0]∧HpIs [.cells b] [.cells b]∧(List.findIdx (idT t_1) l_1<l_1.length→K (.tup [.agg [.int .u32 (Mt.id a),.int .i64 (Mt.md a),.int .u32 (Mt.ins a),.list (List.map rrc (Mt.rows a)) .no,.list (List.map stc (Mt.seats a)) .no],.bool true]))∧(List.findIdx (idT t_1) l_1=l_1.length→K (.tup [.agg b,.bool false])))→ACalls Try.prog gl 20 [c,.int .u32 t] [] (fun x _=>K x):Prop):=fun K h=>acalls_of_wpc2 (T:=[]) (L:=[([1,0,1,0],rget_l)]) (fun _=>0) Try.func20 (by kernel_rfl) (by kernel_rfl) (by kernel_rfl) (TabOk.nil _ _) (.cons (sub_of (by kernel_rfl)) rget_l_ok (.nil _ _ _ _ _)) (holds_of_eq (by kernel_rfl) h)
theorem rfind_vc (l:List (Se)) (id md ins t:Int) (rw:List Rr) (i:Nat):(by refine(?_:_→_→_→Prop) (List.getD (l.map stc) (Int.toNat (i:Int)) []) [PV.int .u32 id,.int .i64 md,.int .u32 ins,.list (rw.map rrc) .no,.list (l.map stc) .no] [PV.int .u32 t,.ptr 0 0,.ptr 1 0,.bool false,.int .i64 i]; exact fun a c d=>by refine(?_:_→Prop) [Ob.cells c,.cells [.int .u32 0,.int .i64 0,.int .i64 0,.int .i64 0,.int .i64 0,.int .u64 0]]; exact fun b=>∀(R:Ex→List PV→Heap→Prop),(br (decide ((i:Int)<(↑(List.length (l.map stc)):Int))) (InL (l.map stc) 6 (i:Int)∧br (true && fitX [.int .u32] 0 (List.drop 0 a)) (br (cI (List.drop 0 a) 0 == t) (InL (l.map stc) 6 (i:Int)∧br (true && fitX [.int .u32,.int .i64,.int .i64,.int .i64,.int .i64,.int .u64] 0 a) (R .ret [.int .u32 t,.ptr 0 0,.ptr 1 0,.bool true,.int .i64 i] [.cells c,.cells [.int .u32 (cI a 0),.int .i64 (cI a 1),.int .i64 (cI a 2),.int .i64 (cI a 3),.int .i64 (cI a 4),.int .u64 (cI a 5)]]) False) (R .normal [.int .u32 t,.ptr 0 0,.ptr 1 0,.bool false,.int .i64 (wI ((i:Int)+1))] b)) False) (R (.exit 0) d b))→Holds (wpc br Try.prog gl [] [] (fun _=>0) (subOf [1,0,1,0] (bodyOf Try.f21)) [] (envS [1,2,4,5,6] d) b (fun ex e H=>R ex (List.map e [1,2,4,5,6]) H)):Prop):=fun R h=>holds_of_eq (by kernel_rfl) h
def rfind_l:LSp:=fun e H Q=>∃(l:List (Se)) (id md ins t:Int) (rw:List Rr),l.length≤1000000∧(True)∧SlIs (List.map e [1,2,4,5,6]) [.int .u32 t,.ptr 0 0,.ptr 1 0,.bool false,.int .i64 0]∧HpIs H [.cells [.int .u32 id,.int .i64 md,.int .u32 ins,.list (rw.map rrc) .no,.list (l.map stc) .no],.cells [.int .u32 0,.int .i64 0,.int .i64 0,.int .i64 0,.int .i64 0,.int .u64 0]]∧
 (l.findIdx (isP t)<l.length→Q .ret (envS [1,2,4,5,6] [.int .u32 t,.ptr 0 0,.ptr 1 0,.bool true,.int .i64 (l.findIdx (isP t))]) [.cells [.int .u32 id,.int .i64 md,.int .u32 ins,.list (rw.map rrc) .no,.list (l.map stc) .no],.cells (stc (l.getD (l.findIdx (isP t)) default))])∧(l.findIdx (isP t)=l.length→Q (.exit 0) (envS [1,2,4,5,6] [.int .u32 t,.ptr 0 0,.ptr 1 0,.bool false,.int .i64 l.length]) [.cells [.int .u32 id,.int .i64 md,.int .u32 ins,.list (rw.map rrc) .no,.list (l.map stc) .no],.cells [.int .u32 0,.int .i64 0,.int .i64 0,.int .i64 0,.int .i64 0,.int .u64 0]])
theorem rfind_l_ok:∀ e H Q,rfind_l e H Q→AW Try.prog gl Try.f21.ntmps (.loop (subOf [1,0,1,0] (bodyOf Try.f21))) Q e H:=by
 rintro e H Q ⟨l,id,md,ins,t,rw,hl,_,he,hH,hQ1,hQ2⟩
 have hfl:l.findIdx (isP t)≤l.length:=List.findIdx_le_length
 refine aw_loop4 (hn:=fun _=>0) gl_low (.nil _ _) (.nil _ _ _ _ _) (σ:=Nat) [1,2,4,5,6] (fun i=>i≤l.findIdx (isP t)) (fun i=>[.int .u32 t,.ptr 0 0,.ptr 1 0,.bool false,.int .i64 i]) (fun _=>[.cells [.int .u32 id,.int .i64 md,.int .u32 ins,.list (rw.map rrc) .no,.list (l.map stc) .no],.cells [.int .u32 0,.int .i64 0,.int .i64 0,.int .i64 0,.int .i64 0,.int .u64 0]]) (fun i=>l.length-i) 0 (Nat.zero_le _) he hH ?_
 intro i hi
 have hi':i≤l.findIdx (isP t):=hi
 refine rfind_vc l id md ins t rw i _ ?_
 simp only[br_if,dt,toNat_nat,List.length_map,inL_stc]
 by_cases h:i<l.length
 ·rw[if_pos (by omega)]
  simp only[getD_map default h]
  repeat (first|refine⟨h,?_⟩|rw[if_pos (by rfl)])
  by_cases c:(isP t) (l.getD i default)=true
  ·have hge:l.findIdx (isP t)=i:=fidx_stop default hi' h c
   rw[hge] at hQ1
   rw[if_pos (by exact c)]
   repeat (first|refine⟨h,?_⟩|rw[if_pos (by rfl)])
   exact hQ1 h
  ·have hlt:i<l.findIdx (isP t):=fidx_step default hi' h (by simpa using c)
   rw[if_neg (by exact c)]
   exact⟨i+1,(show l.length-(i+1)<l.length-i by omega),hlt,by rw[wI_succ h (by omega)],[],rfl,Nat.le_refl _,.inl rfl⟩
 ·rw[if_neg (by omega)]
  have:i=l.length:=by omega
  subst this
  exact hQ2 (by omega)
theorem rfind1_vc (c:Mt) (t:Int):(by refine(?_:_→Prop) [PV.int .u32 0,.int .i64 0,.int .i64 0,.int .i64 0,.int .i64 0,.int .u64 0]; exact fun b=>∀(K:PV→Prop),(∃(l:List Se) (id:Int) (md:Int) (ins:Int) (t_1:Int) (rw:List Rr),by refine(?_:_→Prop) (List.getD l (List.findIdx (isP t_1) l) default); exact fun a=>l.length≤1000000∧True∧SlIs [.int .u32 t,.ptr 0 0,.ptr 1 0,.bool false,.int .i64 0] [.int .u32 t_1,.ptr 0 0,.ptr 1 0,.bool false,.int .i64 0]∧HpIs [.cells [.int .u32 c.id,.int .i64 c.md,.int .u32 c.ins,.list (c.rows.map rrc) .no,.list (c.seats.map stc) .no],.cells b] [.cells [.int .u32 id,.int .i64 md,.int .u32 ins,.list (rw.map rrc) .no,.list (l.map stc) .no],.cells b]∧(List.findIdx (isP t_1) l<l.length→K (.tup [.agg [.int .u32 (Se.pl a),.int .i64 (Se.tm a),.int .i64 (Se.nu a),.int .i64 (Se.st a),.int .i64 (Se.un a),.int .u64 (Se.no a)],.bool true]))∧(List.findIdx (isP t_1) l=l.length→K (.tup [.agg b,.bool false])))→ACalls Try.prog gl 21 [.agg (mtc c),.int .u32 t] [] (fun x _=>K x):Prop):=fun K h=>acalls_of_wpc2 (T:=[]) (L:=[([1,0,1,0],rfind_l)]) (fun _=>0) Try.func21 (by kernel_rfl) (by kernel_rfl) (by kernel_rfl) (TabOk.nil _ _) (.cons (sub_of (by kernel_rfl)) rfind_l_ok (.nil _ _ _ _ _)) (holds_of_eq (by kernel_rfl) h)
theorem rnum_vc (l:List (Se)) (t:Int) (i:Nat):(by refine(?_:_→_→_→Prop) (List.drop 2 (List.getD (l.map stc) (Int.toNat (i:Int)) [])) [PV.list (l.map stc) .no,.int .i64 t,.int .i64 0,.int .i64 i] (PV.list (l.map stc) .no); exact fun a b c=>∀(R:Ex→List PV→Heap→Prop),(br (decide ((i:Int)<(↑(List.length (l.map stc)):Int))) (InL (l.map stc) 6 (i:Int)∧br (true && fitX [.int .i64] 0 a) (br (cI a 0 == t) (R .ret [c,.int .i64 t,.int .i64 i,.int .i64 i] []) (R .normal [c,.int .i64 t,.int .i64 0,.int .i64 (wI ((i:Int)+1))] [])) False) (R (.exit 0) b []))→Holds (wpc br Try.prog gl [] [] (fun _=>0) (subOf [1,0,1,0] (bodyOf Try.f66)) [] (envS [0,1,4,5] b) [] (fun ex e H=>R ex (List.map e [0,1,4,5]) H)):Prop):=fun R h=>holds_of_eq (by kernel_rfl) h
def rnum_l:LSp:=fun e H Q=>∃(l:List (Se)) (t:Int),l.length≤1000000∧(True)∧SlIs (List.map e [0,1,4,5]) [.list (l.map stc) .no,.int .i64 t,.int .i64 0,.int .i64 0]∧HpIs H []∧
 (l.findIdx (nuT t)<l.length→Q .ret (envS [0,1,4,5] [.list (l.map stc) .no,.int .i64 t,.int .i64 (l.findIdx (nuT t)),.int .i64 (l.findIdx (nuT t))]) [])∧(l.findIdx (nuT t)=l.length→Q (.exit 0) (envS [0,1,4,5] [.list (l.map stc) .no,.int .i64 t,.int .i64 0,.int .i64 l.length]) [])
theorem rnum_l_ok:∀ e H Q,rnum_l e H Q→AW Try.prog gl Try.f66.ntmps (.loop (subOf [1,0,1,0] (bodyOf Try.f66))) Q e H:=by
 rintro e H Q ⟨l,t,hl,_,he,hH,hQ1,hQ2⟩
 have hfl:l.findIdx (nuT t)≤l.length:=List.findIdx_le_length
 refine aw_loop4 (hn:=fun _=>0) gl_low (.nil _ _) (.nil _ _ _ _ _) (σ:=Nat) [0,1,4,5] (fun i=>i≤l.findIdx (nuT t)) (fun i=>[.list (l.map stc) .no,.int .i64 t,.int .i64 0,.int .i64 i]) (fun _=>[]) (fun i=>l.length-i) 0 (Nat.zero_le _) he hH ?_
 intro i hi
 have hi':i≤l.findIdx (nuT t):=hi
 refine rnum_vc l t i _ ?_
 simp only[br_if,dt,toNat_nat,List.length_map,inL_stc]
 by_cases h:i<l.length
 ·rw[if_pos (by omega)]
  simp only[getD_map default h]
  repeat (first|refine⟨h,?_⟩|rw[if_pos (by rfl)])
  by_cases c:(nuT t) (l.getD i default)=true
  ·have hge:l.findIdx (nuT t)=i:=fidx_stop default hi' h c
   rw[hge] at hQ1
   rw[if_pos (by exact c)]
   repeat (first|refine⟨h,?_⟩|rw[if_pos (by rfl)])
   exact hQ1 h
  ·have hlt:i<l.findIdx (nuT t):=fidx_step default hi' h (by simpa using c)
   rw[if_neg (by exact c)]
   exact⟨i+1,(show l.length-(i+1)<l.length-i by omega),hlt,by rw[wI_succ h (by omega)],[],rfl,Nat.le_refl _,.inl rfl⟩
 ·rw[if_neg (by omega)]
  have:i=l.length:=by omega
  subst this
  exact hQ2 (by omega)
theorem rnum1_vc (l:List Se) (t:Int):∀(K:PV→Prop),(∃(l_1:List Se) (t_1:Int),l_1.length≤1000000∧True∧SlIs [.list (l.map stc) .no,.int .i64 t,.int .i64 0,.int .i64 0] [.list (l_1.map stc) .no,.int .i64 t_1,.int .i64 0,.int .i64 0]∧HpIs [] []∧(List.findIdx (nuT t_1) l_1<l_1.length→K (.int .i64 (↑(List.findIdx (nuT t_1) l_1):Int)))∧(List.findIdx (nuT t_1) l_1=l_1.length→K (.int .i64 (-1))))→ACalls Try.prog gl 66 [.list (l.map stc) .no,.int .i64 t] [] (fun x _=>K x):=fun K h=>acalls_of_wpc2 (T:=[]) (L:=[([1,0,1,0],rnum_l)]) (fun _=>0) Try.func66 (by kernel_rfl) (by kernel_rfl) (by kernel_rfl) (TabOk.nil _ _) (.cons (sub_of (by kernel_rfl)) rnum_l_ok (.nil _ _ _ _ _)) (holds_of_eq (by kernel_rfl) h)
theorem rendA_vc (l:List (Mt)) (t:Int) (i:Nat):(by refine(?_:_→_→_→_→Prop) (List.getD (l.map mtc) (Int.toNat (i:Int)) []) [PV.list (l.map mtc) .no,.int .u32 t,.list [] .exact,.int .i64 i] (PV.int .i64 (wI ((i:Int)+1))) (PV.list (l.map mtc) .no); exact fun a c d h=>by refine(?_:_→_→_→_→Prop) (PV.list (cL a 3) (cT a 3)) (PV.list (cL a 4) (cT a 4)) (PV.int .i64 (cI a 1)) (PV.int .u32 (cI a 2)); exact fun f g j k=>by refine(?_:_→Prop) [[PV.int .u32 (cI a 0),j,k,f,g]]; exact fun b=>∀(R:Ex→List PV→Heap→Prop),(br (decide ((i:Int)<(↑(List.length (l.map mtc)):Int))) (InL (l.map mtc) 5 (i:Int)∧br (true && fitX [.int .u32] 0 (List.drop 0 a)) (br (cI (List.drop 0 a) 0 != t) (InL (l.map mtc) 5 (i:Int)∧br (true && fitX [.int .u32,.int .i64,.int .u32,.list,.list] 0 a) (AppL [] b 5 72∧(List.all [.int .u32 (cI a 0),j,k,f,g] PV.one=true∧b≠[])∧R .normal [h,.int .u32 t,.list b (.tok 0),d] [.tok]) False) (R .normal [h,.int .u32 t,.list [] .exact,d] [])) False) (R (.exit 0) c []))→Holds (wpc br Try.prog gl [] [] (fun o=>match o.dst with|some 26=>1|_=>0) (subOf [1,1,0,1,0] (bodyOf Try.f35)) [] (envS [0,1,5,6] c) [] (fun ex e H=>R ex (List.map e [0,1,5,6]) H)):Prop):=fun R h=>holds_of_eq (by kernel_rfl) h
theorem rendB_vc (l:List (Mt)) (t:Int) (es:List (List PV)) (i:Nat):(by refine(?_:_→_→_→_→Prop) (List.getD (l.map mtc) (Int.toNat (i:Int)) []) [PV.list (l.map mtc) .no,.int .u32 t,.list es (.tok 0),.int .i64 i] (PV.int .i64 (wI ((i:Int)+1))) (PV.list (l.map mtc) .no); exact fun a c d h=>by refine(?_:_→_→_→_→Prop) (PV.list (cL a 3) (cT a 3)) (PV.list (cL a 4) (cT a 4)) (PV.int .i64 (cI a 1)) (PV.int .u32 (cI a 2)); exact fun f g j k=>by refine(?_:_→Prop) [[PV.int .u32 (cI a 0),j,k,f,g]]; exact fun b=>∀(R:Ex→List PV→Heap→Prop),(br (decide ((i:Int)<(↑(List.length (l.map mtc)):Int))) (InL (l.map mtc) 5 (i:Int)∧br (true && fitX [.int .u32] 0 (List.drop 0 a)) (br (cI (List.drop 0 a) 0 != t) (InL (l.map mtc) 5 (i:Int)∧br (true && fitX [.int .u32,.int .i64,.int .u32,.list,.list] 0 a) (AppL es b 5 72∧(List.all [.int .u32 (cI a 0),j,k,f,g] PV.one=true∧b≠[])∧R .normal [h,.int .u32 t,.list (es++b) (.tok 1),d] [.dead,.tok]) False) (R .normal [h,.int .u32 t,.list es (.tok 0),d] [.tok])) False) (R (.exit 0) c [.tok]))→Holds (wpc br Try.prog gl [] [] (fun o=>match o.dst with|some 26=>1|_=>0) (subOf [1,1,0,1,0] (bodyOf Try.f35)) [] (envS [0,1,5,6] c) [.tok] (fun ex e H=>R ex (List.map e [0,1,5,6]) H)):Prop):=fun R h=>holds_of_eq (by kernel_rfl) h
def rend_l:LSp:=fun e H Q=>∃(l:List (Mt)) (t:Int),l.length≤1000000∧(True)∧SlIs (List.map e [0,1,5,6]) [.list (l.map mtc) .no,.int .u32 t,.list [] .exact,.int .i64 0]∧HpIs H []∧
 Q (.exit 0) (envS [0,1,5,6] [.list (l.map mtc) .no,.int .u32 t,.list ((l.filter (niT t)).map mtc) .no,.int .i64 l.length]) [.dead]
theorem rend_l_ok:∀ e H Q,rend_l e H Q→AW Try.prog gl Try.f35.ntmps (.loop (subOf [1,1,0,1,0] (bodyOf Try.f35))) Q e H:=by
 rintro e H Q ⟨l,t,hl,_,he,hH,hQ⟩
 have hH2:H=[]:=hH
 refine aw_growif (f:=mtc) (acc:=fun i=>(l.take i).filter (niT t)) (I:=fun i=>i≤l.length) (m:=fun i=>l.length-i) (hn:=fun o=>match o.dst with|some 26=>1|_=>0) gl_low (.nil _ _) (.nil _ _ _ _ _) [0,1,5,6] (fun r i=>[.list (l.map mtc) .no,.int .u32 t,r,.int .i64 i]) [] (0:Nat)
  (low_cells0) (fun _ _ a _=>low_mtc a) (fun es i k _ h=> .same (low_mts l) (.same (.int _ _) (.row h (.same (.int _ _) (.nil))))) (fun i _ w hw=>by
   simp only[List.mem_cons,List.not_mem_nil,or_false] at hw
   rcases hw with rfl|rfl|rfl|rfl
   ·exact low_mts l
   ·exact .int _ _
   ·exact low_list NT.exact (by simp)
   ·exact .int _ _) (Nat.zero_le _) (by simp) he hH2 ?_ ?_
 ·intro i hi ha
  have hi':i≤l.length:=hi
  refine rendA_vc l t i _ ?_
  simp only[br_if,dt,toNat_nat,List.length_map,inL_mtc]
  by_cases h:i<l.length
  ·rw[if_pos (by omega)]
   simp only[getD_map default h]
   have hs:=filter_take (p:=niT t) default h
   have hle:=filter_take_le (niT t) l i
   repeat (first|refine⟨h,?_⟩|rw[if_pos (by rfl)])
   by_cases c:(niT t) (l.getD i default)=true
   ·rw[if_pos c] at hs
    rw[if_pos (by exact c)]
    repeat (first|refine⟨h,?_⟩|rw[if_pos (by rfl)])
    refine⟨appL_map (l:=[]) (by_:=72) mtc_len (l.getD i default) (by show(0+1)*72≤_; decide),one_row one_mtc (l.getD i default),?_⟩
    exact growQ_add (i+1) (show l.length-(i+1)<l.length-i by omega) h hs (ne_snoc _ _) [.tok] 0 rfl rfl (by simp) (by rw[ha]; rw[wI_succ h (by omega)]; rfl)
   ·rw[if_neg c,List.append_nil] at hs
    rw[if_neg (by exact c)]
    exact growQ_none (i+1) (show l.length-(i+1)<l.length-i by omega) h (hs.trans ha) [] rfl (by rw[wI_succ h (by omega)])
  ·rw[if_neg (by omega)]
   have:i=l.length:=by omega
   subst this
   simp only[List.take_length] at ha ⊢
   rw[ha] at hQ
   exact growQ_end (.cons (.refl _) (.cons (.refl _) (.cons (.list _ _) (.cons (.refl _) (.nil))))) (pad_dead _) hQ
 ·intro i hi ha
  have hi':i≤l.length:=hi
  refine rendB_vc l t (((l.take i).filter (niT t)).map mtc) i _ ?_
  simp only[br_if,dt,toNat_nat,List.length_map,inL_mtc]
  by_cases h:i<l.length
  ·rw[if_pos (by omega)]
   simp only[getD_map default h]
   have hs:=filter_take (p:=niT t) default h
   have hle:=filter_take_le (niT t) l i
   repeat (first|refine⟨h,?_⟩|rw[if_pos (by rfl)])
   by_cases c:(niT t) (l.getD i default)=true
   ·rw[if_pos c] at hs
    rw[if_pos (by exact c)]
    repeat (first|refine⟨h,?_⟩|rw[if_pos (by rfl)])
    refine⟨appL_map mtc_len _ _ (by omega),one_row one_mtc (l.getD i default),?_⟩
    exact growQ_add (i+1) (show l.length-(i+1)<l.length-i by omega) h hs (ne_snoc _ _) [.dead,.tok] 1 rfl rfl (by simp) (by  rw[wI_succ h (by omega)]; rw[List.map_append]; rfl)
   ·rw[if_neg c,List.append_nil] at hs
    rw[if_neg (by exact c)]
    exact growQ_add (i+1) (show l.length-(i+1)<l.length-i by omega) h hs ha [.tok] 0 rfl rfl (by simp) (by rw[wI_succ h (by omega)])
  ·rw[if_neg (by omega)]
   have:i=l.length:=by omega
   subst this
   simp only[List.take_length] at ha ⊢
   exact growQ_end (.cons (.refl _) (.cons (.refl _) (.cons (.list _ _) (.cons (.refl _) (.nil))))) (pad_kill [] .tok) hQ
theorem rend1_vc (l:List Mt) (t:Int)  (K:PV→Prop) (h:∃(l_1:List Mt) (t_1:Int),List.length l_1≤1000000∧True∧SlIs [.list (List.map mtc l) .no,.int .u32 t,.list [] .exact,.int .i64 0] [.list (List.map mtc l_1) .no,.int .u32 t_1,.list [] .exact,.int .i64 0]∧HpIs [] []∧K (.list (List.map mtc (List.filter (niT t_1) l_1)) .no)):ACalls Try.prog gl 35 [.list (l.map mtc) .no,.int .u32 t] [] (fun x _=>K x):=
 acalls_of_wpc2 (T:=[]) (L:=[([1,1,0,1,0],rend_l)]) (fun o=>match o.dst with|some 26=>1|_=>0) Try.func35 (by kernel_rfl) (by kernel_rfl) (by kernel_rfl) (TabOk.nil _ _) (.cons (sub_of (by kernel_rfl)) rend_l_ok (.nil _ _ _ _ _)) (holds_of_eq (by kernel_rfl) h)
end Go.Proofs.Ytenaelaapdhbdaa
