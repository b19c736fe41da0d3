/-
  Lose, Add.
-/
import Derived.Test.YtenaelaapdhbdaaSo
import Derived.Test.YtenaelaapdhbdaaProg
namespace Go.Proofs.Ytenaelaapdhbdaa
open Go Go.AM Go.Proofs
theorem wo11_vc (ob:Ob) (t p:Int)  (K:PV→Heap→Prop) (h:K (.bool (p == t)) [.cells [.int .u32 t],ob]):ACalls Try.prog gl 50 [.int .u32 p,.ptr 0 0] [.cells [.int .u32 t],ob] K:=
 acalls_of_wpc2 (T:=[]) (L:=[]) (fun _=>0) Try.func50 (by kernel_rfl) (by kernel_rfl) (by kernel_rfl) (TabOk.nil _ _) (LOk.nil _ _ _ _ _) (holds_of_eq (by kernel_rfl) h)
theorem lo11_vc (t p:Int)  (K:PV→Heap→Prop) (h:K (.bool (p == t)) [.cells [.int .u32 t]]):ACalls Try.prog gl 50 [.int .u32 p,.ptr 0 0] [.cells [.int .u32 t]] K:=
 acalls_of_wpc2 (T:=[]) (L:=[]) (fun _=>0) Try.func50 (by kernel_rfl) (by kernel_rfl) (by kernel_rfl) (TabOk.nil _ _) (LOk.nil _ _ _ _ _) (holds_of_eq (by kernel_rfl) h)
def eqT (t v:Int):Bool:=v == t
def wo1_s (args:List PV) (H:Heap) (K:PV→Prop):Prop:=∃(t:Int) (ob:Ob) (p:Int),SlIs args [.int .u32 p,.ptr 0 0]∧HpIs H [.cells [.int .u32 t],ob]∧K (.bool (eqT t p))
theorem wo1_ok:SpOk Try.prog gl 50 (.read wo1_s):=by
 rintro args H K ⟨t,ob,p,he,hH,hk⟩
 have he:args=_:=he
 have hH:H=_:=hH
 subst he
 subst hH
 exact⟨_,wo11_vc ob t p _ ⟨rfl,rfl⟩,hk⟩
def TW1:Tab:=[(50,.read wo1_s)]
theorem TW1_ok:TabOk Try.prog gl TW1:= .cons wo1_ok (.nil _ _)
theorem ifw_vc (cx:Int) (l:List Int) (J:List PV) (cap:Nat) (i:Nat):(by refine(?_:_→_→_→Prop) (PV.int .i64 l.length) (List.flatten (l.map u1)++J) (PV.arr 1 0 l.length cap); exact fun d f g=>by refine(?_:_→_→_→Prop) [Ob.cells [.int .u32 cx],.cells f] [PV.arr 1 0 l.length cap,.fn 50 [.ptr 0 0],.int .i64 0,d,.int .i64 i] (List.drop (0+Int.toNat (i:Int)*1) f); exact fun a b c=>∀(R:Ex→List PV→Heap→Prop),(br (decide ((i:Int)<(l.length:Int))) ((0≤(i:Int)∧(i:Int)<(l.length:Int))∧br (true && fitX [.int .u32] 0 c) (∃(t:Int) (ob:Ob) (p:Int),SlIs [.int .u32 (cI c 0),.ptr 0 0] [.int .u32 p,.ptr 0 0]∧HpIs a [.cells [.int .u32 t],ob]∧br (eqT t p) (R .ret [g,.fn 50 [.ptr 0 0],.int .i64 i,d,.int .i64 i] a) (R .normal [g,.fn 50 [.ptr 0 0],.int .i64 0,d,.int .i64 (wI ((i:Int)+1))] a)) False) (R (.exit 0) b a))→Holds (wpc br Try.prog gl TW1 [] (fun _=>0) (subOf [1,0,1,0] (bodyOf Try.f68)) [] (envS [0,1,4,7,8] b) [.cells [.int .u32 cx],.cells ((l.map u1).flatten++J)] (fun ex e H=>R ex (List.map e [0,1,4,7,8]) H)):Prop):=fun R h=>holds_of_eq (by kernel_rfl) h
def ifw_l:LSp:=fun e H Q=>∃(cx:Int) (l:List Int) (J:List PV) (cap:Nat),l.length≤1000000∧SlIs (List.map e [0,1,4,7,8]) [.arr 1 0 l.length cap,.fn 50 [.ptr 0 0],.int .i64 0,.int .i64 l.length,.int .i64 0]∧HpIs H [.cells [.int .u32 cx],.cells ((l.map u1).flatten++J)]∧
 (l.findIdx (eqT cx)<l.length→Q .ret (envS [0,1,4,7,8] [.arr 1 0 l.length cap,.fn 50 [.ptr 0 0],.int .i64 (l.findIdx (eqT cx)),.int .i64 l.length,.int .i64 (l.findIdx (eqT cx))]) [.cells [.int .u32 cx],.cells ((l.map u1).flatten++J)])∧
 (l.findIdx (eqT cx)=l.length→Q (.exit 0) (envS [0,1,4,7,8] [.arr 1 0 l.length cap,.fn 50 [.ptr 0 0],.int .i64 0,.int .i64 l.length,.int .i64 l.length]) [.cells [.int .u32 cx],.cells ((l.map u1).flatten++J)])
theorem ifw_l_ok:∀ e H Q,ifw_l e H Q→AW Try.prog gl Try.f68.ntmps (.loop (subOf [1,0,1,0] (bodyOf Try.f68))) Q e H:=by
 rintro e H Q ⟨cx,l,J,cap,hl,he,hH,hQ1,hQ2⟩
 have hfl:l.findIdx (eqT cx)≤l.length:=List.findIdx_le_length
 refine aw_loop4 (hn:=fun _=>0) gl_low TW1_ok (.nil _ _ _ _ _) (σ:=Nat) [0,1,4,7,8] (fun i=>i≤l.findIdx (eqT cx)) (fun i=>[.arr 1 0 l.length cap,.fn 50 [.ptr 0 0],.int .i64 0,.int .i64 l.length,.int .i64 i]) (fun _=>[.cells [.int .u32 cx],.cells ((l.map u1).flatten++J)]) (fun i=>l.length-i) 0 (Nat.zero_le _) he hH ?_
 intro i hi
 have hi':i≤l.findIdx (eqT cx):=hi
 refine ifw_vc cx l J cap i _ ?_
 simp only[br_if,dt]
 by_cases h:i<l.length
 ·rw[if_pos (by omega)]
  simp only[toNat_nat,Nat.zero_add]
  rw[cells_at u1_len J 0 h]
  refine⟨⟨by omega,by omega⟩,?_⟩
  rw[if_pos (by rfl)]
  have hv:cI (u1 (l.getD i 0)++(((l.drop (i+1)).map u1).flatten++J)) 0=l.getD i 0:=rfl
  rw[hv]
  obtain⟨v,hvd⟩:∃ v,v=l.getD i 0:=⟨_,rfl⟩
  rw[← hvd]
  refine⟨cx,_,v,rfl,rfl,?_⟩
  by_cases c:(eqT cx) v=true
  ·have hge:l.findIdx (eqT cx)=i:=fidx_stop 0 hi' h (by rw[← hvd]; exact c)
   rw[hge] at hQ1
   rw[if_pos (by exact c)]
   exact hQ1 h
  ·have hlt:i<l.findIdx (eqT cx):=fidx_step 0 hi' h (by rw[← hvd]; simpa using c)
   rw[if_neg (by exact c)]
   exact⟨i+1,(show l.length-(i+1)<l.length-i by omega),hlt,by rw[wI_succ h (by omega)],[],rfl,Nat.le_refl _,.inl rfl⟩
 ·rw[if_neg (by omega)]
  have:i=l.length:=by omega
  subst this
  exact hQ2 (by omega)
theorem ifw1_vc (cx:Int) (l:List Int) (J:List PV) (cap:Nat):∀(K:PV→Heap→Prop),(∃(cx_1:Int) (l_1:List Int) (J_1:List PV) (cap_1:Nat),by refine(?_:_→Prop) [Ob.cells [.int .u32 cx_1],.cells (List.flatten (l_1.map u1)++J_1)]; exact fun a=>l_1.length≤1000000∧SlIs [.arr 1 0 l.length cap,.fn 50 [.ptr 0 0],.int .i64 0,.int .i64 l.length,.int .i64 0] [.arr 1 0 l_1.length cap_1,.fn 50 [.ptr 0 0],.int .i64 0,.int .i64 l_1.length,.int .i64 0]∧HpIs [.cells [.int .u32 cx],.cells (List.flatten (l.map u1)++J)] a∧(List.findIdx (eqT cx_1) l_1<l_1.length→K (.int .i64 (↑(List.findIdx (eqT cx_1) l_1):Int)) a)∧(List.findIdx (eqT cx_1) l_1=l_1.length→K (.int .i64 (-1)) a))→ACalls Try.prog gl 68 [.arr 1 0 l.length cap,.fn 50 [.ptr 0 0]] [.cells [.int .u32 cx],.cells ((l.map u1).flatten++J)] K:=fun K h=>acalls_of_wpc2 (T:=TW1) (L:=[([1,0,1,0],ifw_l)]) (fun _=>0) Try.func68 (by kernel_rfl) (by kernel_rfl) (by kernel_rfl) (TW1_ok) (.cons (sub_of (by kernel_rfl)) ifw_l_ok (.nil _ _ _ _ _)) (holds_of_eq (by kernel_rfl) h)
def ifw_s (args:List PV) (H:Heap) (K:PV→Prop):Prop:=∃(cx:Int) (l:List Int) (J:List PV) (cap:Nat),SlIs args [.arr 1 0 l.length cap,.fn 50 [.ptr 0 0]]∧HpIs H [.cells [.int .u32 cx],.cells ((l.map u1).flatten++J)]∧l.length≤1000000∧K (.int .i64 (if l.findIdx (eqT cx)<l.length then(l.findIdx (eqT cx):Int) else -1))
theorem ifw_ok:SpOk Try.prog gl 68 (.read ifw_s):=by
 rintro args H K ⟨cx,l,J,cap,he,hH,hl,hk⟩
 have he:args=_:=he
 have hH:H=_:=hH
 subst he
 subst hH
 exact⟨_,ifw1_vc cx l J cap _ ⟨cx,l,J,cap,hl,rfl,rfl,fun h=>⟨by rw[if_pos h],rfl⟩,fun h=>⟨by rw[if_neg (by omega)],rfl⟩⟩,hk⟩
def TDFw:Tab:=(68,.read ifw_s)::TW1
theorem TDFw_ok:TabOk Try.prog gl TDFw:= .cons ifw_ok TW1_ok
theorem dlw_vc (cx:Int) (l:List Int) (J:List PV) (cap:Nat) (i j:Nat):(by refine(?_:_→_→_→_→_→_→Prop) (List.flatten (l.map u1)++J) (Ob.cells [.int .u32 cx]) [PV.arr 1 0 l.length cap,.fn 50 [.ptr 0 0],.int .i64 i,.int .i64 j] (PV.int .i64 (wI ((j:Int)+1))) (0+Int.toNat (i:Int)*1) (PV.arr 1 0 l.length cap); exact fun a c d g h k=>by refine(?_:_→Prop) (List.drop (0+Int.toNat (j:Int)*1) a); exact fun b=>by refine(?_:_→Prop) (PV.int .u32 (cI b 0)); exact fun f=>∀(R:Ex→List PV→Heap→Prop),(br (decide ((j:Int)<(l.length:Int))) ((0≤(j:Int)∧(j:Int)<(l.length:Int))∧br (true && fitX [.int .u32] 0 b) (∃(t:Int) (ob:Ob) (p:Int),SlIs [f,.ptr 0 0] [.int .u32 p,.ptr 0 0]∧HpIs [c,.cells a] [.cells [.int .u32 t],ob]∧br (!eqT t p) ((0≤(i:Int)∧(i:Int)<(l.length:Int))∧br (1 == 1 && List.all [f] PV.one && decide (0+Int.toNat (i:Int)*1+1≤List.length a) && hintOk 0 1 h 1) (R .normal [k,.fn 50 [.ptr 0 0],.int .i64 (wI ((i:Int)+1)),g] [c,.cells (over a h [f])]) False) (R .normal [k,.fn 50 [.ptr 0 0],.int .i64 i,g] [c,.cells a])) False) (R (.exit 0) d [c,.cells a]))→Holds (wpc br Try.prog gl TDFw [] (fun _=>0) (subOf [1,1,1,0,1,0] (bodyOf Try.f49)) [] (envS [0,1,5,6] d) [c,.cells ((l.map u1).flatten++J)] (fun ex e H=>R ex (List.map e [0,1,5,6]) H)):Prop):=fun R h=>holds_of_eq (by kernel_rfl) h
structure Midw (ns l:List Int) (cx:Int) (i j:Nat):Prop where
 len:l.length=ns.length
 kept:l.take i=(ns.take j).filter (fun v=> !(eqT cx) v)
 rest:l.drop j=ns.drop j
 le:i≤j
 lt:j≤ns.length
theorem Midw.num {ns l:List Int} {cx:Int} {i j:Nat} (h:Midw ns l cx i j):i=((ns.take j).filter (fun v=> !(eqT cx) v)).length:=by
 have:=congrArg List.length h.kept
 rw[List.length_take] at this
 have:=h.len; have:=h.le; have:=h.lt; omega
theorem Midw.at {ns l:List Int} {cx:Int} {i j:Nat} (h:Midw ns l cx i j):l.getD j 0=ns.getD j 0:=by
 have:=congrArg (fun w=>w.getD 0 0) h.rest
 simpa using this
theorem Midw.skip {ns l:List Int} {cx:Int} {i j:Nat} (h:Midw ns l cx i j) (hj:j<ns.length) (c:(eqT cx) (ns.getD j 0)=true):Midw ns l cx i (j+1):=by
 refine⟨h.len,?_,?_,by have:=h.le; omega,hj⟩
 ·rw[h.kept,filter_take 0 hj,if_neg (by rw[c]; decide),List.append_nil]
 ·have:=congrArg (List.drop 1) h.rest
  rwa [List.drop_drop,List.drop_drop] at this
theorem Midw.keep {ns l:List Int} {cx:Int} {i j:Nat} (h:Midw ns l cx i j) (hj:j<ns.length) (c:(eqT cx) (ns.getD j 0)=false):Midw ns (l.set i (ns.getD j 0)) cx (i+1) (j+1):=by
 have h1:=h.len
 have h2:=h.le
 refine⟨by rw[List.length_set]; exact h1,?_,?_,by omega,hj⟩
 ·rw[filter_take 0 hj,if_pos (by rw[c]; decide),← h.kept,List.take_add_one,List.take_set_of_le (Nat.le_refl _),List.getElem?_set_self (by omega)]
  rfl
 ·rw[List.drop_set_of_lt (by omega)]
  have:=congrArg (List.drop 1) h.rest
  rwa [List.drop_drop,List.drop_drop] at this
def dlw_l:LSp:=fun e H Q=>∃(cx:Int) (ns:List Int) (J:List PV) (cap i:Nat),ns.length≤1000000∧Midw ns ns cx i (i+1)∧(∀ y∈J,Low 2 y)∧(∀ y∈([.int .u32 cx]:List PV),Low 2 y)∧SlIs (List.map e [0,1,5,6]) [.arr 1 0 ns.length cap,.fn 50 [.ptr 0 0],.int .i64 i,.int .i64 ((i+1:Nat):Int)]∧HpIs H [.cells [.int .u32 cx],.cells ((ns.map u1).flatten++J)]∧
 ∀(l:List Int) (k:Nat),Midw ns l cx k ns.length→Q (.exit 0) (envS [0,1,5,6] [.arr 1 0 ns.length cap,.fn 50 [.ptr 0 0],.int .i64 k,.int .i64 ns.length]) [.cells [.int .u32 cx],.cells ((l.map u1).flatten++J)]
theorem dlw_l_ok:∀ e H Q,dlw_l e H Q→AW Try.prog gl Try.f49.ntmps (.loop (subOf [1,1,1,0,1,0] (bodyOf Try.f49))) Q e H:=by
 rintro e H Q ⟨cx,ns,J,cap,i0,hl,mid,hJ,hbx,he,hH,hQ⟩
 refine aw_loop4 (hn:=fun _=>0) gl_low TDFw_ok (.nil _ _ _ _ _) (σ:=Nat×Nat×List Int) [0,1,5,6] (fun s=>Midw ns s.2.2 cx s.1 s.2.1)
  (fun s=>[.arr 1 0 ns.length cap,.fn 50 [.ptr 0 0],.int .i64 s.1,.int .i64 s.2.1]) (fun s=>[.cells [.int .u32 cx],.cells ((s.2.2.map u1).flatten++J)]) (fun s=>ns.length-s.2.1) (i0,i0+1,ns) mid he hH ?_
 rintro⟨i,j,l⟩ mid
 have mid:Midw ns l cx i j:=mid
 have hlen:=mid.len
 have hle:=mid.le
 have hjn:=mid.lt
 simp only[← hlen]
 refine dlw_vc cx l J cap i j _ ?_
 simp only[br_if,dt]
 by_cases h:j<l.length
 ·have hj:j<ns.length:=by omega
  rw[if_pos (by omega)]
  simp only[toNat_nat,Nat.zero_add]
  rw[cells_at u1_len J 0 h]
  refine⟨⟨by omega,by omega⟩,?_⟩
  rw[if_pos (by rfl)]
  have hv:cI (u1 (l.getD j 0)++(((l.drop (j+1)).map u1).flatten++J)) 0=l.getD j 0:=rfl
  rw[hv,mid.at]
  obtain⟨v,hvd⟩:∃ v,v=ns.getD j 0:=⟨_,rfl⟩
  rw[← hvd]
  refine⟨cx,_,v,rfl,rfl,?_⟩
  have hrow:=over_row u1_len (J:=J) (a:=v) (k:=i) 0 (show i<l.length by omega)
  by_cases c:(eqT cx) v=true
  ·rw[if_neg (by rw[show _=true from c]; decide)]
   exact⟨(i,j+1,l),(show l.length-(j+1)<l.length-j by omega),mid.skip hj (by rw[← hvd]; exact c),by dsimp only; rw[wI_succ h (by omega),hlen],[],rfl,Nat.le_refl _,.inl rfl⟩
  ·have c':(eqT cx) v=false:=by simpa using c
   rw[if_pos (by rw[show _=false from c']; decide)]
   refine⟨⟨by omega,by omega⟩,?_⟩
   rw[if_pos (by rw[decide_eq_true (by rw[List.length_append,flat_u1]; omega)]; rfl)]
   have hm:=mid.keep hj (by rw[← hvd]; exact c')
   rw[← hvd] at hm
   refine⟨(i+1,j+1,l.set i v),(show l.length-(j+1)<l.length-j by omega),hm,by dsimp only; rw[wI_succ h (by omega),wI_succ (n:=ns.length) (show i<ns.length by omega) (by omega),hlen],[],?_,Nat.le_refl _,.inl rfl⟩
   dsimp only
   rw[List.append_nil,← hrow]; rfl
 ·rw[if_neg (by omega)]
  have:j=ns.length:=by omega
  subst this
  rw[hlen]
  exact hQ l i mid
theorem dlw1_vc (cx:Int) (l:List Int) (J:List PV) (cap:Nat):(by refine(?_:_→_→Prop) [Ob.cells [.int .u32 cx],.cells (List.flatten (l.map u1)++J)] [PV.arr 1 0 l.length cap,.fn 50 [.ptr 0 0]]; exact fun c d=>∀(K:PV→Heap→Prop),(∃(cx_1:Int) (l_1:List Int) (J_1:List PV) (cap_1:Nat),by refine(?_:_→Prop) (↑(List.findIdx (eqT cx_1) l_1):Int); exact fun b=>SlIs d [.arr 1 0 l_1.length cap_1,.fn 50 [.ptr 0 0]]∧HpIs c [.cells [.int .u32 cx_1],.cells (List.flatten (l_1.map u1)++J_1)]∧l_1.length≤1000000∧br ((if List.findIdx (eqT cx_1) l_1<l_1.length then b else -1) == -1) (K (.arr 1 0 l.length cap) c) (∃(cx_2:Int) (ns:List Int) (J_2:List PV) (cap_2:Nat) (i:Nat),ns.length≤1000000∧Midw ns ns cx_2 i (i+1)∧(∀(y:PV),y∈J_2→Low 2 y)∧(∀(y:PV),y∈[.int .u32 cx_2]→Low 2 y)∧SlIs [.arr 1 0 l.length cap,.fn 50 [.ptr 0 0],.int .i64 (if List.findIdx (eqT cx_1) l_1<l_1.length then b else -1),.int .i64 (wI ((if List.findIdx (eqT cx_1) l_1<l_1.length then b else -1)+1))] [.arr 1 0 ns.length cap_2,.fn 50 [.ptr 0 0],.int .i64 i,.int .i64 (↑(i+1):Int)]∧HpIs c [.cells [.int .u32 cx_2],.cells (List.flatten (ns.map u1)++J_2)]∧∀(l:List Int),∀(k:Nat),by refine(?_:_→Prop) (Int.toNat (ns.length:Int)-Int.toNat (k:Int)); exact fun a=>Midw ns l cx_2 k ns.length→(0≤(k:Int)∧(k:Int)≤(ns.length:Int)∧(ns.length:Int)≤(cap_2:Int)∧(cap_2:Int)≤(cap_2:Int))∧(if Int.toNat (cap_2:Int)=Int.toNat (k:Int) then 0 else 0+Int.toNat (k:Int)*1)+a*1≤List.length (List.flatten (l.map u1)++J_2)∧(iI 0≤0∧0≤(k:Int)∧(k:Int)≤(cap_2:Int)∧(cap_2:Int)≤(cap_2:Int))∧K (.arr 1 (if Int.toNat (cap_2:Int)=0 then 0 else 0) (Int.toNat (k:Int)-0) (Int.toNat (cap_2:Int)-0)) [.cells [.int .u32 cx_2],.cells (over (List.flatten (l.map u1)++J_2) (if Int.toNat (cap_2:Int)=Int.toNat (k:Int) then 0 else 0+Int.toNat (k:Int)*1) (List.flatten (List.replicate a [.int .u32 0])))]))→ACalls Try.prog gl 49 d [.cells [.int .u32 cx],.cells ((l.map u1).flatten++J)] K:Prop):=fun K h=>acalls_of_wpc2 (T:=TDFw) (L:=[([1,1,1,0,1,0],dlw_l)]) (fun _=>0) Try.func49 (by kernel_rfl) (by kernel_rfl) (by kernel_rfl) (TDFw_ok) (.cons (sub_of (by kernel_rfl)) dlw_l_ok (.nil _ _ _ _ _)) (holds_of_eq (by kernel_rfl) h)
theorem inw_vc (cx:Int):(by refine(?_:_→_→Prop) [PV.list [] .no,.fn 50 [.ptr 0 0],.int .i64 0,.int .i64 0,.int .i64 0] [Ob.cells [.int .u32 cx]]; exact fun a b=>∀(R:Ex→List PV→Heap→Prop),(R (.exit 0) a b)→Holds (wpc br Try.prog gl TW1 [] (fun _=>0) (subOf [1,0,1,0] (bodyOf Try.f68)) [] (envS [0,1,4,7,8] a) b (fun ex e H=>R ex (List.map e [0,1,4,7,8]) H)):Prop):=fun R h=>holds_of_eq (by kernel_rfl) h
def inw_l:LSp:=fun e H Q=>∃(cx:Int),SlIs (List.map e [0,1,4,7,8]) [.list [] .no,.fn 50 [.ptr 0 0],.int .i64 0,.int .i64 0,.int .i64 0]∧HpIs H [.cells [.int .u32 cx]]∧Q (.exit 0) (envS [0,1,4,7,8] [.list [] .no,.fn 50 [.ptr 0 0],.int .i64 0,.int .i64 0,.int .i64 0]) [.cells [.int .u32 cx]]
theorem inw_l_ok:∀ e H Q,inw_l e H Q→AW Try.prog gl Try.f68.ntmps (.loop (subOf [1,0,1,0] (bodyOf Try.f68))) Q e H:=by
 rintro e H Q ⟨cx,he,hH,hQ⟩
 refine aw_loop4 (hn:=fun _=>0) gl_low TW1_ok (.nil _ _ _ _ _) (σ:=Unit) [0,1,4,7,8] (fun _=>True) (fun _=>[.list [] .no,.fn 50 [.ptr 0 0],.int .i64 0,.int .i64 0,.int .i64 0]) (fun _=>[.cells [.int .u32 cx]]) (fun _=>0) () trivial he hH ?_
 intro _ _
 exact inw_vc cx _ hQ
theorem inw1_vc (cx:Int):(by refine(?_:_→_→Prop) [PV.list [] .no,.fn 50 [.ptr 0 0],.int .i64 0,.int .i64 0,.int .i64 0] [Ob.cells [.int .u32 cx]]; exact fun a b=>∀(K:PV→Heap→Prop),(∃(cx_1:Int),SlIs a a∧HpIs b [.cells [.int .u32 cx_1]]∧K (.int .i64 (-1)) [.cells [.int .u32 cx_1]])→ACalls Try.prog gl 68 [.list [] .no,.fn 50 [.ptr 0 0]] b K:Prop):=fun K h=>acalls_of_wpc2 (T:=TW1) (L:=[([1,0,1,0],inw_l)]) (fun _=>0) Try.func68 (by kernel_rfl) (by kernel_rfl) (by kernel_rfl) (TW1_ok) (.cons (sub_of (by kernel_rfl)) inw_l_ok (.nil _ _ _ _ _)) (holds_of_eq (by kernel_rfl) h)
def inw_s (args:List PV) (H:Heap) (K:PV→Prop):Prop:=∃(cx:Int),SlIs args [.list [] .no,.fn 50 [.ptr 0 0]]∧HpIs H [.cells [.int .u32 cx]]∧K (.int .i64 (-1))
theorem inw_ok:SpOk Try.prog gl 68 (.read inw_s):=by
 rintro args H K ⟨cx,he,hH,hk⟩
 have he:args=_:=he
 have hH:H=_:=hH
 subst he
 subst hH
 exact⟨_,inw1_vc cx _ ⟨cx,rfl,rfl,rfl,rfl⟩,hk⟩
def TINw:Tab:=(68,.read inw_s)::TW1
theorem TINw_ok:TabOk Try.prog gl TINw:= .cons inw_ok TW1_ok
theorem dnw1_vc (cx:Int):(by refine(?_:_→_→Prop) [PV.list [] .no,.fn 50 [.ptr 0 0]] [Ob.cells [.int .u32 cx]]; exact fun a b=>∀(K:PV→Heap→Prop),(∃(cx_1:Int),SlIs a a∧HpIs b [.cells [.int .u32 cx_1]]∧K (.list [] .no) b)→ACalls Try.prog gl 49 a b K:Prop):=fun K h=>acalls_of_wpc2 (T:=TINw) (L:=[([1,1,1,0,1,0],dlw_l)]) (fun _=>0) Try.func49 (by kernel_rfl) (by kernel_rfl) (by kernel_rfl) (TINw_ok) (.cons (sub_of (by kernel_rfl)) dlw_l_ok (.nil _ _ _ _ _)) (holds_of_eq (by kernel_rfl) h)
theorem fsplitw {p:Int→Bool}:∀(l:List Int),(l.findIdx p<l.length→l.take (l.findIdx p)=(l.take (l.findIdx p+1)).filter (fun v=> !p v))∧(l.findIdx p=l.length→l.filter (fun v=> !p v)=l)
 | []=>⟨fun h=>absurd h (by simp),fun _=>rfl⟩
 | a::l=>by
  obtain⟨h1,h2⟩:=fsplitw l
  by_cases c:p a=true
  ·have e:(a::l).findIdx p=0:=by rw[List.findIdx_cons,c]; rfl
   rw[e]
   exact⟨fun _=>by simp[c],fun h=>by simp at h⟩
  ·have c':p a=false:=by simpa using c
   have e:(a::l).findIdx p=l.findIdx p+1:=by rw[List.findIdx_cons,c']; rfl
   rw[e]
   refine⟨fun h=>?_,fun h=>?_⟩
   ·rw[List.take_succ_cons,List.take_succ_cons,List.filter_cons_of_pos (by simp[c']),← h1 (by simpa using h)]
   ·rw[List.filter_cons_of_pos (by simp[c']),h2 (by simpa using h)]
theorem zfillw {l:List Int} {J:List PV} {k n:Nat} (hn:l.length=n) (hk:k≤n):over ((l.map u1).flatten++J) k (List.flatten (List.replicate (n-k) [PV.int .u32 0]))=((l.take k).map u1).flatten++((List.flatten (List.replicate (n-k) [PV.int .u32 0]))++J):=by
 have hz:=(zeros_u32 (n-k)).len
 have e1:(l.map u1).flatten++J=((l.take k).map u1).flatten++((l.drop k).map u1).flatten++J:=by rw[← rows_parts]
 rw[over_mid e1 (by rw[flat_u1,List.length_take]; omega) (by rw[flat_u1,List.length_drop,hz]; omega),List.append_assoc]
def delwD_s (args:List PV) (H:Heap) (K:PV→Heap→Prop):Prop:=
 (∃(cx:Int) (l:List Int) (J:List PV) (cap:Nat),SlIs args [.arr 1 0 l.length cap,.fn 50 [.ptr 0 0]]∧HpIs H [.cells [.int .u32 cx],.cells ((l.map u1).flatten++J)]∧l.length≤1000000∧l.length≤cap∧Room J (cap-l.length)∧(∀ y∈([.int .u32 cx]:List PV),Low 2 y)∧
  K (.arr 1 0 (l.filter (fun v=> !(eqT cx) v)).length cap) [.cells [.int .u32 cx],.cells (((l.filter (fun v=> !(eqT cx) v)).map u1).flatten++((List.flatten (List.replicate (l.length-(l.filter (fun v=> !(eqT cx) v)).length) [PV.int .u32 0]))++J))])∨
 (∃(cx:Int),SlIs args [.list [] .no,.fn 50 [.ptr 0 0]]∧HpIs H [.cells [.int .u32 cx]]∧K (.list [] .no) [.cells [.int .u32 cx]])
theorem delwD_ok:SpOk Try.prog gl 49 (.heap delwD_s):=by
 rintro args H K (⟨cx,l,J,cap,he,hH,hl,hc,hJ,hbx,hk⟩|⟨cx,he,hH,hk⟩)
 ·have he:args=_:=he
  have hH:H=_:=hH
  subst he
  subst hH
  obtain⟨s1,s2⟩:=fsplitw (p:=(eqT cx)) l
  have hfl:l.findIdx (eqT cx)≤l.length:=List.findIdx_le_length
  refine dlw1_vc cx l J cap K ⟨cx,l,J,cap,rfl,rfl,hl,?_⟩
  rw[br_if]
  by_cases h:l.findIdx (eqT cx)<l.length
  ·rw[if_pos h,if_neg (by rw[beq_iff_eq]; omega)]
   refine⟨cx,l,J,cap,l.findIdx (eqT cx),hl,⟨rfl,s1 h,rfl,by omega,h⟩,fun y hy=>(hJ.low y hy).up,hbx,?_,rfl,fun l' k mid=>?_⟩
   ·show _=_
    rw[wI_succ h (by omega)]
   ·have hlen:=mid.len
    have hle:=mid.le
    have hkept:=mid.kept
    rw[List.take_length] at hkept
    have hnum:=mid.num
    rw[List.take_length] at hnum
    simp only[toNat_nat,Nat.sub_zero,Nat.zero_add,Nat.mul_one,ite_self]
    have hif:(if cap=k then 0 else k)+(l.length-k)≤((l'.map u1).flatten++J).length:=by
     rw[List.length_append,flat_u1,hJ.len]; split<;>omega
    have hov:over ((l'.map u1).flatten++J) (if cap=k then 0 else k) (List.flatten (List.replicate (l.length-k) [PV.int .u32 0]))=((l'.take k).map u1).flatten++((List.flatten (List.replicate (l.length-k) [PV.int .u32 0]))++J):=by
     split
     ·have e:l.length-k=0:=by omega
      rw[e,show List.flatten (List.replicate 0 [PV.int IntKind.u32 0])=[] from rfl,over_nil,List.take_of_length_le (by omega),List.nil_append]
     ·exact zfillw hlen hle
    refine⟨⟨by omega,by omega,by omega,by omega⟩,hif,⟨by decide,by omega,by omega,by omega⟩,?_⟩
    rw[hov,hkept,hnum]
    exact hk
  ·rw[if_neg h,if_pos (by rfl)]
   have e:=s2 (by omega)
   rw[e,Nat.sub_self] at hk
   exact hk
 ·have he:args=_:=he
  have hH:H=_:=hH
  subst he
  subst hH
  exact dnw1_vc cx K ⟨cx,rfl,rfl,hk⟩
theorem lo21_vc (r:Rr):∀(K:PV→Heap→Prop),(K (.bool ((↑(List.length (r.pl.map u1)):Int) == 0)) [.cells [.int .i64 r.tm,.list (r.pl.map u1) .no,.int .i64 r.rt,.int .i64 r.wd]])→ACalls Try.prog gl 52 [.agg (rrc r)] [] K:=fun K h=>acalls_of_wpc2 (T:=[]) (L:=[]) (fun _=>0) Try.func52 (by kernel_rfl) (by kernel_rfl) (by kernel_rfl) (TabOk.nil _ _) (LOk.nil _ _ _ _ _) (holds_of_eq (by kernel_rfl) h)
def mtR (r:Rr):Bool:=decide (r.pl.length=0)
def lo2_s (args:List PV) (K:PV→Prop):Prop:=∃(r:Rr),SlIs args [.agg (rrc r)]∧K (.bool (mtR r))
theorem lo2_ok:SpOk Try.prog gl 52 (.pure lo2_s):=by
 rintro args K ⟨r,he,hk⟩
 have he:args=_:=he
 subst he
 refine spure gl_low (low_one (.agg _ (low_rrc r))) (.bool _) (lo21_vc r (fun x _=>x = .bool (mtR r)) ?_) hk
 simp only[List.length_map]
 congr 1
 unfold mtR
 by_cases h:r.pl.length=0
 ·rw[decide_eq_true h,h]; rfl
 ·rw[decide_eq_false h,beq_eq_false_iff_ne]; omega
theorem csR_len (r:Rr):(rrc r).length=4:=rfl
def TRf:Tab:=[(52,.pure lo2_s)]
theorem TRf_ok:TabOk Try.prog gl TRf:= .cons lo2_ok (.nil _ _)
theorem ixRf_vc (l:List Rr) (J:List PV) (cap:Nat) (i:Nat):(by refine(?_:_→_→_→_→Prop) (List.drop (0+Int.toNat (i:Int)*4) (flR l++J)) [Ob.cells (flR l++J)] (PV.int .i64 l.length) (PV.arr 0 0 l.length cap); exact fun a c d f=>by refine(?_:_→Prop) [PV.arr 0 0 l.length cap,.fn 52 [],.int .i64 0,d,.int .i64 i]; exact fun b=>∀(R:Ex→List PV→Heap→Prop),(br (decide ((i:Int)<(l.length:Int))) ((0≤(i:Int)∧(i:Int)<(l.length:Int))∧br (true && fitX [.int .i64,.list,.int .i64,.int .i64] 0 a) (∃(r:Rr),SlIs [.agg [.int .i64 (cI a 0),.list (cL a 1) (cT a 1),.int .i64 (cI a 2),.int .i64 (cI a 3)]] [.agg [.int .i64 r.tm,.list (r.pl.map u1) .no,.int .i64 r.rt,.int .i64 r.wd]]∧br (mtR r) (R .ret [f,.fn 52 [],.int .i64 i,d,.int .i64 i] c) (R .normal [f,.fn 52 [],.int .i64 0,d,.int .i64 (wI ((i:Int)+1))] c)) False) (R (.exit 0) b c))→Holds (wpc br Try.prog gl TRf [] (fun _=>0) (subOf [1,0,1,0] (bodyOf Try.f69)) [] (envS [0,1,4,7,8] b) c (fun ex e H=>R ex (List.map e [0,1,4,7,8]) H)):Prop):=fun R h=>holds_of_eq (by kernel_rfl) h
def ixRf_l:LSp:=fun e H Q=>∃(l:List Rr) (J:List PV) (cap:Nat),l.length≤1000000∧(∀ y∈J,Low 0 y)∧SlIs (List.map e [0,1,4,7,8]) [.arr 0 0 l.length cap,.fn 52 [],.int .i64 0,.int .i64 l.length,.int .i64 0]∧HpIs H [.cells (flR l++J)]∧
 (l.findIdx mtR<l.length→Q .ret (envS [0,1,4,7,8] [.arr 0 0 l.length cap,.fn 52 [],.int .i64 (l.findIdx mtR),.int .i64 l.length,.int .i64 (l.findIdx mtR)]) [.cells (flR l++J)])∧
 (l.findIdx mtR=l.length→Q (.exit 0) (envS [0,1,4,7,8] [.arr 0 0 l.length cap,.fn 52 [],.int .i64 0,.int .i64 l.length,.int .i64 l.length]) [.cells (flR l++J)])
theorem ixRf_l_ok:∀ e H Q,ixRf_l e H Q→AW Try.prog gl Try.f69.ntmps (.loop (subOf [1,0,1,0] (bodyOf Try.f69))) Q e H:=by
 rintro e H Q ⟨l,J,cap,hl,hJ,he,hH,hQ1,hQ2⟩
 have hfl:l.findIdx mtR≤l.length:=List.findIdx_le_length
 refine aw_loop4 (hn:=fun _=>0) gl_low TRf_ok (.nil _ _ _ _ _) (σ:=Nat) [0,1,4,7,8] (fun i=>i≤l.findIdx mtR) (fun i=>[.arr 0 0 l.length cap,.fn 52 [],.int .i64 0,.int .i64 l.length,.int .i64 i]) (fun _=>[.cells (flR l++J)]) (fun i=>l.length-i) 0 (Nat.zero_le _) he hH ?_
 intro i hi
 have hi':i≤l.findIdx mtR:=hi
 refine ixRf_vc l J cap i _ ?_
 simp only[br_if,dt,toNat_nat,Nat.zero_add]
 by_cases h:i<l.length
 ·rw[if_pos (by omega)]
  refine⟨⟨by omega,by omega⟩,?_⟩
  rw[cells_at csR_len J default h,if_pos (by rfl)]
  obtain⟨v,hvd⟩:∃ v,v=l.getD i default:=⟨_,rfl⟩
  rw[← hvd]
  refine⟨v,rfl,?_⟩
  by_cases c:mtR v=true
  ·have hge:l.findIdx mtR=i:=fidx_stop default hi' h (by rw[← hvd]; exact c)
   rw[hge] at hQ1
   rw[if_pos (by exact c)]
   exact hQ1 h
  ·have hlt:i<l.findIdx mtR:=fidx_step default hi' h (by rw[← hvd]; simpa using c)
   rw[if_neg (by exact c)]
   exact⟨i+1,(show l.length-(i+1)<l.length-i by omega),hlt,by rw[wI_succ h (by omega)],[],rfl,Nat.le_refl _,.inl rfl⟩
 ·rw[if_neg (by omega)]
  have:i=l.length:=by omega
  subst this
  exact hQ2 (by omega)
theorem ixRf1_vc (l:List Rr) (J:List PV) (cap:Nat):∀(K:PV→Heap→Prop),(∃(l_1:List Rr) (J_1:List PV) (cap_1:Nat),by refine(?_:_→Prop) [Ob.cells (flR l_1++J_1)]; exact fun a=>l_1.length≤1000000∧(∀(y:PV),y∈J_1→Low 0 y)∧SlIs [.arr 0 0 l.length cap,.fn 52 [],.int .i64 0,.int .i64 l.length,.int .i64 0] [.arr 0 0 l_1.length cap_1,.fn 52 [],.int .i64 0,.int .i64 l_1.length,.int .i64 0]∧HpIs [.cells (flR l++J)] a∧(List.findIdx mtR l_1<l_1.length→K (.int .i64 (↑(List.findIdx mtR l_1):Int)) a)∧(List.findIdx mtR l_1=l_1.length→K (.int .i64 (-1)) a))→ACalls Try.prog gl 69 [.arr 0 0 l.length cap,.fn 52 []] [.cells (flR l++J)] K:=fun K h=>acalls_of_wpc2 (T:=TRf) (L:=[([1,0,1,0],ixRf_l)]) (fun _=>0) Try.func69 (by kernel_rfl) (by kernel_rfl) (by kernel_rfl) (TRf_ok) (.cons (sub_of (by kernel_rfl)) ixRf_l_ok (.nil _ _ _ _ _)) (holds_of_eq (by kernel_rfl) h)
def ixRf_s (args:List PV) (H:Heap) (K:PV→Prop):Prop:=∃(l:List Rr) (J:List PV) (cap:Nat),SlIs args [.arr 0 0 l.length cap,.fn 52 []]∧HpIs H [.cells (flR l++J)]∧l.length≤1000000∧(∀ y∈J,Low 0 y)∧K (.int .i64 (if l.findIdx mtR<l.length then(l.findIdx mtR:Int) else -1))
theorem ixRf_ok:SpOk Try.prog gl 69 (.read ixRf_s):=by
 rintro args H K ⟨l,J,cap,he,hH,hl,hJ,hk⟩
 have he:args=_:=he
 have hH:H=_:=hH
 subst he
 subst hH
 exact⟨_,ixRf1_vc l J cap _ ⟨l,J,cap,hl,hJ,rfl,rfl,fun h=>⟨by rw[if_pos h],rfl⟩,fun h=>⟨by rw[if_neg (by omega)],rfl⟩⟩,hk⟩
def TDRf:Tab:=(69,.read ixRf_s)::TRf
theorem TDRf_ok:TabOk Try.prog gl TDRf:= .cons ixRf_ok TRf_ok
theorem dlRf_vc (l:List Rr) (J:List PV) (cap:Nat) (i j:Nat):(by refine(?_:_→_→_→_→_→Prop) (List.drop (0+Int.toNat (j:Int)*4) (flR l++J)) (PV.arr 0 0 l.length cap) (Ob.cells (flR l++J)) (PV.int .i64 (wI ((j:Int)+1))) (0+Int.toNat (i:Int)*4); exact fun b c f g h=>by refine(?_:_→_→Prop) [PV.int .i64 (cI b 0),.list (cL b 1) (cT b 1),.int .i64 (cI b 2),.int .i64 (cI b 3)] [c,.fn 52 [],.int .i64 i,.int .i64 j]; exact fun a d=>∀(R:Ex→List PV→Heap→Prop),(br (decide ((j:Int)<(l.length:Int))) ((0≤(j:Int)∧(j:Int)<(l.length:Int))∧br (true && fitX [.int .i64,.list,.int .i64,.int .i64] 0 b) (∃(r:Rr),SlIs [.agg a] [.agg [.int .i64 r.tm,.list (r.pl.map u1) .no,.int .i64 r.rt,.int .i64 r.wd]]∧br (!mtR r) ((0≤(i:Int)∧(i:Int)<(l.length:Int))∧br (4 == 4 && List.all a PV.one && decide (0+Int.toNat (i:Int)*4+4≤List.length (flR l++J)) && hintOk 0 0 h 4) (R .normal [c,.fn 52 [],.int .i64 (wI ((i:Int)+1)),g] [.cells (over (flR l++J) h a),.cells a]) False) (R .normal [c,.fn 52 [],.int .i64 i,g] [f,.cells a])) False) (R (.exit 0) d [f]))→Holds (wpc br Try.prog gl TDRf [] (fun _=>0) (subOf [1,1,1,0,1,0] (bodyOf Try.f51)) [] (envS [0,1,5,6] d) [f] (fun ex e H=>R ex (List.map e [0,1,5,6]) H)):Prop):=fun R h=>holds_of_eq (by kernel_rfl) h
structure MidRf (ns l:List Rr) (i j:Nat):Prop where
 len:l.length=ns.length
 kept:l.take i=(ns.take j).filter (fun v=> !mtR v)
 rest:l.drop j=ns.drop j
 le:i≤j
 lt:j≤ns.length
theorem MidRf.num {ns l:List Rr} {i j:Nat} (h:MidRf ns l i j):i=((ns.take j).filter (fun v=> !mtR v)).length:=by
 have:=congrArg List.length h.kept
 rw[List.length_take] at this
 have:=h.len; have:=h.le; have:=h.lt; omega
theorem MidRf.at {ns l:List Rr} {i j:Nat} (h:MidRf ns l i j):l.getD j default=ns.getD j default:=by
 have:=congrArg (fun w=>w.getD 0 default) h.rest
 simpa using this
theorem MidRf.skip {ns l:List Rr} {i j:Nat} (h:MidRf ns l i j) (hj:j<ns.length) (c:mtR (ns.getD j default)=true):MidRf ns l i (j+1):=by
 refine⟨h.len,?_,?_,by have:=h.le; omega,hj⟩
 ·rw[h.kept,filter_take default hj,if_neg (by rw[c]; decide),List.append_nil]
 ·have:=congrArg (List.drop 1) h.rest
  rwa [List.drop_drop,List.drop_drop] at this
theorem MidRf.keep {ns l:List Rr} {i j:Nat} (h:MidRf ns l i j) (hj:j<ns.length) (c:mtR (ns.getD j default)=false):MidRf ns (l.set i (ns.getD j default)) (i+1) (j+1):=by
 have h1:=h.len
 have h2:=h.le
 refine⟨by rw[List.length_set]; exact h1,?_,?_,by omega,hj⟩
 ·rw[filter_take default hj,if_pos (by rw[c]; decide),← h.kept,List.take_add_one,List.take_set_of_le (Nat.le_refl _),List.getElem?_set_self (by omega)]
  rfl
 ·rw[List.drop_set_of_lt (by omega)]
  have:=congrArg (List.drop 1) h.rest
  rwa [List.drop_drop,List.drop_drop] at this
def dlRf_l:LSp:=fun e H Q=>∃(ns:List Rr) (J:List PV) (cap i:Nat),ns.length≤1000000∧MidRf ns ns i (i+1)∧(∀ y∈J,Low 0 y)∧SlIs (List.map e [0,1,5,6]) [.arr 0 0 ns.length cap,.fn 52 [],.int .i64 i,.int .i64 ((i+1:Nat):Int)]∧HpIs H [.cells (flR ns++J)]∧
 ∀(l:List Rr) (k:Nat),MidRf ns l k ns.length→Q (.exit 0) (envS [0,1,5,6] [.arr 0 0 ns.length cap,.fn 52 [],.int .i64 k,.int .i64 ns.length]) [.cells (flR l++J)]
theorem dlRf_l_ok:∀ e H Q,dlRf_l e H Q→AW Try.prog gl Try.f51.ntmps (.loop (subOf [1,1,1,0,1,0] (bodyOf Try.f51))) Q e H:=by
 rintro e H Q ⟨ns,J,cap,i0,hl,mid,hJ,he,hH,hQ⟩
 refine aw_loop4 (hn:=fun _=>0) gl_low TDRf_ok (.nil _ _ _ _ _) (σ:=Nat×Nat×List Rr) [0,1,5,6] (fun s=>MidRf ns s.2.2 s.1 s.2.1)
  (fun s=>[.arr 0 0 ns.length cap,.fn 52 [],.int .i64 s.1,.int .i64 s.2.1]) (fun s=>[.cells (flR s.2.2++J)]) (fun s=>ns.length-s.2.1) (i0,i0+1,ns) mid he hH ?_
 rintro⟨i,j,l⟩ mid
 have mid:MidRf ns l i j:=mid
 have hlen:=mid.len
 have hle:=mid.le
 have hjn:=mid.lt
 simp only[← hlen]
 have flow:∀(l2:List Rr),LowH [.cells (flR l2++J)]:=fun l2=>lowH_of (by intro ob ho; rcases List.mem_singleton.1 ho with rfl; exact fun x hx=>(low_flat (fun a _=>low_rrc a) hJ x hx).up)
 refine dlRf_vc l J cap i j _ ?_
 simp only[br_if,dt,toNat_nat,Nat.zero_add]
 by_cases h:j<l.length
 ·have hj:j<ns.length:=by omega
  rw[if_pos (by omega)]
  refine⟨⟨by omega,by omega⟩,?_⟩
  rw[cells_at csR_len J default h,if_pos (by rfl)]
  have hat:=mid.at
  obtain⟨v,hvd⟩:∃ v,v=ns.getD j default:=⟨_,rfl⟩
  rw[hat,← hvd]
  refine⟨v,rfl,?_⟩
  have hrow:=over_row csR_len (J:=J) (a:=v) (k:=i) default (show i<l.length by omega)
  by_cases c:mtR v=true
  ·rw[if_neg (by rw[c]; decide)]
   refine⟨(i,j+1,l),(show l.length-(j+1)<l.length-j by omega),mid.skip hj (by rw[← hvd]; exact c),by dsimp only; rw[wI_succ h (by omega),hlen],[_],rfl,Nat.le_refl _,.inr ⟨?_,flow l⟩⟩
   intro x hx
   simp only[List.mem_cons,List.not_mem_nil,or_false] at hx
   rcases hx with rfl|rfl|rfl|rfl
   ·exact .arr _ _ _ _ (by simp)
   ·exact .fn _ _ (fun _ h=>nomatch h)
   ·exact .int _ _
   ·exact .int _ _
  ·have c':mtR v=false:=by simpa using c
   rw[if_pos (by rw[c']; decide)]
   refine⟨⟨by omega,by omega⟩,?_⟩
   rw[if_pos (by rw[decide_eq_true (by rw[List.length_append,flR_len]; omega)]; rfl)]
   have hm:=mid.keep hj (by rw[← hvd]; exact c')
   rw[← hvd] at hm
   refine⟨(i+1,j+1,l.set i v),(show l.length-(j+1)<l.length-j by omega),hm,by dsimp only; rw[wI_succ h (by omega),wI_succ (n:=ns.length) (show i<ns.length by omega) (by omega),hlen],[.cells (rrc v)],?_,Nat.le_refl _,.inr ⟨?_,flow _⟩⟩
   ·dsimp only
    rw[← hrow]; rfl
   ·intro x hx
    simp only[List.mem_cons,List.not_mem_nil,or_false] at hx
    rcases hx with rfl|rfl|rfl|rfl
    ·exact .arr _ _ _ _ (by simp)
    ·exact .fn _ _ (fun _ h=>nomatch h)
    ·exact .int _ _
    ·exact .int _ _
 ·rw[if_neg (by omega)]
  have:j=ns.length:=by omega
  subst this
  rw[hlen]
  exact hQ l i mid
theorem dlRf1_vc (l:List Rr) (J:List PV) (cap:Nat):(by refine(?_:_→_→Prop) [Ob.cells (flR l++J)] (PV.arr 0 0 l.length cap); exact fun c d=>∀(K:PV→Heap→Prop),(∃(l_1:List Rr) (J_1:List PV) (cap_1:Nat),by refine(?_:_→Prop) (↑(List.findIdx mtR l_1):Int); exact fun b=>SlIs [d,.fn 52 []] [.arr 0 0 l_1.length cap_1,.fn 52 []]∧HpIs c [.cells (flR l_1++J_1)]∧l_1.length≤1000000∧(∀(y:PV),y∈J_1→Low 0 y)∧br ((if List.findIdx mtR l_1<l_1.length then b else -1) == -1) (K (.arr 0 0 l.length cap) c) (∃(ns:List Rr) (J_2:List PV) (cap_2:Nat) (i:Nat),ns.length≤1000000∧MidRf ns ns i (i+1)∧(∀(y:PV),y∈J_2→Low 0 y)∧SlIs [d,.fn 52 [],.int .i64 (if List.findIdx mtR l_1<l_1.length then b else -1),.int .i64 (wI ((if List.findIdx mtR l_1<l_1.length then b else -1)+1))] [.arr 0 0 ns.length cap_2,.fn 52 [],.int .i64 i,.int .i64 (↑(i+1):Int)]∧HpIs c [.cells (flR ns++J_2)]∧∀(l:List Rr),∀(k:Nat),by refine(?_:_→Prop) (Int.toNat (ns.length:Int)-Int.toNat (k:Int)); exact fun a=>MidRf ns l k ns.length→(0≤(k:Int)∧(k:Int)≤(ns.length:Int)∧(ns.length:Int)≤(cap_2:Int)∧(cap_2:Int)≤(cap_2:Int))∧(if Int.toNat (cap_2:Int)=Int.toNat (k:Int) then 0 else 0+Int.toNat (k:Int)*4)+a*4≤List.length (flR l++J_2)∧(iI 0≤0∧0≤(k:Int)∧(k:Int)≤(cap_2:Int)∧(cap_2:Int)≤(cap_2:Int))∧K (.arr 0 (if Int.toNat (cap_2:Int)=0 then 0 else 0) (Int.toNat (k:Int)-0) (Int.toNat (cap_2:Int)-0)) [.cells (over (flR l++J_2) (if Int.toNat (cap_2:Int)=Int.toNat (k:Int) then 0 else 0+Int.toNat (k:Int)*4) (List.flatten (List.replicate a [.int .i64 0,.list [] .exact,.int .i64 0,.int .i64 0])))]))→ACalls Try.prog gl 51 [d,.fn 52 []] c K:Prop):=fun K h=>acalls_of_wpc2 (T:=TDRf) (L:=[([1,1,1,0,1,0],dlRf_l)]) (fun _=>0) Try.func51 (by kernel_rfl) (by kernel_rfl) (by kernel_rfl) (TDRf_ok) (.cons (sub_of (by kernel_rfl)) dlRf_l_ok (.nil _ _ _ _ _)) (holds_of_eq (by kernel_rfl) h)
def lo1_s (args:List PV) (H:Heap) (K:PV→Prop):Prop:=∃(p t:Int) (b:Nat),SlIs args [.int .u32 p,.ptr b 0]∧CeIs H b [.int .u32 t]∧K (.bool (eqT t p))
theorem lo1_ok:SpOk Try.prog gl 50 (.read lo1_s):=by
 rintro args H K ⟨p,t,b,he,hc,hk⟩
 have he:args=_:=he
 subst he
 exact⟨_,read_cell (pre:=[.int .u32 p]) gl_low hc low0_int (low_one (.int _ _)) (.bool (eqT t p)) (lo11_vc t p _ ⟨rfl,[],rfl⟩),hk⟩
def TLO:Tab:=[(50,.read lo1_s)]
theorem TLO_ok:TabOk Try.prog gl TLO:= .cons lo1_ok (.nil _ _)
theorem ifl_vc (H:Heap) (l:List Int) (b i:Nat):(by refine(?_:_→_→_→Prop) (List.getD (l.map u1) (Int.toNat (i:Int)) []) (PV.int .i64 l.length) (PV.list (l.map u1) .no); exact fun c d f=>by refine(?_:_→Prop) [PV.list (l.map u1) .no,.fn 50 [.ptr b 0],.int .i64 0,d,.int .i64 i]; exact fun a=>∀(R:Ex→List PV→Heap→Prop),(br (decide ((i:Int)<(l.length:Int))) (InL (l.map u1) 1 (i:Int)∧br (true && fitX [.int .u32] 0 c) (∃(p:Int) (t:Int) (b_1:Nat),SlIs [.int .u32 (cI c 0),.ptr b 0] [.int .u32 p,.ptr b_1 0]∧CeIs H b_1 [.int .u32 t]∧br (eqT t p) (R .ret [f,.fn 50 [.ptr b 0],.int .i64 i,d,.int .i64 i] H) (R .normal [f,.fn 50 [.ptr b 0],.int .i64 0,d,.int .i64 (wI ((i:Int)+1))] H)) False) (R (.exit 0) a H))→Holds (wpc br Try.prog gl TLO [] (fun _=>0) (subOf [1,0,1,0] (bodyOf Try.f68)) [] (envS [0,1,4,7,8] a) H (fun ex e H=>R ex (List.map e [0,1,4,7,8]) H)):Prop):=fun R h=>holds_of_eq (by kernel_rfl) h
def ifl_l:LSp:=fun e H Q=>∃(l:List Int) (b:Nat) (p:Int),l.length≤1000000∧p∉l∧SlIs (List.map e [0,1,4,7,8]) [.list (l.map u1) .no,.fn 50 [.ptr b 0],.int .i64 0,.int .i64 l.length,.int .i64 0]∧CeIs H b [.int .u32 p]∧
  Q (.exit 0) (envS [0,1,4,7,8] [.list (l.map u1) .no,.fn 50 [.ptr b 0],.int .i64 0,.int .i64 l.length,.int .i64 l.length]) H
theorem ifl_l_ok:∀ e H Q,ifl_l e H Q→AW Try.prog gl Try.f68.ntmps (.loop (subOf [1,0,1,0] (bodyOf Try.f68))) Q e H:=by
 rintro e H Q ⟨l,b,p,hl,hp,he,hb,hQ⟩
 refine aw_loop4 (hn:=fun _=>0) gl_low TLO_ok (.nil _ _ _ _ _) (σ:=Nat) [0,1,4,7,8] (fun i=>i≤l.length) (fun i=>[.list (l.map u1) .no,.fn 50 [.ptr b 0],.int .i64 0,.int .i64 l.length,.int .i64 i]) (fun _=>H) (fun i=>l.length-i) 0 (Nat.zero_le _) he rfl ?_
 intro i hi
 have hi':i≤l.length:=hi
 refine ifl_vc H l b i _ ?_
 simp only[br_if,dt,toNat_nat,inL_u1]
 by_cases h:i<l.length
 ·rw[if_pos (by omega)]
  simp only[getD_map 0 h]
  refine⟨h,?_⟩
  rw[if_pos (by rfl)]
  obtain⟨t,htd⟩:∃ t,t=l.getD i 0:=⟨_,rfl⟩
  have ct:cI (u1 (l.getD i 0)) 0=t:=htd.symm
  rw[ct]
  have hne:¬ eqT p t=true:=by
   unfold eqT; rw[beq_iff_eq]; intro e
   exact hp (by rw[← e,htd]; exact getD_mem h)
  refine⟨t,p,b,rfl,hb,?_⟩
  rw[if_neg hne]
  exact⟨i+1,(show l.length-(i+1)<l.length-i by omega),h,by rw[wI_succ h (by omega)],[],(List.append_nil _).symm,Nat.le_refl _,.inl rfl⟩
 ·rw[if_neg (by omega)]
  have:i=l.length:=by omega
  subst this
  exact hQ
theorem ifl1_vc (H:Heap) (l:List Int) (b:Nat):∀(K:PV→Heap→Prop),(∃(l_1:List Int) (b_1:Nat) (p:Int),l_1.length≤1000000∧¬p∈l_1∧SlIs [.list (l.map u1) .no,.fn 50 [.ptr b 0],.int .i64 0,.int .i64 (↑(List.length (l.map u1)):Int),.int .i64 0] [.list (l_1.map u1) .no,.fn 50 [.ptr b_1 0],.int .i64 0,.int .i64 l_1.length,.int .i64 0]∧CeIs H b_1 [.int .u32 p]∧K (.int .i64 (-1)) H)→ACalls Try.prog gl 68 [.list (l.map u1) .no,.fn 50 [.ptr b 0]] H K:=fun K h=>acalls_of_wpc2 (T:=TLO) (L:=[([1,0,1,0],ifl_l)]) (fun _=>0) Try.func68 (by kernel_rfl) (by kernel_rfl) (by kernel_rfl) (TLO_ok) (.cons (sub_of (by kernel_rfl)) ifl_l_ok (.nil _ _ _ _ _)) (holds_of_eq (by kernel_rfl) h)
def ifl_s (args:List PV) (H:Heap) (K:PV→Prop):Prop:=∃(l:List Int) (b:Nat) (p:Int),SlIs args [.list (l.map u1) .no,.fn 50 [.ptr b 0]]∧CeIs H b [.int .u32 p]∧l.length≤1000000∧p∉l∧K (.int .i64 (-1))
theorem ifl_ok:SpOk Try.prog gl 68 (.read ifl_s):=by
 rintro args H K ⟨l,b,p,he,hb,hl,hp,hk⟩
 have he:args=_:=he
 subst he
 exact⟨_,ifl1_vc H l b _ ⟨l,b,p,hl,hp,(by show _=_; simp only[List.length_map]),hb,rfl,rfl⟩,hk⟩
def TIF:Tab:=[(68,.read ifl_s)]
theorem TIF_ok:TabOk Try.prog gl TIF:= .cons ifl_ok (.nil _ _)
theorem dll1_vc (H:Heap) (l:List Int) (b:Nat):∀(K:PV→Heap→Prop),(∃(l_1:List Int) (b_1:Nat) (p:Int),SlIs [.list (l.map u1) .no,.fn 50 [.ptr b 0]] [.list (l_1.map u1) .no,.fn 50 [.ptr b_1 0]]∧CeIs H b_1 [.int .u32 p]∧l_1.length≤1000000∧¬p∈l_1∧K (.list (l.map u1) .no) H)→ACalls Try.prog gl 49 [.list (l.map u1) .no,.fn 50 [.ptr b 0]] H K:=fun K h=>acalls_of_wpc2 (T:=TIF) (L:=[([1,1,1,0,1,0],dlw_l)]) (fun _=>0) Try.func49 (by kernel_rfl) (by kernel_rfl) (by kernel_rfl) (TIF_ok) (.cons (sub_of (by kernel_rfl)) dlw_l_ok (.nil _ _ _ _ _)) (holds_of_eq (by kernel_rfl) h)
theorem fsplitR {p:Rr→Bool}:∀(l:List Rr),(l.findIdx p<l.length→l.take (l.findIdx p)=(l.take (l.findIdx p+1)).filter (fun v=> !p v))∧(l.findIdx p=l.length→l.filter (fun v=> !p v)=l)
 | []=>⟨fun h=>absurd h (by simp),fun _=>rfl⟩
 | a::l=>by
  obtain⟨h1,h2⟩:=fsplitR (p:=p) l
  by_cases c:p a=true
  ·have e:(a::l).findIdx p=0:=by rw[List.findIdx_cons,c]; rfl
   rw[e]
   exact⟨fun _=>by simp[c],fun h=>by simp at h⟩
  ·have c':p a=false:=by simpa using c
   have e:(a::l).findIdx p=l.findIdx p+1:=by rw[List.findIdx_cons,c']; rfl
   rw[e]
   refine⟨fun h=>?_,fun h=>?_⟩
   ·rw[List.take_succ_cons,List.take_succ_cons,List.filter_cons_of_pos (by simp[c']),← h1 (by simpa using h)]
   ·rw[List.filter_cons_of_pos (by simp[c']),h2 (by simpa using h)]
def zR (n:Nat):List PV:=List.flatten (List.replicate n [PV.int .i64 0,.list [] .exact,.int .i64 0,.int .i64 0])
theorem zfillR {l:List Rr} {J:List PV} {k n:Nat} (hn:l.length=n) (hk:k≤n):over (flR l++J) (k*4) (zR (n-k))=flR (l.take k)++(zR (n-k)++J):=by
 have hz:=(room_rr (n-k)).len
 have e1:flR l++J=flR (l.take k)++flR (l.drop k)++J:=by rw[← flR_app,List.take_append_drop]
 rw[over_mid e1 (by rw[flR_len,List.length_take]; omega) (by rw[flR_len,List.length_drop]; unfold zR; rw[hz]; omega),List.append_assoc]
def keepR (l:List Rr):List Rr:=l.filter fun v=> !mtR v
def delR_s (args:List PV) (H:Heap) (K:PV→Heap→Prop):Prop:=∃(l:List Rr) (J:List PV) (cap:Nat),SlIs args [.arr 0 0 l.length cap,.fn 52 []]∧HpIs H [.cells (flR l++J)]∧l.length≤1000000∧l.length≤cap∧Room J ((cap-l.length)*4)∧
  ∀(J':List PV),Room J' ((cap-(keepR l).length)*4)→K (.arr 0 0 (keepR l).length cap) [.cells (flR (keepR l)++J')]
theorem keepR_le (l:List Rr):(keepR l).length≤l.length:=List.length_filter_le _ _
theorem delR_ok:SpOk Try.prog gl 51 (.heap delR_s):=by
 rintro args H K ⟨l,J,cap,he,hH,hl,hc,hJ,hk⟩
 have he:args=_:=he
 have hH:H=_:=hH
 subst he
 subst hH
 obtain⟨s1,s2⟩:=fsplitR (p:=mtR) l
 have hfl:l.findIdx mtR≤l.length:=List.findIdx_le_length
 refine dlRf1_vc l J cap K ⟨l,J,cap,rfl,rfl,hl,hJ.low,?_⟩
 rw[br_if]
 by_cases h:l.findIdx mtR<l.length
 ·rw[if_pos h,if_neg (by rw[beq_iff_eq]; omega)]
  refine⟨l,J,cap,l.findIdx mtR,hl,⟨rfl,s1 h,rfl,by omega,h⟩,hJ.low,?_,rfl,fun l' k mid=>?_⟩
  ·show _=_
   rw[wI_succ h (by omega)]
  ·have hlen:=mid.len
   have hle:=mid.le
   have hkept:=mid.kept
   rw[List.take_length] at hkept
   have hnum:=mid.num
   rw[List.take_length] at hnum
   simp only[toNat_nat,Nat.sub_zero,Nat.zero_add,ite_self]
   have hif:(if cap=k then 0 else k*4)+(l.length-k)*4≤(flR l'++J).length:=by
    rw[List.length_append,flR_len,hJ.len]; split<;>omega
   have hov:over (flR l'++J) (if cap=k then 0 else k*4) (zR (l.length-k))=flR (l'.take k)++(zR (l.length-k)++J):=by
    split
    ·have e:l.length-k=0:=by omega
     rw[e,show zR 0=[] from rfl,over_nil,List.take_of_length_le (by omega),List.nil_append]
    ·exact zfillR hlen hle
   refine⟨⟨by omega,by omega,by omega,by omega⟩,hif,⟨by decide,by omega,by omega,by omega⟩,?_⟩
   have hov:over (flR l'++J) (if cap=k then 0 else k*4) (List.flatten (List.replicate (l.length-k) [PV.int .i64 0,.list [] .exact,.int .i64 0,.int .i64 0]))=flR (l'.take k)++(zR (l.length-k)++J):=hov
   rw[hov,hkept,hnum]
   refine hk _ (((room_rr _).app hJ).cast ?_)
   have:(List.filter (fun v=> !mtR v) l).length=(keepR l).length:=rfl
   have:=keepR_le l
   omega
 ·rw[if_neg h,if_pos (by rfl)]
  have e:keepR l=l:=s2 (by omega)
  rw[e] at hk
  exact hk J hJ
def delRH_s (args:List PV) (H:Heap) (K:PV→Heap→Prop):Prop:=∃(o:Nat) (l:List Rr) (J:List PV) (cap:Nat),SlIs args [.arr o 0 l.length cap,.fn 52 []]∧CeIs H o (flR l++J)∧l.length≤1000000∧l.length≤cap∧Room J ((cap-l.length)*4)∧
  ∀(J':List PV),Room J' ((cap-(keepR l).length)*4)→K (.arr o 0 (keepR l).length cap) (H.set o (.cells (flR (keepR l)++J')))
theorem flR_lowJ {n:Nat} (l:List Rr) {J:List PV} (h:∀ y∈J,Low n y):∀ y∈flR l++J,Low n y:=low_flat (fun a _=>low_rrc a) h
theorem delRH_ok:SpOk Try.prog gl 51 (.heap delRH_s):=by
 rintro args H K ⟨o,l,J,cap,he,hc,hl,hcap,hJ,hk⟩
 have he:args=_:=he
 subst he
 refine row_heap gl_low hc (flR_lowJ l hJ.low) (.cons (.arr (ρ:=fun _=>o) 0 0 l.length cap (by decide)) (.cons (.low (.fn _ _ (fun _ h=>nomatch h))) .nil)) ?_
 exact delR_ok _ _ _ ⟨l,J,cap,rfl,rfl,hl,hcap,hJ,fun J' hJ'=> .inl ⟨_,_,rfl,flR_lowJ _ hJ'.low,.arr (ρ:=ρcell o H.length) 0 0 _ _ (by decide),hk J' hJ'⟩⟩
def dropP (l:List Int) (p:Int):List Int:=l.filter fun v=> !eqT p v
theorem dropP_le (l:List Int) (p:Int):(dropP l p).length≤l.length:=List.length_filter_le _ _
theorem fl_u1low {n:Nat} (l:List Int) {J:List PV} (h:∀ y∈J,Low n y):∀ y∈(l.map u1).flatten++J,Low n y:=low_flat (fun a _=>low_u1 a) h
def zU (n:Nat):List PV:=List.flatten (List.replicate n [PV.int .u32 0])
def delP_s (args:List PV) (H:Heap) (K:PV→Heap→Prop):Prop:=
 (∃(o b:Nat) (l:List Int) (J:List PV) (cap:Nat) (p:Int),SlIs args [.arr o 0 l.length cap,.fn 50 [.ptr b 0]]∧CeIs H o ((l.map u1).flatten++J)∧CeIs H b [.int .u32 p]∧b≠o∧l.length≤1000000∧l.length≤cap∧Room J (cap-l.length)∧
  K (.arr o 0 (dropP l p).length cap) (H.set o (.cells (((dropP l p).map u1).flatten++(zU (l.length-(dropP l p).length)++J)))))∨
 (∃(l:List Int) (b:Nat) (p:Int),SlIs args [.list (l.map u1) .no,.fn 50 [.ptr b 0]]∧CeIs H b [.int .u32 p]∧l.length≤1000000∧p∉l∧K (.list (l.map u1) .no) H)
theorem delP_ok:SpOk Try.prog gl 49 (.heap delP_s):=by
 rintro args H K (⟨o,b,l,J,cap,p,he,ho,hb,hob,hl,hc,hJ,hk⟩|⟨l,b,p,he,hb,hl,hp,hk⟩)
 ·have he:args=_:=he
  subst he
  have hol:=(List.getElem?_eq_some_iff.1 ho).1
  have hbl:=(List.getElem?_eq_some_iff.1 hb).1
  let ρ:Nat→Nat:=fun k=>if k=0 then b else o
  have hsub:Sub ρ [.cells [.int .u32 p],.cells ((l.map u1).flatten++J)] H:=by
   refine⟨fun k _=>by show(if _ then _ else _)<_; split<;>assumption,fun x y hx hy e=>?_,fun k a hk=>?_⟩
   ·simp at hx hy
    have e:(if x=0 then b else o)=(if y=0 then b else o):=e
    split at e<;>split at e<;>first|omega|(exact absurd e hob)|(exact absurd e.symm hob)
   ·have k1:=(List.getElem?_eq_some_iff.1 hk).1
    simp at k1
    have:k=0∨k=1:=by omega
    rcases this with rfl|rfl
    ·cases hk; exact⟨_,hb,.cells (RenL.low low0_int)⟩
    ·cases hk; exact⟨_,ho,.cells (RenL.low (fl_u1low l hJ.low))⟩
  refine acalls_frame (args0:=[.arr 1 0 l.length cap,.fn 50 [.ptr 0 0]]) gl_low hsub (.cons (.arr (ρ:=ρ) 1 0 l.length cap (by simp)) (.cons (.fn 50 [.ptr 0 0] [.ptr b 0] rfl (fun q x y hx hy=>?_)) .nil)) (delwD_ok _ _ _ (.inl ⟨p,l,J,cap,rfl,rfl,hl,hc,hJ,low_one (.int _ _),?_⟩))
  ·have k1:=(List.getElem?_eq_some_iff.1 hx).1
   simp at k1
   subst k1
   cases hx; cases hy
   exact .ptr (ρ:=ρ) 0 0 (by simp)
  ·have hJ':Room (zU (l.length-(dropP l p).length)++J) (cap-(dropP l p).length):=((zeros_u32 _).app hJ).cast (by have:=dropP_le l p; omega)
   have e2:∀ k,k<2→ρext ρ 2 H.length k=ρ k:=fun k hk=>by unfold ρext; rw[if_pos hk]
   refine⟨.arr o 0 (dropP l p).length cap,H.set o (.cells (((dropP l p).map u1).flatten++(zU (l.length-(dropP l p).length)++J))),⟨Nat.le_refl _,by simp,fun k a hk=>?_,fun k h1 h2=>?_⟩,?_,hk⟩
   ·have k1:=(List.getElem?_eq_some_iff.1 hk).1
    simp at k1
    have:k=0∨k=1:=by omega
    rcases this with rfl|rfl
    ·cases hk
     refine⟨.cells [.int .u32 p],?_,.cells (RenL.low low0_int),fun _=>rfl⟩
     show(H.set o _)[ρext ρ 2 H.length 0]?=_
     rw[e2 0 (by decide)]
     show(H.set o _)[b]?=_
     rw[List.getElem?_set_ne (Ne.symm hob)]; exact hb
    ·cases hk
     refine⟨.cells (((dropP l p).map u1).flatten++(zU (l.length-(dropP l p).length)++J)),?_,.cells (RenL.low (fl_u1low _ hJ'.low)),fun _=>rfl⟩
     show(H.set o _)[ρext ρ 2 H.length 1]?=_
     rw[e2 1 (by decide)]
     show(H.set o _)[o]?=_
     rw[List.getElem?_set_self hol]
   ·have h3:o≠k:=h2 1 (by simp)
    rw[List.getElem?_set_ne h3]
   ·have:=Ren.arr (ρ:=ρext ρ 2 H.length) (n:=2) 1 0 (dropP l p).length cap (by decide)
    rw[e2 1 (by decide)] at this
    exact this
 ·have he:args=_:=he
  subst he
  exact dll1_vc H l b _ ⟨l,b,p,rfl,hb,hl,hp,hk⟩
end Go.Proofs.Ytenaelaapdhbdaa
