/-
  End.
-/
import Derived.Test.YtenaelaapdhbdaaSp
import Derived.Test.YtenaelaapdhbdaaProg
namespace Go.Proofs.Ytenaelaapdhbdaa
open Go Go.AM Go.Proofs
def tmaL_s (args:List PV) (H:Heap) (K:PV→Heap→Prop):Prop:=∃(q r:Nat) (w:List Mt) (m t:Int),SlIs args [.ptr q 0,.int .u32 t]∧BkIs H q r (rkM (rowsM w) m)∧MO w m∧
 (hasG Mt.id w t=false→K (.tup [MtAg mt0 (.list [] .exact) (.list [] .exact),.bool false]) (H++[.dead]))∧
 (hasG Mt.id w t=true→(gM w t).seats≠[]∧∃ j,j<(gM w t).rows.length∧((gM w t).rows.getD j default).pl≠[]∧
  ∀(cs:Nat) (J:List PV) (cap:Nat) (J2:List PV),(gM w t).seats.length≤cs→Room J ((cs-(gM w t).seats.length)*6)→((gM w t).rows.getD j default).pl.length≤cap→Room J2 (cap-((gM w t).rows.getD j default).pl.length)→
   K (.tup [MtAg (gM w t) (.arr (H.length+1) 0 (gM w t).rows.length (gM w t).rows.length) (.arr H.length 0 (gM w t).seats.length cs),.bool true]) (H++[.cells (flS (gM w t).seats++J),.cells (rsJ (H.length+2) j cap (gM w t).rows).flatten,.cells ((((gM w t).rows.getD j default).pl.map u1).flatten++J2)]))
theorem tmaL_ok:SpOk Try.prog gl 14 (.heap tmaL_s):=by
 rintro args H K ⟨q,r,w,m,t,he,hb,ro,h0,h1⟩
 cases c:hasG Mt.id w t with
 | false=>exact tmaS_ok _ _ _ ⟨q,r,w,m,t,he,hb,ro,h0,fun h=>by rw[c] at h; cases h⟩
 | true=>
  obtain⟨hn,j,hj,hne,hk⟩:=h1 c
  refine tmaJ_ok _ _ _ ⟨q,r,w,m,t,j,he,hb,ro,hj,hne,fun y g cap pj hA hp=>?_⟩
  rw[c]
  rcases hA with⟨hn',_⟩|⟨_,cs,J,rfl,rfl,hc,hJ⟩
  ·exact absurd hn' hn
  ·obtain⟨h2,J2,rfl,hJ2⟩:=hp
   exact hk cs J cap J2 hc hJ h2 hJ2
def delP5_s (args:List PV) (H:Heap) (K:PV→Heap→Prop):Prop:=∃(l:List Int) (J:List PV) (cap:Nat) (p:Int),SlIs args [.arr 5 0 l.length cap,.fn 50 [.ptr 2 0]]∧CeIs H 5 ((l.map u1).flatten++J)∧CeIs H 2 [.int .u32 p]∧l.length≤1000000∧l.length≤cap∧Room J (cap-l.length)∧
  K (.arr 5 0 (dropP l p).length cap) (H.set 5 (.cells (((dropP l p).map u1).flatten++(zU (l.length-(dropP l p).length)++J))))
def delPl_s (args:List PV) (H:Heap) (K:PV→Heap→Prop):Prop:=∃(l:List Int) (p:Int),SlIs args [.list (l.map u1) .no,.fn 50 [.ptr 2 0]]∧CeIs H 2 [.int .u32 p]∧l.length≤1000000∧p∉l∧K (.list (l.map u1) .no) H
def delPx_s (args:List PV) (H:Heap) (K:PV→Heap→Prop):Prop:=delP5_s args H K∨delPl_s args H K
theorem delPx_ok:SpOk Try.prog gl 49 (.chg delPx_s):=by
 rintro args H K (⟨l,J,cap,p,he,ho,hb,hl,hc,hJ,hk⟩|⟨l,p,he,hb,hl,hp,hk⟩)
 ·exact⟨_,_,delP_ok _ _ (fun x H1=>x=_∧H1=_) (.inl ⟨5,2,l,J,cap,p,he,ho,hb,by decide,hl,hc,hJ,⟨rfl,rfl⟩⟩),hk⟩
 ·exact⟨_,_,delP_ok _ _ (fun x H1=>x=_∧H1=_) (.inr ⟨l,2,p,he,hb,hl,hp,⟨rfl,rfl⟩⟩),hk⟩
def delR4_s (args:List PV) (H:Heap) (K:PV→Heap→Prop):Prop:=∃(l:List Rr) (J:List PV) (cap:Nat),SlIs args [.arr 4 0 l.length cap,.fn 52 []]∧CeIs H 4 (flR l++J)∧l.length≤1000000∧l.length≤cap∧Room J ((cap-l.length)*4)∧
  ∀(J':List PV),Room J' ((cap-(keepR l).length)*4)→K (.arr 4 0 (keepR l).length cap) (H.set 4 (.cells (flR (keepR l)++J')))
theorem delR4_ok:SpOk Try.prog gl 51 (.heap delR4_s):=fun _ _ _ ⟨l,J,cap,he,hc,hl,hcap,hJ,hk⟩=>delRH_ok _ _ _ ⟨4,l,J,cap,he,hc,hl,hcap,hJ,hk⟩
def TLS:Tab:=[(12,.read tof_s),(14,.heap tmaL_s),(38,.read at_s),(48,.heap delH_s),(49,.chg delPx_s),(51,.heap delR4_s),(53,.chg putM_s)]
theorem TLS_ok:TabOk Try.prog gl TLS:= .cons tof_ok (.cons tmaL_ok (.cons at_ok (.cons delH_ok (.cons delPx_ok (.cons delR4_ok (.cons putCM_ok (.nil _ _)))))))
theorem ls9A_vc (w:List Mt) (m p:Int) (c:Mt) (sg rc pj:List PV) (n s cs k:Nat):(by refine(?_:_→_→_→_→_→_→Prop) (Ob.cells [.int .u32 c.id,.int .i64 c.md,.int .u32 c.ins,.arr 4 0 n n,.arr 3 0 s cs]) (0+Int.toNat (k:Int)*4+1) (opsOf (atOf [1,1,1,1,1,0,1,0,0,1,1,0,0,1] (bodyOf Try.f27))) [PV.ptr 0 0,.ptr 2 0,.ptr 6 0,.int .i64 n,.int .i64 k] (Ob.abs (rkM (rowsM w) m)) (Ob.cells [.int .u32 p]); exact fun b d f g h i=>by refine(?_:_→Prop) [Ob.cells [.ptr 1 0],h,i,.cells sg,.cells rc,.cells pj,b]; exact fun a=>∀(R:List PV→Heap→Prop),((0≤(k:Int)∧(k:Int)<(n:Int))∧br (Nat.blt 0 (List.length (List.drop d rc))) (∀(x:PV),x=cR (List.drop d rc) 0→(∃(l:List Int) (J:List PV) (cap:Nat) (p_1:Int),SlIs [x,.fn 50 [.ptr 2 0]] [.arr 5 0 l.length cap,.fn 50 [.ptr 2 0]]∧CeIs a 5 (List.flatten (l.map u1)++J)∧CeIs a 2 [.int .u32 p_1]∧l.length≤1000000∧l.length≤cap∧Room J (cap-l.length)∧(0≤(k:Int)∧(k:Int)<(n:Int))∧br (1 == 1 && List.all [.arr 5 0 (List.length (dropP l p_1)) cap] PV.one && decide (0+Int.toNat (k:Int)*4+1+1≤rc.length) && hintOk 0 4 d 1) (R g [.cells [.ptr 1 0],h,i,.cells sg,.cells (over rc d [.arr 5 0 (List.length (dropP l p_1)) cap]),.cells (List.flatten (List.map u1 (dropP l p_1))++(zU (l.length-List.length (dropP l p_1))++J)),b]) False)∨∃(l:List Int) (p_1:Int),SlIs [x,.fn 50 [.ptr 2 0]] [.list (l.map u1) .no,.fn 50 [.ptr 2 0]]∧CeIs a 2 [.int .u32 p_1]∧l.length≤1000000∧¬p_1∈l∧(0≤(k:Int)∧(k:Int)<(n:Int))∧br (1 == 1 && List.all [.list (l.map u1) .no] PV.one && decide (0+Int.toNat (k:Int)*4+1+1≤rc.length) && hintOk 0 4 d 1) (R g [.cells [.ptr 1 0],h,i,.cells sg,.cells (over rc d [.list (l.map u1) .no]),.cells pj,b]) False) False)→Holds (regc br Try.prog gl TLS (fun o=>match o.dst with|some 38=>1|some 41=>1|some 45=>901|some 47=>7|_=>0) true f (inOrder f [0,1,2,3,4,5,6,7,8,9,10,11,12,13]) (envS [0,3,7,33,34,10] [.ptr 0 0,.ptr 2 0,.ptr 6 0,.int .i64 n,.int .i64 k,.int .i64 k]) a (fun e H=>R (List.map e [0,3,7,33,34]) H)):Prop):=fun R h=>holds_of_eq (by kernel_rfl) h
theorem ls9B_vc (w:List Mt) (m p:Int) (c:Mt) (sg rc pj:List PV) (n s cs k:Nat):(by refine(?_:_→_→_→_→_→_→Prop) (Ob.cells [.int .u32 c.id,.int .i64 c.md,.int .u32 c.ins,.arr 4 0 n n,.arr 3 0 s cs]) (0+Int.toNat (k:Int)*4+1) (opsOf (atOf [1,1,1,1,1,0,1,0,0,1,1,0,0,1] (bodyOf Try.f27))) [PV.ptr 0 0,.ptr 2 0,.ptr 6 0,.int .i64 n,.int .i64 k] (Ob.abs (rkM (rowsM w) m)) (Ob.cells [.int .u32 p]); exact fun b d f g h i=>by refine(?_:_→Prop) [Ob.cells [.ptr 1 0],h,i,.cells sg,.cells rc,.cells pj,b]; exact fun a=>∀(R:List PV→Heap→Prop),((0≤(k:Int)∧(k:Int)<(n:Int))∧br (Nat.blt 0 (List.length (List.drop d rc))) (∀(x:PV),x=cR (List.drop d rc) 0→(∃(l:List Int) (J:List PV) (cap:Nat) (p_1:Int),SlIs [x,.fn 50 [.ptr 2 0]] [.arr 5 0 l.length cap,.fn 50 [.ptr 2 0]]∧CeIs a 5 (List.flatten (l.map u1)++J)∧CeIs a 2 [.int .u32 p_1]∧l.length≤1000000∧l.length≤cap∧Room J (cap-l.length)∧(0≤(k:Int)∧(k:Int)<(n:Int))∧br (1 == 1 && List.all [.arr 5 0 (List.length (dropP l p_1)) cap] PV.one && decide (0+Int.toNat (k:Int)*4+1+1≤rc.length) && hintOk 0 4 d 1) (R g [.cells [.ptr 1 0],h,i,.cells sg,.cells (over rc d [.arr 5 0 (List.length (dropP l p_1)) cap]),.cells (List.flatten (List.map u1 (dropP l p_1))++(zU (l.length-List.length (dropP l p_1))++J)),b]) False)∨∃(l:List Int) (p_1:Int),SlIs [x,.fn 50 [.ptr 2 0]] [.list (l.map u1) .no,.fn 50 [.ptr 2 0]]∧CeIs a 2 [.int .u32 p_1]∧l.length≤1000000∧¬p_1∈l∧(0≤(k:Int)∧(k:Int)<(n:Int))∧br (1 == 1 && List.all [.list (l.map u1) .no] PV.one && decide (0+Int.toNat (k:Int)*4+1+1≤rc.length) && hintOk 0 4 d 1) (R g [.cells [.ptr 1 0],h,i,.cells sg,.cells (over rc d [.list (l.map u1) .no]),.cells pj,b]) False) False)→Holds (regc br Try.prog gl TLS (fun o=>match o.dst with|some 38=>1|some 41=>1|some 45=>901|some 47=>7|_=>0) true f (inOrder f [0,2,3,4,5,6,7,8,9,10,1,11,12,13]) (envS [0,3,7,33,34,10] [.ptr 0 0,.ptr 2 0,.ptr 6 0,.int .i64 n,.int .i64 k,.int .i64 k]) a (fun e H=>R (List.map e [0,3,7,33,34]) H)):Prop):=fun R h=>holds_of_eq (by kernel_rfl) h
def ls9_l:LSp:=fun e H Q=>∃(w:List Mt) (m p:Int) (c:Mt) (sg rc pj:List PV) (n s cs k:Nat),k<n∧SlIs (List.map e [0,3,7,33,34,10]) [.ptr 0 0,.ptr 2 0,.ptr 6 0,.int .i64 n,.int .i64 k,.int .i64 k]∧HpIs H [.cells [.ptr 1 0],.abs (rkM (rowsM w) m),.cells [.int .u32 p],.cells sg,.cells rc,.cells pj,.cells [.int .u32 c.id,.int .i64 c.md,.int .u32 c.ins,.arr 4 0 n n,.arr 3 0 s cs]]∧0+k*4+1+1≤rc.length∧Nat.blt 0 (List.drop (0+k*4+1) rc).length=true∧
 ((∃(l:List Int) (J:List PV) (cap:Nat),cR (List.drop (0+k*4+1) rc) 0 = .arr 5 0 l.length cap∧pj=(l.map u1).flatten++J∧l.length≤1000000∧l.length≤cap∧Room J (cap-l.length)∧Q .normal (envS [0,3,7,33,34] [.ptr 0 0,.ptr 2 0,.ptr 6 0,.int .i64 n,.int .i64 k]) [.cells [.ptr 1 0],.abs (rkM (rowsM w) m),.cells [.int .u32 p],.cells sg,.cells (over rc (0+k*4+1) [.arr 5 0 (dropP l p).length cap]),.cells (((dropP l p).map u1).flatten++(zU (l.length-(dropP l p).length)++J)),.cells [.int .u32 c.id,.int .i64 c.md,.int .u32 c.ins,.arr 4 0 n n,.arr 3 0 s cs]])∨
  (∃(l:List Int),cR (List.drop (0+k*4+1) rc) 0 = .list (l.map u1) .no∧l.length≤1000000∧p∉l∧Q .normal (envS [0,3,7,33,34] [.ptr 0 0,.ptr 2 0,.ptr 6 0,.int .i64 n,.int .i64 k]) [.cells [.ptr 1 0],.abs (rkM (rowsM w) m),.cells [.int .u32 p],.cells sg,.cells (over rc (0+k*4+1) [.list (l.map u1) .no]),.cells pj,.cells [.int .u32 c.id,.int .i64 c.md,.int .u32 c.ins,.arr 4 0 n n,.arr 3 0 s cs]]))
theorem ls9_l_ok:∀ e H Q,ls9_l e H Q→AW Try.prog gl Try.f27.ntmps (atOf [1,1,1,1,1,0,1,0,0,1,1,0,0,1] (bodyOf Try.f27)) Q e H:=by
 rintro e H Q ⟨w,m,p,c,sg,rc,pj,n,s,cs,k,hk,he,hH,hlen,hbl,hQ⟩
 have hin:(0:Int)≤(k:Int)∧(k:Int)<(n:Int):=⟨by omega,by omega⟩
 refine aw_orders (outs:=[0,3,7,33,34]) (hn:=fun o=>match o.dst with|some 38=>1|some 41=>1|some 45=>901|some 47=>7|_=>0) TLS_ok 1 10 [0,1,2,3,4,5,6,7,8,9,10,11,12,13] [0,2,3,4,5,6,7,8,9,10,1,11,12,13] (by kernel_rfl) (by kernel_rfl) he hH ?_ ?_
 ·refine ls9A_vc w m p c sg rc pj n s cs k (fun vs H'=>Q .normal (envS [0,3,7,33,34] vs) H') ?_
  simp only[br_if,toNat_nat]
  refine⟨hin,?_⟩
  rw[if_pos hbl]
  intro x hx
  rcases hQ with⟨l,J,cap,e1,e2,e3,e4,e5,hQ⟩|⟨l,e1,e3,e4,hQ⟩
  ·rw[e1] at hx
   subst hx; subst e2
   refine .inl ⟨l,J,cap,p,rfl,rfl,rfl,e3,e4,e5,hin,?_⟩
   rw[if_pos (by rw[decide_eq_true hlen]; rfl)]
   exact hQ
  ·rw[e1] at hx
   subst hx
   refine .inr ⟨l,p,rfl,rfl,e3,e4,hin,?_⟩
   rw[if_pos (by rw[decide_eq_true hlen]; rfl)]
   exact hQ
 ·refine ls9B_vc w m p c sg rc pj n s cs k (fun vs H'=>Q .normal (envS [0,3,7,33,34] vs) H') ?_
  simp only[br_if,toNat_nat]
  refine⟨hin,?_⟩
  rw[if_pos hbl]
  intro x hx
  rcases hQ with⟨l,J,cap,e1,e2,e3,e4,e5,hQ⟩|⟨l,e1,e3,e4,hQ⟩
  ·rw[e1] at hx
   subst hx; subst e2
   refine .inl ⟨l,J,cap,p,rfl,rfl,rfl,e3,e4,e5,hin,?_⟩
   rw[if_pos (by rw[decide_eq_true hlen]; rfl)]
   exact hQ
  ·rw[e1] at hx
   subst hx
   refine .inr ⟨l,p,rfl,rfl,e3,e4,hin,?_⟩
   rw[if_pos (by rw[decide_eq_true hlen]; rfl)]
   exact hQ
theorem ls9_l_ok2:∀ e H Q,ls9_l e H Q→AW Try.prog gl Try.f27.ntmps (atOf [1,1,0,0,1] (subOf [1,1,1,1,1,0,1,0] (bodyOf Try.f27))) Q e H:=by
 rw[show atOf [1,1,0,0,1] (subOf [1,1,1,1,1,0,1,0] (bodyOf Try.f27))=atOf [1,1,1,1,1,0,1,0,0,1,1,0,0,1] (bodyOf Try.f27) from by kernel_rfl]; exact ls9_l_ok
theorem lsl_vc (w:List Mt) (m p:Int) (c:Mt) (sg rc pj:List PV) (n s cs k:Nat):(by refine(?_:_→_→Prop) [Ob.cells [.ptr 1 0],.abs (rkM (rowsM w) m),.cells [.int .u32 p],.cells sg,.cells rc,.cells pj,.cells [.int .u32 c.id,.int .i64 c.md,.int .u32 c.ins,.arr 4 0 n n,.arr 3 0 s cs]] [PV.ptr 0 0,.ptr 2 0,.ptr 6 0,.int .i64 n,.int .i64 k]; exact fun h i=>∀(R:Ex→List PV→Heap→Prop),(br (decide ((k:Int)<(n:Int))) (∃(w_1:List Mt) (m_1:Int) (p_1:Int) (c_1:Mt) (sg_1:List PV) (rc_1:List PV) (pj_1:List PV) (n_1:Nat) (s_1:Nat) (cs_1:Nat) (k_1:Nat),by refine(?_:_→_→_→_→_→Prop) (Ob.cells [.int .u32 c_1.id,.int .i64 c_1.md,.int .u32 c_1.ins,.arr 4 0 n_1 n_1,.arr 3 0 s_1 cs_1]) [PV.ptr 0 0,.ptr 2 0,.ptr 6 0,.int .i64 n_1,.int .i64 (wI ((k_1:Int)+1))] (List.drop (0+k_1*4+1) rc_1) (Ob.abs (rkM (rowsM w_1) m_1)) (Ob.cells [.int .u32 p_1]); exact fun a b d f g=>k_1<n_1∧SlIs [.ptr 0 0,.ptr 2 0,.ptr 6 0,.int .i64 n,.int .i64 k,.int .i64 k] [.ptr 0 0,.ptr 2 0,.ptr 6 0,.int .i64 n_1,.int .i64 k_1,.int .i64 k_1]∧HpIs h [.cells [.ptr 1 0],f,g,.cells sg_1,.cells rc_1,.cells pj_1,a]∧0+k_1*4+1+1≤rc_1.length∧Nat.blt 0 (List.length d)=true∧((∃(l:List Int) (J:List PV) (cap:Nat),cR d 0 = .arr 5 0 l.length cap∧pj_1=List.flatten (l.map u1)++J∧l.length≤1000000∧l.length≤cap∧Room J (cap-l.length)∧R .normal b [.cells [.ptr 1 0],f,g,.cells sg_1,.cells (over rc_1 (0+k_1*4+1) [.arr 5 0 (List.length (dropP l p_1)) cap]),.cells (List.flatten (List.map u1 (dropP l p_1))++(zU (l.length-List.length (dropP l p_1))++J)),a])∨∃(l:List Int),cR d 0 = .list (l.map u1) .no∧l.length≤1000000∧¬p_1∈l∧R .normal b [.cells [.ptr 1 0],f,g,.cells sg_1,.cells (over rc_1 (0+k_1*4+1) [.list (l.map u1) .no]),.cells pj_1,a])) (R (.exit 0) i h))→Holds (wpc br Try.prog gl TLS [([1,1,0,0,1],ls9_l)] (fun _=>0) (subOf [1,1,1,1,1,0,1,0] (bodyOf Try.f27)) [] (envS [0,3,7,33,34] i) h (fun ex e H=>R ex (List.map e [0,3,7,33,34]) H)):Prop):=fun R h=>holds_of_eq (by kernel_rfl) h
theorem set_same' {α:Type} {l:List α} {k:Nat} {a:α} (h:l[k]?=some a):l.set k a=l:=by
 apply List.ext_getElem?
 intro i
 rw[List.getElem?_set]
 by_cases c:k=i
 ·subst c
  rw[if_pos rfl,if_pos (List.getElem?_eq_some_iff.1 h).1,h]
 ·rw[if_neg c]
theorem fl_at {E:List (List PV)} {z:Nat} (hu:uni z E) {k:Nat} (h:k<E.length):E.flatten=(E.take k).flatten++(E.getD k []++(E.drop (k+1)).flatten)∧(E.take k).flatten.length=k*z:=by
 refine⟨?_,by rw[uni_flat (uni_take hu _),List.length_take,Nat.min_eq_left (by omega)]⟩
 conv=>lhs; rw[← List.take_append_drop k E,List.flatten_append,List.drop_eq_getElem_cons h,List.flatten_cons]
 rw[List.getD_eq_getElem?_getD,List.getElem?_eq_getElem h]; rfl
theorem fl_cell {E:List (List PV)} (hu:uni 4 E) {k:Nat} (h:k<E.length) {a b c d:PV} (he:E.getD k []=[a,b,c,d]):cR (List.drop (0+k*4+1) E.flatten) 0=b∧Nat.blt 0 (List.drop (0+k*4+1) E.flatten).length=true:=by
 obtain⟨h1,h2⟩:=fl_at hu h
 rw[h1,he,Nat.zero_add,List.drop_append,List.drop_of_length_le (by omega),List.nil_append,h2,show k*4+1-k*4=1 by omega]
 exact⟨rfl,rfl⟩
theorem fl_over {E:List (List PV)} (hu:uni 4 E) {k:Nat} (h:k<E.length) {a b c d:PV} (he:E.getD k []=[a,b,c,d]) (x:PV):over E.flatten (0+k*4+1) [x]=(E.set k [a,x,c,d]).flatten:=by
 obtain⟨h1,h2⟩:=fl_at hu h
 have hu2:uni 4 (E.set k [a,x,c,d]):=uni_set hu rfl
 have hl2:k<(E.set k [a,x,c,d]).length:=by rw[List.length_set]; exact h
 obtain⟨h3,_⟩:=fl_at hu2 hl2
 have e2:(E.set k [a,x,c,d]).getD k []=[a,x,c,d]:=by rw[List.getD_eq_getElem?_getD,List.getElem?_set_self h]; rfl
 rw[h3,e2,List.take_set_of_le (Nat.le_refl _),List.drop_set_of_lt (by omega),h1,he,Nat.zero_add]
 rw[over_mid (A:=(E.take k).flatten++[a]) (X:=[b]) (Y:=[x]) (B:=[c,d]++(E.drop (k+1)).flatten) (by simp) (by simp[h2]) rfl]
 simp
def rowsE (l:List Rr) (j cap:Nat) (r:Rr):List (List PV):=(l.map rrc).set j (rwA 5 cap r)
theorem rowsE_uni (l:List Rr) (j cap:Nat) (r:Rr):uni 4 (rowsE l j cap r):=uni_set (uni_map rrc_len _) rfl
theorem rowsE_len (l:List Rr) (j cap:Nat) (r:Rr):(rowsE l j cap r).length=l.length:=by unfold rowsE; rw[List.length_set,List.length_map]
theorem rowsE_self {l:List Rr} {j:Nat} (h:j<l.length) (cap:Nat) (r:Rr):(rowsE l j cap r).getD j []=rwA 5 cap r:=by
 unfold rowsE; rw[List.getD_eq_getElem?_getD,List.getElem?_set_self (by rw[List.length_map]; exact h)]; rfl
theorem rowsE_ne {l:List Rr} {j k:Nat} (h:k<l.length) (hne:j≠k) (cap:Nat) (r:Rr):(rowsE l j cap r).getD k []=rrc (l.getD k default):=by
 unfold rowsE; rw[List.getD_eq_getElem?_getD,List.getElem?_set_ne hne,← List.getD_eq_getElem?_getD,getD_map default h]
def lessR (r:Rr) (p:Int):Rr:=⟨r.tm,dropP r.pl p,r.rt,r.wd⟩
def lsl_l:LSp:=fun e H Q=>∃(w:List Mt) (m p:Int) (c:Mt) (sg J2:List PV) (s cs cap j:Nat),c.rows.length≤1000000∧(∀ r∈c.rows,r.pl.length≤1000000)∧j<c.rows.length∧(∀ k,k<c.rows.length→k≠j→p∉(c.rows.getD k default).pl)∧(c.rows.getD j default).pl.length≤cap∧Room J2 (cap-(c.rows.getD j default).pl.length)∧
 SlIs (List.map e [0,3,7,33,34]) [.ptr 0 0,.ptr 2 0,.ptr 6 0,.int .i64 c.rows.length,.int .i64 0]∧HpIs H [.cells [.ptr 1 0],.abs (rkM (rowsM w) m),.cells [.int .u32 p],.cells sg,.cells (rowsE c.rows j cap (c.rows.getD j default)).flatten,.cells (((c.rows.getD j default).pl.map u1).flatten++J2),.cells [.int .u32 c.id,.int .i64 c.md,.int .u32 c.ins,.arr 4 0 c.rows.length c.rows.length,.arr 3 0 s cs]]∧∀ J',Room J' (cap-(dropP (c.rows.getD j default).pl p).length)→Q (.exit 0) (envS [0,3,7,33,34] [.ptr 0 0,.ptr 2 0,.ptr 6 0,.int .i64 c.rows.length,.int .i64 c.rows.length]) [.cells [.ptr 1 0],.abs (rkM (rowsM w) m),.cells [.int .u32 p],.cells sg,.cells (rowsE c.rows j cap (lessR (c.rows.getD j default) p)).flatten,.cells (((dropP (c.rows.getD j default).pl p).map u1).flatten++J'),.cells [.int .u32 c.id,.int .i64 c.md,.int .u32 c.ins,.arr 4 0 c.rows.length c.rows.length,.arr 3 0 s cs]]
theorem lsl_l_ok:∀ e H Q,lsl_l e H Q→AW Try.prog gl Try.f27.ntmps (.loop (subOf [1,1,1,1,1,0,1,0] (bodyOf Try.f27))) Q e H:=by
 rintro e H Q ⟨w,m,p,c,sg,J2,s,cs,cap,j,hn,hpl,hj,hp,hcap,hJ,he,hH,hQ⟩
 obtain⟨rj,hrj⟩:∃ rj,rj=c.rows.getD j default:=⟨_,rfl⟩
 simp only[← hrj] at hcap hJ hH hQ
 refine aw_loop4 (hn:=fun _=>0) gl_low TLS_ok (.cons (at_of (by kernel_rfl)) ls9_l_ok2 (.nil _ _ _ _ _)) (σ:=Nat×List PV) [0,3,7,33,34] (fun t=>t.1≤c.rows.length∧(j<t.1→Room t.2 (cap-(dropP rj.pl p).length)))
  (fun t=>[.ptr 0 0,.ptr 2 0,.ptr 6 0,.int .i64 c.rows.length,.int .i64 t.1]) (fun t=>if t.1≤j then [.cells [.ptr 1 0],.abs (rkM (rowsM w) m),.cells [.int .u32 p],.cells sg,.cells (rowsE c.rows j cap rj).flatten,.cells ((rj.pl.map u1).flatten++J2),.cells [.int .u32 c.id,.int .i64 c.md,.int .u32 c.ins,.arr 4 0 c.rows.length c.rows.length,.arr 3 0 s cs]] else [.cells [.ptr 1 0],.abs (rkM (rowsM w) m),.cells [.int .u32 p],.cells sg,.cells (rowsE c.rows j cap (lessR rj p)).flatten,.cells (((dropP rj.pl p).map u1).flatten++t.2),.cells [.int .u32 c.id,.int .i64 c.md,.int .u32 c.ins,.arr 4 0 c.rows.length c.rows.length,.arr 3 0 s cs]]) (fun t=>c.rows.length-t.1) (0,[]) ⟨Nat.zero_le _,fun h=>absurd h (Nat.not_lt_zero _)⟩ he (by rw[show H=_ from hH,if_pos (Nat.zero_le _)]) ?_
 rintro⟨k,J'⟩ ⟨hk,hJ'⟩
 have hk:k≤c.rows.length:=hk
 have hJ':j<k→Room J' (cap-(dropP rj.pl p).length):=hJ'
 by_cases hkn:k<c.rows.length
 ·by_cases hkj:k=j
  ·subst hkj
   simp only[if_pos (Nat.le_refl _)]
   refine lsl_vc w m p c sg (rowsE c.rows k cap rj).flatten ((rj.pl.map u1).flatten++J2) c.rows.length s cs k _ ?_
   simp only[br_if,dt]
   rw[if_pos (by omega)]
   have hu:=rowsE_uni c.rows k cap rj
   have hlE:=rowsE_len c.rows k cap rj
   obtain⟨f1,f2⟩:=fl_cell hu (by rw[hlE]; exact hkn) (rowsE_self hkn cap rj)
   have hlen:(rowsE c.rows k cap rj).flatten.length=c.rows.length*4:=by rw[uni_flat hu,hlE]
   refine⟨w,m,p,c,sg,_,_,c.rows.length,s,cs,k,hkn,rfl,rfl,by rw[hlen]; omega,f2,.inl ⟨rj.pl,J2,cap,f1,rfl,hpl rj (by rw[hrj]; exact getD_mem hj),hcap,hJ,?_⟩⟩
   have hdl:=dropP_le rj.pl p
   have hJ3:Room (zU (rj.pl.length-(dropP rj.pl p).length)++J2) (cap-(dropP rj.pl p).length):=((zeros_u32 _).app hJ).cast (by omega)
   rw[fl_over hu (by rw[hlE]; exact hkn) (rowsE_self hkn cap rj)]
   refine⟨(k+1,zU (rj.pl.length-(dropP rj.pl p).length)++J2),(show c.rows.length-(k+1)<c.rows.length-k by omega),⟨hkn,fun _=>hJ3⟩,by dsimp only; rw[wI_succ hkn (by omega)],[],?_,?_,.inl rfl⟩
   ·dsimp only
    rw[if_neg (by omega),List.append_nil]
    have:(rowsE c.rows k cap rj).set k [.int .i64 rj.tm,.arr 5 0 (dropP rj.pl p).length cap,.int .i64 rj.rt,.int .i64 rj.wd]=rowsE c.rows k cap (lessR rj p):=by unfold rowsE; rw[List.set_set]; rfl
    rw[this]
   ·dsimp only
    (split<;>try split)<;>exact Nat.le_refl _
  ·obtain⟨rk,hrk⟩:∃ rk,rk=c.rows.getD k default:=⟨_,rfl⟩
   have hpk:p∉rk.pl:=by rw[hrk]; exact hp k hkn hkj
   by_cases hle:k≤j
   ·simp only[if_pos hle]
    refine lsl_vc w m p c sg (rowsE c.rows j cap rj).flatten ((rj.pl.map u1).flatten++J2) c.rows.length s cs k _ ?_
    simp only[br_if,dt]
    rw[if_pos (by omega)]
    have hu:=rowsE_uni c.rows j cap rj
    have hlE:=rowsE_len c.rows j cap rj
    have hat:=rowsE_ne hkn (fun e=>hkj e.symm) cap rj
    rw[← hrk] at hat
    obtain⟨f1,f2⟩:=fl_cell hu (by rw[hlE]; exact hkn) hat
    have hlen:(rowsE c.rows j cap rj).flatten.length=c.rows.length*4:=by rw[uni_flat hu,hlE]
    refine⟨w,m,p,c,sg,_,_,c.rows.length,s,cs,k,hkn,rfl,rfl,by rw[hlen]; omega,f2,.inr ⟨rk.pl,f1,hpl rk (by rw[hrk]; exact getD_mem hkn),hpk,?_⟩⟩
    rw[fl_over hu (by rw[hlE]; exact hkn) hat]
    refine⟨(k+1,J'),(show c.rows.length-(k+1)<c.rows.length-k by omega),⟨hkn,fun h=>absurd (show j<k+1 from h) (by omega)⟩,by dsimp only; rw[wI_succ hkn (by omega)],[],?_,?_,.inl rfl⟩
    ·dsimp only
     rw[if_pos (by omega),List.append_nil]
     have:(rowsE c.rows j cap rj).set k [.int .i64 rk.tm,.list (rk.pl.map u1) .no,.int .i64 rk.rt,.int .i64 rk.wd]=rowsE c.rows j cap rj:=set_same' (by rw[List.getElem?_eq_getElem (by rw[hlE]; exact hkn)]; rw[List.getD_eq_getElem?_getD,List.getElem?_eq_getElem (by rw[hlE]; exact hkn)] at hat; exact congrArg some hat)
     rw[this]
    ·dsimp only
     (split<;>try split)<;>exact Nat.le_refl _
   ·simp only[if_neg hle]
    refine lsl_vc w m p c sg (rowsE c.rows j cap (lessR rj p)).flatten (((dropP rj.pl p).map u1).flatten++J') c.rows.length s cs k _ ?_
    simp only[br_if,dt]
    rw[if_pos (by omega)]
    have hu:=rowsE_uni c.rows j cap (lessR rj p)
    have hlE:=rowsE_len c.rows j cap (lessR rj p)
    have hat:=rowsE_ne hkn (fun e=>hkj e.symm) cap (lessR rj p)
    rw[← hrk] at hat
    obtain⟨f1,f2⟩:=fl_cell hu (by rw[hlE]; exact hkn) hat
    have hlen:(rowsE c.rows j cap (lessR rj p)).flatten.length=c.rows.length*4:=by rw[uni_flat hu,hlE]
    refine⟨w,m,p,c,sg,_,_,c.rows.length,s,cs,k,hkn,rfl,rfl,by rw[hlen]; omega,f2,.inr ⟨rk.pl,f1,hpl rk (by rw[hrk]; exact getD_mem hkn),hpk,?_⟩⟩
    rw[fl_over hu (by rw[hlE]; exact hkn) hat]
    refine⟨(k+1,J'),(show c.rows.length-(k+1)<c.rows.length-k by omega),⟨hkn,fun _=>hJ' (by omega)⟩,by dsimp only; rw[wI_succ hkn (by omega)],[],?_,?_,.inl rfl⟩
    ·dsimp only
     rw[if_neg (by omega),List.append_nil]
     have:(rowsE c.rows j cap (lessR rj p)).set k [.int .i64 rk.tm,.list (rk.pl.map u1) .no,.int .i64 rk.rt,.int .i64 rk.wd]=rowsE c.rows j cap (lessR rj p):=set_same' (by rw[List.getElem?_eq_getElem (by rw[hlE]; exact hkn)]; rw[List.getD_eq_getElem?_getD,List.getElem?_eq_getElem (by rw[hlE]; exact hkn)] at hat; exact congrArg some hat)
     rw[this]
    ·dsimp only
     (split<;>try split)<;>exact Nat.le_refl _
 ·have hke:k=c.rows.length:=by omega
  subst hke
  simp only[if_neg (show ¬ c.rows.length≤j by omega)]
  refine lsl_vc w m p c sg _ _ c.rows.length s cs c.rows.length _ ?_
  simp only[br_if,dt]
  rw[if_neg (by omega)]
  exact hQ J' (hJ' hj)
theorem ls11_vc (w:List Mt) (m p:Int) (c:Mt) (sg:List PV) (l:List Rr) (s cs:Nat):(by refine(?_:_→_→_→_→Prop) (PV.arr 4 0 l.length l.length) (Ob.abs (rkM (rowsM w) m)) (Ob.cells [.int .u32 p]) [PV.ptr 0 0,.ptr 6 0]; exact fun b d f g=>by refine(?_:_→Prop) [Ob.cells [.ptr 1 0],d,f,.cells sg,.cells (flR l),.dead,.cells [.int .u32 c.id,.int .i64 c.md,.int .u32 c.ins,b,.arr 3 0 s cs]]; exact fun a=>∀(R:Ex→List PV→Heap→Prop),(∃(l_1:List Rr) (J:List PV) (cap:Nat),SlIs [b,.fn 52 []] [.arr 4 0 l_1.length cap,.fn 52 []]∧CeIs a 4 (flR l_1++J)∧l_1.length≤1000000∧l_1.length≤cap∧Room J ((cap-l_1.length)*4)∧∀(J':List PV),Room J' ((cap-List.length (keepR l_1))*4)→R .normal g [.cells [.ptr 1 0],d,f,.cells sg,.cells (flR (keepR l_1)++J'),.dead,.cells [.int .u32 c.id,.int .i64 c.md,.int .u32 c.ins,.arr 4 0 (List.length (keepR l_1)) cap,.arr 3 0 s cs]])→Holds (wpc br Try.prog gl TLS [] (fun o=>match o.dst with|some 52=>1|_=>0) (atOf [1,1,1,1,1,1,0] (bodyOf Try.f27)) [] (envS [0,7] g) a (fun ex e H=>R ex (List.map e [0,7]) H)):Prop):=fun R h=>holds_of_eq (by kernel_rfl) h
theorem l12a_vc (w:List Mt) (m p:Int) (c:Mt):(by refine(?_:_→_→_→Prop) [PV.int .u32 c.id,.int .i64 c.md,.int .u32 c.ins,.list (c.rows.map rrc) .no,.list (c.seats.map stc) .no] (opsOf (atOf [1,1,1,1,1,1,1,0] (bodyOf Try.f27))) (Ob.cells [.int .u32 p]); exact fun a d f=>by refine(?_:_→Prop) [Ob.cells [.ptr 1 0],.abs (rkM (rowsM w) m),f,.dead,.dead,.dead,.cells a]; exact fun b=>∀(R:List PV→Heap→Prop),(∃(l:List RwM) (most:Int) (t:Int) (v:Mt) (t1:Tail) (t2:Tail),SlIs [.int .u32 c.id,.agg a] [.int .u32 t,.agg [.int .u32 v.id,.int .i64 v.md,.int .u32 v.ins,.list (v.rows.map rrc) t1,.list (v.seats.map stc) t2]]∧AbIs b 1 (rkM l most)∧Ok l most∧R [.int .u32 c.id,.int .i64 (↑(List.length (c.seats.map stc)):Int),.int .i64 (Prod.snd (putL l most t v))] [.cells [.ptr 1 0],.abs (rkM (Prod.fst (putL l most t v)) most),f,.dead,.dead,.dead,.cells a])→Holds (regc br Try.prog gl TLS (fun o=>match o.dst with|some 58=>1|some 64=>1|some 67=>1|some 68=>7|_=>0) true d (inOrder d [0,2,5,6,7,8,9,10,11,12,1,3,4,13,14,15,16]) (envS [0,7] [.ptr 0 0,.ptr 6 0]) b (fun e H=>R (List.map e [4,5,6]) H)):Prop):=fun R h=>holds_of_eq (by kernel_rfl) h
theorem l12b_vc (w:List Mt) (m p:Int) (c:Mt):(by refine(?_:_→_→_→Prop) [PV.int .u32 c.id,.int .i64 c.md,.int .u32 c.ins,.list (c.rows.map rrc) .no,.list (c.seats.map stc) .no] (opsOf (atOf [1,1,1,1,1,1,1,0] (bodyOf Try.f27))) (Ob.cells [.int .u32 p]); exact fun a d f=>by refine(?_:_→Prop) [Ob.cells [.ptr 1 0],.abs (rkM (rowsM w) m),f,.dead,.dead,.dead,.cells a]; exact fun b=>∀(R:List PV→Heap→Prop),(∃(l:List RwM) (most:Int) (t:Int) (v:Mt) (t1:Tail) (t2:Tail),SlIs [.int .u32 c.id,.agg a] [.int .u32 t,.agg [.int .u32 v.id,.int .i64 v.md,.int .u32 v.ins,.list (v.rows.map rrc) t1,.list (v.seats.map stc) t2]]∧AbIs b 1 (rkM l most)∧Ok l most∧R [.int .u32 c.id,.int .i64 (↑(List.length (c.seats.map stc)):Int),.int .i64 (Prod.snd (putL l most t v))] [.cells [.ptr 1 0],.abs (rkM (Prod.fst (putL l most t v)) most),f,.dead,.dead,.dead,.cells a])→Holds (regc br Try.prog gl TLS (fun o=>match o.dst with|some 58=>1|some 64=>1|some 67=>1|some 68=>7|_=>0) true d (inOrder d [0,2,5,6,7,8,9,10,11,12,1,13,3,4,14,15,16]) (envS [0,7] [.ptr 0 0,.ptr 6 0]) b (fun e H=>R (List.map e [4,5,6]) H)):Prop):=fun R h=>holds_of_eq (by kernel_rfl) h
theorem l12c_vc (w:List Mt) (m p:Int) (c:Mt):(by refine(?_:_→_→_→Prop) [PV.int .u32 c.id,.int .i64 c.md,.int .u32 c.ins,.list (c.rows.map rrc) .no,.list (c.seats.map stc) .no] (opsOf (atOf [1,1,1,1,1,1,1,0] (bodyOf Try.f27))) (Ob.cells [.int .u32 p]); exact fun a d f=>by refine(?_:_→Prop) [Ob.cells [.ptr 1 0],.abs (rkM (rowsM w) m),f,.dead,.dead,.dead,.cells a]; exact fun b=>∀(R:List PV→Heap→Prop),(∃(l:List RwM) (most:Int) (t:Int) (v:Mt) (t1:Tail) (t2:Tail),SlIs [.int .u32 c.id,.agg a] [.int .u32 t,.agg [.int .u32 v.id,.int .i64 v.md,.int .u32 v.ins,.list (v.rows.map rrc) t1,.list (v.seats.map stc) t2]]∧AbIs b 1 (rkM l most)∧Ok l most∧R [.int .u32 c.id,.int .i64 (↑(List.length (c.seats.map stc)):Int),.int .i64 (Prod.snd (putL l most t v))] [.cells [.ptr 1 0],.abs (rkM (Prod.fst (putL l most t v)) most),f,.dead,.dead,.dead,.cells a])→Holds (regc br Try.prog gl TLS (fun o=>match o.dst with|some 58=>1|some 64=>1|some 67=>1|some 68=>7|_=>0) true d (inOrder d [0,2,5,6,7,8,9,10,11,12,3,4,1,13,14,15,16]) (envS [0,7] [.ptr 0 0,.ptr 6 0]) b (fun e H=>R (List.map e [4,5,6]) H)):Prop):=fun R h=>holds_of_eq (by kernel_rfl) h
theorem l12d_vc (w:List Mt) (m p:Int) (c:Mt):(by refine(?_:_→_→_→Prop) [PV.int .u32 c.id,.int .i64 c.md,.int .u32 c.ins,.list (c.rows.map rrc) .no,.list (c.seats.map stc) .no] (opsOf (atOf [1,1,1,1,1,1,1,0] (bodyOf Try.f27))) (Ob.cells [.int .u32 p]); exact fun a d f=>by refine(?_:_→Prop) [Ob.cells [.ptr 1 0],.abs (rkM (rowsM w) m),f,.dead,.dead,.dead,.cells a]; exact fun b=>∀(R:List PV→Heap→Prop),(∃(l:List RwM) (most:Int) (t:Int) (v:Mt) (t1:Tail) (t2:Tail),SlIs [.int .u32 c.id,.agg a] [.int .u32 t,.agg [.int .u32 v.id,.int .i64 v.md,.int .u32 v.ins,.list (v.rows.map rrc) t1,.list (v.seats.map stc) t2]]∧AbIs b 1 (rkM l most)∧Ok l most∧R [.int .u32 c.id,.int .i64 (↑(List.length (c.seats.map stc)):Int),.int .i64 (Prod.snd (putL l most t v))] [.cells [.ptr 1 0],.abs (rkM (Prod.fst (putL l most t v)) most),f,.dead,.dead,.dead,.cells a])→Holds (regc br Try.prog gl TLS (fun o=>match o.dst with|some 58=>1|some 64=>1|some 67=>1|some 68=>7|_=>0) true d (inOrder d [0,2,5,6,7,8,9,10,11,12,3,4,13,1,14,15,16]) (envS [0,7] [.ptr 0 0,.ptr 6 0]) b (fun e H=>R (List.map e [4,5,6]) H)):Prop):=fun R h=>holds_of_eq (by kernel_rfl) h
theorem l12e_vc (w:List Mt) (m p:Int) (c:Mt):(by refine(?_:_→_→_→Prop) [PV.int .u32 c.id,.int .i64 c.md,.int .u32 c.ins,.list (c.rows.map rrc) .no,.list (c.seats.map stc) .no] (opsOf (atOf [1,1,1,1,1,1,1,0] (bodyOf Try.f27))) (Ob.cells [.int .u32 p]); exact fun a d f=>by refine(?_:_→Prop) [Ob.cells [.ptr 1 0],.abs (rkM (rowsM w) m),f,.dead,.dead,.dead,.cells a]; exact fun b=>∀(R:List PV→Heap→Prop),(∃(l:List RwM) (most:Int) (t:Int) (v:Mt) (t1:Tail) (t2:Tail),SlIs [.int .u32 c.id,.agg a] [.int .u32 t,.agg [.int .u32 v.id,.int .i64 v.md,.int .u32 v.ins,.list (v.rows.map rrc) t1,.list (v.seats.map stc) t2]]∧AbIs b 1 (rkM l most)∧Ok l most∧R [.int .u32 c.id,.int .i64 (↑(List.length (c.seats.map stc)):Int),.int .i64 (Prod.snd (putL l most t v))] [.cells [.ptr 1 0],.abs (rkM (Prod.fst (putL l most t v)) most),f,.dead,.dead,.dead,.cells a])→Holds (regc br Try.prog gl TLS (fun o=>match o.dst with|some 58=>1|some 64=>1|some 67=>1|some 68=>7|_=>0) true d (inOrder d [0,2,5,6,7,8,9,10,11,12,13,1,3,4,14,15,16]) (envS [0,7] [.ptr 0 0,.ptr 6 0]) b (fun e H=>R (List.map e [4,5,6]) H)):Prop):=fun R h=>holds_of_eq (by kernel_rfl) h
theorem l12f_vc (w:List Mt) (m p:Int) (c:Mt):(by refine(?_:_→_→_→Prop) [PV.int .u32 c.id,.int .i64 c.md,.int .u32 c.ins,.list (c.rows.map rrc) .no,.list (c.seats.map stc) .no] (opsOf (atOf [1,1,1,1,1,1,1,0] (bodyOf Try.f27))) (Ob.cells [.int .u32 p]); exact fun a d f=>by refine(?_:_→Prop) [Ob.cells [.ptr 1 0],.abs (rkM (rowsM w) m),f,.dead,.dead,.dead,.cells a]; exact fun b=>∀(R:List PV→Heap→Prop),(∃(l:List RwM) (most:Int) (t:Int) (v:Mt) (t1:Tail) (t2:Tail),SlIs [.int .u32 c.id,.agg a] [.int .u32 t,.agg [.int .u32 v.id,.int .i64 v.md,.int .u32 v.ins,.list (v.rows.map rrc) t1,.list (v.seats.map stc) t2]]∧AbIs b 1 (rkM l most)∧Ok l most∧R [.int .u32 c.id,.int .i64 (↑(List.length (c.seats.map stc)):Int),.int .i64 (Prod.snd (putL l most t v))] [.cells [.ptr 1 0],.abs (rkM (Prod.fst (putL l most t v)) most),f,.dead,.dead,.dead,.cells a])→Holds (regc br Try.prog gl TLS (fun o=>match o.dst with|some 58=>1|some 64=>1|some 67=>1|some 68=>7|_=>0) true d (inOrder d [0,2,5,6,7,8,9,10,11,12,13,3,4,1,14,15,16]) (envS [0,7] [.ptr 0 0,.ptr 6 0]) b (fun e H=>R (List.map e [4,5,6]) H)):Prop):=fun R h=>holds_of_eq (by kernel_rfl) h
theorem set_split {α:Type} {l:List α} {k:Nat} (h:k<l.length) (a:α):l.set k a=l.take k++a::l.drop (k+1):=by
 rw[List.set_eq_take_append_cons_drop,if_pos h]
theorem fz_rows {l:List Rr} {j cap:Nat} {r:Rr} (hj:j<l.length) (hc:r.pl.length≤cap):FzL 5 0 (r.pl.map u1) (rowsE l j cap r).flatten (flR (l.set j r)):=by
 have e1:(rowsE l j cap r).flatten=((l.map rrc).take j).flatten++(rwA 5 cap r++((l.map rrc).drop (j+1)).flatten):=by
  unfold rowsE; rw[set_split (by rw[List.length_map]; exact hj)]; simp
 have e2:flR (l.set j r)=((l.map rrc).take j).flatten++(rrc r++((l.map rrc).drop (j+1)).flatten):=by
  unfold flR; rw[set_split hj,List.map_append,List.map_cons,List.map_take,List.map_drop]; simp
 rw[e1,e2]
 refine(FzL.refl _).append (FzL.append (.cons (.refl _) (.cons ?_ (.cons (.refl _) (.cons (.refl _) .nil)))) (FzL.refl _))
 have:=Fz.arr (o:=5) (off:=0) (es:=r.pl.map u1) cap (by rw[List.length_map]; exact hc)
 rw[List.length_map] at this
 exact this
def ls11_l:LSp:=fun e H Q=>∃(w:List Mt) (m p:Int) (c:Mt) (sg J2:List PV) (l:List Rr) (j cap:Nat) (r:Rr) (s cs:Nat),l.length≤1000000∧j<l.length∧r.pl.length≤cap∧SlIs (List.map e [0,7]) [.ptr 0 0,.ptr 6 0]∧HpIs H [.cells [.ptr 1 0],.abs (rkM (rowsM w) m),.cells [.int .u32 p],.cells sg,.cells (rowsE l j cap r).flatten,.cells ((r.pl.map u1).flatten++J2),.cells [.int .u32 c.id,.int .i64 c.md,.int .u32 c.ins,.arr 4 0 l.length l.length,.arr 3 0 s cs]]∧
 ∀ J',Room J' ((l.length-(keepR (l.set j r)).length)*4)→Q .normal (envS [0,7] [.ptr 0 0,.ptr 6 0]) [.cells [.ptr 1 0],.abs (rkM (rowsM w) m),.cells [.int .u32 p],.cells sg,(.cells (flR (keepR (l.set j r))++J')),.dead,.cells [.int .u32 c.id,.int .i64 c.md,.int .u32 c.ins,.arr 4 0 (keepR (l.set j r)).length l.length,.arr 3 0 s cs]]
theorem ls11_l_ok:∀ e H Q,ls11_l e H Q→AW Try.prog gl Try.f27.ntmps (atOf [1,1,1,1,1,1,0] (bodyOf Try.f27)) Q e H:=by
 rintro e H Q ⟨w,m,p,c,sg,J2,l,j,cap,r,s,cs,hl,hj,hc,he,hH,hQ⟩
 have hH:H=_:=hH
 subst hH
 have he:List.map e [0,7]=_:=he
 have hll:(l.set j r).length=l.length:=List.length_set
 refine AW.freezeH (o:=5) (off:=0) (sz:=1) (A:=[]) (B:=J2) (es:=r.pl.map u1) (H2:=[.cells [.ptr 1 0],.abs (rkM (rowsM w) m),.cells [.int .u32 p],.cells sg,.cells (flR (l.set j r)),.dead,.cells [.int .u32 c.id,.int .i64 c.md,.int .u32 c.ins,.arr 4 0 (l.set j r).length (l.set j r).length,.arr 3 0 s cs]]) (vs2:=[.ptr 0 0,.ptr 6 0]) he rfl rfl (uni_map u1_len _) ⟨rfl,fun i b hb=>?_⟩ (FzL.refl _) ?_
 ·have k1:=(List.getElem?_eq_some_iff.1 hb).1
  simp at k1
  have:i=0∨i=1∨i=2∨i=3∨i=4∨i=5∨i=6:=by omega
  rcases this with rfl|rfl|rfl|rfl|rfl|rfl|rfl
  ·exact .inr (.inl ⟨by decide,hb⟩)
  ·exact .inr (.inl ⟨by decide,hb⟩)
  ·exact .inr (.inl ⟨by decide,hb⟩)
  ·exact .inr (.inl ⟨by decide,hb⟩)
  ·cases hb; exact .inr (.inr ⟨_,_,rfl,by decide,rfl,fz_rows hj hc⟩)
  ·cases hb; exact .inl rfl
  ·cases hb; rw[hll]; exact .inr (.inr ⟨_,_,rfl,by decide,rfl,FzL.refl _⟩)
 ·refine aw_piece (T:=TLS) (slots:=[0,7]) (outs:=[0,7]) (hn:=fun o=>match o.dst with|some 52=>1|_=>0) TLS_ok (.nil _ _ _ _ _) rfl rfl (ls11_vc w m p c sg (l.set j r) s cs (fun ex vs H'=>Q ex (envS [0,7] vs) H') ⟨l.set j r,[],(l.set j r).length,rfl,?_,by rw[hll]; exact hl,Nat.le_refl _,(room_rr 0).cast (by simp),fun J' hJ'=>?_⟩)
  ·rw[List.append_nil]; rfl
  ·rw[hll] at hJ' ⊢
   exact hQ J' hJ'
def ls12_l:LSp:=fun e H Q=>∃(w:List Mt) (m p:Int) (c:Mt) (cr cs:Nat) (J J2:List PV),MO w m∧rightS c.id=true∧hasG Mt.id w c.id=true∧c.rows.length≤cr∧c.seats.length≤cs∧SlIs (List.map e [0,7]) [.ptr 0 0,.ptr 6 0]∧HpIs H [.cells [.ptr 1 0],.abs (rkM (rowsM w) m),.cells [.int .u32 p],.cells (flS c.seats++J),.cells (flR c.rows++J2),.dead,.cells [.int .u32 c.id,.int .i64 c.md,.int .u32 c.ins,.arr 4 0 c.rows.length cr,.arr 3 0 c.seats.length cs]]∧
 ∀ G,Q .normal (envS [4,5,6] [.int .u32 c.id,.int .i64 c.seats.length,.int .i64 0]) (.cells [.ptr 1 0] :: .abs (rkM (rowsM (putG Mt.id w c)) m)::G)
theorem l12_draw:isDraw (atOf [1,1,1,1,1,1,1,0] (bodyOf Try.f27))=true:=by kernel_rfl
theorem l12_fam:okFam (opsOf (atOf [1,1,1,1,1,1,1,0] (bodyOf Try.f27))) (fun o=>match o.dst with|some 58=>1|some 64=>1|some 67=>1|some 68=>7|_=>0) [1,3,13] [[0,2,5,6,7,8,9,10,11,12,1,3,4,13,14,15,16],[0,2,5,6,7,8,9,10,11,12,1,13,3,4,14,15,16],[0,2,5,6,7,8,9,10,11,12,3,4,1,13,14,15,16],[0,2,5,6,7,8,9,10,11,12,3,4,13,1,14,15,16],[0,2,5,6,7,8,9,10,11,12,13,1,3,4,14,15,16],[0,2,5,6,7,8,9,10,11,12,13,3,4,1,14,15,16]]=true:=by kernel_rfl
theorem ls12_l_ok:∀ e H Q,ls12_l e H Q→AW Try.prog gl Try.f27.ntmps (atOf [1,1,1,1,1,1,1,0] (bodyOf Try.f27)) Q e H:=by
 rintro e H Q ⟨w,m,p,c,cr,cs,J,J2,ro,hr,hh,hcr,hcs,he,hH,hQ⟩
 have hH:H=_:=hH
 subst hH
 have he:List.map e [0,7]=_:=he
 refine AW.freezeH (o:=4) (off:=0) (sz:=4) (A:=[]) (B:=J2) (es:=c.rows.map rrc) (H2:=[.cells [.ptr 1 0],.abs (rkM (rowsM w) m),.cells [.int .u32 p],.cells (flS c.seats++J),.dead,.dead,.cells [.int .u32 c.id,.int .i64 c.md,.int .u32 c.ins,.list (c.rows.map rrc) .no,.arr 3 0 c.seats.length cs]]) (vs2:=[.ptr 0 0,.ptr 6 0]) he rfl rfl (uni_map rrc_len _) ⟨rfl,fun i b hb=>?_⟩ (FzL.refl _) ?_
 ·have k1:=(List.getElem?_eq_some_iff.1 hb).1
  simp at k1
  have:i=0∨i=1∨i=2∨i=3∨i=4∨i=5∨i=6:=by omega
  rcases this with rfl|rfl|rfl|rfl|rfl|rfl|rfl
  ·exact .inr (.inl ⟨by decide,hb⟩)
  ·exact .inr (.inl ⟨by decide,hb⟩)
  ·exact .inr (.inl ⟨by decide,hb⟩)
  ·exact .inr (.inl ⟨by decide,hb⟩)
  ·cases hb; exact .inl rfl
  ·cases hb; exact .inl rfl
  ·cases hb
   refine .inr (.inr ⟨_,_,rfl,by decide,rfl,.cons (.refl _) (.cons (.refl _) (.cons (.refl _) (.cons ?_ (.cons (.refl _) .nil))))⟩)
   have:=Fz.arr (o:=4) (off:=0) (es:=c.rows.map rrc) cr (by rw[List.length_map]; exact hcr)
   rw[List.length_map] at this
   exact this
 refine AW.freezeH (slots:=[0,7]) (o:=3) (off:=0) (sz:=6) (A:=[]) (B:=J) (es:=c.seats.map stc) (H2:=[.cells [.ptr 1 0],.abs (rkM (rowsM w) m),.cells [.int .u32 p],.dead,.dead,.dead,.cells [.int .u32 c.id,.int .i64 c.md,.int .u32 c.ins,.list (c.rows.map rrc) .no,.list (c.seats.map stc) .no]]) (vs2:=[.ptr 0 0,.ptr 6 0]) rfl rfl rfl (uni_map stc_len _) ⟨rfl,fun i b hb=>?_⟩ (FzL.refl _) ?_
 ·have k1:=(List.getElem?_eq_some_iff.1 hb).1
  simp at k1
  have:i=0∨i=1∨i=2∨i=3∨i=4∨i=5∨i=6:=by omega
  rcases this with rfl|rfl|rfl|rfl|rfl|rfl|rfl
  ·exact .inr (.inl ⟨by decide,hb⟩)
  ·exact .inr (.inl ⟨by decide,hb⟩)
  ·exact .inr (.inl ⟨by decide,hb⟩)
  ·cases hb; exact .inl rfl
  ·cases hb; exact .inl rfl
  ·cases hb; exact .inl rfl
  ·cases hb
   refine .inr (.inr ⟨_,_,rfl,by decide,rfl,.cons (.refl _) (.cons (.refl _) (.cons (.refl _) (.cons (.refl _) (.cons ?_ .nil))))⟩)
   have:=Fz.arr (o:=3) (off:=0) (es:=c.seats.map stc) cs (by rw[List.length_map]; exact hcs)
   rw[List.length_map] at this
   exact this
 refine aw_family (slots:=[0,7]) (outs:=[4,5,6]) TLS_ok [1,3,13] [[0,2,5,6,7,8,9,10,11,12,1,3,4,13,14,15,16],[0,2,5,6,7,8,9,10,11,12,1,13,3,4,14,15,16],[0,2,5,6,7,8,9,10,11,12,3,4,1,13,14,15,16],[0,2,5,6,7,8,9,10,11,12,3,4,13,1,14,15,16],[0,2,5,6,7,8,9,10,11,12,13,1,3,4,14,15,16],[0,2,5,6,7,8,9,10,11,12,13,3,4,1,14,15,16]] l12_draw l12_fam rfl rfl ?_
 have key:∀(R:List PV→Heap→Prop),(∀ G,R [.int .u32 c.id,.int .i64 c.seats.length,.int .i64 0] (.cells [.ptr 1 0] :: .abs (rkM (rowsM (putG Mt.id w c)) m)::G))→∃(l:List RwM) (most t:Int) (v:Mt) (t1 t2:Tail),SlIs [PV.int .u32 c.id,.agg [.int .u32 c.id,.int .i64 c.md,.int .u32 c.ins,.list (c.rows.map rrc) .no,.list (c.seats.map stc) .no]] [.int .u32 t,.agg [.int .u32 v.id,.int .i64 v.md,.int .u32 v.ins,.list (v.rows.map rrc) t1,.list (v.seats.map stc) t2]]∧AbIs [.cells [.ptr 1 0],.abs (rkM (rowsM w) m),.cells [.int .u32 p],.dead,.dead,.dead,.cells [.int .u32 c.id,.int .i64 c.md,.int .u32 c.ins,.list (c.rows.map rrc) .no,.list (c.seats.map stc) .no]] 1 (rkM l most)∧Ok l most∧R [.int .u32 c.id,.int .i64 ((c.seats.map stc).length:Int),.int .i64 (putL l most t v).2] [.cells [.ptr 1 0],.abs (rkM (putL l most t v).1 most),.cells [.int .u32 p],.dead,.dead,.dead,.cells [.int .u32 c.id,.int .i64 c.md,.int .u32 c.ins,.list (c.rows.map rrc) .no,.list (c.seats.map stc) .no]]:=by
  intro R hR
  refine⟨rowsM w,m,c.id,c,.no,.no,rfl,rfl,ro.ok,?_⟩
  rw[putL_rows ro c hr hh,List.length_map]
  exact hR _
 intro is his
 simp only[List.mem_cons,List.not_mem_nil,or_false] at his
 rcases his with rfl|rfl|rfl|rfl|rfl|rfl
 ·exact l12a_vc w m p c (fun vs H'=>Q .normal (envS [4,5,6] vs) H') (key (fun vs H'=>Q .normal (envS [4,5,6] vs) H') hQ)
 ·exact l12b_vc w m p c (fun vs H'=>Q .normal (envS [4,5,6] vs) H') (key (fun vs H'=>Q .normal (envS [4,5,6] vs) H') hQ)
 ·exact l12c_vc w m p c (fun vs H'=>Q .normal (envS [4,5,6] vs) H') (key (fun vs H'=>Q .normal (envS [4,5,6] vs) H') hQ)
 ·exact l12d_vc w m p c (fun vs H'=>Q .normal (envS [4,5,6] vs) H') (key (fun vs H'=>Q .normal (envS [4,5,6] vs) H') hQ)
 ·exact l12e_vc w m p c (fun vs H'=>Q .normal (envS [4,5,6] vs) H') (key (fun vs H'=>Q .normal (envS [4,5,6] vs) H') hQ)
 ·exact l12f_vc w m p c (fun vs H'=>Q .normal (envS [4,5,6] vs) H') (key (fun vs H'=>Q .normal (envS [4,5,6] vs) H') hQ)
theorem tls1_vc (w:List Mt) (m p:Int):(by refine(?_:_→_→_→_→_→Prop) (Ob.abs (rkM (rowsM w) m)) (Ob.cells [.int .u32 p]) [PV.ptr 0 0,.ptr 6 0] [PV.ptr 0 0,.int .u32 p] (Ob.cells [.ptr 1 0]); exact fun N O P S T=>by refine(?_:_→Prop) [T,N,O]; exact fun Q=>∀(K:PV→Heap→Prop),(∃(q:Nat) (r:Nat) (w_1:List Mt) (m_1:Int) (p_1:Int),SlIs S [.ptr q 0,.int .u32 p_1]∧BkIs Q q r (rkM (rowsM w_1) m_1)∧MO w_1 m_1∧∃(q:Nat) (r:Nat) (w_2:List Mt) (m_2:Int) (t:Int),by refine(?_:_→_→_→_→_→Prop) (Mt.rows (gM w_2 t)) (Mt.seats (gM w_2 t)) (PV.int .u32 (Mt.ins (gM w_2 t))) (PV.int .i64 (Mt.md (gM w_2 t))) (Mt.id (gM w_2 t)); exact fun D E H L M=>by refine(?_:_→Prop) (PV.arr 4 0 (List.length D) (List.length D)); exact fun F=>SlIs [.ptr 0 0,.int .u32 (ofM w_1 p_1)] [.ptr q 0,.int .u32 t]∧BkIs Q q r (rkM (rowsM w_2) m_2)∧MO w_2 m_2∧(hasG Mt.id w_2 t=false→K (.tup [.int .u32 0,.int .i64 0,.int .i64 12]) [.cells [.ptr 1 0],N,O,.dead,.cells [.int .u32 0,.int .i64 0,.int .u32 0,.list [] .exact,.list [] .exact]])∧(hasG Mt.id w_2 t=true→Mt.seats (gM w_2 t)≠[]∧∃(j:Nat),by refine(?_:_→Prop) (List.getD D j default); exact fun C=>j<List.length D∧Rr.pl C≠[]∧∀(cs:Nat),by refine(?_:_→Prop) [PV.int .u32 M,L,H,F,.arr 3 0 (List.length E) cs]; exact fun B=>∀(J:List PV),∀(cap:Nat),by refine(?_:_→Prop) (Ob.cells (List.flatten (rsJ 5 j cap D))); exact fun A=>∀(J2:List PV),by refine(?_:_→Prop) (Ob.cells (List.flatten (List.map u1 (Rr.pl C))++J2)); exact fun z=>by refine(?_:_→Prop) [T,N,O,.cells (flS E++J),A,z,.cells B]; exact fun v=>List.length E≤cs→Room J ((cs-List.length E)*6)→List.length (Rr.pl C)≤cap→Room J2 (cap-List.length (Rr.pl C))→∃(c:Mt) (x:PV) (y:PV) (p_2:Int),by refine(?_:_→Prop) (∃(t:Tail),x = .list (c.rows.map rrc) t); exact fun u=>SlIs [.agg B,.int .u32 p] [.agg [.int .u32 c.id,.int .i64 c.md,.int .u32 c.ins,x,y],.int .u32 p_2]∧c.seats.length≤1000000∧((u∧∃(t:Tail),y = .list (c.seats.map stc) t)∨(u∧∃(o:Nat) (cap_1:Nat) (J_1:List PV),y = .arr o 0 c.seats.length cap_1∧c.seats.length≤cap_1∧CeIs v o (flS c.seats++J_1))∨(∃(o:Nat) (n:Nat) (cap:Nat),x = .arr o 0 n cap∧o<7)∧∃(o:Nat) (cap_1:Nat) (J_1:List PV),y = .arr o 0 c.seats.length cap_1∧c.seats.length≤cap_1∧CeIs v o (flS c.seats++J_1))∧∃(l:List Se) (J_1:List PV) (p_3:Nat),List.length E=l.length∧SlIs [.int .i64 (ixS c.seats p_2),.int .i64 (wI (ixS c.seats p_2+1))] [.int .i64 p_3,.int .i64 (↑(p_3+1):Int)]∧CeIs v 3 (flS l++J_1)∧p_3<l.length∧l.length≤1000000∧l.length≤cs∧Room J_1 ((cs-l.length)*6)∧∃(w_3:List Mt) (m_3:Int) (p_4:Int) (c:Mt) (sg:List PV) (J2_1:List PV) (s:Nat) (cs_1:Nat) (cap_1:Nat) (j_1:Nat),by refine(?_:_→_→_→_→Prop) (List.getD c.rows j_1 default) (Ob.cells [.int .u32 c.id,.int .i64 c.md,.int .u32 c.ins,.arr 4 0 c.rows.length c.rows.length,.arr 3 0 s cs_1]) (Ob.abs (rkM (rowsM w_3) m_3)) (Ob.cells [.int .u32 p_4]); exact fun e f g h=>by refine(?_:_→Prop) (dropP (Rr.pl e) p_4); exact fun i=>c.rows.length≤1000000∧(∀(r:Rr),r∈c.rows→r.pl.length≤1000000)∧j_1<c.rows.length∧(∀(k:Nat),k<c.rows.length→k≠j_1→¬p_4∈Rr.pl (List.getD c.rows k default))∧List.length (Rr.pl e)≤cap_1∧Room J2_1 (cap_1-List.length (Rr.pl e))∧SlIs [.ptr 0 0,.ptr 2 0,.ptr 6 0,.int .i64 (↑(List.length D):Int),.int .i64 0] [.ptr 0 0,.ptr 2 0,.ptr 6 0,.int .i64 c.rows.length,.int .i64 0]∧HpIs [.cells [.ptr 1 0],N,O,.cells (flS (List.eraseIdx l p_3)++([.int .u32 0,.int .i64 0,.int .i64 0,.int .i64 0,.int .i64 0,.int .u64 0]++J_1)),A,z,.cells [.int .u32 M,L,H,F,.arr 3 0 (l.length-1) cs]] [.cells [.ptr 1 0],g,h,.cells sg,.cells (List.flatten (rowsE c.rows j_1 cap_1 e)),.cells (List.flatten (List.map u1 (Rr.pl e))++J2_1),f]∧∀(J':List PV),Room J' (cap_1-List.length i)→∃(w:List Mt) (m:Int) (p:Int) (c_1:Mt) (sg_1:List PV) (J2:List PV) (l:List Rr) (j:Nat) (cap:Nat) (r:Rr) (s_1:Nat) (cs:Nat),by refine(?_:_→_→_→Prop) (keepR (List.set l j r)) (Ob.abs (rkM (rowsM w) m)) (Ob.cells [.int .u32 p]); exact fun a b d=>l.length≤1000000∧j<l.length∧r.pl.length≤cap∧SlIs P P∧HpIs [.cells [.ptr 1 0],g,h,.cells sg,.cells (List.flatten (rowsE c.rows j_1 cap_1 (lessR e p_4))),.cells (List.flatten (List.map u1 i)++J'),f] [.cells [.ptr 1 0],b,d,.cells sg_1,.cells (List.flatten (rowsE l j cap r)),.cells (List.flatten (r.pl.map u1)++J2),.cells [.int .u32 c_1.id,.int .i64 c_1.md,.int .u32 c_1.ins,.arr 4 0 l.length l.length,.arr 3 0 s_1 cs]]∧∀(J':List PV),Room J' ((l.length-List.length a)*4)→∃(w_4:List Mt) (m_4:Int) (p_5:Int) (c:Mt) (cr:Nat) (cs_2:Nat) (J:List PV) (J2:List PV),MO w_4 m_4∧rightS c.id=true∧hasG Mt.id w_4 c.id=true∧c.rows.length≤cr∧c.seats.length≤cs_2∧SlIs P P∧HpIs [.cells [.ptr 1 0],b,d,.cells sg_1,.cells (flR a++J'),.dead,.cells [.int .u32 c_1.id,.int .i64 c_1.md,.int .u32 c_1.ins,.arr 4 0 (List.length a) l.length,.arr 3 0 s_1 cs]] [.cells [.ptr 1 0],.abs (rkM (rowsM w_4) m_4),.cells [.int .u32 p_5],.cells (flS c.seats++J),.cells (flR c.rows++J2),.dead,.cells [.int .u32 c.id,.int .i64 c.md,.int .u32 c.ins,.arr 4 0 c.rows.length cr,.arr 3 0 c.seats.length cs_2]]∧∀(G:List Ob),K (.tup [.int .u32 c.id,.int .i64 c.seats.length,.int .i64 0]) (.cells [.ptr 1 0] :: .abs (rkM (rowsM (putG Mt.id w_4 c)) m_4)::G)))→ACalls Try.prog gl 27 S [.cells [.ptr 1 0],N] K:Prop):=fun K h=>acalls_of_wpc2 (T:=TLS) (L:=[([1,1,1,1,1,0,1,0],lsl_l),([1,1,1,1,1,1,0],ls11_l),([1,1,1,1,1,1,1,0],ls12_l)]) (fun o=>match o.dst with|some 21=>1|some 25=>1|some 32=>1|_=>0) Try.func27 (by kernel_rfl) (by kernel_rfl) (by kernel_rfl) (TLS_ok) (.cons (sub_of (by kernel_rfl)) lsl_l_ok (.cons (at_of (by kernel_rfl)) ls11_l_ok (.cons (at_of (by kernel_rfl)) ls12_l_ok (.nil _ _ _ _ _)))) (holds_of_eq (by kernel_rfl) h)
end Go.Proofs.Ytenaelaapdhbdaa
