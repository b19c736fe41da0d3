/-
  An act on both.
-/
import Derived.Test.YtenaelaapdhbdaaSac
import Derived.Test.YtenaelaapdhbdaaProg
namespace Go.Proofs.Ytenaelaapdhbdaa
open Go Go.AM Go.Proofs
theorem do1_vc (w v:List Mt) (m:Int) (a:Ac):(by refine(?_:_→_→_→_→_→Prop) (PV.list (v.map mtc) .no) (PV.list (a.rows.map rrc) .no) (Ob.abs (rkM (rowsM w) m)) (Ob.cells [.ptr 1 0]) (PV.int .u64 (IntKind.wrap .u64 a.id)); exact fun q s u x y=>by refine(?_:_→_→Prop) (Ob.cells [.int .u8 a.dO,.int .u32 a.id,.int .u32 a.p,.int .i64 a.st,.int .i64 a.md,s]) [q,.int .u32 a.id]; exact fun n z=>by refine(?_:_→Prop) [x,u,n]; exact fun o=>∀(K:PV→Heap→Prop),(br (a.dO == 0) (∃(c:List Rr) (t:Tail),SlIs [s] [.list (c.map rrc) t]∧c.length≤1000000∧(∀(r:Rr),r∈c→r.pl.length≤1000000)∧∃(w_1:List Mt) (m_1:Int) (id:Int) (md:Int) (ins:Int) (l:List Rr) (t:Tail),SlIs [.ptr 0 0,.int .u32 a.id,.int .i64 a.md,.int .u32 a.p,.list (c.map rrc) .no] [.ptr 0 0,.int .u32 id,.int .i64 md,.int .u32 ins,.list (l.map rrc) t]∧BkIs o 0 1 (rkM (rowsM w_1) m_1)∧MO w_1 m_1∧smR l∧∃(w:List Mt) (m_2:Int) (id_1:Int) (md_1:Int) (ins_1:Int) (l_1:List Rr) (t0:Tail) (t1:Tail),SlIs [q,.int .i64 m,.int .u32 a.id,.int .i64 a.md,.int .u32 a.p,s] [.list (w.map mtc) t0,.int .i64 m_2,.int .u32 id_1,.int .i64 md_1,.int .u32 ins_1,.list (l_1.map rrc) t1]∧MO w m_2∧m_2≤100000∧0≤id_1∧posR l_1∧smR l_1∧K (.tup [.list (List.map mtc (Prod.fst (makeM w m_2 id_1 md_1 ins_1 l_1))) .no,.bool (Prod.snd (makeM w_1 m_1 id md ins l) == Prod.snd (makeM w m_2 id_1 md_1 ins_1 l_1))]) [.cells [.ptr 1 0],.abs (rkM (rowsM (Prod.fst (makeM w_1 m_1 id md ins l))) m_1),n]) (br (a.dO == 1) (∃(c:List Rr) (t:Tail),SlIs [s] [.list (c.map rrc) t]∧c.length≤1000000∧(∀(r:Rr),r∈c→r.pl.length≤1000000)∧∃(w_1:List Mt) (m_1:Int) (id:Int) (l:List Rr) (t:Tail),SlIs [.ptr 0 0,.int .u32 a.id,.list (c.map rrc) .no] [.ptr 0 0,.int .u32 id,.list (l.map rrc) t]∧BkIs o 0 1 (rkM (rowsM w_1) m_1)∧MO w_1 m_1∧smR l∧∃(w:List Mt) (m:Int) (id_1:Int) (l_1:List Rr) (t0:Tail) (t1:Tail),SlIs [q,.int .u32 a.id,s] [.list (w.map mtc) t0,.int .u32 id_1,.list (l_1.map rrc) t1]∧MO w m∧m≤100000∧posR l_1∧smR l_1∧K (.tup [.list (List.map mtc (Prod.fst (addMt w id_1 l_1))) .no,.bool (Prod.snd (addMt w_1 id l) == Prod.snd (addMt w id_1 l_1))]) [.cells [.ptr 1 0],.abs (rkM (rowsM (Prod.fst (addMt w_1 id l))) m_1),n]) (br (a.dO == 2) (∃(w_1:List Mt) (m_1:Int) (p:Int) (st:Int) (un:Int) (no:Int),SlIs [.ptr 0 0,.int .u32 a.p,.int .i64 a.st,.int .i64 a.md,y] [.ptr 0 0,.int .u32 p,.int .i64 st,.int .i64 un,.int .u64 no]∧BkIs o 0 1 (rkM (rowsM w_1) m_1)∧MO w_1 m_1∧∃(w:List Mt) (m:Int) (p_1:Int) (st_1:Int) (un_1:Int) (no_1:Int) (t0:Tail),SlIs [q,.int .u32 a.p,.int .i64 a.st,.int .i64 a.md,y] [.list (w.map mtc) t0,.int .u32 p_1,.int .i64 st_1,.int .i64 un_1,.int .u64 no_1]∧MO w m∧m≤100000∧K (.tup [.list (List.map mtc (Prod.fst (setMt w p_1 st_1 un_1 no_1))) .no,.bool (Prod.snd (setMt w_1 p st un no) == Prod.snd (setMt w p_1 st_1 un_1 no_1))]) [.cells [.ptr 1 0],.abs (rkM (rowsM (Prod.fst (setMt w_1 p st un no))) m_1),n]) (br (a.dO == 3) (∃(w_1:List Mt) (m_1:Int) (p:Int),by refine(?_:_→_→Prop) [x,.abs (rkM (rowsM (Prod.fst (loseM w_1 p))) m_1),n] (Prod.snd (loseM w_1 p)); exact fun i j=>SlIs [.ptr 0 0,.int .u32 a.p] [.ptr 0 0,.int .u32 p]∧BkIs o 0 1 (rkM (rowsM w_1) m_1)∧MO w_1 m_1∧∃(w:List Mt) (m:Int) (p_1:Int) (t0:Tail),by refine(?_:_→_→Prop) (PV.list (List.map mtc (Prod.fst (loseM w p_1))) .no) (Prod.snd (loseM w p_1)); exact fun e f=>by refine(?_:_→Prop) (K (.tup [e,.bool false]) i); exact fun d=>SlIs [q,.int .u32 a.p] [.list (w.map mtc) t0,.int .u32 p_1]∧MO w m∧m≤100000∧br ((Prod.snd (Prod.snd j) == Prod.snd (Prod.snd f)) == true) (br ((Prod.fst j == Prod.fst f) == true) (K (.tup [e,.bool (Prod.fst (Prod.snd j) == Prod.fst (Prod.snd f))]) i) d) d) (br (a.dO == 4) (∃(w_1:List Mt) (tl:Tail) (t:Int),by refine(?_:_→Prop) [PV.int .u32 (Mt.id (gM w_1 t)),.int .i64 (Mt.md (gM w_1 t)),.int .u32 (Mt.ins (gM w_1 t)),.list (List.map rrc (Mt.rows (gM w_1 t))) .no,.list (List.map stc (Mt.seats (gM w_1 t))) .no]; exact fun k=>SlIs z [.list (w_1.map mtc) tl,.int .u32 t]∧w_1.length≤1000000∧∃(w_2:List Mt) (m_1:Int) (id:Int),by refine(?_:_→Prop) [PV.int .u32 (Mt.id (gM w_2 id)),.int .i64 (Mt.md (gM w_2 id)),.int .u32 (Mt.ins (gM w_2 id)),.list (List.map rrc (Mt.rows (gM w_2 id))) .no,.list (List.map stc (Mt.seats (gM w_2 id))) .no]; exact fun h=>by refine(?_:_→Prop) [x,.abs (rkM (rowsM (dropG Mt.id w_2 id)) m_1),n,.cells k,.cells h]; exact fun g=>SlIs [.ptr 0 0,.int .u32 a.id] [.ptr 0 0,.int .u32 id]∧BkIs [.cells [.ptr 1 0],u,n,.cells k] 0 1 (rkM (rowsM w_2) m_1)∧MO w_2 m_1∧∃(w:List Mt) (tl:Tail) (t_1:Int),by refine(?_:_→Prop) (PV.list (List.map mtc (dropG Mt.id w t_1)) .no); exact fun b=>SlIs z [.list (w.map mtc) tl,.int .u32 t_1]∧w.length≤1000000∧br ((hasG Mt.id w_2 id == hasG Mt.id w_1 t) == true) (∃(c:Mt) (t1:Tail) (t2:Tail),SlIs [.agg h] [.agg [.int .u32 c.id,.int .i64 c.md,.int .u32 c.ins,.list (c.rows.map rrc) t1,.list (c.seats.map stc) t2]]∧Mt.Sm c∧∃(c_1:Mt) (t1:Tail) (t2:Tail) (t3:Tail) (t4:Tail),SlIs [.agg [.int .u32 c.id,.int .i64 c.md,.int .u32 c.ins,.list (c.rows.map rrc) .no,.list (c.seats.map stc) .no],.agg k] [.agg [.int .u32 c_1.id,.int .i64 c_1.md,.int .u32 c_1.ins,.list (c_1.rows.map rrc) t1,.list (c_1.seats.map stc) t2],.agg [.int .u32 c_1.id,.int .i64 c_1.md,.int .u32 c_1.ins,.list (c_1.rows.map rrc) t3,.list (c_1.seats.map stc) t4]]∧Mt.Sm c_1∧K (.tup [b,.bool true]) g) (K (.tup [b,.bool false]) g)) (K (.tup [q,.bool true]) o))))))→ACalls Try.prog gl 8 [.ptr 0 0,q,.int .i64 m,.agg (acC a)] [.cells [.ptr 1 0],u] K:Prop):=fun K h=>acalls_of_wpc2 (T:=TDO) (L:=[]) (fun o=>match o.dst with|some 44=>7|some 71=>7|_=>0) Try.func8 (by kernel_rfl) (by kernel_rfl) (by kernel_rfl) (TDO_ok) (LOk.nil _ _ _ _ _) (holds_of_eq (by kernel_rfl) h)
def stepM (w:List Mt) (m:Int) (a:Ac):List Mt:=
 if a.dO=0 then(makeM w m a.id a.md a.p a.rows).1 else if a.dO=1 then(addMt w a.id a.rows).1 else if a.dO=2 then(setMt w a.p a.st a.md (IntKind.wrap .u64 a.id)).1 else if a.dO=3 then(loseM w a.p).1 else if a.dO=4 then dropG Mt.id w a.id else w
theorem MO.step {w:List Mt} {m:Int} (ro:MO w m) (a:Ac):MO (stepM w m a) m:=by
 unfold stepM
 split
 ·exact ro.make _ _ _ _
 split
 ·exact ro.add _ _
 split
 ·exact ro.set _ _ _ _
 split
 ·exact ro.lose _
 split
 ·exact ro.drop _
 exact ro
structure Ac.Nn (a:Ac):Prop where
 id:0≤a.id
 rows:posR a.rows
theorem do_core (w v:List Mt) (m:Int) (a:Ac) (ro:MO w m) (hm:m≤100000) (hv:v=w∨v=[]) (nn:a.Nn) (sm:smR a.rows):∃ b:Bool,(v=w→b=true)∧
  ACalls Try.prog gl 8 [.ptr 0 0,.list (v.map mtc) .no,.int .i64 m,.agg (acC a)] [.cells [.ptr 1 0],.abs (rkM (rowsM w) m)] (fun x H'=>x = .tup [.list ((stepM v m a).map mtc) .no,.bool b]∧∃ G,H'=[.cells [.ptr 1 0],.abs (rkM (rowsM (stepM w m a)) m)]++G):=by
 have h0:0≤m:=by have:=ro.full; omega
 have rv:MO v m:=by rcases hv with rfl|rfl; exact ro; exact MO.nil h0 ro.big
 have hpl:∀ r∈a.rows,r.pl.length≤1000000:=fun r hr=>by have:=sm.2 r hr; omega
 have hrl:a.rows.length≤1000000:=by have:=sm.1; omega
 by_cases c0:a.dO=0
 ·have hst:∀ u,stepM u m a=(makeM u m a.id a.md a.p a.rows).1:=fun u=>by unfold stepM; rw[if_pos c0]
  refine⟨(makeM w m a.id a.md a.p a.rows).2 == (makeM v m a.id a.md a.p a.rows).2,fun e=>by rw[e]; exact beq_self_eq_true _,do1_vc w v m a _ ?_⟩
  rw[hst,hst,br_if,if_pos (by rw[c0]; rfl)]
  exact⟨a.rows,.no,rfl,hrl,hpl,w,m,a.id,a.md,a.p,a.rows,.no,rfl,⟨rfl,rfl⟩,ro,sm,v,m,a.id,a.md,a.p,a.rows,.no,.no,rfl,rv,hm,nn.id,nn.rows,sm,rfl,[_],rfl⟩
 by_cases c1:a.dO=1
 ·have hst:∀ u,stepM u m a=(addMt u a.id a.rows).1:=fun u=>by unfold stepM; rw[if_neg c0,if_pos c1]
  refine⟨(addMt w a.id a.rows).2 == (addMt v a.id a.rows).2,fun e=>by rw[e]; exact beq_self_eq_true _,do1_vc w v m a _ ?_⟩
  rw[hst,hst,br_if,if_neg (by simpa using c0),br_if,if_pos (by rw[c1]; rfl)]
  exact⟨a.rows,.no,rfl,hrl,hpl,w,m,a.id,a.rows,.no,rfl,⟨rfl,rfl⟩,ro,sm,v,m,a.id,a.rows,.no,.no,rfl,rv,hm,nn.rows,sm,rfl,[_],rfl⟩
 by_cases c2:a.dO=2
 ·have hst:∀ u,stepM u m a=(setMt u a.p a.st a.md (IntKind.wrap .u64 a.id)).1:=fun u=>by unfold stepM; rw[if_neg c0,if_neg c1,if_pos c2]
  refine⟨(setMt w a.p a.st a.md (IntKind.wrap .u64 a.id)).2 == (setMt v a.p a.st a.md (IntKind.wrap .u64 a.id)).2,fun e=>by rw[e]; exact beq_self_eq_true _,do1_vc w v m a _ ?_⟩
  rw[hst,hst,br_if,if_neg (by simpa using c0),br_if,if_neg (by simpa using c1),br_if,if_pos (by rw[c2]; rfl)]
  exact⟨w,m,a.p,a.st,a.md,_,rfl,⟨rfl,rfl⟩,ro,v,m,a.p,a.st,a.md,_,.no,rfl,rv,hm,rfl,[_],rfl⟩
 by_cases c3:a.dO=3
 ·have hst:∀ u,stepM u m a=(loseM u a.p).1:=fun u=>by unfold stepM; rw[if_neg c0,if_neg c1,if_neg c2,if_pos c3]
  have pre:∀ b,_→ACalls Try.prog gl 8 [.ptr 0 0,.list (v.map mtc) .no,.int .i64 m,.agg (acC a)] [.cells [.ptr 1 0],.abs (rkM (rowsM w) m)] (fun x H'=>x = .tup [.list ((stepM v m a).map mtc) .no,.bool b]∧∃ G,H'=[.cells [.ptr 1 0],.abs (rkM (rowsM (stepM w m a)) m)]++G):=fun b h=>do1_vc w v m a _ (by
   rw[br_if,if_neg (by simpa using c0),br_if,if_neg (by simpa using c1),br_if,if_neg (by simpa using c2),br_if,if_pos (by rw[c3]; rfl)]
   exact⟨w,m,a.p,rfl,⟨rfl,rfl⟩,ro,v,m,a.p,.no,rfl,rv,hm,h⟩)
  by_cases e1:((loseM w a.p).2.2.2 == (loseM v a.p).2.2.2)=true
  ·by_cases e2:((loseM w a.p).2.1 == (loseM v a.p).2.1)=true
   ·refine⟨(loseM w a.p).2.2.1 == (loseM v a.p).2.2.1,fun e=>by rw[e]; exact beq_self_eq_true _,pre _ ?_⟩
    rw[hst,hst,br_if,if_pos (by rw[e1]; rfl),br_if,if_pos (by rw[e2]; rfl)]
    exact⟨rfl,[_],rfl⟩
   ·refine⟨false,fun e=>absurd (by rw[e]; exact beq_self_eq_true _) e2,pre _ ?_⟩
    rw[hst,hst,br_if,if_pos (by rw[e1]; rfl),br_if,if_neg (by simpa using e2)]
    exact⟨rfl,[_],rfl⟩
  ·refine⟨false,fun e=>absurd (by rw[e]; exact beq_self_eq_true _) e1,pre _ ?_⟩
   rw[hst,hst,br_if,if_neg (by simpa using e1)]
   exact⟨rfl,[_],rfl⟩
 by_cases c4:a.dO=4
 ·have hst:∀ u,stepM u m a=dropG Mt.id u a.id:=fun u=>by unfold stepM; rw[if_neg c0,if_neg c1,if_neg c2,if_neg c3,if_pos c4]
  have hgv:(hasG Mt.id w a.id == hasG Mt.id v a.id)=true→gM v a.id=gM w a.id:=by
   rcases hv with rfl|rfl
   ·intro _; rfl
   ·intro e
    have e2:hasG Mt.id w a.id=false:=eq_of_beq e
    show getG Mt.id [] a.id=getG Mt.id w a.id
    rw[getG_none e2]; rfl
  refine⟨hasG Mt.id w a.id == hasG Mt.id v a.id,fun e=>by rw[e]; exact beq_self_eq_true _,do1_vc w v m a _ ?_⟩
  rw[hst,hst,br_if,if_neg (by simpa using c0),br_if,if_neg (by simpa using c1),br_if,if_neg (by simpa using c2),br_if,if_neg (by simpa using c3),br_if,if_pos (by rw[c4]; rfl)]
  refine⟨v,.no,a.id,rfl,rv.len,w,m,a.id,rfl,⟨rfl,rfl⟩,ro,v,.no,a.id,rfl,rv.len,?_⟩
  rw[br_if]
  by_cases e1:(hasG Mt.id w a.id == hasG Mt.id v a.id)=true
  ·rw[if_pos (by rw[e1]; rfl),hgv e1,e1]
   exact⟨gM w a.id,.no,.no,rfl,ro.getsm _,gM w a.id,.no,.no,.no,.no,rfl,ro.getsm _,rfl,[_,_,_],rfl⟩
  ·rw[if_neg (by simpa using e1),show(hasG Mt.id w a.id == hasG Mt.id v a.id)=false by simpa using e1]
   exact⟨rfl,[_,_,_],rfl⟩
 ·have hst:∀ u,stepM u m a=u:=fun u=>by unfold stepM; rw[if_neg c0,if_neg c1,if_neg c2,if_neg c3,if_neg c4]
  refine⟨true,fun _=>rfl,do1_vc w v m a _ ?_⟩
  rw[hst,hst,br_if,if_neg (by simpa using c0),br_if,if_neg (by simpa using c1),br_if,if_neg (by simpa using c2),br_if,if_neg (by simpa using c3),br_if,if_neg (by simpa using c4)]
  exact⟨rfl,[_],rfl⟩
def do_s (args:List PV) (H:Heap) (K:PV→Heap→Prop):Prop:=∃(w v:List Mt) (m:Int) (a:Ac) (t0 t1:Tail),SlIs args [.ptr 1 0,.list (v.map mtc) t0,.int .i64 m,.agg [.int .u8 a.dO,.int .u32 a.id,.int .u32 a.p,.int .i64 a.st,.int .i64 a.md,.list (a.rows.map rrc) t1]]∧BkIs H 1 0 (rkM (rowsM w) m)∧MO w m∧m≤100000∧(v=w∨v=[])∧a.Nn∧smR a.rows∧
 ∀ b:Bool,(v=w→b=true)→K (.tup [.list ((stepM v m a).map mtc) .no,.bool b]) (H.set 0 (.abs (rkM (rowsM (stepM w m a)) m)))
theorem do_ok:SpOk Try.prog gl 8 (.heap do_s):=by
 rintro args H K ⟨w,v,m,a,t0,t1,he,hb,ro,hm,hv,nn,sm,hk⟩
 have he:args=_:=he
 subst he
 obtain⟨b,hb1,hc⟩:=do_core w v m a ro hm hv nn sm
 refine acalls_args (.cons (.refl _) (.cons (.list _ _) (.cons (.refl _) (.cons (.agg (xs':=acC a) (.cons (.refl _) (.cons (.refl _) (.cons (.refl _) (.cons (.refl _) (.cons (.refl _) (.cons (.list _ _) .nil))))))) .nil)))) ?_
 exact book_heap gl_low hb (low_three (low_mts v) (.int _ _) (.agg _ (low_acC a))) (.tup _ (low_two (low_mts _) (.bool _))) hc (hk b hb1)
theorem wkl_get {xs ys:List PV} (h:WkL xs ys):∀(q:Nat) (y:PV),ys[q]?=some y→∃ x,xs[q]?=some x∧Wk x y:=by
 induction h with
 | nil=>intro q y h; simp at h
 | cons h _ ih=>
  intro q y hq
  cases q with
  | zero=>simp at hq; subst hq; exact⟨_,rfl,h⟩
  | succ q=>simpa using ih q y (by simpa using hq)
theorem wkl_len {xs ys:List PV} (h:WkL xs ys):xs.length=ys.length:=by
 induction h with
 | nil=>rfl
 | cons _ _ ih=>simp[ih]
theorem wk_rows {es es':List (List PV)} {t:Tail} (hw:WkL es.flatten es'.flatten) (hl:es.length=es'.length) (hu:∀ e∈es',∀ e'∈es',e.length=e'.length):Wk (.list es t) (.list es' .no):=by
 intro g w v h
 obtain⟨a,cap,rfl,h1,h2,_,h4⟩:=Rel.list_iff.1 h
 refine Rel.list_iff.2 ⟨a,cap,by rw[hl],hu,by omega,trivial,h4.imp (fun e=>?_) ?_⟩
 ·have:=wkl_len hw
  rw[e] at this
  exact List.eq_nil_of_length_eq_zero this.symm
 ·rintro⟨A,ha,hn,hr⟩
  refine⟨A,ha,hn,fun q y hq=>?_⟩
  obtain⟨x,hx,hxy⟩:=wkl_get hw q y hq
  obtain⟨j1,c,j2,j3⟩:=hr q x hx
  exact⟨j1,c,j2,hxy _ _ _ j3⟩
def mk10_s (args:List PV) (H:Heap) (K:PV→Heap→Prop):Prop:=∃(w:List Mt) (m id md ins:Int) (l:List Rr) (x:PV),SlIs args [.ptr 1 0,.int .u32 id,.int .i64 md,.int .u32 ins,x]∧Wk x (.list (l.map rrc) .no)∧BkIs H 1 0 (rkM (rowsM w) m)∧MO w m∧smR l∧K (.int .i64 (makeM w m id md ins l).2) (H.set 0 (.abs (rkM (rowsM (makeM w m id md ins l).1) m)))
theorem mk10_ok:SpOk Try.prog gl 25 (.heap mk10_s):=by
 rintro args H K ⟨w,m,id,md,ins,l,x,he,hx,hb,ro,hl,hk⟩
 have he:args=_:=he
 subst he
 exact acalls_args (.cons (.refl _) (.cons (.refl _) (.cons (.refl _) (.cons (.refl _) (.cons hx .nil))))) (make_ok _ H K ⟨1,0,w,m,id,md,ins,l,.no,rfl,hb,ro,hl,hk⟩)
def ad10_s (args:List PV) (H:Heap) (K:PV→Heap→Prop):Prop:=∃(w:List Mt) (m id:Int) (l:List Rr) (x:PV),SlIs args [.ptr 1 0,.int .u32 id,x]∧Wk x (.list (l.map rrc) .no)∧BkIs H 1 0 (rkM (rowsM w) m)∧MO w m∧smR l∧K (.int .i64 (addMt w id l).2) (H.set 0 (.abs (rkM (rowsM (addMt w id l).1) m)))
theorem ad10_ok:SpOk Try.prog gl 29 (.heap ad10_s):=by
 rintro args H K ⟨w,m,id,l,x,he,hx,hb,ro,hl,hk⟩
 have he:args=_:=he
 subst he
 exact acalls_args (.cons (.refl _) (.cons (.refl _) (.cons hx .nil))) (add_ok _ H K ⟨1,0,w,m,id,l,.no,rfl,hb,ro,hl,hk⟩)
def lo10_s (args:List PV) (H:Heap) (K:PV→Heap→Prop):Prop:=∃(w:List Mt) (m p:Int),SlIs args [.ptr 1 0,.int .u32 p]∧BkIs H 1 0 (rkM (rowsM w) m)∧MO w m∧K (.tup [.int .u32 (loseM w p).2.1,.int .i64 (loseM w p).2.2.1,.int .i64 (loseM w p).2.2.2]) (H.set 0 (.abs (rkM (rowsM (loseM w p).1) m)))
theorem lo10_ok:SpOk Try.prog gl 27 (.heap lo10_s):=fun args H K ⟨w,m,p,he,hb,ro,hk⟩=>lose_ok args H K ⟨1,0,w,m,p,he,hb,ro,hk⟩
def TAK:Tab:=[(7,.heap tnew_s),(25,.heap mk10_s),(29,.heap ad10_s),(27,.heap lo10_s),(19,.read tse_s),(14,.read tmaR_s),(17,.pure team_s),(9,.pure same_s)]
theorem TAK_ok:TabOk Try.prog gl TAK:= .cons tnew_ok (.cons mk10_ok (.cons ad10_ok (.cons lo10_ok (.cons tse_ok (.cons tmaR_ok (.cons team_ok (.cons same_ok (.nil _ _))))))))
theorem awk_vc  : ∀(K:PV→Prop),(∃(n:Int),SlIs [.int .i64 2] [.int .i64 n]∧∃(w:List Mt) (m:Int) (id:Int) (md:Int) (ins:Int) (l:List Rr) (x:PV),SlIs [.ptr 1 0,.int .u32 5,.int .i64 0,.int .u32 1,.list [[PV.int .i64 1,.list [[PV.int .u32 7],[.int .u32 8]] .exact,.int .i64 0,.int .i64 0],[.int .i64 2,.list [[PV.int .u32 9]] .exact,.int .i64 0,.int .i64 0]] .exact] [.ptr 1 0,.int .u32 id,.int .i64 md,.int .u32 ins,x]∧(∀(g:Gh),∀(w:World),∀(v:Value),Rel g w x v→Rel g w (.list (l.map rrc) .no) v)∧BkIs [.abs (rkM [] (mxI 0 n)),.cells [.ptr 0 0]] 1 0 (rkM (rowsM w) m)∧MO w m∧smR l∧∃(w_1:List Mt) (m_1:Int) (p:Int),SlIs [.ptr 1 0,.int .u32 7] [.ptr 1 0,.int .u32 p]∧BkIs [.abs (rkM (rowsM (Prod.fst (makeM w m id md ins l))) m),.cells [.ptr 0 0]] 1 0 (rkM (rowsM w_1) m_1)∧MO w_1 m_1∧∃(w_2:List Mt) (m_2:Int) (id_1:Int) (l_1:List Rr) (x:PV),by refine(?_:_→Prop) (addMt w_2 id_1 l_1); exact fun h=>by refine(?_:_→Prop) (Ob.abs (rkM (rowsM (Prod.fst h)) m_2)); exact fun f=>SlIs [.ptr 1 0,.int .u32 5,.list [[PV.int .i64 1,.list [[PV.int .u32 6]] .exact,.int .i64 0,.int .i64 0]] .exact] [.ptr 1 0,.int .u32 id_1,x]∧(∀(g:Gh),∀(w:World),∀(v:Value),Rel g w x v→Rel g w (.list (l_1.map rrc) .no) v)∧BkIs [.abs (rkM (rowsM (Prod.fst (loseM w_1 p))) m_1),.cells [.ptr 0 0]] 1 0 (rkM (rowsM w_2) m_2)∧MO w_2 m_2∧smR l_1∧∃(q:Nat) (r:Nat) (w_3:List Mt) (m_3:Int) (p_1:Int),by refine(?_:_→Prop) (gM w_3 (ofM w_3 p_1)); exact fun e=>by refine(?_:_→Prop) (findM e p_1); exact fun d=>SlIs [.ptr 1 0,.int .u32 6] [.ptr q 0,.int .u32 p_1]∧BkIs [f,.cells [.ptr 0 0]] q r (rkM (rowsM w_3) m_3)∧MO w_3 m_3∧∃(q:Nat) (r:Nat) (w_4:List Mt) (m_4:Int) (t:Int),SlIs [.ptr 1 0,.int .u32 5] [.ptr q 0,.int .u32 t]∧BkIs [f,.cells [.ptr 0 0],.cells [.int .u32 (Se.pl d),.int .i64 (Se.tm d),.int .i64 (Se.nu d),.int .i64 (Se.st d),.int .i64 (Se.un d),.int .u64 (Se.no d)]] q r (rkM (rowsM w_4) m_4)∧MO w_4 m_4∧br ((Prod.snd (makeM w m id md ins l) == 0) == true) (br ((Prod.snd (Prod.snd (Prod.snd (loseM w_1 p))) == 0) == true) (br ((Prod.snd h == 0) == true) (br ((Prod.fst (Prod.snd (Prod.snd (loseM w_1 p))) == 2) == true) (br (inM e p_1 == true) (br ((Se.nu d == 0) == true) (∃(c:Mt) (t1:Tail) (t2:Tail) (k:Int),SlIs [.agg [.int .u32 (Mt.id (gM w_4 t)),.int .i64 (Mt.md (gM w_4 t)),.int .u32 (Mt.ins (gM w_4 t)),.list (List.map rrc (Mt.rows (gM w_4 t))) .no,.list (List.map stc (Mt.seats (gM w_4 t))) .no],.int .i64 1] [.agg [.int .u32 c.id,.int .i64 c.md,.int .u32 c.ins,.list (c.rows.map rrc) t1,.list (c.seats.map stc) t2],.int .i64 k]∧c.seats.length≤1000000∧∃(a:List Int) (b:List Int) (t:Tail) (t':Tail),SlIs [.list (List.map u1 (teamS c.seats k)) .no,.list [[PV.int .u32 6],[.int .u32 8]] .exact] [.list (en1 .u32 a) t,.list (en1 .u32 b) t']∧a.length≤1000000∧K (.bool (decide (a=b)))) (K (.bool false))) (K (.bool false))) (K (.bool false))) (K (.bool false))) (K (.bool false))) (K (.bool false)))→ACalls Try.prog gl 22 [] [] (fun x _=>K x):=fun K h=>acalls_of_wpc2 (T:=TAK) (L:=[]) (fun _=>0) Try.func22 (by kernel_rfl) (by kernel_rfl) (by kernel_rfl) (TAK_ok) (LOk.nil _ _ _ _ _) (holds_of_eq (by kernel_rfl) h)
def kR (t:Int) (l:List Int):Rr:=⟨t,l,0,0⟩
def kw1:List Mt:=(makeM [] 2 5 0 1 [kR 1 [7,8],kR 2 [9]]).1
def kw2:List Mt:=(loseM kw1 7).1
def kw3:List Mt:=(addMt kw2 5 [kR 1 [6]]).1
theorem kw0_ok:MO [] 2:=MO.nil (by decide) (by decide)
theorem kw1_ok:MO kw1 2:=kw0_ok.make _ _ _ _
theorem kw2_ok:MO kw2 2:=kw1_ok.lose _
theorem kw3_ok:MO kw3 2:=kw2_ok.add _ _
theorem smR_of {l:List Rr} (h:(decide (l.length≤100) && l.all fun r=>decide (r.pl.length≤100))=true):smR l:=by
 rw[Bool.and_eq_true,decide_eq_true_eq,List.all_eq_true] at h
 exact⟨h.1,fun r hr=>of_decide_eq_true (h.2 r hr)⟩
theorem wk_u {l:List Int} {t:Tail}:Wk (.list (l.map u1) t) (.list (l.map u1) .no):= .list _ _
theorem awake_core:ACalls Try.prog gl 22 [] [] (fun x _=>x = .bool true):=by
 refine awk_vc (fun x=>x = .bool true) ⟨2,rfl,[],2,5,0,1,[kR 1 [7,8],kR 2 [9]],_,rfl,wk_rows (es':=[kR 1 [7,8],kR 2 [9]].map rrc) (.cons (.refl _) (.cons (wk_u (l:=[7,8])) (.cons (.refl _) (.cons (.refl _) (.cons (.refl _) (.cons (wk_u (l:=[9])) (.cons (.refl _) (.cons (.refl _) .nil)))))))) rfl (by decide),⟨rfl,rfl⟩,kw0_ok,smR_of (by decide),
  kw1,2,7,rfl,⟨rfl,rfl⟩,kw1_ok,kw2,2,5,[kR 1 [6]],_,rfl,wk_rows (es':=[kR 1 [6]].map rrc) (.cons (.refl _) (.cons (wk_u (l:=[6])) (.cons (.refl _) (.cons (.refl _) .nil)))) rfl (by decide),⟨rfl,rfl⟩,kw2_ok,smR_of (by decide),
  1,0,kw3,2,6,rfl,⟨rfl,rfl⟩,kw3_ok,1,0,kw3,2,5,rfl,⟨rfl,rfl⟩,kw3_ok,?_⟩
 simp only[br_if]
 rw[if_pos (by kernel_rfl),if_pos (by kernel_rfl),if_pos (by kernel_rfl),if_pos (by kernel_rfl),if_pos (by kernel_rfl),if_pos (by kernel_rfl)]
 have e1:teamS (gM kw3 5).seats 1=[6,8]:=by kernel_rfl
 have e2:(gM kw3 5).seats.length≤1000000:=(kw3_ok.getsm 5).seats
 exact⟨gM kw3 5,.no,.no,1,rfl,e2,[6,8],[6,8],.no,.exact,by rw[e1]; rfl,by decide,rfl⟩
def awake_s (args:List PV) (K:PV→Prop):Prop:=SlIs args []∧K (.bool true)
theorem awake_ok:SpOk Try.prog gl 22 (.pure awake_s):=by
 rintro args K ⟨he,hk⟩
 have he:args=_:=he
 subst he
 exact spure_w gl_low .nil (fun _ h=>nomatch h) (.bool _) awake_core hk
end Go.Proofs.Ytenaelaapdhbdaa
