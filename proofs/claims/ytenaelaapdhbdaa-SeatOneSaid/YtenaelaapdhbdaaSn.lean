/-
  Begin.
-/
import Derived.Test.YtenaelaapdhbdaaSm
import Derived.Test.YtenaelaapdhbdaaProg
namespace Go.Proofs.Ytenaelaapdhbdaa
open Go Go.AM Go.Proofs
theorem addCM_ok:SpOk Try.prog gl 42 (.chg addM_s):=by
 intro args H K h
 unfold addM_s at h
 split at h
 ·obtain⟨l,most,t,v,t1,t2,he,ha,ok,hk⟩:=h
  exact⟨_,_,addM_ok _ H (fun x H1=>x=_∧H1=_) (by unfold addM_s; exact⟨l,most,t,v,t1,t2,he,ha,ok,⟨rfl,rfl⟩⟩),hk⟩
 ·exact h.elim
def TMK:Tab:=[(40,.read wrong_s),(41,.pure right_s),(42,.chg addM_s),(53,.chg putM_s),(43,.pure seated_s),(14,.read tmaR_s),(54,.chg droM_s)]
theorem TMK_ok:TabOk Try.prog gl TMK:= .cons wrong_ok (.cons right_ok (.cons addCM_ok (.cons putCM_ok (.cons seated_ok (.cons tmaR_ok (.cons droCM_ok (.nil _ _)))))))
theorem tmk1_vc (w:List Mt) (m:Int) (id md ins:Int) (l:List Rr):(by refine(?_:_→_→Prop) [Ob.cells [.ptr 1 0],.abs (rkM (rowsM w) m)] (PV.list (l.map rrc) .no); exact fun d e=>∀(K:PV→Heap→Prop),by refine(?_:_→Prop) (K (.int .i64 14) d); exact fun a=>(∃(q:Nat) (r:Nat) (w_1:List Mt) (m_1:Int) (b:List Rr) (l_1:List Rr) (t1:Tail) (t2:Tail),SlIs [.ptr 0 0,.list [] .exact,e] [.ptr q 0,.list (b.map rrc) t1,.list (l_1.map rrc) t2]∧BkIs d q r (rkM (rowsM w_1) m_1)∧MO w_1 m_1∧b.length+l_1.length≤1000000∧tot b+tot l_1≤1000000∧br (WS.ids (wsR w_1 ws0 l_1) == false) (br (!rightS id) a (br (szW b l_1) (K (.int .i64 21) d) (br (WS.ex (wsR w_1 ws0 l_1)) (K (.int .i64 11) d) (∃(c:Mt) (l_2:List Rr) (t1:Tail) (t2:Tail) (t3:Tail),SlIs [.agg [.int .u32 id,.int .i64 md,.int .u32 ins,.list [] .exact,.list [] .exact],e] [.agg [.int .u32 c.id,.int .i64 c.md,.int .u32 c.ins,.list (c.rows.map rrc) t1,.list (c.seats.map stc) t2],.list (l_2.map rrc) t3]∧Mt.Sm c∧c.rows.length+l_2.length≤1000000∧(∀(r:Rr),r∈l_2→r.pl.length≤1000000)∧c.seats.length+tot l_2≤1000000∧∃(l:List RwM) (most:Int) (t:Int) (v:Mt) (t1:Tail) (t2:Tail),SlIs [.int .u32 id,.agg [.int .u32 (Mt.id (seatAll c l_2)),.int .i64 (Mt.md (seatAll c l_2)),.int .u32 (Mt.ins (seatAll c l_2)),.list (List.map rrc (Mt.rows (seatAll c l_2))) .no,.list (List.map stc (Mt.seats (seatAll c l_2))) .no]] [.int .u32 t,.agg [.int .u32 v.id,.int .i64 v.md,.int .u32 v.ins,.list (v.rows.map rrc) t1,.list (v.seats.map stc) t2]]∧AbIs d 1 (rkM l most)∧Ok l most∧K (.int .i64 (Prod.snd (addL l most t v))) [.cells [.ptr 1 0],.abs (rkM (Prod.fst (addL l most t v)) most)])))) a)→ACalls Try.prog gl 25 [.ptr 0 0,.int .u32 id,.int .i64 md,.int .u32 ins,e] d K:Prop):=fun K h=>acalls_of_wpc2 (T:=TMK) (L:=[]) (fun o=>match o.dst with|some 46=>7|some 38=>1|some 45=>0|_=>0) Try.func25 (by kernel_rfl) (by kernel_rfl) (by kernel_rfl) (TMK_ok) (LOk.nil _ _ _ _ _) (holds_of_eq (by kernel_rfl) h)
theorem tad1_vc (w:List Mt) (m:Int) (id:Int) (l:List Rr):∀(K:PV→Heap→Prop),(∃(q:Nat) (r:Nat) (w_1:List Mt) (m_1:Int) (t:Int),by refine(?_:_→Prop) (PV.list (List.map rrc (Mt.rows (gM w_1 t))) .no); exact fun e=>by refine(?_:_→Prop) [PV.int .u32 (Mt.id (gM w_1 t)),.int .i64 (Mt.md (gM w_1 t)),.int .u32 (Mt.ins (gM w_1 t)),e,.list (List.map stc (Mt.seats (gM w_1 t))) .no]; exact fun a=>by refine(?_:_→Prop) [Ob.cells [.ptr 1 0],.abs (rkM (rowsM w) m),.cells a]; exact fun d=>SlIs [.ptr 0 0,.int .u32 id] [.ptr q 0,.int .u32 t]∧BkIs [.cells [.ptr 1 0],.abs (rkM (rowsM w) m)] q r (rkM (rowsM w_1) m_1)∧MO w_1 m_1∧br (!hasG Mt.id w_1 t) (K (.int .i64 12) d) (∃(q:Nat) (r:Nat) (w_2:List Mt) (m_2:Int) (b:List Rr) (l_1:List Rr) (t1:Tail) (t2:Tail),SlIs [.ptr 0 0,e,.list (l.map rrc) .no] [.ptr q 0,.list (b.map rrc) t1,.list (l_1.map rrc) t2]∧BkIs d q r (rkM (rowsM w_2) m_2)∧MO w_2 m_2∧b.length+l_1.length≤1000000∧tot b+tot l_1≤1000000∧br (WS.ids (wsR w_2 ws0 l_1)) (K (.int .i64 14) d) (br (szW b l_1) (K (.int .i64 21) d) (br (WS.ex (wsR w_2 ws0 l_1)) (K (.int .i64 11) d) (∃(c:Mt) (l_2:List Rr) (t1:Tail) (t2:Tail) (t3:Tail),SlIs [.agg a,.list (l.map rrc) .no] [.agg [.int .u32 c.id,.int .i64 c.md,.int .u32 c.ins,.list (c.rows.map rrc) t1,.list (c.seats.map stc) t2],.list (l_2.map rrc) t3]∧Mt.Sm c∧c.rows.length+l_2.length≤1000000∧(∀(r:Rr),r∈l_2→r.pl.length≤1000000)∧c.seats.length+tot l_2≤1000000∧∃(l:List RwM) (most:Int) (t_1:Int) (v:Mt) (t1:Tail) (t2:Tail),SlIs [.int .u32 id,.agg [.int .u32 (Mt.id (seatAll c l_2)),.int .i64 (Mt.md (seatAll c l_2)),.int .u32 (Mt.ins (seatAll c l_2)),.list (List.map rrc (Mt.rows (seatAll c l_2))) .no,.list (List.map stc (Mt.seats (seatAll c l_2))) .no]] [.int .u32 t_1,.agg [.int .u32 v.id,.int .i64 v.md,.int .u32 v.ins,.list (v.rows.map rrc) t1,.list (v.seats.map stc) t2]]∧AbIs d 1 (rkM l most)∧Ok l most∧K (.int .i64 (Prod.snd (putL l most t_1 v))) [.cells [.ptr 1 0],.abs (rkM (Prod.fst (putL l most t_1 v)) most),.cells a])))))→ACalls Try.prog gl 29 [.ptr 0 0,.int .u32 id,.list (l.map rrc) .no] [.cells [.ptr 1 0],.abs (rkM (rowsM w) m)] K:=fun K h=>acalls_of_wpc2 (T:=TMK) (L:=[]) (fun o=>match o.dst with|some 44=>7|some 39=>1|some 41=>1|some 23=>0|_=>0) Try.func29 (by kernel_rfl) (by kernel_rfl) (by kernel_rfl) (TMK_ok) (LOk.nil _ _ _ _ _) (holds_of_eq (by kernel_rfl) h)
theorem ten1_vc (w:List Mt) (m:Int) (id:Int):(by refine(?_:_→_→_→Prop) (Ob.cells [.int .u32 0,.int .i64 0,.int .u32 0,.list [] .exact,.list [] .exact]) (Ob.abs (rkM (rowsM w) m)) [PV.ptr 0 0,.int .u32 id]; exact fun d e f=>∀(K:PV→Heap→Prop),(∃(q:Nat) (r:Nat) (w_1:List Mt) (m_1:Int) (t:Int),by refine(?_:_→_→Prop) [PV.int .u32 (Mt.id (gM w_1 t)),.int .i64 (Mt.md (gM w_1 t)),.int .u32 (Mt.ins (gM w_1 t)),.list (List.map rrc (Mt.rows (gM w_1 t))) .no,.list (List.map stc (Mt.seats (gM w_1 t))) .no] (hasG Mt.id w_1 t); exact fun a c=>by refine(?_:_→Prop) (PV.tup [.agg a,.bool c]); exact fun b=>SlIs f [.ptr q 0,.int .u32 t]∧BkIs [.cells [.ptr 1 0],e,d] q r (rkM (rowsM w_1) m_1)∧MO w_1 m_1∧br c (∃(l:List RwM) (most:Int) (t_1:Int),SlIs [.int .u32 id] [.int .u32 t_1]∧AbIs [.cells [.ptr 1 0],e,d,.cells a] 1 (rkM l most)∧Ok l most∧K b [.cells [.ptr 1 0],.abs (rkM (dropL l t_1) most),.cells a,.cells a]) (K b [.cells [.ptr 1 0],e,.cells a,.cells a]))→ACalls Try.prog gl 28 f [.cells [.ptr 1 0],e] K:Prop):=fun K h=>acalls_of_wpc2 (T:=TMK) (L:=[]) (fun o=>match o.dst with|some 22=>1|some 21=>7|_=>0) Try.func28 (by kernel_rfl) (by kernel_rfl) (by kernel_rfl) (TMK_ok) (LOk.nil _ _ _ _ _) (holds_of_eq (by kernel_rfl) h)
def mk0 (id md ins:Int):Mt:=⟨id,md,ins,[],[]⟩
def makeM (w:List Mt) (m id md ins:Int) (l:List Rr):List Mt×Int:=
 if(wsR w ws0 l).ids=true∨rightS id=false then(w,14) else if szW [] l=true then(w,21) else if(wsR w ws0 l).ex=true then(w,11)
 else if hasG Mt.id w id=true then(w,11) else if(w.length:Int)≥m then(w,10) else(putG Mt.id w (seatAll (mk0 id md ins) l),0)
def addMt (w:List Mt) (id:Int) (l:List Rr):List Mt×Int:=
 if hasG Mt.id w id=false then(w,12) else if(wsR w ws0 l).ids=true then(w,14) else if szW (gM w id).rows l=true then(w,21) else if(wsR w ws0 l).ex=true then(w,11)
 else(putG Mt.id w (seatAll (gM w id) l),0)
theorem sits_id (ps:List Int) (t:Int):∀ c:Mt,(sits c ps t).id=c.id:=by
 induction ps with
 | nil=>intro c; rfl
 | cons p ps ih=>intro c; show(sits (sitM c p t) ps t).id=_; rw[ih]; rfl
theorem seatAll_id (l:List Rr):∀ c:Mt,(seatAll c l).id=c.id:=by
 induction l with
 | nil=>intro c; rfl
 | cons r l ih=>intro c; show(seatAll (seatR c r) l).id=_; rw[ih]; show(sits c r.pl r.tm).id=_; rw[sits_id]
theorem mk0_sm (id md ins:Int):(mk0 id md ins).Sm:=⟨(show(0:Nat)≤1000000 by decide),(show(0:Nat)≤1000000 by decide),fun _ h=>nomatch h⟩
theorem addL_rows {w:List Mt} {m:Int} (h:MO w m) (c:Mt) (hr:rightS c.id=true):addL (rowsM w) m c.id c=if hasG Mt.id w c.id=true then(rowsM w,11) else if(w.length:Int)≥m then(rowsM w,10) else(rowsM (putG Mt.id w c),0):=by
 unfold addL
 rw[rowsOf_has h.ok]
 by_cases k:hasG Mt.id w c.id=true
 ·rw[if_pos k,if_pos k]
 ·rw[if_neg k,if_neg k,rowsOf_put h.rise h.ok,if_pos hr]
  by_cases k2:(w.length:Int)≥m
  ·rw[if_pos ⟨by simpa using k,k2⟩,if_pos k2]
  ·rw[if_neg (fun e=>k2 e.2),if_neg k2]
theorem putL_rows {w:List Mt} {m:Int} (h:MO w m) (c:Mt) (hr:rightS c.id=true) (hh:hasG Mt.id w c.id=true):putL (rowsM w) m c.id c=(rowsM (putG Mt.id w c),0):=by
 rw[rowsOf_put h.rise h.ok,if_pos hr,if_neg (fun e=>by rw[hh] at e; cases e.1)]
def smR (l:List Rr):Prop:=l.length≤100∧∀ r∈l,r.pl.length≤100
theorem tot_sm:∀(l:List Rr),(∀ r∈l,r.pl.length≤100)→tot l≤l.length*100
 | [],_=>Nat.le_refl _
 | r::l,h=>by
  have:=tot_sm l fun a ha=>h a (by simp[ha])
  have h1:=h r (by simp)
  unfold tot at *
  simp only[List.map_cons,List.sum_cons,List.length_cons]; omega
theorem smR.tot {l:List Rr} (h:smR l):Go.Proofs.Ytenaelaapdhbdaa.tot l≤10000:=by have:=tot_sm l h.2; have:=h.1; omega
def make_s (args:List PV) (H:Heap) (K:PV→Heap→Prop):Prop:=∃(q r:Nat) (w:List Mt) (m id md ins:Int) (l:List Rr) (t:Tail),SlIs args [.ptr q 0,.int .u32 id,.int .i64 md,.int .u32 ins,.list (l.map rrc) t]∧BkIs H q r (rkM (rowsM w) m)∧MO w m∧smR l∧
 K (.int .i64 (makeM w m id md ins l).2) (H.set r (.abs (rkM (rowsM (makeM w m id md ins l).1) m)))
theorem make_ok:SpOk Try.prog gl 25 (.heap make_s):=by
 rintro args H K ⟨q,r,w,m,id,md,ins,l,t,he,hb,ro,hl,hk⟩
 have he:args=_:=he
 subst he
 have hlt:=hl.tot
 have hll:=hl.1
 refine acalls_args (.cons (.refl _) (.cons (.refl _) (.cons (.refl _) (.cons (.refl _) (.cons (.list _ _) .nil))))) ?_
 refine book_heap gl_low hb (low_four (.int _ _) (.int _ _) (.int _ _) (low_rrs _)) (.int _ _) (tmk1_vc w m id md ins l _ ⟨0,1,w,m,[],l,.exact,.no,rfl,⟨rfl,rfl⟩,ro,by simp; omega,by show 0+tot l≤_; omega,?_⟩) hk
 obtain⟨z,hz⟩:∃ z,z=makeM w m id md ins l:=⟨_,rfl⟩
 rw[← hz]
 unfold makeM at hz
 simp only[br_if]
 by_cases c1:(wsR w ws0 l).ids=true
 ·rw[if_pos (.inl c1)] at hz
  rw[if_neg (by rw[c1]; decide),hz]; exact⟨rfl,[],rfl⟩
 ·rw[if_pos (by simpa using c1)]
  by_cases c2:rightS id=true
  ·rw[if_neg (fun e=>by rcases e with e|e; exact c1 e; rw[c2] at e; cases e)] at hz
   rw[if_neg (by rw[c2]; decide)]
   by_cases c3:szW [] l=true
   ·rw[if_pos c3] at hz
    rw[if_pos c3,hz]; exact⟨rfl,[],rfl⟩
   ·rw[if_neg c3] at hz
    rw[if_neg c3]
    by_cases c4:(wsR w ws0 l).ex=true
    ·rw[if_pos c4] at hz
     rw[if_pos c4,hz]; exact⟨rfl,[],rfl⟩
    ·rw[if_neg c4] at hz
     rw[if_neg c4]
     have e:=addL_rows ro (seatAll (mk0 id md ins) l) (by rw[seatAll_id]; exact c2)
     rw[seatAll_id] at e
     have e:addL (rowsM w) m id (seatAll (mk0 id md ins) l)=if hasG Mt.id w id=true then(rowsM w,11) else if(w.length:Int)≥m then(rowsM w,10) else(rowsM (putG Mt.id w (seatAll (mk0 id md ins) l)),0):=e
     refine⟨mk0 id md ins,l,.exact,.exact,.no,rfl,mk0_sm _ _ _,by show 0+_≤_; omega,fun r hr=>by have:=hl.2 r hr; omega,by show 0+tot l≤_; omega,rowsM w,m,id,seatAll (mk0 id md ins) l,.no,.no,rfl,rfl,ro.ok,?_⟩
     rw[e]
     by_cases c5:hasG Mt.id w id=true
     ·rw[if_pos c5] at hz
      rw[if_pos c5,hz]; exact⟨rfl,[],rfl⟩
     ·rw[if_neg c5] at hz
      rw[if_neg c5]
      by_cases c6:(w.length:Int)≥m
      ·rw[if_pos c6] at hz
       rw[if_pos c6,hz]; exact⟨rfl,[],rfl⟩
      ·rw[if_neg c6] at hz
       rw[if_neg c6,hz]; exact⟨rfl,[],rfl⟩
  ·rw[if_pos (.inr (by simpa using c2))] at hz
   rw[if_pos (by simpa using c2),hz]; exact⟨rfl,[],rfl⟩
def add_s (args:List PV) (H:Heap) (K:PV→Heap→Prop):Prop:=∃(q r:Nat) (w:List Mt) (m id:Int) (l:List Rr) (t:Tail),SlIs args [.ptr q 0,.int .u32 id,.list (l.map rrc) t]∧BkIs H q r (rkM (rowsM w) m)∧MO w m∧smR l∧
 K (.int .i64 (addMt w id l).2) (H.set r (.abs (rkM (rowsM (addMt w id l).1) m)))
theorem MO.gmid {w:List Mt} {t:Int} (h:hasG Mt.id w t=true):(gM w t).id=t:=(getG_mem h).2
theorem MO.gmok {w:List Mt} {m t:Int} (ro:MO w m) (h:hasG Mt.id w t=true):(gM w t).Ok:=ro.cs _ (getG_mem h).1
theorem add_ok:SpOk Try.prog gl 29 (.heap add_s):=by
 rintro args H K ⟨q,r,w,m,id,l,t,he,hb,ro,hl,hk⟩
 have he:args=_:=he
 subst he
 have hlt:=hl.tot
 have hll:=hl.1
 refine acalls_args (.cons (.refl _) (.cons (.refl _) (.cons (.list _ _) .nil))) ?_
 refine book_heap gl_low hb (low_two (.int _ _) (low_rrs _)) (.int _ _) (tad1_vc w m id l _ ⟨0,1,w,m,id,rfl,⟨rfl,rfl⟩,ro,?_⟩) hk
 unfold addMt
 simp only[br_if]
 by_cases c0:hasG Mt.id w id=true
 ·rw[if_neg (by rw[c0]; decide),if_neg (by rw[c0]; decide)]
  have hok:=ro.gmok c0
  have hrow:=len_tot hok.ne
  have htt:=hok.tot
  have hse:=hok.seats
  refine⟨0,1,w,m,(gM w id).rows,l,.no,.no,rfl,⟨rfl,rfl⟩,ro,by omega,by omega,?_⟩
  by_cases c1:(wsR w ws0 l).ids=true
  ·rw[if_pos c1,if_pos c1]; exact⟨rfl,_,rfl⟩
  ·rw[if_neg c1,if_neg c1]
   by_cases c3:szW (gM w id).rows l=true
   ·rw[if_pos c3,if_pos c3]; exact⟨rfl,_,rfl⟩
   ·rw[if_neg c3,if_neg c3]
    by_cases c4:(wsR w ws0 l).ex=true
    ·rw[if_pos c4,if_pos c4]; exact⟨rfl,_,rfl⟩
    ·rw[if_neg c4,if_neg c4]
     have hid:(seatAll (gM w id) l).id=id:=by rw[seatAll_id]; exact MO.gmid c0
     have e:=putL_rows ro (seatAll (gM w id) l) (by rw[seatAll_id]; exact hok.rt) (by rw[hid]; exact c0)
     rw[hid] at e
     refine⟨gM w id,l,.no,.no,.no,rfl,hok.sm,by omega,fun r hr=>by have:=hl.2 r hr; omega,by omega,rowsM w,m,id,seatAll (gM w id) l,.no,.no,rfl,rfl,ro.ok,?_⟩
     rw[e]
     exact⟨rfl,_,rfl⟩
 ·rw[if_pos (by simpa using c0),if_pos (by simpa using c0)]
  exact⟨rfl,_,rfl⟩
def end_s (args:List PV) (H:Heap) (K:PV→Heap→Prop):Prop:=∃(q r:Nat) (w:List Mt) (m id:Int),SlIs args [.ptr q 0,.int .u32 id]∧BkIs H q r (rkM (rowsM w) m)∧MO w m∧
 K (.tup [(gM w id).pv,.bool (hasG Mt.id w id)]) (H.set r (.abs (rkM (rowsM (dropG Mt.id w id)) m)))
theorem dropG_none {w:List Mt} {t:Int} (h:hasG Mt.id w t=false):dropG Mt.id w t=w:=by
 unfold dropG
 rw[List.filter_eq_self]
 intro a ha
 rw[bne_iff_ne]
 intro e
 have:=hasG_iff.2 ⟨a,ha,e⟩
 rw[h] at this; cases this
theorem end_ok:SpOk Try.prog gl 28 (.heap end_s):=by
 rintro args H K ⟨q,r,w,m,id,he,hb,ro,hk⟩
 have he:args=_:=he
 subst he
 refine book_heap gl_low hb low0_int (low_mtb _ _) (ten1_vc w m id _ ⟨0,1,w,m,id,rfl,⟨rfl,rfl⟩,ro,?_⟩) hk
 rw[br_if]
 by_cases c:hasG Mt.id w id=true
 ·rw[if_pos c]
  refine⟨rowsM w,m,id,rfl,rfl,ro.ok,?_⟩
  rw[rowsOf_drop ro.ok]
  exact⟨rfl,_,rfl⟩
 ·rw[if_neg c,dropG_none (by simpa using c)]
  exact⟨rfl,_,rfl⟩
end Go.Proofs.Ytenaelaapdhbdaa
