/-
  Begin.
-/
import Derived.Test.YtenaelaapdhbdaaDoorDm
import Derived.Test.YtenaelaapdhbdaaDoorProg
namespace Go.Proofs.YtenaelaapdhbdaaDoor
open Go Go.AM Go.Proofs
theorem Au:aO Tryd.prog gl 32 (.chg jX):=by
 intro args H K h
 unfold jX at h
 split at h
 ·obtain⟨l,most,t,v,t1,t2,he,ha,ok,hk⟩:=h
  exact⟨_,_,wD _ H (fun x H1=>x=_∧H1=_) (by unfold jX; exact⟨l,most,t,v,t1,t2,he,ha,ok,⟨rfl,rfl⟩⟩),hk⟩
 ·exact h.elim
def TMK:Tab:=[(31,.read iR),(26,.pure ki),(32,.chg jX),(40,.chg gJ),(33,.pure s3),(20,.read uV),(50,.chg jI)]
theorem AD:aB Tryd.prog gl TMK:= .cons oX (.cons od (.cons Au (.cons oM (.cons xm (.cons w7 (.cons sE (.nil _ _)))))))
theorem EI (w:List Mt) (m:Int) (id md ins:Int) (l:List Rr):(by refine(?_:_→_→Prop) [Ob.cells [.ptr 1 0],.abs (rkM (ar w) m)] (PV.list (l.map rrc) .no); exact fun d e=>∀(K:PV→ae→Prop),by refine(?_:_→Prop) (K (.int .i64 14) d); exact fun a=>(∃(q:Nat) (r:Nat) (w_1:List Mt) (m_1:Int) (b:List Rr) (l_1:List Rr) (t1:Tail) (t2:Tail),ak [.ptr 0 0,.list [] .exact,e] [.ptr q 0,.list (b.map rrc) t1,.list (l_1.map rrc) t2]∧cC d q r (rkM (ar w_1) m_1)∧MO w_1 m_1∧b.length+l_1.length≤1000000∧tot b+tot l_1≤1000000∧br (WS.ids (wsR w_1 ws0 l_1) == false) (br (!aF id) a (br (szW b l_1) (K (.int .i64 21) d) (br (WS.ex (wsR w_1 ws0 l_1)) (K (.int .i64 11) d) (∃(c:Mt) (l_2:List Rr) (t1:Tail) (t2:Tail) (t3:Tail),ak [.agg [.int .u32 id,.int .i64 md,.int .u32 ins,.list [] .exact,.list [] .exact],e] [.agg [.int .u32 c.id,.int .i64 c.md,.int .u32 c.ins,.list (c.rows.map rrc) t1,.list (c.aa.map stc) t2],.list (l_2.map rrc) t3]∧Mt.Sm c∧c.rows.length+l_2.length≤1000000∧(∀(r:Rr),r∈l_2→r.pl.length≤1000000)∧c.aa.length+tot l_2≤1000000∧∃(l:List RwM) (most:Int) (t:Int) (v:Mt) (t1:Tail) (t2:Tail),ak [.int .u32 id,.agg [.int .u32 (Mt.id (aA c l_2)),.int .i64 (Mt.md (aA c l_2)),.int .u32 (Mt.ins (aA c l_2)),.list (List.map rrc (Mt.rows (aA c l_2))) .no,.list (List.map stc (Mt.aa (aA c l_2))) .no]] [.int .u32 t,.agg [.int .u32 v.id,.int .i64 v.md,.int .u32 v.ins,.list (v.rows.map rrc) t1,.list (v.aa.map stc) t2]]∧bO d 1 (rkM l most)∧Ok l most∧K (.int .i64 (Prod.snd (tr l most t v))) [.cells [.ptr 1 0],.abs (rkM (Prod.fst (tr l most t v)) most)])))) a)→aj Tryd.prog gl 16 [.ptr 0 0,.int .u32 id,.int .i64 md,.int .u32 ins,e] d K:Prop):=fun K h=>ah (T:=TMK) (L:=[]) (fun o=>match o.dst with|some 46=>7|some 38=>1|some 45=>0|_=>0) Tryd.func16 (by kernel_rfl) (by kernel_rfl) (by kernel_rfl) (AD) (LOk.nil _ _ _ _ _) (ag (by kernel_rfl) h)
theorem Gs (w:List Mt) (m:Int) (id:Int):(by refine(?_:_→_→_→Prop) (Ob.cells [.int .u32 0,.int .i64 0,.int .u32 0,.list [] .exact,.list [] .exact]) (Ob.abs (rkM (ar w) m)) [PV.ptr 0 0,.int .u32 id]; exact fun d e f=>∀(K:PV→ae→Prop),(∃(q:Nat) (r:Nat) (w_1:List Mt) (m_1:Int) (t:Int),by refine(?_:_→_→Prop) [PV.int .u32 (Mt.id (gM w_1 t)),.int .i64 (Mt.md (gM w_1 t)),.int .u32 (Mt.ins (gM w_1 t)),.list (List.map rrc (Mt.rows (gM w_1 t))) .no,.list (List.map stc (Mt.aa (gM w_1 t))) .no] (bu Mt.id w_1 t); exact fun a c=>by refine(?_:_→Prop) (PV.tup [.agg a,.bool c]); exact fun b=>ak f [.ptr q 0,.int .u32 t]∧cC [.cells [.ptr 1 0],e,d] q r (rkM (ar w_1) m_1)∧MO w_1 m_1∧br c (∃(l:List RwM) (most:Int) (t_1:Int),ak [.int .u32 id] [.int .u32 t_1]∧bO [.cells [.ptr 1 0],e,d,.cells a] 1 (rkM l most)∧Ok l most∧K b [.cells [.ptr 1 0],.abs (rkM (oz l t_1) most),.cells a,.cells a]) (K b [.cells [.ptr 1 0],e,.cells a,.cells a]))→aj Tryd.prog gl 23 f [.cells [.ptr 1 0],e] K:Prop):=fun K h=>ah (T:=TMK) (L:=[]) (fun o=>match o.dst with|some 22=>1|some 21=>7|_=>0) Tryd.func23 (by kernel_rfl) (by kernel_rfl) (by kernel_rfl) (AD) (LOk.nil _ _ _ _ _) (ag (by kernel_rfl) h)
def mk0 (id md ins:Int):Mt:=⟨id,md,ins,[],[]⟩
def dn (w:List Mt) (m id md ins:Int) (l:List Rr):List Mt×Int:=
 if(wsR w ws0 l).ids=true∨aF id=false then(w,14) else if szW [] l=true then(w,21) else if(wsR w ws0 l).ex=true then(w,11)
 else if bu Mt.id w id=true then(w,11) else if(w.length:Int)≥m then(w,10) else(eT Mt.id w (aA (mk0 id md ins) l),0)
theorem Gp (ps:List Int) (t:Int):∀ c:Mt,(cF c ps t).id=c.id:=by
 induction ps with
 | nil=>intro c; rfl
 | cons p ps ih=>intro c; show(cF (fE c p t) ps t).id=_; rw[ih]; rfl
theorem gR (l:List Rr):∀ c:Mt,(aA c l).id=c.id:=by
 induction l with
 | nil=>intro c; rfl
 | cons r l ih=>intro c; show(aA (fc c r) l).id=_; rw[ih]; show(cF c r.pl r.tm).id=_; rw[Gp]
theorem JV (id md ins:Int):(mk0 id md ins).Sm:=⟨(show(0:Nat)≤1000000 by decide),(show(0:Nat)≤1000000 by decide),fun _ h=>nomatch h⟩
theorem yx {w:List Mt} {m:Int} (h:MO w m) (c:Mt) (hr:aF c.id=true):tr (ar w) m c.id c=if bu Mt.id w c.id=true then(ar w,11) else if(w.length:Int)≥m then(ar w,10) else(ar (eT Mt.id w c),0):=by
 unfold tr
 rw[gv h.ok]
 by_cases k:bu Mt.id w c.id=true
 ·rw[if_pos k,if_pos k]
 ·rw[if_neg k,if_neg k,o3 h.rise h.ok,if_pos hr]
  by_cases k2:(w.length:Int)≥m
  ·rw[if_pos ⟨by simpa using k,k2⟩,if_pos k2]
  ·rw[if_neg (fun e=>k2 e.2),if_neg k2]
theorem xV {w:List Mt} {m:Int} (h:MO w m) (c:Mt) (hr:aF c.id=true) (hh:bu Mt.id w c.id=true):bZ (ar w) m c.id c=(ar (eT Mt.id w c),0):=by
 rw[o3 h.rise h.ok,if_pos hr,if_neg (fun e=>by rw[hh] at e; cases e.1)]
def smR (l:List Rr):Prop:=l.length≤100∧∀ r∈l,r.pl.length≤100
theorem Br:∀(l:List Rr),(∀ r∈l,r.pl.length≤100)→tot l≤l.length*100
 | [],_=>Nat.le_refl _
 | r::l,h=>by
  have:=Br l fun a ha=>h a (by simp[ha])
  have h1:=h r (by simp)
  unfold tot at *
  simp only[List.map_cons,List.sum_cons,List.length_cons]; omega
theorem smR.tot {l:List Rr} (h:smR l):Go.Proofs.YtenaelaapdhbdaaDoor.tot l≤10000:=by have:=Br l h.2; have:=h.1; omega
def IY (args:List PV) (H:ae) (K:PV→ae→Prop):Prop:=∃(q r:Nat) (w:List Mt) (m id md ins:Int) (l:List Rr) (t:Tail),ak args [.ptr q 0,.int .u32 id,.int .i64 md,.int .u32 ins,.list (l.map rrc) t]∧cC H q r (rkM (ar w) m)∧MO w m∧smR l∧
 K (.int .i64 (dn w m id md ins l).2) (H.set r (.abs (rkM (ar (dn w m id md ins l).1) m)))
theorem vx:aO Tryd.prog gl 16 (.heap IY):=by
 rintro args H K ⟨q,r,w,m,id,md,ins,l,t,he,hb,ro,hl,hk⟩
 have he:args=_:=he
 subst he
 have hlt:=hl.tot
 have hll:=hl.1
 refine bg (.cons (.refl _) (.cons (.refl _) (.cons (.refl _) (.cons (.refl _) (.cons (.list _ _) .nil))))) ?_
 refine iN aq hb (kY (.int _ _) (.int _ _) (.int _ _) (aQ _)) (.int _ _) (EI w m id md ins l _ ⟨0,1,w,m,[],l,.exact,.no,rfl,⟨rfl,rfl⟩,ro,by simp; omega,by show 0+tot l≤_; omega,?_⟩) hk
 obtain⟨z,hz⟩:∃ z,z=dn w m id md ins l:=⟨_,rfl⟩
 rw[← hz]
 unfold dn at hz
 simp only[ay]
 by_cases c1:(wsR w ws0 l).ids=true
 ·rw[if_pos (.inl c1)] at hz
  rw[if_neg (by rw[c1]; decide),hz]; exact⟨rfl,[],rfl⟩
 ·rw[if_pos (by simpa using c1)]
  by_cases c2:aF id=true
  ·rw[if_neg (fun e=>by rcases e with e|e; exact c1 e; rw[c2] at e; cases e)] at hz
   rw[if_neg (by rw[c2]; decide)]
   by_cases c3:szW [] l=true
   ·rw[if_pos c3] at hz
    rw[if_pos c3,hz]; exact⟨rfl,[],rfl⟩
   ·rw[if_neg c3] at hz
    rw[if_neg c3]
    by_cases c4:(wsR w ws0 l).ex=true
    ·rw[if_pos c4] at hz
     rw[if_pos c4,hz]; exact⟨rfl,[],rfl⟩
    ·rw[if_neg c4] at hz
     rw[if_neg c4]
     have e:=yx ro (aA (mk0 id md ins) l) (by rw[gR]; exact c2)
     rw[gR] at e
     have e:tr (ar w) m id (aA (mk0 id md ins) l)=if bu Mt.id w id=true then(ar w,11) else if(w.length:Int)≥m then(ar w,10) else(ar (eT Mt.id w (aA (mk0 id md ins) l)),0):=e
     refine⟨mk0 id md ins,l,.exact,.exact,.no,rfl,JV _ _ _,by show 0+_≤_; omega,fun r hr=>by have:=hl.2 r hr; omega,by show 0+tot l≤_; omega,ar w,m,id,aA (mk0 id md ins) l,.no,.no,rfl,rfl,ro.ok,?_⟩
     rw[e]
     by_cases c5:bu Mt.id w id=true
     ·rw[if_pos c5] at hz
      rw[if_pos c5,hz]; exact⟨rfl,[],rfl⟩
     ·rw[if_neg c5] at hz
      rw[if_neg c5]
      by_cases c6:(w.length:Int)≥m
      ·rw[if_pos c6] at hz
       rw[if_pos c6,hz]; exact⟨rfl,[],rfl⟩
      ·rw[if_neg c6] at hz
       rw[if_neg c6,hz]; exact⟨rfl,[],rfl⟩
  ·rw[if_pos (.inr (by simpa using c2))] at hz
   rw[if_pos (by simpa using c2),hz]; exact⟨rfl,[],rfl⟩
theorem MO.Jp {w:List Mt} {t:Int} (h:bu Mt.id w t=true):(gM w t).id=t:=(fj h).2
theorem MO.Ap {w:List Mt} {m t:Int} (ro:MO w m) (h:bu Mt.id w t=true):(gM w t).Ok:=ro.cs _ (fj h).1
def KY (args:List PV) (H:ae) (K:PV→ae→Prop):Prop:=∃(q r:Nat) (w:List Mt) (m id:Int),ak args [.ptr q 0,.int .u32 id]∧cC H q r (rkM (ar w) m)∧MO w m∧
 K (.tup [(gM w id).pv,.bool (bu Mt.id w id)]) (H.set r (.abs (rkM (ar (eN Mt.id w id)) m)))
theorem uj {w:List Mt} {t:Int} (h:bu Mt.id w t=false):eN Mt.id w t=w:=by
 unfold eN
 rw[List.filter_eq_self]
 intro a ha
 rw[bne_iff_ne]
 intro e
 have:=dk.2 ⟨a,ha,e⟩
 rw[h] at this; cases this
theorem Jj:aO Tryd.prog gl 23 (.heap KY):=by
 rintro args H K ⟨q,r,w,m,id,he,hb,ro,hk⟩
 have he:args=_:=he
 subst he
 refine iN aq hb cM (qI _ _) (Gs w m id _ ⟨0,1,w,m,id,rfl,⟨rfl,rfl⟩,ro,?_⟩) hk
 rw[ay]
 by_cases c:bu Mt.id w id=true
 ·rw[if_pos c]
  refine⟨ar w,m,id,rfl,rfl,ro.ok,?_⟩
  rw[tg ro.ok]
  exact⟨rfl,_,rfl⟩
 ·rw[if_neg c,uj (by simpa using c)]
  exact⟨rfl,_,rfl⟩
end Go.Proofs.YtenaelaapdhbdaaDoor
