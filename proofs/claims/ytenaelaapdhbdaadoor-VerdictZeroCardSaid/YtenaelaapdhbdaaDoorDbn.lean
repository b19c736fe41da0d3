/-
  Awake.
-/
import Derived.Test.YtenaelaapdhbdaaDoorDbm
import Derived.Test.YtenaelaapdhbdaaDoorProg
namespace Go.Proofs.YtenaelaapdhbdaaDoor
open Go Go.AM Go.Proofs
theorem F4 {xs ys:List PV} (h:WkL xs ys):∀(q:Nat) (y:PV),ys[q]?=some y→∃ x,xs[q]?=some x∧Wk x y:=by
 induction h with
 | nil=>intro q y h; simp at h
 | cons h _ ih=>
  intro q y hq
  cases q with
  | zero=>simp at hq; subst hq; exact⟨_,rfl,h⟩
  | succ q=>simpa using ih q y (by simpa using hq)
theorem F0 {xs ys:List PV} (h:WkL xs ys):xs.length=ys.length:=by
 induction h with
 | nil=>rfl
 | cons _ _ ih=>simp[ih]
theorem Fu {es es':List (List PV)} {t:Tail} (hw:WkL es.flatten es'.flatten) (hl:es.length=es'.length) (hu:∀ e∈es',∀ e'∈es',e.length=e'.length):Wk (.list es t) (.list es' .no):=by
 intro g w v h
 obtain⟨a,cap,rfl,h1,h2,_,h4⟩:=Rel.aT.1 h
 refine Rel.aT.2 ⟨a,cap,by rw[hl],hu,by omega,trivial,h4.imp (fun e=>?_) ?_⟩
 ·have:=F0 hw
  rw[e] at this
  exact List.eq_nil_of_length_eq_zero this.symm
 ·rintro⟨A,ha,hn,hr⟩
  refine⟨A,ha,hn,fun q y hq=>?_⟩
  obtain⟨x,hx,hxy⟩:=F4 hw q y hq
  obtain⟨j1,c,j2,j3⟩:=hr q x hx
  exact⟨j1,c,j2,hxy _ _ _ j3⟩
def DP (args:List PV) (H:ae) (K:PV→ae→Prop):Prop:=∃(l:List RwI) (most t v:Int),ak args [.ptr 0 0,.int .u32 t,.int .i64 v]∧bO H 0 (rkI l most)∧Ok l most∧K (.int .i64 (bZ l most t v).2) (H.set 0 (.abs (rkI (bZ l most t v).1 most)))
theorem Gw:aO Tryd.prog gl 14 (.heap DP):=by
 rintro args H K ⟨l,most,t,v,he,hb,ok,hk⟩
 have he:args=_:=he
 subst he
 exact q3 _ H K ⟨l,most,t,v,rfl,hb,ok,hk⟩
def z1 (args:List PV) (H:ae) (K:PV→ae→Prop):Prop:=∃(w:List Mt) (m id md ins:Int) (l:List Rr) (x:PV),ak args [.ptr 2 0,.int .u32 id,.int .i64 md,.int .u32 ins,x]∧Wk x (.list (l.map rrc) .no)∧cC H 2 1 (rkM (ar w) m)∧MO w m∧smR l∧K (.int .i64 (dn w m id md ins l).2) (H.set 1 (.abs (rkM (ar (dn w m id md ins l).1) m)))
theorem Gn:aO Tryd.prog gl 16 (.heap z1):=by
 rintro args H K ⟨w,m,id,md,ins,l,x,he,hx,hb,ro,hl,hk⟩
 have he:args=_:=he
 subst he
 exact bg (.cons (.refl _) (.cons (.refl _) (.cons (.refl _) (.cons (.refl _) (.cons hx .nil))))) (vx _ H K ⟨2,1,w,m,id,md,ins,l,.no,rfl,hb,ro,hl,hk⟩)
def vB (args:List PV) (H:ae) (K:PV→ae→Prop):Prop:=∃(w:List Mt) (m p st un no:Int),ak args [.ptr 2 0,.int .u32 p,.int .i64 st,.int .i64 un,.int .u64 no]∧cC H 2 1 (rkM (ar w) m)∧MO w m∧K (.int .i64 (dL w p st un no).2) (H.set 1 (.abs (rkM (ar (dL w p st un no).1) m)))
theorem BF:aO Tryd.prog gl 18 (.heap vB):=fun args H K ⟨w,m,p,st,un,no,he,hb,ro,hk⟩=>zw args H K ⟨2,1,w,m,p,st,un,no,he,hb,ro,hk⟩
def TAW:Tab:=[(12,.heap uS),(13,.heap uZ),(14,.heap DP),(16,.heap z1),(18,.heap vB),(7,.heap g9),(11,.read oG)]
theorem IT:aB Tryd.prog gl TAW:= .cons wh (.cons vg (.cons Gw (.cons Gn (.cons BF (.cons mg (.cons nj (.nil _ _)))))))
theorem JP  : ∀(K:PV→Prop),(∃(n:Int),ak [.int .i64 4] [.int .i64 n]∧∃(n_1:Int),by refine(?_:_→Prop) (Ob.abs (rkM [] (mxI 0 n_1))); exact fun s=>ak [.int .i64 2] [.int .i64 n_1]∧∃(l:List RwI) (most:Int) (t:Int) (v:Int),ak [.ptr 0 0,.int .u32 1,.int .i64 1500] [.ptr 0 0,.int .u32 t,.int .i64 v]∧bO [.abs (rkI [] (mxI 0 n)),s,.cells [.ptr 1 0]] 0 (rkI l most)∧Ok l most∧∃(l_1:List RwI) (most_1:Int) (t_1:Int) (v_1:Int),by refine(?_:_→Prop) (rkI (Prod.fst (bZ l_1 most_1 t_1 v_1)) most_1); exact fun o=>ak [.ptr 0 0,.int .u32 2,.int .i64 1500] [.ptr 0 0,.int .u32 t_1,.int .i64 v_1]∧bO [.abs (rkI (Prod.fst (bZ l most t v)) most),s,.cells [.ptr 1 0]] 0 (rkI l_1 most_1)∧Ok l_1 most_1∧∃(w:List Mt) (m:Int) (id:Int) (md:Int) (ins:Int) (l:List Rr) (x:PV),ak [.ptr 2 0,.int .u32 9,.int .i64 0,.int .u32 3,.list [[PV.int .i64 1,.list [[PV.int .u32 1]] .exact,.int .i64 0,.int .i64 0],[.int .i64 2,.list [[PV.int .u32 2]] .exact,.int .i64 0,.int .i64 0]] .exact] [.ptr 2 0,.int .u32 id,.int .i64 md,.int .u32 ins,x]∧(∀(g:Gh),∀(w:World),∀(v:Value),Rel g w x v→Rel g w (.list (l.map rrc) .no) v)∧cC [.abs o,s,.cells [.ptr 1 0]] 2 1 (rkM (ar w) m)∧MO w m∧smR l∧∃(w_1:List Mt) (m_1:Int) (p:Int) (st:Int) (un:Int) (no:Int),ak [.ptr 2 0,.int .u32 1,.int .i64 2,.int .i64 0,.int .u64 0] [.ptr 2 0,.int .u32 p,.int .i64 st,.int .i64 un,.int .u64 no]∧cC [.abs o,.abs (rkM (ar (Prod.fst (dn w m id md ins l))) m),.cells [.ptr 1 0]] 2 1 (rkM (ar w_1) m_1)∧MO w_1 m_1∧∃(w_2:List Mt) (m_2:Int) (p_1:Int) (st_1:Int) (un_1:Int) (no_1:Int),by refine(?_:_→Prop) [Ob.abs o,.abs (rkM (ar (Prod.fst (dL w_2 p_1 st_1 un_1 no_1))) m_2),.cells [.ptr 1 0]]; exact fun k=>ak [.ptr 2 0,.int .u32 2,.int .i64 2,.int .i64 0,.int .u64 0] [.ptr 2 0,.int .u32 p_1,.int .i64 st_1,.int .i64 un_1,.int .u64 no_1]∧cC [.abs o,.abs (rkM (ar (Prod.fst (dL w_1 p st un no))) m_1),.cells [.ptr 1 0]] 2 1 (rkM (ar w_2) m_2)∧MO w_2 m_2∧∃(ra:List RwI) (mb:Int) (w_3:List Mt) (m_3:Int) (ins_1:Int) (id_1:Int) (r:Int),by refine(?_:_→Prop) (bi ra mb w_3 ins_1 id_1 r); exact fun d=>by refine(?_:_→_→Prop) (Ob.cells [.int .u32 (Vd.m (Rp.v d)),.int .u32 (Vd.i (Rp.v d)),.int .i64 (Vd.r (Rp.v d)),.list (List.map u1 (Vd.ps (Rp.v d))) .no,.list (List.map i1 (Vd.old (Rp.v d))) .no,.list (List.map i1 (Vd.new (Rp.v d))) .no]) (Ob.cells [.int .u32 (Mt.id (Rp.c d)),.int .i64 (Mt.md (Rp.c d)),.int .u32 (Mt.ins (Rp.c d)),.list (List.map rrc (Mt.rows (Rp.c d))) .no,.list (List.map stc (Mt.aa (Rp.c d))) .no]); exact fun h j=>by refine(?_:_→Prop) [Ob.abs (rkI (Rp.ra d) mb),.abs (rkM (ar (Rp.w d)) m_3),.cells [.ptr 1 0],h,j]; exact fun f=>ak [.int .u32 3,.int .u32 9,.int .i64 1] [.int .u32 ins_1,.int .u32 id_1,.int .i64 r]∧bO k 0 (rkI ra mb)∧cC k 2 1 (rkM (ar w_3) m_3)∧0≠1∧Ok ra mb∧MO w_3 m_3∧∃(ra_1:List RwI) (mb_1:Int) (w_4:List Mt) (m_4:Int) (ins_2:Int) (id_2:Int) (r_1:Int),by refine(?_:_→Prop) (bi ra_1 mb_1 w_4 ins_2 id_2 r_1); exact fun b=>by refine(?_:_→Prop) [Ob.abs (rkI (Rp.ra b) mb_1),.abs (rkM (ar (Rp.w b)) m_4),.cells [.ptr 1 0],h,j,.cells [.int .u32 (Vd.m (Rp.v b)),.int .u32 (Vd.i (Rp.v b)),.int .i64 (Vd.r (Rp.v b)),.list (List.map u1 (Vd.ps (Rp.v b))) .no,.list (List.map i1 (Vd.old (Rp.v b))) .no,.list (List.map i1 (Vd.new (Rp.v b))) .no],.cells [.int .u32 (Mt.id (Rp.c b)),.int .i64 (Mt.md (Rp.c b)),.int .u32 (Mt.ins (Rp.c b)),.list (List.map rrc (Mt.rows (Rp.c b))) .no,.list (List.map stc (Mt.aa (Rp.c b))) .no]]; exact fun a=>ak [.int .u32 3,.int .u32 9,.int .i64 1] [.int .u32 ins_2,.int .u32 id_2,.int .i64 r_1]∧bO f 0 (rkI ra_1 mb_1)∧cC f 2 1 (rkM (ar w_4) m_4)∧0≠1∧Ok ra_1 mb_1∧MO w_4 m_4∧∃(q:Nat) (l_2:List RwI) (most:Int) (t:Int),ak [.ptr 0 0,.int .u32 1] [.ptr q 0,.int .u32 t]∧bO a q (rkI l_2 most)∧Ok l_2 most∧∃(q:Nat) (l_3:List RwI) (most:Int) (t_2:Int),ak [.ptr 0 0,.int .u32 2] [.ptr q 0,.int .u32 t_2]∧bO a q (rkI l_3 most)∧Ok l_3 most∧br ((Prod.snd (dn w m id md ins l) == 0) == true) (br ((Rp.e d == 0) == true) (br ((Rp.e b == 12) == true) (br ((aD l_2 t == 1516) == true) (K (.bool (aD l_3 t_2 == 1484))) (K (.bool false))) (K (.bool false))) (K (.bool false))) (K (.bool false)))→aj Tryd.prog gl 9 [] [] (fun x _=>K x):=fun K h=>ah (T:=TAW) (L:=[]) (fun _=>0) Tryd.func9 (by kernel_rfl) (by kernel_rfl) (by kernel_rfl) (IT) (LOk.nil _ _ _ _ _) (ag (by kernel_rfl) h)
def wR (t:Int) (l:List Int):Rr:=⟨t,l,0,0⟩
def ba1:List RwI:=(bZ [] 4 1 1500).1
def ba2:List RwI:=(bZ ba1 4 2 1500).1
def wk1:List Mt:=(dn [] 2 9 0 3 [wR 1 [1],wR 2 [2]]).1
def wk2:List Mt:=(dL wk1 1 2 0 0).1
def wk3:List Mt:=(dL wk2 2 2 0 0).1
def wp1:Rp:=bi ba2 4 wk3 3 9 1
def wp2:Rp:=bi wp1.ra 4 wp1.w 3 9 1
theorem DO:Ok ([]:List RwI) 4:=Ok.none (by decide) (by decide)
theorem Ab:Ok ba1 4:=DO.put _ _
theorem Ar:Ok ba2 4:=Ab.put _ _
theorem AZ:MO [] 2:=MO.nil (by decide) (by decide)
theorem BR:MO wk1 2:=AZ.make _ _ _ _
theorem C8:MO wk2 2:=BR.set _ _ _ _
theorem A0:MO wk3 2:=C8.set _ _ _ _
theorem qp:Ok wp1.ra 4∧MO wp1.w 2:=jM Ar A0 _ _ _
theorem Bj:Ok wp2.ra 4∧MO wp2.w 2:=jM qp.1 qp.2 _ _ _
theorem Ir {l:List Rr} (h:(decide (l.length≤100) && l.all fun r=>decide (r.pl.length≤100))=true):smR l:=by
 rw[Bool.and_eq_true,decide_eq_true_eq,List.all_eq_true] at h
 exact⟨h.1,fun r hr=>of_decide_eq_true (h.2 r hr)⟩
theorem KL {l:List Int} {t:Tail}:Wk (.list (l.map u1) t) (.list (l.map u1) .no):= .list _ _
theorem tM:aj Tryd.prog gl 9 [] [] (fun x _=>x = .bool true):=by
 refine JP (fun x=>x = .bool true) ⟨4,rfl,2,rfl,[],4,1,1500,rfl,rfl,DO,ba1,4,2,1500,rfl,rfl,Ab,[],2,9,0,3,[wR 1 [1],wR 2 [2]],_,rfl,Fu (es':=[wR 1 [1],wR 2 [2]].map rrc) (.cons (.refl _) (.cons (KL (l:=[1])) (.cons (.refl _) (.cons (.refl _) (.cons (.refl _) (.cons (KL (l:=[2])) (.cons (.refl _) (.cons (.refl _) .nil)))))))) rfl (by decide),⟨rfl,rfl⟩,AZ,Ir (by decide),
  wk1,2,1,2,0,0,rfl,⟨rfl,rfl⟩,BR,wk2,2,2,2,0,0,rfl,⟨rfl,rfl⟩,C8,ba2,4,wk3,2,3,9,1,rfl,rfl,⟨rfl,rfl⟩,by decide,Ar,A0,wp1.ra,4,wp1.w,2,3,9,1,rfl,rfl,⟨rfl,rfl⟩,by decide,qp.1,qp.2,0,wp2.ra,4,1,rfl,rfl,Bj.1,0,wp2.ra,4,2,rfl,rfl,Bj.1,?_⟩
 simp only[ay]
 rw[if_pos (by kernel_rfl),if_pos (by kernel_rfl),if_pos (by kernel_rfl),if_pos (by kernel_rfl)]
 kernel_rfl
def v7 (args:List PV) (K:PV→Prop):Prop:=ak args []∧K (.bool true)
theorem zT:aO Tryd.prog gl 9 (.pure v7):=by
 rintro args K ⟨he,hk⟩
 have he:args=_:=he
 subst he
 exact bH aq .nil (fun _ h=>nomatch h) (.bool _) tM hk
end Go.Proofs.YtenaelaapdhbdaaDoor
