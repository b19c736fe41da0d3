/-
  Mids.
-/
import Derived.Test.YtenaelaapdhbdaaSj
import Derived.Test.YtenaelaapdhbdaaA4
import Derived.Test.YtenaelaapdhbdaaProg
namespace Go.Proofs.Ytenaelaapdhbdaa
open Go Go.AM Go.Proofs
def tmaR_s (args:List PV) (H:Heap) (K:PV→Prop):Prop:=∃(q r:Nat) (w:List Mt) (m t:Int),SlIs args [.ptr q 0,.int .u32 t]∧BkIs H q r (rkM (rowsM w) m)∧MO w m∧K (.tup [(gM w t).pv,.bool (hasG Mt.id w t)])
theorem tmaR_ok:SpOk Try.prog gl 14 (.read tmaR_s):=by
 rintro args H K ⟨q,r,w,m,t,he,hb,ro,hk⟩
 have he:args=_:=he
 subst he
 refine⟨_,book_read gl_low hb low0_int (low_mtb _ _) (tma1_vc w m t _ ⟨1,rowsM w,m,t,rfl,rfl,ro.ok,?_⟩),hk⟩
 rw[rowsOf_get ro.ok,rowsOf_has ro.ok]
 exact⟨gM w t,.no,.no,rfl,ro.getsm t,rfl,_,rfl⟩
def seV (l:List Se) (cap b:Nat):PV:=if l=[] then .list [] .exact else .arr b 0 l.length cap
def seG (l:List Se) (J:List PV):Ob:=if l=[] then .dead else .cells (flS l++J)
theorem ArS.of {o:Nat} {l:List Se} {y:PV} {g:Ob} (h:ArS o l y g):∃ cap J,y=seV l cap o∧g=seG l J∧∀ o',ArS o' l (seV l cap o') (seG l J):=by
 rcases h with⟨rfl,rfl,rfl⟩|⟨hn,cap,J,rfl,rfl,h1,h2⟩
 ·exact⟨0,[],rfl,rfl,fun o'=> .inl ⟨rfl,rfl,rfl⟩⟩
 ·refine⟨cap,J,by unfold seV; rw[if_neg hn],by unfold seG; rw[if_neg hn],fun o'=> .inr ⟨hn,cap,J,by unfold seV; rw[if_neg hn],by unfold seG; rw[if_neg hn],h1,h2⟩⟩
theorem seV_ren (l:List Se) (cap:Nat) {ρ:Nat→Nat} {n b b':Nat} (hb:b<n) (hρ:ρ b=b'):Ren ρ n (seV l cap b) (seV l cap b'):=by
 unfold seV
 split
 ·exact .low (low_list NT.exact (by simp))
 ·rw[← hρ]; exact .arr _ _ _ _ hb
theorem seG_ren' {o:Nat} {l:List Se} {cap:Nat} {J:List PV} (h:ArS o l (seV l cap o) (seG l J)) {ρ:Nat→Nat} {n:Nat}:RenOb ρ n (seG l J) (seG l J):=renOb_low h.glow
def ownJ_s (args:List PV) (H:Heap) (K:PV→Heap→Prop):Prop:=∃(c:Mt) (t1 t2:Tail) (j:Nat),SlIs args [.agg [.int .u32 c.id,.int .i64 c.md,.int .u32 c.ins,.list (c.rows.map rrc) t1,.list (c.seats.map stc) t2]]∧c.Sm∧j<c.rows.length∧(c.rows.getD j default).pl≠[]∧
 ∀(y:PV) (g:Ob) (cap:Nat) (pj:List PV),ArS H.length c.seats y g→RwJ (c.rows.getD j default) cap pj→K (MtAg c (.arr (H.length+1) 0 c.rows.length c.rows.length) y) (H++[g,.cells (rsJ (H.length+2) j cap c.rows).flatten,.cells pj])
theorem ownJ_ok:SpOk Try.prog gl 39 (.heap ownJ_s):=by
 rintro args H K ⟨c,t1,t2,j,he,h,hj,hne,hk⟩
 exact own_ok _ _ _ ⟨c,t1,t2,he,h,.inr (.inr (.inr ⟨j,hj,hne,fun x X hX=>by obtain⟨y,g,cap,pj,h1,h2,rfl,rfl⟩:=hX; exact hk y g cap pj h1 h2⟩))⟩
def TTA:Tab:=TMM [(39,.heap ownA_s)]
theorem TTA_ok:TabOk Try.prog gl TTA:=TMM_ok (.cons ownA_ok (.nil _ _))
def TTJ:Tab:=TMM [(39,.heap ownJ_s)]
theorem TTJ_ok:TabOk Try.prog gl TTJ:=TMM_ok (.cons ownJ_ok (.nil _ _))
theorem tmaA1_vc (w:List Mt) (m t:Int):∀(K:PV→Heap→Prop),(∃(q:Nat) (l:List RwM) (most:Int) (t_1:Int),by refine(?_:_→Prop) [PV.int .u32 (Mt.id (getR l t_1)),.int .i64 (Mt.md (getR l t_1)),.int .u32 (Mt.ins (getR l t_1)),.list (List.map rrc (Mt.rows (getR l t_1))) .no,.list (List.map stc (Mt.seats (getR l t_1))) .no]; exact fun b=>SlIs [.ptr 1 0,.int .u32 t] [.ptr q 0,.int .u32 t_1]∧AbIs [.cells [.ptr 1 0],.abs (rkM (rowsM w) m),.cells [.int .u32 0,.int .i64 0,.int .u32 0,.list [] .exact,.list [] .exact]] q (rkM l most)∧Ok l most∧∃(c:Mt) (t1:Tail) (t2:Tail),SlIs [.agg b] [.agg [.int .u32 c.id,.int .i64 c.md,.int .u32 c.ins,.list (c.rows.map rrc) t1,.list (c.seats.map stc) t2]]∧Mt.Sm c∧∀(y:PV),by refine(?_:_→Prop) [PV.int .u32 c.id,.int .i64 c.md,.int .u32 c.ins,.list (c.rows.map rrc) .exact,y]; exact fun a=>∀(g:Ob),ArS 4 c.seats y g→br (5 == 5 && List.all a PV.one && true && hintOk 0 2 0 5) (K (.tup [.agg a,.bool (has l t_1)]) [.cells [.ptr 1 0],.abs (rkM (rowsM w) m),.cells a,.cells b,g]) False)→ACalls Try.prog gl 14 [.ptr 0 0,.int .u32 t] [.cells [.ptr 1 0],.abs (rkM (rowsM w) m)] K:=fun K h=>acalls_of_wpc2 (T:=TTA) (L:=[]) (fun o=>match o.dst with|some 21=>1|_=>0) Try.func14 (by kernel_rfl) (by kernel_rfl) (by kernel_rfl) (TTA_ok) (LOk.nil _ _ _ _ _) (holds_of_eq (by kernel_rfl) h)
theorem tmaJ1_vc (w:List Mt) (m t:Int):∀(K:PV→Heap→Prop),(∃(q:Nat) (l:List RwM) (most:Int) (t_1:Int),by refine(?_:_→Prop) [PV.int .u32 (Mt.id (getR l t_1)),.int .i64 (Mt.md (getR l t_1)),.int .u32 (Mt.ins (getR l t_1)),.list (List.map rrc (Mt.rows (getR l t_1))) .no,.list (List.map stc (Mt.seats (getR l t_1))) .no]; exact fun b=>SlIs [.ptr 1 0,.int .u32 t] [.ptr q 0,.int .u32 t_1]∧AbIs [.cells [.ptr 1 0],.abs (rkM (rowsM w) m),.cells [.int .u32 0,.int .i64 0,.int .u32 0,.list [] .exact,.list [] .exact]] q (rkM l most)∧Ok l most∧∃(c:Mt) (t1:Tail) (t2:Tail) (j:Nat),SlIs [.agg b] [.agg [.int .u32 c.id,.int .i64 c.md,.int .u32 c.ins,.list (c.rows.map rrc) t1,.list (c.seats.map stc) t2]]∧Mt.Sm c∧j<c.rows.length∧Rr.pl (List.getD c.rows j default)≠[]∧∀(y:PV),by refine(?_:_→Prop) [PV.int .u32 c.id,.int .i64 c.md,.int .u32 c.ins,.arr 5 0 c.rows.length c.rows.length,y]; exact fun a=>∀(g:Ob),∀(cap:Nat),∀(pj:List PV),ArS 4 c.seats y g→RwJ (List.getD c.rows j default) cap pj→br (5 == 5 && List.all a PV.one && true && hintOk 0 2 0 5) (K (.tup [.agg a,.bool (has l t_1)]) [.cells [.ptr 1 0],.abs (rkM (rowsM w) m),.cells a,.cells b,g,.cells (List.flatten (rsJ 6 j cap c.rows)),.cells pj]) False)→ACalls Try.prog gl 14 [.ptr 0 0,.int .u32 t] [.cells [.ptr 1 0],.abs (rkM (rowsM w) m)] K:=fun K h=>acalls_of_wpc2 (T:=TTJ) (L:=[]) (fun o=>match o.dst with|some 21=>1|_=>0) Try.func14 (by kernel_rfl) (by kernel_rfl) (by kernel_rfl) (TTJ_ok) (LOk.nil _ _ _ _ _) (holds_of_eq (by kernel_rfl) h)
def tmaA_s (args:List PV) (H:Heap) (K:PV→Heap→Prop):Prop:=∃(q r:Nat) (w:List Mt) (m t:Int),SlIs args [.ptr q 0,.int .u32 t]∧BkIs H q r (rkM (rowsM w) m)∧MO w m∧
 ∀(y:PV) (g:Ob),ArS H.length (gM w t).seats y g→K (.tup [MtAg (gM w t) (.list ((gM w t).rows.map rrc) .exact) y,.bool (hasG Mt.id w t)]) (H++[g])
theorem tmaA_ok:SpOk Try.prog gl 14 (.heap tmaA_s):=by
 rintro args H K ⟨q,r,w,m,t,he,hb,ro,hk⟩
 have he:args=_:=he
 subst he
 refine book_shape gl_low hb low0_int (tmaA1_vc w m t _ ⟨1,rowsM w,m,t,rfl,rfl,ro.ok,?_⟩)
 rw[rowsOf_get ro.ok,rowsOf_has ro.ok]
 refine⟨gM w t,.no,.no,rfl,ro.getsm t,fun y g hA=>?_⟩
 rw[br_if,if_pos (by simp only[List.all_cons,hA.one]; rfl)]
 obtain⟨cap,J,rfl,rfl,hA'⟩:=hA.of
 refine⟨1,fun b=> .tup [MtAg (gM w t) (.list ((gM w t).rows.map rrc) .exact) (seV (gM w t).seats cap b),.bool (hasG Mt.id w t)],fun _=>[seG (gM w t).seats J],4,rkM (rowsM w) m,⟨fun _=>rfl,fun ρ n b b' hn hρ=>?_,fun ρ n b b' hn hρ k a hk=>?_⟩,rfl,by decide,rfl,rfl,fun k a hk=>?_,?_⟩
 ·exact Ren.tupL (.cons (Ren.aggL (.cons (.low (.int _ _)) (.cons (.low (.int _ _)) (.cons (.low (.int _ _)) (.cons (.low (low_rowsE low_rrc _)) (.cons (seV_ren _ _ (by omega) (hρ 0 (by decide))) .nil)))))) (.cons (.low (.bool _)) .nil))
 ·have k1:=(List.getElem?_eq_some_iff.1 hk).1
  simp at k1
  subst k1
  cases hk
  exact⟨_,rfl,seG_ren' (hA' 0),fun h=>h⟩
 ·have k1:=(List.getElem?_eq_some_iff.1 hk).1
  simp at k1
  subst k1
  cases hk
  rfl
 ·rw[set_same hb.2]
  exact hk _ _ (hA' H.length)
def tmaJ_s (args:List PV) (H:Heap) (K:PV→Heap→Prop):Prop:=∃(q r:Nat) (w:List Mt) (m t:Int) (j:Nat),SlIs args [.ptr q 0,.int .u32 t]∧BkIs H q r (rkM (rowsM w) m)∧MO w m∧j<(gM w t).rows.length∧((gM w t).rows.getD j default).pl≠[]∧
 ∀(y:PV) (g:Ob) (cap:Nat) (pj:List PV),ArS H.length (gM w t).seats y g→RwJ ((gM w t).rows.getD j default) cap pj→K (.tup [MtAg (gM w t) (.arr (H.length+1) 0 (gM w t).rows.length (gM w t).rows.length) y,.bool (hasG Mt.id w t)]) (H++[g,.cells (rsJ (H.length+2) j cap (gM w t).rows).flatten,.cells pj])
theorem tmaJ_ok:SpOk Try.prog gl 14 (.heap tmaJ_s):=by
 rintro args H K ⟨q,r,w,m,t,j,he,hb,ro,hj,hne,hk⟩
 have he:args=_:=he
 subst he
 refine book_shape gl_low hb low0_int (tmaJ1_vc w m t _ ⟨1,rowsM w,m,t,rfl,rfl,ro.ok,?_⟩)
 rw[rowsOf_get ro.ok,rowsOf_has ro.ok]
 refine⟨gM w t,.no,.no,j,rfl,ro.getsm t,hj,hne,fun y g cap pj hA hp=>?_⟩
 rw[br_if,if_pos (by simp only[List.all_cons,hA.one]; rfl)]
 obtain⟨cs,J,rfl,rfl,hA'⟩:=hA.of
 have hlow:∀ x∈(List.map rrc (gM w t).rows).flatten,Low 0 x:=low_map fun a _=>low_rrc a
 refine⟨3,fun b=> .tup [MtAg (gM w t) (.arr (b+1) 0 (gM w t).rows.length (gM w t).rows.length) (seV (gM w t).seats cs b),.bool (hasG Mt.id w t)],fun b=>[seG (gM w t).seats J,.cells (rsJ (b+2) j cap (gM w t).rows).flatten,.cells pj],4,rkM (rowsM w) m,⟨fun _=>rfl,fun ρ n b b' hn hρ=>?_,fun ρ n b b' hn hρ k a hk=>?_⟩,rfl,by decide,rfl,rfl,fun k a hk=>?_,?_⟩
 ·refine Ren.tupL (.cons (Ren.aggL (.cons (.low (.int _ _)) (.cons (.low (.int _ _)) (.cons (.low (.int _ _)) (.cons ?_ (.cons (seV_ren _ _ (by omega) (hρ 0 (by decide))) .nil)))))) (.cons (.low (.bool _)) .nil))
  rw[← hρ 1 (by decide)]; exact .arr _ _ _ _ (by omega)
 ·have k1:=(List.getElem?_eq_some_iff.1 hk).1
  simp at k1
  have:k=0∨k=1∨k=2:=by omega
  rcases this with rfl|rfl|rfl
  ·cases hk; exact⟨_,rfl,seG_ren' (hA' 0),fun h=>h⟩
  ·cases hk
   refine⟨_,rfl,.cells ?_,fun h=>h⟩
   have:=ren_set (ρ:=ρ) (m:=n) hlow j (b+2) cap ((gM w t).rows.getD j default) (by omega)
   rw[hρ 2 (by decide)] at this
   exact this
  ·cases hk; exact⟨_,rfl,.cells (RenL.low hp.low),fun h=>h⟩
 ·have k1:=(List.getElem?_eq_some_iff.1 hk).1
  simp at k1
  have:k=0∨k=1∨k=2:=by omega
  rcases this with rfl|rfl|rfl<;>(cases hk; rfl)
 ·rw[set_same hb.2]
  exact hk _ _ cap pj (hA' H.length) hp
def TTS:Tab:=[(12,.read tof_s),(14,.read tmaR_s),(38,.read at_s)]
theorem TTS_ok:TabOk Try.prog gl TTS:= .cons tof_ok (.cons tmaR_ok (.cons at_ok (.nil _ _)))
theorem tse1_vc (w:List Mt) (m p:Int):(by refine(?_:_→_→_→_→Prop) [PV.int .u32 0,.int .i64 0,.int .i64 0,.int .i64 0,.int .i64 0,.int .u64 0] (Ob.abs (rkM (rowsM w) m)) [PV.ptr 0 0,.int .u32 p] (Ob.cells [.ptr 1 0]); exact fun h i k l=>by refine(?_:_→Prop) [l,i,.cells h]; exact fun j=>∀(K:PV→Heap→Prop),(∃(q:Nat) (r:Nat) (w_1:List Mt) (m_1:Int) (p_1:Int),SlIs k [.ptr q 0,.int .u32 p_1]∧BkIs j q r (rkM (rowsM w_1) m_1)∧MO w_1 m_1∧∃(q:Nat) (r:Nat) (w_2:List Mt) (m_2:Int) (t:Int),by refine(?_:_→Prop) (List.map stc (Mt.seats (gM w_2 t))); exact fun g=>by refine(?_:_→Prop) [PV.int .u32 (Mt.id (gM w_2 t)),.int .i64 (Mt.md (gM w_2 t)),.int .u32 (Mt.ins (gM w_2 t)),.list (List.map rrc (Mt.rows (gM w_2 t))) .no,.list g .no]; exact fun e=>by refine(?_:_→Prop) [l,i,.cells h,.cells e]; exact fun f=>SlIs [.ptr 0 0,.int .u32 (ofM w_1 p_1)] [.ptr q 0,.int .u32 t]∧BkIs j q r (rkM (rowsM w_2) m_2)∧MO w_2 m_2∧∃(c:Mt) (x:PV) (y:PV) (p_2:Int),by refine(?_:_→_→Prop) (List.getD g (Int.toNat (ixS c.seats p_2)) []) (∃(t:Tail),x = .list (c.rows.map rrc) t); exact fun a d=>by refine(?_:_→Prop) [PV.int .u32 (cI a 0),.int .i64 (cI a 1),.int .i64 (cI a 2),.int .i64 (cI a 3),.int .i64 (cI a 4),.int .u64 (cI a 5)]; exact fun b=>SlIs [.agg e,.int .u32 p] [.agg [.int .u32 c.id,.int .i64 c.md,.int .u32 c.ins,x,y],.int .u32 p_2]∧c.seats.length≤1000000∧((d∧∃(t:Tail),y = .list (c.seats.map stc) t)∨(d∧∃(o:Nat) (cap:Nat) (J:List PV),y = .arr o 0 c.seats.length cap∧c.seats.length≤cap∧CeIs f o (flS c.seats++J))∨(∃(o:Nat) (n:Nat) (cap:Nat),x = .arr o 0 n cap∧o<4)∧∃(o:Nat) (cap:Nat) (J:List PV),y = .arr o 0 c.seats.length cap∧c.seats.length≤cap∧CeIs f o (flS c.seats++J))∧br (decide (ixS c.seats p_2<0)) (K (.tup [.agg h,.bool false]) f) (InL g 6 (ixS c.seats p_2)∧br (true && fitX [.int .u32,.int .i64,.int .i64,.int .i64,.int .i64,.int .u64] 0 a) (K (.tup [.agg b,.bool true]) [.cells [.ptr 1 0],i,.cells b,.cells e]) False))→ACalls Try.prog gl 19 k [.cells [.ptr 1 0],i] K:Prop):=fun K h=>acalls_of_wpc2 (T:=TTS) (L:=[]) (fun _=>0) Try.func19 (by kernel_rfl) (by kernel_rfl) (by kernel_rfl) (TTS_ok) (LOk.nil _ _ _ _ _) (holds_of_eq (by kernel_rfl) h)
theorem tnew1_vc (n:Int)  (K:PV→Heap→Prop) (h:∃(n_1:Int),SlIs [.int .i64 n] [.int .i64 n_1]∧K (.ptr 1 0) [.abs (rkM [] (mxI 0 n_1)),.cells [.ptr 0 0]]):ACalls Try.prog gl 7 [.int .i64 n] [] K:=
 acalls_of_wpc2 (T:=TT0) (L:=[]) (fun _=>0) Try.func7 (by kernel_rfl) (by kernel_rfl) (by kernel_rfl) (TT0_ok) (LOk.nil _ _ _ _ _) (holds_of_eq (by kernel_rfl) h)
end Go.Proofs.Ytenaelaapdhbdaa
