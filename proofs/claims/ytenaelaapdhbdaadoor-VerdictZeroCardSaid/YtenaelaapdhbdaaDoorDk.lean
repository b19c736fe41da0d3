/-
  Mids.
-/
import Derived.Test.YtenaelaapdhbdaaDoorDj
import Derived.Test.YtenaelaapdhbdaaDoorA3
import Derived.Test.YtenaelaapdhbdaaDoorProg
namespace Go.Proofs.YtenaelaapdhbdaaDoor
open Go Go.AM Go.Proofs
def uV (args:List PV) (H:ae) (K:PV→Prop):Prop:=∃(q r:Nat) (w:List Mt) (m t:Int),ak args [.ptr q 0,.int .u32 t]∧cC H q r (rkM (ar w) m)∧MO w m∧K (.tup [(gM w t).pv,.bool (bu Mt.id w t)])
theorem w7:aO Tryd.prog gl 20 (.read uV):=by
 rintro args H K ⟨q,r,w,m,t,he,hb,ro,hk⟩
 have he:args=_:=he
 subst he
 refine⟨_,ji aq hb cM (qI _ _) (EH w m t _ ⟨1,ar w,m,t,rfl,rfl,ro.ok,?_⟩),hk⟩
 rw[jT ro.ok,gv ro.ok]
 exact⟨gM w t,.no,.no,rfl,ro.Hu t,rfl,_,rfl⟩
def seV (l:List Se) (cap b:Nat):PV:=if l=[] then .list [] .exact else .arr b 0 l.length cap
def seG (l:List Se) (J:List PV):Ob:=if l=[] then .dead else .cells (flS l++J)
theorem ArS.of {o:Nat} {l:List Se} {y:PV} {g:Ob} (h:ArS o l y g):∃ cap J,y=seV l cap o∧g=seG l J∧∀ o',ArS o' l (seV l cap o') (seG l J):=by
 rcases h with⟨rfl,rfl,rfl⟩|⟨hn,cap,J,rfl,rfl,h1,h2⟩
 ·exact⟨0,[],rfl,rfl,fun o'=> .inl ⟨rfl,rfl,rfl⟩⟩
 ·refine⟨cap,J,by unfold seV; rw[if_neg hn],by unfold seG; rw[if_neg hn],fun o'=> .inr ⟨hn,cap,J,by unfold seV; rw[if_neg hn],by unfold seG; rw[if_neg hn],h1,h2⟩⟩
theorem Fq (l:List Se) (cap:Nat) {ρ:Nat→Nat} {n b b':Nat} (hb:b<n) (hρ:ρ b=b'):Ren ρ n (seV l cap b) (seV l cap b'):=by
 unfold seV
 split
 ·exact .low (aI NT.exact (by simp))
 ·rw[← hρ]; exact .arr _ _ _ _ hb
theorem CY {o:Nat} {l:List Se} {cap:Nat} {J:List PV} (h:ArS o l (seV l cap o) (seG l J)) {ρ:Nat→Nat} {n:Nat}:dj ρ n (seG l J) (seG l J):=ei h.mi
def TTA:Tab:=TMM [(43,.heap CV)]
theorem J8:aB Tryd.prog gl TTA:=AR (.cons Fp (.nil _ _))
theorem AU (w:List Mt) (m t:Int):∀(K:PV→ae→Prop),(∃(q:Nat) (l:List RwM) (most:Int) (t_1:Int),by refine(?_:_→Prop) [PV.int .u32 (Mt.id (aD l t_1)),.int .i64 (Mt.md (aD l t_1)),.int .u32 (Mt.ins (aD l t_1)),.list (List.map rrc (Mt.rows (aD l t_1))) .no,.list (List.map stc (Mt.aa (aD l t_1))) .no]; exact fun b=>ak [.ptr 1 0,.int .u32 t] [.ptr q 0,.int .u32 t_1]∧bO [.cells [.ptr 1 0],.abs (rkM (ar w) m),.cells [.int .u32 0,.int .i64 0,.int .u32 0,.list [] .exact,.list [] .exact]] q (rkM l most)∧Ok l most∧∃(c:Mt) (t1:Tail) (t2:Tail),ak [.agg b] [.agg [.int .u32 c.id,.int .i64 c.md,.int .u32 c.ins,.list (c.rows.map rrc) t1,.list (c.aa.map stc) t2]]∧Mt.Sm c∧∀(y:PV),by refine(?_:_→Prop) [PV.int .u32 c.id,.int .i64 c.md,.int .u32 c.ins,.list (c.rows.map rrc) .exact,y]; exact fun a=>∀(g:Ob),ArS 4 c.aa y g→br (5 == 5 && List.all a PV.one && true && cE 0 2 0 5) (K (.tup [.agg a,.bool (has l t_1)]) [.cells [.ptr 1 0],.abs (rkM (ar w) m),.cells a,.cells b,g]) False)→aj Tryd.prog gl 20 [.ptr 0 0,.int .u32 t] [.cells [.ptr 1 0],.abs (rkM (ar w) m)] K:=fun K h=>ah (T:=TTA) (L:=[]) (fun o=>match o.dst with|some 21=>1|_=>0) Tryd.func20 (by kernel_rfl) (by kernel_rfl) (by kernel_rfl) (J8) (LOk.nil _ _ _ _ _) (ag (by kernel_rfl) h)
def JB (args:List PV) (H:ae) (K:PV→ae→Prop):Prop:=∃(q r:Nat) (w:List Mt) (m t:Int),ak args [.ptr q 0,.int .u32 t]∧cC H q r (rkM (ar w) m)∧MO w m∧
 ∀(y:PV) (g:Ob),ArS H.length (gM w t).aa y g→K (.tup [dR (gM w t) (.list ((gM w t).rows.map rrc) .exact) y,.bool (bu Mt.id w t)]) (H++[g])
theorem FE:aO Tryd.prog gl 20 (.heap JB):=by
 rintro args H K ⟨q,r,w,m,t,he,hb,ro,hk⟩
 have he:args=_:=he
 subst he
 refine tT aq hb cM (AU w m t _ ⟨1,ar w,m,t,rfl,rfl,ro.ok,?_⟩)
 rw[jT ro.ok,gv ro.ok]
 refine⟨gM w t,.no,.no,rfl,ro.Hu t,fun y g hA=>?_⟩
 rw[ay,if_pos (by simp only[List.all_cons,hA.one]; rfl)]
 obtain⟨cap,J,rfl,rfl,hA'⟩:=hA.of
 refine⟨1,fun b=> .tup [dR (gM w t) (.list ((gM w t).rows.map rrc) .exact) (seV (gM w t).aa cap b),.bool (bu Mt.id w t)],fun _=>[seG (gM w t).aa J],4,rkM (ar w) m,⟨fun _=>rfl,fun ρ n b b' hn hρ=>?_,fun ρ n b b' hn hρ k a hk=>?_⟩,rfl,by decide,rfl,rfl,fun k a hk=>?_,?_⟩
 ·exact Ren.KE (.cons (Ren.gW (.cons (.low (.int _ _)) (.cons (.low (.int _ _)) (.cons (.low (.int _ _)) (.cons (.low (lB bG _)) (.cons (Fq _ _ (by omega) (hρ 0 (by decide))) .nil)))))) (.cons (.low (.bool _)) .nil))
 ·have k1:=(List.getElem?_eq_some_iff.1 hk).1
  simp at k1
  subst k1
  cases hk
  exact⟨_,rfl,CY (hA' 0),fun h=>h⟩
 ·have k1:=(List.getElem?_eq_some_iff.1 hk).1
  simp at k1
  subst k1
  cases hk
  rfl
 ·rw[j6 hb.2]
  exact hk _ _ (hA' H.length)
theorem Ej (n:Int)  (K:PV→ae→Prop) (h:∃(n_1:Int),ak [.int .i64 n] [.int .i64 n_1]∧K (.ptr 1 0) [.abs (rkM [] (mxI 0 n_1)),.cells [.ptr 0 0]]):aj Tryd.prog gl 13 [.int .i64 n] [] K:=
 ah (T:=TT0) (L:=[]) (fun _=>0) Tryd.func13 (by kernel_rfl) (by kernel_rfl) (by kernel_rfl) (qk) (LOk.nil _ _ _ _ _) (ag (by kernel_rfl) h)
end Go.Proofs.YtenaelaapdhbdaaDoor
