/-
  Mids.
-/
import Derived.Test.YtenaelaapdhbdaaDoorDj
import Derived.Test.YtenaelaapdhbdaaDoorA3
import Derived.Test.YtenaelaapdhbdaaDoorProg
namespace Go.Proofs.YtenaelaapdhbdaaDoor
open Go Go.AM Go.Proofs
def uL (args:List PV) (H:ag) (K:PV→Prop):Prop:=∃(q r:Nat) (w:List Mt) (m t:Int),ak args [.ptr q 0,.int .u32 t]∧bM H q r (rkM (aq w) m)∧MO w m∧K (.tup [(gM w t).pv,.bool (aX Mt.id w t)])
theorem xm:aQ Tryd.prog gl 20 (.read uL):=by
 rintro args H K ⟨q,r,w,m,t,he,hb,ro,hk⟩
 have he:args=_:=he
 subst he
 refine⟨_,jq ay hb cU (r6 _ _) (FT w m t _ ⟨1,aq w,m,t,rfl,rfl,ro.ok,?_⟩),hk⟩
 rw[jZ ro.ok,gX ro.ok]
 exact⟨gM w t,.no,.no,rfl,ro.I7 t,rfl,_,rfl⟩
def seV (l:List Se) (cap b:Nat):PV:=if l=[] then .list [] .exact else .arr b 0 l.length cap
def seG (l:List Se) (J:List PV):Ob:=if l=[] then .dead else .cells (flS l++J)
theorem ArS.of {o:Nat} {l:List Se} {y:PV} {g:Ob} (h:ArS o l y g):∃ cap J,y=seV l cap o∧g=seG l J∧∀ o',ArS o' l (seV l cap o') (seG l J):=by
 rcases h with⟨rfl,rfl,rfl⟩|⟨hn,cap,J,rfl,rfl,h1,h2⟩
 ·exact⟨0,[],rfl,rfl,fun o'=> .inl ⟨rfl,rfl,rfl⟩⟩
 ·refine⟨cap,J,by unfold seV; rw[if_neg hn],by unfold seG; rw[if_neg hn],fun o'=> .inr ⟨hn,cap,J,by unfold seV; rw[if_neg hn],by unfold seG; rw[if_neg hn],h1,h2⟩⟩
theorem GN (l:List Se) (cap:Nat) {ρ:Nat→Nat} {n b b':Nat} (hb:b<n) (hρ:ρ b=b'):Ren ρ n (seV l cap b) (seV l cap b'):=by
 unfold seV
 split
 ·exact .low (aO NT.exact (by simp))
 ·rw[← hρ]; exact .arr _ _ _ _ hb
theorem EH {o:Nat} {l:List Se} {cap:Nat} {J:List PV} (h:ArS o l (seV l cap o) (seG l J)) {ρ:Nat→Nat} {n:Nat}:dh ρ n (seG l J) (seG l J):=eF h.me
def TTA:Tab:=TMM [(43,.heap Er)]
theorem Li:aE Tryd.prog gl TTA:=z1 (.cons Ho (.nil _ _))
theorem Ad (w:List Mt) (m t:Int):∀(K:PV→ag→Prop),(∃(q:Nat) (l:List RwM) (most:Int) (t_1:Int),by refine(?_:_→Prop) [PV.int .u32 (Mt.id (bQ l t_1)),.int .i64 (Mt.md (bQ l t_1)),.int .u32 (Mt.ins (bQ l t_1)),.list (List.map rrc (Mt.rows (bQ l t_1))) .no,.list (List.map stc (Mt.aa (bQ l t_1))) .no]; exact fun b=>ak [.ptr 1 0,.int .u32 t] [.ptr q 0,.int .u32 t_1]∧bH [.cells [.ptr 1 0],.abs (rkM (aq w) m),.cells [.int .u32 0,.int .i64 0,.int .u32 0,.list [] .exact,.list [] .exact]] q (rkM l most)∧Ok l most∧∃(c:Mt) (t1:Tail) (t2:Tail),ak [.agg b] [.agg [.int .u32 c.id,.int .i64 c.md,.int .u32 c.ins,.list (c.rows.map rrc) t1,.list (c.aa.map stc) t2]]∧Mt.Sm c∧∀(y:PV),by refine(?_:_→Prop) [PV.int .u32 c.id,.int .i64 c.md,.int .u32 c.ins,.list (c.rows.map rrc) .exact,y]; exact fun a=>∀(g:Ob),ArS 4 c.aa y g→br (5 == 5 && List.all a PV.one && true && cQ 0 2 0 5) (K (.tup [.agg a,.bool (has l t_1)]) [.cells [.ptr 1 0],.abs (rkM (aq w) m),.cells a,.cells b,g]) False)→an Tryd.prog gl 20 [.ptr 0 0,.int .u32 t] [.cells [.ptr 1 0],.abs (rkM (aq w) m)] K:=fun K h=>ai (T:=TTA) (L:=[]) (fun o=>match o.dst with|some 21=>1|_=>0) Tryd.func20 (by kernel_rfl) (by kernel_rfl) (by kernel_rfl) (Li) (LOk.nil _ _ _ _ _) (ah (by kernel_rfl) h)
def KQ (args:List PV) (H:ag) (K:PV→ag→Prop):Prop:=∃(q r:Nat) (w:List Mt) (m t:Int),ak args [.ptr q 0,.int .u32 t]∧bM H q r (rkM (aq w) m)∧MO w m∧
 ∀(y:PV) (g:Ob),ArS H.length (gM w t).aa y g→K (.tup [ek (gM w t) (.list ((gM w t).rows.map rrc) .exact) y,.bool (aX Mt.id w t)]) (H++[g])
theorem H8:aQ Tryd.prog gl 20 (.heap KQ):=by
 rintro args H K ⟨q,r,w,m,t,he,hb,ro,hk⟩
 have he:args=_:=he
 subst he
 refine vz ay hb cU (Ad w m t _ ⟨1,aq w,m,t,rfl,rfl,ro.ok,?_⟩)
 rw[jZ ro.ok,gX ro.ok]
 refine⟨gM w t,.no,.no,rfl,ro.I7 t,fun y g hA=>?_⟩
 rw[az,if_pos (by simp only[List.all_cons,hA.one]; rfl)]
 obtain⟨cap,J,rfl,rfl,hA'⟩:=hA.of
 refine⟨1,fun b=> .tup [ek (gM w t) (.list ((gM w t).rows.map rrc) .exact) (seV (gM w t).aa cap b),.bool (aX Mt.id w t)],fun _=>[seG (gM w t).aa J],4,rkM (aq w) m,⟨fun _=>rfl,fun ρ n b b' hn hρ=>?_,fun ρ n b b' hn hρ k a hk=>?_⟩,rfl,by decide,rfl,rfl,fun k a hk=>?_,?_⟩
 ·exact Ren.Mg (.cons (Ren.iy (.cons (.low (.int _ _)) (.cons (.low (.int _ _)) (.cons (.low (.int _ _)) (.cons (.low (mS bP _)) (.cons (GN _ _ (by omega) (hρ 0 (by decide))) .nil)))))) (.cons (.low (.bool _)) .nil))
 ·have k1:=(List.getElem?_eq_some_iff.1 hk).1
  simp at k1
  subst k1
  cases hk
  exact⟨_,rfl,EH (hA' 0),fun h=>h⟩
 ·have k1:=(List.getElem?_eq_some_iff.1 hk).1
  simp at k1
  subst k1
  cases hk
  rfl
 ·rw[kU hb.2]
  exact hk _ _ (hA' H.length)
theorem CC (n:Int)  (K:PV→ag→Prop) (h:∃(n_1:Int),ak [.int .i64 n] [.int .i64 n_1]∧K (.ptr 1 0) [.abs (rkM [] (mxI 0 n_1)),.cells [.ptr 0 0]]):an Tryd.prog gl 13 [.int .i64 n] [] K:=
 ai (T:=TT0) (L:=[]) (fun _=>0) Tryd.func13 (by kernel_rfl) (by kernel_rfl) (by kernel_rfl) (rY) (LOk.nil _ _ _ _ _) (ah (by kernel_rfl) h)
end Go.Proofs.YtenaelaapdhbdaaDoor
