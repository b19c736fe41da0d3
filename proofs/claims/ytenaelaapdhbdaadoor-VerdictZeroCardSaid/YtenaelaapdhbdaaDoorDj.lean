/-
  Matches found.
-/
import Derived.Test.YtenaelaapdhbdaaDoorDi
import Derived.Test.YtenaelaapdhbdaaDoorDe
import Derived.Test.YtenaelaapdhbdaaDoorProg
namespace Go.Proofs.YtenaelaapdhbdaaDoor
open Go Go.AM Go.Proofs
abbrev ar (w:List Mt):List RwM:=rowsOf Mt.id w
def inM (c:Mt) (p:Int):Bool:=c.aa.any (isP p)
def ofM (w:List Mt) (p:Int):Int:=if w.findIdx (fun c=>inM c p)<w.length then(w.getD (w.findIdx fun c=>inM c p) default).id else 0
def pairs (l:List Rr):List (Int×Int):=l.flatMap fun r=>r.pl.map fun p=>(p,r.tm)
def eL (l:List Se):List (Int×Int):=l.map fun s=>(s.pl,s.tm)
def taken (l:List Rr) (t:Int):Nat:=((l.filter fun r=>r.tm == t).map fun r=>r.pl.length).sum
structure Mt.Ok (c:Mt):Prop where
 rt:aF c.id=true
 sn:c.aa.Pairwise fun a b=>a.nu<b.nu
 lo:∀ s∈c.aa,0≤s.nu∧s.nu<8
 tm:∀ r∈c.rows,r.tm=1∨r.tm=2
 ne:∀ r∈c.rows,r.pl≠[]
 pm:(eL c.aa).Perm (pairs c.rows)
 nd:(c.aa.map Se.pl).Nodup
 t1:taken c.rows 1≤4
 t2:taken c.rows 2≤4
theorem lJ {l:List Rr} (h:∀ r∈l,r.tm=1∨r.tm=2):tot l=taken l 1+taken l 2:=by
 induction l with
 | nil=>rfl
 | cons r l ih=>
  have ih:=ih fun a ha=>h a (by simp[ha])
  unfold tot taken at *
  rcases h r (by simp) with e|e<;>simp[e]<;>omega
theorem p9 (l:List Rr):(pairs l).length=tot l:=by
 unfold pairs tot; simp[List.length_flatMap]
theorem EY {l:List Rr} (h:∀ r∈l,r.pl≠[]):l.length≤tot l:=by
 induction l with
 | nil=>exact Nat.le_refl _
 | cons r l ih=>
  have ih:=ih fun a ha=>h a (by simp[ha])
  have:=List.length_pos_iff.2 (h r (by simp))
  unfold tot at *
  simp only[List.map_cons,List.sum_cons,List.length_cons]; omega
theorem u4 {l:List Rr} {r:Rr} (h:r∈l):r.pl.length≤tot l:=by
 induction l with
 | nil=>cases h
 | cons a l ih=>
  unfold tot at *
  simp only[List.map_cons,List.sum_cons]
  rcases List.mem_cons.1 h with rfl|h
  ·omega
  ·have:=ih h; omega
theorem Mt.Ok.tot {c:Mt} (h:c.Ok):tot c.rows≤8:=by have:=lJ h.tm; have:=h.t1; have:=h.t2; omega
theorem Mt.Ok.aa {c:Mt} (h:c.Ok):c.aa.length=Go.Proofs.YtenaelaapdhbdaaDoor.tot c.rows:=by
 have:=h.pm.length_eq
 rw[p9] at this
 unfold eL at this
 rwa [List.length_map] at this
theorem Mt.Ok.sm {c:Mt} (h:c.Ok):c.Sm:=by
 have h1:=h.tot
 refine⟨?_,?_,fun r hr=>?_⟩
 ·have:=EY h.ne; omega
 ·have:=h.aa; omega
 ·have:=u4 hr; omega
structure MO (w:List Mt) (m:Int):Prop where
 rise:dz Mt.id w
 full:(w.length:Int)≤m
 big:m≤1000000
 cs:∀ c∈w,c.Ok
 one:∀ a∈w,∀ b∈w,∀ p,inM a p=true→inM b p=true→a=b
theorem MO.sm {w:List Mt} {m:Int} (h:MO w m) (c:Mt) (hc:c∈w):c.Sm:=(h.cs c hc).sm
theorem MO.ok {w:List Mt} {m:Int} (h:MO w m):Ok (ar w) m:=h.rise.ok h.full h.big
theorem MO.len {w:List Mt} {m:Int} (h:MO w m):w.length≤1000000:=by have:=h.full; have:=h.big; omega
abbrev mt0:Mt:=⟨0,0,0,[],[]⟩
theorem Jm:mt0.Sm:=⟨(show(0:Nat)≤1000000 by decide),(show(0:Nat)≤1000000 by decide),fun _ h=>nomatch h⟩
abbrev gM (w:List Mt) (t:Int):Mt:=mZ Mt.id w t
theorem MO.Hu {w:List Mt} {m:Int} (h:MO w m) (t:Int):(gM w t).Sm:=by
 cases c:bu Mt.id w t with
 | true=>exact h.sm _ (fj c).1
 | false=>rw[show gM w t=_ from jb c]; exact Jm
theorem qI {n:Nat} (c:Mt) (b:Bool):Low n (.tup [c.pv,.bool b]):= .tup _ (bF c.low (.bool _))
theorem KS (w:List Mt):bl (ar w)=(w.map Mt.id).map u1:=by simp[bl,rowsOf,u1,Function.comp_def]
theorem Fb (l:List Se) (p:Int):decide (ixS l p≥0)=l.any (isP p):=by
 unfold ixS
 by_cases c:l.findIdx (isP p)<l.length
 ·rw[if_pos c,decide_eq_true (by omega)]
  exact(List.any_eq_true.2 ⟨_,List.getElem_mem c,List.findIdx_getElem (w:=c)⟩).symm
 ·rw[if_neg c,decide_eq_false (by omega)]
  symm
  rw[List.any_eq_false]
  intro x hx hp
  exact c (List.findIdx_lt_length_of_exists ⟨x,hx,hp⟩)
theorem xW (R:Rep):Kr [.cells [.ptr 1 0],.abs R]:=ql (by
 intro ob hob
 simp only[List.mem_cons,List.not_mem_nil,or_false] at hob
 rcases hob with rfl|rfl
 ·exact fun x hx=>JM hx
 ·trivial)
def TT0:Tab:=TMM [(39,.read JE),(43,.pure CC)]
theorem qk:aB Tryd.prog gl TT0:=AR (.cons If (.cons EP (.nil _ _)))
theorem Aj (l:List RwM) (m:Int)  (K:PV→ae→Prop) (h:∃(q:Nat) (l_1:List RwM) (most:Int),ak [.ptr 1 0] [.ptr q 0]∧bO [.cells [.ptr 1 0],.abs (rkM l m)] q (rkM l_1 most)∧Ok l_1 most∧K (.list (bl l_1) .no) [.cells [.ptr 1 0],.abs (rkM l m)]):aj Tryd.prog gl 64 [.ptr 0 0] [.cells [.ptr 1 0],.abs (rkM l m)] K:=
 ah (T:=TT0) (L:=[]) (fun _=>0) Tryd.func64 (by kernel_rfl) (by kernel_rfl) (by kernel_rfl) (qk) (LOk.nil _ _ _ _ _) (ag (by kernel_rfl) h)
def zh (args:List PV) (H:ae) (K:PV→Prop):Prop:=∃(q r:Nat) (w:List Mt) (m:Int),ak args [.ptr q 0]∧cC H q r (rkM (ar w) m)∧MO w m∧K (.list ((w.map Mt.id).map u1) .no)
theorem EA:aO Tryd.prog gl 64 (.read zh):=by
 rintro args H K ⟨q,r,w,m,he,hb,ro,hk⟩
 have he:args=_:=he
 subst he
 refine⟨_,ji aq hb Ai (eE _) (Aj (ar w) m _ ⟨1,ar w,m,rfl,rfl,ro.ok,?_⟩),hk⟩
 exact⟨by rw[KS],_,rfl⟩
def TT1:Tab:=(64,.read zh)::TT0
theorem BD:aB Tryd.prog gl TT1:= .cons EA qk
theorem JO (w:List Mt) (m p:Int) (i:Nat):(by refine(?_:_→_→_→_→Prop) (List.map u1 (w.map Mt.id)) (PV.int .i64 w.length) (Ob.abs (rkM (ar w) m)) (Ob.cells [.ptr 1 0]); exact fun f j k r=>by refine(?_:_→_→Prop) [r,k] (List.getD f (Int.toNat (i:Int)) []); exact fun g h=>by refine(?_:_→Prop) (PV.int .u32 (cI h 0)); exact fun s=>∀(R:Ex→List PV→ae→Prop),(br (decide ((i:Int)<(w.length:Int))) (InL f 1 (i:Int)∧br (true && aP [.int .u32] 0 h) (∃(q:Nat) (l:List RwM) (most:Int) (t:Int),by refine(?_:_→Prop) [PV.int .u32 (Mt.id (aD l t)),.int .i64 (Mt.md (aD l t)),.int .u32 (Mt.ins (aD l t)),.list (List.map rrc (Mt.rows (aD l t))) .no,.list (List.map stc (Mt.aa (aD l t))) .no]; exact fun b=>by refine(?_:_→Prop) [r,k,.cells b]; exact fun d=>ak [.ptr 1 0,s] [.ptr q 0,.int .u32 t]∧bO g q (rkM l most)∧Ok l most∧∃(c:Mt) (x:PV) (y:PV) (p_1:Int),by refine(?_:_→Prop) (∃(t:Tail),x = .list (c.rows.map rrc) t); exact fun a=>ak [.agg b,.int .u32 p] [.agg [.int .u32 c.id,.int .i64 c.md,.int .u32 c.ins,x,y],.int .u32 p_1]∧c.aa.length≤1000000∧((a∧∃(t:Tail),y = .list (c.aa.map stc) t)∨(a∧∃(o:Nat) (cap:Nat) (J:List PV),y = .arr o 0 c.aa.length cap∧c.aa.length≤cap∧gL d o (flS c.aa++J))∨(∃(o:Nat) (n:Nat) (cap:Nat),x = .arr o 0 n cap∧o<3)∧∃(o:Nat) (cap:Nat) (J:List PV),y = .arr o 0 c.aa.length cap∧c.aa.length≤cap∧gL d o (flS c.aa++J))∧br (decide (ixS c.aa p_1≥0)) (R .ret [.ptr 0 0,.int .u32 p,s,.list f .no,j,.int .i64 i] d) (R .normal [.ptr 0 0,.int .u32 p,.int .u32 0,.list f .no,j,.int .i64 (wI ((i:Int)+1))] d)) False) (R (.exit 0) [.ptr 0 0,.int .u32 p,.int .u32 0,.list f .no,j,.int .i64 i] g))→Holds (wpc br Tryd.prog gl TT1 [] (fun _=>0) (an [1,0,1,0] (ai Tryd.f38)) [] (av [0,1,4,10,11,12] [.ptr 0 0,.int .u32 p,.int .u32 0,.list ((w.map Mt.id).map u1) .no,j,.int .i64 i]) g (fun ex e H=>R ex (List.map e [0,1,4,10,11,12]) H)):Prop):=fun R h=>ag (by kernel_rfl) h
theorem GY {w:List Mt} {i:Nat} (h:i<w.length):((w.map Mt.id).map u1).getD i []=u1 (w.getD i default).id:=by
 rw[List.map_map,getD_map default h]; rfl
theorem FQ (w:List Mt) (i:Nat):InL ((w.map Mt.id).map u1) 1 (i:Int)=(i<w.length):=by rw[ec,List.length_map]
def HJ:LSp:=fun e H Q=>∃(w:List Mt) (m p:Int),MO w m∧ak (List.map e [0,1,4,10,11,12]) [.ptr 0 0,.int .u32 p,.int .u32 0,.list ((w.map Mt.id).map u1) .no,.int .i64 w.length,.int .i64 0]∧az H [.cells [.ptr 1 0],.abs (rkM (ar w) m)]∧
 (w.findIdx (fun c=>inM c p)<w.length→∀ G,Q .ret (av [0,1,4,10,11,12] [.ptr 0 0,.int .u32 p,.int .u32 (ofM w p),.list ((w.map Mt.id).map u1) .no,.int .i64 w.length,.int .i64 (w.findIdx (fun c=>inM c p))]) ([.cells [.ptr 1 0],.abs (rkM (ar w) m)]++G))∧
 (w.findIdx (fun c=>inM c p)=w.length→Q (.exit 0) (av [0,1,4,10,11,12] [.ptr 0 0,.int .u32 p,.int .u32 0,.list ((w.map Mt.id).map u1) .no,.int .i64 w.length,.int .i64 w.length]) [.cells [.ptr 1 0],.abs (rkM (ar w) m)])
theorem DQ:∀ e H Q,HJ e H Q→AW Tryd.prog gl Tryd.f38.ntmps (.loop (an [1,0,1,0] (ai Tryd.f38))) Q e H:=by
 rintro e H Q ⟨w,m,p,ro,he,hH,hQ1,hQ2⟩
 have hfl:w.findIdx (fun c=>inM c p)≤w.length:=List.findIdx_le_length
 have hlen:=ro.len
 refine aG (hn:=fun _=>0) aq BD (.nil _ _ _ _ _) (σ:=Nat) [0,1,4,10,11,12] (fun i=>i≤w.findIdx (fun c=>inM c p)) (fun i=>[.ptr 0 0,.int .u32 p,.int .u32 0,.list ((w.map Mt.id).map u1) .no,.int .i64 w.length,.int .i64 i]) (fun _=>[.cells [.ptr 1 0],.abs (rkM (ar w) m)]) (fun i=>w.length-i) 0 (Nat.zero_le _) he hH ?_
 intro i hi
 have hi':i≤w.findIdx (fun c=>inM c p):=hi
 refine JO w m p i _ ?_
 simp only[ay,dt,FQ,au]
 by_cases h:i<w.length
 ·rw[if_pos (by omega),GY h]
  refine⟨h,?_⟩
  rw[if_pos (by rfl)]
  obtain⟨c,hcd⟩:∃ c,c=w.getD i default:=⟨_,rfl⟩
  have hcm:c∈w:=by rw[hcd]; exact bj h
  have hid:cI (u1 (w.getD i default).id) 0=c.id:=by rw[← hcd]; rfl
  rw[hid]
  have hg:aD (ar w) c.id=c:=by rw[jT ro.ok]; exact vo ro.rise hcm
  refine⟨1,ar w,m,c.id,rfl,rfl,ro.ok,?_⟩
  rw[hg]
  refine⟨c,_,_,p,rfl,(ro.sm c hcm).aa,.inl ⟨⟨_,rfl⟩,_,rfl⟩,?_⟩
  have hany:(ixS c.aa p≥0)↔inM c p=true:=by rw[inM,← Fb,decide_eq_true_eq]
  by_cases k:ixS c.aa p≥0
  ·have hge:w.findIdx (fun c=>inM c p)=i:=dA default hi' h (by rw[← hcd]; exact hany.1 k)
   rw[if_pos k]
   have:=hQ1 (by omega)
   unfold ofM at this
   rw[hge,if_pos h,← hcd] at this
   exact this [_]
  ·have hlt:i<w.findIdx (fun c=>inM c p):=dH default hi' h (by rw[← hcd]; exact Bool.eq_false_iff.2 fun e=>k (hany.2 e))
   rw[if_neg k]
   exact⟨i+1,(show w.length-(i+1)<w.length-i by omega),hlt,by rw[ax h (by omega)],[_],rfl,Nat.le_refl _,.inr ⟨by
    intro v hv
    simp only[List.mem_cons,List.not_mem_nil,or_false] at hv
    rcases hv with rfl|rfl|rfl|rfl|rfl|rfl
    ·exact .ptr _ _ (by simp)
    ·exact .int _ _
    ·exact .int _ _
    ·exact eE _
    ·exact .int _ _
    ·exact .int _ _,xW _⟩⟩
 ·rw[if_neg (by omega)]
  have:i=w.length:=by omega
  subst this
  exact hQ2 (by omega)
theorem Ff (w:List Mt) (m p:Int):(by refine(?_:_→Prop) (Ob.cells [.ptr 1 0]); exact fun e=>by refine(?_:_→Prop) [e,.abs (rkM (ar w) m)]; exact fun d=>∀(K:PV→ae→Prop),(∃(q:Nat) (r:Nat) (w_1:List Mt) (m_1:Int),ak [.ptr 0 0] [.ptr q 0]∧cC d q r (rkM (ar w_1) m_1)∧MO w_1 m_1∧∃(w_2:List Mt) (m_2:Int) (p_1:Int),by refine(?_:_→_→Prop) [e,.abs (rkM (ar w_2) m_2)] (fun(c:Mt)=>inM c p_1); exact fun a b=>MO w_2 m_2∧ak [.ptr 0 0,.int .u32 p,.int .u32 0,.list (List.map u1 (w_1.map Mt.id)) .no,.int .i64 (↑(List.length (List.map u1 (w_1.map Mt.id))):Int),.int .i64 0] [.ptr 0 0,.int .u32 p_1,.int .u32 0,.list (List.map u1 (w_2.map Mt.id)) .no,.int .i64 w_2.length,.int .i64 0]∧az d a∧(List.findIdx b w_2<w_2.length→∀(G:List Ob),K (.int .u32 (ofM w_2 p_1)) (a++G))∧(List.findIdx b w_2=w_2.length→K (.int .u32 0) a))→aj Tryd.prog gl 38 [.ptr 0 0,.int .u32 p] d K:Prop):=fun K h=>ah (T:=TT1) (L:=[([1,0,1,0],HJ)]) (fun _=>0) Tryd.func38 (by kernel_rfl) (by kernel_rfl) (by kernel_rfl) (BD) (.cons (aH (by kernel_rfl)) DQ (.nil _ _ _ _ _)) (ag (by kernel_rfl) h)
def zb (args:List PV) (H:ae) (K:PV→Prop):Prop:=∃(q r:Nat) (w:List Mt) (m p:Int),ak args [.ptr q 0,.int .u32 p]∧cC H q r (rkM (ar w) m)∧MO w m∧K (.int .u32 (ofM w p))
theorem Bz:aO Tryd.prog gl 38 (.read zb):=by
 rintro args H K ⟨q,r,w,m,p,he,hb,ro,hk⟩
 have he:args=_:=he
 subst he
 refine⟨_,ji aq hb cM (.int _ _) (Ff w m p _ ⟨0,1,w,m,rfl,⟨rfl,rfl⟩,ro,w,m,p,ro,(by show _=_; simp only[List.length_map]),rfl,fun h G=>?_,fun h=>?_⟩),hk⟩
 ·exact⟨rfl,_,rfl⟩
 ·refine⟨?_,[],rfl⟩
  unfold ofM
  rw[if_neg (by omega)]
theorem EH (w:List Mt) (m t:Int):∀(K:PV→ae→Prop),(∃(q:Nat) (l:List RwM) (most:Int) (t_1:Int),by refine(?_:_→Prop) [PV.int .u32 (Mt.id (aD l t_1)),.int .i64 (Mt.md (aD l t_1)),.int .u32 (Mt.ins (aD l t_1)),.list (List.map rrc (Mt.rows (aD l t_1))) .no,.list (List.map stc (Mt.aa (aD l t_1))) .no]; exact fun b=>ak [.ptr 1 0,.int .u32 t] [.ptr q 0,.int .u32 t_1]∧bO [.cells [.ptr 1 0],.abs (rkM (ar w) m),.cells [.int .u32 0,.int .i64 0,.int .u32 0,.list [] .exact,.list [] .exact]] q (rkM l most)∧Ok l most∧∃(c:Mt) (t1:Tail) (t2:Tail),by refine(?_:_→Prop) [PV.int .u32 c.id,.int .i64 c.md,.int .u32 c.ins,.list (c.rows.map rrc) .no,.list (c.aa.map stc) .no]; exact fun a=>ak [.agg b] [.agg [.int .u32 c.id,.int .i64 c.md,.int .u32 c.ins,.list (c.rows.map rrc) t1,.list (c.aa.map stc) t2]]∧Mt.Sm c∧K (.tup [.agg a,.bool (has l t_1)]) [.cells [.ptr 1 0],.abs (rkM (ar w) m),.cells a,.cells b])→aj Tryd.prog gl 20 [.ptr 0 0,.int .u32 t] [.cells [.ptr 1 0],.abs (rkM (ar w) m)] K:=fun K h=>ah (T:=TT0) (L:=[]) (fun o=>match o.dst with|some 21=>1|_=>0) Tryd.func20 (by kernel_rfl) (by kernel_rfl) (by kernel_rfl) (qk) (LOk.nil _ _ _ _ _) (ag (by kernel_rfl) h)
end Go.Proofs.YtenaelaapdhbdaaDoor
