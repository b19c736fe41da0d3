/-
  A rack of matches.
-/
import Derived.Test.YtenaelaapdhbdaaDoorDa
import Derived.Test.YtenaelaapdhbdaaDoorProg
namespace Go.Proofs.YtenaelaapdhbdaaDoor
open Go Go.AM Go.Proofs
abbrev RwM:=Rw Mt
def csM (r:RwM):List PV:=[.int .u32 r.id,.int .u32 r.v.id,.int .i64 r.v.md,.int .u32 r.v.ins,.list (r.v.rows.map rrc) .no,.list (r.v.aa.map stc) .no]
theorem dh (r:RwM):(csM r).length=6:=rfl
theorem kf {n:Nat} (r:RwM):∀ y∈csM r,Low n y:=by
 intro y hy
 simp only[csM,List.mem_cons,List.not_mem_nil,or_false] at hy
 rcases hy with rfl|rfl|rfl|rfl|rfl|rfl<;>first|exact .int _ _|exact .str _|exact aQ _|exact dg _
theorem zc (v:Mt):Low 0 (Mt.pv v):=by first|exact .int _ _|exact .str _|(refine .agg _ ?_; intro y hy; simp only[List.mem_cons,List.not_mem_nil,or_false] at hy; rcases hy with rfl|rfl|rfl|rfl|rfl<;>first|exact .int _ _|exact .str _|exact aQ _|exact dg _)
theorem gj (v:Mt) (b:Bool):Low 0 (.tup [Mt.pv v,.bool b]):= .tup _ (by intro y hy; simp only[List.mem_cons,List.not_mem_nil,or_false] at hy; rcases hy with rfl|rfl; exact zc v; exact .bool _)
theorem Et (r:RwM):∀ y∈csM r,y.one=true:=by
 intro y hy
 simp only[csM,List.mem_cons,List.not_mem_nil,or_false] at hy
 rcases hy with rfl|rfl|rfl|rfl|rfl|rfl<;>rfl
abbrev flM (l:List RwM):List PV:=(l.map csM).flatten
theorem jl (l:List RwM):(flM l).length=l.length*6:=bq dh l
theorem oo {l:List RwM} {k:Nat} (J:List PV) (h:k<l.length):List.drop (k*6) (flM l++J)=csM (l.getD k default)++(flM (l.drop (k+1))++J):=kP dh J default h
theorem iP {n:Nat} (l:List RwM) {J:List PV} (h:∀ y∈J,Low n y):∀ y∈flM l++J,Low n y:=fi (fun a _=>kf a) h
theorem rj (l:List RwM) {J:List PV} (h:∀ y∈J,y.one=true):∀ y∈flM l++J,y.one=true:=by
 intro y hy
 rcases List.mem_append.1 hy with h1|h1
 ·obtain⟨c,h2,h3⟩:=List.mem_flatten.1 h1
  obtain⟨a,_,rfl⟩:=List.mem_map.1 h2
  exact Et a y h3
 ·exact h y h1
def da (l:List RwM) (J:List PV) (cap:Nat) (most:Int):ae:=[.cells [.arr 1 0 l.length cap,.int .i64 most],.cells (flM l++J)]
def jH (most:Int):ae:=[.cells [.list [] .exact,.int .i64 most]]
def EXM (l:List RwM) (most:Int) (H:ae):Prop:=
 (∃(J:List PV) (cap:Nat),H=da l J cap most∧l.length≤cap∧aJ J ((cap-l.length)*6))∨(l=[]∧H=jH most)
theorem Fj (r:RwM) (t:Int)  (K:PV→Prop) (h:K (.int .i64 (fB (Rw.id r) t))):aj Tryd.prog gl 85 [.agg (csM r),.int .u32 t] [] (fun x _=>K x):=
 ah (T:=TK) (L:=[]) (fun _=>0) Tryd.func85 (by kernel_rfl) (by kernel_rfl) (by kernel_rfl) (vK) (LOk.nil _ _ _ _ _) (ag (by kernel_rfl) h)
def Bd (args:List PV) (K:PV→Prop):Prop:=∃(r:RwM) (t:Int),ak args [.agg (csM r),.int .u32 t]∧K (.int .i64 (fB r.id t))
theorem FL:aO Tryd.prog gl 85 (.pure Bd):=by
 rintro args K ⟨r,t,he,hk⟩
 have he:args=_:=he
 subst he
 exact eM aq (by intro y hy; simp only[List.mem_cons,List.not_mem_nil,or_false] at hy; rcases hy with rfl|rfl; exact .agg _ (kf r); exact .int _ _) (.int _ _) (Fj r t (fun y=>y = .int .i64 (fB r.id t)) rfl) hk
def TCM:Tab:=(85,.pure Bd)::TK
theorem nI:aB Tryd.prog gl TCM:= .cons FL vK
theorem F7 (l:List RwM) (J:List PV) (cap:Nat) (most:Int) (t:Int) (i j:Nat):(by refine(?_:_→_→_→Prop) (Int.fdiv (IntKind.wrap .u64 (wI ((i:Int)+(j:Int)))) 2) (PV.arr 1 0 l.length cap) (PV.int .i64 l.length); exact fun b f g=>by refine(?_:_→_→_→Prop) (List.drop (0+Int.toNat (wI b)*6) (flM l++J)) [Ob.cells [f,.int .i64 most],.cells (flM l++J)] [PV.arr 1 0 l.length cap,.int .u32 t,.fn 85 [],g,.int .i64 i,.int .i64 j]; exact fun a c d=>∀(R:Ex→List PV→ae→Prop),(br (decide ((i:Int)<(j:Int))) ((0≤wI b∧wI b<(l.length:Int))∧br (true && aP [.int .u32,.int .u32,.int .i64,.int .u32,.list,.list] 0 a) (∃(r:RwM) (t_1:Int),ak [.agg [.int .u32 (cI a 0),.int .u32 (cI a 1),.int .i64 (cI a 2),.int .u32 (cI a 3),.list (cL a 4) (cT a 4),.list (cL a 5) (cT a 5)],.int .u32 t] [.agg [.int .u32 r.id,.int .u32 r.v.id,.int .i64 r.v.md,.int .u32 r.v.ins,.list (r.v.rows.map rrc) .no,.list (r.v.aa.map stc) .no],.int .u32 t_1]∧br (decide (fB r.id t_1<0)) (R .normal [f,.int .u32 t,.fn 85 [],g,.int .i64 (wI (wI b+1)),.int .i64 j] c) (R .normal [f,.int .u32 t,.fn 85 [],g,.int .i64 i,.int .i64 (wI b)] c)) False) (R (.exit 0) d c))→Holds (wpc br Tryd.prog gl TCM [] (fun _=>0) (an [1,1,1,0,0] (ai Tryd.f84)) [] (av [0,1,2,8,9,10] d) c (fun ex e H=>R ex (List.map e [0,1,2,8,9,10]) H)):Prop):=fun R h=>ag (by kernel_rfl) h
theorem FX (most t:Int):(by refine(?_:_→_→Prop) [PV.list [] .exact,.int .u32 t,.fn 85 [],.int .i64 0,.int .i64 0,.int .i64 0] [Ob.cells [.list [] .exact,.int .i64 most]]; exact fun a b=>∀(R:Ex→List PV→ae→Prop),(R (.exit 0) a b)→Holds (wpc br Tryd.prog gl TCM [] (fun _=>0) (an [1,1,1,0,0] (ai Tryd.f84)) [] (av [0,1,2,8,9,10] a) b (fun ex e H=>R ex (List.map e [0,1,2,8,9,10]) H)):Prop):=fun R h=>ag (by kernel_rfl) h
def HG:LSp:=fun e H Q=>∃(l:List RwM) (J:List PV) (cap:Nat) (most t:Int) (p:Nat),Lb l t p∧l.length≤1000000∧ak (List.map e [0,1,2,8,9,10]) [.arr 1 0 l.length cap,.int .u32 t,.fn 85 [],.int .i64 l.length,.int .i64 0,.int .i64 l.length]∧az H (da l J cap most)∧
 Q (.exit 0) (av [0,1,2,8,9,10] [.arr 1 0 l.length cap,.int .u32 t,.fn 85 [],.int .i64 l.length,.int .i64 p,.int .i64 p]) (da l J cap most)
theorem B2:∀ e H Q,HG e H Q→AW Tryd.prog gl Tryd.f84.ntmps (.loop (an [1,1,1,0,0] (ai Tryd.f84))) Q e H:=by
 rintro e H Q ⟨l,J,cap,most,t,p,hp,hl,he,hH,hQ⟩
 refine aG (hn:=fun _=>0) aq nI (.nil _ _ _ _ _) (σ:=Nat×Nat) [0,1,2,8,9,10] (fun s=>s.1≤p∧p≤s.2∧s.2≤l.length)
  (fun s=>[.arr 1 0 l.length cap,.int .u32 t,.fn 85 [],.int .i64 l.length,.int .i64 s.1,.int .i64 s.2]) (fun _=>da l J cap most) (fun s=>s.2-s.1) (0,l.length) ⟨Nat.zero_le _,hp.le,Nat.le_refl _⟩ he hH ?_
 rintro⟨i,j⟩ ⟨h1,h2,h3⟩
 simp only at h1 h2 h3
 refine F7 l J cap most t i j _ ?_
 simp only[ay,dt]
 by_cases h:i<j
 ·rw[if_pos (by omega)]
  obtain⟨k,hk⟩:∃ k,k=(i+j) / 2:=⟨_,rfl⟩
  have e1:wI (Int.fdiv (IntKind.wrap .u64 (wI ((i:Int)+j))) 2)=(k:Int):=by
   rw[a8 (n:=(i:Int)+j) (by omega) (by omega),wrap_u64 (by omega) (by omega),Int.fdiv_eq_ediv_of_nonneg _ (by decide),a8 (by omega) (by omega)]
   omega
  simp only[e1,au,Nat.zero_add]
  have hkl:k<l.length:=by omega
  rw[oo J hkl]
  refine⟨⟨by omega,by omega⟩,?_⟩
  rw[if_pos (by rfl)]
  refine⟨l.getD k default,t,rfl,?_⟩
  by_cases c:fB (l.getD k default).id t<0
  ·rw[if_pos c]
   have hc:(l.getD k default).id<t:=by unfold fB at c; split at c; assumption; split at c<;>omega
   have hkp:k<p:=by
    rcases Nat.lt_or_ge k p with q|q
    ·exact q
    ·have:=hp.hi k q hkl; omega
   exact⟨(k+1,j),(show j-(k+1)<j-i by omega),⟨hkp,h2,h3⟩,by rw[ax hkl (by omega)],[],rfl,Nat.le_refl _,.inl rfl⟩
  ·rw[if_neg c]
   have hc:t≤(l.getD k default).id:=by unfold fB at c; split at c<;>omega
   have hkp:p≤k:=by
    rcases Nat.lt_or_ge k p with q|q
    ·have:=hp.lo k q; omega
    ·exact q
   exact⟨(i,k),(show k-i<j-i by omega),⟨h1,hkp,by omega⟩,rfl,[],rfl,Nat.le_refl _,.inl rfl⟩
 ·rw[if_neg (by omega)]
  have e1:i=p:=by omega
  have e2:j=p:=by omega
  subst e1
  subst e2
  exact hQ
def Hi:LSp:=fun e H Q=>∃(most t:Int),ak (List.map e [0,1,2,8,9,10]) [.list [] .exact,.int .u32 t,.fn 85 [],.int .i64 0,.int .i64 0,.int .i64 0]∧az H (jH most)∧
 Q (.exit 0) (av [0,1,2,8,9,10] [.list [] .exact,.int .u32 t,.fn 85 [],.int .i64 0,.int .i64 0,.int .i64 0]) (jH most)
theorem Cr:∀ e H Q,Hi e H Q→AW Tryd.prog gl Tryd.f84.ntmps (.loop (an [1,1,1,0,0] (ai Tryd.f84))) Q e H:=by
 rintro e H Q ⟨most,t,he,hH,hQ⟩
 refine aG (hn:=fun _=>0) aq nI (.nil _ _ _ _ _) (σ:=Unit) [0,1,2,8,9,10] (fun _=>True)
  (fun _=>[.list [] .exact,.int .u32 t,.fn 85 [],.int .i64 0,.int .i64 0,.int .i64 0]) (fun _=>jH most) (fun _=>0) () trivial he hH ?_
 intro _ _
 exact FX most t _ hQ
theorem Ev (l:List RwM) (J:List PV) (cap:Nat) (most:Int) (t:Int):(by refine(?_:_→_→Prop) (PV.arr 1 0 l.length cap) (PV.int .i64 l.length); exact fun g h=>by refine(?_:_→Prop) [Ob.cells [g,.int .i64 most],.cells (flM l++J)]; exact fun f=>∀(K:PV→ae→Prop),(∃(l_1:List RwM) (J_1:List PV) (cap_1:Nat) (most_1:Int) (t_1:Int) (p:Nat),by refine(?_:_→_→_→_→Prop) (List.drop (0+Int.toNat (p:Int)*6) (flM l_1++J_1)) (PV.arr 1 0 l_1.length cap_1) (PV.int .i64 l_1.length) (l_1.length:Int); exact fun a c d e=>by refine(?_:_→Prop) [Ob.cells [c,.int .i64 most_1],.cells (flM l_1++J_1)]; exact fun b=>Lb l_1 t_1 p∧l_1.length≤1000000∧ak [g,.int .u32 t,.fn 85 [],h,.int .i64 0,h] [c,.int .u32 t_1,.fn 85 [],d,.int .i64 0,d]∧az f b∧br (decide ((p:Int)<e) == true) ((0≤(p:Int)∧(p:Int)<e)∧br (true && aP [.int .u32,.int .u32,.int .i64,.int .u32,.list,.list] 0 a) (∃(r:RwM) (t:Int),ak [.agg [.int .u32 (cI a 0),.int .u32 (cI a 1),.int .i64 (cI a 2),.int .u32 (cI a 3),.list (cL a 4) (cT a 4),.list (cL a 5) (cT a 5)],.int .u32 t_1] [.agg [.int .u32 r.id,.int .u32 r.v.id,.int .i64 r.v.md,.int .u32 r.v.ins,.list (r.v.rows.map rrc) .no,.list (r.v.aa.map stc) .no],.int .u32 t]∧K (.tup [.int .i64 p,.bool (fB r.id t == 0)]) b) False) (K (.tup [.int .i64 p,.bool false]) b))→aj Tryd.prog gl 84 [g,.int .u32 t,.fn 85 []] f K:Prop):=fun K h=>ah (T:=TCM) (L:=[([1,1,1,0,0],HG)]) (fun _=>0) Tryd.func84 (by kernel_rfl) (by kernel_rfl) (by kernel_rfl) (nI) (.cons (aH (by kernel_rfl)) B2 (.nil _ _ _ _ _)) (ag (by kernel_rfl) h)
theorem EC (most t:Int)  (K:PV→ae→Prop) (h:∃(most_1:Int) (t_1:Int),ak [.list [] .exact,.int .u32 t,.fn 85 [],.int .i64 0,.int .i64 0,.int .i64 0] [.list [] .exact,.int .u32 t_1,.fn 85 [],.int .i64 0,.int .i64 0,.int .i64 0]∧az [.cells [.list [] .exact,.int .i64 most]] [.cells [.list [] .exact,.int .i64 most_1]]∧K (.tup [.int .i64 0,.bool false]) [.cells [.list [] .exact,.int .i64 most_1]]):aj Tryd.prog gl 84 [.list [] .exact,.int .u32 t,.fn 85 []] [.cells [.list [] .exact,.int .i64 most]] K:=
 ah (T:=TCM) (L:=[([1,1,1,0,0],Hi)]) (fun _=>0) Tryd.func84 (by kernel_rfl) (by kernel_rfl) (by kernel_rfl) (nI) (.cons (aH (by kernel_rfl)) Cr (.nil _ _ _ _ _)) (ag (by kernel_rfl) h)
def Ib (args:List PV) (H:ae) (K:PV→Prop):Prop:=
 (∃(l:List RwM) (J:List PV) (cap:Nat) (most t:Int),ak args [.arr 1 0 l.length cap,.int .u32 t,.fn 85 []]∧az H (da l J cap most)∧Ok l most∧K (.tup [.int .i64 (lbp l t),.bool (has l t)]))∨
 (∃(most t:Int),ak args [.list [] .exact,.int .u32 t,.fn 85 []]∧az H (jH most)∧K (.tup [.int .i64 0,.bool false]))
theorem Jq:aO Tryd.prog gl 84 (.read Ib):=by
 rintro args H K (⟨l,J,cap,most,t,he,hH,ok,hk⟩|⟨most,t,he,hH,hk⟩)
 ·have he:args=_:=he
  have hH:H=_:=hH
  subst he
  subst hH
  obtain⟨p,hpe⟩:∃ p,p=lbp l t:=⟨_,rfl⟩
  have hp:Lb l t p:=hpe▸ok.lb t
  unfold has at hk
  rw[← hpe] at hk
  refine⟨_,Ev l J cap most t _ ⟨l,J,cap,most,t,p,hp,ok.len,rfl,rfl,?_⟩,hk⟩
  simp only[ay,bt,dt]
  by_cases c:p<l.length
  ·rw[if_pos (by omega)]
   simp only[au,Nat.zero_add]
   rw[oo J c]
   refine⟨⟨by omega,by omega⟩,?_⟩
   rw[if_pos (by rfl)]
   refine⟨l.getD p default,t,rfl,?_,rfl⟩
   unfold uH
   have e:((fB (l.getD p default).id t) == 0)=decide (p<l.length∧(l.getD p default).id=t):=by
    rw[Bool.eq_iff_iff,beq_iff_eq,decide_eq_true_eq]
    unfold fB
    constructor
    ·intro h; refine⟨c,?_⟩; split at h; omega; split at h<;>omega
    ·rintro⟨_,h⟩; rw[if_neg (by omega),if_neg (by omega)]
   rw[e]
  ·rw[if_neg (by omega)]
   unfold uH
   rw[decide_eq_false (fun h=>c h.1)]
   exact⟨rfl,rfl⟩
 ·have he:args=_:=he
  have hH:H=_:=hH
  subst he
  subst hH
  exact⟨_,EC most t _ ⟨most,t,rfl,rfl,rfl,rfl⟩,hk⟩
def TBM:Tab:=(84,.read Ib)::TCM
theorem uQ:aB Tryd.prog gl TBM:= .cons Jq nI
theorem GF (l:List RwM) (J:List PV) (cap:Nat) (most:Int) (t:Int):(by refine(?_:_→_→Prop) [Ob.cells [.arr 1 0 l.length cap,.int .i64 most],.cells (flM l++J)] [PV.arr 1 0 l.length cap,.int .u32 t,.fn 85 []]; exact fun a b=>∀(K:PV→ae→Prop),((∃(l_1:List RwM) (J_1:List PV) (cap_1:Nat) (most_1:Int) (t_1:Int),ak b [.arr 1 0 l_1.length cap_1,.int .u32 t_1,.fn 85 []]∧az a [.cells [.arr 1 0 l_1.length cap_1,.int .i64 most_1],.cells (flM l_1++J_1)]∧Ok l_1 most_1∧K (.tup [.int .i64 (↑(lbp l_1 t_1):Int),.bool (has l_1 t_1)]) a)∨∃(most_1:Int) (t_1:Int),ak b [.list [] .exact,.int .u32 t_1,.fn 85 []]∧az a [.cells [.list [] .exact,.int .i64 most_1]]∧K (.tup [.int .i64 0,.bool false]) a)→aj Tryd.prog gl 67 [.ptr 0 0,.int .u32 t] a K:Prop):=fun K h=>ah (T:=TBM) (L:=[]) (fun o=>match o.op with| .load t _=>(match t with|125=>1|_=>0)|_=>0) Tryd.func67 (by kernel_rfl) (by kernel_rfl) (by kernel_rfl) (uQ) (LOk.nil _ _ _ _ _) (ag (by kernel_rfl) h)
theorem Eo (most t:Int):(by refine(?_:_→_→Prop) [Ob.cells [.list [] .exact,.int .i64 most]] [PV.list [] .exact,.int .u32 t,.fn 85 []]; exact fun a b=>∀(K:PV→ae→Prop),((∃(l:List RwM) (J:List PV) (cap:Nat) (most_1:Int) (t_1:Int),ak b [.arr 1 0 l.length cap,.int .u32 t_1,.fn 85 []]∧az a [.cells [.arr 1 0 l.length cap,.int .i64 most_1],.cells (flM l++J)]∧Ok l most_1∧K (.tup [.int .i64 (↑(lbp l t_1):Int),.bool (has l t_1)]) a)∨∃(most_1:Int) (t_1:Int),ak b [.list [] .exact,.int .u32 t_1,.fn 85 []]∧az a [.cells [.list [] .exact,.int .i64 most_1]]∧K (.tup [.int .i64 0,.bool false]) a)→aj Tryd.prog gl 67 [.ptr 0 0,.int .u32 t] a K:Prop):=fun K h=>ah (T:=TBM) (L:=[]) (fun o=>match o.op with| .load t _=>(match t with|125=>1|_=>0)|_=>0) Tryd.func67 (by kernel_rfl) (by kernel_rfl) (by kernel_rfl) (uQ) (LOk.nil _ _ _ _ _) (ag (by kernel_rfl) h)
def HC (args:List PV) (H:ae) (K:PV→Prop):Prop:=
 ∃(l:List RwM) (most t:Int),ak args [.ptr 0 0,.int .u32 t]∧EXM l most H∧Ok l most∧K (.tup [.int .i64 (lbp l t),.bool (has l t)])
theorem DC:aO Tryd.prog gl 67 (.read HC):=by
 rintro args H K ⟨l,most,t,he,hH,ok,hk⟩
 have he:args=_:=he
 subst he
 rcases hH with⟨J,cap,rfl,_,_⟩|⟨rfl,rfl⟩
 ·exact⟨_,GF l J cap most t _ (.inl ⟨l,J,cap,most,t,rfl,rfl,ok,rfl,rfl⟩),hk⟩
 ·exact⟨_,Eo most t _ (.inr ⟨most,t,rfl,rfl,rfl,rfl⟩),hk⟩
def TAM:Tab:=(67,.read HC)::TBM
theorem AT:aB Tryd.prog gl TAM:= .cons DC uQ
theorem wY {l:List RwM} {J:List PV} {cap:Nat} {most:Int} (h:l.length≤cap) (hJ:aJ J ((cap-l.length)*6)):EXM l most [.cells [.arr 1 0 l.length cap,.int .i64 most],.cells (flM l++J)]:= .inl ⟨J,cap,rfl,h,hJ⟩
theorem Ad {most:Int}:EXM [] most [.cells [.list [] .exact,.int .i64 most]]:= .inr ⟨rfl,rfl⟩
def pw (l:List RwM) (most:Int) (H:ae):Prop:=∃ X G:ae,H=X++G∧EXM l most X
theorem g6 {l:List RwM} {J:List PV} {cap:Nat} {most:Int} {n:Nat} (hn:2≤n) (h:∀ y∈J,Low 0 y):gQ n (da l J cap most):=
 kK (fun y hy=>by simp only[List.mem_cons,List.not_mem_nil,or_false] at hy; rcases hy with rfl|rfl; exact .arr _ _ _ _ (by omega); exact .low (.int _ _)) (fun y hy=> .low (iP l h y hy))
theorem kj {most:Int} {n:Nat}:gQ n (jH most):=
 Cx (fun y hy=>by simp only[List.mem_cons,List.not_mem_nil,or_false] at hy; rcases hy with rfl|rfl; exact .low (aI NT.exact (fun _ h=>nomatch h)); exact .low (.int _ _))
def qS (args:List PV) (H:ae) (K:PV→Prop):Prop:=
 ∃(l:List RwM) (most t:Int),ak args [.ptr 0 0,.int .u32 t]∧pw l most H∧Ok l most∧K (.tup [.int .i64 (lbp l t),.bool (has l t)])
theorem qG:aO Tryd.prog gl 67 (.read qS):=by
 rintro args H K ⟨l,most,t,he,⟨X,G,rfl,hX⟩,ok,hk⟩
 have he:args=_:=he
 subst he
 obtain⟨r,h1,rfl⟩:=DC _ X (fun x=>x = .tup [.int .i64 (lbp l t),.bool (has l t)]) ⟨l,most,t,rfl,hX,ok,rfl⟩
 have hlow:Low 0 (.tup [.int .i64 (lbp l t),.bool (has l t)]):= .tup _ (by intro y hy; simp only[List.mem_cons,List.not_mem_nil,or_false] at hy; rcases hy with rfl|rfl; exact .int _ _; exact .bool _)
 refine⟨_,?_,hk⟩
 rcases hX with⟨J,cap,rfl,hc,hJ⟩|⟨rfl,rfl⟩
 ·exact iO aq (by intro y hy; simp only[List.mem_cons,List.not_mem_nil,or_false] at hy; rcases hy with rfl|rfl; exact .ptr _ _ (by simp[da]); exact .low (.int _ _)) (g6 (by simp[da]) hJ.low) hlow h1
 ·exact iO aq (by intro y hy; simp only[List.mem_cons,List.not_mem_nil,or_false] at hy; rcases hy with rfl|rfl; exact .ptr _ _ (by simp[jH]); exact .low (.int _ _)) kj hlow h1
def Iu:Tab:=(67,.read qS)::TAM
theorem vb:aB Tryd.prog gl Iu:= .cons qG AT
theorem Ca (l:List RwM) (J:List PV) (cap:Nat) (most:Int) (t:Int):(by refine(?_:_→_→_→_→Prop) [PV.arr 1 0 l.length cap,.int .i64 most] [PV.int .u32 0,.int .i64 0,.int .u32 0,.list [] .exact,.list [] .exact] (Ob.cells (flM l++J)) [PV.ptr 0 0,.int .u32 t]; exact fun f g h i=>by refine(?_:_→Prop) [Ob.cells f,h,.cells g]; exact fun e=>∀(K:PV→ae→Prop),(∃(l_1:List RwM) (most_1:Int) (t_1:Int),by refine(?_:_→_→Prop) (↑(lbp l_1 t_1):Int) (PV.bool (has l_1 t_1)); exact fun c d=>by refine(?_:_→Prop) (List.drop (0+Int.toNat c*6+1) (flM l++J)); exact fun a=>by refine(?_:_→Prop) [PV.int .u32 (cI a 0),.int .i64 (cI a 1),.int .u32 (cI a 2),.list (cL a 3) (cT a 3),.list (cL a 4) (cT a 4)]; exact fun b=>ak i [.ptr 0 0,.int .u32 t_1]∧pw l_1 most_1 e∧Ok l_1 most_1∧br (has l_1 t_1) ((0≤c∧c<(l.length:Int))∧br (true && aP [.int .u32,.int .i64,.int .u32,.list,.list] 0 a) (K (.tup [.agg b,d]) [.cells f,h,.cells b]) False) (K (.tup [.agg g,d]) e))→aj Tryd.prog gl 42 i [.cells f,h] K:Prop):=fun K h=>ah (T:=Iu) (L:=[]) (fun o=>match o.op with| .load t _=>(match t with|125=>1|_=>0)|_=>0) Tryd.func42 (by kernel_rfl) (by kernel_rfl) (by kernel_rfl) (vb) (LOk.nil _ _ _ _ _) (ag (by kernel_rfl) h)
theorem Ea (most t:Int):(by refine(?_:_→_→_→Prop) [PV.int .u32 0,.int .i64 0,.int .u32 0,.list [] .exact,.list [] .exact] (Ob.cells [.list [] .exact,.int .i64 most]) [PV.ptr 0 0,.int .u32 t]; exact fun a b c=>∀(K:PV→ae→Prop),(∃(l:List RwM) (most_1:Int) (t_1:Int),ak c [.ptr 0 0,.int .u32 t_1]∧pw l most_1 [b,.cells a]∧Ok l most_1∧br (has l t_1) (InL [] 6 (↑(lbp l t_1):Int)∧False) (K (.tup [.agg a,.bool (has l t_1)]) [b,.cells a]))→aj Tryd.prog gl 42 c [b] K:Prop):=fun K h=>ah (T:=Iu) (L:=[]) (fun o=>match o.op with| .load t _=>(match t with|125=>1|_=>0)|_=>0) Tryd.func42 (by kernel_rfl) (by kernel_rfl) (by kernel_rfl) (vb) (LOk.nil _ _ _ _ _) (ag (by kernel_rfl) h)
def z6 (args:List PV) (H:ae) (K:PV→Prop):Prop:=
 ∃(l:List RwM) (most t:Int),ak args [.ptr 0 0,.int .u32 t]∧EXM l most H∧Ok l most∧K (.tup [(let v:=aD l t; Mt.pv v),.bool (has l t)])
theorem qm:aO Tryd.prog gl 42 (.read z6):=by
 rintro args H K ⟨l,most,t,he,hH,ok,hk⟩
 have he:args=_:=he
 subst he
 refine⟨_,aj.same (gj _ _).up (bA ?_),hk⟩
 rcases hH with⟨J,cap,rfl,hc,hJ⟩|⟨rfl,rfl⟩
 ·refine Ca l J cap most t _ ⟨l,most,t,rfl,⟨_,[_],rfl,wY hc hJ⟩,ok,?_⟩
  simp only[ay]
  unfold aD
  cases c:has l t with
  | true=>
   obtain⟨c1,c2⟩:=fP c
   rw[if_pos rfl,if_pos rfl]
   simp only[au,Nat.zero_add]
   rw[← List.drop_drop,oo J c1]
   exact⟨⟨by omega,by omega⟩,by first|exact⟨_,.tup (.cons (.agg (.cons (.refl _) (.cons (.refl _) (.cons (.refl _) (.cons (.list _ _) (.cons (.list _ _) .nil)))))) (.cons (.refl _) .nil)),rfl,[_],rfl⟩|(rw[if_pos (by rfl)]; exact⟨_,.tup (.cons (.agg (.cons (.refl _) (.cons (.refl _) (.cons (.refl _) (.cons (.list _ _) (.cons (.list _ _) .nil)))))) (.cons (.refl _) .nil)),rfl,[_],rfl⟩)⟩
  | false=>rw[if_neg (by decide),if_neg (by decide)]; exact⟨_,.tup (.cons (.agg (.cons (.refl _) (.cons (.refl _) (.cons (.refl _) (.cons (.list _ _) (.cons (.list _ _) .nil)))))) (.cons (.refl _) .nil)),rfl,[_],rfl⟩
 ·refine Ea most t _ ⟨[],most,t,rfl,⟨_,[_],rfl,Ad⟩,ok,?_⟩
  exact⟨_,.tup (.cons (.agg (.cons (.refl _) (.cons (.refl _) (.cons (.refl _) (.cons (.list _ _) (.cons (.list _ _) .nil)))))) (.cons (.refl _) .nil)),rfl,[_],rfl⟩
def TGM:Tab:=(42,.read z6)::TAM
theorem tC:aB Tryd.prog gl TGM:= .cons qm AT
def B9 (args:List PV) (H:ae) (K:PV→Prop):Prop:=
 ∃(l:List RwM) (most t:Int),ak args [.ptr 0 0,.int .u32 t]∧pw l most H∧Ok l most∧K (.tup [(let v:=aD l t; Mt.pv v),.bool (has l t)])
theorem G5:aO Tryd.prog gl 42 (.read B9):=by
 rintro args H K ⟨l,most,t,he,⟨X,G,rfl,hX⟩,ok,hk⟩
 have he:args=_:=he
 subst he
 obtain⟨r,h1,rfl⟩:=qm _ X (fun x=>x = .tup [(let v:=aD l t; Mt.pv v),.bool (has l t)]) ⟨l,most,t,rfl,hX,ok,rfl⟩
 refine⟨_,?_,hk⟩
 rcases hX with⟨J,cap,rfl,hc,hJ⟩|⟨rfl,rfl⟩
 ·exact iO aq (by intro y hy; simp only[List.mem_cons,List.not_mem_nil,or_false] at hy; rcases hy with rfl|rfl; exact .ptr _ _ (by simp[da]); exact .low (.int _ _)) (g6 (by simp[da]) hJ.low) (gj _ _) h1
 ·exact iO aq (by intro y hy; simp only[List.mem_cons,List.not_mem_nil,or_false] at hy; rcases hy with rfl|rfl; exact .ptr _ _ (by simp[jH]); exact .low (.int _ _)) kj (gj _ _) h1
theorem Fe:aO Tryd.prog gl 86 (.ext dw):=
 iq (t:=125) (e:=141) (b:=true) (sz:=6) Tryd.func86 (by kernel_rfl) (by kernel_rfl) (by kernel_rfl) (by kernel_rfl) (by kernel_rfl) (by kernel_rfl) (by kernel_rfl)
def TIM:Tab:=(86,.ext dw)::TGM
theorem Ek:aB Tryd.prog gl TIM:= .cons Fe tC
theorem DM (l:List RwM) (J:List PV) (cap:Nat) (most:Int) (r:RwM) (p:Nat):(by refine(?_:_→_→_→_→_→_→_→_→_→Prop) ((p:Int)+(1:Int)) ((l.length:Int)+(1:Int)) (Int.toNat (l.length:Int)-Int.toNat (p:Int)) [PV.int .u32 r.id,.int .u32 r.v.id,.int .i64 r.v.md,.int .u32 r.v.ins,.list (r.v.rows.map rrc) .no,.list (r.v.aa.map stc) .no] [PV.int .u32 0,.int .u32 0,.int .i64 0,.int .u32 0,.list [] .exact,.list [] .exact] (Int.toNat (cap:Int)-0) (Ob.cells (flM l++J)) (Int.toNat (p:Int)-0) (PV.arr 1 0 l.length cap); exact fun i m q s t u z B D=>by refine(?_:_→_→_→_→_→_→Prop) s (↑u:Int) (List.take (q*6) (List.drop (if Int.toNat (cap:Int)=Int.toNat (p:Int) then 0 else 0+Int.toNat (p:Int)*6) (flM l++J))) (Ob.cells [D,.int .i64 most]) (wI m-(p:Int)) (Int.toNat (wI m)-0); exact fun g h j n w C=>by refine(?_:_→_→Prop) (↑C:Int) (Int.toNat (p:Int)-0+Int.toNat (wI w)); exact fun d f=>by refine(?_:_→_→_→_→Prop) (Int.toNat d-Int.toNat (p:Int)) (Int.toNat (↑f:Int)-Int.toNat (p:Int)) (Int.toNat (↑f:Int)-Int.toNat (wI i)) (Int.toNat d-Int.toNat (wI i)); exact fun o x y A=>by refine(?_:_→Prop) (List.take (o*6) (List.drop (if Int.toNat h=Int.toNat (p:Int) then if Int.toNat (cap:Int)=0 then 0 else 0 else(if Int.toNat (cap:Int)=0 then 0 else 0)+Int.toNat (p:Int)*6) (flM l++J))); exact fun e=>by refine(?_:_→Prop) (over (flM l++J) (if Int.toNat h=Int.toNat (wI i) then if Int.toNat (cap:Int)=0 then 0 else 0 else(if Int.toNat (cap:Int)=0 then 0 else 0)+Int.toNat (wI i)*6) (List.take (min o A*6) e)); exact fun k=>∀(K:PV→ae→Prop),((0≤(p:Int)∧(p:Int)≤(l.length:Int)∧(l.length:Int)≤(cap:Int)∧(cap:Int)≤(cap:Int))∧br ((p:Int) == (l.length:Int)) ((l.length≤cap∧0+cap*6≤List.length (flM l++J)∧6=6∧List.all g PV.one=true∧(l.length+1)*80≤140737488355328)∧(l.length+1≤cap→K (.arr 1 0 (l.length+1) cap) [n,.cells (over (flM l++J) (0+l.length*6) g)])∧(cap<l.length+1→∀(c:Nat),l.length+1≤c→K (.arr 2 0 (l.length+1) c) [n,z,.cells (List.take (l.length*6) (List.drop 0 (flM l++J))++g++List.flatten (List.replicate (c-(l.length+1)) t))])) (br (decide (wI m>(cap:Int))) ((iI 0≤0∧0≤(p:Int)∧(p:Int)≤(cap:Int)∧(cap:Int)≤(cap:Int))∧(Int.toNat (p:Int)-0≤Int.toNat (cap:Int)-0∧(if Int.toNat (cap:Int)=0 then 0 else 0)+u*6≤List.length (flM l++J)∧0≤wI w∧Int.toNat (cap:Int)-0<Int.toNat (p:Int)-0+Int.toNat (wI w)∧f*80≤140737488355328)∧∀(c:Nat),by refine(?_:_→Prop) (List.take (B*6) (List.drop (if Int.toNat (cap:Int)=0 then 0 else 0) (flM l++J))++List.flatten (List.replicate (c-B) t)); exact fun b=>by refine(?_:_→Prop) (over b (if Int.toNat (c:Int)=Int.toNat (p:Int) then 0 else 0+Int.toNat (p:Int)*6) (List.take (min 1 x*6) g)); exact fun a=>Int.toNat (p:Int)-0+Int.toNat (wI w)≤c→(0≤(p:Int)∧(p:Int)≤(↑f:Int)∧(↑f:Int)≤(c:Int)∧(c:Int)≤(c:Int))∧((if Int.toNat (c:Int)=Int.toNat (p:Int) then 0 else 0+Int.toNat (p:Int)*6)+x*6≤List.length b∧6=6∧List.all g PV.one=true)∧(0≤wI i∧wI i≤(↑f:Int)∧(↑f:Int)≤(c:Int)∧(c:Int)≤(c:Int))∧(0≤(p:Int)∧(p:Int)≤(l.length:Int)∧(l.length:Int)≤(cap:Int)∧(cap:Int)≤(cap:Int))∧(if Int.toNat (cap:Int)=Int.toNat (p:Int) then 0 else 0+Int.toNat (p:Int)*6)+q*6≤List.length (flM l++J)∧((if Int.toNat (c:Int)=Int.toNat (wI i) then 0 else 0+Int.toNat (wI i)*6)+y*6≤List.length a∧List.length j=q*6∧List.all j PV.one=true)∧K (.arr 2 0 f c) [n,z,.cells (over a (if Int.toNat (c:Int)=Int.toNat (wI i) then 0 else 0+Int.toNat (wI i)*6) (List.take (min q y*6) j))]) ((iI 0≤0∧0≤wI m∧wI m≤(cap:Int)∧(cap:Int)≤(cap:Int))∧(0≤wI i∧wI i≤d∧d≤h∧h≤h)∧s≠[]∧(flM l++J=[]→False)∧(0≤wI i∧wI i≤d∧d≤h∧h≤h)∧(0≤(p:Int)∧(p:Int)≤d∧d≤h∧h≤h)∧(if Int.toNat h=Int.toNat (p:Int) then if Int.toNat (cap:Int)=0 then 0 else 0 else(if Int.toNat (cap:Int)=0 then 0 else 0)+Int.toNat (p:Int)*6)+o*6≤List.length (flM l++J)∧((if Int.toNat h=Int.toNat (wI i) then if Int.toNat (cap:Int)=0 then 0 else 0 else(if Int.toNat (cap:Int)=0 then 0 else 0)+Int.toNat (wI i)*6)+A*6≤List.length (flM l++J)∧List.length e=o*6∧List.all e PV.one=true)∧(0≤(p:Int)∧(p:Int)≤d∧d≤h∧h≤h)∧((if Int.toNat h=Int.toNat (p:Int) then if Int.toNat (cap:Int)=0 then 0 else 0 else(if Int.toNat (cap:Int)=0 then 0 else 0)+Int.toNat (p:Int)*6)+o*6≤List.length k∧6=6∧List.all g PV.one=true)∧K (.arr 1 (if Int.toNat (cap:Int)=0 then 0 else 0) C u) [n,.cells (over k (if Int.toNat h=Int.toNat (p:Int) then if Int.toNat (cap:Int)=0 then 0 else 0 else(if Int.toNat (cap:Int)=0 then 0 else 0)+Int.toNat (p:Int)*6) (List.take (min 1 o*6) g))])))→aj Tryd.prog gl 68 [D,.int .i64 p,.list [csM r] .exact] [n,z] K:Prop):=fun K h=>ah (T:=TIM) (L:=[]) (fun o=>match o.op with| .load t _=>(match t with|125=>1|_=>0)|_=>match o.dst with|some 25=>2|_=>0) Tryd.func68 (by kernel_rfl) (by kernel_rfl) (by kernel_rfl) (Ek) (LOk.nil _ _ _ _ _) (ag (by kernel_rfl) h)
theorem CX (most:Int) (r:RwM):∀(K:PV→ae→Prop),((iI 0≤0∧iI 0≤0∧iI 0≤0∧iI 0≤0∧uni 6 [])∧6=6∧80≤140737488355328∧0<1∧∀(c:Nat),1≤c→K (.arr 1 0 1 c) [.cells [.list [] .exact,.int .i64 most],.cells ([.int .u32 r.id,.int .u32 r.v.id,.int .i64 r.v.md,.int .u32 r.v.ins,.list (r.v.rows.map rrc) .no,.list (r.v.aa.map stc) .no]++List.flatten (List.replicate (c-1) [.int .u32 0,.int .u32 0,.int .i64 0,.int .u32 0,.list [] .exact,.list [] .exact]))])→aj Tryd.prog gl 68 [.list [] .exact,.int .i64 0,.list [csM r] .exact] [.cells [.list [] .exact,.int .i64 most]] K:=fun K h=>ah (T:=TIM) (L:=[]) (fun o=>match o.op with| .load t _=>(match t with|125=>1|_=>0)|_=>match o.dst with|some 25=>2|_=>0) Tryd.func68 (by kernel_rfl) (by kernel_rfl) (by kernel_rfl) (Ek) (LOk.nil _ _ _ _ _) (ag (by kernel_rfl) h)
def JI (args:List PV) (H:ae) (K:PV→ae→Prop):Prop:=
 (∃(l:List RwM) (J:List PV) (cap:Nat) (most:Int) (r:RwM) (p:Nat),ak args [.arr 1 0 l.length cap,.int .i64 p,.list [csM r] .exact]∧az H (da l J cap most)∧p≤l.length∧l.length≤1000000∧l.length≤cap∧aJ J ((cap-l.length)*6)∧
  (∀(J':List PV),l.length+1≤cap→aJ J' ((cap-(l.length+1))*6)→K (.arr 1 0 (l.length+1) cap) [.cells [.arr 1 0 l.length cap,.int .i64 most],.cells (flM (bz l p r)++J')])∧
  (∀(c:Nat),l.length+1≤c→∀(J':List PV),aJ J' ((c-(l.length+1))*6)→K (.arr 2 0 (l.length+1) c) [.cells [.arr 1 0 l.length cap,.int .i64 most],.cells (flM l++J),.cells (flM (bz l p r)++J')]))∨
 (∃(most:Int) (r:RwM),ak args [.list [] .exact,.int .i64 0,.list [csM r] .exact]∧az H (jH most)∧
  ∀(c:Nat),1≤c→∀(J':List PV),aJ J' ((c-1)*6)→K (.arr 1 0 1 c) [.cells [.list [] .exact,.int .i64 most],.cells (csM r++J')])
def zrM:List PV:=[.int .u32 0,.int .u32 0,.int .i64 0,.int .u32 0,.list [] .exact,.list [] .exact]
theorem iv (n:Nat):aJ (List.replicate n zrM).flatten (n*6):=
 aJ.pX (z:=zrM) (by intro y hy; simp only[zrM,List.mem_cons,List.not_mem_nil,or_false] at hy; rcases hy with rfl|rfl|rfl|rfl|rfl|rfl<;>rfl) (by intro y hy; simp only[zrM,List.mem_cons,List.not_mem_nil,or_false] at hy; rcases hy with rfl|rfl|rfl|rfl|rfl|rfl<;>first|exact .int _ _|exact .str _|exact aI NT.exact (fun _ h=>nomatch h)) n
theorem vi:aO Tryd.prog gl 68 (.heap JI):=by
 rintro args H K (⟨l,J,cap,most,r,p,he,hH,hp,hl,hc,hJ,hk1,hk2⟩|⟨most,r,he,hH,hk⟩)
 ·have he:args=_:=he
  have hH:H=_:=hH
  subst he
  subst hH
  have hlen:(flM l++J).length=cap*6:=by rw[List.length_append,jl,hJ.len,← Nat.add_mul]; congr 1; omega
  have hone:(flM l++J).all PV.one=true:=List.all_eq_true.2 (rj l hJ.one)
  refine DM l J cap most r p K ?_
  refine⟨⟨by omega,by omega,by omega,by omega⟩,?_⟩
  rw[ay]
  by_cases c1:p=l.length
  ·rw[if_pos (by simp[c1])]
   subst c1
   refine⟨⟨hc,by rw[hlen]; omega,rfl,rfl,by omega⟩,fun h=>?_,fun h c hcc=>?_⟩
   ·have:=hk1 (J.drop 6) h (hJ.drop.cast (by omega))
    rw[← ny dh r (by rw[hJ.len]; omega)] at this
    rw[Nat.zero_add]
    exact this
   ·have:=hk2 c hcc _ (iv (c-(l.length+1)))
    rw[jh] at this
    rw[List.drop_zero,eS dh J l l.length (Nat.le_refl _),List.take_length]
    simp only[flM,List.map_append,List.flatten_append,List.map_cons,List.map_nil,List.flatten_cons,List.flatten_nil,List.append_nil] at this
    exact this
  ·rw[if_neg (by simp; omega),ay]
   have e1:wI ((l.length:Int)+1)=((l.length+1:Nat):Int):=by rw[a8 (by omega) (by omega)]; rfl
   have e2:wI (((l.length+1:Nat):Int)-(p:Int))=((l.length+1-p:Nat):Int):=by rw[a8 (by omega) (by omega)]; omega
   have e3:wI ((p:Int)+1)=((p+1:Nat):Int):=by rw[a8 (by omega) (by omega)]; rfl
   have e4:p+(l.length+1-p)=l.length+1:=by omega
   simp only[e1,e2,e3,e4,au,Nat.sub_zero,Nat.zero_add,List.drop_zero,ite_self]
   have t1:List.take (p*6) (flM l++J)=flM (l.take p):=eS dh J l p hp
   have t2:List.take ((l.length-p)*6) (List.drop (p*6) (flM l++J))=flM (l.drop p):=by
    rw[eO dh J l p hp,List.take_left']
    rw[jl,List.length_drop]
   have t3:min 1 (l.length+1-p)=1:=by omega
   have t5:(flM (l.drop p)).length=(l.length-p)*6:=by rw[jl,List.length_drop]
   have t6:(flM (l.drop p)).all PV.one=true:=by
    have:=rj (l.drop p) (J:=[]) (fun _ h=>nomatch h)
    rw[List.append_nil] at this
    exact List.all_eq_true.2 this
   have t7:(flM (l.take p)).length=p*6:=by rw[jl,List.length_take,Nat.min_eq_left hp]
   by_cases c2:cap<l.length+1
   ·rw[if_pos (decide_eq_true (by omega))]
    have n3:¬ cap=p:=by omega
    refine⟨⟨by decide,by omega,by omega,by omega⟩,⟨by omega,by omega,by omega,by omega,by omega⟩,fun c hcc=>?_⟩
    have t4:min (l.length-p) (l.length+1-(p+1))=l.length-p:=by omega
    have n1:¬ c=p:=by omega
    have n2:¬ c=p+1:=by omega
    have hZ:=iv (c-p)
    have t9:(flM (l.take p)++(List.replicate (c-p) zrM).flatten).length=c*6:=by rw[List.length_append,t7,hZ.len,← Nat.add_mul]; congr 1; omega
    simp only[if_neg n1,if_neg n2,if_neg n3,t1,t2,t3,t4,t5,t6]
    refine⟨⟨by omega,by omega,by omega,by omega⟩,⟨Nat.le_trans (show _≤c*6 by omega) (Nat.le_of_eq t9.symm),trivial,rfl⟩,⟨by omega,by omega,by omega,by omega⟩,⟨by omega,by omega,by omega,by omega⟩,by omega,⟨?_,trivial,trivial⟩,?_⟩
    ·have t10:(over (flM (l.take p)++(List.replicate (c-p) zrM).flatten) (p*6) (csM r)).length=c*6:=by rw[bB (by rw[t9,dh]; omega),t9]
     exact Nat.le_trans (show _≤c*6 by omega) (Nat.le_of_eq t10.symm)
    ·have:=hk2 c (by omega) _ ((hZ.drop (k:=(l.length+1-p)*6)).cast (by omega))
     rw[← oT dh r hp (by rw[hZ.len]; omega)] at this
     rw[List.take_of_length_le (Nat.le_of_eq t5)]
     exact this
   ·rw[if_neg (by simp; omega)]
    have n3:¬ cap=p:=by omega
    have n4:¬ cap=p+1:=by omega
    have t9:min (l.length+1-p) (l.length+1-(p+1))=l.length-p:=by omega
    have t10:List.take ((l.length-p)*6) (List.take ((l.length+1-p)*6) (List.drop (p*6) (flM l++J)))=List.take ((l.length-p)*6) (List.drop (p*6) (flM l++J)):=by rw[List.take_take,Nat.min_eq_left (by omega)]
    simp only[if_neg n3,if_neg n4,t3,t9,t10]
    have t11:(List.take ((l.length+1-p)*6) (List.drop (p*6) (flM l++J))).length=(l.length+1-p)*6:=by rw[List.length_take,List.length_drop,hlen]; omega
    have t12:(List.take ((l.length+1-p)*6) (List.drop (p*6) (flM l++J))).all PV.one=true:=List.all_eq_true.2 fun y hy=>List.all_eq_true.1 hone y (List.mem_of_mem_drop (List.mem_of_mem_take hy))
    have t13:(over (flM l++J) ((p+1)*6) (List.take ((l.length-p)*6) (List.drop (p*6) (flM l++J)))).length=cap*6:=by rw[bB (by rw[t2,t5,hlen]; omega),hlen]
    refine⟨⟨by decide,by omega,by omega,by omega⟩,⟨by omega,by omega,by omega,by omega⟩,List.cons_ne_nil _ _,fun h=>?_,⟨by omega,by omega,by omega,by omega⟩,⟨by omega,by omega,by omega,by omega⟩,by omega,⟨by omega,t11,t12⟩,⟨by omega,by omega,by omega,by omega⟩,⟨by omega,trivial,rfl⟩,?_⟩
    ·rw[h] at hlen; simp only[List.length_nil] at hlen; omega
    ·have:=hk1 (J.drop 6) (by omega) (hJ.drop.cast (by omega))
     rw[← q9 dh r (by omega) (by rw[hJ.len]; omega)] at this
     exact this
 ·have he:args=_:=he
  have hH:H=_:=hH
  subst he
  subst hH
  exact CX most r K ⟨⟨by decide,by decide,by decide,by decide,fun _ h=>nomatch h⟩,rfl,by decide,by decide,fun c hc=>hk c hc _ (iv (c-1))⟩
theorem Ey (l:List RwM) (J:List PV) (cap:Nat) (most:Int) (p:Nat):(by refine(?_:_→_→_→Prop) (Int.toNat (l.length:Int)-Int.toNat (↑(p+1):Int)) (Int.toNat (cap:Int)-0) (PV.arr 1 0 l.length cap); exact fun a d j=>by refine(?_:_→_→_→Prop) (List.take (a*6) (List.drop (if Int.toNat (cap:Int)=Int.toNat (↑(p+1):Int) then 0 else 0+Int.toNat (↑(p+1):Int)*6) (flM l++J))) (Ob.cells [j,.int .i64 most]) (Int.toNat (p:Int)-0+a); exact fun b f g=>by refine(?_:_→_→_→Prop) (↑g:Int) (over (flM l++J) ((if Int.toNat (cap:Int)=0 then 0 else 0)+(Int.toNat (p:Int)-0)*6) b) [f,.cells (flM l++J)]; exact fun c e i=>by refine(?_:_→Prop) (Int.toNat (l.length:Int)-Int.toNat c); exact fun h=>∀(K:PV→ae→Prop),((0≤(p:Int)∧(p:Int)≤(↑(p+1):Int)∧(↑(p+1):Int)≤(l.length:Int)∧(l.length:Int)≤(cap:Int))∧br ((p:Int) == (↑(p+1):Int)) (K (.arr 1 0 l.length cap) i) ((iI 0≤0∧0≤(p:Int)∧(p:Int)≤(cap:Int)∧(cap:Int)≤(cap:Int))∧(0≤(↑(p+1):Int)∧(↑(p+1):Int)≤(l.length:Int)∧(l.length:Int)≤(cap:Int)∧(cap:Int)≤(cap:Int))∧(if Int.toNat (cap:Int)=Int.toNat (↑(p+1):Int) then 0 else 0+Int.toNat (↑(p+1):Int)*6)+a*6≤List.length (flM l++J)∧(Int.toNat (p:Int)-0≤Int.toNat (cap:Int)-0∧(if Int.toNat (cap:Int)=0 then 0 else 0)+d*6≤List.length (flM l++J)∧List.length b=a*6∧List.all b PV.one=true∧g*80≤140737488355328)∧Int.toNat (p:Int)-0+a≤Int.toNat (cap:Int)-0∧(0≤c∧c≤(l.length:Int)∧(l.length:Int)≤(↑d:Int)∧(↑d:Int)≤(↑d:Int))∧(if Int.toNat (↑d:Int)=Int.toNat c then if Int.toNat (cap:Int)=0 then 0 else 0 else(if Int.toNat (cap:Int)=0 then 0 else 0)+Int.toNat c*6)+h*6≤List.length e∧K (.arr 1 (if Int.toNat (cap:Int)=0 then 0 else 0) g d) [f,.cells (over e (if Int.toNat (↑d:Int)=Int.toNat c then if Int.toNat (cap:Int)=0 then 0 else 0 else(if Int.toNat (cap:Int)=0 then 0 else 0)+Int.toNat c*6) (List.flatten (List.replicate h [.int .u32 0,.int .u32 0,.int .i64 0,.int .u32 0,.list [] .exact,.list [] .exact])))]))→aj Tryd.prog gl 77 [j,.int .i64 p,.int .i64 ((p+1:Nat):Int)] i K:Prop):=fun K h=>ah (T:=[]) (L:=[]) (fun o=>match o.op with| .load t _=>(match t with|125=>1|_=>0)|_=>match o.dst with|some 26=>3|_=>0) Tryd.func77 (by kernel_rfl) (by kernel_rfl) (by kernel_rfl) (aB.nil _ _) (LOk.nil _ _ _ _ _) (ag (by kernel_rfl) h)
def vH (args:List PV) (H:ae) (K:PV→ae→Prop):Prop:=
 (∃(G:ae) (l:List RwM) (J:List PV) (cap:Nat) (most:Int) (r:RwM) (p:Nat),ak args [.arr 1 0 l.length cap,.int .i64 p,.list [csM r] .exact]∧az H (da l J cap most++G)∧p≤l.length∧l.length≤1000000∧l.length≤cap∧aJ J ((cap-l.length)*6)∧
  (∀(J':List PV),l.length+1≤cap→aJ J' ((cap-(l.length+1))*6)→K (.arr 1 0 (l.length+1) cap) ([.cells [.arr 1 0 l.length cap,.int .i64 most],.cells (flM (bz l p r)++J')]++G))∧
  (∀(c:Nat),l.length+1≤c→∀(J':List PV),aJ J' ((c-(l.length+1))*6)→K (.arr (2+G.length) 0 (l.length+1) c) ([.cells [.arr 1 0 l.length cap,.int .i64 most],.cells (flM l++J)]++G++[.cells (flM (bz l p r)++J')])))∨
 (∃(G:ae) (most:Int) (r:RwM),ak args [.list [] .exact,.int .i64 0,.list [csM r] .exact]∧az H (jH most++G)∧
  ∀(c:Nat),1≤c→∀(J':List PV),aJ J' ((c-1)*6)→K (.arr (1+G.length) 0 1 c) ([.cells [.list [] .exact,.int .i64 most]]++G++[.cells (csM r++J')]))
theorem Cs:aO Tryd.prog gl 68 (.heap vH):=by
 rintro args H K (⟨G,l,J,cap,most,r,p,he,hH,hp,hl,hc,hJ,hk1,hk2⟩|⟨G,most,r,he,hH,hk⟩)
 ·have he:args=_:=he
  have hH:H=_:=hH
  subst he
  subst hH
  refine fN aq (by intro y hy; simp only[List.mem_cons,List.not_mem_nil,or_false] at hy; rcases hy with rfl|rfl|rfl; exact .arr _ _ _ _ (by simp[da]); exact .low (.int _ _); exact .low (aI NT.exact (by intro y hy; simp at hy; exact kf r y hy))) (g6 (by simp[da]) hJ.low) ?_
  refine vi _ _ _ (.inl ⟨l,J,cap,most,r,p,rfl,rfl,hp,hl,hc,hJ,fun J' h1 h2=>?_,fun c h1 J' h2=>?_⟩)
  ·exact⟨_,_,lW rfl (kK (fun y hy=>by simp only[List.mem_cons,List.not_mem_nil,or_false] at hy; rcases hy with rfl|rfl; exact .arr _ _ _ _ (by simp[da]); exact .low (.int _ _)) (fun y hy=> .low (iP _ h2.low y hy))),Lid.ren (.arr _ _ _ _ (by simp)) (fun o ho=>eV (by simpa[da] using ho)),hk1 J' h1 h2⟩
  ·exact⟨_,_,pI (X':=[.cells [.arr 1 0 l.length cap,.int .i64 most],.cells (flM l++J)]) rfl (g6 (by simp[da]) hJ.low) (iP _ h2.low),rG (X:=da l J cap most) (X':=[.cells [.arr 1 0 l.length cap,.int .i64 most],.cells (flM l++J)]) rfl,hk2 c h1 J' h2⟩
 ·have he:args=_:=he
  have hH:H=_:=hH
  subst he
  subst hH
  refine fN aq (by intro y hy; simp only[List.mem_cons,List.not_mem_nil,or_false] at hy; rcases hy with rfl|rfl|rfl; exact .low (aI NT.exact (fun _ h=>nomatch h)); exact .low (.int _ _); exact .low (aI NT.exact (by intro y hy; simp at hy; exact kf r y hy))) kj ?_
  refine vi _ _ _ (.inr ⟨most,r,rfl,rfl,fun c hc J' h2=>?_⟩)
  exact⟨_,_,pI (X':=[.cells [.list [] .exact,.int .i64 most]]) rfl kj (by intro y hy; rcases List.mem_append.1 hy with hy|hy; exact kf r y hy; exact h2.low y hy),rG (X:=jH most) (X':=[.cells [.list [] .exact,.int .i64 most]]) rfl,hk c hc J' h2⟩
def TPM:Tab:=(68,.heap vH)::(67,.read qS)::TGM
theorem qR:aB Tryd.prog gl TPM:= .cons Cs (.cons qG tC)
theorem zM (l:List RwM) (J:List PV) (cap:Nat) (most:Int) (t:Int) (v:Mt):(by refine(?_:_→_→_→_→Prop) (PV.list (v.aa.map stc) .no) (PV.list (v.rows.map rrc) .no) (PV.arr 1 0 l.length cap) (Ob.cells (flM l++J)); exact fun o q s u=>by refine(?_:_→_→Prop) [PV.int .u32 v.id,.int .i64 v.md,.int .u32 v.ins,q,o] [s,.int .i64 most]; exact fun k n=>by refine(?_:_→Prop) [Ob.cells n,u,.cells k]; exact fun m=>∀(K:PV→ae→Prop),(br (!aF t) (K (.int .i64 14) m) (∃(l_1:List RwM) (most_1:Int) (t_1:Int),by refine(?_:_→Prop) (↑(lbp l_1 t_1):Int); exact fun i=>by refine(?_:_→_→Prop) [s,.int .i64 i,.list [[PV.int .u32 t,.int .u32 v.id,.int .i64 v.md,.int .u32 v.ins,q,o]] .exact] (0+Int.toNat i*6+1); exact fun h j=>ak [.ptr 0 0,.int .u32 t] [.ptr 0 0,.int .u32 t_1]∧pw l_1 most_1 m∧Ok l_1 most_1∧br (has l_1 t_1) ((0≤i∧i<(l.length:Int))∧br (5 == 5 && List.all k PV.one && decide (0+Int.toNat i*6+1+5≤List.length (flM l++J)) && cE 0 1 j 5) (K (.int .i64 0) [.cells n,.cells (over (flM l++J) j k),.cells k]) False) (br (decide ((l.length:Int)≥most)) (K (.int .i64 10) m) ((∃(G:ae) (l_2:List RwM) (J_1:List PV) (cap_1:Nat) (most_2:Int) (r:RwM) (p:Nat),by refine(?_:_→Prop) (PV.arr 1 0 l_2.length cap_1); exact fun d=>by refine(?_:_→Prop) (Ob.cells [d,.int .i64 most_2]); exact fun a=>by refine(?_:_→Prop) [a,.cells (flM l_2++J_1)]; exact fun b=>ak h [d,.int .i64 p,.list [[PV.int .u32 r.id,.int .u32 r.v.id,.int .i64 r.v.md,.int .u32 r.v.ins,.list (r.v.rows.map rrc) .no,.list (r.v.aa.map stc) .no]] .exact]∧az m (b++G)∧p≤l_2.length∧l_2.length≤1000000∧l_2.length≤cap_1∧aJ J_1 ((cap_1-l_2.length)*6)∧(∀(J':List PV),l_2.length+1≤cap_1→aJ J' ((cap_1-(l_2.length+1))*6)→K (.int .i64 0) (List.set ([a,.cells (flM (bz l_2 p r)++J')]++G) 0 (.cells [.arr 1 0 (l_2.length+1) cap_1,.int .i64 most_2])))∧∀(c:Nat),l_2.length+1≤c→∀(J':List PV),aJ J' ((c-(l_2.length+1))*6)→K (.int .i64 0) (List.set (b++G++[.cells (flM (bz l_2 p r)++J')]) 0 (.cells [.arr (2+G.length) 0 (l_2.length+1) c,.int .i64 most_2])))∨∃(G:ae) (most_2:Int) (r:RwM),by refine(?_:_→_→_→Prop) [Ob.cells [.list [] .exact,.int .i64 most_2]] (PV.list (r.v.aa.map stc) .no) (PV.list (r.v.rows.map rrc) .no); exact fun e f g=>ak h [.list [] .exact,.int .i64 0,.list [[PV.int .u32 r.id,.int .u32 r.v.id,.int .i64 r.v.md,.int .u32 r.v.ins,g,f]] .exact]∧az m (e++G)∧∀(c:Nat),1≤c→∀(J':List PV),aJ J' ((c-1)*6)→K (.int .i64 0) (List.set (e++G++[.cells ([.int .u32 r.id,.int .u32 r.v.id,.int .i64 r.v.md,.int .u32 r.v.ins,g,f]++J')]) 0 (.cells [.arr (1+G.length) 0 1 c,.int .i64 most_2]))))))→aj Tryd.prog gl 40 [.ptr 0 0,.int .u32 t,Mt.pv v] [.cells n,u] K:Prop):=fun K h=>ah (T:=TPM) (L:=[([1,1,1,1,0,0,1,1,1,1],Ji br Tryd.prog gl TPM (fun o=>match o.op with| .load t _=>(match t with|125=>1|_=>0)|_=>0) (cw [1,1,1,1,0,0,1,1,1,1] (ai Tryd.f40)) 10 [0,1,2,3,4,5,6,7,8,9,11,12] [13])]) (fun o=>match o.op with| .load t _=>(match t with|125=>1|_=>0)|_=>0) Tryd.func40 (by kernel_rfl) (by kernel_rfl) (by kernel_rfl) (qR) (.cons (show sub [1,1,1,1,0,0,1,1,1,1] (ai Tryd.f40)=some (cw [1,1,1,1,0,0,1,1,1,1] (ai Tryd.f40)) from by kernel_rfl) (vq qR (by kernel_rfl) (by kernel_rfl)) (.nil _ _ _ _ _)) (ag (by kernel_rfl) h)
theorem Bk (most t:Int) (v:Mt):(by refine(?_:_→_→_→Prop) [PV.list [] .exact,.int .i64 most] (PV.list (v.aa.map stc) .no) (PV.list (v.rows.map rrc) .no); exact fun k m n=>by refine(?_:_→Prop) [Ob.cells k,.cells [.int .u32 v.id,.int .i64 v.md,.int .u32 v.ins,n,m]]; exact fun j=>∀(K:PV→ae→Prop),(br (!aF t) (K (.int .i64 14) j) (∃(l:List RwM) (most_1:Int) (t_1:Int),by refine(?_:_→Prop) (↑(lbp l t_1):Int); exact fun i=>by refine(?_:_→Prop) [PV.list [] .exact,.int .i64 i,.list [[PV.int .u32 t,.int .u32 v.id,.int .i64 v.md,.int .u32 v.ins,n,m]] .exact]; exact fun h=>ak [.ptr 0 0,.int .u32 t] [.ptr 0 0,.int .u32 t_1]∧pw l most_1 j∧Ok l most_1∧br (has l t_1) (InL [] 6 i∧False) (br (decide (0≥most)) (K (.int .i64 10) j) ((∃(G:ae) (l_1:List RwM) (J:List PV) (cap:Nat) (most_2:Int) (r:RwM) (p:Nat),by refine(?_:_→Prop) (PV.arr 1 0 l_1.length cap); exact fun d=>by refine(?_:_→Prop) (Ob.cells [d,.int .i64 most_2]); exact fun a=>by refine(?_:_→Prop) [a,.cells (flM l_1++J)]; exact fun b=>ak h [d,.int .i64 p,.list [[PV.int .u32 r.id,.int .u32 r.v.id,.int .i64 r.v.md,.int .u32 r.v.ins,.list (r.v.rows.map rrc) .no,.list (r.v.aa.map stc) .no]] .exact]∧az j (b++G)∧p≤l_1.length∧l_1.length≤1000000∧l_1.length≤cap∧aJ J ((cap-l_1.length)*6)∧(∀(J':List PV),l_1.length+1≤cap→aJ J' ((cap-(l_1.length+1))*6)→K (.int .i64 0) (List.set ([a,.cells (flM (bz l_1 p r)++J')]++G) 0 (.cells [.arr 1 0 (l_1.length+1) cap,.int .i64 most_2])))∧∀(c:Nat),l_1.length+1≤c→∀(J':List PV),aJ J' ((c-(l_1.length+1))*6)→K (.int .i64 0) (List.set (b++G++[.cells (flM (bz l_1 p r)++J')]) 0 (.cells [.arr (2+G.length) 0 (l_1.length+1) c,.int .i64 most_2])))∨∃(G:ae) (most_2:Int) (r:RwM),by refine(?_:_→_→_→Prop) [Ob.cells [.list [] .exact,.int .i64 most_2]] (PV.list (r.v.aa.map stc) .no) (PV.list (r.v.rows.map rrc) .no); exact fun e f g=>ak h [.list [] .exact,.int .i64 0,.list [[PV.int .u32 r.id,.int .u32 r.v.id,.int .i64 r.v.md,.int .u32 r.v.ins,g,f]] .exact]∧az j (e++G)∧∀(c:Nat),1≤c→∀(J':List PV),aJ J' ((c-1)*6)→K (.int .i64 0) (List.set (e++G++[.cells ([.int .u32 r.id,.int .u32 r.v.id,.int .i64 r.v.md,.int .u32 r.v.ins,g,f]++J')]) 0 (.cells [.arr (1+G.length) 0 1 c,.int .i64 most_2]))))))→aj Tryd.prog gl 40 [.ptr 0 0,.int .u32 t,Mt.pv v] [.cells k] K:Prop):=fun K h=>ah (T:=TPM) (L:=[([1,1,1,1,0,0,1,1,1,1],Ji br Tryd.prog gl TPM (fun o=>match o.op with| .load t _=>(match t with|125=>1|_=>0)|_=>0) (cw [1,1,1,1,0,0,1,1,1,1] (ai Tryd.f40)) 10 [0,1,2,3,4,5,6,7,8,9,11,12] [13])]) (fun o=>match o.op with| .load t _=>(match t with|125=>1|_=>0)|_=>0) Tryd.func40 (by kernel_rfl) (by kernel_rfl) (by kernel_rfl) (qR) (.cons (show sub [1,1,1,1,0,0,1,1,1,1] (ai Tryd.f40)=some (cw [1,1,1,1,0,0,1,1,1,1] (ai Tryd.f40)) from by kernel_rfl) (vq qR (by kernel_rfl) (by kernel_rfl)) (.nil _ _ _ _ _)) (ag (by kernel_rfl) h)
theorem Ed {l:List RwM} {J:List PV} {cap:Nat} {most:Int} (h:∀ y∈J,Low 2 y):∀(o:Nat) cs,(da l J cap most)[o]?=some (.cells cs)→∀ x∈cs,Low (da l J cap most).length x:=by
 intro o cs ho x hx
 have e1:=(List.getElem?_eq_some_iff.1 ho).1
 simp[da] at e1
 rcases Nat.eq_zero_or_pos o with rfl|h0
 ·cases ho
  simp only[List.mem_cons,List.not_mem_nil,or_false] at hx
  rcases hx with rfl|rfl
  ·exact .arr _ _ _ _ (by simp[da])
  ·exact .int _ _
 ·have:o=1:=by omega
  subst this
  cases ho
  exact iP l h x hx
def rkM (l:List RwM) (most:Int):Rep:=whole (EXM l most)
theorem eZ {l:List RwM} {J:List PV} {cap:Nat} {most:Int} {T:ae} {k:Nat} (hk:T[k]?=some (.cells (flM l++J))) (h:l.length≤cap) (hJ:aJ J ((cap-l.length)*6)):dO (EXM l most) (.cells [.arr (k+1) 0 l.length cap,.int .i64 most]::T):=
 ⟨da l J cap most,_,wB hk (fun y hy=>by rcases List.mem_singleton.1 hy with rfl; exact .int _ _) (iP l hJ.low),rfl,.inl ⟨J,cap,rfl,h,hJ⟩,nl⟩
theorem ja {most:Int} {T:ae}:dO (EXM [] most) (.cells [.list [] .exact,.int .i64 most]::T):=
 ⟨jH most,_,sub_one T (fun y hy=>by simp only[List.mem_cons,List.not_mem_nil,or_false] at hy; rcases hy with rfl|rfl; exact aI NT.exact (fun _ h=>nomatch h); exact .int _ _),rfl,.inr ⟨rfl,rfl⟩,nl⟩
theorem Bo {l:List RwM} {most:Int} {H:ae} (h:EXM l most H):dO (EXM l most) H:=by
 rcases h with⟨J,cap,rfl,hc,hJ⟩|⟨rfl,rfl⟩
 ·exact eZ (k:=0) rfl hc hJ
 ·exact ja
def Jf (args:List PV) (H:ae) (K:PV→ae→Prop):Prop:=
 ∃(l:List RwM) (J:List PV) (cap:Nat) (most:Int) (p:Nat),ak args [.arr 1 0 l.length cap,.int .i64 p,.int .i64 ((p+1:Nat):Int)]∧az H (da l J cap most)∧p<l.length∧l.length≤1000000∧l.length≤cap∧aJ J ((cap-l.length)*6)∧
  K (.arr 1 0 (l.length-1) cap) [.cells [.arr 1 0 l.length cap,.int .i64 most],.cells (flM (l.eraseIdx p)++(zrM++J))]
theorem Fk:aO Tryd.prog gl 77 (.heap Jf):=by
 rintro args H K ⟨l,J,cap,most,p,he,hH,hp,hl,hc,hJ,hk⟩
 have he:args=_:=he
 have hH:H=_:=hH
 subst he
 subst hH
 have hlen:(flM l++J).length=cap*6:=by rw[List.length_append,jl,hJ.len,← Nat.add_mul]; congr 1; omega
 have hone:(flM l++J).all PV.one=true:=List.all_eq_true.2 (rj l hJ.one)
 refine Ey l J cap most p K ?_
 refine⟨⟨by omega,by omega,by omega,by omega⟩,?_⟩
 rw[ay,if_neg (by simp; omega)]
 have e4:p+(l.length-(p+1))=l.length-1:=by omega
 have e5:l.length-(l.length-1)=1:=by omega
 simp only[au,Nat.sub_zero,Nat.zero_add,ite_self,e4,e5]
 have n1:¬ cap=l.length-1:=by omega
 have t11:(List.take ((l.length-(p+1))*6) (List.drop (if cap=p+1 then 0 else(p+1)*6) (flM l++J)))=List.take ((l.length-(p+1))*6) (List.drop ((p+1)*6) (flM l++J)):=by
  split
  ·rw[show l.length-(p+1)=0 by omega,Nat.zero_mul,List.take_zero,List.take_zero]
  ·rfl
 have t12:(List.take ((l.length-(p+1))*6) (List.drop ((p+1)*6) (flM l++J))).length=(l.length-(p+1))*6:=by rw[List.length_take,List.length_drop,hlen]; omega
 have t13:(List.take ((l.length-(p+1))*6) (List.drop ((p+1)*6) (flM l++J))).all PV.one=true:=List.all_eq_true.2 fun y hy=>List.all_eq_true.1 hone y (List.mem_of_mem_drop (List.mem_of_mem_take hy))
 simp only[t11,if_neg n1,zD dh hp]
 have hle:l.length-1=(l.eraseIdx p).length:=by rw[List.length_eraseIdx_of_lt hp]
 refine⟨⟨by decide,by omega,by omega,by omega⟩,⟨by omega,by omega,by omega,by omega⟩,by split<;>omega,⟨by omega,by omega,t12,t13,by omega⟩,by omega,⟨by omega,by omega,by omega,by omega⟩,?_,?_⟩
 ·simp only[List.length_append,bq dh,← hle,dh,hJ.len]; omega
 ·rw[hle]
  rw[hle] at hk
  rw[← x5 (z:=zrM) dh (l.getLast (List.ne_nil_of_length_pos (by omega))) rfl] at hk
  exact hk
theorem Li {l:List RwM} {J:List PV} {p:Nat} {t:Int} {v:Mt} (hp:p<l.length) (ht:(l.getD p default).id=t):over (flM l++J) (p*6+1) (let r:RwM:=⟨t,v⟩; [.int .u32 r.v.id,.int .i64 r.v.md,.int .u32 r.v.ins,.list (r.v.rows.map rrc) .no,.list (r.v.aa.map stc) .no])=flM (l.set p ⟨t,v⟩)++J:=by
 have e1:flM l++J=(flM (l.take p)++[.int .u32 t])++(let r:RwM:=l.getD p default; [.int .u32 r.v.id,.int .i64 r.v.md,.int .u32 r.v.ins,.list (r.v.rows.map rrc) .no,.list (r.v.aa.map stc) .no])++(flM (l.drop (p+1))++J):=by
  unfold flM
  rw[fw l p,List.drop_eq_getElem_cons hp,List.map_cons,List.flatten_cons,← ht,bI hp]
  simp[csM]
 rw[cy e1 (by rw[List.length_append,bq dh,List.length_take,Nat.min_eq_left (by omega)]; rfl) (by rfl),List.set_eq_take_append_cons_drop,if_pos hp]
 simp[flM,csM]
def Kd (args:List PV) (H:ae) (K:PV→ae→Prop):Prop:=
 ∃(l:List RwM) (most t:Int) (v:Mt),ak args [.ptr 0 0,.int .u32 t,Mt.pv v]∧EXM l most H∧Ok l most∧∀(H':ae),dO (EXM (bZ l most t v).1 most) H'→K (.int .i64 (bZ l most t v).2) H'
theorem FI:aO Tryd.prog gl 40 (.heap Kd):=by
 rintro args H K ⟨l,most,t,v,he,hH,ok,hk⟩
 have he:args=_:=he
 subst he
 unfold bZ at hk
 rcases hH with⟨J,cap,rfl,hc,hJ⟩|⟨rfl,rfl⟩
 ·have hlen:(flM l++J).length=cap*6:=by rw[List.length_append,jl,hJ.len,← Nat.add_mul]; congr 1; omega
  refine zM l J cap most t v K ?_
  rw[ay]
  by_cases c:aF t=true
  ·rw[if_neg (by simp[c])]
   rw[if_pos c] at hk
   refine⟨l,most,t,rfl,⟨_,[_],rfl,wY hc hJ⟩,ok,?_⟩
   simp only[ay]
   by_cases c2:has l t=true
   ·rw[if_pos c2]
    rw[if_pos c2] at hk
    obtain⟨h1,h2⟩:=fP c2
    refine⟨⟨by omega,by omega⟩,?_⟩
    simp only[au,Nat.zero_add]
    rw[if_pos (by rw[decide_eq_true (by rw[hlen]; omega)]; rfl)]
    have h3:=eZ (most:=most) (l:=l.set (lbp l t) ⟨t,v⟩) (J:=J) (cap:=cap) (k:=0) (T:=[.cells (flM (l.set (lbp l t) ⟨t,v⟩)++J),.cells [.int .u32 v.id,.int .i64 v.md,.int .u32 v.ins,.list (v.rows.map rrc) .no,.list (v.aa.map stc) .no]]) rfl (by simpa using hc) (by simpa using hJ)
    rw[List.length_set,← Li h1 h2] at h3
    exact hk _ h3
   ·rw[if_neg c2]
    rw[if_neg c2] at hk
    by_cases c3:(l.length:Int)≥most
    ·rw[if_pos (decide_eq_true c3)]
     rw[if_pos c3] at hk
     exact hk _ (eZ (k:=0) rfl hc hJ)
    ·rw[if_neg (by simpa using c3)]
     rw[if_neg c3] at hk
     have hi:(bz l (lbp l t) ⟨t,v⟩).length=l.length+1:=fl (qh l t)
     refine .inl ⟨[.cells [.int .u32 v.id,.int .i64 v.md,.int .u32 v.ins,.list (v.rows.map rrc) .no,.list (v.aa.map stc) .no]],l,J,cap,most,⟨t,v⟩,lbp l t,rfl,rfl,qh l t,ok.len,hc,hJ,fun J' h1 h2=>?_,fun c h1 J' h2=>?_⟩
     ·rw[← hi]
      exact hk _ (eZ (k:=0) rfl (by rw[hi]; exact h1) (by rw[hi]; exact h2))
     ·have:=hk _ (eZ (l:=bz l (lbp l t) ⟨t,v⟩) (J:=J') (cap:=c) (most:=most) (k:=2) (T:=[.cells (flM l++J),.cells [.int .u32 v.id,.int .i64 v.md,.int .u32 v.ins,.list (v.rows.map rrc) .no,.list (v.aa.map stc) .no],.cells (flM (bz l (lbp l t) ⟨t,v⟩)++J')]) rfl (by rw[hi]; exact h1) (by rw[hi]; exact h2))
      rw[hi] at this
      exact this
  ·rw[if_pos (by simpa using c)]
   rw[if_neg c] at hk
   exact hk _ (eZ (k:=0) rfl hc hJ)
 ·refine Bk most t v K ?_
  rw[ay]
  by_cases c:aF t=true
  ·rw[if_neg (by simp[c])]
   rw[if_pos c,nn,if_neg (by decide)] at hk
   refine⟨[],most,t,rfl,⟨_,[_],rfl,Ad⟩,ok,?_⟩
   rw[nn]
   simp only[ay]
   rw[if_neg (by decide)]
   by_cases c3:0≥most
   ·rw[if_pos (decide_eq_true c3)]
    rw[if_pos (by simpa using c3)] at hk
    exact hk _ ja
   ·rw[if_neg (by simpa using c3)]
    rw[if_neg (by simpa using c3)] at hk
    refine .inr ⟨[.cells [.int .u32 v.id,.int .i64 v.md,.int .u32 v.ins,.list (v.rows.map rrc) .no,.list (v.aa.map stc) .no]],most,⟨t,v⟩,rfl,rfl,fun c hc J' hJ=>?_⟩
    exact hk _ (eZ (l:=[⟨t,v⟩]) (k:=1) rfl hc hJ)
  ·rw[if_pos (by simpa using c)]
   rw[if_neg c] at hk
   exact hk _ ja
end Go.Proofs.YtenaelaapdhbdaaDoor
