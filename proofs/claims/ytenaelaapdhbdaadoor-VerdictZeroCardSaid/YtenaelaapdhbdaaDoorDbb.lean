/-
  A rack of numbers.
-/
import Derived.Test.YtenaelaapdhbdaaDoorDba
import Derived.Test.YtenaelaapdhbdaaDoorProg
namespace Go.Proofs.YtenaelaapdhbdaaDoor
open Go Go.AM Go.Proofs
abbrev RwI:=Rw Int
def csI (r:RwI):List PV:=[.int .u32 r.id,.int .i64 r.v]
theorem eB (r:RwI):(csI r).length=2:=rfl
theorem iM {n:Nat} (r:RwI):∀ y∈csI r,Low n y:=by
 intro y hy
 simp only[csI,List.mem_cons,List.not_mem_nil,or_false] at hy
 rcases hy with rfl|rfl<;>first|exact .int _ _|exact .str _
theorem HU (v:Int):Low 0 (.int .i64 v):=by first|exact .int _ _|exact .str _|(refine .agg _ ?_; intro y hy; simp only[List.mem_cons,List.not_mem_nil,or_false] at hy; rcases hy with rfl<;>first|exact .int _ _|exact .str _)
theorem yC (v:Int) (b:Bool):Low 0 (.tup [.int .i64 v,.bool b]):= .tup _ (by intro y hy; simp only[List.mem_cons,List.not_mem_nil,or_false] at hy; rcases hy with rfl|rfl; exact HU v; exact .bool _)
theorem Fh (r:RwI):∀ y∈csI r,y.one=true:=by
 intro y hy
 simp only[csI,List.mem_cons,List.not_mem_nil,or_false] at hy
 rcases hy with rfl|rfl<;>rfl
abbrev flI (l:List RwI):List PV:=(l.map csI).flatten
theorem j9 (l:List RwI):(flI l).length=l.length*2:=bq eB l
theorem n7 {l:List RwI} {k:Nat} (J:List PV) (h:k<l.length):List.drop (k*2) (flI l++J)=csI (l.getD k default)++(flI (l.drop (k+1))++J):=kP eB J default h
theorem vk {n:Nat} (l:List RwI) {J:List PV} (h:∀ y∈J,Low n y):∀ y∈flI l++J,Low n y:=fi (fun a _=>iM a) h
theorem ve (l:List RwI) {J:List PV} (h:∀ y∈J,y.one=true):∀ y∈flI l++J,y.one=true:=by
 intro y hy
 rcases List.mem_append.1 hy with h1|h1
 ·obtain⟨c,h2,h3⟩:=List.mem_flatten.1 h1
  obtain⟨a,_,rfl⟩:=List.mem_map.1 h2
  exact Fh a y h3
 ·exact h y h1
def gq (l:List RwI) (J:List PV) (cap:Nat) (most:Int):ae:=[.cells [.arr 1 0 l.length cap,.int .i64 most],.cells (flI l++J)]
def pg (most:Int):ae:=[.cells [.list [] .exact,.int .i64 most]]
def EXI (l:List RwI) (most:Int) (H:ae):Prop:=
 (∃(J:List PV) (cap:Nat),H=gq l J cap most∧l.length≤cap∧aJ J ((cap-l.length)*2))∨(l=[]∧H=pg most)
theorem GD (r:RwI) (t:Int)  (K:PV→Prop) (h:K (.int .i64 (fB (Rw.id r) t))):aj Tryd.prog gl 52 [.agg (csI r),.int .u32 t] [] (fun x _=>K x):=
 ah (T:=TK) (L:=[]) (fun _=>0) Tryd.func52 (by kernel_rfl) (by kernel_rfl) (by kernel_rfl) (vK) (LOk.nil _ _ _ _ _) (ag (by kernel_rfl) h)
def zj (args:List PV) (K:PV→Prop):Prop:=∃(r:RwI) (t:Int),ak args [.agg (csI r),.int .u32 t]∧K (.int .i64 (fB r.id t))
theorem E4:aO Tryd.prog gl 52 (.pure zj):=by
 rintro args K ⟨r,t,he,hk⟩
 have he:args=_:=he
 subst he
 exact eM aq (by intro y hy; simp only[List.mem_cons,List.not_mem_nil,or_false] at hy; rcases hy with rfl|rfl; exact .agg _ (iM r); exact .int _ _) (.int _ _) (GD r t (fun y=>y = .int .i64 (fB r.id t)) rfl) hk
def TCI:Tab:=(52,.pure zj)::TK
theorem nQ:aB Tryd.prog gl TCI:= .cons E4 vK
theorem Gx (l:List RwI) (J:List PV) (cap:Nat) (most:Int) (t:Int) (i j:Nat):(by refine(?_:_→_→_→Prop) (Int.fdiv (IntKind.wrap .u64 (wI ((i:Int)+(j:Int)))) 2) (PV.arr 1 0 l.length cap) (PV.int .i64 l.length); exact fun a f g=>by refine(?_:_→_→_→Prop) [Ob.cells [f,.int .i64 most],.cells (flI l++J)] (List.drop (0+Int.toNat (wI a)*2) (flI l++J)) [PV.arr 1 0 l.length cap,.int .u32 t,.fn 52 [],g,.int .i64 i,.int .i64 j]; exact fun b c d=>∀(R:Ex→List PV→ae→Prop),(br (decide ((i:Int)<(j:Int))) ((0≤wI a∧wI a<(l.length:Int))∧br (true && aP [.int .u32,.int .i64] 0 c) (∃(r:RwI) (t_1:Int),ak [.agg [.int .u32 (cI c 0),.int .i64 (cI c 1)],.int .u32 t] [.agg [.int .u32 r.id,.int .i64 r.v],.int .u32 t_1]∧br (decide (fB r.id t_1<0)) (R .normal [f,.int .u32 t,.fn 52 [],g,.int .i64 (wI (wI a+1)),.int .i64 j] b) (R .normal [f,.int .u32 t,.fn 52 [],g,.int .i64 i,.int .i64 (wI a)] b)) False) (R (.exit 0) d b))→Holds (wpc br Tryd.prog gl TCI [] (fun _=>0) (an [1,1,1,0,0] (ai Tryd.f51)) [] (av [0,1,2,8,9,10] d) b (fun ex e H=>R ex (List.map e [0,1,2,8,9,10]) H)):Prop):=fun R h=>ag (by kernel_rfl) h
theorem EW (most t:Int):(by refine(?_:_→_→Prop) [PV.list [] .exact,.int .u32 t,.fn 52 [],.int .i64 0,.int .i64 0,.int .i64 0] [Ob.cells [.list [] .exact,.int .i64 most]]; exact fun a b=>∀(R:Ex→List PV→ae→Prop),(R (.exit 0) a b)→Holds (wpc br Tryd.prog gl TCI [] (fun _=>0) (an [1,1,1,0,0] (ai Tryd.f51)) [] (av [0,1,2,8,9,10] a) b (fun ex e H=>R ex (List.map e [0,1,2,8,9,10]) H)):Prop):=fun R h=>ag (by kernel_rfl) h
def Ho:LSp:=fun e H Q=>∃(l:List RwI) (J:List PV) (cap:Nat) (most t:Int) (p:Nat),Lb l t p∧l.length≤1000000∧ak (List.map e [0,1,2,8,9,10]) [.arr 1 0 l.length cap,.int .u32 t,.fn 52 [],.int .i64 l.length,.int .i64 0,.int .i64 l.length]∧az H (gq l J cap most)∧
 Q (.exit 0) (av [0,1,2,8,9,10] [.arr 1 0 l.length cap,.int .u32 t,.fn 52 [],.int .i64 l.length,.int .i64 p,.int .i64 p]) (gq l J cap most)
theorem yV:∀ e H Q,Ho e H Q→AW Tryd.prog gl Tryd.f51.ntmps (.loop (an [1,1,1,0,0] (ai Tryd.f51))) Q e H:=by
 rintro e H Q ⟨l,J,cap,most,t,p,hp,hl,he,hH,hQ⟩
 refine aG (hn:=fun _=>0) aq nQ (.nil _ _ _ _ _) (σ:=Nat×Nat) [0,1,2,8,9,10] (fun s=>s.1≤p∧p≤s.2∧s.2≤l.length)
  (fun s=>[.arr 1 0 l.length cap,.int .u32 t,.fn 52 [],.int .i64 l.length,.int .i64 s.1,.int .i64 s.2]) (fun _=>gq l J cap most) (fun s=>s.2-s.1) (0,l.length) ⟨Nat.zero_le _,hp.le,Nat.le_refl _⟩ he hH ?_
 rintro⟨i,j⟩ ⟨h1,h2,h3⟩
 simp only at h1 h2 h3
 refine Gx l J cap most t i j _ ?_
 simp only[ay,dt]
 by_cases h:i<j
 ·rw[if_pos (by omega)]
  obtain⟨k,hk⟩:∃ k,k=(i+j) / 2:=⟨_,rfl⟩
  have e1:wI (Int.fdiv (IntKind.wrap .u64 (wI ((i:Int)+j))) 2)=(k:Int):=by
   rw[a8 (n:=(i:Int)+j) (by omega) (by omega),wrap_u64 (by omega) (by omega),Int.fdiv_eq_ediv_of_nonneg _ (by decide),a8 (by omega) (by omega)]
   omega
  simp only[e1,au,Nat.zero_add]
  have hkl:k<l.length:=by omega
  rw[n7 J hkl]
  refine⟨⟨by omega,by omega⟩,?_⟩
  rw[if_pos (by rfl)]
  refine⟨l.getD k default,t,rfl,?_⟩
  by_cases c:fB (l.getD k default).id t<0
  ·rw[if_pos c]
   have hc:(l.getD k default).id<t:=by unfold fB at c; split at c; assumption; split at c<;>omega
   have hkp:k<p:=by
    rcases Nat.lt_or_ge k p with q|q
    ·exact q
    ·have:=hp.hi k q hkl; omega
   exact⟨(k+1,j),(show j-(k+1)<j-i by omega),⟨hkp,h2,h3⟩,by rw[ax hkl (by omega)],[],rfl,Nat.le_refl _,.inl rfl⟩
  ·rw[if_neg c]
   have hc:t≤(l.getD k default).id:=by unfold fB at c; split at c<;>omega
   have hkp:p≤k:=by
    rcases Nat.lt_or_ge k p with q|q
    ·have:=hp.lo k q; omega
    ·exact q
   exact⟨(i,k),(show k-i<j-i by omega),⟨h1,hkp,by omega⟩,rfl,[],rfl,Nat.le_refl _,.inl rfl⟩
 ·rw[if_neg (by omega)]
  have e1:i=p:=by omega
  have e2:j=p:=by omega
  subst e1
  subst e2
  exact hQ
def He:LSp:=fun e H Q=>∃(most t:Int),ak (List.map e [0,1,2,8,9,10]) [.list [] .exact,.int .u32 t,.fn 52 [],.int .i64 0,.int .i64 0,.int .i64 0]∧az H (pg most)∧
 Q (.exit 0) (av [0,1,2,8,9,10] [.list [] .exact,.int .u32 t,.fn 52 [],.int .i64 0,.int .i64 0,.int .i64 0]) (pg most)
theorem DU:∀ e H Q,He e H Q→AW Tryd.prog gl Tryd.f51.ntmps (.loop (an [1,1,1,0,0] (ai Tryd.f51))) Q e H:=by
 rintro e H Q ⟨most,t,he,hH,hQ⟩
 refine aG (hn:=fun _=>0) aq nQ (.nil _ _ _ _ _) (σ:=Unit) [0,1,2,8,9,10] (fun _=>True)
  (fun _=>[.list [] .exact,.int .u32 t,.fn 52 [],.int .i64 0,.int .i64 0,.int .i64 0]) (fun _=>pg most) (fun _=>0) () trivial he hH ?_
 intro _ _
 exact EW most t _ hQ
theorem EJ (l:List RwI) (J:List PV) (cap:Nat) (most:Int) (t:Int):(by refine(?_:_→_→Prop) (PV.arr 1 0 l.length cap) (PV.int .i64 l.length); exact fun g h=>by refine(?_:_→Prop) [Ob.cells [g,.int .i64 most],.cells (flI l++J)]; exact fun f=>∀(K:PV→ae→Prop),(∃(l_1:List RwI) (J_1:List PV) (cap_1:Nat) (most_1:Int) (t_1:Int) (p:Nat),by refine(?_:_→_→_→_→Prop) (List.drop (0+Int.toNat (p:Int)*2) (flI l_1++J_1)) (PV.arr 1 0 l_1.length cap_1) (PV.int .i64 l_1.length) (l_1.length:Int); exact fun b c d e=>by refine(?_:_→Prop) [Ob.cells [c,.int .i64 most_1],.cells (flI l_1++J_1)]; exact fun a=>Lb l_1 t_1 p∧l_1.length≤1000000∧ak [g,.int .u32 t,.fn 52 [],h,.int .i64 0,h] [c,.int .u32 t_1,.fn 52 [],d,.int .i64 0,d]∧az f a∧br (decide ((p:Int)<e) == true) ((0≤(p:Int)∧(p:Int)<e)∧br (true && aP [.int .u32,.int .i64] 0 b) (∃(r:RwI) (t:Int),ak [.agg [.int .u32 (cI b 0),.int .i64 (cI b 1)],.int .u32 t_1] [.agg [.int .u32 r.id,.int .i64 r.v],.int .u32 t]∧K (.tup [.int .i64 p,.bool (fB r.id t == 0)]) a) False) (K (.tup [.int .i64 p,.bool false]) a))→aj Tryd.prog gl 51 [g,.int .u32 t,.fn 52 []] f K:Prop):=fun K h=>ah (T:=TCI) (L:=[([1,1,1,0,0],Ho)]) (fun _=>0) Tryd.func51 (by kernel_rfl) (by kernel_rfl) (by kernel_rfl) (nQ) (.cons (aH (by kernel_rfl)) yV (.nil _ _ _ _ _)) (ag (by kernel_rfl) h)
theorem G1 (most t:Int)  (K:PV→ae→Prop) (h:∃(most_1:Int) (t_1:Int),ak [.list [] .exact,.int .u32 t,.fn 52 [],.int .i64 0,.int .i64 0,.int .i64 0] [.list [] .exact,.int .u32 t_1,.fn 52 [],.int .i64 0,.int .i64 0,.int .i64 0]∧az [.cells [.list [] .exact,.int .i64 most]] [.cells [.list [] .exact,.int .i64 most_1]]∧K (.tup [.int .i64 0,.bool false]) [.cells [.list [] .exact,.int .i64 most_1]]):aj Tryd.prog gl 51 [.list [] .exact,.int .u32 t,.fn 52 []] [.cells [.list [] .exact,.int .i64 most]] K:=
 ah (T:=TCI) (L:=[([1,1,1,0,0],He)]) (fun _=>0) Tryd.func51 (by kernel_rfl) (by kernel_rfl) (by kernel_rfl) (nQ) (.cons (aH (by kernel_rfl)) DU (.nil _ _ _ _ _)) (ag (by kernel_rfl) h)
def Ih (args:List PV) (H:ae) (K:PV→Prop):Prop:=
 (∃(l:List RwI) (J:List PV) (cap:Nat) (most t:Int),ak args [.arr 1 0 l.length cap,.int .u32 t,.fn 52 []]∧az H (gq l J cap most)∧Ok l most∧K (.tup [.int .i64 (lbp l t),.bool (has l t)]))∨
 (∃(most t:Int),ak args [.list [] .exact,.int .u32 t,.fn 52 []]∧az H (pg most)∧K (.tup [.int .i64 0,.bool false]))
theorem Jx:aO Tryd.prog gl 51 (.read Ih):=by
 rintro args H K (⟨l,J,cap,most,t,he,hH,ok,hk⟩|⟨most,t,he,hH,hk⟩)
 ·have he:args=_:=he
  have hH:H=_:=hH
  subst he
  subst hH
  obtain⟨p,hpe⟩:∃ p,p=lbp l t:=⟨_,rfl⟩
  have hp:Lb l t p:=hpe▸ok.lb t
  unfold has at hk
  rw[← hpe] at hk
  refine⟨_,EJ l J cap most t _ ⟨l,J,cap,most,t,p,hp,ok.len,rfl,rfl,?_⟩,hk⟩
  simp only[ay,bt,dt]
  by_cases c:p<l.length
  ·rw[if_pos (by omega)]
   simp only[au,Nat.zero_add]
   rw[n7 J c]
   refine⟨⟨by omega,by omega⟩,?_⟩
   rw[if_pos (by rfl)]
   refine⟨l.getD p default,t,rfl,?_,rfl⟩
   unfold uH
   have e:((fB (l.getD p default).id t) == 0)=decide (p<l.length∧(l.getD p default).id=t):=by
    rw[Bool.eq_iff_iff,beq_iff_eq,decide_eq_true_eq]
    unfold fB
    constructor
    ·intro h; refine⟨c,?_⟩; split at h; omega; split at h<;>omega
    ·rintro⟨_,h⟩; rw[if_neg (by omega),if_neg (by omega)]
   rw[e]
  ·rw[if_neg (by omega)]
   unfold uH
   rw[decide_eq_false (fun h=>c h.1)]
   exact⟨rfl,rfl⟩
 ·have he:args=_:=he
  have hH:H=_:=hH
  subst he
  subst hH
  exact⟨_,G1 most t _ ⟨most,t,rfl,rfl,rfl,rfl⟩,hk⟩
def TBI:Tab:=(51,.read Ih)::TCI
theorem uh:aB Tryd.prog gl TBI:= .cons Jx nQ
theorem FK (l:List RwI) (J:List PV) (cap:Nat) (most:Int) (t:Int):(by refine(?_:_→_→Prop) [Ob.cells [.arr 1 0 l.length cap,.int .i64 most],.cells (flI l++J)] [PV.arr 1 0 l.length cap,.int .u32 t,.fn 52 []]; exact fun a b=>∀(K:PV→ae→Prop),((∃(l_1:List RwI) (J_1:List PV) (cap_1:Nat) (most_1:Int) (t_1:Int),ak b [.arr 1 0 l_1.length cap_1,.int .u32 t_1,.fn 52 []]∧az a [.cells [.arr 1 0 l_1.length cap_1,.int .i64 most_1],.cells (flI l_1++J_1)]∧Ok l_1 most_1∧K (.tup [.int .i64 (↑(lbp l_1 t_1):Int),.bool (has l_1 t_1)]) a)∨∃(most_1:Int) (t_1:Int),ak b [.list [] .exact,.int .u32 t_1,.fn 52 []]∧az a [.cells [.list [] .exact,.int .i64 most_1]]∧K (.tup [.int .i64 0,.bool false]) a)→aj Tryd.prog gl 24 [.ptr 0 0,.int .u32 t] a K:Prop):=fun K h=>ah (T:=TBI) (L:=[]) (fun o=>match o.op with| .load t _=>(match t with|78=>1|_=>0)|_=>0) Tryd.func24 (by kernel_rfl) (by kernel_rfl) (by kernel_rfl) (uh) (LOk.nil _ _ _ _ _) (ag (by kernel_rfl) h)
theorem Fg (most t:Int):(by refine(?_:_→_→Prop) [Ob.cells [.list [] .exact,.int .i64 most]] [PV.list [] .exact,.int .u32 t,.fn 52 []]; exact fun a b=>∀(K:PV→ae→Prop),((∃(l:List RwI) (J:List PV) (cap:Nat) (most_1:Int) (t_1:Int),ak b [.arr 1 0 l.length cap,.int .u32 t_1,.fn 52 []]∧az a [.cells [.arr 1 0 l.length cap,.int .i64 most_1],.cells (flI l++J)]∧Ok l most_1∧K (.tup [.int .i64 (↑(lbp l t_1):Int),.bool (has l t_1)]) a)∨∃(most_1:Int) (t_1:Int),ak b [.list [] .exact,.int .u32 t_1,.fn 52 []]∧az a [.cells [.list [] .exact,.int .i64 most_1]]∧K (.tup [.int .i64 0,.bool false]) a)→aj Tryd.prog gl 24 [.ptr 0 0,.int .u32 t] a K:Prop):=fun K h=>ah (T:=TBI) (L:=[]) (fun o=>match o.op with| .load t _=>(match t with|78=>1|_=>0)|_=>0) Tryd.func24 (by kernel_rfl) (by kernel_rfl) (by kernel_rfl) (uh) (LOk.nil _ _ _ _ _) (ag (by kernel_rfl) h)
def Ia (args:List PV) (H:ae) (K:PV→Prop):Prop:=
 ∃(l:List RwI) (most t:Int),ak args [.ptr 0 0,.int .u32 t]∧EXI l most H∧Ok l most∧K (.tup [.int .i64 (lbp l t),.bool (has l t)])
theorem Jn:aO Tryd.prog gl 24 (.read Ia):=by
 rintro args H K ⟨l,most,t,he,hH,ok,hk⟩
 have he:args=_:=he
 subst he
 rcases hH with⟨J,cap,rfl,_,_⟩|⟨rfl,rfl⟩
 ·exact⟨_,FK l J cap most t _ (.inl ⟨l,J,cap,most,t,rfl,rfl,ok,rfl,rfl⟩),hk⟩
 ·exact⟨_,Fg most t _ (.inr ⟨most,t,rfl,rfl,rfl,rfl⟩),hk⟩
def TAI:Tab:=(24,.read Ia)::TBI
theorem u5:aB Tryd.prog gl TAI:= .cons Jn uh
theorem vY {l:List RwI} {J:List PV} {cap:Nat} {most:Int} (h:l.length≤cap) (hJ:aJ J ((cap-l.length)*2)):EXI l most [.cells [.arr 1 0 l.length cap,.int .i64 most],.cells (flI l++J)]:= .inl ⟨J,cap,rfl,h,hJ⟩
theorem Hh {most:Int}:EXI [] most [.cells [.list [] .exact,.int .i64 most]]:= .inr ⟨rfl,rfl⟩
theorem DY (l:List RwI) (J:List PV) (cap:Nat) (most:Int) (t:Int):(by refine(?_:_→_→Prop) [Ob.cells [.arr 1 0 l.length cap,.int .i64 most],.cells (flI l++J)] [PV.ptr 0 0,.int .u32 t]; exact fun d e=>∀(K:PV→ae→Prop),(∃(l_1:List RwI) (most_1:Int) (t_1:Int),by refine(?_:_→_→Prop) (↑(lbp l_1 t_1):Int) (PV.bool (has l_1 t_1)); exact fun b c=>by refine(?_:_→Prop) (List.drop (0+Int.toNat b*2+1) (flI l++J)); exact fun a=>ak e [.ptr 0 0,.int .u32 t_1]∧EXI l_1 most_1 d∧Ok l_1 most_1∧br (has l_1 t_1) ((0≤b∧b<(l.length:Int))∧br (true && aP [.int .i64] 0 a) (K (.tup [.int .i64 (cI a 0),c]) d) False) (K (.tup [.int .i64 0,c]) d))→aj Tryd.prog gl 11 e d K:Prop):=fun K h=>ah (T:=TAI) (L:=[]) (fun o=>match o.op with| .load t _=>(match t with|78=>1|_=>0)|_=>0) Tryd.func11 (by kernel_rfl) (by kernel_rfl) (by kernel_rfl) (u5) (LOk.nil _ _ _ _ _) (ag (by kernel_rfl) h)
theorem BZ (most t:Int):(by refine(?_:_→_→Prop) [Ob.cells [.list [] .exact,.int .i64 most]] [PV.ptr 0 0,.int .u32 t]; exact fun a b=>∀(K:PV→ae→Prop),(∃(l:List RwI) (most_1:Int) (t_1:Int),ak b [.ptr 0 0,.int .u32 t_1]∧EXI l most_1 a∧Ok l most_1∧br (has l t_1) (InL [] 2 (↑(lbp l t_1):Int)∧False) (K (.tup [.int .i64 0,.bool (has l t_1)]) a))→aj Tryd.prog gl 11 b a K:Prop):=fun K h=>ah (T:=TAI) (L:=[]) (fun o=>match o.op with| .load t _=>(match t with|78=>1|_=>0)|_=>0) Tryd.func11 (by kernel_rfl) (by kernel_rfl) (by kernel_rfl) (u5) (LOk.nil _ _ _ _ _) (ag (by kernel_rfl) h)
def BW (args:List PV) (H:ae) (K:PV→Prop):Prop:=
 ∃(l:List RwI) (most t:Int),ak args [.ptr 0 0,.int .u32 t]∧EXI l most H∧Ok l most∧K (.tup [(let v:=aD l t; .int .i64 v),.bool (has l t)])
theorem wO:aO Tryd.prog gl 11 (.read BW):=by
 rintro args H K ⟨l,most,t,he,hH,ok,hk⟩
 have he:args=_:=he
 subst he
 refine⟨_,?_,hk⟩
 rcases hH with⟨J,cap,rfl,hc,hJ⟩|⟨rfl,rfl⟩
 ·refine DY l J cap most t _ ⟨l,most,t,rfl,vY hc hJ,ok,?_⟩
  simp only[ay]
  unfold aD
  cases c:has l t with
  | true=>
   obtain⟨c1,c2⟩:=fP c
   rw[if_pos rfl,if_pos rfl]
   simp only[au,Nat.zero_add]
   rw[← List.drop_drop,n7 J c1]
   exact⟨⟨by omega,by omega⟩,by first|exact⟨rfl,rfl⟩|(rw[if_pos (by rfl)]; exact⟨rfl,rfl⟩)⟩
  | false=>rw[if_neg (by decide),if_neg (by decide)]; exact⟨rfl,rfl⟩
 ·refine BZ most t _ ⟨[],most,t,rfl,Hh,ok,?_⟩
  exact⟨rfl,rfl⟩
def TGI:Tab:=(11,.read BW)::TAI
theorem D3:aB Tryd.prog gl TGI:= .cons wO u5
theorem GI:aO Tryd.prog gl 54 (.ext dw):=
 iq (t:=78) (e:=82) (b:=true) (sz:=2) Tryd.func54 (by kernel_rfl) (by kernel_rfl) (by kernel_rfl) (by kernel_rfl) (by kernel_rfl) (by kernel_rfl) (by kernel_rfl)
def TII:Tab:=(54,.ext dw)::TGI
theorem Ei:aB Tryd.prog gl TII:= .cons GI D3
theorem AE (l:List RwI) (J:List PV) (cap:Nat) (most:Int) (r:RwI) (p:Nat):(by refine(?_:_→_→_→_→_→_→_→_→_→Prop) ((p:Int)+(1:Int)) ((l.length:Int)+(1:Int)) (Int.toNat (l.length:Int)-Int.toNat (p:Int)) (Int.toNat (cap:Int)-0) (Ob.cells (flI l++J)) [PV.int .u32 r.id,.int .i64 r.v] [PV.int .u32 0,.int .i64 0] (Int.toNat (p:Int)-0) (PV.arr 1 0 l.length cap); exact fun h k q s x y A B D=>by refine(?_:_→_→_→_→_→_→Prop) (↑s:Int) (List.take (q*2) (List.drop (if Int.toNat (cap:Int)=Int.toNat (p:Int) then 0 else 0+Int.toNat (p:Int)*2) (flI l++J))) y (Ob.cells [D,.int .i64 most]) (wI k-(p:Int)) (Int.toNat (wI k)-0); exact fun g i m n t C=>by refine(?_:_→_→Prop) (↑C:Int) (Int.toNat (p:Int)-0+Int.toNat (wI t)); exact fun d f=>by refine(?_:_→_→_→_→Prop) (Int.toNat d-Int.toNat (p:Int)) (Int.toNat (↑f:Int)-Int.toNat (p:Int)) (Int.toNat (↑f:Int)-Int.toNat (wI h)) (Int.toNat d-Int.toNat (wI h)); exact fun o u w z=>by refine(?_:_→Prop) (List.take (o*2) (List.drop (if Int.toNat g=Int.toNat (p:Int) then if Int.toNat (cap:Int)=0 then 0 else 0 else(if Int.toNat (cap:Int)=0 then 0 else 0)+Int.toNat (p:Int)*2) (flI l++J))); exact fun e=>by refine(?_:_→Prop) (over (flI l++J) (if Int.toNat g=Int.toNat (wI h) then if Int.toNat (cap:Int)=0 then 0 else 0 else(if Int.toNat (cap:Int)=0 then 0 else 0)+Int.toNat (wI h)*2) (List.take (min o z*2) e)); exact fun j=>∀(K:PV→ae→Prop),((0≤(p:Int)∧(p:Int)≤(l.length:Int)∧(l.length:Int)≤(cap:Int)∧(cap:Int)≤(cap:Int))∧br ((p:Int) == (l.length:Int)) ((l.length≤cap∧0+cap*2≤List.length (flI l++J)∧2=2∧List.all m PV.one=true∧(l.length+1)*16≤140737488355328)∧(l.length+1≤cap→K (.arr 1 0 (l.length+1) cap) [n,.cells (over (flI l++J) (0+l.length*2) m)])∧(cap<l.length+1→∀(c:Nat),l.length+1≤c→K (.arr 2 0 (l.length+1) c) [n,x,.cells (List.take (l.length*2) (List.drop 0 (flI l++J))++m++List.flatten (List.replicate (c-(l.length+1)) A))])) (br (decide (wI k>(cap:Int))) ((iI 0≤0∧0≤(p:Int)∧(p:Int)≤(cap:Int)∧(cap:Int)≤(cap:Int))∧(Int.toNat (p:Int)-0≤Int.toNat (cap:Int)-0∧(if Int.toNat (cap:Int)=0 then 0 else 0)+s*2≤List.length (flI l++J)∧0≤wI t∧Int.toNat (cap:Int)-0<Int.toNat (p:Int)-0+Int.toNat (wI t)∧f*16≤140737488355328)∧∀(c:Nat),by refine(?_:_→Prop) (List.take (B*2) (List.drop (if Int.toNat (cap:Int)=0 then 0 else 0) (flI l++J))++List.flatten (List.replicate (c-B) A)); exact fun b=>by refine(?_:_→Prop) (over b (if Int.toNat (c:Int)=Int.toNat (p:Int) then 0 else 0+Int.toNat (p:Int)*2) (List.take (min 1 u*2) m)); exact fun a=>Int.toNat (p:Int)-0+Int.toNat (wI t)≤c→(0≤(p:Int)∧(p:Int)≤(↑f:Int)∧(↑f:Int)≤(c:Int)∧(c:Int)≤(c:Int))∧((if Int.toNat (c:Int)=Int.toNat (p:Int) then 0 else 0+Int.toNat (p:Int)*2)+u*2≤List.length b∧2=2∧List.all m PV.one=true)∧(0≤wI h∧wI h≤(↑f:Int)∧(↑f:Int)≤(c:Int)∧(c:Int)≤(c:Int))∧(0≤(p:Int)∧(p:Int)≤(l.length:Int)∧(l.length:Int)≤(cap:Int)∧(cap:Int)≤(cap:Int))∧(if Int.toNat (cap:Int)=Int.toNat (p:Int) then 0 else 0+Int.toNat (p:Int)*2)+q*2≤List.length (flI l++J)∧((if Int.toNat (c:Int)=Int.toNat (wI h) then 0 else 0+Int.toNat (wI h)*2)+w*2≤List.length a∧List.length i=q*2∧List.all i PV.one=true)∧K (.arr 2 0 f c) [n,x,.cells (over a (if Int.toNat (c:Int)=Int.toNat (wI h) then 0 else 0+Int.toNat (wI h)*2) (List.take (min q w*2) i))]) ((iI 0≤0∧0≤wI k∧wI k≤(cap:Int)∧(cap:Int)≤(cap:Int))∧(0≤wI h∧wI h≤d∧d≤g∧g≤g)∧y≠[]∧(flI l++J=[]→False)∧(0≤wI h∧wI h≤d∧d≤g∧g≤g)∧(0≤(p:Int)∧(p:Int)≤d∧d≤g∧g≤g)∧(if Int.toNat g=Int.toNat (p:Int) then if Int.toNat (cap:Int)=0 then 0 else 0 else(if Int.toNat (cap:Int)=0 then 0 else 0)+Int.toNat (p:Int)*2)+o*2≤List.length (flI l++J)∧((if Int.toNat g=Int.toNat (wI h) then if Int.toNat (cap:Int)=0 then 0 else 0 else(if Int.toNat (cap:Int)=0 then 0 else 0)+Int.toNat (wI h)*2)+z*2≤List.length (flI l++J)∧List.length e=o*2∧List.all e PV.one=true)∧(0≤(p:Int)∧(p:Int)≤d∧d≤g∧g≤g)∧((if Int.toNat g=Int.toNat (p:Int) then if Int.toNat (cap:Int)=0 then 0 else 0 else(if Int.toNat (cap:Int)=0 then 0 else 0)+Int.toNat (p:Int)*2)+o*2≤List.length j∧2=2∧List.all m PV.one=true)∧K (.arr 1 (if Int.toNat (cap:Int)=0 then 0 else 0) C s) [n,.cells (over j (if Int.toNat g=Int.toNat (p:Int) then if Int.toNat (cap:Int)=0 then 0 else 0 else(if Int.toNat (cap:Int)=0 then 0 else 0)+Int.toNat (p:Int)*2) (List.take (min 1 o*2) m))])))→aj Tryd.prog gl 27 [D,.int .i64 p,.list [csI r] .exact] [n,x] K:Prop):=fun K h=>ah (T:=TII) (L:=[]) (fun o=>match o.op with| .load t _=>(match t with|78=>1|_=>0)|_=>match o.dst with|some 25=>2|_=>0) Tryd.func27 (by kernel_rfl) (by kernel_rfl) (by kernel_rfl) (Ei) (LOk.nil _ _ _ _ _) (ag (by kernel_rfl) h)
theorem CO (most:Int) (r:RwI)  (K:PV→ae→Prop) (h:(iI 0≤0∧iI 0≤0∧iI 0≤0∧iI 0≤0∧uni 2 [])∧2=2∧16≤140737488355328∧0<1∧∀(c:Nat),1≤c→K (.arr 1 0 1 c) [.cells [.list [] .exact,.int .i64 most],.cells ([.int .u32 (Rw.id r),.int .i64 (Rw.v r)]++List.flatten (List.replicate (c-1) [.int .u32 0,.int .i64 0]))]):aj Tryd.prog gl 27 [.list [] .exact,.int .i64 0,.list [csI r] .exact] [.cells [.list [] .exact,.int .i64 most]] K:=
 ah (T:=TII) (L:=[]) (fun o=>match o.op with| .load t _=>(match t with|78=>1|_=>0)|_=>match o.dst with|some 25=>2|_=>0) Tryd.func27 (by kernel_rfl) (by kernel_rfl) (by kernel_rfl) (Ei) (LOk.nil _ _ _ _ _) (ag (by kernel_rfl) h)
def As (args:List PV) (H:ae) (K:PV→ae→Prop):Prop:=
 (∃(l:List RwI) (J:List PV) (cap:Nat) (most:Int) (r:RwI) (p:Nat),ak args [.arr 1 0 l.length cap,.int .i64 p,.list [csI r] .exact]∧az H (gq l J cap most)∧p≤l.length∧l.length≤1000000∧l.length≤cap∧aJ J ((cap-l.length)*2)∧
  (∀(J':List PV),l.length+1≤cap→aJ J' ((cap-(l.length+1))*2)→K (.arr 1 0 (l.length+1) cap) [.cells [.arr 1 0 l.length cap,.int .i64 most],.cells (flI (bz l p r)++J')])∧
  (∀(c:Nat),l.length+1≤c→∀(J':List PV),aJ J' ((c-(l.length+1))*2)→K (.arr 2 0 (l.length+1) c) [.cells [.arr 1 0 l.length cap,.int .i64 most],.cells (flI l++J),.cells (flI (bz l p r)++J')]))∨
 (∃(most:Int) (r:RwI),ak args [.list [] .exact,.int .i64 0,.list [csI r] .exact]∧az H (pg most)∧
  ∀(c:Nat),1≤c→∀(J':List PV),aJ J' ((c-1)*2)→K (.arr 1 0 1 c) [.cells [.list [] .exact,.int .i64 most],.cells (csI r++J')])
def zrI:List PV:=[.int .u32 0,.int .i64 0]
theorem oe (n:Nat):aJ (List.replicate n zrI).flatten (n*2):=
 aJ.pX (z:=zrI) (by intro y hy; simp only[zrI,List.mem_cons,List.not_mem_nil,or_false] at hy; rcases hy with rfl|rfl<;>rfl) (by intro y hy; simp only[zrI,List.mem_cons,List.not_mem_nil,or_false] at hy; rcases hy with rfl|rfl<;>first|exact .int _ _|exact .str _) n
theorem Gr:aO Tryd.prog gl 27 (.heap As):=by
 rintro args H K (⟨l,J,cap,most,r,p,he,hH,hp,hl,hc,hJ,hk1,hk2⟩|⟨most,r,he,hH,hk⟩)
 ·have he:args=_:=he
  have hH:H=_:=hH
  subst he
  subst hH
  have hlen:(flI l++J).length=cap*2:=by rw[List.length_append,j9,hJ.len,← Nat.add_mul]; congr 1; omega
  have hone:(flI l++J).all PV.one=true:=List.all_eq_true.2 (ve l hJ.one)
  refine AE l J cap most r p K ?_
  refine⟨⟨by omega,by omega,by omega,by omega⟩,?_⟩
  rw[ay]
  by_cases c1:p=l.length
  ·rw[if_pos (by simp[c1])]
   subst c1
   refine⟨⟨hc,by rw[hlen]; omega,rfl,rfl,by omega⟩,fun h=>?_,fun h c hcc=>?_⟩
   ·have:=hk1 (J.drop 2) h (hJ.drop.cast (by omega))
    rw[← ny eB r (by rw[hJ.len]; omega)] at this
    rw[Nat.zero_add]
    exact this
   ·have:=hk2 c hcc _ (oe (c-(l.length+1)))
    rw[jh] at this
    rw[List.drop_zero,eS eB J l l.length (Nat.le_refl _),List.take_length]
    simp only[flI,List.map_append,List.flatten_append,List.map_cons,List.map_nil,List.flatten_cons,List.flatten_nil,List.append_nil] at this
    exact this
  ·rw[if_neg (by simp; omega),ay]
   have e1:wI ((l.length:Int)+1)=((l.length+1:Nat):Int):=by rw[a8 (by omega) (by omega)]; rfl
   have e2:wI (((l.length+1:Nat):Int)-(p:Int))=((l.length+1-p:Nat):Int):=by rw[a8 (by omega) (by omega)]; omega
   have e3:wI ((p:Int)+1)=((p+1:Nat):Int):=by rw[a8 (by omega) (by omega)]; rfl
   have e4:p+(l.length+1-p)=l.length+1:=by omega
   simp only[e1,e2,e3,e4,au,Nat.sub_zero,Nat.zero_add,List.drop_zero,ite_self]
   have t1:List.take (p*2) (flI l++J)=flI (l.take p):=eS eB J l p hp
   have t2:List.take ((l.length-p)*2) (List.drop (p*2) (flI l++J))=flI (l.drop p):=by
    rw[eO eB J l p hp,List.take_left']
    rw[j9,List.length_drop]
   have t3:min 1 (l.length+1-p)=1:=by omega
   have t5:(flI (l.drop p)).length=(l.length-p)*2:=by rw[j9,List.length_drop]
   have t6:(flI (l.drop p)).all PV.one=true:=by
    have:=ve (l.drop p) (J:=[]) (fun _ h=>nomatch h)
    rw[List.append_nil] at this
    exact List.all_eq_true.2 this
   have t7:(flI (l.take p)).length=p*2:=by rw[j9,List.length_take,Nat.min_eq_left hp]
   by_cases c2:cap<l.length+1
   ·rw[if_pos (decide_eq_true (by omega))]
    have n3:¬ cap=p:=by omega
    refine⟨⟨by decide,by omega,by omega,by omega⟩,⟨by omega,by omega,by omega,by omega,by omega⟩,fun c hcc=>?_⟩
    have t4:min (l.length-p) (l.length+1-(p+1))=l.length-p:=by omega
    have n1:¬ c=p:=by omega
    have n2:¬ c=p+1:=by omega
    have hZ:=oe (c-p)
    have t9:(flI (l.take p)++(List.replicate (c-p) zrI).flatten).length=c*2:=by rw[List.length_append,t7,hZ.len,← Nat.add_mul]; congr 1; omega
    simp only[if_neg n1,if_neg n2,if_neg n3,t1,t2,t3,t4,t5,t6]
    refine⟨⟨by omega,by omega,by omega,by omega⟩,⟨Nat.le_trans (show _≤c*2 by omega) (Nat.le_of_eq t9.symm),trivial,rfl⟩,⟨by omega,by omega,by omega,by omega⟩,⟨by omega,by omega,by omega,by omega⟩,by omega,⟨?_,trivial,trivial⟩,?_⟩
    ·have t10:(over (flI (l.take p)++(List.replicate (c-p) zrI).flatten) (p*2) (csI r)).length=c*2:=by rw[bB (by rw[t9,eB]; omega),t9]
     exact Nat.le_trans (show _≤c*2 by omega) (Nat.le_of_eq t10.symm)
    ·have:=hk2 c (by omega) _ ((hZ.drop (k:=(l.length+1-p)*2)).cast (by omega))
     rw[← oT eB r hp (by rw[hZ.len]; omega)] at this
     rw[List.take_of_length_le (Nat.le_of_eq t5)]
     exact this
   ·rw[if_neg (by simp; omega)]
    have n3:¬ cap=p:=by omega
    have n4:¬ cap=p+1:=by omega
    have t9:min (l.length+1-p) (l.length+1-(p+1))=l.length-p:=by omega
    have t10:List.take ((l.length-p)*2) (List.take ((l.length+1-p)*2) (List.drop (p*2) (flI l++J)))=List.take ((l.length-p)*2) (List.drop (p*2) (flI l++J)):=by rw[List.take_take,Nat.min_eq_left (by omega)]
    simp only[if_neg n3,if_neg n4,t3,t9,t10]
    have t11:(List.take ((l.length+1-p)*2) (List.drop (p*2) (flI l++J))).length=(l.length+1-p)*2:=by rw[List.length_take,List.length_drop,hlen]; omega
    have t12:(List.take ((l.length+1-p)*2) (List.drop (p*2) (flI l++J))).all PV.one=true:=List.all_eq_true.2 fun y hy=>List.all_eq_true.1 hone y (List.mem_of_mem_drop (List.mem_of_mem_take hy))
    have t13:(over (flI l++J) ((p+1)*2) (List.take ((l.length-p)*2) (List.drop (p*2) (flI l++J)))).length=cap*2:=by rw[bB (by rw[t2,t5,hlen]; omega),hlen]
    refine⟨⟨by decide,by omega,by omega,by omega⟩,⟨by omega,by omega,by omega,by omega⟩,List.cons_ne_nil _ _,fun h=>?_,⟨by omega,by omega,by omega,by omega⟩,⟨by omega,by omega,by omega,by omega⟩,by omega,⟨by omega,t11,t12⟩,⟨by omega,by omega,by omega,by omega⟩,⟨by omega,trivial,rfl⟩,?_⟩
    ·rw[h] at hlen; simp only[List.length_nil] at hlen; omega
    ·have:=hk1 (J.drop 2) (by omega) (hJ.drop.cast (by omega))
     rw[← q9 eB r (by omega) (by rw[hJ.len]; omega)] at this
     exact this
 ·have he:args=_:=he
  have hH:H=_:=hH
  subst he
  subst hH
  exact CO most r K ⟨⟨by decide,by decide,by decide,by decide,fun _ h=>nomatch h⟩,rfl,by decide,by decide,fun c hc=>hk c hc _ (oe (c-1))⟩
def TPI:Tab:=(27,.heap As)::TGI
theorem Ao:aB Tryd.prog gl TPI:= .cons Gr D3
theorem DK (l:List RwI) (J:List PV) (cap:Nat) (most:Int) (t:Int) (v:Int):(by refine(?_:_→Prop) (PV.arr 1 0 l.length cap); exact fun g=>by refine(?_:_→Prop) [g,.int .i64 most]; exact fun f=>by refine(?_:_→Prop) [Ob.cells f,.cells (flI l++J)]; exact fun e=>∀(K:PV→ae→Prop),(br (!aF t) (K (.int .i64 14) e) (∃(l_1:List RwI) (most_1:Int) (t_1:Int),by refine(?_:_→Prop) (↑(lbp l_1 t_1):Int); exact fun a=>by refine(?_:_→_→Prop) [g,.int .i64 a,.list [[PV.int .u32 t,.int .i64 v]] .exact] (0+Int.toNat a*2+1); exact fun b d=>ak [.ptr 0 0,.int .u32 t] [.ptr 0 0,.int .u32 t_1]∧EXI l_1 most_1 e∧Ok l_1 most_1∧br (has l_1 t_1) ((0≤a∧a<(l.length:Int))∧br (1 == 1 && List.all [.int .i64 v] PV.one && decide (0+Int.toNat a*2+1+1≤List.length (flI l++J)) && cE 0 1 d 1) (K (.int .i64 0) [.cells f,.cells (over (flI l++J) d [.int .i64 v])]) False) (br (decide ((l.length:Int)≥most)) (K (.int .i64 10) e) ((∃(l_2:List RwI) (J_1:List PV) (cap_1:Nat) (most_2:Int) (r:RwI) (p:Nat),ak b [.arr 1 0 l_2.length cap_1,.int .i64 p,.list [[PV.int .u32 r.id,.int .i64 r.v]] .exact]∧az e [.cells [.arr 1 0 l_2.length cap_1,.int .i64 most_2],.cells (flI l_2++J_1)]∧p≤l_2.length∧l_2.length≤1000000∧l_2.length≤cap_1∧aJ J_1 ((cap_1-l_2.length)*2)∧(∀(J':List PV),l_2.length+1≤cap_1→aJ J' ((cap_1-(l_2.length+1))*2)→K (.int .i64 0) [.cells [.arr 1 0 (l_2.length+1) cap_1,.int .i64 most_2],.cells (flI (bz l_2 p r)++J')])∧∀(c:Nat),l_2.length+1≤c→∀(J':List PV),aJ J' ((c-(l_2.length+1))*2)→K (.int .i64 0) [.cells [.arr 2 0 (l_2.length+1) c,.int .i64 most_2],.cells (flI l_2++J_1),.cells (flI (bz l_2 p r)++J')])∨∃(most_2:Int) (r:RwI),ak b [.list [] .exact,.int .i64 0,.list [[PV.int .u32 r.id,.int .i64 r.v]] .exact]∧az e [.cells [.list [] .exact,.int .i64 most_2]]∧∀(c:Nat),1≤c→∀(J':List PV),aJ J' ((c-1)*2)→K (.int .i64 0) [.cells [.arr 1 0 1 c,.int .i64 most_2],.cells ([.int .u32 r.id,.int .i64 r.v]++J')]))))→aj Tryd.prog gl 14 [.ptr 0 0,.int .u32 t,.int .i64 v] e K:Prop):=fun K h=>ah (T:=TPI) (L:=[]) (fun o=>match o.op with| .load t _=>(match t with|78=>1|_=>0)|_=>0) Tryd.func14 (by kernel_rfl) (by kernel_rfl) (by kernel_rfl) (Ao) (LOk.nil _ _ _ _ _) (ag (by kernel_rfl) h)
theorem D4 (most t:Int) (v:Int):(by refine(?_:_→Prop) [Ob.cells [.list [] .exact,.int .i64 most]]; exact fun d=>∀(K:PV→ae→Prop),(br (!aF t) (K (.int .i64 14) d) (∃(l:List RwI) (most_1:Int) (t_1:Int),by refine(?_:_→Prop) (↑(lbp l t_1):Int); exact fun b=>by refine(?_:_→Prop) [PV.list [] .exact,.int .i64 b,.list [[PV.int .u32 t,.int .i64 v]] .exact]; exact fun a=>ak [.ptr 0 0,.int .u32 t] [.ptr 0 0,.int .u32 t_1]∧EXI l most_1 d∧Ok l most_1∧br (has l t_1) (InL [] 2 b∧False) (br (decide (0≥most)) (K (.int .i64 10) d) ((∃(l_1:List RwI) (J:List PV) (cap:Nat) (most_2:Int) (r:RwI) (p:Nat),ak a [.arr 1 0 l_1.length cap,.int .i64 p,.list [[PV.int .u32 r.id,.int .i64 r.v]] .exact]∧az d [.cells [.arr 1 0 l_1.length cap,.int .i64 most_2],.cells (flI l_1++J)]∧p≤l_1.length∧l_1.length≤1000000∧l_1.length≤cap∧aJ J ((cap-l_1.length)*2)∧(∀(J':List PV),l_1.length+1≤cap→aJ J' ((cap-(l_1.length+1))*2)→K (.int .i64 0) [.cells [.arr 1 0 (l_1.length+1) cap,.int .i64 most_2],.cells (flI (bz l_1 p r)++J')])∧∀(c:Nat),l_1.length+1≤c→∀(J':List PV),aJ J' ((c-(l_1.length+1))*2)→K (.int .i64 0) [.cells [.arr 2 0 (l_1.length+1) c,.int .i64 most_2],.cells (flI l_1++J),.cells (flI (bz l_1 p r)++J')])∨∃(most_2:Int) (r:RwI),ak a [.list [] .exact,.int .i64 0,.list [[PV.int .u32 r.id,.int .i64 r.v]] .exact]∧az d [.cells [.list [] .exact,.int .i64 most_2]]∧∀(c:Nat),1≤c→∀(J':List PV),aJ J' ((c-1)*2)→K (.int .i64 0) [.cells [.arr 1 0 1 c,.int .i64 most_2],.cells ([.int .u32 r.id,.int .i64 r.v]++J')]))))→aj Tryd.prog gl 14 [.ptr 0 0,.int .u32 t,.int .i64 v] d K:Prop):=fun K h=>ah (T:=TPI) (L:=[]) (fun o=>match o.op with| .load t _=>(match t with|78=>1|_=>0)|_=>0) Tryd.func14 (by kernel_rfl) (by kernel_rfl) (by kernel_rfl) (Ao) (LOk.nil _ _ _ _ _) (ag (by kernel_rfl) h)
theorem zQ {l:List RwI} {J:List PV} {cap:Nat} {most:Int} (h:∀ y∈J,Low 2 y):∀(o:Nat) cs,(gq l J cap most)[o]?=some (.cells cs)→∀ x∈cs,Low (gq l J cap most).length x:=by
 intro o cs ho x hx
 have e1:=(List.getElem?_eq_some_iff.1 ho).1
 simp[gq] at e1
 rcases Nat.eq_zero_or_pos o with rfl|h0
 ·cases ho
  simp only[List.mem_cons,List.not_mem_nil,or_false] at hx
  rcases hx with rfl|rfl
  ·exact .arr _ _ _ _ (by simp[gq])
  ·exact .int _ _
 ·have:o=1:=by omega
  subst this
  cases ho
  exact vk l h x hx
def rkI (l:List RwI) (most:Int):Rep:=whole (EXI l most)
theorem iT {l:List RwI} {J:List PV} {cap:Nat} {most:Int} {T:ae} {k:Nat} (hk:T[k]?=some (.cells (flI l++J))) (h:l.length≤cap) (hJ:aJ J ((cap-l.length)*2)):dO (EXI l most) (.cells [.arr (k+1) 0 l.length cap,.int .i64 most]::T):=
 ⟨gq l J cap most,_,wB hk (fun y hy=>by rcases List.mem_singleton.1 hy with rfl; exact .int _ _) (vk l hJ.low),rfl,.inl ⟨J,cap,rfl,h,hJ⟩,nl⟩
theorem lj {most:Int} {T:ae}:dO (EXI [] most) (.cells [.list [] .exact,.int .i64 most]::T):=
 ⟨pg most,_,sub_one T (fun y hy=>by simp only[List.mem_cons,List.not_mem_nil,or_false] at hy; rcases hy with rfl|rfl; exact aI NT.exact (fun _ h=>nomatch h); exact .int _ _),rfl,.inr ⟨rfl,rfl⟩,nl⟩
theorem nH {l:List RwI} {most:Int} {H:ae} (h:EXI l most H):dO (EXI l most) H:=by
 rcases h with⟨J,cap,rfl,hc,hJ⟩|⟨rfl,rfl⟩
 ·exact iT (k:=0) rfl hc hJ
 ·exact lj
theorem Ll {l:List RwI} {J:List PV} {p:Nat} {t:Int} {v:Int} (hp:p<l.length) (ht:(l.getD p default).id=t):over (flI l++J) (p*2+1) (let r:RwI:=⟨t,v⟩; [.int .i64 r.v])=flI (l.set p ⟨t,v⟩)++J:=by
 have e1:flI l++J=(flI (l.take p)++[.int .u32 t])++(let r:RwI:=l.getD p default; [.int .i64 r.v])++(flI (l.drop (p+1))++J):=by
  unfold flI
  rw[fw l p,List.drop_eq_getElem_cons hp,List.map_cons,List.flatten_cons,← ht,bI hp]
  simp[csI]
 rw[cy e1 (by rw[List.length_append,bq eB,List.length_take,Nat.min_eq_left (by omega)]; rfl) (by rfl),List.set_eq_take_append_cons_drop,if_pos hp]
 simp[flI,csI]
def I0 (args:List PV) (H:ae) (K:PV→ae→Prop):Prop:=
 ∃(l:List RwI) (most t:Int) (v:Int),ak args [.ptr 0 0,.int .u32 t,.int .i64 v]∧EXI l most H∧Ok l most∧∀(H':ae),dO (EXI (bZ l most t v).1 most) H'→K (.int .i64 (bZ l most t v).2) H'
theorem Fi:aO Tryd.prog gl 14 (.heap I0):=by
 rintro args H K ⟨l,most,t,v,he,hH,ok,hk⟩
 have he:args=_:=he
 subst he
 unfold bZ at hk
 rcases hH with⟨J,cap,rfl,hc,hJ⟩|⟨rfl,rfl⟩
 ·have hlen:(flI l++J).length=cap*2:=by rw[List.length_append,j9,hJ.len,← Nat.add_mul]; congr 1; omega
  refine DK l J cap most t v K ?_
  rw[ay]
  by_cases c:aF t=true
  ·rw[if_neg (by simp[c])]
   rw[if_pos c] at hk
   refine⟨l,most,t,rfl,vY hc hJ,ok,?_⟩
   simp only[ay]
   by_cases c2:has l t=true
   ·rw[if_pos c2]
    rw[if_pos c2] at hk
    obtain⟨h1,h2⟩:=fP c2
    refine⟨⟨by omega,by omega⟩,?_⟩
    simp only[au,Nat.zero_add]
    rw[if_pos (by rw[decide_eq_true (by rw[hlen]; omega)]; rfl)]
    have h3:=iT (most:=most) (l:=l.set (lbp l t) ⟨t,v⟩) (J:=J) (cap:=cap) (k:=0) (T:=[.cells (flI (l.set (lbp l t) ⟨t,v⟩)++J)]) rfl (by simpa using hc) (by simpa using hJ)
    rw[List.length_set,← Ll h1 h2] at h3
    exact hk _ h3
   ·rw[if_neg c2]
    rw[if_neg c2] at hk
    by_cases c3:(l.length:Int)≥most
    ·rw[if_pos (decide_eq_true c3)]
     rw[if_pos c3] at hk
     exact hk _ (nH (vY hc hJ))
    ·rw[if_neg (by simpa using c3)]
     rw[if_neg c3] at hk
     have hi:(bz l (lbp l t) ⟨t,v⟩).length=l.length+1:=fl (qh l t)
     refine .inl ⟨l,J,cap,most,⟨t,v⟩,lbp l t,rfl,rfl,qh l t,ok.len,hc,hJ,fun J' h1 h2=>?_,fun c h1 J' h2=>?_⟩
     ·rw[← hi]
      exact hk _ (iT (k:=0) rfl (by rw[hi]; exact h1) (by rw[hi]; exact h2))
     ·have:=hk _ (iT (l:=bz l (lbp l t) ⟨t,v⟩) (J:=J') (cap:=c) (most:=most) (k:=1) (T:=[.cells (flI l++J),.cells (flI (bz l (lbp l t) ⟨t,v⟩)++J')]) rfl (by rw[hi]; exact h1) (by rw[hi]; exact h2))
      rw[hi] at this
      exact this
  ·rw[if_pos (by simpa using c)]
   rw[if_neg c] at hk
   exact hk _ (nH (vY hc hJ))
 ·refine D4 most t v K ?_
  rw[ay]
  by_cases c:aF t=true
  ·rw[if_neg (by simp[c])]
   rw[if_pos c,nn,if_neg (by decide)] at hk
   refine⟨[],most,t,rfl,Hh,ok,?_⟩
   rw[nn]
   simp only[ay]
   rw[if_neg (by decide)]
   by_cases c3:0≥most
   ·rw[if_pos (decide_eq_true c3)]
    rw[if_pos (by simpa using c3)] at hk
    exact hk _ lj
   ·rw[if_neg (by simpa using c3)]
    rw[if_neg (by simpa using c3)] at hk
    refine .inr ⟨most,⟨t,v⟩,rfl,rfl,fun c hc J' hJ=>?_⟩
    exact hk _ (iT (l:=[⟨t,v⟩]) (k:=0) rfl hc hJ)
  ·rw[if_pos (by simpa using c)]
   rw[if_neg c] at hk
   exact hk _ lj
end Go.Proofs.YtenaelaapdhbdaaDoor
