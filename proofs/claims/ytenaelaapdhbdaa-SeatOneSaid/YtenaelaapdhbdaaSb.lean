/-
  Layer 22: a rack of matches.
-/
import Derived.Test.YtenaelaapdhbdaaSa
import Derived.Test.YtenaelaapdhbdaaProg
namespace Go.Proofs.Ytenaelaapdhbdaa
open Go Go.AM Go.Proofs
abbrev RwM:=Rw Mt
def csM (r:RwM):List PV:=[.int .u32 r.id,.int .u32 r.v.id,.int .i64 r.v.md,.int .u32 r.v.ins,.list (r.v.rows.map rrc) .no,.list (r.v.seats.map stc) .no]
theorem csM_len (r:RwM):(csM r).length=6:=rfl
theorem low_csM {n:Nat} (r:RwM):∀ y∈csM r,Low n y:=by
 intro y hy
 simp only[csM,List.mem_cons,List.not_mem_nil,or_false] at hy
 rcases hy with rfl|rfl|rfl|rfl|rfl|rfl<;>first|exact .int _ _|exact .str _|exact low_rrs _|exact low_sts _
theorem lowvM (v:Mt):Low 0 (Mt.pv v):=by first|exact .int _ _|exact .str _|(refine .agg _ ?_; intro y hy; simp only[List.mem_cons,List.not_mem_nil,or_false] at hy; rcases hy with rfl|rfl|rfl|rfl|rfl<;>first|exact .int _ _|exact .str _|exact low_rrs _|exact low_sts _)
theorem low_tupvM (v:Mt) (b:Bool):Low 0 (.tup [Mt.pv v,.bool b]):= .tup _ (by intro y hy; simp only[List.mem_cons,List.not_mem_nil,or_false] at hy; rcases hy with rfl|rfl; exact lowvM v; exact .bool _)
theorem one_csM (r:RwM):∀ y∈csM r,y.one=true:=by
 intro y hy
 simp only[csM,List.mem_cons,List.not_mem_nil,or_false] at hy
 rcases hy with rfl|rfl|rfl|rfl|rfl|rfl<;>rfl
abbrev flM (l:List RwM):List PV:=(l.map csM).flatten
theorem flM_len (l:List RwM):(flM l).length=l.length*6:=rows_len csM_len l
theorem flM_at {l:List RwM} {k:Nat} (J:List PV) (h:k<l.length):List.drop (k*6) (flM l++J)=csM (l.getD k default)++(flM (l.drop (k+1))++J):=cells_at csM_len J default h
theorem flM_low {n:Nat} (l:List RwM) {J:List PV} (h:∀ y∈J,Low n y):∀ y∈flM l++J,Low n y:=low_flat (fun a _=>low_csM a) h
theorem flM_one (l:List RwM) {J:List PV} (h:∀ y∈J,y.one=true):∀ y∈flM l++J,y.one=true:=by
 intro y hy
 rcases List.mem_append.1 hy with h1|h1
 ·obtain⟨c,h2,h3⟩:=List.mem_flatten.1 h1
  obtain⟨a,_,rfl⟩:=List.mem_map.1 h2
  exact one_csM a y h3
 ·exact h y h1
def hpAM (l:List RwM) (J:List PV) (cap:Nat) (most:Int):Heap:=[.cells [.arr 1 0 l.length cap,.int .i64 most],.cells (flM l++J)]
def hpNM (most:Int):Heap:=[.cells [.list [] .exact,.int .i64 most]]
def EXM (l:List RwM) (most:Int) (H:Heap):Prop:=
 (∃(J:List PV) (cap:Nat),H=hpAM l J cap most∧l.length≤cap∧Room J ((cap-l.length)*6))∨(l=[]∧H=hpNM most)
theorem cmpM_vc (r:RwM) (t:Int)  (K:PV→Prop) (h:K (.int .i64 (cmpS (Rw.id r) t))):ACalls Try.prog gl 73 [.agg (csM r),.int .u32 t] [] (fun x _=>K x):=
 acalls_of_wpc2 (T:=TK) (L:=[]) (fun _=>0) Try.func73 (by kernel_rfl) (by kernel_rfl) (by kernel_rfl) (TK_ok) (LOk.nil _ _ _ _ _) (holds_of_eq (by kernel_rfl) h)
def cmpM_s (args:List PV) (K:PV→Prop):Prop:=∃(r:RwM) (t:Int),SlIs args [.agg (csM r),.int .u32 t]∧K (.int .i64 (cmpS r.id t))
theorem cmpM_ok:SpOk Try.prog gl 73 (.pure cmpM_s):=by
 rintro args K ⟨r,t,he,hk⟩
 have he:args=_:=he
 subst he
 exact spure gl_low (by intro y hy; simp only[List.mem_cons,List.not_mem_nil,or_false] at hy; rcases hy with rfl|rfl; exact .agg _ (low_csM r); exact .int _ _) (.int _ _) (cmpM_vc r t (fun y=>y = .int .i64 (cmpS r.id t)) rfl) hk
def TCM:Tab:=(73,.pure cmpM_s)::TK
theorem TCM_ok:TabOk Try.prog gl TCM:= .cons cmpM_ok TK_ok
theorem bslM_vc (l:List RwM) (J:List PV) (cap:Nat) (most:Int) (t:Int) (i j:Nat):(by refine(?_:_→_→_→Prop) (Int.fdiv (IntKind.wrap .u64 (wI ((i:Int)+(j:Int)))) 2) (PV.arr 1 0 l.length cap) (PV.int .i64 l.length); exact fun b f g=>by refine(?_:_→_→_→Prop) (List.drop (0+Int.toNat (wI b)*6) (flM l++J)) [Ob.cells [f,.int .i64 most],.cells (flM l++J)] [PV.arr 1 0 l.length cap,.int .u32 t,.fn 73 [],g,.int .i64 i,.int .i64 j]; exact fun a c d=>∀(R:Ex→List PV→Heap→Prop),(br (decide ((i:Int)<(j:Int))) ((0≤wI b∧wI b<(l.length:Int))∧br (true && fitX [.int .u32,.int .u32,.int .i64,.int .u32,.list,.list] 0 a) (∃(r:RwM) (t_1:Int),SlIs [.agg [.int .u32 (cI a 0),.int .u32 (cI a 1),.int .i64 (cI a 2),.int .u32 (cI a 3),.list (cL a 4) (cT a 4),.list (cL a 5) (cT a 5)],.int .u32 t] [.agg [.int .u32 r.id,.int .u32 r.v.id,.int .i64 r.v.md,.int .u32 r.v.ins,.list (r.v.rows.map rrc) .no,.list (r.v.seats.map stc) .no],.int .u32 t_1]∧br (decide (cmpS r.id t_1<0)) (R .normal [f,.int .u32 t,.fn 73 [],g,.int .i64 (wI (wI b+1)),.int .i64 j] c) (R .normal [f,.int .u32 t,.fn 73 [],g,.int .i64 i,.int .i64 (wI b)] c)) False) (R (.exit 0) d c))→Holds (wpc br Try.prog gl TCM [] (fun _=>0) (subOf [1,1,1,0,0] (bodyOf Try.f72)) [] (envS [0,1,2,8,9,10] d) c (fun ex e H=>R ex (List.map e [0,1,2,8,9,10]) H)):Prop):=fun R h=>holds_of_eq (by kernel_rfl) h
theorem bsmM_vc (most t:Int):(by refine(?_:_→_→Prop) [PV.list [] .exact,.int .u32 t,.fn 73 [],.int .i64 0,.int .i64 0,.int .i64 0] [Ob.cells [.list [] .exact,.int .i64 most]]; exact fun a b=>∀(R:Ex→List PV→Heap→Prop),(R (.exit 0) a b)→Holds (wpc br Try.prog gl TCM [] (fun _=>0) (subOf [1,1,1,0,0] (bodyOf Try.f72)) [] (envS [0,1,2,8,9,10] a) b (fun ex e H=>R ex (List.map e [0,1,2,8,9,10]) H)):Prop):=fun R h=>holds_of_eq (by kernel_rfl) h
def bsM_l:LSp:=fun e H Q=>∃(l:List RwM) (J:List PV) (cap:Nat) (most t:Int) (p:Nat),Lb l t p∧l.length≤1000000∧SlIs (List.map e [0,1,2,8,9,10]) [.arr 1 0 l.length cap,.int .u32 t,.fn 73 [],.int .i64 l.length,.int .i64 0,.int .i64 l.length]∧HpIs H (hpAM l J cap most)∧
 Q (.exit 0) (envS [0,1,2,8,9,10] [.arr 1 0 l.length cap,.int .u32 t,.fn 73 [],.int .i64 l.length,.int .i64 p,.int .i64 p]) (hpAM l J cap most)
theorem bsM_l_ok:∀ e H Q,bsM_l e H Q→AW Try.prog gl Try.f72.ntmps (.loop (subOf [1,1,1,0,0] (bodyOf Try.f72))) Q e H:=by
 rintro e H Q ⟨l,J,cap,most,t,p,hp,hl,he,hH,hQ⟩
 refine aw_loop4 (hn:=fun _=>0) gl_low TCM_ok (.nil _ _ _ _ _) (σ:=Nat×Nat) [0,1,2,8,9,10] (fun s=>s.1≤p∧p≤s.2∧s.2≤l.length)
  (fun s=>[.arr 1 0 l.length cap,.int .u32 t,.fn 73 [],.int .i64 l.length,.int .i64 s.1,.int .i64 s.2]) (fun _=>hpAM l J cap most) (fun s=>s.2-s.1) (0,l.length) ⟨Nat.zero_le _,hp.le,Nat.le_refl _⟩ he hH ?_
 rintro⟨i,j⟩ ⟨h1,h2,h3⟩
 simp only at h1 h2 h3
 refine bslM_vc l J cap most t i j _ ?_
 simp only[br_if,dt]
 by_cases h:i<j
 ·rw[if_pos (by omega)]
  obtain⟨k,hk⟩:∃ k,k=(i+j) / 2:=⟨_,rfl⟩
  have e1:wI (Int.fdiv (IntKind.wrap .u64 (wI ((i:Int)+j))) 2)=(k:Int):=by
   rw[w_small (n:=(i:Int)+j) (by omega) (by omega),wrap_u64 (by omega) (by omega),Int.fdiv_eq_ediv_of_nonneg _ (by decide),w_small (by omega) (by omega)]
   omega
  simp only[e1,toNat_nat,Nat.zero_add]
  have hkl:k<l.length:=by omega
  rw[flM_at J hkl]
  refine⟨⟨by omega,by omega⟩,?_⟩
  rw[if_pos (by rfl)]
  refine⟨l.getD k default,t,rfl,?_⟩
  by_cases c:cmpS (l.getD k default).id t<0
  ·rw[if_pos c]
   have hc:(l.getD k default).id<t:=by unfold cmpS at c; split at c; assumption; split at c<;>omega
   have hkp:k<p:=by
    rcases Nat.lt_or_ge k p with q|q
    ·exact q
    ·have:=hp.hi k q hkl; omega
   exact⟨(k+1,j),(show j-(k+1)<j-i by omega),⟨hkp,h2,h3⟩,by rw[wI_succ hkl (by omega)],[],rfl,Nat.le_refl _,.inl rfl⟩
  ·rw[if_neg c]
   have hc:t≤(l.getD k default).id:=by unfold cmpS at c; split at c<;>omega
   have hkp:p≤k:=by
    rcases Nat.lt_or_ge k p with q|q
    ·have:=hp.lo k q; omega
    ·exact q
   exact⟨(i,k),(show k-i<j-i by omega),⟨h1,hkp,by omega⟩,rfl,[],rfl,Nat.le_refl _,.inl rfl⟩
 ·rw[if_neg (by omega)]
  have e1:i=p:=by omega
  have e2:j=p:=by omega
  subst e1
  subst e2
  exact hQ
def bnM_l:LSp:=fun e H Q=>∃(most t:Int),SlIs (List.map e [0,1,2,8,9,10]) [.list [] .exact,.int .u32 t,.fn 73 [],.int .i64 0,.int .i64 0,.int .i64 0]∧HpIs H (hpNM most)∧
 Q (.exit 0) (envS [0,1,2,8,9,10] [.list [] .exact,.int .u32 t,.fn 73 [],.int .i64 0,.int .i64 0,.int .i64 0]) (hpNM most)
theorem bnM_l_ok:∀ e H Q,bnM_l e H Q→AW Try.prog gl Try.f72.ntmps (.loop (subOf [1,1,1,0,0] (bodyOf Try.f72))) Q e H:=by
 rintro e H Q ⟨most,t,he,hH,hQ⟩
 refine aw_loop4 (hn:=fun _=>0) gl_low TCM_ok (.nil _ _ _ _ _) (σ:=Unit) [0,1,2,8,9,10] (fun _=>True)
  (fun _=>[.list [] .exact,.int .u32 t,.fn 73 [],.int .i64 0,.int .i64 0,.int .i64 0]) (fun _=>hpNM most) (fun _=>0) () trivial he hH ?_
 intro _ _
 exact bsmM_vc most t _ hQ
theorem bsfM_vc (l:List RwM) (J:List PV) (cap:Nat) (most:Int) (t:Int):(by refine(?_:_→_→Prop) (PV.arr 1 0 l.length cap) (PV.int .i64 l.length); exact fun g h=>by refine(?_:_→Prop) [Ob.cells [g,.int .i64 most],.cells (flM l++J)]; exact fun f=>∀(K:PV→Heap→Prop),(∃(l_1:List RwM) (J_1:List PV) (cap_1:Nat) (most_1:Int) (t_1:Int) (p:Nat),by refine(?_:_→_→_→_→Prop) (List.drop (0+Int.toNat (p:Int)*6) (flM l_1++J_1)) (PV.arr 1 0 l_1.length cap_1) (PV.int .i64 l_1.length) (l_1.length:Int); exact fun a c d e=>by refine(?_:_→Prop) [Ob.cells [c,.int .i64 most_1],.cells (flM l_1++J_1)]; exact fun b=>Lb l_1 t_1 p∧l_1.length≤1000000∧SlIs [g,.int .u32 t,.fn 73 [],h,.int .i64 0,h] [c,.int .u32 t_1,.fn 73 [],d,.int .i64 0,d]∧HpIs f b∧br (decide ((p:Int)<e) == true) ((0≤(p:Int)∧(p:Int)<e)∧br (true && fitX [.int .u32,.int .u32,.int .i64,.int .u32,.list,.list] 0 a) (∃(r:RwM) (t:Int),SlIs [.agg [.int .u32 (cI a 0),.int .u32 (cI a 1),.int .i64 (cI a 2),.int .u32 (cI a 3),.list (cL a 4) (cT a 4),.list (cL a 5) (cT a 5)],.int .u32 t_1] [.agg [.int .u32 r.id,.int .u32 r.v.id,.int .i64 r.v.md,.int .u32 r.v.ins,.list (r.v.rows.map rrc) .no,.list (r.v.seats.map stc) .no],.int .u32 t]∧K (.tup [.int .i64 p,.bool (cmpS r.id t == 0)]) b) False) (K (.tup [.int .i64 p,.bool false]) b))→ACalls Try.prog gl 72 [g,.int .u32 t,.fn 73 []] f K:Prop):=fun K h=>acalls_of_wpc2 (T:=TCM) (L:=[([1,1,1,0,0],bsM_l)]) (fun _=>0) Try.func72 (by kernel_rfl) (by kernel_rfl) (by kernel_rfl) (TCM_ok) (.cons (sub_of (by kernel_rfl)) bsM_l_ok (.nil _ _ _ _ _)) (holds_of_eq (by kernel_rfl) h)
theorem bsnM_vc (most t:Int)  (K:PV→Heap→Prop) (h:∃(most_1:Int) (t_1:Int),SlIs [.list [] .exact,.int .u32 t,.fn 73 [],.int .i64 0,.int .i64 0,.int .i64 0] [.list [] .exact,.int .u32 t_1,.fn 73 [],.int .i64 0,.int .i64 0,.int .i64 0]∧HpIs [.cells [.list [] .exact,.int .i64 most]] [.cells [.list [] .exact,.int .i64 most_1]]∧K (.tup [.int .i64 0,.bool false]) [.cells [.list [] .exact,.int .i64 most_1]]):ACalls Try.prog gl 72 [.list [] .exact,.int .u32 t,.fn 73 []] [.cells [.list [] .exact,.int .i64 most]] K:=
 acalls_of_wpc2 (T:=TCM) (L:=[([1,1,1,0,0],bnM_l)]) (fun _=>0) Try.func72 (by kernel_rfl) (by kernel_rfl) (by kernel_rfl) (TCM_ok) (.cons (sub_of (by kernel_rfl)) bnM_l_ok (.nil _ _ _ _ _)) (holds_of_eq (by kernel_rfl) h)
def bsM_s (args:List PV) (H:Heap) (K:PV→Prop):Prop:=
 (∃(l:List RwM) (J:List PV) (cap:Nat) (most t:Int),SlIs args [.arr 1 0 l.length cap,.int .u32 t,.fn 73 []]∧HpIs H (hpAM l J cap most)∧Ok l most∧K (.tup [.int .i64 (lbp l t),.bool (has l t)]))∨
 (∃(most t:Int),SlIs args [.list [] .exact,.int .u32 t,.fn 73 []]∧HpIs H (hpNM most)∧K (.tup [.int .i64 0,.bool false]))
theorem bsM_ok:SpOk Try.prog gl 72 (.read bsM_s):=by
 rintro args H K (⟨l,J,cap,most,t,he,hH,ok,hk⟩|⟨most,t,he,hH,hk⟩)
 ·have he:args=_:=he
  have hH:H=_:=hH
  subst he
  subst hH
  obtain⟨p,hpe⟩:∃ p,p=lbp l t:=⟨_,rfl⟩
  have hp:Lb l t p:=hpe▸ok.lb t
  unfold has at hk
  rw[← hpe] at hk
  refine⟨_,bsfM_vc l J cap most t _ ⟨l,J,cap,most,t,p,hp,ok.len,rfl,rfl,?_⟩,hk⟩
  simp only[br_if,bt,dt]
  by_cases c:p<l.length
  ·rw[if_pos (by omega)]
   simp only[toNat_nat,Nat.zero_add]
   rw[flM_at J c]
   refine⟨⟨by omega,by omega⟩,?_⟩
   rw[if_pos (by rfl)]
   refine⟨l.getD p default,t,rfl,?_,rfl⟩
   unfold hitP
   have e:((cmpS (l.getD p default).id t) == 0)=decide (p<l.length∧(l.getD p default).id=t):=by
    rw[Bool.eq_iff_iff,beq_iff_eq,decide_eq_true_eq]
    unfold cmpS
    constructor
    ·intro h; refine⟨c,?_⟩; split at h; omega; split at h<;>omega
    ·rintro⟨_,h⟩; rw[if_neg (by omega),if_neg (by omega)]
   rw[e]
  ·rw[if_neg (by omega)]
   unfold hitP
   rw[decide_eq_false (fun h=>c h.1)]
   exact⟨rfl,rfl⟩
 ·have he:args=_:=he
  have hH:H=_:=hH
  subst he
  subst hH
  exact⟨_,bsnM_vc most t _ ⟨most,t,rfl,rfl,rfl,rfl⟩,hk⟩
def TBM:Tab:=(72,.read bsM_s)::TCM
theorem TBM_ok:TabOk Try.prog gl TBM:= .cons bsM_ok TCM_ok
theorem atAM_vc (l:List RwM) (J:List PV) (cap:Nat) (most:Int) (t:Int):(by refine(?_:_→_→Prop) [Ob.cells [.arr 1 0 l.length cap,.int .i64 most],.cells (flM l++J)] [PV.arr 1 0 l.length cap,.int .u32 t,.fn 73 []]; exact fun a b=>∀(K:PV→Heap→Prop),((∃(l_1:List RwM) (J_1:List PV) (cap_1:Nat) (most_1:Int) (t_1:Int),SlIs b [.arr 1 0 l_1.length cap_1,.int .u32 t_1,.fn 73 []]∧HpIs a [.cells [.arr 1 0 l_1.length cap_1,.int .i64 most_1],.cells (flM l_1++J_1)]∧Ok l_1 most_1∧K (.tup [.int .i64 (↑(lbp l_1 t_1):Int),.bool (has l_1 t_1)]) a)∨∃(most_1:Int) (t_1:Int),SlIs b [.list [] .exact,.int .u32 t_1,.fn 73 []]∧HpIs a [.cells [.list [] .exact,.int .i64 most_1]]∧K (.tup [.int .i64 0,.bool false]) a)→ACalls Try.prog gl 56 [.ptr 0 0,.int .u32 t] a K:Prop):=fun K h=>acalls_of_wpc2 (T:=TBM) (L:=[]) (fun o=>match o.op with| .load t _=>(match t with|104=>1|_=>0)|_=>0) Try.func56 (by kernel_rfl) (by kernel_rfl) (by kernel_rfl) (TBM_ok) (LOk.nil _ _ _ _ _) (holds_of_eq (by kernel_rfl) h)
theorem atNM_vc (most t:Int):(by refine(?_:_→_→Prop) [Ob.cells [.list [] .exact,.int .i64 most]] [PV.list [] .exact,.int .u32 t,.fn 73 []]; exact fun a b=>∀(K:PV→Heap→Prop),((∃(l:List RwM) (J:List PV) (cap:Nat) (most_1:Int) (t_1:Int),SlIs b [.arr 1 0 l.length cap,.int .u32 t_1,.fn 73 []]∧HpIs a [.cells [.arr 1 0 l.length cap,.int .i64 most_1],.cells (flM l++J)]∧Ok l most_1∧K (.tup [.int .i64 (↑(lbp l t_1):Int),.bool (has l t_1)]) a)∨∃(most_1:Int) (t_1:Int),SlIs b [.list [] .exact,.int .u32 t_1,.fn 73 []]∧HpIs a [.cells [.list [] .exact,.int .i64 most_1]]∧K (.tup [.int .i64 0,.bool false]) a)→ACalls Try.prog gl 56 [.ptr 0 0,.int .u32 t] a K:Prop):=fun K h=>acalls_of_wpc2 (T:=TBM) (L:=[]) (fun o=>match o.op with| .load t _=>(match t with|104=>1|_=>0)|_=>0) Try.func56 (by kernel_rfl) (by kernel_rfl) (by kernel_rfl) (TBM_ok) (LOk.nil _ _ _ _ _) (holds_of_eq (by kernel_rfl) h)
def atM_s (args:List PV) (H:Heap) (K:PV→Prop):Prop:=
 ∃(l:List RwM) (most t:Int),SlIs args [.ptr 0 0,.int .u32 t]∧EXM l most H∧Ok l most∧K (.tup [.int .i64 (lbp l t),.bool (has l t)])
theorem atM_ok:SpOk Try.prog gl 56 (.read atM_s):=by
 rintro args H K ⟨l,most,t,he,hH,ok,hk⟩
 have he:args=_:=he
 subst he
 rcases hH with⟨J,cap,rfl,_,_⟩|⟨rfl,rfl⟩
 ·exact⟨_,atAM_vc l J cap most t _ (.inl ⟨l,J,cap,most,t,rfl,rfl,ok,rfl,rfl⟩),hk⟩
 ·exact⟨_,atNM_vc most t _ (.inr ⟨most,t,rfl,rfl,rfl,rfl⟩),hk⟩
def TAM:Tab:=(56,.read atM_s)::TBM
theorem TAM_ok:TabOk Try.prog gl TAM:= .cons atM_ok TBM_ok
theorem EXM_A {l:List RwM} {J:List PV} {cap:Nat} {most:Int} (h:l.length≤cap) (hJ:Room J ((cap-l.length)*6)):EXM l most [.cells [.arr 1 0 l.length cap,.int .i64 most],.cells (flM l++J)]:= .inl ⟨J,cap,rfl,h,hJ⟩
theorem EXM_N {most:Int}:EXM [] most [.cells [.list [] .exact,.int .i64 most]]:= .inr ⟨rfl,rfl⟩
def EXTM (l:List RwM) (most:Int) (H:Heap):Prop:=∃ X G:Heap,H=X++G∧EXM l most X
theorem hpAM_lid {l:List RwM} {J:List PV} {cap:Nat} {most:Int} {n:Nat} (hn:2≤n) (h:∀ y∈J,Low 0 y):LidH n (hpAM l J cap most):=
 lidH_two (fun y hy=>by simp only[List.mem_cons,List.not_mem_nil,or_false] at hy; rcases hy with rfl|rfl; exact .arr _ _ _ _ (by omega); exact .low (.int _ _)) (fun y hy=> .low (flM_low l h y hy))
theorem hpNM_lid {most:Int} {n:Nat}:LidH n (hpNM most):=
 lidH_one (fun y hy=>by simp only[List.mem_cons,List.not_mem_nil,or_false] at hy; rcases hy with rfl|rfl; exact .low (low_list NT.exact (fun _ h=>nomatch h)); exact .low (.int _ _))
def atTM_s (args:List PV) (H:Heap) (K:PV→Prop):Prop:=
 ∃(l:List RwM) (most t:Int),SlIs args [.ptr 0 0,.int .u32 t]∧EXTM l most H∧Ok l most∧K (.tup [.int .i64 (lbp l t),.bool (has l t)])
theorem atTM_ok:SpOk Try.prog gl 56 (.read atTM_s):=by
 rintro args H K ⟨l,most,t,he,⟨X,G,rfl,hX⟩,ok,hk⟩
 have he:args=_:=he
 subst he
 obtain⟨r,h1,rfl⟩:=atM_ok _ X (fun x=>x = .tup [.int .i64 (lbp l t),.bool (has l t)]) ⟨l,most,t,rfl,hX,ok,rfl⟩
 have hlow:Low 0 (.tup [.int .i64 (lbp l t),.bool (has l t)]):= .tup _ (by intro y hy; simp only[List.mem_cons,List.not_mem_nil,or_false] at hy; rcases hy with rfl|rfl; exact .int _ _; exact .bool _)
 refine⟨_,?_,hk⟩
 rcases hX with⟨J,cap,rfl,hc,hJ⟩|⟨rfl,rfl⟩
 ·exact read_tail gl_low (by intro y hy; simp only[List.mem_cons,List.not_mem_nil,or_false] at hy; rcases hy with rfl|rfl; exact .ptr _ _ (by simp[hpAM]); exact .low (.int _ _)) (hpAM_lid (by simp[hpAM]) hJ.low) hlow h1
 ·exact read_tail gl_low (by intro y hy; simp only[List.mem_cons,List.not_mem_nil,or_false] at hy; rcases hy with rfl|rfl; exact .ptr _ _ (by simp[hpNM]); exact .low (.int _ _)) hpNM_lid hlow h1
def TATM:Tab:=(56,.read atTM_s)::TAM
theorem TATM_ok:TabOk Try.prog gl TATM:= .cons atTM_ok TAM_ok
theorem getAM_vc (l:List RwM) (J:List PV) (cap:Nat) (most:Int) (t:Int):(by refine(?_:_→_→_→_→Prop) [PV.arr 1 0 l.length cap,.int .i64 most] [PV.int .u32 0,.int .i64 0,.int .u32 0,.list [] .exact,.list [] .exact] (Ob.cells (flM l++J)) [PV.ptr 0 0,.int .u32 t]; exact fun f g h i=>by refine(?_:_→Prop) [Ob.cells f,h,.cells g]; exact fun e=>∀(K:PV→Heap→Prop),(∃(l_1:List RwM) (most_1:Int) (t_1:Int),by refine(?_:_→_→Prop) (↑(lbp l_1 t_1):Int) (PV.bool (has l_1 t_1)); exact fun c d=>by refine(?_:_→Prop) (List.drop (0+Int.toNat c*6+1) (flM l++J)); exact fun a=>by refine(?_:_→Prop) [PV.int .u32 (cI a 0),.int .i64 (cI a 1),.int .u32 (cI a 2),.list (cL a 3) (cT a 3),.list (cL a 4) (cT a 4)]; exact fun b=>SlIs i [.ptr 0 0,.int .u32 t_1]∧EXTM l_1 most_1 e∧Ok l_1 most_1∧br (has l_1 t_1) ((0≤c∧c<(l.length:Int))∧br (true && fitX [.int .u32,.int .i64,.int .u32,.list,.list] 0 a) (K (.tup [.agg b,d]) [.cells f,h,.cells b]) False) (K (.tup [.agg g,d]) e))→ACalls Try.prog gl 37 i [.cells f,h] K:Prop):=fun K h=>acalls_of_wpc2 (T:=TATM) (L:=[]) (fun o=>match o.op with| .load t _=>(match t with|104=>1|_=>0)|_=>0) Try.func37 (by kernel_rfl) (by kernel_rfl) (by kernel_rfl) (TATM_ok) (LOk.nil _ _ _ _ _) (holds_of_eq (by kernel_rfl) h)
theorem getNM_vc (most t:Int):(by refine(?_:_→_→_→Prop) [PV.int .u32 0,.int .i64 0,.int .u32 0,.list [] .exact,.list [] .exact] (Ob.cells [.list [] .exact,.int .i64 most]) [PV.ptr 0 0,.int .u32 t]; exact fun a b c=>∀(K:PV→Heap→Prop),(∃(l:List RwM) (most_1:Int) (t_1:Int),SlIs c [.ptr 0 0,.int .u32 t_1]∧EXTM l most_1 [b,.cells a]∧Ok l most_1∧br (has l t_1) (InL [] 6 (↑(lbp l t_1):Int)∧False) (K (.tup [.agg a,.bool (has l t_1)]) [b,.cells a]))→ACalls Try.prog gl 37 c [b] K:Prop):=fun K h=>acalls_of_wpc2 (T:=TATM) (L:=[]) (fun o=>match o.op with| .load t _=>(match t with|104=>1|_=>0)|_=>0) Try.func37 (by kernel_rfl) (by kernel_rfl) (by kernel_rfl) (TATM_ok) (LOk.nil _ _ _ _ _) (holds_of_eq (by kernel_rfl) h)
def geEM_s (args:List PV) (H:Heap) (K:PV→Prop):Prop:=
 ∃(l:List RwM) (most t:Int),SlIs args [.ptr 0 0,.int .u32 t]∧EXM l most H∧Ok l most∧K (.tup [(let v:=getR l t; Mt.pv v),.bool (has l t)])
theorem geEM_ok:SpOk Try.prog gl 37 (.read geEM_s):=by
 rintro args H K ⟨l,most,t,he,hH,ok,hk⟩
 have he:args=_:=he
 subst he
 refine⟨_,ACalls.same (low_tupvM _ _).up (acalls_weak ?_),hk⟩
 rcases hH with⟨J,cap,rfl,hc,hJ⟩|⟨rfl,rfl⟩
 ·refine getAM_vc l J cap most t _ ⟨l,most,t,rfl,⟨_,[_],rfl,EXM_A hc hJ⟩,ok,?_⟩
  simp only[br_if]
  unfold getR
  cases c:has l t with
  | true=>
   obtain⟨c1,c2⟩:=has_lt c
   rw[if_pos rfl,if_pos rfl]
   simp only[toNat_nat,Nat.zero_add]
   rw[← List.drop_drop,flM_at J c1]
   exact⟨⟨by omega,by omega⟩,by first|exact⟨_,.tup (.cons (.agg (.cons (.refl _) (.cons (.refl _) (.cons (.refl _) (.cons (.list _ _) (.cons (.list _ _) .nil)))))) (.cons (.refl _) .nil)),rfl,[_],rfl⟩|(rw[if_pos (by rfl)]; exact⟨_,.tup (.cons (.agg (.cons (.refl _) (.cons (.refl _) (.cons (.refl _) (.cons (.list _ _) (.cons (.list _ _) .nil)))))) (.cons (.refl _) .nil)),rfl,[_],rfl⟩)⟩
  | false=>rw[if_neg (by decide),if_neg (by decide)]; exact⟨_,.tup (.cons (.agg (.cons (.refl _) (.cons (.refl _) (.cons (.refl _) (.cons (.list _ _) (.cons (.list _ _) .nil)))))) (.cons (.refl _) .nil)),rfl,[_],rfl⟩
 ·refine getNM_vc most t _ ⟨[],most,t,rfl,⟨_,[_],rfl,EXM_N⟩,ok,?_⟩
  exact⟨_,.tup (.cons (.agg (.cons (.refl _) (.cons (.refl _) (.cons (.refl _) (.cons (.list _ _) (.cons (.list _ _) .nil)))))) (.cons (.refl _) .nil)),rfl,[_],rfl⟩
def TGM:Tab:=(37,.read geEM_s)::TAM
theorem TGM_ok:TabOk Try.prog gl TGM:= .cons geEM_ok TAM_ok
def geTM_s (args:List PV) (H:Heap) (K:PV→Prop):Prop:=
 ∃(l:List RwM) (most t:Int),SlIs args [.ptr 0 0,.int .u32 t]∧EXTM l most H∧Ok l most∧K (.tup [(let v:=getR l t; Mt.pv v),.bool (has l t)])
theorem geTM_ok:SpOk Try.prog gl 37 (.read geTM_s):=by
 rintro args H K ⟨l,most,t,he,⟨X,G,rfl,hX⟩,ok,hk⟩
 have he:args=_:=he
 subst he
 obtain⟨r,h1,rfl⟩:=geEM_ok _ X (fun x=>x = .tup [(let v:=getR l t; Mt.pv v),.bool (has l t)]) ⟨l,most,t,rfl,hX,ok,rfl⟩
 refine⟨_,?_,hk⟩
 rcases hX with⟨J,cap,rfl,hc,hJ⟩|⟨rfl,rfl⟩
 ·exact read_tail gl_low (by intro y hy; simp only[List.mem_cons,List.not_mem_nil,or_false] at hy; rcases hy with rfl|rfl; exact .ptr _ _ (by simp[hpAM]); exact .low (.int _ _)) (hpAM_lid (by simp[hpAM]) hJ.low) (low_tupvM _ _) h1
 ·exact read_tail gl_low (by intro y hy; simp only[List.mem_cons,List.not_mem_nil,or_false] at hy; rcases hy with rfl|rfl; exact .ptr _ _ (by simp[hpNM]); exact .low (.int _ _)) hpNM_lid (low_tupvM _ _) h1
theorem ovlM_ok:SpOk Try.prog gl 78 (.ext overlaps_s):=
 overlaps_ok (t:=104) (e:=109) (b:=true) (sz:=6) Try.func78 (by kernel_rfl) (by kernel_rfl) (by kernel_rfl) (by kernel_rfl) (by kernel_rfl) (by kernel_rfl) (by kernel_rfl)
def TIM:Tab:=(78,.ext overlaps_s)::TGM
theorem TIM_ok:TabOk Try.prog gl TIM:= .cons ovlM_ok TGM_ok
theorem insAM_vc (l:List RwM) (J:List PV) (cap:Nat) (most:Int) (r:RwM) (p:Nat):(by refine(?_:_→_→_→_→_→_→_→_→_→Prop) ((p:Int)+(1:Int)) ((l.length:Int)+(1:Int)) (Int.toNat (l.length:Int)-Int.toNat (p:Int)) [PV.int .u32 r.id,.int .u32 r.v.id,.int .i64 r.v.md,.int .u32 r.v.ins,.list (r.v.rows.map rrc) .no,.list (r.v.seats.map stc) .no] [PV.int .u32 0,.int .u32 0,.int .i64 0,.int .u32 0,.list [] .exact,.list [] .exact] (Int.toNat (cap:Int)-0) (Ob.cells (flM l++J)) (Int.toNat (p:Int)-0) (PV.arr 1 0 l.length cap); exact fun i m q s t u z B D=>by refine(?_:_→_→_→_→_→_→Prop) s (↑u:Int) (List.take (q*6) (List.drop (if Int.toNat (cap:Int)=Int.toNat (p:Int) then 0 else 0+Int.toNat (p:Int)*6) (flM l++J))) (Ob.cells [D,.int .i64 most]) (wI m-(p:Int)) (Int.toNat (wI m)-0); exact fun g h j n w C=>by refine(?_:_→_→Prop) (↑C:Int) (Int.toNat (p:Int)-0+Int.toNat (wI w)); exact fun d f=>by refine(?_:_→_→_→_→Prop) (Int.toNat d-Int.toNat (p:Int)) (Int.toNat (↑f:Int)-Int.toNat (p:Int)) (Int.toNat (↑f:Int)-Int.toNat (wI i)) (Int.toNat d-Int.toNat (wI i)); exact fun o x y A=>by refine(?_:_→Prop) (List.take (o*6) (List.drop (if Int.toNat h=Int.toNat (p:Int) then if Int.toNat (cap:Int)=0 then 0 else 0 else(if Int.toNat (cap:Int)=0 then 0 else 0)+Int.toNat (p:Int)*6) (flM l++J))); exact fun e=>by refine(?_:_→Prop) (over (flM l++J) (if Int.toNat h=Int.toNat (wI i) then if Int.toNat (cap:Int)=0 then 0 else 0 else(if Int.toNat (cap:Int)=0 then 0 else 0)+Int.toNat (wI i)*6) (List.take (min o A*6) e)); exact fun k=>∀(K:PV→Heap→Prop),((0≤(p:Int)∧(p:Int)≤(l.length:Int)∧(l.length:Int)≤(cap:Int)∧(cap:Int)≤(cap:Int))∧br ((p:Int) == (l.length:Int)) ((l.length≤cap∧0+cap*6≤List.length (flM l++J)∧6=6∧List.all g PV.one=true∧(l.length+1)*80≤140737488355328)∧(l.length+1≤cap→K (.arr 1 0 (l.length+1) cap) [n,.cells (over (flM l++J) (0+l.length*6) g)])∧(cap<l.length+1→∀(c:Nat),l.length+1≤c→K (.arr 2 0 (l.length+1) c) [n,z,.cells (List.take (l.length*6) (List.drop 0 (flM l++J))++g++List.flatten (List.replicate (c-(l.length+1)) t))])) (br (decide (wI m>(cap:Int))) ((iI 0≤0∧0≤(p:Int)∧(p:Int)≤(cap:Int)∧(cap:Int)≤(cap:Int))∧(Int.toNat (p:Int)-0≤Int.toNat (cap:Int)-0∧(if Int.toNat (cap:Int)=0 then 0 else 0)+u*6≤List.length (flM l++J)∧0≤wI w∧Int.toNat (cap:Int)-0<Int.toNat (p:Int)-0+Int.toNat (wI w)∧f*80≤140737488355328)∧∀(c:Nat),by refine(?_:_→Prop) (List.take (B*6) (List.drop (if Int.toNat (cap:Int)=0 then 0 else 0) (flM l++J))++List.flatten (List.replicate (c-B) t)); exact fun b=>by refine(?_:_→Prop) (over b (if Int.toNat (c:Int)=Int.toNat (p:Int) then 0 else 0+Int.toNat (p:Int)*6) (List.take (min 1 x*6) g)); exact fun a=>Int.toNat (p:Int)-0+Int.toNat (wI w)≤c→(0≤(p:Int)∧(p:Int)≤(↑f:Int)∧(↑f:Int)≤(c:Int)∧(c:Int)≤(c:Int))∧((if Int.toNat (c:Int)=Int.toNat (p:Int) then 0 else 0+Int.toNat (p:Int)*6)+x*6≤List.length b∧6=6∧List.all g PV.one=true)∧(0≤wI i∧wI i≤(↑f:Int)∧(↑f:Int)≤(c:Int)∧(c:Int)≤(c:Int))∧(0≤(p:Int)∧(p:Int)≤(l.length:Int)∧(l.length:Int)≤(cap:Int)∧(cap:Int)≤(cap:Int))∧(if Int.toNat (cap:Int)=Int.toNat (p:Int) then 0 else 0+Int.toNat (p:Int)*6)+q*6≤List.length (flM l++J)∧((if Int.toNat (c:Int)=Int.toNat (wI i) then 0 else 0+Int.toNat (wI i)*6)+y*6≤List.length a∧List.length j=q*6∧List.all j PV.one=true)∧K (.arr 2 0 f c) [n,z,.cells (over a (if Int.toNat (c:Int)=Int.toNat (wI i) then 0 else 0+Int.toNat (wI i)*6) (List.take (min q y*6) j))]) ((iI 0≤0∧0≤wI m∧wI m≤(cap:Int)∧(cap:Int)≤(cap:Int))∧(0≤wI i∧wI i≤d∧d≤h∧h≤h)∧s≠[]∧(flM l++J=[]→False)∧(0≤wI i∧wI i≤d∧d≤h∧h≤h)∧(0≤(p:Int)∧(p:Int)≤d∧d≤h∧h≤h)∧(if Int.toNat h=Int.toNat (p:Int) then if Int.toNat (cap:Int)=0 then 0 else 0 else(if Int.toNat (cap:Int)=0 then 0 else 0)+Int.toNat (p:Int)*6)+o*6≤List.length (flM l++J)∧((if Int.toNat h=Int.toNat (wI i) then if Int.toNat (cap:Int)=0 then 0 else 0 else(if Int.toNat (cap:Int)=0 then 0 else 0)+Int.toNat (wI i)*6)+A*6≤List.length (flM l++J)∧List.length e=o*6∧List.all e PV.one=true)∧(0≤(p:Int)∧(p:Int)≤d∧d≤h∧h≤h)∧((if Int.toNat h=Int.toNat (p:Int) then if Int.toNat (cap:Int)=0 then 0 else 0 else(if Int.toNat (cap:Int)=0 then 0 else 0)+Int.toNat (p:Int)*6)+o*6≤List.length k∧6=6∧List.all g PV.one=true)∧K (.arr 1 (if Int.toNat (cap:Int)=0 then 0 else 0) C u) [n,.cells (over k (if Int.toNat h=Int.toNat (p:Int) then if Int.toNat (cap:Int)=0 then 0 else 0 else(if Int.toNat (cap:Int)=0 then 0 else 0)+Int.toNat (p:Int)*6) (List.take (min 1 o*6) g))])))→ACalls Try.prog gl 70 [D,.int .i64 p,.list [csM r] .exact] [n,z] K:Prop):=fun K h=>acalls_of_wpc2 (T:=TIM) (L:=[]) (fun o=>match o.op with| .load t _=>(match t with|104=>1|_=>0)|_=>match o.dst with|some 25=>2|_=>0) Try.func70 (by kernel_rfl) (by kernel_rfl) (by kernel_rfl) (TIM_ok) (LOk.nil _ _ _ _ _) (holds_of_eq (by kernel_rfl) h)
theorem insNM_vc (most:Int) (r:RwM):∀(K:PV→Heap→Prop),((iI 0≤0∧iI 0≤0∧iI 0≤0∧iI 0≤0∧uni 6 [])∧6=6∧80≤140737488355328∧0<1∧∀(c:Nat),1≤c→K (.arr 1 0 1 c) [.cells [.list [] .exact,.int .i64 most],.cells ([.int .u32 r.id,.int .u32 r.v.id,.int .i64 r.v.md,.int .u32 r.v.ins,.list (r.v.rows.map rrc) .no,.list (r.v.seats.map stc) .no]++List.flatten (List.replicate (c-1) [.int .u32 0,.int .u32 0,.int .i64 0,.int .u32 0,.list [] .exact,.list [] .exact]))])→ACalls Try.prog gl 70 [.list [] .exact,.int .i64 0,.list [csM r] .exact] [.cells [.list [] .exact,.int .i64 most]] K:=fun K h=>acalls_of_wpc2 (T:=TIM) (L:=[]) (fun o=>match o.op with| .load t _=>(match t with|104=>1|_=>0)|_=>match o.dst with|some 25=>2|_=>0) Try.func70 (by kernel_rfl) (by kernel_rfl) (by kernel_rfl) (TIM_ok) (LOk.nil _ _ _ _ _) (holds_of_eq (by kernel_rfl) h)
def insM_s (args:List PV) (H:Heap) (K:PV→Heap→Prop):Prop:=
 (∃(l:List RwM) (J:List PV) (cap:Nat) (most:Int) (r:RwM) (p:Nat),SlIs args [.arr 1 0 l.length cap,.int .i64 p,.list [csM r] .exact]∧HpIs H (hpAM l J cap most)∧p≤l.length∧l.length≤1000000∧l.length≤cap∧Room J ((cap-l.length)*6)∧
  (∀(J':List PV),l.length+1≤cap→Room J' ((cap-(l.length+1))*6)→K (.arr 1 0 (l.length+1) cap) [.cells [.arr 1 0 l.length cap,.int .i64 most],.cells (flM (insAt l p r)++J')])∧
  (∀(c:Nat),l.length+1≤c→∀(J':List PV),Room J' ((c-(l.length+1))*6)→K (.arr 2 0 (l.length+1) c) [.cells [.arr 1 0 l.length cap,.int .i64 most],.cells (flM l++J),.cells (flM (insAt l p r)++J')]))∨
 (∃(most:Int) (r:RwM),SlIs args [.list [] .exact,.int .i64 0,.list [csM r] .exact]∧HpIs H (hpNM most)∧
  ∀(c:Nat),1≤c→∀(J':List PV),Room J' ((c-1)*6)→K (.arr 1 0 1 c) [.cells [.list [] .exact,.int .i64 most],.cells (csM r++J')])
def zrM:List PV:=[.int .u32 0,.int .u32 0,.int .i64 0,.int .u32 0,.list [] .exact,.list [] .exact]
theorem zrM_room (n:Nat):Room (List.replicate n zrM).flatten (n*6):=
 Room.zeros (z:=zrM) (by intro y hy; simp only[zrM,List.mem_cons,List.not_mem_nil,or_false] at hy; rcases hy with rfl|rfl|rfl|rfl|rfl|rfl<;>rfl) (by intro y hy; simp only[zrM,List.mem_cons,List.not_mem_nil,or_false] at hy; rcases hy with rfl|rfl|rfl|rfl|rfl|rfl<;>first|exact .int _ _|exact .str _|exact low_list NT.exact (fun _ h=>nomatch h)) n
theorem insM_ok:SpOk Try.prog gl 70 (.heap insM_s):=by
 rintro args H K (⟨l,J,cap,most,r,p,he,hH,hp,hl,hc,hJ,hk1,hk2⟩|⟨most,r,he,hH,hk⟩)
 ·have he:args=_:=he
  have hH:H=_:=hH
  subst he
  subst hH
  have hlen:(flM l++J).length=cap*6:=by rw[List.length_append,flM_len,hJ.len,← Nat.add_mul]; congr 1; omega
  have hone:(flM l++J).all PV.one=true:=List.all_eq_true.2 (flM_one l hJ.one)
  refine insAM_vc l J cap most r p K ?_
  refine⟨⟨by omega,by omega,by omega,by omega⟩,?_⟩
  rw[br_if]
  by_cases c1:p=l.length
  ·rw[if_pos (by simp[c1])]
   subst c1
   refine⟨⟨hc,by rw[hlen]; omega,rfl,rfl,by omega⟩,fun h=>?_,fun h c hcc=>?_⟩
   ·have:=hk1 (J.drop 6) h (hJ.drop.cast (by omega))
    rw[← ins_end csM_len r (by rw[hJ.len]; omega)] at this
    rw[Nat.zero_add]
    exact this
   ·have:=hk2 c hcc _ (zrM_room (c-(l.length+1)))
    rw[insAt_end] at this
    rw[List.drop_zero,rows_take csM_len J l l.length (Nat.le_refl _),List.take_length]
    simp only[flM,List.map_append,List.flatten_append,List.map_cons,List.map_nil,List.flatten_cons,List.flatten_nil,List.append_nil] at this
    exact this
  ·rw[if_neg (by simp; omega),br_if]
   have e1:wI ((l.length:Int)+1)=((l.length+1:Nat):Int):=by rw[w_small (by omega) (by omega)]; rfl
   have e2:wI (((l.length+1:Nat):Int)-(p:Int))=((l.length+1-p:Nat):Int):=by rw[w_small (by omega) (by omega)]; omega
   have e3:wI ((p:Int)+1)=((p+1:Nat):Int):=by rw[w_small (by omega) (by omega)]; rfl
   have e4:p+(l.length+1-p)=l.length+1:=by omega
   simp only[e1,e2,e3,e4,toNat_nat,Nat.sub_zero,Nat.zero_add,List.drop_zero,ite_self]
   have t1:List.take (p*6) (flM l++J)=flM (l.take p):=rows_take csM_len J l p hp
   have t2:List.take ((l.length-p)*6) (List.drop (p*6) (flM l++J))=flM (l.drop p):=by
    rw[rows_drop csM_len J l p hp,List.take_left']
    rw[flM_len,List.length_drop]
   have t3:min 1 (l.length+1-p)=1:=by omega
   have t5:(flM (l.drop p)).length=(l.length-p)*6:=by rw[flM_len,List.length_drop]
   have t6:(flM (l.drop p)).all PV.one=true:=by
    have:=flM_one (l.drop p) (J:=[]) (fun _ h=>nomatch h)
    rw[List.append_nil] at this
    exact List.all_eq_true.2 this
   have t7:(flM (l.take p)).length=p*6:=by rw[flM_len,List.length_take,Nat.min_eq_left hp]
   by_cases c2:cap<l.length+1
   ·rw[if_pos (decide_eq_true (by omega))]
    have n3:¬ cap=p:=by omega
    refine⟨⟨by decide,by omega,by omega,by omega⟩,⟨by omega,by omega,by omega,by omega,by omega⟩,fun c hcc=>?_⟩
    have t4:min (l.length-p) (l.length+1-(p+1))=l.length-p:=by omega
    have n1:¬ c=p:=by omega
    have n2:¬ c=p+1:=by omega
    have hZ:=zrM_room (c-p)
    have t9:(flM (l.take p)++(List.replicate (c-p) zrM).flatten).length=c*6:=by rw[List.length_append,t7,hZ.len,← Nat.add_mul]; congr 1; omega
    simp only[if_neg n1,if_neg n2,if_neg n3,t1,t2,t3,t4,t5,t6]
    refine⟨⟨by omega,by omega,by omega,by omega⟩,⟨Nat.le_trans (show _≤c*6 by omega) (Nat.le_of_eq t9.symm),trivial,rfl⟩,⟨by omega,by omega,by omega,by omega⟩,⟨by omega,by omega,by omega,by omega⟩,by omega,⟨?_,trivial,trivial⟩,?_⟩
    ·have t10:(over (flM (l.take p)++(List.replicate (c-p) zrM).flatten) (p*6) (csM r)).length=c*6:=by rw[over_length (by rw[t9,csM_len]; omega),t9]
     exact Nat.le_trans (show _≤c*6 by omega) (Nat.le_of_eq t10.symm)
    ·have:=hk2 c (by omega) _ ((hZ.drop (k:=(l.length+1-p)*6)).cast (by omega))
     rw[← ins_grow csM_len r hp (by rw[hZ.len]; omega)] at this
     rw[List.take_of_length_le (Nat.le_of_eq t5)]
     exact this
   ·rw[if_neg (by simp; omega)]
    have n3:¬ cap=p:=by omega
    have n4:¬ cap=p+1:=by omega
    have t9:min (l.length+1-p) (l.length+1-(p+1))=l.length-p:=by omega
    have t10:List.take ((l.length-p)*6) (List.take ((l.length+1-p)*6) (List.drop (p*6) (flM l++J)))=List.take ((l.length-p)*6) (List.drop (p*6) (flM l++J)):=by rw[List.take_take,Nat.min_eq_left (by omega)]
    simp only[if_neg n3,if_neg n4,t3,t9,t10]
    have t11:(List.take ((l.length+1-p)*6) (List.drop (p*6) (flM l++J))).length=(l.length+1-p)*6:=by rw[List.length_take,List.length_drop,hlen]; omega
    have t12:(List.take ((l.length+1-p)*6) (List.drop (p*6) (flM l++J))).all PV.one=true:=List.all_eq_true.2 fun y hy=>List.all_eq_true.1 hone y (List.mem_of_mem_drop (List.mem_of_mem_take hy))
    have t13:(over (flM l++J) ((p+1)*6) (List.take ((l.length-p)*6) (List.drop (p*6) (flM l++J)))).length=cap*6:=by rw[over_length (by rw[t2,t5,hlen]; omega),hlen]
    refine⟨⟨by decide,by omega,by omega,by omega⟩,⟨by omega,by omega,by omega,by omega⟩,List.cons_ne_nil _ _,fun h=>?_,⟨by omega,by omega,by omega,by omega⟩,⟨by omega,by omega,by omega,by omega⟩,by omega,⟨by omega,t11,t12⟩,⟨by omega,by omega,by omega,by omega⟩,⟨by omega,trivial,rfl⟩,?_⟩
    ·rw[h] at hlen; simp only[List.length_nil] at hlen; omega
    ·have:=hk1 (J.drop 6) (by omega) (hJ.drop.cast (by omega))
     rw[← ins_mid csM_len r (by omega) (by rw[hJ.len]; omega)] at this
     exact this
 ·have he:args=_:=he
  have hH:H=_:=hH
  subst he
  subst hH
  exact insNM_vc most r K ⟨⟨by decide,by decide,by decide,by decide,fun _ h=>nomatch h⟩,rfl,by decide,by decide,fun c hc=>hk c hc _ (zrM_room (c-1))⟩
theorem delM_vc (l:List RwM) (J:List PV) (cap:Nat) (most:Int) (p:Nat):(by refine(?_:_→_→_→Prop) (Int.toNat (l.length:Int)-Int.toNat (↑(p+1):Int)) (Int.toNat (cap:Int)-0) (PV.arr 1 0 l.length cap); exact fun a d j=>by refine(?_:_→_→_→Prop) (List.take (a*6) (List.drop (if Int.toNat (cap:Int)=Int.toNat (↑(p+1):Int) then 0 else 0+Int.toNat (↑(p+1):Int)*6) (flM l++J))) (Ob.cells [j,.int .i64 most]) (Int.toNat (p:Int)-0+a); exact fun b f g=>by refine(?_:_→_→_→Prop) (↑g:Int) (over (flM l++J) ((if Int.toNat (cap:Int)=0 then 0 else 0)+(Int.toNat (p:Int)-0)*6) b) [f,.cells (flM l++J)]; exact fun c e i=>by refine(?_:_→Prop) (Int.toNat (l.length:Int)-Int.toNat c); exact fun h=>∀(K:PV→Heap→Prop),((0≤(p:Int)∧(p:Int)≤(↑(p+1):Int)∧(↑(p+1):Int)≤(l.length:Int)∧(l.length:Int)≤(cap:Int))∧br ((p:Int) == (↑(p+1):Int)) (K (.arr 1 0 l.length cap) i) ((iI 0≤0∧0≤(p:Int)∧(p:Int)≤(cap:Int)∧(cap:Int)≤(cap:Int))∧(0≤(↑(p+1):Int)∧(↑(p+1):Int)≤(l.length:Int)∧(l.length:Int)≤(cap:Int)∧(cap:Int)≤(cap:Int))∧(if Int.toNat (cap:Int)=Int.toNat (↑(p+1):Int) then 0 else 0+Int.toNat (↑(p+1):Int)*6)+a*6≤List.length (flM l++J)∧(Int.toNat (p:Int)-0≤Int.toNat (cap:Int)-0∧(if Int.toNat (cap:Int)=0 then 0 else 0)+d*6≤List.length (flM l++J)∧List.length b=a*6∧List.all b PV.one=true∧g*80≤140737488355328)∧Int.toNat (p:Int)-0+a≤Int.toNat (cap:Int)-0∧(0≤c∧c≤(l.length:Int)∧(l.length:Int)≤(↑d:Int)∧(↑d:Int)≤(↑d:Int))∧(if Int.toNat (↑d:Int)=Int.toNat c then if Int.toNat (cap:Int)=0 then 0 else 0 else(if Int.toNat (cap:Int)=0 then 0 else 0)+Int.toNat c*6)+h*6≤List.length e∧K (.arr 1 (if Int.toNat (cap:Int)=0 then 0 else 0) g d) [f,.cells (over e (if Int.toNat (↑d:Int)=Int.toNat c then if Int.toNat (cap:Int)=0 then 0 else 0 else(if Int.toNat (cap:Int)=0 then 0 else 0)+Int.toNat c*6) (List.flatten (List.replicate h [.int .u32 0,.int .u32 0,.int .i64 0,.int .u32 0,.list [] .exact,.list [] .exact])))]))→ACalls Try.prog gl 71 [j,.int .i64 p,.int .i64 ((p+1:Nat):Int)] i K:Prop):=fun K h=>acalls_of_wpc2 (T:=[]) (L:=[]) (fun o=>match o.op with| .load t _=>(match t with|104=>1|_=>0)|_=>match o.dst with|some 26=>3|_=>0) Try.func71 (by kernel_rfl) (by kernel_rfl) (by kernel_rfl) (TabOk.nil _ _) (LOk.nil _ _ _ _ _) (holds_of_eq (by kernel_rfl) h)
def insTM_s (args:List PV) (H:Heap) (K:PV→Heap→Prop):Prop:=
 (∃(G:Heap) (l:List RwM) (J:List PV) (cap:Nat) (most:Int) (r:RwM) (p:Nat),SlIs args [.arr 1 0 l.length cap,.int .i64 p,.list [csM r] .exact]∧HpIs H (hpAM l J cap most++G)∧p≤l.length∧l.length≤1000000∧l.length≤cap∧Room J ((cap-l.length)*6)∧
  (∀(J':List PV),l.length+1≤cap→Room J' ((cap-(l.length+1))*6)→K (.arr 1 0 (l.length+1) cap) ([.cells [.arr 1 0 l.length cap,.int .i64 most],.cells (flM (insAt l p r)++J')]++G))∧
  (∀(c:Nat),l.length+1≤c→∀(J':List PV),Room J' ((c-(l.length+1))*6)→K (.arr (2+G.length) 0 (l.length+1) c) ([.cells [.arr 1 0 l.length cap,.int .i64 most],.cells (flM l++J)]++G++[.cells (flM (insAt l p r)++J')])))∨
 (∃(G:Heap) (most:Int) (r:RwM),SlIs args [.list [] .exact,.int .i64 0,.list [csM r] .exact]∧HpIs H (hpNM most++G)∧
  ∀(c:Nat),1≤c→∀(J':List PV),Room J' ((c-1)*6)→K (.arr (1+G.length) 0 1 c) ([.cells [.list [] .exact,.int .i64 most]]++G++[.cells (csM r++J')]))
theorem insTM_ok:SpOk Try.prog gl 70 (.heap insTM_s):=by
 rintro args H K (⟨G,l,J,cap,most,r,p,he,hH,hp,hl,hc,hJ,hk1,hk2⟩|⟨G,most,r,he,hH,hk⟩)
 ·have he:args=_:=he
  have hH:H=_:=hH
  subst he
  subst hH
  refine acalls_tail gl_low (by intro y hy; simp only[List.mem_cons,List.not_mem_nil,or_false] at hy; rcases hy with rfl|rfl|rfl; exact .arr _ _ _ _ (by simp[hpAM]); exact .low (.int _ _); exact .low (low_list NT.exact (by intro y hy; simp at hy; exact low_csM r y hy))) (hpAM_lid (by simp[hpAM]) hJ.low) ?_
  refine insM_ok _ _ _ (.inl ⟨l,J,cap,most,r,p,rfl,rfl,hp,hl,hc,hJ,fun J' h1 h2=>?_,fun c h1 J' h2=>?_⟩)
  ·exact⟨_,_,tail_same rfl (lidH_two (fun y hy=>by simp only[List.mem_cons,List.not_mem_nil,or_false] at hy; rcases hy with rfl|rfl; exact .arr _ _ _ _ (by simp[hpAM]); exact .low (.int _ _)) (fun y hy=> .low (flM_low _ h2.low y hy))),Lid.ren (.arr _ _ _ _ (by simp)) (fun o ho=>ρext_tail (by simpa[hpAM] using ho)),hk1 J' h1 h2⟩
  ·exact⟨_,_,tail_more (X':=[.cells [.arr 1 0 l.length cap,.int .i64 most],.cells (flM l++J)]) rfl (hpAM_lid (by simp[hpAM]) hJ.low) (flM_low _ h2.low),new_tail (X:=hpAM l J cap most) (X':=[.cells [.arr 1 0 l.length cap,.int .i64 most],.cells (flM l++J)]) rfl,hk2 c h1 J' h2⟩
 ·have he:args=_:=he
  have hH:H=_:=hH
  subst he
  subst hH
  refine acalls_tail gl_low (by intro y hy; simp only[List.mem_cons,List.not_mem_nil,or_false] at hy; rcases hy with rfl|rfl|rfl; exact .low (low_list NT.exact (fun _ h=>nomatch h)); exact .low (.int _ _); exact .low (low_list NT.exact (by intro y hy; simp at hy; exact low_csM r y hy))) hpNM_lid ?_
  refine insM_ok _ _ _ (.inr ⟨most,r,rfl,rfl,fun c hc J' h2=>?_⟩)
  exact⟨_,_,tail_more (X':=[.cells [.list [] .exact,.int .i64 most]]) rfl hpNM_lid (by intro y hy; rcases List.mem_append.1 hy with hy|hy; exact low_csM r y hy; exact h2.low y hy),new_tail (X:=hpNM most) (X':=[.cells [.list [] .exact,.int .i64 most]]) rfl,hk c hc J' h2⟩
def TPM:Tab:=(70,.heap insTM_s)::(56,.read atTM_s)::TGM
theorem TPM_ok:TabOk Try.prog gl TPM:= .cons insTM_ok (.cons atTM_ok TGM_ok)
theorem putAM_vc (l:List RwM) (J:List PV) (cap:Nat) (most:Int) (t:Int) (v:Mt):(by refine(?_:_→_→_→_→Prop) (PV.list (v.seats.map stc) .no) (PV.list (v.rows.map rrc) .no) (PV.arr 1 0 l.length cap) (Ob.cells (flM l++J)); exact fun o q s u=>by refine(?_:_→_→Prop) [PV.int .u32 v.id,.int .i64 v.md,.int .u32 v.ins,q,o] [s,.int .i64 most]; exact fun k n=>by refine(?_:_→Prop) [Ob.cells n,u,.cells k]; exact fun m=>∀(K:PV→Heap→Prop),(br (!rightS t) (K (.int .i64 14) m) (∃(l_1:List RwM) (most_1:Int) (t_1:Int),by refine(?_:_→Prop) (↑(lbp l_1 t_1):Int); exact fun i=>by refine(?_:_→_→Prop) [s,.int .i64 i,.list [[PV.int .u32 t,.int .u32 v.id,.int .i64 v.md,.int .u32 v.ins,q,o]] .exact] (0+Int.toNat i*6+1); exact fun h j=>SlIs [.ptr 0 0,.int .u32 t] [.ptr 0 0,.int .u32 t_1]∧EXTM l_1 most_1 m∧Ok l_1 most_1∧br (has l_1 t_1) ((0≤i∧i<(l.length:Int))∧br (5 == 5 && List.all k PV.one && decide (0+Int.toNat i*6+1+5≤List.length (flM l++J)) && hintOk 0 1 j 5) (K (.int .i64 0) [.cells n,.cells (over (flM l++J) j k),.cells k]) False) (br (decide ((l.length:Int)≥most)) (K (.int .i64 10) m) ((∃(G:Heap) (l_2:List RwM) (J_1:List PV) (cap_1:Nat) (most_2:Int) (r:RwM) (p:Nat),by refine(?_:_→Prop) (PV.arr 1 0 l_2.length cap_1); exact fun d=>by refine(?_:_→Prop) (Ob.cells [d,.int .i64 most_2]); exact fun a=>by refine(?_:_→Prop) [a,.cells (flM l_2++J_1)]; exact fun b=>SlIs h [d,.int .i64 p,.list [[PV.int .u32 r.id,.int .u32 r.v.id,.int .i64 r.v.md,.int .u32 r.v.ins,.list (r.v.rows.map rrc) .no,.list (r.v.seats.map stc) .no]] .exact]∧HpIs m (b++G)∧p≤l_2.length∧l_2.length≤1000000∧l_2.length≤cap_1∧Room J_1 ((cap_1-l_2.length)*6)∧(∀(J':List PV),l_2.length+1≤cap_1→Room J' ((cap_1-(l_2.length+1))*6)→K (.int .i64 0) (List.set ([a,.cells (flM (insAt l_2 p r)++J')]++G) 0 (.cells [.arr 1 0 (l_2.length+1) cap_1,.int .i64 most_2])))∧∀(c:Nat),l_2.length+1≤c→∀(J':List PV),Room J' ((c-(l_2.length+1))*6)→K (.int .i64 0) (List.set (b++G++[.cells (flM (insAt l_2 p r)++J')]) 0 (.cells [.arr (2+G.length) 0 (l_2.length+1) c,.int .i64 most_2])))∨∃(G:Heap) (most_2:Int) (r:RwM),by refine(?_:_→_→_→Prop) [Ob.cells [.list [] .exact,.int .i64 most_2]] (PV.list (r.v.seats.map stc) .no) (PV.list (r.v.rows.map rrc) .no); exact fun e f g=>SlIs h [.list [] .exact,.int .i64 0,.list [[PV.int .u32 r.id,.int .u32 r.v.id,.int .i64 r.v.md,.int .u32 r.v.ins,g,f]] .exact]∧HpIs m (e++G)∧∀(c:Nat),1≤c→∀(J':List PV),Room J' ((c-1)*6)→K (.int .i64 0) (List.set (e++G++[.cells ([.int .u32 r.id,.int .u32 r.v.id,.int .i64 r.v.md,.int .u32 r.v.ins,g,f]++J')]) 0 (.cells [.arr (1+G.length) 0 1 c,.int .i64 most_2]))))))→ACalls Try.prog gl 53 [.ptr 0 0,.int .u32 t,Mt.pv v] [.cells n,u] K:Prop):=fun K h=>acalls_of_wpc2 (T:=TPM) (L:=[([1,1,1,1,0,0,1,1,1,1],oneL br Try.prog gl TPM (fun o=>match o.op with| .load t _=>(match t with|104=>1|_=>0)|_=>0) (atOf [1,1,1,1,0,0,1,1,1,1] (bodyOf Try.f53)) 10 [0,1,2,3,4,5,6,7,8,9,11,12] [13])]) (fun o=>match o.op with| .load t _=>(match t with|104=>1|_=>0)|_=>0) Try.func53 (by kernel_rfl) (by kernel_rfl) (by kernel_rfl) (TPM_ok) (.cons (show sub [1,1,1,1,0,0,1,1,1,1] (bodyOf Try.f53)=some (atOf [1,1,1,1,0,0,1,1,1,1] (bodyOf Try.f53)) from by kernel_rfl) (oneL_ok TPM_ok (by kernel_rfl) (by kernel_rfl)) (.nil _ _ _ _ _)) (holds_of_eq (by kernel_rfl) h)
theorem putNM_vc (most t:Int) (v:Mt):(by refine(?_:_→_→_→Prop) [PV.list [] .exact,.int .i64 most] (PV.list (v.seats.map stc) .no) (PV.list (v.rows.map rrc) .no); exact fun k m n=>by refine(?_:_→Prop) [Ob.cells k,.cells [.int .u32 v.id,.int .i64 v.md,.int .u32 v.ins,n,m]]; exact fun j=>∀(K:PV→Heap→Prop),(br (!rightS t) (K (.int .i64 14) j) (∃(l:List RwM) (most_1:Int) (t_1:Int),by refine(?_:_→Prop) (↑(lbp l t_1):Int); exact fun i=>by refine(?_:_→Prop) [PV.list [] .exact,.int .i64 i,.list [[PV.int .u32 t,.int .u32 v.id,.int .i64 v.md,.int .u32 v.ins,n,m]] .exact]; exact fun h=>SlIs [.ptr 0 0,.int .u32 t] [.ptr 0 0,.int .u32 t_1]∧EXTM l most_1 j∧Ok l most_1∧br (has l t_1) (InL [] 6 i∧False) (br (decide (0≥most)) (K (.int .i64 10) j) ((∃(G:Heap) (l_1:List RwM) (J:List PV) (cap:Nat) (most_2:Int) (r:RwM) (p:Nat),by refine(?_:_→Prop) (PV.arr 1 0 l_1.length cap); exact fun d=>by refine(?_:_→Prop) (Ob.cells [d,.int .i64 most_2]); exact fun a=>by refine(?_:_→Prop) [a,.cells (flM l_1++J)]; exact fun b=>SlIs h [d,.int .i64 p,.list [[PV.int .u32 r.id,.int .u32 r.v.id,.int .i64 r.v.md,.int .u32 r.v.ins,.list (r.v.rows.map rrc) .no,.list (r.v.seats.map stc) .no]] .exact]∧HpIs j (b++G)∧p≤l_1.length∧l_1.length≤1000000∧l_1.length≤cap∧Room J ((cap-l_1.length)*6)∧(∀(J':List PV),l_1.length+1≤cap→Room J' ((cap-(l_1.length+1))*6)→K (.int .i64 0) (List.set ([a,.cells (flM (insAt l_1 p r)++J')]++G) 0 (.cells [.arr 1 0 (l_1.length+1) cap,.int .i64 most_2])))∧∀(c:Nat),l_1.length+1≤c→∀(J':List PV),Room J' ((c-(l_1.length+1))*6)→K (.int .i64 0) (List.set (b++G++[.cells (flM (insAt l_1 p r)++J')]) 0 (.cells [.arr (2+G.length) 0 (l_1.length+1) c,.int .i64 most_2])))∨∃(G:Heap) (most_2:Int) (r:RwM),by refine(?_:_→_→_→Prop) [Ob.cells [.list [] .exact,.int .i64 most_2]] (PV.list (r.v.seats.map stc) .no) (PV.list (r.v.rows.map rrc) .no); exact fun e f g=>SlIs h [.list [] .exact,.int .i64 0,.list [[PV.int .u32 r.id,.int .u32 r.v.id,.int .i64 r.v.md,.int .u32 r.v.ins,g,f]] .exact]∧HpIs j (e++G)∧∀(c:Nat),1≤c→∀(J':List PV),Room J' ((c-1)*6)→K (.int .i64 0) (List.set (e++G++[.cells ([.int .u32 r.id,.int .u32 r.v.id,.int .i64 r.v.md,.int .u32 r.v.ins,g,f]++J')]) 0 (.cells [.arr (1+G.length) 0 1 c,.int .i64 most_2]))))))→ACalls Try.prog gl 53 [.ptr 0 0,.int .u32 t,Mt.pv v] [.cells k] K:Prop):=fun K h=>acalls_of_wpc2 (T:=TPM) (L:=[([1,1,1,1,0,0,1,1,1,1],oneL br Try.prog gl TPM (fun o=>match o.op with| .load t _=>(match t with|104=>1|_=>0)|_=>0) (atOf [1,1,1,1,0,0,1,1,1,1] (bodyOf Try.f53)) 10 [0,1,2,3,4,5,6,7,8,9,11,12] [13])]) (fun o=>match o.op with| .load t _=>(match t with|104=>1|_=>0)|_=>0) Try.func53 (by kernel_rfl) (by kernel_rfl) (by kernel_rfl) (TPM_ok) (.cons (show sub [1,1,1,1,0,0,1,1,1,1] (bodyOf Try.f53)=some (atOf [1,1,1,1,0,0,1,1,1,1] (bodyOf Try.f53)) from by kernel_rfl) (oneL_ok TPM_ok (by kernel_rfl) (by kernel_rfl)) (.nil _ _ _ _ _)) (holds_of_eq (by kernel_rfl) h)
theorem hpAM_low {l:List RwM} {J:List PV} {cap:Nat} {most:Int} (h:∀ y∈J,Low 2 y):∀(o:Nat) cs,(hpAM l J cap most)[o]?=some (.cells cs)→∀ x∈cs,Low (hpAM l J cap most).length x:=by
 intro o cs ho x hx
 have e1:=(List.getElem?_eq_some_iff.1 ho).1
 simp[hpAM] at e1
 rcases Nat.eq_zero_or_pos o with rfl|h0
 ·cases ho
  simp only[List.mem_cons,List.not_mem_nil,or_false] at hx
  rcases hx with rfl|rfl
  ·exact .arr _ _ _ _ (by simp[hpAM])
  ·exact .int _ _
 ·have:o=1:=by omega
  subst this
  cases ho
  exact flM_low l h x hx
def rkM (l:List RwM) (most:Int):Rep:=whole (EXM l most)
theorem left_AM {l:List RwM} {J:List PV} {cap:Nat} {most:Int} {T:Heap} {k:Nat} (hk:T[k]?=some (.cells (flM l++J))) (h:l.length≤cap) (hJ:Room J ((cap-l.length)*6)):RestOf (EXM l most) (.cells [.arr (k+1) 0 l.length cap,.int .i64 most]::T):=
 ⟨hpAM l J cap most,_,sub_two hk (fun y hy=>by rcases List.mem_singleton.1 hy with rfl; exact .int _ _) (flM_low l hJ.low),rfl,.inl ⟨J,cap,rfl,h,hJ⟩,root_of⟩
theorem left_NM {most:Int} {T:Heap}:RestOf (EXM [] most) (.cells [.list [] .exact,.int .i64 most]::T):=
 ⟨hpNM most,_,sub_one T (fun y hy=>by simp only[List.mem_cons,List.not_mem_nil,or_false] at hy; rcases hy with rfl|rfl; exact low_list NT.exact (fun _ h=>nomatch h); exact .int _ _),rfl,.inr ⟨rfl,rfl⟩,root_of⟩
theorem left_EXM {l:List RwM} {most:Int} {H:Heap} (h:EXM l most H):RestOf (EXM l most) H:=by
 rcases h with⟨J,cap,rfl,hc,hJ⟩|⟨rfl,rfl⟩
 ·exact left_AM (k:=0) rfl hc hJ
 ·exact left_NM
def delM_s (args:List PV) (H:Heap) (K:PV→Heap→Prop):Prop:=
 ∃(l:List RwM) (J:List PV) (cap:Nat) (most:Int) (p:Nat),SlIs args [.arr 1 0 l.length cap,.int .i64 p,.int .i64 ((p+1:Nat):Int)]∧HpIs H (hpAM l J cap most)∧p<l.length∧l.length≤1000000∧l.length≤cap∧Room J ((cap-l.length)*6)∧
  K (.arr 1 0 (l.length-1) cap) [.cells [.arr 1 0 l.length cap,.int .i64 most],.cells (flM (l.eraseIdx p)++(zrM++J))]
theorem delM_ok:SpOk Try.prog gl 71 (.heap delM_s):=by
 rintro args H K ⟨l,J,cap,most,p,he,hH,hp,hl,hc,hJ,hk⟩
 have he:args=_:=he
 have hH:H=_:=hH
 subst he
 subst hH
 have hlen:(flM l++J).length=cap*6:=by rw[List.length_append,flM_len,hJ.len,← Nat.add_mul]; congr 1; omega
 have hone:(flM l++J).all PV.one=true:=List.all_eq_true.2 (flM_one l hJ.one)
 refine delM_vc l J cap most p K ?_
 refine⟨⟨by omega,by omega,by omega,by omega⟩,?_⟩
 rw[br_if,if_neg (by simp; omega)]
 have e4:p+(l.length-(p+1))=l.length-1:=by omega
 have e5:l.length-(l.length-1)=1:=by omega
 simp only[toNat_nat,Nat.sub_zero,Nat.zero_add,ite_self,e4,e5]
 have n1:¬ cap=l.length-1:=by omega
 have t11:(List.take ((l.length-(p+1))*6) (List.drop (if cap=p+1 then 0 else(p+1)*6) (flM l++J)))=List.take ((l.length-(p+1))*6) (List.drop ((p+1)*6) (flM l++J)):=by
  split
  ·rw[show l.length-(p+1)=0 by omega,Nat.zero_mul,List.take_zero,List.take_zero]
  ·rfl
 have t12:(List.take ((l.length-(p+1))*6) (List.drop ((p+1)*6) (flM l++J))).length=(l.length-(p+1))*6:=by rw[List.length_take,List.length_drop,hlen]; omega
 have t13:(List.take ((l.length-(p+1))*6) (List.drop ((p+1)*6) (flM l++J))).all PV.one=true:=List.all_eq_true.2 fun y hy=>List.all_eq_true.1 hone y (List.mem_of_mem_drop (List.mem_of_mem_take hy))
 simp only[t11,if_neg n1,del_rows csM_len hp]
 have hle:l.length-1=(l.eraseIdx p).length:=by rw[List.length_eraseIdx_of_lt hp]
 refine⟨⟨by decide,by omega,by omega,by omega⟩,⟨by omega,by omega,by omega,by omega⟩,by split<;>omega,⟨by omega,by omega,t12,t13,by omega⟩,by omega,⟨by omega,by omega,by omega,by omega⟩,?_,?_⟩
 ·simp only[List.length_append,rows_len csM_len,← hle,csM_len,hJ.len]; omega
 ·rw[hle]
  rw[hle] at hk
  rw[← del_clear (z:=zrM) csM_len (l.getLast (List.ne_nil_of_length_pos (by omega))) rfl] at hk
  exact hk
theorem setM {l:List RwM} {J:List PV} {p:Nat} {t:Int} {v:Mt} (hp:p<l.length) (ht:(l.getD p default).id=t):over (flM l++J) (p*6+1) (let r:RwM:=⟨t,v⟩; [.int .u32 r.v.id,.int .i64 r.v.md,.int .u32 r.v.ins,.list (r.v.rows.map rrc) .no,.list (r.v.seats.map stc) .no])=flM (l.set p ⟨t,v⟩)++J:=by
 have e1:flM l++J=(flM (l.take p)++[.int .u32 t])++(let r:RwM:=l.getD p default; [.int .u32 r.v.id,.int .i64 r.v.md,.int .u32 r.v.ins,.list (r.v.rows.map rrc) .no,.list (r.v.seats.map stc) .no])++(flM (l.drop (p+1))++J):=by
  unfold flM
  rw[rows_parts l p,List.drop_eq_getElem_cons hp,List.map_cons,List.flatten_cons,← ht,getD_eq' hp]
  simp[csM]
 rw[over_mid e1 (by rw[List.length_append,rows_len csM_len,List.length_take,Nat.min_eq_left (by omega)]; rfl) (by rfl),List.set_eq_take_append_cons_drop,if_pos hp]
 simp[flM,csM]
def puEM_s (args:List PV) (H:Heap) (K:PV→Heap→Prop):Prop:=
 ∃(l:List RwM) (most t:Int) (v:Mt),SlIs args [.ptr 0 0,.int .u32 t,Mt.pv v]∧EXM l most H∧Ok l most∧∀(H':Heap),RestOf (EXM (putL l most t v).1 most) H'→K (.int .i64 (putL l most t v).2) H'
theorem puEM_ok:SpOk Try.prog gl 53 (.heap puEM_s):=by
 rintro args H K ⟨l,most,t,v,he,hH,ok,hk⟩
 have he:args=_:=he
 subst he
 unfold putL at hk
 rcases hH with⟨J,cap,rfl,hc,hJ⟩|⟨rfl,rfl⟩
 ·have hlen:(flM l++J).length=cap*6:=by rw[List.length_append,flM_len,hJ.len,← Nat.add_mul]; congr 1; omega
  refine putAM_vc l J cap most t v K ?_
  rw[br_if]
  by_cases c:rightS t=true
  ·rw[if_neg (by simp[c])]
   rw[if_pos c] at hk
   refine⟨l,most,t,rfl,⟨_,[_],rfl,EXM_A hc hJ⟩,ok,?_⟩
   simp only[br_if]
   by_cases c2:has l t=true
   ·rw[if_pos c2]
    rw[if_pos c2] at hk
    obtain⟨h1,h2⟩:=has_lt c2
    refine⟨⟨by omega,by omega⟩,?_⟩
    simp only[toNat_nat,Nat.zero_add]
    rw[if_pos (by rw[decide_eq_true (by rw[hlen]; omega)]; rfl)]
    have h3:=left_AM (most:=most) (l:=l.set (lbp l t) ⟨t,v⟩) (J:=J) (cap:=cap) (k:=0) (T:=[.cells (flM (l.set (lbp l t) ⟨t,v⟩)++J),.cells [.int .u32 v.id,.int .i64 v.md,.int .u32 v.ins,.list (v.rows.map rrc) .no,.list (v.seats.map stc) .no]]) rfl (by simpa using hc) (by simpa using hJ)
    rw[List.length_set,← setM h1 h2] at h3
    exact hk _ h3
   ·rw[if_neg c2]
    rw[if_neg c2] at hk
    by_cases c3:(l.length:Int)≥most
    ·rw[if_pos (decide_eq_true c3)]
     rw[if_pos c3] at hk
     exact hk _ (left_AM (k:=0) rfl hc hJ)
    ·rw[if_neg (by simpa using c3)]
     rw[if_neg c3] at hk
     have hi:(insAt l (lbp l t) ⟨t,v⟩).length=l.length+1:=insAt_length (lbp_le l t)
     refine .inl ⟨[.cells [.int .u32 v.id,.int .i64 v.md,.int .u32 v.ins,.list (v.rows.map rrc) .no,.list (v.seats.map stc) .no]],l,J,cap,most,⟨t,v⟩,lbp l t,rfl,rfl,lbp_le l t,ok.len,hc,hJ,fun J' h1 h2=>?_,fun c h1 J' h2=>?_⟩
     ·rw[← hi]
      exact hk _ (left_AM (k:=0) rfl (by rw[hi]; exact h1) (by rw[hi]; exact h2))
     ·have:=hk _ (left_AM (l:=insAt l (lbp l t) ⟨t,v⟩) (J:=J') (cap:=c) (most:=most) (k:=2) (T:=[.cells (flM l++J),.cells [.int .u32 v.id,.int .i64 v.md,.int .u32 v.ins,.list (v.rows.map rrc) .no,.list (v.seats.map stc) .no],.cells (flM (insAt l (lbp l t) ⟨t,v⟩)++J')]) rfl (by rw[hi]; exact h1) (by rw[hi]; exact h2))
      rw[hi] at this
      exact this
  ·rw[if_pos (by simpa using c)]
   rw[if_neg c] at hk
   exact hk _ (left_AM (k:=0) rfl hc hJ)
 ·refine putNM_vc most t v K ?_
  rw[br_if]
  by_cases c:rightS t=true
  ·rw[if_neg (by simp[c])]
   rw[if_pos c,has_nil,if_neg (by decide)] at hk
   refine⟨[],most,t,rfl,⟨_,[_],rfl,EXM_N⟩,ok,?_⟩
   rw[has_nil]
   simp only[br_if]
   rw[if_neg (by decide)]
   by_cases c3:0≥most
   ·rw[if_pos (decide_eq_true c3)]
    rw[if_pos (by simpa using c3)] at hk
    exact hk _ left_NM
   ·rw[if_neg (by simpa using c3)]
    rw[if_neg (by simpa using c3)] at hk
    refine .inr ⟨[.cells [.int .u32 v.id,.int .i64 v.md,.int .u32 v.ins,.list (v.rows.map rrc) .no,.list (v.seats.map stc) .no]],most,⟨t,v⟩,rfl,rfl,fun c hc J' hJ=>?_⟩
    exact hk _ (left_AM (l:=[⟨t,v⟩]) (k:=1) rfl hc hJ)
  ·rw[if_pos (by simpa using c)]
   rw[if_neg c] at hk
   exact hk _ left_NM
end Go.Proofs.Ytenaelaapdhbdaa
