/-
  A rack of matches, closed.
-/
import Derived.Test.YtenaelaapdhbdaaSb
import Derived.Test.YtenaelaapdhbdaaProg
namespace Go.Proofs.Ytenaelaapdhbdaa
open Go Go.AM Go.Proofs
def delTM_s (args:List PV) (H:Heap) (K:PV→Heap→Prop):Prop:=
 ∃(v:Mt) (l:List RwM) (J:List PV) (cap:Nat) (most:Int) (p:Nat),SlIs args [.arr 1 0 l.length cap,.int .i64 p,.int .i64 ((p+1:Nat):Int)]∧HpIs H (hpAM l J cap most++[.cells [.int .u32 0,.int .i64 0,.int .u32 0,.list [] .exact,.list [] .exact],.cells [.int .u32 v.id,.int .i64 v.md,.int .u32 v.ins,.list (v.rows.map rrc) .no,.list (v.seats.map stc) .no]])∧p<l.length∧l.length≤1000000∧l.length≤cap∧Room J ((cap-l.length)*6)∧
  K (.arr 1 0 (l.length-1) cap) ([.cells [.arr 1 0 l.length cap,.int .i64 most],.cells (flM (l.eraseIdx p)++(zrM++J))]++[.cells [.int .u32 0,.int .i64 0,.int .u32 0,.list [] .exact,.list [] .exact],.cells [.int .u32 v.id,.int .i64 v.md,.int .u32 v.ins,.list (v.rows.map rrc) .no,.list (v.seats.map stc) .no]])
theorem delTM_ok:SpOk Try.prog gl 71 (.heap delTM_s):=by
 rintro args H K ⟨v,l,J,cap,most,p,he,hH,hp,hl,hc,hJ,hk⟩
 have he:args=_:=he
 have hH:H=_:=hH
 subst he
 subst hH
 refine acalls_tail gl_low (by intro y hy; simp only[List.mem_cons,List.not_mem_nil,or_false] at hy; rcases hy with rfl|rfl|rfl; exact .arr _ _ _ _ (by simp[hpAM]); exact .low (.int _ _); exact .low (.int _ _)) (hpAM_lid (by simp[hpAM]) hJ.low) ?_
 refine delM_ok _ _ _ ⟨l,J,cap,most,p,rfl,rfl,hp,hl,hc,hJ,?_⟩
 have hz:=(zrM_room 1).low
 simp only[List.replicate,List.flatten_cons,List.flatten_nil,List.append_nil] at hz
 exact⟨_,_,tail_same rfl (lidH_two (fun y hy=>by simp only[List.mem_cons,List.not_mem_nil,or_false] at hy; rcases hy with rfl|rfl; exact .arr _ _ _ _ (by simp[hpAM]); exact .low (.int _ _)) (fun y hy=> .low (flM_low _ (fun y hy=>by rcases List.mem_append.1 hy with hy|hy; exact hz y hy; exact hJ.low y hy) y hy))),Lid.ren (.arr _ _ _ _ (by simp)) (fun o ho=>ρext_tail (by simpa[hpAM] using ho)),hk⟩
def TDM:Tab:=(71,.heap delTM_s)::(56,.read atTM_s)::(37,.read geTM_s)::TGM
theorem TDM_ok:TabOk Try.prog gl TDM:= .cons delTM_ok (.cons atTM_ok (.cons geTM_ok TGM_ok))
theorem droAM_vc (l:List RwM) (J:List PV) (cap:Nat) (most:Int) (t:Int):(by refine(?_:_→_→_→_→Prop) (Ob.cells [.int .u32 0,.int .i64 0,.int .u32 0,.list [] .exact,.list [] .exact]) [PV.arr 1 0 l.length cap,.int .i64 most] (Ob.cells (flM l++J)) [PV.ptr 0 0,.int .u32 t]; exact fun f g h i=>∀(K:PV→Heap→Prop),(∃(l_1:List RwM) (most_1:Int) (t_1:Int),by refine(?_:_→_→Prop) [PV.int .u32 (Mt.id (getR l_1 t_1)),.int .i64 (Mt.md (getR l_1 t_1)),.int .u32 (Mt.ins (getR l_1 t_1)),.list (List.map rrc (Mt.rows (getR l_1 t_1))) .no,.list (List.map stc (Mt.seats (getR l_1 t_1))) .no] (PV.bool (has l_1 t_1)); exact fun c e=>by refine(?_:_→Prop) [Ob.cells g,h,f,.cells c]; exact fun d=>SlIs i [.ptr 0 0,.int .u32 t_1]∧EXTM l_1 most_1 [.cells g,h,f]∧Ok l_1 most_1∧br (has l_1 t_1) (∃(l_2:List RwM) (most_2:Int) (t_2:Int),SlIs i [.ptr 0 0,.int .u32 t_2]∧EXTM l_2 most_2 d∧Ok l_2 most_2∧∃(v:Mt) (l_3:List RwM) (J_1:List PV) (cap_1:Nat) (most_3:Int) (p:Nat),by refine(?_:_→_→Prop) [PV.int .u32 v.id,.int .i64 v.md,.int .u32 v.ins,.list (v.rows.map rrc) .no,.list (v.seats.map stc) .no] (PV.arr 1 0 l_3.length cap_1); exact fun a b=>SlIs [.arr 1 0 l.length cap,.int .i64 (↑(lbp l_2 t_2):Int),.int .i64 (wI ((↑(lbp l_2 t_2):Int)+1))] [b,.int .i64 p,.int .i64 (↑(p+1):Int)]∧HpIs d [.cells [b,.int .i64 most_3],.cells (flM l_3++J_1),f,.cells a]∧p<l_3.length∧l_3.length≤1000000∧l_3.length≤cap_1∧Room J_1 ((cap_1-l_3.length)*6)∧K (.tup [.agg a,e]) [.cells [.arr 1 0 (l_3.length-1) cap_1,.int .i64 most_3],.cells (flM (List.eraseIdx l_3 p)++([.int .u32 0,.int .u32 0,.int .i64 0,.int .u32 0,.list [] .exact,.list [] .exact]++J_1)),.cells a,.cells a]) (K (.tup [.agg c,e]) [.cells g,h,.cells c,.cells c]))→ACalls Try.prog gl 54 i [.cells g,h] K:Prop):=fun K h=>acalls_of_wpc2 (T:=TDM) (L:=[]) (fun o=>match o.op with| .load t _=>(match t with|104=>1|_=>0)|_=>0) Try.func54 (by kernel_rfl) (by kernel_rfl) (by kernel_rfl) (TDM_ok) (LOk.nil _ _ _ _ _) (holds_of_eq (by kernel_rfl) h)
theorem droNM_vc (most t:Int):(by refine(?_:_→_→_→Prop) [PV.int .u32 0,.int .i64 0,.int .u32 0,.list [] .exact,.list [] .exact] [PV.list [] .exact,.int .i64 most] [PV.ptr 0 0,.int .u32 t]; exact fun f g h=>∀(K:PV→Heap→Prop),(∃(l:List RwM) (most_1:Int) (t_1:Int),by refine(?_:_→Prop) [PV.int .u32 (Mt.id (getR l t_1)),.int .i64 (Mt.md (getR l t_1)),.int .u32 (Mt.ins (getR l t_1)),.list (List.map rrc (Mt.rows (getR l t_1))) .no,.list (List.map stc (Mt.seats (getR l t_1))) .no]; exact fun d=>by refine(?_:_→Prop) [Ob.cells g,.cells f,.cells d]; exact fun e=>SlIs h [.ptr 0 0,.int .u32 t_1]∧EXTM l most_1 [.cells g,.cells f]∧Ok l most_1∧br (has l t_1) (∃(l_1:List RwM) (most_2:Int) (t_2:Int),SlIs h [.ptr 0 0,.int .u32 t_2]∧EXTM l_1 most_2 e∧Ok l_1 most_2∧∃(v:Mt) (l_2:List RwM) (J:List PV) (cap:Nat) (most_3:Int) (p:Nat),by refine(?_:_→_→_→Prop) (flM (List.eraseIdx l_2 p)++([.int .u32 0,.int .u32 0,.int .i64 0,.int .u32 0,.list [] .exact,.list [] .exact]++J)) (Ob.cells [.int .u32 v.id,.int .i64 v.md,.int .u32 v.ins,.list (v.rows.map rrc) .no,.list (v.seats.map stc) .no]) (PV.arr 1 0 l_2.length cap); exact fun a b c=>SlIs [.list [] .exact,.int .i64 (↑(lbp l_1 t_2):Int),.int .i64 (wI ((↑(lbp l_1 t_2):Int)+1))] [c,.int .i64 p,.int .i64 (↑(p+1):Int)]∧HpIs e [.cells [c,.int .i64 most_3],.cells (flM l_2++J),.cells f,b]∧p<l_2.length∧l_2.length≤1000000∧l_2.length≤cap∧Room J ((cap-l_2.length)*6)∧br (true && decide (5≤List.length a) && hintOk 0 1 0 5) (K (.tup [.agg f,.bool (has l t_1)]) [.cells [.arr 1 0 (l_2.length-1) cap,.int .i64 most_3],.cells (over a 0 f),.cells f,b]) False) (K (.tup [.agg d,.bool (has l t_1)]) [.cells g,.cells d,.cells d]))→ACalls Try.prog gl 54 h [.cells g] K:Prop):=fun K h=>acalls_of_wpc2 (T:=TDM) (L:=[]) (fun o=>match o.op with| .load t _=>(match t with|104=>1|_=>0)|_=>0) Try.func54 (by kernel_rfl) (by kernel_rfl) (by kernel_rfl) (TDM_ok) (LOk.nil _ _ _ _ _) (holds_of_eq (by kernel_rfl) h)
theorem newM_vc (n:Int)  (K:PV→Heap→Prop) (h:K (.ptr 0 0) [.cells [.list [] .exact,.int .i64 (mxI 0 n)]]):ACalls Try.prog gl 31 [.int .i64 n] [] K:=
 acalls_of_wpc2 (T:=[]) (L:=[]) (fun _=>0) Try.func31 (by kernel_rfl) (by kernel_rfl) (by kernel_rfl) (TabOk.nil _ _) (LOk.nil _ _ _ _ _) (holds_of_eq (by kernel_rfl) h)
theorem idsAM_vc (l:List RwM) (J:List PV) (cap:Nat) (most:Int):(by refine(?_:_→_→_→_→Prop) (List.drop 0 (flM l++J)) (PV.arr 1 0 l.length cap) (Ob.cells (flM l++J)) (PV.int .i64 l.length); exact fun a b g h=>by refine(?_:_→_→_→_→Prop) [PV.ptr 0 0,.list [] .exact,b,h,.int .i64 0] (Ob.cells [b,.int .i64 most]) [[PV.int .u32 (cI a 0)]] (PV.int .u32 (cI a 0)); exact fun c d f i=>∀(R:Ex→List PV→Heap→Prop),(br (decide (0<(l.length:Int))) ((iI 0≤0∧0<(l.length:Int))∧br (true && fitX [.int .u32,.int .u32,.int .i64,.int .u32,.list,.list] 0 a) (AppL [] f 1 4∧(List.all [i] PV.one=true∧f≠[])∧R .normal [.ptr 0 0,.list f (.tok 3),b,h,.int .i64 1] [d,g,.cells [i,.int .u32 (cI a 1),.int .i64 (cI a 2),.int .u32 (cI a 3),.list (cL a 4) (cT a 4),.list (cL a 5) (cT a 5)],.tok]) False) (R (.exit 0) c [d,g]))→Holds (wpc br Try.prog gl [] [] (fun o=>match o.op with| .load t _=>(match t with|104=>1|_=>0)|_=>match o.dst with|some 21=>1|_=>0) (subOf [1,1,0,1,0,1,0] (bodyOf Try.f36)) [] (envS [0,3,11,12,13] c) [d,g] (fun ex e H=>R ex (List.map e [0,3,11,12,13]) H)):Prop):=fun R h=>holds_of_eq (by kernel_rfl) h
theorem idsBM_vc (l:List RwM) (J:List PV) (cap:Nat) (most:Int) (es:List (List PV)) (i:Nat):(by refine(?_:_→_→_→_→Prop) (List.drop (0+Int.toNat (i:Int)*6) (flM l++J)) (PV.arr 1 0 l.length cap) (Ob.cells (flM l++J)) (PV.int .i64 l.length); exact fun a b h j=>by refine(?_:_→_→_→_→Prop) [PV.ptr 0 0,.list es (.tok 2),b,j,.int .i64 i] [[PV.int .u32 (cI a 0)]] [b,.int .i64 most] (PV.int .u32 (cI a 0)); exact fun c f g k=>by refine(?_:_→Prop) [Ob.cells g,h,.tok]; exact fun d=>∀(R:Ex→List PV→Heap→Prop),(br (decide ((i:Int)<(l.length:Int))) ((0≤(i:Int)∧(i:Int)<(l.length:Int))∧br (true && fitX [.int .u32,.int .u32,.int .i64,.int .u32,.list,.list] 0 a) (AppL es f 1 4∧(List.all [k] PV.one=true∧f≠[])∧R .normal [.ptr 0 0,.list (es++f) (.tok 4),b,j,.int .i64 (wI ((i:Int)+1))] [.cells g,h,.dead,.cells [k,.int .u32 (cI a 1),.int .i64 (cI a 2),.int .u32 (cI a 3),.list (cL a 4) (cT a 4),.list (cL a 5) (cT a 5)],.tok]) False) (R (.exit 0) c d))→Holds (wpc br Try.prog gl [] [] (fun o=>match o.op with| .load t _=>(match t with|104=>1|_=>0)|_=>match o.dst with|some 21=>1|_=>0) (subOf [1,1,0,1,0,1,0] (bodyOf Try.f36)) [] (envS [0,3,11,12,13] c) d (fun ex e H=>R ex (List.map e [0,3,11,12,13]) H)):Prop):=fun R h=>holds_of_eq (by kernel_rfl) h
theorem idsNM_vc (most:Int):(by refine(?_:_→_→Prop) [PV.ptr 0 0,.list [] .exact,.list [] .exact,.int .i64 0,.int .i64 0] [Ob.cells [.list [] .exact,.int .i64 most]]; exact fun a b=>∀(R:Ex→List PV→Heap→Prop),(R (.exit 0) a b)→Holds (wpc br Try.prog gl [] [] (fun o=>match o.op with| .load t _=>(match t with|104=>1|_=>0)|_=>0) (subOf [1,1,0,1,0,1,0] (bodyOf Try.f36)) [] (envS [0,3,11,12,13] a) b (fun ex e H=>R ex (List.map e [0,3,11,12,13]) H)):Prop):=fun R h=>holds_of_eq (by kernel_rfl) h
theorem uniM (l:List RwM):uni 1 (idsL l):=by
 intro e he
 obtain⟨a,_,rfl⟩:=List.mem_map.1 he
 rfl
theorem idsM_take {l:List RwM} {i:Nat} (h:i<l.length):idsL (l.take (i+1))=idsL (l.take i)++[[.int .u32 (l.getD i default).id]]:=by
 unfold idsL
 rw[← List.take_append_getElem h,List.map_append,getD_eq' h]; rfl
def idsM_l:LSp:=fun e H Q=>∃(l:List RwM) (J:List PV) (cap:Nat) (most:Int),l.length≤1000000∧(∀ y∈J,Low 2 y)∧SlIs (List.map e [0,3,11,12,13]) [.ptr 0 0,.list [] .exact,.arr 1 0 l.length cap,.int .i64 l.length,.int .i64 0]∧HpIs H (hpAM l J cap most)∧
 Q (.exit 0) (envS [0,3,11,12,13] [.ptr 0 0,.list (idsL l) .no,.arr 1 0 l.length cap,.int .i64 l.length,.int .i64 l.length]) (hpAM l J cap most++[.dead])
theorem idsM_l_ok:∀ e H Q,idsM_l e H Q→AW Try.prog gl Try.f36.ntmps (.loop (subOf [1,1,0,1,0,1,0] (bodyOf Try.f36))) Q e H:=by
 rintro e H Q ⟨l,J,cap,most,hl,hJ,he,hH,hQ⟩
 have hH2:H=hpAM l J cap most:=hH
 refine aw_grow (f:=fun r:RwM=>[PV.int .u32 r.id]) (T:=l) (hn:=fun o=>match o.op with| .load t _=>(match t with|104=>1|_=>0)|_=>match o.dst with|some 21=>1|_=>0) gl_low (.nil _ _) (.nil _ _ _ _ _) [0,3,11,12,13] (fun r i=>[.ptr 0 0,r,.arr 1 0 l.length cap,.int .i64 l.length,.int .i64 i]) (hpAM l J cap most)
  (hpAM_low hJ) (fun b _ x hx=>by rcases List.mem_singleton.1 hx with rfl; exact .int _ _)
  (fun es i k h=> .same (.ptr _ _ (by simp[hpAM])) (.row h (.same (.arr _ _ _ _ (by simp[hpAM])) (.same (.int _ _) (.same (.int _ _) .nil))))) he hH2 ?_ ?_
 ·refine idsAM_vc l J cap most _ ?_
  simp only[br_if,dt]
  by_cases h:0<l.length
  ·rw[if_pos (by omega)]
   refine⟨⟨by decide,by omega⟩,?_⟩
   have e0:=flM_at J h
   rw[Nat.zero_mul] at e0
   rw[e0,if_pos (by rfl)]
   refine⟨⟨(by intro e he; simp at he),(by intro e he; simp at he; subst he; rfl),by simp⟩,⟨by rfl,by simp⟩,h,_,3,rfl,rfl,by simp[hpAM],?_⟩
   have:=idsM_take h
   unfold idsL at this
   rw[this]; rfl
  ·rw[if_neg (by omega)]
   have hm:l=[]:=List.eq_nil_of_length_eq_zero (by omega)
   subst hm
   exact⟨_,_,.cons (.refl _) (.cons (.list _ _) (.cons (.refl _) (.cons (.refl _) (.cons (.refl _) .nil)))),pad_dead _,hQ⟩
 ·intro i h0 hi
  refine idsBM_vc l J cap most (idsL (l.take i)) i _ ?_
  simp only[br_if,dt,toNat_nat,Nat.zero_add]
  by_cases h:i<l.length
  ·rw[if_pos (by omega)]
   refine⟨⟨by omega,by omega⟩,?_⟩
   rw[flM_at J h,if_pos (by rfl)]
   refine⟨⟨uniM _,(by intro e he; simp at he; subst he; rfl),by simp only[idsL,List.length_map,List.length_take,List.length_cons,List.length_nil]; omega⟩,⟨by rfl,by simp⟩,h,_,4,rfl,rfl,by simp[hpAM],?_⟩
   have:=idsM_take h
   unfold idsL at this
   rw[this,wI_succ h (by omega)]; rfl
  ·rw[if_neg (by omega)]
   have hm:i=l.length:=by omega
   subst hm
   rw[List.take_length]
   exact⟨_,_,.cons (.refl _) (.cons (.list _ _) (.cons (.refl _) (.cons (.refl _) (.cons (.refl _) .nil)))),pad_kill (hpAM l J cap most) .tok,hQ⟩
def idnM_l:LSp:=fun e H Q=>∃(most:Int),SlIs (List.map e [0,3,11,12,13]) [.ptr 0 0,.list [] .exact,.list [] .exact,.int .i64 0,.int .i64 0]∧HpIs H (hpNM most)∧
 Q (.exit 0) (envS [0,3,11,12,13] [.ptr 0 0,.list [] .exact,.list [] .exact,.int .i64 0,.int .i64 0]) (hpNM most)
theorem idnM_l_ok:∀ e H Q,idnM_l e H Q→AW Try.prog gl Try.f36.ntmps (.loop (subOf [1,1,0,1,0,1,0] (bodyOf Try.f36))) Q e H:=by
 rintro e H Q ⟨most,he,hH,hQ⟩
 refine aw_loop4 (hn:=fun o=>match o.op with| .load t _=>(match t with|104=>1|_=>0)|_=>0) gl_low (.nil _ _) (.nil _ _ _ _ _) (σ:=Unit) [0,3,11,12,13] (fun _=>True)
  (fun _=>[.ptr 0 0,.list [] .exact,.list [] .exact,.int .i64 0,.int .i64 0]) (fun _=>hpNM most) (fun _=>0) () trivial he hH ?_
 intro _ _
 exact idsNM_vc most _ hQ
theorem ideAM_vc (l:List RwM) (J:List PV) (cap:Nat) (most:Int):(by refine(?_:_→Prop) (PV.arr 1 0 l.length cap); exact fun e=>by refine(?_:_→Prop) [Ob.cells [e,.int .i64 most],.cells (flM l++J)]; exact fun d=>∀(K:PV→Heap→Prop),(∃(l_1:List RwM) (J_1:List PV) (cap_1:Nat) (most_1:Int),by refine(?_:_→_→Prop) (PV.arr 1 0 l_1.length cap_1) (Ob.cells (flM l_1++J_1)); exact fun b c=>by refine(?_:_→Prop) (Ob.cells [b,.int .i64 most_1]); exact fun a=>l_1.length≤1000000∧(∀(y:PV),y∈J_1→Low 2 y)∧SlIs [.ptr 0 0,.list [] .exact,e,.int .i64 l.length,.int .i64 0] [.ptr 0 0,.list [] .exact,b,.int .i64 l_1.length,.int .i64 0]∧HpIs d [a,c]∧K (.list (idsL l_1) .no) [a,c,.dead])→ACalls Try.prog gl 36 [.ptr 0 0] d K:Prop):=fun K h=>acalls_of_wpc2 (T:=[]) (L:=[([1,1,0,1,0,1,0],idsM_l)]) (fun o=>match o.op with| .load t _=>(match t with|104=>1|_=>0)|_=>0) Try.func36 (by kernel_rfl) (by kernel_rfl) (by kernel_rfl) (TabOk.nil _ _) (.cons (sub_of (by kernel_rfl)) idsM_l_ok (.nil _ _ _ _ _)) (holds_of_eq (by kernel_rfl) h)
theorem ideNM_vc (most:Int):(by refine(?_:_→_→Prop) [PV.ptr 0 0,.list [] .exact,.list [] .exact,.int .i64 0,.int .i64 0] [Ob.cells [.list [] .exact,.int .i64 most]]; exact fun b c=>∀(K:PV→Heap→Prop),(∃(most_1:Int),by refine(?_:_→Prop) [Ob.cells [.list [] .exact,.int .i64 most_1]]; exact fun a=>SlIs b b∧HpIs c a∧K (.list [] .exact) a)→ACalls Try.prog gl 36 [.ptr 0 0] c K:Prop):=fun K h=>acalls_of_wpc2 (T:=[]) (L:=[([1,1,0,1,0,1,0],idnM_l)]) (fun o=>match o.op with| .load t _=>(match t with|104=>1|_=>0)|_=>0) Try.func36 (by kernel_rfl) (by kernel_rfl) (by kernel_rfl) (TabOk.nil _ _) (.cons (sub_of (by kernel_rfl)) idnM_l_ok (.nil _ _ _ _ _)) (holds_of_eq (by kernel_rfl) h)
theorem drEM {l:List RwM} {most t:Int} {hh:Heap} (hH:EXM l most hh) (ok:Ok l most):ACalls Try.prog gl 54 [.ptr 0 0,.int .u32 t] hh (fun x H'=>x = .tup [(let v:=getR l t; Mt.pv v),.bool (has l t)]∧RestOf (EXM (dropL l t) most) H'):=by
 have hfull:=ok.len
 rcases hH with⟨J,cap,rfl,hc,hJ⟩|⟨rfl,rfl⟩
 ·refine droAM_vc l J cap most t _ ⟨l,most,t,rfl,⟨_,[_],rfl,EXM_A hc hJ⟩,ok,?_⟩
  simp only[br_if]
  unfold dropL
  by_cases c:has l t=true
  ·obtain⟨c1,c2⟩:=has_lt c
   rw[if_pos c,if_pos c]
   refine⟨l,most,t,rfl,⟨_,[_,_],rfl,EXM_A hc hJ⟩,ok,getR l t,l,J,cap,most,lbp l t,(by show _=_; rw[wI_succ c1 (by omega)]),rfl,c1,ok.len,hc,hJ,by first|rfl|trivial,?_⟩
   have hle:l.length-1=(l.eraseIdx (lbp l t)).length:=by rw[List.length_eraseIdx_of_lt c1]
   rw[hle]
   exact left_AM (k:=0) rfl (by omega) (((zrM_room 1).app hJ |> fun h=>by
    simp only[List.replicate,List.flatten_cons,List.flatten_nil,List.append_nil] at h
    exact h.cast (by omega)))
  ·rw[if_neg c,if_neg c]
   exact⟨by first|rfl|trivial,left_AM (k:=0) rfl hc hJ⟩
 ·refine droNM_vc most t _ ⟨[],most,t,rfl,⟨_,[_],rfl,EXM_N⟩,ok,?_⟩
  exact⟨rfl,left_NM⟩
theorem idsEM {l:List RwM} {most:Int} {hh:Heap} (hH:EXM l most hh) (ok:Ok l most):ACalls Try.prog gl 36 [.ptr 0 0] hh (fun x H'=>x = .list (idsL l) .no∧RestOf (EXM l most) H'):=by
 rcases hH with⟨J,cap,rfl,hc,hJ⟩|⟨rfl,rfl⟩
 ·exact ideAM_vc l J cap most _ ⟨l,J,cap,most,ok.len,low2 hJ,rfl,rfl,rfl,left_AM (k:=0) rfl hc hJ⟩
 ·exact acalls_wkout (ideNM_vc most _ ⟨most,rfl,rfl,_,_,.list _ _,.refl _,rfl,left_NM⟩)
def getM_s (args:List PV) (H:Heap) (K:PV→Prop):Prop:=∃(q:Nat) (l:List RwM) (most t:Int),SlIs args [.ptr q 0,.int .u32 t]∧AbIs H q (rkM l most)∧Ok l most∧K (.tup [(let v:=getR l t; Mt.pv v),.bool (has l t)])
theorem getM_ok:SpOk Try.prog gl 37 (.read getM_s):=by
 rintro args H K ⟨q,l,most,t,he,ha,ok,hk⟩
 have he:args=_:=he
 subst he
 refine⟨_,meth_read gl_low ha low0_int (low_tupvM _ _) (fun hh h=>?_),hk⟩
 obtain⟨r,h1,h2⟩:=geEM_ok _ hh (fun x=>x = .tup [(let v:=getR l t; Mt.pv v),.bool (has l t)]) ⟨l,most,t,rfl,h,ok,rfl⟩
 exact acalls_to h1 fun x H' e=>⟨e.1.trans h2,e.2▸left_EXM h⟩
def putM_s (args:List PV) (H:Heap) (K:PV→Heap→Prop):Prop:=match args with
 | .ptr q 0::rest=>∃(l:List RwM) (most t:Int) (v:Mt) (t1 t2:Tail),SlIs rest [.int .u32 t,.agg [.int .u32 v.id,.int .i64 v.md,.int .u32 v.ins,.list (v.rows.map rrc) t1,.list (v.seats.map stc) t2]]∧AbIs H q (rkM l most)∧Ok l most∧K (.int .i64 (putL l most t v).2) (H.set q (.abs (rkM (putL l most t v).1 most)))
 | _=>False
theorem putM_ok:SpOk Try.prog gl 53 (.heap putM_s):=by
 intro args H K h
 unfold putM_s at h
 split at h
 ·rename_i q rest
  obtain⟨l,most,t,v,t1,t2,he,ha,ok,hk⟩:=h
  have he:rest=_:=he
  subst he
  refine acalls_args (.cons (.refl _) (.cons (.refl _) (.cons (.agg (.cons (.refl _) (.cons (.refl _) (.cons (.refl _) (.cons (.list _ _) (.cons (.list _ _) .nil)))))) .nil))) ?_
  refine meth_heap gl_low ha (by intro y hy; simp only[List.mem_cons,List.not_mem_nil,or_false] at hy; rcases hy with rfl|rfl; exact .int _ _; exact lowvM v) (.int _ _) (fun hh h=>?_) hk
  exact puEM_ok _ hh _ ⟨l,most,t,v,rfl,h,ok,fun H' h'=>⟨rfl,h'⟩⟩
 ·exact h.elim
def newM_s (args:List PV) (H:Heap) (K:PV→Heap→Prop):Prop:=∃ n:Int,SlIs args [.int .i64 n]∧K (.ptr H.length 0) (H++[.abs (rkM [] (mxI 0 n))])
theorem newM_ok:SpOk Try.prog gl 31 (.heap newM_s):=by
 rintro args H K ⟨n,he,hk⟩
 have he:args=_:=he
 subst he
 exact acalls_to (make_left gl_low low0_int (newM_vc n _ ⟨rfl,left_NM⟩)) fun _ _ e=>e.1▸e.2▸hk
def idsM_s (args:List PV) (H:Heap) (K:PV→Prop):Prop:=∃(q:Nat) (l:List RwM) (most:Int),SlIs args [.ptr q 0]∧AbIs H q (rkM l most)∧Ok l most∧K (.list (idsL l) .no)
theorem low_idsM (l:List RwM):Low 0 (.list (idsL l) .no):=low_list NT.no (by
 intro x hx
 obtain⟨c,h1,h2⟩:=List.mem_flatten.1 hx
 obtain⟨r,_,rfl⟩:=List.mem_map.1 h1
 rcases List.mem_singleton.1 h2 with rfl
 exact .int _ _)
theorem idsM_ok:SpOk Try.prog gl 36 (.read idsM_s):=by
 rintro args H K ⟨q,l,most,he,ha,ok,hk⟩
 have he:args=_:=he
 subst he
 exact⟨_,meth_read gl_low ha low0_nil (low_idsM l) (fun hh h=>idsEM h ok),hk⟩
def droM_s (args:List PV) (H:Heap) (K:PV→Heap→Prop):Prop:=match args with
 | .ptr q 0::rest=>∃(l:List RwM) (most t:Int),SlIs rest [.int .u32 t]∧AbIs H q (rkM l most)∧Ok l most∧K (.tup [(let v:=getR l t; Mt.pv v),.bool (has l t)]) (H.set q (.abs (rkM (dropL l t) most)))
 | _=>False
theorem droM_ok:SpOk Try.prog gl 54 (.heap droM_s):=by
 intro args H K h
 unfold droM_s at h
 split at h
 ·rename_i q rest
  obtain⟨l,most,t,he,ha,ok,hk⟩:=h
  have he:rest=_:=he
  subst he
  exact meth_heap gl_low ha low0_int (low_tupvM _ _) (fun hh h=>drEM h ok) hk
 ·exact h.elim
def TQM:Tab:=[(37,.read getM_s),(53,.heap putM_s)]
theorem TQM_ok:TabOk Try.prog gl TQM:= .cons getM_ok (.cons putM_ok (.nil _ _))
theorem addM_vc (l:List RwM) (most t:Int) (v:Mt):(by refine(?_:_→Prop) [PV.int .u32 v.id,.int .i64 v.md,.int .u32 v.ins,.list (v.rows.map rrc) .no,.list (v.seats.map stc) .no]; exact fun c=>∀(K:PV→Heap→Prop),(∃(q:Nat) (l_1:List RwM) (most_1:Int) (t_1:Int),by refine(?_:_→Prop) (Ob.cells [.int .u32 (Mt.id (getR l_1 t_1)),.int .i64 (Mt.md (getR l_1 t_1)),.int .u32 (Mt.ins (getR l_1 t_1)),.list (List.map rrc (Mt.rows (getR l_1 t_1))) .no,.list (List.map stc (Mt.seats (getR l_1 t_1))) .no]); exact fun a=>by refine(?_:_→Prop) [Ob.abs (rkM l most),.cells c,a]; exact fun b=>SlIs [.ptr 0 0,.int .u32 t] [.ptr q 0,.int .u32 t_1]∧AbIs [.abs (rkM l most),.cells c] q (rkM l_1 most_1)∧Ok l_1 most_1∧br (has l_1 t_1) (K (.int .i64 11) b) (∃(l_2:List RwM) (most_2:Int) (t_2:Int) (v_1:Mt) (t1:Tail) (t2:Tail),SlIs [.int .u32 t,.agg c] [.int .u32 t_2,.agg [.int .u32 v_1.id,.int .i64 v_1.md,.int .u32 v_1.ins,.list (v_1.rows.map rrc) t1,.list (v_1.seats.map stc) t2]]∧AbIs b 0 (rkM l_2 most_2)∧Ok l_2 most_2∧K (.int .i64 (Prod.snd (putL l_2 most_2 t_2 v_1))) [.abs (rkM (Prod.fst (putL l_2 most_2 t_2 v_1)) most_2),.cells c,a]))→ACalls Try.prog gl 42 [.ptr 0 0,.int .u32 t,Mt.pv v] [.abs (rkM l most)] K:Prop):=fun K h=>acalls_of_wpc2 (T:=TQM) (L:=[]) (fun _=>0) Try.func42 (by kernel_rfl) (by kernel_rfl) (by kernel_rfl) (TQM_ok) (LOk.nil _ _ _ _ _) (holds_of_eq (by kernel_rfl) h)
def addM_s (args:List PV) (H:Heap) (K:PV→Heap→Prop):Prop:=match args with
 | .ptr q 0::rest=>∃(l:List RwM) (most t:Int) (v:Mt) (t1 t2:Tail),SlIs rest [.int .u32 t,.agg [.int .u32 v.id,.int .i64 v.md,.int .u32 v.ins,.list (v.rows.map rrc) t1,.list (v.seats.map stc) t2]]∧AbIs H q (rkM l most)∧Ok l most∧K (.int .i64 (addL l most t v).2) (H.set q (.abs (rkM (addL l most t v).1 most)))
 | _=>False
theorem addM_ok:SpOk Try.prog gl 42 (.heap addM_s):=by
 intro args H K h
 unfold addM_s at h
 split at h
 ·rename_i q rest
  obtain⟨l,most,t,v,t1,t2,he,ha,ok,hk⟩:=h
  have he:rest=_:=he
  subst he
  refine acalls_args (.cons (.refl _) (.cons (.refl _) (.cons (.agg (.cons (.refl _) (.cons (.refl _) (.cons (.refl _) (.cons (.list _ _) (.cons (.list _ _) .nil)))))) .nil))) ?_
  refine abs_heap gl_low ha (by intro y hy; simp only[List.mem_cons,List.not_mem_nil,or_false] at hy; rcases hy with rfl|rfl; exact .int _ _; exact lowvM v) (.int _ _) (addM_vc l most t v _ ⟨0,l,most,t,rfl,rfl,ok,?_⟩) hk
  unfold addL
  rw[br_if]
  by_cases c:has l t=true
  ·rw[if_pos c,if_pos c]
   exact⟨rfl,_,rfl⟩
  ·rw[if_neg c,if_neg c]
   exact⟨l,most,t,v,.no,.no,rfl,rfl,ok,rfl,_,rfl⟩
 ·exact h.elim
theorem putCM_ok:SpOk Try.prog gl 53 (.chg putM_s):=by
 intro args H K h
 unfold putM_s at h
 split at h
 ·obtain⟨l,most,t,v,t1,t2,he,ha,ok,hk⟩:=h
  exact⟨_,_,putM_ok _ H (fun x H1=>x=_∧H1=_) (by unfold putM_s; exact⟨l,most,t,v,t1,t2,he,ha,ok,⟨rfl,rfl⟩⟩),hk⟩
 ·exact h.elim
theorem droCM_ok:SpOk Try.prog gl 54 (.chg droM_s):=by
 intro args H K h
 unfold droM_s at h
 split at h
 ·obtain⟨l,most,t,he,ha,ok,hk⟩:=h
  exact⟨_,_,droM_ok _ H (fun x H1=>x=_∧H1=_) (by unfold droM_s; exact⟨l,most,t,he,ha,ok,⟨rfl,rfl⟩⟩),hk⟩
 ·exact h.elim
def TMM (T:Tab):Tab:=(37,.read getM_s)::(53,.chg putM_s)::(42,.heap addM_s)::(54,.chg droM_s)::(36,.read idsM_s)::(31,.heap newM_s)::T
theorem TMM_ok {T:Tab} (h:TabOk Try.prog gl T):TabOk Try.prog gl (TMM T):=(.cons getM_ok (.cons putCM_ok (.cons addM_ok (.cons droCM_ok (.cons idsM_ok (.cons newM_ok h))))))
end Go.Proofs.Ytenaelaapdhbdaa
