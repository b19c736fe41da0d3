/-
  A rack of matches, closed.
-/
import Derived.Test.YtenaelaapdhbdaaDoorDb
import Derived.Test.YtenaelaapdhbdaaDoorProg
namespace Go.Proofs.YtenaelaapdhbdaaDoor
open Go Go.AM Go.Proofs
def wv (args:List PV) (H:ae) (K:PV→ae→Prop):Prop:=
 ∃(v:Mt) (l:List RwM) (J:List PV) (cap:Nat) (most:Int) (p:Nat),ak args [.arr 1 0 l.length cap,.int .i64 p,.int .i64 ((p+1:Nat):Int)]∧az H (da l J cap most++[.cells [.int .u32 0,.int .i64 0,.int .u32 0,.list [] .exact,.list [] .exact],.cells [.int .u32 v.id,.int .i64 v.md,.int .u32 v.ins,.list (v.rows.map rrc) .no,.list (v.aa.map stc) .no]])∧p<l.length∧l.length≤1000000∧l.length≤cap∧aJ J ((cap-l.length)*6)∧
  K (.arr 1 0 (l.length-1) cap) ([.cells [.arr 1 0 l.length cap,.int .i64 most],.cells (flM (l.eraseIdx p)++(zrM++J))]++[.cells [.int .u32 0,.int .i64 0,.int .u32 0,.list [] .exact,.list [] .exact],.cells [.int .u32 v.id,.int .i64 v.md,.int .u32 v.ins,.list (v.rows.map rrc) .no,.list (v.aa.map stc) .no]])
theorem Az:aO Tryd.prog gl 77 (.heap wv):=by
 rintro args H K ⟨v,l,J,cap,most,p,he,hH,hp,hl,hc,hJ,hk⟩
 have he:args=_:=he
 have hH:H=_:=hH
 subst he
 subst hH
 refine fN aq (by intro y hy; simp only[List.mem_cons,List.not_mem_nil,or_false] at hy; rcases hy with rfl|rfl|rfl; exact .arr _ _ _ _ (by simp[da]); exact .low (.int _ _); exact .low (.int _ _)) (g6 (by simp[da]) hJ.low) ?_
 refine Fk _ _ _ ⟨l,J,cap,most,p,rfl,rfl,hp,hl,hc,hJ,?_⟩
 have hz:=(iv 1).low
 simp only[List.replicate,List.flatten_cons,List.flatten_nil,List.append_nil] at hz
 exact⟨_,_,lW rfl (kK (fun y hy=>by simp only[List.mem_cons,List.not_mem_nil,or_false] at hy; rcases hy with rfl|rfl; exact .arr _ _ _ _ (by simp[da]); exact .low (.int _ _)) (fun y hy=> .low (iP _ (fun y hy=>by rcases List.mem_append.1 hy with hy|hy; exact hz y hy; exact hJ.low y hy) y hy))),Lid.ren (.arr _ _ _ _ (by simp)) (fun o ho=>eV (by simpa[da] using ho)),hk⟩
def TDM:Tab:=(77,.heap wv)::(67,.read qS)::(42,.read B9)::TGM
theorem zq:aB Tryd.prog gl TDM:= .cons Az (.cons qG (.cons G5 tC))
theorem Cj (l:List RwM) (J:List PV) (cap:Nat) (most:Int) (t:Int):(by refine(?_:_→_→_→_→Prop) (Ob.cells [.int .u32 0,.int .i64 0,.int .u32 0,.list [] .exact,.list [] .exact]) [PV.arr 1 0 l.length cap,.int .i64 most] (Ob.cells (flM l++J)) [PV.ptr 0 0,.int .u32 t]; exact fun f g h i=>∀(K:PV→ae→Prop),(∃(l_1:List RwM) (most_1:Int) (t_1:Int),by refine(?_:_→_→Prop) [PV.int .u32 (Mt.id (aD l_1 t_1)),.int .i64 (Mt.md (aD l_1 t_1)),.int .u32 (Mt.ins (aD l_1 t_1)),.list (List.map rrc (Mt.rows (aD l_1 t_1))) .no,.list (List.map stc (Mt.aa (aD l_1 t_1))) .no] (PV.bool (has l_1 t_1)); exact fun c e=>by refine(?_:_→Prop) [Ob.cells g,h,f,.cells c]; exact fun d=>ak i [.ptr 0 0,.int .u32 t_1]∧pw l_1 most_1 [.cells g,h,f]∧Ok l_1 most_1∧br (has l_1 t_1) (∃(l_2:List RwM) (most_2:Int) (t_2:Int),ak i [.ptr 0 0,.int .u32 t_2]∧pw l_2 most_2 d∧Ok l_2 most_2∧∃(v:Mt) (l_3:List RwM) (J_1:List PV) (cap_1:Nat) (most_3:Int) (p:Nat),by refine(?_:_→_→Prop) [PV.int .u32 v.id,.int .i64 v.md,.int .u32 v.ins,.list (v.rows.map rrc) .no,.list (v.aa.map stc) .no] (PV.arr 1 0 l_3.length cap_1); exact fun a b=>ak [.arr 1 0 l.length cap,.int .i64 (↑(lbp l_2 t_2):Int),.int .i64 (wI ((↑(lbp l_2 t_2):Int)+1))] [b,.int .i64 p,.int .i64 (↑(p+1):Int)]∧az d [.cells [b,.int .i64 most_3],.cells (flM l_3++J_1),f,.cells a]∧p<l_3.length∧l_3.length≤1000000∧l_3.length≤cap_1∧aJ J_1 ((cap_1-l_3.length)*6)∧K (.tup [.agg a,e]) [.cells [.arr 1 0 (l_3.length-1) cap_1,.int .i64 most_3],.cells (flM (List.eraseIdx l_3 p)++([.int .u32 0,.int .u32 0,.int .i64 0,.int .u32 0,.list [] .exact,.list [] .exact]++J_1)),.cells a,.cells a]) (K (.tup [.agg c,e]) [.cells g,h,.cells c,.cells c]))→aj Tryd.prog gl 50 i [.cells g,h] K:Prop):=fun K h=>ah (T:=TDM) (L:=[]) (fun o=>match o.op with| .load t _=>(match t with|125=>1|_=>0)|_=>0) Tryd.func50 (by kernel_rfl) (by kernel_rfl) (by kernel_rfl) (zq) (LOk.nil _ _ _ _ _) (ag (by kernel_rfl) h)
theorem CB (most t:Int):(by refine(?_:_→_→_→Prop) [PV.int .u32 0,.int .i64 0,.int .u32 0,.list [] .exact,.list [] .exact] [PV.list [] .exact,.int .i64 most] [PV.ptr 0 0,.int .u32 t]; exact fun f g h=>∀(K:PV→ae→Prop),(∃(l:List RwM) (most_1:Int) (t_1:Int),by refine(?_:_→Prop) [PV.int .u32 (Mt.id (aD l t_1)),.int .i64 (Mt.md (aD l t_1)),.int .u32 (Mt.ins (aD l t_1)),.list (List.map rrc (Mt.rows (aD l t_1))) .no,.list (List.map stc (Mt.aa (aD l t_1))) .no]; exact fun d=>by refine(?_:_→Prop) [Ob.cells g,.cells f,.cells d]; exact fun e=>ak h [.ptr 0 0,.int .u32 t_1]∧pw l most_1 [.cells g,.cells f]∧Ok l most_1∧br (has l t_1) (∃(l_1:List RwM) (most_2:Int) (t_2:Int),ak h [.ptr 0 0,.int .u32 t_2]∧pw l_1 most_2 e∧Ok l_1 most_2∧∃(v:Mt) (l_2:List RwM) (J:List PV) (cap:Nat) (most_3:Int) (p:Nat),by refine(?_:_→_→_→Prop) (flM (List.eraseIdx l_2 p)++([.int .u32 0,.int .u32 0,.int .i64 0,.int .u32 0,.list [] .exact,.list [] .exact]++J)) (Ob.cells [.int .u32 v.id,.int .i64 v.md,.int .u32 v.ins,.list (v.rows.map rrc) .no,.list (v.aa.map stc) .no]) (PV.arr 1 0 l_2.length cap); exact fun a b c=>ak [.list [] .exact,.int .i64 (↑(lbp l_1 t_2):Int),.int .i64 (wI ((↑(lbp l_1 t_2):Int)+1))] [c,.int .i64 p,.int .i64 (↑(p+1):Int)]∧az e [.cells [c,.int .i64 most_3],.cells (flM l_2++J),.cells f,b]∧p<l_2.length∧l_2.length≤1000000∧l_2.length≤cap∧aJ J ((cap-l_2.length)*6)∧br (true && decide (5≤List.length a) && cE 0 1 0 5) (K (.tup [.agg f,.bool (has l t_1)]) [.cells [.arr 1 0 (l_2.length-1) cap,.int .i64 most_3],.cells (over a 0 f),.cells f,b]) False) (K (.tup [.agg d,.bool (has l t_1)]) [.cells g,.cells d,.cells d]))→aj Tryd.prog gl 50 h [.cells g] K:Prop):=fun K h=>ah (T:=TDM) (L:=[]) (fun o=>match o.op with| .load t _=>(match t with|125=>1|_=>0)|_=>0) Tryd.func50 (by kernel_rfl) (by kernel_rfl) (by kernel_rfl) (zq) (LOk.nil _ _ _ _ _) (ag (by kernel_rfl) h)
theorem Es (n:Int)  (K:PV→ae→Prop) (h:K (.ptr 0 0) [.cells [.list [] .exact,.int .i64 (mxI 0 n)]]):aj Tryd.prog gl 25 [.int .i64 n] [] K:=
 ah (T:=[]) (L:=[]) (fun _=>0) Tryd.func25 (by kernel_rfl) (by kernel_rfl) (by kernel_rfl) (aB.nil _ _) (LOk.nil _ _ _ _ _) (ag (by kernel_rfl) h)
theorem Ak (l:List RwM) (J:List PV) (cap:Nat) (most:Int):(by refine(?_:_→_→_→_→Prop) (List.drop 0 (flM l++J)) (PV.arr 1 0 l.length cap) (Ob.cells (flM l++J)) (PV.int .i64 l.length); exact fun a b g h=>by refine(?_:_→_→_→_→Prop) [PV.ptr 0 0,.list [] .exact,b,h,.int .i64 0] (Ob.cells [b,.int .i64 most]) [[PV.int .u32 (cI a 0)]] (PV.int .u32 (cI a 0)); exact fun c d f i=>∀(R:Ex→List PV→ae→Prop),(br (decide (0<(l.length:Int))) ((iI 0≤0∧0<(l.length:Int))∧br (true && aP [.int .u32,.int .u32,.int .i64,.int .u32,.list,.list] 0 a) (aX [] f 1 4∧(List.all [i] PV.one=true∧f≠[])∧R .normal [.ptr 0 0,.list f (.tok 3),b,h,.int .i64 1] [d,g,.cells [i,.int .u32 (cI a 1),.int .i64 (cI a 2),.int .u32 (cI a 3),.list (cL a 4) (cT a 4),.list (cL a 5) (cT a 5)],.tok]) False) (R (.exit 0) c [d,g]))→Holds (wpc br Tryd.prog gl [] [] (fun o=>match o.op with| .load t _=>(match t with|125=>1|_=>0)|_=>match o.dst with|some 21=>1|_=>0) (an [1,1,0,1,0,1,0] (ai Tryd.f83)) [] (av [0,3,11,12,13] c) [d,g] (fun ex e H=>R ex (List.map e [0,3,11,12,13]) H)):Prop):=fun R h=>ag (by kernel_rfl) h
theorem Ay (l:List RwM) (J:List PV) (cap:Nat) (most:Int) (es:List (List PV)) (i:Nat):(by refine(?_:_→_→_→_→Prop) (List.drop (0+Int.toNat (i:Int)*6) (flM l++J)) (PV.arr 1 0 l.length cap) (Ob.cells (flM l++J)) (PV.int .i64 l.length); exact fun a b h j=>by refine(?_:_→_→_→_→Prop) [PV.ptr 0 0,.list es (.tok 2),b,j,.int .i64 i] [[PV.int .u32 (cI a 0)]] [b,.int .i64 most] (PV.int .u32 (cI a 0)); exact fun c f g k=>by refine(?_:_→Prop) [Ob.cells g,h,.tok]; exact fun d=>∀(R:Ex→List PV→ae→Prop),(br (decide ((i:Int)<(l.length:Int))) ((0≤(i:Int)∧(i:Int)<(l.length:Int))∧br (true && aP [.int .u32,.int .u32,.int .i64,.int .u32,.list,.list] 0 a) (aX es f 1 4∧(List.all [k] PV.one=true∧f≠[])∧R .normal [.ptr 0 0,.list (es++f) (.tok 4),b,j,.int .i64 (wI ((i:Int)+1))] [.cells g,h,.dead,.cells [k,.int .u32 (cI a 1),.int .i64 (cI a 2),.int .u32 (cI a 3),.list (cL a 4) (cT a 4),.list (cL a 5) (cT a 5)],.tok]) False) (R (.exit 0) c d))→Holds (wpc br Tryd.prog gl [] [] (fun o=>match o.op with| .load t _=>(match t with|125=>1|_=>0)|_=>match o.dst with|some 21=>1|_=>0) (an [1,1,0,1,0,1,0] (ai Tryd.f83)) [] (av [0,3,11,12,13] c) d (fun ex e H=>R ex (List.map e [0,3,11,12,13]) H)):Prop):=fun R h=>ag (by kernel_rfl) h
theorem yY (most:Int):(by refine(?_:_→_→Prop) [PV.ptr 0 0,.list [] .exact,.list [] .exact,.int .i64 0,.int .i64 0] [Ob.cells [.list [] .exact,.int .i64 most]]; exact fun a b=>∀(R:Ex→List PV→ae→Prop),(R (.exit 0) a b)→Holds (wpc br Tryd.prog gl [] [] (fun o=>match o.op with| .load t _=>(match t with|125=>1|_=>0)|_=>0) (an [1,1,0,1,0,1,0] (ai Tryd.f83)) [] (av [0,3,11,12,13] a) b (fun ex e H=>R ex (List.map e [0,3,11,12,13]) H)):Prop):=fun R h=>ag (by kernel_rfl) h
theorem Lr (l:List RwM):uni 1 (bl l):=by
 intro e he
 obtain⟨a,_,rfl⟩:=List.mem_map.1 he
 rfl
theorem p8 {l:List RwM} {i:Nat} (h:i<l.length):bl (l.take (i+1))=bl (l.take i)++[[.int .u32 (l.getD i default).id]]:=by
 unfold bl
 rw[← List.take_append_getElem h,List.map_append,bI h]; rfl
def Ah:LSp:=fun e H Q=>∃(l:List RwM) (J:List PV) (cap:Nat) (most:Int),l.length≤1000000∧(∀ y∈J,Low 2 y)∧ak (List.map e [0,3,11,12,13]) [.ptr 0 0,.list [] .exact,.arr 1 0 l.length cap,.int .i64 l.length,.int .i64 0]∧az H (da l J cap most)∧
 Q (.exit 0) (av [0,3,11,12,13] [.ptr 0 0,.list (bl l) .no,.arr 1 0 l.length cap,.int .i64 l.length,.int .i64 l.length]) (da l J cap most++[.dead])
theorem yh:∀ e H Q,Ah e H Q→AW Tryd.prog gl Tryd.f83.ntmps (.loop (an [1,1,0,1,0,1,0] (ai Tryd.f83))) Q e H:=by
 rintro e H Q ⟨l,J,cap,most,hl,hJ,he,hH,hQ⟩
 have hH2:H=da l J cap most:=hH
 refine vV (f:=fun r:RwM=>[PV.int .u32 r.id]) (T:=l) (hn:=fun o=>match o.op with| .load t _=>(match t with|125=>1|_=>0)|_=>match o.dst with|some 21=>1|_=>0) aq (.nil _ _) (.nil _ _ _ _ _) [0,3,11,12,13] (fun r i=>[.ptr 0 0,r,.arr 1 0 l.length cap,.int .i64 l.length,.int .i64 i]) (da l J cap most)
  (Ed hJ) (fun b _ x hx=>by rcases List.mem_singleton.1 hx with rfl; exact .int _ _)
  (fun es i k h=> .same (.ptr _ _ (by simp[da])) (.row h (.same (.arr _ _ _ _ (by simp[da])) (.same (.int _ _) (.same (.int _ _) .nil))))) he hH2 ?_ ?_
 ·refine Ak l J cap most _ ?_
  simp only[ay,dt]
  by_cases h:0<l.length
  ·rw[if_pos (by omega)]
   refine⟨⟨by decide,by omega⟩,?_⟩
   have e0:=oo J h
   rw[Nat.zero_mul] at e0
   rw[e0,if_pos (by rfl)]
   refine⟨⟨(by intro e he; simp at he),(by intro e he; simp at he; subst he; rfl),by simp⟩,⟨by rfl,by simp⟩,h,_,3,rfl,rfl,by simp[da],?_⟩
   have:=p8 h
   unfold bl at this
   rw[this]; rfl
  ·rw[if_neg (by omega)]
   have hm:l=[]:=List.eq_nil_of_length_eq_zero (by omega)
   subst hm
   exact⟨_,_,.cons (.refl _) (.cons (.list _ _) (.cons (.refl _) (.cons (.refl _) (.cons (.refl _) .nil)))),fu _,hQ⟩
 ·intro i h0 hi
  refine Ay l J cap most (bl (l.take i)) i _ ?_
  simp only[ay,dt,au,Nat.zero_add]
  by_cases h:i<l.length
  ·rw[if_pos (by omega)]
   refine⟨⟨by omega,by omega⟩,?_⟩
   rw[oo J h,if_pos (by rfl)]
   refine⟨⟨Lr _,(by intro e he; simp at he; subst he; rfl),by simp only[bl,List.length_map,List.length_take,List.length_cons,List.length_nil]; omega⟩,⟨by rfl,by simp⟩,h,_,4,rfl,rfl,by simp[da],?_⟩
   have:=p8 h
   unfold bl at this
   rw[this,ax h (by omega)]; rfl
  ·rw[if_neg (by omega)]
   have hm:i=l.length:=by omega
   subst hm
   rw[List.take_length]
   exact⟨_,_,.cons (.refl _) (.cons (.list _ _) (.cons (.refl _) (.cons (.refl _) (.cons (.refl _) .nil)))),gk (da l J cap most) .tok,hQ⟩
def yW:LSp:=fun e H Q=>∃(most:Int),ak (List.map e [0,3,11,12,13]) [.ptr 0 0,.list [] .exact,.list [] .exact,.int .i64 0,.int .i64 0]∧az H (jH most)∧
 Q (.exit 0) (av [0,3,11,12,13] [.ptr 0 0,.list [] .exact,.list [] .exact,.int .i64 0,.int .i64 0]) (jH most)
theorem xn:∀ e H Q,yW e H Q→AW Tryd.prog gl Tryd.f83.ntmps (.loop (an [1,1,0,1,0,1,0] (ai Tryd.f83))) Q e H:=by
 rintro e H Q ⟨most,he,hH,hQ⟩
 refine aG (hn:=fun o=>match o.op with| .load t _=>(match t with|125=>1|_=>0)|_=>0) aq (.nil _ _) (.nil _ _ _ _ _) (σ:=Unit) [0,3,11,12,13] (fun _=>True)
  (fun _=>[.ptr 0 0,.list [] .exact,.list [] .exact,.int .i64 0,.int .i64 0]) (fun _=>jH most) (fun _=>0) () trivial he hH ?_
 intro _ _
 exact yY most _ hQ
theorem DA (l:List RwM) (J:List PV) (cap:Nat) (most:Int):(by refine(?_:_→Prop) (PV.arr 1 0 l.length cap); exact fun e=>by refine(?_:_→Prop) [Ob.cells [e,.int .i64 most],.cells (flM l++J)]; exact fun d=>∀(K:PV→ae→Prop),(∃(l_1:List RwM) (J_1:List PV) (cap_1:Nat) (most_1:Int),by refine(?_:_→_→Prop) (PV.arr 1 0 l_1.length cap_1) (Ob.cells (flM l_1++J_1)); exact fun b c=>by refine(?_:_→Prop) (Ob.cells [b,.int .i64 most_1]); exact fun a=>l_1.length≤1000000∧(∀(y:PV),y∈J_1→Low 2 y)∧ak [.ptr 0 0,.list [] .exact,e,.int .i64 l.length,.int .i64 0] [.ptr 0 0,.list [] .exact,b,.int .i64 l_1.length,.int .i64 0]∧az d [a,c]∧K (.list (bl l_1) .no) [a,c,.dead])→aj Tryd.prog gl 83 [.ptr 0 0] d K:Prop):=fun K h=>ah (T:=[]) (L:=[([1,1,0,1,0,1,0],Ah)]) (fun o=>match o.op with| .load t _=>(match t with|125=>1|_=>0)|_=>0) Tryd.func83 (by kernel_rfl) (by kernel_rfl) (by kernel_rfl) (aB.nil _ _) (.cons (aH (by kernel_rfl)) yh (.nil _ _ _ _ _)) (ag (by kernel_rfl) h)
theorem DT (most:Int):(by refine(?_:_→_→Prop) [PV.ptr 0 0,.list [] .exact,.list [] .exact,.int .i64 0,.int .i64 0] [Ob.cells [.list [] .exact,.int .i64 most]]; exact fun b c=>∀(K:PV→ae→Prop),(∃(most_1:Int),by refine(?_:_→Prop) [Ob.cells [.list [] .exact,.int .i64 most_1]]; exact fun a=>ak b b∧az c a∧K (.list [] .exact) a)→aj Tryd.prog gl 83 [.ptr 0 0] c K:Prop):=fun K h=>ah (T:=[]) (L:=[([1,1,0,1,0,1,0],yW)]) (fun o=>match o.op with| .load t _=>(match t with|125=>1|_=>0)|_=>0) Tryd.func83 (by kernel_rfl) (by kernel_rfl) (by kernel_rfl) (aB.nil _ _) (.cons (aH (by kernel_rfl)) xn (.nil _ _ _ _ _)) (ag (by kernel_rfl) h)
theorem Le {l:List RwM} {most t:Int} {hh:ae} (hH:EXM l most hh) (ok:Ok l most):aj Tryd.prog gl 50 [.ptr 0 0,.int .u32 t] hh (fun x H'=>x = .tup [(let v:=aD l t; Mt.pv v),.bool (has l t)]∧dO (EXM (oz l t) most) H'):=by
 have hfull:=ok.len
 rcases hH with⟨J,cap,rfl,hc,hJ⟩|⟨rfl,rfl⟩
 ·refine Cj l J cap most t _ ⟨l,most,t,rfl,⟨_,[_],rfl,wY hc hJ⟩,ok,?_⟩
  simp only[ay]
  unfold oz
  by_cases c:has l t=true
  ·obtain⟨c1,c2⟩:=fP c
   rw[if_pos c,if_pos c]
   refine⟨l,most,t,rfl,⟨_,[_,_],rfl,wY hc hJ⟩,ok,aD l t,l,J,cap,most,lbp l t,(by show _=_; rw[ax c1 (by omega)]),rfl,c1,ok.len,hc,hJ,by first|rfl|trivial,?_⟩
   have hle:l.length-1=(l.eraseIdx (lbp l t)).length:=by rw[List.length_eraseIdx_of_lt c1]
   rw[hle]
   exact eZ (k:=0) rfl (by omega) (((iv 1).app hJ |> fun h=>by
    simp only[List.replicate,List.flatten_cons,List.flatten_nil,List.append_nil] at h
    exact h.cast (by omega)))
  ·rw[if_neg c,if_neg c]
   exact⟨by first|rfl|trivial,eZ (k:=0) rfl hc hJ⟩
 ·refine CB most t _ ⟨[],most,t,rfl,⟨_,[_],rfl,Ad⟩,ok,?_⟩
  exact⟨rfl,ja⟩
theorem Kv {l:List RwM} {most:Int} {hh:ae} (hH:EXM l most hh) (ok:Ok l most):aj Tryd.prog gl 83 [.ptr 0 0] hh (fun x H'=>x = .list (bl l) .no∧dO (EXM l most) H'):=by
 rcases hH with⟨J,cap,rfl,hc,hJ⟩|⟨rfl,rfl⟩
 ·exact DA l J cap most _ ⟨l,J,cap,most,ok.len,Kx hJ,rfl,rfl,rfl,eZ (k:=0) rfl hc hJ⟩
 ·exact gC (DT most _ ⟨most,rfl,rfl,_,_,.list _ _,.refl _,rfl,ja⟩)
def tB (args:List PV) (H:ae) (K:PV→Prop):Prop:=∃(q:Nat) (l:List RwM) (most t:Int),ak args [.ptr q 0,.int .u32 t]∧bO H q (rkM l most)∧Ok l most∧K (.tup [(let v:=aD l t; Mt.pv v),.bool (has l t)])
theorem wm:aO Tryd.prog gl 42 (.read tB):=by
 rintro args H K ⟨q,l,most,t,he,ha,ok,hk⟩
 have he:args=_:=he
 subst he
 refine⟨_,iJ aq ha cM (gj _ _) (fun hh h=>?_),hk⟩
 obtain⟨r,h1,h2⟩:=qm _ hh (fun x=>x = .tup [(let v:=aD l t; Mt.pv v),.bool (has l t)]) ⟨l,most,t,rfl,h,ok,rfl⟩
 exact aM h1 fun x H' e=>⟨e.1.trans h2,e.2▸Bo h⟩
def gJ (args:List PV) (H:ae) (K:PV→ae→Prop):Prop:=match args with
 | .ptr q 0::rest=>∃(l:List RwM) (most t:Int) (v:Mt) (t1 t2:Tail),ak rest [.int .u32 t,.agg [.int .u32 v.id,.int .i64 v.md,.int .u32 v.ins,.list (v.rows.map rrc) t1,.list (v.aa.map stc) t2]]∧bO H q (rkM l most)∧Ok l most∧K (.int .i64 (bZ l most t v).2) (H.set q (.abs (rkM (bZ l most t v).1 most)))
 | _=>False
theorem v8:aO Tryd.prog gl 40 (.heap gJ):=by
 intro args H K h
 unfold gJ at h
 split at h
 ·rename_i q rest
  obtain⟨l,most,t,v,t1,t2,he,ha,ok,hk⟩:=h
  have he:rest=_:=he
  subst he
  refine bg (.cons (.refl _) (.cons (.refl _) (.cons (.agg (.cons (.refl _) (.cons (.refl _) (.cons (.refl _) (.cons (.list _ _) (.cons (.list _ _) .nil)))))) .nil))) ?_
  refine iU aq ha (by intro y hy; simp only[List.mem_cons,List.not_mem_nil,or_false] at hy; rcases hy with rfl|rfl; exact .int _ _; exact zc v) (.int _ _) (fun hh h=>?_) hk
  exact FI _ hh _ ⟨l,most,t,v,rfl,h,ok,fun H' h'=>⟨rfl,h'⟩⟩
 ·exact h.elim
def zn (args:List PV) (H:ae) (K:PV→ae→Prop):Prop:=∃ n:Int,ak args [.int .i64 n]∧K (.ptr H.length 0) (H++[.abs (rkM [] (mxI 0 n))])
theorem FJ:aO Tryd.prog gl 25 (.heap zn):=by
 rintro args H K ⟨n,he,hk⟩
 have he:args=_:=he
 subst he
 exact aM (pT aq cM (Es n _ ⟨rfl,ja⟩)) fun _ _ e=>e.1▸e.2▸hk
def Cp (args:List PV) (H:ae) (K:PV→Prop):Prop:=∃(q:Nat) (l:List RwM) (most:Int),ak args [.ptr q 0]∧bO H q (rkM l most)∧Ok l most∧K (.list (bl l) .no)
theorem Ax (l:List RwM):Low 0 (.list (bl l) .no):=aI NT.no (by
 intro x hx
 obtain⟨c,h1,h2⟩:=List.mem_flatten.1 hx
 obtain⟨r,_,rfl⟩:=List.mem_map.1 h1
 rcases List.mem_singleton.1 h2 with rfl
 exact .int _ _)
theorem EQ:aO Tryd.prog gl 83 (.read Cp):=by
 rintro args H K ⟨q,l,most,he,ha,ok,hk⟩
 have he:args=_:=he
 subst he
 exact⟨_,iJ aq ha sY (Ax l) (fun hh h=>Kv h ok),hk⟩
def jI (args:List PV) (H:ae) (K:PV→ae→Prop):Prop:=match args with
 | .ptr q 0::rest=>∃(l:List RwM) (most t:Int),ak rest [.int .u32 t]∧bO H q (rkM l most)∧Ok l most∧K (.tup [(let v:=aD l t; Mt.pv v),.bool (has l t)]) (H.set q (.abs (rkM (oz l t) most)))
 | _=>False
theorem G4:aO Tryd.prog gl 50 (.heap jI):=by
 intro args H K h
 unfold jI at h
 split at h
 ·rename_i q rest
  obtain⟨l,most,t,he,ha,ok,hk⟩:=h
  have he:rest=_:=he
  subst he
  exact iU aq ha cM (gj _ _) (fun hh h=>Le h ok) hk
 ·exact h.elim
def TQM:Tab:=[(42,.read tB),(40,.heap gJ)]
theorem JY:aB Tryd.prog gl TQM:= .cons wm (.cons v8 (.nil _ _))
theorem EM (l:List RwM) (most t:Int) (v:Mt):(by refine(?_:_→Prop) [PV.int .u32 v.id,.int .i64 v.md,.int .u32 v.ins,.list (v.rows.map rrc) .no,.list (v.aa.map stc) .no]; exact fun c=>∀(K:PV→ae→Prop),(∃(q:Nat) (l_1:List RwM) (most_1:Int) (t_1:Int),by refine(?_:_→Prop) (Ob.cells [.int .u32 (Mt.id (aD l_1 t_1)),.int .i64 (Mt.md (aD l_1 t_1)),.int .u32 (Mt.ins (aD l_1 t_1)),.list (List.map rrc (Mt.rows (aD l_1 t_1))) .no,.list (List.map stc (Mt.aa (aD l_1 t_1))) .no]); exact fun a=>by refine(?_:_→Prop) [Ob.abs (rkM l most),.cells c,a]; exact fun b=>ak [.ptr 0 0,.int .u32 t] [.ptr q 0,.int .u32 t_1]∧bO [.abs (rkM l most),.cells c] q (rkM l_1 most_1)∧Ok l_1 most_1∧br (has l_1 t_1) (K (.int .i64 11) b) (∃(l_2:List RwM) (most_2:Int) (t_2:Int) (v_1:Mt) (t1:Tail) (t2:Tail),ak [.int .u32 t,.agg c] [.int .u32 t_2,.agg [.int .u32 v_1.id,.int .i64 v_1.md,.int .u32 v_1.ins,.list (v_1.rows.map rrc) t1,.list (v_1.aa.map stc) t2]]∧bO b 0 (rkM l_2 most_2)∧Ok l_2 most_2∧K (.int .i64 (Prod.snd (bZ l_2 most_2 t_2 v_1))) [.abs (rkM (Prod.fst (bZ l_2 most_2 t_2 v_1)) most_2),.cells c,a]))→aj Tryd.prog gl 32 [.ptr 0 0,.int .u32 t,Mt.pv v] [.abs (rkM l most)] K:Prop):=fun K h=>ah (T:=TQM) (L:=[]) (fun _=>0) Tryd.func32 (by kernel_rfl) (by kernel_rfl) (by kernel_rfl) (JY) (LOk.nil _ _ _ _ _) (ag (by kernel_rfl) h)
def jX (args:List PV) (H:ae) (K:PV→ae→Prop):Prop:=match args with
 | .ptr q 0::rest=>∃(l:List RwM) (most t:Int) (v:Mt) (t1 t2:Tail),ak rest [.int .u32 t,.agg [.int .u32 v.id,.int .i64 v.md,.int .u32 v.ins,.list (v.rows.map rrc) t1,.list (v.aa.map stc) t2]]∧bO H q (rkM l most)∧Ok l most∧K (.int .i64 (tr l most t v).2) (H.set q (.abs (rkM (tr l most t v).1 most)))
 | _=>False
theorem wD:aO Tryd.prog gl 32 (.heap jX):=by
 intro args H K h
 unfold jX at h
 split at h
 ·rename_i q rest
  obtain⟨l,most,t,v,t1,t2,he,ha,ok,hk⟩:=h
  have he:rest=_:=he
  subst he
  refine bg (.cons (.refl _) (.cons (.refl _) (.cons (.agg (.cons (.refl _) (.cons (.refl _) (.cons (.refl _) (.cons (.list _ _) (.cons (.list _ _) .nil)))))) .nil))) ?_
  refine tq aq ha (by intro y hy; simp only[List.mem_cons,List.not_mem_nil,or_false] at hy; rcases hy with rfl|rfl; exact .int _ _; exact zc v) (.int _ _) (EM l most t v _ ⟨0,l,most,t,rfl,rfl,ok,?_⟩) hk
  unfold tr
  rw[ay]
  by_cases c:has l t=true
  ·rw[if_pos c,if_pos c]
   exact⟨rfl,_,rfl⟩
  ·rw[if_neg c,if_neg c]
   exact⟨l,most,t,v,.no,.no,rfl,rfl,ok,rfl,_,rfl⟩
 ·exact h.elim
theorem oM:aO Tryd.prog gl 40 (.chg gJ):=by
 intro args H K h
 unfold gJ at h
 split at h
 ·obtain⟨l,most,t,v,t1,t2,he,ha,ok,hk⟩:=h
  exact⟨_,_,v8 _ H (fun x H1=>x=_∧H1=_) (by unfold gJ; exact⟨l,most,t,v,t1,t2,he,ha,ok,⟨rfl,rfl⟩⟩),hk⟩
 ·exact h.elim
theorem sE:aO Tryd.prog gl 50 (.chg jI):=by
 intro args H K h
 unfold jI at h
 split at h
 ·obtain⟨l,most,t,he,ha,ok,hk⟩:=h
  exact⟨_,_,G4 _ H (fun x H1=>x=_∧H1=_) (by unfold jI; exact⟨l,most,t,he,ha,ok,⟨rfl,rfl⟩⟩),hk⟩
 ·exact h.elim
def TMM (T:Tab):Tab:=(42,.read tB)::(40,.chg gJ)::(32,.heap jX)::(50,.chg jI)::(83,.read Cp)::(25,.heap zn)::T
theorem AR {T:Tab} (h:aB Tryd.prog gl T):aB Tryd.prog gl (TMM T):=(.cons wm (.cons oM (.cons wD (.cons sE (.cons EQ (.cons FJ h))))))
end Go.Proofs.YtenaelaapdhbdaaDoor
