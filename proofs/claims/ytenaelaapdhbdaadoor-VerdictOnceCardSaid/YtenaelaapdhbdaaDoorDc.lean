/-
  A rack of matches, closed.
-/
import Derived.Test.YtenaelaapdhbdaaDoorDb
import Derived.Test.YtenaelaapdhbdaaDoorProg
namespace Go.Proofs.YtenaelaapdhbdaaDoor
open Go Go.AM Go.Proofs
def xM (args:List PV) (H:ag) (K:PV→ag→Prop):Prop:=
 ∃(v:Mt) (l:List RwM) (J:List PV) (cap:Nat) (most:Int) (p:Nat),ak args [.arr 1 0 l.length cap,.int .i64 p,.int .i64 ((p+1:Nat):Int)]∧aC H (dg l J cap most++[.cells [.int .u32 0,.int .i64 0,.int .u32 0,.list [] .exact,.list [] .exact],.cells [.int .u32 v.id,.int .i64 v.md,.int .u32 v.ins,.list (v.rows.map rrc) .no,.list (v.aa.map stc) .no]])∧p<l.length∧l.length≤1000000∧l.length≤cap∧Room J ((cap-l.length)*6)∧
  K (.arr 1 0 (l.length-1) cap) ([.cells [.arr 1 0 l.length cap,.int .i64 most],.cells (flM (l.eraseIdx p)++(zrM++J))]++[.cells [.int .u32 0,.int .i64 0,.int .u32 0,.list [] .exact,.list [] .exact],.cells [.int .u32 v.id,.int .i64 v.md,.int .u32 v.ins,.list (v.rows.map rrc) .no,.list (v.aa.map stc) .no]])
theorem Bm:aQ Tryd.prog gl 77 (.heap xM):=by
 rintro args H K ⟨v,l,J,cap,most,p,he,hH,hp,hl,hc,hJ,hk⟩
 have he:args=_:=he
 have hH:H=_:=hH
 subst he
 subst hH
 refine fX ay (by intro y hy; simp only[List.mem_cons,List.not_mem_nil,or_false] at hy; rcases hy with rfl|rfl|rfl; exact .arr _ _ _ _ (by simp[dg]); exact .low (.int _ _); exact .low (.int _ _)) (iW (by simp[dg]) hJ.low) ?_
 refine G0 _ _ _ ⟨l,J,cap,most,p,rfl,rfl,hp,hl,hc,hJ,?_⟩
 have hz:=(iL 1).low
 simp only[List.replicate,List.flatten_cons,List.flatten_nil,List.append_nil] at hz
 exact⟨_,_,mC rfl (lQ (fun y hy=>by simp only[List.mem_cons,List.not_mem_nil,or_false] at hy; rcases hy with rfl|rfl; exact .arr _ _ _ _ (by simp[dg]); exact .low (.int _ _)) (fun y hy=> .low (jJ _ (fun y hy=>by rcases List.mem_append.1 hy with hy|hy; exact hz y hy; exact hJ.low y hy) y hy))),Lid.ren (.arr _ _ _ _ (by simp)) (fun o ho=>fu (by simpa[dg] using ho)),hk⟩
def TDM:Tab:=(77,.heap xM)::(67,.read sq)::(42,.read Av)::TGM
theorem EV:aE Tryd.prog gl TDM:= .cons Bm (.cons so (.cons H6 vN))
theorem Ea (l:List RwM) (J:List PV) (cap:Nat) (most:Int) (t:Int):(by refine(?_:_→_→_→_→Prop) (Ob.cells [.int .u32 0,.int .i64 0,.int .u32 0,.list [] .exact,.list [] .exact]) [PV.arr 1 0 l.length cap,.int .i64 most] (Ob.cells (flM l++J)) [PV.ptr 0 0,.int .u32 t]; exact fun f g h i=>∀(K:PV→ag→Prop),(∃(l_1:List RwM) (most_1:Int) (t_1:Int),by refine(?_:_→_→Prop) [PV.int .u32 (Mt.id (bQ l_1 t_1)),.int .i64 (Mt.md (bQ l_1 t_1)),.int .u32 (Mt.ins (bQ l_1 t_1)),.list (List.map rrc (Mt.rows (bQ l_1 t_1))) .no,.list (List.map stc (Mt.aa (bQ l_1 t_1))) .no] (PV.bool (has l_1 t_1)); exact fun c e=>by refine(?_:_→Prop) [Ob.cells g,h,f,.cells c]; exact fun d=>ak i [.ptr 0 0,.int .u32 t_1]∧qa l_1 most_1 [.cells g,h,f]∧Ok l_1 most_1∧br (has l_1 t_1) (∃(l_2:List RwM) (most_2:Int) (t_2:Int),ak i [.ptr 0 0,.int .u32 t_2]∧qa l_2 most_2 d∧Ok l_2 most_2∧∃(v:Mt) (l_3:List RwM) (J_1:List PV) (cap_1:Nat) (most_3:Int) (p:Nat),by refine(?_:_→_→Prop) [PV.int .u32 v.id,.int .i64 v.md,.int .u32 v.ins,.list (v.rows.map rrc) .no,.list (v.aa.map stc) .no] (PV.arr 1 0 l_3.length cap_1); exact fun a b=>ak [.arr 1 0 l.length cap,.int .i64 (↑(lbp l_2 t_2):Int),.int .i64 (wI ((↑(lbp l_2 t_2):Int)+1))] [b,.int .i64 p,.int .i64 (↑(p+1):Int)]∧aC d [.cells [b,.int .i64 most_3],.cells (flM l_3++J_1),f,.cells a]∧p<l_3.length∧l_3.length≤1000000∧l_3.length≤cap_1∧Room J_1 ((cap_1-l_3.length)*6)∧K (.tup [.agg a,e]) [.cells [.arr 1 0 (l_3.length-1) cap_1,.int .i64 most_3],.cells (flM (List.eraseIdx l_3 p)++([.int .u32 0,.int .u32 0,.int .i64 0,.int .u32 0,.list [] .exact,.list [] .exact]++J_1)),.cells a,.cells a]) (K (.tup [.agg c,e]) [.cells g,h,.cells c,.cells c]))→an Tryd.prog gl 50 i [.cells g,h] K:Prop):=fun K h=>ai (T:=TDM) (L:=[]) (fun o=>match o.op with| .load t _=>(match t with|125=>1|_=>0)|_=>0) Tryd.func50 (by kernel_rfl) (by kernel_rfl) (by kernel_rfl) (EV) (LOk.nil _ _ _ _ _) (ah (by kernel_rfl) h)
theorem DH (most t:Int):(by refine(?_:_→_→_→Prop) [PV.int .u32 0,.int .i64 0,.int .u32 0,.list [] .exact,.list [] .exact] [PV.list [] .exact,.int .i64 most] [PV.ptr 0 0,.int .u32 t]; exact fun f g h=>∀(K:PV→ag→Prop),(∃(l:List RwM) (most_1:Int) (t_1:Int),by refine(?_:_→Prop) [PV.int .u32 (Mt.id (bQ l t_1)),.int .i64 (Mt.md (bQ l t_1)),.int .u32 (Mt.ins (bQ l t_1)),.list (List.map rrc (Mt.rows (bQ l t_1))) .no,.list (List.map stc (Mt.aa (bQ l t_1))) .no]; exact fun d=>by refine(?_:_→Prop) [Ob.cells g,.cells f,.cells d]; exact fun e=>ak h [.ptr 0 0,.int .u32 t_1]∧qa l most_1 [.cells g,.cells f]∧Ok l most_1∧br (has l t_1) (∃(l_1:List RwM) (most_2:Int) (t_2:Int),ak h [.ptr 0 0,.int .u32 t_2]∧qa l_1 most_2 e∧Ok l_1 most_2∧∃(v:Mt) (l_2:List RwM) (J:List PV) (cap:Nat) (most_3:Int) (p:Nat),by refine(?_:_→_→_→Prop) (flM (List.eraseIdx l_2 p)++([.int .u32 0,.int .u32 0,.int .i64 0,.int .u32 0,.list [] .exact,.list [] .exact]++J)) (Ob.cells [.int .u32 v.id,.int .i64 v.md,.int .u32 v.ins,.list (v.rows.map rrc) .no,.list (v.aa.map stc) .no]) (PV.arr 1 0 l_2.length cap); exact fun a b c=>ak [.list [] .exact,.int .i64 (↑(lbp l_1 t_2):Int),.int .i64 (wI ((↑(lbp l_1 t_2):Int)+1))] [c,.int .i64 p,.int .i64 (↑(p+1):Int)]∧aC e [.cells [c,.int .i64 most_3],.cells (flM l_2++J),.cells f,b]∧p<l_2.length∧l_2.length≤1000000∧l_2.length≤cap∧Room J ((cap-l_2.length)*6)∧br (true && decide (5≤List.length a) && cQ 0 1 0 5) (K (.tup [.agg f,.bool (has l t_1)]) [.cells [.arr 1 0 (l_2.length-1) cap,.int .i64 most_3],.cells (over a 0 f),.cells f,b]) False) (K (.tup [.agg d,.bool (has l t_1)]) [.cells g,.cells d,.cells d]))→an Tryd.prog gl 50 h [.cells g] K:Prop):=fun K h=>ai (T:=TDM) (L:=[]) (fun o=>match o.op with| .load t _=>(match t with|125=>1|_=>0)|_=>0) Tryd.func50 (by kernel_rfl) (by kernel_rfl) (by kernel_rfl) (EV) (LOk.nil _ _ _ _ _) (ah (by kernel_rfl) h)
theorem Gs (n:Int)  (K:PV→ag→Prop) (h:K (.ptr 0 0) [.cells [.list [] .exact,.int .i64 (mxI 0 n)]]):an Tryd.prog gl 25 [.int .i64 n] [] K:=
 ai (T:=[]) (L:=[]) (fun _=>0) Tryd.func25 (by kernel_rfl) (by kernel_rfl) (by kernel_rfl) (aE.nil _ _) (LOk.nil _ _ _ _ _) (ah (by kernel_rfl) h)
theorem CO (l:List RwM) (J:List PV) (cap:Nat) (most:Int):(by refine(?_:_→_→_→_→Prop) (List.drop 0 (flM l++J)) (PV.arr 1 0 l.length cap) (Ob.cells (flM l++J)) (PV.int .i64 l.length); exact fun a b g h=>by refine(?_:_→_→_→_→Prop) [PV.ptr 0 0,.list [] .exact,b,h,.int .i64 0] (Ob.cells [b,.int .i64 most]) [[PV.int .u32 (cI a 0)]] (PV.int .u32 (cI a 0)); exact fun c d f i=>∀(R:Ex→List PV→ag→Prop),(br (decide (0<(l.length:Int))) ((iI 0≤0∧0<(l.length:Int))∧br (true && aH [.int .u32,.int .u32,.int .i64,.int .u32,.list,.list] 0 a) (bf [] f 1 4∧(List.all [i] PV.one=true∧f≠[])∧R .normal [.ptr 0 0,.list f (.tok 3),b,h,.int .i64 1] [d,g,.cells [i,.int .u32 (cI a 1),.int .i64 (cI a 2),.int .u32 (cI a 3),.list (cL a 4) (cT a 4),.list (cL a 5) (cT a 5)],.tok]) False) (R (.exit 0) c [d,g]))→Holds (wpc br Tryd.prog gl [] [] (fun o=>match o.op with| .load t _=>(match t with|125=>1|_=>0)|_=>match o.dst with|some 21=>1|_=>0) (av [1,1,0,1,0,1,0] (aj Tryd.f83)) [] (ax [0,3,11,12,13] c) [d,g] (fun ex e H=>R ex (List.map e [0,3,11,12,13]) H)):Prop):=fun R h=>ah (by kernel_rfl) h
theorem C6 (l:List RwM) (J:List PV) (cap:Nat) (most:Int) (es:List (List PV)) (i:Nat):(by refine(?_:_→_→_→_→Prop) (List.drop (0+Int.toNat (i:Int)*6) (flM l++J)) (PV.arr 1 0 l.length cap) (Ob.cells (flM l++J)) (PV.int .i64 l.length); exact fun a b h j=>by refine(?_:_→_→_→_→Prop) [PV.ptr 0 0,.list es (.tok 2),b,j,.int .i64 i] [[PV.int .u32 (cI a 0)]] [b,.int .i64 most] (PV.int .u32 (cI a 0)); exact fun c f g k=>by refine(?_:_→Prop) [Ob.cells g,h,.tok]; exact fun d=>∀(R:Ex→List PV→ag→Prop),(br (decide ((i:Int)<(l.length:Int))) ((0≤(i:Int)∧(i:Int)<(l.length:Int))∧br (true && aH [.int .u32,.int .u32,.int .i64,.int .u32,.list,.list] 0 a) (bf es f 1 4∧(List.all [k] PV.one=true∧f≠[])∧R .normal [.ptr 0 0,.list (es++f) (.tok 4),b,j,.int .i64 (wI ((i:Int)+1))] [.cells g,h,.dead,.cells [k,.int .u32 (cI a 1),.int .i64 (cI a 2),.int .u32 (cI a 3),.list (cL a 4) (cT a 4),.list (cL a 5) (cT a 5)],.tok]) False) (R (.exit 0) c d))→Holds (wpc br Tryd.prog gl [] [] (fun o=>match o.op with| .load t _=>(match t with|125=>1|_=>0)|_=>match o.dst with|some 21=>1|_=>0) (av [1,1,0,1,0,1,0] (aj Tryd.f83)) [] (ax [0,3,11,12,13] c) d (fun ex e H=>R ex (List.map e [0,3,11,12,13]) H)):Prop):=fun R h=>ah (by kernel_rfl) h
theorem BK (most:Int):(by refine(?_:_→_→Prop) [PV.ptr 0 0,.list [] .exact,.list [] .exact,.int .i64 0,.int .i64 0] [Ob.cells [.list [] .exact,.int .i64 most]]; exact fun a b=>∀(R:Ex→List PV→ag→Prop),(R (.exit 0) a b)→Holds (wpc br Tryd.prog gl [] [] (fun o=>match o.op with| .load t _=>(match t with|125=>1|_=>0)|_=>0) (av [1,1,0,1,0,1,0] (aj Tryd.f83)) [] (ax [0,3,11,12,13] a) b (fun ex e H=>R ex (List.map e [0,3,11,12,13]) H)):Prop):=fun R h=>ah (by kernel_rfl) h
theorem MB (l:List RwM):uni 1 (jN l):=by
 intro e he
 obtain⟨a,_,rfl⟩:=List.mem_map.1 he
 rfl
theorem qC {l:List RwM} {i:Nat} (h:i<l.length):jN (l.take (i+1))=jN (l.take i)++[[.int .u32 (l.getD i default).id]]:=by
 unfold jN
 rw[← List.take_append_getElem h,List.map_append,bX h]; rfl
def AX:LSp:=fun e H Q=>∃(l:List RwM) (J:List PV) (cap:Nat) (most:Int),l.length≤1000000∧(∀ y∈J,Low 2 y)∧ak (List.map e [0,3,11,12,13]) [.ptr 0 0,.list [] .exact,.arr 1 0 l.length cap,.int .i64 l.length,.int .i64 0]∧aC H (dg l J cap most)∧
 Q (.exit 0) (ax [0,3,11,12,13] [.ptr 0 0,.list (jN l) .no,.arr 1 0 l.length cap,.int .i64 l.length,.int .i64 l.length]) (dg l J cap most++[.dead])
theorem yO:∀ e H Q,AX e H Q→AW Tryd.prog gl Tryd.f83.ntmps (.loop (av [1,1,0,1,0,1,0] (aj Tryd.f83))) Q e H:=by
 rintro e H Q ⟨l,J,cap,most,hl,hJ,he,hH,hQ⟩
 have hH2:H=dg l J cap most:=hH
 refine G8 (f:=fun r:RwM=>[PV.int .u32 r.id]) (T:=l) (hn:=fun o=>match o.op with| .load t _=>(match t with|125=>1|_=>0)|_=>match o.dst with|some 21=>1|_=>0) ay (.nil _ _) (.nil _ _ _ _ _) [0,3,11,12,13] (fun r i=>[.ptr 0 0,r,.arr 1 0 l.length cap,.int .i64 l.length,.int .i64 i]) (dg l J cap most)
  (E9 hJ) (fun b _ x hx=>by rcases List.mem_singleton.1 hx with rfl; exact .int _ _)
  (fun es i k h=> .same (.ptr _ _ (by simp[dg])) (.row h (.same (.arr _ _ _ _ (by simp[dg])) (.same (.int _ _) (.same (.int _ _) .nil))))) he hH2 ?_ ?_
 ·refine CO l J cap most _ ?_
  simp only[az,dt]
  by_cases h:0<l.length
  ·rw[if_pos (by omega)]
   refine⟨⟨by decide,by omega⟩,?_⟩
   have e0:=oq J h
   rw[Nat.zero_mul] at e0
   rw[e0,if_pos (by rfl)]
   refine⟨⟨(by intro e he; simp at he),(by intro e he; simp at he; subst he; rfl),by simp⟩,⟨by rfl,by simp⟩,h,_,3,rfl,rfl,by simp[dg],?_⟩
   have:=qC h
   unfold jN at this
   rw[this]; rfl
  ·rw[if_neg (by omega)]
   have hm:l=[]:=List.eq_nil_of_length_eq_zero (by omega)
   subst hm
   exact⟨_,_,.cons (.refl _) (.cons (.list _ _) (.cons (.refl _) (.cons (.refl _) (.cons (.refl _) .nil)))),jf _,hQ⟩
 ·intro i h0 hi
  refine C6 l J cap most (jN (l.take i)) i _ ?_
  simp only[az,dt,au,Nat.zero_add]
  by_cases h:i<l.length
  ·rw[if_pos (by omega)]
   refine⟨⟨by omega,by omega⟩,?_⟩
   rw[oq J h,if_pos (by rfl)]
   refine⟨⟨MB _,(by intro e he; simp at he; subst he; rfl),by simp only[jN,List.length_map,List.length_take,List.length_cons,List.length_nil]; omega⟩,⟨by rfl,by simp⟩,h,_,4,rfl,rfl,by simp[dg],?_⟩
   have:=qC h
   unfold jN at this
   rw[this,aA h (by omega)]; rfl
  ·rw[if_neg (by omega)]
   have hm:i=l.length:=by omega
   subst hm
   rw[List.take_length]
   exact⟨_,_,.cons (.refl _) (.cons (.list _ _) (.cons (.refl _) (.cons (.refl _) (.cons (.refl _) .nil)))),kK (dg l J cap most) .tok,hQ⟩
def EG:LSp:=fun e H Q=>∃(most:Int),ak (List.map e [0,3,11,12,13]) [.ptr 0 0,.list [] .exact,.list [] .exact,.int .i64 0,.int .i64 0]∧aC H (kB most)∧
 Q (.exit 0) (ax [0,3,11,12,13] [.ptr 0 0,.list [] .exact,.list [] .exact,.int .i64 0,.int .i64 0]) (kB most)
theorem zQ:∀ e H Q,EG e H Q→AW Tryd.prog gl Tryd.f83.ntmps (.loop (av [1,1,0,1,0,1,0] (aj Tryd.f83))) Q e H:=by
 rintro e H Q ⟨most,he,hH,hQ⟩
 refine aL (hn:=fun o=>match o.op with| .load t _=>(match t with|125=>1|_=>0)|_=>0) ay (.nil _ _) (.nil _ _ _ _ _) (σ:=Unit) [0,3,11,12,13] (fun _=>True)
  (fun _=>[.ptr 0 0,.list [] .exact,.list [] .exact,.int .i64 0,.int .i64 0]) (fun _=>kB most) (fun _=>0) () trivial he hH ?_
 intro _ _
 exact BK most _ hQ
theorem z6 (l:List RwM) (J:List PV) (cap:Nat) (most:Int):(by refine(?_:_→Prop) (PV.arr 1 0 l.length cap); exact fun e=>by refine(?_:_→Prop) [Ob.cells [e,.int .i64 most],.cells (flM l++J)]; exact fun d=>∀(K:PV→ag→Prop),(∃(l_1:List RwM) (J_1:List PV) (cap_1:Nat) (most_1:Int),by refine(?_:_→_→Prop) (PV.arr 1 0 l_1.length cap_1) (Ob.cells (flM l_1++J_1)); exact fun b c=>by refine(?_:_→Prop) (Ob.cells [b,.int .i64 most_1]); exact fun a=>l_1.length≤1000000∧(∀(y:PV),y∈J_1→Low 2 y)∧ak [.ptr 0 0,.list [] .exact,e,.int .i64 l.length,.int .i64 0] [.ptr 0 0,.list [] .exact,b,.int .i64 l_1.length,.int .i64 0]∧aC d [a,c]∧K (.list (jN l_1) .no) [a,c,.dead])→an Tryd.prog gl 83 [.ptr 0 0] d K:Prop):=fun K h=>ai (T:=[]) (L:=[([1,1,0,1,0,1,0],AX)]) (fun o=>match o.op with| .load t _=>(match t with|125=>1|_=>0)|_=>0) Tryd.func83 (by kernel_rfl) (by kernel_rfl) (by kernel_rfl) (aE.nil _ _) (.cons (aK (by kernel_rfl)) yO (.nil _ _ _ _ _)) (ah (by kernel_rfl) h)
theorem B3 (most:Int):(by refine(?_:_→_→Prop) [PV.ptr 0 0,.list [] .exact,.list [] .exact,.int .i64 0,.int .i64 0] [Ob.cells [.list [] .exact,.int .i64 most]]; exact fun b c=>∀(K:PV→ag→Prop),(∃(most_1:Int),by refine(?_:_→Prop) [Ob.cells [.list [] .exact,.int .i64 most_1]]; exact fun a=>ak b b∧aC c a∧K (.list [] .exact) a)→an Tryd.prog gl 83 [.ptr 0 0] c K:Prop):=fun K h=>ai (T:=[]) (L:=[([1,1,0,1,0,1,0],EG)]) (fun o=>match o.op with| .load t _=>(match t with|125=>1|_=>0)|_=>0) Tryd.func83 (by kernel_rfl) (by kernel_rfl) (by kernel_rfl) (aE.nil _ _) (.cons (aK (by kernel_rfl)) zQ (.nil _ _ _ _ _)) (ah (by kernel_rfl) h)
theorem MC {l:List RwM} {most t:Int} {hh:ag} (hH:EXM l most hh) (ok:Ok l most):an Tryd.prog gl 50 [.ptr 0 0,.int .u32 t] hh (fun x H'=>x = .tup [(let v:=bQ l t; Mt.pv v),.bool (has l t)]∧eC (EXM (oP l t) most) H'):=by
 have hfull:=ok.len
 rcases hH with⟨J,cap,rfl,hc,hJ⟩|⟨rfl,rfl⟩
 ·refine Ea l J cap most t _ ⟨l,most,t,rfl,⟨_,[_],rfl,yh hc hJ⟩,ok,?_⟩
  simp only[az]
  unfold oP
  by_cases c:has l t=true
  ·obtain⟨c1,c2⟩:=gq c
   rw[if_pos c,if_pos c]
   refine⟨l,most,t,rfl,⟨_,[_,_],rfl,yh hc hJ⟩,ok,bQ l t,l,J,cap,most,lbp l t,(by show _=_; rw[aA c1 (by omega)]),rfl,c1,ok.len,hc,hJ,by first|rfl|trivial,?_⟩
   have hle:l.length-1=(l.eraseIdx (lbp l t)).length:=by rw[List.length_eraseIdx_of_lt c1]
   rw[hle]
   exact fz (k:=0) rfl (by omega) (((iL 1).app hJ |> fun h=>by
    simp only[List.replicate,List.flatten_cons,List.flatten_nil,List.append_nil] at h
    exact h.cast (by omega)))
  ·rw[if_neg c,if_neg c]
   exact⟨by first|rfl|trivial,fz (k:=0) rfl hc hJ⟩
 ·refine DH most t _ ⟨[],most,t,rfl,⟨_,[_],rfl,Ev⟩,ok,?_⟩
  exact⟨rfl,jn⟩
theorem LS {l:List RwM} {most:Int} {hh:ag} (hH:EXM l most hh) (ok:Ok l most):an Tryd.prog gl 83 [.ptr 0 0] hh (fun x H'=>x = .list (jN l) .no∧eC (EXM l most) H'):=by
 rcases hH with⟨J,cap,rfl,hc,hJ⟩|⟨rfl,rfl⟩
 ·exact z6 l J cap most _ ⟨l,J,cap,most,ok.len,Ms hJ,rfl,rfl,rfl,fz (k:=0) rfl hc hJ⟩
 ·exact lX (B3 most _ ⟨most,rfl,rfl,_,_,.list _ _,.refl _,rfl,jn⟩)
def vq (args:List PV) (H:ag) (K:PV→Prop):Prop:=∃(q:Nat) (l:List RwM) (most t:Int),ak args [.ptr q 0,.int .u32 t]∧bH H q (rkM l most)∧Ok l most∧K (.tup [(let v:=bQ l t; Mt.pv v),.bool (has l t)])
theorem xE:aQ Tryd.prog gl 42 (.read vq):=by
 rintro args H K ⟨q,l,most,t,he,ha,ok,hk⟩
 have he:args=_:=he
 subst he
 refine⟨_,mo ay ha cU (gF _ _) (fun hh h=>?_),hk⟩
 obtain⟨r,h1,h2⟩:=rP _ hh (fun x=>x = .tup [(let v:=bQ l t; Mt.pv v),.bool (has l t)]) ⟨l,most,t,rfl,h,ok,rfl⟩
 exact aP h1 fun x H' e=>⟨e.1.trans h2,e.2▸Aq h⟩
def gO (args:List PV) (H:ag) (K:PV→ag→Prop):Prop:=match args with
 | .ptr q 0::rest=>∃(l:List RwM) (most t:Int) (v:Mt) (t1 t2:Tail),ak rest [.int .u32 t,.agg [.int .u32 v.id,.int .i64 v.md,.int .u32 v.ins,.list (v.rows.map rrc) t1,.list (v.aa.map stc) t2]]∧bH H q (rkM l most)∧Ok l most∧K (.int .i64 (de l most t v).2) (H.set q (.abs (rkM (de l most t v).1 most)))
 | _=>False
theorem xl:aQ Tryd.prog gl 40 (.heap gO):=by
 intro args H K h
 unfold gO at h
 split at h
 ·rename_i q rest
  obtain⟨l,most,t,v,t1,t2,he,ha,ok,hk⟩:=h
  have he:rest=_:=he
  subst he
  refine bw (.cons (.refl _) (.cons (.refl _) (.cons (.agg (.cons (.refl _) (.cons (.refl _) (.cons (.refl _) (.cons (.list _ _) (.cons (.list _ _) .nil)))))) .nil))) ?_
  refine ju ay ha (by intro y hy; simp only[List.mem_cons,List.not_mem_nil,or_false] at hy; rcases hy with rfl|rfl; exact .int _ _; exact AN v) (.int _ _) (fun hh h=>?_) hk
  exact FW _ hh _ ⟨l,most,t,v,rfl,h,ok,fun H' h'=>⟨rfl,h'⟩⟩
 ·exact h.elim
def EJ (args:List PV) (H:ag) (K:PV→ag→Prop):Prop:=∃ n:Int,ak args [.int .i64 n]∧K (.ptr H.length 0) (H++[.abs (rkM [] (mxI 0 n))])
theorem Hz:aQ Tryd.prog gl 25 (.heap EJ):=by
 rintro args H K ⟨n,he,hk⟩
 have he:args=_:=he
 subst he
 exact aP (qU ay cU (Gs n _ ⟨rfl,jn⟩)) fun _ _ e=>e.1▸e.2▸hk
def BU (args:List PV) (H:ag) (K:PV→Prop):Prop:=∃(q:Nat) (l:List RwM) (most:Int),ak args [.ptr q 0]∧bH H q (rkM l most)∧Ok l most∧K (.list (jN l) .no)
theorem As (l:List RwM):Low 0 (.list (jN l) .no):=aO NT.no (by
 intro x hx
 obtain⟨c,h1,h2⟩:=List.mem_flatten.1 hx
 obtain⟨r,_,rfl⟩:=List.mem_map.1 h1
 rcases List.mem_singleton.1 h2 with rfl
 exact .int _ _)
theorem Hh:aQ Tryd.prog gl 83 (.read BU):=by
 rintro args H K ⟨q,l,most,he,ha,ok,hk⟩
 have he:args=_:=he
 subst he
 exact⟨_,mo ay ha Fc (As l) (fun hh h=>LS h ok),hk⟩
def jY (args:List PV) (H:ag) (K:PV→ag→Prop):Prop:=match args with
 | .ptr q 0::rest=>∃(l:List RwM) (most t:Int),ak rest [.int .u32 t]∧bH H q (rkM l most)∧Ok l most∧K (.tup [(let v:=bQ l t; Mt.pv v),.bool (has l t)]) (H.set q (.abs (rkM (oP l t) most)))
 | _=>False
theorem Fh:aQ Tryd.prog gl 50 (.heap jY):=by
 intro args H K h
 unfold jY at h
 split at h
 ·rename_i q rest
  obtain⟨l,most,t,he,ha,ok,hk⟩:=h
  have he:rest=_:=he
  subst he
  exact ju ay ha cU (gF _ _) (fun hh h=>MC h ok) hk
 ·exact h.elim
def TQM:Tab:=[(42,.read vq),(40,.heap gO)]
theorem JR:aE Tryd.prog gl TQM:= .cons xE (.cons xl (.nil _ _))
theorem Ij (l:List RwM) (most t:Int) (v:Mt):(by refine(?_:_→Prop) [PV.int .u32 v.id,.int .i64 v.md,.int .u32 v.ins,.list (v.rows.map rrc) .no,.list (v.aa.map stc) .no]; exact fun c=>∀(K:PV→ag→Prop),(∃(q:Nat) (l_1:List RwM) (most_1:Int) (t_1:Int),by refine(?_:_→Prop) (Ob.cells [.int .u32 (Mt.id (bQ l_1 t_1)),.int .i64 (Mt.md (bQ l_1 t_1)),.int .u32 (Mt.ins (bQ l_1 t_1)),.list (List.map rrc (Mt.rows (bQ l_1 t_1))) .no,.list (List.map stc (Mt.aa (bQ l_1 t_1))) .no]); exact fun a=>by refine(?_:_→Prop) [Ob.abs (rkM l most),.cells c,a]; exact fun b=>ak [.ptr 0 0,.int .u32 t] [.ptr q 0,.int .u32 t_1]∧bH [.abs (rkM l most),.cells c] q (rkM l_1 most_1)∧Ok l_1 most_1∧br (has l_1 t_1) (K (.int .i64 11) b) (∃(l_2:List RwM) (most_2:Int) (t_2:Int) (v_1:Mt) (t1:Tail) (t2:Tail),ak [.int .u32 t,.agg c] [.int .u32 t_2,.agg [.int .u32 v_1.id,.int .i64 v_1.md,.int .u32 v_1.ins,.list (v_1.rows.map rrc) t1,.list (v_1.aa.map stc) t2]]∧bH b 0 (rkM l_2 most_2)∧Ok l_2 most_2∧K (.int .i64 (Prod.snd (de l_2 most_2 t_2 v_1))) [.abs (rkM (Prod.fst (de l_2 most_2 t_2 v_1)) most_2),.cells c,a]))→an Tryd.prog gl 32 [.ptr 0 0,.int .u32 t,Mt.pv v] [.abs (rkM l most)] K:Prop):=fun K h=>ai (T:=TQM) (L:=[]) (fun _=>0) Tryd.func32 (by kernel_rfl) (by kernel_rfl) (by kernel_rfl) (JR) (LOk.nil _ _ _ _ _) (ah (by kernel_rfl) h)
def kA (args:List PV) (H:ag) (K:PV→ag→Prop):Prop:=match args with
 | .ptr q 0::rest=>∃(l:List RwM) (most t:Int) (v:Mt) (t1 t2:Tail),ak rest [.int .u32 t,.agg [.int .u32 v.id,.int .i64 v.md,.int .u32 v.ins,.list (v.rows.map rrc) t1,.list (v.aa.map stc) t2]]∧bH H q (rkM l most)∧Ok l most∧K (.int .i64 (s8 l most t v).2) (H.set q (.abs (rkM (s8 l most t v).1 most)))
 | _=>False
theorem yf:aQ Tryd.prog gl 32 (.heap kA):=by
 intro args H K h
 unfold kA at h
 split at h
 ·rename_i q rest
  obtain⟨l,most,t,v,t1,t2,he,ha,ok,hk⟩:=h
  have he:rest=_:=he
  subst he
  refine bw (.cons (.refl _) (.cons (.refl _) (.cons (.agg (.cons (.refl _) (.cons (.refl _) (.cons (.refl _) (.cons (.list _ _) (.cons (.list _ _) .nil)))))) .nil))) ?_
  refine sW ay ha (by intro y hy; simp only[List.mem_cons,List.not_mem_nil,or_false] at hy; rcases hy with rfl|rfl; exact .int _ _; exact AN v) (.int _ _) (Ij l most t v _ ⟨0,l,most,t,rfl,rfl,ok,?_⟩) hk
  unfold s8
  rw[az]
  by_cases c:has l t=true
  ·rw[if_pos c,if_pos c]
   exact⟨rfl,_,rfl⟩
  ·rw[if_neg c,if_neg c]
   exact⟨l,most,t,v,.no,.no,rfl,rfl,ok,rfl,_,rfl⟩
 ·exact h.elim
theorem oB:aQ Tryd.prog gl 40 (.chg gO):=by
 intro args H K h
 unfold gO at h
 split at h
 ·obtain⟨l,most,t,v,t1,t2,he,ha,ok,hk⟩:=h
  exact⟨_,_,xl _ H (fun x H1=>x=_∧H1=_) (by unfold gO; exact⟨l,most,t,v,t1,t2,he,ha,ok,⟨rfl,rfl⟩⟩),hk⟩
 ·exact h.elim
theorem uv:aQ Tryd.prog gl 50 (.chg jY):=by
 intro args H K h
 unfold jY at h
 split at h
 ·obtain⟨l,most,t,he,ha,ok,hk⟩:=h
  exact⟨_,_,Fh _ H (fun x H1=>x=_∧H1=_) (by unfold jY; exact⟨l,most,t,he,ha,ok,⟨rfl,rfl⟩⟩),hk⟩
 ·exact h.elim
def TMM (T:Tab):Tab:=(42,.read vq)::(40,.chg gO)::(32,.heap kA)::(50,.chg jY)::(83,.read BU)::(25,.heap EJ)::T
theorem z1 {T:Tab} (h:aE Tryd.prog gl T):aE Tryd.prog gl (TMM T):=(.cons xE (.cons oB (.cons yf (.cons uv (.cons Hh (.cons Hz h))))))
end Go.Proofs.YtenaelaapdhbdaaDoor
