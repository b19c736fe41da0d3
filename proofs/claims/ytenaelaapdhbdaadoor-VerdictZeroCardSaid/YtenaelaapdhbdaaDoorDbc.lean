/-
  A rack of numbers, closed.
-/
import Derived.Test.YtenaelaapdhbdaaDoorDbb
import Derived.Test.YtenaelaapdhbdaaDoorProg
namespace Go.Proofs.YtenaelaapdhbdaaDoor
open Go Go.AM Go.Proofs
theorem E7 (n:Int)  (K:PV→ae→Prop) (h:K (.ptr 0 0) [.cells [.list [] .exact,.int .i64 (mxI 0 n)]]):aj Tryd.prog gl 12 [.int .i64 n] [] K:=
 ah (T:=[]) (L:=[]) (fun _=>0) Tryd.func12 (by kernel_rfl) (by kernel_rfl) (by kernel_rfl) (aB.nil _ _) (LOk.nil _ _ _ _ _) (ag (by kernel_rfl) h)
theorem Cw (l:List RwI) (J:List PV) (cap:Nat) (most:Int):(by refine(?_:_→_→_→_→Prop) (List.drop 0 (flI l++J)) (PV.arr 1 0 l.length cap) (Ob.cells (flI l++J)) (PV.int .i64 l.length); exact fun a b g h=>by refine(?_:_→_→_→_→Prop) [PV.ptr 0 0,.list [] .exact,b,h,.int .i64 0] (Ob.cells [b,.int .i64 most]) [[PV.int .u32 (cI a 0)]] (PV.int .u32 (cI a 0)); exact fun c d f i=>∀(R:Ex→List PV→ae→Prop),(br (decide (0<(l.length:Int))) ((iI 0≤0∧0<(l.length:Int))∧br (true && aP [.int .u32,.int .i64] 0 a) (aX [] f 1 4∧(List.all [i] PV.one=true∧f≠[])∧R .normal [.ptr 0 0,.list f (.tok 3),b,h,.int .i64 1] [d,g,.cells [i,.int .i64 (cI a 1)],.tok]) False) (R (.exit 0) c [d,g]))→Holds (wpc br Tryd.prog gl [] [] (fun o=>match o.op with| .load t _=>(match t with|78=>1|_=>0)|_=>match o.dst with|some 21=>1|_=>0) (an [1,1,0,1,0,1,0] (ai Tryd.f10)) [] (av [0,3,11,12,13] c) [d,g] (fun ex e H=>R ex (List.map e [0,3,11,12,13]) H)):Prop):=fun R h=>ag (by kernel_rfl) h
theorem Ac (l:List RwI) (J:List PV) (cap:Nat) (most:Int) (es:List (List PV)) (i:Nat):(by refine(?_:_→_→_→_→Prop) (List.drop (0+Int.toNat (i:Int)*2) (flI l++J)) (PV.arr 1 0 l.length cap) (Ob.cells (flI l++J)) (PV.int .i64 l.length); exact fun a b h j=>by refine(?_:_→_→_→_→Prop) [PV.ptr 0 0,.list es (.tok 2),b,j,.int .i64 i] [[PV.int .u32 (cI a 0)]] [b,.int .i64 most] (PV.int .u32 (cI a 0)); exact fun c f g k=>by refine(?_:_→Prop) [Ob.cells g,h,.tok]; exact fun d=>∀(R:Ex→List PV→ae→Prop),(br (decide ((i:Int)<(l.length:Int))) ((0≤(i:Int)∧(i:Int)<(l.length:Int))∧br (true && aP [.int .u32,.int .i64] 0 a) (aX es f 1 4∧(List.all [k] PV.one=true∧f≠[])∧R .normal [.ptr 0 0,.list (es++f) (.tok 4),b,j,.int .i64 (wI ((i:Int)+1))] [.cells g,h,.dead,.cells [k,.int .i64 (cI a 1)],.tok]) False) (R (.exit 0) c d))→Holds (wpc br Tryd.prog gl [] [] (fun o=>match o.op with| .load t _=>(match t with|78=>1|_=>0)|_=>match o.dst with|some 21=>1|_=>0) (an [1,1,0,1,0,1,0] (ai Tryd.f10)) [] (av [0,3,11,12,13] c) d (fun ex e H=>R ex (List.map e [0,3,11,12,13]) H)):Prop):=fun R h=>ag (by kernel_rfl) h
theorem z0 (most:Int):(by refine(?_:_→_→Prop) [PV.ptr 0 0,.list [] .exact,.list [] .exact,.int .i64 0,.int .i64 0] [Ob.cells [.list [] .exact,.int .i64 most]]; exact fun a b=>∀(R:Ex→List PV→ae→Prop),(R (.exit 0) a b)→Holds (wpc br Tryd.prog gl [] [] (fun o=>match o.op with| .load t _=>(match t with|78=>1|_=>0)|_=>0) (an [1,1,0,1,0,1,0] (ai Tryd.f10)) [] (av [0,3,11,12,13] a) b (fun ex e H=>R ex (List.map e [0,3,11,12,13]) H)):Prop):=fun R h=>ag (by kernel_rfl) h
theorem Lj (l:List RwI):uni 1 (bl l):=by
 intro e he
 obtain⟨a,_,rfl⟩:=List.mem_map.1 he
 rfl
theorem p5 {l:List RwI} {i:Nat} (h:i<l.length):bl (l.take (i+1))=bl (l.take i)++[[.int .u32 (l.getD i default).id]]:=by
 unfold bl
 rw[← List.take_append_getElem h,List.map_append,bI h]; rfl
def Bc:LSp:=fun e H Q=>∃(l:List RwI) (J:List PV) (cap:Nat) (most:Int),l.length≤1000000∧(∀ y∈J,Low 2 y)∧ak (List.map e [0,3,11,12,13]) [.ptr 0 0,.list [] .exact,.arr 1 0 l.length cap,.int .i64 l.length,.int .i64 0]∧az H (gq l J cap most)∧
 Q (.exit 0) (av [0,3,11,12,13] [.ptr 0 0,.list (bl l) .no,.arr 1 0 l.length cap,.int .i64 l.length,.int .i64 l.length]) (gq l J cap most++[.dead])
theorem xe:∀ e H Q,Bc e H Q→AW Tryd.prog gl Tryd.f10.ntmps (.loop (an [1,1,0,1,0,1,0] (ai Tryd.f10))) Q e H:=by
 rintro e H Q ⟨l,J,cap,most,hl,hJ,he,hH,hQ⟩
 have hH2:H=gq l J cap most:=hH
 refine vV (f:=fun r:RwI=>[PV.int .u32 r.id]) (T:=l) (hn:=fun o=>match o.op with| .load t _=>(match t with|78=>1|_=>0)|_=>match o.dst with|some 21=>1|_=>0) aq (.nil _ _) (.nil _ _ _ _ _) [0,3,11,12,13] (fun r i=>[.ptr 0 0,r,.arr 1 0 l.length cap,.int .i64 l.length,.int .i64 i]) (gq l J cap most)
  (zQ hJ) (fun b _ x hx=>by rcases List.mem_singleton.1 hx with rfl; exact .int _ _)
  (fun es i k h=> .same (.ptr _ _ (by simp[gq])) (.row h (.same (.arr _ _ _ _ (by simp[gq])) (.same (.int _ _) (.same (.int _ _) .nil))))) he hH2 ?_ ?_
 ·refine Cw l J cap most _ ?_
  simp only[ay,dt]
  by_cases h:0<l.length
  ·rw[if_pos (by omega)]
   refine⟨⟨by decide,by omega⟩,?_⟩
   have e0:=n7 J h
   rw[Nat.zero_mul] at e0
   rw[e0,if_pos (by rfl)]
   refine⟨⟨(by intro e he; simp at he),(by intro e he; simp at he; subst he; rfl),by simp⟩,⟨by rfl,by simp⟩,h,_,3,rfl,rfl,by simp[gq],?_⟩
   have:=p5 h
   unfold bl at this
   rw[this]; rfl
  ·rw[if_neg (by omega)]
   have hm:l=[]:=List.eq_nil_of_length_eq_zero (by omega)
   subst hm
   exact⟨_,_,.cons (.refl _) (.cons (.list _ _) (.cons (.refl _) (.cons (.refl _) (.cons (.refl _) .nil)))),fu _,hQ⟩
 ·intro i h0 hi
  refine Ac l J cap most (bl (l.take i)) i _ ?_
  simp only[ay,dt,au,Nat.zero_add]
  by_cases h:i<l.length
  ·rw[if_pos (by omega)]
   refine⟨⟨by omega,by omega⟩,?_⟩
   rw[n7 J h,if_pos (by rfl)]
   refine⟨⟨Lj _,(by intro e he; simp at he; subst he; rfl),by simp only[bl,List.length_map,List.length_take,List.length_cons,List.length_nil]; omega⟩,⟨by rfl,by simp⟩,h,_,4,rfl,rfl,by simp[gq],?_⟩
   have:=p5 h
   unfold bl at this
   rw[this,ax h (by omega)]; rfl
  ·rw[if_neg (by omega)]
   have hm:i=l.length:=by omega
   subst hm
   rw[List.take_length]
   exact⟨_,_,.cons (.refl _) (.cons (.list _ _) (.cons (.refl _) (.cons (.refl _) (.cons (.refl _) .nil)))),gk (gq l J cap most) .tok,hQ⟩
def Cz:LSp:=fun e H Q=>∃(most:Int),ak (List.map e [0,3,11,12,13]) [.ptr 0 0,.list [] .exact,.list [] .exact,.int .i64 0,.int .i64 0]∧az H (pg most)∧
 Q (.exit 0) (av [0,3,11,12,13] [.ptr 0 0,.list [] .exact,.list [] .exact,.int .i64 0,.int .i64 0]) (pg most)
theorem xN:∀ e H Q,Cz e H Q→AW Tryd.prog gl Tryd.f10.ntmps (.loop (an [1,1,0,1,0,1,0] (ai Tryd.f10))) Q e H:=by
 rintro e H Q ⟨most,he,hH,hQ⟩
 refine aG (hn:=fun o=>match o.op with| .load t _=>(match t with|78=>1|_=>0)|_=>0) aq (.nil _ _) (.nil _ _ _ _ _) (σ:=Unit) [0,3,11,12,13] (fun _=>True)
  (fun _=>[.ptr 0 0,.list [] .exact,.list [] .exact,.int .i64 0,.int .i64 0]) (fun _=>pg most) (fun _=>0) () trivial he hH ?_
 intro _ _
 exact z0 most _ hQ
theorem Ae (l:List RwI) (J:List PV) (cap:Nat) (most:Int):(by refine(?_:_→Prop) (PV.arr 1 0 l.length cap); exact fun e=>by refine(?_:_→Prop) [Ob.cells [e,.int .i64 most],.cells (flI l++J)]; exact fun d=>∀(K:PV→ae→Prop),(∃(l_1:List RwI) (J_1:List PV) (cap_1:Nat) (most_1:Int),by refine(?_:_→_→Prop) (PV.arr 1 0 l_1.length cap_1) (Ob.cells (flI l_1++J_1)); exact fun b c=>by refine(?_:_→Prop) (Ob.cells [b,.int .i64 most_1]); exact fun a=>l_1.length≤1000000∧(∀(y:PV),y∈J_1→Low 2 y)∧ak [.ptr 0 0,.list [] .exact,e,.int .i64 l.length,.int .i64 0] [.ptr 0 0,.list [] .exact,b,.int .i64 l_1.length,.int .i64 0]∧az d [a,c]∧K (.list (bl l_1) .no) [a,c,.dead])→aj Tryd.prog gl 10 [.ptr 0 0] d K:Prop):=fun K h=>ah (T:=[]) (L:=[([1,1,0,1,0,1,0],Bc)]) (fun o=>match o.op with| .load t _=>(match t with|78=>1|_=>0)|_=>0) Tryd.func10 (by kernel_rfl) (by kernel_rfl) (by kernel_rfl) (aB.nil _ _) (.cons (aH (by kernel_rfl)) xe (.nil _ _ _ _ _)) (ag (by kernel_rfl) h)
theorem zo (most:Int):(by refine(?_:_→_→Prop) [PV.ptr 0 0,.list [] .exact,.list [] .exact,.int .i64 0,.int .i64 0] [Ob.cells [.list [] .exact,.int .i64 most]]; exact fun b c=>∀(K:PV→ae→Prop),(∃(most_1:Int),by refine(?_:_→Prop) [Ob.cells [.list [] .exact,.int .i64 most_1]]; exact fun a=>ak b b∧az c a∧K (.list [] .exact) a)→aj Tryd.prog gl 10 [.ptr 0 0] c K:Prop):=fun K h=>ah (T:=[]) (L:=[([1,1,0,1,0,1,0],Cz)]) (fun o=>match o.op with| .load t _=>(match t with|78=>1|_=>0)|_=>0) Tryd.func10 (by kernel_rfl) (by kernel_rfl) (by kernel_rfl) (aB.nil _ _) (.cons (aH (by kernel_rfl)) xN (.nil _ _ _ _ _)) (ag (by kernel_rfl) h)
theorem KR {l:List RwI} {most:Int} {hh:ae} (hH:EXI l most hh) (ok:Ok l most):aj Tryd.prog gl 10 [.ptr 0 0] hh (fun x H'=>x = .list (bl l) .no∧dO (EXI l most) H'):=by
 rcases hH with⟨J,cap,rfl,hc,hJ⟩|⟨rfl,rfl⟩
 ·exact Ae l J cap most _ ⟨l,J,cap,most,ok.len,Kx hJ,rfl,rfl,rfl,iT (k:=0) rfl hc hJ⟩
 ·exact gC (zo most _ ⟨most,rfl,rfl,_,_,.list _ _,.refl _,rfl,lj⟩)
def oG (args:List PV) (H:ae) (K:PV→Prop):Prop:=∃(q:Nat) (l:List RwI) (most t:Int),ak args [.ptr q 0,.int .u32 t]∧bO H q (rkI l most)∧Ok l most∧K (.tup [(let v:=aD l t; .int .i64 v),.bool (has l t)])
theorem nj:aO Tryd.prog gl 11 (.read oG):=by
 rintro args H K ⟨q,l,most,t,he,ha,ok,hk⟩
 have he:args=_:=he
 subst he
 refine⟨_,iJ aq ha cM (yC _ _) (fun hh h=>?_),hk⟩
 obtain⟨r,h1,h2⟩:=wO _ hh (fun x=>x = .tup [(let v:=aD l t; .int .i64 v),.bool (has l t)]) ⟨l,most,t,rfl,h,ok,rfl⟩
 exact aM h1 fun x H' e=>⟨e.1.trans h2,e.2▸nH h⟩
def tA (args:List PV) (H:ae) (K:PV→ae→Prop):Prop:=match args with
 | .ptr q 0::rest=>∃(l:List RwI) (most t:Int) (v:Int),ak rest [.int .u32 t,.int .i64 v]∧bO H q (rkI l most)∧Ok l most∧K (.int .i64 (bZ l most t v).2) (H.set q (.abs (rkI (bZ l most t v).1 most)))
 | _=>False
theorem q3:aO Tryd.prog gl 14 (.heap tA):=by
 intro args H K h
 unfold tA at h
 split at h
 ·rename_i q rest
  obtain⟨l,most,t,v,he,ha,ok,hk⟩:=h
  have he:rest=_:=he
  subst he
  refine iU aq ha (by intro y hy; simp only[List.mem_cons,List.not_mem_nil,or_false] at hy; rcases hy with rfl|rfl; exact .int _ _; exact HU v) (.int _ _) (fun hh h=>?_) hk
  exact Fi _ hh _ ⟨l,most,t,v,rfl,h,ok,fun H' h'=>⟨rfl,h'⟩⟩
 ·exact h.elim
def uS (args:List PV) (H:ae) (K:PV→ae→Prop):Prop:=∃ n:Int,ak args [.int .i64 n]∧K (.ptr H.length 0) (H++[.abs (rkI [] (mxI 0 n))])
theorem wh:aO Tryd.prog gl 12 (.heap uS):=by
 rintro args H K ⟨n,he,hk⟩
 have he:args=_:=he
 subst he
 exact aM (pT aq cM (E7 n _ ⟨rfl,lj⟩)) fun _ _ e=>e.1▸e.2▸hk
def ua (args:List PV) (H:ae) (K:PV→Prop):Prop:=∃(q:Nat) (l:List RwI) (most:Int),ak args [.ptr q 0]∧bO H q (rkI l most)∧Ok l most∧K (.list (bl l) .no)
theorem ot (l:List RwI):Low 0 (.list (bl l) .no):=aI NT.no (by
 intro x hx
 obtain⟨c,h1,h2⟩:=List.mem_flatten.1 hx
 obtain⟨r,_,rfl⟩:=List.mem_map.1 h1
 rcases List.mem_singleton.1 h2 with rfl
 exact .int _ _)
theorem wC:aO Tryd.prog gl 10 (.read ua):=by
 rintro args H K ⟨q,l,most,he,ha,ok,hk⟩
 have he:args=_:=he
 subst he
 exact⟨_,iJ aq ha sY (ot l) (fun hh h=>KR h ok),hk⟩
end Go.Proofs.YtenaelaapdhbdaaDoor
