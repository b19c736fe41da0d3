/-
  The table's methods: Open, in part.
-/
import Derived.Test.YtenaelaapdhbdaaDoorDg
import Derived.Test.YtenaelaapdhbdaaDoorA3
import Derived.Test.YtenaelaapdhbdaaDoorProg
namespace Go.Proofs.YtenaelaapdhbdaaDoor
open Go Go.AM Go.Proofs
theorem gK (r:Se):(stc r).length=6:=bK r
theorem w9 (l:List Se) {J:List PV} (h:∀ y∈J,y.one=true):∀ y∈flS l++J,y.one=true:=by
 intro y hy
 rcases List.mem_append.1 hy with h1|h1
 ·obtain⟨c,h2,h3⟩:=List.mem_flatten.1 h1
  obtain⟨a,_,rfl⟩:=List.mem_map.1 h2
  exact dX a y h3
 ·exact h y h1
theorem FF:aO Tryd.prog gl 92 (.ext dw):=
 iq (t:=44) (e:=110) (b:=true) (sz:=6) Tryd.func92 (by kernel_rfl) (by kernel_rfl) (by kernel_rfl) (by kernel_rfl) (by kernel_rfl) (by kernel_rfl) (by kernel_rfl)
def TIS:Tab:=[(92,.ext dw)]
theorem zW:aB Tryd.prog gl TIS:= .cons FF (.nil _ _)
theorem zN (l:List Se) (J:List PV) (cap:Nat) (r:Se) (p:Nat):(by refine(?_:_→_→_→_→_→_→_→_→Prop) ((p:Int)+(1:Int)) ((l.length:Int)+(1:Int)) (Int.toNat (l.length:Int)-Int.toNat (p:Int)) [PV.int .u32 r.pl,.int .i64 r.tm,.int .i64 r.nu,.int .i64 r.st,.int .i64 r.un,.int .u64 r.no] [PV.int .u32 0,.int .i64 0,.int .i64 0,.int .i64 0,.int .i64 0,.int .u64 0] (Int.toNat (cap:Int)-0) (Ob.cells (flS l++J)) (Int.toNat (p:Int)-0); exact fun i m o q s t x z=>by refine(?_:_→_→_→_→_→Prop) (↑t:Int) q (List.take (o*6) (List.drop (if Int.toNat (cap:Int)=Int.toNat (p:Int) then 0 else 0+Int.toNat (p:Int)*6) (flS l++J))) (wI m-(p:Int)) (Int.toNat (wI m)-0); exact fun g h j u A=>by refine(?_:_→_→Prop) (↑A:Int) (Int.toNat (p:Int)-0+Int.toNat (wI u)); exact fun d f=>by refine(?_:_→_→_→_→Prop) (Int.toNat d-Int.toNat (p:Int)) (Int.toNat (↑f:Int)-Int.toNat (p:Int)) (Int.toNat (↑f:Int)-Int.toNat (wI i)) (Int.toNat d-Int.toNat (wI i)); exact fun n v w y=>by refine(?_:_→Prop) (List.take (n*6) (List.drop (if Int.toNat g=Int.toNat (p:Int) then if Int.toNat (cap:Int)=0 then 0 else 0 else(if Int.toNat (cap:Int)=0 then 0 else 0)+Int.toNat (p:Int)*6) (flS l++J))); exact fun e=>by refine(?_:_→Prop) (over (flS l++J) (if Int.toNat g=Int.toNat (wI i) then if Int.toNat (cap:Int)=0 then 0 else 0 else(if Int.toNat (cap:Int)=0 then 0 else 0)+Int.toNat (wI i)*6) (List.take (min n y*6) e)); exact fun k=>∀(K:PV→ae→Prop),((0≤(p:Int)∧(p:Int)≤(l.length:Int)∧(l.length:Int)≤(cap:Int)∧(cap:Int)≤(cap:Int))∧br ((p:Int) == (l.length:Int)) ((l.length≤cap∧0+cap*6≤List.length (flS l++J)∧6=6∧List.all h PV.one=true∧(l.length+1)*48≤140737488355328)∧(l.length+1≤cap→K (.arr 0 0 (l.length+1) cap) [.cells (over (flS l++J) (0+l.length*6) h)])∧(cap<l.length+1→∀(c:Nat),l.length+1≤c→K (.arr 1 0 (l.length+1) c) [x,.cells (List.take (l.length*6) (List.drop 0 (flS l++J))++h++List.flatten (List.replicate (c-(l.length+1)) s))])) (br (decide (wI m>(cap:Int))) ((iI 0≤0∧0≤(p:Int)∧(p:Int)≤(cap:Int)∧(cap:Int)≤(cap:Int))∧(Int.toNat (p:Int)-0≤Int.toNat (cap:Int)-0∧(if Int.toNat (cap:Int)=0 then 0 else 0)+t*6≤List.length (flS l++J)∧0≤wI u∧Int.toNat (cap:Int)-0<Int.toNat (p:Int)-0+Int.toNat (wI u)∧f*48≤140737488355328)∧∀(c:Nat),by refine(?_:_→Prop) (List.take (z*6) (List.drop (if Int.toNat (cap:Int)=0 then 0 else 0) (flS l++J))++List.flatten (List.replicate (c-z) s)); exact fun b=>by refine(?_:_→Prop) (over b (if Int.toNat (c:Int)=Int.toNat (p:Int) then 0 else 0+Int.toNat (p:Int)*6) (List.take (min 1 v*6) h)); exact fun a=>Int.toNat (p:Int)-0+Int.toNat (wI u)≤c→(0≤(p:Int)∧(p:Int)≤(↑f:Int)∧(↑f:Int)≤(c:Int)∧(c:Int)≤(c:Int))∧((if Int.toNat (c:Int)=Int.toNat (p:Int) then 0 else 0+Int.toNat (p:Int)*6)+v*6≤List.length b∧6=6∧List.all h PV.one=true)∧(0≤wI i∧wI i≤(↑f:Int)∧(↑f:Int)≤(c:Int)∧(c:Int)≤(c:Int))∧(0≤(p:Int)∧(p:Int)≤(l.length:Int)∧(l.length:Int)≤(cap:Int)∧(cap:Int)≤(cap:Int))∧(if Int.toNat (cap:Int)=Int.toNat (p:Int) then 0 else 0+Int.toNat (p:Int)*6)+o*6≤List.length (flS l++J)∧((if Int.toNat (c:Int)=Int.toNat (wI i) then 0 else 0+Int.toNat (wI i)*6)+w*6≤List.length a∧List.length j=o*6∧List.all j PV.one=true)∧K (.arr 1 0 f c) [x,.cells (over a (if Int.toNat (c:Int)=Int.toNat (wI i) then 0 else 0+Int.toNat (wI i)*6) (List.take (min o w*6) j))]) ((iI 0≤0∧0≤wI m∧wI m≤(cap:Int)∧(cap:Int)≤(cap:Int))∧(0≤wI i∧wI i≤d∧d≤g∧g≤g)∧q≠[]∧(flS l++J=[]→False)∧(0≤wI i∧wI i≤d∧d≤g∧g≤g)∧(0≤(p:Int)∧(p:Int)≤d∧d≤g∧g≤g)∧(if Int.toNat g=Int.toNat (p:Int) then if Int.toNat (cap:Int)=0 then 0 else 0 else(if Int.toNat (cap:Int)=0 then 0 else 0)+Int.toNat (p:Int)*6)+n*6≤List.length (flS l++J)∧((if Int.toNat g=Int.toNat (wI i) then if Int.toNat (cap:Int)=0 then 0 else 0 else(if Int.toNat (cap:Int)=0 then 0 else 0)+Int.toNat (wI i)*6)+y*6≤List.length (flS l++J)∧List.length e=n*6∧List.all e PV.one=true)∧(0≤(p:Int)∧(p:Int)≤d∧d≤g∧g≤g)∧((if Int.toNat g=Int.toNat (p:Int) then if Int.toNat (cap:Int)=0 then 0 else 0 else(if Int.toNat (cap:Int)=0 then 0 else 0)+Int.toNat (p:Int)*6)+n*6≤List.length k∧6=6∧List.all h PV.one=true)∧K (.arr 0 (if Int.toNat (cap:Int)=0 then 0 else 0) A t) [.cells (over k (if Int.toNat g=Int.toNat (p:Int) then if Int.toNat (cap:Int)=0 then 0 else 0 else(if Int.toNat (cap:Int)=0 then 0 else 0)+Int.toNat (p:Int)*6) (List.take (min 1 n*6) h))])))→aj Tryd.prog gl 82 [.arr 0 0 l.length cap,.int .i64 p,.list [stc r] .exact] [x] K:Prop):=fun K h=>ah (T:=TIS) (L:=[]) (fun o=>match o.op with| .load t _=>(match t with|44=>1|_=>0)|_=>match o.dst with|some 25=>2|_=>0) Tryd.func82 (by kernel_rfl) (by kernel_rfl) (by kernel_rfl) (zW) (LOk.nil _ _ _ _ _) (ag (by kernel_rfl) h)
theorem z8 (r:Se):∀(K:PV→ae→Prop),((iI 0≤0∧iI 0≤0∧iI 0≤0∧iI 0≤0∧uni 6 [])∧6=6∧48≤140737488355328∧0<1∧∀(c:Nat),1≤c→K (.arr 0 0 1 c) [.cells ([.int .u32 r.pl,.int .i64 r.tm,.int .i64 r.nu,.int .i64 r.st,.int .i64 r.un,.int .u64 r.no]++List.flatten (List.replicate (c-1) [.int .u32 0,.int .i64 0,.int .i64 0,.int .i64 0,.int .i64 0,.int .u64 0]))])→aj Tryd.prog gl 82 [.list [] .exact,.int .i64 0,.list [stc r] .exact] [] K:=fun K h=>ah (T:=TIS) (L:=[]) (fun o=>match o.op with| .load t _=>(match t with|44=>1|_=>0)|_=>match o.dst with|some 25=>2|_=>0) Tryd.func82 (by kernel_rfl) (by kernel_rfl) (by kernel_rfl) (zW) (LOk.nil _ _ _ _ _) (ag (by kernel_rfl) h)
def Jl (args:List PV) (H:ae) (K:PV→ae→Prop):Prop:=
 (∃(l:List Se) (J:List PV) (cap:Nat) (r:Se) (p:Nat),ak args [.arr 0 0 l.length cap,.int .i64 p,.list [stc r] .exact]∧az H ([.cells (flS l++J)])∧p≤l.length∧l.length≤1000000∧l.length≤cap∧aJ J ((cap-l.length)*6)∧
  (∀(J':List PV),l.length+1≤cap→aJ J' ((cap-(l.length+1))*6)→K (.arr 0 0 (l.length+1) cap) [.cells (flS (bz l p r)++J')])∧
  (∀(c:Nat),l.length+1≤c→∀(J':List PV),aJ J' ((c-(l.length+1))*6)→K (.arr 1 0 (l.length+1) c) [.cells (flS l++J),.cells (flS (bz l p r)++J')]))∨
 (∃(r:Se),ak args [.list [] .exact,.int .i64 0,.list [stc r] .exact]∧az H []∧
  ∀(c:Nat),1≤c→∀(J':List PV),aJ J' ((c-1)*6)→K (.arr 0 0 1 c) [.cells (stc r++J')])
def zrS:List PV:=[.int .u32 0,.int .i64 0,.int .i64 0,.int .i64 0,.int .i64 0,.int .u64 0]
theorem oA (n:Nat):aJ (List.replicate n zrS).flatten (n*6):=
 aJ.pX (z:=zrS) (by intro y hy; simp only[zrS,List.mem_cons,List.not_mem_nil,or_false] at hy; rcases hy with rfl|rfl|rfl|rfl|rfl|rfl<;>rfl) (by intro y hy; simp only[zrS,List.mem_cons,List.not_mem_nil,or_false] at hy; rcases hy with rfl|rfl|rfl|rfl|rfl|rfl<;>first|exact .int _ _|exact .str _) n
theorem wH:aO Tryd.prog gl 82 (.heap Jl):=by
 rintro args H K (⟨l,J,cap,r,p,he,hH,hp,hl,hc,hJ,hk1,hk2⟩|⟨r,he,hH,hk⟩)
 ·have he:args=_:=he
  have hH:H=_:=hH
  subst he
  subst hH
  have hlen:(flS l++J).length=cap*6:=by rw[List.length_append,gI,hJ.len,← Nat.add_mul]; congr 1; omega
  have hone:(flS l++J).all PV.one=true:=List.all_eq_true.2 (w9 l hJ.one)
  refine zN l J cap r p K ?_
  refine⟨⟨by omega,by omega,by omega,by omega⟩,?_⟩
  rw[ay]
  by_cases c1:p=l.length
  ·rw[if_pos (by simp[c1])]
   subst c1
   refine⟨⟨hc,by rw[hlen]; omega,rfl,rfl,by omega⟩,fun h=>?_,fun h c hcc=>?_⟩
   ·have:=hk1 (J.drop 6) h (hJ.drop.cast (by omega))
    rw[← ny gK r (by rw[hJ.len]; omega)] at this
    rw[Nat.zero_add]
    exact this
   ·have:=hk2 c hcc _ (oA (c-(l.length+1)))
    rw[jh] at this
    rw[List.drop_zero,eS gK J l l.length (Nat.le_refl _),List.take_length]
    simp only[flS,List.map_append,List.flatten_append,List.map_cons,List.map_nil,List.flatten_cons,List.flatten_nil,List.append_nil] at this
    exact this
  ·rw[if_neg (by simp; omega),ay]
   have e1:wI ((l.length:Int)+1)=((l.length+1:Nat):Int):=by rw[a8 (by omega) (by omega)]; rfl
   have e2:wI (((l.length+1:Nat):Int)-(p:Int))=((l.length+1-p:Nat):Int):=by rw[a8 (by omega) (by omega)]; omega
   have e3:wI ((p:Int)+1)=((p+1:Nat):Int):=by rw[a8 (by omega) (by omega)]; rfl
   have e4:p+(l.length+1-p)=l.length+1:=by omega
   simp only[e1,e2,e3,e4,au,Nat.sub_zero,Nat.zero_add,List.drop_zero,ite_self]
   have t1:List.take (p*6) (flS l++J)=flS (l.take p):=eS gK J l p hp
   have t2:List.take ((l.length-p)*6) (List.drop (p*6) (flS l++J))=flS (l.drop p):=by
    rw[eO gK J l p hp,List.take_left']
    rw[gI,List.length_drop]
   have t3:min 1 (l.length+1-p)=1:=by omega
   have t5:(flS (l.drop p)).length=(l.length-p)*6:=by rw[gI,List.length_drop]
   have t6:(flS (l.drop p)).all PV.one=true:=by
    have:=w9 (l.drop p) (J:=[]) (fun _ h=>nomatch h)
    rw[List.append_nil] at this
    exact List.all_eq_true.2 this
   have t7:(flS (l.take p)).length=p*6:=by rw[gI,List.length_take,Nat.min_eq_left hp]
   by_cases c2:cap<l.length+1
   ·rw[if_pos (decide_eq_true (by omega))]
    have n3:¬ cap=p:=by omega
    refine⟨⟨by decide,by omega,by omega,by omega⟩,⟨by omega,by omega,by omega,by omega,by omega⟩,fun c hcc=>?_⟩
    have t4:min (l.length-p) (l.length+1-(p+1))=l.length-p:=by omega
    have n1:¬ c=p:=by omega
    have n2:¬ c=p+1:=by omega
    have hZ:=oA (c-p)
    have t9:(flS (l.take p)++(List.replicate (c-p) zrS).flatten).length=c*6:=by rw[List.length_append,t7,hZ.len,← Nat.add_mul]; congr 1; omega
    simp only[if_neg n1,if_neg n2,if_neg n3,t1,t2,t3,t4,t5,t6]
    refine⟨⟨by omega,by omega,by omega,by omega⟩,⟨Nat.le_trans (show _≤c*6 by omega) (Nat.le_of_eq t9.symm),trivial,rfl⟩,⟨by omega,by omega,by omega,by omega⟩,⟨by omega,by omega,by omega,by omega⟩,by omega,⟨?_,trivial,trivial⟩,?_⟩
    ·have t10:(over (flS (l.take p)++(List.replicate (c-p) zrS).flatten) (p*6) (stc r)).length=c*6:=by rw[bB (by rw[t9,gK]; omega),t9]
     exact Nat.le_trans (show _≤c*6 by omega) (Nat.le_of_eq t10.symm)
    ·have:=hk2 c (by omega) _ ((hZ.drop (k:=(l.length+1-p)*6)).cast (by omega))
     rw[← oT gK r hp (by rw[hZ.len]; omega)] at this
     rw[List.take_of_length_le (Nat.le_of_eq t5)]
     exact this
   ·rw[if_neg (by simp; omega)]
    have n3:¬ cap=p:=by omega
    have n4:¬ cap=p+1:=by omega
    have t9:min (l.length+1-p) (l.length+1-(p+1))=l.length-p:=by omega
    have t10:List.take ((l.length-p)*6) (List.take ((l.length+1-p)*6) (List.drop (p*6) (flS l++J)))=List.take ((l.length-p)*6) (List.drop (p*6) (flS l++J)):=by rw[List.take_take,Nat.min_eq_left (by omega)]
    simp only[if_neg n3,if_neg n4,t3,t9,t10]
    have t11:(List.take ((l.length+1-p)*6) (List.drop (p*6) (flS l++J))).length=(l.length+1-p)*6:=by rw[List.length_take,List.length_drop,hlen]; omega
    have t12:(List.take ((l.length+1-p)*6) (List.drop (p*6) (flS l++J))).all PV.one=true:=List.all_eq_true.2 fun y hy=>List.all_eq_true.1 hone y (List.mem_of_mem_drop (List.mem_of_mem_take hy))
    have t13:(over (flS l++J) ((p+1)*6) (List.take ((l.length-p)*6) (List.drop (p*6) (flS l++J)))).length=cap*6:=by rw[bB (by rw[t2,t5,hlen]; omega),hlen]
    refine⟨⟨by decide,by omega,by omega,by omega⟩,⟨by omega,by omega,by omega,by omega⟩,List.cons_ne_nil _ _,fun h=>?_,⟨by omega,by omega,by omega,by omega⟩,⟨by omega,by omega,by omega,by omega⟩,by omega,⟨by omega,t11,t12⟩,⟨by omega,by omega,by omega,by omega⟩,⟨by omega,trivial,rfl⟩,?_⟩
    ·rw[h] at hlen; simp only[List.length_nil] at hlen; omega
    ·have:=hk1 (J.drop 6) (by omega) (hJ.drop.cast (by omega))
     rw[← q9 gK r (by omega) (by rw[hJ.len]; omega)] at this
     exact this
 ·have he:args=_:=he
  have hH:H=_:=hH
  subst he
  subst hH
  exact z8 r K ⟨⟨by decide,by decide,by decide,by decide,fun _ h=>nomatch h⟩,rfl,by decide,by decide,fun c hc=>hk c hc _ (oA (c-1))⟩
theorem sV (r:Se) (t:Tail) (ht:NT t) {n:Nat}:Low n (.list [stc r] t):=aI ht (by intro y hy; simp at hy; exact cU r y hy)
theorem kR {n:Nat} (l:List Se) {J:List PV} (h:∀ y∈J,Low n y):∀ y∈flS l++J,Low n y:=fi (fun a _=>cU a) h
def tY (args:List PV) (H:ae) (K:PV→ae→Prop):Prop:=match args with
 | .arr o 0 n cap::rest=>∃(l:List Se) (J:List PV) (r:Se) (p:Nat),n=l.length∧ak rest [.int .i64 p,.list [stc r] .exact]∧gL H o (flS l++J)∧p≤l.length∧l.length≤1000000∧l.length≤cap∧aJ J ((cap-l.length)*6)∧
  (∀(J':List PV),l.length+1≤cap→aJ J' ((cap-(l.length+1))*6)→K (.arr o 0 (l.length+1) cap) (H.set o (.cells (flS (bz l p r)++J'))))∧
  (∀(c:Nat),l.length+1≤c→∀(J':List PV),aJ J' ((c-(l.length+1))*6)→K (.arr H.length 0 (l.length+1) c) (H++[.cells (flS (bz l p r)++J')]))
 | .list [] .exact::rest=>∃(r:Se),ak rest [.int .i64 0,.list [stc r] .exact]∧∀(c:Nat),1≤c→∀(J':List PV),aJ J' ((c-1)*6)→K (.arr H.length 0 1 c) (H++[.cells (flS [r]++J')])
 | _=>False
theorem FO:aO Tryd.prog gl 82 (.heap tY):=by
 intro args H K h
 unfold tY at h
 split at h
 ·rename_i o n cap rest
  obtain⟨l,J,r,p,rfl,he,hc,hp,hl,hcap,hJ,hk1,hk2⟩:=h
  have he:rest=_:=he
  subst he
  refine zV aq hc (kR l hJ.low) (.cons (.arr (ρ:=fun _=>o) 0 0 l.length cap (by decide)) (.cons (.low (.int _ _)) (.cons (.low (sV r _ NT.exact)) .nil))) ?_
  refine wH _ _ _ (.inl ⟨l,J,cap,r,p,rfl,rfl,hp,hl,hcap,hJ,fun J' h1 h2=> .inl ⟨_,.arr o 0 (l.length+1) cap,rfl,kR _ h2.low,.arr (ρ:=iB o H.length) 0 0 _ _ (by decide),hk1 J' h1 h2⟩,fun c h1 J' h2=> .inr ⟨_,_,.arr H.length 0 (l.length+1) c,rfl,kR l hJ.low,kR _ h2.low,.arr (ρ:=iB o H.length) 1 0 _ _ (by decide),?_⟩⟩)
  rw[j6 hc]; exact hk2 c h1 J' h2
 ·rename_i rest
  obtain⟨r,he,hk⟩:=h
  have he:rest=_:=he
  subst he
  refine Cg aq (fun x=>x) (.cons (.refl _) (.cons (.refl _) (.cons (.refl _) .nil))) (dK (aI NT.exact (by simp)) (.int _ _) (sV r _ NT.exact)) (fun k k' len cap=> .arr _ _ _) (wH _ _ _ (.inr ⟨r,rfl,rfl,fun c hc J' h2=>⟨0,1,c,_,rfl,rfl,?_,?_⟩⟩))
  ·intro x hx
   rcases List.mem_append.1 hx with hx|hx
   ·exact cU r x hx
   ·exact h2.low x hx
  ·have:=hk c hc J' h2
   simpa[flS] using this
 ·exact h.elim
def cO (l:List Se):Nat:=(List.range l.length).findIdx fun m=>decide ((l.getD m default).nu≠(m:Int))
theorem ew (l:List Se):cO l≤l.length:=by
 have:=List.findIdx_le_length (p:=fun m=>decide ((l.getD m default).nu≠(m:Int))) (xs:=List.range l.length)
 rwa [List.length_range] at this
theorem nq {l:List Se} {m:Nat} (h:m<cO l):(l.getD m default).nu=(m:Int):=by
 have hl:=ew l
 have:=List.not_of_lt_findIdx (p:=fun m=>decide ((l.getD m default).nu≠(m:Int))) h
 simp only[List.getElem_range,decide_eq_false_iff_not,ne_eq,Classical.not_not] at this
 exact this
theorem qO {l:List Se} (h:cO l<l.length):(l.getD (cO l) default).nu≠(cO l:Int):=by
 have:=List.findIdx_getElem (p:=fun m=>decide ((l.getD m default).nu≠(m:Int))) (xs:=List.range l.length) (w:=by rw[List.length_range]; exact h)
 have:=of_decide_eq_true this
 rw[List.getElem_range] at this
 exact this
theorem qb {l:List Se} {i:Nat} (hi:i≤cO l) (h:i=l.length∨(i<l.length∧(l.getD i default).nu≠(i:Int))):cO l=i:=by
 rcases Nat.lt_or_ge i (cO l) with c|c
 ·rcases h with h|⟨_,h⟩
  ·have:=ew l; omega
  ·exact absurd (nq c) h
 ·omega
theorem yG {l:List Se} {i:Nat} (hi:i≤cO l) (h:i<l.length) (hn:(l.getD i default).nu=(i:Int)):i<cO l:=by
 rcases Nat.lt_or_ge i (cO l) with c|c
 ·exact c
 ·have e:i=cO l:=by omega
  subst e
  exact absurd hn (qO h)
def fx (l:List Se) (p t:Int):Se:=⟨p,t,(cO l:Int),1,0,0⟩
def fQ (l:List Se) (p t:Int):List Se:=bz l (cO l) (fx l p t)
theorem Fo (c:Mt) (x:PV) (gx:Ob) (J:List PV) (cap i:Nat) (p t:Int):(by refine(?_:_→_→_→Prop) [PV.ptr 0 0,.int .u32 p,.int .i64 t,.int .i64 i] (c.aa.length:Int) (flS c.aa++J); exact fun f g h=>by refine(?_:_→_→Prop) [Ob.cells [.int .u32 c.id,.int .i64 c.md,.int .u32 c.ins,x,.arr 2 0 c.aa.length cap],gx,.cells h] (List.drop (0+Int.toNat (i:Int)*6+2) h); exact fun b d=>∀(R:Ex→List PV→ae→Prop),by refine(?_:_→Prop) (R (.exit 0) f b); exact fun a=>(br (decide ((i:Int)<g) == true) ((0≤(i:Int)∧(i:Int)<g)∧br (true && aP [.int .i64] 0 d) (br (cI d 0 == (i:Int)) (R .normal [.ptr 0 0,.int .u32 p,.int .i64 t,.int .i64 (wI ((i:Int)+1))] b) a) False) a)→Holds (wpc br Tryd.prog gl [] [] (fun o=>match o.op with| .load t _=>(match t with|44=>1|_=>0)|_=>0) (an [1,0,0] (ai Tryd.f59)) [] (av [0,1,2,6] f) b (fun ex e H=>R ex (List.map e [0,1,2,6]) H)):Prop):=fun R h=>ag (by kernel_rfl) h
theorem Gq (c:Mt) (x:PV) (gx:Ob) (p t:Int):(by refine(?_:_→_→Prop) [Ob.cells [.int .u32 c.id,.int .i64 c.md,.int .u32 c.ins,x,.list [] .exact],gx,.dead] [PV.ptr 0 0,.int .u32 p,.int .i64 t,.int .i64 0]; exact fun a b=>∀(R:Ex→List PV→ae→Prop),(R (.exit 0) b a)→Holds (wpc br Tryd.prog gl [] [] (fun o=>match o.op with| .load t _=>(match t with|44=>1|_=>0)|_=>0) (an [1,0,0] (ai Tryd.f59)) [] (av [0,1,2,6] b) a (fun ex e H=>R ex (List.map e [0,1,2,6]) H)):Prop):=fun R h=>ag (by kernel_rfl) h
def AG:LSp:=fun e H Q=>
 (∃(c:Mt) (x:PV) (gx:Ob) (J:List PV) (cap:Nat) (p t:Int),c.aa.length≤1000000∧ak (List.map e [0,1,2,6]) [.ptr 0 0,.int .u32 p,.int .i64 t,.int .i64 0]∧az H [.cells [.int .u32 c.id,.int .i64 c.md,.int .u32 c.ins,x,.arr 2 0 c.aa.length cap],gx,.cells (flS c.aa++J)]∧Q (.exit 0) (av [0,1,2,6] [.ptr 0 0,.int .u32 p,.int .i64 t,.int .i64 (cO c.aa)]) [.cells [.int .u32 c.id,.int .i64 c.md,.int .u32 c.ins,x,.arr 2 0 c.aa.length cap],gx,.cells (flS c.aa++J)])∨
 (∃(c:Mt) (x:PV) (gx:Ob) (p t:Int),ak (List.map e [0,1,2,6]) [.ptr 0 0,.int .u32 p,.int .i64 t,.int .i64 0]∧az H [.cells [.int .u32 c.id,.int .i64 c.md,.int .u32 c.ins,x,.list [] .exact],gx,.dead]∧Q (.exit 0) (av [0,1,2,6] [.ptr 0 0,.int .u32 p,.int .i64 t,.int .i64 0]) [.cells [.int .u32 c.id,.int .i64 c.md,.int .u32 c.ins,x,.list [] .exact],gx,.dead])
theorem rS:∀ e H Q,AG e H Q→AW Tryd.prog gl Tryd.f59.ntmps (.loop (an [1,0,0] (ai Tryd.f59))) Q e H:=by
 rintro e H Q (⟨c,x,gx,J,cap,p,t,hl,he,hH,hQ⟩|⟨c,x,gx,p,t,he,hH,hQ⟩)
 ·refine aG (hn:=fun o=>match o.op with| .load t _=>(match t with|44=>1|_=>0)|_=>0) aq (.nil _ _) (.nil _ _ _ _ _) (σ:=Nat) [0,1,2,6] (fun i=>i≤cO c.aa) (fun i=>[.ptr 0 0,.int .u32 p,.int .i64 t,.int .i64 i]) (fun _=>[.cells [.int .u32 c.id,.int .i64 c.md,.int .u32 c.ins,x,.arr 2 0 c.aa.length cap],gx,.cells (flS c.aa++J)]) (fun i=>c.aa.length-i) 0 (Nat.zero_le _) he hH ?_
  intro i hi
  have hi:i≤cO c.aa:=hi
  have hg:=ew c.aa
  refine Fo c x gx J cap i p t _ ?_
  simp only[ay,dt,au,beq_iff_eq]
  by_cases h:i<c.aa.length
  ·rw[if_pos (by omega)]
   refine⟨⟨by omega,by omega⟩,?_⟩
   have hd:List.drop (0+i*6+2) (flS c.aa++J)=[.int .i64 (c.aa.getD i default).nu,.int .i64 (c.aa.getD i default).st,.int .i64 (c.aa.getD i default).un,.int .u64 (c.aa.getD i default).no]++(flS (c.aa.drop (i+1))++J):=by
    rw[Nat.zero_add,← List.drop_drop,kP bK J default h]; rfl
   rw[hd,if_pos (by rfl)]
   have hc:cI ([.int .i64 (c.aa.getD i default).nu,.int .i64 (c.aa.getD i default).st,.int .i64 (c.aa.getD i default).un,.int .u64 (c.aa.getD i default).no]++(flS (c.aa.drop (i+1))++J)) 0=(c.aa.getD i default).nu:=rfl
   rw[hc]
   by_cases hn:(c.aa.getD i default).nu=(i:Int)
   ·rw[if_pos hn]
    exact⟨i+1,(show c.aa.length-(i+1)<c.aa.length-i by omega),yG hi h hn,by rw[ax h (by omega)],[],rfl,Nat.le_refl _,.inl rfl⟩
   ·rw[if_neg hn]
    rw[qb hi (.inr ⟨h,hn⟩)] at hQ
    exact hQ
  ·rw[if_neg (by omega)]
   have:i=c.aa.length:=by omega
   rw[qb hi (.inl this)] at hQ
   exact hQ
 ·refine aG (hn:=fun o=>match o.op with| .load t _=>(match t with|44=>1|_=>0)|_=>0) aq (.nil _ _) (.nil _ _ _ _ _) (σ:=Unit) [0,1,2,6] (fun _=>True) (fun _=>[.ptr 0 0,.int .u32 p,.int .i64 t,.int .i64 0]) (fun _=>[.cells [.int .u32 c.id,.int .i64 c.md,.int .u32 c.ins,x,.list [] .exact],gx,.dead]) (fun _=>0) () trivial he hH ?_
  intro _ _
  exact Gq c x gx p t _ hQ
def TSI:Tab:=[(82,.heap tY)]
theorem DF:aB Tryd.prog gl TSI:= .cons FO (.nil _ _)
theorem Cf (c:Mt) (x:PV) (gx:Ob) (J:List PV) (cap:Nat) (p t:Int):(by refine(?_:_→_→Prop) [Ob.cells [.int .u32 c.id,.int .i64 c.md,.int .u32 c.ins,x,.arr 2 0 c.aa.length cap],gx,.cells (flS c.aa++J)] [PV.ptr 0 0,.int .u32 p,.int .i64 t,.int .i64 0]; exact fun e f=>∀(K:PV→ae→Prop),((∃(c_1:Mt) (x_1:PV) (gx_1:Ob) (J_1:List PV) (cap_1:Nat) (p_1:Int) (t_1:Int),by refine(?_:_→_→Prop) (PV.int .i64 (↑(cO c_1.aa):Int)) (Ob.cells (flS c_1.aa++J_1)); exact fun b d=>by refine(?_:_→Prop) [Ob.cells [.int .u32 c_1.id,.int .i64 c_1.md,.int .u32 c_1.ins,x_1,.arr 2 0 c_1.aa.length cap_1],gx_1,d]; exact fun a=>c_1.aa.length≤1000000∧ak f [.ptr 0 0,.int .u32 p_1,.int .i64 t_1,.int .i64 0]∧az e a∧∃(l:List Se) (J:List PV) (r:Se) (p:Nat),c_1.aa.length=l.length∧ak [b,.list [[PV.int .u32 p_1,.int .i64 t_1,b,.int .i64 1,.int .i64 0,.int .u64 0]] .exact] [.int .i64 p,.list [[PV.int .u32 r.pl,.int .i64 r.tm,.int .i64 r.nu,.int .i64 r.st,.int .i64 r.un,.int .u64 r.no]] .exact]∧gL a 2 (flS l++J)∧p≤l.length∧l.length≤1000000∧l.length≤cap_1∧aJ J ((cap_1-l.length)*6)∧(∀(J':List PV),l.length+1≤cap_1→aJ J' ((cap_1-(l.length+1))*6)→K (.tup []) [.cells [.int .u32 c_1.id,.int .i64 c_1.md,.int .u32 c_1.ins,x_1,.arr 2 0 (l.length+1) cap_1],gx_1,.cells (flS (bz l p r)++J')])∧∀(c:Nat),l.length+1≤c→∀(J':List PV),aJ J' ((c-(l.length+1))*6)→K (.tup []) [.cells [.int .u32 c_1.id,.int .i64 c_1.md,.int .u32 c_1.ins,x_1,.arr 3 0 (l.length+1) c],gx_1,d,.cells (flS (bz l p r)++J')])∨∃(c_1:Mt) (x_1:PV) (gx_1:Ob) (p_1:Int) (t_1:Int),ak f [.ptr 0 0,.int .u32 p_1,.int .i64 t_1,.int .i64 0]∧az e [.cells [.int .u32 c_1.id,.int .i64 c_1.md,.int .u32 c_1.ins,x_1,.list [] .exact],gx_1,.dead]∧∃(r:Se),ak [.int .i64 0,.list [[PV.int .u32 p_1,.int .i64 t_1,.int .i64 0,.int .i64 1,.int .i64 0,.int .u64 0]] .exact] [.int .i64 0,.list [[PV.int .u32 r.pl,.int .i64 r.tm,.int .i64 r.nu,.int .i64 r.st,.int .i64 r.un,.int .u64 r.no]] .exact]∧∀(c:Nat),1≤c→∀(J':List PV),aJ J' ((c-1)*6)→K (.tup []) [.cells [.int .u32 c_1.id,.int .i64 c_1.md,.int .u32 c_1.ins,x_1,.arr 3 0 1 c],gx_1,.dead,.cells ([.int .u32 r.pl,.int .i64 r.tm,.int .i64 r.nu,.int .i64 r.st,.int .i64 r.un,.int .u64 r.no]++J')])→aj Tryd.prog gl 59 [.ptr 0 0,.int .u32 p,.int .i64 t] e K:Prop):=fun K h=>ah (T:=TSI) (L:=[([1,0,0],AG)]) (fun o=>match o.op with| .load t _=>(match t with|44=>1|_=>0)|_=>0) Tryd.func59 (by kernel_rfl) (by kernel_rfl) (by kernel_rfl) (DF) (.cons (aH (by kernel_rfl)) rS (.nil _ _ _ _ _)) (ag (by kernel_rfl) h)
theorem AH (c:Mt) (x:PV) (gx:Ob) (p t:Int):(by refine(?_:_→_→Prop) [Ob.cells [.int .u32 c.id,.int .i64 c.md,.int .u32 c.ins,x,.list [] .exact],gx,.dead] [PV.ptr 0 0,.int .u32 p,.int .i64 t,.int .i64 0]; exact fun e f=>∀(K:PV→ae→Prop),((∃(c_1:Mt) (x_1:PV) (gx_1:Ob) (J:List PV) (cap:Nat) (p_1:Int) (t_1:Int),by refine(?_:_→_→Prop) (PV.int .i64 (↑(cO c_1.aa):Int)) (Ob.cells (flS c_1.aa++J)); exact fun b d=>by refine(?_:_→Prop) [Ob.cells [.int .u32 c_1.id,.int .i64 c_1.md,.int .u32 c_1.ins,x_1,.arr 2 0 c_1.aa.length cap],gx_1,d]; exact fun a=>c_1.aa.length≤1000000∧ak f [.ptr 0 0,.int .u32 p_1,.int .i64 t_1,.int .i64 0]∧az e a∧∃(l:List Se) (J_1:List PV) (r:Se) (p:Nat),c_1.aa.length=l.length∧ak [b,.list [[PV.int .u32 p_1,.int .i64 t_1,b,.int .i64 1,.int .i64 0,.int .u64 0]] .exact] [.int .i64 p,.list [[PV.int .u32 r.pl,.int .i64 r.tm,.int .i64 r.nu,.int .i64 r.st,.int .i64 r.un,.int .u64 r.no]] .exact]∧gL a 2 (flS l++J_1)∧p≤l.length∧l.length≤1000000∧l.length≤cap∧aJ J_1 ((cap-l.length)*6)∧(∀(J':List PV),l.length+1≤cap→aJ J' ((cap-(l.length+1))*6)→K (.tup []) [.cells [.int .u32 c_1.id,.int .i64 c_1.md,.int .u32 c_1.ins,x_1,.arr 2 0 (l.length+1) cap],gx_1,.cells (flS (bz l p r)++J')])∧∀(c:Nat),l.length+1≤c→∀(J':List PV),aJ J' ((c-(l.length+1))*6)→K (.tup []) [.cells [.int .u32 c_1.id,.int .i64 c_1.md,.int .u32 c_1.ins,x_1,.arr 3 0 (l.length+1) c],gx_1,d,.cells (flS (bz l p r)++J')])∨∃(c_1:Mt) (x_1:PV) (gx_1:Ob) (p_1:Int) (t_1:Int),ak f [.ptr 0 0,.int .u32 p_1,.int .i64 t_1,.int .i64 0]∧az e [.cells [.int .u32 c_1.id,.int .i64 c_1.md,.int .u32 c_1.ins,x_1,.list [] .exact],gx_1,.dead]∧∃(r:Se),ak [.int .i64 0,.list [[PV.int .u32 p_1,.int .i64 t_1,.int .i64 0,.int .i64 1,.int .i64 0,.int .u64 0]] .exact] [.int .i64 0,.list [[PV.int .u32 r.pl,.int .i64 r.tm,.int .i64 r.nu,.int .i64 r.st,.int .i64 r.un,.int .u64 r.no]] .exact]∧∀(c:Nat),1≤c→∀(J':List PV),aJ J' ((c-1)*6)→K (.tup []) [.cells [.int .u32 c_1.id,.int .i64 c_1.md,.int .u32 c_1.ins,x_1,.arr 3 0 1 c],gx_1,.dead,.cells ([.int .u32 r.pl,.int .i64 r.tm,.int .i64 r.nu,.int .i64 r.st,.int .i64 r.un,.int .u64 r.no]++J')])→aj Tryd.prog gl 59 [.ptr 0 0,.int .u32 p,.int .i64 t] e K:Prop):=fun K h=>ah (T:=TSI) (L:=[([1,0,0],AG)]) (fun o=>match o.op with| .load t _=>(match t with|44=>1|_=>0)|_=>0) Tryd.func59 (by kernel_rfl) (by kernel_rfl) (by kernel_rfl) (DF) (.cons (aH (by kernel_rfl)) rS (.nil _ _ _ _ _)) (ag (by kernel_rfl) h)
def ArR (o:Nat) (l:List Rr) (x:PV) (g:Ob):Prop:=∃(cap:Nat) (J:List PV),x = .arr o 0 l.length cap∧g = .cells (flR l++J)∧l.length≤cap∧aJ J ((cap-l.length)*4)
theorem ArR.one {o:Nat} {l:List Rr} {x:PV} {g:Ob} (h:ArR o l x g):x.one=true:=by
 obtain⟨cap,J,rfl,_⟩:=h; rfl
theorem ArR.mi {o:Nat} {l:List Rr} {x:PV} {g:Ob} (h:ArR o l x g):∀ cs,g = .cells cs→∀ x∈cs,Low 0 x:=by
 intro cs e
 obtain⟨cap,J,_,rfl,_,hJ⟩:=h
 cases e; exact fi (fun a _=>bG a) hJ.low
theorem ArR.ren {o:Nat} {l:List Rr} {x:PV} {g:Ob} (h:ArR o l x g) (o':Nat) {ρ:Nat→Nat} {n:Nat} (ho:o'<n) (hρ:ρ o'=o):∃ x',ArR o' l x' g∧Ren ρ n x' x:=by
 obtain⟨cap,J,rfl,rfl,h2,h3⟩:=h
 refine⟨_,⟨cap,J,rfl,rfl,h2,h3⟩,?_⟩
 have:=Ren.arr (ρ:=ρ) (n:=n) o' 0 l.length cap ho
 rwa [hρ] at this
theorem ArR.nm {o:Nat} {l:List Rr} {x:PV} {g:Ob} (h:ArR o l x g) (o':Nat) {ρ:Nat→Nat} {n:Nat} (ho:o<n) (hρ:ρ o=o'):∃ x',ArR o' l x' g∧Nm ρ n x x':=by
 obtain⟨cap,J,rfl,rfl,h2,h3⟩:=h
 refine⟨_,⟨cap,J,rfl,rfl,h2,h3⟩,?_⟩
 have:=Nm.arr (ρ:=ρ) (n:=n) o 0 l.length cap ho
 rwa [hρ] at this
theorem ArS.nm {o:Nat} {l:List Se} {y:PV} {g:Ob} (h:ArS o l y g) (o':Nat) {ρ:Nat→Nat} {n:Nat} (ho:o<n) (hρ:ρ o=o'):∃ y',ArS o' l y' g∧Nm ρ n y y':=by
 rcases h with⟨h1,rfl,rfl⟩|⟨h1,cap,J,rfl,rfl,h2,h3⟩
 ·exact⟨_,.inl ⟨h1,rfl,rfl⟩,.low (aI NT.exact (by simp))⟩
 ·refine⟨_,.inr ⟨h1,cap,J,rfl,rfl,h2,h3⟩,?_⟩
  have:=Nm.arr (ρ:=ρ) (n:=n) o 0 l.length cap ho
  rwa [hρ] at this
def MW (c:Mt):ae→Prop:=fun h=>∃(x y:PV) (gx gy:Ob),ArR 1 c.rows x gx∧ArS 2 c.aa y gy∧h=[.cells [.int .u32 c.id,.int .i64 c.md,.int .u32 c.ins,x,y],gx,gy]
def mw (c:Mt):Rep:=whole (MW c)
theorem ArR.ob {o:Nat} {l:List Rr} {x:PV} {g:Ob} (h:ArR o l x g):g = .dead∨∃ cs,g = .cells cs:=by
 obtain⟨cap,J,_,rfl,_⟩:=h
 exact .inr ⟨_,rfl⟩
theorem ArS.ob {o:Nat} {l:List Se} {x:PV} {g:Ob} (h:ArS o l x g):g = .dead∨∃ cs,g = .cells cs:=by
 rcases h with⟨_,_,rfl⟩|⟨_,cap,J,_,rfl,_⟩
 ·exact .inl rfl
 ·exact .inr ⟨_,rfl⟩
theorem Ja {a b c:Ob} (ha:a = .dead∨∃ cs,a = .cells cs) (hb:b = .dead∨∃ cs,b = .cells cs) (hc:c = .dead∨∃ cs,c = .cells cs):cn [a,b,c]=[a,b,c]:=by
 rcases ha with rfl|⟨_,rfl⟩<;>rcases hb with rfl|⟨_,rfl⟩<;>rcases hc with rfl|⟨_,rfl⟩<;>rfl
theorem H9 {c:Mt} {x y:PV} {gx gy:Ob} {r i k:Nat} {H:ae} (hr:H[r]?=some (.cells [.int .u32 c.id,.int .i64 c.md,.int .u32 c.ins,x,y])) (hi:H[i]?=some gx) (hk:H[k]?=some gy) (h1:r≠i) (h2:r≠k) (h3:i≠k) (hx:ArR i c.rows x gx) (hy:ArS k c.aa y gy):
  ∃ X,Sub (fun o=>if o=0 then r else if o=1 then i else k) X H∧MW c X∧cn X=X∧jN X∧X.length=3:=by
 let ρ:Nat→Nat:=fun o=>if o=0 then r else if o=1 then i else k
 obtain⟨x',hx',rx⟩:=hx.ren 1 (ρ:=ρ) (n:=3) (by decide) rfl
 obtain⟨y',hy',ry⟩:=hy.ren 2 (ρ:=ρ) (n:=3) (by decide) rfl
 have lr:=(List.getElem?_eq_some_iff.1 hr).1
 have li:=(List.getElem?_eq_some_iff.1 hi).1
 have lk:=(List.getElem?_eq_some_iff.1 hk).1
 refine⟨[.cells [.int .u32 c.id,.int .i64 c.md,.int .u32 c.ins,x',y'],gx,gy],⟨fun o _=>?_,fun a b ha hb e=>?_,fun o a ho=>?_⟩,⟨x',y',gx,gy,hx',hy',rfl⟩,Ja (.inr ⟨_,rfl⟩) hx.ob hy.ob,⟨_,rfl⟩,rfl⟩
 ·show(if _ then _ else _)<_
  split
  ·exact lr
  ·split
   ·exact li
   ·exact lk
 ·simp at ha hb
  have e:(if a=0 then r else if a=1 then i else k)=(if b=0 then r else if b=1 then i else k):=e
  split at e<;>split at e<;>(try split at e)<;>(try split at e)<;>omega
 ·have e1:=(List.getElem?_eq_some_iff.1 ho).1
  simp at e1
  have:o=0∨o=1∨o=2:=by omega
  rcases this with rfl|rfl|rfl
  ·cases ho
   exact⟨_,hr,.cells (.cons (.low (.int _ _)) (.cons (.low (.int _ _)) (.cons (.low (.int _ _)) (.cons rx (.cons ry .nil)))))⟩
  ·cases ho; exact⟨_,hi,ei hx.mi⟩
  ·cases ho; exact⟨_,hk,ei hy.mi⟩
theorem uK {c:Mt} {x y:PV} {gx gy:Ob} {i k:Nat} {T:ae} (hi:(.cells [.int .u32 c.id,.int .i64 c.md,.int .u32 c.ins,x,y]::T:ae)[i]?=some gx) (hk:(.cells [.int .u32 c.id,.int .i64 c.md,.int .u32 c.ins,x,y]::T:ae)[k]?=some gy) (h1:0≠i) (h2:0≠k) (h3:i≠k) (hx:ArR i c.rows x gx) (hy:ArS k c.aa y gy):
  dO (MW c) (.cells [.int .u32 c.id,.int .i64 c.md,.int .u32 c.ins,x,y]::T):=by
 obtain⟨X,k1,k2,k3,k4,_⟩:=H9 (r:=0) rfl hi hk h1 h2 h3 hx hy
 exact⟨X,_,k1,rfl,by rw[k3]; exact k2,k4⟩
def fE (c:Mt) (p t:Int):Mt:=⟨c.id,c.md,c.ins,c.rows,fQ c.aa p t⟩
def zL (args:List PV) (H:ae) (K:PV→ae→Prop):Prop:=match args with
 | .ptr q 0::rest=>∃(c:Mt) (p t:Int),ak rest [.int .u32 p,.int .i64 t]∧bO H q (mw c)∧c.aa.length≤1000000∧K (.tup []) (H.set q (.abs (mw (fE c p t))))
 | _=>False
theorem nU (l:List Se) (p t:Int):(fQ l p t).length=l.length+1:=fl (ew l)
theorem JL:aO Tryd.prog gl 59 (.heap zL):=by
 intro args H K h
 unfold zL at h
 split at h
 rotate_left
 ·exact h.elim
 rename_i q rest
 obtain⟨c,p,t,he,ha,hl,hk⟩:=h
 have he:rest=_:=he
 subst he
 refine iU aq ha (bF (.int _ _) (.int _ _)) (.tup _ (by simp)) (fun hh h=>?_) hk
 obtain⟨x,y,gx,gy,hx,hy,rfl⟩:=h
 have hg:=ew c.aa
 rcases hy with⟨e,rfl,rfl⟩|⟨hn,cap,J,rfl,rfl,hcap,hJ⟩
 ·refine AH c x gx p t _ (.inr ⟨c,x,gx,p,t,rfl,rfl,fx c.aa p t,?_,fun cap hc J' hJ=>⟨rfl,?_⟩⟩)
  ·have:cO c.aa=0:=by rw[e]; rfl
   unfold fx; rw[this]; rfl
  ·have e2:fQ c.aa p t=[fx c.aa p t]:=by unfold fQ; rw[e]; rfl
   refine uK (c:=fE c p t) (i:=1) (k:=3) rfl rfl (by decide) (by decide) (by decide) hx (.inr ⟨by show fQ _ _ _≠[]; rw[e2]; simp,cap,J',?_,?_,?_,?_⟩)
   ·show _=PV.arr 3 0 (fQ c.aa p t).length cap; rw[e2]; rfl
   ·show _=Ob.cells (flS (fQ c.aa p t)++J'); rw[e2]; rfl
   ·show(fQ c.aa p t).length≤cap; rw[e2]; exact hc
   ·show aJ J' ((cap-(fQ c.aa p t).length)*6); rw[e2]; exact hJ
 ·have e3:(fQ c.aa p t).length=c.aa.length+1:=nU _ _ _
  have hne:fQ c.aa p t≠[]:=fun e=>by rw[e] at e3; simp at e3
  refine Cf c x gx J cap p t _ (.inl ⟨c,x,gx,J,cap,p,t,hl,rfl,rfl,c.aa,J,fx c.aa p t,cO c.aa,rfl,rfl,rfl,hg,hl,hcap,hJ,fun J' h1 h2=>⟨rfl,?_⟩,fun c' h1 J' h2=>⟨rfl,?_⟩⟩)
  ·refine uK (c:=fE c p t) (i:=1) (k:=2) rfl rfl (by decide) (by decide) (by decide) hx (.inr ⟨hne,cap,J',?_,rfl,?_,?_⟩)
   ·show _=PV.arr 2 0 (fQ c.aa p t).length cap; rw[e3]
   ·show(fQ c.aa p t).length≤cap; rw[e3]; exact h1
   ·show aJ J' ((cap-(fQ c.aa p t).length)*6); rw[e3]; exact h2
  ·refine uK (c:=fE c p t) (i:=1) (k:=3) rfl rfl (by decide) (by decide) (by decide) hx (.inr ⟨hne,c',J',?_,rfl,?_,?_⟩)
   ·show _=PV.arr 3 0 (fQ c.aa p t).length c'; rw[e3]
   ·show(fQ c.aa p t).length≤c'; rw[e3]; exact h1
   ·show aJ J' ((c'-(fQ c.aa p t).length)*6); rw[e3]; exact h2
end Go.Proofs.YtenaelaapdhbdaaDoor
