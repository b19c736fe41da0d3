/-
  The document's Put.
-/
import Derived.Test.YtenaelaapdhbdaaDoorDbh
import Derived.Test.YtenaelaapdhbdaaDoorProg
namespace Go.Proofs.YtenaelaapdhbdaaDoor
open Go Go.AM Go.Proofs
theorem yO (w:List RwI) (m:Int) (t:Int) (i:Nat):(by refine(?_:_→_→_→Prop) [Ob.cells [.list (w.map csI) .no,.int .i64 m]] (List.drop 0 (List.getD (w.map csI) (Int.toNat (i:Int)) [])) [PV.int .u32 t,.ptr 0 0,.int .i64 0,.int .i64 i]; exact fun a b c=>∀(R:Ex→List PV→ae→Prop),(br (decide ((i:Int)<(↑(List.length (w.map csI)):Int))) (InL (w.map csI) 2 (i:Int)∧br (true && aP [.int .u32] 0 b) (br (cI b 0 == t) (R .ret [.int .u32 t,.ptr 0 0,.int .i64 i,.int .i64 i] a) (R .normal [.int .u32 t,.ptr 0 0,.int .i64 0,.int .i64 (wI ((i:Int)+1))] a)) False) (R (.exit 0) c a))→Holds (wpc br Tryd.prog gl [] [] (fun _=>0) (an [1,0,1,0] (ai Tryd.f29)) [] (av [1,2,4,5] c) a (fun ex e H=>R ex (List.map e [1,2,4,5]) H)):Prop):=fun R h=>ag (by kernel_rfl) h
theorem xO (w:List RwI) (m:Int) (t:Int) (i:Nat):(by refine(?_:_→_→_→_→_→Prop) (List.getD (w.map csI) (Int.toNat (i:Int)) []) [PV.int .u32 t,.ptr 0 0,.ptr 1 0,.ptr 2 0,.int .i64 (wI ((i:Int)+1))] [PV.int .u32 t,.ptr 0 0,.ptr 1 0,.ptr 2 0,.int .i64 i] (Ob.cells [.list [] .exact,.int .i64 0]) [PV.list (w.map csI) .no,.int .i64 m]; exact fun a d f g h=>by refine(?_:_→_→Prop) [Ob.cells h,g,.cells [.list [] .exact,.int .i64 m]] (PV.int .i64 (cI a 1)); exact fun b j=>by refine(?_:_→Prop) [[PV.int .u32 (cI a 0),j]]; exact fun c=>∀(R:Ex→List PV→ae→Prop),(br (decide ((i:Int)<(↑(List.length (w.map csI)):Int))) (InL (w.map csI) 2 (i:Int)∧br (true && aP [.int .u32] 0 (List.drop 0 a)) (br (cI (List.drop 0 a) 0 != t) (InL (w.map csI) 2 (i:Int)∧br (true && aP [.int .u32,.int .i64] 0 a) (aX [] c 2 16∧(List.all [.int .u32 (cI a 0),j] PV.one=true∧c≠[])∧R .normal d [.cells h,g,.cells [.list c (.tok 3),.int .i64 m],.tok]) False) (R .normal d b)) False) (R (.exit 0) f b))→Holds (wpc br Tryd.prog gl [] [] (fun o=>match o.op with| .load t _=>(match t with|31=>1|_=>0)|_=>match o.dst with|some 33=>1|_=>0) (an [1,1,0,1,0] (ai Tryd.f30)) [] (av [1,2,4,5,6] f) b (fun ex e H=>R ex (List.map e [1,2,4,5,6]) H)):Prop):=fun R h=>ag (by kernel_rfl) h
theorem xw (w:List RwI) (m:Int) (t:Int) (es:List (List PV)) (i:Nat):(by refine(?_:_→_→_→_→_→Prop) (List.getD (w.map csI) (Int.toNat (i:Int)) []) [PV.int .u32 t,.ptr 0 0,.ptr 1 0,.ptr 2 0,.int .i64 (wI ((i:Int)+1))] [PV.int .u32 t,.ptr 0 0,.ptr 1 0,.ptr 2 0,.int .i64 i] (Ob.cells [.list [] .exact,.int .i64 0]) [PV.list (w.map csI) .no,.int .i64 m]; exact fun a d f g h=>by refine(?_:_→_→Prop) [Ob.cells h,g,.cells [.list es (.tok 3),.int .i64 m],.tok] (PV.int .i64 (cI a 1)); exact fun b j=>by refine(?_:_→Prop) [[PV.int .u32 (cI a 0),j]]; exact fun c=>∀(R:Ex→List PV→ae→Prop),(br (decide ((i:Int)<(↑(List.length (w.map csI)):Int))) (InL (w.map csI) 2 (i:Int)∧br (true && aP [.int .u32] 0 (List.drop 0 a)) (br (cI (List.drop 0 a) 0 != t) (InL (w.map csI) 2 (i:Int)∧br (true && aP [.int .u32,.int .i64] 0 a) (aX es c 2 16∧(List.all [.int .u32 (cI a 0),j] PV.one=true∧c≠[])∧R .normal d [.cells h,g,.cells [.list (es++c) (.tok 4),.int .i64 m],.dead,.tok]) False) (R .normal d b)) False) (R (.exit 0) f b))→Holds (wpc br Tryd.prog gl [] [] (fun o=>match o.op with| .load t _=>(match t with|31=>1|_=>0)|_=>match o.dst with|some 33=>1|_=>0) (an [1,1,0,1,0] (ai Tryd.f30)) [] (av [1,2,4,5,6] f) b (fun ex e H=>R ex (List.map e [1,2,4,5,6]) H)):Prop):=fun R h=>ag (by kernel_rfl) h
theorem nF (w:List RwI) (i:Nat):InL (w.map csI) 2 (i:Int)=(i<w.length):=cW eB (by decide) w i
theorem oJ {n:Nat} (w:List RwI):∀ x∈(w.map csI).flatten,Low n x:=bh fun a _=>iM a
theorem rE (w:List RwI):uni 2 (w.map csI):=by
 intro e he
 obtain⟨a,_,rfl⟩:=List.mem_map.1 he
 rfl
theorem mo {n:Nat} (w:List RwI) (m:Int):∀ x∈[PV.list (w.map csI) .no,.int .i64 m],Low n x:=by
 intro x hx
 simp only[List.mem_cons,List.not_mem_nil,or_false] at hx
 rcases hx with rfl|rfl
 ·exact aI NT.no (oJ w)
 ·exact .int _ _
theorem iS (w:List RwI) (m:Int):Low 0 (.agg [.list (w.map csI) .no,.int .i64 m]):= .agg _ (mo w m)
theorem ta (w:List RwI) (t:Int):fiW w t≤w.length:=List.findIdx_le_length
def s4:LSp:=fun e H Q=>∃(w:List RwI) (m t:Int),w.length≤1000000∧ak (List.map e [1,2,4,5]) [.int .u32 t,.ptr 0 0,.int .i64 0,.int .i64 0]∧az H [.cells [.list (w.map csI) .no,.int .i64 m]]∧
 (fiW w t<w.length→Q .ret (av [1,2,4,5] [.int .u32 t,.ptr 0 0,.int .i64 (fiW w t),.int .i64 (fiW w t)]) [.cells [.list (w.map csI) .no,.int .i64 m]])∧
 (fiW w t=w.length→Q (.exit 0) (av [1,2,4,5] [.int .u32 t,.ptr 0 0,.int .i64 0,.int .i64 w.length]) [.cells [.list (w.map csI) .no,.int .i64 m]])
theorem tc:∀ e H Q,s4 e H Q→AW Tryd.prog gl Tryd.f29.ntmps (.loop (an [1,0,1,0] (ai Tryd.f29))) Q e H:=by
 rintro e H Q ⟨w,m,t,hl,he,hH,hr,hx⟩
 have hle:=ta w t
 refine aG (hn:=fun _=>0) aq (.nil _ _) (.nil _ _ _ _ _) (σ:=Nat) [1,2,4,5] (fun i=>i≤fiW w t)
  (fun i=>[.int .u32 t,.ptr 0 0,.int .i64 0,.int .i64 i]) (fun _=>[.cells [.list (w.map csI) .no,.int .i64 m]]) (fun i=>w.length-i) 0 (Nat.zero_le _) he hH ?_
 intro i hi
 refine yO w m t i _ ?_
 simp only[ay,dt,List.length_map]
 by_cases h:i<w.length
 ·rw[if_pos (by omega),nF,au,getD_map default h]
  refine⟨h,?_⟩
  rw[if_pos (by rfl),List.drop_zero]
  have hc:cI (csI (w.getD i default)) 0=(w.getD i default).id:=rfl
  rw[hc]
  by_cases c:((w.getD i default).id == t)=true
  ·rw[if_pos c]
   have hge:fiW w t=i:=dA default hi h c
   rw[hge] at hr
   exact hr h
  ·rw[if_neg c]
   have hlt:i<fiW w t:=dH default hi h (by simpa using c)
   exact⟨i+1,(show w.length-(i+1)<w.length-i by omega),hlt,by rw[ax h (by omega)],[],rfl,Nat.le_refl _,.inl rfl⟩
 ·rw[if_neg (by omega)]
  have hi':i≤fiW w t:=hi
  have:i=w.length:=by omega
  subst this
  exact hx (by omega)
theorem uc (w:List RwI) (m:Int) (t:Int):∀(K:PV→Prop),(∃(w_1:List RwI) (m_1:Int) (t_1:Int),w_1.length≤1000000∧ak [.int .u32 t,.ptr 0 0,.int .i64 0,.int .i64 0] [.int .u32 t_1,.ptr 0 0,.int .i64 0,.int .i64 0]∧az [.cells [.list (w.map csI) .no,.int .i64 m]] [.cells [.list (w_1.map csI) .no,.int .i64 m_1]]∧(fiW w_1 t_1<w_1.length→K (.int .i64 (↑(fiW w_1 t_1):Int)))∧(fiW w_1 t_1=w_1.length→K (.int .i64 (-1))))→aj Tryd.prog gl 29 [.agg [.list (w.map csI) .no,.int .i64 m],.int .u32 t] [] (fun x _=>K x):=fun K h=>ah (T:=[]) (L:=[([1,0,1,0],s4)]) (fun _=>0) Tryd.func29 (by kernel_rfl) (by kernel_rfl) (by kernel_rfl) (aB.nil _ _) (.cons (aH (by kernel_rfl)) tc (.nil _ _ _ _ _)) (ag (by kernel_rfl) h)
def sB (args:List PV) (K:PV→Prop):Prop:=∃(w:List RwI) (m t:Int),ak args [.agg [.list (w.map csI) .no,.int .i64 m],.int .u32 t]∧w.length≤1000000∧K (.int .i64 (oO w t))
theorem xR:aO Tryd.prog gl 29 (.pure sB):=by
 rintro args K ⟨w,m,t,he,hl,hk⟩
 have he:args=_:=he
 subst he
 have hle:=ta w t
 refine eM aq (by intro x hx; simp only[List.mem_cons,List.not_mem_nil,or_false] at hx; rcases hx with rfl|rfl; exact iS w m; exact .int _ _) (.int _ _) (uc w m t (fun x=>x = .int .i64 (oO w t)) ⟨w,m,t,hl,rfl,rfl,fun h=>?_,fun h=>?_⟩) hk
 ·unfold oO; rw[if_pos h]
 ·unfold oO; rw[if_neg (by omega)]
def sq (w:List RwI) (m:Int) (acc:List RwI):ae:=match acc with
 | []=>[.cells [.list (w.map csI) .no,.int .i64 m],.cells [.list [] .exact,.int .i64 0],.cells [.list [] .exact,.int .i64 m]]
 | a::acc=>[.cells [.list (w.map csI) .no,.int .i64 m],.cells [.list [] .exact,.int .i64 0],.cells [.list ((a::acc).map csI) (.tok 3),.int .i64 m],.tok]
def vR:LSp:=fun e H Q=>∃(w:List RwI) (m t:Int),w.length≤1000000∧ak (List.map e [1,2,4,5,6]) [.int .u32 t,.ptr 0 0,.ptr 1 0,.ptr 2 0,.int .i64 0]∧az H [.cells [.list (w.map csI) .no,.int .i64 m],.cells [.list [] .exact,.int .i64 0],.cells [.list [] .exact,.int .i64 m]]∧
 (bM w t=[]→Q (.exit 0) (av [1,2,4,5,6] [.int .u32 t,.ptr 0 0,.ptr 1 0,.ptr 2 0,.int .i64 w.length]) [.cells [.list (w.map csI) .no,.int .i64 m],.cells [.list [] .exact,.int .i64 0],.cells [.list [] .exact,.int .i64 m]])∧
 (bM w t≠[]→Q (.exit 0) (av [1,2,4,5,6] [.int .u32 t,.ptr 0 0,.ptr 1 0,.ptr 2 0,.int .i64 w.length]) [.cells [.list (w.map csI) .no,.int .i64 m],.cells [.list [] .exact,.int .i64 0],.cells [.list ((bM w t).map csI) (.tok 3),.int .i64 m],.tok])
theorem lM {n:Nat} (m:Int):∀ x∈[PV.list [] .exact,.int .i64 m],Low n x:=by
 intro x hx
 simp only[List.mem_cons,List.not_mem_nil,or_false] at hx
 rcases hx with rfl|rfl
 ·exact aI NT.exact (fun _ h=>nomatch h)
 ·exact .int _ _
theorem yb {ρ:Nat→Nat} {n:Nat} {es:List RwI} {m:Int} {k:Nat} (h3:ρ 3=k) (hn:3<n):dj ρ n (.cells [.list (es.map csI) (.tok 3),.int .i64 m]) (.cells [.list (es.map csI) (.tok k),.int .i64 m]):=by
 subst h3
 exact .cells (.cons (.ltok _ 3 hn (oJ es)) (aW.low cM))
theorem r8 {ρ:Nat→Nat} {n:Nat} {t i:Int} (h0:ρ 0=0) (h1:ρ 1=1) (h2:ρ 2=2) (hn:2<n):aW ρ n [.int .u32 t,.ptr 0 0,.ptr 1 0,.ptr 2 0,.int .i64 i] [.int .u32 t,.ptr 0 0,.ptr 1 0,.ptr 2 0,.int .i64 i]:=by
 have a0:=Ren.ptr (ρ:=ρ) (n:=n) 0 0 (by omega)
 have a1:=Ren.ptr (ρ:=ρ) (n:=n) 1 0 (by omega)
 have a2:=Ren.ptr (ρ:=ρ) (n:=n) 2 0 (by omega)
 rw[h0] at a0
 rw[h1] at a1
 rw[h2] at a2
 exact .cons (.low (.int _ _)) (.cons a0 (.cons a1 (.cons a2 (.cons (.low (.int _ _)) .nil))))
theorem wV (w:List RwI) (m t i:Int):dV 3 [.int .u32 t,.ptr 0 0,.ptr 1 0,.ptr 2 0,.int .i64 i] [.cells [.list (w.map csI) .no,.int .i64 m],.cells [.list [] .exact,.int .i64 0],.cells [.list [] .exact,.int .i64 m]] [.int .u32 t,.ptr 0 0,.ptr 1 0,.ptr 2 0,.int .i64 i] [.cells [.list (w.map csI) .no,.int .i64 m],.cells [.list [] .exact,.int .i64 0],.cells [.list [] .exact,.int .i64 m]]:=
 aS [0,1,2] (.refl _) (.cons rfl (kD (mo w m)) (.cons rfl (kD (lM _)) (.cons rfl (kD (lM _)) .nil))) (by decide) (Nat.le_refl _) (by decide) (r8 rfl rfl rfl (by simp))
theorem nC (w es:List RwI) (m t i:Int) (k:Nat) (hk:3≤k) {er:List (List PV)} (hee:er=es.map csI) {X:ae} (hX:([.cells [.list (w.map csI) .no,.int .i64 m],.cells [.list [] .exact,.int .i64 0],.cells [.list er (.tok k),.int .i64 m]]++X:ae)[k]?=some .tok):
  dV 3 [.int .u32 t,.ptr 0 0,.ptr 1 0,.ptr 2 0,.int .i64 i] ([.cells [.list (w.map csI) .no,.int .i64 m],.cells [.list [] .exact,.int .i64 0],.cells [.list er (.tok k),.int .i64 m]]++X) [.int .u32 t,.ptr 0 0,.ptr 1 0,.ptr 2 0,.int .i64 i] [.cells [.list (w.map csI) .no,.int .i64 m],.cells [.list [] .exact,.int .i64 0],.cells [.list (es.map csI) (.tok 3),.int .i64 m],.tok]:=by
 subst hee
 exact aS [0,1,2,k] (.refl _) (.cons rfl (kD (mo w m)) (.cons rfl (kD (lM _)) (.cons rfl (yb rfl (by simp)) (.cons hX .tok .nil)))) (by simp; omega) (by simp) (by intro o ho; rcases (show o=0∨o=1∨o=2 by omega) with rfl|rfl|rfl<;>rfl) (r8 rfl rfl rfl (by simp))
theorem tP:∀ e H Q,vR e H Q→AW Tryd.prog gl Tryd.f30.ntmps (.loop (an [1,1,0,1,0] (ai Tryd.f30))) Q e H:=by
 rintro e H Q ⟨w,m,t,hl,he,hH,hx0,hx1⟩
 have hH2:H=_:=hH
 subst hH2
 refine fe (hn:=fun o=>match o.op with| .load t _=>(match t with|31=>1|_=>0)|_=>match o.dst with|some 33=>1|_=>0) aq (.nil _ _) (.nil _ _ _ _ _) (σ:=Nat) [1,2,4,5,6] (fun i=>i≤w.length)
  (fun i=>[.int .u32 t,.ptr 0 0,.ptr 1 0,.ptr 2 0,.int .i64 i]) (fun i=>sq w m (bM (w.take i) t)) (fun i=>w.length-i) 0 (Nat.zero_le _) he rfl ?_
 intro i hi
 have hi':i≤w.length:=hi
 have hstep:∀ h:i<w.length,bM (w.take (i+1)) t=if((w.getD i default).id != t)=true then bM (w.take i) t++[w.getD i default] else bM (w.take i) t:=by
  intro h
  unfold bM
  rw[aZ default h,List.filter_append,List.filter_cons]
  split<;>simp
 have hc:cI (csI (w.getD i default)) 0=(w.getD i default).id:=rfl
 have hlen:(bM (w.take i) t).length≤1000000:=Nat.le_trans (List.length_filter_le _ _) (by rw[List.length_take]; omega)
 cases hacc:bM (w.take i) t with
 | nil=>
  rw[hacc] at hstep
  refine xO w m t i _ ?_
  simp only[ay,dt,List.length_map]
  by_cases h:i<w.length
  ·rw[if_pos (by omega),nF,au,getD_map default h]
   refine⟨h,?_⟩
   rw[if_pos (by rfl),List.drop_zero,hc]
   have hs:=hstep h
   by_cases c:((w.getD i default).id != t)=true
   ·rw[if_pos c] at hs
    rw[if_pos c]
    refine⟨h,?_⟩
    rw[if_pos (by rfl)]
    refine⟨⟨(by intro e he; simp at he),(by intro e he; simp at he; subst he; rfl),by simp⟩,⟨by rfl,by simp⟩,i+1,(show w.length-(i+1)<w.length-i by omega),h,?_⟩
    show dV 3 _ _ [PV.int .u32 t,.ptr 0 0,.ptr 1 0,.ptr 2 0,.int .i64 ((i+1:Nat):Int)] (sq w m (bM (w.take (i+1)) t))
    rw[hs,ax h (by omega)]
    exact nC w [w.getD i default] m t _ 3 (Nat.le_refl _) rfl (X:=[.tok]) rfl
   ·rw[if_neg c] at hs
    rw[if_neg c]
    refine⟨i+1,(show w.length-(i+1)<w.length-i by omega),h,?_⟩
    show dV 3 _ _ [PV.int .u32 t,.ptr 0 0,.ptr 1 0,.ptr 2 0,.int .i64 ((i+1:Nat):Int)] (sq w m (bM (w.take (i+1)) t))
    rw[hs,ax h (by omega)]
    exact wV w m t _
  ·rw[if_neg (by omega)]
   have:i=w.length:=by omega
   subst this
   rw[List.take_length] at hacc
   exact⟨_,_,wV w m t _,hx0 hacc⟩
 | cons a acc=>
  rw[hacc] at hstep hlen
  refine xw w m t ((a::acc).map csI) i _ ?_
  simp only[ay,dt,List.length_map]
  by_cases h:i<w.length
  ·rw[if_pos (by omega),nF,au,getD_map default h]
   refine⟨h,?_⟩
   rw[if_pos (by rfl),List.drop_zero,hc]
   have hs:=hstep h
   by_cases c:((w.getD i default).id != t)=true
   ·rw[if_pos c] at hs
    rw[if_pos c]
    refine⟨h,?_⟩
    rw[if_pos (by rfl)]
    refine⟨⟨rE _,(by intro e he; simp at he; subst he; rfl),by rw[List.length_map,List.length_singleton]; omega⟩,⟨by rfl,by simp⟩,i+1,(show w.length-(i+1)<w.length-i by omega),h,?_⟩
    show dV 3 _ _ [PV.int .u32 t,.ptr 0 0,.ptr 1 0,.ptr 2 0,.int .i64 ((i+1:Nat):Int)] (sq w m (bM (w.take (i+1)) t))
    rw[hs,ax h (by omega)]
    exact nC w (a::acc++[w.getD i default]) m t _ 4 (by decide) (by rw[List.map_append]; rfl) (X:=[.dead,.tok]) rfl
   ·rw[if_neg c] at hs
    rw[if_neg c]
    refine⟨i+1,(show w.length-(i+1)<w.length-i by omega),h,?_⟩
    show dV 3 _ _ [PV.int .u32 t,.ptr 0 0,.ptr 1 0,.ptr 2 0,.int .i64 ((i+1:Nat):Int)] (sq w m (bM (w.take (i+1)) t))
    rw[hs,ax h (by omega)]
    exact nC w (a::acc) m t _ 3 (Nat.le_refl _) rfl (X:=[.tok]) rfl
  ·rw[if_neg (by omega)]
   have:i=w.length:=by omega
   subst this
   rw[List.take_length] at hacc
   rw[hacc] at hx1
   exact⟨_,_,nC w (a::acc) m t _ 3 (Nat.le_refl _) rfl (X:=[.tok]) rfl,hx1 (List.cons_ne_nil _ _)⟩
theorem rN (w:List RwI) (m:Int) (t:Int):∀(K:PV→ae→Prop),(∃(w_1:List RwI) (m_1:Int) (t_1:Int),by refine(?_:_→_→_→Prop) [PV.list (List.map csI (bM w_1 t_1)) (.tok 3),.int .i64 m_1] [PV.list [] .exact,.int .i64 m_1] (Ob.cells [.list (w_1.map csI) .no,.int .i64 m_1]); exact fun a b c=>w_1.length≤1000000∧ak [.int .u32 t,.ptr 0 0,.ptr 1 0,.ptr 2 0,.int .i64 0] [.int .u32 t_1,.ptr 0 0,.ptr 1 0,.ptr 2 0,.int .i64 0]∧az [.cells [.list (w.map csI) .no,.int .i64 m],.cells [.list [] .exact,.int .i64 0],.cells [.list [] .exact,.int .i64 m]] [c,.cells [.list [] .exact,.int .i64 0],.cells b]∧(bM w_1 t_1=[]→K (.agg b) [c,.cells b,.cells b])∧(bM w_1 t_1≠[]→K (.agg a) [c,.cells a,.cells a,.tok]))→aj Tryd.prog gl 30 [.agg [.list (w.map csI) .no,.int .i64 m],.int .u32 t] [] K:=fun K h=>ah (T:=[]) (L:=[([1,1,0,1,0],vR)]) (fun o=>match o.op with| .load t _=>(match t with|31=>1|_=>0)|_=>match o.dst with|some 33=>1|_=>0) Tryd.func30 (by kernel_rfl) (by kernel_rfl) (by kernel_rfl) (aB.nil _ _) (.cons (aH (by kernel_rfl)) tP (.nil _ _ _ _ _)) (ag (by kernel_rfl) h)
theorem rB (w:List RwI) (m t:Int):∀ x∈[PV.agg [.list (w.map csI) .no,.int .i64 m],.int .u32 t],Low 0 x:=by
 intro x hx
 simp only[List.mem_cons,List.not_mem_nil,or_false] at hx
 rcases hx with rfl|rfl
 ·exact iS w m
 ·exact .int _ _
theorem y9 {x y:PV} {xs:List PV} (h:Wk x y):Wk (.agg (x::xs)) (.agg (y::xs)):= .agg (.cons h (.refl _))
def pR (args:List PV) (H:ae) (K:PV→ae→Prop):Prop:=∃(w:List RwI) (m t:Int),ak args [.agg [.list (w.map csI) .no,.int .i64 m],.int .u32 t]∧w.length≤1000000∧
 (bM w t=[]→K (.agg [.list [] .exact,.int .i64 m]) H)∧(bM w t≠[]→K (.agg [.list ((bM w t).map csI) (.tok H.length),.int .i64 m]) (H++[.tok]))
theorem tK:aO Tryd.prog gl 30 (.heap pR):=by
 rintro args H K ⟨w,m,t,he,hl,hk0,hk1⟩
 have he:args=_:=he
 subst he
 refine aM (JZ aq (es:=(bM w t).map csI) (rest:=[.int .i64 m]) (.refl _) (rB w m t) (oJ _) cM ?_ H) ?_
 ·refine rN w m t _ ⟨w,m,t,hl,rfl,rfl,fun h=>⟨fun _=>rfl,fun k=>absurd (by rw[h]; rfl) k⟩,fun h=>⟨fun k=>absurd (List.map_eq_nil_iff.1 k) h,fun _=>⟨3,rfl,rfl⟩⟩⟩
 ·rintro x H' ⟨h0,h1⟩
  by_cases c:bM w t=[]
  ·obtain⟨rfl,rfl⟩:=h0 (by rw[c]; rfl)
   exact hk0 c
  ·obtain⟨rfl,rfl⟩:=h1 (fun k=>c (List.map_eq_nil_iff.1 k))
   exact hk1 c
def KN:Tab:=[(29,.pure sB),(28,.pure wK),(30,.heap pR)]
theorem Ge:aB Tryd.prog gl KN:= .cons xR (.cons ul (.cons tK (.nil _ _)))
theorem uD (w:List RwI) (m:Int) (t v:Int):(by refine(?_:_→_→Prop) (PV.agg [.list (w.map csI) .no,.int .i64 m]) [PV.int .u32 t,.int .i64 v]; exact fun b e=>by refine(?_:_→_→Prop) [e] e; exact fun c d=>∀(K:PV→Prop),by refine(?_:_→Prop) (∃(w_2:List RwI) (m_2:Int) (t_3:Int),ak [b,.int .u32 t] [.agg [.list (w_2.map csI) .no,.int .i64 m_2],.int .u32 t_3]∧w_2.length≤1000000∧(bM w_2 t_3=[]→aX [] c 2 16∧(List.all d PV.one=true∧c≠[])∧K (.tup [.agg [.list c (.tok 3),.int .i64 m_2],.int .i64 0]))∧(bM w_2 t_3≠[]→aX (List.map csI (bM w_2 t_3)) c 2 16∧(List.all d PV.one=true∧c≠[])∧K (.tup [.agg [.list (List.map csI (bM w_2 t_3)++c) (.tok 4),.int .i64 m_2],.int .i64 0]))); exact fun a=>(∃(t_1:Int),0≤t_1∧ak [.int .u32 t] [.int .u32 t_1]∧br (!aF t_1) (K (.tup [b,.int .i64 14])) (∃(w_1:List RwI) (m_1:Int) (t_2:Int),ak [b,.int .u32 t] [.agg [.list (w_1.map csI) .no,.int .i64 m_1],.int .u32 t_2]∧w_1.length≤1000000∧br (decide (oO w_1 t_2<0) == true) (br (decide ((↑(List.length (w.map csI)):Int)≥m)) (K (.tup [b,.int .i64 10])) a) a))→aj Tryd.prog gl 15 [b,.int .u32 t,.int .i64 v] [] (fun x _=>K x):Prop):=fun K h=>ah (T:=KN) (L:=[]) (fun o=>match o.op with| .load t _=>(match t with|31=>1|_=>0)|_=>match o.dst with|some 35=>1|_=>0) Tryd.func15 (by kernel_rfl) (by kernel_rfl) (by kernel_rfl) (Ge) (LOk.nil _ _ _ _ _) (ag (by kernel_rfl) h)
theorem sO (w:List RwI) (t:Int):decide (oO w t<0) = !BS w t:=by
 unfold oO BS
 by_cases c:fiW w t<w.length
 ·rw[if_pos c,decide_eq_true c,decide_eq_false (by omega)]; rfl
 ·rw[if_neg c,decide_eq_false c]; rfl
theorem tN (w:List RwI) (m n:Int):Low 0 (.tup [.agg [.list (w.map csI) .no,.int .i64 m],.int .i64 n]):= .tup _ (by
 intro y hy
 simp only[List.mem_cons,List.not_mem_nil,or_false] at hy
 rcases hy with rfl|rfl
 ·exact iS w m
 ·exact .int _ _)
def rP (args:List PV) (K:PV→Prop):Prop:=∃(w:List RwI) (m t v:Int),ak args [.agg [.list (w.map csI) .no,.int .i64 m],.int .u32 t,.int .i64 v]∧w.length≤1000000∧0≤t∧K (.tup [.agg [.list ((m7 w m t v).1.map csI) .no,.int .i64 m],.int .i64 (m7 w m t v).2])
theorem si {rows:List (List PV)} {tl:Tail} {m n:Int}:Wk (.tup [.agg [.list rows tl,.int .i64 m],.int .i64 n]) (.tup [.agg [.list rows .no,.int .i64 m],.int .i64 n]):= .tup (.cons (y9 (.list _ _)) (.refl _))
theorem mG (w:List RwI) (t:Int):(bM w t).length≤w.length:=List.length_filter_le _ _
theorem q6 (w:List RwI) (m t v:Int):∀ x∈[PV.agg [.list (w.map csI) .no,.int .i64 m],.int .u32 t,.int .i64 v],Low 0 x:=by
 intro x hx
 simp only[List.mem_cons,List.not_mem_nil,or_false] at hx
 rcases hx with rfl|rfl|rfl
 ·exact iS w m
 ·exact .int _ _
 ·exact .int _ _
theorem xu:aO Tryd.prog gl 15 (.pure rP):=by
 rintro args K ⟨w,m,t,v,he,hl,h0,hk⟩
 have he:args=_:=he
 subst he
 refine eM aq (q6 w m t v) (tN _ _ _) (gC (aM (uD w m t v (fun x=>Wk x (.tup [.agg [.list ((m7 w m t v).1.map csI) .no,.int .i64 m],.int .i64 (m7 w m t v).2])) ⟨t,h0,rfl,?_⟩) fun x H' h=>⟨_,H',h,.refl _,rfl⟩)) hk
 unfold m7
 rw[ay]
 by_cases c:aF t=true
 ·rw[if_neg (by simp[c]),if_pos c]
  refine⟨w,m,t,rfl,hl,?_⟩
  simp only[ay,bt,sO,List.length_map]
  have fin:∀ rs:List RwI×Int,rs=(bM w t++[⟨t,v⟩],0)→∃(w_2:List RwI),∃(m_2:Int),∃(t_3:Int),ak [PV.agg [PV.list (List.map csI w) Tail.no,PV.int IntKind.i64 m],PV.int IntKind.u32 t] [PV.agg [PV.list (List.map csI w_2) Tail.no,PV.int IntKind.i64 m_2],PV.int IntKind.u32 t_3]∧List.length w_2≤1000000∧(bM w_2 t_3=[]→aX [] [[PV.int IntKind.u32 t,PV.int IntKind.i64 v]] 2 16∧(List.all [PV.int IntKind.u32 t,PV.int IntKind.i64 v] PV.one=true∧[[PV.int IntKind.u32 t,PV.int IntKind.i64 v]]≠[])∧Wk (PV.tup [PV.agg [PV.list [[PV.int IntKind.u32 t,PV.int IntKind.i64 v]] (Tail.tok 3),PV.int IntKind.i64 m_2],PV.int IntKind.i64 0]) (.tup [.agg [.list (rs.1.map csI) .no,.int .i64 m],.int .i64 rs.2]))∧(bM w_2 t_3≠[]→aX (List.map csI (bM w_2 t_3)) [[PV.int IntKind.u32 t,PV.int IntKind.i64 v]] 2 16∧(List.all [PV.int IntKind.u32 t,PV.int IntKind.i64 v] PV.one=true∧[[PV.int IntKind.u32 t,PV.int IntKind.i64 v]]≠[])∧Wk (PV.tup [PV.agg [PV.list (List.map csI (bM w_2 t_3)++[[PV.int IntKind.u32 t,PV.int IntKind.i64 v]]) (Tail.tok 4),PV.int IntKind.i64 m_2],PV.int IntKind.i64 0]) (.tup [.agg [.list (rs.1.map csI) .no,.int .i64 m],.int .i64 rs.2])):=by
   rintro rs rfl
   refine⟨w,m,t,rfl,hl,fun h=>⟨⟨(by intro e he; simp at he),(by intro e he; simp at he; subst he; rfl),by simp⟩,⟨rfl,by simp⟩,?_⟩,fun _=>⟨⟨rE _,(by intro e he; simp at he; subst he; rfl),?_⟩,⟨rfl,by simp⟩,?_⟩⟩
   ·rw[h]; exact si
   ·have:=mG w t; rw[List.length_map,List.length_singleton]; omega
   ·rw[List.map_append]; exact si
  by_cases c2:BS w t=true
  ·rw[if_neg (by simp[c2]),if_neg (by simp[c2])]
   exact fin _ rfl
  ·have c2':BS w t=false:=by simpa using c2
   rw[if_pos (by simp[c2'])]
   by_cases c3:(w.length:Int)≥m
   ·rw[if_pos (decide_eq_true c3),if_pos ⟨c2',c3⟩]
    exact .refl _
   ·rw[if_neg (by simpa using c3),if_neg (fun h=>c3 h.2)]
    exact fin _ rfl
 ·rw[if_pos (by simpa using c),if_neg c]
  exact .refl _
end Go.Proofs.YtenaelaapdhbdaaDoor
