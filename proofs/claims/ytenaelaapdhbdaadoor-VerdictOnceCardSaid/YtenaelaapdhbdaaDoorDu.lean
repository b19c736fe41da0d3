/-
  The document's table: Match.
-/
import Derived.Test.YtenaelaapdhbdaaDoorDt
import Derived.Test.YtenaelaapdhbdaaDoorProg
namespace Go.Proofs.YtenaelaapdhbdaaDoor
open Go Go.AM Go.Proofs
theorem K7 (c:Mt):c.pv = .agg (mtc c):=rfl
theorem zO (w:List Mt) (t:Int):(w.findIdx (idT t)<w.length→aX Mt.id w t=true∧gM w t=w.getD (w.findIdx (idT t)) default)∧(w.findIdx (idT t)=w.length→aX Mt.id w t=false∧gM w t=mt0):=by
 constructor
 ·intro h
  refine⟨?_,?_⟩
  ·rw[List.findIdx_lt_length] at h
   obtain⟨x,hx,e⟩:=h
   exact cy.2 ⟨x,hx,eq_of_beq e⟩
  ·unfold gM oR
   rw[List.find?_eq_getElem?_findIdx]
   show(w[w.findIdx (idT t)]?).getD default=_
   rw[List.getD_eq_getElem?_getD]
 ·intro h
  have h0:aX Mt.id w t=false:=by
   refine eq_false_of_ne_true fun k=>?_
   obtain⟨x,hx,e⟩:=cy.1 k
   have:w.findIdx (idT t)<w.length:=List.findIdx_lt_length.2 ⟨x,hx,by unfold idT; simpa using e⟩
   omega
  exact⟨h0,jy h0⟩
theorem J8 {b:Bool}:Wk (.tup [.agg [.int .u32 0,.int .i64 0,.int .u32 0,.list [] .exact,.list [] .exact],.bool b]) (.tup [mt0.pv,.bool b]):= .tup (.cons (iS (c:=mt0) (t1:= .exact) (t2:= .exact)) (.cons (.refl _) .nil))
def vZ (args:List PV) (K:PV→Prop):Prop:=∃(w:List Mt) (tl:Tail) (t:Int),ak args [.list (w.map mtc) tl,.int .u32 t]∧w.length≤1000000∧K (.tup [(gM w t).pv,.bool (aX Mt.id w t)])
theorem xN:aQ Tryd.prog gl 35 (.pure vZ):=by
 rintro args K ⟨w,tl,t,he,hl,hk⟩
 have he:args=_:=he
 subst he
 obtain⟨h1,h2⟩:=zO w t
 refine bS ay (.cons (.list _ _) (.cons (.refl _) .nil)) (bN (cn w) (.int _ _)) (r6 _ _) (bC (BG w t (fun x=>∃ y,Wk x y∧y = .tup [(gM w t).pv,.bool (aX Mt.id w t)]) ⟨w,t,hl,trivial,rfl,rfl,fun h=>⟨_,.refl _,?_⟩,fun h=>⟨_,J8,?_⟩⟩)) hk
 ·rw[(h1 h).1,(h1 h).2]; rfl
 ·rw[(h2 h).1,(h2 h).2]
def wz (args:List PV) (K:PV→Prop):Prop:=∃(c:Mt) (t1 t2:Tail) (t:Int),ak args [.agg [.int .u32 c.id,.int .i64 c.md,.int .u32 c.ins,.list (c.rows.map rrc) t1,.list (c.aa.map stc) t2],.int .u32 t]∧c.aa.length≤1000000∧K (.tup [.agg (stc (iJ c t)),.bool (inM c t)])
theorem wO {c:Mt} {p:Int}:(c.aa.findIdx (isP p)<c.aa.length→inM c p=true)∧(c.aa.findIdx (isP p)=c.aa.length→inM c p=false):=by
 constructor
 ·intro h; exact List.any_eq_true.2 ⟨_,List.getElem_mem h,List.findIdx_getElem (w:=h)⟩
 ·intro h
  unfold inM
  rw[List.any_eq_false]
  intro x hx e
  have:=List.findIdx_lt_length_of_exists (p:=isP p) ⟨x,hx,e⟩
  omega
theorem Ej:aQ Tryd.prog gl 69 (.pure wz):=by
 rintro args K ⟨c,t1,t2,t,he,hl,hk⟩
 have he:args=_:=he
 subst he
 refine bS ay (.cons iS (.cons (.refl _) .nil)) (bN c.low (.int _ _)) (G1 _ _) (zm c t (fun x=>x = .tup [.agg (stc (iJ c t)),.bool (inM c t)]) ⟨c.aa,c.id,c.md,c.ins,t,c.rows,hl,trivial,rfl,rfl,fun h=>?_,fun h=>?_⟩) hk
 ·have k:=wO.1 h
  unfold iJ; rw[if_pos k,k]; rfl
 ·have k:=wO.2 h
  unfold iJ; rw[k]; rfl
def fC (l:List Se) (t:Int):Int:=if l.findIdx (nuT t)<l.length then(l.findIdx (nuT t):Int) else -1
def wq (args:List PV) (K:PV→Prop):Prop:=∃(l:List Se) (tl:Tail) (t:Int),ak args [.list (l.map stc) tl,.int .i64 t]∧l.length≤1000000∧K (.int .i64 (fC l t))
theorem xH:aQ Tryd.prog gl 62 (.pure wq):=by
 rintro args K ⟨l,tl,t,he,hl,hk⟩
 have he:args=_:=he
 subst he
 refine bS ay (.cons (.list _ _) (.cons (.refl _) .nil)) (bN (dD l) (.int _ _)) (.int _ _) (AV l t (fun x=>x = .int .i64 (fC l t)) ⟨l,t,hl,trivial,rfl,rfl,fun h=>?_,fun h=>?_⟩) hk
 ·unfold fC; rw[if_pos h]
 ·unfold fC; rw[if_neg (by omega)]
def TRF:Tab:=[(69,.pure wz),(62,.pure wq)]
theorem rL:aE Tryd.prog gl TRF:= .cons Ej (.cons xH (.nil _ _))
theorem Lm (l:List (Mt)) (t:Int) (i:Nat):(by refine(?_:_→_→_→Prop) (List.getD (l.map mtc) (Int.toNat (i:Int)) []) [PV.list (l.map mtc) .no,.int .u32 t,.int .u32 0,.int .i64 i] (PV.list (l.map mtc) .no); exact fun b d f=>∀(R:Ex→List PV→ag→Prop),(br (decide ((i:Int)<(↑(List.length (l.map mtc)):Int))) (InL (l.map mtc) 5 (i:Int)∧br (true && aH [.int .u32,.int .i64,.int .u32,.list,.list] 0 b) (∃(c:Mt) (t1:Tail) (t2:Tail) (t_1:Int),by refine(?_:_→Prop) [Ob.cells [.int .u32 (Se.pl (iJ c t_1)),.int .i64 (Se.tm (iJ c t_1)),.int .i64 (Se.nu (iJ c t_1)),.int .i64 (Se.st (iJ c t_1)),.int .i64 (Se.un (iJ c t_1)),.int .u64 (Se.no (iJ c t_1))]]; exact fun a=>ak [.agg [.int .u32 (cI b 0),.int .i64 (cI b 1),.int .u32 (cI b 2),.list (cL b 3) (cT b 3),.list (cL b 4) (cT b 4)],.int .u32 t] [.agg [.int .u32 c.id,.int .i64 c.md,.int .u32 c.ins,.list (c.rows.map rrc) t1,.list (c.aa.map stc) t2],.int .u32 t_1]∧c.aa.length≤1000000∧br (inM c t_1) (InL (l.map mtc) 5 (i:Int)∧br (true && aH [.int .u32] 0 (List.drop 0 b)) (R .ret [f,.int .u32 t,.int .u32 (cI (List.drop 0 b) 0),.int .i64 i] a) False) (R .normal [f,.int .u32 t,.int .u32 0,.int .i64 (wI ((i:Int)+1))] a)) False) (R (.exit 0) d []))→Holds (wpc br Tryd.prog gl TRF [] (fun _=>0) (av [1,0,1,0] (aj Tryd.f41)) [] (ax [0,1,4,5] d) [] (fun ex e H=>R ex (List.map e [0,1,4,5]) H)):Prop):=fun R h=>ah (by kernel_rfl) h
def IG:LSp:=fun e H Q=>∃(l:List (Mt)) (t:Int),l.length≤1000000∧(∀ c∈l,c.aa.length≤1000000)∧ak (List.map e [0,1,4,5]) [.list (l.map mtc) .no,.int .u32 t,.int .u32 0,.int .i64 0]∧aC H []∧
 (l.findIdx (fun c=>inM c t)<l.length→Q .ret (ax [0,1,4,5] [.list (l.map mtc) .no,.int .u32 t,.int .u32 ((l.getD (l.findIdx (fun c=>inM c t)) default)).id,.int .i64 (l.findIdx (fun c=>inM c t))]) [.cells (stc (iJ ((l.getD (l.findIdx (fun c=>inM c t)) default)) t))])∧(l.findIdx (fun c=>inM c t)=l.length→Q (.exit 0) (ax [0,1,4,5] [.list (l.map mtc) .no,.int .u32 t,.int .u32 0,.int .i64 l.length]) [])
theorem AE:∀ e H Q,IG e H Q→AW Tryd.prog gl Tryd.f41.ntmps (.loop (av [1,0,1,0] (aj Tryd.f41))) Q e H:=by
 rintro e H Q ⟨l,t,hl,hm,he,hH,hQ1,hQ2⟩
 have hfl:l.findIdx (fun c=>inM c t)≤l.length:=List.findIdx_le_length
 refine aL (hn:=fun _=>0) ay (rL) (.nil _ _ _ _ _) (σ:=Nat) [0,1,4,5] (fun i=>i≤l.findIdx (fun c=>inM c t)) (fun i=>[.list (l.map mtc) .no,.int .u32 t,.int .u32 0,.int .i64 i]) (fun _=>[]) (fun i=>l.length-i) 0 (Nat.zero_le _) he hH ?_
 intro i hi
 have hi':i≤l.findIdx (fun c=>inM c t):=hi
 refine Lm l t i _ ?_
 simp only[az,dt,au,List.length_map,nQ]
 by_cases h:i<l.length
 ·rw[if_pos (by omega)]
  simp only[getD_map default h]
  repeat (first|refine⟨h,?_⟩|rw[if_pos (by rfl)])
  refine⟨l.getD i default,.no,.no,t,rfl,hm _ (aI h),?_⟩
  by_cases c:(fun c=>inM c t) (l.getD i default)=true
  ·have hge:l.findIdx (fun c=>inM c t)=i:=dS default hi' h c
   rw[hge] at hQ1
   rw[if_pos (by exact c)]
   repeat (first|refine⟨h,?_⟩|rw[if_pos (by rfl)])
   exact hQ1 h
  ·have hlt:i<l.findIdx (fun c=>inM c t):=dP default hi' h (by simpa using c)
   rw[if_neg (by exact c)]
   exact⟨i+1,(show l.length-(i+1)<l.length-i by omega),hlt,by rw[aA h (by omega)],[_],rfl,Nat.le_refl _,.inr ⟨by
    intro hv hw
    simp only[List.mem_cons,List.not_mem_nil,or_false] at hw
    rcases hw with rfl|rfl|rfl|rfl
    ·exact cn l
    ·exact .int _ _
    ·exact .int _ _
    ·exact .int _ _,rW (by simp)⟩⟩
 ·rw[if_neg (by omega)]
  have:i=l.length:=by omega
  subst this
  exact hQ2 (by omega)
theorem H9 (l:List Mt) (t:Int):∀(K:PV→Prop),(∃(l_1:List Mt) (t_1:Int),by refine(?_:_→Prop) (fun(c:Mt)=>inM c t_1); exact fun a=>l_1.length≤1000000∧(∀(c:Mt),c∈l_1→c.aa.length≤1000000)∧ak [.list (l.map mtc) .no,.int .u32 t,.int .u32 0,.int .i64 0] [.list (l_1.map mtc) .no,.int .u32 t_1,.int .u32 0,.int .i64 0]∧aC [] []∧(List.findIdx a l_1<l_1.length→K (.int .u32 (Mt.id (List.getD l_1 (List.findIdx a l_1) default))))∧(List.findIdx a l_1=l_1.length→K (.int .u32 0)))→an Tryd.prog gl 41 [.list (l.map mtc) .no,.int .u32 t] [] (fun x _=>K x):=fun K h=>ai (T:=TRF) (L:=[([1,0,1,0],IG)]) (fun _=>0) Tryd.func41 (by kernel_rfl) (by kernel_rfl) (by kernel_rfl) (rL) (.cons (aK (by kernel_rfl)) AE (.nil _ _ _ _ _)) (ah (by kernel_rfl) h)
theorem y6 (l:List (Mt)) (cc:Mt) (b:Bool) (i:Nat):(by refine(?_:_→_→_→_→Prop) (List.getD (l.map mtc) (Int.toNat (i:Int)) []) [PV.int .u32 cc.id,.int .i64 cc.md,.int .u32 cc.ins,.list (cc.rows.map rrc) .no,.list (cc.aa.map stc) .no] (PV.list (l.map mtc) .no) (PV.int .i64 (wI ((i:Int)+1))); exact fun c f k m=>by refine(?_:_→_→_→_→_→Prop) f [PV.int .u32 (cI c 0),.int .i64 (cI c 1),.int .u32 (cI c 2),.list (cL c 3) (cT c 3),.list (cL c 4) (cT c 4)] (true && aH [.int .u32] 0 (List.drop 0 c)) (true && aH [.int .u32,.int .i64,.int .u32,.list,.list] 0 c) [k,.ptr 0 0,.list [] .exact,.bool b,.int .i64 i]; exact fun d j n p q=>by refine(?_:_→_→Prop) [j] j; exact fun g h=>∀(R:Ex→List PV→ag→Prop),by refine(?_:_→Prop) (InL (l.map mtc) 5 (i:Int)∧br n (br (cI (List.drop 0 c) 0 != cc.id) (InL (l.map mtc) 5 (i:Int)∧br p (bf [] g 5 72∧(List.all h PV.one=true∧g≠[])∧R .normal [k,.ptr 0 0,.list g (.tok 1),.bool b,m] [.cells d,.tok]) False) (R .normal [k,.ptr 0 0,.list [] .exact,.bool b,m] [.cells d])) False); exact fun a=>(br (decide ((i:Int)<(↑(List.length (l.map mtc)):Int))) (br ((!b) == true) (InL (l.map mtc) 5 (i:Int)∧br n (br (decide (cI (List.drop 0 c) 0≥Mt.id cc)) (bf [] [f] 5 72∧(List.all d PV.one=true∧[f]≠[])∧InL (l.map mtc) 5 (i:Int)∧br n (br (cI (List.drop 0 c) 0 != cc.id) (InL (l.map mtc) 5 (i:Int)∧br p (bf [f] g 5 72∧(List.all h PV.one=true∧g≠[])∧R .normal [k,.ptr 0 0,.list [f,h] (.tok 2),.bool true,m] [.cells d,.dead,.tok]) False) (R .normal [k,.ptr 0 0,.list [f] (.tok 1),.bool true,m] [.cells d,.tok])) False) a) False) a) (R (.exit 0) q [.cells d]))→Holds (wpc br Tryd.prog gl [] [] (fun o=>match o.dst with|some 29=>1|some 44=>1|some 50=>1|_=>0) (av [1,1,1,0,1,0] (aj Tryd.f36)) [] (ax [0,3,5,6,7] q) [.cells (mtc cc)] (fun ex e H=>R ex (List.map e [0,3,5,6,7]) H)):Prop):=fun R h=>ah (by kernel_rfl) h
theorem yK (l:List (Mt)) (cc:Mt) (b:Bool) (es:List (List PV)) (i:Nat):(by refine(?_:_→_→_→_→Prop) (List.getD (l.map mtc) (Int.toNat (i:Int)) []) [PV.int .u32 cc.id,.int .i64 cc.md,.int .u32 cc.ins,.list (cc.rows.map rrc) .no,.list (cc.aa.map stc) .no] (PV.list (l.map mtc) .no) (PV.int .i64 (wI ((i:Int)+1))); exact fun c g k m=>by refine(?_:_→_→_→_→_→Prop) g [PV.int .u32 (cI c 0),.int .i64 (cI c 1),.int .u32 (cI c 2),.list (cL c 3) (cT c 3),.list (cL c 4) (cT c 4)] (true && aH [.int .u32] 0 (List.drop 0 c)) (true && aH [.int .u32,.int .i64,.int .u32,.list,.list] 0 c) [k,.ptr 0 0,.list es (.tok 1),.bool b,.int .i64 i]; exact fun f j n p q=>by refine(?_:_→_→_→Prop) [j] j [Ob.cells f,.dead,.tok]; exact fun d h r=>∀(R:Ex→List PV→ag→Prop),by refine(?_:_→Prop) (InL (l.map mtc) 5 (i:Int)∧br n (br (cI (List.drop 0 c) 0 != cc.id) (InL (l.map mtc) 5 (i:Int)∧br p (bf es d 5 72∧(List.all h PV.one=true∧d≠[])∧R .normal [k,.ptr 0 0,.list (es++d) (.tok 2),.bool b,m] r) False) (R .normal [k,.ptr 0 0,.list es (.tok 1),.bool b,m] [.cells f,.tok])) False); exact fun a=>(br (decide ((i:Int)<(↑(List.length (l.map mtc)):Int))) (br ((!b) == true) (InL (l.map mtc) 5 (i:Int)∧br n (br (decide (cI (List.drop 0 c) 0≥Mt.id cc)) (bf es [g] 5 72∧(List.all f PV.one=true∧[g]≠[])∧InL (l.map mtc) 5 (i:Int)∧br n (br (cI (List.drop 0 c) 0 != cc.id) (InL (l.map mtc) 5 (i:Int)∧br p (bf (es++[g]) d 5 72∧(List.all h PV.one=true∧d≠[])∧R .normal [k,.ptr 0 0,.list (es++[g]++d) (.tok 3),.bool true,m] [.cells f,.dead,.dead,.tok]) False) (R .normal [k,.ptr 0 0,.list (es++[g]) (.tok 2),.bool true,m] r)) False) a) False) a) (R (.exit 0) q [.cells f,.tok]))→Holds (wpc br Tryd.prog gl [] [] (fun o=>match o.dst with|some 29=>1|some 44=>1|some 50=>1|_=>0) (av [1,1,1,0,1,0] (aj Tryd.f36)) [] (ax [0,3,5,6,7] q) [.cells (mtc cc),.tok] (fun ex e H=>R ex (List.map e [0,3,5,6,7]) H)):Prop):=fun R h=>ah (by kernel_rfl) h
def xL:LSp:=fun e H Q=>∃(l:List (Mt)) (cc:Mt) (b:Bool),l.length≤1000000∧(True)∧ak (List.map e [0,3,5,6,7]) [.list (l.map mtc) .no,.ptr 0 0,.list [] .exact,.bool b,.int .i64 0]∧aC H [.cells (mtc cc)]∧
 ((cV (Mt.id) (cc) b l).1=[]→Q (.exit 0) (ax [0,3,5,6,7] [.list (l.map mtc) .no,.ptr 0 0,.list [] .exact,.bool (cV (Mt.id) (cc) b l).2,.int .i64 l.length]) [.cells (mtc cc)])∧((cV (Mt.id) (cc) b l).1≠[]→Q (.exit 0) (ax [0,3,5,6,7] [.list (l.map mtc) .no,.ptr 0 0,.list ((cV (Mt.id) (cc) b l).1.map mtc) (.tok 1),.bool (cV (Mt.id) (cc) b l).2,.int .i64 l.length]) [.cells (mtc cc),.tok])
theorem vj:∀ e H Q,xL e H Q→AW Tryd.prog gl Tryd.f36.ntmps (.loop (av [1,1,1,0,1,0] (aj Tryd.f36))) Q e H:=by
 rintro e H Q ⟨l,cc,b,hl,_,he,hH,hQ1,hQ2⟩
 have hH2:H=[.cells (mtc cc)]:=hH
 refine mJ (f:=mtc) (acc:=fun i=>(cV (Mt.id) (cc) b (l.take i)).1) (I:=fun i=>i≤l.length) (m:=fun i=>l.length-i) (hn:=fun o=>match o.dst with|some 29=>1|some 44=>1|some 50=>1|_=>0) ay (.nil _ _) (.nil _ _ _ _ _) [0,3,5,6,7] (fun r i=>[.list (l.map mtc) .no,.ptr 0 0,r,.bool (cV (Mt.id) (cc) b (l.take i)).2,.int .i64 i]) [.cells (mtc cc)] (0:Nat)
  (rW (by intro ob ho; rcases List.mem_singleton.1 ho with rfl; exact lz cc)) (fun _ _ a _=>lz a) (fun es i k _ h=> .same (cn l) (.same (.ptr _ _ (by simp)) (.row h (.same (.bool _) (.same (.int _ _) (.nil)))))) (fun i _ w hw=>by
   simp only[List.mem_cons,List.not_mem_nil,or_false] at hw
   rcases hw with rfl|rfl|rfl|rfl|rfl
   ·exact cn l
   ·exact .ptr _ _ (by simp)
   ·exact aO NT.exact (by simp)
   ·exact .bool _
   ·exact .int _ _) (Nat.zero_le _) (by simp[cV]) he hH2 ?_ ?_
 ·intro i hi ha
  have hi':i≤l.length:=hi
  obtain⟨s,hsd⟩:∃ s,s=cV (Mt.id) (cc) b (l.take i):=⟨_,rfl⟩
  have hlen:=oO (Mt.id) (cc) b (l.take i)
  rw[List.length_take] at hlen
  simp only[← hsd] at ha hlen ⊢
  refine y6 l cc s.2 i _ ?_
  simp only[az,dt,au,List.length_map,nQ]
  by_cases h:i<l.length
  ·rw[if_pos (by omega)]
   simp only[getD_map default h]
   have hs:=qv (Mt.id) (cc) b default h
   rw[← hsd] at hs
   obtain⟨x,hx⟩:∃ x,x=l.getD i default:=⟨_,rfl⟩
   simp only[← hx] at hs ⊢
   by_cases c1:s.2=false
   ·rw[if_pos (by simp[c1])]
    repeat (first|refine⟨h,?_⟩|rw[if_pos (by rfl)])
    by_cases c2:(Mt.id) x≥(Mt.id) (cc)
    ·rw[if_pos (by exact c2)]
     refine⟨aN (l:=[]) (by_:=72) eM (cc) (by show(0+1)*72≤_; decide),one_row fA (cc),?_⟩
     repeat (first|refine⟨h,?_⟩|rw[if_pos (by rfl)])
     by_cases c3:(Mt.id) x=(Mt.id) (cc)
     ·have hs1:(cV (Mt.id) (cc) b (l.take (i+1))).1=[cc]:=by rw[hs]; simp[dW,c1,c3,ha]
      have hs2:(cV (Mt.id) (cc) b (l.take (i+1))).2=true:=by rw[hs]; simp[dW,c1,c3]
      rw[if_neg (by rw[bne_iff_ne]; exact fun k=>k c3)]
      exact bz (i+1) (show l.length-(i+1)<l.length-i by omega) h hs1 (by simp) [.tok] 1 rfl rfl (by simp) (by(try dsimp only); rw[hs2,aA h (by omega)]; rfl)
     ·have hs1:(cV (Mt.id) (cc) b (l.take (i+1))).1=[cc,x]:=by rw[hs]; simp[dW,c1,c2,c3,ha]
      have hs2:(cV (Mt.id) (cc) b (l.take (i+1))).2=true:=by rw[hs]; simp[dW,c1,c2,c3]
      rw[if_pos (by rw[bne_iff_ne]; exact c3)]
      repeat (first|refine⟨h,?_⟩|rw[if_pos (by rfl)])
      refine⟨aN (l:=[cc]) (by_:=72) eM x (by show(1+1)*72≤_; decide),one_row fA x,?_⟩
      exact bz (i+1) (show l.length-(i+1)<l.length-i by omega) h hs1 (by simp) [.dead,.tok] 2 rfl rfl (by simp) (by(try dsimp only); rw[hs2,aA h (by omega)]; rfl)
    ·rw[if_neg (by exact c2)]
     have c3:¬ (Mt.id) x=(Mt.id) (cc):=fun e=>c2 (Int.le_of_eq e.symm)
     have hs1:(cV (Mt.id) (cc) b (l.take (i+1))).1=[x]:=by rw[hs]; simp[dW,c2,c3,ha]
     have hs2:(cV (Mt.id) (cc) b (l.take (i+1))).2=s.2:=by rw[hs]; simp[dW,c2,c3]
     repeat (first|refine⟨h,?_⟩|rw[if_pos (by rfl)])
     rw[if_pos (by rw[bne_iff_ne]; exact c3)]
     repeat (first|refine⟨h,?_⟩|rw[if_pos (by rfl)])
     refine⟨aN (l:=[]) (by_:=72) eM x (by show(0+1)*72≤_; decide),one_row fA x,?_⟩
     exact bz (i+1) (show l.length-(i+1)<l.length-i by omega) h hs1 (by simp) [.tok] 1 rfl rfl (by simp) (by(try dsimp only); rw[hs2,aA h (by omega)]; rfl)
   ·rw[if_neg (by simpa using c1)]
    repeat (first|refine⟨h,?_⟩|rw[if_pos (by rfl)])
    have c1':s.2=true:=by simpa using c1
    by_cases c3:(Mt.id) x=(Mt.id) (cc)
    ·have hs1:(cV (Mt.id) (cc) b (l.take (i+1))).1=s.1:=by rw[hs]; simp[dW,c1',c3]
     have hs2:(cV (Mt.id) (cc) b (l.take (i+1))).2=s.2:=by rw[hs]; simp[dW,c1',c3]
     rw[if_neg (by rw[bne_iff_ne]; exact fun k=>k c3)]
     exact ku (i+1) (show l.length-(i+1)<l.length-i by omega) h (hs1.trans ha) [] rfl (by(try dsimp only); rw[hs2,aA h (by omega)])
    ·have hs1:(cV (Mt.id) (cc) b (l.take (i+1))).1=[x]:=by rw[hs]; simp[dW,c1',c3,ha]
     have hs2:(cV (Mt.id) (cc) b (l.take (i+1))).2=s.2:=by rw[hs]; simp[dW,c1',c3]
     rw[if_pos (by rw[bne_iff_ne]; exact c3)]
     repeat (first|refine⟨h,?_⟩|rw[if_pos (by rfl)])
     refine⟨aN (l:=[]) (by_:=72) eM x (by show(0+1)*72≤_; decide),one_row fA x,?_⟩
     exact bz (i+1) (show l.length-(i+1)<l.length-i by omega) h hs1 (by simp) [.tok] 1 rfl rfl (by simp) (by(try dsimp only); rw[hs2,aA h (by omega)]; rfl)
  ·rw[if_neg (by omega)]
   have:i=l.length:=by omega
   subst this
   rw[List.take_length] at hsd
   rw[← hsd] at hQ1 hQ2
   exact oV (hQ1 ha)
 ·intro i hi ha
  have hi':i≤l.length:=hi
  obtain⟨s,hsd⟩:∃ s,s=cV (Mt.id) (cc) b (l.take i):=⟨_,rfl⟩
  have hlen:=oO (Mt.id) (cc) b (l.take i)
  rw[List.length_take] at hlen
  simp only[← hsd] at ha hlen ⊢
  refine yK l cc s.2 (s.1.map mtc) i _ ?_
  simp only[az,dt,au,List.length_map,nQ]
  by_cases h:i<l.length
  ·rw[if_pos (by omega)]
   simp only[getD_map default h]
   have hs:=qv (Mt.id) (cc) b default h
   rw[← hsd] at hs
   obtain⟨x,hx⟩:∃ x,x=l.getD i default:=⟨_,rfl⟩
   simp only[← hx] at hs ⊢
   by_cases c1:s.2=false
   ·rw[if_pos (by simp[c1])]
    repeat (first|refine⟨h,?_⟩|rw[if_pos (by rfl)])
    by_cases c2:(Mt.id) x≥(Mt.id) (cc)
    ·rw[if_pos (by exact c2)]
     refine⟨aN eM _ (cc) (by omega),one_row fA (cc),?_⟩
     repeat (first|refine⟨h,?_⟩|rw[if_pos (by rfl)])
     by_cases c3:(Mt.id) x=(Mt.id) (cc)
     ·have hs1:(cV (Mt.id) (cc) b (l.take (i+1))).1=s.1++[cc]:=by rw[hs]; simp[dW,c1,c3]
      have hs2:(cV (Mt.id) (cc) b (l.take (i+1))).2=true:=by rw[hs]; simp[dW,c1,c3]
      rw[if_neg (by rw[bne_iff_ne]; exact fun k=>k c3)]
      exact bz (i+1) (show l.length-(i+1)<l.length-i by omega) h hs1 (by simp) [.dead,.tok] 2 rfl rfl (by simp) (by(try dsimp only); rw[hs2,aA h (by omega)]; simp only[List.map_append]; rfl)
     ·have hs1:(cV (Mt.id) (cc) b (l.take (i+1))).1=s.1++[cc]++[x]:=by rw[hs]; simp[dW,c1,c2,c3]
      have hs2:(cV (Mt.id) (cc) b (l.take (i+1))).2=true:=by rw[hs]; simp[dW,c1,c2,c3]
      rw[if_pos (by rw[bne_iff_ne]; exact c3)]
      repeat (first|refine⟨h,?_⟩|rw[if_pos (by rfl)])
      refine⟨(by have:=aN (l:=s.1++[cc]) (by_:=72) eM x (by simp; omega); rwa [List.map_append] at this),one_row fA x,?_⟩
      exact bz (i+1) (show l.length-(i+1)<l.length-i by omega) h hs1 (by simp) [.dead,.dead,.tok] 3 rfl rfl (by simp) (by(try dsimp only); rw[hs2,aA h (by omega)]; simp only[List.map_append]; rfl)
    ·rw[if_neg (by exact c2)]
     have c3:¬ (Mt.id) x=(Mt.id) (cc):=fun e=>c2 (Int.le_of_eq e.symm)
     have hs1:(cV (Mt.id) (cc) b (l.take (i+1))).1=s.1++[x]:=by rw[hs]; simp[dW,c2,c3]
     have hs2:(cV (Mt.id) (cc) b (l.take (i+1))).2=s.2:=by rw[hs]; simp[dW,c2,c3]
     repeat (first|refine⟨h,?_⟩|rw[if_pos (by rfl)])
     rw[if_pos (by rw[bne_iff_ne]; exact c3)]
     repeat (first|refine⟨h,?_⟩|rw[if_pos (by rfl)])
     refine⟨aN eM _ x (by omega),one_row fA x,?_⟩
     exact bz (i+1) (show l.length-(i+1)<l.length-i by omega) h hs1 (by simp) [.dead,.tok] 2 rfl rfl (by simp) (by(try dsimp only); rw[hs2,aA h (by omega)]; simp only[List.map_append]; rfl)
   ·rw[if_neg (by simpa using c1)]
    repeat (first|refine⟨h,?_⟩|rw[if_pos (by rfl)])
    have c1':s.2=true:=by simpa using c1
    by_cases c3:(Mt.id) x=(Mt.id) (cc)
    ·have hs1:(cV (Mt.id) (cc) b (l.take (i+1))).1=s.1:=by rw[hs]; simp[dW,c1',c3]
     have hs2:(cV (Mt.id) (cc) b (l.take (i+1))).2=s.2:=by rw[hs]; simp[dW,c1',c3]
     rw[if_neg (by rw[bne_iff_ne]; exact fun k=>k c3)]
     exact bz (i+1) (show l.length-(i+1)<l.length-i by omega) h hs1 ha [.tok] 1 rfl rfl (by simp) (by(try dsimp only); rw[hs2,aA h (by omega)])
    ·have hs1:(cV (Mt.id) (cc) b (l.take (i+1))).1=s.1++[x]:=by rw[hs]; simp[dW,c1',c3]
     have hs2:(cV (Mt.id) (cc) b (l.take (i+1))).2=s.2:=by rw[hs]; simp[dW,c1',c3]
     rw[if_pos (by rw[bne_iff_ne]; exact c3)]
     repeat (first|refine⟨h,?_⟩|rw[if_pos (by rfl)])
     refine⟨aN eM _ x (by omega),one_row fA x,?_⟩
     exact bz (i+1) (show l.length-(i+1)<l.length-i by omega) h hs1 (by simp) [.dead,.tok] 2 rfl rfl (by simp) (by(try dsimp only); rw[hs2,aA h (by omega)]; simp only[List.map_append]; rfl)
  ·rw[if_neg (by omega)]
   have:i=l.length:=by omega
   subst this
   rw[List.take_length] at hsd
   rw[← hsd] at hQ1 hQ2
   exact oV (hQ2 ha)
theorem y3 (l:List Mt) (c:Mt):∀(K:PV→Prop),(∃(l_1:List Mt) (cc:Mt) (b:Bool),by refine(?_:_→_→Prop) (cV Mt.id cc b l_1) [PV.int .u32 cc.id,.int .i64 cc.md,.int .u32 cc.ins,.list (cc.rows.map rrc) .no,.list (cc.aa.map stc) .no]; exact fun e f=>by refine(?_:_→_→_→Prop) [f] f (List.map mtc (Prod.fst e)); exact fun a d g=>l_1.length≤1000000∧True∧ak [.list (l.map mtc) .no,.ptr 0 0,.list [] .exact,.bool false,.int .i64 0] [.list (l_1.map mtc) .no,.ptr 0 0,.list [] .exact,.bool b,.int .i64 0]∧aC [.cells [.int .u32 c.id,.int .i64 c.md,.int .u32 c.ins,.list (c.rows.map rrc) .no,.list (c.aa.map stc) .no]] [.cells d]∧(Prod.fst e=[]→br (!Prod.snd e) (bf [] a 5 72∧(List.all d PV.one=true∧a≠[])∧K (.list a (.tok 1))) (K (.list [] .exact)))∧(Prod.fst e≠[]→br (!Prod.snd e) (bf g a 5 72∧(List.all d PV.one=true∧a≠[])∧K (.list (List.map mtc (Prod.fst e)++a) (.tok 2))) (K (.list g (.tok 1)))))→an Tryd.prog gl 36 [.list (l.map mtc) .no,.agg (mtc c)] [] (fun x _=>K x):=fun K h=>ai (T:=[]) (L:=[([1,1,1,0,1,0],xL)]) (fun o=>match o.dst with|some 29=>1|some 44=>1|some 50=>1|_=>0) Tryd.func36 (by kernel_rfl) (by kernel_rfl) (by kernel_rfl) (aE.nil _ _) (.cons (aK (by kernel_rfl)) vj (.nil _ _ _ _ _)) (ah (by kernel_rfl) h)
end Go.Proofs.YtenaelaapdhbdaaDoor
