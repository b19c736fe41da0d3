/-
  The document's table: Match.
-/
import Derived.Test.YtenaelaapdhbdaaDoorDt
import Derived.Test.YtenaelaapdhbdaaDoorProg
namespace Go.Proofs.YtenaelaapdhbdaaDoor
open Go Go.AM Go.Proofs
theorem J1 (c:Mt):c.pv = .agg (mtc c):=rfl
theorem yF (w:List Mt) (t:Int):(w.findIdx (idT t)<w.length→bu Mt.id w t=true∧gM w t=w.getD (w.findIdx (idT t)) default)∧(w.findIdx (idT t)=w.length→bu Mt.id w t=false∧gM w t=mt0):=by
 constructor
 ·intro h
  refine⟨?_,?_⟩
  ·rw[List.findIdx_lt_length] at h
   obtain⟨x,hx,e⟩:=h
   exact dk.2 ⟨x,hx,eq_of_beq e⟩
  ·unfold gM mZ
   rw[List.find?_eq_getElem?_findIdx]
   show(w[w.findIdx (idT t)]?).getD default=_
   rw[List.getD_eq_getElem?_getD]
 ·intro h
  have h0:bu Mt.id w t=false:=by
   refine eq_false_of_ne_true fun k=>?_
   obtain⟨x,hx,e⟩:=dk.1 k
   have:w.findIdx (idT t)<w.length:=List.findIdx_lt_length.2 ⟨x,hx,by unfold idT; simpa using e⟩
   omega
  exact⟨h0,jb h0⟩
theorem JW {b:Bool}:Wk (.tup [.agg [.int .u32 0,.int .i64 0,.int .u32 0,.list [] .exact,.list [] .exact],.bool b]) (.tup [mt0.pv,.bool b]):= .tup (.cons (iF (c:=mt0) (t1:= .exact) (t2:= .exact)) (.cons (.refl _) .nil))
def ud (args:List PV) (K:PV→Prop):Prop:=∃(w:List Mt) (tl:Tail) (t:Int),ak args [.list (w.map mtc) tl,.int .u32 t]∧w.length≤1000000∧K (.tup [(gM w t).pv,.bool (bu Mt.id w t)])
theorem wG:aO Tryd.prog gl 35 (.pure ud):=by
 rintro args K ⟨w,tl,t,he,hl,hk⟩
 have he:args=_:=he
 subst he
 obtain⟨h1,h2⟩:=yF w t
 refine bH aq (.cons (.list _ _) (.cons (.refl _) .nil)) (bF (bY w) (.int _ _)) (qI _ _) (bA (DX w t (fun x=>∃ y,Wk x y∧y = .tup [(gM w t).pv,.bool (bu Mt.id w t)]) ⟨w,t,hl,trivial,rfl,rfl,fun h=>⟨_,.refl _,?_⟩,fun h=>⟨_,JW,?_⟩⟩)) hk
 ·rw[(h1 h).1,(h1 h).2]; rfl
 ·rw[(h2 h).1,(h2 h).2]
def wJ (args:List PV) (K:PV→Prop):Prop:=∃(c:Mt) (t1 t2:Tail) (t:Int),ak args [.agg [.int .u32 c.id,.int .i64 c.md,.int .u32 c.ins,.list (c.rows.map rrc) t1,.list (c.aa.map stc) t2],.int .u32 t]∧c.aa.length≤1000000∧K (.tup [.agg (stc (iy c t)),.bool (inM c t)])
theorem vf {c:Mt} {p:Int}:(c.aa.findIdx (isP p)<c.aa.length→inM c p=true)∧(c.aa.findIdx (isP p)=c.aa.length→inM c p=false):=by
 constructor
 ·intro h; exact List.any_eq_true.2 ⟨_,List.getElem_mem h,List.findIdx_getElem (w:=h)⟩
 ·intro h
  unfold inM
  rw[List.any_eq_false]
  intro x hx e
  have:=List.findIdx_lt_length_of_exists (p:=isP p) ⟨x,hx,e⟩
  omega
theorem Bt:aO Tryd.prog gl 69 (.pure wJ):=by
 rintro args K ⟨c,t1,t2,t,he,hl,hk⟩
 have he:args=_:=he
 subst he
 refine bH aq (.cons iF (.cons (.refl _) .nil)) (bF c.low (.int _ _)) (GR _ _) (xH c t (fun x=>x = .tup [.agg (stc (iy c t)),.bool (inM c t)]) ⟨c.aa,c.id,c.md,c.ins,t,c.rows,hl,trivial,rfl,rfl,fun h=>?_,fun h=>?_⟩) hk
 ·have k:=vf.1 h
  unfold iy; rw[if_pos k,k]; rfl
 ·have k:=vf.2 h
  unfold iy; rw[k]; rfl
def fh (l:List Se) (t:Int):Int:=if l.findIdx (nuT t)<l.length then(l.findIdx (nuT t):Int) else -1
def uM (args:List PV) (K:PV→Prop):Prop:=∃(l:List Se) (tl:Tail) (t:Int),ak args [.list (l.map stc) tl,.int .i64 t]∧l.length≤1000000∧K (.int .i64 (fh l t))
theorem wz:aO Tryd.prog gl 62 (.pure uM):=by
 rintro args K ⟨l,tl,t,he,hl,hk⟩
 have he:args=_:=he
 subst he
 refine bH aq (.cons (.list _ _) (.cons (.refl _) .nil)) (bF (dg l) (.int _ _)) (.int _ _) (zU l t (fun x=>x = .int .i64 (fh l t)) ⟨l,t,hl,trivial,rfl,rfl,fun h=>?_,fun h=>?_⟩) hk
 ·unfold fh; rw[if_pos h]
 ·unfold fh; rw[if_neg (by omega)]
def TRF:Tab:=[(69,.pure wJ),(62,.pure uM)]
theorem qL:aB Tryd.prog gl TRF:= .cons Bt (.cons wz (.nil _ _))
theorem J3 (l:List (Mt)) (t:Int) (i:Nat):(by refine(?_:_→_→_→Prop) (List.getD (l.map mtc) (Int.toNat (i:Int)) []) [PV.list (l.map mtc) .no,.int .u32 t,.int .u32 0,.int .i64 i] (PV.list (l.map mtc) .no); exact fun b d f=>∀(R:Ex→List PV→ae→Prop),(br (decide ((i:Int)<(↑(List.length (l.map mtc)):Int))) (InL (l.map mtc) 5 (i:Int)∧br (true && aP [.int .u32,.int .i64,.int .u32,.list,.list] 0 b) (∃(c:Mt) (t1:Tail) (t2:Tail) (t_1:Int),by refine(?_:_→Prop) [Ob.cells [.int .u32 (Se.pl (iy c t_1)),.int .i64 (Se.tm (iy c t_1)),.int .i64 (Se.nu (iy c t_1)),.int .i64 (Se.st (iy c t_1)),.int .i64 (Se.un (iy c t_1)),.int .u64 (Se.no (iy c t_1))]]; exact fun a=>ak [.agg [.int .u32 (cI b 0),.int .i64 (cI b 1),.int .u32 (cI b 2),.list (cL b 3) (cT b 3),.list (cL b 4) (cT b 4)],.int .u32 t] [.agg [.int .u32 c.id,.int .i64 c.md,.int .u32 c.ins,.list (c.rows.map rrc) t1,.list (c.aa.map stc) t2],.int .u32 t_1]∧c.aa.length≤1000000∧br (inM c t_1) (InL (l.map mtc) 5 (i:Int)∧br (true && aP [.int .u32] 0 (List.drop 0 b)) (R .ret [f,.int .u32 t,.int .u32 (cI (List.drop 0 b) 0),.int .i64 i] a) False) (R .normal [f,.int .u32 t,.int .u32 0,.int .i64 (wI ((i:Int)+1))] a)) False) (R (.exit 0) d []))→Holds (wpc br Tryd.prog gl TRF [] (fun _=>0) (an [1,0,1,0] (ai Tryd.f41)) [] (av [0,1,4,5] d) [] (fun ex e H=>R ex (List.map e [0,1,4,5]) H)):Prop):=fun R h=>ag (by kernel_rfl) h
def HR:LSp:=fun e H Q=>∃(l:List (Mt)) (t:Int),l.length≤1000000∧(∀ c∈l,c.aa.length≤1000000)∧ak (List.map e [0,1,4,5]) [.list (l.map mtc) .no,.int .u32 t,.int .u32 0,.int .i64 0]∧az H []∧
 (l.findIdx (fun c=>inM c t)<l.length→Q .ret (av [0,1,4,5] [.list (l.map mtc) .no,.int .u32 t,.int .u32 ((l.getD (l.findIdx (fun c=>inM c t)) default)).id,.int .i64 (l.findIdx (fun c=>inM c t))]) [.cells (stc (iy ((l.getD (l.findIdx (fun c=>inM c t)) default)) t))])∧(l.findIdx (fun c=>inM c t)=l.length→Q (.exit 0) (av [0,1,4,5] [.list (l.map mtc) .no,.int .u32 t,.int .u32 0,.int .i64 l.length]) [])
theorem Aw:∀ e H Q,HR e H Q→AW Tryd.prog gl Tryd.f41.ntmps (.loop (an [1,0,1,0] (ai Tryd.f41))) Q e H:=by
 rintro e H Q ⟨l,t,hl,hm,he,hH,hQ1,hQ2⟩
 have hfl:l.findIdx (fun c=>inM c t)≤l.length:=List.findIdx_le_length
 refine aG (hn:=fun _=>0) aq (qL) (.nil _ _ _ _ _) (σ:=Nat) [0,1,4,5] (fun i=>i≤l.findIdx (fun c=>inM c t)) (fun i=>[.list (l.map mtc) .no,.int .u32 t,.int .u32 0,.int .i64 i]) (fun _=>[]) (fun i=>l.length-i) 0 (Nat.zero_le _) he hH ?_
 intro i hi
 have hi':i≤l.findIdx (fun c=>inM c t):=hi
 refine J3 l t i _ ?_
 simp only[ay,dt,au,List.length_map,nB]
 by_cases h:i<l.length
 ·rw[if_pos (by omega)]
  simp only[getD_map default h]
  repeat (first|refine⟨h,?_⟩|rw[if_pos (by rfl)])
  refine⟨l.getD i default,.no,.no,t,rfl,hm _ (bj h),?_⟩
  by_cases c:(fun c=>inM c t) (l.getD i default)=true
  ·have hge:l.findIdx (fun c=>inM c t)=i:=dA default hi' h c
   rw[hge] at hQ1
   rw[if_pos (by exact c)]
   repeat (first|refine⟨h,?_⟩|rw[if_pos (by rfl)])
   exact hQ1 h
  ·have hlt:i<l.findIdx (fun c=>inM c t):=dH default hi' h (by simpa using c)
   rw[if_neg (by exact c)]
   exact⟨i+1,(show l.length-(i+1)<l.length-i by omega),hlt,by rw[ax h (by omega)],[_],rfl,Nat.le_refl _,.inr ⟨by
    intro hv hw
    simp only[List.mem_cons,List.not_mem_nil,or_false] at hw
    rcases hw with rfl|rfl|rfl|rfl
    ·exact bY l
    ·exact .int _ _
    ·exact .int _ _
    ·exact .int _ _,ql (by simp)⟩⟩
 ·rw[if_neg (by omega)]
  have:i=l.length:=by omega
  subst this
  exact hQ2 (by omega)
theorem En (l:List Mt) (t:Int):∀(K:PV→Prop),(∃(l_1:List Mt) (t_1:Int),by refine(?_:_→Prop) (fun(c:Mt)=>inM c t_1); exact fun a=>l_1.length≤1000000∧(∀(c:Mt),c∈l_1→c.aa.length≤1000000)∧ak [.list (l.map mtc) .no,.int .u32 t,.int .u32 0,.int .i64 0] [.list (l_1.map mtc) .no,.int .u32 t_1,.int .u32 0,.int .i64 0]∧az [] []∧(List.findIdx a l_1<l_1.length→K (.int .u32 (Mt.id (List.getD l_1 (List.findIdx a l_1) default))))∧(List.findIdx a l_1=l_1.length→K (.int .u32 0)))→aj Tryd.prog gl 41 [.list (l.map mtc) .no,.int .u32 t] [] (fun x _=>K x):=fun K h=>ah (T:=TRF) (L:=[([1,0,1,0],HR)]) (fun _=>0) Tryd.func41 (by kernel_rfl) (by kernel_rfl) (by kernel_rfl) (qL) (.cons (aH (by kernel_rfl)) Aw (.nil _ _ _ _ _)) (ag (by kernel_rfl) h)
theorem xY (l:List (Mt)) (cc:Mt) (b:Bool) (i:Nat):(by refine(?_:_→_→_→_→Prop) (List.getD (l.map mtc) (Int.toNat (i:Int)) []) [PV.int .u32 cc.id,.int .i64 cc.md,.int .u32 cc.ins,.list (cc.rows.map rrc) .no,.list (cc.aa.map stc) .no] (PV.list (l.map mtc) .no) (PV.int .i64 (wI ((i:Int)+1))); exact fun c f k m=>by refine(?_:_→_→_→_→_→Prop) f [PV.int .u32 (cI c 0),.int .i64 (cI c 1),.int .u32 (cI c 2),.list (cL c 3) (cT c 3),.list (cL c 4) (cT c 4)] (true && aP [.int .u32] 0 (List.drop 0 c)) (true && aP [.int .u32,.int .i64,.int .u32,.list,.list] 0 c) [k,.ptr 0 0,.list [] .exact,.bool b,.int .i64 i]; exact fun d j n p q=>by refine(?_:_→_→Prop) [j] j; exact fun g h=>∀(R:Ex→List PV→ae→Prop),by refine(?_:_→Prop) (InL (l.map mtc) 5 (i:Int)∧br n (br (cI (List.drop 0 c) 0 != cc.id) (InL (l.map mtc) 5 (i:Int)∧br p (aX [] g 5 72∧(List.all h PV.one=true∧g≠[])∧R .normal [k,.ptr 0 0,.list g (.tok 1),.bool b,m] [.cells d,.tok]) False) (R .normal [k,.ptr 0 0,.list [] .exact,.bool b,m] [.cells d])) False); exact fun a=>(br (decide ((i:Int)<(↑(List.length (l.map mtc)):Int))) (br ((!b) == true) (InL (l.map mtc) 5 (i:Int)∧br n (br (decide (cI (List.drop 0 c) 0≥Mt.id cc)) (aX [] [f] 5 72∧(List.all d PV.one=true∧[f]≠[])∧InL (l.map mtc) 5 (i:Int)∧br n (br (cI (List.drop 0 c) 0 != cc.id) (InL (l.map mtc) 5 (i:Int)∧br p (aX [f] g 5 72∧(List.all h PV.one=true∧g≠[])∧R .normal [k,.ptr 0 0,.list [f,h] (.tok 2),.bool true,m] [.cells d,.dead,.tok]) False) (R .normal [k,.ptr 0 0,.list [f] (.tok 1),.bool true,m] [.cells d,.tok])) False) a) False) a) (R (.exit 0) q [.cells d]))→Holds (wpc br Tryd.prog gl [] [] (fun o=>match o.dst with|some 29=>1|some 44=>1|some 50=>1|_=>0) (an [1,1,1,0,1,0] (ai Tryd.f36)) [] (av [0,3,5,6,7] q) [.cells (mtc cc)] (fun ex e H=>R ex (List.map e [0,3,5,6,7]) H)):Prop):=fun R h=>ag (by kernel_rfl) h
theorem yy (l:List (Mt)) (cc:Mt) (b:Bool) (es:List (List PV)) (i:Nat):(by refine(?_:_→_→_→_→Prop) (List.getD (l.map mtc) (Int.toNat (i:Int)) []) [PV.int .u32 cc.id,.int .i64 cc.md,.int .u32 cc.ins,.list (cc.rows.map rrc) .no,.list (cc.aa.map stc) .no] (PV.list (l.map mtc) .no) (PV.int .i64 (wI ((i:Int)+1))); exact fun c g k m=>by refine(?_:_→_→_→_→_→Prop) g [PV.int .u32 (cI c 0),.int .i64 (cI c 1),.int .u32 (cI c 2),.list (cL c 3) (cT c 3),.list (cL c 4) (cT c 4)] (true && aP [.int .u32] 0 (List.drop 0 c)) (true && aP [.int .u32,.int .i64,.int .u32,.list,.list] 0 c) [k,.ptr 0 0,.list es (.tok 1),.bool b,.int .i64 i]; exact fun f j n p q=>by refine(?_:_→_→_→Prop) [j] j [Ob.cells f,.dead,.tok]; exact fun d h r=>∀(R:Ex→List PV→ae→Prop),by refine(?_:_→Prop) (InL (l.map mtc) 5 (i:Int)∧br n (br (cI (List.drop 0 c) 0 != cc.id) (InL (l.map mtc) 5 (i:Int)∧br p (aX es d 5 72∧(List.all h PV.one=true∧d≠[])∧R .normal [k,.ptr 0 0,.list (es++d) (.tok 2),.bool b,m] r) False) (R .normal [k,.ptr 0 0,.list es (.tok 1),.bool b,m] [.cells f,.tok])) False); exact fun a=>(br (decide ((i:Int)<(↑(List.length (l.map mtc)):Int))) (br ((!b) == true) (InL (l.map mtc) 5 (i:Int)∧br n (br (decide (cI (List.drop 0 c) 0≥Mt.id cc)) (aX es [g] 5 72∧(List.all f PV.one=true∧[g]≠[])∧InL (l.map mtc) 5 (i:Int)∧br n (br (cI (List.drop 0 c) 0 != cc.id) (InL (l.map mtc) 5 (i:Int)∧br p (aX (es++[g]) d 5 72∧(List.all h PV.one=true∧d≠[])∧R .normal [k,.ptr 0 0,.list (es++[g]++d) (.tok 3),.bool true,m] [.cells f,.dead,.dead,.tok]) False) (R .normal [k,.ptr 0 0,.list (es++[g]) (.tok 2),.bool true,m] r)) False) a) False) a) (R (.exit 0) q [.cells f,.tok]))→Holds (wpc br Tryd.prog gl [] [] (fun o=>match o.dst with|some 29=>1|some 44=>1|some 50=>1|_=>0) (an [1,1,1,0,1,0] (ai Tryd.f36)) [] (av [0,3,5,6,7] q) [.cells (mtc cc),.tok] (fun ex e H=>R ex (List.map e [0,3,5,6,7]) H)):Prop):=fun R h=>ag (by kernel_rfl) h
def vp:LSp:=fun e H Q=>∃(l:List (Mt)) (cc:Mt) (b:Bool),l.length≤1000000∧(True)∧ak (List.map e [0,3,5,6,7]) [.list (l.map mtc) .no,.ptr 0 0,.list [] .exact,.bool b,.int .i64 0]∧az H [.cells (mtc cc)]∧
 ((cP (Mt.id) (cc) b l).1=[]→Q (.exit 0) (av [0,3,5,6,7] [.list (l.map mtc) .no,.ptr 0 0,.list [] .exact,.bool (cP (Mt.id) (cc) b l).2,.int .i64 l.length]) [.cells (mtc cc)])∧((cP (Mt.id) (cc) b l).1≠[]→Q (.exit 0) (av [0,3,5,6,7] [.list (l.map mtc) .no,.ptr 0 0,.list ((cP (Mt.id) (cc) b l).1.map mtc) (.tok 1),.bool (cP (Mt.id) (cc) b l).2,.int .i64 l.length]) [.cells (mtc cc),.tok])
theorem uO:∀ e H Q,vp e H Q→AW Tryd.prog gl Tryd.f36.ntmps (.loop (an [1,1,1,0,1,0] (ai Tryd.f36))) Q e H:=by
 rintro e H Q ⟨l,cc,b,hl,_,he,hH,hQ1,hQ2⟩
 have hH2:H=[.cells (mtc cc)]:=hH
 refine lH (f:=mtc) (acc:=fun i=>(cP (Mt.id) (cc) b (l.take i)).1) (I:=fun i=>i≤l.length) (m:=fun i=>l.length-i) (hn:=fun o=>match o.dst with|some 29=>1|some 44=>1|some 50=>1|_=>0) aq (.nil _ _) (.nil _ _ _ _ _) [0,3,5,6,7] (fun r i=>[.list (l.map mtc) .no,.ptr 0 0,r,.bool (cP (Mt.id) (cc) b (l.take i)).2,.int .i64 i]) [.cells (mtc cc)] (0:Nat)
  (ql (by intro ob ho; rcases List.mem_singleton.1 ho with rfl; exact kH cc)) (fun _ _ a _=>kH a) (fun es i k _ h=> .same (bY l) (.same (.ptr _ _ (by simp)) (.row h (.same (.bool _) (.same (.int _ _) (.nil)))))) (fun i _ w hw=>by
   simp only[List.mem_cons,List.not_mem_nil,or_false] at hw
   rcases hw with rfl|rfl|rfl|rfl|rfl
   ·exact bY l
   ·exact .ptr _ _ (by simp)
   ·exact aI NT.exact (by simp)
   ·exact .bool _
   ·exact .int _ _) (Nat.zero_le _) (by simp[cP]) he hH2 ?_ ?_
 ·intro i hi ha
  have hi':i≤l.length:=hi
  obtain⟨s,hsd⟩:∃ s,s=cP (Mt.id) (cc) b (l.take i):=⟨_,rfl⟩
  have hlen:=nK (Mt.id) (cc) b (l.take i)
  rw[List.length_take] at hlen
  simp only[← hsd] at ha hlen ⊢
  refine xY l cc s.2 i _ ?_
  simp only[ay,dt,au,List.length_map,nB]
  by_cases h:i<l.length
  ·rw[if_pos (by omega)]
   simp only[getD_map default h]
   have hs:=pU (Mt.id) (cc) b default h
   rw[← hsd] at hs
   obtain⟨x,hx⟩:∃ x,x=l.getD i default:=⟨_,rfl⟩
   simp only[← hx] at hs ⊢
   by_cases c1:s.2=false
   ·rw[if_pos (by simp[c1])]
    repeat (first|refine⟨h,?_⟩|rw[if_pos (by rfl)])
    by_cases c2:(Mt.id) x≥(Mt.id) (cc)
    ·rw[if_pos (by exact c2)]
     refine⟨aL (l:=[]) (by_:=72) eD (cc) (by show(0+1)*72≤_; decide),one_row fa (cc),?_⟩
     repeat (first|refine⟨h,?_⟩|rw[if_pos (by rfl)])
     by_cases c3:(Mt.id) x=(Mt.id) (cc)
     ·have hs1:(cP (Mt.id) (cc) b (l.take (i+1))).1=[cc]:=by rw[hs]; simp[dB,c1,c3,ha]
      have hs2:(cP (Mt.id) (cc) b (l.take (i+1))).2=true:=by rw[hs]; simp[dB,c1,c3]
      rw[if_neg (by rw[bne_iff_ne]; exact fun k=>k c3)]
      exact bf (i+1) (show l.length-(i+1)<l.length-i by omega) h hs1 (by simp) [.tok] 1 rfl rfl (by simp) (by(try dsimp only); rw[hs2,ax h (by omega)]; rfl)
     ·have hs1:(cP (Mt.id) (cc) b (l.take (i+1))).1=[cc,x]:=by rw[hs]; simp[dB,c1,c2,c3,ha]
      have hs2:(cP (Mt.id) (cc) b (l.take (i+1))).2=true:=by rw[hs]; simp[dB,c1,c2,c3]
      rw[if_pos (by rw[bne_iff_ne]; exact c3)]
      repeat (first|refine⟨h,?_⟩|rw[if_pos (by rfl)])
      refine⟨aL (l:=[cc]) (by_:=72) eD x (by show(1+1)*72≤_; decide),one_row fa x,?_⟩
      exact bf (i+1) (show l.length-(i+1)<l.length-i by omega) h hs1 (by simp) [.dead,.tok] 2 rfl rfl (by simp) (by(try dsimp only); rw[hs2,ax h (by omega)]; rfl)
    ·rw[if_neg (by exact c2)]
     have c3:¬ (Mt.id) x=(Mt.id) (cc):=fun e=>c2 (Int.le_of_eq e.symm)
     have hs1:(cP (Mt.id) (cc) b (l.take (i+1))).1=[x]:=by rw[hs]; simp[dB,c2,c3,ha]
     have hs2:(cP (Mt.id) (cc) b (l.take (i+1))).2=s.2:=by rw[hs]; simp[dB,c2,c3]
     repeat (first|refine⟨h,?_⟩|rw[if_pos (by rfl)])
     rw[if_pos (by rw[bne_iff_ne]; exact c3)]
     repeat (first|refine⟨h,?_⟩|rw[if_pos (by rfl)])
     refine⟨aL (l:=[]) (by_:=72) eD x (by show(0+1)*72≤_; decide),one_row fa x,?_⟩
     exact bf (i+1) (show l.length-(i+1)<l.length-i by omega) h hs1 (by simp) [.tok] 1 rfl rfl (by simp) (by(try dsimp only); rw[hs2,ax h (by omega)]; rfl)
   ·rw[if_neg (by simpa using c1)]
    repeat (first|refine⟨h,?_⟩|rw[if_pos (by rfl)])
    have c1':s.2=true:=by simpa using c1
    by_cases c3:(Mt.id) x=(Mt.id) (cc)
    ·have hs1:(cP (Mt.id) (cc) b (l.take (i+1))).1=s.1:=by rw[hs]; simp[dB,c1',c3]
     have hs2:(cP (Mt.id) (cc) b (l.take (i+1))).2=s.2:=by rw[hs]; simp[dB,c1',c3]
     rw[if_neg (by rw[bne_iff_ne]; exact fun k=>k c3)]
     exact jS (i+1) (show l.length-(i+1)<l.length-i by omega) h (hs1.trans ha) [] rfl (by(try dsimp only); rw[hs2,ax h (by omega)])
    ·have hs1:(cP (Mt.id) (cc) b (l.take (i+1))).1=[x]:=by rw[hs]; simp[dB,c1',c3,ha]
     have hs2:(cP (Mt.id) (cc) b (l.take (i+1))).2=s.2:=by rw[hs]; simp[dB,c1',c3]
     rw[if_pos (by rw[bne_iff_ne]; exact c3)]
     repeat (first|refine⟨h,?_⟩|rw[if_pos (by rfl)])
     refine⟨aL (l:=[]) (by_:=72) eD x (by show(0+1)*72≤_; decide),one_row fa x,?_⟩
     exact bf (i+1) (show l.length-(i+1)<l.length-i by omega) h hs1 (by simp) [.tok] 1 rfl rfl (by simp) (by(try dsimp only); rw[hs2,ax h (by omega)]; rfl)
  ·rw[if_neg (by omega)]
   have:i=l.length:=by omega
   subst this
   rw[List.take_length] at hsd
   rw[← hsd] at hQ1 hQ2
   exact n9 (hQ1 ha)
 ·intro i hi ha
  have hi':i≤l.length:=hi
  obtain⟨s,hsd⟩:∃ s,s=cP (Mt.id) (cc) b (l.take i):=⟨_,rfl⟩
  have hlen:=nK (Mt.id) (cc) b (l.take i)
  rw[List.length_take] at hlen
  simp only[← hsd] at ha hlen ⊢
  refine yy l cc s.2 (s.1.map mtc) i _ ?_
  simp only[ay,dt,au,List.length_map,nB]
  by_cases h:i<l.length
  ·rw[if_pos (by omega)]
   simp only[getD_map default h]
   have hs:=pU (Mt.id) (cc) b default h
   rw[← hsd] at hs
   obtain⟨x,hx⟩:∃ x,x=l.getD i default:=⟨_,rfl⟩
   simp only[← hx] at hs ⊢
   by_cases c1:s.2=false
   ·rw[if_pos (by simp[c1])]
    repeat (first|refine⟨h,?_⟩|rw[if_pos (by rfl)])
    by_cases c2:(Mt.id) x≥(Mt.id) (cc)
    ·rw[if_pos (by exact c2)]
     refine⟨aL eD _ (cc) (by omega),one_row fa (cc),?_⟩
     repeat (first|refine⟨h,?_⟩|rw[if_pos (by rfl)])
     by_cases c3:(Mt.id) x=(Mt.id) (cc)
     ·have hs1:(cP (Mt.id) (cc) b (l.take (i+1))).1=s.1++[cc]:=by rw[hs]; simp[dB,c1,c3]
      have hs2:(cP (Mt.id) (cc) b (l.take (i+1))).2=true:=by rw[hs]; simp[dB,c1,c3]
      rw[if_neg (by rw[bne_iff_ne]; exact fun k=>k c3)]
      exact bf (i+1) (show l.length-(i+1)<l.length-i by omega) h hs1 (by simp) [.dead,.tok] 2 rfl rfl (by simp) (by(try dsimp only); rw[hs2,ax h (by omega)]; simp only[List.map_append]; rfl)
     ·have hs1:(cP (Mt.id) (cc) b (l.take (i+1))).1=s.1++[cc]++[x]:=by rw[hs]; simp[dB,c1,c2,c3]
      have hs2:(cP (Mt.id) (cc) b (l.take (i+1))).2=true:=by rw[hs]; simp[dB,c1,c2,c3]
      rw[if_pos (by rw[bne_iff_ne]; exact c3)]
      repeat (first|refine⟨h,?_⟩|rw[if_pos (by rfl)])
      refine⟨(by have:=aL (l:=s.1++[cc]) (by_:=72) eD x (by simp; omega); rwa [List.map_append] at this),one_row fa x,?_⟩
      exact bf (i+1) (show l.length-(i+1)<l.length-i by omega) h hs1 (by simp) [.dead,.dead,.tok] 3 rfl rfl (by simp) (by(try dsimp only); rw[hs2,ax h (by omega)]; simp only[List.map_append]; rfl)
    ·rw[if_neg (by exact c2)]
     have c3:¬ (Mt.id) x=(Mt.id) (cc):=fun e=>c2 (Int.le_of_eq e.symm)
     have hs1:(cP (Mt.id) (cc) b (l.take (i+1))).1=s.1++[x]:=by rw[hs]; simp[dB,c2,c3]
     have hs2:(cP (Mt.id) (cc) b (l.take (i+1))).2=s.2:=by rw[hs]; simp[dB,c2,c3]
     repeat (first|refine⟨h,?_⟩|rw[if_pos (by rfl)])
     rw[if_pos (by rw[bne_iff_ne]; exact c3)]
     repeat (first|refine⟨h,?_⟩|rw[if_pos (by rfl)])
     refine⟨aL eD _ x (by omega),one_row fa x,?_⟩
     exact bf (i+1) (show l.length-(i+1)<l.length-i by omega) h hs1 (by simp) [.dead,.tok] 2 rfl rfl (by simp) (by(try dsimp only); rw[hs2,ax h (by omega)]; simp only[List.map_append]; rfl)
   ·rw[if_neg (by simpa using c1)]
    repeat (first|refine⟨h,?_⟩|rw[if_pos (by rfl)])
    have c1':s.2=true:=by simpa using c1
    by_cases c3:(Mt.id) x=(Mt.id) (cc)
    ·have hs1:(cP (Mt.id) (cc) b (l.take (i+1))).1=s.1:=by rw[hs]; simp[dB,c1',c3]
     have hs2:(cP (Mt.id) (cc) b (l.take (i+1))).2=s.2:=by rw[hs]; simp[dB,c1',c3]
     rw[if_neg (by rw[bne_iff_ne]; exact fun k=>k c3)]
     exact bf (i+1) (show l.length-(i+1)<l.length-i by omega) h hs1 ha [.tok] 1 rfl rfl (by simp) (by(try dsimp only); rw[hs2,ax h (by omega)])
    ·have hs1:(cP (Mt.id) (cc) b (l.take (i+1))).1=s.1++[x]:=by rw[hs]; simp[dB,c1',c3]
     have hs2:(cP (Mt.id) (cc) b (l.take (i+1))).2=s.2:=by rw[hs]; simp[dB,c1',c3]
     rw[if_pos (by rw[bne_iff_ne]; exact c3)]
     repeat (first|refine⟨h,?_⟩|rw[if_pos (by rfl)])
     refine⟨aL eD _ x (by omega),one_row fa x,?_⟩
     exact bf (i+1) (show l.length-(i+1)<l.length-i by omega) h hs1 (by simp) [.dead,.tok] 2 rfl rfl (by simp) (by(try dsimp only); rw[hs2,ax h (by omega)]; simp only[List.map_append]; rfl)
  ·rw[if_neg (by omega)]
   have:i=l.length:=by omega
   subst this
   rw[List.take_length] at hsd
   rw[← hsd] at hQ1 hQ2
   exact n9 (hQ2 ha)
theorem xo (l:List Mt) (c:Mt):∀(K:PV→Prop),(∃(l_1:List Mt) (cc:Mt) (b:Bool),by refine(?_:_→_→Prop) (cP Mt.id cc b l_1) [PV.int .u32 cc.id,.int .i64 cc.md,.int .u32 cc.ins,.list (cc.rows.map rrc) .no,.list (cc.aa.map stc) .no]; exact fun e f=>by refine(?_:_→_→_→Prop) [f] f (List.map mtc (Prod.fst e)); exact fun a d g=>l_1.length≤1000000∧True∧ak [.list (l.map mtc) .no,.ptr 0 0,.list [] .exact,.bool false,.int .i64 0] [.list (l_1.map mtc) .no,.ptr 0 0,.list [] .exact,.bool b,.int .i64 0]∧az [.cells [.int .u32 c.id,.int .i64 c.md,.int .u32 c.ins,.list (c.rows.map rrc) .no,.list (c.aa.map stc) .no]] [.cells d]∧(Prod.fst e=[]→br (!Prod.snd e) (aX [] a 5 72∧(List.all d PV.one=true∧a≠[])∧K (.list a (.tok 1))) (K (.list [] .exact)))∧(Prod.fst e≠[]→br (!Prod.snd e) (aX g a 5 72∧(List.all d PV.one=true∧a≠[])∧K (.list (List.map mtc (Prod.fst e)++a) (.tok 2))) (K (.list g (.tok 1)))))→aj Tryd.prog gl 36 [.list (l.map mtc) .no,.agg (mtc c)] [] (fun x _=>K x):=fun K h=>ah (T:=[]) (L:=[([1,1,1,0,1,0],vp)]) (fun o=>match o.dst with|some 29=>1|some 44=>1|some 50=>1|_=>0) Tryd.func36 (by kernel_rfl) (by kernel_rfl) (by kernel_rfl) (aB.nil _ _) (.cons (aH (by kernel_rfl)) uO (.nil _ _ _ _ _)) (ag (by kernel_rfl) h)
end Go.Proofs.YtenaelaapdhbdaaDoor
