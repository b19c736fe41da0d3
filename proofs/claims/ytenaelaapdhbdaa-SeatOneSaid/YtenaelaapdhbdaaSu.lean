/-
  The document's table: Match.
-/
import Derived.Test.YtenaelaapdhbdaaSt
import Derived.Test.YtenaelaapdhbdaaProg
namespace Go.Proofs.Ytenaelaapdhbdaa
open Go Go.AM Go.Proofs
theorem mtc_pv (c:Mt):c.pv = .agg (mtc c):=rfl
theorem getM_find (w:List Mt) (t:Int):(w.findIdx (idT t)<w.length→hasG Mt.id w t=true∧gM w t=w.getD (w.findIdx (idT t)) default)∧(w.findIdx (idT t)=w.length→hasG Mt.id w t=false∧gM w t=mt0):=by
 constructor
 ·intro h
  refine⟨?_,?_⟩
  ·rw[List.findIdx_lt_length] at h
   obtain⟨x,hx,e⟩:=h
   exact hasG_iff.2 ⟨x,hx,eq_of_beq e⟩
  ·unfold gM getG
   rw[List.find?_eq_getElem?_findIdx]
   show(w[w.findIdx (idT t)]?).getD default=_
   rw[List.getD_eq_getElem?_getD]
 ·intro h
  have h0:hasG Mt.id w t=false:=by
   refine eq_false_of_ne_true fun k=>?_
   obtain⟨x,hx,e⟩:=hasG_iff.1 k
   have:w.findIdx (idT t)<w.length:=List.findIdx_lt_length.2 ⟨x,hx,by unfold idT; simpa using e⟩
   omega
  exact⟨h0,getG_none h0⟩
theorem wk_mt0 {b:Bool}:Wk (.tup [.agg [.int .u32 0,.int .i64 0,.int .u32 0,.list [] .exact,.list [] .exact],.bool b]) (.tup [mt0.pv,.bool b]):= .tup (.cons (wk_mt (c:=mt0) (t1:= .exact) (t2:= .exact)) (.cons (.refl _) .nil))
def rget_s (args:List PV) (K:PV→Prop):Prop:=∃(w:List Mt) (tl:Tail) (t:Int),SlIs args [.list (w.map mtc) tl,.int .u32 t]∧w.length≤1000000∧K (.tup [(gM w t).pv,.bool (hasG Mt.id w t)])
theorem rget_ok:SpOk Try.prog gl 20 (.pure rget_s):=by
 rintro args K ⟨w,tl,t,he,hl,hk⟩
 have he:args=_:=he
 subst he
 obtain⟨h1,h2⟩:=getM_find w t
 refine spure_w gl_low (.cons (.list _ _) (.cons (.refl _) .nil)) (low_two (low_mts w) (.int _ _)) (low_mtb _ _) (acalls_weak (rget1_vc w t (fun x=>∃ y,Wk x y∧y = .tup [(gM w t).pv,.bool (hasG Mt.id w t)]) ⟨w,t,hl,trivial,rfl,rfl,fun h=>⟨_,.refl _,?_⟩,fun h=>⟨_,wk_mt0,?_⟩⟩)) hk
 ·rw[(h1 h).1,(h1 h).2]; rfl
 ·rw[(h2 h).1,(h2 h).2]
def rfind_s (args:List PV) (K:PV→Prop):Prop:=∃(c:Mt) (t1 t2:Tail) (t:Int),SlIs args [.agg [.int .u32 c.id,.int .i64 c.md,.int .u32 c.ins,.list (c.rows.map rrc) t1,.list (c.seats.map stc) t2],.int .u32 t]∧c.seats.length≤1000000∧K (.tup [.agg (stc (findM c t)),.bool (inM c t)])
theorem in_find {c:Mt} {p:Int}:(c.seats.findIdx (isP p)<c.seats.length→inM c p=true)∧(c.seats.findIdx (isP p)=c.seats.length→inM c p=false):=by
 constructor
 ·intro h; exact List.any_eq_true.2 ⟨_,List.getElem_mem h,List.findIdx_getElem (w:=h)⟩
 ·intro h
  unfold inM
  rw[List.any_eq_false]
  intro x hx e
  have:=List.findIdx_lt_length_of_exists (p:=isP p) ⟨x,hx,e⟩
  omega
theorem rfind_ok:SpOk Try.prog gl 21 (.pure rfind_s):=by
 rintro args K ⟨c,t1,t2,t,he,hl,hk⟩
 have he:args=_:=he
 subst he
 refine spure_w gl_low (.cons wk_mt (.cons (.refl _) .nil)) (low_two c.low (.int _ _)) (low_seb _ _) (rfind1_vc c t (fun x=>x = .tup [.agg (stc (findM c t)),.bool (inM c t)]) ⟨c.seats,c.id,c.md,c.ins,t,c.rows,hl,trivial,rfl,rfl,fun h=>?_,fun h=>?_⟩) hk
 ·have k:=in_find.1 h
  unfold findM; rw[if_pos k,k]; rfl
 ·have k:=in_find.2 h
  unfold findM; rw[k]; rfl
def rend_s (args:List PV) (K:PV→Prop):Prop:=∃(w:List Mt) (tl:Tail) (t:Int),SlIs args [.list (w.map mtc) tl,.int .u32 t]∧w.length≤1000000∧K (.list ((dropG Mt.id w t).map mtc) .no)
theorem rend_ok:SpOk Try.prog gl 35 (.pure rend_s):=by
 rintro args K ⟨w,tl,t,he,hl,hk⟩
 have he:args=_:=he
 subst he
 exact spure_w gl_low (.cons (.list _ _) (.cons (.refl _) .nil)) (low_two (low_mts w) (.int _ _)) (low_mts _) (rend1_vc w t (fun x=>x = .list ((dropG Mt.id w t).map mtc) .no) ⟨w,t,hl,trivial,rfl,rfl,rfl⟩) hk
def numS (l:List Se) (t:Int):Int:=if l.findIdx (nuT t)<l.length then(l.findIdx (nuT t):Int) else -1
def rnum_s (args:List PV) (K:PV→Prop):Prop:=∃(l:List Se) (tl:Tail) (t:Int),SlIs args [.list (l.map stc) tl,.int .i64 t]∧l.length≤1000000∧K (.int .i64 (numS l t))
theorem rnum_ok:SpOk Try.prog gl 66 (.pure rnum_s):=by
 rintro args K ⟨l,tl,t,he,hl,hk⟩
 have he:args=_:=he
 subst he
 refine spure_w gl_low (.cons (.list _ _) (.cons (.refl _) .nil)) (low_two (low_sts l) (.int _ _)) (.int _ _) (rnum1_vc l t (fun x=>x = .int .i64 (numS l t)) ⟨l,t,hl,trivial,rfl,rfl,fun h=>?_,fun h=>?_⟩) hk
 ·unfold numS; rw[if_pos h]
 ·unfold numS; rw[if_neg (by omega)]
def qwo_s (args:List PV) (K:PV→Prop):Prop:=∃(l:List Int) (tl:Tail) (t:Int),SlIs args [.list (l.map u1) tl,.int .u32 t]∧l.length≤1000000∧K (.list ((dropP l t).map u1) .no)
theorem qwo_ok:SpOk Try.prog gl 55 (.pure qwo_s):=by
 rintro args K ⟨l,tl,t,he,h,hk⟩
 have he:args=_:=he
 subst he
 have e:l.filter (neT t)=dropP l t:=rfl
 exact spure_w gl_low (.cons (.list _ _) (.cons (.refl _) .nil)) (low_two (low_us l) (.int _ _)) (low_us _) (qwo1_vc l t (fun x=>x = .list ((dropP l t).map u1) .no) ⟨l,t,h,trivial,rfl,rfl,by rw[e]⟩) hk
def TRF:Tab:=[(21,.pure rfind_s),(66,.pure rnum_s)]
theorem TRF_ok:TabOk Try.prog gl TRF:= .cons rfind_ok (.cons rnum_ok (.nil _ _))
theorem rof_vc (l:List (Mt)) (t:Int) (i:Nat):(by refine(?_:_→_→_→Prop) (List.getD (l.map mtc) (Int.toNat (i:Int)) []) [PV.list (l.map mtc) .no,.int .u32 t,.int .u32 0,.int .i64 i] (PV.list (l.map mtc) .no); exact fun b d f=>∀(R:Ex→List PV→Heap→Prop),(br (decide ((i:Int)<(↑(List.length (l.map mtc)):Int))) (InL (l.map mtc) 5 (i:Int)∧br (true && fitX [.int .u32,.int .i64,.int .u32,.list,.list] 0 b) (∃(c:Mt) (t1:Tail) (t2:Tail) (t_1:Int),by refine(?_:_→Prop) [Ob.cells [.int .u32 (Se.pl (findM c t_1)),.int .i64 (Se.tm (findM c t_1)),.int .i64 (Se.nu (findM c t_1)),.int .i64 (Se.st (findM c t_1)),.int .i64 (Se.un (findM c t_1)),.int .u64 (Se.no (findM c t_1))]]; exact fun a=>SlIs [.agg [.int .u32 (cI b 0),.int .i64 (cI b 1),.int .u32 (cI b 2),.list (cL b 3) (cT b 3),.list (cL b 4) (cT b 4)],.int .u32 t] [.agg [.int .u32 c.id,.int .i64 c.md,.int .u32 c.ins,.list (c.rows.map rrc) t1,.list (c.seats.map stc) t2],.int .u32 t_1]∧c.seats.length≤1000000∧br (inM c t_1) (InL (l.map mtc) 5 (i:Int)∧br (true && fitX [.int .u32] 0 (List.drop 0 b)) (R .ret [f,.int .u32 t,.int .u32 (cI (List.drop 0 b) 0),.int .i64 i] a) False) (R .normal [f,.int .u32 t,.int .u32 0,.int .i64 (wI ((i:Int)+1))] a)) False) (R (.exit 0) d []))→Holds (wpc br Try.prog gl TRF [] (fun _=>0) (subOf [1,0,1,0] (bodyOf Try.f13)) [] (envS [0,1,4,5] d) [] (fun ex e H=>R ex (List.map e [0,1,4,5]) H)):Prop):=fun R h=>holds_of_eq (by kernel_rfl) h
def rof_l:LSp:=fun e H Q=>∃(l:List (Mt)) (t:Int),l.length≤1000000∧(∀ c∈l,c.seats.length≤1000000)∧SlIs (List.map e [0,1,4,5]) [.list (l.map mtc) .no,.int .u32 t,.int .u32 0,.int .i64 0]∧HpIs H []∧
 (l.findIdx (fun c=>inM c t)<l.length→Q .ret (envS [0,1,4,5] [.list (l.map mtc) .no,.int .u32 t,.int .u32 ((l.getD (l.findIdx (fun c=>inM c t)) default)).id,.int .i64 (l.findIdx (fun c=>inM c t))]) [.cells (stc (findM ((l.getD (l.findIdx (fun c=>inM c t)) default)) t))])∧(l.findIdx (fun c=>inM c t)=l.length→Q (.exit 0) (envS [0,1,4,5] [.list (l.map mtc) .no,.int .u32 t,.int .u32 0,.int .i64 l.length]) [])
theorem rof_l_ok:∀ e H Q,rof_l e H Q→AW Try.prog gl Try.f13.ntmps (.loop (subOf [1,0,1,0] (bodyOf Try.f13))) Q e H:=by
 rintro e H Q ⟨l,t,hl,hm,he,hH,hQ1,hQ2⟩
 have hfl:l.findIdx (fun c=>inM c t)≤l.length:=List.findIdx_le_length
 refine aw_loop4 (hn:=fun _=>0) gl_low (TRF_ok) (.nil _ _ _ _ _) (σ:=Nat) [0,1,4,5] (fun i=>i≤l.findIdx (fun c=>inM c t)) (fun i=>[.list (l.map mtc) .no,.int .u32 t,.int .u32 0,.int .i64 i]) (fun _=>[]) (fun i=>l.length-i) 0 (Nat.zero_le _) he hH ?_
 intro i hi
 have hi':i≤l.findIdx (fun c=>inM c t):=hi
 refine rof_vc l t i _ ?_
 simp only[br_if,dt,toNat_nat,List.length_map,inL_mtc]
 by_cases h:i<l.length
 ·rw[if_pos (by omega)]
  simp only[getD_map default h]
  repeat (first|refine⟨h,?_⟩|rw[if_pos (by rfl)])
  refine⟨l.getD i default,.no,.no,t,rfl,hm _ (getD_mem h),?_⟩
  by_cases c:(fun c=>inM c t) (l.getD i default)=true
  ·have hge:l.findIdx (fun c=>inM c t)=i:=fidx_stop default hi' h c
   rw[hge] at hQ1
   rw[if_pos (by exact c)]
   repeat (first|refine⟨h,?_⟩|rw[if_pos (by rfl)])
   exact hQ1 h
  ·have hlt:i<l.findIdx (fun c=>inM c t):=fidx_step default hi' h (by simpa using c)
   rw[if_neg (by exact c)]
   exact⟨i+1,(show l.length-(i+1)<l.length-i by omega),hlt,by rw[wI_succ h (by omega)],[_],rfl,Nat.le_refl _,.inr ⟨by
    intro hv hw
    simp only[List.mem_cons,List.not_mem_nil,or_false] at hw
    rcases hw with rfl|rfl|rfl|rfl
    ·exact low_mts l
    ·exact .int _ _
    ·exact .int _ _
    ·exact .int _ _,lowH_of (by simp)⟩⟩
 ·rw[if_neg (by omega)]
  have:i=l.length:=by omega
  subst this
  exact hQ2 (by omega)
theorem rof1_vc (l:List Mt) (t:Int):∀(K:PV→Prop),(∃(l_1:List Mt) (t_1:Int),by refine(?_:_→Prop) (fun(c:Mt)=>inM c t_1); exact fun a=>l_1.length≤1000000∧(∀(c:Mt),c∈l_1→c.seats.length≤1000000)∧SlIs [.list (l.map mtc) .no,.int .u32 t,.int .u32 0,.int .i64 0] [.list (l_1.map mtc) .no,.int .u32 t_1,.int .u32 0,.int .i64 0]∧HpIs [] []∧(List.findIdx a l_1<l_1.length→K (.int .u32 (Mt.id (List.getD l_1 (List.findIdx a l_1) default))))∧(List.findIdx a l_1=l_1.length→K (.int .u32 0)))→ACalls Try.prog gl 13 [.list (l.map mtc) .no,.int .u32 t] [] (fun x _=>K x):=fun K h=>acalls_of_wpc2 (T:=TRF) (L:=[([1,0,1,0],rof_l)]) (fun _=>0) Try.func13 (by kernel_rfl) (by kernel_rfl) (by kernel_rfl) (TRF_ok) (.cons (sub_of (by kernel_rfl)) rof_l_ok (.nil _ _ _ _ _)) (holds_of_eq (by kernel_rfl) h)
theorem rwithA_vc (l:List (Mt)) (cc:Mt) (b:Bool) (i:Nat):(by refine(?_:_→_→_→_→Prop) (List.getD (l.map mtc) (Int.toNat (i:Int)) []) [PV.int .u32 cc.id,.int .i64 cc.md,.int .u32 cc.ins,.list (cc.rows.map rrc) .no,.list (cc.seats.map stc) .no] (PV.list (l.map mtc) .no) (PV.int .i64 (wI ((i:Int)+1))); exact fun c f k m=>by refine(?_:_→_→_→_→_→Prop) f [PV.int .u32 (cI c 0),.int .i64 (cI c 1),.int .u32 (cI c 2),.list (cL c 3) (cT c 3),.list (cL c 4) (cT c 4)] (true && fitX [.int .u32] 0 (List.drop 0 c)) (true && fitX [.int .u32,.int .i64,.int .u32,.list,.list] 0 c) [k,.ptr 0 0,.list [] .exact,.bool b,.int .i64 i]; exact fun d j n p q=>by refine(?_:_→_→Prop) [j] j; exact fun g h=>∀(R:Ex→List PV→Heap→Prop),by refine(?_:_→Prop) (InL (l.map mtc) 5 (i:Int)∧br n (br (cI (List.drop 0 c) 0 != cc.id) (InL (l.map mtc) 5 (i:Int)∧br p (AppL [] g 5 72∧(List.all h PV.one=true∧g≠[])∧R .normal [k,.ptr 0 0,.list g (.tok 1),.bool b,m] [.cells d,.tok]) False) (R .normal [k,.ptr 0 0,.list [] .exact,.bool b,m] [.cells d])) False); exact fun a=>(br (decide ((i:Int)<(↑(List.length (l.map mtc)):Int))) (br ((!b) == true) (InL (l.map mtc) 5 (i:Int)∧br n (br (decide (cI (List.drop 0 c) 0≥Mt.id cc)) (AppL [] [f] 5 72∧(List.all d PV.one=true∧[f]≠[])∧InL (l.map mtc) 5 (i:Int)∧br n (br (cI (List.drop 0 c) 0 != cc.id) (InL (l.map mtc) 5 (i:Int)∧br p (AppL [f] g 5 72∧(List.all h PV.one=true∧g≠[])∧R .normal [k,.ptr 0 0,.list [f,h] (.tok 2),.bool true,m] [.cells d,.dead,.tok]) False) (R .normal [k,.ptr 0 0,.list [f] (.tok 1),.bool true,m] [.cells d,.tok])) False) a) False) a) (R (.exit 0) q [.cells d]))→Holds (wpc br Try.prog gl [] [] (fun o=>match o.dst with|some 29=>1|some 44=>1|some 50=>1|_=>0) (subOf [1,1,1,0,1,0] (bodyOf Try.f46)) [] (envS [0,3,5,6,7] q) [.cells (mtc cc)] (fun ex e H=>R ex (List.map e [0,3,5,6,7]) H)):Prop):=fun R h=>holds_of_eq (by kernel_rfl) h
theorem rwithB_vc (l:List (Mt)) (cc:Mt) (b:Bool) (es:List (List PV)) (i:Nat):(by refine(?_:_→_→_→_→Prop) (List.getD (l.map mtc) (Int.toNat (i:Int)) []) [PV.int .u32 cc.id,.int .i64 cc.md,.int .u32 cc.ins,.list (cc.rows.map rrc) .no,.list (cc.seats.map stc) .no] (PV.list (l.map mtc) .no) (PV.int .i64 (wI ((i:Int)+1))); exact fun c g k m=>by refine(?_:_→_→_→_→_→Prop) g [PV.int .u32 (cI c 0),.int .i64 (cI c 1),.int .u32 (cI c 2),.list (cL c 3) (cT c 3),.list (cL c 4) (cT c 4)] (true && fitX [.int .u32] 0 (List.drop 0 c)) (true && fitX [.int .u32,.int .i64,.int .u32,.list,.list] 0 c) [k,.ptr 0 0,.list es (.tok 1),.bool b,.int .i64 i]; exact fun f j n p q=>by refine(?_:_→_→_→Prop) [j] j [Ob.cells f,.dead,.tok]; exact fun d h r=>∀(R:Ex→List PV→Heap→Prop),by refine(?_:_→Prop) (InL (l.map mtc) 5 (i:Int)∧br n (br (cI (List.drop 0 c) 0 != cc.id) (InL (l.map mtc) 5 (i:Int)∧br p (AppL es d 5 72∧(List.all h PV.one=true∧d≠[])∧R .normal [k,.ptr 0 0,.list (es++d) (.tok 2),.bool b,m] r) False) (R .normal [k,.ptr 0 0,.list es (.tok 1),.bool b,m] [.cells f,.tok])) False); exact fun a=>(br (decide ((i:Int)<(↑(List.length (l.map mtc)):Int))) (br ((!b) == true) (InL (l.map mtc) 5 (i:Int)∧br n (br (decide (cI (List.drop 0 c) 0≥Mt.id cc)) (AppL es [g] 5 72∧(List.all f PV.one=true∧[g]≠[])∧InL (l.map mtc) 5 (i:Int)∧br n (br (cI (List.drop 0 c) 0 != cc.id) (InL (l.map mtc) 5 (i:Int)∧br p (AppL (es++[g]) d 5 72∧(List.all h PV.one=true∧d≠[])∧R .normal [k,.ptr 0 0,.list (es++[g]++d) (.tok 3),.bool true,m] [.cells f,.dead,.dead,.tok]) False) (R .normal [k,.ptr 0 0,.list (es++[g]) (.tok 2),.bool true,m] r)) False) a) False) a) (R (.exit 0) q [.cells f,.tok]))→Holds (wpc br Try.prog gl [] [] (fun o=>match o.dst with|some 29=>1|some 44=>1|some 50=>1|_=>0) (subOf [1,1,1,0,1,0] (bodyOf Try.f46)) [] (envS [0,3,5,6,7] q) [.cells (mtc cc),.tok] (fun ex e H=>R ex (List.map e [0,3,5,6,7]) H)):Prop):=fun R h=>holds_of_eq (by kernel_rfl) h
def rwith_l:LSp:=fun e H Q=>∃(l:List (Mt)) (cc:Mt) (b:Bool),l.length≤1000000∧(True)∧SlIs (List.map e [0,3,5,6,7]) [.list (l.map mtc) .no,.ptr 0 0,.list [] .exact,.bool b,.int .i64 0]∧HpIs H [.cells (mtc cc)]∧
 ((putA (Mt.id) (cc) b l).1=[]→Q (.exit 0) (envS [0,3,5,6,7] [.list (l.map mtc) .no,.ptr 0 0,.list [] .exact,.bool (putA (Mt.id) (cc) b l).2,.int .i64 l.length]) [.cells (mtc cc)])∧((putA (Mt.id) (cc) b l).1≠[]→Q (.exit 0) (envS [0,3,5,6,7] [.list (l.map mtc) .no,.ptr 0 0,.list ((putA (Mt.id) (cc) b l).1.map mtc) (.tok 1),.bool (putA (Mt.id) (cc) b l).2,.int .i64 l.length]) [.cells (mtc cc),.tok])
theorem rwith_l_ok:∀ e H Q,rwith_l e H Q→AW Try.prog gl Try.f46.ntmps (.loop (subOf [1,1,1,0,1,0] (bodyOf Try.f46))) Q e H:=by
 rintro e H Q ⟨l,cc,b,hl,_,he,hH,hQ1,hQ2⟩
 have hH2:H=[.cells (mtc cc)]:=hH
 refine aw_growif (f:=mtc) (acc:=fun i=>(putA (Mt.id) (cc) b (l.take i)).1) (I:=fun i=>i≤l.length) (m:=fun i=>l.length-i) (hn:=fun o=>match o.dst with|some 29=>1|some 44=>1|some 50=>1|_=>0) gl_low (.nil _ _) (.nil _ _ _ _ _) [0,3,5,6,7] (fun r i=>[.list (l.map mtc) .no,.ptr 0 0,r,.bool (putA (Mt.id) (cc) b (l.take i)).2,.int .i64 i]) [.cells (mtc cc)] (0:Nat)
  (lowH_of (by intro ob ho; rcases List.mem_singleton.1 ho with rfl; exact low_mtc cc)) (fun _ _ a _=>low_mtc a) (fun es i k _ h=> .same (low_mts l) (.same (.ptr _ _ (by simp)) (.row h (.same (.bool _) (.same (.int _ _) (.nil)))))) (fun i _ w hw=>by
   simp only[List.mem_cons,List.not_mem_nil,or_false] at hw
   rcases hw with rfl|rfl|rfl|rfl|rfl
   ·exact low_mts l
   ·exact .ptr _ _ (by simp)
   ·exact low_list NT.exact (by simp)
   ·exact .bool _
   ·exact .int _ _) (Nat.zero_le _) (by simp[putA]) he hH2 ?_ ?_
 ·intro i hi ha
  have hi':i≤l.length:=hi
  obtain⟨s,hsd⟩:∃ s,s=putA (Mt.id) (cc) b (l.take i):=⟨_,rfl⟩
  have hlen:=putA_len (Mt.id) (cc) b (l.take i)
  rw[List.length_take] at hlen
  simp only[← hsd] at ha hlen ⊢
  refine rwithA_vc l cc s.2 i _ ?_
  simp only[br_if,dt,toNat_nat,List.length_map,inL_mtc]
  by_cases h:i<l.length
  ·rw[if_pos (by omega)]
   simp only[getD_map default h]
   have hs:=putA_succ (Mt.id) (cc) b default h
   rw[← hsd] at hs
   obtain⟨x,hx⟩:∃ x,x=l.getD i default:=⟨_,rfl⟩
   simp only[← hx] at hs ⊢
   by_cases c1:s.2=false
   ·rw[if_pos (by simp[c1])]
    repeat (first|refine⟨h,?_⟩|rw[if_pos (by rfl)])
    by_cases c2:(Mt.id) x≥(Mt.id) (cc)
    ·rw[if_pos (by exact c2)]
     refine⟨appL_map (l:=[]) (by_:=72) mtc_len (cc) (by show(0+1)*72≤_; decide),one_row one_mtc (cc),?_⟩
     repeat (first|refine⟨h,?_⟩|rw[if_pos (by rfl)])
     by_cases c3:(Mt.id) x=(Mt.id) (cc)
     ·have hs1:(putA (Mt.id) (cc) b (l.take (i+1))).1=[cc]:=by rw[hs]; simp[putF,c1,c3,ha]
      have hs2:(putA (Mt.id) (cc) b (l.take (i+1))).2=true:=by rw[hs]; simp[putF,c1,c3]
      rw[if_neg (by rw[bne_iff_ne]; exact fun k=>k c3)]
      exact growQ_add (i+1) (show l.length-(i+1)<l.length-i by omega) h hs1 (by simp) [.tok] 1 rfl rfl (by simp) (by(try dsimp only); rw[hs2,wI_succ h (by omega)]; rfl)
     ·have hs1:(putA (Mt.id) (cc) b (l.take (i+1))).1=[cc,x]:=by rw[hs]; simp[putF,c1,c2,c3,ha]
      have hs2:(putA (Mt.id) (cc) b (l.take (i+1))).2=true:=by rw[hs]; simp[putF,c1,c2,c3]
      rw[if_pos (by rw[bne_iff_ne]; exact c3)]
      repeat (first|refine⟨h,?_⟩|rw[if_pos (by rfl)])
      refine⟨appL_map (l:=[cc]) (by_:=72) mtc_len x (by show(1+1)*72≤_; decide),one_row one_mtc x,?_⟩
      exact growQ_add (i+1) (show l.length-(i+1)<l.length-i by omega) h hs1 (by simp) [.dead,.tok] 2 rfl rfl (by simp) (by(try dsimp only); rw[hs2,wI_succ h (by omega)]; rfl)
    ·rw[if_neg (by exact c2)]
     have c3:¬ (Mt.id) x=(Mt.id) (cc):=fun e=>c2 (Int.le_of_eq e.symm)
     have hs1:(putA (Mt.id) (cc) b (l.take (i+1))).1=[x]:=by rw[hs]; simp[putF,c2,c3,ha]
     have hs2:(putA (Mt.id) (cc) b (l.take (i+1))).2=s.2:=by rw[hs]; simp[putF,c2,c3]
     repeat (first|refine⟨h,?_⟩|rw[if_pos (by rfl)])
     rw[if_pos (by rw[bne_iff_ne]; exact c3)]
     repeat (first|refine⟨h,?_⟩|rw[if_pos (by rfl)])
     refine⟨appL_map (l:=[]) (by_:=72) mtc_len x (by show(0+1)*72≤_; decide),one_row one_mtc x,?_⟩
     exact growQ_add (i+1) (show l.length-(i+1)<l.length-i by omega) h hs1 (by simp) [.tok] 1 rfl rfl (by simp) (by(try dsimp only); rw[hs2,wI_succ h (by omega)]; rfl)
   ·rw[if_neg (by simpa using c1)]
    repeat (first|refine⟨h,?_⟩|rw[if_pos (by rfl)])
    have c1':s.2=true:=by simpa using c1
    by_cases c3:(Mt.id) x=(Mt.id) (cc)
    ·have hs1:(putA (Mt.id) (cc) b (l.take (i+1))).1=s.1:=by rw[hs]; simp[putF,c1',c3]
     have hs2:(putA (Mt.id) (cc) b (l.take (i+1))).2=s.2:=by rw[hs]; simp[putF,c1',c3]
     rw[if_neg (by rw[bne_iff_ne]; exact fun k=>k c3)]
     exact growQ_none (i+1) (show l.length-(i+1)<l.length-i by omega) h (hs1.trans ha) [] rfl (by(try dsimp only); rw[hs2,wI_succ h (by omega)])
    ·have hs1:(putA (Mt.id) (cc) b (l.take (i+1))).1=[x]:=by rw[hs]; simp[putF,c1',c3,ha]
     have hs2:(putA (Mt.id) (cc) b (l.take (i+1))).2=s.2:=by rw[hs]; simp[putF,c1',c3]
     rw[if_pos (by rw[bne_iff_ne]; exact c3)]
     repeat (first|refine⟨h,?_⟩|rw[if_pos (by rfl)])
     refine⟨appL_map (l:=[]) (by_:=72) mtc_len x (by show(0+1)*72≤_; decide),one_row one_mtc x,?_⟩
     exact growQ_add (i+1) (show l.length-(i+1)<l.length-i by omega) h hs1 (by simp) [.tok] 1 rfl rfl (by simp) (by(try dsimp only); rw[hs2,wI_succ h (by omega)]; rfl)
  ·rw[if_neg (by omega)]
   have:i=l.length:=by omega
   subst this
   rw[List.take_length] at hsd
   rw[← hsd] at hQ1 hQ2
   exact growQ_exit (hQ1 ha)
 ·intro i hi ha
  have hi':i≤l.length:=hi
  obtain⟨s,hsd⟩:∃ s,s=putA (Mt.id) (cc) b (l.take i):=⟨_,rfl⟩
  have hlen:=putA_len (Mt.id) (cc) b (l.take i)
  rw[List.length_take] at hlen
  simp only[← hsd] at ha hlen ⊢
  refine rwithB_vc l cc s.2 (s.1.map mtc) i _ ?_
  simp only[br_if,dt,toNat_nat,List.length_map,inL_mtc]
  by_cases h:i<l.length
  ·rw[if_pos (by omega)]
   simp only[getD_map default h]
   have hs:=putA_succ (Mt.id) (cc) b default h
   rw[← hsd] at hs
   obtain⟨x,hx⟩:∃ x,x=l.getD i default:=⟨_,rfl⟩
   simp only[← hx] at hs ⊢
   by_cases c1:s.2=false
   ·rw[if_pos (by simp[c1])]
    repeat (first|refine⟨h,?_⟩|rw[if_pos (by rfl)])
    by_cases c2:(Mt.id) x≥(Mt.id) (cc)
    ·rw[if_pos (by exact c2)]
     refine⟨appL_map mtc_len _ (cc) (by omega),one_row one_mtc (cc),?_⟩
     repeat (first|refine⟨h,?_⟩|rw[if_pos (by rfl)])
     by_cases c3:(Mt.id) x=(Mt.id) (cc)
     ·have hs1:(putA (Mt.id) (cc) b (l.take (i+1))).1=s.1++[cc]:=by rw[hs]; simp[putF,c1,c3]
      have hs2:(putA (Mt.id) (cc) b (l.take (i+1))).2=true:=by rw[hs]; simp[putF,c1,c3]
      rw[if_neg (by rw[bne_iff_ne]; exact fun k=>k c3)]
      exact growQ_add (i+1) (show l.length-(i+1)<l.length-i by omega) h hs1 (by simp) [.dead,.tok] 2 rfl rfl (by simp) (by(try dsimp only); rw[hs2,wI_succ h (by omega)]; simp only[List.map_append]; rfl)
     ·have hs1:(putA (Mt.id) (cc) b (l.take (i+1))).1=s.1++[cc]++[x]:=by rw[hs]; simp[putF,c1,c2,c3]
      have hs2:(putA (Mt.id) (cc) b (l.take (i+1))).2=true:=by rw[hs]; simp[putF,c1,c2,c3]
      rw[if_pos (by rw[bne_iff_ne]; exact c3)]
      repeat (first|refine⟨h,?_⟩|rw[if_pos (by rfl)])
      refine⟨(by have:=appL_map (l:=s.1++[cc]) (by_:=72) mtc_len x (by simp; omega); rwa [List.map_append] at this),one_row one_mtc x,?_⟩
      exact growQ_add (i+1) (show l.length-(i+1)<l.length-i by omega) h hs1 (by simp) [.dead,.dead,.tok] 3 rfl rfl (by simp) (by(try dsimp only); rw[hs2,wI_succ h (by omega)]; simp only[List.map_append]; rfl)
    ·rw[if_neg (by exact c2)]
     have c3:¬ (Mt.id) x=(Mt.id) (cc):=fun e=>c2 (Int.le_of_eq e.symm)
     have hs1:(putA (Mt.id) (cc) b (l.take (i+1))).1=s.1++[x]:=by rw[hs]; simp[putF,c2,c3]
     have hs2:(putA (Mt.id) (cc) b (l.take (i+1))).2=s.2:=by rw[hs]; simp[putF,c2,c3]
     repeat (first|refine⟨h,?_⟩|rw[if_pos (by rfl)])
     rw[if_pos (by rw[bne_iff_ne]; exact c3)]
     repeat (first|refine⟨h,?_⟩|rw[if_pos (by rfl)])
     refine⟨appL_map mtc_len _ x (by omega),one_row one_mtc x,?_⟩
     exact growQ_add (i+1) (show l.length-(i+1)<l.length-i by omega) h hs1 (by simp) [.dead,.tok] 2 rfl rfl (by simp) (by(try dsimp only); rw[hs2,wI_succ h (by omega)]; simp only[List.map_append]; rfl)
   ·rw[if_neg (by simpa using c1)]
    repeat (first|refine⟨h,?_⟩|rw[if_pos (by rfl)])
    have c1':s.2=true:=by simpa using c1
    by_cases c3:(Mt.id) x=(Mt.id) (cc)
    ·have hs1:(putA (Mt.id) (cc) b (l.take (i+1))).1=s.1:=by rw[hs]; simp[putF,c1',c3]
     have hs2:(putA (Mt.id) (cc) b (l.take (i+1))).2=s.2:=by rw[hs]; simp[putF,c1',c3]
     rw[if_neg (by rw[bne_iff_ne]; exact fun k=>k c3)]
     exact growQ_add (i+1) (show l.length-(i+1)<l.length-i by omega) h hs1 ha [.tok] 1 rfl rfl (by simp) (by(try dsimp only); rw[hs2,wI_succ h (by omega)])
    ·have hs1:(putA (Mt.id) (cc) b (l.take (i+1))).1=s.1++[x]:=by rw[hs]; simp[putF,c1',c3]
     have hs2:(putA (Mt.id) (cc) b (l.take (i+1))).2=s.2:=by rw[hs]; simp[putF,c1',c3]
     rw[if_pos (by rw[bne_iff_ne]; exact c3)]
     repeat (first|refine⟨h,?_⟩|rw[if_pos (by rfl)])
     refine⟨appL_map mtc_len _ x (by omega),one_row one_mtc x,?_⟩
     exact growQ_add (i+1) (show l.length-(i+1)<l.length-i by omega) h hs1 (by simp) [.dead,.tok] 2 rfl rfl (by simp) (by(try dsimp only); rw[hs2,wI_succ h (by omega)]; simp only[List.map_append]; rfl)
  ·rw[if_neg (by omega)]
   have:i=l.length:=by omega
   subst this
   rw[List.take_length] at hsd
   rw[← hsd] at hQ1 hQ2
   exact growQ_exit (hQ2 ha)
theorem rwith1_vc (l:List Mt) (c:Mt):∀(K:PV→Prop),(∃(l_1:List Mt) (cc:Mt) (b:Bool),by refine(?_:_→_→Prop) (putA Mt.id cc b l_1) [PV.int .u32 cc.id,.int .i64 cc.md,.int .u32 cc.ins,.list (cc.rows.map rrc) .no,.list (cc.seats.map stc) .no]; exact fun e f=>by refine(?_:_→_→_→Prop) [f] f (List.map mtc (Prod.fst e)); exact fun a d g=>l_1.length≤1000000∧True∧SlIs [.list (l.map mtc) .no,.ptr 0 0,.list [] .exact,.bool false,.int .i64 0] [.list (l_1.map mtc) .no,.ptr 0 0,.list [] .exact,.bool b,.int .i64 0]∧HpIs [.cells [.int .u32 c.id,.int .i64 c.md,.int .u32 c.ins,.list (c.rows.map rrc) .no,.list (c.seats.map stc) .no]] [.cells d]∧(Prod.fst e=[]→br (!Prod.snd e) (AppL [] a 5 72∧(List.all d PV.one=true∧a≠[])∧K (.list a (.tok 1))) (K (.list [] .exact)))∧(Prod.fst e≠[]→br (!Prod.snd e) (AppL g a 5 72∧(List.all d PV.one=true∧a≠[])∧K (.list (List.map mtc (Prod.fst e)++a) (.tok 2))) (K (.list g (.tok 1)))))→ACalls Try.prog gl 46 [.list (l.map mtc) .no,.agg (mtc c)] [] (fun x _=>K x):=fun K h=>acalls_of_wpc2 (T:=[]) (L:=[([1,1,1,0,1,0],rwith_l)]) (fun o=>match o.dst with|some 29=>1|some 44=>1|some 50=>1|_=>0) Try.func46 (by kernel_rfl) (by kernel_rfl) (by kernel_rfl) (TabOk.nil _ _) (.cons (sub_of (by kernel_rfl)) rwith_l_ok (.nil _ _ _ _ _)) (holds_of_eq (by kernel_rfl) h)
end Go.Proofs.Ytenaelaapdhbdaa
