/-
  SeatOne's law.
-/
import Derived.Test.YtenaelaapdhbdaaSaj
import Derived.Test.YtenaelaapdhbdaaProg
namespace Go.Proofs.Ytenaelaapdhbdaa
open Go Go.AM Go.Proofs
theorem onR_at:atOf [1,0,0,1] (subOf [1,1,1,1,0,1,0,0,1,0,0,1,1,1,1,0] (bodyOf Try.f4))=atOf [1,1,1,1,0,1,0,0,1,0,0,1,1,1,1,0,0,1,0,0,1] (bodyOf Try.f4):=by kernel_rfl
theorem onRA_l_ok2:∀ e H Q,onRA_l e H Q→AW Try.prog gl Try.f4.ntmps (atOf [1,0,0,1] (subOf [1,1,1,1,0,1,0,0,1,0,0,1,1,1,1,0] (bodyOf Try.f4))) Q e H:=by rw[onR_at]; exact onRA_l_ok
theorem onRB_l_ok2:∀ e H Q,onRB_l e H Q→AW Try.prog gl Try.f4.ntmps (atOf [1,0,0,1] (subOf [1,1,1,1,0,1,0,0,1,0,0,1,1,1,1,0] (bodyOf Try.f4))) Q e H:=by rw[onR_at]; exact onRB_l_ok
theorem lk2A:LOk Try.prog gl Try.f4.ntmps (subOf [1,1,1,1,0,1,0,0,1,0,0,1,1,1,1,0] (bodyOf Try.f4)) [] [([1,0,0,1],onRA_l)]:= .cons (at_of (by kernel_rfl)) onRA_l_ok2 (.nil _ _ _ _ _)
theorem lk2B:LOk Try.prog gl Try.f4.ntmps (subOf [1,1,1,1,0,1,0,0,1,0,0,1,1,1,1,0] (bodyOf Try.f4)) [] [([1,0,0,1],onRB_l)]:= .cons (at_of (by kernel_rfl)) onRB_l_ok2 (.nil _ _ _ _ _)
theorem on2A_vc (l:List Ac) (w:List Mt) (m:Int) (i k:Nat):(by refine(?_:_→_→_→Prop) (List.map u1 (w.map Mt.id)) [Ob.abs (rkM (rowsM w) m),.cells [.ptr 0 0]] (PV.list (l.map acC) .no); exact fun j n o=>by refine(?_:_→Prop) (List.getD j (Int.toNat (k:Int)) []); exact fun p=>∀(R:Ex→List PV→Heap→Prop),(br (decide ((k:Int)<(↑(List.length j):Int))) (InL j 1 (k:Int)∧br (true && fitX [.int .u32] 0 p) (∃(q:Nat) (r:Nat) (w_1:List Mt) (m_1:Int) (t:Int),SlIs [.ptr 1 0,.int .u32 (cI p 0)] [.ptr q 0,.int .u32 t]∧BkIs n q r (rkM (rowsM w_1) m_1)∧MO w_1 m_1∧∃(l_1:List Ac) (w_2:List Mt) (m_2:Int) (c:Mt) (i_1:Nat) (k_1:Nat),by refine(?_:_→_→_→_→_→Prop) (Ob.cells [.int .u32 c.id,.int .i64 c.md,.int .u32 c.ins,.list (c.rows.map rrc) .no,.list (c.seats.map stc) .no]) (PV.list (List.map u1 (w_2.map Mt.id)) .no) (Ob.abs (rkM (rowsM w_2) m_2)) (PV.list (l_1.map acC) .no) (PV.int .i64 (wI ((k_1:Int)+1))); exact fun a b d f g=>by refine(?_:_→Prop) [d,.cells [.ptr 0 0],a]; exact fun h=>MO w_2 m_2∧c∈w_2∧SlIs [o,.ptr 1 0,.list [] .exact,.int .i64 i,.list [] .exact,.list j .no,.int .i64 k,.ptr 2 0,.bool (hasG Mt.id w_1 t)] [f,.ptr 1 0,.list [] .exact,.int .i64 i_1,.list [] .exact,b,.int .i64 k_1,.ptr 2 0,.bool true]∧HpIs [.abs (rkM (rowsM w) m),.cells [.ptr 0 0],.cells [.int .u32 (Mt.id (gM w_1 t)),.int .i64 (Mt.md (gM w_1 t)),.int .u32 (Mt.ins (gM w_1 t)),.list (List.map rrc (Mt.rows (gM w_1 t))) .no,.list (List.map stc (Mt.seats (gM w_1 t))) .no]] h∧(plM c=[]→R .normal [f,.ptr 1 0,.list [] .exact,.int .i64 i_1,.list [] .exact,b,g] h)∧(plM c≠[]→R .normal [f,.ptr 1 0,.list [] .exact,.int .i64 i_1,.list (List.map u1 (plM c)) (.tok 3),b,g] [d,.cells [.ptr 0 0],a,.tok])) False) (R (.exit 2) [o,.ptr 1 0,.list [] .exact,.int .i64 i,.list [] .exact,.list j .no,.int .i64 k] n))→Holds (wpc br Try.prog gl TRO [([1,0,0,1],onRA_l)] (fun _=>0) (subOf [1,1,1,1,0,1,0,0,1,0,0,1,1,1,1,0] (bodyOf Try.f4)) [] (envS [0,3,4,5,6,7,8] [o,.ptr 1 0,.list [] .exact,.int .i64 i,.list [] .exact,.list ((w.map Mt.id).map u1) .no,.int .i64 k]) n (fun ex e H=>R ex (List.map e [0,3,4,5,6,7,8]) H)):Prop):=fun R h=>holds_of_eq (by kernel_rfl) h
theorem on2B_vc (l:List Ac) (w:List Mt) (m:Int) (b:List Int) (i k:Nat):(by refine(?_:_→_→_→_→Prop) (List.map u1 (w.map Mt.id)) [Ob.abs (rkM (rowsM w) m),.cells [.ptr 0 0],.tok] (PV.list (b.map u1) (.tok 2)) (PV.list (l.map acC) .no); exact fun o p s u=>by refine(?_:_→Prop) (List.getD o (Int.toNat (k:Int)) []); exact fun v=>∀(R:Ex→List PV→Heap→Prop),(br (decide ((k:Int)<(↑(List.length o):Int))) (InL o 1 (k:Int)∧br (true && fitX [.int .u32] 0 v) (∃(q:Nat) (r:Nat) (w_1:List Mt) (m_1:Int) (t:Int),SlIs [.ptr 1 0,.int .u32 (cI v 0)] [.ptr q 0,.int .u32 t]∧BkIs p q r (rkM (rowsM w_1) m_1)∧MO w_1 m_1∧∃(l_1:List Ac) (w_2:List Mt) (m_2:Int) (c:Mt) (b_1:List Int) (i_1:Nat) (k_1:Nat),by refine(?_:_→_→_→_→_→_→Prop) (Ob.cells [.int .u32 c.id,.int .i64 c.md,.int .u32 c.ins,.list (c.rows.map rrc) .no,.list (c.seats.map stc) .no]) (PV.list (List.map u1 (w_2.map Mt.id)) .no) (PV.list (l_1.map acC) .no) (PV.int .i64 (wI ((k_1:Int)+1))) (List.map u1 (b_1++plM c)) (rkM (rowsM w_2) m_2); exact fun a d g h j n=>by refine(?_:_→Prop) [Ob.abs n,.cells [.ptr 0 0],.tok,a]; exact fun f=>MO w_2 m_2∧c∈w_2∧List.Pairwise (fun(x1 x2:Int)=>x1≠x2) (b_1++plM c)∧b_1.length≤100000∧SlIs [u,.ptr 1 0,.list [] .exact,.int .i64 i,s,.list o .no,.int .i64 k,.ptr 3 0,.bool (hasG Mt.id w_1 t)] [g,.ptr 1 0,.list [] .exact,.int .i64 i_1,.list (b_1.map u1) (.tok 2),d,.int .i64 k_1,.ptr 3 0,.bool true]∧HpIs [.abs (rkM (rowsM w) m),.cells [.ptr 0 0],.tok,.cells [.int .u32 (Mt.id (gM w_1 t)),.int .i64 (Mt.md (gM w_1 t)),.int .u32 (Mt.ins (gM w_1 t)),.list (List.map rrc (Mt.rows (gM w_1 t))) .no,.list (List.map stc (Mt.seats (gM w_1 t))) .no]] f∧R .normal [g,.ptr 1 0,.list [] .exact,.int .i64 i_1,.list j (.tok 2),d,h] f∧R .normal [g,.ptr 1 0,.list [] .exact,.int .i64 i_1,.list j (.tok 4),d,h] [.abs n,.cells [.ptr 0 0],.dead,a,.tok]) False) (R (.exit 2) [u,.ptr 1 0,.list [] .exact,.int .i64 i,s,.list o .no,.int .i64 k] p))→Holds (wpc br Try.prog gl TRO [([1,0,0,1],onRB_l)] (fun _=>0) (subOf [1,1,1,1,0,1,0,0,1,0,0,1,1,1,1,0] (bodyOf Try.f4)) [] (envS [0,3,4,5,6,7,8] [u,.ptr 1 0,.list [] .exact,.int .i64 i,s,.list ((w.map Mt.id).map u1) .no,.int .i64 k]) p (fun ex e H=>R ex (List.map e [0,3,4,5,6,7,8]) H)):Prop):=fun R h=>holds_of_eq (by kernel_rfl) h
def on2_l:LSp:=fun e H Q=>∃(l:List Ac) (w:List Mt) (m:Int) (i:Nat),MO w m∧m≤1000∧SlIs (List.map e [0,3,4,5,6,7,8]) [.list (l.map acC) .no,.ptr 1 0,.list [] .exact,.int .i64 i,.list [] .exact,.list ((w.map Mt.id).map u1) .no,.int .i64 0]∧HpIs H [.abs (rkM (rowsM w) m),.cells [.ptr 0 0]]∧∀(T:PV) (G:Heap),Q (.exit 2) (envS [0,3,4,5,6,7,8] [.list (l.map acC) .no,.ptr 1 0,.list [] .exact,.int .i64 i,T,.list ((w.map Mt.id).map u1) .no,.int .i64 w.length]) ([.abs (rkM (rowsM w) m),.cells [.ptr 0 0]]++G)
set_option maxRecDepth 10000 in
theorem on2_l_ok:∀ e H Q,on2_l e H Q→AW Try.prog gl Try.f4.ntmps (.loop (subOf [1,1,1,1,0,1,0,0,1,0,0,1,1,1,1,0] (bodyOf Try.f4))) Q e H:=by
 rintro e H Q ⟨l,w,m,i,ro,hm,he,hH,hQ⟩
 have hH:H=_:=hH
 have nd:([]++w.flatMap plM).Nodup:=all_nd ro
 have hwl:w.length≤1000:=by have:=ro.full; omega
 have hal:=all_len ro
 refine aw_growifA (f:=u1) (acc:=fun k=>((w.take k).flatMap plM)) (I:=fun k=>k≤w.length) (m:=fun k=>w.length-k) gl_low [0,3,4,5,6,7,8] (fun T k=>[.list (l.map acC) .no,.ptr 1 0,.list [] .exact,.int .i64 i,T,.list ((w.map Mt.id).map u1) .no,.int .i64 k]) [.abs (rkM (rowsM w) m),.cells [.ptr 0 0]] (0:Nat)
  lowB2o.up (fun _ _ a _=>low_u1 a) (fun es x j _ h=> .same (low_acs _) (.same (.ptr _ _ (by simp)) (.same lowNil (.same (.int _ _) (.row h (.same (low_rows low_u1 _) (.same (.int _ _) .nil))))))) (fun x _ v hv=>by
   simp only[List.mem_cons,List.not_mem_nil,or_false] at hv
   rcases hv with rfl|rfl|rfl|rfl|rfl|rfl|rfl
   ·exact low_acs _
   ·exact .ptr _ _ (by simp)
   ·exact lowNil
   ·exact .int _ _
   ·exact lowNil
   ·exact low_rows low_u1 _
   ·exact .int _ _) (Nat.zero_le _) rfl he hH ?_ ?_
 ·intro k hk ha
  have hk':k≤w.length:=hk
  have ha:((w.take k).flatMap plM)=[]:=ha
  refine wpc_sound TRO_ok (subOf [1,1,1,1,0,1,0,0,1,0,0,1,1,1,1,0] (bodyOf Try.f4)) [] lk2A _ _ _ (on2A_vc l w m i k _ ?_).out
  simp only[br_if,dt,List.length_map]
  by_cases h:k<w.length
  ·rw[if_pos (by omega)]
   have hs:=flat_succ (g:=plM) h
   obtain⟨c,hcd⟩:∃ c,c=w.getD k default:=⟨_,rfl⟩
   have hc:c∈w:=by rw[hcd]; exact getD_mem h
   have hk:(w.map Mt.id).getD k 0=c.id:=by rw[hcd,List.getD_eq_getElem?_getD,List.getD_eq_getElem?_getD,List.getElem?_map,List.getElem?_eq_getElem h]; rfl
   have inl:InL ((w.map Mt.id).map u1) 1 (k:Int):=by rw[inL_u1,List.length_map]; exact h
   have cp:∀ z:Int,cI (u1 z) 0=z:=fun _=>rfl
   have hg:gM w c.id=c:=getG_of ro.rise hc
   have hh:hasG Mt.id w c.id=true:=hasG_iff.2 ⟨c,hc,rfl⟩
   have hn:=nd_pre (g:=plM) (b:=[]) h nd
   rw[List.nil_append,← hcd] at hn
   rw[← hcd] at hs
   refine⟨inl,?_⟩
   simp only[toNat_nat,getD_map 0 (show k<(w.map Mt.id).length by rw[List.length_map]; exact h),hk,cp]
   rw[if_pos (by rfl)]
   refine⟨1,0,w,m,c.id,rfl,⟨rfl,rfl⟩,ro,?_⟩
   rw[hg,hh]
   rw[ha,List.nil_append] at hs
   refine⟨l,w,m,c,i,k,ro,hc,rfl,rfl,fun h0=>?_,fun h0=>?_⟩
   ·rw[h0] at hs
    exact growQ_none (k+1) (show w.length-(k+1)<w.length-k by omega) h hs [.cells (mtc c)] rfl (by rw[wI_succ h (by omega)])
   ·exact growQ_add (k+1) (show w.length-(k+1)<w.length-k by omega) h hs h0 [.cells (mtc c),.tok] 3 rfl rfl (by simp) (by(try dsimp only); rw[wI_succ h (by omega)])
  ·rw[if_neg (by omega)]
   have:k=w.length:=by omega
   subst this
   have hq:=hQ (.list [] .exact) []
   rw[List.append_nil] at hq
   exact growQ_end (WkL.refl _) (Pad.refl _) hq
 ·intro k hk ha
  have hk':k≤w.length:=hk
  have ha:((w.take k).flatMap plM)≠[]:=ha
  have hpl:((w.take k).flatMap plM).length≤100000:=by
   have e:=congrArg List.length (show w.flatMap plM=((w.take k).flatMap plM)++(w.drop k).flatMap plM by rw[← List.flatMap_append,List.take_append_drop])
   rw[List.length_append] at e; omega
  refine wpc_sound TRO_ok (subOf [1,1,1,1,0,1,0,0,1,0,0,1,1,1,1,0] (bodyOf Try.f4)) [] lk2B _ _ _ (on2B_vc l w m ((w.take k).flatMap plM) i k _ ?_).out
  simp only[br_if,dt,List.length_map]
  by_cases h:k<w.length
  ·rw[if_pos (by omega)]
   have hs:=flat_succ (g:=plM) h
   obtain⟨c,hcd⟩:∃ c,c=w.getD k default:=⟨_,rfl⟩
   have hc:c∈w:=by rw[hcd]; exact getD_mem h
   have hk:(w.map Mt.id).getD k 0=c.id:=by rw[hcd,List.getD_eq_getElem?_getD,List.getD_eq_getElem?_getD,List.getElem?_map,List.getElem?_eq_getElem h]; rfl
   have inl:InL ((w.map Mt.id).map u1) 1 (k:Int):=by rw[inL_u1,List.length_map]; exact h
   have cp:∀ z:Int,cI (u1 z) 0=z:=fun _=>rfl
   have hg:gM w c.id=c:=getG_of ro.rise hc
   have hh:hasG Mt.id w c.id=true:=hasG_iff.2 ⟨c,hc,rfl⟩
   have hn:=nd_pre (g:=plM) (b:=[]) h nd
   rw[List.nil_append,← hcd] at hn
   rw[← hcd] at hs
   refine⟨inl,?_⟩
   simp only[toNat_nat,getD_map 0 (show k<(w.map Mt.id).length by rw[List.length_map]; exact h),hk,cp]
   rw[if_pos (by rfl)]
   refine⟨1,0,w,m,c.id,rfl,⟨rfl,rfl⟩,ro,?_⟩
   rw[hg,hh]
   refine⟨l,w,m,c,((w.take k).flatMap plM),i,k,ro,hc,hn,hpl,rfl,rfl,?_,?_⟩
   ·exact growQ_add (k+1) (show w.length-(k+1)<w.length-k by omega) h hs (fun e=>ha (List.append_eq_nil_iff.1 e).1) [.tok,.cells (mtc c)] 2 rfl rfl (by simp) (by(try dsimp only); rw[wI_succ h (by omega)])
   ·exact growQ_add (k+1) (show w.length-(k+1)<w.length-k by omega) h hs (fun e=>ha (List.append_eq_nil_iff.1 e).1) [.dead,.cells (mtc c),.tok] 4 rfl rfl (by simp) (by(try dsimp only); rw[wI_succ h (by omega)])
  ·rw[if_neg (by omega)]
   have:k=w.length:=by omega
   subst this
   exact growQ_end (WkL.refl _) (Pad.refl _) (hQ _ [.tok])
theorem on2_sub:subOf [1,0,0,1,1,1,1,0] (subOf [1,1,1,1,0,1,0] (bodyOf Try.f4))=subOf [1,1,1,1,0,1,0,0,1,0,0,1,1,1,1,0] (bodyOf Try.f4):=by kernel_rfl
theorem on2_l_ok2:∀ e H Q,on2_l e H Q→AW Try.prog gl Try.f4.ntmps (.loop (subOf [1,0,0,1,1,1,1,0] (subOf [1,1,1,1,0,1,0] (bodyOf Try.f4)))) Q e H:=by rw[on2_sub]; exact on2_l_ok
theorem on1_vc (l:List Ac) (w:List Mt) (m:Int) (i:Nat):(by refine(?_:_→_→_→Prop) (List.getD (l.map acC) (Int.toNat (i:Int)) []) [Ob.abs (rkM (rowsM w) m),.cells [.ptr 0 0]] [PV.list (l.map acC) .no,.ptr 1 0,.list [] .exact,.int .i64 i]; exact fun g h j=>∀(R:Ex→List PV→Heap→Prop),(br (decide ((i:Int)<(↑(List.length (l.map acC)):Int))) (InL (l.map acC) 6 (i:Int)∧br (true && fitX [.int .u8,.int .u32,.int .u32,.int .i64,.int .i64,.list] 0 g) (∃(w_1:List Mt) (v:List Mt) (m_1:Int) (a:Ac) (t0:Tail) (t1:Tail),by refine(?_:_→Prop) [Ob.abs (rkM (rowsM (stepM w_1 m_1 a)) m_1),.cells [.ptr 0 0]]; exact fun f=>SlIs [.ptr 1 0,.list [] .exact,.int .i64 4,.agg [.int .u8 (cI g 0),.int .u32 (cI g 1),.int .u32 (cI g 2),.int .i64 (cI g 3),.int .i64 (cI g 4),.list (cL g 5) (cT g 5)]] [.ptr 1 0,.list (v.map mtc) t0,.int .i64 m_1,.agg [.int .u8 a.dO,.int .u32 a.id,.int .u32 a.p,.int .i64 a.st,.int .i64 a.md,.list (a.rows.map rrc) t1]]∧BkIs h 1 0 (rkM (rowsM w_1) m_1)∧MO w_1 m_1∧m_1≤100000∧(v=w_1∨v=[])∧Ac.Nn a∧smR a.rows∧∀(b:Bool),(v=w_1→b=true)→∃(q:Nat) (r:Nat) (w:List Mt) (m:Int),SlIs [.ptr 1 0] [.ptr q 0]∧BkIs f q r (rkM (rowsM w) m)∧MO w m∧∃(l_1:List Ac) (w_2:List Mt) (m:Int) (i_1:Nat),by refine(?_:_→_→Prop) [Ob.abs (rkM (rowsM w_2) m),.cells [.ptr 0 0]] (PV.list (l_1.map acC) .no); exact fun c d=>MO w_2 m∧m≤1000∧SlIs [.list (l.map acC) .no,.ptr 1 0,.list [] .exact,.int .i64 i,.list [] .exact,.list (List.map u1 (w.map Mt.id)) .no,.int .i64 0] [d,.ptr 1 0,.list [] .exact,.int .i64 i_1,.list [] .exact,.list (List.map u1 (w_2.map Mt.id)) .no,.int .i64 0]∧HpIs f c∧∀(_:PV),∀(G:Heap),R .normal [d,.ptr 1 0,.list [] .exact,.int .i64 (wI ((i_1:Int)+1))] (c++G)) False) (R (.exit 0) j h))→Holds (wpc br Try.prog gl TRO [([1,0,0,1,1,1,1,0],on2_l)] (fun _=>0) (subOf [1,1,1,1,0,1,0] (bodyOf Try.f4)) [] (envS [0,3,4,5] j) h (fun ex e H=>R ex (List.map e [0,3,4,5]) H)):Prop):=fun R h=>holds_of_eq (by kernel_rfl) h
theorem low_r1 {i0:Int} {l:List Ac}:∀ v∈[PV.list (l.map acC) .no,.ptr 1 0,.list [] .exact,.int .i64 i0],Low 2 v:=by
 intro v hv
 simp only[List.mem_cons,List.not_mem_nil,or_false] at hv
 rcases hv with rfl|rfl|rfl|rfl
 ·exact low_acs l
 ·exact .ptr _ _ (by decide)
 ·exact lowNil
 ·exact .int _ _
def on1_l:LSp:=fun e H Q=>∃(l:List Ac),l.length≤1000000∧okAs l∧SlIs (List.map e [0,3,4,5]) [.list (l.map acC) .no,.ptr 1 0,.list [] .exact,.int .i64 0]∧HpIs H [.abs (rkM (rowsM []) 4),.cells [.ptr 0 0]]∧Q (.exit 0) (envS [0,3,4,5] [.list (l.map acC) .no,.ptr 1 0,.list [] .exact,.int .i64 l.length]) [.abs (rkM (rowsM (runM 4 l)) 4),.cells [.ptr 0 0]]
theorem on1_l_ok:∀ e H Q,on1_l e H Q→AW Try.prog gl Try.f4.ntmps (.loop (subOf [1,1,1,1,0,1,0] (bodyOf Try.f4))) Q e H:=by
 rintro e H Q ⟨l,hl,hok,he,hH,hQ⟩
 have he:List.map e [0,3,4,5]=_:=he
 refine aw_loop4 (hn:=fun _=>0) gl_low TRO_ok (.cons (sub_of (by kernel_rfl)) on2_l_ok2 (.nil _ _ _ _ _)) (σ:=Nat) [0,3,4,5] (fun i=>i≤l.length) (fun i=>[.list (l.map acC) .no,.ptr 1 0,.list [] .exact,.int .i64 i]) (fun i=>[.abs (rkM (rowsM (runM 4 (l.take i))) 4),.cells [.ptr 0 0]]) (fun i=>l.length-i) 0 (Nat.zero_le _) he hH ?_
 intro i hi
 have hi':i≤l.length:=hi
 obtain⟨w,hw⟩:∃ w,w=runM 4 (l.take i):=⟨_,rfl⟩
 have ro:MO w 4:=by rw[hw]; exact runM_ok (by decide) (by decide) _
 rw[← hw]
 refine on1_vc l w 4 i _ ?_
 simp only[br_if,dt,List.length_map,toNat_nat]
 by_cases h:i<l.length
 ·rw[if_pos (by omega)]
  have hs:=runM_succ (m:=4) h
  rw[← hw] at hs
  obtain⟨a,ha⟩:∃ a,a=l.getD i default:=⟨_,rfl⟩
  obtain⟨nn,sm⟩:=hok a (by rw[ha]; exact getD_mem h)
  simp only[getD_map default h,← ha]
  rw[← ha] at hs
  refine⟨by rw[inL_ac]; exact h,?_⟩
  rw[if_pos (by rfl)]
  have ro2:=ro.step a
  refine⟨w,[],4,a,.exact,.no,rfl,⟨rfl,rfl⟩,ro,by decide,.inr rfl,nn,sm,fun b _=>?_⟩
  rw[← hs] at ro2 ⊢
  refine⟨1,0,runM 4 (l.take (i+1)),4,rfl,⟨rfl,rfl⟩,ro2,l,runM 4 (l.take (i+1)),4,i,ro2,by decide,rfl,rfl,fun T G=>?_⟩
  exact⟨i+1,(show l.length-(i+1)<l.length-i by omega),h,by rw[wI_succ h (by omega)],G,rfl,Nat.le_refl _,.inr ⟨low_r1,lowH_ro⟩⟩
 ·rw[if_neg (by omega)]
  have hil:i=l.length:=by omega
  subst hil
  rw[List.take_length] at hw
  rw[hw]
  exact hQ
theorem on_vc (l:List Ac):∀(K:PV→Prop),(∃(l_1:List Ac) (t:Tail),SlIs [.list (l.map acC) .no] [.list (l_1.map acC) t]∧br (greatB l_1) (K (.bool true)) (∃(n:Int),SlIs [.int .i64 4] [.int .i64 n]∧∃(l_2:List Ac),l_2.length≤1000000∧okAs l_2∧SlIs [.list (l.map acC) .no,.ptr 1 0,.list [] .exact,.int .i64 0] [.list (l_2.map acC) .no,.ptr 1 0,.list [] .exact,.int .i64 0]∧HpIs [.abs (rkM [] (mxI 0 n)),.cells [.ptr 0 0]] [.abs (rkM [] 4),.cells [.ptr 0 0]]∧SlIs [] []∧K (.bool true)))→ACalls Try.prog gl 4 [.list (l.map acC) .no] [] (fun x _=>K x):=fun K h=>acalls_of_wpc2 (T:=TRO) (L:=[([1,1,1,1,0,1,0],on1_l)]) (fun _=>0) Try.func4 (by kernel_rfl) (by kernel_rfl) (by kernel_rfl) (TRO_ok) (.cons (sub_of (by kernel_rfl)) on1_l_ok (.nil _ _ _ _ _)) (holds_of_eq (by kernel_rfl) h)
theorem one_law (l:List Ac) (nn:∀ a∈l,a.Nn):ACalls Try.prog gl 4 [.list (l.map acC) .no] [] (fun x _=>x = .bool true):=by
 refine on_vc l (fun x=>x = .bool true) ?_
 refine⟨l,.no,rfl,?_⟩
 rw[br_if]
 by_cases c2:greatB l=true
 ·rw[if_pos c2]
 ·rw[if_neg c2]
  obtain⟨g1,g2⟩:=great_no (show greatB l=false by simpa using c2)
  exact⟨4,rfl,l,by omega,fun a ha=>⟨nn a ha,g2 a ha⟩,rfl,rfl,rfl,rfl⟩
end Go.Proofs.Ytenaelaapdhbdaa
