/-
  A match's round.
-/
import Derived.Test.YtenaelaapdhbdaaSai
import Derived.Test.YtenaelaapdhbdaaProg
namespace Go.Proofs.Ytenaelaapdhbdaa
open Go Go.AM Go.Proofs
theorem on4_sub:subOf [1,0,0,1,0] (subOf [1,1,1,1,0,1,0,0,1,0,0,1,1,1,1,0,0,1,0,0,1,1,1,0,1,0] (bodyOf Try.f4))=subOf [1,1,1,1,0,1,0,0,1,0,0,1,1,1,1,0,0,1,0,0,1,1,1,0,1,0,0,1,0,0,1,0] (bodyOf Try.f4):=by kernel_rfl
theorem on4A_l_ok2:∀ e H Q,on4A_l e H Q→AW Try.prog gl Try.f4.ntmps (.loop (subOf [1,0,0,1,0] (subOf [1,1,1,1,0,1,0,0,1,0,0,1,1,1,1,0,0,1,0,0,1,1,1,0,1,0] (bodyOf Try.f4)))) Q e H:=by rw[on4_sub]; exact on4A_l_ok
theorem on4B_l_ok2:∀ e H Q,on4B_l e H Q→AW Try.prog gl Try.f4.ntmps (.loop (subOf [1,0,0,1,0] (subOf [1,1,1,1,0,1,0,0,1,0,0,1,1,1,1,0,0,1,0,0,1,1,1,0,1,0] (bodyOf Try.f4)))) Q e H:=by rw[on4_sub]; exact on4B_l_ok
theorem lk3A:LOk Try.prog gl Try.f4.ntmps (subOf [1,1,1,1,0,1,0,0,1,0,0,1,1,1,1,0,0,1,0,0,1,1,1,0,1,0] (bodyOf Try.f4)) [] [([1,0,0,1,0],on4A_l)]:= .cons (sub_of (by kernel_rfl)) on4A_l_ok2 (.nil _ _ _ _ _)
theorem lk3B:LOk Try.prog gl Try.f4.ntmps (subOf [1,1,1,1,0,1,0,0,1,0,0,1,1,1,1,0,0,1,0,0,1,1,1,0,1,0] (bodyOf Try.f4)) [] [([1,0,0,1,0],on4B_l)]:= .cons (sub_of (by kernel_rfl)) on4B_l_ok2 (.nil _ _ _ _ _)
theorem on3A_vc (l:List Ac) (w:List Mt) (m:Int) (c:Mt) (i k many j:Nat):(by refine(?_:_→_→_→Prop) [Ob.abs (rkM (rowsM w) m),.cells [.ptr 0 0],.cells [.int .u32 c.id,.int .i64 c.md,.int .u32 c.ins,.list (c.rows.map rrc) .no,.list (c.seats.map stc) .no]] (PV.list (l.map acC) .no) (PV.list (List.map u1 (w.map Mt.id)) .no); exact fun o p q=>∀(R:Ex→List PV→Heap→Prop),(br (decide ((j:Int)<(↑(List.length (c.rows.map rrc)):Int))) (∃(l_1:List Ac) (w_1:List Mt) (m_1:Int) (c_1:Mt) (i_1:Nat) (k_1:Nat) (many_1:Nat) (j_1:Nat),by refine(?_:_→_→_→_→_→_→Prop) (Ob.cells [.int .u32 c_1.id,.int .i64 c_1.md,.int .u32 c_1.ins,.list (c_1.rows.map rrc) .no,.list (c_1.seats.map stc) .no]) (List.getD c_1.rows j_1 default) (PV.list (List.map u1 (w_1.map Mt.id)) .no) (Ob.abs (rkM (rowsM w_1) m_1)) (PV.list (l_1.map acC) .no) (PV.int .i64 (wI ((j_1:Int)+1))); exact fun a b d f g h=>by refine(?_:_→Prop) [f,.cells [.ptr 0 0],a]; exact fun n=>MO w_1 m_1∧c_1∈w_1∧j_1<c_1.rows.length∧List.Pairwise (fun(x1 x2:Int)=>x1≠x2) ([]++Rr.pl b)∧List.length (Rr.pl b)≤1000000∧many_1≤1000000∧SlIs [p,.ptr 1 0,.list [] .exact,.int .i64 i,.list [] .exact,q,.int .i64 k,.ptr 2 0,.int .i64 many,.int .i64 j,.int .i64 0] [g,.ptr 1 0,.list [] .exact,.int .i64 i_1,.list [] .exact,d,.int .i64 k_1,.ptr 2 0,.int .i64 many_1,.int .i64 j_1,.int .i64 0]∧HpIs o n∧(Rr.pl b=[]→R .normal [g,.ptr 1 0,.list [] .exact,.int .i64 i_1,.list [] .exact,d,.int .i64 k_1,.ptr 2 0,.int .i64 many_1,h] n)∧(Rr.pl b≠[]→R .normal [g,.ptr 1 0,.list [] .exact,.int .i64 i_1,.list (List.map u1 (Rr.pl b)) (.tok 3),d,.int .i64 k_1,.ptr 2 0,.int .i64 (↑(many_1+List.length (Rr.pl b)):Int),h] [f,.cells [.ptr 0 0],a,.tok])) (R (.exit 4) [p,.ptr 1 0,.list [] .exact,.int .i64 i,.list [] .exact,q,.int .i64 k,.ptr 2 0,.int .i64 many,.int .i64 j] o))→Holds (wpc br Try.prog gl TRO [([1,0,0,1,0],on4A_l)] (fun _=>0) (subOf [1,1,1,1,0,1,0,0,1,0,0,1,1,1,1,0,0,1,0,0,1,1,1,0,1,0] (bodyOf Try.f4)) [] (envS [0,3,4,5,6,7,8,9,11,12] [p,.ptr 1 0,.list [] .exact,.int .i64 i,.list [] .exact,.list ((w.map Mt.id).map u1) .no,.int .i64 k,.ptr 2 0,.int .i64 many,.int .i64 j]) [.abs (rkM (rowsM w) m),.cells [.ptr 0 0],.cells (mtc c)] (fun ex e H=>R ex (List.map e [0,3,4,5,6,7,8,9,11,12]) H)):Prop):=fun R h=>holds_of_eq (by kernel_rfl) h
theorem on3B_vc (l:List Ac) (w:List Mt) (m:Int) (c:Mt) (b:List Int) (i k many j:Nat):(by refine(?_:_→_→_→_→Prop) [Ob.abs (rkM (rowsM w) m),.cells [.ptr 0 0],.cells [.int .u32 c.id,.int .i64 c.md,.int .u32 c.ins,.list (c.rows.map rrc) .no,.list (c.seats.map stc) .no],.tok] (PV.list (b.map u1) (.tok 3)) (PV.list (l.map acC) .no) (PV.list (List.map u1 (w.map Mt.id)) .no); exact fun o p r s=>∀(R:Ex→List PV→Heap→Prop),(br (decide ((j:Int)<(↑(List.length (c.rows.map rrc)):Int))) (∃(l_1:List Ac) (w_1:List Mt) (m_1:Int) (c_1:Mt) (b_1:List Int) (i_1:Nat) (k_1:Nat) (many_1:Nat) (j_1:Nat),by refine(?_:_→_→_→_→_→Prop) (Ob.cells [.int .u32 c_1.id,.int .i64 c_1.md,.int .u32 c_1.ins,.list (c_1.rows.map rrc) .no,.list (c_1.seats.map stc) .no]) (List.getD c_1.rows j_1 default) (PV.list (List.map u1 (w_1.map Mt.id)) .no) (Ob.abs (rkM (rowsM w_1) m_1)) (PV.list (l_1.map acC) .no); exact fun d f g h n=>MO w_1 m_1∧c_1∈w_1∧j_1<c_1.rows.length∧List.Pairwise (fun(x1 x2:Int)=>x1≠x2) (b_1++Rr.pl f)∧b_1.length+List.length (Rr.pl f)≤1000000∧many_1≤1000000∧SlIs [r,.ptr 1 0,.list [] .exact,.int .i64 i,p,s,.int .i64 k,.ptr 2 0,.int .i64 many,.int .i64 j,.int .i64 0] [n,.ptr 1 0,.list [] .exact,.int .i64 i_1,.list (b_1.map u1) (.tok 3),g,.int .i64 k_1,.ptr 2 0,.int .i64 many_1,.int .i64 j_1,.int .i64 0]∧HpIs o [h,.cells [.ptr 0 0],d,.tok]∧∀(X:Heap),by refine(?_:_→Prop) ([h,.cells [.ptr 0 0],d]++X); exact fun a=>∀(q:Nat),a[q]?=some .tok→3≤q→R .normal [n,.ptr 1 0,.list [] .exact,.int .i64 i_1,.list (List.map u1 (b_1++Rr.pl f)) (.tok q),g,.int .i64 k_1,.ptr 2 0,.int .i64 (↑(many_1+List.length (Rr.pl f)):Int),.int .i64 (wI ((j_1:Int)+1))] a) (R (.exit 4) [r,.ptr 1 0,.list [] .exact,.int .i64 i,p,s,.int .i64 k,.ptr 2 0,.int .i64 many,.int .i64 j] o))→Holds (wpc br Try.prog gl TRO [([1,0,0,1,0],on4B_l)] (fun _=>0) (subOf [1,1,1,1,0,1,0,0,1,0,0,1,1,1,1,0,0,1,0,0,1,1,1,0,1,0] (bodyOf Try.f4)) [] (envS [0,3,4,5,6,7,8,9,11,12] [r,.ptr 1 0,.list [] .exact,.int .i64 i,p,.list ((w.map Mt.id).map u1) .no,.int .i64 k,.ptr 2 0,.int .i64 many,.int .i64 j]) [.abs (rkM (rowsM w) m),.cells [.ptr 0 0],.cells (mtc c),.tok] (fun ex e H=>R ex (List.map e [0,3,4,5,6,7,8,9,11,12]) H)):Prop):=fun R h=>holds_of_eq (by kernel_rfl) h
def on3A_l:LSp:=fun e H Q=>∃(l:List Ac) (w:List Mt) (m:Int) (c:Mt) (i k:Nat),MO w m∧c∈w∧SlIs (List.map e [0,3,4,5,6,7,8,9,11,12]) [.list (l.map acC) .no,.ptr 1 0,.list [] .exact,.int .i64 i,.list [] .exact,.list ((w.map Mt.id).map u1) .no,.int .i64 k,.ptr 2 0,.int .i64 0,.int .i64 0]∧HpIs H [.abs (rkM (rowsM w) m),.cells [.ptr 0 0],.cells (mtc c)]∧(plM c=[]→Q (.exit 4) (envS [0,3,4,5,6,7,8,9,11,12] [.list (l.map acC) .no,.ptr 1 0,.list [] .exact,.int .i64 i,.list [] .exact,.list ((w.map Mt.id).map u1) .no,.int .i64 k,.ptr 2 0,.int .i64 0,.int .i64 c.rows.length]) [.abs (rkM (rowsM w) m),.cells [.ptr 0 0],.cells (mtc c)])∧(plM c≠[]→Q (.exit 4) (envS [0,3,4,5,6,7,8,9,11,12] [.list (l.map acC) .no,.ptr 1 0,.list [] .exact,.int .i64 i,.list ((plM c).map u1) (.tok 3),.list ((w.map Mt.id).map u1) .no,.int .i64 k,.ptr 2 0,.int .i64 (plM c).length,.int .i64 c.rows.length]) [.abs (rkM (rowsM w) m),.cells [.ptr 0 0],.cells (mtc c),.tok])
theorem pj_le {c:Mt} (h:c.Ok) (j:Nat):((c.rows.take j).flatMap Rr.pl).length≤8:=by
 have h1:=tot8 h
 have h2:=tot_le (l:=c.rows) j
 rw[List.length_flatMap]; unfold tot at h1 h2; omega
theorem row_len {c:Mt} (h:c.Ok) {j:Nat} (hj:j<c.rows.length):(c.rows.getD j default).pl.length≤8:=by
 have h1:=tot8 h
 have h2:=tot_take hj
 have h3:=tot_le (l:=c.rows) (j+1)
 omega
set_option maxRecDepth 10000 in
theorem on3A_l_ok:∀ e H Q,on3A_l e H Q→AW Try.prog gl Try.f4.ntmps (.loop (subOf [1,1,1,1,0,1,0,0,1,0,0,1,1,1,1,0,0,1,0,0,1,1,1,0,1,0] (bodyOf Try.f4))) Q e H:=by
 rintro e H Q ⟨l,w,m,c,i,k,ro,hc,he,hH,hQ0,hQ1⟩
 have hH:H=_:=hH
 have ok:=ro.cs c hc
 have nd:([]++c.rows.flatMap Rr.pl).Nodup:=pl_nd ok
 have hrl:=ok.sm.rows
 refine aw_growifA (f:=u1) (acc:=fun j=>((c.rows.take j).flatMap Rr.pl)) (I:=fun j=>j≤c.rows.length) (m:=fun j=>c.rows.length-j) gl_low [0,3,4,5,6,7,8,9,11,12] (fun T j=>[.list (l.map acC) .no,.ptr 1 0,.list [] .exact,.int .i64 i,T,.list ((w.map Mt.id).map u1) .no,.int .i64 k,.ptr 2 0,.int .i64 (((c.rows.take j).flatMap Rr.pl).length:Int),.int .i64 j]) [.abs (rkM (rowsM w) m),.cells [.ptr 0 0],.cells (mtc c)] (0:Nat)
  lowB3.up (fun _ _ a _=>low_u1 a) (fun es x j _ h=>rvs_on (fun y hy=>low_two (.int _ _) (.int _ _) y hy) h) (fun x _ v hv=>low_on (fun y hy=>low_two (.int _ _) (.int _ _) y hy) v hv) (Nat.zero_le _) rfl (by rw[he]; rfl) hH ?_ ?_
 ·intro j hj ha
  have hj':j≤c.rows.length:=hj
  have ha:((c.rows.take j).flatMap Rr.pl)=[]:=ha
  have hl0:((c.rows.take j).flatMap Rr.pl).length=0:=by rw[ha]; rfl
  refine wpc_sound TRO_ok (subOf [1,1,1,1,0,1,0,0,1,0,0,1,1,1,1,0,0,1,0,0,1,1,1,0,1,0] (bodyOf Try.f4)) [] lk3A _ _ _ (on3A_vc l w m c i k ((c.rows.take j).flatMap Rr.pl).length j _ ?_).out
  simp only[br_if,dt,List.length_map]
  by_cases h:j<c.rows.length
  ·rw[if_pos (by omega)]
   have hs:=flat_succ (g:=Rr.pl) h
   have hn:=nd_pre h nd
   rw[List.nil_append,ha] at hn
   have hr8:=row_len ok h
   rw[ha,List.nil_append] at hs
   refine⟨l,w,m,c,i,k,((c.rows.take j).flatMap Rr.pl).length,j,ro,hc,h,hn,by omega,by omega,rfl,rfl,fun h0=>?_,fun h0=>?_⟩
   ·rw[h0] at hs
    exact growQ_none (j+1) (show c.rows.length-(j+1)<c.rows.length-j by omega) h hs [] rfl (by rw[wI_succ h (by omega)]; (try dsimp only); rw[hs,ha])
   ·exact growQ_add (j+1) (show c.rows.length-(j+1)<c.rows.length-j by omega) h hs h0 [.tok] 3 rfl rfl (by simp) (by(try dsimp only); rw[wI_succ h (by omega),hs,ha,List.length_nil,Nat.zero_add])
  ·rw[if_neg (by omega)]
   have:j=c.rows.length:=by omega
   subst this
   rw[List.take_length] at ha
   rw[List.take_length,ha]
   exact growQ_end (WkL.refl _) (Pad.refl _) (hQ0 ha)
 ·intro j hj ha
  have hj':j≤c.rows.length:=hj
  have ha:((c.rows.take j).flatMap Rr.pl)≠[]:=ha
  have h8:=pj_le ok j
  refine wpc_sound TRO_ok (subOf [1,1,1,1,0,1,0,0,1,0,0,1,1,1,1,0,0,1,0,0,1,1,1,0,1,0] (bodyOf Try.f4)) [] lk3B _ _ _ (on3B_vc l w m c ((c.rows.take j).flatMap Rr.pl) i k ((c.rows.take j).flatMap Rr.pl).length j _ ?_).out
  simp only[br_if,dt,List.length_map]
  by_cases h:j<c.rows.length
  ·rw[if_pos (by omega)]
   have hs:=flat_succ (g:=Rr.pl) h
   have hn:=nd_pre h nd
   rw[List.nil_append] at hn
   have hr8:=row_len ok h
   refine⟨l,w,m,c,((c.rows.take j).flatMap Rr.pl),i,k,((c.rows.take j).flatMap Rr.pl).length,j,ro,hc,h,hn,by omega,by omega,rfl,rfl,fun X q hq h3=>?_⟩
   exact growQ_add (j+1) (show c.rows.length-(j+1)<c.rows.length-j by omega) h hs (fun e=>ha (List.append_eq_nil_iff.1 e).1) X q rfl hq h3 (by(try dsimp only); rw[wI_succ h (by omega),hs,List.length_append])
  ·rw[if_neg (by omega)]
   have:j=c.rows.length:=by omega
   subst this
   rw[List.take_length] at ha
   rw[List.take_length]
   exact growQ_end (WkL.refl _) (Pad.refl _) (hQ1 ha)
def on3B_l:LSp:=fun e H Q=>∃(l:List Ac) (w:List Mt) (m:Int) (c:Mt) (b:List Int) (i k:Nat),MO w m∧c∈w∧(b++plM c).Nodup∧b.length≤100000∧SlIs (List.map e [0,3,4,5,6,7,8,9,11,12]) [.list (l.map acC) .no,.ptr 1 0,.list [] .exact,.int .i64 i,.list (b.map u1) (.tok 3),.list ((w.map Mt.id).map u1) .no,.int .i64 k,.ptr 2 0,.int .i64 0,.int .i64 0]∧HpIs H [.abs (rkM (rowsM w) m),.cells [.ptr 0 0],.cells (mtc c),.tok]∧Q (.exit 4) (envS [0,3,4,5,6,7,8,9,11,12] [.list (l.map acC) .no,.ptr 1 0,.list [] .exact,.int .i64 i,.list ((b++plM c).map u1) (.tok 3),.list ((w.map Mt.id).map u1) .no,.int .i64 k,.ptr 2 0,.int .i64 (plM c).length,.int .i64 c.rows.length]) ([.abs (rkM (rowsM w) m),.cells [.ptr 0 0],.cells (mtc c)]++[.tok])∧Q (.exit 4) (envS [0,3,4,5,6,7,8,9,11,12] [.list (l.map acC) .no,.ptr 1 0,.list [] .exact,.int .i64 i,.list ((b++plM c).map u1) (.tok 4),.list ((w.map Mt.id).map u1) .no,.int .i64 k,.ptr 2 0,.int .i64 (plM c).length,.int .i64 c.rows.length]) ([.abs (rkM (rowsM w) m),.cells [.ptr 0 0],.cells (mtc c)]++[.dead,.tok])
set_option maxRecDepth 10000 in
theorem on3B_l_ok:∀ e H Q,on3B_l e H Q→AW Try.prog gl Try.f4.ntmps (.loop (subOf [1,1,1,1,0,1,0,0,1,0,0,1,1,1,1,0,0,1,0,0,1,1,1,0,1,0] (bodyOf Try.f4))) Q e H:=by
 rintro e H Q ⟨l,w,m,c,b,i,k,ro,hc,nd,hbl,he,hH,hQ0,hQ1⟩
 have hH:H=_:=hH
 have ok:=ro.cs c hc
 have nd:(b++c.rows.flatMap Rr.pl).Nodup:=nd
 have hrl:=ok.sm.rows
 refine aw_growon (f:=u1) (acc:=fun j=>b++((c.rows.take j).flatMap Rr.pl)) (I:=fun j=>j≤c.rows.length) (m:=fun j=>c.rows.length-j) (hn:=fun _=>0) gl_low TRO_ok lk3B [0,3,4,5,6,7,8,9,11,12] (fun T j=>[.list (l.map acC) .no,.ptr 1 0,.list [] .exact,.int .i64 i,T,.list ((w.map Mt.id).map u1) .no,.int .i64 k,.ptr 2 0,.int .i64 (((c.rows.take j).flatMap Rr.pl).length:Int),.int .i64 j]) [.abs (rkM (rowsM w) m),.cells [.ptr 0 0],.cells (mtc c)] (0:Nat)
  lowB3 (fun _ _ a _=>low_u1 a) (fun x _=>renV_on (low_two (.int _ _) (.int _ _))) (fun T x=>rfl) (Nat.zero_le _) (by rw[he]; simp) hH ?_
 intro j hj
 have hj':j≤c.rows.length:=hj
 have h8:=pj_le ok j
 refine on3B_vc l w m c (b++((c.rows.take j).flatMap Rr.pl)) i k ((c.rows.take j).flatMap Rr.pl).length j _ ?_
 simp only[br_if,dt,List.length_map]
 by_cases h:j<c.rows.length
 ·rw[if_pos (by omega)]
  have hs:=flat_succ (g:=Rr.pl) h
  have hn:=nd_pre h nd
  have hr8:=row_len ok h
  refine⟨l,w,m,c,b++((c.rows.take j).flatMap Rr.pl),i,k,((c.rows.take j).flatMap Rr.pl).length,j,ro,hc,h,hn,by rw[List.length_append]; omega,by omega,rfl,rfl,fun X q hq h3=>?_⟩
  refine⟨j+1,(show c.rows.length-(j+1)<c.rows.length-j by omega),h,X,q,rfl,hq,h3,?_⟩
  dsimp only
  rw[wI_succ h (by omega),hs,List.length_append,← List.append_assoc]
 ·rw[if_neg (by omega)]
  have:j=c.rows.length:=by omega
  subst this
  simp only[onQ,List.take_length]
  exact⟨rfl,rfl,hQ0,hQ1⟩
theorem on3_sub:subOf [1,1,0,1,0] (atOf [1,1,1,1,0,1,0,0,1,0,0,1,1,1,1,0,0,1,0,0,1] (bodyOf Try.f4))=subOf [1,1,1,1,0,1,0,0,1,0,0,1,1,1,1,0,0,1,0,0,1,1,1,0,1,0] (bodyOf Try.f4):=by kernel_rfl
theorem on5_sub:subOf [1,1,1,0,1,0] (atOf [1,1,1,1,0,1,0,0,1,0,0,1,1,1,1,0,0,1,0,0,1] (bodyOf Try.f4))=subOf [1,1,1,1,0,1,0,0,1,0,0,1,1,1,1,0,0,1,0,0,1,1,1,1,0,1,0] (bodyOf Try.f4):=by kernel_rfl
theorem on5_l_ok2:∀ e H Q,on5_l e H Q→AW Try.prog gl Try.f4.ntmps (.loop (subOf [1,1,1,0,1,0] (atOf [1,1,1,1,0,1,0,0,1,0,0,1,1,1,1,0,0,1,0,0,1] (bodyOf Try.f4)))) Q e H:=by rw[on5_sub]; exact on5_l_ok
theorem on3A_l_ok2:∀ e H Q,on3A_l e H Q→AW Try.prog gl Try.f4.ntmps (.loop (subOf [1,1,0,1,0] (atOf [1,1,1,1,0,1,0,0,1,0,0,1,1,1,1,0,0,1,0,0,1] (bodyOf Try.f4)))) Q e H:=by rw[on3_sub]; exact on3A_l_ok
theorem on3B_l_ok2:∀ e H Q,on3B_l e H Q→AW Try.prog gl Try.f4.ntmps (.loop (subOf [1,1,0,1,0] (atOf [1,1,1,1,0,1,0,0,1,0,0,1,1,1,1,0,0,1,0,0,1] (bodyOf Try.f4)))) Q e H:=by rw[on3_sub]; exact on3B_l_ok
theorem onRA_vc (l:List Ac) (w:List Mt) (m:Int) (c:Mt) (i k:Nat):(by refine(?_:_→_→_→Prop) [PV.int .u32 c.id,.int .i64 c.md,.int .u32 c.ins,.list (c.rows.map rrc) .no,.list (c.seats.map stc) .no] (PV.list (l.map acC) .no) (PV.list (List.map u1 (w.map Mt.id)) .no); exact fun t v x=>by refine(?_:_→_→_→Prop) [Ob.abs (rkM (rowsM w) m),.cells [.ptr 0 0],.cells t] [PV.agg t,.int .i64 1] [PV.agg t,.int .i64 2]; exact fun u y z=>∀(R:Ex→List PV→Heap→Prop),by refine(?_:_→Prop) (R .ret [v,.ptr 1 0,.list [] .exact,.int .i64 i,.list [] .exact,x,.int .i64 k] u); exact fun s=>(∃(c_1:Mt) (t1:Tail) (t2:Tail) (k_1:Int),SlIs y [.agg [.int .u32 c_1.id,.int .i64 c_1.md,.int .u32 c_1.ins,.list (c_1.rows.map rrc) t1,.list (c_1.seats.map stc) t2],.int .i64 k_1]∧c_1.seats.length≤1000000∧br (decide ((↑(List.length (List.map u1 (teamS c_1.seats k_1))):Int)>4) == false) (∃(c_2:Mt) (t1:Tail) (t2:Tail) (k_2:Int),SlIs z [.agg [.int .u32 c_2.id,.int .i64 c_2.md,.int .u32 c_2.ins,.list (c_2.rows.map rrc) t1,.list (c_2.seats.map stc) t2],.int .i64 k_2]∧c_2.seats.length≤1000000∧br (decide ((↑(List.length (List.map u1 (teamS c_2.seats k_2))):Int)>4) == false) (∃(c_3:Mt) (t1:Tail) (t2:Tail) (k_3:Int),SlIs y [.agg [.int .u32 c_3.id,.int .i64 c_3.md,.int .u32 c_3.ins,.list (c_3.rows.map rrc) t1,.list (c_3.seats.map stc) t2],.int .i64 k_3]∧c_3.seats.length≤1000000∧∃(c_4:Mt) (t1:Tail) (t2:Tail) (k_4:Int),SlIs z [.agg [.int .u32 c_4.id,.int .i64 c_4.md,.int .u32 c_4.ins,.list (c_4.rows.map rrc) t1,.list (c_4.seats.map stc) t2],.int .i64 k_4]∧c_4.seats.length≤1000000∧br (wI ((↑(List.length (List.map u1 (teamS c_3.seats k_3))):Int)+(↑(List.length (List.map u1 (teamS c_4.seats k_4))):Int)) != (↑(List.length (c.seats.map stc)):Int)) s (∃(l_1:List Ac) (w_1:List Mt) (m_1:Int) (c_5:Mt) (i_1:Nat) (k_5:Nat),by refine(?_:_→_→_→_→Prop) (Ob.cells [.int .u32 c_5.id,.int .i64 c_5.md,.int .u32 c_5.ins,.list (c_5.rows.map rrc) .no,.list (c_5.seats.map stc) .no]) (PV.list (List.map u1 (w_1.map Mt.id)) .no) (Ob.abs (rkM (rowsM w_1) m_1)) (PV.list (l_1.map acC) .no); exact fun j n p q=>by refine(?_:_→Prop) [p,.cells [.ptr 0 0],j]; exact fun r=>MO w_1 m_1∧c_5∈w_1∧SlIs [v,.ptr 1 0,.list [] .exact,.int .i64 i,.list [] .exact,x,.int .i64 k,.ptr 2 0,.int .i64 0,.int .i64 0] [q,.ptr 1 0,.list [] .exact,.int .i64 i_1,.list [] .exact,n,.int .i64 k_5,.ptr 2 0,.int .i64 0,.int .i64 0]∧HpIs u r∧(plM c_5=[]→∃(l:List Ac) (w:List Mt) (m:Int) (c:Mt) (X:Heap) (T:PV) (i:Nat) (k:Nat) (many:Nat),by refine(?_:_→_→Prop) ([.abs (rkM (rowsM w) m),.cells [.ptr 0 0],.cells [.int .u32 c.id,.int .i64 c.md,.int .u32 c.ins,.list (c.rows.map rrc) .no,.list (c.seats.map stc) .no]]++X) (PV.list (List.map u1 (w.map Mt.id)) .no); exact fun a d=>by refine(?_:_→Prop) [PV.list (l.map acC) .no,.ptr 1 0,.list [] .exact,.int .i64 i,T,d,.int .i64 k]; exact fun b=>Mt.Ok c∧SlIs [q,.ptr 1 0,.list [] .exact,.int .i64 i_1,.list [] .exact,n,.int .i64 k_5,.ptr 2 0,.int .i64 0,.int .i64 1] [.list (l.map acC) .no,.ptr 1 0,.list [] .exact,.int .i64 i,T,d,.int .i64 k,.ptr 2 0,.int .i64 many,.int .i64 1]∧HpIs r a∧∀(_:Nat),br ((many:Int) != (↑(List.length (c.seats.map stc)):Int)) (R .ret b a) (R .normal b a))∧(plM c_5≠[]→∃(l:List Ac) (w:List Mt) (m:Int) (c:Mt) (X:Heap) (T:PV) (i:Nat) (k:Nat) (many:Nat),by refine(?_:_→_→Prop) ([.abs (rkM (rowsM w) m),.cells [.ptr 0 0],.cells [.int .u32 c.id,.int .i64 c.md,.int .u32 c.ins,.list (c.rows.map rrc) .no,.list (c.seats.map stc) .no]]++X) (PV.list (List.map u1 (w.map Mt.id)) .no); exact fun f h=>by refine(?_:_→Prop) [PV.list (l.map acC) .no,.ptr 1 0,.list [] .exact,.int .i64 i,T,h,.int .i64 k]; exact fun g=>Mt.Ok c∧SlIs [q,.ptr 1 0,.list [] .exact,.int .i64 i_1,.list (List.map u1 (plM c_5)) (.tok 3),n,.int .i64 k_5,.ptr 2 0,.int .i64 (↑(List.length (plM c_5)):Int),.int .i64 1] [.list (l.map acC) .no,.ptr 1 0,.list [] .exact,.int .i64 i,T,h,.int .i64 k,.ptr 2 0,.int .i64 many,.int .i64 1]∧HpIs [p,.cells [.ptr 0 0],j,.tok] f∧∀(_:Nat),br ((many:Int) != (↑(List.length (c.seats.map stc)):Int)) (R .ret g f) (R .normal g f)))) s) s)→Holds (wpc br Try.prog gl TRO [([1,1,0,1,0],on3A_l),([1,1,1,0,1,0],on5_l)] (fun o=>match o.dst with|some 53=>1|some 59=>1|some 65=>1|some 68=>1|_=>0) (atOf [1,1,1,1,0,1,0,0,1,0,0,1,1,1,1,0,0,1,0,0,1] (bodyOf Try.f4)) [] (envS [0,3,4,5,6,7,8,9,10] [v,.ptr 1 0,.list [] .exact,.int .i64 i,.list [] .exact,.list ((w.map Mt.id).map u1) .no,.int .i64 k,.ptr 2 0,.bool true]) [.abs (rkM (rowsM w) m),.cells [.ptr 0 0],.cells (mtc c)] (fun ex e H=>R ex (List.map e [0,3,4,5,6,7,8]) H)):Prop):=fun R h=>holds_of_eq (by kernel_rfl) h
theorem onRB_vc (l:List Ac) (w:List Mt) (m:Int) (c:Mt) (b:List Int) (i k:Nat):(by refine(?_:_→_→_→_→Prop) [PV.int .u32 c.id,.int .i64 c.md,.int .u32 c.ins,.list (c.rows.map rrc) .no,.list (c.seats.map stc) .no] (PV.list (b.map u1) (.tok 3)) (PV.list (l.map acC) .no) (PV.list (List.map u1 (w.map Mt.id)) .no); exact fun x z A B=>by refine(?_:_→_→_→Prop) [Ob.abs (rkM (rowsM w) m),.cells [.ptr 0 0],.cells x,.tok] [PV.agg x,.int .i64 1] [PV.agg x,.int .i64 2]; exact fun y C D=>∀(R:Ex→List PV→Heap→Prop),by refine(?_:_→Prop) (R .ret [A,.ptr 1 0,.list [] .exact,.int .i64 i,z,B,.int .i64 k] y); exact fun v=>(∃(c_1:Mt) (t1:Tail) (t2:Tail) (k_1:Int),SlIs C [.agg [.int .u32 c_1.id,.int .i64 c_1.md,.int .u32 c_1.ins,.list (c_1.rows.map rrc) t1,.list (c_1.seats.map stc) t2],.int .i64 k_1]∧c_1.seats.length≤1000000∧br (decide ((↑(List.length (List.map u1 (teamS c_1.seats k_1))):Int)>4) == false) (∃(c_2:Mt) (t1:Tail) (t2:Tail) (k_2:Int),SlIs D [.agg [.int .u32 c_2.id,.int .i64 c_2.md,.int .u32 c_2.ins,.list (c_2.rows.map rrc) t1,.list (c_2.seats.map stc) t2],.int .i64 k_2]∧c_2.seats.length≤1000000∧br (decide ((↑(List.length (List.map u1 (teamS c_2.seats k_2))):Int)>4) == false) (∃(c_3:Mt) (t1:Tail) (t2:Tail) (k_3:Int),SlIs C [.agg [.int .u32 c_3.id,.int .i64 c_3.md,.int .u32 c_3.ins,.list (c_3.rows.map rrc) t1,.list (c_3.seats.map stc) t2],.int .i64 k_3]∧c_3.seats.length≤1000000∧∃(c_4:Mt) (t1:Tail) (t2:Tail) (k_4:Int),SlIs D [.agg [.int .u32 c_4.id,.int .i64 c_4.md,.int .u32 c_4.ins,.list (c_4.rows.map rrc) t1,.list (c_4.seats.map stc) t2],.int .i64 k_4]∧c_4.seats.length≤1000000∧br (wI ((↑(List.length (List.map u1 (teamS c_3.seats k_3))):Int)+(↑(List.length (List.map u1 (teamS c_4.seats k_4))):Int)) != (↑(List.length (c.seats.map stc)):Int)) v (∃(l_1:List Ac) (w_1:List Mt) (m_1:Int) (c_5:Mt) (b_1:List Int) (i_1:Nat) (k_5:Nat),by refine(?_:_→_→_→_→_→_→Prop) (Ob.cells [.int .u32 c_5.id,.int .i64 c_5.md,.int .u32 c_5.ins,.list (c_5.rows.map rrc) .no,.list (c_5.seats.map stc) .no]) (PV.list (List.map u1 (w_1.map Mt.id)) .no) (PV.list (l_1.map acC) .no) (PV.int .i64 (↑(List.length (plM c_5)):Int)) (List.map u1 (b_1++plM c_5)) (rkM (rowsM w_1) m_1); exact fun n p r s t u=>by refine(?_:_→Prop) [Ob.abs u,.cells [.ptr 0 0],n,.tok]; exact fun q=>MO w_1 m_1∧c_5∈w_1∧List.Pairwise (fun(x1 x2:Int)=>x1≠x2) (b_1++plM c_5)∧b_1.length≤100000∧SlIs [A,.ptr 1 0,.list [] .exact,.int .i64 i,z,B,.int .i64 k,.ptr 2 0,.int .i64 0,.int .i64 0] [r,.ptr 1 0,.list [] .exact,.int .i64 i_1,.list (b_1.map u1) (.tok 3),p,.int .i64 k_5,.ptr 2 0,.int .i64 0,.int .i64 0]∧HpIs y q∧(∃(l:List Ac) (w:List Mt) (m:Int) (c:Mt) (X:Heap) (T:PV) (i:Nat) (k:Nat) (many:Nat),by refine(?_:_→_→Prop) ([.abs (rkM (rowsM w) m),.cells [.ptr 0 0],.cells [.int .u32 c.id,.int .i64 c.md,.int .u32 c.ins,.list (c.rows.map rrc) .no,.list (c.seats.map stc) .no]]++X) (PV.list (List.map u1 (w.map Mt.id)) .no); exact fun a f=>by refine(?_:_→Prop) [PV.list (l.map acC) .no,.ptr 1 0,.list [] .exact,.int .i64 i,T,f,.int .i64 k]; exact fun d=>Mt.Ok c∧SlIs [r,.ptr 1 0,.list [] .exact,.int .i64 i_1,.list t (.tok 3),p,.int .i64 k_5,.ptr 2 0,s,.int .i64 1] [.list (l.map acC) .no,.ptr 1 0,.list [] .exact,.int .i64 i,T,f,.int .i64 k,.ptr 2 0,.int .i64 many,.int .i64 1]∧HpIs q a∧∀(_:Nat),br ((many:Int) != (↑(List.length (c.seats.map stc)):Int)) (R .ret d a) (R .normal d a))∧∃(l:List Ac) (w:List Mt) (m:Int) (c:Mt) (X:Heap) (T:PV) (i:Nat) (k:Nat) (many:Nat),by refine(?_:_→_→Prop) ([.abs (rkM (rowsM w) m),.cells [.ptr 0 0],.cells [.int .u32 c.id,.int .i64 c.md,.int .u32 c.ins,.list (c.rows.map rrc) .no,.list (c.seats.map stc) .no]]++X) (PV.list (List.map u1 (w.map Mt.id)) .no); exact fun g j=>by refine(?_:_→Prop) [PV.list (l.map acC) .no,.ptr 1 0,.list [] .exact,.int .i64 i,T,j,.int .i64 k]; exact fun h=>Mt.Ok c∧SlIs [r,.ptr 1 0,.list [] .exact,.int .i64 i_1,.list t (.tok 4),p,.int .i64 k_5,.ptr 2 0,s,.int .i64 1] [.list (l.map acC) .no,.ptr 1 0,.list [] .exact,.int .i64 i,T,j,.int .i64 k,.ptr 2 0,.int .i64 many,.int .i64 1]∧HpIs [.abs u,.cells [.ptr 0 0],n,.dead,.tok] g∧∀(_:Nat),br ((many:Int) != (↑(List.length (c.seats.map stc)):Int)) (R .ret h g) (R .normal h g))) v) v)→Holds (wpc br Try.prog gl TRO [([1,1,0,1,0],on3B_l),([1,1,1,0,1,0],on5_l)] (fun o=>match o.dst with|some 53=>1|some 59=>1|some 65=>1|some 68=>1|_=>0) (atOf [1,1,1,1,0,1,0,0,1,0,0,1,1,1,1,0,0,1,0,0,1] (bodyOf Try.f4)) [] (envS [0,3,4,5,6,7,8,9,10] [A,.ptr 1 0,.list [] .exact,.int .i64 i,z,.list ((w.map Mt.id).map u1) .no,.int .i64 k,.ptr 2 0,.bool true]) [.abs (rkM (rowsM w) m),.cells [.ptr 0 0],.cells (mtc c),.tok] (fun ex e H=>R ex (List.map e [0,3,4,5,6,7,8]) H)):Prop):=fun R h=>holds_of_eq (by kernel_rfl) h
theorem lowB2o {w:List Mt} {m:Int}:LowB [.abs (rkM (rowsM w) m),.cells [.ptr 0 0]]:=by
 intro o cs ho
 have k1:=(List.getElem?_eq_some_iff.1 ho).1
 simp at k1
 have:o=0∨o=1:=by omega
 rcases this with rfl|rfl<;>cases ho
 intro x hx
 rcases List.mem_singleton.1 hx with rfl
 exact .inr ⟨0,0,by simp,rfl⟩
def onRA_l:LSp:=fun e H Q=>∃(l:List Ac) (w:List Mt) (m:Int) (c:Mt) (i k:Nat),MO w m∧c∈w∧SlIs (List.map e [0,3,4,5,6,7,8,9,10]) [.list (l.map acC) .no,.ptr 1 0,.list [] .exact,.int .i64 i,.list [] .exact,.list ((w.map Mt.id).map u1) .no,.int .i64 k,.ptr 2 0,.bool true]∧HpIs H [.abs (rkM (rowsM w) m),.cells [.ptr 0 0],.cells (mtc c)]∧(plM c=[]→Q .normal (envS [0,3,4,5,6,7,8] [.list (l.map acC) .no,.ptr 1 0,.list [] .exact,.int .i64 i,.list [] .exact,.list ((w.map Mt.id).map u1) .no,.int .i64 k]) [.abs (rkM (rowsM w) m),.cells [.ptr 0 0],.cells (mtc c)])∧(plM c≠[]→Q .normal (envS [0,3,4,5,6,7,8] [.list (l.map acC) .no,.ptr 1 0,.list [] .exact,.int .i64 i,.list ((plM c).map u1) (.tok 3),.list ((w.map Mt.id).map u1) .no,.int .i64 k]) ([.abs (rkM (rowsM w) m),.cells [.ptr 0 0],.cells (mtc c)]++[.tok]))
theorem onRA_l_ok:∀ e H Q,onRA_l e H Q→AW Try.prog gl Try.f4.ntmps (atOf [1,1,1,1,0,1,0,0,1,0,0,1,1,1,1,0,0,1,0,0,1] (bodyOf Try.f4)) Q e H:=by
 rintro e H Q ⟨l,w,m,c,i,k,ro,hc,he,hH,hQ0,hQ1⟩
 have ok:=ro.cs c hc
 obtain⟨t1,t2,t3⟩:=team_fit ok
 have e3:=seats_tot ok
 rw[← pl_len] at e3
 refine aw_piece (T:=TRO) (slots:=[0,3,4,5,6,7,8,9,10]) (outs:=[0,3,4,5,6,7,8]) (hn:=fun o=>match o.dst with|some 53=>1|some 59=>1|some 65=>1|some 68=>1|_=>0) TRO_ok (.cons (sub_of (by kernel_rfl)) on3A_l_ok2 (.cons (sub_of (by kernel_rfl)) on5_l_ok2 (.nil _ _ _ _ _))) he hH (onRA_vc l w m c i k (fun ex vs H'=>Q ex (envS [0,3,4,5,6,7,8] vs) H') ?_)
 simp only[br_if,List.length_map]
 refine⟨c,.no,.no,1,rfl,ok.sm.seats,?_⟩
 rw[if_pos (by simp; omega)]
 refine⟨c,.no,.no,2,rfl,ok.sm.seats,?_⟩
 rw[if_pos (by simp; omega)]
 refine⟨c,.no,.no,1,rfl,ok.sm.seats,c,.no,.no,2,rfl,ok.sm.seats,?_⟩
 rw[if_neg (by rw[w_small (by omega) (by omega),← t3]; simp)]
 refine⟨l,w,m,c,i,k,ro,hc,rfl,rfl,fun h0=>?_,fun h0=>?_⟩
 ·refine⟨l,w,m,c,[],.list [] .exact,i,k,0,ok,rfl,rfl,fun _=>?_⟩
  rw[if_neg (by rw[e3,h0]; decide)]
  exact hQ0 h0
 ·refine⟨l,w,m,c,[.tok],_,i,k,(plM c).length,ok,rfl,rfl,fun _=>?_⟩
  rw[if_neg (by rw[e3]; simp)]
  exact hQ1 h0
theorem renV_o2 {l:List Ac} {i:Int} {w:List Mt} {k:Int}:RenV 2 (fun T=>[.list (l.map acC) .no,.ptr 1 0,.list [] .exact,.int .i64 i,T,.list ((w.map Mt.id).map u1) .no,.int .i64 k]):=by
 intro ρ n k' es h1 h2 h3 h4
 have e1:=Ren.ptr (ρ:=ρ) (n:=n) 1 0 (by omega)
 rw[h1 1 (by decide)] at e1
 exact .cons (.low (low_acs _)) (.cons e1 (.cons (.low lowNil) (.cons (.low (.int _ _)) (.cons (.ltok es k' h3 h4) (.cons (.low (low_rows low_u1 _)) (.cons (.low (.int _ _)) .nil))))))
theorem onRB_in {l:List Ac} {w:List Mt} {m:Int} {c:Mt} {b:List Int} {i k:Nat} (ro:MO w m) (hc:c∈w) (nd:(b++plM c).Nodup) (hbl:b.length≤100000) {Q:Ex→Env→Heap→Prop}
  (hQ0:Q .normal (envS [0,3,4,5,6,7,8] [.list (l.map acC) .no,.ptr 1 0,.list [] .exact,.int .i64 i,.list ((b++plM c).map u1) (.tok 3),.list ((w.map Mt.id).map u1) .no,.int .i64 k]) ([.abs (rkM (rowsM w) m),.cells [.ptr 0 0],.cells (mtc c)]++[.tok])) (hQ1:Q .normal (envS [0,3,4,5,6,7,8] [.list (l.map acC) .no,.ptr 1 0,.list [] .exact,.int .i64 i,.list ((b++plM c).map u1) (.tok 4),.list ((w.map Mt.id).map u1) .no,.int .i64 k]) ([.abs (rkM (rowsM w) m),.cells [.ptr 0 0],.cells (mtc c)]++[.dead,.tok])):AW Try.prog gl Try.f4.ntmps (atOf [1,1,1,1,0,1,0,0,1,0,0,1,1,1,1,0,0,1,0,0,1] (bodyOf Try.f4)) Q (envS [0,3,4,5,6,7,8,9,10] [.list (l.map acC) .no,.ptr 1 0,.list [] .exact,.int .i64 i,.list (b.map u1) (.tok 3),.list ((w.map Mt.id).map u1) .no,.int .i64 k,.ptr 2 0,.bool true]) ([.abs (rkM (rowsM w) m),.cells [.ptr 0 0],.cells (mtc c)]++[.tok]):=by
 have ok:=ro.cs c hc
 obtain⟨t1,t2,t3⟩:=team_fit ok
 have e3:=seats_tot ok
 rw[← pl_len] at e3
 refine aw_piece (T:=TRO) (slots:=[0,3,4,5,6,7,8,9,10]) (vals:=[.list (l.map acC) .no,.ptr 1 0,.list [] .exact,.int .i64 i,.list (b.map u1) (.tok 3),.list ((w.map Mt.id).map u1) .no,.int .i64 k,.ptr 2 0,.bool true]) (outs:=[0,3,4,5,6,7,8]) (hn:=fun o=>match o.dst with|some 53=>1|some 59=>1|some 65=>1|some 68=>1|_=>0) TRO_ok (.cons (sub_of (by kernel_rfl)) on3B_l_ok2 (.cons (sub_of (by kernel_rfl)) on5_l_ok2 (.nil _ _ _ _ _))) rfl rfl (onRB_vc l w m c b i k (fun ex vs H'=>Q ex (envS [0,3,4,5,6,7,8] vs) H') ?_)
 simp only[br_if,List.length_map]
 refine⟨c,.no,.no,1,rfl,ok.sm.seats,?_⟩
 rw[if_pos (by simp; omega)]
 refine⟨c,.no,.no,2,rfl,ok.sm.seats,?_⟩
 rw[if_pos (by simp; omega)]
 refine⟨c,.no,.no,1,rfl,ok.sm.seats,c,.no,.no,2,rfl,ok.sm.seats,?_⟩
 rw[if_neg (by rw[w_small (by omega) (by omega),← t3]; simp)]
 refine⟨l,w,m,c,b,i,k,ro,hc,nd,hbl,rfl,rfl,?_,?_⟩
 ·refine⟨l,w,m,c,[.tok],_,i,k,(plM c).length,ok,rfl,rfl,fun _=>?_⟩
  rw[if_neg (by rw[e3]; simp)]
  exact hQ0
 ·refine⟨l,w,m,c,[.dead,.tok],_,i,k,(plM c).length,ok,rfl,rfl,fun _=>?_⟩
  rw[if_neg (by rw[e3]; simp)]
  exact hQ1
def onRB_l:LSp:=fun e H Q=>∃(l:List Ac) (w:List Mt) (m:Int) (c:Mt) (b:List Int) (i k:Nat),MO w m∧c∈w∧(b++plM c).Nodup∧b.length≤100000∧SlIs (List.map e [0,3,4,5,6,7,8,9,10]) [.list (l.map acC) .no,.ptr 1 0,.list [] .exact,.int .i64 i,.list (b.map u1) (.tok 2),.list ((w.map Mt.id).map u1) .no,.int .i64 k,.ptr 3 0,.bool true]∧HpIs H [.abs (rkM (rowsM w) m),.cells [.ptr 0 0],.tok,.cells (mtc c)]∧Q .normal (envS [0,3,4,5,6,7,8] [.list (l.map acC) .no,.ptr 1 0,.list [] .exact,.int .i64 i,.list ((b++plM c).map u1) (.tok 2),.list ((w.map Mt.id).map u1) .no,.int .i64 k]) [.abs (rkM (rowsM w) m),.cells [.ptr 0 0],.tok,.cells (mtc c)]∧Q .normal (envS [0,3,4,5,6,7,8] [.list (l.map acC) .no,.ptr 1 0,.list [] .exact,.int .i64 i,.list ((b++plM c).map u1) (.tok 4),.list ((w.map Mt.id).map u1) .no,.int .i64 k]) [.abs (rkM (rowsM w) m),.cells [.ptr 0 0],.dead,.cells (mtc c),.tok]
set_option maxRecDepth 10000 in
theorem onRB_l_ok:∀ e H Q,onRB_l e H Q→AW Try.prog gl Try.f4.ntmps (atOf [1,1,1,1,0,1,0,0,1,0,0,1,1,1,1,0,0,1,0,0,1] (bodyOf Try.f4)) Q e H:=by
 rintro e H Q ⟨l,w,m,c,b,i,k,ro,hc,nd,hbl,he,hH,hQ0,hQ1⟩
 have hH:H=[.abs (rkM (rowsM w) m),.cells [.ptr 0 0]]++[.tok,.cells (mtc c)]:=hH
 have he:List.map e [0,3,4,5,6,7,8,9,10]=_:=he
 subst hH
 have lo:∀(q:List Int),∀ x∈(q.map u1).flatten,Low 0 x:=fun q=>low_map fun a _=>low_u1 a
 have r1:=Ren.ptr (ρ:=ρsw 2) (n:=4) 1 0 (by omega)
 have r2:=Ren.ptr (ρ:=ρsw 2) (n:=4) 2 0 (by omega)
 have r3:=Ren.ltok (ρ:=ρsw 2) (n:=4) (b.map u1) 3 (by omega) (lo b)
 refine AW.swap gl_low (outs:=[0,3,4,5,6,7,8]) (vals0:=[.list (l.map acC) .no,.ptr 1 0,.list [] .exact,.int .i64 i,.list (b.map u1) (.tok 3),.list ((w.map Mt.id).map u1) .no,.int .i64 k,.ptr 2 0,.bool true]) (V:=fun T=>[.list (l.map acC) .no,.ptr 1 0,.list [] .exact,.int .i64 i,T,.list ((w.map Mt.id).map u1) .no,.int .i64 k]) lowB2o (low_mtc c) he (.cons (.low (low_acs _)) (.cons r1 (.cons (.low lowNil) (.cons (.low (.int _ _)) (.cons r3 (.cons (.low (low_rows low_u1 _)) (.cons (.low (.int _ _)) (.cons r2 (.cons (.low (.bool _)) .nil))))))))) renV_o2 ?_
 exact onRB_in ro hc nd hbl ⟨(b++plM c).map u1,lo _,.inl ⟨rfl,rfl,hQ0⟩⟩ ⟨(b++plM c).map u1,lo _,.inr ⟨rfl,rfl,hQ1⟩⟩
end Go.Proofs.Ytenaelaapdhbdaa
