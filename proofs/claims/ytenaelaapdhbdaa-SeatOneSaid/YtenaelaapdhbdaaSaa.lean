/-
  The document's Set, Lose, Same.
-/
import Derived.Test.YtenaelaapdhbdaaSz
import Derived.Test.YtenaelaapdhbdaaA4
import Derived.Test.YtenaelaapdhbdaaProg
namespace Go.Proofs.Ytenaelaapdhbdaa
open Go Go.AM Go.Proofs
theorem rst1_vc (w:List Mt) (p st un no:Int):(by refine(?_:_→Prop) (PV.list (w.map mtc) .no); exact fun b=>∀(K:PV→Prop),by refine(?_:_→Prop) (K (.tup [b,.int .i64 2])); exact fun a=>(∃(w_1:List Mt) (tl:Tail) (t:Int),SlIs [b,.int .u32 p] [.list (w_1.map mtc) tl,.int .u32 t]∧SmM w_1∧∃(w_2:List Mt) (tl:Tail) (t_1:Int),SlIs [b,.int .u32 (ofM w_1 t)] [.list (w_2.map mtc) tl,.int .u32 t_1]∧w_2.length≤1000000∧br (!hasG Mt.id w_2 t_1) (K (.tup [b,.int .i64 12])) (br (decide (st<1) == false) (br (decide (st>3)) a (∃(w_3:List Mt) (p_1:Int) (st_1:Int) (un_1:Int) (no_1:Int) (c:Mt),c.seats.length≤1000000∧SlIs [b,.int .u32 p,.int .i64 st,.int .i64 un,.int .u64 no,.ptr 0 0,.list [] .exact,.int .i64 0] [.list (w_3.map mtc) .no,.int .u32 p_1,.int .i64 st_1,.int .i64 un_1,.int .u64 no_1,.ptr 0 0,.list [] .exact,.int .i64 0]∧HpIs [.cells [.int .u32 (Mt.id (gM w_2 t_1)),.int .i64 (Mt.md (gM w_2 t_1)),.int .u32 (Mt.ins (gM w_2 t_1)),.list (List.map rrc (Mt.rows (gM w_2 t_1))) .no,.list (List.map stc (Mt.seats (gM w_2 t_1))) .no]] [.cells [.int .u32 c.id,.int .i64 c.md,.int .u32 c.ins,.list (c.rows.map rrc) .no,.list (c.seats.map stc) .no]]∧∃(w:List Mt) (tl:Tail) (t1:Tail) (t2:Tail) (c_1:Mt),SlIs [.list (w_3.map mtc) .no,.agg [.int .u32 c.id,.int .i64 c.md,.int .u32 c.ins,.list (c.rows.map rrc) .no,.list (List.map stc (List.map (upS p_1 st_1 un_1 no_1) c.seats)) .no]] [.list (w.map mtc) tl,.agg [.int .u32 c_1.id,.int .i64 c_1.md,.int .u32 c_1.ins,.list (c_1.rows.map rrc) t1,.list (c_1.seats.map stc) t2]]∧Rise Mt.id w∧w.length≤100000∧K (.tup [.list (List.map mtc (putG Mt.id w c_1)) .no,.int .i64 0]))) a))→ACalls Try.prog gl 33 [b,.int .u32 p,.int .i64 st,.int .i64 un,.int .u64 no] [] (fun x _=>K x):Prop):=fun K h=>acalls_of_wpc2 (T:=TRL) (L:=[([1,1,1,1,1,0,1,0],st_l)]) (fun _=>0) Try.func33 (by kernel_rfl) (by kernel_rfl) (by kernel_rfl) (TRL_ok) (.cons (sub_of (by kernel_rfl)) st_l_ok (.nil _ _ _ _ _)) (holds_of_eq (by kernel_rfl) h)
theorem rls1_vc (w:List Mt) (p:Int):(by refine(?_:_→Prop) (PV.list (w.map mtc) .no); exact fun d=>∀(K:PV→Prop),(∃(w_1:List Mt) (tl:Tail) (t:Int),SlIs [d,.int .u32 p] [.list (w_1.map mtc) tl,.int .u32 t]∧SmM w_1∧∃(w_2:List Mt) (tl:Tail) (t_1:Int),SlIs [d,.int .u32 (ofM w_1 t)] [.list (w_2.map mtc) tl,.int .u32 t_1]∧w_2.length≤1000000∧br (!hasG Mt.id w_2 t_1) (K (.tup [d,.int .u32 0,.int .i64 0,.int .i64 12])) (∃(w_3:List Mt) (p_1:Int) (c:Mt),by refine(?_:_→_→Prop) (Ob.cells [.int .u32 c.id,.int .i64 c.md,.int .u32 c.ins,.list (c.rows.map rrc) .no,.list (c.seats.map stc) .no]) (PV.list (w_3.map mtc) .no); exact fun a b=>c.seats.length≤1000000∧SlIs [d,.int .u32 p,.ptr 0 0,.list [] .exact,.int .i64 0] [b,.int .u32 p_1,.ptr 0 0,.list [] .exact,.int .i64 0]∧HpIs [.cells [.int .u32 (Mt.id (gM w_2 t_1)),.int .i64 (Mt.md (gM w_2 t_1)),.int .u32 (Mt.ins (gM w_2 t_1)),.list (List.map rrc (Mt.rows (gM w_2 t_1))) .no,.list (List.map stc (Mt.seats (gM w_2 t_1))) .no]] [a]∧∃(w:List Mt) (p:Int) (c_1:Mt) (k:List Se),(c_1.rows.length≤1000000∧∀(r:Rr),r∈c_1.rows→r.pl.length≤1000000)∧SlIs [b,.int .u32 p_1,.ptr 0 0,.list (List.map stc (List.filter (fun(s:Se)=> !isP p_1 s) c.seats)) .no,.list [] .exact,.int .i64 0] [.list (w.map mtc) .no,.int .u32 p,.ptr 0 0,.list (k.map stc) .no,.list [] .exact,.int .i64 0]∧HpIs [a,.dead] [.cells [.int .u32 c_1.id,.int .i64 c_1.md,.int .u32 c_1.ins,.list (c_1.rows.map rrc) .no,.list (c_1.seats.map stc) .no],.dead]∧∃(w_4:List Mt) (tl:Tail) (t1:Tail) (t2:Tail) (c:Mt),SlIs [.list (w.map mtc) .no,.agg [.int .u32 c_1.id,.int .i64 c_1.md,.int .u32 c_1.ins,.list (List.map rrc (keepR (List.map (fun(r:Rr)=>lessR r p) c_1.rows))) .no,.list (k.map stc) .no]] [.list (w_4.map mtc) tl,.agg [.int .u32 c.id,.int .i64 c.md,.int .u32 c.ins,.list (c.rows.map rrc) t1,.list (c.seats.map stc) t2]]∧Rise Mt.id w_4∧w_4.length≤100000∧K (.tup [.list (List.map mtc (putG Mt.id w_4 c)) .no,.int .u32 c_1.id,.int .i64 (↑(List.length (k.map stc)):Int),.int .i64 0])))→ACalls Try.prog gl 34 [d,.int .u32 p] [] (fun x _=>K x):Prop):=fun K h=>acalls_of_wpc2 (T:=TRL) (L:=[([1,1,1,1,0,1,0],ls1_l),([1,1,1,1,1,1,0,1,0],ls2_l)]) (fun _=>0) Try.func34 (by kernel_rfl) (by kernel_rfl) (by kernel_rfl) (TRL_ok) (.cons (sub_of (by kernel_rfl)) ls1_l_ok (.cons (sub_of (by kernel_rfl)) ls2_l_ok (.nil _ _ _ _ _))) (holds_of_eq (by kernel_rfl) h)
theorem map_up {p st un no:Int}:∀(l:List Se),(l.map Se.pl).Nodup→l.map (upS p st un no)=l.set (l.findIdx (isP p)) (putSt (l.getD (l.findIdx (isP p)) default) st un no)
 | [],_=>rfl
 | a::l,h=>by
  rw[List.map_cons,List.nodup_cons] at h
  rw[List.map_cons,List.findIdx_cons]
  by_cases c:isP p a=true
  ·have e:a.pl=p:=eq_of_beq c
   have e2:l.map (upS p st un no)=l:=by
    conv=>rhs; rw[← List.map_id l]
    refine List.map_congr_left fun x hx=>?_
    have:x.pl≠p:=fun k=>h.1 (by rw[e,← k]; exact List.mem_map_of_mem hx)
    unfold upS; rw[if_neg (by simpa using this)]; rfl
   have e3:upS p st un no a=putSt a st un no:=by unfold upS; rw[if_pos (by rw[e]; exact beq_self_eq_true _)]; rfl
   rw[c,e2,e3]; rfl
  ·have e:a.pl≠p:=fun k=>c (by unfold isP; rw[k]; exact beq_self_eq_true _)
   have e3:upS p st un no a=a:=by unfold upS; rw[if_neg (by simpa using e)]
   rw[show isP p a=false by simpa using c,e3,map_up l h.2]; rfl
def rset_s (args:List PV) (K:PV→Prop):Prop:=∃(w:List Mt) (m p st un no:Int) (t0:Tail),SlIs args [.list (w.map mtc) t0,.int .u32 p,.int .i64 st,.int .i64 un,.int .u64 no]∧MO w m∧m≤100000∧
 K (.tup [.list ((setMt w p st un no).1.map mtc) .no,.int .i64 (setMt w p st un no).2])
theorem rset_ok:SpOk Try.prog gl 33 (.pure rset_s):=by
 rintro args K ⟨w,m,p,st,un,no,t0,he,ro,hm,hk⟩
 have he:args=_:=he
 subst he
 have hsm:=ro.smM hm
 refine spure_w gl_low (.cons (.list _ _) (.cons (.refl _) (.cons (.refl _) (.cons (.refl _) (.cons (.refl _) .nil))))) (low_five (low_mts w) (.int _ _) (.int _ _) (.int _ _) (.int _ _)) low_wi (rst1_vc w p st un no (fun x=>x=_) ⟨w,.no,p,rfl,hsm,w,.no,ofM w p,rfl,ro.len,?_⟩) hk
 obtain⟨z,hz⟩:∃ z,z=setMt w p st un no:=⟨_,rfl⟩
 rw[← hz]
 unfold setMt at hz
 simp only[br_if]
 by_cases c0:hasG Mt.id w (ofM w p)=true
 ·rw[if_neg (show ¬ hasG Mt.id w (ofM w p)=false by rw[c0]; decide)] at hz
  rw[if_neg (show ¬ (!hasG Mt.id w (ofM w p))=true by rw[c0]; decide)]
  by_cases c1:st<1
  ·rw[if_pos (.inl c1)] at hz
   rw[if_neg (show ¬ (decide (st<1) == false)=true by rw[decide_eq_true c1]; decide),hz]
  ·rw[if_pos (show(decide (st<1) == false)=true by rw[decide_eq_false c1]; rfl)]
   by_cases c2:st>3
   ·rw[if_pos (.inr c2)] at hz
    rw[if_pos (decide_eq_true c2),hz]
   ·rw[if_neg (fun e=>by rcases e with e|e; exact c1 e; exact c2 e)] at hz
    rw[if_neg (show ¬ decide (st>3)=true by rw[decide_eq_false c2]; decide)]
    have hok:=ro.gmok c0
    refine⟨w,p,st,un,no,gM w (ofM w p),hok.sm.seats,rfl,rfl,w,.no,.no,.no,setSt (gM w (ofM w p)) p st un no,?_,ro.rise,hsm.len,by rw[hz]⟩
    rw[map_up _ hok.nd]; rfl
 ·rw[if_pos (show hasG Mt.id w (ofM w p)=false by simpa using c0)] at hz
  rw[if_pos (show(!hasG Mt.id w (ofM w p))=true by simpa using c0),hz]
def rlose_s (args:List PV) (K:PV→Prop):Prop:=∃(w:List Mt) (m p:Int) (t0:Tail),SlIs args [.list (w.map mtc) t0,.int .u32 p]∧MO w m∧m≤100000∧
 K (.tup [.list ((loseM w p).1.map mtc) .no,.int .u32 (loseM w p).2.1,.int .i64 (loseM w p).2.2.1,.int .i64 (loseM w p).2.2.2])
theorem rlose_ok:SpOk Try.prog gl 34 (.pure rlose_s):=by
 rintro args K ⟨w,m,p,t0,he,ro,hm,hk⟩
 have he:args=_:=he
 subst he
 have hsm:=ro.smM hm
 refine spure_w gl_low (.cons (.list _ _) (.cons (.refl _) .nil)) (low_two (low_mts w) (.int _ _)) (.tup _ (low_four (low_mts _) (.int _ _) (.int _ _) (.int _ _))) (rls1_vc w p (fun x=>x=_) ⟨w,.no,p,rfl,hsm,w,.no,ofM w p,rfl,ro.len,?_⟩) hk
 obtain⟨z,hz⟩:∃ z,z=loseM w p:=⟨_,rfl⟩
 rw[← hz]
 unfold loseM at hz
 simp only[br_if]
 by_cases c0:hasG Mt.id w (ofM w p)=true
 ·rw[if_neg (show ¬ hasG Mt.id w (ofM w p)=false by rw[c0]; decide)] at hz
  rw[if_neg (show ¬ (!hasG Mt.id w (ofM w p))=true by rw[c0]; decide)]
  have hok:=ro.gmok c0
  refine⟨w,p,gM w (ofM w p),hok.sm.seats,rfl,rfl,w,p,gM w (ofM w p),_,⟨hok.sm.rows,hok.sm.pl⟩,rfl,rfl,w,.no,.no,.no,loseC (gM w (ofM w p)) p,rfl,ro.rise,hsm.len,?_⟩
  rw[List.length_map,hz]; rfl
 ·rw[if_pos (show hasG Mt.id w (ofM w p)=false by simpa using c0)] at hz
  rw[if_pos (show(!hasG Mt.id w (ofM w p))=true by simpa using c0),hz]
def TSM:Tab:=[(9,.pure same_s)]
theorem TSM_ok:TabOk Try.prog gl TSM:= .cons same_ok (.nil _ _)
def hn6 (a b:Nat):Oper→Nat:=fun o=>match o.dst with|some 54=>1301|some 59=>101301|some 57=>900|some 62=>900|some _=>0|none=>(match o.op with| .store _ (.tmp 6) _=>a| .store _ (.tmp 7) _=>b|_=>0)
def hnO (is:List Nat):Oper→Nat:=match Nat.blt (is.idxOf 10) (is.idxOf 11) with|true=>hn6 201004 301004|false=>hn6 301004 201004
theorem sm6a_vc (c:Mt) (i:Nat):(by refine(?_:_→_→_→Prop) (List.getD (c.rows.map rrc) (Int.toNat (i:Int)) []) (Ob.cells [.int .u32 c.id,.int .i64 c.md,.int .u32 c.ins,.list (c.rows.map rrc) .no,.list (c.seats.map stc) .no]) (opsOf (atOf [1,1,0,1,0,0,1,0,0,0] (bodyOf Try.f15))); exact fun a b f=>by refine(?_:_→_→Prop) (Ob.cells [.int .i64 (cI a 0),.list (cL a 1) (cT a 1),.int .i64 (cI a 2),.int .i64 (cI a 3)]) (true && fitX [.int .i64,.list,.int .i64,.int .i64] 0 a); exact fun d g=>∀(R:List PV→Heap→Prop),(InL (c.rows.map rrc) 4 (i:Int)∧br g (InL (c.rows.map rrc) 4 (i:Int)∧br g (R [.ptr 0 0,.ptr 1 0,.int .i64 i,.ptr 2 0,.ptr 3 0] [b,b,d,d]) False) False)→Holds (regc br Try.prog gl [] (hnO [0,1,2,3,4,5,6,7,8,9,10,11,12,13]) true f (inOrder f [0,1,2,3,4,5,6,7,8,9,10,11,12,13]) (envS [2,3,5] [.ptr 0 0,.ptr 1 0,.int .i64 i]) [.cells (mtc c),.cells (mtc c)] (fun e H=>R (List.map e [2,3,5,6,7]) H)):Prop):=fun R h=>holds_of_eq (by kernel_rfl) h
theorem sm6b_vc (c:Mt) (i:Nat):(by refine(?_:_→_→_→Prop) (List.getD (c.rows.map rrc) (Int.toNat (i:Int)) []) (Ob.cells [.int .u32 c.id,.int .i64 c.md,.int .u32 c.ins,.list (c.rows.map rrc) .no,.list (c.seats.map stc) .no]) (opsOf (atOf [1,1,0,1,0,0,1,0,0,0] (bodyOf Try.f15))); exact fun a b f=>by refine(?_:_→_→Prop) (Ob.cells [.int .i64 (cI a 0),.list (cL a 1) (cT a 1),.int .i64 (cI a 2),.int .i64 (cI a 3)]) (true && fitX [.int .i64,.list,.int .i64,.int .i64] 0 a); exact fun d g=>∀(R:List PV→Heap→Prop),(InL (c.rows.map rrc) 4 (i:Int)∧br g (InL (c.rows.map rrc) 4 (i:Int)∧br g (R [.ptr 0 0,.ptr 1 0,.int .i64 i,.ptr 2 0,.ptr 3 0] [b,b,d,d]) False) False)→Holds (regc br Try.prog gl [] (hnO [0,1,2,3,4,5,6,7,8,9,10,11,13,12]) true f (inOrder f [0,1,2,3,4,5,6,7,8,9,10,11,13,12]) (envS [2,3,5] [.ptr 0 0,.ptr 1 0,.int .i64 i]) [.cells (mtc c),.cells (mtc c)] (fun e H=>R (List.map e [2,3,5,6,7]) H)):Prop):=fun R h=>holds_of_eq (by kernel_rfl) h
theorem sm6c_vc (c:Mt) (i:Nat):(by refine(?_:_→_→_→Prop) (List.getD (c.rows.map rrc) (Int.toNat (i:Int)) []) (Ob.cells [.int .u32 c.id,.int .i64 c.md,.int .u32 c.ins,.list (c.rows.map rrc) .no,.list (c.seats.map stc) .no]) (opsOf (atOf [1,1,0,1,0,0,1,0,0,0] (bodyOf Try.f15))); exact fun a b f=>by refine(?_:_→_→Prop) (Ob.cells [.int .i64 (cI a 0),.list (cL a 1) (cT a 1),.int .i64 (cI a 2),.int .i64 (cI a 3)]) (true && fitX [.int .i64,.list,.int .i64,.int .i64] 0 a); exact fun d g=>∀(R:List PV→Heap→Prop),(InL (c.rows.map rrc) 4 (i:Int)∧br g (InL (c.rows.map rrc) 4 (i:Int)∧br g (R [.ptr 0 0,.ptr 1 0,.int .i64 i,.ptr 2 0,.ptr 3 0] [b,b,d,d]) False) False)→Holds (regc br Try.prog gl [] (hnO [0,1,2,3,4,5,6,7,8,9,10,12,11,13]) true f (inOrder f [0,1,2,3,4,5,6,7,8,9,10,12,11,13]) (envS [2,3,5] [.ptr 0 0,.ptr 1 0,.int .i64 i]) [.cells (mtc c),.cells (mtc c)] (fun e H=>R (List.map e [2,3,5,6,7]) H)):Prop):=fun R h=>holds_of_eq (by kernel_rfl) h
theorem sm6d_vc (c:Mt) (i:Nat):(by refine(?_:_→_→_→Prop) (List.getD (c.rows.map rrc) (Int.toNat (i:Int)) []) (Ob.cells [.int .u32 c.id,.int .i64 c.md,.int .u32 c.ins,.list (c.rows.map rrc) .no,.list (c.seats.map stc) .no]) (opsOf (atOf [1,1,0,1,0,0,1,0,0,0] (bodyOf Try.f15))); exact fun a b f=>by refine(?_:_→_→Prop) (Ob.cells [.int .i64 (cI a 0),.list (cL a 1) (cT a 1),.int .i64 (cI a 2),.int .i64 (cI a 3)]) (true && fitX [.int .i64,.list,.int .i64,.int .i64] 0 a); exact fun d g=>∀(R:List PV→Heap→Prop),(InL (c.rows.map rrc) 4 (i:Int)∧br g (InL (c.rows.map rrc) 4 (i:Int)∧br g (R [.ptr 0 0,.ptr 1 0,.int .i64 i,.ptr 3 0,.ptr 2 0] [b,b,d,d]) False) False)→Holds (regc br Try.prog gl [] (hnO [0,1,2,3,4,5,6,7,8,9,11,10,12,13]) true f (inOrder f [0,1,2,3,4,5,6,7,8,9,11,10,12,13]) (envS [2,3,5] [.ptr 0 0,.ptr 1 0,.int .i64 i]) [.cells (mtc c),.cells (mtc c)] (fun e H=>R (List.map e [2,3,5,6,7]) H)):Prop):=fun R h=>holds_of_eq (by kernel_rfl) h
theorem sm6e_vc (c:Mt) (i:Nat):(by refine(?_:_→_→_→Prop) (List.getD (c.rows.map rrc) (Int.toNat (i:Int)) []) (Ob.cells [.int .u32 c.id,.int .i64 c.md,.int .u32 c.ins,.list (c.rows.map rrc) .no,.list (c.seats.map stc) .no]) (opsOf (atOf [1,1,0,1,0,0,1,0,0,0] (bodyOf Try.f15))); exact fun a b f=>by refine(?_:_→_→Prop) (Ob.cells [.int .i64 (cI a 0),.list (cL a 1) (cT a 1),.int .i64 (cI a 2),.int .i64 (cI a 3)]) (true && fitX [.int .i64,.list,.int .i64,.int .i64] 0 a); exact fun d g=>∀(R:List PV→Heap→Prop),(InL (c.rows.map rrc) 4 (i:Int)∧br g (InL (c.rows.map rrc) 4 (i:Int)∧br g (R [.ptr 0 0,.ptr 1 0,.int .i64 i,.ptr 3 0,.ptr 2 0] [b,b,d,d]) False) False)→Holds (regc br Try.prog gl [] (hnO [0,1,2,3,4,5,6,7,8,9,11,10,13,12]) true f (inOrder f [0,1,2,3,4,5,6,7,8,9,11,10,13,12]) (envS [2,3,5] [.ptr 0 0,.ptr 1 0,.int .i64 i]) [.cells (mtc c),.cells (mtc c)] (fun e H=>R (List.map e [2,3,5,6,7]) H)):Prop):=fun R h=>holds_of_eq (by kernel_rfl) h
theorem sm6f_vc (c:Mt) (i:Nat):(by refine(?_:_→_→_→Prop) (List.getD (c.rows.map rrc) (Int.toNat (i:Int)) []) (Ob.cells [.int .u32 c.id,.int .i64 c.md,.int .u32 c.ins,.list (c.rows.map rrc) .no,.list (c.seats.map stc) .no]) (opsOf (atOf [1,1,0,1,0,0,1,0,0,0] (bodyOf Try.f15))); exact fun a b f=>by refine(?_:_→_→Prop) (Ob.cells [.int .i64 (cI a 0),.list (cL a 1) (cT a 1),.int .i64 (cI a 2),.int .i64 (cI a 3)]) (true && fitX [.int .i64,.list,.int .i64,.int .i64] 0 a); exact fun d g=>∀(R:List PV→Heap→Prop),(InL (c.rows.map rrc) 4 (i:Int)∧br g (InL (c.rows.map rrc) 4 (i:Int)∧br g (R [.ptr 0 0,.ptr 1 0,.int .i64 i,.ptr 3 0,.ptr 2 0] [b,b,d,d]) False) False)→Holds (regc br Try.prog gl [] (hnO [0,1,2,3,4,5,6,7,8,9,11,13,10,12]) true f (inOrder f [0,1,2,3,4,5,6,7,8,9,11,13,10,12]) (envS [2,3,5] [.ptr 0 0,.ptr 1 0,.int .i64 i]) [.cells (mtc c),.cells (mtc c)] (fun e H=>R (List.map e [2,3,5,6,7]) H)):Prop):=fun R h=>holds_of_eq (by kernel_rfl) h
def sm6_l:LSp:=fun e H Q=>∃(c:Mt) (i:Nat),i<c.rows.length∧SlIs (List.map e [2,3,5]) [.ptr 0 0,.ptr 1 0,.int .i64 i]∧HpIs H [.cells (mtc c),.cells (mtc c)]∧
 Q .normal (envS [2,3,5,6,7] [.ptr 0 0,.ptr 1 0,.int .i64 i,.ptr 2 0,.ptr 3 0]) [.cells (mtc c),.cells (mtc c),.cells (rrc (c.rows.getD i default)),.cells (rrc (c.rows.getD i default))]∧Q .normal (envS [2,3,5,6,7] [.ptr 0 0,.ptr 1 0,.int .i64 i,.ptr 3 0,.ptr 2 0]) [.cells (mtc c),.cells (mtc c),.cells (rrc (c.rows.getD i default)),.cells (rrc (c.rows.getD i default))]
theorem sm6_draw:isDraw (atOf [1,1,0,1,0,0,1,0,0,0] (bodyOf Try.f15))=true:=by kernel_rfl
theorem sm6_fam:okFam2 (opsOf (atOf [1,1,0,1,0,0,1,0,0,0] (bodyOf Try.f15))) hnO [10,11,12,13] [[0,1,2,3,4,5,6,7,8,9,10,11,12,13],[0,1,2,3,4,5,6,7,8,9,10,11,13,12],[0,1,2,3,4,5,6,7,8,9,10,12,11,13],[0,1,2,3,4,5,6,7,8,9,11,10,12,13],[0,1,2,3,4,5,6,7,8,9,11,10,13,12],[0,1,2,3,4,5,6,7,8,9,11,13,10,12]]=true:=by kernel_rfl
theorem sm6_l_ok:∀ e H Q,sm6_l e H Q→AW Try.prog gl Try.f15.ntmps (atOf [1,1,0,1,0,0,1,0,0,0] (bodyOf Try.f15)) Q e H:=by
 rintro e H Q ⟨c,i,h,he,hH,h1,h2⟩
 have inl:InL (c.rows.map rrc) 4 (i:Int):=by rw[inL_rrc]; exact h
 refine aw_family2 (T:=[]) (slots:=[2,3,5]) (outs:=[2,3,5,6,7]) (hn:=hnO) (.nil _ _) [10,11,12,13] [[0,1,2,3,4,5,6,7,8,9,10,11,12,13],[0,1,2,3,4,5,6,7,8,9,10,11,13,12],[0,1,2,3,4,5,6,7,8,9,10,12,11,13],[0,1,2,3,4,5,6,7,8,9,11,10,12,13],[0,1,2,3,4,5,6,7,8,9,11,10,13,12],[0,1,2,3,4,5,6,7,8,9,11,13,10,12]] sm6_draw sm6_fam he hH ?_
 intro is his
 simp only[List.mem_cons,List.not_mem_nil,or_false] at his
 rcases his with rfl|rfl|rfl|rfl|rfl|rfl
 ·refine sm6a_vc c i (fun vs H'=>Q .normal (envS [2,3,5,6,7] vs) H') ?_
  simp only[br_if,toNat_nat,getD_map default h]
  refine⟨inl,?_⟩
  rw[if_pos (by rfl)]
  refine⟨inl,?_⟩
  rw[if_pos (by rfl)]
  exact h1
 ·refine sm6b_vc c i (fun vs H'=>Q .normal (envS [2,3,5,6,7] vs) H') ?_
  simp only[br_if,toNat_nat,getD_map default h]
  refine⟨inl,?_⟩
  rw[if_pos (by rfl)]
  refine⟨inl,?_⟩
  rw[if_pos (by rfl)]
  exact h1
 ·refine sm6c_vc c i (fun vs H'=>Q .normal (envS [2,3,5,6,7] vs) H') ?_
  simp only[br_if,toNat_nat,getD_map default h]
  refine⟨inl,?_⟩
  rw[if_pos (by rfl)]
  refine⟨inl,?_⟩
  rw[if_pos (by rfl)]
  exact h1
 ·refine sm6d_vc c i (fun vs H'=>Q .normal (envS [2,3,5,6,7] vs) H') ?_
  simp only[br_if,toNat_nat,getD_map default h]
  refine⟨inl,?_⟩
  rw[if_pos (by rfl)]
  refine⟨inl,?_⟩
  rw[if_pos (by rfl)]
  exact h2
 ·refine sm6e_vc c i (fun vs H'=>Q .normal (envS [2,3,5,6,7] vs) H') ?_
  simp only[br_if,toNat_nat,getD_map default h]
  refine⟨inl,?_⟩
  rw[if_pos (by rfl)]
  refine⟨inl,?_⟩
  rw[if_pos (by rfl)]
  exact h2
 ·refine sm6f_vc c i (fun vs H'=>Q .normal (envS [2,3,5,6,7] vs) H') ?_
  simp only[br_if,toNat_nat,getD_map default h]
  refine⟨inl,?_⟩
  rw[if_pos (by rfl)]
  refine⟨inl,?_⟩
  rw[if_pos (by rfl)]
  exact h2
theorem sm6_l_ok2:∀ e H Q,sm6_l e H Q→AW Try.prog gl Try.f15.ntmps (atOf [1,0,0,0] (subOf [1,1,0,1,0] (bodyOf Try.f15))) Q e H:=by
 rw[show atOf [1,0,0,0] (subOf [1,1,0,1,0] (bodyOf Try.f15))=atOf [1,1,0,1,0,0,1,0,0,0] (bodyOf Try.f15) from by kernel_rfl]; exact sm6_l_ok
theorem sm1_vc (c:Mt) (i:Nat):(by refine(?_:_→_→Prop) (Ob.cells [.int .u32 c.id,.int .i64 c.md,.int .u32 c.ins,.list (c.rows.map rrc) .no,.list (c.seats.map stc) .no]) [PV.ptr 0 0,.ptr 1 0,.int .i64 i]; exact fun n o=>∀(R:Ex→List PV→Heap→Prop),(br (decide ((i:Int)<(↑(List.length (c.rows.map rrc)):Int))) (∃(c_1:Mt) (i_1:Nat),by refine(?_:_→_→_→Prop) (List.getD c_1.rows i_1 default) [PV.int .u32 c_1.id,.int .i64 c_1.md,.int .u32 c_1.ins,.list (c_1.rows.map rrc) .no,.list (c_1.seats.map stc) .no] [PV.ptr 0 0,.ptr 1 0,.int .i64 i_1]; exact fun f h m=>by refine(?_:_→Prop) (PV.list (List.map u1 (Rr.pl f)) .no); exact fun l=>by refine(?_:_→Prop) (Ob.cells [.int .i64 (Rr.tm f),l,.int .i64 (Rr.rt f),.int .i64 (Rr.wd f)]); exact fun k=>by refine(?_:_→Prop) [Ob.cells h,.cells h,k,k]; exact fun d=>by refine(?_:_→Prop) (R .ret m d); exact fun j=>by refine(?_:_→Prop) (br ((Rr.rt f != Rr.rt f) == false) (br ((Rr.wd f != Rr.wd f) == false) (∃(a:List Int) (b:List Int) (t:Tail) (t':Tail),SlIs [l,l] [.list (en1 .u32 a) t,.list (en1 .u32 b) t']∧a.length≤1000000∧br (!decide (a=b)) j (R .normal [.ptr 0 0,.ptr 1 0,.int .i64 (wI ((i_1:Int)+1))] d)) j) j); exact fun g=>i_1<c_1.rows.length∧SlIs o m∧HpIs [n,n] [.cells h,.cells h]∧br ((Rr.tm f != Rr.tm f) == false) g j∧br ((Rr.tm f != Rr.tm f) == false) g j) (R (.exit 0) o [n,n]))→Holds (wpc br Try.prog gl TSM [([1,0,0,0],sm6_l)] (fun _=>0) (subOf [1,1,0,1,0] (bodyOf Try.f15)) [] (envS [2,3,5] o) [.cells (mtc c),.cells (mtc c)] (fun ex e H=>R ex (List.map e [2,3,5]) H)):Prop):=fun R h=>holds_of_eq (by kernel_rfl) h
theorem sm2_vc (c:Mt) (i:Nat):(by refine(?_:_→_→_→Prop) (List.getD (c.seats.map stc) (Int.toNat (i:Int)) []) (Ob.cells [.int .u32 c.id,.int .i64 c.md,.int .u32 c.ins,.list (c.rows.map rrc) .no,.list (c.seats.map stc) .no]) [PV.ptr 0 0,.ptr 1 0,.int .i64 i]; exact fun a b f=>by refine(?_:_→Prop) (true && fitX [.int .u32,.int .i64,.int .i64,.int .i64,.int .i64,.int .u64] 0 a); exact fun d=>∀(R:Ex→List PV→Heap→Prop),(br (decide ((i:Int)<(↑(List.length (c.seats.map stc)):Int))) (InL (c.seats.map stc) 6 (i:Int)∧br d (InL (c.seats.map stc) 6 (i:Int)∧br d (br (!(cI a 0 == cI a 0 && (cI a 1 == cI a 1 && (cI a 2 == cI a 2 && (cI a 3 == cI a 3 && (cI a 4 == cI a 4 && (cI a 5 == cI a 5 && true))))))) (R .ret f [b,b]) (R .normal [.ptr 0 0,.ptr 1 0,.int .i64 (wI ((i:Int)+1))] [b,b])) False) False) (R (.exit 2) f [b,b]))→Holds (wpc br Try.prog gl TSM [] (fun _=>0) (subOf [1,1,1,0,1,0] (bodyOf Try.f15)) [] (envS [2,3,8] f) [.cells (mtc c),.cells (mtc c)] (fun ex e H=>R ex (List.map e [2,3,8]) H)):Prop):=fun R h=>holds_of_eq (by kernel_rfl) h
def sm1_l:LSp:=fun e H Q=>∃(c:Mt),c.rows.length≤1000000∧(∀ r∈c.rows,r.pl.length≤1000000)∧SlIs (List.map e [2,3,5]) [.ptr 0 0,.ptr 1 0,.int .i64 0]∧HpIs H [.cells (mtc c),.cells (mtc c)]∧Q (.exit 0) (envS [2,3,5] [.ptr 0 0,.ptr 1 0,.int .i64 c.rows.length]) [.cells (mtc c),.cells (mtc c)]
theorem sm1_l_ok:∀ e H Q,sm1_l e H Q→AW Try.prog gl Try.f15.ntmps (.loop (subOf [1,1,0,1,0] (bodyOf Try.f15))) Q e H:=by
 rintro e H Q ⟨c,hl,hpl,he,hH,hQ⟩
 refine aw_loop4 (hn:=fun _=>0) gl_low TSM_ok (.cons (at_of (by kernel_rfl)) sm6_l_ok2 (.nil _ _ _ _ _)) (σ:=Nat) [2,3,5] (fun i=>i≤c.rows.length) (fun i=>[.ptr 0 0,.ptr 1 0,.int .i64 i]) (fun _=>[.cells (mtc c),.cells (mtc c)]) (fun i=>c.rows.length-i) 0 (Nat.zero_le _) he hH ?_
 intro i hi
 have hi:i≤c.rows.length:=hi
 refine sm1_vc c i _ ?_
 simp only[br_if,dt,List.length_map]
 by_cases h:i<c.rows.length
 ·rw[if_pos (by omega)]
  refine⟨c,i,h,rfl,rfl,?_,?_⟩
  all_goals
   obtain⟨r,hr⟩:∃ r,r=c.rows.getD i default:=⟨_,rfl⟩
   simp only[← hr,bne_self_eq_false]
   rw[if_pos (by rfl),if_pos (by rfl),if_pos (by rfl)]
   refine⟨r.pl,r.pl,.no,.no,rfl,hpl r (by rw[hr]; exact getD_mem h),?_⟩
   rw[if_neg (by simp)]
   exact⟨i+1,(show c.rows.length-(i+1)<c.rows.length-i by omega),h,by rw[wI_succ h (by omega)],[.cells (rrc r),.cells (rrc r)],rfl,Nat.le_refl _,.inr ⟨low_three (.ptr _ _ (by simp)) (.ptr _ _ (by simp)) (.int _ _),lowH_of (by intro ob ho; simp only[List.mem_cons,List.not_mem_nil,or_false] at ho; rcases ho with rfl|rfl<;>exact low_mtc c)⟩⟩
 ·rw[if_neg (by omega)]
  have:i=c.rows.length:=by omega
  subst this
  exact hQ
def sm2_l:LSp:=fun e H Q=>∃(c:Mt),c.seats.length≤1000000∧SlIs (List.map e [2,3,8]) [.ptr 0 0,.ptr 1 0,.int .i64 0]∧HpIs H [.cells (mtc c),.cells (mtc c)]∧Q (.exit 2) (envS [2,3,8] [.ptr 0 0,.ptr 1 0,.int .i64 c.seats.length]) [.cells (mtc c),.cells (mtc c)]
theorem sm2_l_ok:∀ e H Q,sm2_l e H Q→AW Try.prog gl Try.f15.ntmps (.loop (subOf [1,1,1,0,1,0] (bodyOf Try.f15))) Q e H:=by
 rintro e H Q ⟨c,hl,he,hH,hQ⟩
 refine aw_loop4 (hn:=fun _=>0) gl_low TSM_ok (.nil _ _ _ _ _) (σ:=Nat) [2,3,8] (fun i=>i≤c.seats.length) (fun i=>[.ptr 0 0,.ptr 1 0,.int .i64 i]) (fun _=>[.cells (mtc c),.cells (mtc c)]) (fun i=>c.seats.length-i) 0 (Nat.zero_le _) he hH ?_
 intro i hi
 have hi:i≤c.seats.length:=hi
 refine sm2_vc c i _ ?_
 simp only[br_if,dt,List.length_map,beq_self_eq_true,Bool.and_true]
 by_cases h:i<c.seats.length
 ·rw[if_pos (by omega)]
  have inl:InL (c.seats.map stc) 6 (i:Int):=by rw[inL_se]; exact h
  simp only[toNat_nat,getD_map default h]
  refine⟨inl,?_⟩
  rw[if_pos (by rfl)]
  refine⟨inl,?_⟩
  rw[if_pos (by rfl),if_neg (by decide)]
  exact⟨i+1,(show c.seats.length-(i+1)<c.seats.length-i by omega),h,by rw[wI_succ h (by omega)],[],rfl,Nat.le_refl _,.inl rfl⟩
 ·rw[if_neg (by omega)]
  have:i=c.seats.length:=by omega
  subst this
  exact hQ
theorem rsm1_vc (c:Mt):(by refine(?_:_→_→_→_→Prop) (Ob.cells [.int .u32 c.id,.int .i64 c.md,.int .u32 c.ins,.list (c.rows.map rrc) .no,.list (c.seats.map stc) .no]) [PV.ptr 0 0,.ptr 1 0,.int .i64 0] (↑(List.length (c.seats.map stc)):Int) (↑(List.length (c.rows.map rrc)):Int); exact fun d e f g=>∀(K:PV→Prop),(br ((c.id != c.id) == false) (br ((c.md != c.md) == false) (br ((c.ins != c.ins) == false) (br ((g != g) == false) (br (f != f) (K (.bool false)) (∃(c_1:Mt),by refine(?_:_→Prop) (Ob.cells [.int .u32 c_1.id,.int .i64 c_1.md,.int .u32 c_1.ins,.list (c_1.rows.map rrc) .no,.list (c_1.seats.map stc) .no]); exact fun b=>c_1.rows.length≤1000000∧(∀(r:Rr),r∈c_1.rows→r.pl.length≤1000000)∧SlIs e e∧HpIs [d,d] [b,b]∧∃(c:Mt),by refine(?_:_→Prop) (Ob.cells [.int .u32 c.id,.int .i64 c.md,.int .u32 c.ins,.list (c.rows.map rrc) .no,.list (c.seats.map stc) .no]); exact fun a=>c.seats.length≤1000000∧SlIs e e∧HpIs [b,b] [a,a]∧K (.bool true))) (K (.bool false))) (K (.bool false))) (K (.bool false))) (K (.bool false)))→ACalls Try.prog gl 15 [.agg (mtc c),.agg (mtc c)] [] (fun x _=>K x):Prop):=fun K h=>acalls_of_wpc2 (T:=TSM) (L:=[([1,1,0,1,0],sm1_l),([1,1,1,0,1,0],sm2_l)]) (fun _=>0) Try.func15 (by kernel_rfl) (by kernel_rfl) (by kernel_rfl) (TSM_ok) (.cons (sub_of (by kernel_rfl)) sm1_l_ok (.cons (sub_of (by kernel_rfl)) sm2_l_ok (.nil _ _ _ _ _))) (holds_of_eq (by kernel_rfl) h)
def rsame_s (args:List PV) (K:PV→Prop):Prop:=∃(c:Mt) (t1 t2 t3 t4:Tail),SlIs args [.agg [.int .u32 c.id,.int .i64 c.md,.int .u32 c.ins,.list (c.rows.map rrc) t1,.list (c.seats.map stc) t2],.agg [.int .u32 c.id,.int .i64 c.md,.int .u32 c.ins,.list (c.rows.map rrc) t3,.list (c.seats.map stc) t4]]∧c.Sm∧K (.bool true)
theorem rsame_ok:SpOk Try.prog gl 15 (.pure rsame_s):=by
 rintro args K ⟨c,t1,t2,t3,t4,he,sm,hk⟩
 have he:args=_:=he
 subst he
 refine spure_w gl_low (.cons wk_mt (.cons wk_mt .nil)) (low_two c.low c.low) (.bool _) (rsm1_vc c (fun x=>x = .bool true) ?_) hk
 simp only[br_if,bne_self_eq_false]
 rw[if_pos (by rfl),if_pos (by rfl),if_pos (by rfl),if_pos (by rfl),if_neg (by decide)]
 exact⟨c,sm.rows,sm.pl,rfl,rfl,c,sm.seats,rfl,rfl,trivial⟩
end Go.Proofs.Ytenaelaapdhbdaa
