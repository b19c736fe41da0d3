/-
  The document's Set, Lose, Same.
-/
import Derived.Test.YtenaelaapdhbdaaDoorDz
import Derived.Test.YtenaelaapdhbdaaDoorA4
import Derived.Test.YtenaelaapdhbdaaDoorProg
namespace Go.Proofs.YtenaelaapdhbdaaDoor
open Go Go.AM Go.Proofs
theorem EZ (w:List Mt) (p st un no:Int):(by refine(?_:_→Prop) (PV.list (w.map mtc) .no); exact fun b=>∀(K:PV→Prop),by refine(?_:_→Prop) (K (.tup [b,.int .i64 2])); exact fun a=>(∃(w_1:List Mt) (tl:Tail) (t:Int),ak [b,.int .u32 p] [.list (w_1.map mtc) tl,.int .u32 t]∧SmM w_1∧∃(w_2:List Mt) (tl:Tail) (t_1:Int),ak [b,.int .u32 (ofM w_1 t)] [.list (w_2.map mtc) tl,.int .u32 t_1]∧w_2.length≤1000000∧br (!bu Mt.id w_2 t_1) (K (.tup [b,.int .i64 12])) (br (decide (st<1) == false) (br (decide (st>3)) a (∃(w_3:List Mt) (p_1:Int) (st_1:Int) (un_1:Int) (no_1:Int) (c:Mt),c.aa.length≤1000000∧ak [b,.int .u32 p,.int .i64 st,.int .i64 un,.int .u64 no,.ptr 0 0,.list [] .exact,.int .i64 0] [.list (w_3.map mtc) .no,.int .u32 p_1,.int .i64 st_1,.int .i64 un_1,.int .u64 no_1,.ptr 0 0,.list [] .exact,.int .i64 0]∧az [.cells [.int .u32 (Mt.id (gM w_2 t_1)),.int .i64 (Mt.md (gM w_2 t_1)),.int .u32 (Mt.ins (gM w_2 t_1)),.list (List.map rrc (Mt.rows (gM w_2 t_1))) .no,.list (List.map stc (Mt.aa (gM w_2 t_1))) .no]] [.cells [.int .u32 c.id,.int .i64 c.md,.int .u32 c.ins,.list (c.rows.map rrc) .no,.list (c.aa.map stc) .no]]∧∃(w:List Mt) (tl:Tail) (t1:Tail) (t2:Tail) (c_1:Mt),ak [.list (w_3.map mtc) .no,.agg [.int .u32 c.id,.int .i64 c.md,.int .u32 c.ins,.list (c.rows.map rrc) .no,.list (List.map stc (List.map (upS p_1 st_1 un_1 no_1) c.aa)) .no]] [.list (w.map mtc) tl,.agg [.int .u32 c_1.id,.int .i64 c_1.md,.int .u32 c_1.ins,.list (c_1.rows.map rrc) t1,.list (c_1.aa.map stc) t2]]∧dz Mt.id w∧w.length≤100000∧K (.tup [.list (List.map mtc (eT Mt.id w c_1)) .no,.int .i64 0]))) a))→aj Tryd.prog gl 19 [b,.int .u32 p,.int .i64 st,.int .i64 un,.int .u64 no] [] (fun x _=>K x):Prop):=fun K h=>ah (T:=TRL) (L:=[([1,1,1,1,1,0,1,0],KO)]) (fun _=>0) Tryd.func19 (by kernel_rfl) (by kernel_rfl) (by kernel_rfl) (Kg) (.cons (aH (by kernel_rfl)) ET (.nil _ _ _ _ _)) (ag (by kernel_rfl) h)
theorem y5 {p st un no:Int}:∀(l:List Se),(l.map Se.pl).Nodup→l.map (upS p st un no)=l.set (l.findIdx (isP p)) (jq (l.getD (l.findIdx (isP p)) default) st un no)
 | [],_=>rfl
 | a::l,h=>by
  rw[List.map_cons,List.nodup_cons] at h
  rw[List.map_cons,List.findIdx_cons]
  by_cases c:isP p a=true
  ·have e:a.pl=p:=eq_of_beq c
   have e2:l.map (upS p st un no)=l:=by
    conv=>rhs; rw[← List.map_id l]
    refine List.map_congr_left fun x hx=>?_
    have:x.pl≠p:=fun k=>h.1 (by rw[e,← k]; exact List.mem_map_of_mem hx)
    unfold upS; rw[if_neg (by simpa using this)]; rfl
   have e3:upS p st un no a=jq a st un no:=by unfold upS; rw[if_pos (by rw[e]; exact beq_self_eq_true _)]; rfl
   rw[c,e2,e3]; rfl
  ·have e:a.pl≠p:=fun k=>c (by unfold isP; rw[k]; exact beq_self_eq_true _)
   have e3:upS p st un no a=a:=by unfold upS; rw[if_neg (by simpa using e)]
   rw[show isP p a=false by simpa using c,e3,y5 l h.2]; rfl
def z9 (args:List PV) (K:PV→Prop):Prop:=∃(w:List Mt) (m p st un no:Int) (t0:Tail),ak args [.list (w.map mtc) t0,.int .u32 p,.int .i64 st,.int .i64 un,.int .u64 no]∧MO w m∧m≤100000∧
 K (.tup [.list ((dL w p st un no).1.map mtc) .no,.int .i64 (dL w p st un no).2])
theorem FR:aO Tryd.prog gl 19 (.pure z9):=by
 rintro args K ⟨w,m,p,st,un,no,t0,he,ro,hm,hk⟩
 have he:args=_:=he
 subst he
 have hsm:=ro.smM hm
 refine bH aq (.cons (.list _ _) (.cons (.refl _) (.cons (.refl _) (.cons (.refl _) (.cons (.refl _) .nil))))) (fY (bY w) (.int _ _) (.int _ _) (.int _ _) (.int _ _)) DJ (EZ w p st un no (fun x=>x=_) ⟨w,.no,p,rfl,hsm,w,.no,ofM w p,rfl,ro.len,?_⟩) hk
 obtain⟨z,hz⟩:∃ z,z=dL w p st un no:=⟨_,rfl⟩
 rw[← hz]
 unfold dL at hz
 simp only[ay]
 by_cases c0:bu Mt.id w (ofM w p)=true
 ·rw[if_neg (show ¬ bu Mt.id w (ofM w p)=false by rw[c0]; decide)] at hz
  rw[if_neg (show ¬ (!bu Mt.id w (ofM w p))=true by rw[c0]; decide)]
  by_cases c1:st<1
  ·rw[if_pos (.inl c1)] at hz
   rw[if_neg (show ¬ (decide (st<1) == false)=true by rw[decide_eq_true c1]; decide),hz]
  ·rw[if_pos (show(decide (st<1) == false)=true by rw[decide_eq_false c1]; rfl)]
   by_cases c2:st>3
   ·rw[if_pos (.inr c2)] at hz
    rw[if_pos (decide_eq_true c2),hz]
   ·rw[if_neg (fun e=>by rcases e with e|e; exact c1 e; exact c2 e)] at hz
    rw[if_neg (show ¬ decide (st>3)=true by rw[decide_eq_false c2]; decide)]
    have hok:=ro.Ap c0
    refine⟨w,p,st,un,no,gM w (ofM w p),hok.sm.aa,rfl,rfl,w,.no,.no,.no,gU (gM w (ofM w p)) p st un no,?_,ro.rise,hsm.len,by rw[hz]⟩
    rw[y5 _ hok.nd]; rfl
 ·rw[if_pos (show bu Mt.id w (ofM w p)=false by simpa using c0)] at hz
  rw[if_pos (show(!bu Mt.id w (ofM w p))=true by simpa using c0),hz]
end Go.Proofs.YtenaelaapdhbdaaDoor
