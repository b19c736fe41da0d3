/-
  VerdictOnce's law.
-/
import Derived.Test.YtenaelaapdhbdaaDoorDbp
import Derived.Test.YtenaelaapdhbdaaDoorProg
namespace Go.Proofs.YtenaelaapdhbdaaDoor
open Go Go.AM Go.Proofs
def TOV:Tab:=[(5,.pure I9),(6,.heap IS),(9,.pure xg)]
theorem J5:aE Tryd.prog gl TOV:= .cons K9 (.cons Lt (.cons EU (.nil _ _)))
theorem J6 (d:Wd) (told:List Td):(by refine(?_:_→_→Prop) [PV.list (d.ra.map prC) .no,.list (d.rows.map lcs) .no,.list (d.st.map i1) .no] (PV.list (told.map tdc) .no); exact fun a b=>∀(K:PV→Prop),(∃(w:Wd) (t1:Tail) (t2:Tail) (t3:Tail),ak [.agg a] [.agg [.list (w.ra.map prC) t1,.list (w.rows.map lcs) t2,.list (w.st.map i1) t3]]∧br (fm w == false) (br (decide ((↑(List.length (told.map tdc)):Int)>20)) (K (.bool true)) (∃(d_1:Wd),ak [.agg a] [.agg [.list (d_1.ra.map prC) .no,.list (d_1.rows.map lcs) .no,.list (d_1.st.map i1) .no]]∧fm d_1=false∧raP d_1∧∃(d_2:Wd) (ra:List RwI) (w:List Mt) (rk:List PV) (told_1:List Td),told_1.length≤20∧Ok ra 40∧MO w 6∧fY w∧(∀(x:PV),x∈rk→Low 0 x)∧ak [b,.ptr 1 0,.ptr 3 0,.list [] .exact,.int .i64 0] [.list (told_1.map tdc) .no,.ptr 1 0,.ptr 3 0,.list [] .exact,.int .i64 0]∧aC [.cells a,.abs (rkI (eD [] 40 d_1.ra) 40),.abs (rkM (aq (Prod.fst (dY d_1 d_1.rows.length))) 6),.cells [.ptr 2 0],.cells [.list (List.map csI (oz d_1.ra)) .no,.int .i64 40]] [.cells [.list (d_2.ra.map prC) .no,.list (d_2.rows.map lcs) .no,.list (d_2.st.map i1) .no],.abs (rkI ra 40),.abs (rkM (aq w) 6),.cells [.ptr 2 0],.cells rk]∧∀(_:List PV),∀(_:ag),ak [] []∧K (.bool true))) (K (.bool true)))→an Tryd.prog gl 3 [.agg (wdC d),b] [] (fun x _=>K x):Prop):=fun K h=>ai (T:=TOV) (L:=[([1,1,1,1,0,1,0],IC)]) (fun _=>0) Tryd.func3 (by kernel_rfl) (by kernel_rfl) (by kernel_rfl) (J5) (.cons (aK (by kernel_rfl)) Cx (.nil _ _ _ _ _)) (ah (by kernel_rfl) h)
theorem BB (d:Wd) (told:List Td) (hp:raP d):an Tryd.prog gl 3 [.agg (wdC d),.list (told.map tdc) .no] [] (fun x _=>x = .bool true):=by
 refine J6 d told (fun x=>x = .bool true) ?_
 refine⟨d,.no,.no,.no,rfl,?_⟩
 simp only[az,List.length_map]
 by_cases c1:fm d=true
 ·rw[if_neg (by rw[c1]; decide)]; trivial
 ·have c1:=eq_false_of_ne_true c1
  rw[if_pos (by rw[c1]; rfl)]
  by_cases c2:told.length>20
  ·rw[if_pos (by simp; omega)]; trivial
  ·rw[if_neg (by simp; omega)]
   obtain⟨ro,_⟩:=kJ d d.rows.length
   exact⟨d,rfl,c1,hp,d,_,_,_,told,by omega,lI (Ok.none (by decide) (by decide)) _,ro,oN d _ (qq c1).2.1,bN (bB jG _) (.int _ _),rfl,rfl,fun _ _=>⟨rfl,trivial⟩⟩
end Go.Proofs.YtenaelaapdhbdaaDoor
