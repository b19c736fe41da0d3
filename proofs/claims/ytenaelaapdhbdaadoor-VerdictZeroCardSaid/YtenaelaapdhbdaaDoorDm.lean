/-
  Wrong.
-/
import Derived.Test.YtenaelaapdhbdaaDoorDl
import Derived.Test.YtenaelaapdhbdaaDoorProg
namespace Go.Proofs.YtenaelaapdhbdaaDoor
open Go Go.AM Go.Proofs
def TWR:Tab:=[(26,.pure ki),(56,.pure Ht),(38,.read zb),(58,.pure mv),(57,.pure vP)]
theorem jJ:aB Tryd.prog gl TWR:= .cons od (.cons IA (.cons Bz (.cons o4 (.cons An (.nil _ _)))))
structure WS where
 ids:Bool
 ex:Bool
 ps:List Int
def ws1 (w:List Mt) (s:WS) (p:Int):WS:=⟨s.ids || !aF p,s.ex || cf s.ps p || (ofM w p != 0),s.ps++[p]⟩
def wsP (w:List Mt) (s:WS) (l:List Int):WS:=l.foldl (ws1 w) s
def wsR (w:List Mt) (s:WS) (l:List Rr):WS:=l.foldl (fun s r=>wsP w s r.pl) s
def bV (r:Rr):Bool:=(r.tm != 1 && r.tm != 2) || decide (r.pl.length<1) || decide (r.pl.length>4)
theorem kT (w:List Mt) (s:WS) {l:List Int} {k:Nat} (h:k<l.length):wsP w s (l.take (k+1))=ws1 w (wsP w s (l.take k)) (l.getD k 0):=by
 unfold wsP; rw[aZ 0 h,List.foldl_append]; rfl
theorem sX (w:List Mt) (s:WS) {l:List Rr} {k:Nat} (h:k<l.length):wsR w s (l.take (k+1))=wsP w (wsR w s (l.take k)) (l.getD k default).pl:=by
 unfold wsR; rw[aZ default h,List.foldl_append]; rfl
theorem eC (w:List Mt):∀(l:List Int) (s:WS),(wsP w s l).ps=s.ps++l
 | [],s=>by simp[wsP]
 | p::l,s=>by
  show(wsP w (ws1 w s p) l).ps=_
  rw[eC w l]; simp[ws1]
theorem qH (w:List Mt):∀(l:List Rr) (s:WS),(wsR w s l).ps.length=s.ps.length+tot l
 | [],s=>rfl
 | r::l,s=>by
  show(wsR w (wsP w s r.pl) l).ps.length=_
  rw[qH w l,eC,List.length_append]
  unfold tot; simp only[List.map_cons,List.sum_cons]; omega
theorem bnf {b:Bool} (h:¬ b=false):b=true:=by cases b; exact absurd rfl h; rfl
theorem sL (w:List Mt) (m:Int) (b l:List Rr) (r:Rr) (ids sz ex:Bool) (i k:Nat):(by refine(?_:_→_→_→_→_→_→_→_→_→Prop) (PV.list (l.map rrc) .no) (PV.list (r.pl.map u1) .no) (PV.int .i64 (wI ((k:Int)+1))) (PV.list (b.map rrc) .no) (PV.int .i64 r.pl.length) (PV.int .i64 l.length) (List.getD (r.pl.map u1) (Int.toNat (k:Int)) []) (Ob.abs (rkM (ar w) m)) (Ob.cells [.ptr 1 0]); exact fun h n v x y z A B E=>by refine(?_:_→_→_→Prop) (cI A 0) (Ob.cells [.int .i64 r.tm,n,.int .i64 r.rt,.int .i64 r.wd]) [PV.ptr 0 0,x,h,.bool ids,.bool sz,.bool ex,.list [] .exact,h,z,.int .i64 i,.ptr 2 0,n,y,.int .i64 k]; exact fun d f g=>by refine(?_:_→_→_→_→_→Prop) [E,B,f,.tok] (PV.list [[PV.int .u32 d]] (.tok 3)) [E,B,f] [PV.list [] .exact,.int .u32 d] [PV.ptr 0 0,.int .u32 d]; exact fun j s u C D=>∀(R:Ex→List PV→ae→Prop),by refine(?_:_→_→Prop) (aX [] [[PV.int .u32 d]] 1 4∧(List.all [.int .u32 d] PV.one=true∧[[PV.int .u32 d]]≠[])∧R .normal [.ptr 0 0,x,h,.bool !aF d,.bool sz,.bool true,s,h,z,.int .i64 i,.ptr 2 0,n,y,v] j) (aX [] [[PV.int .u32 d]] 1 4∧(List.all [.int .u32 d] PV.one=true∧[[PV.int .u32 d]]≠[])∧R .normal [.ptr 0 0,x,h,.bool true,.bool sz,.bool true,s,h,z,.int .i64 i,.ptr 2 0,n,y,v] j); exact fun a c=>(br (decide ((k:Int)<(r.pl.length:Int))) (InL (r.pl.map u1) 1 (k:Int)∧br (true && aP [.int .u32] 0 A) (br (ids == false) (br (ex == false) (∃(l_1:List Int) (tl:Tail) (t:Int),ak C [.list (l_1.map u1) tl,.int .u32 t]∧l_1.length≤1000000∧br (cf l_1 t == false) (∃(q:Nat) (r_1:Nat) (w_1:List Mt) (m_1:Int) (p:Int),ak D [.ptr q 0,.int .u32 p]∧cC u q r_1 (rkM (ar w_1) m_1)∧MO w_1 m_1∧aX [] [[PV.int .u32 d]] 1 4∧(List.all [.int .u32 d] PV.one=true∧[[PV.int .u32 d]]≠[])∧R .normal [.ptr 0 0,x,h,.bool !aF d,.bool sz,.bool (ofM w_1 p != 0),s,h,z,.int .i64 i,.ptr 2 0,n,y,v] j) a) a) (br (ex == false) (∃(l_1:List Int) (tl:Tail) (t:Int),ak C [.list (l_1.map u1) tl,.int .u32 t]∧l_1.length≤1000000∧br (cf l_1 t == false) (∃(q:Nat) (r_1:Nat) (w_1:List Mt) (m_1:Int) (p:Int),ak D [.ptr q 0,.int .u32 p]∧cC u q r_1 (rkM (ar w_1) m_1)∧MO w_1 m_1∧aX [] [[PV.int .u32 d]] 1 4∧(List.all [.int .u32 d] PV.one=true∧[[PV.int .u32 d]]≠[])∧R .normal [.ptr 0 0,x,h,.bool true,.bool sz,.bool (ofM w_1 p != 0),s,h,z,.int .i64 i,.ptr 2 0,n,y,v] j) c) c)) False) (R (.exit 2) g u))→Holds (wpc br Tryd.prog gl TWR [] (fun o=>match o.dst with|some 76=>1|_=>0) (an [1,1,1,0,1,0,0,1,1,0,0,1,1,1,0] (ai Tryd.f31)) [] (av [0,1,2,6,7,8,9,19,20,21,11,49,50,51] g) [.cells [.ptr 1 0],B,.cells (rrc r)] (fun ex e H=>R ex (List.map e [0,1,2,6,7,8,9,19,20,21,11,49,50,51]) H)):Prop):=fun R h=>ag (by kernel_rfl) h
theorem s9 (w:List Mt) (m:Int) (b l:List Rr) (r:Rr) (ids sz ex:Bool) (ps:List Int) (i k:Nat):(by refine(?_:_→_→_→_→_→_→_→_→_→_→Prop) (PV.list (l.map rrc) .no) (PV.list (r.pl.map u1) .no) (PV.int .i64 (wI ((k:Int)+1))) (PV.list (b.map rrc) .no) (PV.int .i64 r.pl.length) (PV.int .i64 l.length) (PV.list (ps.map u1) (.tok 3)) (List.getD (r.pl.map u1) (Int.toNat (k:Int)) []) (Ob.abs (rkM (ar w) m)) (Ob.cells [.ptr 1 0]); exact fun h s v x y z A B C E=>by refine(?_:_→_→_→Prop) (cI B 0) (Ob.cells [.int .i64 r.tm,s,.int .i64 r.rt,.int .i64 r.wd]) [PV.ptr 0 0,x,h,.bool ids,.bool sz,.bool ex,A,h,z,.int .i64 i,.ptr 2 0,s,y,.int .i64 k]; exact fun d f g=>by refine(?_:_→_→_→_→Prop) [E,C,f,.dead,.tok] (PV.list (ps.map u1++[[PV.int .u32 d]]) (.tok 4)) [E,C,f,.tok] [PV.ptr 0 0,.int .u32 d]; exact fun j n u D=>∀(R:Ex→List PV→ae→Prop),by refine(?_:_→_→Prop) (aX (ps.map u1) [[PV.int .u32 d]] 1 4∧(List.all [.int .u32 d] PV.one=true∧[[PV.int .u32 d]]≠[])∧R .normal [.ptr 0 0,x,h,.bool !aF d,.bool sz,.bool true,n,h,z,.int .i64 i,.ptr 2 0,s,y,v] j) (aX (ps.map u1) [[PV.int .u32 d]] 1 4∧(List.all [.int .u32 d] PV.one=true∧[[PV.int .u32 d]]≠[])∧R .normal [.ptr 0 0,x,h,.bool true,.bool sz,.bool true,n,h,z,.int .i64 i,.ptr 2 0,s,y,v] j); exact fun a c=>(br (decide ((k:Int)<(r.pl.length:Int))) (InL (r.pl.map u1) 1 (k:Int)∧br (true && aP [.int .u32] 0 B) (br (ids == false) (br (ex == false) (∃(l_1:List Int) (tl:Tail) (t:Int),ak [A,.int .u32 d] [.list (l_1.map u1) tl,.int .u32 t]∧l_1.length≤1000000∧br (cf l_1 t == false) (∃(q:Nat) (r_1:Nat) (w_1:List Mt) (m_1:Int) (p:Int),ak D [.ptr q 0,.int .u32 p]∧cC u q r_1 (rkM (ar w_1) m_1)∧MO w_1 m_1∧aX (ps.map u1) [[PV.int .u32 d]] 1 4∧(List.all [.int .u32 d] PV.one=true∧[[PV.int .u32 d]]≠[])∧R .normal [.ptr 0 0,x,h,.bool !aF d,.bool sz,.bool (ofM w_1 p != 0),n,h,z,.int .i64 i,.ptr 2 0,s,y,v] j) a) a) (br (ex == false) (∃(l_1:List Int) (tl:Tail) (t:Int),ak [A,.int .u32 d] [.list (l_1.map u1) tl,.int .u32 t]∧l_1.length≤1000000∧br (cf l_1 t == false) (∃(q:Nat) (r_1:Nat) (w_1:List Mt) (m_1:Int) (p:Int),ak D [.ptr q 0,.int .u32 p]∧cC u q r_1 (rkM (ar w_1) m_1)∧MO w_1 m_1∧aX (ps.map u1) [[PV.int .u32 d]] 1 4∧(List.all [.int .u32 d] PV.one=true∧[[PV.int .u32 d]]≠[])∧R .normal [.ptr 0 0,x,h,.bool true,.bool sz,.bool (ofM w_1 p != 0),n,h,z,.int .i64 i,.ptr 2 0,s,y,v] j) c) c)) False) (R (.exit 2) g u))→Holds (wpc br Tryd.prog gl TWR [] (fun o=>match o.dst with|some 76=>1|_=>0) (an [1,1,1,0,1,0,0,1,1,0,0,1,1,1,0] (ai Tryd.f31)) [] (av [0,1,2,6,7,8,9,19,20,21,11,49,50,51] g) [.cells [.ptr 1 0],C,.cells (rrc r),.tok] (fun ex e H=>R ex (List.map e [0,1,2,6,7,8,9,19,20,21,11,49,50,51]) H)):Prop):=fun R h=>ag (by kernel_rfl) h
theorem sM (w:List Mt) (m:Int) (b l:List Rr) (r:Rr) (ids sz ex:Bool) (ps:List Int) (i k:Nat):(by refine(?_:_→_→_→_→_→_→_→_→_→_→Prop) (PV.list (l.map rrc) .no) (PV.list (r.pl.map u1) .no) (PV.int .i64 (wI ((k:Int)+1))) (PV.list (b.map rrc) .no) (PV.int .i64 r.pl.length) (PV.int .i64 l.length) (PV.list (ps.map u1) (.tok 2)) (List.getD (r.pl.map u1) (Int.toNat (k:Int)) []) (Ob.abs (rkM (ar w) m)) (Ob.cells [.ptr 1 0]); exact fun h s v x y z A B C E=>by refine(?_:_→_→_→Prop) (cI B 0) (Ob.cells [.int .i64 r.tm,s,.int .i64 r.rt,.int .i64 r.wd]) [PV.ptr 0 0,x,h,.bool ids,.bool sz,.bool ex,A,h,z,.int .i64 i,.ptr 3 0,s,y,.int .i64 k]; exact fun d f g=>by refine(?_:_→_→_→_→Prop) [E,C,.dead,f,.tok] (PV.list (ps.map u1++[[PV.int .u32 d]]) (.tok 4)) [E,C,.tok,f] [PV.ptr 0 0,.int .u32 d]; exact fun j n u D=>∀(R:Ex→List PV→ae→Prop),by refine(?_:_→_→Prop) (aX (ps.map u1) [[PV.int .u32 d]] 1 4∧(List.all [.int .u32 d] PV.one=true∧[[PV.int .u32 d]]≠[])∧R .normal [.ptr 0 0,x,h,.bool !aF d,.bool sz,.bool true,n,h,z,.int .i64 i,.ptr 3 0,s,y,v] j) (aX (ps.map u1) [[PV.int .u32 d]] 1 4∧(List.all [.int .u32 d] PV.one=true∧[[PV.int .u32 d]]≠[])∧R .normal [.ptr 0 0,x,h,.bool true,.bool sz,.bool true,n,h,z,.int .i64 i,.ptr 3 0,s,y,v] j); exact fun a c=>(br (decide ((k:Int)<(r.pl.length:Int))) (InL (r.pl.map u1) 1 (k:Int)∧br (true && aP [.int .u32] 0 B) (br (ids == false) (br (ex == false) (∃(l_1:List Int) (tl:Tail) (t:Int),ak [A,.int .u32 d] [.list (l_1.map u1) tl,.int .u32 t]∧l_1.length≤1000000∧br (cf l_1 t == false) (∃(q:Nat) (r_1:Nat) (w_1:List Mt) (m_1:Int) (p:Int),ak D [.ptr q 0,.int .u32 p]∧cC u q r_1 (rkM (ar w_1) m_1)∧MO w_1 m_1∧aX (ps.map u1) [[PV.int .u32 d]] 1 4∧(List.all [.int .u32 d] PV.one=true∧[[PV.int .u32 d]]≠[])∧R .normal [.ptr 0 0,x,h,.bool !aF d,.bool sz,.bool (ofM w_1 p != 0),n,h,z,.int .i64 i,.ptr 3 0,s,y,v] j) a) a) (br (ex == false) (∃(l_1:List Int) (tl:Tail) (t:Int),ak [A,.int .u32 d] [.list (l_1.map u1) tl,.int .u32 t]∧l_1.length≤1000000∧br (cf l_1 t == false) (∃(q:Nat) (r_1:Nat) (w_1:List Mt) (m_1:Int) (p:Int),ak D [.ptr q 0,.int .u32 p]∧cC u q r_1 (rkM (ar w_1) m_1)∧MO w_1 m_1∧aX (ps.map u1) [[PV.int .u32 d]] 1 4∧(List.all [.int .u32 d] PV.one=true∧[[PV.int .u32 d]]≠[])∧R .normal [.ptr 0 0,x,h,.bool true,.bool sz,.bool (ofM w_1 p != 0),n,h,z,.int .i64 i,.ptr 3 0,s,y,v] j) c) c)) False) (R (.exit 2) g u))→Holds (wpc br Tryd.prog gl TWR [] (fun o=>match o.dst with|some 76=>1|_=>0) (an [1,1,1,0,1,0,0,1,1,0,0,1,1,1,0] (ai Tryd.f31)) [] (av [0,1,2,6,7,8,9,19,20,21,11,49,50,51] g) [.cells [.ptr 1 0],C,.tok,.cells (rrc r)] (fun ex e H=>R ex (List.map e [0,1,2,6,7,8,9,19,20,21,11,49,50,51]) H)):Prop):=fun R h=>ag (by kernel_rfl) h
theorem sJ (w:List Mt) (m:Int) (b l:List Rr) (r:Rr) (ids sz ex:Bool) (ps:List Int) (i k:Nat):(by refine(?_:_→_→_→_→_→_→_→_→_→_→Prop) (PV.list (l.map rrc) .no) (PV.list (r.pl.map u1) .no) (PV.int .i64 (wI ((k:Int)+1))) (PV.list (b.map rrc) .no) (PV.int .i64 r.pl.length) (PV.int .i64 l.length) (PV.list (ps.map u1) (.tok 4)) (List.getD (r.pl.map u1) (Int.toNat (k:Int)) []) (Ob.abs (rkM (ar w) m)) (Ob.cells [.ptr 1 0]); exact fun j u v x y z A B C E=>by refine(?_:_→_→_→Prop) (cI B 0) (Ob.cells [.int .i64 r.tm,u,.int .i64 r.rt,.int .i64 r.wd]) [PV.ptr 0 0,x,j,.bool ids,.bool sz,.bool ex,A,j,z,.int .i64 i,.ptr 3 0,u,y,.int .i64 k]; exact fun d f g=>by refine(?_:_→_→_→_→Prop) [E,C,.dead,f,.dead,.tok] (PV.list (ps.map u1++[[PV.int .u32 d]]) (.tok 5)) [E,C,.dead,f,.tok] [PV.ptr 0 0,.int .u32 d]; exact fun h n s D=>∀(R:Ex→List PV→ae→Prop),by refine(?_:_→_→Prop) (aX (ps.map u1) [[PV.int .u32 d]] 1 4∧(List.all [.int .u32 d] PV.one=true∧[[PV.int .u32 d]]≠[])∧R .normal [.ptr 0 0,x,j,.bool !aF d,.bool sz,.bool true,n,j,z,.int .i64 i,.ptr 3 0,u,y,v] h) (aX (ps.map u1) [[PV.int .u32 d]] 1 4∧(List.all [.int .u32 d] PV.one=true∧[[PV.int .u32 d]]≠[])∧R .normal [.ptr 0 0,x,j,.bool true,.bool sz,.bool true,n,j,z,.int .i64 i,.ptr 3 0,u,y,v] h); exact fun a c=>(br (decide ((k:Int)<(r.pl.length:Int))) (InL (r.pl.map u1) 1 (k:Int)∧br (true && aP [.int .u32] 0 B) (br (ids == false) (br (ex == false) (∃(l_1:List Int) (tl:Tail) (t:Int),ak [A,.int .u32 d] [.list (l_1.map u1) tl,.int .u32 t]∧l_1.length≤1000000∧br (cf l_1 t == false) (∃(q:Nat) (r_1:Nat) (w_1:List Mt) (m_1:Int) (p:Int),ak D [.ptr q 0,.int .u32 p]∧cC s q r_1 (rkM (ar w_1) m_1)∧MO w_1 m_1∧aX (ps.map u1) [[PV.int .u32 d]] 1 4∧(List.all [.int .u32 d] PV.one=true∧[[PV.int .u32 d]]≠[])∧R .normal [.ptr 0 0,x,j,.bool !aF d,.bool sz,.bool (ofM w_1 p != 0),n,j,z,.int .i64 i,.ptr 3 0,u,y,v] h) a) a) (br (ex == false) (∃(l_1:List Int) (tl:Tail) (t:Int),ak [A,.int .u32 d] [.list (l_1.map u1) tl,.int .u32 t]∧l_1.length≤1000000∧br (cf l_1 t == false) (∃(q:Nat) (r_1:Nat) (w_1:List Mt) (m_1:Int) (p:Int),ak D [.ptr q 0,.int .u32 p]∧cC s q r_1 (rkM (ar w_1) m_1)∧MO w_1 m_1∧aX (ps.map u1) [[PV.int .u32 d]] 1 4∧(List.all [.int .u32 d] PV.one=true∧[[PV.int .u32 d]]≠[])∧R .normal [.ptr 0 0,x,j,.bool true,.bool sz,.bool (ofM w_1 p != 0),n,j,z,.int .i64 i,.ptr 3 0,u,y,v] h) c) c)) False) (R (.exit 2) g s))→Holds (wpc br Tryd.prog gl TWR [] (fun o=>match o.dst with|some 76=>1|_=>0) (an [1,1,1,0,1,0,0,1,1,0,0,1,1,1,0] (ai Tryd.f31)) [] (av [0,1,2,6,7,8,9,19,20,21,11,49,50,51] g) [.cells [.ptr 1 0],C,.dead,.cells (rrc r),.tok] (fun ex e H=>R ex (List.map e [0,1,2,6,7,8,9,19,20,21,11,49,50,51]) H)):Prop):=fun R h=>ag (by kernel_rfl) h
theorem fI {ρ:Nat→Nat} {n bx:Nat} {b l:List Rr} {r:Rr} {ids sz ex:Bool} {i:Nat} {z:Int} {T T':PV} (h0:0<n∧ρ 0=0) (hb:bx<n∧ρ bx=bx) (hT:Ren ρ n T T'):aW ρ n [.ptr 0 0,.list (b.map rrc) .no,.list (l.map rrc) .no,.bool ids,.bool sz,.bool ex,T,.list (l.map rrc) .no,.int .i64 l.length,.int .i64 i,.ptr bx 0,.list (r.pl.map u1) .no,.int .i64 r.pl.length,.int .i64 z] [.ptr 0 0,.list (b.map rrc) .no,.list (l.map rrc) .no,.bool ids,.bool sz,.bool ex,T',.list (l.map rrc) .no,.int .i64 l.length,.int .i64 i,.ptr bx 0,.list (r.pl.map u1) .no,.int .i64 r.pl.length,.int .i64 z]:=by
 have e0:=Ren.ptr (ρ:=ρ) (n:=n) 0 0 h0.1
 rw[h0.2] at e0
 have eb:=Ren.ptr (ρ:=ρ) (n:=n) bx 0 hb.1
 rw[hb.2] at eb
 exact .cons e0 (.cons (.low (aQ _)) (.cons (.low (aQ _)) (.cons (.low (.bool _)) (.cons (.low (.bool _)) (.cons (.low (.bool _)) (.cons hT (.cons (.low (aQ _)) (.cons (.low (.int _ _)) (.cons (.low (.int _ _)) (.cons eb (.cons (.low (eE _)) (.cons (.low (.int _ _)) (.cons (.low (.int _ _)) .nil)))))))))))))
def uY:LSp:=fun e H Q=>∃(w:List Mt) (m:Int) (b l:List Rr) (r:Rr) (s:WS) (sz:Bool) (i:Nat),MO w m∧r.pl.length≤1000000∧s.ps.length+r.pl.length≤1000000∧s.ps=[]∧ak (List.map e [0,1,2,6,7,8,9,19,20,21,11,49,50,51]) [.ptr 0 0,.list (b.map rrc) .no,.list (l.map rrc) .no,.bool s.ids,.bool sz,.bool s.ex,.list [] .exact,.list (l.map rrc) .no,.int .i64 l.length,.int .i64 i,.ptr 2 0,.list (r.pl.map u1) .no,.int .i64 r.pl.length,.int .i64 0]∧az H [.cells [.ptr 1 0],.abs (rkM (ar w) m),.cells (rrc r)]∧(r.pl=[]→Q (.exit 2) (av [0,1,2,6,7,8,9,19,20,21,11,49,50,51] [.ptr 0 0,.list (b.map rrc) .no,.list (l.map rrc) .no,.bool s.ids,.bool sz,.bool s.ex,.list [] .exact,.list (l.map rrc) .no,.int .i64 l.length,.int .i64 i,.ptr 2 0,.list (r.pl.map u1) .no,.int .i64 r.pl.length,.int .i64 0]) [.cells [.ptr 1 0],.abs (rkM (ar w) m),.cells (rrc r)])∧(r.pl≠[]→Q (.exit 2) (av [0,1,2,6,7,8,9,19,20,21,11,49,50,51] [.ptr 0 0,.list (b.map rrc) .no,.list (l.map rrc) .no,.bool (wsP w s r.pl).ids,.bool sz,.bool (wsP w s r.pl).ex,.list ((wsP w s r.pl).ps.map u1) (.tok 3),.list (l.map rrc) .no,.int .i64 l.length,.int .i64 i,.ptr 2 0,.list (r.pl.map u1) .no,.int .i64 r.pl.length,.int .i64 r.pl.length]) [.cells [.ptr 1 0],.abs (rkM (ar w) m),.cells (rrc r),.tok])
theorem yT:∀ e H Q,uY e H Q→AW Tryd.prog gl Tryd.f31.ntmps (.loop (an [1,1,1,0,1,0,0,1,1,0,0,1,1,1,0] (ai Tryd.f31))) Q e H:=by
 rintro e H Q ⟨w,m,b,l,r,s,sz,i,ro,hrl,hsl,hs0,he,hH,hQ0,hQ1⟩
 ·have hH:H=_:=hH
  have hHl:H.length=3:=by rw[hH]; rfl
  refine fe (hn:=fun o=>match o.dst with|some 76=>1|_=>0) aq jJ (.nil _ _ _ _ _) (σ:=Nat) [0,1,2,6,7,8,9,19,20,21,11,49,50,51] (fun k=>k≤r.pl.length) (fun k=>if k=0 then [.ptr 0 0,.list (b.map rrc) .no,.list (l.map rrc) .no,.bool s.ids,.bool sz,.bool s.ex,.list [] .exact,.list (l.map rrc) .no,.int .i64 l.length,.int .i64 i,.ptr 2 0,.list (r.pl.map u1) .no,.int .i64 r.pl.length,.int .i64 0] else [.ptr 0 0,.list (b.map rrc) .no,.list (l.map rrc) .no,.bool (wsP w s (r.pl.take k)).ids,.bool sz,.bool (wsP w s (r.pl.take k)).ex,.list ((wsP w s (r.pl.take k)).ps.map u1) (.tok 3),.list (l.map rrc) .no,.int .i64 l.length,.int .i64 i,.ptr 2 0,.list (r.pl.map u1) .no,.int .i64 r.pl.length,.int .i64 k]) (fun k=>if k=0 then [.cells [.ptr 1 0],.abs (rkM (ar w) m),.cells (rrc r)] else [.cells [.ptr 1 0],.abs (rkM (ar w) m),.cells (rrc r),.tok]) (fun k=>r.pl.length-k) 0 (Nat.zero_le _) he hH ?_
  rw[hHl]
  intro k hk
  have hk:k≤r.pl.length:=hk
  have hps:=eC w (r.pl.take k) s
  have hpl:(wsP w s (r.pl.take k)).ps.length≤1000000:=by rw[hps,List.length_append,List.length_take]; omega
  by_cases h:k<r.pl.length
  ·have hsucc:=kT w s h
   have hlow:∀(ps:List Int),∀ x∈(ps.map u1).flatten,Low 0 x:=fun ps=>bh fun a _=>bU a
   have inl:InL (r.pl.map u1) 1 (k:Int):=by rw[ec]; exact h
   have cp:cI (u1 (r.pl.getD k 0)) 0=r.pl.getD k 0:=rfl
   have hpl2:(wsP w s (r.pl.take (k+1))).ps.length≤1000000:=by rw[eC,List.length_append,List.length_take]; omega
   by_cases k0:k=0
   ·subst k0
    have e1:wsP w s (r.pl.take 1)=ws1 w s (r.pl.getD 0 0):=hsucc
    simp only[if_pos]
    refine sL w m b l r s.ids sz s.ex i 0 _ ?_
    simp only[ay,dt,au,getD_map 0 h,cp]
    rw[if_pos (by omega)]
    refine⟨inl,?_⟩
    rw[if_pos (by rfl)]
    obtain⟨p,hp⟩:∃ p,p=r.pl.getD 0 0:=⟨_,rfl⟩
    rw[← hp] at e1
    simp only[← hp]
    have tail:∀ b1 b2:Bool,b1=(ws1 w s p).ids→b2=(ws1 w s p).ex→∃ s':Nat,r.pl.length-s'<r.pl.length-0∧s'≤r.pl.length∧dV 3 [.ptr 0 0,.list (b.map rrc) .no,.list (l.map rrc) .no,.bool b1,.bool sz,.bool b2,.list [[.int .u32 p]] (.tok 3),.list (l.map rrc) .no,.int .i64 l.length,.int .i64 i,.ptr 2 0,.list (r.pl.map u1) .no,.int .i64 r.pl.length,.int .i64 (wI (((0:Nat):Int)+1))] [.cells [.ptr 1 0],.abs (rkM (ar w) m),.cells (rrc r),.tok] (if s'=0 then [.ptr 0 0,.list (b.map rrc) .no,.list (l.map rrc) .no,.bool s.ids,.bool sz,.bool s.ex,.list [] .exact,.list (l.map rrc) .no,.int .i64 l.length,.int .i64 i,.ptr 2 0,.list (r.pl.map u1) .no,.int .i64 r.pl.length,.int .i64 0] else [.ptr 0 0,.list (b.map rrc) .no,.list (l.map rrc) .no,.bool (wsP w s (r.pl.take s')).ids,.bool sz,.bool (wsP w s (r.pl.take s')).ex,.list ((wsP w s (r.pl.take s')).ps.map u1) (.tok 3),.list (l.map rrc) .no,.int .i64 l.length,.int .i64 i,.ptr 2 0,.list (r.pl.map u1) .no,.int .i64 r.pl.length,.int .i64 s']) (if s'=0 then [.cells [.ptr 1 0],.abs (rkM (ar w) m),.cells (rrc r)] else [.cells [.ptr 1 0],.abs (rkM (ar w) m),.cells (rrc r),.tok]):=by
     rintro b1 b2 rfl rfl
     refine⟨1,by omega,h,?_⟩
     rw[if_neg (by decide),if_neg (by decide),e1,show wI (((0:Nat):Int)+1)=((1:Nat):Int) from rfl]
     refine aS [0,1,2,3] (WkL.refl _) (.cons rfl (.cells (.cons (.ptr (ρ:=fun o=>[0,1,2,3].getD o 0) 1 0 (by simp)) .nil)) (.cons rfl (.abs _) (.cons rfl (.cells (aW.low (bG r))) (.cons rfl .tok .nil)))) (by decide) (by simp) (fun o ho=>?_) (fI ⟨by simp,rfl⟩ ⟨by simp,rfl⟩ ?_)
     ·match o,ho with
      | 0,_=>rfl
      | 1,_=>rfl
      | 2,_=>rfl
     ·have:=Ren.ltok (ρ:=fun o=>[0,1,2,3].getD o 0) (n:=4) ((ws1 w s p).ps.map u1) 3 (by decide) (hlow _)
      have e2:(ws1 w s p).ps.map u1=[[PV.int .u32 p]]:=by show(s.ps++[p]).map u1=_; rw[hs0]; rfl
      rw[← e2]; exact this
    have ap:aX (([]:List (List PV))) [[.int .u32 p]] 1 4∧(List.all [PV.int .u32 p] PV.one=true∧[[PV.int .u32 p]]≠[]):=⟨aL (f:=u1) dN [] p (by decide),one_row ey p⟩
    by_cases hi:s.ids=false
    ·rw[if_pos (by rw[hi]; rfl)]
     by_cases hx:s.ex=false
     ·rw[if_pos (by rw[hx]; rfl)]
      refine⟨[],.exact,p,rfl,(by decide),?_⟩
      by_cases hm:cf [] p=false
      ·rw[if_pos (by rw[hm]; rfl)]
       exact⟨0,1,w,m,p,rfl,⟨rfl,rfl⟩,ro,ap.1,ap.2,tail _ _ (by simp[ws1,hi]) (by simp[ws1,hx,hm,hs0])⟩
      ·rw[if_neg (by simpa using hm)]
       exact⟨ap.1,ap.2,tail _ _ (by simp[ws1,hi]) (by simp only[ws1]; rw[hs0]; rw[bnf hm]; simp)⟩
     ·rw[if_neg (by simpa using hx)]
      exact⟨ap.1,ap.2,tail _ _ (by simp[ws1,hi]) (by simp[ws1,bnf hx])⟩
    ·rw[if_neg (by simpa using hi)]
     by_cases hx:s.ex=false
     ·rw[if_pos (by rw[hx]; rfl)]
      refine⟨[],.exact,p,rfl,(by decide),?_⟩
      by_cases hm:cf [] p=false
      ·rw[if_pos (by rw[hm]; rfl)]
       exact⟨0,1,w,m,p,rfl,⟨rfl,rfl⟩,ro,ap.1,ap.2,tail _ _ (by simp[ws1,bnf hi]) (by simp[ws1,hx,hm,hs0])⟩
      ·rw[if_neg (by simpa using hm)]
       exact⟨ap.1,ap.2,tail _ _ (by simp[ws1,bnf hi]) (by simp only[ws1]; rw[hs0]; rw[bnf hm]; simp)⟩
     ·rw[if_neg (by simpa using hx)]
      exact⟨ap.1,ap.2,tail _ _ (by simp[ws1,bnf hi]) (by simp[ws1,bnf hx])⟩
   ·simp only[if_neg k0]
    refine s9 w m b l r (wsP w s (r.pl.take k)).ids sz (wsP w s (r.pl.take k)).ex (wsP w s (r.pl.take k)).ps i k _ ?_
    simp only[ay,dt,au,getD_map 0 h,cp]
    rw[if_pos (by omega)]
    refine⟨inl,?_⟩
    rw[if_pos (by rfl)]
    obtain⟨t,htd⟩:∃ t,t=wsP w s (r.pl.take k):=⟨_,rfl⟩
    obtain⟨p,hp⟩:∃ p,p=r.pl.getD k 0:=⟨_,rfl⟩
    rw[← htd,← hp] at hsucc
    simp only[← hp,← htd] at hpl ⊢
    have htl:t.ps.length+1≤1000000:=by rw[hsucc] at hpl2; simpa[ws1] using hpl2
    have tail:∀ b1 b2:Bool,b1=(ws1 w t p).ids→b2=(ws1 w t p).ex→∃ s':Nat,r.pl.length-s'<r.pl.length-k∧s'≤r.pl.length∧dV 3 [.ptr 0 0,.list (b.map rrc) .no,.list (l.map rrc) .no,.bool b1,.bool sz,.bool b2,.list (t.ps.map u1++[[.int .u32 p]]) (.tok 4),.list (l.map rrc) .no,.int .i64 l.length,.int .i64 i,.ptr 2 0,.list (r.pl.map u1) .no,.int .i64 r.pl.length,.int .i64 (wI ((k:Int)+1))] [.cells [.ptr 1 0],.abs (rkM (ar w) m),.cells (rrc r),.dead,.tok] (if s'=0 then [.ptr 0 0,.list (b.map rrc) .no,.list (l.map rrc) .no,.bool s.ids,.bool sz,.bool s.ex,.list [] .exact,.list (l.map rrc) .no,.int .i64 l.length,.int .i64 i,.ptr 2 0,.list (r.pl.map u1) .no,.int .i64 r.pl.length,.int .i64 0] else [.ptr 0 0,.list (b.map rrc) .no,.list (l.map rrc) .no,.bool (wsP w s (r.pl.take s')).ids,.bool sz,.bool (wsP w s (r.pl.take s')).ex,.list ((wsP w s (r.pl.take s')).ps.map u1) (.tok 3),.list (l.map rrc) .no,.int .i64 l.length,.int .i64 i,.ptr 2 0,.list (r.pl.map u1) .no,.int .i64 r.pl.length,.int .i64 s']) (if s'=0 then [.cells [.ptr 1 0],.abs (rkM (ar w) m),.cells (rrc r)] else [.cells [.ptr 1 0],.abs (rkM (ar w) m),.cells (rrc r),.tok]):=by
     rintro b1 b2 rfl rfl
     refine⟨k+1,by omega,h,?_⟩
     rw[if_neg (by omega),if_neg (by omega),hsucc,ax h (by omega)]
     refine aS [0,1,2,4] (WkL.refl _) (.cons rfl (.cells (.cons (.ptr (ρ:=fun o=>[0,1,2,4].getD o 0) 1 0 (by simp)) .nil)) (.cons rfl (.abs _) (.cons rfl (.cells (aW.low (bG r))) (.cons rfl .tok .nil)))) (by decide) (by simp) (fun o ho=>?_) (fI ⟨by simp,rfl⟩ ⟨by simp,rfl⟩ ?_)
     ·match o,ho with
      | 0,_=>rfl
      | 1,_=>rfl
      | 2,_=>rfl
     ·have:=Ren.ltok (ρ:=fun o=>[0,1,2,4].getD o 0) (n:=4) ((ws1 w t p).ps.map u1) 3 (by decide) (hlow _)
      have e2:(ws1 w t p).ps.map u1=t.ps.map u1++[[.int .u32 p]]:=by show(t.ps++[p]).map u1=_; rw[List.map_append]; rfl
      rw[← e2]; exact this
    have ap:aX (t.ps.map u1) [[.int .u32 p]] 1 4∧(List.all [PV.int .u32 p] PV.one=true∧[[PV.int .u32 p]]≠[]):=⟨aL (f:=u1) dN t.ps p (by omega),one_row ey p⟩
    by_cases hi:t.ids=false
    ·rw[if_pos (by rw[hi]; rfl)]
     by_cases hx:t.ex=false
     ·rw[if_pos (by rw[hx]; rfl)]
      refine⟨t.ps,.tok 3,p,rfl,(by omega),?_⟩
      by_cases hm:cf t.ps p=false
      ·rw[if_pos (by rw[hm]; rfl)]
       exact⟨0,1,w,m,p,rfl,⟨rfl,rfl⟩,ro,ap.1,ap.2,tail _ _ (by simp[ws1,hi]) (by simp[ws1,hx,hm])⟩
      ·rw[if_neg (by simpa using hm)]
       exact⟨ap.1,ap.2,tail _ _ (by simp[ws1,hi]) (by simp only[ws1]; rw[bnf hm]; simp)⟩
     ·rw[if_neg (by simpa using hx)]
      exact⟨ap.1,ap.2,tail _ _ (by simp[ws1,hi]) (by simp[ws1,bnf hx])⟩
    ·rw[if_neg (by simpa using hi)]
     by_cases hx:t.ex=false
     ·rw[if_pos (by rw[hx]; rfl)]
      refine⟨t.ps,.tok 3,p,rfl,(by omega),?_⟩
      by_cases hm:cf t.ps p=false
      ·rw[if_pos (by rw[hm]; rfl)]
       exact⟨0,1,w,m,p,rfl,⟨rfl,rfl⟩,ro,ap.1,ap.2,tail _ _ (by simp[ws1,bnf hi]) (by simp[ws1,hx,hm])⟩
      ·rw[if_neg (by simpa using hm)]
       exact⟨ap.1,ap.2,tail _ _ (by simp[ws1,bnf hi]) (by simp only[ws1]; rw[bnf hm]; simp)⟩
     ·rw[if_neg (by simpa using hx)]
      exact⟨ap.1,ap.2,tail _ _ (by simp[ws1,bnf hi]) (by simp[ws1,bnf hx])⟩
  ·have hkl:k=r.pl.length:=by omega
   subst hkl
   by_cases k0:r.pl.length=0
   ·have hn:r.pl=[]:=List.length_eq_zero_iff.1 k0
    simp only[if_pos k0]
    refine sL w m b l r s.ids sz s.ex i 0 _ ?_
    simp only[ay,dt]
    rw[if_neg (by omega)]
    refine⟨_,_,aS [0,1,2] (WkL.refl _) (.cons rfl (.cells (.cons (.ptr (ρ:=fun o=>[0,1,2].getD o 0) 1 0 (by simp)) .nil)) (.cons rfl (.abs _) (.cons rfl (.cells (aW.low (bG r))) .nil))) (by decide) (by simp) (fun o ho=>?_) (fI ⟨by simp,rfl⟩ ⟨by simp,rfl⟩ (.low (aI NT.exact (by simp)))),hQ0 hn⟩
    match o,ho with
    | 0,_=>rfl
    | 1,_=>rfl
    | 2,_=>rfl
   ·have hn:r.pl≠[]:=fun e=>k0 (by rw[e]; rfl)
    simp only[if_neg k0]
    refine s9 w m b l r (wsP w s (r.pl.take r.pl.length)).ids sz (wsP w s (r.pl.take r.pl.length)).ex (wsP w s (r.pl.take r.pl.length)).ps i r.pl.length _ ?_
    simp only[ay,dt]
    rw[if_neg (by omega),List.take_length]
    refine⟨_,_,aS [0,1,2,3] (WkL.refl _) (.cons rfl (.cells (.cons (.ptr (ρ:=fun o=>[0,1,2,3].getD o 0) 1 0 (by simp)) .nil)) (.cons rfl (.abs _) (.cons rfl (.cells (aW.low (bG r))) (.cons rfl .tok .nil)))) (by decide) (by simp) (fun o ho=>?_) (fI ⟨by simp,rfl⟩ ⟨by simp,rfl⟩ (.ltok (ρ:=fun o=>[0,1,2,3].getD o 0) _ 3 (by simp) (bh fun a _=>bU a))),hQ1 hn⟩
    match o,ho with
    | 0,_=>rfl
    | 1,_=>rfl
    | 2,_=>rfl
def tu:LSp:=fun e H Q=>∃(w:List Mt) (m:Int) (b l:List Rr) (r:Rr) (s:WS) (sz:Bool) (i:Nat),MO w m∧r.pl.length≤1000000∧s.ps.length+r.pl.length≤1000000∧ak (List.map e [0,1,2,6,7,8,9,19,20,21,11,49,50,51]) [.ptr 0 0,.list (b.map rrc) .no,.list (l.map rrc) .no,.bool s.ids,.bool sz,.bool s.ex,.list (s.ps.map u1) (.tok 2),.list (l.map rrc) .no,.int .i64 l.length,.int .i64 i,.ptr 3 0,.list (r.pl.map u1) .no,.int .i64 r.pl.length,.int .i64 0]∧az H [.cells [.ptr 1 0],.abs (rkM (ar w) m),.tok,.cells (rrc r)]∧(r.pl=[]→Q (.exit 2) (av [0,1,2,6,7,8,9,19,20,21,11,49,50,51] [.ptr 0 0,.list (b.map rrc) .no,.list (l.map rrc) .no,.bool s.ids,.bool sz,.bool s.ex,.list (s.ps.map u1) (.tok 2),.list (l.map rrc) .no,.int .i64 l.length,.int .i64 i,.ptr 3 0,.list (r.pl.map u1) .no,.int .i64 r.pl.length,.int .i64 0]) [.cells [.ptr 1 0],.abs (rkM (ar w) m),.tok,.cells (rrc r)])∧(r.pl≠[]→Q (.exit 2) (av [0,1,2,6,7,8,9,19,20,21,11,49,50,51] [.ptr 0 0,.list (b.map rrc) .no,.list (l.map rrc) .no,.bool (wsP w s r.pl).ids,.bool sz,.bool (wsP w s r.pl).ex,.list ((wsP w s r.pl).ps.map u1) (.tok 4),.list (l.map rrc) .no,.int .i64 l.length,.int .i64 i,.ptr 3 0,.list (r.pl.map u1) .no,.int .i64 r.pl.length,.int .i64 r.pl.length]) [.cells [.ptr 1 0],.abs (rkM (ar w) m),.dead,.cells (rrc r),.tok])
theorem x8:∀ e H Q,tu e H Q→AW Tryd.prog gl Tryd.f31.ntmps (.loop (an [1,1,1,0,1,0,0,1,1,0,0,1,1,1,0] (ai Tryd.f31))) Q e H:=by
 rintro e H Q ⟨w,m,b,l,r,s,sz,i,ro,hrl,hsl,he,hH,hQ0,hQ1⟩
 ·have hH:H=_:=hH
  have hHl:H.length=4:=by rw[hH]; rfl
  refine fe (hn:=fun o=>match o.dst with|some 76=>1|_=>0) aq jJ (.nil _ _ _ _ _) (σ:=Nat) [0,1,2,6,7,8,9,19,20,21,11,49,50,51] (fun k=>k≤r.pl.length) (fun k=>if k=0 then [.ptr 0 0,.list (b.map rrc) .no,.list (l.map rrc) .no,.bool s.ids,.bool sz,.bool s.ex,.list (s.ps.map u1) (.tok 2),.list (l.map rrc) .no,.int .i64 l.length,.int .i64 i,.ptr 3 0,.list (r.pl.map u1) .no,.int .i64 r.pl.length,.int .i64 0] else [.ptr 0 0,.list (b.map rrc) .no,.list (l.map rrc) .no,.bool (wsP w s (r.pl.take k)).ids,.bool sz,.bool (wsP w s (r.pl.take k)).ex,.list ((wsP w s (r.pl.take k)).ps.map u1) (.tok 4),.list (l.map rrc) .no,.int .i64 l.length,.int .i64 i,.ptr 3 0,.list (r.pl.map u1) .no,.int .i64 r.pl.length,.int .i64 k]) (fun k=>if k=0 then [.cells [.ptr 1 0],.abs (rkM (ar w) m),.tok,.cells (rrc r)] else [.cells [.ptr 1 0],.abs (rkM (ar w) m),.dead,.cells (rrc r),.tok]) (fun k=>r.pl.length-k) 0 (Nat.zero_le _) he hH ?_
  rw[hHl]
  intro k hk
  have hk:k≤r.pl.length:=hk
  have hps:=eC w (r.pl.take k) s
  have hpl:(wsP w s (r.pl.take k)).ps.length≤1000000:=by rw[hps,List.length_append,List.length_take]; omega
  by_cases h:k<r.pl.length
  ·have hsucc:=kT w s h
   have hlow:∀(ps:List Int),∀ x∈(ps.map u1).flatten,Low 0 x:=fun ps=>bh fun a _=>bU a
   have inl:InL (r.pl.map u1) 1 (k:Int):=by rw[ec]; exact h
   have cp:cI (u1 (r.pl.getD k 0)) 0=r.pl.getD k 0:=rfl
   have hpl2:(wsP w s (r.pl.take (k+1))).ps.length≤1000000:=by rw[eC,List.length_append,List.length_take]; omega
   by_cases k0:k=0
   ·subst k0
    have e1:wsP w s (r.pl.take 1)=ws1 w s (r.pl.getD 0 0):=hsucc
    simp only[if_pos]
    refine sM w m b l r s.ids sz s.ex s.ps i 0 _ ?_
    simp only[ay,dt,au,getD_map 0 h,cp]
    rw[if_pos (by omega)]
    refine⟨inl,?_⟩
    rw[if_pos (by rfl)]
    obtain⟨p,hp⟩:∃ p,p=r.pl.getD 0 0:=⟨_,rfl⟩
    rw[← hp] at e1
    simp only[← hp]
    have tail:∀ b1 b2:Bool,b1=(ws1 w s p).ids→b2=(ws1 w s p).ex→∃ s':Nat,r.pl.length-s'<r.pl.length-0∧s'≤r.pl.length∧dV 4 [.ptr 0 0,.list (b.map rrc) .no,.list (l.map rrc) .no,.bool b1,.bool sz,.bool b2,.list (s.ps.map u1++[[.int .u32 p]]) (.tok 4),.list (l.map rrc) .no,.int .i64 l.length,.int .i64 i,.ptr 3 0,.list (r.pl.map u1) .no,.int .i64 r.pl.length,.int .i64 (wI (((0:Nat):Int)+1))] [.cells [.ptr 1 0],.abs (rkM (ar w) m),.dead,.cells (rrc r),.tok] (if s'=0 then [.ptr 0 0,.list (b.map rrc) .no,.list (l.map rrc) .no,.bool s.ids,.bool sz,.bool s.ex,.list (s.ps.map u1) (.tok 2),.list (l.map rrc) .no,.int .i64 l.length,.int .i64 i,.ptr 3 0,.list (r.pl.map u1) .no,.int .i64 r.pl.length,.int .i64 0] else [.ptr 0 0,.list (b.map rrc) .no,.list (l.map rrc) .no,.bool (wsP w s (r.pl.take s')).ids,.bool sz,.bool (wsP w s (r.pl.take s')).ex,.list ((wsP w s (r.pl.take s')).ps.map u1) (.tok 4),.list (l.map rrc) .no,.int .i64 l.length,.int .i64 i,.ptr 3 0,.list (r.pl.map u1) .no,.int .i64 r.pl.length,.int .i64 s']) (if s'=0 then [.cells [.ptr 1 0],.abs (rkM (ar w) m),.tok,.cells (rrc r)] else [.cells [.ptr 1 0],.abs (rkM (ar w) m),.dead,.cells (rrc r),.tok]):=by
     rintro b1 b2 rfl rfl
     refine⟨1,by omega,h,?_⟩
     rw[if_neg (by decide),if_neg (by decide),e1,show wI (((0:Nat):Int)+1)=((1:Nat):Int) from rfl]
     refine aS [0,1,2,3,4] (WkL.refl _) (.cons rfl (.cells (.cons (.ptr (ρ:=fun o=>[0,1,2,3,4].getD o 0) 1 0 (by simp)) .nil)) (.cons rfl (.abs _) (.cons rfl (.dead _) (.cons rfl (.cells (aW.low (bG r))) (.cons rfl .tok .nil))))) (by decide) (by simp) (fun o ho=>?_) (fI ⟨by simp,rfl⟩ ⟨by simp,rfl⟩ ?_)
     ·match o,ho with
      | 0,_=>rfl
      | 1,_=>rfl
      | 2,_=>rfl
      | 3,_=>rfl
     ·have:=Ren.ltok (ρ:=fun o=>[0,1,2,3,4].getD o 0) (n:=5) ((ws1 w s p).ps.map u1) 4 (by decide) (hlow _)
      have e2:(ws1 w s p).ps.map u1=s.ps.map u1++[[PV.int .u32 p]]:=by show(s.ps++[p]).map u1=_; rw[List.map_append]; rfl
      rw[← e2]; exact this
    have ap:aX (s.ps.map u1) [[.int .u32 p]] 1 4∧(List.all [PV.int .u32 p] PV.one=true∧[[PV.int .u32 p]]≠[]):=⟨aL (f:=u1) dN s.ps p (by omega),one_row ey p⟩
    by_cases hi:s.ids=false
    ·rw[if_pos (by rw[hi]; rfl)]
     by_cases hx:s.ex=false
     ·rw[if_pos (by rw[hx]; rfl)]
      refine⟨s.ps,.tok 2,p,rfl,(by omega),?_⟩
      by_cases hm:cf s.ps p=false
      ·rw[if_pos (by rw[hm]; rfl)]
       exact⟨0,1,w,m,p,rfl,⟨rfl,rfl⟩,ro,ap.1,ap.2,tail _ _ (by simp[ws1,hi]) (by simp[ws1,hx,hm])⟩
      ·rw[if_neg (by simpa using hm)]
       exact⟨ap.1,ap.2,tail _ _ (by simp[ws1,hi]) (by simp only[ws1]; rw[bnf hm]; simp)⟩
     ·rw[if_neg (by simpa using hx)]
      exact⟨ap.1,ap.2,tail _ _ (by simp[ws1,hi]) (by simp[ws1,bnf hx])⟩
    ·rw[if_neg (by simpa using hi)]
     by_cases hx:s.ex=false
     ·rw[if_pos (by rw[hx]; rfl)]
      refine⟨s.ps,.tok 2,p,rfl,(by omega),?_⟩
      by_cases hm:cf s.ps p=false
      ·rw[if_pos (by rw[hm]; rfl)]
       exact⟨0,1,w,m,p,rfl,⟨rfl,rfl⟩,ro,ap.1,ap.2,tail _ _ (by simp[ws1,bnf hi]) (by simp[ws1,hx,hm])⟩
      ·rw[if_neg (by simpa using hm)]
       exact⟨ap.1,ap.2,tail _ _ (by simp[ws1,bnf hi]) (by simp only[ws1]; rw[bnf hm]; simp)⟩
     ·rw[if_neg (by simpa using hx)]
      exact⟨ap.1,ap.2,tail _ _ (by simp[ws1,bnf hi]) (by simp[ws1,bnf hx])⟩
   ·simp only[if_neg k0]
    refine sJ w m b l r (wsP w s (r.pl.take k)).ids sz (wsP w s (r.pl.take k)).ex (wsP w s (r.pl.take k)).ps i k _ ?_
    simp only[ay,dt,au,getD_map 0 h,cp]
    rw[if_pos (by omega)]
    refine⟨inl,?_⟩
    rw[if_pos (by rfl)]
    obtain⟨t,htd⟩:∃ t,t=wsP w s (r.pl.take k):=⟨_,rfl⟩
    obtain⟨p,hp⟩:∃ p,p=r.pl.getD k 0:=⟨_,rfl⟩
    rw[← htd,← hp] at hsucc
    simp only[← hp,← htd] at hpl ⊢
    have htl:t.ps.length+1≤1000000:=by rw[hsucc] at hpl2; simpa[ws1] using hpl2
    have tail:∀ b1 b2:Bool,b1=(ws1 w t p).ids→b2=(ws1 w t p).ex→∃ s':Nat,r.pl.length-s'<r.pl.length-k∧s'≤r.pl.length∧dV 4 [.ptr 0 0,.list (b.map rrc) .no,.list (l.map rrc) .no,.bool b1,.bool sz,.bool b2,.list (t.ps.map u1++[[.int .u32 p]]) (.tok 5),.list (l.map rrc) .no,.int .i64 l.length,.int .i64 i,.ptr 3 0,.list (r.pl.map u1) .no,.int .i64 r.pl.length,.int .i64 (wI ((k:Int)+1))] [.cells [.ptr 1 0],.abs (rkM (ar w) m),.dead,.cells (rrc r),.dead,.tok] (if s'=0 then [.ptr 0 0,.list (b.map rrc) .no,.list (l.map rrc) .no,.bool s.ids,.bool sz,.bool s.ex,.list (s.ps.map u1) (.tok 2),.list (l.map rrc) .no,.int .i64 l.length,.int .i64 i,.ptr 3 0,.list (r.pl.map u1) .no,.int .i64 r.pl.length,.int .i64 0] else [.ptr 0 0,.list (b.map rrc) .no,.list (l.map rrc) .no,.bool (wsP w s (r.pl.take s')).ids,.bool sz,.bool (wsP w s (r.pl.take s')).ex,.list ((wsP w s (r.pl.take s')).ps.map u1) (.tok 4),.list (l.map rrc) .no,.int .i64 l.length,.int .i64 i,.ptr 3 0,.list (r.pl.map u1) .no,.int .i64 r.pl.length,.int .i64 s']) (if s'=0 then [.cells [.ptr 1 0],.abs (rkM (ar w) m),.tok,.cells (rrc r)] else [.cells [.ptr 1 0],.abs (rkM (ar w) m),.dead,.cells (rrc r),.tok]):=by
     rintro b1 b2 rfl rfl
     refine⟨k+1,by omega,h,?_⟩
     rw[if_neg (by omega),if_neg (by omega),hsucc,ax h (by omega)]
     refine aS [0,1,2,3,5] (WkL.refl _) (.cons rfl (.cells (.cons (.ptr (ρ:=fun o=>[0,1,2,3,5].getD o 0) 1 0 (by simp)) .nil)) (.cons rfl (.abs _) (.cons rfl (.dead _) (.cons rfl (.cells (aW.low (bG r))) (.cons rfl .tok .nil))))) (by decide) (by simp) (fun o ho=>?_) (fI ⟨by simp,rfl⟩ ⟨by simp,rfl⟩ ?_)
     ·match o,ho with
      | 0,_=>rfl
      | 1,_=>rfl
      | 2,_=>rfl
      | 3,_=>rfl
     ·have:=Ren.ltok (ρ:=fun o=>[0,1,2,3,5].getD o 0) (n:=5) ((ws1 w t p).ps.map u1) 4 (by decide) (hlow _)
      have e2:(ws1 w t p).ps.map u1=t.ps.map u1++[[.int .u32 p]]:=by show(t.ps++[p]).map u1=_; rw[List.map_append]; rfl
      rw[← e2]; exact this
    have ap:aX (t.ps.map u1) [[.int .u32 p]] 1 4∧(List.all [PV.int .u32 p] PV.one=true∧[[PV.int .u32 p]]≠[]):=⟨aL (f:=u1) dN t.ps p (by omega),one_row ey p⟩
    by_cases hi:t.ids=false
    ·rw[if_pos (by rw[hi]; rfl)]
     by_cases hx:t.ex=false
     ·rw[if_pos (by rw[hx]; rfl)]
      refine⟨t.ps,.tok 4,p,rfl,(by omega),?_⟩
      by_cases hm:cf t.ps p=false
      ·rw[if_pos (by rw[hm]; rfl)]
       exact⟨0,1,w,m,p,rfl,⟨rfl,rfl⟩,ro,ap.1,ap.2,tail _ _ (by simp[ws1,hi]) (by simp[ws1,hx,hm])⟩
      ·rw[if_neg (by simpa using hm)]
       exact⟨ap.1,ap.2,tail _ _ (by simp[ws1,hi]) (by simp only[ws1]; rw[bnf hm]; simp)⟩
     ·rw[if_neg (by simpa using hx)]
      exact⟨ap.1,ap.2,tail _ _ (by simp[ws1,hi]) (by simp[ws1,bnf hx])⟩
    ·rw[if_neg (by simpa using hi)]
     by_cases hx:t.ex=false
     ·rw[if_pos (by rw[hx]; rfl)]
      refine⟨t.ps,.tok 4,p,rfl,(by omega),?_⟩
      by_cases hm:cf t.ps p=false
      ·rw[if_pos (by rw[hm]; rfl)]
       exact⟨0,1,w,m,p,rfl,⟨rfl,rfl⟩,ro,ap.1,ap.2,tail _ _ (by simp[ws1,bnf hi]) (by simp[ws1,hx,hm])⟩
      ·rw[if_neg (by simpa using hm)]
       exact⟨ap.1,ap.2,tail _ _ (by simp[ws1,bnf hi]) (by simp only[ws1]; rw[bnf hm]; simp)⟩
     ·rw[if_neg (by simpa using hx)]
      exact⟨ap.1,ap.2,tail _ _ (by simp[ws1,bnf hi]) (by simp[ws1,bnf hx])⟩
  ·have hkl:k=r.pl.length:=by omega
   subst hkl
   by_cases k0:r.pl.length=0
   ·have hn:r.pl=[]:=List.length_eq_zero_iff.1 k0
    simp only[if_pos k0]
    refine sM w m b l r s.ids sz s.ex s.ps i 0 _ ?_
    simp only[ay,dt]
    rw[if_neg (by omega)]
    refine⟨_,_,aS [0,1,2,3] (WkL.refl _) (.cons rfl (.cells (.cons (.ptr (ρ:=fun o=>[0,1,2,3].getD o 0) 1 0 (by simp)) .nil)) (.cons rfl (.abs _) (.cons rfl .tok (.cons rfl (.cells (aW.low (bG r))) .nil)))) (by decide) (by simp) (fun o ho=>?_) (fI ⟨by simp,rfl⟩ ⟨by simp,rfl⟩ (.ltok (ρ:=fun o=>[0,1,2,3].getD o 0) _ 2 (by simp) (bh fun a _=>bU a))),hQ0 hn⟩
    match o,ho with
    | 0,_=>rfl
    | 1,_=>rfl
    | 2,_=>rfl
    | 3,_=>rfl
   ·have hn:r.pl≠[]:=fun e=>k0 (by rw[e]; rfl)
    simp only[if_neg k0]
    refine sJ w m b l r (wsP w s (r.pl.take r.pl.length)).ids sz (wsP w s (r.pl.take r.pl.length)).ex (wsP w s (r.pl.take r.pl.length)).ps i r.pl.length _ ?_
    simp only[ay,dt]
    rw[if_neg (by omega),List.take_length]
    refine⟨_,_,aS [0,1,2,3,4] (WkL.refl _) (.cons rfl (.cells (.cons (.ptr (ρ:=fun o=>[0,1,2,3,4].getD o 0) 1 0 (by simp)) .nil)) (.cons rfl (.abs _) (.cons rfl (.dead _) (.cons rfl (.cells (aW.low (bG r))) (.cons rfl .tok .nil))))) (by decide) (by simp) (fun o ho=>?_) (fI ⟨by simp,rfl⟩ ⟨by simp,rfl⟩ (.ltok (ρ:=fun o=>[0,1,2,3,4].getD o 0) _ 4 (by simp) (bh fun a _=>bU a))),hQ1 hn⟩
    match o,ho with
    | 0,_=>rfl
    | 1,_=>rfl
    | 2,_=>rfl
    | 3,_=>rfl
theorem wM:an [1,1,0,0,1,1,1,0] (an [1,1,1,0,1,0] (ai Tryd.f31))=an [1,1,1,0,1,0,0,1,1,0,0,1,1,1,0] (ai Tryd.f31):=by kernel_rfl
theorem nP:∀ e H Q,uY e H Q→AW Tryd.prog gl Tryd.f31.ntmps (.loop (an [1,1,0,0,1,1,1,0] (an [1,1,1,0,1,0] (ai Tryd.f31)))) Q e H:=by
 rw[wM]; exact yT
theorem nX:∀ e H Q,tu e H Q→AW Tryd.prog gl Tryd.f31.ntmps (.loop (an [1,1,0,0,1,1,1,0] (an [1,1,1,0,1,0] (ai Tryd.f31)))) Q e H:=by
 rw[wM]; exact x8
theorem JK (w:List Mt) (m:Int) (b l:List Rr) (ids sz ex:Bool) (r:Rr) (i:Nat):(by refine(?_:_→_→_→_→_→Prop) (PV.list (l.map rrc) .no) (PV.list (b.map rrc) .no) (↑(List.length (r.pl.map u1)):Int) (PV.int .i64 l.length) (Ob.abs (rkM (ar w) m)); exact fun f g h j k=>by refine(?_:_→Prop) [Ob.cells [.ptr 1 0],k,.cells [.int .i64 r.tm,.list (r.pl.map u1) .no,.int .i64 r.rt,.int .i64 r.wd]]; exact fun d=>∀(R:Ex→List PV→ae→Prop),by refine(?_:_→Prop) (R .normal [.ptr 0 0,g,f,.bool ids,.bool true,.bool ex,.list [] .exact,f,j,.int .i64 i,.ptr 2 0] d); exact fun a=>by refine(?_:_→Prop) (br (decide (h<1) == false) (R .normal [.ptr 0 0,g,f,.bool ids,.bool (decide (h>4)),.bool ex,.list [] .exact,f,j,.int .i64 i,.ptr 2 0] d) a); exact fun c=>(br (sz == false) (br ((r.tm != 1) == true) (br ((r.tm != 2) == false) c a) c) a)→Holds (wpc br Tryd.prog gl [] [] (fun _=>0) (cw [1,1,1,0,1,0,0,1,1,0,0,1,0] (ai Tryd.f31)) [] (av [0,1,2,6,7,8,9,19,20,21,11] [.ptr 0 0,g,f,.bool ids,.bool sz,.bool ex,.list [] .exact,f,j,.int .i64 i,.ptr 2 0]) [.cells [.ptr 1 0],k,.cells (rrc r)] (fun ex e H=>R ex (List.map e [0,1,2,6,7,8,9,19,20,21,11]) H)):Prop):=fun R h=>ag (by kernel_rfl) h
theorem Jw (w:List Mt) (m:Int) (b l:List Rr) (ids sz ex:Bool) (ps:List Int) (r:Rr) (i:Nat):(by refine(?_:_→_→_→_→_→_→Prop) (PV.list (l.map rrc) .no) (PV.list (ps.map u1) (.tok 2)) (PV.list (b.map rrc) .no) (↑(List.length (r.pl.map u1)):Int) (PV.int .i64 l.length) (Ob.abs (rkM (ar w) m)); exact fun f g h j k n=>by refine(?_:_→Prop) [Ob.cells [.ptr 1 0],n,.tok,.cells [.int .i64 r.tm,.list (r.pl.map u1) .no,.int .i64 r.rt,.int .i64 r.wd]]; exact fun d=>∀(R:Ex→List PV→ae→Prop),by refine(?_:_→Prop) (R .normal [.ptr 0 0,h,f,.bool ids,.bool true,.bool ex,g,f,k,.int .i64 i,.ptr 3 0] d); exact fun a=>by refine(?_:_→Prop) (br (decide (j<1) == false) (R .normal [.ptr 0 0,h,f,.bool ids,.bool (decide (j>4)),.bool ex,g,f,k,.int .i64 i,.ptr 3 0] d) a); exact fun c=>(br (sz == false) (br ((r.tm != 1) == true) (br ((r.tm != 2) == false) c a) c) a)→Holds (wpc br Tryd.prog gl [] [] (fun _=>0) (cw [1,1,1,0,1,0,0,1,1,0,0,1,0] (ai Tryd.f31)) [] (av [0,1,2,6,7,8,9,19,20,21,11] [.ptr 0 0,h,f,.bool ids,.bool sz,.bool ex,g,f,k,.int .i64 i,.ptr 3 0]) [.cells [.ptr 1 0],n,.tok,.cells (rrc r)] (fun ex e H=>R ex (List.map e [0,1,2,6,7,8,9,19,20,21,11]) H)):Prop):=fun R h=>ag (by kernel_rfl) h
def Eh:LSp:=fun e H Q=>∃(w:List Mt) (m:Int) (b l:List Rr) (r:Rr) (ids sz ex:Bool) (i:Nat),r.pl.length≤1000000∧ak (List.map e [0,1,2,6,7,8,9,19,20,21,11]) [.ptr 0 0,.list (b.map rrc) .no,.list (l.map rrc) .no,.bool ids,.bool sz,.bool ex,.list [] .exact,.list (l.map rrc) .no,.int .i64 l.length,.int .i64 i,.ptr 2 0]∧az H [.cells [.ptr 1 0],.abs (rkM (ar w) m),.cells (rrc r)]∧Q .normal (av [0,1,2,6,7,8,9,19,20,21,11] [.ptr 0 0,.list (b.map rrc) .no,.list (l.map rrc) .no,.bool ids,.bool (sz || bV r),.bool ex,.list [] .exact,.list (l.map rrc) .no,.int .i64 l.length,.int .i64 i,.ptr 2 0]) [.cells [.ptr 1 0],.abs (rkM (ar w) m),.cells (rrc r)]
theorem CM:∀ e H Q,Eh e H Q→AW Tryd.prog gl Tryd.f31.ntmps (cw [1,1,1,0,1,0,0,1,1,0,0,1,0] (ai Tryd.f31)) Q e H:=by
 rintro e H Q ⟨w,m,b,l,r,ids,sz,ex,i,hrl,he,hH,hQ⟩
 have hH:H=_:=hH
 subst hH
 have he:List.map e [0,1,2,6,7,8,9,19,20,21,11]=_:=he
 refine dQ (T:=[]) (slots:=[0,1,2,6,7,8,9,19,20,21,11]) (outs:=[0,1,2,6,7,8,9,19,20,21,11]) (hn:=fun _=>0) (.nil _ _) (.nil _ _ _ _ _) he rfl (JK w m b l ids sz ex r i (fun ex' vs H'=>Q ex' (av [0,1,2,6,7,8,9,19,20,21,11] vs) H') ?_)
 simp only[ay,List.length_map]
 have tail:∀ z:Bool,z=(sz || bV r)→Q .normal (av [0,1,2,6,7,8,9,19,20,21,11] [.ptr 0 0,.list (b.map rrc) .no,.list (l.map rrc) .no,.bool ids,.bool z,.bool ex,.list [] .exact,.list (l.map rrc) .no,.int .i64 l.length,.int .i64 i,.ptr 2 0]) [.cells [.ptr 1 0],.abs (rkM (ar w) m),.cells (rrc r)]:=by rintro z rfl; exact hQ
 unfold bV at tail
 by_cases h0:sz=false
 ·rw[if_pos (by rw[h0]; rfl)]
  by_cases h1:(r.tm != 1)=true
  ·rw[if_pos (by rw[h1]; rfl)]
   by_cases h2:(r.tm != 2)=false
   ·rw[if_pos (by rw[h2]; rfl)]
    by_cases h3:r.pl.length<1
    ·rw[if_neg (by simp; omega)]; exact tail _ (by rw[decide_eq_true h3]; simp)
    ·rw[if_pos (by simp; omega)]; exact tail _ (by rw[h0,h1,h2,decide_eq_false h3]; simp; omega)
   ·rw[if_neg (by simpa using h2)]; exact tail _ (by rw[h1,bnf h2]; simp)
  ·rw[if_neg (by simpa using h1)]
   have h1':(r.tm != 1)=false:=by simpa using h1
   by_cases h3:r.pl.length<1
   ·rw[if_neg (by simp; omega)]; exact tail _ (by rw[decide_eq_true h3]; simp)
   ·rw[if_pos (by simp; omega)]; exact tail _ (by rw[h0,h1',decide_eq_false h3]; simp; omega)
 ·rw[if_neg (by simpa using h0)]; exact tail _ (by rw[bnf h0]; simp)
theorem Fy:cw [1,1,0,0,1,0] (an [1,1,1,0,1,0] (ai Tryd.f31))=cw [1,1,1,0,1,0,0,1,1,0,0,1,0] (ai Tryd.f31):=by kernel_rfl
theorem qc:∀ e H Q,Eh e H Q→AW Tryd.prog gl Tryd.f31.ntmps (cw [1,1,0,0,1,0] (an [1,1,1,0,1,0] (ai Tryd.f31))) Q e H:=by
 rw[Fy]; exact CM
def Bn:LSp:=fun e H Q=>∃(w:List Mt) (m:Int) (b l:List Rr) (r:Rr) (ids sz ex:Bool) (ps:List Int) (i:Nat),r.pl.length≤1000000∧ak (List.map e [0,1,2,6,7,8,9,19,20,21,11]) [.ptr 0 0,.list (b.map rrc) .no,.list (l.map rrc) .no,.bool ids,.bool sz,.bool ex,.list (ps.map u1) (.tok 2),.list (l.map rrc) .no,.int .i64 l.length,.int .i64 i,.ptr 3 0]∧az H [.cells [.ptr 1 0],.abs (rkM (ar w) m),.tok,.cells (rrc r)]∧Q .normal (av [0,1,2,6,7,8,9,19,20,21,11] [.ptr 0 0,.list (b.map rrc) .no,.list (l.map rrc) .no,.bool ids,.bool (sz || bV r),.bool ex,.list (ps.map u1) (.tok 2),.list (l.map rrc) .no,.int .i64 l.length,.int .i64 i,.ptr 3 0]) [.cells [.ptr 1 0],.abs (rkM (ar w) m),.tok,.cells (rrc r)]
theorem BI:∀ e H Q,Bn e H Q→AW Tryd.prog gl Tryd.f31.ntmps (cw [1,1,1,0,1,0,0,1,1,0,0,1,0] (ai Tryd.f31)) Q e H:=by
 rintro e H Q ⟨w,m,b,l,r,ids,sz,ex,ps,i,hrl,he,hH,hQ⟩
 have hH:H=_:=hH
 subst hH
 have he:List.map e [0,1,2,6,7,8,9,19,20,21,11]=_:=he
 refine dQ (T:=[]) (slots:=[0,1,2,6,7,8,9,19,20,21,11]) (outs:=[0,1,2,6,7,8,9,19,20,21,11]) (hn:=fun _=>0) (.nil _ _) (.nil _ _ _ _ _) he rfl (Jw w m b l ids sz ex ps r i (fun ex' vs H'=>Q ex' (av [0,1,2,6,7,8,9,19,20,21,11] vs) H') ?_)
 simp only[ay,List.length_map]
 have tail:∀ z:Bool,z=(sz || bV r)→Q .normal (av [0,1,2,6,7,8,9,19,20,21,11] [.ptr 0 0,.list (b.map rrc) .no,.list (l.map rrc) .no,.bool ids,.bool z,.bool ex,.list (ps.map u1) (.tok 2),.list (l.map rrc) .no,.int .i64 l.length,.int .i64 i,.ptr 3 0]) [.cells [.ptr 1 0],.abs (rkM (ar w) m),.tok,.cells (rrc r)]:=by rintro z rfl; exact hQ
 unfold bV at tail
 by_cases h0:sz=false
 ·rw[if_pos (by rw[h0]; rfl)]
  by_cases h1:(r.tm != 1)=true
  ·rw[if_pos (by rw[h1]; rfl)]
   by_cases h2:(r.tm != 2)=false
   ·rw[if_pos (by rw[h2]; rfl)]
    by_cases h3:r.pl.length<1
    ·rw[if_neg (by simp; omega)]; exact tail _ (by rw[decide_eq_true h3]; simp)
    ·rw[if_pos (by simp; omega)]; exact tail _ (by rw[h0,h1,h2,decide_eq_false h3]; simp; omega)
   ·rw[if_neg (by simpa using h2)]; exact tail _ (by rw[h1,bnf h2]; simp)
  ·rw[if_neg (by simpa using h1)]
   have h1':(r.tm != 1)=false:=by simpa using h1
   by_cases h3:r.pl.length<1
   ·rw[if_neg (by simp; omega)]; exact tail _ (by rw[decide_eq_true h3]; simp)
   ·rw[if_pos (by simp; omega)]; exact tail _ (by rw[h0,h1',decide_eq_false h3]; simp; omega)
 ·rw[if_neg (by simpa using h0)]; exact tail _ (by rw[bnf h0]; simp)
theorem EU:cw [1,1,0,0,1,0] (an [1,1,1,0,1,0] (ai Tryd.f31))=cw [1,1,1,0,1,0,0,1,1,0,0,1,0] (ai Tryd.f31):=by kernel_rfl
theorem pA:∀ e H Q,Bn e H Q→AW Tryd.prog gl Tryd.f31.ntmps (cw [1,1,0,0,1,0] (an [1,1,1,0,1,0] (ai Tryd.f31))) Q e H:=by
 rw[EU]; exact BI
theorem wy (w:List Mt) (m:Int) (b l:List Rr) (ids sz ex:Bool) (i:Nat):(by refine(?_:_→_→_→_→_→_→Prop) (List.getD (l.map rrc) (Int.toNat (i:Int)) []) (PV.list (l.map rrc) .no) (Ob.abs (rkM (ar w) m)) (Ob.cells [.ptr 1 0]) (PV.list (b.map rrc) .no) (PV.int .i64 l.length); exact fun u x y A B C=>by refine(?_:_→_→Prop) [PV.ptr 0 0,B,x,.bool ids,.bool sz,.bool ex,.list [] .exact,x,C,.int .i64 i] [A,y]; exact fun v z=>∀(R:Ex→List PV→ae→Prop),(br (decide ((i:Int)<(l.length:Int))) (InL (l.map rrc) 4 (i:Int)∧br (true && aP [.int .i64,.list,.int .i64,.int .i64] 0 u) (∃(w_1:List Mt) (m_1:Int) (b_1:List Rr) (l_1:List Rr) (r:Rr) (ids_1:Bool) (sz_1:Bool) (ex_1:Bool) (i_1:Nat),by refine(?_:_→_→_→_→Prop) (PV.list (l_1.map rrc) .no) (PV.list (r.pl.map u1) .no) (PV.list (b_1.map rrc) .no) (PV.int .i64 l_1.length); exact fun o p q t=>by refine(?_:_→Prop) [A,.abs (rkM (ar w_1) m_1),.cells [.int .i64 r.tm,p,.int .i64 r.rt,.int .i64 r.wd]]; exact fun n=>r.pl.length≤1000000∧ak [.ptr 0 0,B,x,.bool ids,.bool sz,.bool ex,.list [] .exact,x,C,.int .i64 i,.ptr 2 0] [.ptr 0 0,q,o,.bool ids_1,.bool sz_1,.bool ex_1,.list [] .exact,o,t,.int .i64 i_1,.ptr 2 0]∧az [.cells [.ptr 1 0],y,.cells [.int .i64 (cI u 0),.list (cL u 1) (cT u 1),.int .i64 (cI u 2),.int .i64 (cI u 3)]] n∧∃(w:List Mt) (m:Int) (b:List Rr) (l:List Rr) (r_1:Rr) (s:WS) (sz:Bool) (i:Nat),by refine(?_:_→_→_→_→_→_→Prop) (PV.list (l.map rrc) .no) (PV.list (b.map rrc) .no) (PV.int .i64 l.length) (PV.int .i64 (wI ((i:Int)+1))) (PV.list (r_1.pl.map u1) .no) (Ob.abs (rkM (ar w) m)); exact fun c f g h j k=>by refine(?_:_→Prop) (Ob.cells [.int .i64 r_1.tm,j,.int .i64 r_1.rt,.int .i64 r_1.wd]); exact fun a=>by refine(?_:_→Prop) [A,k,a]; exact fun d=>MO w m∧r_1.pl.length≤1000000∧s.ps.length+r_1.pl.length≤1000000∧s.ps=[]∧ak [.ptr 0 0,q,o,.bool ids_1,.bool (sz_1 || bV r),.bool ex_1,.list [] .exact,o,t,.int .i64 i_1,.ptr 2 0,p,.int .i64 (↑(List.length (r.pl.map u1)):Int),.int .i64 0] [.ptr 0 0,f,c,.bool s.ids,.bool sz,.bool s.ex,.list [] .exact,c,g,.int .i64 i,.ptr 2 0,j,.int .i64 r_1.pl.length,.int .i64 0]∧az n d∧(r_1.pl=[]→R .normal [.ptr 0 0,f,c,.bool s.ids,.bool sz,.bool s.ex,.list [] .exact,c,g,h] d)∧(r_1.pl≠[]→R .normal [.ptr 0 0,f,c,.bool (WS.ids (wsP w s r_1.pl)),.bool sz,.bool (WS.ex (wsP w s r_1.pl)),.list (List.map u1 (WS.ps (wsP w s r_1.pl))) (.tok 3),c,g,h] [.cells [.ptr 1 0],k,a,.tok])) False) (R (.exit 0) v z))→Holds (wpc br Tryd.prog gl TWR [([1,1,0,0,1,1,1,0],uY),([1,1,0,0,1,0],Eh)] (fun _=>0) (an [1,1,1,0,1,0] (ai Tryd.f31)) [] (av [0,1,2,6,7,8,9,19,20,21] v) z (fun ex e H=>R ex (List.map e [0,1,2,6,7,8,9,19,20,21]) H)):Prop):=fun R h=>ag (by kernel_rfl) h
theorem vr (w:List Mt) (m:Int) (b l:List Rr) (ids sz ex:Bool) (ps:List Int) (i:Nat):(by refine(?_:_→_→_→_→_→_→_→Prop) (List.getD (l.map rrc) (Int.toNat (i:Int)) []) (PV.list (l.map rrc) .no) (Ob.cells [.ptr 1 0]) (PV.list (ps.map u1) (.tok 2)) (Ob.abs (rkM (ar w) m)) (PV.list (b.map rrc) .no) (PV.int .i64 l.length); exact fun x z B C D E F=>by refine(?_:_→_→Prop) [PV.ptr 0 0,E,z,.bool ids,.bool sz,.bool ex,C,z,F,.int .i64 i] [B,D,.tok]; exact fun y A=>∀(R:Ex→List PV→ae→Prop),(br (decide ((i:Int)<(l.length:Int))) (InL (l.map rrc) 4 (i:Int)∧br (true && aP [.int .i64,.list,.int .i64,.int .i64] 0 x) (∃(w_1:List Mt) (m_1:Int) (b_1:List Rr) (l_1:List Rr) (r:Rr) (ids_1:Bool) (sz_1:Bool) (ex_1:Bool) (ps_1:List Int) (i_1:Nat),by refine(?_:_→_→_→_→_→Prop) (PV.list (l_1.map rrc) .no) (PV.list (ps_1.map u1) (.tok 2)) (PV.list (r.pl.map u1) .no) (PV.list (b_1.map rrc) .no) (PV.int .i64 l_1.length); exact fun p q t u v=>by refine(?_:_→Prop) [B,.abs (rkM (ar w_1) m_1),.tok,.cells [.int .i64 r.tm,t,.int .i64 r.rt,.int .i64 r.wd]]; exact fun o=>r.pl.length≤1000000∧ak [.ptr 0 0,E,z,.bool ids,.bool sz,.bool ex,C,z,F,.int .i64 i,.ptr 3 0] [.ptr 0 0,u,p,.bool ids_1,.bool sz_1,.bool ex_1,q,p,v,.int .i64 i_1,.ptr 3 0]∧az [.cells [.ptr 1 0],D,.tok,.cells [.int .i64 (cI x 0),.list (cL x 1) (cT x 1),.int .i64 (cI x 2),.int .i64 (cI x 3)]] o∧∃(w:List Mt) (m:Int) (b:List Rr) (l:List Rr) (r_1:Rr) (s:WS) (sz:Bool) (i:Nat),by refine(?_:_→_→_→_→_→_→_→Prop) (PV.list (l.map rrc) .no) (PV.list (b.map rrc) .no) (PV.int .i64 l.length) (PV.int .i64 (wI ((i:Int)+1))) (PV.list (s.ps.map u1) (.tok 2)) (PV.list (r_1.pl.map u1) .no) (Ob.abs (rkM (ar w) m)); exact fun c f g h j k n=>by refine(?_:_→Prop) (Ob.cells [.int .i64 r_1.tm,k,.int .i64 r_1.rt,.int .i64 r_1.wd]); exact fun a=>by refine(?_:_→Prop) [B,n,.tok,a]; exact fun d=>MO w m∧r_1.pl.length≤1000000∧s.ps.length+r_1.pl.length≤1000000∧ak [.ptr 0 0,u,p,.bool ids_1,.bool (sz_1 || bV r),.bool ex_1,q,p,v,.int .i64 i_1,.ptr 3 0,t,.int .i64 (↑(List.length (r.pl.map u1)):Int),.int .i64 0] [.ptr 0 0,f,c,.bool s.ids,.bool sz,.bool s.ex,j,c,g,.int .i64 i,.ptr 3 0,k,.int .i64 r_1.pl.length,.int .i64 0]∧az o d∧(r_1.pl=[]→R .normal [.ptr 0 0,f,c,.bool s.ids,.bool sz,.bool s.ex,j,c,g,h] d)∧(r_1.pl≠[]→R .normal [.ptr 0 0,f,c,.bool (WS.ids (wsP w s r_1.pl)),.bool sz,.bool (WS.ex (wsP w s r_1.pl)),.list (List.map u1 (WS.ps (wsP w s r_1.pl))) (.tok 4),c,g,h] [.cells [.ptr 1 0],n,.dead,a,.tok])) False) (R (.exit 0) y A))→Holds (wpc br Tryd.prog gl TWR [([1,1,0,0,1,1,1,0],tu),([1,1,0,0,1,0],Bn)] (fun _=>0) (an [1,1,1,0,1,0] (ai Tryd.f31)) [] (av [0,1,2,6,7,8,9,19,20,21] y) A (fun ex e H=>R ex (List.map e [0,1,2,6,7,8,9,19,20,21]) H)):Prop):=fun R h=>ag (by kernel_rfl) h
theorem jf {ρ:Nat→Nat} {n:Nat} {b l:List Rr} {ids sz ex:Bool} {z:Int} {T T':PV} (h0:0<n∧ρ 0=0) (hT:Ren ρ n T T'):aW ρ n [.ptr 0 0,.list (b.map rrc) .no,.list (l.map rrc) .no,.bool ids,.bool sz,.bool ex,T,.list (l.map rrc) .no,.int .i64 l.length,.int .i64 z] [.ptr 0 0,.list (b.map rrc) .no,.list (l.map rrc) .no,.bool ids,.bool sz,.bool ex,T',.list (l.map rrc) .no,.int .i64 l.length,.int .i64 z]:=by
 have e0:=Ren.ptr (ρ:=ρ) (n:=n) 0 0 h0.1
 rw[h0.2] at e0
 exact .cons e0 (.cons (.low (aQ _)) (.cons (.low (aQ _)) (.cons (.low (.bool _)) (.cons (.low (.bool _)) (.cons (.low (.bool _)) (.cons hT (.cons (.low (aQ _)) (.cons (.low (.int _ _)) (.cons (.low (.int _ _)) .nil)))))))))
theorem sP {l:List Rr} {k:Nat} (h:k<l.length):(l.take (k+1)).any bV=((l.take k).any bV || bV (l.getD k default)):=by
 rw[aZ default h,List.any_append]; simp
def ws0:WS:=⟨false,false,[]⟩
def Ie:LSp:=fun e H Q=>∃(w:List Mt) (m:Int) (b l:List Rr) (sz:Bool),MO w m∧l.length≤1000000∧tot l≤1000000∧ak (List.map e [0,1,2,6,7,8,9,19,20,21]) [.ptr 0 0,.list (b.map rrc) .no,.list (l.map rrc) .no,.bool false,.bool sz,.bool false,.list [] .exact,.list (l.map rrc) .no,.int .i64 l.length,.int .i64 0]∧az H [.cells [.ptr 1 0],.abs (rkM (ar w) m)]∧∀(T:PV) (G:ae),Q (.exit 0) (av [0,1,2,6,7,8,9,19,20,21] [.ptr 0 0,.list (b.map rrc) .no,.list (l.map rrc) .no,.bool (wsR w ws0 l).ids,.bool (sz || l.any bV),.bool (wsR w ws0 l).ex,T,.list (l.map rrc) .no,.int .i64 l.length,.int .i64 l.length]) ([.cells [.ptr 1 0],.abs (rkM (ar w) m)]++G)
theorem zf:∀ e H Q,Ie e H Q→AW Tryd.prog gl Tryd.f31.ntmps (.loop (an [1,1,1,0,1,0] (ai Tryd.f31))) Q e H:=by
 rintro e H Q ⟨w,m,b,l,sz,ro,hl,ht,he,hH,hQ⟩
 have hH:H=_:=hH
 have he:List.map e [0,1,2,6,7,8,9,19,20,21]=_:=he
 have hHl:H.length=2:=by rw[hH]; rfl
 have hpl:∀ r∈l,r.pl.length≤1000000:=fun r hr=>Nat.le_trans (u4 hr) ht
 refine sW (σ:=Nat) aq [0,1,2,6,7,8,9,19,20,21] (fun i=>i≤l.length) (fun i=>if(wsR w ws0 (l.take i)).ps=[] then [.ptr 0 0,.list (b.map rrc) .no,.list (l.map rrc) .no,.bool (wsR w ws0 (l.take i)).ids,.bool (sz || (l.take i).any bV),.bool (wsR w ws0 (l.take i)).ex,.list [] .exact,.list (l.map rrc) .no,.int .i64 l.length,.int .i64 i] else [.ptr 0 0,.list (b.map rrc) .no,.list (l.map rrc) .no,.bool (wsR w ws0 (l.take i)).ids,.bool (sz || (l.take i).any bV),.bool (wsR w ws0 (l.take i)).ex,.list ((wsR w ws0 (l.take i)).ps.map u1) (.tok 2),.list (l.map rrc) .no,.int .i64 l.length,.int .i64 i]) (fun i=>if(wsR w ws0 (l.take i)).ps=[] then [.cells [.ptr 1 0],.abs (rkM (ar w) m)] else [.cells [.ptr 1 0],.abs (rkM (ar w) m),.tok]) (fun i=>l.length-i) 0 (Nat.zero_le _) (by rw[he,List.take_zero,if_pos (show(wsR w ws0 []).ps=[] from rfl)]; simp[wsR,ws0]) (by rw[hH,List.take_zero,if_pos (show(wsR w ws0 []).ps=[] from rfl)]) ?_
 rw[hHl]
 intro i hi
 have hi:i≤l.length:=hi
 by_cases h:i<l.length
 ·obtain⟨r,hr⟩:∃ r,r=l.getD i default:=⟨_,rfl⟩
  have hsucc:=sX w ws0 h
  have hany:=sP h
  rw[← hr] at hsucc hany
  have hrl:r.pl.length≤1000000:=hpl r (by rw[hr]; exact bj h)
  have hsl:(wsR w ws0 (l.take i)).ps.length+r.pl.length≤1000000:=by
   have h1:=qH w (l.take (i+1)) ws0
   have h2:=fC (l:=l) (i+1)
   rw[hsucc,eC,List.length_append] at h1
   have:ws0.ps.length=0:=rfl
   omega
  have inl:InL (l.map rrc) 4 (i:Int):=by rw[dF]; exact h
  have hps:=eC w r.pl (wsR w ws0 (l.take i))
  have tailE:r.pl=[]→wsP w (wsR w ws0 (l.take i)) r.pl=wsR w ws0 (l.take i):=fun e=>by rw[e]; rfl
  have hor:(sz || (l.take (i+1)).any bV)=((sz || (l.take i).any bV) || bV r):=by rw[hany,Bool.or_assoc]
  by_cases h0:(wsR w ws0 (l.take i)).ps=[]
  ·simp only[if_pos h0]
   refine aY jJ _ [] (.cons (aH (by kernel_rfl)) nP (.cons (jz (by kernel_rfl)) qc (.nil _ _ _ _ _))) _ _ _ (wy w m b l (wsR w ws0 (l.take i)).ids (sz || (l.take i).any bV) (wsR w ws0 (l.take i)).ex i _ ?_).out
   simp only[ay,dt,au,getD_map default h,← hr]
   rw[if_pos (by omega)]
   refine⟨inl,?_⟩
   rw[if_pos (by rfl)]
   refine⟨w,m,b,l,r,_,_,_,i,hrl,rfl,rfl,w,m,b,l,r,wsR w ws0 (l.take i),(sz || (l.take i).any bV || bV r),i,ro,hrl,hsl,h0,(by show _=_; simp only[List.length_map]),rfl,fun hn=>?_,fun hn=>?_⟩
   ·have e2:(wsR w ws0 (l.take (i+1))).ps=[]:=by rw[hsucc,tailE hn]; exact h0
    refine⟨i+1,(show l.length-(i+1)<l.length-i by omega),h,?_⟩
    simp only[if_pos e2]
    rw[hor,hsucc,tailE hn,ax h (by omega)]
    exact aS [0,1] (WkL.refl _) (.cons rfl (.cells (.cons (.ptr (ρ:=fun o=>[0,1].getD o 0) 1 0 (by simp)) .nil)) (.cons rfl (.abs _) .nil)) (by decide) (by simp) (fun o ho=>by match o,ho with|0,_=>rfl|1,_=>rfl) (jf ⟨by simp,rfl⟩ (.low (aI NT.exact (by simp))))
   ·have e2:(wsR w ws0 (l.take (i+1))).ps≠[]:=by rw[hsucc,hps,h0]; simpa using hn
    refine⟨i+1,(show l.length-(i+1)<l.length-i by omega),h,?_⟩
    simp only[if_neg e2]
    rw[hor,hsucc,ax h (by omega)]
    exact aS [0,1,3] (WkL.refl _) (.cons rfl (.cells (.cons (.ptr (ρ:=fun o=>[0,1,3].getD o 0) 1 0 (by simp)) .nil)) (.cons rfl (.abs _) (.cons rfl .tok .nil))) (by decide) (by simp) (fun o ho=>by match o,ho with|0,_=>rfl|1,_=>rfl) (jf ⟨by simp,rfl⟩ (.ltok (ρ:=fun o=>[0,1,3].getD o 0) _ 2 (by simp) (bh fun a _=>bU a)))
  ·simp only[if_neg h0]
   refine aY jJ _ [] (.cons (aH (by kernel_rfl)) nX (.cons (jz (by kernel_rfl)) pA (.nil _ _ _ _ _))) _ _ _ (vr w m b l (wsR w ws0 (l.take i)).ids (sz || (l.take i).any bV) (wsR w ws0 (l.take i)).ex (wsR w ws0 (l.take i)).ps i _ ?_).out
   simp only[ay,dt,au,getD_map default h,← hr]
   rw[if_pos (by omega)]
   refine⟨inl,?_⟩
   rw[if_pos (by rfl)]
   refine⟨w,m,b,l,r,_,_,_,_,i,hrl,rfl,rfl,w,m,b,l,r,wsR w ws0 (l.take i),(sz || (l.take i).any bV || bV r),i,ro,hrl,hsl,(by show _=_; simp only[List.length_map]),rfl,fun hn=>?_,fun hn=>?_⟩
   ·have e2:(wsR w ws0 (l.take (i+1))).ps≠[]:=by rw[hsucc,tailE hn]; exact h0
    refine⟨i+1,(show l.length-(i+1)<l.length-i by omega),h,?_⟩
    simp only[if_neg e2]
    rw[hor,hsucc,tailE hn,ax h (by omega)]
    exact aS [0,1,2] (WkL.refl _) (.cons rfl (.cells (.cons (.ptr (ρ:=fun o=>[0,1,2].getD o 0) 1 0 (by simp)) .nil)) (.cons rfl (.abs _) (.cons rfl .tok .nil))) (by decide) (by simp) (fun o ho=>by match o,ho with|0,_=>rfl|1,_=>rfl) (jf ⟨by simp,rfl⟩ (.ltok (ρ:=fun o=>[0,1,2].getD o 0) _ 2 (by simp) (bh fun a _=>bU a)))
   ·have e2:(wsR w ws0 (l.take (i+1))).ps≠[]:=by rw[hsucc,hps]; exact fun e=>h0 (List.append_eq_nil_iff.1 e).1
    refine⟨i+1,(show l.length-(i+1)<l.length-i by omega),h,?_⟩
    simp only[if_neg e2]
    rw[hor,hsucc,ax h (by omega)]
    exact aS [0,1,4] (WkL.refl _) (.cons rfl (.cells (.cons (.ptr (ρ:=fun o=>[0,1,4].getD o 0) 1 0 (by simp)) .nil)) (.cons rfl (.abs _) (.cons rfl .tok .nil))) (by decide) (by simp) (fun o ho=>by match o,ho with|0,_=>rfl|1,_=>rfl) (jf ⟨by simp,rfl⟩ (.ltok (ρ:=fun o=>[0,1,4].getD o 0) _ 2 (by simp) (bh fun a _=>bU a)))
 ·have hil:i=l.length:=by omega
  subst hil
  by_cases h0:(wsR w ws0 (l.take l.length)).ps=[]
  ·simp only[if_pos h0]
   refine aY jJ _ [] (.cons (aH (by kernel_rfl)) nP (.cons (jz (by kernel_rfl)) qc (.nil _ _ _ _ _))) _ _ _ (wy w m b l _ _ _ l.length _ ?_).out
   simp only[ay,dt]
   rw[if_neg (by omega)]
   refine⟨_,_,aS [0,1] (WkL.refl _) (.cons rfl (.cells (.cons (.ptr (ρ:=fun o=>[0,1].getD o 0) 1 0 (by simp)) .nil)) (.cons rfl (.abs _) .nil)) (by decide) (by simp) (fun o ho=>by match o,ho with|0,_=>rfl|1,_=>rfl) (jf ⟨by simp,rfl⟩ (.low (aI NT.exact (by simp)))),?_⟩
   have:=hQ (.list [] .exact) []
   rw[List.take_length]
   exact this
  ·simp only[if_neg h0]
   refine aY jJ _ [] (.cons (aH (by kernel_rfl)) nX (.cons (jz (by kernel_rfl)) pA (.nil _ _ _ _ _))) _ _ _ (vr w m b l _ _ _ _ l.length _ ?_).out
   simp only[ay,dt]
   rw[if_neg (by omega)]
   refine⟨_,_,aS [0,1,2] (WkL.refl _) (.cons rfl (.cells (.cons (.ptr (ρ:=fun o=>[0,1,2].getD o 0) 1 0 (by simp)) .nil)) (.cons rfl (.abs _) (.cons rfl .tok .nil))) (by decide) (by simp) (fun o ho=>by match o,ho with|0,_=>rfl|1,_=>rfl) (jf ⟨by simp,rfl⟩ (.ltok (ρ:=fun o=>[0,1,2].getD o 0) _ 2 (by simp) (bh fun a _=>bU a))),?_⟩
   have:=hQ (.list ((wsR w ws0 l).ps.map u1) (.tok 2)) [.tok]
   rw[List.take_length]
   exact this
theorem FN (w:List Mt) (m:Int) (b l:List Rr):∀(K:PV→ae→Prop),(∃(w_1:List Mt) (m_1:Int) (b_1:List Rr) (l_1:List Rr) (sz:Bool),by refine(?_:_→_→_→_→Prop) [Ob.cells [.ptr 1 0],.abs (rkM (ar w_1) m_1)] (PV.list (l_1.map rrc) .no) (PV.bool (WS.ids (wsR w_1 ws0 l_1))) (PV.bool (WS.ex (wsR w_1 ws0 l_1))); exact fun d e f g=>MO w_1 m_1∧l_1.length≤1000000∧tot l_1≤1000000∧ak [.ptr 0 0,.list (b.map rrc) .no,.list (l.map rrc) .no,.bool false,.bool ((↑(List.length (l.map rrc)):Int) == 0),.bool false,.list [] .exact,.list (l.map rrc) .no,.int .i64 (↑(List.length (l.map rrc)):Int),.int .i64 0] [.ptr 0 0,.list (b_1.map rrc) .no,e,.bool false,.bool sz,.bool false,.list [] .exact,e,.int .i64 l_1.length,.int .i64 0]∧az [.cells [.ptr 1 0],.abs (rkM (ar w) m)] d∧∀(_:PV),∀(G:ae),by refine(?_:_→Prop) (d++G); exact fun c=>∃(a:List Rr) (b:List Rr),ak [.list [[PV.list (b_1.map rrc) .no],[e]] .exact] [.list [[PV.list (a.map rrc) .no],[.list (b.map rrc) .no]] .exact]∧a.length+b.length≤1000000∧∃(l:List Rr) (tl:Tail),ak [.list (List.map rrc (a++b)) .no] [.list (l.map rrc) tl]∧l.length≤1000000∧tot l≤1000000∧br ((sz || List.any l_1 bV) == false) (K (.tup [f,.bool (decide (mxI (↑(taken l 1):Int) (↑(taken l 2):Int)>4)),g]) c) (K (.tup [f,.bool true,g]) c))→aj Tryd.prog gl 31 [.ptr 0 0,.list (b.map rrc) .no,.list (l.map rrc) .no] [.cells [.ptr 1 0],.abs (rkM (ar w) m)] K:=fun K h=>ah (T:=TWR) (L:=[([1,1,1,0,1,0],Ie)]) (fun _=>0) Tryd.func31 (by kernel_rfl) (by kernel_rfl) (by kernel_rfl) (jJ) (.cons (aH (by kernel_rfl)) zf (.nil _ _ _ _ _)) (ag (by kernel_rfl) h)
def szW (b l:List Rr):Bool:=((l.length:Int) == 0) || l.any bV || decide (mxI (taken (b++l) 1:Int) (taken (b++l) 2:Int)>4)
def iR (args:List PV) (H:ae) (K:PV→Prop):Prop:=∃(q r:Nat) (w:List Mt) (m:Int) (b l:List Rr) (t1 t2:Tail),ak args [.ptr q 0,.list (b.map rrc) t1,.list (l.map rrc) t2]∧cC H q r (rkM (ar w) m)∧MO w m∧b.length+l.length≤1000000∧tot b+tot l≤1000000∧
 K (.tup [.bool (wsR w ws0 l).ids,.bool (szW b l),.bool (wsR w ws0 l).ex])
theorem nx (a b:List Rr):tot (a++b)=tot a+tot b:=by unfold tot; rw[List.map_append,List.sum_append]
theorem oX:aO Tryd.prog gl 31 (.read iR):=by
 rintro args H K ⟨q,r,w,m,b,l,t1,t2,he,hb,ro,hl,ht,hk⟩
 have he:args=_:=he
 subst he
 refine⟨_,bg (.cons (.refl _) (.cons (.list _ _) (.cons (.list _ _) .nil))) (ji aq hb (bF (aQ b) (aQ l)) (.tup _ (dK (.bool _) (.bool _) (.bool _))) (FN w m b l _ ⟨w,m,b,l,((l.length:Int) == 0),ro,by omega,by omega,?_,rfl,fun _ G=>⟨b,l,rfl,hl,b++l,.no,rfl,by rw[List.length_append]; exact hl,by rw[nx]; exact ht,?_⟩⟩)),hk⟩
 ·show _=_
  simp only[List.length_map]
 ·rw[ay]
  unfold szW
  by_cases c:(((l.length:Int) == 0) || l.any bV)=true
  ·rw[if_neg (by rw[c]; decide),c]
   exact⟨rfl,G,rfl⟩
  ·rw[if_pos (by simpa using c),show(((l.length:Int) == 0) || l.any bV)=false by simpa using c]
   exact⟨rfl,G,rfl⟩
end Go.Proofs.YtenaelaapdhbdaaDoor
