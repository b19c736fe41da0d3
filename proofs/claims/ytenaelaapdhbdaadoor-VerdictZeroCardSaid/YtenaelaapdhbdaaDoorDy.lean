/-
  The document's acts.
-/
import Derived.Test.YtenaelaapdhbdaaDoorDx
import Derived.Test.YtenaelaapdhbdaaDoorProg
namespace Go.Proofs.YtenaelaapdhbdaaDoor
open Go Go.AM Go.Proofs
theorem Ip (z:List PV) (c:Mt) (l:List Rr):(by refine(?_:_→_→_→_→Prop) [PV.list (l.map rrc) .no,.ptr 0 0,.ptr 1 0] (PV.list (c.aa.map stc) .no) (List.flatten (l.map rrc)) ([]++c.rows.map rrc); exact fun a b d f=>∀(R:Ex→List PV→ae→Prop),(aX [] (c.rows.map rrc) 4 48∧List.all (List.flatten (c.rows.map rrc)) PV.one=true∧(c.rows.map rrc=[]→aX [] (l.map rrc) 4 48∧List.all d PV.one=true∧(l.map rrc=[]→R .normal a [.cells [.int .u32 c.id,.int .i64 c.md,.int .u32 c.ins,.list [] .exact,b],.cells z])∧(l.map rrc≠[]→R .normal a [.cells [.int .u32 c.id,.int .i64 c.md,.int .u32 c.ins,.list ([]++l.map rrc) (.tok 2),b],.cells z,.tok]))∧(c.rows.map rrc≠[]→aX f (l.map rrc) 4 48∧List.all d PV.one=true∧(l.map rrc=[]→R .normal a [.cells [.int .u32 c.id,.int .i64 c.md,.int .u32 c.ins,.list f (.tok 2),b],.cells z,.tok])∧(l.map rrc≠[]→R .normal a [.cells [.int .u32 c.id,.int .i64 c.md,.int .u32 c.ins,.list ([]++c.rows.map rrc++l.map rrc) (.tok 3),b],.cells z,.dead,.tok])))→Holds (wpc br Tryd.prog gl [] [] (fun o=>match o.dst with|some 12=>4|some 14=>4|_=>0) (cw [1,0] (ai Tryd.f37)) [] (av [1,2,4] a) [.cells (mtc c),.cells z] (fun ex e H=>R ex (List.map e [1,2,4]) H)):Prop):=fun R h=>ag (by kernel_rfl) h
theorem zR {cs cs':List PV} (h:WkL cs cs') (R:ae):WkH (.cells cs::R) (.cells cs'::R):=by
 refine⟨rfl,fun o b ho=>?_⟩
 cases o with
 | zero=>simp at ho; subst ho; exact⟨_,rfl,.cells h⟩
 | succ o=>exact⟨b,by simpa using ho,.refl b⟩
def mwR (c:Mt) (T:PV):List PV:=[.int .u32 c.id,.int .i64 c.md,.int .u32 c.ins,T,.list (c.aa.map stc) .no]
theorem EN {c:Mt} {l:List Rr}:∀ x∈mwR c (.list (l.map rrc) .no),Low 0 x:=fY (.int _ _) (.int _ _) (.int _ _) (aQ _) (dg _)
theorem kB {c:Mt} {l k:List Rr} {t:Tail} {z:List PV} {G:ae} (hz:∀ x∈z,Low 0 x):dV 2 [.list (l.map rrc) .no,.ptr 0 0,.ptr 1 0] (.cells (mwR c (.list (k.map rrc) t)) :: .cells z::G) [.list (l.map rrc) .no,.ptr 0 0,.ptr 1 0] [.cells (mwR c (.list (k.map rrc) .no)),.cells z]:=by
 refine Gf (B':=[.cells (mwR c (.list (k.map rrc) t)),.cells z]) (B:=[.cells (mwR c (.list (k.map rrc) .no)),.cells z]) (X:=G) (kK (fun x hx=> .low (EN x hx)) (fun x hx=> .low (hz x hx))) (WkL.refl _) (zR (.cons (.refl _) (.cons (.refl _) (.cons (.refl _) (.cons (.list _ _) (.cons (.refl _) .nil))))) _) ?_ (by simp)
 intro v hv
 simp only[List.mem_cons,List.not_mem_nil,or_false] at hv
 rcases hv with rfl|rfl|rfl
 ·exact .low (aQ l)
 ·exact .ptr _ _ (by simp)
 ·exact .ptr _ _ (by simp)
def HQ:LSp:=fun e H Q=>∃(z:List PV) (c:Mt) (l:List Rr),(∀ x∈z,Low 0 x)∧c.rows.length+l.length≤1000000∧ak (List.map e [1,2,4]) [.list (l.map rrc) .no,.ptr 0 0,.ptr 1 0]∧az H [.cells (mtc c),.cells z]∧
 Q .normal (av [1,2,4] [.list (l.map rrc) .no,.ptr 0 0,.ptr 1 0]) [.cells [.int .u32 c.id,.int .i64 c.md,.int .u32 c.ins,.list ((c.rows++l).map rrc) .no,.list (c.aa.map stc) .no],.cells z]
theorem DW:∀ e H Q,HQ e H Q→AW Tryd.prog gl Tryd.f37.ntmps (cw [1,0] (ai Tryd.f37)) Q e H:=by
 rintro e H Q ⟨z,c,l,hz,hl,he,hH,hQ⟩
 have hH:H=_:=hH
 subst hH
 have he:List.map e [1,2,4]=_:=he
 refine AW.lm aq (slots:=[1,2,4]) (dQ (T:=[]) (slots:=[1,2,4]) (outs:=[1,2,4]) (hn:=fun o=>match o.dst with|some 12=>4|some 14=>4|_=>0) (.nil _ _) (.nil _ _ _ _ _) he rfl (Ip z c l (fun ex vs H'=>∃ vs2 H2,dV 2 vs H' vs2 H2∧Q ex (av [1,2,4] vs2) H2) ?_))
 refine⟨iY (a:=[]) (b:=c.rows) (by simp; omega),lX _,fun e1=>⟨iY (a:=[]) (b:=l) (by simp; omega),lX _,fun e2=>?_,fun e2=>?_⟩,fun e1=>⟨iY (a:=c.rows) (b:=l) hl,lX _,fun e2=>?_,fun e2=>?_⟩⟩
 ·have e3:c.rows=[]:=List.map_eq_nil_iff.1 e1
  have e4:l=[]:=List.map_eq_nil_iff.1 e2
  have:=kB (c:=c) (l:=l) (k:=c.rows++l) (t:= .exact) (G:=[]) hz
  refine⟨_,_,?_,hQ⟩
  rw[e3,e4] at this ⊢
  exact this
 ·have e3:c.rows=[]:=List.map_eq_nil_iff.1 e1
  have:=kB (c:=c) (l:=l) (k:=c.rows++l) (t:= .tok 2) (G:=[.tok]) hz
  refine⟨_,_,?_,hQ⟩
  rw[e3] at this ⊢
  exact this
 ·have e4:l=[]:=List.map_eq_nil_iff.1 e2
  have:=kB (c:=c) (l:=l) (k:=c.rows++l) (t:= .tok 2) (G:=[.tok]) hz
  refine⟨_,_,?_,hQ⟩
  rw[e4,List.append_nil] at this ⊢
  exact this
 ·have:=kB (c:=c) (l:=l) (k:=c.rows++l) (t:= .tok 3) (G:=[.dead,.tok]) hz
  refine⟨_,_,?_,hQ⟩
  rw[List.map_append] at this ⊢
  exact this
def Kl:LSp:=fun e H Q=>Hj e H Q∨HB e H Q
theorem Ew:∀ e H Q,Kl e H Q→AW Tryd.prog gl Tryd.f37.ntmps (.loop (an [1,1,1,0,1,0] (ai Tryd.f37))) Q e H:=by
 rintro e H Q (h|h)
 ·exact Aq e H Q h
 ·exact B5 e H Q h
theorem F9 (c:Mt) (l:List Rr):∀(K:PV→Prop),(∃(z:List PV) (c_1:Mt) (l_1:List Rr),by refine(?_:_→_→Prop) (c_1.aa.map stc) (PV.list (l_1.map rrc) .no); exact fun t u=>by refine(?_:_→_→_→Prop) (Ob.cells [.int .u32 c_1.id,.int .i64 c_1.md,.int .u32 c_1.ins,.list (List.map rrc (c_1.rows++l_1)) .no,.list t .no]) [u,.ptr 0 0,.ptr 1 0,.list ([]++c_1.aa.map stc) (.tok 2),.int .i64 0] [u,.ptr 0 0,.ptr 1 0,.list [] .exact,.int .i64 0]; exact fun q r s=>by refine(?_:_→Prop) [q,.cells z,.tok]; exact fun v=>(∀(x:PV),x∈z→Low 0 x)∧c_1.rows.length+l_1.length≤1000000∧ak [.list (l.map rrc) .no,.ptr 0 0,.ptr 1 0] [.list (l_1.map rrc) .no,.ptr 0 0,.ptr 1 0]∧az [.cells [.int .u32 c.id,.int .i64 c.md,.int .u32 c.ins,.list (c.rows.map rrc) .no,.list (c.aa.map stc) .no],.cells [.int .u32 0,.int .i64 0,.int .u32 0,.list [] .exact,.list [] .exact]] [.cells [.int .u32 c_1.id,.int .i64 c_1.md,.int .u32 c_1.ins,.list (c_1.rows.map rrc) .no,.list t .no],.cells z]∧aX [] t 6 48∧List.all (List.flatten t) PV.one=true∧(c_1.aa.map stc=[]→(∃(p:List PV) (z_1:List PV) (l:List Rr) (c:Mt),(∀(x:PV),x∈p→Low 0 x)∧(∀(x:PV),x∈z_1→Low 0 x)∧l.length≤1000000∧tot l≤1000000∧c.aa=[]∧ak s [.list (l.map rrc) .no,.ptr 0 0,.ptr 1 0,.list [] .exact,.int .i64 0]∧az [q,.cells z] [.cells p,.cells z_1]∧∀(_:List Ob),∃(l_2:List Se) (tl:Tail),by refine(?_:_→Prop) [PV.list (List.map stc (byI l_2 8)) .no]; exact fun e=>by refine(?_:_→Prop) (List.drop 0 (over p 4 e)); exact fun a=>by refine(?_:_→Prop) [PV.int .u32 (cI a 0),.int .i64 (cI a 1),.int .u32 (cI a 2),.list (cL a 3) (cT a 3),.list (cL a 4) (cT a 4)]; exact fun d=>ak [.list (List.map stc (dP c l)) .no] [.list (l_2.map stc) tl]∧l_2.length≤1000000∧br (1 == 1 && List.all e PV.one && decide (5≤p.length) && true) (br (true && aP [.int .u32,.int .i64,.int .u32,.list,.list] 0 a) (br (5 == 5 && List.all d PV.one && decide (5≤z_1.length) && true) (K (.agg d)) False) False) False)∨∃(p:List PV) (z_1:List PV) (l:List Rr) (c:Mt) (b:List Se),(∀(x:PV),x∈p→Low 0 x)∧(∀(x:PV),x∈z_1→Low 0 x)∧l.length≤1000000∧b.length+tot l≤1000000∧SO c.aa∧List.Perm b c.aa∧ak s [.list (l.map rrc) .no,.ptr 0 0,.ptr 1 0,.list (b.map stc) (.tok 2),.int .i64 0]∧az [q,.cells z] [.cells p,.cells z_1,.tok]∧∀(_:List Ob),∃(l_2:List Se) (tl:Tail),by refine(?_:_→Prop) [PV.list (List.map stc (byI l_2 8)) .no]; exact fun h=>by refine(?_:_→Prop) (List.drop 0 (over p 4 h)); exact fun f=>by refine(?_:_→Prop) [PV.int .u32 (cI f 0),.int .i64 (cI f 1),.int .u32 (cI f 2),.list (cL f 3) (cT f 3),.list (cL f 4) (cT f 4)]; exact fun g=>ak [.list (List.map stc (b++dP c l)) .no] [.list (l_2.map stc) tl]∧l_2.length≤1000000∧br (1 == 1 && List.all h PV.one && decide (5≤p.length) && true) (br (true && aP [.int .u32,.int .i64,.int .u32,.list,.list] 0 f) (br (5 == 5 && List.all g PV.one && decide (5≤z_1.length) && true) (K (.agg g)) False) False) False)∧(c_1.aa.map stc≠[]→(∃(p:List PV) (z_1:List PV) (l:List Rr) (c:Mt),(∀(x:PV),x∈p→Low 0 x)∧(∀(x:PV),x∈z_1→Low 0 x)∧l.length≤1000000∧tot l≤1000000∧c.aa=[]∧ak r [.list (l.map rrc) .no,.ptr 0 0,.ptr 1 0,.list [] .exact,.int .i64 0]∧az v [.cells p,.cells z_1]∧∀(_:List Ob),∃(l_2:List Se) (tl:Tail),by refine(?_:_→Prop) [PV.list (List.map stc (byI l_2 8)) .no]; exact fun k=>by refine(?_:_→Prop) (List.drop 0 (over p 4 k)); exact fun i=>by refine(?_:_→Prop) [PV.int .u32 (cI i 0),.int .i64 (cI i 1),.int .u32 (cI i 2),.list (cL i 3) (cT i 3),.list (cL i 4) (cT i 4)]; exact fun j=>ak [.list (List.map stc (dP c l)) .no] [.list (l_2.map stc) tl]∧l_2.length≤1000000∧br (1 == 1 && List.all k PV.one && decide (5≤p.length) && true) (br (true && aP [.int .u32,.int .i64,.int .u32,.list,.list] 0 i) (br (5 == 5 && List.all j PV.one && decide (5≤z_1.length) && true) (K (.agg j)) False) False) False)∨∃(p:List PV) (z_1:List PV) (l:List Rr) (c:Mt) (b:List Se),(∀(x:PV),x∈p→Low 0 x)∧(∀(x:PV),x∈z_1→Low 0 x)∧l.length≤1000000∧b.length+tot l≤1000000∧SO c.aa∧List.Perm b c.aa∧ak r [.list (l.map rrc) .no,.ptr 0 0,.ptr 1 0,.list (b.map stc) (.tok 2),.int .i64 0]∧az v [.cells p,.cells z_1,.tok]∧∀(_:List Ob),∃(l_2:List Se) (tl:Tail),by refine(?_:_→Prop) [PV.list (List.map stc (byI l_2 8)) .no]; exact fun o=>by refine(?_:_→Prop) (List.drop 0 (over p 4 o)); exact fun m=>by refine(?_:_→Prop) [PV.int .u32 (cI m 0),.int .i64 (cI m 1),.int .u32 (cI m 2),.list (cL m 3) (cT m 3),.list (cL m 4) (cT m 4)]; exact fun n=>ak [.list (List.map stc (b++dP c l)) .no] [.list (l_2.map stc) tl]∧l_2.length≤1000000∧br (1 == 1 && List.all o PV.one && decide (5≤p.length) && true) (br (true && aP [.int .u32,.int .i64,.int .u32,.list,.list] 0 m) (br (5 == 5 && List.all n PV.one && decide (5≤z_1.length) && true) (K (.agg n)) False) False) False))→aj Tryd.prog gl 37 [.agg (mtc c),.list (l.map rrc) .no] [] (fun x _=>K x):=fun K h=>ah (T:=TSJ) (L:=[([1,0],HQ),([1,1,1,0,1,0],Kl)]) (fun o=>match o.dst with|some 19=>4|_=>0) Tryd.func37 (by kernel_rfl) (by kernel_rfl) (by kernel_rfl) (gw) (.cons (jz (by kernel_rfl)) DW (.cons (aH (by kernel_rfl)) Ew (.nil _ _ _ _ _))) (ag (by kernel_rfl) h)
theorem Lh {l:List Se}:∀ y∈flS l,y.one=true:=by
 intro y hy
 obtain⟨e,he,hy⟩:=List.mem_flatten.1 hy
 obtain⟨a,_,rfl⟩:=List.mem_map.1 he
 exact dX a y hy
theorem E3 (ps:List Int) (t:Int):∀ c:Mt,(cF c ps t).md=c.md∧(cF c ps t).ins=c.ins:=by
 induction ps with
 | nil=>intro c; exact⟨rfl,rfl⟩
 | cons p ps ih=>intro c; exact ih (fE c p t)
theorem uN (l:List Rr):∀ c:Mt,(aA c l).md=c.md∧(aA c l).ins=c.ins:=by
 induction l with
 | nil=>intro c; exact⟨rfl,rfl⟩
 | cons r l ih=>intro c; have:=ih (fc c r); have h:=E3 r.pl r.tm c; exact⟨this.1.trans h.1,this.2.trans h.2⟩
theorem sN (c:Mt) (l:List Rr):mtc (aA c l)=[.int .u32 c.id,.int .i64 c.md,.int .u32 c.ins,.list ((c.rows++l).map rrc) .no,.list ((aA c l).aa.map stc) .no]:=by
 have h:=uN l c
 show [PV.int .u32 (aA c l).id,.int .i64 (aA c l).md,.int .u32 (aA c l).ins,.list ((aA c l).rows.map rrc) .no,.list ((aA c l).aa.map stc) .no]=_
 rw[gR,h.1,h.2,cQ]
def BU (args:List PV) (K:PV→Prop):Prop:=∃(c:Mt) (l:List Rr) (t1 t2 t3:Tail),ak args [.agg [.int .u32 c.id,.int .i64 c.md,.int .u32 c.ins,.list (c.rows.map rrc) t1,.list (c.aa.map stc) t2],.list (l.map rrc) t3]∧c.rows.length+l.length≤1000000∧SO c.aa∧(∀ s∈c.aa,s.nu<8)∧c.aa.length+tot l≤8∧K (aA c l).pv
theorem FM:aO Tryd.prog gl 37 (.pure BU):=by
 rintro args K ⟨c,l,t1,t2,t3,he,hl,hso,hb,ht,hk⟩
 have he:args=_:=he
 subst he
 have h8:=nY (b:=8) l c hb (by omega)
 have hlz:∀ x∈[PV.int .u32 0,.int .i64 0,.int .u32 0,.list [] .exact,.list [] .exact],Low 0 x:=fY (.int _ _) (.int _ _) (.int _ _) (aI NT.exact (by simp)) (aI NT.exact (by simp))
 have fin:∀ b:List Se,b.Perm c.aa→byI (b++dP c l) 8=(aA c l).aa:=fun b hp=>I9 (gN l c hso) (nk l c b hp) h8
 have e9:∀ x:List Se,x=(aA c l).aa→PV.agg [.int .u32 c.id,.int .i64 c.md,.int .u32 c.ins,.list ((c.rows++l).map rrc) .no,.list (x.map stc) .no]=(aA c l).pv:=by
  rintro x rfl
  rw[J1,sN]
 have hlp:∀ x∈[PV.int .u32 c.id,.int .i64 c.md,.int .u32 c.ins,.list ((c.rows++l).map rrc) .no,.list (c.aa.map stc) .no],Low 0 x:=fY (.int _ _) (.int _ _) (.int _ _) (aQ _) (dg _)
 have hsl:(c.aa.map stc).flatten.length=(c.aa.map stc).flatten.length:=rfl
 refine bH aq (.cons iF (.cons (.list _ _) .nil)) (bF c.low (aQ l)) (aA c l).low (F9 c l (fun x=>x=(aA c l).pv) ⟨_,c,l,hlz,hl,rfl,rfl,?_⟩) hk
 simp only[ay]
 have app:aX [] (c.aa.map stc) 6 48:=⟨fun _ h=>(nomatch h),b9 bK _,by simp; omega⟩
 refine⟨app,List.all_eq_true.2 Lh,fun e1=>?_,fun e1=>?_⟩
 ·have e2:c.aa=[]:=List.map_eq_nil_iff.1 e1
  refine .inl ⟨_,_,l,c,hlp,hlz,by omega,by omega,e2,rfl,rfl,fun _=>⟨dP c l,.no,rfl,by rw[gg]; omega,?_⟩⟩
  rw[if_pos (by rfl),if_pos (by rfl),if_pos (by rfl)]
  exact e9 _ (by have:=fin [] (by rw[e2]); rwa [List.nil_append] at this)
 ·refine .inr ⟨_,_,l,c,c.aa,hlp,hlz,by omega,by omega,hso,List.Perm.refl _,rfl,rfl,fun _=>⟨c.aa++dP c l,.no,rfl,by rw[List.length_append,gg]; omega,?_⟩⟩
  rw[if_pos (by rfl),if_pos (by rfl),if_pos (by rfl)]
  exact e9 _ (fin _ (List.Perm.refl _))
def TRM:Tab:=[(34,.pure rZ),(28,.pure wK),(35,.pure ud),(37,.pure BU),(36,.pure q8)]
theorem Ii:aB Tryd.prog gl TRM:= .cons xZ (.cons ul (.cons wG (.cons FM (.cons sC (.nil _ _)))))
theorem Fs (w:List Mt) (m id md ins:Int) (l:List Rr):(by refine(?_:_→_→Prop) (PV.list (w.map mtc) .no) (PV.list (l.map rrc) .no); exact fun d e=>∀(K:PV→Prop),by refine(?_:_→Prop) (K (.tup [d,.int .i64 14])); exact fun a=>(∃(w_1:List Mt) (b:List Rr) (l_1:List Rr) (t0:Tail) (t1:Tail) (t2:Tail),ak [d,.list [] .exact,e] [.list (w_1.map mtc) t0,.list (b.map rrc) t1,.list (l_1.map rrc) t2]∧SmM w_1∧(∀(r:Rr),r∈l_1→∀(p:Int),p∈r.pl→0≤p)∧b.length+l_1.length≤1000000∧tot b+tot l_1≤1000000∧br ((jQ w_1 b l_1 == 14) == false) (∃(t:Int),0≤t∧ak [.int .u32 id] [.int .u32 t]∧br (!aF t) a (br (jQ w_1 b l_1 != 0) (K (.tup [d,.int .i64 (jQ w_1 b l_1)])) (∃(w_2:List Mt) (tl:Tail) (t:Int),ak [d,.int .u32 id] [.list (w_2.map mtc) tl,.int .u32 t]∧w_2.length≤1000000∧br (bu Mt.id w_2 t) (K (.tup [d,.int .i64 11])) (br (decide ((↑(List.length (w.map mtc)):Int)≥m)) (K (.tup [d,.int .i64 10])) (∃(c:Mt) (l_2:List Rr) (t1:Tail) (t2:Tail) (t3:Tail),ak [.agg [.int .u32 id,.int .i64 md,.int .u32 ins,.list [] .exact,.list [] .exact],e] [.agg [.int .u32 c.id,.int .i64 c.md,.int .u32 c.ins,.list (c.rows.map rrc) t1,.list (c.aa.map stc) t2],.list (l_2.map rrc) t3]∧c.rows.length+l_2.length≤1000000∧SO c.aa∧(∀(s:Se),s∈c.aa→s.nu<8)∧c.aa.length+tot l_2≤8∧∃(w_3:List Mt) (tl:Tail) (t1:Tail) (t2:Tail) (c_1:Mt),ak [d,.agg [.int .u32 (Mt.id (aA c l_2)),.int .i64 (Mt.md (aA c l_2)),.int .u32 (Mt.ins (aA c l_2)),.list (List.map rrc (Mt.rows (aA c l_2))) .no,.list (List.map stc (Mt.aa (aA c l_2))) .no]] [.list (w_3.map mtc) tl,.agg [.int .u32 c_1.id,.int .i64 c_1.md,.int .u32 c_1.ins,.list (c_1.rows.map rrc) t1,.list (c_1.aa.map stc) t2]]∧dz Mt.id w_3∧w_3.length≤100000∧K (.tup [.list (List.map mtc (eT Mt.id w_3 c_1)) .no,.int .i64 0])))))) a)→aj Tryd.prog gl 17 [d,.int .i64 m,.int .u32 id,.int .i64 md,.int .u32 ins,e] [] (fun x _=>K x):Prop):=fun K h=>ah (T:=TRM) (L:=[]) (fun _=>0) Tryd.func17 (by kernel_rfl) (by kernel_rfl) (by kernel_rfl) (Ii) (LOk.nil _ _ _ _ _) (ag (by kernel_rfl) h)
theorem MO.smM {w:List Mt} {m:Int} (ro:MO w m) (hm:m≤100000):SmM w:=by
 refine⟨by have:=ro.full; omega,fun c hc=>?_⟩
 have:=(ro.cs c hc).aa
 have:=(ro.cs c hc).tot
 omega
theorem GN {c:Mt} {l:List Rr} (h:(aA c l).Ok):c.aa.length+tot l≤8:=by
 have h1:=h.aa
 have h2:=h.tot
 rw[fS] at h1
 omega
theorem y3 {w:List Mt} {b l:List Rr}:jQ w b l=if(wsR w ws0 l).ids=true then 14 else if szW b l=true then 21 else if(wsR w ws0 l).ex=true then 11 else 0:=rfl
def tR (l:List Rr):Prop:=∀ r∈l,∀ p∈r.pl,0≤p
def wL (args:List PV) (K:PV→Prop):Prop:=∃(w:List Mt) (m id md ins:Int) (l:List Rr) (t0 t1:Tail),ak args [.list (w.map mtc) t0,.int .i64 m,.int .u32 id,.int .i64 md,.int .u32 ins,.list (l.map rrc) t1]∧MO w m∧m≤100000∧0≤id∧tR l∧smR l∧
 K (.tup [.list ((dn w m id md ins l).1.map mtc) .no,.int .i64 (dn w m id md ins l).2])
theorem DJ {w:List Mt} {x:Int}:Low 0 (.tup [.list (w.map mtc) .no,.int .i64 x]):= .tup _ (bF (bY w) (.int _ _))
theorem BT:aO Tryd.prog gl 17 (.pure wL):=by
 rintro args K ⟨w,m,id,md,ins,l,t0,t1,he,ro,hm,h0,hp,hl,hk⟩
 have he:args=_:=he
 subst he
 have hlt:=hl.tot
 have hll:=hl.1
 have hsm:=ro.smM hm
 refine bH aq (.cons (.list _ _) (.cons (.refl _) (.cons (.refl _) (.cons (.refl _) (.cons (.refl _) (.cons (.list _ _) .nil)))))) ?_ DJ (Fs w m id md ins l (fun x=>x=_) ⟨w,[],l,.no,.exact,.no,rfl,hsm,hp,by simp; omega,by show 0+tot l≤_; omega,?_⟩) hk
 ·intro x hx
  simp only[List.mem_cons,List.not_mem_nil,or_false] at hx
  rcases hx with rfl|rfl|rfl|rfl|rfl|rfl
  ·exact bY w
  ·exact .int _ _
  ·exact .int _ _
  ·exact .int _ _
  ·exact .int _ _
  ·exact aQ l
 obtain⟨z,hz⟩:∃ z,z=dn w m id md ins l:=⟨_,rfl⟩
 rw[← hz]
 unfold dn at hz
 rw[y3]
 simp only[ay]
 by_cases c1:(wsR w ws0 l).ids=true
 ·rw[if_pos (.inl c1)] at hz
  simp only[if_pos c1]
  rw[if_neg (by decide),hz]
 ·simp only[if_neg c1]
  have n14:((if szW [] l=true then(21:Int) else if(wsR w ws0 l).ex=true then 11 else 0) == 14)=false:=by
   split
   ·rfl
   ·split<;>rfl
  rw[if_pos (by rw[n14]; rfl)]
  refine⟨id,h0,rfl,?_⟩
  by_cases c2:aF id=true
  ·rw[if_neg (fun e=>by rcases e with e|e; exact c1 e; rw[c2] at e; cases e)] at hz
   rw[if_neg (by rw[c2]; decide)]
   by_cases c3:szW [] l=true
   ·rw[if_pos c3] at hz
    simp only[if_pos c3]
    rw[if_pos (by rfl),hz]
   ·rw[if_neg c3] at hz
    simp only[if_neg c3]
    by_cases c4:(wsR w ws0 l).ex=true
    ·rw[if_pos c4] at hz
     simp only[if_pos c4]
     rw[if_pos (by rfl),hz]
    ·rw[if_neg c4] at hz
     simp only[if_neg c4]
     rw[if_neg (by decide)]
     refine⟨w,.no,id,rfl,ro.len,?_⟩
     by_cases c5:bu Mt.id w id=true
     ·rw[if_pos c5] at hz
      rw[if_pos c5,hz]
     ·rw[if_neg c5] at hz
      rw[if_neg c5]
      simp only[List.length_map]
      by_cases c6:(w.length:Int)≥m
      ·rw[if_pos c6] at hz
       rw[if_pos (decide_eq_true c6),hz]
      ·rw[if_neg c6] at hz
       rw[if_neg (by rw[decide_eq_false c6]; decide)]
       have hx:(wsR w ws0 l).ex=false:=by simpa using c4
       have hok:=vZ (w:=w) (c:=mk0 id md ins) c2 (.inl ⟨rfl,rfl⟩) (show szW [] l=false by simpa using c3) hx fun p _=>uE rfl p
       refine⟨mk0 id md ins,l,.exact,.exact,.no,rfl,by show 0+_≤_; omega,SO.nil,(fun _ h=>(nomatch h)),GN hok,w,.no,.no,.no,aA (mk0 id md ins) l,rfl,ro.rise,hsm.len,?_⟩
       rw[hz]
  ·rw[if_pos (.inr (by simpa using c2))] at hz
   rw[if_pos (by simpa using c2),hz]
end Go.Proofs.YtenaelaapdhbdaaDoor
