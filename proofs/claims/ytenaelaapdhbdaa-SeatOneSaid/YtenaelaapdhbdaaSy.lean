/-
  The document's acts.
-/
import Derived.Test.YtenaelaapdhbdaaSx
import Derived.Test.YtenaelaapdhbdaaProg
namespace Go.Proofs.Ytenaelaapdhbdaa
open Go Go.AM Go.Proofs
theorem sp1_vc (z:List PV) (c:Mt) (l:List Rr):(by refine(?_:_→_→_→_→Prop) [PV.list (l.map rrc) .no,.ptr 0 0,.ptr 1 0] (PV.list (c.seats.map stc) .no) (List.flatten (l.map rrc)) ([]++c.rows.map rrc); exact fun a b d f=>∀(R:Ex→List PV→Heap→Prop),(AppL [] (c.rows.map rrc) 4 48∧List.all (List.flatten (c.rows.map rrc)) PV.one=true∧(c.rows.map rrc=[]→AppL [] (l.map rrc) 4 48∧List.all d PV.one=true∧(l.map rrc=[]→R .normal a [.cells [.int .u32 c.id,.int .i64 c.md,.int .u32 c.ins,.list [] .exact,b],.cells z])∧(l.map rrc≠[]→R .normal a [.cells [.int .u32 c.id,.int .i64 c.md,.int .u32 c.ins,.list ([]++l.map rrc) (.tok 2),b],.cells z,.tok]))∧(c.rows.map rrc≠[]→AppL f (l.map rrc) 4 48∧List.all d PV.one=true∧(l.map rrc=[]→R .normal a [.cells [.int .u32 c.id,.int .i64 c.md,.int .u32 c.ins,.list f (.tok 2),b],.cells z,.tok])∧(l.map rrc≠[]→R .normal a [.cells [.int .u32 c.id,.int .i64 c.md,.int .u32 c.ins,.list ([]++c.rows.map rrc++l.map rrc) (.tok 3),b],.cells z,.dead,.tok])))→Holds (wpc br Try.prog gl [] [] (fun o=>match o.dst with|some 12=>4|some 14=>4|_=>0) (atOf [1,0] (bodyOf Try.f47)) [] (envS [1,2,4] a) [.cells (mtc c),.cells z] (fun ex e H=>R ex (List.map e [1,2,4]) H)):Prop):=fun R h=>holds_of_eq (by kernel_rfl) h
theorem wkh_head {cs cs':List PV} (h:WkL cs cs') (R:Heap):WkH (.cells cs::R) (.cells cs'::R):=by
 refine⟨rfl,fun o b ho=>?_⟩
 cases o with
 | zero=>simp at ho; subst ho; exact⟨_,rfl,.cells h⟩
 | succ o=>exact⟨b,by simpa using ho,.refl b⟩
def mwR (c:Mt) (T:PV):List PV:=[.int .u32 c.id,.int .i64 c.md,.int .u32 c.ins,T,.list (c.seats.map stc) .no]
theorem low_mwR {c:Mt} {l:List Rr}:∀ x∈mwR c (.list (l.map rrc) .no),Low 0 x:=low_five (.int _ _) (.int _ _) (.int _ _) (low_rrs _) (low_sts _)
theorem tidy_rsp {c:Mt} {l k:List Rr} {t:Tail} {z:List PV} {G:Heap} (hz:∀ x∈z,Low 0 x):Tidy 2 [.list (l.map rrc) .no,.ptr 0 0,.ptr 1 0] (.cells (mwR c (.list (k.map rrc) t)) :: .cells z::G) [.list (l.map rrc) .no,.ptr 0 0,.ptr 1 0] [.cells (mwR c (.list (k.map rrc) .no)),.cells z]:=by
 refine tidy_wk (B':=[.cells (mwR c (.list (k.map rrc) t)),.cells z]) (B:=[.cells (mwR c (.list (k.map rrc) .no)),.cells z]) (X:=G) (lidH_two (fun x hx=> .low (low_mwR x hx)) (fun x hx=> .low (hz x hx))) (WkL.refl _) (wkh_head (.cons (.refl _) (.cons (.refl _) (.cons (.refl _) (.cons (.list _ _) (.cons (.refl _) .nil))))) _) ?_ (by simp)
 intro v hv
 simp only[List.mem_cons,List.not_mem_nil,or_false] at hv
 rcases hv with rfl|rfl|rfl
 ·exact .low (low_rrs l)
 ·exact .ptr _ _ (by simp)
 ·exact .ptr _ _ (by simp)
def rsp_l:LSp:=fun e H Q=>∃(z:List PV) (c:Mt) (l:List Rr),(∀ x∈z,Low 0 x)∧c.rows.length+l.length≤1000000∧SlIs (List.map e [1,2,4]) [.list (l.map rrc) .no,.ptr 0 0,.ptr 1 0]∧HpIs H [.cells (mtc c),.cells z]∧
 Q .normal (envS [1,2,4] [.list (l.map rrc) .no,.ptr 0 0,.ptr 1 0]) [.cells [.int .u32 c.id,.int .i64 c.md,.int .u32 c.ins,.list ((c.rows++l).map rrc) .no,.list (c.seats.map stc) .no],.cells z]
theorem rsp_l_ok:∀ e H Q,rsp_l e H Q→AW Try.prog gl Try.f47.ntmps (atOf [1,0] (bodyOf Try.f47)) Q e H:=by
 rintro e H Q ⟨z,c,l,hz,hl,he,hH,hQ⟩
 have hH:H=_:=hH
 subst hH
 have he:List.map e [1,2,4]=_:=he
 refine AW.tidy gl_low (slots:=[1,2,4]) (aw_piece (T:=[]) (slots:=[1,2,4]) (outs:=[1,2,4]) (hn:=fun o=>match o.dst with|some 12=>4|some 14=>4|_=>0) (.nil _ _) (.nil _ _ _ _ _) he rfl (sp1_vc z c l (fun ex vs H'=>∃ vs2 H2,Tidy 2 vs H' vs2 H2∧Q ex (envS [1,2,4] vs2) H2) ?_))
 refine⟨appL_rr (a:=[]) (b:=c.rows) (by simp; omega),all_rr _,fun e1=>⟨appL_rr (a:=[]) (b:=l) (by simp; omega),all_rr _,fun e2=>?_,fun e2=>?_⟩,fun e1=>⟨appL_rr (a:=c.rows) (b:=l) hl,all_rr _,fun e2=>?_,fun e2=>?_⟩⟩
 ·have e3:c.rows=[]:=List.map_eq_nil_iff.1 e1
  have e4:l=[]:=List.map_eq_nil_iff.1 e2
  have:=tidy_rsp (c:=c) (l:=l) (k:=c.rows++l) (t:= .exact) (G:=[]) hz
  refine⟨_,_,?_,hQ⟩
  rw[e3,e4] at this ⊢
  exact this
 ·have e3:c.rows=[]:=List.map_eq_nil_iff.1 e1
  have:=tidy_rsp (c:=c) (l:=l) (k:=c.rows++l) (t:= .tok 2) (G:=[.tok]) hz
  refine⟨_,_,?_,hQ⟩
  rw[e3] at this ⊢
  exact this
 ·have e4:l=[]:=List.map_eq_nil_iff.1 e2
  have:=tidy_rsp (c:=c) (l:=l) (k:=c.rows++l) (t:= .tok 2) (G:=[.tok]) hz
  refine⟨_,_,?_,hQ⟩
  rw[e4,List.append_nil] at this ⊢
  exact this
 ·have:=tidy_rsp (c:=c) (l:=l) (k:=c.rows++l) (t:= .tok 3) (G:=[.dead,.tok]) hz
  refine⟨_,_,?_,hQ⟩
  rw[List.map_append] at this ⊢
  exact this
def ro_l:LSp:=fun e H Q=>roA_l e H Q∨roB_l e H Q
theorem ro_l_ok:∀ e H Q,ro_l e H Q→AW Try.prog gl Try.f47.ntmps (.loop (subOf [1,1,1,0,1,0] (bodyOf Try.f47))) Q e H:=by
 rintro e H Q (h|h)
 ·exact roA_l_ok e H Q h
 ·exact roB_l_ok e H Q h
theorem rsi1_vc (c:Mt) (l:List Rr):∀(K:PV→Prop),(∃(z:List PV) (c_1:Mt) (l_1:List Rr),by refine(?_:_→_→Prop) (c_1.seats.map stc) (PV.list (l_1.map rrc) .no); exact fun t u=>by refine(?_:_→_→_→Prop) (Ob.cells [.int .u32 c_1.id,.int .i64 c_1.md,.int .u32 c_1.ins,.list (List.map rrc (c_1.rows++l_1)) .no,.list t .no]) [u,.ptr 0 0,.ptr 1 0,.list ([]++c_1.seats.map stc) (.tok 2),.int .i64 0] [u,.ptr 0 0,.ptr 1 0,.list [] .exact,.int .i64 0]; exact fun q r s=>by refine(?_:_→Prop) [q,.cells z,.tok]; exact fun v=>(∀(x:PV),x∈z→Low 0 x)∧c_1.rows.length+l_1.length≤1000000∧SlIs [.list (l.map rrc) .no,.ptr 0 0,.ptr 1 0] [.list (l_1.map rrc) .no,.ptr 0 0,.ptr 1 0]∧HpIs [.cells [.int .u32 c.id,.int .i64 c.md,.int .u32 c.ins,.list (c.rows.map rrc) .no,.list (c.seats.map stc) .no],.cells [.int .u32 0,.int .i64 0,.int .u32 0,.list [] .exact,.list [] .exact]] [.cells [.int .u32 c_1.id,.int .i64 c_1.md,.int .u32 c_1.ins,.list (c_1.rows.map rrc) .no,.list t .no],.cells z]∧AppL [] t 6 48∧List.all (List.flatten t) PV.one=true∧(c_1.seats.map stc=[]→(∃(p:List PV) (z_1:List PV) (l:List Rr) (c:Mt),(∀(x:PV),x∈p→Low 0 x)∧(∀(x:PV),x∈z_1→Low 0 x)∧l.length≤1000000∧tot l≤1000000∧c.seats=[]∧SlIs s [.list (l.map rrc) .no,.ptr 0 0,.ptr 1 0,.list [] .exact,.int .i64 0]∧HpIs [q,.cells z] [.cells p,.cells z_1]∧∀(_:List Ob),∃(l_2:List Se) (tl:Tail),by refine(?_:_→Prop) [PV.list (List.map stc (byI l_2 8)) .no]; exact fun e=>by refine(?_:_→Prop) (List.drop 0 (over p 4 e)); exact fun a=>by refine(?_:_→Prop) [PV.int .u32 (cI a 0),.int .i64 (cI a 1),.int .u32 (cI a 2),.list (cL a 3) (cT a 3),.list (cL a 4) (cT a 4)]; exact fun d=>SlIs [.list (List.map stc (newR c l)) .no] [.list (l_2.map stc) tl]∧l_2.length≤1000000∧br (1 == 1 && List.all e PV.one && decide (5≤p.length) && true) (br (true && fitX [.int .u32,.int .i64,.int .u32,.list,.list] 0 a) (br (5 == 5 && List.all d PV.one && decide (5≤z_1.length) && true) (K (.agg d)) False) False) False)∨∃(p:List PV) (z_1:List PV) (l:List Rr) (c:Mt) (b:List Se),(∀(x:PV),x∈p→Low 0 x)∧(∀(x:PV),x∈z_1→Low 0 x)∧l.length≤1000000∧b.length+tot l≤1000000∧SO c.seats∧List.Perm b c.seats∧SlIs s [.list (l.map rrc) .no,.ptr 0 0,.ptr 1 0,.list (b.map stc) (.tok 2),.int .i64 0]∧HpIs [q,.cells z] [.cells p,.cells z_1,.tok]∧∀(_:List Ob),∃(l_2:List Se) (tl:Tail),by refine(?_:_→Prop) [PV.list (List.map stc (byI l_2 8)) .no]; exact fun h=>by refine(?_:_→Prop) (List.drop 0 (over p 4 h)); exact fun f=>by refine(?_:_→Prop) [PV.int .u32 (cI f 0),.int .i64 (cI f 1),.int .u32 (cI f 2),.list (cL f 3) (cT f 3),.list (cL f 4) (cT f 4)]; exact fun g=>SlIs [.list (List.map stc (b++newR c l)) .no] [.list (l_2.map stc) tl]∧l_2.length≤1000000∧br (1 == 1 && List.all h PV.one && decide (5≤p.length) && true) (br (true && fitX [.int .u32,.int .i64,.int .u32,.list,.list] 0 f) (br (5 == 5 && List.all g PV.one && decide (5≤z_1.length) && true) (K (.agg g)) False) False) False)∧(c_1.seats.map stc≠[]→(∃(p:List PV) (z_1:List PV) (l:List Rr) (c:Mt),(∀(x:PV),x∈p→Low 0 x)∧(∀(x:PV),x∈z_1→Low 0 x)∧l.length≤1000000∧tot l≤1000000∧c.seats=[]∧SlIs r [.list (l.map rrc) .no,.ptr 0 0,.ptr 1 0,.list [] .exact,.int .i64 0]∧HpIs v [.cells p,.cells z_1]∧∀(_:List Ob),∃(l_2:List Se) (tl:Tail),by refine(?_:_→Prop) [PV.list (List.map stc (byI l_2 8)) .no]; exact fun k=>by refine(?_:_→Prop) (List.drop 0 (over p 4 k)); exact fun i=>by refine(?_:_→Prop) [PV.int .u32 (cI i 0),.int .i64 (cI i 1),.int .u32 (cI i 2),.list (cL i 3) (cT i 3),.list (cL i 4) (cT i 4)]; exact fun j=>SlIs [.list (List.map stc (newR c l)) .no] [.list (l_2.map stc) tl]∧l_2.length≤1000000∧br (1 == 1 && List.all k PV.one && decide (5≤p.length) && true) (br (true && fitX [.int .u32,.int .i64,.int .u32,.list,.list] 0 i) (br (5 == 5 && List.all j PV.one && decide (5≤z_1.length) && true) (K (.agg j)) False) False) False)∨∃(p:List PV) (z_1:List PV) (l:List Rr) (c:Mt) (b:List Se),(∀(x:PV),x∈p→Low 0 x)∧(∀(x:PV),x∈z_1→Low 0 x)∧l.length≤1000000∧b.length+tot l≤1000000∧SO c.seats∧List.Perm b c.seats∧SlIs r [.list (l.map rrc) .no,.ptr 0 0,.ptr 1 0,.list (b.map stc) (.tok 2),.int .i64 0]∧HpIs v [.cells p,.cells z_1,.tok]∧∀(_:List Ob),∃(l_2:List Se) (tl:Tail),by refine(?_:_→Prop) [PV.list (List.map stc (byI l_2 8)) .no]; exact fun o=>by refine(?_:_→Prop) (List.drop 0 (over p 4 o)); exact fun m=>by refine(?_:_→Prop) [PV.int .u32 (cI m 0),.int .i64 (cI m 1),.int .u32 (cI m 2),.list (cL m 3) (cT m 3),.list (cL m 4) (cT m 4)]; exact fun n=>SlIs [.list (List.map stc (b++newR c l)) .no] [.list (l_2.map stc) tl]∧l_2.length≤1000000∧br (1 == 1 && List.all o PV.one && decide (5≤p.length) && true) (br (true && fitX [.int .u32,.int .i64,.int .u32,.list,.list] 0 m) (br (5 == 5 && List.all n PV.one && decide (5≤z_1.length) && true) (K (.agg n)) False) False) False))→ACalls Try.prog gl 47 [.agg (mtc c),.list (l.map rrc) .no] [] (fun x _=>K x):=fun K h=>acalls_of_wpc2 (T:=TSJ) (L:=[([1,0],rsp_l),([1,1,1,0,1,0],ro_l)]) (fun o=>match o.dst with|some 19=>4|_=>0) Try.func47 (by kernel_rfl) (by kernel_rfl) (by kernel_rfl) (TSJ_ok) (.cons (at_of (by kernel_rfl)) rsp_l_ok (.cons (sub_of (by kernel_rfl)) ro_l_ok (.nil _ _ _ _ _))) (holds_of_eq (by kernel_rfl) h)
theorem flS1 {l:List Se}:∀ y∈flS l,y.one=true:=by
 intro y hy
 obtain⟨e,he,hy⟩:=List.mem_flatten.1 hy
 obtain⟨a,_,rfl⟩:=List.mem_map.1 he
 exact one_stc a y hy
theorem sits_eq (ps:List Int) (t:Int):∀ c:Mt,(sits c ps t).md=c.md∧(sits c ps t).ins=c.ins:=by
 induction ps with
 | nil=>intro c; exact⟨rfl,rfl⟩
 | cons p ps ih=>intro c; exact ih (sitM c p t)
theorem seatAll_md (l:List Rr):∀ c:Mt,(seatAll c l).md=c.md∧(seatAll c l).ins=c.ins:=by
 induction l with
 | nil=>intro c; exact⟨rfl,rfl⟩
 | cons r l ih=>intro c; have:=ih (seatR c r); have h:=sits_eq r.pl r.tm c; exact⟨this.1.trans h.1,this.2.trans h.2⟩
theorem seatAll_mtc (c:Mt) (l:List Rr):mtc (seatAll c l)=[.int .u32 c.id,.int .i64 c.md,.int .u32 c.ins,.list ((c.rows++l).map rrc) .no,.list ((seatAll c l).seats.map stc) .no]:=by
 have h:=seatAll_md l c
 show [PV.int .u32 (seatAll c l).id,.int .i64 (seatAll c l).md,.int .u32 (seatAll c l).ins,.list ((seatAll c l).rows.map rrc) .no,.list ((seatAll c l).seats.map stc) .no]=_
 rw[seatAll_id,h.1,h.2,seatAll_rows]
def rsit_s (args:List PV) (K:PV→Prop):Prop:=∃(c:Mt) (l:List Rr) (t1 t2 t3:Tail),SlIs args [.agg [.int .u32 c.id,.int .i64 c.md,.int .u32 c.ins,.list (c.rows.map rrc) t1,.list (c.seats.map stc) t2],.list (l.map rrc) t3]∧c.rows.length+l.length≤1000000∧SO c.seats∧(∀ s∈c.seats,s.nu<8)∧c.seats.length+tot l≤8∧K (seatAll c l).pv
theorem rsit_ok:SpOk Try.prog gl 47 (.pure rsit_s):=by
 rintro args K ⟨c,l,t1,t2,t3,he,hl,hso,hb,ht,hk⟩
 have he:args=_:=he
 subst he
 have h8:=seatAll_bd (b:=8) l c hb (by omega)
 have hlz:∀ x∈[PV.int .u32 0,.int .i64 0,.int .u32 0,.list [] .exact,.list [] .exact],Low 0 x:=low_five (.int _ _) (.int _ _) (.int _ _) (low_list NT.exact (by simp)) (low_list NT.exact (by simp))
 have fin:∀ b:List Se,b.Perm c.seats→byI (b++newR c l) 8=(seatAll c l).seats:=fun b hp=>byI_eq (seatAll_so l c hso) (newR_pm l c b hp) h8
 have e9:∀ x:List Se,x=(seatAll c l).seats→PV.agg [.int .u32 c.id,.int .i64 c.md,.int .u32 c.ins,.list ((c.rows++l).map rrc) .no,.list (x.map stc) .no]=(seatAll c l).pv:=by
  rintro x rfl
  rw[mtc_pv,seatAll_mtc]
 have hlp:∀ x∈[PV.int .u32 c.id,.int .i64 c.md,.int .u32 c.ins,.list ((c.rows++l).map rrc) .no,.list (c.seats.map stc) .no],Low 0 x:=low_five (.int _ _) (.int _ _) (.int _ _) (low_rrs _) (low_sts _)
 have hsl:(c.seats.map stc).flatten.length=(c.seats.map stc).flatten.length:=rfl
 refine spure_w gl_low (.cons wk_mt (.cons (.list _ _) .nil)) (low_two c.low (low_rrs l)) (seatAll c l).low (rsi1_vc c l (fun x=>x=(seatAll c l).pv) ⟨_,c,l,hlz,hl,rfl,rfl,?_⟩) hk
 simp only[br_if]
 have app:AppL [] (c.seats.map stc) 6 48:=⟨fun _ h=>(nomatch h),uni_map stc_len _,by simp; omega⟩
 refine⟨app,List.all_eq_true.2 flS1,fun e1=>?_,fun e1=>?_⟩
 ·have e2:c.seats=[]:=List.map_eq_nil_iff.1 e1
  refine .inl ⟨_,_,l,c,hlp,hlz,by omega,by omega,e2,rfl,rfl,fun _=>⟨newR c l,.no,rfl,by rw[newR_len]; omega,?_⟩⟩
  rw[if_pos (by rfl),if_pos (by rfl),if_pos (by rfl)]
  exact e9 _ (by have:=fin [] (by rw[e2]); rwa [List.nil_append] at this)
 ·refine .inr ⟨_,_,l,c,c.seats,hlp,hlz,by omega,by omega,hso,List.Perm.refl _,rfl,rfl,fun _=>⟨c.seats++newR c l,.no,rfl,by rw[List.length_append,newR_len]; omega,?_⟩⟩
  rw[if_pos (by rfl),if_pos (by rfl),if_pos (by rfl)]
  exact e9 _ (fin _ (List.Perm.refl _))
def TRM:Tab:=[(44,.pure rwrong_s),(45,.pure rrt_s),(20,.pure rget_s),(47,.pure rsit_s),(46,.pure rwith_s)]
theorem TRM_ok:TabOk Try.prog gl TRM:= .cons rwrong_ok (.cons rrt_ok (.cons rget_ok (.cons rsit_ok (.cons rwith_ok (.nil _ _)))))
theorem rmk1_vc (w:List Mt) (m id md ins:Int) (l:List Rr):(by refine(?_:_→_→Prop) (PV.list (w.map mtc) .no) (PV.list (l.map rrc) .no); exact fun d e=>∀(K:PV→Prop),by refine(?_:_→Prop) (K (.tup [d,.int .i64 14])); exact fun a=>(∃(w_1:List Mt) (b:List Rr) (l_1:List Rr) (t0:Tail) (t1:Tail) (t2:Tail),SlIs [d,.list [] .exact,e] [.list (w_1.map mtc) t0,.list (b.map rrc) t1,.list (l_1.map rrc) t2]∧SmM w_1∧(∀(r:Rr),r∈l_1→∀(p:Int),p∈r.pl→0≤p)∧b.length+l_1.length≤1000000∧tot b+tot l_1≤1000000∧br ((errW w_1 b l_1 == 14) == false) (∃(t:Int),0≤t∧SlIs [.int .u32 id] [.int .u32 t]∧br (!rightS t) a (br (errW w_1 b l_1 != 0) (K (.tup [d,.int .i64 (errW w_1 b l_1)])) (∃(w_2:List Mt) (tl:Tail) (t:Int),SlIs [d,.int .u32 id] [.list (w_2.map mtc) tl,.int .u32 t]∧w_2.length≤1000000∧br (hasG Mt.id w_2 t) (K (.tup [d,.int .i64 11])) (br (decide ((↑(List.length (w.map mtc)):Int)≥m)) (K (.tup [d,.int .i64 10])) (∃(c:Mt) (l_2:List Rr) (t1:Tail) (t2:Tail) (t3:Tail),SlIs [.agg [.int .u32 id,.int .i64 md,.int .u32 ins,.list [] .exact,.list [] .exact],e] [.agg [.int .u32 c.id,.int .i64 c.md,.int .u32 c.ins,.list (c.rows.map rrc) t1,.list (c.seats.map stc) t2],.list (l_2.map rrc) t3]∧c.rows.length+l_2.length≤1000000∧SO c.seats∧(∀(s:Se),s∈c.seats→s.nu<8)∧c.seats.length+tot l_2≤8∧∃(w_3:List Mt) (tl:Tail) (t1:Tail) (t2:Tail) (c_1:Mt),SlIs [d,.agg [.int .u32 (Mt.id (seatAll c l_2)),.int .i64 (Mt.md (seatAll c l_2)),.int .u32 (Mt.ins (seatAll c l_2)),.list (List.map rrc (Mt.rows (seatAll c l_2))) .no,.list (List.map stc (Mt.seats (seatAll c l_2))) .no]] [.list (w_3.map mtc) tl,.agg [.int .u32 c_1.id,.int .i64 c_1.md,.int .u32 c_1.ins,.list (c_1.rows.map rrc) t1,.list (c_1.seats.map stc) t2]]∧Rise Mt.id w_3∧w_3.length≤100000∧K (.tup [.list (List.map mtc (putG Mt.id w_3 c_1)) .no,.int .i64 0])))))) a)→ACalls Try.prog gl 26 [d,.int .i64 m,.int .u32 id,.int .i64 md,.int .u32 ins,e] [] (fun x _=>K x):Prop):=fun K h=>acalls_of_wpc2 (T:=TRM) (L:=[]) (fun _=>0) Try.func26 (by kernel_rfl) (by kernel_rfl) (by kernel_rfl) (TRM_ok) (LOk.nil _ _ _ _ _) (holds_of_eq (by kernel_rfl) h)
theorem rad1_vc (w:List Mt) (id:Int) (l:List Rr):(by refine(?_:_→_→Prop) (PV.list (w.map mtc) .no) (PV.list (l.map rrc) .no); exact fun d e=>∀(K:PV→Prop),(∃(w_1:List Mt) (tl:Tail) (t:Int),by refine(?_:_→Prop) (PV.list (List.map rrc (Mt.rows (gM w_1 t))) .no); exact fun a=>SlIs [d,.int .u32 id] [.list (w_1.map mtc) tl,.int .u32 t]∧w_1.length≤1000000∧br (!hasG Mt.id w_1 t) (K (.tup [d,.int .i64 12])) (∃(w_2:List Mt) (b:List Rr) (l_1:List Rr) (t0:Tail) (t1:Tail) (t2:Tail),SlIs [d,a,e] [.list (w_2.map mtc) t0,.list (b.map rrc) t1,.list (l_1.map rrc) t2]∧SmM w_2∧(∀(r:Rr),r∈l_1→∀(p:Int),p∈r.pl→0≤p)∧b.length+l_1.length≤1000000∧tot b+tot l_1≤1000000∧br (errW w_2 b l_1 != 0) (K (.tup [d,.int .i64 (errW w_2 b l_1)])) (∃(c:Mt) (l_2:List Rr) (t1:Tail) (t2:Tail) (t3:Tail),SlIs [.agg [.int .u32 (Mt.id (gM w_1 t)),.int .i64 (Mt.md (gM w_1 t)),.int .u32 (Mt.ins (gM w_1 t)),a,.list (List.map stc (Mt.seats (gM w_1 t))) .no],e] [.agg [.int .u32 c.id,.int .i64 c.md,.int .u32 c.ins,.list (c.rows.map rrc) t1,.list (c.seats.map stc) t2],.list (l_2.map rrc) t3]∧c.rows.length+l_2.length≤1000000∧SO c.seats∧(∀(s:Se),s∈c.seats→s.nu<8)∧c.seats.length+tot l_2≤8∧∃(w_3:List Mt) (tl:Tail) (t1:Tail) (t2:Tail) (c_1:Mt),SlIs [d,.agg [.int .u32 (Mt.id (seatAll c l_2)),.int .i64 (Mt.md (seatAll c l_2)),.int .u32 (Mt.ins (seatAll c l_2)),.list (List.map rrc (Mt.rows (seatAll c l_2))) .no,.list (List.map stc (Mt.seats (seatAll c l_2))) .no]] [.list (w_3.map mtc) tl,.agg [.int .u32 c_1.id,.int .i64 c_1.md,.int .u32 c_1.ins,.list (c_1.rows.map rrc) t1,.list (c_1.seats.map stc) t2]]∧Rise Mt.id w_3∧w_3.length≤100000∧K (.tup [.list (List.map mtc (putG Mt.id w_3 c_1)) .no,.int .i64 0]))))→ACalls Try.prog gl 32 [d,.int .u32 id,e] [] (fun x _=>K x):Prop):=fun K h=>acalls_of_wpc2 (T:=TRM) (L:=[]) (fun _=>0) Try.func32 (by kernel_rfl) (by kernel_rfl) (by kernel_rfl) (TRM_ok) (LOk.nil _ _ _ _ _) (holds_of_eq (by kernel_rfl) h)
theorem MO.smM {w:List Mt} {m:Int} (ro:MO w m) (hm:m≤100000):SmM w:=by
 refine⟨by have:=ro.full; omega,fun c hc=>?_⟩
 have:=(ro.cs c hc).seats
 have:=(ro.cs c hc).tot
 omega
theorem ok_room {c:Mt} {l:List Rr} (h:(seatAll c l).Ok):c.seats.length+tot l≤8:=by
 have h1:=h.seats
 have h2:=h.tot
 rw[seatAll_seats] at h1
 omega
theorem errW_iff {w:List Mt} {b l:List Rr}:errW w b l=if(wsR w ws0 l).ids=true then 14 else if szW b l=true then 21 else if(wsR w ws0 l).ex=true then 11 else 0:=rfl
def posR (l:List Rr):Prop:=∀ r∈l,∀ p∈r.pl,0≤p
def rmake_s (args:List PV) (K:PV→Prop):Prop:=∃(w:List Mt) (m id md ins:Int) (l:List Rr) (t0 t1:Tail),SlIs args [.list (w.map mtc) t0,.int .i64 m,.int .u32 id,.int .i64 md,.int .u32 ins,.list (l.map rrc) t1]∧MO w m∧m≤100000∧0≤id∧posR l∧smR l∧
 K (.tup [.list ((makeM w m id md ins l).1.map mtc) .no,.int .i64 (makeM w m id md ins l).2])
theorem low_wi {w:List Mt} {x:Int}:Low 0 (.tup [.list (w.map mtc) .no,.int .i64 x]):= .tup _ (low_two (low_mts w) (.int _ _))
theorem rmake_ok:SpOk Try.prog gl 26 (.pure rmake_s):=by
 rintro args K ⟨w,m,id,md,ins,l,t0,t1,he,ro,hm,h0,hp,hl,hk⟩
 have he:args=_:=he
 subst he
 have hlt:=hl.tot
 have hll:=hl.1
 have hsm:=ro.smM hm
 refine spure_w gl_low (.cons (.list _ _) (.cons (.refl _) (.cons (.refl _) (.cons (.refl _) (.cons (.refl _) (.cons (.list _ _) .nil)))))) ?_ low_wi (rmk1_vc w m id md ins l (fun x=>x=_) ⟨w,[],l,.no,.exact,.no,rfl,hsm,hp,by simp; omega,by show 0+tot l≤_; omega,?_⟩) hk
 ·intro x hx
  simp only[List.mem_cons,List.not_mem_nil,or_false] at hx
  rcases hx with rfl|rfl|rfl|rfl|rfl|rfl
  ·exact low_mts w
  ·exact .int _ _
  ·exact .int _ _
  ·exact .int _ _
  ·exact .int _ _
  ·exact low_rrs l
 obtain⟨z,hz⟩:∃ z,z=makeM w m id md ins l:=⟨_,rfl⟩
 rw[← hz]
 unfold makeM at hz
 rw[errW_iff]
 simp only[br_if]
 by_cases c1:(wsR w ws0 l).ids=true
 ·rw[if_pos (.inl c1)] at hz
  simp only[if_pos c1]
  rw[if_neg (by decide),hz]
 ·simp only[if_neg c1]
  have n14:((if szW [] l=true then(21:Int) else if(wsR w ws0 l).ex=true then 11 else 0) == 14)=false:=by
   split
   ·rfl
   ·split<;>rfl
  rw[if_pos (by rw[n14]; rfl)]
  refine⟨id,h0,rfl,?_⟩
  by_cases c2:rightS id=true
  ·rw[if_neg (fun e=>by rcases e with e|e; exact c1 e; rw[c2] at e; cases e)] at hz
   rw[if_neg (by rw[c2]; decide)]
   by_cases c3:szW [] l=true
   ·rw[if_pos c3] at hz
    simp only[if_pos c3]
    rw[if_pos (by rfl),hz]
   ·rw[if_neg c3] at hz
    simp only[if_neg c3]
    by_cases c4:(wsR w ws0 l).ex=true
    ·rw[if_pos c4] at hz
     simp only[if_pos c4]
     rw[if_pos (by rfl),hz]
    ·rw[if_neg c4] at hz
     simp only[if_neg c4]
     rw[if_neg (by decide)]
     refine⟨w,.no,id,rfl,ro.len,?_⟩
     by_cases c5:hasG Mt.id w id=true
     ·rw[if_pos c5] at hz
      rw[if_pos c5,hz]
     ·rw[if_neg c5] at hz
      rw[if_neg c5]
      simp only[List.length_map]
      by_cases c6:(w.length:Int)≥m
      ·rw[if_pos c6] at hz
       rw[if_pos (decide_eq_true c6),hz]
      ·rw[if_neg c6] at hz
       rw[if_neg (by rw[decide_eq_false c6]; decide)]
       have hx:(wsR w ws0 l).ex=false:=by simpa using c4
       have hok:=ok_seat (w:=w) (c:=mk0 id md ins) c2 (.inl ⟨rfl,rfl⟩) (show szW [] l=false by simpa using c3) hx fun p _=>in_nil rfl p
       refine⟨mk0 id md ins,l,.exact,.exact,.no,rfl,by show 0+_≤_; omega,SO.nil,(fun _ h=>(nomatch h)),ok_room hok,w,.no,.no,.no,seatAll (mk0 id md ins) l,rfl,ro.rise,hsm.len,?_⟩
       rw[hz]
  ·rw[if_pos (.inr (by simpa using c2))] at hz
   rw[if_pos (by simpa using c2),hz]
def radd_s (args:List PV) (K:PV→Prop):Prop:=∃(w:List Mt) (m id:Int) (l:List Rr) (t0 t1:Tail),SlIs args [.list (w.map mtc) t0,.int .u32 id,.list (l.map rrc) t1]∧MO w m∧m≤100000∧posR l∧smR l∧
 K (.tup [.list ((addMt w id l).1.map mtc) .no,.int .i64 (addMt w id l).2])
theorem radd_ok:SpOk Try.prog gl 32 (.pure radd_s):=by
 rintro args K ⟨w,m,id,l,t0,t1,he,ro,hm,hp,hl,hk⟩
 have he:args=_:=he
 subst he
 have hlt:=hl.tot
 have hll:=hl.1
 have hsm:=ro.smM hm
 refine spure_w gl_low (.cons (.list _ _) (.cons (.refl _) (.cons (.list _ _) .nil))) (low_three (low_mts w) (.int _ _) (low_rrs l)) low_wi (rad1_vc w id l (fun x=>x=_) ⟨w,.no,id,rfl,ro.len,?_⟩) hk
 unfold addMt
 rw[br_if]
 by_cases c0:hasG Mt.id w id=true
 ·rw[if_neg (by rw[c0]; decide),if_neg (by rw[c0]; decide)]
  have hok:=ro.gmok c0
  have hrow:=len_tot hok.ne
  have htt:=hok.tot
  have hse:=hok.seats
  refine⟨w,(gM w id).rows,l,.no,.no,.no,rfl,hsm,hp,by omega,by omega,?_⟩
  rw[errW_iff,br_if]
  by_cases c1:(wsR w ws0 l).ids=true
  ·simp only[if_pos c1]; rw[if_pos (by rfl)]; trivial
  ·simp only[if_neg c1]
   by_cases c3:szW (gM w id).rows l=true
   ·simp only[if_pos c3]; rw[if_pos (by rfl)]; trivial
   ·simp only[if_neg c3]
    by_cases c4:(wsR w ws0 l).ex=true
    ·simp only[if_pos c4]; rw[if_pos (by rfl)]; trivial
    ·simp only[if_neg c4]
     rw[if_neg (by decide)]
     have hx:(wsR w ws0 l).ex=false:=by simpa using c4
     have hok2:=ok_seat (w:=w) hok.rt (.inr hok) (by simpa using c3) hx fun p hp=>of_zero ro hp _ (getG_mem c0).1
     exact⟨gM w id,l,.no,.no,.no,rfl,by omega,⟨hok.sn,fun s hs=>(hok.lo s hs).1⟩,fun s hs=>(hok.lo s hs).2,ok_room hok2,w,.no,.no,.no,seatAll (gM w id) l,rfl,ro.rise,hsm.len,rfl⟩
 ·rw[if_pos (by simpa using c0),if_pos (by simpa using c0)]
end Go.Proofs.Ytenaelaapdhbdaa
