/-
  SeatRuns' law.
-/
import Derived.Test.YtenaelaapdhbdaaSad
import Derived.Test.YtenaelaapdhbdaaProg
namespace Go.Proofs.Ytenaelaapdhbdaa
open Go Go.AM Go.Proofs
def TRN:Tab:=[(8,.heap do_s),(10,.read tids_s),(12,.read tof_s),(14,.read tmaR_s),(19,.read tse_s),(16,.pure back_s),(15,.pure rsame_s),(17,.pure team_s),(18,.pure rteam_s),(9,.pure same_s),(11,.pure rids_s),(13,.pure rof_s),(20,.pure rget_s),(21,.pure rfind_s),(22,.pure awake_s),(6,.pure great_s),(7,.heap tnew_s)]
theorem TRN_ok:TabOk Try.prog gl TRN:= .cons do_ok (.cons tids_ok (.cons tof_ok (.cons tmaR_ok (.cons tse_ok (.cons back_ok (.cons rsame_ok (.cons team_ok (.cons rteam_ok (.cons same_ok (.cons rids_ok (.cons rof_ok (.cons rget_ok (.cons rfind_ok (.cons awake_ok (.cons great_ok (.cons tnew_ok (.nil _ _)))))))))))))))))
theorem rni_vc (n m:Int) (l:List Ac) (w:List Mt) (a:Ac) (i k:Nat):(by refine(?_:_→_→_→_→_→Prop) (List.getD (w.map mtc) (Int.toNat (k:Int)) []) (Ob.cells [.int .u8 a.dO,.int .u32 a.id,.int .u32 a.p,.int .i64 a.st,.int .i64 a.md,.list (a.rows.map rrc) .no]) (Ob.abs (rkM (rowsM w) m)) (PV.list (l.map acC) .no) (PV.list (w.map mtc) .no); exact fun h o x y z=>by refine(?_:_→_→_→_→Prop) [PV.int .i64 n,y,.bool false,.ptr 1 0,.int .i64 i,.ptr 2 0,z,.int .i64 k] (PV.agg [.int .u32 (cI h 0),.int .i64 (cI h 1),.int .u32 (cI h 2),.list (cL h 3) (cT h 3),.list (cL h 4) (cT h 4)]) (true && fitX [.int .u32,.int .i64,.int .u32,.list,.list] 0 h) [x,.cells [.ptr 0 0],o]; exact fun j s u v=>∀(R:Ex→List PV→Heap→Prop),(br (decide ((k:Int)<(↑(List.length (w.map mtc)):Int))) (InL (w.map mtc) 5 (k:Int)∧br (true && fitX [.int .u32] 0 (List.drop 0 h)) (∃(q:Nat) (r:Nat) (w_1:List Mt) (m_1:Int) (t:Int),by refine(?_:_→Prop) [PV.int .u32 (Mt.id (gM w_1 t)),.int .i64 (Mt.md (gM w_1 t)),.int .u32 (Mt.ins (gM w_1 t)),.list (List.map rrc (Mt.rows (gM w_1 t))) .no,.list (List.map stc (Mt.seats (gM w_1 t))) .no]; exact fun d=>by refine(?_:_→Prop) [x,.cells [.ptr 0 0],o,.cells d]; exact fun f=>by refine(?_:_→Prop) (R .ret j f); exact fun g=>SlIs [.ptr 1 0,.int .u32 (cI (List.drop 0 h) 0)] [.ptr q 0,.int .u32 t]∧BkIs v q r (rkM (rowsM w_1) m_1)∧MO w_1 m_1∧br ((!hasG Mt.id w_1 t) == false) (∃(c:Mt) (t1:Tail) (t2:Tail),SlIs [.agg d] [.agg [.int .u32 c.id,.int .i64 c.md,.int .u32 c.ins,.list (c.rows.map rrc) t1,.list (c.seats.map stc) t2]]∧Mt.Sm c∧InL (w.map mtc) 5 (k:Int)∧br u (∃(c_1:Mt) (t1:Tail) (t2:Tail) (t3:Tail) (t4:Tail),SlIs [.agg [.int .u32 c.id,.int .i64 c.md,.int .u32 c.ins,.list (c.rows.map rrc) .no,.list (c.seats.map stc) .no],s] [.agg [.int .u32 c_1.id,.int .i64 c_1.md,.int .u32 c_1.ins,.list (c_1.rows.map rrc) t1,.list (c_1.seats.map stc) t2],.agg [.int .u32 c_1.id,.int .i64 c_1.md,.int .u32 c_1.ins,.list (c_1.rows.map rrc) t3,.list (c_1.seats.map stc) t4]]∧Mt.Sm c_1∧∃(c:Mt) (t1:Tail) (t2:Tail) (k_1:Int),SlIs [.agg d,.int .i64 1] [.agg [.int .u32 c.id,.int .i64 c.md,.int .u32 c.ins,.list (c.rows.map rrc) t1,.list (c.seats.map stc) t2],.int .i64 k_1]∧c.seats.length≤1000000∧InL (w.map mtc) 5 (k:Int)∧br u (∃(c_2:Mt) (t1:Tail) (t2:Tail) (t_1:Int),SlIs [s,.int .i64 1] [.agg [.int .u32 c_2.id,.int .i64 c_2.md,.int .u32 c_2.ins,.list (c_2.rows.map rrc) t1,.list (c_2.seats.map stc) t2],.int .i64 t_1]∧c_2.seats.length≤1000000∧∃(a_1:List Int) (b:List Int) (t_2:Tail) (t':Tail),SlIs [.list (List.map u1 (teamS c.seats k_1)) .no,.list (List.map u1 (teamS c_2.seats t_1)) .no] [.list (en1 .u32 a_1) t_2,.list (en1 .u32 b) t']∧a_1.length≤1000000∧br (!decide (a_1=b)) g (R .normal [.int .i64 n,y,.bool false,.ptr 1 0,.int .i64 i,.ptr 2 0,z,.int .i64 (wI ((k:Int)+1))] f)) False) False) g) False) (R (.exit 2) j v))→Holds (wpc br Try.prog gl TRN [] (fun _=>0) (subOf [1,1,1,1,1,0,1,0,0,1,0,0,1,1,1,0,1,0] (bodyOf Try.f3)) [] (envS [0,1,4,5,7,8,9,11] j) [.abs (rkM (rowsM w) m),.cells [.ptr 0 0],.cells (acC a)] (fun ex e H=>R ex (List.map e [0,1,4,5,7,8,9,11]) H)):Prop):=fun R h=>holds_of_eq (by kernel_rfl) h
theorem inL_mt (l:List Mt) (i:Nat):InL (l.map mtc) 5 (i:Int)=(i<l.length):=inL_map mtc_len (by decide) l i
theorem low_ri {n k0:Int} {i0:Int} {l:List Ac} {w:List Mt} {b:Bool}:∀ v∈[PV.int .i64 n,.list (l.map acC) .no,.bool b,.ptr 1 0,.int .i64 i0,.ptr 2 0,.list (w.map mtc) .no,.int .i64 k0],Low 3 v:=by
 intro v hv
 simp only[List.mem_cons,List.not_mem_nil,or_false] at hv
 rcases hv with rfl|rfl|rfl|rfl|rfl|rfl|rfl|rfl
 ·exact .int _ _
 ·exact low_acs l
 ·exact .bool _
 ·exact .ptr _ _ (by decide)
 ·exact .int _ _
 ·exact .ptr _ _ (by decide)
 ·exact low_mts w
 ·exact .int _ _
theorem lowH_ri {w:List Mt} {m:Int} {a:Ac}:LowH [.abs (rkM (rowsM w) m),.cells [.ptr 0 0],.cells (acC a)]:=lowH_of (by
 intro ob ho
 simp only[List.mem_cons,List.not_mem_nil,or_false] at ho
 rcases ho with rfl|rfl|rfl
 ·trivial
 ·exact low_one (.ptr _ _ (by simp))
 ·exact low_acC a)
def rni_l:LSp:=fun e H Q=>∃(n m:Int) (l:List Ac) (w:List Mt) (a:Ac) (i:Nat),MO w m∧SlIs (List.map e [0,1,4,5,7,8,9,11]) [.int .i64 n,.list (l.map acC) .no,.bool false,.ptr 1 0,.int .i64 i,.ptr 2 0,.list (w.map mtc) .no,.int .i64 0]∧HpIs H [.abs (rkM (rowsM w) m),.cells [.ptr 0 0],.cells (acC a)]∧Q (.exit 2) (envS [0,1,4,5,7,8,9,11] [.int .i64 n,.list (l.map acC) .no,.bool false,.ptr 1 0,.int .i64 i,.ptr 2 0,.list (w.map mtc) .no,.int .i64 w.length]) [.abs (rkM (rowsM w) m),.cells [.ptr 0 0],.cells (acC a)]
theorem rni_l_ok:∀ e H Q,rni_l e H Q→AW Try.prog gl Try.f3.ntmps (.loop (subOf [1,1,1,1,1,0,1,0,0,1,0,0,1,1,1,0,1,0] (bodyOf Try.f3))) Q e H:=by
 rintro e H Q ⟨n,m,l,w,a,i,ro,he,hH,hQ⟩
 have hlen:=ro.len
 refine aw_loop4 (hn:=fun _=>0) gl_low TRN_ok (.nil _ _ _ _ _) (σ:=Nat) [0,1,4,5,7,8,9,11] (fun k=>k≤w.length) (fun k=>[.int .i64 n,.list (l.map acC) .no,.bool false,.ptr 1 0,.int .i64 i,.ptr 2 0,.list (w.map mtc) .no,.int .i64 k]) (fun _=>[.abs (rkM (rowsM w) m),.cells [.ptr 0 0],.cells (acC a)]) (fun k=>w.length-k) 0 (Nat.zero_le _) he hH ?_
 intro k hk
 have hk':k≤w.length:=hk
 refine rni_vc n m l w a i k _ ?_
 simp only[br_if,dt,List.length_map,toNat_nat]
 by_cases h:k<w.length
 ·rw[if_pos (by omega)]
  obtain⟨c,hc⟩:∃ c,c=w.getD k default:=⟨_,rfl⟩
  have hcm:c∈w:=by rw[hc]; exact getD_mem h
  have inl:InL (w.map mtc) 5 (k:Int):=by rw[inL_mt]; exact h
  have c0:cI (List.drop 0 (mtc c)) 0=c.id:=rfl
  simp only[getD_map default h,← hc,c0]
  have hg:gM w c.id=c:=getG_of ro.rise hcm
  have hh:hasG Mt.id w c.id=true:=hasG_iff.2 ⟨c,hcm,rfl⟩
  have sm:=ro.sm c hcm
  refine⟨inl,?_⟩
  rw[if_pos (by rfl)]
  refine⟨1,0,w,m,c.id,rfl,⟨rfl,rfl⟩,ro,?_⟩
  rw[hg,hh,if_pos (by rfl)]
  refine⟨c,.no,.no,rfl,sm,inl,?_⟩
  rw[if_pos (by rfl)]
  refine⟨c,.no,.no,.no,.no,rfl,sm,c,.no,.no,1,rfl,sm.seats,inl,?_⟩
  rw[if_pos (by rfl)]
  refine⟨c,.no,.no,1,rfl,sm.seats,teamS c.seats 1,teamS c.seats 1,.no,.no,rfl,?_,?_⟩
  ·have h1:(teamS c.seats 1).length≤c.seats.length:=by unfold teamS; rw[List.length_map]; exact List.length_filter_le _ _
   have:=sm.seats; omega
  rw[if_neg (by simp)]
  exact⟨k+1,(show w.length-(k+1)<w.length-k by omega),h,by rw[wI_succ h (by omega)],[_],rfl,Nat.le_refl _,.inr ⟨low_ri,lowH_ri⟩⟩
 ·rw[if_neg (by omega)]
  have:k=w.length:=by omega
  subst this
  exact hQ
theorem rni_sub:subOf [1,0,0,1,1,1,0,1,0] (subOf [1,1,1,1,1,0,1,0] (bodyOf Try.f3))=subOf [1,1,1,1,1,0,1,0,0,1,0,0,1,1,1,0,1,0] (bodyOf Try.f3):=by kernel_rfl
theorem rni_l_ok2:∀ e H Q,rni_l e H Q→AW Try.prog gl Try.f3.ntmps (.loop (subOf [1,0,0,1,1,1,0,1,0] (subOf [1,1,1,1,1,0,1,0] (bodyOf Try.f3)))) Q e H:=by rw[rni_sub]; exact rni_l_ok
theorem rno_vc (n m:Int) (l:List Ac) (w:List Mt) (i:Nat):(by refine(?_:_→_→_→_→Prop) (List.getD (l.map acC) (Int.toNat (i:Int)) []) (Ob.abs (rkM (rowsM w) m)) (PV.list (l.map acC) .no) (PV.list (w.map mtc) .no); exact fun C F L M=>by refine(?_:_→_→_→Prop) [PV.int .i64 n,L,.bool false,.ptr 1 0,M,.int .i64 i] (PV.int .u32 (cI C 2)) [F,.cells [.ptr 0 0]]; exact fun E G J=>by refine(?_:_→Prop) [PV.int .u8 (cI C 0),.int .u32 (cI C 1),G,.int .i64 (cI C 3),.int .i64 (cI C 4),.list (cL C 5) (cT C 5)]; exact fun D=>∀(R:Ex→List PV→Heap→Prop),(br (decide ((i:Int)<(↑(List.length (l.map acC)):Int))) (InL (l.map acC) 6 (i:Int)∧br (true && fitX [.int .u8,.int .u32,.int .u32,.int .i64,.int .i64,.list] 0 C) (∃(w_1:List Mt) (v:List Mt) (m_1:Int) (a:Ac) (t0:Tail) (t1:Tail),by refine(?_:_→_→Prop) [Ob.abs (rkM (rowsM (stepM w_1 m_1 a)) m_1),.cells [.ptr 0 0],.cells D] (PV.list (List.map mtc (stepM v m_1 a)) .no); exact fun z B=>by refine(?_:_→Prop) (R .ret E z); exact fun A=>SlIs [.ptr 1 0,M,.int .i64 (mxI 0 n),.agg D] [.ptr 1 0,.list (v.map mtc) t0,.int .i64 m_1,.agg [.int .u8 a.dO,.int .u32 a.id,.int .u32 a.p,.int .i64 a.st,.int .i64 a.md,.list (a.rows.map rrc) t1]]∧BkIs [F,.cells [.ptr 0 0],.cells D] 1 0 (rkM (rowsM w_1) m_1)∧MO w_1 m_1∧m_1≤100000∧(v=w_1∨v=[])∧Ac.Nn a∧smR a.rows∧∀(b:Bool),(v=w_1→b=true)→br ((!b) == false) (∃(q:Nat) (r:Nat) (w_2:List Mt) (m:Int),SlIs [.ptr 1 0] [.ptr q 0]∧BkIs z q r (rkM (rowsM w_2) m)∧MO w_2 m∧∃(w_3:List Mt) (tl:Tail),SlIs [B] [.list (w_3.map mtc) tl]∧w_3.length≤1000000∧∃(a_2:List Int) (b:List Int) (t:Tail) (t':Tail),SlIs [.list (List.map u1 (w_2.map Mt.id)) .no,.list (List.map u1 (w_3.map Mt.id)) .no] [.list (en1 .u32 a_2) t,.list (en1 .u32 b) t']∧a_2.length≤1000000∧br ((!decide (a_2=b)) == false) (∃(q:Nat) (r:Nat) (w_4:List Mt) (m:Int) (p:Int),SlIs [.ptr 1 0,G] [.ptr q 0,.int .u32 p]∧BkIs z q r (rkM (rowsM w_4) m)∧MO w_4 m∧∃(w_5:List Mt) (tl:Tail) (t:Int),SlIs [B,G] [.list (w_5.map mtc) tl,.int .u32 t]∧SmM w_5∧br (ofM w_4 p != ofM w_5 t) A (∃(n_1:Int) (m:Int) (l_1:List Ac) (w:List Mt) (a_3:Ac) (i_1:Nat),by refine(?_:_→_→_→_→Prop) (Ob.cells [.int .u8 a_3.dO,.int .u32 a_3.id,.int .u32 a_3.p,.int .i64 a_3.st,.int .i64 a_3.md,.list (a_3.rows.map rrc) .no]) (PV.list (w.map mtc) .no) (PV.list (l_1.map acC) .no) (Ob.abs (rkM (rowsM w) m)); exact fun k s x y=>by refine(?_:_→Prop) [y,.cells [.ptr 0 0],k]; exact fun u=>MO w m∧SlIs [.int .i64 n,L,.bool false,.ptr 1 0,.int .i64 i,.ptr 2 0,B,.int .i64 0] [.int .i64 n_1,x,.bool false,.ptr 1 0,.int .i64 i_1,.ptr 2 0,s,.int .i64 0]∧HpIs z u∧∃(q:Nat) (r:Nat) (w_6:List Mt) (m_2:Int) (p:Int),by refine(?_:_→Prop) (gM w_6 (ofM w_6 p)); exact fun j=>by refine(?_:_→Prop) (findM j p); exact fun h=>SlIs [.ptr 1 0,.int .u32 a_3.p] [.ptr q 0,.int .u32 p]∧BkIs u q r (rkM (rowsM w_6) m_2)∧MO w_6 m_2∧∃(w_7:List Mt) (tl:Tail) (t:Int),SlIs [s,.int .u32 a_3.p] [.list (w_7.map mtc) tl,.int .u32 t]∧SmM w_7∧∃(w_8:List Mt) (tl:Tail) (t_1:Int),by refine(?_:_→Prop) [PV.int .u32 (Mt.id (gM w_8 t_1)),.int .i64 (Mt.md (gM w_8 t_1)),.int .u32 (Mt.ins (gM w_8 t_1)),.list (List.map rrc (Mt.rows (gM w_8 t_1))) .no,.list (List.map stc (Mt.seats (gM w_8 t_1))) .no]; exact fun g=>SlIs [s,.int .u32 (ofM w_7 t)] [.list (w_8.map mtc) tl,.int .u32 t_1]∧w_8.length≤1000000∧∃(c:Mt) (t1:Tail) (t2:Tail) (t:Int),by refine(?_:_→Prop) [y,.cells [.ptr 0 0],k,.cells [.int .u32 (Se.pl h),.int .i64 (Se.tm h),.int .i64 (Se.nu h),.int .i64 (Se.st h),.int .i64 (Se.un h),.int .u64 (Se.no h)],.cells g,.cells [.int .u32 (Se.pl (findM c t)),.int .i64 (Se.tm (findM c t)),.int .i64 (Se.nu (findM c t)),.int .i64 (Se.st (findM c t)),.int .i64 (Se.un (findM c t)),.int .u64 (Se.no (findM c t))]]; exact fun d=>by refine(?_:_→Prop) (R .ret [.int .i64 n_1,x,.bool false,.ptr 1 0,.any,.int .i64 i_1] d); exact fun f=>SlIs [.agg g,.int .u32 a_3.p] [.agg [.int .u32 c.id,.int .i64 c.md,.int .u32 c.ins,.list (c.rows.map rrc) t1,.list (c.seats.map stc) t2],.int .u32 t]∧c.seats.length≤1000000∧br ((inM j p != inM c t) == false) (br ((Se.pl h != Se.pl (findM c t)) == false) (br ((Se.nu h != Se.nu (findM c t)) == false) (br ((Se.st h != Se.st (findM c t)) == false) (br (Se.no h != Se.no (findM c t)) f (R .normal [.int .i64 n_1,x,.bool false,.ptr 1 0,s,.int .i64 (wI ((i_1:Int)+1))] d)) f) f) f) f)) A) A) False) (R (.exit 0) E J))→Holds (wpc br Try.prog gl TRN [([1,0,0,1,1,1,0,1,0],rni_l)] (fun o=>match o.dst with|some 55=>5|some 65=>5|_=>0) (subOf [1,1,1,1,1,0,1,0] (bodyOf Try.f3)) [] (envS [0,1,4,5,6,7] E) J (fun ex e H=>R ex (List.map e [0,1,4,5,6,7]) H)):Prop):=fun R h=>holds_of_eq (by kernel_rfl) h
def runM (m:Int) (l:List Ac):List Mt:=l.foldl (fun w a=>stepM w m a) []
theorem runM_succ {m:Int} {l:List Ac} {i:Nat} (h:i<l.length):runM m (l.take (i+1))=stepM (runM m (l.take i)) m (l.getD i default):=by
 unfold runM; rw[take_snoc default h,List.foldl_append]; rfl
theorem runM_ok {m:Int} (h0:0≤m) (hm:m≤1000000) (l:List Ac):MO (runM m l) m:=by
 have:∀(l:List Ac) (w:List Mt),MO w m→MO (l.foldl (fun w a=>stepM w m a) w) m:=by
  intro l
  induction l with
  | nil=>intro w h; exact h
  | cons a l ih=>intro w h; exact ih _ (h.step a)
 exact this l [] (MO.nil h0 hm)
theorem low_ro {n:Int} {i0:Int} {l:List Ac} {w:List Mt} {b:Bool}:∀ v∈[PV.int .i64 n,.list (l.map acC) .no,.bool b,.ptr 1 0,.list (w.map mtc) .no,.int .i64 i0],Low 2 v:=by
 intro v hv
 simp only[List.mem_cons,List.not_mem_nil,or_false] at hv
 rcases hv with rfl|rfl|rfl|rfl|rfl|rfl
 ·exact .int _ _
 ·exact low_acs l
 ·exact .bool _
 ·exact .ptr _ _ (by decide)
 ·exact low_mts w
 ·exact .int _ _
theorem lowH_ro {w:List Mt} {m:Int}:LowH [.abs (rkM (rowsM w) m),.cells [.ptr 0 0]]:=lowH_of (by
 intro ob ho
 simp only[List.mem_cons,List.not_mem_nil,or_false] at ho
 rcases ho with rfl|rfl
 ·trivial
 ·exact low_one (.ptr _ _ (by simp)))
def okAs (l:List Ac):Prop:=∀ a∈l,a.Nn∧smR a.rows
def rno_l:LSp:=fun e H Q=>∃(n m:Int) (l:List Ac),m=mxI 0 n∧m≤100000∧l.length≤1000000∧okAs l∧SlIs (List.map e [0,1,4,5,6,7]) [.int .i64 n,.list (l.map acC) .no,.bool false,.ptr 1 0,.list [] .exact,.int .i64 0]∧HpIs H [.abs (rkM (rowsM []) m),.cells [.ptr 0 0]]∧Q (.exit 0) (envS [0,1,4,5,6,7] [.int .i64 n,.list (l.map acC) .no,.bool false,.ptr 1 0,.list ((runM m l).map mtc) .no,.int .i64 l.length]) [.abs (rkM (rowsM (runM m l)) m),.cells [.ptr 0 0]]
theorem rno_l_ok:∀ e H Q,rno_l e H Q→AW Try.prog gl Try.f3.ntmps (.loop (subOf [1,1,1,1,1,0,1,0] (bodyOf Try.f3))) Q e H:=by
 rintro e H Q ⟨n,m,l,hmn,hm,hl,hok,he,hH,hQ⟩
 have he:List.map e [0,1,4,5,6,7]=_:=he
 have h0:0≤m:=by rw[hmn]; unfold mxI; split<;>omega
 have hm1:m≤1000000:=by omega
 refine AW.wkin (slots:=[0,1,4,5,6,7]) (vs:=[.int .i64 n,.list (l.map acC) .no,.bool false,.ptr 1 0,.list ((runM m (l.take 0)).map mtc) .no,.int .i64 0]) (by rw[he]; exact .cons (.refl _) (.cons (.refl _) (.cons (.refl _) (.cons (.refl _) (.cons (.list _ _) (.cons (.refl _) .nil)))))) ?_
 refine aw_loop4 (hn:=fun o=>match o.dst with|some 55=>5|some 65=>5|_=>0) gl_low TRN_ok (.cons (sub_of (by kernel_rfl)) rni_l_ok2 (.nil _ _ _ _ _)) (σ:=Nat) [0,1,4,5,6,7] (fun i=>i≤l.length) (fun i=>[.int .i64 n,.list (l.map acC) .no,.bool false,.ptr 1 0,.list ((runM m (l.take i)).map mtc) .no,.int .i64 i]) (fun i=>[.abs (rkM (rowsM (runM m (l.take i))) m),.cells [.ptr 0 0]]) (fun i=>l.length-i) 0 (Nat.zero_le _) rfl hH ?_
 intro i hi
 have hi':i≤l.length:=hi
 obtain⟨w,hw⟩:∃ w,w=runM m (l.take i):=⟨_,rfl⟩
 have ro:MO w m:=by rw[hw]; exact runM_ok h0 hm1 _
 rw[← hw]
 refine rno_vc n m l w i _ ?_
 simp only[br_if,dt,List.length_map,toNat_nat]
 by_cases h:i<l.length
 ·rw[if_pos (by omega)]
  have hs:=runM_succ (m:=m) h
  rw[← hw] at hs
  obtain⟨a,ha⟩:∃ a,a=l.getD i default:=⟨_,rfl⟩
  obtain⟨nn,sm⟩:=hok a (by rw[ha,List.getD_eq_getElem?_getD,List.getElem?_eq_getElem h]; exact List.getElem_mem h)
  simp only[getD_map default h,← ha]
  rw[← ha] at hs
  refine⟨by rw[inL_ac]; exact h,?_⟩
  rw[if_pos (by rfl)]
  have ro2:=ro.step a
  refine⟨w,w,m,a,.no,.no,by rw[hmn]; rfl,⟨rfl,rfl⟩,ro,hm,.inl rfl,nn,sm,fun b hb=>?_⟩
  rw[hb rfl,if_pos (by rfl)]
  obtain⟨v,hv⟩:∃ v,v=stepM w m a:=⟨_,rfl⟩
  rw[← hv] at ro2 hs ⊢
  have hvl:=ro2.len
  refine⟨1,0,v,m,rfl,⟨rfl,rfl⟩,ro2,v,.no,rfl,ro2.len,v.map Mt.id,v.map Mt.id,.no,.no,rfl,by rw[List.length_map]; omega,?_⟩
  rw[if_pos (by simp)]
  refine⟨1,0,v,m,a.p,rfl,⟨rfl,rfl⟩,ro2,v,.no,a.p,rfl,ro2.smM hm,?_⟩
  rw[if_neg (by simp)]
  refine⟨n,m,l,v,a,i,ro2,rfl,rfl,1,0,v,m,a.p,rfl,⟨rfl,rfl⟩,ro2,v,.no,a.p,rfl,ro2.smM hm,v,.no,ofM v a.p,rfl,ro2.len,gM v (ofM v a.p),.no,.no,a.p,rfl,(ro2.getsm _).seats,?_⟩
  rw[if_pos (by simp),if_pos (by simp),if_pos (by simp),if_pos (by simp),if_neg (by simp)]
  have hp:∀ X:Heap,(.abs (rkM (rowsM v) m) :: .cells [.ptr 0 0]::X:Heap)=[.abs (rkM (rowsM (runM m (l.take (i+1)))) m),.cells [.ptr 0 0]]++X:=fun X=>by rw[hs]; rfl
  exact⟨i+1,(show l.length-(i+1)<l.length-i by omega),h,by(try dsimp only); rw[hs,wI_succ h (by omega)],_,hp _,Nat.le_refl _,.inr ⟨low_ro,lowH_ro⟩⟩
 ·rw[if_neg (by omega)]
  have hil:i=l.length:=by omega
  subst hil
  rw[List.take_length] at hw
  rw[hw]
  exact hQ
theorem rn_vc (n:Int) (l:List Ac):∀(K:PV→Prop),(br (decide (n>20) == false) (∃(l_1:List Ac) (t:Tail),SlIs [.list (l.map acC) .no] [.list (l_1.map acC) t]∧br (greatB l_1) (K (.bool true)) (∃(n_1:Int),SlIs [.int .i64 n] [.int .i64 n_1]∧∃(n_2:Int) (m:Int) (l_2:List Ac),m=mxI 0 n_2∧m≤100000∧l_2.length≤1000000∧okAs l_2∧SlIs [.int .i64 n,.list (l.map acC) .no,.bool false,.ptr 1 0,.list [] .exact,.int .i64 0] [.int .i64 n_2,.list (l_2.map acC) .no,.bool false,.ptr 1 0,.list [] .exact,.int .i64 0]∧HpIs [.abs (rkM [] (mxI 0 n_1)),.cells [.ptr 0 0]] [.abs (rkM [] m),.cells [.ptr 0 0]]∧∃(q:Nat) (r:Nat) (w:List Mt) (m_1:Int) (t:Int),SlIs [.ptr 1 0,.int .u32 0] [.ptr q 0,.int .u32 t]∧BkIs [.abs (rkM (rowsM (runM m l_2)) m),.cells [.ptr 0 0]] q r (rkM (rowsM w) m_1)∧MO w m_1∧br ((!hasG Mt.id w t) == true) (SlIs [] []∧K (.bool true)) (K (.bool false)))) (K (.bool true)))→ACalls Try.prog gl 3 [.int .i64 n,.list (l.map acC) .no] [] (fun x _=>K x):=fun K h=>acalls_of_wpc2 (T:=TRN) (L:=[([1,1,1,1,1,0,1,0],rno_l)]) (fun o=>match o.dst with|some 55=>5|some 65=>5|_=>0) Try.func3 (by kernel_rfl) (by kernel_rfl) (by kernel_rfl) (TRN_ok) (.cons (sub_of (by kernel_rfl)) rno_l_ok (.nil _ _ _ _ _)) (holds_of_eq (by kernel_rfl) h)
theorem runs_law (n:Int) (l:List Ac) (nn:∀ a∈l,a.Nn):ACalls Try.prog gl 3 [.int .i64 n,.list (l.map acC) .no] [] (fun x _=>x = .bool true):=by
 refine rn_vc n l (fun x=>x = .bool true) ?_
 simp only[br_if]
 by_cases c1:n>20
 ·rw[if_neg (by rw[decide_eq_true c1]; decide)]; trivial
 ·rw[if_pos (by rw[decide_eq_false c1]; rfl)]
  refine⟨l,.no,rfl,?_⟩
  by_cases c2:greatB l=true
  ·rw[if_pos c2]; trivial
  ·rw[if_neg c2]
   obtain⟨g1,g2⟩:=great_no (show greatB l=false by simpa using c2)
   have hm:mxI 0 n≤100000:=by unfold mxI; split<;>omega
   have h0:0≤mxI 0 n:=by unfold mxI; split<;>omega
   have ro:=runM_ok h0 (by omega) l
   refine⟨n,rfl,n,mxI 0 n,l,rfl,hm,by omega,fun a ha=>⟨nn a ha,g2 a ha⟩,rfl,rfl,1,0,runM (mxI 0 n) l,mxI 0 n,0,rfl,⟨rfl,rfl⟩,ro,?_⟩
   rw[if_pos (by rw[ro.has0]; rfl)]
   exact⟨rfl,trivial⟩
end Go.Proofs.Ytenaelaapdhbdaa
