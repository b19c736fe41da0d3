/-
  SeatOne's inner loops.
-/
import Derived.Test.YtenaelaapdhbdaaSah
import Derived.Test.YtenaelaapdhbdaaA4
import Derived.Test.YtenaelaapdhbdaaProg
namespace Go.Proofs.Ytenaelaapdhbdaa
open Go Go.AM Go.Proofs
def TRO:Tab:=[(8,.heap do_s),(10,.read tids_s),(12,.read tof_s),(14,.read tmaR_s),(19,.read tse_s),(17,.pure team_s),(23,.pure has_s),(22,.pure awake_s),(6,.pure great_s),(7,.heap tnew_s)]
theorem TRO_ok:TabOk Try.prog gl TRO:= .cons do_ok (.cons tids_ok (.cons tof_ok (.cons tmaR_ok (.cons tse_ok (.cons team_ok (.cons has_ok (.cons awake_ok (.cons great_ok (.cons tnew_ok (.nil _ _))))))))))
theorem on4A_vc (l:List Ac) (w:List Mt) (m:Int) (c:Mt) (i k many j x:Nat):(by refine(?_:_→_→_→_→_→_→Prop) (List.getD (c.rows.map rrc) (Int.toNat (j:Int)) []) (Ob.cells [.int .u32 c.id,.int .i64 c.md,.int .u32 c.ins,.list (c.rows.map rrc) .no,.list (c.seats.map stc) .no]) (PV.list (List.map u1 (w.map Mt.id)) .no) (Ob.abs (rkM (rowsM w) m)) (PV.list (l.map acC) .no) (PV.int .i64 (wI ((many:Int)+1))); exact fun s u v z A D=>by refine(?_:_→_→_→Prop) (cL (List.drop 1 s) 0) (true && fitX [.list] 0 (List.drop 1 s)) [z,.cells [.ptr 0 0],u]; exact fun y B E=>by refine(?_:_→Prop) (List.getD y (Int.toNat (x:Int)) []); exact fun C=>∀(R:Ex→List PV→Heap→Prop),(InL (c.rows.map rrc) 4 (j:Int)∧br B (br (decide ((x:Int)<(↑(List.length y):Int))) (InL (c.rows.map rrc) 4 (j:Int)∧br B (InL y 1 (x:Int)∧br (true && fitX [.int .u32] 0 C) (∃(q:Nat) (r:Nat) (w_1:List Mt) (m_1:Int) (p:Int),by refine(?_:_→Prop) (gM w_1 (ofM w_1 p)); exact fun n=>by refine(?_:_→Prop) (findM n p); exact fun b=>by refine(?_:_→_→Prop) (PV.int .u32 (Se.pl b)) [[PV.int .u32 (Se.pl b)]]; exact fun g h=>by refine(?_:_→Prop) (Ob.cells [g,.int .i64 (Se.tm b),.int .i64 (Se.nu b),.int .i64 (Se.st b),.int .i64 (Se.un b),.int .u64 (Se.no b)]); exact fun f=>by refine(?_:_→Prop) [Ob.abs (rkM (rowsM w) m),.cells [.ptr 0 0],u,f]; exact fun d=>by refine(?_:_→Prop) (R .ret [A,.ptr 1 0,.list [] .exact,.int .i64 i,.list [] .exact,v,.int .i64 k,.ptr 2 0,D,.int .i64 j,.int .i64 x] d); exact fun a=>SlIs [.ptr 1 0,.int .u32 (cI C 0)] [.ptr q 0,.int .u32 p]∧BkIs E q r (rkM (rowsM w_1) m_1)∧MO w_1 m_1∧br ((!inM n p) == false) (InL (c.rows.map rrc) 4 (j:Int)∧br (true && fitX [.int .i64] 0 (List.drop 0 s)) (br ((Se.tm b != cI (List.drop 0 s) 0) == false) (∃(q:Nat) (r:Nat) (w_2:List Mt) (m_2:Int) (p_1:Int),SlIs [.ptr 1 0,g] [.ptr q 0,.int .u32 p_1]∧BkIs d q r (rkM (rowsM w_2) m_2)∧MO w_2 m_2∧br ((ofM w_2 p_1 != c.id) == false) (∃(l_1:List Int) (tl:Tail) (t:Int),SlIs [.list [] .exact,g] [.list (l_1.map u1) tl,.int .u32 t]∧l_1.length≤1000000∧br (memB l_1 t) a (AppL [] h 1 4∧(List.all [g] PV.one=true∧h≠[])∧R .normal [A,.ptr 1 0,.list [] .exact,.int .i64 i,.list h (.tok 4),v,.int .i64 k,.ptr 2 0,D,.int .i64 j,.int .i64 (wI ((x:Int)+1))] [z,.cells [.ptr 0 0],u,f,.tok])) a) a) False) a) False) False) (R (.exit 6) [A,.ptr 1 0,.list [] .exact,.int .i64 i,.list [] .exact,v,.int .i64 k,.ptr 2 0,.int .i64 many,.int .i64 j,.int .i64 x] E)) False)→Holds (wpc br Try.prog gl TRO [] (fun o=>match o.dst with|some 128=>5|some 143=>1|_=>0) (subOf [1,1,1,1,0,1,0,0,1,0,0,1,1,1,1,0,0,1,0,0,1,1,1,0,1,0,0,1,0,0,1,0] (bodyOf Try.f4)) [] (envS [0,3,4,5,6,7,8,9,11,12,13] [A,.ptr 1 0,.list [] .exact,.int .i64 i,.list [] .exact,.list ((w.map Mt.id).map u1) .no,.int .i64 k,.ptr 2 0,.int .i64 many,.int .i64 j,.int .i64 x]) [z,.cells [.ptr 0 0],.cells (mtc c)] (fun ex e H=>R ex (List.map e [0,3,4,5,6,7,8,9,11,12,13]) H)):Prop):=fun R h=>holds_of_eq (by kernel_rfl) h
theorem on4B_vc (l:List Ac) (w:List Mt) (m:Int) (c:Mt) (b:List Int) (i k many j x:Nat):(by refine(?_:_→_→_→_→_→_→_→Prop) (List.getD (c.rows.map rrc) (Int.toNat (j:Int)) []) (Ob.cells [.int .u32 c.id,.int .i64 c.md,.int .u32 c.ins,.list (c.rows.map rrc) .no,.list (c.seats.map stc) .no]) (PV.list (b.map u1) (.tok 3)) (PV.list (List.map u1 (w.map Mt.id)) .no) (Ob.abs (rkM (rowsM w) m)) (PV.list (l.map acC) .no) (PV.int .i64 (wI ((many:Int)+1))); exact fun u v y z B C F=>by refine(?_:_→_→_→Prop) (cL (List.drop 1 u) 0) (true && fitX [.list] 0 (List.drop 1 u)) [B,.cells [.ptr 0 0],v,.tok]; exact fun A D G=>by refine(?_:_→Prop) (List.getD A (Int.toNat (x:Int)) []); exact fun E=>∀(R:Ex→List PV→Heap→Prop),(InL (c.rows.map rrc) 4 (j:Int)∧br D (br (decide ((x:Int)<(↑(List.length A):Int))) (InL (c.rows.map rrc) 4 (j:Int)∧br D (InL A 1 (x:Int)∧br (true && fitX [.int .u32] 0 E) (∃(q:Nat) (r:Nat) (w_1:List Mt) (m_1:Int) (p:Int),by refine(?_:_→Prop) (gM w_1 (ofM w_1 p)); exact fun s=>by refine(?_:_→Prop) (findM s p); exact fun d=>by refine(?_:_→_→Prop) (PV.int .u32 (Se.pl d)) [[PV.int .u32 (Se.pl d)]]; exact fun h n=>by refine(?_:_→Prop) (Ob.cells [h,.int .i64 (Se.tm d),.int .i64 (Se.nu d),.int .i64 (Se.st d),.int .i64 (Se.un d),.int .u64 (Se.no d)]); exact fun g=>by refine(?_:_→Prop) [Ob.abs (rkM (rowsM w) m),.cells [.ptr 0 0],v,.tok,g]; exact fun f=>by refine(?_:_→Prop) (R .ret [C,.ptr 1 0,.list [] .exact,.int .i64 i,y,z,.int .i64 k,.ptr 2 0,F,.int .i64 j,.int .i64 x] f); exact fun a=>SlIs [.ptr 1 0,.int .u32 (cI E 0)] [.ptr q 0,.int .u32 p]∧BkIs G q r (rkM (rowsM w_1) m_1)∧MO w_1 m_1∧br ((!inM s p) == false) (InL (c.rows.map rrc) 4 (j:Int)∧br (true && fitX [.int .i64] 0 (List.drop 0 u)) (br ((Se.tm d != cI (List.drop 0 u) 0) == false) (∃(q:Nat) (r:Nat) (w_2:List Mt) (m_2:Int) (p_1:Int),SlIs [.ptr 1 0,h] [.ptr q 0,.int .u32 p_1]∧BkIs f q r (rkM (rowsM w_2) m_2)∧MO w_2 m_2∧br ((ofM w_2 p_1 != c.id) == false) (∃(l_1:List Int) (tl:Tail) (t:Int),SlIs [y,h] [.list (l_1.map u1) tl,.int .u32 t]∧l_1.length≤1000000∧br (memB l_1 t) a (AppL (b.map u1) n 1 4∧(List.all [h] PV.one=true∧n≠[])∧R .normal [C,.ptr 1 0,.list [] .exact,.int .i64 i,.list (b.map u1++n) (.tok 5),z,.int .i64 k,.ptr 2 0,F,.int .i64 j,.int .i64 (wI ((x:Int)+1))] [B,.cells [.ptr 0 0],v,.dead,g,.tok])) a) a) False) a) False) False) (R (.exit 6) [C,.ptr 1 0,.list [] .exact,.int .i64 i,y,z,.int .i64 k,.ptr 2 0,.int .i64 many,.int .i64 j,.int .i64 x] G)) False)→Holds (wpc br Try.prog gl TRO [] (fun o=>match o.dst with|some 128=>5|some 143=>1|_=>0) (subOf [1,1,1,1,0,1,0,0,1,0,0,1,1,1,1,0,0,1,0,0,1,1,1,0,1,0,0,1,0,0,1,0] (bodyOf Try.f4)) [] (envS [0,3,4,5,6,7,8,9,11,12,13] [C,.ptr 1 0,.list [] .exact,.int .i64 i,y,.list ((w.map Mt.id).map u1) .no,.int .i64 k,.ptr 2 0,.int .i64 many,.int .i64 j,.int .i64 x]) [B,.cells [.ptr 0 0],.cells (mtc c),.tok] (fun ex e H=>R ex (List.map e [0,3,4,5,6,7,8,9,11,12,13]) H)):Prop):=fun R h=>holds_of_eq (by kernel_rfl) h
theorem on5_vc (l:List Ac) (w:List Mt) (m:Int) (c:Mt) (X:Heap) (T:PV) (i k many j:Nat):(by refine(?_:_→_→_→_→_→Prop) (List.drop 2 (List.getD (c.seats.map stc) (Int.toNat (j:Int)) [])) (PV.list (List.map u1 (w.map Mt.id)) .no) (Ob.abs (rkM (rowsM w) m)) (PV.list (l.map acC) .no) (wI ((j:Int)-1)); exact fun d h o p q=>by refine(?_:_→_→_→_→Prop) ([o,.cells [.ptr 0 0],.cells [.int .u32 c.id,.int .i64 c.md,.int .u32 c.ins,.list (c.rows.map rrc) .no,.list (c.seats.map stc) .no]]++X) [PV.list (l.map acC) .no,.ptr 1 0,.list [] .exact,.int .i64 i,T,h,.int .i64 k,.ptr 2 0,.int .i64 many,.int .i64 j] (List.drop 2 (List.getD (c.seats.map stc) (Int.toNat q) [])) (true && fitX [.int .i64] 0 d); exact fun b f g n=>∀(R:Ex→List PV→Heap→Prop),by refine(?_:_→Prop) (R .ret f b); exact fun a=>(br (decide ((j:Int)<(↑(List.length (c.seats.map stc)):Int))) (InL (c.seats.map stc) 6 q∧br (true && fitX [.int .i64] 0 g) (InL (c.seats.map stc) 6 (j:Int)∧br n (br (decide (cI g 0≥cI d 0) == false) (InL (c.seats.map stc) 6 (j:Int)∧br n (br (decide (cI d 0>7)) a (R .normal [p,.ptr 1 0,.list [] .exact,.int .i64 i,T,h,.int .i64 k,.ptr 2 0,.int .i64 many,.int .i64 (wI ((j:Int)+1))] b)) False) a) False) False) (R (.exit 8) f b))→Holds (wpc br Try.prog gl TRO [] (fun _=>0) (subOf [1,1,1,1,0,1,0,0,1,0,0,1,1,1,1,0,0,1,0,0,1,1,1,1,0,1,0] (bodyOf Try.f4)) [] (envS [0,3,4,5,6,7,8,9,11,16] [p,.ptr 1 0,.list [] .exact,.int .i64 i,T,.list ((w.map Mt.id).map u1) .no,.int .i64 k,.ptr 2 0,.int .i64 many,.int .i64 j]) ([o,.cells [.ptr 0 0],.cells (mtc c)]++X) (fun ex e H=>R ex (List.map e [0,3,4,5,6,7,8,9,11,16]) H)):Prop):=fun R h=>holds_of_eq (by kernel_rfl) h
theorem lowB3 {w:List Mt} {m:Int} {c:Mt}:LowB [.abs (rkM (rowsM w) m),.cells [.ptr 0 0],.cells (mtc c)]:=by
 intro o cs ho
 have k1:=(List.getElem?_eq_some_iff.1 ho).1
 simp at k1
 have:o=0∨o=1∨o=2:=by omega
 rcases this with rfl|rfl|rfl<;>cases ho<;>intro x hx
 ·rcases List.mem_singleton.1 hx with rfl
  exact .inr ⟨0,0,by simp,rfl⟩
 ·exact .inl (low_mtc c x hx)
theorem renV_on {l:List Ac} {i:Int} {w:List Mt} {k:Int} {z:List PV} (hz:∀ x∈z,Low 0 x):RenV 3 (fun T=> .list (l.map acC) .no :: .ptr 1 0 :: .list [] .exact :: .int .i64 i::T :: .list ((w.map Mt.id).map u1) .no :: .int .i64 k :: .ptr 2 0::z):=by
 intro ρ n k' es h1 h2 h3 h4
 have e1:=Ren.ptr (ρ:=ρ) (n:=n) 1 0 (by omega)
 have e2:=Ren.ptr (ρ:=ρ) (n:=n) 2 0 (by omega)
 rw[h1 1 (by decide)] at e1
 rw[h1 2 (by decide)] at e2
 exact .cons (.low (low_acs _)) (.cons e1 (.cons (.low lowNil) (.cons (.low (.int _ _)) (.cons (.ltok es k' h3 h4) (.cons (.low (low_rows low_u1 _)) (.cons (.low (.int _ _)) (.cons e2 (RenL.low hz))))))))
theorem rvs_on {l:List Ac} {i:Int} {w:List Mt} {k:Int} {z:List PV} (hz:∀ x∈z,Low 3 x) {es:List (List PV)} {k':Nat} (h:∀ y∈es.flatten,Low 3 y):RVs 3 k' (.list (l.map acC) .no :: .ptr 1 0 :: .list [] .exact :: .int .i64 i :: .list es (.tok k') :: .list ((w.map Mt.id).map u1) .no :: .int .i64 k :: .ptr 2 0::z) (.list (l.map acC) .no :: .ptr 1 0 :: .list [] .exact :: .int .i64 i :: .list es (.tok 3) :: .list ((w.map Mt.id).map u1) .no :: .int .i64 k :: .ptr 2 0::z):=by
 refine .same (low_acs _) (.same (.ptr _ _ (by decide)) (.same lowNil (.same (.int _ _) (.row h (.same (low_rows low_u1 _) (.same (.int _ _) (.same (.ptr _ _ (by decide)) ?_)))))))
 induction z with
 | nil=>exact .nil
 | cons x z ih=>exact .same (hz x (by simp)) (ih fun y hy=>hz y (by simp[hy]))
theorem low_on {l:List Ac} {i:Int} {w:List Mt} {k:Int} {z:List PV} (hz:∀ x∈z,Low 3 x):∀ v∈(.list (l.map acC) .no :: .ptr 1 0 :: .list [] .exact :: .int .i64 i :: .list [] .exact :: .list ((w.map Mt.id).map u1) .no :: .int .i64 k :: .ptr 2 0::z:List PV),Low 3 v:=by
 intro v hv
 simp only[List.mem_cons] at hv
 rcases hv with rfl|rfl|rfl|rfl|rfl|rfl|rfl|rfl|hv
 ·exact low_acs _
 ·exact .ptr _ _ (by decide)
 ·exact lowNil
 ·exact .int _ _
 ·exact lowNil
 ·exact low_rows low_u1 _
 ·exact .int _ _
 ·exact .ptr _ _ (by decide)
 ·exact hz v hv
def on4A_l:LSp:=fun e H Q=>∃(l:List Ac) (w:List Mt) (m:Int) (c:Mt) (i k many j:Nat),MO w m∧c∈w∧j<c.rows.length∧([]++(c.rows.getD j default).pl).Nodup∧(c.rows.getD j default).pl.length≤1000000∧many≤1000000∧SlIs (List.map e [0,3,4,5,6,7,8,9,11,12,13]) [.list (l.map acC) .no,.ptr 1 0,.list [] .exact,.int .i64 i,.list [] .exact,.list ((w.map Mt.id).map u1) .no,.int .i64 k,.ptr 2 0,.int .i64 many,.int .i64 j,.int .i64 0]∧HpIs H [.abs (rkM (rowsM w) m),.cells [.ptr 0 0],.cells (mtc c)]∧
 ((c.rows.getD j default).pl=[]→Q (.exit 6) (envS [0,3,4,5,6,7,8,9,11,12,13] [.list (l.map acC) .no,.ptr 1 0,.list [] .exact,.int .i64 i,.list [] .exact,.list ((w.map Mt.id).map u1) .no,.int .i64 k,.ptr 2 0,.int .i64 many,.int .i64 j,.int .i64 0]) [.abs (rkM (rowsM w) m),.cells [.ptr 0 0],.cells (mtc c)])∧((c.rows.getD j default).pl≠[]→Q (.exit 6) (envS [0,3,4,5,6,7,8,9,11,12,13] [.list (l.map acC) .no,.ptr 1 0,.list [] .exact,.int .i64 i,.list ((c.rows.getD j default).pl.map u1) (.tok 3),.list ((w.map Mt.id).map u1) .no,.int .i64 k,.ptr 2 0,.int .i64 ((many+(c.rows.getD j default).pl.length:Nat):Int),.int .i64 j,.int .i64 (c.rows.getD j default).pl.length]) [.abs (rkM (rowsM w) m),.cells [.ptr 0 0],.cells (mtc c),.tok])
set_option maxRecDepth 10000 in
theorem on4A_l_ok:∀ e H Q,on4A_l e H Q→AW Try.prog gl Try.f4.ntmps (.loop (subOf [1,1,1,1,0,1,0,0,1,0,0,1,1,1,1,0,0,1,0,0,1,1,1,0,1,0,0,1,0,0,1,0] (bodyOf Try.f4))) Q e H:=by
 rintro e H Q ⟨l,w,m,c,i,k,many,j,ro,hc,hj,hnd,hbl,hmn,he,hH,hQ⟩
 have hH:H=_:=hH
 obtain⟨r,hr⟩:∃ r,r=c.rows.getD j default:=⟨_,rfl⟩
 have hrm:r∈c.rows:=by rw[hr]; exact getD_mem hj
 have inl:InL (c.rows.map rrc) 4 (j:Int):=by rw[inL_rrc]; exact hj
 have c1:cL (List.drop 1 (rrc r)) 0=r.pl.map u1:=rfl
 have c0:cI (List.drop 0 (rrc r)) 0=r.tm:=rfl
 simp only[← hr] at hnd hbl hQ
 refine aw_growifA (f:=u1) (acc:=fun x=>r.pl.take x) (I:=fun x=>x≤r.pl.length) (m:=fun x=>r.pl.length-x) gl_low [0,3,4,5,6,7,8,9,11,12,13] (fun T x=>[.list (l.map acC) .no,.ptr 1 0,.list [] .exact,.int .i64 i,T,.list ((w.map Mt.id).map u1) .no,.int .i64 k,.ptr 2 0,.int .i64 ((many+x:Nat):Int),.int .i64 j,.int .i64 x]) [.abs (rkM (rowsM w) m),.cells [.ptr 0 0],.cells (mtc c)] (0:Nat)
  lowB3.up (fun _ _ a _=>low_u1 a) (fun es x j _ h=>rvs_on (fun y hy=>low_three (.int _ _) (.int _ _) (.int _ _) y hy) h) (fun x _ v hv=>low_on (fun y hy=>low_three (.int _ _) (.int _ _) (.int _ _) y hy) v hv) (Nat.zero_le _) rfl (by rw[he]; rfl) hH ?_ ?_
 ·intro x hx ha
  have hx':x≤r.pl.length:=hx
  refine wpc_sound TRO_ok (subOf [1,1,1,1,0,1,0,0,1,0,0,1,1,1,1,0,0,1,0,0,1,1,1,0,1,0,0,1,0,0,1,0] (bodyOf Try.f4)) [] (.nil _ _ _ _ _) _ _ _ (on4A_vc l w m c i k (many+x) j x _ ?_).out
  simp only[br_if,dt,toNat_nat,getD_map default hj,← hr,c1,c0,List.length_map]
  refine⟨inl,?_⟩
  rw[if_pos (by rfl)]
  by_cases h:x<r.pl.length
  ·rw[if_pos (by omega)]
   have hpm:r.pl.getD x 0∈r.pl:=by rw[List.getD_eq_getElem?_getD,List.getElem?_eq_getElem h]; exact List.getElem_mem h
   obtain⟨s1,s2,s3⟩:=find_in (ro.cs c hc) hrm hpm
   obtain⟨s4,s5⟩:=of_in ro hc s1
   have inl2:InL (r.pl.map u1) 1 (x:Int):=by rw[inL_u1]; exact h
   have cp:cI (u1 (r.pl.getD x 0)) 0=r.pl.getD x 0:=rfl
   have hmb:=nd_new h hnd
   refine⟨inl,?_⟩
   rw[if_pos (by rfl)]
   refine⟨inl2,?_⟩
   simp only[getD_map 0 h,cp]
   rw[if_pos (by rfl)]
   refine⟨1,0,w,m,r.pl.getD x 0,rfl,⟨rfl,rfl⟩,ro,?_⟩
   simp only[s1,s2,s3,s4,s5]
   rw[if_pos (by rfl)]
   refine⟨inl,?_⟩
   rw[if_pos (by rfl),if_pos (by simp)]
   refine⟨1,0,w,m,r.pl.getD x 0,rfl,⟨rfl,rfl⟩,ro,?_⟩
   rw[s4,if_pos (by simp)]
   refine⟨[],.exact,r.pl.getD x 0,rfl,(by decide),?_⟩
   rw[if_neg (by simp[memB])]
   refine⟨appL_map (l:=[]) (by_:=4) u1_len (r.pl.getD x 0) (by show(0+1)*4≤_; decide),one_row one_u1 (r.pl.getD x 0),?_⟩
   have hs:r.pl.take (x+1)=[r.pl.getD x 0]:=by rw[take_snoc 0 h,show r.pl.take x=[] from ha]; rfl
   exact growQ_add (x+1) (show r.pl.length-(x+1)<r.pl.length-x by omega) h hs (by simp) [_,.tok] 4 rfl rfl (by simp) (by(try dsimp only); rw[wI_succ h (by omega),w_small (by omega) (by omega)]; rfl)
  ·rw[if_neg (by omega)]
   have hn:r.pl=[]:=by
    have ha:r.pl.take x=[]:=ha
    have:=congrArg List.length ha
    rw[List.length_take] at this
    exact List.length_eq_zero_iff.1 (by have e:([]:List Int).length=0:=rfl; omega)
   have x0:x=0:=by rw[hn] at hx'; exact Nat.le_zero.1 hx'
   subst x0
   exact growQ_end (WkL.refl _) (Pad.refl _) (hQ.1 hn)
 ·intro x hx ha
  have hx':x≤r.pl.length:=hx
  have ha:r.pl.take x≠[]:=ha
  refine wpc_sound TRO_ok (subOf [1,1,1,1,0,1,0,0,1,0,0,1,1,1,1,0,0,1,0,0,1,1,1,0,1,0,0,1,0,0,1,0] (bodyOf Try.f4)) [] (.nil _ _ _ _ _) _ _ _ (on4B_vc l w m c (r.pl.take x) i k (many+x) j x _ ?_).out
  simp only[br_if,dt,toNat_nat,getD_map default hj,← hr,c1,c0,List.length_map]
  refine⟨inl,?_⟩
  rw[if_pos (by rfl)]
  by_cases h:x<r.pl.length
  ·rw[if_pos (by omega)]
   have hpm:r.pl.getD x 0∈r.pl:=by rw[List.getD_eq_getElem?_getD,List.getElem?_eq_getElem h]; exact List.getElem_mem h
   obtain⟨s1,s2,s3⟩:=find_in (ro.cs c hc) hrm hpm
   obtain⟨s4,s5⟩:=of_in ro hc s1
   have inl2:InL (r.pl.map u1) 1 (x:Int):=by rw[inL_u1]; exact h
   have cp:cI (u1 (r.pl.getD x 0)) 0=r.pl.getD x 0:=rfl
   have hmb:=nd_new h hnd
   refine⟨inl,?_⟩
   rw[if_pos (by rfl)]
   refine⟨inl2,?_⟩
   simp only[getD_map 0 h,cp]
   rw[if_pos (by rfl)]
   refine⟨1,0,w,m,r.pl.getD x 0,rfl,⟨rfl,rfl⟩,ro,?_⟩
   simp only[s1,s2,s3,s4,s5]
   rw[if_pos (by rfl)]
   refine⟨inl,?_⟩
   rw[if_pos (by rfl),if_pos (by simp)]
   refine⟨1,0,w,m,r.pl.getD x 0,rfl,⟨rfl,rfl⟩,ro,?_⟩
   rw[s4,if_pos (by simp)]
   refine⟨r.pl.take x,_,r.pl.getD x 0,rfl,(by rw[List.length_take]; omega),?_⟩
   rw[List.nil_append] at hmb
   rw[hmb,if_neg (by decide)]
   refine⟨appL_map (by_:=4) u1_len (r.pl.take x) (r.pl.getD x 0) (by rw[List.length_take]; omega),one_row one_u1 (r.pl.getD x 0),?_⟩
   have hs:r.pl.take (x+1)=r.pl.take x++[r.pl.getD x 0]:=take_snoc 0 h
   exact growQ_add (x+1) (show r.pl.length-(x+1)<r.pl.length-x by omega) h hs (by simp) [.dead,_,.tok] 5 rfl rfl (by simp) (by(try dsimp only); rw[wI_succ h (by omega),w_small (by omega) (by omega),List.map_append]; rfl)
  ·rw[if_neg (by omega)]
   have:x=r.pl.length:=by omega
   subst this
   have hn:r.pl≠[]:=fun e=>ha (by rw[e]; rfl)
   rw[List.take_length]
   exact growQ_end (WkL.refl _) (Pad.refl _) (hQ.2 hn)
def on4B_l:LSp:=fun e H Q=>∃(l:List Ac) (w:List Mt) (m:Int) (c:Mt) (b:List Int) (i k many j:Nat),MO w m∧c∈w∧j<c.rows.length∧(b++(c.rows.getD j default).pl).Nodup∧b.length+(c.rows.getD j default).pl.length≤1000000∧many≤1000000∧SlIs (List.map e [0,3,4,5,6,7,8,9,11,12,13]) [.list (l.map acC) .no,.ptr 1 0,.list [] .exact,.int .i64 i,.list (b.map u1) (.tok 3),.list ((w.map Mt.id).map u1) .no,.int .i64 k,.ptr 2 0,.int .i64 many,.int .i64 j,.int .i64 0]∧HpIs H [.abs (rkM (rowsM w) m),.cells [.ptr 0 0],.cells (mtc c),.tok]∧
 ∀(X:Heap) (q:Nat),([.abs (rkM (rowsM w) m),.cells [.ptr 0 0],.cells (mtc c)]++X)[q]?=some .tok→3≤q→Q (.exit 6) (envS [0,3,4,5,6,7,8,9,11,12,13] [.list (l.map acC) .no,.ptr 1 0,.list [] .exact,.int .i64 i,.list ((b++(c.rows.getD j default).pl).map u1) (.tok q),.list ((w.map Mt.id).map u1) .no,.int .i64 k,.ptr 2 0,.int .i64 ((many+(c.rows.getD j default).pl.length:Nat):Int),.int .i64 j,.int .i64 (c.rows.getD j default).pl.length]) ([.abs (rkM (rowsM w) m),.cells [.ptr 0 0],.cells (mtc c)]++X)
set_option maxRecDepth 10000 in
theorem on4B_l_ok:∀ e H Q,on4B_l e H Q→AW Try.prog gl Try.f4.ntmps (.loop (subOf [1,1,1,1,0,1,0,0,1,0,0,1,1,1,1,0,0,1,0,0,1,1,1,0,1,0,0,1,0,0,1,0] (bodyOf Try.f4))) Q e H:=by
 rintro e H Q ⟨l,w,m,c,b,i,k,many,j,ro,hc,hj,hnd,hbl,hmn,he,hH,hQ⟩
 have hH:H=_:=hH
 obtain⟨r,hr⟩:∃ r,r=c.rows.getD j default:=⟨_,rfl⟩
 have hrm:r∈c.rows:=by rw[hr]; exact getD_mem hj
 have inl:InL (c.rows.map rrc) 4 (j:Int):=by rw[inL_rrc]; exact hj
 have c1:cL (List.drop 1 (rrc r)) 0=r.pl.map u1:=rfl
 have c0:cI (List.drop 0 (rrc r)) 0=r.tm:=rfl
 simp only[← hr] at hnd hbl hQ
 refine aw_growon (f:=u1) (acc:=fun x=>b++r.pl.take x) (I:=fun x=>x≤r.pl.length) (m:=fun x=>r.pl.length-x) (hn:=fun o=>match o.dst with|some 128=>5|some 143=>1|_=>0) gl_low TRO_ok (.nil _ _ _ _ _) [0,3,4,5,6,7,8,9,11,12,13] (fun T x=>[.list (l.map acC) .no,.ptr 1 0,.list [] .exact,.int .i64 i,T,.list ((w.map Mt.id).map u1) .no,.int .i64 k,.ptr 2 0,.int .i64 ((many+x:Nat):Int),.int .i64 j,.int .i64 x]) [.abs (rkM (rowsM w) m),.cells [.ptr 0 0],.cells (mtc c)] (0:Nat)
  lowB3 (fun _ _ a _=>low_u1 a) (fun x _=>renV_on (low_three (.int _ _) (.int _ _) (.int _ _))) (fun T x=>rfl) (Nat.zero_le _) (by rw[he]; simp) hH ?_
 intro x hx
 have hx':x≤r.pl.length:=hx
 have hbl2:(b++r.pl.take x).length≤1000000:=by rw[List.length_append,List.length_take]; omega
 refine on4B_vc l w m c (b++r.pl.take x) i k (many+x) j x _ ?_
 simp only[br_if,dt,toNat_nat,getD_map default hj,← hr,c1,c0,List.length_map]
 refine⟨inl,?_⟩
 rw[if_pos (by rfl)]
 by_cases h:x<r.pl.length
 ·rw[if_pos (by omega)]
  have hpm:r.pl.getD x 0∈r.pl:=by rw[List.getD_eq_getElem?_getD,List.getElem?_eq_getElem h]; exact List.getElem_mem h
  obtain⟨s1,s2,s3⟩:=find_in (ro.cs c hc) hrm hpm
  obtain⟨s4,s5⟩:=of_in ro hc s1
  have inl2:InL (r.pl.map u1) 1 (x:Int):=by rw[inL_u1]; exact h
  have cp:cI (u1 (r.pl.getD x 0)) 0=r.pl.getD x 0:=rfl
  have hmb:=nd_new h hnd
  refine⟨inl,?_⟩
  rw[if_pos (by rfl)]
  refine⟨inl2,?_⟩
  simp only[getD_map 0 h,cp]
  rw[if_pos (by rfl)]
  refine⟨1,0,w,m,r.pl.getD x 0,rfl,⟨rfl,rfl⟩,ro,?_⟩
  simp only[s1,s2,s3,s4,s5]
  rw[if_pos (by rfl)]
  refine⟨inl,?_⟩
  rw[if_pos (by rfl),if_pos (by simp)]
  refine⟨1,0,w,m,r.pl.getD x 0,rfl,⟨rfl,rfl⟩,ro,?_⟩
  rw[s4,if_pos (by simp)]
  refine⟨b++r.pl.take x,_,r.pl.getD x 0,rfl,hbl2,?_⟩
  rw[hmb,if_neg (by decide)]
  refine⟨appL_map (by_:=4) u1_len (b++r.pl.take x) (r.pl.getD x 0) (by omega),one_row one_u1 (r.pl.getD x 0),?_⟩
  refine⟨x+1,(show r.pl.length-(x+1)<r.pl.length-x by omega),h,[.dead,_,.tok],5,rfl,rfl,by simp,?_⟩
  dsimp only
  rw[take_snoc 0 h,← List.append_assoc,wI_succ h (by omega),w_small (by omega) (by omega),List.map_append (f:=u1) (l₁:=b++r.pl.take x)]
  rfl
 ·rw[if_neg (by omega)]
  have:x=r.pl.length:=by omega
  subst this
  simp only[onQ,List.take_length]
  exact⟨rfl,rfl,hQ [.tok] 3 rfl (Nat.le_refl _),hQ [.dead,.tok] 4 rfl (by decide)⟩
def on5_l:LSp:=fun e H Q=>∃(l:List Ac) (w:List Mt) (m:Int) (c:Mt) (X:Heap) (T:PV) (i k many:Nat),c.Ok∧SlIs (List.map e [0,3,4,5,6,7,8,9,11,16]) [.list (l.map acC) .no,.ptr 1 0,.list [] .exact,.int .i64 i,T,.list ((w.map Mt.id).map u1) .no,.int .i64 k,.ptr 2 0,.int .i64 many,.int .i64 1]∧HpIs H ([.abs (rkM (rowsM w) m),.cells [.ptr 0 0],.cells (mtc c)]++X)∧∀ j:Nat,Q (.exit 8) (envS [0,3,4,5,6,7,8,9,11,16] [.list (l.map acC) .no,.ptr 1 0,.list [] .exact,.int .i64 i,T,.list ((w.map Mt.id).map u1) .no,.int .i64 k,.ptr 2 0,.int .i64 many,.int .i64 j]) ([.abs (rkM (rowsM w) m),.cells [.ptr 0 0],.cells (mtc c)]++X)
theorem on5_l_ok:∀ e H Q,on5_l e H Q→AW Try.prog gl Try.f4.ntmps (.loop (subOf [1,1,1,1,0,1,0,0,1,0,0,1,1,1,1,0,0,1,0,0,1,1,1,1,0,1,0] (bodyOf Try.f4))) Q e H:=by
 rintro e H Q ⟨l,w,m,c,X,T,i,k,many,ok,he,hH,hQ⟩
 have hH:H=_:=hH
 have hls:=ok.sm.seats
 refine aw_loop4 (hn:=fun _=>0) gl_low TRO_ok (.nil _ _ _ _ _) (σ:=Nat) [0,3,4,5,6,7,8,9,11,16] (fun j=>1≤j∧j≤c.seats.length+1) (fun j=>[.list (l.map acC) .no,.ptr 1 0,.list [] .exact,.int .i64 i,T,.list ((w.map Mt.id).map u1) .no,.int .i64 k,.ptr 2 0,.int .i64 many,.int .i64 j]) (fun _=>[.abs (rkM (rowsM w) m),.cells [.ptr 0 0],.cells (mtc c)]++X) (fun j=>c.seats.length+1-j) 1 (by omega) he hH ?_
 rintro j ⟨h0,h1⟩
 refine on5_vc l w m c X T i k many j _ ?_
 simp only[br_if,dt,toNat_nat,List.length_map]
 by_cases h:j<c.seats.length
 ·rw[if_pos (by omega)]
  have e1:wI ((j:Int)-1)=((j-1:Nat):Int):=by rw[w_small (by omega) (by omega)]; omega
  have inl:InL (c.seats.map stc) 6 (j:Int):=by rw[inL_map stc_len (by decide)]; exact h
  have inl2:InL (c.seats.map stc) 6 ((j-1:Nat):Int):=by rw[inL_map stc_len (by decide)]; omega
  have cn:∀ s:Se,cI (List.drop 2 (stc s)) 0=s.nu:=fun _=>rfl
  have lt:=nu_lt ok h0 h
  have hi:=(ok.lo _ (getD_mem (d:=default) h)).2
  rw[e1]
  refine⟨inl2,?_⟩
  simp only[toNat_nat,getD_map default h,getD_map default (show j-1<c.seats.length by omega),cn]
  rw[if_pos (by rfl)]
  refine⟨inl,?_⟩
  rw[if_pos (by rfl),if_pos (by rw[decide_eq_false (by omega)]; rfl)]
  refine⟨inl,?_⟩
  rw[if_pos (by rfl),if_neg (by omega)]
  exact⟨j+1,(show c.seats.length+1-(j+1)<c.seats.length+1-j by omega),(by omega),by rw[wI_succ h (by omega)],[],(List.append_nil _).symm,Nat.le_refl _,.inl rfl⟩
 ·rw[if_neg (by omega)]
  exact hQ j
end Go.Proofs.Ytenaelaapdhbdaa
