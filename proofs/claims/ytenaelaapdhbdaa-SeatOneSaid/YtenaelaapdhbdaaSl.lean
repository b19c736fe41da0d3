/-
  Match.
-/
import Derived.Test.YtenaelaapdhbdaaSk
import Derived.Test.YtenaelaapdhbdaaProg
namespace Go.Proofs.Ytenaelaapdhbdaa
open Go Go.AM Go.Proofs
def findM (c:Mt) (p:Int):Se:=if inM c p=true then c.seats.getD (c.seats.findIdx (isP p)) default else default
theorem low_seb {n:Nat} (s:Se) (b:Bool):Low n (.tup [.agg (stc s),.bool b]):= .tup _ (low_two (.agg _ (low_stc s)) (.bool _))
theorem ixS_lt (c:Mt) (p:Int):ixS c.seats p<0↔inM c p=false:=by
 have h:(ixS c.seats p≥0)↔inM c p=true:=by rw[inM,← ixS_any,decide_eq_true_eq]
 constructor
 ·intro k; exact Bool.eq_false_iff.2 fun e=>by have:=h.2 e; omega
 ·intro k; exact Int.not_le.1 fun e=>by rw[h.1 e] at k; cases k
theorem ixS_in {c:Mt} {p:Int} (h:inM c p=true):c.seats.findIdx (isP p)<c.seats.length∧ixS c.seats p=(c.seats.findIdx (isP p):Int):=by
 unfold inM at h
 have h1:=List.any_eq_true.1 h
 have:c.seats.findIdx (isP p)<c.seats.length:=List.findIdx_lt_length_of_exists h1
 exact⟨this,by unfold ixS; rw[if_pos this]⟩
def tse_s (args:List PV) (H:Heap) (K:PV→Prop):Prop:=∃(q r:Nat) (w:List Mt) (m p:Int),SlIs args [.ptr q 0,.int .u32 p]∧BkIs H q r (rkM (rowsM w) m)∧MO w m∧K (.tup [.agg (stc (findM (gM w (ofM w p)) p)),.bool (inM (gM w (ofM w p)) p)])
theorem tse_ok:SpOk Try.prog gl 19 (.read tse_s):=by
 rintro args H K ⟨q,r,w,m,p,he,hb,ro,hk⟩
 have he:args=_:=he
 subst he
 obtain⟨c,hc⟩:∃ c,c=gM w (ofM w p):=⟨_,rfl⟩
 rw[← hc] at hk
 have hsm:c.Sm:=by rw[hc]; exact ro.getsm _
 refine⟨_,book_read gl_low hb low0_int (low_seb _ _) (tse1_vc w m p _ ⟨0,1,w,m,p,rfl,⟨rfl,rfl⟩,ro,0,1,w,m,ofM w p,rfl,⟨rfl,rfl⟩,ro,c,_,_,p,by rw[← hc]; rfl,hsm.seats,.inl ⟨⟨_,rfl⟩,_,rfl⟩,?_⟩),hk⟩
 rw[← hc]
 simp only[br_if,dt]
 by_cases k:inM c p=true
 ·obtain⟨h1,h2⟩:=ixS_in k
  rw[if_neg (by rw[h2]; omega),h2]
  simp only[toNat_nat,inL_se,getD_map default h1]
  refine⟨h1,?_⟩
  rw[if_pos (by rfl)]
  have e:findM c p=c.seats.getD (c.seats.findIdx (isP p)) default:=by unfold findM; rw[if_pos k]
  rw[e,k]
  exact⟨rfl,_,rfl⟩
 ·have k2:inM c p=false:=by simpa using k
  rw[if_pos ((ixS_lt c p).2 k2)]
  unfold findM
  rw[k2]
  exact⟨rfl,_,rfl⟩
def tnew_s (args:List PV) (H:Heap) (K:PV→Heap→Prop):Prop:=∃ n:Int,SlIs args [.int .i64 n]∧K (.ptr (H.length+1) 0) (H++[.abs (rkM (rowsM []) (mxI 0 n)),.cells [.ptr H.length 0]])
theorem tnew_ok:SpOk Try.prog gl 7 (.heap tnew_s):=by
 rintro args H K ⟨n,he,hk⟩
 have he:args=_:=he
 subst he
 exact acalls_to (book_make2 gl_low low0_int (tnew1_vc n _ ⟨n,rfl,rfl,rfl⟩)) fun x H' e=>by obtain⟨rfl,rfl⟩:=e; exact hk
theorem tkn_vc (l:List Rr) (a b:Nat) (i:Nat):(by refine(?_:_→_→_→_→Prop) (List.getD (l.map rrc) (Int.toNat (i:Int)) []) (PV.list (l.map rrc) .no) (PV.int .i64 (wI ((i:Int)+1))) (PV.int .i64 l.length); exact fun c g h j=>by refine(?_:_→_→_→Prop) [Ob.cells [.int .i64 (cI c 0),.list (cL c 1) (cT c 1),.int .i64 (cI c 2),.int .i64 (cI c 3)]] [PV.int .i64 a,.int .i64 b,g,j,.int .i64 i] (↑(List.length (cL c 1)):Int); exact fun d f k=>∀(R:Ex→List PV→Heap→Prop),(br (decide ((i:Int)<(l.length:Int))) (InL (l.map rrc) 4 (i:Int)∧br (true && fitX [.int .i64,.list,.int .i64,.int .i64] 0 c) (br (cI c 0 == 1) (R .normal [.int .i64 (wI ((a:Int)+k)),.int .i64 b,g,j,h] d) (br (cI c 0 == 2) (R .normal [.int .i64 a,.int .i64 (wI ((b:Int)+k)),g,j,h] d) (R .normal [.int .i64 a,.int .i64 b,g,j,h] d))) False) (R (.exit 0) f []))→Holds (wpc br Try.prog gl [] [] (fun _=>0) (subOf [1,0,1,0] (bodyOf Try.f62)) [] (envS [2,3,6,7,8] f) [] (fun ex e H=>R ex (List.map e [2,3,6,7,8]) H)):Prop):=fun R h=>holds_of_eq (by kernel_rfl) h
theorem taken_take {l:List Rr} {t:Int} {k:Nat} (h:k<l.length):taken (l.take (k+1)) t=taken (l.take k) t+if(l.getD k default).tm=t then(l.getD k default).pl.length else 0:=by
 unfold taken; rw[take_snoc default h,List.filter_append,List.map_append,List.sum_append]
 congr 1
 by_cases c:(l.getD k default).tm=t
 ·rw[if_pos c,List.filter_cons_of_pos (by simpa using c)]; simp
 ·rw[if_neg c,List.filter_cons_of_neg (by simpa using c)]; simp
theorem taken_le (l:List Rr) (t:Int):taken l t≤tot l:=by
 induction l with
 | nil=>exact Nat.le_refl _
 | cons r l ih=>
  unfold taken tot at *
  by_cases c:r.tm=t
  ·rw[List.filter_cons_of_pos (by simpa using c)]; simp only[List.map_cons,List.sum_cons]; omega
  ·rw[List.filter_cons_of_neg (by simpa using c)]; simp only[List.map_cons,List.sum_cons]; omega
def tkn_l:LSp:=fun e H Q=>∃(l:List Rr),l.length≤1000000∧tot l≤1000000∧SlIs (List.map e [2,3,6,7,8]) [.int .i64 0,.int .i64 0,.list (l.map rrc) .no,.int .i64 l.length,.int .i64 0]∧HpIs H []∧Q (.exit 0) (envS [2,3,6,7,8] [.int .i64 (taken (l) 1),.int .i64 (taken (l) 2),.list (l.map rrc) .no,.int .i64 l.length,.int .i64 l.length]) []
theorem tkn_l_ok:∀ e H Q,tkn_l e H Q→AW Try.prog gl Try.f62.ntmps (.loop (subOf [1,0,1,0] (bodyOf Try.f62))) Q e H:=by
 rintro e H Q ⟨l,hl,ht,he,hH,hQ⟩
 refine aw_loop7 (hn:=fun _=>0) gl_low (.nil _ _) (.nil _ _ _ _ _) (σ:=Nat) [2,3,6,7,8] (fun i=>i≤l.length) (fun i=>[.int .i64 (taken (l.take i) 1),.int .i64 (taken (l.take i) 2),.list (l.map rrc) .no,.int .i64 l.length,.int .i64 i]) (fun _=>[]) (fun i=>l.length-i) 0 (Nat.zero_le _) (by rw[he]; rfl) hH ?_
 intro i hi
 have hi:i≤l.length:=hi
 have hH:H=[]:=hH
 subst hH
 have lidv:∀(a b:Nat) (i:Nat),∀ v∈([.int .i64 a,.int .i64 b,.list (l.map rrc) .no,.int .i64 l.length,.int .i64 i]:List PV),Lid ([]:Heap).length v:=by
  intro a b i v hv
  simp only[List.mem_cons,List.not_mem_nil,or_false] at hv
  rcases hv with rfl|rfl|rfl|rfl|rfl<;>first|exact .low (.int _ _)|exact .low (low_rrs _)
 have lid0:LidH ([]:Heap).length []:=fun o cs h=>by simp at h
 refine tkn_vc l (taken (l.take i) 1) (taken (l.take i) 2) i _ ?_
 have h1:=taken_le (l.take i) 1
 have h2:=taken_le (l.take i) 2
 have h3:=tot_le (l:=l) i
 simp only[br_if,dt,toNat_nat,inL_rrc]
 by_cases h:i<l.length
 ·rw[if_pos (by omega)]
  have e1:=taken_take (t:=1) h
  have e2:=taken_take (t:=2) h
  have h4:=tot_le (l:=l) (i+1)
  have h5:=taken_le (l.take (i+1)) 1
  have h6:=taken_le (l.take (i+1)) 2
  obtain⟨r,hr⟩:∃ r,r=l.getD i default:=⟨_,rfl⟩
  simp only[getD_map default h,← hr]
  rw[← hr] at e1 e2
  have c0:cI (rrc r) 0=r.tm:=rfl
  have c1:cL (rrc r) 1=r.pl.map u1:=rfl
  simp only[c0,c1,List.length_map,beq_iff_eq]
  refine⟨h,?_⟩
  rw[if_pos (by rfl)]
  have fin:∀ a b:Nat,a=taken (l.take (i+1)) 1→b=taken (l.take (i+1)) 2→∃ s':Nat,l.length-s'<l.length-i∧s'≤l.length∧Tidy ([]:Heap).length [.int .i64 a,.int .i64 b,.list (l.map rrc) .no,.int .i64 l.length,.int .i64 (wI ((i:Int)+1))] [.cells (rrc r)] [.int .i64 (taken (l.take s') 1),.int .i64 (taken (l.take s') 2),.list (l.map rrc) .no,.int .i64 l.length,.int .i64 s'] []:=by
   rintro a b rfl rfl
   refine⟨i+1,by omega,h,?_⟩
   rw[wI_succ h (by omega)]
   exact tidy_tail (X:=[]) (G:=[_]) lid0 (lidv _ _ _) (Nat.le_refl _)
  by_cases k1:r.tm=1
  ·rw[if_pos k1]
   rw[if_pos k1] at e1
   rw[if_neg (by omega)] at e2
   have e3:wI ((taken (l.take i) 1:Int)+(r.pl.length:Int))=((taken (l.take i) 1+r.pl.length:Nat):Int):=by rw[w_small (by omega) (by omega)]; omega
   rw[e3]
   exact fin _ _ e1.symm e2.symm
  ·rw[if_neg k1]
   rw[if_neg k1] at e1
   by_cases k2:r.tm=2
   ·rw[if_pos k2]
    rw[if_pos k2] at e2
    have e3:wI ((taken (l.take i) 2:Int)+(r.pl.length:Int))=((taken (l.take i) 2+r.pl.length:Nat):Int):=by rw[w_small (by omega) (by omega)]; omega
    rw[e3]
    exact fin _ _ e1.symm e2.symm
   ·rw[if_neg k2]
    rw[if_neg k2] at e2
    exact fin _ _ e1.symm e2.symm
 ·rw[if_neg (by omega)]
  have:i=l.length:=by omega
  subst this
  rw[List.take_length]
  exact⟨_,_,tidy_tail (X:=[]) (G:=[]) lid0 (lidv _ _ _) (Nat.le_refl _),hQ⟩
theorem tk1_vc (l:List Rr):∀(K:PV→Prop),(∃(l_1:List Rr),l_1.length≤1000000∧tot l_1≤1000000∧SlIs [.int .i64 0,.int .i64 0,.list (l.map rrc) .no,.int .i64 (↑(List.length (l.map rrc)):Int),.int .i64 0] [.int .i64 0,.int .i64 0,.list (l_1.map rrc) .no,.int .i64 l_1.length,.int .i64 0]∧HpIs [] []∧K (.tup [.int .i64 (↑(taken l_1 1):Int),.int .i64 (↑(taken l_1 2):Int)]))→ACalls Try.prog gl 62 [.list (l.map rrc) .no] [] (fun x _=>K x):=fun K h=>acalls_of_wpc2 (T:=[]) (L:=[([1,0,1,0],tkn_l)]) (fun _=>0) Try.func62 (by kernel_rfl) (by kernel_rfl) (by kernel_rfl) (TabOk.nil _ _) (.cons (sub_of (by kernel_rfl)) tkn_l_ok (.nil _ _ _ _ _)) (holds_of_eq (by kernel_rfl) h)
def taken_s (args:List PV) (K:PV→Prop):Prop:=∃(l:List Rr) (tl:Tail),SlIs args [.list (l.map rrc) tl]∧l.length≤1000000∧tot l≤1000000∧K (.tup [.int .i64 (taken l 1),.int .i64 (taken l 2)])
theorem taken_ok:SpOk Try.prog gl 62 (.pure taken_s):=by
 rintro args K ⟨l,tl,he,h1,h2,hk⟩
 have he:args=_:=he
 subst he
 exact spure_w gl_low (.cons (.list _ _) .nil) (low_one (low_rrs l)) (.tup _ (low_two (.int _ _) (.int _ _))) (tk1_vc l (fun x=>x = .tup [.int .i64 (taken l 1),.int .i64 (taken l 2)]) ⟨l,h1,h2,(by show _=_; rw[List.length_map]),rfl,rfl⟩) hk
theorem gro1_vc (H:Heap) (n:Int)  (K:PV→Heap→Prop) (h:br (decide (n<0)) False (br (decide (wI (n-0)>0)) ((iI 0≤0∧iI 0≤0∧iI 0≤0∧iI 0≤0∧uni 4 [])∧0<wI (n-0)∧Int.toNat (wI (n-0))*48≤140737488355328∧∀(c:Nat),Int.toNat (wI (n-0))≤c→(iI 0≤0∧iI 0≤0∧0≤(c:Int)∧(c:Int)≤(c:Int))∧K (.arr (List.length H) (if Int.toNat (c:Int)=0 then 0 else 0) 0 (Int.toNat (c:Int)-0)) (H++[.cells (List.flatten (List.replicate c [.int .i64 0,.list [] .exact,.int .i64 0,.int .i64 0]))])) (K (.list [] .exact) H))):ACalls Try.prog gl 76 [.list [] .exact,.int .i64 n] H K:=
 acalls_of_wpc2 (T:=[]) (L:=[]) (fun o=>match o.dst with|some 22=>8|_=>0) Try.func76 (by kernel_rfl) (by kernel_rfl) (by kernel_rfl) (TabOk.nil _ _) (LOk.nil _ _ _ _ _) (holds_of_eq (by kernel_rfl) h)
def gro_s (args:List PV) (H:Heap) (K:PV→Heap→Prop):Prop:=∃ n:Nat,SlIs args [.list [] .exact,.int .i64 n]∧n≤1000000∧(n=0→K (.list [] .exact) H)∧(0<n→∀(c:Nat) (J:List PV),n≤c→Room J (c*4)→K (.arr H.length 0 0 c) (H++[.cells J]))
theorem gro_ok:SpOk Try.prog gl 76 (.heap gro_s):=by
 rintro args H K ⟨n,he,hn,h0,h1⟩
 have he:args=_:=he
 subst he
 refine gro1_vc H n K ?_
 have e:wI ((n:Int)-0)=n:=by rw[w_small (by omega) (by omega)]; omega
 simp only[br_if,dt,e,toNat_nat]
 rw[if_neg (by omega)]
 by_cases c:n=0
 ·rw[if_neg (by omega)]; exact h0 c
 ·rw[if_pos (by omega)]
  refine⟨⟨by decide,by decide,by decide,by decide,fun _ h=>nomatch h⟩,by omega,by omega,fun k hk=>⟨⟨by decide,by decide,by omega,by omega⟩,?_⟩⟩
  rw[ite_self]
  exact h1 (by omega) k _ hk (room_rr k)
def lcs (l:List Rr):List PV:=[.list (l.map rrc) .no]
theorem lcs_len (l:List Rr):(lcs l).length=1:=rfl
theorem low_lcs {n:Nat} (l:List Rr):∀ y∈lcs l,Low n y:=low_one (low_rrs l)
theorem inL_lcs (l:List (List Rr)) (i:Nat):InL (l.map lcs) 1 (i:Int)=(i<l.length):=inL_map lcs_len (by decide) l i
def sumL (ls:List (List Rr)):Nat:=ls.flatten.length
theorem sumL_take {ls:List (List Rr)} {k:Nat} (h:k<ls.length):sumL (ls.take (k+1))=sumL (ls.take k)+(ls.getD k []).length:=by
 unfold sumL; rw[take_snoc [] h,List.flatten_append]; simp
theorem sumL_le (ls:List (List Rr)) (k:Nat):sumL (ls.take k)≤sumL ls:=by
 unfold sumL
 conv=>rhs; rw[← List.take_append_drop k ls,List.flatten_append]
 rw[List.length_append]; omega
def TCG:Tab:=[(76,.heap gro_s)]
theorem TCG_ok:TabOk Try.prog gl TCG:= .cons gro_ok (.nil _ _)
theorem ca1_vc (ls:List (List Rr)) (n i:Nat):(by refine(?_:_→_→_→Prop) (PV.list (ls.map lcs) .no) (List.getD (ls.map lcs) (Int.toNat (i:Int)) []) (PV.int .i64 ls.length); exact fun a b f=>by refine(?_:_→_→Prop) [a,.int .i64 n,a,f,.int .i64 i] ((n:Int)+(↑(List.length (cL b 0)):Int)); exact fun c d=>∀(R:Ex→List PV→Heap→Prop),(br (decide ((i:Int)<(ls.length:Int))) (InL (ls.map lcs) 1 (i:Int)∧br (true && fitX [.list] 0 b) (br (decide (wI d<0)) False (R .normal [a,.int .i64 (wI d),a,f,.int .i64 (wI ((i:Int)+1))] [])) False) (R (.exit 0) c []))→Holds (wpc br Try.prog gl [] [] (fun _=>0) (subOf [1,1,0,1,0] (bodyOf Try.f63)) [] (envS [0,3,9,10,11] c) [] (fun ex e H=>R ex (List.map e [0,3,9,10,11]) H)):Prop):=fun R h=>holds_of_eq (by kernel_rfl) h
theorem ca2A_vc (ls:List (List Rr)) (i:Nat):(by refine(?_:_→_→_→_→Prop) (List.getD (ls.map lcs) (Int.toNat (i:Int)) []) (PV.list (ls.map lcs) .no) (PV.int .i64 ls.length) (PV.int .i64 (wI ((i:Int)+1))); exact fun a c d f=>by refine(?_:_→Prop) [PV.list [] .exact,c,d,.int .i64 i]; exact fun b=>∀(R:Ex→List PV→Heap→Prop),(br (decide ((i:Int)<(ls.length:Int))) (InL (ls.map lcs) 1 (i:Int)∧br (true && fitX [.list] 0 a) (AppL [] (cL a 0) 4 48∧List.all (List.flatten (cL a 0)) PV.one=true∧(cL a 0=[]→R .normal [.list [] .exact,c,d,f] [])∧(cL a 0≠[]→R .normal [.list ([]++cL a 0) (.tok 0),c,d,f] [.tok])) False) (R (.exit 2) b []))→Holds (wpc br Try.prog gl [] [] (fun o=>match o.dst with|some 33=>4|_=>0) (subOf [1,1,1,1,0,1,0] (bodyOf Try.f63)) [] (envS [6,25,26,27] b) [] (fun ex e H=>R ex (List.map e [6,25,26,27]) H)):Prop):=fun R h=>holds_of_eq (by kernel_rfl) h
theorem ca2B_vc (ls:List (List Rr)) (acc:List Rr) (J:List PV) (cap i:Nat):(by refine(?_:_→_→_→_→Prop) (List.getD (ls.map lcs) (Int.toNat (i:Int)) []) [Ob.cells (flR acc++J)] (PV.list (ls.map lcs) .no) (PV.int .i64 ls.length); exact fun a f g h=>by refine(?_:_→_→_→Prop) [PV.arr 0 0 acc.length cap,g,h,.int .i64 i] (List.flatten (cL a 0)) (acc.length+List.length (cL a 0)); exact fun b c d=>∀(R:Ex→List PV→Heap→Prop),(br (decide ((i:Int)<(ls.length:Int))) (InL (ls.map lcs) 1 (i:Int)∧br (true && fitX [.list] 0 a) ((acc.length≤cap∧0+cap*4≤List.length (flR acc++J)∧List.length c=List.length (cL a 0)*4∧List.all c PV.one=true∧d*48≤140737488355328)∧acc.length+List.length (cL a 0)≤cap∧R .normal [.arr 0 0 d cap,g,h,.int .i64 (wI ((i:Int)+1))] [.cells (over (flR acc++J) (0+acc.length*4) c)]) False) (R (.exit 2) b f))→Holds (wpc br Try.prog gl [] [] (fun o=>match o.dst with|some 33=>3|_=>0) (subOf [1,1,1,1,0,1,0] (bodyOf Try.f63)) [] (envS [6,25,26,27] b) f (fun ex e H=>R ex (List.map e [6,25,26,27]) H)):Prop):=fun R h=>holds_of_eq (by kernel_rfl) h
theorem flR_app (l k:List Rr):flR (l++k)=flR l++flR k:=by unfold flR; rw[List.map_append,List.flatten_append]
theorem flR_one {l:List Rr}:∀ y∈flR l,y.one=true:=by
 intro y hy
 obtain⟨c,h2,h3⟩:=List.mem_flatten.1 hy
 obtain⟨a,_,rfl⟩:=List.mem_map.1 h2
 exact one_rrc a y h3
theorem over_rows {acc l:List Rr} {J:List PV}:over (flR acc++J) (acc.length*4) (flR l)=flR (acc++l)++J.drop (l.length*4):=by
 unfold over
 rw[List.take_left' (flR_len acc),flR_app,List.append_assoc,List.append_assoc]
 congr 2
 rw[List.drop_append,flR_len,flR_len,List.drop_of_length_le (by rw[flR_len]; omega),List.nil_append,show acc.length*4+l.length*4-acc.length*4=l.length*4 by omega]
def ca1_l:LSp:=fun e H Q=>∃(ls:List (List Rr)),ls.length≤1000000∧sumL ls≤1000000∧SlIs (List.map e [0,3,9,10,11]) [.list (ls.map lcs) .no,.int .i64 0,.list (ls.map lcs) .no,.int .i64 ls.length,.int .i64 0]∧HpIs H []∧Q (.exit 0) (envS [0,3,9,10,11] [.list (ls.map lcs) .no,.int .i64 (sumL ls),.list (ls.map lcs) .no,.int .i64 ls.length,.int .i64 ls.length]) []
theorem ca1_l_ok:∀ e H Q,ca1_l e H Q→AW Try.prog gl Try.f63.ntmps (.loop (subOf [1,1,0,1,0] (bodyOf Try.f63))) Q e H:=by
 rintro e H Q ⟨ls,hl,hs,he,hH,hQ⟩
 refine aw_loop4 (hn:=fun _=>0) gl_low (.nil _ _) (.nil _ _ _ _ _) (σ:=Nat) [0,3,9,10,11] (fun i=>i≤ls.length) (fun i=>[.list (ls.map lcs) .no,.int .i64 (sumL (ls.take i)),.list (ls.map lcs) .no,.int .i64 ls.length,.int .i64 i]) (fun _=>[]) (fun i=>ls.length-i) 0 (Nat.zero_le _) (by rw[he]; rfl) hH ?_
 intro i hi
 have hi:i≤ls.length:=hi
 refine ca1_vc ls (sumL (ls.take i)) i _ ?_
 have h3:=sumL_le ls i
 simp only[br_if,dt,toNat_nat,inL_lcs]
 by_cases h:i<ls.length
 ·rw[if_pos (by omega)]
  have h4:=sumL_le ls (i+1)
  have e1:=sumL_take h
  simp only[getD_map [] h]
  refine⟨h,?_⟩
  rw[if_pos (by rfl)]
  have c0:cL (lcs (ls.getD i [])) 0=(ls.getD i []).map rrc:=rfl
  have e2:wI ((sumL (ls.take i):Int)+(((ls.getD i []).map rrc).length:Int))=(sumL (ls.take (i+1)):Int):=by rw[List.length_map,w_small (by omega) (by omega)]; omega
  rw[c0,e2,if_neg (by omega)]
  exact⟨i+1,(show ls.length-(i+1)<ls.length-i by omega),h,by rw[wI_succ h (by omega)],[],rfl,Nat.le_refl _,.inl rfl⟩
 ·rw[if_neg (by omega)]
  have:i=ls.length:=by omega
  subst this
  rw[List.take_length]
  exact hQ
def ca2_l:LSp:=fun e H Q=>∃(ls:List (List Rr)),ls.length≤1000000∧sumL ls≤1000000∧
 ((sumL ls=0∧SlIs (List.map e [6,25,26,27]) [.list [] .exact,.list (ls.map lcs) .no,.int .i64 ls.length,.int .i64 0]∧HpIs H []∧Q (.exit 2) (envS [6,25,26,27] [.list [] .exact,.list (ls.map lcs) .no,.int .i64 ls.length,.int .i64 ls.length]) [])∨
  (∃(cap:Nat) (J:List PV),sumL ls≤cap∧Room J (cap*4)∧SlIs (List.map e [6,25,26,27]) [.arr 0 0 0 cap,.list (ls.map lcs) .no,.int .i64 ls.length,.int .i64 0]∧HpIs H [.cells J]∧∀ J',Room J' ((cap-ls.flatten.length)*4)→Q (.exit 2) (envS [6,25,26,27] [.arr 0 0 ls.flatten.length cap,.list (ls.map lcs) .no,.int .i64 ls.length,.int .i64 ls.length]) [.cells (flR ls.flatten++J')]))
theorem ca2_l_ok:∀ e H Q,ca2_l e H Q→AW Try.prog gl Try.f63.ntmps (.loop (subOf [1,1,1,1,0,1,0] (bodyOf Try.f63))) Q e H:=by
 rintro e H Q ⟨ls,hl,hs,(⟨h0,he,hH,hQ⟩|⟨cap,J,hc,hJ,he,hH,hQ⟩)⟩
 ·refine aw_loop4 (hn:=fun o=>match o.dst with|some 33=>4|_=>0) gl_low (.nil _ _) (.nil _ _ _ _ _) (σ:=Nat) [6,25,26,27] (fun i=>i≤ls.length) (fun i=>[.list [] .exact,.list (ls.map lcs) .no,.int .i64 ls.length,.int .i64 i]) (fun _=>[]) (fun i=>ls.length-i) 0 (Nat.zero_le _) (by rw[he]; rfl) hH ?_
  intro i hi
  have hi:i≤ls.length:=hi
  refine ca2A_vc ls i _ ?_
  simp only[br_if,dt,toNat_nat,inL_lcs]
  by_cases h:i<ls.length
  ·rw[if_pos (by omega)]
   have h4:=sumL_le ls (i+1)
   have e1:=sumL_take h
   simp only[getD_map [] h]
   refine⟨h,?_⟩
   rw[if_pos (by rfl)]
   have c0:cL (lcs (ls.getD i [])) 0=(ls.getD i []).map rrc:=rfl
   have c1:ls.getD i []=[]:=List.length_eq_zero_iff.1 (by omega)
   rw[c0,c1]
   exact⟨⟨(fun _ h=>nomatch h),(fun _ h=>nomatch h),by decide⟩,rfl,fun _=>⟨i+1,(show ls.length-(i+1)<ls.length-i by omega),h,by rw[wI_succ h (by omega)],[],rfl,Nat.le_refl _,.inl rfl⟩,fun h=>absurd rfl h⟩
  ·rw[if_neg (by omega)]
   have:i=ls.length:=by omega
   subst this
   exact hQ
 ·refine aw_loop4 (hn:=fun o=>match o.dst with|some 33=>3|_=>0) gl_low (.nil _ _) (.nil _ _ _ _ _) (σ:=Nat) [6,25,26,27] (fun i=>i≤ls.length) (fun i=>[.arr 0 0 (ls.take i).flatten.length cap,.list (ls.map lcs) .no,.int .i64 ls.length,.int .i64 i]) (fun i=>[.cells (flR (ls.take i).flatten++J.drop ((ls.take i).flatten.length*4))]) (fun i=>ls.length-i) 0 (Nat.zero_le _) (by rw[he]; rfl) (by rw[show H=_ from hH]; simp[flR]) ?_
  intro i hi
  have hi:i≤ls.length:=hi
  refine ca2B_vc ls (ls.take i).flatten (J.drop ((ls.take i).flatten.length*4)) cap i _ ?_
  simp only[br_if,dt,toNat_nat,inL_lcs]
  have h3:=sumL_le ls i
  have hJl:=hJ.len
  have h5:(ls.take i).flatten.length≤cap:=Nat.le_trans h3 hc
  by_cases h:i<ls.length
  ·rw[if_pos (by omega)]
   have h4:=sumL_le ls (i+1)
   have e1:=sumL_take h
   simp only[getD_map [] h]
   refine⟨h,?_⟩
   rw[if_pos (by rfl)]
   have c0:cL (lcs (ls.getD i [])) 0=(ls.getD i []).map rrc:=rfl
   obtain⟨l,hld⟩:∃ l,l=ls.getD i []:=⟨_,rfl⟩
   have e4:(ls.take (i+1)).flatten=(ls.take i).flatten++l:=by rw[take_snoc [] h,List.flatten_append,hld]; simp
   have e5:(ls.take (i+1)).flatten.length=(ls.take i).flatten.length+l.length:=by rw[e4,List.length_append]
   have e6:(ls.take (i+1)).flatten.length≤cap:=Nat.le_trans h4 hc
   have e7:sumL (ls.take (i+1))=(ls.take (i+1)).flatten.length:=rfl
   have e8:(J.drop ((ls.take i).flatten.length*4)).length=(cap-(ls.take i).flatten.length)*4:=by rw[List.length_drop,hJl]; omega
   have e9:(List.map rrc l).flatten.length=l.length*4:=flR_len l
   rw[c0,← hld]
   simp only[List.length_map,e9]
   refine⟨⟨h5,?_,trivial,List.all_eq_true.2 flR_one,by omega⟩,by omega,i+1,(show ls.length-(i+1)<ls.length-i by omega),h,by(try dsimp only); rw[wI_succ h (by omega),e5],[],?_,Nat.le_refl _,.inl rfl⟩
   ·rw[List.length_append,flR_len,e8]; omega
   ·(try dsimp only)
    rw[Nat.zero_add,over_rows,e4,List.drop_drop,List.append_nil,List.length_append,Nat.add_mul]
  ·rw[if_neg (by omega)]
   have:i=ls.length:=by omega
   subst this
   rw[List.take_length]
   exact hQ _ (hJ.drop.cast (by omega))
theorem cat1_vc (ls:List (List Rr)):∀(K:PV→Heap→Prop),(∃(ls_1:List (List Rr)),by refine(?_:_→_→Prop) (PV.list (ls_1.map lcs) .no) (PV.int .i64 (↑(List.length (ls_1.map lcs)):Int)); exact fun d e=>by refine(?_:_→Prop) [PV.list [] .exact,d,e,.int .i64 0]; exact fun b=>ls_1.length≤1000000∧sumL ls_1≤1000000∧SlIs [.list (ls.map lcs) .no,.int .i64 0,.list (ls.map lcs) .no,.int .i64 (↑(List.length (ls.map lcs)):Int),.int .i64 0] [d,.int .i64 0,d,.int .i64 ls_1.length,.int .i64 0]∧HpIs [] []∧∃(n:Nat),SlIs [.list [] .exact,.int .i64 (↑(sumL ls_1):Int)] [.list [] .exact,.int .i64 n]∧n≤1000000∧(n=0→∃(ls:List (List Rr)),ls.length≤1000000∧sumL ls≤1000000∧(sumL ls=0∧SlIs b [.list [] .exact,.list (ls.map lcs) .no,.int .i64 ls.length,.int .i64 0]∧HpIs [] []∧K (.list [] .exact) []∨∃(cap:Nat) (J:List PV),sumL ls≤cap∧Room J (cap*4)∧SlIs b [.arr 0 0 0 cap,.list (ls.map lcs) .no,.int .i64 ls.length,.int .i64 0]∧HpIs [] [.cells J]∧∀(J':List PV),Room J' ((cap-ls.flatten.length)*4)→K (.arr 0 0 ls.flatten.length cap) [.cells (flR ls.flatten++J')]))∧(0<n→∀(c:Nat),by refine(?_:_→Prop) [PV.arr 0 0 0 c,d,e,.int .i64 0]; exact fun a=>∀(J:List PV),n≤c→Room J (c*4)→∃(ls:List (List Rr)),ls.length≤1000000∧sumL ls≤1000000∧(sumL ls=0∧SlIs a [.list [] .exact,.list (ls.map lcs) .no,.int .i64 ls.length,.int .i64 0]∧HpIs [.cells J] []∧K (.list [] .exact) []∨∃(cap:Nat) (J_1:List PV),sumL ls≤cap∧Room J_1 (cap*4)∧SlIs a [.arr 0 0 0 cap,.list (ls.map lcs) .no,.int .i64 ls.length,.int .i64 0]∧HpIs [.cells J] [.cells J_1]∧∀(J':List PV),Room J' ((cap-ls.flatten.length)*4)→K (.arr 0 0 ls.flatten.length cap) [.cells (flR ls.flatten++J')])))→ACalls Try.prog gl 63 [.list (ls.map lcs) .no] [] K:=fun K h=>acalls_of_wpc2 (T:=TCG) (L:=[([1,1,0,1,0],ca1_l),([1,1,1,1,0,1,0],ca2_l)]) (fun _=>0) Try.func63 (by kernel_rfl) (by kernel_rfl) (by kernel_rfl) (TCG_ok) (.cons (sub_of (by kernel_rfl)) ca1_l_ok (.cons (sub_of (by kernel_rfl)) ca2_l_ok (.nil _ _ _ _ _))) (holds_of_eq (by kernel_rfl) h)
theorem cat_L (ls:List (List Rr)) (hl:ls.length≤1000000) (hs:sumL ls≤1000000):ACalls Try.prog gl 63 [.list (ls.map lcs) .no] [] (fun x _=>x = .list (ls.flatten.map rrc) .no):=by
 have e0:(List.map lcs ls).length=ls.length:=List.length_map _
 by_cases c:sumL ls=0
 ·refine acalls_weak (cat1_vc ls _ ⟨ls,hl,hs,(by show _=_; rw[e0]),rfl,sumL ls,rfl,hs,fun _=>⟨ls,hl,hs,.inl ⟨c,(by show _=_; rw[e0]),rfl,?_⟩⟩,fun h=>absurd c (by omega)⟩)
  have e:ls.flatten=[]:=List.length_eq_zero_iff.1 c
  rw[e]
  exact⟨_,.list _ _,rfl⟩
 ·refine acalls_freezeH (cat1_vc ls _ ⟨ls,hl,hs,(by show _=_; rw[e0]),rfl,sumL ls,rfl,hs,fun h=>absurd h c,fun h cap J hc hJ=>⟨ls,hl,hs,.inr ⟨cap,J,hc,hJ,(by show _=_; rw[e0]),rfl,fun J' hJ'=>?_⟩⟩⟩)
  refine⟨0,0,4,[],J',ls.flatten.map rrc,.list (ls.flatten.map rrc) .no,[.dead],rfl,rfl,uni_map rrc_len _,⟨rfl,fun i b hb=> .inl ?_⟩,?_,rfl⟩
  ·have k1:=(List.getElem?_eq_some_iff.1 hb).1
   simp at k1
   subst k1
   cases hb; rfl
  ·have:=Fz.arr (o:=0) (off:=0) (es:=ls.flatten.map rrc) cap (by rw[List.length_map]; exact hc)
   rw[List.length_map] at this
   exact this
def cat_s (args:List PV) (K:PV→Prop):Prop:=∃(a b:List Rr),SlIs args [.list [[.list (a.map rrc) .no],[.list (b.map rrc) .no]] .exact]∧a.length+b.length≤1000000∧K (.list ((a++b).map rrc) .no)
theorem cat_ok:SpOk Try.prog gl 63 (.pure cat_s):=by
 rintro args K ⟨a,b,he,h,hk⟩
 have he:args=_:=he
 subst he
 have hf:[a,b].flatten=a++b:=by simp
 have hl:=cat_L [a,b] (by simp) (by unfold sumL; rw[hf,List.length_append]; exact h)
 rw[hf] at hl
 exact spure_w gl_low (.cons (.list _ _) .nil) (low_one (low_rows low_lcs [a,b])) (low_rrs _) hl hk
end Go.Proofs.Ytenaelaapdhbdaa
