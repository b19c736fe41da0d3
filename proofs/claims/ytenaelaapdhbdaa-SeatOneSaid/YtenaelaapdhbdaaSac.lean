/-
  What an act answers.
-/
import Derived.Test.YtenaelaapdhbdaaSab
import Derived.Test.YtenaelaapdhbdaaProg
namespace Go.Proofs.Ytenaelaapdhbdaa
open Go Go.AM Go.Proofs
structure Ac where
 dO:Int
 id:Int
 p:Int
 st:Int
 md:Int
 rows:List Rr
instance:Inhabited Ac:=⟨⟨0,0,0,0,0,[]⟩⟩
def acC (a:Ac):List PV:=[.int .u8 a.dO,.int .u32 a.id,.int .u32 a.p,.int .i64 a.st,.int .i64 a.md,.list (a.rows.map rrc) .no]
theorem acC_len (a:Ac):(acC a).length=6:=rfl
theorem low_acC {n:Nat} (a:Ac):∀ y∈acC a,Low n y:=by
 intro y hy
 simp only[acC,List.mem_cons,List.not_mem_nil,or_false] at hy
 rcases hy with rfl|rfl|rfl|rfl|rfl|rfl
 ·exact .int _ _
 ·exact .int _ _
 ·exact .int _ _
 ·exact .int _ _
 ·exact .int _ _
 ·exact low_rrs _
theorem low_acs {n:Nat} (l:List Ac):Low n (.list (l.map acC) .no):=low_rows low_acC l
theorem inL_ac (l:List Ac) (i:Nat):InL (l.map acC) 6 (i:Int)=(i<l.length):=inL_map acC_len (by decide) l i
def greatR (r:Rr):Bool:=decide (r.pl.length>10)
def greatA (a:Ac):Bool:=decide (a.rows.length>10) || a.rows.any greatR
def greatB (l:List Ac):Bool:=decide (l.length>50) || l.any greatA
theorem gri_vc (l:List Ac) (i k:Nat):(by refine(?_:_→_→_→Prop) (List.drop 5 (List.getD (l.map acC) (Int.toNat (i:Int)) [])) [PV.list (l.map acC) .no,.bool false,.int .i64 i,.int .i64 k] (PV.list (l.map acC) .no); exact fun a b f=>by refine(?_:_→_→Prop) (List.drop 1 (List.getD (cL a 0) (Int.toNat (k:Int)) [])) (true && fitX [.list] 0 a); exact fun c d=>∀(R:Ex→List PV→Heap→Prop),(InL (l.map acC) 6 (i:Int)∧br d (br (decide ((k:Int)<(↑(List.length (cL a 0)):Int))) (InL (l.map acC) 6 (i:Int)∧br d (InL (cL a 0) 4 (k:Int)∧br (true && fitX [.list] 0 c) (br (decide ((↑(List.length (cL c 0)):Int)>10)) (R .ret [f,.bool true,.int .i64 i,.int .i64 k] []) (R .normal [f,.bool false,.int .i64 i,.int .i64 (wI ((k:Int)+1))] [])) False) False) (R (.exit 2) b [])) False)→Holds (wpc br Try.prog gl [] [] (fun _=>0) (subOf [1,1,0,1,0,0,1,0,0,1,1,0] (bodyOf Try.f6)) [] (envS [0,2,3,4] b) [] (fun ex e H=>R ex (List.map e [0,2,3,4]) H)):Prop):=fun R h=>holds_of_eq (by kernel_rfl) h
theorem any_tk {α:Type} {p:α→Bool} {l:List α} {i:Nat} (d:α) (h:i<l.length):(l.take (i+1)).any p=((l.take i).any p || p (l.getD i d)):=by
 rw[take_snoc d h,List.any_append]; simp
theorem any_of {α:Type} {p:α→Bool} {l:List α} {i:Nat} (d:α) (h:i<l.length) (hp:p (l.getD i d)=true):l.any p=true:=by
 refine List.any_eq_true.2 ⟨l.getD i d,?_,hp⟩
 rw[List.getD_eq_getElem?_getD,List.getElem?_eq_getElem h]; exact List.getElem_mem h
def gri_l:LSp:=fun e H Q=>∃(l:List Ac) (i:Nat),i<l.length∧(l.getD i default).rows.length≤1000000∧SlIs (List.map e [0,2,3,4]) [.list (l.map acC) .no,.bool false,.int .i64 i,.int .i64 0]∧HpIs H []∧
 ((l.getD i default).rows.any greatR=false→∀ k:Int,Q (.exit 2) (envS [0,2,3,4] [.list (l.map acC) .no,.bool false,.int .i64 i,.int .i64 k]) [])∧((l.getD i default).rows.any greatR=true→∀ k:Int,Q .ret (envS [0,2,3,4] [.list (l.map acC) .no,.bool true,.int .i64 i,.int .i64 k]) [])
theorem gri_l_ok:∀ e H Q,gri_l e H Q→AW Try.prog gl Try.f6.ntmps (.loop (subOf [1,1,0,1,0,0,1,0,0,1,1,0] (bodyOf Try.f6))) Q e H:=by
 rintro e H Q ⟨l,i,hi,hl,he,hH,h0,h1⟩
 obtain⟨a,ha⟩:∃ a,a=l.getD i default:=⟨_,rfl⟩
 rw[← ha] at hl h0 h1
 have inl:InL (l.map acC) 6 (i:Int):=by rw[inL_ac]; exact hi
 have c5:cL (List.drop 5 (acC a)) 0=a.rows.map rrc:=rfl
 refine aw_loop4 (hn:=fun _=>0) gl_low (.nil _ _) (.nil _ _ _ _ _) (σ:=Nat) [0,2,3,4] (fun k=>k≤a.rows.length∧(a.rows.take k).any greatR=false) (fun k=>[.list (l.map acC) .no,.bool false,.int .i64 i,.int .i64 k]) (fun _=>[]) (fun k=>a.rows.length-k) 0 ⟨Nat.zero_le _,rfl⟩ he hH ?_
 rintro k ⟨hk,hn⟩
 have hk:k≤a.rows.length:=hk
 have hn:(a.rows.take k).any greatR=false:=hn
 refine gri_vc l i k _ ?_
 simp only[br_if,dt,toNat_nat,getD_map default hi,← ha,c5,List.length_map]
 refine⟨inl,?_⟩
 rw[if_pos (by rfl)]
 by_cases h:k<a.rows.length
 ·rw[if_pos (by omega)]
  refine⟨inl,?_⟩
  rw[if_pos (by rfl)]
  obtain⟨r,hr⟩:∃ r,r=a.rows.getD k default:=⟨_,rfl⟩
  have c1:cL (List.drop 1 (rrc r)) 0=r.pl.map u1:=rfl
  simp only[getD_map default h,← hr,c1,List.length_map]
  refine⟨by rw[inL_rrc]; exact h,?_⟩
  rw[if_pos (by rfl)]
  by_cases c:r.pl.length>10
  ·rw[if_pos (by omega)]
   exact h1 (any_of default h (by rw[← hr]; unfold greatR; exact decide_eq_true c)) k
  ·rw[if_neg (by omega)]
   refine⟨k+1,(show a.rows.length-(k+1)<a.rows.length-k by omega),⟨h,?_⟩,by rw[wI_succ h (by omega)],[],rfl,Nat.le_refl _,.inl rfl⟩
   rw[any_tk default h,hn,← hr]; unfold greatR; rw[decide_eq_false c]; rfl
 ·rw[if_neg (by omega)]
  have hkl:k=a.rows.length:=by omega
  rw[hkl,List.take_length] at hn
  exact h0 hn k
theorem gri_sub:subOf [1,0,0,1,1,0] (subOf [1,1,0,1,0] (bodyOf Try.f6))=subOf [1,1,0,1,0,0,1,0,0,1,1,0] (bodyOf Try.f6):=by kernel_rfl
theorem gri_l_ok2:∀ e H Q,gri_l e H Q→AW Try.prog gl Try.f6.ntmps (.loop (subOf [1,0,0,1,1,0] (subOf [1,1,0,1,0] (bodyOf Try.f6)))) Q e H:=by rw[gri_sub]; exact gri_l_ok
theorem gro_vc (l:List Ac) (i:Nat):(by refine(?_:_→_→Prop) (List.drop 5 (List.getD (l.map acC) (Int.toNat (i:Int)) [])) (PV.list (l.map acC) .no); exact fun c d=>by refine(?_:_→Prop) [d,.bool false,.int .i64 i]; exact fun f=>∀(R:Ex→List PV→Heap→Prop),(br (decide ((i:Int)<(↑(List.length (l.map acC)):Int))) (InL (l.map acC) 6 (i:Int)∧br (true && fitX [.list] 0 c) (br (decide ((↑(List.length (cL c 0)):Int)>10)) (R .ret [d,.bool true,.int .i64 i] []) (∃(l_1:List Ac) (i_1:Nat),by refine(?_:_→_→Prop) (Ac.rows (List.getD l_1 i_1 default)) (PV.list (l_1.map acC) .no); exact fun a b=>i_1<l_1.length∧List.length a≤1000000∧SlIs [d,.bool false,.int .i64 i,.int .i64 0] [b,.bool false,.int .i64 i_1,.int .i64 0]∧HpIs [] []∧(List.any a greatR=false→∀(_:Int),R .normal [b,.bool false,.int .i64 (wI ((i_1:Int)+1))] [])∧(List.any a greatR=true→∀(_:Int),R .ret [b,.bool true,.int .i64 i_1] []))) False) (R (.exit 0) f []))→Holds (wpc br Try.prog gl [] [([1,0,0,1,1,0],gri_l)] (fun _=>0) (subOf [1,1,0,1,0] (bodyOf Try.f6)) [] (envS [0,2,3] f) [] (fun ex e H=>R ex (List.map e [0,2,3]) H)):Prop):=fun R h=>holds_of_eq (by kernel_rfl) h
def gro_l:LSp:=fun e H Q=>∃(l:List Ac),l.length≤1000000∧SlIs (List.map e [0,2,3]) [.list (l.map acC) .no,.bool false,.int .i64 0]∧HpIs H []∧(l.any greatA=false→∀ i:Int,Q (.exit 0) (envS [0,2,3] [.list (l.map acC) .no,.bool false,.int .i64 i]) [])∧(l.any greatA=true→∀ i:Int,Q .ret (envS [0,2,3] [.list (l.map acC) .no,.bool true,.int .i64 i]) [])
theorem gro_l_ok:∀ e H Q,gro_l e H Q→AW Try.prog gl Try.f6.ntmps (.loop (subOf [1,1,0,1,0] (bodyOf Try.f6))) Q e H:=by
 rintro e H Q ⟨l,hl,he,hH,h0,h1⟩
 refine aw_loop4 (hn:=fun _=>0) gl_low (.nil _ _) (.cons (sub_of (by kernel_rfl)) gri_l_ok2 (.nil _ _ _ _ _)) (σ:=Nat) [0,2,3] (fun i=>i≤l.length∧(l.take i).any greatA=false) (fun i=>[.list (l.map acC) .no,.bool false,.int .i64 i]) (fun _=>[]) (fun i=>l.length-i) 0 ⟨Nat.zero_le _,rfl⟩ he hH ?_
 rintro i ⟨hi,hn⟩
 have hi:i≤l.length:=hi
 have hn:(l.take i).any greatA=false:=hn
 refine gro_vc l i _ ?_
 simp only[br_if,dt,toNat_nat,List.length_map]
 by_cases h:i<l.length
 ·rw[if_pos (by omega)]
  refine⟨by rw[inL_ac]; exact h,?_⟩
  obtain⟨a,ha⟩:∃ a,a=l.getD i default:=⟨_,rfl⟩
  have c5:cL (List.drop 5 (acC a)) 0=a.rows.map rrc:=rfl
  simp only[getD_map default h,← ha,c5,List.length_map]
  rw[if_pos (by rfl)]
  by_cases c:a.rows.length>10
  ·rw[if_pos (by omega)]
   exact h1 (any_of default h (by rw[← ha]; unfold greatA; rw[decide_eq_true c]; rfl)) i
  ·rw[if_neg (by omega)]
   refine⟨l,i,h,by rw[← ha]; omega,rfl,rfl,fun hf k=>?_,fun ht k=>?_⟩
   ·rw[← ha] at hf
    refine⟨i+1,(show l.length-(i+1)<l.length-i by omega),⟨h,?_⟩,by rw[wI_succ h (by omega)],[],rfl,Nat.le_refl _,.inl rfl⟩
    rw[any_tk default h,hn,← ha]; unfold greatA; rw[decide_eq_false c,hf]; rfl
   ·rw[← ha] at ht
    exact h1 (any_of default h (by rw[← ha]; unfold greatA; rw[ht,Bool.or_true])) i
 ·rw[if_neg (by omega)]
  have hil:i=l.length:=by omega
  rw[hil,List.take_length] at hn
  exact h0 hn i
theorem gr_vc (l:List Ac):∀(K:PV→Prop),(br (decide ((↑(List.length (l.map acC)):Int)>50)) (K (.bool true)) (∃(l_1:List Ac),l_1.length≤1000000∧SlIs [.list (l.map acC) .no,.bool false,.int .i64 0] [.list (l_1.map acC) .no,.bool false,.int .i64 0]∧HpIs [] []∧(List.any l_1 greatA=false→∀(_:Int),K (.bool false))∧(List.any l_1 greatA=true→∀(_:Int),K (.bool true))))→ACalls Try.prog gl 6 [.list (l.map acC) .no] [] (fun x _=>K x):=fun K h=>acalls_of_wpc2 (T:=[]) (L:=[([1,1,0,1,0],gro_l)]) (fun _=>0) Try.func6 (by kernel_rfl) (by kernel_rfl) (by kernel_rfl) (TabOk.nil _ _) (.cons (sub_of (by kernel_rfl)) gro_l_ok (.nil _ _ _ _ _)) (holds_of_eq (by kernel_rfl) h)
def great_s (args:List PV) (K:PV→Prop):Prop:=∃(l:List Ac) (t:Tail),SlIs args [.list (l.map acC) t]∧K (.bool (greatB l))
theorem great_ok:SpOk Try.prog gl 6 (.pure great_s):=by
 rintro args K ⟨l,t,he,hk⟩
 have he:args=_:=he
 subst he
 refine spure_w gl_low (.cons (.list _ _) .nil) (low_one (low_acs l)) (.bool _) (gr_vc l (fun x=>x = .bool (greatB l)) ?_) hk
 simp only[br_if,List.length_map]
 unfold greatB
 by_cases c:l.length>50
 ·rw[if_pos (decide_eq_true (by omega)),decide_eq_true c]; rfl
 ·rw[if_neg (by rw[decide_eq_false (by omega)]; decide),decide_eq_false c]
  exact⟨l,by omega,rfl,rfl,fun h _=>by rw[h]; rfl,fun h _=>by rw[h]; rfl⟩
theorem great_no {l:List Ac} (h:greatB l=false):l.length≤50∧∀ a∈l,smR a.rows:=by
 unfold greatB at h
 rw[Bool.or_eq_false_iff] at h
 refine⟨by have:=of_decide_eq_false h.1; omega,fun a ha=>?_⟩
 have h2:=List.any_eq_false.1 h.2 a ha
 have h2:greatA a=false:=by simpa using h2
 unfold greatA at h2
 rw[Bool.or_eq_false_iff] at h2
 refine⟨by have:=of_decide_eq_false h2.1; omega,fun r hr=>?_⟩
 have h3:=List.any_eq_false.1 h2.2 r hr
 have h3:greatR r=false:=by simpa using h3
 have:=of_decide_eq_false h3; omega
def makeC_s (args:List PV) (H:Heap) (K:PV→Heap→Prop):Prop:=∃(w:List Mt) (m id md ins:Int) (l:List Rr) (t:Tail),SlIs args [.ptr 0 0,.int .u32 id,.int .i64 md,.int .u32 ins,.list (l.map rrc) t]∧BkIs H 0 1 (rkM (rowsM w) m)∧MO w m∧smR l∧K (.int .i64 (makeM w m id md ins l).2) (H.set 1 (.abs (rkM (rowsM (makeM w m id md ins l).1) m)))
theorem makeC_ok:SpOk Try.prog gl 25 (.chg makeC_s):=fun args H _ ⟨w,m,id,md,ins,l,t,he,hb,ro,hl,hk⟩=>⟨_,_,make_ok args H (fun x H1=>x=_∧H1=_) ⟨0,1,w,m,id,md,ins,l,t,he,hb,ro,hl,⟨rfl,rfl⟩⟩,hk⟩
def addC_s (args:List PV) (H:Heap) (K:PV→Heap→Prop):Prop:=∃(w:List Mt) (m id:Int) (l:List Rr) (t:Tail),SlIs args [.ptr 0 0,.int .u32 id,.list (l.map rrc) t]∧BkIs H 0 1 (rkM (rowsM w) m)∧MO w m∧smR l∧K (.int .i64 (addMt w id l).2) (H.set 1 (.abs (rkM (rowsM (addMt w id l).1) m)))
theorem addC_ok:SpOk Try.prog gl 29 (.chg addC_s):=fun args H _ ⟨w,m,id,l,t,he,hb,ro,hl,hk⟩=>⟨_,_,add_ok args H (fun x H1=>x=_∧H1=_) ⟨0,1,w,m,id,l,t,he,hb,ro,hl,⟨rfl,rfl⟩⟩,hk⟩
def setC_s (args:List PV) (H:Heap) (K:PV→Heap→Prop):Prop:=∃(w:List Mt) (m p st un no:Int),SlIs args [.ptr 0 0,.int .u32 p,.int .i64 st,.int .i64 un,.int .u64 no]∧BkIs H 0 1 (rkM (rowsM w) m)∧MO w m∧K (.int .i64 (setMt w p st un no).2) (H.set 1 (.abs (rkM (rowsM (setMt w p st un no).1) m)))
theorem setC_ok:SpOk Try.prog gl 30 (.heap setC_s):=fun args H K ⟨w,m,p,st,un,no,he,hb,ro,hk⟩=>set_ok args H K ⟨0,1,w,m,p,st,un,no,he,hb,ro,hk⟩
def losC_s (args:List PV) (H:Heap) (K:PV→Heap→Prop):Prop:=∃(w:List Mt) (m p:Int),SlIs args [.ptr 0 0,.int .u32 p]∧BkIs H 0 1 (rkM (rowsM w) m)∧MO w m∧K (.tup [.int .u32 (loseM w p).2.1,.int .i64 (loseM w p).2.2.1,.int .i64 (loseM w p).2.2.2]) (H.set 1 (.abs (rkM (rowsM (loseM w p).1) m)))
theorem losC_ok:SpOk Try.prog gl 27 (.heap losC_s):=fun args H K ⟨w,m,p,he,hb,ro,hk⟩=>lose_ok args H K ⟨0,1,w,m,p,he,hb,ro,hk⟩
def endC_s (args:List PV) (H:Heap) (K:PV→Heap→Prop):Prop:=∃(w:List Mt) (m id:Int),SlIs args [.ptr 0 0,.int .u32 id]∧BkIs H 0 1 (rkM (rowsM w) m)∧MO w m∧K (.tup [(gM w id).pv,.bool (hasG Mt.id w id)]) (H.set 1 (.abs (rkM (rowsM (dropG Mt.id w id)) m)))
theorem endC_ok:SpOk Try.prog gl 28 (.heap endC_s):=fun args H K ⟨w,m,id,he,hb,ro,hk⟩=>end_ok args H K ⟨0,1,w,m,id,he,hb,ro,hk⟩
def TDO:Tab:=[(24,.pure lown_s),(16,.pure back_s),(25,.chg makeC_s),(29,.chg addC_s),(30,.heap setC_s),(27,.heap losC_s),(28,.heap endC_s),(26,.pure rmake_s),(32,.pure radd_s),(33,.pure rset_s),(34,.pure rlose_s),(35,.pure rend_s),(20,.pure rget_s),(15,.pure rsame_s)]
theorem TDO_ok:TabOk Try.prog gl TDO:= .cons lown_ok (.cons back_ok (.cons makeC_ok (.cons addC_ok (.cons setC_ok (.cons losC_ok (.cons endC_ok (.cons rmake_ok (.cons radd_ok (.cons rset_ok (.cons rlose_ok (.cons rend_ok (.cons rget_ok (.cons rsame_ok (.nil _ _))))))))))))))
end Go.Proofs.Ytenaelaapdhbdaa
