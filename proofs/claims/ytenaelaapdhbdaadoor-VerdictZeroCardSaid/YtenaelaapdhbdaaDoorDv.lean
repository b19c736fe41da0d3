/-
  The document's Wrong.
-/
import Derived.Test.YtenaelaapdhbdaaDoorDu
import Derived.Test.YtenaelaapdhbdaaDoorProg
namespace Go.Proofs.YtenaelaapdhbdaaDoor
open Go Go.AM Go.Proofs
structure SmM (w:List Mt):Prop where
 len:w.length≤100000
 se:∀ c∈w,c.aa.length≤1000000
def AK (args:List PV) (K:PV→Prop):Prop:=∃(w:List Mt) (tl:Tail) (t:Int),ak args [.list (w.map mtc) tl,.int .u32 t]∧SmM w∧K (.int .u32 (ofM w t))
theorem DN:aO Tryd.prog gl 41 (.pure AK):=by
 rintro args K ⟨w,tl,t,he,s,hk⟩
 have he:args=_:=he
 subst he
 have hl:=s.len
 refine bH aq (.cons (.list _ _) (.cons (.refl _) .nil)) (bF (bY w) (.int _ _)) (.int _ _) (En w t (fun x=>x = .int .u32 (ofM w t)) ⟨w,t,by omega,s.se,rfl,rfl,fun h=>?_,fun h=>?_⟩) hk
 ·unfold ofM; rw[if_pos h]
 ·unfold ofM; rw[if_neg (by omega)]
def q8 (args:List PV) (K:PV→Prop):Prop:=∃(w:List Mt) (tl t1 t2:Tail) (c:Mt),ak args [.list (w.map mtc) tl,.agg [.int .u32 c.id,.int .i64 c.md,.int .u32 c.ins,.list (c.rows.map rrc) t1,.list (c.aa.map stc) t2]]∧dz Mt.id w∧w.length≤100000∧K (.list ((eT Mt.id w c).map mtc) .no)
theorem sC:aO Tryd.prog gl 36 (.pure q8):=by
 rintro args K ⟨w,tl,t1,t2,c,he,hr,hl,hk⟩
 have he:args=_:=he
 subst he
 have e:=uB (k:=Mt.id) c hr
 have hlen:=nK Mt.id c false w
 refine bH aq (.cons (.list _ _) (.cons iF .nil)) (bF (bY w) c.low) (bY _) (bA (xo w c (fun x=>∃ y,Wk x y∧y = .list ((eT Mt.id w c).map mtc) .no) ⟨w,c,false,by omega,trivial,rfl,rfl,fun h1=>?_,fun h1=>?_⟩)) hk
 ·unfold xg at e
  rw[ay]
  by_cases h2:(cP Mt.id c false w).2=false
  ·rw[if_pos h2,h1] at e
   rw[if_pos (by rw[h2]; rfl)]
   refine⟨aL (l:=[]) (by_:=72) eD c (by show(0+1)*72≤_; decide),one_row fa c,?_⟩
   rw[← e]; exact⟨_,.list _ _,rfl⟩
  ·rw[if_neg h2,h1] at e
   rw[if_neg (by simpa using h2),← e]
   exact⟨_,.list _ _,rfl⟩
 ·unfold xg at e
  rw[ay]
  by_cases h2:(cP Mt.id c false w).2=false
  ·rw[if_pos h2] at e
   rw[if_pos (by rw[h2]; rfl)]
   refine⟨aL eD _ c (by omega),one_row fa c,?_⟩
   rw[← e,List.map_append]; exact⟨_,.list _ _,rfl⟩
  ·rw[if_neg h2] at e
   rw[if_neg (by simpa using h2),← e]
   exact⟨_,.list _ _,rfl⟩
theorem Io (l:List Rr) (t:Int) (a i:Nat):(by refine(?_:_→_→_→_→Prop) (List.getD (l.map rrc) (Int.toNat (i:Int)) []) [PV.list (l.map rrc) .no,.int .i64 t,.int .i64 a,.int .i64 i] (PV.int .i64 (wI ((i:Int)+1))) (PV.list (l.map rrc) .no); exact fun b c d f=>∀(R:Ex→List PV→ae→Prop),(br (decide ((i:Int)<(↑(List.length (l.map rrc)):Int))) (InL (l.map rrc) 4 (i:Int)∧br (true && aP [.int .i64] 0 (List.drop 0 b)) (br (cI (List.drop 0 b) 0 == t) (InL (l.map rrc) 4 (i:Int)∧br (true && aP [.list] 0 (List.drop 1 b)) (R .normal [f,.int .i64 t,.int .i64 (wI ((a:Int)+(↑(List.length (cL (List.drop 1 b) 0)):Int))),d] []) False) (R .normal [f,.int .i64 t,.int .i64 a,d] [])) False) (R (.exit 0) c []))→Holds (wpc br Tryd.prog gl [] [] (fun _=>0) (an [1,1,0,1,0] (ai Tryd.f61)) [] (av [0,1,5,6] c) [] (fun ex e H=>R ex (List.map e [0,1,5,6]) H)):Prop):=fun R h=>ag (by kernel_rfl) h
def HY:LSp:=fun e H Q=>∃(l:List Rr) (t:Int),l.length≤1000000∧tot l≤1000000∧ak (List.map e [0,1,5,6]) [.list (l.map rrc) .no,.int .i64 t,.int .i64 0,.int .i64 0]∧az H []∧Q (.exit 0) (av [0,1,5,6] [.list (l.map rrc) .no,.int .i64 t,.int .i64 (taken l t),.int .i64 l.length]) []
theorem Ec:∀ e H Q,HY e H Q→AW Tryd.prog gl Tryd.f61.ntmps (.loop (an [1,1,0,1,0] (ai Tryd.f61))) Q e H:=by
 rintro e H Q ⟨l,t,hl,ht,he,hH,hQ⟩
 refine aG (hn:=fun _=>0) aq (.nil _ _) (.nil _ _ _ _ _) (σ:=Nat) [0,1,5,6] (fun i=>i≤l.length) (fun i=>[.list (l.map rrc) .no,.int .i64 t,.int .i64 (taken (l.take i) t),.int .i64 i]) (fun _=>[]) (fun i=>l.length-i) 0 (Nat.zero_le _) (by rw[he]; rfl) hH ?_
 intro i hi
 have hi:i≤l.length:=hi
 refine Io l t (taken (l.take i) t) i _ ?_
 have h1:=fX (l.take i) t
 have h3:=fC (l:=l) i
 simp only[ay,dt,au,dF,List.length_map]
 by_cases h:i<l.length
 ·rw[if_pos (by omega)]
  have e1:=jA (t:=t) h
  have h4:=fC (l:=l) (i+1)
  have h5:=fX (l.take (i+1)) t
  obtain⟨r,hr⟩:∃ r,r=l.getD i default:=⟨_,rfl⟩
  simp only[getD_map default h,← hr]
  rw[← hr] at e1
  have c0':cI (List.drop 0 (rrc r)) 0=r.tm:=rfl
  have c1:cL (List.drop 1 (rrc r)) 0=r.pl.map u1:=rfl
  simp only[c0',c1,List.length_map,beq_iff_eq]
  refine⟨h,?_⟩
  rw[if_pos (by rfl)]
  by_cases k1:r.tm=t
  ·rw[if_pos k1]
   rw[if_pos k1] at e1
   have e3:wI ((taken (l.take i) t:Int)+(r.pl.length:Int))=((taken (l.take (i+1)) t:Nat):Int):=by rw[a8 (by omega) (by omega)]; omega
   refine⟨h,?_⟩
   rw[if_pos (by rfl),e3]
   exact⟨i+1,(show l.length-(i+1)<l.length-i by omega),h,by rw[ax h (by omega)],[],rfl,Nat.le_refl _,.inl rfl⟩
  ·rw[if_neg k1]
   have e1:taken (l.take (i+1)) t=taken (l.take i) t:=by rw[e1,if_neg k1]; rfl
   exact⟨i+1,(show l.length-(i+1)<l.length-i by omega),h,by dsimp only; rw[ax h (by omega),e1],[],rfl,Nat.le_refl _,.inl rfl⟩
 ·rw[if_neg (by omega)]
  have:i=l.length:=by omega
  subst this
  rw[List.take_length]
  exact hQ
theorem EG (l:List Rr) (t:Int)  (K:PV→Prop) (h:∃(l_1:List Rr) (t_1:Int),List.length l_1≤1000000∧tot l_1≤1000000∧ak [.list (List.map rrc l) .no,.int .i64 t,.int .i64 0,.int .i64 0] [.list (List.map rrc l_1) .no,.int .i64 t_1,.int .i64 0,.int .i64 0]∧az [] []∧K (.int .i64 (↑(taken l_1 t_1):Int))):aj Tryd.prog gl 61 [.list (l.map rrc) .no,.int .i64 t] [] (fun x _=>K x):=
 ah (T:=[]) (L:=[([1,1,0,1,0],HY)]) (fun _=>0) Tryd.func61 (by kernel_rfl) (by kernel_rfl) (by kernel_rfl) (aB.nil _ _) (.cons (aH (by kernel_rfl)) Ec (.nil _ _ _ _ _)) (ag (by kernel_rfl) h)
def rU (args:List PV) (K:PV→Prop):Prop:=∃(l:List Rr) (tl:Tail) (t:Int),ak args [.list (l.map rrc) tl,.int .i64 t]∧l.length≤1000000∧tot l≤1000000∧K (.int .i64 (taken l t))
theorem yJ:aO Tryd.prog gl 61 (.pure rU):=by
 rintro args K ⟨l,tl,t,he,h1,h2,hk⟩
 have he:args=_:=he
 subst he
 exact bH aq (.cons (.list _ _) (.cons (.refl _) .nil)) (bF (aQ l) (.int _ _)) (.int _ _) (EG l t (fun x=>x = .int .i64 (taken l t)) ⟨l,t,h1,h2,rfl,rfl,rfl⟩) hk
def TWF:Tab:=[(28,.pure wK),(8,.pure Cq),(41,.pure AK),(61,.pure rU)]
theorem jL:aB Tryd.prog gl TWF:= .cons ul (.cons zu (.cons DN (.cons yJ (.nil _ _))))
theorem sR (w:List Mt) (b l:List Rr) (r:Rr) (ids sz ex:Bool) (i k:Nat):(by refine(?_:_→_→_→_→_→_→Prop) (Ob.cells [.int .i64 r.tm,.list (r.pl.map u1) .no,.int .i64 r.rt,.int .i64 r.wd]) (PV.list (w.map mtc) .no) (PV.int .i64 (wI ((k:Int)+1))) (PV.list (b.map rrc) .no) (PV.list (l.map rrc) .no) (List.getD (r.pl.map u1) (Int.toNat (k:Int)) []); exact fun f h m n p q=>by refine(?_:_→_→Prop) (cI q 0) [PV.list (w.map mtc) .no,n,p,.list [] .exact,.bool ids,.bool sz,.bool ex,.int .i64 i,.ptr 0 0,.int .i64 k]; exact fun d g=>by refine(?_:_→_→Prop) (PV.list [[PV.int .u32 d]] (.tok 1)) [PV.list [] .exact,.int .u32 d]; exact fun j s=>∀(R:Ex→List PV→ae→Prop),by refine(?_:_→_→Prop) (aX [] [[PV.int .u32 d]] 1 4∧(List.all [.int .u32 d] PV.one=true∧[[PV.int .u32 d]]≠[])∧R .normal [h,n,p,j,.bool true,.bool sz,.bool true,.int .i64 i,.ptr 0 0,m] [f,.tok]) (aX [] [[PV.int .u32 d]] 1 4∧(List.all [.int .u32 d] PV.one=true∧[[PV.int .u32 d]]≠[])∧R .normal [h,n,p,j,.bool ids,.bool sz,.bool true,.int .i64 i,.ptr 0 0,m] [f,.tok]); exact fun a c=>(br (decide ((k:Int)<(↑(List.length (r.pl.map u1)):Int))) (InL (r.pl.map u1) 1 (k:Int)∧br (true && aP [.int .u32] 0 q) (∃(t:Int),0≤t∧ak [.int .u32 d] [.int .u32 t]∧br (!aF t) (∃(l_1:List Int) (tl:Tail) (t:Int),ak s [.list (l_1.map u1) tl,.int .u32 t]∧l_1.length≤1000000∧br (cf l_1 t == false) (∃(w_1:List Mt) (tl:Tail) (t:Int),ak [h,.int .u32 d] [.list (w_1.map mtc) tl,.int .u32 t]∧SmM w_1∧br (ofM w_1 t != 0) a (aX [] [[PV.int .u32 d]] 1 4∧(List.all [.int .u32 d] PV.one=true∧[[PV.int .u32 d]]≠[])∧R .normal [h,n,p,j,.bool true,.bool sz,.bool ex,.int .i64 i,.ptr 0 0,m] [f,.tok])) a) (∃(l_1:List Int) (tl:Tail) (t:Int),ak s [.list (l_1.map u1) tl,.int .u32 t]∧l_1.length≤1000000∧br (cf l_1 t == false) (∃(w_1:List Mt) (tl:Tail) (t:Int),ak [h,.int .u32 d] [.list (w_1.map mtc) tl,.int .u32 t]∧SmM w_1∧br (ofM w_1 t != 0) c (aX [] [[PV.int .u32 d]] 1 4∧(List.all [.int .u32 d] PV.one=true∧[[PV.int .u32 d]]≠[])∧R .normal [h,n,p,j,.bool ids,.bool sz,.bool ex,.int .i64 i,.ptr 0 0,m] [f,.tok])) c)) False) (R (.exit 2) g [f]))→Holds (wpc br Tryd.prog gl TWF [] (fun o=>match o.dst with|some 76=>1|_=>0) (an [1,1,1,0,1,0,0,1,0,0,1,1,1,0] (ai Tryd.f34)) [] (av [0,1,2,7,8,9,10,11,12,13] g) [.cells (rrc r)] (fun ex e H=>R ex (List.map e [0,1,2,7,8,9,10,11,12,13]) H)):Prop):=fun R h=>ag (by kernel_rfl) h
theorem tt (w:List Mt) (b l:List Rr) (r:Rr) (ids sz ex:Bool) (ps:List Int) (i k:Nat):(by refine(?_:_→_→_→_→_→_→_→Prop) (Ob.cells [.int .i64 r.tm,.list (r.pl.map u1) .no,.int .i64 r.rt,.int .i64 r.wd]) (PV.list (w.map mtc) .no) (PV.int .i64 (wI ((k:Int)+1))) (PV.list (b.map rrc) .no) (PV.list (l.map rrc) .no) (PV.list (ps.map u1) (.tok 1)) (List.getD (r.pl.map u1) (Int.toNat (k:Int)) []); exact fun f j m n p q s=>by refine(?_:_→_→Prop) (cI s 0) [PV.list (w.map mtc) .no,n,p,q,.bool ids,.bool sz,.bool ex,.int .i64 i,.ptr 0 0,.int .i64 k]; exact fun d g=>by refine(?_:_→Prop) (PV.list (ps.map u1++[[PV.int .u32 d]]) (.tok 2)); exact fun h=>∀(R:Ex→List PV→ae→Prop),by refine(?_:_→_→Prop) (aX (ps.map u1) [[PV.int .u32 d]] 1 4∧(List.all [.int .u32 d] PV.one=true∧[[PV.int .u32 d]]≠[])∧R .normal [j,n,p,h,.bool true,.bool sz,.bool true,.int .i64 i,.ptr 0 0,m] [f,.dead,.tok]) (aX (ps.map u1) [[PV.int .u32 d]] 1 4∧(List.all [.int .u32 d] PV.one=true∧[[PV.int .u32 d]]≠[])∧R .normal [j,n,p,h,.bool ids,.bool sz,.bool true,.int .i64 i,.ptr 0 0,m] [f,.dead,.tok]); exact fun a c=>(br (decide ((k:Int)<(↑(List.length (r.pl.map u1)):Int))) (InL (r.pl.map u1) 1 (k:Int)∧br (true && aP [.int .u32] 0 s) (∃(t:Int),0≤t∧ak [.int .u32 d] [.int .u32 t]∧br (!aF t) (∃(l_1:List Int) (tl:Tail) (t:Int),ak [q,.int .u32 d] [.list (l_1.map u1) tl,.int .u32 t]∧l_1.length≤1000000∧br (cf l_1 t == false) (∃(w_1:List Mt) (tl:Tail) (t:Int),ak [j,.int .u32 d] [.list (w_1.map mtc) tl,.int .u32 t]∧SmM w_1∧br (ofM w_1 t != 0) a (aX (ps.map u1) [[PV.int .u32 d]] 1 4∧(List.all [.int .u32 d] PV.one=true∧[[PV.int .u32 d]]≠[])∧R .normal [j,n,p,h,.bool true,.bool sz,.bool ex,.int .i64 i,.ptr 0 0,m] [f,.dead,.tok])) a) (∃(l_1:List Int) (tl:Tail) (t:Int),ak [q,.int .u32 d] [.list (l_1.map u1) tl,.int .u32 t]∧l_1.length≤1000000∧br (cf l_1 t == false) (∃(w_1:List Mt) (tl:Tail) (t:Int),ak [j,.int .u32 d] [.list (w_1.map mtc) tl,.int .u32 t]∧SmM w_1∧br (ofM w_1 t != 0) c (aX (ps.map u1) [[PV.int .u32 d]] 1 4∧(List.all [.int .u32 d] PV.one=true∧[[PV.int .u32 d]]≠[])∧R .normal [j,n,p,h,.bool ids,.bool sz,.bool ex,.int .i64 i,.ptr 0 0,m] [f,.dead,.tok])) c)) False) (R (.exit 2) g [f,.tok]))→Holds (wpc br Tryd.prog gl TWF [] (fun o=>match o.dst with|some 76=>1|_=>0) (an [1,1,1,0,1,0,0,1,0,0,1,1,1,0] (ai Tryd.f34)) [] (av [0,1,2,7,8,9,10,11,12,13] g) [.cells (rrc r),.tok] (fun ex e H=>R ex (List.map e [0,1,2,7,8,9,10,11,12,13]) H)):Prop):=fun R h=>ag (by kernel_rfl) h
theorem sU (w:List Mt) (b l:List Rr) (r:Rr) (ids sz ex:Bool) (ps:List Int) (i k:Nat):(by refine(?_:_→_→_→_→_→_→_→Prop) (Ob.cells [.int .i64 r.tm,.list (r.pl.map u1) .no,.int .i64 r.rt,.int .i64 r.wd]) (PV.list (w.map mtc) .no) (PV.int .i64 (wI ((k:Int)+1))) (PV.list (b.map rrc) .no) (PV.list (l.map rrc) .no) (PV.list (ps.map u1) (.tok 0)) (List.getD (r.pl.map u1) (Int.toNat (k:Int)) []); exact fun f j m n p q s=>by refine(?_:_→_→Prop) (cI s 0) [PV.list (w.map mtc) .no,n,p,q,.bool ids,.bool sz,.bool ex,.int .i64 i,.ptr 1 0,.int .i64 k]; exact fun d g=>by refine(?_:_→Prop) (PV.list (ps.map u1++[[PV.int .u32 d]]) (.tok 2)); exact fun h=>∀(R:Ex→List PV→ae→Prop),by refine(?_:_→_→Prop) (aX (ps.map u1) [[PV.int .u32 d]] 1 4∧(List.all [.int .u32 d] PV.one=true∧[[PV.int .u32 d]]≠[])∧R .normal [j,n,p,h,.bool true,.bool sz,.bool true,.int .i64 i,.ptr 1 0,m] [.dead,f,.tok]) (aX (ps.map u1) [[PV.int .u32 d]] 1 4∧(List.all [.int .u32 d] PV.one=true∧[[PV.int .u32 d]]≠[])∧R .normal [j,n,p,h,.bool ids,.bool sz,.bool true,.int .i64 i,.ptr 1 0,m] [.dead,f,.tok]); exact fun a c=>(br (decide ((k:Int)<(↑(List.length (r.pl.map u1)):Int))) (InL (r.pl.map u1) 1 (k:Int)∧br (true && aP [.int .u32] 0 s) (∃(t:Int),0≤t∧ak [.int .u32 d] [.int .u32 t]∧br (!aF t) (∃(l_1:List Int) (tl:Tail) (t:Int),ak [q,.int .u32 d] [.list (l_1.map u1) tl,.int .u32 t]∧l_1.length≤1000000∧br (cf l_1 t == false) (∃(w_1:List Mt) (tl:Tail) (t:Int),ak [j,.int .u32 d] [.list (w_1.map mtc) tl,.int .u32 t]∧SmM w_1∧br (ofM w_1 t != 0) a (aX (ps.map u1) [[PV.int .u32 d]] 1 4∧(List.all [.int .u32 d] PV.one=true∧[[PV.int .u32 d]]≠[])∧R .normal [j,n,p,h,.bool true,.bool sz,.bool ex,.int .i64 i,.ptr 1 0,m] [.dead,f,.tok])) a) (∃(l_1:List Int) (tl:Tail) (t:Int),ak [q,.int .u32 d] [.list (l_1.map u1) tl,.int .u32 t]∧l_1.length≤1000000∧br (cf l_1 t == false) (∃(w_1:List Mt) (tl:Tail) (t:Int),ak [j,.int .u32 d] [.list (w_1.map mtc) tl,.int .u32 t]∧SmM w_1∧br (ofM w_1 t != 0) c (aX (ps.map u1) [[PV.int .u32 d]] 1 4∧(List.all [.int .u32 d] PV.one=true∧[[PV.int .u32 d]]≠[])∧R .normal [j,n,p,h,.bool ids,.bool sz,.bool ex,.int .i64 i,.ptr 1 0,m] [.dead,f,.tok])) c)) False) (R (.exit 2) g [.tok,f]))→Holds (wpc br Tryd.prog gl TWF [] (fun o=>match o.dst with|some 76=>1|_=>0) (an [1,1,1,0,1,0,0,1,0,0,1,1,1,0] (ai Tryd.f34)) [] (av [0,1,2,7,8,9,10,11,12,13] g) [.tok,.cells (rrc r)] (fun ex e H=>R ex (List.map e [0,1,2,7,8,9,10,11,12,13]) H)):Prop):=fun R h=>ag (by kernel_rfl) h
theorem so (w:List Mt) (b l:List Rr) (r:Rr) (ids sz ex:Bool) (ps:List Int) (i k:Nat):(by refine(?_:_→_→_→_→_→_→_→Prop) (Ob.cells [.int .i64 r.tm,.list (r.pl.map u1) .no,.int .i64 r.rt,.int .i64 r.wd]) (PV.list (w.map mtc) .no) (PV.int .i64 (wI ((k:Int)+1))) (PV.list (b.map rrc) .no) (PV.list (l.map rrc) .no) (PV.list (ps.map u1) (.tok 2)) (List.getD (r.pl.map u1) (Int.toNat (k:Int)) []); exact fun f j m n p s u=>by refine(?_:_→_→_→Prop) (cI u 0) [PV.list (w.map mtc) .no,n,p,s,.bool ids,.bool sz,.bool ex,.int .i64 i,.ptr 1 0,.int .i64 k] [Ob.dead,f,.dead,.tok]; exact fun d g q=>by refine(?_:_→Prop) (PV.list (ps.map u1++[[PV.int .u32 d]]) (.tok 3)); exact fun h=>∀(R:Ex→List PV→ae→Prop),by refine(?_:_→_→Prop) (aX (ps.map u1) [[PV.int .u32 d]] 1 4∧(List.all [.int .u32 d] PV.one=true∧[[PV.int .u32 d]]≠[])∧R .normal [j,n,p,h,.bool true,.bool sz,.bool true,.int .i64 i,.ptr 1 0,m] q) (aX (ps.map u1) [[PV.int .u32 d]] 1 4∧(List.all [.int .u32 d] PV.one=true∧[[PV.int .u32 d]]≠[])∧R .normal [j,n,p,h,.bool ids,.bool sz,.bool true,.int .i64 i,.ptr 1 0,m] q); exact fun a c=>(br (decide ((k:Int)<(↑(List.length (r.pl.map u1)):Int))) (InL (r.pl.map u1) 1 (k:Int)∧br (true && aP [.int .u32] 0 u) (∃(t:Int),0≤t∧ak [.int .u32 d] [.int .u32 t]∧br (!aF t) (∃(l_1:List Int) (tl:Tail) (t:Int),ak [s,.int .u32 d] [.list (l_1.map u1) tl,.int .u32 t]∧l_1.length≤1000000∧br (cf l_1 t == false) (∃(w_1:List Mt) (tl:Tail) (t:Int),ak [j,.int .u32 d] [.list (w_1.map mtc) tl,.int .u32 t]∧SmM w_1∧br (ofM w_1 t != 0) a (aX (ps.map u1) [[PV.int .u32 d]] 1 4∧(List.all [.int .u32 d] PV.one=true∧[[PV.int .u32 d]]≠[])∧R .normal [j,n,p,h,.bool true,.bool sz,.bool ex,.int .i64 i,.ptr 1 0,m] q)) a) (∃(l_1:List Int) (tl:Tail) (t:Int),ak [s,.int .u32 d] [.list (l_1.map u1) tl,.int .u32 t]∧l_1.length≤1000000∧br (cf l_1 t == false) (∃(w_1:List Mt) (tl:Tail) (t:Int),ak [j,.int .u32 d] [.list (w_1.map mtc) tl,.int .u32 t]∧SmM w_1∧br (ofM w_1 t != 0) c (aX (ps.map u1) [[PV.int .u32 d]] 1 4∧(List.all [.int .u32 d] PV.one=true∧[[PV.int .u32 d]]≠[])∧R .normal [j,n,p,h,.bool ids,.bool sz,.bool ex,.int .i64 i,.ptr 1 0,m] q)) c)) False) (R (.exit 2) g [.dead,f,.tok]))→Holds (wpc br Tryd.prog gl TWF [] (fun o=>match o.dst with|some 76=>1|_=>0) (an [1,1,1,0,1,0,0,1,0,0,1,1,1,0] (ai Tryd.f34)) [] (av [0,1,2,7,8,9,10,11,12,13] g) [.dead,.cells (rrc r),.tok] (fun ex e H=>R ex (List.map e [0,1,2,7,8,9,10,11,12,13]) H)):Prop):=fun R h=>ag (by kernel_rfl) h
theorem fG {ρ:Nat→Nat} {n bx:Nat} {w:List Mt} {b l:List Rr} {ids sz ex:Bool} {i:Nat} {z:Int} {T T':PV} (hb:bx<n∧ρ bx=bx) (hT:Ren ρ n T T'):aW ρ n [.list (w.map mtc) .no,.list (b.map rrc) .no,.list (l.map rrc) .no,T,.bool ids,.bool sz,.bool ex,.int .i64 i,.ptr bx 0,.int .i64 z] [.list (w.map mtc) .no,.list (b.map rrc) .no,.list (l.map rrc) .no,T',.bool ids,.bool sz,.bool ex,.int .i64 i,.ptr bx 0,.int .i64 z]:=by
 have eb:=Ren.ptr (ρ:=ρ) (n:=n) bx 0 hb.1
 rw[hb.2] at eb
 exact .cons (.low (bY _)) (.cons (.low (aQ _)) (.cons (.low (aQ _)) (.cons hT (.cons (.low (.bool _)) (.cons (.low (.bool _)) (.cons (.low (.bool _)) (.cons (.low (.int _ _)) (.cons eb (.cons (.low (.int _ _)) (.nil))))))))))
def qv:LSp:=fun e H Q=>∃(w:List Mt) (b l:List Rr) (r:Rr) (s:WS) (sz:Bool) (i:Nat),SmM w∧(∀ p∈r.pl,0≤p)∧r.pl.length≤1000000∧s.ps.length+r.pl.length≤1000000∧s.ps=[]∧ak (List.map e [0,1,2,7,8,9,10,11,12,13]) [.list (w.map mtc) .no,.list (b.map rrc) .no,.list (l.map rrc) .no,.list [] .exact,.bool s.ids,.bool sz,.bool s.ex,.int .i64 i,.ptr 0 0,.int .i64 0]∧az H [.cells (rrc r)]∧(r.pl=[]→Q (.exit 2) (av [0,1,2,7,8,9,10,11,12,13] [.list (w.map mtc) .no,.list (b.map rrc) .no,.list (l.map rrc) .no,.list [] .exact,.bool s.ids,.bool sz,.bool s.ex,.int .i64 i,.ptr 0 0,.int .i64 0]) [.cells (rrc r)])∧(r.pl≠[]→Q (.exit 2) (av [0,1,2,7,8,9,10,11,12,13] [.list (w.map mtc) .no,.list (b.map rrc) .no,.list (l.map rrc) .no,.list ((wsP w s r.pl).ps.map u1) (.tok 1),.bool (wsP w s r.pl).ids,.bool sz,.bool (wsP w s r.pl).ex,.int .i64 i,.ptr 0 0,.int .i64 r.pl.length]) [.cells (rrc r),.tok])
theorem xM:∀ e H Q,qv e H Q→AW Tryd.prog gl Tryd.f34.ntmps (.loop (an [1,1,1,0,1,0,0,1,0,0,1,1,1,0] (ai Tryd.f34))) Q e H:=by
 rintro e H Q ⟨w,b,l,r,s,sz,i,sw,h0p,hrl,hsl,hs0,he,hH,hQ0,hQ1⟩
 ·have hH:H=_:=hH
  have hHl:H.length=1:=by rw[hH]; rfl
  refine fe (hn:=fun o=>match o.dst with|some 76=>1|_=>0) aq jL (.nil _ _ _ _ _) (σ:=Nat) [0,1,2,7,8,9,10,11,12,13] (fun k=>k≤r.pl.length) (fun k=>if k=0 then [.list (w.map mtc) .no,.list (b.map rrc) .no,.list (l.map rrc) .no,.list [] .exact,.bool s.ids,.bool sz,.bool s.ex,.int .i64 i,.ptr 0 0,.int .i64 0] else [.list (w.map mtc) .no,.list (b.map rrc) .no,.list (l.map rrc) .no,.list ((wsP w s (r.pl.take k)).ps.map u1) (.tok 1),.bool (wsP w s (r.pl.take k)).ids,.bool sz,.bool (wsP w s (r.pl.take k)).ex,.int .i64 i,.ptr 0 0,.int .i64 k]) (fun k=>if k=0 then [.cells (rrc r)] else [.cells (rrc r),.tok]) (fun k=>r.pl.length-k) 0 (Nat.zero_le _) he hH ?_
  rw[hHl]
  intro k hk
  have hk:k≤r.pl.length:=hk
  have hps:=eC w (r.pl.take k) s
  have hpl:(wsP w s (r.pl.take k)).ps.length≤1000000:=by rw[hps,List.length_append,List.length_take]; omega
  by_cases h:k<r.pl.length
  ·have hsucc:=kT w s h
   have hlow:∀(ps:List Int),∀ x∈(ps.map u1).flatten,Low 0 x:=fun ps=>bh fun a _=>bU a
   have inl:InL (r.pl.map u1) 1 (k:Int):=by rw[ec]; exact h
   have cp:cI (u1 (r.pl.getD k 0)) 0=r.pl.getD k 0:=rfl
   have hpm:r.pl.getD k 0∈r.pl:=bj h
   have hpl2:(wsP w s (r.pl.take (k+1))).ps.length≤1000000:=by rw[eC,List.length_append,List.length_take]; omega
   by_cases k0:k=0
   ·subst k0
    have e1:wsP w s (r.pl.take 1)=ws1 w s (r.pl.getD 0 0):=hsucc
    simp only[if_pos]
    refine sR w b l r s.ids sz s.ex i 0 _ ?_
    simp only[ay,dt,au,List.length_map,getD_map 0 h,cp]
    rw[if_pos (by omega)]
    refine⟨inl,?_⟩
    rw[if_pos (by rfl)]
    obtain⟨p,hp⟩:∃ p,p=r.pl.getD 0 0:=⟨_,rfl⟩
    rw[← hp] at e1 hpm
    simp only[← hp]
    have tail:∀ b1 b2:Bool,b1=(ws1 w s p).ids→b2=(ws1 w s p).ex→∃ s':Nat,r.pl.length-s'<r.pl.length-0∧s'≤r.pl.length∧dV 1 [.list (w.map mtc) .no,.list (b.map rrc) .no,.list (l.map rrc) .no,.list [[.int .u32 p]] (.tok 1),.bool b1,.bool sz,.bool b2,.int .i64 i,.ptr 0 0,.int .i64 (wI (((0:Nat):Int)+1))] [.cells (rrc r),.tok] (if s'=0 then [.list (w.map mtc) .no,.list (b.map rrc) .no,.list (l.map rrc) .no,.list [] .exact,.bool s.ids,.bool sz,.bool s.ex,.int .i64 i,.ptr 0 0,.int .i64 0] else [.list (w.map mtc) .no,.list (b.map rrc) .no,.list (l.map rrc) .no,.list ((wsP w s (r.pl.take s')).ps.map u1) (.tok 1),.bool (wsP w s (r.pl.take s')).ids,.bool sz,.bool (wsP w s (r.pl.take s')).ex,.int .i64 i,.ptr 0 0,.int .i64 s']) (if s'=0 then [.cells (rrc r)] else [.cells (rrc r),.tok]):=by
     rintro b1 b2 rfl rfl
     refine⟨1,by omega,h,?_⟩
     rw[if_neg (by decide),if_neg (by decide),e1,show wI (((0:Nat):Int)+1)=((1:Nat):Int) from rfl]
     refine aS [0,1] (WkL.refl _) (.cons rfl (.cells (aW.low (bG r))) (.cons rfl .tok .nil)) (by decide) (by simp) (fun o ho=>?_) (fG ⟨by simp,rfl⟩ ?_)
     ·match o,ho with
      | 0,_=>rfl
     ·have:=Ren.ltok (ρ:=fun o=>[0,1].getD o 0) (n:=2) ((ws1 w s p).ps.map u1) 1 (by decide) (hlow _)
      have e2:(ws1 w s p).ps.map u1=[[PV.int .u32 p]]:=by show(s.ps++[p]).map u1=_; rw[hs0]; rfl
      rw[← e2]; exact this
    have ap:aX (([]:List (List PV))) [[.int .u32 p]] 1 4∧(List.all [PV.int .u32 p] PV.one=true∧[[PV.int .u32 p]]≠[]):=⟨aL (f:=u1) dN [] p (by decide),one_row ey p⟩
    refine⟨p,h0p p hpm,rfl,?_⟩
    by_cases hr:aF p=true
    ·rw[if_neg (by rw[hr]; decide)]
     refine⟨[],.exact,p,rfl,(by decide),?_⟩
     by_cases hm:cf [] p=false
     ·rw[if_pos (by rw[hm]; rfl)]
      refine⟨w,.no,p,rfl,sw,?_⟩
      by_cases ho:(ofM w p != 0)=true
      ·rw[if_pos ho]
       exact⟨ap.1,ap.2,tail _ _ (by simp only[ws1]; rw[hr]; simp) (by simp only[ws1]; rw[ho]; simp)⟩
      ·rw[if_neg ho]
       exact⟨ap.1,ap.2,tail _ _ (by simp only[ws1]; rw[hr]; simp) (by simp only[ws1]; rw[hs0]; rw[hm,show(ofM w p != 0)=false by simpa using ho]; simp)⟩
     ·rw[if_neg (by simpa using hm)]
      exact⟨ap.1,ap.2,tail _ _ (by simp only[ws1]; rw[hr]; simp) (by simp only[ws1]; rw[hs0]; rw[bnf hm]; simp)⟩
    ·rw[if_pos (by simpa using hr)]
     refine⟨[],.exact,p,rfl,(by decide),?_⟩
     by_cases hm:cf [] p=false
     ·rw[if_pos (by rw[hm]; rfl)]
      refine⟨w,.no,p,rfl,sw,?_⟩
      by_cases ho:(ofM w p != 0)=true
      ·rw[if_pos ho]
       exact⟨ap.1,ap.2,tail _ _ (by simp only[ws1]; rw[show aF p=false by simpa using hr]; simp) (by simp only[ws1]; rw[ho]; simp)⟩
      ·rw[if_neg ho]
       exact⟨ap.1,ap.2,tail _ _ (by simp only[ws1]; rw[show aF p=false by simpa using hr]; simp) (by simp only[ws1]; rw[hs0]; rw[hm,show(ofM w p != 0)=false by simpa using ho]; simp)⟩
     ·rw[if_neg (by simpa using hm)]
      exact⟨ap.1,ap.2,tail _ _ (by simp only[ws1]; rw[show aF p=false by simpa using hr]; simp) (by simp only[ws1]; rw[hs0]; rw[bnf hm]; simp)⟩
   ·simp only[if_neg k0]
    refine tt w b l r (wsP w s (r.pl.take k)).ids sz (wsP w s (r.pl.take k)).ex (wsP w s (r.pl.take k)).ps i k _ ?_
    simp only[ay,dt,au,List.length_map,getD_map 0 h,cp]
    rw[if_pos (by omega)]
    refine⟨inl,?_⟩
    rw[if_pos (by rfl)]
    obtain⟨t,htd⟩:∃ t,t=wsP w s (r.pl.take k):=⟨_,rfl⟩
    obtain⟨p,hp⟩:∃ p,p=r.pl.getD k 0:=⟨_,rfl⟩
    rw[← htd,← hp] at hsucc
    rw[← hp] at hpm
    simp only[← hp,← htd] at hpl ⊢
    have htl:t.ps.length+1≤1000000:=by rw[hsucc] at hpl2; simpa[ws1] using hpl2
    have tail:∀ b1 b2:Bool,b1=(ws1 w t p).ids→b2=(ws1 w t p).ex→∃ s':Nat,r.pl.length-s'<r.pl.length-k∧s'≤r.pl.length∧dV 1 [.list (w.map mtc) .no,.list (b.map rrc) .no,.list (l.map rrc) .no,.list (t.ps.map u1++[[.int .u32 p]]) (.tok 2),.bool b1,.bool sz,.bool b2,.int .i64 i,.ptr 0 0,.int .i64 (wI ((k:Int)+1))] [.cells (rrc r),.dead,.tok] (if s'=0 then [.list (w.map mtc) .no,.list (b.map rrc) .no,.list (l.map rrc) .no,.list [] .exact,.bool s.ids,.bool sz,.bool s.ex,.int .i64 i,.ptr 0 0,.int .i64 0] else [.list (w.map mtc) .no,.list (b.map rrc) .no,.list (l.map rrc) .no,.list ((wsP w s (r.pl.take s')).ps.map u1) (.tok 1),.bool (wsP w s (r.pl.take s')).ids,.bool sz,.bool (wsP w s (r.pl.take s')).ex,.int .i64 i,.ptr 0 0,.int .i64 s']) (if s'=0 then [.cells (rrc r)] else [.cells (rrc r),.tok]):=by
     rintro b1 b2 rfl rfl
     refine⟨k+1,by omega,h,?_⟩
     rw[if_neg (by omega),if_neg (by omega),hsucc,ax h (by omega)]
     refine aS [0,2] (WkL.refl _) (.cons rfl (.cells (aW.low (bG r))) (.cons rfl .tok .nil)) (by decide) (by simp) (fun o ho=>?_) (fG ⟨by simp,rfl⟩ ?_)
     ·match o,ho with
      | 0,_=>rfl
     ·have:=Ren.ltok (ρ:=fun o=>[0,2].getD o 0) (n:=2) ((ws1 w t p).ps.map u1) 1 (by decide) (hlow _)
      have e2:(ws1 w t p).ps.map u1=t.ps.map u1++[[.int .u32 p]]:=by show(t.ps++[p]).map u1=_; rw[List.map_append]; rfl
      rw[← e2]; exact this
    have ap:aX (t.ps.map u1) [[.int .u32 p]] 1 4∧(List.all [PV.int .u32 p] PV.one=true∧[[PV.int .u32 p]]≠[]):=⟨aL (f:=u1) dN t.ps p (by omega),one_row ey p⟩
    refine⟨p,h0p p hpm,rfl,?_⟩
    by_cases hr:aF p=true
    ·rw[if_neg (by rw[hr]; decide)]
     refine⟨t.ps,.tok 1,p,rfl,(by omega),?_⟩
     by_cases hm:cf t.ps p=false
     ·rw[if_pos (by rw[hm]; rfl)]
      refine⟨w,.no,p,rfl,sw,?_⟩
      by_cases ho:(ofM w p != 0)=true
      ·rw[if_pos ho]
       exact⟨ap.1,ap.2,tail _ _ (by simp only[ws1]; rw[hr]; simp) (by simp only[ws1]; rw[ho]; simp)⟩
      ·rw[if_neg ho]
       exact⟨ap.1,ap.2,tail _ _ (by simp only[ws1]; rw[hr]; simp) (by simp only[ws1]; rw[hm,show(ofM w p != 0)=false by simpa using ho]; simp)⟩
     ·rw[if_neg (by simpa using hm)]
      exact⟨ap.1,ap.2,tail _ _ (by simp only[ws1]; rw[hr]; simp) (by simp only[ws1]; rw[bnf hm]; simp)⟩
    ·rw[if_pos (by simpa using hr)]
     refine⟨t.ps,.tok 1,p,rfl,(by omega),?_⟩
     by_cases hm:cf t.ps p=false
     ·rw[if_pos (by rw[hm]; rfl)]
      refine⟨w,.no,p,rfl,sw,?_⟩
      by_cases ho:(ofM w p != 0)=true
      ·rw[if_pos ho]
       exact⟨ap.1,ap.2,tail _ _ (by simp only[ws1]; rw[show aF p=false by simpa using hr]; simp) (by simp only[ws1]; rw[ho]; simp)⟩
      ·rw[if_neg ho]
       exact⟨ap.1,ap.2,tail _ _ (by simp only[ws1]; rw[show aF p=false by simpa using hr]; simp) (by simp only[ws1]; rw[hm,show(ofM w p != 0)=false by simpa using ho]; simp)⟩
     ·rw[if_neg (by simpa using hm)]
      exact⟨ap.1,ap.2,tail _ _ (by simp only[ws1]; rw[show aF p=false by simpa using hr]; simp) (by simp only[ws1]; rw[bnf hm]; simp)⟩
  ·have hkl:k=r.pl.length:=by omega
   subst hkl
   by_cases k0:r.pl.length=0
   ·have hn:r.pl=[]:=List.length_eq_zero_iff.1 k0
    simp only[if_pos k0]
    refine sR w b l r s.ids sz s.ex i 0 _ ?_
    simp only[ay,dt,List.length_map]
    rw[if_neg (by omega)]
    refine⟨_,_,aS [0] (WkL.refl _) (.cons rfl (.cells (aW.low (bG r))) .nil) (by decide) (by simp) (fun o ho=>?_) (fG ⟨by simp,rfl⟩ (.low (aI NT.exact (by simp)))),hQ0 hn⟩
    match o,ho with
    | 0,_=>rfl
   ·have hn:r.pl≠[]:=fun e=>k0 (by rw[e]; rfl)
    simp only[if_neg k0]
    refine tt w b l r (wsP w s (r.pl.take r.pl.length)).ids sz (wsP w s (r.pl.take r.pl.length)).ex (wsP w s (r.pl.take r.pl.length)).ps i r.pl.length _ ?_
    simp only[ay,dt,List.length_map]
    rw[if_neg (by omega),List.take_length]
    refine⟨_,_,aS [0,1] (WkL.refl _) (.cons rfl (.cells (aW.low (bG r))) (.cons rfl .tok .nil)) (by decide) (by simp) (fun o ho=>?_) (fG ⟨by simp,rfl⟩ (.ltok (ρ:=fun o=>[0,1].getD o 0) _ 1 (by simp) (bh fun a _=>bU a))),hQ1 hn⟩
    match o,ho with
    | 0,_=>rfl
def qM:LSp:=fun e H Q=>∃(w:List Mt) (b l:List Rr) (r:Rr) (s:WS) (sz:Bool) (i:Nat),SmM w∧(∀ p∈r.pl,0≤p)∧r.pl.length≤1000000∧s.ps.length+r.pl.length≤1000000∧ak (List.map e [0,1,2,7,8,9,10,11,12,13]) [.list (w.map mtc) .no,.list (b.map rrc) .no,.list (l.map rrc) .no,.list (s.ps.map u1) (.tok 0),.bool s.ids,.bool sz,.bool s.ex,.int .i64 i,.ptr 1 0,.int .i64 0]∧az H [.tok,.cells (rrc r)]∧(r.pl=[]→Q (.exit 2) (av [0,1,2,7,8,9,10,11,12,13] [.list (w.map mtc) .no,.list (b.map rrc) .no,.list (l.map rrc) .no,.list (s.ps.map u1) (.tok 0),.bool s.ids,.bool sz,.bool s.ex,.int .i64 i,.ptr 1 0,.int .i64 0]) [.tok,.cells (rrc r)])∧(r.pl≠[]→Q (.exit 2) (av [0,1,2,7,8,9,10,11,12,13] [.list (w.map mtc) .no,.list (b.map rrc) .no,.list (l.map rrc) .no,.list ((wsP w s r.pl).ps.map u1) (.tok 2),.bool (wsP w s r.pl).ids,.bool sz,.bool (wsP w s r.pl).ex,.int .i64 i,.ptr 1 0,.int .i64 r.pl.length]) [.dead,.cells (rrc r),.tok])
theorem yg:∀ e H Q,qM e H Q→AW Tryd.prog gl Tryd.f34.ntmps (.loop (an [1,1,1,0,1,0,0,1,0,0,1,1,1,0] (ai Tryd.f34))) Q e H:=by
 rintro e H Q ⟨w,b,l,r,s,sz,i,sw,h0p,hrl,hsl,he,hH,hQ0,hQ1⟩
 ·have hH:H=_:=hH
  have hHl:H.length=2:=by rw[hH]; rfl
  refine fe (hn:=fun o=>match o.dst with|some 76=>1|_=>0) aq jL (.nil _ _ _ _ _) (σ:=Nat) [0,1,2,7,8,9,10,11,12,13] (fun k=>k≤r.pl.length) (fun k=>if k=0 then [.list (w.map mtc) .no,.list (b.map rrc) .no,.list (l.map rrc) .no,.list (s.ps.map u1) (.tok 0),.bool s.ids,.bool sz,.bool s.ex,.int .i64 i,.ptr 1 0,.int .i64 0] else [.list (w.map mtc) .no,.list (b.map rrc) .no,.list (l.map rrc) .no,.list ((wsP w s (r.pl.take k)).ps.map u1) (.tok 2),.bool (wsP w s (r.pl.take k)).ids,.bool sz,.bool (wsP w s (r.pl.take k)).ex,.int .i64 i,.ptr 1 0,.int .i64 k]) (fun k=>if k=0 then [.tok,.cells (rrc r)] else [.dead,.cells (rrc r),.tok]) (fun k=>r.pl.length-k) 0 (Nat.zero_le _) he hH ?_
  rw[hHl]
  intro k hk
  have hk:k≤r.pl.length:=hk
  have hps:=eC w (r.pl.take k) s
  have hpl:(wsP w s (r.pl.take k)).ps.length≤1000000:=by rw[hps,List.length_append,List.length_take]; omega
  by_cases h:k<r.pl.length
  ·have hsucc:=kT w s h
   have hlow:∀(ps:List Int),∀ x∈(ps.map u1).flatten,Low 0 x:=fun ps=>bh fun a _=>bU a
   have inl:InL (r.pl.map u1) 1 (k:Int):=by rw[ec]; exact h
   have cp:cI (u1 (r.pl.getD k 0)) 0=r.pl.getD k 0:=rfl
   have hpm:r.pl.getD k 0∈r.pl:=bj h
   have hpl2:(wsP w s (r.pl.take (k+1))).ps.length≤1000000:=by rw[eC,List.length_append,List.length_take]; omega
   by_cases k0:k=0
   ·subst k0
    have e1:wsP w s (r.pl.take 1)=ws1 w s (r.pl.getD 0 0):=hsucc
    simp only[if_pos]
    refine sU w b l r s.ids sz s.ex s.ps i 0 _ ?_
    simp only[ay,dt,au,List.length_map,getD_map 0 h,cp]
    rw[if_pos (by omega)]
    refine⟨inl,?_⟩
    rw[if_pos (by rfl)]
    obtain⟨p,hp⟩:∃ p,p=r.pl.getD 0 0:=⟨_,rfl⟩
    rw[← hp] at e1 hpm
    simp only[← hp]
    have tail:∀ b1 b2:Bool,b1=(ws1 w s p).ids→b2=(ws1 w s p).ex→∃ s':Nat,r.pl.length-s'<r.pl.length-0∧s'≤r.pl.length∧dV 2 [.list (w.map mtc) .no,.list (b.map rrc) .no,.list (l.map rrc) .no,.list (s.ps.map u1++[[.int .u32 p]]) (.tok 2),.bool b1,.bool sz,.bool b2,.int .i64 i,.ptr 1 0,.int .i64 (wI (((0:Nat):Int)+1))] [.dead,.cells (rrc r),.tok] (if s'=0 then [.list (w.map mtc) .no,.list (b.map rrc) .no,.list (l.map rrc) .no,.list (s.ps.map u1) (.tok 0),.bool s.ids,.bool sz,.bool s.ex,.int .i64 i,.ptr 1 0,.int .i64 0] else [.list (w.map mtc) .no,.list (b.map rrc) .no,.list (l.map rrc) .no,.list ((wsP w s (r.pl.take s')).ps.map u1) (.tok 2),.bool (wsP w s (r.pl.take s')).ids,.bool sz,.bool (wsP w s (r.pl.take s')).ex,.int .i64 i,.ptr 1 0,.int .i64 s']) (if s'=0 then [.tok,.cells (rrc r)] else [.dead,.cells (rrc r),.tok]):=by
     rintro b1 b2 rfl rfl
     refine⟨1,by omega,h,?_⟩
     rw[if_neg (by decide),if_neg (by decide),e1,show wI (((0:Nat):Int)+1)=((1:Nat):Int) from rfl]
     refine aS [0,1,2] (WkL.refl _) (.cons rfl (.dead _) (.cons rfl (.cells (aW.low (bG r))) (.cons rfl .tok .nil))) (by decide) (by simp) (fun o ho=>?_) (fG ⟨by simp,rfl⟩ ?_)
     ·match o,ho with
      | 0,_=>rfl
      | 1,_=>rfl
     ·have:=Ren.ltok (ρ:=fun o=>[0,1,2].getD o 0) (n:=3) ((ws1 w s p).ps.map u1) 2 (by decide) (hlow _)
      have e2:(ws1 w s p).ps.map u1=s.ps.map u1++[[PV.int .u32 p]]:=by show(s.ps++[p]).map u1=_; rw[List.map_append]; rfl
      rw[← e2]; exact this
    have ap:aX (s.ps.map u1) [[.int .u32 p]] 1 4∧(List.all [PV.int .u32 p] PV.one=true∧[[PV.int .u32 p]]≠[]):=⟨aL (f:=u1) dN s.ps p (by omega),one_row ey p⟩
    refine⟨p,h0p p hpm,rfl,?_⟩
    by_cases hr:aF p=true
    ·rw[if_neg (by rw[hr]; decide)]
     refine⟨s.ps,.tok 0,p,rfl,(by omega),?_⟩
     by_cases hm:cf s.ps p=false
     ·rw[if_pos (by rw[hm]; rfl)]
      refine⟨w,.no,p,rfl,sw,?_⟩
      by_cases ho:(ofM w p != 0)=true
      ·rw[if_pos ho]
       exact⟨ap.1,ap.2,tail _ _ (by simp only[ws1]; rw[hr]; simp) (by simp only[ws1]; rw[ho]; simp)⟩
      ·rw[if_neg ho]
       exact⟨ap.1,ap.2,tail _ _ (by simp only[ws1]; rw[hr]; simp) (by simp only[ws1]; rw[hm,show(ofM w p != 0)=false by simpa using ho]; simp)⟩
     ·rw[if_neg (by simpa using hm)]
      exact⟨ap.1,ap.2,tail _ _ (by simp only[ws1]; rw[hr]; simp) (by simp only[ws1]; rw[bnf hm]; simp)⟩
    ·rw[if_pos (by simpa using hr)]
     refine⟨s.ps,.tok 0,p,rfl,(by omega),?_⟩
     by_cases hm:cf s.ps p=false
     ·rw[if_pos (by rw[hm]; rfl)]
      refine⟨w,.no,p,rfl,sw,?_⟩
      by_cases ho:(ofM w p != 0)=true
      ·rw[if_pos ho]
       exact⟨ap.1,ap.2,tail _ _ (by simp only[ws1]; rw[show aF p=false by simpa using hr]; simp) (by simp only[ws1]; rw[ho]; simp)⟩
      ·rw[if_neg ho]
       exact⟨ap.1,ap.2,tail _ _ (by simp only[ws1]; rw[show aF p=false by simpa using hr]; simp) (by simp only[ws1]; rw[hm,show(ofM w p != 0)=false by simpa using ho]; simp)⟩
     ·rw[if_neg (by simpa using hm)]
      exact⟨ap.1,ap.2,tail _ _ (by simp only[ws1]; rw[show aF p=false by simpa using hr]; simp) (by simp only[ws1]; rw[bnf hm]; simp)⟩
   ·simp only[if_neg k0]
    refine so w b l r (wsP w s (r.pl.take k)).ids sz (wsP w s (r.pl.take k)).ex (wsP w s (r.pl.take k)).ps i k _ ?_
    simp only[ay,dt,au,List.length_map,getD_map 0 h,cp]
    rw[if_pos (by omega)]
    refine⟨inl,?_⟩
    rw[if_pos (by rfl)]
    obtain⟨t,htd⟩:∃ t,t=wsP w s (r.pl.take k):=⟨_,rfl⟩
    obtain⟨p,hp⟩:∃ p,p=r.pl.getD k 0:=⟨_,rfl⟩
    rw[← htd,← hp] at hsucc
    rw[← hp] at hpm
    simp only[← hp,← htd] at hpl ⊢
    have htl:t.ps.length+1≤1000000:=by rw[hsucc] at hpl2; simpa[ws1] using hpl2
    have tail:∀ b1 b2:Bool,b1=(ws1 w t p).ids→b2=(ws1 w t p).ex→∃ s':Nat,r.pl.length-s'<r.pl.length-k∧s'≤r.pl.length∧dV 2 [.list (w.map mtc) .no,.list (b.map rrc) .no,.list (l.map rrc) .no,.list (t.ps.map u1++[[.int .u32 p]]) (.tok 3),.bool b1,.bool sz,.bool b2,.int .i64 i,.ptr 1 0,.int .i64 (wI ((k:Int)+1))] [.dead,.cells (rrc r),.dead,.tok] (if s'=0 then [.list (w.map mtc) .no,.list (b.map rrc) .no,.list (l.map rrc) .no,.list (s.ps.map u1) (.tok 0),.bool s.ids,.bool sz,.bool s.ex,.int .i64 i,.ptr 1 0,.int .i64 0] else [.list (w.map mtc) .no,.list (b.map rrc) .no,.list (l.map rrc) .no,.list ((wsP w s (r.pl.take s')).ps.map u1) (.tok 2),.bool (wsP w s (r.pl.take s')).ids,.bool sz,.bool (wsP w s (r.pl.take s')).ex,.int .i64 i,.ptr 1 0,.int .i64 s']) (if s'=0 then [.tok,.cells (rrc r)] else [.dead,.cells (rrc r),.tok]):=by
     rintro b1 b2 rfl rfl
     refine⟨k+1,by omega,h,?_⟩
     rw[if_neg (by omega),if_neg (by omega),hsucc,ax h (by omega)]
     refine aS [0,1,3] (WkL.refl _) (.cons rfl (.dead _) (.cons rfl (.cells (aW.low (bG r))) (.cons rfl .tok .nil))) (by decide) (by simp) (fun o ho=>?_) (fG ⟨by simp,rfl⟩ ?_)
     ·match o,ho with
      | 0,_=>rfl
      | 1,_=>rfl
     ·have:=Ren.ltok (ρ:=fun o=>[0,1,3].getD o 0) (n:=3) ((ws1 w t p).ps.map u1) 2 (by decide) (hlow _)
      have e2:(ws1 w t p).ps.map u1=t.ps.map u1++[[.int .u32 p]]:=by show(t.ps++[p]).map u1=_; rw[List.map_append]; rfl
      rw[← e2]; exact this
    have ap:aX (t.ps.map u1) [[.int .u32 p]] 1 4∧(List.all [PV.int .u32 p] PV.one=true∧[[PV.int .u32 p]]≠[]):=⟨aL (f:=u1) dN t.ps p (by omega),one_row ey p⟩
    refine⟨p,h0p p hpm,rfl,?_⟩
    by_cases hr:aF p=true
    ·rw[if_neg (by rw[hr]; decide)]
     refine⟨t.ps,.tok 2,p,rfl,(by omega),?_⟩
     by_cases hm:cf t.ps p=false
     ·rw[if_pos (by rw[hm]; rfl)]
      refine⟨w,.no,p,rfl,sw,?_⟩
      by_cases ho:(ofM w p != 0)=true
      ·rw[if_pos ho]
       exact⟨ap.1,ap.2,tail _ _ (by simp only[ws1]; rw[hr]; simp) (by simp only[ws1]; rw[ho]; simp)⟩
      ·rw[if_neg ho]
       exact⟨ap.1,ap.2,tail _ _ (by simp only[ws1]; rw[hr]; simp) (by simp only[ws1]; rw[hm,show(ofM w p != 0)=false by simpa using ho]; simp)⟩
     ·rw[if_neg (by simpa using hm)]
      exact⟨ap.1,ap.2,tail _ _ (by simp only[ws1]; rw[hr]; simp) (by simp only[ws1]; rw[bnf hm]; simp)⟩
    ·rw[if_pos (by simpa using hr)]
     refine⟨t.ps,.tok 2,p,rfl,(by omega),?_⟩
     by_cases hm:cf t.ps p=false
     ·rw[if_pos (by rw[hm]; rfl)]
      refine⟨w,.no,p,rfl,sw,?_⟩
      by_cases ho:(ofM w p != 0)=true
      ·rw[if_pos ho]
       exact⟨ap.1,ap.2,tail _ _ (by simp only[ws1]; rw[show aF p=false by simpa using hr]; simp) (by simp only[ws1]; rw[ho]; simp)⟩
      ·rw[if_neg ho]
       exact⟨ap.1,ap.2,tail _ _ (by simp only[ws1]; rw[show aF p=false by simpa using hr]; simp) (by simp only[ws1]; rw[hm,show(ofM w p != 0)=false by simpa using ho]; simp)⟩
     ·rw[if_neg (by simpa using hm)]
      exact⟨ap.1,ap.2,tail _ _ (by simp only[ws1]; rw[show aF p=false by simpa using hr]; simp) (by simp only[ws1]; rw[bnf hm]; simp)⟩
  ·have hkl:k=r.pl.length:=by omega
   subst hkl
   by_cases k0:r.pl.length=0
   ·have hn:r.pl=[]:=List.length_eq_zero_iff.1 k0
    simp only[if_pos k0]
    refine sU w b l r s.ids sz s.ex s.ps i 0 _ ?_
    simp only[ay,dt,List.length_map]
    rw[if_neg (by omega)]
    refine⟨_,_,aS [0,1] (WkL.refl _) (.cons rfl .tok (.cons rfl (.cells (aW.low (bG r))) .nil)) (by decide) (by simp) (fun o ho=>?_) (fG ⟨by simp,rfl⟩ (.ltok (ρ:=fun o=>[0,1].getD o 0) _ 0 (by simp) (bh fun a _=>bU a))),hQ0 hn⟩
    match o,ho with
    | 0,_=>rfl
    | 1,_=>rfl
   ·have hn:r.pl≠[]:=fun e=>k0 (by rw[e]; rfl)
    simp only[if_neg k0]
    refine so w b l r (wsP w s (r.pl.take r.pl.length)).ids sz (wsP w s (r.pl.take r.pl.length)).ex (wsP w s (r.pl.take r.pl.length)).ps i r.pl.length _ ?_
    simp only[ay,dt,List.length_map]
    rw[if_neg (by omega),List.take_length]
    refine⟨_,_,aS [0,1,2] (WkL.refl _) (.cons rfl (.dead _) (.cons rfl (.cells (aW.low (bG r))) (.cons rfl .tok .nil))) (by decide) (by simp) (fun o ho=>?_) (fG ⟨by simp,rfl⟩ (.ltok (ρ:=fun o=>[0,1,2].getD o 0) _ 2 (by simp) (bh fun a _=>bU a))),hQ1 hn⟩
    match o,ho with
    | 0,_=>rfl
    | 1,_=>rfl
theorem w4:an [1,0,0,1,1,1,0] (an [1,1,1,0,1,0] (ai Tryd.f34))=an [1,1,1,0,1,0,0,1,0,0,1,1,1,0] (ai Tryd.f34):=by kernel_rfl
theorem uG:∀ e H Q,qv e H Q→AW Tryd.prog gl Tryd.f34.ntmps (.loop (an [1,0,0,1,1,1,0] (an [1,1,1,0,1,0] (ai Tryd.f34)))) Q e H:=by
 rw[w4]; exact xM
theorem u6:∀ e H Q,qM e H Q→AW Tryd.prog gl Tryd.f34.ntmps (.loop (an [1,0,0,1,1,1,0] (an [1,1,1,0,1,0] (ai Tryd.f34)))) Q e H:=by
 rw[w4]; exact yg
theorem Gy (w:List Mt) (b l:List Rr) (ids sz ex:Bool) (r:Rr) (i:Nat):(by refine(?_:_→_→_→_→Prop) [Ob.cells [.int .i64 r.tm,.list (r.pl.map u1) .no,.int .i64 r.rt,.int .i64 r.wd]] (↑(List.length (r.pl.map u1)):Int) (PV.list (b.map rrc) .no) (PV.list (l.map rrc) .no); exact fun f g h j=>by refine(?_:_→Prop) [PV.list (w.map mtc) .no,h,j,.list [] .exact,.bool ids,.bool sz,.bool ex,.int .i64 i,.ptr 0 0]; exact fun d=>∀(R:Ex→List PV→ae→Prop),by refine(?_:_→Prop) (R .normal [.list (w.map mtc) .no,h,j,.list [] .exact,.bool ids,.bool true,.bool ex,.int .i64 i,.ptr 0 0] f); exact fun a=>by refine(?_:_→Prop) (br (decide (g<1) == false) (br (decide (g>4)) a (R .normal d f)) a); exact fun c=>(br ((r.tm != 1) == true) (br ((r.tm != 2) == false) c a) c)→Holds (wpc br Tryd.prog gl [] [] (fun _=>0) (cw [1,1,1,0,1,0,0,1,0,0,1,0] (ai Tryd.f34)) [] (av [0,1,2,7,8,9,10,11,12] d) [.cells (rrc r)] (fun ex e H=>R ex (List.map e [0,1,2,7,8,9,10,11,12]) H)):Prop):=fun R h=>ag (by kernel_rfl) h
theorem Gg (w:List Mt) (b l:List Rr) (ids sz ex:Bool) (ps:List Int) (r:Rr) (i:Nat):(by refine(?_:_→_→_→_→_→Prop) (Ob.cells [.int .i64 r.tm,.list (r.pl.map u1) .no,.int .i64 r.rt,.int .i64 r.wd]) (↑(List.length (r.pl.map u1)):Int) (PV.list (ps.map u1) (.tok 0)) (PV.list (b.map rrc) .no) (PV.list (l.map rrc) .no); exact fun f g h j k=>by refine(?_:_→Prop) [PV.list (w.map mtc) .no,j,k,h,.bool ids,.bool sz,.bool ex,.int .i64 i,.ptr 1 0]; exact fun d=>∀(R:Ex→List PV→ae→Prop),by refine(?_:_→Prop) (R .normal [.list (w.map mtc) .no,j,k,h,.bool ids,.bool true,.bool ex,.int .i64 i,.ptr 1 0] [.tok,f]); exact fun a=>by refine(?_:_→Prop) (br (decide (g<1) == false) (br (decide (g>4)) a (R .normal d [.tok,f])) a); exact fun c=>(br ((r.tm != 1) == true) (br ((r.tm != 2) == false) c a) c)→Holds (wpc br Tryd.prog gl [] [] (fun _=>0) (cw [1,1,1,0,1,0,0,1,0,0,1,0] (ai Tryd.f34)) [] (av [0,1,2,7,8,9,10,11,12] d) [.tok,.cells (rrc r)] (fun ex e H=>R ex (List.map e [0,1,2,7,8,9,10,11,12]) H)):Prop):=fun R h=>ag (by kernel_rfl) h
def qC:LSp:=fun e H Q=>∃(w:List Mt) (b l:List Rr) (r:Rr) (ids sz ex:Bool) (i:Nat),r.pl.length≤1000000∧ak (List.map e [0,1,2,7,8,9,10,11,12]) [.list (w.map mtc) .no,.list (b.map rrc) .no,.list (l.map rrc) .no,.list [] .exact,.bool ids,.bool sz,.bool ex,.int .i64 i,.ptr 0 0]∧az H [.cells (rrc r)]∧Q .normal (av [0,1,2,7,8,9,10,11,12] [.list (w.map mtc) .no,.list (b.map rrc) .no,.list (l.map rrc) .no,.list [] .exact,.bool ids,.bool (sz || bV r),.bool ex,.int .i64 i,.ptr 0 0]) [.cells (rrc r)]
theorem xy:∀ e H Q,qC e H Q→AW Tryd.prog gl Tryd.f34.ntmps (cw [1,1,1,0,1,0,0,1,0,0,1,0] (ai Tryd.f34)) Q e H:=by
 rintro e H Q ⟨w,b,l,r,ids,sz,ex,i,hrl,he,hH,hQ⟩
 have hH:H=_:=hH
 subst hH
 have he:List.map e [0,1,2,7,8,9,10,11,12]=_:=he
 refine dQ (T:=[]) (slots:=[0,1,2,7,8,9,10,11,12]) (outs:=[0,1,2,7,8,9,10,11,12]) (hn:=fun _=>0) (.nil _ _) (.nil _ _ _ _ _) he rfl (Gy w b l ids sz ex r i (fun ex' vs H'=>Q ex' (av [0,1,2,7,8,9,10,11,12] vs) H') ?_)
 simp only[ay,List.length_map]
 have tail:∀ z:Bool,z=(sz || bV r)→Q .normal (av [0,1,2,7,8,9,10,11,12] [.list (w.map mtc) .no,.list (b.map rrc) .no,.list (l.map rrc) .no,.list [] .exact,.bool ids,.bool z,.bool ex,.int .i64 i,.ptr 0 0]) [.cells (rrc r)]:=by rintro z rfl; exact hQ
 unfold bV at tail
 have l3:(decide ((r.pl.length:Int)>4)=true)↔r.pl.length>4:=by rw[decide_eq_true_eq]; omega
 by_cases h1:(r.tm != 1)=true
 ·rw[if_pos (by rw[h1]; rfl)]
  by_cases h2:(r.tm != 2)=false
  ·rw[if_pos (by rw[h2]; rfl)]
   by_cases h3:r.pl.length<1
   ·rw[if_neg (by simp; omega)]; exact tail _ (by rw[decide_eq_true h3]; simp)
   ·rw[if_pos (by simp; omega)]
    by_cases h4:r.pl.length>4
    ·rw[if_pos (l3.2 h4)]; exact tail _ (by rw[decide_eq_true h4]; simp)
    ·rw[if_neg (fun e=>h4 (l3.1 e))]; exact tail _ (by rw[h1,h2,decide_eq_false h3,decide_eq_false h4]; simp)
  ·rw[if_neg (by simpa using h2)]; exact tail _ (by rw[h1,bnf h2]; simp)
 ·rw[if_neg (by simpa using h1)]
  have h1':(r.tm != 1)=false:=by simpa using h1
  by_cases h3:r.pl.length<1
  ·rw[if_neg (by simp; omega)]; exact tail _ (by rw[decide_eq_true h3]; simp)
  ·rw[if_pos (by simp; omega)]
   by_cases h4:r.pl.length>4
   ·rw[if_pos (l3.2 h4)]; exact tail _ (by rw[decide_eq_true h4]; simp)
   ·rw[if_neg (fun e=>h4 (l3.1 e))]; exact tail _ (by rw[h1',decide_eq_false h3,decide_eq_false h4]; simp)
theorem D9:cw [1,0,0,1,0] (an [1,1,1,0,1,0] (ai Tryd.f34))=cw [1,1,1,0,1,0,0,1,0,0,1,0] (ai Tryd.f34):=by kernel_rfl
theorem tX:∀ e H Q,qC e H Q→AW Tryd.prog gl Tryd.f34.ntmps (cw [1,0,0,1,0] (an [1,1,1,0,1,0] (ai Tryd.f34))) Q e H:=by
 rw[D9]; exact xy
def qt:LSp:=fun e H Q=>∃(w:List Mt) (b l:List Rr) (r:Rr) (ids sz ex:Bool) (ps:List Int) (i:Nat),r.pl.length≤1000000∧ak (List.map e [0,1,2,7,8,9,10,11,12]) [.list (w.map mtc) .no,.list (b.map rrc) .no,.list (l.map rrc) .no,.list (ps.map u1) (.tok 0),.bool ids,.bool sz,.bool ex,.int .i64 i,.ptr 1 0]∧az H [.tok,.cells (rrc r)]∧Q .normal (av [0,1,2,7,8,9,10,11,12] [.list (w.map mtc) .no,.list (b.map rrc) .no,.list (l.map rrc) .no,.list (ps.map u1) (.tok 0),.bool ids,.bool (sz || bV r),.bool ex,.int .i64 i,.ptr 1 0]) [.tok,.cells (rrc r)]
theorem yo:∀ e H Q,qt e H Q→AW Tryd.prog gl Tryd.f34.ntmps (cw [1,1,1,0,1,0,0,1,0,0,1,0] (ai Tryd.f34)) Q e H:=by
 rintro e H Q ⟨w,b,l,r,ids,sz,ex,ps,i,hrl,he,hH,hQ⟩
 have hH:H=_:=hH
 subst hH
 have he:List.map e [0,1,2,7,8,9,10,11,12]=_:=he
 refine dQ (T:=[]) (slots:=[0,1,2,7,8,9,10,11,12]) (outs:=[0,1,2,7,8,9,10,11,12]) (hn:=fun _=>0) (.nil _ _) (.nil _ _ _ _ _) he rfl (Gg w b l ids sz ex ps r i (fun ex' vs H'=>Q ex' (av [0,1,2,7,8,9,10,11,12] vs) H') ?_)
 simp only[ay,List.length_map]
 have tail:∀ z:Bool,z=(sz || bV r)→Q .normal (av [0,1,2,7,8,9,10,11,12] [.list (w.map mtc) .no,.list (b.map rrc) .no,.list (l.map rrc) .no,.list (ps.map u1) (.tok 0),.bool ids,.bool z,.bool ex,.int .i64 i,.ptr 1 0]) [.tok,.cells (rrc r)]:=by rintro z rfl; exact hQ
 unfold bV at tail
 have l3:(decide ((r.pl.length:Int)>4)=true)↔r.pl.length>4:=by rw[decide_eq_true_eq]; omega
 by_cases h1:(r.tm != 1)=true
 ·rw[if_pos (by rw[h1]; rfl)]
  by_cases h2:(r.tm != 2)=false
  ·rw[if_pos (by rw[h2]; rfl)]
   by_cases h3:r.pl.length<1
   ·rw[if_neg (by simp; omega)]; exact tail _ (by rw[decide_eq_true h3]; simp)
   ·rw[if_pos (by simp; omega)]
    by_cases h4:r.pl.length>4
    ·rw[if_pos (l3.2 h4)]; exact tail _ (by rw[decide_eq_true h4]; simp)
    ·rw[if_neg (fun e=>h4 (l3.1 e))]; exact tail _ (by rw[h1,h2,decide_eq_false h3,decide_eq_false h4]; simp)
  ·rw[if_neg (by simpa using h2)]; exact tail _ (by rw[h1,bnf h2]; simp)
 ·rw[if_neg (by simpa using h1)]
  have h1':(r.tm != 1)=false:=by simpa using h1
  by_cases h3:r.pl.length<1
  ·rw[if_neg (by simp; omega)]; exact tail _ (by rw[decide_eq_true h3]; simp)
  ·rw[if_pos (by simp; omega)]
   by_cases h4:r.pl.length>4
   ·rw[if_pos (l3.2 h4)]; exact tail _ (by rw[decide_eq_true h4]; simp)
   ·rw[if_neg (fun e=>h4 (l3.1 e))]; exact tail _ (by rw[h1',decide_eq_false h3,decide_eq_false h4]; simp)
theorem Bb:cw [1,0,0,1,0] (an [1,1,1,0,1,0] (ai Tryd.f34))=cw [1,1,1,0,1,0,0,1,0,0,1,0] (ai Tryd.f34):=by kernel_rfl
theorem uq:∀ e H Q,qt e H Q→AW Tryd.prog gl Tryd.f34.ntmps (cw [1,0,0,1,0] (an [1,1,1,0,1,0] (ai Tryd.f34))) Q e H:=by
 rw[Bb]; exact yo
theorem vT (w:List Mt) (b l:List Rr) (ids sz ex:Bool) (i:Nat):(by refine(?_:_→_→_→Prop) (List.getD (l.map rrc) (Int.toNat (i:Int)) []) (PV.list (b.map rrc) .no) (PV.list (l.map rrc) .no); exact fun n q t=>by refine(?_:_→Prop) [PV.list (w.map mtc) .no,q,t,.list [] .exact,.bool ids,.bool sz,.bool ex,.int .i64 i]; exact fun o=>∀(R:Ex→List PV→ae→Prop),(br (decide ((i:Int)<(↑(List.length (l.map rrc)):Int))) (InL (l.map rrc) 4 (i:Int)∧br (true && aP [.int .i64,.list,.int .i64,.int .i64] 0 n) (∃(w_1:List Mt) (b_1:List Rr) (l_1:List Rr) (r:Rr) (ids_1:Bool) (sz_1:Bool) (ex_1:Bool) (i_1:Nat),by refine(?_:_→_→_→_→Prop) [Ob.cells [.int .i64 r.tm,.list (r.pl.map u1) .no,.int .i64 r.rt,.int .i64 r.wd]] (PV.list (w_1.map mtc) .no) (PV.list (b_1.map rrc) .no) (PV.list (l_1.map rrc) .no); exact fun h j k m=>r.pl.length≤1000000∧ak [.list (w.map mtc) .no,q,t,.list [] .exact,.bool ids,.bool sz,.bool ex,.int .i64 i,.ptr 0 0] [j,k,m,.list [] .exact,.bool ids_1,.bool sz_1,.bool ex_1,.int .i64 i_1,.ptr 0 0]∧az [.cells [.int .i64 (cI n 0),.list (cL n 1) (cT n 1),.int .i64 (cI n 2),.int .i64 (cI n 3)]] h∧∃(w:List Mt) (b:List Rr) (l:List Rr) (r_1:Rr) (s:WS) (sz:Bool) (i:Nat),by refine(?_:_→_→_→_→_→Prop) (Ob.cells [.int .i64 r_1.tm,.list (r_1.pl.map u1) .no,.int .i64 r_1.rt,.int .i64 r_1.wd]) (PV.list (w.map mtc) .no) (PV.list (b.map rrc) .no) (PV.list (l.map rrc) .no) (PV.int .i64 (wI ((i:Int)+1))); exact fun a c d f g=>SmM w∧(∀(p:Int),p∈r_1.pl→0≤p)∧r_1.pl.length≤1000000∧s.ps.length+r_1.pl.length≤1000000∧s.ps=[]∧ak [j,k,m,.list [] .exact,.bool ids_1,.bool (sz_1 || bV r),.bool ex_1,.int .i64 i_1,.ptr 0 0,.int .i64 0] [c,d,f,.list [] .exact,.bool s.ids,.bool sz,.bool s.ex,.int .i64 i,.ptr 0 0,.int .i64 0]∧az h [a]∧(r_1.pl=[]→R .normal [c,d,f,.list [] .exact,.bool s.ids,.bool sz,.bool s.ex,g] [a])∧(r_1.pl≠[]→R .normal [c,d,f,.list (List.map u1 (WS.ps (wsP w s r_1.pl))) (.tok 1),.bool (WS.ids (wsP w s r_1.pl)),.bool sz,.bool (WS.ex (wsP w s r_1.pl)),g] [a,.tok])) False) (R (.exit 0) o []))→Holds (wpc br Tryd.prog gl TWF [([1,0,0,1,1,1,0],qv),([1,0,0,1,0],qC)] (fun _=>0) (an [1,1,1,0,1,0] (ai Tryd.f34)) [] (av [0,1,2,7,8,9,10,11] o) [] (fun ex e H=>R ex (List.map e [0,1,2,7,8,9,10,11]) H)):Prop):=fun R h=>ag (by kernel_rfl) h
theorem xd (w:List Mt) (b l:List Rr) (ids sz ex:Bool) (ps:List Int) (i:Nat):(by refine(?_:_→_→_→_→Prop) (List.getD (l.map rrc) (Int.toNat (i:Int)) []) (PV.list (ps.map u1) (.tok 0)) (PV.list (b.map rrc) .no) (PV.list (l.map rrc) .no); exact fun q u v x=>by refine(?_:_→Prop) [PV.list (w.map mtc) .no,v,x,u,.bool ids,.bool sz,.bool ex,.int .i64 i]; exact fun t=>∀(R:Ex→List PV→ae→Prop),(br (decide ((i:Int)<(↑(List.length (l.map rrc)):Int))) (InL (l.map rrc) 4 (i:Int)∧br (true && aP [.int .i64,.list,.int .i64,.int .i64] 0 q) (∃(w_1:List Mt) (b_1:List Rr) (l_1:List Rr) (r:Rr) (ids_1:Bool) (sz_1:Bool) (ex_1:Bool) (ps_1:List Int) (i_1:Nat),by refine(?_:_→_→_→_→_→Prop) (Ob.cells [.int .i64 r.tm,.list (r.pl.map u1) .no,.int .i64 r.rt,.int .i64 r.wd]) (PV.list (ps_1.map u1) (.tok 0)) (PV.list (w_1.map mtc) .no) (PV.list (b_1.map rrc) .no) (PV.list (l_1.map rrc) .no); exact fun j k m n o=>r.pl.length≤1000000∧ak [.list (w.map mtc) .no,v,x,u,.bool ids,.bool sz,.bool ex,.int .i64 i,.ptr 1 0] [m,n,o,k,.bool ids_1,.bool sz_1,.bool ex_1,.int .i64 i_1,.ptr 1 0]∧az [.tok,.cells [.int .i64 (cI q 0),.list (cL q 1) (cT q 1),.int .i64 (cI q 2),.int .i64 (cI q 3)]] [.tok,j]∧∃(w:List Mt) (b:List Rr) (l:List Rr) (r_1:Rr) (s:WS) (sz:Bool) (i:Nat),by refine(?_:_→_→_→_→_→_→Prop) (Ob.cells [.int .i64 r_1.tm,.list (r_1.pl.map u1) .no,.int .i64 r_1.rt,.int .i64 r_1.wd]) (PV.list (w.map mtc) .no) (PV.list (b.map rrc) .no) (PV.list (l.map rrc) .no) (PV.int .i64 (wI ((i:Int)+1))) (PV.list (s.ps.map u1) (.tok 0)); exact fun a c d f g h=>SmM w∧(∀(p:Int),p∈r_1.pl→0≤p)∧r_1.pl.length≤1000000∧s.ps.length+r_1.pl.length≤1000000∧ak [m,n,o,k,.bool ids_1,.bool (sz_1 || bV r),.bool ex_1,.int .i64 i_1,.ptr 1 0,.int .i64 0] [c,d,f,h,.bool s.ids,.bool sz,.bool s.ex,.int .i64 i,.ptr 1 0,.int .i64 0]∧az [.tok,j] [.tok,a]∧(r_1.pl=[]→R .normal [c,d,f,h,.bool s.ids,.bool sz,.bool s.ex,g] [.tok,a])∧(r_1.pl≠[]→R .normal [c,d,f,.list (List.map u1 (WS.ps (wsP w s r_1.pl))) (.tok 2),.bool (WS.ids (wsP w s r_1.pl)),.bool sz,.bool (WS.ex (wsP w s r_1.pl)),g] [.dead,a,.tok])) False) (R (.exit 0) t [.tok]))→Holds (wpc br Tryd.prog gl TWF [([1,0,0,1,1,1,0],qM),([1,0,0,1,0],qt)] (fun _=>0) (an [1,1,1,0,1,0] (ai Tryd.f34)) [] (av [0,1,2,7,8,9,10,11] t) [.tok] (fun ex e H=>R ex (List.map e [0,1,2,7,8,9,10,11]) H)):Prop):=fun R h=>ag (by kernel_rfl) h
theorem jk {ρ:Nat→Nat} {n:Nat} {w:List Mt} {b l:List Rr} {ids sz ex:Bool} {z:Int} {T T':PV} (hT:Ren ρ n T T'):aW ρ n [.list (w.map mtc) .no,.list (b.map rrc) .no,.list (l.map rrc) .no,T,.bool ids,.bool sz,.bool ex,.int .i64 z] [.list (w.map mtc) .no,.list (b.map rrc) .no,.list (l.map rrc) .no,T',.bool ids,.bool sz,.bool ex,.int .i64 z]:=by
 exact .cons (.low (bY _)) (.cons (.low (aQ _)) (.cons (.low (aQ _)) (.cons hT (.cons (.low (.bool _)) (.cons (.low (.bool _)) (.cons (.low (.bool _)) (.cons (.low (.int _ _)) .nil)))))))
theorem Km:LOk Tryd.prog gl Tryd.f34.ntmps (an [1,1,1,0,1,0] (ai Tryd.f34)) [] [([1,0,0,1,1,1,0],qv),([1,0,0,1,0],qC)]:=(.cons (aH (by kernel_rfl)) uG (.cons (jz (by kernel_rfl)) tX (.nil _ _ _ _ _)))
theorem Ks:LOk Tryd.prog gl Tryd.f34.ntmps (an [1,1,1,0,1,0] (ai Tryd.f34)) [] [([1,0,0,1,1,1,0],qM),([1,0,0,1,0],qt)]:=(.cons (aH (by kernel_rfl)) u6 (.cons (jz (by kernel_rfl)) uq (.nil _ _ _ _ _)))
def HI:LSp:=fun e H Q=>∃(w:List Mt) (b l:List Rr) (sz:Bool),SmM w∧(∀ r∈l,∀ p∈r.pl,0≤p)∧l.length≤1000000∧tot l≤1000000∧ak (List.map e [0,1,2,7,8,9,10,11]) [.list (w.map mtc) .no,.list (b.map rrc) .no,.list (l.map rrc) .no,.list [] .exact,.bool false,.bool sz,.bool false,.int .i64 0]∧az H []∧Q (.exit 0) (av [0,1,2,7,8,9,10,11] [.list (w.map mtc) .no,.list (b.map rrc) .no,.list (l.map rrc) .no,.any,.bool (wsR w ws0 l).ids,.bool (sz || l.any bV),.bool (wsR w ws0 l).ex,.int .i64 l.length]) []
set_option maxRecDepth 10000 in
theorem CN:∀ e H Q,HI e H Q→AW Tryd.prog gl Tryd.f34.ntmps (.loop (an [1,1,1,0,1,0] (ai Tryd.f34))) Q e H:=by
 rintro e H Q ⟨w,b,l,sz,sw,h0p,hl,ht,he,hH,hQ⟩
 have hH:H=_:=hH
 have he:List.map e [0,1,2,7,8,9,10,11]=_:=he
 have hHl:H.length=0:=by rw[hH]; rfl
 have hpl:∀ r∈l,r.pl.length≤1000000:=fun r hr=>Nat.le_trans (u4 hr) ht
 refine sW (σ:=Nat) aq [0,1,2,7,8,9,10,11] (fun i=>i≤l.length) (fun i=>if(wsR w ws0 (l.take i)).ps=[] then [.list (w.map mtc) .no,.list (b.map rrc) .no,.list (l.map rrc) .no,.list [] .exact,.bool (wsR w ws0 (l.take i)).ids,.bool (sz || (l.take i).any bV),.bool (wsR w ws0 (l.take i)).ex,.int .i64 i] else [.list (w.map mtc) .no,.list (b.map rrc) .no,.list (l.map rrc) .no,.list ((wsR w ws0 (l.take i)).ps.map u1) (.tok 0),.bool (wsR w ws0 (l.take i)).ids,.bool (sz || (l.take i).any bV),.bool (wsR w ws0 (l.take i)).ex,.int .i64 i]) (fun i=>if(wsR w ws0 (l.take i)).ps=[] then [] else [.tok]) (fun i=>l.length-i) 0 (Nat.zero_le _) (by rw[he,List.take_zero,if_pos (show(wsR w ws0 []).ps=[] from rfl)]; simp[wsR,ws0]) (by rw[hH,List.take_zero,if_pos (show(wsR w ws0 []).ps=[] from rfl)]) ?_
 rw[hHl]
 intro i hi
 have hi:i≤l.length:=hi
 by_cases h:i<l.length
 ·obtain⟨r,hr⟩:∃ r,r=l.getD i default:=⟨_,rfl⟩
  have hsucc:=sX w ws0 h
  have hany:=sP h
  rw[← hr] at hsucc hany
  have hrl:r.pl.length≤1000000:=hpl r (by rw[hr]; exact bj h)
  have hsl:(wsR w ws0 (l.take i)).ps.length+r.pl.length≤1000000:=by
   have h1:=qH w (l.take (i+1)) ws0
   have h2:=fC (l:=l) (i+1)
   rw[hsucc,eC,List.length_append] at h1
   have:ws0.ps.length=0:=rfl
   omega
  have inl:InL (l.map rrc) 4 (i:Int):=by rw[dF]; exact h
  have hps:=eC w r.pl (wsR w ws0 (l.take i))
  have tailE:r.pl=[]→wsP w (wsR w ws0 (l.take i)) r.pl=wsR w ws0 (l.take i):=fun e=>by rw[e]; rfl
  have hor:(sz || (l.take (i+1)).any bV)=((sz || (l.take i).any bV) || bV r):=by rw[hany,Bool.or_assoc]
  by_cases h0:(wsR w ws0 (l.take i)).ps=[]
  ·simp only[if_pos h0]
   refine aY (hn:=fun _=>0) jL (an [1,1,1,0,1,0] (ai Tryd.f34)) [] Km _ _ _ (vT w b l (wsR w ws0 (l.take i)).ids (sz || (l.take i).any bV) (wsR w ws0 (l.take i)).ex i _ ?_).out
   simp only[ay,dt,au,List.length_map,getD_map default h,← hr]
   rw[if_pos (by omega)]
   refine⟨inl,?_⟩
   rw[if_pos (by rfl)]
   refine⟨w,b,l,r,_,_,_,i,hrl,rfl,rfl,w,b,l,r,wsR w ws0 (l.take i),(sz || (l.take i).any bV || bV r),i,sw,h0p r (by rw[hr]; exact bj h),hrl,hsl,h0,rfl,rfl,fun hn=>?_,fun hn=>?_⟩
   ·have e2:(wsR w ws0 (l.take (i+1))).ps=[]:=by rw[hsucc,tailE hn]; exact h0
    refine⟨i+1,(show l.length-(i+1)<l.length-i by omega),h,?_⟩
    simp only[if_pos e2]
    rw[hor,hsucc,tailE hn,ax h (by omega)]
    exact aS [] (WkL.refl _) .nil (by decide) (by simp) (fun o ho=>absurd ho (Nat.not_lt_zero _)) (jk (.low (aI NT.exact (by simp))))
   ·have e2:(wsR w ws0 (l.take (i+1))).ps≠[]:=by rw[hsucc,hps,h0]; simpa using hn
    refine⟨i+1,(show l.length-(i+1)<l.length-i by omega),h,?_⟩
    simp only[if_neg e2]
    rw[hor,hsucc,ax h (by omega)]
    exact aS [1] (WkL.refl _) (.cons rfl .tok .nil) (by decide) (by simp) (fun o ho=>absurd ho (Nat.not_lt_zero _)) (jk (.ltok (ρ:=fun o=>[1].getD o 0) _ 0 (by simp) (bh fun a _=>bU a)))
  ·simp only[if_neg h0]
   refine aY (hn:=fun _=>0) jL (an [1,1,1,0,1,0] (ai Tryd.f34)) [] Ks _ _ _ (xd w b l (wsR w ws0 (l.take i)).ids (sz || (l.take i).any bV) (wsR w ws0 (l.take i)).ex (wsR w ws0 (l.take i)).ps i _ ?_).out
   simp only[ay,dt,au,List.length_map,getD_map default h,← hr]
   rw[if_pos (by omega)]
   refine⟨inl,?_⟩
   rw[if_pos (by rfl)]
   refine⟨w,b,l,r,_,_,_,_,i,hrl,rfl,rfl,w,b,l,r,wsR w ws0 (l.take i),(sz || (l.take i).any bV || bV r),i,sw,h0p r (by rw[hr]; exact bj h),hrl,hsl,rfl,rfl,fun hn=>?_,fun hn=>?_⟩
   ·have e2:(wsR w ws0 (l.take (i+1))).ps≠[]:=by rw[hsucc,tailE hn]; exact h0
    refine⟨i+1,(show l.length-(i+1)<l.length-i by omega),h,?_⟩
    simp only[if_neg e2]
    rw[hor,hsucc,tailE hn,ax h (by omega)]
    exact aS [0] (WkL.refl _) (.cons rfl .tok .nil) (by decide) (by simp) (fun o ho=>absurd ho (Nat.not_lt_zero _)) (jk (.ltok (ρ:=fun o=>[0].getD o 0) _ 0 (by simp) (bh fun a _=>bU a)))
   ·have e2:(wsR w ws0 (l.take (i+1))).ps≠[]:=by rw[hsucc,hps]; exact fun e=>h0 (List.append_eq_nil_iff.1 e).1
    refine⟨i+1,(show l.length-(i+1)<l.length-i by omega),h,?_⟩
    simp only[if_neg e2]
    rw[hor,hsucc,ax h (by omega)]
    exact aS [2] (WkL.refl _) (.cons rfl .tok .nil) (by decide) (by simp) (fun o ho=>absurd ho (Nat.not_lt_zero _)) (jk (.ltok (ρ:=fun o=>[2].getD o 0) _ 0 (by simp) (bh fun a _=>bU a)))
 ·have hil:i=l.length:=by omega
  subst hil
  have wk:∀(x:PV) (ids sz ex:Bool),WkL [.list (w.map mtc) .no,.list (b.map rrc) .no,.list (l.map rrc) .no,x,.bool ids,.bool sz,.bool ex,.int .i64 l.length] [.list (w.map mtc) .no,.list (b.map rrc) .no,.list (l.map rrc) .no,.any,.bool ids,.bool sz,.bool ex,.int .i64 l.length]:=fun x ids sz ex=> .cons (.refl _) (.cons (.refl _) (.cons (.refl _) (.cons (fun _ _ v _=> .any v) (.cons (.refl _) (.cons (.refl _) (.cons (.refl _) (.cons (.refl _) .nil)))))))
  by_cases h0:(wsR w ws0 (l.take l.length)).ps=[]
  ·simp only[if_pos h0]
   refine aY (hn:=fun _=>0) jL (an [1,1,1,0,1,0] (ai Tryd.f34)) [] Km _ _ _ (vT w b l _ _ _ l.length _ ?_).out
   simp only[ay,dt,List.length_map]
   rw[if_neg (by omega)]
   refine⟨_,_,aS [] (wk _ _ _ _) .nil (by decide) (by simp) (fun o ho=>absurd ho (Nat.not_lt_zero _)) (jk (.low .any)),?_⟩
   rw[List.take_length]
   exact hQ
  ·simp only[if_neg h0]
   refine aY (hn:=fun _=>0) jL (an [1,1,1,0,1,0] (ai Tryd.f34)) [] Ks _ _ _ (xd w b l _ _ _ _ l.length _ ?_).out
   simp only[ay,dt,List.length_map]
   rw[if_neg (by omega)]
   refine⟨_,_,aS [] (wk _ _ _ _) .nil (by decide) (by simp) (fun o ho=>absurd ho (Nat.not_lt_zero _)) (jk (.low .any)),?_⟩
   rw[List.take_length]
   exact hQ
end Go.Proofs.YtenaelaapdhbdaaDoor
