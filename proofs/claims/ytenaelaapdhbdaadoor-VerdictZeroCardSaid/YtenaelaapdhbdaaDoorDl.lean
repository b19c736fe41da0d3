/-
  Match.
-/
import Derived.Test.YtenaelaapdhbdaaDoorDk
import Derived.Test.YtenaelaapdhbdaaDoorProg
namespace Go.Proofs.YtenaelaapdhbdaaDoor
open Go Go.AM Go.Proofs
def iy (c:Mt) (p:Int):Se:=if inM c p=true then c.aa.getD (c.aa.findIdx (isP p)) default else default
theorem GR {n:Nat} (s:Se) (b:Bool):Low n (.tup [.agg (stc s),.bool b]):= .tup _ (bF (.agg _ (cU s)) (.bool _))
theorem ID {c:Mt} {p:Int} (h:inM c p=true):c.aa.findIdx (isP p)<c.aa.length∧ixS c.aa p=(c.aa.findIdx (isP p):Int):=by
 unfold inM at h
 have h1:=List.any_eq_true.1 h
 have:c.aa.findIdx (isP p)<c.aa.length:=List.findIdx_lt_length_of_exists h1
 exact⟨this,by unfold ixS; rw[if_pos this]⟩
def uZ (args:List PV) (H:ae) (K:PV→ae→Prop):Prop:=∃ n:Int,ak args [.int .i64 n]∧K (.ptr (H.length+1) 0) (H++[.abs (rkM (ar []) (mxI 0 n)),.cells [.ptr H.length 0]])
theorem vg:aO Tryd.prog gl 13 (.heap uZ):=by
 rintro args H K ⟨n,he,hk⟩
 have he:args=_:=he
 subst he
 exact aM (tv aq cM (Ej n _ ⟨n,rfl,rfl,rfl⟩)) fun x H' e=>by obtain⟨rfl,rfl⟩:=e; exact hk
theorem JT (l:List Rr) (a b:Nat) (i:Nat):(by refine(?_:_→_→_→_→Prop) (List.getD (l.map rrc) (Int.toNat (i:Int)) []) (PV.list (l.map rrc) .no) (PV.int .i64 (wI ((i:Int)+1))) (PV.int .i64 l.length); exact fun c g h j=>by refine(?_:_→_→_→Prop) [Ob.cells [.int .i64 (cI c 0),.list (cL c 1) (cT c 1),.int .i64 (cI c 2),.int .i64 (cI c 3)]] [PV.int .i64 a,.int .i64 b,g,j,.int .i64 i] (↑(List.length (cL c 1)):Int); exact fun d f k=>∀(R:Ex→List PV→ae→Prop),(br (decide ((i:Int)<(l.length:Int))) (InL (l.map rrc) 4 (i:Int)∧br (true && aP [.int .i64,.list,.int .i64,.int .i64] 0 c) (br (cI c 0 == 1) (R .normal [.int .i64 (wI ((a:Int)+k)),.int .i64 b,g,j,h] d) (br (cI c 0 == 2) (R .normal [.int .i64 a,.int .i64 (wI ((b:Int)+k)),g,j,h] d) (R .normal [.int .i64 a,.int .i64 b,g,j,h] d))) False) (R (.exit 0) f []))→Holds (wpc br Tryd.prog gl [] [] (fun _=>0) (an [1,0,1,0] (ai Tryd.f57)) [] (av [2,3,6,7,8] f) [] (fun ex e H=>R ex (List.map e [2,3,6,7,8]) H)):Prop):=fun R h=>ag (by kernel_rfl) h
theorem jA {l:List Rr} {t:Int} {k:Nat} (h:k<l.length):taken (l.take (k+1)) t=taken (l.take k) t+if(l.getD k default).tm=t then(l.getD k default).pl.length else 0:=by
 unfold taken; rw[aZ default h,List.filter_append,List.map_append,List.sum_append]
 congr 1
 by_cases c:(l.getD k default).tm=t
 ·rw[if_pos c,List.filter_cons_of_pos (by simpa using c)]; simp
 ·rw[if_neg c,List.filter_cons_of_neg (by simpa using c)]; simp
theorem fX (l:List Rr) (t:Int):taken l t≤tot l:=by
 induction l with
 | nil=>exact Nat.le_refl _
 | cons r l ih=>
  unfold taken tot at *
  by_cases c:r.tm=t
  ·rw[List.filter_cons_of_pos (by simpa using c)]; simp only[List.map_cons,List.sum_cons]; omega
  ·rw[List.filter_cons_of_neg (by simpa using c)]; simp only[List.map_cons,List.sum_cons]; omega
def G8:LSp:=fun e H Q=>∃(l:List Rr),l.length≤1000000∧tot l≤1000000∧ak (List.map e [2,3,6,7,8]) [.int .i64 0,.int .i64 0,.list (l.map rrc) .no,.int .i64 l.length,.int .i64 0]∧az H []∧Q (.exit 0) (av [2,3,6,7,8] [.int .i64 (taken (l) 1),.int .i64 (taken (l) 2),.list (l.map rrc) .no,.int .i64 l.length,.int .i64 l.length]) []
theorem Cd:∀ e H Q,G8 e H Q→AW Tryd.prog gl Tryd.f57.ntmps (.loop (an [1,0,1,0] (ai Tryd.f57))) Q e H:=by
 rintro e H Q ⟨l,hl,ht,he,hH,hQ⟩
 refine fe (hn:=fun _=>0) aq (.nil _ _) (.nil _ _ _ _ _) (σ:=Nat) [2,3,6,7,8] (fun i=>i≤l.length) (fun i=>[.int .i64 (taken (l.take i) 1),.int .i64 (taken (l.take i) 2),.list (l.map rrc) .no,.int .i64 l.length,.int .i64 i]) (fun _=>[]) (fun i=>l.length-i) 0 (Nat.zero_le _) (by rw[he]; rfl) hH ?_
 intro i hi
 have hi:i≤l.length:=hi
 have hH:H=[]:=hH
 subst hH
 have lidv:∀(a b:Nat) (i:Nat),∀ v∈([.int .i64 a,.int .i64 b,.list (l.map rrc) .no,.int .i64 l.length,.int .i64 i]:List PV),Lid ([]:ae).length v:=by
  intro a b i v hv
  simp only[List.mem_cons,List.not_mem_nil,or_false] at hv
  rcases hv with rfl|rfl|rfl|rfl|rfl<;>first|exact .low (.int _ _)|exact .low (aQ _)
 have lid0:gQ ([]:ae).length []:=fun o cs h=>by simp at h
 refine JT l (taken (l.take i) 1) (taken (l.take i) 2) i _ ?_
 have h1:=fX (l.take i) 1
 have h2:=fX (l.take i) 2
 have h3:=fC (l:=l) i
 simp only[ay,dt,au,dF]
 by_cases h:i<l.length
 ·rw[if_pos (by omega)]
  have e1:=jA (t:=1) h
  have e2:=jA (t:=2) h
  have h4:=fC (l:=l) (i+1)
  have h5:=fX (l.take (i+1)) 1
  have h6:=fX (l.take (i+1)) 2
  obtain⟨r,hr⟩:∃ r,r=l.getD i default:=⟨_,rfl⟩
  simp only[getD_map default h,← hr]
  rw[← hr] at e1 e2
  have c0:cI (rrc r) 0=r.tm:=rfl
  have c1:cL (rrc r) 1=r.pl.map u1:=rfl
  simp only[c0,c1,List.length_map,beq_iff_eq]
  refine⟨h,?_⟩
  rw[if_pos (by rfl)]
  have fin:∀ a b:Nat,a=taken (l.take (i+1)) 1→b=taken (l.take (i+1)) 2→∃ s':Nat,l.length-s'<l.length-i∧s'≤l.length∧dV ([]:ae).length [.int .i64 a,.int .i64 b,.list (l.map rrc) .no,.int .i64 l.length,.int .i64 (wI ((i:Int)+1))] [.cells (rrc r)] [.int .i64 (taken (l.take s') 1),.int .i64 (taken (l.take s') 2),.list (l.map rrc) .no,.int .i64 l.length,.int .i64 s'] []:=by
   rintro a b rfl rfl
   refine⟨i+1,by omega,h,?_⟩
   rw[ax h (by omega)]
   exact ed (X:=[]) (G:=[_]) lid0 (lidv _ _ _) (Nat.le_refl _)
  by_cases k1:r.tm=1
  ·rw[if_pos k1]
   rw[if_pos k1] at e1
   rw[if_neg (by omega)] at e2
   have e3:wI ((taken (l.take i) 1:Int)+(r.pl.length:Int))=((taken (l.take i) 1+r.pl.length:Nat):Int):=by rw[a8 (by omega) (by omega)]; omega
   rw[e3]
   exact fin _ _ e1.symm e2.symm
  ·rw[if_neg k1]
   rw[if_neg k1] at e1
   by_cases k2:r.tm=2
   ·rw[if_pos k2]
    rw[if_pos k2] at e2
    have e3:wI ((taken (l.take i) 2:Int)+(r.pl.length:Int))=((taken (l.take i) 2+r.pl.length:Nat):Int):=by rw[a8 (by omega) (by omega)]; omega
    rw[e3]
    exact fin _ _ e1.symm e2.symm
   ·rw[if_neg k2]
    rw[if_neg k2] at e2
    exact fin _ _ e1.symm e2.symm
 ·rw[if_neg (by omega)]
  have:i=l.length:=by omega
  subst this
  rw[List.take_length]
  exact⟨_,_,ed (X:=[]) (G:=[]) lid0 (lidv _ _ _) (Nat.le_refl _),hQ⟩
theorem J6 (l:List Rr):∀(K:PV→Prop),(∃(l_1:List Rr),l_1.length≤1000000∧tot l_1≤1000000∧ak [.int .i64 0,.int .i64 0,.list (l.map rrc) .no,.int .i64 (↑(List.length (l.map rrc)):Int),.int .i64 0] [.int .i64 0,.int .i64 0,.list (l_1.map rrc) .no,.int .i64 l_1.length,.int .i64 0]∧az [] []∧K (.tup [.int .i64 (↑(taken l_1 1):Int),.int .i64 (↑(taken l_1 2):Int)]))→aj Tryd.prog gl 57 [.list (l.map rrc) .no] [] (fun x _=>K x):=fun K h=>ah (T:=[]) (L:=[([1,0,1,0],G8)]) (fun _=>0) Tryd.func57 (by kernel_rfl) (by kernel_rfl) (by kernel_rfl) (aB.nil _ _) (.cons (aH (by kernel_rfl)) Cd (.nil _ _ _ _ _)) (ag (by kernel_rfl) h)
def vP (args:List PV) (K:PV→Prop):Prop:=∃(l:List Rr) (tl:Tail),ak args [.list (l.map rrc) tl]∧l.length≤1000000∧tot l≤1000000∧K (.tup [.int .i64 (taken l 1),.int .i64 (taken l 2)])
theorem An:aO Tryd.prog gl 57 (.pure vP):=by
 rintro args K ⟨l,tl,he,h1,h2,hk⟩
 have he:args=_:=he
 subst he
 exact bH aq (.cons (.list _ _) .nil) (bw (aQ l)) (.tup _ (bF (.int _ _) (.int _ _))) (J6 l (fun x=>x = .tup [.int .i64 (taken l 1),.int .i64 (taken l 2)]) ⟨l,h1,h2,(by show _=_; rw[List.length_map]),rfl,rfl⟩) hk
theorem kr (H:ae) (n:Int)  (K:PV→ae→Prop) (h:br (decide (n<0)) False (br (decide (wI (n-0)>0)) ((iI 0≤0∧iI 0≤0∧iI 0≤0∧iI 0≤0∧uni 4 [])∧0<wI (n-0)∧Int.toNat (wI (n-0))*48≤140737488355328∧∀(c:Nat),Int.toNat (wI (n-0))≤c→(iI 0≤0∧iI 0≤0∧0≤(c:Int)∧(c:Int)≤(c:Int))∧K (.arr (List.length H) (if Int.toNat (c:Int)=0 then 0 else 0) 0 (Int.toNat (c:Int)-0)) (H++[.cells (List.flatten (List.replicate c [.int .i64 0,.list [] .exact,.int .i64 0,.int .i64 0]))])) (K (.list [] .exact) H))):aj Tryd.prog gl 81 [.list [] .exact,.int .i64 n] H K:=
 ah (T:=[]) (L:=[]) (fun o=>match o.dst with|some 22=>8|_=>0) Tryd.func81 (by kernel_rfl) (by kernel_rfl) (by kernel_rfl) (aB.nil _ _) (LOk.nil _ _ _ _ _) (ag (by kernel_rfl) h)
def mT (args:List PV) (H:ae) (K:PV→ae→Prop):Prop:=∃ n:Nat,ak args [.list [] .exact,.int .i64 n]∧n≤1000000∧(n=0→K (.list [] .exact) H)∧(0<n→∀(c:Nat) (J:List PV),n≤c→aJ J (c*4)→K (.arr H.length 0 0 c) (H++[.cells J]))
theorem oP:aO Tryd.prog gl 81 (.heap mT):=by
 rintro args H K ⟨n,he,hn,h0,h1⟩
 have he:args=_:=he
 subst he
 refine kr H n K ?_
 have e:wI ((n:Int)-0)=n:=by rw[a8 (by omega) (by omega)]; omega
 simp only[ay,dt,e,au]
 rw[if_neg (by omega)]
 by_cases c:n=0
 ·rw[if_neg (by omega)]; exact h0 c
 ·rw[if_pos (by omega)]
  refine⟨⟨by decide,by decide,by decide,by decide,fun _ h=>nomatch h⟩,by omega,by omega,fun k hk=>⟨⟨by decide,by decide,by omega,by omega⟩,?_⟩⟩
  rw[ite_self]
  exact h1 (by omega) k _ hk (gS k)
def lcs (l:List Rr):List PV:=[.list (l.map rrc) .no]
theorem kX (l:List Rr):(lcs l).length=1:=rfl
theorem iV {n:Nat} (l:List Rr):∀ y∈lcs l,Low n y:=bw (aQ l)
theorem ct (l:List (List Rr)) (i:Nat):InL (l.map lcs) 1 (i:Int)=(i<l.length):=cW kX (by decide) l i
def be (ls:List (List Rr)):Nat:=ls.flatten.length
theorem cJ {ls:List (List Rr)} {k:Nat} (h:k<ls.length):be (ls.take (k+1))=be (ls.take k)+(ls.getD k []).length:=by
 unfold be; rw[aZ [] h,List.flatten_append]; simp
theorem ck (ls:List (List Rr)) (k:Nat):be (ls.take k)≤be ls:=by
 unfold be
 conv=>rhs; rw[← List.take_append_drop k ls,List.flatten_append]
 rw[List.length_append]; omega
def TCG:Tab:=[(81,.heap mT)]
theorem o5:aB Tryd.prog gl TCG:= .cons oP (.nil _ _)
theorem oq (ls:List (List Rr)) (n i:Nat):(by refine(?_:_→_→_→Prop) (PV.list (ls.map lcs) .no) (List.getD (ls.map lcs) (Int.toNat (i:Int)) []) (PV.int .i64 ls.length); exact fun a b f=>by refine(?_:_→_→Prop) [a,.int .i64 n,a,f,.int .i64 i] ((n:Int)+(↑(List.length (cL b 0)):Int)); exact fun c d=>∀(R:Ex→List PV→ae→Prop),(br (decide ((i:Int)<(ls.length:Int))) (InL (ls.map lcs) 1 (i:Int)∧br (true && aP [.list] 0 b) (br (decide (wI d<0)) False (R .normal [a,.int .i64 (wI d),a,f,.int .i64 (wI ((i:Int)+1))] [])) False) (R (.exit 0) c []))→Holds (wpc br Tryd.prog gl [] [] (fun _=>0) (an [1,1,0,1,0] (ai Tryd.f58)) [] (av [0,3,9,10,11] c) [] (fun ex e H=>R ex (List.map e [0,3,9,10,11]) H)):Prop):=fun R h=>ag (by kernel_rfl) h
theorem kO (ls:List (List Rr)) (i:Nat):(by refine(?_:_→_→_→_→Prop) (List.getD (ls.map lcs) (Int.toNat (i:Int)) []) (PV.list (ls.map lcs) .no) (PV.int .i64 ls.length) (PV.int .i64 (wI ((i:Int)+1))); exact fun a c d f=>by refine(?_:_→Prop) [PV.list [] .exact,c,d,.int .i64 i]; exact fun b=>∀(R:Ex→List PV→ae→Prop),(br (decide ((i:Int)<(ls.length:Int))) (InL (ls.map lcs) 1 (i:Int)∧br (true && aP [.list] 0 a) (aX [] (cL a 0) 4 48∧List.all (List.flatten (cL a 0)) PV.one=true∧(cL a 0=[]→R .normal [.list [] .exact,c,d,f] [])∧(cL a 0≠[]→R .normal [.list ([]++cL a 0) (.tok 0),c,d,f] [.tok])) False) (R (.exit 2) b []))→Holds (wpc br Tryd.prog gl [] [] (fun o=>match o.dst with|some 33=>4|_=>0) (an [1,1,1,1,0,1,0] (ai Tryd.f58)) [] (av [6,25,26,27] b) [] (fun ex e H=>R ex (List.map e [6,25,26,27]) H)):Prop):=fun R h=>ag (by kernel_rfl) h
theorem kL (ls:List (List Rr)) (acc:List Rr) (J:List PV) (cap i:Nat):(by refine(?_:_→_→_→_→Prop) (List.getD (ls.map lcs) (Int.toNat (i:Int)) []) [Ob.cells (flR acc++J)] (PV.list (ls.map lcs) .no) (PV.int .i64 ls.length); exact fun a f g h=>by refine(?_:_→_→_→Prop) [PV.arr 0 0 acc.length cap,g,h,.int .i64 i] (List.flatten (cL a 0)) (acc.length+List.length (cL a 0)); exact fun b c d=>∀(R:Ex→List PV→ae→Prop),(br (decide ((i:Int)<(ls.length:Int))) (InL (ls.map lcs) 1 (i:Int)∧br (true && aP [.list] 0 a) ((acc.length≤cap∧0+cap*4≤List.length (flR acc++J)∧List.length c=List.length (cL a 0)*4∧List.all c PV.one=true∧d*48≤140737488355328)∧acc.length+List.length (cL a 0)≤cap∧R .normal [.arr 0 0 d cap,g,h,.int .i64 (wI ((i:Int)+1))] [.cells (over (flR acc++J) (0+acc.length*4) c)]) False) (R (.exit 2) b f))→Holds (wpc br Tryd.prog gl [] [] (fun o=>match o.dst with|some 33=>3|_=>0) (an [1,1,1,1,0,1,0] (ai Tryd.f58)) [] (av [6,25,26,27] b) f (fun ex e H=>R ex (List.map e [6,25,26,27]) H)):Prop):=fun R h=>ag (by kernel_rfl) h
theorem kv (l k:List Rr):flR (l++k)=flR l++flR k:=by unfold flR; rw[List.map_append,List.flatten_append]
theorem iX {l:List Rr}:∀ y∈flR l,y.one=true:=by
 intro y hy
 obtain⟨c,h2,h3⟩:=List.mem_flatten.1 hy
 obtain⟨a,_,rfl⟩:=List.mem_map.1 h2
 exact rp a y h3
theorem gf {acc l:List Rr} {J:List PV}:over (flR acc++J) (acc.length*4) (flR l)=flR (acc++l)++J.drop (l.length*4):=by
 unfold over
 rw[List.take_left' (bJ acc),kv,List.append_assoc,List.append_assoc]
 congr 2
 rw[List.drop_append,bJ,bJ,List.drop_of_length_le (by rw[bJ]; omega),List.nil_append,show acc.length*4+l.length*4-acc.length*4=l.length*4 by omega]
def mC:LSp:=fun e H Q=>∃(ls:List (List Rr)),ls.length≤1000000∧be ls≤1000000∧ak (List.map e [0,3,9,10,11]) [.list (ls.map lcs) .no,.int .i64 0,.list (ls.map lcs) .no,.int .i64 ls.length,.int .i64 0]∧az H []∧Q (.exit 0) (av [0,3,9,10,11] [.list (ls.map lcs) .no,.int .i64 (be ls),.list (ls.map lcs) .no,.int .i64 ls.length,.int .i64 ls.length]) []
theorem iA:∀ e H Q,mC e H Q→AW Tryd.prog gl Tryd.f58.ntmps (.loop (an [1,1,0,1,0] (ai Tryd.f58))) Q e H:=by
 rintro e H Q ⟨ls,hl,hs,he,hH,hQ⟩
 refine aG (hn:=fun _=>0) aq (.nil _ _) (.nil _ _ _ _ _) (σ:=Nat) [0,3,9,10,11] (fun i=>i≤ls.length) (fun i=>[.list (ls.map lcs) .no,.int .i64 (be (ls.take i)),.list (ls.map lcs) .no,.int .i64 ls.length,.int .i64 i]) (fun _=>[]) (fun i=>ls.length-i) 0 (Nat.zero_le _) (by rw[he]; rfl) hH ?_
 intro i hi
 have hi:i≤ls.length:=hi
 refine oq ls (be (ls.take i)) i _ ?_
 have h3:=ck ls i
 simp only[ay,dt,au,ct]
 by_cases h:i<ls.length
 ·rw[if_pos (by omega)]
  have h4:=ck ls (i+1)
  have e1:=cJ h
  simp only[getD_map [] h]
  refine⟨h,?_⟩
  rw[if_pos (by rfl)]
  have c0:cL (lcs (ls.getD i [])) 0=(ls.getD i []).map rrc:=rfl
  have e2:wI ((be (ls.take i):Int)+(((ls.getD i []).map rrc).length:Int))=(be (ls.take (i+1)):Int):=by rw[List.length_map,a8 (by omega) (by omega)]; omega
  rw[c0,e2,if_neg (by omega)]
  exact⟨i+1,(show ls.length-(i+1)<ls.length-i by omega),h,by rw[ax h (by omega)],[],rfl,Nat.le_refl _,.inl rfl⟩
 ·rw[if_neg (by omega)]
  have:i=ls.length:=by omega
  subst this
  rw[List.take_length]
  exact hQ
def mB:LSp:=fun e H Q=>∃(ls:List (List Rr)),ls.length≤1000000∧be ls≤1000000∧
 ((be ls=0∧ak (List.map e [6,25,26,27]) [.list [] .exact,.list (ls.map lcs) .no,.int .i64 ls.length,.int .i64 0]∧az H []∧Q (.exit 2) (av [6,25,26,27] [.list [] .exact,.list (ls.map lcs) .no,.int .i64 ls.length,.int .i64 ls.length]) [])∨
  (∃(cap:Nat) (J:List PV),be ls≤cap∧aJ J (cap*4)∧ak (List.map e [6,25,26,27]) [.arr 0 0 0 cap,.list (ls.map lcs) .no,.int .i64 ls.length,.int .i64 0]∧az H [.cells J]∧∀ J',aJ J' ((cap-ls.flatten.length)*4)→Q (.exit 2) (av [6,25,26,27] [.arr 0 0 ls.flatten.length cap,.list (ls.map lcs) .no,.int .i64 ls.length,.int .i64 ls.length]) [.cells (flR ls.flatten++J')]))
theorem iC:∀ e H Q,mB e H Q→AW Tryd.prog gl Tryd.f58.ntmps (.loop (an [1,1,1,1,0,1,0] (ai Tryd.f58))) Q e H:=by
 rintro e H Q ⟨ls,hl,hs,(⟨h0,he,hH,hQ⟩|⟨cap,J,hc,hJ,he,hH,hQ⟩)⟩
 ·refine aG (hn:=fun o=>match o.dst with|some 33=>4|_=>0) aq (.nil _ _) (.nil _ _ _ _ _) (σ:=Nat) [6,25,26,27] (fun i=>i≤ls.length) (fun i=>[.list [] .exact,.list (ls.map lcs) .no,.int .i64 ls.length,.int .i64 i]) (fun _=>[]) (fun i=>ls.length-i) 0 (Nat.zero_le _) (by rw[he]; rfl) hH ?_
  intro i hi
  have hi:i≤ls.length:=hi
  refine kO ls i _ ?_
  simp only[ay,dt,au,ct]
  by_cases h:i<ls.length
  ·rw[if_pos (by omega)]
   have h4:=ck ls (i+1)
   have e1:=cJ h
   simp only[getD_map [] h]
   refine⟨h,?_⟩
   rw[if_pos (by rfl)]
   have c0:cL (lcs (ls.getD i [])) 0=(ls.getD i []).map rrc:=rfl
   have c1:ls.getD i []=[]:=List.length_eq_zero_iff.1 (by omega)
   rw[c0,c1]
   exact⟨⟨(fun _ h=>nomatch h),(fun _ h=>nomatch h),by decide⟩,rfl,fun _=>⟨i+1,(show ls.length-(i+1)<ls.length-i by omega),h,by rw[ax h (by omega)],[],rfl,Nat.le_refl _,.inl rfl⟩,fun h=>absurd rfl h⟩
  ·rw[if_neg (by omega)]
   have:i=ls.length:=by omega
   subst this
   exact hQ
 ·refine aG (hn:=fun o=>match o.dst with|some 33=>3|_=>0) aq (.nil _ _) (.nil _ _ _ _ _) (σ:=Nat) [6,25,26,27] (fun i=>i≤ls.length) (fun i=>[.arr 0 0 (ls.take i).flatten.length cap,.list (ls.map lcs) .no,.int .i64 ls.length,.int .i64 i]) (fun i=>[.cells (flR (ls.take i).flatten++J.drop ((ls.take i).flatten.length*4))]) (fun i=>ls.length-i) 0 (Nat.zero_le _) (by rw[he]; rfl) (by rw[show H=_ from hH]; simp[flR]) ?_
  intro i hi
  have hi:i≤ls.length:=hi
  refine kL ls (ls.take i).flatten (J.drop ((ls.take i).flatten.length*4)) cap i _ ?_
  simp only[ay,dt,au,ct]
  have h3:=ck ls i
  have hJl:=hJ.len
  have h5:(ls.take i).flatten.length≤cap:=Nat.le_trans h3 hc
  by_cases h:i<ls.length
  ·rw[if_pos (by omega)]
   have h4:=ck ls (i+1)
   have e1:=cJ h
   simp only[getD_map [] h]
   refine⟨h,?_⟩
   rw[if_pos (by rfl)]
   have c0:cL (lcs (ls.getD i [])) 0=(ls.getD i []).map rrc:=rfl
   obtain⟨l,hld⟩:∃ l,l=ls.getD i []:=⟨_,rfl⟩
   have e4:(ls.take (i+1)).flatten=(ls.take i).flatten++l:=by rw[aZ [] h,List.flatten_append,hld]; simp
   have e5:(ls.take (i+1)).flatten.length=(ls.take i).flatten.length+l.length:=by rw[e4,List.length_append]
   have e6:(ls.take (i+1)).flatten.length≤cap:=Nat.le_trans h4 hc
   have e7:be (ls.take (i+1))=(ls.take (i+1)).flatten.length:=rfl
   have e8:(J.drop ((ls.take i).flatten.length*4)).length=(cap-(ls.take i).flatten.length)*4:=by rw[List.length_drop,hJl]; omega
   have e9:(List.map rrc l).flatten.length=l.length*4:=bJ l
   rw[c0,← hld]
   simp only[List.length_map,e9]
   refine⟨⟨h5,?_,trivial,List.all_eq_true.2 iX,by omega⟩,by omega,i+1,(show ls.length-(i+1)<ls.length-i by omega),h,by(try dsimp only); rw[ax h (by omega),e5],[],?_,Nat.le_refl _,.inl rfl⟩
   ·rw[List.length_append,bJ,e8]; omega
   ·(try dsimp only)
    rw[Nat.zero_add,gf,e4,List.drop_drop,List.append_nil,List.length_append,Nat.add_mul]
  ·rw[if_neg (by omega)]
   have:i=ls.length:=by omega
   subst this
   rw[List.take_length]
   exact hQ _ (hJ.drop.cast (by omega))
theorem fH (ls:List (List Rr)):∀(K:PV→ae→Prop),(∃(ls_1:List (List Rr)),by refine(?_:_→_→Prop) (PV.list (ls_1.map lcs) .no) (PV.int .i64 (↑(List.length (ls_1.map lcs)):Int)); exact fun d e=>by refine(?_:_→Prop) [PV.list [] .exact,d,e,.int .i64 0]; exact fun b=>ls_1.length≤1000000∧be ls_1≤1000000∧ak [.list (ls.map lcs) .no,.int .i64 0,.list (ls.map lcs) .no,.int .i64 (↑(List.length (ls.map lcs)):Int),.int .i64 0] [d,.int .i64 0,d,.int .i64 ls_1.length,.int .i64 0]∧az [] []∧∃(n:Nat),ak [.list [] .exact,.int .i64 (↑(be ls_1):Int)] [.list [] .exact,.int .i64 n]∧n≤1000000∧(n=0→∃(ls:List (List Rr)),ls.length≤1000000∧be ls≤1000000∧(be ls=0∧ak b [.list [] .exact,.list (ls.map lcs) .no,.int .i64 ls.length,.int .i64 0]∧az [] []∧K (.list [] .exact) []∨∃(cap:Nat) (J:List PV),be ls≤cap∧aJ J (cap*4)∧ak b [.arr 0 0 0 cap,.list (ls.map lcs) .no,.int .i64 ls.length,.int .i64 0]∧az [] [.cells J]∧∀(J':List PV),aJ J' ((cap-ls.flatten.length)*4)→K (.arr 0 0 ls.flatten.length cap) [.cells (flR ls.flatten++J')]))∧(0<n→∀(c:Nat),by refine(?_:_→Prop) [PV.arr 0 0 0 c,d,e,.int .i64 0]; exact fun a=>∀(J:List PV),n≤c→aJ J (c*4)→∃(ls:List (List Rr)),ls.length≤1000000∧be ls≤1000000∧(be ls=0∧ak a [.list [] .exact,.list (ls.map lcs) .no,.int .i64 ls.length,.int .i64 0]∧az [.cells J] []∧K (.list [] .exact) []∨∃(cap:Nat) (J_1:List PV),be ls≤cap∧aJ J_1 (cap*4)∧ak a [.arr 0 0 0 cap,.list (ls.map lcs) .no,.int .i64 ls.length,.int .i64 0]∧az [.cells J] [.cells J_1]∧∀(J':List PV),aJ J' ((cap-ls.flatten.length)*4)→K (.arr 0 0 ls.flatten.length cap) [.cells (flR ls.flatten++J')])))→aj Tryd.prog gl 58 [.list (ls.map lcs) .no] [] K:=fun K h=>ah (T:=TCG) (L:=[([1,1,0,1,0],mC),([1,1,1,1,0,1,0],mB)]) (fun _=>0) Tryd.func58 (by kernel_rfl) (by kernel_rfl) (by kernel_rfl) (o5) (.cons (aH (by kernel_rfl)) iA (.cons (aH (by kernel_rfl)) iC (.nil _ _ _ _ _))) (ag (by kernel_rfl) h)
theorem rH (ls:List (List Rr)) (hl:ls.length≤1000000) (hs:be ls≤1000000):aj Tryd.prog gl 58 [.list (ls.map lcs) .no] [] (fun x _=>x = .list (ls.flatten.map rrc) .no):=by
 have e0:(List.map lcs ls).length=ls.length:=List.length_map _
 by_cases c:be ls=0
 ·refine bA (fH ls _ ⟨ls,hl,hs,(by show _=_; rw[e0]),rfl,be ls,rfl,hs,fun _=>⟨ls,hl,hs,.inl ⟨c,(by show _=_; rw[e0]),rfl,?_⟩⟩,fun h=>absurd c (by omega)⟩)
  have e:ls.flatten=[]:=List.length_eq_zero_iff.1 c
  rw[e]
  exact⟨_,.list _ _,rfl⟩
 ·refine bS (fH ls _ ⟨ls,hl,hs,(by show _=_; rw[e0]),rfl,be ls,rfl,hs,fun h=>absurd h c,fun h cap J hc hJ=>⟨ls,hl,hs,.inr ⟨cap,J,hc,hJ,(by show _=_; rw[e0]),rfl,fun J' hJ'=>?_⟩⟩⟩)
  refine⟨0,0,4,[],J',ls.flatten.map rrc,.list (ls.flatten.map rrc) .no,[.dead],rfl,rfl,b9 fb _,⟨rfl,fun i b hb=> .inl ?_⟩,?_,rfl⟩
  ·have k1:=(List.getElem?_eq_some_iff.1 hb).1
   simp at k1
   subst k1
   cases hb; rfl
  ·have:=Fz.arr (o:=0) (off:=0) (es:=ls.flatten.map rrc) cap (by rw[List.length_map]; exact hc)
   rw[List.length_map] at this
   exact this
def mv (args:List PV) (K:PV→Prop):Prop:=∃(a b:List Rr),ak args [.list [[.list (a.map rrc) .no],[.list (b.map rrc) .no]] .exact]∧a.length+b.length≤1000000∧K (.list ((a++b).map rrc) .no)
theorem o4:aO Tryd.prog gl 58 (.pure mv):=by
 rintro args K ⟨a,b,he,h,hk⟩
 have he:args=_:=he
 subst he
 have hf:[a,b].flatten=a++b:=by simp
 have hl:=rH [a,b] (by simp) (by unfold be; rw[hf,List.length_append]; exact h)
 rw[hf] at hl
 exact bH aq (.cons (.list _ _) .nil) (bw (bD iV [a,b])) (aQ _) hl hk
end Go.Proofs.YtenaelaapdhbdaaDoor
