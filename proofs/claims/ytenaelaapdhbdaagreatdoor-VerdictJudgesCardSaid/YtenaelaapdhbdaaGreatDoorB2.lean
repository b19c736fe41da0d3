/-
  What the program's and the document's functions do, over plain values, part 5.
-/
import Derived.Test.YtenaelaapdhbdaaGreatDoorB1
import Derived.Test.YtenaelaapdhbdaaGreatDoorProg
namespace Go.Proofs.YtenaelaapdhbdaaGreatDoor
open Go Go.AM Go.Proofs
def sP (args:List PV) (H:ae) (K:PV→Prop):Prop:=∃(q r:Nat) (w:List Mt) (m t:Int),ah args [.ptr q 0,.U t]∧cj H q r (rkM (aq w) m)∧MO w m∧K (.tup [(gM w t).pv,.bool (bC Mt.id w t)])
theorem r5:SpK 9 (.read sP):=by
 rintro args H K ⟨q,r,w,m,t,he,hb,ro,hk⟩
 have he:args=_:=he
 subst he
 refine⟨_,jB aj hb cN (so _ _) (F7 w m t _ ⟨1,aq w,m,t,rfl,rfl,ro.ok,?_⟩),hk⟩
 rw[ku ro.ok,ir ro.ok]
 exact⟨gM w t,.no,.no,rfl,ro.I2 t,rfl,_,rfl⟩
def seV (l:List Se) (cap b:Nat):PV:=if l=[] then .E else .arr b 0 l.length cap
def seG (l:List Se) (J:List PV):Ob:=if l=[] then .dead else .cells (flS l++J)
theorem ArS.of {o:Nat} {l:List Se} {y:PV} {g:Ob} (h:ArS o l y g):∃ cap J,y=seV l cap o∧g=seG l J∧∀ o',ArS o' l (seV l cap o') (seG l J):=by
 rcases h with⟨rfl,rfl,rfl⟩|⟨hn,cap,J,rfl,rfl,h1,h2⟩
 ·exact⟨0,[],rfl,rfl,fun o'=> .inl ⟨rfl,rfl,rfl⟩⟩
 ·refine⟨cap,J,by unfold seV; rw[if_neg hn],by unfold seG; rw[if_neg hn],fun o'=> .inr ⟨hn,cap,J,by unfold seV; rw[if_neg hn],by unfold seG; rw[if_neg hn],h1,h2⟩⟩
theorem Gw (l:List Se) (cap:Nat) {ρ:Nat→Nat} {n b b':Nat} (hb:b<n) (hρ:ρ b=b'):Ren ρ n (seV l cap b) (seV l cap b'):=by
 unfold seV
 split
 ·exact .low (aH NT.exact (by simp))
 ·rw[← hρ]; exact .arr _ _ _ _ hb
theorem DY {o:Nat} {l:List Se} {cap:Nat} {J:List PV} (h:ArS o l (seV l cap o) (seG l J)) {ρ:Nat→Nat} {n:Nat}:dA ρ n (seG l J) (seG l J):=eH h.mQ
def TTA:Tab:=TMM [(36,.heap Fg)]
theorem Kq:TbK TTA:=Fe (.cons Hg (.nil _ _))
theorem BG (w:List Mt) (m t:Int):∀(K:PV→ae→Prop),(∃(q:Nat) (l:List RwM) (most:Int) (t_1:Int),by refine(?_:_→Prop) [PV.U (Mt.id (bD l t_1)),.I (Mt.md (bD l t_1)),.U (Mt.ins (bD l t_1)),.list (List.map rrc (Mt.rows (bD l t_1))) .no,.list (List.map stc (Mt.aa (bD l t_1))) .no]; exact fun b=>ah [.ptr 1 0,.U t] [.ptr q 0,.U t_1]∧bR [.cells [.ptr 1 0],.abs (rkM (aq w) m),.cells [.U 0,.I 0,.U 0,.E,.E]] q (rkM l most)∧Ok l most∧∃(c:Mt) (t1:Tail) (t2:Tail),ah [.agg b] [.agg [.U c.id,.I c.md,.U c.ins,.list (c.rows.map rrc) t1,.list (c.aa.map stc) t2]]∧Mt.Sm c∧∀(y:PV),by refine(?_:_→Prop) [PV.U c.id,.I c.md,.U c.ins,.list (c.rows.map rrc) .exact,y]; exact fun a=>∀(g:Ob),ArS 4 c.aa y g→br (5 == 5 && List.all a PV.one && true && cQ 0 2 0 5) (K (.tup [.agg a,.bool (has l t_1)]) [.cells [.ptr 1 0],.abs (rkM (aq w) m),.cells a,.cells b,g]) False)→AcK 9 [.ptr 0 0,.U t] [.cells [.ptr 1 0],.abs (rkM (aq w) m)] K:=fun K h=>acW (T:=TTA) (L:=[]) (fun o=>match o.dst with|some 21=>1|_=>0) Tryz.func9 (Kq) (LOk.nil _ _ _ _ _) h
def LW (args:List PV) (H:ae) (K:PV→ae→Prop):Prop:=∃(q r:Nat) (w:List Mt) (m t:Int),ah args [.ptr q 0,.U t]∧cj H q r (rkM (aq w) m)∧MO w m∧
 ∀(y:PV) (g:Ob),ArS H.length (gM w t).aa y g→K (.tup [eg (gM w t) (.list ((gM w t).rows.map rrc) .exact) y,.bool (bC Mt.id w t)]) (H++[g])
theorem Ib:SpK 9 (.heap LW):=by
 rintro args H K ⟨q,r,w,m,t,he,hb,ro,hk⟩
 have he:args=_:=he
 subst he
 refine vN aj hb cN (BG w m t _ ⟨1,aq w,m,t,rfl,rfl,ro.ok,?_⟩)
 rw[ku ro.ok,ir ro.ok]
 refine⟨gM w t,.no,.no,rfl,ro.I2 t,fun y g hA=>?_⟩
 rw[au,if_pos (by simp only[List.all_cons,hA.one]; rfl)]
 obtain⟨cap,J,rfl,rfl,hA'⟩:=hA.of
 refine⟨1,fun b=> .tup [eg (gM w t) (.list ((gM w t).rows.map rrc) .exact) (seV (gM w t).aa cap b),.bool (bC Mt.id w t)],fun _=>[seG (gM w t).aa J],4,rkM (aq w) m,⟨fun _=>rfl,fun ρ n b b' hn hρ=>?_,fun ρ n b b' hn hρ k a hk=>?_⟩,rfl,by decide,rfl,rfl,fun k a hk=>?_,?_⟩
 ·exact Ren.MD (.cons (Ren.iM (.cons (.low (.int _ _)) (.cons (.low (.int _ _)) (.cons (.low (.int _ _)) (.cons (.low (mK bG _)) (.cons (Gw _ _ (by omega) (hρ 0 (by decide))) .nil)))))) (.cons (.low (.bool _)) .nil))
 ·have k1:=(List.getElem?_eq_some_iff.1 hk).1
  simp at k1
  subst k1
  cases hk
  exact⟨_,rfl,DY (hA' 0),fun h=>h⟩
 ·have k1:=(List.getElem?_eq_some_iff.1 hk).1
  simp at k1
  subst k1
  cases hk
  rfl
 ·rw[kQ hb.2]
  exact hk _ _ (hA' H.length)
theorem CJ (n:Int)  (K:PV→ae→Prop) (h:∃(n_1:Int),ah [.I n] [.I n_1]∧K (.ptr 1 0) [.abs (rkM [] (mxI 0 n_1)),.cells [.ptr 0 0]]):AcK 21 [.I n] [] K:=
 acW (T:=TT0) (L:=[]) (fun _=>0) Tryz.func21 (r9) (LOk.nil _ _ _ _ _) h
def iV (c:Mt) (p:Int):Se:=if inM c p=true then c.aa.getD (c.aa.findIdx (isP p)) default else default
theorem G3 {n:Nat} (s:Se) (b:Bool):Low n (.tup [.agg (stc s),.bool b]):= .tup _ (bn (.agg _ (c8 s)) (.bool _))
theorem Ma {c:Mt} {p:Int} (h:inM c p=true):c.aa.findIdx (isP p)<c.aa.length∧ixS c.aa p=(c.aa.findIdx (isP p):Int):=by
 unfold inM at h
 have h1:=List.any_eq_true.1 h
 have:c.aa.findIdx (isP p)<c.aa.length:=List.findIdx_lt_length_of_exists h1
 exact⟨this,by unfold ixS; rw[if_pos this]⟩
def vu (args:List PV) (H:ae) (K:PV→ae→Prop):Prop:=∃ n:Int,ah args [.I n]∧K (.ptr (H.length+1) 0) (H++[.abs (rkM (aq []) (mxI 0 n)),.cells [.ptr H.length 0]])
theorem xu:SpK 21 (.heap vu):=by
 rintro args H K ⟨n,he,hk⟩
 have he:args=_:=he
 subst he
 exact aL (vM aj cN (CJ n _ ⟨n,rfl,rfl,rfl⟩)) fun x H' e=>by obtain⟨rfl,rfl⟩:=e; exact hk
theorem Kc (l:List Rr) (a b:Nat) (i:Nat):(by refine(?_:_→_→_→_→Prop) (List.getD (l.map rrc) (Int.toNat (i:Int)) []) (PV.list (l.map rrc) .no) (PV.I (wI ((i:Int)+1))) (PV.I l.length); exact fun c g h j=>by refine(?_:_→_→_→Prop) [Ob.cells [.I (cI c 0),.list (cL c 1) (cT c 1),.I (cI c 2),.I (cI c 3)]] [PV.I a,.I b,g,j,.I i] (↑(List.length (cL c 1)):Int); exact fun d f k=>∀(R:Ex→List PV→ae→Prop),(br (decide ((i:Int)<(l.length:Int))) (InL (l.map rrc) 4 (i:Int)∧br (true && aE [.int .i64,.list,.int .i64,.int .i64] 0 c) (br (cI c 0 == 1) (R .normal [.I (wI ((a:Int)+k)),.I b,g,j,h] d) (br (cI c 0 == 2) (R .normal [.I a,.I (wI ((b:Int)+k)),g,j,h] d) (R .normal [.I a,.I b,g,j,h] d))) False) (R (.exit 0) f []))→Holds (wpK [] [] (fun _=>0) (ai [1,0,1,0] (ag Tryz.f88)) [] (ak [2,3,6,7,8] f) [] (fun ex e H=>R ex (List.map e [2,3,6,7,8]) H)):Prop):=fun R h=>hoE h
theorem kN {l:List Rr} {t:Int} {k:Nat} (h:k<l.length):taken (l.take (k+1)) t=taken (l.take k) t+if(l.getD k default).tm=t then(l.getD k default).pl.length else 0:=by
 unfold taken; rw[aI default h,List.filter_append,List.map_append,List.sum_append]
 congr 1
 by_cases c:(l.getD k default).tm=t
 ·rw[if_pos c,List.filter_cons_of_pos (by simpa using c)]; simp
 ·rw[if_neg c,List.filter_cons_of_neg (by simpa using c)]; simp
theorem gJ (l:List Rr) (t:Int):taken l t≤tot l:=by
 induction l with
 | nil=>exact Nat.le_refl _
 | cons r l ih=>
  unfold taken tot at *
  by_cases c:r.tm=t
  ·rw[List.filter_cons_of_pos (by simpa using c)]; simp only[List.map_cons,List.sum_cons]; omega
  ·rw[List.filter_cons_of_neg (by simpa using c)]; simp only[List.map_cons,List.sum_cons]; omega
def Jj:LSp:=fun e H Q=>∃(l:List Rr),l.length≤1000000∧tot l≤1000000∧ah (List.map e [2,3,6,7,8]) [.I 0,.I 0,.list (l.map rrc) .no,.I l.length,.I 0]∧av H []∧Q (.exit 0) (ak [2,3,6,7,8] [.I (taken (l) 1),.I (taken (l) 2),.list (l.map rrc) .no,.I l.length,.I l.length]) []
theorem B9:∀ e H Q,Jj e H Q→AwK Tryz.f88.ntmps (.loop (ai [1,0,1,0] (ag Tryz.f88))) Q e H:=by
 rintro e H Q ⟨l,hl,ht,he,hH,hQ⟩
 refine fB (hn:=fun _=>0) aj (.nil _ _) (.nil _ _ _ _ _) (σ:=Nat) [2,3,6,7,8] (fun i=>i≤l.length) (fun i=>[.I (taken (l.take i) 1),.I (taken (l.take i) 2),.list (l.map rrc) .no,.I l.length,.I i]) (fun _=>[]) (fun i=>l.length-i) 0 (Nat.zero_le _) (by rw[he]; rfl) hH ?_
 intro i hi
 have hi:i≤l.length:=hi
 have hH:H=[]:=hH
 subst hH
 have lidv:∀(a b:Nat) (i:Nat),∀ v∈([.I a,.I b,.list (l.map rrc) .no,.I l.length,.I i]:List PV),Lid ([]:ae).length v:=by
  intro a b i v hv
  simp only[List.mem_cons,List.not_mem_nil,or_false] at hv
  rcases hv with rfl|rfl|rfl|rfl|rfl<;>first|exact .low (.int _ _)|exact .low (aP _)
 have lid0:gD ([]:ae).length []:=fun o cs h=>by simp at h
 refine Kc l (taken (l.take i) 1) (taken (l.take i) 2) i _ ?_
 have h1:=gJ (l.take i) 1
 have h2:=gJ (l.take i) 2
 have h3:=fO (l:=l) i
 simp only[au,dt,an,dP]
 by_cases h:i<l.length
 ·rw[if_pos (by omega)]
  have e1:=kN (t:=1) h
  have e2:=kN (t:=2) h
  have h4:=fO (l:=l) (i+1)
  have h5:=gJ (l.take (i+1)) 1
  have h6:=gJ (l.take (i+1)) 2
  obtain⟨r,hr⟩:∃ r,r=l.getD i default:=⟨_,rfl⟩
  simp only[getD_map default h,← hr]
  rw[← hr] at e1 e2
  have c0:cI (rrc r) 0=r.tm:=rfl
  have c1:cL (rrc r) 1=r.pl.map u1:=rfl
  simp only[c0,c1,List.length_map,beq_iff_eq]
  refine⟨h,?_⟩
  rw[if_pos (by rfl)]
  have fin:∀ a b:Nat,a=taken (l.take (i+1)) 1→b=taken (l.take (i+1)) 2→∃ s':Nat,l.length-s'<l.length-i∧s'≤l.length∧ef ([]:ae).length [.I a,.I b,.list (l.map rrc) .no,.I l.length,.I (wI ((i:Int)+1))] [.cells (rrc r)] [.I (taken (l.take s') 1),.I (taken (l.take s') 2),.list (l.map rrc) .no,.I l.length,.I s'] []:=by
   rintro a b rfl rfl
   refine⟨i+1,by omega,h,?_⟩
   rw[ar h (by omega)]
   exact eF (X:=[]) (G:=[_]) lid0 (lidv _ _ _) (Nat.le_refl _)
  by_cases k1:r.tm=1
  ·rw[if_pos k1]
   rw[if_pos k1] at e1
   rw[if_neg (by omega)] at e2
   have e3:wI ((taken (l.take i) 1:Int)+(r.pl.length:Int))=((taken (l.take i) 1+r.pl.length:Nat):Int):=by rw[aD (by omega) (by omega)]; omega
   rw[e3]
   exact fin _ _ e1.symm e2.symm
  ·rw[if_neg k1]
   rw[if_neg k1] at e1
   by_cases k2:r.tm=2
   ·rw[if_pos k2]
    rw[if_pos k2] at e2
    have e3:wI ((taken (l.take i) 2:Int)+(r.pl.length:Int))=((taken (l.take i) 2+r.pl.length:Nat):Int):=by rw[aD (by omega) (by omega)]; omega
    rw[e3]
    exact fin _ _ e1.symm e2.symm
   ·rw[if_neg k2]
    rw[if_neg k2] at e2
    exact fin _ _ e1.symm e2.symm
 ·rw[if_neg (by omega)]
  have:i=l.length:=by omega
  subst this
  rw[List.take_length]
  exact⟨_,_,eF (X:=[]) (G:=[]) lid0 (lidv _ _ _) (Nat.le_refl _),hQ⟩
theorem KX (l:List Rr):∀(K:PV→Prop),(∃(l_1:List Rr),l_1.length≤1000000∧tot l_1≤1000000∧ah [.I 0,.I 0,.list (l.map rrc) .no,.I (↑(List.length (l.map rrc)):Int),.I 0] [.I 0,.I 0,.list (l_1.map rrc) .no,.I l_1.length,.I 0]∧av [] []∧K (.tup [.I (↑(taken l_1 1):Int),.I (↑(taken l_1 2):Int)]))→AcK 88 [.list (l.map rrc) .no] [] (fun x _=>K x):=fun K h=>acW (T:=[]) (L:=[([1,0,1,0],Jj)]) (fun _=>0) Tryz.func88 (aW.nil _ _) (.cons suE B9 (.nil _ _ _ _ _)) h
def xj (args:List PV) (K:PV→Prop):Prop:=∃(l:List Rr) (tl:Tail),ah args [.list (l.map rrc) tl]∧l.length≤1000000∧tot l≤1000000∧K (.tup [.I (taken l 1),.I (taken l 2)])
theorem Bm:SpK 88 (.pure xj):=by
 rintro args K ⟨l,tl,he,h1,h2,hk⟩
 have he:args=_:=he
 subst he
 exact bB aj (.cons (.list _ _) .nil) (bu (aP l)) (.tup _ (bn (.int _ _) (.int _ _))) (KX l (fun x=>x = .tup [.I (taken l 1),.I (taken l 2)]) ⟨l,h1,h2,(by show _=_; rw[List.length_map]),rfl,rfl⟩) hk
theorem me (H:ae) (n:Int)  (K:PV→ae→Prop) (h:br (decide (n<0)) False (br (decide (wI (n-0)>0)) ((iI 0≤0∧iI 0≤0∧iI 0≤0∧iI 0≤0∧uni 4 [])∧0<wI (n-0)∧Int.toNat (wI (n-0))*48≤140737488355328∧∀(c:Nat),Int.toNat (wI (n-0))≤c→(iI 0≤0∧iI 0≤0∧0≤(c:Int)∧(c:Int)≤(c:Int))∧K (.arr (List.length H) (if Int.toNat (c:Int)=0 then 0 else 0) 0 (Int.toNat (c:Int)-0)) (H++[.cells (List.flatten (List.replicate c [.I 0,.E,.I 0,.I 0]))])) (K (.E) H))):AcK 109 [.E,.I n] H K:=
 acW (T:=[]) (L:=[]) (fun o=>match o.dst with|some 22=>8|_=>0) Tryz.func109 (aW.nil _ _) (LOk.nil _ _ _ _ _) h
def nr (args:List PV) (H:ae) (K:PV→ae→Prop):Prop:=∃ n:Nat,ah args [.E,.I n]∧n≤1000000∧(n=0→K (.E) H)∧(0<n→∀(c:Nat) (J:List PV),n≤c→aJ J (c*4)→K (.arr H.length 0 0 c) (H++[.cells J]))
theorem oW:SpK 109 (.heap nr):=by
 rintro args H K ⟨n,he,hn,h0,h1⟩
 have he:args=_:=he
 subst he
 refine me H n K ?_
 have e:wI ((n:Int)-0)=n:=by rw[aD (by omega) (by omega)]; omega
 simp only[au,dt,e,an]
 rw[if_neg (by omega)]
 by_cases c:n=0
 ·rw[if_neg (by omega)]; exact h0 c
 ·rw[if_pos (by omega)]
  refine⟨⟨by decide,by decide,by decide,by decide,fun _ h=>nomatch h⟩,by omega,by omega,fun k hk=>⟨⟨by decide,by decide,by omega,by omega⟩,?_⟩⟩
  rw[ite_self]
  exact h1 (by omega) k _ hk (gZ k)
def lcs (l:List Rr):List PV:=[.list (l.map rrc) .no]
theorem lT (l:List Rr):(lcs l).length=1:=rfl
theorem jU {n:Nat} (l:List Rr):∀ y∈lcs l,Low n y:=bu (aP l)
theorem cn (l:List (List Rr)) (i:Nat):InL (l.map lcs) 1 (i:Int)=(i<l.length):=dZ lT (by decide) l i
def bh (ls:List (List Rr)):Nat:=ls.flatten.length
theorem cP {ls:List (List Rr)} {k:Nat} (h:k<ls.length):bh (ls.take (k+1))=bh (ls.take k)+(ls.getD k []).length:=by
 unfold bh; rw[aI [] h,List.flatten_append]; simp
theorem cw (ls:List (List Rr)) (k:Nat):bh (ls.take k)≤bh ls:=by
 unfold bh
 conv=>rhs; rw[← List.take_append_drop k ls,List.flatten_append]
 rw[List.length_append]; omega
def TCG:Tab:=[(109,.heap nr)]
theorem pH:TbK TCG:= .cons oW (.nil _ _)
theorem oY (ls:List (List Rr)) (n i:Nat):(by refine(?_:_→_→_→Prop) (PV.list (ls.map lcs) .no) (List.getD (ls.map lcs) (Int.toNat (i:Int)) []) (PV.I ls.length); exact fun a b f=>by refine(?_:_→_→Prop) [a,.I n,a,f,.I i] ((n:Int)+(↑(List.length (cL b 0)):Int)); exact fun c d=>∀(R:Ex→List PV→ae→Prop),(br (decide ((i:Int)<(ls.length:Int))) (InL (ls.map lcs) 1 (i:Int)∧br (true && aE [.list] 0 b) (br (decide (wI d<0)) False (R .normal [a,.I (wI d),a,f,.I (wI ((i:Int)+1))] [])) False) (R (.exit 0) c []))→Holds (wpK [] [] (fun _=>0) (ai [1,1,0,1,0] (ag Tryz.f89)) [] (ak [0,3,9,10,11] c) [] (fun ex e H=>R ex (List.map e [0,3,9,10,11]) H)):Prop):=fun R h=>hoE h
theorem l8 (ls:List (List Rr)) (i:Nat):(by refine(?_:_→_→_→_→Prop) (List.getD (ls.map lcs) (Int.toNat (i:Int)) []) (PV.list (ls.map lcs) .no) (PV.I ls.length) (PV.I (wI ((i:Int)+1))); exact fun a c d f=>by refine(?_:_→Prop) [PV.E,c,d,.I i]; exact fun b=>∀(R:Ex→List PV→ae→Prop),(br (decide ((i:Int)<(ls.length:Int))) (InL (ls.map lcs) 1 (i:Int)∧br (true && aE [.list] 0 a) (aG [] (cL a 0) 4 48∧List.all (List.flatten (cL a 0)) PV.one=true∧(cL a 0=[]→R .normal [.E,c,d,f] [])∧(cL a 0≠[]→R .normal [.list ([]++cL a 0) (.tok 0),c,d,f] [.tok])) False) (R (.exit 2) b []))→Holds (wpK [] [] (fun o=>match o.dst with|some 33=>4|_=>0) (ai [1,1,1,1,0,1,0] (ag Tryz.f89)) [] (ak [6,25,26,27] b) [] (fun ex e H=>R ex (List.map e [6,25,26,27]) H)):Prop):=fun R h=>hoE h
theorem l9 (ls:List (List Rr)) (acc:List Rr) (J:List PV) (cap i:Nat):(by refine(?_:_→_→_→_→Prop) (List.getD (ls.map lcs) (Int.toNat (i:Int)) []) [Ob.cells (flR acc++J)] (PV.list (ls.map lcs) .no) (PV.I ls.length); exact fun a f g h=>by refine(?_:_→_→_→Prop) [PV.arr 0 0 acc.length cap,g,h,.I i] (List.flatten (cL a 0)) (acc.length+List.length (cL a 0)); exact fun b c d=>∀(R:Ex→List PV→ae→Prop),(br (decide ((i:Int)<(ls.length:Int))) (InL (ls.map lcs) 1 (i:Int)∧br (true && aE [.list] 0 a) ((acc.length≤cap∧0+cap*4≤List.length (flR acc++J)∧List.length c=List.length (cL a 0)*4∧List.all c PV.one=true∧d*48≤140737488355328)∧acc.length+List.length (cL a 0)≤cap∧R .normal [.arr 0 0 d cap,g,h,.I (wI ((i:Int)+1))] [.cells (over (flR acc++J) (0+acc.length*4) c)]) False) (R (.exit 2) b f))→Holds (wpK [] [] (fun o=>match o.dst with|some 33=>3|_=>0) (ai [1,1,1,1,0,1,0] (ag Tryz.f89)) [] (ak [6,25,26,27] b) f (fun ex e H=>R ex (List.map e [6,25,26,27]) H)):Prop):=fun R h=>hoE h
theorem kU (l k:List Rr):flR (l++k)=flR l++flR k:=by unfold flR; rw[List.map_append,List.flatten_append]
theorem jI {l:List Rr}:∀ y∈flR l,y.one=true:=by
 intro y hy
 obtain⟨c,h2,h3⟩:=List.mem_flatten.1 hy
 obtain⟨a,_,rfl⟩:=List.mem_map.1 h2
 exact ru a y h3
theorem gN {acc l:List Rr} {J:List PV}:over (flR acc++J) (acc.length*4) (flR l)=flR (acc++l)++J.drop (l.length*4):=by
 unfold over
 rw[List.take_left' (bQ acc),kU,List.append_assoc,List.append_assoc]
 congr 2
 rw[List.drop_append,bQ,bQ,List.drop_of_length_le (by rw[bQ]; omega),List.nil_append,show acc.length*4+l.length*4-acc.length*4=l.length*4 by omega]
def nw:LSp:=fun e H Q=>∃(ls:List (List Rr)),ls.length≤1000000∧bh ls≤1000000∧ah (List.map e [0,3,9,10,11]) [.list (ls.map lcs) .no,.I 0,.list (ls.map lcs) .no,.I ls.length,.I 0]∧av H []∧Q (.exit 0) (ak [0,3,9,10,11] [.list (ls.map lcs) .no,.I (bh ls),.list (ls.map lcs) .no,.I ls.length,.I ls.length]) []
theorem iY:∀ e H Q,nw e H Q→AwK Tryz.f89.ntmps (.loop (ai [1,1,0,1,0] (ag Tryz.f89))) Q e H:=by
 rintro e H Q ⟨ls,hl,hs,he,hH,hQ⟩
 refine aB (hn:=fun _=>0) aj (.nil _ _) (.nil _ _ _ _ _) (σ:=Nat) [0,3,9,10,11] (fun i=>i≤ls.length) (fun i=>[.list (ls.map lcs) .no,.I (bh (ls.take i)),.list (ls.map lcs) .no,.I ls.length,.I i]) (fun _=>[]) (fun i=>ls.length-i) 0 (Nat.zero_le _) (by rw[he]; rfl) hH ?_
 intro i hi
 have hi:i≤ls.length:=hi
 refine oY ls (bh (ls.take i)) i _ ?_
 have h3:=cw ls i
 simp only[au,dt,an,cn]
 by_cases h:i<ls.length
 ·rw[if_pos (by omega)]
  have h4:=cw ls (i+1)
  have e1:=cP h
  simp only[getD_map [] h]
  refine⟨h,?_⟩
  rw[if_pos (by rfl)]
  have c0:cL (lcs (ls.getD i [])) 0=(ls.getD i []).map rrc:=rfl
  have e2:wI ((bh (ls.take i):Int)+(((ls.getD i []).map rrc).length:Int))=(bh (ls.take (i+1)):Int):=by rw[List.length_map,aD (by omega) (by omega)]; omega
  rw[c0,e2,if_neg (by omega)]
  exact⟨i+1,(show ls.length-(i+1)<ls.length-i by omega),h,by rw[ar h (by omega)],[],rfl,Nat.le_refl _,.inl rfl⟩
 ·rw[if_neg (by omega)]
  have:i=ls.length:=by omega
  subst this
  rw[List.take_length]
  exact hQ
def nF:LSp:=fun e H Q=>∃(ls:List (List Rr)),ls.length≤1000000∧bh ls≤1000000∧
 ((bh ls=0∧ah (List.map e [6,25,26,27]) [.E,.list (ls.map lcs) .no,.I ls.length,.I 0]∧av H []∧Q (.exit 2) (ak [6,25,26,27] [.E,.list (ls.map lcs) .no,.I ls.length,.I ls.length]) [])∨
  (∃(cap:Nat) (J:List PV),bh ls≤cap∧aJ J (cap*4)∧ah (List.map e [6,25,26,27]) [.arr 0 0 0 cap,.list (ls.map lcs) .no,.I ls.length,.I 0]∧av H [.cells J]∧∀ J',aJ J' ((cap-ls.flatten.length)*4)→Q (.exit 2) (ak [6,25,26,27] [.arr 0 0 ls.flatten.length cap,.list (ls.map lcs) .no,.I ls.length,.I ls.length]) [.cells (flR ls.flatten++J')]))
theorem jf:∀ e H Q,nF e H Q→AwK Tryz.f89.ntmps (.loop (ai [1,1,1,1,0,1,0] (ag Tryz.f89))) Q e H:=by
 rintro e H Q ⟨ls,hl,hs,(⟨h0,he,hH,hQ⟩|⟨cap,J,hc,hJ,he,hH,hQ⟩)⟩
 ·refine aB (hn:=fun o=>match o.dst with|some 33=>4|_=>0) aj (.nil _ _) (.nil _ _ _ _ _) (σ:=Nat) [6,25,26,27] (fun i=>i≤ls.length) (fun i=>[.E,.list (ls.map lcs) .no,.I ls.length,.I i]) (fun _=>[]) (fun i=>ls.length-i) 0 (Nat.zero_le _) (by rw[he]; rfl) hH ?_
  intro i hi
  have hi:i≤ls.length:=hi
  refine l8 ls i _ ?_
  simp only[au,dt,an,cn]
  by_cases h:i<ls.length
  ·rw[if_pos (by omega)]
   have h4:=cw ls (i+1)
   have e1:=cP h
   simp only[getD_map [] h]
   refine⟨h,?_⟩
   rw[if_pos (by rfl)]
   have c0:cL (lcs (ls.getD i [])) 0=(ls.getD i []).map rrc:=rfl
   have c1:ls.getD i []=[]:=List.length_eq_zero_iff.1 (by omega)
   rw[c0,c1]
   exact⟨⟨(fun _ h=>nomatch h),(fun _ h=>nomatch h),by decide⟩,rfl,fun _=>⟨i+1,(show ls.length-(i+1)<ls.length-i by omega),h,by rw[ar h (by omega)],[],rfl,Nat.le_refl _,.inl rfl⟩,fun h=>absurd rfl h⟩
  ·rw[if_neg (by omega)]
   have:i=ls.length:=by omega
   subst this
   exact hQ
 ·refine aB (hn:=fun o=>match o.dst with|some 33=>3|_=>0) aj (.nil _ _) (.nil _ _ _ _ _) (σ:=Nat) [6,25,26,27] (fun i=>i≤ls.length) (fun i=>[.arr 0 0 (ls.take i).flatten.length cap,.list (ls.map lcs) .no,.I ls.length,.I i]) (fun i=>[.cells (flR (ls.take i).flatten++J.drop ((ls.take i).flatten.length*4))]) (fun i=>ls.length-i) 0 (Nat.zero_le _) (by rw[he]; rfl) (by rw[show H=_ from hH]; simp[flR]) ?_
  intro i hi
  have hi:i≤ls.length:=hi
  refine l9 ls (ls.take i).flatten (J.drop ((ls.take i).flatten.length*4)) cap i _ ?_
  simp only[au,dt,an,cn]
  have h3:=cw ls i
  have hJl:=hJ.len
  have h5:(ls.take i).flatten.length≤cap:=Nat.le_trans h3 hc
  by_cases h:i<ls.length
  ·rw[if_pos (by omega)]
   have h4:=cw ls (i+1)
   have e1:=cP h
   simp only[getD_map [] h]
   refine⟨h,?_⟩
   rw[if_pos (by rfl)]
   have c0:cL (lcs (ls.getD i [])) 0=(ls.getD i []).map rrc:=rfl
   obtain⟨l,hld⟩:∃ l,l=ls.getD i []:=⟨_,rfl⟩
   have e4:(ls.take (i+1)).flatten=(ls.take i).flatten++l:=by rw[aI [] h,List.flatten_append,hld]; simp
   have e5:(ls.take (i+1)).flatten.length=(ls.take i).flatten.length+l.length:=by rw[e4,List.length_append]
   have e6:(ls.take (i+1)).flatten.length≤cap:=Nat.le_trans h4 hc
   have e7:bh (ls.take (i+1))=(ls.take (i+1)).flatten.length:=rfl
   have e8:(J.drop ((ls.take i).flatten.length*4)).length=(cap-(ls.take i).flatten.length)*4:=by rw[List.length_drop,hJl]; omega
   have e9:(List.map rrc l).flatten.length=l.length*4:=bQ l
   rw[c0,← hld]
   simp only[List.length_map,e9]
   refine⟨⟨h5,?_,trivial,List.all_eq_true.2 jI,by omega⟩,by omega,i+1,(show ls.length-(i+1)<ls.length-i by omega),h,by(try dsimp only); rw[ar h (by omega),e5],[],?_,Nat.le_refl _,.inl rfl⟩
   ·rw[List.length_append,bQ,e8]; omega
   ·(try dsimp only)
    rw[Nat.zero_add,gN,e4,List.drop_drop,List.append_nil,List.length_append,Nat.add_mul]
  ·rw[if_neg (by omega)]
   have:i=ls.length:=by omega
   subst this
   rw[List.take_length]
   exact hQ _ (hJ.drop.cast (by omega))
theorem gq (ls:List (List Rr)):∀(K:PV→ae→Prop),(∃(ls_1:List (List Rr)),by refine(?_:_→_→Prop) (PV.list (ls_1.map lcs) .no) (PV.I (↑(List.length (ls_1.map lcs)):Int)); exact fun d e=>by refine(?_:_→Prop) [PV.E,d,e,.I 0]; exact fun b=>ls_1.length≤1000000∧bh ls_1≤1000000∧ah [.list (ls.map lcs) .no,.I 0,.list (ls.map lcs) .no,.I (↑(List.length (ls.map lcs)):Int),.I 0] [d,.I 0,d,.I ls_1.length,.I 0]∧av [] []∧∃(n:Nat),ah [.E,.I (↑(bh ls_1):Int)] [.E,.I n]∧n≤1000000∧(n=0→∃(ls:List (List Rr)),ls.length≤1000000∧bh ls≤1000000∧(bh ls=0∧ah b [.E,.list (ls.map lcs) .no,.I ls.length,.I 0]∧av [] []∧K (.E) []∨∃(cap:Nat) (J:List PV),bh ls≤cap∧aJ J (cap*4)∧ah b [.arr 0 0 0 cap,.list (ls.map lcs) .no,.I ls.length,.I 0]∧av [] [.cells J]∧∀(J':List PV),aJ J' ((cap-ls.flatten.length)*4)→K (.arr 0 0 ls.flatten.length cap) [.cells (flR ls.flatten++J')]))∧(0<n→∀(c:Nat),by refine(?_:_→Prop) [PV.arr 0 0 0 c,d,e,.I 0]; exact fun a=>∀(J:List PV),n≤c→aJ J (c*4)→∃(ls:List (List Rr)),ls.length≤1000000∧bh ls≤1000000∧(bh ls=0∧ah a [.E,.list (ls.map lcs) .no,.I ls.length,.I 0]∧av [.cells J] []∧K (.E) []∨∃(cap:Nat) (J_1:List PV),bh ls≤cap∧aJ J_1 (cap*4)∧ah a [.arr 0 0 0 cap,.list (ls.map lcs) .no,.I ls.length,.I 0]∧av [.cells J] [.cells J_1]∧∀(J':List PV),aJ J' ((cap-ls.flatten.length)*4)→K (.arr 0 0 ls.flatten.length cap) [.cells (flR ls.flatten++J')])))→AcK 89 [.list (ls.map lcs) .no] [] K:=fun K h=>acW (T:=TCG) (L:=[([1,1,0,1,0],nw),([1,1,1,1,0,1,0],nF)]) (fun _=>0) Tryz.func89 (pH) (.cons suE iY (.cons suE jf (.nil _ _ _ _ _))) h
theorem uC (ls:List (List Rr)) (hl:ls.length≤1000000) (hs:bh ls≤1000000):AcK 89 [.list (ls.map lcs) .no] [] (fun x _=>x = .list (ls.flatten.map rrc) .no):=by
 have e0:(List.map lcs ls).length=ls.length:=List.length_map _
 by_cases c:bh ls=0
 ·refine a9 (gq ls _ ⟨ls,hl,hs,(by show _=_; rw[e0]),rfl,bh ls,rfl,hs,fun _=>⟨ls,hl,hs,.inl ⟨c,(by show _=_; rw[e0]),rfl,?_⟩⟩,fun h=>absurd c (by omega)⟩)
  have e:ls.flatten=[]:=List.length_eq_zero_iff.1 c
  rw[e]
  exact⟨_,.list _ _,rfl⟩
 ·refine bW (gq ls _ ⟨ls,hl,hs,(by show _=_; rw[e0]),rfl,bh ls,rfl,hs,fun h=>absurd h c,fun h cap J hc hJ=>⟨ls,hl,hs,.inr ⟨cap,J,hc,hJ,(by show _=_; rw[e0]),rfl,fun J' hJ'=>?_⟩⟩⟩)
  refine⟨0,0,4,[],J',ls.flatten.map rrc,.list (ls.flatten.map rrc) .no,[.dead],rfl,rfl,b5 fo _,⟨rfl,fun i b hb=> .inl ?_⟩,?_,rfl⟩
  ·have k1:=(List.getElem?_eq_some_iff.1 hb).1
   simp at k1
   subst k1
   cases hb; rfl
  ·have:=Fz.arr (o:=0) (off:=0) (es:=ls.flatten.map rrc) cap (by rw[List.length_map]; exact hc)
   rw[List.length_map] at this
   exact this
def nJ (args:List PV) (K:PV→Prop):Prop:=∃(a b:List Rr),ah args [.list [[.list (a.map rrc) .no],[.list (b.map rrc) .no]] .exact]∧a.length+b.length≤1000000∧K (.list ((a++b).map rrc) .no)
theorem o6:SpK 89 (.pure nJ):=by
 rintro args K ⟨a,b,he,h,hk⟩
 have he:args=_:=he
 subst he
 have hf:[a,b].flatten=a++b:=by simp
 have hl:=uC [a,b] (by simp) (by unfold bh; rw[hf,List.length_append]; exact h)
 rw[hf] at hl
 exact bB aj (.cons (.list _ _) .nil) (bu (bp jU [a,b])) (aP _) hl hk
def TWR:Tab:=[(50,.pure kO),(87,.pure Ju),(62,.read DZ),(89,.pure nJ),(88,.pure xj)]
theorem kD:TbK TWR:= .cons ox (.cons K3 (.cons Eo (.cons o6 (.cons Bm (.nil _ _)))))
structure WS where
 ids:Bool
 ex:Bool
 ps:List Int
def ws1 (w:List Mt) (s:WS) (p:Int):WS:=⟨s.ids || !aC p,s.ex || cH s.ps p || (ofM w p != 0),s.ps++[p]⟩
def wsP (w:List Mt) (s:WS) (l:List Int):WS:=l.foldl (ws1 w) s
def wsR (w:List Mt) (s:WS) (l:List Rr):WS:=l.foldl (fun s r=>wsP w s r.pl) s
def bY (r:Rr):Bool:=(r.tm != 1 && r.tm != 2) || decide (r.pl.length<1) || decide (r.pl.length>4)
theorem lH (w:List Mt) (s:WS) {l:List Int} {k:Nat} (h:k<l.length):wsP w s (l.take (k+1))=ws1 w (wsP w s (l.take k)) (l.getD k 0):=by
 unfold wsP; rw[aI 0 h,List.foldl_append]; rfl
theorem ur (w:List Mt) (s:WS) {l:List Rr} {k:Nat} (h:k<l.length):wsR w s (l.take (k+1))=wsP w (wsR w s (l.take k)) (l.getD k default).pl:=by
 unfold wsR; rw[aI default h,List.foldl_append]; rfl
theorem eN (w:List Mt):∀(l:List Int) (s:WS),(wsP w s l).ps=s.ps++l
 | [],s=>by simp[wsP]
 | p::l,s=>by
  show(wsP w (ws1 w s p) l).ps=_
  rw[eN w l]; simp[ws1]
theorem sb (w:List Mt):∀(l:List Rr) (s:WS),(wsR w s l).ps.length=s.ps.length+tot l
 | [],s=>rfl
 | r::l,s=>by
  show(wsR w (wsP w s r.pl) l).ps.length=_
  rw[sb w l,eN,List.length_append]
  unfold tot; simp only[List.map_cons,List.sum_cons]; omega
theorem bnf {b:Bool} (h:¬ b=false):b=true:=by cases b; exact absurd rfl h; rfl
theorem tx (w:List Mt) (m:Int) (b l:List Rr) (r:Rr) (ids sz ex:Bool) (i k:Nat):(by refine(?_:_→_→_→_→_→_→_→_→_→Prop) (PV.list (l.map rrc) .no) (PV.list (r.pl.map u1) .no) (PV.I (wI ((k:Int)+1))) (PV.list (b.map rrc) .no) (PV.I r.pl.length) (PV.I l.length) (List.getD (r.pl.map u1) (Int.toNat (k:Int)) []) (Ob.abs (rkM (aq w) m)) (Ob.cells [.ptr 1 0]); exact fun h n v x y z A B E=>by refine(?_:_→_→_→Prop) (cI A 0) (Ob.cells [.I r.tm,n,.I r.rt,.I r.wd]) [PV.ptr 0 0,x,h,.bool ids,.bool sz,.bool ex,.E,h,z,.I i,.ptr 2 0,n,y,.I k]; exact fun d f g=>by refine(?_:_→_→_→_→_→Prop) [E,B,f,.tok] (PV.list [[PV.U d]] (.tok 3)) [E,B,f] [PV.E,.U d] [PV.ptr 0 0,.U d]; exact fun j s u C D=>∀(R:Ex→List PV→ae→Prop),by refine(?_:_→_→Prop) (aG [] [[PV.U d]] 1 4∧(List.all [.U d] PV.one=true∧[[PV.U d]]≠[])∧R .normal [.ptr 0 0,x,h,.bool !aC d,.bool sz,.bool true,s,h,z,.I i,.ptr 2 0,n,y,v] j) (aG [] [[PV.U d]] 1 4∧(List.all [.U d] PV.one=true∧[[PV.U d]]≠[])∧R .normal [.ptr 0 0,x,h,.bool true,.bool sz,.bool true,s,h,z,.I i,.ptr 2 0,n,y,v] j); exact fun a c=>(br (decide ((k:Int)<(r.pl.length:Int))) (InL (r.pl.map u1) 1 (k:Int)∧br (true && aE [.int .u32] 0 A) (br (ids == false) (br (ex == false) (∃(l_1:List Int) (tl:Tail) (t:Int),ah C [.list (l_1.map u1) tl,.U t]∧l_1.length≤1000000∧br (cH l_1 t == false) (∃(q:Nat) (r_1:Nat) (w_1:List Mt) (m_1:Int) (p:Int),ah D [.ptr q 0,.U p]∧cj u q r_1 (rkM (aq w_1) m_1)∧MO w_1 m_1∧aG [] [[PV.U d]] 1 4∧(List.all [.U d] PV.one=true∧[[PV.U d]]≠[])∧R .normal [.ptr 0 0,x,h,.bool !aC d,.bool sz,.bool (ofM w_1 p != 0),s,h,z,.I i,.ptr 2 0,n,y,v] j) a) a) (br (ex == false) (∃(l_1:List Int) (tl:Tail) (t:Int),ah C [.list (l_1.map u1) tl,.U t]∧l_1.length≤1000000∧br (cH l_1 t == false) (∃(q:Nat) (r_1:Nat) (w_1:List Mt) (m_1:Int) (p:Int),ah D [.ptr q 0,.U p]∧cj u q r_1 (rkM (aq w_1) m_1)∧MO w_1 m_1∧aG [] [[PV.U d]] 1 4∧(List.all [.U d] PV.one=true∧[[PV.U d]]≠[])∧R .normal [.ptr 0 0,x,h,.bool true,.bool sz,.bool (ofM w_1 p != 0),s,h,z,.I i,.ptr 2 0,n,y,v] j) c) c)) False) (R (.exit 2) g u))→Holds (wpK TWR [] (fun o=>match o.dst with|some 76=>1|_=>0) (ai [1,1,1,0,1,0,0,1,1,0,0,1,1,1,0] (ag Tryz.f56)) [] (ak [0,1,2,6,7,8,9,19,20,21,11,49,50,51] g) [.cells [.ptr 1 0],B,.cells (rrc r)] (fun ex e H=>R ex (List.map e [0,1,2,6,7,8,9,19,20,21,11,49,50,51]) H)):Prop):=fun R h=>hoE h
theorem tG (w:List Mt) (m:Int) (b l:List Rr) (r:Rr) (ids sz ex:Bool) (ps:List Int) (i k:Nat):(by refine(?_:_→_→_→_→_→_→_→_→_→_→Prop) (PV.list (l.map rrc) .no) (PV.list (r.pl.map u1) .no) (PV.I (wI ((k:Int)+1))) (PV.list (b.map rrc) .no) (PV.I r.pl.length) (PV.I l.length) (PV.list (ps.map u1) (.tok 3)) (List.getD (r.pl.map u1) (Int.toNat (k:Int)) []) (Ob.abs (rkM (aq w) m)) (Ob.cells [.ptr 1 0]); exact fun h s v x y z A B C E=>by refine(?_:_→_→_→Prop) (cI B 0) (Ob.cells [.I r.tm,s,.I r.rt,.I r.wd]) [PV.ptr 0 0,x,h,.bool ids,.bool sz,.bool ex,A,h,z,.I i,.ptr 2 0,s,y,.I k]; exact fun d f g=>by refine(?_:_→_→_→_→Prop) [E,C,f,.dead,.tok] (PV.list (ps.map u1++[[PV.U d]]) (.tok 4)) [E,C,f,.tok] [PV.ptr 0 0,.U d]; exact fun j n u D=>∀(R:Ex→List PV→ae→Prop),by refine(?_:_→_→Prop) (aG (ps.map u1) [[PV.U d]] 1 4∧(List.all [.U d] PV.one=true∧[[PV.U d]]≠[])∧R .normal [.ptr 0 0,x,h,.bool !aC d,.bool sz,.bool true,n,h,z,.I i,.ptr 2 0,s,y,v] j) (aG (ps.map u1) [[PV.U d]] 1 4∧(List.all [.U d] PV.one=true∧[[PV.U d]]≠[])∧R .normal [.ptr 0 0,x,h,.bool true,.bool sz,.bool true,n,h,z,.I i,.ptr 2 0,s,y,v] j); exact fun a c=>(br (decide ((k:Int)<(r.pl.length:Int))) (InL (r.pl.map u1) 1 (k:Int)∧br (true && aE [.int .u32] 0 B) (br (ids == false) (br (ex == false) (∃(l_1:List Int) (tl:Tail) (t:Int),ah [A,.U d] [.list (l_1.map u1) tl,.U t]∧l_1.length≤1000000∧br (cH l_1 t == false) (∃(q:Nat) (r_1:Nat) (w_1:List Mt) (m_1:Int) (p:Int),ah D [.ptr q 0,.U p]∧cj u q r_1 (rkM (aq w_1) m_1)∧MO w_1 m_1∧aG (ps.map u1) [[PV.U d]] 1 4∧(List.all [.U d] PV.one=true∧[[PV.U d]]≠[])∧R .normal [.ptr 0 0,x,h,.bool !aC d,.bool sz,.bool (ofM w_1 p != 0),n,h,z,.I i,.ptr 2 0,s,y,v] j) a) a) (br (ex == false) (∃(l_1:List Int) (tl:Tail) (t:Int),ah [A,.U d] [.list (l_1.map u1) tl,.U t]∧l_1.length≤1000000∧br (cH l_1 t == false) (∃(q:Nat) (r_1:Nat) (w_1:List Mt) (m_1:Int) (p:Int),ah D [.ptr q 0,.U p]∧cj u q r_1 (rkM (aq w_1) m_1)∧MO w_1 m_1∧aG (ps.map u1) [[PV.U d]] 1 4∧(List.all [.U d] PV.one=true∧[[PV.U d]]≠[])∧R .normal [.ptr 0 0,x,h,.bool true,.bool sz,.bool (ofM w_1 p != 0),n,h,z,.I i,.ptr 2 0,s,y,v] j) c) c)) False) (R (.exit 2) g u))→Holds (wpK TWR [] (fun o=>match o.dst with|some 76=>1|_=>0) (ai [1,1,1,0,1,0,0,1,1,0,0,1,1,1,0] (ag Tryz.f56)) [] (ak [0,1,2,6,7,8,9,19,20,21,11,49,50,51] g) [.cells [.ptr 1 0],C,.cells (rrc r),.tok] (fun ex e H=>R ex (List.map e [0,1,2,6,7,8,9,19,20,21,11,49,50,51]) H)):Prop):=fun R h=>hoE h
theorem td (w:List Mt) (m:Int) (b l:List Rr) (r:Rr) (ids sz ex:Bool) (ps:List Int) (i k:Nat):(by refine(?_:_→_→_→_→_→_→_→_→_→_→Prop) (PV.list (l.map rrc) .no) (PV.list (r.pl.map u1) .no) (PV.I (wI ((k:Int)+1))) (PV.list (b.map rrc) .no) (PV.I r.pl.length) (PV.I l.length) (PV.list (ps.map u1) (.tok 2)) (List.getD (r.pl.map u1) (Int.toNat (k:Int)) []) (Ob.abs (rkM (aq w) m)) (Ob.cells [.ptr 1 0]); exact fun h s v x y z A B C E=>by refine(?_:_→_→_→Prop) (cI B 0) (Ob.cells [.I r.tm,s,.I r.rt,.I r.wd]) [PV.ptr 0 0,x,h,.bool ids,.bool sz,.bool ex,A,h,z,.I i,.ptr 3 0,s,y,.I k]; exact fun d f g=>by refine(?_:_→_→_→_→Prop) [E,C,.dead,f,.tok] (PV.list (ps.map u1++[[PV.U d]]) (.tok 4)) [E,C,.tok,f] [PV.ptr 0 0,.U d]; exact fun j n u D=>∀(R:Ex→List PV→ae→Prop),by refine(?_:_→_→Prop) (aG (ps.map u1) [[PV.U d]] 1 4∧(List.all [.U d] PV.one=true∧[[PV.U d]]≠[])∧R .normal [.ptr 0 0,x,h,.bool !aC d,.bool sz,.bool true,n,h,z,.I i,.ptr 3 0,s,y,v] j) (aG (ps.map u1) [[PV.U d]] 1 4∧(List.all [.U d] PV.one=true∧[[PV.U d]]≠[])∧R .normal [.ptr 0 0,x,h,.bool true,.bool sz,.bool true,n,h,z,.I i,.ptr 3 0,s,y,v] j); exact fun a c=>(br (decide ((k:Int)<(r.pl.length:Int))) (InL (r.pl.map u1) 1 (k:Int)∧br (true && aE [.int .u32] 0 B) (br (ids == false) (br (ex == false) (∃(l_1:List Int) (tl:Tail) (t:Int),ah [A,.U d] [.list (l_1.map u1) tl,.U t]∧l_1.length≤1000000∧br (cH l_1 t == false) (∃(q:Nat) (r_1:Nat) (w_1:List Mt) (m_1:Int) (p:Int),ah D [.ptr q 0,.U p]∧cj u q r_1 (rkM (aq w_1) m_1)∧MO w_1 m_1∧aG (ps.map u1) [[PV.U d]] 1 4∧(List.all [.U d] PV.one=true∧[[PV.U d]]≠[])∧R .normal [.ptr 0 0,x,h,.bool !aC d,.bool sz,.bool (ofM w_1 p != 0),n,h,z,.I i,.ptr 3 0,s,y,v] j) a) a) (br (ex == false) (∃(l_1:List Int) (tl:Tail) (t:Int),ah [A,.U d] [.list (l_1.map u1) tl,.U t]∧l_1.length≤1000000∧br (cH l_1 t == false) (∃(q:Nat) (r_1:Nat) (w_1:List Mt) (m_1:Int) (p:Int),ah D [.ptr q 0,.U p]∧cj u q r_1 (rkM (aq w_1) m_1)∧MO w_1 m_1∧aG (ps.map u1) [[PV.U d]] 1 4∧(List.all [.U d] PV.one=true∧[[PV.U d]]≠[])∧R .normal [.ptr 0 0,x,h,.bool true,.bool sz,.bool (ofM w_1 p != 0),n,h,z,.I i,.ptr 3 0,s,y,v] j) c) c)) False) (R (.exit 2) g u))→Holds (wpK TWR [] (fun o=>match o.dst with|some 76=>1|_=>0) (ai [1,1,1,0,1,0,0,1,1,0,0,1,1,1,0] (ag Tryz.f56)) [] (ak [0,1,2,6,7,8,9,19,20,21,11,49,50,51] g) [.cells [.ptr 1 0],C,.tok,.cells (rrc r)] (fun ex e H=>R ex (List.map e [0,1,2,6,7,8,9,19,20,21,11,49,50,51]) H)):Prop):=fun R h=>hoE h
theorem uG (w:List Mt) (m:Int) (b l:List Rr) (r:Rr) (ids sz ex:Bool) (ps:List Int) (i k:Nat):(by refine(?_:_→_→_→_→_→_→_→_→_→_→Prop) (PV.list (l.map rrc) .no) (PV.list (r.pl.map u1) .no) (PV.I (wI ((k:Int)+1))) (PV.list (b.map rrc) .no) (PV.I r.pl.length) (PV.I l.length) (PV.list (ps.map u1) (.tok 4)) (List.getD (r.pl.map u1) (Int.toNat (k:Int)) []) (Ob.abs (rkM (aq w) m)) (Ob.cells [.ptr 1 0]); exact fun j u v x y z A B C E=>by refine(?_:_→_→_→Prop) (cI B 0) (Ob.cells [.I r.tm,u,.I r.rt,.I r.wd]) [PV.ptr 0 0,x,j,.bool ids,.bool sz,.bool ex,A,j,z,.I i,.ptr 3 0,u,y,.I k]; exact fun d f g=>by refine(?_:_→_→_→_→Prop) [E,C,.dead,f,.dead,.tok] (PV.list (ps.map u1++[[PV.U d]]) (.tok 5)) [E,C,.dead,f,.tok] [PV.ptr 0 0,.U d]; exact fun h n s D=>∀(R:Ex→List PV→ae→Prop),by refine(?_:_→_→Prop) (aG (ps.map u1) [[PV.U d]] 1 4∧(List.all [.U d] PV.one=true∧[[PV.U d]]≠[])∧R .normal [.ptr 0 0,x,j,.bool !aC d,.bool sz,.bool true,n,j,z,.I i,.ptr 3 0,u,y,v] h) (aG (ps.map u1) [[PV.U d]] 1 4∧(List.all [.U d] PV.one=true∧[[PV.U d]]≠[])∧R .normal [.ptr 0 0,x,j,.bool true,.bool sz,.bool true,n,j,z,.I i,.ptr 3 0,u,y,v] h); exact fun a c=>(br (decide ((k:Int)<(r.pl.length:Int))) (InL (r.pl.map u1) 1 (k:Int)∧br (true && aE [.int .u32] 0 B) (br (ids == false) (br (ex == false) (∃(l_1:List Int) (tl:Tail) (t:Int),ah [A,.U d] [.list (l_1.map u1) tl,.U t]∧l_1.length≤1000000∧br (cH l_1 t == false) (∃(q:Nat) (r_1:Nat) (w_1:List Mt) (m_1:Int) (p:Int),ah D [.ptr q 0,.U p]∧cj s q r_1 (rkM (aq w_1) m_1)∧MO w_1 m_1∧aG (ps.map u1) [[PV.U d]] 1 4∧(List.all [.U d] PV.one=true∧[[PV.U d]]≠[])∧R .normal [.ptr 0 0,x,j,.bool !aC d,.bool sz,.bool (ofM w_1 p != 0),n,j,z,.I i,.ptr 3 0,u,y,v] h) a) a) (br (ex == false) (∃(l_1:List Int) (tl:Tail) (t:Int),ah [A,.U d] [.list (l_1.map u1) tl,.U t]∧l_1.length≤1000000∧br (cH l_1 t == false) (∃(q:Nat) (r_1:Nat) (w_1:List Mt) (m_1:Int) (p:Int),ah D [.ptr q 0,.U p]∧cj s q r_1 (rkM (aq w_1) m_1)∧MO w_1 m_1∧aG (ps.map u1) [[PV.U d]] 1 4∧(List.all [.U d] PV.one=true∧[[PV.U d]]≠[])∧R .normal [.ptr 0 0,x,j,.bool true,.bool sz,.bool (ofM w_1 p != 0),n,j,z,.I i,.ptr 3 0,u,y,v] h) c) c)) False) (R (.exit 2) g s))→Holds (wpK TWR [] (fun o=>match o.dst with|some 76=>1|_=>0) (ai [1,1,1,0,1,0,0,1,1,0,0,1,1,1,0] (ag Tryz.f56)) [] (ak [0,1,2,6,7,8,9,19,20,21,11,49,50,51] g) [.cells [.ptr 1 0],C,.dead,.cells (rrc r),.tok] (fun ex e H=>R ex (List.map e [0,1,2,6,7,8,9,19,20,21,11,49,50,51]) H)):Prop):=fun R h=>hoE h
theorem gm {ρ:Nat→Nat} {n bx:Nat} {b l:List Rr} {r:Rr} {ids sz ex:Bool} {i:Nat} {z:Int} {T T':PV} (h0:0<n∧ρ 0=0) (hb:bx<n∧ρ bx=bx) (hT:Ren ρ n T T'):aU ρ n [.ptr 0 0,.list (b.map rrc) .no,.list (l.map rrc) .no,.bool ids,.bool sz,.bool ex,T,.list (l.map rrc) .no,.I l.length,.I i,.ptr bx 0,.list (r.pl.map u1) .no,.I r.pl.length,.I z] [.ptr 0 0,.list (b.map rrc) .no,.list (l.map rrc) .no,.bool ids,.bool sz,.bool ex,T',.list (l.map rrc) .no,.I l.length,.I i,.ptr bx 0,.list (r.pl.map u1) .no,.I r.pl.length,.I z]:=by
 have e0:=Ren.ptr (ρ:=ρ) (n:=n) 0 0 h0.1
 rw[h0.2] at e0
 have eb:=Ren.ptr (ρ:=ρ) (n:=n) bx 0 hb.1
 rw[hb.2] at eb
 exact .cons e0 (.cons (.low (aP _)) (.cons (.low (aP _)) (.cons (.low (.bool _)) (.cons (.low (.bool _)) (.cons (.low (.bool _)) (.cons hT (.cons (.low (aP _)) (.cons (.low (.int _ _)) (.cons (.low (.int _ _)) (.cons eb (.cons (.low (eC _)) (.cons (.low (.int _ _)) (.cons (.low (.int _ _)) .nil)))))))))))))
def uX:LSp:=fun e H Q=>∃(w:List Mt) (m:Int) (b l:List Rr) (r:Rr) (s:WS) (sz:Bool) (i:Nat),MO w m∧r.pl.length≤1000000∧s.ps.length+r.pl.length≤1000000∧s.ps=[]∧ah (List.map e [0,1,2,6,7,8,9,19,20,21,11,49,50,51]) [.ptr 0 0,.list (b.map rrc) .no,.list (l.map rrc) .no,.bool s.ids,.bool sz,.bool s.ex,.E,.list (l.map rrc) .no,.I l.length,.I i,.ptr 2 0,.list (r.pl.map u1) .no,.I r.pl.length,.I 0]∧av H [.cells [.ptr 1 0],.abs (rkM (aq w) m),.cells (rrc r)]∧(r.pl=[]→Q (.exit 2) (ak [0,1,2,6,7,8,9,19,20,21,11,49,50,51] [.ptr 0 0,.list (b.map rrc) .no,.list (l.map rrc) .no,.bool s.ids,.bool sz,.bool s.ex,.E,.list (l.map rrc) .no,.I l.length,.I i,.ptr 2 0,.list (r.pl.map u1) .no,.I r.pl.length,.I 0]) [.cells [.ptr 1 0],.abs (rkM (aq w) m),.cells (rrc r)])∧(r.pl≠[]→Q (.exit 2) (ak [0,1,2,6,7,8,9,19,20,21,11,49,50,51] [.ptr 0 0,.list (b.map rrc) .no,.list (l.map rrc) .no,.bool (wsP w s r.pl).ids,.bool sz,.bool (wsP w s r.pl).ex,.list ((wsP w s r.pl).ps.map u1) (.tok 3),.list (l.map rrc) .no,.I l.length,.I i,.ptr 2 0,.list (r.pl.map u1) .no,.I r.pl.length,.I r.pl.length]) [.cells [.ptr 1 0],.abs (rkM (aq w) m),.cells (rrc r),.tok])
theorem Ar:∀ e H Q,uX e H Q→AwK Tryz.f56.ntmps (.loop (ai [1,1,1,0,1,0,0,1,1,0,0,1,1,1,0] (ag Tryz.f56))) Q e H:=by
 rintro e H Q ⟨w,m,b,l,r,s,sz,i,ro,hrl,hsl,hs0,he,hH,hQ0,hQ1⟩
 ·have hH:H=_:=hH
  have hHl:H.length=3:=by rw[hH]; rfl
  refine fB (hn:=fun o=>match o.dst with|some 76=>1|_=>0) aj kD (.nil _ _ _ _ _) (σ:=Nat) [0,1,2,6,7,8,9,19,20,21,11,49,50,51] (fun k=>k≤r.pl.length) (fun k=>if k=0 then [.ptr 0 0,.list (b.map rrc) .no,.list (l.map rrc) .no,.bool s.ids,.bool sz,.bool s.ex,.E,.list (l.map rrc) .no,.I l.length,.I i,.ptr 2 0,.list (r.pl.map u1) .no,.I r.pl.length,.I 0] else [.ptr 0 0,.list (b.map rrc) .no,.list (l.map rrc) .no,.bool (wsP w s (r.pl.take k)).ids,.bool sz,.bool (wsP w s (r.pl.take k)).ex,.list ((wsP w s (r.pl.take k)).ps.map u1) (.tok 3),.list (l.map rrc) .no,.I l.length,.I i,.ptr 2 0,.list (r.pl.map u1) .no,.I r.pl.length,.I k]) (fun k=>if k=0 then [.cells [.ptr 1 0],.abs (rkM (aq w) m),.cells (rrc r)] else [.cells [.ptr 1 0],.abs (rkM (aq w) m),.cells (rrc r),.tok]) (fun k=>r.pl.length-k) 0 (Nat.zero_le _) he hH ?_
  rw[hHl]
  intro k hk
  have hk:k≤r.pl.length:=hk
  have hps:=eN w (r.pl.take k) s
  have hpl:(wsP w s (r.pl.take k)).ps.length≤1000000:=by rw[hps,List.length_append,List.length_take]; omega
  by_cases h:k<r.pl.length
  ·have hsucc:=lH w s h
   have hlow:∀(ps:List Int),∀ x∈(ps.map u1).flatten,Low 0 x:=fun ps=>bl fun a _=>bL a
   have inl:InL (r.pl.map u1) 1 (k:Int):=by rw[dM]; exact h
   have cp:cI (u1 (r.pl.getD k 0)) 0=r.pl.getD k 0:=rfl
   have hpl2:(wsP w s (r.pl.take (k+1))).ps.length≤1000000:=by rw[eN,List.length_append,List.length_take]; omega
   by_cases k0:k=0
   ·subst k0
    have e1:wsP w s (r.pl.take 1)=ws1 w s (r.pl.getD 0 0):=hsucc
    simp only[if_pos]
    refine tx w m b l r s.ids sz s.ex i 0 _ ?_
    simp only[au,dt,an,getD_map 0 h,cp]
    rw[if_pos (by omega)]
    refine⟨inl,?_⟩
    rw[if_pos (by rfl)]
    obtain⟨p,hp⟩:∃ p,p=r.pl.getD 0 0:=⟨_,rfl⟩
    rw[← hp] at e1
    simp only[← hp]
    have tail:∀ b1 b2:Bool,b1=(ws1 w s p).ids→b2=(ws1 w s p).ex→∃ s':Nat,r.pl.length-s'<r.pl.length-0∧s'≤r.pl.length∧ef 3 [.ptr 0 0,.list (b.map rrc) .no,.list (l.map rrc) .no,.bool b1,.bool sz,.bool b2,.list [[.U p]] (.tok 3),.list (l.map rrc) .no,.I l.length,.I i,.ptr 2 0,.list (r.pl.map u1) .no,.I r.pl.length,.I (wI (((0:Nat):Int)+1))] [.cells [.ptr 1 0],.abs (rkM (aq w) m),.cells (rrc r),.tok] (if s'=0 then [.ptr 0 0,.list (b.map rrc) .no,.list (l.map rrc) .no,.bool s.ids,.bool sz,.bool s.ex,.E,.list (l.map rrc) .no,.I l.length,.I i,.ptr 2 0,.list (r.pl.map u1) .no,.I r.pl.length,.I 0] else [.ptr 0 0,.list (b.map rrc) .no,.list (l.map rrc) .no,.bool (wsP w s (r.pl.take s')).ids,.bool sz,.bool (wsP w s (r.pl.take s')).ex,.list ((wsP w s (r.pl.take s')).ps.map u1) (.tok 3),.list (l.map rrc) .no,.I l.length,.I i,.ptr 2 0,.list (r.pl.map u1) .no,.I r.pl.length,.I s']) (if s'=0 then [.cells [.ptr 1 0],.abs (rkM (aq w) m),.cells (rrc r)] else [.cells [.ptr 1 0],.abs (rkM (aq w) m),.cells (rrc r),.tok]):=by
     rintro b1 b2 rfl rfl
     refine⟨1,by omega,h,?_⟩
     rw[if_neg (by decide),if_neg (by decide),e1,show wI (((0:Nat):Int)+1)=((1:Nat):Int) from rfl]
     refine aR [0,1,2,3] (WkL.refl _) (.cons rfl (.cells (.cons (.ptr (ρ:=fun o=>[0,1,2,3].getD o 0) 1 0 (by simp)) .nil)) (.cons rfl (.abs _) (.cons rfl (.cells (aU.low (bG r))) (.cons rfl .tok .nil)))) (by decide) (by simp) (fun o ho=>?_) (gm ⟨by simp,rfl⟩ ⟨by simp,rfl⟩ ?_)
     ·match o,ho with
      | 0,_=>rfl
      | 1,_=>rfl
      | 2,_=>rfl
     ·have:=Ren.ltok (ρ:=fun o=>[0,1,2,3].getD o 0) (n:=4) ((ws1 w s p).ps.map u1) 3 (by decide) (hlow _)
      have e2:(ws1 w s p).ps.map u1=[[PV.U p]]:=by show(s.ps++[p]).map u1=_; rw[hs0]; rfl
      rw[← e2]; exact this
    have ap:aG (([]:List (List PV))) [[.U p]] 1 4∧(List.all [PV.U p] PV.one=true∧[[PV.U p]]≠[]):=⟨aF (f:=u1) dc [] p (by decide),one_row dm p⟩
    by_cases hi:s.ids=false
    ·rw[if_pos (by rw[hi]; rfl)]
     by_cases hx:s.ex=false
     ·rw[if_pos (by rw[hx]; rfl)]
      refine⟨[],.exact,p,rfl,(by decide),?_⟩
      by_cases hm:cH [] p=false
      ·rw[if_pos (by rw[hm]; rfl)]
       exact⟨0,1,w,m,p,rfl,⟨rfl,rfl⟩,ro,ap.1,ap.2,tail _ _ (by simp[ws1,hi]) (by simp[ws1,hx,hm,hs0])⟩
      ·rw[if_neg (by simpa using hm)]
       exact⟨ap.1,ap.2,tail _ _ (by simp[ws1,hi]) (by simp only[ws1]; rw[hs0]; rw[bnf hm]; simp)⟩
     ·rw[if_neg (by simpa using hx)]
      exact⟨ap.1,ap.2,tail _ _ (by simp[ws1,hi]) (by simp[ws1,bnf hx])⟩
    ·rw[if_neg (by simpa using hi)]
     by_cases hx:s.ex=false
     ·rw[if_pos (by rw[hx]; rfl)]
      refine⟨[],.exact,p,rfl,(by decide),?_⟩
      by_cases hm:cH [] p=false
      ·rw[if_pos (by rw[hm]; rfl)]
       exact⟨0,1,w,m,p,rfl,⟨rfl,rfl⟩,ro,ap.1,ap.2,tail _ _ (by simp[ws1,bnf hi]) (by simp[ws1,hx,hm,hs0])⟩
      ·rw[if_neg (by simpa using hm)]
       exact⟨ap.1,ap.2,tail _ _ (by simp[ws1,bnf hi]) (by simp only[ws1]; rw[hs0]; rw[bnf hm]; simp)⟩
     ·rw[if_neg (by simpa using hx)]
      exact⟨ap.1,ap.2,tail _ _ (by simp[ws1,bnf hi]) (by simp[ws1,bnf hx])⟩
   ·simp only[if_neg k0]
    refine tG w m b l r (wsP w s (r.pl.take k)).ids sz (wsP w s (r.pl.take k)).ex (wsP w s (r.pl.take k)).ps i k _ ?_
    simp only[au,dt,an,getD_map 0 h,cp]
    rw[if_pos (by omega)]
    refine⟨inl,?_⟩
    rw[if_pos (by rfl)]
    obtain⟨t,htd⟩:∃ t,t=wsP w s (r.pl.take k):=⟨_,rfl⟩
    obtain⟨p,hp⟩:∃ p,p=r.pl.getD k 0:=⟨_,rfl⟩
    rw[← htd,← hp] at hsucc
    simp only[← hp,← htd] at hpl ⊢
    have htl:t.ps.length+1≤1000000:=by rw[hsucc] at hpl2; simpa[ws1] using hpl2
    have tail:∀ b1 b2:Bool,b1=(ws1 w t p).ids→b2=(ws1 w t p).ex→∃ s':Nat,r.pl.length-s'<r.pl.length-k∧s'≤r.pl.length∧ef 3 [.ptr 0 0,.list (b.map rrc) .no,.list (l.map rrc) .no,.bool b1,.bool sz,.bool b2,.list (t.ps.map u1++[[.U p]]) (.tok 4),.list (l.map rrc) .no,.I l.length,.I i,.ptr 2 0,.list (r.pl.map u1) .no,.I r.pl.length,.I (wI ((k:Int)+1))] [.cells [.ptr 1 0],.abs (rkM (aq w) m),.cells (rrc r),.dead,.tok] (if s'=0 then [.ptr 0 0,.list (b.map rrc) .no,.list (l.map rrc) .no,.bool s.ids,.bool sz,.bool s.ex,.E,.list (l.map rrc) .no,.I l.length,.I i,.ptr 2 0,.list (r.pl.map u1) .no,.I r.pl.length,.I 0] else [.ptr 0 0,.list (b.map rrc) .no,.list (l.map rrc) .no,.bool (wsP w s (r.pl.take s')).ids,.bool sz,.bool (wsP w s (r.pl.take s')).ex,.list ((wsP w s (r.pl.take s')).ps.map u1) (.tok 3),.list (l.map rrc) .no,.I l.length,.I i,.ptr 2 0,.list (r.pl.map u1) .no,.I r.pl.length,.I s']) (if s'=0 then [.cells [.ptr 1 0],.abs (rkM (aq w) m),.cells (rrc r)] else [.cells [.ptr 1 0],.abs (rkM (aq w) m),.cells (rrc r),.tok]):=by
     rintro b1 b2 rfl rfl
     refine⟨k+1,by omega,h,?_⟩
     rw[if_neg (by omega),if_neg (by omega),hsucc,ar h (by omega)]
     refine aR [0,1,2,4] (WkL.refl _) (.cons rfl (.cells (.cons (.ptr (ρ:=fun o=>[0,1,2,4].getD o 0) 1 0 (by simp)) .nil)) (.cons rfl (.abs _) (.cons rfl (.cells (aU.low (bG r))) (.cons rfl .tok .nil)))) (by decide) (by simp) (fun o ho=>?_) (gm ⟨by simp,rfl⟩ ⟨by simp,rfl⟩ ?_)
     ·match o,ho with
      | 0,_=>rfl
      | 1,_=>rfl
      | 2,_=>rfl
     ·have:=Ren.ltok (ρ:=fun o=>[0,1,2,4].getD o 0) (n:=4) ((ws1 w t p).ps.map u1) 3 (by decide) (hlow _)
      have e2:(ws1 w t p).ps.map u1=t.ps.map u1++[[.U p]]:=by show(t.ps++[p]).map u1=_; rw[List.map_append]; rfl
      rw[← e2]; exact this
    have ap:aG (t.ps.map u1) [[.U p]] 1 4∧(List.all [PV.U p] PV.one=true∧[[PV.U p]]≠[]):=⟨aF (f:=u1) dc t.ps p (by omega),one_row dm p⟩
    by_cases hi:t.ids=false
    ·rw[if_pos (by rw[hi]; rfl)]
     by_cases hx:t.ex=false
     ·rw[if_pos (by rw[hx]; rfl)]
      refine⟨t.ps,.tok 3,p,rfl,(by omega),?_⟩
      by_cases hm:cH t.ps p=false
      ·rw[if_pos (by rw[hm]; rfl)]
       exact⟨0,1,w,m,p,rfl,⟨rfl,rfl⟩,ro,ap.1,ap.2,tail _ _ (by simp[ws1,hi]) (by simp[ws1,hx,hm])⟩
      ·rw[if_neg (by simpa using hm)]
       exact⟨ap.1,ap.2,tail _ _ (by simp[ws1,hi]) (by simp only[ws1]; rw[bnf hm]; simp)⟩
     ·rw[if_neg (by simpa using hx)]
      exact⟨ap.1,ap.2,tail _ _ (by simp[ws1,hi]) (by simp[ws1,bnf hx])⟩
    ·rw[if_neg (by simpa using hi)]
     by_cases hx:t.ex=false
     ·rw[if_pos (by rw[hx]; rfl)]
      refine⟨t.ps,.tok 3,p,rfl,(by omega),?_⟩
      by_cases hm:cH t.ps p=false
      ·rw[if_pos (by rw[hm]; rfl)]
       exact⟨0,1,w,m,p,rfl,⟨rfl,rfl⟩,ro,ap.1,ap.2,tail _ _ (by simp[ws1,bnf hi]) (by simp[ws1,hx,hm])⟩
      ·rw[if_neg (by simpa using hm)]
       exact⟨ap.1,ap.2,tail _ _ (by simp[ws1,bnf hi]) (by simp only[ws1]; rw[bnf hm]; simp)⟩
     ·rw[if_neg (by simpa using hx)]
      exact⟨ap.1,ap.2,tail _ _ (by simp[ws1,bnf hi]) (by simp[ws1,bnf hx])⟩
  ·have hkl:k=r.pl.length:=by omega
   subst hkl
   by_cases k0:r.pl.length=0
   ·have hn:r.pl=[]:=List.length_eq_zero_iff.1 k0
    simp only[if_pos k0]
    refine tx w m b l r s.ids sz s.ex i 0 _ ?_
    simp only[au,dt]
    rw[if_neg (by omega)]
    refine⟨_,_,aR [0,1,2] (WkL.refl _) (.cons rfl (.cells (.cons (.ptr (ρ:=fun o=>[0,1,2].getD o 0) 1 0 (by simp)) .nil)) (.cons rfl (.abs _) (.cons rfl (.cells (aU.low (bG r))) .nil))) (by decide) (by simp) (fun o ho=>?_) (gm ⟨by simp,rfl⟩ ⟨by simp,rfl⟩ (.low (aH NT.exact (by simp)))),hQ0 hn⟩
    match o,ho with
    | 0,_=>rfl
    | 1,_=>rfl
    | 2,_=>rfl
   ·have hn:r.pl≠[]:=fun e=>k0 (by rw[e]; rfl)
    simp only[if_neg k0]
    refine tG w m b l r (wsP w s (r.pl.take r.pl.length)).ids sz (wsP w s (r.pl.take r.pl.length)).ex (wsP w s (r.pl.take r.pl.length)).ps i r.pl.length _ ?_
    simp only[au,dt]
    rw[if_neg (by omega),List.take_length]
    refine⟨_,_,aR [0,1,2,3] (WkL.refl _) (.cons rfl (.cells (.cons (.ptr (ρ:=fun o=>[0,1,2,3].getD o 0) 1 0 (by simp)) .nil)) (.cons rfl (.abs _) (.cons rfl (.cells (aU.low (bG r))) (.cons rfl .tok .nil)))) (by decide) (by simp) (fun o ho=>?_) (gm ⟨by simp,rfl⟩ ⟨by simp,rfl⟩ (.ltok (ρ:=fun o=>[0,1,2,3].getD o 0) _ 3 (by simp) (bl fun a _=>bL a))),hQ1 hn⟩
    match o,ho with
    | 0,_=>rfl
    | 1,_=>rfl
    | 2,_=>rfl
def vp:LSp:=fun e H Q=>∃(w:List Mt) (m:Int) (b l:List Rr) (r:Rr) (s:WS) (sz:Bool) (i:Nat),MO w m∧r.pl.length≤1000000∧s.ps.length+r.pl.length≤1000000∧ah (List.map e [0,1,2,6,7,8,9,19,20,21,11,49,50,51]) [.ptr 0 0,.list (b.map rrc) .no,.list (l.map rrc) .no,.bool s.ids,.bool sz,.bool s.ex,.list (s.ps.map u1) (.tok 2),.list (l.map rrc) .no,.I l.length,.I i,.ptr 3 0,.list (r.pl.map u1) .no,.I r.pl.length,.I 0]∧av H [.cells [.ptr 1 0],.abs (rkM (aq w) m),.tok,.cells (rrc r)]∧(r.pl=[]→Q (.exit 2) (ak [0,1,2,6,7,8,9,19,20,21,11,49,50,51] [.ptr 0 0,.list (b.map rrc) .no,.list (l.map rrc) .no,.bool s.ids,.bool sz,.bool s.ex,.list (s.ps.map u1) (.tok 2),.list (l.map rrc) .no,.I l.length,.I i,.ptr 3 0,.list (r.pl.map u1) .no,.I r.pl.length,.I 0]) [.cells [.ptr 1 0],.abs (rkM (aq w) m),.tok,.cells (rrc r)])∧(r.pl≠[]→Q (.exit 2) (ak [0,1,2,6,7,8,9,19,20,21,11,49,50,51] [.ptr 0 0,.list (b.map rrc) .no,.list (l.map rrc) .no,.bool (wsP w s r.pl).ids,.bool sz,.bool (wsP w s r.pl).ex,.list ((wsP w s r.pl).ps.map u1) (.tok 4),.list (l.map rrc) .no,.I l.length,.I i,.ptr 3 0,.list (r.pl.map u1) .no,.I r.pl.length,.I r.pl.length]) [.cells [.ptr 1 0],.abs (rkM (aq w) m),.dead,.cells (rrc r),.tok])
theorem yP:∀ e H Q,vp e H Q→AwK Tryz.f56.ntmps (.loop (ai [1,1,1,0,1,0,0,1,1,0,0,1,1,1,0] (ag Tryz.f56))) Q e H:=by
 rintro e H Q ⟨w,m,b,l,r,s,sz,i,ro,hrl,hsl,he,hH,hQ0,hQ1⟩
 ·have hH:H=_:=hH
  have hHl:H.length=4:=by rw[hH]; rfl
  refine fB (hn:=fun o=>match o.dst with|some 76=>1|_=>0) aj kD (.nil _ _ _ _ _) (σ:=Nat) [0,1,2,6,7,8,9,19,20,21,11,49,50,51] (fun k=>k≤r.pl.length) (fun k=>if k=0 then [.ptr 0 0,.list (b.map rrc) .no,.list (l.map rrc) .no,.bool s.ids,.bool sz,.bool s.ex,.list (s.ps.map u1) (.tok 2),.list (l.map rrc) .no,.I l.length,.I i,.ptr 3 0,.list (r.pl.map u1) .no,.I r.pl.length,.I 0] else [.ptr 0 0,.list (b.map rrc) .no,.list (l.map rrc) .no,.bool (wsP w s (r.pl.take k)).ids,.bool sz,.bool (wsP w s (r.pl.take k)).ex,.list ((wsP w s (r.pl.take k)).ps.map u1) (.tok 4),.list (l.map rrc) .no,.I l.length,.I i,.ptr 3 0,.list (r.pl.map u1) .no,.I r.pl.length,.I k]) (fun k=>if k=0 then [.cells [.ptr 1 0],.abs (rkM (aq w) m),.tok,.cells (rrc r)] else [.cells [.ptr 1 0],.abs (rkM (aq w) m),.dead,.cells (rrc r),.tok]) (fun k=>r.pl.length-k) 0 (Nat.zero_le _) he hH ?_
  rw[hHl]
  intro k hk
  have hk:k≤r.pl.length:=hk
  have hps:=eN w (r.pl.take k) s
  have hpl:(wsP w s (r.pl.take k)).ps.length≤1000000:=by rw[hps,List.length_append,List.length_take]; omega
  by_cases h:k<r.pl.length
  ·have hsucc:=lH w s h
   have hlow:∀(ps:List Int),∀ x∈(ps.map u1).flatten,Low 0 x:=fun ps=>bl fun a _=>bL a
   have inl:InL (r.pl.map u1) 1 (k:Int):=by rw[dM]; exact h
   have cp:cI (u1 (r.pl.getD k 0)) 0=r.pl.getD k 0:=rfl
   have hpl2:(wsP w s (r.pl.take (k+1))).ps.length≤1000000:=by rw[eN,List.length_append,List.length_take]; omega
   by_cases k0:k=0
   ·subst k0
    have e1:wsP w s (r.pl.take 1)=ws1 w s (r.pl.getD 0 0):=hsucc
    simp only[if_pos]
    refine td w m b l r s.ids sz s.ex s.ps i 0 _ ?_
    simp only[au,dt,an,getD_map 0 h,cp]
    rw[if_pos (by omega)]
    refine⟨inl,?_⟩
    rw[if_pos (by rfl)]
    obtain⟨p,hp⟩:∃ p,p=r.pl.getD 0 0:=⟨_,rfl⟩
    rw[← hp] at e1
    simp only[← hp]
    have tail:∀ b1 b2:Bool,b1=(ws1 w s p).ids→b2=(ws1 w s p).ex→∃ s':Nat,r.pl.length-s'<r.pl.length-0∧s'≤r.pl.length∧ef 4 [.ptr 0 0,.list (b.map rrc) .no,.list (l.map rrc) .no,.bool b1,.bool sz,.bool b2,.list (s.ps.map u1++[[.U p]]) (.tok 4),.list (l.map rrc) .no,.I l.length,.I i,.ptr 3 0,.list (r.pl.map u1) .no,.I r.pl.length,.I (wI (((0:Nat):Int)+1))] [.cells [.ptr 1 0],.abs (rkM (aq w) m),.dead,.cells (rrc r),.tok] (if s'=0 then [.ptr 0 0,.list (b.map rrc) .no,.list (l.map rrc) .no,.bool s.ids,.bool sz,.bool s.ex,.list (s.ps.map u1) (.tok 2),.list (l.map rrc) .no,.I l.length,.I i,.ptr 3 0,.list (r.pl.map u1) .no,.I r.pl.length,.I 0] else [.ptr 0 0,.list (b.map rrc) .no,.list (l.map rrc) .no,.bool (wsP w s (r.pl.take s')).ids,.bool sz,.bool (wsP w s (r.pl.take s')).ex,.list ((wsP w s (r.pl.take s')).ps.map u1) (.tok 4),.list (l.map rrc) .no,.I l.length,.I i,.ptr 3 0,.list (r.pl.map u1) .no,.I r.pl.length,.I s']) (if s'=0 then [.cells [.ptr 1 0],.abs (rkM (aq w) m),.tok,.cells (rrc r)] else [.cells [.ptr 1 0],.abs (rkM (aq w) m),.dead,.cells (rrc r),.tok]):=by
     rintro b1 b2 rfl rfl
     refine⟨1,by omega,h,?_⟩
     rw[if_neg (by decide),if_neg (by decide),e1,show wI (((0:Nat):Int)+1)=((1:Nat):Int) from rfl]
     refine aR [0,1,2,3,4] (WkL.refl _) (.cons rfl (.cells (.cons (.ptr (ρ:=fun o=>[0,1,2,3,4].getD o 0) 1 0 (by simp)) .nil)) (.cons rfl (.abs _) (.cons rfl (.dead _) (.cons rfl (.cells (aU.low (bG r))) (.cons rfl .tok .nil))))) (by decide) (by simp) (fun o ho=>?_) (gm ⟨by simp,rfl⟩ ⟨by simp,rfl⟩ ?_)
     ·match o,ho with
      | 0,_=>rfl
      | 1,_=>rfl
      | 2,_=>rfl
      | 3,_=>rfl
     ·have:=Ren.ltok (ρ:=fun o=>[0,1,2,3,4].getD o 0) (n:=5) ((ws1 w s p).ps.map u1) 4 (by decide) (hlow _)
      have e2:(ws1 w s p).ps.map u1=s.ps.map u1++[[PV.U p]]:=by show(s.ps++[p]).map u1=_; rw[List.map_append]; rfl
      rw[← e2]; exact this
    have ap:aG (s.ps.map u1) [[.U p]] 1 4∧(List.all [PV.U p] PV.one=true∧[[PV.U p]]≠[]):=⟨aF (f:=u1) dc s.ps p (by omega),one_row dm p⟩
    by_cases hi:s.ids=false
    ·rw[if_pos (by rw[hi]; rfl)]
     by_cases hx:s.ex=false
     ·rw[if_pos (by rw[hx]; rfl)]
      refine⟨s.ps,.tok 2,p,rfl,(by omega),?_⟩
      by_cases hm:cH s.ps p=false
      ·rw[if_pos (by rw[hm]; rfl)]
       exact⟨0,1,w,m,p,rfl,⟨rfl,rfl⟩,ro,ap.1,ap.2,tail _ _ (by simp[ws1,hi]) (by simp[ws1,hx,hm])⟩
      ·rw[if_neg (by simpa using hm)]
       exact⟨ap.1,ap.2,tail _ _ (by simp[ws1,hi]) (by simp only[ws1]; rw[bnf hm]; simp)⟩
     ·rw[if_neg (by simpa using hx)]
      exact⟨ap.1,ap.2,tail _ _ (by simp[ws1,hi]) (by simp[ws1,bnf hx])⟩
    ·rw[if_neg (by simpa using hi)]
     by_cases hx:s.ex=false
     ·rw[if_pos (by rw[hx]; rfl)]
      refine⟨s.ps,.tok 2,p,rfl,(by omega),?_⟩
      by_cases hm:cH s.ps p=false
      ·rw[if_pos (by rw[hm]; rfl)]
       exact⟨0,1,w,m,p,rfl,⟨rfl,rfl⟩,ro,ap.1,ap.2,tail _ _ (by simp[ws1,bnf hi]) (by simp[ws1,hx,hm])⟩
      ·rw[if_neg (by simpa using hm)]
       exact⟨ap.1,ap.2,tail _ _ (by simp[ws1,bnf hi]) (by simp only[ws1]; rw[bnf hm]; simp)⟩
     ·rw[if_neg (by simpa using hx)]
      exact⟨ap.1,ap.2,tail _ _ (by simp[ws1,bnf hi]) (by simp[ws1,bnf hx])⟩
   ·simp only[if_neg k0]
    refine uG w m b l r (wsP w s (r.pl.take k)).ids sz (wsP w s (r.pl.take k)).ex (wsP w s (r.pl.take k)).ps i k _ ?_
    simp only[au,dt,an,getD_map 0 h,cp]
    rw[if_pos (by omega)]
    refine⟨inl,?_⟩
    rw[if_pos (by rfl)]
    obtain⟨t,htd⟩:∃ t,t=wsP w s (r.pl.take k):=⟨_,rfl⟩
    obtain⟨p,hp⟩:∃ p,p=r.pl.getD k 0:=⟨_,rfl⟩
    rw[← htd,← hp] at hsucc
    simp only[← hp,← htd] at hpl ⊢
    have htl:t.ps.length+1≤1000000:=by rw[hsucc] at hpl2; simpa[ws1] using hpl2
    have tail:∀ b1 b2:Bool,b1=(ws1 w t p).ids→b2=(ws1 w t p).ex→∃ s':Nat,r.pl.length-s'<r.pl.length-k∧s'≤r.pl.length∧ef 4 [.ptr 0 0,.list (b.map rrc) .no,.list (l.map rrc) .no,.bool b1,.bool sz,.bool b2,.list (t.ps.map u1++[[.U p]]) (.tok 5),.list (l.map rrc) .no,.I l.length,.I i,.ptr 3 0,.list (r.pl.map u1) .no,.I r.pl.length,.I (wI ((k:Int)+1))] [.cells [.ptr 1 0],.abs (rkM (aq w) m),.dead,.cells (rrc r),.dead,.tok] (if s'=0 then [.ptr 0 0,.list (b.map rrc) .no,.list (l.map rrc) .no,.bool s.ids,.bool sz,.bool s.ex,.list (s.ps.map u1) (.tok 2),.list (l.map rrc) .no,.I l.length,.I i,.ptr 3 0,.list (r.pl.map u1) .no,.I r.pl.length,.I 0] else [.ptr 0 0,.list (b.map rrc) .no,.list (l.map rrc) .no,.bool (wsP w s (r.pl.take s')).ids,.bool sz,.bool (wsP w s (r.pl.take s')).ex,.list ((wsP w s (r.pl.take s')).ps.map u1) (.tok 4),.list (l.map rrc) .no,.I l.length,.I i,.ptr 3 0,.list (r.pl.map u1) .no,.I r.pl.length,.I s']) (if s'=0 then [.cells [.ptr 1 0],.abs (rkM (aq w) m),.tok,.cells (rrc r)] else [.cells [.ptr 1 0],.abs (rkM (aq w) m),.dead,.cells (rrc r),.tok]):=by
     rintro b1 b2 rfl rfl
     refine⟨k+1,by omega,h,?_⟩
     rw[if_neg (by omega),if_neg (by omega),hsucc,ar h (by omega)]
     refine aR [0,1,2,3,5] (WkL.refl _) (.cons rfl (.cells (.cons (.ptr (ρ:=fun o=>[0,1,2,3,5].getD o 0) 1 0 (by simp)) .nil)) (.cons rfl (.abs _) (.cons rfl (.dead _) (.cons rfl (.cells (aU.low (bG r))) (.cons rfl .tok .nil))))) (by decide) (by simp) (fun o ho=>?_) (gm ⟨by simp,rfl⟩ ⟨by simp,rfl⟩ ?_)
     ·match o,ho with
      | 0,_=>rfl
      | 1,_=>rfl
      | 2,_=>rfl
      | 3,_=>rfl
     ·have:=Ren.ltok (ρ:=fun o=>[0,1,2,3,5].getD o 0) (n:=5) ((ws1 w t p).ps.map u1) 4 (by decide) (hlow _)
      have e2:(ws1 w t p).ps.map u1=t.ps.map u1++[[.U p]]:=by show(t.ps++[p]).map u1=_; rw[List.map_append]; rfl
      rw[← e2]; exact this
    have ap:aG (t.ps.map u1) [[.U p]] 1 4∧(List.all [PV.U p] PV.one=true∧[[PV.U p]]≠[]):=⟨aF (f:=u1) dc t.ps p (by omega),one_row dm p⟩
    by_cases hi:t.ids=false
    ·rw[if_pos (by rw[hi]; rfl)]
     by_cases hx:t.ex=false
     ·rw[if_pos (by rw[hx]; rfl)]
      refine⟨t.ps,.tok 4,p,rfl,(by omega),?_⟩
      by_cases hm:cH t.ps p=false
      ·rw[if_pos (by rw[hm]; rfl)]
       exact⟨0,1,w,m,p,rfl,⟨rfl,rfl⟩,ro,ap.1,ap.2,tail _ _ (by simp[ws1,hi]) (by simp[ws1,hx,hm])⟩
      ·rw[if_neg (by simpa using hm)]
       exact⟨ap.1,ap.2,tail _ _ (by simp[ws1,hi]) (by simp only[ws1]; rw[bnf hm]; simp)⟩
     ·rw[if_neg (by simpa using hx)]
      exact⟨ap.1,ap.2,tail _ _ (by simp[ws1,hi]) (by simp[ws1,bnf hx])⟩
    ·rw[if_neg (by simpa using hi)]
     by_cases hx:t.ex=false
     ·rw[if_pos (by rw[hx]; rfl)]
      refine⟨t.ps,.tok 4,p,rfl,(by omega),?_⟩
      by_cases hm:cH t.ps p=false
      ·rw[if_pos (by rw[hm]; rfl)]
       exact⟨0,1,w,m,p,rfl,⟨rfl,rfl⟩,ro,ap.1,ap.2,tail _ _ (by simp[ws1,bnf hi]) (by simp[ws1,hx,hm])⟩
      ·rw[if_neg (by simpa using hm)]
       exact⟨ap.1,ap.2,tail _ _ (by simp[ws1,bnf hi]) (by simp only[ws1]; rw[bnf hm]; simp)⟩
     ·rw[if_neg (by simpa using hx)]
      exact⟨ap.1,ap.2,tail _ _ (by simp[ws1,bnf hi]) (by simp[ws1,bnf hx])⟩
  ·have hkl:k=r.pl.length:=by omega
   subst hkl
   by_cases k0:r.pl.length=0
   ·have hn:r.pl=[]:=List.length_eq_zero_iff.1 k0
    simp only[if_pos k0]
    refine td w m b l r s.ids sz s.ex s.ps i 0 _ ?_
    simp only[au,dt]
    rw[if_neg (by omega)]
    refine⟨_,_,aR [0,1,2,3] (WkL.refl _) (.cons rfl (.cells (.cons (.ptr (ρ:=fun o=>[0,1,2,3].getD o 0) 1 0 (by simp)) .nil)) (.cons rfl (.abs _) (.cons rfl .tok (.cons rfl (.cells (aU.low (bG r))) .nil)))) (by decide) (by simp) (fun o ho=>?_) (gm ⟨by simp,rfl⟩ ⟨by simp,rfl⟩ (.ltok (ρ:=fun o=>[0,1,2,3].getD o 0) _ 2 (by simp) (bl fun a _=>bL a))),hQ0 hn⟩
    match o,ho with
    | 0,_=>rfl
    | 1,_=>rfl
    | 2,_=>rfl
    | 3,_=>rfl
   ·have hn:r.pl≠[]:=fun e=>k0 (by rw[e]; rfl)
    simp only[if_neg k0]
    refine uG w m b l r (wsP w s (r.pl.take r.pl.length)).ids sz (wsP w s (r.pl.take r.pl.length)).ex (wsP w s (r.pl.take r.pl.length)).ps i r.pl.length _ ?_
    simp only[au,dt]
    rw[if_neg (by omega),List.take_length]
    refine⟨_,_,aR [0,1,2,3,4] (WkL.refl _) (.cons rfl (.cells (.cons (.ptr (ρ:=fun o=>[0,1,2,3,4].getD o 0) 1 0 (by simp)) .nil)) (.cons rfl (.abs _) (.cons rfl (.dead _) (.cons rfl (.cells (aU.low (bG r))) (.cons rfl .tok .nil))))) (by decide) (by simp) (fun o ho=>?_) (gm ⟨by simp,rfl⟩ ⟨by simp,rfl⟩ (.ltok (ρ:=fun o=>[0,1,2,3,4].getD o 0) _ 4 (by simp) (bl fun a _=>bL a))),hQ1 hn⟩
    match o,ho with
    | 0,_=>rfl
    | 1,_=>rfl
    | 2,_=>rfl
    | 3,_=>rfl
theorem xm:ai [1,1,0,0,1,1,1,0] (ai [1,1,1,0,1,0] (ag Tryz.f56))=ai [1,1,1,0,1,0,0,1,1,0,0,1,1,1,0] (ag Tryz.f56):=by kernel_rfl
theorem o8:∀ e H Q,uX e H Q→AwK Tryz.f56.ntmps (.loop (ai [1,1,0,0,1,1,1,0] (ai [1,1,1,0,1,0] (ag Tryz.f56)))) Q e H:=by
 rw[xm]; exact Ar
theorem o9:∀ e H Q,vp e H Q→AwK Tryz.f56.ntmps (.loop (ai [1,1,0,0,1,1,1,0] (ai [1,1,1,0,1,0] (ag Tryz.f56)))) Q e H:=by
 rw[xm]; exact yP
theorem Lp (w:List Mt) (m:Int) (b l:List Rr) (ids sz ex:Bool) (r:Rr) (i:Nat):(by refine(?_:_→_→_→_→_→Prop) (PV.list (l.map rrc) .no) (PV.list (b.map rrc) .no) (↑(List.length (r.pl.map u1)):Int) (PV.I l.length) (Ob.abs (rkM (aq w) m)); exact fun f g h j k=>by refine(?_:_→Prop) [Ob.cells [.ptr 1 0],k,.cells [.I r.tm,.list (r.pl.map u1) .no,.I r.rt,.I r.wd]]; exact fun d=>∀(R:Ex→List PV→ae→Prop),by refine(?_:_→Prop) (R .normal [.ptr 0 0,g,f,.bool ids,.bool true,.bool ex,.E,f,j,.I i,.ptr 2 0] d); exact fun a=>by refine(?_:_→Prop) (br (decide (h<1) == false) (R .normal [.ptr 0 0,g,f,.bool ids,.bool (decide (h>4)),.bool ex,.E,f,j,.I i,.ptr 2 0] d) a); exact fun c=>(br (sz == false) (br ((r.tm != 1) == true) (br ((r.tm != 2) == false) c a) c) a)→Holds (wpK [] [] (fun _=>0) (bX [1,1,1,0,1,0,0,1,1,0,0,1,0] (ag Tryz.f56)) [] (ak [0,1,2,6,7,8,9,19,20,21,11] [.ptr 0 0,g,f,.bool ids,.bool sz,.bool ex,.E,f,j,.I i,.ptr 2 0]) [.cells [.ptr 1 0],k,.cells (rrc r)] (fun ex e H=>R ex (List.map e [0,1,2,6,7,8,9,19,20,21,11]) H)):Prop):=fun R h=>hoE h
theorem K4 (w:List Mt) (m:Int) (b l:List Rr) (ids sz ex:Bool) (ps:List Int) (r:Rr) (i:Nat):(by refine(?_:_→_→_→_→_→_→Prop) (PV.list (l.map rrc) .no) (PV.list (ps.map u1) (.tok 2)) (PV.list (b.map rrc) .no) (↑(List.length (r.pl.map u1)):Int) (PV.I l.length) (Ob.abs (rkM (aq w) m)); exact fun f g h j k n=>by refine(?_:_→Prop) [Ob.cells [.ptr 1 0],n,.tok,.cells [.I r.tm,.list (r.pl.map u1) .no,.I r.rt,.I r.wd]]; exact fun d=>∀(R:Ex→List PV→ae→Prop),by refine(?_:_→Prop) (R .normal [.ptr 0 0,h,f,.bool ids,.bool true,.bool ex,g,f,k,.I i,.ptr 3 0] d); exact fun a=>by refine(?_:_→Prop) (br (decide (j<1) == false) (R .normal [.ptr 0 0,h,f,.bool ids,.bool (decide (j>4)),.bool ex,g,f,k,.I i,.ptr 3 0] d) a); exact fun c=>(br (sz == false) (br ((r.tm != 1) == true) (br ((r.tm != 2) == false) c a) c) a)→Holds (wpK [] [] (fun _=>0) (bX [1,1,1,0,1,0,0,1,1,0,0,1,0] (ag Tryz.f56)) [] (ak [0,1,2,6,7,8,9,19,20,21,11] [.ptr 0 0,h,f,.bool ids,.bool sz,.bool ex,g,f,k,.I i,.ptr 3 0]) [.cells [.ptr 1 0],n,.tok,.cells (rrc r)] (fun ex e H=>R ex (List.map e [0,1,2,6,7,8,9,19,20,21,11]) H)):Prop):=fun R h=>hoE h
def DE:LSp:=fun e H Q=>∃(w:List Mt) (m:Int) (b l:List Rr) (r:Rr) (ids sz ex:Bool) (i:Nat),r.pl.length≤1000000∧ah (List.map e [0,1,2,6,7,8,9,19,20,21,11]) [.ptr 0 0,.list (b.map rrc) .no,.list (l.map rrc) .no,.bool ids,.bool sz,.bool ex,.E,.list (l.map rrc) .no,.I l.length,.I i,.ptr 2 0]∧av H [.cells [.ptr 1 0],.abs (rkM (aq w) m),.cells (rrc r)]∧Q .normal (ak [0,1,2,6,7,8,9,19,20,21,11] [.ptr 0 0,.list (b.map rrc) .no,.list (l.map rrc) .no,.bool ids,.bool (sz || bY r),.bool ex,.E,.list (l.map rrc) .no,.I l.length,.I i,.ptr 2 0]) [.cells [.ptr 1 0],.abs (rkM (aq w) m),.cells (rrc r)]
theorem DO:∀ e H Q,DE e H Q→AwK Tryz.f56.ntmps (bX [1,1,1,0,1,0,0,1,1,0,0,1,0] (ag Tryz.f56)) Q e H:=by
 rintro e H Q ⟨w,m,b,l,r,ids,sz,ex,i,hrl,he,hH,hQ⟩
 have hH:H=_:=hH
 subst hH
 have he:List.map e [0,1,2,6,7,8,9,19,20,21,11]=_:=he
 refine dj (T:=[]) (slots:=[0,1,2,6,7,8,9,19,20,21,11]) (outs:=[0,1,2,6,7,8,9,19,20,21,11]) (hn:=fun _=>0) (.nil _ _) (.nil _ _ _ _ _) he rfl (Lp w m b l ids sz ex r i (fun ex' vs H'=>Q ex' (ak [0,1,2,6,7,8,9,19,20,21,11] vs) H') ?_)
 simp only[au,List.length_map]
 have tail:∀ z:Bool,z=(sz || bY r)→Q .normal (ak [0,1,2,6,7,8,9,19,20,21,11] [.ptr 0 0,.list (b.map rrc) .no,.list (l.map rrc) .no,.bool ids,.bool z,.bool ex,.E,.list (l.map rrc) .no,.I l.length,.I i,.ptr 2 0]) [.cells [.ptr 1 0],.abs (rkM (aq w) m),.cells (rrc r)]:=by rintro z rfl; exact hQ
 unfold bY at tail
 by_cases h0:sz=false
 ·rw[if_pos (by rw[h0]; rfl)]
  by_cases h1:(r.tm != 1)=true
  ·rw[if_pos (by rw[h1]; rfl)]
   by_cases h2:(r.tm != 2)=false
   ·rw[if_pos (by rw[h2]; rfl)]
    by_cases h3:r.pl.length<1
    ·rw[if_neg (by simp; omega)]; exact tail _ (by rw[decide_eq_true h3]; simp)
    ·rw[if_pos (by simp; omega)]; exact tail _ (by rw[h0,h1,h2,decide_eq_false h3]; simp; omega)
   ·rw[if_neg (by simpa using h2)]; exact tail _ (by rw[h1,bnf h2]; simp)
  ·rw[if_neg (by simpa using h1)]
   have h1':(r.tm != 1)=false:=by simpa using h1
   by_cases h3:r.pl.length<1
   ·rw[if_neg (by simp; omega)]; exact tail _ (by rw[decide_eq_true h3]; simp)
   ·rw[if_pos (by simp; omega)]; exact tail _ (by rw[h0,h1',decide_eq_false h3]; simp; omega)
 ·rw[if_neg (by simpa using h0)]; exact tail _ (by rw[bnf h0]; simp)
theorem Ii:bX [1,1,0,0,1,0] (ai [1,1,1,0,1,0] (ag Tryz.f56))=bX [1,1,1,0,1,0,0,1,1,0,0,1,0] (ag Tryz.f56):=by kernel_rfl
theorem qS:∀ e H Q,DE e H Q→AwK Tryz.f56.ntmps (bX [1,1,0,0,1,0] (ai [1,1,1,0,1,0] (ag Tryz.f56))) Q e H:=by
 rw[Ii]; exact DO
def Fs:LSp:=fun e H Q=>∃(w:List Mt) (m:Int) (b l:List Rr) (r:Rr) (ids sz ex:Bool) (ps:List Int) (i:Nat),r.pl.length≤1000000∧ah (List.map e [0,1,2,6,7,8,9,19,20,21,11]) [.ptr 0 0,.list (b.map rrc) .no,.list (l.map rrc) .no,.bool ids,.bool sz,.bool ex,.list (ps.map u1) (.tok 2),.list (l.map rrc) .no,.I l.length,.I i,.ptr 3 0]∧av H [.cells [.ptr 1 0],.abs (rkM (aq w) m),.tok,.cells (rrc r)]∧Q .normal (ak [0,1,2,6,7,8,9,19,20,21,11] [.ptr 0 0,.list (b.map rrc) .no,.list (l.map rrc) .no,.bool ids,.bool (sz || bY r),.bool ex,.list (ps.map u1) (.tok 2),.list (l.map rrc) .no,.I l.length,.I i,.ptr 3 0]) [.cells [.ptr 1 0],.abs (rkM (aq w) m),.tok,.cells (rrc r)]
theorem AJ:∀ e H Q,Fs e H Q→AwK Tryz.f56.ntmps (bX [1,1,1,0,1,0,0,1,1,0,0,1,0] (ag Tryz.f56)) Q e H:=by
 rintro e H Q ⟨w,m,b,l,r,ids,sz,ex,ps,i,hrl,he,hH,hQ⟩
 have hH:H=_:=hH
 subst hH
 have he:List.map e [0,1,2,6,7,8,9,19,20,21,11]=_:=he
 refine dj (T:=[]) (slots:=[0,1,2,6,7,8,9,19,20,21,11]) (outs:=[0,1,2,6,7,8,9,19,20,21,11]) (hn:=fun _=>0) (.nil _ _) (.nil _ _ _ _ _) he rfl (K4 w m b l ids sz ex ps r i (fun ex' vs H'=>Q ex' (ak [0,1,2,6,7,8,9,19,20,21,11] vs) H') ?_)
 simp only[au,List.length_map]
 have tail:∀ z:Bool,z=(sz || bY r)→Q .normal (ak [0,1,2,6,7,8,9,19,20,21,11] [.ptr 0 0,.list (b.map rrc) .no,.list (l.map rrc) .no,.bool ids,.bool z,.bool ex,.list (ps.map u1) (.tok 2),.list (l.map rrc) .no,.I l.length,.I i,.ptr 3 0]) [.cells [.ptr 1 0],.abs (rkM (aq w) m),.tok,.cells (rrc r)]:=by rintro z rfl; exact hQ
 unfold bY at tail
 by_cases h0:sz=false
 ·rw[if_pos (by rw[h0]; rfl)]
  by_cases h1:(r.tm != 1)=true
  ·rw[if_pos (by rw[h1]; rfl)]
   by_cases h2:(r.tm != 2)=false
   ·rw[if_pos (by rw[h2]; rfl)]
    by_cases h3:r.pl.length<1
    ·rw[if_neg (by simp; omega)]; exact tail _ (by rw[decide_eq_true h3]; simp)
    ·rw[if_pos (by simp; omega)]; exact tail _ (by rw[h0,h1,h2,decide_eq_false h3]; simp; omega)
   ·rw[if_neg (by simpa using h2)]; exact tail _ (by rw[h1,bnf h2]; simp)
  ·rw[if_neg (by simpa using h1)]
   have h1':(r.tm != 1)=false:=by simpa using h1
   by_cases h3:r.pl.length<1
   ·rw[if_neg (by simp; omega)]; exact tail _ (by rw[decide_eq_true h3]; simp)
   ·rw[if_pos (by simp; omega)]; exact tail _ (by rw[h0,h1',decide_eq_false h3]; simp; omega)
 ·rw[if_neg (by simpa using h0)]; exact tail _ (by rw[bnf h0]; simp)
theorem FD:bX [1,1,0,0,1,0] (ai [1,1,1,0,1,0] (ag Tryz.f56))=bX [1,1,1,0,1,0,0,1,1,0,0,1,0] (ag Tryz.f56):=by kernel_rfl
theorem qH:∀ e H Q,Fs e H Q→AwK Tryz.f56.ntmps (bX [1,1,0,0,1,0] (ai [1,1,1,0,1,0] (ag Tryz.f56))) Q e H:=by
 rw[FD]; exact AJ
theorem xq (w:List Mt) (m:Int) (b l:List Rr) (ids sz ex:Bool) (i:Nat):(by refine(?_:_→_→_→_→_→_→Prop) (List.getD (l.map rrc) (Int.toNat (i:Int)) []) (PV.list (l.map rrc) .no) (Ob.abs (rkM (aq w) m)) (Ob.cells [.ptr 1 0]) (PV.list (b.map rrc) .no) (PV.I l.length); exact fun u x y A B C=>by refine(?_:_→_→Prop) [PV.ptr 0 0,B,x,.bool ids,.bool sz,.bool ex,.E,x,C,.I i] [A,y]; exact fun v z=>∀(R:Ex→List PV→ae→Prop),(br (decide ((i:Int)<(l.length:Int))) (InL (l.map rrc) 4 (i:Int)∧br (true && aE [.int .i64,.list,.int .i64,.int .i64] 0 u) (∃(w_1:List Mt) (m_1:Int) (b_1:List Rr) (l_1:List Rr) (r:Rr) (ids_1:Bool) (sz_1:Bool) (ex_1:Bool) (i_1:Nat),by refine(?_:_→_→_→_→Prop) (PV.list (l_1.map rrc) .no) (PV.list (r.pl.map u1) .no) (PV.list (b_1.map rrc) .no) (PV.I l_1.length); exact fun o p q t=>by refine(?_:_→Prop) [A,.abs (rkM (aq w_1) m_1),.cells [.I r.tm,p,.I r.rt,.I r.wd]]; exact fun n=>r.pl.length≤1000000∧ah [.ptr 0 0,B,x,.bool ids,.bool sz,.bool ex,.E,x,C,.I i,.ptr 2 0] [.ptr 0 0,q,o,.bool ids_1,.bool sz_1,.bool ex_1,.E,o,t,.I i_1,.ptr 2 0]∧av [.cells [.ptr 1 0],y,.cells [.I (cI u 0),.list (cL u 1) (cT u 1),.I (cI u 2),.I (cI u 3)]] n∧∃(w:List Mt) (m:Int) (b:List Rr) (l:List Rr) (r_1:Rr) (s:WS) (sz:Bool) (i:Nat),by refine(?_:_→_→_→_→_→_→Prop) (PV.list (l.map rrc) .no) (PV.list (b.map rrc) .no) (PV.I l.length) (PV.I (wI ((i:Int)+1))) (PV.list (r_1.pl.map u1) .no) (Ob.abs (rkM (aq w) m)); exact fun c f g h j k=>by refine(?_:_→Prop) (Ob.cells [.I r_1.tm,j,.I r_1.rt,.I r_1.wd]); exact fun a=>by refine(?_:_→Prop) [A,k,a]; exact fun d=>MO w m∧r_1.pl.length≤1000000∧s.ps.length+r_1.pl.length≤1000000∧s.ps=[]∧ah [.ptr 0 0,q,o,.bool ids_1,.bool (sz_1 || bY r),.bool ex_1,.E,o,t,.I i_1,.ptr 2 0,p,.I (↑(List.length (r.pl.map u1)):Int),.I 0] [.ptr 0 0,f,c,.bool s.ids,.bool sz,.bool s.ex,.E,c,g,.I i,.ptr 2 0,j,.I r_1.pl.length,.I 0]∧av n d∧(r_1.pl=[]→R .normal [.ptr 0 0,f,c,.bool s.ids,.bool sz,.bool s.ex,.E,c,g,h] d)∧(r_1.pl≠[]→R .normal [.ptr 0 0,f,c,.bool (WS.ids (wsP w s r_1.pl)),.bool sz,.bool (WS.ex (wsP w s r_1.pl)),.list (List.map u1 (WS.ps (wsP w s r_1.pl))) (.tok 3),c,g,h] [.cells [.ptr 1 0],k,a,.tok])) False) (R (.exit 0) v z))→Holds (wpK TWR [([1,1,0,0,1,1,1,0],uX),([1,1,0,0,1,0],DE)] (fun _=>0) (ai [1,1,1,0,1,0] (ag Tryz.f56)) [] (ak [0,1,2,6,7,8,9,19,20,21] v) z (fun ex e H=>R ex (List.map e [0,1,2,6,7,8,9,19,20,21]) H)):Prop):=fun R h=>hoE h
theorem xl (w:List Mt) (m:Int) (b l:List Rr) (ids sz ex:Bool) (ps:List Int) (i:Nat):(by refine(?_:_→_→_→_→_→_→_→Prop) (List.getD (l.map rrc) (Int.toNat (i:Int)) []) (PV.list (l.map rrc) .no) (Ob.cells [.ptr 1 0]) (PV.list (ps.map u1) (.tok 2)) (Ob.abs (rkM (aq w) m)) (PV.list (b.map rrc) .no) (PV.I l.length); exact fun x z B C D E F=>by refine(?_:_→_→Prop) [PV.ptr 0 0,E,z,.bool ids,.bool sz,.bool ex,C,z,F,.I i] [B,D,.tok]; exact fun y A=>∀(R:Ex→List PV→ae→Prop),(br (decide ((i:Int)<(l.length:Int))) (InL (l.map rrc) 4 (i:Int)∧br (true && aE [.int .i64,.list,.int .i64,.int .i64] 0 x) (∃(w_1:List Mt) (m_1:Int) (b_1:List Rr) (l_1:List Rr) (r:Rr) (ids_1:Bool) (sz_1:Bool) (ex_1:Bool) (ps_1:List Int) (i_1:Nat),by refine(?_:_→_→_→_→_→Prop) (PV.list (l_1.map rrc) .no) (PV.list (ps_1.map u1) (.tok 2)) (PV.list (r.pl.map u1) .no) (PV.list (b_1.map rrc) .no) (PV.I l_1.length); exact fun p q t u v=>by refine(?_:_→Prop) [B,.abs (rkM (aq w_1) m_1),.tok,.cells [.I r.tm,t,.I r.rt,.I r.wd]]; exact fun o=>r.pl.length≤1000000∧ah [.ptr 0 0,E,z,.bool ids,.bool sz,.bool ex,C,z,F,.I i,.ptr 3 0] [.ptr 0 0,u,p,.bool ids_1,.bool sz_1,.bool ex_1,q,p,v,.I i_1,.ptr 3 0]∧av [.cells [.ptr 1 0],D,.tok,.cells [.I (cI x 0),.list (cL x 1) (cT x 1),.I (cI x 2),.I (cI x 3)]] o∧∃(w:List Mt) (m:Int) (b:List Rr) (l:List Rr) (r_1:Rr) (s:WS) (sz:Bool) (i:Nat),by refine(?_:_→_→_→_→_→_→_→Prop) (PV.list (l.map rrc) .no) (PV.list (b.map rrc) .no) (PV.I l.length) (PV.I (wI ((i:Int)+1))) (PV.list (s.ps.map u1) (.tok 2)) (PV.list (r_1.pl.map u1) .no) (Ob.abs (rkM (aq w) m)); exact fun c f g h j k n=>by refine(?_:_→Prop) (Ob.cells [.I r_1.tm,k,.I r_1.rt,.I r_1.wd]); exact fun a=>by refine(?_:_→Prop) [B,n,.tok,a]; exact fun d=>MO w m∧r_1.pl.length≤1000000∧s.ps.length+r_1.pl.length≤1000000∧ah [.ptr 0 0,u,p,.bool ids_1,.bool (sz_1 || bY r),.bool ex_1,q,p,v,.I i_1,.ptr 3 0,t,.I (↑(List.length (r.pl.map u1)):Int),.I 0] [.ptr 0 0,f,c,.bool s.ids,.bool sz,.bool s.ex,j,c,g,.I i,.ptr 3 0,k,.I r_1.pl.length,.I 0]∧av o d∧(r_1.pl=[]→R .normal [.ptr 0 0,f,c,.bool s.ids,.bool sz,.bool s.ex,j,c,g,h] d)∧(r_1.pl≠[]→R .normal [.ptr 0 0,f,c,.bool (WS.ids (wsP w s r_1.pl)),.bool sz,.bool (WS.ex (wsP w s r_1.pl)),.list (List.map u1 (WS.ps (wsP w s r_1.pl))) (.tok 4),c,g,h] [.cells [.ptr 1 0],n,.dead,a,.tok])) False) (R (.exit 0) y A))→Holds (wpK TWR [([1,1,0,0,1,1,1,0],vp),([1,1,0,0,1,0],Fs)] (fun _=>0) (ai [1,1,1,0,1,0] (ag Tryz.f56)) [] (ak [0,1,2,6,7,8,9,19,20,21] y) A (fun ex e H=>R ex (List.map e [0,1,2,6,7,8,9,19,20,21]) H)):Prop):=fun R h=>hoE h
theorem jS {ρ:Nat→Nat} {n:Nat} {b l:List Rr} {ids sz ex:Bool} {z:Int} {T T':PV} (h0:0<n∧ρ 0=0) (hT:Ren ρ n T T'):aU ρ n [.ptr 0 0,.list (b.map rrc) .no,.list (l.map rrc) .no,.bool ids,.bool sz,.bool ex,T,.list (l.map rrc) .no,.I l.length,.I z] [.ptr 0 0,.list (b.map rrc) .no,.list (l.map rrc) .no,.bool ids,.bool sz,.bool ex,T',.list (l.map rrc) .no,.I l.length,.I z]:=by
 have e0:=Ren.ptr (ρ:=ρ) (n:=n) 0 0 h0.1
 rw[h0.2] at e0
 exact .cons e0 (.cons (.low (aP _)) (.cons (.low (aP _)) (.cons (.low (.bool _)) (.cons (.low (.bool _)) (.cons (.low (.bool _)) (.cons hT (.cons (.low (aP _)) (.cons (.low (.int _ _)) (.cons (.low (.int _ _)) .nil)))))))))
theorem ue {l:List Rr} {k:Nat} (h:k<l.length):(l.take (k+1)).any bY=((l.take k).any bY || bY (l.getD k default)):=by
 rw[aI default h,List.any_append]; simp
def ws0:WS:=⟨false,false,[]⟩
def I6:LSp:=fun e H Q=>∃(w:List Mt) (m:Int) (b l:List Rr) (sz:Bool),MO w m∧l.length≤1000000∧tot l≤1000000∧ah (List.map e [0,1,2,6,7,8,9,19,20,21]) [.ptr 0 0,.list (b.map rrc) .no,.list (l.map rrc) .no,.bool false,.bool sz,.bool false,.E,.list (l.map rrc) .no,.I l.length,.I 0]∧av H [.cells [.ptr 1 0],.abs (rkM (aq w) m)]∧∀(T:PV) (G:ae),Q (.exit 0) (ak [0,1,2,6,7,8,9,19,20,21] [.ptr 0 0,.list (b.map rrc) .no,.list (l.map rrc) .no,.bool (wsR w ws0 l).ids,.bool (sz || l.any bY),.bool (wsR w ws0 l).ex,T,.list (l.map rrc) .no,.I l.length,.I l.length]) ([.cells [.ptr 1 0],.abs (rkM (aq w) m)]++G)
theorem B6:∀ e H Q,I6 e H Q→AwK Tryz.f56.ntmps (.loop (ai [1,1,1,0,1,0] (ag Tryz.f56))) Q e H:=by
 rintro e H Q ⟨w,m,b,l,sz,ro,hl,ht,he,hH,hQ⟩
 have hH:H=_:=hH
 have he:List.map e [0,1,2,6,7,8,9,19,20,21]=_:=he
 have hHl:H.length=2:=by rw[hH]; rfl
 have hpl:∀ r∈l,r.pl.length≤1000000:=fun r hr=>Nat.le_trans (vn hr) ht
 refine uD (σ:=Nat) aj [0,1,2,6,7,8,9,19,20,21] (fun i=>i≤l.length) (fun i=>if(wsR w ws0 (l.take i)).ps=[] then [.ptr 0 0,.list (b.map rrc) .no,.list (l.map rrc) .no,.bool (wsR w ws0 (l.take i)).ids,.bool (sz || (l.take i).any bY),.bool (wsR w ws0 (l.take i)).ex,.E,.list (l.map rrc) .no,.I l.length,.I i] else [.ptr 0 0,.list (b.map rrc) .no,.list (l.map rrc) .no,.bool (wsR w ws0 (l.take i)).ids,.bool (sz || (l.take i).any bY),.bool (wsR w ws0 (l.take i)).ex,.list ((wsR w ws0 (l.take i)).ps.map u1) (.tok 2),.list (l.map rrc) .no,.I l.length,.I i]) (fun i=>if(wsR w ws0 (l.take i)).ps=[] then [.cells [.ptr 1 0],.abs (rkM (aq w) m)] else [.cells [.ptr 1 0],.abs (rkM (aq w) m),.tok]) (fun i=>l.length-i) 0 (Nat.zero_le _) (by rw[he,List.take_zero,if_pos (show(wsR w ws0 []).ps=[] from rfl)]; simp[wsR,ws0]) (by rw[hH,List.take_zero,if_pos (show(wsR w ws0 []).ps=[] from rfl)]) ?_
 rw[hHl]
 intro i hi
 have hi:i≤l.length:=hi
 by_cases h:i<l.length
 ·obtain⟨r,hr⟩:∃ r,r=l.getD i default:=⟨_,rfl⟩
  have hsucc:=ur w ws0 h
  have hany:=ue h
  rw[← hr] at hsucc hany
  have hrl:r.pl.length≤1000000:=hpl r (by rw[hr]; exact aX h)
  have hsl:(wsR w ws0 (l.take i)).ps.length+r.pl.length≤1000000:=by
   have h1:=sb w (l.take (i+1)) ws0
   have h2:=fO (l:=l) (i+1)
   rw[hsucc,eN,List.length_append] at h1
   have:ws0.ps.length=0:=rfl
   omega
  have inl:InL (l.map rrc) 4 (i:Int):=by rw[dP]; exact h
  have hps:=eN w r.pl (wsR w ws0 (l.take i))
  have tailE:r.pl=[]→wsP w (wsR w ws0 (l.take i)) r.pl=wsR w ws0 (l.take i):=fun e=>by rw[e]; rfl
  have hor:(sz || (l.take (i+1)).any bY)=((sz || (l.take i).any bY) || bY r):=by rw[hany,Bool.or_assoc]
  by_cases h0:(wsR w ws0 (l.take i)).ps=[]
  ·simp only[if_pos h0]
   refine aY kD _ [] (.cons suE o8 (.cons atE qS (.nil _ _ _ _ _))) _ _ _ (xq w m b l (wsR w ws0 (l.take i)).ids (sz || (l.take i).any bY) (wsR w ws0 (l.take i)).ex i _ ?_).out
   simp only[au,dt,an,getD_map default h,← hr]
   rw[if_pos (by omega)]
   refine⟨inl,?_⟩
   rw[if_pos (by rfl)]
   refine⟨w,m,b,l,r,_,_,_,i,hrl,rfl,rfl,w,m,b,l,r,wsR w ws0 (l.take i),(sz || (l.take i).any bY || bY r),i,ro,hrl,hsl,h0,(by show _=_; simp only[List.length_map]),rfl,fun hn=>?_,fun hn=>?_⟩
   ·have e2:(wsR w ws0 (l.take (i+1))).ps=[]:=by rw[hsucc,tailE hn]; exact h0
    refine⟨i+1,(show l.length-(i+1)<l.length-i by omega),h,?_⟩
    simp only[if_pos e2]
    rw[hor,hsucc,tailE hn,ar h (by omega)]
    exact aR [0,1] (WkL.refl _) (.cons rfl (.cells (.cons (.ptr (ρ:=fun o=>[0,1].getD o 0) 1 0 (by simp)) .nil)) (.cons rfl (.abs _) .nil)) (by decide) (by simp) (fun o ho=>by match o,ho with|0,_=>rfl|1,_=>rfl) (jS ⟨by simp,rfl⟩ (.low (aH NT.exact (by simp))))
   ·have e2:(wsR w ws0 (l.take (i+1))).ps≠[]:=by rw[hsucc,hps,h0]; simpa using hn
    refine⟨i+1,(show l.length-(i+1)<l.length-i by omega),h,?_⟩
    simp only[if_neg e2]
    rw[hor,hsucc,ar h (by omega)]
    exact aR [0,1,3] (WkL.refl _) (.cons rfl (.cells (.cons (.ptr (ρ:=fun o=>[0,1,3].getD o 0) 1 0 (by simp)) .nil)) (.cons rfl (.abs _) (.cons rfl .tok .nil))) (by decide) (by simp) (fun o ho=>by match o,ho with|0,_=>rfl|1,_=>rfl) (jS ⟨by simp,rfl⟩ (.ltok (ρ:=fun o=>[0,1,3].getD o 0) _ 2 (by simp) (bl fun a _=>bL a)))
  ·simp only[if_neg h0]
   refine aY kD _ [] (.cons suE o9 (.cons atE qH (.nil _ _ _ _ _))) _ _ _ (xl w m b l (wsR w ws0 (l.take i)).ids (sz || (l.take i).any bY) (wsR w ws0 (l.take i)).ex (wsR w ws0 (l.take i)).ps i _ ?_).out
   simp only[au,dt,an,getD_map default h,← hr]
   rw[if_pos (by omega)]
   refine⟨inl,?_⟩
   rw[if_pos (by rfl)]
   refine⟨w,m,b,l,r,_,_,_,_,i,hrl,rfl,rfl,w,m,b,l,r,wsR w ws0 (l.take i),(sz || (l.take i).any bY || bY r),i,ro,hrl,hsl,(by show _=_; simp only[List.length_map]),rfl,fun hn=>?_,fun hn=>?_⟩
   ·have e2:(wsR w ws0 (l.take (i+1))).ps≠[]:=by rw[hsucc,tailE hn]; exact h0
    refine⟨i+1,(show l.length-(i+1)<l.length-i by omega),h,?_⟩
    simp only[if_neg e2]
    rw[hor,hsucc,tailE hn,ar h (by omega)]
    exact aR [0,1,2] (WkL.refl _) (.cons rfl (.cells (.cons (.ptr (ρ:=fun o=>[0,1,2].getD o 0) 1 0 (by simp)) .nil)) (.cons rfl (.abs _) (.cons rfl .tok .nil))) (by decide) (by simp) (fun o ho=>by match o,ho with|0,_=>rfl|1,_=>rfl) (jS ⟨by simp,rfl⟩ (.ltok (ρ:=fun o=>[0,1,2].getD o 0) _ 2 (by simp) (bl fun a _=>bL a)))
   ·have e2:(wsR w ws0 (l.take (i+1))).ps≠[]:=by rw[hsucc,hps]; exact fun e=>h0 (List.append_eq_nil_iff.1 e).1
    refine⟨i+1,(show l.length-(i+1)<l.length-i by omega),h,?_⟩
    simp only[if_neg e2]
    rw[hor,hsucc,ar h (by omega)]
    exact aR [0,1,4] (WkL.refl _) (.cons rfl (.cells (.cons (.ptr (ρ:=fun o=>[0,1,4].getD o 0) 1 0 (by simp)) .nil)) (.cons rfl (.abs _) (.cons rfl .tok .nil))) (by decide) (by simp) (fun o ho=>by match o,ho with|0,_=>rfl|1,_=>rfl) (jS ⟨by simp,rfl⟩ (.ltok (ρ:=fun o=>[0,1,4].getD o 0) _ 2 (by simp) (bl fun a _=>bL a)))
 ·have hil:i=l.length:=by omega
  subst hil
  by_cases h0:(wsR w ws0 (l.take l.length)).ps=[]
  ·simp only[if_pos h0]
   refine aY kD _ [] (.cons suE o8 (.cons atE qS (.nil _ _ _ _ _))) _ _ _ (xq w m b l _ _ _ l.length _ ?_).out
   simp only[au,dt]
   rw[if_neg (by omega)]
   refine⟨_,_,aR [0,1] (WkL.refl _) (.cons rfl (.cells (.cons (.ptr (ρ:=fun o=>[0,1].getD o 0) 1 0 (by simp)) .nil)) (.cons rfl (.abs _) .nil)) (by decide) (by simp) (fun o ho=>by match o,ho with|0,_=>rfl|1,_=>rfl) (jS ⟨by simp,rfl⟩ (.low (aH NT.exact (by simp)))),?_⟩
   have:=hQ (.E) []
   rw[List.take_length]
   exact this
  ·simp only[if_neg h0]
   refine aY kD _ [] (.cons suE o9 (.cons atE qH (.nil _ _ _ _ _))) _ _ _ (xl w m b l _ _ _ _ l.length _ ?_).out
   simp only[au,dt]
   rw[if_neg (by omega)]
   refine⟨_,_,aR [0,1,2] (WkL.refl _) (.cons rfl (.cells (.cons (.ptr (ρ:=fun o=>[0,1,2].getD o 0) 1 0 (by simp)) .nil)) (.cons rfl (.abs _) (.cons rfl .tok .nil))) (by decide) (by simp) (fun o ho=>by match o,ho with|0,_=>rfl|1,_=>rfl) (jS ⟨by simp,rfl⟩ (.ltok (ρ:=fun o=>[0,1,2].getD o 0) _ 2 (by simp) (bl fun a _=>bL a))),?_⟩
   have:=hQ (.list ((wsR w ws0 l).ps.map u1) (.tok 2)) [.tok]
   rw[List.take_length]
   exact this
theorem Ip (w:List Mt) (m:Int) (b l:List Rr):∀(K:PV→ae→Prop),(∃(w_1:List Mt) (m_1:Int) (b_1:List Rr) (l_1:List Rr) (sz:Bool),by refine(?_:_→_→_→_→Prop) [Ob.cells [.ptr 1 0],.abs (rkM (aq w_1) m_1)] (PV.list (l_1.map rrc) .no) (PV.bool (WS.ids (wsR w_1 ws0 l_1))) (PV.bool (WS.ex (wsR w_1 ws0 l_1))); exact fun d e f g=>MO w_1 m_1∧l_1.length≤1000000∧tot l_1≤1000000∧ah [.ptr 0 0,.list (b.map rrc) .no,.list (l.map rrc) .no,.bool false,.bool ((↑(List.length (l.map rrc)):Int) == 0),.bool false,.E,.list (l.map rrc) .no,.I (↑(List.length (l.map rrc)):Int),.I 0] [.ptr 0 0,.list (b_1.map rrc) .no,e,.bool false,.bool sz,.bool false,.E,e,.I l_1.length,.I 0]∧av [.cells [.ptr 1 0],.abs (rkM (aq w) m)] d∧∀(_:PV),∀(G:ae),by refine(?_:_→Prop) (d++G); exact fun c=>∃(a:List Rr) (b:List Rr),ah [.list [[PV.list (b_1.map rrc) .no],[e]] .exact] [.list [[PV.list (a.map rrc) .no],[.list (b.map rrc) .no]] .exact]∧a.length+b.length≤1000000∧∃(l:List Rr) (tl:Tail),ah [.list (List.map rrc (a++b)) .no] [.list (l.map rrc) tl]∧l.length≤1000000∧tot l≤1000000∧br ((sz || List.any l_1 bY) == false) (K (.tup [f,.bool (decide (mxI (↑(taken l 1):Int) (↑(taken l 2):Int)>4)),g]) c) (K (.tup [f,.bool true,g]) c))→AcK 56 [.ptr 0 0,.list (b.map rrc) .no,.list (l.map rrc) .no] [.cells [.ptr 1 0],.abs (rkM (aq w) m)] K:=fun K h=>acW (T:=TWR) (L:=[([1,1,1,0,1,0],I6)]) (fun _=>0) Tryz.func56 (kD) (.cons suE B6 (.nil _ _ _ _ _)) h
def szW (b l:List Rr):Bool:=((l.length:Int) == 0) || l.any bY || decide (mxI (taken (b++l) 1:Int) (taken (b++l) 2:Int)>4)
def jV (args:List PV) (H:ae) (K:PV→Prop):Prop:=∃(q r:Nat) (w:List Mt) (m:Int) (b l:List Rr) (t1 t2:Tail),ah args [.ptr q 0,.list (b.map rrc) t1,.list (l.map rrc) t2]∧cj H q r (rkM (aq w) m)∧MO w m∧b.length+l.length≤1000000∧tot b+tot l≤1000000∧
 K (.tup [.bool (wsR w ws0 l).ids,.bool (szW b l),.bool (wsR w ws0 l).ex])
theorem nT (a b:List Rr):tot (a++b)=tot a+tot b:=by unfold tot; rw[List.map_append,List.sum_append]
theorem pW:SpK 56 (.read jV):=by
 rintro args H K ⟨q,r,w,m,b,l,t1,t2,he,hb,ro,hl,ht,hk⟩
 have he:args=_:=he
 subst he
 refine⟨_,bc (.cons (.refl _) (.cons (.list _ _) (.cons (.list _ _) .nil))) (jB aj hb (bn (aP b) (aP l)) (.tup _ (dO (.bool _) (.bool _) (.bool _))) (Ip w m b l _ ⟨w,m,b,l,((l.length:Int) == 0),ro,by omega,by omega,?_,rfl,fun _ G=>⟨b,l,rfl,hl,b++l,.no,rfl,by rw[List.length_append]; exact hl,by rw[nT]; exact ht,?_⟩⟩)),hk⟩
 ·show _=_
  simp only[List.length_map]
 ·rw[au]
  unfold szW
  by_cases c:(((l.length:Int) == 0) || l.any bY)=true
  ·rw[if_neg (by rw[c]; decide),c]
   exact⟨rfl,G,rfl⟩
  ·rw[if_pos (by simpa using c),show(((l.length:Int) == 0) || l.any bY)=false by simpa using c]
   exact⟨rfl,G,rfl⟩
theorem Fk:SpK 57 (.chg kz):=by
 intro args H K h
 unfold kz at h
 split at h
 ·obtain⟨l,most,t,v,t1,t2,he,ha,ok,hk⟩:=h
  exact⟨_,_,yq _ H (fun x H1=>x=_∧H1=_) (by unfold kz; exact⟨l,most,t,v,t1,t2,he,ha,ok,⟨rfl,rfl⟩⟩),hk⟩
 ·exact h.elim
def TMK:Tab:=[(56,.read jV),(50,.pure kO),(57,.chg kz),(64,.chg ia),(58,.pure sS),(9,.read sP),(71,.chg kK)]
theorem Cw:TbK TMK:= .cons pW (.cons ox (.cons Fk (.cons oE (.cons zU (.cons r5 (.cons uP (.nil _ _)))))))
theorem GK (w:List Mt) (m:Int) (id md ins:Int) (l:List Rr):(by refine(?_:_→_→Prop) [Ob.cells [.ptr 1 0],.abs (rkM (aq w) m)] (PV.list (l.map rrc) .no); exact fun d e=>∀(K:PV→ae→Prop),by refine(?_:_→Prop) (K (.I 14) d); exact fun a=>(∃(q:Nat) (r:Nat) (w_1:List Mt) (m_1:Int) (b:List Rr) (l_1:List Rr) (t1:Tail) (t2:Tail),ah [.ptr 0 0,.E,e] [.ptr q 0,.list (b.map rrc) t1,.list (l_1.map rrc) t2]∧cj d q r (rkM (aq w_1) m_1)∧MO w_1 m_1∧b.length+l_1.length≤1000000∧tot b+tot l_1≤1000000∧br (WS.ids (wsR w_1 ws0 l_1) == false) (br (!aC id) a (br (szW b l_1) (K (.I 21) d) (br (WS.ex (wsR w_1 ws0 l_1)) (K (.I 11) d) (∃(c:Mt) (l_2:List Rr) (t1:Tail) (t2:Tail) (t3:Tail),ah [.agg [.U id,.I md,.U ins,.E,.E],e] [.agg [.U c.id,.I c.md,.U c.ins,.list (c.rows.map rrc) t1,.list (c.aa.map stc) t2],.list (l_2.map rrc) t3]∧Mt.Sm c∧c.rows.length+l_2.length≤1000000∧(∀(r:Rr),r∈l_2→r.pl.length≤1000000)∧c.aa.length+tot l_2≤1000000∧∃(l:List RwM) (most:Int) (t:Int) (v:Mt) (t1:Tail) (t2:Tail),ah [.U id,.agg [.U (Mt.id (ay c l_2)),.I (Mt.md (ay c l_2)),.U (Mt.ins (ay c l_2)),.list (List.map rrc (Mt.rows (ay c l_2))) .no,.list (List.map stc (Mt.aa (ay c l_2))) .no]] [.U t,.agg [.U v.id,.I v.md,.U v.ins,.list (v.rows.map rrc) t1,.list (v.aa.map stc) t2]]∧bR d 1 (rkM l most)∧Ok l most∧K (.I (Prod.snd (tY l most t v))) [.cells [.ptr 1 0],.abs (rkM (Prod.fst (tY l most t v)) most)])))) a)→AcK 24 [.ptr 0 0,.U id,.I md,.U ins,e] d K:Prop):=fun K h=>acW (T:=TMK) (L:=[]) (fun o=>match o.dst with|some 46=>7|some 38=>1|some 45=>0|_=>0) Tryz.func24 (Cw) (LOk.nil _ _ _ _ _) h
theorem Ir (w:List Mt) (m:Int) (id:Int):(by refine(?_:_→_→_→Prop) (Ob.cells [.U 0,.I 0,.U 0,.E,.E]) (Ob.abs (rkM (aq w) m)) [PV.ptr 0 0,.U id]; exact fun d e f=>∀(K:PV→ae→Prop),(∃(q:Nat) (r:Nat) (w_1:List Mt) (m_1:Int) (t:Int),by refine(?_:_→_→Prop) [PV.U (Mt.id (gM w_1 t)),.I (Mt.md (gM w_1 t)),.U (Mt.ins (gM w_1 t)),.list (List.map rrc (Mt.rows (gM w_1 t))) .no,.list (List.map stc (Mt.aa (gM w_1 t))) .no] (bC Mt.id w_1 t); exact fun a c=>by refine(?_:_→Prop) (PV.tup [.agg a,.bool c]); exact fun b=>ah f [.ptr q 0,.U t]∧cj [.cells [.ptr 1 0],e,d] q r (rkM (aq w_1) m_1)∧MO w_1 m_1∧br c (∃(l:List RwM) (most:Int) (t_1:Int),ah [.U id] [.U t_1]∧bR [.cells [.ptr 1 0],e,d,.cells a] 1 (rkM l most)∧Ok l most∧K b [.cells [.ptr 1 0],.abs (rkM (lj l t_1) most),.cells a,.cells a]) (K b [.cells [.ptr 1 0],e,.cells a,.cells a]))→AcK 37 f [.cells [.ptr 1 0],e] K:Prop):=fun K h=>acW (T:=TMK) (L:=[]) (fun o=>match o.dst with|some 22=>1|some 21=>7|_=>0) Tryz.func37 (Cw) (LOk.nil _ _ _ _ _) h
def mk0 (id md ins:Int):Mt:=⟨id,md,ins,[],[]⟩
def dB (w:List Mt) (m id md ins:Int) (l:List Rr):List Mt×Int:=
 if(wsR w ws0 l).ids=true∨aC id=false then(w,14) else if szW [] l=true then(w,21) else if(wsR w ws0 l).ex=true then(w,11)
 else if bC Mt.id w id=true then(w,11) else if(w.length:Int)≥m then(w,10) else(fj Mt.id w (ay (mk0 id md ins) l),0)
theorem HK (ps:List Int) (t:Int):∀ c:Mt,(cW c ps t).id=c.id:=by
 induction ps with
 | nil=>intro c; rfl
 | cons p ps ih=>intro c; show(cW (fS c p t) ps t).id=_; rw[ih]; rfl
theorem g5 (l:List Rr):∀ c:Mt,(ay c l).id=c.id:=by
 induction l with
 | nil=>intro c; rfl
 | cons r l ih=>intro c; show(ay (fx c r) l).id=_; rw[ih]; show(cW c r.pl r.tm).id=_; rw[HK]
theorem Kg (id md ins:Int):(mk0 id md ins).Sm:=⟨(show(0:Nat)≤1000000 by decide),(show(0:Nat)≤1000000 by decide),fun _ h=>nomatch h⟩
theorem zi {w:List Mt} {m:Int} (h:MO w m) (c:Mt) (hr:aC c.id=true):tY (aq w) m c.id c=if bC Mt.id w c.id=true then(aq w,11) else if(w.length:Int)≥m then(aq w,10) else(aq (fj Mt.id w c),0):=by
 unfold tY
 rw[ir h.ok]
 by_cases k:bC Mt.id w c.id=true
 ·rw[if_pos k,if_pos k]
 ·rw[if_neg k,if_neg k,oy h.rise h.ok,if_pos hr]
  by_cases k2:(w.length:Int)≥m
  ·rw[if_pos ⟨by simpa using k,k2⟩,if_pos k2]
  ·rw[if_neg (fun e=>k2 e.2),if_neg k2]
theorem zq {w:List Mt} {m:Int} (h:MO w m) (c:Mt) (hr:aC c.id=true) (hh:bC Mt.id w c.id=true):cV (aq w) m c.id c=(aq (fj Mt.id w c),0):=by
 rw[oy h.rise h.ok,if_pos hr,if_neg (fun e=>by rw[hh] at e; cases e.1)]
def smR (l:List Rr):Prop:=l.length≤100∧∀ r∈l,r.pl.length≤100
theorem Cy:∀(l:List Rr),(∀ r∈l,r.pl.length≤100)→tot l≤l.length*100
 | [],_=>Nat.le_refl _
 | r::l,h=>by
  have:=Cy l fun a ha=>h a (by simp[ha])
  have h1:=h r (by simp)
  unfold tot at *
  simp only[List.map_cons,List.sum_cons,List.length_cons]; omega
theorem smR.tot {l:List Rr} (h:smR l):Go.Proofs.YtenaelaapdhbdaaGreatDoor.tot l≤10000:=by have:=Cy l h.2; have:=h.1; omega
def Le (args:List PV) (H:ae) (K:PV→ae→Prop):Prop:=∃(q r:Nat) (w:List Mt) (m id md ins:Int) (l:List Rr) (t:Tail),ah args [.ptr q 0,.U id,.I md,.U ins,.list (l.map rrc) t]∧cj H q r (rkM (aq w) m)∧MO w m∧smR l∧
 K (.I (dB w m id md ins l).2) (H.set r (.abs (rkM (aq (dB w m id md ins l).1) m)))
theorem yC:SpK 24 (.heap Le):=by
 rintro args H K ⟨q,r,w,m,id,md,ins,l,t,he,hb,ro,hl,hk⟩
 have he:args=_:=he
 subst he
 have hlt:=hl.tot
 have hll:=hl.1
 refine bc (.cons (.refl _) (.cons (.refl _) (.cons (.refl _) (.cons (.refl _) (.cons (.list _ _) .nil))))) ?_
 refine jR aj hb (lR (.int _ _) (.int _ _) (.int _ _) (aP _)) (.int _ _) (GK w m id md ins l _ ⟨0,1,w,m,[],l,.exact,.no,rfl,⟨rfl,rfl⟩,ro,by simp; omega,by show 0+tot l≤_; omega,?_⟩) hk
 obtain⟨z,hz⟩:∃ z,z=dB w m id md ins l:=⟨_,rfl⟩
 rw[← hz]
 unfold dB at hz
 simp only[au]
 by_cases c1:(wsR w ws0 l).ids=true
 ·rw[if_pos (.inl c1)] at hz
  rw[if_neg (by rw[c1]; decide),hz]; exact⟨rfl,[],rfl⟩
 ·rw[if_pos (by simpa using c1)]
  by_cases c2:aC id=true
  ·rw[if_neg (fun e=>by rcases e with e|e; exact c1 e; rw[c2] at e; cases e)] at hz
   rw[if_neg (by rw[c2]; decide)]
   by_cases c3:szW [] l=true
   ·rw[if_pos c3] at hz
    rw[if_pos c3,hz]; exact⟨rfl,[],rfl⟩
   ·rw[if_neg c3] at hz
    rw[if_neg c3]
    by_cases c4:(wsR w ws0 l).ex=true
    ·rw[if_pos c4] at hz
     rw[if_pos c4,hz]; exact⟨rfl,[],rfl⟩
    ·rw[if_neg c4] at hz
     rw[if_neg c4]
     have e:=zi ro (ay (mk0 id md ins) l) (by rw[g5]; exact c2)
     rw[g5] at e
     have e:tY (aq w) m id (ay (mk0 id md ins) l)=if bC Mt.id w id=true then(aq w,11) else if(w.length:Int)≥m then(aq w,10) else(aq (fj Mt.id w (ay (mk0 id md ins) l)),0):=e
     refine⟨mk0 id md ins,l,.exact,.exact,.no,rfl,Kg _ _ _,by show 0+_≤_; omega,fun r hr=>by have:=hl.2 r hr; omega,by show 0+tot l≤_; omega,aq w,m,id,ay (mk0 id md ins) l,.no,.no,rfl,rfl,ro.ok,?_⟩
     rw[e]
     by_cases c5:bC Mt.id w id=true
     ·rw[if_pos c5] at hz
      rw[if_pos c5,hz]; exact⟨rfl,[],rfl⟩
     ·rw[if_neg c5] at hz
      rw[if_neg c5]
      by_cases c6:(w.length:Int)≥m
      ·rw[if_pos c6] at hz
       rw[if_pos c6,hz]; exact⟨rfl,[],rfl⟩
      ·rw[if_neg c6] at hz
       rw[if_neg c6,hz]; exact⟨rfl,[],rfl⟩
  ·rw[if_pos (.inr (by simpa using c2))] at hz
   rw[if_pos (by simpa using c2),hz]; exact⟨rfl,[],rfl⟩
theorem MO.J4 {w:List Mt} {t:Int} (h:bC Mt.id w t=true):(gM w t).id=t:=(fC h).2
theorem MO.HD {w:List Mt} {m t:Int} (ro:MO w m) (h:bC Mt.id w t=true):(gM w t).Ok:=ro.cs _ (fC h).1
def Mx (args:List PV) (H:ae) (K:PV→ae→Prop):Prop:=∃(q r:Nat) (w:List Mt) (m id:Int),ah args [.ptr q 0,.U id]∧cj H q r (rkM (aq w) m)∧MO w m∧
 K (.tup [(gM w id).pv,.bool (bC Mt.id w id)]) (H.set r (.abs (rkM (aq (fa Mt.id w id)) m)))
theorem ve {w:List Mt} {t:Int} (h:bC Mt.id w t=false):fa Mt.id w t=w:=by
 unfold fa
 rw[List.filter_eq_self]
 intro a ha
 rw[bne_iff_ne]
 intro e
 have:=dL.2 ⟨a,ha,e⟩
 rw[h] at this; cases this
theorem Md:SpK 37 (.heap Mx):=by
 rintro args H K ⟨q,r,w,m,id,he,hb,ro,hk⟩
 have he:args=_:=he
 subst he
 refine jR aj hb cN (so _ _) (Ir w m id _ ⟨0,1,w,m,id,rfl,⟨rfl,rfl⟩,ro,?_⟩) hk
 rw[au]
 by_cases c:bC Mt.id w id=true
 ·rw[if_pos c]
  refine⟨aq w,m,id,rfl,rfl,ro.ok,?_⟩
  rw[tq ro.ok]
  exact⟨rfl,_,rfl⟩
 ·rw[if_neg c,ve (by simpa using c)]
  exact⟨rfl,_,rfl⟩
def CB (args:List PV) (H:ae) (K:PV→ae→Prop):Prop:=∃(q r:Nat) (w:List Mt) (m t:Int),ah args [.ptr q 0,.U t]∧cj H q r (rkM (aq w) m)∧MO w m∧
 (bC Mt.id w t=false→K (.tup [eg mt0 (.E) (.E),.bool false]) (H++[.dead]))∧
 (bC Mt.id w t=true→(gM w t).aa≠[]∧∀(cap:Nat) (J:List PV),(gM w t).aa.length≤cap→aJ J ((cap-(gM w t).aa.length)*6)→K (.tup [eg (gM w t) (.list ((gM w t).rows.map rrc) .exact) (.arr H.length 0 (gM w t).aa.length cap),.bool true]) (H++[.cells (flS (gM w t).aa++J)]))
theorem Iz:SpK 9 (.heap CB):=by
 rintro args H K ⟨q,r,w,m,t,he,hb,ro,h0,h1⟩
 refine Ib _ _ _ ⟨q,r,w,m,t,he,hb,ro,fun y g hA=>?_⟩
 cases c:bC Mt.id w t with
 | false=>
  have e:gM w t=mt0:=gL c
  rw[e] at hA ⊢
  rcases hA with⟨_,rfl,rfl⟩|⟨hn,_⟩
  ·exact h0 c
  ·exact absurd rfl hn
 | true=>
  obtain⟨hn,hk⟩:=h1 c
  rcases hA with⟨hn',_⟩|⟨_,cap,J,rfl,rfl,hc,hJ⟩
  ·exact absurd hn' hn
  ·exact hk cap J hc hJ
def TST:Tab:=[(62,.read DZ),(9,.heap CB),(63,.read KL),(64,.chg ia)]
theorem DS:TbK TST:= .cons Eo (.cons Iz (.cons IY (.cons oE (.nil _ _))))
theorem FI (w:List Mt) (m:Int) (c:Mt):(by refine(?_:_→Prop) [PV.U c.id,.I c.md,.U c.ins,.list (c.rows.map rrc) .exact,.list (c.aa.map stc) .no]; exact fun a=>by refine(?_:_→Prop) [Ob.cells [.ptr 1 0],.abs (rkM (aq w) m),.dead,.cells a]; exact fun b=>∀(R:Ex→List PV→ae→Prop),(∃(l:List RwM) (most:Int) (t:Int) (v:Mt) (t1:Tail) (t2:Tail),ah [.U c.id,.agg a] [.U t,.agg [.U v.id,.I v.md,.U v.ins,.list (v.rows.map rrc) t1,.list (v.aa.map stc) t2]]∧bR b 1 (rkM l most)∧Ok l most∧R .normal [.I (Prod.snd (cV l most t v))] [.cells [.ptr 1 0],.abs (rkM (Prod.fst (cV l most t v)) most),.dead,.cells a])→Holds (wpK TST [] (fun o=>match o.dst with|some 58=>7|some 54=>1|some 57=>1|_=>0) (bX [1,1,1,1,1,0] (ag Tryz.f26)) [] (ak [0,11] [.ptr 0 0,.ptr 3 0]) b (fun ex e H=>R ex (List.map e [10]) H)):Prop):=fun R h=>hoE h
def CZ:LSp:=fun e H Q=>∃(w:List Mt) (m:Int) (c:Mt) (cap:Nat) (J:List PV),MO w m∧aC c.id=true∧bC Mt.id w c.id=true∧c.aa.length≤cap∧ah (List.map e [0,11]) [.ptr 0 0,.ptr 3 0]∧av H [.cells [.ptr 1 0],.abs (rkM (aq w) m),.cells (flS c.aa++J),.cells [.U c.id,.I c.md,.U c.ins,.list (c.rows.map rrc) .exact,.arr 2 0 c.aa.length cap]]∧∀ G,Q .normal (ak [10] [.I 0]) (.cells [.ptr 1 0] :: .abs (rkM (aq (fj Mt.id w c)) m)::G)
theorem zJ:∀ e H Q,CZ e H Q→AwK Tryz.f26.ntmps (bX [1,1,1,1,1,0] (ag Tryz.f26)) Q e H:=by
 rintro e H Q ⟨w,m,c,cap,J,ro,hr,hh,hc,he,hH,hQ⟩
 have hH:H=_:=hH
 subst hH
 have he:List.map e [0,11]=_:=he
 refine AW.n9 (o:=2) (off:=0) (sz:=6) (A:=[]) (B:=J) (es:=c.aa.map stc) (H2:=[.cells [.ptr 1 0],.abs (rkM (aq w) m),.dead,.cells [.U c.id,.I c.md,.U c.ins,.list (c.rows.map rrc) .exact,.list (c.aa.map stc) .no]]) (vs2:=[.ptr 0 0,.ptr 3 0]) he rfl rfl (b5 bP _) ⟨rfl,fun i b hb=>?_⟩ (FzL.refl _) ?_
 ·have k1:=(List.getElem?_eq_some_iff.1 hb).1
  simp at k1
  have:i=0∨i=1∨i=2∨i=3:=by omega
  rcases this with rfl|rfl|rfl|rfl
  ·exact .inr (.inl ⟨by decide,hb⟩)
  ·exact .inr (.inl ⟨by decide,hb⟩)
  ·cases hb; exact .inl rfl
  ·cases hb
   refine .inr (.inr ⟨_,_,rfl,by decide,rfl,.cons (.refl _) (.cons (.refl _) (.cons (.refl _) (.cons (.refl _) (.cons ?_ .nil))))⟩)
   have:=Fz.arr (o:=2) (off:=0) (es:=c.aa.map stc) cap (by rw[List.length_map]; exact hc)
   rw[List.length_map] at this
   exact this
 ·refine dj (T:=TST) (slots:=[0,11]) (outs:=[10]) (hn:=fun o=>match o.dst with|some 58=>7|some 54=>1|some 57=>1|_=>0) DS (.nil _ _ _ _ _) rfl rfl (FI w m c (fun ex vs H'=>Q ex (ak [10] vs) H') ⟨aq w,m,c.id,c,.exact,.no,rfl,rfl,ro.ok,?_⟩)
  rw[zq ro c hr hh]
  exact hQ _
theorem Il (w:List Mt) (m p st un no:Int):(by refine(?_:_→_→_→Prop) (Ob.abs (rkM (aq w) m)) [PV.ptr 0 0,.ptr 3 0] (Ob.cells [.ptr 1 0]); exact fun s v z=>by refine(?_:_→Prop) [z,s]; exact fun u=>∀(K:PV→ae→Prop),(∃(q:Nat) (r:Nat) (w_1:List Mt) (m_1:Int) (p_1:Int),ah [.ptr 0 0,.U p] [.ptr q 0,.U p_1]∧cj u q r (rkM (aq w_1) m_1)∧MO w_1 m_1∧∃(q:Nat) (r:Nat) (w_2:List Mt) (m_2:Int) (t:Int),by refine(?_:_→Prop) (Mt.aa (gM w_2 t)); exact fun l=>ah [.ptr 0 0,.U (ofM w_1 p_1)] [.ptr q 0,.U t]∧cj u q r (rkM (aq w_2) m_2)∧MO w_2 m_2∧(bC Mt.id w_2 t=false→K (.I 12) [.cells [.ptr 1 0],s,.dead,.cells [.U 0,.I 0,.U 0,.E,.E]])∧(bC Mt.id w_2 t=true→Mt.aa (gM w_2 t)≠[]∧∀(cap:Nat),by refine(?_:_→Prop) [PV.U (Mt.id (gM w_2 t)),.I (Mt.md (gM w_2 t)),.U (Mt.ins (gM w_2 t)),.list (List.map rrc (Mt.rows (gM w_2 t))) .exact,.arr 2 0 (List.length l) cap]; exact fun k=>∀(J:List PV),by refine(?_:_→Prop) (flS l++J); exact fun i=>by refine(?_:_→Prop) [z,s,.cells i,.cells k]; exact fun h=>by refine(?_:_→Prop) (K (.I 2) h); exact fun j=>List.length l≤cap→aJ J ((cap-List.length l)*6)→br (decide (st<1) == false) (br (decide (st>3)) j (∃(c:Mt) (x:PV) (y:PV) (p_2:Int),by refine(?_:_→_→_→_→Prop) (0+Int.toNat (ixS c.aa p_2)*6+4) (∃(t:Tail),x = .list (c.rows.map rrc) t) (0+Int.toNat (ixS c.aa p_2)*6+3) (0+Int.toNat (ixS c.aa p_2)*6+5); exact fun b d e f=>by refine(?_:_→Prop) (over i e [.I st]); exact fun a=>by refine(?_:_→Prop) (over a b [.I un]); exact fun g=>ah [.agg k,.U p] [.agg [.U c.id,.I c.md,.U c.ins,x,y],.U p_2]∧c.aa.length≤1000000∧((d∧∃(t:Tail),y = .list (c.aa.map stc) t)∨(d∧∃(o:Nat) (cap_1:Nat) (J_1:List PV),y = .arr o 0 c.aa.length cap_1∧c.aa.length≤cap_1∧iz h o (flS c.aa++J_1))∨(∃(o:Nat) (n:Nat) (cap:Nat),x = .arr o 0 n cap∧o<4)∧∃(o:Nat) (cap_1:Nat) (J_1:List PV),y = .arr o 0 c.aa.length cap_1∧c.aa.length≤cap_1∧iz h o (flS c.aa++J_1))∧(0≤ixS c.aa p_2∧ixS c.aa p_2<(↑(List.length l):Int))∧br (1 == 1 && List.all [.I st] PV.one && decide (0+Int.toNat (ixS c.aa p_2)*6+3+1≤List.length i) && cQ 0 2 e 1) (br (1 == 1 && List.all [.I un] PV.one && decide (0+Int.toNat (ixS c.aa p_2)*6+4+1≤List.length a) && cQ 0 2 b 1) (br (1 == 1 && List.all [.int .u64 no] PV.one && decide (0+Int.toNat (ixS c.aa p_2)*6+5+1≤List.length g) && cQ 0 2 f 1) (∃(w_3:List Mt) (m_3:Int) (c_1:Mt) (cap_1:Nat) (J_1:List PV),MO w_3 m_3∧aC c_1.id=true∧bC Mt.id w_3 c_1.id=true∧c_1.aa.length≤cap_1∧ah v v∧av [.cells [.ptr 1 0],s,.cells (over g f [.int .u64 no]),.cells k] [.cells [.ptr 1 0],.abs (rkM (aq w_3) m_3),.cells (flS c_1.aa++J_1),.cells [.U c_1.id,.I c_1.md,.U c_1.ins,.list (c_1.rows.map rrc) .exact,.arr 2 0 c_1.aa.length cap_1]]∧∀(G:List Ob),K (.I 0) (.cells [.ptr 1 0] :: .abs (rkM (aq (fj Mt.id w_3 c_1)) m_3)::G)) False) False) False)) j))→AcK 26 [.ptr 0 0,.U p,.I st,.I un,.int .u64 no] u K:Prop):=fun K h=>acW (T:=TST) (L:=[([1,1,1,1,1,0],CZ)]) (fun o=>match o.dst with|some 36=>5|some 33=>1|some 34=>1|_=>0) Tryz.func26 (DS) (.cons atE zJ (.nil _ _ _ _ _)) h
def kg (s:Se) (st un no:Int):Se:=⟨s.pl,s.tm,s.nu,st,un,no⟩
def iH (c:Mt) (p st un no:Int):Mt:=⟨c.id,c.md,c.ins,c.rows,c.aa.set (c.aa.findIdx (isP p)) (kg (c.aa.getD (c.aa.findIdx (isP p)) default) st un no)⟩
def ec (w:List Mt) (p st un no:Int):List Mt×Int:=
 if bC Mt.id w (ofM w p)=false then(w,12) else if st<1∨st>3 then(w,2) else(fj Mt.id w (iH (gM w (ofM w p)) p st un no),0)
theorem C6 {t:Int} (h:aC t=true):t≠0:=by unfold aC at h; have:=of_decide_eq_true h; omega
theorem MO.Nb {w:List Mt} {m:Int} (ro:MO w m):bC Mt.id w 0=false:=by
 cases c:bC Mt.id w 0 with
 | false=>rfl
 | true=>exact absurd (MO.J4 c) (C6 (ro.HD c).rt)
theorem xK {w:List Mt} {m:Int} (ro:MO w m) (p:Int):(bC Mt.id w (ofM w p)=true∧inM (gM w (ofM w p)) p=true)∨(bC Mt.id w (ofM w p)=false∧ofM w p=0∧∀ c∈w,inM c p=false):=by
 unfold ofM
 by_cases h:w.findIdx (fun c=>inM c p)<w.length
 ·rw[if_pos h]
  have hm:w.getD (w.findIdx fun c=>inM c p) default∈w:=aX h
  have hp:inM (w.getD (w.findIdx fun c=>inM c p) default) p=true:=by
   rw[List.getD_eq_getElem?_getD,List.getElem?_eq_getElem h]; exact List.findIdx_getElem (w:=h)
  refine .inl ⟨dL.2 ⟨_,hm,rfl⟩,?_⟩
  have:gM w (w.getD (w.findIdx fun c=>inM c p) default).id=w.getD (w.findIdx fun c=>inM c p) default:=w4 ro.rise hm
  rw[this]; exact hp
 ·rw[if_neg h]
  refine .inr ⟨ro.Nb,rfl,fun c hc=>?_⟩
  cases e:inM c p with
  | false=>rfl
  | true=>exact absurd (List.findIdx_lt_length_of_exists ⟨c,hc,e⟩) h
theorem AK {l:List Se} {J:List PV} {k:Nat} (h:k<l.length) (st un no:Int):over (over (over (flS l++J) (0+k*6+3) [.I st]) (0+k*6+4) [.I un]) (0+k*6+5) [.int .u64 no]=flS (l.set k (kg (l.getD k default) st un no))++J:=by
 obtain⟨s,hs⟩:∃ s,s=l.getD k default:=⟨_,rfl⟩
 have hd:=lF bP J (default:Se) h
 have hA:(List.take (k*6) (flS l++J)).length=k*6:=by rw[List.length_take,List.length_append,ix]; omega
 have hC:flS l++J=List.take (k*6) (flS l++J)++(stc s++(flS (l.drop (k+1))++J)):=by rw[hs,← hd,List.take_append_drop]
 rw[← hs,Nat.zero_add]
 have h0:=over_row bP (J:=J) (a:=kg s st un no) (default:Se) h
 rw[← h0]
 generalize List.take (k*6) (flS l++J)=A at *
 generalize flS (l.drop (k+1))++J=B at *
 have e0:over (flS l++J) (k*6) (stc (kg s st un no))=A++stc (kg s st un no)++B:=ct (X:=stc s) (by rw[hC,List.append_assoc]) hA rfl
 rw[e0,hC]
 rw[ct (A:=A++[.U s.pl,.I s.tm,.I s.nu]) (X:=[.I s.st]) (Y:=[.I st]) (B:=[.I s.un,.int .u64 s.no]++B) (by simp[stc]) (by simp[hA]) rfl]
 rw[ct (A:=A++[.U s.pl,.I s.tm,.I s.nu]++[.I st]) (X:=[.I s.un]) (Y:=[.I un]) (B:=[.int .u64 s.no]++B) (by simp) (by simp[hA]) rfl]
 rw[ct (A:=A++[.U s.pl,.I s.tm,.I s.nu]++[.I st]++[.I un]) (X:=[.int .u64 s.no]) (Y:=[.int .u64 no]) (B:=B) (by simp) (by simp[hA]) rfl]
 simp[stc,kg]
def MG (args:List PV) (H:ae) (K:PV→ae→Prop):Prop:=∃(q r:Nat) (w:List Mt) (m p st un no:Int),ah args [.ptr q 0,.U p,.I st,.I un,.int .u64 no]∧cj H q r (rkM (aq w) m)∧MO w m∧
 K (.I (ec w p st un no).2) (H.set r (.abs (rkM (aq (ec w p st un no).1) m)))
theorem Cp:SpK 26 (.heap MG):=by
 rintro args H K ⟨q,r,w,m,p,st,un,no,he,hb,ro,hk⟩
 have he:args=_:=he
 subst he
 obtain⟨z,hz⟩:∃ z,z=ec w p st un no:=⟨_,rfl⟩
 rw[← hz] at hk
 refine jR aj hb (lR (.int _ _) (.int _ _) (.int _ _) (.int _ _)) (.int _ _) (Il w m p st un no _ ⟨0,1,w,m,p,rfl,⟨rfl,rfl⟩,ro,0,1,w,m,ofM w p,rfl,⟨rfl,rfl⟩,ro,fun h0=>?_,fun h1=>?_⟩) hk
 ·unfold ec at hz
  rw[if_pos h0] at hz
  rw[hz]; exact⟨rfl,_,rfl⟩
 ·unfold ec at hz
  rw[if_neg (by rw[h1]; decide)] at hz
  rcases xK ro p with⟨_,hin⟩|⟨h2,_⟩
  rotate_left
  ·rw[h1] at h2; cases h2
  obtain⟨c,hcd⟩:∃ c,c=gM w (ofM w p):=⟨_,rfl⟩
  have hok:c.Ok:=by rw[hcd]; exact ro.HD h1
  have hid:c.id=ofM w p:=by rw[hcd]; exact MO.J4 h1
  rw[← hcd] at hin
  rw[← hcd] at hz ⊢
  obtain⟨k1,k2⟩:=Ma hin
  have hsm:=hok.sm.aa
  refine⟨fun e=>by rw[e] at k1; simp at k1,fun cap J hcap hJ=>?_⟩
  simp only[au]
  have hlen:(flS c.aa++J).length=cap*6:=by rw[List.length_append,ix,hJ.len]; omega
  by_cases c1:st<1
  ·rw[if_pos (.inl c1)] at hz
   rw[if_neg (by simpa using c1),hz]; exact⟨rfl,_,rfl⟩
  ·rw[if_pos (by simpa using c1)]
   by_cases c2:st>3
   ·rw[if_pos (.inr c2)] at hz
    rw[if_pos (by simpa using c2),hz]; exact⟨rfl,_,rfl⟩
   ·rw[if_neg (fun e=>by rcases e with e|e; exact c1 e; exact c2 e)] at hz
    rw[if_neg (by simpa using c2)]
    refine⟨c,_,_,p,rfl,hsm,.inr (.inl ⟨⟨_,rfl⟩,2,cap,J,rfl,hcap,rfl⟩),⟨by rw[k2]; omega,by rw[k2]; omega⟩,?_⟩
    rw[k2]
    simp only[an]
    have hb1:0+c.aa.findIdx (isP p)*6+3+1≤(flS c.aa++J).length:=by rw[hlen]; omega
    have l1:(over (flS c.aa++J) (0+c.aa.findIdx (isP p)*6+3) [PV.I st]).length=cap*6:=by rw[bE (by simpa using hb1),hlen]
    have hb2:0+c.aa.findIdx (isP p)*6+4+1≤(over (flS c.aa++J) (0+c.aa.findIdx (isP p)*6+3) [PV.I st]).length:=by rw[l1]; omega
    have l2:(over (over (flS c.aa++J) (0+c.aa.findIdx (isP p)*6+3) [PV.I st]) (0+c.aa.findIdx (isP p)*6+4) [PV.I un]).length=cap*6:=by rw[bE (by simpa using hb2),l1]
    have hb3:0+c.aa.findIdx (isP p)*6+5+1≤(over (over (flS c.aa++J) (0+c.aa.findIdx (isP p)*6+3) [PV.I st]) (0+c.aa.findIdx (isP p)*6+4) [PV.I un]).length:=by rw[l2]; omega
    rw[if_pos (by rw[decide_eq_true hb1]; rfl),if_pos (by rw[decide_eq_true hb2]; rfl),if_pos (by rw[decide_eq_true hb3]; rfl),AK k1]
    have hl:(iH c p st un no).aa.length=c.aa.length:=by show(List.set _ _ _).length=_; rw[List.length_set]
    have hid2:(iH c p st un no).id=c.id:=rfl
    refine⟨w,m,iH c p st un no,cap,J,ro,hok.rt,by rw[hid2,hid]; exact h1,by rw[hl]; exact hcap,rfl,?_,fun G=>?_⟩
    ·show _=_
     rw[hl]; rfl
    ·rw[hz]; exact⟨rfl,G,rfl⟩
def eqT (t v:Int):Bool:=v == t
structure Midw (ns l:List Int) (cx:Int) (i j:Nat):Prop where
 len:l.length=ns.length
 kept:l.take i=(ns.take j).filter (fun v=> !(eqT cx) v)
 rest:l.drop j=ns.drop j
 le:i≤j
 lt:j≤ns.length
def mtR (r:Rr):Bool:=decide (r.pl.length=0)
structure MidRf (ns l:List Rr) (i j:Nat):Prop where
 len:l.length=ns.length
 kept:l.take i=(ns.take j).filter (fun v=> !mtR v)
 rest:l.drop j=ns.drop j
 le:i≤j
 lt:j≤ns.length
theorem qZ {α:Type} {l:List α} {k:Nat} {a:α} (h:l[k]?=some a):l.set k a=l:=by
 apply List.ext_getElem?
 intro i
 rw[List.getElem?_set]
 by_cases c:k=i
 ·subst c
  rw[if_pos rfl,if_pos (List.getElem?_eq_some_iff.1 h).1,h]
 ·rw[if_neg c]
theorem uJ (l:List Rr):(pairs l).map Prod.fst=l.flatMap Rr.pl:=by
 unfold pairs
 induction l with
 | nil=>rfl
 | cons r l ih=>rw[List.flatMap_cons,List.map_append,ih,List.flatMap_cons,List.map_map]; congr 1; simp[Function.comp_def]
theorem lf {c:Mt} {p:Int}:inM c p=true↔p∈c.aa.map Se.pl:=by
 unfold inM isP
 rw[List.any_eq_true,List.mem_map]
 constructor
 ·rintro⟨s,hs,e⟩; exact⟨s,hs,eq_of_beq e⟩
 ·rintro⟨s,hs,e⟩; exact⟨s,hs,by rw[e]; exact beq_self_eq_true p⟩
theorem ig {α:Type} (l:List α) (k:Nat) (a:α):(bw l k a).Perm (a::l):=by
 unfold bw
 refine List.perm_middle.trans ?_
 rw[List.take_append_drop]
structure SO (l:List Se):Prop where
 sn:l.Pairwise fun a b=>a.nu<b.nu
 lo:∀ s∈l,0≤s.nu
theorem SO.nil:SO []:=⟨List.Pairwise.nil,fun _ h=>nomatch h⟩
theorem SO.ge {l:List Se} (h:SO l):∀ i,i<l.length→(i:Int)≤(l.getD i default).nu:=by
 intro i
 induction i with
 | zero=>intro hi; exact h.lo _ (aX hi)
 | succ i ih=>
  intro hi
  have h1:=ih (by omega)
  have h2:=List.pairwise_iff_getElem.1 h.sn i (i+1) (by omega) hi (by omega)
  rw[List.getD_eq_getElem?_getD,List.getElem?_eq_getElem (by omega),Option.getD_some] at h1
  rw[List.getD_eq_getElem?_getD,List.getElem?_eq_getElem hi,Option.getD_some]
  omega
theorem SO.sit {l:List Se} (h:SO l) (p t:Int):SO (gC l p t):=by
 have hg:=eV l
 refine⟨?_,fun s hs=>?_⟩
 ·unfold gC bw
  rw[List.pairwise_append]
  refine⟨h.sn.sublist (List.take_sublist _ _),List.pairwise_cons.2 ⟨fun a ha=>?_,h.sn.sublist (List.drop_sublist _ _)⟩,fun a ha b hb=>?_⟩
  ·obtain⟨k,hk,rfl⟩:=List.mem_iff_getElem.1 ha
   rw[List.length_drop] at hk
   rw[List.getElem_drop]
   show(cY l:Int)<_
   have h1:=h.ge (cY l) (by omega)
   have h2:=sE (l:=l) (by omega)
   rw[List.getD_eq_getElem?_getD,List.getElem?_eq_getElem (by omega),Option.getD_some] at h1 h2
   rcases Nat.eq_zero_or_pos k with rfl|hp
   ·simp only[Nat.add_zero]; omega
   ·have:=List.pairwise_iff_getElem.1 h.sn (cY l) (cY l+k) (by omega) (by omega) (by omega)
    omega
  ·obtain⟨k,hk,rfl⟩:=List.mem_iff_getElem.1 ha
   rw[List.length_take] at hk
   have h1:=om (l:=l) (m:=k) (by omega)
   rw[List.getD_eq_getElem?_getD,List.getElem?_eq_getElem (by omega),Option.getD_some] at h1
   rw[List.getElem_take]
   rcases List.mem_cons.1 hb with rfl|hb
   ·rw[h1]; show(k:Int)<(cY l:Int); omega
   ·obtain⟨m,hm,rfl⟩:=List.mem_iff_getElem.1 hb
    rw[List.length_drop] at hm
    rw[List.getElem_drop]
    exact List.pairwise_iff_getElem.1 h.sn k (cY l+m) (by omega) (by omega) (by omega)
 ·have:=(ig l (cY l) (fR l p t)).mem_iff.1 hs
  rcases List.mem_cons.1 this with rfl|hs
  ·show(0:Int)≤(cY l:Int); omega
  ·exact h.lo s hs
theorem KC {l:List Se} {b:Int} (h:∀ s∈l,s.nu<b) (hb:(l.length:Int)<b) (p t:Int):∀ s∈gC l p t,s.nu<b:=by
 intro s hs
 have:=(ig l (cY l) (fR l p t)).mem_iff.1 hs
 rcases List.mem_cons.1 this with rfl|hs
 ·have:=eV l
  show(cY l:Int)<b; omega
 ·exact h s hs
theorem n8 (ps:List Int) (t:Int):∀ c:Mt,SO c.aa→SO (cW c ps t).aa:=by
 induction ps with
 | nil=>intro c h; exact h
 | cons p ps ih=>intro c h; exact ih (fS c p t) (h.sit p t)
theorem Ih {b:Int} (ps:List Int) (t:Int):∀ c:Mt,(∀ s∈c.aa,s.nu<b)→((c.aa.length+ps.length:Nat):Int)≤b→∀ s∈(cW c ps t).aa,s.nu<b:=by
 induction ps with
 | nil=>intro c h _; exact h
 | cons p ps ih=>
  intro c h hb
  simp only[List.length_cons] at hb
  refine ih (fS c p t) (KC h (by omega) p t) ?_
  show((_:Nat):Int)≤b
  have:(fS c p t).aa.length=c.aa.length+1:=pX _ _ _
  rw[this]; omega
theorem g7 (l:List Rr):∀ c:Mt,SO c.aa→SO (ay c l).aa:=by
 induction l with
 | nil=>intro c h; exact h
 | cons r l ih=>intro c h; exact ih (fx c r) (n8 r.pl r.tm c h)
theorem pY {b:Int} (l:List Rr):∀ c:Mt,(∀ s∈c.aa,s.nu<b)→((c.aa.length+tot l:Nat):Int)≤b→∀ s∈(ay c l).aa,s.nu<b:=by
 induction l with
 | nil=>intro c h _; exact h
 | cons r l ih=>
  intro c h hb
  have ht:tot (r::l)=r.pl.length+tot l:=by unfold tot; simp
  rw[ht] at hb
  refine ih (fx c r) (Ih r.pl r.tm c h (by omega)) ?_
  have:(fx c r).aa.length=c.aa.length+r.pl.length:=fg _ _ _
  rw[this]; omega
theorem G1 (ps:List Int) (t:Int):∀ c:Mt,(fb (cW c ps t).aa).Perm (fb c.aa++ps.map fun p=>(p,t)):=by
 induction ps with
 | nil=>intro c; rw[List.map_nil,List.append_nil]; exact List.Perm.refl _
 | cons p ps ih=>
  intro c
  refine(ih (fS c p t)).trans ?_
  have h1:(fb (fS c p t).aa).Perm ((p,t)::fb c.aa):=(ig c.aa (cY c.aa) (fR c.aa p t)).map _
  refine(h1.append_right _).trans ?_
  rw[List.map_cons]
  exact List.perm_middle.symm
theorem kG (l:List Rr):∀ c:Mt,(fb (ay c l).aa).Perm (fb c.aa++pairs l):=by
 induction l with
 | nil=>intro c; unfold pairs; rw[List.flatMap_nil,List.append_nil]; exact List.Perm.refl _
 | cons r l ih=>
  intro c
  refine(ih (fx c r)).trans ?_
  have h1:(fb (fx c r).aa).Perm (fb c.aa++r.pl.map fun p=>(p,r.tm)):=G1 r.pl r.tm c
  refine(h1.append_right _).trans ?_
  unfold pairs
  rw[List.flatMap_cons,List.append_assoc]
theorem uq (w:List Mt):∀(l:List Rr) (s:WS),wsR w s l=wsP w s (l.flatMap Rr.pl)
 | [],_=>rfl
 | r::l,s=>by
  rw[List.flatMap_cons]
  unfold wsP
  rw[List.foldl_append]
  exact uq w l (wsP w s r.pl)
theorem Az (w:List Mt):∀(l:List Int) (s:WS),(wsP w s l).ex=false→s.ex=false∧l.Nodup∧∀ p∈l,p∉s.ps∧ofM w p=0
 | [],s,h=>⟨h,List.nodup_nil,fun _ h=>nomatch h⟩
 | p::l,s,h=>by
  obtain⟨h1,h2,h3⟩:=Az w l (ws1 w s p) h
  unfold ws1 at h1 h3
  simp only[Bool.or_eq_false_iff] at h1
  obtain⟨⟨h4,h5⟩,h6⟩:=h1
  have h5:p∉s.ps:=fun e=>by rw[oF.2 e] at h5; cases h5
  have h6:ofM w p=0:=by simpa using h6
  refine⟨h4,List.nodup_cons.2 ⟨fun e=>?_,h2⟩,fun x hx=>?_⟩
  ·exact(h3 p e).1 (by simp)
  ·rcases List.mem_cons.1 hx with rfl|hx
   ·exact⟨h5,h6⟩
   ·exact⟨fun e=>(h3 x hx).1 (by simp[e]),(h3 x hx).2⟩
theorem JF {w:List Mt} {l:List Rr} (h:(wsR w ws0 l).ex=false):(l.flatMap Rr.pl).Nodup∧∀ p∈l.flatMap Rr.pl,ofM w p=0:=by
 rw[uq] at h
 obtain⟨_,h2,h3⟩:=Az w _ _ h
 exact⟨h2,fun p hp=>(h3 p hp).2⟩
theorem HL {w:List Mt} {m:Int} (ro:MO w m) {p:Int} (h:ofM w p=0):∀ c∈w,inM c p=false:=by
 rcases xK ro p with⟨h1,_⟩|⟨_,_,h3⟩
 ·rw[h,ro.Nb] at h1; cases h1
 ·exact h3
theorem max_le {a b:Nat} (h:¬ mxI (a:Int) (b:Int)>4):a≤4∧b≤4:=by
 unfold mxI at h
 split at h<;>omega
theorem MF {b l:List Rr} (h:szW b l=false):l≠[]∧(∀ r∈l,(r.tm=1∨r.tm=2)∧r.pl≠[]∧r.pl.length≤4)∧taken (b++l) 1≤4∧taken (b++l) 2≤4:=by
 unfold szW at h
 simp only[Bool.or_eq_false_iff] at h
 obtain⟨⟨h1,h2⟩,h3⟩:=h
 refine⟨fun e=>by subst e; simp at h1,fun r hr=>?_,max_le (of_decide_eq_false h3)⟩
 rw[List.any_eq_false] at h2
 have:=h2 r hr
 unfold bY at this
 simp only[Bool.or_eq_true,Bool.and_eq_true,bne_iff_ne,decide_eq_true_eq,not_or,not_and] at this
 obtain⟨⟨h4,h5⟩,h6⟩:=this
 refine⟨?_,fun e=>by rw[e] at h5; simp at h5,by omega⟩
 by_cases c:r.tm=1
 ·exact .inl c
 ·exact .inr (Classical.byContradiction fun k=>h4 c k)
theorem yH {w:List Mt} {c:Mt} {l:List Rr} (hid:aC c.id=true) (hc:(c.rows=[]∧c.aa=[])∨c.Ok) (hz:szW c.rows l=false) (hx:(wsR w ws0 l).ex=false) (hn:∀ p,ofM w p=0→inM c p=false):(ay c l).Ok:=by
 obtain⟨_,z2,z3,z4⟩:=MF hz
 obtain⟨x1,x2⟩:=JF hx
 have hso:SO c.aa:=by
  rcases hc with⟨_,e⟩|h
  ·rw[e]; exact SO.nil
  ·exact⟨h.sn,fun s hs=>(h.lo s hs).1⟩
 have hlo:∀ s∈c.aa,s.nu<8:=by
  rcases hc with⟨_,e⟩|h
  ·rw[e]; exact fun _ h=>nomatch h
  ·exact fun s hs=>(h.lo s hs).2
 have hpm:(fb c.aa).Perm (pairs c.rows):=by
  rcases hc with⟨e1,e2⟩|h
  ·rw[e1,e2]; exact List.Perm.refl _
  ·exact h.pm
 have hnd:(c.aa.map Se.pl).Nodup:=by
  rcases hc with⟨_,e⟩|h
  ·rw[e]; exact List.nodup_nil
  ·exact h.nd
 have htm:∀ r∈c.rows++l,r.tm=1∨r.tm=2:=by
  intro r hr
  rcases List.mem_append.1 hr with hr|hr
  ·rcases hc with⟨e,_⟩|h
   ·rw[e] at hr; cases hr
   ·exact h.tm r hr
  ·exact(z2 r hr).1
 have hne:∀ r∈c.rows++l,r.pl≠[]:=by
  intro r hr
  rcases List.mem_append.1 hr with hr|hr
  ·rcases hc with⟨e,_⟩|h
   ·rw[e] at hr; cases hr
   ·exact h.ne r hr
  ·exact(z2 r hr).2.1
 have htot:=mL htm
 have hsl:c.aa.length=tot c.rows:=by
  have:=hpm.length_eq
  rw[qD] at this
  unfold fb at this
  rwa [List.length_map] at this
 rw[nT] at htot
 have hso2:=g7 l c hso
 have hpm2:(fb (ay c l).aa).Perm (pairs (c.rows++l)):=by
  refine(kG l c).trans ?_
  unfold pairs
  rw[List.flatMap_append]
  exact hpm.append_right _
 refine⟨by rw[g5]; exact hid,hso2.sn,fun s hs=>⟨hso2.lo s hs,pY l c hlo (by omega) s hs⟩,by rw[c9]; exact htm,by rw[c9]; exact hne,by rw[c9]; exact hpm2,?_,by rw[c9]; exact z3,by rw[c9]; exact z4⟩
 have h1:((ay c l).aa.map Se.pl).Perm (c.aa.map Se.pl++l.flatMap Rr.pl):=by
  have:=(kG l c).map Prod.fst
  rw[List.map_append,uJ] at this
  unfold fb at this
  rw[List.map_map,List.map_map] at this
  exact this
 rw[h1.nodup_iff,List.nodup_append]
 refine⟨hnd,x1,fun a ha b hb e=>?_⟩
 subst e
 have:=hn a (x2 a hb)
 rw[lf.2 ha] at this
 cases this
theorem GM {c:Mt} {l:List Rr} {p:Int} (h:inM (ay c l) p=true):inM c p=true∨p∈l.flatMap Rr.pl:=by
 have h1:((ay c l).aa.map Se.pl).Perm (c.aa.map Se.pl++l.flatMap Rr.pl):=by
  have:=(kG l c).map Prod.fst
  rw[List.map_append,uJ] at this
  unfold fb at this
  rw[List.map_map,List.map_map] at this
  exact this
 have:=h1.mem_iff.1 (lf.1 h)
 rcases List.mem_append.1 this with k|k
 ·exact .inl (lf.2 k)
 ·exact .inr k
theorem MO.nil {m:Int} (h0:0≤m) (hm:m≤1000000):MO [] m:=⟨dD.nil _,h0,hm,(fun _ h=>nomatch h),(fun _ h=>nomatch h)⟩
theorem MO.put {w:List Mt} {m:Int} (ro:MO w m) {c:Mt} (hc:c.Ok) (hf:bC Mt.id w c.id=true∨(w.length:Int)<m) (hone:∀ b∈w,b.id≠c.id→∀ p,inM c p=true→inM b p=false):MO (fj Mt.id w c) m:=by
 refine⟨ro.rise.put c,?_,ro.big,fun a ha=>?_,fun a ha b hb p hpa hpb=>?_⟩
 ·rw[En ro.rise]
  split
  ·exact ro.full
  ·rename_i h
   rcases hf with h'|h'
   ·exact absurd h' h
   ·omega
 ·rcases gS.1 ha with rfl|⟨ha,_⟩
  ·exact hc
  ·exact ro.cs a ha
 ·rcases gS.1 ha with e1|⟨ha,hna⟩<;>rcases gS.1 hb with e2|⟨hb,hnb⟩
  ·rw[e1,e2]
  ·rw[e1] at hpa
   have:=hone b hb hnb p hpa; rw[hpb] at this; cases this
  ·rw[e2] at hpb
   have:=hone a ha hna p hpb; rw[hpa] at this; cases this
  ·exact ro.one a ha b hb p hpa hpb
theorem wK {c:Mt} (h:c.aa=[]) (p:Int):inM c p=false:=by unfold inM; rw[h]; rfl
theorem MO.make {w:List Mt} {m:Int} (ro:MO w m) (id md ins:Int) (l:List Rr):MO (dB w m id md ins l).1 m:=by
 unfold dB
 split
 ·exact ro
 split
 ·exact ro
 split
 ·exact ro
 split
 ·exact ro
 split
 ·exact ro
 rename_i h1 h2 h3 h4 h5
 have hid:aC id=true:=by
  cases c:aC id with
  | true=>rfl
  | false=>exact absurd (.inr c) h1
 have hx:(wsR w ws0 l).ex=false:=by simpa using h3
 refine ro.put (yH (w:=w) (c:=mk0 id md ins) hid (.inl ⟨rfl,rfl⟩) (show szW [] l=false by simpa using h2) hx fun p _=>wK rfl p) (.inr (by omega)) fun b hb _ p hp=>?_
 rcases GM hp with k|k
 ·rw[wK rfl] at k; cases k
 ·exact HL ro ((JF hx).2 p k) b hb
theorem mg {l:List Se} {k:Nat} (st un no:Int) {β:Type} (g:Se→β) (hg:∀ s:Se,g (kg s st un no)=g s):(l.set k (kg (l.getD k default) st un no)).map g=l.map g:=by
 apply List.ext_getElem?
 intro i
 rw[List.getElem?_map,List.getElem?_map,List.getElem?_set]
 by_cases c:k=i
 ·subst c
  rw[if_pos rfl]
  by_cases hk:k<l.length
  ·rw[if_pos hk,List.getElem?_eq_getElem hk,List.getD_eq_getElem?_getD,List.getElem?_eq_getElem hk]
   show some (g _)=some (g _)
   rw[hg]; rfl
  ·rw[if_neg hk,List.getElem?_eq_none (by omega)]
 ·rw[if_neg c]
theorem J1 {l l':List Se} (h:l'.map Se.nu=l.map Se.nu) (hp:l.Pairwise fun a b=>a.nu<b.nu):l'.Pairwise fun a b=>a.nu<b.nu:=by
 have h1:(l.map Se.nu).Pairwise (fun a b=>a<b):=List.pairwise_map.2 hp
 rw[← h] at h1
 exact List.pairwise_map.1 h1
theorem Et (c:Mt) (p st un no x:Int):inM (iH c p st un no) x=inM c x:=by
 have h:((iH c p st un no).aa.map Se.pl)=c.aa.map Se.pl:=mg st un no Se.pl fun _=>rfl
 rw[Bool.eq_iff_iff,lf,lf,h]
theorem Ep {c:Mt} (h:c.Ok) (p st un no:Int):(iH c p st un no).Ok:=by
 have e1:((iH c p st un no).aa.map Se.pl)=c.aa.map Se.pl:=mg st un no Se.pl fun _=>rfl
 have e2:((iH c p st un no).aa.map Se.nu)=c.aa.map Se.nu:=mg st un no Se.nu fun _=>rfl
 have e3:fb (iH c p st un no).aa=fb c.aa:=mg st un no (fun s=>(s.pl,s.tm)) fun _=>rfl
 refine⟨h.rt,J1 e2 h.sn,fun s hs=>?_,h.tm,h.ne,by rw[e3]; exact h.pm,by rw[e1]; exact h.nd,h.t1,h.t2⟩
 have:s.nu∈(iH c p st un no).aa.map Se.nu:=List.mem_map.2 ⟨s,hs,rfl⟩
 rw[e2] at this
 obtain⟨s',hs',e⟩:=List.mem_map.1 this
 rw[← e]; exact h.lo s' hs'
theorem MO.set {w:List Mt} {m:Int} (ro:MO w m) (p st un no:Int):MO (ec w p st un no).1 m:=by
 unfold ec
 split
 ·exact ro
 split
 ·exact ro
 rename_i h1 h2
 have hh:bC Mt.id w (ofM w p)=true:=by simpa using h1
 have hm:gM w (ofM w p)∈w:=(fC hh).1
 refine ro.put (Ep (ro.HD hh) p st un no) (.inl ?_) fun b hb hne x hx=>?_
 ·show bC Mt.id w (gM w (ofM w p)).id=true
  rw[MO.J4 hh]; exact hh
 ·rw[Et] at hx
  cases c:inM b x with
  | false=>rfl
  | true=>exact absurd (congrArg Mt.id (ro.one b hb _ hm x c hx)) hne
theorem MO.drop {w:List Mt} {m:Int} (ro:MO w m) (t:Int):MO (fa Mt.id w t) m:=by
 refine⟨ro.rise.drop t,?_,ro.big,fun c hc=>ro.cs c (m8.1 hc).1,fun a ha b hb p hpa hpb=>ro.one a (m8.1 ha).1 b (m8.1 hb).1 p hpa hpb⟩
 have:=ro.full
 have:(fa Mt.id w t).length≤w.length:=List.length_filter_le _ _
 omega
theorem Al (t:Int)  (K:PV→Prop) (h:br ((t != 0) == true) (K (.bool (decide (t≤2147483647)))) (K (.bool false))):AcK 53 [.U t] [] (fun x _=>K x):=
 acW (T:=[]) (L:=[]) (fun _=>0) Tryz.func53 (aW.nil _ _) (LOk.nil _ _ _ _ _) h
def xC (args:List PV) (K:PV→Prop):Prop:=∃ t:Int,0≤t∧ah args [.U t]∧K (.bool (aC t))
theorem wy:SpK 53 (.pure xC):=by
 rintro args K ⟨t,h0,he,hk⟩
 have he:args=_:=he
 subst he
 refine ck aj (by simp[cf]) (.bool _) (Al t (fun x=>x = .bool (aC t)) ?_) hk
 simp only[au,bt]
 unfold aC
 by_cases c:t=0
 ·subst c; rw[if_neg (by decide)]; rfl
 ·rw[if_pos (by simpa using c)]; congr 1; apply decide_eq_decide.2; omega
theorem sG (a b:List (List PV)) (i:Nat):(by refine(?_:_→_→Prop) [PV.list a .no,.list b .no,.bool false,.I i] (Int.toNat (i:Int)); exact fun c d=>by refine(?_:_→_→Prop) (List.getD a d []) (List.getD b d []); exact fun f g=>∀(R:Ex→List PV→ae→Prop),(br (decide ((i:Int)<(a.length:Int))) (InL a 1 (i:Int)∧br (true && aE [.int .u32] 0 f) (InL b 1 (i:Int)∧br (true && aE [.int .u32] 0 g) (br (cI f 0 != cI g 0) (R .ret c []) (R .normal [.list a .no,.list b .no,.bool false,.I (wI ((i:Int)+1))] [])) False) False) (R (.exit 0) c []))→Holds (wpK [] [] (fun _=>0) (ai [1,1,0,1,0] (ag Tryz.f29)) [] (ak [0,1,4,5] c) [] (fun ex e H=>R ex (List.map e [0,1,4,5]) H)):Prop):=fun R h=>hoE h
theorem bi {ns:List Int} {k:IntKind} {t:Tail} (ht:NT t) {n:Nat}:Low n (.list (en1 k ns) t):=aH ht (iy k ns)
def pV:LSp:=fun e H Q=>∃(a b:List Int),a.length≤1000000∧a.length=b.length∧ah (List.map e [0,1,4,5]) [.list (en1 .u32 a) .no,.list (en1 .u32 b) .no,.bool false,.I 0]∧av H []∧
 (a=b→Q (.exit 0) (ak [0,1,4,5] [.list (en1 .u32 a) .no,.list (en1 .u32 b) .no,.bool false,.I a.length]) [])∧
 (a≠b→∀ i:Int,Q .ret (ak [0,1,4,5] [.list (en1 .u32 a) .no,.list (en1 .u32 b) .no,.bool false,.I i]) [])
theorem m9:∀ e H Q,pV e H Q→AwK Tryz.f29.ntmps (.loop (ai [1,1,0,1,0] (ag Tryz.f29))) Q e H:=by
 rintro e H Q ⟨a,b,hl,hab,he,hH,hx,hr⟩
 refine aB (hn:=fun _=>0) aj (.nil _ _) (.nil _ _ _ _ _) (σ:=Nat) [0,1,4,5] (fun i=>i≤a.length∧∀ k,k<i→a.getD k 0=b.getD k 0)
  (fun i=>[.list (en1 .u32 a) .no,.list (en1 .u32 b) .no,.bool false,.I i]) (fun _=>[]) (fun i=>a.length-i) 0 ⟨Nat.zero_le _,fun k hk=>absurd hk (Nat.not_lt_zero _)⟩ he hH ?_
 rintro i ⟨hi,hk⟩
 refine sG _ _ i _ ?_
 simp only[au,dt,aN,an]
 by_cases h:i<a.length
 ·rw[if_pos (by omega),oh _ _ _ h,oh _ _ _ (by omega)]
  refine⟨dI _ _ _ (by omega) (by omega),?_⟩
  rw[if_pos (by rfl)]
  refine⟨dI _ _ _ (by omega) (by omega),?_⟩
  rw[if_pos (by rfl)]
  have e1:cI [PV.U (a.getD i 0)] 0=a.getD i 0:=rfl
  have e2:cI [PV.U (b.getD i 0)] 0=b.getD i 0:=rfl
  rw[e1,e2]
  by_cases c:a.getD i 0=b.getD i 0
  ·rw[if_neg (by simpa using c)]
   refine⟨i+1,(show a.length-(i+1)<a.length-i by omega),⟨h,fun k hk'=>?_⟩,by rw[ar h (by omega)],[],rfl,Nat.le_refl _,.inl rfl⟩
   rcases Nat.eq_or_lt_of_le (Nat.le_of_lt_succ hk') with rfl|q
   ·exact c
   ·exact hk k q
  ·rw[if_pos (by simpa using c)]
   exact hr (fun e=>c (by rw[e])) i
 ·rw[if_neg (by omega)]
  have:i=a.length:=by omega
  subst this
  refine hx (List.ext_getElem hab fun k h1 h2=>?_)
  have:=hk k h1
  rwa [bg h1,bg h2] at this
theorem BX (a b:List Int)  (K:PV→Prop) (h:br ((↑(List.length (en1 .u32 a)):Int) != (↑(List.length (en1 .u32 b)):Int)) (K (.bool false)) (∃(a_1:List Int) (b_1:List Int),List.length a_1≤1000000∧List.length a_1=List.length b_1∧ah [.list (en1 .u32 a) .no,.list (en1 .u32 b) .no,.bool false,.I 0] [.list (en1 .u32 a_1) .no,.list (en1 .u32 b_1) .no,.bool false,.I 0]∧av [] []∧(a_1=b_1→K (.bool true))∧(a_1≠b_1→∀(_:Int),K (.bool false)))):AcK 29 [.list (en1 .u32 a) .no,.list (en1 .u32 b) .no] [] (fun x _=>K x):=
 acW (T:=[]) (L:=[([1,1,0,1,0],pV)]) (fun _=>0) Tryz.func29 (aW.nil _ _) (.cons suE m9 (.nil _ _ _ _ _)) h
def pu (args:List PV) (K:PV→Prop):Prop:=∃(a b:List Int) (t t':Tail),ah args [.list (en1 .u32 a) t,.list (en1 .u32 b) t']∧a.length≤1000000∧K (.bool (decide (a=b)))
theorem nZ:SpK 29 (.pure pu):=by
 rintro args K ⟨a,b,t,t',he,hl,hk⟩
 have he:args=_:=he
 subst he
 refine bB aj (.cons (.list _ _) (.cons (.list _ _) .nil)) (bn (bi NT.no) (bi NT.no)) (.bool _) (BX a b (fun x=>x = .bool (decide (a=b))) ?_) hk
 simp only[au,aN]
 by_cases c:a.length=b.length
 ·rw[if_neg (by simp[c])]
  exact⟨a,b,hl,c,rfl,rfl,fun e=>by rw[decide_eq_true e],fun e _=>by rw[decide_eq_false e]⟩
 ·rw[if_pos (by simp; omega)]
  rw[decide_eq_false (fun e=>c (by rw[e]))]
theorem LS (l:List (Int)) (t:Int) (i:Nat):(by refine(?_:_→_→_→Prop) [PV.list (l.map u1) .no,.U t,.bool false,.I i] (List.getD (l.map u1) (Int.toNat (i:Int)) []) (PV.list (l.map u1) .no); exact fun a b c=>∀(R:Ex→List PV→ae→Prop),(br (decide ((i:Int)<(↑(List.length (l.map u1)):Int))) (InL (l.map u1) 1 (i:Int)∧br (true && aE [.int .u32] 0 b) (br (cI b 0 == t) (R .ret [c,.U t,.bool true,.I i] []) (R .normal [c,.U t,.bool false,.I (wI ((i:Int)+1))] [])) False) (R (.exit 0) a []))→Holds (wpK [] [] (fun _=>0) (ai [1,0,1,0] (ag Tryz.f91)) [] (ak [0,1,4,5] a) [] (fun ex e H=>R ex (List.map e [0,1,4,5]) H)):Prop):=fun R h=>hoE h
def JH:LSp:=fun e H Q=>∃(l:List (Int)) (t:Int),l.length≤1000000∧(True)∧ah (List.map e [0,1,4,5]) [.list (l.map u1) .no,.U t,.bool false,.I 0]∧av H []∧
 (l.findIdx (fun x=>x == t)<l.length→Q .ret (ak [0,1,4,5] [.list (l.map u1) .no,.U t,.bool true,.I (l.findIdx (fun x=>x == t))]) [])∧(l.findIdx (fun x=>x == t)=l.length→Q (.exit 0) (ak [0,1,4,5] [.list (l.map u1) .no,.U t,.bool false,.I l.length]) [])
theorem B7:∀ e H Q,JH e H Q→AwK Tryz.f91.ntmps (.loop (ai [1,0,1,0] (ag Tryz.f91))) Q e H:=by
 rintro e H Q ⟨l,t,hl,_,he,hH,hQ1,hQ2⟩
 have hfl:l.findIdx (fun x=>x == t)≤l.length:=List.findIdx_le_length
 refine aB (hn:=fun _=>0) aj (.nil _ _) (.nil _ _ _ _ _) (σ:=Nat) [0,1,4,5] (fun i=>i≤l.findIdx (fun x=>x == t)) (fun i=>[.list (l.map u1) .no,.U t,.bool false,.I i]) (fun _=>[]) (fun i=>l.length-i) 0 (Nat.zero_le _) he hH ?_
 intro i hi
 have hi':i≤l.findIdx (fun x=>x == t):=hi
 refine LS l t i _ ?_
 simp only[au,dt,an,List.length_map,dM]
 by_cases h:i<l.length
 ·rw[if_pos (by omega)]
  simp only[getD_map 0 h]
  repeat (first|refine⟨h,?_⟩|rw[if_pos (by rfl)])
  by_cases c:(fun x=>x == t) (l.getD i 0)=true
  ·have hge:l.findIdx (fun x=>x == t)=i:=dY 0 hi' h c
   rw[hge] at hQ1
   rw[if_pos (by exact c)]
   repeat (first|refine⟨h,?_⟩|rw[if_pos (by rfl)])
   exact hQ1 h
  ·have hlt:i<l.findIdx (fun x=>x == t):=dS 0 hi' h (by simpa using c)
   rw[if_neg (by exact c)]
   exact⟨i+1,(show l.length-(i+1)<l.length-i by omega),hlt,by rw[ar h (by omega)],[],rfl,Nat.le_refl _,.inl rfl⟩
 ·rw[if_neg (by omega)]
  have:i=l.length:=by omega
  subst this
  exact hQ2 (by omega)
theorem GF (l:List Int) (t:Int):∀(K:PV→Prop),(∃(l_1:List Int) (t_1:Int),l_1.length≤1000000∧True∧ah [.list (l.map u1) .no,.U t,.bool false,.I 0] [.list (l_1.map u1) .no,.U t_1,.bool false,.I 0]∧av [] []∧(List.findIdx (fun(x:Int)=>x == t_1) l_1<l_1.length→K (.bool true))∧(List.findIdx (fun(x:Int)=>x == t_1) l_1=l_1.length→K (.bool false)))→AcK 91 [.list (l.map u1) .no,.U t] [] (fun x _=>K x):=fun K h=>acW (T:=[]) (L:=[([1,0,1,0],JH)]) (fun _=>0) Tryz.func91 (aW.nil _ _) (.cons suE B7 (.nil _ _ _ _ _)) h
theorem uv (l:List Int) (t:Int):(l.findIdx (fun x=>x == t)<l.length↔t∈l):=by
 rw[List.findIdx_lt_length]
 exact⟨fun⟨x,hx,e⟩=>by rw[← eq_of_beq e]; exact hx,fun h=>⟨t,h,by simp⟩⟩
def Jo (args:List PV) (K:PV→Prop):Prop:=∃(l:List Int) (tl:Tail) (t:Int),ah args [.list (l.map u1) tl,.U t]∧l.length≤1000000∧K (.bool (cH l t))
theorem Ky:SpK 91 (.pure Jo):=by
 rintro args K ⟨l,tl,t,he,hl,hk⟩
 have he:args=_:=he
 subst he
 refine bB aj (.cons (.list _ _) (.cons (.refl _) .nil)) (bn (eC l) (.int _ _)) (.bool _) (GF l t (fun x=>x = .bool (cH l t)) ⟨l,t,hl,trivial,rfl,rfl,fun h=>?_,fun h=>?_⟩) hk
 ·rw[oF.2 ((uv l t).1 h)]
 ·rw[show cH l t=false from eq_false_of_ne_true fun k=>by have:=(uv l t).2 (oF.1 k); omega]
def mtc (c:Mt):List PV:=[.U c.id,.I c.md,.U c.ins,.list (c.rows.map rrc) .no,.list (c.aa.map stc) .no]
theorem eL (c:Mt):(mtc c).length=5:=rfl
theorem ii {n:Nat} (c:Mt):∀ y∈mtc c,Low n y:=gQ (.int _ _) (.int _ _) (.int _ _) (aP _) (dz _)
theorem fq (c:Mt):∀ y∈mtc c,y.one=true:=by
 intro y hy
 simp only[mtc,List.mem_cons,List.not_mem_nil,or_false] at hy
 rcases hy with rfl|rfl|rfl|rfl|rfl<;>rfl
def mtI (c:Mt):List PV:=[.U c.id]
theorem yF (c:Mt):(mtI c).length=1:=rfl
theorem GU {n:Nat} (c:Mt):∀ y∈mtI c,Low n y:=bu (.int _ _)
theorem yp (c:Mt):∀ y∈mtI c,y.one=true:=by intro y hy; rcases List.mem_singleton.1 hy with rfl; rfl
theorem bK {n:Nat} (w:List Mt):Low n (.list (w.map mtc) .no):=bp ii w
def idT (t:Int) (c:Mt):Bool:=c.id == t
def nuT (t:Int) (s:Se):Bool:=s.nu == t
theorem jv (l:List (Mt)) (i:Nat):InL (l.map mtc) 5 (i:Int)=(i<l.length):=dZ eL (by decide) l i
theorem HO (l:List (Mt)) (t:Int) (i:Nat):(by refine(?_:_→_→_→_→Prop) (List.getD (l.map mtc) (Int.toNat (i:Int)) []) [Ob.cells [.U 0,.I 0,.U 0,.E,.E]] [PV.list (l.map mtc) .no,.U t,.ptr 0 0,.bool false,.I i] (PV.list (l.map mtc) .no); exact fun a b c d=>∀(R:Ex→List PV→ae→Prop),(br (decide ((i:Int)<(↑(List.length (l.map mtc)):Int))) (InL (l.map mtc) 5 (i:Int)∧br (true && aE [.int .u32] 0 (List.drop 0 a)) (br (cI (List.drop 0 a) 0 == t) (InL (l.map mtc) 5 (i:Int)∧br (true && aE [.int .u32,.int .i64,.int .u32,.list,.list] 0 a) (R .ret [d,.U t,.ptr 0 0,.bool true,.I i] [.cells [.U (cI a 0),.I (cI a 1),.U (cI a 2),.list (cL a 3) (cT a 3),.list (cL a 4) (cT a 4)]]) False) (R .normal [d,.U t,.ptr 0 0,.bool false,.I (wI ((i:Int)+1))] b)) False) (R (.exit 0) c b))→Holds (wpK [] [] (fun _=>0) (ai [1,0,1,0] (ag Tryz.f15)) [] (ak [0,1,4,5,6] c) b (fun ex e H=>R ex (List.map e [0,1,4,5,6]) H)):Prop):=fun R h=>hoE h
def D8:LSp:=fun e H Q=>∃(l:List (Mt)) (t:Int),l.length≤1000000∧(True)∧ah (List.map e [0,1,4,5,6]) [.list (l.map mtc) .no,.U t,.ptr 0 0,.bool false,.I 0]∧av H [.cells [.U 0,.I 0,.U 0,.E,.E]]∧
 (l.findIdx (idT t)<l.length→Q .ret (ak [0,1,4,5,6] [.list (l.map mtc) .no,.U t,.ptr 0 0,.bool true,.I (l.findIdx (idT t))]) [.cells (mtc (l.getD (l.findIdx (idT t)) default))])∧(l.findIdx (idT t)=l.length→Q (.exit 0) (ak [0,1,4,5,6] [.list (l.map mtc) .no,.U t,.ptr 0 0,.bool false,.I l.length]) [.cells [.U 0,.I 0,.U 0,.E,.E]])
theorem Af:∀ e H Q,D8 e H Q→AwK Tryz.f15.ntmps (.loop (ai [1,0,1,0] (ag Tryz.f15))) Q e H:=by
 rintro e H Q ⟨l,t,hl,_,he,hH,hQ1,hQ2⟩
 have hfl:l.findIdx (idT t)≤l.length:=List.findIdx_le_length
 refine aB (hn:=fun _=>0) aj (.nil _ _) (.nil _ _ _ _ _) (σ:=Nat) [0,1,4,5,6] (fun i=>i≤l.findIdx (idT t)) (fun i=>[.list (l.map mtc) .no,.U t,.ptr 0 0,.bool false,.I i]) (fun _=>[.cells [.U 0,.I 0,.U 0,.E,.E]]) (fun i=>l.length-i) 0 (Nat.zero_le _) he hH ?_
 intro i hi
 have hi':i≤l.findIdx (idT t):=hi
 refine HO l t i _ ?_
 simp only[au,dt,an,List.length_map,jv]
 by_cases h:i<l.length
 ·rw[if_pos (by omega)]
  simp only[getD_map default h]
  repeat (first|refine⟨h,?_⟩|rw[if_pos (by rfl)])
  by_cases c:(idT t) (l.getD i default)=true
  ·have hge:l.findIdx (idT t)=i:=dY default hi' h c
   rw[hge] at hQ1
   rw[if_pos (by exact c)]
   repeat (first|refine⟨h,?_⟩|rw[if_pos (by rfl)])
   exact hQ1 h
  ·have hlt:i<l.findIdx (idT t):=dS default hi' h (by simpa using c)
   rw[if_neg (by exact c)]
   exact⟨i+1,(show l.length-(i+1)<l.length-i by omega),hlt,by rw[ar h (by omega)],[],rfl,Nat.le_refl _,.inl rfl⟩
 ·rw[if_neg (by omega)]
  have:i=l.length:=by omega
  subst this
  exact hQ2 (by omega)
theorem Dk (l:List Mt) (t:Int):(by refine(?_:_→_→Prop) [PV.U 0,.I 0,.U 0,.E,.E] (PV.list (l.map mtc) .no); exact fun b c=>∀(K:PV→Prop),(∃(l_1:List Mt) (t_1:Int),by refine(?_:_→Prop) (List.getD l_1 (List.findIdx (idT t_1) l_1) default); exact fun a=>l_1.length≤1000000∧True∧ah [c,.U t,.ptr 0 0,.bool false,.I 0] [.list (l_1.map mtc) .no,.U t_1,.ptr 0 0,.bool false,.I 0]∧av [.cells b] [.cells b]∧(List.findIdx (idT t_1) l_1<l_1.length→K (.tup [.agg [.U (Mt.id a),.I (Mt.md a),.U (Mt.ins a),.list (List.map rrc (Mt.rows a)) .no,.list (List.map stc (Mt.aa a)) .no],.bool true]))∧(List.findIdx (idT t_1) l_1=l_1.length→K (.tup [.agg b,.bool false])))→AcK 15 [c,.U t] [] (fun x _=>K x):Prop):=fun K h=>acW (T:=[]) (L:=[([1,0,1,0],D8)]) (fun _=>0) Tryz.func15 (aW.nil _ _) (.cons suE Af (.nil _ _ _ _ _)) h
theorem Ba (l:List (Se)) (id md ins t:Int) (rw:List Rr) (i:Nat):(by refine(?_:_→_→_→Prop) (List.getD (l.map stc) (Int.toNat (i:Int)) []) [PV.U id,.I md,.U ins,.list (rw.map rrc) .no,.list (l.map stc) .no] [PV.U t,.ptr 0 0,.ptr 1 0,.bool false,.I i]; exact fun a c d=>by refine(?_:_→Prop) [Ob.cells c,.cells [.U 0,.I 0,.I 0,.I 0,.I 0,.int .u64 0]]; exact fun b=>∀(R:Ex→List PV→ae→Prop),(br (decide ((i:Int)<(↑(List.length (l.map stc)):Int))) (InL (l.map stc) 6 (i:Int)∧br (true && aE [.int .u32] 0 (List.drop 0 a)) (br (cI (List.drop 0 a) 0 == t) (InL (l.map stc) 6 (i:Int)∧br (true && aE [.int .u32,.int .i64,.int .i64,.int .i64,.int .i64,.int .u64] 0 a) (R .ret [.U t,.ptr 0 0,.ptr 1 0,.bool true,.I i] [.cells c,.cells [.U (cI a 0),.I (cI a 1),.I (cI a 2),.I (cI a 3),.I (cI a 4),.int .u64 (cI a 5)]]) False) (R .normal [.U t,.ptr 0 0,.ptr 1 0,.bool false,.I (wI ((i:Int)+1))] b)) False) (R (.exit 0) d b))→Holds (wpK [] [] (fun _=>0) (ai [1,0,1,0] (ag Tryz.f98)) [] (ak [1,2,4,5,6] d) b (fun ex e H=>R ex (List.map e [1,2,4,5,6]) H)):Prop):=fun R h=>hoE h
def yJ:LSp:=fun e H Q=>∃(l:List (Se)) (id md ins t:Int) (rw:List Rr),l.length≤1000000∧(True)∧ah (List.map e [1,2,4,5,6]) [.U t,.ptr 0 0,.ptr 1 0,.bool false,.I 0]∧av H [.cells [.U id,.I md,.U ins,.list (rw.map rrc) .no,.list (l.map stc) .no],.cells [.U 0,.I 0,.I 0,.I 0,.I 0,.int .u64 0]]∧
 (l.findIdx (isP t)<l.length→Q .ret (ak [1,2,4,5,6] [.U t,.ptr 0 0,.ptr 1 0,.bool true,.I (l.findIdx (isP t))]) [.cells [.U id,.I md,.U ins,.list (rw.map rrc) .no,.list (l.map stc) .no],.cells (stc (l.getD (l.findIdx (isP t)) default))])∧(l.findIdx (isP t)=l.length→Q (.exit 0) (ak [1,2,4,5,6] [.U t,.ptr 0 0,.ptr 1 0,.bool false,.I l.length]) [.cells [.U id,.I md,.U ins,.list (rw.map rrc) .no,.list (l.map stc) .no],.cells [.U 0,.I 0,.I 0,.I 0,.I 0,.int .u64 0]])
theorem wv:∀ e H Q,yJ e H Q→AwK Tryz.f98.ntmps (.loop (ai [1,0,1,0] (ag Tryz.f98))) Q e H:=by
 rintro e H Q ⟨l,id,md,ins,t,rw,hl,_,he,hH,hQ1,hQ2⟩
 have hfl:l.findIdx (isP t)≤l.length:=List.findIdx_le_length
 refine aB (hn:=fun _=>0) aj (.nil _ _) (.nil _ _ _ _ _) (σ:=Nat) [1,2,4,5,6] (fun i=>i≤l.findIdx (isP t)) (fun i=>[.U t,.ptr 0 0,.ptr 1 0,.bool false,.I i]) (fun _=>[.cells [.U id,.I md,.U ins,.list (rw.map rrc) .no,.list (l.map stc) .no],.cells [.U 0,.I 0,.I 0,.I 0,.I 0,.int .u64 0]]) (fun i=>l.length-i) 0 (Nat.zero_le _) he hH ?_
 intro i hi
 have hi':i≤l.findIdx (isP t):=hi
 refine Ba l id md ins t rw i _ ?_
 simp only[au,dt,an,List.length_map,nX]
 by_cases h:i<l.length
 ·rw[if_pos (by omega)]
  simp only[getD_map default h]
  repeat (first|refine⟨h,?_⟩|rw[if_pos (by rfl)])
  by_cases c:(isP t) (l.getD i default)=true
  ·have hge:l.findIdx (isP t)=i:=dY default hi' h c
   rw[hge] at hQ1
   rw[if_pos (by exact c)]
   repeat (first|refine⟨h,?_⟩|rw[if_pos (by rfl)])
   exact hQ1 h
  ·have hlt:i<l.findIdx (isP t):=dS default hi' h (by simpa using c)
   rw[if_neg (by exact c)]
   exact⟨i+1,(show l.length-(i+1)<l.length-i by omega),hlt,by rw[ar h (by omega)],[],rfl,Nat.le_refl _,.inl rfl⟩
 ·rw[if_neg (by omega)]
  have:i=l.length:=by omega
  subst this
  exact hQ2 (by omega)
theorem zb (c:Mt) (t:Int):(by refine(?_:_→Prop) [PV.U 0,.I 0,.I 0,.I 0,.I 0,.int .u64 0]; exact fun b=>∀(K:PV→Prop),(∃(l:List Se) (id:Int) (md:Int) (ins:Int) (t_1:Int) (rw:List Rr),by refine(?_:_→Prop) (List.getD l (List.findIdx (isP t_1) l) default); exact fun a=>l.length≤1000000∧True∧ah [.U t,.ptr 0 0,.ptr 1 0,.bool false,.I 0] [.U t_1,.ptr 0 0,.ptr 1 0,.bool false,.I 0]∧av [.cells [.U c.id,.I c.md,.U c.ins,.list (c.rows.map rrc) .no,.list (c.aa.map stc) .no],.cells b] [.cells [.U id,.I md,.U ins,.list (rw.map rrc) .no,.list (l.map stc) .no],.cells b]∧(List.findIdx (isP t_1) l<l.length→K (.tup [.agg [.U (Se.pl a),.I (Se.tm a),.I (Se.nu a),.I (Se.st a),.I (Se.un a),.int .u64 (Se.no a)],.bool true]))∧(List.findIdx (isP t_1) l=l.length→K (.tup [.agg b,.bool false])))→AcK 98 [.agg (mtc c),.U t] [] (fun x _=>K x):Prop):=fun K h=>acW (T:=[]) (L:=[([1,0,1,0],yJ)]) (fun _=>0) Tryz.func98 (aW.nil _ _) (.cons suE wv (.nil _ _ _ _ _)) h
theorem GJ (l:List (Se)) (t:Int) (i:Nat):(by refine(?_:_→_→_→Prop) (List.drop 2 (List.getD (l.map stc) (Int.toNat (i:Int)) [])) [PV.list (l.map stc) .no,.I t,.I 0,.I i] (PV.list (l.map stc) .no); exact fun a b c=>∀(R:Ex→List PV→ae→Prop),(br (decide ((i:Int)<(↑(List.length (l.map stc)):Int))) (InL (l.map stc) 6 (i:Int)∧br (true && aE [.int .i64] 0 a) (br (cI a 0 == t) (R .ret [c,.I t,.I i,.I i] []) (R .normal [c,.I t,.I 0,.I (wI ((i:Int)+1))] [])) False) (R (.exit 0) b []))→Holds (wpK [] [] (fun _=>0) (ai [1,0,1,0] (ag Tryz.f93)) [] (ak [0,1,4,5] b) [] (fun ex e H=>R ex (List.map e [0,1,4,5]) H)):Prop):=fun R h=>hoE h
def Bo:LSp:=fun e H Q=>∃(l:List (Se)) (t:Int),l.length≤1000000∧(True)∧ah (List.map e [0,1,4,5]) [.list (l.map stc) .no,.I t,.I 0,.I 0]∧av H []∧
 (l.findIdx (nuT t)<l.length→Q .ret (ak [0,1,4,5] [.list (l.map stc) .no,.I t,.I (l.findIdx (nuT t)),.I (l.findIdx (nuT t))]) [])∧(l.findIdx (nuT t)=l.length→Q (.exit 0) (ak [0,1,4,5] [.list (l.map stc) .no,.I t,.I 0,.I l.length]) [])
theorem zM:∀ e H Q,Bo e H Q→AwK Tryz.f93.ntmps (.loop (ai [1,0,1,0] (ag Tryz.f93))) Q e H:=by
 rintro e H Q ⟨l,t,hl,_,he,hH,hQ1,hQ2⟩
 have hfl:l.findIdx (nuT t)≤l.length:=List.findIdx_le_length
 refine aB (hn:=fun _=>0) aj (.nil _ _) (.nil _ _ _ _ _) (σ:=Nat) [0,1,4,5] (fun i=>i≤l.findIdx (nuT t)) (fun i=>[.list (l.map stc) .no,.I t,.I 0,.I i]) (fun _=>[]) (fun i=>l.length-i) 0 (Nat.zero_le _) he hH ?_
 intro i hi
 have hi':i≤l.findIdx (nuT t):=hi
 refine GJ l t i _ ?_
 simp only[au,dt,an,List.length_map,nX]
 by_cases h:i<l.length
 ·rw[if_pos (by omega)]
  simp only[getD_map default h]
  repeat (first|refine⟨h,?_⟩|rw[if_pos (by rfl)])
  by_cases c:(nuT t) (l.getD i default)=true
  ·have hge:l.findIdx (nuT t)=i:=dY default hi' h c
   rw[hge] at hQ1
   rw[if_pos (by exact c)]
   repeat (first|refine⟨h,?_⟩|rw[if_pos (by rfl)])
   exact hQ1 h
  ·have hlt:i<l.findIdx (nuT t):=dS default hi' h (by simpa using c)
   rw[if_neg (by exact c)]
   exact⟨i+1,(show l.length-(i+1)<l.length-i by omega),hlt,by rw[ar h (by omega)],[],rfl,Nat.le_refl _,.inl rfl⟩
 ·rw[if_neg (by omega)]
  have:i=l.length:=by omega
  subst this
  exact hQ2 (by omega)
theorem DF (l:List Se) (t:Int):∀(K:PV→Prop),(∃(l_1:List Se) (t_1:Int),l_1.length≤1000000∧True∧ah [.list (l.map stc) .no,.I t,.I 0,.I 0] [.list (l_1.map stc) .no,.I t_1,.I 0,.I 0]∧av [] []∧(List.findIdx (nuT t_1) l_1<l_1.length→K (.I (↑(List.findIdx (nuT t_1) l_1):Int)))∧(List.findIdx (nuT t_1) l_1=l_1.length→K (.I (-1))))→AcK 93 [.list (l.map stc) .no,.I t] [] (fun x _=>K x):=fun K h=>acW (T:=[]) (L:=[([1,0,1,0],Bo)]) (fun _=>0) Tryz.func93 (aW.nil _ _) (.cons suE zM (.nil _ _ _ _ _)) h
theorem DJ (l:List (Mt)) (i:Nat):(by refine(?_:_→_→Prop) (List.drop 0 (List.getD (l.map mtc) (Int.toNat (i:Int)) [])) [PV.list (l.map mtc) .no,.E,.I i]; exact fun a b=>by refine(?_:_→Prop) [[PV.U (cI a 0)]]; exact fun c=>∀(R:Ex→List PV→ae→Prop),(br (decide ((i:Int)<(↑(List.length (l.map mtc)):Int))) (InL (l.map mtc) 5 (i:Int)∧br (true && aE [.int .u32] 0 a) (aG [] c 1 4∧(List.all [.U (cI a 0)] PV.one=true∧c≠[])∧R .normal [.list (l.map mtc) .no,.list c (.tok 0),.I (wI ((i:Int)+1))] [.tok]) False) (R (.exit 0) b []))→Holds (wpK [] [] (fun o=>match o.dst with|some 18=>1|_=>0) (ai [1,1,0,1,0] (ag Tryz.f32)) [] (ak [0,3,4] b) [] (fun ex e H=>R ex (List.map e [0,3,4]) H)):Prop):=fun R h=>hoE h
theorem DI (l:List (Mt)) (es:List (List PV)) (i:Nat):(by refine(?_:_→_→Prop) (List.drop 0 (List.getD (l.map mtc) (Int.toNat (i:Int)) [])) [PV.list (l.map mtc) .no,.list es (.tok 0),.I i]; exact fun a b=>by refine(?_:_→Prop) [[PV.U (cI a 0)]]; exact fun c=>∀(R:Ex→List PV→ae→Prop),(br (decide ((i:Int)<(↑(List.length (l.map mtc)):Int))) (InL (l.map mtc) 5 (i:Int)∧br (true && aE [.int .u32] 0 a) (aG es c 1 4∧(List.all [.U (cI a 0)] PV.one=true∧c≠[])∧R .normal [.list (l.map mtc) .no,.list (es++c) (.tok 1),.I (wI ((i:Int)+1))] [.dead,.tok]) False) (R (.exit 0) b [.tok]))→Holds (wpK [] [] (fun o=>match o.dst with|some 18=>1|_=>0) (ai [1,1,0,1,0] (ag Tryz.f32)) [] (ak [0,3,4] b) [.tok] (fun ex e H=>R ex (List.map e [0,3,4]) H)):Prop):=fun R h=>hoE h
def CV:LSp:=fun e H Q=>∃(l:List (Mt)) ,l.length≤1000000∧(True)∧ah (List.map e [0,3,4]) [.list (l.map mtc) .no,.E,.I 0]∧av H []∧
 Q (.exit 0) (ak [0,3,4] [.list (l.map mtc) .no,.list (l.map mtI) .no,.I l.length]) [.dead]
theorem yO:∀ e H Q,CV e H Q→AwK Tryz.f32.ntmps (.loop (ai [1,1,0,1,0] (ag Tryz.f32))) Q e H:=by
 rintro e H Q ⟨l,hl,_,he,hH,hQ⟩
 have hH2:H=[]:=hH
 refine fJ (f:=mtI) (acc:=fun i=>l.take i) (I:=fun i=>i≤l.length) (m:=fun i=>l.length-i) (hn:=fun o=>match o.dst with|some 18=>1|_=>0) aj (.nil _ _) (.nil _ _ _ _ _) [0,3,4] (fun r i=>[.list (l.map mtc) .no,r,.I i]) [] (0:Nat)
  (vK) (fun _ _ a _=>GU a) (fun es i k _ h=> .same (bK l) (.row h (.same (.int _ _) (.nil)))) (fun i _ w hw=>by
   simp only[List.mem_cons,List.not_mem_nil,or_false] at hw
   rcases hw with rfl|rfl|rfl
   ·exact bK l
   ·exact aH NT.exact (by simp)
   ·exact .int _ _) (Nat.zero_le _) (by simp) he hH2 ?_ ?_
 ·intro i hi ha
  have hi':i≤l.length:=hi
  refine DJ l  i _ ?_
  simp only[au,dt,an,List.length_map,jv]
  by_cases h:i<l.length
  ·rw[if_pos (by omega)]
   simp only[getD_map default h]
   have hs:=aI default h
   repeat (first|refine⟨h,?_⟩|rw[if_pos (by rfl)])
   refine⟨aF (l:=[]) (by_:=4) yF (l.getD i default) (by show(0+1)*4≤_; decide),one_row yp (l.getD i default),?_⟩
   exact aV (i+1) (show l.length-(i+1)<l.length-i by omega) h hs (jP _ _) [.tok] 0 rfl rfl (by simp) (by rw[ha]; rw[ar h (by omega)]; rfl)
  ·rw[if_neg (by omega)]
   have:i=l.length:=by omega
   subst this
   simp only[List.take_length] at ha ⊢
   subst ha
   exact bN (.cons (.refl _) (.cons (.list _ _) (.cons (.refl _) (.nil)))) (dN _) hQ
 ·intro i hi ha
  have hi':i≤l.length:=hi
  refine DI l  ((l.take i).map mtI) i _ ?_
  simp only[au,dt,an,List.length_map,jv]
  by_cases h:i<l.length
  ·rw[if_pos (by omega)]
   simp only[getD_map default h]
   have hs:=aI default h
   repeat (first|refine⟨h,?_⟩|rw[if_pos (by rfl)])
   refine⟨aF yF _ _ (by rw[List.length_take]; omega),one_row yp (l.getD i default),?_⟩
   exact aV (i+1) (show l.length-(i+1)<l.length-i by omega) h hs (jP _ _) [.dead,.tok] 1 rfl rfl (by simp) (by  rw[ar h (by omega)]; rw[List.map_append]; rfl)
  ·rw[if_neg (by omega)]
   have:i=l.length:=by omega
   subst this
   simp only[List.take_length] at ha ⊢
   exact bN (.cons (.refl _) (.cons (.list _ _) (.cons (.refl _) (.nil)))) (ej [] .tok) hQ
theorem DK (l:List Mt):∀(K:PV→Prop),(∃(l_1:List Mt),l_1.length≤1000000∧True∧ah [.list (l.map mtc) .no,.E,.I 0] [.list (l_1.map mtc) .no,.E,.I 0]∧av [] []∧K (.list (l_1.map mtI) .no))→AcK 32 [.list (l.map mtc) .no] [] (fun x _=>K x):=fun K h=>acW (T:=[]) (L:=[([1,1,0,1,0],CV)]) (fun o=>match o.dst with|some 18=>1|_=>0) Tryz.func32 (aW.nil _ _) (.cons suE yO (.nil _ _ _ _ _)) h
theorem LC (c:Mt):c.pv = .agg (mtc c):=rfl
theorem zG (w:List Mt) (t:Int):(w.findIdx (idT t)<w.length→bC Mt.id w t=true∧gM w t=w.getD (w.findIdx (idT t)) default)∧(w.findIdx (idT t)=w.length→bC Mt.id w t=false∧gM w t=mt0):=by
 constructor
 ·intro h
  refine⟨?_,?_⟩
  ·rw[List.findIdx_lt_length] at h
   obtain⟨x,hx,e⟩:=h
   exact dL.2 ⟨x,hx,eq_of_beq e⟩
  ·unfold gM nR
   rw[List.find?_eq_getElem?_findIdx]
   show(w[w.findIdx (idT t)]?).getD default=_
   rw[List.getD_eq_getElem?_getD]
 ·intro h
  have h0:bC Mt.id w t=false:=by
   refine eq_false_of_ne_true fun k=>?_
   obtain⟨x,hx,e⟩:=dL.1 k
   have:w.findIdx (idT t)<w.length:=List.findIdx_lt_length.2 ⟨x,hx,by unfold idT; simpa using e⟩
   omega
  exact⟨h0,gL h0⟩
theorem Mg {b:Bool}:Wk (.tup [.agg [.U 0,.I 0,.U 0,.E,.E],.bool b]) (.tup [mt0.pv,.bool b]):= .tup (.cons (gK (c:=mt0) (t1:= .exact) (t2:= .exact)) (.cons (.refl _) .nil))
def r6 (args:List PV) (K:PV→Prop):Prop:=∃(w:List Mt) (tl:Tail) (t:Int),ah args [.list (w.map mtc) tl,.U t]∧w.length≤1000000∧K (.tup [(gM w t).pv,.bool (bC Mt.id w t)])
theorem sg:SpK 15 (.pure r6):=by
 rintro args K ⟨w,tl,t,he,hl,hk⟩
 have he:args=_:=he
 subst he
 obtain⟨h1,h2⟩:=zG w t
 refine bB aj (.cons (.list _ _) (.cons (.refl _) .nil)) (bn (bK w) (.int _ _)) (so _ _) (a9 (Dk w t (fun x=>∃ y,Wk x y∧y = .tup [(gM w t).pv,.bool (bC Mt.id w t)]) ⟨w,t,hl,trivial,rfl,rfl,fun h=>⟨_,.refl _,?_⟩,fun h=>⟨_,Mg,?_⟩⟩)) hk
 ·rw[(h1 h).1,(h1 h).2]; rfl
 ·rw[(h2 h).1,(h2 h).2]
def yx (args:List PV) (K:PV→Prop):Prop:=∃(c:Mt) (t1 t2:Tail) (t:Int),ah args [.agg [.U c.id,.I c.md,.U c.ins,.list (c.rows.map rrc) t1,.list (c.aa.map stc) t2],.U t]∧c.aa.length≤1000000∧K (.tup [.agg (stc (iV c t)),.bool (inM c t)])
theorem xA {c:Mt} {p:Int}:(c.aa.findIdx (isP p)<c.aa.length→inM c p=true)∧(c.aa.findIdx (isP p)=c.aa.length→inM c p=false):=by
 constructor
 ·intro h; exact List.any_eq_true.2 ⟨_,List.getElem_mem h,List.findIdx_getElem (w:=h)⟩
 ·intro h
  unfold inM
  rw[List.any_eq_false]
  intro x hx e
  have:=List.findIdx_lt_length_of_exists (p:=isP p) ⟨x,hx,e⟩
  omega
theorem DH:SpK 98 (.pure yx):=by
 rintro args K ⟨c,t1,t2,t,he,hl,hk⟩
 have he:args=_:=he
 subst he
 refine bB aj (.cons gK (.cons (.refl _) .nil)) (bn c.low (.int _ _)) (G3 _ _) (zb c t (fun x=>x = .tup [.agg (stc (iV c t)),.bool (inM c t)]) ⟨c.aa,c.id,c.md,c.ins,t,c.rows,hl,trivial,rfl,rfl,fun h=>?_,fun h=>?_⟩) hk
 ·have k:=xA.1 h
  unfold iV; rw[if_pos k,k]; rfl
 ·have k:=xA.2 h
  unfold iV; rw[k]; rfl
def CN (args:List PV) (K:PV→Prop):Prop:=∃(w:List Mt) (tl:Tail),ah args [.list (w.map mtc) tl]∧w.length≤1000000∧K (.list ((w.map Mt.id).map u1) .no)
theorem Iy:SpK 32 (.pure CN):=by
 rintro args K ⟨w,tl,he,hl,hk⟩
 have he:args=_:=he
 subst he
 have e:w.map mtI=(w.map Mt.id).map u1:=by rw[List.map_map]; rfl
 exact bB aj (.cons (.list _ _) .nil) (bu (bK w)) (eC _) (DK w (fun x=>x = .list ((w.map Mt.id).map u1) .no) ⟨w,hl,trivial,rfl,rfl,by rw[e]⟩) hk
def fA (l:List Se) (t:Int):Int:=if l.findIdx (nuT t)<l.length then(l.findIdx (nuT t):Int) else -1
def wC (args:List PV) (K:PV→Prop):Prop:=∃(l:List Se) (tl:Tail) (t:Int),ah args [.list (l.map stc) tl,.I t]∧l.length≤1000000∧K (.I (fA l t))
theorem xd:SpK 93 (.pure wC):=by
 rintro args K ⟨l,tl,t,he,hl,hk⟩
 have he:args=_:=he
 subst he
 refine bB aj (.cons (.list _ _) (.cons (.refl _) .nil)) (bn (dz l) (.int _ _)) (.int _ _) (DF l t (fun x=>x = .I (fA l t)) ⟨l,t,hl,trivial,rfl,rfl,fun h=>?_,fun h=>?_⟩) hk
 ·unfold fA; rw[if_pos h]
 ·unfold fA; rw[if_neg (by omega)]
def TRF:Tab:=[(98,.pure yx),(93,.pure wC)]
theorem sC:TbK TRF:= .cons DH (.cons xd (.nil _ _))
theorem Ke (l:List (Mt)) (t:Int) (i:Nat):(by refine(?_:_→_→_→Prop) (List.getD (l.map mtc) (Int.toNat (i:Int)) []) [PV.list (l.map mtc) .no,.U t,.U 0,.I i] (PV.list (l.map mtc) .no); exact fun b d f=>∀(R:Ex→List PV→ae→Prop),(br (decide ((i:Int)<(↑(List.length (l.map mtc)):Int))) (InL (l.map mtc) 5 (i:Int)∧br (true && aE [.int .u32,.int .i64,.int .u32,.list,.list] 0 b) (∃(c:Mt) (t1:Tail) (t2:Tail) (t_1:Int),by refine(?_:_→Prop) [Ob.cells [.U (Se.pl (iV c t_1)),.I (Se.tm (iV c t_1)),.I (Se.nu (iV c t_1)),.I (Se.st (iV c t_1)),.I (Se.un (iV c t_1)),.int .u64 (Se.no (iV c t_1))]]; exact fun a=>ah [.agg [.U (cI b 0),.I (cI b 1),.U (cI b 2),.list (cL b 3) (cT b 3),.list (cL b 4) (cT b 4)],.U t] [.agg [.U c.id,.I c.md,.U c.ins,.list (c.rows.map rrc) t1,.list (c.aa.map stc) t2],.U t_1]∧c.aa.length≤1000000∧br (inM c t_1) (InL (l.map mtc) 5 (i:Int)∧br (true && aE [.int .u32] 0 (List.drop 0 b)) (R .ret [f,.U t,.U (cI (List.drop 0 b) 0),.I i] a) False) (R .normal [f,.U t,.U 0,.I (wI ((i:Int)+1))] a)) False) (R (.exit 0) d []))→Holds (wpK TRF [] (fun _=>0) (ai [1,0,1,0] (ag Tryz.f65)) [] (ak [0,1,4,5] d) [] (fun ex e H=>R ex (List.map e [0,1,4,5]) H)):Prop):=fun R h=>hoE h
def Jq:LSp:=fun e H Q=>∃(l:List (Mt)) (t:Int),l.length≤1000000∧(∀ c∈l,c.aa.length≤1000000)∧ah (List.map e [0,1,4,5]) [.list (l.map mtc) .no,.U t,.U 0,.I 0]∧av H []∧
 (l.findIdx (fun c=>inM c t)<l.length→Q .ret (ak [0,1,4,5] [.list (l.map mtc) .no,.U t,.U ((l.getD (l.findIdx (fun c=>inM c t)) default)).id,.I (l.findIdx (fun c=>inM c t))]) [.cells (stc (iV ((l.getD (l.findIdx (fun c=>inM c t)) default)) t))])∧(l.findIdx (fun c=>inM c t)=l.length→Q (.exit 0) (ak [0,1,4,5] [.list (l.map mtc) .no,.U t,.U 0,.I l.length]) [])
theorem Fw:∀ e H Q,Jq e H Q→AwK Tryz.f65.ntmps (.loop (ai [1,0,1,0] (ag Tryz.f65))) Q e H:=by
 rintro e H Q ⟨l,t,hl,hm,he,hH,hQ1,hQ2⟩
 have hfl:l.findIdx (fun c=>inM c t)≤l.length:=List.findIdx_le_length
 refine aB (hn:=fun _=>0) aj (sC) (.nil _ _ _ _ _) (σ:=Nat) [0,1,4,5] (fun i=>i≤l.findIdx (fun c=>inM c t)) (fun i=>[.list (l.map mtc) .no,.U t,.U 0,.I i]) (fun _=>[]) (fun i=>l.length-i) 0 (Nat.zero_le _) he hH ?_
 intro i hi
 have hi':i≤l.findIdx (fun c=>inM c t):=hi
 refine Ke l t i _ ?_
 simp only[au,dt,an,List.length_map,jv]
 by_cases h:i<l.length
 ·rw[if_pos (by omega)]
  simp only[getD_map default h]
  repeat (first|refine⟨h,?_⟩|rw[if_pos (by rfl)])
  refine⟨l.getD i default,.no,.no,t,rfl,hm _ (aX h),?_⟩
  by_cases c:(fun c=>inM c t) (l.getD i default)=true
  ·have hge:l.findIdx (fun c=>inM c t)=i:=dY default hi' h c
   rw[hge] at hQ1
   rw[if_pos (by exact c)]
   repeat (first|refine⟨h,?_⟩|rw[if_pos (by rfl)])
   exact hQ1 h
  ·have hlt:i<l.findIdx (fun c=>inM c t):=dS default hi' h (by simpa using c)
   rw[if_neg (by exact c)]
   exact⟨i+1,(show l.length-(i+1)<l.length-i by omega),hlt,by rw[ar h (by omega)],[_],rfl,Nat.le_refl _,.inr ⟨by
    intro hv hw
    simp only[List.mem_cons,List.not_mem_nil,or_false] at hw
    rcases hw with rfl|rfl|rfl|rfl
    ·exact bK l
    ·exact .int _ _
    ·exact .int _ _
    ·exact .int _ _,lM (by simp)⟩⟩
 ·rw[if_neg (by omega)]
  have:i=l.length:=by omega
  subst this
  exact hQ2 (by omega)
theorem GH (l:List Mt) (t:Int):∀(K:PV→Prop),(∃(l_1:List Mt) (t_1:Int),by refine(?_:_→Prop) (fun(c:Mt)=>inM c t_1); exact fun a=>l_1.length≤1000000∧(∀(c:Mt),c∈l_1→c.aa.length≤1000000)∧ah [.list (l.map mtc) .no,.U t,.U 0,.I 0] [.list (l_1.map mtc) .no,.U t_1,.U 0,.I 0]∧av [] []∧(List.findIdx a l_1<l_1.length→K (.U (Mt.id (List.getD l_1 (List.findIdx a l_1) default))))∧(List.findIdx a l_1=l_1.length→K (.U 0)))→AcK 65 [.list (l.map mtc) .no,.U t] [] (fun x _=>K x):=fun K h=>acW (T:=TRF) (L:=[([1,0,1,0],Jq)]) (fun _=>0) Tryz.func65 (sC) (.cons suE Fw (.nil _ _ _ _ _)) h
theorem zQ (l:List (Mt)) (cc:Mt) (b:Bool) (i:Nat):(by refine(?_:_→_→_→_→Prop) (List.getD (l.map mtc) (Int.toNat (i:Int)) []) [PV.U cc.id,.I cc.md,.U cc.ins,.list (cc.rows.map rrc) .no,.list (cc.aa.map stc) .no] (PV.list (l.map mtc) .no) (PV.I (wI ((i:Int)+1))); exact fun c f k m=>by refine(?_:_→_→_→_→_→Prop) f [PV.U (cI c 0),.I (cI c 1),.U (cI c 2),.list (cL c 3) (cT c 3),.list (cL c 4) (cT c 4)] (true && aE [.int .u32] 0 (List.drop 0 c)) (true && aE [.int .u32,.int .i64,.int .u32,.list,.list] 0 c) [k,.ptr 0 0,.E,.bool b,.I i]; exact fun d j n p q=>by refine(?_:_→_→Prop) [j] j; exact fun g h=>∀(R:Ex→List PV→ae→Prop),by refine(?_:_→Prop) (InL (l.map mtc) 5 (i:Int)∧br n (br (cI (List.drop 0 c) 0 != cc.id) (InL (l.map mtc) 5 (i:Int)∧br p (aG [] g 5 72∧(List.all h PV.one=true∧g≠[])∧R .normal [k,.ptr 0 0,.list g (.tok 1),.bool b,m] [.cells d,.tok]) False) (R .normal [k,.ptr 0 0,.E,.bool b,m] [.cells d])) False); exact fun a=>(br (decide ((i:Int)<(↑(List.length (l.map mtc)):Int))) (br ((!b) == true) (InL (l.map mtc) 5 (i:Int)∧br n (br (decide (cI (List.drop 0 c) 0≥Mt.id cc)) (aG [] [f] 5 72∧(List.all d PV.one=true∧[f]≠[])∧InL (l.map mtc) 5 (i:Int)∧br n (br (cI (List.drop 0 c) 0 != cc.id) (InL (l.map mtc) 5 (i:Int)∧br p (aG [f] g 5 72∧(List.all h PV.one=true∧g≠[])∧R .normal [k,.ptr 0 0,.list [f,h] (.tok 2),.bool true,m] [.cells d,.dead,.tok]) False) (R .normal [k,.ptr 0 0,.list [f] (.tok 1),.bool true,m] [.cells d,.tok])) False) a) False) a) (R (.exit 0) q [.cells d]))→Holds (wpK [] [] (fun o=>match o.dst with|some 29=>1|some 44=>1|some 50=>1|_=>0) (ai [1,1,1,0,1,0] (ag Tryz.f60)) [] (ak [0,3,5,6,7] q) [.cells (mtc cc)] (fun ex e H=>R ex (List.map e [0,3,5,6,7]) H)):Prop):=fun R h=>hoE h
theorem z7 (l:List (Mt)) (cc:Mt) (b:Bool) (es:List (List PV)) (i:Nat):(by refine(?_:_→_→_→_→Prop) (List.getD (l.map mtc) (Int.toNat (i:Int)) []) [PV.U cc.id,.I cc.md,.U cc.ins,.list (cc.rows.map rrc) .no,.list (cc.aa.map stc) .no] (PV.list (l.map mtc) .no) (PV.I (wI ((i:Int)+1))); exact fun c g k m=>by refine(?_:_→_→_→_→_→Prop) g [PV.U (cI c 0),.I (cI c 1),.U (cI c 2),.list (cL c 3) (cT c 3),.list (cL c 4) (cT c 4)] (true && aE [.int .u32] 0 (List.drop 0 c)) (true && aE [.int .u32,.int .i64,.int .u32,.list,.list] 0 c) [k,.ptr 0 0,.list es (.tok 1),.bool b,.I i]; exact fun f j n p q=>by refine(?_:_→_→_→Prop) [j] j [Ob.cells f,.dead,.tok]; exact fun d h r=>∀(R:Ex→List PV→ae→Prop),by refine(?_:_→Prop) (InL (l.map mtc) 5 (i:Int)∧br n (br (cI (List.drop 0 c) 0 != cc.id) (InL (l.map mtc) 5 (i:Int)∧br p (aG es d 5 72∧(List.all h PV.one=true∧d≠[])∧R .normal [k,.ptr 0 0,.list (es++d) (.tok 2),.bool b,m] r) False) (R .normal [k,.ptr 0 0,.list es (.tok 1),.bool b,m] [.cells f,.tok])) False); exact fun a=>(br (decide ((i:Int)<(↑(List.length (l.map mtc)):Int))) (br ((!b) == true) (InL (l.map mtc) 5 (i:Int)∧br n (br (decide (cI (List.drop 0 c) 0≥Mt.id cc)) (aG es [g] 5 72∧(List.all f PV.one=true∧[g]≠[])∧InL (l.map mtc) 5 (i:Int)∧br n (br (cI (List.drop 0 c) 0 != cc.id) (InL (l.map mtc) 5 (i:Int)∧br p (aG (es++[g]) d 5 72∧(List.all h PV.one=true∧d≠[])∧R .normal [k,.ptr 0 0,.list (es++[g]++d) (.tok 3),.bool true,m] [.cells f,.dead,.dead,.tok]) False) (R .normal [k,.ptr 0 0,.list (es++[g]) (.tok 2),.bool true,m] r)) False) a) False) a) (R (.exit 0) q [.cells f,.tok]))→Holds (wpK [] [] (fun o=>match o.dst with|some 29=>1|some 44=>1|some 50=>1|_=>0) (ai [1,1,1,0,1,0] (ag Tryz.f60)) [] (ak [0,3,5,6,7] q) [.cells (mtc cc),.tok] (fun ex e H=>R ex (List.map e [0,3,5,6,7]) H)):Prop):=fun R h=>hoE h
def xg:LSp:=fun e H Q=>∃(l:List (Mt)) (cc:Mt) (b:Bool),l.length≤1000000∧(True)∧ah (List.map e [0,3,5,6,7]) [.list (l.map mtc) .no,.ptr 0 0,.E,.bool b,.I 0]∧av H [.cells (mtc cc)]∧
 ((cX (Mt.id) (cc) b l).1=[]→Q (.exit 0) (ak [0,3,5,6,7] [.list (l.map mtc) .no,.ptr 0 0,.E,.bool (cX (Mt.id) (cc) b l).2,.I l.length]) [.cells (mtc cc)])∧((cX (Mt.id) (cc) b l).1≠[]→Q (.exit 0) (ak [0,3,5,6,7] [.list (l.map mtc) .no,.ptr 0 0,.list ((cX (Mt.id) (cc) b l).1.map mtc) (.tok 1),.bool (cX (Mt.id) (cc) b l).2,.I l.length]) [.cells (mtc cc),.tok])
theorem wh:∀ e H Q,xg e H Q→AwK Tryz.f60.ntmps (.loop (ai [1,1,1,0,1,0] (ag Tryz.f60))) Q e H:=by
 rintro e H Q ⟨l,cc,b,hl,_,he,hH,hQ1,hQ2⟩
 have hH2:H=[.cells (mtc cc)]:=hH
 refine fJ (f:=mtc) (acc:=fun i=>(cX (Mt.id) (cc) b (l.take i)).1) (I:=fun i=>i≤l.length) (m:=fun i=>l.length-i) (hn:=fun o=>match o.dst with|some 29=>1|some 44=>1|some 50=>1|_=>0) aj (.nil _ _) (.nil _ _ _ _ _) [0,3,5,6,7] (fun r i=>[.list (l.map mtc) .no,.ptr 0 0,r,.bool (cX (Mt.id) (cc) b (l.take i)).2,.I i]) [.cells (mtc cc)] (0:Nat)
  (lM (by intro ob ho; rcases List.mem_singleton.1 ho with rfl; exact ii cc)) (fun _ _ a _=>ii a) (fun es i k _ h=> .same (bK l) (.same (.ptr _ _ (by simp)) (.row h (.same (.bool _) (.same (.int _ _) (.nil)))))) (fun i _ w hw=>by
   simp only[List.mem_cons,List.not_mem_nil,or_false] at hw
   rcases hw with rfl|rfl|rfl|rfl|rfl
   ·exact bK l
   ·exact .ptr _ _ (by simp)
   ·exact aH NT.exact (by simp)
   ·exact .bool _
   ·exact .int _ _) (Nat.zero_le _) (by simp[cX]) he hH2 ?_ ?_
 ·intro i hi ha
  have hi':i≤l.length:=hi
  obtain⟨s,hsd⟩:∃ s,s=cX (Mt.id) (cc) b (l.take i):=⟨_,rfl⟩
  have hlen:=pE (Mt.id) (cc) b (l.take i)
  rw[List.length_take] at hlen
  simp only[← hsd] at ha hlen ⊢
  refine zQ l cc s.2 i _ ?_
  simp only[au,dt,an,List.length_map,jv]
  by_cases h:i<l.length
  ·rw[if_pos (by omega)]
   simp only[getD_map default h]
   have hs:=qY (Mt.id) (cc) b default h
   rw[← hsd] at hs
   obtain⟨x,hx⟩:∃ x,x=l.getD i default:=⟨_,rfl⟩
   simp only[← hx] at hs ⊢
   by_cases c1:s.2=false
   ·rw[if_pos (by simp[c1])]
    repeat (first|refine⟨h,?_⟩|rw[if_pos (by rfl)])
    by_cases c2:(Mt.id) x≥(Mt.id) (cc)
    ·rw[if_pos (by exact c2)]
     refine⟨aF (l:=[]) (by_:=72) eL (cc) (by show(0+1)*72≤_; decide),one_row fq (cc),?_⟩
     repeat (first|refine⟨h,?_⟩|rw[if_pos (by rfl)])
     by_cases c3:(Mt.id) x=(Mt.id) (cc)
     ·have hs1:(cX (Mt.id) (cc) b (l.take (i+1))).1=[cc]:=by rw[hs]; simp[dX,c1,c3,ha]
      have hs2:(cX (Mt.id) (cc) b (l.take (i+1))).2=true:=by rw[hs]; simp[dX,c1,c3]
      rw[if_neg (by rw[bne_iff_ne]; exact fun k=>k c3)]
      exact aV (i+1) (show l.length-(i+1)<l.length-i by omega) h hs1 (by simp) [.tok] 1 rfl rfl (by simp) (by(try dsimp only); rw[hs2,ar h (by omega)]; rfl)
     ·have hs1:(cX (Mt.id) (cc) b (l.take (i+1))).1=[cc,x]:=by rw[hs]; simp[dX,c1,c2,c3,ha]
      have hs2:(cX (Mt.id) (cc) b (l.take (i+1))).2=true:=by rw[hs]; simp[dX,c1,c2,c3]
      rw[if_pos (by rw[bne_iff_ne]; exact c3)]
      repeat (first|refine⟨h,?_⟩|rw[if_pos (by rfl)])
      refine⟨aF (l:=[cc]) (by_:=72) eL x (by show(1+1)*72≤_; decide),one_row fq x,?_⟩
      exact aV (i+1) (show l.length-(i+1)<l.length-i by omega) h hs1 (by simp) [.dead,.tok] 2 rfl rfl (by simp) (by(try dsimp only); rw[hs2,ar h (by omega)]; rfl)
    ·rw[if_neg (by exact c2)]
     have c3:¬ (Mt.id) x=(Mt.id) (cc):=fun e=>c2 (Int.le_of_eq e.symm)
     have hs1:(cX (Mt.id) (cc) b (l.take (i+1))).1=[x]:=by rw[hs]; simp[dX,c2,c3,ha]
     have hs2:(cX (Mt.id) (cc) b (l.take (i+1))).2=s.2:=by rw[hs]; simp[dX,c2,c3]
     repeat (first|refine⟨h,?_⟩|rw[if_pos (by rfl)])
     rw[if_pos (by rw[bne_iff_ne]; exact c3)]
     repeat (first|refine⟨h,?_⟩|rw[if_pos (by rfl)])
     refine⟨aF (l:=[]) (by_:=72) eL x (by show(0+1)*72≤_; decide),one_row fq x,?_⟩
     exact aV (i+1) (show l.length-(i+1)<l.length-i by omega) h hs1 (by simp) [.tok] 1 rfl rfl (by simp) (by(try dsimp only); rw[hs2,ar h (by omega)]; rfl)
   ·rw[if_neg (by simpa using c1)]
    repeat (first|refine⟨h,?_⟩|rw[if_pos (by rfl)])
    have c1':s.2=true:=by simpa using c1
    by_cases c3:(Mt.id) x=(Mt.id) (cc)
    ·have hs1:(cX (Mt.id) (cc) b (l.take (i+1))).1=s.1:=by rw[hs]; simp[dX,c1',c3]
     have hs2:(cX (Mt.id) (cc) b (l.take (i+1))).2=s.2:=by rw[hs]; simp[dX,c1',c3]
     rw[if_neg (by rw[bne_iff_ne]; exact fun k=>k c3)]
     exact ie (i+1) (show l.length-(i+1)<l.length-i by omega) h (hs1.trans ha) [] rfl (by(try dsimp only); rw[hs2,ar h (by omega)])
    ·have hs1:(cX (Mt.id) (cc) b (l.take (i+1))).1=[x]:=by rw[hs]; simp[dX,c1',c3,ha]
     have hs2:(cX (Mt.id) (cc) b (l.take (i+1))).2=s.2:=by rw[hs]; simp[dX,c1',c3]
     rw[if_pos (by rw[bne_iff_ne]; exact c3)]
     repeat (first|refine⟨h,?_⟩|rw[if_pos (by rfl)])
     refine⟨aF (l:=[]) (by_:=72) eL x (by show(0+1)*72≤_; decide),one_row fq x,?_⟩
     exact aV (i+1) (show l.length-(i+1)<l.length-i by omega) h hs1 (by simp) [.tok] 1 rfl rfl (by simp) (by(try dsimp only); rw[hs2,ar h (by omega)]; rfl)
  ·rw[if_neg (by omega)]
   have:i=l.length:=by omega
   subst this
   rw[List.take_length] at hsd
   rw[← hsd] at hQ1 hQ2
   exact ph (hQ1 ha)
 ·intro i hi ha
  have hi':i≤l.length:=hi
  obtain⟨s,hsd⟩:∃ s,s=cX (Mt.id) (cc) b (l.take i):=⟨_,rfl⟩
  have hlen:=pE (Mt.id) (cc) b (l.take i)
  rw[List.length_take] at hlen
  simp only[← hsd] at ha hlen ⊢
  refine z7 l cc s.2 (s.1.map mtc) i _ ?_
  simp only[au,dt,an,List.length_map,jv]
  by_cases h:i<l.length
  ·rw[if_pos (by omega)]
   simp only[getD_map default h]
   have hs:=qY (Mt.id) (cc) b default h
   rw[← hsd] at hs
   obtain⟨x,hx⟩:∃ x,x=l.getD i default:=⟨_,rfl⟩
   simp only[← hx] at hs ⊢
   by_cases c1:s.2=false
   ·rw[if_pos (by simp[c1])]
    repeat (first|refine⟨h,?_⟩|rw[if_pos (by rfl)])
    by_cases c2:(Mt.id) x≥(Mt.id) (cc)
    ·rw[if_pos (by exact c2)]
     refine⟨aF eL _ (cc) (by omega),one_row fq (cc),?_⟩
     repeat (first|refine⟨h,?_⟩|rw[if_pos (by rfl)])
     by_cases c3:(Mt.id) x=(Mt.id) (cc)
     ·have hs1:(cX (Mt.id) (cc) b (l.take (i+1))).1=s.1++[cc]:=by rw[hs]; simp[dX,c1,c3]
      have hs2:(cX (Mt.id) (cc) b (l.take (i+1))).2=true:=by rw[hs]; simp[dX,c1,c3]
      rw[if_neg (by rw[bne_iff_ne]; exact fun k=>k c3)]
      exact aV (i+1) (show l.length-(i+1)<l.length-i by omega) h hs1 (by simp) [.dead,.tok] 2 rfl rfl (by simp) (by(try dsimp only); rw[hs2,ar h (by omega)]; simp only[List.map_append]; rfl)
     ·have hs1:(cX (Mt.id) (cc) b (l.take (i+1))).1=s.1++[cc]++[x]:=by rw[hs]; simp[dX,c1,c2,c3]
      have hs2:(cX (Mt.id) (cc) b (l.take (i+1))).2=true:=by rw[hs]; simp[dX,c1,c2,c3]
      rw[if_pos (by rw[bne_iff_ne]; exact c3)]
      repeat (first|refine⟨h,?_⟩|rw[if_pos (by rfl)])
      refine⟨(by have:=aF (l:=s.1++[cc]) (by_:=72) eL x (by simp; omega); rwa [List.map_append] at this),one_row fq x,?_⟩
      exact aV (i+1) (show l.length-(i+1)<l.length-i by omega) h hs1 (by simp) [.dead,.dead,.tok] 3 rfl rfl (by simp) (by(try dsimp only); rw[hs2,ar h (by omega)]; simp only[List.map_append]; rfl)
    ·rw[if_neg (by exact c2)]
     have c3:¬ (Mt.id) x=(Mt.id) (cc):=fun e=>c2 (Int.le_of_eq e.symm)
     have hs1:(cX (Mt.id) (cc) b (l.take (i+1))).1=s.1++[x]:=by rw[hs]; simp[dX,c2,c3]
     have hs2:(cX (Mt.id) (cc) b (l.take (i+1))).2=s.2:=by rw[hs]; simp[dX,c2,c3]
     repeat (first|refine⟨h,?_⟩|rw[if_pos (by rfl)])
     rw[if_pos (by rw[bne_iff_ne]; exact c3)]
     repeat (first|refine⟨h,?_⟩|rw[if_pos (by rfl)])
     refine⟨aF eL _ x (by omega),one_row fq x,?_⟩
     exact aV (i+1) (show l.length-(i+1)<l.length-i by omega) h hs1 (by simp) [.dead,.tok] 2 rfl rfl (by simp) (by(try dsimp only); rw[hs2,ar h (by omega)]; simp only[List.map_append]; rfl)
   ·rw[if_neg (by simpa using c1)]
    repeat (first|refine⟨h,?_⟩|rw[if_pos (by rfl)])
    have c1':s.2=true:=by simpa using c1
    by_cases c3:(Mt.id) x=(Mt.id) (cc)
    ·have hs1:(cX (Mt.id) (cc) b (l.take (i+1))).1=s.1:=by rw[hs]; simp[dX,c1',c3]
     have hs2:(cX (Mt.id) (cc) b (l.take (i+1))).2=s.2:=by rw[hs]; simp[dX,c1',c3]
     rw[if_neg (by rw[bne_iff_ne]; exact fun k=>k c3)]
     exact aV (i+1) (show l.length-(i+1)<l.length-i by omega) h hs1 ha [.tok] 1 rfl rfl (by simp) (by(try dsimp only); rw[hs2,ar h (by omega)])
    ·have hs1:(cX (Mt.id) (cc) b (l.take (i+1))).1=s.1++[x]:=by rw[hs]; simp[dX,c1',c3]
     have hs2:(cX (Mt.id) (cc) b (l.take (i+1))).2=s.2:=by rw[hs]; simp[dX,c1',c3]
     rw[if_pos (by rw[bne_iff_ne]; exact c3)]
     repeat (first|refine⟨h,?_⟩|rw[if_pos (by rfl)])
     refine⟨aF eL _ x (by omega),one_row fq x,?_⟩
     exact aV (i+1) (show l.length-(i+1)<l.length-i by omega) h hs1 (by simp) [.dead,.tok] 2 rfl rfl (by simp) (by(try dsimp only); rw[hs2,ar h (by omega)]; simp only[List.map_append]; rfl)
  ·rw[if_neg (by omega)]
   have:i=l.length:=by omega
   subst this
   rw[List.take_length] at hsd
   rw[← hsd] at hQ1 hQ2
   exact ph (hQ2 ha)
theorem yR (l:List Mt) (c:Mt):∀(K:PV→Prop),(∃(l_1:List Mt) (cc:Mt) (b:Bool),by refine(?_:_→_→Prop) (cX Mt.id cc b l_1) [PV.U cc.id,.I cc.md,.U cc.ins,.list (cc.rows.map rrc) .no,.list (cc.aa.map stc) .no]; exact fun e f=>by refine(?_:_→_→_→Prop) [f] f (List.map mtc (Prod.fst e)); exact fun a d g=>l_1.length≤1000000∧True∧ah [.list (l.map mtc) .no,.ptr 0 0,.E,.bool false,.I 0] [.list (l_1.map mtc) .no,.ptr 0 0,.E,.bool b,.I 0]∧av [.cells [.U c.id,.I c.md,.U c.ins,.list (c.rows.map rrc) .no,.list (c.aa.map stc) .no]] [.cells d]∧(Prod.fst e=[]→br (!Prod.snd e) (aG [] a 5 72∧(List.all d PV.one=true∧a≠[])∧K (.list a (.tok 1))) (K (.E)))∧(Prod.fst e≠[]→br (!Prod.snd e) (aG g a 5 72∧(List.all d PV.one=true∧a≠[])∧K (.list (List.map mtc (Prod.fst e)++a) (.tok 2))) (K (.list g (.tok 1)))))→AcK 60 [.list (l.map mtc) .no,.agg (mtc c)] [] (fun x _=>K x):=fun K h=>acW (T:=[]) (L:=[([1,1,1,0,1,0],xg)]) (fun o=>match o.dst with|some 29=>1|some 44=>1|some 50=>1|_=>0) Tryz.func60 (aW.nil _ _) (.cons suE wh (.nil _ _ _ _ _)) h
structure SmM (w:List Mt):Prop where
 len:w.length≤100000
 se:∀ c∈w,c.aa.length≤1000000
def Fy (args:List PV) (K:PV→Prop):Prop:=∃(w:List Mt) (tl:Tail) (t:Int),ah args [.list (w.map mtc) tl,.U t]∧SmM w∧K (.U (ofM w t))
theorem Cn:SpK 65 (.pure Fy):=by
 rintro args K ⟨w,tl,t,he,s,hk⟩
 have he:args=_:=he
 subst he
 have hl:=s.len
 refine bB aj (.cons (.list _ _) (.cons (.refl _) .nil)) (bn (bK w) (.int _ _)) (.int _ _) (GH w t (fun x=>x = .U (ofM w t)) ⟨w,t,by omega,s.se,rfl,rfl,fun h=>?_,fun h=>?_⟩) hk
 ·unfold ofM; rw[if_pos h]
 ·unfold ofM; rw[if_neg (by omega)]
def rI (args:List PV) (K:PV→Prop):Prop:=∃(w:List Mt) (tl t1 t2:Tail) (c:Mt),ah args [.list (w.map mtc) tl,.agg [.U c.id,.I c.md,.U c.ins,.list (c.rows.map rrc) t1,.list (c.aa.map stc) t2]]∧dD Mt.id w∧w.length≤100000∧K (.list ((fj Mt.id w c).map mtc) .no)
theorem s9:SpK 60 (.pure rI):=by
 rintro args K ⟨w,tl,t1,t2,c,he,hr,hl,hk⟩
 have he:args=_:=he
 subst he
 have e:=vB (k:=Mt.id) c hr
 have hlen:=pE Mt.id c false w
 refine bB aj (.cons (.list _ _) (.cons gK .nil)) (bn (bK w) c.low) (bK _) (a9 (yR w c (fun x=>∃ y,Wk x y∧y = .list ((fj Mt.id w c).map mtc) .no) ⟨w,c,false,by omega,trivial,rfl,rfl,fun h1=>?_,fun h1=>?_⟩)) hk
 ·unfold z9 at e
  rw[au]
  by_cases h2:(cX Mt.id c false w).2=false
  ·rw[if_pos h2,h1] at e
   rw[if_pos (by rw[h2]; rfl)]
   refine⟨aF (l:=[]) (by_:=72) eL c (by show(0+1)*72≤_; decide),one_row fq c,?_⟩
   rw[← e]; exact⟨_,.list _ _,rfl⟩
  ·rw[if_neg h2,h1] at e
   rw[if_neg (by simpa using h2),← e]
   exact⟨_,.list _ _,rfl⟩
 ·unfold z9 at e
  rw[au]
  by_cases h2:(cX Mt.id c false w).2=false
  ·rw[if_pos h2] at e
   rw[if_pos (by rw[h2]; rfl)]
   refine⟨aF eL _ c (by omega),one_row fq c,?_⟩
   rw[← e,List.map_append]; exact⟨_,.list _ _,rfl⟩
  ·rw[if_neg h2] at e
   rw[if_neg (by simpa using h2),← e]
   exact⟨_,.list _ _,rfl⟩
theorem L9 (l:List Rr) (t:Int) (a i:Nat):(by refine(?_:_→_→_→_→Prop) (List.getD (l.map rrc) (Int.toNat (i:Int)) []) [PV.list (l.map rrc) .no,.I t,.I a,.I i] (PV.I (wI ((i:Int)+1))) (PV.list (l.map rrc) .no); exact fun b c d f=>∀(R:Ex→List PV→ae→Prop),(br (decide ((i:Int)<(↑(List.length (l.map rrc)):Int))) (InL (l.map rrc) 4 (i:Int)∧br (true && aE [.int .i64] 0 (List.drop 0 b)) (br (cI (List.drop 0 b) 0 == t) (InL (l.map rrc) 4 (i:Int)∧br (true && aE [.list] 0 (List.drop 1 b)) (R .normal [f,.I t,.I (wI ((a:Int)+(↑(List.length (cL (List.drop 1 b) 0)):Int))),d] []) False) (R .normal [f,.I t,.I a,d] [])) False) (R (.exit 0) c []))→Holds (wpK [] [] (fun _=>0) (ai [1,1,0,1,0] (ag Tryz.f92)) [] (ak [0,1,5,6] c) [] (fun ex e H=>R ex (List.map e [0,1,5,6]) H)):Prop):=fun R h=>hoE h
def JK:LSp:=fun e H Q=>∃(l:List Rr) (t:Int),l.length≤1000000∧tot l≤1000000∧ah (List.map e [0,1,5,6]) [.list (l.map rrc) .no,.I t,.I 0,.I 0]∧av H []∧Q (.exit 0) (ak [0,1,5,6] [.list (l.map rrc) .no,.I t,.I (taken l t),.I l.length]) []
theorem Ey:∀ e H Q,JK e H Q→AwK Tryz.f92.ntmps (.loop (ai [1,1,0,1,0] (ag Tryz.f92))) Q e H:=by
 rintro e H Q ⟨l,t,hl,ht,he,hH,hQ⟩
 refine aB (hn:=fun _=>0) aj (.nil _ _) (.nil _ _ _ _ _) (σ:=Nat) [0,1,5,6] (fun i=>i≤l.length) (fun i=>[.list (l.map rrc) .no,.I t,.I (taken (l.take i) t),.I i]) (fun _=>[]) (fun i=>l.length-i) 0 (Nat.zero_le _) (by rw[he]; rfl) hH ?_
 intro i hi
 have hi:i≤l.length:=hi
 refine L9 l t (taken (l.take i) t) i _ ?_
 have h1:=gJ (l.take i) t
 have h3:=fO (l:=l) i
 simp only[au,dt,an,dP,List.length_map]
 by_cases h:i<l.length
 ·rw[if_pos (by omega)]
  have e1:=kN (t:=t) h
  have h4:=fO (l:=l) (i+1)
  have h5:=gJ (l.take (i+1)) t
  obtain⟨r,hr⟩:∃ r,r=l.getD i default:=⟨_,rfl⟩
  simp only[getD_map default h,← hr]
  rw[← hr] at e1
  have c0':cI (List.drop 0 (rrc r)) 0=r.tm:=rfl
  have c1:cL (List.drop 1 (rrc r)) 0=r.pl.map u1:=rfl
  simp only[c0',c1,List.length_map,beq_iff_eq]
  refine⟨h,?_⟩
  rw[if_pos (by rfl)]
  by_cases k1:r.tm=t
  ·rw[if_pos k1]
   rw[if_pos k1] at e1
   have e3:wI ((taken (l.take i) t:Int)+(r.pl.length:Int))=((taken (l.take (i+1)) t:Nat):Int):=by rw[aD (by omega) (by omega)]; omega
   refine⟨h,?_⟩
   rw[if_pos (by rfl),e3]
   exact⟨i+1,(show l.length-(i+1)<l.length-i by omega),h,by rw[ar h (by omega)],[],rfl,Nat.le_refl _,.inl rfl⟩
  ·rw[if_neg k1]
   have e1:taken (l.take (i+1)) t=taken (l.take i) t:=by rw[e1,if_neg k1]; rfl
   exact⟨i+1,(show l.length-(i+1)<l.length-i by omega),h,by dsimp only; rw[ar h (by omega),e1],[],rfl,Nat.le_refl _,.inl rfl⟩
 ·rw[if_neg (by omega)]
  have:i=l.length:=by omega
  subst this
  rw[List.take_length]
  exact hQ
theorem Ik (l:List Rr) (t:Int)  (K:PV→Prop) (h:∃(l_1:List Rr) (t_1:Int),List.length l_1≤1000000∧tot l_1≤1000000∧ah [.list (List.map rrc l) .no,.I t,.I 0,.I 0] [.list (List.map rrc l_1) .no,.I t_1,.I 0,.I 0]∧av [] []∧K (.I (↑(taken l_1 t_1):Int))):AcK 92 [.list (l.map rrc) .no,.I t] [] (fun x _=>K x):=
 acW (T:=[]) (L:=[([1,1,0,1,0],JK)]) (fun _=>0) Tryz.func92 (aW.nil _ _) (.cons suE Ey (.nil _ _ _ _ _)) h
def sU (args:List PV) (K:PV→Prop):Prop:=∃(l:List Rr) (tl:Tail) (t:Int),ah args [.list (l.map rrc) tl,.I t]∧l.length≤1000000∧tot l≤1000000∧K (.I (taken l t))
theorem zS:SpK 92 (.pure sU):=by
 rintro args K ⟨l,tl,t,he,h1,h2,hk⟩
 have he:args=_:=he
 subst he
 exact bB aj (.cons (.list _ _) (.cons (.refl _) .nil)) (bn (aP l) (.int _ _)) (.int _ _) (Ik l t (fun x=>x = .I (taken l t)) ⟨l,t,h1,h2,rfl,rfl,rfl⟩) hk
def TWF:Tab:=[(53,.pure xC),(91,.pure Jo),(65,.pure Fy),(92,.pure sU)]
theorem kx:TbK TWF:= .cons wy (.cons Ky (.cons Cn (.cons zS (.nil _ _))))
theorem uu (w:List Mt) (b l:List Rr) (r:Rr) (ids sz ex:Bool) (i k:Nat):(by refine(?_:_→_→_→_→_→_→Prop) (Ob.cells [.I r.tm,.list (r.pl.map u1) .no,.I r.rt,.I r.wd]) (PV.list (w.map mtc) .no) (PV.I (wI ((k:Int)+1))) (PV.list (b.map rrc) .no) (PV.list (l.map rrc) .no) (List.getD (r.pl.map u1) (Int.toNat (k:Int)) []); exact fun f h m n p q=>by refine(?_:_→_→Prop) (cI q 0) [PV.list (w.map mtc) .no,n,p,.E,.bool ids,.bool sz,.bool ex,.I i,.ptr 0 0,.I k]; exact fun d g=>by refine(?_:_→_→Prop) (PV.list [[PV.U d]] (.tok 1)) [PV.E,.U d]; exact fun j s=>∀(R:Ex→List PV→ae→Prop),by refine(?_:_→_→Prop) (aG [] [[PV.U d]] 1 4∧(List.all [.U d] PV.one=true∧[[PV.U d]]≠[])∧R .normal [h,n,p,j,.bool true,.bool sz,.bool true,.I i,.ptr 0 0,m] [f,.tok]) (aG [] [[PV.U d]] 1 4∧(List.all [.U d] PV.one=true∧[[PV.U d]]≠[])∧R .normal [h,n,p,j,.bool ids,.bool sz,.bool true,.I i,.ptr 0 0,m] [f,.tok]); exact fun a c=>(br (decide ((k:Int)<(↑(List.length (r.pl.map u1)):Int))) (InL (r.pl.map u1) 1 (k:Int)∧br (true && aE [.int .u32] 0 q) (∃(t:Int),0≤t∧ah [.U d] [.U t]∧br (!aC t) (∃(l_1:List Int) (tl:Tail) (t:Int),ah s [.list (l_1.map u1) tl,.U t]∧l_1.length≤1000000∧br (cH l_1 t == false) (∃(w_1:List Mt) (tl:Tail) (t:Int),ah [h,.U d] [.list (w_1.map mtc) tl,.U t]∧SmM w_1∧br (ofM w_1 t != 0) a (aG [] [[PV.U d]] 1 4∧(List.all [.U d] PV.one=true∧[[PV.U d]]≠[])∧R .normal [h,n,p,j,.bool true,.bool sz,.bool ex,.I i,.ptr 0 0,m] [f,.tok])) a) (∃(l_1:List Int) (tl:Tail) (t:Int),ah s [.list (l_1.map u1) tl,.U t]∧l_1.length≤1000000∧br (cH l_1 t == false) (∃(w_1:List Mt) (tl:Tail) (t:Int),ah [h,.U d] [.list (w_1.map mtc) tl,.U t]∧SmM w_1∧br (ofM w_1 t != 0) c (aG [] [[PV.U d]] 1 4∧(List.all [.U d] PV.one=true∧[[PV.U d]]≠[])∧R .normal [h,n,p,j,.bool ids,.bool sz,.bool ex,.I i,.ptr 0 0,m] [f,.tok])) c)) False) (R (.exit 2) g [f]))→Holds (wpK TWF [] (fun o=>match o.dst with|some 76=>1|_=>0) (ai [1,1,1,0,1,0,0,1,0,0,1,1,1,0] (ag Tryz.f59)) [] (ak [0,1,2,7,8,9,10,11,12,13] g) [.cells (rrc r)] (fun ex e H=>R ex (List.map e [0,1,2,7,8,9,10,11,12,13]) H)):Prop):=fun R h=>hoE h
theorem s5 (w:List Mt) (b l:List Rr) (r:Rr) (ids sz ex:Bool) (ps:List Int) (i k:Nat):(by refine(?_:_→_→_→_→_→_→_→Prop) (Ob.cells [.I r.tm,.list (r.pl.map u1) .no,.I r.rt,.I r.wd]) (PV.list (w.map mtc) .no) (PV.I (wI ((k:Int)+1))) (PV.list (b.map rrc) .no) (PV.list (l.map rrc) .no) (PV.list (ps.map u1) (.tok 1)) (List.getD (r.pl.map u1) (Int.toNat (k:Int)) []); exact fun f j m n p q s=>by refine(?_:_→_→Prop) (cI s 0) [PV.list (w.map mtc) .no,n,p,q,.bool ids,.bool sz,.bool ex,.I i,.ptr 0 0,.I k]; exact fun d g=>by refine(?_:_→Prop) (PV.list (ps.map u1++[[PV.U d]]) (.tok 2)); exact fun h=>∀(R:Ex→List PV→ae→Prop),by refine(?_:_→_→Prop) (aG (ps.map u1) [[PV.U d]] 1 4∧(List.all [.U d] PV.one=true∧[[PV.U d]]≠[])∧R .normal [j,n,p,h,.bool true,.bool sz,.bool true,.I i,.ptr 0 0,m] [f,.dead,.tok]) (aG (ps.map u1) [[PV.U d]] 1 4∧(List.all [.U d] PV.one=true∧[[PV.U d]]≠[])∧R .normal [j,n,p,h,.bool ids,.bool sz,.bool true,.I i,.ptr 0 0,m] [f,.dead,.tok]); exact fun a c=>(br (decide ((k:Int)<(↑(List.length (r.pl.map u1)):Int))) (InL (r.pl.map u1) 1 (k:Int)∧br (true && aE [.int .u32] 0 s) (∃(t:Int),0≤t∧ah [.U d] [.U t]∧br (!aC t) (∃(l_1:List Int) (tl:Tail) (t:Int),ah [q,.U d] [.list (l_1.map u1) tl,.U t]∧l_1.length≤1000000∧br (cH l_1 t == false) (∃(w_1:List Mt) (tl:Tail) (t:Int),ah [j,.U d] [.list (w_1.map mtc) tl,.U t]∧SmM w_1∧br (ofM w_1 t != 0) a (aG (ps.map u1) [[PV.U d]] 1 4∧(List.all [.U d] PV.one=true∧[[PV.U d]]≠[])∧R .normal [j,n,p,h,.bool true,.bool sz,.bool ex,.I i,.ptr 0 0,m] [f,.dead,.tok])) a) (∃(l_1:List Int) (tl:Tail) (t:Int),ah [q,.U d] [.list (l_1.map u1) tl,.U t]∧l_1.length≤1000000∧br (cH l_1 t == false) (∃(w_1:List Mt) (tl:Tail) (t:Int),ah [j,.U d] [.list (w_1.map mtc) tl,.U t]∧SmM w_1∧br (ofM w_1 t != 0) c (aG (ps.map u1) [[PV.U d]] 1 4∧(List.all [.U d] PV.one=true∧[[PV.U d]]≠[])∧R .normal [j,n,p,h,.bool ids,.bool sz,.bool ex,.I i,.ptr 0 0,m] [f,.dead,.tok])) c)) False) (R (.exit 2) g [f,.tok]))→Holds (wpK TWF [] (fun o=>match o.dst with|some 76=>1|_=>0) (ai [1,1,1,0,1,0,0,1,0,0,1,1,1,0] (ag Tryz.f59)) [] (ak [0,1,2,7,8,9,10,11,12,13] g) [.cells (rrc r),.tok] (fun ex e H=>R ex (List.map e [0,1,2,7,8,9,10,11,12,13]) H)):Prop):=fun R h=>hoE h
theorem sZ (w:List Mt) (b l:List Rr) (r:Rr) (ids sz ex:Bool) (ps:List Int) (i k:Nat):(by refine(?_:_→_→_→_→_→_→_→Prop) (Ob.cells [.I r.tm,.list (r.pl.map u1) .no,.I r.rt,.I r.wd]) (PV.list (w.map mtc) .no) (PV.I (wI ((k:Int)+1))) (PV.list (b.map rrc) .no) (PV.list (l.map rrc) .no) (PV.list (ps.map u1) (.tok 0)) (List.getD (r.pl.map u1) (Int.toNat (k:Int)) []); exact fun f j m n p q s=>by refine(?_:_→_→Prop) (cI s 0) [PV.list (w.map mtc) .no,n,p,q,.bool ids,.bool sz,.bool ex,.I i,.ptr 1 0,.I k]; exact fun d g=>by refine(?_:_→Prop) (PV.list (ps.map u1++[[PV.U d]]) (.tok 2)); exact fun h=>∀(R:Ex→List PV→ae→Prop),by refine(?_:_→_→Prop) (aG (ps.map u1) [[PV.U d]] 1 4∧(List.all [.U d] PV.one=true∧[[PV.U d]]≠[])∧R .normal [j,n,p,h,.bool true,.bool sz,.bool true,.I i,.ptr 1 0,m] [.dead,f,.tok]) (aG (ps.map u1) [[PV.U d]] 1 4∧(List.all [.U d] PV.one=true∧[[PV.U d]]≠[])∧R .normal [j,n,p,h,.bool ids,.bool sz,.bool true,.I i,.ptr 1 0,m] [.dead,f,.tok]); exact fun a c=>(br (decide ((k:Int)<(↑(List.length (r.pl.map u1)):Int))) (InL (r.pl.map u1) 1 (k:Int)∧br (true && aE [.int .u32] 0 s) (∃(t:Int),0≤t∧ah [.U d] [.U t]∧br (!aC t) (∃(l_1:List Int) (tl:Tail) (t:Int),ah [q,.U d] [.list (l_1.map u1) tl,.U t]∧l_1.length≤1000000∧br (cH l_1 t == false) (∃(w_1:List Mt) (tl:Tail) (t:Int),ah [j,.U d] [.list (w_1.map mtc) tl,.U t]∧SmM w_1∧br (ofM w_1 t != 0) a (aG (ps.map u1) [[PV.U d]] 1 4∧(List.all [.U d] PV.one=true∧[[PV.U d]]≠[])∧R .normal [j,n,p,h,.bool true,.bool sz,.bool ex,.I i,.ptr 1 0,m] [.dead,f,.tok])) a) (∃(l_1:List Int) (tl:Tail) (t:Int),ah [q,.U d] [.list (l_1.map u1) tl,.U t]∧l_1.length≤1000000∧br (cH l_1 t == false) (∃(w_1:List Mt) (tl:Tail) (t:Int),ah [j,.U d] [.list (w_1.map mtc) tl,.U t]∧SmM w_1∧br (ofM w_1 t != 0) c (aG (ps.map u1) [[PV.U d]] 1 4∧(List.all [.U d] PV.one=true∧[[PV.U d]]≠[])∧R .normal [j,n,p,h,.bool ids,.bool sz,.bool ex,.I i,.ptr 1 0,m] [.dead,f,.tok])) c)) False) (R (.exit 2) g [.tok,f]))→Holds (wpK TWF [] (fun o=>match o.dst with|some 76=>1|_=>0) (ai [1,1,1,0,1,0,0,1,0,0,1,1,1,0] (ag Tryz.f59)) [] (ak [0,1,2,7,8,9,10,11,12,13] g) [.tok,.cells (rrc r)] (fun ex e H=>R ex (List.map e [0,1,2,7,8,9,10,11,12,13]) H)):Prop):=fun R h=>hoE h
theorem tI (w:List Mt) (b l:List Rr) (r:Rr) (ids sz ex:Bool) (ps:List Int) (i k:Nat):(by refine(?_:_→_→_→_→_→_→_→Prop) (Ob.cells [.I r.tm,.list (r.pl.map u1) .no,.I r.rt,.I r.wd]) (PV.list (w.map mtc) .no) (PV.I (wI ((k:Int)+1))) (PV.list (b.map rrc) .no) (PV.list (l.map rrc) .no) (PV.list (ps.map u1) (.tok 2)) (List.getD (r.pl.map u1) (Int.toNat (k:Int)) []); exact fun f j m n p s u=>by refine(?_:_→_→_→Prop) (cI u 0) [PV.list (w.map mtc) .no,n,p,s,.bool ids,.bool sz,.bool ex,.I i,.ptr 1 0,.I k] [Ob.dead,f,.dead,.tok]; exact fun d g q=>by refine(?_:_→Prop) (PV.list (ps.map u1++[[PV.U d]]) (.tok 3)); exact fun h=>∀(R:Ex→List PV→ae→Prop),by refine(?_:_→_→Prop) (aG (ps.map u1) [[PV.U d]] 1 4∧(List.all [.U d] PV.one=true∧[[PV.U d]]≠[])∧R .normal [j,n,p,h,.bool true,.bool sz,.bool true,.I i,.ptr 1 0,m] q) (aG (ps.map u1) [[PV.U d]] 1 4∧(List.all [.U d] PV.one=true∧[[PV.U d]]≠[])∧R .normal [j,n,p,h,.bool ids,.bool sz,.bool true,.I i,.ptr 1 0,m] q); exact fun a c=>(br (decide ((k:Int)<(↑(List.length (r.pl.map u1)):Int))) (InL (r.pl.map u1) 1 (k:Int)∧br (true && aE [.int .u32] 0 u) (∃(t:Int),0≤t∧ah [.U d] [.U t]∧br (!aC t) (∃(l_1:List Int) (tl:Tail) (t:Int),ah [s,.U d] [.list (l_1.map u1) tl,.U t]∧l_1.length≤1000000∧br (cH l_1 t == false) (∃(w_1:List Mt) (tl:Tail) (t:Int),ah [j,.U d] [.list (w_1.map mtc) tl,.U t]∧SmM w_1∧br (ofM w_1 t != 0) a (aG (ps.map u1) [[PV.U d]] 1 4∧(List.all [.U d] PV.one=true∧[[PV.U d]]≠[])∧R .normal [j,n,p,h,.bool true,.bool sz,.bool ex,.I i,.ptr 1 0,m] q)) a) (∃(l_1:List Int) (tl:Tail) (t:Int),ah [s,.U d] [.list (l_1.map u1) tl,.U t]∧l_1.length≤1000000∧br (cH l_1 t == false) (∃(w_1:List Mt) (tl:Tail) (t:Int),ah [j,.U d] [.list (w_1.map mtc) tl,.U t]∧SmM w_1∧br (ofM w_1 t != 0) c (aG (ps.map u1) [[PV.U d]] 1 4∧(List.all [.U d] PV.one=true∧[[PV.U d]]≠[])∧R .normal [j,n,p,h,.bool ids,.bool sz,.bool ex,.I i,.ptr 1 0,m] q)) c)) False) (R (.exit 2) g [.dead,f,.tok]))→Holds (wpK TWF [] (fun o=>match o.dst with|some 76=>1|_=>0) (ai [1,1,1,0,1,0,0,1,0,0,1,1,1,0] (ag Tryz.f59)) [] (ak [0,1,2,7,8,9,10,11,12,13] g) [.dead,.cells (rrc r),.tok] (fun ex e H=>R ex (List.map e [0,1,2,7,8,9,10,11,12,13]) H)):Prop):=fun R h=>hoE h
theorem gi {ρ:Nat→Nat} {n bx:Nat} {w:List Mt} {b l:List Rr} {ids sz ex:Bool} {i:Nat} {z:Int} {T T':PV} (hb:bx<n∧ρ bx=bx) (hT:Ren ρ n T T'):aU ρ n [.list (w.map mtc) .no,.list (b.map rrc) .no,.list (l.map rrc) .no,T,.bool ids,.bool sz,.bool ex,.I i,.ptr bx 0,.I z] [.list (w.map mtc) .no,.list (b.map rrc) .no,.list (l.map rrc) .no,T',.bool ids,.bool sz,.bool ex,.I i,.ptr bx 0,.I z]:=by
 have eb:=Ren.ptr (ρ:=ρ) (n:=n) bx 0 hb.1
 rw[hb.2] at eb
 exact .cons (.low (bK _)) (.cons (.low (aP _)) (.cons (.low (aP _)) (.cons hT (.cons (.low (.bool _)) (.cons (.low (.bool _)) (.cons (.low (.bool _)) (.cons (.low (.int _ _)) (.cons eb (.cons (.low (.int _ _)) (.nil))))))))))
def sL:LSp:=fun e H Q=>∃(w:List Mt) (b l:List Rr) (r:Rr) (s:WS) (sz:Bool) (i:Nat),SmM w∧(∀ p∈r.pl,0≤p)∧r.pl.length≤1000000∧s.ps.length+r.pl.length≤1000000∧s.ps=[]∧ah (List.map e [0,1,2,7,8,9,10,11,12,13]) [.list (w.map mtc) .no,.list (b.map rrc) .no,.list (l.map rrc) .no,.E,.bool s.ids,.bool sz,.bool s.ex,.I i,.ptr 0 0,.I 0]∧av H [.cells (rrc r)]∧(r.pl=[]→Q (.exit 2) (ak [0,1,2,7,8,9,10,11,12,13] [.list (w.map mtc) .no,.list (b.map rrc) .no,.list (l.map rrc) .no,.E,.bool s.ids,.bool sz,.bool s.ex,.I i,.ptr 0 0,.I 0]) [.cells (rrc r)])∧(r.pl≠[]→Q (.exit 2) (ak [0,1,2,7,8,9,10,11,12,13] [.list (w.map mtc) .no,.list (b.map rrc) .no,.list (l.map rrc) .no,.list ((wsP w s r.pl).ps.map u1) (.tok 1),.bool (wsP w s r.pl).ids,.bool sz,.bool (wsP w s r.pl).ex,.I i,.ptr 0 0,.I r.pl.length]) [.cells (rrc r),.tok])
theorem zA:∀ e H Q,sL e H Q→AwK Tryz.f59.ntmps (.loop (ai [1,1,1,0,1,0,0,1,0,0,1,1,1,0] (ag Tryz.f59))) Q e H:=by
 rintro e H Q ⟨w,b,l,r,s,sz,i,sw,h0p,hrl,hsl,hs0,he,hH,hQ0,hQ1⟩
 ·have hH:H=_:=hH
  have hHl:H.length=1:=by rw[hH]; rfl
  refine fB (hn:=fun o=>match o.dst with|some 76=>1|_=>0) aj kx (.nil _ _ _ _ _) (σ:=Nat) [0,1,2,7,8,9,10,11,12,13] (fun k=>k≤r.pl.length) (fun k=>if k=0 then [.list (w.map mtc) .no,.list (b.map rrc) .no,.list (l.map rrc) .no,.E,.bool s.ids,.bool sz,.bool s.ex,.I i,.ptr 0 0,.I 0] else [.list (w.map mtc) .no,.list (b.map rrc) .no,.list (l.map rrc) .no,.list ((wsP w s (r.pl.take k)).ps.map u1) (.tok 1),.bool (wsP w s (r.pl.take k)).ids,.bool sz,.bool (wsP w s (r.pl.take k)).ex,.I i,.ptr 0 0,.I k]) (fun k=>if k=0 then [.cells (rrc r)] else [.cells (rrc r),.tok]) (fun k=>r.pl.length-k) 0 (Nat.zero_le _) he hH ?_
  rw[hHl]
  intro k hk
  have hk:k≤r.pl.length:=hk
  have hps:=eN w (r.pl.take k) s
  have hpl:(wsP w s (r.pl.take k)).ps.length≤1000000:=by rw[hps,List.length_append,List.length_take]; omega
  by_cases h:k<r.pl.length
  ·have hsucc:=lH w s h
   have hlow:∀(ps:List Int),∀ x∈(ps.map u1).flatten,Low 0 x:=fun ps=>bl fun a _=>bL a
   have inl:InL (r.pl.map u1) 1 (k:Int):=by rw[dM]; exact h
   have cp:cI (u1 (r.pl.getD k 0)) 0=r.pl.getD k 0:=rfl
   have hpm:r.pl.getD k 0∈r.pl:=aX h
   have hpl2:(wsP w s (r.pl.take (k+1))).ps.length≤1000000:=by rw[eN,List.length_append,List.length_take]; omega
   by_cases k0:k=0
   ·subst k0
    have e1:wsP w s (r.pl.take 1)=ws1 w s (r.pl.getD 0 0):=hsucc
    simp only[if_pos]
    refine uu w b l r s.ids sz s.ex i 0 _ ?_
    simp only[au,dt,an,List.length_map,getD_map 0 h,cp]
    rw[if_pos (by omega)]
    refine⟨inl,?_⟩
    rw[if_pos (by rfl)]
    obtain⟨p,hp⟩:∃ p,p=r.pl.getD 0 0:=⟨_,rfl⟩
    rw[← hp] at e1 hpm
    simp only[← hp]
    have tail:∀ b1 b2:Bool,b1=(ws1 w s p).ids→b2=(ws1 w s p).ex→∃ s':Nat,r.pl.length-s'<r.pl.length-0∧s'≤r.pl.length∧ef 1 [.list (w.map mtc) .no,.list (b.map rrc) .no,.list (l.map rrc) .no,.list [[.U p]] (.tok 1),.bool b1,.bool sz,.bool b2,.I i,.ptr 0 0,.I (wI (((0:Nat):Int)+1))] [.cells (rrc r),.tok] (if s'=0 then [.list (w.map mtc) .no,.list (b.map rrc) .no,.list (l.map rrc) .no,.E,.bool s.ids,.bool sz,.bool s.ex,.I i,.ptr 0 0,.I 0] else [.list (w.map mtc) .no,.list (b.map rrc) .no,.list (l.map rrc) .no,.list ((wsP w s (r.pl.take s')).ps.map u1) (.tok 1),.bool (wsP w s (r.pl.take s')).ids,.bool sz,.bool (wsP w s (r.pl.take s')).ex,.I i,.ptr 0 0,.I s']) (if s'=0 then [.cells (rrc r)] else [.cells (rrc r),.tok]):=by
     rintro b1 b2 rfl rfl
     refine⟨1,by omega,h,?_⟩
     rw[if_neg (by decide),if_neg (by decide),e1,show wI (((0:Nat):Int)+1)=((1:Nat):Int) from rfl]
     refine aR [0,1] (WkL.refl _) (.cons rfl (.cells (aU.low (bG r))) (.cons rfl .tok .nil)) (by decide) (by simp) (fun o ho=>?_) (gi ⟨by simp,rfl⟩ ?_)
     ·match o,ho with
      | 0,_=>rfl
     ·have:=Ren.ltok (ρ:=fun o=>[0,1].getD o 0) (n:=2) ((ws1 w s p).ps.map u1) 1 (by decide) (hlow _)
      have e2:(ws1 w s p).ps.map u1=[[PV.U p]]:=by show(s.ps++[p]).map u1=_; rw[hs0]; rfl
      rw[← e2]; exact this
    have ap:aG (([]:List (List PV))) [[.U p]] 1 4∧(List.all [PV.U p] PV.one=true∧[[PV.U p]]≠[]):=⟨aF (f:=u1) dc [] p (by decide),one_row dm p⟩
    refine⟨p,h0p p hpm,rfl,?_⟩
    by_cases hr:aC p=true
    ·rw[if_neg (by rw[hr]; decide)]
     refine⟨[],.exact,p,rfl,(by decide),?_⟩
     by_cases hm:cH [] p=false
     ·rw[if_pos (by rw[hm]; rfl)]
      refine⟨w,.no,p,rfl,sw,?_⟩
      by_cases ho:(ofM w p != 0)=true
      ·rw[if_pos ho]
       exact⟨ap.1,ap.2,tail _ _ (by simp only[ws1]; rw[hr]; simp) (by simp only[ws1]; rw[ho]; simp)⟩
      ·rw[if_neg ho]
       exact⟨ap.1,ap.2,tail _ _ (by simp only[ws1]; rw[hr]; simp) (by simp only[ws1]; rw[hs0]; rw[hm,show(ofM w p != 0)=false by simpa using ho]; simp)⟩
     ·rw[if_neg (by simpa using hm)]
      exact⟨ap.1,ap.2,tail _ _ (by simp only[ws1]; rw[hr]; simp) (by simp only[ws1]; rw[hs0]; rw[bnf hm]; simp)⟩
    ·rw[if_pos (by simpa using hr)]
     refine⟨[],.exact,p,rfl,(by decide),?_⟩
     by_cases hm:cH [] p=false
     ·rw[if_pos (by rw[hm]; rfl)]
      refine⟨w,.no,p,rfl,sw,?_⟩
      by_cases ho:(ofM w p != 0)=true
      ·rw[if_pos ho]
       exact⟨ap.1,ap.2,tail _ _ (by simp only[ws1]; rw[show aC p=false by simpa using hr]; simp) (by simp only[ws1]; rw[ho]; simp)⟩
      ·rw[if_neg ho]
       exact⟨ap.1,ap.2,tail _ _ (by simp only[ws1]; rw[show aC p=false by simpa using hr]; simp) (by simp only[ws1]; rw[hs0]; rw[hm,show(ofM w p != 0)=false by simpa using ho]; simp)⟩
     ·rw[if_neg (by simpa using hm)]
      exact⟨ap.1,ap.2,tail _ _ (by simp only[ws1]; rw[show aC p=false by simpa using hr]; simp) (by simp only[ws1]; rw[hs0]; rw[bnf hm]; simp)⟩
   ·simp only[if_neg k0]
    refine s5 w b l r (wsP w s (r.pl.take k)).ids sz (wsP w s (r.pl.take k)).ex (wsP w s (r.pl.take k)).ps i k _ ?_
    simp only[au,dt,an,List.length_map,getD_map 0 h,cp]
    rw[if_pos (by omega)]
    refine⟨inl,?_⟩
    rw[if_pos (by rfl)]
    obtain⟨t,htd⟩:∃ t,t=wsP w s (r.pl.take k):=⟨_,rfl⟩
    obtain⟨p,hp⟩:∃ p,p=r.pl.getD k 0:=⟨_,rfl⟩
    rw[← htd,← hp] at hsucc
    rw[← hp] at hpm
    simp only[← hp,← htd] at hpl ⊢
    have htl:t.ps.length+1≤1000000:=by rw[hsucc] at hpl2; simpa[ws1] using hpl2
    have tail:∀ b1 b2:Bool,b1=(ws1 w t p).ids→b2=(ws1 w t p).ex→∃ s':Nat,r.pl.length-s'<r.pl.length-k∧s'≤r.pl.length∧ef 1 [.list (w.map mtc) .no,.list (b.map rrc) .no,.list (l.map rrc) .no,.list (t.ps.map u1++[[.U p]]) (.tok 2),.bool b1,.bool sz,.bool b2,.I i,.ptr 0 0,.I (wI ((k:Int)+1))] [.cells (rrc r),.dead,.tok] (if s'=0 then [.list (w.map mtc) .no,.list (b.map rrc) .no,.list (l.map rrc) .no,.E,.bool s.ids,.bool sz,.bool s.ex,.I i,.ptr 0 0,.I 0] else [.list (w.map mtc) .no,.list (b.map rrc) .no,.list (l.map rrc) .no,.list ((wsP w s (r.pl.take s')).ps.map u1) (.tok 1),.bool (wsP w s (r.pl.take s')).ids,.bool sz,.bool (wsP w s (r.pl.take s')).ex,.I i,.ptr 0 0,.I s']) (if s'=0 then [.cells (rrc r)] else [.cells (rrc r),.tok]):=by
     rintro b1 b2 rfl rfl
     refine⟨k+1,by omega,h,?_⟩
     rw[if_neg (by omega),if_neg (by omega),hsucc,ar h (by omega)]
     refine aR [0,2] (WkL.refl _) (.cons rfl (.cells (aU.low (bG r))) (.cons rfl .tok .nil)) (by decide) (by simp) (fun o ho=>?_) (gi ⟨by simp,rfl⟩ ?_)
     ·match o,ho with
      | 0,_=>rfl
     ·have:=Ren.ltok (ρ:=fun o=>[0,2].getD o 0) (n:=2) ((ws1 w t p).ps.map u1) 1 (by decide) (hlow _)
      have e2:(ws1 w t p).ps.map u1=t.ps.map u1++[[.U p]]:=by show(t.ps++[p]).map u1=_; rw[List.map_append]; rfl
      rw[← e2]; exact this
    have ap:aG (t.ps.map u1) [[.U p]] 1 4∧(List.all [PV.U p] PV.one=true∧[[PV.U p]]≠[]):=⟨aF (f:=u1) dc t.ps p (by omega),one_row dm p⟩
    refine⟨p,h0p p hpm,rfl,?_⟩
    by_cases hr:aC p=true
    ·rw[if_neg (by rw[hr]; decide)]
     refine⟨t.ps,.tok 1,p,rfl,(by omega),?_⟩
     by_cases hm:cH t.ps p=false
     ·rw[if_pos (by rw[hm]; rfl)]
      refine⟨w,.no,p,rfl,sw,?_⟩
      by_cases ho:(ofM w p != 0)=true
      ·rw[if_pos ho]
       exact⟨ap.1,ap.2,tail _ _ (by simp only[ws1]; rw[hr]; simp) (by simp only[ws1]; rw[ho]; simp)⟩
      ·rw[if_neg ho]
       exact⟨ap.1,ap.2,tail _ _ (by simp only[ws1]; rw[hr]; simp) (by simp only[ws1]; rw[hm,show(ofM w p != 0)=false by simpa using ho]; simp)⟩
     ·rw[if_neg (by simpa using hm)]
      exact⟨ap.1,ap.2,tail _ _ (by simp only[ws1]; rw[hr]; simp) (by simp only[ws1]; rw[bnf hm]; simp)⟩
    ·rw[if_pos (by simpa using hr)]
     refine⟨t.ps,.tok 1,p,rfl,(by omega),?_⟩
     by_cases hm:cH t.ps p=false
     ·rw[if_pos (by rw[hm]; rfl)]
      refine⟨w,.no,p,rfl,sw,?_⟩
      by_cases ho:(ofM w p != 0)=true
      ·rw[if_pos ho]
       exact⟨ap.1,ap.2,tail _ _ (by simp only[ws1]; rw[show aC p=false by simpa using hr]; simp) (by simp only[ws1]; rw[ho]; simp)⟩
      ·rw[if_neg ho]
       exact⟨ap.1,ap.2,tail _ _ (by simp only[ws1]; rw[show aC p=false by simpa using hr]; simp) (by simp only[ws1]; rw[hm,show(ofM w p != 0)=false by simpa using ho]; simp)⟩
     ·rw[if_neg (by simpa using hm)]
      exact⟨ap.1,ap.2,tail _ _ (by simp only[ws1]; rw[show aC p=false by simpa using hr]; simp) (by simp only[ws1]; rw[bnf hm]; simp)⟩
  ·have hkl:k=r.pl.length:=by omega
   subst hkl
   by_cases k0:r.pl.length=0
   ·have hn:r.pl=[]:=List.length_eq_zero_iff.1 k0
    simp only[if_pos k0]
    refine uu w b l r s.ids sz s.ex i 0 _ ?_
    simp only[au,dt,List.length_map]
    rw[if_neg (by omega)]
    refine⟨_,_,aR [0] (WkL.refl _) (.cons rfl (.cells (aU.low (bG r))) .nil) (by decide) (by simp) (fun o ho=>?_) (gi ⟨by simp,rfl⟩ (.low (aH NT.exact (by simp)))),hQ0 hn⟩
    match o,ho with
    | 0,_=>rfl
   ·have hn:r.pl≠[]:=fun e=>k0 (by rw[e]; rfl)
    simp only[if_neg k0]
    refine s5 w b l r (wsP w s (r.pl.take r.pl.length)).ids sz (wsP w s (r.pl.take r.pl.length)).ex (wsP w s (r.pl.take r.pl.length)).ps i r.pl.length _ ?_
    simp only[au,dt,List.length_map]
    rw[if_neg (by omega),List.take_length]
    refine⟨_,_,aR [0,1] (WkL.refl _) (.cons rfl (.cells (aU.low (bG r))) (.cons rfl .tok .nil)) (by decide) (by simp) (fun o ho=>?_) (gi ⟨by simp,rfl⟩ (.ltok (ρ:=fun o=>[0,1].getD o 0) _ 1 (by simp) (bl fun a _=>bL a))),hQ1 hn⟩
    match o,ho with
    | 0,_=>rfl
def sI:LSp:=fun e H Q=>∃(w:List Mt) (b l:List Rr) (r:Rr) (s:WS) (sz:Bool) (i:Nat),SmM w∧(∀ p∈r.pl,0≤p)∧r.pl.length≤1000000∧s.ps.length+r.pl.length≤1000000∧ah (List.map e [0,1,2,7,8,9,10,11,12,13]) [.list (w.map mtc) .no,.list (b.map rrc) .no,.list (l.map rrc) .no,.list (s.ps.map u1) (.tok 0),.bool s.ids,.bool sz,.bool s.ex,.I i,.ptr 1 0,.I 0]∧av H [.tok,.cells (rrc r)]∧(r.pl=[]→Q (.exit 2) (ak [0,1,2,7,8,9,10,11,12,13] [.list (w.map mtc) .no,.list (b.map rrc) .no,.list (l.map rrc) .no,.list (s.ps.map u1) (.tok 0),.bool s.ids,.bool sz,.bool s.ex,.I i,.ptr 1 0,.I 0]) [.tok,.cells (rrc r)])∧(r.pl≠[]→Q (.exit 2) (ak [0,1,2,7,8,9,10,11,12,13] [.list (w.map mtc) .no,.list (b.map rrc) .no,.list (l.map rrc) .no,.list ((wsP w s r.pl).ps.map u1) (.tok 2),.bool (wsP w s r.pl).ids,.bool sz,.bool (wsP w s r.pl).ex,.I i,.ptr 1 0,.I r.pl.length]) [.dead,.cells (rrc r),.tok])
theorem zp:∀ e H Q,sI e H Q→AwK Tryz.f59.ntmps (.loop (ai [1,1,1,0,1,0,0,1,0,0,1,1,1,0] (ag Tryz.f59))) Q e H:=by
 rintro e H Q ⟨w,b,l,r,s,sz,i,sw,h0p,hrl,hsl,he,hH,hQ0,hQ1⟩
 ·have hH:H=_:=hH
  have hHl:H.length=2:=by rw[hH]; rfl
  refine fB (hn:=fun o=>match o.dst with|some 76=>1|_=>0) aj kx (.nil _ _ _ _ _) (σ:=Nat) [0,1,2,7,8,9,10,11,12,13] (fun k=>k≤r.pl.length) (fun k=>if k=0 then [.list (w.map mtc) .no,.list (b.map rrc) .no,.list (l.map rrc) .no,.list (s.ps.map u1) (.tok 0),.bool s.ids,.bool sz,.bool s.ex,.I i,.ptr 1 0,.I 0] else [.list (w.map mtc) .no,.list (b.map rrc) .no,.list (l.map rrc) .no,.list ((wsP w s (r.pl.take k)).ps.map u1) (.tok 2),.bool (wsP w s (r.pl.take k)).ids,.bool sz,.bool (wsP w s (r.pl.take k)).ex,.I i,.ptr 1 0,.I k]) (fun k=>if k=0 then [.tok,.cells (rrc r)] else [.dead,.cells (rrc r),.tok]) (fun k=>r.pl.length-k) 0 (Nat.zero_le _) he hH ?_
  rw[hHl]
  intro k hk
  have hk:k≤r.pl.length:=hk
  have hps:=eN w (r.pl.take k) s
  have hpl:(wsP w s (r.pl.take k)).ps.length≤1000000:=by rw[hps,List.length_append,List.length_take]; omega
  by_cases h:k<r.pl.length
  ·have hsucc:=lH w s h
   have hlow:∀(ps:List Int),∀ x∈(ps.map u1).flatten,Low 0 x:=fun ps=>bl fun a _=>bL a
   have inl:InL (r.pl.map u1) 1 (k:Int):=by rw[dM]; exact h
   have cp:cI (u1 (r.pl.getD k 0)) 0=r.pl.getD k 0:=rfl
   have hpm:r.pl.getD k 0∈r.pl:=aX h
   have hpl2:(wsP w s (r.pl.take (k+1))).ps.length≤1000000:=by rw[eN,List.length_append,List.length_take]; omega
   by_cases k0:k=0
   ·subst k0
    have e1:wsP w s (r.pl.take 1)=ws1 w s (r.pl.getD 0 0):=hsucc
    simp only[if_pos]
    refine sZ w b l r s.ids sz s.ex s.ps i 0 _ ?_
    simp only[au,dt,an,List.length_map,getD_map 0 h,cp]
    rw[if_pos (by omega)]
    refine⟨inl,?_⟩
    rw[if_pos (by rfl)]
    obtain⟨p,hp⟩:∃ p,p=r.pl.getD 0 0:=⟨_,rfl⟩
    rw[← hp] at e1 hpm
    simp only[← hp]
    have tail:∀ b1 b2:Bool,b1=(ws1 w s p).ids→b2=(ws1 w s p).ex→∃ s':Nat,r.pl.length-s'<r.pl.length-0∧s'≤r.pl.length∧ef 2 [.list (w.map mtc) .no,.list (b.map rrc) .no,.list (l.map rrc) .no,.list (s.ps.map u1++[[.U p]]) (.tok 2),.bool b1,.bool sz,.bool b2,.I i,.ptr 1 0,.I (wI (((0:Nat):Int)+1))] [.dead,.cells (rrc r),.tok] (if s'=0 then [.list (w.map mtc) .no,.list (b.map rrc) .no,.list (l.map rrc) .no,.list (s.ps.map u1) (.tok 0),.bool s.ids,.bool sz,.bool s.ex,.I i,.ptr 1 0,.I 0] else [.list (w.map mtc) .no,.list (b.map rrc) .no,.list (l.map rrc) .no,.list ((wsP w s (r.pl.take s')).ps.map u1) (.tok 2),.bool (wsP w s (r.pl.take s')).ids,.bool sz,.bool (wsP w s (r.pl.take s')).ex,.I i,.ptr 1 0,.I s']) (if s'=0 then [.tok,.cells (rrc r)] else [.dead,.cells (rrc r),.tok]):=by
     rintro b1 b2 rfl rfl
     refine⟨1,by omega,h,?_⟩
     rw[if_neg (by decide),if_neg (by decide),e1,show wI (((0:Nat):Int)+1)=((1:Nat):Int) from rfl]
     refine aR [0,1,2] (WkL.refl _) (.cons rfl (.dead _) (.cons rfl (.cells (aU.low (bG r))) (.cons rfl .tok .nil))) (by decide) (by simp) (fun o ho=>?_) (gi ⟨by simp,rfl⟩ ?_)
     ·match o,ho with
      | 0,_=>rfl
      | 1,_=>rfl
     ·have:=Ren.ltok (ρ:=fun o=>[0,1,2].getD o 0) (n:=3) ((ws1 w s p).ps.map u1) 2 (by decide) (hlow _)
      have e2:(ws1 w s p).ps.map u1=s.ps.map u1++[[PV.U p]]:=by show(s.ps++[p]).map u1=_; rw[List.map_append]; rfl
      rw[← e2]; exact this
    have ap:aG (s.ps.map u1) [[.U p]] 1 4∧(List.all [PV.U p] PV.one=true∧[[PV.U p]]≠[]):=⟨aF (f:=u1) dc s.ps p (by omega),one_row dm p⟩
    refine⟨p,h0p p hpm,rfl,?_⟩
    by_cases hr:aC p=true
    ·rw[if_neg (by rw[hr]; decide)]
     refine⟨s.ps,.tok 0,p,rfl,(by omega),?_⟩
     by_cases hm:cH s.ps p=false
     ·rw[if_pos (by rw[hm]; rfl)]
      refine⟨w,.no,p,rfl,sw,?_⟩
      by_cases ho:(ofM w p != 0)=true
      ·rw[if_pos ho]
       exact⟨ap.1,ap.2,tail _ _ (by simp only[ws1]; rw[hr]; simp) (by simp only[ws1]; rw[ho]; simp)⟩
      ·rw[if_neg ho]
       exact⟨ap.1,ap.2,tail _ _ (by simp only[ws1]; rw[hr]; simp) (by simp only[ws1]; rw[hm,show(ofM w p != 0)=false by simpa using ho]; simp)⟩
     ·rw[if_neg (by simpa using hm)]
      exact⟨ap.1,ap.2,tail _ _ (by simp only[ws1]; rw[hr]; simp) (by simp only[ws1]; rw[bnf hm]; simp)⟩
    ·rw[if_pos (by simpa using hr)]
     refine⟨s.ps,.tok 0,p,rfl,(by omega),?_⟩
     by_cases hm:cH s.ps p=false
     ·rw[if_pos (by rw[hm]; rfl)]
      refine⟨w,.no,p,rfl,sw,?_⟩
      by_cases ho:(ofM w p != 0)=true
      ·rw[if_pos ho]
       exact⟨ap.1,ap.2,tail _ _ (by simp only[ws1]; rw[show aC p=false by simpa using hr]; simp) (by simp only[ws1]; rw[ho]; simp)⟩
      ·rw[if_neg ho]
       exact⟨ap.1,ap.2,tail _ _ (by simp only[ws1]; rw[show aC p=false by simpa using hr]; simp) (by simp only[ws1]; rw[hm,show(ofM w p != 0)=false by simpa using ho]; simp)⟩
     ·rw[if_neg (by simpa using hm)]
      exact⟨ap.1,ap.2,tail _ _ (by simp only[ws1]; rw[show aC p=false by simpa using hr]; simp) (by simp only[ws1]; rw[bnf hm]; simp)⟩
   ·simp only[if_neg k0]
    refine tI w b l r (wsP w s (r.pl.take k)).ids sz (wsP w s (r.pl.take k)).ex (wsP w s (r.pl.take k)).ps i k _ ?_
    simp only[au,dt,an,List.length_map,getD_map 0 h,cp]
    rw[if_pos (by omega)]
    refine⟨inl,?_⟩
    rw[if_pos (by rfl)]
    obtain⟨t,htd⟩:∃ t,t=wsP w s (r.pl.take k):=⟨_,rfl⟩
    obtain⟨p,hp⟩:∃ p,p=r.pl.getD k 0:=⟨_,rfl⟩
    rw[← htd,← hp] at hsucc
    rw[← hp] at hpm
    simp only[← hp,← htd] at hpl ⊢
    have htl:t.ps.length+1≤1000000:=by rw[hsucc] at hpl2; simpa[ws1] using hpl2
    have tail:∀ b1 b2:Bool,b1=(ws1 w t p).ids→b2=(ws1 w t p).ex→∃ s':Nat,r.pl.length-s'<r.pl.length-k∧s'≤r.pl.length∧ef 2 [.list (w.map mtc) .no,.list (b.map rrc) .no,.list (l.map rrc) .no,.list (t.ps.map u1++[[.U p]]) (.tok 3),.bool b1,.bool sz,.bool b2,.I i,.ptr 1 0,.I (wI ((k:Int)+1))] [.dead,.cells (rrc r),.dead,.tok] (if s'=0 then [.list (w.map mtc) .no,.list (b.map rrc) .no,.list (l.map rrc) .no,.list (s.ps.map u1) (.tok 0),.bool s.ids,.bool sz,.bool s.ex,.I i,.ptr 1 0,.I 0] else [.list (w.map mtc) .no,.list (b.map rrc) .no,.list (l.map rrc) .no,.list ((wsP w s (r.pl.take s')).ps.map u1) (.tok 2),.bool (wsP w s (r.pl.take s')).ids,.bool sz,.bool (wsP w s (r.pl.take s')).ex,.I i,.ptr 1 0,.I s']) (if s'=0 then [.tok,.cells (rrc r)] else [.dead,.cells (rrc r),.tok]):=by
     rintro b1 b2 rfl rfl
     refine⟨k+1,by omega,h,?_⟩
     rw[if_neg (by omega),if_neg (by omega),hsucc,ar h (by omega)]
     refine aR [0,1,3] (WkL.refl _) (.cons rfl (.dead _) (.cons rfl (.cells (aU.low (bG r))) (.cons rfl .tok .nil))) (by decide) (by simp) (fun o ho=>?_) (gi ⟨by simp,rfl⟩ ?_)
     ·match o,ho with
      | 0,_=>rfl
      | 1,_=>rfl
     ·have:=Ren.ltok (ρ:=fun o=>[0,1,3].getD o 0) (n:=3) ((ws1 w t p).ps.map u1) 2 (by decide) (hlow _)
      have e2:(ws1 w t p).ps.map u1=t.ps.map u1++[[.U p]]:=by show(t.ps++[p]).map u1=_; rw[List.map_append]; rfl
      rw[← e2]; exact this
    have ap:aG (t.ps.map u1) [[.U p]] 1 4∧(List.all [PV.U p] PV.one=true∧[[PV.U p]]≠[]):=⟨aF (f:=u1) dc t.ps p (by omega),one_row dm p⟩
    refine⟨p,h0p p hpm,rfl,?_⟩
    by_cases hr:aC p=true
    ·rw[if_neg (by rw[hr]; decide)]
     refine⟨t.ps,.tok 2,p,rfl,(by omega),?_⟩
     by_cases hm:cH t.ps p=false
     ·rw[if_pos (by rw[hm]; rfl)]
      refine⟨w,.no,p,rfl,sw,?_⟩
      by_cases ho:(ofM w p != 0)=true
      ·rw[if_pos ho]
       exact⟨ap.1,ap.2,tail _ _ (by simp only[ws1]; rw[hr]; simp) (by simp only[ws1]; rw[ho]; simp)⟩
      ·rw[if_neg ho]
       exact⟨ap.1,ap.2,tail _ _ (by simp only[ws1]; rw[hr]; simp) (by simp only[ws1]; rw[hm,show(ofM w p != 0)=false by simpa using ho]; simp)⟩
     ·rw[if_neg (by simpa using hm)]
      exact⟨ap.1,ap.2,tail _ _ (by simp only[ws1]; rw[hr]; simp) (by simp only[ws1]; rw[bnf hm]; simp)⟩
    ·rw[if_pos (by simpa using hr)]
     refine⟨t.ps,.tok 2,p,rfl,(by omega),?_⟩
     by_cases hm:cH t.ps p=false
     ·rw[if_pos (by rw[hm]; rfl)]
      refine⟨w,.no,p,rfl,sw,?_⟩
      by_cases ho:(ofM w p != 0)=true
      ·rw[if_pos ho]
       exact⟨ap.1,ap.2,tail _ _ (by simp only[ws1]; rw[show aC p=false by simpa using hr]; simp) (by simp only[ws1]; rw[ho]; simp)⟩
      ·rw[if_neg ho]
       exact⟨ap.1,ap.2,tail _ _ (by simp only[ws1]; rw[show aC p=false by simpa using hr]; simp) (by simp only[ws1]; rw[hm,show(ofM w p != 0)=false by simpa using ho]; simp)⟩
     ·rw[if_neg (by simpa using hm)]
      exact⟨ap.1,ap.2,tail _ _ (by simp only[ws1]; rw[show aC p=false by simpa using hr]; simp) (by simp only[ws1]; rw[bnf hm]; simp)⟩
  ·have hkl:k=r.pl.length:=by omega
   subst hkl
   by_cases k0:r.pl.length=0
   ·have hn:r.pl=[]:=List.length_eq_zero_iff.1 k0
    simp only[if_pos k0]
    refine sZ w b l r s.ids sz s.ex s.ps i 0 _ ?_
    simp only[au,dt,List.length_map]
    rw[if_neg (by omega)]
    refine⟨_,_,aR [0,1] (WkL.refl _) (.cons rfl .tok (.cons rfl (.cells (aU.low (bG r))) .nil)) (by decide) (by simp) (fun o ho=>?_) (gi ⟨by simp,rfl⟩ (.ltok (ρ:=fun o=>[0,1].getD o 0) _ 0 (by simp) (bl fun a _=>bL a))),hQ0 hn⟩
    match o,ho with
    | 0,_=>rfl
    | 1,_=>rfl
   ·have hn:r.pl≠[]:=fun e=>k0 (by rw[e]; rfl)
    simp only[if_neg k0]
    refine tI w b l r (wsP w s (r.pl.take r.pl.length)).ids sz (wsP w s (r.pl.take r.pl.length)).ex (wsP w s (r.pl.take r.pl.length)).ps i r.pl.length _ ?_
    simp only[au,dt,List.length_map]
    rw[if_neg (by omega),List.take_length]
    refine⟨_,_,aR [0,1,2] (WkL.refl _) (.cons rfl (.dead _) (.cons rfl (.cells (aU.low (bG r))) (.cons rfl .tok .nil))) (by decide) (by simp) (fun o ho=>?_) (gi ⟨by simp,rfl⟩ (.ltok (ρ:=fun o=>[0,1,2].getD o 0) _ 2 (by simp) (bl fun a _=>bL a))),hQ1 hn⟩
    match o,ho with
    | 0,_=>rfl
    | 1,_=>rfl
theorem x5:ai [1,0,0,1,1,1,0] (ai [1,1,1,0,1,0] (ag Tryz.f59))=ai [1,1,1,0,1,0,0,1,0,0,1,1,1,0] (ag Tryz.f59):=by kernel_rfl
theorem vg:∀ e H Q,sL e H Q→AwK Tryz.f59.ntmps (.loop (ai [1,0,0,1,1,1,0] (ai [1,1,1,0,1,0] (ag Tryz.f59)))) Q e H:=by
 rw[x5]; exact zA
theorem wB:∀ e H Q,sI e H Q→AwK Tryz.f59.ntmps (.loop (ai [1,0,0,1,1,1,0] (ai [1,1,1,0,1,0] (ag Tryz.f59)))) Q e H:=by
 rw[x5]; exact zp
theorem IL (w:List Mt) (b l:List Rr) (ids sz ex:Bool) (r:Rr) (i:Nat):(by refine(?_:_→_→_→_→Prop) [Ob.cells [.I r.tm,.list (r.pl.map u1) .no,.I r.rt,.I r.wd]] (↑(List.length (r.pl.map u1)):Int) (PV.list (b.map rrc) .no) (PV.list (l.map rrc) .no); exact fun f g h j=>by refine(?_:_→Prop) [PV.list (w.map mtc) .no,h,j,.E,.bool ids,.bool sz,.bool ex,.I i,.ptr 0 0]; exact fun d=>∀(R:Ex→List PV→ae→Prop),by refine(?_:_→Prop) (R .normal [.list (w.map mtc) .no,h,j,.E,.bool ids,.bool true,.bool ex,.I i,.ptr 0 0] f); exact fun a=>by refine(?_:_→Prop) (br (decide (g<1) == false) (br (decide (g>4)) a (R .normal d f)) a); exact fun c=>(br ((r.tm != 1) == true) (br ((r.tm != 2) == false) c a) c)→Holds (wpK [] [] (fun _=>0) (bX [1,1,1,0,1,0,0,1,0,0,1,0] (ag Tryz.f59)) [] (ak [0,1,2,7,8,9,10,11,12] d) [.cells (rrc r)] (fun ex e H=>R ex (List.map e [0,1,2,7,8,9,10,11,12]) H)):Prop):=fun R h=>hoE h
theorem FL (w:List Mt) (b l:List Rr) (ids sz ex:Bool) (ps:List Int) (r:Rr) (i:Nat):(by refine(?_:_→_→_→_→_→Prop) (Ob.cells [.I r.tm,.list (r.pl.map u1) .no,.I r.rt,.I r.wd]) (↑(List.length (r.pl.map u1)):Int) (PV.list (ps.map u1) (.tok 0)) (PV.list (b.map rrc) .no) (PV.list (l.map rrc) .no); exact fun f g h j k=>by refine(?_:_→Prop) [PV.list (w.map mtc) .no,j,k,h,.bool ids,.bool sz,.bool ex,.I i,.ptr 1 0]; exact fun d=>∀(R:Ex→List PV→ae→Prop),by refine(?_:_→Prop) (R .normal [.list (w.map mtc) .no,j,k,h,.bool ids,.bool true,.bool ex,.I i,.ptr 1 0] [.tok,f]); exact fun a=>by refine(?_:_→Prop) (br (decide (g<1) == false) (br (decide (g>4)) a (R .normal d [.tok,f])) a); exact fun c=>(br ((r.tm != 1) == true) (br ((r.tm != 2) == false) c a) c)→Holds (wpK [] [] (fun _=>0) (bX [1,1,1,0,1,0,0,1,0,0,1,0] (ag Tryz.f59)) [] (ak [0,1,2,7,8,9,10,11,12] d) [.tok,.cells (rrc r)] (fun ex e H=>R ex (List.map e [0,1,2,7,8,9,10,11,12]) H)):Prop):=fun R h=>hoE h
def sB:LSp:=fun e H Q=>∃(w:List Mt) (b l:List Rr) (r:Rr) (ids sz ex:Bool) (i:Nat),r.pl.length≤1000000∧ah (List.map e [0,1,2,7,8,9,10,11,12]) [.list (w.map mtc) .no,.list (b.map rrc) .no,.list (l.map rrc) .no,.E,.bool ids,.bool sz,.bool ex,.I i,.ptr 0 0]∧av H [.cells (rrc r)]∧Q .normal (ak [0,1,2,7,8,9,10,11,12] [.list (w.map mtc) .no,.list (b.map rrc) .no,.list (l.map rrc) .no,.E,.bool ids,.bool (sz || bY r),.bool ex,.I i,.ptr 0 0]) [.cells (rrc r)]
theorem Ao:∀ e H Q,sB e H Q→AwK Tryz.f59.ntmps (bX [1,1,1,0,1,0,0,1,0,0,1,0] (ag Tryz.f59)) Q e H:=by
 rintro e H Q ⟨w,b,l,r,ids,sz,ex,i,hrl,he,hH,hQ⟩
 have hH:H=_:=hH
 subst hH
 have he:List.map e [0,1,2,7,8,9,10,11,12]=_:=he
 refine dj (T:=[]) (slots:=[0,1,2,7,8,9,10,11,12]) (outs:=[0,1,2,7,8,9,10,11,12]) (hn:=fun _=>0) (.nil _ _) (.nil _ _ _ _ _) he rfl (IL w b l ids sz ex r i (fun ex' vs H'=>Q ex' (ak [0,1,2,7,8,9,10,11,12] vs) H') ?_)
 simp only[au,List.length_map]
 have tail:∀ z:Bool,z=(sz || bY r)→Q .normal (ak [0,1,2,7,8,9,10,11,12] [.list (w.map mtc) .no,.list (b.map rrc) .no,.list (l.map rrc) .no,.E,.bool ids,.bool z,.bool ex,.I i,.ptr 0 0]) [.cells (rrc r)]:=by rintro z rfl; exact hQ
 unfold bY at tail
 have l3:(decide ((r.pl.length:Int)>4)=true)↔r.pl.length>4:=by rw[decide_eq_true_eq]; omega
 by_cases h1:(r.tm != 1)=true
 ·rw[if_pos (by rw[h1]; rfl)]
  by_cases h2:(r.tm != 2)=false
  ·rw[if_pos (by rw[h2]; rfl)]
   by_cases h3:r.pl.length<1
   ·rw[if_neg (by simp; omega)]; exact tail _ (by rw[decide_eq_true h3]; simp)
   ·rw[if_pos (by simp; omega)]
    by_cases h4:r.pl.length>4
    ·rw[if_pos (l3.2 h4)]; exact tail _ (by rw[decide_eq_true h4]; simp)
    ·rw[if_neg (fun e=>h4 (l3.1 e))]; exact tail _ (by rw[h1,h2,decide_eq_false h3,decide_eq_false h4]; simp)
  ·rw[if_neg (by simpa using h2)]; exact tail _ (by rw[h1,bnf h2]; simp)
 ·rw[if_neg (by simpa using h1)]
  have h1':(r.tm != 1)=false:=by simpa using h1
  by_cases h3:r.pl.length<1
  ·rw[if_neg (by simp; omega)]; exact tail _ (by rw[decide_eq_true h3]; simp)
  ·rw[if_pos (by simp; omega)]
   by_cases h4:r.pl.length>4
   ·rw[if_pos (l3.2 h4)]; exact tail _ (by rw[decide_eq_true h4]; simp)
   ·rw[if_neg (fun e=>h4 (l3.1 e))]; exact tail _ (by rw[h1',decide_eq_false h3,decide_eq_false h4]; simp)
theorem Fi:bX [1,0,0,1,0] (ai [1,1,1,0,1,0] (ag Tryz.f59))=bX [1,1,1,0,1,0,0,1,0,0,1,0] (ag Tryz.f59):=by kernel_rfl
theorem vT:∀ e H Q,sB e H Q→AwK Tryz.f59.ntmps (bX [1,0,0,1,0] (ai [1,1,1,0,1,0] (ag Tryz.f59))) Q e H:=by
 rw[Fi]; exact Ao
def sx:LSp:=fun e H Q=>∃(w:List Mt) (b l:List Rr) (r:Rr) (ids sz ex:Bool) (ps:List Int) (i:Nat),r.pl.length≤1000000∧ah (List.map e [0,1,2,7,8,9,10,11,12]) [.list (w.map mtc) .no,.list (b.map rrc) .no,.list (l.map rrc) .no,.list (ps.map u1) (.tok 0),.bool ids,.bool sz,.bool ex,.I i,.ptr 1 0]∧av H [.tok,.cells (rrc r)]∧Q .normal (ak [0,1,2,7,8,9,10,11,12] [.list (w.map mtc) .no,.list (b.map rrc) .no,.list (l.map rrc) .no,.list (ps.map u1) (.tok 0),.bool ids,.bool (sz || bY r),.bool ex,.I i,.ptr 1 0]) [.tok,.cells (rrc r)]
theorem Ah:∀ e H Q,sx e H Q→AwK Tryz.f59.ntmps (bX [1,1,1,0,1,0,0,1,0,0,1,0] (ag Tryz.f59)) Q e H:=by
 rintro e H Q ⟨w,b,l,r,ids,sz,ex,ps,i,hrl,he,hH,hQ⟩
 have hH:H=_:=hH
 subst hH
 have he:List.map e [0,1,2,7,8,9,10,11,12]=_:=he
 refine dj (T:=[]) (slots:=[0,1,2,7,8,9,10,11,12]) (outs:=[0,1,2,7,8,9,10,11,12]) (hn:=fun _=>0) (.nil _ _) (.nil _ _ _ _ _) he rfl (FL w b l ids sz ex ps r i (fun ex' vs H'=>Q ex' (ak [0,1,2,7,8,9,10,11,12] vs) H') ?_)
 simp only[au,List.length_map]
 have tail:∀ z:Bool,z=(sz || bY r)→Q .normal (ak [0,1,2,7,8,9,10,11,12] [.list (w.map mtc) .no,.list (b.map rrc) .no,.list (l.map rrc) .no,.list (ps.map u1) (.tok 0),.bool ids,.bool z,.bool ex,.I i,.ptr 1 0]) [.tok,.cells (rrc r)]:=by rintro z rfl; exact hQ
 unfold bY at tail
 have l3:(decide ((r.pl.length:Int)>4)=true)↔r.pl.length>4:=by rw[decide_eq_true_eq]; omega
 by_cases h1:(r.tm != 1)=true
 ·rw[if_pos (by rw[h1]; rfl)]
  by_cases h2:(r.tm != 2)=false
  ·rw[if_pos (by rw[h2]; rfl)]
   by_cases h3:r.pl.length<1
   ·rw[if_neg (by simp; omega)]; exact tail _ (by rw[decide_eq_true h3]; simp)
   ·rw[if_pos (by simp; omega)]
    by_cases h4:r.pl.length>4
    ·rw[if_pos (l3.2 h4)]; exact tail _ (by rw[decide_eq_true h4]; simp)
    ·rw[if_neg (fun e=>h4 (l3.1 e))]; exact tail _ (by rw[h1,h2,decide_eq_false h3,decide_eq_false h4]; simp)
  ·rw[if_neg (by simpa using h2)]; exact tail _ (by rw[h1,bnf h2]; simp)
 ·rw[if_neg (by simpa using h1)]
  have h1':(r.tm != 1)=false:=by simpa using h1
  by_cases h3:r.pl.length<1
  ·rw[if_neg (by simp; omega)]; exact tail _ (by rw[decide_eq_true h3]; simp)
  ·rw[if_pos (by simp; omega)]
   by_cases h4:r.pl.length>4
   ·rw[if_pos (l3.2 h4)]; exact tail _ (by rw[decide_eq_true h4]; simp)
   ·rw[if_neg (fun e=>h4 (l3.1 e))]; exact tail _ (by rw[h1',decide_eq_false h3,decide_eq_false h4]; simp)
theorem EP:bX [1,0,0,1,0] (ai [1,1,1,0,1,0] (ag Tryz.f59))=bX [1,1,1,0,1,0,0,1,0,0,1,0] (ag Tryz.f59):=by kernel_rfl
theorem vq:∀ e H Q,sx e H Q→AwK Tryz.f59.ntmps (bX [1,0,0,1,0] (ai [1,1,1,0,1,0] (ag Tryz.f59))) Q e H:=by
 rw[EP]; exact Ah
theorem yG (w:List Mt) (b l:List Rr) (ids sz ex:Bool) (i:Nat):(by refine(?_:_→_→_→Prop) (List.getD (l.map rrc) (Int.toNat (i:Int)) []) (PV.list (b.map rrc) .no) (PV.list (l.map rrc) .no); exact fun n q t=>by refine(?_:_→Prop) [PV.list (w.map mtc) .no,q,t,.E,.bool ids,.bool sz,.bool ex,.I i]; exact fun o=>∀(R:Ex→List PV→ae→Prop),(br (decide ((i:Int)<(↑(List.length (l.map rrc)):Int))) (InL (l.map rrc) 4 (i:Int)∧br (true && aE [.int .i64,.list,.int .i64,.int .i64] 0 n) (∃(w_1:List Mt) (b_1:List Rr) (l_1:List Rr) (r:Rr) (ids_1:Bool) (sz_1:Bool) (ex_1:Bool) (i_1:Nat),by refine(?_:_→_→_→_→Prop) [Ob.cells [.I r.tm,.list (r.pl.map u1) .no,.I r.rt,.I r.wd]] (PV.list (w_1.map mtc) .no) (PV.list (b_1.map rrc) .no) (PV.list (l_1.map rrc) .no); exact fun h j k m=>r.pl.length≤1000000∧ah [.list (w.map mtc) .no,q,t,.E,.bool ids,.bool sz,.bool ex,.I i,.ptr 0 0] [j,k,m,.E,.bool ids_1,.bool sz_1,.bool ex_1,.I i_1,.ptr 0 0]∧av [.cells [.I (cI n 0),.list (cL n 1) (cT n 1),.I (cI n 2),.I (cI n 3)]] h∧∃(w:List Mt) (b:List Rr) (l:List Rr) (r_1:Rr) (s:WS) (sz:Bool) (i:Nat),by refine(?_:_→_→_→_→_→Prop) (Ob.cells [.I r_1.tm,.list (r_1.pl.map u1) .no,.I r_1.rt,.I r_1.wd]) (PV.list (w.map mtc) .no) (PV.list (b.map rrc) .no) (PV.list (l.map rrc) .no) (PV.I (wI ((i:Int)+1))); exact fun a c d f g=>SmM w∧(∀(p:Int),p∈r_1.pl→0≤p)∧r_1.pl.length≤1000000∧s.ps.length+r_1.pl.length≤1000000∧s.ps=[]∧ah [j,k,m,.E,.bool ids_1,.bool (sz_1 || bY r),.bool ex_1,.I i_1,.ptr 0 0,.I 0] [c,d,f,.E,.bool s.ids,.bool sz,.bool s.ex,.I i,.ptr 0 0,.I 0]∧av h [a]∧(r_1.pl=[]→R .normal [c,d,f,.E,.bool s.ids,.bool sz,.bool s.ex,g] [a])∧(r_1.pl≠[]→R .normal [c,d,f,.list (List.map u1 (WS.ps (wsP w s r_1.pl))) (.tok 1),.bool (WS.ids (wsP w s r_1.pl)),.bool sz,.bool (WS.ex (wsP w s r_1.pl)),g] [a,.tok])) False) (R (.exit 0) o []))→Holds (wpK TWF [([1,0,0,1,1,1,0],sL),([1,0,0,1,0],sB)] (fun _=>0) (ai [1,1,1,0,1,0] (ag Tryz.f59)) [] (ak [0,1,2,7,8,9,10,11] o) [] (fun ex e H=>R ex (List.map e [0,1,2,7,8,9,10,11]) H)):Prop):=fun R h=>hoE h
theorem yd (w:List Mt) (b l:List Rr) (ids sz ex:Bool) (ps:List Int) (i:Nat):(by refine(?_:_→_→_→_→Prop) (List.getD (l.map rrc) (Int.toNat (i:Int)) []) (PV.list (ps.map u1) (.tok 0)) (PV.list (b.map rrc) .no) (PV.list (l.map rrc) .no); exact fun q u v x=>by refine(?_:_→Prop) [PV.list (w.map mtc) .no,v,x,u,.bool ids,.bool sz,.bool ex,.I i]; exact fun t=>∀(R:Ex→List PV→ae→Prop),(br (decide ((i:Int)<(↑(List.length (l.map rrc)):Int))) (InL (l.map rrc) 4 (i:Int)∧br (true && aE [.int .i64,.list,.int .i64,.int .i64] 0 q) (∃(w_1:List Mt) (b_1:List Rr) (l_1:List Rr) (r:Rr) (ids_1:Bool) (sz_1:Bool) (ex_1:Bool) (ps_1:List Int) (i_1:Nat),by refine(?_:_→_→_→_→_→Prop) (Ob.cells [.I r.tm,.list (r.pl.map u1) .no,.I r.rt,.I r.wd]) (PV.list (ps_1.map u1) (.tok 0)) (PV.list (w_1.map mtc) .no) (PV.list (b_1.map rrc) .no) (PV.list (l_1.map rrc) .no); exact fun j k m n o=>r.pl.length≤1000000∧ah [.list (w.map mtc) .no,v,x,u,.bool ids,.bool sz,.bool ex,.I i,.ptr 1 0] [m,n,o,k,.bool ids_1,.bool sz_1,.bool ex_1,.I i_1,.ptr 1 0]∧av [.tok,.cells [.I (cI q 0),.list (cL q 1) (cT q 1),.I (cI q 2),.I (cI q 3)]] [.tok,j]∧∃(w:List Mt) (b:List Rr) (l:List Rr) (r_1:Rr) (s:WS) (sz:Bool) (i:Nat),by refine(?_:_→_→_→_→_→_→Prop) (Ob.cells [.I r_1.tm,.list (r_1.pl.map u1) .no,.I r_1.rt,.I r_1.wd]) (PV.list (w.map mtc) .no) (PV.list (b.map rrc) .no) (PV.list (l.map rrc) .no) (PV.I (wI ((i:Int)+1))) (PV.list (s.ps.map u1) (.tok 0)); exact fun a c d f g h=>SmM w∧(∀(p:Int),p∈r_1.pl→0≤p)∧r_1.pl.length≤1000000∧s.ps.length+r_1.pl.length≤1000000∧ah [m,n,o,k,.bool ids_1,.bool (sz_1 || bY r),.bool ex_1,.I i_1,.ptr 1 0,.I 0] [c,d,f,h,.bool s.ids,.bool sz,.bool s.ex,.I i,.ptr 1 0,.I 0]∧av [.tok,j] [.tok,a]∧(r_1.pl=[]→R .normal [c,d,f,h,.bool s.ids,.bool sz,.bool s.ex,g] [.tok,a])∧(r_1.pl≠[]→R .normal [c,d,f,.list (List.map u1 (WS.ps (wsP w s r_1.pl))) (.tok 2),.bool (WS.ids (wsP w s r_1.pl)),.bool sz,.bool (WS.ex (wsP w s r_1.pl)),g] [.dead,a,.tok])) False) (R (.exit 0) t [.tok]))→Holds (wpK TWF [([1,0,0,1,1,1,0],sI),([1,0,0,1,0],sx)] (fun _=>0) (ai [1,1,1,0,1,0] (ag Tryz.f59)) [] (ak [0,1,2,7,8,9,10,11] t) [.tok] (fun ex e H=>R ex (List.map e [0,1,2,7,8,9,10,11]) H)):Prop):=fun R h=>hoE h
theorem jH {ρ:Nat→Nat} {n:Nat} {w:List Mt} {b l:List Rr} {ids sz ex:Bool} {z:Int} {T T':PV} (hT:Ren ρ n T T'):aU ρ n [.list (w.map mtc) .no,.list (b.map rrc) .no,.list (l.map rrc) .no,T,.bool ids,.bool sz,.bool ex,.I z] [.list (w.map mtc) .no,.list (b.map rrc) .no,.list (l.map rrc) .no,T',.bool ids,.bool sz,.bool ex,.I z]:=by
 exact .cons (.low (bK _)) (.cons (.low (aP _)) (.cons (.low (aP _)) (.cons hT (.cons (.low (.bool _)) (.cons (.low (.bool _)) (.cons (.low (.bool _)) (.cons (.low (.int _ _)) .nil)))))))
theorem Mz:LOk Tryz.prog gl Tryz.f59.ntmps (ai [1,1,1,0,1,0] (ag Tryz.f59)) [] [([1,0,0,1,1,1,0],sL),([1,0,0,1,0],sB)]:=(.cons suE vg (.cons atE vT (.nil _ _ _ _ _)))
theorem MJ:LOk Tryz.prog gl Tryz.f59.ntmps (ai [1,1,1,0,1,0] (ag Tryz.f59)) [] [([1,0,0,1,1,1,0],sI),([1,0,0,1,0],sx)]:=(.cons suE wB (.cons atE vq (.nil _ _ _ _ _)))
def IZ:LSp:=fun e H Q=>∃(w:List Mt) (b l:List Rr) (sz:Bool),SmM w∧(∀ r∈l,∀ p∈r.pl,0≤p)∧l.length≤1000000∧tot l≤1000000∧ah (List.map e [0,1,2,7,8,9,10,11]) [.list (w.map mtc) .no,.list (b.map rrc) .no,.list (l.map rrc) .no,.E,.bool false,.bool sz,.bool false,.I 0]∧av H []∧Q (.exit 0) (ak [0,1,2,7,8,9,10,11] [.list (w.map mtc) .no,.list (b.map rrc) .no,.list (l.map rrc) .no,.any,.bool (wsR w ws0 l).ids,.bool (sz || l.any bY),.bool (wsR w ws0 l).ex,.I l.length]) []
set_option maxRecDepth 10000 in
theorem AR:∀ e H Q,IZ e H Q→AwK Tryz.f59.ntmps (.loop (ai [1,1,1,0,1,0] (ag Tryz.f59))) Q e H:=by
 rintro e H Q ⟨w,b,l,sz,sw,h0p,hl,ht,he,hH,hQ⟩
 have hH:H=_:=hH
 have he:List.map e [0,1,2,7,8,9,10,11]=_:=he
 have hHl:H.length=0:=by rw[hH]; rfl
 have hpl:∀ r∈l,r.pl.length≤1000000:=fun r hr=>Nat.le_trans (vn hr) ht
 refine uD (σ:=Nat) aj [0,1,2,7,8,9,10,11] (fun i=>i≤l.length) (fun i=>if(wsR w ws0 (l.take i)).ps=[] then [.list (w.map mtc) .no,.list (b.map rrc) .no,.list (l.map rrc) .no,.E,.bool (wsR w ws0 (l.take i)).ids,.bool (sz || (l.take i).any bY),.bool (wsR w ws0 (l.take i)).ex,.I i] else [.list (w.map mtc) .no,.list (b.map rrc) .no,.list (l.map rrc) .no,.list ((wsR w ws0 (l.take i)).ps.map u1) (.tok 0),.bool (wsR w ws0 (l.take i)).ids,.bool (sz || (l.take i).any bY),.bool (wsR w ws0 (l.take i)).ex,.I i]) (fun i=>if(wsR w ws0 (l.take i)).ps=[] then [] else [.tok]) (fun i=>l.length-i) 0 (Nat.zero_le _) (by rw[he,List.take_zero,if_pos (show(wsR w ws0 []).ps=[] from rfl)]; simp[wsR,ws0]) (by rw[hH,List.take_zero,if_pos (show(wsR w ws0 []).ps=[] from rfl)]) ?_
 rw[hHl]
 intro i hi
 have hi:i≤l.length:=hi
 by_cases h:i<l.length
 ·obtain⟨r,hr⟩:∃ r,r=l.getD i default:=⟨_,rfl⟩
  have hsucc:=ur w ws0 h
  have hany:=ue h
  rw[← hr] at hsucc hany
  have hrl:r.pl.length≤1000000:=hpl r (by rw[hr]; exact aX h)
  have hsl:(wsR w ws0 (l.take i)).ps.length+r.pl.length≤1000000:=by
   have h1:=sb w (l.take (i+1)) ws0
   have h2:=fO (l:=l) (i+1)
   rw[hsucc,eN,List.length_append] at h1
   have:ws0.ps.length=0:=rfl
   omega
  have inl:InL (l.map rrc) 4 (i:Int):=by rw[dP]; exact h
  have hps:=eN w r.pl (wsR w ws0 (l.take i))
  have tailE:r.pl=[]→wsP w (wsR w ws0 (l.take i)) r.pl=wsR w ws0 (l.take i):=fun e=>by rw[e]; rfl
  have hor:(sz || (l.take (i+1)).any bY)=((sz || (l.take i).any bY) || bY r):=by rw[hany,Bool.or_assoc]
  by_cases h0:(wsR w ws0 (l.take i)).ps=[]
  ·simp only[if_pos h0]
   refine aY (hn:=fun _=>0) kx (ai [1,1,1,0,1,0] (ag Tryz.f59)) [] Mz _ _ _ (yG w b l (wsR w ws0 (l.take i)).ids (sz || (l.take i).any bY) (wsR w ws0 (l.take i)).ex i _ ?_).out
   simp only[au,dt,an,List.length_map,getD_map default h,← hr]
   rw[if_pos (by omega)]
   refine⟨inl,?_⟩
   rw[if_pos (by rfl)]
   refine⟨w,b,l,r,_,_,_,i,hrl,rfl,rfl,w,b,l,r,wsR w ws0 (l.take i),(sz || (l.take i).any bY || bY r),i,sw,h0p r (by rw[hr]; exact aX h),hrl,hsl,h0,rfl,rfl,fun hn=>?_,fun hn=>?_⟩
   ·have e2:(wsR w ws0 (l.take (i+1))).ps=[]:=by rw[hsucc,tailE hn]; exact h0
    refine⟨i+1,(show l.length-(i+1)<l.length-i by omega),h,?_⟩
    simp only[if_pos e2]
    rw[hor,hsucc,tailE hn,ar h (by omega)]
    exact aR [] (WkL.refl _) .nil (by decide) (by simp) (fun o ho=>absurd ho (Nat.not_lt_zero _)) (jH (.low (aH NT.exact (by simp))))
   ·have e2:(wsR w ws0 (l.take (i+1))).ps≠[]:=by rw[hsucc,hps,h0]; simpa using hn
    refine⟨i+1,(show l.length-(i+1)<l.length-i by omega),h,?_⟩
    simp only[if_neg e2]
    rw[hor,hsucc,ar h (by omega)]
    exact aR [1] (WkL.refl _) (.cons rfl .tok .nil) (by decide) (by simp) (fun o ho=>absurd ho (Nat.not_lt_zero _)) (jH (.ltok (ρ:=fun o=>[1].getD o 0) _ 0 (by simp) (bl fun a _=>bL a)))
  ·simp only[if_neg h0]
   refine aY (hn:=fun _=>0) kx (ai [1,1,1,0,1,0] (ag Tryz.f59)) [] MJ _ _ _ (yd w b l (wsR w ws0 (l.take i)).ids (sz || (l.take i).any bY) (wsR w ws0 (l.take i)).ex (wsR w ws0 (l.take i)).ps i _ ?_).out
   simp only[au,dt,an,List.length_map,getD_map default h,← hr]
   rw[if_pos (by omega)]
   refine⟨inl,?_⟩
   rw[if_pos (by rfl)]
   refine⟨w,b,l,r,_,_,_,_,i,hrl,rfl,rfl,w,b,l,r,wsR w ws0 (l.take i),(sz || (l.take i).any bY || bY r),i,sw,h0p r (by rw[hr]; exact aX h),hrl,hsl,rfl,rfl,fun hn=>?_,fun hn=>?_⟩
   ·have e2:(wsR w ws0 (l.take (i+1))).ps≠[]:=by rw[hsucc,tailE hn]; exact h0
    refine⟨i+1,(show l.length-(i+1)<l.length-i by omega),h,?_⟩
    simp only[if_neg e2]
    rw[hor,hsucc,tailE hn,ar h (by omega)]
    exact aR [0] (WkL.refl _) (.cons rfl .tok .nil) (by decide) (by simp) (fun o ho=>absurd ho (Nat.not_lt_zero _)) (jH (.ltok (ρ:=fun o=>[0].getD o 0) _ 0 (by simp) (bl fun a _=>bL a)))
   ·have e2:(wsR w ws0 (l.take (i+1))).ps≠[]:=by rw[hsucc,hps]; exact fun e=>h0 (List.append_eq_nil_iff.1 e).1
    refine⟨i+1,(show l.length-(i+1)<l.length-i by omega),h,?_⟩
    simp only[if_neg e2]
    rw[hor,hsucc,ar h (by omega)]
    exact aR [2] (WkL.refl _) (.cons rfl .tok .nil) (by decide) (by simp) (fun o ho=>absurd ho (Nat.not_lt_zero _)) (jH (.ltok (ρ:=fun o=>[2].getD o 0) _ 0 (by simp) (bl fun a _=>bL a)))
 ·have hil:i=l.length:=by omega
  subst hil
  have wk:∀(x:PV) (ids sz ex:Bool),WkL [.list (w.map mtc) .no,.list (b.map rrc) .no,.list (l.map rrc) .no,x,.bool ids,.bool sz,.bool ex,.I l.length] [.list (w.map mtc) .no,.list (b.map rrc) .no,.list (l.map rrc) .no,.any,.bool ids,.bool sz,.bool ex,.I l.length]:=fun x ids sz ex=> .cons (.refl _) (.cons (.refl _) (.cons (.refl _) (.cons (fun _ _ v _=> .any v) (.cons (.refl _) (.cons (.refl _) (.cons (.refl _) (.cons (.refl _) .nil)))))))
  by_cases h0:(wsR w ws0 (l.take l.length)).ps=[]
  ·simp only[if_pos h0]
   refine aY (hn:=fun _=>0) kx (ai [1,1,1,0,1,0] (ag Tryz.f59)) [] Mz _ _ _ (yG w b l _ _ _ l.length _ ?_).out
   simp only[au,dt,List.length_map]
   rw[if_neg (by omega)]
   refine⟨_,_,aR [] (wk _ _ _ _) .nil (by decide) (by simp) (fun o ho=>absurd ho (Nat.not_lt_zero _)) (jH (.low .any)),?_⟩
   rw[List.take_length]
   exact hQ
  ·simp only[if_neg h0]
   refine aY (hn:=fun _=>0) kx (ai [1,1,1,0,1,0] (ag Tryz.f59)) [] MJ _ _ _ (yd w b l _ _ _ _ l.length _ ?_).out
   simp only[au,dt,List.length_map]
   rw[if_neg (by omega)]
   refine⟨_,_,aR [] (wk _ _ _ _) .nil (by decide) (by simp) (fun o ho=>absurd ho (Nat.not_lt_zero _)) (jH (.low .any)),?_⟩
   rw[List.take_length]
   exact hQ
end Go.Proofs.YtenaelaapdhbdaaGreatDoor
