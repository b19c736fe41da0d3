/-
  What the program's and the document's functions do, over plain values, part 5.
-/
import Derived.Test.YtenaelaapdhbdaaGreatDoorB1
import Derived.Test.YtenaelaapdhbdaaGreatDoorProg
namespace Go.Proofs.YtenaelaapdhbdaaGreatDoor
open Go Go.AM Go.Proofs
def sR (args:List PV) (H:ae) (K:PV→Prop):Prop:=∃(q r:Nat) (w:List Mt) (m t:Int),ah args [.ptr q 0,.U t]∧cm H q r (rkM (aq w) m)∧MO w m∧K (.tup [(gM w t).pv,.bool (bz Mt.id w t)])
theorem sL:SpK 9 (.read sR):=by
 rintro args H K ⟨q,r,w,m,t,he,hb,ro,hk⟩
 have he:args=_:=he
 subst he
 refine⟨_,jW aj hb cU (sI _ _) (IW w m t _ ⟨1,aq w,m,t,rfl,rfl,ro.ok,?_⟩),hk⟩
 rw[kS ro.ok,iu ro.ok]
 exact⟨gM w t,.no,.no,rfl,ro.I8 t,rfl,_,rfl⟩
def seV (l:List Se) (cap b:Nat):PV:=if l=[] then .E else .arr b 0 l.length cap
def seG (l:List Se) (J:List PV):Ob:=if l=[] then .dead else .cells (flS l++J)
theorem ArS.of {o:Nat} {l:List Se} {y:PV} {g:Ob} (h:ArS o l y g):∃ cap J,y=seV l cap o∧g=seG l J∧∀ o',ArS o' l (seV l cap o') (seG l J):=by
 rcases h with⟨rfl,rfl,rfl⟩|⟨hn,cap,J,rfl,rfl,h1,h2⟩
 ·exact⟨0,[],rfl,rfl,fun o'=> .inl ⟨rfl,rfl,rfl⟩⟩
 ·refine⟨cap,J,by unfold seV; rw[if_neg hn],by unfold seG; rw[if_neg hn],fun o'=> .inr ⟨hn,cap,J,by unfold seV; rw[if_neg hn],by unfold seG; rw[if_neg hn],h1,h2⟩⟩
theorem Gv (l:List Se) (cap:Nat) {ρ:Nat→Nat} {n b b':Nat} (hb:b<n) (hρ:ρ b=b'):Ren ρ n (seV l cap b) (seV l cap b'):=by
 unfold seV
 split
 ·exact .low (aH NT.exact (by simp))
 ·rw[← hρ]; exact .arr _ _ _ _ hb
theorem EO {o:Nat} {l:List Se} {cap:Nat} {J:List PV} (h:ArS o l (seV l cap o) (seG l J)) {ρ:Nat→Nat} {n:Nat}:dB ρ n (seG l J) (seG l J):=eK h.mG
def TTA:Tab:=TMM [(36,.heap Bm)]
theorem Mx:TbK TTA:=EH (.cons GO (.nil _ _))
theorem BP (w:List Mt) (m t:Int):∀(K:PV→ae→Prop),(∃(q:Nat) (l:List RwM) (most:Int) (t_1:Int),by refine(?_:_→Prop) [PV.U (Mt.id (bF l t_1)),.I (Mt.md (bF l t_1)),.U (Mt.ins (bF l t_1)),.list (List.map rrc (Mt.rows (bF l t_1))) .no,.list (List.map stc (Mt.aa (bF l t_1))) .no]; exact fun b=>ah [.ptr 1 0,.U t] [.ptr q 0,.U t_1]∧bU [.cells [.ptr 1 0],.abs (rkM (aq w) m),.cells [.U 0,.I 0,.U 0,.E,.E]] q (rkM l most)∧Ok l most∧∃(c:Mt) (t1:Tail) (t2:Tail),ah [.agg b] [.agg [.U c.id,.I c.md,.U c.ins,.list (c.rows.map rrc) t1,.list (c.aa.map stc) t2]]∧Mt.Sm c∧∀(y:PV),by refine(?_:_→Prop) [PV.U c.id,.I c.md,.U c.ins,.list (c.rows.map rrc) .exact,y]; exact fun a=>∀(g:Ob),ArS 4 c.aa y g→br (5 == 5 && List.all a PV.one && true && cW 0 2 0 5) (K (.tup [.agg a,.bool (has l t_1)]) [.cells [.ptr 1 0],.abs (rkM (aq w) m),.cells a,.cells b,g]) False)→AcK 9 [.ptr 0 0,.U t] [.cells [.ptr 1 0],.abs (rkM (aq w) m)] K:=fun K h=>acW (T:=TTA) (L:=[]) (fun o=>match o.dst with|some 21=>1|_=>0) Tryz.func9 (Mx) (LOk.nil _ _ _ _ _) h
def K9 (args:List PV) (H:ae) (K:PV→ae→Prop):Prop:=∃(q r:Nat) (w:List Mt) (m t:Int),ah args [.ptr q 0,.U t]∧cm H q r (rkM (aq w) m)∧MO w m∧
 ∀(y:PV) (g:Ob),ArS H.length (gM w t).aa y g→K (.tup [ez (gM w t) (.list ((gM w t).rows.map rrc) .exact) y,.bool (bz Mt.id w t)]) (H++[g])
theorem FZ:SpK 9 (.heap K9):=by
 rintro args H K ⟨q,r,w,m,t,he,hb,ro,hk⟩
 have he:args=_:=he
 subst he
 refine wj aj hb cU (BP w m t _ ⟨1,aq w,m,t,rfl,rfl,ro.ok,?_⟩)
 rw[kS ro.ok,iu ro.ok]
 refine⟨gM w t,.no,.no,rfl,ro.I8 t,fun y g hA=>?_⟩
 rw[au,if_pos (by simp only[List.all_cons,hA.one]; rfl)]
 obtain⟨cap,J,rfl,rfl,hA'⟩:=hA.of
 refine⟨1,fun b=> .tup [ez (gM w t) (.list ((gM w t).rows.map rrc) .exact) (seV (gM w t).aa cap b),.bool (bz Mt.id w t)],fun _=>[seG (gM w t).aa J],4,rkM (aq w) m,⟨fun _=>rfl,fun ρ n b b' hn hρ=>?_,fun ρ n b b' hn hρ k a hk=>?_⟩,rfl,by decide,rfl,rfl,fun k a hk=>?_,?_⟩
 ·exact Ren.M4 (.cons (Ren.iS (.cons (.low (.int _ _)) (.cons (.low (.int _ _)) (.cons (.low (.int _ _)) (.cons (.low (mN bJ _)) (.cons (Gv _ _ (by omega) (hρ 0 (by decide))) .nil)))))) (.cons (.low (.bool _)) .nil))
 ·have k1:=(List.getElem?_eq_some_iff.1 hk).1
  simp at k1
  subst k1
  cases hk
  exact⟨_,rfl,EO (hA' 0),fun h=>h⟩
 ·have k1:=(List.getElem?_eq_some_iff.1 hk).1
  simp at k1
  subst k1
  cases hk
  rfl
 ·rw[l8 hb.2]
  exact hk _ _ (hA' H.length)
theorem Fb (n:Int)  (K:PV→ae→Prop) (h:∃(n_1:Int),ah [.I n] [.I n_1]∧K (.ptr 1 0) [.abs (rkM [] (mxI 0 n_1)),.cells [.ptr 0 0]]):AcK 21 [.I n] [] K:=
 acW (T:=TT0) (L:=[]) (fun _=>0) Tryz.func21 (sH) (LOk.nil _ _ _ _ _) h
def jk (c:Mt) (p:Int):Se:=if inM c p=true then c.aa.getD (c.aa.findIdx (isP p)) default else default
theorem Iu {n:Nat} (s:Se) (b:Bool):Low n (.tup [.agg (stc s),.bool b]):= .tup _ (bn (.agg _ (dc s)) (.bool _))
theorem Mi {c:Mt} {p:Int} (h:inM c p=true):c.aa.findIdx (isP p)<c.aa.length∧ixS c.aa p=(c.aa.findIdx (isP p):Int):=by
 unfold inM at h
 have h1:=List.any_eq_true.1 h
 have:c.aa.findIdx (isP p)<c.aa.length:=List.findIdx_lt_length_of_exists h1
 exact⟨this,by unfold ixS; rw[if_pos this]⟩
def vI (args:List PV) (H:ae) (K:PV→ae→Prop):Prop:=∃ n:Int,ah args [.I n]∧K (.ptr (H.length+1) 0) (H++[.abs (rkM (aq []) (mxI 0 n)),.cells [.ptr H.length 0]])
theorem yM:SpK 21 (.heap vI):=by
 rintro args H K ⟨n,he,hk⟩
 have he:args=_:=he
 subst he
 exact aM (wD aj cU (Fb n _ ⟨n,rfl,rfl,rfl⟩)) fun x H' e=>by obtain⟨rfl,rfl⟩:=e; exact hk
theorem Kc (l:List Rr) (a b:Nat) (i:Nat):(by refine(?_:_→_→_→_→Prop) (List.getD (l.map rrc) (Int.toNat (i:Int)) []) (PV.list (l.map rrc) .no) (PV.I (wI ((i:Int)+1))) (PV.I l.length); exact fun c g h j=>by refine(?_:_→_→_→Prop) [Ob.cells [.I (cI c 0),.list (cL c 1) (cT c 1),.I (cI c 2),.I (cI c 3)]] [PV.I a,.I b,g,j,.I i] (↑(List.length (cL c 1)):Int); exact fun d f k=>∀(R:Ex→List PV→ae→Prop),(br (decide ((i:Int)<(l.length:Int))) (InL (l.map rrc) 4 (i:Int)∧br (true && aD [.int .i64,.list,.int .i64,.int .i64] 0 c) (br (cI c 0 == 1) (R .normal [.I (wI ((a:Int)+k)),.I b,g,j,h] d) (br (cI c 0 == 2) (R .normal [.I a,.I (wI ((b:Int)+k)),g,j,h] d) (R .normal [.I a,.I b,g,j,h] d))) False) (R (.exit 0) f []))→Holds (wpK [] [] (fun _=>0) (ai [1,0,1,0] (ag Tryz.f88)) [] (ak [2,3,6,7,8] f) [] (fun ex e H=>R ex (List.map e [2,3,6,7,8]) H)):Prop):=fun R h=>hoE h
theorem kG {l:List Rr} {t:Int} {k:Nat} (h:k<l.length):taken (l.take (k+1)) t=taken (l.take k) t+if(l.getD k default).tm=t then(l.getD k default).pl.length else 0:=by
 unfold taken; rw[aJ default h,List.filter_append,List.map_append,List.sum_append]
 congr 1
 by_cases c:(l.getD k default).tm=t
 ·rw[if_pos c,List.filter_cons_of_pos (by simpa using c)]; simp
 ·rw[if_neg c,List.filter_cons_of_neg (by simpa using c)]; simp
theorem gP (l:List Rr) (t:Int):taken l t≤tot l:=by
 induction l with
 | nil=>exact Nat.le_refl _
 | cons r l ih=>
  unfold taken tot at *
  by_cases c:r.tm=t
  ·rw[List.filter_cons_of_pos (by simpa using c)]; simp only[List.map_cons,List.sum_cons]; omega
  ·rw[List.filter_cons_of_neg (by simpa using c)]; simp only[List.map_cons,List.sum_cons]; omega
def JC:LSp:=fun e H Q=>∃(l:List Rr),l.length≤1000000∧tot l≤1000000∧ah (List.map e [2,3,6,7,8]) [.I 0,.I 0,.list (l.map rrc) .no,.I l.length,.I 0]∧av H []∧Q (.exit 0) (ak [2,3,6,7,8] [.I (taken (l) 1),.I (taken (l) 2),.list (l.map rrc) .no,.I l.length,.I l.length]) []
theorem Ek:∀ e H Q,JC e H Q→AwK Tryz.f88.ntmps (.loop (ai [1,0,1,0] (ag Tryz.f88))) Q e H:=by
 rintro e H Q ⟨l,hl,ht,he,hH,hQ⟩
 refine fF (hn:=fun _=>0) aj (.nil _ _) (.nil _ _ _ _ _) (σ:=Nat) [2,3,6,7,8] (fun i=>i≤l.length) (fun i=>[.I (taken (l.take i) 1),.I (taken (l.take i) 2),.list (l.map rrc) .no,.I l.length,.I i]) (fun _=>[]) (fun i=>l.length-i) 0 (Nat.zero_le _) (by rw[he]; rfl) hH ?_
 intro i hi
 have hi:i≤l.length:=hi
 have hH:H=[]:=hH
 subst hH
 have lidv:∀(a b:Nat) (i:Nat),∀ v∈([.I a,.I b,.list (l.map rrc) .no,.I l.length,.I i]:List PV),Lid ([]:ae).length v:=by
  intro a b i v hv
  simp only[List.mem_cons,List.not_mem_nil,or_false] at hv
  rcases hv with rfl|rfl|rfl|rfl|rfl<;>first|exact .low (.int _ _)|exact .low (aR _)
 have lid0:gN ([]:ae).length []:=fun o cs h=>by simp at h
 refine Kc l (taken (l.take i) 1) (taken (l.take i) 2) i _ ?_
 have h1:=gP (l.take i) 1
 have h2:=gP (l.take i) 2
 have h3:=fW (l:=l) i
 simp only[au,dt,an,ee]
 by_cases h:i<l.length
 ·rw[if_pos (by omega)]
  have e1:=kG (t:=1) h
  have e2:=kG (t:=2) h
  have h4:=fW (l:=l) (i+1)
  have h5:=gP (l.take (i+1)) 1
  have h6:=gP (l.take (i+1)) 2
  obtain⟨r,hr⟩:∃ r,r=l.getD i default:=⟨_,rfl⟩
  simp only[getD_map default h,← hr]
  rw[← hr] at e1 e2
  have c0:cI (rrc r) 0=r.tm:=rfl
  have c1:cL (rrc r) 1=r.pl.map u1:=rfl
  simp only[c0,c1,List.length_map,beq_iff_eq]
  refine⟨h,?_⟩
  rw[if_pos (by rfl)]
  have fin:∀ a b:Nat,a=taken (l.take (i+1)) 1→b=taken (l.take (i+1)) 2→∃ s':Nat,l.length-s'<l.length-i∧s'≤l.length∧ej ([]:ae).length [.I a,.I b,.list (l.map rrc) .no,.I l.length,.I (wI ((i:Int)+1))] [.cells (rrc r)] [.I (taken (l.take s') 1),.I (taken (l.take s') 2),.list (l.map rrc) .no,.I l.length,.I s'] []:=by
   rintro a b rfl rfl
   refine⟨i+1,by omega,h,?_⟩
   rw[ar h (by omega)]
   exact eI (X:=[]) (G:=[_]) lid0 (lidv _ _ _) (Nat.le_refl _)
  by_cases k1:r.tm=1
  ·rw[if_pos k1]
   rw[if_pos k1] at e1
   rw[if_neg (by omega)] at e2
   have e3:wI ((taken (l.take i) 1:Int)+(r.pl.length:Int))=((taken (l.take i) 1+r.pl.length:Nat):Int):=by rw[aF (by omega) (by omega)]; omega
   rw[e3]
   exact fin _ _ e1.symm e2.symm
  ·rw[if_neg k1]
   rw[if_neg k1] at e1
   by_cases k2:r.tm=2
   ·rw[if_pos k2]
    rw[if_pos k2] at e2
    have e3:wI ((taken (l.take i) 2:Int)+(r.pl.length:Int))=((taken (l.take i) 2+r.pl.length:Nat):Int):=by rw[aF (by omega) (by omega)]; omega
    rw[e3]
    exact fin _ _ e1.symm e2.symm
   ·rw[if_neg k2]
    rw[if_neg k2] at e2
    exact fin _ _ e1.symm e2.symm
 ·rw[if_neg (by omega)]
  have:i=l.length:=by omega
  subst this
  rw[List.take_length]
  exact⟨_,_,eI (X:=[]) (G:=[]) lid0 (lidv _ _ _) (Nat.le_refl _),hQ⟩
theorem Kg (l:List Rr):∀(K:PV→Prop),(∃(l_1:List Rr),l_1.length≤1000000∧tot l_1≤1000000∧ah [.I 0,.I 0,.list (l.map rrc) .no,.I (↑(List.length (l.map rrc)):Int),.I 0] [.I 0,.I 0,.list (l_1.map rrc) .no,.I l_1.length,.I 0]∧av [] []∧K (.tup [.I (↑(taken l_1 1):Int),.I (↑(taken l_1 2):Int)]))→AcK 88 [.list (l.map rrc) .no] [] (fun x _=>K x):=fun K h=>acW (T:=[]) (L:=[([1,0,1,0],JC)]) (fun _=>0) Tryz.func88 (aX.nil _ _) (.cons suE Ek (.nil _ _ _ _ _)) h
def xz (args:List PV) (K:PV→Prop):Prop:=∃(l:List Rr) (tl:Tail),ah args [.list (l.map rrc) tl]∧l.length≤1000000∧tot l≤1000000∧K (.tup [.I (taken l 1),.I (taken l 2)])
theorem Cr:SpK 88 (.pure xz):=by
 rintro args K ⟨l,tl,he,h1,h2,hk⟩
 have he:args=_:=he
 subst he
 exact bu aj (.cons (.list _ _) .nil) (bw (aR l)) (.tup _ (bn (.int _ _) (.int _ _))) (Kg l (fun x=>x = .tup [.I (taken l 1),.I (taken l 2)]) ⟨l,h1,h2,(by show _=_; rw[List.length_map]),rfl,rfl⟩) hk
theorem lJ (H:ae) (n:Int)  (K:PV→ae→Prop) (h:br (decide (n<0)) False (br (decide (wI (n-0)>0)) ((iI 0≤0∧iI 0≤0∧iI 0≤0∧iI 0≤0∧uni 4 [])∧0<wI (n-0)∧Int.toNat (wI (n-0))*48≤140737488355328∧∀(c:Nat),Int.toNat (wI (n-0))≤c→(iI 0≤0∧iI 0≤0∧0≤(c:Int)∧(c:Int)≤(c:Int))∧K (.arr (List.length H) (if Int.toNat (c:Int)=0 then 0 else 0) 0 (Int.toNat (c:Int)-0)) (H++[.cells (List.flatten (List.replicate c [.I 0,.E,.I 0,.I 0]))])) (K (.E) H))):AcK 109 [.E,.I n] H K:=
 acW (T:=[]) (L:=[]) (fun o=>match o.dst with|some 22=>8|_=>0) Tryz.func109 (aX.nil _ _) (LOk.nil _ _ _ _ _) h
def nI (args:List PV) (H:ae) (K:PV→ae→Prop):Prop:=∃ n:Nat,ah args [.E,.I n]∧n≤1000000∧(n=0→K (.E) H)∧(0<n→∀(c:Nat) (J:List PV),n≤c→aK J (c*4)→K (.arr H.length 0 0 c) (H++[.cells J]))
theorem pK:SpK 109 (.heap nI):=by
 rintro args H K ⟨n,he,hn,h0,h1⟩
 have he:args=_:=he
 subst he
 refine lJ H n K ?_
 have e:wI ((n:Int)-0)=n:=by rw[aF (by omega) (by omega)]; omega
 simp only[au,dt,e,an]
 rw[if_neg (by omega)]
 by_cases c:n=0
 ·rw[if_neg (by omega)]; exact h0 c
 ·rw[if_pos (by omega)]
  refine⟨⟨by decide,by decide,by decide,by decide,fun _ h=>nomatch h⟩,by omega,by omega,fun k hk=>⟨⟨by decide,by decide,by omega,by omega⟩,?_⟩⟩
  rw[ite_self]
  exact h1 (by omega) k _ hk (ie k)
def lcs (l:List Rr):List PV:=[.list (l.map rrc) .no]
theorem lu (l:List Rr):(lcs l).length=1:=rfl
theorem jT {n:Nat} (l:List Rr):∀ y∈lcs l,Low n y:=bw (aR l)
theorem cy (l:List (List Rr)) (i:Nat):InL (l.map lcs) 1 (i:Int)=(i<l.length):=dD lu (by decide) l i
def bg (ls:List (List Rr)):Nat:=ls.flatten.length
theorem cQ {ls:List (List Rr)} {k:Nat} (h:k<ls.length):bg (ls.take (k+1))=bg (ls.take k)+(ls.getD k []).length:=by
 unfold bg; rw[aJ [] h,List.flatten_append]; simp
theorem cw (ls:List (List Rr)) (k:Nat):bg (ls.take k)≤bg ls:=by
 unfold bg
 conv=>rhs; rw[← List.take_append_drop k ls,List.flatten_append]
 rw[List.length_append]; omega
def TCG:Tab:=[(109,.heap nI)]
theorem oM:TbK TCG:= .cons pK (.nil _ _)
theorem oX (ls:List (List Rr)) (n i:Nat):(by refine(?_:_→_→_→Prop) (PV.list (ls.map lcs) .no) (List.getD (ls.map lcs) (Int.toNat (i:Int)) []) (PV.I ls.length); exact fun a b f=>by refine(?_:_→_→Prop) [a,.I n,a,f,.I i] ((n:Int)+(↑(List.length (cL b 0)):Int)); exact fun c d=>∀(R:Ex→List PV→ae→Prop),(br (decide ((i:Int)<(ls.length:Int))) (InL (ls.map lcs) 1 (i:Int)∧br (true && aD [.list] 0 b) (br (decide (wI d<0)) False (R .normal [a,.I (wI d),a,f,.I (wI ((i:Int)+1))] [])) False) (R (.exit 0) c []))→Holds (wpK [] [] (fun _=>0) (ai [1,1,0,1,0] (ag Tryz.f89)) [] (ak [0,3,9,10,11] c) [] (fun ex e H=>R ex (List.map e [0,3,9,10,11]) H)):Prop):=fun R h=>hoE h
theorem ld (ls:List (List Rr)) (i:Nat):(by refine(?_:_→_→_→_→Prop) (List.getD (ls.map lcs) (Int.toNat (i:Int)) []) (PV.list (ls.map lcs) .no) (PV.I ls.length) (PV.I (wI ((i:Int)+1))); exact fun a c d f=>by refine(?_:_→Prop) [PV.E,c,d,.I i]; exact fun b=>∀(R:Ex→List PV→ae→Prop),(br (decide ((i:Int)<(ls.length:Int))) (InL (ls.map lcs) 1 (i:Int)∧br (true && aD [.list] 0 a) (aG [] (cL a 0) 4 48∧List.all (List.flatten (cL a 0)) PV.one=true∧(cL a 0=[]→R .normal [.E,c,d,f] [])∧(cL a 0≠[]→R .normal [.list ([]++cL a 0) (.tok 0),c,d,f] [.tok])) False) (R (.exit 2) b []))→Holds (wpK [] [] (fun o=>match o.dst with|some 33=>4|_=>0) (ai [1,1,1,1,0,1,0] (ag Tryz.f89)) [] (ak [6,25,26,27] b) [] (fun ex e H=>R ex (List.map e [6,25,26,27]) H)):Prop):=fun R h=>hoE h
theorem kZ (ls:List (List Rr)) (acc:List Rr) (J:List PV) (cap i:Nat):(by refine(?_:_→_→_→_→Prop) (List.getD (ls.map lcs) (Int.toNat (i:Int)) []) [Ob.cells (flR acc++J)] (PV.list (ls.map lcs) .no) (PV.I ls.length); exact fun a f g h=>by refine(?_:_→_→_→Prop) [PV.arr 0 0 acc.length cap,g,h,.I i] (List.flatten (cL a 0)) (acc.length+List.length (cL a 0)); exact fun b c d=>∀(R:Ex→List PV→ae→Prop),(br (decide ((i:Int)<(ls.length:Int))) (InL (ls.map lcs) 1 (i:Int)∧br (true && aD [.list] 0 a) ((acc.length≤cap∧0+cap*4≤List.length (flR acc++J)∧List.length c=List.length (cL a 0)*4∧List.all c PV.one=true∧d*48≤140737488355328)∧acc.length+List.length (cL a 0)≤cap∧R .normal [.arr 0 0 d cap,g,h,.I (wI ((i:Int)+1))] [.cells (over (flR acc++J) (0+acc.length*4) c)]) False) (R (.exit 2) b f))→Holds (wpK [] [] (fun o=>match o.dst with|some 33=>3|_=>0) (ai [1,1,1,1,0,1,0] (ag Tryz.f89)) [] (ak [6,25,26,27] b) f (fun ex e H=>R ex (List.map e [6,25,26,27]) H)):Prop):=fun R h=>hoE h
theorem lF (l k:List Rr):flR (l++k)=flR l++flR k:=by unfold flR; rw[List.map_append,List.flatten_append]
theorem jO {l:List Rr}:∀ y∈flR l,y.one=true:=by
 intro y hy
 obtain⟨c,h2,h3⟩:=List.mem_flatten.1 hy
 obtain⟨a,_,rfl⟩:=List.mem_map.1 h2
 exact rD a y h3
theorem gV {acc l:List Rr} {J:List PV}:over (flR acc++J) (acc.length*4) (flR l)=flR (acc++l)++J.drop (l.length*4):=by
 unfold over
 rw[List.take_left' (bR acc),lF,List.append_assoc,List.append_assoc]
 congr 2
 rw[List.drop_append,bR,bR,List.drop_of_length_le (by rw[bR]; omega),List.nil_append,show acc.length*4+l.length*4-acc.length*4=l.length*4 by omega]
def nv:LSp:=fun e H Q=>∃(ls:List (List Rr)),ls.length≤1000000∧bg ls≤1000000∧ah (List.map e [0,3,9,10,11]) [.list (ls.map lcs) .no,.I 0,.list (ls.map lcs) .no,.I ls.length,.I 0]∧av H []∧Q (.exit 0) (ak [0,3,9,10,11] [.list (ls.map lcs) .no,.I (bg ls),.list (ls.map lcs) .no,.I ls.length,.I ls.length]) []
theorem jl:∀ e H Q,nv e H Q→AwK Tryz.f89.ntmps (.loop (ai [1,1,0,1,0] (ag Tryz.f89))) Q e H:=by
 rintro e H Q ⟨ls,hl,hs,he,hH,hQ⟩
 refine aB (hn:=fun _=>0) aj (.nil _ _) (.nil _ _ _ _ _) (σ:=Nat) [0,3,9,10,11] (fun i=>i≤ls.length) (fun i=>[.list (ls.map lcs) .no,.I (bg (ls.take i)),.list (ls.map lcs) .no,.I ls.length,.I i]) (fun _=>[]) (fun i=>ls.length-i) 0 (Nat.zero_le _) (by rw[he]; rfl) hH ?_
 intro i hi
 have hi:i≤ls.length:=hi
 refine oX ls (bg (ls.take i)) i _ ?_
 have h3:=cw ls i
 simp only[au,dt,an,cy]
 by_cases h:i<ls.length
 ·rw[if_pos (by omega)]
  have h4:=cw ls (i+1)
  have e1:=cQ h
  simp only[getD_map [] h]
  refine⟨h,?_⟩
  rw[if_pos (by rfl)]
  have c0:cL (lcs (ls.getD i [])) 0=(ls.getD i []).map rrc:=rfl
  have e2:wI ((bg (ls.take i):Int)+(((ls.getD i []).map rrc).length:Int))=(bg (ls.take (i+1)):Int):=by rw[List.length_map,aF (by omega) (by omega)]; omega
  rw[c0,e2,if_neg (by omega)]
  exact⟨i+1,(show ls.length-(i+1)<ls.length-i by omega),h,by rw[ar h (by omega)],[],rfl,Nat.le_refl _,.inl rfl⟩
 ·rw[if_neg (by omega)]
  have:i=ls.length:=by omega
  subst this
  rw[List.take_length]
  exact hQ
def nw:LSp:=fun e H Q=>∃(ls:List (List Rr)),ls.length≤1000000∧bg ls≤1000000∧
 ((bg ls=0∧ah (List.map e [6,25,26,27]) [.E,.list (ls.map lcs) .no,.I ls.length,.I 0]∧av H []∧Q (.exit 2) (ak [6,25,26,27] [.E,.list (ls.map lcs) .no,.I ls.length,.I ls.length]) [])∨
  (∃(cap:Nat) (J:List PV),bg ls≤cap∧aK J (cap*4)∧ah (List.map e [6,25,26,27]) [.arr 0 0 0 cap,.list (ls.map lcs) .no,.I ls.length,.I 0]∧av H [.cells J]∧∀ J',aK J' ((cap-ls.flatten.length)*4)→Q (.exit 2) (ak [6,25,26,27] [.arr 0 0 ls.flatten.length cap,.list (ls.map lcs) .no,.I ls.length,.I ls.length]) [.cells (flR ls.flatten++J')]))
theorem jz:∀ e H Q,nw e H Q→AwK Tryz.f89.ntmps (.loop (ai [1,1,1,1,0,1,0] (ag Tryz.f89))) Q e H:=by
 rintro e H Q ⟨ls,hl,hs,(⟨h0,he,hH,hQ⟩|⟨cap,J,hc,hJ,he,hH,hQ⟩)⟩
 ·refine aB (hn:=fun o=>match o.dst with|some 33=>4|_=>0) aj (.nil _ _) (.nil _ _ _ _ _) (σ:=Nat) [6,25,26,27] (fun i=>i≤ls.length) (fun i=>[.E,.list (ls.map lcs) .no,.I ls.length,.I i]) (fun _=>[]) (fun i=>ls.length-i) 0 (Nat.zero_le _) (by rw[he]; rfl) hH ?_
  intro i hi
  have hi:i≤ls.length:=hi
  refine ld ls i _ ?_
  simp only[au,dt,an,cy]
  by_cases h:i<ls.length
  ·rw[if_pos (by omega)]
   have h4:=cw ls (i+1)
   have e1:=cQ h
   simp only[getD_map [] h]
   refine⟨h,?_⟩
   rw[if_pos (by rfl)]
   have c0:cL (lcs (ls.getD i [])) 0=(ls.getD i []).map rrc:=rfl
   have c1:ls.getD i []=[]:=List.length_eq_zero_iff.1 (by omega)
   rw[c0,c1]
   exact⟨⟨(fun _ h=>nomatch h),(fun _ h=>nomatch h),by decide⟩,rfl,fun _=>⟨i+1,(show ls.length-(i+1)<ls.length-i by omega),h,by rw[ar h (by omega)],[],rfl,Nat.le_refl _,.inl rfl⟩,fun h=>absurd rfl h⟩
  ·rw[if_neg (by omega)]
   have:i=ls.length:=by omega
   subst this
   exact hQ
 ·refine aB (hn:=fun o=>match o.dst with|some 33=>3|_=>0) aj (.nil _ _) (.nil _ _ _ _ _) (σ:=Nat) [6,25,26,27] (fun i=>i≤ls.length) (fun i=>[.arr 0 0 (ls.take i).flatten.length cap,.list (ls.map lcs) .no,.I ls.length,.I i]) (fun i=>[.cells (flR (ls.take i).flatten++J.drop ((ls.take i).flatten.length*4))]) (fun i=>ls.length-i) 0 (Nat.zero_le _) (by rw[he]; rfl) (by rw[show H=_ from hH]; simp[flR]) ?_
  intro i hi
  have hi:i≤ls.length:=hi
  refine kZ ls (ls.take i).flatten (J.drop ((ls.take i).flatten.length*4)) cap i _ ?_
  simp only[au,dt,an,cy]
  have h3:=cw ls i
  have hJl:=hJ.len
  have h5:(ls.take i).flatten.length≤cap:=Nat.le_trans h3 hc
  by_cases h:i<ls.length
  ·rw[if_pos (by omega)]
   have h4:=cw ls (i+1)
   have e1:=cQ h
   simp only[getD_map [] h]
   refine⟨h,?_⟩
   rw[if_pos (by rfl)]
   have c0:cL (lcs (ls.getD i [])) 0=(ls.getD i []).map rrc:=rfl
   obtain⟨l,hld⟩:∃ l,l=ls.getD i []:=⟨_,rfl⟩
   have e4:(ls.take (i+1)).flatten=(ls.take i).flatten++l:=by rw[aJ [] h,List.flatten_append,hld]; simp
   have e5:(ls.take (i+1)).flatten.length=(ls.take i).flatten.length+l.length:=by rw[e4,List.length_append]
   have e6:(ls.take (i+1)).flatten.length≤cap:=Nat.le_trans h4 hc
   have e7:bg (ls.take (i+1))=(ls.take (i+1)).flatten.length:=rfl
   have e8:(J.drop ((ls.take i).flatten.length*4)).length=(cap-(ls.take i).flatten.length)*4:=by rw[List.length_drop,hJl]; omega
   have e9:(List.map rrc l).flatten.length=l.length*4:=bR l
   rw[c0,← hld]
   simp only[List.length_map,e9]
   refine⟨⟨h5,?_,trivial,List.all_eq_true.2 jO,by omega⟩,by omega,i+1,(show ls.length-(i+1)<ls.length-i by omega),h,by(try dsimp only); rw[ar h (by omega),e5],[],?_,Nat.le_refl _,.inl rfl⟩
   ·rw[List.length_append,bR,e8]; omega
   ·(try dsimp only)
    rw[Nat.zero_add,gV,e4,List.drop_drop,List.append_nil,List.length_append,Nat.add_mul]
  ·rw[if_neg (by omega)]
   have:i=ls.length:=by omega
   subst this
   rw[List.take_length]
   exact hQ _ (hJ.drop.cast (by omega))
theorem gB (ls:List (List Rr)):∀(K:PV→ae→Prop),(∃(ls_1:List (List Rr)),by refine(?_:_→_→Prop) (PV.list (ls_1.map lcs) .no) (PV.I (↑(List.length (ls_1.map lcs)):Int)); exact fun d e=>by refine(?_:_→Prop) [PV.E,d,e,.I 0]; exact fun b=>ls_1.length≤1000000∧bg ls_1≤1000000∧ah [.list (ls.map lcs) .no,.I 0,.list (ls.map lcs) .no,.I (↑(List.length (ls.map lcs)):Int),.I 0] [d,.I 0,d,.I ls_1.length,.I 0]∧av [] []∧∃(n:Nat),ah [.E,.I (↑(bg ls_1):Int)] [.E,.I n]∧n≤1000000∧(n=0→∃(ls:List (List Rr)),ls.length≤1000000∧bg ls≤1000000∧(bg ls=0∧ah b [.E,.list (ls.map lcs) .no,.I ls.length,.I 0]∧av [] []∧K (.E) []∨∃(cap:Nat) (J:List PV),bg ls≤cap∧aK J (cap*4)∧ah b [.arr 0 0 0 cap,.list (ls.map lcs) .no,.I ls.length,.I 0]∧av [] [.cells J]∧∀(J':List PV),aK J' ((cap-ls.flatten.length)*4)→K (.arr 0 0 ls.flatten.length cap) [.cells (flR ls.flatten++J')]))∧(0<n→∀(c:Nat),by refine(?_:_→Prop) [PV.arr 0 0 0 c,d,e,.I 0]; exact fun a=>∀(J:List PV),n≤c→aK J (c*4)→∃(ls:List (List Rr)),ls.length≤1000000∧bg ls≤1000000∧(bg ls=0∧ah a [.E,.list (ls.map lcs) .no,.I ls.length,.I 0]∧av [.cells J] []∧K (.E) []∨∃(cap:Nat) (J_1:List PV),bg ls≤cap∧aK J_1 (cap*4)∧ah a [.arr 0 0 0 cap,.list (ls.map lcs) .no,.I ls.length,.I 0]∧av [.cells J] [.cells J_1]∧∀(J':List PV),aK J' ((cap-ls.flatten.length)*4)→K (.arr 0 0 ls.flatten.length cap) [.cells (flR ls.flatten++J')])))→AcK 89 [.list (ls.map lcs) .no] [] K:=fun K h=>acW (T:=TCG) (L:=[([1,1,0,1,0],nv),([1,1,1,1,0,1,0],nw)]) (fun _=>0) Tryz.func89 (oM) (.cons suE jl (.cons suE jz (.nil _ _ _ _ _))) h
theorem tH (ls:List (List Rr)) (hl:ls.length≤1000000) (hs:bg ls≤1000000):AcK 89 [.list (ls.map lcs) .no] [] (fun x _=>x = .list (ls.flatten.map rrc) .no):=by
 have e0:(List.map lcs ls).length=ls.length:=List.length_map _
 by_cases c:bg ls=0
 ·refine a9 (gB ls _ ⟨ls,hl,hs,(by show _=_; rw[e0]),rfl,bg ls,rfl,hs,fun _=>⟨ls,hl,hs,.inl ⟨c,(by show _=_; rw[e0]),rfl,?_⟩⟩,fun h=>absurd c (by omega)⟩)
  have e:ls.flatten=[]:=List.length_eq_zero_iff.1 c
  rw[e]
  exact⟨_,.list _ _,rfl⟩
 ·refine bV (gB ls _ ⟨ls,hl,hs,(by show _=_; rw[e0]),rfl,bg ls,rfl,hs,fun h=>absurd h c,fun h cap J hc hJ=>⟨ls,hl,hs,.inr ⟨cap,J,hc,hJ,(by show _=_; rw[e0]),rfl,fun J' hJ'=>?_⟩⟩⟩)
  refine⟨0,0,4,[],J',ls.flatten.map rrc,.list (ls.flatten.map rrc) .no,[.dead],rfl,rfl,b8 fA _,⟨rfl,fun i b hb=> .inl ?_⟩,?_,rfl⟩
  ·have k1:=(List.getElem?_eq_some_iff.1 hb).1
   simp at k1
   subst k1
   cases hb; rfl
  ·have:=Fz.arr (o:=0) (off:=0) (es:=ls.flatten.map rrc) cap (by rw[List.length_map]; exact hc)
   rw[List.length_map] at this
   exact this
def nO (args:List PV) (K:PV→Prop):Prop:=∃(a b:List Rr),ah args [.list [[.list (a.map rrc) .no],[.list (b.map rrc) .no]] .exact]∧a.length+b.length≤1000000∧K (.list ((a++b).map rrc) .no)
theorem pC:SpK 89 (.pure nO):=by
 rintro args K ⟨a,b,he,h,hk⟩
 have he:args=_:=he
 subst he
 have hf:[a,b].flatten=a++b:=by simp
 have hl:=tH [a,b] (by simp) (by unfold bg; rw[hf,List.length_append]; exact h)
 rw[hf] at hl
 exact bu aj (.cons (.list _ _) .nil) (bw (bq jT [a,b])) (aR _) hl hk
def TWR:Tab:=[(50,.pure lg),(87,.pure JE),(62,.read EB),(89,.pure nO),(88,.pure xz)]
theorem kI:TbK TWR:= .cons pc (.cons Ku (.cons Ee (.cons pC (.cons Cr (.nil _ _)))))
structure WS where
 ids:Bool
 ex:Bool
 ps:List Int
def ws1 (w:List Mt) (s:WS) (p:Int):WS:=⟨s.ids || !aC p,s.ex || cJ s.ps p || (ofM w p != 0),s.ps++[p]⟩
def wsP (w:List Mt) (s:WS) (l:List Int):WS:=l.foldl (ws1 w) s
def wsR (w:List Mt) (s:WS) (l:List Rr):WS:=l.foldl (fun s r=>wsP w s r.pl) s
def bZ (r:Rr):Bool:=(r.tm != 1 && r.tm != 2) || decide (r.pl.length<1) || decide (r.pl.length>4)
theorem k9 (w:List Mt) (s:WS) {l:List Int} {k:Nat} (h:k<l.length):wsP w s (l.take (k+1))=ws1 w (wsP w s (l.take k)) (l.getD k 0):=by
 unfold wsP; rw[aJ 0 h,List.foldl_append]; rfl
theorem uG (w:List Mt) (s:WS) {l:List Rr} {k:Nat} (h:k<l.length):wsR w s (l.take (k+1))=wsP w (wsR w s (l.take k)) (l.getD k default).pl:=by
 unfold wsR; rw[aJ default h,List.foldl_append]; rfl
theorem fc (w:List Mt):∀(l:List Int) (s:WS),(wsP w s l).ps=s.ps++l
 | [],s=>by simp[wsP]
 | p::l,s=>by
  show(wsP w (ws1 w s p) l).ps=_
  rw[fc w l]; simp[ws1]
theorem sU (w:List Mt):∀(l:List Rr) (s:WS),(wsR w s l).ps.length=s.ps.length+tot l
 | [],s=>rfl
 | r::l,s=>by
  show(wsR w (wsP w s r.pl) l).ps.length=_
  rw[sU w l,fc,List.length_append]
  unfold tot; simp only[List.map_cons,List.sum_cons]; omega
theorem bnf {b:Bool} (h:¬ b=false):b=true:=by cases b; exact absurd rfl h; rfl
theorem tA (w:List Mt) (m:Int) (b l:List Rr) (r:Rr) (ids sz ex:Bool) (i k:Nat):(by refine(?_:_→_→_→_→_→_→_→_→_→Prop) (PV.list (l.map rrc) .no) (PV.list (r.pl.map u1) .no) (PV.I (wI ((k:Int)+1))) (PV.list (b.map rrc) .no) (PV.I r.pl.length) (PV.I l.length) (List.getD (r.pl.map u1) (Int.toNat (k:Int)) []) (Ob.abs (rkM (aq w) m)) (Ob.cells [.ptr 1 0]); exact fun h n v x y z A B E=>by refine(?_:_→_→_→Prop) (cI A 0) (Ob.cells [.I r.tm,n,.I r.rt,.I r.wd]) [PV.ptr 0 0,x,h,.bool ids,.bool sz,.bool ex,.E,h,z,.I i,.ptr 2 0,n,y,.I k]; exact fun d f g=>by refine(?_:_→_→_→_→_→Prop) [E,B,f,.tok] (PV.list [[PV.U d]] (.tok 3)) [E,B,f] [PV.E,.U d] [PV.ptr 0 0,.U d]; exact fun j s u C D=>∀(R:Ex→List PV→ae→Prop),by refine(?_:_→_→Prop) (aG [] [[PV.U d]] 1 4∧(List.all [.U d] PV.one=true∧[[PV.U d]]≠[])∧R .normal [.ptr 0 0,x,h,.bool !aC d,.bool sz,.bool true,s,h,z,.I i,.ptr 2 0,n,y,v] j) (aG [] [[PV.U d]] 1 4∧(List.all [.U d] PV.one=true∧[[PV.U d]]≠[])∧R .normal [.ptr 0 0,x,h,.bool true,.bool sz,.bool true,s,h,z,.I i,.ptr 2 0,n,y,v] j); exact fun a c=>(br (decide ((k:Int)<(r.pl.length:Int))) (InL (r.pl.map u1) 1 (k:Int)∧br (true && aD [.int .u32] 0 A) (br (ids == false) (br (ex == false) (∃(l_1:List Int) (tl:Tail) (t:Int),ah C [.list (l_1.map u1) tl,.U t]∧l_1.length≤1000000∧br (cJ l_1 t == false) (∃(q:Nat) (r_1:Nat) (w_1:List Mt) (m_1:Int) (p:Int),ah D [.ptr q 0,.U p]∧cm u q r_1 (rkM (aq w_1) m_1)∧MO w_1 m_1∧aG [] [[PV.U d]] 1 4∧(List.all [.U d] PV.one=true∧[[PV.U d]]≠[])∧R .normal [.ptr 0 0,x,h,.bool !aC d,.bool sz,.bool (ofM w_1 p != 0),s,h,z,.I i,.ptr 2 0,n,y,v] j) a) a) (br (ex == false) (∃(l_1:List Int) (tl:Tail) (t:Int),ah C [.list (l_1.map u1) tl,.U t]∧l_1.length≤1000000∧br (cJ l_1 t == false) (∃(q:Nat) (r_1:Nat) (w_1:List Mt) (m_1:Int) (p:Int),ah D [.ptr q 0,.U p]∧cm u q r_1 (rkM (aq w_1) m_1)∧MO w_1 m_1∧aG [] [[PV.U d]] 1 4∧(List.all [.U d] PV.one=true∧[[PV.U d]]≠[])∧R .normal [.ptr 0 0,x,h,.bool true,.bool sz,.bool (ofM w_1 p != 0),s,h,z,.I i,.ptr 2 0,n,y,v] j) c) c)) False) (R (.exit 2) g u))→Holds (wpK TWR [] (fun o=>match o.dst with|some 76=>1|_=>0) (ai [1,1,1,0,1,0,0,1,1,0,0,1,1,1,0] (ag Tryz.f56)) [] (ak [0,1,2,6,7,8,9,19,20,21,11,49,50,51] g) [.cells [.ptr 1 0],B,.cells (rrc r)] (fun ex e H=>R ex (List.map e [0,1,2,6,7,8,9,19,20,21,11,49,50,51]) H)):Prop):=fun R h=>hoE h
theorem tD (w:List Mt) (m:Int) (b l:List Rr) (r:Rr) (ids sz ex:Bool) (ps:List Int) (i k:Nat):(by refine(?_:_→_→_→_→_→_→_→_→_→_→Prop) (PV.list (l.map rrc) .no) (PV.list (r.pl.map u1) .no) (PV.I (wI ((k:Int)+1))) (PV.list (b.map rrc) .no) (PV.I r.pl.length) (PV.I l.length) (PV.list (ps.map u1) (.tok 3)) (List.getD (r.pl.map u1) (Int.toNat (k:Int)) []) (Ob.abs (rkM (aq w) m)) (Ob.cells [.ptr 1 0]); exact fun h s v x y z A B C E=>by refine(?_:_→_→_→Prop) (cI B 0) (Ob.cells [.I r.tm,s,.I r.rt,.I r.wd]) [PV.ptr 0 0,x,h,.bool ids,.bool sz,.bool ex,A,h,z,.I i,.ptr 2 0,s,y,.I k]; exact fun d f g=>by refine(?_:_→_→_→_→Prop) [E,C,f,.dead,.tok] (PV.list (ps.map u1++[[PV.U d]]) (.tok 4)) [E,C,f,.tok] [PV.ptr 0 0,.U d]; exact fun j n u D=>∀(R:Ex→List PV→ae→Prop),by refine(?_:_→_→Prop) (aG (ps.map u1) [[PV.U d]] 1 4∧(List.all [.U d] PV.one=true∧[[PV.U d]]≠[])∧R .normal [.ptr 0 0,x,h,.bool !aC d,.bool sz,.bool true,n,h,z,.I i,.ptr 2 0,s,y,v] j) (aG (ps.map u1) [[PV.U d]] 1 4∧(List.all [.U d] PV.one=true∧[[PV.U d]]≠[])∧R .normal [.ptr 0 0,x,h,.bool true,.bool sz,.bool true,n,h,z,.I i,.ptr 2 0,s,y,v] j); exact fun a c=>(br (decide ((k:Int)<(r.pl.length:Int))) (InL (r.pl.map u1) 1 (k:Int)∧br (true && aD [.int .u32] 0 B) (br (ids == false) (br (ex == false) (∃(l_1:List Int) (tl:Tail) (t:Int),ah [A,.U d] [.list (l_1.map u1) tl,.U t]∧l_1.length≤1000000∧br (cJ l_1 t == false) (∃(q:Nat) (r_1:Nat) (w_1:List Mt) (m_1:Int) (p:Int),ah D [.ptr q 0,.U p]∧cm u q r_1 (rkM (aq w_1) m_1)∧MO w_1 m_1∧aG (ps.map u1) [[PV.U d]] 1 4∧(List.all [.U d] PV.one=true∧[[PV.U d]]≠[])∧R .normal [.ptr 0 0,x,h,.bool !aC d,.bool sz,.bool (ofM w_1 p != 0),n,h,z,.I i,.ptr 2 0,s,y,v] j) a) a) (br (ex == false) (∃(l_1:List Int) (tl:Tail) (t:Int),ah [A,.U d] [.list (l_1.map u1) tl,.U t]∧l_1.length≤1000000∧br (cJ l_1 t == false) (∃(q:Nat) (r_1:Nat) (w_1:List Mt) (m_1:Int) (p:Int),ah D [.ptr q 0,.U p]∧cm u q r_1 (rkM (aq w_1) m_1)∧MO w_1 m_1∧aG (ps.map u1) [[PV.U d]] 1 4∧(List.all [.U d] PV.one=true∧[[PV.U d]]≠[])∧R .normal [.ptr 0 0,x,h,.bool true,.bool sz,.bool (ofM w_1 p != 0),n,h,z,.I i,.ptr 2 0,s,y,v] j) c) c)) False) (R (.exit 2) g u))→Holds (wpK TWR [] (fun o=>match o.dst with|some 76=>1|_=>0) (ai [1,1,1,0,1,0,0,1,1,0,0,1,1,1,0] (ag Tryz.f56)) [] (ak [0,1,2,6,7,8,9,19,20,21,11,49,50,51] g) [.cells [.ptr 1 0],C,.cells (rrc r),.tok] (fun ex e H=>R ex (List.map e [0,1,2,6,7,8,9,19,20,21,11,49,50,51]) H)):Prop):=fun R h=>hoE h
theorem ul (w:List Mt) (m:Int) (b l:List Rr) (r:Rr) (ids sz ex:Bool) (ps:List Int) (i k:Nat):(by refine(?_:_→_→_→_→_→_→_→_→_→_→Prop) (PV.list (l.map rrc) .no) (PV.list (r.pl.map u1) .no) (PV.I (wI ((k:Int)+1))) (PV.list (b.map rrc) .no) (PV.I r.pl.length) (PV.I l.length) (PV.list (ps.map u1) (.tok 2)) (List.getD (r.pl.map u1) (Int.toNat (k:Int)) []) (Ob.abs (rkM (aq w) m)) (Ob.cells [.ptr 1 0]); exact fun h s v x y z A B C E=>by refine(?_:_→_→_→Prop) (cI B 0) (Ob.cells [.I r.tm,s,.I r.rt,.I r.wd]) [PV.ptr 0 0,x,h,.bool ids,.bool sz,.bool ex,A,h,z,.I i,.ptr 3 0,s,y,.I k]; exact fun d f g=>by refine(?_:_→_→_→_→Prop) [E,C,.dead,f,.tok] (PV.list (ps.map u1++[[PV.U d]]) (.tok 4)) [E,C,.tok,f] [PV.ptr 0 0,.U d]; exact fun j n u D=>∀(R:Ex→List PV→ae→Prop),by refine(?_:_→_→Prop) (aG (ps.map u1) [[PV.U d]] 1 4∧(List.all [.U d] PV.one=true∧[[PV.U d]]≠[])∧R .normal [.ptr 0 0,x,h,.bool !aC d,.bool sz,.bool true,n,h,z,.I i,.ptr 3 0,s,y,v] j) (aG (ps.map u1) [[PV.U d]] 1 4∧(List.all [.U d] PV.one=true∧[[PV.U d]]≠[])∧R .normal [.ptr 0 0,x,h,.bool true,.bool sz,.bool true,n,h,z,.I i,.ptr 3 0,s,y,v] j); exact fun a c=>(br (decide ((k:Int)<(r.pl.length:Int))) (InL (r.pl.map u1) 1 (k:Int)∧br (true && aD [.int .u32] 0 B) (br (ids == false) (br (ex == false) (∃(l_1:List Int) (tl:Tail) (t:Int),ah [A,.U d] [.list (l_1.map u1) tl,.U t]∧l_1.length≤1000000∧br (cJ l_1 t == false) (∃(q:Nat) (r_1:Nat) (w_1:List Mt) (m_1:Int) (p:Int),ah D [.ptr q 0,.U p]∧cm u q r_1 (rkM (aq w_1) m_1)∧MO w_1 m_1∧aG (ps.map u1) [[PV.U d]] 1 4∧(List.all [.U d] PV.one=true∧[[PV.U d]]≠[])∧R .normal [.ptr 0 0,x,h,.bool !aC d,.bool sz,.bool (ofM w_1 p != 0),n,h,z,.I i,.ptr 3 0,s,y,v] j) a) a) (br (ex == false) (∃(l_1:List Int) (tl:Tail) (t:Int),ah [A,.U d] [.list (l_1.map u1) tl,.U t]∧l_1.length≤1000000∧br (cJ l_1 t == false) (∃(q:Nat) (r_1:Nat) (w_1:List Mt) (m_1:Int) (p:Int),ah D [.ptr q 0,.U p]∧cm u q r_1 (rkM (aq w_1) m_1)∧MO w_1 m_1∧aG (ps.map u1) [[PV.U d]] 1 4∧(List.all [.U d] PV.one=true∧[[PV.U d]]≠[])∧R .normal [.ptr 0 0,x,h,.bool true,.bool sz,.bool (ofM w_1 p != 0),n,h,z,.I i,.ptr 3 0,s,y,v] j) c) c)) False) (R (.exit 2) g u))→Holds (wpK TWR [] (fun o=>match o.dst with|some 76=>1|_=>0) (ai [1,1,1,0,1,0,0,1,1,0,0,1,1,1,0] (ag Tryz.f56)) [] (ak [0,1,2,6,7,8,9,19,20,21,11,49,50,51] g) [.cells [.ptr 1 0],C,.tok,.cells (rrc r)] (fun ex e H=>R ex (List.map e [0,1,2,6,7,8,9,19,20,21,11,49,50,51]) H)):Prop):=fun R h=>hoE h
theorem uR (w:List Mt) (m:Int) (b l:List Rr) (r:Rr) (ids sz ex:Bool) (ps:List Int) (i k:Nat):(by refine(?_:_→_→_→_→_→_→_→_→_→_→Prop) (PV.list (l.map rrc) .no) (PV.list (r.pl.map u1) .no) (PV.I (wI ((k:Int)+1))) (PV.list (b.map rrc) .no) (PV.I r.pl.length) (PV.I l.length) (PV.list (ps.map u1) (.tok 4)) (List.getD (r.pl.map u1) (Int.toNat (k:Int)) []) (Ob.abs (rkM (aq w) m)) (Ob.cells [.ptr 1 0]); exact fun j u v x y z A B C E=>by refine(?_:_→_→_→Prop) (cI B 0) (Ob.cells [.I r.tm,u,.I r.rt,.I r.wd]) [PV.ptr 0 0,x,j,.bool ids,.bool sz,.bool ex,A,j,z,.I i,.ptr 3 0,u,y,.I k]; exact fun d f g=>by refine(?_:_→_→_→_→Prop) [E,C,.dead,f,.dead,.tok] (PV.list (ps.map u1++[[PV.U d]]) (.tok 5)) [E,C,.dead,f,.tok] [PV.ptr 0 0,.U d]; exact fun h n s D=>∀(R:Ex→List PV→ae→Prop),by refine(?_:_→_→Prop) (aG (ps.map u1) [[PV.U d]] 1 4∧(List.all [.U d] PV.one=true∧[[PV.U d]]≠[])∧R .normal [.ptr 0 0,x,j,.bool !aC d,.bool sz,.bool true,n,j,z,.I i,.ptr 3 0,u,y,v] h) (aG (ps.map u1) [[PV.U d]] 1 4∧(List.all [.U d] PV.one=true∧[[PV.U d]]≠[])∧R .normal [.ptr 0 0,x,j,.bool true,.bool sz,.bool true,n,j,z,.I i,.ptr 3 0,u,y,v] h); exact fun a c=>(br (decide ((k:Int)<(r.pl.length:Int))) (InL (r.pl.map u1) 1 (k:Int)∧br (true && aD [.int .u32] 0 B) (br (ids == false) (br (ex == false) (∃(l_1:List Int) (tl:Tail) (t:Int),ah [A,.U d] [.list (l_1.map u1) tl,.U t]∧l_1.length≤1000000∧br (cJ l_1 t == false) (∃(q:Nat) (r_1:Nat) (w_1:List Mt) (m_1:Int) (p:Int),ah D [.ptr q 0,.U p]∧cm s q r_1 (rkM (aq w_1) m_1)∧MO w_1 m_1∧aG (ps.map u1) [[PV.U d]] 1 4∧(List.all [.U d] PV.one=true∧[[PV.U d]]≠[])∧R .normal [.ptr 0 0,x,j,.bool !aC d,.bool sz,.bool (ofM w_1 p != 0),n,j,z,.I i,.ptr 3 0,u,y,v] h) a) a) (br (ex == false) (∃(l_1:List Int) (tl:Tail) (t:Int),ah [A,.U d] [.list (l_1.map u1) tl,.U t]∧l_1.length≤1000000∧br (cJ l_1 t == false) (∃(q:Nat) (r_1:Nat) (w_1:List Mt) (m_1:Int) (p:Int),ah D [.ptr q 0,.U p]∧cm s q r_1 (rkM (aq w_1) m_1)∧MO w_1 m_1∧aG (ps.map u1) [[PV.U d]] 1 4∧(List.all [.U d] PV.one=true∧[[PV.U d]]≠[])∧R .normal [.ptr 0 0,x,j,.bool true,.bool sz,.bool (ofM w_1 p != 0),n,j,z,.I i,.ptr 3 0,u,y,v] h) c) c)) False) (R (.exit 2) g s))→Holds (wpK TWR [] (fun o=>match o.dst with|some 76=>1|_=>0) (ai [1,1,1,0,1,0,0,1,1,0,0,1,1,1,0] (ag Tryz.f56)) [] (ak [0,1,2,6,7,8,9,19,20,21,11,49,50,51] g) [.cells [.ptr 1 0],C,.dead,.cells (rrc r),.tok] (fun ex e H=>R ex (List.map e [0,1,2,6,7,8,9,19,20,21,11,49,50,51]) H)):Prop):=fun R h=>hoE h
theorem gE {ρ:Nat→Nat} {n bx:Nat} {b l:List Rr} {r:Rr} {ids sz ex:Bool} {i:Nat} {z:Int} {T T':PV} (h0:0<n∧ρ 0=0) (hb:bx<n∧ρ bx=bx) (hT:Ren ρ n T T'):aW ρ n [.ptr 0 0,.list (b.map rrc) .no,.list (l.map rrc) .no,.bool ids,.bool sz,.bool ex,T,.list (l.map rrc) .no,.I l.length,.I i,.ptr bx 0,.list (r.pl.map u1) .no,.I r.pl.length,.I z] [.ptr 0 0,.list (b.map rrc) .no,.list (l.map rrc) .no,.bool ids,.bool sz,.bool ex,T',.list (l.map rrc) .no,.I l.length,.I i,.ptr bx 0,.list (r.pl.map u1) .no,.I r.pl.length,.I z]:=by
 have e0:=Ren.ptr (ρ:=ρ) (n:=n) 0 0 h0.1
 rw[h0.2] at e0
 have eb:=Ren.ptr (ρ:=ρ) (n:=n) bx 0 hb.1
 rw[hb.2] at eb
 exact .cons e0 (.cons (.low (aR _)) (.cons (.low (aR _)) (.cons (.low (.bool _)) (.cons (.low (.bool _)) (.cons (.low (.bool _)) (.cons hT (.cons (.low (aR _)) (.cons (.low (.int _ _)) (.cons (.low (.int _ _)) (.cons eb (.cons (.low (eE _)) (.cons (.low (.int _ _)) (.cons (.low (.int _ _)) .nil)))))))))))))
def wO:LSp:=fun e H Q=>∃(w:List Mt) (m:Int) (b l:List Rr) (r:Rr) (s:WS) (sz:Bool) (i:Nat),MO w m∧r.pl.length≤1000000∧s.ps.length+r.pl.length≤1000000∧s.ps=[]∧ah (List.map e [0,1,2,6,7,8,9,19,20,21,11,49,50,51]) [.ptr 0 0,.list (b.map rrc) .no,.list (l.map rrc) .no,.bool s.ids,.bool sz,.bool s.ex,.E,.list (l.map rrc) .no,.I l.length,.I i,.ptr 2 0,.list (r.pl.map u1) .no,.I r.pl.length,.I 0]∧av H [.cells [.ptr 1 0],.abs (rkM (aq w) m),.cells (rrc r)]∧(r.pl=[]→Q (.exit 2) (ak [0,1,2,6,7,8,9,19,20,21,11,49,50,51] [.ptr 0 0,.list (b.map rrc) .no,.list (l.map rrc) .no,.bool s.ids,.bool sz,.bool s.ex,.E,.list (l.map rrc) .no,.I l.length,.I i,.ptr 2 0,.list (r.pl.map u1) .no,.I r.pl.length,.I 0]) [.cells [.ptr 1 0],.abs (rkM (aq w) m),.cells (rrc r)])∧(r.pl≠[]→Q (.exit 2) (ak [0,1,2,6,7,8,9,19,20,21,11,49,50,51] [.ptr 0 0,.list (b.map rrc) .no,.list (l.map rrc) .no,.bool (wsP w s r.pl).ids,.bool sz,.bool (wsP w s r.pl).ex,.list ((wsP w s r.pl).ps.map u1) (.tok 3),.list (l.map rrc) .no,.I l.length,.I i,.ptr 2 0,.list (r.pl.map u1) .no,.I r.pl.length,.I r.pl.length]) [.cells [.ptr 1 0],.abs (rkM (aq w) m),.cells (rrc r),.tok])
theorem za:∀ e H Q,wO e H Q→AwK Tryz.f56.ntmps (.loop (ai [1,1,1,0,1,0,0,1,1,0,0,1,1,1,0] (ag Tryz.f56))) Q e H:=by
 rintro e H Q ⟨w,m,b,l,r,s,sz,i,ro,hrl,hsl,hs0,he,hH,hQ0,hQ1⟩
 ·have hH:H=_:=hH
  have hHl:H.length=3:=by rw[hH]; rfl
  refine fF (hn:=fun o=>match o.dst with|some 76=>1|_=>0) aj kI (.nil _ _ _ _ _) (σ:=Nat) [0,1,2,6,7,8,9,19,20,21,11,49,50,51] (fun k=>k≤r.pl.length) (fun k=>if k=0 then [.ptr 0 0,.list (b.map rrc) .no,.list (l.map rrc) .no,.bool s.ids,.bool sz,.bool s.ex,.E,.list (l.map rrc) .no,.I l.length,.I i,.ptr 2 0,.list (r.pl.map u1) .no,.I r.pl.length,.I 0] else [.ptr 0 0,.list (b.map rrc) .no,.list (l.map rrc) .no,.bool (wsP w s (r.pl.take k)).ids,.bool sz,.bool (wsP w s (r.pl.take k)).ex,.list ((wsP w s (r.pl.take k)).ps.map u1) (.tok 3),.list (l.map rrc) .no,.I l.length,.I i,.ptr 2 0,.list (r.pl.map u1) .no,.I r.pl.length,.I k]) (fun k=>if k=0 then [.cells [.ptr 1 0],.abs (rkM (aq w) m),.cells (rrc r)] else [.cells [.ptr 1 0],.abs (rkM (aq w) m),.cells (rrc r),.tok]) (fun k=>r.pl.length-k) 0 (Nat.zero_le _) he hH ?_
  rw[hHl]
  intro k hk
  have hk:k≤r.pl.length:=hk
  have hps:=fc w (r.pl.take k) s
  have hpl:(wsP w s (r.pl.take k)).ps.length≤1000000:=by rw[hps,List.length_append,List.length_take]; omega
  by_cases h:k<r.pl.length
  ·have hsucc:=k9 w s h
   have hlow:∀(ps:List Int),∀ x∈(ps.map u1).flatten,Low 0 x:=fun ps=>bp fun a _=>bO a
   have inl:InL (r.pl.map u1) 1 (k:Int):=by rw[dQ]; exact h
   have cp:cI (u1 (r.pl.getD k 0)) 0=r.pl.getD k 0:=rfl
   have hpl2:(wsP w s (r.pl.take (k+1))).ps.length≤1000000:=by rw[fc,List.length_append,List.length_take]; omega
   by_cases k0:k=0
   ·subst k0
    have e1:wsP w s (r.pl.take 1)=ws1 w s (r.pl.getD 0 0):=hsucc
    simp only[if_pos]
    refine tA w m b l r s.ids sz s.ex i 0 _ ?_
    simp only[au,dt,an,getD_map 0 h,cp]
    rw[if_pos (by omega)]
    refine⟨inl,?_⟩
    rw[if_pos (by rfl)]
    obtain⟨p,hp⟩:∃ p,p=r.pl.getD 0 0:=⟨_,rfl⟩
    rw[← hp] at e1
    simp only[← hp]
    have tail:∀ b1 b2:Bool,b1=(ws1 w s p).ids→b2=(ws1 w s p).ex→∃ s':Nat,r.pl.length-s'<r.pl.length-0∧s'≤r.pl.length∧ej 3 [.ptr 0 0,.list (b.map rrc) .no,.list (l.map rrc) .no,.bool b1,.bool sz,.bool b2,.list [[.U p]] (.tok 3),.list (l.map rrc) .no,.I l.length,.I i,.ptr 2 0,.list (r.pl.map u1) .no,.I r.pl.length,.I (wI (((0:Nat):Int)+1))] [.cells [.ptr 1 0],.abs (rkM (aq w) m),.cells (rrc r),.tok] (if s'=0 then [.ptr 0 0,.list (b.map rrc) .no,.list (l.map rrc) .no,.bool s.ids,.bool sz,.bool s.ex,.E,.list (l.map rrc) .no,.I l.length,.I i,.ptr 2 0,.list (r.pl.map u1) .no,.I r.pl.length,.I 0] else [.ptr 0 0,.list (b.map rrc) .no,.list (l.map rrc) .no,.bool (wsP w s (r.pl.take s')).ids,.bool sz,.bool (wsP w s (r.pl.take s')).ex,.list ((wsP w s (r.pl.take s')).ps.map u1) (.tok 3),.list (l.map rrc) .no,.I l.length,.I i,.ptr 2 0,.list (r.pl.map u1) .no,.I r.pl.length,.I s']) (if s'=0 then [.cells [.ptr 1 0],.abs (rkM (aq w) m),.cells (rrc r)] else [.cells [.ptr 1 0],.abs (rkM (aq w) m),.cells (rrc r),.tok]):=by
     rintro b1 b2 rfl rfl
     refine⟨1,by omega,h,?_⟩
     rw[if_neg (by decide),if_neg (by decide),e1,show wI (((0:Nat):Int)+1)=((1:Nat):Int) from rfl]
     refine aT [0,1,2,3] (WkL.refl _) (.cons rfl (.cells (.cons (.ptr (ρ:=fun o=>[0,1,2,3].getD o 0) 1 0 (by simp)) .nil)) (.cons rfl (.abs _) (.cons rfl (.cells (aW.low (bJ r))) (.cons rfl .tok .nil)))) (by decide) (by simp) (fun o ho=>?_) (gE ⟨by simp,rfl⟩ ⟨by simp,rfl⟩ ?_)
     ·match o,ho with
      | 0,_=>rfl
      | 1,_=>rfl
      | 2,_=>rfl
     ·have:=Ren.ltok (ρ:=fun o=>[0,1,2,3].getD o 0) (n:=4) ((ws1 w s p).ps.map u1) 3 (by decide) (hlow _)
      have e2:(ws1 w s p).ps.map u1=[[PV.U p]]:=by show(s.ps++[p]).map u1=_; rw[hs0]; rfl
      rw[← e2]; exact this
    have ap:aG (([]:List (List PV))) [[.U p]] 1 4∧(List.all [PV.U p] PV.one=true∧[[PV.U p]]≠[]):=⟨aE (f:=u1) da [] p (by decide),one_row dy p⟩
    by_cases hi:s.ids=false
    ·rw[if_pos (by rw[hi]; rfl)]
     by_cases hx:s.ex=false
     ·rw[if_pos (by rw[hx]; rfl)]
      refine⟨[],.exact,p,rfl,(by decide),?_⟩
      by_cases hm:cJ [] p=false
      ·rw[if_pos (by rw[hm]; rfl)]
       exact⟨0,1,w,m,p,rfl,⟨rfl,rfl⟩,ro,ap.1,ap.2,tail _ _ (by simp[ws1,hi]) (by simp[ws1,hx,hm,hs0])⟩
      ·rw[if_neg (by simpa using hm)]
       exact⟨ap.1,ap.2,tail _ _ (by simp[ws1,hi]) (by simp only[ws1]; rw[hs0]; rw[bnf hm]; simp)⟩
     ·rw[if_neg (by simpa using hx)]
      exact⟨ap.1,ap.2,tail _ _ (by simp[ws1,hi]) (by simp[ws1,bnf hx])⟩
    ·rw[if_neg (by simpa using hi)]
     by_cases hx:s.ex=false
     ·rw[if_pos (by rw[hx]; rfl)]
      refine⟨[],.exact,p,rfl,(by decide),?_⟩
      by_cases hm:cJ [] p=false
      ·rw[if_pos (by rw[hm]; rfl)]
       exact⟨0,1,w,m,p,rfl,⟨rfl,rfl⟩,ro,ap.1,ap.2,tail _ _ (by simp[ws1,bnf hi]) (by simp[ws1,hx,hm,hs0])⟩
      ·rw[if_neg (by simpa using hm)]
       exact⟨ap.1,ap.2,tail _ _ (by simp[ws1,bnf hi]) (by simp only[ws1]; rw[hs0]; rw[bnf hm]; simp)⟩
     ·rw[if_neg (by simpa using hx)]
      exact⟨ap.1,ap.2,tail _ _ (by simp[ws1,bnf hi]) (by simp[ws1,bnf hx])⟩
   ·simp only[if_neg k0]
    refine tD w m b l r (wsP w s (r.pl.take k)).ids sz (wsP w s (r.pl.take k)).ex (wsP w s (r.pl.take k)).ps i k _ ?_
    simp only[au,dt,an,getD_map 0 h,cp]
    rw[if_pos (by omega)]
    refine⟨inl,?_⟩
    rw[if_pos (by rfl)]
    obtain⟨t,htd⟩:∃ t,t=wsP w s (r.pl.take k):=⟨_,rfl⟩
    obtain⟨p,hp⟩:∃ p,p=r.pl.getD k 0:=⟨_,rfl⟩
    rw[← htd,← hp] at hsucc
    simp only[← hp,← htd] at hpl ⊢
    have htl:t.ps.length+1≤1000000:=by rw[hsucc] at hpl2; simpa[ws1] using hpl2
    have tail:∀ b1 b2:Bool,b1=(ws1 w t p).ids→b2=(ws1 w t p).ex→∃ s':Nat,r.pl.length-s'<r.pl.length-k∧s'≤r.pl.length∧ej 3 [.ptr 0 0,.list (b.map rrc) .no,.list (l.map rrc) .no,.bool b1,.bool sz,.bool b2,.list (t.ps.map u1++[[.U p]]) (.tok 4),.list (l.map rrc) .no,.I l.length,.I i,.ptr 2 0,.list (r.pl.map u1) .no,.I r.pl.length,.I (wI ((k:Int)+1))] [.cells [.ptr 1 0],.abs (rkM (aq w) m),.cells (rrc r),.dead,.tok] (if s'=0 then [.ptr 0 0,.list (b.map rrc) .no,.list (l.map rrc) .no,.bool s.ids,.bool sz,.bool s.ex,.E,.list (l.map rrc) .no,.I l.length,.I i,.ptr 2 0,.list (r.pl.map u1) .no,.I r.pl.length,.I 0] else [.ptr 0 0,.list (b.map rrc) .no,.list (l.map rrc) .no,.bool (wsP w s (r.pl.take s')).ids,.bool sz,.bool (wsP w s (r.pl.take s')).ex,.list ((wsP w s (r.pl.take s')).ps.map u1) (.tok 3),.list (l.map rrc) .no,.I l.length,.I i,.ptr 2 0,.list (r.pl.map u1) .no,.I r.pl.length,.I s']) (if s'=0 then [.cells [.ptr 1 0],.abs (rkM (aq w) m),.cells (rrc r)] else [.cells [.ptr 1 0],.abs (rkM (aq w) m),.cells (rrc r),.tok]):=by
     rintro b1 b2 rfl rfl
     refine⟨k+1,by omega,h,?_⟩
     rw[if_neg (by omega),if_neg (by omega),hsucc,ar h (by omega)]
     refine aT [0,1,2,4] (WkL.refl _) (.cons rfl (.cells (.cons (.ptr (ρ:=fun o=>[0,1,2,4].getD o 0) 1 0 (by simp)) .nil)) (.cons rfl (.abs _) (.cons rfl (.cells (aW.low (bJ r))) (.cons rfl .tok .nil)))) (by decide) (by simp) (fun o ho=>?_) (gE ⟨by simp,rfl⟩ ⟨by simp,rfl⟩ ?_)
     ·match o,ho with
      | 0,_=>rfl
      | 1,_=>rfl
      | 2,_=>rfl
     ·have:=Ren.ltok (ρ:=fun o=>[0,1,2,4].getD o 0) (n:=4) ((ws1 w t p).ps.map u1) 3 (by decide) (hlow _)
      have e2:(ws1 w t p).ps.map u1=t.ps.map u1++[[.U p]]:=by show(t.ps++[p]).map u1=_; rw[List.map_append]; rfl
      rw[← e2]; exact this
    have ap:aG (t.ps.map u1) [[.U p]] 1 4∧(List.all [PV.U p] PV.one=true∧[[PV.U p]]≠[]):=⟨aE (f:=u1) da t.ps p (by omega),one_row dy p⟩
    by_cases hi:t.ids=false
    ·rw[if_pos (by rw[hi]; rfl)]
     by_cases hx:t.ex=false
     ·rw[if_pos (by rw[hx]; rfl)]
      refine⟨t.ps,.tok 3,p,rfl,(by omega),?_⟩
      by_cases hm:cJ t.ps p=false
      ·rw[if_pos (by rw[hm]; rfl)]
       exact⟨0,1,w,m,p,rfl,⟨rfl,rfl⟩,ro,ap.1,ap.2,tail _ _ (by simp[ws1,hi]) (by simp[ws1,hx,hm])⟩
      ·rw[if_neg (by simpa using hm)]
       exact⟨ap.1,ap.2,tail _ _ (by simp[ws1,hi]) (by simp only[ws1]; rw[bnf hm]; simp)⟩
     ·rw[if_neg (by simpa using hx)]
      exact⟨ap.1,ap.2,tail _ _ (by simp[ws1,hi]) (by simp[ws1,bnf hx])⟩
    ·rw[if_neg (by simpa using hi)]
     by_cases hx:t.ex=false
     ·rw[if_pos (by rw[hx]; rfl)]
      refine⟨t.ps,.tok 3,p,rfl,(by omega),?_⟩
      by_cases hm:cJ t.ps p=false
      ·rw[if_pos (by rw[hm]; rfl)]
       exact⟨0,1,w,m,p,rfl,⟨rfl,rfl⟩,ro,ap.1,ap.2,tail _ _ (by simp[ws1,bnf hi]) (by simp[ws1,hx,hm])⟩
      ·rw[if_neg (by simpa using hm)]
       exact⟨ap.1,ap.2,tail _ _ (by simp[ws1,bnf hi]) (by simp only[ws1]; rw[bnf hm]; simp)⟩
     ·rw[if_neg (by simpa using hx)]
      exact⟨ap.1,ap.2,tail _ _ (by simp[ws1,bnf hi]) (by simp[ws1,bnf hx])⟩
  ·have hkl:k=r.pl.length:=by omega
   subst hkl
   by_cases k0:r.pl.length=0
   ·have hn:r.pl=[]:=List.length_eq_zero_iff.1 k0
    simp only[if_pos k0]
    refine tA w m b l r s.ids sz s.ex i 0 _ ?_
    simp only[au,dt]
    rw[if_neg (by omega)]
    refine⟨_,_,aT [0,1,2] (WkL.refl _) (.cons rfl (.cells (.cons (.ptr (ρ:=fun o=>[0,1,2].getD o 0) 1 0 (by simp)) .nil)) (.cons rfl (.abs _) (.cons rfl (.cells (aW.low (bJ r))) .nil))) (by decide) (by simp) (fun o ho=>?_) (gE ⟨by simp,rfl⟩ ⟨by simp,rfl⟩ (.low (aH NT.exact (by simp)))),hQ0 hn⟩
    match o,ho with
    | 0,_=>rfl
    | 1,_=>rfl
    | 2,_=>rfl
   ·have hn:r.pl≠[]:=fun e=>k0 (by rw[e]; rfl)
    simp only[if_neg k0]
    refine tD w m b l r (wsP w s (r.pl.take r.pl.length)).ids sz (wsP w s (r.pl.take r.pl.length)).ex (wsP w s (r.pl.take r.pl.length)).ps i r.pl.length _ ?_
    simp only[au,dt]
    rw[if_neg (by omega),List.take_length]
    refine⟨_,_,aT [0,1,2,3] (WkL.refl _) (.cons rfl (.cells (.cons (.ptr (ρ:=fun o=>[0,1,2,3].getD o 0) 1 0 (by simp)) .nil)) (.cons rfl (.abs _) (.cons rfl (.cells (aW.low (bJ r))) (.cons rfl .tok .nil)))) (by decide) (by simp) (fun o ho=>?_) (gE ⟨by simp,rfl⟩ ⟨by simp,rfl⟩ (.ltok (ρ:=fun o=>[0,1,2,3].getD o 0) _ 3 (by simp) (bp fun a _=>bO a))),hQ1 hn⟩
    match o,ho with
    | 0,_=>rfl
    | 1,_=>rfl
    | 2,_=>rfl
def vR:LSp:=fun e H Q=>∃(w:List Mt) (m:Int) (b l:List Rr) (r:Rr) (s:WS) (sz:Bool) (i:Nat),MO w m∧r.pl.length≤1000000∧s.ps.length+r.pl.length≤1000000∧ah (List.map e [0,1,2,6,7,8,9,19,20,21,11,49,50,51]) [.ptr 0 0,.list (b.map rrc) .no,.list (l.map rrc) .no,.bool s.ids,.bool sz,.bool s.ex,.list (s.ps.map u1) (.tok 2),.list (l.map rrc) .no,.I l.length,.I i,.ptr 3 0,.list (r.pl.map u1) .no,.I r.pl.length,.I 0]∧av H [.cells [.ptr 1 0],.abs (rkM (aq w) m),.tok,.cells (rrc r)]∧(r.pl=[]→Q (.exit 2) (ak [0,1,2,6,7,8,9,19,20,21,11,49,50,51] [.ptr 0 0,.list (b.map rrc) .no,.list (l.map rrc) .no,.bool s.ids,.bool sz,.bool s.ex,.list (s.ps.map u1) (.tok 2),.list (l.map rrc) .no,.I l.length,.I i,.ptr 3 0,.list (r.pl.map u1) .no,.I r.pl.length,.I 0]) [.cells [.ptr 1 0],.abs (rkM (aq w) m),.tok,.cells (rrc r)])∧(r.pl≠[]→Q (.exit 2) (ak [0,1,2,6,7,8,9,19,20,21,11,49,50,51] [.ptr 0 0,.list (b.map rrc) .no,.list (l.map rrc) .no,.bool (wsP w s r.pl).ids,.bool sz,.bool (wsP w s r.pl).ex,.list ((wsP w s r.pl).ps.map u1) (.tok 4),.list (l.map rrc) .no,.I l.length,.I i,.ptr 3 0,.list (r.pl.map u1) .no,.I r.pl.length,.I r.pl.length]) [.cells [.ptr 1 0],.abs (rkM (aq w) m),.dead,.cells (rrc r),.tok])
theorem zh:∀ e H Q,vR e H Q→AwK Tryz.f56.ntmps (.loop (ai [1,1,1,0,1,0,0,1,1,0,0,1,1,1,0] (ag Tryz.f56))) Q e H:=by
 rintro e H Q ⟨w,m,b,l,r,s,sz,i,ro,hrl,hsl,he,hH,hQ0,hQ1⟩
 ·have hH:H=_:=hH
  have hHl:H.length=4:=by rw[hH]; rfl
  refine fF (hn:=fun o=>match o.dst with|some 76=>1|_=>0) aj kI (.nil _ _ _ _ _) (σ:=Nat) [0,1,2,6,7,8,9,19,20,21,11,49,50,51] (fun k=>k≤r.pl.length) (fun k=>if k=0 then [.ptr 0 0,.list (b.map rrc) .no,.list (l.map rrc) .no,.bool s.ids,.bool sz,.bool s.ex,.list (s.ps.map u1) (.tok 2),.list (l.map rrc) .no,.I l.length,.I i,.ptr 3 0,.list (r.pl.map u1) .no,.I r.pl.length,.I 0] else [.ptr 0 0,.list (b.map rrc) .no,.list (l.map rrc) .no,.bool (wsP w s (r.pl.take k)).ids,.bool sz,.bool (wsP w s (r.pl.take k)).ex,.list ((wsP w s (r.pl.take k)).ps.map u1) (.tok 4),.list (l.map rrc) .no,.I l.length,.I i,.ptr 3 0,.list (r.pl.map u1) .no,.I r.pl.length,.I k]) (fun k=>if k=0 then [.cells [.ptr 1 0],.abs (rkM (aq w) m),.tok,.cells (rrc r)] else [.cells [.ptr 1 0],.abs (rkM (aq w) m),.dead,.cells (rrc r),.tok]) (fun k=>r.pl.length-k) 0 (Nat.zero_le _) he hH ?_
  rw[hHl]
  intro k hk
  have hk:k≤r.pl.length:=hk
  have hps:=fc w (r.pl.take k) s
  have hpl:(wsP w s (r.pl.take k)).ps.length≤1000000:=by rw[hps,List.length_append,List.length_take]; omega
  by_cases h:k<r.pl.length
  ·have hsucc:=k9 w s h
   have hlow:∀(ps:List Int),∀ x∈(ps.map u1).flatten,Low 0 x:=fun ps=>bp fun a _=>bO a
   have inl:InL (r.pl.map u1) 1 (k:Int):=by rw[dQ]; exact h
   have cp:cI (u1 (r.pl.getD k 0)) 0=r.pl.getD k 0:=rfl
   have hpl2:(wsP w s (r.pl.take (k+1))).ps.length≤1000000:=by rw[fc,List.length_append,List.length_take]; omega
   by_cases k0:k=0
   ·subst k0
    have e1:wsP w s (r.pl.take 1)=ws1 w s (r.pl.getD 0 0):=hsucc
    simp only[if_pos]
    refine ul w m b l r s.ids sz s.ex s.ps i 0 _ ?_
    simp only[au,dt,an,getD_map 0 h,cp]
    rw[if_pos (by omega)]
    refine⟨inl,?_⟩
    rw[if_pos (by rfl)]
    obtain⟨p,hp⟩:∃ p,p=r.pl.getD 0 0:=⟨_,rfl⟩
    rw[← hp] at e1
    simp only[← hp]
    have tail:∀ b1 b2:Bool,b1=(ws1 w s p).ids→b2=(ws1 w s p).ex→∃ s':Nat,r.pl.length-s'<r.pl.length-0∧s'≤r.pl.length∧ej 4 [.ptr 0 0,.list (b.map rrc) .no,.list (l.map rrc) .no,.bool b1,.bool sz,.bool b2,.list (s.ps.map u1++[[.U p]]) (.tok 4),.list (l.map rrc) .no,.I l.length,.I i,.ptr 3 0,.list (r.pl.map u1) .no,.I r.pl.length,.I (wI (((0:Nat):Int)+1))] [.cells [.ptr 1 0],.abs (rkM (aq w) m),.dead,.cells (rrc r),.tok] (if s'=0 then [.ptr 0 0,.list (b.map rrc) .no,.list (l.map rrc) .no,.bool s.ids,.bool sz,.bool s.ex,.list (s.ps.map u1) (.tok 2),.list (l.map rrc) .no,.I l.length,.I i,.ptr 3 0,.list (r.pl.map u1) .no,.I r.pl.length,.I 0] else [.ptr 0 0,.list (b.map rrc) .no,.list (l.map rrc) .no,.bool (wsP w s (r.pl.take s')).ids,.bool sz,.bool (wsP w s (r.pl.take s')).ex,.list ((wsP w s (r.pl.take s')).ps.map u1) (.tok 4),.list (l.map rrc) .no,.I l.length,.I i,.ptr 3 0,.list (r.pl.map u1) .no,.I r.pl.length,.I s']) (if s'=0 then [.cells [.ptr 1 0],.abs (rkM (aq w) m),.tok,.cells (rrc r)] else [.cells [.ptr 1 0],.abs (rkM (aq w) m),.dead,.cells (rrc r),.tok]):=by
     rintro b1 b2 rfl rfl
     refine⟨1,by omega,h,?_⟩
     rw[if_neg (by decide),if_neg (by decide),e1,show wI (((0:Nat):Int)+1)=((1:Nat):Int) from rfl]
     refine aT [0,1,2,3,4] (WkL.refl _) (.cons rfl (.cells (.cons (.ptr (ρ:=fun o=>[0,1,2,3,4].getD o 0) 1 0 (by simp)) .nil)) (.cons rfl (.abs _) (.cons rfl (.dead _) (.cons rfl (.cells (aW.low (bJ r))) (.cons rfl .tok .nil))))) (by decide) (by simp) (fun o ho=>?_) (gE ⟨by simp,rfl⟩ ⟨by simp,rfl⟩ ?_)
     ·match o,ho with
      | 0,_=>rfl
      | 1,_=>rfl
      | 2,_=>rfl
      | 3,_=>rfl
     ·have:=Ren.ltok (ρ:=fun o=>[0,1,2,3,4].getD o 0) (n:=5) ((ws1 w s p).ps.map u1) 4 (by decide) (hlow _)
      have e2:(ws1 w s p).ps.map u1=s.ps.map u1++[[PV.U p]]:=by show(s.ps++[p]).map u1=_; rw[List.map_append]; rfl
      rw[← e2]; exact this
    have ap:aG (s.ps.map u1) [[.U p]] 1 4∧(List.all [PV.U p] PV.one=true∧[[PV.U p]]≠[]):=⟨aE (f:=u1) da s.ps p (by omega),one_row dy p⟩
    by_cases hi:s.ids=false
    ·rw[if_pos (by rw[hi]; rfl)]
     by_cases hx:s.ex=false
     ·rw[if_pos (by rw[hx]; rfl)]
      refine⟨s.ps,.tok 2,p,rfl,(by omega),?_⟩
      by_cases hm:cJ s.ps p=false
      ·rw[if_pos (by rw[hm]; rfl)]
       exact⟨0,1,w,m,p,rfl,⟨rfl,rfl⟩,ro,ap.1,ap.2,tail _ _ (by simp[ws1,hi]) (by simp[ws1,hx,hm])⟩
      ·rw[if_neg (by simpa using hm)]
       exact⟨ap.1,ap.2,tail _ _ (by simp[ws1,hi]) (by simp only[ws1]; rw[bnf hm]; simp)⟩
     ·rw[if_neg (by simpa using hx)]
      exact⟨ap.1,ap.2,tail _ _ (by simp[ws1,hi]) (by simp[ws1,bnf hx])⟩
    ·rw[if_neg (by simpa using hi)]
     by_cases hx:s.ex=false
     ·rw[if_pos (by rw[hx]; rfl)]
      refine⟨s.ps,.tok 2,p,rfl,(by omega),?_⟩
      by_cases hm:cJ s.ps p=false
      ·rw[if_pos (by rw[hm]; rfl)]
       exact⟨0,1,w,m,p,rfl,⟨rfl,rfl⟩,ro,ap.1,ap.2,tail _ _ (by simp[ws1,bnf hi]) (by simp[ws1,hx,hm])⟩
      ·rw[if_neg (by simpa using hm)]
       exact⟨ap.1,ap.2,tail _ _ (by simp[ws1,bnf hi]) (by simp only[ws1]; rw[bnf hm]; simp)⟩
     ·rw[if_neg (by simpa using hx)]
      exact⟨ap.1,ap.2,tail _ _ (by simp[ws1,bnf hi]) (by simp[ws1,bnf hx])⟩
   ·simp only[if_neg k0]
    refine uR w m b l r (wsP w s (r.pl.take k)).ids sz (wsP w s (r.pl.take k)).ex (wsP w s (r.pl.take k)).ps i k _ ?_
    simp only[au,dt,an,getD_map 0 h,cp]
    rw[if_pos (by omega)]
    refine⟨inl,?_⟩
    rw[if_pos (by rfl)]
    obtain⟨t,htd⟩:∃ t,t=wsP w s (r.pl.take k):=⟨_,rfl⟩
    obtain⟨p,hp⟩:∃ p,p=r.pl.getD k 0:=⟨_,rfl⟩
    rw[← htd,← hp] at hsucc
    simp only[← hp,← htd] at hpl ⊢
    have htl:t.ps.length+1≤1000000:=by rw[hsucc] at hpl2; simpa[ws1] using hpl2
    have tail:∀ b1 b2:Bool,b1=(ws1 w t p).ids→b2=(ws1 w t p).ex→∃ s':Nat,r.pl.length-s'<r.pl.length-k∧s'≤r.pl.length∧ej 4 [.ptr 0 0,.list (b.map rrc) .no,.list (l.map rrc) .no,.bool b1,.bool sz,.bool b2,.list (t.ps.map u1++[[.U p]]) (.tok 5),.list (l.map rrc) .no,.I l.length,.I i,.ptr 3 0,.list (r.pl.map u1) .no,.I r.pl.length,.I (wI ((k:Int)+1))] [.cells [.ptr 1 0],.abs (rkM (aq w) m),.dead,.cells (rrc r),.dead,.tok] (if s'=0 then [.ptr 0 0,.list (b.map rrc) .no,.list (l.map rrc) .no,.bool s.ids,.bool sz,.bool s.ex,.list (s.ps.map u1) (.tok 2),.list (l.map rrc) .no,.I l.length,.I i,.ptr 3 0,.list (r.pl.map u1) .no,.I r.pl.length,.I 0] else [.ptr 0 0,.list (b.map rrc) .no,.list (l.map rrc) .no,.bool (wsP w s (r.pl.take s')).ids,.bool sz,.bool (wsP w s (r.pl.take s')).ex,.list ((wsP w s (r.pl.take s')).ps.map u1) (.tok 4),.list (l.map rrc) .no,.I l.length,.I i,.ptr 3 0,.list (r.pl.map u1) .no,.I r.pl.length,.I s']) (if s'=0 then [.cells [.ptr 1 0],.abs (rkM (aq w) m),.tok,.cells (rrc r)] else [.cells [.ptr 1 0],.abs (rkM (aq w) m),.dead,.cells (rrc r),.tok]):=by
     rintro b1 b2 rfl rfl
     refine⟨k+1,by omega,h,?_⟩
     rw[if_neg (by omega),if_neg (by omega),hsucc,ar h (by omega)]
     refine aT [0,1,2,3,5] (WkL.refl _) (.cons rfl (.cells (.cons (.ptr (ρ:=fun o=>[0,1,2,3,5].getD o 0) 1 0 (by simp)) .nil)) (.cons rfl (.abs _) (.cons rfl (.dead _) (.cons rfl (.cells (aW.low (bJ r))) (.cons rfl .tok .nil))))) (by decide) (by simp) (fun o ho=>?_) (gE ⟨by simp,rfl⟩ ⟨by simp,rfl⟩ ?_)
     ·match o,ho with
      | 0,_=>rfl
      | 1,_=>rfl
      | 2,_=>rfl
      | 3,_=>rfl
     ·have:=Ren.ltok (ρ:=fun o=>[0,1,2,3,5].getD o 0) (n:=5) ((ws1 w t p).ps.map u1) 4 (by decide) (hlow _)
      have e2:(ws1 w t p).ps.map u1=t.ps.map u1++[[.U p]]:=by show(t.ps++[p]).map u1=_; rw[List.map_append]; rfl
      rw[← e2]; exact this
    have ap:aG (t.ps.map u1) [[.U p]] 1 4∧(List.all [PV.U p] PV.one=true∧[[PV.U p]]≠[]):=⟨aE (f:=u1) da t.ps p (by omega),one_row dy p⟩
    by_cases hi:t.ids=false
    ·rw[if_pos (by rw[hi]; rfl)]
     by_cases hx:t.ex=false
     ·rw[if_pos (by rw[hx]; rfl)]
      refine⟨t.ps,.tok 4,p,rfl,(by omega),?_⟩
      by_cases hm:cJ t.ps p=false
      ·rw[if_pos (by rw[hm]; rfl)]
       exact⟨0,1,w,m,p,rfl,⟨rfl,rfl⟩,ro,ap.1,ap.2,tail _ _ (by simp[ws1,hi]) (by simp[ws1,hx,hm])⟩
      ·rw[if_neg (by simpa using hm)]
       exact⟨ap.1,ap.2,tail _ _ (by simp[ws1,hi]) (by simp only[ws1]; rw[bnf hm]; simp)⟩
     ·rw[if_neg (by simpa using hx)]
      exact⟨ap.1,ap.2,tail _ _ (by simp[ws1,hi]) (by simp[ws1,bnf hx])⟩
    ·rw[if_neg (by simpa using hi)]
     by_cases hx:t.ex=false
     ·rw[if_pos (by rw[hx]; rfl)]
      refine⟨t.ps,.tok 4,p,rfl,(by omega),?_⟩
      by_cases hm:cJ t.ps p=false
      ·rw[if_pos (by rw[hm]; rfl)]
       exact⟨0,1,w,m,p,rfl,⟨rfl,rfl⟩,ro,ap.1,ap.2,tail _ _ (by simp[ws1,bnf hi]) (by simp[ws1,hx,hm])⟩
      ·rw[if_neg (by simpa using hm)]
       exact⟨ap.1,ap.2,tail _ _ (by simp[ws1,bnf hi]) (by simp only[ws1]; rw[bnf hm]; simp)⟩
     ·rw[if_neg (by simpa using hx)]
      exact⟨ap.1,ap.2,tail _ _ (by simp[ws1,bnf hi]) (by simp[ws1,bnf hx])⟩
  ·have hkl:k=r.pl.length:=by omega
   subst hkl
   by_cases k0:r.pl.length=0
   ·have hn:r.pl=[]:=List.length_eq_zero_iff.1 k0
    simp only[if_pos k0]
    refine ul w m b l r s.ids sz s.ex s.ps i 0 _ ?_
    simp only[au,dt]
    rw[if_neg (by omega)]
    refine⟨_,_,aT [0,1,2,3] (WkL.refl _) (.cons rfl (.cells (.cons (.ptr (ρ:=fun o=>[0,1,2,3].getD o 0) 1 0 (by simp)) .nil)) (.cons rfl (.abs _) (.cons rfl .tok (.cons rfl (.cells (aW.low (bJ r))) .nil)))) (by decide) (by simp) (fun o ho=>?_) (gE ⟨by simp,rfl⟩ ⟨by simp,rfl⟩ (.ltok (ρ:=fun o=>[0,1,2,3].getD o 0) _ 2 (by simp) (bp fun a _=>bO a))),hQ0 hn⟩
    match o,ho with
    | 0,_=>rfl
    | 1,_=>rfl
    | 2,_=>rfl
    | 3,_=>rfl
   ·have hn:r.pl≠[]:=fun e=>k0 (by rw[e]; rfl)
    simp only[if_neg k0]
    refine uR w m b l r (wsP w s (r.pl.take r.pl.length)).ids sz (wsP w s (r.pl.take r.pl.length)).ex (wsP w s (r.pl.take r.pl.length)).ps i r.pl.length _ ?_
    simp only[au,dt]
    rw[if_neg (by omega),List.take_length]
    refine⟨_,_,aT [0,1,2,3,4] (WkL.refl _) (.cons rfl (.cells (.cons (.ptr (ρ:=fun o=>[0,1,2,3,4].getD o 0) 1 0 (by simp)) .nil)) (.cons rfl (.abs _) (.cons rfl (.dead _) (.cons rfl (.cells (aW.low (bJ r))) (.cons rfl .tok .nil))))) (by decide) (by simp) (fun o ho=>?_) (gE ⟨by simp,rfl⟩ ⟨by simp,rfl⟩ (.ltok (ρ:=fun o=>[0,1,2,3,4].getD o 0) _ 4 (by simp) (bp fun a _=>bO a))),hQ1 hn⟩
    match o,ho with
    | 0,_=>rfl
    | 1,_=>rfl
    | 2,_=>rfl
    | 3,_=>rfl
theorem xx:ai [1,1,0,0,1,1,1,0] (ai [1,1,1,0,1,0] (ag Tryz.f56))=ai [1,1,1,0,1,0,0,1,1,0,0,1,1,1,0] (ag Tryz.f56):=by kernel_rfl
theorem oS:∀ e H Q,wO e H Q→AwK Tryz.f56.ntmps (.loop (ai [1,1,0,0,1,1,1,0] (ai [1,1,1,0,1,0] (ag Tryz.f56)))) Q e H:=by
 rw[xx]; exact za
theorem qd:∀ e H Q,vR e H Q→AwK Tryz.f56.ntmps (.loop (ai [1,1,0,0,1,1,1,0] (ai [1,1,1,0,1,0] (ag Tryz.f56)))) Q e H:=by
 rw[xx]; exact zh
theorem Kw (w:List Mt) (m:Int) (b l:List Rr) (ids sz ex:Bool) (r:Rr) (i:Nat):(by refine(?_:_→_→_→_→_→Prop) (PV.list (l.map rrc) .no) (PV.list (b.map rrc) .no) (↑(List.length (r.pl.map u1)):Int) (PV.I l.length) (Ob.abs (rkM (aq w) m)); exact fun f g h j k=>by refine(?_:_→Prop) [Ob.cells [.ptr 1 0],k,.cells [.I r.tm,.list (r.pl.map u1) .no,.I r.rt,.I r.wd]]; exact fun d=>∀(R:Ex→List PV→ae→Prop),by refine(?_:_→Prop) (R .normal [.ptr 0 0,g,f,.bool ids,.bool true,.bool ex,.E,f,j,.I i,.ptr 2 0] d); exact fun a=>by refine(?_:_→Prop) (br (decide (h<1) == false) (R .normal [.ptr 0 0,g,f,.bool ids,.bool (decide (h>4)),.bool ex,.E,f,j,.I i,.ptr 2 0] d) a); exact fun c=>(br (sz == false) (br ((r.tm != 1) == true) (br ((r.tm != 2) == false) c a) c) a)→Holds (wpK [] [] (fun _=>0) (b5 [1,1,1,0,1,0,0,1,1,0,0,1,0] (ag Tryz.f56)) [] (ak [0,1,2,6,7,8,9,19,20,21,11] [.ptr 0 0,g,f,.bool ids,.bool sz,.bool ex,.E,f,j,.I i,.ptr 2 0]) [.cells [.ptr 1 0],k,.cells (rrc r)] (fun ex e H=>R ex (List.map e [0,1,2,6,7,8,9,19,20,21,11]) H)):Prop):=fun R h=>hoE h
theorem Lp (w:List Mt) (m:Int) (b l:List Rr) (ids sz ex:Bool) (ps:List Int) (r:Rr) (i:Nat):(by refine(?_:_→_→_→_→_→_→Prop) (PV.list (l.map rrc) .no) (PV.list (ps.map u1) (.tok 2)) (PV.list (b.map rrc) .no) (↑(List.length (r.pl.map u1)):Int) (PV.I l.length) (Ob.abs (rkM (aq w) m)); exact fun f g h j k n=>by refine(?_:_→Prop) [Ob.cells [.ptr 1 0],n,.tok,.cells [.I r.tm,.list (r.pl.map u1) .no,.I r.rt,.I r.wd]]; exact fun d=>∀(R:Ex→List PV→ae→Prop),by refine(?_:_→Prop) (R .normal [.ptr 0 0,h,f,.bool ids,.bool true,.bool ex,g,f,k,.I i,.ptr 3 0] d); exact fun a=>by refine(?_:_→Prop) (br (decide (j<1) == false) (R .normal [.ptr 0 0,h,f,.bool ids,.bool (decide (j>4)),.bool ex,g,f,k,.I i,.ptr 3 0] d) a); exact fun c=>(br (sz == false) (br ((r.tm != 1) == true) (br ((r.tm != 2) == false) c a) c) a)→Holds (wpK [] [] (fun _=>0) (b5 [1,1,1,0,1,0,0,1,1,0,0,1,0] (ag Tryz.f56)) [] (ak [0,1,2,6,7,8,9,19,20,21,11] [.ptr 0 0,h,f,.bool ids,.bool sz,.bool ex,g,f,k,.I i,.ptr 3 0]) [.cells [.ptr 1 0],n,.tok,.cells (rrc r)] (fun ex e H=>R ex (List.map e [0,1,2,6,7,8,9,19,20,21,11]) H)):Prop):=fun R h=>hoE h
def BW:LSp:=fun e H Q=>∃(w:List Mt) (m:Int) (b l:List Rr) (r:Rr) (ids sz ex:Bool) (i:Nat),r.pl.length≤1000000∧ah (List.map e [0,1,2,6,7,8,9,19,20,21,11]) [.ptr 0 0,.list (b.map rrc) .no,.list (l.map rrc) .no,.bool ids,.bool sz,.bool ex,.E,.list (l.map rrc) .no,.I l.length,.I i,.ptr 2 0]∧av H [.cells [.ptr 1 0],.abs (rkM (aq w) m),.cells (rrc r)]∧Q .normal (ak [0,1,2,6,7,8,9,19,20,21,11] [.ptr 0 0,.list (b.map rrc) .no,.list (l.map rrc) .no,.bool ids,.bool (sz || bZ r),.bool ex,.E,.list (l.map rrc) .no,.I l.length,.I i,.ptr 2 0]) [.cells [.ptr 1 0],.abs (rkM (aq w) m),.cells (rrc r)]
theorem Cg:∀ e H Q,BW e H Q→AwK Tryz.f56.ntmps (b5 [1,1,1,0,1,0,0,1,1,0,0,1,0] (ag Tryz.f56)) Q e H:=by
 rintro e H Q ⟨w,m,b,l,r,ids,sz,ex,i,hrl,he,hH,hQ⟩
 have hH:H=_:=hH
 subst hH
 have he:List.map e [0,1,2,6,7,8,9,19,20,21,11]=_:=he
 refine dj (T:=[]) (slots:=[0,1,2,6,7,8,9,19,20,21,11]) (outs:=[0,1,2,6,7,8,9,19,20,21,11]) (hn:=fun _=>0) (.nil _ _) (.nil _ _ _ _ _) he rfl (Kw w m b l ids sz ex r i (fun ex' vs H'=>Q ex' (ak [0,1,2,6,7,8,9,19,20,21,11] vs) H') ?_)
 simp only[au,List.length_map]
 have tail:∀ z:Bool,z=(sz || bZ r)→Q .normal (ak [0,1,2,6,7,8,9,19,20,21,11] [.ptr 0 0,.list (b.map rrc) .no,.list (l.map rrc) .no,.bool ids,.bool z,.bool ex,.E,.list (l.map rrc) .no,.I l.length,.I i,.ptr 2 0]) [.cells [.ptr 1 0],.abs (rkM (aq w) m),.cells (rrc r)]:=by rintro z rfl; exact hQ
 unfold bZ at tail
 by_cases h0:sz=false
 ·rw[if_pos (by rw[h0]; rfl)]
  by_cases h1:(r.tm != 1)=true
  ·rw[if_pos (by rw[h1]; rfl)]
   by_cases h2:(r.tm != 2)=false
   ·rw[if_pos (by rw[h2]; rfl)]
    by_cases h3:r.pl.length<1
    ·rw[if_neg (by simp; omega)]; exact tail _ (by rw[decide_eq_true h3]; simp)
    ·rw[if_pos (by simp; omega)]; exact tail _ (by rw[h0,h1,h2,decide_eq_false h3]; simp; omega)
   ·rw[if_neg (by simpa using h2)]; exact tail _ (by rw[h1,bnf h2]; simp)
  ·rw[if_neg (by simpa using h1)]
   have h1':(r.tm != 1)=false:=by simpa using h1
   by_cases h3:r.pl.length<1
   ·rw[if_neg (by simp; omega)]; exact tail _ (by rw[decide_eq_true h3]; simp)
   ·rw[if_pos (by simp; omega)]; exact tail _ (by rw[h0,h1',decide_eq_false h3]; simp; omega)
 ·rw[if_neg (by simpa using h0)]; exact tail _ (by rw[bnf h0]; simp)
theorem Gp:b5 [1,1,0,0,1,0] (ai [1,1,1,0,1,0] (ag Tryz.f56))=b5 [1,1,1,0,1,0,0,1,1,0,0,1,0] (ag Tryz.f56):=by kernel_rfl
theorem qY:∀ e H Q,BW e H Q→AwK Tryz.f56.ntmps (b5 [1,1,0,0,1,0] (ai [1,1,1,0,1,0] (ag Tryz.f56))) Q e H:=by
 rw[Gp]; exact Cg
def BL:LSp:=fun e H Q=>∃(w:List Mt) (m:Int) (b l:List Rr) (r:Rr) (ids sz ex:Bool) (ps:List Int) (i:Nat),r.pl.length≤1000000∧ah (List.map e [0,1,2,6,7,8,9,19,20,21,11]) [.ptr 0 0,.list (b.map rrc) .no,.list (l.map rrc) .no,.bool ids,.bool sz,.bool ex,.list (ps.map u1) (.tok 2),.list (l.map rrc) .no,.I l.length,.I i,.ptr 3 0]∧av H [.cells [.ptr 1 0],.abs (rkM (aq w) m),.tok,.cells (rrc r)]∧Q .normal (ak [0,1,2,6,7,8,9,19,20,21,11] [.ptr 0 0,.list (b.map rrc) .no,.list (l.map rrc) .no,.bool ids,.bool (sz || bZ r),.bool ex,.list (ps.map u1) (.tok 2),.list (l.map rrc) .no,.I l.length,.I i,.ptr 3 0]) [.cells [.ptr 1 0],.abs (rkM (aq w) m),.tok,.cells (rrc r)]
theorem B3:∀ e H Q,BL e H Q→AwK Tryz.f56.ntmps (b5 [1,1,1,0,1,0,0,1,1,0,0,1,0] (ag Tryz.f56)) Q e H:=by
 rintro e H Q ⟨w,m,b,l,r,ids,sz,ex,ps,i,hrl,he,hH,hQ⟩
 have hH:H=_:=hH
 subst hH
 have he:List.map e [0,1,2,6,7,8,9,19,20,21,11]=_:=he
 refine dj (T:=[]) (slots:=[0,1,2,6,7,8,9,19,20,21,11]) (outs:=[0,1,2,6,7,8,9,19,20,21,11]) (hn:=fun _=>0) (.nil _ _) (.nil _ _ _ _ _) he rfl (Lp w m b l ids sz ex ps r i (fun ex' vs H'=>Q ex' (ak [0,1,2,6,7,8,9,19,20,21,11] vs) H') ?_)
 simp only[au,List.length_map]
 have tail:∀ z:Bool,z=(sz || bZ r)→Q .normal (ak [0,1,2,6,7,8,9,19,20,21,11] [.ptr 0 0,.list (b.map rrc) .no,.list (l.map rrc) .no,.bool ids,.bool z,.bool ex,.list (ps.map u1) (.tok 2),.list (l.map rrc) .no,.I l.length,.I i,.ptr 3 0]) [.cells [.ptr 1 0],.abs (rkM (aq w) m),.tok,.cells (rrc r)]:=by rintro z rfl; exact hQ
 unfold bZ at tail
 by_cases h0:sz=false
 ·rw[if_pos (by rw[h0]; rfl)]
  by_cases h1:(r.tm != 1)=true
  ·rw[if_pos (by rw[h1]; rfl)]
   by_cases h2:(r.tm != 2)=false
   ·rw[if_pos (by rw[h2]; rfl)]
    by_cases h3:r.pl.length<1
    ·rw[if_neg (by simp; omega)]; exact tail _ (by rw[decide_eq_true h3]; simp)
    ·rw[if_pos (by simp; omega)]; exact tail _ (by rw[h0,h1,h2,decide_eq_false h3]; simp; omega)
   ·rw[if_neg (by simpa using h2)]; exact tail _ (by rw[h1,bnf h2]; simp)
  ·rw[if_neg (by simpa using h1)]
   have h1':(r.tm != 1)=false:=by simpa using h1
   by_cases h3:r.pl.length<1
   ·rw[if_neg (by simp; omega)]; exact tail _ (by rw[decide_eq_true h3]; simp)
   ·rw[if_pos (by simp; omega)]; exact tail _ (by rw[h0,h1',decide_eq_false h3]; simp; omega)
 ·rw[if_neg (by simpa using h0)]; exact tail _ (by rw[bnf h0]; simp)
theorem Gb:b5 [1,1,0,0,1,0] (ai [1,1,1,0,1,0] (ag Tryz.f56))=b5 [1,1,1,0,1,0,0,1,1,0,0,1,0] (ag Tryz.f56):=by kernel_rfl
theorem rm:∀ e H Q,BL e H Q→AwK Tryz.f56.ntmps (b5 [1,1,0,0,1,0] (ai [1,1,1,0,1,0] (ag Tryz.f56))) Q e H:=by
 rw[Gb]; exact B3
theorem wV (w:List Mt) (m:Int) (b l:List Rr) (ids sz ex:Bool) (i:Nat):(by refine(?_:_→_→_→_→_→_→Prop) (List.getD (l.map rrc) (Int.toNat (i:Int)) []) (PV.list (l.map rrc) .no) (Ob.abs (rkM (aq w) m)) (Ob.cells [.ptr 1 0]) (PV.list (b.map rrc) .no) (PV.I l.length); exact fun u x y A B C=>by refine(?_:_→_→Prop) [PV.ptr 0 0,B,x,.bool ids,.bool sz,.bool ex,.E,x,C,.I i] [A,y]; exact fun v z=>∀(R:Ex→List PV→ae→Prop),(br (decide ((i:Int)<(l.length:Int))) (InL (l.map rrc) 4 (i:Int)∧br (true && aD [.int .i64,.list,.int .i64,.int .i64] 0 u) (∃(w_1:List Mt) (m_1:Int) (b_1:List Rr) (l_1:List Rr) (r:Rr) (ids_1:Bool) (sz_1:Bool) (ex_1:Bool) (i_1:Nat),by refine(?_:_→_→_→_→Prop) (PV.list (l_1.map rrc) .no) (PV.list (r.pl.map u1) .no) (PV.list (b_1.map rrc) .no) (PV.I l_1.length); exact fun o p q t=>by refine(?_:_→Prop) [A,.abs (rkM (aq w_1) m_1),.cells [.I r.tm,p,.I r.rt,.I r.wd]]; exact fun n=>r.pl.length≤1000000∧ah [.ptr 0 0,B,x,.bool ids,.bool sz,.bool ex,.E,x,C,.I i,.ptr 2 0] [.ptr 0 0,q,o,.bool ids_1,.bool sz_1,.bool ex_1,.E,o,t,.I i_1,.ptr 2 0]∧av [.cells [.ptr 1 0],y,.cells [.I (cI u 0),.list (cL u 1) (cT u 1),.I (cI u 2),.I (cI u 3)]] n∧∃(w:List Mt) (m:Int) (b:List Rr) (l:List Rr) (r_1:Rr) (s:WS) (sz:Bool) (i:Nat),by refine(?_:_→_→_→_→_→_→Prop) (PV.list (l.map rrc) .no) (PV.list (b.map rrc) .no) (PV.I l.length) (PV.I (wI ((i:Int)+1))) (PV.list (r_1.pl.map u1) .no) (Ob.abs (rkM (aq w) m)); exact fun c f g h j k=>by refine(?_:_→Prop) (Ob.cells [.I r_1.tm,j,.I r_1.rt,.I r_1.wd]); exact fun a=>by refine(?_:_→Prop) [A,k,a]; exact fun d=>MO w m∧r_1.pl.length≤1000000∧s.ps.length+r_1.pl.length≤1000000∧s.ps=[]∧ah [.ptr 0 0,q,o,.bool ids_1,.bool (sz_1 || bZ r),.bool ex_1,.E,o,t,.I i_1,.ptr 2 0,p,.I (↑(List.length (r.pl.map u1)):Int),.I 0] [.ptr 0 0,f,c,.bool s.ids,.bool sz,.bool s.ex,.E,c,g,.I i,.ptr 2 0,j,.I r_1.pl.length,.I 0]∧av n d∧(r_1.pl=[]→R .normal [.ptr 0 0,f,c,.bool s.ids,.bool sz,.bool s.ex,.E,c,g,h] d)∧(r_1.pl≠[]→R .normal [.ptr 0 0,f,c,.bool (WS.ids (wsP w s r_1.pl)),.bool sz,.bool (WS.ex (wsP w s r_1.pl)),.list (List.map u1 (WS.ps (wsP w s r_1.pl))) (.tok 3),c,g,h] [.cells [.ptr 1 0],k,a,.tok])) False) (R (.exit 0) v z))→Holds (wpK TWR [([1,1,0,0,1,1,1,0],wO),([1,1,0,0,1,0],BW)] (fun _=>0) (ai [1,1,1,0,1,0] (ag Tryz.f56)) [] (ak [0,1,2,6,7,8,9,19,20,21] v) z (fun ex e H=>R ex (List.map e [0,1,2,6,7,8,9,19,20,21]) H)):Prop):=fun R h=>hoE h
theorem yD (w:List Mt) (m:Int) (b l:List Rr) (ids sz ex:Bool) (ps:List Int) (i:Nat):(by refine(?_:_→_→_→_→_→_→_→Prop) (List.getD (l.map rrc) (Int.toNat (i:Int)) []) (PV.list (l.map rrc) .no) (Ob.cells [.ptr 1 0]) (PV.list (ps.map u1) (.tok 2)) (Ob.abs (rkM (aq w) m)) (PV.list (b.map rrc) .no) (PV.I l.length); exact fun x z B C D E F=>by refine(?_:_→_→Prop) [PV.ptr 0 0,E,z,.bool ids,.bool sz,.bool ex,C,z,F,.I i] [B,D,.tok]; exact fun y A=>∀(R:Ex→List PV→ae→Prop),(br (decide ((i:Int)<(l.length:Int))) (InL (l.map rrc) 4 (i:Int)∧br (true && aD [.int .i64,.list,.int .i64,.int .i64] 0 x) (∃(w_1:List Mt) (m_1:Int) (b_1:List Rr) (l_1:List Rr) (r:Rr) (ids_1:Bool) (sz_1:Bool) (ex_1:Bool) (ps_1:List Int) (i_1:Nat),by refine(?_:_→_→_→_→_→Prop) (PV.list (l_1.map rrc) .no) (PV.list (ps_1.map u1) (.tok 2)) (PV.list (r.pl.map u1) .no) (PV.list (b_1.map rrc) .no) (PV.I l_1.length); exact fun p q t u v=>by refine(?_:_→Prop) [B,.abs (rkM (aq w_1) m_1),.tok,.cells [.I r.tm,t,.I r.rt,.I r.wd]]; exact fun o=>r.pl.length≤1000000∧ah [.ptr 0 0,E,z,.bool ids,.bool sz,.bool ex,C,z,F,.I i,.ptr 3 0] [.ptr 0 0,u,p,.bool ids_1,.bool sz_1,.bool ex_1,q,p,v,.I i_1,.ptr 3 0]∧av [.cells [.ptr 1 0],D,.tok,.cells [.I (cI x 0),.list (cL x 1) (cT x 1),.I (cI x 2),.I (cI x 3)]] o∧∃(w:List Mt) (m:Int) (b:List Rr) (l:List Rr) (r_1:Rr) (s:WS) (sz:Bool) (i:Nat),by refine(?_:_→_→_→_→_→_→_→Prop) (PV.list (l.map rrc) .no) (PV.list (b.map rrc) .no) (PV.I l.length) (PV.I (wI ((i:Int)+1))) (PV.list (s.ps.map u1) (.tok 2)) (PV.list (r_1.pl.map u1) .no) (Ob.abs (rkM (aq w) m)); exact fun c f g h j k n=>by refine(?_:_→Prop) (Ob.cells [.I r_1.tm,k,.I r_1.rt,.I r_1.wd]); exact fun a=>by refine(?_:_→Prop) [B,n,.tok,a]; exact fun d=>MO w m∧r_1.pl.length≤1000000∧s.ps.length+r_1.pl.length≤1000000∧ah [.ptr 0 0,u,p,.bool ids_1,.bool (sz_1 || bZ r),.bool ex_1,q,p,v,.I i_1,.ptr 3 0,t,.I (↑(List.length (r.pl.map u1)):Int),.I 0] [.ptr 0 0,f,c,.bool s.ids,.bool sz,.bool s.ex,j,c,g,.I i,.ptr 3 0,k,.I r_1.pl.length,.I 0]∧av o d∧(r_1.pl=[]→R .normal [.ptr 0 0,f,c,.bool s.ids,.bool sz,.bool s.ex,j,c,g,h] d)∧(r_1.pl≠[]→R .normal [.ptr 0 0,f,c,.bool (WS.ids (wsP w s r_1.pl)),.bool sz,.bool (WS.ex (wsP w s r_1.pl)),.list (List.map u1 (WS.ps (wsP w s r_1.pl))) (.tok 4),c,g,h] [.cells [.ptr 1 0],n,.dead,a,.tok])) False) (R (.exit 0) y A))→Holds (wpK TWR [([1,1,0,0,1,1,1,0],vR),([1,1,0,0,1,0],BL)] (fun _=>0) (ai [1,1,1,0,1,0] (ag Tryz.f56)) [] (ak [0,1,2,6,7,8,9,19,20,21] y) A (fun ex e H=>R ex (List.map e [0,1,2,6,7,8,9,19,20,21]) H)):Prop):=fun R h=>hoE h
theorem jG {ρ:Nat→Nat} {n:Nat} {b l:List Rr} {ids sz ex:Bool} {z:Int} {T T':PV} (h0:0<n∧ρ 0=0) (hT:Ren ρ n T T'):aW ρ n [.ptr 0 0,.list (b.map rrc) .no,.list (l.map rrc) .no,.bool ids,.bool sz,.bool ex,T,.list (l.map rrc) .no,.I l.length,.I z] [.ptr 0 0,.list (b.map rrc) .no,.list (l.map rrc) .no,.bool ids,.bool sz,.bool ex,T',.list (l.map rrc) .no,.I l.length,.I z]:=by
 have e0:=Ren.ptr (ρ:=ρ) (n:=n) 0 0 h0.1
 rw[h0.2] at e0
 exact .cons e0 (.cons (.low (aR _)) (.cons (.low (aR _)) (.cons (.low (.bool _)) (.cons (.low (.bool _)) (.cons (.low (.bool _)) (.cons hT (.cons (.low (aR _)) (.cons (.low (.int _ _)) (.cons (.low (.int _ _)) .nil)))))))))
theorem tT {l:List Rr} {k:Nat} (h:k<l.length):(l.take (k+1)).any bZ=((l.take k).any bZ || bZ (l.getD k default)):=by
 rw[aJ default h,List.any_append]; simp
def ws0:WS:=⟨false,false,[]⟩
def JZ:LSp:=fun e H Q=>∃(w:List Mt) (m:Int) (b l:List Rr) (sz:Bool),MO w m∧l.length≤1000000∧tot l≤1000000∧ah (List.map e [0,1,2,6,7,8,9,19,20,21]) [.ptr 0 0,.list (b.map rrc) .no,.list (l.map rrc) .no,.bool false,.bool sz,.bool false,.E,.list (l.map rrc) .no,.I l.length,.I 0]∧av H [.cells [.ptr 1 0],.abs (rkM (aq w) m)]∧∀(T:PV) (G:ae),Q (.exit 0) (ak [0,1,2,6,7,8,9,19,20,21] [.ptr 0 0,.list (b.map rrc) .no,.list (l.map rrc) .no,.bool (wsR w ws0 l).ids,.bool (sz || l.any bZ),.bool (wsR w ws0 l).ex,T,.list (l.map rrc) .no,.I l.length,.I l.length]) ([.cells [.ptr 1 0],.abs (rkM (aq w) m)]++G)
theorem BT:∀ e H Q,JZ e H Q→AwK Tryz.f56.ntmps (.loop (ai [1,1,1,0,1,0] (ag Tryz.f56))) Q e H:=by
 rintro e H Q ⟨w,m,b,l,sz,ro,hl,ht,he,hH,hQ⟩
 have hH:H=_:=hH
 have he:List.map e [0,1,2,6,7,8,9,19,20,21]=_:=he
 have hHl:H.length=2:=by rw[hH]; rfl
 have hpl:∀ r∈l,r.pl.length≤1000000:=fun r hr=>Nat.le_trans (vq hr) ht
 refine uV (σ:=Nat) aj [0,1,2,6,7,8,9,19,20,21] (fun i=>i≤l.length) (fun i=>if(wsR w ws0 (l.take i)).ps=[] then [.ptr 0 0,.list (b.map rrc) .no,.list (l.map rrc) .no,.bool (wsR w ws0 (l.take i)).ids,.bool (sz || (l.take i).any bZ),.bool (wsR w ws0 (l.take i)).ex,.E,.list (l.map rrc) .no,.I l.length,.I i] else [.ptr 0 0,.list (b.map rrc) .no,.list (l.map rrc) .no,.bool (wsR w ws0 (l.take i)).ids,.bool (sz || (l.take i).any bZ),.bool (wsR w ws0 (l.take i)).ex,.list ((wsR w ws0 (l.take i)).ps.map u1) (.tok 2),.list (l.map rrc) .no,.I l.length,.I i]) (fun i=>if(wsR w ws0 (l.take i)).ps=[] then [.cells [.ptr 1 0],.abs (rkM (aq w) m)] else [.cells [.ptr 1 0],.abs (rkM (aq w) m),.tok]) (fun i=>l.length-i) 0 (Nat.zero_le _) (by rw[he,List.take_zero,if_pos (show(wsR w ws0 []).ps=[] from rfl)]; simp[wsR,ws0]) (by rw[hH,List.take_zero,if_pos (show(wsR w ws0 []).ps=[] from rfl)]) ?_
 rw[hHl]
 intro i hi
 have hi:i≤l.length:=hi
 by_cases h:i<l.length
 ·obtain⟨r,hr⟩:∃ r,r=l.getD i default:=⟨_,rfl⟩
  have hsucc:=uG w ws0 h
  have hany:=tT h
  rw[← hr] at hsucc hany
  have hrl:r.pl.length≤1000000:=hpl r (by rw[hr]; exact aY h)
  have hsl:(wsR w ws0 (l.take i)).ps.length+r.pl.length≤1000000:=by
   have h1:=sU w (l.take (i+1)) ws0
   have h2:=fW (l:=l) (i+1)
   rw[hsucc,fc,List.length_append] at h1
   have:ws0.ps.length=0:=rfl
   omega
  have inl:InL (l.map rrc) 4 (i:Int):=by rw[ee]; exact h
  have hps:=fc w r.pl (wsR w ws0 (l.take i))
  have tailE:r.pl=[]→wsP w (wsR w ws0 (l.take i)) r.pl=wsR w ws0 (l.take i):=fun e=>by rw[e]; rfl
  have hor:(sz || (l.take (i+1)).any bZ)=((sz || (l.take i).any bZ) || bZ r):=by rw[hany,Bool.or_assoc]
  by_cases h0:(wsR w ws0 (l.take i)).ps=[]
  ·simp only[if_pos h0]
   refine aZ kI _ [] (.cons suE oS (.cons atE qY (.nil _ _ _ _ _))) _ _ _ (wV w m b l (wsR w ws0 (l.take i)).ids (sz || (l.take i).any bZ) (wsR w ws0 (l.take i)).ex i _ ?_).out
   simp only[au,dt,an,getD_map default h,← hr]
   rw[if_pos (by omega)]
   refine⟨inl,?_⟩
   rw[if_pos (by rfl)]
   refine⟨w,m,b,l,r,_,_,_,i,hrl,rfl,rfl,w,m,b,l,r,wsR w ws0 (l.take i),(sz || (l.take i).any bZ || bZ r),i,ro,hrl,hsl,h0,(by show _=_; simp only[List.length_map]),rfl,fun hn=>?_,fun hn=>?_⟩
   ·have e2:(wsR w ws0 (l.take (i+1))).ps=[]:=by rw[hsucc,tailE hn]; exact h0
    refine⟨i+1,(show l.length-(i+1)<l.length-i by omega),h,?_⟩
    simp only[if_pos e2]
    rw[hor,hsucc,tailE hn,ar h (by omega)]
    exact aT [0,1] (WkL.refl _) (.cons rfl (.cells (.cons (.ptr (ρ:=fun o=>[0,1].getD o 0) 1 0 (by simp)) .nil)) (.cons rfl (.abs _) .nil)) (by decide) (by simp) (fun o ho=>by match o,ho with|0,_=>rfl|1,_=>rfl) (jG ⟨by simp,rfl⟩ (.low (aH NT.exact (by simp))))
   ·have e2:(wsR w ws0 (l.take (i+1))).ps≠[]:=by rw[hsucc,hps,h0]; simpa using hn
    refine⟨i+1,(show l.length-(i+1)<l.length-i by omega),h,?_⟩
    simp only[if_neg e2]
    rw[hor,hsucc,ar h (by omega)]
    exact aT [0,1,3] (WkL.refl _) (.cons rfl (.cells (.cons (.ptr (ρ:=fun o=>[0,1,3].getD o 0) 1 0 (by simp)) .nil)) (.cons rfl (.abs _) (.cons rfl .tok .nil))) (by decide) (by simp) (fun o ho=>by match o,ho with|0,_=>rfl|1,_=>rfl) (jG ⟨by simp,rfl⟩ (.ltok (ρ:=fun o=>[0,1,3].getD o 0) _ 2 (by simp) (bp fun a _=>bO a)))
  ·simp only[if_neg h0]
   refine aZ kI _ [] (.cons suE qd (.cons atE rm (.nil _ _ _ _ _))) _ _ _ (yD w m b l (wsR w ws0 (l.take i)).ids (sz || (l.take i).any bZ) (wsR w ws0 (l.take i)).ex (wsR w ws0 (l.take i)).ps i _ ?_).out
   simp only[au,dt,an,getD_map default h,← hr]
   rw[if_pos (by omega)]
   refine⟨inl,?_⟩
   rw[if_pos (by rfl)]
   refine⟨w,m,b,l,r,_,_,_,_,i,hrl,rfl,rfl,w,m,b,l,r,wsR w ws0 (l.take i),(sz || (l.take i).any bZ || bZ r),i,ro,hrl,hsl,(by show _=_; simp only[List.length_map]),rfl,fun hn=>?_,fun hn=>?_⟩
   ·have e2:(wsR w ws0 (l.take (i+1))).ps≠[]:=by rw[hsucc,tailE hn]; exact h0
    refine⟨i+1,(show l.length-(i+1)<l.length-i by omega),h,?_⟩
    simp only[if_neg e2]
    rw[hor,hsucc,tailE hn,ar h (by omega)]
    exact aT [0,1,2] (WkL.refl _) (.cons rfl (.cells (.cons (.ptr (ρ:=fun o=>[0,1,2].getD o 0) 1 0 (by simp)) .nil)) (.cons rfl (.abs _) (.cons rfl .tok .nil))) (by decide) (by simp) (fun o ho=>by match o,ho with|0,_=>rfl|1,_=>rfl) (jG ⟨by simp,rfl⟩ (.ltok (ρ:=fun o=>[0,1,2].getD o 0) _ 2 (by simp) (bp fun a _=>bO a)))
   ·have e2:(wsR w ws0 (l.take (i+1))).ps≠[]:=by rw[hsucc,hps]; exact fun e=>h0 (List.append_eq_nil_iff.1 e).1
    refine⟨i+1,(show l.length-(i+1)<l.length-i by omega),h,?_⟩
    simp only[if_neg e2]
    rw[hor,hsucc,ar h (by omega)]
    exact aT [0,1,4] (WkL.refl _) (.cons rfl (.cells (.cons (.ptr (ρ:=fun o=>[0,1,4].getD o 0) 1 0 (by simp)) .nil)) (.cons rfl (.abs _) (.cons rfl .tok .nil))) (by decide) (by simp) (fun o ho=>by match o,ho with|0,_=>rfl|1,_=>rfl) (jG ⟨by simp,rfl⟩ (.ltok (ρ:=fun o=>[0,1,4].getD o 0) _ 2 (by simp) (bp fun a _=>bO a)))
 ·have hil:i=l.length:=by omega
  subst hil
  by_cases h0:(wsR w ws0 (l.take l.length)).ps=[]
  ·simp only[if_pos h0]
   refine aZ kI _ [] (.cons suE oS (.cons atE qY (.nil _ _ _ _ _))) _ _ _ (wV w m b l _ _ _ l.length _ ?_).out
   simp only[au,dt]
   rw[if_neg (by omega)]
   refine⟨_,_,aT [0,1] (WkL.refl _) (.cons rfl (.cells (.cons (.ptr (ρ:=fun o=>[0,1].getD o 0) 1 0 (by simp)) .nil)) (.cons rfl (.abs _) .nil)) (by decide) (by simp) (fun o ho=>by match o,ho with|0,_=>rfl|1,_=>rfl) (jG ⟨by simp,rfl⟩ (.low (aH NT.exact (by simp)))),?_⟩
   have:=hQ (.E) []
   rw[List.take_length]
   exact this
  ·simp only[if_neg h0]
   refine aZ kI _ [] (.cons suE qd (.cons atE rm (.nil _ _ _ _ _))) _ _ _ (yD w m b l _ _ _ _ l.length _ ?_).out
   simp only[au,dt]
   rw[if_neg (by omega)]
   refine⟨_,_,aT [0,1,2] (WkL.refl _) (.cons rfl (.cells (.cons (.ptr (ρ:=fun o=>[0,1,2].getD o 0) 1 0 (by simp)) .nil)) (.cons rfl (.abs _) (.cons rfl .tok .nil))) (by decide) (by simp) (fun o ho=>by match o,ho with|0,_=>rfl|1,_=>rfl) (jG ⟨by simp,rfl⟩ (.ltok (ρ:=fun o=>[0,1,2].getD o 0) _ 2 (by simp) (bp fun a _=>bO a))),?_⟩
   have:=hQ (.list ((wsR w ws0 l).ps.map u1) (.tok 2)) [.tok]
   rw[List.take_length]
   exact this
theorem Gz (w:List Mt) (m:Int) (b l:List Rr):∀(K:PV→ae→Prop),(∃(w_1:List Mt) (m_1:Int) (b_1:List Rr) (l_1:List Rr) (sz:Bool),by refine(?_:_→_→_→_→Prop) [Ob.cells [.ptr 1 0],.abs (rkM (aq w_1) m_1)] (PV.list (l_1.map rrc) .no) (PV.bool (WS.ids (wsR w_1 ws0 l_1))) (PV.bool (WS.ex (wsR w_1 ws0 l_1))); exact fun d e f g=>MO w_1 m_1∧l_1.length≤1000000∧tot l_1≤1000000∧ah [.ptr 0 0,.list (b.map rrc) .no,.list (l.map rrc) .no,.bool false,.bool ((↑(List.length (l.map rrc)):Int) == 0),.bool false,.E,.list (l.map rrc) .no,.I (↑(List.length (l.map rrc)):Int),.I 0] [.ptr 0 0,.list (b_1.map rrc) .no,e,.bool false,.bool sz,.bool false,.E,e,.I l_1.length,.I 0]∧av [.cells [.ptr 1 0],.abs (rkM (aq w) m)] d∧∀(_:PV),∀(G:ae),by refine(?_:_→Prop) (d++G); exact fun c=>∃(a:List Rr) (b:List Rr),ah [.list [[PV.list (b_1.map rrc) .no],[e]] .exact] [.list [[PV.list (a.map rrc) .no],[.list (b.map rrc) .no]] .exact]∧a.length+b.length≤1000000∧∃(l:List Rr) (tl:Tail),ah [.list (List.map rrc (a++b)) .no] [.list (l.map rrc) tl]∧l.length≤1000000∧tot l≤1000000∧br ((sz || List.any l_1 bZ) == false) (K (.tup [f,.bool (decide (mxI (↑(taken l 1):Int) (↑(taken l 2):Int)>4)),g]) c) (K (.tup [f,.bool true,g]) c))→AcK 56 [.ptr 0 0,.list (b.map rrc) .no,.list (l.map rrc) .no] [.cells [.ptr 1 0],.abs (rkM (aq w) m)] K:=fun K h=>acW (T:=TWR) (L:=[([1,1,1,0,1,0],JZ)]) (fun _=>0) Tryz.func56 (kI) (.cons suE BT (.nil _ _ _ _ _)) h
def szW (b l:List Rr):Bool:=((l.length:Int) == 0) || l.any bZ || decide (mxI (taken (b++l) 1:Int) (taken (b++l) 2:Int)>4)
def jR (args:List PV) (H:ae) (K:PV→Prop):Prop:=∃(q r:Nat) (w:List Mt) (m:Int) (b l:List Rr) (t1 t2:Tail),ah args [.ptr q 0,.list (b.map rrc) t1,.list (l.map rrc) t2]∧cm H q r (rkM (aq w) m)∧MO w m∧b.length+l.length≤1000000∧tot b+tot l≤1000000∧
 K (.tup [.bool (wsR w ws0 l).ids,.bool (szW b l),.bool (wsR w ws0 l).ex])
theorem nZ (a b:List Rr):tot (a++b)=tot a+tot b:=by unfold tot; rw[List.map_append,List.sum_append]
theorem ph:SpK 56 (.read jR):=by
 rintro args H K ⟨q,r,w,m,b,l,t1,t2,he,hb,ro,hl,ht,hk⟩
 have he:args=_:=he
 subst he
 refine⟨_,bj (.cons (.refl _) (.cons (.list _ _) (.cons (.list _ _) .nil))) (jW aj hb (bn (aR b) (aR l)) (.tup _ (dn (.bool _) (.bool _) (.bool _))) (Gz w m b l _ ⟨w,m,b,l,((l.length:Int) == 0),ro,by omega,by omega,?_,rfl,fun _ G=>⟨b,l,rfl,hl,b++l,.no,rfl,by rw[List.length_append]; exact hl,by rw[nZ]; exact ht,?_⟩⟩)),hk⟩
 ·show _=_
  simp only[List.length_map]
 ·rw[au]
  unfold szW
  by_cases c:(((l.length:Int) == 0) || l.any bZ)=true
  ·rw[if_neg (by rw[c]; decide),c]
   exact⟨rfl,G,rfl⟩
  ·rw[if_pos (by simpa using c),show(((l.length:Int) == 0) || l.any bZ)=false by simpa using c]
   exact⟨rfl,G,rfl⟩
theorem Ey:SpK 57 (.chg kx):=by
 intro args H K h
 unfold kx at h
 split at h
 ·obtain⟨l,most,t,v,t1,t2,he,ha,ok,hk⟩:=h
  exact⟨_,_,xw _ H (fun x H1=>x=_∧H1=_) (by unfold kx; exact⟨l,most,t,v,t1,t2,he,ha,ok,⟨rfl,rfl⟩⟩),hk⟩
 ·exact h.elim
def TMK:Tab:=[(56,.read jR),(50,.pure lg),(57,.chg kx),(64,.chg iD),(58,.pure uK),(9,.read sR),(71,.chg kF)]
theorem Dv:TbK TMK:= .cons ph (.cons pc (.cons Ey (.cons o7 (.cons zo (.cons sL (.cons uq (.nil _ _)))))))
theorem H6 (w:List Mt) (m:Int) (id md ins:Int) (l:List Rr):(by refine(?_:_→_→Prop) [Ob.cells [.ptr 1 0],.abs (rkM (aq w) m)] (PV.list (l.map rrc) .no); exact fun d e=>∀(K:PV→ae→Prop),by refine(?_:_→Prop) (K (.I 14) d); exact fun a=>(∃(q:Nat) (r:Nat) (w_1:List Mt) (m_1:Int) (b:List Rr) (l_1:List Rr) (t1:Tail) (t2:Tail),ah [.ptr 0 0,.E,e] [.ptr q 0,.list (b.map rrc) t1,.list (l_1.map rrc) t2]∧cm d q r (rkM (aq w_1) m_1)∧MO w_1 m_1∧b.length+l_1.length≤1000000∧tot b+tot l_1≤1000000∧br (WS.ids (wsR w_1 ws0 l_1) == false) (br (!aC id) a (br (szW b l_1) (K (.I 21) d) (br (WS.ex (wsR w_1 ws0 l_1)) (K (.I 11) d) (∃(c:Mt) (l_2:List Rr) (t1:Tail) (t2:Tail) (t3:Tail),ah [.agg [.U id,.I md,.U ins,.E,.E],e] [.agg [.U c.id,.I c.md,.U c.ins,.list (c.rows.map rrc) t1,.list (c.aa.map stc) t2],.list (l_2.map rrc) t3]∧Mt.Sm c∧c.rows.length+l_2.length≤1000000∧(∀(r:Rr),r∈l_2→r.pl.length≤1000000)∧c.aa.length+tot l_2≤1000000∧∃(l:List RwM) (most:Int) (t:Int) (v:Mt) (t1:Tail) (t2:Tail),ah [.U id,.agg [.U (Mt.id (ay c l_2)),.I (Mt.md (ay c l_2)),.U (Mt.ins (ay c l_2)),.list (List.map rrc (Mt.rows (ay c l_2))) .no,.list (List.map stc (Mt.aa (ay c l_2))) .no]] [.U t,.agg [.U v.id,.I v.md,.U v.ins,.list (v.rows.map rrc) t1,.list (v.aa.map stc) t2]]∧bU d 1 (rkM l most)∧Ok l most∧K (.I (Prod.snd (tI l most t v))) [.cells [.ptr 1 0],.abs (rkM (Prod.fst (tI l most t v)) most)])))) a)→AcK 24 [.ptr 0 0,.U id,.I md,.U ins,e] d K:Prop):=fun K h=>acW (T:=TMK) (L:=[]) (fun o=>match o.dst with|some 46=>7|some 38=>1|some 45=>0|_=>0) Tryz.func24 (Dv) (LOk.nil _ _ _ _ _) h
theorem Iq (w:List Mt) (m:Int) (id:Int):(by refine(?_:_→_→_→Prop) (Ob.cells [.U 0,.I 0,.U 0,.E,.E]) (Ob.abs (rkM (aq w) m)) [PV.ptr 0 0,.U id]; exact fun d e f=>∀(K:PV→ae→Prop),(∃(q:Nat) (r:Nat) (w_1:List Mt) (m_1:Int) (t:Int),by refine(?_:_→_→Prop) [PV.U (Mt.id (gM w_1 t)),.I (Mt.md (gM w_1 t)),.U (Mt.ins (gM w_1 t)),.list (List.map rrc (Mt.rows (gM w_1 t))) .no,.list (List.map stc (Mt.aa (gM w_1 t))) .no] (bz Mt.id w_1 t); exact fun a c=>by refine(?_:_→Prop) (PV.tup [.agg a,.bool c]); exact fun b=>ah f [.ptr q 0,.U t]∧cm [.cells [.ptr 1 0],e,d] q r (rkM (aq w_1) m_1)∧MO w_1 m_1∧br c (∃(l:List RwM) (most:Int) (t_1:Int),ah [.U id] [.U t_1]∧bU [.cells [.ptr 1 0],e,d,.cells a] 1 (rkM l most)∧Ok l most∧K b [.cells [.ptr 1 0],.abs (rkM (l9 l t_1) most),.cells a,.cells a]) (K b [.cells [.ptr 1 0],e,.cells a,.cells a]))→AcK 37 f [.cells [.ptr 1 0],e] K:Prop):=fun K h=>acW (T:=TMK) (L:=[]) (fun o=>match o.dst with|some 22=>1|some 21=>7|_=>0) Tryz.func37 (Dv) (LOk.nil _ _ _ _ _) h
def mk0 (id md ins:Int):Mt:=⟨id,md,ins,[],[]⟩
def dH (w:List Mt) (m id md ins:Int) (l:List Rr):List Mt×Int:=
 if(wsR w ws0 l).ids=true∨aC id=false then(w,14) else if szW [] l=true then(w,21) else if(wsR w ws0 l).ex=true then(w,11)
 else if bz Mt.id w id=true then(w,11) else if(w.length:Int)≥m then(w,10) else(fj Mt.id w (ay (mk0 id md ins) l),0)
theorem HW (ps:List Int) (t:Int):∀ c:Mt,(cV c ps t).id=c.id:=by
 induction ps with
 | nil=>intro c; rfl
 | cons p ps ih=>intro c; show(cV (gj c p t) ps t).id=_; rw[ih]; rfl
theorem iK (l:List Rr):∀ c:Mt,(ay c l).id=c.id:=by
 induction l with
 | nil=>intro c; rfl
 | cons r l ih=>intro c; show(ay (fG c r) l).id=_; rw[ih]; show(cV c r.pl r.tm).id=_; rw[HW]
theorem KG (id md ins:Int):(mk0 id md ins).Sm:=⟨(show(0:Nat)≤1000000 by decide),(show(0:Nat)≤1000000 by decide),fun _ h=>nomatch h⟩
theorem Ai {w:List Mt} {m:Int} (h:MO w m) (c:Mt) (hr:aC c.id=true):tI (aq w) m c.id c=if bz Mt.id w c.id=true then(aq w,11) else if(w.length:Int)≥m then(aq w,10) else(aq (fj Mt.id w c),0):=by
 unfold tI
 rw[iu h.ok]
 by_cases k:bz Mt.id w c.id=true
 ·rw[if_pos k,if_pos k]
 ·rw[if_neg k,if_neg k,pZ h.rise h.ok,if_pos hr]
  by_cases k2:(w.length:Int)≥m
  ·rw[if_pos ⟨by simpa using k,k2⟩,if_pos k2]
  ·rw[if_neg (fun e=>k2 e.2),if_neg k2]
theorem zC {w:List Mt} {m:Int} (h:MO w m) (c:Mt) (hr:aC c.id=true) (hh:bz Mt.id w c.id=true):cN (aq w) m c.id c=(aq (fj Mt.id w c),0):=by
 rw[pZ h.rise h.ok,if_pos hr,if_neg (fun e=>by rw[hh] at e; cases e.1)]
def smR (l:List Rr):Prop:=l.length≤100∧∀ r∈l,r.pl.length≤100
theorem Bx:∀(l:List Rr),(∀ r∈l,r.pl.length≤100)→tot l≤l.length*100
 | [],_=>Nat.le_refl _
 | r::l,h=>by
  have:=Bx l fun a ha=>h a (by simp[ha])
  have h1:=h r (by simp)
  unfold tot at *
  simp only[List.map_cons,List.sum_cons,List.length_cons]; omega
theorem smR.tot {l:List Rr} (h:smR l):Go.Proofs.YtenaelaapdhbdaaGreatDoor.tot l≤10000:=by have:=Bx l h.2; have:=h.1; omega
def LH (args:List PV) (H:ae) (K:PV→ae→Prop):Prop:=∃(q r:Nat) (w:List Mt) (m id md ins:Int) (l:List Rr) (t:Tail),ah args [.ptr q 0,.U id,.I md,.U ins,.list (l.map rrc) t]∧cm H q r (rkM (aq w) m)∧MO w m∧smR l∧
 K (.I (dH w m id md ins l).2) (H.set r (.abs (rkM (aq (dH w m id md ins l).1) m)))
theorem xZ:SpK 24 (.heap LH):=by
 rintro args H K ⟨q,r,w,m,id,md,ins,l,t,he,hb,ro,hl,hk⟩
 have he:args=_:=he
 subst he
 have hlt:=hl.tot
 have hll:=hl.1
 refine bj (.cons (.refl _) (.cons (.refl _) (.cons (.refl _) (.cons (.refl _) (.cons (.list _ _) .nil))))) ?_
 refine jP aj hb (iX (.int _ _) (.int _ _) (.int _ _) (aR _)) (.int _ _) (H6 w m id md ins l _ ⟨0,1,w,m,[],l,.exact,.no,rfl,⟨rfl,rfl⟩,ro,by simp; omega,by show 0+tot l≤_; omega,?_⟩) hk
 obtain⟨z,hz⟩:∃ z,z=dH w m id md ins l:=⟨_,rfl⟩
 rw[← hz]
 unfold dH at hz
 simp only[au]
 by_cases c1:(wsR w ws0 l).ids=true
 ·rw[if_pos (.inl c1)] at hz
  rw[if_neg (by rw[c1]; decide),hz]; exact⟨rfl,[],rfl⟩
 ·rw[if_pos (by simpa using c1)]
  by_cases c2:aC id=true
  ·rw[if_neg (fun e=>by rcases e with e|e; exact c1 e; rw[c2] at e; cases e)] at hz
   rw[if_neg (by rw[c2]; decide)]
   by_cases c3:szW [] l=true
   ·rw[if_pos c3] at hz
    rw[if_pos c3,hz]; exact⟨rfl,[],rfl⟩
   ·rw[if_neg c3] at hz
    rw[if_neg c3]
    by_cases c4:(wsR w ws0 l).ex=true
    ·rw[if_pos c4] at hz
     rw[if_pos c4,hz]; exact⟨rfl,[],rfl⟩
    ·rw[if_neg c4] at hz
     rw[if_neg c4]
     have e:=Ai ro (ay (mk0 id md ins) l) (by rw[iK]; exact c2)
     rw[iK] at e
     have e:tI (aq w) m id (ay (mk0 id md ins) l)=if bz Mt.id w id=true then(aq w,11) else if(w.length:Int)≥m then(aq w,10) else(aq (fj Mt.id w (ay (mk0 id md ins) l)),0):=e
     refine⟨mk0 id md ins,l,.exact,.exact,.no,rfl,KG _ _ _,by show 0+_≤_; omega,fun r hr=>by have:=hl.2 r hr; omega,by show 0+tot l≤_; omega,aq w,m,id,ay (mk0 id md ins) l,.no,.no,rfl,rfl,ro.ok,?_⟩
     rw[e]
     by_cases c5:bz Mt.id w id=true
     ·rw[if_pos c5] at hz
      rw[if_pos c5,hz]; exact⟨rfl,[],rfl⟩
     ·rw[if_neg c5] at hz
      rw[if_neg c5]
      by_cases c6:(w.length:Int)≥m
      ·rw[if_pos c6] at hz
       rw[if_pos c6,hz]; exact⟨rfl,[],rfl⟩
      ·rw[if_neg c6] at hz
       rw[if_neg c6,hz]; exact⟨rfl,[],rfl⟩
  ·rw[if_pos (.inr (by simpa using c2))] at hz
   rw[if_pos (by simpa using c2),hz]; exact⟨rfl,[],rfl⟩
theorem MO.IM {w:List Mt} {t:Int} (h:bz Mt.id w t=true):(gM w t).id=t:=(eP h).2
theorem MO.FX {w:List Mt} {m t:Int} (ro:MO w m) (h:bz Mt.id w t=true):(gM w t).Ok:=ro.cs _ (eP h).1
def Nq (args:List PV) (H:ae) (K:PV→ae→Prop):Prop:=∃(q r:Nat) (w:List Mt) (m id:Int),ah args [.ptr q 0,.U id]∧cm H q r (rkM (aq w) m)∧MO w m∧
 K (.tup [(gM w id).pv,.bool (bz Mt.id w id)]) (H.set r (.abs (rkM (aq (ef Mt.id w id)) m)))
theorem vk {w:List Mt} {t:Int} (h:bz Mt.id w t=false):ef Mt.id w t=w:=by
 unfold ef
 rw[List.filter_eq_self]
 intro a ha
 rw[bne_iff_ne]
 intro e
 have:=dR.2 ⟨a,ha,e⟩
 rw[h] at this; cases this
theorem L2:SpK 37 (.heap Nq):=by
 rintro args H K ⟨q,r,w,m,id,he,hb,ro,hk⟩
 have he:args=_:=he
 subst he
 refine jP aj hb cU (sI _ _) (Iq w m id _ ⟨0,1,w,m,id,rfl,⟨rfl,rfl⟩,ro,?_⟩) hk
 rw[au]
 by_cases c:bz Mt.id w id=true
 ·rw[if_pos c]
  refine⟨aq w,m,id,rfl,rfl,ro.ok,?_⟩
  rw[tK ro.ok]
  exact⟨rfl,_,rfl⟩
 ·rw[if_neg c,vk (by simpa using c)]
  exact⟨rfl,_,rfl⟩
def Ep (args:List PV) (H:ae) (K:PV→ae→Prop):Prop:=∃(q r:Nat) (w:List Mt) (m t:Int),ah args [.ptr q 0,.U t]∧cm H q r (rkM (aq w) m)∧MO w m∧
 (bz Mt.id w t=false→K (.tup [ez mt0 (.E) (.E),.bool false]) (H++[.dead]))∧
 (bz Mt.id w t=true→(gM w t).aa≠[]∧∀(cap:Nat) (J:List PV),(gM w t).aa.length≤cap→aK J ((cap-(gM w t).aa.length)*6)→K (.tup [ez (gM w t) (.list ((gM w t).rows.map rrc) .exact) (.arr H.length 0 (gM w t).aa.length cap),.bool true]) (H++[.cells (flS (gM w t).aa++J)]))
theorem G4:SpK 9 (.heap Ep):=by
 rintro args H K ⟨q,r,w,m,t,he,hb,ro,h0,h1⟩
 refine FZ _ _ _ ⟨q,r,w,m,t,he,hb,ro,fun y g hA=>?_⟩
 cases c:bz Mt.id w t with
 | false=>
  have e:gM w t=mt0:=gQ c
  rw[e] at hA ⊢
  rcases hA with⟨_,rfl,rfl⟩|⟨hn,_⟩
  ·exact h0 c
  ·exact absurd rfl hn
 | true=>
  obtain⟨hn,hk⟩:=h1 c
  rcases hA with⟨hn',_⟩|⟨_,cap,J,rfl,rfl,hc,hJ⟩
  ·exact absurd hn' hn
  ·exact hk cap J hc hJ
def TST:Tab:=[(62,.read EB),(9,.heap Ep),(63,.read LU),(64,.chg iD)]
theorem DL:TbK TST:= .cons Ee (.cons G4 (.cons J3 (.cons o7 (.nil _ _))))
theorem HK (w:List Mt) (m:Int) (c:Mt):(by refine(?_:_→Prop) [PV.U c.id,.I c.md,.U c.ins,.list (c.rows.map rrc) .exact,.list (c.aa.map stc) .no]; exact fun a=>by refine(?_:_→Prop) [Ob.cells [.ptr 1 0],.abs (rkM (aq w) m),.dead,.cells a]; exact fun b=>∀(R:Ex→List PV→ae→Prop),(∃(l:List RwM) (most:Int) (t:Int) (v:Mt) (t1:Tail) (t2:Tail),ah [.U c.id,.agg a] [.U t,.agg [.U v.id,.I v.md,.U v.ins,.list (v.rows.map rrc) t1,.list (v.aa.map stc) t2]]∧bU b 1 (rkM l most)∧Ok l most∧R .normal [.I (Prod.snd (cN l most t v))] [.cells [.ptr 1 0],.abs (rkM (Prod.fst (cN l most t v)) most),.dead,.cells a])→Holds (wpK TST [] (fun o=>match o.dst with|some 58=>7|some 54=>1|some 57=>1|_=>0) (b5 [1,1,1,1,1,0] (ag Tryz.f26)) [] (ak [0,11] [.ptr 0 0,.ptr 3 0]) b (fun ex e H=>R ex (List.map e [10]) H)):Prop):=fun R h=>hoE h
def BF:LSp:=fun e H Q=>∃(w:List Mt) (m:Int) (c:Mt) (cap:Nat) (J:List PV),MO w m∧aC c.id=true∧bz Mt.id w c.id=true∧c.aa.length≤cap∧ah (List.map e [0,11]) [.ptr 0 0,.ptr 3 0]∧av H [.cells [.ptr 1 0],.abs (rkM (aq w) m),.cells (flS c.aa++J),.cells [.U c.id,.I c.md,.U c.ins,.list (c.rows.map rrc) .exact,.arr 2 0 c.aa.length cap]]∧∀ G,Q .normal (ak [10] [.I 0]) (.cells [.ptr 1 0] :: .abs (rkM (aq (fj Mt.id w c)) m)::G)
theorem yX:∀ e H Q,BF e H Q→AwK Tryz.f26.ntmps (b5 [1,1,1,1,1,0] (ag Tryz.f26)) Q e H:=by
 rintro e H Q ⟨w,m,c,cap,J,ro,hr,hh,hc,he,hH,hQ⟩
 have hH:H=_:=hH
 subst hH
 have he:List.map e [0,11]=_:=he
 refine AW.n6 (o:=2) (off:=0) (sz:=6) (A:=[]) (B:=J) (es:=c.aa.map stc) (H2:=[.cells [.ptr 1 0],.abs (rkM (aq w) m),.dead,.cells [.U c.id,.I c.md,.U c.ins,.list (c.rows.map rrc) .exact,.list (c.aa.map stc) .no]]) (vs2:=[.ptr 0 0,.ptr 3 0]) he rfl rfl (b8 bQ _) ⟨rfl,fun i b hb=>?_⟩ (FzL.refl _) ?_
 ·have k1:=(List.getElem?_eq_some_iff.1 hb).1
  simp at k1
  have:i=0∨i=1∨i=2∨i=3:=by omega
  rcases this with rfl|rfl|rfl|rfl
  ·exact .inr (.inl ⟨by decide,hb⟩)
  ·exact .inr (.inl ⟨by decide,hb⟩)
  ·cases hb; exact .inl rfl
  ·cases hb
   refine .inr (.inr ⟨_,_,rfl,by decide,rfl,.cons (.refl _) (.cons (.refl _) (.cons (.refl _) (.cons (.refl _) (.cons ?_ .nil))))⟩)
   have:=Fz.arr (o:=2) (off:=0) (es:=c.aa.map stc) cap (by rw[List.length_map]; exact hc)
   rw[List.length_map] at this
   exact this
 ·refine dj (T:=TST) (slots:=[0,11]) (outs:=[10]) (hn:=fun o=>match o.dst with|some 58=>7|some 54=>1|some 57=>1|_=>0) DL (.nil _ _ _ _ _) rfl rfl (HK w m c (fun ex vs H'=>Q ex (ak [10] vs) H') ⟨aq w,m,c.id,c,.exact,.no,rfl,rfl,ro.ok,?_⟩)
  rw[zC ro c hr hh]
  exact hQ _
theorem G2 (w:List Mt) (m p st un no:Int):(by refine(?_:_→_→_→Prop) (Ob.abs (rkM (aq w) m)) [PV.ptr 0 0,.ptr 3 0] (Ob.cells [.ptr 1 0]); exact fun s v z=>by refine(?_:_→Prop) [z,s]; exact fun u=>∀(K:PV→ae→Prop),(∃(q:Nat) (r:Nat) (w_1:List Mt) (m_1:Int) (p_1:Int),ah [.ptr 0 0,.U p] [.ptr q 0,.U p_1]∧cm u q r (rkM (aq w_1) m_1)∧MO w_1 m_1∧∃(q:Nat) (r:Nat) (w_2:List Mt) (m_2:Int) (t:Int),by refine(?_:_→Prop) (Mt.aa (gM w_2 t)); exact fun l=>ah [.ptr 0 0,.U (ofM w_1 p_1)] [.ptr q 0,.U t]∧cm u q r (rkM (aq w_2) m_2)∧MO w_2 m_2∧(bz Mt.id w_2 t=false→K (.I 12) [.cells [.ptr 1 0],s,.dead,.cells [.U 0,.I 0,.U 0,.E,.E]])∧(bz Mt.id w_2 t=true→Mt.aa (gM w_2 t)≠[]∧∀(cap:Nat),by refine(?_:_→Prop) [PV.U (Mt.id (gM w_2 t)),.I (Mt.md (gM w_2 t)),.U (Mt.ins (gM w_2 t)),.list (List.map rrc (Mt.rows (gM w_2 t))) .exact,.arr 2 0 (List.length l) cap]; exact fun k=>∀(J:List PV),by refine(?_:_→Prop) (flS l++J); exact fun i=>by refine(?_:_→Prop) [z,s,.cells i,.cells k]; exact fun h=>by refine(?_:_→Prop) (K (.I 2) h); exact fun j=>List.length l≤cap→aK J ((cap-List.length l)*6)→br (decide (st<1) == false) (br (decide (st>3)) j (∃(c:Mt) (x:PV) (y:PV) (p_2:Int),by refine(?_:_→_→_→_→Prop) (0+Int.toNat (ixS c.aa p_2)*6+4) (∃(t:Tail),x = .list (c.rows.map rrc) t) (0+Int.toNat (ixS c.aa p_2)*6+3) (0+Int.toNat (ixS c.aa p_2)*6+5); exact fun b d e f=>by refine(?_:_→Prop) (over i e [.I st]); exact fun a=>by refine(?_:_→Prop) (over a b [.I un]); exact fun g=>ah [.agg k,.U p] [.agg [.U c.id,.I c.md,.U c.ins,x,y],.U p_2]∧c.aa.length≤1000000∧((d∧∃(t:Tail),y = .list (c.aa.map stc) t)∨(d∧∃(o:Nat) (cap_1:Nat) (J_1:List PV),y = .arr o 0 c.aa.length cap_1∧c.aa.length≤cap_1∧iw h o (flS c.aa++J_1))∨(∃(o:Nat) (n:Nat) (cap:Nat),x = .arr o 0 n cap∧o<4)∧∃(o:Nat) (cap_1:Nat) (J_1:List PV),y = .arr o 0 c.aa.length cap_1∧c.aa.length≤cap_1∧iw h o (flS c.aa++J_1))∧(0≤ixS c.aa p_2∧ixS c.aa p_2<(↑(List.length l):Int))∧br (1 == 1 && List.all [.I st] PV.one && decide (0+Int.toNat (ixS c.aa p_2)*6+3+1≤List.length i) && cW 0 2 e 1) (br (1 == 1 && List.all [.I un] PV.one && decide (0+Int.toNat (ixS c.aa p_2)*6+4+1≤List.length a) && cW 0 2 b 1) (br (1 == 1 && List.all [.int .u64 no] PV.one && decide (0+Int.toNat (ixS c.aa p_2)*6+5+1≤List.length g) && cW 0 2 f 1) (∃(w_3:List Mt) (m_3:Int) (c_1:Mt) (cap_1:Nat) (J_1:List PV),MO w_3 m_3∧aC c_1.id=true∧bz Mt.id w_3 c_1.id=true∧c_1.aa.length≤cap_1∧ah v v∧av [.cells [.ptr 1 0],s,.cells (over g f [.int .u64 no]),.cells k] [.cells [.ptr 1 0],.abs (rkM (aq w_3) m_3),.cells (flS c_1.aa++J_1),.cells [.U c_1.id,.I c_1.md,.U c_1.ins,.list (c_1.rows.map rrc) .exact,.arr 2 0 c_1.aa.length cap_1]]∧∀(G:List Ob),K (.I 0) (.cells [.ptr 1 0] :: .abs (rkM (aq (fj Mt.id w_3 c_1)) m_3)::G)) False) False) False)) j))→AcK 26 [.ptr 0 0,.U p,.I st,.I un,.int .u64 no] u K:Prop):=fun K h=>acW (T:=TST) (L:=[([1,1,1,1,1,0],BF)]) (fun o=>match o.dst with|some 36=>5|some 33=>1|some 34=>1|_=>0) Tryz.func26 (DL) (.cons atE yX (.nil _ _ _ _ _)) h
def kj (s:Se) (st un no:Int):Se:=⟨s.pl,s.tm,s.nu,st,un,no⟩
def iQ (c:Mt) (p st un no:Int):Mt:=⟨c.id,c.md,c.ins,c.rows,c.aa.set (c.aa.findIdx (isP p)) (kj (c.aa.getD (c.aa.findIdx (isP p)) default) st un no)⟩
def eg (w:List Mt) (p st un no:Int):List Mt×Int:=
 if bz Mt.id w (ofM w p)=false then(w,12) else if st<1∨st>3 then(w,2) else(fj Mt.id w (iQ (gM w (ofM w p)) p st un no),0)
theorem D1 {t:Int} (h:aC t=true):t≠0:=by unfold aC at h; have:=of_decide_eq_true h; omega
theorem MO.Nw {w:List Mt} {m:Int} (ro:MO w m):bz Mt.id w 0=false:=by
 cases c:bz Mt.id w 0 with
 | false=>rfl
 | true=>exact absurd (MO.IM c) (D1 (ro.FX c).rt)
theorem xP {w:List Mt} {m:Int} (ro:MO w m) (p:Int):(bz Mt.id w (ofM w p)=true∧inM (gM w (ofM w p)) p=true)∨(bz Mt.id w (ofM w p)=false∧ofM w p=0∧∀ c∈w,inM c p=false):=by
 unfold ofM
 by_cases h:w.findIdx (fun c=>inM c p)<w.length
 ·rw[if_pos h]
  have hm:w.getD (w.findIdx fun c=>inM c p) default∈w:=aY h
  have hp:inM (w.getD (w.findIdx fun c=>inM c p) default) p=true:=by
   rw[List.getD_eq_getElem?_getD,List.getElem?_eq_getElem h]; exact List.findIdx_getElem (w:=h)
  refine .inl ⟨dR.2 ⟨_,hm,rfl⟩,?_⟩
  have:gM w (w.getD (w.findIdx fun c=>inM c p) default).id=w.getD (w.findIdx fun c=>inM c p) default:=yf ro.rise hm
  rw[this]; exact hp
 ·rw[if_neg h]
  refine .inr ⟨ro.Nw,rfl,fun c hc=>?_⟩
  cases e:inM c p with
  | false=>rfl
  | true=>exact absurd (List.findIdx_lt_length_of_exists ⟨c,hc,e⟩) h
theorem Ba {l:List Se} {J:List PV} {k:Nat} (h:k<l.length) (st un no:Int):over (over (over (flS l++J) (0+k*6+3) [.I st]) (0+k*6+4) [.I un]) (0+k*6+5) [.int .u64 no]=flS (l.set k (kj (l.getD k default) st un no))++J:=by
 obtain⟨s,hs⟩:∃ s,s=l.getD k default:=⟨_,rfl⟩
 have hd:=lc bQ J (default:Se) h
 have hA:(List.take (k*6) (flS l++J)).length=k*6:=by rw[List.length_take,List.length_append,iB]; omega
 have hC:flS l++J=List.take (k*6) (flS l++J)++(stc s++(flS (l.drop (k+1))++J)):=by rw[hs,← hd,List.take_append_drop]
 rw[← hs,Nat.zero_add]
 have h0:=over_row bQ (J:=J) (a:=kj s st un no) (default:Se) h
 rw[← h0]
 generalize List.take (k*6) (flS l++J)=A at *
 generalize flS (l.drop (k+1))++J=B at *
 have e0:over (flS l++J) (k*6) (stc (kj s st un no))=A++stc (kj s st un no)++B:=cD (X:=stc s) (by rw[hC,List.append_assoc]) hA rfl
 rw[e0,hC]
 rw[cD (A:=A++[.U s.pl,.I s.tm,.I s.nu]) (X:=[.I s.st]) (Y:=[.I st]) (B:=[.I s.un,.int .u64 s.no]++B) (by simp[stc]) (by simp[hA]) rfl]
 rw[cD (A:=A++[.U s.pl,.I s.tm,.I s.nu]++[.I st]) (X:=[.I s.un]) (Y:=[.I un]) (B:=[.int .u64 s.no]++B) (by simp) (by simp[hA]) rfl]
 rw[cD (A:=A++[.U s.pl,.I s.tm,.I s.nu]++[.I st]++[.I un]) (X:=[.int .u64 s.no]) (Y:=[.int .u64 no]) (B:=B) (by simp) (by simp[hA]) rfl]
 simp[stc,kj]
def M8 (args:List PV) (H:ae) (K:PV→ae→Prop):Prop:=∃(q r:Nat) (w:List Mt) (m p st un no:Int),ah args [.ptr q 0,.U p,.I st,.I un,.int .u64 no]∧cm H q r (rkM (aq w) m)∧MO w m∧
 K (.I (eg w p st un no).2) (H.set r (.abs (rkM (aq (eg w p st un no).1) m)))
theorem Az:SpK 26 (.heap M8):=by
 rintro args H K ⟨q,r,w,m,p,st,un,no,he,hb,ro,hk⟩
 have he:args=_:=he
 subst he
 obtain⟨z,hz⟩:∃ z,z=eg w p st un no:=⟨_,rfl⟩
 rw[← hz] at hk
 refine jP aj hb (iX (.int _ _) (.int _ _) (.int _ _) (.int _ _)) (.int _ _) (G2 w m p st un no _ ⟨0,1,w,m,p,rfl,⟨rfl,rfl⟩,ro,0,1,w,m,ofM w p,rfl,⟨rfl,rfl⟩,ro,fun h0=>?_,fun h1=>?_⟩) hk
 ·unfold eg at hz
  rw[if_pos h0] at hz
  rw[hz]; exact⟨rfl,_,rfl⟩
 ·unfold eg at hz
  rw[if_neg (by rw[h1]; decide)] at hz
  rcases xP ro p with⟨_,hin⟩|⟨h2,_⟩
  rotate_left
  ·rw[h1] at h2; cases h2
  obtain⟨c,hcd⟩:∃ c,c=gM w (ofM w p):=⟨_,rfl⟩
  have hok:c.Ok:=by rw[hcd]; exact ro.FX h1
  have hid:c.id=ofM w p:=by rw[hcd]; exact MO.IM h1
  rw[← hcd] at hin
  rw[← hcd] at hz ⊢
  obtain⟨k1,k2⟩:=Mi hin
  have hsm:=hok.sm.aa
  refine⟨fun e=>by rw[e] at k1; simp at k1,fun cap J hcap hJ=>?_⟩
  simp only[au]
  have hlen:(flS c.aa++J).length=cap*6:=by rw[List.length_append,iB,hJ.len]; omega
  by_cases c1:st<1
  ·rw[if_pos (.inl c1)] at hz
   rw[if_neg (by simpa using c1),hz]; exact⟨rfl,_,rfl⟩
  ·rw[if_pos (by simpa using c1)]
   by_cases c2:st>3
   ·rw[if_pos (.inr c2)] at hz
    rw[if_pos (by simpa using c2),hz]; exact⟨rfl,_,rfl⟩
   ·rw[if_neg (fun e=>by rcases e with e|e; exact c1 e; exact c2 e)] at hz
    rw[if_neg (by simpa using c2)]
    refine⟨c,_,_,p,rfl,hsm,.inr (.inl ⟨⟨_,rfl⟩,2,cap,J,rfl,hcap,rfl⟩),⟨by rw[k2]; omega,by rw[k2]; omega⟩,?_⟩
    rw[k2]
    simp only[an]
    have hb1:0+c.aa.findIdx (isP p)*6+3+1≤(flS c.aa++J).length:=by rw[hlen]; omega
    have l1:(over (flS c.aa++J) (0+c.aa.findIdx (isP p)*6+3) [PV.I st]).length=cap*6:=by rw[bG (by simpa using hb1),hlen]
    have hb2:0+c.aa.findIdx (isP p)*6+4+1≤(over (flS c.aa++J) (0+c.aa.findIdx (isP p)*6+3) [PV.I st]).length:=by rw[l1]; omega
    have l2:(over (over (flS c.aa++J) (0+c.aa.findIdx (isP p)*6+3) [PV.I st]) (0+c.aa.findIdx (isP p)*6+4) [PV.I un]).length=cap*6:=by rw[bG (by simpa using hb2),l1]
    have hb3:0+c.aa.findIdx (isP p)*6+5+1≤(over (over (flS c.aa++J) (0+c.aa.findIdx (isP p)*6+3) [PV.I st]) (0+c.aa.findIdx (isP p)*6+4) [PV.I un]).length:=by rw[l2]; omega
    rw[if_pos (by rw[decide_eq_true hb1]; rfl),if_pos (by rw[decide_eq_true hb2]; rfl),if_pos (by rw[decide_eq_true hb3]; rfl),Ba k1]
    have hl:(iQ c p st un no).aa.length=c.aa.length:=by show(List.set _ _ _).length=_; rw[List.length_set]
    have hid2:(iQ c p st un no).id=c.id:=rfl
    refine⟨w,m,iQ c p st un no,cap,J,ro,hok.rt,by rw[hid2,hid]; exact h1,by rw[hl]; exact hcap,rfl,?_,fun G=>?_⟩
    ·show _=_
     rw[hl]; rfl
    ·rw[hz]; exact⟨rfl,G,rfl⟩
def eqT (t v:Int):Bool:=v == t
structure Midw (ns l:List Int) (cx:Int) (i j:Nat):Prop where
 len:l.length=ns.length
 kept:l.take i=(ns.take j).filter (fun v=> !(eqT cx) v)
 rest:l.drop j=ns.drop j
 le:i≤j
 lt:j≤ns.length
def mtR (r:Rr):Bool:=decide (r.pl.length=0)
structure MidRf (ns l:List Rr) (i j:Nat):Prop where
 len:l.length=ns.length
 kept:l.take i=(ns.take j).filter (fun v=> !mtR v)
 rest:l.drop j=ns.drop j
 le:i≤j
 lt:j≤ns.length
theorem qU {α:Type} {l:List α} {k:Nat} {a:α} (h:l[k]?=some a):l.set k a=l:=by
 apply List.ext_getElem?
 intro i
 rw[List.getElem?_set]
 by_cases c:k=i
 ·subst c
  rw[if_pos rfl,if_pos (List.getElem?_eq_some_iff.1 h).1,h]
 ·rw[if_neg c]
theorem tt (l:List Rr):(pairs l).map Prod.fst=l.flatMap Rr.pl:=by
 unfold pairs
 induction l with
 | nil=>rfl
 | cons r l ih=>rw[List.flatMap_cons,List.map_append,ih,List.flatMap_cons,List.map_map]; congr 1; simp[Function.comp_def]
theorem lG {c:Mt} {p:Int}:inM c p=true↔p∈c.aa.map Se.pl:=by
 unfold inM isP
 rw[List.any_eq_true,List.mem_map]
 constructor
 ·rintro⟨s,hs,e⟩; exact⟨s,hs,eq_of_beq e⟩
 ·rintro⟨s,hs,e⟩; exact⟨s,hs,by rw[e]; exact beq_self_eq_true p⟩
theorem iz {α:Type} (l:List α) (k:Nat) (a:α):(bC l k a).Perm (a::l):=by
 unfold bC
 refine List.perm_middle.trans ?_
 rw[List.take_append_drop]
structure SO (l:List Se):Prop where
 sn:l.Pairwise fun a b=>a.nu<b.nu
 lo:∀ s∈l,0≤s.nu
theorem SO.nil:SO []:=⟨List.Pairwise.nil,fun _ h=>nomatch h⟩
theorem SO.ge {l:List Se} (h:SO l):∀ i,i<l.length→(i:Int)≤(l.getD i default).nu:=by
 intro i
 induction i with
 | zero=>intro hi; exact h.lo _ (aY hi)
 | succ i ih=>
  intro hi
  have h1:=ih (by omega)
  have h2:=List.pairwise_iff_getElem.1 h.sn i (i+1) (by omega) hi (by omega)
  rw[List.getD_eq_getElem?_getD,List.getElem?_eq_getElem (by omega),Option.getD_some] at h1
  rw[List.getD_eq_getElem?_getD,List.getElem?_eq_getElem hi,Option.getD_some]
  omega
theorem SO.sit {l:List Se} (h:SO l) (p t:Int):SO (gO l p t):=by
 have hg:=eN l
 refine⟨?_,fun s hs=>?_⟩
 ·unfold gO bC
  rw[List.pairwise_append]
  refine⟨h.sn.sublist (List.take_sublist _ _),List.pairwise_cons.2 ⟨fun a ha=>?_,h.sn.sublist (List.drop_sublist _ _)⟩,fun a ha b hb=>?_⟩
  ·obtain⟨k,hk,rfl⟩:=List.mem_iff_getElem.1 ha
   rw[List.length_drop] at hk
   rw[List.getElem_drop]
   show(cY l:Int)<_
   have h1:=h.ge (cY l) (by omega)
   have h2:=r7 (l:=l) (by omega)
   rw[List.getD_eq_getElem?_getD,List.getElem?_eq_getElem (by omega),Option.getD_some] at h1 h2
   rcases Nat.eq_zero_or_pos k with rfl|hp
   ·simp only[Nat.add_zero]; omega
   ·have:=List.pairwise_iff_getElem.1 h.sn (cY l) (cY l+k) (by omega) (by omega) (by omega)
    omega
  ·obtain⟨k,hk,rfl⟩:=List.mem_iff_getElem.1 ha
   rw[List.length_take] at hk
   have h1:=nX (l:=l) (m:=k) (by omega)
   rw[List.getD_eq_getElem?_getD,List.getElem?_eq_getElem (by omega),Option.getD_some] at h1
   rw[List.getElem_take]
   rcases List.mem_cons.1 hb with rfl|hb
   ·rw[h1]; show(k:Int)<(cY l:Int); omega
   ·obtain⟨m,hm,rfl⟩:=List.mem_iff_getElem.1 hb
    rw[List.length_drop] at hm
    rw[List.getElem_drop]
    exact List.pairwise_iff_getElem.1 h.sn k (cY l+m) (by omega) (by omega) (by omega)
 ·have:=(iz l (cY l) (gg l p t)).mem_iff.1 hs
  rcases List.mem_cons.1 this with rfl|hs
  ·show(0:Int)≤(cY l:Int); omega
  ·exact h.lo s hs
theorem Me {l:List Se} {b:Int} (h:∀ s∈l,s.nu<b) (hb:(l.length:Int)<b) (p t:Int):∀ s∈gO l p t,s.nu<b:=by
 intro s hs
 have:=(iz l (cY l) (gg l p t)).mem_iff.1 hs
 rcases List.mem_cons.1 this with rfl|hs
 ·have:=eN l
  show(cY l:Int)<b; omega
 ·exact h s hs
theorem ox (ps:List Int) (t:Int):∀ c:Mt,SO c.aa→SO (cV c ps t).aa:=by
 induction ps with
 | nil=>intro c h; exact h
 | cons p ps ih=>intro c h; exact ih (gj c p t) (h.sit p t)
theorem Ia {b:Int} (ps:List Int) (t:Int):∀ c:Mt,(∀ s∈c.aa,s.nu<b)→((c.aa.length+ps.length:Nat):Int)≤b→∀ s∈(cV c ps t).aa,s.nu<b:=by
 induction ps with
 | nil=>intro c h _; exact h
 | cons p ps ih=>
  intro c h hb
  simp only[List.length_cons] at hb
  refine ih (gj c p t) (Me h (by omega) p t) ?_
  show((_:Nat):Int)≤b
  have:(gj c p t).aa.length=c.aa.length+1:=qa _ _ _
  rw[this]; omega
theorem iE (l:List Rr):∀ c:Mt,SO c.aa→SO (ay c l).aa:=by
 induction l with
 | nil=>intro c h; exact h
 | cons r l ih=>intro c h; exact ih (fG c r) (ox r.pl r.tm c h)
theorem o4 {b:Int} (l:List Rr):∀ c:Mt,(∀ s∈c.aa,s.nu<b)→((c.aa.length+tot l:Nat):Int)≤b→∀ s∈(ay c l).aa,s.nu<b:=by
 induction l with
 | nil=>intro c h _; exact h
 | cons r l ih=>
  intro c h hb
  have ht:tot (r::l)=r.pl.length+tot l:=by unfold tot; simp
  rw[ht] at hb
  refine ih (fG c r) (Ia r.pl r.tm c h (by omega)) ?_
  have:(fG c r).aa.length=c.aa.length+r.pl.length:=fm _ _ _
  rw[this]; omega
theorem GD (ps:List Int) (t:Int):∀ c:Mt,(fg (cV c ps t).aa).Perm (fg c.aa++ps.map fun p=>(p,t)):=by
 induction ps with
 | nil=>intro c; rw[List.map_nil,List.append_nil]; exact List.Perm.refl _
 | cons p ps ih=>
  intro c
  refine(ih (gj c p t)).trans ?_
  have h1:(fg (gj c p t).aa).Perm ((p,t)::fg c.aa):=(iz c.aa (cY c.aa) (gg c.aa p t)).map _
  refine(h1.append_right _).trans ?_
  rw[List.map_cons]
  exact List.perm_middle.symm
theorem ku (l:List Rr):∀ c:Mt,(fg (ay c l).aa).Perm (fg c.aa++pairs l):=by
 induction l with
 | nil=>intro c; unfold pairs; rw[List.flatMap_nil,List.append_nil]; exact List.Perm.refl _
 | cons r l ih=>
  intro c
  refine(ih (fG c r)).trans ?_
  have h1:(fg (fG c r).aa).Perm (fg c.aa++r.pl.map fun p=>(p,r.tm)):=GD r.pl r.tm c
  refine(h1.append_right _).trans ?_
  unfold pairs
  rw[List.flatMap_cons,List.append_assoc]
theorem uu (w:List Mt):∀(l:List Rr) (s:WS),wsR w s l=wsP w s (l.flatMap Rr.pl)
 | [],_=>rfl
 | r::l,s=>by
  rw[List.flatMap_cons]
  unfold wsP
  rw[List.foldl_append]
  exact uu w l (wsP w s r.pl)
theorem Er (w:List Mt):∀(l:List Int) (s:WS),(wsP w s l).ex=false→s.ex=false∧l.Nodup∧∀ p∈l,p∉s.ps∧ofM w p=0
 | [],s,h=>⟨h,List.nodup_nil,fun _ h=>nomatch h⟩
 | p::l,s,h=>by
  obtain⟨h1,h2,h3⟩:=Er w l (ws1 w s p) h
  unfold ws1 at h1 h3
  simp only[Bool.or_eq_false_iff] at h1
  obtain⟨⟨h4,h5⟩,h6⟩:=h1
  have h5:p∉s.ps:=fun e=>by rw[pY.2 e] at h5; cases h5
  have h6:ofM w p=0:=by simpa using h6
  refine⟨h4,List.nodup_cons.2 ⟨fun e=>?_,h2⟩,fun x hx=>?_⟩
  ·exact(h3 p e).1 (by simp)
  ·rcases List.mem_cons.1 hx with rfl|hx
   ·exact⟨h5,h6⟩
   ·exact⟨fun e=>(h3 x hx).1 (by simp[e]),(h3 x hx).2⟩
theorem JY {w:List Mt} {l:List Rr} (h:(wsR w ws0 l).ex=false):(l.flatMap Rr.pl).Nodup∧∀ p∈l.flatMap Rr.pl,ofM w p=0:=by
 rw[uu] at h
 obtain⟨_,h2,h3⟩:=Er w _ _ h
 exact⟨h2,fun p hp=>(h3 p hp).2⟩
theorem IT {w:List Mt} {m:Int} (ro:MO w m) {p:Int} (h:ofM w p=0):∀ c∈w,inM c p=false:=by
 rcases xP ro p with⟨h1,_⟩|⟨_,_,h3⟩
 ·rw[h,ro.Nw] at h1; cases h1
 ·exact h3
theorem max_le {a b:Nat} (h:¬ mxI (a:Int) (b:Int)>4):a≤4∧b≤4:=by
 unfold mxI at h
 split at h<;>omega
theorem Ny {b l:List Rr} (h:szW b l=false):l≠[]∧(∀ r∈l,(r.tm=1∨r.tm=2)∧r.pl≠[]∧r.pl.length≤4)∧taken (b++l) 1≤4∧taken (b++l) 2≤4:=by
 unfold szW at h
 simp only[Bool.or_eq_false_iff] at h
 obtain⟨⟨h1,h2⟩,h3⟩:=h
 refine⟨fun e=>by subst e; simp at h1,fun r hr=>?_,max_le (of_decide_eq_false h3)⟩
 rw[List.any_eq_false] at h2
 have:=h2 r hr
 unfold bZ at this
 simp only[Bool.or_eq_true,Bool.and_eq_true,bne_iff_ne,decide_eq_true_eq,not_or,not_and] at this
 obtain⟨⟨h4,h5⟩,h6⟩:=this
 refine⟨?_,fun e=>by rw[e] at h5; simp at h5,by omega⟩
 by_cases c:r.tm=1
 ·exact .inl c
 ·exact .inr (Classical.byContradiction fun k=>h4 c k)
theorem yB {w:List Mt} {c:Mt} {l:List Rr} (hid:aC c.id=true) (hc:(c.rows=[]∧c.aa=[])∨c.Ok) (hz:szW c.rows l=false) (hx:(wsR w ws0 l).ex=false) (hn:∀ p,ofM w p=0→inM c p=false):(ay c l).Ok:=by
 obtain⟨_,z2,z3,z4⟩:=Ny hz
 obtain⟨x1,x2⟩:=JY hx
 have hso:SO c.aa:=by
  rcases hc with⟨_,e⟩|h
  ·rw[e]; exact SO.nil
  ·exact⟨h.sn,fun s hs=>(h.lo s hs).1⟩
 have hlo:∀ s∈c.aa,s.nu<8:=by
  rcases hc with⟨_,e⟩|h
  ·rw[e]; exact fun _ h=>nomatch h
  ·exact fun s hs=>(h.lo s hs).2
 have hpm:(fg c.aa).Perm (pairs c.rows):=by
  rcases hc with⟨e1,e2⟩|h
  ·rw[e1,e2]; exact List.Perm.refl _
  ·exact h.pm
 have hnd:(c.aa.map Se.pl).Nodup:=by
  rcases hc with⟨_,e⟩|h
  ·rw[e]; exact List.nodup_nil
  ·exact h.nd
 have htm:∀ r∈c.rows++l,r.tm=1∨r.tm=2:=by
  intro r hr
  rcases List.mem_append.1 hr with hr|hr
  ·rcases hc with⟨e,_⟩|h
   ·rw[e] at hr; cases hr
   ·exact h.tm r hr
  ·exact(z2 r hr).1
 have hne:∀ r∈c.rows++l,r.pl≠[]:=by
  intro r hr
  rcases List.mem_append.1 hr with hr|hr
  ·rcases hc with⟨e,_⟩|h
   ·rw[e] at hr; cases hr
   ·exact h.ne r hr
  ·exact(z2 r hr).2.1
 have htot:=mE htm
 have hsl:c.aa.length=tot c.rows:=by
  have:=hpm.length_eq
  rw[qx] at this
  unfold fg at this
  rwa [List.length_map] at this
 rw[nZ] at htot
 have hso2:=iE l c hso
 have hpm2:(fg (ay c l).aa).Perm (pairs (c.rows++l)):=by
  refine(ku l c).trans ?_
  unfold pairs
  rw[List.flatMap_append]
  exact hpm.append_right _
 refine⟨by rw[iK]; exact hid,hso2.sn,fun s hs=>⟨hso2.lo s hs,o4 l c hlo (by omega) s hs⟩,by rw[c8]; exact htm,by rw[c8]; exact hne,by rw[c8]; exact hpm2,?_,by rw[c8]; exact z3,by rw[c8]; exact z4⟩
 have h1:((ay c l).aa.map Se.pl).Perm (c.aa.map Se.pl++l.flatMap Rr.pl):=by
  have:=(ku l c).map Prod.fst
  rw[List.map_append,tt] at this
  unfold fg at this
  rw[List.map_map,List.map_map] at this
  exact this
 rw[h1.nodup_iff,List.nodup_append]
 refine⟨hnd,x1,fun a ha b hb e=>?_⟩
 subst e
 have:=hn a (x2 a hb)
 rw[lG.2 ha] at this
 cases this
theorem Ik {c:Mt} {l:List Rr} {p:Int} (h:inM (ay c l) p=true):inM c p=true∨p∈l.flatMap Rr.pl:=by
 have h1:((ay c l).aa.map Se.pl).Perm (c.aa.map Se.pl++l.flatMap Rr.pl):=by
  have:=(ku l c).map Prod.fst
  rw[List.map_append,tt] at this
  unfold fg at this
  rw[List.map_map,List.map_map] at this
  exact this
 have:=h1.mem_iff.1 (lG.1 h)
 rcases List.mem_append.1 this with k|k
 ·exact .inl (lG.2 k)
 ·exact .inr k
theorem MO.nil {m:Int} (h0:0≤m) (hm:m≤1000000):MO [] m:=⟨dN.nil _,h0,hm,(fun _ h=>nomatch h),(fun _ h=>nomatch h)⟩
theorem MO.put {w:List Mt} {m:Int} (ro:MO w m) {c:Mt} (hc:c.Ok) (hf:bz Mt.id w c.id=true∨(w.length:Int)<m) (hone:∀ b∈w,b.id≠c.id→∀ p,inM c p=true→inM b p=false):MO (fj Mt.id w c) m:=by
 refine⟨ro.rise.put c,?_,ro.big,fun a ha=>?_,fun a ha b hb p hpa hpb=>?_⟩
 ·rw[Cv ro.rise]
  split
  ·exact ro.full
  ·rename_i h
   rcases hf with h'|h'
   ·exact absurd h' h
   ·omega
 ·rcases g9.1 ha with rfl|⟨ha,_⟩
  ·exact hc
  ·exact ro.cs a ha
 ·rcases g9.1 ha with e1|⟨ha,hna⟩<;>rcases g9.1 hb with e2|⟨hb,hnb⟩
  ·rw[e1,e2]
  ·rw[e1] at hpa
   have:=hone b hb hnb p hpa; rw[hpb] at this; cases this
  ·rw[e2] at hpb
   have:=hone a ha hna p hpb; rw[hpa] at this; cases this
  ·exact ro.one a ha b hb p hpa hpb
theorem wG {c:Mt} (h:c.aa=[]) (p:Int):inM c p=false:=by unfold inM; rw[h]; rfl
theorem MO.make {w:List Mt} {m:Int} (ro:MO w m) (id md ins:Int) (l:List Rr):MO (dH w m id md ins l).1 m:=by
 unfold dH
 split
 ·exact ro
 split
 ·exact ro
 split
 ·exact ro
 split
 ·exact ro
 split
 ·exact ro
 rename_i h1 h2 h3 h4 h5
 have hid:aC id=true:=by
  cases c:aC id with
  | true=>rfl
  | false=>exact absurd (.inr c) h1
 have hx:(wsR w ws0 l).ex=false:=by simpa using h3
 refine ro.put (yB (w:=w) (c:=mk0 id md ins) hid (.inl ⟨rfl,rfl⟩) (show szW [] l=false by simpa using h2) hx fun p _=>wG rfl p) (.inr (by omega)) fun b hb _ p hp=>?_
 rcases Ik hp with k|k
 ·rw[wG rfl] at k; cases k
 ·exact IT ro ((JY hx).2 p k) b hb
theorem lD {l:List Se} {k:Nat} (st un no:Int) {β:Type} (g:Se→β) (hg:∀ s:Se,g (kj s st un no)=g s):(l.set k (kj (l.getD k default) st un no)).map g=l.map g:=by
 apply List.ext_getElem?
 intro i
 rw[List.getElem?_map,List.getElem?_map,List.getElem?_set]
 by_cases c:k=i
 ·subst c
  rw[if_pos rfl]
  by_cases hk:k<l.length
  ·rw[if_pos hk,List.getElem?_eq_getElem hk,List.getD_eq_getElem?_getD,List.getElem?_eq_getElem hk]
   show some (g _)=some (g _)
   rw[hg]; rfl
  ·rw[if_neg hk,List.getElem?_eq_none (by omega)]
 ·rw[if_neg c]
theorem LW {l l':List Se} (h:l'.map Se.nu=l.map Se.nu) (hp:l.Pairwise fun a b=>a.nu<b.nu):l'.Pairwise fun a b=>a.nu<b.nu:=by
 have h1:(l.map Se.nu).Pairwise (fun a b=>a<b):=List.pairwise_map.2 hp
 rw[← h] at h1
 exact List.pairwise_map.1 h1
theorem BO (c:Mt) (p st un no x:Int):inM (iQ c p st un no) x=inM c x:=by
 have h:((iQ c p st un no).aa.map Se.pl)=c.aa.map Se.pl:=lD st un no Se.pl fun _=>rfl
 rw[Bool.eq_iff_iff,lG,lG,h]
theorem DX {c:Mt} (h:c.Ok) (p st un no:Int):(iQ c p st un no).Ok:=by
 have e1:((iQ c p st un no).aa.map Se.pl)=c.aa.map Se.pl:=lD st un no Se.pl fun _=>rfl
 have e2:((iQ c p st un no).aa.map Se.nu)=c.aa.map Se.nu:=lD st un no Se.nu fun _=>rfl
 have e3:fg (iQ c p st un no).aa=fg c.aa:=lD st un no (fun s=>(s.pl,s.tm)) fun _=>rfl
 refine⟨h.rt,LW e2 h.sn,fun s hs=>?_,h.tm,h.ne,by rw[e3]; exact h.pm,by rw[e1]; exact h.nd,h.t1,h.t2⟩
 have:s.nu∈(iQ c p st un no).aa.map Se.nu:=List.mem_map.2 ⟨s,hs,rfl⟩
 rw[e2] at this
 obtain⟨s',hs',e⟩:=List.mem_map.1 this
 rw[← e]; exact h.lo s' hs'
theorem MO.set {w:List Mt} {m:Int} (ro:MO w m) (p st un no:Int):MO (eg w p st un no).1 m:=by
 unfold eg
 split
 ·exact ro
 split
 ·exact ro
 rename_i h1 h2
 have hh:bz Mt.id w (ofM w p)=true:=by simpa using h1
 have hm:gM w (ofM w p)∈w:=(eP hh).1
 refine ro.put (DX (ro.FX hh) p st un no) (.inl ?_) fun b hb hne x hx=>?_
 ·show bz Mt.id w (gM w (ofM w p)).id=true
  rw[MO.IM hh]; exact hh
 ·rw[BO] at hx
  cases c:inM b x with
  | false=>rfl
  | true=>exact absurd (congrArg Mt.id (ro.one b hb _ hm x c hx)) hne
theorem MO.drop {w:List Mt} {m:Int} (ro:MO w m) (t:Int):MO (ef Mt.id w t) m:=by
 refine⟨ro.rise.drop t,?_,ro.big,fun c hc=>ro.cs c (nc.1 hc).1,fun a ha b hb p hpa hpb=>ro.one a (nc.1 ha).1 b (nc.1 hb).1 p hpa hpb⟩
 have:=ro.full
 have:(ef Mt.id w t).length≤w.length:=List.length_filter_le _ _
 omega
theorem y4 (t:Int)  (K:PV→Prop) (h:br ((t != 0) == true) (K (.bool (decide (t≤2147483647)))) (K (.bool false))):AcK 53 [.U t] [] (fun x _=>K x):=
 acW (T:=[]) (L:=[]) (fun _=>0) Tryz.func53 (aX.nil _ _) (LOk.nil _ _ _ _ _) h
def xT (args:List PV) (K:PV→Prop):Prop:=∃ t:Int,0≤t∧ah args [.U t]∧K (.bool (aC t))
theorem uZ:SpK 53 (.pure xT):=by
 rintro args K ⟨t,h0,he,hk⟩
 have he:args=_:=he
 subst he
 refine cr aj (by simp[cg]) (.bool _) (y4 t (fun x=>x = .bool (aC t)) ?_) hk
 simp only[au,bt]
 unfold aC
 by_cases c:t=0
 ·subst c; rw[if_neg (by decide)]; rfl
 ·rw[if_pos (by simpa using c)]; congr 1; apply decide_eq_decide.2; omega
theorem rW (a b:List (List PV)) (i:Nat):(by refine(?_:_→_→Prop) [PV.list a .no,.list b .no,.bool false,.I i] (Int.toNat (i:Int)); exact fun c d=>by refine(?_:_→_→Prop) (List.getD a d []) (List.getD b d []); exact fun f g=>∀(R:Ex→List PV→ae→Prop),(br (decide ((i:Int)<(a.length:Int))) (InL a 1 (i:Int)∧br (true && aD [.int .u32] 0 f) (InL b 1 (i:Int)∧br (true && aD [.int .u32] 0 g) (br (cI f 0 != cI g 0) (R .ret c []) (R .normal [.list a .no,.list b .no,.bool false,.I (wI ((i:Int)+1))] [])) False) False) (R (.exit 0) c []))→Holds (wpK [] [] (fun _=>0) (ai [1,1,0,1,0] (ag Tryz.f29)) [] (ak [0,1,4,5] c) [] (fun ex e H=>R ex (List.map e [0,1,4,5]) H)):Prop):=fun R h=>hoE h
theorem bl {ns:List Int} {k:IntKind} {t:Tail} (ht:NT t) {n:Nat}:Low n (.list (en1 k ns) t):=aH ht (iC k ns)
def oJ:LSp:=fun e H Q=>∃(a b:List Int),a.length≤1000000∧a.length=b.length∧ah (List.map e [0,1,4,5]) [.list (en1 .u32 a) .no,.list (en1 .u32 b) .no,.bool false,.I 0]∧av H []∧
 (a=b→Q (.exit 0) (ak [0,1,4,5] [.list (en1 .u32 a) .no,.list (en1 .u32 b) .no,.bool false,.I a.length]) [])∧
 (a≠b→∀ i:Int,Q .ret (ak [0,1,4,5] [.list (en1 .u32 a) .no,.list (en1 .u32 b) .no,.bool false,.I i]) [])
theorem mQ:∀ e H Q,oJ e H Q→AwK Tryz.f29.ntmps (.loop (ai [1,1,0,1,0] (ag Tryz.f29))) Q e H:=by
 rintro e H Q ⟨a,b,hl,hab,he,hH,hx,hr⟩
 refine aB (hn:=fun _=>0) aj (.nil _ _) (.nil _ _ _ _ _) (σ:=Nat) [0,1,4,5] (fun i=>i≤a.length∧∀ k,k<i→a.getD k 0=b.getD k 0)
  (fun i=>[.list (en1 .u32 a) .no,.list (en1 .u32 b) .no,.bool false,.I i]) (fun _=>[]) (fun i=>a.length-i) 0 ⟨Nat.zero_le _,fun k hk=>absurd hk (Nat.not_lt_zero _)⟩ he hH ?_
 rintro i ⟨hi,hk⟩
 refine rW _ _ i _ ?_
 simp only[au,dt,aO,an]
 by_cases h:i<a.length
 ·rw[if_pos (by omega),oy _ _ _ h,oy _ _ _ (by omega)]
  refine⟨dL _ _ _ (by omega) (by omega),?_⟩
  rw[if_pos (by rfl)]
  refine⟨dL _ _ _ (by omega) (by omega),?_⟩
  rw[if_pos (by rfl)]
  have e1:cI [PV.U (a.getD i 0)] 0=a.getD i 0:=rfl
  have e2:cI [PV.U (b.getD i 0)] 0=b.getD i 0:=rfl
  rw[e1,e2]
  by_cases c:a.getD i 0=b.getD i 0
  ·rw[if_neg (by simpa using c)]
   refine⟨i+1,(show a.length-(i+1)<a.length-i by omega),⟨h,fun k hk'=>?_⟩,by rw[ar h (by omega)],[],rfl,Nat.le_refl _,.inl rfl⟩
   rcases Nat.eq_or_lt_of_le (Nat.le_of_lt_succ hk') with rfl|q
   ·exact c
   ·exact hk k q
  ·rw[if_pos (by simpa using c)]
   exact hr (fun e=>c (by rw[e])) i
 ·rw[if_neg (by omega)]
  have:i=a.length:=by omega
  subst this
  refine hx (List.ext_getElem hab fun k h1 h2=>?_)
  have:=hk k h1
  rwa [bh h1,bh h2] at this
theorem FM (a b:List Int)  (K:PV→Prop) (h:br ((↑(List.length (en1 .u32 a)):Int) != (↑(List.length (en1 .u32 b)):Int)) (K (.bool false)) (∃(a_1:List Int) (b_1:List Int),List.length a_1≤1000000∧List.length a_1=List.length b_1∧ah [.list (en1 .u32 a) .no,.list (en1 .u32 b) .no,.bool false,.I 0] [.list (en1 .u32 a_1) .no,.list (en1 .u32 b_1) .no,.bool false,.I 0]∧av [] []∧(a_1=b_1→K (.bool true))∧(a_1≠b_1→∀(_:Int),K (.bool false)))):AcK 29 [.list (en1 .u32 a) .no,.list (en1 .u32 b) .no] [] (fun x _=>K x):=
 acW (T:=[]) (L:=[([1,1,0,1,0],oJ)]) (fun _=>0) Tryz.func29 (aX.nil _ _) (.cons suE mQ (.nil _ _ _ _ _)) h
def o9 (args:List PV) (K:PV→Prop):Prop:=∃(a b:List Int) (t t':Tail),ah args [.list (en1 .u32 a) t,.list (en1 .u32 b) t']∧a.length≤1000000∧K (.bool (decide (a=b)))
theorem n8:SpK 29 (.pure o9):=by
 rintro args K ⟨a,b,t,t',he,hl,hk⟩
 have he:args=_:=he
 subst he
 refine bu aj (.cons (.list _ _) (.cons (.list _ _) .nil)) (bn (bl NT.no) (bl NT.no)) (.bool _) (FM a b (fun x=>x = .bool (decide (a=b))) ?_) hk
 simp only[au,aO]
 by_cases c:a.length=b.length
 ·rw[if_neg (by simp[c])]
  exact⟨a,b,hl,c,rfl,rfl,fun e=>by rw[decide_eq_true e],fun e _=>by rw[decide_eq_false e]⟩
 ·rw[if_pos (by simp; omega)]
  rw[decide_eq_false (fun e=>c (by rw[e]))]
theorem Lj (l:List (Int)) (t:Int) (i:Nat):(by refine(?_:_→_→_→Prop) [PV.list (l.map u1) .no,.U t,.bool false,.I i] (List.getD (l.map u1) (Int.toNat (i:Int)) []) (PV.list (l.map u1) .no); exact fun a b c=>∀(R:Ex→List PV→ae→Prop),(br (decide ((i:Int)<(↑(List.length (l.map u1)):Int))) (InL (l.map u1) 1 (i:Int)∧br (true && aD [.int .u32] 0 b) (br (cI b 0 == t) (R .ret [c,.U t,.bool true,.I i] []) (R .normal [c,.U t,.bool false,.I (wI ((i:Int)+1))] [])) False) (R (.exit 0) a []))→Holds (wpK [] [] (fun _=>0) (ai [1,0,1,0] (ag Tryz.f91)) [] (ak [0,1,4,5] a) [] (fun ex e H=>R ex (List.map e [0,1,4,5]) H)):Prop):=fun R h=>hoE h
def J8:LSp:=fun e H Q=>∃(l:List (Int)) (t:Int),l.length≤1000000∧(True)∧ah (List.map e [0,1,4,5]) [.list (l.map u1) .no,.U t,.bool false,.I 0]∧av H []∧
 (l.findIdx (fun x=>x == t)<l.length→Q .ret (ak [0,1,4,5] [.list (l.map u1) .no,.U t,.bool true,.I (l.findIdx (fun x=>x == t))]) [])∧(l.findIdx (fun x=>x == t)=l.length→Q (.exit 0) (ak [0,1,4,5] [.list (l.map u1) .no,.U t,.bool false,.I l.length]) [])
theorem Fo:∀ e H Q,J8 e H Q→AwK Tryz.f91.ntmps (.loop (ai [1,0,1,0] (ag Tryz.f91))) Q e H:=by
 rintro e H Q ⟨l,t,hl,_,he,hH,hQ1,hQ2⟩
 have hfl:l.findIdx (fun x=>x == t)≤l.length:=List.findIdx_le_length
 refine aB (hn:=fun _=>0) aj (.nil _ _) (.nil _ _ _ _ _) (σ:=Nat) [0,1,4,5] (fun i=>i≤l.findIdx (fun x=>x == t)) (fun i=>[.list (l.map u1) .no,.U t,.bool false,.I i]) (fun _=>[]) (fun i=>l.length-i) 0 (Nat.zero_le _) he hH ?_
 intro i hi
 have hi':i≤l.findIdx (fun x=>x == t):=hi
 refine Lj l t i _ ?_
 simp only[au,dt,an,List.length_map,dQ]
 by_cases h:i<l.length
 ·rw[if_pos (by omega)]
  simp only[getD_map 0 h]
  repeat (first|refine⟨h,?_⟩|rw[if_pos (by rfl)])
  by_cases c:(fun x=>x == t) (l.getD i 0)=true
  ·have hge:l.findIdx (fun x=>x == t)=i:=ed 0 hi' h c
   rw[hge] at hQ1
   rw[if_pos (by exact c)]
   repeat (first|refine⟨h,?_⟩|rw[if_pos (by rfl)])
   exact hQ1 h
  ·have hlt:i<l.findIdx (fun x=>x == t):=ec 0 hi' h (by simpa using c)
   rw[if_neg (by exact c)]
   exact⟨i+1,(show l.length-(i+1)<l.length-i by omega),hlt,by rw[ar h (by omega)],[],rfl,Nat.le_refl _,.inl rfl⟩
 ·rw[if_neg (by omega)]
  have:i=l.length:=by omega
  subst this
  exact hQ2 (by omega)
theorem F4 (l:List Int) (t:Int):∀(K:PV→Prop),(∃(l_1:List Int) (t_1:Int),l_1.length≤1000000∧True∧ah [.list (l.map u1) .no,.U t,.bool false,.I 0] [.list (l_1.map u1) .no,.U t_1,.bool false,.I 0]∧av [] []∧(List.findIdx (fun(x:Int)=>x == t_1) l_1<l_1.length→K (.bool true))∧(List.findIdx (fun(x:Int)=>x == t_1) l_1=l_1.length→K (.bool false)))→AcK 91 [.list (l.map u1) .no,.U t] [] (fun x _=>K x):=fun K h=>acW (T:=[]) (L:=[([1,0,1,0],J8)]) (fun _=>0) Tryz.func91 (aX.nil _ _) (.cons suE Fo (.nil _ _ _ _ _)) h
theorem th (l:List Int) (t:Int):(l.findIdx (fun x=>x == t)<l.length↔t∈l):=by
 rw[List.findIdx_lt_length]
 exact⟨fun⟨x,hx,e⟩=>by rw[← eq_of_beq e]; exact hx,fun h=>⟨t,h,by simp⟩⟩
def J0 (args:List PV) (K:PV→Prop):Prop:=∃(l:List Int) (tl:Tail) (t:Int),ah args [.list (l.map u1) tl,.U t]∧l.length≤1000000∧K (.bool (cJ l t))
theorem KP:SpK 91 (.pure J0):=by
 rintro args K ⟨l,tl,t,he,hl,hk⟩
 have he:args=_:=he
 subst he
 refine bu aj (.cons (.list _ _) (.cons (.refl _) .nil)) (bn (eE l) (.int _ _)) (.bool _) (F4 l t (fun x=>x = .bool (cJ l t)) ⟨l,t,hl,trivial,rfl,rfl,fun h=>?_,fun h=>?_⟩) hk
 ·rw[pY.2 ((th l t).1 h)]
 ·rw[show cJ l t=false from eq_false_of_ne_true fun k=>by have:=(th l t).2 (pY.1 k); omega]
def mtc (c:Mt):List PV:=[.U c.id,.I c.md,.U c.ins,.list (c.rows.map rrc) .no,.list (c.aa.map stc) .no]
theorem dW (c:Mt):(mtc c).length=5:=rfl
theorem gC {n:Nat} (c:Mt):∀ y∈mtc c,Low n y:=fZ (.int _ _) (.int _ _) (.int _ _) (aR _) (dz _)
theorem eC (c:Mt):∀ y∈mtc c,y.one=true:=by
 intro y hy
 simp only[mtc,List.mem_cons,List.not_mem_nil,or_false] at hy
 rcases hy with rfl|rfl|rfl|rfl|rfl<;>rfl
def mtI (c:Mt):List PV:=[.U c.id]
theorem wY (c:Mt):(mtI c).length=1:=rfl
theorem HC {n:Nat} (c:Mt):∀ y∈mtI c,Low n y:=bw (.int _ _)
theorem xK (c:Mt):∀ y∈mtI c,y.one=true:=by intro y hy; rcases List.mem_singleton.1 hy with rfl; rfl
theorem bB {n:Nat} (w:List Mt):Low n (.list (w.map mtc) .no):=bq gC w
def idT (t:Int) (c:Mt):Bool:=c.id == t
def niT (t:Int) (c:Mt):Bool:=c.id != t
def nuT (t:Int) (s:Se):Bool:=s.nu == t
theorem gk (l:List (Mt)) (i:Nat):InL (l.map mtc) 5 (i:Int)=(i<l.length):=dD dW (by decide) l i
theorem GU (l:List (Mt)) (t:Int) (i:Nat):(by refine(?_:_→_→_→_→Prop) (List.getD (l.map mtc) (Int.toNat (i:Int)) []) [Ob.cells [.U 0,.I 0,.U 0,.E,.E]] [PV.list (l.map mtc) .no,.U t,.ptr 0 0,.bool false,.I i] (PV.list (l.map mtc) .no); exact fun a b c d=>∀(R:Ex→List PV→ae→Prop),(br (decide ((i:Int)<(↑(List.length (l.map mtc)):Int))) (InL (l.map mtc) 5 (i:Int)∧br (true && aD [.int .u32] 0 (List.drop 0 a)) (br (cI (List.drop 0 a) 0 == t) (InL (l.map mtc) 5 (i:Int)∧br (true && aD [.int .u32,.int .i64,.int .u32,.list,.list] 0 a) (R .ret [d,.U t,.ptr 0 0,.bool true,.I i] [.cells [.U (cI a 0),.I (cI a 1),.U (cI a 2),.list (cL a 3) (cT a 3),.list (cL a 4) (cT a 4)]]) False) (R .normal [d,.U t,.ptr 0 0,.bool false,.I (wI ((i:Int)+1))] b)) False) (R (.exit 0) c b))→Holds (wpK [] [] (fun _=>0) (ai [1,0,1,0] (ag Tryz.f15)) [] (ak [0,1,4,5,6] c) b (fun ex e H=>R ex (List.map e [0,1,4,5,6]) H)):Prop):=fun R h=>hoE h
def B8:LSp:=fun e H Q=>∃(l:List (Mt)) (t:Int),l.length≤1000000∧(True)∧ah (List.map e [0,1,4,5,6]) [.list (l.map mtc) .no,.U t,.ptr 0 0,.bool false,.I 0]∧av H [.cells [.U 0,.I 0,.U 0,.E,.E]]∧
 (l.findIdx (idT t)<l.length→Q .ret (ak [0,1,4,5,6] [.list (l.map mtc) .no,.U t,.ptr 0 0,.bool true,.I (l.findIdx (idT t))]) [.cells (mtc (l.getD (l.findIdx (idT t)) default))])∧(l.findIdx (idT t)=l.length→Q (.exit 0) (ak [0,1,4,5,6] [.list (l.map mtc) .no,.U t,.ptr 0 0,.bool false,.I l.length]) [.cells [.U 0,.I 0,.U 0,.E,.E]])
theorem ze:∀ e H Q,B8 e H Q→AwK Tryz.f15.ntmps (.loop (ai [1,0,1,0] (ag Tryz.f15))) Q e H:=by
 rintro e H Q ⟨l,t,hl,_,he,hH,hQ1,hQ2⟩
 have hfl:l.findIdx (idT t)≤l.length:=List.findIdx_le_length
 refine aB (hn:=fun _=>0) aj (.nil _ _) (.nil _ _ _ _ _) (σ:=Nat) [0,1,4,5,6] (fun i=>i≤l.findIdx (idT t)) (fun i=>[.list (l.map mtc) .no,.U t,.ptr 0 0,.bool false,.I i]) (fun _=>[.cells [.U 0,.I 0,.U 0,.E,.E]]) (fun i=>l.length-i) 0 (Nat.zero_le _) he hH ?_
 intro i hi
 have hi':i≤l.findIdx (idT t):=hi
 refine GU l t i _ ?_
 simp only[au,dt,an,List.length_map,gk]
 by_cases h:i<l.length
 ·rw[if_pos (by omega)]
  simp only[getD_map default h]
  repeat (first|refine⟨h,?_⟩|rw[if_pos (by rfl)])
  by_cases c:(idT t) (l.getD i default)=true
  ·have hge:l.findIdx (idT t)=i:=ed default hi' h c
   rw[hge] at hQ1
   rw[if_pos (by exact c)]
   repeat (first|refine⟨h,?_⟩|rw[if_pos (by rfl)])
   exact hQ1 h
  ·have hlt:i<l.findIdx (idT t):=ec default hi' h (by simpa using c)
   rw[if_neg (by exact c)]
   exact⟨i+1,(show l.length-(i+1)<l.length-i by omega),hlt,by rw[ar h (by omega)],[],rfl,Nat.le_refl _,.inl rfl⟩
 ·rw[if_neg (by omega)]
  have:i=l.length:=by omega
  subst this
  exact hQ2 (by omega)
theorem Fw (l:List Mt) (t:Int):(by refine(?_:_→_→Prop) [PV.U 0,.I 0,.U 0,.E,.E] (PV.list (l.map mtc) .no); exact fun b c=>∀(K:PV→Prop),(∃(l_1:List Mt) (t_1:Int),by refine(?_:_→Prop) (List.getD l_1 (List.findIdx (idT t_1) l_1) default); exact fun a=>l_1.length≤1000000∧True∧ah [c,.U t,.ptr 0 0,.bool false,.I 0] [.list (l_1.map mtc) .no,.U t_1,.ptr 0 0,.bool false,.I 0]∧av [.cells b] [.cells b]∧(List.findIdx (idT t_1) l_1<l_1.length→K (.tup [.agg [.U (Mt.id a),.I (Mt.md a),.U (Mt.ins a),.list (List.map rrc (Mt.rows a)) .no,.list (List.map stc (Mt.aa a)) .no],.bool true]))∧(List.findIdx (idT t_1) l_1=l_1.length→K (.tup [.agg b,.bool false])))→AcK 15 [c,.U t] [] (fun x _=>K x):Prop):=fun K h=>acW (T:=[]) (L:=[([1,0,1,0],B8)]) (fun _=>0) Tryz.func15 (aX.nil _ _) (.cons suE ze (.nil _ _ _ _ _)) h
theorem DJ (l:List (Se)) (id md ins t:Int) (rw:List Rr) (i:Nat):(by refine(?_:_→_→_→Prop) (List.getD (l.map stc) (Int.toNat (i:Int)) []) [PV.U id,.I md,.U ins,.list (rw.map rrc) .no,.list (l.map stc) .no] [PV.U t,.ptr 0 0,.ptr 1 0,.bool false,.I i]; exact fun a c d=>by refine(?_:_→Prop) [Ob.cells c,.cells [.U 0,.I 0,.I 0,.I 0,.I 0,.int .u64 0]]; exact fun b=>∀(R:Ex→List PV→ae→Prop),(br (decide ((i:Int)<(↑(List.length (l.map stc)):Int))) (InL (l.map stc) 6 (i:Int)∧br (true && aD [.int .u32] 0 (List.drop 0 a)) (br (cI (List.drop 0 a) 0 == t) (InL (l.map stc) 6 (i:Int)∧br (true && aD [.int .u32,.int .i64,.int .i64,.int .i64,.int .i64,.int .u64] 0 a) (R .ret [.U t,.ptr 0 0,.ptr 1 0,.bool true,.I i] [.cells c,.cells [.U (cI a 0),.I (cI a 1),.I (cI a 2),.I (cI a 3),.I (cI a 4),.int .u64 (cI a 5)]]) False) (R .normal [.U t,.ptr 0 0,.ptr 1 0,.bool false,.I (wI ((i:Int)+1))] b)) False) (R (.exit 0) d b))→Holds (wpK [] [] (fun _=>0) (ai [1,0,1,0] (ag Tryz.f98)) [] (ak [1,2,4,5,6] d) b (fun ex e H=>R ex (List.map e [1,2,4,5,6]) H)):Prop):=fun R h=>hoE h
def xU:LSp:=fun e H Q=>∃(l:List (Se)) (id md ins t:Int) (rw:List Rr),l.length≤1000000∧(True)∧ah (List.map e [1,2,4,5,6]) [.U t,.ptr 0 0,.ptr 1 0,.bool false,.I 0]∧av H [.cells [.U id,.I md,.U ins,.list (rw.map rrc) .no,.list (l.map stc) .no],.cells [.U 0,.I 0,.I 0,.I 0,.I 0,.int .u64 0]]∧
 (l.findIdx (isP t)<l.length→Q .ret (ak [1,2,4,5,6] [.U t,.ptr 0 0,.ptr 1 0,.bool true,.I (l.findIdx (isP t))]) [.cells [.U id,.I md,.U ins,.list (rw.map rrc) .no,.list (l.map stc) .no],.cells (stc (l.getD (l.findIdx (isP t)) default))])∧(l.findIdx (isP t)=l.length→Q (.exit 0) (ak [1,2,4,5,6] [.U t,.ptr 0 0,.ptr 1 0,.bool false,.I l.length]) [.cells [.U id,.I md,.U ins,.list (rw.map rrc) .no,.list (l.map stc) .no],.cells [.U 0,.I 0,.I 0,.I 0,.I 0,.int .u64 0]])
theorem vf:∀ e H Q,xU e H Q→AwK Tryz.f98.ntmps (.loop (ai [1,0,1,0] (ag Tryz.f98))) Q e H:=by
 rintro e H Q ⟨l,id,md,ins,t,rw,hl,_,he,hH,hQ1,hQ2⟩
 have hfl:l.findIdx (isP t)≤l.length:=List.findIdx_le_length
 refine aB (hn:=fun _=>0) aj (.nil _ _) (.nil _ _ _ _ _) (σ:=Nat) [1,2,4,5,6] (fun i=>i≤l.findIdx (isP t)) (fun i=>[.U t,.ptr 0 0,.ptr 1 0,.bool false,.I i]) (fun _=>[.cells [.U id,.I md,.U ins,.list (rw.map rrc) .no,.list (l.map stc) .no],.cells [.U 0,.I 0,.I 0,.I 0,.I 0,.int .u64 0]]) (fun i=>l.length-i) 0 (Nat.zero_le _) he hH ?_
 intro i hi
 have hi':i≤l.findIdx (isP t):=hi
 refine DJ l id md ins t rw i _ ?_
 simp only[au,dt,an,List.length_map,n7]
 by_cases h:i<l.length
 ·rw[if_pos (by omega)]
  simp only[getD_map default h]
  repeat (first|refine⟨h,?_⟩|rw[if_pos (by rfl)])
  by_cases c:(isP t) (l.getD i default)=true
  ·have hge:l.findIdx (isP t)=i:=ed default hi' h c
   rw[hge] at hQ1
   rw[if_pos (by exact c)]
   repeat (first|refine⟨h,?_⟩|rw[if_pos (by rfl)])
   exact hQ1 h
  ·have hlt:i<l.findIdx (isP t):=ec default hi' h (by simpa using c)
   rw[if_neg (by exact c)]
   exact⟨i+1,(show l.length-(i+1)<l.length-i by omega),hlt,by rw[ar h (by omega)],[],rfl,Nat.le_refl _,.inl rfl⟩
 ·rw[if_neg (by omega)]
  have:i=l.length:=by omega
  subst this
  exact hQ2 (by omega)
theorem zy (c:Mt) (t:Int):(by refine(?_:_→Prop) [PV.U 0,.I 0,.I 0,.I 0,.I 0,.int .u64 0]; exact fun b=>∀(K:PV→Prop),(∃(l:List Se) (id:Int) (md:Int) (ins:Int) (t_1:Int) (rw:List Rr),by refine(?_:_→Prop) (List.getD l (List.findIdx (isP t_1) l) default); exact fun a=>l.length≤1000000∧True∧ah [.U t,.ptr 0 0,.ptr 1 0,.bool false,.I 0] [.U t_1,.ptr 0 0,.ptr 1 0,.bool false,.I 0]∧av [.cells [.U c.id,.I c.md,.U c.ins,.list (c.rows.map rrc) .no,.list (c.aa.map stc) .no],.cells b] [.cells [.U id,.I md,.U ins,.list (rw.map rrc) .no,.list (l.map stc) .no],.cells b]∧(List.findIdx (isP t_1) l<l.length→K (.tup [.agg [.U (Se.pl a),.I (Se.tm a),.I (Se.nu a),.I (Se.st a),.I (Se.un a),.int .u64 (Se.no a)],.bool true]))∧(List.findIdx (isP t_1) l=l.length→K (.tup [.agg b,.bool false])))→AcK 98 [.agg (mtc c),.U t] [] (fun x _=>K x):Prop):=fun K h=>acW (T:=[]) (L:=[([1,0,1,0],xU)]) (fun _=>0) Tryz.func98 (aX.nil _ _) (.cons suE vf (.nil _ _ _ _ _)) h
theorem Gt (l:List (Se)) (t:Int) (i:Nat):(by refine(?_:_→_→_→Prop) (List.drop 2 (List.getD (l.map stc) (Int.toNat (i:Int)) [])) [PV.list (l.map stc) .no,.I t,.I 0,.I i] (PV.list (l.map stc) .no); exact fun a b c=>∀(R:Ex→List PV→ae→Prop),(br (decide ((i:Int)<(↑(List.length (l.map stc)):Int))) (InL (l.map stc) 6 (i:Int)∧br (true && aD [.int .i64] 0 a) (br (cI a 0 == t) (R .ret [c,.I t,.I i,.I i] []) (R .normal [c,.I t,.I 0,.I (wI ((i:Int)+1))] [])) False) (R (.exit 0) b []))→Holds (wpK [] [] (fun _=>0) (ai [1,0,1,0] (ag Tryz.f93)) [] (ak [0,1,4,5] b) [] (fun ex e H=>R ex (List.map e [0,1,4,5]) H)):Prop):=fun R h=>hoE h
def B7:LSp:=fun e H Q=>∃(l:List (Se)) (t:Int),l.length≤1000000∧(True)∧ah (List.map e [0,1,4,5]) [.list (l.map stc) .no,.I t,.I 0,.I 0]∧av H []∧
 (l.findIdx (nuT t)<l.length→Q .ret (ak [0,1,4,5] [.list (l.map stc) .no,.I t,.I (l.findIdx (nuT t)),.I (l.findIdx (nuT t))]) [])∧(l.findIdx (nuT t)=l.length→Q (.exit 0) (ak [0,1,4,5] [.list (l.map stc) .no,.I t,.I 0,.I l.length]) [])
theorem z5:∀ e H Q,B7 e H Q→AwK Tryz.f93.ntmps (.loop (ai [1,0,1,0] (ag Tryz.f93))) Q e H:=by
 rintro e H Q ⟨l,t,hl,_,he,hH,hQ1,hQ2⟩
 have hfl:l.findIdx (nuT t)≤l.length:=List.findIdx_le_length
 refine aB (hn:=fun _=>0) aj (.nil _ _) (.nil _ _ _ _ _) (σ:=Nat) [0,1,4,5] (fun i=>i≤l.findIdx (nuT t)) (fun i=>[.list (l.map stc) .no,.I t,.I 0,.I i]) (fun _=>[]) (fun i=>l.length-i) 0 (Nat.zero_le _) he hH ?_
 intro i hi
 have hi':i≤l.findIdx (nuT t):=hi
 refine Gt l t i _ ?_
 simp only[au,dt,an,List.length_map,n7]
 by_cases h:i<l.length
 ·rw[if_pos (by omega)]
  simp only[getD_map default h]
  repeat (first|refine⟨h,?_⟩|rw[if_pos (by rfl)])
  by_cases c:(nuT t) (l.getD i default)=true
  ·have hge:l.findIdx (nuT t)=i:=ed default hi' h c
   rw[hge] at hQ1
   rw[if_pos (by exact c)]
   repeat (first|refine⟨h,?_⟩|rw[if_pos (by rfl)])
   exact hQ1 h
  ·have hlt:i<l.findIdx (nuT t):=ec default hi' h (by simpa using c)
   rw[if_neg (by exact c)]
   exact⟨i+1,(show l.length-(i+1)<l.length-i by omega),hlt,by rw[ar h (by omega)],[],rfl,Nat.le_refl _,.inl rfl⟩
 ·rw[if_neg (by omega)]
  have:i=l.length:=by omega
  subst this
  exact hQ2 (by omega)
theorem Dg (l:List Se) (t:Int):∀(K:PV→Prop),(∃(l_1:List Se) (t_1:Int),l_1.length≤1000000∧True∧ah [.list (l.map stc) .no,.I t,.I 0,.I 0] [.list (l_1.map stc) .no,.I t_1,.I 0,.I 0]∧av [] []∧(List.findIdx (nuT t_1) l_1<l_1.length→K (.I (↑(List.findIdx (nuT t_1) l_1):Int)))∧(List.findIdx (nuT t_1) l_1=l_1.length→K (.I (-1))))→AcK 93 [.list (l.map stc) .no,.I t] [] (fun x _=>K x):=fun K h=>acW (T:=[]) (L:=[([1,0,1,0],B7)]) (fun _=>0) Tryz.func93 (aX.nil _ _) (.cons suE z5 (.nil _ _ _ _ _)) h
theorem BX (l:List (Mt)) (i:Nat):(by refine(?_:_→_→Prop) (List.drop 0 (List.getD (l.map mtc) (Int.toNat (i:Int)) [])) [PV.list (l.map mtc) .no,.E,.I i]; exact fun a b=>by refine(?_:_→Prop) [[PV.U (cI a 0)]]; exact fun c=>∀(R:Ex→List PV→ae→Prop),(br (decide ((i:Int)<(↑(List.length (l.map mtc)):Int))) (InL (l.map mtc) 5 (i:Int)∧br (true && aD [.int .u32] 0 a) (aG [] c 1 4∧(List.all [.U (cI a 0)] PV.one=true∧c≠[])∧R .normal [.list (l.map mtc) .no,.list c (.tok 0),.I (wI ((i:Int)+1))] [.tok]) False) (R (.exit 0) b []))→Holds (wpK [] [] (fun o=>match o.dst with|some 18=>1|_=>0) (ai [1,1,0,1,0] (ag Tryz.f32)) [] (ak [0,3,4] b) [] (fun ex e H=>R ex (List.map e [0,3,4]) H)):Prop):=fun R h=>hoE h
theorem Br (l:List (Mt)) (es:List (List PV)) (i:Nat):(by refine(?_:_→_→Prop) (List.drop 0 (List.getD (l.map mtc) (Int.toNat (i:Int)) [])) [PV.list (l.map mtc) .no,.list es (.tok 0),.I i]; exact fun a b=>by refine(?_:_→Prop) [[PV.U (cI a 0)]]; exact fun c=>∀(R:Ex→List PV→ae→Prop),(br (decide ((i:Int)<(↑(List.length (l.map mtc)):Int))) (InL (l.map mtc) 5 (i:Int)∧br (true && aD [.int .u32] 0 a) (aG es c 1 4∧(List.all [.U (cI a 0)] PV.one=true∧c≠[])∧R .normal [.list (l.map mtc) .no,.list (es++c) (.tok 1),.I (wI ((i:Int)+1))] [.dead,.tok]) False) (R (.exit 0) b [.tok]))→Holds (wpK [] [] (fun o=>match o.dst with|some 18=>1|_=>0) (ai [1,1,0,1,0] (ag Tryz.f32)) [] (ak [0,3,4] b) [.tok] (fun ex e H=>R ex (List.map e [0,3,4]) H)):Prop):=fun R h=>hoE h
def Fe:LSp:=fun e H Q=>∃(l:List (Mt)) ,l.length≤1000000∧(True)∧ah (List.map e [0,3,4]) [.list (l.map mtc) .no,.E,.I 0]∧av H []∧
 Q (.exit 0) (ak [0,3,4] [.list (l.map mtc) .no,.list (l.map mtI) .no,.I l.length]) [.dead]
theorem zj:∀ e H Q,Fe e H Q→AwK Tryz.f32.ntmps (.loop (ai [1,1,0,1,0] (ag Tryz.f32))) Q e H:=by
 rintro e H Q ⟨l,hl,_,he,hH,hQ⟩
 have hH2:H=[]:=hH
 refine fk (f:=mtI) (acc:=fun i=>l.take i) (I:=fun i=>i≤l.length) (m:=fun i=>l.length-i) (hn:=fun o=>match o.dst with|some 18=>1|_=>0) aj (.nil _ _) (.nil _ _ _ _ _) [0,3,4] (fun r i=>[.list (l.map mtc) .no,r,.I i]) [] (0:Nat)
  (oH) (fun _ _ a _=>HC a) (fun es i k _ h=> .same (bB l) (.row h (.same (.int _ _) (.nil)))) (fun i _ w hw=>by
   simp only[List.mem_cons,List.not_mem_nil,or_false] at hw
   rcases hw with rfl|rfl|rfl
   ·exact bB l
   ·exact aH NT.exact (by simp)
   ·exact .int _ _) (Nat.zero_le _) (by simp) he hH2 ?_ ?_
 ·intro i hi ha
  have hi':i≤l.length:=hi
  refine BX l  i _ ?_
  simp only[au,dt,an,List.length_map,gk]
  by_cases h:i<l.length
  ·rw[if_pos (by omega)]
   simp only[getD_map default h]
   have hs:=aJ default h
   repeat (first|refine⟨h,?_⟩|rw[if_pos (by rfl)])
   refine⟨aE (l:=[]) (by_:=4) wY (l.getD i default) (by show(0+1)*4≤_; decide),one_row xK (l.getD i default),?_⟩
   exact aP (i+1) (show l.length-(i+1)<l.length-i by omega) h hs (gF _ _) [.tok] 0 rfl rfl (by simp) (by rw[ha]; rw[ar h (by omega)]; rfl)
  ·rw[if_neg (by omega)]
   have:i=l.length:=by omega
   subst this
   simp only[List.take_length] at ha ⊢
   subst ha
   exact bH (.cons (.refl _) (.cons (.list _ _) (.cons (.refl _) (.nil)))) (dg _) hQ
 ·intro i hi ha
  have hi':i≤l.length:=hi
  refine Br l  ((l.take i).map mtI) i _ ?_
  simp only[au,dt,an,List.length_map,gk]
  by_cases h:i<l.length
  ·rw[if_pos (by omega)]
   simp only[getD_map default h]
   have hs:=aJ default h
   repeat (first|refine⟨h,?_⟩|rw[if_pos (by rfl)])
   refine⟨aE wY _ _ (by rw[List.length_take]; omega),one_row xK (l.getD i default),?_⟩
   exact aP (i+1) (show l.length-(i+1)<l.length-i by omega) h hs (gF _ _) [.dead,.tok] 1 rfl rfl (by simp) (by  rw[ar h (by omega)]; rw[List.map_append]; rfl)
  ·rw[if_neg (by omega)]
   have:i=l.length:=by omega
   subst this
   simp only[List.take_length] at ha ⊢
   exact bH (.cons (.refl _) (.cons (.list _ _) (.cons (.refl _) (.nil)))) (dK [] .tok) hQ
theorem AC (l:List Mt):∀(K:PV→Prop),(∃(l_1:List Mt),l_1.length≤1000000∧True∧ah [.list (l.map mtc) .no,.E,.I 0] [.list (l_1.map mtc) .no,.E,.I 0]∧av [] []∧K (.list (l_1.map mtI) .no))→AcK 32 [.list (l.map mtc) .no] [] (fun x _=>K x):=fun K h=>acW (T:=[]) (L:=[([1,1,0,1,0],Fe)]) (fun o=>match o.dst with|some 18=>1|_=>0) Tryz.func32 (aX.nil _ _) (.cons suE zj (.nil _ _ _ _ _)) h
theorem Bu (l:List (Mt)) (t:Int) (i:Nat):(by refine(?_:_→_→_→_→Prop) (List.getD (l.map mtc) (Int.toNat (i:Int)) []) [PV.list (l.map mtc) .no,.U t,.E,.I i] (PV.I (wI ((i:Int)+1))) (PV.list (l.map mtc) .no); exact fun a c d h=>by refine(?_:_→_→_→_→Prop) (PV.list (cL a 3) (cT a 3)) (PV.list (cL a 4) (cT a 4)) (PV.I (cI a 1)) (PV.U (cI a 2)); exact fun f g j k=>by refine(?_:_→Prop) [[PV.U (cI a 0),j,k,f,g]]; exact fun b=>∀(R:Ex→List PV→ae→Prop),(br (decide ((i:Int)<(↑(List.length (l.map mtc)):Int))) (InL (l.map mtc) 5 (i:Int)∧br (true && aD [.int .u32] 0 (List.drop 0 a)) (br (cI (List.drop 0 a) 0 != t) (InL (l.map mtc) 5 (i:Int)∧br (true && aD [.int .u32,.int .i64,.int .u32,.list,.list] 0 a) (aG [] b 5 72∧(List.all [.U (cI a 0),j,k,f,g] PV.one=true∧b≠[])∧R .normal [h,.U t,.list b (.tok 0),d] [.tok]) False) (R .normal [h,.U t,.E,d] [])) False) (R (.exit 0) c []))→Holds (wpK [] [] (fun o=>match o.dst with|some 26=>1|_=>0) (ai [1,1,0,1,0] (ag Tryz.f38)) [] (ak [0,1,5,6] c) [] (fun ex e H=>R ex (List.map e [0,1,5,6]) H)):Prop):=fun R h=>hoE h
theorem Dl (l:List (Mt)) (t:Int) (es:List (List PV)) (i:Nat):(by refine(?_:_→_→_→_→Prop) (List.getD (l.map mtc) (Int.toNat (i:Int)) []) [PV.list (l.map mtc) .no,.U t,.list es (.tok 0),.I i] (PV.I (wI ((i:Int)+1))) (PV.list (l.map mtc) .no); exact fun a c d h=>by refine(?_:_→_→_→_→Prop) (PV.list (cL a 3) (cT a 3)) (PV.list (cL a 4) (cT a 4)) (PV.I (cI a 1)) (PV.U (cI a 2)); exact fun f g j k=>by refine(?_:_→Prop) [[PV.U (cI a 0),j,k,f,g]]; exact fun b=>∀(R:Ex→List PV→ae→Prop),(br (decide ((i:Int)<(↑(List.length (l.map mtc)):Int))) (InL (l.map mtc) 5 (i:Int)∧br (true && aD [.int .u32] 0 (List.drop 0 a)) (br (cI (List.drop 0 a) 0 != t) (InL (l.map mtc) 5 (i:Int)∧br (true && aD [.int .u32,.int .i64,.int .u32,.list,.list] 0 a) (aG es b 5 72∧(List.all [.U (cI a 0),j,k,f,g] PV.one=true∧b≠[])∧R .normal [h,.U t,.list (es++b) (.tok 1),d] [.dead,.tok]) False) (R .normal [h,.U t,.list es (.tok 0),d] [.tok])) False) (R (.exit 0) c [.tok]))→Holds (wpK [] [] (fun o=>match o.dst with|some 26=>1|_=>0) (ai [1,1,0,1,0] (ag Tryz.f38)) [] (ak [0,1,5,6] c) [.tok] (fun ex e H=>R ex (List.map e [0,1,5,6]) H)):Prop):=fun R h=>hoE h
def AR:LSp:=fun e H Q=>∃(l:List (Mt)) (t:Int),l.length≤1000000∧(True)∧ah (List.map e [0,1,5,6]) [.list (l.map mtc) .no,.U t,.E,.I 0]∧av H []∧
 Q (.exit 0) (ak [0,1,5,6] [.list (l.map mtc) .no,.U t,.list ((l.filter (niT t)).map mtc) .no,.I l.length]) [.dead]
theorem yZ:∀ e H Q,AR e H Q→AwK Tryz.f38.ntmps (.loop (ai [1,1,0,1,0] (ag Tryz.f38))) Q e H:=by
 rintro e H Q ⟨l,t,hl,_,he,hH,hQ⟩
 have hH2:H=[]:=hH
 refine fk (f:=mtc) (acc:=fun i=>(l.take i).filter (niT t)) (I:=fun i=>i≤l.length) (m:=fun i=>l.length-i) (hn:=fun o=>match o.dst with|some 26=>1|_=>0) aj (.nil _ _) (.nil _ _ _ _ _) [0,1,5,6] (fun r i=>[.list (l.map mtc) .no,.U t,r,.I i]) [] (0:Nat)
  (oH) (fun _ _ a _=>gC a) (fun es i k _ h=> .same (bB l) (.same (.int _ _) (.row h (.same (.int _ _) (.nil))))) (fun i _ w hw=>by
   simp only[List.mem_cons,List.not_mem_nil,or_false] at hw
   rcases hw with rfl|rfl|rfl|rfl
   ·exact bB l
   ·exact .int _ _
   ·exact aH NT.exact (by simp)
   ·exact .int _ _) (Nat.zero_le _) (by simp) he hH2 ?_ ?_
 ·intro i hi ha
  have hi':i≤l.length:=hi
  refine Bu l t i _ ?_
  simp only[au,dt,an,List.length_map,gk]
  by_cases h:i<l.length
  ·rw[if_pos (by omega)]
   simp only[getD_map default h]
   have hs:=eH (p:=niT t) default h
   have hle:=dI (niT t) l i
   repeat (first|refine⟨h,?_⟩|rw[if_pos (by rfl)])
   by_cases c:(niT t) (l.getD i default)=true
   ·rw[if_pos c] at hs
    rw[if_pos (by exact c)]
    repeat (first|refine⟨h,?_⟩|rw[if_pos (by rfl)])
    refine⟨aE (l:=[]) (by_:=72) dW (l.getD i default) (by show(0+1)*72≤_; decide),one_row eC (l.getD i default),?_⟩
    exact aP (i+1) (show l.length-(i+1)<l.length-i by omega) h hs (gF _ _) [.tok] 0 rfl rfl (by simp) (by rw[ha]; rw[ar h (by omega)]; rfl)
   ·rw[if_neg c,List.append_nil] at hs
    rw[if_neg (by exact c)]
    exact ga (i+1) (show l.length-(i+1)<l.length-i by omega) h (hs.trans ha) [] rfl (by rw[ar h (by omega)])
  ·rw[if_neg (by omega)]
   have:i=l.length:=by omega
   subst this
   simp only[List.take_length] at ha ⊢
   rw[ha] at hQ
   exact bH (.cons (.refl _) (.cons (.refl _) (.cons (.list _ _) (.cons (.refl _) (.nil))))) (dg _) hQ
 ·intro i hi ha
  have hi':i≤l.length:=hi
  refine Dl l t (((l.take i).filter (niT t)).map mtc) i _ ?_
  simp only[au,dt,an,List.length_map,gk]
  by_cases h:i<l.length
  ·rw[if_pos (by omega)]
   simp only[getD_map default h]
   have hs:=eH (p:=niT t) default h
   have hle:=dI (niT t) l i
   repeat (first|refine⟨h,?_⟩|rw[if_pos (by rfl)])
   by_cases c:(niT t) (l.getD i default)=true
   ·rw[if_pos c] at hs
    rw[if_pos (by exact c)]
    repeat (first|refine⟨h,?_⟩|rw[if_pos (by rfl)])
    refine⟨aE dW _ _ (by omega),one_row eC (l.getD i default),?_⟩
    exact aP (i+1) (show l.length-(i+1)<l.length-i by omega) h hs (gF _ _) [.dead,.tok] 1 rfl rfl (by simp) (by  rw[ar h (by omega)]; rw[List.map_append]; rfl)
   ·rw[if_neg c,List.append_nil] at hs
    rw[if_neg (by exact c)]
    exact aP (i+1) (show l.length-(i+1)<l.length-i by omega) h hs ha [.tok] 0 rfl rfl (by simp) (by rw[ar h (by omega)])
  ·rw[if_neg (by omega)]
   have:i=l.length:=by omega
   subst this
   simp only[List.take_length] at ha ⊢
   exact bH (.cons (.refl _) (.cons (.refl _) (.cons (.list _ _) (.cons (.refl _) (.nil))))) (dK [] .tok) hQ
theorem FK (l:List Mt) (t:Int)  (K:PV→Prop) (h:∃(l_1:List Mt) (t_1:Int),List.length l_1≤1000000∧True∧ah [.list (List.map mtc l) .no,.U t,.E,.I 0] [.list (List.map mtc l_1) .no,.U t_1,.E,.I 0]∧av [] []∧K (.list (List.map mtc (List.filter (niT t_1) l_1)) .no)):AcK 38 [.list (l.map mtc) .no,.U t] [] (fun x _=>K x):=
 acW (T:=[]) (L:=[([1,1,0,1,0],AR)]) (fun o=>match o.dst with|some 26=>1|_=>0) Tryz.func38 (aX.nil _ _) (.cons suE yZ (.nil _ _ _ _ _)) h
theorem Lh (c:Mt):c.pv = .agg (mtc c):=rfl
theorem y5 (w:List Mt) (t:Int):(w.findIdx (idT t)<w.length→bz Mt.id w t=true∧gM w t=w.getD (w.findIdx (idT t)) default)∧(w.findIdx (idT t)=w.length→bz Mt.id w t=false∧gM w t=mt0):=by
 constructor
 ·intro h
  refine⟨?_,?_⟩
  ·rw[List.findIdx_lt_length] at h
   obtain⟨x,hx,e⟩:=h
   exact dR.2 ⟨x,hx,eq_of_beq e⟩
  ·unfold gM nU
   rw[List.find?_eq_getElem?_findIdx]
   show(w[w.findIdx (idT t)]?).getD default=_
   rw[List.getD_eq_getElem?_getD]
 ·intro h
  have h0:bz Mt.id w t=false:=by
   refine eq_false_of_ne_true fun k=>?_
   obtain⟨x,hx,e⟩:=dR.1 k
   have:w.findIdx (idT t)<w.length:=List.findIdx_lt_length.2 ⟨x,hx,by unfold idT; simpa using e⟩
   omega
  exact⟨h0,gQ h0⟩
theorem KN {b:Bool}:Wk (.tup [.agg [.U 0,.I 0,.U 0,.E,.E],.bool b]) (.tup [mt0.pv,.bool b]):= .tup (.cons (gW (c:=mt0) (t1:= .exact) (t2:= .exact)) (.cons (.refl _) .nil))
def rP (args:List PV) (K:PV→Prop):Prop:=∃(w:List Mt) (tl:Tail) (t:Int),ah args [.list (w.map mtc) tl,.U t]∧w.length≤1000000∧K (.tup [(gM w t).pv,.bool (bz Mt.id w t)])
theorem sE:SpK 15 (.pure rP):=by
 rintro args K ⟨w,tl,t,he,hl,hk⟩
 have he:args=_:=he
 subst he
 obtain⟨h1,h2⟩:=y5 w t
 refine bu aj (.cons (.list _ _) (.cons (.refl _) .nil)) (bn (bB w) (.int _ _)) (sI _ _) (a9 (Fw w t (fun x=>∃ y,Wk x y∧y = .tup [(gM w t).pv,.bool (bz Mt.id w t)]) ⟨w,t,hl,trivial,rfl,rfl,fun h=>⟨_,.refl _,?_⟩,fun h=>⟨_,KN,?_⟩⟩)) hk
 ·rw[(h1 h).1,(h1 h).2]; rfl
 ·rw[(h2 h).1,(h2 h).2]
def xk (args:List PV) (K:PV→Prop):Prop:=∃(c:Mt) (t1 t2:Tail) (t:Int),ah args [.agg [.U c.id,.I c.md,.U c.ins,.list (c.rows.map rrc) t1,.list (c.aa.map stc) t2],.U t]∧c.aa.length≤1000000∧K (.tup [.agg (stc (jk c t)),.bool (inM c t)])
theorem yj {c:Mt} {p:Int}:(c.aa.findIdx (isP p)<c.aa.length→inM c p=true)∧(c.aa.findIdx (isP p)=c.aa.length→inM c p=false):=by
 constructor
 ·intro h; exact List.any_eq_true.2 ⟨_,List.getElem_mem h,List.findIdx_getElem (w:=h)⟩
 ·intro h
  unfold inM
  rw[List.any_eq_false]
  intro x hx e
  have:=List.findIdx_lt_length_of_exists (p:=isP p) ⟨x,hx,e⟩
  omega
theorem Fu:SpK 98 (.pure xk):=by
 rintro args K ⟨c,t1,t2,t,he,hl,hk⟩
 have he:args=_:=he
 subst he
 refine bu aj (.cons gW (.cons (.refl _) .nil)) (bn c.low (.int _ _)) (Iu _ _) (zy c t (fun x=>x = .tup [.agg (stc (jk c t)),.bool (inM c t)]) ⟨c.aa,c.id,c.md,c.ins,t,c.rows,hl,trivial,rfl,rfl,fun h=>?_,fun h=>?_⟩) hk
 ·have k:=yj.1 h
  unfold jk; rw[if_pos k,k]; rfl
 ·have k:=yj.2 h
  unfold jk; rw[k]; rfl
def AD (args:List PV) (K:PV→Prop):Prop:=∃(w:List Mt) (tl:Tail),ah args [.list (w.map mtc) tl]∧w.length≤1000000∧K (.list ((w.map Mt.id).map u1) .no)
theorem HS:SpK 32 (.pure AD):=by
 rintro args K ⟨w,tl,he,hl,hk⟩
 have he:args=_:=he
 subst he
 have e:w.map mtI=(w.map Mt.id).map u1:=by rw[List.map_map]; rfl
 exact bu aj (.cons (.list _ _) .nil) (bw (bB w)) (eE _) (AC w (fun x=>x = .list ((w.map Mt.id).map u1) .no) ⟨w,hl,trivial,rfl,rfl,by rw[e]⟩) hk
def Dk (args:List PV) (K:PV→Prop):Prop:=∃(w:List Mt) (tl:Tail) (t:Int),ah args [.list (w.map mtc) tl,.U t]∧w.length≤1000000∧K (.list ((ef Mt.id w t).map mtc) .no)
theorem GK:SpK 38 (.pure Dk):=by
 rintro args K ⟨w,tl,t,he,hl,hk⟩
 have he:args=_:=he
 subst he
 exact bu aj (.cons (.list _ _) (.cons (.refl _) .nil)) (bn (bB w) (.int _ _)) (bB _) (FK w t (fun x=>x = .list ((ef Mt.id w t).map mtc) .no) ⟨w,t,hl,trivial,rfl,rfl,rfl⟩) hk
def fD (l:List Se) (t:Int):Int:=if l.findIdx (nuT t)<l.length then(l.findIdx (nuT t):Int) else -1
def wy (args:List PV) (K:PV→Prop):Prop:=∃(l:List Se) (tl:Tail) (t:Int),ah args [.list (l.map stc) tl,.I t]∧l.length≤1000000∧K (.I (fD l t))
theorem x7:SpK 93 (.pure wy):=by
 rintro args K ⟨l,tl,t,he,hl,hk⟩
 have he:args=_:=he
 subst he
 refine bu aj (.cons (.list _ _) (.cons (.refl _) .nil)) (bn (dz l) (.int _ _)) (.int _ _) (Dg l t (fun x=>x = .I (fD l t)) ⟨l,t,hl,trivial,rfl,rfl,fun h=>?_,fun h=>?_⟩) hk
 ·unfold fD; rw[if_pos h]
 ·unfold fD; rw[if_neg (by omega)]
def TRF:Tab:=[(98,.pure xk),(93,.pure wy)]
theorem rE:TbK TRF:= .cons Fu (.cons x7 (.nil _ _))
theorem KZ (l:List (Mt)) (t:Int) (i:Nat):(by refine(?_:_→_→_→Prop) (List.getD (l.map mtc) (Int.toNat (i:Int)) []) [PV.list (l.map mtc) .no,.U t,.U 0,.I i] (PV.list (l.map mtc) .no); exact fun b d f=>∀(R:Ex→List PV→ae→Prop),(br (decide ((i:Int)<(↑(List.length (l.map mtc)):Int))) (InL (l.map mtc) 5 (i:Int)∧br (true && aD [.int .u32,.int .i64,.int .u32,.list,.list] 0 b) (∃(c:Mt) (t1:Tail) (t2:Tail) (t_1:Int),by refine(?_:_→Prop) [Ob.cells [.U (Se.pl (jk c t_1)),.I (Se.tm (jk c t_1)),.I (Se.nu (jk c t_1)),.I (Se.st (jk c t_1)),.I (Se.un (jk c t_1)),.int .u64 (Se.no (jk c t_1))]]; exact fun a=>ah [.agg [.U (cI b 0),.I (cI b 1),.U (cI b 2),.list (cL b 3) (cT b 3),.list (cL b 4) (cT b 4)],.U t] [.agg [.U c.id,.I c.md,.U c.ins,.list (c.rows.map rrc) t1,.list (c.aa.map stc) t2],.U t_1]∧c.aa.length≤1000000∧br (inM c t_1) (InL (l.map mtc) 5 (i:Int)∧br (true && aD [.int .u32] 0 (List.drop 0 b)) (R .ret [f,.U t,.U (cI (List.drop 0 b) 0),.I i] a) False) (R .normal [f,.U t,.U 0,.I (wI ((i:Int)+1))] a)) False) (R (.exit 0) d []))→Holds (wpK TRF [] (fun _=>0) (ai [1,0,1,0] (ag Tryz.f65)) [] (ak [0,1,4,5] d) [] (fun ex e H=>R ex (List.map e [0,1,4,5]) H)):Prop):=fun R h=>hoE h
def Jj:LSp:=fun e H Q=>∃(l:List (Mt)) (t:Int),l.length≤1000000∧(∀ c∈l,c.aa.length≤1000000)∧ah (List.map e [0,1,4,5]) [.list (l.map mtc) .no,.U t,.U 0,.I 0]∧av H []∧
 (l.findIdx (fun c=>inM c t)<l.length→Q .ret (ak [0,1,4,5] [.list (l.map mtc) .no,.U t,.U ((l.getD (l.findIdx (fun c=>inM c t)) default)).id,.I (l.findIdx (fun c=>inM c t))]) [.cells (stc (jk ((l.getD (l.findIdx (fun c=>inM c t)) default)) t))])∧(l.findIdx (fun c=>inM c t)=l.length→Q (.exit 0) (ak [0,1,4,5] [.list (l.map mtc) .no,.U t,.U 0,.I l.length]) [])
theorem Ej:∀ e H Q,Jj e H Q→AwK Tryz.f65.ntmps (.loop (ai [1,0,1,0] (ag Tryz.f65))) Q e H:=by
 rintro e H Q ⟨l,t,hl,hm,he,hH,hQ1,hQ2⟩
 have hfl:l.findIdx (fun c=>inM c t)≤l.length:=List.findIdx_le_length
 refine aB (hn:=fun _=>0) aj (rE) (.nil _ _ _ _ _) (σ:=Nat) [0,1,4,5] (fun i=>i≤l.findIdx (fun c=>inM c t)) (fun i=>[.list (l.map mtc) .no,.U t,.U 0,.I i]) (fun _=>[]) (fun i=>l.length-i) 0 (Nat.zero_le _) he hH ?_
 intro i hi
 have hi':i≤l.findIdx (fun c=>inM c t):=hi
 refine KZ l t i _ ?_
 simp only[au,dt,an,List.length_map,gk]
 by_cases h:i<l.length
 ·rw[if_pos (by omega)]
  simp only[getD_map default h]
  repeat (first|refine⟨h,?_⟩|rw[if_pos (by rfl)])
  refine⟨l.getD i default,.no,.no,t,rfl,hm _ (aY h),?_⟩
  by_cases c:(fun c=>inM c t) (l.getD i default)=true
  ·have hge:l.findIdx (fun c=>inM c t)=i:=ed default hi' h c
   rw[hge] at hQ1
   rw[if_pos (by exact c)]
   repeat (first|refine⟨h,?_⟩|rw[if_pos (by rfl)])
   exact hQ1 h
  ·have hlt:i<l.findIdx (fun c=>inM c t):=ec default hi' h (by simpa using c)
   rw[if_neg (by exact c)]
   exact⟨i+1,(show l.length-(i+1)<l.length-i by omega),hlt,by rw[ar h (by omega)],[_],rfl,Nat.le_refl _,.inr ⟨by
    intro hv hw
    simp only[List.mem_cons,List.not_mem_nil,or_false] at hw
    rcases hw with rfl|rfl|rfl|rfl
    ·exact bB l
    ·exact .int _ _
    ·exact .int _ _
    ·exact .int _ _,kT (by simp)⟩⟩
 ·rw[if_neg (by omega)]
  have:i=l.length:=by omega
  subst this
  exact hQ2 (by omega)
theorem Ig (l:List Mt) (t:Int):∀(K:PV→Prop),(∃(l_1:List Mt) (t_1:Int),by refine(?_:_→Prop) (fun(c:Mt)=>inM c t_1); exact fun a=>l_1.length≤1000000∧(∀(c:Mt),c∈l_1→c.aa.length≤1000000)∧ah [.list (l.map mtc) .no,.U t,.U 0,.I 0] [.list (l_1.map mtc) .no,.U t_1,.U 0,.I 0]∧av [] []∧(List.findIdx a l_1<l_1.length→K (.U (Mt.id (List.getD l_1 (List.findIdx a l_1) default))))∧(List.findIdx a l_1=l_1.length→K (.U 0)))→AcK 65 [.list (l.map mtc) .no,.U t] [] (fun x _=>K x):=fun K h=>acW (T:=TRF) (L:=[([1,0,1,0],Jj)]) (fun _=>0) Tryz.func65 (rE) (.cons suE Ej (.nil _ _ _ _ _)) h
theorem zY (l:List (Mt)) (cc:Mt) (b:Bool) (i:Nat):(by refine(?_:_→_→_→_→Prop) (List.getD (l.map mtc) (Int.toNat (i:Int)) []) [PV.U cc.id,.I cc.md,.U cc.ins,.list (cc.rows.map rrc) .no,.list (cc.aa.map stc) .no] (PV.list (l.map mtc) .no) (PV.I (wI ((i:Int)+1))); exact fun c f k m=>by refine(?_:_→_→_→_→_→Prop) f [PV.U (cI c 0),.I (cI c 1),.U (cI c 2),.list (cL c 3) (cT c 3),.list (cL c 4) (cT c 4)] (true && aD [.int .u32] 0 (List.drop 0 c)) (true && aD [.int .u32,.int .i64,.int .u32,.list,.list] 0 c) [k,.ptr 0 0,.E,.bool b,.I i]; exact fun d j n p q=>by refine(?_:_→_→Prop) [j] j; exact fun g h=>∀(R:Ex→List PV→ae→Prop),by refine(?_:_→Prop) (InL (l.map mtc) 5 (i:Int)∧br n (br (cI (List.drop 0 c) 0 != cc.id) (InL (l.map mtc) 5 (i:Int)∧br p (aG [] g 5 72∧(List.all h PV.one=true∧g≠[])∧R .normal [k,.ptr 0 0,.list g (.tok 1),.bool b,m] [.cells d,.tok]) False) (R .normal [k,.ptr 0 0,.E,.bool b,m] [.cells d])) False); exact fun a=>(br (decide ((i:Int)<(↑(List.length (l.map mtc)):Int))) (br ((!b) == true) (InL (l.map mtc) 5 (i:Int)∧br n (br (decide (cI (List.drop 0 c) 0≥Mt.id cc)) (aG [] [f] 5 72∧(List.all d PV.one=true∧[f]≠[])∧InL (l.map mtc) 5 (i:Int)∧br n (br (cI (List.drop 0 c) 0 != cc.id) (InL (l.map mtc) 5 (i:Int)∧br p (aG [f] g 5 72∧(List.all h PV.one=true∧g≠[])∧R .normal [k,.ptr 0 0,.list [f,h] (.tok 2),.bool true,m] [.cells d,.dead,.tok]) False) (R .normal [k,.ptr 0 0,.list [f] (.tok 1),.bool true,m] [.cells d,.tok])) False) a) False) a) (R (.exit 0) q [.cells d]))→Holds (wpK [] [] (fun o=>match o.dst with|some 29=>1|some 44=>1|some 50=>1|_=>0) (ai [1,1,1,0,1,0] (ag Tryz.f60)) [] (ak [0,3,5,6,7] q) [.cells (mtc cc)] (fun ex e H=>R ex (List.map e [0,3,5,6,7]) H)):Prop):=fun R h=>hoE h
theorem zq (l:List (Mt)) (cc:Mt) (b:Bool) (es:List (List PV)) (i:Nat):(by refine(?_:_→_→_→_→Prop) (List.getD (l.map mtc) (Int.toNat (i:Int)) []) [PV.U cc.id,.I cc.md,.U cc.ins,.list (cc.rows.map rrc) .no,.list (cc.aa.map stc) .no] (PV.list (l.map mtc) .no) (PV.I (wI ((i:Int)+1))); exact fun c g k m=>by refine(?_:_→_→_→_→_→Prop) g [PV.U (cI c 0),.I (cI c 1),.U (cI c 2),.list (cL c 3) (cT c 3),.list (cL c 4) (cT c 4)] (true && aD [.int .u32] 0 (List.drop 0 c)) (true && aD [.int .u32,.int .i64,.int .u32,.list,.list] 0 c) [k,.ptr 0 0,.list es (.tok 1),.bool b,.I i]; exact fun f j n p q=>by refine(?_:_→_→_→Prop) [j] j [Ob.cells f,.dead,.tok]; exact fun d h r=>∀(R:Ex→List PV→ae→Prop),by refine(?_:_→Prop) (InL (l.map mtc) 5 (i:Int)∧br n (br (cI (List.drop 0 c) 0 != cc.id) (InL (l.map mtc) 5 (i:Int)∧br p (aG es d 5 72∧(List.all h PV.one=true∧d≠[])∧R .normal [k,.ptr 0 0,.list (es++d) (.tok 2),.bool b,m] r) False) (R .normal [k,.ptr 0 0,.list es (.tok 1),.bool b,m] [.cells f,.tok])) False); exact fun a=>(br (decide ((i:Int)<(↑(List.length (l.map mtc)):Int))) (br ((!b) == true) (InL (l.map mtc) 5 (i:Int)∧br n (br (decide (cI (List.drop 0 c) 0≥Mt.id cc)) (aG es [g] 5 72∧(List.all f PV.one=true∧[g]≠[])∧InL (l.map mtc) 5 (i:Int)∧br n (br (cI (List.drop 0 c) 0 != cc.id) (InL (l.map mtc) 5 (i:Int)∧br p (aG (es++[g]) d 5 72∧(List.all h PV.one=true∧d≠[])∧R .normal [k,.ptr 0 0,.list (es++[g]++d) (.tok 3),.bool true,m] [.cells f,.dead,.dead,.tok]) False) (R .normal [k,.ptr 0 0,.list (es++[g]) (.tok 2),.bool true,m] r)) False) a) False) a) (R (.exit 0) q [.cells f,.tok]))→Holds (wpK [] [] (fun o=>match o.dst with|some 29=>1|some 44=>1|some 50=>1|_=>0) (ai [1,1,1,0,1,0] (ag Tryz.f60)) [] (ak [0,3,5,6,7] q) [.cells (mtc cc),.tok] (fun ex e H=>R ex (List.map e [0,3,5,6,7]) H)):Prop):=fun R h=>hoE h
def xI:LSp:=fun e H Q=>∃(l:List (Mt)) (cc:Mt) (b:Bool),l.length≤1000000∧(True)∧ah (List.map e [0,3,5,6,7]) [.list (l.map mtc) .no,.ptr 0 0,.E,.bool b,.I 0]∧av H [.cells (mtc cc)]∧
 ((cX (Mt.id) (cc) b l).1=[]→Q (.exit 0) (ak [0,3,5,6,7] [.list (l.map mtc) .no,.ptr 0 0,.E,.bool (cX (Mt.id) (cc) b l).2,.I l.length]) [.cells (mtc cc)])∧((cX (Mt.id) (cc) b l).1≠[]→Q (.exit 0) (ak [0,3,5,6,7] [.list (l.map mtc) .no,.ptr 0 0,.list ((cX (Mt.id) (cc) b l).1.map mtc) (.tok 1),.bool (cX (Mt.id) (cc) b l).2,.I l.length]) [.cells (mtc cc),.tok])
theorem u3:∀ e H Q,xI e H Q→AwK Tryz.f60.ntmps (.loop (ai [1,1,1,0,1,0] (ag Tryz.f60))) Q e H:=by
 rintro e H Q ⟨l,cc,b,hl,_,he,hH,hQ1,hQ2⟩
 have hH2:H=[.cells (mtc cc)]:=hH
 refine fk (f:=mtc) (acc:=fun i=>(cX (Mt.id) (cc) b (l.take i)).1) (I:=fun i=>i≤l.length) (m:=fun i=>l.length-i) (hn:=fun o=>match o.dst with|some 29=>1|some 44=>1|some 50=>1|_=>0) aj (.nil _ _) (.nil _ _ _ _ _) [0,3,5,6,7] (fun r i=>[.list (l.map mtc) .no,.ptr 0 0,r,.bool (cX (Mt.id) (cc) b (l.take i)).2,.I i]) [.cells (mtc cc)] (0:Nat)
  (kT (by intro ob ho; rcases List.mem_singleton.1 ho with rfl; exact gC cc)) (fun _ _ a _=>gC a) (fun es i k _ h=> .same (bB l) (.same (.ptr _ _ (by simp)) (.row h (.same (.bool _) (.same (.int _ _) (.nil)))))) (fun i _ w hw=>by
   simp only[List.mem_cons,List.not_mem_nil,or_false] at hw
   rcases hw with rfl|rfl|rfl|rfl|rfl
   ·exact bB l
   ·exact .ptr _ _ (by simp)
   ·exact aH NT.exact (by simp)
   ·exact .bool _
   ·exact .int _ _) (Nat.zero_le _) (by simp[cX]) he hH2 ?_ ?_
 ·intro i hi ha
  have hi':i≤l.length:=hi
  obtain⟨s,hsd⟩:∃ s,s=cX (Mt.id) (cc) b (l.take i):=⟨_,rfl⟩
  have hlen:=oP (Mt.id) (cc) b (l.take i)
  rw[List.length_take] at hlen
  simp only[← hsd] at ha hlen ⊢
  refine zY l cc s.2 i _ ?_
  simp only[au,dt,an,List.length_map,gk]
  by_cases h:i<l.length
  ·rw[if_pos (by omega)]
   simp only[getD_map default h]
   have hs:=rf (Mt.id) (cc) b default h
   rw[← hsd] at hs
   obtain⟨x,hx⟩:∃ x,x=l.getD i default:=⟨_,rfl⟩
   simp only[← hx] at hs ⊢
   by_cases c1:s.2=false
   ·rw[if_pos (by simp[c1])]
    repeat (first|refine⟨h,?_⟩|rw[if_pos (by rfl)])
    by_cases c2:(Mt.id) x≥(Mt.id) (cc)
    ·rw[if_pos (by exact c2)]
     refine⟨aE (l:=[]) (by_:=72) dW (cc) (by show(0+1)*72≤_; decide),one_row eC (cc),?_⟩
     repeat (first|refine⟨h,?_⟩|rw[if_pos (by rfl)])
     by_cases c3:(Mt.id) x=(Mt.id) (cc)
     ·have hs1:(cX (Mt.id) (cc) b (l.take (i+1))).1=[cc]:=by rw[hs]; simp[dV,c1,c3,ha]
      have hs2:(cX (Mt.id) (cc) b (l.take (i+1))).2=true:=by rw[hs]; simp[dV,c1,c3]
      rw[if_neg (by rw[bne_iff_ne]; exact fun k=>k c3)]
      exact aP (i+1) (show l.length-(i+1)<l.length-i by omega) h hs1 (by simp) [.tok] 1 rfl rfl (by simp) (by(try dsimp only); rw[hs2,ar h (by omega)]; rfl)
     ·have hs1:(cX (Mt.id) (cc) b (l.take (i+1))).1=[cc,x]:=by rw[hs]; simp[dV,c1,c2,c3,ha]
      have hs2:(cX (Mt.id) (cc) b (l.take (i+1))).2=true:=by rw[hs]; simp[dV,c1,c2,c3]
      rw[if_pos (by rw[bne_iff_ne]; exact c3)]
      repeat (first|refine⟨h,?_⟩|rw[if_pos (by rfl)])
      refine⟨aE (l:=[cc]) (by_:=72) dW x (by show(1+1)*72≤_; decide),one_row eC x,?_⟩
      exact aP (i+1) (show l.length-(i+1)<l.length-i by omega) h hs1 (by simp) [.dead,.tok] 2 rfl rfl (by simp) (by(try dsimp only); rw[hs2,ar h (by omega)]; rfl)
    ·rw[if_neg (by exact c2)]
     have c3:¬ (Mt.id) x=(Mt.id) (cc):=fun e=>c2 (Int.le_of_eq e.symm)
     have hs1:(cX (Mt.id) (cc) b (l.take (i+1))).1=[x]:=by rw[hs]; simp[dV,c2,c3,ha]
     have hs2:(cX (Mt.id) (cc) b (l.take (i+1))).2=s.2:=by rw[hs]; simp[dV,c2,c3]
     repeat (first|refine⟨h,?_⟩|rw[if_pos (by rfl)])
     rw[if_pos (by rw[bne_iff_ne]; exact c3)]
     repeat (first|refine⟨h,?_⟩|rw[if_pos (by rfl)])
     refine⟨aE (l:=[]) (by_:=72) dW x (by show(0+1)*72≤_; decide),one_row eC x,?_⟩
     exact aP (i+1) (show l.length-(i+1)<l.length-i by omega) h hs1 (by simp) [.tok] 1 rfl rfl (by simp) (by(try dsimp only); rw[hs2,ar h (by omega)]; rfl)
   ·rw[if_neg (by simpa using c1)]
    repeat (first|refine⟨h,?_⟩|rw[if_pos (by rfl)])
    have c1':s.2=true:=by simpa using c1
    by_cases c3:(Mt.id) x=(Mt.id) (cc)
    ·have hs1:(cX (Mt.id) (cc) b (l.take (i+1))).1=s.1:=by rw[hs]; simp[dV,c1',c3]
     have hs2:(cX (Mt.id) (cc) b (l.take (i+1))).2=s.2:=by rw[hs]; simp[dV,c1',c3]
     rw[if_neg (by rw[bne_iff_ne]; exact fun k=>k c3)]
     exact ga (i+1) (show l.length-(i+1)<l.length-i by omega) h (hs1.trans ha) [] rfl (by(try dsimp only); rw[hs2,ar h (by omega)])
    ·have hs1:(cX (Mt.id) (cc) b (l.take (i+1))).1=[x]:=by rw[hs]; simp[dV,c1',c3,ha]
     have hs2:(cX (Mt.id) (cc) b (l.take (i+1))).2=s.2:=by rw[hs]; simp[dV,c1',c3]
     rw[if_pos (by rw[bne_iff_ne]; exact c3)]
     repeat (first|refine⟨h,?_⟩|rw[if_pos (by rfl)])
     refine⟨aE (l:=[]) (by_:=72) dW x (by show(0+1)*72≤_; decide),one_row eC x,?_⟩
     exact aP (i+1) (show l.length-(i+1)<l.length-i by omega) h hs1 (by simp) [.tok] 1 rfl rfl (by simp) (by(try dsimp only); rw[hs2,ar h (by omega)]; rfl)
  ·rw[if_neg (by omega)]
   have:i=l.length:=by omega
   subst this
   rw[List.take_length] at hsd
   rw[← hsd] at hQ1 hQ2
   exact oT (hQ1 ha)
 ·intro i hi ha
  have hi':i≤l.length:=hi
  obtain⟨s,hsd⟩:∃ s,s=cX (Mt.id) (cc) b (l.take i):=⟨_,rfl⟩
  have hlen:=oP (Mt.id) (cc) b (l.take i)
  rw[List.length_take] at hlen
  simp only[← hsd] at ha hlen ⊢
  refine zq l cc s.2 (s.1.map mtc) i _ ?_
  simp only[au,dt,an,List.length_map,gk]
  by_cases h:i<l.length
  ·rw[if_pos (by omega)]
   simp only[getD_map default h]
   have hs:=rf (Mt.id) (cc) b default h
   rw[← hsd] at hs
   obtain⟨x,hx⟩:∃ x,x=l.getD i default:=⟨_,rfl⟩
   simp only[← hx] at hs ⊢
   by_cases c1:s.2=false
   ·rw[if_pos (by simp[c1])]
    repeat (first|refine⟨h,?_⟩|rw[if_pos (by rfl)])
    by_cases c2:(Mt.id) x≥(Mt.id) (cc)
    ·rw[if_pos (by exact c2)]
     refine⟨aE dW _ (cc) (by omega),one_row eC (cc),?_⟩
     repeat (first|refine⟨h,?_⟩|rw[if_pos (by rfl)])
     by_cases c3:(Mt.id) x=(Mt.id) (cc)
     ·have hs1:(cX (Mt.id) (cc) b (l.take (i+1))).1=s.1++[cc]:=by rw[hs]; simp[dV,c1,c3]
      have hs2:(cX (Mt.id) (cc) b (l.take (i+1))).2=true:=by rw[hs]; simp[dV,c1,c3]
      rw[if_neg (by rw[bne_iff_ne]; exact fun k=>k c3)]
      exact aP (i+1) (show l.length-(i+1)<l.length-i by omega) h hs1 (by simp) [.dead,.tok] 2 rfl rfl (by simp) (by(try dsimp only); rw[hs2,ar h (by omega)]; simp only[List.map_append]; rfl)
     ·have hs1:(cX (Mt.id) (cc) b (l.take (i+1))).1=s.1++[cc]++[x]:=by rw[hs]; simp[dV,c1,c2,c3]
      have hs2:(cX (Mt.id) (cc) b (l.take (i+1))).2=true:=by rw[hs]; simp[dV,c1,c2,c3]
      rw[if_pos (by rw[bne_iff_ne]; exact c3)]
      repeat (first|refine⟨h,?_⟩|rw[if_pos (by rfl)])
      refine⟨(by have:=aE (l:=s.1++[cc]) (by_:=72) dW x (by simp; omega); rwa [List.map_append] at this),one_row eC x,?_⟩
      exact aP (i+1) (show l.length-(i+1)<l.length-i by omega) h hs1 (by simp) [.dead,.dead,.tok] 3 rfl rfl (by simp) (by(try dsimp only); rw[hs2,ar h (by omega)]; simp only[List.map_append]; rfl)
    ·rw[if_neg (by exact c2)]
     have c3:¬ (Mt.id) x=(Mt.id) (cc):=fun e=>c2 (Int.le_of_eq e.symm)
     have hs1:(cX (Mt.id) (cc) b (l.take (i+1))).1=s.1++[x]:=by rw[hs]; simp[dV,c2,c3]
     have hs2:(cX (Mt.id) (cc) b (l.take (i+1))).2=s.2:=by rw[hs]; simp[dV,c2,c3]
     repeat (first|refine⟨h,?_⟩|rw[if_pos (by rfl)])
     rw[if_pos (by rw[bne_iff_ne]; exact c3)]
     repeat (first|refine⟨h,?_⟩|rw[if_pos (by rfl)])
     refine⟨aE dW _ x (by omega),one_row eC x,?_⟩
     exact aP (i+1) (show l.length-(i+1)<l.length-i by omega) h hs1 (by simp) [.dead,.tok] 2 rfl rfl (by simp) (by(try dsimp only); rw[hs2,ar h (by omega)]; simp only[List.map_append]; rfl)
   ·rw[if_neg (by simpa using c1)]
    repeat (first|refine⟨h,?_⟩|rw[if_pos (by rfl)])
    have c1':s.2=true:=by simpa using c1
    by_cases c3:(Mt.id) x=(Mt.id) (cc)
    ·have hs1:(cX (Mt.id) (cc) b (l.take (i+1))).1=s.1:=by rw[hs]; simp[dV,c1',c3]
     have hs2:(cX (Mt.id) (cc) b (l.take (i+1))).2=s.2:=by rw[hs]; simp[dV,c1',c3]
     rw[if_neg (by rw[bne_iff_ne]; exact fun k=>k c3)]
     exact aP (i+1) (show l.length-(i+1)<l.length-i by omega) h hs1 ha [.tok] 1 rfl rfl (by simp) (by(try dsimp only); rw[hs2,ar h (by omega)])
    ·have hs1:(cX (Mt.id) (cc) b (l.take (i+1))).1=s.1++[x]:=by rw[hs]; simp[dV,c1',c3]
     have hs2:(cX (Mt.id) (cc) b (l.take (i+1))).2=s.2:=by rw[hs]; simp[dV,c1',c3]
     rw[if_pos (by rw[bne_iff_ne]; exact c3)]
     repeat (first|refine⟨h,?_⟩|rw[if_pos (by rfl)])
     refine⟨aE dW _ x (by omega),one_row eC x,?_⟩
     exact aP (i+1) (show l.length-(i+1)<l.length-i by omega) h hs1 (by simp) [.dead,.tok] 2 rfl rfl (by simp) (by(try dsimp only); rw[hs2,ar h (by omega)]; simp only[List.map_append]; rfl)
  ·rw[if_neg (by omega)]
   have:i=l.length:=by omega
   subst this
   rw[List.take_length] at hsd
   rw[← hsd] at hQ1 hQ2
   exact oT (hQ2 ha)
theorem y9 (l:List Mt) (c:Mt):∀(K:PV→Prop),(∃(l_1:List Mt) (cc:Mt) (b:Bool),by refine(?_:_→_→Prop) (cX Mt.id cc b l_1) [PV.U cc.id,.I cc.md,.U cc.ins,.list (cc.rows.map rrc) .no,.list (cc.aa.map stc) .no]; exact fun e f=>by refine(?_:_→_→_→Prop) [f] f (List.map mtc (Prod.fst e)); exact fun a d g=>l_1.length≤1000000∧True∧ah [.list (l.map mtc) .no,.ptr 0 0,.E,.bool false,.I 0] [.list (l_1.map mtc) .no,.ptr 0 0,.E,.bool b,.I 0]∧av [.cells [.U c.id,.I c.md,.U c.ins,.list (c.rows.map rrc) .no,.list (c.aa.map stc) .no]] [.cells d]∧(Prod.fst e=[]→br (!Prod.snd e) (aG [] a 5 72∧(List.all d PV.one=true∧a≠[])∧K (.list a (.tok 1))) (K (.E)))∧(Prod.fst e≠[]→br (!Prod.snd e) (aG g a 5 72∧(List.all d PV.one=true∧a≠[])∧K (.list (List.map mtc (Prod.fst e)++a) (.tok 2))) (K (.list g (.tok 1)))))→AcK 60 [.list (l.map mtc) .no,.agg (mtc c)] [] (fun x _=>K x):=fun K h=>acW (T:=[]) (L:=[([1,1,1,0,1,0],xI)]) (fun o=>match o.dst with|some 29=>1|some 44=>1|some 50=>1|_=>0) Tryz.func60 (aX.nil _ _) (.cons suE u3 (.nil _ _ _ _ _)) h
structure SmM (w:List Mt):Prop where
 len:w.length≤100000
 se:∀ c∈w,c.aa.length≤1000000
def AZ (args:List PV) (K:PV→Prop):Prop:=∃(w:List Mt) (tl:Tail) (t:Int),ah args [.list (w.map mtc) tl,.U t]∧SmM w∧K (.U (ofM w t))
theorem E3:SpK 65 (.pure AZ):=by
 rintro args K ⟨w,tl,t,he,s,hk⟩
 have he:args=_:=he
 subst he
 have hl:=s.len
 refine bu aj (.cons (.list _ _) (.cons (.refl _) .nil)) (bn (bB w) (.int _ _)) (.int _ _) (Ig w t (fun x=>x = .U (ofM w t)) ⟨w,t,by omega,s.se,rfl,rfl,fun h=>?_,fun h=>?_⟩) hk
 ·unfold ofM; rw[if_pos h]
 ·unfold ofM; rw[if_neg (by omega)]
def sG (args:List PV) (K:PV→Prop):Prop:=∃(w:List Mt) (tl t1 t2:Tail) (c:Mt),ah args [.list (w.map mtc) tl,.agg [.U c.id,.I c.md,.U c.ins,.list (c.rows.map rrc) t1,.list (c.aa.map stc) t2]]∧dN Mt.id w∧w.length≤100000∧K (.list ((fj Mt.id w c).map mtc) .no)
theorem um:SpK 60 (.pure sG):=by
 rintro args K ⟨w,tl,t1,t2,c,he,hr,hl,hk⟩
 have he:args=_:=he
 subst he
 have e:=uW (k:=Mt.id) c hr
 have hlen:=oP Mt.id c false w
 refine bu aj (.cons (.list _ _) (.cons gW .nil)) (bn (bB w) c.low) (bB _) (a9 (y9 w c (fun x=>∃ y,Wk x y∧y = .list ((fj Mt.id w c).map mtc) .no) ⟨w,c,false,by omega,trivial,rfl,rfl,fun h1=>?_,fun h1=>?_⟩)) hk
 ·unfold zZ at e
  rw[au]
  by_cases h2:(cX Mt.id c false w).2=false
  ·rw[if_pos h2,h1] at e
   rw[if_pos (by rw[h2]; rfl)]
   refine⟨aE (l:=[]) (by_:=72) dW c (by show(0+1)*72≤_; decide),one_row eC c,?_⟩
   rw[← e]; exact⟨_,.list _ _,rfl⟩
  ·rw[if_neg h2,h1] at e
   rw[if_neg (by simpa using h2),← e]
   exact⟨_,.list _ _,rfl⟩
 ·unfold zZ at e
  rw[au]
  by_cases h2:(cX Mt.id c false w).2=false
  ·rw[if_pos h2] at e
   rw[if_pos (by rw[h2]; rfl)]
   refine⟨aE dW _ c (by omega),one_row eC c,?_⟩
   rw[← e,List.map_append]; exact⟨_,.list _ _,rfl⟩
  ·rw[if_neg h2] at e
   rw[if_neg (by simpa using h2),← e]
   exact⟨_,.list _ _,rfl⟩
theorem Lv (l:List Rr) (t:Int) (a i:Nat):(by refine(?_:_→_→_→_→Prop) (List.getD (l.map rrc) (Int.toNat (i:Int)) []) [PV.list (l.map rrc) .no,.I t,.I a,.I i] (PV.I (wI ((i:Int)+1))) (PV.list (l.map rrc) .no); exact fun b c d f=>∀(R:Ex→List PV→ae→Prop),(br (decide ((i:Int)<(↑(List.length (l.map rrc)):Int))) (InL (l.map rrc) 4 (i:Int)∧br (true && aD [.int .i64] 0 (List.drop 0 b)) (br (cI (List.drop 0 b) 0 == t) (InL (l.map rrc) 4 (i:Int)∧br (true && aD [.list] 0 (List.drop 1 b)) (R .normal [f,.I t,.I (wI ((a:Int)+(↑(List.length (cL (List.drop 1 b) 0)):Int))),d] []) False) (R .normal [f,.I t,.I a,d] [])) False) (R (.exit 0) c []))→Holds (wpK [] [] (fun _=>0) (ai [1,1,0,1,0] (ag Tryz.f92)) [] (ak [0,1,5,6] c) [] (fun ex e H=>R ex (List.map e [0,1,5,6]) H)):Prop):=fun R h=>hoE h
def JD:LSp:=fun e H Q=>∃(l:List Rr) (t:Int),l.length≤1000000∧tot l≤1000000∧ah (List.map e [0,1,5,6]) [.list (l.map rrc) .no,.I t,.I 0,.I 0]∧av H []∧Q (.exit 0) (ak [0,1,5,6] [.list (l.map rrc) .no,.I t,.I (taken l t),.I l.length]) []
theorem Fy:∀ e H Q,JD e H Q→AwK Tryz.f92.ntmps (.loop (ai [1,1,0,1,0] (ag Tryz.f92))) Q e H:=by
 rintro e H Q ⟨l,t,hl,ht,he,hH,hQ⟩
 refine aB (hn:=fun _=>0) aj (.nil _ _) (.nil _ _ _ _ _) (σ:=Nat) [0,1,5,6] (fun i=>i≤l.length) (fun i=>[.list (l.map rrc) .no,.I t,.I (taken (l.take i) t),.I i]) (fun _=>[]) (fun i=>l.length-i) 0 (Nat.zero_le _) (by rw[he]; rfl) hH ?_
 intro i hi
 have hi:i≤l.length:=hi
 refine Lv l t (taken (l.take i) t) i _ ?_
 have h1:=gP (l.take i) t
 have h3:=fW (l:=l) i
 simp only[au,dt,an,ee,List.length_map]
 by_cases h:i<l.length
 ·rw[if_pos (by omega)]
  have e1:=kG (t:=t) h
  have h4:=fW (l:=l) (i+1)
  have h5:=gP (l.take (i+1)) t
  obtain⟨r,hr⟩:∃ r,r=l.getD i default:=⟨_,rfl⟩
  simp only[getD_map default h,← hr]
  rw[← hr] at e1
  have c0':cI (List.drop 0 (rrc r)) 0=r.tm:=rfl
  have c1:cL (List.drop 1 (rrc r)) 0=r.pl.map u1:=rfl
  simp only[c0',c1,List.length_map,beq_iff_eq]
  refine⟨h,?_⟩
  rw[if_pos (by rfl)]
  by_cases k1:r.tm=t
  ·rw[if_pos k1]
   rw[if_pos k1] at e1
   have e3:wI ((taken (l.take i) t:Int)+(r.pl.length:Int))=((taken (l.take (i+1)) t:Nat):Int):=by rw[aF (by omega) (by omega)]; omega
   refine⟨h,?_⟩
   rw[if_pos (by rfl),e3]
   exact⟨i+1,(show l.length-(i+1)<l.length-i by omega),h,by rw[ar h (by omega)],[],rfl,Nat.le_refl _,.inl rfl⟩
  ·rw[if_neg k1]
   have e1:taken (l.take (i+1)) t=taken (l.take i) t:=by rw[e1,if_neg k1]; rfl
   exact⟨i+1,(show l.length-(i+1)<l.length-i by omega),h,by dsimp only; rw[ar h (by omega),e1],[],rfl,Nat.le_refl _,.inl rfl⟩
 ·rw[if_neg (by omega)]
  have:i=l.length:=by omega
  subst this
  rw[List.take_length]
  exact hQ
theorem Gf (l:List Rr) (t:Int)  (K:PV→Prop) (h:∃(l_1:List Rr) (t_1:Int),List.length l_1≤1000000∧tot l_1≤1000000∧ah [.list (List.map rrc l) .no,.I t,.I 0,.I 0] [.list (List.map rrc l_1) .no,.I t_1,.I 0,.I 0]∧av [] []∧K (.I (↑(taken l_1 t_1):Int))):AcK 92 [.list (l.map rrc) .no,.I t] [] (fun x _=>K x):=
 acW (T:=[]) (L:=[([1,1,0,1,0],JD)]) (fun _=>0) Tryz.func92 (aX.nil _ _) (.cons suE Fy (.nil _ _ _ _ _)) h
def uU (args:List PV) (K:PV→Prop):Prop:=∃(l:List Rr) (tl:Tail) (t:Int),ah args [.list (l.map rrc) tl,.I t]∧l.length≤1000000∧tot l≤1000000∧K (.I (taken l t))
theorem y6:SpK 92 (.pure uU):=by
 rintro args K ⟨l,tl,t,he,h1,h2,hk⟩
 have he:args=_:=he
 subst he
 exact bu aj (.cons (.list _ _) (.cons (.refl _) .nil)) (bn (aR l) (.int _ _)) (.int _ _) (Gf l t (fun x=>x = .I (taken l t)) ⟨l,t,h1,h2,rfl,rfl,rfl⟩) hk
def TWF:Tab:=[(53,.pure xT),(91,.pure J0),(65,.pure AZ),(92,.pure uU)]
theorem kH:TbK TWF:= .cons uZ (.cons KP (.cons E3 (.cons y6 (.nil _ _))))
theorem tv (w:List Mt) (b l:List Rr) (r:Rr) (ids sz ex:Bool) (i k:Nat):(by refine(?_:_→_→_→_→_→_→Prop) (Ob.cells [.I r.tm,.list (r.pl.map u1) .no,.I r.rt,.I r.wd]) (PV.list (w.map mtc) .no) (PV.I (wI ((k:Int)+1))) (PV.list (b.map rrc) .no) (PV.list (l.map rrc) .no) (List.getD (r.pl.map u1) (Int.toNat (k:Int)) []); exact fun f h m n p q=>by refine(?_:_→_→Prop) (cI q 0) [PV.list (w.map mtc) .no,n,p,.E,.bool ids,.bool sz,.bool ex,.I i,.ptr 0 0,.I k]; exact fun d g=>by refine(?_:_→_→Prop) (PV.list [[PV.U d]] (.tok 1)) [PV.E,.U d]; exact fun j s=>∀(R:Ex→List PV→ae→Prop),by refine(?_:_→_→Prop) (aG [] [[PV.U d]] 1 4∧(List.all [.U d] PV.one=true∧[[PV.U d]]≠[])∧R .normal [h,n,p,j,.bool true,.bool sz,.bool true,.I i,.ptr 0 0,m] [f,.tok]) (aG [] [[PV.U d]] 1 4∧(List.all [.U d] PV.one=true∧[[PV.U d]]≠[])∧R .normal [h,n,p,j,.bool ids,.bool sz,.bool true,.I i,.ptr 0 0,m] [f,.tok]); exact fun a c=>(br (decide ((k:Int)<(↑(List.length (r.pl.map u1)):Int))) (InL (r.pl.map u1) 1 (k:Int)∧br (true && aD [.int .u32] 0 q) (∃(t:Int),0≤t∧ah [.U d] [.U t]∧br (!aC t) (∃(l_1:List Int) (tl:Tail) (t:Int),ah s [.list (l_1.map u1) tl,.U t]∧l_1.length≤1000000∧br (cJ l_1 t == false) (∃(w_1:List Mt) (tl:Tail) (t:Int),ah [h,.U d] [.list (w_1.map mtc) tl,.U t]∧SmM w_1∧br (ofM w_1 t != 0) a (aG [] [[PV.U d]] 1 4∧(List.all [.U d] PV.one=true∧[[PV.U d]]≠[])∧R .normal [h,n,p,j,.bool true,.bool sz,.bool ex,.I i,.ptr 0 0,m] [f,.tok])) a) (∃(l_1:List Int) (tl:Tail) (t:Int),ah s [.list (l_1.map u1) tl,.U t]∧l_1.length≤1000000∧br (cJ l_1 t == false) (∃(w_1:List Mt) (tl:Tail) (t:Int),ah [h,.U d] [.list (w_1.map mtc) tl,.U t]∧SmM w_1∧br (ofM w_1 t != 0) c (aG [] [[PV.U d]] 1 4∧(List.all [.U d] PV.one=true∧[[PV.U d]]≠[])∧R .normal [h,n,p,j,.bool ids,.bool sz,.bool ex,.I i,.ptr 0 0,m] [f,.tok])) c)) False) (R (.exit 2) g [f]))→Holds (wpK TWF [] (fun o=>match o.dst with|some 76=>1|_=>0) (ai [1,1,1,0,1,0,0,1,0,0,1,1,1,0] (ag Tryz.f59)) [] (ak [0,1,2,7,8,9,10,11,12,13] g) [.cells (rrc r)] (fun ex e H=>R ex (List.map e [0,1,2,7,8,9,10,11,12,13]) H)):Prop):=fun R h=>hoE h
theorem tu (w:List Mt) (b l:List Rr) (r:Rr) (ids sz ex:Bool) (ps:List Int) (i k:Nat):(by refine(?_:_→_→_→_→_→_→_→Prop) (Ob.cells [.I r.tm,.list (r.pl.map u1) .no,.I r.rt,.I r.wd]) (PV.list (w.map mtc) .no) (PV.I (wI ((k:Int)+1))) (PV.list (b.map rrc) .no) (PV.list (l.map rrc) .no) (PV.list (ps.map u1) (.tok 1)) (List.getD (r.pl.map u1) (Int.toNat (k:Int)) []); exact fun f j m n p q s=>by refine(?_:_→_→Prop) (cI s 0) [PV.list (w.map mtc) .no,n,p,q,.bool ids,.bool sz,.bool ex,.I i,.ptr 0 0,.I k]; exact fun d g=>by refine(?_:_→Prop) (PV.list (ps.map u1++[[PV.U d]]) (.tok 2)); exact fun h=>∀(R:Ex→List PV→ae→Prop),by refine(?_:_→_→Prop) (aG (ps.map u1) [[PV.U d]] 1 4∧(List.all [.U d] PV.one=true∧[[PV.U d]]≠[])∧R .normal [j,n,p,h,.bool true,.bool sz,.bool true,.I i,.ptr 0 0,m] [f,.dead,.tok]) (aG (ps.map u1) [[PV.U d]] 1 4∧(List.all [.U d] PV.one=true∧[[PV.U d]]≠[])∧R .normal [j,n,p,h,.bool ids,.bool sz,.bool true,.I i,.ptr 0 0,m] [f,.dead,.tok]); exact fun a c=>(br (decide ((k:Int)<(↑(List.length (r.pl.map u1)):Int))) (InL (r.pl.map u1) 1 (k:Int)∧br (true && aD [.int .u32] 0 s) (∃(t:Int),0≤t∧ah [.U d] [.U t]∧br (!aC t) (∃(l_1:List Int) (tl:Tail) (t:Int),ah [q,.U d] [.list (l_1.map u1) tl,.U t]∧l_1.length≤1000000∧br (cJ l_1 t == false) (∃(w_1:List Mt) (tl:Tail) (t:Int),ah [j,.U d] [.list (w_1.map mtc) tl,.U t]∧SmM w_1∧br (ofM w_1 t != 0) a (aG (ps.map u1) [[PV.U d]] 1 4∧(List.all [.U d] PV.one=true∧[[PV.U d]]≠[])∧R .normal [j,n,p,h,.bool true,.bool sz,.bool ex,.I i,.ptr 0 0,m] [f,.dead,.tok])) a) (∃(l_1:List Int) (tl:Tail) (t:Int),ah [q,.U d] [.list (l_1.map u1) tl,.U t]∧l_1.length≤1000000∧br (cJ l_1 t == false) (∃(w_1:List Mt) (tl:Tail) (t:Int),ah [j,.U d] [.list (w_1.map mtc) tl,.U t]∧SmM w_1∧br (ofM w_1 t != 0) c (aG (ps.map u1) [[PV.U d]] 1 4∧(List.all [.U d] PV.one=true∧[[PV.U d]]≠[])∧R .normal [j,n,p,h,.bool ids,.bool sz,.bool ex,.I i,.ptr 0 0,m] [f,.dead,.tok])) c)) False) (R (.exit 2) g [f,.tok]))→Holds (wpK TWF [] (fun o=>match o.dst with|some 76=>1|_=>0) (ai [1,1,1,0,1,0,0,1,0,0,1,1,1,0] (ag Tryz.f59)) [] (ak [0,1,2,7,8,9,10,11,12,13] g) [.cells (rrc r),.tok] (fun ex e H=>R ex (List.map e [0,1,2,7,8,9,10,11,12,13]) H)):Prop):=fun R h=>hoE h
theorem ta (w:List Mt) (b l:List Rr) (r:Rr) (ids sz ex:Bool) (ps:List Int) (i k:Nat):(by refine(?_:_→_→_→_→_→_→_→Prop) (Ob.cells [.I r.tm,.list (r.pl.map u1) .no,.I r.rt,.I r.wd]) (PV.list (w.map mtc) .no) (PV.I (wI ((k:Int)+1))) (PV.list (b.map rrc) .no) (PV.list (l.map rrc) .no) (PV.list (ps.map u1) (.tok 0)) (List.getD (r.pl.map u1) (Int.toNat (k:Int)) []); exact fun f j m n p q s=>by refine(?_:_→_→Prop) (cI s 0) [PV.list (w.map mtc) .no,n,p,q,.bool ids,.bool sz,.bool ex,.I i,.ptr 1 0,.I k]; exact fun d g=>by refine(?_:_→Prop) (PV.list (ps.map u1++[[PV.U d]]) (.tok 2)); exact fun h=>∀(R:Ex→List PV→ae→Prop),by refine(?_:_→_→Prop) (aG (ps.map u1) [[PV.U d]] 1 4∧(List.all [.U d] PV.one=true∧[[PV.U d]]≠[])∧R .normal [j,n,p,h,.bool true,.bool sz,.bool true,.I i,.ptr 1 0,m] [.dead,f,.tok]) (aG (ps.map u1) [[PV.U d]] 1 4∧(List.all [.U d] PV.one=true∧[[PV.U d]]≠[])∧R .normal [j,n,p,h,.bool ids,.bool sz,.bool true,.I i,.ptr 1 0,m] [.dead,f,.tok]); exact fun a c=>(br (decide ((k:Int)<(↑(List.length (r.pl.map u1)):Int))) (InL (r.pl.map u1) 1 (k:Int)∧br (true && aD [.int .u32] 0 s) (∃(t:Int),0≤t∧ah [.U d] [.U t]∧br (!aC t) (∃(l_1:List Int) (tl:Tail) (t:Int),ah [q,.U d] [.list (l_1.map u1) tl,.U t]∧l_1.length≤1000000∧br (cJ l_1 t == false) (∃(w_1:List Mt) (tl:Tail) (t:Int),ah [j,.U d] [.list (w_1.map mtc) tl,.U t]∧SmM w_1∧br (ofM w_1 t != 0) a (aG (ps.map u1) [[PV.U d]] 1 4∧(List.all [.U d] PV.one=true∧[[PV.U d]]≠[])∧R .normal [j,n,p,h,.bool true,.bool sz,.bool ex,.I i,.ptr 1 0,m] [.dead,f,.tok])) a) (∃(l_1:List Int) (tl:Tail) (t:Int),ah [q,.U d] [.list (l_1.map u1) tl,.U t]∧l_1.length≤1000000∧br (cJ l_1 t == false) (∃(w_1:List Mt) (tl:Tail) (t:Int),ah [j,.U d] [.list (w_1.map mtc) tl,.U t]∧SmM w_1∧br (ofM w_1 t != 0) c (aG (ps.map u1) [[PV.U d]] 1 4∧(List.all [.U d] PV.one=true∧[[PV.U d]]≠[])∧R .normal [j,n,p,h,.bool ids,.bool sz,.bool ex,.I i,.ptr 1 0,m] [.dead,f,.tok])) c)) False) (R (.exit 2) g [.tok,f]))→Holds (wpK TWF [] (fun o=>match o.dst with|some 76=>1|_=>0) (ai [1,1,1,0,1,0,0,1,0,0,1,1,1,0] (ag Tryz.f59)) [] (ak [0,1,2,7,8,9,10,11,12,13] g) [.tok,.cells (rrc r)] (fun ex e H=>R ex (List.map e [0,1,2,7,8,9,10,11,12,13]) H)):Prop):=fun R h=>hoE h
theorem uF (w:List Mt) (b l:List Rr) (r:Rr) (ids sz ex:Bool) (ps:List Int) (i k:Nat):(by refine(?_:_→_→_→_→_→_→_→Prop) (Ob.cells [.I r.tm,.list (r.pl.map u1) .no,.I r.rt,.I r.wd]) (PV.list (w.map mtc) .no) (PV.I (wI ((k:Int)+1))) (PV.list (b.map rrc) .no) (PV.list (l.map rrc) .no) (PV.list (ps.map u1) (.tok 2)) (List.getD (r.pl.map u1) (Int.toNat (k:Int)) []); exact fun f j m n p s u=>by refine(?_:_→_→_→Prop) (cI u 0) [PV.list (w.map mtc) .no,n,p,s,.bool ids,.bool sz,.bool ex,.I i,.ptr 1 0,.I k] [Ob.dead,f,.dead,.tok]; exact fun d g q=>by refine(?_:_→Prop) (PV.list (ps.map u1++[[PV.U d]]) (.tok 3)); exact fun h=>∀(R:Ex→List PV→ae→Prop),by refine(?_:_→_→Prop) (aG (ps.map u1) [[PV.U d]] 1 4∧(List.all [.U d] PV.one=true∧[[PV.U d]]≠[])∧R .normal [j,n,p,h,.bool true,.bool sz,.bool true,.I i,.ptr 1 0,m] q) (aG (ps.map u1) [[PV.U d]] 1 4∧(List.all [.U d] PV.one=true∧[[PV.U d]]≠[])∧R .normal [j,n,p,h,.bool ids,.bool sz,.bool true,.I i,.ptr 1 0,m] q); exact fun a c=>(br (decide ((k:Int)<(↑(List.length (r.pl.map u1)):Int))) (InL (r.pl.map u1) 1 (k:Int)∧br (true && aD [.int .u32] 0 u) (∃(t:Int),0≤t∧ah [.U d] [.U t]∧br (!aC t) (∃(l_1:List Int) (tl:Tail) (t:Int),ah [s,.U d] [.list (l_1.map u1) tl,.U t]∧l_1.length≤1000000∧br (cJ l_1 t == false) (∃(w_1:List Mt) (tl:Tail) (t:Int),ah [j,.U d] [.list (w_1.map mtc) tl,.U t]∧SmM w_1∧br (ofM w_1 t != 0) a (aG (ps.map u1) [[PV.U d]] 1 4∧(List.all [.U d] PV.one=true∧[[PV.U d]]≠[])∧R .normal [j,n,p,h,.bool true,.bool sz,.bool ex,.I i,.ptr 1 0,m] q)) a) (∃(l_1:List Int) (tl:Tail) (t:Int),ah [s,.U d] [.list (l_1.map u1) tl,.U t]∧l_1.length≤1000000∧br (cJ l_1 t == false) (∃(w_1:List Mt) (tl:Tail) (t:Int),ah [j,.U d] [.list (w_1.map mtc) tl,.U t]∧SmM w_1∧br (ofM w_1 t != 0) c (aG (ps.map u1) [[PV.U d]] 1 4∧(List.all [.U d] PV.one=true∧[[PV.U d]]≠[])∧R .normal [j,n,p,h,.bool ids,.bool sz,.bool ex,.I i,.ptr 1 0,m] q)) c)) False) (R (.exit 2) g [.dead,f,.tok]))→Holds (wpK TWF [] (fun o=>match o.dst with|some 76=>1|_=>0) (ai [1,1,1,0,1,0,0,1,0,0,1,1,1,0] (ag Tryz.f59)) [] (ak [0,1,2,7,8,9,10,11,12,13] g) [.dead,.cells (rrc r),.tok] (fun ex e H=>R ex (List.map e [0,1,2,7,8,9,10,11,12,13]) H)):Prop):=fun R h=>hoE h
theorem gp {ρ:Nat→Nat} {n bx:Nat} {w:List Mt} {b l:List Rr} {ids sz ex:Bool} {i:Nat} {z:Int} {T T':PV} (hb:bx<n∧ρ bx=bx) (hT:Ren ρ n T T'):aW ρ n [.list (w.map mtc) .no,.list (b.map rrc) .no,.list (l.map rrc) .no,T,.bool ids,.bool sz,.bool ex,.I i,.ptr bx 0,.I z] [.list (w.map mtc) .no,.list (b.map rrc) .no,.list (l.map rrc) .no,T',.bool ids,.bool sz,.bool ex,.I i,.ptr bx 0,.I z]:=by
 have eb:=Ren.ptr (ρ:=ρ) (n:=n) bx 0 hb.1
 rw[hb.2] at eb
 exact .cons (.low (bB _)) (.cons (.low (aR _)) (.cons (.low (aR _)) (.cons hT (.cons (.low (.bool _)) (.cons (.low (.bool _)) (.cons (.low (.bool _)) (.cons (.low (.int _ _)) (.cons eb (.cons (.low (.int _ _)) (.nil))))))))))
def sy:LSp:=fun e H Q=>∃(w:List Mt) (b l:List Rr) (r:Rr) (s:WS) (sz:Bool) (i:Nat),SmM w∧(∀ p∈r.pl,0≤p)∧r.pl.length≤1000000∧s.ps.length+r.pl.length≤1000000∧s.ps=[]∧ah (List.map e [0,1,2,7,8,9,10,11,12,13]) [.list (w.map mtc) .no,.list (b.map rrc) .no,.list (l.map rrc) .no,.E,.bool s.ids,.bool sz,.bool s.ex,.I i,.ptr 0 0,.I 0]∧av H [.cells (rrc r)]∧(r.pl=[]→Q (.exit 2) (ak [0,1,2,7,8,9,10,11,12,13] [.list (w.map mtc) .no,.list (b.map rrc) .no,.list (l.map rrc) .no,.E,.bool s.ids,.bool sz,.bool s.ex,.I i,.ptr 0 0,.I 0]) [.cells (rrc r)])∧(r.pl≠[]→Q (.exit 2) (ak [0,1,2,7,8,9,10,11,12,13] [.list (w.map mtc) .no,.list (b.map rrc) .no,.list (l.map rrc) .no,.list ((wsP w s r.pl).ps.map u1) (.tok 1),.bool (wsP w s r.pl).ids,.bool sz,.bool (wsP w s r.pl).ex,.I i,.ptr 0 0,.I r.pl.length]) [.cells (rrc r),.tok])
theorem z0:∀ e H Q,sy e H Q→AwK Tryz.f59.ntmps (.loop (ai [1,1,1,0,1,0,0,1,0,0,1,1,1,0] (ag Tryz.f59))) Q e H:=by
 rintro e H Q ⟨w,b,l,r,s,sz,i,sw,h0p,hrl,hsl,hs0,he,hH,hQ0,hQ1⟩
 ·have hH:H=_:=hH
  have hHl:H.length=1:=by rw[hH]; rfl
  refine fF (hn:=fun o=>match o.dst with|some 76=>1|_=>0) aj kH (.nil _ _ _ _ _) (σ:=Nat) [0,1,2,7,8,9,10,11,12,13] (fun k=>k≤r.pl.length) (fun k=>if k=0 then [.list (w.map mtc) .no,.list (b.map rrc) .no,.list (l.map rrc) .no,.E,.bool s.ids,.bool sz,.bool s.ex,.I i,.ptr 0 0,.I 0] else [.list (w.map mtc) .no,.list (b.map rrc) .no,.list (l.map rrc) .no,.list ((wsP w s (r.pl.take k)).ps.map u1) (.tok 1),.bool (wsP w s (r.pl.take k)).ids,.bool sz,.bool (wsP w s (r.pl.take k)).ex,.I i,.ptr 0 0,.I k]) (fun k=>if k=0 then [.cells (rrc r)] else [.cells (rrc r),.tok]) (fun k=>r.pl.length-k) 0 (Nat.zero_le _) he hH ?_
  rw[hHl]
  intro k hk
  have hk:k≤r.pl.length:=hk
  have hps:=fc w (r.pl.take k) s
  have hpl:(wsP w s (r.pl.take k)).ps.length≤1000000:=by rw[hps,List.length_append,List.length_take]; omega
  by_cases h:k<r.pl.length
  ·have hsucc:=k9 w s h
   have hlow:∀(ps:List Int),∀ x∈(ps.map u1).flatten,Low 0 x:=fun ps=>bp fun a _=>bO a
   have inl:InL (r.pl.map u1) 1 (k:Int):=by rw[dQ]; exact h
   have cp:cI (u1 (r.pl.getD k 0)) 0=r.pl.getD k 0:=rfl
   have hpm:r.pl.getD k 0∈r.pl:=aY h
   have hpl2:(wsP w s (r.pl.take (k+1))).ps.length≤1000000:=by rw[fc,List.length_append,List.length_take]; omega
   by_cases k0:k=0
   ·subst k0
    have e1:wsP w s (r.pl.take 1)=ws1 w s (r.pl.getD 0 0):=hsucc
    simp only[if_pos]
    refine tv w b l r s.ids sz s.ex i 0 _ ?_
    simp only[au,dt,an,List.length_map,getD_map 0 h,cp]
    rw[if_pos (by omega)]
    refine⟨inl,?_⟩
    rw[if_pos (by rfl)]
    obtain⟨p,hp⟩:∃ p,p=r.pl.getD 0 0:=⟨_,rfl⟩
    rw[← hp] at e1 hpm
    simp only[← hp]
    have tail:∀ b1 b2:Bool,b1=(ws1 w s p).ids→b2=(ws1 w s p).ex→∃ s':Nat,r.pl.length-s'<r.pl.length-0∧s'≤r.pl.length∧ej 1 [.list (w.map mtc) .no,.list (b.map rrc) .no,.list (l.map rrc) .no,.list [[.U p]] (.tok 1),.bool b1,.bool sz,.bool b2,.I i,.ptr 0 0,.I (wI (((0:Nat):Int)+1))] [.cells (rrc r),.tok] (if s'=0 then [.list (w.map mtc) .no,.list (b.map rrc) .no,.list (l.map rrc) .no,.E,.bool s.ids,.bool sz,.bool s.ex,.I i,.ptr 0 0,.I 0] else [.list (w.map mtc) .no,.list (b.map rrc) .no,.list (l.map rrc) .no,.list ((wsP w s (r.pl.take s')).ps.map u1) (.tok 1),.bool (wsP w s (r.pl.take s')).ids,.bool sz,.bool (wsP w s (r.pl.take s')).ex,.I i,.ptr 0 0,.I s']) (if s'=0 then [.cells (rrc r)] else [.cells (rrc r),.tok]):=by
     rintro b1 b2 rfl rfl
     refine⟨1,by omega,h,?_⟩
     rw[if_neg (by decide),if_neg (by decide),e1,show wI (((0:Nat):Int)+1)=((1:Nat):Int) from rfl]
     refine aT [0,1] (WkL.refl _) (.cons rfl (.cells (aW.low (bJ r))) (.cons rfl .tok .nil)) (by decide) (by simp) (fun o ho=>?_) (gp ⟨by simp,rfl⟩ ?_)
     ·match o,ho with
      | 0,_=>rfl
     ·have:=Ren.ltok (ρ:=fun o=>[0,1].getD o 0) (n:=2) ((ws1 w s p).ps.map u1) 1 (by decide) (hlow _)
      have e2:(ws1 w s p).ps.map u1=[[PV.U p]]:=by show(s.ps++[p]).map u1=_; rw[hs0]; rfl
      rw[← e2]; exact this
    have ap:aG (([]:List (List PV))) [[.U p]] 1 4∧(List.all [PV.U p] PV.one=true∧[[PV.U p]]≠[]):=⟨aE (f:=u1) da [] p (by decide),one_row dy p⟩
    refine⟨p,h0p p hpm,rfl,?_⟩
    by_cases hr:aC p=true
    ·rw[if_neg (by rw[hr]; decide)]
     refine⟨[],.exact,p,rfl,(by decide),?_⟩
     by_cases hm:cJ [] p=false
     ·rw[if_pos (by rw[hm]; rfl)]
      refine⟨w,.no,p,rfl,sw,?_⟩
      by_cases ho:(ofM w p != 0)=true
      ·rw[if_pos ho]
       exact⟨ap.1,ap.2,tail _ _ (by simp only[ws1]; rw[hr]; simp) (by simp only[ws1]; rw[ho]; simp)⟩
      ·rw[if_neg ho]
       exact⟨ap.1,ap.2,tail _ _ (by simp only[ws1]; rw[hr]; simp) (by simp only[ws1]; rw[hs0]; rw[hm,show(ofM w p != 0)=false by simpa using ho]; simp)⟩
     ·rw[if_neg (by simpa using hm)]
      exact⟨ap.1,ap.2,tail _ _ (by simp only[ws1]; rw[hr]; simp) (by simp only[ws1]; rw[hs0]; rw[bnf hm]; simp)⟩
    ·rw[if_pos (by simpa using hr)]
     refine⟨[],.exact,p,rfl,(by decide),?_⟩
     by_cases hm:cJ [] p=false
     ·rw[if_pos (by rw[hm]; rfl)]
      refine⟨w,.no,p,rfl,sw,?_⟩
      by_cases ho:(ofM w p != 0)=true
      ·rw[if_pos ho]
       exact⟨ap.1,ap.2,tail _ _ (by simp only[ws1]; rw[show aC p=false by simpa using hr]; simp) (by simp only[ws1]; rw[ho]; simp)⟩
      ·rw[if_neg ho]
       exact⟨ap.1,ap.2,tail _ _ (by simp only[ws1]; rw[show aC p=false by simpa using hr]; simp) (by simp only[ws1]; rw[hs0]; rw[hm,show(ofM w p != 0)=false by simpa using ho]; simp)⟩
     ·rw[if_neg (by simpa using hm)]
      exact⟨ap.1,ap.2,tail _ _ (by simp only[ws1]; rw[show aC p=false by simpa using hr]; simp) (by simp only[ws1]; rw[hs0]; rw[bnf hm]; simp)⟩
   ·simp only[if_neg k0]
    refine tu w b l r (wsP w s (r.pl.take k)).ids sz (wsP w s (r.pl.take k)).ex (wsP w s (r.pl.take k)).ps i k _ ?_
    simp only[au,dt,an,List.length_map,getD_map 0 h,cp]
    rw[if_pos (by omega)]
    refine⟨inl,?_⟩
    rw[if_pos (by rfl)]
    obtain⟨t,htd⟩:∃ t,t=wsP w s (r.pl.take k):=⟨_,rfl⟩
    obtain⟨p,hp⟩:∃ p,p=r.pl.getD k 0:=⟨_,rfl⟩
    rw[← htd,← hp] at hsucc
    rw[← hp] at hpm
    simp only[← hp,← htd] at hpl ⊢
    have htl:t.ps.length+1≤1000000:=by rw[hsucc] at hpl2; simpa[ws1] using hpl2
    have tail:∀ b1 b2:Bool,b1=(ws1 w t p).ids→b2=(ws1 w t p).ex→∃ s':Nat,r.pl.length-s'<r.pl.length-k∧s'≤r.pl.length∧ej 1 [.list (w.map mtc) .no,.list (b.map rrc) .no,.list (l.map rrc) .no,.list (t.ps.map u1++[[.U p]]) (.tok 2),.bool b1,.bool sz,.bool b2,.I i,.ptr 0 0,.I (wI ((k:Int)+1))] [.cells (rrc r),.dead,.tok] (if s'=0 then [.list (w.map mtc) .no,.list (b.map rrc) .no,.list (l.map rrc) .no,.E,.bool s.ids,.bool sz,.bool s.ex,.I i,.ptr 0 0,.I 0] else [.list (w.map mtc) .no,.list (b.map rrc) .no,.list (l.map rrc) .no,.list ((wsP w s (r.pl.take s')).ps.map u1) (.tok 1),.bool (wsP w s (r.pl.take s')).ids,.bool sz,.bool (wsP w s (r.pl.take s')).ex,.I i,.ptr 0 0,.I s']) (if s'=0 then [.cells (rrc r)] else [.cells (rrc r),.tok]):=by
     rintro b1 b2 rfl rfl
     refine⟨k+1,by omega,h,?_⟩
     rw[if_neg (by omega),if_neg (by omega),hsucc,ar h (by omega)]
     refine aT [0,2] (WkL.refl _) (.cons rfl (.cells (aW.low (bJ r))) (.cons rfl .tok .nil)) (by decide) (by simp) (fun o ho=>?_) (gp ⟨by simp,rfl⟩ ?_)
     ·match o,ho with
      | 0,_=>rfl
     ·have:=Ren.ltok (ρ:=fun o=>[0,2].getD o 0) (n:=2) ((ws1 w t p).ps.map u1) 1 (by decide) (hlow _)
      have e2:(ws1 w t p).ps.map u1=t.ps.map u1++[[.U p]]:=by show(t.ps++[p]).map u1=_; rw[List.map_append]; rfl
      rw[← e2]; exact this
    have ap:aG (t.ps.map u1) [[.U p]] 1 4∧(List.all [PV.U p] PV.one=true∧[[PV.U p]]≠[]):=⟨aE (f:=u1) da t.ps p (by omega),one_row dy p⟩
    refine⟨p,h0p p hpm,rfl,?_⟩
    by_cases hr:aC p=true
    ·rw[if_neg (by rw[hr]; decide)]
     refine⟨t.ps,.tok 1,p,rfl,(by omega),?_⟩
     by_cases hm:cJ t.ps p=false
     ·rw[if_pos (by rw[hm]; rfl)]
      refine⟨w,.no,p,rfl,sw,?_⟩
      by_cases ho:(ofM w p != 0)=true
      ·rw[if_pos ho]
       exact⟨ap.1,ap.2,tail _ _ (by simp only[ws1]; rw[hr]; simp) (by simp only[ws1]; rw[ho]; simp)⟩
      ·rw[if_neg ho]
       exact⟨ap.1,ap.2,tail _ _ (by simp only[ws1]; rw[hr]; simp) (by simp only[ws1]; rw[hm,show(ofM w p != 0)=false by simpa using ho]; simp)⟩
     ·rw[if_neg (by simpa using hm)]
      exact⟨ap.1,ap.2,tail _ _ (by simp only[ws1]; rw[hr]; simp) (by simp only[ws1]; rw[bnf hm]; simp)⟩
    ·rw[if_pos (by simpa using hr)]
     refine⟨t.ps,.tok 1,p,rfl,(by omega),?_⟩
     by_cases hm:cJ t.ps p=false
     ·rw[if_pos (by rw[hm]; rfl)]
      refine⟨w,.no,p,rfl,sw,?_⟩
      by_cases ho:(ofM w p != 0)=true
      ·rw[if_pos ho]
       exact⟨ap.1,ap.2,tail _ _ (by simp only[ws1]; rw[show aC p=false by simpa using hr]; simp) (by simp only[ws1]; rw[ho]; simp)⟩
      ·rw[if_neg ho]
       exact⟨ap.1,ap.2,tail _ _ (by simp only[ws1]; rw[show aC p=false by simpa using hr]; simp) (by simp only[ws1]; rw[hm,show(ofM w p != 0)=false by simpa using ho]; simp)⟩
     ·rw[if_neg (by simpa using hm)]
      exact⟨ap.1,ap.2,tail _ _ (by simp only[ws1]; rw[show aC p=false by simpa using hr]; simp) (by simp only[ws1]; rw[bnf hm]; simp)⟩
  ·have hkl:k=r.pl.length:=by omega
   subst hkl
   by_cases k0:r.pl.length=0
   ·have hn:r.pl=[]:=List.length_eq_zero_iff.1 k0
    simp only[if_pos k0]
    refine tv w b l r s.ids sz s.ex i 0 _ ?_
    simp only[au,dt,List.length_map]
    rw[if_neg (by omega)]
    refine⟨_,_,aT [0] (WkL.refl _) (.cons rfl (.cells (aW.low (bJ r))) .nil) (by decide) (by simp) (fun o ho=>?_) (gp ⟨by simp,rfl⟩ (.low (aH NT.exact (by simp)))),hQ0 hn⟩
    match o,ho with
    | 0,_=>rfl
   ·have hn:r.pl≠[]:=fun e=>k0 (by rw[e]; rfl)
    simp only[if_neg k0]
    refine tu w b l r (wsP w s (r.pl.take r.pl.length)).ids sz (wsP w s (r.pl.take r.pl.length)).ex (wsP w s (r.pl.take r.pl.length)).ps i r.pl.length _ ?_
    simp only[au,dt,List.length_map]
    rw[if_neg (by omega),List.take_length]
    refine⟨_,_,aT [0,1] (WkL.refl _) (.cons rfl (.cells (aW.low (bJ r))) (.cons rfl .tok .nil)) (by decide) (by simp) (fun o ho=>?_) (gp ⟨by simp,rfl⟩ (.ltok (ρ:=fun o=>[0,1].getD o 0) _ 1 (by simp) (bp fun a _=>bO a))),hQ1 hn⟩
    match o,ho with
    | 0,_=>rfl
def rS:LSp:=fun e H Q=>∃(w:List Mt) (b l:List Rr) (r:Rr) (s:WS) (sz:Bool) (i:Nat),SmM w∧(∀ p∈r.pl,0≤p)∧r.pl.length≤1000000∧s.ps.length+r.pl.length≤1000000∧ah (List.map e [0,1,2,7,8,9,10,11,12,13]) [.list (w.map mtc) .no,.list (b.map rrc) .no,.list (l.map rrc) .no,.list (s.ps.map u1) (.tok 0),.bool s.ids,.bool sz,.bool s.ex,.I i,.ptr 1 0,.I 0]∧av H [.tok,.cells (rrc r)]∧(r.pl=[]→Q (.exit 2) (ak [0,1,2,7,8,9,10,11,12,13] [.list (w.map mtc) .no,.list (b.map rrc) .no,.list (l.map rrc) .no,.list (s.ps.map u1) (.tok 0),.bool s.ids,.bool sz,.bool s.ex,.I i,.ptr 1 0,.I 0]) [.tok,.cells (rrc r)])∧(r.pl≠[]→Q (.exit 2) (ak [0,1,2,7,8,9,10,11,12,13] [.list (w.map mtc) .no,.list (b.map rrc) .no,.list (l.map rrc) .no,.list ((wsP w s r.pl).ps.map u1) (.tok 2),.bool (wsP w s r.pl).ids,.bool sz,.bool (wsP w s r.pl).ex,.I i,.ptr 1 0,.I r.pl.length]) [.dead,.cells (rrc r),.tok])
theorem yV:∀ e H Q,rS e H Q→AwK Tryz.f59.ntmps (.loop (ai [1,1,1,0,1,0,0,1,0,0,1,1,1,0] (ag Tryz.f59))) Q e H:=by
 rintro e H Q ⟨w,b,l,r,s,sz,i,sw,h0p,hrl,hsl,he,hH,hQ0,hQ1⟩
 ·have hH:H=_:=hH
  have hHl:H.length=2:=by rw[hH]; rfl
  refine fF (hn:=fun o=>match o.dst with|some 76=>1|_=>0) aj kH (.nil _ _ _ _ _) (σ:=Nat) [0,1,2,7,8,9,10,11,12,13] (fun k=>k≤r.pl.length) (fun k=>if k=0 then [.list (w.map mtc) .no,.list (b.map rrc) .no,.list (l.map rrc) .no,.list (s.ps.map u1) (.tok 0),.bool s.ids,.bool sz,.bool s.ex,.I i,.ptr 1 0,.I 0] else [.list (w.map mtc) .no,.list (b.map rrc) .no,.list (l.map rrc) .no,.list ((wsP w s (r.pl.take k)).ps.map u1) (.tok 2),.bool (wsP w s (r.pl.take k)).ids,.bool sz,.bool (wsP w s (r.pl.take k)).ex,.I i,.ptr 1 0,.I k]) (fun k=>if k=0 then [.tok,.cells (rrc r)] else [.dead,.cells (rrc r),.tok]) (fun k=>r.pl.length-k) 0 (Nat.zero_le _) he hH ?_
  rw[hHl]
  intro k hk
  have hk:k≤r.pl.length:=hk
  have hps:=fc w (r.pl.take k) s
  have hpl:(wsP w s (r.pl.take k)).ps.length≤1000000:=by rw[hps,List.length_append,List.length_take]; omega
  by_cases h:k<r.pl.length
  ·have hsucc:=k9 w s h
   have hlow:∀(ps:List Int),∀ x∈(ps.map u1).flatten,Low 0 x:=fun ps=>bp fun a _=>bO a
   have inl:InL (r.pl.map u1) 1 (k:Int):=by rw[dQ]; exact h
   have cp:cI (u1 (r.pl.getD k 0)) 0=r.pl.getD k 0:=rfl
   have hpm:r.pl.getD k 0∈r.pl:=aY h
   have hpl2:(wsP w s (r.pl.take (k+1))).ps.length≤1000000:=by rw[fc,List.length_append,List.length_take]; omega
   by_cases k0:k=0
   ·subst k0
    have e1:wsP w s (r.pl.take 1)=ws1 w s (r.pl.getD 0 0):=hsucc
    simp only[if_pos]
    refine ta w b l r s.ids sz s.ex s.ps i 0 _ ?_
    simp only[au,dt,an,List.length_map,getD_map 0 h,cp]
    rw[if_pos (by omega)]
    refine⟨inl,?_⟩
    rw[if_pos (by rfl)]
    obtain⟨p,hp⟩:∃ p,p=r.pl.getD 0 0:=⟨_,rfl⟩
    rw[← hp] at e1 hpm
    simp only[← hp]
    have tail:∀ b1 b2:Bool,b1=(ws1 w s p).ids→b2=(ws1 w s p).ex→∃ s':Nat,r.pl.length-s'<r.pl.length-0∧s'≤r.pl.length∧ej 2 [.list (w.map mtc) .no,.list (b.map rrc) .no,.list (l.map rrc) .no,.list (s.ps.map u1++[[.U p]]) (.tok 2),.bool b1,.bool sz,.bool b2,.I i,.ptr 1 0,.I (wI (((0:Nat):Int)+1))] [.dead,.cells (rrc r),.tok] (if s'=0 then [.list (w.map mtc) .no,.list (b.map rrc) .no,.list (l.map rrc) .no,.list (s.ps.map u1) (.tok 0),.bool s.ids,.bool sz,.bool s.ex,.I i,.ptr 1 0,.I 0] else [.list (w.map mtc) .no,.list (b.map rrc) .no,.list (l.map rrc) .no,.list ((wsP w s (r.pl.take s')).ps.map u1) (.tok 2),.bool (wsP w s (r.pl.take s')).ids,.bool sz,.bool (wsP w s (r.pl.take s')).ex,.I i,.ptr 1 0,.I s']) (if s'=0 then [.tok,.cells (rrc r)] else [.dead,.cells (rrc r),.tok]):=by
     rintro b1 b2 rfl rfl
     refine⟨1,by omega,h,?_⟩
     rw[if_neg (by decide),if_neg (by decide),e1,show wI (((0:Nat):Int)+1)=((1:Nat):Int) from rfl]
     refine aT [0,1,2] (WkL.refl _) (.cons rfl (.dead _) (.cons rfl (.cells (aW.low (bJ r))) (.cons rfl .tok .nil))) (by decide) (by simp) (fun o ho=>?_) (gp ⟨by simp,rfl⟩ ?_)
     ·match o,ho with
      | 0,_=>rfl
      | 1,_=>rfl
     ·have:=Ren.ltok (ρ:=fun o=>[0,1,2].getD o 0) (n:=3) ((ws1 w s p).ps.map u1) 2 (by decide) (hlow _)
      have e2:(ws1 w s p).ps.map u1=s.ps.map u1++[[PV.U p]]:=by show(s.ps++[p]).map u1=_; rw[List.map_append]; rfl
      rw[← e2]; exact this
    have ap:aG (s.ps.map u1) [[.U p]] 1 4∧(List.all [PV.U p] PV.one=true∧[[PV.U p]]≠[]):=⟨aE (f:=u1) da s.ps p (by omega),one_row dy p⟩
    refine⟨p,h0p p hpm,rfl,?_⟩
    by_cases hr:aC p=true
    ·rw[if_neg (by rw[hr]; decide)]
     refine⟨s.ps,.tok 0,p,rfl,(by omega),?_⟩
     by_cases hm:cJ s.ps p=false
     ·rw[if_pos (by rw[hm]; rfl)]
      refine⟨w,.no,p,rfl,sw,?_⟩
      by_cases ho:(ofM w p != 0)=true
      ·rw[if_pos ho]
       exact⟨ap.1,ap.2,tail _ _ (by simp only[ws1]; rw[hr]; simp) (by simp only[ws1]; rw[ho]; simp)⟩
      ·rw[if_neg ho]
       exact⟨ap.1,ap.2,tail _ _ (by simp only[ws1]; rw[hr]; simp) (by simp only[ws1]; rw[hm,show(ofM w p != 0)=false by simpa using ho]; simp)⟩
     ·rw[if_neg (by simpa using hm)]
      exact⟨ap.1,ap.2,tail _ _ (by simp only[ws1]; rw[hr]; simp) (by simp only[ws1]; rw[bnf hm]; simp)⟩
    ·rw[if_pos (by simpa using hr)]
     refine⟨s.ps,.tok 0,p,rfl,(by omega),?_⟩
     by_cases hm:cJ s.ps p=false
     ·rw[if_pos (by rw[hm]; rfl)]
      refine⟨w,.no,p,rfl,sw,?_⟩
      by_cases ho:(ofM w p != 0)=true
      ·rw[if_pos ho]
       exact⟨ap.1,ap.2,tail _ _ (by simp only[ws1]; rw[show aC p=false by simpa using hr]; simp) (by simp only[ws1]; rw[ho]; simp)⟩
      ·rw[if_neg ho]
       exact⟨ap.1,ap.2,tail _ _ (by simp only[ws1]; rw[show aC p=false by simpa using hr]; simp) (by simp only[ws1]; rw[hm,show(ofM w p != 0)=false by simpa using ho]; simp)⟩
     ·rw[if_neg (by simpa using hm)]
      exact⟨ap.1,ap.2,tail _ _ (by simp only[ws1]; rw[show aC p=false by simpa using hr]; simp) (by simp only[ws1]; rw[bnf hm]; simp)⟩
   ·simp only[if_neg k0]
    refine uF w b l r (wsP w s (r.pl.take k)).ids sz (wsP w s (r.pl.take k)).ex (wsP w s (r.pl.take k)).ps i k _ ?_
    simp only[au,dt,an,List.length_map,getD_map 0 h,cp]
    rw[if_pos (by omega)]
    refine⟨inl,?_⟩
    rw[if_pos (by rfl)]
    obtain⟨t,htd⟩:∃ t,t=wsP w s (r.pl.take k):=⟨_,rfl⟩
    obtain⟨p,hp⟩:∃ p,p=r.pl.getD k 0:=⟨_,rfl⟩
    rw[← htd,← hp] at hsucc
    rw[← hp] at hpm
    simp only[← hp,← htd] at hpl ⊢
    have htl:t.ps.length+1≤1000000:=by rw[hsucc] at hpl2; simpa[ws1] using hpl2
    have tail:∀ b1 b2:Bool,b1=(ws1 w t p).ids→b2=(ws1 w t p).ex→∃ s':Nat,r.pl.length-s'<r.pl.length-k∧s'≤r.pl.length∧ej 2 [.list (w.map mtc) .no,.list (b.map rrc) .no,.list (l.map rrc) .no,.list (t.ps.map u1++[[.U p]]) (.tok 3),.bool b1,.bool sz,.bool b2,.I i,.ptr 1 0,.I (wI ((k:Int)+1))] [.dead,.cells (rrc r),.dead,.tok] (if s'=0 then [.list (w.map mtc) .no,.list (b.map rrc) .no,.list (l.map rrc) .no,.list (s.ps.map u1) (.tok 0),.bool s.ids,.bool sz,.bool s.ex,.I i,.ptr 1 0,.I 0] else [.list (w.map mtc) .no,.list (b.map rrc) .no,.list (l.map rrc) .no,.list ((wsP w s (r.pl.take s')).ps.map u1) (.tok 2),.bool (wsP w s (r.pl.take s')).ids,.bool sz,.bool (wsP w s (r.pl.take s')).ex,.I i,.ptr 1 0,.I s']) (if s'=0 then [.tok,.cells (rrc r)] else [.dead,.cells (rrc r),.tok]):=by
     rintro b1 b2 rfl rfl
     refine⟨k+1,by omega,h,?_⟩
     rw[if_neg (by omega),if_neg (by omega),hsucc,ar h (by omega)]
     refine aT [0,1,3] (WkL.refl _) (.cons rfl (.dead _) (.cons rfl (.cells (aW.low (bJ r))) (.cons rfl .tok .nil))) (by decide) (by simp) (fun o ho=>?_) (gp ⟨by simp,rfl⟩ ?_)
     ·match o,ho with
      | 0,_=>rfl
      | 1,_=>rfl
     ·have:=Ren.ltok (ρ:=fun o=>[0,1,3].getD o 0) (n:=3) ((ws1 w t p).ps.map u1) 2 (by decide) (hlow _)
      have e2:(ws1 w t p).ps.map u1=t.ps.map u1++[[.U p]]:=by show(t.ps++[p]).map u1=_; rw[List.map_append]; rfl
      rw[← e2]; exact this
    have ap:aG (t.ps.map u1) [[.U p]] 1 4∧(List.all [PV.U p] PV.one=true∧[[PV.U p]]≠[]):=⟨aE (f:=u1) da t.ps p (by omega),one_row dy p⟩
    refine⟨p,h0p p hpm,rfl,?_⟩
    by_cases hr:aC p=true
    ·rw[if_neg (by rw[hr]; decide)]
     refine⟨t.ps,.tok 2,p,rfl,(by omega),?_⟩
     by_cases hm:cJ t.ps p=false
     ·rw[if_pos (by rw[hm]; rfl)]
      refine⟨w,.no,p,rfl,sw,?_⟩
      by_cases ho:(ofM w p != 0)=true
      ·rw[if_pos ho]
       exact⟨ap.1,ap.2,tail _ _ (by simp only[ws1]; rw[hr]; simp) (by simp only[ws1]; rw[ho]; simp)⟩
      ·rw[if_neg ho]
       exact⟨ap.1,ap.2,tail _ _ (by simp only[ws1]; rw[hr]; simp) (by simp only[ws1]; rw[hm,show(ofM w p != 0)=false by simpa using ho]; simp)⟩
     ·rw[if_neg (by simpa using hm)]
      exact⟨ap.1,ap.2,tail _ _ (by simp only[ws1]; rw[hr]; simp) (by simp only[ws1]; rw[bnf hm]; simp)⟩
    ·rw[if_pos (by simpa using hr)]
     refine⟨t.ps,.tok 2,p,rfl,(by omega),?_⟩
     by_cases hm:cJ t.ps p=false
     ·rw[if_pos (by rw[hm]; rfl)]
      refine⟨w,.no,p,rfl,sw,?_⟩
      by_cases ho:(ofM w p != 0)=true
      ·rw[if_pos ho]
       exact⟨ap.1,ap.2,tail _ _ (by simp only[ws1]; rw[show aC p=false by simpa using hr]; simp) (by simp only[ws1]; rw[ho]; simp)⟩
      ·rw[if_neg ho]
       exact⟨ap.1,ap.2,tail _ _ (by simp only[ws1]; rw[show aC p=false by simpa using hr]; simp) (by simp only[ws1]; rw[hm,show(ofM w p != 0)=false by simpa using ho]; simp)⟩
     ·rw[if_neg (by simpa using hm)]
      exact⟨ap.1,ap.2,tail _ _ (by simp only[ws1]; rw[show aC p=false by simpa using hr]; simp) (by simp only[ws1]; rw[bnf hm]; simp)⟩
  ·have hkl:k=r.pl.length:=by omega
   subst hkl
   by_cases k0:r.pl.length=0
   ·have hn:r.pl=[]:=List.length_eq_zero_iff.1 k0
    simp only[if_pos k0]
    refine ta w b l r s.ids sz s.ex s.ps i 0 _ ?_
    simp only[au,dt,List.length_map]
    rw[if_neg (by omega)]
    refine⟨_,_,aT [0,1] (WkL.refl _) (.cons rfl .tok (.cons rfl (.cells (aW.low (bJ r))) .nil)) (by decide) (by simp) (fun o ho=>?_) (gp ⟨by simp,rfl⟩ (.ltok (ρ:=fun o=>[0,1].getD o 0) _ 0 (by simp) (bp fun a _=>bO a))),hQ0 hn⟩
    match o,ho with
    | 0,_=>rfl
    | 1,_=>rfl
   ·have hn:r.pl≠[]:=fun e=>k0 (by rw[e]; rfl)
    simp only[if_neg k0]
    refine uF w b l r (wsP w s (r.pl.take r.pl.length)).ids sz (wsP w s (r.pl.take r.pl.length)).ex (wsP w s (r.pl.take r.pl.length)).ps i r.pl.length _ ?_
    simp only[au,dt,List.length_map]
    rw[if_neg (by omega),List.take_length]
    refine⟨_,_,aT [0,1,2] (WkL.refl _) (.cons rfl (.dead _) (.cons rfl (.cells (aW.low (bJ r))) (.cons rfl .tok .nil))) (by decide) (by simp) (fun o ho=>?_) (gp ⟨by simp,rfl⟩ (.ltok (ρ:=fun o=>[0,1,2].getD o 0) _ 2 (by simp) (bp fun a _=>bO a))),hQ1 hn⟩
    match o,ho with
    | 0,_=>rfl
    | 1,_=>rfl
theorem xG:ai [1,0,0,1,1,1,0] (ai [1,1,1,0,1,0] (ag Tryz.f59))=ai [1,1,1,0,1,0,0,1,0,0,1,1,1,0] (ag Tryz.f59):=by kernel_rfl
theorem u7:∀ e H Q,sy e H Q→AwK Tryz.f59.ntmps (.loop (ai [1,0,0,1,1,1,0] (ai [1,1,1,0,1,0] (ag Tryz.f59)))) Q e H:=by
 rw[xG]; exact z0
theorem ww:∀ e H Q,rS e H Q→AwK Tryz.f59.ntmps (.loop (ai [1,0,0,1,1,1,0] (ai [1,1,1,0,1,0] (ag Tryz.f59)))) Q e H:=by
 rw[xG]; exact yV
theorem Ge (w:List Mt) (b l:List Rr) (ids sz ex:Bool) (r:Rr) (i:Nat):(by refine(?_:_→_→_→_→Prop) [Ob.cells [.I r.tm,.list (r.pl.map u1) .no,.I r.rt,.I r.wd]] (↑(List.length (r.pl.map u1)):Int) (PV.list (b.map rrc) .no) (PV.list (l.map rrc) .no); exact fun f g h j=>by refine(?_:_→Prop) [PV.list (w.map mtc) .no,h,j,.E,.bool ids,.bool sz,.bool ex,.I i,.ptr 0 0]; exact fun d=>∀(R:Ex→List PV→ae→Prop),by refine(?_:_→Prop) (R .normal [.list (w.map mtc) .no,h,j,.E,.bool ids,.bool true,.bool ex,.I i,.ptr 0 0] f); exact fun a=>by refine(?_:_→Prop) (br (decide (g<1) == false) (br (decide (g>4)) a (R .normal d f)) a); exact fun c=>(br ((r.tm != 1) == true) (br ((r.tm != 2) == false) c a) c)→Holds (wpK [] [] (fun _=>0) (b5 [1,1,1,0,1,0,0,1,0,0,1,0] (ag Tryz.f59)) [] (ak [0,1,2,7,8,9,10,11,12] d) [.cells (rrc r)] (fun ex e H=>R ex (List.map e [0,1,2,7,8,9,10,11,12]) H)):Prop):=fun R h=>hoE h
theorem GF (w:List Mt) (b l:List Rr) (ids sz ex:Bool) (ps:List Int) (r:Rr) (i:Nat):(by refine(?_:_→_→_→_→_→Prop) (Ob.cells [.I r.tm,.list (r.pl.map u1) .no,.I r.rt,.I r.wd]) (↑(List.length (r.pl.map u1)):Int) (PV.list (ps.map u1) (.tok 0)) (PV.list (b.map rrc) .no) (PV.list (l.map rrc) .no); exact fun f g h j k=>by refine(?_:_→Prop) [PV.list (w.map mtc) .no,j,k,h,.bool ids,.bool sz,.bool ex,.I i,.ptr 1 0]; exact fun d=>∀(R:Ex→List PV→ae→Prop),by refine(?_:_→Prop) (R .normal [.list (w.map mtc) .no,j,k,h,.bool ids,.bool true,.bool ex,.I i,.ptr 1 0] [.tok,f]); exact fun a=>by refine(?_:_→Prop) (br (decide (g<1) == false) (br (decide (g>4)) a (R .normal d [.tok,f])) a); exact fun c=>(br ((r.tm != 1) == true) (br ((r.tm != 2) == false) c a) c)→Holds (wpK [] [] (fun _=>0) (b5 [1,1,1,0,1,0,0,1,0,0,1,0] (ag Tryz.f59)) [] (ak [0,1,2,7,8,9,10,11,12] d) [.tok,.cells (rrc r)] (fun ex e H=>R ex (List.map e [0,1,2,7,8,9,10,11,12]) H)):Prop):=fun R h=>hoE h
def sD:LSp:=fun e H Q=>∃(w:List Mt) (b l:List Rr) (r:Rr) (ids sz ex:Bool) (i:Nat),r.pl.length≤1000000∧ah (List.map e [0,1,2,7,8,9,10,11,12]) [.list (w.map mtc) .no,.list (b.map rrc) .no,.list (l.map rrc) .no,.E,.bool ids,.bool sz,.bool ex,.I i,.ptr 0 0]∧av H [.cells (rrc r)]∧Q .normal (ak [0,1,2,7,8,9,10,11,12] [.list (w.map mtc) .no,.list (b.map rrc) .no,.list (l.map rrc) .no,.E,.bool ids,.bool (sz || bZ r),.bool ex,.I i,.ptr 0 0]) [.cells (rrc r)]
theorem zd:∀ e H Q,sD e H Q→AwK Tryz.f59.ntmps (b5 [1,1,1,0,1,0,0,1,0,0,1,0] (ag Tryz.f59)) Q e H:=by
 rintro e H Q ⟨w,b,l,r,ids,sz,ex,i,hrl,he,hH,hQ⟩
 have hH:H=_:=hH
 subst hH
 have he:List.map e [0,1,2,7,8,9,10,11,12]=_:=he
 refine dj (T:=[]) (slots:=[0,1,2,7,8,9,10,11,12]) (outs:=[0,1,2,7,8,9,10,11,12]) (hn:=fun _=>0) (.nil _ _) (.nil _ _ _ _ _) he rfl (Ge w b l ids sz ex r i (fun ex' vs H'=>Q ex' (ak [0,1,2,7,8,9,10,11,12] vs) H') ?_)
 simp only[au,List.length_map]
 have tail:∀ z:Bool,z=(sz || bZ r)→Q .normal (ak [0,1,2,7,8,9,10,11,12] [.list (w.map mtc) .no,.list (b.map rrc) .no,.list (l.map rrc) .no,.E,.bool ids,.bool z,.bool ex,.I i,.ptr 0 0]) [.cells (rrc r)]:=by rintro z rfl; exact hQ
 unfold bZ at tail
 have l3:(decide ((r.pl.length:Int)>4)=true)↔r.pl.length>4:=by rw[decide_eq_true_eq]; omega
 by_cases h1:(r.tm != 1)=true
 ·rw[if_pos (by rw[h1]; rfl)]
  by_cases h2:(r.tm != 2)=false
  ·rw[if_pos (by rw[h2]; rfl)]
   by_cases h3:r.pl.length<1
   ·rw[if_neg (by simp; omega)]; exact tail _ (by rw[decide_eq_true h3]; simp)
   ·rw[if_pos (by simp; omega)]
    by_cases h4:r.pl.length>4
    ·rw[if_pos (l3.2 h4)]; exact tail _ (by rw[decide_eq_true h4]; simp)
    ·rw[if_neg (fun e=>h4 (l3.1 e))]; exact tail _ (by rw[h1,h2,decide_eq_false h3,decide_eq_false h4]; simp)
  ·rw[if_neg (by simpa using h2)]; exact tail _ (by rw[h1,bnf h2]; simp)
 ·rw[if_neg (by simpa using h1)]
  have h1':(r.tm != 1)=false:=by simpa using h1
  by_cases h3:r.pl.length<1
  ·rw[if_neg (by simp; omega)]; exact tail _ (by rw[decide_eq_true h3]; simp)
  ·rw[if_pos (by simp; omega)]
   by_cases h4:r.pl.length>4
   ·rw[if_pos (l3.2 h4)]; exact tail _ (by rw[decide_eq_true h4]; simp)
   ·rw[if_neg (fun e=>h4 (l3.1 e))]; exact tail _ (by rw[h1',decide_eq_false h3,decide_eq_false h4]; simp)
theorem EX:b5 [1,0,0,1,0] (ai [1,1,1,0,1,0] (ag Tryz.f59))=b5 [1,1,1,0,1,0,0,1,0,0,1,0] (ag Tryz.f59):=by kernel_rfl
theorem wB:∀ e H Q,sD e H Q→AwK Tryz.f59.ntmps (b5 [1,0,0,1,0] (ai [1,1,1,0,1,0] (ag Tryz.f59))) Q e H:=by
 rw[EX]; exact zd
def rR:LSp:=fun e H Q=>∃(w:List Mt) (b l:List Rr) (r:Rr) (ids sz ex:Bool) (ps:List Int) (i:Nat),r.pl.length≤1000000∧ah (List.map e [0,1,2,7,8,9,10,11,12]) [.list (w.map mtc) .no,.list (b.map rrc) .no,.list (l.map rrc) .no,.list (ps.map u1) (.tok 0),.bool ids,.bool sz,.bool ex,.I i,.ptr 1 0]∧av H [.tok,.cells (rrc r)]∧Q .normal (ak [0,1,2,7,8,9,10,11,12] [.list (w.map mtc) .no,.list (b.map rrc) .no,.list (l.map rrc) .no,.list (ps.map u1) (.tok 0),.bool ids,.bool (sz || bZ r),.bool ex,.I i,.ptr 1 0]) [.tok,.cells (rrc r)]
theorem zF:∀ e H Q,rR e H Q→AwK Tryz.f59.ntmps (b5 [1,1,1,0,1,0,0,1,0,0,1,0] (ag Tryz.f59)) Q e H:=by
 rintro e H Q ⟨w,b,l,r,ids,sz,ex,ps,i,hrl,he,hH,hQ⟩
 have hH:H=_:=hH
 subst hH
 have he:List.map e [0,1,2,7,8,9,10,11,12]=_:=he
 refine dj (T:=[]) (slots:=[0,1,2,7,8,9,10,11,12]) (outs:=[0,1,2,7,8,9,10,11,12]) (hn:=fun _=>0) (.nil _ _) (.nil _ _ _ _ _) he rfl (GF w b l ids sz ex ps r i (fun ex' vs H'=>Q ex' (ak [0,1,2,7,8,9,10,11,12] vs) H') ?_)
 simp only[au,List.length_map]
 have tail:∀ z:Bool,z=(sz || bZ r)→Q .normal (ak [0,1,2,7,8,9,10,11,12] [.list (w.map mtc) .no,.list (b.map rrc) .no,.list (l.map rrc) .no,.list (ps.map u1) (.tok 0),.bool ids,.bool z,.bool ex,.I i,.ptr 1 0]) [.tok,.cells (rrc r)]:=by rintro z rfl; exact hQ
 unfold bZ at tail
 have l3:(decide ((r.pl.length:Int)>4)=true)↔r.pl.length>4:=by rw[decide_eq_true_eq]; omega
 by_cases h1:(r.tm != 1)=true
 ·rw[if_pos (by rw[h1]; rfl)]
  by_cases h2:(r.tm != 2)=false
  ·rw[if_pos (by rw[h2]; rfl)]
   by_cases h3:r.pl.length<1
   ·rw[if_neg (by simp; omega)]; exact tail _ (by rw[decide_eq_true h3]; simp)
   ·rw[if_pos (by simp; omega)]
    by_cases h4:r.pl.length>4
    ·rw[if_pos (l3.2 h4)]; exact tail _ (by rw[decide_eq_true h4]; simp)
    ·rw[if_neg (fun e=>h4 (l3.1 e))]; exact tail _ (by rw[h1,h2,decide_eq_false h3,decide_eq_false h4]; simp)
  ·rw[if_neg (by simpa using h2)]; exact tail _ (by rw[h1,bnf h2]; simp)
 ·rw[if_neg (by simpa using h1)]
  have h1':(r.tm != 1)=false:=by simpa using h1
  by_cases h3:r.pl.length<1
  ·rw[if_neg (by simp; omega)]; exact tail _ (by rw[decide_eq_true h3]; simp)
  ·rw[if_pos (by simp; omega)]
   by_cases h4:r.pl.length>4
   ·rw[if_pos (l3.2 h4)]; exact tail _ (by rw[decide_eq_true h4]; simp)
   ·rw[if_neg (fun e=>h4 (l3.1 e))]; exact tail _ (by rw[h1',decide_eq_false h3,decide_eq_false h4]; simp)
theorem Fh:b5 [1,0,0,1,0] (ai [1,1,1,0,1,0] (ag Tryz.f59))=b5 [1,1,1,0,1,0,0,1,0,0,1,0] (ag Tryz.f59):=by kernel_rfl
theorem vP:∀ e H Q,rR e H Q→AwK Tryz.f59.ntmps (b5 [1,0,0,1,0] (ai [1,1,1,0,1,0] (ag Tryz.f59))) Q e H:=by
 rw[Fh]; exact zF
theorem x5 (w:List Mt) (b l:List Rr) (ids sz ex:Bool) (i:Nat):(by refine(?_:_→_→_→Prop) (List.getD (l.map rrc) (Int.toNat (i:Int)) []) (PV.list (b.map rrc) .no) (PV.list (l.map rrc) .no); exact fun n q t=>by refine(?_:_→Prop) [PV.list (w.map mtc) .no,q,t,.E,.bool ids,.bool sz,.bool ex,.I i]; exact fun o=>∀(R:Ex→List PV→ae→Prop),(br (decide ((i:Int)<(↑(List.length (l.map rrc)):Int))) (InL (l.map rrc) 4 (i:Int)∧br (true && aD [.int .i64,.list,.int .i64,.int .i64] 0 n) (∃(w_1:List Mt) (b_1:List Rr) (l_1:List Rr) (r:Rr) (ids_1:Bool) (sz_1:Bool) (ex_1:Bool) (i_1:Nat),by refine(?_:_→_→_→_→Prop) [Ob.cells [.I r.tm,.list (r.pl.map u1) .no,.I r.rt,.I r.wd]] (PV.list (w_1.map mtc) .no) (PV.list (b_1.map rrc) .no) (PV.list (l_1.map rrc) .no); exact fun h j k m=>r.pl.length≤1000000∧ah [.list (w.map mtc) .no,q,t,.E,.bool ids,.bool sz,.bool ex,.I i,.ptr 0 0] [j,k,m,.E,.bool ids_1,.bool sz_1,.bool ex_1,.I i_1,.ptr 0 0]∧av [.cells [.I (cI n 0),.list (cL n 1) (cT n 1),.I (cI n 2),.I (cI n 3)]] h∧∃(w:List Mt) (b:List Rr) (l:List Rr) (r_1:Rr) (s:WS) (sz:Bool) (i:Nat),by refine(?_:_→_→_→_→_→Prop) (Ob.cells [.I r_1.tm,.list (r_1.pl.map u1) .no,.I r_1.rt,.I r_1.wd]) (PV.list (w.map mtc) .no) (PV.list (b.map rrc) .no) (PV.list (l.map rrc) .no) (PV.I (wI ((i:Int)+1))); exact fun a c d f g=>SmM w∧(∀(p:Int),p∈r_1.pl→0≤p)∧r_1.pl.length≤1000000∧s.ps.length+r_1.pl.length≤1000000∧s.ps=[]∧ah [j,k,m,.E,.bool ids_1,.bool (sz_1 || bZ r),.bool ex_1,.I i_1,.ptr 0 0,.I 0] [c,d,f,.E,.bool s.ids,.bool sz,.bool s.ex,.I i,.ptr 0 0,.I 0]∧av h [a]∧(r_1.pl=[]→R .normal [c,d,f,.E,.bool s.ids,.bool sz,.bool s.ex,g] [a])∧(r_1.pl≠[]→R .normal [c,d,f,.list (List.map u1 (WS.ps (wsP w s r_1.pl))) (.tok 1),.bool (WS.ids (wsP w s r_1.pl)),.bool sz,.bool (WS.ex (wsP w s r_1.pl)),g] [a,.tok])) False) (R (.exit 0) o []))→Holds (wpK TWF [([1,0,0,1,1,1,0],sy),([1,0,0,1,0],sD)] (fun _=>0) (ai [1,1,1,0,1,0] (ag Tryz.f59)) [] (ak [0,1,2,7,8,9,10,11] o) [] (fun ex e H=>R ex (List.map e [0,1,2,7,8,9,10,11]) H)):Prop):=fun R h=>hoE h
theorem w8 (w:List Mt) (b l:List Rr) (ids sz ex:Bool) (ps:List Int) (i:Nat):(by refine(?_:_→_→_→_→Prop) (List.getD (l.map rrc) (Int.toNat (i:Int)) []) (PV.list (ps.map u1) (.tok 0)) (PV.list (b.map rrc) .no) (PV.list (l.map rrc) .no); exact fun q u v x=>by refine(?_:_→Prop) [PV.list (w.map mtc) .no,v,x,u,.bool ids,.bool sz,.bool ex,.I i]; exact fun t=>∀(R:Ex→List PV→ae→Prop),(br (decide ((i:Int)<(↑(List.length (l.map rrc)):Int))) (InL (l.map rrc) 4 (i:Int)∧br (true && aD [.int .i64,.list,.int .i64,.int .i64] 0 q) (∃(w_1:List Mt) (b_1:List Rr) (l_1:List Rr) (r:Rr) (ids_1:Bool) (sz_1:Bool) (ex_1:Bool) (ps_1:List Int) (i_1:Nat),by refine(?_:_→_→_→_→_→Prop) (Ob.cells [.I r.tm,.list (r.pl.map u1) .no,.I r.rt,.I r.wd]) (PV.list (ps_1.map u1) (.tok 0)) (PV.list (w_1.map mtc) .no) (PV.list (b_1.map rrc) .no) (PV.list (l_1.map rrc) .no); exact fun j k m n o=>r.pl.length≤1000000∧ah [.list (w.map mtc) .no,v,x,u,.bool ids,.bool sz,.bool ex,.I i,.ptr 1 0] [m,n,o,k,.bool ids_1,.bool sz_1,.bool ex_1,.I i_1,.ptr 1 0]∧av [.tok,.cells [.I (cI q 0),.list (cL q 1) (cT q 1),.I (cI q 2),.I (cI q 3)]] [.tok,j]∧∃(w:List Mt) (b:List Rr) (l:List Rr) (r_1:Rr) (s:WS) (sz:Bool) (i:Nat),by refine(?_:_→_→_→_→_→_→Prop) (Ob.cells [.I r_1.tm,.list (r_1.pl.map u1) .no,.I r_1.rt,.I r_1.wd]) (PV.list (w.map mtc) .no) (PV.list (b.map rrc) .no) (PV.list (l.map rrc) .no) (PV.I (wI ((i:Int)+1))) (PV.list (s.ps.map u1) (.tok 0)); exact fun a c d f g h=>SmM w∧(∀(p:Int),p∈r_1.pl→0≤p)∧r_1.pl.length≤1000000∧s.ps.length+r_1.pl.length≤1000000∧ah [m,n,o,k,.bool ids_1,.bool (sz_1 || bZ r),.bool ex_1,.I i_1,.ptr 1 0,.I 0] [c,d,f,h,.bool s.ids,.bool sz,.bool s.ex,.I i,.ptr 1 0,.I 0]∧av [.tok,j] [.tok,a]∧(r_1.pl=[]→R .normal [c,d,f,h,.bool s.ids,.bool sz,.bool s.ex,g] [.tok,a])∧(r_1.pl≠[]→R .normal [c,d,f,.list (List.map u1 (WS.ps (wsP w s r_1.pl))) (.tok 2),.bool (WS.ids (wsP w s r_1.pl)),.bool sz,.bool (WS.ex (wsP w s r_1.pl)),g] [.dead,a,.tok])) False) (R (.exit 0) t [.tok]))→Holds (wpK TWF [([1,0,0,1,1,1,0],rS),([1,0,0,1,0],rR)] (fun _=>0) (ai [1,1,1,0,1,0] (ag Tryz.f59)) [] (ak [0,1,2,7,8,9,10,11] t) [.tok] (fun ex e H=>R ex (List.map e [0,1,2,7,8,9,10,11]) H)):Prop):=fun R h=>hoE h
theorem jY {ρ:Nat→Nat} {n:Nat} {w:List Mt} {b l:List Rr} {ids sz ex:Bool} {z:Int} {T T':PV} (hT:Ren ρ n T T'):aW ρ n [.list (w.map mtc) .no,.list (b.map rrc) .no,.list (l.map rrc) .no,T,.bool ids,.bool sz,.bool ex,.I z] [.list (w.map mtc) .no,.list (b.map rrc) .no,.list (l.map rrc) .no,T',.bool ids,.bool sz,.bool ex,.I z]:=by
 exact .cons (.low (bB _)) (.cons (.low (aR _)) (.cons (.low (aR _)) (.cons hT (.cons (.low (.bool _)) (.cons (.low (.bool _)) (.cons (.low (.bool _)) (.cons (.low (.int _ _)) .nil)))))))
theorem MQ:LOk Tryz.prog gl Tryz.f59.ntmps (ai [1,1,1,0,1,0] (ag Tryz.f59)) [] [([1,0,0,1,1,1,0],sy),([1,0,0,1,0],sD)]:=(.cons suE u7 (.cons atE wB (.nil _ _ _ _ _)))
theorem Ng:LOk Tryz.prog gl Tryz.f59.ntmps (ai [1,1,1,0,1,0] (ag Tryz.f59)) [] [([1,0,0,1,1,1,0],rS),([1,0,0,1,0],rR)]:=(.cons suE ww (.cons atE vP (.nil _ _ _ _ _)))
def Ji:LSp:=fun e H Q=>∃(w:List Mt) (b l:List Rr) (sz:Bool),SmM w∧(∀ r∈l,∀ p∈r.pl,0≤p)∧l.length≤1000000∧tot l≤1000000∧ah (List.map e [0,1,2,7,8,9,10,11]) [.list (w.map mtc) .no,.list (b.map rrc) .no,.list (l.map rrc) .no,.E,.bool false,.bool sz,.bool false,.I 0]∧av H []∧Q (.exit 0) (ak [0,1,2,7,8,9,10,11] [.list (w.map mtc) .no,.list (b.map rrc) .no,.list (l.map rrc) .no,.any,.bool (wsR w ws0 l).ids,.bool (sz || l.any bZ),.bool (wsR w ws0 l).ex,.I l.length]) []
set_option maxRecDepth 10000 in
theorem Cs:∀ e H Q,Ji e H Q→AwK Tryz.f59.ntmps (.loop (ai [1,1,1,0,1,0] (ag Tryz.f59))) Q e H:=by
 rintro e H Q ⟨w,b,l,sz,sw,h0p,hl,ht,he,hH,hQ⟩
 have hH:H=_:=hH
 have he:List.map e [0,1,2,7,8,9,10,11]=_:=he
 have hHl:H.length=0:=by rw[hH]; rfl
 have hpl:∀ r∈l,r.pl.length≤1000000:=fun r hr=>Nat.le_trans (vq hr) ht
 refine uV (σ:=Nat) aj [0,1,2,7,8,9,10,11] (fun i=>i≤l.length) (fun i=>if(wsR w ws0 (l.take i)).ps=[] then [.list (w.map mtc) .no,.list (b.map rrc) .no,.list (l.map rrc) .no,.E,.bool (wsR w ws0 (l.take i)).ids,.bool (sz || (l.take i).any bZ),.bool (wsR w ws0 (l.take i)).ex,.I i] else [.list (w.map mtc) .no,.list (b.map rrc) .no,.list (l.map rrc) .no,.list ((wsR w ws0 (l.take i)).ps.map u1) (.tok 0),.bool (wsR w ws0 (l.take i)).ids,.bool (sz || (l.take i).any bZ),.bool (wsR w ws0 (l.take i)).ex,.I i]) (fun i=>if(wsR w ws0 (l.take i)).ps=[] then [] else [.tok]) (fun i=>l.length-i) 0 (Nat.zero_le _) (by rw[he,List.take_zero,if_pos (show(wsR w ws0 []).ps=[] from rfl)]; simp[wsR,ws0]) (by rw[hH,List.take_zero,if_pos (show(wsR w ws0 []).ps=[] from rfl)]) ?_
 rw[hHl]
 intro i hi
 have hi:i≤l.length:=hi
 by_cases h:i<l.length
 ·obtain⟨r,hr⟩:∃ r,r=l.getD i default:=⟨_,rfl⟩
  have hsucc:=uG w ws0 h
  have hany:=tT h
  rw[← hr] at hsucc hany
  have hrl:r.pl.length≤1000000:=hpl r (by rw[hr]; exact aY h)
  have hsl:(wsR w ws0 (l.take i)).ps.length+r.pl.length≤1000000:=by
   have h1:=sU w (l.take (i+1)) ws0
   have h2:=fW (l:=l) (i+1)
   rw[hsucc,fc,List.length_append] at h1
   have:ws0.ps.length=0:=rfl
   omega
  have inl:InL (l.map rrc) 4 (i:Int):=by rw[ee]; exact h
  have hps:=fc w r.pl (wsR w ws0 (l.take i))
  have tailE:r.pl=[]→wsP w (wsR w ws0 (l.take i)) r.pl=wsR w ws0 (l.take i):=fun e=>by rw[e]; rfl
  have hor:(sz || (l.take (i+1)).any bZ)=((sz || (l.take i).any bZ) || bZ r):=by rw[hany,Bool.or_assoc]
  by_cases h0:(wsR w ws0 (l.take i)).ps=[]
  ·simp only[if_pos h0]
   refine aZ (hn:=fun _=>0) kH (ai [1,1,1,0,1,0] (ag Tryz.f59)) [] MQ _ _ _ (x5 w b l (wsR w ws0 (l.take i)).ids (sz || (l.take i).any bZ) (wsR w ws0 (l.take i)).ex i _ ?_).out
   simp only[au,dt,an,List.length_map,getD_map default h,← hr]
   rw[if_pos (by omega)]
   refine⟨inl,?_⟩
   rw[if_pos (by rfl)]
   refine⟨w,b,l,r,_,_,_,i,hrl,rfl,rfl,w,b,l,r,wsR w ws0 (l.take i),(sz || (l.take i).any bZ || bZ r),i,sw,h0p r (by rw[hr]; exact aY h),hrl,hsl,h0,rfl,rfl,fun hn=>?_,fun hn=>?_⟩
   ·have e2:(wsR w ws0 (l.take (i+1))).ps=[]:=by rw[hsucc,tailE hn]; exact h0
    refine⟨i+1,(show l.length-(i+1)<l.length-i by omega),h,?_⟩
    simp only[if_pos e2]
    rw[hor,hsucc,tailE hn,ar h (by omega)]
    exact aT [] (WkL.refl _) .nil (by decide) (by simp) (fun o ho=>absurd ho (Nat.not_lt_zero _)) (jY (.low (aH NT.exact (by simp))))
   ·have e2:(wsR w ws0 (l.take (i+1))).ps≠[]:=by rw[hsucc,hps,h0]; simpa using hn
    refine⟨i+1,(show l.length-(i+1)<l.length-i by omega),h,?_⟩
    simp only[if_neg e2]
    rw[hor,hsucc,ar h (by omega)]
    exact aT [1] (WkL.refl _) (.cons rfl .tok .nil) (by decide) (by simp) (fun o ho=>absurd ho (Nat.not_lt_zero _)) (jY (.ltok (ρ:=fun o=>[1].getD o 0) _ 0 (by simp) (bp fun a _=>bO a)))
  ·simp only[if_neg h0]
   refine aZ (hn:=fun _=>0) kH (ai [1,1,1,0,1,0] (ag Tryz.f59)) [] Ng _ _ _ (w8 w b l (wsR w ws0 (l.take i)).ids (sz || (l.take i).any bZ) (wsR w ws0 (l.take i)).ex (wsR w ws0 (l.take i)).ps i _ ?_).out
   simp only[au,dt,an,List.length_map,getD_map default h,← hr]
   rw[if_pos (by omega)]
   refine⟨inl,?_⟩
   rw[if_pos (by rfl)]
   refine⟨w,b,l,r,_,_,_,_,i,hrl,rfl,rfl,w,b,l,r,wsR w ws0 (l.take i),(sz || (l.take i).any bZ || bZ r),i,sw,h0p r (by rw[hr]; exact aY h),hrl,hsl,rfl,rfl,fun hn=>?_,fun hn=>?_⟩
   ·have e2:(wsR w ws0 (l.take (i+1))).ps≠[]:=by rw[hsucc,tailE hn]; exact h0
    refine⟨i+1,(show l.length-(i+1)<l.length-i by omega),h,?_⟩
    simp only[if_neg e2]
    rw[hor,hsucc,tailE hn,ar h (by omega)]
    exact aT [0] (WkL.refl _) (.cons rfl .tok .nil) (by decide) (by simp) (fun o ho=>absurd ho (Nat.not_lt_zero _)) (jY (.ltok (ρ:=fun o=>[0].getD o 0) _ 0 (by simp) (bp fun a _=>bO a)))
   ·have e2:(wsR w ws0 (l.take (i+1))).ps≠[]:=by rw[hsucc,hps]; exact fun e=>h0 (List.append_eq_nil_iff.1 e).1
    refine⟨i+1,(show l.length-(i+1)<l.length-i by omega),h,?_⟩
    simp only[if_neg e2]
    rw[hor,hsucc,ar h (by omega)]
    exact aT [2] (WkL.refl _) (.cons rfl .tok .nil) (by decide) (by simp) (fun o ho=>absurd ho (Nat.not_lt_zero _)) (jY (.ltok (ρ:=fun o=>[2].getD o 0) _ 0 (by simp) (bp fun a _=>bO a)))
 ·have hil:i=l.length:=by omega
  subst hil
  have wk:∀(x:PV) (ids sz ex:Bool),WkL [.list (w.map mtc) .no,.list (b.map rrc) .no,.list (l.map rrc) .no,x,.bool ids,.bool sz,.bool ex,.I l.length] [.list (w.map mtc) .no,.list (b.map rrc) .no,.list (l.map rrc) .no,.any,.bool ids,.bool sz,.bool ex,.I l.length]:=fun x ids sz ex=> .cons (.refl _) (.cons (.refl _) (.cons (.refl _) (.cons (fun _ _ v _=> .any v) (.cons (.refl _) (.cons (.refl _) (.cons (.refl _) (.cons (.refl _) .nil)))))))
  by_cases h0:(wsR w ws0 (l.take l.length)).ps=[]
  ·simp only[if_pos h0]
   refine aZ (hn:=fun _=>0) kH (ai [1,1,1,0,1,0] (ag Tryz.f59)) [] MQ _ _ _ (x5 w b l _ _ _ l.length _ ?_).out
   simp only[au,dt,List.length_map]
   rw[if_neg (by omega)]
   refine⟨_,_,aT [] (wk _ _ _ _) .nil (by decide) (by simp) (fun o ho=>absurd ho (Nat.not_lt_zero _)) (jY (.low .any)),?_⟩
   rw[List.take_length]
   exact hQ
  ·simp only[if_neg h0]
   refine aZ (hn:=fun _=>0) kH (ai [1,1,1,0,1,0] (ag Tryz.f59)) [] Ng _ _ _ (w8 w b l _ _ _ _ l.length _ ?_).out
   simp only[au,dt,List.length_map]
   rw[if_neg (by omega)]
   refine⟨_,_,aT [] (wk _ _ _ _) .nil (by decide) (by simp) (fun o ho=>absurd ho (Nat.not_lt_zero _)) (jY (.low .any)),?_⟩
   rw[List.take_length]
   exact hQ
end Go.Proofs.YtenaelaapdhbdaaGreatDoor
