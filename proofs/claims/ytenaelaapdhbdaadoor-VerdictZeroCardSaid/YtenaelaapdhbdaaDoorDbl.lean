/-
  A world opened: rows.
-/
import Derived.Test.YtenaelaapdhbdaaDoorDbk
import Derived.Test.YtenaelaapdhbdaaDoorProg
namespace Go.Proofs.YtenaelaapdhbdaaDoor
open Go Go.AM Go.Proofs
theorem J5 (d:Wd) (ra r:List RwI) (w:List Mt) (at_ i k:Nat):(by refine(?_:_→_→_→_→_→Prop) (Ob.cells [.list [] .exact,.int .i64 0]) (List.getD (d.rows.map lcs) (Int.toNat (i:Int)) []) (Ob.cells [.list (r.map csI) .no,.int .i64 40]) (Ob.abs (rkM (ar w) 6)) (PV.list (w.map mtc) .no); exact fun m n o p q=>by refine(?_:_→_→Prop) [Ob.cells [.list (d.ra.map prC) .no,.list (d.rows.map lcs) .no,.list (d.st.map i1) .no],m,.abs (rkI ra 40),p,.cells [.ptr 3 0],o,.dead] [PV.ptr 0 0,.ptr 1 0,.ptr 2 0,.ptr 4 0,.ptr 5 0,q,.int .i64 at_,.int .i64 i,.int .i64 k]; exact fun j l=>∀(R:Ex→List PV→ae→Prop),(InL (d.rows.map lcs) 1 (i:Int)∧br (true && aP [.list] 0 n) (br (decide ((k:Int)<(↑(List.length (cL n 0)):Int))) (∃(d_1:Wd) (ra_1:List RwI) (r_1:List RwI) (x:List Mt×Nat) (i_1:Nat) (k_1:Nat),by refine(?_:_→_→_→_→Prop) (Ob.cells [.list (d_1.ra.map prC) .no,.list (d_1.rows.map lcs) .no,.list (d_1.st.map i1) .no]) (Ob.cells [.list (r_1.map csI) .no,.int .i64 40]) (List.getD d_1.rows i_1 []) (Ob.abs (rkI ra_1 40)); exact fun b c f h=>by refine(?_:_→Prop) (Rr.pl (List.getD f k_1 default)); exact fun a=>by refine(?_:_→Prop) (Prod.fst (vsP d_1.st x a)); exact fun g=>i_1<d_1.rows.length∧k_1<List.length f∧List.length a≤1000000∧d_1.st.length≤1000000∧MO (Prod.fst x) 6∧Prod.snd x≤d_1.st.length∧ak [.ptr 0 0,.ptr 1 0,.ptr 2 0,.ptr 4 0,.ptr 5 0,q,.int .i64 at_,.int .i64 i,.int .i64 k,.int .i64 0] [.ptr 0 0,.ptr 1 0,.ptr 2 0,.ptr 4 0,.ptr 5 0,.list (List.map mtc (Prod.fst x)) .no,.int .i64 (↑(Prod.snd x):Int),.int .i64 i_1,.int .i64 k_1,.int .i64 0]∧az j [b,m,h,.abs (rkM (ar (Prod.fst x)) 6),.cells [.ptr 3 0],c,.dead]∧∀(_:Nat),R .normal [.ptr 0 0,.ptr 1 0,.ptr 2 0,.ptr 4 0,.ptr 5 0,.list (List.map mtc g) .no,.int .i64 (↑(Prod.snd (vsP d_1.st x a)):Int),.int .i64 i_1,.int .i64 (wI ((k_1:Int)+1))] [b,m,h,.abs (rkM (ar g) 6),.cells [.ptr 3 0],c,.dead]) (R (.exit 6) l j)) False)→Holds (wpc br Tryd.prog gl TOP [([1,0,0,1,0],D2)] (fun _=>0) (an [1,1,1,1,1,1,0,1,0,0,1,0,0,1,1,1,1,1,0] (ai Tryd.f6)) [] (av [1,4,6,7,8,9,11,12,16] l) [.cells (wdC d),m,.abs (rkI ra 40),p,.cells [.ptr 3 0],o,.dead] (fun ex e H=>R ex (List.map e [1,4,6,7,8,9,11,12,16]) H)):Prop):=fun R h=>ag (by kernel_rfl) h
theorem FY (d:Wd) (ra r:List RwI) (w:List Mt) (at_ i k:Nat):(by refine(?_:_→_→_→_→_→_→Prop) (List.getD (d.rows.map lcs) (Int.toNat (i:Int)) []) (Ob.cells [.list (r.map csI) .no,.int .i64 40]) (Ob.cells [.list (d.ra.map prC) .no,.list (d.rows.map lcs) .no,.list (d.st.map i1) .no]) (Ob.cells [.list [] .exact,.int .i64 0]) (Ob.abs (rkM (ar w) 6)) (PV.list (w.map mtc) .no); exact fun b g h j l s=>by refine(?_:_→_→_→Prop) (List.getD (cL b 0) (Int.toNat (k:Int)) []) [PV.ptr 0 0,.ptr 1 0,.ptr 2 0,.ptr 4 0,.ptr 5 0,s,.int .i64 at_,.int .i64 i,.list [] .exact,.int .i64 k] (true && aP [.list] 0 b); exact fun a f p=>by refine(?_:_→_→_→_→Prop) (PV.int .i64 (cI a 2)) (PV.int .i64 (cI a 3)) (PV.list ([]++cL a 1) .no) (PV.int .i64 (cI a 0)); exact fun m n q t=>by refine(?_:_→Prop) [[PV.int .i64 (cI a 0),q,m,n]]; exact fun c=>∀(R:Ex→List PV→ae→Prop),(InL (d.rows.map lcs) 1 (i:Int)∧br p (br (decide ((k:Int)<(↑(List.length (cL b 0)):Int))) (InL (d.rows.map lcs) 1 (i:Int)∧br p (InL (cL b 0) 4 (k:Int)∧br (true && aP [.int .i64,.list,.int .i64,.int .i64] 0 a) (aX [] (cL a 1) 1 4∧aX [] c 4 48∧(List.all [t,q,m,n] PV.one=true∧c≠[])∧R .normal [.ptr 0 0,.ptr 1 0,.ptr 2 0,.ptr 4 0,.ptr 5 0,s,.int .i64 at_,.int .i64 i,.list c (.tok 7),.int .i64 (wI ((k:Int)+1))] [h,j,.abs (rkI ra 40),l,.cells [.ptr 3 0],g,.cells [t,.list (cL a 1) (cT a 1),m,n],.tok]) False) False) (R (.exit 4) f [h,j,.abs (rkI ra 40),l,.cells [.ptr 3 0],g])) False)→Holds (wpc br Tryd.prog gl TOP [] (fun o=>match o.dst with|some 90=>0|some 97=>1|_=>0) (an [1,1,1,1,1,1,0,1,0,0,1,0,0,1,0,1,0] (ai Tryd.f6)) [] (av [1,4,6,7,8,9,11,12,13,14] f) [.cells (wdC d),j,.abs (rkI ra 40),l,.cells [.ptr 3 0],g] (fun ex e H=>R ex (List.map e [1,4,6,7,8,9,11,12,13,14]) H)):Prop):=fun R h=>ag (by kernel_rfl) h
theorem GL (d:Wd) (ra r:List RwI) (w:List Mt) (b:List Rr) (at_ i k:Nat):(by refine(?_:_→_→_→_→_→_→Prop) (List.getD (d.rows.map lcs) (Int.toNat (i:Int)) []) (Ob.cells [.list (r.map csI) .no,.int .i64 40]) (Ob.cells [.list (d.ra.map prC) .no,.list (d.rows.map lcs) .no,.list (d.st.map i1) .no]) (Ob.cells [.list [] .exact,.int .i64 0]) (Ob.abs (rkM (ar w) 6)) (PV.list (w.map mtc) .no); exact fun c h j l m t=>by refine(?_:_→_→_→Prop) (List.getD (cL c 0) (Int.toNat (k:Int)) []) [PV.ptr 0 0,.ptr 1 0,.ptr 2 0,.ptr 4 0,.ptr 5 0,t,.int .i64 at_,.int .i64 i,.list (b.map rrc) (.tok 6),.int .i64 k] (true && aP [.list] 0 c); exact fun a g q=>by refine(?_:_→_→_→_→Prop) (PV.int .i64 (cI a 2)) (PV.int .i64 (cI a 3)) (PV.list ([]++cL a 1) .no) (PV.int .i64 (cI a 0)); exact fun n p s u=>by refine(?_:_→Prop) [[PV.int .i64 (cI a 0),s,n,p]]; exact fun f=>∀(R:Ex→List PV→ae→Prop),(InL (d.rows.map lcs) 1 (i:Int)∧br q (br (decide ((k:Int)<(↑(List.length (cL c 0)):Int))) (InL (d.rows.map lcs) 1 (i:Int)∧br q (InL (cL c 0) 4 (k:Int)∧br (true && aP [.int .i64,.list,.int .i64,.int .i64] 0 a) (aX [] (cL a 1) 1 4∧aX (b.map rrc) f 4 48∧(List.all [u,s,n,p] PV.one=true∧f≠[])∧R .normal [.ptr 0 0,.ptr 1 0,.ptr 2 0,.ptr 4 0,.ptr 5 0,t,.int .i64 at_,.int .i64 i,.list (b.map rrc++f) (.tok 8),.int .i64 (wI ((k:Int)+1))] [j,l,.abs (rkI ra 40),m,.cells [.ptr 3 0],h,.dead,.cells [u,.list (cL a 1) (cT a 1),n,p],.tok]) False) False) (R (.exit 4) g [j,l,.abs (rkI ra 40),m,.cells [.ptr 3 0],h,.tok])) False)→Holds (wpc br Tryd.prog gl TOP [] (fun o=>match o.dst with|some 90=>0|some 97=>1|_=>0) (an [1,1,1,1,1,1,0,1,0,0,1,0,0,1,0,1,0] (ai Tryd.f6)) [] (av [1,4,6,7,8,9,11,12,13,14] g) [.cells (wdC d),l,.abs (rkI ra 40),m,.cells [.ptr 3 0],h,.tok] (fun ex e H=>R ex (List.map e [1,4,6,7,8,9,11,12,13,14]) H)):Prop):=fun R h=>ag (by kernel_rfl) h
theorem tF {n:Nat}:Low n (.list [] .exact):=aI NT.exact (by simp)
theorem vy {d:Wd} {ra r:List RwI} {w:List Mt}:∀(o:Nat) cs,([.cells (wdC d),.cells [.list [] .exact,.int .i64 0],.abs (rkI ra 40),.abs (rkM (ar w) 6),.cells [.ptr 3 0],.cells [.list (r.map csI) .no,.int .i64 40]]:ae)[o]?=some (.cells cs)→∀ x∈cs,Low 6 x:=by
 intro o cs ho
 have k1:=(List.getElem?_eq_some_iff.1 ho).1
 simp at k1
 have:o=0∨o=1∨o=2∨o=3∨o=4∨o=5:=by omega
 rcases this with rfl|rfl|rfl|rfl|rfl|rfl<;>cases ho
 ·exact nr d
 ·exact bF tF (.int _ _)
 ·exact bw (.ptr _ _ (by decide))
 ·exact bF (bD iM _) (.int _ _)
theorem GG {w:List Mt} {at_ i k:Int} {T:PV} (hT:Low 6 T):∀ v∈[.ptr 0 0,.ptr 1 0,.ptr 2 0,.ptr 4 0,.ptr 5 0,.list (w.map mtc) .no,.int .i64 at_,.int .i64 i,T,.int .i64 k],Low 6 v:=by
 intro v hv
 simp only[List.mem_cons,List.not_mem_nil,or_false] at hv
 rcases hv with rfl|rfl|rfl|rfl|rfl|rfl|rfl|rfl|rfl|rfl
 ·exact .ptr _ _ (by decide)
 ·exact .ptr _ _ (by decide)
 ·exact .ptr _ _ (by decide)
 ·exact .ptr _ _ (by decide)
 ·exact .ptr _ _ (by decide)
 ·exact bY w
 ·exact .int _ _
 ·exact .int _ _
 ·exact hT
 ·exact .int _ _
theorem AO {a b c d e f g i T T' k:PV} (h:Wk T T'):WkL [a,b,c,d,e,f,g,i,T,k] [a,b,c,d,e,f,g,i,T',k]:= .cons (.refl _) (.cons (.refl _) (.cons (.refl _) (.cons (.refl _) (.cons (.refl _) (.cons (.refl _) (.cons (.refl _) (.cons (.refl _) (.cons h (.cons (.refl _) .nil)))))))))
def Bm:LSp:=fun e H Q=>∃(d:Wd) (ra r:List RwI) (w:List Mt) (at_ i:Nat),i<d.rows.length∧smR (d.rows.getD i [])∧ak (List.map e [1,4,6,7,8,9,11,12,13,14]) [.ptr 0 0,.ptr 1 0,.ptr 2 0,.ptr 4 0,.ptr 5 0,.list (w.map mtc) .no,.int .i64 at_,.int .i64 i,.list [] .exact,.int .i64 0]∧az H [.cells (wdC d),.cells [.list [] .exact,.int .i64 0],.abs (rkI ra 40),.abs (rkM (ar w) 6),.cells [.ptr 3 0],.cells [.list (r.map csI) .no,.int .i64 40]]∧Q (.exit 4) (av [1,4,6,7,8,9,11,12,13,14] [.ptr 0 0,.ptr 1 0,.ptr 2 0,.ptr 4 0,.ptr 5 0,.list (w.map mtc) .no,.int .i64 at_,.int .i64 i,.list ((d.rows.getD i []).map rrc) .no,.int .i64 (d.rows.getD i []).length]) [.cells (wdC d),.cells [.list [] .exact,.int .i64 0],.abs (rkI ra 40),.abs (rkM (ar w) 6),.cells [.ptr 3 0],.cells [.list (r.map csI) .no,.int .i64 40],.dead]
set_option maxRecDepth 10000 in
theorem zX:∀ e H Q,Bm e H Q→AW Tryd.prog gl Tryd.f6.ntmps (.loop (an [1,1,1,1,1,1,0,1,0,0,1,0,0,1,0,1,0] (ai Tryd.f6))) Q e H:=by
 rintro e H Q ⟨d,ra,r,w,at_,i,hi,sm,he,hH,hQ⟩
 have hH:H=_:=hH
 obtain⟨l,hl⟩:∃ l,l=d.rows.getD i []:=⟨_,rfl⟩
 rw[← hl] at sm hQ
 have hll:=sm.1
 have inl:InL (d.rows.map lcs) 1 (i:Int):=by rw[ct]; exact hi
 have c0:cL (lcs l) 0=l.map rrc:=rfl
 refine gT (f:=rrc) (acc:=fun k=>l.take k) (I:=fun k=>k≤l.length) (m:=fun k=>l.length-k) aq [1,4,6,7,8,9,11,12,13,14] (fun T k=>[.ptr 0 0,.ptr 1 0,.ptr 2 0,.ptr 4 0,.ptr 5 0,.list (w.map mtc) .no,.int .i64 at_,.int .i64 i,T,.int .i64 k]) [.cells (wdC d),.cells [.list [] .exact,.int .i64 0],.abs (rkI ra 40),.abs (rkM (ar w) 6),.cells [.ptr 3 0],.cells [.list (r.map csI) .no,.int .i64 40]] (0:Nat)
  vy (fun _ _ a _=>bG a) (fun es k j _ h=> .same (.ptr _ _ (by simp)) (.same (.ptr _ _ (by simp)) (.same (.ptr _ _ (by simp)) (.same (.ptr _ _ (by simp)) (.same (.ptr _ _ (by simp)) (.same (bY w) (.same (.int _ _) (.same (.int _ _) (.row h (.same (.int _ _) .nil)))))))))) (fun k _=>GG tF) (Nat.zero_le _) rfl he hH ?_ ?_
 ·intro k hk ha
  have hk':k≤l.length:=hk
  have ha:l.take k=[]:=ha
  refine aY jF (an [1,1,1,1,1,1,0,1,0,0,1,0,0,1,0,1,0] (ai Tryd.f6)) [] (.nil _ _ _ _ _) _ _ _ (FY d ra r w at_ i k _ ?_).out
  simp only[ay,dt,au,getD_map [] hi,← hl,c0,List.length_map]
  refine⟨inl,?_⟩
  rw[if_pos (by rfl)]
  by_cases h:k<l.length
  ·rw[if_pos (by omega)]
   obtain⟨s,hs⟩:∃ s,s=l.getD k default:=⟨_,rfl⟩
   have hsucc:l.take (k+1)=l.take k++[s]:=by rw[aZ default h,hs]
   have inl2:InL (l.map rrc) 4 (k:Int):=by rw[dF]; exact h
   have hsl:s.pl.length≤100:=sm.2 s (by rw[hs]; exact bj h)
   have r0:cI (rrc s) 0=s.tm:=rfl
   have r1:cL (rrc s) 1=s.pl.map u1:=rfl
   have r2:cI (rrc s) 2=s.rt:=rfl
   have r3:cI (rrc s) 3=s.wd:=rfl
   refine⟨inl,?_⟩
   rw[if_pos (by rfl)]
   refine⟨inl2,?_⟩
   simp only[getD_map default h,← hs]
   rw[if_pos (by rfl)]
   refine⟨⟨fun _ h=>(nomatch h),b9 dN s.pl,by show(0+(s.pl.map u1).length)*4≤_; rw[List.length_map]; omega⟩,aL (l:=[]) (by_:=48) fb s (by show(0+1)*48≤_; decide),one_row rp s,?_⟩
   exact bf (k+1) (show l.length-(k+1)<l.length-k by omega) h (hsucc.trans (by rw[ha])) (by simp) [_,.tok] 7 rfl rfl (by simp) (by(try dsimp only); rw[ax h (by omega)]; rfl)
  ·rw[if_neg (by omega)]
   have:k=l.length:=by omega
   subst this
   rw[List.take_length] at ha
   have hn:l=[]:=ha
   rw[hn] at hQ ⊢
   exact cj (AO (.list _ _)) (fu _) hQ
 ·intro k hk ha
  have hk':k≤l.length:=hk
  have ha:l.take k≠[]:=ha
  have hbl:(l.take k).length≤100:=by rw[List.length_take]; omega
  refine aY jF (an [1,1,1,1,1,1,0,1,0,0,1,0,0,1,0,1,0] (ai Tryd.f6)) [] (.nil _ _ _ _ _) _ _ _ (GL d ra r w (l.take k) at_ i k _ ?_).out
  simp only[ay,dt,au,getD_map [] hi,← hl,c0,List.length_map]
  refine⟨inl,?_⟩
  rw[if_pos (by rfl)]
  by_cases h:k<l.length
  ·rw[if_pos (by omega)]
   obtain⟨s,hs⟩:∃ s,s=l.getD k default:=⟨_,rfl⟩
   have hsucc:l.take (k+1)=l.take k++[s]:=by rw[aZ default h,hs]
   have inl2:InL (l.map rrc) 4 (k:Int):=by rw[dF]; exact h
   have hsl:s.pl.length≤100:=sm.2 s (by rw[hs]; exact bj h)
   have r0:cI (rrc s) 0=s.tm:=rfl
   have r1:cL (rrc s) 1=s.pl.map u1:=rfl
   have r2:cI (rrc s) 2=s.rt:=rfl
   have r3:cI (rrc s) 3=s.wd:=rfl
   refine⟨inl,?_⟩
   rw[if_pos (by rfl)]
   refine⟨inl2,?_⟩
   simp only[getD_map default h,← hs]
   rw[if_pos (by rfl)]
   refine⟨⟨fun _ h=>(nomatch h),b9 dN s.pl,by show(0+(s.pl.map u1).length)*4≤_; rw[List.length_map]; omega⟩,aL (by_:=48) fb (l.take k) s (by omega),one_row rp s,?_⟩
   exact bf (k+1) (show l.length-(k+1)<l.length-k by omega) h hsucc (by simp) [.dead,_,.tok] 8 rfl rfl (by simp) (by(try dsimp only); rw[ax h (by omega),List.map_append]; rfl)
  ·rw[if_neg (by omega)]
   have:k=l.length:=by omega
   subst this
   rw[List.take_length]
   exact cj (AO (.list _ _)) (gk [.cells (wdC d),.cells [.list [] .exact,.int .i64 0],.abs (rkI ra 40),.abs (rkM (ar w) 6),.cells [.ptr 3 0],.cells [.list (r.map csI) .no,.int .i64 40]] .tok) hQ
def zx:LSp:=fun e H Q=>∃(d:Wd) (ra r:List RwI) (x:List Mt×Nat) (i:Nat),i<d.rows.length∧smR (d.rows.getD i [])∧d.st.length≤1000000∧MO x.1 6∧x.2≤d.st.length∧ak (List.map e [1,4,6,7,8,9,11,12,16]) [.ptr 0 0,.ptr 1 0,.ptr 2 0,.ptr 4 0,.ptr 5 0,.list (x.1.map mtc) .no,.int .i64 x.2,.int .i64 i,.int .i64 0]∧az H [.cells (wdC d),.cells [.list [] .exact,.int .i64 0],.abs (rkI ra 40),.abs (rkM (ar x.1) 6),.cells [.ptr 3 0],.cells [.list (r.map csI) .no,.int .i64 40],.dead]∧Q (.exit 6) (av [1,4,6,7,8,9,11,12,16] [.ptr 0 0,.ptr 1 0,.ptr 2 0,.ptr 4 0,.ptr 5 0,.list ((vsR d.st x (d.rows.getD i [])).1.map mtc) .no,.int .i64 (vsR d.st x (d.rows.getD i [])).2,.int .i64 i,.int .i64 (d.rows.getD i []).length]) [.cells (wdC d),.cells [.list [] .exact,.int .i64 0],.abs (rkI ra 40),.abs (rkM (ar (vsR d.st x (d.rows.getD i [])).1) 6),.cells [.ptr 3 0],.cells [.list (r.map csI) .no,.int .i64 40],.dead]
theorem C6:∀ e H Q,zx e H Q→AW Tryd.prog gl Tryd.f6.ntmps (.loop (an [1,1,1,1,1,1,0,1,0,0,1,0,0,1,1,1,1,1,0] (ai Tryd.f6))) Q e H:=by
 rintro e H Q ⟨d,ra,r,x,i,hi,sm,hst,ro,hx,he,hH,hQ⟩
 obtain⟨l,hl⟩:∃ l,l=d.rows.getD i []:=⟨_,rfl⟩
 rw[← hl] at sm hQ
 have hll:=sm.1
 have inl:InL (d.rows.map lcs) 1 (i:Int):=by rw[ct]; exact hi
 have c0:cL (lcs l) 0=l.map rrc:=rfl
 refine aG (hn:=fun _=>0) aq jF (.cons (aH (by kernel_rfl)) xl (.nil _ _ _ _ _)) (σ:=Nat) [1,4,6,7,8,9,11,12,16] (fun k=>k≤l.length) (fun k=>[.ptr 0 0,.ptr 1 0,.ptr 2 0,.ptr 4 0,.ptr 5 0,.list ((vsR d.st x (l.take k)).1.map mtc) .no,.int .i64 (vsR d.st x (l.take k)).2,.int .i64 i,.int .i64 k]) (fun k=>[.cells (wdC d),.cells [.list [] .exact,.int .i64 0],.abs (rkI ra 40),.abs (rkM (ar (vsR d.st x (l.take k)).1) 6),.cells [.ptr 3 0],.cells [.list (r.map csI) .no,.int .i64 40],.dead]) (fun k=>l.length-k) 0 (Nat.zero_le _) he hH ?_
 intro k hk
 have hk':k≤l.length:=hk
 obtain⟨y,hy⟩:∃ y,y=vsR d.st x (l.take k):=⟨_,rfl⟩
 obtain⟨ro2,hx2⟩:=BY ro hx (l.take k)
 rw[← hy] at ro2 hx2 ⊢
 refine J5 d ra r y.1 y.2 i k _ ?_
 simp only[ay,dt,au,getD_map [] hi,← hl,c0,List.length_map]
 refine⟨inl,?_⟩
 rw[if_pos (by rfl)]
 by_cases h:k<l.length
 ·rw[if_pos (by omega)]
  have hstep:vsR d.st x (l.take (k+1))=vsP d.st y (l.getD k default).pl:=by rw[hy]; exact fW default h
  have hpl:=sm.2 _ (bj (d:=default) h)
  refine⟨d,ra,r,y,i,k,hi,by rw[← hl]; exact h,by rw[← hl]; omega,hst,ro2,hx2,rfl,rfl,fun j=>?_⟩
  rw[← hl,← hstep]
  exact⟨k+1,(show l.length-(k+1)<l.length-k by omega),h,by rw[ax h (by omega)],[],rfl,Nat.le_refl _,.inl rfl⟩
 ·rw[if_neg (by omega)]
  have:k=l.length:=by omega
  subst this
  rw[List.take_length] at hy
  rw[hy]; exact hQ
theorem EB:an [1,0,0,1,1,1,1,1,0] (an [1,1,1,1,1,1,0,1,0] (ai Tryd.f6))=an [1,1,1,1,1,1,0,1,0,0,1,0,0,1,1,1,1,1,0] (ai Tryd.f6):=by kernel_rfl
theorem FB:an [1,0,0,1,0,1,0] (an [1,1,1,1,1,1,0,1,0] (ai Tryd.f6))=an [1,1,1,1,1,1,0,1,0,0,1,0,0,1,0,1,0] (ai Tryd.f6):=by kernel_rfl
theorem xS:∀ e H Q,zx e H Q→AW Tryd.prog gl Tryd.f6.ntmps (.loop (an [1,0,0,1,1,1,1,1,0] (an [1,1,1,1,1,1,0,1,0] (ai Tryd.f6)))) Q e H:=by rw[EB]; exact C6
theorem yj:∀ e H Q,Bm e H Q→AW Tryd.prog gl Tryd.f6.ntmps (.loop (an [1,0,0,1,0,1,0] (an [1,1,1,1,1,1,0,1,0] (ai Tryd.f6)))) Q e H:=by rw[FB]; exact zX
end Go.Proofs.YtenaelaapdhbdaaDoor
