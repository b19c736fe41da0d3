/-
  A world opened: ratings, states.
-/
import Derived.Test.YtenaelaapdhbdaaDoorDbj
import Derived.Test.YtenaelaapdhbdaaDoorProg
namespace Go.Proofs.YtenaelaapdhbdaaDoor
open Go Go.AM Go.Proofs
def Be (args:List PV) (H:ae) (K:PV→ae→Prop):Prop:=∃(l:List RwI) (most t v:Int),ak args [.ptr 2 0,.int .u32 t,.int .i64 v]∧bO H 2 (rkI l most)∧Ok l most∧K (.int .i64 (bZ l most t v).2) (H.set 2 (.abs (rkI (bZ l most t v).1 most)))
theorem Gk:aO Tryd.prog gl 14 (.chg Be):=by
 rintro args H K ⟨l,most,t,v,he,hb,ok,hk⟩
 have he:args=_:=he
 subst he
 exact⟨_,_,q3 _ H (fun x H1=>x=_∧H1=_) ⟨l,most,t,v,rfl,hb,ok,⟨rfl,rfl⟩⟩,hk⟩
def D0 (args:List PV) (H:ae) (K:PV→ae→Prop):Prop:=∃(w:List Mt) (m p st un no:Int),ak args [.ptr 4 0,.int .u32 p,.int .i64 st,.int .i64 un,.int .u64 no]∧cC H 4 3 (rkM (ar w) m)∧MO w m∧K (.int .i64 (dL w p st un no).2) (H.set 3 (.abs (rkM (ar (dL w p st un no).1) m)))
theorem GX:aO Tryd.prog gl 18 (.chg D0):=fun args H _ ⟨w,m,p,st,un,no,he,hb,ro,hk⟩=>⟨_,_,zw args H (fun x H1=>x=_∧H1=_) ⟨4,3,w,m,p,st,un,no,he,hb,ro,⟨rfl,rfl⟩⟩,hk⟩
def wj (args:List PV) (H:ae) (K:PV→ae→Prop):Prop:=∃(w:List Mt) (m id md ins:Int) (l:List Rr) (t:Tail),ak args [.ptr 4 0,.int .u32 id,.int .i64 md,.int .u32 ins,.list (l.map rrc) t]∧cC H 4 3 (rkM (ar w) m)∧MO w m∧smR l∧K (.int .i64 (dn w m id md ins l).2) (H.set 3 (.abs (rkM (ar (dn w m id md ins l).1) m)))
theorem Cc:aO Tryd.prog gl 16 (.heap wj):=fun args H K ⟨w,m,id,md,ins,l,t,he,hb,ro,hl,hk⟩=>vx args H K ⟨4,3,w,m,id,md,ins,l,t,he,hb,ro,hl,hk⟩
def TOP:Tab:=[(14,.chg Be),(15,.pure rP),(18,.chg D0),(19,.pure z9),(16,.heap wj),(17,.pure wL),(12,.heap uS),(13,.heap uZ)]
theorem jF:aB Tryd.prog gl TOP:= .cons Gk (.cons xu (.cons GX (.cons FR (.cons Cc (.cons BT (.cons wh (.cons vg (.nil _ _))))))))
theorem Ix (d:Wd) (ra:List RwI) (r:List RwI) (i:Nat):(by refine(?_:_→_→_→_→_→Prop) (List.getD (d.ra.map prC) (Int.toNat (i:Int)) []) [PV.ptr 0 0,.ptr 1 0,.ptr 2 0,.ptr 4 0,.ptr 5 0,.list [] .exact,.int .i64 i] [PV.list (d.ra.map prC) .no,.list (d.rows.map lcs) .no,.list (d.st.map i1) .no] [PV.list (r.map csI) .no,.int .i64 40] (Ob.cells [.list [] .exact,.int .i64 0]); exact fun a c f g h=>by refine(?_:_→_→_→_→_→Prop) [Ob.cells f,h,.abs (rkI ra 40),.abs (rkM [] 6),.cells [.ptr 3 0],.cells g] (true && aP [.int .u32] 0 (List.drop 0 a)) (true && aP [.int .i64] 0 (List.drop 1 a)) (PV.int .u32 (cI (List.drop 0 a) 0)) (PV.int .i64 (cI (List.drop 1 a) 0)); exact fun b j k n p=>∀(R:Ex→List PV→ae→Prop),(br (decide ((i:Int)<(↑(List.length (d.ra.map prC)):Int))) (InL (d.ra.map prC) 2 (i:Int)∧br j (InL (d.ra.map prC) 2 (i:Int)∧br k (∃(l:List RwI) (most:Int) (t:Int) (v:Int),ak [.ptr 2 0,n,p] [.ptr 2 0,.int .u32 t,.int .i64 v]∧bO b 2 (rkI l most)∧Ok l most∧InL (d.ra.map prC) 2 (i:Int)∧br j (InL (d.ra.map prC) 2 (i:Int)∧br k (∃(w:List RwI) (m:Int) (t_1:Int) (v_1:Int),ak [.agg g,n,p] [.agg [.list (w.map csI) .no,.int .i64 m],.int .u32 t_1,.int .i64 v_1]∧w.length≤1000000∧0≤t_1∧R .normal [.ptr 0 0,.ptr 1 0,.ptr 2 0,.ptr 4 0,.ptr 5 0,.list [] .exact,.int .i64 (wI ((i:Int)+1))] [.cells f,h,.abs (rkI (Prod.fst (bZ l most t v)) most),.abs (rkM [] 6),.cells [.ptr 3 0],.cells [.list (List.map csI (Prod.fst (m7 w m t_1 v_1))) .no,.int .i64 m]]) False) False) False) False) (R (.exit 0) c b))→Holds (wpc br Tryd.prog gl TOP [] (fun o=>match o.dst with|some 41=>7|some 30=>1001|some 36=>1001|some 34=>900|some 40=>900|some 43=>501002|some 45=>1001|some 51=>1001|some 49=>900|some 55=>900|some _=>0|none=>match o.op with| .store _ (.tmp 8) _=>501002|_=>0) (an [1,1,1,1,0,1,0] (ai Tryd.f6)) [] (av [1,4,6,7,8,9,10] c) [.cells (wdC d),h,.abs (rkI ra 40),.abs (rkM (ar []) 6),.cells [.ptr 3 0],.cells g] (fun ex e H=>R ex (List.map e [1,4,6,7,8,9,10]) H)):Prop):=fun R h=>ag (by kernel_rfl) h
theorem JH (d:Wd) (ra r:List RwI) (w:List Mt) (at_ i k j:Nat):(by refine(?_:_→_→_→_→_→_→_→Prop) (List.getD (d.rows.map lcs) (Int.toNat (i:Int)) []) (List.getD (d.st.map i1) (Int.toNat (at_:Int)) []) (Ob.cells [.list (r.map csI) .no,.int .i64 40]) [PV.list (d.ra.map prC) .no,.list (d.rows.map lcs) .no,.list (d.st.map i1) .no] (Ob.cells [.list [] .exact,.int .i64 0]) (Ob.abs (rkM (ar w) 6)) (PV.list (w.map mtc) .no); exact fun c g n q s y z=>by refine(?_:_→_→_→_→_→_→Prop) (List.drop 1 (List.getD (cL c 0) (Int.toNat (k:Int)) [])) [Ob.cells q,s,.abs (rkI ra 40),y,.cells [.ptr 3 0],n,.dead] [PV.ptr 0 0,.ptr 1 0,.ptr 2 0,.ptr 4 0,.ptr 5 0,z,.int .i64 at_,.int .i64 i,.int .i64 k,.int .i64 j] (true && aP [.list] 0 c) (true && aP [.int .i64] 0 g) (PV.int .i64 (cI g 0)); exact fun b f l t x B=>by refine(?_:_→_→Prop) (List.getD (cL b 0) (Int.toNat (j:Int)) []) (true && aP [.list] 0 b); exact fun h u=>by refine(?_:_→_→Prop) (true && aP [.int .u32] 0 h) (PV.int .u32 (cI h 0)); exact fun v A=>∀(R:Ex→List PV→ae→Prop),by refine(?_:_→Prop) (R (.exit 8) l f); exact fun a=>(InL (d.rows.map lcs) 1 (i:Int)∧br t (InL (cL c 0) 4 (k:Int)∧br u (br (decide ((j:Int)<(↑(List.length (cL b 0)):Int)) == true) (br (decide ((at_:Int)<(↑(List.length (d.st.map i1)):Int))) (InL (d.rows.map lcs) 1 (i:Int)∧br t (InL (cL c 0) 4 (k:Int)∧br u (InL (cL b 0) 1 (j:Int)∧br v (InL (d.st.map i1) 1 (at_:Int)∧br x (∃(w_1:List Mt) (m:Int) (p:Int) (st:Int) (un:Int) (no:Int),ak [.ptr 4 0,A,B,.int .i64 0,.int .u64 0] [.ptr 4 0,.int .u32 p,.int .i64 st,.int .i64 un,.int .u64 no]∧cC f 4 3 (rkM (ar w_1) m)∧MO w_1 m∧InL (d.rows.map lcs) 1 (i:Int)∧br t (InL (cL c 0) 4 (k:Int)∧br u (InL (cL b 0) 1 (j:Int)∧br v (InL (d.st.map i1) 1 (at_:Int)∧br x (∃(w_2:List Mt) (m_1:Int) (p_1:Int) (st_1:Int) (un_1:Int) (no_1:Int) (t0:Tail),ak [z,A,B,.int .i64 0,.int .u64 0] [.list (w_2.map mtc) t0,.int .u32 p_1,.int .i64 st_1,.int .i64 un_1,.int .u64 no_1]∧MO w_2 m_1∧m_1≤100000∧R .normal [.ptr 0 0,.ptr 1 0,.ptr 2 0,.ptr 4 0,.ptr 5 0,.list (List.map mtc (Prod.fst (dL w_2 p_1 st_1 un_1 no_1))) .no,.int .i64 (wI ((at_:Int)+1)),.int .i64 i,.int .i64 k,.int .i64 (wI ((j:Int)+1))] [.cells q,s,.abs (rkI ra 40),.abs (rkM (ar (Prod.fst (dL w_1 p st un no))) m),.cells [.ptr 3 0],n,.dead]) False) False) False) False) False) False) False) False) a) a) False) False)→Holds (wpc br Tryd.prog gl TOP [] (fun o=>match o.dst with|some 172=>7|some 156=>1101|some 168=>1201|some 159=>900|some 163=>900|some 166=>900|some 171=>900|_=>0) (an [1,1,1,1,1,1,0,1,0,0,1,0,0,1,1,1,1,1,0,0,1,0,0,1,0] (ai Tryd.f6)) [] (av [1,4,6,7,8,9,11,12,16,17] l) [.cells (wdC d),s,.abs (rkI ra 40),y,.cells [.ptr 3 0],n,.dead] (fun ex e H=>R ex (List.map e [1,4,6,7,8,9,11,12,16,17]) H)):Prop):=fun R h=>ag (by kernel_rfl) h
def mV (xs:List (Int×Int)):List RwI:=xs.foldl (fun w x=>(m7 w 40 x.1 x.2).1) []
theorem fW {α β:Type} {f:β→α→β} {b:β} {l:List α} {i:Nat} (d:α) (h:i<l.length):(l.take (i+1)).foldl f b=f ((l.take i).foldl f b) (l.getD i d):=by
 rw[aZ d h,List.foldl_append]; rfl
theorem zH (xs:List (Int×Int)):(mV xs).length≤xs.length:=by
 have:∀(xs:List (Int×Int)) (w:List RwI),(xs.foldl (fun w x=>(m7 w 40 x.1 x.2).1) w).length≤w.length+xs.length:=by
  intro xs
  induction xs with
  | nil=>intro w; exact Nat.le_refl _
  | cons x xs ih=>
   intro w
   have h1:(m7 w 40 x.1 x.2).1.length≤w.length+1:=by
    unfold m7
    split
    ·split
     ·exact Nat.le_succ _
     ·show(bM w x.1++[(⟨x.1,x.2⟩:RwI)]).length≤_
      have:=mG w x.1
      rw[List.length_append]; simp; omega
    ·exact Nat.le_succ _
   have:=ih (m7 w 40 x.1 x.2).1
   rw[List.foldl_cons,List.length_cons]; omega
 have:=this xs []
 simpa[mV] using this
theorem C3 {A:ae} {cs cs':List PV} (h:WkL cs cs'):WkH (A++[.cells cs]) (A++[.cells cs']):=by
 refine⟨by simp,fun o x ho=>?_⟩
 by_cases c:o<A.length
 ·rw[List.getElem?_append_left c] at ho
  exact⟨x,by rw[List.getElem?_append_left c]; exact ho,.refl x⟩
 ·have k:=(List.getElem?_eq_some_iff.1 ho).1
  simp at k
  have:o=A.length:=by omega
  subst this
  rw[at0] at ho; cases ho
  exact⟨_,at0 ..,.cells h⟩
theorem JF {z:List PV} (hz:∀ x∈z,Low 0 x):∀ v∈(.ptr 0 0 :: .ptr 1 0 :: .ptr 2 0 :: .ptr 4 0 :: .ptr 5 0::z:List PV),Low 6 v:=by
 intro v hv
 simp only[List.mem_cons] at hv
 rcases hv with rfl|rfl|rfl|rfl|rfl|hv
 ·exact .ptr _ _ (by decide)
 ·exact .ptr _ _ (by decide)
 ·exact .ptr _ _ (by decide)
 ·exact .ptr _ _ (by decide)
 ·exact .ptr _ _ (by decide)
 ·exact(hz v hv).up
def Ig:LSp:=fun e H Q=>∃(d:Wd),d.ra.length≤1000∧(∀ p∈d.ra,0≤p.1)∧ak (List.map e [1,4,6,7,8,9,10]) [.ptr 0 0,.ptr 1 0,.ptr 2 0,.ptr 4 0,.ptr 5 0,.list [] .exact,.int .i64 0]∧az H [.cells (wdC d),.cells [.list [] .exact,.int .i64 0],.abs (rkI [] 40),.abs (rkM (ar []) 6),.cells [.ptr 3 0],.cells [.list [] .exact,.int .i64 40]]∧Q (.exit 0) (av [1,4,6,7,8,9,10] [.ptr 0 0,.ptr 1 0,.ptr 2 0,.ptr 4 0,.ptr 5 0,.list [] .exact,.int .i64 d.ra.length]) [.cells (wdC d),.cells [.list [] .exact,.int .i64 0],.abs (rkI (b8 [] 40 d.ra) 40),.abs (rkM (ar []) 6),.cells [.ptr 3 0],.cells [.list ((mV d.ra).map csI) .no,.int .i64 40]]
theorem z5:∀ e H Q,Ig e H Q→AW Tryd.prog gl Tryd.f6.ntmps (.loop (an [1,1,1,1,0,1,0] (ai Tryd.f6))) Q e H:=by
 rintro e H Q ⟨d,hl,hp,he,hH,hQ⟩
 have hH:H=_:=hH
 subst hH
 refine AW.Jo (H1:=[.cells (wdC d),.cells [.list [] .exact,.int .i64 0],.abs (rkI [] 40),.abs (rkM (ar []) 6),.cells [.ptr 3 0],.cells [.list (([]:List RwI).map csI) .no,.int .i64 40]]) (C3 (A:=[.cells (wdC d),.cells [.list [] .exact,.int .i64 0],.abs (rkI [] 40),.abs (rkM (ar []) 6),.cells [.ptr 3 0]]) (.cons (.list _ _) (.cons (.refl _) .nil))) ?_
 refine aG (hn:=fun o=>match o.dst with|some 41=>7|some 30=>1001|some 36=>1001|some 34=>900|some 40=>900|some 43=>501002|some 45=>1001|some 51=>1001|some 49=>900|some 55=>900|some _=>0|none=>match o.op with| .store _ (.tmp 8) _=>501002|_=>0) aq jF (.nil _ _ _ _ _) (σ:=Nat) [1,4,6,7,8,9,10] (fun i=>i≤d.ra.length) (fun i=>[.ptr 0 0,.ptr 1 0,.ptr 2 0,.ptr 4 0,.ptr 5 0,.list [] .exact,.int .i64 i]) (fun i=>[.cells (wdC d),.cells [.list [] .exact,.int .i64 0],.abs (rkI (b8 [] 40 (d.ra.take i)) 40),.abs (rkM (ar []) 6),.cells [.ptr 3 0],.cells [.list ((mV (d.ra.take i)).map csI) .no,.int .i64 40]]) (fun i=>d.ra.length-i) 0 (Nat.zero_le _) he rfl ?_
 intro i hi
 have hi':i≤d.ra.length:=hi
 refine Ix d (b8 [] 40 (d.ra.take i)) (mV (d.ra.take i)) i _ ?_
 simp only[ay,dt,au,List.length_map]
 by_cases h:i<d.ra.length
 ·rw[if_pos (by omega)]
  obtain⟨p,hpd⟩:∃ p,p=d.ra.getD i (0,0):=⟨_,rfl⟩
  have hpm:p∈d.ra:=by rw[hpd]; exact bj h
  have inl:InL (d.ra.map prC) 2 (i:Int):=by rw[cW FZ (by decide)]; exact h
  have c0:∀ p:Int×Int,cI (List.drop 0 (prC p)) 0=p.1:=fun _=>rfl
  have c1:∀ p:Int×Int,cI (List.drop 1 (prC p)) 0=p.2:=fun _=>rfl
  have ok:Ok (b8 [] 40 (d.ra.take i)) 40:=kS (Ok.none (by decide) (by decide)) _
  have hr:=zH (d.ra.take i)
  rw[List.length_take] at hr
  have e1:b8 [] 40 (d.ra.take (i+1))=(bZ (b8 [] 40 (d.ra.take i)) 40 p.1 p.2).1:=by rw[hpd]; exact fW (0,0) h
  have e2:mV (d.ra.take (i+1))=(m7 (mV (d.ra.take i)) 40 p.1 p.2).1:=by rw[hpd]; exact fW (0,0) h
  simp only[getD_map (0,0) h,← hpd,c0,c1]
  refine⟨inl,?_⟩
  rw[if_pos (by rfl)]
  refine⟨inl,?_⟩
  rw[if_pos (by rfl)]
  refine⟨_,40,p.1,p.2,rfl,rfl,ok,inl,?_⟩
  rw[if_pos (by rfl)]
  refine⟨inl,?_⟩
  rw[if_pos (by rfl)]
  refine⟨_,40,p.1,p.2,rfl,by omega,hp p hpm,?_⟩
  rw[← e1,← e2]
  exact⟨i+1,(show d.ra.length-(i+1)<d.ra.length-i by omega),h,by rw[ax h (by omega)],[],rfl,Nat.le_refl _,.inl rfl⟩
 ·rw[if_neg (by omega)]
  have:i=d.ra.length:=by omega
  subst this
  rw[List.take_length]
  exact hQ
def vsS (st:List Int) (x:List Mt×Nat) (p:Int):List Mt×Nat:=if x.2<st.length then((dL x.1 p (st.getD x.2 0) 0 0).1,x.2+1) else x
def vsP (st:List Int) (x:List Mt×Nat) (ps:List Int):List Mt×Nat:=ps.foldl (vsS st) x
def vsR (st:List Int) (x:List Mt×Nat) (rows:List Rr):List Mt×Nat:=rows.foldl (fun x r=>vsP st x r.pl) x
theorem AL {st:List Int} {x:List Mt×Nat} (h:¬ x.2<st.length):∀ ps:List Int,vsP st x ps=x:=by
 intro ps
 unfold vsP
 induction ps with
 | nil=>rfl
 | cons p ps ih=>rw[List.foldl_cons]; unfold vsS; rw[if_neg h]; exact ih
theorem AQ {st:List Int} {m:Int} {x:List Mt×Nat} (ro:MO x.1 m) (hx:x.2≤st.length) (ps:List Int):MO (vsP st x ps).1 m∧(vsP st x ps).2≤st.length:=by
 unfold vsP
 induction ps generalizing x with
 | nil=>exact⟨ro,hx⟩
 | cons p ps ih=>
  rw[List.foldl_cons]
  unfold vsS
  by_cases c:x.2<st.length
  ·rw[if_pos c]; exact ih (ro.set _ _ _ _) c
  ·rw[if_neg c]; exact ih ro hx
theorem BY {st:List Int} {m:Int} {x:List Mt×Nat} (ro:MO x.1 m) (hx:x.2≤st.length) (rows:List Rr):MO (vsR st x rows).1 m∧(vsR st x rows).2≤st.length:=by
 unfold vsR
 induction rows generalizing x with
 | nil=>exact⟨ro,hx⟩
 | cons r rows ih=>
  obtain⟨h1,h2⟩:=AQ ro hx r.pl
  exact ih h1 h2
def D2:LSp:=fun e H Q=>∃(d:Wd) (ra r:List RwI) (x:List Mt×Nat) (i k:Nat),i<d.rows.length∧k<(d.rows.getD i []).length∧((d.rows.getD i []).getD k default).pl.length≤1000000∧d.st.length≤1000000∧MO x.1 6∧x.2≤d.st.length∧ak (List.map e [1,4,6,7,8,9,11,12,16,17]) [.ptr 0 0,.ptr 1 0,.ptr 2 0,.ptr 4 0,.ptr 5 0,.list (x.1.map mtc) .no,.int .i64 x.2,.int .i64 i,.int .i64 k,.int .i64 0]∧az H [.cells (wdC d),.cells [.list [] .exact,.int .i64 0],.abs (rkI ra 40),.abs (rkM (ar x.1) 6),.cells [.ptr 3 0],.cells [.list (r.map csI) .no,.int .i64 40],.dead]∧
 (∀ j:Nat,Q (.exit 8) (av [1,4,6,7,8,9,11,12,16,17] [.ptr 0 0,.ptr 1 0,.ptr 2 0,.ptr 4 0,.ptr 5 0,.list ((vsP d.st x ((d.rows.getD i []).getD k default).pl).1.map mtc) .no,.int .i64 (vsP d.st x ((d.rows.getD i []).getD k default).pl).2,.int .i64 i,.int .i64 k,.int .i64 j]) [.cells (wdC d),.cells [.list [] .exact,.int .i64 0],.abs (rkI ra 40),.abs (rkM (ar (vsP d.st x ((d.rows.getD i []).getD k default).pl).1) 6),.cells [.ptr 3 0],.cells [.list (r.map csI) .no,.int .i64 40],.dead])
theorem CS:∀ e H Q,D2 e H Q→AW Tryd.prog gl Tryd.f6.ntmps (.loop (an [1,1,1,1,1,1,0,1,0,0,1,0,0,1,1,1,1,1,0,0,1,0,0,1,0] (ai Tryd.f6))) Q e H:=by
 rintro e H Q ⟨d,ra,r,x,i,k,hi,hk,hpl,hst,ro,hx,he,hH,hQ⟩
 obtain⟨l,hl⟩:∃ l,l=d.rows.getD i []:=⟨_,rfl⟩
 rw[← hl] at hk hpl hQ
 obtain⟨s,hs⟩:∃ s,s=l.getD k default:=⟨_,rfl⟩
 rw[← hs] at hpl hQ
 have inl:InL (d.rows.map lcs) 1 (i:Int):=by rw[ct]; exact hi
 have inl2:InL (l.map rrc) 4 (k:Int):=by rw[dF]; exact hk
 have c0:cL (lcs l) 0=l.map rrc:=rfl
 have c1:cL (List.drop 1 (rrc s)) 0=s.pl.map u1:=rfl
 refine aG (hn:=fun o=>match o.dst with|some 172=>7|some 156=>1101|some 168=>1201|some 159=>900|some 163=>900|some 166=>900|some 171=>900|_=>0) aq jF (.nil _ _ _ _ _) (σ:=Nat) [1,4,6,7,8,9,11,12,16,17] (fun j=>j≤s.pl.length) (fun j=>[.ptr 0 0,.ptr 1 0,.ptr 2 0,.ptr 4 0,.ptr 5 0,.list ((vsP d.st x (s.pl.take j)).1.map mtc) .no,.int .i64 (vsP d.st x (s.pl.take j)).2,.int .i64 i,.int .i64 k,.int .i64 j]) (fun j=>[.cells (wdC d),.cells [.list [] .exact,.int .i64 0],.abs (rkI ra 40),.abs (rkM (ar (vsP d.st x (s.pl.take j)).1) 6),.cells [.ptr 3 0],.cells [.list (r.map csI) .no,.int .i64 40],.dead]) (fun j=>s.pl.length-j) 0 (Nat.zero_le _) he hH ?_
 intro j hj
 have hj':j≤s.pl.length:=hj
 obtain⟨y,hy⟩:∃ y,y=vsP d.st x (s.pl.take j):=⟨_,rfl⟩
 obtain⟨ro2,hx2⟩:=AQ ro hx (s.pl.take j)
 rw[← hy] at ro2 hx2 ⊢
 refine JH d ra r y.1 y.2 i k j _ ?_
 simp only[ay,dt,au,getD_map [] hi,← hl,c0,getD_map default hk,← hs,c1,List.length_map]
 refine⟨inl,?_⟩
 rw[if_pos (by rfl)]
 refine⟨inl2,?_⟩
 rw[if_pos (by rfl)]
 have fin:vsP d.st x s.pl=y→vM Q [1,4,6,7,8,9,11,12,16,17] (fun j=>j≤s.pl.length) (fun j=>[.ptr 0 0,.ptr 1 0,.ptr 2 0,.ptr 4 0,.ptr 5 0,.list ((vsP d.st x (s.pl.take j)).1.map mtc) .no,.int .i64 (vsP d.st x (s.pl.take j)).2,.int .i64 i,.int .i64 k,.int .i64 j]) (fun j=>[.cells (wdC d),.cells [.list [] .exact,.int .i64 0],.abs (rkI ra 40),.abs (rkM (ar (vsP d.st x (s.pl.take j)).1) 6),.cells [.ptr 3 0],.cells [.list (r.map csI) .no,.int .i64 40],.dead]) (fun j=>s.pl.length-j) j (.exit 8) [.ptr 0 0,.ptr 1 0,.ptr 2 0,.ptr 4 0,.ptr 5 0,.list (y.1.map mtc) .no,.int .i64 y.2,.int .i64 i,.int .i64 k,.int .i64 j] [.cells (wdC d),.cells [.list [] .exact,.int .i64 0],.abs (rkI ra 40),.abs (rkM (ar y.1) 6),.cells [.ptr 3 0],.cells [.list (r.map csI) .no,.int .i64 40],.dead]:=fun e=>by
  have:=hQ j
  rw[e] at this
  exact this
 by_cases h:j<s.pl.length
 ·rw[if_pos (by rw[decide_eq_true (by omega)]; rfl)]
  have hstep:vsP d.st x (s.pl.take (j+1))=vsS d.st y (s.pl.getD j 0):=by rw[hy]; exact fW 0 h
  by_cases c:y.2<d.st.length
  ·rw[if_pos (by omega)]
   have inl3:InL (s.pl.map u1) 1 (j:Int):=by rw[ec]; exact h
   have inl4:InL (d.st.map i1) 1 (y.2:Int):=by rw[tx]; exact c
   have cu:∀ z:Int,cI (u1 z) 0=z:=fun _=>rfl
   have ci:∀ z:Int,cI (i1 z) 0=z:=fun _=>rfl
   simp only[getD_map 0 h,getD_map 0 c,cu,ci]
   refine⟨inl,?_⟩
   rw[if_pos (by rfl)]
   refine⟨inl2,?_⟩
   rw[if_pos (by rfl)]
   refine⟨inl3,?_⟩
   rw[if_pos (by rfl)]
   refine⟨inl4,?_⟩
   rw[if_pos (by rfl)]
   refine⟨y.1,6,s.pl.getD j 0,d.st.getD y.2 0,0,0,rfl,⟨rfl,rfl⟩,ro2,inl,?_⟩
   rw[if_pos (by rfl)]
   refine⟨inl2,?_⟩
   rw[if_pos (by rfl)]
   refine⟨inl3,?_⟩
   rw[if_pos (by rfl)]
   refine⟨inl4,?_⟩
   rw[if_pos (by rfl)]
   refine⟨y.1,6,s.pl.getD j 0,d.st.getD y.2 0,0,0,.no,rfl,ro2,by decide,?_⟩
   unfold vsS at hstep
   rw[if_pos c] at hstep
   exact⟨j+1,(show s.pl.length-(j+1)<s.pl.length-j by omega),h,by(try dsimp only); rw[hstep,ax h (by omega),ax c (by omega)],[],by(try dsimp only); rw[hstep]; rfl,Nat.le_refl _,.inl rfl⟩
  ·rw[if_neg (by omega)]
   refine fin ?_
   rw[← List.take_append_drop j s.pl]
   unfold vsP
   rw[List.foldl_append]
   show vsP d.st (vsP d.st x (s.pl.take j)) _=y
   rw[← hy]
   exact AL c _
 ·rw[if_neg (by rw[decide_eq_false (by omega)]; decide)]
  have:j=s.pl.length:=by omega
  subst this
  rw[List.take_length] at hy
  exact fin hy.symm
theorem Gc:an [1,0,0,1,0] (an [1,1,1,1,1,1,0,1,0,0,1,0,0,1,1,1,1,1,0] (ai Tryd.f6))=an [1,1,1,1,1,1,0,1,0,0,1,0,0,1,1,1,1,1,0,0,1,0,0,1,0] (ai Tryd.f6):=by kernel_rfl
theorem xl:∀ e H Q,D2 e H Q→AW Tryd.prog gl Tryd.f6.ntmps (.loop (an [1,0,0,1,0] (an [1,1,1,1,1,1,0,1,0,0,1,0,0,1,1,1,1,1,0] (ai Tryd.f6)))) Q e H:=by rw[Gc]; exact CS
end Go.Proofs.YtenaelaapdhbdaaDoor
