/-
  A world opened.
-/
import Derived.Test.YtenaelaapdhbdaaDoorDbl
import Derived.Test.YtenaelaapdhbdaaDoorProg
namespace Go.Proofs.YtenaelaapdhbdaaDoor
open Go Go.AM Go.Proofs
theorem IV (d:Wd) (ra r:List RwI) (w:List Mt) (at_ i:Nat):(by refine(?_:_→_→_→_→Prop) (Ob.cells [.list [] .exact,.int .i64 0]) (Ob.cells [.list (r.map csI) .no,.int .i64 40]) (Ob.abs (rkM (ar w) 6)) (PV.list (w.map mtc) .no); exact fun v A B C=>by refine(?_:_→_→Prop) [Ob.cells [.list (d.ra.map prC) .no,.list (d.rows.map lcs) .no,.list (d.st.map i1) .no],v,.abs (rkI ra 40),B,.cells [.ptr 3 0],A] [PV.ptr 0 0,.ptr 1 0,.ptr 2 0,.ptr 4 0,.ptr 5 0,C,.int .i64 at_,.int .i64 i]; exact fun y z=>∀(R:Ex→List PV→ae→Prop),(br (decide ((i:Int)<(↑(List.length (d.rows.map lcs)):Int))) (∃(d_1:Wd) (ra_1:List RwI) (r_1:List RwI) (w_1:List Mt) (at__1:Nat) (i_1:Nat),by refine(?_:_→_→_→_→_→_→_→_→Prop) (Ob.cells [.list (r_1.map csI) .no,.int .i64 40]) (PV.int .u32 (IntKind.wrap .u32 (IntKind.wrap .u32 (i_1:Int)+11))) (PV.int .u32 (IntKind.wrap .u32 (IntKind.wrap .u32 (i_1:Int)+1))) (d_1.rows.map lcs) (Ob.abs (rkI ra_1 40)) (List.getD d_1.rows i_1 []) (Ob.abs (rkM (ar w_1) 6)) (PV.list (w_1.map mtc) .no); exact fun j k n o p q s u=>by refine(?_:_→_→Prop) (Ob.cells [.list (d_1.ra.map prC) .no,.list o .no,.list (d_1.st.map i1) .no]) (List.getD o (Int.toNat (i_1:Int)) []); exact fun g h=>i_1<d_1.rows.length∧smR q∧ak [.ptr 0 0,.ptr 1 0,.ptr 2 0,.ptr 4 0,.ptr 5 0,C,.int .i64 at_,.int .i64 i,.list [] .exact,.int .i64 0] [.ptr 0 0,.ptr 1 0,.ptr 2 0,.ptr 4 0,.ptr 5 0,u,.int .i64 at__1,.int .i64 i_1,.list [] .exact,.int .i64 0]∧az y [g,v,p,s,.cells [.ptr 3 0],j]∧∃(w:List Mt) (m:Int) (id:Int) (md:Int) (ins:Int) (l:List Rr) (t:Tail),ak [.ptr 4 0,n,.int .i64 0,k,.list (List.map rrc q) .no] [.ptr 4 0,.int .u32 id,.int .i64 md,.int .u32 ins,.list (l.map rrc) t]∧cC [g,v,p,s,.cells [.ptr 3 0],j,.dead] 4 3 (rkM (ar w) m)∧MO w m∧smR l∧InL o 1 (i_1:Int)∧br (true && aP [.list] 0 h) (∃(w_2:List Mt) (m_1:Int) (id_1:Int) (md_1:Int) (ins_1:Int) (l_1:List Rr) (t0:Tail) (t1:Tail),ak [u,.int .i64 6,n,.int .i64 0,k,.list (cL h 0) (cT h 0)] [.list (w_2.map mtc) t0,.int .i64 m_1,.int .u32 id_1,.int .i64 md_1,.int .u32 ins_1,.list (l_1.map rrc) t1]∧MO w_2 m_1∧m_1≤100000∧0≤id_1∧tR l_1∧smR l_1∧∃(d:Wd) (ra:List RwI) (r:List RwI) (x:List Mt×Nat) (i:Nat),by refine(?_:_→_→_→Prop) (Ob.cells [.list (d.ra.map prC) .no,.list (d.rows.map lcs) .no,.list (d.st.map i1) .no]) (Ob.cells [.list (r.map csI) .no,.int .i64 40]) (List.getD d.rows i []); exact fun a c f=>by refine(?_:_→Prop) (vsR d.st x f); exact fun b=>i<d.rows.length∧smR f∧d.st.length≤1000000∧MO (Prod.fst x) 6∧Prod.snd x≤d.st.length∧ak [.ptr 0 0,.ptr 1 0,.ptr 2 0,.ptr 4 0,.ptr 5 0,.list (List.map mtc (Prod.fst (dn w_2 m_1 id_1 md_1 ins_1 l_1))) .no,.int .i64 at__1,.int .i64 i_1,.int .i64 0] [.ptr 0 0,.ptr 1 0,.ptr 2 0,.ptr 4 0,.ptr 5 0,.list (List.map mtc (Prod.fst x)) .no,.int .i64 (↑(Prod.snd x):Int),.int .i64 i,.int .i64 0]∧az [g,v,p,.abs (rkM (ar (Prod.fst (dn w m id md ins l))) m),.cells [.ptr 3 0],j,.dead] [a,v,.abs (rkI ra 40),.abs (rkM (ar (Prod.fst x)) 6),.cells [.ptr 3 0],c,.dead]∧R .normal [.ptr 0 0,.ptr 1 0,.ptr 2 0,.ptr 4 0,.ptr 5 0,.list (List.map mtc (Prod.fst b)) .no,.int .i64 (↑(Prod.snd b):Int),.int .i64 (wI ((i:Int)+1))] [a,v,.abs (rkI ra 40),.abs (rkM (ar (Prod.fst b)) 6),.cells [.ptr 3 0],c,.dead]) False) (R (.exit 2) z y))→Holds (wpc br Tryd.prog gl TOP [([1,0,0,1,0,1,0],Bm),([1,0,0,1,1,1,1,1,0],zx)] (fun _=>0) (an [1,1,1,1,1,1,0,1,0] (ai Tryd.f6)) [] (av [1,4,6,7,8,9,11,12] z) [.cells (wdC d),v,.abs (rkI ra 40),B,.cells [.ptr 3 0],A] (fun ex e H=>R ex (List.map e [1,4,6,7,8,9,11,12]) H)):Prop):=fun R h=>ag (by kernel_rfl) h
theorem idN (i:Nat) (h:i≤6) (a:Int) (h0:0≤a) (h1:a≤100):IntKind.wrap .u32 (IntKind.wrap .u32 (i:Int)+a)=i+a:=by
 rw[wrap_u32 (n:=(i:Int)) (by omega) (by omega),wrap_u32 (by omega) (by omega)]
def opS (d:Wd) (x:List Mt×Nat) (i:Nat):List Mt×Nat:=vsR d.st ((dn x.1 6 (i+1) 0 (i+11) (d.rows.getD i [])).1,x.2) (d.rows.getD i [])
def eg (d:Wd):Nat→List Mt×Nat
 | 0=>([],0)
 | i+1=>opS d (eg d i) i
theorem kA (d:Wd):∀ i,MO (eg d i).1 6∧(eg d i).2≤d.st.length
 | 0=>⟨MO.nil (by decide) (by decide),Nat.zero_le _⟩
 | i+1=>BY (x:=((dn (eg d i).1 6 (i+1) 0 (i+11) (d.rows.getD i [])).1,(eg d i).2)) ((kA d i).1.make _ _ _ _) (kA d i).2 _
def HE:LSp:=fun e H Q=>∃(d:Wd) (ra r:List RwI),d.rows.length≤6∧d.st.length≤1000000∧(∀ l∈d.rows,smR l∧tR l)∧ak (List.map e [1,4,6,7,8,9,11,12]) [.ptr 0 0,.ptr 1 0,.ptr 2 0,.ptr 4 0,.ptr 5 0,.list [] .exact,.int .i64 0,.int .i64 0]∧az H [.cells (wdC d),.cells [.list [] .exact,.int .i64 0],.abs (rkI ra 40),.abs (rkM (ar []) 6),.cells [.ptr 3 0],.cells [.list (r.map csI) .no,.int .i64 40]]∧Q (.exit 2) (av [1,4,6,7,8,9,11,12] [.ptr 0 0,.ptr 1 0,.ptr 2 0,.ptr 4 0,.ptr 5 0,.list ((eg d d.rows.length).1.map mtc) .no,.int .i64 (eg d d.rows.length).2,.int .i64 d.rows.length]) [.cells (wdC d),.cells [.list [] .exact,.int .i64 0],.abs (rkI ra 40),.abs (rkM (ar (eg d d.rows.length).1) 6),.cells [.ptr 3 0],.cells [.list (r.map csI) .no,.int .i64 40]]
set_option maxRecDepth 10000 in
theorem Ce:∀ e H Q,HE e H Q→AW Tryd.prog gl Tryd.f6.ntmps (.loop (an [1,1,1,1,1,1,0,1,0] (ai Tryd.f6))) Q e H:=by
 rintro e H Q ⟨d,ra,r,hn,hst,hr,he,hH,hQ⟩
 have hH:H=_:=hH
 subst hH
 have he:_=_:=he
 refine AW.Lm (slots:=[1,4,6,7,8,9,11,12]) (vs:=[.ptr 0 0,.ptr 1 0,.ptr 2 0,.ptr 4 0,.ptr 5 0,.list (([]:List Mt).map mtc) .no,.int .i64 0,.int .i64 0]) (by rw[he]; exact .cons (.refl _) (.cons (.refl _) (.cons (.refl _) (.cons (.refl _) (.cons (.refl _) (.cons (.list _ _) (.cons (.refl _) (.cons (.refl _) .nil)))))))) ?_
 refine aG (hn:=fun _=>0) aq jF (.cons (aH (by kernel_rfl)) yj (.cons (aH (by kernel_rfl)) xS (.nil _ _ _ _ _))) (σ:=Nat) [1,4,6,7,8,9,11,12] (fun i=>i≤d.rows.length) (fun i=>[.ptr 0 0,.ptr 1 0,.ptr 2 0,.ptr 4 0,.ptr 5 0,.list ((eg d i).1.map mtc) .no,.int .i64 (eg d i).2,.int .i64 i]) (fun i=>[.cells (wdC d),.cells [.list [] .exact,.int .i64 0],.abs (rkI ra 40),.abs (rkM (ar (eg d i).1) 6),.cells [.ptr 3 0],.cells [.list (r.map csI) .no,.int .i64 40]]) (fun i=>d.rows.length-i) 0 (Nat.zero_le _) rfl rfl ?_
 intro i hi
 have hi':i≤d.rows.length:=hi
 obtain⟨ro,hx⟩:=kA d i
 have hs:eg d (i+1)=opS d (eg d i) i:=rfl
 obtain⟨y,hy⟩:∃ y,y=eg d i:=⟨_,rfl⟩
 rw[← hy] at ro hx hs ⊢
 refine IV d ra r y.1 y.2 i _ ?_
 simp only[ay,dt,au,List.length_map]
 by_cases h:i<d.rows.length
 ·rw[if_pos (by omega)]
  have inl:InL (d.rows.map lcs) 1 (i:Int):=by rw[ct]; exact h
  have c0:∀ l:List Rr,cL (lcs l) 0=l.map rrc:=fun _=>rfl
  have ih:∀ a:Int,0≤a→a≤100→_:=idN i (by omega)
  obtain⟨sm,ps⟩:=hr _ (bj (d:=([]:List Rr)) h)
  refine⟨d,ra,r,y.1,y.2,i,h,sm,rfl,rfl,?_⟩
  rw[ih 1 (by decide) (by decide),ih 11 (by decide) (by decide)]
  refine⟨y.1,6,i+1,0,i+11,d.rows.getD i [],.no,rfl,⟨rfl,rfl⟩,ro,sm,inl,?_⟩
  simp only[getD_map ([]:List Rr) h,c0]
  rw[if_pos (by rfl)]
  refine⟨y.1,6,i+1,0,i+11,d.rows.getD i [],.no,_,rfl,ro,by decide,by omega,ps,sm,?_⟩
  refine⟨d,ra,r,((dn y.1 6 (i+1) 0 (i+11) (d.rows.getD i [])).1,y.2),i,h,sm,hst,ro.make _ _ _ _,hx,rfl,rfl,?_⟩
  have hs:vsR d.st ((dn y.1 6 (i+1) 0 (i+11) (d.rows.getD i [])).1,y.2) (d.rows.getD i [])=eg d (i+1):=hs.symm
  rw[hs]
  exact⟨i+1,(show d.rows.length-(i+1)<d.rows.length-i by omega),h,by rw[ax h (by omega)],[.dead],rfl,Nat.le_refl _,.inr ⟨JF (dK (bY _) (.int _ _) (.int _ _)),vy⟩⟩
 ·rw[if_neg (by omega)]
  have:i=d.rows.length:=by omega
  subst this
  rw[hy]; exact hQ
theorem Im (d:Wd):(by refine(?_:_→_→_→_→Prop) (Ob.cells [.list [] .exact,.int .i64 0]) [PV.ptr 0 0,.ptr 1 0,.ptr 2 0,.ptr 4 0,.ptr 5 0,.list [] .exact,.int .i64 0,.int .i64 0] [PV.ptr 0 0,.ptr 1 0,.ptr 2 0,.ptr 4 0,.ptr 5 0,.list [] .exact,.int .i64 0] (Ob.cells [.list [] .exact,.int .i64 40]); exact fun f g h i=>∀(K:PV→ae→Prop),(∃(n:Int),ak [.int .i64 40] [.int .i64 n]∧∃(n_1:Int),ak [.int .i64 6] [.int .i64 n_1]∧∃(d_1:Wd),by refine(?_:_→Prop) (Ob.cells [.list (d_1.ra.map prC) .no,.list (d_1.rows.map lcs) .no,.list (d_1.st.map i1) .no]); exact fun e=>d_1.ra.length≤1000∧(∀(p:Int×Int),p∈d_1.ra→0≤Prod.fst p)∧ak h h∧az [.cells [.list (d.ra.map prC) .no,.list (d.rows.map lcs) .no,.list (d.st.map i1) .no],f,.abs (rkI [] (mxI 0 n)),.abs (rkM [] (mxI 0 n_1)),.cells [.ptr 3 0],i] [e,f,.abs (rkI [] 40),.abs (rkM [] 6),.cells [.ptr 3 0],i]∧∃(d:Wd) (ra:List RwI) (r:List RwI),by refine(?_:_→_→_→Prop) [PV.list (r.map csI) .no,.int .i64 40] (Ob.cells [.list (d.ra.map prC) .no,.list (d.rows.map lcs) .no,.list (d.st.map i1) .no]) (Prod.fst (eg d d.rows.length)); exact fun a b c=>d.rows.length≤6∧d.st.length≤1000000∧(∀(l:List Rr),l∈d.rows→smR l∧tR l)∧ak g g∧az [e,f,.abs (rkI (b8 [] 40 d_1.ra) 40),.abs (rkM [] 6),.cells [.ptr 3 0],.cells [.list (List.map csI (mV d_1.ra)) .no,.int .i64 40]] [b,f,.abs (rkI ra 40),.abs (rkM [] 6),.cells [.ptr 3 0],.cells a]∧K (.tup [.ptr 2 0,.ptr 4 0,.agg a,.list (List.map mtc c) .no]) [b,.cells a,.abs (rkI ra 40),.abs (rkM (ar c) 6),.cells [.ptr 3 0],.cells a])→aj Tryd.prog gl 6 [.agg (wdC d)] [] K:Prop):=fun K h=>ah (T:=TOP) (L:=[([1,1,1,1,0,1,0],Ig),([1,1,1,1,1,1,0,1,0],HE)]) (fun o=>match o.dst with|some 199=>501002|some _=>0|none=>match o.op with| .store _ (.tmp 4) _=>101002|_=>0) Tryd.func6 (by kernel_rfl) (by kernel_rfl) (by kernel_rfl) (jF) (.cons (aH (by kernel_rfl)) z5 (.cons (aH (by kernel_rfl)) Ce (.nil _ _ _ _ _))) (ag (by kernel_rfl) h)
def raP (d:Wd):Prop:=(∀ p∈d.ra,0≤p.1)∧∀ l∈d.rows,tR l
def opH (n:Nat) (d:Wd):ae:=[.abs (rkI (b8 [] 40 d.ra) 40),.abs (rkM (ar (eg d d.rows.length).1) 6),.cells [.ptr (n+1) 0]]
def opV (n:Nat) (d:Wd):List PV:=[.ptr n 0,.ptr (n+2) 0,.agg [.list ((mV d.ra).map csI) .no,.int .i64 40],.list ((eg d d.rows.length).1.map mtc) .no]
def HL (args:List PV) (H:ae) (K:PV→ae→Prop):Prop:=∃(d:Wd),ak args [.agg (wdC d)]∧eR d=false∧raP d∧K (.tup (opV H.length d)) (H++opH H.length d)
theorem wo {ρ:Nat→Nat} {n m k:Nat} (h1:n+2<m) (h2:ρ n=k) (h3:ρ (n+2)=k+2) (d:Wd):Ren ρ m (.tup (opV n d)) (.tup (opV k d)):=by
 have a:=Ren.ptr (ρ:=ρ) (n:=m) n 0 (by omega)
 have b:=Ren.ptr (ρ:=ρ) (n:=m) (n+2) 0 h1
 rw[h2] at a
 rw[h3] at b
 exact .KE (.cons a (.cons b (.cons (.low (.agg _ (bF (bD iM _) (.int _ _)))) (.cons (.low (bY _)) .nil))))
theorem JJ:aO Tryd.prog gl 6 (.heap HL):=by
 rintro args H K ⟨d,he,hg,hp,hk⟩
 have he:args=_:=he
 subst he
 obtain⟨g1,g2,g3,g4⟩:=yU hg
 refine a9 aq (X:=[]) (ρ:=fun o=>o) ⟨by simp,by simp,by simp⟩ (aW.low (bw (.agg _ (nr d)))) (b5 aq (Im d _ ⟨40,rfl,6,rfl,d,by omega,hp.1,rfl,rfl,d,b8 [] 40 d.ra,mV d.ra,g2,by omega,fun l hl=>⟨g4 l hl,hp.2 l hl⟩,rfl,rfl,?_⟩))
 have q0:aN (fun o=>o) ([]:ae).length H.length 0=H.length:=by simp[aN]
 have q1:aN (fun o=>o) ([]:ae).length H.length 1=H.length+1:=by simp[aN]
 have q2:aN (fun o=>o) ([]:ae).length H.length 2=H.length+2:=by simp[aN]
 refine⟨.tup (opV 0 d),opH 0 d,fun o=>o+2,⟨fun o ho=>by simp[opH] at ho ⊢; omega,fun a b _ _ e=>by have e:a+2=b+2:=e; omega,fun o a ho=>?_⟩,by simp,fun o ho=>by simp at ho,wo (n:=0) (Nat.lt_succ_self 2) rfl rfl d,
  .tup (opV H.length d),H++opH H.length d,⟨by simp,by simp[opH],fun o a ho=>?_,fun o hl _=>by rw[List.getElem?_append_left hl]⟩,wo (n:=0) (Nat.lt_succ_self 2) q0 q2 d,hk⟩
 ·have k1:=(List.getElem?_eq_some_iff.1 ho).1
  simp[opH] at k1
  have:o=0∨o=1∨o=2:=by omega
  rcases this with rfl|rfl|rfl
  ·cases ho; exact⟨_,rfl,.abs _⟩
  ·cases ho; exact⟨_,rfl,.abs _⟩
  ·cases ho; exact⟨_,rfl,.cells (.cons (.ptr (ρ:=fun o=>o+2) 1 0 (Nat.lt_succ_of_lt (Nat.lt_succ_self 1))) .nil)⟩
 ·have k1:=(List.getElem?_eq_some_iff.1 ho).1
  simp[opH] at k1
  have:o=0∨o=1∨o=2:=by omega
  rcases this with rfl|rfl|rfl
  ·cases ho; exact⟨_,by rw[q0,List.getElem?_append_right (Nat.le_refl _)]; simp[opH],.abs _,fun h=>h⟩
  ·cases ho; exact⟨_,by rw[q1,List.getElem?_append_right (by omega)]; simp[opH],.abs _,fun h=>h⟩
  ·cases ho
   refine⟨.cells [.ptr (H.length+1) 0],by rw[q2,List.getElem?_append_right (by omega)]; simp[opH],.cells (.cons ?_ .nil),fun h=>h⟩
   have:=Ren.ptr (ρ:=aN (fun o=>o) ([]:ae).length H.length) (n:=3) 1 0 (by decide)
   rw[q1] at this
   exact this
end Go.Proofs.YtenaelaapdhbdaaDoor
