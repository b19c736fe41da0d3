/-
  VerdictOnce: its loop.
-/
import Derived.Test.YtenaelaapdhbdaaDoorDbo
import Derived.Test.YtenaelaapdhbdaaDoorProg
namespace Go.Proofs.YtenaelaapdhbdaaDoor
open Go Go.AM Go.Proofs
def TOC:Tab:=[(7,.heap kQ),(8,.pure z5)]
theorem Cj:aE Tryd.prog gl TOC:= .cons qp (.cons Ax (.nil _ _))
structure Td where
 ins:Int
 id:Int
 r:Int
instance:Inhabited Td:=⟨⟨0,0,0⟩⟩
def tdc (x:Td):List PV:=[.int .u32 x.ins,.int .u32 x.id,.int .i64 x.r]
theorem xo (x:Td):(tdc x).length=3:=rfl
theorem n9 {n:Nat} (x:Td):∀ y∈tdc x,Low n y:=dy (.int _ _) (.int _ _) (.int _ _)
theorem Fp (d:Wd) (ra:List RwI) (w:List Mt) (rk:List PV) (told:List Td) (i:Nat):(by refine(?_:_→_→_→_→_→Prop) (List.getD (told.map tdc) (Int.toNat (i:Int)) []) [PV.list (d.ra.map prC) .no,.list (d.rows.map lcs) .no,.list (d.st.map i1) .no] [PV.list (told.map tdc) .no,.ptr 1 0,.ptr 3 0,.list [] .exact,.int .i64 i] (Ob.abs (rkM (aq w) 6)) (PV.list (told.map tdc) .no); exact fun q s x B D=>by refine(?_:_→_→Prop) [[PV.int .u32 (cI q 1)]] (PV.int .u32 (cI q 1)); exact fun A C=>by refine(?_:_→Prop) [PV.int .u32 (cI q 0),C,.int .i64 (cI q 2)]; exact fun u=>by refine(?_:_→Prop) [Ob.cells s,.abs (rkI ra 40),B,.cells [.ptr 2 0],.cells rk,.cells u]; exact fun y=>∀(R:Ex→List PV→ag→Prop),(br (decide ((i:Int)<(↑(List.length (told.map tdc)):Int))) (InL (told.map tdc) 3 (i:Int)∧br (true && aH [.int .u32,.int .u32,.int .i64] 0 q) (∃(ra_1:List RwI) (mb:Int) (w_1:List Mt) (m:Int) (ins:Int) (id:Int) (r:Int),by refine(?_:_→Prop) (bn ra_1 mb w_1 ins id r); exact fun f=>by refine(?_:_→_→_→_→Prop) (Ob.cells [.int .u32 (Vd.m (Rp.v f)),.int .u32 (Vd.i (Rp.v f)),.int .i64 (Vd.r (Rp.v f)),.list (List.map u1 (Vd.ps (Rp.v f))) .no,.list (List.map i1 (Vd.old (Rp.v f))) .no,.list (List.map i1 (Vd.new (Rp.v f))) .no]) (Ob.cells [.int .u32 (Mt.id (Rp.c f)),.int .i64 (Mt.md (Rp.c f)),.int .u32 (Mt.ins (Rp.c f)),.list (List.map rrc (Mt.rows (Rp.c f))) .no,.list (List.map stc (Mt.aa (Rp.c f))) .no]) (Ob.abs (rkM (aq (Rp.w f)) m)) (Ob.abs (rkI (Rp.ra f) mb)); exact fun h j n p=>by refine(?_:_→_→Prop) [Ob.cells s,p,n,.cells [.ptr 2 0],.cells rk,.cells u,h,j] [Ob.cells s,p,n,.cells [.ptr 2 0],.cells rk,.cells u,h,j,.tok]; exact fun a b=>by refine(?_:_→Prop) (R .ret x a); exact fun g=>ak u [.int .u32 ins,.int .u32 id,.int .i64 r]∧bH y 1 (rkI ra_1 mb)∧bM y 3 2 (rkM (aq w_1) m)∧1≠2∧Ok ra_1 mb∧MO w_1 m∧br (Rp.e f != 0) (R .normal [D,.ptr 1 0,.ptr 3 0,.list [] .exact,.int .i64 (wI ((i:Int)+1))] a) (∃(l:List Int) (tl:Tail) (t:Int),ak [.list [] .exact,C] [.list (l.map u1) tl,.int .u32 t]∧l.length≤1000000∧br (cA l t == false) (br ((cI q 0 != IntKind.wrap .u32 (cI q 1+10)) == false) (br ((Vd.m (Rp.v f) != cI q 1) == false) (br ((Vd.i (Rp.v f) != cI q 0) == false) (br ((Vd.r (Rp.v f) != cI q 2) == false) (br (decide (cI q 2<0) == false) (br (decide (cI q 2>2)) g (bf [] A 1 4∧(List.all [C] PV.one=true∧A≠[])∧∃(k:Nat) (ra:List RwI) (w:List Mt) (T1:PV) (l:List Int) (i_1:Nat),l.length≤1000000∧Ok ra 40∧MO w 6∧(∀(z:Int),z∈l→aX Mt.id w z=false)∧Low 0 T1∧ak [D,.ptr 1 0,.ptr 3 0,.list A (.tok 8),.int .i64 i,.int .i64 0] [T1,.ptr 1 0,.ptr 3 0,.list (l.map u1) (.tok k),.int .i64 i_1,.int .i64 0]∧bH b 1 (rkI ra 40)∧bM b 3 2 (rkM (aq w) 6)∧Ih b k∧4≤k∧R .normal [T1,.ptr 1 0,.ptr 3 0,.list (l.map u1) (.tok k),.int .i64 (wI ((i_1:Int)+1))] b)) g) g) g) g) g) g)) False) (R (.exit 0) x [.cells s,.abs (rkI ra 40),B,.cells [.ptr 2 0],.cells rk]))→Holds (wpc br Tryd.prog gl TOC [([1,0,0,1,1,1,1,1,1,0],wM)] (fun o=>match o.dst with|some 105=>1|_=>0) (av [1,1,1,1,0,1,0] (aj Tryd.f3)) [] (ax [1,5,6,9,10] x) [.cells (wdC d),.abs (rkI ra 40),B,.cells [.ptr 2 0],.cells rk] (fun ex e H=>R ex (List.map e [1,5,6,9,10]) H)):Prop):=fun R h=>ah (by kernel_rfl) h
theorem HX (d:Wd) (ra:List RwI) (w:List Mt) (rk:List PV) (told:List Td) (l:List Int) (i:Nat):(by refine(?_:_→_→_→_→_→Prop) (List.getD (told.map tdc) (Int.toNat (i:Int)) []) [PV.list (d.ra.map prC) .no,.list (d.rows.map lcs) .no,.list (d.st.map i1) .no] (PV.list (l.map u1) (.tok 5)) (Ob.abs (rkM (aq w) 6)) (PV.list (told.map tdc) .no); exact fun q s A C E=>by refine(?_:_→_→_→Prop) [PV.list (told.map tdc) .no,.ptr 1 0,.ptr 3 0,A,.int .i64 i] [[PV.int .u32 (cI q 1)]] (PV.int .u32 (cI q 1)); exact fun x B D=>by refine(?_:_→Prop) [PV.int .u32 (cI q 0),D,.int .i64 (cI q 2)]; exact fun u=>by refine(?_:_→Prop) [Ob.cells s,.abs (rkI ra 40),C,.cells [.ptr 2 0],.cells rk,.tok,.cells u]; exact fun y=>∀(R:Ex→List PV→ag→Prop),(br (decide ((i:Int)<(↑(List.length (told.map tdc)):Int))) (InL (told.map tdc) 3 (i:Int)∧br (true && aH [.int .u32,.int .u32,.int .i64] 0 q) (∃(ra_1:List RwI) (mb:Int) (w_1:List Mt) (m:Int) (ins:Int) (id:Int) (r:Int),by refine(?_:_→Prop) (bn ra_1 mb w_1 ins id r); exact fun f=>by refine(?_:_→_→_→_→Prop) (Ob.cells [.int .u32 (Vd.m (Rp.v f)),.int .u32 (Vd.i (Rp.v f)),.int .i64 (Vd.r (Rp.v f)),.list (List.map u1 (Vd.ps (Rp.v f))) .no,.list (List.map i1 (Vd.old (Rp.v f))) .no,.list (List.map i1 (Vd.new (Rp.v f))) .no]) (Ob.cells [.int .u32 (Mt.id (Rp.c f)),.int .i64 (Mt.md (Rp.c f)),.int .u32 (Mt.ins (Rp.c f)),.list (List.map rrc (Mt.rows (Rp.c f))) .no,.list (List.map stc (Mt.aa (Rp.c f))) .no]) (Ob.abs (rkM (aq (Rp.w f)) m)) (Ob.abs (rkI (Rp.ra f) mb)); exact fun h j n p=>by refine(?_:_→_→Prop) [Ob.cells s,p,n,.cells [.ptr 2 0],.cells rk,.tok,.cells u,h,j] [Ob.cells s,p,n,.cells [.ptr 2 0],.cells rk,.dead,.cells u,h,j,.tok]; exact fun a b=>by refine(?_:_→Prop) (R .ret x a); exact fun g=>ak u [.int .u32 ins,.int .u32 id,.int .i64 r]∧bH y 1 (rkI ra_1 mb)∧bM y 3 2 (rkM (aq w_1) m)∧1≠2∧Ok ra_1 mb∧MO w_1 m∧br (Rp.e f != 0) (R .normal [E,.ptr 1 0,.ptr 3 0,A,.int .i64 (wI ((i:Int)+1))] a) (∃(l_1:List Int) (tl:Tail) (t:Int),ak [A,D] [.list (l_1.map u1) tl,.int .u32 t]∧l_1.length≤1000000∧br (cA l_1 t == false) (br ((cI q 0 != IntKind.wrap .u32 (cI q 1+10)) == false) (br ((Vd.m (Rp.v f) != cI q 1) == false) (br ((Vd.i (Rp.v f) != cI q 0) == false) (br ((Vd.r (Rp.v f) != cI q 2) == false) (br (decide (cI q 2<0) == false) (br (decide (cI q 2>2)) g (bf (l.map u1) B 1 4∧(List.all [D] PV.one=true∧B≠[])∧∃(k:Nat) (ra:List RwI) (w:List Mt) (T1:PV) (l_2:List Int) (i_1:Nat),l_2.length≤1000000∧Ok ra 40∧MO w 6∧(∀(z:Int),z∈l_2→aX Mt.id w z=false)∧Low 0 T1∧ak [E,.ptr 1 0,.ptr 3 0,.list (l.map u1++B) (.tok 9),.int .i64 i,.int .i64 0] [T1,.ptr 1 0,.ptr 3 0,.list (l_2.map u1) (.tok k),.int .i64 i_1,.int .i64 0]∧bH b 1 (rkI ra 40)∧bM b 3 2 (rkM (aq w) 6)∧Ih b k∧4≤k∧R .normal [T1,.ptr 1 0,.ptr 3 0,.list (l_2.map u1) (.tok k),.int .i64 (wI ((i_1:Int)+1))] b)) g) g) g) g) g) g)) False) (R (.exit 0) x [.cells s,.abs (rkI ra 40),C,.cells [.ptr 2 0],.cells rk,.tok]))→Holds (wpc br Tryd.prog gl TOC [([1,0,0,1,1,1,1,1,1,0],wM)] (fun o=>match o.dst with|some 105=>1|_=>0) (av [1,1,1,1,0,1,0] (aj Tryd.f3)) [] (ax [1,5,6,9,10] x) [.cells (wdC d),.abs (rkI ra 40),C,.cells [.ptr 2 0],.cells rk,.tok] (fun ex e H=>R ex (List.map e [1,5,6,9,10]) H)):Prop):=fun R h=>ah (by kernel_rfl) h
def fY (w:List Mt):Prop:=∀ c∈w,c.ins=IntKind.wrap .u32 (c.id+10)
theorem qA {w:List Mt} {c:Mt} (h:fY w) (hc:c.ins=IntKind.wrap .u32 (c.id+10)):fY (eX Mt.id w c):=by
 intro b hb
 unfold eX at hb
 rcases List.mem_append.1 hb with k|k
 ·exact h b (List.mem_filter.1 k).1
 ·rcases List.mem_cons.1 k with rfl|k
  ·exact hc
  ·exact h b (List.mem_filter.1 k).1
theorem yX {w:List Mt} (h:fY w) (p st un no:Int):fY (dB w p st un no).1:=by
 unfold dB
 by_cases c:aX Mt.id w (ofM w p)=false
 ·rw[if_pos c]; exact h
 ·rw[if_neg c]
  split
  ·exact h
  ·exact qA h (show(gM w (ofM w p)).ins=IntKind.wrap .u32 ((gM w (ofM w p)).id+10) from h _ (eg (eq_true_of_ne_false c)).1)
theorem D8 (ps:List Int) (t:Int):∀ c:Mt,(cC c ps t).ins=c.ins:=by
 induction ps with
 | nil=>intro c; rfl
 | cons p ps ih=>intro c; show(cC (fG c p t) ps t).ins=_; rw[ih]; rfl
theorem uq (l:List Rr):∀ c:Mt,(aB c l).ins=c.ins:=by
 induction l with
 | nil=>intro c; rfl
 | cons r l ih=>intro c; show(aB (fh c r) l).ins=_; rw[ih]; show(cC c r.pl r.tm).ins=_; rw[D8]
theorem vB {w:List Mt} (h:fY w) (m id md ins:Int) (l:List Rr) (hi:ins=IntKind.wrap .u32 (id+10)):fY (cX w m id md ins l).1:=by
 unfold cX
 split
 ·exact h
 split
 ·exact h
 split
 ·exact h
 split
 ·exact h
 split
 ·exact h
 ·exact qA h (by rw[uq,fP]; exact hi)
theorem zG {st:List Int} {x:List Mt×Nat} (h:fY x.1) (ps:List Int):fY (vsP st x ps).1:=by
 unfold vsP
 induction ps generalizing x with
 | nil=>exact h
 | cons p ps ih=>
  rw[List.foldl_cons]
  unfold vsS
  by_cases c:x.2<st.length
  ·rw[if_pos c]; exact ih (yX h _ _ _ _)
  ·rw[if_neg c]; exact ih h
theorem yQ {st:List Int} {x:List Mt×Nat} (h:fY x.1) (rows:List Rr):fY (vsR st x rows).1:=by
 unfold vsR
 induction rows generalizing x with
 | nil=>exact h
 | cons r rows ih=>exact ih (zG h r.pl)
theorem oN (d:Wd):∀ i:Nat,i≤6→fY (dY d i).1
 | 0,_=>fun _ h=>nomatch h
 | i+1,h=>yQ (x:=((cX (dY d i).1 6 (i+1) 0 (i+11) (d.rows.getD i [])).1,(dY d i).2)) (vB (oN d i (by omega)) _ _ _ _ _ (by rw[wrap_u32 (by omega) (by omega)]; omega)) _
theorem J4 {ra:List RwI} {c:Mt} {r:Int} (h:(bL ra c r).2=0):(bL ra c r).1.m=c.id∧(bL ra c r).1.i=c.ins∧(bL ra c r).1.r=r∧0≤r∧r<3:=by
 unfold bL at h ⊢
 by_cases c1:r<0∨3≤r
 ·rw[if_pos c1] at h; exact absurd h (show ¬ (2:Int)=0 by decide)
 rw[if_neg c1] at h ⊢
 have b:0≤r∧r<3:=by omega
 by_cases c2:(bA ra c.aa 1).2.2≠0
 ·rw[if_pos c2] at h; exact absurd h c2
 rw[if_neg c2] at h ⊢
 by_cases c3:(bA ra c.aa 2).2.2≠0
 ·rw[if_pos c3] at h; exact absurd h c3
 rw[if_neg c3] at h ⊢
 by_cases c4:0<(bA ra c.aa 1).2.1.length∧0<(bA ra c.aa 2).2.1.length
 ·rw[if_pos c4] at h ⊢
  by_cases c5:(Elo.upd (bA ra c.aa 1).2.1 (bA ra c.aa 2).2.1 r).2.2≠0
  ·rw[if_pos c5] at h; exact absurd h c5
  ·rw[if_neg c5]; exact⟨rfl,rfl,rfl,b⟩
 ·rw[if_neg c4]; exact⟨rfl,rfl,rfl,b⟩
theorem Mk {ra:List RwI} {mb:Int} {w:List Mt} {ins id r:Int} (h:(bn ra mb w ins id r).e=0):aX Mt.id w id=true∧(gM w id).ins=ins∧(bn ra mb w ins id r).v.m=id∧(bn ra mb w ins id r).v.i=ins∧(bn ra mb w ins id r).v.r=r∧0≤r∧r<3∧(bn ra mb w ins id r).w=dN Mt.id w id:=by
 unfold bn at h ⊢
 by_cases c1:aX Mt.id w id=false
 ·rw[if_pos c1] at h; exact absurd h (show ¬ (12:Int)=0 by decide)
 rw[if_neg c1] at h ⊢
 by_cases c2:(gM w id).ins≠ins
 ·rw[if_pos c2] at h; exact absurd h (show ¬ (13:Int)=0 by decide)
 rw[if_neg c2] at h ⊢
 by_cases c3:(bL ra (gM w id) r).2≠0
 ·rw[if_pos c3] at h; exact absurd h c3
 rw[if_neg c3]
 obtain⟨h1,h2,h3,h4,h5⟩:=J4 (Decidable.not_not.1 c3)
 have hm:=eq_true_of_ne_false c1
 exact⟨hm,Decidable.not_not.1 c2,h1.trans (MO.HK hm),h2.trans (Decidable.not_not.1 c2),h3,h4,h5,rfl⟩
theorem LG {ra:List RwI} {mb:Int} {w:List Mt} {ins id r:Int} (h:(bn ra mb w ins id r).e≠0):(bn ra mb w ins id r).ra=ra∧(bn ra mb w ins id r).w=w:=by
 unfold bn at h ⊢
 split
 ·exact⟨rfl,rfl⟩
 split
 ·exact⟨rfl,rfl⟩
 split
 ·exact⟨rfl,rfl⟩
 ·rename_i c1 c2 c3
  rw[if_neg c1,if_neg c2,if_neg c3] at h
  exact absurd rfl h
theorem qD {w:List Mt} {t z:Int} (h:aX Mt.id w z=false):aX Mt.id (dN Mt.id w t) z=false:=by
 cases c:aX Mt.id (dN Mt.id w t) z with
 | false=>rfl
 | true=>
  obtain⟨b,h1,h2⟩:=cy.1 c
  rw[cy.2 ⟨b,(List.mem_filter.1 h1).1,h2⟩] at h; exact h
theorem oF {w:List Mt} {t:Int}:aX Mt.id (dN Mt.id w t) t=false:=by
 cases c:aX Mt.id (dN Mt.id w t) t with
 | false=>rfl
 | true=>
  obtain⟨b,h1,h2⟩:=cy.1 c
  have:=(List.mem_filter.1 h1).2
  simp[h2] at this
structure On where
 i:Nat
 ra:List RwI
 w:List Mt
 l:List Int
def OnI (n:Nat) (s:On):Prop:=s.i≤n∧Ok s.ra 40∧MO s.w 6∧fY s.w∧(∀ z∈s.l,aX Mt.id s.w z=false)∧s.l.length≤s.i
theorem HJ {d:Wd} {ra:List RwI} {w:List Mt} {rk:List PV} (hrk:∀ x∈rk,Low 0 x):∀(o:Nat) cs,([.cells (wdC d),.abs (rkI ra 40),.abs (rkM (aq w) 6),.cells [.ptr 2 0],.cells rk]:ag)[o]?=some (.cells cs)→∀ x∈cs,Low 5 x:=by
 intro o cs ho
 have k1:=(List.getElem?_eq_some_iff.1 ho).1
 simp at k1
 have:o=0∨o=1∨o=2∨o=3∨o=4:=by omega
 rcases this with rfl|rfl|rfl|rfl|rfl<;>cases ho
 ·exact nW d
 ·exact bF (.ptr _ _ (by decide))
 ·exact fun x hx=>(hrk x hx).up
theorem Jz {told:List Td} {T:PV} {i:Int} (hT:Low 5 T):∀ v∈[.list (told.map tdc) .no,.ptr 1 0,.ptr 3 0,T,.int .i64 i],Low 5 v:=by
 intro v hv
 simp only[List.mem_cons,List.not_mem_nil,or_false] at hv
 rcases hv with rfl|rfl|rfl|rfl|rfl
 ·exact bB n9 _
 ·exact .ptr _ _ (by decide)
 ·exact .ptr _ _ (by decide)
 ·exact hT
 ·exact .int _ _
def IC:LSp:=fun e H Q=>∃(d:Wd) (ra:List RwI) (w:List Mt) (rk:List PV) (told:List Td),told.length≤20∧Ok ra 40∧MO w 6∧fY w∧(∀ x∈rk,Low 0 x)∧ak (List.map e [1,5,6,9,10]) [.list (told.map tdc) .no,.ptr 1 0,.ptr 3 0,.list [] .exact,.int .i64 0]∧aC H [.cells (wdC d),.abs (rkI ra 40),.abs (rkM (aq w) 6),.cells [.ptr 2 0],.cells rk]∧(∀(vs:List PV) (H2:ag),Q (.exit 0) (ax [1,5,6,9,10] vs) H2)
set_option maxRecDepth 10000 in
theorem Cx:∀ e H Q,IC e H Q→AW Tryd.prog gl Tryd.f3.ntmps (.loop (av [1,1,1,1,0,1,0] (aj Tryd.f3))) Q e H:=by
 rintro e H Q ⟨d,ra,w,rk,told,hn,ok0,ro0,hin0,hrk,he,hH,hQ⟩
 refine uY (f:=u1) (acc:=fun s:On=>s.l) (I:=OnI told.length) (m:=fun s=>told.length-s.i) ay [1,5,6,9,10] (fun T s=>[.list (told.map tdc) .no,.ptr 1 0,.ptr 3 0,T,.int .i64 s.i]) (fun s=>[.cells (wdC d),.abs (rkI s.ra 40),.abs (rkM (aq s.w) 6),.cells [.ptr 2 0],.cells rk]) 5 ⟨0,ra,w,[]⟩ (fun _=>rfl)
  (fun s _=>HJ hrk) (fun _ _ a _=>bU a) (fun es s j _ h=> .same (bB n9 _) (.same (.ptr _ _ (by decide)) (.same (.ptr _ _ (by decide)) (.row h (.same (.int _ _) .nil))))) (fun s _=>Jz vk) ⟨Nat.zero_le _,ok0,ro0,hin0,(fun _ h=>nomatch h),Nat.zero_le _⟩ rfl he hH ?_ ?_
 ·intro s hI ha
  have ha:s.l=[]:=ha
  refine aZ Cj (av [1,1,1,1,0,1,0] (aj Tryd.f3)) [] (.cons (aK (by kernel_rfl)) qT (.nil _ _ _ _ _)) _ _ _ (Fp d s.ra s.w rk told s.i _ ?_).out
  simp only[az,dt,au,List.length_map]
  obtain⟨hi,ok,ro,hin,hl,hll⟩:=hI
  by_cases h:s.i<told.length
  ·rw[if_pos (by omega)]
   obtain⟨x,hx⟩:∃ x,x=told.getD s.i default:=⟨_,rfl⟩
   have inl:InL (told.map tdc) 3 (s.i:Int):=by rw[dA xo (by decide)]; exact h
   have t0:∀ x:Td,cI (tdc x) 0=x.ins:=fun _=>rfl
   have t1:∀ x:Td,cI (tdc x) 1=x.id:=fun _=>rfl
   have t2:∀ x:Td,cI (tdc x) 2=x.r:=fun _=>rfl
   simp only[getD_map default h,← hx,t0,t1,t2]
   refine⟨inl,?_⟩
   rw[if_pos (by rfl)]
   refine⟨s.ra,40,s.w,6,x.ins,x.id,x.r,rfl,rfl,⟨rfl,rfl⟩,by decide,ok,ro,?_⟩
   obtain⟨ok2,ro2⟩:=iq ok ro x.ins x.id x.r
   have r0:=Mk (ra:=s.ra) (mb:=40) (w:=s.w) (ins:=x.ins) (id:=x.id) (r:=x.r)
   have rN:=LG (ra:=s.ra) (mb:=40) (w:=s.w) (ins:=x.ins) (id:=x.id) (r:=x.r)
   obtain⟨p,hp⟩:∃ p,p=bn s.ra 40 s.w x.ins x.id x.r:=⟨_,rfl⟩
   simp only[← hp] at ok2 ro2 r0 rN ⊢
   by_cases c:p.e=0
   ·rw[if_neg (by simp[c])]
    obtain⟨g1,g2,g3,g4,g5,g6,g7,g8⟩:=r0 c
    have hm:=eg g1
    have e10:x.ins=IntKind.wrap .u32 (x.id+10):=by
     have h1:=hin _ hm.1
     have h2:(gM s.w x.id).id=x.id:=hm.2
     have h3:(gM s.w x.id).ins=IntKind.wrap .u32 ((gM s.w x.id).id+10):=h1
     rw[g2,h2] at h3; exact h3
    have nin:x.id∉s.l:=fun k=>by rw[hl _ k] at g1; cases g1
    refine⟨s.l,.exact,x.id,by rw[ha]; rfl,by omega,?_⟩
    rw[if_pos (by rw[eq_false_of_ne_true (fun k=>nin (iG.1 k))]; rfl),if_pos (by simp[← e10]),if_pos (by simp[g3]),if_pos (by simp[g4]),if_pos (by simp[g5]),if_pos (by simp; omega),if_neg (by simp; omega)]
    have hl2:∀ z∈s.l++[x.id],aX Mt.id p.w z=false:=fun z hz=>by
     rw[g8]
     rcases List.mem_append.1 hz with k|k
     ·exact qD (hl z k)
     ·rw[List.mem_singleton.1 k]; exact oF
    refine⟨aN (l:=[]) (by_:=4) dz x.id (by show(0+1)*4≤_; decide),one_row ef x.id,8,p.ra,p.w,.list (told.map tdc) .no,s.l++[x.id],s.i,by simp; omega,ok2,ro2,hl2,bB n9 _,by rw[ha]; rfl,rfl,⟨rfl,rfl⟩,rfl,by decide,?_⟩
    exact⟨⟨s.i+1,p.ra,p.w,s.l++[x.id]⟩,(show told.length-(s.i+1)<told.length-s.i by omega),⟨h,ok2,ro2,by rw[g8]; exact fun b hb=>hin b (List.mem_filter.1 hb).1,hl2,by simp; omega⟩,.inr ⟨by simp,[_,_,_,.tok],8,rfl,rfl,by simp,by(try dsimp only); rw[aA h (by omega),ha]⟩⟩
   ·rw[if_pos (by simpa using c)]
    obtain⟨n1,n2⟩:=rN c
    simp only[n1,n2]
    exact⟨⟨s.i+1,s.ra,s.w,s.l⟩,(show told.length-(s.i+1)<told.length-s.i by omega),⟨h,ok,ro,hin,hl,by show s.l.length≤s.i+1; omega⟩,.inl ⟨ha,[_,_,_],rfl,by(try dsimp only); rw[aA h (by omega)]⟩⟩
  ·rw[if_neg (by omega)]
   exact⟨_,_,WkL.refl _,Pad.refl _,hQ _ _⟩
 ·intro s hI ha
  have ha:s.l≠[]:=ha
  refine aZ Cj (av [1,1,1,1,0,1,0] (aj Tryd.f3)) [] (.cons (aK (by kernel_rfl)) qT (.nil _ _ _ _ _)) _ _ _ (HX d s.ra s.w rk told s.l s.i _ ?_).out
  simp only[az,dt,au,List.length_map]
  obtain⟨hi,ok,ro,hin,hl,hll⟩:=hI
  by_cases h:s.i<told.length
  ·rw[if_pos (by omega)]
   obtain⟨x,hx⟩:∃ x,x=told.getD s.i default:=⟨_,rfl⟩
   have inl:InL (told.map tdc) 3 (s.i:Int):=by rw[dA xo (by decide)]; exact h
   have t0:∀ x:Td,cI (tdc x) 0=x.ins:=fun _=>rfl
   have t1:∀ x:Td,cI (tdc x) 1=x.id:=fun _=>rfl
   have t2:∀ x:Td,cI (tdc x) 2=x.r:=fun _=>rfl
   simp only[getD_map default h,← hx,t0,t1,t2]
   refine⟨inl,?_⟩
   rw[if_pos (by rfl)]
   refine⟨s.ra,40,s.w,6,x.ins,x.id,x.r,rfl,rfl,⟨rfl,rfl⟩,by decide,ok,ro,?_⟩
   obtain⟨ok2,ro2⟩:=iq ok ro x.ins x.id x.r
   have r0:=Mk (ra:=s.ra) (mb:=40) (w:=s.w) (ins:=x.ins) (id:=x.id) (r:=x.r)
   have rN:=LG (ra:=s.ra) (mb:=40) (w:=s.w) (ins:=x.ins) (id:=x.id) (r:=x.r)
   obtain⟨p,hp⟩:∃ p,p=bn s.ra 40 s.w x.ins x.id x.r:=⟨_,rfl⟩
   simp only[← hp] at ok2 ro2 r0 rN ⊢
   by_cases c:p.e=0
   ·rw[if_neg (by simp[c])]
    obtain⟨g1,g2,g3,g4,g5,g6,g7,g8⟩:=r0 c
    have hm:=eg g1
    have e10:x.ins=IntKind.wrap .u32 (x.id+10):=by
     have h1:=hin _ hm.1
     have h2:(gM s.w x.id).id=x.id:=hm.2
     have h3:(gM s.w x.id).ins=IntKind.wrap .u32 ((gM s.w x.id).id+10):=h1
     rw[g2,h2] at h3; exact h3
    have nin:x.id∉s.l:=fun k=>by rw[hl _ k] at g1; cases g1
    refine⟨s.l,.tok 5,x.id,rfl,by omega,?_⟩
    rw[if_pos (by rw[eq_false_of_ne_true (fun k=>nin (iG.1 k))]; rfl),if_pos (by simp[← e10]),if_pos (by simp[g3]),if_pos (by simp[g4]),if_pos (by simp[g5]),if_pos (by simp; omega),if_neg (by simp; omega)]
    have hl2:∀ z∈s.l++[x.id],aX Mt.id p.w z=false:=fun z hz=>by
     rw[g8]
     rcases List.mem_append.1 hz with k|k
     ·exact qD (hl z k)
     ·rw[List.mem_singleton.1 k]; exact oF
    refine⟨aN (by_:=4) dz s.l x.id (by omega),one_row ef x.id,9,p.ra,p.w,.list (told.map tdc) .no,s.l++[x.id],s.i,by simp; omega,ok2,ro2,hl2,bB n9 _,by rw[List.map_append]; rfl,rfl,⟨rfl,rfl⟩,rfl,by decide,?_⟩
    exact⟨⟨s.i+1,p.ra,p.w,s.l++[x.id]⟩,(show told.length-(s.i+1)<told.length-s.i by omega),⟨h,ok2,ro2,by rw[g8]; exact fun b hb=>hin b (List.mem_filter.1 hb).1,hl2,by simp; omega⟩,.inr ⟨by simp,[.dead,_,_,_,.tok],9,rfl,rfl,by simp,by(try dsimp only); rw[aA h (by omega)]⟩⟩
   ·rw[if_pos (by simpa using c)]
    obtain⟨n1,n2⟩:=rN c
    simp only[n1,n2]
    exact⟨⟨s.i+1,s.ra,s.w,s.l⟩,(show told.length-(s.i+1)<told.length-s.i by omega),⟨h,ok,ro,hin,hl,by show s.l.length≤s.i+1; omega⟩,.inr ⟨ha,[.tok,_,_,_],5,rfl,rfl,by simp,by(try dsimp only); rw[aA h (by omega)]⟩⟩
  ·rw[if_neg (by omega)]
   exact⟨_,_,WkL.refl _,Pad.refl _,hQ _ _⟩
end Go.Proofs.YtenaelaapdhbdaaDoor
