/-
  Seats and rows, in part.
-/
import Derived.Test.YtenaelaapdhbdaaDoorDc
import Derived.Test.YtenaelaapdhbdaaDoorDe
import Derived.Test.YtenaelaapdhbdaaDoorProg
namespace Go.Proofs.YtenaelaapdhbdaaDoor
open Go Go.AM Go.Proofs
theorem Kh (l:List (Int)) (t:Int) (i:Nat):(by refine(?_:_→_→_→Prop) (List.getD (l.map u1) (Int.toNat (i:Int)) []) (PV.int .i64 l.length) (PV.list (l.map u1) .no); exact fun b c d=>by refine(?_:_→Prop) [PV.list (l.map u1) .no,.int .u32 t,.int .i64 0,c,.int .i64 i]; exact fun a=>∀(R:Ex→List PV→ae→Prop),(br (decide ((i:Int)<(l.length:Int))) (InL (l.map u1) 1 (i:Int)∧br (true && aP [.int .u32] 0 b) (br (t == cI b 0) (R .ret [d,.int .u32 t,.int .i64 i,c,.int .i64 i] []) (R .normal [d,.int .u32 t,.int .i64 0,c,.int .i64 (wI ((i:Int)+1))] [])) False) (R (.exit 0) a []))→Holds (wpc br Tryd.prog gl [] [] (fun _=>0) (an [1,0,1,0] (ai Tryd.f80)) [] (av [0,1,4,7,8] a) [] (fun ex e H=>R ex (List.map e [0,1,4,7,8]) H)):Prop):=fun R h=>ag (by kernel_rfl) h
def Hv:LSp:=fun e H Q=>∃(l:List (Int)) (t:Int),l.length≤1000000∧(True)∧ak (List.map e [0,1,4,7,8]) [.list (l.map u1) .no,.int .u32 t,.int .i64 0,.int .i64 l.length,.int .i64 0]∧az H []∧
 (l.findIdx (fun x=>t == x)<l.length→Q .ret (av [0,1,4,7,8] [.list (l.map u1) .no,.int .u32 t,.int .i64 (l.findIdx (fun x=>t == x)),.int .i64 l.length,.int .i64 (l.findIdx (fun x=>t == x))]) [])∧(l.findIdx (fun x=>t == x)=l.length→Q (.exit 0) (av [0,1,4,7,8] [.list (l.map u1) .no,.int .u32 t,.int .i64 0,.int .i64 l.length,.int .i64 l.length]) [])
theorem CE:∀ e H Q,Hv e H Q→AW Tryd.prog gl Tryd.f80.ntmps (.loop (an [1,0,1,0] (ai Tryd.f80))) Q e H:=by
 rintro e H Q ⟨l,t,hl,_,he,hH,hQ1,hQ2⟩
 have hfl:l.findIdx (fun x=>t == x)≤l.length:=List.findIdx_le_length
 refine aG (hn:=fun _=>0) aq (.nil _ _) (.nil _ _ _ _ _) (σ:=Nat) [0,1,4,7,8] (fun i=>i≤l.findIdx (fun x=>t == x)) (fun i=>[.list (l.map u1) .no,.int .u32 t,.int .i64 0,.int .i64 l.length,.int .i64 i]) (fun _=>[]) (fun i=>l.length-i) 0 (Nat.zero_le _) he hH ?_
 intro i hi
 have hi':i≤l.findIdx (fun x=>t == x):=hi
 refine Kh l t i _ ?_
 simp only[ay,dt,au,ec]
 by_cases h:i<l.length
 ·rw[if_pos (by omega)]
  simp only[getD_map 0 h]
  repeat (first|refine⟨h,?_⟩|rw[if_pos (by rfl)])
  by_cases c:(fun x=>t == x) (l.getD i 0)=true
  ·have hge:l.findIdx (fun x=>t == x)=i:=dA 0 hi' h c
   rw[hge] at hQ1
   rw[if_pos (by exact c)]
   repeat (first|refine⟨h,?_⟩|rw[if_pos (by rfl)])
   exact hQ1 h
  ·have hlt:i<l.findIdx (fun x=>t == x):=dH 0 hi' h (by simpa using c)
   rw[if_neg (by exact c)]
   exact⟨i+1,(show l.length-(i+1)<l.length-i by omega),hlt,by rw[ax h (by omega)],[],rfl,Nat.le_refl _,.inl rfl⟩
 ·rw[if_neg (by omega)]
  have:i=l.length:=by omega
  subst this
  exact hQ2 (by omega)
theorem Ft (l:List Int) (t:Int):∀(K:PV→Prop),(∃(l_1:List Int) (t_1:Int),by refine(?_:_→Prop) (fun(x:Int)=>t_1 == x); exact fun a=>l_1.length≤1000000∧True∧ak [.list (l.map u1) .no,.int .u32 t,.int .i64 0,.int .i64 (↑(List.length (l.map u1)):Int),.int .i64 0] [.list (l_1.map u1) .no,.int .u32 t_1,.int .i64 0,.int .i64 l_1.length,.int .i64 0]∧az [] []∧(List.findIdx a l_1<l_1.length→K (.int .i64 (↑(List.findIdx a l_1):Int)))∧(List.findIdx a l_1=l_1.length→K (.int .i64 (-1))))→aj Tryd.prog gl 80 [.list (l.map u1) .no,.int .u32 t] [] (fun x _=>K x):=fun K h=>ah (T:=[]) (L:=[([1,0,1,0],Hv)]) (fun _=>0) Tryd.func80 (by kernel_rfl) (by kernel_rfl) (by kernel_rfl) (aB.nil _ _) (.cons (aH (by kernel_rfl)) CE (.nil _ _ _ _ _)) (ag (by kernel_rfl) h)
def tG (l:List Int) (t:Int):Int:=if l.findIdx (fun x=>t == x)<l.length then(l.findIdx (fun x=>t == x):Int) else -1
def HN (args:List PV) (K:PV→Prop):Prop:=∃(l:List Int) (t:Int),ak args [.list (l.map u1) .no,.int .u32 t]∧l.length≤1000000∧K (.int .i64 (tG l t))
theorem eE {n:Nat} (l:List Int):Low n (.list (l.map u1) .no):=bD bU l
theorem Iw:aO Tryd.prog gl 80 (.pure HN):=by
 rintro args K ⟨l,t,he,hl,hk⟩
 have he:args=_:=he
 subst he
 refine eM aq (bF (eE l) (.int _ _)) (.int _ _) (Ft l t (fun x=>x = .int .i64 (tG l t)) ⟨l,t,hl,trivial,(by show _=_; simp only[List.length_map]),rfl,fun h=>?_,fun h=>?_⟩) hk
 ·unfold tG; rw[if_pos h]
 ·unfold tG; rw[if_neg (by omega)]
def TI1:Tab:=[(80,.pure HN)]
theorem Kf:aB Tryd.prog gl TI1:= .cons Iw (.nil _ _)
theorem E5 (l:List Int) (t:Int)  (K:PV→Prop) (h:∃(l_1:List Int) (t_1:Int),ak [.list (List.map u1 l) .no,.int .u32 t] [.list (List.map u1 l_1) .no,.int .u32 t_1]∧List.length l_1≤1000000∧K (.bool (decide (tG l_1 t_1≥0)))):aj Tryd.prog gl 56 [.list (l.map u1) .no,.int .u32 t] [] (fun x _=>K x):=
 ah (T:=TI1) (L:=[]) (fun _=>0) Tryd.func56 (by kernel_rfl) (by kernel_rfl) (by kernel_rfl) (Kf) (LOk.nil _ _ _ _ _) (ag (by kernel_rfl) h)
def cf (l:List Int) (t:Int):Bool:=decide (t∈l)
theorem kp {l:List Int} {t:Int}:cf l t=true↔t∈l:=by unfold cf; rw[decide_eq_true_eq]
theorem Cv (l:List Int) (t:Int):decide (tG l t≥0)=cf l t:=by
 unfold tG cf
 have h:l.findIdx (fun x=>t == x)<l.length↔t∈l:=by
  rw[List.findIdx_lt_length]
  constructor
  ·rintro⟨x,hx,e⟩; rw[eq_of_beq e]; exact hx
  ·intro h; exact⟨t,h,by simp⟩
 by_cases c:l.findIdx (fun x=>t == x)<l.length
 ·rw[if_pos c,decide_eq_true (h.1 c),decide_eq_true (by omega)]
 ·rw[if_neg c,decide_eq_false (fun k=>c (h.2 k)),decide_eq_false (by omega)]
def Ht (args:List PV) (K:PV→Prop):Prop:=∃(l:List Int) (tl:Tail) (t:Int),ak args [.list (l.map u1) tl,.int .u32 t]∧l.length≤1000000∧K (.bool (cf l t))
theorem IA:aO Tryd.prog gl 56 (.pure Ht):=by
 rintro args K ⟨l,tl,t,he,hl,hk⟩
 have he:args=_:=he
 subst he
 exact bH aq (.cons (.list _ _) (.cons (.refl _) .nil)) (bF (eE l) (.int _ _)) (.bool _) (E5 l t (fun x=>x = .bool (cf l t)) ⟨l,t,rfl,hl,by rw[Cv]⟩) hk
theorem q7 (l:List Int):∀(K:PV→ae→Prop),(∀(b:Bool),(List.flatten (l.map u1)≠[]→b=false)→br b (K (.list [] .exact) []) (aX [] (l.map u1) 1 4∧List.all (List.flatten (l.map u1)) PV.one=true∧(l.map u1=[]→K (.list [] .exact) [])∧(l.map u1≠[]→K (.list ([]++l.map u1) (.tok 0)) [.tok])))→aj Tryd.prog gl 60 [.list (l.map u1) .no] [] K:=fun K h=>ah (T:=[]) (L:=[]) (fun o=>match o.dst with|some 7=>4|_=>0) Tryd.func60 (by kernel_rfl) (by kernel_rfl) (by kernel_rfl) (aB.nil _ _) (LOk.nil _ _ _ _ _) (ag (by kernel_rfl) h)
theorem vU (H:ae)  (K:PV→ae→Prop) (h:∀(b:Bool),(([]:List PV)≠[]→b=false)→br b (K (.list [] .exact) H) (aX [] [] 1 4∧K (.list [] .no) H)):aj Tryd.prog gl 60 [.list [] .no] H K:=
 ah (T:=[]) (L:=[]) (fun _=>0) Tryd.func60 (by kernel_rfl) (by kernel_rfl) (by kernel_rfl) (aB.nil _ _) (LOk.nil _ _ _ _ _) (ag (by kernel_rfl) h)
theorem wX (H:ae) (l:List Int):∀(K:PV→ae→Prop),(∀(b:Bool),(List.flatten (l.map u1)≠[]→b=false)→br b (K (.list [] .exact) H) (List.length (List.flatten (l.map u1))=List.length (l.map u1)*1∧List.length (l.map u1)*4≤140737488355328∧0<List.length (l.map u1)∧∀(c:Nat),List.length (l.map u1)≤c→K (.arr H.length 0 (List.length (l.map u1)) c) (H++[.cells (List.flatten (l.map u1)++List.flatten (List.replicate (c-List.length (l.map u1)) [.int .u32 0]))])))→aj Tryd.prog gl 60 [.list (l.map u1) .no] H K:=fun K h=>ah (T:=[]) (L:=[]) (fun o=>match o.dst with|some 7=>2|_=>0) Tryd.func60 (by kernel_rfl) (by kernel_rfl) (by kernel_rfl) (aB.nil _ _) (LOk.nil _ _ _ _ _) (ag (by kernel_rfl) h)
theorem vv {l:List Int} (h:l≠[]):(l.map u1).flatten≠[]:=by
 cases l with
 | nil=>exact absurd rfl h
 | cons a l=>simp[u1]
def zg (args:List PV) (K:List (List PV)→Prop):Prop:=∃(l:List Int) (tl:Tail),ak args [.list (l.map u1) tl]∧l.length≤1000000∧K (l.map u1)
theorem AY:aO Tryd.prog gl 60 (.mk zg):=by
 rintro args K ⟨l,tl,he,hl,hk⟩
 have he:args=_:=he
 subst he
 refine⟨l.map u1,hk,H8 aq (.cons (.list _ _) .nil) (bw (eE l)) (by have:=EE (n:=0) l (J:=[]) (fun _ h=>nomatch h); simpa using this) (q7 l _ ?_)⟩
 intro b hb
 rw[ay]
 cases b with
 | true=>
  rw[if_pos rfl]
  have hn:l=[]:=Classical.byContradiction fun h=>absurd (hb (vv h)) (by decide)
  subst hn
  exact⟨fun _=>rfl,fun h=>absurd rfl h⟩
 | false=>
  rw[if_neg (by decide)]
  refine⟨⟨(fun _ h=>nomatch h),b9 dN l,by simp; omega⟩,?_,fun h=>?_,fun h=>?_⟩
  ·exact List.all_eq_true.2 (by have:=vX l; intro y hy; obtain⟨c,h2,h3⟩:=List.mem_flatten.1 hy; obtain⟨a,_,rfl⟩:=List.mem_map.1 h2; exact ey a y h3)
  ·exact⟨fun _=>rfl,fun h2=>absurd h h2⟩
  ·exact⟨fun h2=>absurd h2 h,fun _=>⟨0,rfl,rfl⟩⟩
def It (args:List PV) (H:ae) (K:PV→ae→Prop):Prop:=∃(l:List Int) (tl:Tail),ak args [.list (l.map u1) tl]∧l.length≤1000000∧(l=[]→K (.list [] .no) H)∧
 (l≠[]→∀(cap:Nat),l.length≤cap→∀(J:List PV),aJ J (cap-l.length)→K (.arr H.length 0 l.length cap) (H++[.cells ((l.map u1).flatten++J)]))
theorem yR (n:Nat):aJ (List.replicate n [PV.int .u32 0]).flatten n:=(aJ.pX (z:=[PV.int .u32 0]) (by intro y hy; rcases List.mem_singleton.1 hy with rfl; rfl) (bw (.int _ _)) n).cast (by simp)
theorem qf:aO Tryd.prog gl 60 (.heap It):=by
 rintro args H K ⟨l,tl,he,hl,h0,h1⟩
 have he:args=_:=he
 subst he
 refine bg (.cons (.list _ _) .nil) ?_
 by_cases c:l=[]
 ·subst c
  refine bA (vU H _ ?_)
  intro b _
  rw[ay]
  split
  ·exact⟨_,.list _ _,h0 rfl⟩
  ·exact⟨⟨(fun _ h=>nomatch h),(fun _ h=>nomatch h),by simp⟩,_,.refl _,h0 rfl⟩
 ·refine wX H l _ ?_
  intro b hb
  rw[ay,hb (vv c),if_neg (by decide)]
  have hp:=List.length_pos_iff.2 c
  refine⟨by rw[vX,List.length_map,Nat.mul_one],by rw[List.length_map]; omega,by rw[List.length_map]; exact hp,fun cap hc=>?_⟩
  rw[List.length_map] at hc ⊢
  exact h1 c cap hc _ (yR _)
theorem Kc (H:ae)  (K:PV→ae→Prop) (h:∀(b:Bool),(([]:List PV)≠[]→b=false)→br b (K (.list [] .exact) H) (aX [] [] 6 48∧true=true∧(([]:List (List PV))=[]→K (.list [] .exact) H)∧(([]:List (List PV))≠[]→K (.list [] (.tok (List.length H))) (H++[.tok])))):aj Tryd.prog gl 70 [.list [] .no] H K:=
 ah (T:=[]) (L:=[]) (fun o=>match o.dst with|some 7=>4|_=>0) Tryd.func70 (by kernel_rfl) (by kernel_rfl) (by kernel_rfl) (aB.nil _ _) (LOk.nil _ _ _ _ _) (ag (by kernel_rfl) h)
theorem IU (H:ae) (l:List Se):∀(K:PV→ae→Prop),(∀(b:Bool),(List.flatten (l.map stc)≠[]→b=false)→br b (K (.list [] .exact) H) (List.length (List.flatten (l.map stc))=List.length (l.map stc)*6∧List.length (l.map stc)*48≤140737488355328∧0<List.length (l.map stc)∧∀(c:Nat),List.length (l.map stc)≤c→K (.arr H.length 0 (List.length (l.map stc)) c) (H++[.cells (List.flatten (l.map stc)++List.flatten (List.replicate (c-List.length (l.map stc)) [.int .u32 0,.int .i64 0,.int .i64 0,.int .i64 0,.int .i64 0,.int .u64 0]))])))→aj Tryd.prog gl 70 [.list (l.map stc) .no] H K:=fun K h=>ah (T:=[]) (L:=[]) (fun o=>match o.dst with|some 7=>2|_=>0) Tryd.func70 (by kernel_rfl) (by kernel_rfl) (by kernel_rfl) (aB.nil _ _) (LOk.nil _ _ _ _ _) (ag (by kernel_rfl) h)
def D7 (args:List PV) (H:ae) (K:PV→ae→Prop):Prop:=∃(l:List Int) (tl:Tail),ak args [.list (l.map u1) tl]∧l.length≤1000000∧
 (K (.list (l.map u1) .no) H∨(l≠[]∧∀(cap:Nat),l.length≤cap→∀(J:List PV),aJ J (cap-l.length)→K (.arr H.length 0 l.length cap) (H++[.cells ((l.map u1).flatten++J)])))
theorem I7 (l:List Int):uni 1 (l.map u1):=b9 dN l
theorem Eu {o off:Nat} {es:List (List PV)} {H:ae} {c:Ob} (ho:o=H.length):FzH o off es (H++[c]) (H++[.dead]):=by
 subst ho
 refine⟨by simp,fun i b h=>?_⟩
 by_cases c:i<H.length
 ·rw[List.getElem?_append_left c] at h
  exact .inr (.inl ⟨by omega,by rw[List.getElem?_append_left c]; exact h⟩)
 ·have:=(List.getElem?_eq_some_iff.1 h).1
  simp at this
  rw[show i=H.length by omega,List.getElem?_append_right (Nat.le_refl _)] at h
  simp at h
  exact .inl h.symm
theorem wE:aO Tryd.prog gl 60 (.heap D7):=by
 rintro args H K ⟨l,tl,he,hl,hk⟩
 rcases hk with hk|⟨hne,hk⟩
 ·by_cases c:l=[]
  ·subst c
   exact qf args H K ⟨[],tl,he,hl,fun _=>hk,fun h=>absurd rfl h⟩
  refine aM (aj.same (r:= .list (l.map u1) .no) (eE l).up (bS (qf args H _ ⟨l,tl,he,hl,fun e=>absurd e c,fun _ cap hc J hJ=>?_⟩))) (fun x H' e=>by obtain⟨rfl,rfl⟩:=e; exact hk)
  ·refine⟨H.length,0,1,[],J,l.map u1,.list (l.map u1) .no,H++[.dead],by simp,rfl,I7 l,Eu rfl,?_,rfl,[.dead],rfl⟩
   have:=Fz.arr (o:=H.length) (off:=0) (es:=l.map u1) cap (by rw[List.length_map]; exact hc)
   rw[List.length_map] at this
   exact this
 ·exact qf args H K ⟨l,tl,he,hl,fun e=>absurd e hne,fun _=>hk⟩
abbrev flS (l:List Se):List PV:=(l.map stc).flatten
theorem gI (l:List Se):(flS l).length=l.length*6:=bq bK l
theorem JR {l:List Se} (h:l≠[]):flS l≠[]:=by
 cases l with
 | nil=>exact absurd rfl h
 | cons a l=>simp[flS,stc]
def ArS (o:Nat) (l:List Se) (x:PV) (g:Ob):Prop:=(l=[]∧x = .list [] .exact∧g = .dead)∨(l≠[]∧∃(cap:Nat) (J:List PV),x = .arr o 0 l.length cap∧g = .cells (flS l++J)∧l.length≤cap∧aJ J ((cap-l.length)*6))
def Ch (args:List PV) (H:ae) (K:PV→ae→Prop):Prop:=∃(l:List Se) (tl:Tail),ak args [.list (l.map stc) tl]∧l.length≤1000000∧(l=[]→K (.list [] .exact) (H++[.dead]))∧(l≠[]→∀(cap:Nat) (J:List PV),l.length≤cap→aJ J ((cap-l.length)*6)→K (.arr H.length 0 l.length cap) (H++[.cells (flS l++J)]))
theorem BK (n:Nat):aJ (List.replicate n [PV.int .u32 0,.int .i64 0,.int .i64 0,.int .i64 0,.int .i64 0,.int .u64 0]).flatten (n*6):=by
 refine(aJ.pX (z:=[PV.int .u32 0,.int .i64 0,.int .i64 0,.int .i64 0,.int .i64 0,.int .u64 0]) (fun y hy=>dX (⟨0,0,0,0,0,0⟩:Se) y hy) (fun y hy=>cU (⟨0,0,0,0,0,0⟩:Se) y hy) n).cast (by simp)
theorem Fm:aO Tryd.prog gl 70 (.heap Ch):=by
 rintro args H K ⟨l,tl,he,hl,hk0,hk⟩
 have he:args=_:=he
 subst he
 refine bg (.cons (.list _ _) .nil) ?_
 by_cases c:l=[]
 ·subst c
  have h0:=hk0 rfl
  refine mQ (Kc H _ ?_)
  intro b _
  rw[ay]
  split
  ·exact h0
  ·exact⟨⟨(fun _ h=>nomatch h),(fun _ h=>nomatch h),by simp⟩,rfl,fun _=>h0,fun h=>absurd rfl h⟩
 ·refine IU H l _ ?_
  intro b hb
  rw[ay,hb (JR c),if_neg (by decide)]
  have hp:=List.length_pos_iff.2 c
  have e1:(List.map stc l).length=l.length:=List.length_map _
  rw[e1]
  refine⟨gI l,by omega,hp,fun cap hc=>?_⟩
  exact hk c cap _ hc (BK _)
theorem IK (s:Se) (p:Int):∀(K:PV→ae→Prop),(K (.bool (s.pl == p)) [.cells [.int .u32 p],.cells [.int .u32 s.pl,.int .i64 s.tm,.int .i64 s.nu,.int .i64 s.st,.int .i64 s.un,.int .u64 s.no]])→aj Tryd.prog gl 66 [.agg (stc s),.ptr 0 0] [.cells [.int .u32 p]] K:=fun K h=>ah (T:=[]) (L:=[]) (fun _=>0) Tryd.func66 (by kernel_rfl) (by kernel_rfl) (by kernel_rfl) (aB.nil _ _) (LOk.nil _ _ _ _ _) (ag (by kernel_rfl) h)
def isP (p:Int) (s:Se):Bool:=s.pl == p
def ixS (l:List Se) (p:Int):Int:=if l.findIdx (isP p)<l.length then(l.findIdx (isP p):Int) else -1
def KM (args:List PV) (H:ae) (K:PV→Prop):Prop:=∃(s:Se) (p:Int) (b:Nat),ak args [.agg (stc s),.ptr b 0]∧gL H b [.int .u32 p]∧K (.bool (isP p s))
theorem K9:aO Tryd.prog gl 66 (.read KM):=by
 rintro args H K ⟨s,p,b,he,hc,hk⟩
 have he:args=_:=he
 subst he
 exact⟨_,xD (pre:=[.agg (stc s)]) aq hc cM (bw (.agg _ (cU s))) (.bool (isP p s)) (IK s p _ ⟨rfl,[_],rfl⟩),hk⟩
def TAC:Tab:=[(66,.read KM)]
theorem BL:aB Tryd.prog gl TAC:= .cons K9 (.nil _ _)
theorem mh (l:List Se) (i:Nat):InL (l.map stc) 6 (i:Int)=(i<l.length):=cW bK (by decide) l i
theorem JD (H:ae) (l:List Se) (b i:Nat):(by refine(?_:_→_→_→Prop) (List.getD (l.map stc) (Int.toNat (i:Int)) []) (PV.int .i64 l.length) (PV.list (l.map stc) .no); exact fun a d f=>by refine(?_:_→Prop) [PV.list (l.map stc) .no,.fn 66 [.ptr b 0],.int .i64 0,d,.int .i64 i]; exact fun c=>∀(R:Ex→List PV→ae→Prop),(br (decide ((i:Int)<(l.length:Int))) (InL (l.map stc) 6 (i:Int)∧br (true && aP [.int .u32,.int .i64,.int .i64,.int .i64,.int .i64,.int .u64] 0 a) (∃(s:Se) (p:Int) (b_1:Nat),ak [.agg [.int .u32 (cI a 0),.int .i64 (cI a 1),.int .i64 (cI a 2),.int .i64 (cI a 3),.int .i64 (cI a 4),.int .u64 (cI a 5)],.ptr b 0] [.agg [.int .u32 s.pl,.int .i64 s.tm,.int .i64 s.nu,.int .i64 s.st,.int .i64 s.un,.int .u64 s.no],.ptr b_1 0]∧gL H b_1 [.int .u32 p]∧br (isP p s) (R .ret [f,.fn 66 [.ptr b 0],.int .i64 i,d,.int .i64 i] H) (R .normal [f,.fn 66 [.ptr b 0],.int .i64 0,d,.int .i64 (wI ((i:Int)+1))] H)) False) (R (.exit 0) c H))→Holds (wpc br Tryd.prog gl TAC [] (fun _=>0) (an [1,0,1,0] (ai Tryd.f65)) [] (av [0,1,4,7,8] c) H (fun ex e H=>R ex (List.map e [0,1,4,7,8]) H)):Prop):=fun R h=>ag (by kernel_rfl) h
def G9:LSp:=fun e H Q=>∃(l:List Se) (b:Nat) (p:Int),l.length≤1000000∧ak (List.map e [0,1,4,7,8]) [.list (l.map stc) .no,.fn 66 [.ptr b 0],.int .i64 0,.int .i64 l.length,.int .i64 0]∧gL H b [.int .u32 p]∧
  (l.findIdx (isP p)<l.length→Q .ret (av [0,1,4,7,8] [.list (l.map stc) .no,.fn 66 [.ptr b 0],.int .i64 (l.findIdx (isP p)),.int .i64 l.length,.int .i64 (l.findIdx (isP p))]) H)∧
  (l.findIdx (isP p)=l.length→Q (.exit 0) (av [0,1,4,7,8] [.list (l.map stc) .no,.fn 66 [.ptr b 0],.int .i64 0,.int .i64 l.length,.int .i64 l.length]) H)
theorem y4:∀ e H Q,G9 e H Q→AW Tryd.prog gl Tryd.f65.ntmps (.loop (an [1,0,1,0] (ai Tryd.f65))) Q e H:=by
 rintro e H Q ⟨l,b,p,hl,he,hb,hQ1,hQ2⟩
 have hfl:l.findIdx (isP p)≤l.length:=List.findIdx_le_length
 refine aG (hn:=fun _=>0) aq BL (.nil _ _ _ _ _) (σ:=Nat) [0,1,4,7,8] (fun i=>i≤l.findIdx (isP p)) (fun i=>[.list (l.map stc) .no,.fn 66 [.ptr b 0],.int .i64 0,.int .i64 l.length,.int .i64 i]) (fun _=>H) (fun i=>l.length-i) 0 (Nat.zero_le _) he rfl ?_
 intro i hi
 have hi':i≤l.findIdx (isP p):=hi
 refine JD H l b i _ ?_
 simp only[ay,dt,au,mh]
 by_cases h:i<l.length
 ·rw[if_pos (by omega)]
  simp only[getD_map default h]
  refine⟨h,?_⟩
  rw[if_pos (by rfl)]
  obtain⟨t,htd⟩:∃ t,t=l.getD i default:=⟨_,rfl⟩
  rw[← htd]
  refine⟨t,p,b,rfl,hb,?_⟩
  by_cases k:isP p t=true
  ·have hge:l.findIdx (isP p)=i:=dA default hi' h (by rw[← htd]; exact k)
   rw[hge] at hQ1
   rw[if_pos k]
   exact hQ1 h
  ·have hlt:i<l.findIdx (isP p):=dH default hi' h (by rw[← htd]; simpa using k)
   rw[if_neg k]
   exact⟨i+1,(show l.length-(i+1)<l.length-i by omega),hlt,by rw[ax h (by omega)],[],(List.append_nil _).symm,Nat.le_refl _,.inl rfl⟩
 ·rw[if_neg (by omega)]
  have:i=l.length:=by omega
  subst this
  exact hQ2 (by omega)
theorem Jk (H:ae) (l:List Se) (b:Nat):∀(K:PV→ae→Prop),(∃(l_1:List Se) (b_1:Nat) (p:Int),l_1.length≤1000000∧ak [.list (l.map stc) .no,.fn 66 [.ptr b 0],.int .i64 0,.int .i64 (↑(List.length (l.map stc)):Int),.int .i64 0] [.list (l_1.map stc) .no,.fn 66 [.ptr b_1 0],.int .i64 0,.int .i64 l_1.length,.int .i64 0]∧gL H b_1 [.int .u32 p]∧(List.findIdx (isP p) l_1<l_1.length→K (.int .i64 (↑(List.findIdx (isP p) l_1):Int)) H)∧(List.findIdx (isP p) l_1=l_1.length→K (.int .i64 (-1)) H))→aj Tryd.prog gl 65 [.list (l.map stc) .no,.fn 66 [.ptr b 0]] H K:=fun K h=>ah (T:=TAC) (L:=[([1,0,1,0],G9)]) (fun _=>0) Tryd.func65 (by kernel_rfl) (by kernel_rfl) (by kernel_rfl) (BL) (.cons (aH (by kernel_rfl)) y4 (.nil _ _ _ _ _)) (ag (by kernel_rfl) h)
def KH (args:List PV) (H:ae) (K:PV→Prop):Prop:=∃(l:List Se) (tl:Tail) (b:Nat) (p:Int),ak args [.list (l.map stc) tl,.fn 66 [.ptr b 0]]∧gL H b [.int .u32 p]∧l.length≤1000000∧K (.int .i64 (ixS l p))
theorem KT:aO Tryd.prog gl 65 (.read KH):=by
 rintro args H K ⟨l,tl,b,p,he,hb,hl,hk⟩
 have he:args=_:=he
 subst he
 refine⟨_,bg (.cons (.list _ _) (.cons (.refl _) .nil)) (Jk H l b _ ⟨l,b,p,hl,(by show _=_; simp only[List.length_map]),hb,fun h=>⟨?_,rfl⟩,fun h=>⟨?_,rfl⟩⟩),hk⟩
 ·unfold ixS; rw[if_pos h]
 ·unfold ixS; rw[if_neg (by omega)]
def TIX:Tab:=[(65,.read KH)]
theorem C5:aB Tryd.prog gl TIX:= .cons KT (.nil _ _)
theorem I6 (c:Mt) (p:Int):(by refine(?_:_→Prop) (PV.list (c.aa.map stc) .no); exact fun d=>by refine(?_:_→Prop) [Ob.cells [.int .u32 c.id,.int .i64 c.md,.int .u32 c.ins,.list (c.rows.map rrc) .no,d],.cells [.int .u32 p]]; exact fun a=>∀(K:PV→ae→Prop),(∃(l:List Se) (tl:Tail) (b:Nat) (p_1:Int),ak [d,.fn 66 [.ptr 1 0]] [.list (l.map stc) tl,.fn 66 [.ptr b 0]]∧gL a b [.int .u32 p_1]∧l.length≤1000000∧K (.int .i64 (ixS l p_1)) a)→aj Tryd.prog gl 39 [c.pv,.int .u32 p] [] K:Prop):=fun K h=>ah (T:=TIX) (L:=[]) (fun _=>0) Tryd.func39 (by kernel_rfl) (by kernel_rfl) (by kernel_rfl) (C5) (LOk.nil _ _ _ _ _) (ag (by kernel_rfl) h)
theorem IJ (c:Mt) (n cap:Nat) (p:Int):(by refine(?_:_→Prop) (PV.list (c.aa.map stc) .no); exact fun e=>by refine(?_:_→Prop) [PV.int .u32 c.id,.int .i64 c.md,.int .u32 c.ins,.arr 0 0 n cap,e]; exact fun a=>by refine(?_:_→Prop) [Ob.dead,.cells a,.cells [.int .u32 p]]; exact fun d=>∀(K:PV→ae→Prop),(∃(l:List Se) (tl:Tail) (b:Nat) (p_1:Int),ak [e,.fn 66 [.ptr 2 0]] [.list (l.map stc) tl,.fn 66 [.ptr b 0]]∧gL d b [.int .u32 p_1]∧l.length≤1000000∧K (.int .i64 (ixS l p_1)) d)→aj Tryd.prog gl 39 [.agg a,.int .u32 p] [.dead] K:Prop):=fun K h=>ah (T:=TIX) (L:=[]) (fun o=>match o.dst with|some 6=>1|_=>0) Tryd.func39 (by kernel_rfl) (by kernel_rfl) (by kernel_rfl) (C5) (LOk.nil _ _ _ _ _) (ag (by kernel_rfl) h)
def dR (c:Mt) (x y:PV):PV:= .agg [.int .u32 c.id,.int .i64 c.md,.int .u32 c.ins,x,y]
theorem Mt.low (c:Mt) {n:Nat}:Low n c.pv:=by
 refine .agg _ fun y hy=>?_
 simp only[List.mem_cons,List.not_mem_nil,or_false] at hy
 rcases hy with rfl|rfl|rfl|rfl|rfl<;>first|exact .int _ _|exact aQ _|exact dg _
theorem wu (c:Mt) (p:Int) (h:c.aa.length≤1000000):ix Tryd.prog gl 39 [c.pv,.int .u32 p] (.int .i64 (ixS c.aa p)):=
 ix.alone aq (bF c.low (.int _ _)) (.int _ _) (I6 c p _ ⟨c.aa,.no,1,p,rfl,rfl,h,rfl⟩)
theorem Gv (c:Mt) (n cap:Nat) (p:Int) (h:c.aa.length≤1000000) {H:ae} {o:Nat} (ho:o<H.length):aj Tryd.prog gl 39 [dR c (.arr o 0 n cap) (.list (c.aa.map stc) .no),.int .u32 p] (fJ H) (fun x H'=>x = .int .i64 (ixS c.aa p)∧H'=fJ H):=by
 have hd:(fJ H)[o]?=some .dead:=by
  simp only[fJ,List.getElem?_map,List.getElem?_eq_getElem ho]; rfl
 have h1:aj Tryd.prog gl 39 [dR c (.arr 0 0 n cap) (.list (c.aa.map stc) .no),.int .u32 p] [.dead] (fun x H'=>x = .int .i64 (ixS c.aa p)∧H'=[.dead]):=
  aj.same (.int _ _) (IJ c n cap p _ ⟨c.aa,.no,2,p,rfl,rfl,h,rfl,[_,_],rfl⟩)
 have hsub:Sub (fun _=>o) [.dead] (fJ H):=by
  refine⟨fun _ _=>(List.getElem?_eq_some_iff.1 hd).1,fun a b h1 h2 _=>by simp at h1 h2; omega,fun j a hj=>?_⟩
  have e1:=(List.getElem?_eq_some_iff.1 hj).1
  have:j=0:=by simpa using e1
  subst this; cases hj
  exact⟨_,hd,.dead _⟩
 refine a9 aq hsub (.cons (Ren.gW (.cons (.low (.int _ _)) (.cons (.low (.int _ _)) (.cons (.low (.int _ _)) (.cons (.arr (ρ:=fun _=>o) 0 0 n cap (by simp)) (.cons (.low (dg _)) .nil)))))) (.cons (.low (.int _ _)) .nil)) (aM h1 fun x H' e=>?_)
 obtain⟨rfl,rfl⟩:=e
 refine⟨.int .i64 (ixS c.aa p),fJ H,⟨Nat.le_refl _,by simp,fun j a hj=>?_,fun _ _ _=>rfl⟩,.low (.int _ _),rfl,rfl⟩
 have e1:=(List.getElem?_eq_some_iff.1 hj).1
 have:j=0:=by simpa using e1
 subst this; cases hj
 exact⟨.dead,hd,.dead _,fun h=>h⟩
def JE (args:List PV) (H:ae) (K:PV→Prop):Prop:=∃(c:Mt) (x y:PV) (p:Int),ak args [.agg [.int .u32 c.id,.int .i64 c.md,.int .u32 c.ins,x,y],.int .u32 p]∧c.aa.length≤1000000∧
 (((∃ t,x = .list (c.rows.map rrc) t)∧(∃ t,y = .list (c.aa.map stc) t))∨((∃ t,x = .list (c.rows.map rrc) t)∧∃(o cap:Nat) (J:List PV),y = .arr o 0 c.aa.length cap∧c.aa.length≤cap∧gL H o (flS c.aa++J))∨
  ((∃ o n cap,x = .arr o 0 n cap∧o<H.length)∧∃(o cap:Nat) (J:List PV),y = .arr o 0 c.aa.length cap∧c.aa.length≤cap∧gL H o (flS c.aa++J)))∧K (.int .i64 (ixS c.aa p))
theorem iF {c:Mt} {t1 t2:Tail}:Wk (dR c (.list (c.rows.map rrc) t1) (.list (c.aa.map stc) t2)) c.pv:= .agg (.cons (.refl _) (.cons (.refl _) (.cons (.refl _) (.cons (.list _ _) (.cons (.list _ _) .nil)))))
theorem J4 {c:Mt} {t1:Tail} {y:PV}:Wk (dR c (.list (c.rows.map rrc) t1) y) (dR c (.list (c.rows.map rrc) .no) y):= .agg (.cons (.refl _) (.cons (.refl _) (.cons (.refl _) (.cons (.list _ _) (.cons (.refl _) .nil)))))
theorem GV {n:Nat} (l:List Se):∀ x∈flS l,Low n x:=bh fun a _=>cU a
theorem r9 {H:ae} {o cap:Nat} {l:List Se} {J:List PV} (hc:l.length≤cap) (ho:gL H o (flS l++J)):Ld H (.arr o 0 l.length cap) (.list (l.map stc) .no):=by
 have:=Ld.arr (H:=H) o 0 cap 6 [] J (l.map stc) ho rfl (b9 bK l) (by rw[List.length_map]; exact hc) (GV l)
 rw[List.length_map] at this
 exact this
theorem If:aO Tryd.prog gl 39 (.read JE):=by
 rintro args H K ⟨c,x,y,p,he,h,hx,hk⟩
 have he:args=_:=he
 subst he
 rcases hx with⟨⟨t1,rfl⟩,t2,rfl⟩|⟨⟨t1,rfl⟩,o,cap,J,rfl,hc,ho⟩|⟨⟨o2,n,cap2,rfl,ho2⟩,o,cap,J,rfl,hc,ho⟩
 ·exact⟨_,bg (.cons iF (.cons (.refl _) .nil)) (wu c p h H),hk⟩
 ·exact⟨_,bg (.cons J4 (.cons (.refl _) .nil)) (mR aq (.int _ _) (.cons (Ld.gW (.cons (.low (.int _ _)) (.cons (.low (.int _ _)) (.cons (.low (.int _ _)) (.cons (.low (aQ _)) (.cons (r9 hc ho) .nil)))))) (.cons (.low (.int _ _)) .nil)) (wu c p h (fJ H))),hk⟩
 ·exact⟨_,mR aq (.int _ _) (.cons (Ld.gW (.cons (.low (.int _ _)) (.cons (.low (.int _ _)) (.cons (.low (.int _ _)) (.cons (.name o2 0 n cap2 ho2) (.cons (r9 hc ho) .nil)))))) (.cons (.low (.int _ _)) .nil)) (Gv c n cap2 p h ho2),hk⟩
theorem wZ (l:List Se) (i:Nat):InL (l.map stc) 6 (i:Int)=(i<l.length):=mh l i
end Go.Proofs.YtenaelaapdhbdaaDoor
