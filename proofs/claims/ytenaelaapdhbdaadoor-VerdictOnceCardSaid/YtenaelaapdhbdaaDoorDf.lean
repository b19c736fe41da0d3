/-
  Seats and rows, in part.
-/
import Derived.Test.YtenaelaapdhbdaaDoorDc
import Derived.Test.YtenaelaapdhbdaaDoorDe
import Derived.Test.YtenaelaapdhbdaaDoorProg
namespace Go.Proofs.YtenaelaapdhbdaaDoor
open Go Go.AM Go.Proofs
theorem KL (l:List (Int)) (t:Int) (i:Nat):(by refine(?_:_→_→_→Prop) (List.getD (l.map u1) (Int.toNat (i:Int)) []) (PV.int .i64 l.length) (PV.list (l.map u1) .no); exact fun b c d=>by refine(?_:_→Prop) [PV.list (l.map u1) .no,.int .u32 t,.int .i64 0,c,.int .i64 i]; exact fun a=>∀(R:Ex→List PV→ag→Prop),(br (decide ((i:Int)<(l.length:Int))) (InL (l.map u1) 1 (i:Int)∧br (true && aH [.int .u32] 0 b) (br (t == cI b 0) (R .ret [d,.int .u32 t,.int .i64 i,c,.int .i64 i] []) (R .normal [d,.int .u32 t,.int .i64 0,c,.int .i64 (wI ((i:Int)+1))] [])) False) (R (.exit 0) a []))→Holds (wpc br Tryd.prog gl [] [] (fun _=>0) (av [1,0,1,0] (aj Tryd.f80)) [] (ax [0,1,4,7,8] a) [] (fun ex e H=>R ex (List.map e [0,1,4,7,8]) H)):Prop):=fun R h=>ah (by kernel_rfl) h
def Ip:LSp:=fun e H Q=>∃(l:List (Int)) (t:Int),l.length≤1000000∧(True)∧ak (List.map e [0,1,4,7,8]) [.list (l.map u1) .no,.int .u32 t,.int .i64 0,.int .i64 l.length,.int .i64 0]∧aC H []∧
 (l.findIdx (fun x=>t == x)<l.length→Q .ret (ax [0,1,4,7,8] [.list (l.map u1) .no,.int .u32 t,.int .i64 (l.findIdx (fun x=>t == x)),.int .i64 l.length,.int .i64 (l.findIdx (fun x=>t == x))]) [])∧(l.findIdx (fun x=>t == x)=l.length→Q (.exit 0) (ax [0,1,4,7,8] [.list (l.map u1) .no,.int .u32 t,.int .i64 0,.int .i64 l.length,.int .i64 l.length]) [])
theorem AH:∀ e H Q,Ip e H Q→AW Tryd.prog gl Tryd.f80.ntmps (.loop (av [1,0,1,0] (aj Tryd.f80))) Q e H:=by
 rintro e H Q ⟨l,t,hl,_,he,hH,hQ1,hQ2⟩
 have hfl:l.findIdx (fun x=>t == x)≤l.length:=List.findIdx_le_length
 refine aL (hn:=fun _=>0) ay (.nil _ _) (.nil _ _ _ _ _) (σ:=Nat) [0,1,4,7,8] (fun i=>i≤l.findIdx (fun x=>t == x)) (fun i=>[.list (l.map u1) .no,.int .u32 t,.int .i64 0,.int .i64 l.length,.int .i64 i]) (fun _=>[]) (fun i=>l.length-i) 0 (Nat.zero_le _) he hH ?_
 intro i hi
 have hi':i≤l.findIdx (fun x=>t == x):=hi
 refine KL l t i _ ?_
 simp only[az,dt,au,eB]
 by_cases h:i<l.length
 ·rw[if_pos (by omega)]
  simp only[getD_map 0 h]
  repeat (first|refine⟨h,?_⟩|rw[if_pos (by rfl)])
  by_cases c:(fun x=>t == x) (l.getD i 0)=true
  ·have hge:l.findIdx (fun x=>t == x)=i:=dS 0 hi' h c
   rw[hge] at hQ1
   rw[if_pos (by exact c)]
   repeat (first|refine⟨h,?_⟩|rw[if_pos (by rfl)])
   exact hQ1 h
  ·have hlt:i<l.findIdx (fun x=>t == x):=dP 0 hi' h (by simpa using c)
   rw[if_neg (by exact c)]
   exact⟨i+1,(show l.length-(i+1)<l.length-i by omega),hlt,by rw[aA h (by omega)],[],rfl,Nat.le_refl _,.inl rfl⟩
 ·rw[if_neg (by omega)]
  have:i=l.length:=by omega
  subst this
  exact hQ2 (by omega)
theorem G9 (l:List Int) (t:Int):∀(K:PV→Prop),(∃(l_1:List Int) (t_1:Int),by refine(?_:_→Prop) (fun(x:Int)=>t_1 == x); exact fun a=>l_1.length≤1000000∧True∧ak [.list (l.map u1) .no,.int .u32 t,.int .i64 0,.int .i64 (↑(List.length (l.map u1)):Int),.int .i64 0] [.list (l_1.map u1) .no,.int .u32 t_1,.int .i64 0,.int .i64 l_1.length,.int .i64 0]∧aC [] []∧(List.findIdx a l_1<l_1.length→K (.int .i64 (↑(List.findIdx a l_1):Int)))∧(List.findIdx a l_1=l_1.length→K (.int .i64 (-1))))→an Tryd.prog gl 80 [.list (l.map u1) .no,.int .u32 t] [] (fun x _=>K x):=fun K h=>ai (T:=[]) (L:=[([1,0,1,0],Ip)]) (fun _=>0) Tryd.func80 (by kernel_rfl) (by kernel_rfl) (by kernel_rfl) (aE.nil _ _) (.cons (aK (by kernel_rfl)) AH (.nil _ _ _ _ _)) (ah (by kernel_rfl) h)
def u6 (l:List Int) (t:Int):Int:=if l.findIdx (fun x=>t == x)<l.length then(l.findIdx (fun x=>t == x):Int) else -1
def Jf (args:List PV) (K:PV→Prop):Prop:=∃(l:List Int) (t:Int),ak args [.list (l.map u1) .no,.int .u32 t]∧l.length≤1000000∧K (.int .i64 (u6 l t))
theorem eO {n:Nat} (l:List Int):Low n (.list (l.map u1) .no):=bB bU l
theorem La:aQ Tryd.prog gl 80 (.pure Jf):=by
 rintro args K ⟨l,t,he,hl,hk⟩
 have he:args=_:=he
 subst he
 refine fc ay (bN (eO l) (.int _ _)) (.int _ _) (G9 l t (fun x=>x = .int .i64 (u6 l t)) ⟨l,t,hl,trivial,(by show _=_; simp only[List.length_map]),rfl,fun h=>?_,fun h=>?_⟩) hk
 ·unfold u6; rw[if_pos h]
 ·unfold u6; rw[if_neg (by omega)]
def TI1:Tab:=[(80,.pure Jf)]
theorem JD:aE Tryd.prog gl TI1:= .cons La (.nil _ _)
theorem GD (l:List Int) (t:Int)  (K:PV→Prop) (h:∃(l_1:List Int) (t_1:Int),ak [.list (List.map u1 l) .no,.int .u32 t] [.list (List.map u1 l_1) .no,.int .u32 t_1]∧List.length l_1≤1000000∧K (.bool (decide (u6 l_1 t_1≥0)))):an Tryd.prog gl 56 [.list (l.map u1) .no,.int .u32 t] [] (fun x _=>K x):=
 ai (T:=TI1) (L:=[]) (fun _=>0) Tryd.func56 (by kernel_rfl) (by kernel_rfl) (by kernel_rfl) (JD) (LOk.nil _ _ _ _ _) (ah (by kernel_rfl) h)
def cA (l:List Int) (t:Int):Bool:=decide (t∈l)
theorem iG {l:List Int} {t:Int}:cA l t=true↔t∈l:=by unfold cA; rw[decide_eq_true_eq]
theorem C7 (l:List Int) (t:Int):decide (u6 l t≥0)=cA l t:=by
 unfold u6 cA
 have h:l.findIdx (fun x=>t == x)<l.length↔t∈l:=by
  rw[List.findIdx_lt_length]
  constructor
  ·rintro⟨x,hx,e⟩; rw[eq_of_beq e]; exact hx
  ·intro h; exact⟨t,h,by simp⟩
 by_cases c:l.findIdx (fun x=>t == x)<l.length
 ·rw[if_pos c,decide_eq_true (h.1 c),decide_eq_true (by omega)]
 ·rw[if_neg c,decide_eq_false (fun k=>c (h.2 k)),decide_eq_false (by omega)]
def Iw (args:List PV) (K:PV→Prop):Prop:=∃(l:List Int) (tl:Tail) (t:Int),ak args [.list (l.map u1) tl,.int .u32 t]∧l.length≤1000000∧K (.bool (cA l t))
theorem KE:aQ Tryd.prog gl 56 (.pure Iw):=by
 rintro args K ⟨l,tl,t,he,hl,hk⟩
 have he:args=_:=he
 subst he
 exact bS ay (.cons (.list _ _) (.cons (.refl _) .nil)) (bN (eO l) (.int _ _)) (.bool _) (GD l t (fun x=>x = .bool (cA l t)) ⟨l,t,rfl,hl,by rw[C7]⟩) hk
theorem su (l:List Int):∀(K:PV→ag→Prop),(∀(b:Bool),(List.flatten (l.map u1)≠[]→b=false)→br b (K (.list [] .exact) []) (bf [] (l.map u1) 1 4∧List.all (List.flatten (l.map u1)) PV.one=true∧(l.map u1=[]→K (.list [] .exact) [])∧(l.map u1≠[]→K (.list ([]++l.map u1) (.tok 0)) [.tok])))→an Tryd.prog gl 60 [.list (l.map u1) .no] [] K:=fun K h=>ai (T:=[]) (L:=[]) (fun o=>match o.dst with|some 7=>4|_=>0) Tryd.func60 (by kernel_rfl) (by kernel_rfl) (by kernel_rfl) (aE.nil _ _) (LOk.nil _ _ _ _ _) (ah (by kernel_rfl) h)
theorem xX (H:ag)  (K:PV→ag→Prop) (h:∀(b:Bool),(([]:List PV)≠[]→b=false)→br b (K (.list [] .exact) H) (bf [] [] 1 4∧K (.list [] .no) H)):an Tryd.prog gl 60 [.list [] .no] H K:=
 ai (T:=[]) (L:=[]) (fun _=>0) Tryd.func60 (by kernel_rfl) (by kernel_rfl) (by kernel_rfl) (aE.nil _ _) (LOk.nil _ _ _ _ _) (ah (by kernel_rfl) h)
theorem yl (H:ag) (l:List Int):∀(K:PV→ag→Prop),(∀(b:Bool),(List.flatten (l.map u1)≠[]→b=false)→br b (K (.list [] .exact) H) (List.length (List.flatten (l.map u1))=List.length (l.map u1)*1∧List.length (l.map u1)*4≤140737488355328∧0<List.length (l.map u1)∧∀(c:Nat),List.length (l.map u1)≤c→K (.arr H.length 0 (List.length (l.map u1)) c) (H++[.cells (List.flatten (l.map u1)++List.flatten (List.replicate (c-List.length (l.map u1)) [.int .u32 0]))])))→an Tryd.prog gl 60 [.list (l.map u1) .no] H K:=fun K h=>ai (T:=[]) (L:=[]) (fun o=>match o.dst with|some 7=>2|_=>0) Tryd.func60 (by kernel_rfl) (by kernel_rfl) (by kernel_rfl) (aE.nil _ _) (LOk.nil _ _ _ _ _) (ah (by kernel_rfl) h)
theorem wA {l:List Int} (h:l≠[]):(l.map u1).flatten≠[]:=by
 cases l with
 | nil=>exact absurd rfl h
 | cons a l=>simp[u1]
def BT (args:List PV) (K:List (List PV)→Prop):Prop:=∃(l:List Int) (tl:Tail),ak args [.list (l.map u1) tl]∧l.length≤1000000∧K (l.map u1)
theorem Ez:aQ Tryd.prog gl 60 (.mk BT):=by
 rintro args K ⟨l,tl,he,hl,hk⟩
 have he:args=_:=he
 subst he
 refine⟨l.map u1,hk,IW ay (.cons (.list _ _) .nil) (bF (eO l)) (by have:=GB (n:=0) l (J:=[]) (fun _ h=>nomatch h); simpa using this) (su l _ ?_)⟩
 intro b hb
 rw[az]
 cases b with
 | true=>
  rw[if_pos rfl]
  have hn:l=[]:=Classical.byContradiction fun h=>absurd (hb (wA h)) (by decide)
  subst hn
  exact⟨fun _=>rfl,fun h=>absurd rfl h⟩
 | false=>
  rw[if_neg (by decide)]
  refine⟨⟨(fun _ h=>nomatch h),ct dz l,by simp; omega⟩,?_,fun h=>?_,fun h=>?_⟩
  ·exact List.all_eq_true.2 (by have:=xG l; intro y hy; obtain⟨c,h2,h3⟩:=List.mem_flatten.1 hy; obtain⟨a,_,rfl⟩:=List.mem_map.1 h2; exact ef a y h3)
  ·exact⟨fun _=>rfl,fun h2=>absurd h h2⟩
  ·exact⟨fun h2=>absurd h2 h,fun _=>⟨0,rfl,rfl⟩⟩
def K8 (args:List PV) (H:ag) (K:PV→ag→Prop):Prop:=∃(l:List Int) (tl:Tail),ak args [.list (l.map u1) tl]∧l.length≤1000000∧(l=[]→K (.list [] .no) H)∧
 (l≠[]→∀(cap:Nat),l.length≤cap→∀(J:List PV),Room J (cap-l.length)→K (.arr H.length 0 l.length cap) (H++[.cells ((l.map u1).flatten++J)]))
theorem zy (n:Nat):Room (List.replicate n [PV.int .u32 0]).flatten n:=(Room.qL (z:=[PV.int .u32 0]) (by intro y hy; rcases List.mem_singleton.1 hy with rfl; rfl) (bF (.int _ _)) n).cast (by simp)
theorem sx:aQ Tryd.prog gl 60 (.heap K8):=by
 rintro args H K ⟨l,tl,he,hl,h0,h1⟩
 have he:args=_:=he
 subst he
 refine bw (.cons (.list _ _) .nil) ?_
 by_cases c:l=[]
 ·subst c
  refine bC (xX H _ ?_)
  intro b _
  rw[az]
  split
  ·exact⟨_,.list _ _,h0 rfl⟩
  ·exact⟨⟨(fun _ h=>nomatch h),(fun _ h=>nomatch h),by simp⟩,_,.refl _,h0 rfl⟩
 ·refine yl H l _ ?_
  intro b hb
  rw[az,hb (wA c),if_neg (by decide)]
  have hp:=List.length_pos_iff.2 c
  refine⟨by rw[xG,List.length_map,Nat.mul_one],by rw[List.length_map]; omega,by rw[List.length_map]; exact hp,fun cap hc=>?_⟩
  rw[List.length_map] at hc ⊢
  exact h1 c cap hc _ (zy _)
theorem Jn (H:ag)  (K:PV→ag→Prop) (h:∀(b:Bool),(([]:List PV)≠[]→b=false)→br b (K (.list [] .exact) H) (bf [] [] 6 48∧true=true∧(([]:List (List PV))=[]→K (.list [] .exact) H)∧(([]:List (List PV))≠[]→K (.list [] (.tok (List.length H))) (H++[.tok])))):an Tryd.prog gl 70 [.list [] .no] H K:=
 ai (T:=[]) (L:=[]) (fun o=>match o.dst with|some 7=>4|_=>0) Tryd.func70 (by kernel_rfl) (by kernel_rfl) (by kernel_rfl) (aE.nil _ _) (LOk.nil _ _ _ _ _) (ah (by kernel_rfl) h)
theorem J3 (H:ag) (l:List Se):∀(K:PV→ag→Prop),(∀(b:Bool),(List.flatten (l.map stc)≠[]→b=false)→br b (K (.list [] .exact) H) (List.length (List.flatten (l.map stc))=List.length (l.map stc)*6∧List.length (l.map stc)*48≤140737488355328∧0<List.length (l.map stc)∧∀(c:Nat),List.length (l.map stc)≤c→K (.arr H.length 0 (List.length (l.map stc)) c) (H++[.cells (List.flatten (l.map stc)++List.flatten (List.replicate (c-List.length (l.map stc)) [.int .u32 0,.int .i64 0,.int .i64 0,.int .i64 0,.int .i64 0,.int .u64 0]))])))→an Tryd.prog gl 70 [.list (l.map stc) .no] H K:=fun K h=>ai (T:=[]) (L:=[]) (fun o=>match o.dst with|some 7=>2|_=>0) Tryd.func70 (by kernel_rfl) (by kernel_rfl) (by kernel_rfl) (aE.nil _ _) (LOk.nil _ _ _ _ _) (ah (by kernel_rfl) h)
def D0 (args:List PV) (H:ag) (K:PV→ag→Prop):Prop:=∃(l:List Int) (tl:Tail),ak args [.list (l.map u1) tl]∧l.length≤1000000∧
 (K (.list (l.map u1) .no) H∨(l≠[]∧∀(cap:Nat),l.length≤cap→∀(J:List PV),Room J (cap-l.length)→K (.arr H.length 0 l.length cap) (H++[.cells ((l.map u1).flatten++J)])))
theorem KH (l:List Int):uni 1 (l.map u1):=ct dz l
theorem Ge {o off:Nat} {es:List (List PV)} {H:ag} {c:Ob} (ho:o=H.length):FzH o off es (H++[c]) (H++[.dead]):=by
 subst ho
 refine⟨by simp,fun i b h=>?_⟩
 by_cases c:i<H.length
 ·rw[List.getElem?_append_left c] at h
  exact .inr (.inl ⟨by omega,by rw[List.getElem?_append_left c]; exact h⟩)
 ·have:=(List.getElem?_eq_some_iff.1 h).1
  simp at this
  rw[show i=H.length by omega,List.getElem?_append_right (Nat.le_refl _)] at h
  simp at h
  exact .inl h.symm
theorem wF:aQ Tryd.prog gl 60 (.heap D0):=by
 rintro args H K ⟨l,tl,he,hl,hk⟩
 rcases hk with hk|⟨hne,hk⟩
 ·by_cases c:l=[]
  ·subst c
   exact sx args H K ⟨[],tl,he,hl,fun _=>hk,fun h=>absurd rfl h⟩
  refine aP (an.same (r:= .list (l.map u1) .no) (eO l).up (b8 (sx args H _ ⟨l,tl,he,hl,fun e=>absurd e c,fun _ cap hc J hJ=>?_⟩))) (fun x H' e=>by obtain⟨rfl,rfl⟩:=e; exact hk)
  ·refine⟨H.length,0,1,[],J,l.map u1,.list (l.map u1) .no,H++[.dead],by simp,rfl,KH l,Ge rfl,?_,rfl,[.dead],rfl⟩
   have:=Fz.arr (o:=H.length) (off:=0) (es:=l.map u1) cap (by rw[List.length_map]; exact hc)
   rw[List.length_map] at this
   exact this
 ·exact sx args H K ⟨l,tl,he,hl,fun e=>absurd e hne,fun _=>hk⟩
abbrev flS (l:List Se):List PV:=(l.map stc).flatten
theorem gW (l:List Se):(flS l).length=l.length*6:=bD bV l
theorem Lp {l:List Se} (h:l≠[]):flS l≠[]:=by
 cases l with
 | nil=>exact absurd rfl h
 | cons a l=>simp[flS,stc]
def ArS (o:Nat) (l:List Se) (x:PV) (g:Ob):Prop:=(l=[]∧x = .list [] .exact∧g = .dead)∨(l≠[]∧∃(cap:Nat) (J:List PV),x = .arr o 0 l.length cap∧g = .cells (flS l++J)∧l.length≤cap∧Room J ((cap-l.length)*6))
def Cq (args:List PV) (H:ag) (K:PV→ag→Prop):Prop:=∃(l:List Se) (tl:Tail),ak args [.list (l.map stc) tl]∧l.length≤1000000∧(l=[]→K (.list [] .exact) (H++[.dead]))∧(l≠[]→∀(cap:Nat) (J:List PV),l.length≤cap→Room J ((cap-l.length)*6)→K (.arr H.length 0 l.length cap) (H++[.cells (flS l++J)]))
theorem DL (n:Nat):Room (List.replicate n [PV.int .u32 0,.int .i64 0,.int .i64 0,.int .i64 0,.int .i64 0,.int .u64 0]).flatten (n*6):=by
 refine(Room.qL (z:=[PV.int .u32 0,.int .i64 0,.int .i64 0,.int .i64 0,.int .i64 0,.int .u64 0]) (fun y hy=>ey (⟨0,0,0,0,0,0⟩:Se) y hy) (fun y hy=>cY (⟨0,0,0,0,0,0⟩:Se) y hy) n).cast (by simp)
theorem Gr:aQ Tryd.prog gl 70 (.heap Cq):=by
 rintro args H K ⟨l,tl,he,hl,hk0,hk⟩
 have he:args=_:=he
 subst he
 refine bw (.cons (.list _ _) .nil) ?_
 by_cases c:l=[]
 ·subst c
  have h0:=hk0 rfl
  refine nc (Jn H _ ?_)
  intro b _
  rw[az]
  split
  ·exact h0
  ·exact⟨⟨(fun _ h=>nomatch h),(fun _ h=>nomatch h),by simp⟩,rfl,fun _=>h0,fun h=>absurd rfl h⟩
 ·refine J3 H l _ ?_
  intro b hb
  rw[az,hb (Lp c),if_neg (by decide)]
  have hp:=List.length_pos_iff.2 c
  have e1:(List.map stc l).length=l.length:=List.length_map _
  rw[e1]
  refine⟨gW l,by omega,hp,fun cap hc=>?_⟩
  exact hk c cap _ hc (DL _)
theorem Ky (s:Se) (p:Int):∀(K:PV→ag→Prop),(K (.bool (s.pl == p)) [.cells [.int .u32 p],.cells [.int .u32 s.pl,.int .i64 s.tm,.int .i64 s.nu,.int .i64 s.st,.int .i64 s.un,.int .u64 s.no]])→an Tryd.prog gl 66 [.agg (stc s),.ptr 0 0] [.cells [.int .u32 p]] K:=fun K h=>ai (T:=[]) (L:=[]) (fun _=>0) Tryd.func66 (by kernel_rfl) (by kernel_rfl) (by kernel_rfl) (aE.nil _ _) (LOk.nil _ _ _ _ _) (ah (by kernel_rfl) h)
def isP (p:Int) (s:Se):Bool:=s.pl == p
def ixS (l:List Se) (p:Int):Int:=if l.findIdx (isP p)<l.length then(l.findIdx (isP p):Int) else -1
def LO (args:List PV) (H:ag) (K:PV→Prop):Prop:=∃(s:Se) (p:Int) (b:Nat),ak args [.agg (stc s),.ptr b 0]∧gY H b [.int .u32 p]∧K (.bool (isP p s))
theorem LX:aQ Tryd.prog gl 66 (.read LO):=by
 rintro args H K ⟨s,p,b,he,hc,hk⟩
 have he:args=_:=he
 subst he
 exact⟨_,zh (pre:=[.agg (stc s)]) ay hc cU (bF (.agg _ (cY s))) (.bool (isP p s)) (Ky s p _ ⟨rfl,[_],rfl⟩),hk⟩
def TAC:Tab:=[(66,.read LO)]
theorem zY:aE Tryd.prog gl TAC:= .cons LX (.nil _ _)
theorem l9 (l:List Se) (i:Nat):InL (l.map stc) 6 (i:Int)=(i<l.length):=dA bV (by decide) l i
theorem Le (H:ag) (l:List Se) (b i:Nat):(by refine(?_:_→_→_→Prop) (List.getD (l.map stc) (Int.toNat (i:Int)) []) (PV.int .i64 l.length) (PV.list (l.map stc) .no); exact fun a d f=>by refine(?_:_→Prop) [PV.list (l.map stc) .no,.fn 66 [.ptr b 0],.int .i64 0,d,.int .i64 i]; exact fun c=>∀(R:Ex→List PV→ag→Prop),(br (decide ((i:Int)<(l.length:Int))) (InL (l.map stc) 6 (i:Int)∧br (true && aH [.int .u32,.int .i64,.int .i64,.int .i64,.int .i64,.int .u64] 0 a) (∃(s:Se) (p:Int) (b_1:Nat),ak [.agg [.int .u32 (cI a 0),.int .i64 (cI a 1),.int .i64 (cI a 2),.int .i64 (cI a 3),.int .i64 (cI a 4),.int .u64 (cI a 5)],.ptr b 0] [.agg [.int .u32 s.pl,.int .i64 s.tm,.int .i64 s.nu,.int .i64 s.st,.int .i64 s.un,.int .u64 s.no],.ptr b_1 0]∧gY H b_1 [.int .u32 p]∧br (isP p s) (R .ret [f,.fn 66 [.ptr b 0],.int .i64 i,d,.int .i64 i] H) (R .normal [f,.fn 66 [.ptr b 0],.int .i64 0,d,.int .i64 (wI ((i:Int)+1))] H)) False) (R (.exit 0) c H))→Holds (wpc br Tryd.prog gl TAC [] (fun _=>0) (av [1,0,1,0] (aj Tryd.f65)) [] (ax [0,1,4,7,8] c) H (fun ex e H=>R ex (List.map e [0,1,4,7,8]) H)):Prop):=fun R h=>ah (by kernel_rfl) h
def I0:LSp:=fun e H Q=>∃(l:List Se) (b:Nat) (p:Int),l.length≤1000000∧ak (List.map e [0,1,4,7,8]) [.list (l.map stc) .no,.fn 66 [.ptr b 0],.int .i64 0,.int .i64 l.length,.int .i64 0]∧gY H b [.int .u32 p]∧
  (l.findIdx (isP p)<l.length→Q .ret (ax [0,1,4,7,8] [.list (l.map stc) .no,.fn 66 [.ptr b 0],.int .i64 (l.findIdx (isP p)),.int .i64 l.length,.int .i64 (l.findIdx (isP p))]) H)∧
  (l.findIdx (isP p)=l.length→Q (.exit 0) (ax [0,1,4,7,8] [.list (l.map stc) .no,.fn 66 [.ptr b 0],.int .i64 0,.int .i64 l.length,.int .i64 l.length]) H)
theorem Ek:∀ e H Q,I0 e H Q→AW Tryd.prog gl Tryd.f65.ntmps (.loop (av [1,0,1,0] (aj Tryd.f65))) Q e H:=by
 rintro e H Q ⟨l,b,p,hl,he,hb,hQ1,hQ2⟩
 have hfl:l.findIdx (isP p)≤l.length:=List.findIdx_le_length
 refine aL (hn:=fun _=>0) ay zY (.nil _ _ _ _ _) (σ:=Nat) [0,1,4,7,8] (fun i=>i≤l.findIdx (isP p)) (fun i=>[.list (l.map stc) .no,.fn 66 [.ptr b 0],.int .i64 0,.int .i64 l.length,.int .i64 i]) (fun _=>H) (fun i=>l.length-i) 0 (Nat.zero_le _) he rfl ?_
 intro i hi
 have hi':i≤l.findIdx (isP p):=hi
 refine Le H l b i _ ?_
 simp only[az,dt,au,l9]
 by_cases h:i<l.length
 ·rw[if_pos (by omega)]
  simp only[getD_map default h]
  refine⟨h,?_⟩
  rw[if_pos (by rfl)]
  obtain⟨t,htd⟩:∃ t,t=l.getD i default:=⟨_,rfl⟩
  rw[← htd]
  refine⟨t,p,b,rfl,hb,?_⟩
  by_cases k:isP p t=true
  ·have hge:l.findIdx (isP p)=i:=dS default hi' h (by rw[← htd]; exact k)
   rw[hge] at hQ1
   rw[if_pos k]
   exact hQ1 h
  ·have hlt:i<l.findIdx (isP p):=dP default hi' h (by rw[← htd]; simpa using k)
   rw[if_neg k]
   exact⟨i+1,(show l.length-(i+1)<l.length-i by omega),hlt,by rw[aA h (by omega)],[],(List.append_nil _).symm,Nat.le_refl _,.inl rfl⟩
 ·rw[if_neg (by omega)]
  have:i=l.length:=by omega
  subst this
  exact hQ2 (by omega)
theorem KF (H:ag) (l:List Se) (b:Nat):∀(K:PV→ag→Prop),(∃(l_1:List Se) (b_1:Nat) (p:Int),l_1.length≤1000000∧ak [.list (l.map stc) .no,.fn 66 [.ptr b 0],.int .i64 0,.int .i64 (↑(List.length (l.map stc)):Int),.int .i64 0] [.list (l_1.map stc) .no,.fn 66 [.ptr b_1 0],.int .i64 0,.int .i64 l_1.length,.int .i64 0]∧gY H b_1 [.int .u32 p]∧(List.findIdx (isP p) l_1<l_1.length→K (.int .i64 (↑(List.findIdx (isP p) l_1):Int)) H)∧(List.findIdx (isP p) l_1=l_1.length→K (.int .i64 (-1)) H))→an Tryd.prog gl 65 [.list (l.map stc) .no,.fn 66 [.ptr b 0]] H K:=fun K h=>ai (T:=TAC) (L:=[([1,0,1,0],I0)]) (fun _=>0) Tryd.func65 (by kernel_rfl) (by kernel_rfl) (by kernel_rfl) (zY) (.cons (aK (by kernel_rfl)) Ek (.nil _ _ _ _ _)) (ah (by kernel_rfl) h)
def Ma (args:List PV) (H:ag) (K:PV→Prop):Prop:=∃(l:List Se) (tl:Tail) (b:Nat) (p:Int),ak args [.list (l.map stc) tl,.fn 66 [.ptr b 0]]∧gY H b [.int .u32 p]∧l.length≤1000000∧K (.int .i64 (ixS l p))
theorem LH:aQ Tryd.prog gl 65 (.read Ma):=by
 rintro args H K ⟨l,tl,b,p,he,hb,hl,hk⟩
 have he:args=_:=he
 subst he
 refine⟨_,bw (.cons (.list _ _) (.cons (.refl _) .nil)) (KF H l b _ ⟨l,b,p,hl,(by show _=_; simp only[List.length_map]),hb,fun h=>⟨?_,rfl⟩,fun h=>⟨?_,rfl⟩⟩),hk⟩
 ·unfold ixS; rw[if_pos h]
 ·unfold ixS; rw[if_neg (by omega)]
def TIX:Tab:=[(65,.read Ma)]
theorem ER:aE Tryd.prog gl TIX:= .cons LH (.nil _ _)
theorem Lw (c:Mt) (p:Int):(by refine(?_:_→Prop) (PV.list (c.aa.map stc) .no); exact fun d=>by refine(?_:_→Prop) [Ob.cells [.int .u32 c.id,.int .i64 c.md,.int .u32 c.ins,.list (c.rows.map rrc) .no,d],.cells [.int .u32 p]]; exact fun a=>∀(K:PV→ag→Prop),(∃(l:List Se) (tl:Tail) (b:Nat) (p_1:Int),ak [d,.fn 66 [.ptr 1 0]] [.list (l.map stc) tl,.fn 66 [.ptr b 0]]∧gY a b [.int .u32 p_1]∧l.length≤1000000∧K (.int .i64 (ixS l p_1)) a)→an Tryd.prog gl 39 [c.pv,.int .u32 p] [] K:Prop):=fun K h=>ai (T:=TIX) (L:=[]) (fun _=>0) Tryd.func39 (by kernel_rfl) (by kernel_rfl) (by kernel_rfl) (ER) (LOk.nil _ _ _ _ _) (ah (by kernel_rfl) h)
theorem KP (c:Mt) (n cap:Nat) (p:Int):(by refine(?_:_→Prop) (PV.list (c.aa.map stc) .no); exact fun e=>by refine(?_:_→Prop) [PV.int .u32 c.id,.int .i64 c.md,.int .u32 c.ins,.arr 0 0 n cap,e]; exact fun a=>by refine(?_:_→Prop) [Ob.dead,.cells a,.cells [.int .u32 p]]; exact fun d=>∀(K:PV→ag→Prop),(∃(l:List Se) (tl:Tail) (b:Nat) (p_1:Int),ak [e,.fn 66 [.ptr 2 0]] [.list (l.map stc) tl,.fn 66 [.ptr b 0]]∧gY d b [.int .u32 p_1]∧l.length≤1000000∧K (.int .i64 (ixS l p_1)) d)→an Tryd.prog gl 39 [.agg a,.int .u32 p] [.dead] K:Prop):=fun K h=>ai (T:=TIX) (L:=[]) (fun o=>match o.dst with|some 6=>1|_=>0) Tryd.func39 (by kernel_rfl) (by kernel_rfl) (by kernel_rfl) (ER) (LOk.nil _ _ _ _ _) (ah (by kernel_rfl) h)
def ek (c:Mt) (x y:PV):PV:= .agg [.int .u32 c.id,.int .i64 c.md,.int .u32 c.ins,x,y]
theorem Mt.low (c:Mt) {n:Nat}:Low n c.pv:=by
 refine .agg _ fun y hy=>?_
 simp only[List.mem_cons,List.not_mem_nil,or_false] at hy
 rcases hy with rfl|rfl|rfl|rfl|rfl<;>first|exact .int _ _|exact aR _|exact dD _
theorem xp (c:Mt) (p:Int) (h:c.aa.length≤1000000):iC Tryd.prog gl 39 [c.pv,.int .u32 p] (.int .i64 (ixS c.aa p)):=
 iC.alone ay (bN c.low (.int _ _)) (.int _ _) (Lw c p _ ⟨c.aa,.no,1,p,rfl,rfl,h,rfl⟩)
theorem Gz (c:Mt) (n cap:Nat) (p:Int) (h:c.aa.length≤1000000) {H:ag} {o:Nat} (ho:o<H.length):an Tryd.prog gl 39 [ek c (.arr o 0 n cap) (.list (c.aa.map stc) .no),.int .u32 p] (fT H) (fun x H'=>x = .int .i64 (ixS c.aa p)∧H'=fT H):=by
 have hd:(fT H)[o]?=some .dead:=by
  simp only[fT,List.getElem?_map,List.getElem?_eq_getElem ho]; rfl
 have h1:an Tryd.prog gl 39 [ek c (.arr 0 0 n cap) (.list (c.aa.map stc) .no),.int .u32 p] [.dead] (fun x H'=>x = .int .i64 (ixS c.aa p)∧H'=[.dead]):=
  an.same (.int _ _) (KP c n cap p _ ⟨c.aa,.no,2,p,rfl,rfl,h,rfl,[_,_],rfl⟩)
 have hsub:Sub (fun _=>o) [.dead] (fT H):=by
  refine⟨fun _ _=>(List.getElem?_eq_some_iff.1 hd).1,fun a b h1 h2 _=>by simp at h1 h2; omega,fun j a hj=>?_⟩
  have e1:=(List.getElem?_eq_some_iff.1 hj).1
  have:j=0:=by simpa using e1
  subst this; cases hj
  exact⟨_,hd,.dead _⟩
 refine bg ay hsub (.cons (Ren.iy (.cons (.low (.int _ _)) (.cons (.low (.int _ _)) (.cons (.low (.int _ _)) (.cons (.arr (ρ:=fun _=>o) 0 0 n cap (by simp)) (.cons (.low (dD _)) .nil)))))) (.cons (.low (.int _ _)) .nil)) (aP h1 fun x H' e=>?_)
 obtain⟨rfl,rfl⟩:=e
 refine⟨.int .i64 (ixS c.aa p),fT H,⟨Nat.le_refl _,by simp,fun j a hj=>?_,fun _ _ _=>rfl⟩,.low (.int _ _),rfl,rfl⟩
 have e1:=(List.getElem?_eq_some_iff.1 hj).1
 have:j=0:=by simpa using e1
 subst this; cases hj
 exact⟨.dead,hd,.dead _,fun h=>h⟩
def Lv (args:List PV) (H:ag) (K:PV→Prop):Prop:=∃(c:Mt) (x y:PV) (p:Int),ak args [.agg [.int .u32 c.id,.int .i64 c.md,.int .u32 c.ins,x,y],.int .u32 p]∧c.aa.length≤1000000∧
 (((∃ t,x = .list (c.rows.map rrc) t)∧(∃ t,y = .list (c.aa.map stc) t))∨((∃ t,x = .list (c.rows.map rrc) t)∧∃(o cap:Nat) (J:List PV),y = .arr o 0 c.aa.length cap∧c.aa.length≤cap∧gY H o (flS c.aa++J))∨
  ((∃ o n cap,x = .arr o 0 n cap∧o<H.length)∧∃(o cap:Nat) (J:List PV),y = .arr o 0 c.aa.length cap∧c.aa.length≤cap∧gY H o (flS c.aa++J)))∧K (.int .i64 (ixS c.aa p))
theorem iS {c:Mt} {t1 t2:Tail}:Wk (ek c (.list (c.rows.map rrc) t1) (.list (c.aa.map stc) t2)) c.pv:= .agg (.cons (.refl _) (.cons (.refl _) (.cons (.refl _) (.cons (.list _ _) (.cons (.list _ _) .nil)))))
theorem KO {c:Mt} {t1:Tail} {y:PV}:Wk (ek c (.list (c.rows.map rrc) t1) y) (ek c (.list (c.rows.map rrc) .no) y):= .agg (.cons (.refl _) (.cons (.refl _) (.cons (.refl _) (.cons (.list _ _) (.cons (.refl _) .nil)))))
theorem HD {n:Nat} (l:List Se):∀ x∈flS l,Low n x:=bu fun a _=>cY a
theorem ux {H:ag} {o cap:Nat} {l:List Se} {J:List PV} (hc:l.length≤cap) (ho:gY H o (flS l++J)):Ld H (.arr o 0 l.length cap) (.list (l.map stc) .no):=by
 have:=Ld.arr (H:=H) o 0 cap 6 [] J (l.map stc) ho rfl (ct bV l) (by rw[List.length_map]; exact hc) (HD l)
 rw[List.length_map] at this
 exact this
theorem IZ:aQ Tryd.prog gl 39 (.read Lv):=by
 rintro args H K ⟨c,x,y,p,he,h,hx,hk⟩
 have he:args=_:=he
 subst he
 rcases hx with⟨⟨t1,rfl⟩,t2,rfl⟩|⟨⟨t1,rfl⟩,o,cap,J,rfl,hc,ho⟩|⟨⟨o2,n,cap2,rfl,ho2⟩,o,cap,J,rfl,hc,ho⟩
 ·exact⟨_,bw (.cons iS (.cons (.refl _) .nil)) (xp c p h H),hk⟩
 ·exact⟨_,bw (.cons KO (.cons (.refl _) .nil)) (nq ay (.int _ _) (.cons (Ld.iy (.cons (.low (.int _ _)) (.cons (.low (.int _ _)) (.cons (.low (.int _ _)) (.cons (.low (aR _)) (.cons (ux hc ho) .nil)))))) (.cons (.low (.int _ _)) .nil)) (xp c p h (fT H))),hk⟩
 ·exact⟨_,nq ay (.int _ _) (.cons (Ld.iy (.cons (.low (.int _ _)) (.cons (.low (.int _ _)) (.cons (.low (.int _ _)) (.cons (.name o2 0 n cap2 ho2) (.cons (ux hc ho) .nil)))))) (.cons (.low (.int _ _)) .nil)) (Gz c n cap2 p h ho2),hk⟩
theorem xy (l:List Se) (i:Nat):InL (l.map stc) 6 (i:Int)=(i<l.length):=l9 l i
end Go.Proofs.YtenaelaapdhbdaaDoor
