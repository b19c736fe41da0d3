/-
  Seats and rows, in part.
-/
import Derived.Test.YtenaelaapdhbdaaSc
import Derived.Test.YtenaelaapdhbdaaSe
import Derived.Test.YtenaelaapdhbdaaProg
namespace Go.Proofs.Ytenaelaapdhbdaa
open Go Go.AM Go.Proofs
theorem idx_vc (l:List (Int)) (t:Int) (i:Nat):(by refine(?_:_→_→_→Prop) (List.getD (l.map u1) (Int.toNat (i:Int)) []) (PV.int .i64 l.length) (PV.list (l.map u1) .no); exact fun b c d=>by refine(?_:_→Prop) [PV.list (l.map u1) .no,.int .u32 t,.int .i64 0,c,.int .i64 i]; exact fun a=>∀(R:Ex→List PV→Heap→Prop),(br (decide ((i:Int)<(l.length:Int))) (InL (l.map u1) 1 (i:Int)∧br (true && fitX [.int .u32] 0 b) (br (t == cI b 0) (R .ret [d,.int .u32 t,.int .i64 i,c,.int .i64 i] []) (R .normal [d,.int .u32 t,.int .i64 0,c,.int .i64 (wI ((i:Int)+1))] [])) False) (R (.exit 0) a []))→Holds (wpc br Try.prog gl [] [] (fun _=>0) (subOf [1,0,1,0] (bodyOf Try.f75)) [] (envS [0,1,4,7,8] a) [] (fun ex e H=>R ex (List.map e [0,1,4,7,8]) H)):Prop):=fun R h=>holds_of_eq (by kernel_rfl) h
def idx_l:LSp:=fun e H Q=>∃(l:List (Int)) (t:Int),l.length≤1000000∧(True)∧SlIs (List.map e [0,1,4,7,8]) [.list (l.map u1) .no,.int .u32 t,.int .i64 0,.int .i64 l.length,.int .i64 0]∧HpIs H []∧
 (l.findIdx (fun x=>t == x)<l.length→Q .ret (envS [0,1,4,7,8] [.list (l.map u1) .no,.int .u32 t,.int .i64 (l.findIdx (fun x=>t == x)),.int .i64 l.length,.int .i64 (l.findIdx (fun x=>t == x))]) [])∧(l.findIdx (fun x=>t == x)=l.length→Q (.exit 0) (envS [0,1,4,7,8] [.list (l.map u1) .no,.int .u32 t,.int .i64 0,.int .i64 l.length,.int .i64 l.length]) [])
theorem idx_l_ok:∀ e H Q,idx_l e H Q→AW Try.prog gl Try.f75.ntmps (.loop (subOf [1,0,1,0] (bodyOf Try.f75))) Q e H:=by
 rintro e H Q ⟨l,t,hl,_,he,hH,hQ1,hQ2⟩
 have hfl:l.findIdx (fun x=>t == x)≤l.length:=List.findIdx_le_length
 refine aw_loop4 (hn:=fun _=>0) gl_low (.nil _ _) (.nil _ _ _ _ _) (σ:=Nat) [0,1,4,7,8] (fun i=>i≤l.findIdx (fun x=>t == x)) (fun i=>[.list (l.map u1) .no,.int .u32 t,.int .i64 0,.int .i64 l.length,.int .i64 i]) (fun _=>[]) (fun i=>l.length-i) 0 (Nat.zero_le _) he hH ?_
 intro i hi
 have hi':i≤l.findIdx (fun x=>t == x):=hi
 refine idx_vc l t i _ ?_
 simp only[br_if,dt,toNat_nat,inL_u1]
 by_cases h:i<l.length
 ·rw[if_pos (by omega)]
  simp only[getD_map 0 h]
  repeat (first|refine⟨h,?_⟩|rw[if_pos (by rfl)])
  by_cases c:(fun x=>t == x) (l.getD i 0)=true
  ·have hge:l.findIdx (fun x=>t == x)=i:=fidx_stop 0 hi' h c
   rw[hge] at hQ1
   rw[if_pos (by exact c)]
   repeat (first|refine⟨h,?_⟩|rw[if_pos (by rfl)])
   exact hQ1 h
  ·have hlt:i<l.findIdx (fun x=>t == x):=fidx_step 0 hi' h (by simpa using c)
   rw[if_neg (by exact c)]
   exact⟨i+1,(show l.length-(i+1)<l.length-i by omega),hlt,by rw[wI_succ h (by omega)],[],rfl,Nat.le_refl _,.inl rfl⟩
 ·rw[if_neg (by omega)]
  have:i=l.length:=by omega
  subst this
  exact hQ2 (by omega)
theorem idx1_vc (l:List Int) (t:Int):∀(K:PV→Prop),(∃(l_1:List Int) (t_1:Int),by refine(?_:_→Prop) (fun(x:Int)=>t_1 == x); exact fun a=>l_1.length≤1000000∧True∧SlIs [.list (l.map u1) .no,.int .u32 t,.int .i64 0,.int .i64 (↑(List.length (l.map u1)):Int),.int .i64 0] [.list (l_1.map u1) .no,.int .u32 t_1,.int .i64 0,.int .i64 l_1.length,.int .i64 0]∧HpIs [] []∧(List.findIdx a l_1<l_1.length→K (.int .i64 (↑(List.findIdx a l_1):Int)))∧(List.findIdx a l_1=l_1.length→K (.int .i64 (-1))))→ACalls Try.prog gl 75 [.list (l.map u1) .no,.int .u32 t] [] (fun x _=>K x):=fun K h=>acalls_of_wpc2 (T:=[]) (L:=[([1,0,1,0],idx_l)]) (fun _=>0) Try.func75 (by kernel_rfl) (by kernel_rfl) (by kernel_rfl) (TabOk.nil _ _) (.cons (sub_of (by kernel_rfl)) idx_l_ok (.nil _ _ _ _ _)) (holds_of_eq (by kernel_rfl) h)
def idxI (l:List Int) (t:Int):Int:=if l.findIdx (fun x=>t == x)<l.length then(l.findIdx (fun x=>t == x):Int) else -1
def idx_s (args:List PV) (K:PV→Prop):Prop:=∃(l:List Int) (t:Int),SlIs args [.list (l.map u1) .no,.int .u32 t]∧l.length≤1000000∧K (.int .i64 (idxI l t))
theorem low_us {n:Nat} (l:List Int):Low n (.list (l.map u1) .no):=low_rows low_u1 l
theorem idx_ok:SpOk Try.prog gl 75 (.pure idx_s):=by
 rintro args K ⟨l,t,he,hl,hk⟩
 have he:args=_:=he
 subst he
 refine spure gl_low (low_two (low_us l) (.int _ _)) (.int _ _) (idx1_vc l t (fun x=>x = .int .i64 (idxI l t)) ⟨l,t,hl,trivial,(by show _=_; simp only[List.length_map]),rfl,fun h=>?_,fun h=>?_⟩) hk
 ·unfold idxI; rw[if_pos h]
 ·unfold idxI; rw[if_neg (by omega)]
def TI1:Tab:=[(75,.pure idx_s)]
theorem TI1_ok:TabOk Try.prog gl TI1:= .cons idx_ok (.nil _ _)
theorem con1_vc (l:List Int) (t:Int)  (K:PV→Prop) (h:∃(l_1:List Int) (t_1:Int),SlIs [.list (List.map u1 l) .no,.int .u32 t] [.list (List.map u1 l_1) .no,.int .u32 t_1]∧List.length l_1≤1000000∧K (.bool (decide (idxI l_1 t_1≥0)))):ACalls Try.prog gl 61 [.list (l.map u1) .no,.int .u32 t] [] (fun x _=>K x):=
 acalls_of_wpc2 (T:=TI1) (L:=[]) (fun _=>0) Try.func61 (by kernel_rfl) (by kernel_rfl) (by kernel_rfl) (TI1_ok) (LOk.nil _ _ _ _ _) (holds_of_eq (by kernel_rfl) h)
def memB (l:List Int) (t:Int):Bool:=decide (t∈l)
theorem memB_iff {l:List Int} {t:Int}:memB l t=true↔t∈l:=by unfold memB; rw[decide_eq_true_eq]
theorem idxI_mem (l:List Int) (t:Int):decide (idxI l t≥0)=memB l t:=by
 unfold idxI memB
 have h:l.findIdx (fun x=>t == x)<l.length↔t∈l:=by
  rw[List.findIdx_lt_length]
  constructor
  ·rintro⟨x,hx,e⟩; rw[eq_of_beq e]; exact hx
  ·intro h; exact⟨t,h,by simp⟩
 by_cases c:l.findIdx (fun x=>t == x)<l.length
 ·rw[if_pos c,decide_eq_true (h.1 c),decide_eq_true (by omega)]
 ·rw[if_neg c,decide_eq_false (fun k=>c (h.2 k)),decide_eq_false (by omega)]
def con_s (args:List PV) (K:PV→Prop):Prop:=∃(l:List Int) (tl:Tail) (t:Int),SlIs args [.list (l.map u1) tl,.int .u32 t]∧l.length≤1000000∧K (.bool (memB l t))
theorem con_ok:SpOk Try.prog gl 61 (.pure con_s):=by
 rintro args K ⟨l,tl,t,he,hl,hk⟩
 have he:args=_:=he
 subst he
 exact spure_w gl_low (.cons (.list _ _) (.cons (.refl _) .nil)) (low_two (low_us l) (.int _ _)) (.bool _) (con1_vc l t (fun x=>x = .bool (memB l t)) ⟨l,t,rfl,hl,by rw[idxI_mem]⟩) hk
theorem clo0_vc (H:Heap)  (K:PV→Heap→Prop) (h:∀(b:Bool),(([]:List PV)≠[]→b=false)→br b (K (.list [] .exact) H) (AppL [] [] 1 4∧K (.list [] .no) H)):ACalls Try.prog gl 60 [.list [] .no] H K:=
 acalls_of_wpc2 (T:=[]) (L:=[]) (fun _=>0) Try.func60 (by kernel_rfl) (by kernel_rfl) (by kernel_rfl) (TabOk.nil _ _) (LOk.nil _ _ _ _ _) (holds_of_eq (by kernel_rfl) h)
theorem clo2_vc (H:Heap) (l:List Int):∀(K:PV→Heap→Prop),(∀(b:Bool),(List.flatten (l.map u1)≠[]→b=false)→br b (K (.list [] .exact) H) (List.length (List.flatten (l.map u1))=List.length (l.map u1)*1∧List.length (l.map u1)*4≤140737488355328∧0<List.length (l.map u1)∧∀(c:Nat),List.length (l.map u1)≤c→K (.arr H.length 0 (List.length (l.map u1)) c) (H++[.cells (List.flatten (l.map u1)++List.flatten (List.replicate (c-List.length (l.map u1)) [.int .u32 0]))])))→ACalls Try.prog gl 60 [.list (l.map u1) .no] H K:=fun K h=>acalls_of_wpc2 (T:=[]) (L:=[]) (fun o=>match o.dst with|some 7=>2|_=>0) Try.func60 (by kernel_rfl) (by kernel_rfl) (by kernel_rfl) (TabOk.nil _ _) (LOk.nil _ _ _ _ _) (holds_of_eq (by kernel_rfl) h)
theorem u1_ne {l:List Int} (h:l≠[]):(l.map u1).flatten≠[]:=by
 cases l with
 | nil=>exact absurd rfl h
 | cons a l=>simp[u1]
def cloA_s (args:List PV) (H:Heap) (K:PV→Heap→Prop):Prop:=∃(l:List Int) (tl:Tail),SlIs args [.list (l.map u1) tl]∧l.length≤1000000∧(l=[]→K (.list [] .no) H)∧
 (l≠[]→∀(cap:Nat),l.length≤cap→∀(J:List PV),Room J (cap-l.length)→K (.arr H.length 0 l.length cap) (H++[.cells ((l.map u1).flatten++J)]))
theorem zeros_u32 (n:Nat):Room (List.replicate n [PV.int .u32 0]).flatten n:=(Room.zeros (z:=[PV.int .u32 0]) (by intro y hy; rcases List.mem_singleton.1 hy with rfl; rfl) (low_one (.int _ _)) n).cast (by simp)
theorem cloA_ok:SpOk Try.prog gl 60 (.heap cloA_s):=by
 rintro args H K ⟨l,tl,he,hl,h0,h1⟩
 have he:args=_:=he
 subst he
 refine acalls_args (.cons (.list _ _) .nil) ?_
 by_cases c:l=[]
 ·subst c
  refine acalls_weak (clo0_vc H _ ?_)
  intro b _
  rw[br_if]
  split
  ·exact⟨_,.list _ _,h0 rfl⟩
  ·exact⟨⟨(fun _ h=>nomatch h),(fun _ h=>nomatch h),by simp⟩,_,.refl _,h0 rfl⟩
 ·refine clo2_vc H l _ ?_
  intro b hb
  rw[br_if,hb (u1_ne c),if_neg (by decide)]
  have hp:=List.length_pos_iff.2 c
  refine⟨by rw[flat_u1,List.length_map,Nat.mul_one],by rw[List.length_map]; omega,by rw[List.length_map]; exact hp,fun cap hc=>?_⟩
  rw[List.length_map] at hc ⊢
  exact h1 c cap hc _ (zeros_u32 _)
theorem cs0_vc (H:Heap)  (K:PV→Heap→Prop) (h:∀(b:Bool),(([]:List PV)≠[]→b=false)→br b (K (.list [] .exact) H) (AppL [] [] 6 48∧true=true∧(([]:List (List PV))=[]→K (.list [] .exact) H)∧(([]:List (List PV))≠[]→K (.list [] (.tok (List.length H))) (H++[.tok])))):ACalls Try.prog gl 59 [.list [] .no] H K:=
 acalls_of_wpc2 (T:=[]) (L:=[]) (fun o=>match o.dst with|some 7=>4|_=>0) Try.func59 (by kernel_rfl) (by kernel_rfl) (by kernel_rfl) (TabOk.nil _ _) (LOk.nil _ _ _ _ _) (holds_of_eq (by kernel_rfl) h)
theorem cs2_vc (H:Heap) (l:List Se):∀(K:PV→Heap→Prop),(∀(b:Bool),(List.flatten (l.map stc)≠[]→b=false)→br b (K (.list [] .exact) H) (List.length (List.flatten (l.map stc))=List.length (l.map stc)*6∧List.length (l.map stc)*48≤140737488355328∧0<List.length (l.map stc)∧∀(c:Nat),List.length (l.map stc)≤c→K (.arr H.length 0 (List.length (l.map stc)) c) (H++[.cells (List.flatten (l.map stc)++List.flatten (List.replicate (c-List.length (l.map stc)) [.int .u32 0,.int .i64 0,.int .i64 0,.int .i64 0,.int .i64 0,.int .u64 0]))])))→ACalls Try.prog gl 59 [.list (l.map stc) .no] H K:=fun K h=>acalls_of_wpc2 (T:=[]) (L:=[]) (fun o=>match o.dst with|some 7=>2|_=>0) Try.func59 (by kernel_rfl) (by kernel_rfl) (by kernel_rfl) (TabOk.nil _ _) (LOk.nil _ _ _ _ _) (holds_of_eq (by kernel_rfl) h)
def cloX_s (args:List PV) (H:Heap) (K:PV→Heap→Prop):Prop:=∃(l:List Int) (tl:Tail),SlIs args [.list (l.map u1) tl]∧l.length≤1000000∧
 (K (.list (l.map u1) .no) H∨(l≠[]∧∀(cap:Nat),l.length≤cap→∀(J:List PV),Room J (cap-l.length)→K (.arr H.length 0 l.length cap) (H++[.cells ((l.map u1).flatten++J)])))
theorem uni_u1 (l:List Int):uni 1 (l.map u1):=uni_map u1_len l
theorem fzH_new {o off:Nat} {es:List (List PV)} {H:Heap} {c:Ob} (ho:o=H.length):FzH o off es (H++[c]) (H++[.dead]):=by
 subst ho
 refine⟨by simp,fun i b h=>?_⟩
 by_cases c:i<H.length
 ·rw[List.getElem?_append_left c] at h
  exact .inr (.inl ⟨by omega,by rw[List.getElem?_append_left c]; exact h⟩)
 ·have:=(List.getElem?_eq_some_iff.1 h).1
  simp at this
  rw[show i=H.length by omega,List.getElem?_append_right (Nat.le_refl _)] at h
  simp at h
  exact .inl h.symm
theorem cloX_ok:SpOk Try.prog gl 60 (.heap cloX_s):=by
 rintro args H K ⟨l,tl,he,hl,hk⟩
 rcases hk with hk|⟨hne,hk⟩
 ·by_cases c:l=[]
  ·subst c
   exact cloA_ok args H K ⟨[],tl,he,hl,fun _=>hk,fun h=>absurd rfl h⟩
  refine acalls_to (ACalls.same (r:= .list (l.map u1) .no) (low_us l).up (acalls_freezeH (cloA_ok args H _ ⟨l,tl,he,hl,fun e=>absurd e c,fun _ cap hc J hJ=>?_⟩))) (fun x H' e=>by obtain⟨rfl,rfl⟩:=e; exact hk)
  ·refine⟨H.length,0,1,[],J,l.map u1,.list (l.map u1) .no,H++[.dead],by simp,rfl,uni_u1 l,fzH_new rfl,?_,rfl,[.dead],rfl⟩
   have:=Fz.arr (o:=H.length) (off:=0) (es:=l.map u1) cap (by rw[List.length_map]; exact hc)
   rw[List.length_map] at this
   exact this
 ·exact cloA_ok args H K ⟨l,tl,he,hl,fun e=>absurd e hne,fun _=>hk⟩
abbrev flS (l:List Se):List PV:=(l.map stc).flatten
theorem flS_len (l:List Se):(flS l).length=l.length*6:=rows_len stc_len l
theorem flS_ne {l:List Se} (h:l≠[]):flS l≠[]:=by
 cases l with
 | nil=>exact absurd rfl h
 | cons a l=>simp[flS,stc]
def ArS (o:Nat) (l:List Se) (x:PV) (g:Ob):Prop:=(l=[]∧x = .list [] .exact∧g = .dead)∨(l≠[]∧∃(cap:Nat) (J:List PV),x = .arr o 0 l.length cap∧g = .cells (flS l++J)∧l.length≤cap∧Room J ((cap-l.length)*6))
def cloS_s (args:List PV) (H:Heap) (K:PV→Heap→Prop):Prop:=∃(l:List Se) (tl:Tail),SlIs args [.list (l.map stc) tl]∧l.length≤1000000∧(l=[]→K (.list [] .exact) (H++[.dead]))∧(l≠[]→∀(cap:Nat) (J:List PV),l.length≤cap→Room J ((cap-l.length)*6)→K (.arr H.length 0 l.length cap) (H++[.cells (flS l++J)]))
theorem zeros_se (n:Nat):Room (List.replicate n [PV.int .u32 0,.int .i64 0,.int .i64 0,.int .i64 0,.int .i64 0,.int .u64 0]).flatten (n*6):=by
 refine(Room.zeros (z:=[PV.int .u32 0,.int .i64 0,.int .i64 0,.int .i64 0,.int .i64 0,.int .u64 0]) (fun y hy=>one_stc (⟨0,0,0,0,0,0⟩:Se) y hy) (fun y hy=>low_stc (⟨0,0,0,0,0,0⟩:Se) y hy) n).cast (by simp)
theorem cloS_ok:SpOk Try.prog gl 59 (.heap cloS_s):=by
 rintro args H K ⟨l,tl,he,hl,hk0,hk⟩
 have he:args=_:=he
 subst he
 refine acalls_args (.cons (.list _ _) .nil) ?_
 by_cases c:l=[]
 ·subst c
  have h0:=hk0 rfl
  refine acalls_pad1 (cs0_vc H _ ?_)
  intro b _
  rw[br_if]
  split
  ·exact h0
  ·exact⟨⟨(fun _ h=>nomatch h),(fun _ h=>nomatch h),by simp⟩,rfl,fun _=>h0,fun h=>absurd rfl h⟩
 ·refine cs2_vc H l _ ?_
  intro b hb
  rw[br_if,hb (flS_ne c),if_neg (by decide)]
  have hp:=List.length_pos_iff.2 c
  have e1:(List.map stc l).length=l.length:=List.length_map _
  rw[e1]
  refine⟨flS_len l,by omega,hp,fun cap hc=>?_⟩
  exact hk c cap _ hc (zeros_se _)
theorem ac1_vc (s:Se) (p:Int):∀(K:PV→Heap→Prop),(K (.bool (s.pl == p)) [.cells [.int .u32 p],.cells [.int .u32 s.pl,.int .i64 s.tm,.int .i64 s.nu,.int .i64 s.st,.int .i64 s.un,.int .u64 s.no]])→ACalls Try.prog gl 58 [.agg (stc s),.ptr 0 0] [.cells [.int .u32 p]] K:=fun K h=>acalls_of_wpc2 (T:=[]) (L:=[]) (fun _=>0) Try.func58 (by kernel_rfl) (by kernel_rfl) (by kernel_rfl) (TabOk.nil _ _) (LOk.nil _ _ _ _ _) (holds_of_eq (by kernel_rfl) h)
def isP (p:Int) (s:Se):Bool:=s.pl == p
def ixS (l:List Se) (p:Int):Int:=if l.findIdx (isP p)<l.length then(l.findIdx (isP p):Int) else -1
def ac_s (args:List PV) (H:Heap) (K:PV→Prop):Prop:=∃(s:Se) (p:Int) (b:Nat),SlIs args [.agg (stc s),.ptr b 0]∧CeIs H b [.int .u32 p]∧K (.bool (isP p s))
theorem ac_ok:SpOk Try.prog gl 58 (.read ac_s):=by
 rintro args H K ⟨s,p,b,he,hc,hk⟩
 have he:args=_:=he
 subst he
 exact⟨_,read_cell (pre:=[.agg (stc s)]) gl_low hc low0_int (low_one (.agg _ (low_stc s))) (.bool (isP p s)) (ac1_vc s p _ ⟨rfl,[_],rfl⟩),hk⟩
def TAC:Tab:=[(58,.read ac_s)]
theorem TAC_ok:TabOk Try.prog gl TAC:= .cons ac_ok (.nil _ _)
theorem inL_se (l:List Se) (i:Nat):InL (l.map stc) 6 (i:Int)=(i<l.length):=inL_map stc_len (by decide) l i
theorem ifS_vc (H:Heap) (l:List Se) (b i:Nat):(by refine(?_:_→_→_→Prop) (List.getD (l.map stc) (Int.toNat (i:Int)) []) (PV.int .i64 l.length) (PV.list (l.map stc) .no); exact fun a d f=>by refine(?_:_→Prop) [PV.list (l.map stc) .no,.fn 58 [.ptr b 0],.int .i64 0,d,.int .i64 i]; exact fun c=>∀(R:Ex→List PV→Heap→Prop),(br (decide ((i:Int)<(l.length:Int))) (InL (l.map stc) 6 (i:Int)∧br (true && fitX [.int .u32,.int .i64,.int .i64,.int .i64,.int .i64,.int .u64] 0 a) (∃(s:Se) (p:Int) (b_1:Nat),SlIs [.agg [.int .u32 (cI a 0),.int .i64 (cI a 1),.int .i64 (cI a 2),.int .i64 (cI a 3),.int .i64 (cI a 4),.int .u64 (cI a 5)],.ptr b 0] [.agg [.int .u32 s.pl,.int .i64 s.tm,.int .i64 s.nu,.int .i64 s.st,.int .i64 s.un,.int .u64 s.no],.ptr b_1 0]∧CeIs H b_1 [.int .u32 p]∧br (isP p s) (R .ret [f,.fn 58 [.ptr b 0],.int .i64 i,d,.int .i64 i] H) (R .normal [f,.fn 58 [.ptr b 0],.int .i64 0,d,.int .i64 (wI ((i:Int)+1))] H)) False) (R (.exit 0) c H))→Holds (wpc br Try.prog gl TAC [] (fun _=>0) (subOf [1,0,1,0] (bodyOf Try.f57)) [] (envS [0,1,4,7,8] c) H (fun ex e H=>R ex (List.map e [0,1,4,7,8]) H)):Prop):=fun R h=>holds_of_eq (by kernel_rfl) h
def ifS_l:LSp:=fun e H Q=>∃(l:List Se) (b:Nat) (p:Int),l.length≤1000000∧SlIs (List.map e [0,1,4,7,8]) [.list (l.map stc) .no,.fn 58 [.ptr b 0],.int .i64 0,.int .i64 l.length,.int .i64 0]∧CeIs H b [.int .u32 p]∧
  (l.findIdx (isP p)<l.length→Q .ret (envS [0,1,4,7,8] [.list (l.map stc) .no,.fn 58 [.ptr b 0],.int .i64 (l.findIdx (isP p)),.int .i64 l.length,.int .i64 (l.findIdx (isP p))]) H)∧
  (l.findIdx (isP p)=l.length→Q (.exit 0) (envS [0,1,4,7,8] [.list (l.map stc) .no,.fn 58 [.ptr b 0],.int .i64 0,.int .i64 l.length,.int .i64 l.length]) H)
theorem ifS_l_ok:∀ e H Q,ifS_l e H Q→AW Try.prog gl Try.f57.ntmps (.loop (subOf [1,0,1,0] (bodyOf Try.f57))) Q e H:=by
 rintro e H Q ⟨l,b,p,hl,he,hb,hQ1,hQ2⟩
 have hfl:l.findIdx (isP p)≤l.length:=List.findIdx_le_length
 refine aw_loop4 (hn:=fun _=>0) gl_low TAC_ok (.nil _ _ _ _ _) (σ:=Nat) [0,1,4,7,8] (fun i=>i≤l.findIdx (isP p)) (fun i=>[.list (l.map stc) .no,.fn 58 [.ptr b 0],.int .i64 0,.int .i64 l.length,.int .i64 i]) (fun _=>H) (fun i=>l.length-i) 0 (Nat.zero_le _) he rfl ?_
 intro i hi
 have hi':i≤l.findIdx (isP p):=hi
 refine ifS_vc H l b i _ ?_
 simp only[br_if,dt,toNat_nat,inL_se]
 by_cases h:i<l.length
 ·rw[if_pos (by omega)]
  simp only[getD_map default h]
  refine⟨h,?_⟩
  rw[if_pos (by rfl)]
  obtain⟨t,htd⟩:∃ t,t=l.getD i default:=⟨_,rfl⟩
  rw[← htd]
  refine⟨t,p,b,rfl,hb,?_⟩
  by_cases k:isP p t=true
  ·have hge:l.findIdx (isP p)=i:=fidx_stop default hi' h (by rw[← htd]; exact k)
   rw[hge] at hQ1
   rw[if_pos k]
   exact hQ1 h
  ·have hlt:i<l.findIdx (isP p):=fidx_step default hi' h (by rw[← htd]; simpa using k)
   rw[if_neg k]
   exact⟨i+1,(show l.length-(i+1)<l.length-i by omega),hlt,by rw[wI_succ h (by omega)],[],(List.append_nil _).symm,Nat.le_refl _,.inl rfl⟩
 ·rw[if_neg (by omega)]
  have:i=l.length:=by omega
  subst this
  exact hQ2 (by omega)
theorem ig1_vc (H:Heap) (l:List Se) (b:Nat):∀(K:PV→Heap→Prop),(∃(l_1:List Se) (b_1:Nat) (p:Int),l_1.length≤1000000∧SlIs [.list (l.map stc) .no,.fn 58 [.ptr b 0],.int .i64 0,.int .i64 (↑(List.length (l.map stc)):Int),.int .i64 0] [.list (l_1.map stc) .no,.fn 58 [.ptr b_1 0],.int .i64 0,.int .i64 l_1.length,.int .i64 0]∧CeIs H b_1 [.int .u32 p]∧(List.findIdx (isP p) l_1<l_1.length→K (.int .i64 (↑(List.findIdx (isP p) l_1):Int)) H)∧(List.findIdx (isP p) l_1=l_1.length→K (.int .i64 (-1)) H))→ACalls Try.prog gl 57 [.list (l.map stc) .no,.fn 58 [.ptr b 0]] H K:=fun K h=>acalls_of_wpc2 (T:=TAC) (L:=[([1,0,1,0],ifS_l)]) (fun _=>0) Try.func57 (by kernel_rfl) (by kernel_rfl) (by kernel_rfl) (TAC_ok) (.cons (sub_of (by kernel_rfl)) ifS_l_ok (.nil _ _ _ _ _)) (holds_of_eq (by kernel_rfl) h)
def ix_s (args:List PV) (H:Heap) (K:PV→Prop):Prop:=∃(l:List Se) (tl:Tail) (b:Nat) (p:Int),SlIs args [.list (l.map stc) tl,.fn 58 [.ptr b 0]]∧CeIs H b [.int .u32 p]∧l.length≤1000000∧K (.int .i64 (ixS l p))
theorem ix_ok:SpOk Try.prog gl 57 (.read ix_s):=by
 rintro args H K ⟨l,tl,b,p,he,hb,hl,hk⟩
 have he:args=_:=he
 subst he
 refine⟨_,acalls_args (.cons (.list _ _) (.cons (.refl _) .nil)) (ig1_vc H l b _ ⟨l,b,p,hl,(by show _=_; simp only[List.length_map]),hb,fun h=>⟨?_,rfl⟩,fun h=>⟨?_,rfl⟩⟩),hk⟩
 ·unfold ixS; rw[if_pos h]
 ·unfold ixS; rw[if_neg (by omega)]
def TIX:Tab:=[(57,.read ix_s)]
theorem TIX_ok:TabOk Try.prog gl TIX:= .cons ix_ok (.nil _ _)
theorem at0_vc (c:Mt) (p:Int):(by refine(?_:_→Prop) (PV.list (c.seats.map stc) .no); exact fun d=>by refine(?_:_→Prop) [Ob.cells [.int .u32 c.id,.int .i64 c.md,.int .u32 c.ins,.list (c.rows.map rrc) .no,d],.cells [.int .u32 p]]; exact fun a=>∀(K:PV→Heap→Prop),(∃(l:List Se) (tl:Tail) (b:Nat) (p_1:Int),SlIs [d,.fn 58 [.ptr 1 0]] [.list (l.map stc) tl,.fn 58 [.ptr b 0]]∧CeIs a b [.int .u32 p_1]∧l.length≤1000000∧K (.int .i64 (ixS l p_1)) a)→ACalls Try.prog gl 38 [c.pv,.int .u32 p] [] K:Prop):=fun K h=>acalls_of_wpc2 (T:=TIX) (L:=[]) (fun _=>0) Try.func38 (by kernel_rfl) (by kernel_rfl) (by kernel_rfl) (TIX_ok) (LOk.nil _ _ _ _ _) (holds_of_eq (by kernel_rfl) h)
theorem at1_vc (c:Mt) (n cap:Nat) (p:Int):(by refine(?_:_→Prop) (PV.list (c.seats.map stc) .no); exact fun e=>by refine(?_:_→Prop) [PV.int .u32 c.id,.int .i64 c.md,.int .u32 c.ins,.arr 0 0 n cap,e]; exact fun a=>by refine(?_:_→Prop) [Ob.dead,.cells a,.cells [.int .u32 p]]; exact fun d=>∀(K:PV→Heap→Prop),(∃(l:List Se) (tl:Tail) (b:Nat) (p_1:Int),SlIs [e,.fn 58 [.ptr 2 0]] [.list (l.map stc) tl,.fn 58 [.ptr b 0]]∧CeIs d b [.int .u32 p_1]∧l.length≤1000000∧K (.int .i64 (ixS l p_1)) d)→ACalls Try.prog gl 38 [.agg a,.int .u32 p] [.dead] K:Prop):=fun K h=>acalls_of_wpc2 (T:=TIX) (L:=[]) (fun o=>match o.dst with|some 6=>1|_=>0) Try.func38 (by kernel_rfl) (by kernel_rfl) (by kernel_rfl) (TIX_ok) (LOk.nil _ _ _ _ _) (holds_of_eq (by kernel_rfl) h)
def MtAg (c:Mt) (x y:PV):PV:= .agg [.int .u32 c.id,.int .i64 c.md,.int .u32 c.ins,x,y]
theorem Mt.low (c:Mt) {n:Nat}:Low n c.pv:=by
 refine .agg _ fun y hy=>?_
 simp only[List.mem_cons,List.not_mem_nil,or_false] at hy
 rcases hy with rfl|rfl|rfl|rfl|rfl<;>first|exact .int _ _|exact low_rrs _|exact low_sts _
theorem at0_law (c:Mt) (p:Int) (h:c.seats.length≤1000000):PCall Try.prog gl 38 [c.pv,.int .u32 p] (.int .i64 (ixS c.seats p)):=
 PCall.alone gl_low (low_two c.low (.int _ _)) (.int _ _) (at0_vc c p _ ⟨c.seats,.no,1,p,rfl,rfl,h,rfl⟩)
theorem at1_law (c:Mt) (n cap:Nat) (p:Int) (h:c.seats.length≤1000000) {H:Heap} {o:Nat} (ho:o<H.length):ACalls Try.prog gl 38 [MtAg c (.arr o 0 n cap) (.list (c.seats.map stc) .no),.int .u32 p] (deadH H) (fun x H'=>x = .int .i64 (ixS c.seats p)∧H'=deadH H):=by
 have hd:(deadH H)[o]?=some .dead:=by
  simp only[deadH,List.getElem?_map,List.getElem?_eq_getElem ho]; rfl
 have h1:ACalls Try.prog gl 38 [MtAg c (.arr 0 0 n cap) (.list (c.seats.map stc) .no),.int .u32 p] [.dead] (fun x H'=>x = .int .i64 (ixS c.seats p)∧H'=[.dead]):=
  ACalls.same (.int _ _) (at1_vc c n cap p _ ⟨c.seats,.no,2,p,rfl,rfl,h,rfl,[_,_],rfl⟩)
 have hsub:Sub (fun _=>o) [.dead] (deadH H):=by
  refine⟨fun _ _=>(List.getElem?_eq_some_iff.1 hd).1,fun a b h1 h2 _=>by simp at h1 h2; omega,fun j a hj=>?_⟩
  have e1:=(List.getElem?_eq_some_iff.1 hj).1
  have:j=0:=by simpa using e1
  subst this; cases hj
  exact⟨_,hd,.dead _⟩
 refine acalls_frame gl_low hsub (.cons (Ren.aggL (.cons (.low (.int _ _)) (.cons (.low (.int _ _)) (.cons (.low (.int _ _)) (.cons (.arr (ρ:=fun _=>o) 0 0 n cap (by simp)) (.cons (.low (low_sts _)) .nil)))))) (.cons (.low (.int _ _)) .nil)) (acalls_to h1 fun x H' e=>?_)
 obtain⟨rfl,rfl⟩:=e
 refine⟨.int .i64 (ixS c.seats p),deadH H,⟨Nat.le_refl _,by simp,fun j a hj=>?_,fun _ _ _=>rfl⟩,.low (.int _ _),rfl,rfl⟩
 have e1:=(List.getElem?_eq_some_iff.1 hj).1
 have:j=0:=by simpa using e1
 subst this; cases hj
 exact⟨.dead,hd,.dead _,fun h=>h⟩
def at_s (args:List PV) (H:Heap) (K:PV→Prop):Prop:=∃(c:Mt) (x y:PV) (p:Int),SlIs args [.agg [.int .u32 c.id,.int .i64 c.md,.int .u32 c.ins,x,y],.int .u32 p]∧c.seats.length≤1000000∧
 (((∃ t,x = .list (c.rows.map rrc) t)∧(∃ t,y = .list (c.seats.map stc) t))∨((∃ t,x = .list (c.rows.map rrc) t)∧∃(o cap:Nat) (J:List PV),y = .arr o 0 c.seats.length cap∧c.seats.length≤cap∧CeIs H o (flS c.seats++J))∨
  ((∃ o n cap,x = .arr o 0 n cap∧o<H.length)∧∃(o cap:Nat) (J:List PV),y = .arr o 0 c.seats.length cap∧c.seats.length≤cap∧CeIs H o (flS c.seats++J)))∧K (.int .i64 (ixS c.seats p))
theorem wk_mt {c:Mt} {t1 t2:Tail}:Wk (MtAg c (.list (c.rows.map rrc) t1) (.list (c.seats.map stc) t2)) c.pv:= .agg (.cons (.refl _) (.cons (.refl _) (.cons (.refl _) (.cons (.list _ _) (.cons (.list _ _) .nil)))))
theorem wk_mt1 {c:Mt} {t1:Tail} {y:PV}:Wk (MtAg c (.list (c.rows.map rrc) t1) y) (MtAg c (.list (c.rows.map rrc) .no) y):= .agg (.cons (.refl _) (.cons (.refl _) (.cons (.refl _) (.cons (.list _ _) (.cons (.refl _) .nil)))))
theorem flS_low {n:Nat} (l:List Se):∀ x∈flS l,Low n x:=low_map fun a _=>low_stc a
theorem ld_seats {H:Heap} {o cap:Nat} {l:List Se} {J:List PV} (hc:l.length≤cap) (ho:CeIs H o (flS l++J)):Ld H (.arr o 0 l.length cap) (.list (l.map stc) .no):=by
 have:=Ld.arr (H:=H) o 0 cap 6 [] J (l.map stc) ho rfl (uni_map stc_len l) (by rw[List.length_map]; exact hc) (flS_low l)
 rw[List.length_map] at this
 exact this
theorem at_ok:SpOk Try.prog gl 38 (.read at_s):=by
 rintro args H K ⟨c,x,y,p,he,h,hx,hk⟩
 have he:args=_:=he
 subst he
 rcases hx with⟨⟨t1,rfl⟩,t2,rfl⟩|⟨⟨t1,rfl⟩,o,cap,J,rfl,hc,ho⟩|⟨⟨o2,n,cap2,rfl,ho2⟩,o,cap,J,rfl,hc,ho⟩
 ·exact⟨_,acalls_args (.cons wk_mt (.cons (.refl _) .nil)) (at0_law c p h H),hk⟩
 ·exact⟨_,acalls_args (.cons wk_mt1 (.cons (.refl _) .nil)) (acalls_lend gl_low (.int _ _) (.cons (Ld.aggL (.cons (.low (.int _ _)) (.cons (.low (.int _ _)) (.cons (.low (.int _ _)) (.cons (.low (low_rrs _)) (.cons (ld_seats hc ho) .nil)))))) (.cons (.low (.int _ _)) .nil)) (at0_law c p h (deadH H))),hk⟩
 ·exact⟨_,acalls_lend gl_low (.int _ _) (.cons (Ld.aggL (.cons (.low (.int _ _)) (.cons (.low (.int _ _)) (.cons (.low (.int _ _)) (.cons (.name o2 0 n cap2 ho2) (.cons (ld_seats hc ho) .nil)))))) (.cons (.low (.int _ _)) .nil)) (at1_law c n cap2 p h ho2),hk⟩
def stP (s:Se):List PV:=[.int .u32 s.pl]
theorem stP_len (s:Se):(stP s).length=1:=rfl
theorem low_stP {n:Nat} (s:Se):∀ y∈stP s,Low n y:=low_one (.int _ _)
theorem one_stP (s:Se):∀ y∈stP s,y.one=true:=by intro y hy; rcases List.mem_singleton.1 hy with rfl; rfl
theorem inL_stc (l:List Se) (i:Nat):InL (l.map stc) 6 (i:Int)=(i<l.length):=inL_se l i
def isT (k:Int) (s:Se):Bool:=s.tm == k
theorem lowH_one' {cs:List PV} (h:∀ x∈cs,Low 0 x):LowH [.cells cs]:=lowH_of (by intro ob ho; rcases List.mem_singleton.1 ho with rfl; exact fun x hx=>(h x hx).up)
theorem teamA_vc (l:List (Se)) (k:Int) (cs:List PV) (i:Nat):(by refine(?_:_→_→_→_→Prop) (List.getD (l.map stc) (Int.toNat (i:Int)) []) (PV.list (l.map stc) .no) (PV.int .i64 l.length) (PV.int .i64 (wI ((i:Int)+1))); exact fun a f g h=>by refine(?_:_→_→_→Prop) [PV.int .i64 k,.list [] .exact,f,g,.int .i64 i] [[PV.int .u32 (cI a 0)]] (PV.int .u32 (cI a 0)); exact fun c d j=>by refine(?_:_→Prop) (Ob.cells [j,.int .i64 (cI a 1),.int .i64 (cI a 2),.int .i64 (cI a 3),.int .i64 (cI a 4),.int .u64 (cI a 5)]); exact fun b=>∀(R:Ex→List PV→Heap→Prop),(br (decide ((i:Int)<(l.length:Int))) (InL (l.map stc) 6 (i:Int)∧br (true && fitX [.int .u32,.int .i64,.int .i64,.int .i64,.int .i64,.int .u64] 0 a) (br (cI a 1 == k) (AppL [] d 1 4∧(List.all [j] PV.one=true∧d≠[])∧R .normal [.int .i64 k,.list d (.tok 2),f,g,h] [.cells cs,b,.tok]) (R .normal [.int .i64 k,.list [] .exact,f,g,h] [.cells cs,b])) False) (R (.exit 0) c [.cells cs]))→Holds (wpc br Try.prog gl [] [] (fun o=>match o.dst with|some 23=>1|_=>0) (subOf [1,1,0,1,0] (bodyOf Try.f17)) [] (envS [1,5,9,10,11] c) [.cells cs] (fun ex e H=>R ex (List.map e [1,5,9,10,11]) H)):Prop):=fun R h=>holds_of_eq (by kernel_rfl) h
theorem teamB_vc (l:List (Se)) (k:Int) (cs:List PV) (es:List (List PV)) (i:Nat):(by refine(?_:_→_→_→_→Prop) (List.getD (l.map stc) (Int.toNat (i:Int)) []) (PV.list (l.map stc) .no) (PV.int .i64 l.length) (PV.int .i64 (wI ((i:Int)+1))); exact fun a f g h=>by refine(?_:_→_→_→Prop) [PV.int .i64 k,.list es (.tok 1),f,g,.int .i64 i] [[PV.int .u32 (cI a 0)]] (PV.int .u32 (cI a 0)); exact fun c d j=>by refine(?_:_→Prop) (Ob.cells [j,.int .i64 (cI a 1),.int .i64 (cI a 2),.int .i64 (cI a 3),.int .i64 (cI a 4),.int .u64 (cI a 5)]); exact fun b=>∀(R:Ex→List PV→Heap→Prop),(br (decide ((i:Int)<(l.length:Int))) (InL (l.map stc) 6 (i:Int)∧br (true && fitX [.int .u32,.int .i64,.int .i64,.int .i64,.int .i64,.int .u64] 0 a) (br (cI a 1 == k) (AppL es d 1 4∧(List.all [j] PV.one=true∧d≠[])∧R .normal [.int .i64 k,.list (es++d) (.tok 3),f,g,h] [.cells cs,.dead,b,.tok]) (R .normal [.int .i64 k,.list es (.tok 1),f,g,h] [.cells cs,.tok,b])) False) (R (.exit 0) c [.cells cs,.tok]))→Holds (wpc br Try.prog gl [] [] (fun o=>match o.dst with|some 23=>1|_=>0) (subOf [1,1,0,1,0] (bodyOf Try.f17)) [] (envS [1,5,9,10,11] c) [.cells cs,.tok] (fun ex e H=>R ex (List.map e [1,5,9,10,11]) H)):Prop):=fun R h=>holds_of_eq (by kernel_rfl) h
def team_l:LSp:=fun e H Q=>∃(l:List (Se)) (k:Int) (cs:List PV),l.length≤1000000∧(∀ x∈cs,Low 0 x)∧SlIs (List.map e [1,5,9,10,11]) [.int .i64 k,.list [] .exact,.list (l.map stc) .no,.int .i64 l.length,.int .i64 0]∧HpIs H [.cells cs]∧
 Q (.exit 0) (envS [1,5,9,10,11] [.int .i64 k,.list ((l.filter (isT k)).map stP) .no,.list (l.map stc) .no,.int .i64 l.length,.int .i64 l.length]) [.cells cs,.dead]
theorem team_l_ok:∀ e H Q,team_l e H Q→AW Try.prog gl Try.f17.ntmps (.loop (subOf [1,1,0,1,0] (bodyOf Try.f17))) Q e H:=by
 rintro e H Q ⟨l,k,cs,hl,hcs,he,hH,hQ⟩
 have hH2:H=[.cells cs]:=hH
 refine aw_growif (f:=stP) (acc:=fun i=>(l.take i).filter (isT k)) (I:=fun i=>i≤l.length) (m:=fun i=>l.length-i) (hn:=fun o=>match o.dst with|some 23=>1|_=>0) gl_low (.nil _ _) (.nil _ _ _ _ _) [1,5,9,10,11] (fun r i=>[.int .i64 k,r,.list (l.map stc) .no,.int .i64 l.length,.int .i64 i]) [.cells cs] (0:Nat)
  (lowH_one' hcs) (fun _ _ a _=>low_stP a) (fun es i k _ h=> .same (.int _ _) (.row h (.same (low_sts l) (.same (.int _ _) (.same (.int _ _) (.nil)))))) (fun i _ w hw=>by
   simp only[List.mem_cons,List.not_mem_nil,or_false] at hw
   rcases hw with rfl|rfl|rfl|rfl|rfl
   ·exact .int _ _
   ·exact low_list NT.exact (by simp)
   ·exact low_sts l
   ·exact .int _ _
   ·exact .int _ _) (Nat.zero_le _) (by simp) he hH2 ?_ ?_
 ·intro i hi ha
  have hi':i≤l.length:=hi
  refine teamA_vc l k cs i _ ?_
  simp only[br_if,dt,toNat_nat,inL_stc]
  by_cases h:i<l.length
  ·rw[if_pos (by omega)]
   simp only[getD_map default h]
   have hs:=filter_take (p:=isT k) default h
   have hle:=filter_take_le (isT k) l i
   repeat (first|refine⟨h,?_⟩|rw[if_pos (by rfl)])
   by_cases c:(isT k) (l.getD i default)=true
   ·rw[if_pos c] at hs
    rw[if_pos (by exact c)]
    repeat (first|refine⟨h,?_⟩|rw[if_pos (by rfl)])
    refine⟨appL_map (l:=[]) (by_:=4) stP_len (l.getD i default) (by show(0+1)*4≤_; decide),one_row one_stP (l.getD i default),?_⟩
    exact growQ_add (i+1) (show l.length-(i+1)<l.length-i by omega) h hs (ne_snoc _ _) [_,.tok] 2 rfl rfl (by simp) (by rw[ha]; rw[wI_succ h (by omega)]; rfl)
   ·rw[if_neg c,List.append_nil] at hs
    rw[if_neg (by exact c)]
    exact growQ_none (i+1) (show l.length-(i+1)<l.length-i by omega) h (hs.trans ha) [_] rfl (by rw[wI_succ h (by omega)])
  ·rw[if_neg (by omega)]
   have:i=l.length:=by omega
   subst this
   simp only[List.take_length] at ha ⊢
   rw[ha] at hQ
   exact growQ_end (.cons (.refl _) (.cons (.list _ _) (.cons (.refl _) (.cons (.refl _) (.cons (.refl _) (.nil)))))) (pad_dead _) hQ
 ·intro i hi ha
  have hi':i≤l.length:=hi
  refine teamB_vc l k cs (((l.take i).filter (isT k)).map stP) i _ ?_
  simp only[br_if,dt,toNat_nat,inL_stc]
  by_cases h:i<l.length
  ·rw[if_pos (by omega)]
   simp only[getD_map default h]
   have hs:=filter_take (p:=isT k) default h
   have hle:=filter_take_le (isT k) l i
   repeat (first|refine⟨h,?_⟩|rw[if_pos (by rfl)])
   by_cases c:(isT k) (l.getD i default)=true
   ·rw[if_pos c] at hs
    rw[if_pos (by exact c)]
    repeat (first|refine⟨h,?_⟩|rw[if_pos (by rfl)])
    refine⟨appL_map stP_len _ _ (by omega),one_row one_stP (l.getD i default),?_⟩
    exact growQ_add (i+1) (show l.length-(i+1)<l.length-i by omega) h hs (ne_snoc _ _) [.dead,_,.tok] 3 rfl rfl (by simp) (by  rw[wI_succ h (by omega)]; rw[List.map_append]; rfl)
   ·rw[if_neg c,List.append_nil] at hs
    rw[if_neg (by exact c)]
    exact growQ_add (i+1) (show l.length-(i+1)<l.length-i by omega) h hs ha [.tok,_] 1 rfl rfl (by simp) (by rw[wI_succ h (by omega)])
  ·rw[if_neg (by omega)]
   have:i=l.length:=by omega
   subst this
   simp only[List.take_length] at ha ⊢
   exact growQ_end (.cons (.refl _) (.cons (.list _ _) (.cons (.refl _) (.cons (.refl _) (.cons (.refl _) (.nil)))))) (pad_kill [.cells cs] .tok) hQ
theorem team1_vc (c:Mt) (k:Int):∀(K:PV→Heap→Prop),(∃(l:List Se) (k_1:Int) (cs:List PV),l.length≤1000000∧(∀(x:PV),x∈cs→Low 0 x)∧SlIs [.int .i64 k,.list [] .exact,.list (c.seats.map stc) .no,.int .i64 (↑(List.length (c.seats.map stc)):Int),.int .i64 0] [.int .i64 k_1,.list [] .exact,.list (l.map stc) .no,.int .i64 l.length,.int .i64 0]∧HpIs [.cells [.int .u32 c.id,.int .i64 c.md,.int .u32 c.ins,.list (c.rows.map rrc) .no,.list (c.seats.map stc) .no]] [.cells cs]∧K (.list (List.map stP (List.filter (isT k_1) l)) .no) [.cells cs,.dead])→ACalls Try.prog gl 17 [c.pv,.int .i64 k] [] K:=fun K h=>acalls_of_wpc2 (T:=[]) (L:=[([1,1,0,1,0],team_l)]) (fun o=>match o.dst with|some 23=>1|_=>0) Try.func17 (by kernel_rfl) (by kernel_rfl) (by kernel_rfl) (TabOk.nil _ _) (.cons (sub_of (by kernel_rfl)) team_l_ok (.nil _ _ _ _ _)) (holds_of_eq (by kernel_rfl) h)
end Go.Proofs.Ytenaelaapdhbdaa
