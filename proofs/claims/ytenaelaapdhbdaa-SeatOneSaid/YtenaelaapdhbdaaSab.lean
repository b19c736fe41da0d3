/-
  Own rows.
-/
import Derived.Test.YtenaelaapdhbdaaSaa
import Derived.Test.YtenaelaapdhbdaaProg
namespace Go.Proofs.Ytenaelaapdhbdaa
open Go Go.AM Go.Proofs
theorem lowA_vc (c:List Rr) (i:Nat):(by refine(?_:_→_→Prop) (List.getD (c.map rrc) (Int.toNat (i:Int)) []) [PV.list (c.map rrc) .no,.list [] .exact,.int .i64 i]; exact fun a d=>by refine(?_:_→_→_→_→Prop) (PV.int .i64 (cI a 2)) (PV.int .i64 (cI a 3)) (PV.list ([]++cL a 1) .no) (PV.int .i64 (cI a 0)); exact fun f g h j=>by refine(?_:_→Prop) [[PV.int .i64 (cI a 0),h,f,g]]; exact fun b=>∀(R:Ex→List PV→Heap→Prop),(br (decide ((i:Int)<(↑(List.length (c.map rrc)):Int))) (InL (c.map rrc) 4 (i:Int)∧br (true && fitX [.int .i64,.list,.int .i64,.int .i64] 0 a) (AppL [] (cL a 1) 1 4∧AppL [] b 4 48∧(List.all [j,h,f,g] PV.one=true∧b≠[])∧R .normal [.list (c.map rrc) .no,.list b (.tok 1),.int .i64 (wI ((i:Int)+1))] [.cells [j,.list (cL a 1) (cT a 1),f,g],.tok]) False) (R (.exit 0) d []))→Holds (wpc br Try.prog gl [] [] (fun o=>match o.dst with|some 22=>0|some 29=>1|_=>0) (subOf [1,1,0,1,0] (bodyOf Try.f24)) [] (envS [0,3,4] d) [] (fun ex e H=>R ex (List.map e [0,3,4]) H)):Prop):=fun R h=>holds_of_eq (by kernel_rfl) h
theorem lowB_vc (c:List Rr) (es:List (List PV)) (i:Nat):(by refine(?_:_→_→Prop) (List.getD (c.map rrc) (Int.toNat (i:Int)) []) [PV.list (c.map rrc) .no,.list es (.tok 0),.int .i64 i]; exact fun a d=>by refine(?_:_→_→_→_→Prop) (PV.int .i64 (cI a 2)) (PV.int .i64 (cI a 3)) (PV.list ([]++cL a 1) .no) (PV.int .i64 (cI a 0)); exact fun f g h j=>by refine(?_:_→Prop) [[PV.int .i64 (cI a 0),h,f,g]]; exact fun b=>∀(R:Ex→List PV→Heap→Prop),(br (decide ((i:Int)<(↑(List.length (c.map rrc)):Int))) (InL (c.map rrc) 4 (i:Int)∧br (true && fitX [.int .i64,.list,.int .i64,.int .i64] 0 a) (AppL [] (cL a 1) 1 4∧AppL es b 4 48∧(List.all [j,h,f,g] PV.one=true∧b≠[])∧R .normal [.list (c.map rrc) .no,.list (es++b) (.tok 2),.int .i64 (wI ((i:Int)+1))] [.dead,.cells [j,.list (cL a 1) (cT a 1),f,g],.tok]) False) (R (.exit 0) d [.tok]))→Holds (wpc br Try.prog gl [] [] (fun o=>match o.dst with|some 22=>0|some 29=>1|_=>0) (subOf [1,1,0,1,0] (bodyOf Try.f24)) [] (envS [0,3,4] d) [.tok] (fun ex e H=>R ex (List.map e [0,3,4]) H)):Prop):=fun R h=>holds_of_eq (by kernel_rfl) h
theorem lowB0 (c:List Rr):∀(o:Nat) cs,([]:Heap)[o]?=some (.cells cs)→∀ x∈cs,Low 0 x:=fun o cs h=>by simp at h
def low_l:LSp:=fun e H Q=>∃(c:List Rr),(c.length≤1000000∧∀ r∈c,r.pl.length≤1000000)∧SlIs (List.map e [0,3,4]) [.list (c.map rrc) .no,.list [] .exact,.int .i64 0]∧HpIs H []∧Q (.exit 0) (envS [0,3,4] [.list (c.map rrc) .no,.list (c.map rrc) .no,.int .i64 c.length]) [.dead]
set_option maxRecDepth 10000 in
theorem low_l_ok:∀ e H Q,low_l e H Q→AW Try.prog gl Try.f24.ntmps (.loop (subOf [1,1,0,1,0] (bodyOf Try.f24))) Q e H:=by
 rintro e H Q ⟨c,hl,he,hH,hQ⟩
 have hH2:H=_:=hH
 refine aw_growif (f:=rrc) (acc:=fun i=>(c.take i)) (I:=fun i=>i≤c.length) (m:=fun i=>c.length-i) (hn:=fun o=>match o.dst with|some 22=>0|some 29=>1|_=>0) gl_low (TabOk.nil _ _) (.nil _ _ _ _ _) [0,3,4] (fun T i=>[.list (c.map rrc) .no,T,.int .i64 i]) [] (0:Nat)
  (lowB0 c) (fun _ _ a _=>low_rrc a) (fun es i j _ h=> .same (low_rrs c) (.row h (.same (.int _ _) (.nil)))) (fun i _ w hw=>by
   simp only[List.mem_cons,List.not_mem_nil,or_false] at hw
   rcases hw with rfl|rfl|rfl
   ·exact low_rrs c
   ·exact low_list NT.exact (by simp)
   ·exact .int _ _) (Nat.zero_le _) rfl he hH2 ?_ ?_
 ·intro i hi ha
  have hi':i≤c.length:=hi
  have ha:(c.take i)=[]:=ha
  refine lowA_vc c i _ ?_
  simp only[br_if,dt,List.length_map]
  by_cases h:i<c.length
  ·rw[if_pos (by omega)]
   have inl:InL (c.map rrc) 4 (i:Int):=by rw[inL_rrc]; exact h
   obtain⟨s,hs⟩:∃ s,s=c.getD i default:=⟨_,rfl⟩
   have hsucc:c.take (i+1)=c.take i++[s]:=by rw[take_snoc default h,hs]
   have hlen:(c.take i).length≤1000000:=by rw[List.length_take]; omega
   have hsl:s.pl.length≤1000000:=hl.2 s (by rw[hs]; exact getD_mem h)
   simp only[toNat_nat,getD_map default h,← hs]
   refine⟨inl,?_⟩
   rw[if_pos (by rfl)]
   refine⟨⟨fun _ h=>(nomatch h),uni_map u1_len s.pl,by show(0+(s.pl.map u1).length)*4≤_; rw[List.length_map]; omega⟩,appL_map (l:=[]) (by_:=48) rrc_len s (by show(0+1)*48≤_; decide),one_row one_rrc s,?_⟩
   exact growQ_add (i+1) (show c.length-(i+1)<c.length-i by omega) h (hsucc.trans (by rw[ha]; (try rfl))) (by simp) [.cells (rrc s),.tok] 1 rfl rfl (by simp) (by(try dsimp only); rw[wI_succ h (by omega)]; (try rfl))
  ·rw[if_neg (by omega)]
   have:i=c.length:=by omega
   subst this
   have e0:=ha
   rw[List.take_length] at e0
   subst e0
   exact growQ_end (.cons (.refl _) (.cons (.list _ _) (.cons (.refl _) (.nil)))) (pad_dead _) hQ
 ·intro i hi ha
  have hi':i≤c.length:=hi
  have ha:(c.take i)≠[]:=ha
  refine lowB_vc c ((c.take i).map rrc) i _ ?_
  simp only[br_if,dt,List.length_map]
  by_cases h:i<c.length
  ·rw[if_pos (by omega)]
   have inl:InL (c.map rrc) 4 (i:Int):=by rw[inL_rrc]; exact h
   obtain⟨s,hs⟩:∃ s,s=c.getD i default:=⟨_,rfl⟩
   have hsucc:c.take (i+1)=c.take i++[s]:=by rw[take_snoc default h,hs]
   have hlen:(c.take i).length≤1000000:=by rw[List.length_take]; omega
   have hsl:s.pl.length≤1000000:=hl.2 s (by rw[hs]; exact getD_mem h)
   simp only[toNat_nat,getD_map default h,← hs]
   refine⟨inl,?_⟩
   rw[if_pos (by rfl)]
   refine⟨⟨fun _ h=>(nomatch h),uni_map u1_len s.pl,by show(0+(s.pl.map u1).length)*4≤_; rw[List.length_map]; omega⟩,appL_map (l:=(c.take i)) (by_:=48) rrc_len s (by omega),one_row one_rrc s,?_⟩
   exact growQ_add (i+1) (show c.length-(i+1)<c.length-i by omega) h hsucc (by simp) [.dead,.cells (rrc s),.tok] 2 rfl rfl (by simp) (by(try dsimp only); rw[wI_succ h (by omega),List.map_append]; (try rfl))
  ·rw[if_neg (by omega)]
   have:i=c.length:=by omega
   subst this
   rw[List.take_length]
   exact growQ_end (.cons (.refl _) (.cons (.list _ _) (.cons (.refl _) (.nil)))) (pad_kill [] .tok) hQ
theorem low1_vc (c:List Rr):∀(K:PV→Prop),(∃(c_1:List Rr),(c_1.length≤1000000∧∀(r:Rr),r∈c_1→r.pl.length≤1000000)∧SlIs [.list (c.map rrc) .no,.list [] .exact,.int .i64 0] [.list (c_1.map rrc) .no,.list [] .exact,.int .i64 0]∧HpIs [] []∧K (.list (c_1.map rrc) .no))→ACalls Try.prog gl 24 [.list (c.map rrc) .no] [] (fun x _=>K x):=fun K h=>acalls_of_wpc2 (T:=[]) (L:=[([1,1,0,1,0],low_l)]) (fun o=>match o.dst with|some 22=>0|some 29=>1|_=>0) Try.func24 (by kernel_rfl) (by kernel_rfl) (by kernel_rfl) (TabOk.nil _ _) (.cons (sub_of (by kernel_rfl)) low_l_ok (.nil _ _ _ _ _)) (holds_of_eq (by kernel_rfl) h)
def lown_s (args:List PV) (K:PV→Prop):Prop:=∃(c:List Rr) (t:Tail),SlIs args [.list (c.map rrc) t]∧c.length≤1000000∧(∀ r∈c,r.pl.length≤1000000)∧K (.list (c.map rrc) .no)
theorem lown_ok:SpOk Try.prog gl 24 (.pure lown_s):=by
 rintro args K ⟨c,t,he,hl,hp,hk⟩
 have he:args=_:=he
 subst he
 exact spure_w gl_low (.cons (.list _ _) .nil) (low_one (low_rrs c)) (low_rrs c) (low1_vc c (fun x=>x = .list (c.map rrc) .no) ⟨c,⟨hl,hp⟩,rfl,rfl,rfl⟩) hk
theorem bk1A_vc (z:List PV) (c:Mt) (i:Nat):(by refine(?_:_→_→_→_→Prop) (List.getD (c.rows.map rrc) (Int.toNat (i:Int)) []) (Ob.cells [.int .u32 c.id,.int .i64 c.md,.int .u32 c.ins,.list (c.rows.map rrc) .no,.list (c.seats.map stc) .no]) (Ob.cells [.int .u32 c.id,.int .i64 c.md,.int .u32 c.ins,.list [] .exact,.list [] .exact]) [PV.ptr 0 0,.ptr 1 0,.ptr 2 0,.int .i64 i]; exact fun a d f j=>by refine(?_:_→Prop) [PV.int .i64 (cI a 0),.list (cL a 1) (cT a 1),.int .i64 (cI a 2),.int .i64 (cI a 3)]; exact fun h=>by refine(?_:_→_→Prop) [h] h; exact fun b g=>∀(R:Ex→List PV→Heap→Prop),(br (decide ((i:Int)<(↑(List.length (c.rows.map rrc)):Int))) (InL (c.rows.map rrc) 4 (i:Int)∧br (true && fitX [.int .i64,.list,.int .i64,.int .i64] 0 a) (AppL [] b 4 48∧(List.all g PV.one=true∧b≠[])∧R .normal [.ptr 0 0,.ptr 1 0,.ptr 2 0,.int .i64 (wI ((i:Int)+1))] [d,.cells z,.cells [.int .u32 c.id,.int .i64 c.md,.int .u32 c.ins,.list b (.tok 4),.list [] .exact],.cells g,.tok]) False) (R (.exit 0) j [d,.cells z,f]))→Holds (wpc br Try.prog gl [] [] (fun o=>match o.dst with|some 39=>1|_=>0) (subOf [1,1,0,1,0] (bodyOf Try.f16)) [] (envS [1,2,3,4] j) [.cells (mtc c),.cells z,f] (fun ex e H=>R ex (List.map e [1,2,3,4]) H)):Prop):=fun R h=>holds_of_eq (by kernel_rfl) h
theorem bk1B_vc (z:List PV) (c:Mt) (es:List (List PV)) (i:Nat):(by refine(?_:_→_→_→_→Prop) (List.getD (c.rows.map rrc) (Int.toNat (i:Int)) []) (Ob.cells [.int .u32 c.id,.int .i64 c.md,.int .u32 c.ins,.list (c.rows.map rrc) .no,.list (c.seats.map stc) .no]) (Ob.cells [.int .u32 c.id,.int .i64 c.md,.int .u32 c.ins,.list es (.tok 3),.list [] .exact]) [PV.ptr 0 0,.ptr 1 0,.ptr 2 0,.int .i64 i]; exact fun a d f j=>by refine(?_:_→Prop) [PV.int .i64 (cI a 0),.list (cL a 1) (cT a 1),.int .i64 (cI a 2),.int .i64 (cI a 3)]; exact fun h=>by refine(?_:_→_→Prop) [h] h; exact fun b g=>∀(R:Ex→List PV→Heap→Prop),(br (decide ((i:Int)<(↑(List.length (c.rows.map rrc)):Int))) (InL (c.rows.map rrc) 4 (i:Int)∧br (true && fitX [.int .i64,.list,.int .i64,.int .i64] 0 a) (AppL es b 4 48∧(List.all g PV.one=true∧b≠[])∧R .normal [.ptr 0 0,.ptr 1 0,.ptr 2 0,.int .i64 (wI ((i:Int)+1))] [d,.cells z,.cells [.int .u32 c.id,.int .i64 c.md,.int .u32 c.ins,.list (es++b) (.tok 5),.list [] .exact],.dead,.cells g,.tok]) False) (R (.exit 0) j [d,.cells z,f,.tok]))→Holds (wpc br Try.prog gl [] [] (fun o=>match o.dst with|some 39=>1|_=>0) (subOf [1,1,0,1,0] (bodyOf Try.f16)) [] (envS [1,2,3,4] j) [.cells (mtc c),.cells z,f,.tok] (fun ex e H=>R ex (List.map e [1,2,3,4]) H)):Prop):=fun R h=>holds_of_eq (by kernel_rfl) h
theorem bk2A_vc (z:List PV) (c:Mt) (i:Nat):(by refine(?_:_→_→_→Prop) (List.getD (c.seats.map stc) (Int.toNat (i:Int)) []) (PV.list (c.rows.map rrc) .no) [PV.ptr 0 0,.ptr 1 0,.ptr 2 0,.int .i64 i]; exact fun a j k=>by refine(?_:_→_→_→Prop) [PV.int .u32 (cI a 0),.int .i64 (cI a 1),.int .i64 (cI a 2),.int .i64 (cI a 3),.int .i64 (cI a 4),.int .u64 (cI a 5)] (Ob.cells [.int .u32 c.id,.int .i64 c.md,.int .u32 c.ins,j,.list (c.seats.map stc) .no]) (Ob.cells [.int .u32 c.id,.int .i64 c.md,.int .u32 c.ins,j,.list [] .exact]); exact fun f g h=>by refine(?_:_→_→Prop) [f] f; exact fun b d=>∀(R:Ex→List PV→Heap→Prop),(br (decide ((i:Int)<(↑(List.length (c.seats.map stc)):Int))) (InL (c.seats.map stc) 6 (i:Int)∧br (true && fitX [.int .u32,.int .i64,.int .i64,.int .i64,.int .i64,.int .u64] 0 a) (AppL [] b 6 48∧(List.all d PV.one=true∧b≠[])∧R .normal [.ptr 0 0,.ptr 1 0,.ptr 2 0,.int .i64 (wI ((i:Int)+1))] [g,.cells z,.cells [.int .u32 c.id,.int .i64 c.md,.int .u32 c.ins,j,.list b (.tok 4)],.cells d,.tok]) False) (R (.exit 2) k [g,.cells z,h]))→Holds (wpc br Try.prog gl [] [] (fun o=>match o.dst with|some 69=>1|_=>0) (subOf [1,1,1,0,1,0] (bodyOf Try.f16)) [] (envS [1,2,3,6] k) [.cells (mtc c),.cells z,h] (fun ex e H=>R ex (List.map e [1,2,3,6]) H)):Prop):=fun R h=>holds_of_eq (by kernel_rfl) h
theorem bk2B_vc (z:List PV) (c:Mt) (es:List (List PV)) (i:Nat):(by refine(?_:_→_→_→Prop) (List.getD (c.seats.map stc) (Int.toNat (i:Int)) []) (PV.list (c.rows.map rrc) .no) [PV.ptr 0 0,.ptr 1 0,.ptr 2 0,.int .i64 i]; exact fun a j k=>by refine(?_:_→_→_→Prop) [PV.int .u32 (cI a 0),.int .i64 (cI a 1),.int .i64 (cI a 2),.int .i64 (cI a 3),.int .i64 (cI a 4),.int .u64 (cI a 5)] (Ob.cells [.int .u32 c.id,.int .i64 c.md,.int .u32 c.ins,j,.list (c.seats.map stc) .no]) (Ob.cells [.int .u32 c.id,.int .i64 c.md,.int .u32 c.ins,j,.list es (.tok 3)]); exact fun f g h=>by refine(?_:_→_→Prop) [f] f; exact fun b d=>∀(R:Ex→List PV→Heap→Prop),(br (decide ((i:Int)<(↑(List.length (c.seats.map stc)):Int))) (InL (c.seats.map stc) 6 (i:Int)∧br (true && fitX [.int .u32,.int .i64,.int .i64,.int .i64,.int .i64,.int .u64] 0 a) (AppL es b 6 48∧(List.all d PV.one=true∧b≠[])∧R .normal [.ptr 0 0,.ptr 1 0,.ptr 2 0,.int .i64 (wI ((i:Int)+1))] [g,.cells z,.cells [.int .u32 c.id,.int .i64 c.md,.int .u32 c.ins,j,.list (es++b) (.tok 5)],.dead,.cells d,.tok]) False) (R (.exit 2) k [g,.cells z,h,.tok]))→Holds (wpc br Try.prog gl [] [] (fun o=>match o.dst with|some 69=>1|_=>0) (subOf [1,1,1,0,1,0] (bodyOf Try.f16)) [] (envS [1,2,3,6] k) [.cells (mtc c),.cells z,h,.tok] (fun ex e H=>R ex (List.map e [1,2,3,6]) H)):Prop):=fun R h=>holds_of_eq (by kernel_rfl) h
theorem renO {ρ:Nat→Nat} {n:Nat} {c:Mt} {x y:PV} (hx:Ren ρ n x y) {a:PV} (ha:Low 0 a):RenL ρ n [.int .u32 c.id,.int .i64 c.md,.int .u32 c.ins,x,a] [.int .u32 c.id,.int .i64 c.md,.int .u32 c.ins,y,a]:=
 .cons (.low (.int _ _)) (.cons (.low (.int _ _)) (.cons (.low (.int _ _)) (.cons hx (.cons (.low ha) .nil))))
theorem renO2 {ρ:Nat→Nat} {n:Nat} {c:Mt} {x y:PV} (hx:Ren ρ n x y) {a:PV} (ha:Low 0 a):RenL ρ n [.int .u32 c.id,.int .i64 c.md,.int .u32 c.ins,a,x] [.int .u32 c.id,.int .i64 c.md,.int .u32 c.ins,a,y]:=
 .cons (.low (.int _ _)) (.cons (.low (.int _ _)) (.cons (.low (.int _ _)) (.cons (.low ha) (.cons hx .nil))))
theorem renP3 {ρ:Nat→Nat} {n:Nat} {z:Int} (hn:3≤n) (h0:ρ 0=0) (h1:ρ 1=1) (h2:ρ 2=2):RenL ρ n [.ptr 0 0,.ptr 1 0,.ptr 2 0,.int .i64 z] [.ptr 0 0,.ptr 1 0,.ptr 2 0,.int .i64 z]:=by
 have e0:=Ren.ptr (ρ:=ρ) (n:=n) 0 0 (by omega)
 have e1:=Ren.ptr (ρ:=ρ) (n:=n) 1 0 (by omega)
 have e2:=Ren.ptr (ρ:=ρ) (n:=n) 2 0 (by omega)
 rw[h0] at e0; rw[h1] at e1; rw[h2] at e2
 exact .cons e0 (.cons e1 (.cons e2 (.cons (.low (.int _ _)) .nil)))
theorem lowNil {n:Nat}:Low n (.list [] .exact):=low_list NT.exact (by simp)
theorem wkh_third {a b:Ob} {cs cs':List PV} (h:WkL cs cs') (R:Heap):WkH (a::b :: .cells cs::R) (a::b :: .cells cs'::R):=by
 refine⟨rfl,fun o x ho=>?_⟩
 match o,ho with
 | 0,ho=>exact⟨x,ho,.refl x⟩
 | 1,ho=>exact⟨x,ho,.refl x⟩
 | 2,ho=>simp at ho; subst ho; exact⟨_,rfl,.cells h⟩
 | o+3,ho=>exact⟨x,by simpa using ho,.refl x⟩
theorem tidy_bk1A {z:List PV} {c:Mt} {s:Rr} {i:Int} (hz:∀ x∈z,Low 0 x):Tidy 3 [.ptr 0 0,.ptr 1 0,.ptr 2 0,.int .i64 i] [.cells (mtc c),.cells z,.cells [.int .u32 c.id,.int .i64 c.md,.int .u32 c.ins,.list [rrc s] (.tok 4),.list [] .exact],.cells (rrc s),.tok] [.ptr 0 0,.ptr 1 0,.ptr 2 0,.int .i64 i] [.cells (mtc c),.cells z,.cells [.int .u32 c.id,.int .i64 c.md,.int .u32 c.ins,.list [rrc s] (.tok 3),.list [] .exact],.tok]:=by
 refine tidy_list [0,1,2,4] (WkL.refl _) (.cons rfl (.cells (RenL.low (low_mtc c))) (.cons rfl (.cells (RenL.low hz)) (.cons rfl (.cells (renO (.ltok (ρ:=fun o=>[0,1,2,4].getD o 0) _ 3 (by simp) (low_map (f:=rrc) (l:=[s]) fun a _=>low_rrc a)) lowNil)) (.cons rfl .tok .nil)))) (by decide) (by simp) (fun o ho=>?_) (renP3 (by simp) rfl rfl rfl)
 match o,ho with
 | 0,_=>rfl
 | 1,_=>rfl
 | 2,_=>rfl
theorem tidy_bk1B {z:List PV} {c:Mt} {s:Rr} {l:List Rr} {i:Int} (hz:∀ x∈z,Low 0 x):Tidy 3 [.ptr 0 0,.ptr 1 0,.ptr 2 0,.int .i64 i] [.cells (mtc c),.cells z,.cells [.int .u32 c.id,.int .i64 c.md,.int .u32 c.ins,.list (l.map rrc) (.tok 5),.list [] .exact],.dead,.cells (rrc s),.tok] [.ptr 0 0,.ptr 1 0,.ptr 2 0,.int .i64 i] [.cells (mtc c),.cells z,.cells [.int .u32 c.id,.int .i64 c.md,.int .u32 c.ins,.list (l.map rrc) (.tok 3),.list [] .exact],.tok]:=by
 refine tidy_list [0,1,2,5] (WkL.refl _) (.cons rfl (.cells (RenL.low (low_mtc c))) (.cons rfl (.cells (RenL.low hz)) (.cons rfl (.cells (renO (.ltok (ρ:=fun o=>[0,1,2,5].getD o 0) _ 3 (by simp) (low_map (f:=rrc) fun a _=>low_rrc a)) lowNil)) (.cons rfl .tok .nil)))) (by decide) (by simp) (fun o ho=>?_) (renP3 (by simp) rfl rfl rfl)
 match o,ho with
 | 0,_=>rfl
 | 1,_=>rfl
 | 2,_=>rfl
theorem tidy_bk1E {z:List PV} {c:Mt} {l:List Rr} {es:List (List PV)} {t:Tail} {G:Heap} {i:Int} (hz:∀ x∈z,Low 0 x) (hes:es=l.map rrc):Tidy 3 [.ptr 0 0,.ptr 1 0,.ptr 2 0,.int .i64 i] (.cells (mtc c) :: .cells z :: .cells [.int .u32 c.id,.int .i64 c.md,.int .u32 c.ins,.list es t,.list [] .exact]::G) [.ptr 0 0,.ptr 1 0,.ptr 2 0,.int .i64 i] [.cells (mtc c),.cells z,.cells [.int .u32 c.id,.int .i64 c.md,.int .u32 c.ins,.list (l.map rrc) .no,.list [] .exact]]:=by
 subst hes
 refine tidy_wk (B':=[.cells (mtc c),.cells z,.cells [.int .u32 c.id,.int .i64 c.md,.int .u32 c.ins,.list (l.map rrc) t,.list [] .exact]]) (B:=[.cells (mtc c),.cells z,.cells [.int .u32 c.id,.int .i64 c.md,.int .u32 c.ins,.list (l.map rrc) .no,.list [] .exact]]) (X:=G) (fun o cs ho x hx=>?_) (WkL.refl _) (wkh_third (.cons (.refl _) (.cons (.refl _) (.cons (.refl _) (.cons (.list _ _) (.cons (.refl _) .nil))))) _) ?_ (by simp)
 ·have k1:=(List.getElem?_eq_some_iff.1 ho).1
  simp at k1
  have:o=0∨o=1∨o=2:=by omega
  rcases this with rfl|rfl|rfl
  ·cases ho; exact .low (low_mtc c x hx)
  ·cases ho; exact .low (hz x hx)
  ·cases ho; exact .low ((low_five (.int _ _) (.int _ _) (.int _ _) (low_rrs l) lowNil) x hx)
 ·intro v hv
  simp only[List.mem_cons,List.not_mem_nil,or_false] at hv
  rcases hv with rfl|rfl|rfl|rfl
  ·exact .ptr _ _ (by simp)
  ·exact .ptr _ _ (by simp)
  ·exact .ptr _ _ (by simp)
  ·exact .low (.int _ _)
def bk1_l:LSp:=fun e H Q=>∃(z:List PV) (c:Mt),(∀ x∈z,Low 0 x)∧c.rows.length≤1000000∧SlIs (List.map e [1,2,3,4]) [.ptr 0 0,.ptr 1 0,.ptr 2 0,.int .i64 0]∧HpIs H [.cells (mtc c),.cells z,.cells [.int .u32 c.id,.int .i64 c.md,.int .u32 c.ins,.list [] .exact,.list [] .exact]]∧Q (.exit 0) (envS [1,2,3,4] [.ptr 0 0,.ptr 1 0,.ptr 2 0,.int .i64 c.rows.length]) [.cells (mtc c),.cells z,.cells [.int .u32 c.id,.int .i64 c.md,.int .u32 c.ins,.list (c.rows.map rrc) .no,.list [] .exact]]
set_option maxRecDepth 10000 in
theorem bk1_l_ok:∀ e H Q,bk1_l e H Q→AW Try.prog gl Try.f16.ntmps (.loop (subOf [1,1,0,1,0] (bodyOf Try.f16))) Q e H:=by
 rintro e H Q ⟨z,c,hz,hl,he,hH,hQ⟩
 have hH:H=_:=hH
 have hHl:H.length=3:=by rw[hH]; rfl
 refine aw_loop7 (hn:=fun o=>match o.dst with|some 39=>1|_=>0) gl_low (TabOk.nil _ _) (.nil _ _ _ _ _) (σ:=Nat) [1,2,3,4] (fun i=>i≤c.rows.length) (fun i=>[.ptr 0 0,.ptr 1 0,.ptr 2 0,.int .i64 i]) (fun i=>if i=0 then [.cells (mtc c),.cells z,.cells [.int .u32 c.id,.int .i64 c.md,.int .u32 c.ins,.list [] .exact,.list [] .exact]] else [.cells (mtc c),.cells z,.cells [.int .u32 c.id,.int .i64 c.md,.int .u32 c.ins,.list ((c.rows.take i).map rrc) (.tok 3),.list [] .exact],.tok]) (fun i=>c.rows.length-i) 0 (Nat.zero_le _) he hH ?_
 rw[hHl]
 intro i hi
 have hi:i≤c.rows.length:=hi
 by_cases h:i<c.rows.length
 ·have inl:InL (c.rows.map rrc) 4 (i:Int):=by rw[inL_rrc]; exact h
  obtain⟨s,hs⟩:∃ s,s=c.rows.getD i default:=⟨_,rfl⟩
  have hsucc:c.rows.take (i+1)=c.rows.take i++[s]:=by rw[take_snoc default h,hs]
  have hlen:(c.rows.take i).length≤1000000:=by rw[List.length_take]; omega
  by_cases i0:i=0
  ·subst i0
   simp only[if_pos]
   refine bk1A_vc z c 0 _ ?_
   simp only[br_if,dt,List.length_map,toNat_nat,getD_map default h,← hs]
   rw[if_pos (by omega)]
   refine⟨inl,?_⟩
   rw[if_pos (by rfl)]
   refine⟨appL_map (l:=[]) (by_:=48) rrc_len s (by show(0+1)*48≤_; decide),one_row one_rrc s,?_⟩
   refine⟨1,(show c.rows.length-1<c.rows.length-0 by omega),h,?_⟩
   dsimp only
   rw[if_neg (by decide),show c.rows.take 1=[s] from hsucc,wI_succ h (by omega)]
   exact tidy_bk1A hz
  ·simp only[if_neg i0]
   refine bk1B_vc z c ((c.rows.take i).map rrc) i _ ?_
   simp only[br_if,dt,List.length_map,toNat_nat,getD_map default h,← hs]
   rw[if_pos (by omega)]
   refine⟨inl,?_⟩
   rw[if_pos (by rfl)]
   refine⟨appL_map (by_:=48) rrc_len (c.rows.take i) s (by omega),one_row one_rrc s,?_⟩
   refine⟨i+1,(show c.rows.length-(i+1)<c.rows.length-i by omega),h,?_⟩
   dsimp only
   rw[if_neg (by omega),hsucc,wI_succ h (by omega)]
   have:=tidy_bk1B (z:=z) (c:=c) (s:=s) (l:=c.rows.take i++[s]) (i:=((i+1:Nat):Int)) hz
   rw[List.map_append] at this ⊢
   exact this
 ·have hil:i=c.rows.length:=by omega
  subst hil
  by_cases i0:c.rows.length=0
  ·have en:c.rows=[]:=List.length_eq_zero_iff.1 i0
   simp only[if_pos i0]
   refine bk1A_vc z c _ _ ?_
   simp only[br_if,dt,List.length_map]
   rw[if_neg (by omega)]
   exact⟨_,_,tidy_bk1E (z:=z) (c:=c) (l:=c.rows) (t:= .exact) (G:=[]) (i:=(c.rows.length:Int)) hz (by rw[en]; rfl),hQ⟩
  ·simp only[if_neg i0]
   refine bk1B_vc z c _ _ _ ?_
   simp only[br_if,dt,List.length_map]
   rw[if_neg (by omega),List.take_length]
   exact⟨_,_,tidy_bk1E (G:=[.tok]) hz rfl,hQ⟩
theorem tidy_bk2A {z:List PV} {c:Mt} {s:Se} {i:Int} (hz:∀ x∈z,Low 0 x):Tidy 3 [.ptr 0 0,.ptr 1 0,.ptr 2 0,.int .i64 i] [.cells (mtc c),.cells z,.cells [.int .u32 c.id,.int .i64 c.md,.int .u32 c.ins,.list (c.rows.map rrc) .no,.list [stc s] (.tok 4)],.cells (stc s),.tok] [.ptr 0 0,.ptr 1 0,.ptr 2 0,.int .i64 i] [.cells (mtc c),.cells z,.cells [.int .u32 c.id,.int .i64 c.md,.int .u32 c.ins,.list (c.rows.map rrc) .no,.list [stc s] (.tok 3)],.tok]:=by
 refine tidy_list [0,1,2,4] (WkL.refl _) (.cons rfl (.cells (RenL.low (low_mtc c))) (.cons rfl (.cells (RenL.low hz)) (.cons rfl (.cells (renO2 (.ltok (ρ:=fun o=>[0,1,2,4].getD o 0) _ 3 (by simp) (low_map (f:=stc) (l:=[s]) fun a _=>low_stc a)) (low_rrs _))) (.cons rfl .tok .nil)))) (by decide) (by simp) (fun o ho=>?_) (renP3 (by simp) rfl rfl rfl)
 match o,ho with
 | 0,_=>rfl
 | 1,_=>rfl
 | 2,_=>rfl
theorem tidy_bk2B {z:List PV} {c:Mt} {s:Se} {l:List Se} {i:Int} (hz:∀ x∈z,Low 0 x):Tidy 3 [.ptr 0 0,.ptr 1 0,.ptr 2 0,.int .i64 i] [.cells (mtc c),.cells z,.cells [.int .u32 c.id,.int .i64 c.md,.int .u32 c.ins,.list (c.rows.map rrc) .no,.list (l.map stc) (.tok 5)],.dead,.cells (stc s),.tok] [.ptr 0 0,.ptr 1 0,.ptr 2 0,.int .i64 i] [.cells (mtc c),.cells z,.cells [.int .u32 c.id,.int .i64 c.md,.int .u32 c.ins,.list (c.rows.map rrc) .no,.list (l.map stc) (.tok 3)],.tok]:=by
 refine tidy_list [0,1,2,5] (WkL.refl _) (.cons rfl (.cells (RenL.low (low_mtc c))) (.cons rfl (.cells (RenL.low hz)) (.cons rfl (.cells (renO2 (.ltok (ρ:=fun o=>[0,1,2,5].getD o 0) _ 3 (by simp) (low_map (f:=stc) fun a _=>low_stc a)) (low_rrs _))) (.cons rfl .tok .nil)))) (by decide) (by simp) (fun o ho=>?_) (renP3 (by simp) rfl rfl rfl)
 match o,ho with
 | 0,_=>rfl
 | 1,_=>rfl
 | 2,_=>rfl
theorem tidy_bk2E {z:List PV} {c:Mt} {l:List Se} {es:List (List PV)} {t:Tail} {G:Heap} {i:Int} (hz:∀ x∈z,Low 0 x) (hes:es=l.map stc):Tidy 3 [.ptr 0 0,.ptr 1 0,.ptr 2 0,.int .i64 i] (.cells (mtc c) :: .cells z :: .cells [.int .u32 c.id,.int .i64 c.md,.int .u32 c.ins,.list (c.rows.map rrc) .no,.list es t]::G) [.ptr 0 0,.ptr 1 0,.ptr 2 0,.int .i64 i] [.cells (mtc c),.cells z,.cells [.int .u32 c.id,.int .i64 c.md,.int .u32 c.ins,.list (c.rows.map rrc) .no,.list (l.map stc) .no]]:=by
 subst hes
 refine tidy_wk (B':=[.cells (mtc c),.cells z,.cells [.int .u32 c.id,.int .i64 c.md,.int .u32 c.ins,.list (c.rows.map rrc) .no,.list (l.map stc) t]]) (B:=[.cells (mtc c),.cells z,.cells [.int .u32 c.id,.int .i64 c.md,.int .u32 c.ins,.list (c.rows.map rrc) .no,.list (l.map stc) .no]]) (X:=G) (fun o cs ho x hx=>?_) (WkL.refl _) (wkh_third (.cons (.refl _) (.cons (.refl _) (.cons (.refl _) (.cons (.refl _) (.cons (.list _ _) .nil))))) _) ?_ (by simp)
 ·have k1:=(List.getElem?_eq_some_iff.1 ho).1
  simp at k1
  have:o=0∨o=1∨o=2:=by omega
  rcases this with rfl|rfl|rfl
  ·cases ho; exact .low (low_mtc c x hx)
  ·cases ho; exact .low (hz x hx)
  ·cases ho; exact .low ((low_five (.int _ _) (.int _ _) (.int _ _) (low_rrs _) (low_sts l)) x hx)
 ·intro v hv
  simp only[List.mem_cons,List.not_mem_nil,or_false] at hv
  rcases hv with rfl|rfl|rfl|rfl
  ·exact .ptr _ _ (by simp)
  ·exact .ptr _ _ (by simp)
  ·exact .ptr _ _ (by simp)
  ·exact .low (.int _ _)
def bk2_l:LSp:=fun e H Q=>∃(z:List PV) (c:Mt),(∀ x∈z,Low 0 x)∧c.seats.length≤1000000∧SlIs (List.map e [1,2,3,6]) [.ptr 0 0,.ptr 1 0,.ptr 2 0,.int .i64 0]∧HpIs H [.cells (mtc c),.cells z,.cells [.int .u32 c.id,.int .i64 c.md,.int .u32 c.ins,.list (c.rows.map rrc) .no,.list [] .exact]]∧Q (.exit 2) (envS [1,2,3,6] [.ptr 0 0,.ptr 1 0,.ptr 2 0,.int .i64 c.seats.length]) [.cells (mtc c),.cells z,.cells [.int .u32 c.id,.int .i64 c.md,.int .u32 c.ins,.list (c.rows.map rrc) .no,.list (c.seats.map stc) .no]]
set_option maxRecDepth 10000 in
theorem bk2_l_ok:∀ e H Q,bk2_l e H Q→AW Try.prog gl Try.f16.ntmps (.loop (subOf [1,1,1,0,1,0] (bodyOf Try.f16))) Q e H:=by
 rintro e H Q ⟨z,c,hz,hl,he,hH,hQ⟩
 have hH:H=_:=hH
 have hHl:H.length=3:=by rw[hH]; rfl
 refine aw_loop7 (hn:=fun o=>match o.dst with|some 69=>1|_=>0) gl_low (TabOk.nil _ _) (.nil _ _ _ _ _) (σ:=Nat) [1,2,3,6] (fun i=>i≤c.seats.length) (fun i=>[.ptr 0 0,.ptr 1 0,.ptr 2 0,.int .i64 i]) (fun i=>if i=0 then [.cells (mtc c),.cells z,.cells [.int .u32 c.id,.int .i64 c.md,.int .u32 c.ins,.list (c.rows.map rrc) .no,.list [] .exact]] else [.cells (mtc c),.cells z,.cells [.int .u32 c.id,.int .i64 c.md,.int .u32 c.ins,.list (c.rows.map rrc) .no,.list ((c.seats.take i).map stc) (.tok 3)],.tok]) (fun i=>c.seats.length-i) 0 (Nat.zero_le _) he hH ?_
 rw[hHl]
 intro i hi
 have hi:i≤c.seats.length:=hi
 by_cases h:i<c.seats.length
 ·have inl:InL (c.seats.map stc) 6 (i:Int):=by rw[inL_se]; exact h
  obtain⟨s,hs⟩:∃ s,s=c.seats.getD i default:=⟨_,rfl⟩
  have hsucc:c.seats.take (i+1)=c.seats.take i++[s]:=by rw[take_snoc default h,hs]
  have hlen:(c.seats.take i).length≤1000000:=by rw[List.length_take]; omega
  by_cases i0:i=0
  ·subst i0
   simp only[if_pos]
   refine bk2A_vc z c 0 _ ?_
   simp only[br_if,dt,List.length_map,toNat_nat,getD_map default h,← hs]
   rw[if_pos (by omega)]
   refine⟨inl,?_⟩
   rw[if_pos (by rfl)]
   refine⟨appL_map (l:=[]) (by_:=48) stc_len s (by show(0+1)*48≤_; decide),one_row one_stc s,?_⟩
   refine⟨1,(show c.seats.length-1<c.seats.length-0 by omega),h,?_⟩
   dsimp only
   rw[if_neg (by decide),show c.seats.take 1=[s] from hsucc,wI_succ h (by omega)]
   exact tidy_bk2A hz
  ·simp only[if_neg i0]
   refine bk2B_vc z c ((c.seats.take i).map stc) i _ ?_
   simp only[br_if,dt,List.length_map,toNat_nat,getD_map default h,← hs]
   rw[if_pos (by omega)]
   refine⟨inl,?_⟩
   rw[if_pos (by rfl)]
   refine⟨appL_map (by_:=48) stc_len (c.seats.take i) s (by omega),one_row one_stc s,?_⟩
   refine⟨i+1,(show c.seats.length-(i+1)<c.seats.length-i by omega),h,?_⟩
   dsimp only
   rw[if_neg (by omega),hsucc,wI_succ h (by omega)]
   have:=tidy_bk2B (z:=z) (c:=c) (s:=s) (l:=c.seats.take i++[s]) (i:=((i+1:Nat):Int)) hz
   rw[List.map_append] at this ⊢
   exact this
 ·have hil:i=c.seats.length:=by omega
  subst hil
  by_cases i0:c.seats.length=0
  ·have en:c.seats=[]:=List.length_eq_zero_iff.1 i0
   simp only[if_pos i0]
   refine bk2A_vc z c _ _ ?_
   simp only[br_if,dt,List.length_map]
   rw[if_neg (by omega)]
   exact⟨_,_,tidy_bk2E (z:=z) (c:=c) (l:=c.seats) (t:= .exact) (G:=[]) (i:=(c.seats.length:Int)) hz (by rw[en]; rfl),hQ⟩
  ·simp only[if_neg i0]
   refine bk2B_vc z c _ _ _ ?_
   simp only[br_if,dt,List.length_map]
   rw[if_neg (by omega),List.take_length]
   exact⟨_,_,tidy_bk2E (G:=[.tok]) hz rfl,hQ⟩
theorem bk_vc (c:Mt):(by refine(?_:_→Prop) [PV.ptr 0 0,.ptr 1 0,.ptr 2 0,.int .i64 0]; exact fun f=>∀(K:PV→Prop),(∃(z:List PV) (c_1:Mt),by refine(?_:_→Prop) (PV.list (c_1.rows.map rrc) .no); exact fun e=>by refine(?_:_→Prop) (Ob.cells [.int .u32 c_1.id,.int .i64 c_1.md,.int .u32 c_1.ins,e,.list (c_1.seats.map stc) .no]); exact fun d=>(∀(x:PV),x∈z→Low 0 x)∧c_1.rows.length≤1000000∧SlIs f f∧HpIs [.cells [.int .u32 c.id,.int .i64 c.md,.int .u32 c.ins,.list (c.rows.map rrc) .no,.list (c.seats.map stc) .no],.cells [.int .u32 0,.int .i64 0,.int .u32 0,.list [] .exact,.list [] .exact],.cells [.int .u32 c.id,.int .i64 c.md,.int .u32 c.ins,.list [] .exact,.list [] .exact]] [d,.cells z,.cells [.int .u32 c_1.id,.int .i64 c_1.md,.int .u32 c_1.ins,.list [] .exact,.list [] .exact]]∧∃(z_1:List PV) (c:Mt),by refine(?_:_→Prop) (PV.list (c.rows.map rrc) .no); exact fun b=>by refine(?_:_→Prop) [PV.int .u32 c.id,.int .i64 c.md,.int .u32 c.ins,b,.list (c.seats.map stc) .no]; exact fun a=>(∀(x:PV),x∈z_1→Low 0 x)∧c.seats.length≤1000000∧SlIs f f∧HpIs [d,.cells z,.cells [.int .u32 c_1.id,.int .i64 c_1.md,.int .u32 c_1.ins,e,.list [] .exact]] [.cells a,.cells z_1,.cells [.int .u32 c.id,.int .i64 c.md,.int .u32 c.ins,b,.list [] .exact]]∧br (5 == 5 && List.all a PV.one && decide (5≤z_1.length) && true) (K (.agg a)) False)→ACalls Try.prog gl 16 [.agg (mtc c)] [] (fun x _=>K x):Prop):=fun K h=>acalls_of_wpc2 (T:=[]) (L:=[([1,1,0,1,0],bk1_l),([1,1,1,0,1,0],bk2_l)]) (fun _=>0) Try.func16 (by kernel_rfl) (by kernel_rfl) (by kernel_rfl) (TabOk.nil _ _) (.cons (sub_of (by kernel_rfl)) bk1_l_ok (.cons (sub_of (by kernel_rfl)) bk2_l_ok (.nil _ _ _ _ _))) (holds_of_eq (by kernel_rfl) h)
def back_s (args:List PV) (K:PV→Prop):Prop:=∃(c:Mt) (t1 t2:Tail),SlIs args [.agg [.int .u32 c.id,.int .i64 c.md,.int .u32 c.ins,.list (c.rows.map rrc) t1,.list (c.seats.map stc) t2]]∧c.Sm∧K c.pv
theorem back_ok:SpOk Try.prog gl 16 (.pure back_s):=by
 rintro args K ⟨c,t1,t2,he,sm,hk⟩
 have he:args=_:=he
 subst he
 have hlz:∀ x∈[PV.int .u32 0,.int .i64 0,.int .u32 0,.list [] .exact,.list [] .exact],Low 0 x:=low_five (.int _ _) (.int _ _) (.int _ _) lowNil lowNil
 exact spure_w gl_low (.cons wk_mt .nil) (low_one c.low) c.low (bk_vc c (fun x=>x=c.pv) ⟨_,c,hlz,sm.rows,rfl,rfl,_,c,hlz,sm.seats,rfl,rfl,rfl⟩) hk
end Go.Proofs.Ytenaelaapdhbdaa
