/-
  The document's rows.
-/
import Derived.Test.YtenaelaapdhbdaaSy
import Derived.Test.YtenaelaapdhbdaaProg
namespace Go.Proofs.Ytenaelaapdhbdaa
open Go Go.AM Go.Proofs
theorem stA_vc (w:List Mt) (p st un no:Int) (c:Mt) (i:Nat):(by refine(?_:_→_→_→_→_→Prop) (List.getD (c.seats.map stc) (Int.toNat (i:Int)) []) (Ob.cells [.int .u32 c.id,.int .i64 c.md,.int .u32 c.ins,.list (c.rows.map rrc) .no,.list (c.seats.map stc) .no]) [PV.list (w.map mtc) .no,.int .u32 p,.int .i64 st,.int .i64 un,.int .u64 no,.ptr 0 0,.list [] .exact,.int .i64 i] (PV.int .i64 (wI ((i:Int)+1))) (PV.list (w.map mtc) .no); exact fun a d j m n=>by refine(?_:_→_→_→Prop) (PV.int .u32 (cI a 0)) (PV.int .i64 (cI a 1)) (PV.int .i64 (cI a 2)); exact fun q r s=>by refine(?_:_→_→Prop) [q,r,s,.int .i64 (cI a 3),.int .i64 (cI a 4),.int .u64 (cI a 5)] [q,r,s,.int .i64 st,.int .i64 un,.int .u64 no]; exact fun h l=>by refine(?_:_→_→_→_→Prop) [h] [l] h l; exact fun b f g k=>∀(R:Ex→List PV→Heap→Prop),(br (decide ((i:Int)<(↑(List.length (c.seats.map stc)):Int))) (InL (c.seats.map stc) 6 (i:Int)∧br (true && fitX [.int .u32,.int .i64,.int .i64,.int .i64,.int .i64,.int .u64] 0 a) (br (cI a 0 == p) (AppL [] f 6 48∧(List.all k PV.one=true∧f≠[])∧R .normal [n,.int .u32 p,.int .i64 st,.int .i64 un,.int .u64 no,.ptr 0 0,.list f (.tok 2),m] [d,.cells k,.tok]) (AppL [] b 6 48∧(List.all g PV.one=true∧b≠[])∧R .normal [n,.int .u32 p,.int .i64 st,.int .i64 un,.int .u64 no,.ptr 0 0,.list b (.tok 2),m] [d,.cells g,.tok])) False) (R (.exit 0) j [d]))→Holds (wpc br Try.prog gl [] [] (fun o=>match o.dst with|some 60=>1|_=>0) (subOf [1,1,1,1,1,0,1,0] (bodyOf Try.f33)) [] (envS [0,1,2,3,4,12,14,15] j) [.cells (mtc c)] (fun ex e H=>R ex (List.map e [0,1,2,3,4,12,14,15]) H)):Prop):=fun R h=>holds_of_eq (by kernel_rfl) h
theorem stB_vc (w:List Mt) (p st un no:Int) (c:Mt) (es:List (List PV)) (i:Nat):(by refine(?_:_→_→_→_→_→Prop) (List.getD (c.seats.map stc) (Int.toNat (i:Int)) []) (Ob.cells [.int .u32 c.id,.int .i64 c.md,.int .u32 c.ins,.list (c.rows.map rrc) .no,.list (c.seats.map stc) .no]) [PV.list (w.map mtc) .no,.int .u32 p,.int .i64 st,.int .i64 un,.int .u64 no,.ptr 0 0,.list es (.tok 1),.int .i64 i] (PV.int .i64 (wI ((i:Int)+1))) (PV.list (w.map mtc) .no); exact fun a d j m n=>by refine(?_:_→_→_→Prop) (PV.int .u32 (cI a 0)) (PV.int .i64 (cI a 1)) (PV.int .i64 (cI a 2)); exact fun q r s=>by refine(?_:_→_→Prop) [q,r,s,.int .i64 (cI a 3),.int .i64 (cI a 4),.int .u64 (cI a 5)] [q,r,s,.int .i64 st,.int .i64 un,.int .u64 no]; exact fun h l=>by refine(?_:_→_→_→_→Prop) [h] [l] h l; exact fun b f g k=>∀(R:Ex→List PV→Heap→Prop),(br (decide ((i:Int)<(↑(List.length (c.seats.map stc)):Int))) (InL (c.seats.map stc) 6 (i:Int)∧br (true && fitX [.int .u32,.int .i64,.int .i64,.int .i64,.int .i64,.int .u64] 0 a) (br (cI a 0 == p) (AppL es f 6 48∧(List.all k PV.one=true∧f≠[])∧R .normal [n,.int .u32 p,.int .i64 st,.int .i64 un,.int .u64 no,.ptr 0 0,.list (es++f) (.tok 3),m] [d,.dead,.cells k,.tok]) (AppL es b 6 48∧(List.all g PV.one=true∧b≠[])∧R .normal [n,.int .u32 p,.int .i64 st,.int .i64 un,.int .u64 no,.ptr 0 0,.list (es++b) (.tok 3),m] [d,.dead,.cells g,.tok])) False) (R (.exit 0) j [d,.tok]))→Holds (wpc br Try.prog gl [] [] (fun o=>match o.dst with|some 60=>1|_=>0) (subOf [1,1,1,1,1,0,1,0] (bodyOf Try.f33)) [] (envS [0,1,2,3,4,12,14,15] j) [.cells (mtc c),.tok] (fun ex e H=>R ex (List.map e [0,1,2,3,4,12,14,15]) H)):Prop):=fun R h=>holds_of_eq (by kernel_rfl) h
def TRL:Tab:=[(13,.pure rof_s),(20,.pure rget_s),(46,.pure rwith_s),(55,.pure qwo_s)]
theorem TRL_ok:TabOk Try.prog gl TRL:= .cons rof_ok (.cons rget_ok (.cons rwith_ok (.cons qwo_ok (.nil _ _))))
theorem ls1A_vc (w:List Mt) (p:Int) (c:Mt) (i:Nat):(by refine(?_:_→_→_→_→_→Prop) (List.getD (c.seats.map stc) (Int.toNat (i:Int)) []) (Ob.cells [.int .u32 c.id,.int .i64 c.md,.int .u32 c.ins,.list (c.rows.map rrc) .no,.list (c.seats.map stc) .no]) [PV.list (w.map mtc) .no,.int .u32 p,.ptr 0 0,.list [] .exact,.int .i64 i] (PV.int .i64 (wI ((i:Int)+1))) (PV.list (w.map mtc) .no); exact fun a d f g h=>by refine(?_:_→_→_→_→_→Prop) (PV.int .i64 (cI a 1)) (PV.int .i64 (cI a 2)) (PV.int .i64 (cI a 3)) (PV.int .i64 (cI a 4)) (PV.int .u64 (cI a 5)); exact fun j k l m n=>by refine(?_:_→Prop) [[PV.int .u32 (cI a 0),j,k,l,m,n]]; exact fun b=>∀(R:Ex→List PV→Heap→Prop),(br (decide ((i:Int)<(↑(List.length (c.seats.map stc)):Int))) (InL (c.seats.map stc) 6 (i:Int)∧br (true && fitX [.int .u32] 0 (List.drop 0 a)) (br (cI (List.drop 0 a) 0 != p) (InL (c.seats.map stc) 6 (i:Int)∧br (true && fitX [.int .u32,.int .i64,.int .i64,.int .i64,.int .i64,.int .u64] 0 a) (AppL [] b 6 48∧(List.all [.int .u32 (cI a 0),j,k,l,m,n] PV.one=true∧b≠[])∧R .normal [h,.int .u32 p,.ptr 0 0,.list b (.tok 1),g] [d,.tok]) False) (R .normal [h,.int .u32 p,.ptr 0 0,.list [] .exact,g] [d])) False) (R (.exit 0) f [d]))→Holds (wpc br Try.prog gl [] [] (fun o=>match o.dst with|some 48=>1|_=>0) (subOf [1,1,1,1,0,1,0] (bodyOf Try.f34)) [] (envS [0,1,8,10,11] f) [.cells (mtc c)] (fun ex e H=>R ex (List.map e [0,1,8,10,11]) H)):Prop):=fun R h=>holds_of_eq (by kernel_rfl) h
theorem ls1B_vc (w:List Mt) (p:Int) (c:Mt) (es:List (List PV)) (i:Nat):(by refine(?_:_→_→_→_→_→Prop) (List.getD (c.seats.map stc) (Int.toNat (i:Int)) []) (Ob.cells [.int .u32 c.id,.int .i64 c.md,.int .u32 c.ins,.list (c.rows.map rrc) .no,.list (c.seats.map stc) .no]) [PV.list (w.map mtc) .no,.int .u32 p,.ptr 0 0,.list es (.tok 1),.int .i64 i] (PV.int .i64 (wI ((i:Int)+1))) (PV.list (w.map mtc) .no); exact fun a d f g h=>by refine(?_:_→_→_→_→_→Prop) (PV.int .i64 (cI a 1)) (PV.int .i64 (cI a 2)) (PV.int .i64 (cI a 3)) (PV.int .i64 (cI a 4)) (PV.int .u64 (cI a 5)); exact fun j k l m n=>by refine(?_:_→Prop) [[PV.int .u32 (cI a 0),j,k,l,m,n]]; exact fun b=>∀(R:Ex→List PV→Heap→Prop),(br (decide ((i:Int)<(↑(List.length (c.seats.map stc)):Int))) (InL (c.seats.map stc) 6 (i:Int)∧br (true && fitX [.int .u32] 0 (List.drop 0 a)) (br (cI (List.drop 0 a) 0 != p) (InL (c.seats.map stc) 6 (i:Int)∧br (true && fitX [.int .u32,.int .i64,.int .i64,.int .i64,.int .i64,.int .u64] 0 a) (AppL es b 6 48∧(List.all [.int .u32 (cI a 0),j,k,l,m,n] PV.one=true∧b≠[])∧R .normal [h,.int .u32 p,.ptr 0 0,.list (es++b) (.tok 2),g] [d,.dead,.tok]) False) (R .normal [h,.int .u32 p,.ptr 0 0,.list es (.tok 1),g] [d,.tok])) False) (R (.exit 0) f [d,.tok]))→Holds (wpc br Try.prog gl [] [] (fun o=>match o.dst with|some 48=>1|_=>0) (subOf [1,1,1,1,0,1,0] (bodyOf Try.f34)) [] (envS [0,1,8,10,11] f) [.cells (mtc c),.tok] (fun ex e H=>R ex (List.map e [0,1,8,10,11]) H)):Prop):=fun R h=>holds_of_eq (by kernel_rfl) h
theorem ls2A_vc (w:List Mt) (p:Int) (c:Mt) (k:List Se) (i:Nat):(by refine(?_:_→_→_→_→_→Prop) (List.getD (c.rows.map rrc) (Int.toNat (i:Int)) []) (Ob.cells [.int .u32 c.id,.int .i64 c.md,.int .u32 c.ins,.list (c.rows.map rrc) .no,.list (c.seats.map stc) .no]) (PV.list (k.map stc) .no) (PV.int .i64 (wI ((i:Int)+1))) (PV.list (w.map mtc) .no); exact fun g h m n q=>by refine(?_:_→Prop) [PV.list (w.map mtc) .no,.int .u32 p,.ptr 0 0,m,.list [] .exact,.int .i64 i]; exact fun j=>∀(R:Ex→List PV→Heap→Prop),(br (decide ((i:Int)<(↑(List.length (c.rows.map rrc)):Int))) (InL (c.rows.map rrc) 4 (i:Int)∧br (true && fitX [.int .i64,.list,.int .i64,.int .i64] 0 g) (∃(l:List Int) (tl:Tail) (t:Int),by refine(?_:_→Prop) (List.map u1 (dropP l t)); exact fun f=>by refine(?_:_→Prop) [PV.int .i64 (cI g 0),.list f .no,.int .i64 (cI g 2),.int .i64 (cI g 3)]; exact fun d=>by refine(?_:_→_→Prop) [d] d; exact fun a b=>SlIs [.list (cL g 1) (cT g 1),.int .u32 p] [.list (l.map u1) tl,.int .u32 t]∧l.length≤1000000∧br (decide ((↑(List.length f):Int)>0)) (AppL [] a 4 48∧(List.all b PV.one=true∧a≠[])∧R .normal [q,.int .u32 p,.ptr 0 0,m,.list a (.tok 3),n] [h,.dead,.cells b,.tok]) (R .normal [q,.int .u32 p,.ptr 0 0,m,.list [] .exact,n] [h,.dead,.cells b])) False) (R (.exit 2) j [h,.dead]))→Holds (wpc br Try.prog gl TRL [] (fun o=>match o.dst with|some 73=>1|_=>0) (subOf [1,1,1,1,1,1,0,1,0] (bodyOf Try.f34)) [] (envS [0,1,8,10,12,13] j) [.cells (mtc c),.dead] (fun ex e H=>R ex (List.map e [0,1,8,10,12,13]) H)):Prop):=fun R h=>holds_of_eq (by kernel_rfl) h
theorem ls2B_vc (w:List Mt) (p:Int) (c:Mt) (k:List Se) (es:List (List PV)) (i:Nat):(by refine(?_:_→_→_→_→_→Prop) (List.getD (c.rows.map rrc) (Int.toNat (i:Int)) []) (Ob.cells [.int .u32 c.id,.int .i64 c.md,.int .u32 c.ins,.list (c.rows.map rrc) .no,.list (c.seats.map stc) .no]) (PV.list (k.map stc) .no) (PV.int .i64 (wI ((i:Int)+1))) (PV.list (w.map mtc) .no); exact fun g h m n q=>by refine(?_:_→Prop) [PV.list (w.map mtc) .no,.int .u32 p,.ptr 0 0,m,.list es (.tok 2),.int .i64 i]; exact fun j=>∀(R:Ex→List PV→Heap→Prop),(br (decide ((i:Int)<(↑(List.length (c.rows.map rrc)):Int))) (InL (c.rows.map rrc) 4 (i:Int)∧br (true && fitX [.int .i64,.list,.int .i64,.int .i64] 0 g) (∃(l:List Int) (tl:Tail) (t:Int),by refine(?_:_→Prop) (List.map u1 (dropP l t)); exact fun f=>by refine(?_:_→Prop) [PV.int .i64 (cI g 0),.list f .no,.int .i64 (cI g 2),.int .i64 (cI g 3)]; exact fun d=>by refine(?_:_→_→Prop) [d] d; exact fun a b=>SlIs [.list (cL g 1) (cT g 1),.int .u32 p] [.list (l.map u1) tl,.int .u32 t]∧l.length≤1000000∧br (decide ((↑(List.length f):Int)>0)) (AppL es a 4 48∧(List.all b PV.one=true∧a≠[])∧R .normal [q,.int .u32 p,.ptr 0 0,m,.list (es++a) (.tok 4),n] [h,.dead,.dead,.cells b,.tok]) (R .normal [q,.int .u32 p,.ptr 0 0,m,.list es (.tok 2),n] [h,.dead,.tok,.cells b])) False) (R (.exit 2) j [h,.dead,.tok]))→Holds (wpc br Try.prog gl TRL [] (fun o=>match o.dst with|some 73=>1|_=>0) (subOf [1,1,1,1,1,1,0,1,0] (bodyOf Try.f34)) [] (envS [0,1,8,10,12,13] j) [.cells (mtc c),.dead,.tok] (fun ex e H=>R ex (List.map e [0,1,8,10,12,13]) H)):Prop):=fun R h=>holds_of_eq (by kernel_rfl) h
def upS (p st un no:Int) (s:Se):Se:=if s.pl == p then⟨s.pl,s.tm,s.nu,st,un,no⟩ else s
theorem lowB1 (c:Mt):∀(o:Nat) cs,([.cells (mtc c)]:Heap)[o]?=some (.cells cs)→∀ x∈cs,Low 1 x:=by
 intro o cs ho
 have k1:=(List.getElem?_eq_some_iff.1 ho).1
 simp at k1
 subst k1
 cases ho
 exact low_mtc c
theorem lowB1d (c:Mt):∀(o:Nat) cs,([.cells (mtc c),.dead]:Heap)[o]?=some (.cells cs)→∀ x∈cs,Low 2 x:=by
 intro o cs ho
 have k1:=(List.getElem?_eq_some_iff.1 ho).1
 simp at k1
 have:o=0∨o=1:=by omega
 rcases this with rfl|rfl
 ·cases ho
  exact low_mtc c
 ·cases ho
theorem low_sts_ {n:Nat} (l:List Se):Low n (.list (l.map stc) .no):=low_sts l
def st_l:LSp:=fun e H Q=>∃(w:List Mt) (p st un no:Int) (c:Mt),c.seats.length≤1000000∧SlIs (List.map e [0,1,2,3,4,12,14,15]) [.list (w.map mtc) .no,.int .u32 p,.int .i64 st,.int .i64 un,.int .u64 no,.ptr 0 0,.list [] .exact,.int .i64 0]∧HpIs H [.cells (mtc c)]∧Q (.exit 0) (envS [0,1,2,3,4,12,14,15] [.list (w.map mtc) .no,.int .u32 p,.int .i64 st,.int .i64 un,.int .u64 no,.ptr 0 0,.list ((c.seats.map (upS p st un no)).map stc) .no,.int .i64 c.seats.length]) [.cells (mtc c),.dead]
set_option maxRecDepth 10000 in
theorem st_l_ok:∀ e H Q,st_l e H Q→AW Try.prog gl Try.f33.ntmps (.loop (subOf [1,1,1,1,1,0,1,0] (bodyOf Try.f33))) Q e H:=by
 rintro e H Q ⟨w,p,st,un,no,c,hl,he,hH,hQ⟩
 have hH2:H=_:=hH
 refine aw_growif (f:=stc) (acc:=fun i=>((c.seats.take i).map (upS p st un no))) (I:=fun i=>i≤c.seats.length) (m:=fun i=>c.seats.length-i) (hn:=fun o=>match o.dst with|some 60=>1|_=>0) gl_low (TabOk.nil _ _) (.nil _ _ _ _ _) [0,1,2,3,4,12,14,15] (fun T i=>[.list (w.map mtc) .no,.int .u32 p,.int .i64 st,.int .i64 un,.int .u64 no,.ptr 0 0,T,.int .i64 i]) [.cells (mtc c)] (0:Nat)
  (lowB1 c) (fun _ _ a _=>low_stc a) (fun es i j _ h=> .same (low_mts w) (.same (.int _ _) (.same (.int _ _) (.same (.int _ _) (.same (.int _ _) (.same (.ptr _ _ (by simp)) (.row h (.same (.int _ _) (.nil))))))))) (fun i _ w hw=>by
   simp only[List.mem_cons,List.not_mem_nil,or_false] at hw
   rcases hw with rfl|rfl|rfl|rfl|rfl|rfl|rfl|rfl
   ·exact low_mts w
   ·exact .int _ _
   ·exact .int _ _
   ·exact .int _ _
   ·exact .int _ _
   ·exact .ptr _ _ (by simp)
   ·exact low_list NT.exact (by simp)
   ·exact .int _ _) (Nat.zero_le _) rfl he hH2 ?_ ?_
 ·intro i hi ha
  have hi':i≤c.seats.length:=hi
  have ha:((c.seats.take i).map (upS p st un no))=[]:=ha
  refine stA_vc w p st un no c i _ ?_
  simp only[br_if,dt,List.length_map]
  by_cases h:i<c.seats.length
  ·rw[if_pos (by omega)]
   have inl:InL (c.seats.map stc) 6 (i:Int):=by rw[inL_se]; exact h
   obtain⟨s,hs⟩:∃ s,s=c.seats.getD i default:=⟨_,rfl⟩
   have hsucc:(c.seats.take (i+1)).map (upS p st un no)=(c.seats.take i).map (upS p st un no)++[upS p st un no s]:=by rw[take_snoc default h,List.map_append,hs]; rfl
   have hlen:((c.seats.take i).map (upS p st un no)).length≤1000000:=by rw[List.length_map,List.length_take]; omega
   have hlen2:((c.seats.take i).map (upS p st un no)).length+1≤1000001:=by omega
   rw[ha,List.nil_append] at hsucc
   simp only[toNat_nat,getD_map default h,← hs]
   refine⟨inl,?_⟩
   rw[if_pos (by rfl)]
   have e0:cI (stc s) 0=s.pl:=rfl
   by_cases cp:s.pl=p
   ·rw[if_pos (by rw[e0,cp]; exact beq_self_eq_true _)]
    have eu:upS p st un no s=(⟨s.pl,s.tm,s.nu,st,un,no⟩:Se):=by unfold upS; rw[if_pos (by simpa using cp)]
    rw[eu] at hsucc
    refine⟨appL_map (l:=[]) (by_:=48) stc_len ((⟨s.pl,s.tm,s.nu,st,un,no⟩:Se)) (by show(0+1)*48≤_; decide),one_row one_stc ((⟨s.pl,s.tm,s.nu,st,un,no⟩:Se)),?_⟩
    exact growQ_add (i+1) (show c.seats.length-(i+1)<c.seats.length-i by omega) h hsucc (by simp) [.cells (stc (⟨s.pl,s.tm,s.nu,st,un,no⟩:Se)),.tok] 2 rfl rfl (by simp) (by(try dsimp only); rw[wI_succ h (by omega)]; rfl)
   ·rw[if_neg (by rw[e0]; simpa using cp)]
    have eu:upS p st un no s=s:=by unfold upS; rw[if_neg (by simpa using cp)]
    rw[eu] at hsucc
    refine⟨appL_map (l:=[]) (by_:=48) stc_len (s) (by show(0+1)*48≤_; decide),one_row one_stc (s),?_⟩
    exact growQ_add (i+1) (show c.seats.length-(i+1)<c.seats.length-i by omega) h hsucc (by simp) [.cells (stc s),.tok] 2 rfl rfl (by simp) (by(try dsimp only); rw[wI_succ h (by omega)]; rfl)
  ·rw[if_neg (by omega)]
   have:i=c.seats.length:=by omega
   subst this
   have e0:=ha
   rw[List.take_length] at e0
   rw[e0] at hQ
   exact growQ_end (.cons (.refl _) (.cons (.refl _) (.cons (.refl _) (.cons (.refl _) (.cons (.refl _) (.cons (.refl _) (.cons (.list _ _) (.cons (.refl _) (.nil))))))))) (pad_dead _) hQ
 ·intro i hi ha
  have hi':i≤c.seats.length:=hi
  have ha:((c.seats.take i).map (upS p st un no))≠[]:=ha
  refine stB_vc w p st un no c (((c.seats.take i).map (upS p st un no)).map stc) i _ ?_
  simp only[br_if,dt,List.length_map]
  by_cases h:i<c.seats.length
  ·rw[if_pos (by omega)]
   have inl:InL (c.seats.map stc) 6 (i:Int):=by rw[inL_se]; exact h
   obtain⟨s,hs⟩:∃ s,s=c.seats.getD i default:=⟨_,rfl⟩
   have hsucc:(c.seats.take (i+1)).map (upS p st un no)=(c.seats.take i).map (upS p st un no)++[upS p st un no s]:=by rw[take_snoc default h,List.map_append,hs]; rfl
   have hlen:((c.seats.take i).map (upS p st un no)).length≤1000000:=by rw[List.length_map,List.length_take]; omega
   have hlen2:((c.seats.take i).map (upS p st un no)).length+1≤1000001:=by omega
   simp only[toNat_nat,getD_map default h,← hs]
   refine⟨inl,?_⟩
   rw[if_pos (by rfl)]
   have e0:cI (stc s) 0=s.pl:=rfl
   by_cases cp:s.pl=p
   ·rw[if_pos (by rw[e0,cp]; exact beq_self_eq_true _)]
    have eu:upS p st un no s=(⟨s.pl,s.tm,s.nu,st,un,no⟩:Se):=by unfold upS; rw[if_pos (by simpa using cp)]
    rw[eu] at hsucc
    refine⟨appL_map (l:=((c.seats.take i).map (upS p st un no))) (by_:=48) stc_len ((⟨s.pl,s.tm,s.nu,st,un,no⟩:Se)) (by omega),one_row one_stc ((⟨s.pl,s.tm,s.nu,st,un,no⟩:Se)),?_⟩
    exact growQ_add (i+1) (show c.seats.length-(i+1)<c.seats.length-i by omega) h hsucc (by simp) [.dead,.cells (stc (⟨s.pl,s.tm,s.nu,st,un,no⟩:Se)),.tok] 3 rfl rfl (by simp) (by(try dsimp only); rw[wI_succ h (by omega),List.map_append (f:=stc)]; rfl)
   ·rw[if_neg (by rw[e0]; simpa using cp)]
    have eu:upS p st un no s=s:=by unfold upS; rw[if_neg (by simpa using cp)]
    rw[eu] at hsucc
    refine⟨appL_map (l:=((c.seats.take i).map (upS p st un no))) (by_:=48) stc_len (s) (by omega),one_row one_stc (s),?_⟩
    exact growQ_add (i+1) (show c.seats.length-(i+1)<c.seats.length-i by omega) h hsucc (by simp) [.dead,.cells (stc s),.tok] 3 rfl rfl (by simp) (by(try dsimp only); rw[wI_succ h (by omega),List.map_append (f:=stc)]; rfl)
  ·rw[if_neg (by omega)]
   have:i=c.seats.length:=by omega
   subst this
   rw[List.take_length]
   exact growQ_end (.cons (.refl _) (.cons (.refl _) (.cons (.refl _) (.cons (.refl _) (.cons (.refl _) (.cons (.refl _) (.cons (.list _ _) (.cons (.refl _) (.nil))))))))) (pad_kill [.cells (mtc c)] .tok) hQ
def ls1_l:LSp:=fun e H Q=>∃(w:List Mt) (p:Int) (c:Mt),c.seats.length≤1000000∧SlIs (List.map e [0,1,8,10,11]) [.list (w.map mtc) .no,.int .u32 p,.ptr 0 0,.list [] .exact,.int .i64 0]∧HpIs H [.cells (mtc c)]∧Q (.exit 0) (envS [0,1,8,10,11] [.list (w.map mtc) .no,.int .u32 p,.ptr 0 0,.list ((c.seats.filter fun s=> !isP p s).map stc) .no,.int .i64 c.seats.length]) [.cells (mtc c),.dead]
set_option maxRecDepth 10000 in
theorem ls1_l_ok:∀ e H Q,ls1_l e H Q→AW Try.prog gl Try.f34.ntmps (.loop (subOf [1,1,1,1,0,1,0] (bodyOf Try.f34))) Q e H:=by
 rintro e H Q ⟨w,p,c,hl,he,hH,hQ⟩
 have hH2:H=_:=hH
 refine aw_growif (f:=stc) (acc:=fun i=>((c.seats.take i).filter fun s=> !isP p s)) (I:=fun i=>i≤c.seats.length) (m:=fun i=>c.seats.length-i) (hn:=fun o=>match o.dst with|some 48=>1|_=>0) gl_low (TabOk.nil _ _) (.nil _ _ _ _ _) [0,1,8,10,11] (fun T i=>[.list (w.map mtc) .no,.int .u32 p,.ptr 0 0,T,.int .i64 i]) [.cells (mtc c)] (0:Nat)
  (lowB1 c) (fun _ _ a _=>low_stc a) (fun es i j _ h=> .same (low_mts w) (.same (.int _ _) (.same (.ptr _ _ (by simp)) (.row h (.same (.int _ _) (.nil)))))) (fun i _ w hw=>by
   simp only[List.mem_cons,List.not_mem_nil,or_false] at hw
   rcases hw with rfl|rfl|rfl|rfl|rfl
   ·exact low_mts w
   ·exact .int _ _
   ·exact .ptr _ _ (by simp)
   ·exact low_list NT.exact (by simp)
   ·exact .int _ _) (Nat.zero_le _) rfl he hH2 ?_ ?_
 ·intro i hi ha
  have hi':i≤c.seats.length:=hi
  have ha:((c.seats.take i).filter fun s=> !isP p s)=[]:=ha
  refine ls1A_vc w p c i _ ?_
  simp only[br_if,dt,List.length_map]
  by_cases h:i<c.seats.length
  ·rw[if_pos (by omega)]
   have inl:InL (c.seats.map stc) 6 (i:Int):=by rw[inL_se]; exact h
   obtain⟨s,hs⟩:∃ s,s=c.seats.getD i default:=⟨_,rfl⟩
   have hsucc:((c.seats.take (i+1)).filter fun s=> !isP p s)=((c.seats.take i).filter fun s=> !isP p s)++[s].filter fun s=> !isP p s:=by rw[take_snoc default h,List.filter_append,hs]
   have hlen:((c.seats.take i).filter fun s=> !isP p s).length≤1000000:=by
    have:=List.length_filter_le (fun s=> !isP p s) (c.seats.take i)
    rw[List.length_take] at this; omega
   simp only[toNat_nat,getD_map default h,← hs]
   refine⟨inl,?_⟩
   rw[if_pos (by rfl)]
   have e0:cI (List.drop 0 (stc s)) 0=s.pl:=rfl
   simp only[e0]
   by_cases cp:isP p s=true
   ·have e1:s.pl=p:=eq_of_beq cp
    rw[if_neg (by rw[e1]; simp)]
    rw[List.filter_cons_of_neg (by rw[cp]; decide),List.filter_nil,List.append_nil] at hsucc
    exact growQ_none (i+1) (show c.seats.length-(i+1)<c.seats.length-i by omega) h (hsucc.trans ha) [] rfl (by rw[wI_succ h (by omega)])
   ·have e1:s.pl≠p:=fun e=>cp (by unfold isP; rw[e]; exact beq_self_eq_true _)
    rw[if_pos (by simpa using e1)]
    rw[List.filter_cons_of_pos (by simpa using cp),List.filter_nil] at hsucc
    refine⟨inl,?_⟩
    rw[if_pos (by rfl)]
    refine⟨appL_map (l:=[]) (by_:=48) stc_len s (by show(0+1)*48≤_; decide),one_row one_stc s,?_⟩
    exact growQ_add (i+1) (show c.seats.length-(i+1)<c.seats.length-i by omega) h (hsucc.trans (by rw[ha]; (try rfl))) (by simp) [.tok] 1 rfl rfl (by simp) (by(try dsimp only); rw[wI_succ h (by omega)]; (try rfl))
  ·rw[if_neg (by omega)]
   have:i=c.seats.length:=by omega
   subst this
   have e0:=ha
   rw[List.take_length] at e0
   rw[e0] at hQ
   exact growQ_end (.cons (.refl _) (.cons (.refl _) (.cons (.refl _) (.cons (.list _ _) (.cons (.refl _) (.nil)))))) (pad_dead _) hQ
 ·intro i hi ha
  have hi':i≤c.seats.length:=hi
  have ha:((c.seats.take i).filter fun s=> !isP p s)≠[]:=ha
  refine ls1B_vc w p c (((c.seats.take i).filter fun s=> !isP p s).map stc) i _ ?_
  simp only[br_if,dt,List.length_map]
  by_cases h:i<c.seats.length
  ·rw[if_pos (by omega)]
   have inl:InL (c.seats.map stc) 6 (i:Int):=by rw[inL_se]; exact h
   obtain⟨s,hs⟩:∃ s,s=c.seats.getD i default:=⟨_,rfl⟩
   have hsucc:((c.seats.take (i+1)).filter fun s=> !isP p s)=((c.seats.take i).filter fun s=> !isP p s)++[s].filter fun s=> !isP p s:=by rw[take_snoc default h,List.filter_append,hs]
   have hlen:((c.seats.take i).filter fun s=> !isP p s).length≤1000000:=by
    have:=List.length_filter_le (fun s=> !isP p s) (c.seats.take i)
    rw[List.length_take] at this; omega
   simp only[toNat_nat,getD_map default h,← hs]
   refine⟨inl,?_⟩
   rw[if_pos (by rfl)]
   have e0:cI (List.drop 0 (stc s)) 0=s.pl:=rfl
   simp only[e0]
   by_cases cp:isP p s=true
   ·have e1:s.pl=p:=eq_of_beq cp
    rw[if_neg (by rw[e1]; simp)]
    rw[List.filter_cons_of_neg (by rw[cp]; decide),List.filter_nil,List.append_nil] at hsucc
    exact growQ_add (i+1) (show c.seats.length-(i+1)<c.seats.length-i by omega) h hsucc ha [.tok] 1 rfl rfl (by simp) (by(try dsimp only); rw[wI_succ h (by omega)])
   ·have e1:s.pl≠p:=fun e=>cp (by unfold isP; rw[e]; exact beq_self_eq_true _)
    rw[if_pos (by simpa using e1)]
    rw[List.filter_cons_of_pos (by simpa using cp),List.filter_nil] at hsucc
    refine⟨inl,?_⟩
    rw[if_pos (by rfl)]
    refine⟨appL_map (l:=((c.seats.take i).filter fun s=> !isP p s)) (by_:=48) stc_len s (by omega),one_row one_stc s,?_⟩
    exact growQ_add (i+1) (show c.seats.length-(i+1)<c.seats.length-i by omega) h hsucc (by simp) [.dead,.tok] 2 rfl rfl (by simp) (by(try dsimp only); rw[wI_succ h (by omega),List.map_append]; (try rfl))
  ·rw[if_neg (by omega)]
   have:i=c.seats.length:=by omega
   subst this
   rw[List.take_length]
   exact growQ_end (.cons (.refl _) (.cons (.refl _) (.cons (.refl _) (.cons (.list _ _) (.cons (.refl _) (.nil)))))) (pad_kill [.cells (mtc c)] .tok) hQ
def ls2_l:LSp:=fun e H Q=>∃(w:List Mt) (p:Int) (c:Mt) (k:List Se),(c.rows.length≤1000000∧∀ r∈c.rows,r.pl.length≤1000000)∧SlIs (List.map e [0,1,8,10,12,13]) [.list (w.map mtc) .no,.int .u32 p,.ptr 0 0,.list (k.map stc) .no,.list [] .exact,.int .i64 0]∧HpIs H [.cells (mtc c),.dead]∧Q (.exit 2) (envS [0,1,8,10,12,13] [.list (w.map mtc) .no,.int .u32 p,.ptr 0 0,.list (k.map stc) .no,.list ((keepR (c.rows.map fun r=>lessR r p)).map rrc) .no,.int .i64 c.rows.length]) [.cells (mtc c),.dead,.dead]
set_option maxRecDepth 10000 in
theorem ls2_l_ok:∀ e H Q,ls2_l e H Q→AW Try.prog gl Try.f34.ntmps (.loop (subOf [1,1,1,1,1,1,0,1,0] (bodyOf Try.f34))) Q e H:=by
 rintro e H Q ⟨w,p,c,k,hl,he,hH,hQ⟩
 have hH2:H=_:=hH
 refine aw_growif (f:=rrc) (acc:=fun i=>(keepR ((c.rows.take i).map fun r=>lessR r p))) (I:=fun i=>i≤c.rows.length) (m:=fun i=>c.rows.length-i) (hn:=fun o=>match o.dst with|some 73=>1|_=>0) gl_low TRL_ok (.nil _ _ _ _ _) [0,1,8,10,12,13] (fun T i=>[.list (w.map mtc) .no,.int .u32 p,.ptr 0 0,.list (k.map stc) .no,T,.int .i64 i]) [.cells (mtc c),.dead] (0:Nat)
  (lowB1d c) (fun _ _ a _=>low_rrc a) (fun es i j _ h=> .same (low_mts w) (.same (.int _ _) (.same (.ptr _ _ (by simp)) (.same (low_sts_ k) (.row h (.same (.int _ _) (.nil))))))) (fun i _ w hw=>by
   simp only[List.mem_cons,List.not_mem_nil,or_false] at hw
   rcases hw with rfl|rfl|rfl|rfl|rfl|rfl
   ·exact low_mts w
   ·exact .int _ _
   ·exact .ptr _ _ (by simp)
   ·exact low_sts_ k
   ·exact low_list NT.exact (by simp)
   ·exact .int _ _) (Nat.zero_le _) rfl he hH2 ?_ ?_
 ·intro i hi ha
  have hi':i≤c.rows.length:=hi
  have ha:(keepR ((c.rows.take i).map fun r=>lessR r p))=[]:=ha
  refine ls2A_vc w p c k i _ ?_
  simp only[br_if,dt,List.length_map]
  by_cases h:i<c.rows.length
  ·rw[if_pos (by omega)]
   have inl:InL (c.rows.map rrc) 4 (i:Int):=by rw[inL_rrc]; exact h
   obtain⟨s,hs⟩:∃ s,s=c.rows.getD i default:=⟨_,rfl⟩
   have hsucc:keepR ((c.rows.take (i+1)).map fun r=>lessR r p)=keepR ((c.rows.take i).map fun r=>lessR r p)++keepR [lessR s p]:=by unfold keepR; rw[take_snoc default h,List.map_append,List.filter_append,hs]; rfl
   have hlen:(keepR ((c.rows.take i).map fun r=>lessR r p)).length≤1000000:=by
    have:=keepR_le ((c.rows.take i).map fun r=>lessR r p)
    rw[List.length_map,List.length_take] at this; omega
   have hsl:s.pl.length≤1000000:=hl.2 s (by rw[hs]; exact getD_mem h)
   simp only[toNat_nat,getD_map default h,← hs]
   refine⟨inl,?_⟩
   rw[if_pos (by rfl)]
   refine⟨s.pl,.no,p,rfl,hsl,?_⟩
   by_cases cp:dropP s.pl p=[]
   ·have e1:keepR [lessR s p]=[]:=by unfold keepR mtR lessR; simp[cp]
    rw[e1,List.append_nil] at hsucc
    rw[if_neg (by rw[cp]; decide)]
    exact growQ_none (i+1) (show c.rows.length-(i+1)<c.rows.length-i by omega) h (hsucc.trans ha) [.cells (rrc (lessR s p))] rfl (by rw[wI_succ h (by omega)])
   ·have e1:keepR [lessR s p]=[lessR s p]:=by unfold keepR mtR lessR; simp[cp]
    have e2:(dropP s.pl p).length>0:=List.length_pos_iff.2 cp
    rw[e1] at hsucc
    rw[if_pos (by omega)]
    refine⟨appL_map (l:=[]) (by_:=48) rrc_len (lessR s p) (by show(0+1)*48≤_; decide),one_row one_rrc (lessR s p),?_⟩
    exact growQ_add (i+1) (show c.rows.length-(i+1)<c.rows.length-i by omega) h (hsucc.trans (by rw[ha]; (try rfl))) (by simp) [.cells (rrc (lessR s p)),.tok] 3 rfl rfl (by simp) (by(try dsimp only); rw[wI_succ h (by omega)]; (try rfl))
  ·rw[if_neg (by omega)]
   have:i=c.rows.length:=by omega
   subst this
   have e0:=ha
   rw[List.take_length] at e0
   rw[e0] at hQ
   exact growQ_end (.cons (.refl _) (.cons (.refl _) (.cons (.refl _) (.cons (.refl _) (.cons (.list _ _) (.cons (.refl _) (.nil))))))) (pad_dead _) hQ
 ·intro i hi ha
  have hi':i≤c.rows.length:=hi
  have ha:(keepR ((c.rows.take i).map fun r=>lessR r p))≠[]:=ha
  refine ls2B_vc w p c k ((keepR ((c.rows.take i).map fun r=>lessR r p)).map rrc) i _ ?_
  simp only[br_if,dt,List.length_map]
  by_cases h:i<c.rows.length
  ·rw[if_pos (by omega)]
   have inl:InL (c.rows.map rrc) 4 (i:Int):=by rw[inL_rrc]; exact h
   obtain⟨s,hs⟩:∃ s,s=c.rows.getD i default:=⟨_,rfl⟩
   have hsucc:keepR ((c.rows.take (i+1)).map fun r=>lessR r p)=keepR ((c.rows.take i).map fun r=>lessR r p)++keepR [lessR s p]:=by unfold keepR; rw[take_snoc default h,List.map_append,List.filter_append,hs]; rfl
   have hlen:(keepR ((c.rows.take i).map fun r=>lessR r p)).length≤1000000:=by
    have:=keepR_le ((c.rows.take i).map fun r=>lessR r p)
    rw[List.length_map,List.length_take] at this; omega
   have hsl:s.pl.length≤1000000:=hl.2 s (by rw[hs]; exact getD_mem h)
   simp only[toNat_nat,getD_map default h,← hs]
   refine⟨inl,?_⟩
   rw[if_pos (by rfl)]
   refine⟨s.pl,.no,p,rfl,hsl,?_⟩
   by_cases cp:dropP s.pl p=[]
   ·have e1:keepR [lessR s p]=[]:=by unfold keepR mtR lessR; simp[cp]
    rw[e1,List.append_nil] at hsucc
    rw[if_neg (by rw[cp]; decide)]
    exact growQ_add (i+1) (show c.rows.length-(i+1)<c.rows.length-i by omega) h hsucc ha [.tok,.cells (rrc (lessR s p))] 2 rfl rfl (by simp) (by(try dsimp only); rw[wI_succ h (by omega)])
   ·have e1:keepR [lessR s p]=[lessR s p]:=by unfold keepR mtR lessR; simp[cp]
    have e2:(dropP s.pl p).length>0:=List.length_pos_iff.2 cp
    rw[e1] at hsucc
    rw[if_pos (by omega)]
    refine⟨appL_map (l:=(keepR ((c.rows.take i).map fun r=>lessR r p))) (by_:=48) rrc_len (lessR s p) (by omega),one_row one_rrc (lessR s p),?_⟩
    exact growQ_add (i+1) (show c.rows.length-(i+1)<c.rows.length-i by omega) h hsucc (by simp) [.dead,.cells (rrc (lessR s p)),.tok] 4 rfl rfl (by simp) (by(try dsimp only); rw[wI_succ h (by omega),List.map_append]; (try rfl))
  ·rw[if_neg (by omega)]
   have:i=c.rows.length:=by omega
   subst this
   rw[List.take_length]
   exact growQ_end (.cons (.refl _) (.cons (.refl _) (.cons (.refl _) (.cons (.refl _) (.cons (.list _ _) (.cons (.refl _) (.nil))))))) (pad_kill [.cells (mtc c),.dead] .tok) hQ
end Go.Proofs.Ytenaelaapdhbdaa
