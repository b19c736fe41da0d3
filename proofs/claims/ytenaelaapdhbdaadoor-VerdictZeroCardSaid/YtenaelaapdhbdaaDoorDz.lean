/-
  The document's rows.
-/
import Derived.Test.YtenaelaapdhbdaaDoorDy
import Derived.Test.YtenaelaapdhbdaaDoorProg
namespace Go.Proofs.YtenaelaapdhbdaaDoor
open Go Go.AM Go.Proofs
theorem Iq (w:List Mt) (p st un no:Int) (c:Mt) (i:Nat):(by refine(?_:_→_→_→_→_→Prop) (List.getD (c.aa.map stc) (Int.toNat (i:Int)) []) (Ob.cells [.int .u32 c.id,.int .i64 c.md,.int .u32 c.ins,.list (c.rows.map rrc) .no,.list (c.aa.map stc) .no]) [PV.list (w.map mtc) .no,.int .u32 p,.int .i64 st,.int .i64 un,.int .u64 no,.ptr 0 0,.list [] .exact,.int .i64 i] (PV.int .i64 (wI ((i:Int)+1))) (PV.list (w.map mtc) .no); exact fun a d j m n=>by refine(?_:_→_→_→Prop) (PV.int .u32 (cI a 0)) (PV.int .i64 (cI a 1)) (PV.int .i64 (cI a 2)); exact fun q r s=>by refine(?_:_→_→Prop) [q,r,s,.int .i64 (cI a 3),.int .i64 (cI a 4),.int .u64 (cI a 5)] [q,r,s,.int .i64 st,.int .i64 un,.int .u64 no]; exact fun h l=>by refine(?_:_→_→_→_→Prop) [h] [l] h l; exact fun b f g k=>∀(R:Ex→List PV→ae→Prop),(br (decide ((i:Int)<(↑(List.length (c.aa.map stc)):Int))) (InL (c.aa.map stc) 6 (i:Int)∧br (true && aP [.int .u32,.int .i64,.int .i64,.int .i64,.int .i64,.int .u64] 0 a) (br (cI a 0 == p) (aX [] f 6 48∧(List.all k PV.one=true∧f≠[])∧R .normal [n,.int .u32 p,.int .i64 st,.int .i64 un,.int .u64 no,.ptr 0 0,.list f (.tok 2),m] [d,.cells k,.tok]) (aX [] b 6 48∧(List.all g PV.one=true∧b≠[])∧R .normal [n,.int .u32 p,.int .i64 st,.int .i64 un,.int .u64 no,.ptr 0 0,.list b (.tok 2),m] [d,.cells g,.tok])) False) (R (.exit 0) j [d]))→Holds (wpc br Tryd.prog gl [] [] (fun o=>match o.dst with|some 60=>1|_=>0) (an [1,1,1,1,1,0,1,0] (ai Tryd.f19)) [] (av [0,1,2,3,4,12,14,15] j) [.cells (mtc c)] (fun ex e H=>R ex (List.map e [0,1,2,3,4,12,14,15]) H)):Prop):=fun R h=>ag (by kernel_rfl) h
theorem Jv (w:List Mt) (p st un no:Int) (c:Mt) (es:List (List PV)) (i:Nat):(by refine(?_:_→_→_→_→_→Prop) (List.getD (c.aa.map stc) (Int.toNat (i:Int)) []) (Ob.cells [.int .u32 c.id,.int .i64 c.md,.int .u32 c.ins,.list (c.rows.map rrc) .no,.list (c.aa.map stc) .no]) [PV.list (w.map mtc) .no,.int .u32 p,.int .i64 st,.int .i64 un,.int .u64 no,.ptr 0 0,.list es (.tok 1),.int .i64 i] (PV.int .i64 (wI ((i:Int)+1))) (PV.list (w.map mtc) .no); exact fun a d j m n=>by refine(?_:_→_→_→Prop) (PV.int .u32 (cI a 0)) (PV.int .i64 (cI a 1)) (PV.int .i64 (cI a 2)); exact fun q r s=>by refine(?_:_→_→Prop) [q,r,s,.int .i64 (cI a 3),.int .i64 (cI a 4),.int .u64 (cI a 5)] [q,r,s,.int .i64 st,.int .i64 un,.int .u64 no]; exact fun h l=>by refine(?_:_→_→_→_→Prop) [h] [l] h l; exact fun b f g k=>∀(R:Ex→List PV→ae→Prop),(br (decide ((i:Int)<(↑(List.length (c.aa.map stc)):Int))) (InL (c.aa.map stc) 6 (i:Int)∧br (true && aP [.int .u32,.int .i64,.int .i64,.int .i64,.int .i64,.int .u64] 0 a) (br (cI a 0 == p) (aX es f 6 48∧(List.all k PV.one=true∧f≠[])∧R .normal [n,.int .u32 p,.int .i64 st,.int .i64 un,.int .u64 no,.ptr 0 0,.list (es++f) (.tok 3),m] [d,.dead,.cells k,.tok]) (aX es b 6 48∧(List.all g PV.one=true∧b≠[])∧R .normal [n,.int .u32 p,.int .i64 st,.int .i64 un,.int .u64 no,.ptr 0 0,.list (es++b) (.tok 3),m] [d,.dead,.cells g,.tok])) False) (R (.exit 0) j [d,.tok]))→Holds (wpc br Tryd.prog gl [] [] (fun o=>match o.dst with|some 60=>1|_=>0) (an [1,1,1,1,1,0,1,0] (ai Tryd.f19)) [] (av [0,1,2,3,4,12,14,15] j) [.cells (mtc c),.tok] (fun ex e H=>R ex (List.map e [0,1,2,3,4,12,14,15]) H)):Prop):=fun R h=>ag (by kernel_rfl) h
def TRL:Tab:=[(41,.pure AK),(35,.pure ud),(36,.pure q8)]
theorem Kg:aB Tryd.prog gl TRL:= .cons DN (.cons wG (.cons sC (.nil _ _)))
def upS (p st un no:Int) (s:Se):Se:=if s.pl == p then⟨s.pl,s.tm,s.nu,st,un,no⟩ else s
theorem KZ (c:Mt):∀(o:Nat) cs,([.cells (mtc c)]:ae)[o]?=some (.cells cs)→∀ x∈cs,Low 1 x:=by
 intro o cs ho
 have k1:=(List.getElem?_eq_some_iff.1 ho).1
 simp at k1
 subst k1
 cases ho
 exact kH c
def KO:LSp:=fun e H Q=>∃(w:List Mt) (p st un no:Int) (c:Mt),c.aa.length≤1000000∧ak (List.map e [0,1,2,3,4,12,14,15]) [.list (w.map mtc) .no,.int .u32 p,.int .i64 st,.int .i64 un,.int .u64 no,.ptr 0 0,.list [] .exact,.int .i64 0]∧az H [.cells (mtc c)]∧Q (.exit 0) (av [0,1,2,3,4,12,14,15] [.list (w.map mtc) .no,.int .u32 p,.int .i64 st,.int .i64 un,.int .u64 no,.ptr 0 0,.list ((c.aa.map (upS p st un no)).map stc) .no,.int .i64 c.aa.length]) [.cells (mtc c),.dead]
set_option maxRecDepth 10000 in
theorem ET:∀ e H Q,KO e H Q→AW Tryd.prog gl Tryd.f19.ntmps (.loop (an [1,1,1,1,1,0,1,0] (ai Tryd.f19))) Q e H:=by
 rintro e H Q ⟨w,p,st,un,no,c,hl,he,hH,hQ⟩
 have hH2:H=_:=hH
 refine lH (f:=stc) (acc:=fun i=>((c.aa.take i).map (upS p st un no))) (I:=fun i=>i≤c.aa.length) (m:=fun i=>c.aa.length-i) (hn:=fun o=>match o.dst with|some 60=>1|_=>0) aq (aB.nil _ _) (.nil _ _ _ _ _) [0,1,2,3,4,12,14,15] (fun T i=>[.list (w.map mtc) .no,.int .u32 p,.int .i64 st,.int .i64 un,.int .u64 no,.ptr 0 0,T,.int .i64 i]) [.cells (mtc c)] (0:Nat)
  (KZ c) (fun _ _ a _=>cU a) (fun es i j _ h=> .same (bY w) (.same (.int _ _) (.same (.int _ _) (.same (.int _ _) (.same (.int _ _) (.same (.ptr _ _ (by simp)) (.row h (.same (.int _ _) (.nil))))))))) (fun i _ w hw=>by
   simp only[List.mem_cons,List.not_mem_nil,or_false] at hw
   rcases hw with rfl|rfl|rfl|rfl|rfl|rfl|rfl|rfl
   ·exact bY w
   ·exact .int _ _
   ·exact .int _ _
   ·exact .int _ _
   ·exact .int _ _
   ·exact .ptr _ _ (by simp)
   ·exact aI NT.exact (by simp)
   ·exact .int _ _) (Nat.zero_le _) rfl he hH2 ?_ ?_
 ·intro i hi ha
  have hi':i≤c.aa.length:=hi
  have ha:((c.aa.take i).map (upS p st un no))=[]:=ha
  refine Iq w p st un no c i _ ?_
  simp only[ay,dt,List.length_map]
  by_cases h:i<c.aa.length
  ·rw[if_pos (by omega)]
   have inl:InL (c.aa.map stc) 6 (i:Int):=by rw[mh]; exact h
   obtain⟨s,hs⟩:∃ s,s=c.aa.getD i default:=⟨_,rfl⟩
   have hsucc:(c.aa.take (i+1)).map (upS p st un no)=(c.aa.take i).map (upS p st un no)++[upS p st un no s]:=by rw[aZ default h,List.map_append,hs]; rfl
   have hlen:((c.aa.take i).map (upS p st un no)).length≤1000000:=by rw[List.length_map,List.length_take]; omega
   have hlen2:((c.aa.take i).map (upS p st un no)).length+1≤1000001:=by omega
   rw[ha,List.nil_append] at hsucc
   simp only[au,getD_map default h,← hs]
   refine⟨inl,?_⟩
   rw[if_pos (by rfl)]
   have e0:cI (stc s) 0=s.pl:=rfl
   by_cases cp:s.pl=p
   ·rw[if_pos (by rw[e0,cp]; exact beq_self_eq_true _)]
    have eu:upS p st un no s=(⟨s.pl,s.tm,s.nu,st,un,no⟩:Se):=by unfold upS; rw[if_pos (by simpa using cp)]
    rw[eu] at hsucc
    refine⟨aL (l:=[]) (by_:=48) bK ((⟨s.pl,s.tm,s.nu,st,un,no⟩:Se)) (by show(0+1)*48≤_; decide),one_row dX ((⟨s.pl,s.tm,s.nu,st,un,no⟩:Se)),?_⟩
    exact bf (i+1) (show c.aa.length-(i+1)<c.aa.length-i by omega) h hsucc (by simp) [.cells (stc (⟨s.pl,s.tm,s.nu,st,un,no⟩:Se)),.tok] 2 rfl rfl (by simp) (by(try dsimp only); rw[ax h (by omega)]; rfl)
   ·rw[if_neg (by rw[e0]; simpa using cp)]
    have eu:upS p st un no s=s:=by unfold upS; rw[if_neg (by simpa using cp)]
    rw[eu] at hsucc
    refine⟨aL (l:=[]) (by_:=48) bK (s) (by show(0+1)*48≤_; decide),one_row dX (s),?_⟩
    exact bf (i+1) (show c.aa.length-(i+1)<c.aa.length-i by omega) h hsucc (by simp) [.cells (stc s),.tok] 2 rfl rfl (by simp) (by(try dsimp only); rw[ax h (by omega)]; rfl)
  ·rw[if_neg (by omega)]
   have:i=c.aa.length:=by omega
   subst this
   have e0:=ha
   rw[List.take_length] at e0
   rw[e0] at hQ
   exact cj (.cons (.refl _) (.cons (.refl _) (.cons (.refl _) (.cons (.refl _) (.cons (.refl _) (.cons (.refl _) (.cons (.list _ _) (.cons (.refl _) (.nil))))))))) (fu _) hQ
 ·intro i hi ha
  have hi':i≤c.aa.length:=hi
  have ha:((c.aa.take i).map (upS p st un no))≠[]:=ha
  refine Jv w p st un no c (((c.aa.take i).map (upS p st un no)).map stc) i _ ?_
  simp only[ay,dt,List.length_map]
  by_cases h:i<c.aa.length
  ·rw[if_pos (by omega)]
   have inl:InL (c.aa.map stc) 6 (i:Int):=by rw[mh]; exact h
   obtain⟨s,hs⟩:∃ s,s=c.aa.getD i default:=⟨_,rfl⟩
   have hsucc:(c.aa.take (i+1)).map (upS p st un no)=(c.aa.take i).map (upS p st un no)++[upS p st un no s]:=by rw[aZ default h,List.map_append,hs]; rfl
   have hlen:((c.aa.take i).map (upS p st un no)).length≤1000000:=by rw[List.length_map,List.length_take]; omega
   have hlen2:((c.aa.take i).map (upS p st un no)).length+1≤1000001:=by omega
   simp only[au,getD_map default h,← hs]
   refine⟨inl,?_⟩
   rw[if_pos (by rfl)]
   have e0:cI (stc s) 0=s.pl:=rfl
   by_cases cp:s.pl=p
   ·rw[if_pos (by rw[e0,cp]; exact beq_self_eq_true _)]
    have eu:upS p st un no s=(⟨s.pl,s.tm,s.nu,st,un,no⟩:Se):=by unfold upS; rw[if_pos (by simpa using cp)]
    rw[eu] at hsucc
    refine⟨aL (l:=((c.aa.take i).map (upS p st un no))) (by_:=48) bK ((⟨s.pl,s.tm,s.nu,st,un,no⟩:Se)) (by omega),one_row dX ((⟨s.pl,s.tm,s.nu,st,un,no⟩:Se)),?_⟩
    exact bf (i+1) (show c.aa.length-(i+1)<c.aa.length-i by omega) h hsucc (by simp) [.dead,.cells (stc (⟨s.pl,s.tm,s.nu,st,un,no⟩:Se)),.tok] 3 rfl rfl (by simp) (by(try dsimp only); rw[ax h (by omega),List.map_append (f:=stc)]; rfl)
   ·rw[if_neg (by rw[e0]; simpa using cp)]
    have eu:upS p st un no s=s:=by unfold upS; rw[if_neg (by simpa using cp)]
    rw[eu] at hsucc
    refine⟨aL (l:=((c.aa.take i).map (upS p st un no))) (by_:=48) bK (s) (by omega),one_row dX (s),?_⟩
    exact bf (i+1) (show c.aa.length-(i+1)<c.aa.length-i by omega) h hsucc (by simp) [.dead,.cells (stc s),.tok] 3 rfl rfl (by simp) (by(try dsimp only); rw[ax h (by omega),List.map_append (f:=stc)]; rfl)
  ·rw[if_neg (by omega)]
   have:i=c.aa.length:=by omega
   subst this
   rw[List.take_length]
   exact cj (.cons (.refl _) (.cons (.refl _) (.cons (.refl _) (.cons (.refl _) (.cons (.refl _) (.cons (.refl _) (.cons (.list _ _) (.cons (.refl _) (.nil))))))))) (gk [.cells (mtc c)] .tok) hQ
end Go.Proofs.YtenaelaapdhbdaaDoor
