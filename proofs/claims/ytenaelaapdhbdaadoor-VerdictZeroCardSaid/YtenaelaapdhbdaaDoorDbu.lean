/-
  VerdictZero: its first loop.
-/
import Derived.Test.YtenaelaapdhbdaaDoorDbp
import Derived.Test.YtenaelaapdhbdaaDoorProg
namespace Go.Proofs.YtenaelaapdhbdaaDoor
open Go Go.AM Go.Proofs
def TZ:Tab:=[(7,.heap g9),(8,.pure Cq),(11,.read oG),(10,.read ua)]
theorem we:aB Tryd.prog gl TZ:= .cons mg (.cons zu (.cons nj (.cons wC (.nil _ _))))
theorem IW (d:Wd) (x:Td) (ra:List RwI) (w:List Mt) (rk:List PV) (i:Nat):(by refine(?_:_→_→_→_→_→Prop) [PV.list (d.ra.map prC) .no,.list (d.rows.map lcs) .no,.list (d.st.map i1) .no] (Ob.cells [.int .u32 x.ins,.int .u32 x.id,.int .i64 x.r]) (List.getD (bl ra) (Int.toNat (i:Int)) []) (Ob.abs (rkM (ar w) 6)) (PV.list (bl ra) .no); exact fun f g h j k=>by refine(?_:_→_→Prop) [Ob.cells f,g,.abs (rkI ra 40),j,.cells [.ptr 3 0],.cells rk] [PV.ptr 1 0,.ptr 2 0,.ptr 4 0,k,.list [] .exact,.int .i64 i]; exact fun b c=>∀(R:Ex→List PV→ae→Prop),(br (decide ((i:Int)<(↑(List.length (bl ra)):Int))) (InL (bl ra) 1 (i:Int)∧br (true && aP [.int .u32] 0 h) (∃(q:Nat) (l:List RwI) (most:Int) (t:Int),by refine(?_:_→Prop) [[PV.int .i64 (aD l t)]]; exact fun a=>ak [.ptr 2 0,.int .u32 (cI h 0)] [.ptr q 0,.int .u32 t]∧bO b q (rkI l most)∧Ok l most∧aX [] a 1 8∧(List.all [.int .i64 (aD l t)] PV.one=true∧a≠[])∧R .normal [.ptr 1 0,.ptr 2 0,.ptr 4 0,k,.list a (.tok 6),.int .i64 (wI ((i:Int)+1))] [.cells f,g,.abs (rkI ra 40),j,.cells [.ptr 3 0],.cells rk,.tok]) False) (R (.exit 0) c b))→Holds (wpc br Tryd.prog gl TZ [] (fun o=>match o.dst with|some 54=>1|_=>0) (an [1,1,1,1,1,0,1,0] (ai Tryd.f4)) [] (av [3,5,6,9,10,11] c) [.cells (wdC d),.cells (tdc x),.abs (rkI ra 40),j,.cells [.ptr 3 0],.cells rk] (fun ex e H=>R ex (List.map e [3,5,6,9,10,11]) H)):Prop):=fun R h=>ag (by kernel_rfl) h
theorem JA (d:Wd) (x:Td) (ra:List RwI) (w:List Mt) (rk:List PV) (l:List Int) (i:Nat):(by refine(?_:_→_→_→_→_→Prop) [PV.list (d.ra.map prC) .no,.list (d.rows.map lcs) .no,.list (d.st.map i1) .no] (Ob.cells [.int .u32 x.ins,.int .u32 x.id,.int .i64 x.r]) (List.getD (bl ra) (Int.toNat (i:Int)) []) (Ob.abs (rkM (ar w) 6)) (PV.list (bl ra) .no); exact fun f g h j k=>by refine(?_:_→_→Prop) [Ob.cells f,g,.abs (rkI ra 40),j,.cells [.ptr 3 0],.cells rk,.tok] [PV.ptr 1 0,.ptr 2 0,.ptr 4 0,k,.list (l.map i1) (.tok 6),.int .i64 i]; exact fun b c=>∀(R:Ex→List PV→ae→Prop),(br (decide ((i:Int)<(↑(List.length (bl ra)):Int))) (InL (bl ra) 1 (i:Int)∧br (true && aP [.int .u32] 0 h) (∃(q:Nat) (l_1:List RwI) (most:Int) (t:Int),by refine(?_:_→Prop) [[PV.int .i64 (aD l_1 t)]]; exact fun a=>ak [.ptr 2 0,.int .u32 (cI h 0)] [.ptr q 0,.int .u32 t]∧bO b q (rkI l_1 most)∧Ok l_1 most∧aX (l.map i1) a 1 8∧(List.all [.int .i64 (aD l_1 t)] PV.one=true∧a≠[])∧R .normal [.ptr 1 0,.ptr 2 0,.ptr 4 0,k,.list (l.map i1++a) (.tok 7),.int .i64 (wI ((i:Int)+1))] [.cells f,g,.abs (rkI ra 40),j,.cells [.ptr 3 0],.cells rk,.dead,.tok]) False) (R (.exit 0) c b))→Holds (wpc br Tryd.prog gl TZ [] (fun o=>match o.dst with|some 54=>1|_=>0) (an [1,1,1,1,1,0,1,0] (ai Tryd.f4)) [] (av [3,5,6,9,10,11] c) [.cells (wdC d),.cells (tdc x),.abs (rkI ra 40),j,.cells [.ptr 3 0],.cells rk,.tok] (fun ex e H=>R ex (List.map e [3,5,6,9,10,11]) H)):Prop):=fun R h=>ag (by kernel_rfl) h
def eK (ra l:List RwI):List Int:=l.map fun r=>aD ra r.id
theorem I1 {d:Wd} {x:Td} {ra:List RwI} {w:List Mt} {rk:List PV} (hrk:∀ x∈rk,Low 0 x):∀(o:Nat) cs,([.cells (wdC d),.cells (tdc x),.abs (rkI ra 40),.abs (rkM (ar w) 6),.cells [.ptr 3 0],.cells rk]:ae)[o]?=some (.cells cs)→∀ x∈cs,Low 6 x:=by
 intro o cs ho
 have k1:=(List.getElem?_eq_some_iff.1 ho).1
 simp at k1
 have:o=0∨o=1∨o=2∨o=3∨o=4∨o=5:=by omega
 rcases this with rfl|rfl|rfl|rfl|rfl|rfl<;>cases ho
 ·exact nr d
 ·exact Gt x
 ·exact bw (.ptr _ _ (by decide))
 ·exact fun x hx=>(hrk x hx).up
theorem I2 {ra:List RwI} {T:PV} {i:Int} (hT:Low 6 T):∀ v∈[.ptr 1 0,.ptr 2 0,.ptr 4 0,.list (bl ra) .no,T,.int .i64 i],Low 6 v:=by
 intro v hv
 simp only[List.mem_cons,List.not_mem_nil,or_false] at hv
 rcases hv with rfl|rfl|rfl|rfl|rfl|rfl
 ·exact .ptr _ _ (by decide)
 ·exact .ptr _ _ (by decide)
 ·exact .ptr _ _ (by decide)
 ·exact(ot ra).up
 ·exact hT
 ·exact .int _ _
theorem Hl {a b c d i T T':PV} (h:Wk T T'):WkL [a,b,c,d,T,i] [a,b,c,d,T',i]:= .cons (.refl _) (.cons (.refl _) (.cons (.refl _) (.cons (.refl _) (.cons h (.cons (.refl _) .nil)))))
def KU:LSp:=fun e H Q=>∃(d:Wd) (x:Td) (ra:List RwI) (w:List Mt) (rk:List PV),Ok ra 40∧ra.length≤1000000∧(∀ x∈rk,Low 0 x)∧ak (List.map e [3,5,6,9,10,11]) [.ptr 1 0,.ptr 2 0,.ptr 4 0,.list (bl ra) .no,.list [] .exact,.int .i64 0]∧az H [.cells (wdC d),.cells (tdc x),.abs (rkI ra 40),.abs (rkM (ar w) 6),.cells [.ptr 3 0],.cells rk]∧Q (.exit 0) (av [3,5,6,9,10,11] [.ptr 1 0,.ptr 2 0,.ptr 4 0,.list (bl ra) .no,.list ((eK ra ra).map i1) .no,.int .i64 ra.length]) ([.cells (wdC d),.cells (tdc x),.abs (rkI ra 40),.abs (rkM (ar w) 6),.cells [.ptr 3 0],.cells rk]++[.dead])
set_option maxRecDepth 10000 in
theorem GO:∀ e H Q,KU e H Q→AW Tryd.prog gl Tryd.f4.ntmps (.loop (an [1,1,1,1,1,0,1,0] (ai Tryd.f4))) Q e H:=by
 rintro e H Q ⟨d,x,ra,w,rk,ok,hn,hrk,he,hH,hQ⟩
 have hH:H=_:=hH
 refine gT (f:=i1) (acc:=fun k=>eK ra (ra.take k)) (I:=fun k=>k≤ra.length) (m:=fun k=>ra.length-k) aq [3,5,6,9,10,11] (fun T k=>[.ptr 1 0,.ptr 2 0,.ptr 4 0,.list (bl ra) .no,T,.int .i64 k]) [.cells (wdC d),.cells (tdc x),.abs (rkI ra 40),.abs (rkM (ar w) 6),.cells [.ptr 3 0],.cells rk] (0:Nat)
  (I1 hrk) (fun _ _ a _=>iD a) (fun es k j _ h=> .same (.ptr _ _ (by simp)) (.same (.ptr _ _ (by simp)) (.same (.ptr _ _ (by simp)) (.same (ot ra).up (.row h (.same (.int _ _) .nil)))))) (fun k _=>I2 tF) (Nat.zero_le _) rfl he hH ?_ ?_
 ·intro k hk ha
  have hk':k≤ra.length:=hk
  have ha:eK ra (ra.take k)=[]:=ha
  refine aY we (an [1,1,1,1,1,0,1,0] (ai Tryd.f4)) [] (.nil _ _ _ _ _) _ _ _ (IW d x ra w rk k _ ?_).out
  simp only[ay,dt,au,show(bl ra).length=ra.length by simp[bl]]
  by_cases h:k<ra.length
  ·rw[if_pos (by omega)]
   obtain⟨s,hs⟩:∃ s,s=ra.getD k default:=⟨_,rfl⟩
   have inl:InL (bl ra) 1 (k:Int):=by unfold bl; rw[cW (sz:=1) (f:=fun r:RwI=>[PV.int .u32 r.id]) (fun _=>rfl) (by decide)]; exact h
   have hg:(bl ra).getD k []=[.int .u32 s.id]:=by unfold bl; rw[getD_map default h,← hs]
   have ci:∀ z:Int,cI [.int .u32 z] 0=z:=fun _=>rfl
   have hsucc:eK ra (ra.take (k+1))=eK ra (ra.take k)++[aD ra s.id]:=by unfold eK; rw[aZ default h,← hs,List.map_append]; rfl
   simp only[hg,ci]
   refine⟨inl,?_⟩
   rw[if_pos (by rfl)]
   refine⟨2,ra,40,s.id,rfl,rfl,ok,aL (l:=[]) (by_:=8) jO (aD ra s.id) (by show(0+1)*8≤_; decide),one_row ie (aD ra s.id),?_⟩
   exact bf (k+1) (show ra.length-(k+1)<ra.length-k by omega) h (hsucc.trans (by rw[ha])) (by simp) [.tok] 6 rfl rfl (by simp) (by(try dsimp only); rw[ax h (by omega)]; rfl)
  ·rw[if_neg (by omega)]
   have:k=ra.length:=by omega
   subst this
   rw[List.take_length] at ha
   rw[ha] at hQ
   exact cj (Hl (.list _ _)) (fu _) hQ
 ·intro k hk ha
  have hk':k≤ra.length:=hk
  have ha:eK ra (ra.take k)≠[]:=ha
  have hbl:(eK ra (ra.take k)).length≤1000000:=by unfold eK; rw[List.length_map,List.length_take]; omega
  refine aY we (an [1,1,1,1,1,0,1,0] (ai Tryd.f4)) [] (.nil _ _ _ _ _) _ _ _ (JA d x ra w rk (eK ra (ra.take k)) k _ ?_).out
  simp only[ay,dt,au,show(bl ra).length=ra.length by simp[bl]]
  by_cases h:k<ra.length
  ·rw[if_pos (by omega)]
   obtain⟨s,hs⟩:∃ s,s=ra.getD k default:=⟨_,rfl⟩
   have inl:InL (bl ra) 1 (k:Int):=by unfold bl; rw[cW (sz:=1) (f:=fun r:RwI=>[PV.int .u32 r.id]) (fun _=>rfl) (by decide)]; exact h
   have hg:(bl ra).getD k []=[.int .u32 s.id]:=by unfold bl; rw[getD_map default h,← hs]
   have ci:∀ z:Int,cI [.int .u32 z] 0=z:=fun _=>rfl
   have hsucc:eK ra (ra.take (k+1))=eK ra (ra.take k)++[aD ra s.id]:=by unfold eK; rw[aZ default h,← hs,List.map_append]; rfl
   simp only[hg,ci]
   refine⟨inl,?_⟩
   rw[if_pos (by rfl)]
   refine⟨2,ra,40,s.id,rfl,rfl,ok,aL (by_:=8) jO (eK ra (ra.take k)) (aD ra s.id) (by omega),one_row ie (aD ra s.id),?_⟩
   exact bf (k+1) (show ra.length-(k+1)<ra.length-k by omega) h hsucc (by simp) [.dead,.tok] 7 rfl rfl (by simp) (by(try dsimp only); rw[ax h (by omega),List.map_append]; rfl)
  ·rw[if_neg (by omega)]
   have:k=ra.length:=by omega
   subst this
   rw[List.take_length]
   exact cj (Hl (.list _ _)) (gk [.cells (wdC d),.cells (tdc x),.abs (rkI ra 40),.abs (rkM (ar w) 6),.cells [.ptr 3 0],.cells rk] .tok) hQ
end Go.Proofs.YtenaelaapdhbdaaDoor
