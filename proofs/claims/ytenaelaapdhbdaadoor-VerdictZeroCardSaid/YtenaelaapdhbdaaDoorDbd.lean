/-
  Lists joined.
-/
import Derived.Test.YtenaelaapdhbdaaDoorDbc
import Derived.Test.YtenaelaapdhbdaaDoorProg
namespace Go.Proofs.YtenaelaapdhbdaaDoor
open Go Go.AM Go.Proofs
def i1 (n:Int):List PV:=[.int .i64 n]
theorem jO (n:Int):(i1 n).length=1:=rfl
theorem iD {k:Nat} (n:Int):∀ y∈i1 n,Low k y:=bw (.int _ _)
theorem ie (n:Int):∀ y∈i1 n,y.one=true:=by intro y hy; rcases List.mem_singleton.1 hy with rfl; rfl
theorem tx (l:List Int) (i:Nat):InL (l.map i1) 1 (i:Int)=(i<l.length):=cW jO (by decide) l i
namespace CU
abbrev flR (l:List Int):List PV:=(l.map u1).flatten
theorem bJ (l:List Int):(flR l).length=l.length*1:=bq dN l
theorem gS (c:Nat):aJ (List.replicate c [PV.int .u32 0]).flatten (c*1):=by
 refine⟨by simp,fun x hx=>?_,fun x hx=>?_⟩<;>simp at hx<;>rcases hx with⟨_,rfl⟩<;>first|rfl|exact .int _ _
theorem aQ {n:Nat} (l:List Int):Low n (.list (l.map u1) .no):=bD bU l
theorem kr (H:ae) (n:Int)  (K:PV→ae→Prop) (h:br (decide (n<0)) False (br (decide (wI (n-0)>0)) ((iI 0≤0∧iI 0≤0∧iI 0≤0∧iI 0≤0∧uni 1 [])∧0<wI (n-0)∧Int.toNat (wI (n-0))*4≤140737488355328∧∀(c:Nat),Int.toNat (wI (n-0))≤c→(iI 0≤0∧iI 0≤0∧0≤(c:Int)∧(c:Int)≤(c:Int))∧K (.arr (List.length H) (if Int.toNat (c:Int)=0 then 0 else 0) 0 (Int.toNat (c:Int)-0)) (H++[.cells (List.flatten (List.replicate c [.int .u32 0]))])) (K (.list [] .exact) H))):aj Tryd.prog gl 71 [.list [] .exact,.int .i64 n] H K:=
 ah (T:=[]) (L:=[]) (fun o=>match o.dst with|some 22=>8|_=>0) Tryd.func71 (by kernel_rfl) (by kernel_rfl) (by kernel_rfl) (aB.nil _ _) (LOk.nil _ _ _ _ _) (ag (by kernel_rfl) h)
def mT (args:List PV) (H:ae) (K:PV→ae→Prop):Prop:=∃ n:Nat,ak args [.list [] .exact,.int .i64 n]∧n≤1000000∧(n=0→K (.list [] .exact) H)∧(0<n→∀(c:Nat) (J:List PV),n≤c→aJ J (c*1)→K (.arr H.length 0 0 c) (H++[.cells J]))
theorem oP:aO Tryd.prog gl 71 (.heap mT):=by
 rintro args H K ⟨n,he,hn,h0,h1⟩
 have he:args=_:=he
 subst he
 refine kr H n K ?_
 have e:wI ((n:Int)-0)=n:=by rw[a8 (by omega) (by omega)]; omega
 simp only[ay,dt,e,au]
 rw[if_neg (by omega)]
 by_cases c:n=0
 ·rw[if_neg (by omega)]; exact h0 c
 ·rw[if_pos (by omega)]
  refine⟨⟨by decide,by decide,by decide,by decide,fun _ h=>nomatch h⟩,by omega,by omega,fun k hk=>⟨⟨by decide,by decide,by omega,by omega⟩,?_⟩⟩
  rw[ite_self]
  exact h1 (by omega) k _ hk (gS k)
def lcs (l:List Int):List PV:=[.list (l.map u1) .no]
theorem kX (l:List Int):(lcs l).length=1:=rfl
theorem iV {n:Nat} (l:List Int):∀ y∈lcs l,Low n y:=bw (aQ l)
theorem ct (l:List (List Int)) (i:Nat):InL (l.map lcs) 1 (i:Int)=(i<l.length):=cW kX (by decide) l i
def be (ls:List (List Int)):Nat:=ls.flatten.length
theorem cJ {ls:List (List Int)} {k:Nat} (h:k<ls.length):be (ls.take (k+1))=be (ls.take k)+(ls.getD k []).length:=by
 unfold be; rw[aZ [] h,List.flatten_append]; simp
theorem ck (ls:List (List Int)) (k:Nat):be (ls.take k)≤be ls:=by
 unfold be
 conv=>rhs; rw[← List.take_append_drop k ls,List.flatten_append]
 rw[List.length_append]; omega
def TCG:Tab:=[(71,.heap mT)]
theorem o5:aB Tryd.prog gl TCG:= .cons oP (.nil _ _)
theorem oq (ls:List (List Int)) (n i:Nat):(by refine(?_:_→_→_→Prop) (PV.list (ls.map lcs) .no) (List.getD (ls.map lcs) (Int.toNat (i:Int)) []) (PV.int .i64 ls.length); exact fun a b f=>by refine(?_:_→_→Prop) [a,.int .i64 n,a,f,.int .i64 i] ((n:Int)+(↑(List.length (cL b 0)):Int)); exact fun c d=>∀(R:Ex→List PV→ae→Prop),(br (decide ((i:Int)<(ls.length:Int))) (InL (ls.map lcs) 1 (i:Int)∧br (true && aP [.list] 0 b) (br (decide (wI d<0)) False (R .normal [a,.int .i64 (wI d),a,f,.int .i64 (wI ((i:Int)+1))] [])) False) (R (.exit 0) c []))→Holds (wpc br Tryd.prog gl [] [] (fun _=>0) (an [1,1,0,1,0] (ai Tryd.f46)) [] (av [0,3,9,10,11] c) [] (fun ex e H=>R ex (List.map e [0,3,9,10,11]) H)):Prop):=fun R h=>ag (by kernel_rfl) h
theorem kO (ls:List (List Int)) (i:Nat):(by refine(?_:_→_→_→_→Prop) (List.getD (ls.map lcs) (Int.toNat (i:Int)) []) (PV.list (ls.map lcs) .no) (PV.int .i64 ls.length) (PV.int .i64 (wI ((i:Int)+1))); exact fun a c d f=>by refine(?_:_→Prop) [PV.list [] .exact,c,d,.int .i64 i]; exact fun b=>∀(R:Ex→List PV→ae→Prop),(br (decide ((i:Int)<(ls.length:Int))) (InL (ls.map lcs) 1 (i:Int)∧br (true && aP [.list] 0 a) (aX [] (cL a 0) 1 4∧List.all (List.flatten (cL a 0)) PV.one=true∧(cL a 0=[]→R .normal [.list [] .exact,c,d,f] [])∧(cL a 0≠[]→R .normal [.list ([]++cL a 0) (.tok 0),c,d,f] [.tok])) False) (R (.exit 2) b []))→Holds (wpc br Tryd.prog gl [] [] (fun o=>match o.dst with|some 33=>4|_=>0) (an [1,1,1,1,0,1,0] (ai Tryd.f46)) [] (av [6,25,26,27] b) [] (fun ex e H=>R ex (List.map e [6,25,26,27]) H)):Prop):=fun R h=>ag (by kernel_rfl) h
theorem kL (ls:List (List Int)) (acc:List Int) (J:List PV) (cap i:Nat):(by refine(?_:_→_→_→_→Prop) (List.getD (ls.map lcs) (Int.toNat (i:Int)) []) [Ob.cells (flR acc++J)] (PV.list (ls.map lcs) .no) (PV.int .i64 ls.length); exact fun a f g h=>by refine(?_:_→_→_→Prop) [PV.arr 0 0 acc.length cap,g,h,.int .i64 i] (List.flatten (cL a 0)) (acc.length+List.length (cL a 0)); exact fun b c d=>∀(R:Ex→List PV→ae→Prop),(br (decide ((i:Int)<(ls.length:Int))) (InL (ls.map lcs) 1 (i:Int)∧br (true && aP [.list] 0 a) ((acc.length≤cap∧0+cap*1≤List.length (flR acc++J)∧List.length c=List.length (cL a 0)*1∧List.all c PV.one=true∧d*4≤140737488355328)∧acc.length+List.length (cL a 0)≤cap∧R .normal [.arr 0 0 d cap,g,h,.int .i64 (wI ((i:Int)+1))] [.cells (over (flR acc++J) (0+acc.length*1) c)]) False) (R (.exit 2) b f))→Holds (wpc br Tryd.prog gl [] [] (fun o=>match o.dst with|some 33=>3|_=>0) (an [1,1,1,1,0,1,0] (ai Tryd.f46)) [] (av [6,25,26,27] b) f (fun ex e H=>R ex (List.map e [6,25,26,27]) H)):Prop):=fun R h=>ag (by kernel_rfl) h
theorem kv (l k:List Int):flR (l++k)=flR l++flR k:=by unfold flR; rw[List.map_append,List.flatten_append]
theorem iX {l:List Int}:∀ y∈flR l,y.one=true:=by
 intro y hy
 obtain⟨c,h2,h3⟩:=List.mem_flatten.1 hy
 obtain⟨a,_,rfl⟩:=List.mem_map.1 h2
 exact ey a y h3
theorem gf {acc l:List Int} {J:List PV}:over (flR acc++J) (acc.length*1) (flR l)=flR (acc++l)++J.drop (l.length*1):=by
 unfold over
 rw[List.take_left' (bJ acc),kv,List.append_assoc,List.append_assoc]
 congr 2
 rw[List.drop_append,bJ,bJ,List.drop_of_length_le (by rw[bJ]; omega),List.nil_append,show acc.length*1+l.length*1-acc.length*1=l.length*1 by omega]
def mC:LSp:=fun e H Q=>∃(ls:List (List Int)),ls.length≤1000000∧be ls≤1000000∧ak (List.map e [0,3,9,10,11]) [.list (ls.map lcs) .no,.int .i64 0,.list (ls.map lcs) .no,.int .i64 ls.length,.int .i64 0]∧az H []∧Q (.exit 0) (av [0,3,9,10,11] [.list (ls.map lcs) .no,.int .i64 (be ls),.list (ls.map lcs) .no,.int .i64 ls.length,.int .i64 ls.length]) []
theorem iA:∀ e H Q,mC e H Q→AW Tryd.prog gl Tryd.f46.ntmps (.loop (an [1,1,0,1,0] (ai Tryd.f46))) Q e H:=by
 rintro e H Q ⟨ls,hl,hs,he,hH,hQ⟩
 refine aG (hn:=fun _=>0) aq (.nil _ _) (.nil _ _ _ _ _) (σ:=Nat) [0,3,9,10,11] (fun i=>i≤ls.length) (fun i=>[.list (ls.map lcs) .no,.int .i64 (be (ls.take i)),.list (ls.map lcs) .no,.int .i64 ls.length,.int .i64 i]) (fun _=>[]) (fun i=>ls.length-i) 0 (Nat.zero_le _) (by rw[he]; rfl) hH ?_
 intro i hi
 have hi:i≤ls.length:=hi
 refine oq ls (be (ls.take i)) i _ ?_
 have h3:=ck ls i
 simp only[ay,dt,au,ct]
 by_cases h:i<ls.length
 ·rw[if_pos (by omega)]
  have h4:=ck ls (i+1)
  have e1:=cJ h
  simp only[getD_map [] h]
  refine⟨h,?_⟩
  rw[if_pos (by rfl)]
  have c0:cL (lcs (ls.getD i [])) 0=(ls.getD i []).map u1:=rfl
  have e2:wI ((be (ls.take i):Int)+(((ls.getD i []).map u1).length:Int))=(be (ls.take (i+1)):Int):=by rw[List.length_map,a8 (by omega) (by omega)]; omega
  rw[c0,e2,if_neg (by omega)]
  exact⟨i+1,(show ls.length-(i+1)<ls.length-i by omega),h,by rw[ax h (by omega)],[],rfl,Nat.le_refl _,.inl rfl⟩
 ·rw[if_neg (by omega)]
  have:i=ls.length:=by omega
  subst this
  rw[List.take_length]
  exact hQ
def mB:LSp:=fun e H Q=>∃(ls:List (List Int)),ls.length≤1000000∧be ls≤1000000∧
 ((be ls=0∧ak (List.map e [6,25,26,27]) [.list [] .exact,.list (ls.map lcs) .no,.int .i64 ls.length,.int .i64 0]∧az H []∧Q (.exit 2) (av [6,25,26,27] [.list [] .exact,.list (ls.map lcs) .no,.int .i64 ls.length,.int .i64 ls.length]) [])∨
  (∃(cap:Nat) (J:List PV),be ls≤cap∧aJ J (cap*1)∧ak (List.map e [6,25,26,27]) [.arr 0 0 0 cap,.list (ls.map lcs) .no,.int .i64 ls.length,.int .i64 0]∧az H [.cells J]∧∀ J',aJ J' ((cap-ls.flatten.length)*1)→Q (.exit 2) (av [6,25,26,27] [.arr 0 0 ls.flatten.length cap,.list (ls.map lcs) .no,.int .i64 ls.length,.int .i64 ls.length]) [.cells (flR ls.flatten++J')]))
theorem iC:∀ e H Q,mB e H Q→AW Tryd.prog gl Tryd.f46.ntmps (.loop (an [1,1,1,1,0,1,0] (ai Tryd.f46))) Q e H:=by
 rintro e H Q ⟨ls,hl,hs,(⟨h0,he,hH,hQ⟩|⟨cap,J,hc,hJ,he,hH,hQ⟩)⟩
 ·refine aG (hn:=fun o=>match o.dst with|some 33=>4|_=>0) aq (.nil _ _) (.nil _ _ _ _ _) (σ:=Nat) [6,25,26,27] (fun i=>i≤ls.length) (fun i=>[.list [] .exact,.list (ls.map lcs) .no,.int .i64 ls.length,.int .i64 i]) (fun _=>[]) (fun i=>ls.length-i) 0 (Nat.zero_le _) (by rw[he]; rfl) hH ?_
  intro i hi
  have hi:i≤ls.length:=hi
  refine kO ls i _ ?_
  simp only[ay,dt,au,ct]
  by_cases h:i<ls.length
  ·rw[if_pos (by omega)]
   have h4:=ck ls (i+1)
   have e1:=cJ h
   simp only[getD_map [] h]
   refine⟨h,?_⟩
   rw[if_pos (by rfl)]
   have c0:cL (lcs (ls.getD i [])) 0=(ls.getD i []).map u1:=rfl
   have c1:ls.getD i []=[]:=List.length_eq_zero_iff.1 (by omega)
   rw[c0,c1]
   exact⟨⟨(fun _ h=>nomatch h),(fun _ h=>nomatch h),by decide⟩,rfl,fun _=>⟨i+1,(show ls.length-(i+1)<ls.length-i by omega),h,by rw[ax h (by omega)],[],rfl,Nat.le_refl _,.inl rfl⟩,fun h=>absurd rfl h⟩
  ·rw[if_neg (by omega)]
   have:i=ls.length:=by omega
   subst this
   exact hQ
 ·refine aG (hn:=fun o=>match o.dst with|some 33=>3|_=>0) aq (.nil _ _) (.nil _ _ _ _ _) (σ:=Nat) [6,25,26,27] (fun i=>i≤ls.length) (fun i=>[.arr 0 0 (ls.take i).flatten.length cap,.list (ls.map lcs) .no,.int .i64 ls.length,.int .i64 i]) (fun i=>[.cells (flR (ls.take i).flatten++J.drop ((ls.take i).flatten.length*1))]) (fun i=>ls.length-i) 0 (Nat.zero_le _) (by rw[he]; rfl) (by rw[show H=_ from hH]; simp[flR]) ?_
  intro i hi
  have hi:i≤ls.length:=hi
  refine kL ls (ls.take i).flatten (J.drop ((ls.take i).flatten.length*1)) cap i _ ?_
  simp only[ay,dt,au,ct]
  have h3:=ck ls i
  have hJl:=hJ.len
  have h5:(ls.take i).flatten.length≤cap:=Nat.le_trans h3 hc
  by_cases h:i<ls.length
  ·rw[if_pos (by omega)]
   have h4:=ck ls (i+1)
   have e1:=cJ h
   simp only[getD_map [] h]
   refine⟨h,?_⟩
   rw[if_pos (by rfl)]
   have c0:cL (lcs (ls.getD i [])) 0=(ls.getD i []).map u1:=rfl
   obtain⟨l,hld⟩:∃ l,l=ls.getD i []:=⟨_,rfl⟩
   have e4:(ls.take (i+1)).flatten=(ls.take i).flatten++l:=by rw[aZ [] h,List.flatten_append,hld]; simp
   have e5:(ls.take (i+1)).flatten.length=(ls.take i).flatten.length+l.length:=by rw[e4,List.length_append]
   have e6:(ls.take (i+1)).flatten.length≤cap:=Nat.le_trans h4 hc
   have e7:be (ls.take (i+1))=(ls.take (i+1)).flatten.length:=rfl
   have e8:(J.drop ((ls.take i).flatten.length*1)).length=(cap-(ls.take i).flatten.length)*1:=by rw[List.length_drop,hJl]; omega
   have e9:(List.map u1 l).flatten.length=l.length*1:=bJ l
   rw[c0,← hld]
   simp only[List.length_map,e9]
   refine⟨⟨h5,?_,trivial,List.all_eq_true.2 iX,by omega⟩,by omega,i+1,(show ls.length-(i+1)<ls.length-i by omega),h,by(try dsimp only); rw[ax h (by omega),e5],[],?_,Nat.le_refl _,.inl rfl⟩
   ·rw[List.length_append,bJ,e8]; omega
   ·(try dsimp only)
    rw[Nat.zero_add,gf,e4,List.drop_drop,List.append_nil,List.length_append,Nat.add_mul]
  ·rw[if_neg (by omega)]
   have:i=ls.length:=by omega
   subst this
   rw[List.take_length]
   exact hQ _ (hJ.drop.cast (by omega))
theorem fH (ls:List (List Int)):∀(K:PV→ae→Prop),(∃(ls_1:List (List Int)),by refine(?_:_→_→Prop) (PV.list (ls_1.map lcs) .no) (PV.int .i64 (↑(List.length (ls_1.map lcs)):Int)); exact fun d e=>by refine(?_:_→Prop) [PV.list [] .exact,d,e,.int .i64 0]; exact fun b=>ls_1.length≤1000000∧be ls_1≤1000000∧ak [.list (ls.map lcs) .no,.int .i64 0,.list (ls.map lcs) .no,.int .i64 (↑(List.length (ls.map lcs)):Int),.int .i64 0] [d,.int .i64 0,d,.int .i64 ls_1.length,.int .i64 0]∧az [] []∧∃(n:Nat),ak [.list [] .exact,.int .i64 (↑(be ls_1):Int)] [.list [] .exact,.int .i64 n]∧n≤1000000∧(n=0→∃(ls:List (List Int)),ls.length≤1000000∧be ls≤1000000∧(be ls=0∧ak b [.list [] .exact,.list (ls.map lcs) .no,.int .i64 ls.length,.int .i64 0]∧az [] []∧K (.list [] .exact) []∨∃(cap:Nat) (J:List PV),be ls≤cap∧aJ J (cap*1)∧ak b [.arr 0 0 0 cap,.list (ls.map lcs) .no,.int .i64 ls.length,.int .i64 0]∧az [] [.cells J]∧∀(J':List PV),aJ J' ((cap-ls.flatten.length)*1)→K (.arr 0 0 ls.flatten.length cap) [.cells (flR ls.flatten++J')]))∧(0<n→∀(c:Nat),by refine(?_:_→Prop) [PV.arr 0 0 0 c,d,e,.int .i64 0]; exact fun a=>∀(J:List PV),n≤c→aJ J (c*1)→∃(ls:List (List Int)),ls.length≤1000000∧be ls≤1000000∧(be ls=0∧ak a [.list [] .exact,.list (ls.map lcs) .no,.int .i64 ls.length,.int .i64 0]∧az [.cells J] []∧K (.list [] .exact) []∨∃(cap:Nat) (J_1:List PV),be ls≤cap∧aJ J_1 (cap*1)∧ak a [.arr 0 0 0 cap,.list (ls.map lcs) .no,.int .i64 ls.length,.int .i64 0]∧az [.cells J] [.cells J_1]∧∀(J':List PV),aJ J' ((cap-ls.flatten.length)*1)→K (.arr 0 0 ls.flatten.length cap) [.cells (flR ls.flatten++J')])))→aj Tryd.prog gl 46 [.list (ls.map lcs) .no] [] K:=fun K h=>ah (T:=TCG) (L:=[([1,1,0,1,0],mC),([1,1,1,1,0,1,0],mB)]) (fun _=>0) Tryd.func46 (by kernel_rfl) (by kernel_rfl) (by kernel_rfl) (o5) (.cons (aH (by kernel_rfl)) iA (.cons (aH (by kernel_rfl)) iC (.nil _ _ _ _ _))) (ag (by kernel_rfl) h)
theorem rH (ls:List (List Int)) (hl:ls.length≤1000000) (hs:be ls≤1000000):aj Tryd.prog gl 46 [.list (ls.map lcs) .no] [] (fun x _=>x = .list (ls.flatten.map u1) .no):=by
 have e0:(List.map lcs ls).length=ls.length:=List.length_map _
 by_cases c:be ls=0
 ·refine bA (fH ls _ ⟨ls,hl,hs,(by show _=_; rw[e0]),rfl,be ls,rfl,hs,fun _=>⟨ls,hl,hs,.inl ⟨c,(by show _=_; rw[e0]),rfl,?_⟩⟩,fun h=>absurd c (by omega)⟩)
  have e:ls.flatten=[]:=List.length_eq_zero_iff.1 c
  rw[e]
  exact⟨_,.list _ _,rfl⟩
 ·refine bS (fH ls _ ⟨ls,hl,hs,(by show _=_; rw[e0]),rfl,be ls,rfl,hs,fun h=>absurd h c,fun h cap J hc hJ=>⟨ls,hl,hs,.inr ⟨cap,J,hc,hJ,(by show _=_; rw[e0]),rfl,fun J' hJ'=>?_⟩⟩⟩)
  refine⟨0,0,1,[],J',ls.flatten.map u1,.list (ls.flatten.map u1) .no,[.dead],rfl,rfl,b9 dN _,⟨rfl,fun i b hb=> .inl ?_⟩,?_,rfl⟩
  ·have k1:=(List.getElem?_eq_some_iff.1 hb).1
   simp at k1
   subst k1
   cases hb; rfl
  ·have:=Fz.arr (o:=0) (off:=0) (es:=ls.flatten.map u1) cap (by rw[List.length_map]; exact hc)
   rw[List.length_map] at this
   exact this
def mv (args:List PV) (K:PV→Prop):Prop:=∃(a b:List Int),ak args [.list [[.list (a.map u1) .no],[.list (b.map u1) .no]] .exact]∧a.length+b.length≤1000000∧K (.list ((a++b).map u1) .no)
theorem o4:aO Tryd.prog gl 46 (.pure mv):=by
 rintro args K ⟨a,b,he,h,hk⟩
 have he:args=_:=he
 subst he
 have hf:[a,b].flatten=a++b:=by simp
 have hl:=rH [a,b] (by simp) (by unfold be; rw[hf,List.length_append]; exact h)
 rw[hf] at hl
 exact bH aq (.cons (.list _ _) .nil) (bw (bD iV [a,b])) (aQ _) hl hk
end CU
namespace CI
abbrev flR (l:List Int):List PV:=(l.map i1).flatten
theorem bJ (l:List Int):(flR l).length=l.length*1:=bq jO l
theorem gS (c:Nat):aJ (List.replicate c [PV.int .i64 0]).flatten (c*1):=by
 refine⟨by simp,fun x hx=>?_,fun x hx=>?_⟩<;>simp at hx<;>rcases hx with⟨_,rfl⟩<;>first|rfl|exact .int _ _
theorem aQ {n:Nat} (l:List Int):Low n (.list (l.map i1) .no):=bD iD l
theorem kr (H:ae) (n:Int)  (K:PV→ae→Prop) (h:br (decide (n<0)) False (br (decide (wI (n-0)>0)) ((iI 0≤0∧iI 0≤0∧iI 0≤0∧iI 0≤0∧uni 1 [])∧0<wI (n-0)∧Int.toNat (wI (n-0))*8≤140737488355328∧∀(c:Nat),Int.toNat (wI (n-0))≤c→(iI 0≤0∧iI 0≤0∧0≤(c:Int)∧(c:Int)≤(c:Int))∧K (.arr (List.length H) (if Int.toNat (c:Int)=0 then 0 else 0) 0 (Int.toNat (c:Int)-0)) (H++[.cells (List.flatten (List.replicate c [.int .i64 0]))])) (K (.list [] .exact) H))):aj Tryd.prog gl 72 [.list [] .exact,.int .i64 n] H K:=
 ah (T:=[]) (L:=[]) (fun o=>match o.dst with|some 22=>8|_=>0) Tryd.func72 (by kernel_rfl) (by kernel_rfl) (by kernel_rfl) (aB.nil _ _) (LOk.nil _ _ _ _ _) (ag (by kernel_rfl) h)
def mT (args:List PV) (H:ae) (K:PV→ae→Prop):Prop:=∃ n:Nat,ak args [.list [] .exact,.int .i64 n]∧n≤1000000∧(n=0→K (.list [] .exact) H)∧(0<n→∀(c:Nat) (J:List PV),n≤c→aJ J (c*1)→K (.arr H.length 0 0 c) (H++[.cells J]))
theorem oP:aO Tryd.prog gl 72 (.heap mT):=by
 rintro args H K ⟨n,he,hn,h0,h1⟩
 have he:args=_:=he
 subst he
 refine kr H n K ?_
 have e:wI ((n:Int)-0)=n:=by rw[a8 (by omega) (by omega)]; omega
 simp only[ay,dt,e,au]
 rw[if_neg (by omega)]
 by_cases c:n=0
 ·rw[if_neg (by omega)]; exact h0 c
 ·rw[if_pos (by omega)]
  refine⟨⟨by decide,by decide,by decide,by decide,fun _ h=>nomatch h⟩,by omega,by omega,fun k hk=>⟨⟨by decide,by decide,by omega,by omega⟩,?_⟩⟩
  rw[ite_self]
  exact h1 (by omega) k _ hk (gS k)
def lcs (l:List Int):List PV:=[.list (l.map i1) .no]
theorem kX (l:List Int):(lcs l).length=1:=rfl
theorem iV {n:Nat} (l:List Int):∀ y∈lcs l,Low n y:=bw (aQ l)
theorem ct (l:List (List Int)) (i:Nat):InL (l.map lcs) 1 (i:Int)=(i<l.length):=cW kX (by decide) l i
def be (ls:List (List Int)):Nat:=ls.flatten.length
theorem cJ {ls:List (List Int)} {k:Nat} (h:k<ls.length):be (ls.take (k+1))=be (ls.take k)+(ls.getD k []).length:=by
 unfold be; rw[aZ [] h,List.flatten_append]; simp
theorem ck (ls:List (List Int)) (k:Nat):be (ls.take k)≤be ls:=by
 unfold be
 conv=>rhs; rw[← List.take_append_drop k ls,List.flatten_append]
 rw[List.length_append]; omega
def TCG:Tab:=[(72,.heap mT)]
theorem o5:aB Tryd.prog gl TCG:= .cons oP (.nil _ _)
theorem oq (ls:List (List Int)) (n i:Nat):(by refine(?_:_→_→_→Prop) (PV.list (ls.map lcs) .no) (List.getD (ls.map lcs) (Int.toNat (i:Int)) []) (PV.int .i64 ls.length); exact fun a b f=>by refine(?_:_→_→Prop) [a,.int .i64 n,a,f,.int .i64 i] ((n:Int)+(↑(List.length (cL b 0)):Int)); exact fun c d=>∀(R:Ex→List PV→ae→Prop),(br (decide ((i:Int)<(ls.length:Int))) (InL (ls.map lcs) 1 (i:Int)∧br (true && aP [.list] 0 b) (br (decide (wI d<0)) False (R .normal [a,.int .i64 (wI d),a,f,.int .i64 (wI ((i:Int)+1))] [])) False) (R (.exit 0) c []))→Holds (wpc br Tryd.prog gl [] [] (fun _=>0) (an [1,1,0,1,0] (ai Tryd.f47)) [] (av [0,3,9,10,11] c) [] (fun ex e H=>R ex (List.map e [0,3,9,10,11]) H)):Prop):=fun R h=>ag (by kernel_rfl) h
theorem kO (ls:List (List Int)) (i:Nat):(by refine(?_:_→_→_→_→Prop) (List.getD (ls.map lcs) (Int.toNat (i:Int)) []) (PV.list (ls.map lcs) .no) (PV.int .i64 ls.length) (PV.int .i64 (wI ((i:Int)+1))); exact fun a c d f=>by refine(?_:_→Prop) [PV.list [] .exact,c,d,.int .i64 i]; exact fun b=>∀(R:Ex→List PV→ae→Prop),(br (decide ((i:Int)<(ls.length:Int))) (InL (ls.map lcs) 1 (i:Int)∧br (true && aP [.list] 0 a) (aX [] (cL a 0) 1 8∧List.all (List.flatten (cL a 0)) PV.one=true∧(cL a 0=[]→R .normal [.list [] .exact,c,d,f] [])∧(cL a 0≠[]→R .normal [.list ([]++cL a 0) (.tok 0),c,d,f] [.tok])) False) (R (.exit 2) b []))→Holds (wpc br Tryd.prog gl [] [] (fun o=>match o.dst with|some 33=>4|_=>0) (an [1,1,1,1,0,1,0] (ai Tryd.f47)) [] (av [6,25,26,27] b) [] (fun ex e H=>R ex (List.map e [6,25,26,27]) H)):Prop):=fun R h=>ag (by kernel_rfl) h
theorem kL (ls:List (List Int)) (acc:List Int) (J:List PV) (cap i:Nat):(by refine(?_:_→_→_→_→Prop) (List.getD (ls.map lcs) (Int.toNat (i:Int)) []) [Ob.cells (flR acc++J)] (PV.list (ls.map lcs) .no) (PV.int .i64 ls.length); exact fun a f g h=>by refine(?_:_→_→_→Prop) [PV.arr 0 0 acc.length cap,g,h,.int .i64 i] (List.flatten (cL a 0)) (acc.length+List.length (cL a 0)); exact fun b c d=>∀(R:Ex→List PV→ae→Prop),(br (decide ((i:Int)<(ls.length:Int))) (InL (ls.map lcs) 1 (i:Int)∧br (true && aP [.list] 0 a) ((acc.length≤cap∧0+cap*1≤List.length (flR acc++J)∧List.length c=List.length (cL a 0)*1∧List.all c PV.one=true∧d*8≤140737488355328)∧acc.length+List.length (cL a 0)≤cap∧R .normal [.arr 0 0 d cap,g,h,.int .i64 (wI ((i:Int)+1))] [.cells (over (flR acc++J) (0+acc.length*1) c)]) False) (R (.exit 2) b f))→Holds (wpc br Tryd.prog gl [] [] (fun o=>match o.dst with|some 33=>3|_=>0) (an [1,1,1,1,0,1,0] (ai Tryd.f47)) [] (av [6,25,26,27] b) f (fun ex e H=>R ex (List.map e [6,25,26,27]) H)):Prop):=fun R h=>ag (by kernel_rfl) h
theorem kv (l k:List Int):flR (l++k)=flR l++flR k:=by unfold flR; rw[List.map_append,List.flatten_append]
theorem iX {l:List Int}:∀ y∈flR l,y.one=true:=by
 intro y hy
 obtain⟨c,h2,h3⟩:=List.mem_flatten.1 hy
 obtain⟨a,_,rfl⟩:=List.mem_map.1 h2
 exact ie a y h3
theorem gf {acc l:List Int} {J:List PV}:over (flR acc++J) (acc.length*1) (flR l)=flR (acc++l)++J.drop (l.length*1):=by
 unfold over
 rw[List.take_left' (bJ acc),kv,List.append_assoc,List.append_assoc]
 congr 2
 rw[List.drop_append,bJ,bJ,List.drop_of_length_le (by rw[bJ]; omega),List.nil_append,show acc.length*1+l.length*1-acc.length*1=l.length*1 by omega]
def mC:LSp:=fun e H Q=>∃(ls:List (List Int)),ls.length≤1000000∧be ls≤1000000∧ak (List.map e [0,3,9,10,11]) [.list (ls.map lcs) .no,.int .i64 0,.list (ls.map lcs) .no,.int .i64 ls.length,.int .i64 0]∧az H []∧Q (.exit 0) (av [0,3,9,10,11] [.list (ls.map lcs) .no,.int .i64 (be ls),.list (ls.map lcs) .no,.int .i64 ls.length,.int .i64 ls.length]) []
theorem iA:∀ e H Q,mC e H Q→AW Tryd.prog gl Tryd.f47.ntmps (.loop (an [1,1,0,1,0] (ai Tryd.f47))) Q e H:=by
 rintro e H Q ⟨ls,hl,hs,he,hH,hQ⟩
 refine aG (hn:=fun _=>0) aq (.nil _ _) (.nil _ _ _ _ _) (σ:=Nat) [0,3,9,10,11] (fun i=>i≤ls.length) (fun i=>[.list (ls.map lcs) .no,.int .i64 (be (ls.take i)),.list (ls.map lcs) .no,.int .i64 ls.length,.int .i64 i]) (fun _=>[]) (fun i=>ls.length-i) 0 (Nat.zero_le _) (by rw[he]; rfl) hH ?_
 intro i hi
 have hi:i≤ls.length:=hi
 refine oq ls (be (ls.take i)) i _ ?_
 have h3:=ck ls i
 simp only[ay,dt,au,ct]
 by_cases h:i<ls.length
 ·rw[if_pos (by omega)]
  have h4:=ck ls (i+1)
  have e1:=cJ h
  simp only[getD_map [] h]
  refine⟨h,?_⟩
  rw[if_pos (by rfl)]
  have c0:cL (lcs (ls.getD i [])) 0=(ls.getD i []).map i1:=rfl
  have e2:wI ((be (ls.take i):Int)+(((ls.getD i []).map i1).length:Int))=(be (ls.take (i+1)):Int):=by rw[List.length_map,a8 (by omega) (by omega)]; omega
  rw[c0,e2,if_neg (by omega)]
  exact⟨i+1,(show ls.length-(i+1)<ls.length-i by omega),h,by rw[ax h (by omega)],[],rfl,Nat.le_refl _,.inl rfl⟩
 ·rw[if_neg (by omega)]
  have:i=ls.length:=by omega
  subst this
  rw[List.take_length]
  exact hQ
def mB:LSp:=fun e H Q=>∃(ls:List (List Int)),ls.length≤1000000∧be ls≤1000000∧
 ((be ls=0∧ak (List.map e [6,25,26,27]) [.list [] .exact,.list (ls.map lcs) .no,.int .i64 ls.length,.int .i64 0]∧az H []∧Q (.exit 2) (av [6,25,26,27] [.list [] .exact,.list (ls.map lcs) .no,.int .i64 ls.length,.int .i64 ls.length]) [])∨
  (∃(cap:Nat) (J:List PV),be ls≤cap∧aJ J (cap*1)∧ak (List.map e [6,25,26,27]) [.arr 0 0 0 cap,.list (ls.map lcs) .no,.int .i64 ls.length,.int .i64 0]∧az H [.cells J]∧∀ J',aJ J' ((cap-ls.flatten.length)*1)→Q (.exit 2) (av [6,25,26,27] [.arr 0 0 ls.flatten.length cap,.list (ls.map lcs) .no,.int .i64 ls.length,.int .i64 ls.length]) [.cells (flR ls.flatten++J')]))
theorem iC:∀ e H Q,mB e H Q→AW Tryd.prog gl Tryd.f47.ntmps (.loop (an [1,1,1,1,0,1,0] (ai Tryd.f47))) Q e H:=by
 rintro e H Q ⟨ls,hl,hs,(⟨h0,he,hH,hQ⟩|⟨cap,J,hc,hJ,he,hH,hQ⟩)⟩
 ·refine aG (hn:=fun o=>match o.dst with|some 33=>4|_=>0) aq (.nil _ _) (.nil _ _ _ _ _) (σ:=Nat) [6,25,26,27] (fun i=>i≤ls.length) (fun i=>[.list [] .exact,.list (ls.map lcs) .no,.int .i64 ls.length,.int .i64 i]) (fun _=>[]) (fun i=>ls.length-i) 0 (Nat.zero_le _) (by rw[he]; rfl) hH ?_
  intro i hi
  have hi:i≤ls.length:=hi
  refine kO ls i _ ?_
  simp only[ay,dt,au,ct]
  by_cases h:i<ls.length
  ·rw[if_pos (by omega)]
   have h4:=ck ls (i+1)
   have e1:=cJ h
   simp only[getD_map [] h]
   refine⟨h,?_⟩
   rw[if_pos (by rfl)]
   have c0:cL (lcs (ls.getD i [])) 0=(ls.getD i []).map i1:=rfl
   have c1:ls.getD i []=[]:=List.length_eq_zero_iff.1 (by omega)
   rw[c0,c1]
   exact⟨⟨(fun _ h=>nomatch h),(fun _ h=>nomatch h),by decide⟩,rfl,fun _=>⟨i+1,(show ls.length-(i+1)<ls.length-i by omega),h,by rw[ax h (by omega)],[],rfl,Nat.le_refl _,.inl rfl⟩,fun h=>absurd rfl h⟩
  ·rw[if_neg (by omega)]
   have:i=ls.length:=by omega
   subst this
   exact hQ
 ·refine aG (hn:=fun o=>match o.dst with|some 33=>3|_=>0) aq (.nil _ _) (.nil _ _ _ _ _) (σ:=Nat) [6,25,26,27] (fun i=>i≤ls.length) (fun i=>[.arr 0 0 (ls.take i).flatten.length cap,.list (ls.map lcs) .no,.int .i64 ls.length,.int .i64 i]) (fun i=>[.cells (flR (ls.take i).flatten++J.drop ((ls.take i).flatten.length*1))]) (fun i=>ls.length-i) 0 (Nat.zero_le _) (by rw[he]; rfl) (by rw[show H=_ from hH]; simp[flR]) ?_
  intro i hi
  have hi:i≤ls.length:=hi
  refine kL ls (ls.take i).flatten (J.drop ((ls.take i).flatten.length*1)) cap i _ ?_
  simp only[ay,dt,au,ct]
  have h3:=ck ls i
  have hJl:=hJ.len
  have h5:(ls.take i).flatten.length≤cap:=Nat.le_trans h3 hc
  by_cases h:i<ls.length
  ·rw[if_pos (by omega)]
   have h4:=ck ls (i+1)
   have e1:=cJ h
   simp only[getD_map [] h]
   refine⟨h,?_⟩
   rw[if_pos (by rfl)]
   have c0:cL (lcs (ls.getD i [])) 0=(ls.getD i []).map i1:=rfl
   obtain⟨l,hld⟩:∃ l,l=ls.getD i []:=⟨_,rfl⟩
   have e4:(ls.take (i+1)).flatten=(ls.take i).flatten++l:=by rw[aZ [] h,List.flatten_append,hld]; simp
   have e5:(ls.take (i+1)).flatten.length=(ls.take i).flatten.length+l.length:=by rw[e4,List.length_append]
   have e6:(ls.take (i+1)).flatten.length≤cap:=Nat.le_trans h4 hc
   have e7:be (ls.take (i+1))=(ls.take (i+1)).flatten.length:=rfl
   have e8:(J.drop ((ls.take i).flatten.length*1)).length=(cap-(ls.take i).flatten.length)*1:=by rw[List.length_drop,hJl]; omega
   have e9:(List.map i1 l).flatten.length=l.length*1:=bJ l
   rw[c0,← hld]
   simp only[List.length_map,e9]
   refine⟨⟨h5,?_,trivial,List.all_eq_true.2 iX,by omega⟩,by omega,i+1,(show ls.length-(i+1)<ls.length-i by omega),h,by(try dsimp only); rw[ax h (by omega),e5],[],?_,Nat.le_refl _,.inl rfl⟩
   ·rw[List.length_append,bJ,e8]; omega
   ·(try dsimp only)
    rw[Nat.zero_add,gf,e4,List.drop_drop,List.append_nil,List.length_append,Nat.add_mul]
  ·rw[if_neg (by omega)]
   have:i=ls.length:=by omega
   subst this
   rw[List.take_length]
   exact hQ _ (hJ.drop.cast (by omega))
theorem fH (ls:List (List Int)):∀(K:PV→ae→Prop),(∃(ls_1:List (List Int)),by refine(?_:_→_→Prop) (PV.list (ls_1.map lcs) .no) (PV.int .i64 (↑(List.length (ls_1.map lcs)):Int)); exact fun d e=>by refine(?_:_→Prop) [PV.list [] .exact,d,e,.int .i64 0]; exact fun b=>ls_1.length≤1000000∧be ls_1≤1000000∧ak [.list (ls.map lcs) .no,.int .i64 0,.list (ls.map lcs) .no,.int .i64 (↑(List.length (ls.map lcs)):Int),.int .i64 0] [d,.int .i64 0,d,.int .i64 ls_1.length,.int .i64 0]∧az [] []∧∃(n:Nat),ak [.list [] .exact,.int .i64 (↑(be ls_1):Int)] [.list [] .exact,.int .i64 n]∧n≤1000000∧(n=0→∃(ls:List (List Int)),ls.length≤1000000∧be ls≤1000000∧(be ls=0∧ak b [.list [] .exact,.list (ls.map lcs) .no,.int .i64 ls.length,.int .i64 0]∧az [] []∧K (.list [] .exact) []∨∃(cap:Nat) (J:List PV),be ls≤cap∧aJ J (cap*1)∧ak b [.arr 0 0 0 cap,.list (ls.map lcs) .no,.int .i64 ls.length,.int .i64 0]∧az [] [.cells J]∧∀(J':List PV),aJ J' ((cap-ls.flatten.length)*1)→K (.arr 0 0 ls.flatten.length cap) [.cells (flR ls.flatten++J')]))∧(0<n→∀(c:Nat),by refine(?_:_→Prop) [PV.arr 0 0 0 c,d,e,.int .i64 0]; exact fun a=>∀(J:List PV),n≤c→aJ J (c*1)→∃(ls:List (List Int)),ls.length≤1000000∧be ls≤1000000∧(be ls=0∧ak a [.list [] .exact,.list (ls.map lcs) .no,.int .i64 ls.length,.int .i64 0]∧az [.cells J] []∧K (.list [] .exact) []∨∃(cap:Nat) (J_1:List PV),be ls≤cap∧aJ J_1 (cap*1)∧ak a [.arr 0 0 0 cap,.list (ls.map lcs) .no,.int .i64 ls.length,.int .i64 0]∧az [.cells J] [.cells J_1]∧∀(J':List PV),aJ J' ((cap-ls.flatten.length)*1)→K (.arr 0 0 ls.flatten.length cap) [.cells (flR ls.flatten++J')])))→aj Tryd.prog gl 47 [.list (ls.map lcs) .no] [] K:=fun K h=>ah (T:=TCG) (L:=[([1,1,0,1,0],mC),([1,1,1,1,0,1,0],mB)]) (fun _=>0) Tryd.func47 (by kernel_rfl) (by kernel_rfl) (by kernel_rfl) (o5) (.cons (aH (by kernel_rfl)) iA (.cons (aH (by kernel_rfl)) iC (.nil _ _ _ _ _))) (ag (by kernel_rfl) h)
theorem rH (ls:List (List Int)) (hl:ls.length≤1000000) (hs:be ls≤1000000):aj Tryd.prog gl 47 [.list (ls.map lcs) .no] [] (fun x _=>x = .list (ls.flatten.map i1) .no):=by
 have e0:(List.map lcs ls).length=ls.length:=List.length_map _
 by_cases c:be ls=0
 ·refine bA (fH ls _ ⟨ls,hl,hs,(by show _=_; rw[e0]),rfl,be ls,rfl,hs,fun _=>⟨ls,hl,hs,.inl ⟨c,(by show _=_; rw[e0]),rfl,?_⟩⟩,fun h=>absurd c (by omega)⟩)
  have e:ls.flatten=[]:=List.length_eq_zero_iff.1 c
  rw[e]
  exact⟨_,.list _ _,rfl⟩
 ·refine bS (fH ls _ ⟨ls,hl,hs,(by show _=_; rw[e0]),rfl,be ls,rfl,hs,fun h=>absurd h c,fun h cap J hc hJ=>⟨ls,hl,hs,.inr ⟨cap,J,hc,hJ,(by show _=_; rw[e0]),rfl,fun J' hJ'=>?_⟩⟩⟩)
  refine⟨0,0,1,[],J',ls.flatten.map i1,.list (ls.flatten.map i1) .no,[.dead],rfl,rfl,b9 jO _,⟨rfl,fun i b hb=> .inl ?_⟩,?_,rfl⟩
  ·have k1:=(List.getElem?_eq_some_iff.1 hb).1
   simp at k1
   subst k1
   cases hb; rfl
  ·have:=Fz.arr (o:=0) (off:=0) (es:=ls.flatten.map i1) cap (by rw[List.length_map]; exact hc)
   rw[List.length_map] at this
   exact this
def mv (args:List PV) (K:PV→Prop):Prop:=∃(a b:List Int),ak args [.list [[.list (a.map i1) .no],[.list (b.map i1) .no]] .exact]∧a.length+b.length≤1000000∧K (.list ((a++b).map i1) .no)
theorem o4:aO Tryd.prog gl 47 (.pure mv):=by
 rintro args K ⟨a,b,he,h,hk⟩
 have he:args=_:=he
 subst he
 have hf:[a,b].flatten=a++b:=by simp
 have hl:=rH [a,b] (by simp) (by unfold be; rw[hf,List.length_append]; exact h)
 rw[hf] at hl
 exact bH aq (.cons (.list _ _) .nil) (bw (bD iV [a,b])) (aQ _) hl hk
end CI
end Go.Proofs.YtenaelaapdhbdaaDoor
