/-
  Lists joined.
-/
import Derived.Test.YtenaelaapdhbdaaDoorDbc
import Derived.Test.YtenaelaapdhbdaaDoorProg
namespace Go.Proofs.YtenaelaapdhbdaaDoor
open Go Go.AM Go.Proofs
def i1 (n:Int):List PV:=[.int .i64 n]
theorem oA (n:Int):(i1 n).length=1:=rfl
theorem ke {k:Nat} (n:Int):∀ y∈i1 n,Low k y:=bF (.int _ _)
theorem mj (n:Int):∀ y∈i1 n,y.one=true:=by intro y hy; rcases List.mem_singleton.1 hy with rfl; rfl
theorem B8 (l:List Int) (i:Nat):InL (l.map i1) 1 (i:Int)=(i<l.length):=dA oA (by decide) l i
namespace CU
abbrev flR (l:List Int):List PV:=(l.map u1).flatten
theorem bW (l:List Int):(flR l).length=l.length*1:=bD dz l
theorem gU (c:Nat):Room (List.replicate c [PV.int .u32 0]).flatten (c*1):=by
 refine⟨by simp,fun x hx=>?_,fun x hx=>?_⟩<;>simp at hx<;>rcases hx with⟨_,rfl⟩<;>first|rfl|exact .int _ _
theorem aR {n:Nat} (l:List Int):Low n (.list (l.map u1) .no):=bB bU l
theorem lD (H:ag) (n:Int)  (K:PV→ag→Prop) (h:br (decide (n<0)) False (br (decide (wI (n-0)>0)) ((iI 0≤0∧iI 0≤0∧iI 0≤0∧iI 0≤0∧uni 1 [])∧0<wI (n-0)∧Int.toNat (wI (n-0))*4≤140737488355328∧∀(c:Nat),Int.toNat (wI (n-0))≤c→(iI 0≤0∧iI 0≤0∧0≤(c:Int)∧(c:Int)≤(c:Int))∧K (.arr (List.length H) (if Int.toNat (c:Int)=0 then 0 else 0) 0 (Int.toNat (c:Int)-0)) (H++[.cells (List.flatten (List.replicate c [.int .u32 0]))])) (K (.list [] .exact) H))):an Tryd.prog gl 71 [.list [] .exact,.int .i64 n] H K:=
 ai (T:=[]) (L:=[]) (fun o=>match o.dst with|some 22=>8|_=>0) Tryd.func71 (by kernel_rfl) (by kernel_rfl) (by kernel_rfl) (aE.nil _ _) (LOk.nil _ _ _ _ _) (ah (by kernel_rfl) h)
def nh (args:List PV) (H:ag) (K:PV→ag→Prop):Prop:=∃ n:Nat,ak args [.list [] .exact,.int .i64 n]∧n≤1000000∧(n=0→K (.list [] .exact) H)∧(0<n→∀(c:Nat) (J:List PV),n≤c→Room J (c*1)→K (.arr H.length 0 0 c) (H++[.cells J]))
theorem o6:aQ Tryd.prog gl 71 (.heap nh):=by
 rintro args H K ⟨n,he,hn,h0,h1⟩
 have he:args=_:=he
 subst he
 refine lD H n K ?_
 have e:wI ((n:Int)-0)=n:=by rw[bl (by omega) (by omega)]; omega
 simp only[az,dt,e,au]
 rw[if_neg (by omega)]
 by_cases c:n=0
 ·rw[if_neg (by omega)]; exact h0 c
 ·rw[if_pos (by omega)]
  refine⟨⟨by decide,by decide,by decide,by decide,fun _ h=>nomatch h⟩,by omega,by omega,fun k hk=>⟨⟨by decide,by decide,by omega,by omega⟩,?_⟩⟩
  rw[ite_self]
  exact h1 (by omega) k _ hk (gU k)
def lcs (l:List Int):List PV:=[.list (l.map u1) .no]
theorem kX (l:List Int):(lcs l).length=1:=rfl
theorem jr {n:Nat} (l:List Int):∀ y∈lcs l,Low n y:=bF (aR l)
theorem cE (l:List (List Int)) (i:Nat):InL (l.map lcs) 1 (i:Int)=(i<l.length):=dA kX (by decide) l i
def bq (ls:List (List Int)):Nat:=ls.flatten.length
theorem cM {ls:List (List Int)} {k:Nat} (h:k<ls.length):bq (ls.take (k+1))=bq (ls.take k)+(ls.getD k []).length:=by
 unfold bq; rw[bh [] h,List.flatten_append]; simp
theorem cF (ls:List (List Int)) (k:Nat):bq (ls.take k)≤bq ls:=by
 unfold bq
 conv=>rhs; rw[← List.take_append_drop k ls,List.flatten_append]
 rw[List.length_append]; omega
def TCG:Tab:=[(71,.heap nh)]
theorem oL:aE Tryd.prog gl TCG:= .cons o6 (.nil _ _)
theorem pP (ls:List (List Int)) (n i:Nat):(by refine(?_:_→_→_→Prop) (PV.list (ls.map lcs) .no) (List.getD (ls.map lcs) (Int.toNat (i:Int)) []) (PV.int .i64 ls.length); exact fun a b f=>by refine(?_:_→_→Prop) [a,.int .i64 n,a,f,.int .i64 i] ((n:Int)+(↑(List.length (cL b 0)):Int)); exact fun c d=>∀(R:Ex→List PV→ag→Prop),(br (decide ((i:Int)<(ls.length:Int))) (InL (ls.map lcs) 1 (i:Int)∧br (true && aH [.list] 0 b) (br (decide (wI d<0)) False (R .normal [a,.int .i64 (wI d),a,f,.int .i64 (wI ((i:Int)+1))] [])) False) (R (.exit 0) c []))→Holds (wpc br Tryd.prog gl [] [] (fun _=>0) (av [1,1,0,1,0] (aj Tryd.f46)) [] (ax [0,3,9,10,11] c) [] (fun ex e H=>R ex (List.map e [0,3,9,10,11]) H)):Prop):=fun R h=>ah (by kernel_rfl) h
theorem kI (ls:List (List Int)) (i:Nat):(by refine(?_:_→_→_→_→Prop) (List.getD (ls.map lcs) (Int.toNat (i:Int)) []) (PV.list (ls.map lcs) .no) (PV.int .i64 ls.length) (PV.int .i64 (wI ((i:Int)+1))); exact fun a c d f=>by refine(?_:_→Prop) [PV.list [] .exact,c,d,.int .i64 i]; exact fun b=>∀(R:Ex→List PV→ag→Prop),(br (decide ((i:Int)<(ls.length:Int))) (InL (ls.map lcs) 1 (i:Int)∧br (true && aH [.list] 0 a) (bf [] (cL a 0) 1 4∧List.all (List.flatten (cL a 0)) PV.one=true∧(cL a 0=[]→R .normal [.list [] .exact,c,d,f] [])∧(cL a 0≠[]→R .normal [.list ([]++cL a 0) (.tok 0),c,d,f] [.tok])) False) (R (.exit 2) b []))→Holds (wpc br Tryd.prog gl [] [] (fun o=>match o.dst with|some 33=>4|_=>0) (av [1,1,1,1,0,1,0] (aj Tryd.f46)) [] (ax [6,25,26,27] b) [] (fun ex e H=>R ex (List.map e [6,25,26,27]) H)):Prop):=fun R h=>ah (by kernel_rfl) h
theorem kG (ls:List (List Int)) (acc:List Int) (J:List PV) (cap i:Nat):(by refine(?_:_→_→_→_→Prop) (List.getD (ls.map lcs) (Int.toNat (i:Int)) []) [Ob.cells (flR acc++J)] (PV.list (ls.map lcs) .no) (PV.int .i64 ls.length); exact fun a f g h=>by refine(?_:_→_→_→Prop) [PV.arr 0 0 acc.length cap,g,h,.int .i64 i] (List.flatten (cL a 0)) (acc.length+List.length (cL a 0)); exact fun b c d=>∀(R:Ex→List PV→ag→Prop),(br (decide ((i:Int)<(ls.length:Int))) (InL (ls.map lcs) 1 (i:Int)∧br (true && aH [.list] 0 a) ((acc.length≤cap∧0+cap*1≤List.length (flR acc++J)∧List.length c=List.length (cL a 0)*1∧List.all c PV.one=true∧d*4≤140737488355328)∧acc.length+List.length (cL a 0)≤cap∧R .normal [.arr 0 0 d cap,g,h,.int .i64 (wI ((i:Int)+1))] [.cells (over (flR acc++J) (0+acc.length*1) c)]) False) (R (.exit 2) b f))→Holds (wpc br Tryd.prog gl [] [] (fun o=>match o.dst with|some 33=>3|_=>0) (av [1,1,1,1,0,1,0] (aj Tryd.f46)) [] (ax [6,25,26,27] b) f (fun ex e H=>R ex (List.map e [6,25,26,27]) H)):Prop):=fun R h=>ah (by kernel_rfl) h
theorem lg (l k:List Int):flR (l++k)=flR l++flR k:=by unfold flR; rw[List.map_append,List.flatten_append]
theorem jo {l:List Int}:∀ y∈flR l,y.one=true:=by
 intro y hy
 obtain⟨c,h2,h3⟩:=List.mem_flatten.1 hy
 obtain⟨a,_,rfl⟩:=List.mem_map.1 h2
 exact ef a y h3
theorem gE {acc l:List Int} {J:List PV}:over (flR acc++J) (acc.length*1) (flR l)=flR (acc++l)++J.drop (l.length*1):=by
 unfold over
 rw[List.take_left' (bW acc),lg,List.append_assoc,List.append_assoc]
 congr 2
 rw[List.drop_append,bW,bW,List.drop_of_length_le (by rw[bW]; omega),List.nil_append,show acc.length*1+l.length*1-acc.length*1=l.length*1 by omega]
def nk:LSp:=fun e H Q=>∃(ls:List (List Int)),ls.length≤1000000∧bq ls≤1000000∧ak (List.map e [0,3,9,10,11]) [.list (ls.map lcs) .no,.int .i64 0,.list (ls.map lcs) .no,.int .i64 ls.length,.int .i64 0]∧aC H []∧Q (.exit 0) (ax [0,3,9,10,11] [.list (ls.map lcs) .no,.int .i64 (bq ls),.list (ls.map lcs) .no,.int .i64 ls.length,.int .i64 ls.length]) []
theorem iT:∀ e H Q,nk e H Q→AW Tryd.prog gl Tryd.f46.ntmps (.loop (av [1,1,0,1,0] (aj Tryd.f46))) Q e H:=by
 rintro e H Q ⟨ls,hl,hs,he,hH,hQ⟩
 refine aL (hn:=fun _=>0) ay (.nil _ _) (.nil _ _ _ _ _) (σ:=Nat) [0,3,9,10,11] (fun i=>i≤ls.length) (fun i=>[.list (ls.map lcs) .no,.int .i64 (bq (ls.take i)),.list (ls.map lcs) .no,.int .i64 ls.length,.int .i64 i]) (fun _=>[]) (fun i=>ls.length-i) 0 (Nat.zero_le _) (by rw[he]; rfl) hH ?_
 intro i hi
 have hi:i≤ls.length:=hi
 refine pP ls (bq (ls.take i)) i _ ?_
 have h3:=cF ls i
 simp only[az,dt,au,cE]
 by_cases h:i<ls.length
 ·rw[if_pos (by omega)]
  have h4:=cF ls (i+1)
  have e1:=cM h
  simp only[getD_map [] h]
  refine⟨h,?_⟩
  rw[if_pos (by rfl)]
  have c0:cL (lcs (ls.getD i [])) 0=(ls.getD i []).map u1:=rfl
  have e2:wI ((bq (ls.take i):Int)+(((ls.getD i []).map u1).length:Int))=(bq (ls.take (i+1)):Int):=by rw[List.length_map,bl (by omega) (by omega)]; omega
  rw[c0,e2,if_neg (by omega)]
  exact⟨i+1,(show ls.length-(i+1)<ls.length-i by omega),h,by rw[aA h (by omega)],[],rfl,Nat.le_refl _,.inl rfl⟩
 ·rw[if_neg (by omega)]
  have:i=ls.length:=by omega
  subst this
  rw[List.take_length]
  exact hQ
def nx:LSp:=fun e H Q=>∃(ls:List (List Int)),ls.length≤1000000∧bq ls≤1000000∧
 ((bq ls=0∧ak (List.map e [6,25,26,27]) [.list [] .exact,.list (ls.map lcs) .no,.int .i64 ls.length,.int .i64 0]∧aC H []∧Q (.exit 2) (ax [6,25,26,27] [.list [] .exact,.list (ls.map lcs) .no,.int .i64 ls.length,.int .i64 ls.length]) [])∨
  (∃(cap:Nat) (J:List PV),bq ls≤cap∧Room J (cap*1)∧ak (List.map e [6,25,26,27]) [.arr 0 0 0 cap,.list (ls.map lcs) .no,.int .i64 ls.length,.int .i64 0]∧aC H [.cells J]∧∀ J',Room J' ((cap-ls.flatten.length)*1)→Q (.exit 2) (ax [6,25,26,27] [.arr 0 0 ls.flatten.length cap,.list (ls.map lcs) .no,.int .i64 ls.length,.int .i64 ls.length]) [.cells (flR ls.flatten++J')]))
theorem iO:∀ e H Q,nx e H Q→AW Tryd.prog gl Tryd.f46.ntmps (.loop (av [1,1,1,1,0,1,0] (aj Tryd.f46))) Q e H:=by
 rintro e H Q ⟨ls,hl,hs,(⟨h0,he,hH,hQ⟩|⟨cap,J,hc,hJ,he,hH,hQ⟩)⟩
 ·refine aL (hn:=fun o=>match o.dst with|some 33=>4|_=>0) ay (.nil _ _) (.nil _ _ _ _ _) (σ:=Nat) [6,25,26,27] (fun i=>i≤ls.length) (fun i=>[.list [] .exact,.list (ls.map lcs) .no,.int .i64 ls.length,.int .i64 i]) (fun _=>[]) (fun i=>ls.length-i) 0 (Nat.zero_le _) (by rw[he]; rfl) hH ?_
  intro i hi
  have hi:i≤ls.length:=hi
  refine kI ls i _ ?_
  simp only[az,dt,au,cE]
  by_cases h:i<ls.length
  ·rw[if_pos (by omega)]
   have h4:=cF ls (i+1)
   have e1:=cM h
   simp only[getD_map [] h]
   refine⟨h,?_⟩
   rw[if_pos (by rfl)]
   have c0:cL (lcs (ls.getD i [])) 0=(ls.getD i []).map u1:=rfl
   have c1:ls.getD i []=[]:=List.length_eq_zero_iff.1 (by omega)
   rw[c0,c1]
   exact⟨⟨(fun _ h=>nomatch h),(fun _ h=>nomatch h),by decide⟩,rfl,fun _=>⟨i+1,(show ls.length-(i+1)<ls.length-i by omega),h,by rw[aA h (by omega)],[],rfl,Nat.le_refl _,.inl rfl⟩,fun h=>absurd rfl h⟩
  ·rw[if_neg (by omega)]
   have:i=ls.length:=by omega
   subst this
   exact hQ
 ·refine aL (hn:=fun o=>match o.dst with|some 33=>3|_=>0) ay (.nil _ _) (.nil _ _ _ _ _) (σ:=Nat) [6,25,26,27] (fun i=>i≤ls.length) (fun i=>[.arr 0 0 (ls.take i).flatten.length cap,.list (ls.map lcs) .no,.int .i64 ls.length,.int .i64 i]) (fun i=>[.cells (flR (ls.take i).flatten++J.drop ((ls.take i).flatten.length*1))]) (fun i=>ls.length-i) 0 (Nat.zero_le _) (by rw[he]; rfl) (by rw[show H=_ from hH]; simp[flR]) ?_
  intro i hi
  have hi:i≤ls.length:=hi
  refine kG ls (ls.take i).flatten (J.drop ((ls.take i).flatten.length*1)) cap i _ ?_
  simp only[az,dt,au,cE]
  have h3:=cF ls i
  have hJl:=hJ.len
  have h5:(ls.take i).flatten.length≤cap:=Nat.le_trans h3 hc
  by_cases h:i<ls.length
  ·rw[if_pos (by omega)]
   have h4:=cF ls (i+1)
   have e1:=cM h
   simp only[getD_map [] h]
   refine⟨h,?_⟩
   rw[if_pos (by rfl)]
   have c0:cL (lcs (ls.getD i [])) 0=(ls.getD i []).map u1:=rfl
   obtain⟨l,hld⟩:∃ l,l=ls.getD i []:=⟨_,rfl⟩
   have e4:(ls.take (i+1)).flatten=(ls.take i).flatten++l:=by rw[bh [] h,List.flatten_append,hld]; simp
   have e5:(ls.take (i+1)).flatten.length=(ls.take i).flatten.length+l.length:=by rw[e4,List.length_append]
   have e6:(ls.take (i+1)).flatten.length≤cap:=Nat.le_trans h4 hc
   have e7:bq (ls.take (i+1))=(ls.take (i+1)).flatten.length:=rfl
   have e8:(J.drop ((ls.take i).flatten.length*1)).length=(cap-(ls.take i).flatten.length)*1:=by rw[List.length_drop,hJl]; omega
   have e9:(List.map u1 l).flatten.length=l.length*1:=bW l
   rw[c0,← hld]
   simp only[List.length_map,e9]
   refine⟨⟨h5,?_,trivial,List.all_eq_true.2 jo,by omega⟩,by omega,i+1,(show ls.length-(i+1)<ls.length-i by omega),h,by(try dsimp only); rw[aA h (by omega),e5],[],?_,Nat.le_refl _,.inl rfl⟩
   ·rw[List.length_append,bW,e8]; omega
   ·(try dsimp only)
    rw[Nat.zero_add,gE,e4,List.drop_drop,List.append_nil,List.length_append,Nat.add_mul]
  ·rw[if_neg (by omega)]
   have:i=ls.length:=by omega
   subst this
   rw[List.take_length]
   exact hQ _ (hJ.drop.cast (by omega))
theorem ga (ls:List (List Int)):∀(K:PV→ag→Prop),(∃(ls_1:List (List Int)),by refine(?_:_→_→Prop) (PV.list (ls_1.map lcs) .no) (PV.int .i64 (↑(List.length (ls_1.map lcs)):Int)); exact fun d e=>by refine(?_:_→Prop) [PV.list [] .exact,d,e,.int .i64 0]; exact fun b=>ls_1.length≤1000000∧bq ls_1≤1000000∧ak [.list (ls.map lcs) .no,.int .i64 0,.list (ls.map lcs) .no,.int .i64 (↑(List.length (ls.map lcs)):Int),.int .i64 0] [d,.int .i64 0,d,.int .i64 ls_1.length,.int .i64 0]∧aC [] []∧∃(n:Nat),ak [.list [] .exact,.int .i64 (↑(bq ls_1):Int)] [.list [] .exact,.int .i64 n]∧n≤1000000∧(n=0→∃(ls:List (List Int)),ls.length≤1000000∧bq ls≤1000000∧(bq ls=0∧ak b [.list [] .exact,.list (ls.map lcs) .no,.int .i64 ls.length,.int .i64 0]∧aC [] []∧K (.list [] .exact) []∨∃(cap:Nat) (J:List PV),bq ls≤cap∧Room J (cap*1)∧ak b [.arr 0 0 0 cap,.list (ls.map lcs) .no,.int .i64 ls.length,.int .i64 0]∧aC [] [.cells J]∧∀(J':List PV),Room J' ((cap-ls.flatten.length)*1)→K (.arr 0 0 ls.flatten.length cap) [.cells (flR ls.flatten++J')]))∧(0<n→∀(c:Nat),by refine(?_:_→Prop) [PV.arr 0 0 0 c,d,e,.int .i64 0]; exact fun a=>∀(J:List PV),n≤c→Room J (c*1)→∃(ls:List (List Int)),ls.length≤1000000∧bq ls≤1000000∧(bq ls=0∧ak a [.list [] .exact,.list (ls.map lcs) .no,.int .i64 ls.length,.int .i64 0]∧aC [.cells J] []∧K (.list [] .exact) []∨∃(cap:Nat) (J_1:List PV),bq ls≤cap∧Room J_1 (cap*1)∧ak a [.arr 0 0 0 cap,.list (ls.map lcs) .no,.int .i64 ls.length,.int .i64 0]∧aC [.cells J] [.cells J_1]∧∀(J':List PV),Room J' ((cap-ls.flatten.length)*1)→K (.arr 0 0 ls.flatten.length cap) [.cells (flR ls.flatten++J')])))→an Tryd.prog gl 46 [.list (ls.map lcs) .no] [] K:=fun K h=>ai (T:=TCG) (L:=[([1,1,0,1,0],nk),([1,1,1,1,0,1,0],nx)]) (fun _=>0) Tryd.func46 (by kernel_rfl) (by kernel_rfl) (by kernel_rfl) (oL) (.cons (aK (by kernel_rfl)) iT (.cons (aK (by kernel_rfl)) iO (.nil _ _ _ _ _))) (ah (by kernel_rfl) h)
theorem ta (ls:List (List Int)) (hl:ls.length≤1000000) (hs:bq ls≤1000000):an Tryd.prog gl 46 [.list (ls.map lcs) .no] [] (fun x _=>x = .list (ls.flatten.map u1) .no):=by
 have e0:(List.map lcs ls).length=ls.length:=List.length_map _
 by_cases c:bq ls=0
 ·refine bC (ga ls _ ⟨ls,hl,hs,(by show _=_; rw[e0]),rfl,bq ls,rfl,hs,fun _=>⟨ls,hl,hs,.inl ⟨c,(by show _=_; rw[e0]),rfl,?_⟩⟩,fun h=>absurd c (by omega)⟩)
  have e:ls.flatten=[]:=List.length_eq_zero_iff.1 c
  rw[e]
  exact⟨_,.list _ _,rfl⟩
 ·refine b8 (ga ls _ ⟨ls,hl,hs,(by show _=_; rw[e0]),rfl,bq ls,rfl,hs,fun h=>absurd h c,fun h cap J hc hJ=>⟨ls,hl,hs,.inr ⟨cap,J,hc,hJ,(by show _=_; rw[e0]),rfl,fun J' hJ'=>?_⟩⟩⟩)
  refine⟨0,0,1,[],J',ls.flatten.map u1,.list (ls.flatten.map u1) .no,[.dead],rfl,rfl,ct dz _,⟨rfl,fun i b hb=> .inl ?_⟩,?_,rfl⟩
  ·have k1:=(List.getElem?_eq_some_iff.1 hb).1
   simp at k1
   subst k1
   cases hb; rfl
  ·have:=Fz.arr (o:=0) (off:=0) (es:=ls.flatten.map u1) cap (by rw[List.length_map]; exact hc)
   rw[List.length_map] at this
   exact this
def nB (args:List PV) (K:PV→Prop):Prop:=∃(a b:List Int),ak args [.list [[.list (a.map u1) .no],[.list (b.map u1) .no]] .exact]∧a.length+b.length≤1000000∧K (.list ((a++b).map u1) .no)
theorem pO:aQ Tryd.prog gl 46 (.pure nB):=by
 rintro args K ⟨a,b,he,h,hk⟩
 have he:args=_:=he
 subst he
 have hf:[a,b].flatten=a++b:=by simp
 have hl:=ta [a,b] (by simp) (by unfold bq; rw[hf,List.length_append]; exact h)
 rw[hf] at hl
 exact bS ay (.cons (.list _ _) .nil) (bF (bB jr [a,b])) (aR _) hl hk
end CU
namespace CI
abbrev flR (l:List Int):List PV:=(l.map i1).flatten
theorem bW (l:List Int):(flR l).length=l.length*1:=bD oA l
theorem gU (c:Nat):Room (List.replicate c [PV.int .i64 0]).flatten (c*1):=by
 refine⟨by simp,fun x hx=>?_,fun x hx=>?_⟩<;>simp at hx<;>rcases hx with⟨_,rfl⟩<;>first|rfl|exact .int _ _
theorem aR {n:Nat} (l:List Int):Low n (.list (l.map i1) .no):=bB ke l
theorem lD (H:ag) (n:Int)  (K:PV→ag→Prop) (h:br (decide (n<0)) False (br (decide (wI (n-0)>0)) ((iI 0≤0∧iI 0≤0∧iI 0≤0∧iI 0≤0∧uni 1 [])∧0<wI (n-0)∧Int.toNat (wI (n-0))*8≤140737488355328∧∀(c:Nat),Int.toNat (wI (n-0))≤c→(iI 0≤0∧iI 0≤0∧0≤(c:Int)∧(c:Int)≤(c:Int))∧K (.arr (List.length H) (if Int.toNat (c:Int)=0 then 0 else 0) 0 (Int.toNat (c:Int)-0)) (H++[.cells (List.flatten (List.replicate c [.int .i64 0]))])) (K (.list [] .exact) H))):an Tryd.prog gl 72 [.list [] .exact,.int .i64 n] H K:=
 ai (T:=[]) (L:=[]) (fun o=>match o.dst with|some 22=>8|_=>0) Tryd.func72 (by kernel_rfl) (by kernel_rfl) (by kernel_rfl) (aE.nil _ _) (LOk.nil _ _ _ _ _) (ah (by kernel_rfl) h)
def nh (args:List PV) (H:ag) (K:PV→ag→Prop):Prop:=∃ n:Nat,ak args [.list [] .exact,.int .i64 n]∧n≤1000000∧(n=0→K (.list [] .exact) H)∧(0<n→∀(c:Nat) (J:List PV),n≤c→Room J (c*1)→K (.arr H.length 0 0 c) (H++[.cells J]))
theorem o6:aQ Tryd.prog gl 72 (.heap nh):=by
 rintro args H K ⟨n,he,hn,h0,h1⟩
 have he:args=_:=he
 subst he
 refine lD H n K ?_
 have e:wI ((n:Int)-0)=n:=by rw[bl (by omega) (by omega)]; omega
 simp only[az,dt,e,au]
 rw[if_neg (by omega)]
 by_cases c:n=0
 ·rw[if_neg (by omega)]; exact h0 c
 ·rw[if_pos (by omega)]
  refine⟨⟨by decide,by decide,by decide,by decide,fun _ h=>nomatch h⟩,by omega,by omega,fun k hk=>⟨⟨by decide,by decide,by omega,by omega⟩,?_⟩⟩
  rw[ite_self]
  exact h1 (by omega) k _ hk (gU k)
def lcs (l:List Int):List PV:=[.list (l.map i1) .no]
theorem kX (l:List Int):(lcs l).length=1:=rfl
theorem jr {n:Nat} (l:List Int):∀ y∈lcs l,Low n y:=bF (aR l)
theorem cE (l:List (List Int)) (i:Nat):InL (l.map lcs) 1 (i:Int)=(i<l.length):=dA kX (by decide) l i
def bq (ls:List (List Int)):Nat:=ls.flatten.length
theorem cM {ls:List (List Int)} {k:Nat} (h:k<ls.length):bq (ls.take (k+1))=bq (ls.take k)+(ls.getD k []).length:=by
 unfold bq; rw[bh [] h,List.flatten_append]; simp
theorem cF (ls:List (List Int)) (k:Nat):bq (ls.take k)≤bq ls:=by
 unfold bq
 conv=>rhs; rw[← List.take_append_drop k ls,List.flatten_append]
 rw[List.length_append]; omega
def TCG:Tab:=[(72,.heap nh)]
theorem oL:aE Tryd.prog gl TCG:= .cons o6 (.nil _ _)
theorem pP (ls:List (List Int)) (n i:Nat):(by refine(?_:_→_→_→Prop) (PV.list (ls.map lcs) .no) (List.getD (ls.map lcs) (Int.toNat (i:Int)) []) (PV.int .i64 ls.length); exact fun a b f=>by refine(?_:_→_→Prop) [a,.int .i64 n,a,f,.int .i64 i] ((n:Int)+(↑(List.length (cL b 0)):Int)); exact fun c d=>∀(R:Ex→List PV→ag→Prop),(br (decide ((i:Int)<(ls.length:Int))) (InL (ls.map lcs) 1 (i:Int)∧br (true && aH [.list] 0 b) (br (decide (wI d<0)) False (R .normal [a,.int .i64 (wI d),a,f,.int .i64 (wI ((i:Int)+1))] [])) False) (R (.exit 0) c []))→Holds (wpc br Tryd.prog gl [] [] (fun _=>0) (av [1,1,0,1,0] (aj Tryd.f47)) [] (ax [0,3,9,10,11] c) [] (fun ex e H=>R ex (List.map e [0,3,9,10,11]) H)):Prop):=fun R h=>ah (by kernel_rfl) h
theorem kI (ls:List (List Int)) (i:Nat):(by refine(?_:_→_→_→_→Prop) (List.getD (ls.map lcs) (Int.toNat (i:Int)) []) (PV.list (ls.map lcs) .no) (PV.int .i64 ls.length) (PV.int .i64 (wI ((i:Int)+1))); exact fun a c d f=>by refine(?_:_→Prop) [PV.list [] .exact,c,d,.int .i64 i]; exact fun b=>∀(R:Ex→List PV→ag→Prop),(br (decide ((i:Int)<(ls.length:Int))) (InL (ls.map lcs) 1 (i:Int)∧br (true && aH [.list] 0 a) (bf [] (cL a 0) 1 8∧List.all (List.flatten (cL a 0)) PV.one=true∧(cL a 0=[]→R .normal [.list [] .exact,c,d,f] [])∧(cL a 0≠[]→R .normal [.list ([]++cL a 0) (.tok 0),c,d,f] [.tok])) False) (R (.exit 2) b []))→Holds (wpc br Tryd.prog gl [] [] (fun o=>match o.dst with|some 33=>4|_=>0) (av [1,1,1,1,0,1,0] (aj Tryd.f47)) [] (ax [6,25,26,27] b) [] (fun ex e H=>R ex (List.map e [6,25,26,27]) H)):Prop):=fun R h=>ah (by kernel_rfl) h
theorem kG (ls:List (List Int)) (acc:List Int) (J:List PV) (cap i:Nat):(by refine(?_:_→_→_→_→Prop) (List.getD (ls.map lcs) (Int.toNat (i:Int)) []) [Ob.cells (flR acc++J)] (PV.list (ls.map lcs) .no) (PV.int .i64 ls.length); exact fun a f g h=>by refine(?_:_→_→_→Prop) [PV.arr 0 0 acc.length cap,g,h,.int .i64 i] (List.flatten (cL a 0)) (acc.length+List.length (cL a 0)); exact fun b c d=>∀(R:Ex→List PV→ag→Prop),(br (decide ((i:Int)<(ls.length:Int))) (InL (ls.map lcs) 1 (i:Int)∧br (true && aH [.list] 0 a) ((acc.length≤cap∧0+cap*1≤List.length (flR acc++J)∧List.length c=List.length (cL a 0)*1∧List.all c PV.one=true∧d*8≤140737488355328)∧acc.length+List.length (cL a 0)≤cap∧R .normal [.arr 0 0 d cap,g,h,.int .i64 (wI ((i:Int)+1))] [.cells (over (flR acc++J) (0+acc.length*1) c)]) False) (R (.exit 2) b f))→Holds (wpc br Tryd.prog gl [] [] (fun o=>match o.dst with|some 33=>3|_=>0) (av [1,1,1,1,0,1,0] (aj Tryd.f47)) [] (ax [6,25,26,27] b) f (fun ex e H=>R ex (List.map e [6,25,26,27]) H)):Prop):=fun R h=>ah (by kernel_rfl) h
theorem lg (l k:List Int):flR (l++k)=flR l++flR k:=by unfold flR; rw[List.map_append,List.flatten_append]
theorem jo {l:List Int}:∀ y∈flR l,y.one=true:=by
 intro y hy
 obtain⟨c,h2,h3⟩:=List.mem_flatten.1 hy
 obtain⟨a,_,rfl⟩:=List.mem_map.1 h2
 exact mj a y h3
theorem gE {acc l:List Int} {J:List PV}:over (flR acc++J) (acc.length*1) (flR l)=flR (acc++l)++J.drop (l.length*1):=by
 unfold over
 rw[List.take_left' (bW acc),lg,List.append_assoc,List.append_assoc]
 congr 2
 rw[List.drop_append,bW,bW,List.drop_of_length_le (by rw[bW]; omega),List.nil_append,show acc.length*1+l.length*1-acc.length*1=l.length*1 by omega]
def nk:LSp:=fun e H Q=>∃(ls:List (List Int)),ls.length≤1000000∧bq ls≤1000000∧ak (List.map e [0,3,9,10,11]) [.list (ls.map lcs) .no,.int .i64 0,.list (ls.map lcs) .no,.int .i64 ls.length,.int .i64 0]∧aC H []∧Q (.exit 0) (ax [0,3,9,10,11] [.list (ls.map lcs) .no,.int .i64 (bq ls),.list (ls.map lcs) .no,.int .i64 ls.length,.int .i64 ls.length]) []
theorem iT:∀ e H Q,nk e H Q→AW Tryd.prog gl Tryd.f47.ntmps (.loop (av [1,1,0,1,0] (aj Tryd.f47))) Q e H:=by
 rintro e H Q ⟨ls,hl,hs,he,hH,hQ⟩
 refine aL (hn:=fun _=>0) ay (.nil _ _) (.nil _ _ _ _ _) (σ:=Nat) [0,3,9,10,11] (fun i=>i≤ls.length) (fun i=>[.list (ls.map lcs) .no,.int .i64 (bq (ls.take i)),.list (ls.map lcs) .no,.int .i64 ls.length,.int .i64 i]) (fun _=>[]) (fun i=>ls.length-i) 0 (Nat.zero_le _) (by rw[he]; rfl) hH ?_
 intro i hi
 have hi:i≤ls.length:=hi
 refine pP ls (bq (ls.take i)) i _ ?_
 have h3:=cF ls i
 simp only[az,dt,au,cE]
 by_cases h:i<ls.length
 ·rw[if_pos (by omega)]
  have h4:=cF ls (i+1)
  have e1:=cM h
  simp only[getD_map [] h]
  refine⟨h,?_⟩
  rw[if_pos (by rfl)]
  have c0:cL (lcs (ls.getD i [])) 0=(ls.getD i []).map i1:=rfl
  have e2:wI ((bq (ls.take i):Int)+(((ls.getD i []).map i1).length:Int))=(bq (ls.take (i+1)):Int):=by rw[List.length_map,bl (by omega) (by omega)]; omega
  rw[c0,e2,if_neg (by omega)]
  exact⟨i+1,(show ls.length-(i+1)<ls.length-i by omega),h,by rw[aA h (by omega)],[],rfl,Nat.le_refl _,.inl rfl⟩
 ·rw[if_neg (by omega)]
  have:i=ls.length:=by omega
  subst this
  rw[List.take_length]
  exact hQ
def nx:LSp:=fun e H Q=>∃(ls:List (List Int)),ls.length≤1000000∧bq ls≤1000000∧
 ((bq ls=0∧ak (List.map e [6,25,26,27]) [.list [] .exact,.list (ls.map lcs) .no,.int .i64 ls.length,.int .i64 0]∧aC H []∧Q (.exit 2) (ax [6,25,26,27] [.list [] .exact,.list (ls.map lcs) .no,.int .i64 ls.length,.int .i64 ls.length]) [])∨
  (∃(cap:Nat) (J:List PV),bq ls≤cap∧Room J (cap*1)∧ak (List.map e [6,25,26,27]) [.arr 0 0 0 cap,.list (ls.map lcs) .no,.int .i64 ls.length,.int .i64 0]∧aC H [.cells J]∧∀ J',Room J' ((cap-ls.flatten.length)*1)→Q (.exit 2) (ax [6,25,26,27] [.arr 0 0 ls.flatten.length cap,.list (ls.map lcs) .no,.int .i64 ls.length,.int .i64 ls.length]) [.cells (flR ls.flatten++J')]))
theorem iO:∀ e H Q,nx e H Q→AW Tryd.prog gl Tryd.f47.ntmps (.loop (av [1,1,1,1,0,1,0] (aj Tryd.f47))) Q e H:=by
 rintro e H Q ⟨ls,hl,hs,(⟨h0,he,hH,hQ⟩|⟨cap,J,hc,hJ,he,hH,hQ⟩)⟩
 ·refine aL (hn:=fun o=>match o.dst with|some 33=>4|_=>0) ay (.nil _ _) (.nil _ _ _ _ _) (σ:=Nat) [6,25,26,27] (fun i=>i≤ls.length) (fun i=>[.list [] .exact,.list (ls.map lcs) .no,.int .i64 ls.length,.int .i64 i]) (fun _=>[]) (fun i=>ls.length-i) 0 (Nat.zero_le _) (by rw[he]; rfl) hH ?_
  intro i hi
  have hi:i≤ls.length:=hi
  refine kI ls i _ ?_
  simp only[az,dt,au,cE]
  by_cases h:i<ls.length
  ·rw[if_pos (by omega)]
   have h4:=cF ls (i+1)
   have e1:=cM h
   simp only[getD_map [] h]
   refine⟨h,?_⟩
   rw[if_pos (by rfl)]
   have c0:cL (lcs (ls.getD i [])) 0=(ls.getD i []).map i1:=rfl
   have c1:ls.getD i []=[]:=List.length_eq_zero_iff.1 (by omega)
   rw[c0,c1]
   exact⟨⟨(fun _ h=>nomatch h),(fun _ h=>nomatch h),by decide⟩,rfl,fun _=>⟨i+1,(show ls.length-(i+1)<ls.length-i by omega),h,by rw[aA h (by omega)],[],rfl,Nat.le_refl _,.inl rfl⟩,fun h=>absurd rfl h⟩
  ·rw[if_neg (by omega)]
   have:i=ls.length:=by omega
   subst this
   exact hQ
 ·refine aL (hn:=fun o=>match o.dst with|some 33=>3|_=>0) ay (.nil _ _) (.nil _ _ _ _ _) (σ:=Nat) [6,25,26,27] (fun i=>i≤ls.length) (fun i=>[.arr 0 0 (ls.take i).flatten.length cap,.list (ls.map lcs) .no,.int .i64 ls.length,.int .i64 i]) (fun i=>[.cells (flR (ls.take i).flatten++J.drop ((ls.take i).flatten.length*1))]) (fun i=>ls.length-i) 0 (Nat.zero_le _) (by rw[he]; rfl) (by rw[show H=_ from hH]; simp[flR]) ?_
  intro i hi
  have hi:i≤ls.length:=hi
  refine kG ls (ls.take i).flatten (J.drop ((ls.take i).flatten.length*1)) cap i _ ?_
  simp only[az,dt,au,cE]
  have h3:=cF ls i
  have hJl:=hJ.len
  have h5:(ls.take i).flatten.length≤cap:=Nat.le_trans h3 hc
  by_cases h:i<ls.length
  ·rw[if_pos (by omega)]
   have h4:=cF ls (i+1)
   have e1:=cM h
   simp only[getD_map [] h]
   refine⟨h,?_⟩
   rw[if_pos (by rfl)]
   have c0:cL (lcs (ls.getD i [])) 0=(ls.getD i []).map i1:=rfl
   obtain⟨l,hld⟩:∃ l,l=ls.getD i []:=⟨_,rfl⟩
   have e4:(ls.take (i+1)).flatten=(ls.take i).flatten++l:=by rw[bh [] h,List.flatten_append,hld]; simp
   have e5:(ls.take (i+1)).flatten.length=(ls.take i).flatten.length+l.length:=by rw[e4,List.length_append]
   have e6:(ls.take (i+1)).flatten.length≤cap:=Nat.le_trans h4 hc
   have e7:bq (ls.take (i+1))=(ls.take (i+1)).flatten.length:=rfl
   have e8:(J.drop ((ls.take i).flatten.length*1)).length=(cap-(ls.take i).flatten.length)*1:=by rw[List.length_drop,hJl]; omega
   have e9:(List.map i1 l).flatten.length=l.length*1:=bW l
   rw[c0,← hld]
   simp only[List.length_map,e9]
   refine⟨⟨h5,?_,trivial,List.all_eq_true.2 jo,by omega⟩,by omega,i+1,(show ls.length-(i+1)<ls.length-i by omega),h,by(try dsimp only); rw[aA h (by omega),e5],[],?_,Nat.le_refl _,.inl rfl⟩
   ·rw[List.length_append,bW,e8]; omega
   ·(try dsimp only)
    rw[Nat.zero_add,gE,e4,List.drop_drop,List.append_nil,List.length_append,Nat.add_mul]
  ·rw[if_neg (by omega)]
   have:i=ls.length:=by omega
   subst this
   rw[List.take_length]
   exact hQ _ (hJ.drop.cast (by omega))
theorem ga (ls:List (List Int)):∀(K:PV→ag→Prop),(∃(ls_1:List (List Int)),by refine(?_:_→_→Prop) (PV.list (ls_1.map lcs) .no) (PV.int .i64 (↑(List.length (ls_1.map lcs)):Int)); exact fun d e=>by refine(?_:_→Prop) [PV.list [] .exact,d,e,.int .i64 0]; exact fun b=>ls_1.length≤1000000∧bq ls_1≤1000000∧ak [.list (ls.map lcs) .no,.int .i64 0,.list (ls.map lcs) .no,.int .i64 (↑(List.length (ls.map lcs)):Int),.int .i64 0] [d,.int .i64 0,d,.int .i64 ls_1.length,.int .i64 0]∧aC [] []∧∃(n:Nat),ak [.list [] .exact,.int .i64 (↑(bq ls_1):Int)] [.list [] .exact,.int .i64 n]∧n≤1000000∧(n=0→∃(ls:List (List Int)),ls.length≤1000000∧bq ls≤1000000∧(bq ls=0∧ak b [.list [] .exact,.list (ls.map lcs) .no,.int .i64 ls.length,.int .i64 0]∧aC [] []∧K (.list [] .exact) []∨∃(cap:Nat) (J:List PV),bq ls≤cap∧Room J (cap*1)∧ak b [.arr 0 0 0 cap,.list (ls.map lcs) .no,.int .i64 ls.length,.int .i64 0]∧aC [] [.cells J]∧∀(J':List PV),Room J' ((cap-ls.flatten.length)*1)→K (.arr 0 0 ls.flatten.length cap) [.cells (flR ls.flatten++J')]))∧(0<n→∀(c:Nat),by refine(?_:_→Prop) [PV.arr 0 0 0 c,d,e,.int .i64 0]; exact fun a=>∀(J:List PV),n≤c→Room J (c*1)→∃(ls:List (List Int)),ls.length≤1000000∧bq ls≤1000000∧(bq ls=0∧ak a [.list [] .exact,.list (ls.map lcs) .no,.int .i64 ls.length,.int .i64 0]∧aC [.cells J] []∧K (.list [] .exact) []∨∃(cap:Nat) (J_1:List PV),bq ls≤cap∧Room J_1 (cap*1)∧ak a [.arr 0 0 0 cap,.list (ls.map lcs) .no,.int .i64 ls.length,.int .i64 0]∧aC [.cells J] [.cells J_1]∧∀(J':List PV),Room J' ((cap-ls.flatten.length)*1)→K (.arr 0 0 ls.flatten.length cap) [.cells (flR ls.flatten++J')])))→an Tryd.prog gl 47 [.list (ls.map lcs) .no] [] K:=fun K h=>ai (T:=TCG) (L:=[([1,1,0,1,0],nk),([1,1,1,1,0,1,0],nx)]) (fun _=>0) Tryd.func47 (by kernel_rfl) (by kernel_rfl) (by kernel_rfl) (oL) (.cons (aK (by kernel_rfl)) iT (.cons (aK (by kernel_rfl)) iO (.nil _ _ _ _ _))) (ah (by kernel_rfl) h)
theorem ta (ls:List (List Int)) (hl:ls.length≤1000000) (hs:bq ls≤1000000):an Tryd.prog gl 47 [.list (ls.map lcs) .no] [] (fun x _=>x = .list (ls.flatten.map i1) .no):=by
 have e0:(List.map lcs ls).length=ls.length:=List.length_map _
 by_cases c:bq ls=0
 ·refine bC (ga ls _ ⟨ls,hl,hs,(by show _=_; rw[e0]),rfl,bq ls,rfl,hs,fun _=>⟨ls,hl,hs,.inl ⟨c,(by show _=_; rw[e0]),rfl,?_⟩⟩,fun h=>absurd c (by omega)⟩)
  have e:ls.flatten=[]:=List.length_eq_zero_iff.1 c
  rw[e]
  exact⟨_,.list _ _,rfl⟩
 ·refine b8 (ga ls _ ⟨ls,hl,hs,(by show _=_; rw[e0]),rfl,bq ls,rfl,hs,fun h=>absurd h c,fun h cap J hc hJ=>⟨ls,hl,hs,.inr ⟨cap,J,hc,hJ,(by show _=_; rw[e0]),rfl,fun J' hJ'=>?_⟩⟩⟩)
  refine⟨0,0,1,[],J',ls.flatten.map i1,.list (ls.flatten.map i1) .no,[.dead],rfl,rfl,ct oA _,⟨rfl,fun i b hb=> .inl ?_⟩,?_,rfl⟩
  ·have k1:=(List.getElem?_eq_some_iff.1 hb).1
   simp at k1
   subst k1
   cases hb; rfl
  ·have:=Fz.arr (o:=0) (off:=0) (es:=ls.flatten.map i1) cap (by rw[List.length_map]; exact hc)
   rw[List.length_map] at this
   exact this
def nB (args:List PV) (K:PV→Prop):Prop:=∃(a b:List Int),ak args [.list [[.list (a.map i1) .no],[.list (b.map i1) .no]] .exact]∧a.length+b.length≤1000000∧K (.list ((a++b).map i1) .no)
theorem pO:aQ Tryd.prog gl 47 (.pure nB):=by
 rintro args K ⟨a,b,he,h,hk⟩
 have he:args=_:=he
 subst he
 have hf:[a,b].flatten=a++b:=by simp
 have hl:=ta [a,b] (by simp) (by unfold bq; rw[hf,List.length_append]; exact h)
 rw[hf] at hl
 exact bS ay (.cons (.list _ _) .nil) (bF (bB jr [a,b])) (aR _) hl hk
end CI
end Go.Proofs.YtenaelaapdhbdaaDoor
