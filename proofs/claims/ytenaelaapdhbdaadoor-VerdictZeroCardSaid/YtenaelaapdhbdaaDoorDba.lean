/-
  Elo's functions.
-/
import Derived.Test.YtenaelaapdhbdaaDoorA4
import Derived.Test.YtenaelaapdhbdaaDoorDaa
import Derived.Test.YtenaelaapdhbdaaDoorProg
namespace Go.Proofs.YtenaelaapdhbdaaDoor
open Go Go.AM Go.Proofs
namespace Elo
def within (n:Int):Int:=mnI (mxI n 0) 10000
def og (args:List PV) (K:PV→Prop):Prop:=match args with
 | [.int .i64 n]=>K (.int .i64 (within n))
 | _=>False
theorem yB (n:Int)  (K:PV→Prop) (h:K (.int .i64 (mnI (mxI n 0) 10000))):aj Tryd.prog gl 88 [.int .i64 n] [] (fun x _=>K x):=
 ah (T:=[]) (L:=[]) (fun _=>0) Tryd.func88 (by kernel_rfl) (by kernel_rfl) (by kernel_rfl) (aB.nil _ _) (LOk.nil _ _ _ _ _) (ag (by kernel_rfl) h)
theorem xx:aO Tryd.prog gl 88 (.pure og):=by
 intro args K h
 unfold og at h
 split at h
 ·rename_i n
  refine eM aq (by simp[dY]) (.int _ _) (yB n _ ?_) h
  rfl
 ·exact h.elim
def T1:Tab:=[(88,.pure og)]
theorem vW:aB Tryd.prog gl T1:= .cons xx (.nil _ _)
def ex0 (d:Int):Int:=uT.getD (mnI (d / 50) 16).toNat 0
def ii (a b:Int):Int:=if within a<within b then 1000-ex0 (within b-within a) else ex0 (within a-within b)
theorem cV (n:Int):0≤within n∧within n≤10000:=by unfold within mnI mxI; (repeat' split)<;>omega
theorem fR (n:Int):within (within n)=within n:=by
 have h:=cV n
 generalize within n=m at *
 unfold within mnI mxI; (repeat' split)<;>omega
theorem ue:∀(k:Nat),k<17→500≤uT.getD k 0∧uT.getD k 0≤990:=by decide
theorem mj {d:Int} (h:0≤d):500≤ex0 d∧ex0 d≤990:=by
 unfold ex0
 have h2:0≤mnI (d / 50) 16∧mnI (d / 50) 16≤16:=by unfold mnI; split<;>omega
 exact ue _ (by omega)
theorem nO (a b:Int):10≤ii a b∧ii a b≤990:=by
 unfold ii
 split
 ·have:=mj (d:=within b-within a) (by omega); omega
 ·have:=mj (d:=within a-within b) (by omega); omega
theorem HW {d:Int} (h0:0≤d) (h1:d≤10000):wI (Int.tdiv (wI d) 50)=d / 50:=by
 have e:wI d=d:=wrap_i64 (by omega) (by omega)
 rw[e,Int.tdiv_eq_ediv_of_nonneg h0]
 exact wrap_i64 (by omega) (by omega)
def tU (args:List PV) (K:PV→Prop):Prop:=match args with
 | [.int .i64 a,.int .i64 b]=>¬ within a<within b∧K (.int .i64 (ii a b))
 | _=>False
theorem GB (a b:Int):(by refine(?_:_→Prop) (wI (Int.tdiv (wI (within a-within b)) 50)); exact fun c=>by refine(?_:_→Prop) (List.drop (Int.toNat (mnI c 16)*1) (List.map (PV.int .i64) uT)); exact fun d=>∀(K:PV→Prop),(br (decide (within a<within b)) False (br (decide (0≤mnI c 16) && decide (mnI c 16<17)) (br (true && aP [.int .i64] 0 d) (K (.int .i64 (cI d 0))) False) False))→aj Tryd.prog gl 89 [.int .i64 a,.int .i64 b] [] (fun x _=>K x):Prop):=fun K h=>ah (T:=T1) (L:=[]) (fun _=>0) Tryd.func89 (by kernel_rfl) (by kernel_rfl) (by kernel_rfl) (vW) (LOk.nil _ _ _ _ _) (ag (by kernel_rfl) h)
theorem Fa:aO Tryd.prog gl 89 (.pure tU):=by
 intro args K h
 unfold tU at h
 split at h
 ·rename_i a b
  obtain⟨hp,h⟩:=h
  refine eM aq (by simp[dY]) (.int _ _) (GB a b _ ?_) h
  have h1:=cV a
  have h2:=cV b
  have h3:0≤mnI ((within a-within b) / 50) 16∧mnI ((within a-within b) / 50) 16≤16:=by unfold mnI; split<;>omega
  simp only[ay,decide_eq_true_eq,hp,if_false,HW (d:=within a-within b) (by omega) (by omega),Nat.mul_one,qY]
  rw[oI _ _ _ (by simp[uT]; omega),if_pos (by simp; omega)]
  simp only[Bool.and_self,if_true,ii,hp,if_false,ex0]
 ·exact h.elim
def T1b:Tab:=(89,.pure tU)::T1
theorem IQ:aB Tryd.prog gl T1b:= .cons Fa vW
def zA (args:List PV) (K:PV→Prop):Prop:=match args with
 | [.int .i64 a,.int .i64 b]=>K (.int .i64 (ii a b))
 | _=>False
theorem FU (a b:Int):(by refine(?_:_→Prop) (wI (Int.tdiv (wI (within a-within b)) 50)); exact fun c=>by refine(?_:_→Prop) (List.drop (Int.toNat (mnI c 16)*1) (List.map (PV.int .i64) uT)); exact fun d=>∀(K:PV→Prop),(br (decide (within a<within b)) (¬within (within b)<within (within a)∧K (.int .i64 (wI (1000-ii (within b) (within a))))) (br (decide (0≤mnI c 16) && decide (mnI c 16<17)) (br (true && aP [.int .i64] 0 d) (K (.int .i64 (cI d 0))) False) False))→aj Tryd.prog gl 89 [.int .i64 a,.int .i64 b] [] (fun x _=>K x):Prop):=fun K h=>ah (T:=T1b) (L:=[]) (fun _=>0) Tryd.func89 (by kernel_rfl) (by kernel_rfl) (by kernel_rfl) (IQ) (LOk.nil _ _ _ _ _) (ag (by kernel_rfl) h)
theorem IR:aO Tryd.prog gl 89 (.pure zA):=by
 intro args K h
 unfold zA at h
 split at h
 ·rename_i a b
  refine eM aq (by simp[dY]) (.int _ _) (FU a b _ ?_) h
  have h1:=cV a
  have h2:=cV b
  simp only[ay,decide_eq_true_eq,fR]
  by_cases hp:within a<within b
  ·simp only[hp,if_true]
   have h4:=mj (d:=within b-within a) (by omega)
   have e2:ii (within b) (within a)=ex0 (within b-within a):=by unfold ii; rw[fR,fR,if_neg (by omega)]
   have e1:ii a b=1000-ex0 (within b-within a):=by unfold ii; rw[if_pos hp]
   rw[e2,e1]
   exact⟨by omega,congrArg (PV.int _) (wrap_i64 (by omega) (by omega))⟩
  ·have h3:0≤mnI ((within a-within b) / 50) 16∧mnI ((within a-within b) / 50) 16≤16:=by unfold mnI; split<;>omega
   simp only[hp,if_false,HW (d:=within a-within b) (by omega) (by omega),Nat.mul_one,qY]
   rw[oI _ _ _ (by simp[uT]; omega),if_pos (by simp; omega)]
   simp only[Bool.and_self,if_true,ii,hp,if_false,ex0]
 ·exact h.elim
def T2:Tab:=(89,.pure zA)::T1
theorem HD:aB Tryd.prog gl T2:= .cons IR vW
def oC (n:Int):Int:=if n<0 then -((-n) / 1000) else n / 1000
theorem IS (n:Int):n.tdiv 1000=oC n:=by
 unfold oC
 split
 ·have h:n = -(-n):=by omega
  rw[h,Int.neg_tdiv,Int.tdiv_eq_ediv_of_nonneg (by omega)]; congr 2; omega
 ·rw[Int.tdiv_eq_ediv_of_nonneg (by omega)]
def sc (r:Int):Int:=if r=0 then 500 else if r=1 then 1000 else 0
def clm (m:Int):Int:=mnI (mxI m 0) 4
def stk (a b m r:Int):Int:=if r<0∨r>2 then 0 else oC (32*clm m*(sc r-ii a b))
theorem pJ (m:Int):clm m=0∨clm m=1∨clm m=2∨clm m=3∨clm m=4:=by unfold clm mnI mxI; (repeat' split)<;>omega
theorem rL (m r x:Int) (hx:10≤x∧x≤990):wI (32*clm m)=32*clm m∧wI (sc r-x)=sc r-x∧wI (32*clm m*(sc r-x))=32*clm m*(sc r-x)∧ -128000≤32*clm m*(sc r-x)∧32*clm m*(sc r-x)≤128000:=by
 have hs:0≤sc r∧sc r≤1000:=by unfold sc; (repeat' split)<;>omega
 have hb: -128000≤32*clm m*(sc r-x)∧32*clm m*(sc r-x)≤128000:=by
  rcases pJ m with h|h|h|h|h<;>rw[h]<;>omega
 refine⟨a8 ?_ ?_,a8 ?_ ?_,a8 ?_ ?_,hb.1,hb.2⟩<;>rcases pJ m with h|h|h|h|h<;>omega
theorem mJ {n:Int} (h0: -128000≤n) (h1:n≤128000): -128≤oC n∧oC n≤128:=by unfold oC; split<;>omega
theorem xP (a b m r:Int): -128≤stk a b m r∧stk a b m r≤128:=by
 unfold stk
 split
 ·omega
 ·obtain⟨_,_,_,h1,h2⟩:=rL m r (ii a b) (nO a b)
  exact mJ h1 h2
def BV (args:List PV) (K:PV→Prop):Prop:=match args with
 | [.int .i64 a,.int .i64 b,.int .i64 m,.int .i64 r]=>K (.int .i64 (stk a b m r))
 | _=>False
theorem zm (a b m r:Int)  (K:PV→Prop) (h:br (decide (r<0) == false) (br (decide (r>2)) (K (.int .i64 0)) (br (decide (0≤r) && decide (r<3)) (br (true && aP [.int .i64] 0 (List.drop (Int.toNat r*1) (List.map (PV.int .i64) scs))) (K (.int .i64 (wI (Int.tdiv (wI (wI (32*mnI (mxI m 0) 4)*wI (cI (List.drop (Int.toNat r*1) (List.map (PV.int .i64) scs)) 0-ii a b))) 1000)))) False) False)) (K (.int .i64 0))):aj Tryd.prog gl 74 [.int .i64 a,.int .i64 b,.int .i64 m,.int .i64 r] [] (fun x _=>K x):=
 ah (T:=T2) (L:=[]) (fun _=>0) Tryd.func74 (by kernel_rfl) (by kernel_rfl) (by kernel_rfl) (HD) (LOk.nil _ _ _ _ _) (ag (by kernel_rfl) h)
theorem JG {r:Int} (h0:0≤r) (h2:r≤2):scs.getD (Int.toNat r) 0=sc r:=by
 have:r=0∨r=1∨r=2:=by omega
 rcases this with rfl|rfl|rfl<;>rfl
theorem Bg:aO Tryd.prog gl 74 (.pure BV):=by
 intro args K h
 unfold BV at h
 split at h
 ·rename_i a b m r
  refine eM aq (by simp[dY]) (.int _ _) (zm a b m r _ ?_) h
  obtain⟨e1,e2,e3,h1,h2⟩:=rL m r (ii a b) (nO a b)
  have hq:=mJ h1 h2
  simp only[ay,decide_eq_true_eq,Nat.mul_one,qY]
  by_cases c1:r<0
  ·simp[c1,stk]
  ·by_cases c2:r>2
   ·simp[c1,c2,stk]
   ·rw[oI _ _ _ (by simp[scs]; omega),JG (by omega) (by omega)]
    have e4:mnI (mxI m 0) 4=clm m:=rfl
    rw[e4,e1,e2,e3,IS,a8 (by omega) (by omega)]
    have e5:stk a b m r=oC (32*clm m*(sc r-ii a b)):=by unfold stk; rw[if_neg (by omega)]
    simp[c1,c2,e5]; omega
 ·exact h.elim
def shp (p m k:Int):Int:=if k<p-p / m*m then p / m+1 else p / m
def shr (p m k:Int):Int:=if k<0∨k≥m then 0 else if p<0 then -(shp (-p) m k) else shp p m k
def P41 (p:Int):Prop:= -2199023255552≤p∧p≤2199023255552
theorem ga {p m:Int} (hp:0≤p) (hm:1≤m):0≤p / m∧p / m≤p∧0≤p / m*m∧p / m*m≤p∧p.tdiv m=p / m∧p.tmod m=p-p / m*m:=by
 have h1:0≤p / m:=Int.ediv_nonneg hp (by omega)
 have h2:p / m*m≤p:=Int.ediv_mul_le p (by omega)
 refine⟨h1,Int.ediv_le_self m hp,Int.mul_nonneg h1 (by omega),h2,Int.tdiv_eq_ediv_of_nonneg hp,?_⟩
 rw[Int.tmod_eq_emod_of_nonneg hp,Int.emod_def,Int.mul_comm m]
theorem GH {p m:Int} (hp:p<0) (hm:1≤m):p.tdiv m = -((-p) / m)∧p.tmod m = -((-p)-(-p) / m*m):=by
 obtain⟨_,_,_,_,h5,h6⟩:=ga (p:= -p) (m:=m) (by omega) hm
 rw[Int.neg_tdiv] at h5
 rw[Int.neg_tmod] at h6
 constructor<;>omega
theorem pN {p m k:Int} (hp:0≤p) (hm:1≤m):0≤shp p m k∧shp p m k≤p+1:=by
 obtain⟨h1,h2,_,_,_,_⟩:=ga hp hm
 unfold shp; split<;>omega
theorem yK {p m k:Int} (hp:P41 p): -2199023255553≤shr p m k∧shr p m k≤2199023255553:=by
 unfold P41 at hp
 unfold shr
 split
 ·omega
 ·split
  ·have:=pN (p:= -p) (m:=m) (k:=k) (by omega) (by omega); omega
  ·have:=pN (p:=p) (m:=m) (k:=k) (by omega) (by omega); omega
def BM (args:List PV) (K:PV→Prop):Prop:=match args with
 | [.int .i64 p,.int .i64 m,.int .i64 k]=>P41 p∧K (.int .i64 (shr p m k))
 | _=>False
theorem zI (p m k:Int)  (K:PV→Prop) (h:br (decide (k<0) == false) (br (decide (k≥m)) (K (.int .i64 0)) (br (m != 0) (br (m != 0) (br (decide (Int.tmod p m>k)) (K (.int .i64 (wI (wI (Int.tdiv p m)+1)))) (br (decide (wI (0-Int.tmod p m)>k)) (K (.int .i64 (wI (wI (Int.tdiv p m)-1)))) (K (.int .i64 (wI (Int.tdiv p m)))))) False) False)) (K (.int .i64 0))):aj Tryd.prog gl 90 [.int .i64 p,.int .i64 m,.int .i64 k] [] (fun x _=>K x):=
 ah (T:=T1) (L:=[]) (fun _=>0) Tryd.func90 (by kernel_rfl) (by kernel_rfl) (by kernel_rfl) (vW) (LOk.nil _ _ _ _ _) (ag (by kernel_rfl) h)
theorem zZ:aO Tryd.prog gl 90 (.pure BM):=by
 intro args K h
 unfold BM at h
 split at h
 ·rename_i p m k
  obtain⟨hp,h⟩:=h
  refine eM aq (by simp[dY]) (.int _ _) (zI p m k _ ?_) h
  unfold P41 at hp
  simp only[ay,decide_eq_true_eq,beq_iff_eq,bne_iff_ne]
  by_cases c1:k<0
  ·simp[c1,shr]
  ·by_cases c2:k≥m
   ·simp[c1,c2,shr]
   ·have hm:m≠0:=by omega
    simp only[c1,c2,hm,decide_false,if_true,if_false,ne_eq,not_false_eq_true]
    have e0:shr p m k=if p<0 then -(shp (-p) m k) else shp p m k:=by unfold shr; rw[if_neg (by omega)]
    rw[e0]
    by_cases hn:p<0
    ·obtain⟨h1,h2,h3,h4,_,_⟩:=ga (p:= -p) (m:=m) (by omega) (by omega)
     obtain⟨h5,h6⟩:=GH (p:=p) (m:=m) hn (by omega)
     have e2:shp (-p) m k=if k < -p-(-p) / m*m then(-p) / m+1 else(-p) / m:=rfl
     rw[h5,h6,if_pos hn,e2]
     generalize (-p) / m*m=q at *
     generalize (-p) / m=d at *
     have e1:wI (0 - -(-p-q)) = -p-q:=by rw[a8 (by omega) (by omega)]; omega
     have e3:wI (-d) = -d:=a8 (by omega) (by omega)
     have e4:wI (-d-1) = -d-1:=a8 (by omega) (by omega)
     rw[e1,if_neg (by omega),e3,e4]
     by_cases c:k < -p-q
     ·rw[if_pos c]; simp only[c,if_true]; congr 1; omega
     ·rw[if_neg c]; simp only[show ¬ -p-q>k by omega,if_false]
    ·obtain⟨h1,h2,h3,h4,h5,h6⟩:=ga (p:=p) (m:=m) (by omega) (by omega)
     have e2:shp p m k=if k<p-p / m*m then p / m+1 else p / m:=rfl
     rw[h5,h6,if_neg hn,e2]
     generalize p / m*m=q at *
     generalize p / m=d at *
     have e3:wI d=d:=a8 (by omega) (by omega)
     have e4:wI (d+1)=d+1:=a8 (by omega) (by omega)
     have e1:wI (0-(p-q)) = -(p-q):=by rw[a8 (by omega) (by omega)]; omega
     rw[e1,e3,e4]
     by_cases c:k<p-q
     ·simp[c]
     ·simp[show ¬ k<p-q by omega,show ¬ k < -(p-q) by omega]
 ·exact h.elim
def T3:Tab:=(74,.pure BV)::(90,.pure BM)::T2
theorem CD:aB Tryd.prog gl T3:= .cons Bg (.cons zZ HD)
def fL (ns:List Int):Prop:=(ns.length:Int)≤4611686018427387904
def qZ:Int→List Int→Int
 | acc,[]=>acc
 | acc,r::l=>qZ (wI (acc+within r)) l
def fk (ns:List Int):Int:=if ns.length=0 then 0 else wI ((qZ 0 ns).tdiv ns.length)
theorem r5 {ns:List Int} {i:Nat} (h:i<ns.length):ns.drop i=ns.getD i 0::ns.drop (i+1):=by
 rw[List.drop_eq_getElem_cons h,List.getD_eq_getElem?_getD,List.getElem?_eq_getElem h]; rfl
theorem yN {ns:List Int} {i:Nat} (acc:Int) (h:i<ns.length):qZ acc (ns.drop i)=qZ (wI (acc+within (ns.getD i 0))) (ns.drop (i+1)):=by
 rw[r5 h]; rfl
theorem toNat_cast (i:Nat):Int.toNat (i:Int)=i:=rfl
theorem ax {i n:Nat} (h:i<n) (hn:(n:Int)≤4611686018427387904):wI ((i:Int)+1)=((i+1:Nat):Int):=by
 rw[a8 (by omega) (by omega)]; rfl
def BQ:LSp:=fun e H Q=>∃(ns:List Int) (t:Tail),fL ns∧ak (List.map e [0,3,9,10,11]) [.list (en1 .i64 ns) t,.int .i64 0,.list (en1 .i64 ns) t,.int .i64 (en1 .i64 ns).length,.int .i64 0]∧az H []∧
 Q (.exit 0) (av [0,3,9,10,11] [.list (en1 .i64 ns) t,.int .i64 (qZ 0 ns),.list (en1 .i64 ns) t,.int .i64 (en1 .i64 ns).length,.int .i64 ns.length]) []
def tS (args:List PV) (K:PV→Prop):Prop:=match args with
 | [.list es t]=>∃ ns,es=en1 .i64 ns∧fL ns∧NT t∧K (.int .i64 (fk ns))
 | _=>False
theorem Am (ns:List Int) (t:Tail) (acc:Int) (i:Nat):(by refine(?_:_→_→_→Prop) (PV.list (en1 .i64 ns) t) (↑(List.length (en1 .i64 ns)):Int) (List.getD (en1 .i64 ns) (Int.toNat (i:Int)) []); exact fun a b c=>∀(R:Ex→List PV→ae→Prop),(br (decide ((i:Int)<b)) (InL (en1 .i64 ns) 1 (i:Int)∧br (true && aP [.int .i64] 0 c) (R .normal [a,.int .i64 (wI (acc+within (cI c 0))),a,.int .i64 b,.int .i64 (wI ((i:Int)+1))] []) False) (R (.exit 0) [a,.int .i64 acc,a,.int .i64 b,.int .i64 i] []))→Holds (wpc br Tryd.prog gl T3 [] (fun _=>0) (an [1,1,1,0,1,0] (ai Tryd.f75)) [] (av [0,3,9,10,11] [a,.int .i64 acc,a,.int .i64 (en1 .i64 ns).length,.int .i64 i]) [] (fun ex e H=>R ex (List.map e [0,3,9,10,11]) H)):Prop):=fun R h=>ag (by kernel_rfl) h
theorem yn:∀ e H Q,BQ e H Q→AW Tryd.prog gl Tryd.f75.ntmps (.loop (an [1,1,1,0,1,0] (ai Tryd.f75))) Q e H:=by
 rintro e H Q ⟨ns,t,hl,he,hH,hQ⟩
 refine aG (hn:=fun _=>0) aq CD (.nil _ _ _ _ _) (σ:=Nat×Int) [0,3,9,10,11] (fun p=>p.1≤ns.length∧qZ p.2 (ns.drop p.1)=qZ 0 ns) (fun p=>[.list (en1 .i64 ns) t,.int .i64 p.2,.list (en1 .i64 ns) t,.int .i64 (en1 .i64 ns).length,.int .i64 p.1])
  (fun _=>[]) (fun p=>ns.length-p.1) (0,0) ⟨Nat.zero_le _,rfl⟩ he hH ?_
 rintro⟨i,acc⟩ ⟨h1,h2⟩
 simp only at h1 h2
 refine Am ns t acc i _ ?_
 simp only[ay,decide_eq_true_eq,bW,toNat_cast,tW]
 by_cases c:i<ns.length
 ·rw[if_pos (by omega),qU _ _ _ c]
  refine⟨uX _ _ _ (by omega) (by omega),?_⟩
  simp only[Bool.and_self,if_true]
  refine⟨(i+1,wI (acc+within (ns.getD i 0))),by simp only; omega,⟨by simp only; omega,by rw[← h2,yN acc c]⟩,?_,[],rfl,Nat.le_refl _,.inl rfl⟩
  rw[ax c hl]
 ·rw[if_neg (by omega)]
  have e:i=ns.length:=by omega
  subst e
  rw[List.drop_length] at h2
  have h2:acc=qZ 0 ns:=h2
  subst h2
  rw[bW] at hQ
  exact hQ
theorem EX (ns:List Int) (t:Tail):∀(K:PV→Prop),(br ((↑(List.length (en1 .i64 ns)):Int) == 0) (K (.int .i64 0)) (∃(ns_1:List Int) (t_1:Tail),by refine(?_:_→_→Prop) (↑(List.length (en1 .i64 ns_1)):Int) (PV.list (en1 .i64 ns_1) t_1); exact fun a b=>fL ns_1∧ak [.list (en1 .i64 ns) t,.int .i64 0,.list (en1 .i64 ns) t,.int .i64 (↑(List.length (en1 .i64 ns)):Int),.int .i64 0] [b,.int .i64 0,b,.int .i64 a,.int .i64 0]∧az [] []∧br (a != 0) (K (.int .i64 (wI (Int.tdiv (qZ 0 ns_1) a)))) False))→aj Tryd.prog gl 75 [.list (en1 .i64 ns) t] [] (fun x _=>K x):=fun K h=>ah (T:=T3) (L:=[([1,1,1,0,1,0],BQ)]) (fun _=>0) Tryd.func75 (by kernel_rfl) (by kernel_rfl) (by kernel_rfl) (CD) (.cons (aH (by kernel_rfl)) yn (.nil _ _ _ _ _)) (ag (by kernel_rfl) h)
theorem GK:aO Tryd.prog gl 75 (.pure tS):=by
 intro args K h
 unfold tS at h
 split at h
 ·rename_i es t
  obtain⟨ns,rfl,hl,ht,h⟩:=h
  refine eM aq (by simp[ej ht]) (.int _ _) (EX ns t _ ?_) h
  simp only[ay,beq_iff_eq,bne_iff_ne,bW,fk]
  by_cases c:ns.length=0
  ·simp[c]
  ·rw[if_neg (by omega),if_neg c]
   refine⟨ns,t,hl,rfl,rfl,?_⟩
   rw[if_pos (by omega)]
 ·exact h.elim
def T4:Tab:=(75,.pure tS)::T3
theorem BB:aB Tryd.prog gl T4:= .cons GK CD
def di:List Int→Bool
 | []=>true
 | r::l=>(r == within r) && di l
def vF:LSp:=fun e H Q=>∃(ns:List Int) (t:Tail),fL ns∧ak (List.map e [2,5,6,7]) [.int .i64 0,.list (en1 .i64 ns) t,.int .i64 (en1 .i64 ns).length,.int .i64 0]∧az H []∧
 (di ns=true→Q (.exit 0) (av [2,5,6,7] [.int .i64 0,.list (en1 .i64 ns) t,.int .i64 (en1 .i64 ns).length,.int .i64 ns.length]) [])∧
 (di ns=false→∀ i:Int,Q .ret (av [2,5,6,7] [.int .i64 2,.list (en1 .i64 ns) t,.int .i64 (en1 .i64 ns).length,.int .i64 i]) [])
def wrong (ns:List Int):Int:=if di ns=true then 0 else 2
def iR (args:List PV) (K:PV→Prop):Prop:=match args with
 | [.list es t]=>∃ ns,es=en1 .i64 ns∧fL ns∧NT t∧K (.int .i64 (wrong ns))
 | _=>False
theorem xz (ns:List Int) (t:Tail) (i:Nat):(by refine(?_:_→_→_→Prop) (↑(List.length (en1 .i64 ns)):Int) (List.getD (en1 .i64 ns) (Int.toNat (i:Int)) []) (PV.list (en1 .i64 ns) t); exact fun a b c=>∀(R:Ex→List PV→ae→Prop),(br (decide ((i:Int)<a)) (InL (en1 .i64 ns) 1 (i:Int)∧br (true && aP [.int .i64] 0 b) (br (cI b 0 != within (cI b 0)) (R .ret [.int .i64 2,c,.int .i64 a,.int .i64 i] []) (R .normal [.int .i64 0,c,.int .i64 a,.int .i64 (wI ((i:Int)+1))] [])) False) (R (.exit 0) [.int .i64 0,c,.int .i64 a,.int .i64 i] []))→Holds (wpc br Tryd.prog gl T4 [] (fun _=>0) (an [1,0,1,0] (ai Tryd.f73)) [] (av [2,5,6,7] [.int .i64 0,c,.int .i64 (en1 .i64 ns).length,.int .i64 i]) [] (fun ex e H=>R ex (List.map e [2,5,6,7]) H)):Prop):=fun R h=>ag (by kernel_rfl) h
theorem tI {ns:List Int} {i:Nat} (h:i<ns.length):di (ns.drop i)=((ns.getD i 0 == within (ns.getD i 0)) && di (ns.drop (i+1))):=by rw[r5 h]; rfl
theorem uP:∀ e H Q,vF e H Q→AW Tryd.prog gl Tryd.f73.ntmps (.loop (an [1,0,1,0] (ai Tryd.f73))) Q e H:=by
 rintro e H Q ⟨ns,t,hl,he,hH,hQ,hR⟩
 refine aG (hn:=fun _=>0) aq BB (.nil _ _ _ _ _) (σ:=Nat) [2,5,6,7] (fun i=>i≤ns.length∧di (ns.drop i)=di ns) (fun i=>[.int .i64 0,.list (en1 .i64 ns) t,.int .i64 (en1 .i64 ns).length,.int .i64 i])
  (fun _=>[]) (fun i=>ns.length-i) 0 ⟨Nat.zero_le _,rfl⟩ he hH ?_
 rintro i ⟨h1,h2⟩
 refine xz ns t i _ ?_
 simp only[ay,decide_eq_true_eq,bW,toNat_cast,tW,bne_iff_ne]
 by_cases c:i<ns.length
 ·rw[if_pos (by omega),qU _ _ _ c]
  refine⟨uX _ _ _ (by omega) (by omega),?_⟩
  simp only[Bool.and_self,if_true]
  rw[tI c] at h2
  by_cases d:ns.getD i 0=within (ns.getD i 0)
  ·rw[if_neg (fun k=>k d)]
   rw[show(ns.getD i 0 == within (ns.getD i 0))=true by simpa using d,Bool.true_and] at h2
   refine⟨i+1,(by omega:ns.length-(i+1)<ns.length-i),⟨by omega,h2⟩,?_,[],rfl,Nat.le_refl _,.inl rfl⟩
   rw[ax c hl]
  ·rw[if_pos d]
   rw[show(ns.getD i 0 == within (ns.getD i 0))=false by simpa using d,Bool.false_and] at h2
   have:=hR h2.symm i
   rw[bW] at this
   exact this
 ·rw[if_neg (by omega)]
  have e:i=ns.length:=by omega
  subst e
  rw[List.drop_length] at h2
  have:=hQ h2.symm
  rw[bW] at this
  exact this
theorem DH (ns:List Int) (t:Tail)  (K:PV→Prop) (h:∃(ns_1:List Int) (t_1:Tail),fL ns_1∧ak [.int .i64 0,.list (en1 .i64 ns) t,.int .i64 (↑(List.length (en1 .i64 ns)):Int),.int .i64 0] [.int .i64 0,.list (en1 .i64 ns_1) t_1,.int .i64 (↑(List.length (en1 .i64 ns_1)):Int),.int .i64 0]∧az [] []∧(di ns_1=true→K (.int .i64 0))∧(di ns_1=false→∀(_:Int),K (.int .i64 2))):aj Tryd.prog gl 73 [.list (en1 .i64 ns) t] [] (fun x _=>K x):=
 ah (T:=T4) (L:=[([1,0,1,0],vF)]) (fun _=>0) Tryd.func73 (by kernel_rfl) (by kernel_rfl) (by kernel_rfl) (BB) (.cons (aH (by kernel_rfl)) uP (.nil _ _ _ _ _)) (ag (by kernel_rfl) h)
theorem oX:aO Tryd.prog gl 73 (.pure iR):=by
 intro args K h
 unfold iR at h
 split at h
 ·rename_i es t
  obtain⟨ns,rfl,hl,ht,h⟩:=h
  refine eM aq (by simp[ej ht]) (.int _ _) (DH ns t _ ?_) h
  refine⟨ns,t,hl,rfl,rfl,fun k=>?_,fun k i=>?_⟩
  ·unfold wrong; rw[if_pos k]
  ·unfold wrong; rw[if_neg (by rw[k]; decide)]
 ·exact h.elim
def T5:Tab:=(73,.pure iR)::T4
theorem Cu:aB Tryd.prog gl T5:= .cons oX BB
def jB (n:Int) (p:Int):Int→List Int→List Int
 | _,[]=>[]
 | k,r::l=>within (r+shr p n k)::jB n p (k+1) l
def shd (ns:List Int) (p:Int):List Int:=jB ns.length p 0 ns
theorem mF (n p:Int):∀(k:Int) (l:List Int),(jB n p k l).length=l.length
 | _,[]=>rfl
 | k,r::l=>by simp only[jB,List.length_cons,mF n p (k+1) l]
theorem rM (n p:Int):∀(l:List Int) (k:Int) (i:Nat),i<l.length→(jB n p k l).getD i 0=within (l.getD i 0+shr p n (k+i))
 | [],_,_,h=>by simp at h
 | r::l,k,0,_=>by simp[jB]
 | r::l,k,i+1,h=>by
  have:=rM n p l (k+1) i (by simpa using h)
  simp only[jB,List.getD_cons_succ,this]
  congr 3; omega
def Ten (ns:List Int):Prop:=ns.length≤1000
def Rt (ns:List Int):Prop:=∀ r∈ns,0≤r∧r≤10000
def rK:LSp:=fun e H Q=>∃(ns:List Int) (t:Tail) (p:Int),Ten ns∧P41 p∧Rt ns∧ak (List.map e [0,1,5,11,12,13]) [.list (en1 .i64 ns) t,.int .i64 p,.arr 0 0 ns.length ns.length,.list (en1 .i64 ns) t,.int .i64 ns.length,.int .i64 0]∧az H [.cells ((List.replicate ns.length (0:Int)).map (PV.int .i64))]∧
 Q (.exit 0) (av [0,1,5,11,12,13] [.list (en1 .i64 ns) t,.int .i64 p,.arr 0 0 ns.length ns.length,.list (en1 .i64 ns) t,.int .i64 ns.length,.int .i64 ns.length]) [.cells ((shd ns p).map (PV.int .i64))]
theorem ux (ns xs:List Int) (t:Tail) (p:Int) (i:Nat):(by refine(?_:_→_→_→_→_→_→Prop) (List.map (PV.int .i64) xs) (List.getD (en1 .i64 ns) (Int.toNat (i:Int)) []) (PV.list (en1 .i64 ns) t) (0+Int.toNat (i:Int)*1) (PV.arr 0 0 ns.length ns.length) (PV.int .i64 ns.length); exact fun c d f g h j=>by refine(?_:_→_→Prop) [PV.int .i64 (within (wI (cI d 0+shr p (↑(List.length (en1 .i64 ns)):Int) (i:Int))))] [PV.list (en1 .i64 ns) t,.int .i64 p,h,f,j,.int .i64 i]; exact fun a b=>∀(R:Ex→List PV→ae→Prop),(br (decide ((i:Int)<(ns.length:Int))) (InL (en1 .i64 ns) 1 (i:Int)∧br (true && aP [.int .i64] 0 d) (P41 p∧(0≤(i:Int)∧(i:Int)<(ns.length:Int))∧br (1 == 1 && List.all a PV.one && decide (0+Int.toNat (i:Int)*1+1≤List.length c) && cE 0 0 g 1) (R .normal [f,.int .i64 p,h,f,j,.int .i64 (wI ((i:Int)+1))] [.cells (over c g a)]) False) False) (R (.exit 0) b [.cells c]))→Holds (wpc br Tryd.prog gl T5 [] (fun _=>0) (an [1,1,0,1,0] (ai Tryd.f76)) [] (av [0,1,5,11,12,13] b) [.cells (xs.map (PV.int .i64))] (fun ex e H=>R ex (List.map e [0,1,5,11,12,13]) H)):Prop):=fun R h=>ag (by kernel_rfl) h
theorem Rt.get {ns:List Int} (h:Rt ns) (i:Nat):0≤ns.getD i 0∧ns.getD i 0≤10000:=by
 rw[List.getD_eq_getElem?_getD]
 cases hq:ns[i]? with
 | none=>simp
 | some r=>exact h r (List.mem_iff_getElem?.2 ⟨i,hq⟩)
theorem F2 {ns:List Int} {p:Int} {i:Nat} (h:i<ns.length):(shd ns p).getD i 0=within (ns.getD i 0+shr p ns.length i):=by
 unfold shd; rw[rM _ _ _ _ _ h]; congr 3; omega
theorem eW (ns:List Int) (p:Int):(shd ns p).length=ns.length:=mF _ _ _ _
theorem take_set {xs T:List Int} {i:Nat} {v:Int} (hx:i<xs.length) (hT:i<T.length) (h:xs.take i=T.take i) (hv:T.getD i 0=v):(xs.set i v).take (i+1)=T.take (i+1):=by
 rw[List.take_succ_eq_append_getElem (by simpa using hx),List.take_succ_eq_append_getElem hT,List.take_set_of_le (Nat.le_refl _),h]
 congr 1
 rw[List.getElem_set_self]
 rw[List.getD_eq_getElem?_getD,List.getElem?_eq_getElem hT] at hv
 simp only[Option.getD_some] at hv
 rw[hv]
theorem rJ:∀ e H Q,rK e H Q→AW Tryd.prog gl Tryd.f76.ntmps (.loop (an [1,1,0,1,0] (ai Tryd.f76))) Q e H:=by
 rintro e H Q ⟨ns,t,p,hl,hp,hr,he,hH,hQ⟩
 have hten:ns.length≤1000:=hl
 refine aG (hn:=fun _=>0) aq Cu (.nil _ _ _ _ _) (σ:=Nat×List Int) [0,1,5,11,12,13] (fun s=>s.1≤ns.length∧s.2.length=ns.length∧s.2.take s.1=(shd ns p).take s.1)
  (fun s=>[.list (en1 .i64 ns) t,.int .i64 p,.arr 0 0 ns.length ns.length,.list (en1 .i64 ns) t,.int .i64 ns.length,.int .i64 s.1])
  (fun s=>[.cells (s.2.map (PV.int .i64))]) (fun s=>ns.length-s.1) (0,List.replicate ns.length 0) ⟨Nat.zero_le _,by simp,by simp⟩ he hH ?_
 rintro⟨i,xs⟩ ⟨h1,h2,h3⟩
 simp only at h1 h2 h3
 refine ux ns xs t p i _ ?_
 have hsr:=yK (p:=p) (m:=ns.length) (k:=i) hp
 have hg:=hr.get i
 have hs0:ns.getD i 0+shr p ns.length i≤9223372036854775807:=by omega
 simp only[ay,decide_eq_true_eq,bW,toNat_cast,tW,Nat.mul_one,Nat.zero_add,B3]
 by_cases c:i<ns.length
 ·rw[if_pos (by omega),qU _ _ _ c,a8 (n:=ns.getD i 0+shr p ns.length i) (by omega) (by omega)]
  refine⟨uX _ _ _ (by omega) (by omega),?_⟩
  rw[if_pos (by rfl:(true && true)=true)]
  refine⟨hp,⟨by omega,by omega⟩,?_⟩
  rw[if_pos (by simp[PV.one,cE,Nat.blt]; omega),xI _ _ _ _ (by omega)]
  refine⟨(i+1,xs.set i (within (ns.getD i 0+shr p ns.length i))),(by simp only; omega),⟨by simp only; omega,by simpa using h2,?_⟩,?_,[],rfl,Nat.le_refl _,.inl rfl⟩
  ·exact take_set (by omega) (by rw[eW]; omega) h3 (F2 c)
  ·rw[ax c (by omega)]
 ·rw[if_neg (by omega)]
  have e:i=ns.length:=by omega
  subst e
  rw[← h2,List.take_length,h2,← eW ns p,List.take_length] at h3
  subst h3
  exact hQ
theorem yE (ns:List Int) (t:Tail) (p:Int):(by refine(?_:_→_→Prop) (↑(List.length (en1 .i64 ns)):Int) (PV.list (en1 .i64 ns) t); exact fun a b=>∀(K:PV→ae→Prop),(0≤a∧a≤a∧a≤140737488355328∧a*8≤140737488355328∧∃(ns_1:List Int) (t_1:Tail) (p_1:Int),Ten ns_1∧P41 p_1∧Rt ns_1∧ak [b,.int .i64 p,.arr 0 0 (Int.toNat a) (Int.toNat a),b,.int .i64 a,.int .i64 0] [.list (en1 .i64 ns_1) t_1,.int .i64 p_1,.arr 0 0 ns_1.length ns_1.length,.list (en1 .i64 ns_1) t_1,.int .i64 ns_1.length,.int .i64 0]∧az [.cells (List.flatten (List.replicate (Int.toNat a) [.int .i64 0]))] [.cells (List.map (PV.int .i64) (List.replicate ns_1.length 0))]∧K (.arr 0 0 ns_1.length ns_1.length) [.cells (List.map (PV.int .i64) (shd ns_1 p_1))])→aj Tryd.prog gl 76 [b,.int .i64 p] [] K:Prop):=fun K h=>ah (T:=T5) (L:=[([1,1,0,1,0],rK)]) (fun _=>0) Tryd.func76 (by kernel_rfl) (by kernel_rfl) (by kernel_rfl) (Cu) (.cons (aH (by kernel_rfl)) rJ (.nil _ _ _ _ _)) (ag (by kernel_rfl) h)
def oB (args:List PV) (K:PV→Prop):Prop:=match args with
 | [.list es t,.int .i64 p]=>∃ ns,es=en1 .i64 ns∧Ten ns∧P41 p∧Rt ns∧NT t∧K (.list (en1 .i64 (shd ns p)) .no)
 | _=>False
theorem xE:aO Tryd.prog gl 76 (.pure oB):=by
 intro args K h
 unfold oB at h
 split at h
 ·rename_i es t p
  obtain⟨ns,rfl,hl,hp,hr,ht,h⟩:=h
  have hten:ns.length≤1000:=hl
  refine eM aq (by simp[ej ht,dY]) (ej NT.no) (o8 (K:=fun x=>x = .list (en1 .i64 (shd ns p)) .no) (yE ns t p _ ?_)) h
  simp only[bW]
  refine⟨by omega,by omega,by omega,by omega,ns,t,p,hl,hp,hr,rfl,?_,?_⟩
  ·show _=_
   rw[toNat_cast,zS]
  ·exact⟨0,ns.length,ns.length,1,_,[],en1 .i64 (shd ns p),rfl,rfl,wF _ _,by rw[bW,eW],Nat.le_refl _,by rw[sv,List.append_nil],rfl⟩
 ·exact h.elim
def T6:Tab:=(76,.pure oB)::T5
theorem KX:aB Tryd.prog gl T6:= .cons xE Cu
def upd (a b:List Int) (r:Int):List Int×List Int×Int:=
 if a.length<1∨b.length<1∨a.length>4∨b.length>4 then([],[],21)
 else if di a=false∨di b=false∨r<0∨r>2 then([],[],2)
 else(shd a (stk (fk a) (fk b) (mnI a.length b.length) r),shd b (-(stk (fk a) (fk b) (mnI a.length b.length) r)),0)
def oQ (a b:List Int) (r:Int):PV:= .tup [.list (en1 .i64 (upd a b r).1) .no,.list (en1 .i64 (upd a b r).2.1) .no,.int .i64 (upd a b r).2.2]
def HH (args:List PV) (K:PV→Prop):Prop:=match args with
 | [.list es t,.list fs u,.int .i64 r]=>∃ a b,es=en1 .i64 a∧fs=en1 .i64 b∧fL a∧fL b∧NT t∧NT u∧K (oQ a b r)
 | _=>False
theorem gX:∀ {ns:List Int},di ns=true→Rt ns
 | [],_=>fun r h=>by simp at h
 | r::l,h=>by
  simp only[di,Bool.and_eq_true,beq_iff_eq] at h
  intro q hq
  rcases List.mem_cons.1 hq with rfl|hq
  ·have:=cV q; omega
  ·exact gX h.2 q hq
theorem xQ (a b:List Int) (t u:Tail) (r:Int):(by refine(?_:_→_→Prop) (↑(List.length (en1 .i64 a)):Int) (↑(List.length (en1 .i64 b)):Int); exact fun g h=>∀(K:PV→Prop),by refine(?_:_→_→Prop) (K (.tup [.list [] .exact,.list [] .exact,.int .i64 2])) (K (.tup [.list [] .exact,.list [] .exact,.int .i64 21])); exact fun e f=>(br (decide (mnI g h<1) == false) (br (decide (mxI g h>4)) f (∃(ns:List Int),en1 .i64 a=en1 .i64 ns∧fL ns∧NT t∧br ((wrong ns != 0) == false) (∃(ns:List Int),en1 .i64 b=en1 .i64 ns∧fL ns∧NT u∧br ((wrong ns != 0) == false) (br (decide (r<0) == false) (br (decide (r>2)) e (∃(ns:List Int),en1 .i64 a=en1 .i64 ns∧fL ns∧NT t∧∃(ns_1:List Int),by refine(?_:_→_→Prop) (wI (0-stk (fk ns) (fk ns_1) (mnI g h) r)) (stk (fk ns) (fk ns_1) (mnI g h) r); exact fun c d=>en1 .i64 b=en1 .i64 ns_1∧fL ns_1∧NT u∧∃(ns_2:List Int),en1 .i64 a=en1 .i64 ns_2∧Ten ns_2∧P41 d∧Rt ns_2∧NT t∧∃(ns_3:List Int),en1 .i64 b=en1 .i64 ns_3∧Ten ns_3∧P41 c∧Rt ns_3∧NT u∧K (.tup [.list (en1 .i64 (shd ns_2 d)) .no,.list (en1 .i64 (shd ns_3 c)) .no,.int .i64 0]))) e) e) e)) f)→aj Tryd.prog gl 49 [.list (en1 .i64 a) t,.list (en1 .i64 b) u,.int .i64 r] [] (fun x _=>K x):Prop):=fun K h=>ah (T:=T6) (L:=[]) (fun _=>0) Tryd.func49 (by kernel_rfl) (by kernel_rfl) (by kernel_rfl) (KX) (LOk.nil _ _ _ _ _) (ag (by kernel_rfl) h)
theorem yD:aO Tryd.prog gl 49 (.pure HH):=by
 intro args K h
 unfold HH at h
 split at h
 ·rename_i es t fs u r
  obtain⟨a,b,rfl,rfl,ha,hb,ht,hu,h⟩:=h
  have hlow:Low 0 (oQ a b r):= .tup _ (by simp[dY,ej NT.no])
  refine eM aq (by simp[ej ht,ej hu,dY]) hlow (bA (K:=fun x _=>x=oQ a b r) (xQ a b t u r (fun x=>∃ x',Wk x x'∧x'=oQ a b r) ?_)) h
  have nilw:∀ e:Int,Wk (.tup [.list [] .exact,.list [] .exact,.int .i64 e]) (.tup [.list (en1 .i64 []) .no,.list (en1 .i64 []) .no,.int .i64 e]):=fun e=>
   .tup (.cons (.list _ _) (.cons (.list _ _) (.cons (.refl _) .nil)))
  have bad:∀ e:Int,upd a b r=([],[],e)→∃ x',Wk (.tup [.list [] .exact,.list [] .exact,.int .i64 e]) x'∧x'=oQ a b r:=fun e he=>⟨_,nilw e,by unfold oQ; rw[he]⟩
  simp only[ay,bW]
  by_cases c1:mnI (a.length:Int) b.length<1
  ·rw[if_neg (by simp[c1])]
   exact bad 21 (by unfold upd; rw[if_pos (by unfold mnI at c1; split at c1<;>omega)])
  ·rw[if_pos (by simp; omega)]
   by_cases c2:mxI (a.length:Int) b.length>4
   ·rw[if_pos (by simpa using c2)]
    exact bad 21 (by unfold upd; rw[if_pos (by unfold mxI at c2; split at c2<;>omega)])
   ·rw[if_neg (by simpa using c2)]
    have hlens:¬ (a.length<1∨b.length<1∨a.length>4∨b.length>4):=by
     unfold mnI at c1; unfold mxI at c2
     split at c1<;>split at c2<;>omega
    have b2:(di a=false∨di b=false∨r<0∨r>2)→upd a b r=([],[],2):=fun hc=>by unfold upd; rw[if_neg hlens,if_pos hc]
    refine⟨a,rfl,ha,ht,?_⟩
    by_cases w1:di a=true
    ·rw[if_pos (by simp[wrong,w1])]
     refine⟨b,rfl,hb,hu,?_⟩
     by_cases w2:di b=true
     ·rw[if_pos (by simp[wrong,w2])]
      by_cases r1:r<0
      ·rw[if_neg (by simp[r1])]; exact bad 2 (b2 (.inr (.inr (.inl r1))))
      ·rw[if_pos (by simp; omega)]
       by_cases r2:r>2
       ·rw[if_pos (by simpa using r2)]; exact bad 2 (b2 (.inr (.inr (.inr r2))))
       ·rw[if_neg (by simpa using r2)]
        have hr:=xP (fk a) (fk b) (mnI a.length b.length) r
        have e0:wI (0-stk (fk a) (fk b) (mnI a.length b.length) r) = -(stk (fk a) (fk b) (mnI a.length b.length) r):=by rw[a8 (by omega) (by omega)]; omega
        have e1:upd a b r=(shd a (stk (fk a) (fk b) (mnI a.length b.length) r),shd b (-(stk (fk a) (fk b) (mnI a.length b.length) r)),0):=by
         unfold upd; rw[if_neg hlens,if_neg (by simp[w1,w2]; omega)]
        refine⟨a,rfl,ha,ht,b,rfl,hb,hu,a,rfl,(by unfold Ten; omega),⟨by omega,by omega⟩,gX w1,ht,b,rfl,(by unfold Ten; omega),?_,gX w2,hu,_,.refl _,?_⟩
        ·rw[e0]; exact⟨by omega,by omega⟩
        ·rw[e0]; unfold oQ; rw[e1]
     ·rw[if_neg (by simp[wrong,w2])]
      exact bad 2 (b2 (.inr (.inl (by simpa using w2))))
    ·rw[if_neg (by simp[wrong,w1])]
     exact bad 2 (b2 (.inl (by simpa using w1)))
 ·exact h.elim
theorem Ct (m k:Int) (hk:¬ k<0):shp 0 m k=0:=by unfold shp; simp[hk]
theorem FV (p m k:Int):shr (-p) m k = -(shr p m k):=by
 unfold shr
 by_cases c:k<0∨k≥m
 ·rw[if_pos c,if_pos c]; rfl
 ·rw[if_neg c,if_neg c]
  by_cases h:p<0
  ·rw[if_pos h,if_neg (by omega)]; omega
  ·by_cases h0:p=0
   ·subst h0; simp[Ct m k (by omega)]
   ·rw[if_neg h,if_pos (by omega),Int.neg_neg]
end Elo
end Go.Proofs.YtenaelaapdhbdaaDoor
