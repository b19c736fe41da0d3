/-
  Rows of a match.
-/
import Derived.Test.YtenaelaapdhbdaaDoorDf
import Derived.Test.YtenaelaapdhbdaaDoorProg
namespace Go.Proofs.YtenaelaapdhbdaaDoor
open Go Go.AM Go.Proofs
abbrev flR (l:List Rr):List PV:=(l.map rrc).flatten
def rwA (o cap:Nat) (r:Rr):List PV:=[.int .i64 r.tm,.arr o 0 r.pl.length cap,.int .i64 r.rt,.int .i64 r.wd]
def rsJ (o j cap:Nat) (l:List Rr):List (List PV):=(l.map rrc).set j (rwA o cap (l.getD j default))
def zrr:List PV:=[.int .i64 0,.list [] .exact,.int .i64 0,.int .i64 0]
def rsI (l:List Rr) (i:Nat):List (List PV):=(l.map rrc).take i++List.replicate (l.length-i) zrr
theorem ni (l:List Rr) (i:Nat):uni 4 (rsI l i):=by
 intro e he
 rcases List.mem_append.1 he with h1|h1
 ·obtain⟨a,_,rfl⟩:=List.mem_map.1 (List.mem_of_mem_take h1); rfl
 ·rw[(List.mem_replicate.1 h1).2]; rfl
theorem lf {l:List Rr} {i:Nat} (hi:i≤l.length):(rsI l i).length=l.length:=by
 unfold rsI; rw[List.length_append,List.length_take,List.length_map,List.length_replicate]; omega
theorem kM {n:Nat} (l:List Rr) (i:Nat):∀ x∈(rsI l i).flatten,Low n x:=by
 intro x hx
 obtain⟨e,he,hx⟩:=List.mem_flatten.1 hx
 rcases List.mem_append.1 he with h1|h1
 ·obtain⟨a,_,rfl⟩:=List.mem_map.1 (List.mem_of_mem_take h1); exact bG a x hx
 ·rw[(List.mem_replicate.1 h1).2] at hx
  exact kY (.int _ _) (aI NT.exact (by simp)) (.int _ _) (.int _ _) x hx
theorem F6 {s:Nat} {E:List (List PV)} (h:uni s E) {j:Nat} {xs:List PV} (hx:xs.length=s):uni s (E.set j xs):=by
 intro e he
 rcases List.mem_or_eq_of_mem_set he with h1|rfl
 ·exact h e h1
 ·exact hx
theorem ol {l:List Rr} {i:Nat} (hi:i<l.length):(rsI l i).set i (rrc (l.getD i default))=rsI l (i+1):=by
 unfold rsI
 have h1:((l.map rrc).take i).length=i:=by rw[List.length_take,List.length_map]; omega
 rw[List.set_append_right _ _ (by omega),h1,Nat.sub_self,show l.length-i=(l.length-(i+1))+1 by omega,List.replicate_succ,List.set_cons_zero,List.take_add_one,List.getElem?_map,List.getElem?_eq_getElem hi,List.getD_eq_getElem?_getD,List.getElem?_eq_getElem hi]
 simp
theorem rA (l:List Rr):rsI l l.length=l.map rrc:=by
 unfold rsI; rw[Nat.sub_self,List.take_of_length_le (by simp)]; simp
theorem sa {l:List Rr} {i:Nat} {E:List (List PV)} (hu:uni 4 E) (hE:E.length=l.length) (h:i<l.length):0+i*4+4≤E.flatten.length:=by
 rw[eo hu,hE]; omega
theorem sI {ρ:Nat→Nat} {m:Nat}:∀ {E E':List (List PV)},E.length=E'.length→(∀(k:Nat) (e e':List PV),E[k]?=some e→E'[k]?=some e'→aW ρ m e e')→aW ρ m E.flatten E'.flatten
 | [],[],_,_=> .nil
 | e::E,e'::E',hl,h=>(h 0 e e' rfl rfl).append (sI (by simpa using hl) fun k a b h1 h2=>h (k+1) a b h1 h2)
theorem ei {ρ:Nat→Nat} {n:Nat} {g:Ob} (hg:∀ cs,g = .cells cs→∀ x∈cs,Low 0 x):dj ρ n g g:=by
 cases g with
 | cells cs=>exact .cells (aW.low (hg cs rfl))
 | tok=>exact .tok
 | dead=>exact .dead _
 | abs r=>exact .abs r
theorem q4 {ρ:Nat→Nat} {m:Nat} {E:List (List PV)} (hE:∀ x∈E.flatten,Low 0 x) (j o cap:Nat) (r:Rr) (ho:o<m):aW ρ m (E.set j (rwA o cap r)).flatten (E.set j (rwA (ρ o) cap r)).flatten:=by
 refine sI (by simp) fun k e e' h1 h2=>?_
 rw[List.getElem?_set] at h1 h2
 by_cases c:j=k
 ·rw[if_pos c] at h1 h2
  split at h1
  ·rename_i hk
   rw[if_pos hk] at h2
   cases h1; cases h2
   exact .cons (.low (.int _ _)) (.cons (.arr (ρ:=ρ) o 0 _ cap ho) (.cons (.low (.int _ _)) (.cons (.low (.int _ _)) .nil)))
  ·cases h1
 ·rw[if_neg c] at h1 h2
  rw[h1] at h2; cases h2
  exact aW.low fun x hx=>hE x (List.mem_flatten.2 ⟨e,List.mem_iff_getElem?.2 ⟨k,h1⟩,hx⟩)
theorem wU {E:List (List PV)} (hE:∀ x∈E.flatten,Low 0 x) (j o cap n:Nat) (r:Rr) (ho:o<n):∀ x∈(E.set j (rwA o cap r)).flatten,Lid n x:=by
 intro x hx
 obtain⟨e,he,hx⟩:=List.mem_flatten.1 hx
 rcases List.mem_or_eq_of_mem_set he with h1|rfl
 ·exact .low (hE x (List.mem_flatten.2 ⟨e,h1,hx⟩))
 ·simp only[rwA,List.mem_cons,List.not_mem_nil,or_false] at hx
  rcases hx with rfl|rfl|rfl|rfl<;>first|exact .low (.int _ _)|exact .arr _ _ _ _ ho
theorem dF (l:List Rr) (i:Nat):InL (l.map rrc) 4 (i:Int)=(i<l.length):=cW fb (by decide) l i
def Gj:Tab:=[(70,.heap Ch),(60,.heap D7)]
theorem va:aB Tryd.prog gl Gj:= .cons Fm (.cons wE (.nil _ _))
theorem Cy (l:List Rr) (mc rc:List PV) (g:Ob) (i:Nat):(by refine(?_:_→_→_→_→_→_→Prop) (List.getD (l.map rrc) (Int.toNat (i:Int)) []) (Ob.cells [.int .u32 0,.int .i64 0,.int .u32 0,.list [] .exact,.list [] .exact]) (0+Int.toNat (i:Int)*4) (PV.arr 3 0 l.length l.length) (PV.list (l.map rrc) .no) (PV.int .i64 l.length); exact fun c d j m n q=>by refine(?_:_→_→_→_→_→_→Prop) [PV.ptr 0 0,.ptr 1 0,m,n,q,.int .i64 (wI ((i:Int)+1))] [PV.ptr 0 0,.ptr 1 0,m,n,q,.int .i64 i] [Ob.cells mc,d,g,.cells rc] (PV.int .i64 (cI c 0)) (PV.int .i64 (cI c 2)) (PV.int .i64 (cI c 3)); exact fun f h k p r s=>∀(R:Ex→List PV→ae→Prop),(br (decide ((i:Int)<(l.length:Int))) (InL (l.map rrc) 4 (i:Int)∧br (true && aP [.int .i64,.list,.int .i64,.int .i64] 0 c) (∃(l_1:List Int) (tl:Tail),by refine(?_:_→Prop) [p,.list (l_1.map u1) .no,r,s]; exact fun b=>ak [.list (cL c 1) (cT c 1)] [.list (l_1.map u1) tl]∧l_1.length≤1000000∧((0≤(i:Int)∧(i:Int)<(l.length:Int))∧br (4 == 4 && List.all b PV.one && decide (0+Int.toNat (i:Int)*4+4≤rc.length) && cE 0 3 j 4) (R .normal f [.cells mc,d,g,.cells (over rc j b),.cells b]) False∨l_1≠[]∧∀(cap:Nat),by refine(?_:_→Prop) [p,.arr 5 0 l_1.length cap,r,s]; exact fun a=>l_1.length≤cap→∀(J:List PV),aJ J (cap-l_1.length)→(0≤(i:Int)∧(i:Int)<(l.length:Int))∧br (4 == 4 && List.all a PV.one && decide (0+Int.toNat (i:Int)*4+4≤rc.length) && cE 0 3 j 4) (R .normal f [.cells mc,d,g,.cells (over rc j a),.cells a,.cells (List.flatten (l_1.map u1)++J)]) False)) False) (R (.exit 0) h k))→Holds (wpc br Tryd.prog gl Gj [] (fun o=>match o.dst with|some 28=>1|_=>0) (an [1,1,1,0,1,0] (ai Tryd.f43)) [] (av [1,2,3,15,16,17] h) k (fun ex e H=>R ex (List.map e [1,2,3,15,16,17]) H)):Prop):=fun R h=>ag (by kernel_rfl) h
theorem y7 (l:List Rr) (mc rc pj:List PV) (g:Ob) (i:Nat):(by refine(?_:_→_→_→_→_→_→Prop) (List.getD (l.map rrc) (Int.toNat (i:Int)) []) (Ob.cells [.int .u32 0,.int .i64 0,.int .u32 0,.list [] .exact,.list [] .exact]) (0+Int.toNat (i:Int)*4) (PV.arr 3 0 l.length l.length) (PV.list (l.map rrc) .no) (PV.int .i64 l.length); exact fun c d j m n q=>by refine(?_:_→_→_→_→_→_→Prop) [PV.ptr 0 0,.ptr 1 0,m,n,q,.int .i64 (wI ((i:Int)+1))] [PV.ptr 0 0,.ptr 1 0,m,n,q,.int .i64 i] [Ob.cells mc,d,g,.cells rc,.cells pj] (PV.int .i64 (cI c 0)) (PV.int .i64 (cI c 2)) (PV.int .i64 (cI c 3)); exact fun f h k p r s=>∀(R:Ex→List PV→ae→Prop),(br (decide ((i:Int)<(l.length:Int))) (InL (l.map rrc) 4 (i:Int)∧br (true && aP [.int .i64,.list,.int .i64,.int .i64] 0 c) (∃(l_1:List Int) (tl:Tail),by refine(?_:_→Prop) [p,.list (l_1.map u1) .no,r,s]; exact fun b=>ak [.list (cL c 1) (cT c 1)] [.list (l_1.map u1) tl]∧l_1.length≤1000000∧((0≤(i:Int)∧(i:Int)<(l.length:Int))∧br (4 == 4 && List.all b PV.one && decide (0+Int.toNat (i:Int)*4+4≤rc.length) && cE 0 3 j 4) (R .normal f [.cells mc,d,g,.cells (over rc j b),.cells pj,.cells b]) False∨l_1≠[]∧∀(cap:Nat),by refine(?_:_→Prop) [p,.arr 6 0 l_1.length cap,r,s]; exact fun a=>l_1.length≤cap→∀(J:List PV),aJ J (cap-l_1.length)→(0≤(i:Int)∧(i:Int)<(l.length:Int))∧br (4 == 4 && List.all a PV.one && decide (0+Int.toNat (i:Int)*4+4≤rc.length) && cE 0 3 j 4) (R .normal f [.cells mc,d,g,.cells (over rc j a),.cells pj,.cells a,.cells (List.flatten (l_1.map u1)++J)]) False)) False) (R (.exit 0) h k))→Holds (wpc br Tryd.prog gl Gj [] (fun o=>match o.dst with|some 28=>1|_=>0) (an [1,1,1,0,1,0] (ai Tryd.f43)) [] (av [1,2,3,15,16,17] h) k (fun ex e H=>R ex (List.map e [1,2,3,15,16,17]) H)):Prop):=fun R h=>ag (by kernel_rfl) h
def HpO (mc:List PV) (g:Ob) (l:List Rr) (j:Nat) (s:Nat×Nat×List PV):ae:=if s.1≤j then [.cells mc,.cells [.int .u32 0,.int .i64 0,.int .u32 0,.list [] .exact,.list [] .exact],g,.cells (rsI l s.1).flatten] else [.cells mc,.cells [.int .u32 0,.int .i64 0,.int .u32 0,.list [] .exact,.list [] .exact],g,.cells ((rsI l s.1).set j (rwA 4 s.2.1 (l.getD j default))).flatten,.cells s.2.2]
def RwJ (r:Rr) (cap:Nat) (pj:List PV):Prop:=r.pl.length≤cap∧∃ J:List PV,pj=(r.pl.map u1).flatten++J∧aJ J (cap-r.pl.length)
def HF:LSp:=fun e H Q=>∃(l:List Rr) (id md ins:Int) (y:PV) (g:Ob) (j:Nat),l.length≤1000000∧(∀ r∈l,r.pl.length≤1000000)∧(j<l.length→(l.getD j default).pl≠[])∧j≤l.length∧Lid 4 y∧(∀ cs,g = .cells cs→∀ x∈cs,Low 0 x)∧
 ak (List.map e [1,2,3,15,16,17]) [.ptr 0 0,.ptr 1 0,.arr 3 0 l.length l.length,.list (l.map rrc) .no,.int .i64 l.length,.int .i64 0]∧az H [.cells [.int .u32 id,.int .i64 md,.int .u32 ins,.list (l.map rrc) .no,y],.cells [.int .u32 0,.int .i64 0,.int .u32 0,.list [] .exact,.list [] .exact],g,.cells (List.replicate l.length zrr).flatten]∧
 (j=l.length→Q (.exit 0) (av [1,2,3,15,16,17] [.ptr 0 0,.ptr 1 0,.arr 3 0 l.length l.length,.list (l.map rrc) .no,.int .i64 l.length,.int .i64 l.length]) [.cells [.int .u32 id,.int .i64 md,.int .u32 ins,.list (l.map rrc) .no,y],.cells [.int .u32 0,.int .i64 0,.int .u32 0,.list [] .exact,.list [] .exact],g,.cells (flR l)])∧
 (j<l.length→∀(cap:Nat) (pj:List PV),RwJ (l.getD j default) cap pj→Q (.exit 0) (av [1,2,3,15,16,17] [.ptr 0 0,.ptr 1 0,.arr 3 0 l.length l.length,.list (l.map rrc) .no,.int .i64 l.length,.int .i64 l.length]) [.cells [.int .u32 id,.int .i64 md,.int .u32 ins,.list (l.map rrc) .no,y],.cells [.int .u32 0,.int .i64 0,.int .u32 0,.list [] .exact,.list [] .exact],g,.cells (rsJ 4 j cap l).flatten,.cells pj])
theorem qq:∀ x∈([.int .u32 0,.int .i64 0,.int .u32 0,.list [] .exact,.list [] .exact]:List PV),Low 0 x:=by
 intro y hy
 simp only[List.mem_cons,List.not_mem_nil,or_false] at hy
 rcases hy with rfl|rfl|rfl|rfl|rfl<;>first|exact .int _ _|exact aI NT.exact (by simp)
theorem RwJ.low {r:Rr} {cap:Nat} {pj:List PV} (h:RwJ r cap pj):∀ x∈pj,Low 0 x:=by
 obtain⟨_,J,rfl,hJ⟩:=h
 exact fi (fun a _=>bU a) hJ.low
theorem ze:∀ e H Q,HF e H Q→AW Tryd.prog gl Tryd.f43.ntmps (.loop (an [1,1,1,0,1,0] (ai Tryd.f43))) Q e H:=by
 rintro e H Q ⟨l,id,md,ins,y,g,j,hl,hpl,hne,hj,hy,hg,he,hH,hQ1,hQ2⟩
 obtain⟨mc,hmcd⟩:∃ mc:List PV,mc=[.int .u32 id,.int .i64 md,.int .u32 ins,.list (l.map rrc) .no,y]:=⟨_,rfl⟩
 have hmc:∀ x∈mc,Lid 4 x:=by
  intro x hx
  rw[hmcd] at hx
  simp only[List.mem_cons,List.not_mem_nil,or_false] at hx
  rcases hx with rfl|rfl|rfl|rfl|rfl<;>first|exact hy|exact .low (.int _ _)|exact .low (aQ _)
 rw[← hmcd] at hH hQ1 hQ2
 have he:List.map e [1,2,3,15,16,17]=_:=he
 have hH:H=_:=hH
 have lidv:∀(N i:Nat),4≤N→∀ v∈([.ptr 0 0,.ptr 1 0,.arr 3 0 l.length l.length,.list (l.map rrc) .no,.int .i64 l.length,.int .i64 i]:List PV),Lid N v:=by
  intro N i hN v hv
  simp only[List.mem_cons,List.not_mem_nil,or_false] at hv
  rcases hv with rfl|rfl|rfl|rfl|rfl|rfl
  ·exact .ptr _ _ (by omega)
  ·exact .ptr _ _ (by omega)
  ·exact .arr _ _ _ _ (by omega)
  ·exact .low (aQ _)
  ·exact .low (.int _ _)
  ·exact .low (.int _ _)
 have lid4:∀(E:List PV),(∀ x∈E,Low 0 x)→gQ 4 [.cells mc,.cells [.int .u32 0,.int .i64 0,.int .u32 0,.list [] .exact,.list [] .exact],g,.cells E]:=by
  intro E hE o cs ho
  have k1:=(List.getElem?_eq_some_iff.1 ho).1
  simp at k1
  have:o=0∨o=1∨o=2∨o=3:=by omega
  rcases this with rfl|rfl|rfl|rfl
  ·cases ho; exact hmc
  ·cases ho; exact fun x hx=> .low (qq x hx)
  ·exact fun x hx=> .low (hg cs (by simpa using ho) x hx)
  ·cases ho; exact fun x hx=> .low (hE x hx)
 have lid5:∀(E pj:List PV),(∀ x∈E,Lid 5 x)→(∀ x∈pj,Low 0 x)→gQ 5 [.cells mc,.cells [.int .u32 0,.int .i64 0,.int .u32 0,.list [] .exact,.list [] .exact],g,.cells E,.cells pj]:=by
  intro E pj hE hp o cs ho
  have k1:=(List.getElem?_eq_some_iff.1 ho).1
  simp at k1
  have:o=0∨o=1∨o=2∨o=3∨o=4:=by omega
  rcases this with rfl|rfl|rfl|rfl|rfl
  ·cases ho; exact fun x hx=>(hmc x hx).up (by decide)
  ·cases ho; exact fun x hx=> .low (qq x hx)
  ·exact fun x hx=> .low (hg cs (by simpa using ho) x hx)
  ·cases ho; exact hE
  ·cases ho; exact fun x hx=> .low (hp x hx)
 have h00:(List.replicate l.length zrr).flatten=(rsI l 0).flatten:=by unfold rsI; simp
 refine fe (hn:=fun o=>match o.dst with|some 28=>1|_=>0) aq va (.nil _ _ _ _ _) (σ:=Nat×Nat×List PV) [1,2,3,15,16,17] (fun s=>s.1≤l.length∧(j<s.1→RwJ (l.getD j default) s.2.1 s.2.2))
  (fun s=>[.ptr 0 0,.ptr 1 0,.arr 3 0 l.length l.length,.list (l.map rrc) .no,.int .i64 l.length,.int .i64 s.1]) (HpO mc g l j) (fun s=>l.length-s.1) (0,0,[]) ⟨Nat.zero_le _,fun h=>absurd h (Nat.not_lt_zero _)⟩ he (by rw[hH,h00]; unfold HpO; rw[if_pos (Nat.zero_le _)]) ?_
 have hHl:H.length=4:=by rw[hH]; rfl
 rw[hHl]
 rintro⟨i,cap,pj⟩ ⟨hi,hc⟩
 have hi:i≤l.length:=hi
 have hc:j<i→RwJ (l.getD j default) cap pj:=hc
 by_cases h:i<l.length
 ·obtain⟨r,hr⟩:∃ r,r=l.getD i default:=⟨_,rfl⟩
  have c0:cI (rrc r) 0=r.tm:=rfl
  have c1:cL (rrc r) 1=r.pl.map u1:=rfl
  have c1':cT (rrc r) 1 = .no:=rfl
  have c2:cI (rrc r) 2=r.rt:=rfl
  have c3:cI (rrc r) 3=r.wd:=rfl
  have hrl:r.pl.length≤1000000:=hpl r (by rw[hr]; exact bj h)
  have hru:rrc r=[.int .i64 r.tm,.list (r.pl.map u1) .no,.int .i64 r.rt,.int .i64 r.wd]:=rfl
  by_cases hij:i≤j
  ·unfold HpO
   rw[if_pos hij]
   refine Cy l mc (rsI l i).flatten g i _ ?_
   simp only[ay,dt,au,dF]
   rw[if_pos (by omega)]
   simp only[getD_map default h,← hr,c0,c1,c1',c2,c3]
   refine⟨h,?_⟩
   rw[if_pos (by rfl)]
   have hsz:decide (0+i*4+4≤(rsI l i).flatten.length)=true:=decide_eq_true (sa (ni l i) (lf hi) h)
   have hset:over (rsI l i).flatten (0+i*4) (rrc r)=(rsI l (i+1)).flatten:=by
    rw[← ol h,← hr,Nat.zero_add]; exact(fM (ni l i) (by rw[lf hi]; exact h) rfl).symm
   refine⟨r.pl,.no,rfl,hrl,?_⟩
   by_cases hjj:i=j
   ·subst hjj
    refine .inr ⟨by rw[hr]; exact hne h,fun cap' hcap J hJ=>⟨⟨by omega,by omega⟩,?_⟩⟩
    rw[if_pos (by rw[hsz]; rfl)]
    have hseto:∀ o,over (rsI l i).flatten (0+i*4) [.int .i64 r.tm,.arr o 0 r.pl.length cap',.int .i64 r.rt,.int .i64 r.wd]=((rsI l (i+1)).set i (rwA o cap' r)).flatten:=by
     intro o
     rw[← ol h,List.set_set,Nat.zero_add]; exact(fM (ni l i) (by rw[lf hi]; exact h) rfl).symm
    rw[hseto]
    refine⟨(i+1,cap',(r.pl.map u1).flatten++J),(show l.length-(i+1)<l.length-i by omega),⟨h,fun _=>by rw[← hr]; exact⟨hcap,J,rfl,hJ⟩⟩,?_⟩
    show dV 4 _ _ _ (HpO mc g l i (i+1,cap',_))
    unfold HpO
    rw[if_neg (by show ¬ i+1≤i; omega),← hr]
    have hρ:∀ o,o<4→[0,1,2,3,5].getD o 0=o:=by
     intro o ho
     have:o=0∨o=1∨o=2∨o=3:=by omega
     rcases this with rfl|rfl|rfl|rfl<;>rfl
    refine aS [0,1,2,3,5] (WkL.refl _) (.cons rfl (.cells (lC hρ (by simp) hmc)) (.cons rfl (.cells (aW.low qq)) (.cons rfl ?_ (.cons rfl (.cells ?_) (.cons rfl (.cells (aW.low (fi (fun a _=>bU a) hJ.low))) .nil))))) (by decide) (by simp) hρ ?_
    ·exact ei hg
    ·exact q4 (ρ:=fun o=>[0,1,2,3,5].getD o 0) (kM l (i+1)) i 4 cap' r (by simp)
    ·rw[ax h (by omega)]
     exact lC hρ (by simp) (lidv 4 (i+1) (Nat.le_refl _))
   ·refine .inl ⟨⟨by omega,by omega⟩,?_⟩
    rw[if_pos (by rw[hsz]; rfl),← hru,hset]
    refine⟨(i+1,cap,pj),(show l.length-(i+1)<l.length-i by omega),⟨h,fun k=>absurd (show j<i+1 from k) (by omega)⟩,?_⟩
    show dV 4 _ _ _ (HpO mc g l j (i+1,cap,pj))
    unfold HpO
    rw[if_pos (by show i+1≤j; omega),ax h (by omega)]
    exact ed (G:=[_]) (lid4 _ (kM l (i+1))) (lidv 4 (i+1) (Nat.le_refl _)) (Nat.le_refl _)
  ·have hp:=hc (by omega)
   unfold HpO
   rw[if_neg hij]
   have hu2:uni 4 ((rsI l i).set j (rwA 4 cap (l.getD j default))):=F6 (ni l i) rfl
   refine y7 l mc _ pj g i _ ?_
   simp only[ay,dt,au,dF]
   rw[if_pos (by omega)]
   simp only[getD_map default h,← hr,c0,c1,c1',c2,c3]
   refine⟨h,?_⟩
   rw[if_pos (by rfl)]
   have hsz:decide (0+i*4+4≤((rsI l i).set j (rwA 4 cap (l.getD j default))).flatten.length)=true:=decide_eq_true (sa hu2 (by rw[List.length_set,lf hi]) h)
   have hset:over ((rsI l i).set j (rwA 4 cap (l.getD j default))).flatten (0+i*4) (rrc r)=((rsI l (i+1)).set j (rwA 4 cap (l.getD j default))).flatten:=by
    rw[← ol h,← hr,Nat.zero_add,← fM hu2 (by rw[List.length_set,lf hi]; exact h) rfl,List.set_comm _ _ (by omega)]
   refine⟨r.pl,.no,rfl,hrl,.inl ⟨⟨by omega,by omega⟩,?_⟩⟩
   rw[if_pos (by rw[hsz]; rfl),← hru,hset]
   refine⟨(i+1,cap,pj),(show l.length-(i+1)<l.length-i by omega),⟨h,fun _=>hp⟩,?_⟩
   show dV 4 _ _ _ (HpO mc g l j (i+1,cap,pj))
   unfold HpO
   rw[if_neg (by show ¬ i+1≤j; omega),ax h (by omega)]
   exact ed (G:=[_]) (lid5 _ _ (wU (kM l (i+1)) _ _ _ _ _ (by decide)) hp.low) (lidv 5 (i+1) (by decide)) (by simp)
 ·have:i=l.length:=by omega
  subst this
  by_cases hij:l.length≤j
  ·have hj2:j=l.length:=by omega
   unfold HpO
   rw[if_pos hij]
   refine Cy l mc (rsI l l.length).flatten g l.length _ ?_
   simp only[ay,dt]
   rw[if_neg (by omega)]
   refine⟨_,_,ed (G:=[]) (lid4 _ (kM l l.length)) (lidv 4 l.length (Nat.le_refl _)) (Nat.le_refl _),?_⟩
   rw[rA]; exact hQ1 hj2
  ·have hp:=hc (by omega)
   unfold HpO
   rw[if_neg hij]
   refine y7 l mc _ pj g l.length _ ?_
   simp only[ay,dt]
   rw[if_neg (by omega)]
   refine⟨_,_,ed (G:=[]) (lid5 _ _ (wU (kM l l.length) _ _ _ _ _ (by decide)) hp.low) (lidv 5 l.length (by decide)) (by simp),?_⟩
   rw[rA]; exact hQ2 (by omega) cap pj hp
theorem Gu (c:Mt):(by refine(?_:_→_→_→_→Prop) (↑(List.length (c.rows.map rrc)):Int) (Ob.cells [.int .u32 0,.int .i64 0,.int .u32 0,.list [] .exact,.list [] .exact]) [PV.int .i64 0,.list [] .exact,.int .i64 0,.int .i64 0] (PV.list (c.rows.map rrc) .no); exact fun m n o s=>by refine(?_:_→_→Prop) [PV.ptr 0 0,.ptr 1 0,.arr 3 0 (Int.toNat m) (Int.toNat m),s,.int .i64 m,.int .i64 0] (Ob.cells (List.flatten (List.replicate (Int.toNat m) o))); exact fun p q=>∀(K:PV→ae→Prop),(∃(l:List Se) (tl:Tail),ak [.list (c.aa.map stc) .no] [.list (l.map stc) tl]∧l.length≤1000000∧(l=[]→0≤m∧m≤m∧m≤140737488355328∧m*48≤140737488355328∧∃(l:List Rr) (id:Int) (md:Int) (ins:Int) (y:PV) (g:Ob) (j:Nat),by refine(?_:_→_→_→Prop) (PV.arr 3 0 l.length l.length) (List.getD l j default) (PV.list (l.map rrc) .no); exact fun h i k=>by refine(?_:_→Prop) [PV.int .u32 id,.int .i64 md,.int .u32 ins,h,y]; exact fun f=>l.length≤1000000∧(∀(r:Rr),r∈l→r.pl.length≤1000000)∧(j<l.length→Rr.pl i≠[])∧j≤l.length∧Lid 4 y∧(∀(cs:List PV),g = .cells cs→∀(x:PV),x∈cs→Low 0 x)∧ak p [.ptr 0 0,.ptr 1 0,h,k,.int .i64 l.length,.int .i64 0]∧az [.cells [.int .u32 c.id,.int .i64 c.md,.int .u32 c.ins,s,.list [] .exact],n,.dead,q] [.cells [.int .u32 id,.int .i64 md,.int .u32 ins,k,y],n,g,.cells (List.flatten (List.replicate l.length o))]∧(j=l.length→br (5 == 5 && List.all f PV.one && true && true) (K (.agg f) [.cells f,.cells f,g,.cells (flR l)]) False)∧(j<l.length→∀(cap:Nat),∀(pj:List PV),RwJ i cap pj→br (5 == 5 && List.all f PV.one && true && true) (K (.agg f) [.cells f,.cells f,g,.cells (List.flatten (rsJ 4 j cap l)),.cells pj]) False))∧(l≠[]→∀(cap:Nat),∀(J:List PV),l.length≤cap→aJ J ((cap-l.length)*6)→0≤m∧m≤m∧m≤140737488355328∧m*48≤140737488355328∧∃(l_1:List Rr) (id:Int) (md:Int) (ins:Int) (y:PV) (g:Ob) (j:Nat),by refine(?_:_→_→_→Prop) (PV.arr 3 0 l_1.length l_1.length) (List.getD l_1 j default) (PV.list (l_1.map rrc) .no); exact fun b d e=>by refine(?_:_→Prop) [PV.int .u32 id,.int .i64 md,.int .u32 ins,b,y]; exact fun a=>l_1.length≤1000000∧(∀(r:Rr),r∈l_1→r.pl.length≤1000000)∧(j<l_1.length→Rr.pl d≠[])∧j≤l_1.length∧Lid 4 y∧(∀(cs:List PV),g = .cells cs→∀(x:PV),x∈cs→Low 0 x)∧ak p [.ptr 0 0,.ptr 1 0,b,e,.int .i64 l_1.length,.int .i64 0]∧az [.cells [.int .u32 c.id,.int .i64 c.md,.int .u32 c.ins,s,.arr 2 0 l.length cap],n,.cells (flS l++J),q] [.cells [.int .u32 id,.int .i64 md,.int .u32 ins,e,y],n,g,.cells (List.flatten (List.replicate l_1.length o))]∧(j=l_1.length→br (5 == 5 && List.all a PV.one && true && true) (K (.agg a) [.cells a,.cells a,g,.cells (flR l_1)]) False)∧(j<l_1.length→∀(cap:Nat),∀(pj:List PV),RwJ d cap pj→br (5 == 5 && List.all a PV.one && true && true) (K (.agg a) [.cells a,.cells a,g,.cells (List.flatten (rsJ 4 j cap l_1)),.cells pj]) False)))→aj Tryd.prog gl 43 [c.pv] [] K:Prop):=fun K h=>ah (T:=Gj) (L:=[([1,1,1,0,1,0],HF)]) (fun o=>match o.dst with|some 33=>1|_=>0) Tryd.func43 (by kernel_rfl) (by kernel_rfl) (by kernel_rfl) (va) (.cons (aH (by kernel_rfl)) ze (.nil _ _ _ _ _)) (ag (by kernel_rfl) h)
theorem lB {α:Type} {f:α→List PV} {n:Nat} (hf:∀ a,∀ x∈f a,Low n x) (l:List α):Low n (.list (l.map f) .exact):=aI NT.exact (bh fun a _=>hf a)
theorem fY {n:Nat} {a b c d e:PV} (ha:Low n a) (hb:Low n b) (hc:Low n c) (hd:Low n d) (he:Low n e):∀ x∈[a,b,c,d,e],Low n x:=by
 intro x hx
 simp only[List.mem_cons,List.not_mem_nil,or_false] at hx
 rcases hx with rfl|rfl|rfl|rfl|rfl<;>assumption
structure Mt.Sm (c:Mt):Prop where
 rows:c.rows.length≤1000000
 aa:c.aa.length≤1000000
 pl:∀ r∈c.rows,r.pl.length≤1000000
theorem ArS.lid {o n:Nat} {l:List Se} {y:PV} {g:Ob} (h:ArS o l y g) (ho:o<n):Lid n y:=by
 rcases h with⟨_,rfl,_⟩|⟨_,cap,J,rfl,_⟩
 ·exact .low (aI NT.exact (by simp))
 ·exact .arr _ _ _ _ ho
theorem ArS.mi {o:Nat} {l:List Se} {y:PV} {g:Ob} (h:ArS o l y g):∀ cs,g = .cells cs→∀ x∈cs,Low 0 x:=by
 intro cs e
 rcases h with⟨_,_,rfl⟩|⟨_,cap,J,_,rfl,_,hJ⟩
 ·cases e
 ·cases e; exact fi (fun a _=>cU a) hJ.low
theorem ArS.one {o:Nat} {l:List Se} {y:PV} {g:Ob} (h:ArS o l y g):y.one=true:=by
 rcases h with⟨_,rfl,_⟩|⟨_,cap,J,rfl,_⟩<;>rfl
theorem ArS.ren {o:Nat} {l:List Se} {y:PV} {g:Ob} (h:ArS o l y g) (o':Nat) {ρ:Nat→Nat} {n:Nat} (ho:o'<n) (hρ:ρ o'=o):∃ y',ArS o' l y' g∧Ren ρ n y' y:=by
 rcases h with⟨h1,rfl,rfl⟩|⟨h1,cap,J,rfl,rfl,h2,h3⟩
 ·exact⟨_,.inl ⟨h1,rfl,rfl⟩,.low (aI NT.exact (by simp))⟩
 ·refine⟨_,.inr ⟨h1,cap,J,rfl,rfl,h2,h3⟩,?_⟩
  have:=Ren.arr (ρ:=ρ) (n:=n) o' 0 l.length cap ho
  rwa [hρ] at this
theorem ArS.to {o:Nat} {l:List Se} {y:PV} {g:Ob} (h:ArS o l y g) (o':Nat) {ρ:Nat→Nat} {n:Nat} (ho:o<n) (hρ:ρ o=o'):∃ y',ArS o' l y' g∧Ren ρ n y y':=by
 rcases h with⟨h1,rfl,rfl⟩|⟨h1,cap,J,rfl,rfl,h2,h3⟩
 ·exact⟨_,.inl ⟨h1,rfl,rfl⟩,.low (aI NT.exact (by simp))⟩
 ·refine⟨_,.inr ⟨h1,cap,J,rfl,rfl,h2,h3⟩,?_⟩
  have:=Ren.arr (ρ:=ρ) (n:=n) o 0 l.length cap ho
  rwa [hρ] at this
theorem qF (c:Mt) (h:c.Sm) (j:Nat) (hj:j≤c.rows.length) (hne:j<c.rows.length→(c.rows.getD j default).pl≠[]) (K:PV→ae→Prop)
  (h1:j=c.rows.length→∀(y:PV) (g:Ob),ArS 2 c.aa y g→K (dR c (.arr 3 0 c.rows.length c.rows.length) y) [.cells [.int .u32 c.id,.int .i64 c.md,.int .u32 c.ins,.arr 3 0 c.rows.length c.rows.length,y],.cells [.int .u32 c.id,.int .i64 c.md,.int .u32 c.ins,.arr 3 0 c.rows.length c.rows.length,y],g,.cells (flR c.rows)])
  (h2:j<c.rows.length→∀(y:PV) (g:Ob) (cap:Nat) (pj:List PV),ArS 2 c.aa y g→RwJ (c.rows.getD j default) cap pj→K (dR c (.arr 3 0 c.rows.length c.rows.length) y) [.cells [.int .u32 c.id,.int .i64 c.md,.int .u32 c.ins,.arr 3 0 c.rows.length c.rows.length,y],.cells [.int .u32 c.id,.int .i64 c.md,.int .u32 c.ins,.arr 3 0 c.rows.length c.rows.length,y],g,.cells (rsJ 4 j cap c.rows).flatten,.cells pj]):
  aj Tryd.prog gl 43 [c.pv] [] K:=by
 have e1:(List.map rrc c.rows).length=c.rows.length:=List.length_map _
 have hr:=h.rows
 refine Gu c K ⟨c.aa,.no,rfl,h.aa,fun e=>?_,fun hn cap J hc hJ=>?_⟩
 ·have hA:ArS 2 c.aa (.list [] .exact) .dead:= .inl ⟨e,rfl,rfl⟩
  simp only[e1,ay,au]
  refine⟨by omega,by omega,by omega,by omega,c.rows,c.id,c.md,c.ins,.list [] .exact,.dead,j,h.rows,h.pl,hne,hj,hA.lid (by decide),hA.mi,rfl,rfl,fun k=>?_,fun k cap pj hp=>?_⟩
  ·rw[if_pos (by rfl)]; exact h1 k _ _ hA
  ·rw[if_pos (by rfl)]; exact h2 k _ _ cap pj hA hp
 ·have hA:ArS 2 c.aa (.arr 2 0 c.aa.length cap) (.cells (flS c.aa++J)):= .inr ⟨hn,cap,J,rfl,rfl,hc,hJ⟩
  simp only[e1,ay,au]
  refine⟨by omega,by omega,by omega,by omega,c.rows,c.id,c.md,c.ins,.arr 2 0 c.aa.length cap,.cells (flS c.aa++J),j,h.rows,h.pl,hne,hj,hA.lid (by decide),hA.mi,rfl,rfl,fun k=>?_,fun k cap pj hp=>?_⟩
  ·rw[if_pos (by rfl)]; exact h1 k _ _ hA
  ·rw[if_pos (by rfl)]; exact h2 k _ _ cap pj hA hp
theorem w5 (c:Mt) (h:c.Sm):aj Tryd.prog gl 43 [c.pv] [] (fun x H'=>∃(y:PV) (g:Ob),ArS 2 c.aa y g∧x=dR c (.list (c.rows.map rrc) .exact) y∧H'=[.dead,.dead,g,.dead]):=by
 refine bS (qF c h c.rows.length (Nat.le_refl _) (fun k=>absurd k (Nat.lt_irrefl _)) _ (fun _ y g hA=>?_) (fun k=>absurd k (Nat.lt_irrefl _)))
 refine⟨3,0,4,[],[],c.rows.map rrc,dR c (.list (c.rows.map rrc) .exact) y,[.dead,.dead,g,.dead],by simp,rfl,b9 fb _,⟨rfl,fun i b hb=>?_⟩,?_,y,g,hA,rfl,rfl⟩
 ·have k1:=(List.getElem?_eq_some_iff.1 hb).1
  simp at k1
  have:i=0∨i=1∨i=2∨i=3:=by omega
  rcases this with rfl|rfl|rfl|rfl
  ·cases hb; exact .inl rfl
  ·cases hb; exact .inl rfl
  ·exact .inr (.inl ⟨by decide,hb⟩)
  ·cases hb; exact .inl rfl
 ·have:=Fz.exact (o:=3) (off:=0) (es:=c.rows.map rrc)
  rw[List.length_map] at this
  exact Fz.gW (.cons (.refl _) (.cons (.refl _) (.cons (.refl _) (.cons this (.cons (.refl _) .nil)))))
theorem Hz (c:Mt) (h:c.Sm):aj Tryd.prog gl 43 [c.pv] [] (fun x _=>x=c.pv):=by
 by_cases e:c.aa=[]
 ·refine bA (aM (w5 c h) fun x H' hh=>?_)
  obtain⟨y,g,hA,rfl,rfl⟩:=hh
  rcases hA with⟨_,rfl,rfl⟩|⟨hn,_⟩
  ·refine⟨c.pv,?_,rfl⟩
   have:=iF (c:=c) (t1:= .exact) (t2:= .exact)
   rw[e] at this
   exact this
  ·exact absurd e hn
 ·refine bA (bS (aM (w5 c h) fun x H' hh=>?_))
  obtain⟨y,g,hA,rfl,rfl⟩:=hh
  rcases hA with⟨h0,_⟩|⟨_,cap,J,rfl,rfl,hc,hJ⟩
  ·exact absurd h0 e
  ·refine⟨2,0,6,[],J,c.aa.map stc,dR c (.list (c.rows.map rrc) .exact) (.list (c.aa.map stc) .no),[.dead,.dead,.dead,.dead],rfl,rfl,b9 bK _,⟨rfl,fun i b hb=>?_⟩,?_,c.pv,iF,rfl⟩
   ·have k1:=(List.getElem?_eq_some_iff.1 hb).1
    simp at k1
    have:i=0∨i=1∨i=2∨i=3:=by omega
    rcases this with rfl|rfl|rfl|rfl<;>(cases hb; exact .inl rfl)
   ·have:=Fz.arr (o:=2) (off:=0) (es:=c.aa.map stc) cap (by rw[List.length_map]; exact hc)
    rw[List.length_map] at this
    exact Fz.gW (.cons (.refl _) (.cons (.refl _) (.cons (.refl _) (.cons (.refl _) (.cons this .nil)))))
theorem KC (c:Mt) (k k' len cap:Nat):RA k k' (dR c (.list (c.rows.map rrc) .exact) (.arr k 0 len cap)) (dR c (.list (c.rows.map rrc) .exact) (.arr k' 0 len cap)):=
 RA.gW (.cons (.low (.int _ _)) (.cons (.low (.int _ _)) (.cons (.low (.int _ _)) (.cons (.low (lB bG _)) (.cons (.arr _ _ _) .nil)))))
def OwJ (c:Mt) (o j:Nat) (x:PV) (X:ae):Prop:=∃(y:PV) (g:Ob) (cap:Nat) (pj:List PV),ArS o c.aa y g∧RwJ (c.rows.getD j default) cap pj∧x=dR c (.arr (o+1) 0 c.rows.length c.rows.length) y∧X=[g,.cells (rsJ (o+2) j cap c.rows).flatten,.cells pj]
theorem KP (c:Mt) (h:c.Sm) (j:Nat) (hj:j<c.rows.length) (hne:(c.rows.getD j default).pl≠[]) (H:ae):aj Tryd.prog gl 43 [c.pv] H (fun x H'=>∃ X,OwJ c H.length j x X∧H'=H++X):=by
 refine a9 aq (X:=[]) (ρ:=fun o=>o) ⟨by simp,by simp,by simp⟩ (aW.low (bw c.low)) (b5 aq (qF c h j (by omega) (fun _=>hne) _ (fun k=>by omega) (fun _ y g cap pj hA hp=>?_)))
 obtain⟨y1,hA1,hr1⟩:=hA.ren 0 (ρ:=fun o=>o+2) (n:=3) (by decide) rfl
 obtain⟨y2,hA2,hr2⟩:=hA1.to H.length (ρ:=aN (fun o=>o) ([]:ae).length H.length) (n:=3) (by decide) (by simp[aN])
 have hlow:∀ x∈(List.map rrc c.rows).flatten,Low 0 x:=bh fun a _=>bG a
 have e1:aN (fun o=>o) ([]:ae).length H.length 1=H.length+1:=by simp[aN]
 have e2:aN (fun o=>o) ([]:ae).length H.length 2=H.length+2:=by simp[aN]
 refine⟨dR c (.arr 1 0 c.rows.length c.rows.length) y1,[g,.cells (rsJ 2 j cap c.rows).flatten,.cells pj],fun o=>o+2,⟨fun o ho=>by simp at ho ⊢; omega,fun a b _ _ e=>by have e:a+2=b+2:=e; omega,fun o a ho=>?_⟩,by simp,fun o ho=>by simp at ho,?_,
  dR c (.arr (H.length+1) 0 c.rows.length c.rows.length) y2,H++[g,.cells (rsJ (H.length+2) j cap c.rows).flatten,.cells pj],⟨by simp,by simp,fun o a ho=>?_,fun o hl _=>by rw[List.getElem?_append_left hl]⟩,?_,_,⟨y2,g,cap,pj,hA2,hp,rfl,rfl⟩,rfl⟩
 ·have k1:=(List.getElem?_eq_some_iff.1 ho).1
  simp at k1
  have:o=0∨o=1∨o=2:=by omega
  rcases this with rfl|rfl|rfl
  ·cases ho; exact⟨g,rfl,ei hA.mi⟩
  ·cases ho; exact⟨_,rfl,.cells (q4 (ρ:=fun o=>o+2) hlow j 2 cap _ (by simp))⟩
  ·cases ho; exact⟨_,rfl,.cells (aW.low hp.low)⟩
 ·exact Ren.gW (.cons (.low (.int _ _)) (.cons (.low (.int _ _)) (.cons (.low (.int _ _)) (.cons (.arr (ρ:=fun o=>o+2) 1 0 _ _ (by simp)) (.cons hr1 .nil)))))
 ·have k1:=(List.getElem?_eq_some_iff.1 ho).1
  simp at k1
  have:o=0∨o=1∨o=2:=by omega
  rcases this with rfl|rfl|rfl
  ·cases ho; exact⟨g,by simp[aN],ei hA.mi,fun h=>h⟩
  ·cases ho
   refine⟨.cells (rsJ (H.length+2) j cap c.rows).flatten,by simp[aN],.cells ?_,fun h=>h⟩
   have:=q4 (ρ:=aN (fun o=>o) ([]:ae).length H.length) (m:=3) hlow j 2 cap (c.rows.getD j default) (by simp)
   rw[e2] at this
   exact this
  ·cases ho; exact⟨.cells pj,by simp[aN],.cells (aW.low hp.low),fun h=>h⟩
 ·have:=Ren.arr (ρ:=aN (fun o=>o) ([]:ae).length H.length) (n:=3) 1 0 c.rows.length c.rows.length (by simp)
  rw[e1] at this
  exact Ren.gW (.cons (.low (.int _ _)) (.cons (.low (.int _ _)) (.cons (.low (.int _ _)) (.cons this (.cons hr2 .nil)))))
theorem Kk (c:Mt) (h:c.Sm) (H:ae):aj Tryd.prog gl 43 [c.pv] H (fun x H'=>∃(y:PV) (g:Ob),ArS H.length c.aa y g∧x=dR c (.arr (H.length+1) 0 c.rows.length c.rows.length) y∧H'=H++[g,.cells (flR c.rows)]):=by
 refine a9 aq (X:=[]) (ρ:=fun o=>o) ⟨by simp,by simp,by simp⟩ (aW.low (bw c.low)) (b5 aq (qF c h c.rows.length (Nat.le_refl _) (fun k=>absurd k (Nat.lt_irrefl _)) _ (fun _ y g hA=>?_) (fun k=>absurd k (Nat.lt_irrefl _))))
 obtain⟨y1,hA1,hr1⟩:=hA.ren 0 (ρ:=fun o=>o+2) (n:=2) (by decide) rfl
 obtain⟨y2,hA2,hr2⟩:=hA1.to H.length (ρ:=aN (fun o=>o) ([]:ae).length H.length) (n:=2) (by decide) (by simp[aN])
 have hlow:∀ x∈flR c.rows,Low 0 x:=bh fun a _=>bG a
 have e1:aN (fun o=>o) ([]:ae).length H.length 1=H.length+1:=by simp[aN]
 refine⟨dR c (.arr 1 0 c.rows.length c.rows.length) y1,[g,.cells (flR c.rows)],fun o=>o+2,⟨fun o ho=>by simp at ho ⊢; omega,fun a b _ _ e=>by have e:a+2=b+2:=e; omega,fun o a ho=>?_⟩,by simp,fun o ho=>by simp at ho,?_,
  dR c (.arr (H.length+1) 0 c.rows.length c.rows.length) y2,H++[g,.cells (flR c.rows)],⟨by simp,by simp,fun o a ho=>?_,fun o hl _=>by rw[List.getElem?_append_left hl]⟩,?_,y2,g,hA2,rfl,rfl⟩
 ·have k1:=(List.getElem?_eq_some_iff.1 ho).1
  simp at k1
  have:o=0∨o=1:=by omega
  rcases this with rfl|rfl
  ·cases ho; exact⟨g,rfl,ei hA.mi⟩
  ·cases ho; exact⟨_,rfl,.cells (aW.low hlow)⟩
 ·exact Ren.gW (.cons (.low (.int _ _)) (.cons (.low (.int _ _)) (.cons (.low (.int _ _)) (.cons (.arr (ρ:=fun o=>o+2) 1 0 _ _ (by simp)) (.cons hr1 .nil)))))
 ·have k1:=(List.getElem?_eq_some_iff.1 ho).1
  simp at k1
  have:o=0∨o=1:=by omega
  rcases this with rfl|rfl
  ·cases ho; exact⟨g,by simp[aN],ei hA.mi,fun h=>h⟩
  ·cases ho; exact⟨.cells (flR c.rows),by simp[aN],.cells (aW.low hlow),fun h=>h⟩
 ·have:=Ren.arr (ρ:=aN (fun o=>o) ([]:ae).length H.length) (n:=2) 1 0 c.rows.length c.rows.length (by simp)
  rw[e1] at this
  exact Ren.gW (.cons (.low (.int _ _)) (.cons (.low (.int _ _)) (.cons (.low (.int _ _)) (.cons this (.cons hr2 .nil)))))
def KW (args:List PV) (H:ae) (K:PV→ae→Prop):Prop:=∃(c:Mt) (t1 t2:Tail),ak args [.agg [.int .u32 c.id,.int .i64 c.md,.int .u32 c.ins,.list (c.rows.map rrc) t1,.list (c.aa.map stc) t2]]∧c.Sm∧
 (K c.pv H∨(∀(y:PV) (g:Ob),ArS H.length c.aa y g→K (dR c (.list (c.rows.map rrc) .exact) y) (H++[g]))∨
  (∀(y:PV) (g:Ob),ArS H.length c.aa y g→K (dR c (.arr (H.length+1) 0 c.rows.length c.rows.length) y) (H++[g,.cells (flR c.rows)]))∨
  (∃ j,j<c.rows.length∧(c.rows.getD j default).pl≠[]∧∀ x X,OwJ c H.length j x X→K x (H++X)))
theorem AP:aO Tryd.prog gl 43 (.heap KW):=by
 rintro args H K ⟨c,t1,t2,he,h,hk⟩
 have he:args=_:=he
 subst he
 refine bg (.cons iF .nil) ?_
 rcases hk with hk|hk|hk|⟨j,hj,hne,hk⟩
 ·exact aM (ix.alone aq (bw c.low) c.low (Hz c h) H) fun x H' e=>by obtain⟨rfl,rfl⟩:=e; exact hk
 ·by_cases e:c.aa=[]
  ·refine mQ (aM (ix.alone (r:=dR c (.list (c.rows.map rrc) .exact) (.list [] .exact)) aq (bw c.low) ?_ (aM (w5 c h) fun x H' hh=>?_) H) fun x H' e'=>?_)
   ·refine .agg _ (fY (.int _ _) (.int _ _) (.int _ _) (lB bG _) (aI NT.exact (by simp)))
   ·obtain⟨y,g,hA,rfl,rfl⟩:=hh
    rcases hA with⟨_,rfl,rfl⟩|⟨hn,_⟩
    ·rfl
    ·exact absurd e hn
   ·obtain⟨rfl,rfl⟩:=e'
    exact hk _ _ (.inl ⟨e,rfl,rfl⟩)
  ·refine Cg aq (dR c (.list (c.rows.map rrc) .exact)) (.cons (Wk.refl _) .nil) (bw c.low) (KC c) (aM (w5 c h) fun x H' hh=>?_)
   obtain⟨y,g,hA,rfl,rfl⟩:=hh
   have hg:=hA.mi
   rcases hA with⟨h0,_⟩|⟨_,cap,J,rfl,rfl,hc,hJ⟩
   ·exact absurd h0 e
   ·exact⟨2,_,cap,_,rfl,rfl,hg _ rfl,hk _ _ (.inr ⟨e,cap,J,rfl,rfl,hc,hJ⟩)⟩
 ·refine aM (Kk c h H) fun x H' hh=>?_
  obtain⟨y,g,hA,rfl,rfl⟩:=hh
  exact hk y g hA
 ·refine aM (KP c h j hj hne H) fun x H' hh=>?_
  obtain⟨X,hX,rfl⟩:=hh
  exact hk x X hX
end Go.Proofs.YtenaelaapdhbdaaDoor
