/-
  The document's Begin.
-/
import Derived.Test.YtenaelaapdhbdaaDoorDv
import Derived.Test.YtenaelaapdhbdaaDoorProg
namespace Go.Proofs.YtenaelaapdhbdaaDoor
open Go Go.AM Go.Proofs
theorem GU (w:List Mt) (b l:List Rr):∀(K:PV→Prop),(∃(w_1:List Mt) (b_1:List Rr) (l_1:List Rr) (sz:Bool),by refine(?_:_→_→_→_→_→Prop) (PV.list ([]++b_1.map rrc++l_1.map rrc) (.tok 1)) ([]++b_1.map rrc) (PV.list ([]++l_1.map rrc) (.tok 0)) (List.flatten (l_1.map rrc)) (WS.ids (wsR w_1 ws0 l_1)); exact fun d e f g h=>by refine(?_:_→_→Prop) (br h (K (.int .i64 14)) (br (sz || List.any l_1 bV) (K (.int .i64 21)) (br (WS.ex (wsR w_1 ws0 l_1)) (K (.int .i64 11)) (K (.int .i64 0))))) (br h (K (.int .i64 14)) (K (.int .i64 21))); exact fun a c=>SmM w_1∧(∀(r:Rr),r∈l_1→∀(p:Int),p∈r.pl→0≤p)∧l_1.length≤1000000∧tot l_1≤1000000∧ak [.list (w.map mtc) .no,.list (b.map rrc) .no,.list (l.map rrc) .no,.list [] .exact,.bool false,.bool ((↑(List.length (l.map rrc)):Int) == 0),.bool false,.int .i64 0] [.list (w_1.map mtc) .no,.list (b_1.map rrc) .no,.list (l_1.map rrc) .no,.list [] .exact,.bool false,.bool sz,.bool false,.int .i64 0]∧az [] []∧aX [] (b_1.map rrc) 4 48∧List.all (List.flatten (b_1.map rrc)) PV.one=true∧(b_1.map rrc=[]→aX [] (l_1.map rrc) 4 48∧List.all g PV.one=true∧(l_1.map rrc=[]→∃(l:List Rr) (tl:Tail) (t:Int),ak [.list [] .exact,.int .i64 1] [.list (l.map rrc) tl,.int .i64 t]∧l.length≤1000000∧tot l≤1000000∧br (decide ((↑(taken l t):Int)>4) == false) (∃(l:List Rr) (tl:Tail) (t:Int),ak [.list [] .exact,.int .i64 2] [.list (l.map rrc) tl,.int .i64 t]∧l.length≤1000000∧tot l≤1000000∧br (decide ((↑(taken l t):Int)>4)) c a) c)∧(l_1.map rrc≠[]→∃(l:List Rr) (tl:Tail) (t:Int),ak [f,.int .i64 1] [.list (l.map rrc) tl,.int .i64 t]∧l.length≤1000000∧tot l≤1000000∧br (decide ((↑(taken l t):Int)>4) == false) (∃(l:List Rr) (tl:Tail) (t:Int),ak [f,.int .i64 2] [.list (l.map rrc) tl,.int .i64 t]∧l.length≤1000000∧tot l≤1000000∧br (decide ((↑(taken l t):Int)>4)) c a) c))∧(b_1.map rrc≠[]→aX e (l_1.map rrc) 4 48∧List.all g PV.one=true∧(l_1.map rrc=[]→∃(l:List Rr) (tl:Tail) (t:Int),ak [.list e (.tok 0),.int .i64 1] [.list (l.map rrc) tl,.int .i64 t]∧l.length≤1000000∧tot l≤1000000∧br (decide ((↑(taken l t):Int)>4) == false) (∃(l:List Rr) (tl:Tail) (t:Int),ak [.list e (.tok 0),.int .i64 2] [.list (l.map rrc) tl,.int .i64 t]∧l.length≤1000000∧tot l≤1000000∧br (decide ((↑(taken l t):Int)>4)) c a) c)∧(l_1.map rrc≠[]→∃(l:List Rr) (tl:Tail) (t:Int),ak [d,.int .i64 1] [.list (l.map rrc) tl,.int .i64 t]∧l.length≤1000000∧tot l≤1000000∧br (decide ((↑(taken l t):Int)>4) == false) (∃(l:List Rr) (tl:Tail) (t:Int),ak [d,.int .i64 2] [.list (l.map rrc) tl,.int .i64 t]∧l.length≤1000000∧tot l≤1000000∧br (decide ((↑(taken l t):Int)>4)) c a) c)))→aj Tryd.prog gl 34 [.list (w.map mtc) .no,.list (b.map rrc) .no,.list (l.map rrc) .no] [] (fun x _=>K x):=fun K h=>ah (T:=TWF) (L:=[([1,1,1,0,1,0],HI)]) (fun o=>match o.dst with|some 79=>4|some 81=>4|_=>0) Tryd.func34 (by kernel_rfl) (by kernel_rfl) (by kernel_rfl) (jL) (.cons (aH (by kernel_rfl)) CN (.nil _ _ _ _ _)) (ag (by kernel_rfl) h)
theorem G2 (l:List Se) (i:Nat):(by refine(?_:_→_→Prop) (PV.list (l.map stc) .no) (PV.int .i64 (wI ((i:Int)+1))); exact fun j m=>by refine(?_:_→Prop) [j,.list [] .exact,.int .i64 i]; exact fun k=>∀(R:Ex→List PV→ae→Prop),(br (decide ((i:Int)<8)) (∃(l_1:List Se) (tl:Tail) (t:Int),by refine(?_:_→Prop) (List.getD (l.map stc) (Int.toNat (fh l_1 t)) []); exact fun a=>by refine(?_:_→_→_→_→_→Prop) (PV.int .i64 (cI a 1)) (PV.int .i64 (cI a 2)) (PV.int .i64 (cI a 3)) (PV.int .i64 (cI a 4)) (PV.int .u64 (cI a 5)); exact fun c d f g h=>by refine(?_:_→Prop) [[PV.int .u32 (cI a 0),c,d,f,g,h]]; exact fun b=>ak [j,.int .i64 i] [.list (l_1.map stc) tl,.int .i64 t]∧l_1.length≤1000000∧br (decide (fh l_1 t≥0)) (InL (l.map stc) 6 (fh l_1 t)∧br (true && aP [.int .u32,.int .i64,.int .i64,.int .i64,.int .i64,.int .u64] 0 a) (aX [] b 6 48∧(List.all [.int .u32 (cI a 0),c,d,f,g,h] PV.one=true∧b≠[])∧R .normal [j,.list b (.tok 0),m] [.tok]) False) (R .normal [j,.list [] .exact,m] [])) (R (.exit 0) k []))→Holds (wpc br Tryd.prog gl TRF [] (fun o=>match o.dst with|some 21=>1|_=>0) (an [1,1,0,1,0] (ai Tryd.f63)) [] (av [0,3,4] k) [] (fun ex e H=>R ex (List.map e [0,3,4]) H)):Prop):=fun R h=>ag (by kernel_rfl) h
theorem FH (l:List Se) (es:List (List PV)) (i:Nat):(by refine(?_:_→_→Prop) (PV.list (l.map stc) .no) (PV.int .i64 (wI ((i:Int)+1))); exact fun j m=>by refine(?_:_→Prop) [j,.list es (.tok 0),.int .i64 i]; exact fun k=>∀(R:Ex→List PV→ae→Prop),(br (decide ((i:Int)<8)) (∃(l_1:List Se) (tl:Tail) (t:Int),by refine(?_:_→Prop) (List.getD (l.map stc) (Int.toNat (fh l_1 t)) []); exact fun a=>by refine(?_:_→_→_→_→_→Prop) (PV.int .i64 (cI a 1)) (PV.int .i64 (cI a 2)) (PV.int .i64 (cI a 3)) (PV.int .i64 (cI a 4)) (PV.int .u64 (cI a 5)); exact fun c d f g h=>by refine(?_:_→Prop) [[PV.int .u32 (cI a 0),c,d,f,g,h]]; exact fun b=>ak [j,.int .i64 i] [.list (l_1.map stc) tl,.int .i64 t]∧l_1.length≤1000000∧br (decide (fh l_1 t≥0)) (InL (l.map stc) 6 (fh l_1 t)∧br (true && aP [.int .u32,.int .i64,.int .i64,.int .i64,.int .i64,.int .u64] 0 a) (aX es b 6 48∧(List.all [.int .u32 (cI a 0),c,d,f,g,h] PV.one=true∧b≠[])∧R .normal [j,.list (es++b) (.tok 1),m] [.dead,.tok]) False) (R .normal [j,.list es (.tok 0),m] [.tok])) (R (.exit 0) k [.tok]))→Holds (wpc br Tryd.prog gl TRF [] (fun o=>match o.dst with|some 21=>1|_=>0) (an [1,1,0,1,0] (ai Tryd.f63)) [] (av [0,3,4] k) [.tok] (fun ex e H=>R ex (List.map e [0,3,4]) H)):Prop):=fun R h=>ag (by kernel_rfl) h
def jQ (w:List Mt) (b l:List Rr):Int:=if(wsR w ws0 l).ids=true then 14 else if szW b l=true then 21 else if(wsR w ws0 l).ex=true then 11 else 0
theorem lX (l:List Rr):List.all (l.map rrc).flatten PV.one=true:=List.all_eq_true.2 iX
theorem iY {a b:List Rr} (h:a.length+b.length≤1000000):aX (a.map rrc) (b.map rrc) 4 48:=⟨b9 fb _,b9 fb _,by rw[List.length_map,List.length_map]; omega⟩
theorem IM {b l:List Rr} (h:¬ taken (b++l) 1>4):szW b l=(((l.length:Int) == 0) || l.any bV || decide ((taken (b++l) 2:Int)>4)):=by
 unfold szW mxI
 congr 1
 apply decide_eq_decide.2
 split<;>omega
theorem EO {b l:List Rr} (h:taken (b++l) 1>4):szW b l=true:=by
 unfold szW mxI
 rw[decide_eq_true (by split<;>omega),Bool.or_true]
def rZ (args:List PV) (K:PV→Prop):Prop:=∃(w:List Mt) (b l:List Rr) (t0 t1 t2:Tail),ak args [.list (w.map mtc) t0,.list (b.map rrc) t1,.list (l.map rrc) t2]∧SmM w∧(∀ r∈l,∀ p∈r.pl,0≤p)∧b.length+l.length≤1000000∧tot b+tot l≤1000000∧K (.int .i64 (jQ w b l))
theorem xZ:aO Tryd.prog gl 34 (.pure rZ):=by
 rintro args K ⟨w,b,l,t0,t1,t2,he,sw,h0,hl,ht,hk⟩
 have he:args=_:=he
 subst he
 have e1:(List.map rrc l).length=l.length:=List.length_map _
 refine bH aq (.cons (.list _ _) (.cons (.list _ _) (.cons (.list _ _) .nil))) (dK (bY w) (aQ b) (aQ l)) (.int _ _) (GU w b l (fun x=>x = .int .i64 (jQ w b l)) ⟨w,b,l,((l.length:Int) == 0),sw,h0,by omega,by omega,?_,rfl,?_⟩) hk
 ·show _=_
  rw[e1]
 have fin:∀(x:PV),(∃ tl,x = .list ((b++l).map rrc) tl)→∃(k:List Rr) (tl:Tail) (t:Int),ak [x,.int .i64 1] [.list (k.map rrc) tl,.int .i64 t]∧k.length≤1000000∧tot k≤1000000∧br (decide ((taken k t:Int)>4) == false)
   (∃(k:List Rr) (tl:Tail) (t:Int),ak [x,.int .i64 2] [.list (k.map rrc) tl,.int .i64 t]∧k.length≤1000000∧tot k≤1000000∧br (decide ((taken k t:Int)>4)) (br (wsR w ws0 l).ids (PV.int .i64 14 = .int .i64 (jQ w b l)) (PV.int .i64 21 = .int .i64 (jQ w b l)))
    (br (wsR w ws0 l).ids (PV.int .i64 14 = .int .i64 (jQ w b l)) (br (((l.length:Int) == 0) || l.any bV) (PV.int .i64 21 = .int .i64 (jQ w b l)) (br (wsR w ws0 l).ex (PV.int .i64 11 = .int .i64 (jQ w b l)) (PV.int .i64 0 = .int .i64 (jQ w b l))))))
   (br (wsR w ws0 l).ids (PV.int .i64 14 = .int .i64 (jQ w b l)) (PV.int .i64 21 = .int .i64 (jQ w b l))):=by
  rintro x ⟨tl,rfl⟩
  refine⟨b++l,tl,1,rfl,by rw[List.length_append]; exact hl,by rw[nx]; exact ht,?_⟩
  simp only[ay]
  unfold jQ
  by_cases c1:taken (b++l) 1>4
  ·rw[if_neg (by rw[decide_eq_true (by omega)]; decide),EO c1]
   by_cases ci:(wsR w ws0 l).ids=true
   ·rw[if_pos ci,if_pos ci]
   ·rw[if_neg ci,if_neg ci,if_pos rfl]
  ·rw[if_pos (by rw[decide_eq_false (by omega)]; rfl),IM c1]
   refine⟨b++l,tl,2,rfl,by rw[List.length_append]; exact hl,by rw[nx]; exact ht,?_⟩
   by_cases c2:decide ((taken (b++l) 2:Int)>4)=true
   ·rw[if_pos c2,c2,Bool.or_true]
    by_cases ci:(wsR w ws0 l).ids=true
    ·rw[if_pos ci,if_pos ci]
    ·rw[if_neg ci,if_neg ci,if_pos rfl]
   ·rw[if_neg c2,show decide ((taken (b++l) 2:Int)>4)=false by simpa using c2,Bool.or_false]
    by_cases ci:(wsR w ws0 l).ids=true
    ·rw[if_pos ci,if_pos ci]
    ·rw[if_neg ci,if_neg ci]
     by_cases cz:(((l.length:Int) == 0) || l.any bV)=true
     ·rw[if_pos cz,if_pos cz]
     ·rw[if_neg cz,if_neg cz]
      by_cases cx:(wsR w ws0 l).ex=true
      ·rw[if_pos cx,if_pos cx]
      ·rw[if_neg cx,if_neg cx]
 refine⟨iY (a:=[]) (b:=b) (by simp; omega),lX b,fun eb=>⟨iY (a:=[]) (b:=l) (by simp; omega),lX l,fun el=>?_,fun el=>?_⟩,fun eb=>⟨iY (a:=b) (b:=l) hl,lX l,fun el=>?_,fun el=>?_⟩⟩
 ·have e2:b=[]:=List.map_eq_nil_iff.1 eb
  have e3:l=[]:=List.map_eq_nil_iff.1 el
  exact fin _ ⟨.exact,by rw[e2,e3]; rfl⟩
 ·have e2:b=[]:=List.map_eq_nil_iff.1 eb
  exact fin _ ⟨_,by rw[e2]; rfl⟩
 ·have e3:l=[]:=List.map_eq_nil_iff.1 el
  exact fin _ ⟨_,by rw[e3,List.append_nil]; rfl⟩
 ·exact fin _ ⟨_,by rw[List.map_append]; rfl⟩
def byI (l:List Se) (i:Nat):List Se:=(List.range i).filterMap fun(n:Nat)=>if l.findIdx (nuT (n:Int))<l.length then some (l.getD (l.findIdx (nuT (n:Int))) default) else none
theorem om (l:List Se) (i:Nat):byI l (i+1)=byI l i++(if l.findIdx (nuT (i:Int))<l.length then [l.getD (l.findIdx (nuT (i:Int))) default] else []):=by
 unfold byI
 rw[List.range_succ,List.filterMap_append]
 congr 1
 rw[List.filterMap_cons]
 split
 ·rename_i h; split at h
  ·cases h
  ·rename_i h2; rw[if_neg h2]; rfl
 ·rename_i b h; split at h
  ·rename_i h2; rw[if_pos h2]; cases h; rfl
  ·cases h
theorem Fc (l:List Se) (i:Nat):(byI l i).length≤i:=by
 have:=List.length_filterMap_le (fun n:Nat=>if l.findIdx (nuT (n:Int))<l.length then some (l.getD (l.findIdx (nuT (n:Int))) default) else none) (List.range i)
 rwa [List.length_range] at this
def H6:LSp:=fun e H Q=>∃(l:List Se),l.length≤1000000∧ak (List.map e [0,3,4]) [.list (l.map stc) .no,.list [] .exact,.int .i64 0]∧az H []∧Q (.exit 0) (av [0,3,4] [.list (l.map stc) .no,.list ((byI l 8).map stc) .no,.int .i64 8]) [.dead]
theorem zy:∀ e H Q,H6 e H Q→AW Tryd.prog gl Tryd.f63.ntmps (.loop (an [1,1,0,1,0] (ai Tryd.f63))) Q e H:=by
 rintro e H Q ⟨l,hl,he,hH,hQ⟩
 have hH2:H=[]:=hH
 refine lH (f:=stc) (acc:=fun i=>byI l i) (I:=fun i=>i≤8) (m:=fun i=>8-i) (hn:=fun o=>match o.dst with|some 21=>1|_=>0) aq qL (.nil _ _ _ _ _) [0,3,4] (fun r i=>[.list (l.map stc) .no,r,.int .i64 i]) [] (0:Nat)
  (fun o cs h=>by simp at h) (fun _ _ a _=>cU a) (fun es i k _ h=> .same (dg l) (.row h (.same (.int _ _) .nil))) (fun i _ w hw=>by
   simp only[List.mem_cons,List.not_mem_nil,or_false] at hw
   rcases hw with rfl|rfl|rfl
   ·exact dg l
   ·exact aI NT.exact (by simp)
   ·exact .int _ _) (Nat.zero_le _) rfl he hH2 ?_ ?_
 ·intro i hi ha
  have hi':i≤8:=hi
  have ha:byI l i=[]:=ha
  have hs:=om l i
  refine G2 l i _ ?_
  simp only[ay,dt]
  by_cases h:i<8
  ·rw[if_pos (by omega)]
   refine⟨l,.no,i,rfl,hl,?_⟩
   unfold fh
   by_cases c:l.findIdx (nuT (i:Int))<l.length
   ·rw[if_pos c] at hs
    rw[if_pos c,if_pos (by omega)]
    simp only[au,mh,getD_map default c]
    refine⟨c,?_⟩
    rw[if_pos (by rfl)]
    refine⟨aL (l:=[]) (by_:=48) bK (l.getD (l.findIdx (nuT (i:Int))) default) (by show(0+1)*48≤_; decide),one_row dX _,?_⟩
    exact bf (i+1) (show 8-(i+1)<8-i by omega) h hs (by simp) [.tok] 0 rfl rfl (by simp) (by(try dsimp only); rw[ha,ax h (by omega)]; rfl)
   ·rw[if_neg c,List.append_nil] at hs
    rw[if_neg c,if_neg (by decide)]
    exact jS (i+1) (show 8-(i+1)<8-i by omega) h (hs.trans ha) [] rfl (by rw[ax h (by omega)])
  ·rw[if_neg (by omega)]
   have:i=8:=by omega
   subst this
   rw[ha] at hQ
   exact cj (.cons (.refl _) (.cons (.list _ _) (.cons (.refl _) .nil))) (fu _) hQ
 ·intro i hi ha
  have hi':i≤8:=hi
  have ha:byI l i≠[]:=ha
  have hs:=om l i
  have hbl:=Fc l i
  refine FH l ((byI l i).map stc) i _ ?_
  simp only[ay,dt]
  by_cases h:i<8
  ·rw[if_pos (by omega)]
   refine⟨l,.no,i,rfl,hl,?_⟩
   unfold fh
   by_cases c:l.findIdx (nuT (i:Int))<l.length
   ·rw[if_pos c] at hs
    rw[if_pos c,if_pos (by omega)]
    simp only[au,mh,getD_map default c]
    refine⟨c,?_⟩
    rw[if_pos (by rfl)]
    refine⟨aL bK _ (l.getD (l.findIdx (nuT (i:Int))) default) (by omega),one_row dX _,?_⟩
    exact bf (i+1) (show 8-(i+1)<8-i by omega) h hs (by simp) [.dead,.tok] 1 rfl rfl (by simp) (by(try dsimp only); rw[ax h (by omega),List.map_append]; rfl)
   ·rw[if_neg c,List.append_nil] at hs
    rw[if_neg c,if_neg (by decide)]
    exact bf (i+1) (show 8-(i+1)<8-i by omega) h hs ha [.tok] 0 rfl rfl (by simp) (by rw[ax h (by omega)])
  ·rw[if_neg (by omega)]
   have:i=8:=by omega
   subst this
   exact cj (.cons (.refl _) (.cons (.list _ _) (.cons (.refl _) .nil))) (gk [] .tok) hQ
theorem F8 (l:List Se)  (K:PV→Prop) (h:∃(l_1:List Se),List.length l_1≤1000000∧ak [.list (List.map stc l) .no,.list [] .exact,.int .i64 0] [.list (List.map stc l_1) .no,.list [] .exact,.int .i64 0]∧az [] []∧K (.list (List.map stc (byI l_1 8)) .no)):aj Tryd.prog gl 63 [.list (l.map stc) .no] [] (fun x _=>K x):=
 ah (T:=TRF) (L:=[([1,1,0,1,0],H6)]) (fun o=>match o.dst with|some 21=>1|_=>0) Tryd.func63 (by kernel_rfl) (by kernel_rfl) (by kernel_rfl) (qL) (.cons (aH (by kernel_rfl)) zy (.nil _ _ _ _ _)) (ag (by kernel_rfl) h)
def HM (args:List PV) (K:PV→Prop):Prop:=∃(l:List Se) (tl:Tail),ak args [.list (l.map stc) tl]∧l.length≤1000000∧K (.list ((byI l 8).map stc) .no)
theorem IB:aO Tryd.prog gl 63 (.pure HM):=by
 rintro args K ⟨l,tl,he,h,hk⟩
 have he:args=_:=he
 subst he
 exact bH aq (.cons (.list _ _) .nil) (bw (dg l)) (dg _) (F8 l (fun x=>x = .list ((byI l 8).map stc) .no) ⟨l,h,rfl,rfl,rfl⟩) hk
end Go.Proofs.YtenaelaapdhbdaaDoor
