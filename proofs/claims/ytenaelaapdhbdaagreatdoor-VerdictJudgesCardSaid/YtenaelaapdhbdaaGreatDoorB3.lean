/-
  What the program's and the document's functions do, over plain values, part 6.
-/
import Derived.Test.YtenaelaapdhbdaaGreatDoorB2
import Derived.Test.YtenaelaapdhbdaaGreatDoorProg
namespace Go.Proofs.YtenaelaapdhbdaaGreatDoor
open Go Go.AM Go.Proofs
theorem GO (w:List Mt) (b l:List Rr):∀(K:PV→Prop),(∃(w_1:List Mt) (b_1:List Rr) (l_1:List Rr) (sz:Bool),by refine(?_:_→_→_→_→_→Prop) (PV.list ([]++b_1.map rrc++l_1.map rrc) (.tok 1)) ([]++b_1.map rrc) (PV.list ([]++l_1.map rrc) (.tok 0)) (List.flatten (l_1.map rrc)) (WS.ids (wsR w_1 ws0 l_1)); exact fun d e f g h=>by refine(?_:_→_→Prop) (br h (K (.I 14)) (br (sz || List.any l_1 bY) (K (.I 21)) (br (WS.ex (wsR w_1 ws0 l_1)) (K (.I 11)) (K (.I 0))))) (br h (K (.I 14)) (K (.I 21))); exact fun a c=>SmM w_1∧(∀(r:Rr),r∈l_1→∀(p:Int),p∈r.pl→0≤p)∧l_1.length≤1000000∧tot l_1≤1000000∧ah [.list (w.map mtc) .no,.list (b.map rrc) .no,.list (l.map rrc) .no,.E,.bool false,.bool ((↑(List.length (l.map rrc)):Int) == 0),.bool false,.I 0] [.list (w_1.map mtc) .no,.list (b_1.map rrc) .no,.list (l_1.map rrc) .no,.E,.bool false,.bool sz,.bool false,.I 0]∧av [] []∧aG [] (b_1.map rrc) 4 48∧List.all (List.flatten (b_1.map rrc)) PV.one=true∧(b_1.map rrc=[]→aG [] (l_1.map rrc) 4 48∧List.all g PV.one=true∧(l_1.map rrc=[]→∃(l:List Rr) (tl:Tail) (t:Int),ah [.E,.I 1] [.list (l.map rrc) tl,.I t]∧l.length≤1000000∧tot l≤1000000∧br (decide ((↑(taken l t):Int)>4) == false) (∃(l:List Rr) (tl:Tail) (t:Int),ah [.E,.I 2] [.list (l.map rrc) tl,.I t]∧l.length≤1000000∧tot l≤1000000∧br (decide ((↑(taken l t):Int)>4)) c a) c)∧(l_1.map rrc≠[]→∃(l:List Rr) (tl:Tail) (t:Int),ah [f,.I 1] [.list (l.map rrc) tl,.I t]∧l.length≤1000000∧tot l≤1000000∧br (decide ((↑(taken l t):Int)>4) == false) (∃(l:List Rr) (tl:Tail) (t:Int),ah [f,.I 2] [.list (l.map rrc) tl,.I t]∧l.length≤1000000∧tot l≤1000000∧br (decide ((↑(taken l t):Int)>4)) c a) c))∧(b_1.map rrc≠[]→aG e (l_1.map rrc) 4 48∧List.all g PV.one=true∧(l_1.map rrc=[]→∃(l:List Rr) (tl:Tail) (t:Int),ah [.list e (.tok 0),.I 1] [.list (l.map rrc) tl,.I t]∧l.length≤1000000∧tot l≤1000000∧br (decide ((↑(taken l t):Int)>4) == false) (∃(l:List Rr) (tl:Tail) (t:Int),ah [.list e (.tok 0),.I 2] [.list (l.map rrc) tl,.I t]∧l.length≤1000000∧tot l≤1000000∧br (decide ((↑(taken l t):Int)>4)) c a) c)∧(l_1.map rrc≠[]→∃(l:List Rr) (tl:Tail) (t:Int),ah [d,.I 1] [.list (l.map rrc) tl,.I t]∧l.length≤1000000∧tot l≤1000000∧br (decide ((↑(taken l t):Int)>4) == false) (∃(l:List Rr) (tl:Tail) (t:Int),ah [d,.I 2] [.list (l.map rrc) tl,.I t]∧l.length≤1000000∧tot l≤1000000∧br (decide ((↑(taken l t):Int)>4)) c a) c)))→AcK 59 [.list (w.map mtc) .no,.list (b.map rrc) .no,.list (l.map rrc) .no] [] (fun x _=>K x):=fun K h=>acW (T:=TWF) (L:=[([1,1,1,0,1,0],IZ)]) (fun o=>match o.dst with|some 79=>4|some 81=>4|_=>0) Tryz.func59 (kx) (.cons suE AR (.nil _ _ _ _ _)) h
theorem HE (l:List Se) (i:Nat):(by refine(?_:_→_→Prop) (PV.list (l.map stc) .no) (PV.I (wI ((i:Int)+1))); exact fun j m=>by refine(?_:_→Prop) [j,.E,.I i]; exact fun k=>∀(R:Ex→List PV→ae→Prop),(br (decide ((i:Int)<8)) (∃(l_1:List Se) (tl:Tail) (t:Int),by refine(?_:_→Prop) (List.getD (l.map stc) (Int.toNat (fA l_1 t)) []); exact fun a=>by refine(?_:_→_→_→_→_→Prop) (PV.I (cI a 1)) (PV.I (cI a 2)) (PV.I (cI a 3)) (PV.I (cI a 4)) (PV.int .u64 (cI a 5)); exact fun c d f g h=>by refine(?_:_→Prop) [[PV.U (cI a 0),c,d,f,g,h]]; exact fun b=>ah [j,.I i] [.list (l_1.map stc) tl,.I t]∧l_1.length≤1000000∧br (decide (fA l_1 t≥0)) (InL (l.map stc) 6 (fA l_1 t)∧br (true && aE [.int .u32,.int .i64,.int .i64,.int .i64,.int .i64,.int .u64] 0 a) (aG [] b 6 48∧(List.all [.U (cI a 0),c,d,f,g,h] PV.one=true∧b≠[])∧R .normal [j,.list b (.tok 0),m] [.tok]) False) (R .normal [j,.E,m] [])) (R (.exit 0) k []))→Holds (wpK TRF [] (fun o=>match o.dst with|some 21=>1|_=>0) (ai [1,1,0,1,0] (ag Tryz.f94)) [] (ak [0,3,4] k) [] (fun ex e H=>R ex (List.map e [0,3,4]) H)):Prop):=fun R h=>hoE h
theorem Ht (l:List Se) (es:List (List PV)) (i:Nat):(by refine(?_:_→_→Prop) (PV.list (l.map stc) .no) (PV.I (wI ((i:Int)+1))); exact fun j m=>by refine(?_:_→Prop) [j,.list es (.tok 0),.I i]; exact fun k=>∀(R:Ex→List PV→ae→Prop),(br (decide ((i:Int)<8)) (∃(l_1:List Se) (tl:Tail) (t:Int),by refine(?_:_→Prop) (List.getD (l.map stc) (Int.toNat (fA l_1 t)) []); exact fun a=>by refine(?_:_→_→_→_→_→Prop) (PV.I (cI a 1)) (PV.I (cI a 2)) (PV.I (cI a 3)) (PV.I (cI a 4)) (PV.int .u64 (cI a 5)); exact fun c d f g h=>by refine(?_:_→Prop) [[PV.U (cI a 0),c,d,f,g,h]]; exact fun b=>ah [j,.I i] [.list (l_1.map stc) tl,.I t]∧l_1.length≤1000000∧br (decide (fA l_1 t≥0)) (InL (l.map stc) 6 (fA l_1 t)∧br (true && aE [.int .u32,.int .i64,.int .i64,.int .i64,.int .i64,.int .u64] 0 a) (aG es b 6 48∧(List.all [.U (cI a 0),c,d,f,g,h] PV.one=true∧b≠[])∧R .normal [j,.list (es++b) (.tok 1),m] [.dead,.tok]) False) (R .normal [j,.list es (.tok 0),m] [.tok])) (R (.exit 0) k [.tok]))→Holds (wpK TRF [] (fun o=>match o.dst with|some 21=>1|_=>0) (ai [1,1,0,1,0] (ag Tryz.f94)) [] (ak [0,3,4] k) [.tok] (fun ex e H=>R ex (List.map e [0,3,4]) H)):Prop):=fun R h=>hoE h
def kB (w:List Mt) (b l:List Rr):Int:=if(wsR w ws0 l).ids=true then 14 else if szW b l=true then 21 else if(wsR w ws0 l).ex=true then 11 else 0
theorem mT (l:List Rr):List.all (l.map rrc).flatten PV.one=true:=List.all_eq_true.2 jI
theorem jL {a b:List Rr} (h:a.length+b.length≤1000000):aG (a.map rrc) (b.map rrc) 4 48:=⟨b5 fo _,b5 fo _,by rw[List.length_map,List.length_map]; omega⟩
theorem Lh {b l:List Rr} (h:¬ taken (b++l) 1>4):szW b l=(((l.length:Int) == 0) || l.any bY || decide ((taken (b++l) 2:Int)>4)):=by
 unfold szW mxI
 congr 1
 apply decide_eq_decide.2
 split<;>omega
theorem FE {b l:List Rr} (h:taken (b++l) 1>4):szW b l=true:=by
 unfold szW mxI
 rw[decide_eq_true (by split<;>omega),Bool.or_true]
def tH (args:List PV) (K:PV→Prop):Prop:=∃(w:List Mt) (b l:List Rr) (t0 t1 t2:Tail),ah args [.list (w.map mtc) t0,.list (b.map rrc) t1,.list (l.map rrc) t2]∧SmM w∧(∀ r∈l,∀ p∈r.pl,0≤p)∧b.length+l.length≤1000000∧tot b+tot l≤1000000∧K (.I (kB w b l))
theorem Ag:SpK 59 (.pure tH):=by
 rintro args K ⟨w,b,l,t0,t1,t2,he,sw,h0,hl,ht,hk⟩
 have he:args=_:=he
 subst he
 have e1:(List.map rrc l).length=l.length:=List.length_map _
 refine bB aj (.cons (.list _ _) (.cons (.list _ _) (.cons (.list _ _) .nil))) (dO (bK w) (aP b) (aP l)) (.int _ _) (GO w b l (fun x=>x = .I (kB w b l)) ⟨w,b,l,((l.length:Int) == 0),sw,h0,by omega,by omega,?_,rfl,?_⟩) hk
 ·show _=_
  rw[e1]
 have fin:∀(x:PV),(∃ tl,x = .list ((b++l).map rrc) tl)→∃(k:List Rr) (tl:Tail) (t:Int),ah [x,.I 1] [.list (k.map rrc) tl,.I t]∧k.length≤1000000∧tot k≤1000000∧br (decide ((taken k t:Int)>4) == false)
   (∃(k:List Rr) (tl:Tail) (t:Int),ah [x,.I 2] [.list (k.map rrc) tl,.I t]∧k.length≤1000000∧tot k≤1000000∧br (decide ((taken k t:Int)>4)) (br (wsR w ws0 l).ids (PV.I 14 = .I (kB w b l)) (PV.I 21 = .I (kB w b l)))
    (br (wsR w ws0 l).ids (PV.I 14 = .I (kB w b l)) (br (((l.length:Int) == 0) || l.any bY) (PV.I 21 = .I (kB w b l)) (br (wsR w ws0 l).ex (PV.I 11 = .I (kB w b l)) (PV.I 0 = .I (kB w b l))))))
   (br (wsR w ws0 l).ids (PV.I 14 = .I (kB w b l)) (PV.I 21 = .I (kB w b l))):=by
  rintro x ⟨tl,rfl⟩
  refine⟨b++l,tl,1,rfl,by rw[List.length_append]; exact hl,by rw[nT]; exact ht,?_⟩
  simp only[au]
  unfold kB
  by_cases c1:taken (b++l) 1>4
  ·rw[if_neg (by rw[decide_eq_true (by omega)]; decide),FE c1]
   by_cases ci:(wsR w ws0 l).ids=true
   ·rw[if_pos ci,if_pos ci]
   ·rw[if_neg ci,if_neg ci,if_pos rfl]
  ·rw[if_pos (by rw[decide_eq_false (by omega)]; rfl),Lh c1]
   refine⟨b++l,tl,2,rfl,by rw[List.length_append]; exact hl,by rw[nT]; exact ht,?_⟩
   by_cases c2:decide ((taken (b++l) 2:Int)>4)=true
   ·rw[if_pos c2,c2,Bool.or_true]
    by_cases ci:(wsR w ws0 l).ids=true
    ·rw[if_pos ci,if_pos ci]
    ·rw[if_neg ci,if_neg ci,if_pos rfl]
   ·rw[if_neg c2,show decide ((taken (b++l) 2:Int)>4)=false by simpa using c2,Bool.or_false]
    by_cases ci:(wsR w ws0 l).ids=true
    ·rw[if_pos ci,if_pos ci]
    ·rw[if_neg ci,if_neg ci]
     by_cases cz:(((l.length:Int) == 0) || l.any bY)=true
     ·rw[if_pos cz,if_pos cz]
     ·rw[if_neg cz,if_neg cz]
      by_cases cx:(wsR w ws0 l).ex=true
      ·rw[if_pos cx,if_pos cx]
      ·rw[if_neg cx,if_neg cx]
 refine⟨jL (a:=[]) (b:=b) (by simp; omega),mT b,fun eb=>⟨jL (a:=[]) (b:=l) (by simp; omega),mT l,fun el=>?_,fun el=>?_⟩,fun eb=>⟨jL (a:=b) (b:=l) hl,mT l,fun el=>?_,fun el=>?_⟩⟩
 ·have e2:b=[]:=List.map_eq_nil_iff.1 eb
  have e3:l=[]:=List.map_eq_nil_iff.1 el
  exact fin _ ⟨.exact,by rw[e2,e3]; rfl⟩
 ·have e2:b=[]:=List.map_eq_nil_iff.1 eb
  exact fin _ ⟨_,by rw[e2]; rfl⟩
 ·have e3:l=[]:=List.map_eq_nil_iff.1 el
  exact fin _ ⟨_,by rw[e3,List.append_nil]; rfl⟩
 ·exact fin _ ⟨_,by rw[List.map_append]; rfl⟩
def byI (l:List Se) (i:Nat):List Se:=(List.range i).filterMap fun(n:Nat)=>if l.findIdx (nuT (n:Int))<l.length then some (l.getD (l.findIdx (nuT (n:Int))) default) else none
theorem oz (l:List Se) (i:Nat):byI l (i+1)=byI l i++(if l.findIdx (nuT (i:Int))<l.length then [l.getD (l.findIdx (nuT (i:Int))) default] else []):=by
 unfold byI
 rw[List.range_succ,List.filterMap_append]
 congr 1
 rw[List.filterMap_cons]
 split
 ·rename_i h; split at h
  ·cases h
  ·rename_i h2; rw[if_neg h2]; rfl
 ·rename_i b h; split at h
  ·rename_i h2; rw[if_pos h2]; cases h; rfl
  ·cases h
theorem G7 (l:List Se) (i:Nat):(byI l i).length≤i:=by
 have:=List.length_filterMap_le (fun n:Nat=>if l.findIdx (nuT (n:Int))<l.length then some (l.getD (l.findIdx (nuT (n:Int))) default) else none) (List.range i)
 rwa [List.length_range] at this
def IR:LSp:=fun e H Q=>∃(l:List Se),l.length≤1000000∧ah (List.map e [0,3,4]) [.list (l.map stc) .no,.E,.I 0]∧av H []∧Q (.exit 0) (ak [0,3,4] [.list (l.map stc) .no,.list ((byI l 8).map stc) .no,.I 8]) [.dead]
theorem Fh:∀ e H Q,IR e H Q→AwK Tryz.f94.ntmps (.loop (ai [1,1,0,1,0] (ag Tryz.f94))) Q e H:=by
 rintro e H Q ⟨l,hl,he,hH,hQ⟩
 have hH2:H=[]:=hH
 refine fJ (f:=stc) (acc:=fun i=>byI l i) (I:=fun i=>i≤8) (m:=fun i=>8-i) (hn:=fun o=>match o.dst with|some 21=>1|_=>0) aj sC (.nil _ _ _ _ _) [0,3,4] (fun r i=>[.list (l.map stc) .no,r,.I i]) [] (0:Nat)
  (fun o cs h=>by simp at h) (fun _ _ a _=>c8 a) (fun es i k _ h=> .same (dz l) (.row h (.same (.int _ _) .nil))) (fun i _ w hw=>by
   simp only[List.mem_cons,List.not_mem_nil,or_false] at hw
   rcases hw with rfl|rfl|rfl
   ·exact dz l
   ·exact aH NT.exact (by simp)
   ·exact .int _ _) (Nat.zero_le _) rfl he hH2 ?_ ?_
 ·intro i hi ha
  have hi':i≤8:=hi
  have ha:byI l i=[]:=ha
  have hs:=oz l i
  refine HE l i _ ?_
  simp only[au,dt]
  by_cases h:i<8
  ·rw[if_pos (by omega)]
   refine⟨l,.no,i,rfl,hl,?_⟩
   unfold fA
   by_cases c:l.findIdx (nuT (i:Int))<l.length
   ·rw[if_pos c] at hs
    rw[if_pos c,if_pos (by omega)]
    simp only[an,mF,getD_map default c]
    refine⟨c,?_⟩
    rw[if_pos (by rfl)]
    refine⟨aF (l:=[]) (by_:=48) bP (l.getD (l.findIdx (nuT (i:Int))) default) (by show(0+1)*48≤_; decide),one_row ew _,?_⟩
    exact aV (i+1) (show 8-(i+1)<8-i by omega) h hs (by simp) [.tok] 0 rfl rfl (by simp) (by(try dsimp only); rw[ha,ar h (by omega)]; rfl)
   ·rw[if_neg c,List.append_nil] at hs
    rw[if_neg c,if_neg (by decide)]
    exact ie (i+1) (show 8-(i+1)<8-i by omega) h (hs.trans ha) [] rfl (by rw[ar h (by omega)])
  ·rw[if_neg (by omega)]
   have:i=8:=by omega
   subst this
   rw[ha] at hQ
   exact bN (.cons (.refl _) (.cons (.list _ _) (.cons (.refl _) .nil))) (dN _) hQ
 ·intro i hi ha
  have hi':i≤8:=hi
  have ha:byI l i≠[]:=ha
  have hs:=oz l i
  have hbl:=G7 l i
  refine Ht l ((byI l i).map stc) i _ ?_
  simp only[au,dt]
  by_cases h:i<8
  ·rw[if_pos (by omega)]
   refine⟨l,.no,i,rfl,hl,?_⟩
   unfold fA
   by_cases c:l.findIdx (nuT (i:Int))<l.length
   ·rw[if_pos c] at hs
    rw[if_pos c,if_pos (by omega)]
    simp only[an,mF,getD_map default c]
    refine⟨c,?_⟩
    rw[if_pos (by rfl)]
    refine⟨aF bP _ (l.getD (l.findIdx (nuT (i:Int))) default) (by omega),one_row ew _,?_⟩
    exact aV (i+1) (show 8-(i+1)<8-i by omega) h hs (by simp) [.dead,.tok] 1 rfl rfl (by simp) (by(try dsimp only); rw[ar h (by omega),List.map_append]; rfl)
   ·rw[if_neg c,List.append_nil] at hs
    rw[if_neg c,if_neg (by decide)]
    exact aV (i+1) (show 8-(i+1)<8-i by omega) h hs ha [.tok] 0 rfl rfl (by simp) (by rw[ar h (by omega)])
  ·rw[if_neg (by omega)]
   have:i=8:=by omega
   subst this
   exact bN (.cons (.refl _) (.cons (.list _ _) (.cons (.refl _) .nil))) (ej [] .tok) hQ
theorem FN (l:List Se)  (K:PV→Prop) (h:∃(l_1:List Se),List.length l_1≤1000000∧ah [.list (List.map stc l) .no,.E,.I 0] [.list (List.map stc l_1) .no,.E,.I 0]∧av [] []∧K (.list (List.map stc (byI l_1 8)) .no)):AcK 94 [.list (l.map stc) .no] [] (fun x _=>K x):=
 acW (T:=TRF) (L:=[([1,1,0,1,0],IR)]) (fun o=>match o.dst with|some 21=>1|_=>0) Tryz.func94 (sC) (.cons suE Fh (.nil _ _ _ _ _)) h
def JP (args:List PV) (K:PV→Prop):Prop:=∃(l:List Se) (tl:Tail),ah args [.list (l.map stc) tl]∧l.length≤1000000∧K (.list ((byI l 8).map stc) .no)
theorem Ly:SpK 94 (.pure JP):=by
 rintro args K ⟨l,tl,he,h,hk⟩
 have he:args=_:=he
 subst he
 exact bB aj (.cons (.list _ _) .nil) (bu (dz l)) (dz _) (FN l (fun x=>x = .list ((byI l 8).map stc) .no) ⟨l,h,rfl,rfl,rfl⟩) hk
def cO:Mt→List Int→Int→List Se
 | _,[],_=>[]
 | c,p::ps,t=>fR c.aa p t::cO (fS c p t) ps t
def eo:Mt→List Rr→List Se
 | _,[]=>[]
 | c,r::l=>cO c r.pl r.tm++eo (fx c r) l
theorem qK (p t:Int):∀(ps:List Int) (c:Mt),cO c (ps++[p]) t=cO c ps t++[fR (cW c ps t).aa p t]
 | [],_=>rfl
 | q::ps,c=>by show fR c.aa q t::cO (fS c q t) (ps++[p]) t=_; rw[qK p t ps]; rfl
theorem mD {c:Mt} {ps:List Int} {t:Int} {k:Nat} (h:k<ps.length):cO c (ps.take (k+1)) t=cO c (ps.take k) t++[fR (cW c (ps.take k) t).aa (ps.getD k 0) t]:=by rw[aI 0 h,qK]
theorem q4 (r:Rr):∀(l:List Rr) (c:Mt),eo c (l++[r])=eo c l++cO (ay c l) r.pl r.tm
 | [],c=>by show cO c r.pl r.tm++[]=_; rw[List.append_nil]; rfl
 | q::l,c=>by show cO c q.pl q.tm++eo (fx c q) (l++[r])=(cO c q.pl q.tm++eo (fx c q) l)++_; rw[q4 r l,List.append_assoc]; rfl
theorem mz {c:Mt} {l:List Rr} {k:Nat} (h:k<l.length):eo c (l.take (k+1))=eo c (l.take k)++cO (ay c (l.take k)) (l.getD k default).pl (l.getD k default).tm:=by rw[aI default h,q4]
theorem fw (t:Int):∀(ps:List Int) (c:Mt),(cO c ps t).length=ps.length
 | [],_=>rfl
 | p::ps,c=>by show(_::cO _ ps t).length=_; rw[List.length_cons,fw t ps,List.length_cons]
theorem gP:∀(l:List Rr) (c:Mt),(eo c l).length=tot l
 | [],_=>rfl
 | r::l,c=>by show(cO c r.pl r.tm++eo _ l).length=_; rw[List.length_append,fw,gP l]; unfold tot; simp
theorem lC (t:Int):∀(ps:List Int) (c:Mt) (b:List Se),b.Perm c.aa→(b++cO c ps t).Perm (cW c ps t).aa
 | [],c,b,h=>by show(b++[]).Perm _; rw[List.append_nil]; exact h
 | p::ps,c,b,h=>by
  show(b++(fR c.aa p t::cO (fS c p t) ps t)).Perm (cW (fS c p t) ps t).aa
  rw[show b++(fR c.aa p t::cO (fS c p t) ps t)=(b++[fR c.aa p t])++cO (fS c p t) ps t by simp]
  refine lC t ps (fS c p t) _ ?_
  refine List.perm_append_comm.trans ?_
  exact(h.cons (fR c.aa p t)).trans (ig c.aa (cY c.aa) (fR c.aa p t)).symm
theorem oq:∀(l:List Rr) (c:Mt) (b:List Se),b.Perm c.aa→(b++eo c l).Perm (ay c l).aa
 | [],c,b,h=>by show(b++[]).Perm _; rw[List.append_nil]; exact h
 | r::l,c,b,h=>by
  show(b++(cO c r.pl r.tm++eo (fx c r) l)).Perm (ay (fx c r) l).aa
  rw[← List.append_assoc]
  exact oq l (fx c r) _ (lC r.tm r.pl c b h)
theorem SO.gap {s:List Se} (h:SO s):∀ x∈s,x.nu≠(cY s:Int):=by
 intro x hx e
 obtain⟨i,hi,rfl⟩:=List.mem_iff_getElem.1 hx
 by_cases c:i<cY s
 ·have h1:=om c
  rw[List.getD_eq_getElem?_getD,List.getElem?_eq_getElem hi,Option.getD_some] at h1
  omega
 ·have hg:cY s<s.length:=by omega
  have h1:=h.ge (cY s) hg
  have h2:=sE hg
  rw[List.getD_eq_getElem?_getD,List.getElem?_eq_getElem hg,Option.getD_some] at h1 h2
  rcases Nat.eq_or_lt_of_le (Nat.not_lt.1 c) with e2|c2
  ·subst e2; omega
  ·have:=List.pairwise_iff_getElem.1 h.sn (cY s) i hg hi c2
   omega
theorem rK {b s:List Se} (h:SO s) (hp:b.Perm s):fA b (cY s) = -1∧∀ k,k<cY s→0≤fA b k:=by
 constructor
 ·unfold fA
  rw[if_neg]
  intro hl
  obtain⟨x,hx,e⟩:=List.findIdx_lt_length.1 hl
  exact h.gap x (hp.subset hx) (eq_of_beq e)
 ·intro k hk
  unfold fA
  rw[if_pos]
  ·omega
  ·have hl:=eV s
   refine List.findIdx_lt_length.2 ⟨s.getD k default,hp.symm.subset (aX (by omega)),?_⟩
   unfold nuT; rw[om hk]; exact beq_self_eq_true _
theorem filter_lt {s:List Se} (h:s.Pairwise fun a b=>a.nu<b.nu) (n:Int):s.filter (fun x=>decide (x.nu<n+1))=s.filter (fun x=>decide (x.nu<n))++s.filter (fun x=>x.nu == n):=by
 induction s with
 | nil=>rfl
 | cons a s ih=>
  have ih:=ih (List.pairwise_cons.1 h).2
  have ha:=(List.pairwise_cons.1 h).1
  by_cases c1:a.nu<n
  ·rw[List.filter_cons_of_pos (by simpa using by omega),List.filter_cons_of_pos (by simpa using c1),List.filter_cons_of_neg (by simp; omega),ih]; rfl
  ·have e0:∀ x∈s,¬ x.nu≤n:=fun x hx=>by have:=ha x hx; omega
   have e1:s.filter (fun x=>decide (x.nu<n))=[]:=List.filter_eq_nil_iff.2 fun x hx=>by have:=e0 x hx; simp; omega
   have e2:s.filter (fun x=>x.nu == n)=[]:=List.filter_eq_nil_iff.2 fun x hx=>by have:=e0 x hx; simp; omega
   have e3:s.filter (fun x=>decide (x.nu<n+1))=[]:=List.filter_eq_nil_iff.2 fun x hx=>by have:=e0 x hx; simp; omega
   by_cases c2:a.nu=n
   ·rw[List.filter_cons_of_pos (by simp; omega),List.filter_cons_of_neg (by simp; omega),List.filter_cons_of_pos (by simp; omega),e1,e2,e3]; rfl
   ·rw[List.filter_cons_of_neg (by simp; omega),List.filter_cons_of_neg (by simp; omega),List.filter_cons_of_neg (by simp; omega),e1,e2,e3]; rfl
theorem filter_eq {b s:List Se} (h:s.Pairwise fun a b=>a.nu<b.nu) (hp:b.Perm s) (n:Int):s.filter (fun x=>x.nu == n)=if b.findIdx (nuT n)<b.length then [b.getD (b.findIdx (nuT n)) default] else []:=by
 by_cases c:b.findIdx (nuT n)<b.length
 ·rw[if_pos c]
  have h1:nuT n (b.getD (b.findIdx (nuT n)) default)=true:=by
   have:=List.findIdx_getElem (w:=c)
   rwa [List.getD_eq_getElem?_getD,List.getElem?_eq_getElem c]
  obtain⟨x,hx⟩:∃ x,x=b.getD (b.findIdx (nuT n)) default:=⟨_,rfl⟩
  have hm:x∈s:=hp.subset (by rw[hx]; exact aX c)
  rw[← hx] at h1 ⊢
  have h1:x.nu=n:=eq_of_beq h1
  clear hx c hp
  induction s with
  | nil=>cases hm
  | cons a s ih=>
   have ha:=(List.pairwise_cons.1 h).1
   rcases List.mem_cons.1 hm with rfl|hm
   ·rw[List.filter_cons_of_pos (by simp[h1]),List.filter_eq_nil_iff.2 fun y hy=>by have:=ha y hy; simp; omega]
   ·have:=ha x hm
    rw[List.filter_cons_of_neg (by simp; omega)]
    exact ih (List.pairwise_cons.1 h).2 hm
 ·rw[if_neg c,List.filter_eq_nil_iff]
  intro x hx e
  exact c (List.findIdx_lt_length.2 ⟨x,hp.symm.subset hx,e⟩)
theorem oQ {b s:List Se} (h:SO s) (hp:b.Perm s):∀ i:Nat,byI b i=s.filter fun x=>decide (x.nu<(i:Int))
 | 0=>by
  rw[List.filter_eq_nil_iff.2 fun x hx=>by have:=h.lo x hx; simp; omega]; rfl
 | i+1=>by
  have:=filter_lt h.sn (i:Int)
  rw[oz,oQ h hp i,show(((i+1:Nat):Int))=(i:Int)+1 by omega,this,filter_eq h.sn hp]
theorem L7 {b s:List Se} (h:SO s) (hp:b.Perm s) (hb:∀ x∈s,x.nu<8):byI b 8=s:=by
 rw[oQ h hp]
 exact List.filter_eq_self.2 fun x hx=>by have:=hb x hx; simp; omega
def TSJ:Tab:=[(93,.pure wC),(94,.pure JP)]
theorem iD:TbK TSJ:= .cons xd (.cons Ly (.nil _ _))
theorem xR {p z:List PV} (hp:∀ x∈p,Low 0 x) (hz:∀ x∈z,Low 0 x):oH [.cells p,.cells z]:=by
 intro o cs ho
 have k1:=(List.getElem?_eq_some_iff.1 ho).1
 simp at k1
 have:o=0∨o=1:=by omega
 rcases this with rfl|rfl<;>cases ho<;>intro x hx<;>first|exact .inl (hp x hx)|exact .inl (hz x hx)
theorem uT {l:List Rr} {z:List PV} (hz:∀ x∈z,Low 0 x):MP 2 (fun T=> .list (l.map rrc) .no :: .ptr 0 0 :: .ptr 1 0::T::z):=by
 intro ρ n k es h1 h2 h3 h4
 have e0:=Ren.ptr (ρ:=ρ) (n:=n) 0 0 (by omega)
 have e1:=Ren.ptr (ρ:=ρ) (n:=n) 1 0 (by omega)
 rw[h1 0 (by decide)] at e0
 rw[h1 1 (by decide)] at e1
 exact .cons (.low (aP _)) (.cons e0 (.cons e1 (.cons (.ltok es k h3 h4) (aU.low hz))))
theorem LA (p z:List PV) (l:List Rr) (i k n:Nat):(by refine(?_:_→_→Prop) [PV.list (l.map rrc) .no,.ptr 0 0,.ptr 1 0,.E,.I i,.I k,.I n] [Ob.cells p,.cells z]; exact fun a b=>∀(R:Ex→List PV→ae→Prop),(∃(l_1:List Se) (tl:Tail) (t:Int),ah [.E,.I n] [.list (l_1.map stc) tl,.I t]∧l_1.length≤1000000∧br (decide (fA l_1 t≥0)) (R .normal [.list (l.map rrc) .no,.ptr 0 0,.ptr 1 0,.E,.I i,.I k,.I (wI ((n:Int)+1))] b) (R (.exit 4) a b))→Holds (wpK TSJ [] (fun _=>0) (ai [1,1,1,0,1,0,0,1,0,0,1,0,0,1,0,0,1,0,0] (ag Tryz.f61)) [] (ak [1,2,4,5,6,7,8] a) b (fun ex e H=>R ex (List.map e [1,2,4,5,6,7,8]) H)):Prop):=fun R h=>hoE h
def wV:LSp:=fun e H Q=>∃(p z:List PV) (l:List Rr) (i k g:Nat),g≤1000000∧fA [] g = -1∧(∀ k:Nat,k<g→0≤fA [] k)∧ah (List.map e [1,2,4,5,6,7,8]) [.list (l.map rrc) .no,.ptr 0 0,.ptr 1 0,.E,.I i,.I k,.I 0]∧av H [.cells p,.cells z]∧Q (.exit 4) (ak [1,2,4,5,6,7,8] [.list (l.map rrc) .no,.ptr 0 0,.ptr 1 0,.E,.I i,.I k,.I g]) [.cells p,.cells z]
theorem B2:∀ e H Q,wV e H Q→AwK Tryz.f61.ntmps (.loop (ai [1,1,1,0,1,0,0,1,0,0,1,0,0,1,0,0,1,0,0] (ag Tryz.f61))) Q e H:=by
 rintro e H Q ⟨p,z,l,i,k,g,hg,h1,h2,he,hH,hQ⟩
 have hH:H=_:=hH
 refine aB (hn:=fun _=>0) aj iD (.nil _ _ _ _ _) (σ:=Nat) [1,2,4,5,6,7,8] (fun n=>n≤g) (fun n=>[.list (l.map rrc) .no,.ptr 0 0,.ptr 1 0,.E,.I i,.I k,.I n]) (fun _=>[.cells p,.cells z]) (fun n=>g-n) 0 (Nat.zero_le _) he hH ?_
 intro n hn
 have hn:n≤g:=hn
 refine LA p z l i k n _ ?_
 refine⟨[],_,n,rfl,(by decide),?_⟩
 simp only[au,dt]
 by_cases c:n=g
 ·subst c
  rw[if_neg (by rw[h1]; decide)]
  exact hQ
 ·rw[if_pos (by have:=h2 n (by omega); omega)]
  exact⟨n+1,(show g-(n+1)<g-n by omega),(show n+1≤g by omega),by rw[ar (show n<g by omega) (by omega)],[],by rw[List.append_nil],Nat.le_refl _,.inl rfl⟩
theorem L6 (p z:List PV) (l:List Rr) (b:List Se) (i k n:Nat):(by refine(?_:_→_→Prop) (PV.list (b.map stc) (.tok 2)) [Ob.cells p,.cells z,.tok]; exact fun c d=>by refine(?_:_→Prop) [PV.list (l.map rrc) .no,.ptr 0 0,.ptr 1 0,c,.I i,.I k,.I n]; exact fun a=>∀(R:Ex→List PV→ae→Prop),(∃(l_1:List Se) (tl:Tail) (t:Int),ah [c,.I n] [.list (l_1.map stc) tl,.I t]∧l_1.length≤1000000∧br (decide (fA l_1 t≥0)) (R .normal [.list (l.map rrc) .no,.ptr 0 0,.ptr 1 0,c,.I i,.I k,.I (wI ((n:Int)+1))] d) (R (.exit 4) a d))→Holds (wpK TSJ [] (fun _=>0) (ai [1,1,1,0,1,0,0,1,0,0,1,0,0,1,0,0,1,0,0] (ag Tryz.f61)) [] (ak [1,2,4,5,6,7,8] a) d (fun ex e H=>R ex (List.map e [1,2,4,5,6,7,8]) H)):Prop):=fun R h=>hoE h
def yu:LSp:=fun e H Q=>∃(p z:List PV) (l:List Rr) (b:List Se) (i k g:Nat),b.length≤1000000∧g≤1000000∧fA b g = -1∧(∀ k:Nat,k<g→0≤fA b k)∧ah (List.map e [1,2,4,5,6,7,8]) [.list (l.map rrc) .no,.ptr 0 0,.ptr 1 0,.list (b.map stc) (.tok 2),.I i,.I k,.I 0]∧av H [.cells p,.cells z,.tok]∧Q (.exit 4) (ak [1,2,4,5,6,7,8] [.list (l.map rrc) .no,.ptr 0 0,.ptr 1 0,.list (b.map stc) (.tok 2),.I i,.I k,.I g]) [.cells p,.cells z,.tok]
theorem Dm:∀ e H Q,yu e H Q→AwK Tryz.f61.ntmps (.loop (ai [1,1,1,0,1,0,0,1,0,0,1,0,0,1,0,0,1,0,0] (ag Tryz.f61))) Q e H:=by
 rintro e H Q ⟨p,z,l,b,i,k,g,hb,hg,h1,h2,he,hH,hQ⟩
 have hH:H=_:=hH
 refine aB (hn:=fun _=>0) aj iD (.nil _ _ _ _ _) (σ:=Nat) [1,2,4,5,6,7,8] (fun n=>n≤g) (fun n=>[.list (l.map rrc) .no,.ptr 0 0,.ptr 1 0,.list (b.map stc) (.tok 2),.I i,.I k,.I n]) (fun _=>[.cells p,.cells z,.tok]) (fun n=>g-n) 0 (Nat.zero_le _) he hH ?_
 intro n hn
 have hn:n≤g:=hn
 refine L6 p z l b i k n _ ?_
 refine⟨b,_,n,rfl,hb,?_⟩
 simp only[au,dt]
 by_cases c:n=g
 ·subst c
  rw[if_neg (by rw[h1]; decide)]
  exact hQ
 ·rw[if_pos (by have:=h2 n (by omega); omega)]
  exact⟨n+1,(show g-(n+1)<g-n by omega),(show n+1≤g by omega),by rw[ar (show n<g by omega) (by omega)],[],by rw[List.append_nil],Nat.le_refl _,.inl rfl⟩
theorem DL:ai [1,0,0,1,0,0] (ai [1,1,1,0,1,0,0,1,0,0,1,0] (ag Tryz.f61))=ai [1,1,1,0,1,0,0,1,0,0,1,0,0,1,0,0,1,0,0] (ag Tryz.f61):=by kernel_rfl
theorem z8:∀ e H Q,wV e H Q→AwK Tryz.f61.ntmps (.loop (ai [1,0,0,1,0,0] (ai [1,1,1,0,1,0,0,1,0,0,1,0] (ag Tryz.f61)))) Q e H:=by rw[DL]; exact B2
theorem yM:∀ e H Q,yu e H Q→AwK Tryz.f61.ntmps (.loop (ai [1,0,0,1,0,0] (ai [1,1,1,0,1,0,0,1,0,0,1,0] (ag Tryz.f61)))) Q e H:=by rw[DL]; exact Dm
theorem Kd (p z:List PV) (l:List Rr) (i k:Nat):(by refine(?_:_→_→_→Prop) [PV.list (l.map rrc) .no,.ptr 0 0,.ptr 1 0,.E,.I i,.I k] (List.drop 1 (List.getD (l.map rrc) (Int.toNat (i:Int)) [])) [Ob.cells p,.cells z]; exact fun j m n=>∀(R:Ex→List PV→ae→Prop),(InL (l.map rrc) 4 (i:Int)∧br (true && aE [.list] 0 m) (br (decide ((k:Int)<(↑(List.length (cL m 0)):Int))) (∃(p_1:List PV) (z_1:List PV) (l_1:List Rr) (i_1:Nat) (k_1:Nat) (g:Nat),by refine(?_:_→_→Prop) (List.getD (l_1.map rrc) (Int.toNat (i_1:Int)) []) (PV.list (l_1.map rrc) .no); exact fun a f=>by refine(?_:_→_→Prop) (PV.I (cI (List.drop 0 a) 0)) (cL (List.drop 1 a) 0); exact fun d h=>by refine(?_:_→Prop) (List.getD h (Int.toNat (k_1:Int)) []); exact fun c=>by refine(?_:_→Prop) [[PV.U (cI c 0),d,.I g,.I 1,.I 0,.int .u64 0]]; exact fun b=>g≤1000000∧fA [] (g:Int) = -1∧(∀(k:Nat),k<g→0≤fA [] (k:Int))∧ah [.list (l.map rrc) .no,.ptr 0 0,.ptr 1 0,.E,.I i,.I k,.I 0] [f,.ptr 0 0,.ptr 1 0,.E,.I i_1,.I k_1,.I 0]∧av n [.cells p_1,.cells z_1]∧InL (l_1.map rrc) 4 (i_1:Int)∧br (true && aE [.list] 0 (List.drop 1 a)) (InL h 1 (k_1:Int)∧br (true && aE [.int .u32] 0 c) (InL (l_1.map rrc) 4 (i_1:Int)∧br (true && aE [.int .i64] 0 (List.drop 0 a)) (aG [] b 6 48∧(List.all [.U (cI c 0),d,.I g,.I 1,.I 0,.int .u64 0] PV.one=true∧b≠[])∧R .normal [f,.ptr 0 0,.ptr 1 0,.list b (.tok 2),.I i_1,.I (wI ((k_1:Int)+1))] [.cells p_1,.cells z_1,.tok]) False) False) False) (R (.exit 2) j n)) False)→Holds (wpK TSJ [([1,0,0,1,0,0],wV)] (fun o=>match o.dst with|some 59=>1|_=>0) (ai [1,1,1,0,1,0,0,1,0,0,1,0] (ag Tryz.f61)) [] (ak [1,2,4,5,6,7] j) n (fun ex e H=>R ex (List.map e [1,2,4,5,6,7]) H)):Prop):=fun R h=>hoE h
theorem D1 (p z:List PV) (l:List Rr) (b:List Se) (i k:Nat):(by refine(?_:_→_→_→Prop) (List.drop 1 (List.getD (l.map rrc) (Int.toNat (i:Int)) [])) [Ob.cells p,.cells z,.tok] (PV.list (b.map stc) (.tok 2)); exact fun n q r=>by refine(?_:_→Prop) [PV.list (l.map rrc) .no,.ptr 0 0,.ptr 1 0,r,.I i,.I k]; exact fun m=>∀(R:Ex→List PV→ae→Prop),(InL (l.map rrc) 4 (i:Int)∧br (true && aE [.list] 0 n) (br (decide ((k:Int)<(↑(List.length (cL n 0)):Int))) (∃(p_1:List PV) (z_1:List PV) (l_1:List Rr) (b_1:List Se) (i_1:Nat) (k_1:Nat) (g:Nat),by refine(?_:_→_→Prop) (List.getD (l_1.map rrc) (Int.toNat (i_1:Int)) []) (PV.list (l_1.map rrc) .no); exact fun a h=>by refine(?_:_→_→Prop) (PV.I (cI (List.drop 0 a) 0)) (cL (List.drop 1 a) 0); exact fun f j=>by refine(?_:_→Prop) (List.getD j (Int.toNat (k_1:Int)) []); exact fun d=>by refine(?_:_→Prop) [[PV.U (cI d 0),f,.I g,.I 1,.I 0,.int .u64 0]]; exact fun c=>b_1.length≤1000000∧g≤1000000∧fA b_1 (g:Int) = -1∧(∀(k:Nat),k<g→0≤fA b_1 (k:Int))∧ah [.list (l.map rrc) .no,.ptr 0 0,.ptr 1 0,r,.I i,.I k,.I 0] [h,.ptr 0 0,.ptr 1 0,.list (b_1.map stc) (.tok 2),.I i_1,.I k_1,.I 0]∧av q [.cells p_1,.cells z_1,.tok]∧InL (l_1.map rrc) 4 (i_1:Int)∧br (true && aE [.list] 0 (List.drop 1 a)) (InL j 1 (k_1:Int)∧br (true && aE [.int .u32] 0 d) (InL (l_1.map rrc) 4 (i_1:Int)∧br (true && aE [.int .i64] 0 (List.drop 0 a)) (aG (b_1.map stc) c 6 48∧(List.all [.U (cI d 0),f,.I g,.I 1,.I 0,.int .u64 0] PV.one=true∧c≠[])∧R .normal [h,.ptr 0 0,.ptr 1 0,.list (b_1.map stc++c) (.tok 3),.I i_1,.I (wI ((k_1:Int)+1))] [.cells p_1,.cells z_1,.dead,.tok]) False) False) False) (R (.exit 2) m q)) False)→Holds (wpK TSJ [([1,0,0,1,0,0],yu)] (fun o=>match o.dst with|some 59=>1|_=>0) (ai [1,1,1,0,1,0,0,1,0,0,1,0] (ag Tryz.f61)) [] (ak [1,2,4,5,6,7] m) q (fun ex e H=>R ex (List.map e [1,2,4,5,6,7]) H)):Prop):=fun R h=>hoE h
theorem Ny:LOk Tryz.prog gl Tryz.f61.ntmps (ai [1,1,1,0,1,0,0,1,0,0,1,0] (ag Tryz.f61)) [] [([1,0,0,1,0,0],wV)]:=(.cons suE z8 (.nil _ _ _ _ _))
theorem M9:LOk Tryz.prog gl Tryz.f61.ntmps (ai [1,1,1,0,1,0,0,1,0,0,1,0] (ag Tryz.f61)) [] [([1,0,0,1,0,0],yu)]:=(.cons suE yM (.nil _ _ _ _ _))
def yK:LSp:=fun e H Q=>∃(p z:List PV) (l:List Rr) (c:Mt) (i:Nat),(∀ x∈p,Low 0 x)∧(∀ x∈z,Low 0 x)∧l.length≤1000000∧i<l.length∧c.aa=[]∧(l.getD i default).pl.length≤1000000∧ah (List.map e [1,2,4,5,6,7]) [.list (l.map rrc) .no,.ptr 0 0,.ptr 1 0,.E,.I i,.I 0]∧av H [.cells p,.cells z]∧
 ((l.getD i default).pl=[]→Q (.exit 2) (ak [1,2,4,5,6,7] [.list (l.map rrc) .no,.ptr 0 0,.ptr 1 0,.E,.I i,.I 0]) [.cells p,.cells z])∧((l.getD i default).pl≠[]→Q (.exit 2) (ak [1,2,4,5,6,7] [.list (l.map rrc) .no,.ptr 0 0,.ptr 1 0,.list ((cO c (l.getD i default).pl (l.getD i default).tm).map stc) (.tok 2),.I i,.I (l.getD i default).pl.length]) [.cells p,.cells z,.tok])
set_option maxRecDepth 10000 in
theorem DX:∀ e H Q,yK e H Q→AwK Tryz.f61.ntmps (.loop (ai [1,1,1,0,1,0,0,1,0,0,1,0] (ag Tryz.f61))) Q e H:=by
 rintro e H Q ⟨p,z,l,c,i,hp,hz,hl,hi,hc,hrl,he,hH,hQ0,hQ1⟩
 have hH:H=_:=hH
 obtain⟨r,hr⟩:∃ r,r=l.getD i default:=⟨_,rfl⟩
 have hso:SO c.aa:=by rw[hc]; exact SO.nil
 have hcl:c.aa.length=0:=by rw[hc]; rfl
 have hpm:([]:List Se).Perm c.aa:=by rw[hc]
 have inl:InL (l.map rrc) 4 (i:Int):=by rw[dP]; exact hi
 have c1:cL (List.drop 1 (rrc r)) 0=r.pl.map u1:=rfl
 have c0:cI (List.drop 0 (rrc r)) 0=r.tm:=rfl
 simp only[← hr] at hrl hQ0 hQ1
 have hlb:=xR hp hz
 refine kJ (f:=stc) (acc:=fun k=>cO c (r.pl.take k) r.tm) (I:=fun k=>k≤r.pl.length) (m:=fun k=>r.pl.length-k) aj [1,2,4,5,6,7] (fun T k=>[.list (l.map rrc) .no,.ptr 0 0,.ptr 1 0,T,.I i,.I k]) [.cells p,.cells z] (0:Nat)
  hlb.up (fun _ _ a _=>c8 a) (fun es k j _ h=> .same (aP l) (.same (.ptr _ _ (by simp)) (.same (.ptr _ _ (by simp)) (.row h (.same (.int _ _) (.same (.int _ _) .nil)))))) (fun k _ w hw=>by
   simp only[List.mem_cons,List.not_mem_nil,or_false] at hw
   rcases hw with rfl|rfl|rfl|rfl|rfl|rfl
   ·exact aP l
   ·exact .ptr _ _ (by simp)
   ·exact .ptr _ _ (by simp)
   ·exact aH NT.exact (by simp)
   ·exact .int _ _
   ·exact .int _ _) (Nat.zero_le _) (by simp[cO]) he hH ?_ ?_
 ·intro k hk ha
  have hk':k≤r.pl.length:=hk
  have ha:cO c (r.pl.take k) r.tm=[]:=ha
  have k0:k=0:=by
   have:=fw r.tm (r.pl.take k) c
   rw[ha,List.length_take] at this
   have this:0=min k r.pl.length:=this
   by_cases h:r.pl.length=0
   ·omega
   ·omega
  refine aY iD (ai [1,1,1,0,1,0,0,1,0,0,1,0] (ag Tryz.f61)) [] Ny _ _ _ (Kd p z l i k _ ?_).out
  simp only[au,dt,an,getD_map default hi,← hr,c1,c0,List.length_map]
  refine⟨inl,?_⟩
  rw[if_pos (by rfl)]
  by_cases h:k<r.pl.length
  ·rw[if_pos (by omega)]
   have hsucc:=mD (c:=c) (t:=r.tm) h
   have hgs:=eV (cW c (r.pl.take k) r.tm).aa
   have hsl:(cW c (r.pl.take k) r.tm).aa.length≤1000000:=by rw[fg,List.length_take]; omega
   obtain⟨g1,g2⟩:=rK (n8 (r.pl.take k) r.tm c hso) (lC r.tm (r.pl.take k) c [] hpm)
   have inl2:InL (r.pl.map u1) 1 (k:Int):=by rw[dM]; exact h
   have cp:cI (u1 (r.pl.getD k 0)) 0=r.pl.getD k 0:=rfl
   rw[ha] at hsucc g1 g2
   refine⟨p,z,l,i,k,_,by omega,g1,g2,rfl,rfl,inl,?_⟩
   simp only[au,dt,an,getD_map default hi,← hr,c1,c0,getD_map 0 h,cp]
   rw[if_pos (by rfl)]
   refine⟨inl2,?_⟩
   rw[if_pos (by rfl)]
   refine⟨inl,?_⟩
   rw[if_pos (by rfl)]
   refine⟨aF (l:=[]) (by_:=48) bP (fR (cW c (r.pl.take k) r.tm).aa (r.pl.getD k 0) r.tm) (by show(0+1)*48≤_; decide),one_row ew (fR (cW c (r.pl.take k) r.tm).aa (r.pl.getD k 0) r.tm),?_⟩
   exact aV (k+1) (show r.pl.length-(k+1)<r.pl.length-k by omega) h hsucc (by simp) [.tok] 2 rfl rfl (by simp) (by(try dsimp only); rw[ar h (by omega)]; rfl)
  ·rw[if_neg (by omega)]
   have hn:r.pl=[]:=List.length_eq_zero_iff.1 (by omega)
   subst k0
   exact bN (WkL.refl _) (Pad.refl _) (hQ0 hn)
 ·intro k hk ha
  have hk':k≤r.pl.length:=hk
  have ha:cO c (r.pl.take k) r.tm≠[]:=ha
  have hnl:(cO c (r.pl.take k) r.tm).length≤1000000:=by rw[fw,List.length_take]; omega
  refine aY iD (ai [1,1,1,0,1,0,0,1,0,0,1,0] (ag Tryz.f61)) [] M9 _ _ _ (D1 p z l (cO c (r.pl.take k) r.tm) i k _ ?_).out
  simp only[au,dt,an,getD_map default hi,← hr,c1,c0,List.length_map]
  refine⟨inl,?_⟩
  rw[if_pos (by rfl)]
  by_cases h:k<r.pl.length
  ·rw[if_pos (by omega)]
   have hnl2:(cO c (r.pl.take k) r.tm).length+1≤1000000:=by rw[fw,List.length_take]; omega
   have hsucc:=mD (c:=c) (t:=r.tm) h
   have hgs:=eV (cW c (r.pl.take k) r.tm).aa
   have hsl:(cW c (r.pl.take k) r.tm).aa.length≤1000000:=by rw[fg,List.length_take]; omega
   obtain⟨g1,g2⟩:=rK (n8 (r.pl.take k) r.tm c hso) (lC r.tm (r.pl.take k) c [] hpm)
   have inl2:InL (r.pl.map u1) 1 (k:Int):=by rw[dM]; exact h
   have cp:cI (u1 (r.pl.getD k 0)) 0=r.pl.getD k 0:=rfl
   rw[List.nil_append] at g1 g2
   refine⟨p,z,l,cO c (r.pl.take k) r.tm,i,k,_,hnl,by omega,g1,g2,rfl,rfl,inl,?_⟩
   simp only[au,dt,an,getD_map default hi,← hr,c1,c0,getD_map 0 h,cp]
   rw[if_pos (by rfl)]
   refine⟨inl2,?_⟩
   rw[if_pos (by rfl)]
   refine⟨inl,?_⟩
   rw[if_pos (by rfl)]
   refine⟨aF (by_:=48) bP (cO c (r.pl.take k) r.tm) (fR (cW c (r.pl.take k) r.tm).aa (r.pl.getD k 0) r.tm) (by omega),one_row ew (fR (cW c (r.pl.take k) r.tm).aa (r.pl.getD k 0) r.tm),?_⟩
   exact aV (k+1) (show r.pl.length-(k+1)<r.pl.length-k by omega) h hsucc (by simp) [.dead,.tok] 3 rfl rfl (by simp) (by(try dsimp only); rw[ar h (by omega),List.map_append]; rfl)
  ·rw[if_neg (by omega)]
   have hkl:k=r.pl.length:=by omega
   subst hkl
   have hn:r.pl≠[]:=fun e=>ha (by rw[e]; rfl)
   rw[List.take_length]
   exact bN (WkL.refl _) (Pad.refl _) (hQ1 hn)
def xe:LSp:=fun e H Q=>∃(p z:List PV) (l:List Rr) (c:Mt) (b:List Se) (i:Nat),(∀ x∈p,Low 0 x)∧(∀ x∈z,Low 0 x)∧l.length≤1000000∧i<l.length∧SO c.aa∧b.Perm c.aa∧b.length+(l.getD i default).pl.length≤1000000∧ah (List.map e [1,2,4,5,6,7]) [.list (l.map rrc) .no,.ptr 0 0,.ptr 1 0,.list (b.map stc) (.tok 2),.I i,.I 0]∧av H [.cells p,.cells z,.tok]∧
 ∀(X:ae) (j:Nat),([.cells p,.cells z]++X)[j]?=some .tok→2≤j→Q (.exit 2) (ak [1,2,4,5,6,7] [.list (l.map rrc) .no,.ptr 0 0,.ptr 1 0,.list ((b++cO c (l.getD i default).pl (l.getD i default).tm).map stc) (.tok j),.I i,.I (l.getD i default).pl.length]) ([.cells p,.cells z]++X)
theorem Fc:∀ e H Q,xe e H Q→AwK Tryz.f61.ntmps (.loop (ai [1,1,1,0,1,0,0,1,0,0,1,0] (ag Tryz.f61))) Q e H:=by
 rintro e H Q ⟨p,z,l,c,b,i,hp,hz,hl,hi,hso,hpm,hrl,he,hH,hQ⟩
 have hH:H=_:=hH
 obtain⟨r,hr⟩:∃ r,r=l.getD i default:=⟨_,rfl⟩
 have hcl:c.aa.length=b.length:=hpm.length_eq.symm
 have inl:InL (l.map rrc) 4 (i:Int):=by rw[dP]; exact hi
 have c1:cL (List.drop 1 (rrc r)) 0=r.pl.map u1:=rfl
 have c0:cI (List.drop 0 (rrc r)) 0=r.tm:=rfl
 simp only[← hr] at hrl hQ
 refine rh (f:=stc) (acc:=fun k=>b++cO c (r.pl.take k) r.tm) (I:=fun k=>k≤r.pl.length) (m:=fun k=>r.pl.length-k) (hn:=fun o=>match o.dst with|some 59=>1|_=>0) aj iD M9 [1,2,4,5,6,7] (fun T k=>[.list (l.map rrc) .no,.ptr 0 0,.ptr 1 0,T,.I i,.I k]) [.cells p,.cells z] (0:Nat)
  (xR hp hz) (fun _ _ a _=>c8 a) (fun k _=>uT (bn (.int _ _) (.int _ _))) (fun T k=>rfl) (Nat.zero_le _) (by rw[he]; simp[cO]) hH ?_
 intro k hk
 have hk':k≤r.pl.length:=hk
 have hnl:(b++cO c (r.pl.take k) r.tm).length≤1000000:=by rw[List.length_append,fw,List.length_take]; omega
 refine D1 p z l (b++cO c (r.pl.take k) r.tm) i k _ ?_
 simp only[au,dt,an,getD_map default hi,← hr,c1,c0,List.length_map]
 refine⟨inl,?_⟩
 rw[if_pos (by rfl)]
 by_cases h:k<r.pl.length
 ·rw[if_pos (by omega)]
  have hnl2:(b++cO c (r.pl.take k) r.tm).length+1≤1000000:=by rw[List.length_append,fw,List.length_take]; omega
  have hsucc:=mD (c:=c) (t:=r.tm) h
  have hgs:=eV (cW c (r.pl.take k) r.tm).aa
  have hsl:(cW c (r.pl.take k) r.tm).aa.length≤1000000:=by rw[fg,List.length_take]; omega
  obtain⟨g1,g2⟩:=rK (n8 (r.pl.take k) r.tm c hso) (lC r.tm (r.pl.take k) c b hpm)
  have inl2:InL (r.pl.map u1) 1 (k:Int):=by rw[dM]; exact h
  have cp:cI (u1 (r.pl.getD k 0)) 0=r.pl.getD k 0:=rfl
  refine⟨p,z,l,b++cO c (r.pl.take k) r.tm,i,k,_,hnl,by omega,g1,g2,rfl,rfl,inl,?_⟩
  simp only[au,dt,an,getD_map default hi,← hr,c1,c0,getD_map 0 h,cp]
  rw[if_pos (by rfl)]
  refine⟨inl2,?_⟩
  rw[if_pos (by rfl)]
  refine⟨inl,?_⟩
  rw[if_pos (by rfl)]
  refine⟨aF (by_:=48) bP (b++cO c (r.pl.take k) r.tm) (fR (cW c (r.pl.take k) r.tm).aa (r.pl.getD k 0) r.tm) (by omega),one_row ew (fR (cW c (r.pl.take k) r.tm).aa (r.pl.getD k 0) r.tm),?_⟩
  refine⟨k+1,(show r.pl.length-(k+1)<r.pl.length-k by omega),h,[.dead,.tok],3,rfl,rfl,by simp,?_⟩
  dsimp only
  rw[hsucc,← List.append_assoc,ar h (by omega),List.map_append (f:=stc) (l₁:=b++cO c (r.pl.take k) r.tm)]
  rfl
 ·rw[if_neg (by omega)]
  have hkl:k=r.pl.length:=by omega
  subst hkl
  simp only[onQ,List.take_length]
  exact⟨rfl,rfl,hQ [.tok] 2 rfl (Nat.le_refl _),hQ [.dead,.tok] 3 rfl (by decide)⟩
theorem Ct:ai [1,0,0,1,0] (ai [1,1,1,0,1,0] (ag Tryz.f61))=ai [1,1,1,0,1,0,0,1,0,0,1,0] (ag Tryz.f61):=by kernel_rfl
theorem zw:∀ e H Q,yK e H Q→AwK Tryz.f61.ntmps (.loop (ai [1,0,0,1,0] (ai [1,1,1,0,1,0] (ag Tryz.f61)))) Q e H:=by rw[Ct]; exact DX
theorem zZ:∀ e H Q,xe e H Q→AwK Tryz.f61.ntmps (.loop (ai [1,0,0,1,0] (ai [1,1,1,0,1,0] (ag Tryz.f61)))) Q e H:=by rw[Ct]; exact Fc
theorem Mf (p z:List PV) (l:List Rr) (i:Nat):(by refine(?_:_→_→Prop) [PV.list (l.map rrc) .no,.ptr 0 0,.ptr 1 0,.E,.I i] [Ob.cells p,.cells z]; exact fun g h=>∀(R:Ex→List PV→ae→Prop),(br (decide ((i:Int)<(↑(List.length (l.map rrc)):Int))) (∃(p_1:List PV) (z_1:List PV) (l_1:List Rr) (c:Mt) (i_1:Nat),by refine(?_:_→_→_→_→Prop) (List.getD l_1 i_1 default) (PV.list (l_1.map rrc) .no) (PV.I (wI ((i_1:Int)+1))) [Ob.cells p_1,.cells z_1]; exact fun a b d f=>(∀(x:PV),x∈p_1→Low 0 x)∧(∀(x:PV),x∈z_1→Low 0 x)∧l_1.length≤1000000∧i_1<l_1.length∧c.aa=[]∧List.length (Rr.pl a)≤1000000∧ah [.list (l.map rrc) .no,.ptr 0 0,.ptr 1 0,.E,.I i,.I 0] [b,.ptr 0 0,.ptr 1 0,.E,.I i_1,.I 0]∧av h f∧(Rr.pl a=[]→R .normal [b,.ptr 0 0,.ptr 1 0,.E,d] f)∧(Rr.pl a≠[]→R .normal [b,.ptr 0 0,.ptr 1 0,.list (List.map stc (cO c (Rr.pl a) (Rr.tm a))) (.tok 2),d] [.cells p_1,.cells z_1,.tok])) (R (.exit 0) g h))→Holds (wpK TSJ [([1,0,0,1,0],yK)] (fun _=>0) (ai [1,1,1,0,1,0] (ag Tryz.f61)) [] (ak [1,2,4,5,6] g) h (fun ex e H=>R ex (List.map e [1,2,4,5,6]) H)):Prop):=fun R h=>hoE h
theorem Bk (p z:List PV) (l:List Rr) (b:List Se) (i:Nat):(by refine(?_:_→_→Prop) [Ob.cells p,.cells z,.tok] (PV.list (b.map stc) (.tok 2)); exact fun h k=>by refine(?_:_→Prop) [PV.list (l.map rrc) .no,.ptr 0 0,.ptr 1 0,k,.I i]; exact fun g=>∀(R:Ex→List PV→ae→Prop),(br (decide ((i:Int)<(↑(List.length (l.map rrc)):Int))) (∃(p_1:List PV) (z_1:List PV) (l_1:List Rr) (c:Mt) (b_1:List Se) (i_1:Nat),by refine(?_:_→_→_→Prop) (List.getD l_1 i_1 default) [Ob.cells p_1,.cells z_1] (PV.list (l_1.map rrc) .no); exact fun a d f=>(∀(x:PV),x∈p_1→Low 0 x)∧(∀(x:PV),x∈z_1→Low 0 x)∧l_1.length≤1000000∧i_1<l_1.length∧SO c.aa∧List.Perm b_1 c.aa∧b_1.length+List.length (Rr.pl a)≤1000000∧ah [.list (l.map rrc) .no,.ptr 0 0,.ptr 1 0,k,.I i,.I 0] [f,.ptr 0 0,.ptr 1 0,.list (b_1.map stc) (.tok 2),.I i_1,.I 0]∧av h [.cells p_1,.cells z_1,.tok]∧∀(X:ae),∀(j:Nat),(d++X)[j]?=some .tok→2≤j→R .normal [f,.ptr 0 0,.ptr 1 0,.list (List.map stc (b_1++cO c (Rr.pl a) (Rr.tm a))) (.tok j),.I (wI ((i_1:Int)+1))] (d++X)) (R (.exit 0) g h))→Holds (wpK TSJ [([1,0,0,1,0],xe)] (fun _=>0) (ai [1,1,1,0,1,0] (ag Tryz.f61)) [] (ak [1,2,4,5,6] g) h (fun ex e H=>R ex (List.map e [1,2,4,5,6]) H)):Prop):=fun R h=>hoE h
theorem NA:LOk Tryz.prog gl Tryz.f61.ntmps (ai [1,1,1,0,1,0] (ag Tryz.f61)) [] [([1,0,0,1,0],yK)]:=(.cons suE zw (.nil _ _ _ _ _))
theorem MQ:LOk Tryz.prog gl Tryz.f61.ntmps (ai [1,1,1,0,1,0] (ag Tryz.f61)) [] [([1,0,0,1,0],xe)]:=(.cons suE zZ (.nil _ _ _ _ _))
def IQ:LSp:=fun e H Q=>∃(p z:List PV) (l:List Rr) (c:Mt),(∀ x∈p,Low 0 x)∧(∀ x∈z,Low 0 x)∧l.length≤1000000∧tot l≤1000000∧c.aa=[]∧ah (List.map e [1,2,4,5,6]) [.list (l.map rrc) .no,.ptr 0 0,.ptr 1 0,.E,.I 0]∧av H [.cells p,.cells z]∧∀ G,Q (.exit 0) (ak [1,2,4,5,6] [.list (l.map rrc) .no,.ptr 0 0,.ptr 1 0,.list ((eo c l).map stc) .no,.I l.length]) ([.cells p,.cells z]++G)
set_option maxRecDepth 10000 in
theorem Be:∀ e H Q,IQ e H Q→AwK Tryz.f61.ntmps (.loop (ai [1,1,1,0,1,0] (ag Tryz.f61))) Q e H:=by
 rintro e H Q ⟨p,z,l,c,hp,hz,hl,ht,hc,he,hH,hQ⟩
 have hH:H=_:=hH
 have hso:SO c.aa:=by rw[hc]; exact SO.nil
 have hlb:=xR hp hz
 refine kJ (f:=stc) (acc:=fun i=>eo c (l.take i)) (I:=fun i=>i≤l.length) (m:=fun i=>l.length-i) aj [1,2,4,5,6] (fun T i=>[.list (l.map rrc) .no,.ptr 0 0,.ptr 1 0,T,.I i]) [.cells p,.cells z] (0:Nat)
  hlb.up (fun _ _ a _=>c8 a) (fun es k j _ h=> .same (aP l) (.same (.ptr _ _ (by simp)) (.same (.ptr _ _ (by simp)) (.row h (.same (.int _ _) .nil))))) (fun k _ w hw=>by
   simp only[List.mem_cons,List.not_mem_nil,or_false] at hw
   rcases hw with rfl|rfl|rfl|rfl|rfl
   ·exact aP l
   ·exact .ptr _ _ (by simp)
   ·exact .ptr _ _ (by simp)
   ·exact aH NT.exact (by simp)
   ·exact .int _ _) (Nat.zero_le _) (by simp[eo]) he hH ?_ ?_
 ·intro i hi ha
  have hi':i≤l.length:=hi
  have ha:eo c (l.take i)=[]:=ha
  refine aY iD (ai [1,1,1,0,1,0] (ag Tryz.f61)) [] NA _ _ _ (Mf p z l i _ ?_).out
  simp only[au,dt,List.length_map]
  by_cases h:i<l.length
  ·rw[if_pos (by omega)]
   have hs:=mz (c:=c) h
   have e0:tot (l.take i)=0:=by rw[← gP (l.take i) c,ha]; rfl
   have e1:=lc h
   have e2:=fO (l:=l) (i+1)
   have e3:(ay c (l.take i)).aa=[]:=List.eq_nil_of_length_eq_zero (by rw[gE,hc,e0]; rfl)
   rw[ha,List.nil_append] at hs
   refine⟨p,z,l,ay c (l.take i),i,hp,hz,hl,h,e3,by omega,rfl,rfl,fun hn=>?_,fun hn=>?_⟩
   ·rw[hn] at hs
    exact ie (i+1) (show l.length-(i+1)<l.length-i by omega) h hs [] rfl (by rw[ar h (by omega)])
   ·exact aV (i+1) (show l.length-(i+1)<l.length-i by omega) h hs (fun e=>hn (List.length_eq_zero_iff.1 (by rw[← fw (l.getD i default).tm (l.getD i default).pl (ay c (l.take i)),e]; rfl))) [.tok] 2 rfl rfl (by simp) (by(try dsimp only); rw[ar h (by omega)])
  ·rw[if_neg (by omega)]
   have:i=l.length:=by omega
   subst this
   rw[List.take_length] at ha
   have hq:=hQ []
   rw[ha] at hq
   exact bN (.cons (.refl _) (.cons (.refl _) (.cons (.refl _) (.cons (.list _ _) (.cons (.refl _) .nil))))) (Pad.refl _) hq
 ·intro i hi ha
  have hi':i≤l.length:=hi
  have ha:eo c (l.take i)≠[]:=ha
  refine aY iD (ai [1,1,1,0,1,0] (ag Tryz.f61)) [] MQ _ _ _ (Bk p z l (eo c (l.take i)) i _ ?_).out
  simp only[au,dt,List.length_map]
  by_cases h:i<l.length
  ·rw[if_pos (by omega)]
   have hs:=mz (c:=c) h
   have e1:=lc h
   have e2:=fO (l:=l) (i+1)
   have e4:=gP (l.take i) c
   have hpm:=oq (l.take i) c [] (by rw[hc])
   rw[List.nil_append] at hpm
   refine⟨p,z,l,ay c (l.take i),eo c (l.take i),i,hp,hz,hl,h,g7 _ _ hso,hpm,by omega,rfl,rfl,fun X j hj h2=>?_⟩
   exact aV (i+1) (show l.length-(i+1)<l.length-i by omega) h hs (fun e=>ha (List.append_eq_nil_iff.1 e).1) X j rfl hj h2 (by(try dsimp only); rw[ar h (by omega)])
  ·rw[if_neg (by omega)]
   have:i=l.length:=by omega
   subst this
   rw[List.take_length]
   exact bN (.cons (.refl _) (.cons (.refl _) (.cons (.refl _) (.cons (.list _ _) (.cons (.refl _) .nil))))) (Pad.refl _) (hQ _)
def Jx:LSp:=fun e H Q=>∃(p z:List PV) (l:List Rr) (c:Mt) (b:List Se),(∀ x∈p,Low 0 x)∧(∀ x∈z,Low 0 x)∧l.length≤1000000∧b.length+tot l≤1000000∧SO c.aa∧b.Perm c.aa∧ah (List.map e [1,2,4,5,6]) [.list (l.map rrc) .no,.ptr 0 0,.ptr 1 0,.list (b.map stc) (.tok 2),.I 0]∧av H [.cells p,.cells z,.tok]∧∀ G,Q (.exit 0) (ak [1,2,4,5,6] [.list (l.map rrc) .no,.ptr 0 0,.ptr 1 0,.list ((b++eo c l).map stc) .no,.I l.length]) ([.cells p,.cells z]++G)
theorem Bj:∀ e H Q,Jx e H Q→AwK Tryz.f61.ntmps (.loop (ai [1,1,1,0,1,0] (ag Tryz.f61))) Q e H:=by
 rintro e H Q ⟨p,z,l,c,b,hp,hz,hl,ht,hso,hpm,he,hH,hQ⟩
 have hH:H=_:=hH
 refine AW.ME (slots:=[1,2,4,5,6]) ?_
 refine rh (f:=stc) (acc:=fun i=>b++eo c (l.take i)) (I:=fun i=>i≤l.length) (m:=fun i=>l.length-i) (hn:=fun _=>0) aj iD MQ [1,2,4,5,6] (fun T i=>[.list (l.map rrc) .no,.ptr 0 0,.ptr 1 0,T,.I i]) [.cells p,.cells z] (0:Nat)
  (xR hp hz) (fun _ _ a _=>c8 a) (fun k _=>uT (bu (.int _ _))) (fun T k=>rfl) (Nat.zero_le _) (by rw[he]; simp[eo]) hH ?_
 intro i hi
 have hi':i≤l.length:=hi
 refine Bk p z l (b++eo c (l.take i)) i _ ?_
 simp only[au,dt,List.length_map]
 by_cases h:i<l.length
 ·rw[if_pos (by omega)]
  have hs:=mz (c:=c) h
  have e1:=lc h
  have e2:=fO (l:=l) (i+1)
  have e4:=gP (l.take i) c
  refine⟨p,z,l,ay c (l.take i),b++eo c (l.take i),i,hp,hz,hl,h,g7 _ _ hso,oq (l.take i) c b hpm,by rw[List.length_append]; omega,rfl,rfl,fun X j hj h2=>?_⟩
  refine⟨i+1,(show l.length-(i+1)<l.length-i by omega),h,X,j,rfl,hj,h2,?_⟩
  dsimp only
  rw[ar h (by omega),hs,← List.append_assoc]
 ·rw[if_neg (by omega)]
  have:i=l.length:=by omega
  subst this
  simp only[onQ,List.take_length]
  have wk:∀ T,WkL (List.map (ak [1,2,4,5,6] [.list (l.map rrc) .no,.ptr 0 0,.ptr 1 0,.list ((b++eo c l).map stc) T,.I l.length]) [1,2,4,5,6]) [.list (l.map rrc) .no,.ptr 0 0,.ptr 1 0,.list ((b++eo c l).map stc) .no,.I l.length]:=fun T=> .cons (.refl _) (.cons (.refl _) (.cons (.refl _) (.cons (.list _ _) (.cons (.refl _) .nil))))
  exact⟨rfl,rfl,⟨_,wk _,hQ [.tok]⟩,⟨_,wk _,hQ [.dead,.tok]⟩⟩
theorem Lf (z:List PV) (c:Mt) (l:List Rr):(by refine(?_:_→_→_→_→Prop) [PV.list (l.map rrc) .no,.ptr 0 0,.ptr 1 0] (PV.list (c.aa.map stc) .no) (List.flatten (l.map rrc)) ([]++c.rows.map rrc); exact fun a b d f=>∀(R:Ex→List PV→ae→Prop),(aG [] (c.rows.map rrc) 4 48∧List.all (List.flatten (c.rows.map rrc)) PV.one=true∧(c.rows.map rrc=[]→aG [] (l.map rrc) 4 48∧List.all d PV.one=true∧(l.map rrc=[]→R .normal a [.cells [.U c.id,.I c.md,.U c.ins,.E,b],.cells z])∧(l.map rrc≠[]→R .normal a [.cells [.U c.id,.I c.md,.U c.ins,.list ([]++l.map rrc) (.tok 2),b],.cells z,.tok]))∧(c.rows.map rrc≠[]→aG f (l.map rrc) 4 48∧List.all d PV.one=true∧(l.map rrc=[]→R .normal a [.cells [.U c.id,.I c.md,.U c.ins,.list f (.tok 2),b],.cells z,.tok])∧(l.map rrc≠[]→R .normal a [.cells [.U c.id,.I c.md,.U c.ins,.list ([]++c.rows.map rrc++l.map rrc) (.tok 3),b],.cells z,.dead,.tok])))→Holds (wpK [] [] (fun o=>match o.dst with|some 12=>4|some 14=>4|_=>0) (bX [1,0] (ag Tryz.f61)) [] (ak [1,2,4] a) [.cells (mtc c),.cells z] (fun ex e H=>R ex (List.map e [1,2,4]) H)):Prop):=fun R h=>hoE h
theorem C2 {cs cs':List PV} (h:WkL cs cs') (R:ae):WkH (.cells cs::R) (.cells cs'::R):=by
 refine⟨rfl,fun o b ho=>?_⟩
 cases o with
 | zero=>simp at ho; subst ho; exact⟨_,rfl,.cells h⟩
 | succ o=>exact⟨b,by simpa using ho,.refl b⟩
def mwR (c:Mt) (T:PV):List PV:=[.U c.id,.I c.md,.U c.ins,T,.list (c.aa.map stc) .no]
theorem Hv {c:Mt} {l:List Rr}:∀ x∈mwR c (.list (l.map rrc) .no),Low 0 x:=gQ (.int _ _) (.int _ _) (.int _ _) (aP _) (dz _)
theorem lW {c:Mt} {l k:List Rr} {t:Tail} {z:List PV} {G:ae} (hz:∀ x∈z,Low 0 x):ef 2 [.list (l.map rrc) .no,.ptr 0 0,.ptr 1 0] (.cells (mwR c (.list (k.map rrc) t)) :: .cells z::G) [.list (l.map rrc) .no,.ptr 0 0,.ptr 1 0] [.cells (mwR c (.list (k.map rrc) .no)),.cells z]:=by
 refine wZ (B':=[.cells (mwR c (.list (k.map rrc) t)),.cells z]) (B:=[.cells (mwR c (.list (k.map rrc) .no)),.cells z]) (X:=G) (kW (fun x hx=> .low (Hv x hx)) (fun x hx=> .low (hz x hx))) (WkL.refl _) (C2 (.cons (.refl _) (.cons (.refl _) (.cons (.refl _) (.cons (.list _ _) (.cons (.refl _) .nil))))) _) ?_ (by simp)
 intro v hv
 simp only[List.mem_cons,List.not_mem_nil,or_false] at hv
 rcases hv with rfl|rfl|rfl
 ·exact .low (aP l)
 ·exact .ptr _ _ (by simp)
 ·exact .ptr _ _ (by simp)
def Jt:LSp:=fun e H Q=>∃(z:List PV) (c:Mt) (l:List Rr),(∀ x∈z,Low 0 x)∧c.rows.length+l.length≤1000000∧ah (List.map e [1,2,4]) [.list (l.map rrc) .no,.ptr 0 0,.ptr 1 0]∧av H [.cells (mtc c),.cells z]∧
 Q .normal (ak [1,2,4] [.list (l.map rrc) .no,.ptr 0 0,.ptr 1 0]) [.cells [.U c.id,.I c.md,.U c.ins,.list ((c.rows++l).map rrc) .no,.list (c.aa.map stc) .no],.cells z]
theorem D4:∀ e H Q,Jt e H Q→AwK Tryz.f61.ntmps (bX [1,0] (ag Tryz.f61)) Q e H:=by
 rintro e H Q ⟨z,c,l,hz,hl,he,hH,hQ⟩
 have hH:H=_:=hH
 subst hH
 have he:List.map e [1,2,4]=_:=he
 refine AW.kP aj (slots:=[1,2,4]) (dj (T:=[]) (slots:=[1,2,4]) (outs:=[1,2,4]) (hn:=fun o=>match o.dst with|some 12=>4|some 14=>4|_=>0) (.nil _ _) (.nil _ _ _ _ _) he rfl (Lf z c l (fun ex vs H'=>∃ vs2 H2,ef 2 vs H' vs2 H2∧Q ex (ak [1,2,4] vs2) H2) ?_))
 refine⟨jL (a:=[]) (b:=c.rows) (by simp; omega),mT _,fun e1=>⟨jL (a:=[]) (b:=l) (by simp; omega),mT _,fun e2=>?_,fun e2=>?_⟩,fun e1=>⟨jL (a:=c.rows) (b:=l) hl,mT _,fun e2=>?_,fun e2=>?_⟩⟩
 ·have e3:c.rows=[]:=List.map_eq_nil_iff.1 e1
  have e4:l=[]:=List.map_eq_nil_iff.1 e2
  have:=lW (c:=c) (l:=l) (k:=c.rows++l) (t:= .exact) (G:=[]) hz
  refine⟨_,_,?_,hQ⟩
  rw[e3,e4] at this ⊢
  exact this
 ·have e3:c.rows=[]:=List.map_eq_nil_iff.1 e1
  have:=lW (c:=c) (l:=l) (k:=c.rows++l) (t:= .tok 2) (G:=[.tok]) hz
  refine⟨_,_,?_,hQ⟩
  rw[e3] at this ⊢
  exact this
 ·have e4:l=[]:=List.map_eq_nil_iff.1 e2
  have:=lW (c:=c) (l:=l) (k:=c.rows++l) (t:= .tok 2) (G:=[.tok]) hz
  refine⟨_,_,?_,hQ⟩
  rw[e4,List.append_nil] at this ⊢
  exact this
 ·have:=lW (c:=c) (l:=l) (k:=c.rows++l) (t:= .tok 3) (G:=[.dead,.tok]) hz
  refine⟨_,_,?_,hQ⟩
  rw[List.map_append] at this ⊢
  exact this
def MT:LSp:=fun e H Q=>IQ e H Q∨Jx e H Q
theorem Hf:∀ e H Q,MT e H Q→AwK Tryz.f61.ntmps (.loop (ai [1,1,1,0,1,0] (ag Tryz.f61))) Q e H:=by
 rintro e H Q (h|h)
 ·exact Be e H Q h
 ·exact Bj e H Q h
theorem FF (c:Mt) (l:List Rr):∀(K:PV→Prop),(∃(z:List PV) (c_1:Mt) (l_1:List Rr),by refine(?_:_→_→Prop) (c_1.aa.map stc) (PV.list (l_1.map rrc) .no); exact fun t u=>by refine(?_:_→_→_→Prop) (Ob.cells [.U c_1.id,.I c_1.md,.U c_1.ins,.list (List.map rrc (c_1.rows++l_1)) .no,.list t .no]) [u,.ptr 0 0,.ptr 1 0,.list ([]++c_1.aa.map stc) (.tok 2),.I 0] [u,.ptr 0 0,.ptr 1 0,.E,.I 0]; exact fun q r s=>by refine(?_:_→Prop) [q,.cells z,.tok]; exact fun v=>(∀(x:PV),x∈z→Low 0 x)∧c_1.rows.length+l_1.length≤1000000∧ah [.list (l.map rrc) .no,.ptr 0 0,.ptr 1 0] [.list (l_1.map rrc) .no,.ptr 0 0,.ptr 1 0]∧av [.cells [.U c.id,.I c.md,.U c.ins,.list (c.rows.map rrc) .no,.list (c.aa.map stc) .no],.cells [.U 0,.I 0,.U 0,.E,.E]] [.cells [.U c_1.id,.I c_1.md,.U c_1.ins,.list (c_1.rows.map rrc) .no,.list t .no],.cells z]∧aG [] t 6 48∧List.all (List.flatten t) PV.one=true∧(c_1.aa.map stc=[]→(∃(p:List PV) (z_1:List PV) (l:List Rr) (c:Mt),(∀(x:PV),x∈p→Low 0 x)∧(∀(x:PV),x∈z_1→Low 0 x)∧l.length≤1000000∧tot l≤1000000∧c.aa=[]∧ah s [.list (l.map rrc) .no,.ptr 0 0,.ptr 1 0,.E,.I 0]∧av [q,.cells z] [.cells p,.cells z_1]∧∀(_:List Ob),∃(l_2:List Se) (tl:Tail),by refine(?_:_→Prop) [PV.list (List.map stc (byI l_2 8)) .no]; exact fun e=>by refine(?_:_→Prop) (List.drop 0 (over p 4 e)); exact fun a=>by refine(?_:_→Prop) [PV.U (cI a 0),.I (cI a 1),.U (cI a 2),.list (cL a 3) (cT a 3),.list (cL a 4) (cT a 4)]; exact fun d=>ah [.list (List.map stc (eo c l)) .no] [.list (l_2.map stc) tl]∧l_2.length≤1000000∧br (1 == 1 && List.all e PV.one && decide (5≤p.length) && true) (br (true && aE [.int .u32,.int .i64,.int .u32,.list,.list] 0 a) (br (5 == 5 && List.all d PV.one && decide (5≤z_1.length) && true) (K (.agg d)) False) False) False)∨∃(p:List PV) (z_1:List PV) (l:List Rr) (c:Mt) (b:List Se),(∀(x:PV),x∈p→Low 0 x)∧(∀(x:PV),x∈z_1→Low 0 x)∧l.length≤1000000∧b.length+tot l≤1000000∧SO c.aa∧List.Perm b c.aa∧ah s [.list (l.map rrc) .no,.ptr 0 0,.ptr 1 0,.list (b.map stc) (.tok 2),.I 0]∧av [q,.cells z] [.cells p,.cells z_1,.tok]∧∀(_:List Ob),∃(l_2:List Se) (tl:Tail),by refine(?_:_→Prop) [PV.list (List.map stc (byI l_2 8)) .no]; exact fun h=>by refine(?_:_→Prop) (List.drop 0 (over p 4 h)); exact fun f=>by refine(?_:_→Prop) [PV.U (cI f 0),.I (cI f 1),.U (cI f 2),.list (cL f 3) (cT f 3),.list (cL f 4) (cT f 4)]; exact fun g=>ah [.list (List.map stc (b++eo c l)) .no] [.list (l_2.map stc) tl]∧l_2.length≤1000000∧br (1 == 1 && List.all h PV.one && decide (5≤p.length) && true) (br (true && aE [.int .u32,.int .i64,.int .u32,.list,.list] 0 f) (br (5 == 5 && List.all g PV.one && decide (5≤z_1.length) && true) (K (.agg g)) False) False) False)∧(c_1.aa.map stc≠[]→(∃(p:List PV) (z_1:List PV) (l:List Rr) (c:Mt),(∀(x:PV),x∈p→Low 0 x)∧(∀(x:PV),x∈z_1→Low 0 x)∧l.length≤1000000∧tot l≤1000000∧c.aa=[]∧ah r [.list (l.map rrc) .no,.ptr 0 0,.ptr 1 0,.E,.I 0]∧av v [.cells p,.cells z_1]∧∀(_:List Ob),∃(l_2:List Se) (tl:Tail),by refine(?_:_→Prop) [PV.list (List.map stc (byI l_2 8)) .no]; exact fun k=>by refine(?_:_→Prop) (List.drop 0 (over p 4 k)); exact fun i=>by refine(?_:_→Prop) [PV.U (cI i 0),.I (cI i 1),.U (cI i 2),.list (cL i 3) (cT i 3),.list (cL i 4) (cT i 4)]; exact fun j=>ah [.list (List.map stc (eo c l)) .no] [.list (l_2.map stc) tl]∧l_2.length≤1000000∧br (1 == 1 && List.all k PV.one && decide (5≤p.length) && true) (br (true && aE [.int .u32,.int .i64,.int .u32,.list,.list] 0 i) (br (5 == 5 && List.all j PV.one && decide (5≤z_1.length) && true) (K (.agg j)) False) False) False)∨∃(p:List PV) (z_1:List PV) (l:List Rr) (c:Mt) (b:List Se),(∀(x:PV),x∈p→Low 0 x)∧(∀(x:PV),x∈z_1→Low 0 x)∧l.length≤1000000∧b.length+tot l≤1000000∧SO c.aa∧List.Perm b c.aa∧ah r [.list (l.map rrc) .no,.ptr 0 0,.ptr 1 0,.list (b.map stc) (.tok 2),.I 0]∧av v [.cells p,.cells z_1,.tok]∧∀(_:List Ob),∃(l_2:List Se) (tl:Tail),by refine(?_:_→Prop) [PV.list (List.map stc (byI l_2 8)) .no]; exact fun o=>by refine(?_:_→Prop) (List.drop 0 (over p 4 o)); exact fun m=>by refine(?_:_→Prop) [PV.U (cI m 0),.I (cI m 1),.U (cI m 2),.list (cL m 3) (cT m 3),.list (cL m 4) (cT m 4)]; exact fun n=>ah [.list (List.map stc (b++eo c l)) .no] [.list (l_2.map stc) tl]∧l_2.length≤1000000∧br (1 == 1 && List.all o PV.one && decide (5≤p.length) && true) (br (true && aE [.int .u32,.int .i64,.int .u32,.list,.list] 0 m) (br (5 == 5 && List.all n PV.one && decide (5≤z_1.length) && true) (K (.agg n)) False) False) False))→AcK 61 [.agg (mtc c),.list (l.map rrc) .no] [] (fun x _=>K x):=fun K h=>acW (T:=TSJ) (L:=[([1,0],Jt),([1,1,1,0,1,0],MT)]) (fun o=>match o.dst with|some 19=>4|_=>0) Tryz.func61 (iD) (.cons atE D4 (.cons suE Hf (.nil _ _ _ _ _))) h
theorem Np {l:List Se}:∀ y∈flS l,y.one=true:=by
 intro y hy
 obtain⟨e,he,hy⟩:=List.mem_flatten.1 hy
 obtain⟨a,_,rfl⟩:=List.mem_map.1 he
 exact ew a y hy
theorem FO (ps:List Int) (t:Int):∀ c:Mt,(cW c ps t).md=c.md∧(cW c ps t).ins=c.ins:=by
 induction ps with
 | nil=>intro c; exact⟨rfl,rfl⟩
 | cons p ps ih=>intro c; exact ih (fS c p t)
theorem wJ (l:List Rr):∀ c:Mt,(ay c l).md=c.md∧(ay c l).ins=c.ins:=by
 induction l with
 | nil=>intro c; exact⟨rfl,rfl⟩
 | cons r l ih=>intro c; have:=ih (fx c r); have h:=FO r.pl r.tm c; exact⟨this.1.trans h.1,this.2.trans h.2⟩
theorem uo (c:Mt) (l:List Rr):mtc (ay c l)=[.U c.id,.I c.md,.U c.ins,.list ((c.rows++l).map rrc) .no,.list ((ay c l).aa.map stc) .no]:=by
 have h:=wJ l c
 show [PV.U (ay c l).id,.I (ay c l).md,.U (ay c l).ins,.list ((ay c l).rows.map rrc) .no,.list ((ay c l).aa.map stc) .no]=_
 rw[g5,h.1,h.2,c9]
def FA (args:List PV) (K:PV→Prop):Prop:=∃(c:Mt) (l:List Rr) (t1 t2 t3:Tail),ah args [.agg [.U c.id,.I c.md,.U c.ins,.list (c.rows.map rrc) t1,.list (c.aa.map stc) t2],.list (l.map rrc) t3]∧c.rows.length+l.length≤1000000∧SO c.aa∧(∀ s∈c.aa,s.nu<8)∧c.aa.length+tot l≤8∧K (ay c l).pv
theorem GC:SpK 61 (.pure FA):=by
 rintro args K ⟨c,l,t1,t2,t3,he,hl,hso,hb,ht,hk⟩
 have he:args=_:=he
 subst he
 have h8:=pY (b:=8) l c hb (by omega)
 have hlz:∀ x∈[PV.U 0,.I 0,.U 0,.E,.E],Low 0 x:=gQ (.int _ _) (.int _ _) (.int _ _) (aH NT.exact (by simp)) (aH NT.exact (by simp))
 have fin:∀ b:List Se,b.Perm c.aa→byI (b++eo c l) 8=(ay c l).aa:=fun b hp=>L7 (g7 l c hso) (oq l c b hp) h8
 have e9:∀ x:List Se,x=(ay c l).aa→PV.agg [.U c.id,.I c.md,.U c.ins,.list ((c.rows++l).map rrc) .no,.list (x.map stc) .no]=(ay c l).pv:=by
  rintro x rfl
  rw[LC,uo]
 have hlp:∀ x∈[PV.U c.id,.I c.md,.U c.ins,.list ((c.rows++l).map rrc) .no,.list (c.aa.map stc) .no],Low 0 x:=gQ (.int _ _) (.int _ _) (.int _ _) (aP _) (dz _)
 have hsl:(c.aa.map stc).flatten.length=(c.aa.map stc).flatten.length:=rfl
 refine bB aj (.cons gK (.cons (.list _ _) .nil)) (bn c.low (aP l)) (ay c l).low (FF c l (fun x=>x=(ay c l).pv) ⟨_,c,l,hlz,hl,rfl,rfl,?_⟩) hk
 simp only[au]
 have app:aG [] (c.aa.map stc) 6 48:=⟨fun _ h=>(nomatch h),b5 bP _,by simp; omega⟩
 refine⟨app,List.all_eq_true.2 Np,fun e1=>?_,fun e1=>?_⟩
 ·have e2:c.aa=[]:=List.map_eq_nil_iff.1 e1
  refine .inl ⟨_,_,l,c,hlp,hlz,by omega,by omega,e2,rfl,rfl,fun _=>⟨eo c l,.no,rfl,by rw[gP]; omega,?_⟩⟩
  rw[if_pos (by rfl),if_pos (by rfl),if_pos (by rfl)]
  exact e9 _ (by have:=fin [] (by rw[e2]); rwa [List.nil_append] at this)
 ·refine .inr ⟨_,_,l,c,c.aa,hlp,hlz,by omega,by omega,hso,List.Perm.refl _,rfl,rfl,fun _=>⟨c.aa++eo c l,.no,rfl,by rw[List.length_append,gP]; omega,?_⟩⟩
  rw[if_pos (by rfl),if_pos (by rfl),if_pos (by rfl)]
  exact e9 _ (fin _ (List.Perm.refl _))
def TRM:Tab:=[(59,.pure tH),(53,.pure xC),(15,.pure r6),(61,.pure FA),(60,.pure rI)]
theorem Ku:TbK TRM:= .cons Ag (.cons wy (.cons sg (.cons GC (.cons s9 (.nil _ _)))))
theorem HG (w:List Mt) (m id md ins:Int) (l:List Rr):(by refine(?_:_→_→Prop) (PV.list (w.map mtc) .no) (PV.list (l.map rrc) .no); exact fun d e=>∀(K:PV→Prop),by refine(?_:_→Prop) (K (.tup [d,.I 14])); exact fun a=>(∃(w_1:List Mt) (b:List Rr) (l_1:List Rr) (t0:Tail) (t1:Tail) (t2:Tail),ah [d,.E,e] [.list (w_1.map mtc) t0,.list (b.map rrc) t1,.list (l_1.map rrc) t2]∧SmM w_1∧(∀(r:Rr),r∈l_1→∀(p:Int),p∈r.pl→0≤p)∧b.length+l_1.length≤1000000∧tot b+tot l_1≤1000000∧br ((kB w_1 b l_1 == 14) == false) (∃(t:Int),0≤t∧ah [.U id] [.U t]∧br (!aC t) a (br (kB w_1 b l_1 != 0) (K (.tup [d,.I (kB w_1 b l_1)])) (∃(w_2:List Mt) (tl:Tail) (t:Int),ah [d,.U id] [.list (w_2.map mtc) tl,.U t]∧w_2.length≤1000000∧br (bC Mt.id w_2 t) (K (.tup [d,.I 11])) (br (decide ((↑(List.length (w.map mtc)):Int)≥m)) (K (.tup [d,.I 10])) (∃(c:Mt) (l_2:List Rr) (t1:Tail) (t2:Tail) (t3:Tail),ah [.agg [.U id,.I md,.U ins,.E,.E],e] [.agg [.U c.id,.I c.md,.U c.ins,.list (c.rows.map rrc) t1,.list (c.aa.map stc) t2],.list (l_2.map rrc) t3]∧c.rows.length+l_2.length≤1000000∧SO c.aa∧(∀(s:Se),s∈c.aa→s.nu<8)∧c.aa.length+tot l_2≤8∧∃(w_3:List Mt) (tl:Tail) (t1:Tail) (t2:Tail) (c_1:Mt),ah [d,.agg [.U (Mt.id (ay c l_2)),.I (Mt.md (ay c l_2)),.U (Mt.ins (ay c l_2)),.list (List.map rrc (Mt.rows (ay c l_2))) .no,.list (List.map stc (Mt.aa (ay c l_2))) .no]] [.list (w_3.map mtc) tl,.agg [.U c_1.id,.I c_1.md,.U c_1.ins,.list (c_1.rows.map rrc) t1,.list (c_1.aa.map stc) t2]]∧dD Mt.id w_3∧w_3.length≤100000∧K (.tup [.list (List.map mtc (fj Mt.id w_3 c_1)) .no,.I 0])))))) a)→AcK 25 [d,.I m,.U id,.I md,.U ins,e] [] (fun x _=>K x):Prop):=fun K h=>acW (T:=TRM) (L:=[]) (fun _=>0) Tryz.func25 (Ku) (LOk.nil _ _ _ _ _) h
theorem MO.smM {w:List Mt} {m:Int} (ro:MO w m) (hm:m≤100000):SmM w:=by
 refine⟨by have:=ro.full; omega,fun c hc=>?_⟩
 have:=(ro.cs c hc).aa
 have:=(ro.cs c hc).tot
 omega
theorem GV {c:Mt} {l:List Rr} (h:(ay c l).Ok):c.aa.length+tot l≤8:=by
 have h1:=h.aa
 have h2:=h.tot
 rw[gE] at h1
 omega
theorem Cg {w:List Mt} {b l:List Rr}:kB w b l=if(wsR w ws0 l).ids=true then 14 else if szW b l=true then 21 else if(wsR w ws0 l).ex=true then 11 else 0:=rfl
def vH (l:List Rr):Prop:=∀ r∈l,∀ p∈r.pl,0≤p
def x6 (args:List PV) (K:PV→Prop):Prop:=∃(w:List Mt) (m id md ins:Int) (l:List Rr) (t0 t1:Tail),ah args [.list (w.map mtc) t0,.I m,.U id,.I md,.U ins,.list (l.map rrc) t1]∧MO w m∧m≤100000∧0≤id∧vH l∧smR l∧
 K (.tup [.list ((dB w m id md ins l).1.map mtc) .no,.I (dB w m id md ins l).2])
theorem Co {w:List Mt} {x:Int}:Low 0 (.tup [.list (w.map mtc) .no,.I x]):= .tup _ (bn (bK w) (.int _ _))
theorem DV:SpK 25 (.pure x6):=by
 rintro args K ⟨w,m,id,md,ins,l,t0,t1,he,ro,hm,h0,hp,hl,hk⟩
 have he:args=_:=he
 subst he
 have hlt:=hl.tot
 have hll:=hl.1
 have hsm:=ro.smM hm
 refine bB aj (.cons (.list _ _) (.cons (.refl _) (.cons (.refl _) (.cons (.refl _) (.cons (.refl _) (.cons (.list _ _) .nil)))))) ?_ Co (HG w m id md ins l (fun x=>x=_) ⟨w,[],l,.no,.exact,.no,rfl,hsm,hp,by simp; omega,by show 0+tot l≤_; omega,?_⟩) hk
 ·intro x hx
  simp only[List.mem_cons,List.not_mem_nil,or_false] at hx
  rcases hx with rfl|rfl|rfl|rfl|rfl|rfl
  ·exact bK w
  ·exact .int _ _
  ·exact .int _ _
  ·exact .int _ _
  ·exact .int _ _
  ·exact aP l
 obtain⟨z,hz⟩:∃ z,z=dB w m id md ins l:=⟨_,rfl⟩
 rw[← hz]
 unfold dB at hz
 rw[Cg]
 simp only[au]
 by_cases c1:(wsR w ws0 l).ids=true
 ·rw[if_pos (.inl c1)] at hz
  simp only[if_pos c1]
  rw[if_neg (by decide),hz]
 ·simp only[if_neg c1]
  have n14:((if szW [] l=true then(21:Int) else if(wsR w ws0 l).ex=true then 11 else 0) == 14)=false:=by
   split
   ·rfl
   ·split<;>rfl
  rw[if_pos (by rw[n14]; rfl)]
  refine⟨id,h0,rfl,?_⟩
  by_cases c2:aC id=true
  ·rw[if_neg (fun e=>by rcases e with e|e; exact c1 e; rw[c2] at e; cases e)] at hz
   rw[if_neg (by rw[c2]; decide)]
   by_cases c3:szW [] l=true
   ·rw[if_pos c3] at hz
    simp only[if_pos c3]
    rw[if_pos (by rfl),hz]
   ·rw[if_neg c3] at hz
    simp only[if_neg c3]
    by_cases c4:(wsR w ws0 l).ex=true
    ·rw[if_pos c4] at hz
     simp only[if_pos c4]
     rw[if_pos (by rfl),hz]
    ·rw[if_neg c4] at hz
     simp only[if_neg c4]
     rw[if_neg (by decide)]
     refine⟨w,.no,id,rfl,ro.len,?_⟩
     by_cases c5:bC Mt.id w id=true
     ·rw[if_pos c5] at hz
      rw[if_pos c5,hz]
     ·rw[if_neg c5] at hz
      rw[if_neg c5]
      simp only[List.length_map]
      by_cases c6:(w.length:Int)≥m
      ·rw[if_pos c6] at hz
       rw[if_pos (decide_eq_true c6),hz]
      ·rw[if_neg c6] at hz
       rw[if_neg (by rw[decide_eq_false c6]; decide)]
       have hx:(wsR w ws0 l).ex=false:=by simpa using c4
       have hok:=yH (w:=w) (c:=mk0 id md ins) c2 (.inl ⟨rfl,rfl⟩) (show szW [] l=false by simpa using c3) hx fun p _=>wK rfl p
       refine⟨mk0 id md ins,l,.exact,.exact,.no,rfl,by show 0+_≤_; omega,SO.nil,(fun _ h=>(nomatch h)),GV hok,w,.no,.no,.no,ay (mk0 id md ins) l,rfl,ro.rise,hsm.len,?_⟩
       rw[hz]
  ·rw[if_pos (.inr (by simpa using c2))] at hz
   rw[if_pos (by simpa using c2),hz]
theorem J0 (w:List Mt) (p st un no:Int) (c:Mt) (i:Nat):(by refine(?_:_→_→_→_→_→Prop) (List.getD (c.aa.map stc) (Int.toNat (i:Int)) []) (Ob.cells [.U c.id,.I c.md,.U c.ins,.list (c.rows.map rrc) .no,.list (c.aa.map stc) .no]) [PV.list (w.map mtc) .no,.U p,.I st,.I un,.int .u64 no,.ptr 0 0,.E,.I i] (PV.I (wI ((i:Int)+1))) (PV.list (w.map mtc) .no); exact fun a d j m n=>by refine(?_:_→_→_→Prop) (PV.U (cI a 0)) (PV.I (cI a 1)) (PV.I (cI a 2)); exact fun q r s=>by refine(?_:_→_→Prop) [q,r,s,.I (cI a 3),.I (cI a 4),.int .u64 (cI a 5)] [q,r,s,.I st,.I un,.int .u64 no]; exact fun h l=>by refine(?_:_→_→_→_→Prop) [h] [l] h l; exact fun b f g k=>∀(R:Ex→List PV→ae→Prop),(br (decide ((i:Int)<(↑(List.length (c.aa.map stc)):Int))) (InL (c.aa.map stc) 6 (i:Int)∧br (true && aE [.int .u32,.int .i64,.int .i64,.int .i64,.int .i64,.int .u64] 0 a) (br (cI a 0 == p) (aG [] f 6 48∧(List.all k PV.one=true∧f≠[])∧R .normal [n,.U p,.I st,.I un,.int .u64 no,.ptr 0 0,.list f (.tok 2),m] [d,.cells k,.tok]) (aG [] b 6 48∧(List.all g PV.one=true∧b≠[])∧R .normal [n,.U p,.I st,.I un,.int .u64 no,.ptr 0 0,.list b (.tok 2),m] [d,.cells g,.tok])) False) (R (.exit 0) j [d]))→Holds (wpK [] [] (fun o=>match o.dst with|some 60=>1|_=>0) (ai [1,1,1,1,1,0,1,0] (ag Tryz.f27)) [] (ak [0,1,2,3,4,12,14,15] j) [.cells (mtc c)] (fun ex e H=>R ex (List.map e [0,1,2,3,4,12,14,15]) H)):Prop):=fun R h=>hoE h
theorem Lx (w:List Mt) (p st un no:Int) (c:Mt) (es:List (List PV)) (i:Nat):(by refine(?_:_→_→_→_→_→Prop) (List.getD (c.aa.map stc) (Int.toNat (i:Int)) []) (Ob.cells [.U c.id,.I c.md,.U c.ins,.list (c.rows.map rrc) .no,.list (c.aa.map stc) .no]) [PV.list (w.map mtc) .no,.U p,.I st,.I un,.int .u64 no,.ptr 0 0,.list es (.tok 1),.I i] (PV.I (wI ((i:Int)+1))) (PV.list (w.map mtc) .no); exact fun a d j m n=>by refine(?_:_→_→_→Prop) (PV.U (cI a 0)) (PV.I (cI a 1)) (PV.I (cI a 2)); exact fun q r s=>by refine(?_:_→_→Prop) [q,r,s,.I (cI a 3),.I (cI a 4),.int .u64 (cI a 5)] [q,r,s,.I st,.I un,.int .u64 no]; exact fun h l=>by refine(?_:_→_→_→_→Prop) [h] [l] h l; exact fun b f g k=>∀(R:Ex→List PV→ae→Prop),(br (decide ((i:Int)<(↑(List.length (c.aa.map stc)):Int))) (InL (c.aa.map stc) 6 (i:Int)∧br (true && aE [.int .u32,.int .i64,.int .i64,.int .i64,.int .i64,.int .u64] 0 a) (br (cI a 0 == p) (aG es f 6 48∧(List.all k PV.one=true∧f≠[])∧R .normal [n,.U p,.I st,.I un,.int .u64 no,.ptr 0 0,.list (es++f) (.tok 3),m] [d,.dead,.cells k,.tok]) (aG es b 6 48∧(List.all g PV.one=true∧b≠[])∧R .normal [n,.U p,.I st,.I un,.int .u64 no,.ptr 0 0,.list (es++b) (.tok 3),m] [d,.dead,.cells g,.tok])) False) (R (.exit 0) j [d,.tok]))→Holds (wpK [] [] (fun o=>match o.dst with|some 60=>1|_=>0) (ai [1,1,1,1,1,0,1,0] (ag Tryz.f27)) [] (ak [0,1,2,3,4,12,14,15] j) [.cells (mtc c),.tok] (fun ex e H=>R ex (List.map e [0,1,2,3,4,12,14,15]) H)):Prop):=fun R h=>hoE h
def TRL:Tab:=[(65,.pure Fy),(15,.pure r6),(60,.pure rI)]
theorem L4:TbK TRL:= .cons Cn (.cons sg (.cons s9 (.nil _ _)))
def upS (p st un no:Int) (s:Se):Se:=if s.pl == p then⟨s.pl,s.tm,s.nu,st,un,no⟩ else s
theorem MC (c:Mt):∀(o:Nat) cs,([.cells (mtc c)]:ae)[o]?=some (.cells cs)→∀ x∈cs,Low 1 x:=by
 intro o cs ho
 have k1:=(List.getElem?_eq_some_iff.1 ho).1
 simp at k1
 subst k1
 cases ho
 exact ii c
def MX:LSp:=fun e H Q=>∃(w:List Mt) (p st un no:Int) (c:Mt),c.aa.length≤1000000∧ah (List.map e [0,1,2,3,4,12,14,15]) [.list (w.map mtc) .no,.U p,.I st,.I un,.int .u64 no,.ptr 0 0,.E,.I 0]∧av H [.cells (mtc c)]∧Q (.exit 0) (ak [0,1,2,3,4,12,14,15] [.list (w.map mtc) .no,.U p,.I st,.I un,.int .u64 no,.ptr 0 0,.list ((c.aa.map (upS p st un no)).map stc) .no,.I c.aa.length]) [.cells (mtc c),.dead]
set_option maxRecDepth 10000 in
theorem Gk:∀ e H Q,MX e H Q→AwK Tryz.f27.ntmps (.loop (ai [1,1,1,1,1,0,1,0] (ag Tryz.f27))) Q e H:=by
 rintro e H Q ⟨w,p,st,un,no,c,hl,he,hH,hQ⟩
 have hH2:H=_:=hH
 refine fJ (f:=stc) (acc:=fun i=>((c.aa.take i).map (upS p st un no))) (I:=fun i=>i≤c.aa.length) (m:=fun i=>c.aa.length-i) (hn:=fun o=>match o.dst with|some 60=>1|_=>0) aj (aW.nil _ _) (.nil _ _ _ _ _) [0,1,2,3,4,12,14,15] (fun T i=>[.list (w.map mtc) .no,.U p,.I st,.I un,.int .u64 no,.ptr 0 0,T,.I i]) [.cells (mtc c)] (0:Nat)
  (MC c) (fun _ _ a _=>c8 a) (fun es i j _ h=> .same (bK w) (.same (.int _ _) (.same (.int _ _) (.same (.int _ _) (.same (.int _ _) (.same (.ptr _ _ (by simp)) (.row h (.same (.int _ _) (.nil))))))))) (fun i _ w hw=>by
   simp only[List.mem_cons,List.not_mem_nil,or_false] at hw
   rcases hw with rfl|rfl|rfl|rfl|rfl|rfl|rfl|rfl
   ·exact bK w
   ·exact .int _ _
   ·exact .int _ _
   ·exact .int _ _
   ·exact .int _ _
   ·exact .ptr _ _ (by simp)
   ·exact aH NT.exact (by simp)
   ·exact .int _ _) (Nat.zero_le _) rfl he hH2 ?_ ?_
 ·intro i hi ha
  have hi':i≤c.aa.length:=hi
  have ha:((c.aa.take i).map (upS p st un no))=[]:=ha
  refine J0 w p st un no c i _ ?_
  simp only[au,dt,List.length_map]
  by_cases h:i<c.aa.length
  ·rw[if_pos (by omega)]
   have inl:InL (c.aa.map stc) 6 (i:Int):=by rw[mF]; exact h
   obtain⟨s,hs⟩:∃ s,s=c.aa.getD i default:=⟨_,rfl⟩
   have hsucc:(c.aa.take (i+1)).map (upS p st un no)=(c.aa.take i).map (upS p st un no)++[upS p st un no s]:=by rw[aI default h,List.map_append,hs]; rfl
   have hlen:((c.aa.take i).map (upS p st un no)).length≤1000000:=by rw[List.length_map,List.length_take]; omega
   have hlen2:((c.aa.take i).map (upS p st un no)).length+1≤1000001:=by omega
   rw[ha,List.nil_append] at hsucc
   simp only[an,getD_map default h,← hs]
   refine⟨inl,?_⟩
   rw[if_pos (by rfl)]
   have e0:cI (stc s) 0=s.pl:=rfl
   by_cases cp:s.pl=p
   ·rw[if_pos (by rw[e0,cp]; exact beq_self_eq_true _)]
    have eu:upS p st un no s=(⟨s.pl,s.tm,s.nu,st,un,no⟩:Se):=by unfold upS; rw[if_pos (by simpa using cp)]
    rw[eu] at hsucc
    refine⟨aF (l:=[]) (by_:=48) bP ((⟨s.pl,s.tm,s.nu,st,un,no⟩:Se)) (by show(0+1)*48≤_; decide),one_row ew ((⟨s.pl,s.tm,s.nu,st,un,no⟩:Se)),?_⟩
    exact aV (i+1) (show c.aa.length-(i+1)<c.aa.length-i by omega) h hsucc (by simp) [.cells (stc (⟨s.pl,s.tm,s.nu,st,un,no⟩:Se)),.tok] 2 rfl rfl (by simp) (by(try dsimp only); rw[ar h (by omega)]; rfl)
   ·rw[if_neg (by rw[e0]; simpa using cp)]
    have eu:upS p st un no s=s:=by unfold upS; rw[if_neg (by simpa using cp)]
    rw[eu] at hsucc
    refine⟨aF (l:=[]) (by_:=48) bP (s) (by show(0+1)*48≤_; decide),one_row ew (s),?_⟩
    exact aV (i+1) (show c.aa.length-(i+1)<c.aa.length-i by omega) h hsucc (by simp) [.cells (stc s),.tok] 2 rfl rfl (by simp) (by(try dsimp only); rw[ar h (by omega)]; rfl)
  ·rw[if_neg (by omega)]
   have:i=c.aa.length:=by omega
   subst this
   have e0:=ha
   rw[List.take_length] at e0
   rw[e0] at hQ
   exact bN (.cons (.refl _) (.cons (.refl _) (.cons (.refl _) (.cons (.refl _) (.cons (.refl _) (.cons (.refl _) (.cons (.list _ _) (.cons (.refl _) (.nil))))))))) (dN _) hQ
 ·intro i hi ha
  have hi':i≤c.aa.length:=hi
  have ha:((c.aa.take i).map (upS p st un no))≠[]:=ha
  refine Lx w p st un no c (((c.aa.take i).map (upS p st un no)).map stc) i _ ?_
  simp only[au,dt,List.length_map]
  by_cases h:i<c.aa.length
  ·rw[if_pos (by omega)]
   have inl:InL (c.aa.map stc) 6 (i:Int):=by rw[mF]; exact h
   obtain⟨s,hs⟩:∃ s,s=c.aa.getD i default:=⟨_,rfl⟩
   have hsucc:(c.aa.take (i+1)).map (upS p st un no)=(c.aa.take i).map (upS p st un no)++[upS p st un no s]:=by rw[aI default h,List.map_append,hs]; rfl
   have hlen:((c.aa.take i).map (upS p st un no)).length≤1000000:=by rw[List.length_map,List.length_take]; omega
   have hlen2:((c.aa.take i).map (upS p st un no)).length+1≤1000001:=by omega
   simp only[an,getD_map default h,← hs]
   refine⟨inl,?_⟩
   rw[if_pos (by rfl)]
   have e0:cI (stc s) 0=s.pl:=rfl
   by_cases cp:s.pl=p
   ·rw[if_pos (by rw[e0,cp]; exact beq_self_eq_true _)]
    have eu:upS p st un no s=(⟨s.pl,s.tm,s.nu,st,un,no⟩:Se):=by unfold upS; rw[if_pos (by simpa using cp)]
    rw[eu] at hsucc
    refine⟨aF (l:=((c.aa.take i).map (upS p st un no))) (by_:=48) bP ((⟨s.pl,s.tm,s.nu,st,un,no⟩:Se)) (by omega),one_row ew ((⟨s.pl,s.tm,s.nu,st,un,no⟩:Se)),?_⟩
    exact aV (i+1) (show c.aa.length-(i+1)<c.aa.length-i by omega) h hsucc (by simp) [.dead,.cells (stc (⟨s.pl,s.tm,s.nu,st,un,no⟩:Se)),.tok] 3 rfl rfl (by simp) (by(try dsimp only); rw[ar h (by omega),List.map_append (f:=stc)]; rfl)
   ·rw[if_neg (by rw[e0]; simpa using cp)]
    have eu:upS p st un no s=s:=by unfold upS; rw[if_neg (by simpa using cp)]
    rw[eu] at hsucc
    refine⟨aF (l:=((c.aa.take i).map (upS p st un no))) (by_:=48) bP (s) (by omega),one_row ew (s),?_⟩
    exact aV (i+1) (show c.aa.length-(i+1)<c.aa.length-i by omega) h hsucc (by simp) [.dead,.cells (stc s),.tok] 3 rfl rfl (by simp) (by(try dsimp only); rw[ar h (by omega),List.map_append (f:=stc)]; rfl)
  ·rw[if_neg (by omega)]
   have:i=c.aa.length:=by omega
   subst this
   rw[List.take_length]
   exact bN (.cons (.refl _) (.cons (.refl _) (.cons (.refl _) (.cons (.refl _) (.cons (.refl _) (.cons (.refl _) (.cons (.list _ _) (.cons (.refl _) (.nil))))))))) (ej [.cells (mtc c)] .tok) hQ
theorem Iq (w:List Mt) (p st un no:Int):(by refine(?_:_→Prop) (PV.list (w.map mtc) .no); exact fun b=>∀(K:PV→Prop),by refine(?_:_→Prop) (K (.tup [b,.I 2])); exact fun a=>(∃(w_1:List Mt) (tl:Tail) (t:Int),ah [b,.U p] [.list (w_1.map mtc) tl,.U t]∧SmM w_1∧∃(w_2:List Mt) (tl:Tail) (t_1:Int),ah [b,.U (ofM w_1 t)] [.list (w_2.map mtc) tl,.U t_1]∧w_2.length≤1000000∧br (!bC Mt.id w_2 t_1) (K (.tup [b,.I 12])) (br (decide (st<1) == false) (br (decide (st>3)) a (∃(w_3:List Mt) (p_1:Int) (st_1:Int) (un_1:Int) (no_1:Int) (c:Mt),c.aa.length≤1000000∧ah [b,.U p,.I st,.I un,.int .u64 no,.ptr 0 0,.E,.I 0] [.list (w_3.map mtc) .no,.U p_1,.I st_1,.I un_1,.int .u64 no_1,.ptr 0 0,.E,.I 0]∧av [.cells [.U (Mt.id (gM w_2 t_1)),.I (Mt.md (gM w_2 t_1)),.U (Mt.ins (gM w_2 t_1)),.list (List.map rrc (Mt.rows (gM w_2 t_1))) .no,.list (List.map stc (Mt.aa (gM w_2 t_1))) .no]] [.cells [.U c.id,.I c.md,.U c.ins,.list (c.rows.map rrc) .no,.list (c.aa.map stc) .no]]∧∃(w:List Mt) (tl:Tail) (t1:Tail) (t2:Tail) (c_1:Mt),ah [.list (w_3.map mtc) .no,.agg [.U c.id,.I c.md,.U c.ins,.list (c.rows.map rrc) .no,.list (List.map stc (List.map (upS p_1 st_1 un_1 no_1) c.aa)) .no]] [.list (w.map mtc) tl,.agg [.U c_1.id,.I c_1.md,.U c_1.ins,.list (c_1.rows.map rrc) t1,.list (c_1.aa.map stc) t2]]∧dD Mt.id w∧w.length≤100000∧K (.tup [.list (List.map mtc (fj Mt.id w c_1)) .no,.I 0]))) a))→AcK 27 [b,.U p,.I st,.I un,.int .u64 no] [] (fun x _=>K x):Prop):=fun K h=>acW (T:=TRL) (L:=[([1,1,1,1,1,0,1,0],MX)]) (fun _=>0) Tryz.func27 (L4) (.cons suE Gk (.nil _ _ _ _ _)) h
theorem DR {p st un no:Int}:∀(l:List Se),(l.map Se.pl).Nodup→l.map (upS p st un no)=l.set (l.findIdx (isP p)) (kg (l.getD (l.findIdx (isP p)) default) st un no)
 | [],_=>rfl
 | a::l,h=>by
  rw[List.map_cons,List.nodup_cons] at h
  rw[List.map_cons,List.findIdx_cons]
  by_cases c:isP p a=true
  ·have e:a.pl=p:=eq_of_beq c
   have e2:l.map (upS p st un no)=l:=by
    conv=>rhs; rw[← List.map_id l]
    refine List.map_congr_left fun x hx=>?_
    have:x.pl≠p:=fun k=>h.1 (by rw[e,← k]; exact List.mem_map_of_mem hx)
    unfold upS; rw[if_neg (by simpa using this)]; rfl
   have e3:upS p st un no a=kg a st un no:=by unfold upS; rw[if_pos (by rw[e]; exact beq_self_eq_true _)]; rfl
   rw[c,e2,e3]; rfl
  ·have e:a.pl≠p:=fun k=>c (by unfold isP; rw[k]; exact beq_self_eq_true _)
   have e3:upS p st un no a=a:=by unfold upS; rw[if_neg (by simpa using e)]
   rw[show isP p a=false by simpa using c,e3,DR l h.2]; rfl
def E1 (args:List PV) (K:PV→Prop):Prop:=∃(w:List Mt) (m p st un no:Int) (t0:Tail),ah args [.list (w.map mtc) t0,.U p,.I st,.I un,.int .u64 no]∧MO w m∧m≤100000∧
 K (.tup [.list ((ec w p st un no).1.map mtc) .no,.I (ec w p st un no).2])
theorem F9:SpK 27 (.pure E1):=by
 rintro args K ⟨w,m,p,st,un,no,t0,he,ro,hm,hk⟩
 have he:args=_:=he
 subst he
 have hsm:=ro.smM hm
 refine bB aj (.cons (.list _ _) (.cons (.refl _) (.cons (.refl _) (.cons (.refl _) (.cons (.refl _) .nil))))) (gQ (bK w) (.int _ _) (.int _ _) (.int _ _) (.int _ _)) Co (Iq w p st un no (fun x=>x=_) ⟨w,.no,p,rfl,hsm,w,.no,ofM w p,rfl,ro.len,?_⟩) hk
 obtain⟨z,hz⟩:∃ z,z=ec w p st un no:=⟨_,rfl⟩
 rw[← hz]
 unfold ec at hz
 simp only[au]
 by_cases c0:bC Mt.id w (ofM w p)=true
 ·rw[if_neg (show ¬ bC Mt.id w (ofM w p)=false by rw[c0]; decide)] at hz
  rw[if_neg (show ¬ (!bC Mt.id w (ofM w p))=true by rw[c0]; decide)]
  by_cases c1:st<1
  ·rw[if_pos (.inl c1)] at hz
   rw[if_neg (show ¬ (decide (st<1) == false)=true by rw[decide_eq_true c1]; decide),hz]
  ·rw[if_pos (show(decide (st<1) == false)=true by rw[decide_eq_false c1]; rfl)]
   by_cases c2:st>3
   ·rw[if_pos (.inr c2)] at hz
    rw[if_pos (decide_eq_true c2),hz]
   ·rw[if_neg (fun e=>by rcases e with e|e; exact c1 e; exact c2 e)] at hz
    rw[if_neg (show ¬ decide (st>3)=true by rw[decide_eq_false c2]; decide)]
    have hok:=ro.HD c0
    refine⟨w,p,st,un,no,gM w (ofM w p),hok.sm.aa,rfl,rfl,w,.no,.no,.no,iH (gM w (ofM w p)) p st un no,?_,ro.rise,hsm.len,by rw[hz]⟩
    rw[DR _ hok.nd]; rfl
 ·rw[if_pos (show bC Mt.id w (ofM w p)=false by simpa using c0)] at hz
  rw[if_pos (show(!bC Mt.id w (ofM w p))=true by simpa using c0),hz]
namespace Elo
def within (n:Int):Int:=mnI (mxI n 0) 10000
def ey (n:Int):Int:=if n<0 then 0 else if n>10000 then 10000 else n
def qc (args:List PV) (K:PV→Prop):Prop:=match args with
 | [.int .i64 n]=>K (.int .i64 (within n))
 | _=>False
theorem yZ (n:Int)  (K:PV→Prop) (h:K (.I (mnI (mxI n 0) 10000))):AcK 102 [.I n] [] (fun x _=>K x):=
 acW (T:=[]) (L:=[]) (fun _=>0) Tryz.func102 (aW.nil _ _) (LOk.nil _ _ _ _ _) h
theorem zy:SpK 102 (.pure qc):=by
 intro args K h
 unfold qc at h
 split at h
 ·rename_i n
  refine ck aj (by simp[cf]) (.int _ _) (yZ n _ ?_) h
  rfl
 ·exact h.elim
def oK (args:List PV) (K:PV→Prop):Prop:=match args with
 | [.int .i64 n]=>K (.int .i64 (ey n))
 | _=>False
theorem zf (n:Int)  (K:PV→Prop) (h:br (decide (n<0)) (K (.I 0)) (br (decide (n>10000)) (K (.I 10000)) (K (.I n)))):AcK 80 [.I n] [] (fun x _=>K x):=
 acW (T:=[]) (L:=[]) (fun _=>0) Tryz.func80 (aW.nil _ _) (LOk.nil _ _ _ _ _) h
theorem yN:SpK 80 (.pure oK):=by
 intro args K h
 unfold oK at h
 split at h
 ·rename_i n
  refine ck aj (by simp[cf]) (.int _ _) (zf n _ ?_) h
  simp only[au,decide_eq_true_eq,ey]
  (repeat' split)<;>rfl
 ·exact h.elim
def T1:Tab:=[(102,.pure qc),(80,.pure oK)]
theorem oU:TbK T1:= .cons zy (.cons yN (.nil _ _))
def ex0 (d:Int):Int:=gf.getD (mnI (d / 50) 16).toNat 0
def ez (a b:Int):Int:=if within a<within b then 1000-ex0 (within b-within a) else ex0 (within a-within b)
theorem cr (n:Int):0≤within n∧within n≤10000:=by unfold within mnI mxI; (repeat' split)<;>omega
theorem jG (n:Int):ey n=within n:=by unfold ey within mnI mxI; (repeat' split)<;>omega
theorem gF (n:Int):within (within n)=within n:=by
 have h:=cr n
 generalize within n=m at *
 unfold within mnI mxI; (repeat' split)<;>omega
theorem wG:∀(k:Nat),k<17→500≤gf.getD k 0∧gf.getD k 0≤990:=by decide
theorem jZ {d:Int} (h:0≤d):500≤ex0 d∧ex0 d≤990:=by
 unfold ex0
 have h2:0≤mnI (d / 50) 16∧mnI (d / 50) 16≤16:=by unfold mnI; split<;>omega
 exact wG _ (by omega)
theorem kw (a b:Int):10≤ez a b∧ez a b≤990:=by
 unfold ez
 split
 ·have:=jZ (d:=within b-within a) (by omega); omega
 ·have:=jZ (d:=within a-within b) (by omega); omega
theorem JJ {d:Int} (h0:0≤d) (h1:d≤10000):wI (Int.tdiv (wI d) 50)=d / 50:=by
 have e:wI d=d:=wrap_i64 (by omega) (by omega)
 rw[e,Int.tdiv_eq_ediv_of_nonneg h0]
 exact wrap_i64 (by omega) (by omega)
def vD (args:List PV) (K:PV→Prop):Prop:=match args with
 | [.int .i64 a,.int .i64 b]=>¬ within a<within b∧K (.int .i64 (ez a b))
 | _=>False
theorem HQ (a b:Int):(by refine(?_:_→Prop) (wI (Int.tdiv (wI (within a-within b)) 50)); exact fun c=>by refine(?_:_→Prop) (List.drop (Int.toNat (mnI c 16)*1) (List.map (PV.int .i64) gf)); exact fun d=>∀(K:PV→Prop),(br (decide (within a<within b)) False (br (decide (0≤mnI c 16) && decide (mnI c 16<17)) (br (true && aE [.int .i64] 0 d) (K (.I (cI d 0))) False) False))→AcK 103 [.I a,.I b] [] (fun x _=>K x):Prop):=fun K h=>acW (T:=T1) (L:=[]) (fun _=>0) Tryz.func103 (oU) (LOk.nil _ _ _ _ _) h
theorem HU:SpK 103 (.pure vD):=by
 intro args K h
 unfold vD at h
 split at h
 ·rename_i a b
  obtain⟨hp,h⟩:=h
  refine ck aj (by simp[cf]) (.int _ _) (HQ a b _ ?_) h
  have h1:=cr a
  have h2:=cr b
  have h3:0≤mnI ((within a-within b) / 50) 16∧mnI ((within a-within b) / 50) 16≤16:=by unfold mnI; split<;>omega
  simp only[au,decide_eq_true_eq,hp,if_false,JJ (d:=within a-within b) (by omega) (by omega),Nat.mul_one,rR]
  rw[oX _ _ _ (by simp[gf]; omega),if_pos (by simp; omega)]
  simp only[Bool.and_self,if_true,ez,hp,if_false,ex0]
 ·exact h.elim
def T1b:Tab:=(103,.pure vD)::T1
theorem KT:TbK T1b:= .cons HU oU
def qF (args:List PV) (K:PV→Prop):Prop:=match args with
 | [.int .i64 a,.int .i64 b]=>K (.int .i64 (ez a b))
 | _=>False
theorem G0 (a b:Int):(by refine(?_:_→Prop) (wI (Int.tdiv (wI (within a-within b)) 50)); exact fun c=>by refine(?_:_→Prop) (List.drop (Int.toNat (mnI c 16)*1) (List.map (PV.int .i64) gf)); exact fun d=>∀(K:PV→Prop),(br (decide (within a<within b)) (¬within (within b)<within (within a)∧K (.I (wI (1000-ez (within b) (within a))))) (br (decide (0≤mnI c 16) && decide (mnI c 16<17)) (br (true && aE [.int .i64] 0 d) (K (.I (cI d 0))) False) False))→AcK 103 [.I a,.I b] [] (fun x _=>K x):Prop):=fun K h=>acW (T:=T1b) (L:=[]) (fun _=>0) Tryz.func103 (KT) (LOk.nil _ _ _ _ _) h
theorem Gj (a b:Int):(by refine(?_:_→_→Prop) (decide (ey a<ey b)) (ey a-ey b); exact fun h i=>by refine(?_:_→_→Prop) (Int.tdiv (wI (0-wI i)) 50) (Int.tdiv (wI i) 50); exact fun d g=>by refine(?_:_→_→Prop) (List.getD (en1 .i64 gf) (Int.toNat (wI g)) []) (List.getD (en1 .i64 gf) (Int.toNat (wI d)) []); exact fun e f=>by refine(?_:_→_→Prop) (true && aE [.int .i64] 0 f) (true && aE [.int .i64] 0 e); exact fun j k=>∀(K:PV→Prop),by refine(?_:_→Prop) (br h (InL (en1 .i64 gf) 1 16∧K (.I (wI (1000-990)))) (InL (en1 .i64 gf) 1 16∧K (.I 990))); exact fun c=>(br (decide (wI i<0)) (br (decide (wI d>16)) c (br h (InL (en1 .i64 gf) 1 (wI d)∧br j (K (.I (wI (1000-cI f 0)))) False) (InL (en1 .i64 gf) 1 (wI d)∧br j (K (.I (cI f 0))) False))) (br (decide (wI g>16)) c (br h (InL (en1 .i64 gf) 1 (wI g)∧br k (K (.I (wI (1000-cI e 0)))) False) (InL (en1 .i64 gf) 1 (wI g)∧br k (K (.I (cI e 0))) False))))→AcK 105 [.I a,.I b] [] (fun x _=>K x):Prop):=fun K h=>acW (T:=T1) (L:=[]) (fun _=>0) Tryz.func105 (oU) (LOk.nil _ _ _ _ _) h
theorem LJ:SpK 103 (.pure qF):=by
 intro args K h
 unfold qF at h
 split at h
 ·rename_i a b
  refine ck aj (by simp[cf]) (.int _ _) (G0 a b _ ?_) h
  have h1:=cr a
  have h2:=cr b
  simp only[au,decide_eq_true_eq,gF]
  by_cases hp:within a<within b
  ·simp only[hp,if_true]
   have h4:=jZ (d:=within b-within a) (by omega)
   have e2:ez (within b) (within a)=ex0 (within b-within a):=by unfold ez; rw[gF,gF,if_neg (by omega)]
   have e1:ez a b=1000-ex0 (within b-within a):=by unfold ez; rw[if_pos hp]
   rw[e2,e1]
   exact⟨by omega,congrArg (PV.int _) (wrap_i64 (by omega) (by omega))⟩
  ·have h3:0≤mnI ((within a-within b) / 50) 16∧mnI ((within a-within b) / 50) 16≤16:=by unfold mnI; split<;>omega
   simp only[hp,if_false,JJ (d:=within a-within b) (by omega) (by omega),Nat.mul_one,rR]
   rw[oX _ _ _ (by simp[gf]; omega),if_pos (by simp; omega)]
   simp only[Bool.and_self,if_true,ez,hp,if_false,ex0]
 ·exact h.elim
theorem F5:SpK 105 (.pure qF):=by
 intro args K h
 unfold qF at h
 split at h
 ·rename_i a b
  refine ck aj (by simp[cf]) (.int _ _) (Gj a b _ ?_) h
  have h1:=cr a
  have h2:=cr b
  simp only[au,decide_eq_true_eq,jG]
  have e0:∀ d:Int,-10000≤d→d≤10000→wI d=d:=fun d h h'=>wrap_i64 (by omega) (by omega)
  have e9:wI (1000-990)=10:=rfl
  by_cases hp:within a<within b
  ·have e1:wI (within a-within b)=within a-within b:=e0 _ (by omega) (by omega)
   have e2:wI (0-(within a-within b))=within b-within a:=by rw[e0 _ (by omega) (by omega)]; omega
   have e4:wI (Int.tdiv (within b-within a) 50)=(within b-within a) / 50:=by
    rw[Int.tdiv_eq_ediv_of_nonneg (by omega)]; exact e0 _ (by omega) (by omega)
   have hx:=jZ (d:=within b-within a) (by omega)
   have e5:ez a b=1000-ex0 (within b-within a):=by unfold ez; rw[if_pos hp]
   simp only[e1,e2,e4,hp,if_true,show within a-within b<0 by omega,e5,fE,e9]
   by_cases hk:(within b-within a) / 50>16
   ·have e6:mnI ((within b-within a) / 50) 16=16:=by unfold mnI; rw[if_pos (by omega)]
    simp only[hk,if_true,ex0,e6]
    exact⟨dI _ _ _ (by omega) (by simp[gf]),rfl⟩
   ·have e6:mnI ((within b-within a) / 50) 16=(within b-within a) / 50:=by unfold mnI; rw[if_neg (by omega)]
    simp only[hk,if_false]
    have e7:ex0 (within b-within a)=gf.getD ((within b-within a) / 50).toNat 0:=by unfold ex0; rw[e6]
    rw[dQ _ _ _ (by simp[gf]; omega),← e7]
    exact⟨dI _ _ _ (by omega) (by simp[gf]; omega),by simp only[Bool.and_self,if_true]; rw[e0 _ (by omega) (by omega)]⟩
  ·have e1:wI (within a-within b)=within a-within b:=e0 _ (by omega) (by omega)
   have e4:wI (Int.tdiv (within a-within b) 50)=(within a-within b) / 50:=by
    rw[Int.tdiv_eq_ediv_of_nonneg (by omega)]; exact e0 _ (by omega) (by omega)
   have e5:ez a b=ex0 (within a-within b):=by unfold ez; rw[if_neg hp]
   simp only[e1,e4,hp,if_false,show ¬ within a-within b<0 by omega,e5,fE]
   by_cases hk:(within a-within b) / 50>16
   ·have e6:mnI ((within a-within b) / 50) 16=16:=by unfold mnI; rw[if_pos (by omega)]
    simp only[hk,if_true,ex0,e6]
    exact⟨dI _ _ _ (by omega) (by simp[gf]),rfl⟩
   ·have e6:mnI ((within a-within b) / 50) 16=(within a-within b) / 50:=by unfold mnI; rw[if_neg (by omega)]
    simp only[hk,if_false]
    have e7:ex0 (within a-within b)=gf.getD ((within a-within b) / 50).toNat 0:=by unfold ex0; rw[e6]
    rw[dQ _ _ _ (by simp[gf]; omega),← e7]
    exact⟨dI _ _ _ (by omega) (by simp[gf]; omega),by simp only[Bool.and_self,if_true]⟩
 ·exact h.elim
def T2:Tab:=(103,.pure qF)::(105,.pure qF)::T1
theorem CA:TbK T2:= .cons LJ (.cons F5 oU)
def gj (n:Int):Int:=if n<0 then -((-n) / 1000) else n / 1000
theorem uY (n:Int):n.tdiv 1000=gj n:=by
 unfold gj
 split
 ·have h:n = -(-n):=by omega
  rw[h,Int.neg_tdiv,Int.tdiv_eq_ediv_of_nonneg (by omega)]; congr 2; omega
 ·rw[Int.tdiv_eq_ediv_of_nonneg (by omega)]
def sc (r:Int):Int:=if r=0 then 500 else if r=1 then 1000 else 0
def clm (m:Int):Int:=mnI (mxI m 0) 4
def stk (a b m r:Int):Int:=if r<0∨r>2 then 0 else gj (32*clm m*(sc r-ez a b))
theorem qN (m:Int):clm m=0∨clm m=1∨clm m=2∨clm m=3∨clm m=4:=by unfold clm mnI mxI; (repeat' split)<;>omega
theorem tb (m r x:Int) (hx:10≤x∧x≤990):wI (32*clm m)=32*clm m∧wI (sc r-x)=sc r-x∧wI (32*clm m*(sc r-x))=32*clm m*(sc r-x)∧ -128000≤32*clm m*(sc r-x)∧32*clm m*(sc r-x)≤128000:=by
 have hs:0≤sc r∧sc r≤1000:=by unfold sc; (repeat' split)<;>omega
 have hb: -128000≤32*clm m*(sc r-x)∧32*clm m*(sc r-x)≤128000:=by
  rcases qN m with h|h|h|h|h<;>rw[h]<;>omega
 refine⟨aD ?_ ?_,aD ?_ ?_,aD ?_ ?_,hb.1,hb.2⟩<;>rcases qN m with h|h|h|h|h<;>omega
theorem gk {n:Int} (h0: -128000≤n) (h1:n≤128000): -128≤gj n∧gj n≤128:=by unfold gj; split<;>omega
theorem ri (a b m r:Int): -128≤stk a b m r∧stk a b m r≤128:=by
 unfold stk
 split
 ·omega
 ·obtain⟨_,_,_,h1,h2⟩:=tb m r (ez a b) (kw a b)
  exact gk h1 h2
def qV (args:List PV) (K:PV→Prop):Prop:=match args with
 | [.int .i64 a,.int .i64 b,.int .i64 m,.int .i64 r]=>K (.int .i64 (stk a b m r))
 | _=>False
theorem Dj (a b m r:Int)  (K:PV→Prop) (h:br (decide (r<0) == false) (br (decide (r>2)) (K (.I 0)) (br (decide (0≤r) && decide (r<3)) (br (true && aE [.int .i64] 0 (List.drop (Int.toNat r*1) (List.map (PV.int .i64) scs))) (K (.I (wI (Int.tdiv (wI (wI (32*mnI (mxI m 0) 4)*wI (cI (List.drop (Int.toNat r*1) (List.map (PV.int .i64) scs)) 0-ez a b))) 1000)))) False) False)) (K (.I 0))):AcK 75 [.I a,.I b,.I m,.I r] [] (fun x _=>K x):=
 acW (T:=T2) (L:=[]) (fun _=>0) Tryz.func75 (CA) (LOk.nil _ _ _ _ _) h
theorem As (a b m r:Int):(by refine(?_:_→_→_→_→_→_→_→_→_→Prop) (wI (32*m)*wI (1000-ez a b)) (wI (32*m)*wI (500-ez a b)) (wI (32*m)*wI (0-ez a b)) (128*wI (1000-ez a b)) (128*wI (500-ez a b)) (0*wI (1000-ez a b)) (0*wI (500-ez a b)) (128*wI (0-ez a b)) (0*wI (0-ez a b)); exact fun c d e f g h i j k=>∀(K:PV→Prop),(br (decide (m<0)) (br (r == 0) (br (decide (wI i<0)) (K (.I (wI (0-wI (Int.tdiv (wI (0-wI i)) 1000))))) (K (.I (wI (Int.tdiv (wI i) 1000))))) (br (r == 1) (br (decide (wI h<0)) (K (.I (wI (0-wI (Int.tdiv (wI (0-wI h)) 1000))))) (K (.I (wI (Int.tdiv (wI h) 1000))))) (br (r == 2) (br (decide (wI k<0)) (K (.I (wI (0-wI (Int.tdiv (wI (0-wI k)) 1000))))) (K (.I (wI (Int.tdiv (wI k) 1000))))) (K (.I 0))))) (br (decide (m>4)) (br (r == 0) (br (decide (wI g<0)) (K (.I (wI (0-wI (Int.tdiv (wI (0-wI g)) 1000))))) (K (.I (wI (Int.tdiv (wI g) 1000))))) (br (r == 1) (br (decide (wI f<0)) (K (.I (wI (0-wI (Int.tdiv (wI (0-wI f)) 1000))))) (K (.I (wI (Int.tdiv (wI f) 1000))))) (br (r == 2) (br (decide (wI j<0)) (K (.I (wI (0-wI (Int.tdiv (wI (0-wI j)) 1000))))) (K (.I (wI (Int.tdiv (wI j) 1000))))) (K (.I 0))))) (br (r == 0) (br (decide (wI d<0)) (K (.I (wI (0-wI (Int.tdiv (wI (0-wI d)) 1000))))) (K (.I (wI (Int.tdiv (wI d) 1000))))) (br (r == 1) (br (decide (wI c<0)) (K (.I (wI (0-wI (Int.tdiv (wI (0-wI c)) 1000))))) (K (.I (wI (Int.tdiv (wI c) 1000))))) (br (r == 2) (br (decide (wI e<0)) (K (.I (wI (0-wI (Int.tdiv (wI (0-wI e)) 1000))))) (K (.I (wI (Int.tdiv (wI e) 1000))))) (K (.I 0)))))))→AcK 78 [.I a,.I b,.I m,.I r] [] (fun x _=>K x):Prop):=fun K h=>acW (T:=T2) (L:=[]) (fun _=>0) Tryz.func78 (CA) (LOk.nil _ _ _ _ _) h
theorem L0 {r:Int} (h0:0≤r) (h2:r≤2):scs.getD (Int.toNat r) 0=sc r:=by
 have:r=0∨r=1∨r=2:=by omega
 rcases this with rfl|rfl|rfl<;>rfl
theorem AS:SpK 75 (.pure qV):=by
 intro args K h
 unfold qV at h
 split at h
 ·rename_i a b m r
  refine ck aj (by simp[cf]) (.int _ _) (Dj a b m r _ ?_) h
  obtain⟨e1,e2,e3,h1,h2⟩:=tb m r (ez a b) (kw a b)
  have hq:=gk h1 h2
  simp only[au,decide_eq_true_eq,Nat.mul_one,rR]
  by_cases c1:r<0
  ·simp[c1,stk]
  ·by_cases c2:r>2
   ·simp[c1,c2,stk]
   ·rw[oX _ _ _ (by simp[scs]; omega),L0 (by omega) (by omega)]
    have e4:mnI (mxI m 0) 4=clm m:=rfl
    rw[e4,e1,e2,e3,uY,aD (by omega) (by omega)]
    have e5:stk a b m r=gj (32*clm m*(sc r-ez a b)):=by unfold stk; rw[if_neg (by omega)]
    simp[c1,c2,e5]; omega
 ·exact h.elim
theorem Jp {n:Int} (h0: -128000≤n) (h1:n≤128000):(n<0→wI (0-wI (Int.tdiv (wI (0-n)) 1000))=gj n)∧(¬ n<0→wI (Int.tdiv n 1000)=gj n):=by
 have hq:=gk h0 h1
 constructor
 ·intro h
  rw[aD (n:=0-n) (by omega) (by omega),uY]
  have e:gj n = - gj (0-n):=by unfold gj; rw[if_pos h,if_neg (by omega)]; congr 2; omega
  have hq2:=gk (n:=0-n) (by omega) (by omega)
  rw[aD (n:=gj (0-n)) (by omega) (by omega),aD (by omega) (by omega)]; omega
 ·intro h; rw[uY]; exact aD (by omega) (by omega)
theorem n7 {mm x s:Int} (hx:10≤x∧x≤990) (hs:0≤s∧s≤1000) (hm:0≤mm∧mm≤4):wI (32*mm)=32*mm∧wI (s-x)=s-x∧wI (32*mm*(s-x))=32*mm*(s-x)∧ -128000≤32*mm*(s-x)∧32*mm*(s-x)≤128000:=by
 have h:mm=0∨mm=1∨mm=2∨mm=3∨mm=4:=by omega
 have hb: -128000≤32*mm*(s-x)∧32*mm*(s-x)≤128000:=by
  rcases h with h|h|h|h|h<;>rw[h]<;>omega
 exact⟨aD (by omega) (by omega),aD (by omega) (by omega),aD (by omega) (by omega),hb.1,hb.2⟩
theorem zu:SpK 78 (.pure qV):=by
 intro args K h
 unfold qV at h
 split at h
 ·rename_i a b m r
  refine ck aj (by simp[cf]) (.int _ _) (As a b m r _ ?_) h
  have hx:=kw a b
  generalize hxx:ez a b=x at *
  have key:∀(mm s:Int),0≤mm∧mm≤4→0≤s∧s≤1000→mm=clm m→s=sc r→0≤r∧r≤2→∀ n,n=32*mm*(s-x)→
    (if n<0 then PV.int IntKind.i64 (wI (0-wI (Int.tdiv (wI (0-n)) 1000)))=PV.int IntKind.i64 (stk a b m r) else PV.int IntKind.i64 (wI (Int.tdiv n 1000))=PV.int IntKind.i64 (stk a b m r)):=by
   rintro mm s hm hs hmm hss hr n rfl
   obtain⟨_,_,_,g1,g2⟩:=n7 hx hs hm
   have e5:stk a b m r=gj (32*mm*(s-x)):=by unfold stk; rw[if_neg (by omega),hxx,hmm,hss]
   rw[e5]
   split
   ·rename_i hn; rw[(Jp g1 g2).1 hn]
   ·rename_i hn; rw[(Jp g1 g2).2 hn]
  have w0:∀ s:Int,0≤s∧s≤1000→wI (s-x)=s-x:=fun s hs=>aD (by omega) (by omega)
  have w1:∀ s:Int,wI (0*s)=0:=fun s=>by rw[Int.zero_mul]; rfl
  have w2:∀ s:Int,0≤s∧s≤1000→wI (128*(s-x))=32*4*(s-x):=fun s hs=>by rw[aD (by omega) (by omega)]; omega
  have w5:wI (0-x)=0-x:=w0 0 (by omega)
  simp only[au,decide_eq_true_eq,beq_iff_eq,w1,w0 500 (by omega),w0 1000 (by omega),w5,w2 500 (by omega),w2 1000 (by omega),w2 0 (by omega)]
  by_cases c0:m<0
  ·have hc:clm m=0:=by unfold clm mnI mxI; (repeat' split)<;>omega
   simp only[c0,if_true]
   by_cases r0:r=0
   ·subst r0; simp only[if_true]; exact key 0 500 (by omega) (by omega) hc.symm rfl (by omega) 0 (by omega)
   ·by_cases r1:r=1
    ·subst r1; simp only[if_true,show ¬ (1:Int)=0 by decide,if_false]; exact key 0 1000 (by omega) (by omega) hc.symm rfl (by omega) 0 (by omega)
    ·by_cases r2:r=2
     ·subst r2; simp only[if_true,show ¬ (2:Int)=0 by decide,show ¬ (2:Int)=1 by decide,if_false]; exact key 0 0 (by omega) (by omega) hc.symm rfl (by omega) 0 (by omega)
     ·simp only[r0,r1,r2,if_false]; unfold stk; rw[if_pos (by omega)]
  ·by_cases c4:m>4
   ·have hc:clm m=4:=by unfold clm mnI mxI; (repeat' split)<;>omega
    simp only[c0,c4,if_true,if_false]
    by_cases r0:r=0
    ·subst r0; simp only[if_true]; exact key 4 500 (by omega) (by omega) hc.symm rfl (by omega) _ rfl
    ·by_cases r1:r=1
     ·subst r1; simp only[if_true,show ¬ (1:Int)=0 by decide,if_false]; exact key 4 1000 (by omega) (by omega) hc.symm rfl (by omega) _ rfl
     ·by_cases r2:r=2
      ·subst r2; simp only[if_true,show ¬ (2:Int)=0 by decide,show ¬ (2:Int)=1 by decide,if_false]; exact key 4 0 (by omega) (by omega) hc.symm rfl (by omega) _ rfl
      ·simp only[r0,r1,r2,if_false]; unfold stk; rw[if_pos (by omega)]
   ·have hc:clm m=m:=by unfold clm mnI mxI; (repeat' split)<;>omega
    have w3:wI (32*m)=32*m:=aD (by omega) (by omega)
    simp only[c0,c4,if_false,w3]
    by_cases r0:r=0
    ·subst r0; simp only[if_true]
     rw[(n7 hx (by omega:0≤(500:Int)∧(500:Int)≤1000) (by omega:0≤m∧m≤4)).2.2.1]
     exact key m 500 (by omega) (by omega) hc.symm rfl (by omega) _ rfl
    ·by_cases r1:r=1
     ·subst r1; simp only[if_true,show ¬ (1:Int)=0 by decide,if_false]
      rw[(n7 hx (by omega:0≤(1000:Int)∧(1000:Int)≤1000) (by omega:0≤m∧m≤4)).2.2.1]
      exact key m 1000 (by omega) (by omega) hc.symm rfl (by omega) _ rfl
     ·by_cases r2:r=2
      ·subst r2; simp only[if_true,show ¬ (2:Int)=0 by decide,show ¬ (2:Int)=1 by decide,if_false]
       rw[(n7 hx (by omega:0≤(0:Int)∧(0:Int)≤1000) (by omega:0≤m∧m≤4)).2.2.1]
       exact key m 0 (by omega) (by omega) hc.symm rfl (by omega) _ rfl
      ·simp only[r0,r1,r2,if_false]; unfold stk; rw[if_pos (by omega)]
 ·exact h.elim
def shp (p m k:Int):Int:=if k<p-p / m*m then p / m+1 else p / m
def shr (p m k:Int):Int:=if k<0∨k≥m then 0 else if p<0 then -(shp (-p) m k) else shp p m k
def P41 (p:Int):Prop:= -2199023255552≤p∧p≤2199023255552
theorem gW {p m:Int} (hp:0≤p) (hm:1≤m):0≤p / m∧p / m≤p∧0≤p / m*m∧p / m*m≤p∧p.tdiv m=p / m∧p.tmod m=p-p / m*m:=by
 have h1:0≤p / m:=Int.ediv_nonneg hp (by omega)
 have h2:p / m*m≤p:=Int.ediv_mul_le p (by omega)
 refine⟨h1,Int.ediv_le_self m hp,Int.mul_nonneg h1 (by omega),h2,Int.tdiv_eq_ediv_of_nonneg hp,?_⟩
 rw[Int.tmod_eq_emod_of_nonneg hp,Int.emod_def,Int.mul_comm m]
theorem IB {p m:Int} (hp:p<0) (hm:1≤m):p.tdiv m = -((-p) / m)∧p.tmod m = -((-p)-(-p) / m*m):=by
 obtain⟨_,_,_,_,h5,h6⟩:=gW (p:= -p) (m:=m) (by omega) hm
 rw[Int.neg_tdiv] at h5
 rw[Int.neg_tmod] at h6
 constructor<;>omega
theorem mA {p m k:Int} (hp:0≤p) (hm:1≤m):0≤shp p m k∧shp p m k≤p+1:=by
 obtain⟨h1,h2,_,_,_,_⟩:=gW hp hm
 unfold shp; split<;>omega
theorem mJ {p m k:Int} (hp:P41 p): -2199023255553≤shr p m k∧shr p m k≤2199023255553:=by
 unfold P41 at hp
 unfold shr
 split
 ·omega
 ·split
  ·have:=mA (p:= -p) (m:=m) (k:=k) (by omega) (by omega); omega
  ·have:=mA (p:=p) (m:=m) (k:=k) (by omega) (by omega); omega
def qC (args:List PV) (K:PV→Prop):Prop:=match args with
 | [.int .i64 p,.int .i64 m,.int .i64 k]=>P41 p∧K (.int .i64 (shr p m k))
 | _=>False
def vJ (args:List PV) (K:PV→Prop):Prop:=match args with
 | [.int .i64 p,.int .i64 m,.int .i64 k]=>(P41 p∧0≤p)∧K (.int .i64 (shr p m k))
 | _=>False
theorem DP (p m k:Int)  (K:PV→Prop) (h:br (decide (k<0) == false) (br (decide (k≥m)) (K (.I 0)) (br (m != 0) (br (m != 0) (br (decide (Int.tmod p m>k)) (K (.I (wI (wI (Int.tdiv p m)+1)))) (br (decide (wI (0-Int.tmod p m)>k)) (K (.I (wI (wI (Int.tdiv p m)-1)))) (K (.I (wI (Int.tdiv p m)))))) False) False)) (K (.I 0))):AcK 104 [.I p,.I m,.I k] [] (fun x _=>K x):=
 acW (T:=T1) (L:=[]) (fun _=>0) Tryz.func104 (oU) (LOk.nil _ _ _ _ _) h
theorem wP (p m k:Int)  (K:PV→Prop) (h:br (decide (k<0) == false) (br (decide (k≥m)) (K (.I 0)) (br (decide (p<0)) False (br (m != 0) (br (decide (k<wI (p-wI (wI (Int.tdiv p m)*m)))) (K (.I (wI (wI (Int.tdiv p m)+1)))) (K (.I (wI (Int.tdiv p m))))) False))) (K (.I 0))):AcK 81 [.I p,.I m,.I k] [] (fun x _=>K x):=
 acW (T:=T1) (L:=[]) (fun _=>0) Tryz.func81 (oU) (LOk.nil _ _ _ _ _) h
theorem DB:SpK 104 (.pure qC):=by
 intro args K h
 unfold qC at h
 split at h
 ·rename_i p m k
  obtain⟨hp,h⟩:=h
  refine ck aj (by simp[cf]) (.int _ _) (DP p m k _ ?_) h
  unfold P41 at hp
  simp only[au,decide_eq_true_eq,beq_iff_eq,bne_iff_ne]
  by_cases c1:k<0
  ·simp[c1,shr]
  ·by_cases c2:k≥m
   ·simp[c1,c2,shr]
   ·have hm:m≠0:=by omega
    simp only[c1,c2,hm,decide_false,if_true,if_false,ne_eq,not_false_eq_true]
    have e0:shr p m k=if p<0 then -(shp (-p) m k) else shp p m k:=by unfold shr; rw[if_neg (by omega)]
    rw[e0]
    by_cases hn:p<0
    ·obtain⟨h1,h2,h3,h4,_,_⟩:=gW (p:= -p) (m:=m) (by omega) (by omega)
     obtain⟨h5,h6⟩:=IB (p:=p) (m:=m) hn (by omega)
     have e2:shp (-p) m k=if k < -p-(-p) / m*m then(-p) / m+1 else(-p) / m:=rfl
     rw[h5,h6,if_pos hn,e2]
     generalize (-p) / m*m=q at *
     generalize (-p) / m=d at *
     have e1:wI (0 - -(-p-q)) = -p-q:=by rw[aD (by omega) (by omega)]; omega
     have e3:wI (-d) = -d:=aD (by omega) (by omega)
     have e4:wI (-d-1) = -d-1:=aD (by omega) (by omega)
     rw[e1,if_neg (by omega),e3,e4]
     by_cases c:k < -p-q
     ·rw[if_pos c]; simp only[c,if_true]; congr 1; omega
     ·rw[if_neg c]; simp only[show ¬ -p-q>k by omega,if_false]
    ·obtain⟨h1,h2,h3,h4,h5,h6⟩:=gW (p:=p) (m:=m) (by omega) (by omega)
     have e2:shp p m k=if k<p-p / m*m then p / m+1 else p / m:=rfl
     rw[h5,h6,if_neg hn,e2]
     generalize p / m*m=q at *
     generalize p / m=d at *
     have e3:wI d=d:=aD (by omega) (by omega)
     have e4:wI (d+1)=d+1:=aD (by omega) (by omega)
     have e1:wI (0-(p-q)) = -(p-q):=by rw[aD (by omega) (by omega)]; omega
     rw[e1,e3,e4]
     by_cases c:k<p-q
     ·simp[c]
     ·simp[show ¬ k<p-q by omega,show ¬ k < -(p-q) by omega]
 ·exact h.elim
theorem qb {p m k:Int} (hp:P41 p) (h0:0≤p) (K:PV→Prop) (hk:K (.I (shr p m k))) (c1:¬ k<0) (c2:¬ k≥m):
  (if k<wI (p-wI (wI (Int.tdiv p m)*m)) then K (PV.int IntKind.i64 (wI (wI (Int.tdiv p m)+1))) else K (PV.int IntKind.i64 (wI (Int.tdiv p m)))):=by
 unfold P41 at hp
 obtain⟨h1,h2,h3,h4,h5,h6⟩:=gW (p:=p) (m:=m) (by omega) (by omega)
 have e2:shr p m k=if k<p-p / m*m then p / m+1 else p / m:=by unfold shr; rw[if_neg (by omega),if_neg (by omega)]; rfl
 rw[e2] at hk
 have e3:wI (p / m)=p / m:=aD (by omega) (by omega)
 have e5:wI (p / m*m)=p / m*m:=aD (by omega) (by omega)
 have e6:wI (p-p / m*m)=p-p / m*m:=aD (by omega) (by omega)
 have e4:wI (p / m+1)=p / m+1:=aD (by omega) (by omega)
 rw[h5,e3,e5,e6,e4]
 by_cases c:k<p-p / m*m
 ·rw[if_pos c] at hk ⊢; exact hk
 ·rw[if_neg c] at hk ⊢; exact hk
theorem u7:SpK 81 (.pure vJ):=by
 intro args K h
 unfold vJ at h
 split at h
 ·rename_i p m k
  obtain⟨⟨hp,h0⟩,h⟩:=h
  refine ck aj (by simp[cf]) (.int _ _) (wP p m k _ ?_) h
  simp only[au,decide_eq_true_eq,beq_iff_eq,bne_iff_ne]
  by_cases c1:k<0
  ·simp[c1,shr]
  ·by_cases c2:k≥m
   ·simp[c1,c2,shr]
   ·have hm:m≠0:=by omega
    have hn:¬ p<0:=by omega
    simp only[c1,c2,hm,hn,decide_false,if_true,if_false,ne_eq,not_false_eq_true]
    exact qb hp h0 (fun x=>x = .I (shr p m k)) rfl c1 c2
 ·exact h.elim
def T1c:Tab:=(81,.pure vJ)::T1
theorem Kv:TbK T1c:= .cons u7 oU
theorem vQ (p m k:Int)  (K:PV→Prop) (h:br (decide (k<0) == false) (br (decide (k≥m)) (K (.I 0)) (br (decide (p<0)) ((P41 (wI (0-p))∧0≤wI (0-p))∧K (.I (wI (0-shr (wI (0-p)) m k)))) (br (m != 0) (br (decide (k<wI (p-wI (wI (Int.tdiv p m)*m)))) (K (.I (wI (wI (Int.tdiv p m)+1)))) (K (.I (wI (Int.tdiv p m))))) False))) (K (.I 0))):AcK 81 [.I p,.I m,.I k] [] (fun x _=>K x):=
 acW (T:=T1c) (L:=[]) (fun _=>0) Tryz.func81 (Kv) (LOk.nil _ _ _ _ _) h
theorem Ak:SpK 81 (.pure qC):=by
 intro args K h
 unfold qC at h
 split at h
 ·rename_i p m k
  obtain⟨hp,h⟩:=h
  refine ck aj (by simp[cf]) (.int _ _) (vQ p m k _ ?_) h
  have hp':=hp
  unfold P41 at hp'
  simp only[au,decide_eq_true_eq,beq_iff_eq,bne_iff_ne]
  by_cases c1:k<0
  ·simp[c1,shr]
  ·by_cases c2:k≥m
   ·simp[c1,c2,shr]
   ·have hm:m≠0:=by omega
    simp only[c1,c2,hm,decide_false,if_true,if_false,ne_eq,not_false_eq_true]
    by_cases hn:p<0
    ·have e:wI (0-p) = -p:=by rw[aD (by omega) (by omega)]; omega
     have hr:=mA (p:= -p) (m:=m) (k:=k) (by omega) (by omega)
     have e1:shr (-p) m k=shp (-p) m k:=by unfold shr; rw[if_neg (by omega),if_neg (by omega)]
     have e2:shr p m k = -(shp (-p) m k):=by unfold shr; rw[if_neg (by omega),if_pos hn]
     simp only[hn,if_true,e,e1,e2]
     refine⟨⟨⟨by omega,by omega⟩,by omega⟩,?_⟩
     congr 1
     rw[aD (by omega) (by omega)]; omega
    ·simp only[hn,if_false]
     exact qb hp (by omega) (fun x=>x = .I (shr p m k)) rfl c1 c2
 ·exact h.elim
def T3:Tab:=(75,.pure qV)::(78,.pure qV)::(104,.pure qC)::(81,.pure qC)::T2
theorem s8:TbK T3:= .cons AS (.cons zu (.cons DB (.cons Ak CA)))
def cm (ns:List Int):Prop:=(ns.length:Int)≤4611686018427387904
def lG:Int→List Int→Int
 | acc,[]=>acc
 | acc,r::l=>lG (wI (acc+within r)) l
def dn (ns:List Int):Int:=if ns.length=0 then 0 else wI ((lG 0 ns).tdiv ns.length)
theorem iU {ns:List Int} {i:Nat} (h:i<ns.length):ns.drop i=ns.getD i 0::ns.drop (i+1):=by
 rw[List.drop_eq_getElem_cons h,List.getD_eq_getElem?_getD,List.getElem?_eq_getElem h]; rfl
theorem qO {ns:List Int} {i:Nat} (acc:Int) (h:i<ns.length):lG acc (ns.drop i)=lG (wI (acc+within (ns.getD i 0))) (ns.drop (i+1)):=by
 rw[iU h]; rfl
theorem toNat_cast (i:Nat):Int.toNat (i:Int)=i:=rfl
theorem ar {i n:Nat} (h:i<n) (hn:(n:Int)≤4611686018427387904):wI ((i:Int)+1)=((i+1:Nat):Int):=by
 rw[aD (by omega) (by omega)]; rfl
def Db:LSp:=fun e H Q=>∃(ns:List Int) (t:Tail),cm ns∧ah (List.map e [0,3,9,10,11]) [.list (en1 .i64 ns) t,.I 0,.list (en1 .i64 ns) t,.I (en1 .i64 ns).length,.I 0]∧av H []∧
 Q (.exit 0) (ak [0,3,9,10,11] [.list (en1 .i64 ns) t,.I (lG 0 ns),.list (en1 .i64 ns) t,.I (en1 .i64 ns).length,.I ns.length]) []
def yo:LSp:=fun e H Q=>∃(ns:List Int) (t:Tail),cm ns∧ah (List.map e [0,3,4]) [.list (en1 .i64 ns) t,.I 0,.I 0]∧av H []∧
 Q (.exit 0) (ak [0,3,4] [.list (en1 .i64 ns) t,.I (lG 0 ns),.I ns.length]) []
def mV (args:List PV) (K:PV→Prop):Prop:=match args with
 | [.list es t]=>∃ ns,es=en1 .i64 ns∧cm ns∧NT t∧K (.int .i64 (dn ns))
 | _=>False
theorem Cz (ns:List Int) (t:Tail) (acc:Int) (i:Nat):(by refine(?_:_→_→_→Prop) (PV.list (en1 .i64 ns) t) (↑(List.length (en1 .i64 ns)):Int) (List.getD (en1 .i64 ns) (Int.toNat (i:Int)) []); exact fun a b c=>∀(R:Ex→List PV→ae→Prop),(br (decide ((i:Int)<b)) (InL (en1 .i64 ns) 1 (i:Int)∧br (true && aE [.int .i64] 0 c) (R .normal [a,.I (wI (acc+within (cI c 0))),a,.I b,.I (wI ((i:Int)+1))] []) False) (R (.exit 0) [a,.I acc,a,.I b,.I i] []))→Holds (wpK T3 [] (fun _=>0) (ai [1,1,1,0,1,0] (ag Tryz.f76)) [] (ak [0,3,9,10,11] [a,.I acc,a,.I (en1 .i64 ns).length,.I i]) [] (fun ex e H=>R ex (List.map e [0,3,9,10,11]) H)):Prop):=fun R h=>hoE h
theorem zk (ns:List Int) (t:Tail) (acc:Int) (i:Nat):(by refine(?_:_→_→Prop) [PV.list (en1 .i64 ns) t,.I acc,.I i] (List.getD (en1 .i64 ns) (Int.toNat (i:Int)) []); exact fun a b=>∀(R:Ex→List PV→ae→Prop),(br (decide ((i:Int)<(↑(List.length (en1 .i64 ns)):Int))) (InL (en1 .i64 ns) 1 (i:Int)∧br (true && aE [.int .i64] 0 b) (R .normal [.list (en1 .i64 ns) t,.I (wI (acc+ey (cI b 0))),.I (wI ((i:Int)+1))] []) False) (R (.exit 0) a []))→Holds (wpK T3 [] (fun _=>0) (ai [1,1,1,0,1,0] (ag Tryz.f79)) [] (ak [0,3,4] a) [] (fun ex e H=>R ex (List.map e [0,3,4]) H)):Prop):=fun R h=>hoE h
theorem y4:∀ e H Q,Db e H Q→AwK Tryz.f76.ntmps (.loop (ai [1,1,1,0,1,0] (ag Tryz.f76))) Q e H:=by
 rintro e H Q ⟨ns,t,hl,he,hH,hQ⟩
 refine aB (hn:=fun _=>0) aj s8 (.nil _ _ _ _ _) (σ:=Nat×Int) [0,3,9,10,11] (fun p=>p.1≤ns.length∧lG p.2 (ns.drop p.1)=lG 0 ns) (fun p=>[.list (en1 .i64 ns) t,.I p.2,.list (en1 .i64 ns) t,.I (en1 .i64 ns).length,.I p.1])
  (fun _=>[]) (fun p=>ns.length-p.1) (0,0) ⟨Nat.zero_le _,rfl⟩ he hH ?_
 rintro⟨i,acc⟩ ⟨h1,h2⟩
 simp only at h1 h2
 refine Cz ns t acc i _ ?_
 simp only[au,decide_eq_true_eq,aN,toNat_cast,fE]
 by_cases c:i<ns.length
 ·rw[if_pos (by omega),dQ _ _ _ c]
  refine⟨dI _ _ _ (by omega) (by omega),?_⟩
  simp only[Bool.and_self,if_true]
  refine⟨(i+1,wI (acc+within (ns.getD i 0))),by simp only; omega,⟨by simp only; omega,by rw[← h2,qO acc c]⟩,?_,[],rfl,Nat.le_refl _,.inl rfl⟩
  rw[ar c hl]
 ·rw[if_neg (by omega)]
  have e:i=ns.length:=by omega
  subst e
  rw[List.drop_length] at h2
  have h2:acc=lG 0 ns:=h2
  subst h2
  rw[aN] at hQ
  exact hQ
theorem u4:∀ e H Q,yo e H Q→AwK Tryz.f79.ntmps (.loop (ai [1,1,1,0,1,0] (ag Tryz.f79))) Q e H:=by
 rintro e H Q ⟨ns,t,hl,he,hH,hQ⟩
 refine aB (hn:=fun _=>0) aj s8 (.nil _ _ _ _ _) (σ:=Nat×Int) [0,3,4] (fun p=>p.1≤ns.length∧lG p.2 (ns.drop p.1)=lG 0 ns) (fun p=>[.list (en1 .i64 ns) t,.I p.2,.I p.1])
  (fun _=>[]) (fun p=>ns.length-p.1) (0,0) ⟨Nat.zero_le _,rfl⟩ he hH ?_
 rintro⟨i,acc⟩ ⟨h1,h2⟩
 simp only at h1 h2
 refine zk ns t acc i _ ?_
 simp only[au,decide_eq_true_eq,aN,toNat_cast,fE,jG]
 by_cases c:i<ns.length
 ·rw[if_pos (by omega),dQ _ _ _ c]
  refine⟨dI _ _ _ (by omega) (by omega),?_⟩
  simp only[Bool.and_self,if_true]
  refine⟨(i+1,wI (acc+within (ns.getD i 0))),by simp only; omega,⟨by simp only; omega,by rw[← h2,qO acc c]⟩,?_,[],rfl,Nat.le_refl _,.inl rfl⟩
  rw[ar c hl]
 ·rw[if_neg (by omega)]
  have e:i=ns.length:=by omega
  subst e
  rw[List.drop_length] at h2
  have h2:acc=lG 0 ns:=h2
  subst h2
  exact hQ
theorem HZ (ns:List Int) (t:Tail):∀(K:PV→Prop),(br ((↑(List.length (en1 .i64 ns)):Int) == 0) (K (.I 0)) (∃(ns_1:List Int) (t_1:Tail),by refine(?_:_→_→Prop) (↑(List.length (en1 .i64 ns_1)):Int) (PV.list (en1 .i64 ns_1) t_1); exact fun a b=>cm ns_1∧ah [.list (en1 .i64 ns) t,.I 0,.list (en1 .i64 ns) t,.I (↑(List.length (en1 .i64 ns)):Int),.I 0] [b,.I 0,b,.I a,.I 0]∧av [] []∧br (a != 0) (K (.I (wI (Int.tdiv (lG 0 ns_1) a)))) False))→AcK 76 [.list (en1 .i64 ns) t] [] (fun x _=>K x):=fun K h=>acW (T:=T3) (L:=[([1,1,1,0,1,0],Db)]) (fun _=>0) Tryz.func76 (s8) (.cons suE y4 (.nil _ _ _ _ _)) h
theorem BZ (ns:List Int) (t:Tail)  (K:PV→Prop) (h:br ((↑(List.length (en1 .i64 ns)):Int) == 0) (K (.I 0)) (∃(ns_1:List Int) (t_1:Tail),cm ns_1∧ah [.list (en1 .i64 ns) t,.I 0,.I 0] [.list (en1 .i64 ns_1) t_1,.I 0,.I 0]∧av [] []∧br ((↑(List.length (en1 .i64 ns_1)):Int) != 0) (K (.I (wI (Int.tdiv (lG 0 ns_1) (↑(List.length (en1 .i64 ns_1)):Int))))) False)):AcK 79 [.list (en1 .i64 ns) t] [] (fun x _=>K x):=
 acW (T:=T3) (L:=[([1,1,1,0,1,0],yo)]) (fun _=>0) Tryz.func79 (s8) (.cons suE u4 (.nil _ _ _ _ _)) h
theorem FZ:SpK 76 (.pure mV):=by
 intro args K h
 unfold mV at h
 split at h
 ·rename_i es t
  obtain⟨ns,rfl,hl,ht,h⟩:=h
  refine ck aj (by simp[bi ht]) (.int _ _) (HZ ns t _ ?_) h
  simp only[au,beq_iff_eq,bne_iff_ne,aN,dn]
  by_cases c:ns.length=0
  ·simp[c]
  ·rw[if_neg (by omega),if_neg c]
   refine⟨ns,t,hl,rfl,rfl,?_⟩
   rw[if_pos (by omega)]
 ·exact h.elim
theorem DQ:SpK 79 (.pure mV):=by
 intro args K h
 unfold mV at h
 split at h
 ·rename_i es t
  obtain⟨ns,rfl,hl,ht,h⟩:=h
  refine ck aj (by simp[bi ht]) (.int _ _) (BZ ns t _ ?_) h
  simp only[au,beq_iff_eq,bne_iff_ne,aN,dn]
  by_cases c:ns.length=0
  ·simp[c]
  ·rw[if_neg (by omega),if_neg c]
   refine⟨ns,t,hl,rfl,rfl,?_⟩
   rw[if_pos (by omega)]
 ·exact h.elim
def T4:Tab:=(76,.pure mV)::(79,.pure mV)::T3
theorem uj:TbK T4:= .cons FZ (.cons DQ s8)
def bJ:List Int→Bool
 | []=>true
 | r::l=>(r == within r) && bJ l
def yE:LSp:=fun e H Q=>∃(ns:List Int) (t:Tail),cm ns∧ah (List.map e [2,5,6,7]) [.I 0,.list (en1 .i64 ns) t,.I (en1 .i64 ns).length,.I 0]∧av H []∧
 (bJ ns=true→Q (.exit 0) (ak [2,5,6,7] [.I 0,.list (en1 .i64 ns) t,.I (en1 .i64 ns).length,.I ns.length]) [])∧
 (bJ ns=false→∀ i:Int,Q .ret (ak [2,5,6,7] [.I 2,.list (en1 .i64 ns) t,.I (en1 .i64 ns).length,.I i]) [])
def wrong (ns:List Int):Int:=if bJ ns=true then 0 else 2
def jV (args:List PV) (K:PV→Prop):Prop:=match args with
 | [.list es t]=>∃ ns,es=en1 .i64 ns∧cm ns∧NT t∧K (.int .i64 (wrong ns))
 | _=>False
theorem y6 (ns:List Int) (t:Tail) (i:Nat):(by refine(?_:_→_→_→Prop) (↑(List.length (en1 .i64 ns)):Int) (List.getD (en1 .i64 ns) (Int.toNat (i:Int)) []) (PV.list (en1 .i64 ns) t); exact fun a b c=>∀(R:Ex→List PV→ae→Prop),(br (decide ((i:Int)<a)) (InL (en1 .i64 ns) 1 (i:Int)∧br (true && aE [.int .i64] 0 b) (br (cI b 0 != within (cI b 0)) (R .ret [.I 2,c,.I a,.I i] []) (R .normal [.I 0,c,.I a,.I (wI ((i:Int)+1))] [])) False) (R (.exit 0) [.I 0,c,.I a,.I i] []))→Holds (wpK T4 [] (fun _=>0) (ai [1,0,1,0] (ag Tryz.f74)) [] (ak [2,5,6,7] [.I 0,c,.I (en1 .i64 ns).length,.I i]) [] (fun ex e H=>R ex (List.map e [2,5,6,7]) H)):Prop):=fun R h=>hoE h
theorem v7 {ns:List Int} {i:Nat} (h:i<ns.length):bJ (ns.drop i)=((ns.getD i 0 == within (ns.getD i 0)) && bJ (ns.drop (i+1))):=by rw[iU h]; rfl
theorem wD:∀ e H Q,yE e H Q→AwK Tryz.f74.ntmps (.loop (ai [1,0,1,0] (ag Tryz.f74))) Q e H:=by
 rintro e H Q ⟨ns,t,hl,he,hH,hQ,hR⟩
 refine aB (hn:=fun _=>0) aj uj (.nil _ _ _ _ _) (σ:=Nat) [2,5,6,7] (fun i=>i≤ns.length∧bJ (ns.drop i)=bJ ns) (fun i=>[.I 0,.list (en1 .i64 ns) t,.I (en1 .i64 ns).length,.I i])
  (fun _=>[]) (fun i=>ns.length-i) 0 ⟨Nat.zero_le _,rfl⟩ he hH ?_
 rintro i ⟨h1,h2⟩
 refine y6 ns t i _ ?_
 simp only[au,decide_eq_true_eq,aN,toNat_cast,fE,bne_iff_ne]
 by_cases c:i<ns.length
 ·rw[if_pos (by omega),dQ _ _ _ c]
  refine⟨dI _ _ _ (by omega) (by omega),?_⟩
  simp only[Bool.and_self,if_true]
  rw[v7 c] at h2
  by_cases d:ns.getD i 0=within (ns.getD i 0)
  ·rw[if_neg (fun k=>k d)]
   rw[show(ns.getD i 0 == within (ns.getD i 0))=true by simpa using d,Bool.true_and] at h2
   refine⟨i+1,(by omega:ns.length-(i+1)<ns.length-i),⟨by omega,h2⟩,?_,[],rfl,Nat.le_refl _,.inl rfl⟩
   rw[ar c hl]
  ·rw[if_pos d]
   rw[show(ns.getD i 0 == within (ns.getD i 0))=false by simpa using d,Bool.false_and] at h2
   have:=hR h2.symm i
   rw[aN] at this
   exact this
 ·rw[if_neg (by omega)]
  have e:i=ns.length:=by omega
  subst e
  rw[List.drop_length] at h2
  have:=hQ h2.symm
  rw[aN] at this
  exact this
theorem Dv (ns:List Int) (t:Tail)  (K:PV→Prop) (h:∃(ns_1:List Int) (t_1:Tail),cm ns_1∧ah [.I 0,.list (en1 .i64 ns) t,.I (↑(List.length (en1 .i64 ns)):Int),.I 0] [.I 0,.list (en1 .i64 ns_1) t_1,.I (↑(List.length (en1 .i64 ns_1)):Int),.I 0]∧av [] []∧(bJ ns_1=true→K (.I 0))∧(bJ ns_1=false→∀(_:Int),K (.I 2))):AcK 74 [.list (en1 .i64 ns) t] [] (fun x _=>K x):=
 acW (T:=T4) (L:=[([1,0,1,0],yE)]) (fun _=>0) Tryz.func74 (uj) (.cons suE wD (.nil _ _ _ _ _)) h
theorem pW:SpK 74 (.pure jV):=by
 intro args K h
 unfold jV at h
 split at h
 ·rename_i es t
  obtain⟨ns,rfl,hl,ht,h⟩:=h
  refine ck aj (by simp[bi ht]) (.int _ _) (Dv ns t _ ?_) h
  refine⟨ns,t,hl,rfl,rfl,fun k=>?_,fun k i=>?_⟩
  ·unfold wrong; rw[if_pos k]
  ·unfold wrong; rw[if_neg (by rw[k]; decide)]
 ·exact h.elim
def pV:LSp:=fun e H Q=>∃(xs ys:List Int) (t u:Tail),cm xs∧xs.length=ys.length∧ah (List.map e [0,1,4,5]) [.list (en1 .i64 xs) t,.list (en1 .i64 ys) u,.bool false,.I 0]∧av H []∧
 (xs=ys→Q (.exit 0) (ak [0,1,4,5] [.list (en1 .i64 xs) t,.list (en1 .i64 ys) u,.bool false,.I xs.length]) [])∧
 (xs≠ys→∀ i:Int,Q .ret (ak [0,1,4,5] [.list (en1 .i64 xs) t,.list (en1 .i64 ys) u,.bool false,.I i]) [])
def pu (args:List PV) (K:PV→Prop):Prop:=match args with
 | [.list es t,.list fs u]=>∃ xs ys,es=en1 .i64 xs∧fs=en1 .i64 ys∧cm xs∧cm ys∧NT t∧NT u∧K (.bool (xs == ys))
 | _=>False
theorem Ch (xs ys:List Int) (t u:Tail) (i:Nat):(by refine(?_:_→_→Prop) (Int.toNat (i:Int)) (PV.list (en1 .i64 ys) u); exact fun b f=>by refine(?_:_→_→_→Prop) [PV.list (en1 .i64 xs) t,f,.bool false,.I i] (List.getD (en1 .i64 xs) b []) (List.getD (en1 .i64 ys) b []); exact fun a c d=>∀(R:Ex→List PV→ae→Prop),(br (decide ((i:Int)<(↑(List.length (en1 .i64 xs)):Int))) (InL (en1 .i64 xs) 1 (i:Int)∧br (true && aE [.int .i64] 0 c) (InL (en1 .i64 ys) 1 (i:Int)∧br (true && aE [.int .i64] 0 d) (br (cI c 0 != cI d 0) (R .ret a []) (R .normal [.list (en1 .i64 xs) t,f,.bool false,.I (wI ((i:Int)+1))] [])) False) False) (R (.exit 0) a []))→Holds (wpK T4 [] (fun _=>0) (ai [1,1,0,1,0] (ag Tryz.f39)) [] (ak [0,1,4,5] a) [] (fun ex e H=>R ex (List.map e [0,1,4,5]) H)):Prop):=fun R h=>hoE h
theorem m9:∀ e H Q,pV e H Q→AwK Tryz.f39.ntmps (.loop (ai [1,1,0,1,0] (ag Tryz.f39))) Q e H:=by
 rintro e H Q ⟨xs,ys,t,u,hl,hlen,he,hH,hQ,hR⟩
 refine aB (hn:=fun _=>0) aj uj (.nil _ _ _ _ _) (σ:=Nat) [0,1,4,5] (fun i=>i≤xs.length∧(xs.drop i=ys.drop i↔xs=ys)) (fun i=>[.list (en1 .i64 xs) t,.list (en1 .i64 ys) u,.bool false,.I i])
  (fun _=>[]) (fun i=>xs.length-i) 0 ⟨Nat.zero_le _,by simp⟩ he hH ?_
 rintro i ⟨h1,h2⟩
 refine Ch xs ys t u i _ ?_
 simp only[au,decide_eq_true_eq,aN,toNat_cast,fE,bne_iff_ne]
 by_cases c:i<xs.length
 ·have c':i<ys.length:=by omega
  rw[if_pos (by omega),dQ _ _ _ c,dQ _ _ _ c']
  simp only[Bool.and_self,if_true]
  rw[iU c,iU c'] at h2
  refine⟨dI _ _ _ (by omega) (by omega),dI _ _ _ (by omega) (by omega),?_⟩
  by_cases d:xs.getD i 0=ys.getD i 0
  ·rw[if_neg (fun k=>k d)]
   refine⟨i+1,(by omega:xs.length-(i+1)<xs.length-i),⟨by omega,by rw[← h2,d]; simp⟩,?_,[],rfl,Nat.le_refl _,.inl rfl⟩
   rw[ar c hl]
  ·rw[if_pos d]
   exact hR (fun k=>d (by rw[k])) i
 ·rw[if_neg (by omega)]
  have e:i=xs.length:=by omega
  subst e
  rw[List.drop_length,hlen,List.drop_length] at h2
  have hxy:=h2.1 rfl
  exact hQ hxy
theorem sG (xs ys:List Int) (t u:Tail)  (K:PV→Prop) (h:br ((↑(List.length (en1 .i64 xs)):Int) != (↑(List.length (en1 .i64 ys)):Int)) (K (.bool false)) (∃(xs_1:List Int) (ys_1:List Int) (t_1:Tail) (u_1:Tail),cm xs_1∧List.length xs_1=List.length ys_1∧ah [.list (en1 .i64 xs) t,.list (en1 .i64 ys) u,.bool false,.I 0] [.list (en1 .i64 xs_1) t_1,.list (en1 .i64 ys_1) u_1,.bool false,.I 0]∧av [] []∧(xs_1=ys_1→K (.bool true))∧(xs_1≠ys_1→∀(_:Int),K (.bool false)))):AcK 39 [.list (en1 .i64 xs) t,.list (en1 .i64 ys) u] [] (fun x _=>K x):=
 acW (T:=T4) (L:=[([1,1,0,1,0],pV)]) (fun _=>0) Tryz.func39 (uj) (.cons suE m9 (.nil _ _ _ _ _)) h
theorem nZ:SpK 39 (.pure pu):=by
 intro args K h
 unfold pu at h
 split at h
 ·rename_i es t fs u
  obtain⟨xs,ys,rfl,rfl,hl,hl2,ht,hu,h⟩:=h
  refine ck aj (by simp[bi ht,bi hu]) (.bool _) (sG xs ys t u _ ?_) h
  simp only[au,bne_iff_ne,aN]
  by_cases c:xs.length=ys.length
  ·rw[if_neg (by omega)]
   refine⟨xs,ys,t,u,hl,c,rfl,rfl,fun k=>?_,fun k i=>?_⟩
   ·rw[show(xs == ys)=true by simpa using k]
   ·rw[show(xs == ys)=false by simpa using k]
  ·rw[if_pos (by omega)]
   rw[show(xs == ys)=false by simp; intro k; exact c (by rw[k])]
 ·exact h.elim
def T5:Tab:=(74,.pure jV)::(39,.pure pu)::T4
theorem CY:TbK T5:= .cons pW (.cons nZ uj)
def wm (n:Int) (p:Int):Int→List Int→List Int
 | _,[]=>[]
 | k,r::l=>within (r+shr p n k)::wm n p (k+1) l
def shd (ns:List Int) (p:Int):List Int:=wm ns.length p 0 ns
theorem nq (n p:Int):∀(k:Int) (l:List Int),(wm n p k l).length=l.length
 | _,[]=>rfl
 | k,r::l=>by simp only[wm,List.length_cons,nq n p (k+1) l]
theorem tK (n p:Int):∀(l:List Int) (k:Int) (i:Nat),i<l.length→(wm n p k l).getD i 0=within (l.getD i 0+shr p n (k+i))
 | [],_,_,h=>by simp at h
 | r::l,k,0,_=>by simp[wm]
 | r::l,k,i+1,h=>by
  have:=tK n p l (k+1) i (by simpa using h)
  simp only[wm,List.getD_cons_succ,this]
  congr 3; omega
def Ten (ns:List Int):Prop:=ns.length≤1000
def Rt (ns:List Int):Prop:=∀ r∈ns,0≤r∧r≤10000
def uQ:LSp:=fun e H Q=>∃(ns:List Int) (t:Tail) (p:Int),Ten ns∧P41 p∧Rt ns∧ah (List.map e [0,1,5,11,12,13]) [.list (en1 .i64 ns) t,.I p,.arr 0 0 ns.length ns.length,.list (en1 .i64 ns) t,.I ns.length,.I 0]∧av H [.cells ((List.replicate ns.length (0:Int)).map (PV.int .i64))]∧
 Q (.exit 0) (ak [0,1,5,11,12,13] [.list (en1 .i64 ns) t,.I p,.arr 0 0 ns.length ns.length,.list (en1 .i64 ns) t,.I ns.length,.I ns.length]) [.cells ((shd ns p).map (PV.int .i64))]
theorem wQ (ns xs:List Int) (t:Tail) (p:Int) (i:Nat):(by refine(?_:_→_→_→_→_→_→Prop) (List.map (PV.int .i64) xs) (List.getD (en1 .i64 ns) (Int.toNat (i:Int)) []) (PV.list (en1 .i64 ns) t) (0+Int.toNat (i:Int)*1) (PV.arr 0 0 ns.length ns.length) (PV.I ns.length); exact fun c d f g h j=>by refine(?_:_→_→Prop) [PV.I (within (wI (cI d 0+shr p (↑(List.length (en1 .i64 ns)):Int) (i:Int))))] [PV.list (en1 .i64 ns) t,.I p,h,f,j,.I i]; exact fun a b=>∀(R:Ex→List PV→ae→Prop),(br (decide ((i:Int)<(ns.length:Int))) (InL (en1 .i64 ns) 1 (i:Int)∧br (true && aE [.int .i64] 0 d) (P41 p∧(0≤(i:Int)∧(i:Int)<(ns.length:Int))∧br (1 == 1 && List.all a PV.one && decide (0+Int.toNat (i:Int)*1+1≤List.length c) && cQ 0 0 g 1) (R .normal [f,.I p,h,f,j,.I (wI ((i:Int)+1))] [.cells (over c g a)]) False) False) (R (.exit 0) b [.cells c]))→Holds (wpK T5 [] (fun _=>0) (ai [1,1,0,1,0] (ag Tryz.f77)) [] (ak [0,1,5,11,12,13] b) [.cells (xs.map (PV.int .i64))] (fun ex e H=>R ex (List.map e [0,1,5,11,12,13]) H)):Prop):=fun R h=>hoE h
theorem Rt.get {ns:List Int} (h:Rt ns) (i:Nat):0≤ns.getD i 0∧ns.getD i 0≤10000:=by
 rw[List.getD_eq_getElem?_getD]
 cases hq:ns[i]? with
 | none=>simp
 | some r=>exact h r (List.mem_iff_getElem?.2 ⟨i,hq⟩)
theorem sJ {ns:List Int} {p:Int} {i:Nat} (h:i<ns.length):(shd ns p).getD i 0=within (ns.getD i 0+shr p ns.length i):=by
 unfold shd; rw[tK _ _ _ _ _ h]; congr 3; omega
theorem b8 (ns:List Int) (p:Int):(shd ns p).length=ns.length:=nq _ _ _ _
theorem take_set {xs T:List Int} {i:Nat} {v:Int} (hx:i<xs.length) (hT:i<T.length) (h:xs.take i=T.take i) (hv:T.getD i 0=v):(xs.set i v).take (i+1)=T.take (i+1):=by
 rw[List.take_succ_eq_append_getElem (by simpa using hx),List.take_succ_eq_append_getElem hT,List.take_set_of_le (Nat.le_refl _),h]
 congr 1
 rw[List.getElem_set_self]
 rw[List.getD_eq_getElem?_getD,List.getElem?_eq_getElem hT] at hv
 simp only[Option.getD_some] at hv
 rw[hv]
theorem uF:∀ e H Q,uQ e H Q→AwK Tryz.f77.ntmps (.loop (ai [1,1,0,1,0] (ag Tryz.f77))) Q e H:=by
 rintro e H Q ⟨ns,t,p,hl,hp,hr,he,hH,hQ⟩
 have hten:ns.length≤1000:=hl
 refine aB (hn:=fun _=>0) aj CY (.nil _ _ _ _ _) (σ:=Nat×List Int) [0,1,5,11,12,13] (fun s=>s.1≤ns.length∧s.2.length=ns.length∧s.2.take s.1=(shd ns p).take s.1)
  (fun s=>[.list (en1 .i64 ns) t,.I p,.arr 0 0 ns.length ns.length,.list (en1 .i64 ns) t,.I ns.length,.I s.1])
  (fun s=>[.cells (s.2.map (PV.int .i64))]) (fun s=>ns.length-s.1) (0,List.replicate ns.length 0) ⟨Nat.zero_le _,by simp,by simp⟩ he hH ?_
 rintro⟨i,xs⟩ ⟨h1,h2,h3⟩
 simp only at h1 h2 h3
 refine wQ ns xs t p i _ ?_
 have hsr:=mJ (p:=p) (m:=ns.length) (k:=i) hp
 have hg:=hr.get i
 have hs0:ns.getD i 0+shr p ns.length i≤9223372036854775807:=by omega
 simp only[au,decide_eq_true_eq,aN,toNat_cast,fE,Nat.mul_one,Nat.zero_add,Fu]
 by_cases c:i<ns.length
 ·rw[if_pos (by omega),dQ _ _ _ c,aD (n:=ns.getD i 0+shr p ns.length i) (by omega) (by omega)]
  refine⟨dI _ _ _ (by omega) (by omega),?_⟩
  rw[if_pos (by rfl:(true && true)=true)]
  refine⟨hp,⟨by omega,by omega⟩,?_⟩
  rw[if_pos (by simp[PV.one,cQ,Nat.blt]; omega),yU _ _ _ _ (by omega)]
  refine⟨(i+1,xs.set i (within (ns.getD i 0+shr p ns.length i))),(by simp only; omega),⟨by simp only; omega,by simpa using h2,?_⟩,?_,[],rfl,Nat.le_refl _,.inl rfl⟩
  ·exact take_set (by omega) (by rw[b8]; omega) h3 (sJ c)
  ·rw[ar c (by omega)]
 ·rw[if_neg (by omega)]
  have e:i=ns.length:=by omega
  subst e
  rw[← h2,List.take_length,h2,← b8 ns p,List.take_length] at h3
  subst h3
  exact hQ
theorem zR (ns:List Int) (t:Tail) (p:Int):(by refine(?_:_→_→Prop) (↑(List.length (en1 .i64 ns)):Int) (PV.list (en1 .i64 ns) t); exact fun a b=>∀(K:PV→ae→Prop),(0≤a∧a≤a∧a≤140737488355328∧a*8≤140737488355328∧∃(ns_1:List Int) (t_1:Tail) (p_1:Int),Ten ns_1∧P41 p_1∧Rt ns_1∧ah [b,.I p,.arr 0 0 (Int.toNat a) (Int.toNat a),b,.I a,.I 0] [.list (en1 .i64 ns_1) t_1,.I p_1,.arr 0 0 ns_1.length ns_1.length,.list (en1 .i64 ns_1) t_1,.I ns_1.length,.I 0]∧av [.cells (List.flatten (List.replicate (Int.toNat a) [.I 0]))] [.cells (List.map (PV.int .i64) (List.replicate ns_1.length 0))]∧K (.arr 0 0 ns_1.length ns_1.length) [.cells (List.map (PV.int .i64) (shd ns_1 p_1))])→AcK 77 [b,.I p] [] K:Prop):=fun K h=>acW (T:=T5) (L:=[([1,1,0,1,0],uQ)]) (fun _=>0) Tryz.func77 (CY) (.cons suE uF (.nil _ _ _ _ _)) h
def pK (args:List PV) (K:PV→Prop):Prop:=match args with
 | [.list es t,.int .i64 p]=>∃ ns,es=en1 .i64 ns∧Ten ns∧P41 p∧Rt ns∧NT t∧K (.list (en1 .i64 (shd ns p)) .no)
 | _=>False
theorem Ap:SpK 77 (.pure pK):=by
 intro args K h
 unfold pK at h
 split at h
 ·rename_i es t p
  obtain⟨ns,rfl,hl,hp,hr,ht,h⟩:=h
  have hten:ns.length≤1000:=hl
  refine ck aj (by simp[bi ht,cf]) (bi NT.no) (qh (K:=fun x=>x = .list (en1 .i64 (shd ns p)) .no) (zR ns t p _ ?_)) h
  simp only[aN]
  refine⟨by omega,by omega,by omega,by omega,ns,t,p,hl,hp,hr,rfl,?_,?_⟩
  ·show _=_
   rw[toNat_cast,AY]
  ·exact⟨0,ns.length,ns.length,1,_,[],en1 .i64 (shd ns p),rfl,rfl,jW _ _,by rw[aN,b8],Nat.le_refl _,by rw[qa,List.append_nil],rfl⟩
 ·exact h.elim
def T6:Tab:=(77,.pure pK)::T5
theorem s4:TbK T6:= .cons Ap CY
def hnU:Oper→Nat:=fun o=>match o.dst with|some 37|some 39|some 98|some 118=>1|_=>0
def upd (a b:List Int) (r:Int):List Int×List Int×Int:=
 if a.length<1∨b.length<1∨a.length>4∨b.length>4 then([],[],21)
 else if bJ a=false∨bJ b=false∨r<0∨r>2 then([],[],2)
 else(shd a (stk (dn a) (dn b) (mnI a.length b.length) r),shd b (-(stk (dn a) (dn b) (mnI a.length b.length) r)),0)
def gv (a b:List Int) (r:Int):PV:= .tup [.list (en1 .i64 (upd a b r).1) .no,.list (en1 .i64 (upd a b r).2.1) .no,.I (upd a b r).2.2]
def xQ (args:List PV) (K:PV→Prop):Prop:=match args with
 | [.list es t,.list fs u,.int .i64 r]=>∃ a b,es=en1 .i64 a∧fs=en1 .i64 b∧cm a∧cm b∧NT t∧NT u∧K (gv a b r)
 | _=>False
theorem fT:∀ {ns:List Int},bJ ns=true→Rt ns
 | [],_=>fun r h=>by simp at h
 | r::l,h=>by
  simp only[bJ,Bool.and_eq_true,beq_iff_eq] at h
  intro q hq
  rcases List.mem_cons.1 hq with rfl|hq
  ·have:=cr q; omega
  ·exact fT h.2 q hq
theorem zB (a b:List Int) (t u:Tail) (r:Int):(by refine(?_:_→_→Prop) (↑(List.length (en1 .i64 a)):Int) (↑(List.length (en1 .i64 b)):Int); exact fun g h=>∀(K:PV→Prop),by refine(?_:_→_→Prop) (K (.tup [.E,.E,.I 2])) (K (.tup [.E,.E,.I 21])); exact fun e f=>(br (decide (mnI g h<1) == false) (br (decide (mxI g h>4)) f (∃(ns:List Int),en1 .i64 a=en1 .i64 ns∧cm ns∧NT t∧br ((wrong ns != 0) == false) (∃(ns:List Int),en1 .i64 b=en1 .i64 ns∧cm ns∧NT u∧br ((wrong ns != 0) == false) (br (decide (r<0) == false) (br (decide (r>2)) e (∃(ns:List Int),en1 .i64 a=en1 .i64 ns∧cm ns∧NT t∧∃(ns_1:List Int),by refine(?_:_→_→Prop) (wI (0-stk (dn ns) (dn ns_1) (mnI g h) r)) (stk (dn ns) (dn ns_1) (mnI g h) r); exact fun c d=>en1 .i64 b=en1 .i64 ns_1∧cm ns_1∧NT u∧∃(ns_2:List Int),en1 .i64 a=en1 .i64 ns_2∧Ten ns_2∧P41 d∧Rt ns_2∧NT t∧∃(ns_3:List Int),en1 .i64 b=en1 .i64 ns_3∧Ten ns_3∧P41 c∧Rt ns_3∧NT u∧K (.tup [.list (en1 .i64 (shd ns_2 d)) .no,.list (en1 .i64 (shd ns_3 c)) .no,.I 0]))) e) e) e)) f)→AcK 45 [.list (en1 .i64 a) t,.list (en1 .i64 b) u,.I r] [] (fun x _=>K x):Prop):=fun K h=>acW (T:=T6) (L:=[]) (fun _=>0) Tryz.func45 (s4) (LOk.nil _ _ _ _ _) h
theorem zg:SpK 45 (.pure xQ):=by
 intro args K h
 unfold xQ at h
 split at h
 ·rename_i es t fs u r
  obtain⟨a,b,rfl,rfl,ha,hb,ht,hu,h⟩:=h
  have hlow:Low 0 (gv a b r):= .tup _ (by simp[cf,bi NT.no])
  refine ck aj (by simp[bi ht,bi hu,cf]) hlow (a9 (K:=fun x _=>x=gv a b r) (zB a b t u r (fun x=>∃ x',Wk x x'∧x'=gv a b r) ?_)) h
  have nilw:∀ e:Int,Wk (.tup [.E,.E,.I e]) (.tup [.list (en1 .i64 []) .no,.list (en1 .i64 []) .no,.I e]):=fun e=>
   .tup (.cons (.list _ _) (.cons (.list _ _) (.cons (.refl _) .nil)))
  have bad:∀ e:Int,upd a b r=([],[],e)→∃ x',Wk (.tup [.E,.E,.I e]) x'∧x'=gv a b r:=fun e he=>⟨_,nilw e,by unfold gv; rw[he]⟩
  simp only[au,aN]
  by_cases c1:mnI (a.length:Int) b.length<1
  ·rw[if_neg (by simp[c1])]
   exact bad 21 (by unfold upd; rw[if_pos (by unfold mnI at c1; split at c1<;>omega)])
  ·rw[if_pos (by simp; omega)]
   by_cases c2:mxI (a.length:Int) b.length>4
   ·rw[if_pos (by simpa using c2)]
    exact bad 21 (by unfold upd; rw[if_pos (by unfold mxI at c2; split at c2<;>omega)])
   ·rw[if_neg (by simpa using c2)]
    have hlens:¬ (a.length<1∨b.length<1∨a.length>4∨b.length>4):=by
     unfold mnI at c1; unfold mxI at c2
     split at c1<;>split at c2<;>omega
    have b2:(bJ a=false∨bJ b=false∨r<0∨r>2)→upd a b r=([],[],2):=fun hc=>by unfold upd; rw[if_neg hlens,if_pos hc]
    refine⟨a,rfl,ha,ht,?_⟩
    by_cases w1:bJ a=true
    ·rw[if_pos (by simp[wrong,w1])]
     refine⟨b,rfl,hb,hu,?_⟩
     by_cases w2:bJ b=true
     ·rw[if_pos (by simp[wrong,w2])]
      by_cases r1:r<0
      ·rw[if_neg (by simp[r1])]; exact bad 2 (b2 (.inr (.inr (.inl r1))))
      ·rw[if_pos (by simp; omega)]
       by_cases r2:r>2
       ·rw[if_pos (by simpa using r2)]; exact bad 2 (b2 (.inr (.inr (.inr r2))))
       ·rw[if_neg (by simpa using r2)]
        have hr:=ri (dn a) (dn b) (mnI a.length b.length) r
        have e0:wI (0-stk (dn a) (dn b) (mnI a.length b.length) r) = -(stk (dn a) (dn b) (mnI a.length b.length) r):=by rw[aD (by omega) (by omega)]; omega
        have e1:upd a b r=(shd a (stk (dn a) (dn b) (mnI a.length b.length) r),shd b (-(stk (dn a) (dn b) (mnI a.length b.length) r)),0):=by
         unfold upd; rw[if_neg hlens,if_neg (by simp[w1,w2]; omega)]
        refine⟨a,rfl,ha,ht,b,rfl,hb,hu,a,rfl,(by unfold Ten; omega),⟨by omega,by omega⟩,fT w1,ht,b,rfl,(by unfold Ten; omega),?_,fT w2,hu,_,.refl _,?_⟩
        ·rw[e0]; exact⟨by omega,by omega⟩
        ·rw[e0]; unfold gv; rw[e1]
     ·rw[if_neg (by simp[wrong,w2])]
      exact bad 2 (b2 (.inr (.inl (by simpa using w2))))
    ·rw[if_neg (by simp[wrong,w1])]
     exact bad 2 (b2 (.inl (by simpa using w1)))
 ·exact h.elim
theorem Lz (a b l:List Int) (t u:Tail) (r:Int) (i:Nat):(by refine(?_:_→_→_→_→Prop) (List.getD (en1 .i64 l) (Int.toNat (i:Int)) []) (PV.list (en1 .i64 l) (.tok 1)) (PV.list (en1 .i64 b) u) (PV.list (en1 .i64 a) t); exact fun f g h k=>by refine(?_:_→_→Prop) [PV.list (en1 .i64 a) t,h,.I r,.E,.E,.I 0,g,.I i] (true && aE [.int .i64] 0 f); exact fun d j=>∀(R:Ex→List PV→ae→Prop),by refine(?_:_→Prop) (R .ret [k,h,.I r,.E,.E,.I 2,g,.I i] [.dead,.tok]); exact fun c=>(br (decide ((i:Int)<(↑(List.length (en1 .i64 l)):Int))) (InL (en1 .i64 l) 1 (i:Int)∧br j (br (decide (cI f 0<0) == false) (InL (en1 .i64 l) 1 (i:Int)∧br j (br (decide (cI f 0>10000)) c (R .normal [k,h,.I r,.E,.E,.I 0,g,.I (wI ((i:Int)+1))] [.dead,.tok])) False) c) False) (R (.exit 0) d [.dead,.tok]))→Holds (wpK T6 [] (hnU) (ai [1,1,1,0,1,0] (ag Tryz.f48)) [] (ak [0,1,2,6,7,8,9,10] d) [.dead,.tok] (fun ex e H=>R ex (List.map e [0,1,2,6,7,8,9,10]) H)):Prop):=fun R h=>hoE h
theorem Is (a b:List Int) (t u:Tail) (n:Int):(by refine(?_:_→_→_→Prop) (↑(List.length (en1 .i64 a)):Int) (List.getD (en1 .i64 a) 0 []) (PV.list (en1 .i64 b) u); exact fun f g h=>by refine(?_:_→_→Prop) (ey (wI (cI g 0+shr n f 0))) [PV.list (en1 .i64 a) t,h,.I n,.E,.E,.I 0]; exact fun c d=>∀(R:Ex→List PV→ae→Prop),(br (decide (0<f)) (InL (en1 .i64 a) 1 0∧br (true && aE [.int .i64] 0 g) (P41 n∧aG [] [[PV.I c]] 1 8∧(List.all [.I c] PV.one=true∧[[PV.I c]]≠[])∧R .normal [.list (en1 .i64 a) t,h,.I n,.list [[PV.I c]] (.tok 2),.E,.I 1] [.dead,.tok,.tok]) False) (R (.exit 2) d [.dead,.tok]))→Holds (wpK T6 [] (hnU) (ai [1,1,1,1,1,1,1,1,1,0,1,0] (ag Tryz.f48)) [] (ak [0,1,12,13,14,15] d) [.dead,.tok] (fun ex e H=>R ex (List.map e [0,1,12,13,14,15]) H)):Prop):=fun R h=>hoE h
theorem HV (a b x:List Int) (t u:Tail) (n:Int) (i:Nat):(by refine(?_:_→_→_→_→Prop) (List.getD (en1 .i64 a) (Int.toNat (i:Int)) []) (↑(List.length (en1 .i64 a)):Int) (PV.list (en1 .i64 b) u) [Ob.dead,.tok,.tok]; exact fun f g h j=>by refine(?_:_→_→Prop) (ey (wI (cI f 0+shr n g (i:Int)))) [PV.list (en1 .i64 a) t,h,.I n,.list (en1 .i64 x) (.tok 2),.E,.I i]; exact fun c d=>∀(R:Ex→List PV→ae→Prop),(br (decide ((i:Int)<g)) (InL (en1 .i64 a) 1 (i:Int)∧br (true && aE [.int .i64] 0 f) (P41 n∧aG (en1 .i64 x) [[PV.I c]] 1 8∧(List.all [.I c] PV.one=true∧[[PV.I c]]≠[])∧R .normal [.list (en1 .i64 a) t,h,.I n,.list (en1 .i64 x++[[PV.I c]]) (.tok 3),.E,.I (wI ((i:Int)+1))] [.dead,.tok,.dead,.tok]) False) (R (.exit 2) d j))→Holds (wpK T6 [] (hnU) (ai [1,1,1,1,1,1,1,1,1,0,1,0] (ag Tryz.f48)) [] (ak [0,1,12,13,14,15] d) j (fun ex e H=>R ex (List.map e [0,1,12,13,14,15]) H)):Prop):=fun R h=>hoE h
theorem HF (b x:List Int) (u:Tail) (n:Int):(by refine(?_:_→_→_→_→Prop) (↑(List.length (en1 .i64 b)):Int) (List.getD (en1 .i64 b) 0 []) (PV.list (en1 .i64 x) (.tok 2)) [Ob.dead,.tok,.tok]; exact fun d f g h=>by refine(?_:_→_→Prop) (ey (wI (cI f 0-shr n d 0))) [PV.list (en1 .i64 b) u,.I n,g,.E,.I 0]; exact fun a c=>∀(R:Ex→List PV→ae→Prop),(br (decide (0<d)) (InL (en1 .i64 b) 1 0∧br (true && aE [.int .i64] 0 f) (P41 n∧aG [] [[PV.I a]] 1 8∧(List.all [.I a] PV.one=true∧[[PV.I a]]≠[])∧R .normal [.list (en1 .i64 b) u,.I n,g,.list [[PV.I a]] (.tok 3),.I 1] [.dead,.tok,.tok,.tok]) False) (R (.exit 4) c h))→Holds (wpK T6 [] (hnU) (ai [1,1,1,1,1,1,1,1,1,1,0,1,0] (ag Tryz.f48)) [] (ak [1,12,13,14,16] c) h (fun ex e H=>R ex (List.map e [1,12,13,14,16]) H)):Prop):=fun R h=>hoE h
theorem Gu (b x y:List Int) (u:Tail) (n:Int) (i:Nat):(by refine(?_:_→_→_→_→Prop) (List.getD (en1 .i64 b) (Int.toNat (i:Int)) []) (↑(List.length (en1 .i64 b)):Int) (PV.list (en1 .i64 x) (.tok 2)) [Ob.dead,.tok,.tok,.tok]; exact fun d f g h=>by refine(?_:_→_→Prop) (ey (wI (cI d 0-shr n f (i:Int)))) [PV.list (en1 .i64 b) u,.I n,g,.list (en1 .i64 y) (.tok 3),.I i]; exact fun a c=>∀(R:Ex→List PV→ae→Prop),(br (decide ((i:Int)<f)) (InL (en1 .i64 b) 1 (i:Int)∧br (true && aE [.int .i64] 0 d) (P41 n∧aG (en1 .i64 y) [[PV.I a]] 1 8∧(List.all [.I a] PV.one=true∧[[PV.I a]]≠[])∧R .normal [.list (en1 .i64 b) u,.I n,g,.list (en1 .i64 y++[[PV.I a]]) (.tok 4),.I (wI ((i:Int)+1))] [.dead,.tok,.tok,.dead,.tok]) False) (R (.exit 4) c h))→Holds (wpK T6 [] (hnU) (ai [1,1,1,1,1,1,1,1,1,1,0,1,0] (ag Tryz.f48)) [] (ak [1,12,13,14,16] c) h (fun ex e H=>R ex (List.map e [1,12,13,14,16]) H)):Prop):=fun R h=>hoE h
theorem sV {ns:List Int} {i:Nat} (h:i<ns.length):bJ (ns.drop i)=((ns.getD i 0 == within (ns.getD i 0)) && bJ (ns.drop (i+1))):=by rw[iU h]; rfl
theorem kL {n:Int}:n=within n↔¬ n<0∧¬ n>10000:=by
 unfold within mnI mxI; (repeat' split)<;>omega
def Je:LSp:=fun e H Q=>∃(a b l:List Int) (t u:Tail) (r:Int),cm l∧ah (List.map e [0,1,2,6,7,8,9,10]) [.list (en1 .i64 a) t,.list (en1 .i64 b) u,.I r,.E,.E,.I 0,.list (en1 .i64 l) (.tok 1),.I 0]∧av H [.dead,.tok]∧
 (bJ l=true→Q (.exit 0) (ak [0,1,2,6,7,8,9,10] [.list (en1 .i64 a) t,.list (en1 .i64 b) u,.I r,.E,.E,.I 0,.list (en1 .i64 l) (.tok 1),.I l.length]) [.dead,.tok])∧
 (bJ l=false→∀ i:Int,Q .ret (ak [0,1,2,6,7,8,9,10] [.list (en1 .i64 a) t,.list (en1 .i64 b) u,.I r,.E,.E,.I 2,.list (en1 .i64 l) (.tok 1),.I i]) [.dead,.tok])
theorem Ei:∀ e H Q,Je e H Q→AwK Tryz.f48.ntmps (.loop (ai [1,1,1,0,1,0] (ag Tryz.f48))) Q e H:=by
 rintro e H Q ⟨a,b,l,t,u,r,hl,he,hH,hQ,hR⟩
 refine aB (hn:=hnU) aj s4 (.nil _ _ _ _ _) (σ:=Nat) [0,1,2,6,7,8,9,10] (fun i=>i≤l.length∧bJ (l.drop i)=bJ l) (fun i=>[.list (en1 .i64 a) t,.list (en1 .i64 b) u,.I r,.E,.E,.I 0,.list (en1 .i64 l) (.tok 1),.I i])
  (fun _=>[.dead,.tok]) (fun i=>l.length-i) 0 ⟨Nat.zero_le _,rfl⟩ he hH ?_
 rintro i ⟨h1,h2⟩
 refine Lz a b l t u r i _ ?_
 simp only[au,aN,toNat_cast,fE]
 by_cases c:i<l.length
 ·rw[if_pos (by simp; omega),dQ _ _ _ c]
  have hin:=dI .i64 l i (by omega) (by omega)
  refine⟨hin,?_⟩
  rw[if_pos (by rfl:(true && true)=true)]
  rw[sV c] at h2
  generalize l.getD i 0=v at h2 ⊢
  by_cases d1:v<0
  ·rw[if_neg (by simp[d1])]
   rw[show(v == within v)=false by simp; rw[kL]; omega,Bool.false_and] at h2
   exact hR h2.symm i
  ·rw[if_pos (by simp; omega)]
   refine⟨hin,?_⟩
   rw[if_pos (by rfl:(true && true)=true)]
   by_cases d2:v>10000
   ·rw[if_pos (by simp; omega)]
    rw[show(v == within v)=false by simp; rw[kL]; omega,Bool.false_and] at h2
    exact hR h2.symm i
   ·rw[if_neg (by simp; omega)]
    rw[show(v == within v)=true by simp; rw[kL]; omega,Bool.true_and] at h2
    refine⟨i+1,(by omega:l.length-(i+1)<l.length-i),⟨by omega,h2⟩,?_,[],rfl,Nat.le_refl _,.inl rfl⟩
    rw[ar c hl]
 ·rw[if_neg (by simp; omega)]
  have e:i=l.length:=by omega
  subst e
  rw[List.drop_length] at h2
  exact hQ h2.symm
def tlU (n0:Nat) (i:Nat):Tail:=match i with
 | 0=> .exact
 | _+1=> .tok n0
def hpU (B:ae) (i:Nat):ae:=match i with
 | 0=>B
 | _+1=>B++[.tok]
theorem eP {T:List Int} {i:Nat} (h:i<T.length):T.take (i+1)=T.take i++[T.getD i 0]:=by
 rw[List.take_succ_eq_append_getElem h,List.getD_eq_getElem?_getD,List.getElem?_eq_getElem h]; rfl
theorem tW (x:List Int) (v:Int):en1 .i64 x++[[PV.I v]]=en1 .i64 (x++[v]):=by simp[en1]
theorem xW (x:List Int) (v:Int) (h:x.length≤1000):aG (en1 .i64 x) [[PV.I v]] 1 8:=by
 refine⟨jW _ _,by intro e he; simp at he; subst he; rfl,?_⟩
 rw[aN]; simp; omega
def IS:LSp:=fun e H Q=>∃(a b:List Int) (t u:Tail) (n:Int),Ten a∧a≠[]∧P41 n∧Rt a∧NT t∧NT u∧ah (List.map e [0,1,12,13,14,15]) [.list (en1 .i64 a) t,.list (en1 .i64 b) u,.I n,.E,.E,.I 0]∧av H [.dead,.tok]∧
 Q (.exit 2) (ak [0,1,12,13,14,15] [.list (en1 .i64 a) t,.list (en1 .i64 b) u,.I n,.list (en1 .i64 (shd a n)) (.tok 2),.E,.I a.length]) [.dead,.tok,.tok]
theorem C8:∀ e H Q,IS e H Q→AwK Tryz.f48.ntmps (.loop (ai [1,1,1,1,1,1,1,1,1,0,1,0] (ag Tryz.f48))) Q e H:=by
 rintro e H Q ⟨a,b,t,u,n,hl,hne,hp,hr,ht,hu,he,hH,hQ⟩
 have hten:a.length≤1000:=hl
 have hpos:0<a.length:=List.length_pos_iff.2 hne
 have hH2:H=[.dead,.tok]:=hH
 refine tD (hn:=hnU) aj s4 (.nil _ _ _ _ _) (σ:=Nat×List Int) [0,1,12,13,14,15] (fun s=>s.1≤a.length∧s.2=(shd a n).take s.1) (fun s=>[.list (en1 .i64 a) t,.list (en1 .i64 b) u,.I n,.list (en1 .i64 s.2) (tlU 2 s.1),.E,.I s.1])
  (fun s=>hpU [.dead,.tok] s.1) (fun s=>a.length-s.1) (0,[]) ⟨Nat.zero_le _,by simp⟩ he hH ?_
 rw[hH2]
 have hv:∀ i,i<a.length→ey (wI (a.getD i 0+shr n a.length i))=(shd a n).getD i 0:=fun i hi=>by
  have hg:=hr.get i
  have hs:=mJ (p:=n) (m:=a.length) (k:=i) hp
  rw[jG,sJ hi,aD (by omega) (by omega)]
 have lows:∀ {x:PV} {xs xs':List PV},RVs 2 2 xs' xs→RVs 2 2 xs' xs:=fun h=>h
 rintro⟨i,x⟩ ⟨h1,h2⟩
 simp only at h1 h2
 cases i with
 | zero=>
  have hx:x=[]:=by simpa using h2
  subst hx
  refine Is a b t u n _ ?_
  simp only[au,aN,fE]
  rw[if_pos (by simpa using hpos),dQ _ _ _ hpos,if_pos (by rfl:(true && true)=true),show shr n (a.length:Int) 0=shr n (a.length:Int) ((0:Nat):Int) from rfl,hv 0 hpos]
  refine⟨dI _ _ _ (by omega) (by omega),hp,xW [] _ (by simp),⟨by simp[PV.one],by simp⟩,?_⟩
  refine⟨(1,[(shd a n).getD 0 0]),by simp only; omega,⟨by simp only; omega,?_⟩,?_⟩
  ·have:=eP (T:=shd a n) (i:=0) (by rw[b8]; omega)
   simpa using this.symm
  ·exact relab_row (n0:=2) (B:=[.dead,.tok]) (X:=[.tok]) (k:=2) rfl (fu rfl) (Nat.le_refl _) rfl
    (.same (bi ht) (.same (bi hu) (.same (.int _ _) (.row (iy .i64 [(shd a n).getD 0 0]) (.same (bi (ns:=[]) (k:= .i64) NT.exact) (.same (.int _ _) .nil))))))
 | succ i=>
  refine HV a b x t u n (i+1) _ ?_
  simp only[au,aN,fE,toNat_cast]
  by_cases c:i+1<a.length
  ·rw[if_pos (by simp; omega),dQ _ _ _ c,if_pos (by rfl:(true && true)=true),hv (i+1) c]
   have hxl:x.length≤1000:=by rw[h2]; simp; omega
   refine⟨dI _ _ _ (by omega) (by omega),hp,xW _ _ hxl,⟨by simp[PV.one],by simp⟩,?_⟩
   refine⟨(i+2,x++[(shd a n).getD (i+1) 0]),by simp only; omega,⟨by simp only; omega,?_⟩,?_⟩
   ·rw[h2]; exact(eP (by rw[b8]; omega)).symm
   ·rw[tW,ar c (by omega)]
    exact relab_row (n0:=2) (B:=[.dead,.tok]) (X:=[.dead,.tok]) (k:=3) rfl (fu rfl) (by omega) rfl
     (.same (bi ht) (.same (bi hu) (.same (.int _ _) (.row (iy .i64 _) (.same (bi (ns:=[]) (k:= .i64) NT.exact) (.same (.int _ _) .nil))))))
  ·rw[if_neg (by simp; omega)]
   have e:i+1=a.length:=by omega
   rw[e,← b8 a n,List.take_length] at h2
   subst h2
   have e2:(((i+1:Nat)):Int)=(a.length:Int):=by rw[e]
   show Q _ _ _
   rw[← e2] at hQ
   exact hQ
theorem Bv (m k:Int) (hk:¬ k<0):shp 0 m k=0:=by unfold shp; simp[hk]
theorem Hl (p m k:Int):shr (-p) m k = -(shr p m k):=by
 unfold shr
 by_cases c:k<0∨k≥m
 ·rw[if_pos c,if_pos c]; rfl
 ·rw[if_neg c,if_neg c]
  by_cases h:p<0
  ·rw[if_pos h,if_neg (by omega)]; omega
  ·by_cases h0:p=0
   ·subst h0; simp[Bv m k (by omega)]
   ·rw[if_neg h,if_pos (by omega),Int.neg_neg]
theorem xN {n0 o:Nat} {ns:List Int} (h:o<n0):Low n0 (.list (en1 .i64 ns) (.tok o)):= .list _ _ (fun o' e=>by cases e; exact h) (iy .i64 ns)
def Jn:LSp:=fun e H Q=>∃(b x:List Int) (u:Tail) (n:Int),Ten b∧b≠[]∧P41 n∧Rt b∧NT u∧ah (List.map e [1,12,13,14,16]) [.list (en1 .i64 b) u,.I n,.list (en1 .i64 x) (.tok 2),.E,.I 0]∧av H [.dead,.tok,.tok]∧
 Q (.exit 4) (ak [1,12,13,14,16] [.list (en1 .i64 b) u,.I n,.list (en1 .i64 x) (.tok 2),.list (en1 .i64 (shd b (-n))) (.tok 3),.I b.length]) [.dead,.tok,.tok,.tok]
theorem DW:∀ e H Q,Jn e H Q→AwK Tryz.f48.ntmps (.loop (ai [1,1,1,1,1,1,1,1,1,1,0,1,0] (ag Tryz.f48))) Q e H:=by
 rintro e H Q ⟨b,x,u,n,hl,hne,hp,hr,hu,he,hH,hQ⟩
 have hten:b.length≤1000:=hl
 have hpos:0<b.length:=List.length_pos_iff.2 hne
 have hH2:H=[.dead,.tok,.tok]:=hH
 refine tD (hn:=hnU) aj s4 (.nil _ _ _ _ _) (σ:=Nat×List Int) [1,12,13,14,16] (fun s=>s.1≤b.length∧s.2=(shd b (-n)).take s.1) (fun s=>[.list (en1 .i64 b) u,.I n,.list (en1 .i64 x) (.tok 2),.list (en1 .i64 s.2) (tlU 3 s.1),.I s.1])
  (fun s=>hpU [.dead,.tok,.tok] s.1) (fun s=>b.length-s.1) (0,[]) ⟨Nat.zero_le _,by simp⟩ he hH ?_
 rw[hH2]
 have hv:∀ i,i<b.length→ey (wI (b.getD i 0-shr n b.length i))=(shd b (-n)).getD i 0:=fun i hi=>by
  have hg:=hr.get i
  have hs:=mJ (p:=n) (m:=b.length) (k:=i) hp
  rw[jG,sJ hi,Hl,aD (by omega) (by omega)]; rfl
 rintro⟨i,y⟩ ⟨h1,h2⟩
 simp only at h1 h2
 cases i with
 | zero=>
  have hy:y=[]:=by simpa using h2
  subst hy
  refine HF b x u n _ ?_
  simp only[au,aN,fE]
  rw[if_pos (by simpa using hpos),dQ _ _ _ hpos,if_pos (by rfl:(true && true)=true),show shr n (b.length:Int) 0=shr n (b.length:Int) ((0:Nat):Int) from rfl,hv 0 hpos]
  refine⟨dI _ _ _ (by omega) (by omega),hp,xW [] _ (by simp),⟨by simp[PV.one],by simp⟩,?_⟩
  refine⟨(1,[(shd b (-n)).getD 0 0]),by simp only; omega,⟨by simp only; omega,?_⟩,?_⟩
  ·have:=eP (T:=shd b (-n)) (i:=0) (by rw[b8]; omega)
   simpa using this.symm
  ·exact relab_row (n0:=3) (B:=[.dead,.tok,.tok]) (X:=[.tok]) (k:=3) rfl (fu rfl) (Nat.le_refl _) rfl
    (.same (bi hu) (.same (.int _ _) (.same (xN (by omega)) (.row (iy .i64 [(shd b (-n)).getD 0 0]) (.same (.int _ _) .nil)))))
 | succ i=>
  refine Gu b x y u n (i+1) _ ?_
  simp only[au,aN,fE,toNat_cast]
  by_cases c:i+1<b.length
  ·rw[if_pos (by simp; omega),dQ _ _ _ c,if_pos (by rfl:(true && true)=true),hv (i+1) c]
   have hxl:y.length≤1000:=by rw[h2]; simp; omega
   refine⟨dI _ _ _ (by omega) (by omega),hp,xW _ _ hxl,⟨by simp[PV.one],by simp⟩,?_⟩
   refine⟨(i+2,y++[(shd b (-n)).getD (i+1) 0]),by simp only; omega,⟨by simp only; omega,?_⟩,?_⟩
   ·rw[h2]; exact(eP (by rw[b8]; omega)).symm
   ·rw[tW,ar c (by omega)]
    exact relab_row (n0:=3) (B:=[.dead,.tok,.tok]) (X:=[.dead,.tok]) (k:=4) rfl (fu rfl) (by omega) rfl
     (.same (bi hu) (.same (.int _ _) (.same (xN (by omega)) (.row (iy .i64 _) (.same (.int _ _) .nil)))))
  ·rw[if_neg (by simp; omega)]
   have e:i+1=b.length:=by omega
   rw[e,← b8 b (-n),List.take_length] at h2
   subst h2
   have e2:(((i+1:Nat)):Int)=(b.length:Int):=by rw[e]
   show Q _ _ _
   rw[← e2] at hQ
   exact hQ
theorem wL (a b:List Int) (t u:Tail) (r:Int):(by refine(?_:_→_→_→_→_→_→Prop) [Ob.dead,.tok,.tok] (PV.tup [.E,.E,.I 2]) (↑(List.length (en1 .i64 a)):Int) (↑(List.length (en1 .i64 b)):Int) (PV.list (en1 .i64 a) t) (PV.list (en1 .i64 b) u); exact fun i j k m o p=>∀(K:PV→Prop),by refine(?_:_→_→Prop) (K (.tup [.E,.E,.I 21])) (K j); exact fun g h=>(br (decide (k<1) == false) (br (decide (k>4) == false) (br (decide (m<1) == false) (br (decide (m>4)) g (aG [] (en1 .i64 a) 1 8∧(List.all (List.flatten (en1 .i64 a)) PV.one=true∧en1 .i64 a≠[])∧aG ([]++en1 .i64 a) (en1 .i64 b) 1 8∧(List.all (List.flatten (en1 .i64 b)) PV.one=true∧en1 .i64 b≠[])∧∃(a_1:List Int) (b_1:List Int) (l:List Int) (t_1:Tail) (u_1:Tail) (r_1:Int),by refine(?_:_→_→_→_→Prop) (PV.list (en1 .i64 a_1) t_1) (PV.list (en1 .i64 b_1) u_1) (↑(List.length (en1 .i64 b_1)):Int) (↑(List.length (en1 .i64 a_1)):Int); exact fun c d e f=>cm l∧ah [o,p,.I r,.E,.E,.I 0,.list ([]++en1 .i64 a++en1 .i64 b) (.tok 1),.I 0] [c,d,.I r_1,.E,.E,.I 0,.list (en1 .i64 l) (.tok 1),.I 0]∧av [.dead,.tok] [.dead,.tok]∧(bJ l=true→br (decide (r_1<0) == false) (br (decide (r_1>2)) h (br (decide (e<f)) (∃(ns:List Int),en1 .i64 a_1=en1 .i64 ns∧cm ns∧NT t_1∧∃(ns_1:List Int),en1 .i64 b_1=en1 .i64 ns_1∧cm ns_1∧NT u_1∧∃(a:List Int) (b:List Int) (t:Tail) (u:Tail) (n:Int),Ten a∧a≠[]∧P41 n∧Rt a∧NT t∧NT u∧ah [c,d,.I (stk (dn ns) (dn ns_1) e r_1),.E,.E,.I 0] [.list (en1 .i64 a) t,.list (en1 .i64 b) u,.I n,.E,.E,.I 0]∧av [.dead,.tok] [.dead,.tok]∧∃(b_2:List Int) (x:List Int) (u_2:Tail) (n_1:Int),Ten b_2∧b_2≠[]∧P41 n_1∧Rt b_2∧NT u_2∧ah [.list (en1 .i64 b) u,.I n,.list (en1 .i64 (shd a n)) (.tok 2),.E,.I 0] [.list (en1 .i64 b_2) u_2,.I n_1,.list (en1 .i64 x) (.tok 2),.E,.I 0]∧av i i∧K (.tup [.list (en1 .i64 x) (.tok 2),.list (en1 .i64 (shd b_2 (-n_1))) (.tok 3),.I 0])) (∃(ns:List Int),en1 .i64 a_1=en1 .i64 ns∧cm ns∧NT t_1∧∃(ns_1:List Int),en1 .i64 b_1=en1 .i64 ns_1∧cm ns_1∧NT u_1∧∃(a:List Int) (b:List Int) (t:Tail) (u:Tail) (n:Int),Ten a∧a≠[]∧P41 n∧Rt a∧NT t∧NT u∧ah [c,d,.I (stk (dn ns) (dn ns_1) f r_1),.E,.E,.I 0] [.list (en1 .i64 a) t,.list (en1 .i64 b) u,.I n,.E,.E,.I 0]∧av [.dead,.tok] [.dead,.tok]∧∃(b_2:List Int) (x:List Int) (u_2:Tail) (n_1:Int),Ten b_2∧b_2≠[]∧P41 n_1∧Rt b_2∧NT u_2∧ah [.list (en1 .i64 b) u,.I n,.list (en1 .i64 (shd a n)) (.tok 2),.E,.I 0] [.list (en1 .i64 b_2) u_2,.I n_1,.list (en1 .i64 x) (.tok 2),.E,.I 0]∧av i i∧K (.tup [.list (en1 .i64 x) (.tok 2),.list (en1 .i64 (shd b_2 (-n_1))) (.tok 3),.I 0])))) h)∧(bJ l=false→∀(_:Int),K j))) g) g) g)→AcK 48 [o,p,.I r] [] (fun x _=>K x):Prop):=fun K h=>acW (T:=T6) (L:=[([1,1,1,0,1,0],Je),([1,1,1,1,1,1,1,1,1,0,1,0],IS),([1,1,1,1,1,1,1,1,1,1,0,1,0],Jn)]) (hnU) Tryz.func48 (s4) (.cons suE Ei (.cons suE C8 (.cons suE DW (.nil _ _ _ _ _)))) h
theorem iC:∀(a b:List Int),bJ (a++b)=(bJ a && bJ b)
 | [],b=>by simp[bJ]
 | r::a,b=>by simp only[List.cons_append,bJ,iC a b,Bool.and_assoc]
theorem xp (ns:List Int):List.all (List.flatten (en1 .i64 ns)) PV.one=true:=by
 rw[qa,List.all_eq_true]
 intro x hx
 simp only[List.mem_map] at hx
 obtain⟨n,_,rfl⟩:=hx; rfl
theorem BM {ns:List Int} (h:ns≠[]):en1 .i64 ns≠[]:=by
 cases ns with
 | nil=>exact absurd rfl h
 | cons _ _=>simp[en1]
theorem vW:SpK 48 (.pure xQ):=by
 intro args K h
 unfold xQ at h
 split at h
 ·rename_i es t fs u r
  obtain⟨a,b,rfl,rfl,ha,hb,ht,hu,h⟩:=h
  have hlow:Low 0 (gv a b r):= .tup _ (by simp[cf,bi NT.no])
  refine ck aj (by simp[bi ht,bi hu,cf]) hlow (a9 (K:=fun x _=>x=gv a b r) (wL a b t u r (fun x=>∃ x',Wk x x'∧x'=gv a b r) ?_)) h
  have nilw:∀ e:Int,Wk (.tup [.E,.E,.I e]) (.tup [.list (en1 .i64 []) .no,.list (en1 .i64 []) .no,.I e]):=fun e=>
   .tup (.cons (.list _ _) (.cons (.list _ _) (.cons (.refl _) .nil)))
  have bad:∀ e:Int,upd a b r=([],[],e)→∃ x',Wk (.tup [.E,.E,.I e]) x'∧x'=gv a b r:=fun e he=>⟨_,nilw e,by unfold gv; rw[he]⟩
  simp only[au,aN]
  have b1:(a.length<1∨b.length<1∨a.length>4∨b.length>4)→upd a b r=([],[],21):=fun hc=>by unfold upd; rw[if_pos hc]
  by_cases c1:(a.length:Int)<1
  ·rw[if_neg (by simp[c1])]; exact bad 21 (b1 (by omega))
  rw[if_pos (by simp; omega)]
  by_cases c2:(a.length:Int)>4
  ·rw[if_neg (by simp[c2])]; exact bad 21 (b1 (by omega))
  rw[if_pos (by simp; omega)]
  by_cases c3:(b.length:Int)<1
  ·rw[if_neg (by simp[c3])]; exact bad 21 (b1 (by omega))
  rw[if_pos (by simp; omega)]
  by_cases c4:(b.length:Int)>4
  ·rw[if_pos (by simpa using c4)]; exact bad 21 (b1 (by omega))
  rw[if_neg (by simpa using c4)]
  have hlens:¬ (a.length<1∨b.length<1∨a.length>4∨b.length>4):=by omega
  have b2:(bJ a=false∨bJ b=false∨r<0∨r>2)→upd a b r=([],[],2):=fun hc=>by unfold upd; rw[if_neg hlens,if_pos hc]
  have hae:a≠[]:=fun e=>by subst e; simp at c1
  have hbe:b≠[]:=fun e=>by subst e; simp at c3
  refine⟨⟨by intro e he; simp at he,jW _ _,by rw[aN]; simp; omega⟩,⟨xp a,BM hae⟩,⟨by rw[List.nil_append]; exact jW _ _,jW _ _,by rw[List.nil_append,aN,aN]; omega⟩,⟨xp b,BM hbe⟩,a,b,a++b,t,u,r,?_,?_,rfl,?_,?_⟩
  ·unfold cm; simp; omega
  ·show _=_
   rw[List.nil_append,wg]
  ·intro hok
   rw[iC,Bool.and_eq_true] at hok
   by_cases r1:r<0
   ·rw[if_neg (by simp[r1])]; exact bad 2 (b2 (.inr (.inr (.inl r1))))
   rw[if_pos (by simp; omega)]
   by_cases r2:r>2
   ·rw[if_pos (by simpa using r2)]; exact bad 2 (b2 (.inr (.inr (.inr r2))))
   rw[if_neg (by simpa using r2)]
   have fin:∀ mm:Int,mm=mnI (a.length:Int) b.length→∃ x',Wk (.tup [.list (en1 .i64 (shd a (stk (dn a) (dn b) mm r))) (.tok 2),.list (en1 .i64 (shd b (-(stk (dn a) (dn b) mm r)))) (.tok 3),.I 0]) x'∧x'=gv a b r:=by
    rintro mm rfl
    refine⟨_,.tup (.cons (.list _ _) (.cons (.list _ _) (.cons (.refl _) .nil))),?_⟩
    unfold gv upd
    rw[if_neg hlens,if_neg (by simp[hok.1,hok.2]; omega)]
   have hr:∀ mm,P41 (stk (dn a) (dn b) mm r):=fun mm=>by have:=ri (dn a) (dn b) mm r; exact⟨by omega,by omega⟩
   by_cases d:(b.length:Int)<a.length
   ·rw[if_pos (by simpa using d)]
    exact⟨a,rfl,ha,ht,b,rfl,hb,hu,a,b,t,u,_,(by unfold Ten; omega),hae,hr _,fT hok.1,ht,hu,rfl,rfl,b,_,u,_,(by unfold Ten; omega),hbe,hr _,fT hok.2,hu,rfl,rfl,fin _ (by unfold mnI; rw[if_pos d])⟩
   ·rw[if_neg (by simpa using d)]
    exact⟨a,rfl,ha,ht,b,rfl,hb,hu,a,b,t,u,_,(by unfold Ten; omega),hae,hr _,fT hok.1,ht,hu,rfl,rfl,b,_,u,_,(by unfold Ten; omega),hbe,hr _,fT hok.2,hu,rfl,rfl,fin _ (by unfold mnI; rw[if_neg d])⟩
  ·intro hok i
   rw[iC] at hok
   refine bad 2 (b2 ?_)
   cases h1:bJ a
   ·exact .inl rfl
   ·rw[h1,Bool.true_and] at hok; exact .inr (.inl hok)
 ·exact h.elim
end Elo
abbrev RwI:=Rw Int
def csI (r:RwI):List PV:=[.U r.id,.I r.v]
theorem eY (r:RwI):(csI r).length=2:=rfl
theorem kS {n:Nat} (r:RwI):∀ y∈csI r,Low n y:=by
 intro y hy
 simp only[csI,List.mem_cons,List.not_mem_nil,or_false] at hy
 rcases hy with rfl|rfl<;>first|exact .int _ _|exact .str _
theorem IT (v:Int):Low 0 (.I v):=by first|exact .int _ _|exact .str _|(refine .agg _ ?_; intro y hy; simp only[List.mem_cons,List.not_mem_nil,or_false] at hy; rcases hy with rfl<;>first|exact .int _ _|exact .str _)
theorem zz (v:Int) (b:Bool):Low 0 (.tup [.I v,.bool b]):= .tup _ (by intro y hy; simp only[List.mem_cons,List.not_mem_nil,or_false] at hy; rcases hy with rfl|rfl; exact IT v; exact .bool _)
theorem G6 (r:RwI):∀ y∈csI r,y.one=true:=by
 intro y hy
 simp only[csI,List.mem_cons,List.not_mem_nil,or_false] at hy
 rcases hy with rfl|rfl<;>rfl
abbrev flI (l:List RwI):List PV:=(l.map csI).flatten
theorem lA (l:List RwI):(flI l).length=l.length*2:=bA eY l
theorem pI {l:List RwI} {k:Nat} (J:List PV) (h:k<l.length):List.drop (k*2) (flI l++J)=csI (l.getD k default)++(flI (l.drop (k+1))++J):=lF eY J default h
theorem w6 {n:Nat} (l:List RwI) {J:List PV} (h:∀ y∈J,Low n y):∀ y∈flI l++J,Low n y:=fz (fun a _=>kS a) h
theorem xH (l:List RwI) {J:List PV} (h:∀ y∈J,y.one=true):∀ y∈flI l++J,y.one=true:=by
 intro y hy
 rcases List.mem_append.1 hy with h1|h1
 ·obtain⟨c,h2,h3⟩:=List.mem_flatten.1 h1
  obtain⟨a,_,rfl⟩:=List.mem_map.1 h2
  exact G6 a y h3
 ·exact h y h1
def gX (l:List RwI) (J:List PV) (cap:Nat) (most:Int):ae:=[.cells [.arr 1 0 l.length cap,.I most],.cells (flI l++J)]
def qi (most:Int):ae:=[.cells [.E,.I most]]
def EXI (l:List RwI) (most:Int) (H:ae):Prop:=
 (∃(J:List PV) (cap:Nat),H=gX l J cap most∧l.length≤cap∧aJ J ((cap-l.length)*2))∨(l=[]∧H=qi most)
theorem GS (r:RwI) (t:Int)  (K:PV→Prop) (h:K (.I (ga (Rw.id r) t))):AcK 83 [.agg (csI r),.U t] [] (fun x _=>K x):=
 acW (T:=TK) (L:=[]) (fun _=>0) Tryz.func83 (xX) (LOk.nil _ _ _ _ _) h
def DN (args:List PV) (K:PV→Prop):Prop:=∃(r:RwI) (t:Int),ah args [.agg (csI r),.U t]∧K (.I (ga r.id t))
theorem FR:SpK 83 (.pure DN):=by
 rintro args K ⟨r,t,he,hk⟩
 have he:args=_:=he
 subst he
 exact ck aj (by intro y hy; simp only[List.mem_cons,List.not_mem_nil,or_false] at hy; rcases hy with rfl|rfl; exact .agg _ (kS r); exact .int _ _) (.int _ _) (GS r t (fun y=>y = .I (ga r.id t)) rfl) hk
def TCI:Tab:=(83,.pure DN)::TK
theorem o4:TbK TCI:= .cons FR xX
theorem FG (l:List RwI) (J:List PV) (cap:Nat) (most:Int) (t:Int) (i j:Nat):(by refine(?_:_→_→_→Prop) (Int.fdiv (IntKind.wrap .u64 (wI ((i:Int)+(j:Int)))) 2) (PV.arr 1 0 l.length cap) (PV.I l.length); exact fun a f g=>by refine(?_:_→_→_→Prop) [Ob.cells [f,.I most],.cells (flI l++J)] (List.drop (0+Int.toNat (wI a)*2) (flI l++J)) [PV.arr 1 0 l.length cap,.U t,.fn 83 [],g,.I i,.I j]; exact fun b c d=>∀(R:Ex→List PV→ae→Prop),(br (decide ((i:Int)<(j:Int))) ((0≤wI a∧wI a<(l.length:Int))∧br (true && aE [.int .u32,.int .i64] 0 c) (∃(r:RwI) (t_1:Int),ah [.agg [.U (cI c 0),.I (cI c 1)],.U t] [.agg [.U r.id,.I r.v],.U t_1]∧br (decide (ga r.id t_1<0)) (R .normal [f,.U t,.fn 83 [],g,.I (wI (wI a+1)),.I j] b) (R .normal [f,.U t,.fn 83 [],g,.I i,.I (wI a)] b)) False) (R (.exit 0) d b))→Holds (wpK TCI [] (fun _=>0) (ai [1,1,1,0,0] (ag Tryz.f82)) [] (ak [0,1,2,8,9,10] d) b (fun ex e H=>R ex (List.map e [0,1,2,8,9,10]) H)):Prop):=fun R h=>hoE h
theorem HR (most t:Int):(by refine(?_:_→_→Prop) [PV.E,.U t,.fn 83 [],.I 0,.I 0,.I 0] [Ob.cells [.E,.I most]]; exact fun a b=>∀(R:Ex→List PV→ae→Prop),(R (.exit 0) a b)→Holds (wpK TCI [] (fun _=>0) (ai [1,1,1,0,0] (ag Tryz.f82)) [] (ak [0,1,2,8,9,10] a) b (fun ex e H=>R ex (List.map e [0,1,2,8,9,10]) H)):Prop):=fun R h=>hoE h
def IX:LSp:=fun e H Q=>∃(l:List RwI) (J:List PV) (cap:Nat) (most t:Int) (p:Nat),Lb l t p∧l.length≤1000000∧ah (List.map e [0,1,2,8,9,10]) [.arr 1 0 l.length cap,.U t,.fn 83 [],.I l.length,.I 0,.I l.length]∧av H (gX l J cap most)∧
 Q (.exit 0) (ak [0,1,2,8,9,10] [.arr 1 0 l.length cap,.U t,.fn 83 [],.I l.length,.I p,.I p]) (gX l J cap most)
theorem DU:∀ e H Q,IX e H Q→AwK Tryz.f82.ntmps (.loop (ai [1,1,1,0,0] (ag Tryz.f82))) Q e H:=by
 rintro e H Q ⟨l,J,cap,most,t,p,hp,hl,he,hH,hQ⟩
 refine aB (hn:=fun _=>0) aj o4 (.nil _ _ _ _ _) (σ:=Nat×Nat) [0,1,2,8,9,10] (fun s=>s.1≤p∧p≤s.2∧s.2≤l.length)
  (fun s=>[.arr 1 0 l.length cap,.U t,.fn 83 [],.I l.length,.I s.1,.I s.2]) (fun _=>gX l J cap most) (fun s=>s.2-s.1) (0,l.length) ⟨Nat.zero_le _,hp.le,Nat.le_refl _⟩ he hH ?_
 rintro⟨i,j⟩ ⟨h1,h2,h3⟩
 simp only at h1 h2 h3
 refine FG l J cap most t i j _ ?_
 simp only[au,dt]
 by_cases h:i<j
 ·rw[if_pos (by omega)]
  obtain⟨k,hk⟩:∃ k,k=(i+j) / 2:=⟨_,rfl⟩
  have e1:wI (Int.fdiv (IntKind.wrap .u64 (wI ((i:Int)+j))) 2)=(k:Int):=by
   rw[aD (n:=(i:Int)+j) (by omega) (by omega),wrap_u64 (by omega) (by omega),Int.fdiv_eq_ediv_of_nonneg _ (by decide),aD (by omega) (by omega)]
   omega
  simp only[e1,an,Nat.zero_add]
  have hkl:k<l.length:=by omega
  rw[pI J hkl]
  refine⟨⟨by omega,by omega⟩,?_⟩
  rw[if_pos (by rfl)]
  refine⟨l.getD k default,t,rfl,?_⟩
  by_cases c:ga (l.getD k default).id t<0
  ·rw[if_pos c]
   have hc:(l.getD k default).id<t:=by unfold ga at c; split at c; assumption; split at c<;>omega
   have hkp:k<p:=by
    rcases Nat.lt_or_ge k p with q|q
    ·exact q
    ·have:=hp.hi k q hkl; omega
   exact⟨(k+1,j),(show j-(k+1)<j-i by omega),⟨hkp,h2,h3⟩,by rw[ar hkl (by omega)],[],rfl,Nat.le_refl _,.inl rfl⟩
  ·rw[if_neg c]
   have hc:t≤(l.getD k default).id:=by unfold ga at c; split at c<;>omega
   have hkp:p≤k:=by
    rcases Nat.lt_or_ge k p with q|q
    ·have:=hp.lo k q; omega
    ·exact q
   exact⟨(i,k),(show k-i<j-i by omega),⟨h1,hkp,by omega⟩,rfl,[],rfl,Nat.le_refl _,.inl rfl⟩
 ·rw[if_neg (by omega)]
  have e1:i=p:=by omega
  have e2:j=p:=by omega
  subst e1
  subst e2
  exact hQ
def Jv:LSp:=fun e H Q=>∃(most t:Int),ah (List.map e [0,1,2,8,9,10]) [.E,.U t,.fn 83 [],.I 0,.I 0,.I 0]∧av H (qi most)∧
 Q (.exit 0) (ak [0,1,2,8,9,10] [.E,.U t,.fn 83 [],.I 0,.I 0,.I 0]) (qi most)
theorem Br:∀ e H Q,Jv e H Q→AwK Tryz.f82.ntmps (.loop (ai [1,1,1,0,0] (ag Tryz.f82))) Q e H:=by
 rintro e H Q ⟨most,t,he,hH,hQ⟩
 refine aB (hn:=fun _=>0) aj o4 (.nil _ _ _ _ _) (σ:=Unit) [0,1,2,8,9,10] (fun _=>True)
  (fun _=>[.E,.U t,.fn 83 [],.I 0,.I 0,.I 0]) (fun _=>qi most) (fun _=>0) () trivial he hH ?_
 intro _ _
 exact HR most t _ hQ
theorem Gc (l:List RwI) (J:List PV) (cap:Nat) (most:Int) (t:Int):(by refine(?_:_→_→Prop) (PV.arr 1 0 l.length cap) (PV.I l.length); exact fun g h=>by refine(?_:_→Prop) [Ob.cells [g,.I most],.cells (flI l++J)]; exact fun f=>∀(K:PV→ae→Prop),(∃(l_1:List RwI) (J_1:List PV) (cap_1:Nat) (most_1:Int) (t_1:Int) (p:Nat),by refine(?_:_→_→_→_→Prop) (List.drop (0+Int.toNat (p:Int)*2) (flI l_1++J_1)) (PV.arr 1 0 l_1.length cap_1) (PV.I l_1.length) (l_1.length:Int); exact fun b c d e=>by refine(?_:_→Prop) [Ob.cells [c,.I most_1],.cells (flI l_1++J_1)]; exact fun a=>Lb l_1 t_1 p∧l_1.length≤1000000∧ah [g,.U t,.fn 83 [],h,.I 0,h] [c,.U t_1,.fn 83 [],d,.I 0,d]∧av f a∧br (decide ((p:Int)<e) == true) ((0≤(p:Int)∧(p:Int)<e)∧br (true && aE [.int .u32,.int .i64] 0 b) (∃(r:RwI) (t:Int),ah [.agg [.U (cI b 0),.I (cI b 1)],.U t_1] [.agg [.U r.id,.I r.v],.U t]∧K (.tup [.I p,.bool (ga r.id t == 0)]) a) False) (K (.tup [.I p,.bool false]) a))→AcK 82 [g,.U t,.fn 83 []] f K:Prop):=fun K h=>acW (T:=TCI) (L:=[([1,1,1,0,0],IX)]) (fun _=>0) Tryz.func82 (o4) (.cons suE DU (.nil _ _ _ _ _)) h
theorem IJ (most t:Int)  (K:PV→ae→Prop) (h:∃(most_1:Int) (t_1:Int),ah [.E,.U t,.fn 83 [],.I 0,.I 0,.I 0] [.E,.U t_1,.fn 83 [],.I 0,.I 0,.I 0]∧av [.cells [.E,.I most]] [.cells [.E,.I most_1]]∧K (.tup [.I 0,.bool false]) [.cells [.E,.I most_1]]):AcK 82 [.E,.U t,.fn 83 []] [.cells [.E,.I most]] K:=
 acW (T:=TCI) (L:=[([1,1,1,0,0],Jv)]) (fun _=>0) Tryz.func82 (o4) (.cons suE Br (.nil _ _ _ _ _)) h
def I1 (args:List PV) (H:ae) (K:PV→Prop):Prop:=
 (∃(l:List RwI) (J:List PV) (cap:Nat) (most t:Int),ah args [.arr 1 0 l.length cap,.U t,.fn 83 []]∧av H (gX l J cap most)∧Ok l most∧K (.tup [.I (lbp l t),.bool (has l t)]))∨
 (∃(most t:Int),ah args [.E,.U t,.fn 83 []]∧av H (qi most)∧K (.tup [.I 0,.bool false]))
theorem LD:SpK 82 (.read I1):=by
 rintro args H K (⟨l,J,cap,most,t,he,hH,ok,hk⟩|⟨most,t,he,hH,hk⟩)
 ·have he:args=_:=he
  have hH:H=_:=hH
  subst he
  subst hH
  obtain⟨p,hpe⟩:∃ p,p=lbp l t:=⟨_,rfl⟩
  have hp:Lb l t p:=hpe▸ok.lb t
  unfold has at hk
  rw[← hpe] at hk
  refine⟨_,Gc l J cap most t _ ⟨l,J,cap,most,t,p,hp,ok.len,rfl,rfl,?_⟩,hk⟩
  simp only[au,bt,dt]
  by_cases c:p<l.length
  ·rw[if_pos (by omega)]
   simp only[an,Nat.zero_add]
   rw[pI J c]
   refine⟨⟨by omega,by omega⟩,?_⟩
   rw[if_pos (by rfl)]
   refine⟨l.getD p default,t,rfl,?_,rfl⟩
   unfold wA
   have e:((ga (l.getD p default).id t) == 0)=decide (p<l.length∧(l.getD p default).id=t):=by
    rw[Bool.eq_iff_iff,beq_iff_eq,decide_eq_true_eq]
    unfold ga
    constructor
    ·intro h; refine⟨c,?_⟩; split at h; omega; split at h<;>omega
    ·rintro⟨_,h⟩; rw[if_neg (by omega),if_neg (by omega)]
   rw[e]
  ·rw[if_neg (by omega)]
   unfold wA
   rw[decide_eq_false (fun h=>c h.1)]
   exact⟨rfl,rfl⟩
 ·have he:args=_:=he
  have hH:H=_:=hH
  subst he
  subst hH
  exact⟨_,IJ most t _ ⟨most,t,rfl,rfl,rfl,rfl⟩,hk⟩
def TBI:Tab:=(82,.read I1)::TCI
theorem vE:TbK TBI:= .cons LD o4
theorem Gm (l:List RwI) (J:List PV) (cap:Nat) (most:Int) (t:Int):(by refine(?_:_→_→Prop) [Ob.cells [.arr 1 0 l.length cap,.I most],.cells (flI l++J)] [PV.arr 1 0 l.length cap,.U t,.fn 83 []]; exact fun a b=>∀(K:PV→ae→Prop),((∃(l_1:List RwI) (J_1:List PV) (cap_1:Nat) (most_1:Int) (t_1:Int),ah b [.arr 1 0 l_1.length cap_1,.U t_1,.fn 83 []]∧av a [.cells [.arr 1 0 l_1.length cap_1,.I most_1],.cells (flI l_1++J_1)]∧Ok l_1 most_1∧K (.tup [.I (↑(lbp l_1 t_1):Int),.bool (has l_1 t_1)]) a)∨∃(most_1:Int) (t_1:Int),ah b [.E,.U t_1,.fn 83 []]∧av a [.cells [.E,.I most_1]]∧K (.tup [.I 0,.bool false]) a)→AcK 51 [.ptr 0 0,.U t] a K:Prop):=fun K h=>acW (T:=TBI) (L:=[]) (fun o=>match o.op with| .load t _=>(match t with|116=>1|_=>0)|_=>0) Tryz.func51 (vE) (LOk.nil _ _ _ _ _) h
theorem FT (most t:Int):(by refine(?_:_→_→Prop) [Ob.cells [.E,.I most]] [PV.E,.U t,.fn 83 []]; exact fun a b=>∀(K:PV→ae→Prop),((∃(l:List RwI) (J:List PV) (cap:Nat) (most_1:Int) (t_1:Int),ah b [.arr 1 0 l.length cap,.U t_1,.fn 83 []]∧av a [.cells [.arr 1 0 l.length cap,.I most_1],.cells (flI l++J)]∧Ok l most_1∧K (.tup [.I (↑(lbp l t_1):Int),.bool (has l t_1)]) a)∨∃(most_1:Int) (t_1:Int),ah b [.E,.U t_1,.fn 83 []]∧av a [.cells [.E,.I most_1]]∧K (.tup [.I 0,.bool false]) a)→AcK 51 [.ptr 0 0,.U t] a K:Prop):=fun K h=>acW (T:=TBI) (L:=[]) (fun o=>match o.op with| .load t _=>(match t with|116=>1|_=>0)|_=>0) Tryz.func51 (vE) (LOk.nil _ _ _ _ _) h
def JA (args:List PV) (H:ae) (K:PV→Prop):Prop:=
 ∃(l:List RwI) (most t:Int),ah args [.ptr 0 0,.U t]∧EXI l most H∧Ok l most∧K (.tup [.I (lbp l t),.bool (has l t)])
theorem KV:SpK 51 (.read JA):=by
 rintro args H K ⟨l,most,t,he,hH,ok,hk⟩
 have he:args=_:=he
 subst he
 rcases hH with⟨J,cap,rfl,_,_⟩|⟨rfl,rfl⟩
 ·exact⟨_,Gm l J cap most t _ (.inl ⟨l,J,cap,most,t,rfl,rfl,ok,rfl,rfl⟩),hk⟩
 ·exact⟨_,FT most t _ (.inr ⟨most,t,rfl,rfl,rfl,rfl⟩),hk⟩
def TAI:Tab:=(51,.read JA)::TBI
theorem wj:TbK TAI:= .cons KV vE
theorem w7 {l:List RwI} {J:List PV} {cap:Nat} {most:Int} (h:l.length≤cap) (hJ:aJ J ((cap-l.length)*2)):EXI l most [.cells [.arr 1 0 l.length cap,.I most],.cells (flI l++J)]:= .inl ⟨J,cap,rfl,h,hJ⟩
theorem I5 {most:Int}:EXI [] most [.cells [.E,.I most]]:= .inr ⟨rfl,rfl⟩
theorem Ds (l:List RwI) (J:List PV) (cap:Nat) (most:Int) (t:Int):(by refine(?_:_→_→Prop) [Ob.cells [.arr 1 0 l.length cap,.I most],.cells (flI l++J)] [PV.ptr 0 0,.U t]; exact fun d e=>∀(K:PV→ae→Prop),(∃(l_1:List RwI) (most_1:Int) (t_1:Int),by refine(?_:_→_→Prop) (↑(lbp l_1 t_1):Int) (PV.bool (has l_1 t_1)); exact fun b c=>by refine(?_:_→Prop) (List.drop (0+Int.toNat b*2+1) (flI l++J)); exact fun a=>ah e [.ptr 0 0,.U t_1]∧EXI l_1 most_1 d∧Ok l_1 most_1∧br (has l_1 t_1) ((0≤b∧b<(l.length:Int))∧br (true && aE [.int .i64] 0 a) (K (.tup [.I (cI a 0),c]) d) False) (K (.tup [.I 0,c]) d))→AcK 33 e d K:Prop):=fun K h=>acW (T:=TAI) (L:=[]) (fun o=>match o.op with| .load t _=>(match t with|116=>1|_=>0)|_=>0) Tryz.func33 (wj) (LOk.nil _ _ _ _ _) h
theorem Fx (most t:Int):(by refine(?_:_→_→Prop) [Ob.cells [.E,.I most]] [PV.ptr 0 0,.U t]; exact fun a b=>∀(K:PV→ae→Prop),(∃(l:List RwI) (most_1:Int) (t_1:Int),ah b [.ptr 0 0,.U t_1]∧EXI l most_1 a∧Ok l most_1∧br (has l t_1) (InL [] 2 (↑(lbp l t_1):Int)∧False) (K (.tup [.I 0,.bool (has l t_1)]) a))→AcK 33 b a K:Prop):=fun K h=>acW (T:=TAI) (L:=[]) (fun o=>match o.op with| .load t _=>(match t with|116=>1|_=>0)|_=>0) Tryz.func33 (wj) (LOk.nil _ _ _ _ _) h
def AP (args:List PV) (H:ae) (K:PV→Prop):Prop:=
 ∃(l:List RwI) (most t:Int),ah args [.ptr 0 0,.U t]∧EXI l most H∧Ok l most∧K (.tup [(let v:=bD l t; .I v),.bool (has l t)])
theorem xB:SpK 33 (.read AP):=by
 rintro args H K ⟨l,most,t,he,hH,ok,hk⟩
 have he:args=_:=he
 subst he
 refine⟨_,?_,hk⟩
 rcases hH with⟨J,cap,rfl,hc,hJ⟩|⟨rfl,rfl⟩
 ·refine Ds l J cap most t _ ⟨l,most,t,rfl,w7 hc hJ,ok,?_⟩
  simp only[au]
  unfold bD
  cases c:has l t with
  | true=>
   obtain⟨c1,c2⟩:=fU c
   rw[if_pos rfl,if_pos rfl]
   simp only[an,Nat.zero_add]
   rw[← List.drop_drop,pI J c1]
   exact⟨⟨by omega,by omega⟩,by first|exact⟨rfl,rfl⟩|(rw[if_pos (by rfl)]; exact⟨rfl,rfl⟩)⟩
  | false=>rw[if_neg (by decide),if_neg (by decide)]; exact⟨rfl,rfl⟩
 ·refine Fx most t _ ⟨[],most,t,rfl,I5,ok,?_⟩
  exact⟨rfl,rfl⟩
def TGI:Tab:=(33,.read AP)::TAI
theorem Dz:TbK TGI:= .cons xB wj
theorem Gf:SpK 85 (.ext dJ):=
 iR (t:=116) (e:=122) (b:=true) (sz:=2) Tryz.func85 (by kernel_rfl) (by kernel_rfl) (by kernel_rfl) (by kernel_rfl) (by kernel_rfl) (by kernel_rfl) (by kernel_rfl)
def TII:Tab:=(85,.ext dJ)::TGI
theorem Cr:TbK TII:= .cons Gf Dz
theorem ER (l:List RwI) (J:List PV) (cap:Nat) (most:Int) (r:RwI) (p:Nat):(by refine(?_:_→_→_→_→_→_→_→_→_→Prop) ((p:Int)+(1:Int)) ((l.length:Int)+(1:Int)) (Int.toNat (l.length:Int)-Int.toNat (p:Int)) (Int.toNat (cap:Int)-0) (Ob.cells (flI l++J)) [PV.U r.id,.I r.v] [PV.U 0,.I 0] (Int.toNat (p:Int)-0) (PV.arr 1 0 l.length cap); exact fun h k q s x y A B D=>by refine(?_:_→_→_→_→_→_→Prop) (↑s:Int) (List.take (q*2) (List.drop (if Int.toNat (cap:Int)=Int.toNat (p:Int) then 0 else 0+Int.toNat (p:Int)*2) (flI l++J))) y (Ob.cells [D,.I most]) (wI k-(p:Int)) (Int.toNat (wI k)-0); exact fun g i m n t C=>by refine(?_:_→_→Prop) (↑C:Int) (Int.toNat (p:Int)-0+Int.toNat (wI t)); exact fun d f=>by refine(?_:_→_→_→_→Prop) (Int.toNat d-Int.toNat (p:Int)) (Int.toNat (↑f:Int)-Int.toNat (p:Int)) (Int.toNat (↑f:Int)-Int.toNat (wI h)) (Int.toNat d-Int.toNat (wI h)); exact fun o u w z=>by refine(?_:_→Prop) (List.take (o*2) (List.drop (if Int.toNat g=Int.toNat (p:Int) then if Int.toNat (cap:Int)=0 then 0 else 0 else(if Int.toNat (cap:Int)=0 then 0 else 0)+Int.toNat (p:Int)*2) (flI l++J))); exact fun e=>by refine(?_:_→Prop) (over (flI l++J) (if Int.toNat g=Int.toNat (wI h) then if Int.toNat (cap:Int)=0 then 0 else 0 else(if Int.toNat (cap:Int)=0 then 0 else 0)+Int.toNat (wI h)*2) (List.take (min o z*2) e)); exact fun j=>∀(K:PV→ae→Prop),((0≤(p:Int)∧(p:Int)≤(l.length:Int)∧(l.length:Int)≤(cap:Int)∧(cap:Int)≤(cap:Int))∧br ((p:Int) == (l.length:Int)) ((l.length≤cap∧0+cap*2≤List.length (flI l++J)∧2=2∧List.all m PV.one=true∧(l.length+1)*16≤140737488355328)∧(l.length+1≤cap→K (.arr 1 0 (l.length+1) cap) [n,.cells (over (flI l++J) (0+l.length*2) m)])∧(cap<l.length+1→∀(c:Nat),l.length+1≤c→K (.arr 2 0 (l.length+1) c) [n,x,.cells (List.take (l.length*2) (List.drop 0 (flI l++J))++m++List.flatten (List.replicate (c-(l.length+1)) A))])) (br (decide (wI k>(cap:Int))) ((iI 0≤0∧0≤(p:Int)∧(p:Int)≤(cap:Int)∧(cap:Int)≤(cap:Int))∧(Int.toNat (p:Int)-0≤Int.toNat (cap:Int)-0∧(if Int.toNat (cap:Int)=0 then 0 else 0)+s*2≤List.length (flI l++J)∧0≤wI t∧Int.toNat (cap:Int)-0<Int.toNat (p:Int)-0+Int.toNat (wI t)∧f*16≤140737488355328)∧∀(c:Nat),by refine(?_:_→Prop) (List.take (B*2) (List.drop (if Int.toNat (cap:Int)=0 then 0 else 0) (flI l++J))++List.flatten (List.replicate (c-B) A)); exact fun b=>by refine(?_:_→Prop) (over b (if Int.toNat (c:Int)=Int.toNat (p:Int) then 0 else 0+Int.toNat (p:Int)*2) (List.take (min 1 u*2) m)); exact fun a=>Int.toNat (p:Int)-0+Int.toNat (wI t)≤c→(0≤(p:Int)∧(p:Int)≤(↑f:Int)∧(↑f:Int)≤(c:Int)∧(c:Int)≤(c:Int))∧((if Int.toNat (c:Int)=Int.toNat (p:Int) then 0 else 0+Int.toNat (p:Int)*2)+u*2≤List.length b∧2=2∧List.all m PV.one=true)∧(0≤wI h∧wI h≤(↑f:Int)∧(↑f:Int)≤(c:Int)∧(c:Int)≤(c:Int))∧(0≤(p:Int)∧(p:Int)≤(l.length:Int)∧(l.length:Int)≤(cap:Int)∧(cap:Int)≤(cap:Int))∧(if Int.toNat (cap:Int)=Int.toNat (p:Int) then 0 else 0+Int.toNat (p:Int)*2)+q*2≤List.length (flI l++J)∧((if Int.toNat (c:Int)=Int.toNat (wI h) then 0 else 0+Int.toNat (wI h)*2)+w*2≤List.length a∧List.length i=q*2∧List.all i PV.one=true)∧K (.arr 2 0 f c) [n,x,.cells (over a (if Int.toNat (c:Int)=Int.toNat (wI h) then 0 else 0+Int.toNat (wI h)*2) (List.take (min q w*2) i))]) ((iI 0≤0∧0≤wI k∧wI k≤(cap:Int)∧(cap:Int)≤(cap:Int))∧(0≤wI h∧wI h≤d∧d≤g∧g≤g)∧y≠[]∧(flI l++J=[]→False)∧(0≤wI h∧wI h≤d∧d≤g∧g≤g)∧(0≤(p:Int)∧(p:Int)≤d∧d≤g∧g≤g)∧(if Int.toNat g=Int.toNat (p:Int) then if Int.toNat (cap:Int)=0 then 0 else 0 else(if Int.toNat (cap:Int)=0 then 0 else 0)+Int.toNat (p:Int)*2)+o*2≤List.length (flI l++J)∧((if Int.toNat g=Int.toNat (wI h) then if Int.toNat (cap:Int)=0 then 0 else 0 else(if Int.toNat (cap:Int)=0 then 0 else 0)+Int.toNat (wI h)*2)+z*2≤List.length (flI l++J)∧List.length e=o*2∧List.all e PV.one=true)∧(0≤(p:Int)∧(p:Int)≤d∧d≤g∧g≤g)∧((if Int.toNat g=Int.toNat (p:Int) then if Int.toNat (cap:Int)=0 then 0 else 0 else(if Int.toNat (cap:Int)=0 then 0 else 0)+Int.toNat (p:Int)*2)+o*2≤List.length j∧2=2∧List.all m PV.one=true)∧K (.arr 1 (if Int.toNat (cap:Int)=0 then 0 else 0) C s) [n,.cells (over j (if Int.toNat g=Int.toNat (p:Int) then if Int.toNat (cap:Int)=0 then 0 else 0 else(if Int.toNat (cap:Int)=0 then 0 else 0)+Int.toNat (p:Int)*2) (List.take (min 1 o*2) m))])))→AcK 52 [D,.I p,.list [csI r] .exact] [n,x] K:Prop):=fun K h=>acW (T:=TII) (L:=[]) (fun o=>match o.op with| .load t _=>(match t with|116=>1|_=>0)|_=>match o.dst with|some 25=>2|_=>0) Tryz.func52 (Cr) (LOk.nil _ _ _ _ _) h
theorem Ec (most:Int) (r:RwI)  (K:PV→ae→Prop) (h:(iI 0≤0∧iI 0≤0∧iI 0≤0∧iI 0≤0∧uni 2 [])∧2=2∧16≤140737488355328∧0<1∧∀(c:Nat),1≤c→K (.arr 1 0 1 c) [.cells [.E,.I most],.cells ([.U (Rw.id r),.I (Rw.v r)]++List.flatten (List.replicate (c-1) [.U 0,.I 0]))]):AcK 52 [.E,.I 0,.list [csI r] .exact] [.cells [.E,.I most]] K:=
 acW (T:=TII) (L:=[]) (fun o=>match o.op with| .load t _=>(match t with|116=>1|_=>0)|_=>match o.dst with|some 25=>2|_=>0) Tryz.func52 (Cr) (LOk.nil _ _ _ _ _) h
def EA (args:List PV) (H:ae) (K:PV→ae→Prop):Prop:=
 (∃(l:List RwI) (J:List PV) (cap:Nat) (most:Int) (r:RwI) (p:Nat),ah args [.arr 1 0 l.length cap,.I p,.list [csI r] .exact]∧av H (gX l J cap most)∧p≤l.length∧l.length≤1000000∧l.length≤cap∧aJ J ((cap-l.length)*2)∧
  (∀(J':List PV),l.length+1≤cap→aJ J' ((cap-(l.length+1))*2)→K (.arr 1 0 (l.length+1) cap) [.cells [.arr 1 0 l.length cap,.I most],.cells (flI (bw l p r)++J')])∧
  (∀(c:Nat),l.length+1≤c→∀(J':List PV),aJ J' ((c-(l.length+1))*2)→K (.arr 2 0 (l.length+1) c) [.cells [.arr 1 0 l.length cap,.I most],.cells (flI l++J),.cells (flI (bw l p r)++J')]))∨
 (∃(most:Int) (r:RwI),ah args [.E,.I 0,.list [csI r] .exact]∧av H (qi most)∧
  ∀(c:Nat),1≤c→∀(J':List PV),aJ J' ((c-1)*2)→K (.arr 1 0 1 c) [.cells [.E,.I most],.cells (csI r++J')])
def zrI:List PV:=[.U 0,.I 0]
theorem oD (n:Nat):aJ (List.replicate n zrI).flatten (n*2):=
 aJ.qy (z:=zrI) (by intro y hy; simp only[zrI,List.mem_cons,List.not_mem_nil,or_false] at hy; rcases hy with rfl|rfl<;>rfl) (by intro y hy; simp only[zrI,List.mem_cons,List.not_mem_nil,or_false] at hy; rcases hy with rfl|rfl<;>first|exact .int _ _|exact .str _) n
theorem Hh:SpK 52 (.heap EA):=by
 rintro args H K (⟨l,J,cap,most,r,p,he,hH,hp,hl,hc,hJ,hk1,hk2⟩|⟨most,r,he,hH,hk⟩)
 ·have he:args=_:=he
  have hH:H=_:=hH
  subst he
  subst hH
  have hlen:(flI l++J).length=cap*2:=by rw[List.length_append,lA,hJ.len,← Nat.add_mul]; congr 1; omega
  have hone:(flI l++J).all PV.one=true:=List.all_eq_true.2 (xH l hJ.one)
  refine ER l J cap most r p K ?_
  refine⟨⟨by omega,by omega,by omega,by omega⟩,?_⟩
  rw[au]
  by_cases c1:p=l.length
  ·rw[if_pos (by simp[c1])]
   subst c1
   refine⟨⟨hc,by rw[hlen]; omega,rfl,rfl,by omega⟩,fun h=>?_,fun h c hcc=>?_⟩
   ·have:=hk1 (J.drop 2) h (hJ.drop.cast (by omega))
    rw[← nV eY r (by rw[hJ.len]; omega)] at this
    rw[Nat.zero_add]
    exact this
   ·have:=hk2 c hcc _ (oD (c-(l.length+1)))
    rw[jF] at this
    rw[List.drop_zero,fi eY J l l.length (Nat.le_refl _),List.take_length]
    simp only[flI,List.map_append,List.flatten_append,List.map_cons,List.map_nil,List.flatten_cons,List.flatten_nil,List.append_nil] at this
    exact this
  ·rw[if_neg (by simp; omega),au]
   have e1:wI ((l.length:Int)+1)=((l.length+1:Nat):Int):=by rw[aD (by omega) (by omega)]; rfl
   have e2:wI (((l.length+1:Nat):Int)-(p:Int))=((l.length+1-p:Nat):Int):=by rw[aD (by omega) (by omega)]; omega
   have e3:wI ((p:Int)+1)=((p+1:Nat):Int):=by rw[aD (by omega) (by omega)]; rfl
   have e4:p+(l.length+1-p)=l.length+1:=by omega
   simp only[e1,e2,e3,e4,an,Nat.sub_zero,Nat.zero_add,List.drop_zero,ite_self]
   have t1:List.take (p*2) (flI l++J)=flI (l.take p):=fi eY J l p hp
   have t2:List.take ((l.length-p)*2) (List.drop (p*2) (flI l++J))=flI (l.drop p):=by
    rw[fc eY J l p hp,List.take_left']
    rw[lA,List.length_drop]
   have t3:min 1 (l.length+1-p)=1:=by omega
   have t5:(flI (l.drop p)).length=(l.length-p)*2:=by rw[lA,List.length_drop]
   have t6:(flI (l.drop p)).all PV.one=true:=by
    have:=xH (l.drop p) (J:=[]) (fun _ h=>nomatch h)
    rw[List.append_nil] at this
    exact List.all_eq_true.2 this
   have t7:(flI (l.take p)).length=p*2:=by rw[lA,List.length_take,Nat.min_eq_left hp]
   by_cases c2:cap<l.length+1
   ·rw[if_pos (decide_eq_true (by omega))]
    have n3:¬ cap=p:=by omega
    refine⟨⟨by decide,by omega,by omega,by omega⟩,⟨by omega,by omega,by omega,by omega,by omega⟩,fun c hcc=>?_⟩
    have t4:min (l.length-p) (l.length+1-(p+1))=l.length-p:=by omega
    have n1:¬ c=p:=by omega
    have n2:¬ c=p+1:=by omega
    have hZ:=oD (c-p)
    have t9:(flI (l.take p)++(List.replicate (c-p) zrI).flatten).length=c*2:=by rw[List.length_append,t7,hZ.len,← Nat.add_mul]; congr 1; omega
    simp only[if_neg n1,if_neg n2,if_neg n3,t1,t2,t3,t4,t5,t6]
    refine⟨⟨by omega,by omega,by omega,by omega⟩,⟨Nat.le_trans (show _≤c*2 by omega) (Nat.le_of_eq t9.symm),trivial,rfl⟩,⟨by omega,by omega,by omega,by omega⟩,⟨by omega,by omega,by omega,by omega⟩,by omega,⟨?_,trivial,trivial⟩,?_⟩
    ·have t10:(over (flI (l.take p)++(List.replicate (c-p) zrI).flatten) (p*2) (csI r)).length=c*2:=by rw[bE (by rw[t9,eY]; omega),t9]
     exact Nat.le_trans (show _≤c*2 by omega) (Nat.le_of_eq t10.symm)
    ·have:=hk2 c (by omega) _ ((hZ.drop (k:=(l.length+1-p)*2)).cast (by omega))
     rw[← pe eY r hp (by rw[hZ.len]; omega)] at this
     rw[List.take_of_length_le (Nat.le_of_eq t5)]
     exact this
   ·rw[if_neg (by simp; omega)]
    have n3:¬ cap=p:=by omega
    have n4:¬ cap=p+1:=by omega
    have t9:min (l.length+1-p) (l.length+1-(p+1))=l.length-p:=by omega
    have t10:List.take ((l.length-p)*2) (List.take ((l.length+1-p)*2) (List.drop (p*2) (flI l++J)))=List.take ((l.length-p)*2) (List.drop (p*2) (flI l++J)):=by rw[List.take_take,Nat.min_eq_left (by omega)]
    simp only[if_neg n3,if_neg n4,t3,t9,t10]
    have t11:(List.take ((l.length+1-p)*2) (List.drop (p*2) (flI l++J))).length=(l.length+1-p)*2:=by rw[List.length_take,List.length_drop,hlen]; omega
    have t12:(List.take ((l.length+1-p)*2) (List.drop (p*2) (flI l++J))).all PV.one=true:=List.all_eq_true.2 fun y hy=>List.all_eq_true.1 hone y (List.mem_of_mem_drop (List.mem_of_mem_take hy))
    have t13:(over (flI l++J) ((p+1)*2) (List.take ((l.length-p)*2) (List.drop (p*2) (flI l++J)))).length=cap*2:=by rw[bE (by rw[t2,t5,hlen]; omega),hlen]
    refine⟨⟨by decide,by omega,by omega,by omega⟩,⟨by omega,by omega,by omega,by omega⟩,List.cons_ne_nil _ _,fun h=>?_,⟨by omega,by omega,by omega,by omega⟩,⟨by omega,by omega,by omega,by omega⟩,by omega,⟨by omega,t11,t12⟩,⟨by omega,by omega,by omega,by omega⟩,⟨by omega,trivial,rfl⟩,?_⟩
    ·rw[h] at hlen; simp only[List.length_nil] at hlen; omega
    ·have:=hk1 (J.drop 2) (by omega) (hJ.drop.cast (by omega))
     rw[← rJ eY r (by omega) (by rw[hJ.len]; omega)] at this
     exact this
 ·have he:args=_:=he
  have hH:H=_:=hH
  subst he
  subst hH
  exact Ec most r K ⟨⟨by decide,by decide,by decide,by decide,fun _ h=>nomatch h⟩,rfl,by decide,by decide,fun c hc=>hk c hc _ (oD (c-1))⟩
def TPI:Tab:=(52,.heap EA)::TGI
theorem B4:TbK TPI:= .cons Hh Dz
theorem CM (l:List RwI) (J:List PV) (cap:Nat) (most:Int) (t:Int) (v:Int):(by refine(?_:_→Prop) (PV.arr 1 0 l.length cap); exact fun g=>by refine(?_:_→Prop) [g,.I most]; exact fun f=>by refine(?_:_→Prop) [Ob.cells f,.cells (flI l++J)]; exact fun e=>∀(K:PV→ae→Prop),(br (!aC t) (K (.I 14) e) (∃(l_1:List RwI) (most_1:Int) (t_1:Int),by refine(?_:_→Prop) (↑(lbp l_1 t_1):Int); exact fun a=>by refine(?_:_→_→Prop) [g,.I a,.list [[PV.U t,.I v]] .exact] (0+Int.toNat a*2+1); exact fun b d=>ah [.ptr 0 0,.U t] [.ptr 0 0,.U t_1]∧EXI l_1 most_1 e∧Ok l_1 most_1∧br (has l_1 t_1) ((0≤a∧a<(l.length:Int))∧br (1 == 1 && List.all [.I v] PV.one && decide (0+Int.toNat a*2+1+1≤List.length (flI l++J)) && cQ 0 1 d 1) (K (.I 0) [.cells f,.cells (over (flI l++J) d [.I v])]) False) (br (decide ((l.length:Int)≥most)) (K (.I 10) e) ((∃(l_2:List RwI) (J_1:List PV) (cap_1:Nat) (most_2:Int) (r:RwI) (p:Nat),ah b [.arr 1 0 l_2.length cap_1,.I p,.list [[PV.U r.id,.I r.v]] .exact]∧av e [.cells [.arr 1 0 l_2.length cap_1,.I most_2],.cells (flI l_2++J_1)]∧p≤l_2.length∧l_2.length≤1000000∧l_2.length≤cap_1∧aJ J_1 ((cap_1-l_2.length)*2)∧(∀(J':List PV),l_2.length+1≤cap_1→aJ J' ((cap_1-(l_2.length+1))*2)→K (.I 0) [.cells [.arr 1 0 (l_2.length+1) cap_1,.I most_2],.cells (flI (bw l_2 p r)++J')])∧∀(c:Nat),l_2.length+1≤c→∀(J':List PV),aJ J' ((c-(l_2.length+1))*2)→K (.I 0) [.cells [.arr 2 0 (l_2.length+1) c,.I most_2],.cells (flI l_2++J_1),.cells (flI (bw l_2 p r)++J')])∨∃(most_2:Int) (r:RwI),ah b [.E,.I 0,.list [[PV.U r.id,.I r.v]] .exact]∧av e [.cells [.E,.I most_2]]∧∀(c:Nat),1≤c→∀(J':List PV),aJ J' ((c-1)*2)→K (.I 0) [.cells [.arr 1 0 1 c,.I most_2],.cells ([.U r.id,.I r.v]++J')]))))→AcK 22 [.ptr 0 0,.U t,.I v] e K:Prop):=fun K h=>acW (T:=TPI) (L:=[]) (fun o=>match o.op with| .load t _=>(match t with|116=>1|_=>0)|_=>0) Tryz.func22 (B4) (LOk.nil _ _ _ _ _) h
theorem Er (most t:Int) (v:Int):(by refine(?_:_→Prop) [Ob.cells [.E,.I most]]; exact fun d=>∀(K:PV→ae→Prop),(br (!aC t) (K (.I 14) d) (∃(l:List RwI) (most_1:Int) (t_1:Int),by refine(?_:_→Prop) (↑(lbp l t_1):Int); exact fun b=>by refine(?_:_→Prop) [PV.E,.I b,.list [[PV.U t,.I v]] .exact]; exact fun a=>ah [.ptr 0 0,.U t] [.ptr 0 0,.U t_1]∧EXI l most_1 d∧Ok l most_1∧br (has l t_1) (InL [] 2 b∧False) (br (decide (0≥most)) (K (.I 10) d) ((∃(l_1:List RwI) (J:List PV) (cap:Nat) (most_2:Int) (r:RwI) (p:Nat),ah a [.arr 1 0 l_1.length cap,.I p,.list [[PV.U r.id,.I r.v]] .exact]∧av d [.cells [.arr 1 0 l_1.length cap,.I most_2],.cells (flI l_1++J)]∧p≤l_1.length∧l_1.length≤1000000∧l_1.length≤cap∧aJ J ((cap-l_1.length)*2)∧(∀(J':List PV),l_1.length+1≤cap→aJ J' ((cap-(l_1.length+1))*2)→K (.I 0) [.cells [.arr 1 0 (l_1.length+1) cap,.I most_2],.cells (flI (bw l_1 p r)++J')])∧∀(c:Nat),l_1.length+1≤c→∀(J':List PV),aJ J' ((c-(l_1.length+1))*2)→K (.I 0) [.cells [.arr 2 0 (l_1.length+1) c,.I most_2],.cells (flI l_1++J),.cells (flI (bw l_1 p r)++J')])∨∃(most_2:Int) (r:RwI),ah a [.E,.I 0,.list [[PV.U r.id,.I r.v]] .exact]∧av d [.cells [.E,.I most_2]]∧∀(c:Nat),1≤c→∀(J':List PV),aJ J' ((c-1)*2)→K (.I 0) [.cells [.arr 1 0 1 c,.I most_2],.cells ([.U r.id,.I r.v]++J')]))))→AcK 22 [.ptr 0 0,.U t,.I v] d K:Prop):=fun K h=>acW (T:=TPI) (L:=[]) (fun o=>match o.op with| .load t _=>(match t with|116=>1|_=>0)|_=>0) Tryz.func22 (B4) (LOk.nil _ _ _ _ _) h
theorem BU {l:List RwI} {J:List PV} {cap:Nat} {most:Int} (h:∀ y∈J,Low 2 y):∀(o:Nat) cs,(gX l J cap most)[o]?=some (.cells cs)→∀ x∈cs,Low (gX l J cap most).length x:=by
 intro o cs ho x hx
 have e1:=(List.getElem?_eq_some_iff.1 ho).1
 simp[gX] at e1
 rcases Nat.eq_zero_or_pos o with rfl|h0
 ·cases ho
  simp only[List.mem_cons,List.not_mem_nil,or_false] at hx
  rcases hx with rfl|rfl
  ·exact .arr _ _ _ _ (by simp[gX])
  ·exact .int _ _
 ·have:o=1:=by omega
  subst this
  cases ho
  exact w6 l h x hx
def rkI (l:List RwI) (most:Int):Rep:=whole (EXI l most)
theorem jx {l:List RwI} {J:List PV} {cap:Nat} {most:Int} {T:ae} {k:Nat} (hk:T[k]?=some (.cells (flI l++J))) (h:l.length≤cap) (hJ:aJ J ((cap-l.length)*2)):ed (EXI l most) (.cells [.arr (k+1) 0 l.length cap,.I most]::T):=
 ⟨gX l J cap most,_,w9 hk (fun y hy=>by rcases List.mem_singleton.1 hy with rfl; exact .int _ _) (w6 l hJ.low),rfl,.inl ⟨J,cap,rfl,h,hJ⟩,od⟩
theorem lX {most:Int} {T:ae}:ed (EXI [] most) (.cells [.E,.I most]::T):=
 ⟨qi most,_,sub_one T (fun y hy=>by simp only[List.mem_cons,List.not_mem_nil,or_false] at hy; rcases hy with rfl|rfl; exact aH NT.exact (fun _ h=>nomatch h); exact .int _ _),rfl,.inr ⟨rfl,rfl⟩,od⟩
theorem pN {l:List RwI} {most:Int} {H:ae} (h:EXI l most H):ed (EXI l most) H:=by
 rcases h with⟨J,cap,rfl,hc,hJ⟩|⟨rfl,rfl⟩
 ·exact jx (k:=0) rfl hc hJ
 ·exact lX
theorem Nq {l:List RwI} {J:List PV} {p:Nat} {t:Int} {v:Int} (hp:p<l.length) (ht:(l.getD p default).id=t):over (flI l++J) (p*2+1) (let r:RwI:=⟨t,v⟩; [.I r.v])=flI (l.set p ⟨t,v⟩)++J:=by
 have e1:flI l++J=(flI (l.take p)++[.U t])++(let r:RwI:=l.getD p default; [.I r.v])++(flI (l.drop (p+1))++J):=by
  unfold flI
  rw[fY l p,List.drop_eq_getElem_cons hp,List.map_cons,List.flatten_cons,← ht,bg hp]
  simp[csI]
 rw[ct e1 (by rw[List.length_append,bA eY,List.length_take,Nat.min_eq_left (by omega)]; rfl) (by rfl),List.set_eq_take_append_cons_drop,if_pos hp]
 simp[flI,csI]
def JV (args:List PV) (H:ae) (K:PV→ae→Prop):Prop:=
 ∃(l:List RwI) (most t:Int) (v:Int),ah args [.ptr 0 0,.U t,.I v]∧EXI l most H∧Ok l most∧∀(H':ae),ed (EXI (cV l most t v).1 most) H'→K (.I (cV l most t v).2) H'
theorem Im:SpK 22 (.heap JV):=by
 rintro args H K ⟨l,most,t,v,he,hH,ok,hk⟩
 have he:args=_:=he
 subst he
 unfold cV at hk
 rcases hH with⟨J,cap,rfl,hc,hJ⟩|⟨rfl,rfl⟩
 ·have hlen:(flI l++J).length=cap*2:=by rw[List.length_append,lA,hJ.len,← Nat.add_mul]; congr 1; omega
  refine CM l J cap most t v K ?_
  rw[au]
  by_cases c:aC t=true
  ·rw[if_neg (by simp[c])]
   rw[if_pos c] at hk
   refine⟨l,most,t,rfl,w7 hc hJ,ok,?_⟩
   simp only[au]
   by_cases c2:has l t=true
   ·rw[if_pos c2]
    rw[if_pos c2] at hk
    obtain⟨h1,h2⟩:=fU c2
    refine⟨⟨by omega,by omega⟩,?_⟩
    simp only[an,Nat.zero_add]
    rw[if_pos (by rw[decide_eq_true (by rw[hlen]; omega)]; rfl)]
    have h3:=jx (most:=most) (l:=l.set (lbp l t) ⟨t,v⟩) (J:=J) (cap:=cap) (k:=0) (T:=[.cells (flI (l.set (lbp l t) ⟨t,v⟩)++J)]) rfl (by simpa using hc) (by simpa using hJ)
    rw[List.length_set,← Nq h1 h2] at h3
    exact hk _ h3
   ·rw[if_neg c2]
    rw[if_neg c2] at hk
    by_cases c3:(l.length:Int)≥most
    ·rw[if_pos (decide_eq_true c3)]
     rw[if_pos c3] at hk
     exact hk _ (pN (w7 hc hJ))
    ·rw[if_neg (by simpa using c3)]
     rw[if_neg c3] at hk
     have hi:(bw l (lbp l t) ⟨t,v⟩).length=l.length+1:=fH (rC l t)
     refine .inl ⟨l,J,cap,most,⟨t,v⟩,lbp l t,rfl,rfl,rC l t,ok.len,hc,hJ,fun J' h1 h2=>?_,fun c h1 J' h2=>?_⟩
     ·rw[← hi]
      exact hk _ (jx (k:=0) rfl (by rw[hi]; exact h1) (by rw[hi]; exact h2))
     ·have:=hk _ (jx (l:=bw l (lbp l t) ⟨t,v⟩) (J:=J') (cap:=c) (most:=most) (k:=1) (T:=[.cells (flI l++J),.cells (flI (bw l (lbp l t) ⟨t,v⟩)++J')]) rfl (by rw[hi]; exact h1) (by rw[hi]; exact h2))
      rw[hi] at this
      exact this
  ·rw[if_pos (by simpa using c)]
   rw[if_neg c] at hk
   exact hk _ (pN (w7 hc hJ))
 ·refine Er most t v K ?_
  rw[au]
  by_cases c:aC t=true
  ·rw[if_neg (by simp[c])]
   rw[if_pos c,ol,if_neg (by decide)] at hk
   refine⟨[],most,t,rfl,I5,ok,?_⟩
   rw[ol]
   simp only[au]
   rw[if_neg (by decide)]
   by_cases c3:0≥most
   ·rw[if_pos (decide_eq_true c3)]
    rw[if_pos (by simpa using c3)] at hk
    exact hk _ lX
   ·rw[if_neg (by simpa using c3)]
    rw[if_neg (by simpa using c3)] at hk
    refine .inr ⟨most,⟨t,v⟩,rfl,rfl,fun c hc J' hJ=>?_⟩
    exact hk _ (jx (l:=[⟨t,v⟩]) (k:=0) rfl hc hJ)
  ·rw[if_pos (by simpa using c)]
   rw[if_neg c] at hk
   exact hk _ lX
theorem ID (n:Int)  (K:PV→ae→Prop) (h:K (.ptr 0 0) [.cells [.E,.I (mxI 0 n)]]):AcK 20 [.I n] [] K:=
 acW (T:=[]) (L:=[]) (fun _=>0) Tryz.func20 (aW.nil _ _) (LOk.nil _ _ _ _ _) h
theorem C4 (l:List RwI) (J:List PV) (cap:Nat) (most:Int):(by refine(?_:_→_→_→_→Prop) (List.drop 0 (flI l++J)) (PV.arr 1 0 l.length cap) (Ob.cells (flI l++J)) (PV.I l.length); exact fun a b g h=>by refine(?_:_→_→_→_→Prop) [PV.ptr 0 0,.E,b,h,.I 0] (Ob.cells [b,.I most]) [[PV.U (cI a 0)]] (PV.U (cI a 0)); exact fun c d f i=>∀(R:Ex→List PV→ae→Prop),(br (decide (0<(l.length:Int))) ((iI 0≤0∧0<(l.length:Int))∧br (true && aE [.int .u32,.int .i64] 0 a) (aG [] f 1 4∧(List.all [i] PV.one=true∧f≠[])∧R .normal [.ptr 0 0,.list f (.tok 3),b,h,.I 1] [d,g,.cells [i,.I (cI a 1)],.tok]) False) (R (.exit 0) c [d,g]))→Holds (wpK [] [] (fun o=>match o.op with| .load t _=>(match t with|116=>1|_=>0)|_=>match o.dst with|some 21=>1|_=>0) (ai [1,1,0,1,0,1,0] (ag Tryz.f30)) [] (ak [0,3,11,12,13] c) [d,g] (fun ex e H=>R ex (List.map e [0,3,11,12,13]) H)):Prop):=fun R h=>hoE h
theorem BC (l:List RwI) (J:List PV) (cap:Nat) (most:Int) (es:List (List PV)) (i:Nat):(by refine(?_:_→_→_→_→Prop) (List.drop (0+Int.toNat (i:Int)*2) (flI l++J)) (PV.arr 1 0 l.length cap) (Ob.cells (flI l++J)) (PV.I l.length); exact fun a b h j=>by refine(?_:_→_→_→_→Prop) [PV.ptr 0 0,.list es (.tok 2),b,j,.I i] [[PV.U (cI a 0)]] [b,.I most] (PV.U (cI a 0)); exact fun c f g k=>by refine(?_:_→Prop) [Ob.cells g,h,.tok]; exact fun d=>∀(R:Ex→List PV→ae→Prop),(br (decide ((i:Int)<(l.length:Int))) ((0≤(i:Int)∧(i:Int)<(l.length:Int))∧br (true && aE [.int .u32,.int .i64] 0 a) (aG es f 1 4∧(List.all [k] PV.one=true∧f≠[])∧R .normal [.ptr 0 0,.list (es++f) (.tok 4),b,j,.I (wI ((i:Int)+1))] [.cells g,h,.dead,.cells [k,.I (cI a 1)],.tok]) False) (R (.exit 0) c d))→Holds (wpK [] [] (fun o=>match o.op with| .load t _=>(match t with|116=>1|_=>0)|_=>match o.dst with|some 21=>1|_=>0) (ai [1,1,0,1,0,1,0] (ag Tryz.f30)) [] (ak [0,3,11,12,13] c) d (fun ex e H=>R ex (List.map e [0,3,11,12,13]) H)):Prop):=fun R h=>hoE h
theorem Fm (most:Int):(by refine(?_:_→_→Prop) [PV.ptr 0 0,.E,.E,.I 0,.I 0] [Ob.cells [.E,.I most]]; exact fun a b=>∀(R:Ex→List PV→ae→Prop),(R (.exit 0) a b)→Holds (wpK [] [] (fun o=>match o.op with| .load t _=>(match t with|116=>1|_=>0)|_=>0) (ai [1,1,0,1,0,1,0] (ag Tryz.f30)) [] (ak [0,3,11,12,13] a) b (fun ex e H=>R ex (List.map e [0,3,11,12,13]) H)):Prop):=fun R h=>hoE h
theorem Nd (l:List RwI):uni 1 (bS l):=by
 intro e he
 obtain⟨a,_,rfl⟩:=List.mem_map.1 he
 rfl
theorem mC {l:List RwI} {i:Nat} (h:i<l.length):bS (l.take (i+1))=bS (l.take i)++[[.U (l.getD i default).id]]:=by
 unfold bS
 rw[← List.take_append_getElem h,List.map_append,bg h]; rfl
def EI:LSp:=fun e H Q=>∃(l:List RwI) (J:List PV) (cap:Nat) (most:Int),l.length≤1000000∧(∀ y∈J,Low 2 y)∧ah (List.map e [0,3,11,12,13]) [.ptr 0 0,.E,.arr 1 0 l.length cap,.I l.length,.I 0]∧av H (gX l J cap most)∧
 Q (.exit 0) (ak [0,3,11,12,13] [.ptr 0 0,.list (bS l) .no,.arr 1 0 l.length cap,.I l.length,.I l.length]) (gX l J cap most++[.dead])
theorem yQ:∀ e H Q,EI e H Q→AwK Tryz.f30.ntmps (.loop (ai [1,1,0,1,0,1,0] (ag Tryz.f30))) Q e H:=by
 rintro e H Q ⟨l,J,cap,most,hl,hJ,he,hH,hQ⟩
 have hH2:H=gX l J cap most:=hH
 refine sF (f:=fun r:RwI=>[PV.U r.id]) (T:=l) (hn:=fun o=>match o.op with| .load t _=>(match t with|116=>1|_=>0)|_=>match o.dst with|some 21=>1|_=>0) aj (.nil _ _) (.nil _ _ _ _ _) [0,3,11,12,13] (fun r i=>[.ptr 0 0,r,.arr 1 0 l.length cap,.I l.length,.I i]) (gX l J cap most)
  (BU hJ) (fun b _ x hx=>by rcases List.mem_singleton.1 hx with rfl; exact .int _ _)
  (fun es i k h=> .same (.ptr _ _ (by simp[gX])) (.row h (.same (.arr _ _ _ _ (by simp[gX])) (.same (.int _ _) (.same (.int _ _) .nil))))) he hH2 ?_ ?_
 ·refine C4 l J cap most _ ?_
  simp only[au,dt]
  by_cases h:0<l.length
  ·rw[if_pos (by omega)]
   refine⟨⟨by decide,by omega⟩,?_⟩
   have e0:=pI J h
   rw[Nat.zero_mul] at e0
   rw[e0,if_pos (by rfl)]
   refine⟨⟨(by intro e he; simp at he),(by intro e he; simp at he; subst he; rfl),by simp⟩,⟨by rfl,by simp⟩,h,_,3,rfl,rfl,by simp[gX],?_⟩
   have:=mC h
   unfold bS at this
   rw[this]; rfl
  ·rw[if_neg (by omega)]
   have hm:l=[]:=List.eq_nil_of_length_eq_zero (by omega)
   subst hm
   exact⟨_,_,.cons (.refl _) (.cons (.list _ _) (.cons (.refl _) (.cons (.refl _) (.cons (.refl _) .nil)))),dN _,hQ⟩
 ·intro i h0 hi
  refine BC l J cap most (bS (l.take i)) i _ ?_
  simp only[au,dt,an,Nat.zero_add]
  by_cases h:i<l.length
  ·rw[if_pos (by omega)]
   refine⟨⟨by omega,by omega⟩,?_⟩
   rw[pI J h,if_pos (by rfl)]
   refine⟨⟨Nd _,(by intro e he; simp at he; subst he; rfl),by simp only[bS,List.length_map,List.length_take,List.length_cons,List.length_nil]; omega⟩,⟨by rfl,by simp⟩,h,_,4,rfl,rfl,by simp[gX],?_⟩
   have:=mC h
   unfold bS at this
   rw[this,ar h (by omega)]; rfl
  ·rw[if_neg (by omega)]
   have hm:i=l.length:=by omega
   subst hm
   rw[List.take_length]
   exact⟨_,_,.cons (.refl _) (.cons (.list _ _) (.cons (.refl _) (.cons (.refl _) (.cons (.refl _) .nil)))),ej (gX l J cap most) .tok,hQ⟩
def EB:LSp:=fun e H Q=>∃(most:Int),ah (List.map e [0,3,11,12,13]) [.ptr 0 0,.E,.E,.I 0,.I 0]∧av H (qi most)∧
 Q (.exit 0) (ak [0,3,11,12,13] [.ptr 0 0,.E,.E,.I 0,.I 0]) (qi most)
theorem zC:∀ e H Q,EB e H Q→AwK Tryz.f30.ntmps (.loop (ai [1,1,0,1,0,1,0] (ag Tryz.f30))) Q e H:=by
 rintro e H Q ⟨most,he,hH,hQ⟩
 refine aB (hn:=fun o=>match o.op with| .load t _=>(match t with|116=>1|_=>0)|_=>0) aj (.nil _ _) (.nil _ _ _ _ _) (σ:=Unit) [0,3,11,12,13] (fun _=>True)
  (fun _=>[.ptr 0 0,.E,.E,.I 0,.I 0]) (fun _=>qi most) (fun _=>0) () trivial he hH ?_
 intro _ _
 exact Fm most _ hQ
theorem EM (l:List RwI) (J:List PV) (cap:Nat) (most:Int):(by refine(?_:_→Prop) (PV.arr 1 0 l.length cap); exact fun e=>by refine(?_:_→Prop) [Ob.cells [e,.I most],.cells (flI l++J)]; exact fun d=>∀(K:PV→ae→Prop),(∃(l_1:List RwI) (J_1:List PV) (cap_1:Nat) (most_1:Int),by refine(?_:_→_→Prop) (PV.arr 1 0 l_1.length cap_1) (Ob.cells (flI l_1++J_1)); exact fun b c=>by refine(?_:_→Prop) (Ob.cells [b,.I most_1]); exact fun a=>l_1.length≤1000000∧(∀(y:PV),y∈J_1→Low 2 y)∧ah [.ptr 0 0,.E,e,.I l.length,.I 0] [.ptr 0 0,.E,b,.I l_1.length,.I 0]∧av d [a,c]∧K (.list (bS l_1) .no) [a,c,.dead])→AcK 30 [.ptr 0 0] d K:Prop):=fun K h=>acW (T:=[]) (L:=[([1,1,0,1,0,1,0],EI)]) (fun o=>match o.op with| .load t _=>(match t with|116=>1|_=>0)|_=>0) Tryz.func30 (aW.nil _ _) (.cons suE yQ (.nil _ _ _ _ _)) h
theorem Fv (most:Int):(by refine(?_:_→_→Prop) [PV.ptr 0 0,.E,.E,.I 0,.I 0] [Ob.cells [.E,.I most]]; exact fun b c=>∀(K:PV→ae→Prop),(∃(most_1:Int),by refine(?_:_→Prop) [Ob.cells [.E,.I most_1]]; exact fun a=>ah b b∧av c a∧K (.E) a)→AcK 30 [.ptr 0 0] c K:Prop):=fun K h=>acW (T:=[]) (L:=[([1,1,0,1,0,1,0],EB)]) (fun o=>match o.op with| .load t _=>(match t with|116=>1|_=>0)|_=>0) Tryz.func30 (aW.nil _ _) (.cons suE zC (.nil _ _ _ _ _)) h
theorem MI {l:List RwI} {most:Int} {hh:ae} (hH:EXI l most hh) (ok:Ok l most):AcK 30 [.ptr 0 0] hh (fun x H'=>x = .list (bS l) .no∧ed (EXI l most) H'):=by
 rcases hH with⟨J,cap,rfl,hc,hJ⟩|⟨rfl,rfl⟩
 ·exact EM l J cap most _ ⟨l,J,cap,most,ok.len,Mw hJ,rfl,rfl,rfl,jx (k:=0) rfl hc hJ⟩
 ·exact ij (Fv most _ ⟨most,rfl,rfl,_,_,.list _ _,.refl _,rfl,lX⟩)
def oL (args:List PV) (H:ae) (K:PV→Prop):Prop:=∃(q:Nat) (l:List RwI) (most t:Int),ah args [.ptr q 0,.U t]∧bR H q (rkI l most)∧Ok l most∧K (.tup [(let v:=bD l t; .I v),.bool (has l t)])
theorem oo:SpK 33 (.read oL):=by
 rintro args H K ⟨q,l,most,t,he,ha,ok,hk⟩
 have he:args=_:=he
 subst he
 refine⟨_,jw aj ha cN (zz _ _) (fun hh h=>?_),hk⟩
 obtain⟨r,h1,h2⟩:=xB _ hh (fun x=>x = .tup [(let v:=bD l t; .I v),.bool (has l t)]) ⟨l,most,t,rfl,h,ok,rfl⟩
 exact aL h1 fun x H' e=>⟨e.1.trans h2,e.2▸pN h⟩
def wq (args:List PV) (H:ae) (K:PV→ae→Prop):Prop:=match args with
 | .ptr q 0::rest=>∃(l:List RwI) (most t:Int) (v:Int),ah rest [.int .u32 t,.int .i64 v]∧bR H q (rkI l most)∧Ok l most∧K (.int .i64 (cV l most t v).2) (H.set q (.abs (rkI (cV l most t v).1 most)))
 | _=>False
theorem sq:SpK 22 (.heap wq):=by
 intro args H K h
 unfold wq at h
 split at h
 ·rename_i q rest
  obtain⟨l,most,t,v,he,ha,ok,hk⟩:=h
  have he:rest=_:=he
  subst he
  refine jD aj ha (by intro y hy; simp only[List.mem_cons,List.not_mem_nil,or_false] at hy; rcases hy with rfl|rfl; exact .int _ _; exact IT v) (.int _ _) (fun hh h=>?_) hk
  exact Im _ hh _ ⟨l,most,t,v,rfl,h,ok,fun H' h'=>⟨rfl,h'⟩⟩
 ·exact h.elim
def vL (args:List PV) (H:ae) (K:PV→ae→Prop):Prop:=∃ n:Int,ah args [.I n]∧K (.ptr H.length 0) (H++[.abs (rkI [] (mxI 0 n))])
theorem ya:SpK 20 (.heap vL):=by
 rintro args H K ⟨n,he,hk⟩
 have he:args=_:=he
 subst he
 exact aL (q6 aj cN (ID n _ ⟨rfl,lX⟩)) fun _ _ e=>e.1▸e.2▸hk
def Ax (args:List PV) (H:ae) (K:PV→Prop):Prop:=∃(q:Nat) (l:List RwI) (most:Int),ah args [.ptr q 0]∧bR H q (rkI l most)∧Ok l most∧K (.list (bS l) .no)
theorem uh (l:List RwI):Low 0 (.list (bS l) .no):=aH NT.no (by
 intro x hx
 obtain⟨c,h1,h2⟩:=List.mem_flatten.1 hx
 obtain⟨r,_,rfl⟩:=List.mem_map.1 h1
 rcases List.mem_singleton.1 h2 with rfl
 exact .int _ _)
theorem GQ:SpK 30 (.read Ax):=by
 rintro args H K ⟨q,l,most,he,ha,ok,hk⟩
 have he:args=_:=he
 subst he
 exact⟨_,jw aj ha tC (uh l) (fun hh h=>MI h ok),hk⟩
def i1 (n:Int):List PV:=[.I n]
theorem gB (n:Int):(i1 n).length=1:=rfl
theorem iu {k:Nat} (n:Int):∀ y∈i1 n,Low k y:=bu (.int _ _)
theorem fD (n:Int):∀ y∈i1 n,y.one=true:=by intro y hy; rcases List.mem_singleton.1 hy with rfl; rfl
theorem u5 (l:List Int) (i:Nat):InL (l.map i1) 1 (i:Int)=(i<l.length):=dZ gB (by decide) l i
namespace CU
abbrev flR (l:List Int):List PV:=(l.map u1).flatten
theorem bQ (l:List Int):(flR l).length=l.length*1:=bA dc l
theorem gZ (c:Nat):aJ (List.replicate c [PV.U 0]).flatten (c*1):=by
 refine⟨by simp,fun x hx=>?_,fun x hx=>?_⟩<;>simp at hx<;>rcases hx with⟨_,rfl⟩<;>first|rfl|exact .int _ _
theorem aP {n:Nat} (l:List Int):Low n (.list (l.map u1) .no):=bp bL l
theorem me (H:ae) (n:Int)  (K:PV→ae→Prop) (h:br (decide (n<0)) False (br (decide (wI (n-0)>0)) ((iI 0≤0∧iI 0≤0∧iI 0≤0∧iI 0≤0∧uni 1 [])∧0<wI (n-0)∧Int.toNat (wI (n-0))*4≤140737488355328∧∀(c:Nat),Int.toNat (wI (n-0))≤c→(iI 0≤0∧iI 0≤0∧0≤(c:Int)∧(c:Int)≤(c:Int))∧K (.arr (List.length H) (if Int.toNat (c:Int)=0 then 0 else 0) 0 (Int.toNat (c:Int)-0)) (H++[.cells (List.flatten (List.replicate c [.U 0]))])) (K (.E) H))):AcK 72 [.E,.I n] H K:=
 acW (T:=[]) (L:=[]) (fun o=>match o.dst with|some 22=>8|_=>0) Tryz.func72 (aW.nil _ _) (LOk.nil _ _ _ _ _) h
def nr (args:List PV) (H:ae) (K:PV→ae→Prop):Prop:=∃ n:Nat,ah args [.E,.I n]∧n≤1000000∧(n=0→K (.E) H)∧(0<n→∀(c:Nat) (J:List PV),n≤c→aJ J (c*1)→K (.arr H.length 0 0 c) (H++[.cells J]))
theorem oW:SpK 72 (.heap nr):=by
 rintro args H K ⟨n,he,hn,h0,h1⟩
 have he:args=_:=he
 subst he
 refine me H n K ?_
 have e:wI ((n:Int)-0)=n:=by rw[aD (by omega) (by omega)]; omega
 simp only[au,dt,e,an]
 rw[if_neg (by omega)]
 by_cases c:n=0
 ·rw[if_neg (by omega)]; exact h0 c
 ·rw[if_pos (by omega)]
  refine⟨⟨by decide,by decide,by decide,by decide,fun _ h=>nomatch h⟩,by omega,by omega,fun k hk=>⟨⟨by decide,by decide,by omega,by omega⟩,?_⟩⟩
  rw[ite_self]
  exact h1 (by omega) k _ hk (gZ k)
def lcs (l:List Int):List PV:=[.list (l.map u1) .no]
theorem lT (l:List Int):(lcs l).length=1:=rfl
theorem jU {n:Nat} (l:List Int):∀ y∈lcs l,Low n y:=bu (aP l)
theorem cn (l:List (List Int)) (i:Nat):InL (l.map lcs) 1 (i:Int)=(i<l.length):=dZ lT (by decide) l i
def bh (ls:List (List Int)):Nat:=ls.flatten.length
theorem cP {ls:List (List Int)} {k:Nat} (h:k<ls.length):bh (ls.take (k+1))=bh (ls.take k)+(ls.getD k []).length:=by
 unfold bh; rw[aI [] h,List.flatten_append]; simp
theorem cw (ls:List (List Int)) (k:Nat):bh (ls.take k)≤bh ls:=by
 unfold bh
 conv=>rhs; rw[← List.take_append_drop k ls,List.flatten_append]
 rw[List.length_append]; omega
def TCG:Tab:=[(72,.heap nr)]
theorem pH:TbK TCG:= .cons oW (.nil _ _)
theorem oY (ls:List (List Int)) (n i:Nat):(by refine(?_:_→_→_→Prop) (PV.list (ls.map lcs) .no) (List.getD (ls.map lcs) (Int.toNat (i:Int)) []) (PV.I ls.length); exact fun a b f=>by refine(?_:_→_→Prop) [a,.I n,a,f,.I i] ((n:Int)+(↑(List.length (cL b 0)):Int)); exact fun c d=>∀(R:Ex→List PV→ae→Prop),(br (decide ((i:Int)<(ls.length:Int))) (InL (ls.map lcs) 1 (i:Int)∧br (true && aE [.list] 0 b) (br (decide (wI d<0)) False (R .normal [a,.I (wI d),a,f,.I (wI ((i:Int)+1))] [])) False) (R (.exit 0) c []))→Holds (wpK [] [] (fun _=>0) (ai [1,1,0,1,0] (ag Tryz.f42)) [] (ak [0,3,9,10,11] c) [] (fun ex e H=>R ex (List.map e [0,3,9,10,11]) H)):Prop):=fun R h=>hoE h
theorem l8 (ls:List (List Int)) (i:Nat):(by refine(?_:_→_→_→_→Prop) (List.getD (ls.map lcs) (Int.toNat (i:Int)) []) (PV.list (ls.map lcs) .no) (PV.I ls.length) (PV.I (wI ((i:Int)+1))); exact fun a c d f=>by refine(?_:_→Prop) [PV.E,c,d,.I i]; exact fun b=>∀(R:Ex→List PV→ae→Prop),(br (decide ((i:Int)<(ls.length:Int))) (InL (ls.map lcs) 1 (i:Int)∧br (true && aE [.list] 0 a) (aG [] (cL a 0) 1 4∧List.all (List.flatten (cL a 0)) PV.one=true∧(cL a 0=[]→R .normal [.E,c,d,f] [])∧(cL a 0≠[]→R .normal [.list ([]++cL a 0) (.tok 0),c,d,f] [.tok])) False) (R (.exit 2) b []))→Holds (wpK [] [] (fun o=>match o.dst with|some 33=>4|_=>0) (ai [1,1,1,1,0,1,0] (ag Tryz.f42)) [] (ak [6,25,26,27] b) [] (fun ex e H=>R ex (List.map e [6,25,26,27]) H)):Prop):=fun R h=>hoE h
theorem l9 (ls:List (List Int)) (acc:List Int) (J:List PV) (cap i:Nat):(by refine(?_:_→_→_→_→Prop) (List.getD (ls.map lcs) (Int.toNat (i:Int)) []) [Ob.cells (flR acc++J)] (PV.list (ls.map lcs) .no) (PV.I ls.length); exact fun a f g h=>by refine(?_:_→_→_→Prop) [PV.arr 0 0 acc.length cap,g,h,.I i] (List.flatten (cL a 0)) (acc.length+List.length (cL a 0)); exact fun b c d=>∀(R:Ex→List PV→ae→Prop),(br (decide ((i:Int)<(ls.length:Int))) (InL (ls.map lcs) 1 (i:Int)∧br (true && aE [.list] 0 a) ((acc.length≤cap∧0+cap*1≤List.length (flR acc++J)∧List.length c=List.length (cL a 0)*1∧List.all c PV.one=true∧d*4≤140737488355328)∧acc.length+List.length (cL a 0)≤cap∧R .normal [.arr 0 0 d cap,g,h,.I (wI ((i:Int)+1))] [.cells (over (flR acc++J) (0+acc.length*1) c)]) False) (R (.exit 2) b f))→Holds (wpK [] [] (fun o=>match o.dst with|some 33=>3|_=>0) (ai [1,1,1,1,0,1,0] (ag Tryz.f42)) [] (ak [6,25,26,27] b) f (fun ex e H=>R ex (List.map e [6,25,26,27]) H)):Prop):=fun R h=>hoE h
theorem kU (l k:List Int):flR (l++k)=flR l++flR k:=by unfold flR; rw[List.map_append,List.flatten_append]
theorem jI {l:List Int}:∀ y∈flR l,y.one=true:=by
 intro y hy
 obtain⟨c,h2,h3⟩:=List.mem_flatten.1 hy
 obtain⟨a,_,rfl⟩:=List.mem_map.1 h2
 exact dm a y h3
theorem gN {acc l:List Int} {J:List PV}:over (flR acc++J) (acc.length*1) (flR l)=flR (acc++l)++J.drop (l.length*1):=by
 unfold over
 rw[List.take_left' (bQ acc),kU,List.append_assoc,List.append_assoc]
 congr 2
 rw[List.drop_append,bQ,bQ,List.drop_of_length_le (by rw[bQ]; omega),List.nil_append,show acc.length*1+l.length*1-acc.length*1=l.length*1 by omega]
def nw:LSp:=fun e H Q=>∃(ls:List (List Int)),ls.length≤1000000∧bh ls≤1000000∧ah (List.map e [0,3,9,10,11]) [.list (ls.map lcs) .no,.I 0,.list (ls.map lcs) .no,.I ls.length,.I 0]∧av H []∧Q (.exit 0) (ak [0,3,9,10,11] [.list (ls.map lcs) .no,.I (bh ls),.list (ls.map lcs) .no,.I ls.length,.I ls.length]) []
theorem iY:∀ e H Q,nw e H Q→AwK Tryz.f42.ntmps (.loop (ai [1,1,0,1,0] (ag Tryz.f42))) Q e H:=by
 rintro e H Q ⟨ls,hl,hs,he,hH,hQ⟩
 refine aB (hn:=fun _=>0) aj (.nil _ _) (.nil _ _ _ _ _) (σ:=Nat) [0,3,9,10,11] (fun i=>i≤ls.length) (fun i=>[.list (ls.map lcs) .no,.I (bh (ls.take i)),.list (ls.map lcs) .no,.I ls.length,.I i]) (fun _=>[]) (fun i=>ls.length-i) 0 (Nat.zero_le _) (by rw[he]; rfl) hH ?_
 intro i hi
 have hi:i≤ls.length:=hi
 refine oY ls (bh (ls.take i)) i _ ?_
 have h3:=cw ls i
 simp only[au,dt,an,cn]
 by_cases h:i<ls.length
 ·rw[if_pos (by omega)]
  have h4:=cw ls (i+1)
  have e1:=cP h
  simp only[getD_map [] h]
  refine⟨h,?_⟩
  rw[if_pos (by rfl)]
  have c0:cL (lcs (ls.getD i [])) 0=(ls.getD i []).map u1:=rfl
  have e2:wI ((bh (ls.take i):Int)+(((ls.getD i []).map u1).length:Int))=(bh (ls.take (i+1)):Int):=by rw[List.length_map,aD (by omega) (by omega)]; omega
  rw[c0,e2,if_neg (by omega)]
  exact⟨i+1,(show ls.length-(i+1)<ls.length-i by omega),h,by rw[ar h (by omega)],[],rfl,Nat.le_refl _,.inl rfl⟩
 ·rw[if_neg (by omega)]
  have:i=ls.length:=by omega
  subst this
  rw[List.take_length]
  exact hQ
def nF:LSp:=fun e H Q=>∃(ls:List (List Int)),ls.length≤1000000∧bh ls≤1000000∧
 ((bh ls=0∧ah (List.map e [6,25,26,27]) [.E,.list (ls.map lcs) .no,.I ls.length,.I 0]∧av H []∧Q (.exit 2) (ak [6,25,26,27] [.E,.list (ls.map lcs) .no,.I ls.length,.I ls.length]) [])∨
  (∃(cap:Nat) (J:List PV),bh ls≤cap∧aJ J (cap*1)∧ah (List.map e [6,25,26,27]) [.arr 0 0 0 cap,.list (ls.map lcs) .no,.I ls.length,.I 0]∧av H [.cells J]∧∀ J',aJ J' ((cap-ls.flatten.length)*1)→Q (.exit 2) (ak [6,25,26,27] [.arr 0 0 ls.flatten.length cap,.list (ls.map lcs) .no,.I ls.length,.I ls.length]) [.cells (flR ls.flatten++J')]))
theorem jf:∀ e H Q,nF e H Q→AwK Tryz.f42.ntmps (.loop (ai [1,1,1,1,0,1,0] (ag Tryz.f42))) Q e H:=by
 rintro e H Q ⟨ls,hl,hs,(⟨h0,he,hH,hQ⟩|⟨cap,J,hc,hJ,he,hH,hQ⟩)⟩
 ·refine aB (hn:=fun o=>match o.dst with|some 33=>4|_=>0) aj (.nil _ _) (.nil _ _ _ _ _) (σ:=Nat) [6,25,26,27] (fun i=>i≤ls.length) (fun i=>[.E,.list (ls.map lcs) .no,.I ls.length,.I i]) (fun _=>[]) (fun i=>ls.length-i) 0 (Nat.zero_le _) (by rw[he]; rfl) hH ?_
  intro i hi
  have hi:i≤ls.length:=hi
  refine l8 ls i _ ?_
  simp only[au,dt,an,cn]
  by_cases h:i<ls.length
  ·rw[if_pos (by omega)]
   have h4:=cw ls (i+1)
   have e1:=cP h
   simp only[getD_map [] h]
   refine⟨h,?_⟩
   rw[if_pos (by rfl)]
   have c0:cL (lcs (ls.getD i [])) 0=(ls.getD i []).map u1:=rfl
   have c1:ls.getD i []=[]:=List.length_eq_zero_iff.1 (by omega)
   rw[c0,c1]
   exact⟨⟨(fun _ h=>nomatch h),(fun _ h=>nomatch h),by decide⟩,rfl,fun _=>⟨i+1,(show ls.length-(i+1)<ls.length-i by omega),h,by rw[ar h (by omega)],[],rfl,Nat.le_refl _,.inl rfl⟩,fun h=>absurd rfl h⟩
  ·rw[if_neg (by omega)]
   have:i=ls.length:=by omega
   subst this
   exact hQ
 ·refine aB (hn:=fun o=>match o.dst with|some 33=>3|_=>0) aj (.nil _ _) (.nil _ _ _ _ _) (σ:=Nat) [6,25,26,27] (fun i=>i≤ls.length) (fun i=>[.arr 0 0 (ls.take i).flatten.length cap,.list (ls.map lcs) .no,.I ls.length,.I i]) (fun i=>[.cells (flR (ls.take i).flatten++J.drop ((ls.take i).flatten.length*1))]) (fun i=>ls.length-i) 0 (Nat.zero_le _) (by rw[he]; rfl) (by rw[show H=_ from hH]; simp[flR]) ?_
  intro i hi
  have hi:i≤ls.length:=hi
  refine l9 ls (ls.take i).flatten (J.drop ((ls.take i).flatten.length*1)) cap i _ ?_
  simp only[au,dt,an,cn]
  have h3:=cw ls i
  have hJl:=hJ.len
  have h5:(ls.take i).flatten.length≤cap:=Nat.le_trans h3 hc
  by_cases h:i<ls.length
  ·rw[if_pos (by omega)]
   have h4:=cw ls (i+1)
   have e1:=cP h
   simp only[getD_map [] h]
   refine⟨h,?_⟩
   rw[if_pos (by rfl)]
   have c0:cL (lcs (ls.getD i [])) 0=(ls.getD i []).map u1:=rfl
   obtain⟨l,hld⟩:∃ l,l=ls.getD i []:=⟨_,rfl⟩
   have e4:(ls.take (i+1)).flatten=(ls.take i).flatten++l:=by rw[aI [] h,List.flatten_append,hld]; simp
   have e5:(ls.take (i+1)).flatten.length=(ls.take i).flatten.length+l.length:=by rw[e4,List.length_append]
   have e6:(ls.take (i+1)).flatten.length≤cap:=Nat.le_trans h4 hc
   have e7:bh (ls.take (i+1))=(ls.take (i+1)).flatten.length:=rfl
   have e8:(J.drop ((ls.take i).flatten.length*1)).length=(cap-(ls.take i).flatten.length)*1:=by rw[List.length_drop,hJl]; omega
   have e9:(List.map u1 l).flatten.length=l.length*1:=bQ l
   rw[c0,← hld]
   simp only[List.length_map,e9]
   refine⟨⟨h5,?_,trivial,List.all_eq_true.2 jI,by omega⟩,by omega,i+1,(show ls.length-(i+1)<ls.length-i by omega),h,by(try dsimp only); rw[ar h (by omega),e5],[],?_,Nat.le_refl _,.inl rfl⟩
   ·rw[List.length_append,bQ,e8]; omega
   ·(try dsimp only)
    rw[Nat.zero_add,gN,e4,List.drop_drop,List.append_nil,List.length_append,Nat.add_mul]
  ·rw[if_neg (by omega)]
   have:i=ls.length:=by omega
   subst this
   rw[List.take_length]
   exact hQ _ (hJ.drop.cast (by omega))
theorem gq (ls:List (List Int)):∀(K:PV→ae→Prop),(∃(ls_1:List (List Int)),by refine(?_:_→_→Prop) (PV.list (ls_1.map lcs) .no) (PV.I (↑(List.length (ls_1.map lcs)):Int)); exact fun d e=>by refine(?_:_→Prop) [PV.E,d,e,.I 0]; exact fun b=>ls_1.length≤1000000∧bh ls_1≤1000000∧ah [.list (ls.map lcs) .no,.I 0,.list (ls.map lcs) .no,.I (↑(List.length (ls.map lcs)):Int),.I 0] [d,.I 0,d,.I ls_1.length,.I 0]∧av [] []∧∃(n:Nat),ah [.E,.I (↑(bh ls_1):Int)] [.E,.I n]∧n≤1000000∧(n=0→∃(ls:List (List Int)),ls.length≤1000000∧bh ls≤1000000∧(bh ls=0∧ah b [.E,.list (ls.map lcs) .no,.I ls.length,.I 0]∧av [] []∧K (.E) []∨∃(cap:Nat) (J:List PV),bh ls≤cap∧aJ J (cap*1)∧ah b [.arr 0 0 0 cap,.list (ls.map lcs) .no,.I ls.length,.I 0]∧av [] [.cells J]∧∀(J':List PV),aJ J' ((cap-ls.flatten.length)*1)→K (.arr 0 0 ls.flatten.length cap) [.cells (flR ls.flatten++J')]))∧(0<n→∀(c:Nat),by refine(?_:_→Prop) [PV.arr 0 0 0 c,d,e,.I 0]; exact fun a=>∀(J:List PV),n≤c→aJ J (c*1)→∃(ls:List (List Int)),ls.length≤1000000∧bh ls≤1000000∧(bh ls=0∧ah a [.E,.list (ls.map lcs) .no,.I ls.length,.I 0]∧av [.cells J] []∧K (.E) []∨∃(cap:Nat) (J_1:List PV),bh ls≤cap∧aJ J_1 (cap*1)∧ah a [.arr 0 0 0 cap,.list (ls.map lcs) .no,.I ls.length,.I 0]∧av [.cells J] [.cells J_1]∧∀(J':List PV),aJ J' ((cap-ls.flatten.length)*1)→K (.arr 0 0 ls.flatten.length cap) [.cells (flR ls.flatten++J')])))→AcK 42 [.list (ls.map lcs) .no] [] K:=fun K h=>acW (T:=TCG) (L:=[([1,1,0,1,0],nw),([1,1,1,1,0,1,0],nF)]) (fun _=>0) Tryz.func42 (pH) (.cons suE iY (.cons suE jf (.nil _ _ _ _ _))) h
theorem uC (ls:List (List Int)) (hl:ls.length≤1000000) (hs:bh ls≤1000000):AcK 42 [.list (ls.map lcs) .no] [] (fun x _=>x = .list (ls.flatten.map u1) .no):=by
 have e0:(List.map lcs ls).length=ls.length:=List.length_map _
 by_cases c:bh ls=0
 ·refine a9 (gq ls _ ⟨ls,hl,hs,(by show _=_; rw[e0]),rfl,bh ls,rfl,hs,fun _=>⟨ls,hl,hs,.inl ⟨c,(by show _=_; rw[e0]),rfl,?_⟩⟩,fun h=>absurd c (by omega)⟩)
  have e:ls.flatten=[]:=List.length_eq_zero_iff.1 c
  rw[e]
  exact⟨_,.list _ _,rfl⟩
 ·refine bW (gq ls _ ⟨ls,hl,hs,(by show _=_; rw[e0]),rfl,bh ls,rfl,hs,fun h=>absurd h c,fun h cap J hc hJ=>⟨ls,hl,hs,.inr ⟨cap,J,hc,hJ,(by show _=_; rw[e0]),rfl,fun J' hJ'=>?_⟩⟩⟩)
  refine⟨0,0,1,[],J',ls.flatten.map u1,.list (ls.flatten.map u1) .no,[.dead],rfl,rfl,b5 dc _,⟨rfl,fun i b hb=> .inl ?_⟩,?_,rfl⟩
  ·have k1:=(List.getElem?_eq_some_iff.1 hb).1
   simp at k1
   subst k1
   cases hb; rfl
  ·have:=Fz.arr (o:=0) (off:=0) (es:=ls.flatten.map u1) cap (by rw[List.length_map]; exact hc)
   rw[List.length_map] at this
   exact this
def nJ (args:List PV) (K:PV→Prop):Prop:=∃(a b:List Int),ah args [.list [[.list (a.map u1) .no],[.list (b.map u1) .no]] .exact]∧a.length+b.length≤1000000∧K (.list ((a++b).map u1) .no)
theorem o6:SpK 42 (.pure nJ):=by
 rintro args K ⟨a,b,he,h,hk⟩
 have he:args=_:=he
 subst he
 have hf:[a,b].flatten=a++b:=by simp
 have hl:=uC [a,b] (by simp) (by unfold bh; rw[hf,List.length_append]; exact h)
 rw[hf] at hl
 exact bB aj (.cons (.list _ _) .nil) (bu (bp jU [a,b])) (aP _) hl hk
end CU
namespace CI
abbrev flR (l:List Int):List PV:=(l.map i1).flatten
theorem bQ (l:List Int):(flR l).length=l.length*1:=bA gB l
theorem gZ (c:Nat):aJ (List.replicate c [PV.I 0]).flatten (c*1):=by
 refine⟨by simp,fun x hx=>?_,fun x hx=>?_⟩<;>simp at hx<;>rcases hx with⟨_,rfl⟩<;>first|rfl|exact .int _ _
theorem aP {n:Nat} (l:List Int):Low n (.list (l.map i1) .no):=bp iu l
theorem me (H:ae) (n:Int)  (K:PV→ae→Prop) (h:br (decide (n<0)) False (br (decide (wI (n-0)>0)) ((iI 0≤0∧iI 0≤0∧iI 0≤0∧iI 0≤0∧uni 1 [])∧0<wI (n-0)∧Int.toNat (wI (n-0))*8≤140737488355328∧∀(c:Nat),Int.toNat (wI (n-0))≤c→(iI 0≤0∧iI 0≤0∧0≤(c:Int)∧(c:Int)≤(c:Int))∧K (.arr (List.length H) (if Int.toNat (c:Int)=0 then 0 else 0) 0 (Int.toNat (c:Int)-0)) (H++[.cells (List.flatten (List.replicate c [.I 0]))])) (K (.E) H))):AcK 73 [.E,.I n] H K:=
 acW (T:=[]) (L:=[]) (fun o=>match o.dst with|some 22=>8|_=>0) Tryz.func73 (aW.nil _ _) (LOk.nil _ _ _ _ _) h
def nr (args:List PV) (H:ae) (K:PV→ae→Prop):Prop:=∃ n:Nat,ah args [.E,.I n]∧n≤1000000∧(n=0→K (.E) H)∧(0<n→∀(c:Nat) (J:List PV),n≤c→aJ J (c*1)→K (.arr H.length 0 0 c) (H++[.cells J]))
theorem oW:SpK 73 (.heap nr):=by
 rintro args H K ⟨n,he,hn,h0,h1⟩
 have he:args=_:=he
 subst he
 refine me H n K ?_
 have e:wI ((n:Int)-0)=n:=by rw[aD (by omega) (by omega)]; omega
 simp only[au,dt,e,an]
 rw[if_neg (by omega)]
 by_cases c:n=0
 ·rw[if_neg (by omega)]; exact h0 c
 ·rw[if_pos (by omega)]
  refine⟨⟨by decide,by decide,by decide,by decide,fun _ h=>nomatch h⟩,by omega,by omega,fun k hk=>⟨⟨by decide,by decide,by omega,by omega⟩,?_⟩⟩
  rw[ite_self]
  exact h1 (by omega) k _ hk (gZ k)
def lcs (l:List Int):List PV:=[.list (l.map i1) .no]
theorem lT (l:List Int):(lcs l).length=1:=rfl
theorem jU {n:Nat} (l:List Int):∀ y∈lcs l,Low n y:=bu (aP l)
theorem cn (l:List (List Int)) (i:Nat):InL (l.map lcs) 1 (i:Int)=(i<l.length):=dZ lT (by decide) l i
def bh (ls:List (List Int)):Nat:=ls.flatten.length
theorem cP {ls:List (List Int)} {k:Nat} (h:k<ls.length):bh (ls.take (k+1))=bh (ls.take k)+(ls.getD k []).length:=by
 unfold bh; rw[aI [] h,List.flatten_append]; simp
theorem cw (ls:List (List Int)) (k:Nat):bh (ls.take k)≤bh ls:=by
 unfold bh
 conv=>rhs; rw[← List.take_append_drop k ls,List.flatten_append]
 rw[List.length_append]; omega
def TCG:Tab:=[(73,.heap nr)]
theorem pH:TbK TCG:= .cons oW (.nil _ _)
theorem oY (ls:List (List Int)) (n i:Nat):(by refine(?_:_→_→_→Prop) (PV.list (ls.map lcs) .no) (List.getD (ls.map lcs) (Int.toNat (i:Int)) []) (PV.I ls.length); exact fun a b f=>by refine(?_:_→_→Prop) [a,.I n,a,f,.I i] ((n:Int)+(↑(List.length (cL b 0)):Int)); exact fun c d=>∀(R:Ex→List PV→ae→Prop),(br (decide ((i:Int)<(ls.length:Int))) (InL (ls.map lcs) 1 (i:Int)∧br (true && aE [.list] 0 b) (br (decide (wI d<0)) False (R .normal [a,.I (wI d),a,f,.I (wI ((i:Int)+1))] [])) False) (R (.exit 0) c []))→Holds (wpK [] [] (fun _=>0) (ai [1,1,0,1,0] (ag Tryz.f43)) [] (ak [0,3,9,10,11] c) [] (fun ex e H=>R ex (List.map e [0,3,9,10,11]) H)):Prop):=fun R h=>hoE h
theorem l8 (ls:List (List Int)) (i:Nat):(by refine(?_:_→_→_→_→Prop) (List.getD (ls.map lcs) (Int.toNat (i:Int)) []) (PV.list (ls.map lcs) .no) (PV.I ls.length) (PV.I (wI ((i:Int)+1))); exact fun a c d f=>by refine(?_:_→Prop) [PV.E,c,d,.I i]; exact fun b=>∀(R:Ex→List PV→ae→Prop),(br (decide ((i:Int)<(ls.length:Int))) (InL (ls.map lcs) 1 (i:Int)∧br (true && aE [.list] 0 a) (aG [] (cL a 0) 1 8∧List.all (List.flatten (cL a 0)) PV.one=true∧(cL a 0=[]→R .normal [.E,c,d,f] [])∧(cL a 0≠[]→R .normal [.list ([]++cL a 0) (.tok 0),c,d,f] [.tok])) False) (R (.exit 2) b []))→Holds (wpK [] [] (fun o=>match o.dst with|some 33=>4|_=>0) (ai [1,1,1,1,0,1,0] (ag Tryz.f43)) [] (ak [6,25,26,27] b) [] (fun ex e H=>R ex (List.map e [6,25,26,27]) H)):Prop):=fun R h=>hoE h
theorem l9 (ls:List (List Int)) (acc:List Int) (J:List PV) (cap i:Nat):(by refine(?_:_→_→_→_→Prop) (List.getD (ls.map lcs) (Int.toNat (i:Int)) []) [Ob.cells (flR acc++J)] (PV.list (ls.map lcs) .no) (PV.I ls.length); exact fun a f g h=>by refine(?_:_→_→_→Prop) [PV.arr 0 0 acc.length cap,g,h,.I i] (List.flatten (cL a 0)) (acc.length+List.length (cL a 0)); exact fun b c d=>∀(R:Ex→List PV→ae→Prop),(br (decide ((i:Int)<(ls.length:Int))) (InL (ls.map lcs) 1 (i:Int)∧br (true && aE [.list] 0 a) ((acc.length≤cap∧0+cap*1≤List.length (flR acc++J)∧List.length c=List.length (cL a 0)*1∧List.all c PV.one=true∧d*8≤140737488355328)∧acc.length+List.length (cL a 0)≤cap∧R .normal [.arr 0 0 d cap,g,h,.I (wI ((i:Int)+1))] [.cells (over (flR acc++J) (0+acc.length*1) c)]) False) (R (.exit 2) b f))→Holds (wpK [] [] (fun o=>match o.dst with|some 33=>3|_=>0) (ai [1,1,1,1,0,1,0] (ag Tryz.f43)) [] (ak [6,25,26,27] b) f (fun ex e H=>R ex (List.map e [6,25,26,27]) H)):Prop):=fun R h=>hoE h
theorem kU (l k:List Int):flR (l++k)=flR l++flR k:=by unfold flR; rw[List.map_append,List.flatten_append]
theorem jI {l:List Int}:∀ y∈flR l,y.one=true:=by
 intro y hy
 obtain⟨c,h2,h3⟩:=List.mem_flatten.1 hy
 obtain⟨a,_,rfl⟩:=List.mem_map.1 h2
 exact fD a y h3
theorem gN {acc l:List Int} {J:List PV}:over (flR acc++J) (acc.length*1) (flR l)=flR (acc++l)++J.drop (l.length*1):=by
 unfold over
 rw[List.take_left' (bQ acc),kU,List.append_assoc,List.append_assoc]
 congr 2
 rw[List.drop_append,bQ,bQ,List.drop_of_length_le (by rw[bQ]; omega),List.nil_append,show acc.length*1+l.length*1-acc.length*1=l.length*1 by omega]
def nw:LSp:=fun e H Q=>∃(ls:List (List Int)),ls.length≤1000000∧bh ls≤1000000∧ah (List.map e [0,3,9,10,11]) [.list (ls.map lcs) .no,.I 0,.list (ls.map lcs) .no,.I ls.length,.I 0]∧av H []∧Q (.exit 0) (ak [0,3,9,10,11] [.list (ls.map lcs) .no,.I (bh ls),.list (ls.map lcs) .no,.I ls.length,.I ls.length]) []
theorem iY:∀ e H Q,nw e H Q→AwK Tryz.f43.ntmps (.loop (ai [1,1,0,1,0] (ag Tryz.f43))) Q e H:=by
 rintro e H Q ⟨ls,hl,hs,he,hH,hQ⟩
 refine aB (hn:=fun _=>0) aj (.nil _ _) (.nil _ _ _ _ _) (σ:=Nat) [0,3,9,10,11] (fun i=>i≤ls.length) (fun i=>[.list (ls.map lcs) .no,.I (bh (ls.take i)),.list (ls.map lcs) .no,.I ls.length,.I i]) (fun _=>[]) (fun i=>ls.length-i) 0 (Nat.zero_le _) (by rw[he]; rfl) hH ?_
 intro i hi
 have hi:i≤ls.length:=hi
 refine oY ls (bh (ls.take i)) i _ ?_
 have h3:=cw ls i
 simp only[au,dt,an,cn]
 by_cases h:i<ls.length
 ·rw[if_pos (by omega)]
  have h4:=cw ls (i+1)
  have e1:=cP h
  simp only[getD_map [] h]
  refine⟨h,?_⟩
  rw[if_pos (by rfl)]
  have c0:cL (lcs (ls.getD i [])) 0=(ls.getD i []).map i1:=rfl
  have e2:wI ((bh (ls.take i):Int)+(((ls.getD i []).map i1).length:Int))=(bh (ls.take (i+1)):Int):=by rw[List.length_map,aD (by omega) (by omega)]; omega
  rw[c0,e2,if_neg (by omega)]
  exact⟨i+1,(show ls.length-(i+1)<ls.length-i by omega),h,by rw[ar h (by omega)],[],rfl,Nat.le_refl _,.inl rfl⟩
 ·rw[if_neg (by omega)]
  have:i=ls.length:=by omega
  subst this
  rw[List.take_length]
  exact hQ
def nF:LSp:=fun e H Q=>∃(ls:List (List Int)),ls.length≤1000000∧bh ls≤1000000∧
 ((bh ls=0∧ah (List.map e [6,25,26,27]) [.E,.list (ls.map lcs) .no,.I ls.length,.I 0]∧av H []∧Q (.exit 2) (ak [6,25,26,27] [.E,.list (ls.map lcs) .no,.I ls.length,.I ls.length]) [])∨
  (∃(cap:Nat) (J:List PV),bh ls≤cap∧aJ J (cap*1)∧ah (List.map e [6,25,26,27]) [.arr 0 0 0 cap,.list (ls.map lcs) .no,.I ls.length,.I 0]∧av H [.cells J]∧∀ J',aJ J' ((cap-ls.flatten.length)*1)→Q (.exit 2) (ak [6,25,26,27] [.arr 0 0 ls.flatten.length cap,.list (ls.map lcs) .no,.I ls.length,.I ls.length]) [.cells (flR ls.flatten++J')]))
theorem jf:∀ e H Q,nF e H Q→AwK Tryz.f43.ntmps (.loop (ai [1,1,1,1,0,1,0] (ag Tryz.f43))) Q e H:=by
 rintro e H Q ⟨ls,hl,hs,(⟨h0,he,hH,hQ⟩|⟨cap,J,hc,hJ,he,hH,hQ⟩)⟩
 ·refine aB (hn:=fun o=>match o.dst with|some 33=>4|_=>0) aj (.nil _ _) (.nil _ _ _ _ _) (σ:=Nat) [6,25,26,27] (fun i=>i≤ls.length) (fun i=>[.E,.list (ls.map lcs) .no,.I ls.length,.I i]) (fun _=>[]) (fun i=>ls.length-i) 0 (Nat.zero_le _) (by rw[he]; rfl) hH ?_
  intro i hi
  have hi:i≤ls.length:=hi
  refine l8 ls i _ ?_
  simp only[au,dt,an,cn]
  by_cases h:i<ls.length
  ·rw[if_pos (by omega)]
   have h4:=cw ls (i+1)
   have e1:=cP h
   simp only[getD_map [] h]
   refine⟨h,?_⟩
   rw[if_pos (by rfl)]
   have c0:cL (lcs (ls.getD i [])) 0=(ls.getD i []).map i1:=rfl
   have c1:ls.getD i []=[]:=List.length_eq_zero_iff.1 (by omega)
   rw[c0,c1]
   exact⟨⟨(fun _ h=>nomatch h),(fun _ h=>nomatch h),by decide⟩,rfl,fun _=>⟨i+1,(show ls.length-(i+1)<ls.length-i by omega),h,by rw[ar h (by omega)],[],rfl,Nat.le_refl _,.inl rfl⟩,fun h=>absurd rfl h⟩
  ·rw[if_neg (by omega)]
   have:i=ls.length:=by omega
   subst this
   exact hQ
 ·refine aB (hn:=fun o=>match o.dst with|some 33=>3|_=>0) aj (.nil _ _) (.nil _ _ _ _ _) (σ:=Nat) [6,25,26,27] (fun i=>i≤ls.length) (fun i=>[.arr 0 0 (ls.take i).flatten.length cap,.list (ls.map lcs) .no,.I ls.length,.I i]) (fun i=>[.cells (flR (ls.take i).flatten++J.drop ((ls.take i).flatten.length*1))]) (fun i=>ls.length-i) 0 (Nat.zero_le _) (by rw[he]; rfl) (by rw[show H=_ from hH]; simp[flR]) ?_
  intro i hi
  have hi:i≤ls.length:=hi
  refine l9 ls (ls.take i).flatten (J.drop ((ls.take i).flatten.length*1)) cap i _ ?_
  simp only[au,dt,an,cn]
  have h3:=cw ls i
  have hJl:=hJ.len
  have h5:(ls.take i).flatten.length≤cap:=Nat.le_trans h3 hc
  by_cases h:i<ls.length
  ·rw[if_pos (by omega)]
   have h4:=cw ls (i+1)
   have e1:=cP h
   simp only[getD_map [] h]
   refine⟨h,?_⟩
   rw[if_pos (by rfl)]
   have c0:cL (lcs (ls.getD i [])) 0=(ls.getD i []).map i1:=rfl
   obtain⟨l,hld⟩:∃ l,l=ls.getD i []:=⟨_,rfl⟩
   have e4:(ls.take (i+1)).flatten=(ls.take i).flatten++l:=by rw[aI [] h,List.flatten_append,hld]; simp
   have e5:(ls.take (i+1)).flatten.length=(ls.take i).flatten.length+l.length:=by rw[e4,List.length_append]
   have e6:(ls.take (i+1)).flatten.length≤cap:=Nat.le_trans h4 hc
   have e7:bh (ls.take (i+1))=(ls.take (i+1)).flatten.length:=rfl
   have e8:(J.drop ((ls.take i).flatten.length*1)).length=(cap-(ls.take i).flatten.length)*1:=by rw[List.length_drop,hJl]; omega
   have e9:(List.map i1 l).flatten.length=l.length*1:=bQ l
   rw[c0,← hld]
   simp only[List.length_map,e9]
   refine⟨⟨h5,?_,trivial,List.all_eq_true.2 jI,by omega⟩,by omega,i+1,(show ls.length-(i+1)<ls.length-i by omega),h,by(try dsimp only); rw[ar h (by omega),e5],[],?_,Nat.le_refl _,.inl rfl⟩
   ·rw[List.length_append,bQ,e8]; omega
   ·(try dsimp only)
    rw[Nat.zero_add,gN,e4,List.drop_drop,List.append_nil,List.length_append,Nat.add_mul]
  ·rw[if_neg (by omega)]
   have:i=ls.length:=by omega
   subst this
   rw[List.take_length]
   exact hQ _ (hJ.drop.cast (by omega))
theorem gq (ls:List (List Int)):∀(K:PV→ae→Prop),(∃(ls_1:List (List Int)),by refine(?_:_→_→Prop) (PV.list (ls_1.map lcs) .no) (PV.I (↑(List.length (ls_1.map lcs)):Int)); exact fun d e=>by refine(?_:_→Prop) [PV.E,d,e,.I 0]; exact fun b=>ls_1.length≤1000000∧bh ls_1≤1000000∧ah [.list (ls.map lcs) .no,.I 0,.list (ls.map lcs) .no,.I (↑(List.length (ls.map lcs)):Int),.I 0] [d,.I 0,d,.I ls_1.length,.I 0]∧av [] []∧∃(n:Nat),ah [.E,.I (↑(bh ls_1):Int)] [.E,.I n]∧n≤1000000∧(n=0→∃(ls:List (List Int)),ls.length≤1000000∧bh ls≤1000000∧(bh ls=0∧ah b [.E,.list (ls.map lcs) .no,.I ls.length,.I 0]∧av [] []∧K (.E) []∨∃(cap:Nat) (J:List PV),bh ls≤cap∧aJ J (cap*1)∧ah b [.arr 0 0 0 cap,.list (ls.map lcs) .no,.I ls.length,.I 0]∧av [] [.cells J]∧∀(J':List PV),aJ J' ((cap-ls.flatten.length)*1)→K (.arr 0 0 ls.flatten.length cap) [.cells (flR ls.flatten++J')]))∧(0<n→∀(c:Nat),by refine(?_:_→Prop) [PV.arr 0 0 0 c,d,e,.I 0]; exact fun a=>∀(J:List PV),n≤c→aJ J (c*1)→∃(ls:List (List Int)),ls.length≤1000000∧bh ls≤1000000∧(bh ls=0∧ah a [.E,.list (ls.map lcs) .no,.I ls.length,.I 0]∧av [.cells J] []∧K (.E) []∨∃(cap:Nat) (J_1:List PV),bh ls≤cap∧aJ J_1 (cap*1)∧ah a [.arr 0 0 0 cap,.list (ls.map lcs) .no,.I ls.length,.I 0]∧av [.cells J] [.cells J_1]∧∀(J':List PV),aJ J' ((cap-ls.flatten.length)*1)→K (.arr 0 0 ls.flatten.length cap) [.cells (flR ls.flatten++J')])))→AcK 43 [.list (ls.map lcs) .no] [] K:=fun K h=>acW (T:=TCG) (L:=[([1,1,0,1,0],nw),([1,1,1,1,0,1,0],nF)]) (fun _=>0) Tryz.func43 (pH) (.cons suE iY (.cons suE jf (.nil _ _ _ _ _))) h
theorem uC (ls:List (List Int)) (hl:ls.length≤1000000) (hs:bh ls≤1000000):AcK 43 [.list (ls.map lcs) .no] [] (fun x _=>x = .list (ls.flatten.map i1) .no):=by
 have e0:(List.map lcs ls).length=ls.length:=List.length_map _
 by_cases c:bh ls=0
 ·refine a9 (gq ls _ ⟨ls,hl,hs,(by show _=_; rw[e0]),rfl,bh ls,rfl,hs,fun _=>⟨ls,hl,hs,.inl ⟨c,(by show _=_; rw[e0]),rfl,?_⟩⟩,fun h=>absurd c (by omega)⟩)
  have e:ls.flatten=[]:=List.length_eq_zero_iff.1 c
  rw[e]
  exact⟨_,.list _ _,rfl⟩
 ·refine bW (gq ls _ ⟨ls,hl,hs,(by show _=_; rw[e0]),rfl,bh ls,rfl,hs,fun h=>absurd h c,fun h cap J hc hJ=>⟨ls,hl,hs,.inr ⟨cap,J,hc,hJ,(by show _=_; rw[e0]),rfl,fun J' hJ'=>?_⟩⟩⟩)
  refine⟨0,0,1,[],J',ls.flatten.map i1,.list (ls.flatten.map i1) .no,[.dead],rfl,rfl,b5 gB _,⟨rfl,fun i b hb=> .inl ?_⟩,?_,rfl⟩
  ·have k1:=(List.getElem?_eq_some_iff.1 hb).1
   simp at k1
   subst k1
   cases hb; rfl
  ·have:=Fz.arr (o:=0) (off:=0) (es:=ls.flatten.map i1) cap (by rw[List.length_map]; exact hc)
   rw[List.length_map] at this
   exact this
def nJ (args:List PV) (K:PV→Prop):Prop:=∃(a b:List Int),ah args [.list [[.list (a.map i1) .no],[.list (b.map i1) .no]] .exact]∧a.length+b.length≤1000000∧K (.list ((a++b).map i1) .no)
theorem o6:SpK 43 (.pure nJ):=by
 rintro args K ⟨a,b,he,h,hk⟩
 have he:args=_:=he
 subst he
 have hf:[a,b].flatten=a++b:=by simp
 have hl:=uC [a,b] (by simp) (by unfold bh; rw[hf,List.length_append]; exact h)
 rw[hf] at hl
 exact bB aj (.cons (.list _ _) .nil) (bu (bp jU [a,b])) (aP _) hl hk
end CI
end Go.Proofs.YtenaelaapdhbdaaGreatDoor
