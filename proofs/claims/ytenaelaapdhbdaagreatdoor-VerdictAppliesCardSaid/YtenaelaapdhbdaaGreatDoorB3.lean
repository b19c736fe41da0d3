/-
  What the program's and the document's functions do, over plain values, part 6.
-/
import Derived.Test.YtenaelaapdhbdaaGreatDoorB2
import Derived.Test.YtenaelaapdhbdaaGreatDoorProg
namespace Go.Proofs.YtenaelaapdhbdaaGreatDoor
open Go Go.AM Go.Proofs
theorem Gv (w:List Mt) (b l:List Rr):∀(K:PV→Prop),(∃(w_1:List Mt) (b_1:List Rr) (l_1:List Rr) (sz:Bool),by refine(?_:_→_→_→_→_→Prop) (PV.list ([]++b_1.map rrc++l_1.map rrc) (.tok 1)) ([]++b_1.map rrc) (PV.list ([]++l_1.map rrc) (.tok 0)) (List.flatten (l_1.map rrc)) (WS.ids (wsR w_1 ws0 l_1)); exact fun d e f g h=>by refine(?_:_→_→Prop) (br h (K (.I 14)) (br (sz || List.any l_1 bT) (K (.I 21)) (br (WS.ex (wsR w_1 ws0 l_1)) (K (.I 11)) (K (.I 0))))) (br h (K (.I 14)) (K (.I 21))); exact fun a c=>SmM w_1∧(∀(r:Rr),r∈l_1→∀(p:Int),p∈r.pl→0≤p)∧l_1.length≤1000000∧tot l_1≤1000000∧ah [.list (w.map mtc) .no,.list (b.map rrc) .no,.list (l.map rrc) .no,.E,.bool false,.bool ((↑(List.length (l.map rrc)):Int) == 0),.bool false,.I 0] [.list (w_1.map mtc) .no,.list (b_1.map rrc) .no,.list (l_1.map rrc) .no,.E,.bool false,.bool sz,.bool false,.I 0]∧ax [] []∧aS [] (b_1.map rrc) 4 48∧List.all (List.flatten (b_1.map rrc)) PV.one=true∧(b_1.map rrc=[]→aS [] (l_1.map rrc) 4 48∧List.all g PV.one=true∧(l_1.map rrc=[]→∃(l:List Rr) (tl:Tail) (t:Int),ah [.E,.I 1] [.list (l.map rrc) tl,.I t]∧l.length≤1000000∧tot l≤1000000∧br (decide ((↑(taken l t):Int)>4) == false) (∃(l:List Rr) (tl:Tail) (t:Int),ah [.E,.I 2] [.list (l.map rrc) tl,.I t]∧l.length≤1000000∧tot l≤1000000∧br (decide ((↑(taken l t):Int)>4)) c a) c)∧(l_1.map rrc≠[]→∃(l:List Rr) (tl:Tail) (t:Int),ah [f,.I 1] [.list (l.map rrc) tl,.I t]∧l.length≤1000000∧tot l≤1000000∧br (decide ((↑(taken l t):Int)>4) == false) (∃(l:List Rr) (tl:Tail) (t:Int),ah [f,.I 2] [.list (l.map rrc) tl,.I t]∧l.length≤1000000∧tot l≤1000000∧br (decide ((↑(taken l t):Int)>4)) c a) c))∧(b_1.map rrc≠[]→aS e (l_1.map rrc) 4 48∧List.all g PV.one=true∧(l_1.map rrc=[]→∃(l:List Rr) (tl:Tail) (t:Int),ah [.list e (.tok 0),.I 1] [.list (l.map rrc) tl,.I t]∧l.length≤1000000∧tot l≤1000000∧br (decide ((↑(taken l t):Int)>4) == false) (∃(l:List Rr) (tl:Tail) (t:Int),ah [.list e (.tok 0),.I 2] [.list (l.map rrc) tl,.I t]∧l.length≤1000000∧tot l≤1000000∧br (decide ((↑(taken l t):Int)>4)) c a) c)∧(l_1.map rrc≠[]→∃(l:List Rr) (tl:Tail) (t:Int),ah [d,.I 1] [.list (l.map rrc) tl,.I t]∧l.length≤1000000∧tot l≤1000000∧br (decide ((↑(taken l t):Int)>4) == false) (∃(l:List Rr) (tl:Tail) (t:Int),ah [d,.I 2] [.list (l.map rrc) tl,.I t]∧l.length≤1000000∧tot l≤1000000∧br (decide ((↑(taken l t):Int)>4)) c a) c)))→AcK 59 [.list (w.map mtc) .no,.list (b.map rrc) .no,.list (l.map rrc) .no] [] (fun x _=>K x):=fun K h=>acW (T:=TWF) (L:=[([1,1,1,0,1,0],HZ)]) (fun o=>match o.dst with|some 79=>4|some 81=>4|_=>0) Tryz.func59 (jT) (.cons suE Ed (.nil _ _ _ _ _)) h
theorem Gy (l:List Se) (i:Nat):(by refine(?_:_→_→Prop) (PV.list (l.map stc) .no) (PV.I (wI ((i:Int)+1))); exact fun j m=>by refine(?_:_→Prop) [j,.E,.I i]; exact fun k=>∀(R:Ex→List PV→ae→Prop),(br (decide ((i:Int)<8)) (∃(l_1:List Se) (tl:Tail) (t:Int),by refine(?_:_→Prop) (List.getD (l.map stc) (Int.toNat (fh l_1 t)) []); exact fun a=>by refine(?_:_→_→_→_→_→Prop) (PV.I (cI a 1)) (PV.I (cI a 2)) (PV.I (cI a 3)) (PV.I (cI a 4)) (PV.int .u64 (cI a 5)); exact fun c d f g h=>by refine(?_:_→Prop) [[PV.U (cI a 0),c,d,f,g,h]]; exact fun b=>ah [j,.I i] [.list (l_1.map stc) tl,.I t]∧l_1.length≤1000000∧br (decide (fh l_1 t≥0)) (InL (l.map stc) 6 (fh l_1 t)∧br (true && aE [.int .u32,.int .i64,.int .i64,.int .i64,.int .i64,.int .u64] 0 a) (aS [] b 6 48∧(List.all [.U (cI a 0),c,d,f,g,h] PV.one=true∧b≠[])∧R .normal [j,.list b (.tok 0),m] [.tok]) False) (R .normal [j,.E,m] [])) (R (.exit 0) k []))→Holds (wpK TRF [] (fun o=>match o.dst with|some 21=>1|_=>0) (aj [1,1,0,1,0] (ag Tryz.f94)) [] (an [0,3,4] k) [] (fun ex e H=>R ex (List.map e [0,3,4]) H)):Prop):=fun R h=>hoE h
theorem EF (l:List Se) (es:List (List PV)) (i:Nat):(by refine(?_:_→_→Prop) (PV.list (l.map stc) .no) (PV.I (wI ((i:Int)+1))); exact fun j m=>by refine(?_:_→Prop) [j,.list es (.tok 0),.I i]; exact fun k=>∀(R:Ex→List PV→ae→Prop),(br (decide ((i:Int)<8)) (∃(l_1:List Se) (tl:Tail) (t:Int),by refine(?_:_→Prop) (List.getD (l.map stc) (Int.toNat (fh l_1 t)) []); exact fun a=>by refine(?_:_→_→_→_→_→Prop) (PV.I (cI a 1)) (PV.I (cI a 2)) (PV.I (cI a 3)) (PV.I (cI a 4)) (PV.int .u64 (cI a 5)); exact fun c d f g h=>by refine(?_:_→Prop) [[PV.U (cI a 0),c,d,f,g,h]]; exact fun b=>ah [j,.I i] [.list (l_1.map stc) tl,.I t]∧l_1.length≤1000000∧br (decide (fh l_1 t≥0)) (InL (l.map stc) 6 (fh l_1 t)∧br (true && aE [.int .u32,.int .i64,.int .i64,.int .i64,.int .i64,.int .u64] 0 a) (aS es b 6 48∧(List.all [.U (cI a 0),c,d,f,g,h] PV.one=true∧b≠[])∧R .normal [j,.list (es++b) (.tok 1),m] [.dead,.tok]) False) (R .normal [j,.list es (.tok 0),m] [.tok])) (R (.exit 0) k [.tok]))→Holds (wpK TRF [] (fun o=>match o.dst with|some 21=>1|_=>0) (aj [1,1,0,1,0] (ag Tryz.f94)) [] (an [0,3,4] k) [.tok] (fun ex e H=>R ex (List.map e [0,3,4]) H)):Prop):=fun R h=>hoE h
def jS (w:List Mt) (b l:List Rr):Int:=if(wsR w ws0 l).ids=true then 14 else if szW b l=true then 21 else if(wsR w ws0 l).ex=true then 11 else 0
theorem lO (l:List Rr):List.all (l.map rrc).flatten PV.one=true:=List.all_eq_true.2 jh
theorem iT {a b:List Rr} (h:a.length+b.length≤1000000):aS (a.map rrc) (b.map rrc) 4 48:=⟨bZ eZ _,bZ eZ _,by rw[List.length_map,List.length_map]; omega⟩
theorem J8 {b l:List Rr} (h:¬ taken (b++l) 1>4):szW b l=(((l.length:Int) == 0) || l.any bT || decide ((taken (b++l) 2:Int)>4)):=by
 unfold szW mxI
 congr 1
 apply decide_eq_decide.2
 split<;>omega
theorem Ga {b l:List Rr} (h:taken (b++l) 1>4):szW b l=true:=by
 unfold szW mxI
 rw[decide_eq_true (by split<;>omega),Bool.or_true]
def tw (args:List PV) (K:PV→Prop):Prop:=∃(w:List Mt) (b l:List Rr) (t0 t1 t2:Tail),ah args [.list (w.map mtc) t0,.list (b.map rrc) t1,.list (l.map rrc) t2]∧SmM w∧(∀ r∈l,∀ p∈r.pl,0≤p)∧b.length+l.length≤1000000∧tot b+tot l≤1000000∧K (.I (jS w b l))
theorem yV:SpK 59 (.pure tw):=by
 rintro args K ⟨w,b,l,t0,t1,t2,he,sw,h0,hl,ht,hk⟩
 have he:args=_:=he
 subst he
 have e1:(List.map rrc l).length=l.length:=List.length_map _
 refine bw ai (.cons (.list _ _) (.cons (.list _ _) (.cons (.list _ _) .nil))) (ef (bF w) (aM b) (aM l)) (.int _ _) (Gv w b l (fun x=>x = .I (jS w b l)) ⟨w,b,l,((l.length:Int) == 0),sw,h0,by omega,by omega,?_,rfl,?_⟩) hk
 ·show _=_
  rw[e1]
 have fin:∀(x:PV),(∃ tl,x = .list ((b++l).map rrc) tl)→∃(k:List Rr) (tl:Tail) (t:Int),ah [x,.I 1] [.list (k.map rrc) tl,.I t]∧k.length≤1000000∧tot k≤1000000∧br (decide ((taken k t:Int)>4) == false)
   (∃(k:List Rr) (tl:Tail) (t:Int),ah [x,.I 2] [.list (k.map rrc) tl,.I t]∧k.length≤1000000∧tot k≤1000000∧br (decide ((taken k t:Int)>4)) (br (wsR w ws0 l).ids (PV.I 14 = .I (jS w b l)) (PV.I 21 = .I (jS w b l)))
    (br (wsR w ws0 l).ids (PV.I 14 = .I (jS w b l)) (br (((l.length:Int) == 0) || l.any bT) (PV.I 21 = .I (jS w b l)) (br (wsR w ws0 l).ex (PV.I 11 = .I (jS w b l)) (PV.I 0 = .I (jS w b l))))))
   (br (wsR w ws0 l).ids (PV.I 14 = .I (jS w b l)) (PV.I 21 = .I (jS w b l))):=by
  rintro x ⟨tl,rfl⟩
  refine⟨b++l,tl,1,rfl,by rw[List.length_append]; exact hl,by rw[nA]; exact ht,?_⟩
  simp only[ar]
  unfold jS
  by_cases c1:taken (b++l) 1>4
  ·rw[if_neg (by rw[decide_eq_true (by omega)]; decide),Ga c1]
   by_cases ci:(wsR w ws0 l).ids=true
   ·rw[if_pos ci,if_pos ci]
   ·rw[if_neg ci,if_neg ci,if_pos rfl]
  ·rw[if_pos (by rw[decide_eq_false (by omega)]; rfl),J8 c1]
   refine⟨b++l,tl,2,rfl,by rw[List.length_append]; exact hl,by rw[nA]; exact ht,?_⟩
   by_cases c2:decide ((taken (b++l) 2:Int)>4)=true
   ·rw[if_pos c2,c2,Bool.or_true]
    by_cases ci:(wsR w ws0 l).ids=true
    ·rw[if_pos ci,if_pos ci]
    ·rw[if_neg ci,if_neg ci,if_pos rfl]
   ·rw[if_neg c2,show decide ((taken (b++l) 2:Int)>4)=false by simpa using c2,Bool.or_false]
    by_cases ci:(wsR w ws0 l).ids=true
    ·rw[if_pos ci,if_pos ci]
    ·rw[if_neg ci,if_neg ci]
     by_cases cz:(((l.length:Int) == 0) || l.any bT)=true
     ·rw[if_pos cz,if_pos cz]
     ·rw[if_neg cz,if_neg cz]
      by_cases cx:(wsR w ws0 l).ex=true
      ·rw[if_pos cx,if_pos cx]
      ·rw[if_neg cx,if_neg cx]
 refine⟨iT (a:=[]) (b:=b) (by simp; omega),lO b,fun eb=>⟨iT (a:=[]) (b:=l) (by simp; omega),lO l,fun el=>?_,fun el=>?_⟩,fun eb=>⟨iT (a:=b) (b:=l) hl,lO l,fun el=>?_,fun el=>?_⟩⟩
 ·have e2:b=[]:=List.map_eq_nil_iff.1 eb
  have e3:l=[]:=List.map_eq_nil_iff.1 el
  exact fin _ ⟨.exact,by rw[e2,e3]; rfl⟩
 ·have e2:b=[]:=List.map_eq_nil_iff.1 eb
  exact fin _ ⟨_,by rw[e2]; rfl⟩
 ·have e3:l=[]:=List.map_eq_nil_iff.1 el
  exact fin _ ⟨_,by rw[e3,List.append_nil]; rfl⟩
 ·exact fin _ ⟨_,by rw[List.map_append]; rfl⟩
def byI (l:List Se) (i:Nat):List Se:=(List.range i).filterMap fun(n:Nat)=>if l.findIdx (nuT (n:Int))<l.length then some (l.getD (l.findIdx (nuT (n:Int))) default) else none
theorem oM (l:List Se) (i:Nat):byI l (i+1)=byI l i++(if l.findIdx (nuT (i:Int))<l.length then [l.getD (l.findIdx (nuT (i:Int))) default] else []):=by
 unfold byI
 rw[List.range_succ,List.filterMap_append]
 congr 1
 rw[List.filterMap_cons]
 split
 ·rename_i h; split at h
  ·cases h
  ·rename_i h2; rw[if_neg h2]; rfl
 ·rename_i b h; split at h
  ·rename_i h2; rw[if_pos h2]; cases h; rfl
  ·cases h
theorem FR (l:List Se) (i:Nat):(byI l i).length≤i:=by
 have:=List.length_filterMap_le (fun n:Nat=>if l.findIdx (nuT (n:Int))<l.length then some (l.getD (l.findIdx (nuT (n:Int))) default) else none) (List.range i)
 rwa [List.length_range] at this
def HL:LSp:=fun e H Q=>∃(l:List Se),l.length≤1000000∧ah (List.map e [0,3,4]) [.list (l.map stc) .no,.E,.I 0]∧ax H []∧Q (.exit 0) (an [0,3,4] [.list (l.map stc) .no,.list ((byI l 8).map stc) .no,.I 8]) [.dead]
theorem AZ:∀ e H Q,HL e H Q→AwK Tryz.f94.ntmps (.loop (aj [1,1,0,1,0] (ag Tryz.f94))) Q e H:=by
 rintro e H Q ⟨l,hl,he,hH,hQ⟩
 have hH2:H=[]:=hH
 refine ga (f:=stc) (acc:=fun i=>byI l i) (I:=fun i=>i≤8) (m:=fun i=>8-i) (hn:=fun o=>match o.dst with|some 21=>1|_=>0) ai qY (.nil _ _ _ _ _) [0,3,4] (fun r i=>[.list (l.map stc) .no,r,.I i]) [] (0:Nat)
  (fun o cs h=>by simp at h) (fun _ _ a _=>cU a) (fun es i k _ h=> .same (dh l) (.row h (.same (.int _ _) .nil))) (fun i _ w hw=>by
   simp only[List.mem_cons,List.not_mem_nil,or_false] at hw
   rcases hw with rfl|rfl|rfl
   ·exact dh l
   ·exact aF NT.exact (by simp)
   ·exact .int _ _) (Nat.zero_le _) rfl he hH2 ?_ ?_
 ·intro i hi ha
  have hi':i≤8:=hi
  have ha:byI l i=[]:=ha
  have hs:=oM l i
  refine Gy l i _ ?_
  simp only[ar,dt]
  by_cases h:i<8
  ·rw[if_pos (by omega)]
   refine⟨l,.no,i,rfl,hl,?_⟩
   unfold fh
   by_cases c:l.findIdx (nuT (i:Int))<l.length
   ·rw[if_pos c] at hs
    rw[if_pos c,if_pos (by omega)]
    simp only[ak,lF,getD_map default c]
    refine⟨c,?_⟩
    rw[if_pos (by rfl)]
    refine⟨aG (l:=[]) (by_:=48) bJ (l.getD (l.findIdx (nuT (i:Int))) default) (by show(0+1)*48≤_; decide),one_row dZ _,?_⟩
    exact aX (i+1) (show 8-(i+1)<8-i by omega) h hs (by simp) [.tok] 0 rfl rfl (by simp) (by(try dsimp only); rw[ha,au h (by omega)]; rfl)
   ·rw[if_neg c,List.append_nil] at hs
    rw[if_neg c,if_neg (by decide)]
    exact jY (i+1) (show 8-(i+1)<8-i by omega) h (hs.trans ha) [] rfl (by rw[au h (by omega)])
  ·rw[if_neg (by omega)]
   have:i=8:=by omega
   subst this
   rw[ha] at hQ
   exact bV (.cons (.refl _) (.cons (.list _ _) (.cons (.refl _) .nil))) (dS _) hQ
 ·intro i hi ha
  have hi':i≤8:=hi
  have ha:byI l i≠[]:=ha
  have hs:=oM l i
  have hbl:=FR l i
  refine EF l ((byI l i).map stc) i _ ?_
  simp only[ar,dt]
  by_cases h:i<8
  ·rw[if_pos (by omega)]
   refine⟨l,.no,i,rfl,hl,?_⟩
   unfold fh
   by_cases c:l.findIdx (nuT (i:Int))<l.length
   ·rw[if_pos c] at hs
    rw[if_pos c,if_pos (by omega)]
    simp only[ak,lF,getD_map default c]
    refine⟨c,?_⟩
    rw[if_pos (by rfl)]
    refine⟨aG bJ _ (l.getD (l.findIdx (nuT (i:Int))) default) (by omega),one_row dZ _,?_⟩
    exact aX (i+1) (show 8-(i+1)<8-i by omega) h hs (by simp) [.dead,.tok] 1 rfl rfl (by simp) (by(try dsimp only); rw[au h (by omega),List.map_append]; rfl)
   ·rw[if_neg c,List.append_nil] at hs
    rw[if_neg c,if_neg (by decide)]
    exact aX (i+1) (show 8-(i+1)<8-i by omega) h hs ha [.tok] 0 rfl rfl (by simp) (by rw[au h (by omega)])
  ·rw[if_neg (by omega)]
   have:i=8:=by omega
   subst this
   exact bV (.cons (.refl _) (.cons (.list _ _) (.cons (.refl _) .nil))) (eL [] .tok) hQ
theorem G9 (l:List Se)  (K:PV→Prop) (h:∃(l_1:List Se),List.length l_1≤1000000∧ah [.list (List.map stc l) .no,.E,.I 0] [.list (List.map stc l_1) .no,.E,.I 0]∧ax [] []∧K (.list (List.map stc (byI l_1 8)) .no)):AcK 94 [.list (l.map stc) .no] [] (fun x _=>K x):=
 acW (T:=TRF) (L:=[([1,1,0,1,0],HL)]) (fun o=>match o.dst with|some 21=>1|_=>0) Tryz.func94 (qY) (.cons suE AZ (.nil _ _ _ _ _)) h
def Il (args:List PV) (K:PV→Prop):Prop:=∃(l:List Se) (tl:Tail),ah args [.list (l.map stc) tl]∧l.length≤1000000∧K (.list ((byI l 8).map stc) .no)
theorem JM:SpK 94 (.pure Il):=by
 rintro args K ⟨l,tl,he,h,hk⟩
 have he:args=_:=he
 subst he
 exact bw ai (.cons (.list _ _) .nil) (bu (dh l)) (dh _) (G9 l (fun x=>x = .list ((byI l 8).map stc) .no) ⟨l,h,rfl,rfl,rfl⟩) hk
def cD:Mt→List Int→Int→List Se
 | _,[],_=>[]
 | c,p::ps,t=>fw c.aa p t::cD (fB c p t) ps t
def dR:Mt→List Rr→List Se
 | _,[]=>[]
 | c,r::l=>cD c r.pl r.tm++dR (fe c r) l
theorem qu (p t:Int):∀(ps:List Int) (c:Mt),cD c (ps++[p]) t=cD c ps t++[fw (cE c ps t).aa p t]
 | [],_=>rfl
 | q::ps,c=>by show fw c.aa q t::cD (fB c q t) (ps++[p]) t=_; rw[qu p t ps]; rfl
theorem lR {c:Mt} {ps:List Int} {t:Int} {k:Nat} (h:k<ps.length):cD c (ps.take (k+1)) t=cD c (ps.take k) t++[fw (cE c (ps.take k) t).aa (ps.getD k 0) t]:=by rw[aK 0 h,qu]
theorem qj (r:Rr):∀(l:List Rr) (c:Mt),dR c (l++[r])=dR c l++cD (ay c l) r.pl r.tm
 | [],c=>by show cD c r.pl r.tm++[]=_; rw[List.append_nil]; rfl
 | q::l,c=>by show cD c q.pl q.tm++dR (fe c q) (l++[r])=(cD c q.pl q.tm++dR (fe c q) l)++_; rw[qj r l,List.append_assoc]; rfl
theorem lK {c:Mt} {l:List Rr} {k:Nat} (h:k<l.length):dR c (l.take (k+1))=dR c (l.take k)++cD (ay c (l.take k)) (l.getD k default).pl (l.getD k default).tm:=by rw[aK default h,qj]
theorem fg (t:Int):∀(ps:List Int) (c:Mt),(cD c ps t).length=ps.length
 | [],_=>rfl
 | p::ps,c=>by show(_::cD _ ps t).length=_; rw[List.length_cons,fg t ps,List.length_cons]
theorem gj:∀(l:List Rr) (c:Mt),(dR c l).length=tot l
 | [],_=>rfl
 | r::l,c=>by show(cD c r.pl r.tm++dR _ l).length=_; rw[List.length_append,fg,gj l]; unfold tot; simp
theorem kq (t:Int):∀(ps:List Int) (c:Mt) (b:List Se),b.Perm c.aa→(b++cD c ps t).Perm (cE c ps t).aa
 | [],c,b,h=>by show(b++[]).Perm _; rw[List.append_nil]; exact h
 | p::ps,c,b,h=>by
  show(b++(fw c.aa p t::cD (fB c p t) ps t)).Perm (cE (fB c p t) ps t).aa
  rw[show b++(fw c.aa p t::cD (fB c p t) ps t)=(b++[fw c.aa p t])++cD (fB c p t) ps t by simp]
  refine kq t ps (fB c p t) _ ?_
  refine List.perm_append_comm.trans ?_
  exact(h.cons (fw c.aa p t)).trans (gE c.aa (cN c.aa) (fw c.aa p t)).symm
theorem nx:∀(l:List Rr) (c:Mt) (b:List Se),b.Perm c.aa→(b++dR c l).Perm (ay c l).aa
 | [],c,b,h=>by show(b++[]).Perm _; rw[List.append_nil]; exact h
 | r::l,c,b,h=>by
  show(b++(cD c r.pl r.tm++dR (fe c r) l)).Perm (ay (fe c r) l).aa
  rw[← List.append_assoc]
  exact nx l (fe c r) _ (kq r.tm r.pl c b h)
theorem SO.gap {s:List Se} (h:SO s):∀ x∈s,x.nu≠(cN s:Int):=by
 intro x hx e
 obtain⟨i,hi,rfl⟩:=List.mem_iff_getElem.1 hx
 by_cases c:i<cN s
 ·have h1:=nB c
  rw[List.getD_eq_getElem?_getD,List.getElem?_eq_getElem hi,Option.getD_some] at h1
  omega
 ·have hg:cN s<s.length:=by omega
  have h1:=h.ge (cN s) hg
  have h2:=rP hg
  rw[List.getD_eq_getElem?_getD,List.getElem?_eq_getElem hg,Option.getD_some] at h1 h2
  rcases Nat.eq_or_lt_of_le (Nat.not_lt.1 c) with e2|c2
  ·subst e2; omega
  ·have:=List.pairwise_iff_getElem.1 h.sn (cN s) i hg hi c2
   omega
theorem qH {b s:List Se} (h:SO s) (hp:b.Perm s):fh b (cN s) = -1∧∀ k,k<cN s→0≤fh b k:=by
 constructor
 ·unfold fh
  rw[if_neg]
  intro hl
  obtain⟨x,hx,e⟩:=List.findIdx_lt_length.1 hl
  exact h.gap x (hp.subset hx) (eq_of_beq e)
 ·intro k hk
  unfold fh
  rw[if_pos]
  ·omega
  ·have hl:=eD s
   refine List.findIdx_lt_length.2 ⟨s.getD k default,hp.symm.subset (aU (by omega)),?_⟩
   unfold nuT; rw[nB hk]; exact beq_self_eq_true _
theorem filter_lt {s:List Se} (h:s.Pairwise fun a b=>a.nu<b.nu) (n:Int):s.filter (fun x=>decide (x.nu<n+1))=s.filter (fun x=>decide (x.nu<n))++s.filter (fun x=>x.nu == n):=by
 induction s with
 | nil=>rfl
 | cons a s ih=>
  have ih:=ih (List.pairwise_cons.1 h).2
  have ha:=(List.pairwise_cons.1 h).1
  by_cases c1:a.nu<n
  ·rw[List.filter_cons_of_pos (by simpa using by omega),List.filter_cons_of_pos (by simpa using c1),List.filter_cons_of_neg (by simp; omega),ih]; rfl
  ·have e0:∀ x∈s,¬ x.nu≤n:=fun x hx=>by have:=ha x hx; omega
   have e1:s.filter (fun x=>decide (x.nu<n))=[]:=List.filter_eq_nil_iff.2 fun x hx=>by have:=e0 x hx; simp; omega
   have e2:s.filter (fun x=>x.nu == n)=[]:=List.filter_eq_nil_iff.2 fun x hx=>by have:=e0 x hx; simp; omega
   have e3:s.filter (fun x=>decide (x.nu<n+1))=[]:=List.filter_eq_nil_iff.2 fun x hx=>by have:=e0 x hx; simp; omega
   by_cases c2:a.nu=n
   ·rw[List.filter_cons_of_pos (by simp; omega),List.filter_cons_of_neg (by simp; omega),List.filter_cons_of_pos (by simp; omega),e1,e2,e3]; rfl
   ·rw[List.filter_cons_of_neg (by simp; omega),List.filter_cons_of_neg (by simp; omega),List.filter_cons_of_neg (by simp; omega),e1,e2,e3]; rfl
theorem filter_eq {b s:List Se} (h:s.Pairwise fun a b=>a.nu<b.nu) (hp:b.Perm s) (n:Int):s.filter (fun x=>x.nu == n)=if b.findIdx (nuT n)<b.length then [b.getD (b.findIdx (nuT n)) default] else []:=by
 by_cases c:b.findIdx (nuT n)<b.length
 ·rw[if_pos c]
  have h1:nuT n (b.getD (b.findIdx (nuT n)) default)=true:=by
   have:=List.findIdx_getElem (w:=c)
   rwa [List.getD_eq_getElem?_getD,List.getElem?_eq_getElem c]
  obtain⟨x,hx⟩:∃ x,x=b.getD (b.findIdx (nuT n)) default:=⟨_,rfl⟩
  have hm:x∈s:=hp.subset (by rw[hx]; exact aU c)
  rw[← hx] at h1 ⊢
  have h1:x.nu=n:=eq_of_beq h1
  clear hx c hp
  induction s with
  | nil=>cases hm
  | cons a s ih=>
   have ha:=(List.pairwise_cons.1 h).1
   rcases List.mem_cons.1 hm with rfl|hm
   ·rw[List.filter_cons_of_pos (by simp[h1]),List.filter_eq_nil_iff.2 fun y hy=>by have:=ha y hy; simp; omega]
   ·have:=ha x hm
    rw[List.filter_cons_of_neg (by simp; omega)]
    exact ih (List.pairwise_cons.1 h).2 hm
 ·rw[if_neg c,List.filter_eq_nil_iff]
  intro x hx e
  exact c (List.findIdx_lt_length.2 ⟨x,hp.symm.subset hx,e⟩)
theorem oY {b s:List Se} (h:SO s) (hp:b.Perm s):∀ i:Nat,byI b i=s.filter fun x=>decide (x.nu<(i:Int))
 | 0=>by
  rw[List.filter_eq_nil_iff.2 fun x hx=>by have:=h.lo x hx; simp; omega]; rfl
 | i+1=>by
  have:=filter_lt h.sn (i:Int)
  rw[oM,oY h hp i,show(((i+1:Nat):Int))=(i:Int)+1 by omega,this,filter_eq h.sn hp]
theorem JI {b s:List Se} (h:SO s) (hp:b.Perm s) (hb:∀ x∈s,x.nu<8):byI b 8=s:=by
 rw[oY h hp]
 exact List.filter_eq_self.2 fun x hx=>by have:=hb x hx; simp; omega
def TSJ:Tab:=[(93,.pure uO),(94,.pure Il)]
theorem gJ:TbK TSJ:= .cons vX (.cons JM (.nil _ _))
theorem vO {p z:List PV} (hp:∀ x∈p,Low 0 x) (hz:∀ x∈z,Low 0 x):ot [.cells p,.cells z]:=by
 intro o cs ho
 have k1:=(List.getElem?_eq_some_iff.1 ho).1
 simp at k1
 have:o=0∨o=1:=by omega
 rcases this with rfl|rfl<;>cases ho<;>intro x hx<;>first|exact .inl (hp x hx)|exact .inl (hz x hx)
theorem r7 {l:List Rr} {z:List PV} (hz:∀ x∈z,Low 0 x):Ll 2 (fun T=> .list (l.map rrc) .no :: .ptr 0 0 :: .ptr 1 0::T::z):=by
 intro ρ n k es h1 h2 h3 h4
 have e0:=Ren.ptr (ρ:=ρ) (n:=n) 0 0 (by omega)
 have e1:=Ren.ptr (ρ:=ρ) (n:=n) 1 0 (by omega)
 rw[h1 0 (by decide)] at e0
 rw[h1 1 (by decide)] at e1
 exact .cons (.low (aM _)) (.cons e0 (.cons e1 (.cons (.ltok es k h3 h4) (aT.low hz))))
theorem Jy (p z:List PV) (l:List Rr) (i k n:Nat):(by refine(?_:_→_→Prop) [PV.list (l.map rrc) .no,.ptr 0 0,.ptr 1 0,.E,.I i,.I k,.I n] [Ob.cells p,.cells z]; exact fun a b=>∀(R:Ex→List PV→ae→Prop),(∃(l_1:List Se) (tl:Tail) (t:Int),ah [.E,.I n] [.list (l_1.map stc) tl,.I t]∧l_1.length≤1000000∧br (decide (fh l_1 t≥0)) (R .normal [.list (l.map rrc) .no,.ptr 0 0,.ptr 1 0,.E,.I i,.I k,.I (wI ((n:Int)+1))] b) (R (.exit 4) a b))→Holds (wpK TSJ [] (fun _=>0) (aj [1,1,1,0,1,0,0,1,0,0,1,0,0,1,0,0,1,0,0] (ag Tryz.f61)) [] (an [1,2,4,5,6,7,8] a) b (fun ex e H=>R ex (List.map e [1,2,4,5,6,7,8]) H)):Prop):=fun R h=>hoE h
def wJ:LSp:=fun e H Q=>∃(p z:List PV) (l:List Rr) (i k g:Nat),g≤1000000∧fh [] g = -1∧(∀ k:Nat,k<g→0≤fh [] k)∧ah (List.map e [1,2,4,5,6,7,8]) [.list (l.map rrc) .no,.ptr 0 0,.ptr 1 0,.E,.I i,.I k,.I 0]∧ax H [.cells p,.cells z]∧Q (.exit 4) (an [1,2,4,5,6,7,8] [.list (l.map rrc) .no,.ptr 0 0,.ptr 1 0,.E,.I i,.I k,.I g]) [.cells p,.cells z]
theorem D3:∀ e H Q,wJ e H Q→AwK Tryz.f61.ntmps (.loop (aj [1,1,1,0,1,0,0,1,0,0,1,0,0,1,0,0,1,0,0] (ag Tryz.f61))) Q e H:=by
 rintro e H Q ⟨p,z,l,i,k,g,hg,h1,h2,he,hH,hQ⟩
 have hH:H=_:=hH
 refine aB (hn:=fun _=>0) ai gJ (.nil _ _ _ _ _) (σ:=Nat) [1,2,4,5,6,7,8] (fun n=>n≤g) (fun n=>[.list (l.map rrc) .no,.ptr 0 0,.ptr 1 0,.E,.I i,.I k,.I n]) (fun _=>[.cells p,.cells z]) (fun n=>g-n) 0 (Nat.zero_le _) he hH ?_
 intro n hn
 have hn:n≤g:=hn
 refine Jy p z l i k n _ ?_
 refine⟨[],_,n,rfl,(by decide),?_⟩
 simp only[ar,dt]
 by_cases c:n=g
 ·subst c
  rw[if_neg (by rw[h1]; decide)]
  exact hQ
 ·rw[if_pos (by have:=h2 n (by omega); omega)]
  exact⟨n+1,(show g-(n+1)<g-n by omega),(show n+1≤g by omega),by rw[au (show n<g by omega) (by omega)],[],by rw[List.append_nil],Nat.le_refl _,.inl rfl⟩
theorem I8 (p z:List PV) (l:List Rr) (b:List Se) (i k n:Nat):(by refine(?_:_→_→Prop) (PV.list (b.map stc) (.tok 2)) [Ob.cells p,.cells z,.tok]; exact fun c d=>by refine(?_:_→Prop) [PV.list (l.map rrc) .no,.ptr 0 0,.ptr 1 0,c,.I i,.I k,.I n]; exact fun a=>∀(R:Ex→List PV→ae→Prop),(∃(l_1:List Se) (tl:Tail) (t:Int),ah [c,.I n] [.list (l_1.map stc) tl,.I t]∧l_1.length≤1000000∧br (decide (fh l_1 t≥0)) (R .normal [.list (l.map rrc) .no,.ptr 0 0,.ptr 1 0,c,.I i,.I k,.I (wI ((n:Int)+1))] d) (R (.exit 4) a d))→Holds (wpK TSJ [] (fun _=>0) (aj [1,1,1,0,1,0,0,1,0,0,1,0,0,1,0,0,1,0,0] (ag Tryz.f61)) [] (an [1,2,4,5,6,7,8] a) d (fun ex e H=>R ex (List.map e [1,2,4,5,6,7,8]) H)):Prop):=fun R h=>hoE h
def xB:LSp:=fun e H Q=>∃(p z:List PV) (l:List Rr) (b:List Se) (i k g:Nat),b.length≤1000000∧g≤1000000∧fh b g = -1∧(∀ k:Nat,k<g→0≤fh b k)∧ah (List.map e [1,2,4,5,6,7,8]) [.list (l.map rrc) .no,.ptr 0 0,.ptr 1 0,.list (b.map stc) (.tok 2),.I i,.I k,.I 0]∧ax H [.cells p,.cells z,.tok]∧Q (.exit 4) (an [1,2,4,5,6,7,8] [.list (l.map rrc) .no,.ptr 0 0,.ptr 1 0,.list (b.map stc) (.tok 2),.I i,.I k,.I g]) [.cells p,.cells z,.tok]
theorem Ew:∀ e H Q,xB e H Q→AwK Tryz.f61.ntmps (.loop (aj [1,1,1,0,1,0,0,1,0,0,1,0,0,1,0,0,1,0,0] (ag Tryz.f61))) Q e H:=by
 rintro e H Q ⟨p,z,l,b,i,k,g,hb,hg,h1,h2,he,hH,hQ⟩
 have hH:H=_:=hH
 refine aB (hn:=fun _=>0) ai gJ (.nil _ _ _ _ _) (σ:=Nat) [1,2,4,5,6,7,8] (fun n=>n≤g) (fun n=>[.list (l.map rrc) .no,.ptr 0 0,.ptr 1 0,.list (b.map stc) (.tok 2),.I i,.I k,.I n]) (fun _=>[.cells p,.cells z,.tok]) (fun n=>g-n) 0 (Nat.zero_le _) he hH ?_
 intro n hn
 have hn:n≤g:=hn
 refine I8 p z l b i k n _ ?_
 refine⟨b,_,n,rfl,hb,?_⟩
 simp only[ar,dt]
 by_cases c:n=g
 ·subst c
  rw[if_neg (by rw[h1]; decide)]
  exact hQ
 ·rw[if_pos (by have:=h2 n (by omega); omega)]
  exact⟨n+1,(show g-(n+1)<g-n by omega),(show n+1≤g by omega),by rw[au (show n<g by omega) (by omega)],[],by rw[List.append_nil],Nat.le_refl _,.inl rfl⟩
theorem Ah:aj [1,0,0,1,0,0] (aj [1,1,1,0,1,0,0,1,0,0,1,0] (ag Tryz.f61))=aj [1,1,1,0,1,0,0,1,0,0,1,0,0,1,0,0,1,0,0] (ag Tryz.f61):=by kernel_rfl
theorem xP:∀ e H Q,wJ e H Q→AwK Tryz.f61.ntmps (.loop (aj [1,0,0,1,0,0] (aj [1,1,1,0,1,0,0,1,0,0,1,0] (ag Tryz.f61)))) Q e H:=by rw[Ah]; exact D3
theorem xV:∀ e H Q,xB e H Q→AwK Tryz.f61.ntmps (.loop (aj [1,0,0,1,0,0] (aj [1,1,1,0,1,0,0,1,0,0,1,0] (ag Tryz.f61)))) Q e H:=by rw[Ah]; exact Ew
theorem Kv (p z:List PV) (l:List Rr) (i k:Nat):(by refine(?_:_→_→_→Prop) [PV.list (l.map rrc) .no,.ptr 0 0,.ptr 1 0,.E,.I i,.I k] (List.drop 1 (List.getD (l.map rrc) (Int.toNat (i:Int)) [])) [Ob.cells p,.cells z]; exact fun j m n=>∀(R:Ex→List PV→ae→Prop),(InL (l.map rrc) 4 (i:Int)∧br (true && aE [.list] 0 m) (br (decide ((k:Int)<(↑(List.length (cL m 0)):Int))) (∃(p_1:List PV) (z_1:List PV) (l_1:List Rr) (i_1:Nat) (k_1:Nat) (g:Nat),by refine(?_:_→_→Prop) (List.getD (l_1.map rrc) (Int.toNat (i_1:Int)) []) (PV.list (l_1.map rrc) .no); exact fun a f=>by refine(?_:_→_→Prop) (PV.I (cI (List.drop 0 a) 0)) (cL (List.drop 1 a) 0); exact fun d h=>by refine(?_:_→Prop) (List.getD h (Int.toNat (k_1:Int)) []); exact fun c=>by refine(?_:_→Prop) [[PV.U (cI c 0),d,.I g,.I 1,.I 0,.int .u64 0]]; exact fun b=>g≤1000000∧fh [] (g:Int) = -1∧(∀(k:Nat),k<g→0≤fh [] (k:Int))∧ah [.list (l.map rrc) .no,.ptr 0 0,.ptr 1 0,.E,.I i,.I k,.I 0] [f,.ptr 0 0,.ptr 1 0,.E,.I i_1,.I k_1,.I 0]∧ax n [.cells p_1,.cells z_1]∧InL (l_1.map rrc) 4 (i_1:Int)∧br (true && aE [.list] 0 (List.drop 1 a)) (InL h 1 (k_1:Int)∧br (true && aE [.int .u32] 0 c) (InL (l_1.map rrc) 4 (i_1:Int)∧br (true && aE [.int .i64] 0 (List.drop 0 a)) (aS [] b 6 48∧(List.all [.U (cI c 0),d,.I g,.I 1,.I 0,.int .u64 0] PV.one=true∧b≠[])∧R .normal [f,.ptr 0 0,.ptr 1 0,.list b (.tok 2),.I i_1,.I (wI ((k_1:Int)+1))] [.cells p_1,.cells z_1,.tok]) False) False) False) (R (.exit 2) j n)) False)→Holds (wpK TSJ [([1,0,0,1,0,0],wJ)] (fun o=>match o.dst with|some 59=>1|_=>0) (aj [1,1,1,0,1,0,0,1,0,0,1,0] (ag Tryz.f61)) [] (an [1,2,4,5,6,7] j) n (fun ex e H=>R ex (List.map e [1,2,4,5,6,7]) H)):Prop):=fun R h=>hoE h
theorem AC (p z:List PV) (l:List Rr) (b:List Se) (i k:Nat):(by refine(?_:_→_→_→Prop) (List.drop 1 (List.getD (l.map rrc) (Int.toNat (i:Int)) [])) [Ob.cells p,.cells z,.tok] (PV.list (b.map stc) (.tok 2)); exact fun n q r=>by refine(?_:_→Prop) [PV.list (l.map rrc) .no,.ptr 0 0,.ptr 1 0,r,.I i,.I k]; exact fun m=>∀(R:Ex→List PV→ae→Prop),(InL (l.map rrc) 4 (i:Int)∧br (true && aE [.list] 0 n) (br (decide ((k:Int)<(↑(List.length (cL n 0)):Int))) (∃(p_1:List PV) (z_1:List PV) (l_1:List Rr) (b_1:List Se) (i_1:Nat) (k_1:Nat) (g:Nat),by refine(?_:_→_→Prop) (List.getD (l_1.map rrc) (Int.toNat (i_1:Int)) []) (PV.list (l_1.map rrc) .no); exact fun a h=>by refine(?_:_→_→Prop) (PV.I (cI (List.drop 0 a) 0)) (cL (List.drop 1 a) 0); exact fun f j=>by refine(?_:_→Prop) (List.getD j (Int.toNat (k_1:Int)) []); exact fun d=>by refine(?_:_→Prop) [[PV.U (cI d 0),f,.I g,.I 1,.I 0,.int .u64 0]]; exact fun c=>b_1.length≤1000000∧g≤1000000∧fh b_1 (g:Int) = -1∧(∀(k:Nat),k<g→0≤fh b_1 (k:Int))∧ah [.list (l.map rrc) .no,.ptr 0 0,.ptr 1 0,r,.I i,.I k,.I 0] [h,.ptr 0 0,.ptr 1 0,.list (b_1.map stc) (.tok 2),.I i_1,.I k_1,.I 0]∧ax q [.cells p_1,.cells z_1,.tok]∧InL (l_1.map rrc) 4 (i_1:Int)∧br (true && aE [.list] 0 (List.drop 1 a)) (InL j 1 (k_1:Int)∧br (true && aE [.int .u32] 0 d) (InL (l_1.map rrc) 4 (i_1:Int)∧br (true && aE [.int .i64] 0 (List.drop 0 a)) (aS (b_1.map stc) c 6 48∧(List.all [.U (cI d 0),f,.I g,.I 1,.I 0,.int .u64 0] PV.one=true∧c≠[])∧R .normal [h,.ptr 0 0,.ptr 1 0,.list (b_1.map stc++c) (.tok 3),.I i_1,.I (wI ((k_1:Int)+1))] [.cells p_1,.cells z_1,.dead,.tok]) False) False) False) (R (.exit 2) m q)) False)→Holds (wpK TSJ [([1,0,0,1,0,0],xB)] (fun o=>match o.dst with|some 59=>1|_=>0) (aj [1,1,1,0,1,0,0,1,0,0,1,0] (ag Tryz.f61)) [] (an [1,2,4,5,6,7] m) q (fun ex e H=>R ex (List.map e [1,2,4,5,6,7]) H)):Prop):=fun R h=>hoE h
theorem LN:LOk Tryz.prog gl Tryz.f61.ntmps (aj [1,1,1,0,1,0,0,1,0,0,1,0] (ag Tryz.f61)) [] [([1,0,0,1,0,0],wJ)]:=(.cons suE xP (.nil _ _ _ _ _))
theorem Lj:LOk Tryz.prog gl Tryz.f61.ntmps (aj [1,1,1,0,1,0,0,1,0,0,1,0] (ag Tryz.f61)) [] [([1,0,0,1,0,0],xB)]:=(.cons suE xV (.nil _ _ _ _ _))
def xq:LSp:=fun e H Q=>∃(p z:List PV) (l:List Rr) (c:Mt) (i:Nat),(∀ x∈p,Low 0 x)∧(∀ x∈z,Low 0 x)∧l.length≤1000000∧i<l.length∧c.aa=[]∧(l.getD i default).pl.length≤1000000∧ah (List.map e [1,2,4,5,6,7]) [.list (l.map rrc) .no,.ptr 0 0,.ptr 1 0,.E,.I i,.I 0]∧ax H [.cells p,.cells z]∧
 ((l.getD i default).pl=[]→Q (.exit 2) (an [1,2,4,5,6,7] [.list (l.map rrc) .no,.ptr 0 0,.ptr 1 0,.E,.I i,.I 0]) [.cells p,.cells z])∧((l.getD i default).pl≠[]→Q (.exit 2) (an [1,2,4,5,6,7] [.list (l.map rrc) .no,.ptr 0 0,.ptr 1 0,.list ((cD c (l.getD i default).pl (l.getD i default).tm).map stc) (.tok 2),.I i,.I (l.getD i default).pl.length]) [.cells p,.cells z,.tok])
set_option maxRecDepth 10000 in
theorem Ao:∀ e H Q,xq e H Q→AwK Tryz.f61.ntmps (.loop (aj [1,1,1,0,1,0,0,1,0,0,1,0] (ag Tryz.f61))) Q e H:=by
 rintro e H Q ⟨p,z,l,c,i,hp,hz,hl,hi,hc,hrl,he,hH,hQ0,hQ1⟩
 have hH:H=_:=hH
 obtain⟨r,hr⟩:∃ r,r=l.getD i default:=⟨_,rfl⟩
 have hso:SO c.aa:=by rw[hc]; exact SO.nil
 have hcl:c.aa.length=0:=by rw[hc]; rfl
 have hpm:([]:List Se).Perm c.aa:=by rw[hc]
 have inl:InL (l.map rrc) 4 (i:Int):=by rw[dX]; exact hi
 have c1:cL (List.drop 1 (rrc r)) 0=r.pl.map u1:=rfl
 have c0:cI (List.drop 0 (rrc r)) 0=r.tm:=rfl
 simp only[← hr] at hrl hQ0 hQ1
 have hlb:=vO hp hz
 refine jM (f:=stc) (acc:=fun k=>cD c (r.pl.take k) r.tm) (I:=fun k=>k≤r.pl.length) (m:=fun k=>r.pl.length-k) ai [1,2,4,5,6,7] (fun T k=>[.list (l.map rrc) .no,.ptr 0 0,.ptr 1 0,T,.I i,.I k]) [.cells p,.cells z] (0:Nat)
  hlb.up (fun _ _ a _=>cU a) (fun es k j _ h=> .same (aM l) (.same (.ptr _ _ (by simp)) (.same (.ptr _ _ (by simp)) (.row h (.same (.int _ _) (.same (.int _ _) .nil)))))) (fun k _ w hw=>by
   simp only[List.mem_cons,List.not_mem_nil,or_false] at hw
   rcases hw with rfl|rfl|rfl|rfl|rfl|rfl
   ·exact aM l
   ·exact .ptr _ _ (by simp)
   ·exact .ptr _ _ (by simp)
   ·exact aF NT.exact (by simp)
   ·exact .int _ _
   ·exact .int _ _) (Nat.zero_le _) (by simp[cD]) he hH ?_ ?_
 ·intro k hk ha
  have hk':k≤r.pl.length:=hk
  have ha:cD c (r.pl.take k) r.tm=[]:=ha
  have k0:k=0:=by
   have:=fg r.tm (r.pl.take k) c
   rw[ha,List.length_take] at this
   have this:0=min k r.pl.length:=this
   by_cases h:r.pl.length=0
   ·omega
   ·omega
  refine aZ gJ (aj [1,1,1,0,1,0,0,1,0,0,1,0] (ag Tryz.f61)) [] LN _ _ _ (Kv p z l i k _ ?_).out
  simp only[ar,dt,ak,getD_map default hi,← hr,c1,c0,List.length_map]
  refine⟨inl,?_⟩
  rw[if_pos (by rfl)]
  by_cases h:k<r.pl.length
  ·rw[if_pos (by omega)]
   have hsucc:=lR (c:=c) (t:=r.tm) h
   have hgs:=eD (cE c (r.pl.take k) r.tm).aa
   have hsl:(cE c (r.pl.take k) r.tm).aa.length≤1000000:=by rw[eV,List.length_take]; omega
   obtain⟨g1,g2⟩:=qH (nC (r.pl.take k) r.tm c hso) (kq r.tm (r.pl.take k) c [] hpm)
   have inl2:InL (r.pl.map u1) 1 (k:Int):=by rw[de]; exact h
   have cp:cI (u1 (r.pl.getD k 0)) 0=r.pl.getD k 0:=rfl
   rw[ha] at hsucc g1 g2
   refine⟨p,z,l,i,k,_,by omega,g1,g2,rfl,rfl,inl,?_⟩
   simp only[ar,dt,ak,getD_map default hi,← hr,c1,c0,getD_map 0 h,cp]
   rw[if_pos (by rfl)]
   refine⟨inl2,?_⟩
   rw[if_pos (by rfl)]
   refine⟨inl,?_⟩
   rw[if_pos (by rfl)]
   refine⟨aG (l:=[]) (by_:=48) bJ (fw (cE c (r.pl.take k) r.tm).aa (r.pl.getD k 0) r.tm) (by show(0+1)*48≤_; decide),one_row dZ (fw (cE c (r.pl.take k) r.tm).aa (r.pl.getD k 0) r.tm),?_⟩
   exact aX (k+1) (show r.pl.length-(k+1)<r.pl.length-k by omega) h hsucc (by simp) [.tok] 2 rfl rfl (by simp) (by(try dsimp only); rw[au h (by omega)]; rfl)
  ·rw[if_neg (by omega)]
   have hn:r.pl=[]:=List.length_eq_zero_iff.1 (by omega)
   subst k0
   exact bV (WkL.refl _) (Pad.refl _) (hQ0 hn)
 ·intro k hk ha
  have hk':k≤r.pl.length:=hk
  have ha:cD c (r.pl.take k) r.tm≠[]:=ha
  have hnl:(cD c (r.pl.take k) r.tm).length≤1000000:=by rw[fg,List.length_take]; omega
  refine aZ gJ (aj [1,1,1,0,1,0,0,1,0,0,1,0] (ag Tryz.f61)) [] Lj _ _ _ (AC p z l (cD c (r.pl.take k) r.tm) i k _ ?_).out
  simp only[ar,dt,ak,getD_map default hi,← hr,c1,c0,List.length_map]
  refine⟨inl,?_⟩
  rw[if_pos (by rfl)]
  by_cases h:k<r.pl.length
  ·rw[if_pos (by omega)]
   have hnl2:(cD c (r.pl.take k) r.tm).length+1≤1000000:=by rw[fg,List.length_take]; omega
   have hsucc:=lR (c:=c) (t:=r.tm) h
   have hgs:=eD (cE c (r.pl.take k) r.tm).aa
   have hsl:(cE c (r.pl.take k) r.tm).aa.length≤1000000:=by rw[eV,List.length_take]; omega
   obtain⟨g1,g2⟩:=qH (nC (r.pl.take k) r.tm c hso) (kq r.tm (r.pl.take k) c [] hpm)
   have inl2:InL (r.pl.map u1) 1 (k:Int):=by rw[de]; exact h
   have cp:cI (u1 (r.pl.getD k 0)) 0=r.pl.getD k 0:=rfl
   rw[List.nil_append] at g1 g2
   refine⟨p,z,l,cD c (r.pl.take k) r.tm,i,k,_,hnl,by omega,g1,g2,rfl,rfl,inl,?_⟩
   simp only[ar,dt,ak,getD_map default hi,← hr,c1,c0,getD_map 0 h,cp]
   rw[if_pos (by rfl)]
   refine⟨inl2,?_⟩
   rw[if_pos (by rfl)]
   refine⟨inl,?_⟩
   rw[if_pos (by rfl)]
   refine⟨aG (by_:=48) bJ (cD c (r.pl.take k) r.tm) (fw (cE c (r.pl.take k) r.tm).aa (r.pl.getD k 0) r.tm) (by omega),one_row dZ (fw (cE c (r.pl.take k) r.tm).aa (r.pl.getD k 0) r.tm),?_⟩
   exact aX (k+1) (show r.pl.length-(k+1)<r.pl.length-k by omega) h hsucc (by simp) [.dead,.tok] 3 rfl rfl (by simp) (by(try dsimp only); rw[au h (by omega),List.map_append]; rfl)
  ·rw[if_neg (by omega)]
   have hkl:k=r.pl.length:=by omega
   subst hkl
   have hn:r.pl≠[]:=fun e=>ha (by rw[e]; rfl)
   rw[List.take_length]
   exact bV (WkL.refl _) (Pad.refl _) (hQ1 hn)
def wg:LSp:=fun e H Q=>∃(p z:List PV) (l:List Rr) (c:Mt) (b:List Se) (i:Nat),(∀ x∈p,Low 0 x)∧(∀ x∈z,Low 0 x)∧l.length≤1000000∧i<l.length∧SO c.aa∧b.Perm c.aa∧b.length+(l.getD i default).pl.length≤1000000∧ah (List.map e [1,2,4,5,6,7]) [.list (l.map rrc) .no,.ptr 0 0,.ptr 1 0,.list (b.map stc) (.tok 2),.I i,.I 0]∧ax H [.cells p,.cells z,.tok]∧
 ∀(X:ae) (j:Nat),([.cells p,.cells z]++X)[j]?=some .tok→2≤j→Q (.exit 2) (an [1,2,4,5,6,7] [.list (l.map rrc) .no,.ptr 0 0,.ptr 1 0,.list ((b++cD c (l.getD i default).pl (l.getD i default).tm).map stc) (.tok j),.I i,.I (l.getD i default).pl.length]) ([.cells p,.cells z]++X)
theorem El:∀ e H Q,wg e H Q→AwK Tryz.f61.ntmps (.loop (aj [1,1,1,0,1,0,0,1,0,0,1,0] (ag Tryz.f61))) Q e H:=by
 rintro e H Q ⟨p,z,l,c,b,i,hp,hz,hl,hi,hso,hpm,hrl,he,hH,hQ⟩
 have hH:H=_:=hH
 obtain⟨r,hr⟩:∃ r,r=l.getD i default:=⟨_,rfl⟩
 have hcl:c.aa.length=b.length:=hpm.length_eq.symm
 have inl:InL (l.map rrc) 4 (i:Int):=by rw[dX]; exact hi
 have c1:cL (List.drop 1 (rrc r)) 0=r.pl.map u1:=rfl
 have c0:cI (List.drop 0 (rrc r)) 0=r.tm:=rfl
 simp only[← hr] at hrl hQ
 refine pY (f:=stc) (acc:=fun k=>b++cD c (r.pl.take k) r.tm) (I:=fun k=>k≤r.pl.length) (m:=fun k=>r.pl.length-k) (hn:=fun o=>match o.dst with|some 59=>1|_=>0) ai gJ Lj [1,2,4,5,6,7] (fun T k=>[.list (l.map rrc) .no,.ptr 0 0,.ptr 1 0,T,.I i,.I k]) [.cells p,.cells z] (0:Nat)
  (vO hp hz) (fun _ _ a _=>cU a) (fun k _=>r7 (be (.int _ _) (.int _ _))) (fun T k=>rfl) (Nat.zero_le _) (by rw[he]; simp[cD]) hH ?_
 intro k hk
 have hk':k≤r.pl.length:=hk
 have hnl:(b++cD c (r.pl.take k) r.tm).length≤1000000:=by rw[List.length_append,fg,List.length_take]; omega
 refine AC p z l (b++cD c (r.pl.take k) r.tm) i k _ ?_
 simp only[ar,dt,ak,getD_map default hi,← hr,c1,c0,List.length_map]
 refine⟨inl,?_⟩
 rw[if_pos (by rfl)]
 by_cases h:k<r.pl.length
 ·rw[if_pos (by omega)]
  have hnl2:(b++cD c (r.pl.take k) r.tm).length+1≤1000000:=by rw[List.length_append,fg,List.length_take]; omega
  have hsucc:=lR (c:=c) (t:=r.tm) h
  have hgs:=eD (cE c (r.pl.take k) r.tm).aa
  have hsl:(cE c (r.pl.take k) r.tm).aa.length≤1000000:=by rw[eV,List.length_take]; omega
  obtain⟨g1,g2⟩:=qH (nC (r.pl.take k) r.tm c hso) (kq r.tm (r.pl.take k) c b hpm)
  have inl2:InL (r.pl.map u1) 1 (k:Int):=by rw[de]; exact h
  have cp:cI (u1 (r.pl.getD k 0)) 0=r.pl.getD k 0:=rfl
  refine⟨p,z,l,b++cD c (r.pl.take k) r.tm,i,k,_,hnl,by omega,g1,g2,rfl,rfl,inl,?_⟩
  simp only[ar,dt,ak,getD_map default hi,← hr,c1,c0,getD_map 0 h,cp]
  rw[if_pos (by rfl)]
  refine⟨inl2,?_⟩
  rw[if_pos (by rfl)]
  refine⟨inl,?_⟩
  rw[if_pos (by rfl)]
  refine⟨aG (by_:=48) bJ (b++cD c (r.pl.take k) r.tm) (fw (cE c (r.pl.take k) r.tm).aa (r.pl.getD k 0) r.tm) (by omega),one_row dZ (fw (cE c (r.pl.take k) r.tm).aa (r.pl.getD k 0) r.tm),?_⟩
  refine⟨k+1,(show r.pl.length-(k+1)<r.pl.length-k by omega),h,[.dead,.tok],3,rfl,rfl,by simp,?_⟩
  dsimp only
  rw[hsucc,← List.append_assoc,au h (by omega),List.map_append (f:=stc) (l₁:=b++cD c (r.pl.take k) r.tm)]
  rfl
 ·rw[if_neg (by omega)]
  have hkl:k=r.pl.length:=by omega
  subst hkl
  simp only[onQ,List.take_length]
  exact⟨rfl,rfl,hQ [.tok] 2 rfl (Nat.le_refl _),hQ [.dead,.tok] 3 rfl (by decide)⟩
theorem DU:aj [1,0,0,1,0] (aj [1,1,1,0,1,0] (ag Tryz.f61))=aj [1,1,1,0,1,0,0,1,0,0,1,0] (ag Tryz.f61):=by kernel_rfl
theorem xY:∀ e H Q,xq e H Q→AwK Tryz.f61.ntmps (.loop (aj [1,0,0,1,0] (aj [1,1,1,0,1,0] (ag Tryz.f61)))) Q e H:=by rw[DU]; exact Ao
theorem x4:∀ e H Q,wg e H Q→AwK Tryz.f61.ntmps (.loop (aj [1,0,0,1,0] (aj [1,1,1,0,1,0] (ag Tryz.f61)))) Q e H:=by rw[DU]; exact El
theorem IM (p z:List PV) (l:List Rr) (i:Nat):(by refine(?_:_→_→Prop) [PV.list (l.map rrc) .no,.ptr 0 0,.ptr 1 0,.E,.I i] [Ob.cells p,.cells z]; exact fun g h=>∀(R:Ex→List PV→ae→Prop),(br (decide ((i:Int)<(↑(List.length (l.map rrc)):Int))) (∃(p_1:List PV) (z_1:List PV) (l_1:List Rr) (c:Mt) (i_1:Nat),by refine(?_:_→_→_→_→Prop) (List.getD l_1 i_1 default) (PV.list (l_1.map rrc) .no) (PV.I (wI ((i_1:Int)+1))) [Ob.cells p_1,.cells z_1]; exact fun a b d f=>(∀(x:PV),x∈p_1→Low 0 x)∧(∀(x:PV),x∈z_1→Low 0 x)∧l_1.length≤1000000∧i_1<l_1.length∧c.aa=[]∧List.length (Rr.pl a)≤1000000∧ah [.list (l.map rrc) .no,.ptr 0 0,.ptr 1 0,.E,.I i,.I 0] [b,.ptr 0 0,.ptr 1 0,.E,.I i_1,.I 0]∧ax h f∧(Rr.pl a=[]→R .normal [b,.ptr 0 0,.ptr 1 0,.E,d] f)∧(Rr.pl a≠[]→R .normal [b,.ptr 0 0,.ptr 1 0,.list (List.map stc (cD c (Rr.pl a) (Rr.tm a))) (.tok 2),d] [.cells p_1,.cells z_1,.tok])) (R (.exit 0) g h))→Holds (wpK TSJ [([1,0,0,1,0],xq)] (fun _=>0) (aj [1,1,1,0,1,0] (ag Tryz.f61)) [] (an [1,2,4,5,6] g) h (fun ex e H=>R ex (List.map e [1,2,4,5,6]) H)):Prop):=fun R h=>hoE h
theorem C9 (p z:List PV) (l:List Rr) (b:List Se) (i:Nat):(by refine(?_:_→_→Prop) [Ob.cells p,.cells z,.tok] (PV.list (b.map stc) (.tok 2)); exact fun h k=>by refine(?_:_→Prop) [PV.list (l.map rrc) .no,.ptr 0 0,.ptr 1 0,k,.I i]; exact fun g=>∀(R:Ex→List PV→ae→Prop),(br (decide ((i:Int)<(↑(List.length (l.map rrc)):Int))) (∃(p_1:List PV) (z_1:List PV) (l_1:List Rr) (c:Mt) (b_1:List Se) (i_1:Nat),by refine(?_:_→_→_→Prop) (List.getD l_1 i_1 default) [Ob.cells p_1,.cells z_1] (PV.list (l_1.map rrc) .no); exact fun a d f=>(∀(x:PV),x∈p_1→Low 0 x)∧(∀(x:PV),x∈z_1→Low 0 x)∧l_1.length≤1000000∧i_1<l_1.length∧SO c.aa∧List.Perm b_1 c.aa∧b_1.length+List.length (Rr.pl a)≤1000000∧ah [.list (l.map rrc) .no,.ptr 0 0,.ptr 1 0,k,.I i,.I 0] [f,.ptr 0 0,.ptr 1 0,.list (b_1.map stc) (.tok 2),.I i_1,.I 0]∧ax h [.cells p_1,.cells z_1,.tok]∧∀(X:ae),∀(j:Nat),(d++X)[j]?=some .tok→2≤j→R .normal [f,.ptr 0 0,.ptr 1 0,.list (List.map stc (b_1++cD c (Rr.pl a) (Rr.tm a))) (.tok j),.I (wI ((i_1:Int)+1))] (d++X)) (R (.exit 0) g h))→Holds (wpK TSJ [([1,0,0,1,0],wg)] (fun _=>0) (aj [1,1,1,0,1,0] (ag Tryz.f61)) [] (an [1,2,4,5,6] g) h (fun ex e H=>R ex (List.map e [1,2,4,5,6]) H)):Prop):=fun R h=>hoE h
theorem LW:LOk Tryz.prog gl Tryz.f61.ntmps (aj [1,1,1,0,1,0] (ag Tryz.f61)) [] [([1,0,0,1,0],xq)]:=(.cons suE xY (.nil _ _ _ _ _))
theorem KR:LOk Tryz.prog gl Tryz.f61.ntmps (aj [1,1,1,0,1,0] (ag Tryz.f61)) [] [([1,0,0,1,0],wg)]:=(.cons suE x4 (.nil _ _ _ _ _))
def HR:LSp:=fun e H Q=>∃(p z:List PV) (l:List Rr) (c:Mt),(∀ x∈p,Low 0 x)∧(∀ x∈z,Low 0 x)∧l.length≤1000000∧tot l≤1000000∧c.aa=[]∧ah (List.map e [1,2,4,5,6]) [.list (l.map rrc) .no,.ptr 0 0,.ptr 1 0,.E,.I 0]∧ax H [.cells p,.cells z]∧∀ G,Q (.exit 0) (an [1,2,4,5,6] [.list (l.map rrc) .no,.ptr 0 0,.ptr 1 0,.list ((dR c l).map stc) .no,.I l.length]) ([.cells p,.cells z]++G)
set_option maxRecDepth 10000 in
theorem Dm:∀ e H Q,HR e H Q→AwK Tryz.f61.ntmps (.loop (aj [1,1,1,0,1,0] (ag Tryz.f61))) Q e H:=by
 rintro e H Q ⟨p,z,l,c,hp,hz,hl,ht,hc,he,hH,hQ⟩
 have hH:H=_:=hH
 have hso:SO c.aa:=by rw[hc]; exact SO.nil
 have hlb:=vO hp hz
 refine jM (f:=stc) (acc:=fun i=>dR c (l.take i)) (I:=fun i=>i≤l.length) (m:=fun i=>l.length-i) ai [1,2,4,5,6] (fun T i=>[.list (l.map rrc) .no,.ptr 0 0,.ptr 1 0,T,.I i]) [.cells p,.cells z] (0:Nat)
  hlb.up (fun _ _ a _=>cU a) (fun es k j _ h=> .same (aM l) (.same (.ptr _ _ (by simp)) (.same (.ptr _ _ (by simp)) (.row h (.same (.int _ _) .nil))))) (fun k _ w hw=>by
   simp only[List.mem_cons,List.not_mem_nil,or_false] at hw
   rcases hw with rfl|rfl|rfl|rfl|rfl
   ·exact aM l
   ·exact .ptr _ _ (by simp)
   ·exact .ptr _ _ (by simp)
   ·exact aF NT.exact (by simp)
   ·exact .int _ _) (Nat.zero_le _) (by simp[dR]) he hH ?_ ?_
 ·intro i hi ha
  have hi':i≤l.length:=hi
  have ha:dR c (l.take i)=[]:=ha
  refine aZ gJ (aj [1,1,1,0,1,0] (ag Tryz.f61)) [] LW _ _ _ (IM p z l i _ ?_).out
  simp only[ar,dt,List.length_map]
  by_cases h:i<l.length
  ·rw[if_pos (by omega)]
   have hs:=lK (c:=c) h
   have e0:tot (l.take i)=0:=by rw[← gj (l.take i) c,ha]; rfl
   have e1:=kZ h
   have e2:=fF (l:=l) (i+1)
   have e3:(ay c (l.take i)).aa=[]:=List.eq_nil_of_length_eq_zero (by rw[fY,hc,e0]; rfl)
   rw[ha,List.nil_append] at hs
   refine⟨p,z,l,ay c (l.take i),i,hp,hz,hl,h,e3,by omega,rfl,rfl,fun hn=>?_,fun hn=>?_⟩
   ·rw[hn] at hs
    exact jY (i+1) (show l.length-(i+1)<l.length-i by omega) h hs [] rfl (by rw[au h (by omega)])
   ·exact aX (i+1) (show l.length-(i+1)<l.length-i by omega) h hs (fun e=>hn (List.length_eq_zero_iff.1 (by rw[← fg (l.getD i default).tm (l.getD i default).pl (ay c (l.take i)),e]; rfl))) [.tok] 2 rfl rfl (by simp) (by(try dsimp only); rw[au h (by omega)])
  ·rw[if_neg (by omega)]
   have:i=l.length:=by omega
   subst this
   rw[List.take_length] at ha
   have hq:=hQ []
   rw[ha] at hq
   exact bV (.cons (.refl _) (.cons (.refl _) (.cons (.refl _) (.cons (.list _ _) (.cons (.refl _) .nil))))) (Pad.refl _) hq
 ·intro i hi ha
  have hi':i≤l.length:=hi
  have ha:dR c (l.take i)≠[]:=ha
  refine aZ gJ (aj [1,1,1,0,1,0] (ag Tryz.f61)) [] KR _ _ _ (C9 p z l (dR c (l.take i)) i _ ?_).out
  simp only[ar,dt,List.length_map]
  by_cases h:i<l.length
  ·rw[if_pos (by omega)]
   have hs:=lK (c:=c) h
   have e1:=kZ h
   have e2:=fF (l:=l) (i+1)
   have e4:=gj (l.take i) c
   have hpm:=nx (l.take i) c [] (by rw[hc])
   rw[List.nil_append] at hpm
   refine⟨p,z,l,ay c (l.take i),dR c (l.take i),i,hp,hz,hl,h,gQ _ _ hso,hpm,by omega,rfl,rfl,fun X j hj h2=>?_⟩
   exact aX (i+1) (show l.length-(i+1)<l.length-i by omega) h hs (fun e=>ha (List.append_eq_nil_iff.1 e).1) X j rfl hj h2 (by(try dsimp only); rw[au h (by omega)])
  ·rw[if_neg (by omega)]
   have:i=l.length:=by omega
   subst this
   rw[List.take_length]
   exact bV (.cons (.refl _) (.cons (.refl _) (.cons (.refl _) (.cons (.list _ _) (.cons (.refl _) .nil))))) (Pad.refl _) (hQ _)
def Ib:LSp:=fun e H Q=>∃(p z:List PV) (l:List Rr) (c:Mt) (b:List Se),(∀ x∈p,Low 0 x)∧(∀ x∈z,Low 0 x)∧l.length≤1000000∧b.length+tot l≤1000000∧SO c.aa∧b.Perm c.aa∧ah (List.map e [1,2,4,5,6]) [.list (l.map rrc) .no,.ptr 0 0,.ptr 1 0,.list (b.map stc) (.tok 2),.I 0]∧ax H [.cells p,.cells z,.tok]∧∀ G,Q (.exit 0) (an [1,2,4,5,6] [.list (l.map rrc) .no,.ptr 0 0,.ptr 1 0,.list ((b++dR c l).map stc) .no,.I l.length]) ([.cells p,.cells z]++G)
theorem Bd:∀ e H Q,Ib e H Q→AwK Tryz.f61.ntmps (.loop (aj [1,1,1,0,1,0] (ag Tryz.f61))) Q e H:=by
 rintro e H Q ⟨p,z,l,c,b,hp,hz,hl,ht,hso,hpm,he,hH,hQ⟩
 have hH:H=_:=hH
 refine AW.La (slots:=[1,2,4,5,6]) ?_
 refine pY (f:=stc) (acc:=fun i=>b++dR c (l.take i)) (I:=fun i=>i≤l.length) (m:=fun i=>l.length-i) (hn:=fun _=>0) ai gJ KR [1,2,4,5,6] (fun T i=>[.list (l.map rrc) .no,.ptr 0 0,.ptr 1 0,T,.I i]) [.cells p,.cells z] (0:Nat)
  (vO hp hz) (fun _ _ a _=>cU a) (fun k _=>r7 (bu (.int _ _))) (fun T k=>rfl) (Nat.zero_le _) (by rw[he]; simp[dR]) hH ?_
 intro i hi
 have hi':i≤l.length:=hi
 refine C9 p z l (b++dR c (l.take i)) i _ ?_
 simp only[ar,dt,List.length_map]
 by_cases h:i<l.length
 ·rw[if_pos (by omega)]
  have hs:=lK (c:=c) h
  have e1:=kZ h
  have e2:=fF (l:=l) (i+1)
  have e4:=gj (l.take i) c
  refine⟨p,z,l,ay c (l.take i),b++dR c (l.take i),i,hp,hz,hl,h,gQ _ _ hso,nx (l.take i) c b hpm,by rw[List.length_append]; omega,rfl,rfl,fun X j hj h2=>?_⟩
  refine⟨i+1,(show l.length-(i+1)<l.length-i by omega),h,X,j,rfl,hj,h2,?_⟩
  dsimp only
  rw[au h (by omega),hs,← List.append_assoc]
 ·rw[if_neg (by omega)]
  have:i=l.length:=by omega
  subst this
  simp only[onQ,List.take_length]
  have wk:∀ T,WkL (List.map (an [1,2,4,5,6] [.list (l.map rrc) .no,.ptr 0 0,.ptr 1 0,.list ((b++dR c l).map stc) T,.I l.length]) [1,2,4,5,6]) [.list (l.map rrc) .no,.ptr 0 0,.ptr 1 0,.list ((b++dR c l).map stc) .no,.I l.length]:=fun T=> .cons (.refl _) (.cons (.refl _) (.cons (.refl _) (.cons (.list _ _) (.cons (.refl _) .nil))))
  exact⟨rfl,rfl,⟨_,wk _,hQ [.tok]⟩,⟨_,wk _,hQ [.dead,.tok]⟩⟩
theorem J0 (z:List PV) (c:Mt) (l:List Rr):(by refine(?_:_→_→_→_→Prop) [PV.list (l.map rrc) .no,.ptr 0 0,.ptr 1 0] (PV.list (c.aa.map stc) .no) (List.flatten (l.map rrc)) ([]++c.rows.map rrc); exact fun a b d f=>∀(R:Ex→List PV→ae→Prop),(aS [] (c.rows.map rrc) 4 48∧List.all (List.flatten (c.rows.map rrc)) PV.one=true∧(c.rows.map rrc=[]→aS [] (l.map rrc) 4 48∧List.all d PV.one=true∧(l.map rrc=[]→R .normal a [.cells [.U c.id,.I c.md,.U c.ins,.E,b],.cells z])∧(l.map rrc≠[]→R .normal a [.cells [.U c.id,.I c.md,.U c.ins,.list ([]++l.map rrc) (.tok 2),b],.cells z,.tok]))∧(c.rows.map rrc≠[]→aS f (l.map rrc) 4 48∧List.all d PV.one=true∧(l.map rrc=[]→R .normal a [.cells [.U c.id,.I c.md,.U c.ins,.list f (.tok 2),b],.cells z,.tok])∧(l.map rrc≠[]→R .normal a [.cells [.U c.id,.I c.md,.U c.ins,.list ([]++c.rows.map rrc++l.map rrc) (.tok 3),b],.cells z,.dead,.tok])))→Holds (wpK [] [] (fun o=>match o.dst with|some 12=>4|some 14=>4|_=>0) (b5 [1,0] (ag Tryz.f61)) [] (an [1,2,4] a) [.cells (mtc c),.cells z] (fun ex e H=>R ex (List.map e [1,2,4]) H)):Prop):=fun R h=>hoE h
theorem B1 {cs cs':List PV} (h:WkL cs cs') (R:ae):WkH (.cells cs::R) (.cells cs'::R):=by
 refine⟨rfl,fun o b ho=>?_⟩
 cases o with
 | zero=>simp at ho; subst ho; exact⟨_,rfl,.cells h⟩
 | succ o=>exact⟨b,by simpa using ho,.refl b⟩
def mwR (c:Mt) (T:PV):List PV:=[.U c.id,.I c.md,.U c.ins,T,.list (c.aa.map stc) .no]
theorem ET {c:Mt} {l:List Rr}:∀ x∈mwR c (.list (l.map rrc) .no),Low 0 x:=gh (.int _ _) (.int _ _) (.int _ _) (aM _) (dh _)
theorem kx {c:Mt} {l k:List Rr} {t:Tail} {z:List PV} {G:ae} (hz:∀ x∈z,Low 0 x):dV 2 [.list (l.map rrc) .no,.ptr 0 0,.ptr 1 0] (.cells (mwR c (.list (k.map rrc) t)) :: .cells z::G) [.list (l.map rrc) .no,.ptr 0 0,.ptr 1 0] [.cells (mwR c (.list (k.map rrc) .no)),.cells z]:=by
 refine FK (B':=[.cells (mwR c (.list (k.map rrc) t)),.cells z]) (B:=[.cells (mwR c (.list (k.map rrc) .no)),.cells z]) (X:=G) (kp (fun x hx=> .low (ET x hx)) (fun x hx=> .low (hz x hx))) (WkL.refl _) (B1 (.cons (.refl _) (.cons (.refl _) (.cons (.refl _) (.cons (.list _ _) (.cons (.refl _) .nil))))) _) ?_ (by simp)
 intro v hv
 simp only[List.mem_cons,List.not_mem_nil,or_false] at hv
 rcases hv with rfl|rfl|rfl
 ·exact .low (aM l)
 ·exact .ptr _ _ (by simp)
 ·exact .ptr _ _ (by simp)
def Iw:LSp:=fun e H Q=>∃(z:List PV) (c:Mt) (l:List Rr),(∀ x∈z,Low 0 x)∧c.rows.length+l.length≤1000000∧ah (List.map e [1,2,4]) [.list (l.map rrc) .no,.ptr 0 0,.ptr 1 0]∧ax H [.cells (mtc c),.cells z]∧
 Q .normal (an [1,2,4] [.list (l.map rrc) .no,.ptr 0 0,.ptr 1 0]) [.cells [.U c.id,.I c.md,.U c.ins,.list ((c.rows++l).map rrc) .no,.list (c.aa.map stc) .no],.cells z]
theorem Ce:∀ e H Q,Iw e H Q→AwK Tryz.f61.ntmps (b5 [1,0] (ag Tryz.f61)) Q e H:=by
 rintro e H Q ⟨z,c,l,hz,hl,he,hH,hQ⟩
 have hH:H=_:=hH
 subst hH
 have he:List.map e [1,2,4]=_:=he
 refine AW.mj ai (slots:=[1,2,4]) (dU (T:=[]) (slots:=[1,2,4]) (outs:=[1,2,4]) (hn:=fun o=>match o.dst with|some 12=>4|some 14=>4|_=>0) (.nil _ _) (.nil _ _ _ _ _) he rfl (J0 z c l (fun ex vs H'=>∃ vs2 H2,dV 2 vs H' vs2 H2∧Q ex (an [1,2,4] vs2) H2) ?_))
 refine⟨iT (a:=[]) (b:=c.rows) (by simp; omega),lO _,fun e1=>⟨iT (a:=[]) (b:=l) (by simp; omega),lO _,fun e2=>?_,fun e2=>?_⟩,fun e1=>⟨iT (a:=c.rows) (b:=l) hl,lO _,fun e2=>?_,fun e2=>?_⟩⟩
 ·have e3:c.rows=[]:=List.map_eq_nil_iff.1 e1
  have e4:l=[]:=List.map_eq_nil_iff.1 e2
  have:=kx (c:=c) (l:=l) (k:=c.rows++l) (t:= .exact) (G:=[]) hz
  refine⟨_,_,?_,hQ⟩
  rw[e3,e4] at this ⊢
  exact this
 ·have e3:c.rows=[]:=List.map_eq_nil_iff.1 e1
  have:=kx (c:=c) (l:=l) (k:=c.rows++l) (t:= .tok 2) (G:=[.tok]) hz
  refine⟨_,_,?_,hQ⟩
  rw[e3] at this ⊢
  exact this
 ·have e4:l=[]:=List.map_eq_nil_iff.1 e2
  have:=kx (c:=c) (l:=l) (k:=c.rows++l) (t:= .tok 2) (G:=[.tok]) hz
  refine⟨_,_,?_,hQ⟩
  rw[e4,List.append_nil] at this ⊢
  exact this
 ·have:=kx (c:=c) (l:=l) (k:=c.rows++l) (t:= .tok 3) (G:=[.dead,.tok]) hz
  refine⟨_,_,?_,hQ⟩
  rw[List.map_append] at this ⊢
  exact this
def K8:LSp:=fun e H Q=>HR e H Q∨Ib e H Q
theorem G1:∀ e H Q,K8 e H Q→AwK Tryz.f61.ntmps (.loop (aj [1,1,1,0,1,0] (ag Tryz.f61))) Q e H:=by
 rintro e H Q (h|h)
 ·exact Dm e H Q h
 ·exact Bd e H Q h
theorem Gk (c:Mt) (l:List Rr):∀(K:PV→Prop),(∃(z:List PV) (c_1:Mt) (l_1:List Rr),by refine(?_:_→_→Prop) (c_1.aa.map stc) (PV.list (l_1.map rrc) .no); exact fun t u=>by refine(?_:_→_→_→Prop) (Ob.cells [.U c_1.id,.I c_1.md,.U c_1.ins,.list (List.map rrc (c_1.rows++l_1)) .no,.list t .no]) [u,.ptr 0 0,.ptr 1 0,.list ([]++c_1.aa.map stc) (.tok 2),.I 0] [u,.ptr 0 0,.ptr 1 0,.E,.I 0]; exact fun q r s=>by refine(?_:_→Prop) [q,.cells z,.tok]; exact fun v=>(∀(x:PV),x∈z→Low 0 x)∧c_1.rows.length+l_1.length≤1000000∧ah [.list (l.map rrc) .no,.ptr 0 0,.ptr 1 0] [.list (l_1.map rrc) .no,.ptr 0 0,.ptr 1 0]∧ax [.cells [.U c.id,.I c.md,.U c.ins,.list (c.rows.map rrc) .no,.list (c.aa.map stc) .no],.cells [.U 0,.I 0,.U 0,.E,.E]] [.cells [.U c_1.id,.I c_1.md,.U c_1.ins,.list (c_1.rows.map rrc) .no,.list t .no],.cells z]∧aS [] t 6 48∧List.all (List.flatten t) PV.one=true∧(c_1.aa.map stc=[]→(∃(p:List PV) (z_1:List PV) (l:List Rr) (c:Mt),(∀(x:PV),x∈p→Low 0 x)∧(∀(x:PV),x∈z_1→Low 0 x)∧l.length≤1000000∧tot l≤1000000∧c.aa=[]∧ah s [.list (l.map rrc) .no,.ptr 0 0,.ptr 1 0,.E,.I 0]∧ax [q,.cells z] [.cells p,.cells z_1]∧∀(_:List Ob),∃(l_2:List Se) (tl:Tail),by refine(?_:_→Prop) [PV.list (List.map stc (byI l_2 8)) .no]; exact fun e=>by refine(?_:_→Prop) (List.drop 0 (over p 4 e)); exact fun a=>by refine(?_:_→Prop) [PV.U (cI a 0),.I (cI a 1),.U (cI a 2),.list (cL a 3) (cT a 3),.list (cL a 4) (cT a 4)]; exact fun d=>ah [.list (List.map stc (dR c l)) .no] [.list (l_2.map stc) tl]∧l_2.length≤1000000∧br (1 == 1 && List.all e PV.one && decide (5≤p.length) && true) (br (true && aE [.int .u32,.int .i64,.int .u32,.list,.list] 0 a) (br (5 == 5 && List.all d PV.one && decide (5≤z_1.length) && true) (K (.agg d)) False) False) False)∨∃(p:List PV) (z_1:List PV) (l:List Rr) (c:Mt) (b:List Se),(∀(x:PV),x∈p→Low 0 x)∧(∀(x:PV),x∈z_1→Low 0 x)∧l.length≤1000000∧b.length+tot l≤1000000∧SO c.aa∧List.Perm b c.aa∧ah s [.list (l.map rrc) .no,.ptr 0 0,.ptr 1 0,.list (b.map stc) (.tok 2),.I 0]∧ax [q,.cells z] [.cells p,.cells z_1,.tok]∧∀(_:List Ob),∃(l_2:List Se) (tl:Tail),by refine(?_:_→Prop) [PV.list (List.map stc (byI l_2 8)) .no]; exact fun h=>by refine(?_:_→Prop) (List.drop 0 (over p 4 h)); exact fun f=>by refine(?_:_→Prop) [PV.U (cI f 0),.I (cI f 1),.U (cI f 2),.list (cL f 3) (cT f 3),.list (cL f 4) (cT f 4)]; exact fun g=>ah [.list (List.map stc (b++dR c l)) .no] [.list (l_2.map stc) tl]∧l_2.length≤1000000∧br (1 == 1 && List.all h PV.one && decide (5≤p.length) && true) (br (true && aE [.int .u32,.int .i64,.int .u32,.list,.list] 0 f) (br (5 == 5 && List.all g PV.one && decide (5≤z_1.length) && true) (K (.agg g)) False) False) False)∧(c_1.aa.map stc≠[]→(∃(p:List PV) (z_1:List PV) (l:List Rr) (c:Mt),(∀(x:PV),x∈p→Low 0 x)∧(∀(x:PV),x∈z_1→Low 0 x)∧l.length≤1000000∧tot l≤1000000∧c.aa=[]∧ah r [.list (l.map rrc) .no,.ptr 0 0,.ptr 1 0,.E,.I 0]∧ax v [.cells p,.cells z_1]∧∀(_:List Ob),∃(l_2:List Se) (tl:Tail),by refine(?_:_→Prop) [PV.list (List.map stc (byI l_2 8)) .no]; exact fun k=>by refine(?_:_→Prop) (List.drop 0 (over p 4 k)); exact fun i=>by refine(?_:_→Prop) [PV.U (cI i 0),.I (cI i 1),.U (cI i 2),.list (cL i 3) (cT i 3),.list (cL i 4) (cT i 4)]; exact fun j=>ah [.list (List.map stc (dR c l)) .no] [.list (l_2.map stc) tl]∧l_2.length≤1000000∧br (1 == 1 && List.all k PV.one && decide (5≤p.length) && true) (br (true && aE [.int .u32,.int .i64,.int .u32,.list,.list] 0 i) (br (5 == 5 && List.all j PV.one && decide (5≤z_1.length) && true) (K (.agg j)) False) False) False)∨∃(p:List PV) (z_1:List PV) (l:List Rr) (c:Mt) (b:List Se),(∀(x:PV),x∈p→Low 0 x)∧(∀(x:PV),x∈z_1→Low 0 x)∧l.length≤1000000∧b.length+tot l≤1000000∧SO c.aa∧List.Perm b c.aa∧ah r [.list (l.map rrc) .no,.ptr 0 0,.ptr 1 0,.list (b.map stc) (.tok 2),.I 0]∧ax v [.cells p,.cells z_1,.tok]∧∀(_:List Ob),∃(l_2:List Se) (tl:Tail),by refine(?_:_→Prop) [PV.list (List.map stc (byI l_2 8)) .no]; exact fun o=>by refine(?_:_→Prop) (List.drop 0 (over p 4 o)); exact fun m=>by refine(?_:_→Prop) [PV.U (cI m 0),.I (cI m 1),.U (cI m 2),.list (cL m 3) (cT m 3),.list (cL m 4) (cT m 4)]; exact fun n=>ah [.list (List.map stc (b++dR c l)) .no] [.list (l_2.map stc) tl]∧l_2.length≤1000000∧br (1 == 1 && List.all o PV.one && decide (5≤p.length) && true) (br (true && aE [.int .u32,.int .i64,.int .u32,.list,.list] 0 m) (br (5 == 5 && List.all n PV.one && decide (5≤z_1.length) && true) (K (.agg n)) False) False) False))→AcK 61 [.agg (mtc c),.list (l.map rrc) .no] [] (fun x _=>K x):=fun K h=>acW (T:=TSJ) (L:=[([1,0],Iw),([1,1,1,0,1,0],K8)]) (fun o=>match o.dst with|some 19=>4|_=>0) Tryz.func61 (gJ) (.cons atE Ce (.cons suE G1 (.nil _ _ _ _ _))) h
theorem LR {l:List Se}:∀ y∈flS l,y.one=true:=by
 intro y hy
 obtain⟨e,he,hy⟩:=List.mem_flatten.1 hy
 obtain⟨a,_,rfl⟩:=List.mem_map.1 he
 exact dZ a y hy
theorem Gg (ps:List Int) (t:Int):∀ c:Mt,(cE c ps t).md=c.md∧(cE c ps t).ins=c.ins:=by
 induction ps with
 | nil=>intro c; exact⟨rfl,rfl⟩
 | cons p ps ih=>intro c; exact ih (fB c p t)
theorem va (l:List Rr):∀ c:Mt,(ay c l).md=c.md∧(ay c l).ins=c.ins:=by
 induction l with
 | nil=>intro c; exact⟨rfl,rfl⟩
 | cons r l ih=>intro c; have:=ih (fe c r); have h:=Gg r.pl r.tm c; exact⟨this.1.trans h.1,this.2.trans h.2⟩
theorem so (c:Mt) (l:List Rr):mtc (ay c l)=[.U c.id,.I c.md,.U c.ins,.list ((c.rows++l).map rrc) .no,.list ((ay c l).aa.map stc) .no]:=by
 have h:=va l c
 show [PV.U (ay c l).id,.I (ay c l).md,.U (ay c l).ins,.list ((ay c l).rows.map rrc) .no,.list ((ay c l).aa.map stc) .no]=_
 rw[gB,h.1,h.2,cQ]
def Ba (args:List PV) (K:PV→Prop):Prop:=∃(c:Mt) (l:List Rr) (t1 t2 t3:Tail),ah args [.agg [.U c.id,.I c.md,.U c.ins,.list (c.rows.map rrc) t1,.list (c.aa.map stc) t2],.list (l.map rrc) t3]∧c.rows.length+l.length≤1000000∧SO c.aa∧(∀ s∈c.aa,s.nu<8)∧c.aa.length+tot l≤8∧K (ay c l).pv
theorem Hf:SpK 61 (.pure Ba):=by
 rintro args K ⟨c,l,t1,t2,t3,he,hl,hso,hb,ht,hk⟩
 have he:args=_:=he
 subst he
 have h8:=n5 (b:=8) l c hb (by omega)
 have hlz:∀ x∈[PV.U 0,.I 0,.U 0,.E,.E],Low 0 x:=gh (.int _ _) (.int _ _) (.int _ _) (aF NT.exact (by simp)) (aF NT.exact (by simp))
 have fin:∀ b:List Se,b.Perm c.aa→byI (b++dR c l) 8=(ay c l).aa:=fun b hp=>JI (gQ l c hso) (nx l c b hp) h8
 have e9:∀ x:List Se,x=(ay c l).aa→PV.agg [.U c.id,.I c.md,.U c.ins,.list ((c.rows++l).map rrc) .no,.list (x.map stc) .no]=(ay c l).pv:=by
  rintro x rfl
  rw[JC,so]
 have hlp:∀ x∈[PV.U c.id,.I c.md,.U c.ins,.list ((c.rows++l).map rrc) .no,.list (c.aa.map stc) .no],Low 0 x:=gh (.int _ _) (.int _ _) (.int _ _) (aM _) (dh _)
 have hsl:(c.aa.map stc).flatten.length=(c.aa.map stc).flatten.length:=rfl
 refine bw ai (.cons iG (.cons (.list _ _) .nil)) (be c.low (aM l)) (ay c l).low (Gk c l (fun x=>x=(ay c l).pv) ⟨_,c,l,hlz,hl,rfl,rfl,?_⟩) hk
 simp only[ar]
 have app:aS [] (c.aa.map stc) 6 48:=⟨fun _ h=>(nomatch h),bZ bJ _,by simp; omega⟩
 refine⟨app,List.all_eq_true.2 LR,fun e1=>?_,fun e1=>?_⟩
 ·have e2:c.aa=[]:=List.map_eq_nil_iff.1 e1
  refine .inl ⟨_,_,l,c,hlp,hlz,by omega,by omega,e2,rfl,rfl,fun _=>⟨dR c l,.no,rfl,by rw[gj]; omega,?_⟩⟩
  rw[if_pos (by rfl),if_pos (by rfl),if_pos (by rfl)]
  exact e9 _ (by have:=fin [] (by rw[e2]); rwa [List.nil_append] at this)
 ·refine .inr ⟨_,_,l,c,c.aa,hlp,hlz,by omega,by omega,hso,List.Perm.refl _,rfl,rfl,fun _=>⟨c.aa++dR c l,.no,rfl,by rw[List.length_append,gj]; omega,?_⟩⟩
  rw[if_pos (by rfl),if_pos (by rfl),if_pos (by rfl)]
  exact e9 _ (fin _ (List.Perm.refl _))
def TRM:Tab:=[(59,.pure tw),(53,.pure xM),(15,.pure uh),(61,.pure Ba),(60,.pure rK)]
theorem Ja:TbK TRM:= .cons yV (.cons vj (.cons w4 (.cons Hf (.cons sb (.nil _ _)))))
theorem GW (w:List Mt) (m id md ins:Int) (l:List Rr):(by refine(?_:_→_→Prop) (PV.list (w.map mtc) .no) (PV.list (l.map rrc) .no); exact fun d e=>∀(K:PV→Prop),by refine(?_:_→Prop) (K (.tup [d,.I 14])); exact fun a=>(∃(w_1:List Mt) (b:List Rr) (l_1:List Rr) (t0:Tail) (t1:Tail) (t2:Tail),ah [d,.E,e] [.list (w_1.map mtc) t0,.list (b.map rrc) t1,.list (l_1.map rrc) t2]∧SmM w_1∧(∀(r:Rr),r∈l_1→∀(p:Int),p∈r.pl→0≤p)∧b.length+l_1.length≤1000000∧tot b+tot l_1≤1000000∧br ((jS w_1 b l_1 == 14) == false) (∃(t:Int),0≤t∧ah [.U id] [.U t]∧br (!aC t) a (br (jS w_1 b l_1 != 0) (K (.tup [d,.I (jS w_1 b l_1)])) (∃(w_2:List Mt) (tl:Tail) (t:Int),ah [d,.U id] [.list (w_2.map mtc) tl,.U t]∧w_2.length≤1000000∧br (bq Mt.id w_2 t) (K (.tup [d,.I 11])) (br (decide ((↑(List.length (w.map mtc)):Int)≥m)) (K (.tup [d,.I 10])) (∃(c:Mt) (l_2:List Rr) (t1:Tail) (t2:Tail) (t3:Tail),ah [.agg [.U id,.I md,.U ins,.E,.E],e] [.agg [.U c.id,.I c.md,.U c.ins,.list (c.rows.map rrc) t1,.list (c.aa.map stc) t2],.list (l_2.map rrc) t3]∧c.rows.length+l_2.length≤1000000∧SO c.aa∧(∀(s:Se),s∈c.aa→s.nu<8)∧c.aa.length+tot l_2≤8∧∃(w_3:List Mt) (tl:Tail) (t1:Tail) (t2:Tail) (c_1:Mt),ah [d,.agg [.U (Mt.id (ay c l_2)),.I (Mt.md (ay c l_2)),.U (Mt.ins (ay c l_2)),.list (List.map rrc (Mt.rows (ay c l_2))) .no,.list (List.map stc (Mt.aa (ay c l_2))) .no]] [.list (w_3.map mtc) tl,.agg [.U c_1.id,.I c_1.md,.U c_1.ins,.list (c_1.rows.map rrc) t1,.list (c_1.aa.map stc) t2]]∧dn Mt.id w_3∧w_3.length≤100000∧K (.tup [.list (List.map mtc (eS Mt.id w_3 c_1)) .no,.I 0])))))) a)→AcK 25 [d,.I m,.U id,.I md,.U ins,e] [] (fun x _=>K x):Prop):=fun K h=>acW (T:=TRM) (L:=[]) (fun _=>0) Tryz.func25 (Ja) (LOk.nil _ _ _ _ _) h
theorem MO.smM {w:List Mt} {m:Int} (ro:MO w m) (hm:m≤100000):SmM w:=by
 refine⟨by have:=ro.full; omega,fun c hc=>?_⟩
 have:=(ro.cs c hc).aa
 have:=(ro.cs c hc).tot
 omega
theorem Hj {c:Mt} {l:List Rr} (h:(ay c l).Ok):c.aa.length+tot l≤8:=by
 have h1:=h.aa
 have h2:=h.tot
 rw[fY] at h1
 omega
theorem Ar {w:List Mt} {b l:List Rr}:jS w b l=if(wsR w ws0 l).ids=true then 14 else if szW b l=true then 21 else if(wsR w ws0 l).ex=true then 11 else 0:=rfl
def Bm (l:List Rr):Prop:=∀ r∈l,∀ p∈r.pl,0≤p
def wH (args:List PV) (K:PV→Prop):Prop:=∃(w:List Mt) (m id md ins:Int) (l:List Rr) (t0 t1:Tail),ah args [.list (w.map mtc) t0,.I m,.U id,.I md,.U ins,.list (l.map rrc) t1]∧MO w m∧m≤100000∧0≤id∧Bm l∧smR l∧
 K (.tup [.list ((dw w m id md ins l).1.map mtc) .no,.I (dw w m id md ins l).2])
theorem Cp {w:List Mt} {x:Int}:Low 0 (.tup [.list (w.map mtc) .no,.I x]):= .tup _ (be (bF w) (.int _ _))
theorem z8:SpK 25 (.pure wH):=by
 rintro args K ⟨w,m,id,md,ins,l,t0,t1,he,ro,hm,h0,hp,hl,hk⟩
 have he:args=_:=he
 subst he
 have hlt:=hl.tot
 have hll:=hl.1
 have hsm:=ro.smM hm
 refine bw ai (.cons (.list _ _) (.cons (.refl _) (.cons (.refl _) (.cons (.refl _) (.cons (.refl _) (.cons (.list _ _) .nil)))))) ?_ Cp (GW w m id md ins l (fun x=>x=_) ⟨w,[],l,.no,.exact,.no,rfl,hsm,hp,by simp; omega,by show 0+tot l≤_; omega,?_⟩) hk
 ·intro x hx
  simp only[List.mem_cons,List.not_mem_nil,or_false] at hx
  rcases hx with rfl|rfl|rfl|rfl|rfl|rfl
  ·exact bF w
  ·exact .int _ _
  ·exact .int _ _
  ·exact .int _ _
  ·exact .int _ _
  ·exact aM l
 obtain⟨z,hz⟩:∃ z,z=dw w m id md ins l:=⟨_,rfl⟩
 rw[← hz]
 unfold dw at hz
 rw[Ar]
 simp only[ar]
 by_cases c1:(wsR w ws0 l).ids=true
 ·rw[if_pos (.inl c1)] at hz
  simp only[if_pos c1]
  rw[if_neg (by decide),hz]
 ·simp only[if_neg c1]
  have n14:((if szW [] l=true then(21:Int) else if(wsR w ws0 l).ex=true then 11 else 0) == 14)=false:=by
   split
   ·rfl
   ·split<;>rfl
  rw[if_pos (by rw[n14]; rfl)]
  refine⟨id,h0,rfl,?_⟩
  by_cases c2:aC id=true
  ·rw[if_neg (fun e=>by rcases e with e|e; exact c1 e; rw[c2] at e; cases e)] at hz
   rw[if_neg (by rw[c2]; decide)]
   by_cases c3:szW [] l=true
   ·rw[if_pos c3] at hz
    simp only[if_pos c3]
    rw[if_pos (by rfl),hz]
   ·rw[if_neg c3] at hz
    simp only[if_neg c3]
    by_cases c4:(wsR w ws0 l).ex=true
    ·rw[if_pos c4] at hz
     simp only[if_pos c4]
     rw[if_pos (by rfl),hz]
    ·rw[if_neg c4] at hz
     simp only[if_neg c4]
     rw[if_neg (by decide)]
     refine⟨w,.no,id,rfl,ro.len,?_⟩
     by_cases c5:bq Mt.id w id=true
     ·rw[if_pos c5] at hz
      rw[if_pos c5,hz]
     ·rw[if_neg c5] at hz
      rw[if_neg c5]
      simp only[List.length_map]
      by_cases c6:(w.length:Int)≥m
      ·rw[if_pos c6] at hz
       rw[if_pos (decide_eq_true c6),hz]
      ·rw[if_neg c6] at hz
       rw[if_neg (by rw[decide_eq_false c6]; decide)]
       have hx:(wsR w ws0 l).ex=false:=by simpa using c4
       have hok:=wY (w:=w) (c:=mk0 id md ins) c2 (.inl ⟨rfl,rfl⟩) (show szW [] l=false by simpa using c3) hx fun p _=>ux rfl p
       refine⟨mk0 id md ins,l,.exact,.exact,.no,rfl,by show 0+_≤_; omega,SO.nil,(fun _ h=>(nomatch h)),Hj hok,w,.no,.no,.no,ay (mk0 id md ins) l,rfl,ro.rise,hsm.len,?_⟩
       rw[hz]
  ·rw[if_pos (.inr (by simpa using c2))] at hz
   rw[if_pos (by simpa using c2),hz]
theorem JF (w:List Mt) (p st un no:Int) (c:Mt) (i:Nat):(by refine(?_:_→_→_→_→_→Prop) (List.getD (c.aa.map stc) (Int.toNat (i:Int)) []) (Ob.cells [.U c.id,.I c.md,.U c.ins,.list (c.rows.map rrc) .no,.list (c.aa.map stc) .no]) [PV.list (w.map mtc) .no,.U p,.I st,.I un,.int .u64 no,.ptr 0 0,.E,.I i] (PV.I (wI ((i:Int)+1))) (PV.list (w.map mtc) .no); exact fun a d j m n=>by refine(?_:_→_→_→Prop) (PV.U (cI a 0)) (PV.I (cI a 1)) (PV.I (cI a 2)); exact fun q r s=>by refine(?_:_→_→Prop) [q,r,s,.I (cI a 3),.I (cI a 4),.int .u64 (cI a 5)] [q,r,s,.I st,.I un,.int .u64 no]; exact fun h l=>by refine(?_:_→_→_→_→Prop) [h] [l] h l; exact fun b f g k=>∀(R:Ex→List PV→ae→Prop),(br (decide ((i:Int)<(↑(List.length (c.aa.map stc)):Int))) (InL (c.aa.map stc) 6 (i:Int)∧br (true && aE [.int .u32,.int .i64,.int .i64,.int .i64,.int .i64,.int .u64] 0 a) (br (cI a 0 == p) (aS [] f 6 48∧(List.all k PV.one=true∧f≠[])∧R .normal [n,.U p,.I st,.I un,.int .u64 no,.ptr 0 0,.list f (.tok 2),m] [d,.cells k,.tok]) (aS [] b 6 48∧(List.all g PV.one=true∧b≠[])∧R .normal [n,.U p,.I st,.I un,.int .u64 no,.ptr 0 0,.list b (.tok 2),m] [d,.cells g,.tok])) False) (R (.exit 0) j [d]))→Holds (wpK [] [] (fun o=>match o.dst with|some 60=>1|_=>0) (aj [1,1,1,1,1,0,1,0] (ag Tryz.f27)) [] (an [0,1,2,3,4,12,14,15] j) [.cells (mtc c)] (fun ex e H=>R ex (List.map e [0,1,2,3,4,12,14,15]) H)):Prop):=fun R h=>hoE h
theorem Jj (w:List Mt) (p st un no:Int) (c:Mt) (es:List (List PV)) (i:Nat):(by refine(?_:_→_→_→_→_→Prop) (List.getD (c.aa.map stc) (Int.toNat (i:Int)) []) (Ob.cells [.U c.id,.I c.md,.U c.ins,.list (c.rows.map rrc) .no,.list (c.aa.map stc) .no]) [PV.list (w.map mtc) .no,.U p,.I st,.I un,.int .u64 no,.ptr 0 0,.list es (.tok 1),.I i] (PV.I (wI ((i:Int)+1))) (PV.list (w.map mtc) .no); exact fun a d j m n=>by refine(?_:_→_→_→Prop) (PV.U (cI a 0)) (PV.I (cI a 1)) (PV.I (cI a 2)); exact fun q r s=>by refine(?_:_→_→Prop) [q,r,s,.I (cI a 3),.I (cI a 4),.int .u64 (cI a 5)] [q,r,s,.I st,.I un,.int .u64 no]; exact fun h l=>by refine(?_:_→_→_→_→Prop) [h] [l] h l; exact fun b f g k=>∀(R:Ex→List PV→ae→Prop),(br (decide ((i:Int)<(↑(List.length (c.aa.map stc)):Int))) (InL (c.aa.map stc) 6 (i:Int)∧br (true && aE [.int .u32,.int .i64,.int .i64,.int .i64,.int .i64,.int .u64] 0 a) (br (cI a 0 == p) (aS es f 6 48∧(List.all k PV.one=true∧f≠[])∧R .normal [n,.U p,.I st,.I un,.int .u64 no,.ptr 0 0,.list (es++f) (.tok 3),m] [d,.dead,.cells k,.tok]) (aS es b 6 48∧(List.all g PV.one=true∧b≠[])∧R .normal [n,.U p,.I st,.I un,.int .u64 no,.ptr 0 0,.list (es++b) (.tok 3),m] [d,.dead,.cells g,.tok])) False) (R (.exit 0) j [d,.tok]))→Holds (wpK [] [] (fun o=>match o.dst with|some 60=>1|_=>0) (aj [1,1,1,1,1,0,1,0] (ag Tryz.f27)) [] (an [0,1,2,3,4,12,14,15] j) [.cells (mtc c),.tok] (fun ex e H=>R ex (List.map e [0,1,2,3,4,12,14,15]) H)):Prop):=fun R h=>hoE h
def TRL:Tab:=[(65,.pure CE),(15,.pure uh),(60,.pure rK)]
theorem Jt:TbK TRL:= .cons BD (.cons w4 (.cons sb (.nil _ _)))
def upS (p st un no:Int) (s:Se):Se:=if s.pl == p then⟨s.pl,s.tm,s.nu,st,un,no⟩ else s
theorem K4 (c:Mt):∀(o:Nat) cs,([.cells (mtc c)]:ae)[o]?=some (.cells cs)→∀ x∈cs,Low 1 x:=by
 intro o cs ho
 have k1:=(List.getElem?_eq_some_iff.1 ho).1
 simp at k1
 subst k1
 cases ho
 exact kX c
def KS:LSp:=fun e H Q=>∃(w:List Mt) (p st un no:Int) (c:Mt),c.aa.length≤1000000∧ah (List.map e [0,1,2,3,4,12,14,15]) [.list (w.map mtc) .no,.U p,.I st,.I un,.int .u64 no,.ptr 0 0,.E,.I 0]∧ax H [.cells (mtc c)]∧Q (.exit 0) (an [0,1,2,3,4,12,14,15] [.list (w.map mtc) .no,.U p,.I st,.I un,.int .u64 no,.ptr 0 0,.list ((c.aa.map (upS p st un no)).map stc) .no,.I c.aa.length]) [.cells (mtc c),.dead]
set_option maxRecDepth 10000 in
theorem Hr:∀ e H Q,KS e H Q→AwK Tryz.f27.ntmps (.loop (aj [1,1,1,1,1,0,1,0] (ag Tryz.f27))) Q e H:=by
 rintro e H Q ⟨w,p,st,un,no,c,hl,he,hH,hQ⟩
 have hH2:H=_:=hH
 refine ga (f:=stc) (acc:=fun i=>((c.aa.take i).map (upS p st un no))) (I:=fun i=>i≤c.aa.length) (m:=fun i=>c.aa.length-i) (hn:=fun o=>match o.dst with|some 60=>1|_=>0) ai (aV.nil _ _) (.nil _ _ _ _ _) [0,1,2,3,4,12,14,15] (fun T i=>[.list (w.map mtc) .no,.U p,.I st,.I un,.int .u64 no,.ptr 0 0,T,.I i]) [.cells (mtc c)] (0:Nat)
  (K4 c) (fun _ _ a _=>cU a) (fun es i j _ h=> .same (bF w) (.same (.int _ _) (.same (.int _ _) (.same (.int _ _) (.same (.int _ _) (.same (.ptr _ _ (by simp)) (.row h (.same (.int _ _) (.nil))))))))) (fun i _ w hw=>by
   simp only[List.mem_cons,List.not_mem_nil,or_false] at hw
   rcases hw with rfl|rfl|rfl|rfl|rfl|rfl|rfl|rfl
   ·exact bF w
   ·exact .int _ _
   ·exact .int _ _
   ·exact .int _ _
   ·exact .int _ _
   ·exact .ptr _ _ (by simp)
   ·exact aF NT.exact (by simp)
   ·exact .int _ _) (Nat.zero_le _) rfl he hH2 ?_ ?_
 ·intro i hi ha
  have hi':i≤c.aa.length:=hi
  have ha:((c.aa.take i).map (upS p st un no))=[]:=ha
  refine JF w p st un no c i _ ?_
  simp only[ar,dt,List.length_map]
  by_cases h:i<c.aa.length
  ·rw[if_pos (by omega)]
   have inl:InL (c.aa.map stc) 6 (i:Int):=by rw[lF]; exact h
   obtain⟨s,hs⟩:∃ s,s=c.aa.getD i default:=⟨_,rfl⟩
   have hsucc:(c.aa.take (i+1)).map (upS p st un no)=(c.aa.take i).map (upS p st un no)++[upS p st un no s]:=by rw[aK default h,List.map_append,hs]; rfl
   have hlen:((c.aa.take i).map (upS p st un no)).length≤1000000:=by rw[List.length_map,List.length_take]; omega
   have hlen2:((c.aa.take i).map (upS p st un no)).length+1≤1000001:=by omega
   rw[ha,List.nil_append] at hsucc
   simp only[ak,getD_map default h,← hs]
   refine⟨inl,?_⟩
   rw[if_pos (by rfl)]
   have e0:cI (stc s) 0=s.pl:=rfl
   by_cases cp:s.pl=p
   ·rw[if_pos (by rw[e0,cp]; exact beq_self_eq_true _)]
    have eu:upS p st un no s=(⟨s.pl,s.tm,s.nu,st,un,no⟩:Se):=by unfold upS; rw[if_pos (by simpa using cp)]
    rw[eu] at hsucc
    refine⟨aG (l:=[]) (by_:=48) bJ ((⟨s.pl,s.tm,s.nu,st,un,no⟩:Se)) (by show(0+1)*48≤_; decide),one_row dZ ((⟨s.pl,s.tm,s.nu,st,un,no⟩:Se)),?_⟩
    exact aX (i+1) (show c.aa.length-(i+1)<c.aa.length-i by omega) h hsucc (by simp) [.cells (stc (⟨s.pl,s.tm,s.nu,st,un,no⟩:Se)),.tok] 2 rfl rfl (by simp) (by(try dsimp only); rw[au h (by omega)]; rfl)
   ·rw[if_neg (by rw[e0]; simpa using cp)]
    have eu:upS p st un no s=s:=by unfold upS; rw[if_neg (by simpa using cp)]
    rw[eu] at hsucc
    refine⟨aG (l:=[]) (by_:=48) bJ (s) (by show(0+1)*48≤_; decide),one_row dZ (s),?_⟩
    exact aX (i+1) (show c.aa.length-(i+1)<c.aa.length-i by omega) h hsucc (by simp) [.cells (stc s),.tok] 2 rfl rfl (by simp) (by(try dsimp only); rw[au h (by omega)]; rfl)
  ·rw[if_neg (by omega)]
   have:i=c.aa.length:=by omega
   subst this
   have e0:=ha
   rw[List.take_length] at e0
   rw[e0] at hQ
   exact bV (.cons (.refl _) (.cons (.refl _) (.cons (.refl _) (.cons (.refl _) (.cons (.refl _) (.cons (.refl _) (.cons (.list _ _) (.cons (.refl _) (.nil))))))))) (dS _) hQ
 ·intro i hi ha
  have hi':i≤c.aa.length:=hi
  have ha:((c.aa.take i).map (upS p st un no))≠[]:=ha
  refine Jj w p st un no c (((c.aa.take i).map (upS p st un no)).map stc) i _ ?_
  simp only[ar,dt,List.length_map]
  by_cases h:i<c.aa.length
  ·rw[if_pos (by omega)]
   have inl:InL (c.aa.map stc) 6 (i:Int):=by rw[lF]; exact h
   obtain⟨s,hs⟩:∃ s,s=c.aa.getD i default:=⟨_,rfl⟩
   have hsucc:(c.aa.take (i+1)).map (upS p st un no)=(c.aa.take i).map (upS p st un no)++[upS p st un no s]:=by rw[aK default h,List.map_append,hs]; rfl
   have hlen:((c.aa.take i).map (upS p st un no)).length≤1000000:=by rw[List.length_map,List.length_take]; omega
   have hlen2:((c.aa.take i).map (upS p st un no)).length+1≤1000001:=by omega
   simp only[ak,getD_map default h,← hs]
   refine⟨inl,?_⟩
   rw[if_pos (by rfl)]
   have e0:cI (stc s) 0=s.pl:=rfl
   by_cases cp:s.pl=p
   ·rw[if_pos (by rw[e0,cp]; exact beq_self_eq_true _)]
    have eu:upS p st un no s=(⟨s.pl,s.tm,s.nu,st,un,no⟩:Se):=by unfold upS; rw[if_pos (by simpa using cp)]
    rw[eu] at hsucc
    refine⟨aG (l:=((c.aa.take i).map (upS p st un no))) (by_:=48) bJ ((⟨s.pl,s.tm,s.nu,st,un,no⟩:Se)) (by omega),one_row dZ ((⟨s.pl,s.tm,s.nu,st,un,no⟩:Se)),?_⟩
    exact aX (i+1) (show c.aa.length-(i+1)<c.aa.length-i by omega) h hsucc (by simp) [.dead,.cells (stc (⟨s.pl,s.tm,s.nu,st,un,no⟩:Se)),.tok] 3 rfl rfl (by simp) (by(try dsimp only); rw[au h (by omega),List.map_append (f:=stc)]; rfl)
   ·rw[if_neg (by rw[e0]; simpa using cp)]
    have eu:upS p st un no s=s:=by unfold upS; rw[if_neg (by simpa using cp)]
    rw[eu] at hsucc
    refine⟨aG (l:=((c.aa.take i).map (upS p st un no))) (by_:=48) bJ (s) (by omega),one_row dZ (s),?_⟩
    exact aX (i+1) (show c.aa.length-(i+1)<c.aa.length-i by omega) h hsucc (by simp) [.dead,.cells (stc s),.tok] 3 rfl rfl (by simp) (by(try dsimp only); rw[au h (by omega),List.map_append (f:=stc)]; rfl)
  ·rw[if_neg (by omega)]
   have:i=c.aa.length:=by omega
   subst this
   rw[List.take_length]
   exact bV (.cons (.refl _) (.cons (.refl _) (.cons (.refl _) (.cons (.refl _) (.cons (.refl _) (.cons (.refl _) (.cons (.list _ _) (.cons (.refl _) (.nil))))))))) (eL [.cells (mtc c)] .tok) hQ
theorem E2 (w:List Mt) (p st un no:Int):(by refine(?_:_→Prop) (PV.list (w.map mtc) .no); exact fun b=>∀(K:PV→Prop),by refine(?_:_→Prop) (K (.tup [b,.I 2])); exact fun a=>(∃(w_1:List Mt) (tl:Tail) (t:Int),ah [b,.U p] [.list (w_1.map mtc) tl,.U t]∧SmM w_1∧∃(w_2:List Mt) (tl:Tail) (t_1:Int),ah [b,.U (ofM w_1 t)] [.list (w_2.map mtc) tl,.U t_1]∧w_2.length≤1000000∧br (!bq Mt.id w_2 t_1) (K (.tup [b,.I 12])) (br (decide (st<1) == false) (br (decide (st>3)) a (∃(w_3:List Mt) (p_1:Int) (st_1:Int) (un_1:Int) (no_1:Int) (c:Mt),c.aa.length≤1000000∧ah [b,.U p,.I st,.I un,.int .u64 no,.ptr 0 0,.E,.I 0] [.list (w_3.map mtc) .no,.U p_1,.I st_1,.I un_1,.int .u64 no_1,.ptr 0 0,.E,.I 0]∧ax [.cells [.U (Mt.id (gM w_2 t_1)),.I (Mt.md (gM w_2 t_1)),.U (Mt.ins (gM w_2 t_1)),.list (List.map rrc (Mt.rows (gM w_2 t_1))) .no,.list (List.map stc (Mt.aa (gM w_2 t_1))) .no]] [.cells [.U c.id,.I c.md,.U c.ins,.list (c.rows.map rrc) .no,.list (c.aa.map stc) .no]]∧∃(w:List Mt) (tl:Tail) (t1:Tail) (t2:Tail) (c_1:Mt),ah [.list (w_3.map mtc) .no,.agg [.U c.id,.I c.md,.U c.ins,.list (c.rows.map rrc) .no,.list (List.map stc (List.map (upS p_1 st_1 un_1 no_1) c.aa)) .no]] [.list (w.map mtc) tl,.agg [.U c_1.id,.I c_1.md,.U c_1.ins,.list (c_1.rows.map rrc) t1,.list (c_1.aa.map stc) t2]]∧dn Mt.id w∧w.length≤100000∧K (.tup [.list (List.map mtc (eS Mt.id w c_1)) .no,.I 0]))) a))→AcK 27 [b,.U p,.I st,.I un,.int .u64 no] [] (fun x _=>K x):Prop):=fun K h=>acW (T:=TRL) (L:=[([1,1,1,1,1,0,1,0],KS)]) (fun _=>0) Tryz.func27 (Jt) (.cons suE Hr (.nil _ _ _ _ _)) h
theorem DM {p st un no:Int}:∀(l:List Se),(l.map Se.pl).Nodup→l.map (upS p st un no)=l.set (l.findIdx (isP p)) (jx (l.getD (l.findIdx (isP p)) default) st un no)
 | [],_=>rfl
 | a::l,h=>by
  rw[List.map_cons,List.nodup_cons] at h
  rw[List.map_cons,List.findIdx_cons]
  by_cases c:isP p a=true
  ·have e:a.pl=p:=eq_of_beq c
   have e2:l.map (upS p st un no)=l:=by
    conv=>rhs; rw[← List.map_id l]
    refine List.map_congr_left fun x hx=>?_
    have:x.pl≠p:=fun k=>h.1 (by rw[e,← k]; exact List.mem_map_of_mem hx)
    unfold upS; rw[if_neg (by simpa using this)]; rfl
   have e3:upS p st un no a=jx a st un no:=by unfold upS; rw[if_pos (by rw[e]; exact beq_self_eq_true _)]; rfl
   rw[c,e2,e3]; rfl
  ·have e:a.pl≠p:=fun k=>c (by unfold isP; rw[k]; exact beq_self_eq_true _)
   have e3:upS p st un no a=a:=by unfold upS; rw[if_neg (by simpa using e)]
   rw[show isP p a=false by simpa using c,e3,DM l h.2]; rfl
def Db (args:List PV) (K:PV→Prop):Prop:=∃(w:List Mt) (m p st un no:Int) (t0:Tail),ah args [.list (w.map mtc) t0,.U p,.I st,.I un,.int .u64 no]∧MO w m∧m≤100000∧
 K (.tup [.list ((dK w p st un no).1.map mtc) .no,.I (dK w p st un no).2])
theorem Fg:SpK 27 (.pure Db):=by
 rintro args K ⟨w,m,p,st,un,no,t0,he,ro,hm,hk⟩
 have he:args=_:=he
 subst he
 have hsm:=ro.smM hm
 refine bw ai (.cons (.list _ _) (.cons (.refl _) (.cons (.refl _) (.cons (.refl _) (.cons (.refl _) .nil))))) (gh (bF w) (.int _ _) (.int _ _) (.int _ _) (.int _ _)) Cp (E2 w p st un no (fun x=>x=_) ⟨w,.no,p,rfl,hsm,w,.no,ofM w p,rfl,ro.len,?_⟩) hk
 obtain⟨z,hz⟩:∃ z,z=dK w p st un no:=⟨_,rfl⟩
 rw[← hz]
 unfold dK at hz
 simp only[ar]
 by_cases c0:bq Mt.id w (ofM w p)=true
 ·rw[if_neg (show ¬ bq Mt.id w (ofM w p)=false by rw[c0]; decide)] at hz
  rw[if_neg (show ¬ (!bq Mt.id w (ofM w p))=true by rw[c0]; decide)]
  by_cases c1:st<1
  ·rw[if_pos (.inl c1)] at hz
   rw[if_neg (show ¬ (decide (st<1) == false)=true by rw[decide_eq_true c1]; decide),hz]
  ·rw[if_pos (show(decide (st<1) == false)=true by rw[decide_eq_false c1]; rfl)]
   by_cases c2:st>3
   ·rw[if_pos (.inr c2)] at hz
    rw[if_pos (decide_eq_true c2),hz]
   ·rw[if_neg (fun e=>by rcases e with e|e; exact c1 e; exact c2 e)] at hz
    rw[if_neg (show ¬ decide (st>3)=true by rw[decide_eq_false c2]; decide)]
    have hok:=ro.Fw c0
    refine⟨w,p,st,un,no,gM w (ofM w p),hok.sm.aa,rfl,rfl,w,.no,.no,.no,g7 (gM w (ofM w p)) p st un no,?_,ro.rise,hsm.len,by rw[hz]⟩
    rw[DM _ hok.nd]; rfl
 ·rw[if_pos (show bq Mt.id w (ofM w p)=false by simpa using c0)] at hz
  rw[if_pos (show(!bq Mt.id w (ofM w p))=true by simpa using c0),hz]
namespace Elo
def within (n:Int):Int:=mnI (mxI n 0) 10000
def gG (n:Int):Int:=if n<0 then 0 else if n>10000 then 10000 else n
def oX (args:List PV) (K:PV→Prop):Prop:=match args with
 | [.int .i64 n]=>K (.int .i64 (within n))
 | _=>False
theorem yX (n:Int)  (K:PV→Prop) (h:K (.I (mnI (mxI n 0) 10000))):AcK 102 [.I n] [] (fun x _=>K x):=
 acW (T:=[]) (L:=[]) (fun _=>0) Tryz.func102 (aV.nil _ _) (LOk.nil _ _ _ _ _) h
theorem y7:SpK 102 (.pure oX):=by
 intro args K h
 unfold oX at h
 split at h
 ·rename_i n
  refine b9 ai (by simp[cr]) (.int _ _) (yX n _ ?_) h
  rfl
 ·exact h.elim
def oK (args:List PV) (K:PV→Prop):Prop:=match args with
 | [.int .i64 n]=>K (.int .i64 (gG n))
 | _=>False
theorem yl (n:Int)  (K:PV→Prop) (h:br (decide (n<0)) (K (.I 0)) (br (decide (n>10000)) (K (.I 10000)) (K (.I n)))):AcK 80 [.I n] [] (fun x _=>K x):=
 acW (T:=[]) (L:=[]) (fun _=>0) Tryz.func80 (aV.nil _ _) (LOk.nil _ _ _ _ _) h
theorem yH:SpK 80 (.pure oK):=by
 intro args K h
 unfold oK at h
 split at h
 ·rename_i n
  refine b9 ai (by simp[cr]) (.int _ _) (yl n _ ?_) h
  simp only[ar,decide_eq_true_eq,gG]
  (repeat' split)<;>rfl
 ·exact h.elim
def T1:Tab:=[(102,.pure oX),(80,.pure oK)]
theorem po:TbK T1:= .cons y7 (.cons yH (.nil _ _))
def ex0 (d:Int):Int:=fz.getD (mnI (d / 50) 16).toNat 0
def ee (a b:Int):Int:=if within a<within b then 1000-ex0 (within b-within a) else ex0 (within a-within b)
theorem cj (n:Int):0≤within n∧within n≤10000:=by unfold within mnI mxI; (repeat' split)<;>omega
theorem qc (n:Int):gG n=within n:=by unfold gG within mnI mxI; (repeat' split)<;>omega
theorem fV (n:Int):within (within n)=within n:=by
 have h:=cj n
 generalize within n=m at *
 unfold within mnI mxI; (repeat' split)<;>omega
theorem uP:∀(k:Nat),k<17→500≤fz.getD k 0∧fz.getD k 0≤990:=by decide
theorem iV {d:Int} (h:0≤d):500≤ex0 d∧ex0 d≤990:=by
 unfold ex0
 have h2:0≤mnI (d / 50) 16∧mnI (d / 50) 16≤16:=by unfold mnI; split<;>omega
 exact uP _ (by omega)
theorem j6 (a b:Int):10≤ee a b∧ee a b≤990:=by
 unfold ee
 split
 ·have:=iV (d:=within b-within a) (by omega); omega
 ·have:=iV (d:=within a-within b) (by omega); omega
theorem H7 {d:Int} (h0:0≤d) (h1:d≤10000):wI (Int.tdiv (wI d) 50)=d / 50:=by
 have e:wI d=d:=wrap_i64 (by omega) (by omega)
 rw[e,Int.tdiv_eq_ediv_of_nonneg h0]
 exact wrap_i64 (by omega) (by omega)
def uq (args:List PV) (K:PV→Prop):Prop:=match args with
 | [.int .i64 a,.int .i64 b]=>¬ within a<within b∧K (.int .i64 (ee a b))
 | _=>False
theorem GS (a b:Int):(by refine(?_:_→Prop) (wI (Int.tdiv (wI (within a-within b)) 50)); exact fun c=>by refine(?_:_→Prop) (List.drop (Int.toNat (mnI c 16)*1) (List.map (PV.int .i64) fz)); exact fun d=>∀(K:PV→Prop),(br (decide (within a<within b)) False (br (decide (0≤mnI c 16) && decide (mnI c 16<17)) (br (true && aE [.int .i64] 0 d) (K (.I (cI d 0))) False) False))→AcK 103 [.I a,.I b] [] (fun x _=>K x):Prop):=fun K h=>acW (T:=T1) (L:=[]) (fun _=>0) Tryz.func103 (po) (LOk.nil _ _ _ _ _) h
theorem Gu:SpK 103 (.pure uq):=by
 intro args K h
 unfold uq at h
 split at h
 ·rename_i a b
  obtain⟨hp,h⟩:=h
  refine b9 ai (by simp[cr]) (.int _ _) (GS a b _ ?_) h
  have h1:=cj a
  have h2:=cj b
  have h3:0≤mnI ((within a-within b) / 50) 16∧mnI ((within a-within b) / 50) 16≤16:=by unfold mnI; split<;>omega
  simp only[ar,decide_eq_true_eq,hp,if_false,H7 (d:=within a-within b) (by omega) (by omega),Nat.mul_one,q8]
  rw[nW _ _ _ (by simp[fz]; omega),if_pos (by simp; omega)]
  simp only[Bool.and_self,if_true,ee,hp,if_false,ex0]
 ·exact h.elim
def T1b:Tab:=(103,.pure uq)::T1
theorem Kb:TbK T1b:= .cons Gu po
def pW (args:List PV) (K:PV→Prop):Prop:=match args with
 | [.int .i64 a,.int .i64 b]=>K (.int .i64 (ee a b))
 | _=>False
theorem GR (a b:Int):(by refine(?_:_→Prop) (wI (Int.tdiv (wI (within a-within b)) 50)); exact fun c=>by refine(?_:_→Prop) (List.drop (Int.toNat (mnI c 16)*1) (List.map (PV.int .i64) fz)); exact fun d=>∀(K:PV→Prop),(br (decide (within a<within b)) (¬within (within b)<within (within a)∧K (.I (wI (1000-ee (within b) (within a))))) (br (decide (0≤mnI c 16) && decide (mnI c 16<17)) (br (true && aE [.int .i64] 0 d) (K (.I (cI d 0))) False) False))→AcK 103 [.I a,.I b] [] (fun x _=>K x):Prop):=fun K h=>acW (T:=T1b) (L:=[]) (fun _=>0) Tryz.func103 (Kb) (LOk.nil _ _ _ _ _) h
theorem GF (a b:Int):(by refine(?_:_→_→Prop) (decide (gG a<gG b)) (gG a-gG b); exact fun h i=>by refine(?_:_→_→Prop) (Int.tdiv (wI (0-wI i)) 50) (Int.tdiv (wI i) 50); exact fun d g=>by refine(?_:_→_→Prop) (List.getD (en1 .i64 fz) (Int.toNat (wI g)) []) (List.getD (en1 .i64 fz) (Int.toNat (wI d)) []); exact fun e f=>by refine(?_:_→_→Prop) (true && aE [.int .i64] 0 f) (true && aE [.int .i64] 0 e); exact fun j k=>∀(K:PV→Prop),by refine(?_:_→Prop) (br h (InL (en1 .i64 fz) 1 16∧K (.I (wI (1000-990)))) (InL (en1 .i64 fz) 1 16∧K (.I 990))); exact fun c=>(br (decide (wI i<0)) (br (decide (wI d>16)) c (br h (InL (en1 .i64 fz) 1 (wI d)∧br j (K (.I (wI (1000-cI f 0)))) False) (InL (en1 .i64 fz) 1 (wI d)∧br j (K (.I (cI f 0))) False))) (br (decide (wI g>16)) c (br h (InL (en1 .i64 fz) 1 (wI g)∧br k (K (.I (wI (1000-cI e 0)))) False) (InL (en1 .i64 fz) 1 (wI g)∧br k (K (.I (cI e 0))) False))))→AcK 105 [.I a,.I b] [] (fun x _=>K x):Prop):=fun K h=>acW (T:=T1) (L:=[]) (fun _=>0) Tryz.func105 (po) (LOk.nil _ _ _ _ _) h
theorem IK:SpK 103 (.pure pW):=by
 intro args K h
 unfold pW at h
 split at h
 ·rename_i a b
  refine b9 ai (by simp[cr]) (.int _ _) (GR a b _ ?_) h
  have h1:=cj a
  have h2:=cj b
  simp only[ar,decide_eq_true_eq,fV]
  by_cases hp:within a<within b
  ·simp only[hp,if_true]
   have h4:=iV (d:=within b-within a) (by omega)
   have e2:ee (within b) (within a)=ex0 (within b-within a):=by unfold ee; rw[fV,fV,if_neg (by omega)]
   have e1:ee a b=1000-ex0 (within b-within a):=by unfold ee; rw[if_pos hp]
   rw[e2,e1]
   exact⟨by omega,congrArg (PV.int _) (wrap_i64 (by omega) (by omega))⟩
  ·have h3:0≤mnI ((within a-within b) / 50) 16∧mnI ((within a-within b) / 50) 16≤16:=by unfold mnI; split<;>omega
   simp only[hp,if_false,H7 (d:=within a-within b) (by omega) (by omega),Nat.mul_one,q8]
   rw[nW _ _ _ (by simp[fz]; omega),if_pos (by simp; omega)]
   simp only[Bool.and_self,if_true,ee,hp,if_false,ex0]
 ·exact h.elim
theorem GN:SpK 105 (.pure pW):=by
 intro args K h
 unfold pW at h
 split at h
 ·rename_i a b
  refine b9 ai (by simp[cr]) (.int _ _) (GF a b _ ?_) h
  have h1:=cj a
  have h2:=cj b
  simp only[ar,decide_eq_true_eq,qc]
  have e0:∀ d:Int,-10000≤d→d≤10000→wI d=d:=fun d h h'=>wrap_i64 (by omega) (by omega)
  have e9:wI (1000-990)=10:=rfl
  by_cases hp:within a<within b
  ·have e1:wI (within a-within b)=within a-within b:=e0 _ (by omega) (by omega)
   have e2:wI (0-(within a-within b))=within b-within a:=by rw[e0 _ (by omega) (by omega)]; omega
   have e4:wI (Int.tdiv (within b-within a) 50)=(within b-within a) / 50:=by
    rw[Int.tdiv_eq_ediv_of_nonneg (by omega)]; exact e0 _ (by omega) (by omega)
   have hx:=iV (d:=within b-within a) (by omega)
   have e5:ee a b=1000-ex0 (within b-within a):=by unfold ee; rw[if_pos hp]
   simp only[e1,e2,e4,hp,if_true,show within a-within b<0 by omega,e5,j7,e9]
   by_cases hk:(within b-within a) / 50>16
   ·have e6:mnI ((within b-within a) / 50) 16=16:=by unfold mnI; rw[if_pos (by omega)]
    simp only[hk,if_true,ex0,e6]
    exact⟨fj _ _ _ (by omega) (by simp[fz]),rfl⟩
   ·have e6:mnI ((within b-within a) / 50) 16=(within b-within a) / 50:=by unfold mnI; rw[if_neg (by omega)]
    simp only[hk,if_false]
    have e7:ex0 (within b-within a)=fz.getD ((within b-within a) / 50).toNat 0:=by unfold ex0; rw[e6]
    rw[fP _ _ _ (by simp[fz]; omega),← e7]
    exact⟨fj _ _ _ (by omega) (by simp[fz]; omega),by simp only[Bool.and_self,if_true]; rw[e0 _ (by omega) (by omega)]⟩
  ·have e1:wI (within a-within b)=within a-within b:=e0 _ (by omega) (by omega)
   have e4:wI (Int.tdiv (within a-within b) 50)=(within a-within b) / 50:=by
    rw[Int.tdiv_eq_ediv_of_nonneg (by omega)]; exact e0 _ (by omega) (by omega)
   have e5:ee a b=ex0 (within a-within b):=by unfold ee; rw[if_neg hp]
   simp only[e1,e4,hp,if_false,show ¬ within a-within b<0 by omega,e5,j7]
   by_cases hk:(within a-within b) / 50>16
   ·have e6:mnI ((within a-within b) / 50) 16=16:=by unfold mnI; rw[if_pos (by omega)]
    simp only[hk,if_true,ex0,e6]
    exact⟨fj _ _ _ (by omega) (by simp[fz]),rfl⟩
   ·have e6:mnI ((within a-within b) / 50) 16=(within a-within b) / 50:=by unfold mnI; rw[if_neg (by omega)]
    simp only[hk,if_false]
    have e7:ex0 (within a-within b)=fz.getD ((within a-within b) / 50).toNat 0:=by unfold ex0; rw[e6]
    rw[fP _ _ _ (by simp[fz]; omega),← e7]
    exact⟨fj _ _ _ (by omega) (by simp[fz]; omega),by simp only[Bool.and_self,if_true]⟩
 ·exact h.elim
def T2:Tab:=(103,.pure pW)::(105,.pure pW)::T1
theorem Aa:TbK T2:= .cons IK (.cons GN po)
def fR (n:Int):Int:=if n<0 then -((-n) / 1000) else n / 1000
theorem uz (n:Int):n.tdiv 1000=fR n:=by
 unfold fR
 split
 ·have h:n = -(-n):=by omega
  rw[h,Int.neg_tdiv,Int.tdiv_eq_ediv_of_nonneg (by omega)]; congr 2; omega
 ·rw[Int.tdiv_eq_ediv_of_nonneg (by omega)]
def sc (r:Int):Int:=if r=0 then 500 else if r=1 then 1000 else 0
def clm (m:Int):Int:=mnI (mxI m 0) 4
def stk (a b m r:Int):Int:=if r<0∨r>2 then 0 else fR (32*clm m*(sc r-ee a b))
theorem ql (m:Int):clm m=0∨clm m=1∨clm m=2∨clm m=3∨clm m=4:=by unfold clm mnI mxI; (repeat' split)<;>omega
theorem sH (m r x:Int) (hx:10≤x∧x≤990):wI (32*clm m)=32*clm m∧wI (sc r-x)=sc r-x∧wI (32*clm m*(sc r-x))=32*clm m*(sc r-x)∧ -128000≤32*clm m*(sc r-x)∧32*clm m*(sc r-x)≤128000:=by
 have hs:0≤sc r∧sc r≤1000:=by unfold sc; (repeat' split)<;>omega
 have hb: -128000≤32*clm m*(sc r-x)∧32*clm m*(sc r-x)≤128000:=by
  rcases ql m with h|h|h|h|h<;>rw[h]<;>omega
 refine⟨aD ?_ ?_,aD ?_ ?_,aD ?_ ?_,hb.1,hb.2⟩<;>rcases ql m with h|h|h|h|h<;>omega
theorem fN {n:Int} (h0: -128000≤n) (h1:n≤128000): -128≤fR n∧fR n≤128:=by unfold fR; split<;>omega
theorem y9 (a b m r:Int): -128≤stk a b m r∧stk a b m r≤128:=by
 unfold stk
 split
 ·omega
 ·obtain⟨_,_,_,h1,h2⟩:=sH m r (ee a b) (j6 a b)
  exact fN h1 h2
def qt (args:List PV) (K:PV→Prop):Prop:=match args with
 | [.int .i64 a,.int .i64 b,.int .i64 m,.int .i64 r]=>K (.int .i64 (stk a b m r))
 | _=>False
theorem BC (a b m r:Int)  (K:PV→Prop) (h:br (decide (r<0) == false) (br (decide (r>2)) (K (.I 0)) (br (decide (0≤r) && decide (r<3)) (br (true && aE [.int .i64] 0 (List.drop (Int.toNat r*1) (List.map (PV.int .i64) scs))) (K (.I (wI (Int.tdiv (wI (wI (32*mnI (mxI m 0) 4)*wI (cI (List.drop (Int.toNat r*1) (List.map (PV.int .i64) scs)) 0-ee a b))) 1000)))) False) False)) (K (.I 0))):AcK 75 [.I a,.I b,.I m,.I r] [] (fun x _=>K x):=
 acW (T:=T2) (L:=[]) (fun _=>0) Tryz.func75 (Aa) (LOk.nil _ _ _ _ _) h
theorem zA (a b m r:Int):(by refine(?_:_→_→_→_→_→_→_→_→_→Prop) (wI (32*m)*wI (1000-ee a b)) (wI (32*m)*wI (500-ee a b)) (wI (32*m)*wI (0-ee a b)) (128*wI (1000-ee a b)) (128*wI (500-ee a b)) (0*wI (1000-ee a b)) (0*wI (500-ee a b)) (128*wI (0-ee a b)) (0*wI (0-ee a b)); exact fun c d e f g h i j k=>∀(K:PV→Prop),(br (decide (m<0)) (br (r == 0) (br (decide (wI i<0)) (K (.I (wI (0-wI (Int.tdiv (wI (0-wI i)) 1000))))) (K (.I (wI (Int.tdiv (wI i) 1000))))) (br (r == 1) (br (decide (wI h<0)) (K (.I (wI (0-wI (Int.tdiv (wI (0-wI h)) 1000))))) (K (.I (wI (Int.tdiv (wI h) 1000))))) (br (r == 2) (br (decide (wI k<0)) (K (.I (wI (0-wI (Int.tdiv (wI (0-wI k)) 1000))))) (K (.I (wI (Int.tdiv (wI k) 1000))))) (K (.I 0))))) (br (decide (m>4)) (br (r == 0) (br (decide (wI g<0)) (K (.I (wI (0-wI (Int.tdiv (wI (0-wI g)) 1000))))) (K (.I (wI (Int.tdiv (wI g) 1000))))) (br (r == 1) (br (decide (wI f<0)) (K (.I (wI (0-wI (Int.tdiv (wI (0-wI f)) 1000))))) (K (.I (wI (Int.tdiv (wI f) 1000))))) (br (r == 2) (br (decide (wI j<0)) (K (.I (wI (0-wI (Int.tdiv (wI (0-wI j)) 1000))))) (K (.I (wI (Int.tdiv (wI j) 1000))))) (K (.I 0))))) (br (r == 0) (br (decide (wI d<0)) (K (.I (wI (0-wI (Int.tdiv (wI (0-wI d)) 1000))))) (K (.I (wI (Int.tdiv (wI d) 1000))))) (br (r == 1) (br (decide (wI c<0)) (K (.I (wI (0-wI (Int.tdiv (wI (0-wI c)) 1000))))) (K (.I (wI (Int.tdiv (wI c) 1000))))) (br (r == 2) (br (decide (wI e<0)) (K (.I (wI (0-wI (Int.tdiv (wI (0-wI e)) 1000))))) (K (.I (wI (Int.tdiv (wI e) 1000))))) (K (.I 0)))))))→AcK 78 [.I a,.I b,.I m,.I r] [] (fun x _=>K x):Prop):=fun K h=>acW (T:=T2) (L:=[]) (fun _=>0) Tryz.func78 (Aa) (LOk.nil _ _ _ _ _) h
theorem JN {r:Int} (h0:0≤r) (h2:r≤2):scs.getD (Int.toNat r) 0=sc r:=by
 have:r=0∨r=1∨r=2:=by omega
 rcases this with rfl|rfl|rfl<;>rfl
theorem zP:SpK 75 (.pure qt):=by
 intro args K h
 unfold qt at h
 split at h
 ·rename_i a b m r
  refine b9 ai (by simp[cr]) (.int _ _) (BC a b m r _ ?_) h
  obtain⟨e1,e2,e3,h1,h2⟩:=sH m r (ee a b) (j6 a b)
  have hq:=fN h1 h2
  simp only[ar,decide_eq_true_eq,Nat.mul_one,q8]
  by_cases c1:r<0
  ·simp[c1,stk]
  ·by_cases c2:r>2
   ·simp[c1,c2,stk]
   ·rw[nW _ _ _ (by simp[scs]; omega),JN (by omega) (by omega)]
    have e4:mnI (mxI m 0) 4=clm m:=rfl
    rw[e4,e1,e2,e3,uz,aD (by omega) (by omega)]
    have e5:stk a b m r=fR (32*clm m*(sc r-ee a b)):=by unfold stk; rw[if_neg (by omega)]
    simp[c1,c2,e5]; omega
 ·exact h.elim
theorem Im {n:Int} (h0: -128000≤n) (h1:n≤128000):(n<0→wI (0-wI (Int.tdiv (wI (0-n)) 1000))=fR n)∧(¬ n<0→wI (Int.tdiv n 1000)=fR n):=by
 have hq:=fN h0 h1
 constructor
 ·intro h
  rw[aD (n:=0-n) (by omega) (by omega),uz]
  have e:fR n = - fR (0-n):=by unfold fR; rw[if_pos h,if_neg (by omega)]; congr 2; omega
  have hq2:=fN (n:=0-n) (by omega) (by omega)
  rw[aD (n:=fR (0-n)) (by omega) (by omega),aD (by omega) (by omega)]; omega
 ·intro h; rw[uz]; exact aD (by omega) (by omega)
theorem nH {mm x s:Int} (hx:10≤x∧x≤990) (hs:0≤s∧s≤1000) (hm:0≤mm∧mm≤4):wI (32*mm)=32*mm∧wI (s-x)=s-x∧wI (32*mm*(s-x))=32*mm*(s-x)∧ -128000≤32*mm*(s-x)∧32*mm*(s-x)≤128000:=by
 have h:mm=0∨mm=1∨mm=2∨mm=3∨mm=4:=by omega
 have hb: -128000≤32*mm*(s-x)∧32*mm*(s-x)≤128000:=by
  rcases h with h|h|h|h|h<;>rw[h]<;>omega
 exact⟨aD (by omega) (by omega),aD (by omega) (by omega),aD (by omega) (by omega),hb.1,hb.2⟩
theorem zj:SpK 78 (.pure qt):=by
 intro args K h
 unfold qt at h
 split at h
 ·rename_i a b m r
  refine b9 ai (by simp[cr]) (.int _ _) (zA a b m r _ ?_) h
  have hx:=j6 a b
  generalize hxx:ee a b=x at *
  have key:∀(mm s:Int),0≤mm∧mm≤4→0≤s∧s≤1000→mm=clm m→s=sc r→0≤r∧r≤2→∀ n,n=32*mm*(s-x)→
    (if n<0 then PV.int IntKind.i64 (wI (0-wI (Int.tdiv (wI (0-n)) 1000)))=PV.int IntKind.i64 (stk a b m r) else PV.int IntKind.i64 (wI (Int.tdiv n 1000))=PV.int IntKind.i64 (stk a b m r)):=by
   rintro mm s hm hs hmm hss hr n rfl
   obtain⟨_,_,_,g1,g2⟩:=nH hx hs hm
   have e5:stk a b m r=fR (32*mm*(s-x)):=by unfold stk; rw[if_neg (by omega),hxx,hmm,hss]
   rw[e5]
   split
   ·rename_i hn; rw[(Im g1 g2).1 hn]
   ·rename_i hn; rw[(Im g1 g2).2 hn]
  have w0:∀ s:Int,0≤s∧s≤1000→wI (s-x)=s-x:=fun s hs=>aD (by omega) (by omega)
  have w1:∀ s:Int,wI (0*s)=0:=fun s=>by rw[Int.zero_mul]; rfl
  have w2:∀ s:Int,0≤s∧s≤1000→wI (128*(s-x))=32*4*(s-x):=fun s hs=>by rw[aD (by omega) (by omega)]; omega
  have w5:wI (0-x)=0-x:=w0 0 (by omega)
  simp only[ar,decide_eq_true_eq,beq_iff_eq,w1,w0 500 (by omega),w0 1000 (by omega),w5,w2 500 (by omega),w2 1000 (by omega),w2 0 (by omega)]
  by_cases c0:m<0
  ·have hc:clm m=0:=by unfold clm mnI mxI; (repeat' split)<;>omega
   simp only[c0,if_true]
   by_cases r0:r=0
   ·subst r0; simp only[if_true]; exact key 0 500 (by omega) (by omega) hc.symm rfl (by omega) 0 (by omega)
   ·by_cases r1:r=1
    ·subst r1; simp only[if_true,show ¬ (1:Int)=0 by decide,if_false]; exact key 0 1000 (by omega) (by omega) hc.symm rfl (by omega) 0 (by omega)
    ·by_cases r2:r=2
     ·subst r2; simp only[if_true,show ¬ (2:Int)=0 by decide,show ¬ (2:Int)=1 by decide,if_false]; exact key 0 0 (by omega) (by omega) hc.symm rfl (by omega) 0 (by omega)
     ·simp only[r0,r1,r2,if_false]; unfold stk; rw[if_pos (by omega)]
  ·by_cases c4:m>4
   ·have hc:clm m=4:=by unfold clm mnI mxI; (repeat' split)<;>omega
    simp only[c0,c4,if_true,if_false]
    by_cases r0:r=0
    ·subst r0; simp only[if_true]; exact key 4 500 (by omega) (by omega) hc.symm rfl (by omega) _ rfl
    ·by_cases r1:r=1
     ·subst r1; simp only[if_true,show ¬ (1:Int)=0 by decide,if_false]; exact key 4 1000 (by omega) (by omega) hc.symm rfl (by omega) _ rfl
     ·by_cases r2:r=2
      ·subst r2; simp only[if_true,show ¬ (2:Int)=0 by decide,show ¬ (2:Int)=1 by decide,if_false]; exact key 4 0 (by omega) (by omega) hc.symm rfl (by omega) _ rfl
      ·simp only[r0,r1,r2,if_false]; unfold stk; rw[if_pos (by omega)]
   ·have hc:clm m=m:=by unfold clm mnI mxI; (repeat' split)<;>omega
    have w3:wI (32*m)=32*m:=aD (by omega) (by omega)
    simp only[c0,c4,if_false,w3]
    by_cases r0:r=0
    ·subst r0; simp only[if_true]
     rw[(nH hx (by omega:0≤(500:Int)∧(500:Int)≤1000) (by omega:0≤m∧m≤4)).2.2.1]
     exact key m 500 (by omega) (by omega) hc.symm rfl (by omega) _ rfl
    ·by_cases r1:r=1
     ·subst r1; simp only[if_true,show ¬ (1:Int)=0 by decide,if_false]
      rw[(nH hx (by omega:0≤(1000:Int)∧(1000:Int)≤1000) (by omega:0≤m∧m≤4)).2.2.1]
      exact key m 1000 (by omega) (by omega) hc.symm rfl (by omega) _ rfl
     ·by_cases r2:r=2
      ·subst r2; simp only[if_true,show ¬ (2:Int)=0 by decide,show ¬ (2:Int)=1 by decide,if_false]
       rw[(nH hx (by omega:0≤(0:Int)∧(0:Int)≤1000) (by omega:0≤m∧m≤4)).2.2.1]
       exact key m 0 (by omega) (by omega) hc.symm rfl (by omega) _ rfl
      ·simp only[r0,r1,r2,if_false]; unfold stk; rw[if_pos (by omega)]
 ·exact h.elim
def shp (p m k:Int):Int:=if k<p-p / m*m then p / m+1 else p / m
def shr (p m k:Int):Int:=if k<0∨k≥m then 0 else if p<0 then -(shp (-p) m k) else shp p m k
def P41 (p:Int):Prop:= -2199023255552≤p∧p≤2199023255552
theorem gw {p m:Int} (hp:0≤p) (hm:1≤m):0≤p / m∧p / m≤p∧0≤p / m*m∧p / m*m≤p∧p.tdiv m=p / m∧p.tmod m=p-p / m*m:=by
 have h1:0≤p / m:=Int.ediv_nonneg hp (by omega)
 have h2:p / m*m≤p:=Int.ediv_mul_le p (by omega)
 refine⟨h1,Int.ediv_le_self m hp,Int.mul_nonneg h1 (by omega),h2,Int.tdiv_eq_ediv_of_nonneg hp,?_⟩
 rw[Int.tmod_eq_emod_of_nonneg hp,Int.emod_def,Int.mul_comm m]
theorem Gn {p m:Int} (hp:p<0) (hm:1≤m):p.tdiv m = -((-p) / m)∧p.tmod m = -((-p)-(-p) / m*m):=by
 obtain⟨_,_,_,_,h5,h6⟩:=gw (p:= -p) (m:=m) (by omega) hm
 rw[Int.neg_tdiv] at h5
 rw[Int.neg_tmod] at h6
 constructor<;>omega
theorem lZ {p m k:Int} (hp:0≤p) (hm:1≤m):0≤shp p m k∧shp p m k≤p+1:=by
 obtain⟨h1,h2,_,_,_,_⟩:=gw hp hm
 unfold shp; split<;>omega
theorem ze {p m k:Int} (hp:P41 p): -2199023255553≤shr p m k∧shr p m k≤2199023255553:=by
 unfold P41 at hp
 unfold shr
 split
 ·omega
 ·split
  ·have:=lZ (p:= -p) (m:=m) (k:=k) (by omega) (by omega); omega
  ·have:=lZ (p:=p) (m:=m) (k:=k) (by omega) (by omega); omega
def qw (args:List PV) (K:PV→Prop):Prop:=match args with
 | [.int .i64 p,.int .i64 m,.int .i64 k]=>P41 p∧K (.int .i64 (shr p m k))
 | _=>False
def u5 (args:List PV) (K:PV→Prop):Prop:=match args with
 | [.int .i64 p,.int .i64 m,.int .i64 k]=>(P41 p∧0≤p)∧K (.int .i64 (shr p m k))
 | _=>False
theorem Dq (p m k:Int)  (K:PV→Prop) (h:br (decide (k<0) == false) (br (decide (k≥m)) (K (.I 0)) (br (m != 0) (br (m != 0) (br (decide (Int.tmod p m>k)) (K (.I (wI (wI (Int.tdiv p m)+1)))) (br (decide (wI (0-Int.tmod p m)>k)) (K (.I (wI (wI (Int.tdiv p m)-1)))) (K (.I (wI (Int.tdiv p m)))))) False) False)) (K (.I 0))):AcK 104 [.I p,.I m,.I k] [] (fun x _=>K x):=
 acW (T:=T1) (L:=[]) (fun _=>0) Tryz.func104 (po) (LOk.nil _ _ _ _ _) h
theorem tY (p m k:Int)  (K:PV→Prop) (h:br (decide (k<0) == false) (br (decide (k≥m)) (K (.I 0)) (br (decide (p<0)) False (br (m != 0) (br (decide (k<wI (p-wI (wI (Int.tdiv p m)*m)))) (K (.I (wI (wI (Int.tdiv p m)+1)))) (K (.I (wI (Int.tdiv p m))))) False))) (K (.I 0))):AcK 81 [.I p,.I m,.I k] [] (fun x _=>K x):=
 acW (T:=T1) (L:=[]) (fun _=>0) Tryz.func81 (po) (LOk.nil _ _ _ _ _) h
theorem AO:SpK 104 (.pure qw):=by
 intro args K h
 unfold qw at h
 split at h
 ·rename_i p m k
  obtain⟨hp,h⟩:=h
  refine b9 ai (by simp[cr]) (.int _ _) (Dq p m k _ ?_) h
  unfold P41 at hp
  simp only[ar,decide_eq_true_eq,beq_iff_eq,bne_iff_ne]
  by_cases c1:k<0
  ·simp[c1,shr]
  ·by_cases c2:k≥m
   ·simp[c1,c2,shr]
   ·have hm:m≠0:=by omega
    simp only[c1,c2,hm,decide_false,if_true,if_false,ne_eq,not_false_eq_true]
    have e0:shr p m k=if p<0 then -(shp (-p) m k) else shp p m k:=by unfold shr; rw[if_neg (by omega)]
    rw[e0]
    by_cases hn:p<0
    ·obtain⟨h1,h2,h3,h4,_,_⟩:=gw (p:= -p) (m:=m) (by omega) (by omega)
     obtain⟨h5,h6⟩:=Gn (p:=p) (m:=m) hn (by omega)
     have e2:shp (-p) m k=if k < -p-(-p) / m*m then(-p) / m+1 else(-p) / m:=rfl
     rw[h5,h6,if_pos hn,e2]
     generalize (-p) / m*m=q at *
     generalize (-p) / m=d at *
     have e1:wI (0 - -(-p-q)) = -p-q:=by rw[aD (by omega) (by omega)]; omega
     have e3:wI (-d) = -d:=aD (by omega) (by omega)
     have e4:wI (-d-1) = -d-1:=aD (by omega) (by omega)
     rw[e1,if_neg (by omega),e3,e4]
     by_cases c:k < -p-q
     ·rw[if_pos c]; simp only[c,if_true]; congr 1; omega
     ·rw[if_neg c]; simp only[show ¬ -p-q>k by omega,if_false]
    ·obtain⟨h1,h2,h3,h4,h5,h6⟩:=gw (p:=p) (m:=m) (by omega) (by omega)
     have e2:shp p m k=if k<p-p / m*m then p / m+1 else p / m:=rfl
     rw[h5,h6,if_neg hn,e2]
     generalize p / m*m=q at *
     generalize p / m=d at *
     have e3:wI d=d:=aD (by omega) (by omega)
     have e4:wI (d+1)=d+1:=aD (by omega) (by omega)
     have e1:wI (0-(p-q)) = -(p-q):=by rw[aD (by omega) (by omega)]; omega
     rw[e1,e3,e4]
     by_cases c:k<p-q
     ·simp[c]
     ·simp[show ¬ k<p-q by omega,show ¬ k < -(p-q) by omega]
 ·exact h.elim
theorem pA {p m k:Int} (hp:P41 p) (h0:0≤p) (K:PV→Prop) (hk:K (.I (shr p m k))) (c1:¬ k<0) (c2:¬ k≥m):
  (if k<wI (p-wI (wI (Int.tdiv p m)*m)) then K (PV.int IntKind.i64 (wI (wI (Int.tdiv p m)+1))) else K (PV.int IntKind.i64 (wI (Int.tdiv p m)))):=by
 unfold P41 at hp
 obtain⟨h1,h2,h3,h4,h5,h6⟩:=gw (p:=p) (m:=m) (by omega) (by omega)
 have e2:shr p m k=if k<p-p / m*m then p / m+1 else p / m:=by unfold shr; rw[if_neg (by omega),if_neg (by omega)]; rfl
 rw[e2] at hk
 have e3:wI (p / m)=p / m:=aD (by omega) (by omega)
 have e5:wI (p / m*m)=p / m*m:=aD (by omega) (by omega)
 have e6:wI (p-p / m*m)=p-p / m*m:=aD (by omega) (by omega)
 have e4:wI (p / m+1)=p / m+1:=aD (by omega) (by omega)
 rw[h5,e3,e5,e6,e4]
 by_cases c:k<p-p / m*m
 ·rw[if_pos c] at hk ⊢; exact hk
 ·rw[if_neg c] at hk ⊢; exact hk
theorem uf:SpK 81 (.pure u5):=by
 intro args K h
 unfold u5 at h
 split at h
 ·rename_i p m k
  obtain⟨⟨hp,h0⟩,h⟩:=h
  refine b9 ai (by simp[cr]) (.int _ _) (tY p m k _ ?_) h
  simp only[ar,decide_eq_true_eq,beq_iff_eq,bne_iff_ne]
  by_cases c1:k<0
  ·simp[c1,shr]
  ·by_cases c2:k≥m
   ·simp[c1,c2,shr]
   ·have hm:m≠0:=by omega
    have hn:¬ p<0:=by omega
    simp only[c1,c2,hm,hn,decide_false,if_true,if_false,ne_eq,not_false_eq_true]
    exact pA hp h0 (fun x=>x = .I (shr p m k)) rfl c1 c2
 ·exact h.elim
def T1c:Tab:=(81,.pure u5)::T1
theorem Ko:TbK T1c:= .cons uf po
theorem ud (p m k:Int)  (K:PV→Prop) (h:br (decide (k<0) == false) (br (decide (k≥m)) (K (.I 0)) (br (decide (p<0)) ((P41 (wI (0-p))∧0≤wI (0-p))∧K (.I (wI (0-shr (wI (0-p)) m k)))) (br (m != 0) (br (decide (k<wI (p-wI (wI (Int.tdiv p m)*m)))) (K (.I (wI (wI (Int.tdiv p m)+1)))) (K (.I (wI (Int.tdiv p m))))) False))) (K (.I 0))):AcK 81 [.I p,.I m,.I k] [] (fun x _=>K x):=
 acW (T:=T1c) (L:=[]) (fun _=>0) Tryz.func81 (Ko) (LOk.nil _ _ _ _ _) h
theorem zB:SpK 81 (.pure qw):=by
 intro args K h
 unfold qw at h
 split at h
 ·rename_i p m k
  obtain⟨hp,h⟩:=h
  refine b9 ai (by simp[cr]) (.int _ _) (ud p m k _ ?_) h
  have hp':=hp
  unfold P41 at hp'
  simp only[ar,decide_eq_true_eq,beq_iff_eq,bne_iff_ne]
  by_cases c1:k<0
  ·simp[c1,shr]
  ·by_cases c2:k≥m
   ·simp[c1,c2,shr]
   ·have hm:m≠0:=by omega
    simp only[c1,c2,hm,decide_false,if_true,if_false,ne_eq,not_false_eq_true]
    by_cases hn:p<0
    ·have e:wI (0-p) = -p:=by rw[aD (by omega) (by omega)]; omega
     have hr:=lZ (p:= -p) (m:=m) (k:=k) (by omega) (by omega)
     have e1:shr (-p) m k=shp (-p) m k:=by unfold shr; rw[if_neg (by omega),if_neg (by omega)]
     have e2:shr p m k = -(shp (-p) m k):=by unfold shr; rw[if_neg (by omega),if_pos hn]
     simp only[hn,if_true,e,e1,e2]
     refine⟨⟨⟨by omega,by omega⟩,by omega⟩,?_⟩
     congr 1
     rw[aD (by omega) (by omega)]; omega
    ·simp only[hn,if_false]
     exact pA hp (by omega) (fun x=>x = .I (shr p m k)) rfl c1 c2
 ·exact h.elim
def T3:Tab:=(75,.pure qt)::(78,.pure qt)::(104,.pure qw)::(81,.pure qw)::T2
theorem sC:TbK T3:= .cons zP (.cons zj (.cons AO (.cons zB Aa)))
def ek (ns:List Int):Prop:=(ns.length:Int)≤4611686018427387904
def kY:Int→List Int→Int
 | acc,[]=>acc
 | acc,r::l=>kY (wI (acc+within r)) l
def fZ (ns:List Int):Int:=if ns.length=0 then 0 else wI ((kY 0 ns).tdiv ns.length)
theorem lD {ns:List Int} {i:Nat} (h:i<ns.length):ns.drop i=ns.getD i 0::ns.drop (i+1):=by
 rw[List.drop_eq_getElem_cons h,List.getD_eq_getElem?_getD,List.getElem?_eq_getElem h]; rfl
theorem pU {ns:List Int} {i:Nat} (acc:Int) (h:i<ns.length):kY acc (ns.drop i)=kY (wI (acc+within (ns.getD i 0))) (ns.drop (i+1)):=by
 rw[lD h]; rfl
theorem toNat_cast (i:Nat):Int.toNat (i:Int)=i:=rfl
theorem au {i n:Nat} (h:i<n) (hn:(n:Int)≤4611686018427387904):wI ((i:Int)+1)=((i+1:Nat):Int):=by
 rw[aD (by omega) (by omega)]; rfl
def Ap:LSp:=fun e H Q=>∃(ns:List Int) (t:Tail),ek ns∧ah (List.map e [0,3,9,10,11]) [.list (en1 .i64 ns) t,.I 0,.list (en1 .i64 ns) t,.I (en1 .i64 ns).length,.I 0]∧ax H []∧
 Q (.exit 0) (an [0,3,9,10,11] [.list (en1 .i64 ns) t,.I (kY 0 ns),.list (en1 .i64 ns) t,.I (en1 .i64 ns).length,.I ns.length]) []
def xD:LSp:=fun e H Q=>∃(ns:List Int) (t:Tail),ek ns∧ah (List.map e [0,3,4]) [.list (en1 .i64 ns) t,.I 0,.I 0]∧ax H []∧
 Q (.exit 0) (an [0,3,4] [.list (en1 .i64 ns) t,.I (kY 0 ns),.I ns.length]) []
def mr (args:List PV) (K:PV→Prop):Prop:=match args with
 | [.list es t]=>∃ ns,es=en1 .i64 ns∧ek ns∧NT t∧K (.int .i64 (fZ ns))
 | _=>False
theorem BA (ns:List Int) (t:Tail) (acc:Int) (i:Nat):(by refine(?_:_→_→_→Prop) (PV.list (en1 .i64 ns) t) (↑(List.length (en1 .i64 ns)):Int) (List.getD (en1 .i64 ns) (Int.toNat (i:Int)) []); exact fun a b c=>∀(R:Ex→List PV→ae→Prop),(br (decide ((i:Int)<b)) (InL (en1 .i64 ns) 1 (i:Int)∧br (true && aE [.int .i64] 0 c) (R .normal [a,.I (wI (acc+within (cI c 0))),a,.I b,.I (wI ((i:Int)+1))] []) False) (R (.exit 0) [a,.I acc,a,.I b,.I i] []))→Holds (wpK T3 [] (fun _=>0) (aj [1,1,1,0,1,0] (ag Tryz.f76)) [] (an [0,3,9,10,11] [a,.I acc,a,.I (en1 .i64 ns).length,.I i]) [] (fun ex e H=>R ex (List.map e [0,3,9,10,11]) H)):Prop):=fun R h=>hoE h
theorem yJ (ns:List Int) (t:Tail) (acc:Int) (i:Nat):(by refine(?_:_→_→Prop) [PV.list (en1 .i64 ns) t,.I acc,.I i] (List.getD (en1 .i64 ns) (Int.toNat (i:Int)) []); exact fun a b=>∀(R:Ex→List PV→ae→Prop),(br (decide ((i:Int)<(↑(List.length (en1 .i64 ns)):Int))) (InL (en1 .i64 ns) 1 (i:Int)∧br (true && aE [.int .i64] 0 b) (R .normal [.list (en1 .i64 ns) t,.I (wI (acc+gG (cI b 0))),.I (wI ((i:Int)+1))] []) False) (R (.exit 0) a []))→Holds (wpK T3 [] (fun _=>0) (aj [1,1,1,0,1,0] (ag Tryz.f79)) [] (an [0,3,4] a) [] (fun ex e H=>R ex (List.map e [0,3,4]) H)):Prop):=fun R h=>hoE h
theorem zm:∀ e H Q,Ap e H Q→AwK Tryz.f76.ntmps (.loop (aj [1,1,1,0,1,0] (ag Tryz.f76))) Q e H:=by
 rintro e H Q ⟨ns,t,hl,he,hH,hQ⟩
 refine aB (hn:=fun _=>0) ai sC (.nil _ _ _ _ _) (σ:=Nat×Int) [0,3,9,10,11] (fun p=>p.1≤ns.length∧kY p.2 (ns.drop p.1)=kY 0 ns) (fun p=>[.list (en1 .i64 ns) t,.I p.2,.list (en1 .i64 ns) t,.I (en1 .i64 ns).length,.I p.1])
  (fun _=>[]) (fun p=>ns.length-p.1) (0,0) ⟨Nat.zero_le _,rfl⟩ he hH ?_
 rintro⟨i,acc⟩ ⟨h1,h2⟩
 simp only at h1 h2
 refine BA ns t acc i _ ?_
 simp only[ar,decide_eq_true_eq,bl,toNat_cast,j7]
 by_cases c:i<ns.length
 ·rw[if_pos (by omega),fP _ _ _ c]
  refine⟨fj _ _ _ (by omega) (by omega),?_⟩
  simp only[Bool.and_self,if_true]
  refine⟨(i+1,wI (acc+within (ns.getD i 0))),by simp only; omega,⟨by simp only; omega,by rw[← h2,pU acc c]⟩,?_,[],rfl,Nat.le_refl _,.inl rfl⟩
  rw[au c hl]
 ·rw[if_neg (by omega)]
  have e:i=ns.length:=by omega
  subst e
  rw[List.drop_length] at h2
  have h2:acc=kY 0 ns:=h2
  subst h2
  rw[bl] at hQ
  exact hQ
theorem uo:∀ e H Q,xD e H Q→AwK Tryz.f79.ntmps (.loop (aj [1,1,1,0,1,0] (ag Tryz.f79))) Q e H:=by
 rintro e H Q ⟨ns,t,hl,he,hH,hQ⟩
 refine aB (hn:=fun _=>0) ai sC (.nil _ _ _ _ _) (σ:=Nat×Int) [0,3,4] (fun p=>p.1≤ns.length∧kY p.2 (ns.drop p.1)=kY 0 ns) (fun p=>[.list (en1 .i64 ns) t,.I p.2,.I p.1])
  (fun _=>[]) (fun p=>ns.length-p.1) (0,0) ⟨Nat.zero_le _,rfl⟩ he hH ?_
 rintro⟨i,acc⟩ ⟨h1,h2⟩
 simp only at h1 h2
 refine yJ ns t acc i _ ?_
 simp only[ar,decide_eq_true_eq,bl,toNat_cast,j7,qc]
 by_cases c:i<ns.length
 ·rw[if_pos (by omega),fP _ _ _ c]
  refine⟨fj _ _ _ (by omega) (by omega),?_⟩
  simp only[Bool.and_self,if_true]
  refine⟨(i+1,wI (acc+within (ns.getD i 0))),by simp only; omega,⟨by simp only; omega,by rw[← h2,pU acc c]⟩,?_,[],rfl,Nat.le_refl _,.inl rfl⟩
  rw[au c hl]
 ·rw[if_neg (by omega)]
  have e:i=ns.length:=by omega
  subst e
  rw[List.drop_length] at h2
  have h2:acc=kY 0 ns:=h2
  subst h2
  exact hQ
theorem E1 (ns:List Int) (t:Tail):∀(K:PV→Prop),(br ((↑(List.length (en1 .i64 ns)):Int) == 0) (K (.I 0)) (∃(ns_1:List Int) (t_1:Tail),by refine(?_:_→_→Prop) (↑(List.length (en1 .i64 ns_1)):Int) (PV.list (en1 .i64 ns_1) t_1); exact fun a b=>ek ns_1∧ah [.list (en1 .i64 ns) t,.I 0,.list (en1 .i64 ns) t,.I (↑(List.length (en1 .i64 ns)):Int),.I 0] [b,.I 0,b,.I a,.I 0]∧ax [] []∧br (a != 0) (K (.I (wI (Int.tdiv (kY 0 ns_1) a)))) False))→AcK 76 [.list (en1 .i64 ns) t] [] (fun x _=>K x):=fun K h=>acW (T:=T3) (L:=[([1,1,1,0,1,0],Ap)]) (fun _=>0) Tryz.func76 (sC) (.cons suE zm (.nil _ _ _ _ _)) h
theorem Ca (ns:List Int) (t:Tail)  (K:PV→Prop) (h:br ((↑(List.length (en1 .i64 ns)):Int) == 0) (K (.I 0)) (∃(ns_1:List Int) (t_1:Tail),ek ns_1∧ah [.list (en1 .i64 ns) t,.I 0,.I 0] [.list (en1 .i64 ns_1) t_1,.I 0,.I 0]∧ax [] []∧br ((↑(List.length (en1 .i64 ns_1)):Int) != 0) (K (.I (wI (Int.tdiv (kY 0 ns_1) (↑(List.length (en1 .i64 ns_1)):Int))))) False)):AcK 79 [.list (en1 .i64 ns) t] [] (fun x _=>K x):=
 acW (T:=T3) (L:=[([1,1,1,0,1,0],xD)]) (fun _=>0) Tryz.func79 (sC) (.cons suE uo (.nil _ _ _ _ _)) h
theorem FO:SpK 76 (.pure mr):=by
 intro args K h
 unfold mr at h
 split at h
 ·rename_i es t
  obtain⟨ns,rfl,hl,ht,h⟩:=h
  refine b9 ai (by simp[bY ht]) (.int _ _) (E1 ns t _ ?_) h
  simp only[ar,beq_iff_eq,bne_iff_ne,bl,fZ]
  by_cases c:ns.length=0
  ·simp[c]
  ·rw[if_neg (by omega),if_neg c]
   refine⟨ns,t,hl,rfl,rfl,?_⟩
   rw[if_pos (by omega)]
 ·exact h.elim
theorem BJ:SpK 79 (.pure mr):=by
 intro args K h
 unfold mr at h
 split at h
 ·rename_i es t
  obtain⟨ns,rfl,hl,ht,h⟩:=h
  refine b9 ai (by simp[bY ht]) (.int _ _) (Ca ns t _ ?_) h
  simp only[ar,beq_iff_eq,bne_iff_ne,bl,fZ]
  by_cases c:ns.length=0
  ·simp[c]
  ·rw[if_neg (by omega),if_neg c]
   refine⟨ns,t,hl,rfl,rfl,?_⟩
   rw[if_pos (by omega)]
 ·exact h.elim
def T4:Tab:=(76,.pure mr)::(79,.pure mr)::T3
theorem sR:TbK T4:= .cons FO (.cons BJ sC)
def eR:List Int→Bool
 | []=>true
 | r::l=>(r == within r) && eR l
def vY:LSp:=fun e H Q=>∃(ns:List Int) (t:Tail),ek ns∧ah (List.map e [2,5,6,7]) [.I 0,.list (en1 .i64 ns) t,.I (en1 .i64 ns).length,.I 0]∧ax H []∧
 (eR ns=true→Q (.exit 0) (an [2,5,6,7] [.I 0,.list (en1 .i64 ns) t,.I (en1 .i64 ns).length,.I ns.length]) [])∧
 (eR ns=false→∀ i:Int,Q .ret (an [2,5,6,7] [.I 2,.list (en1 .i64 ns) t,.I (en1 .i64 ns).length,.I i]) [])
def wrong (ns:List Int):Int:=if eR ns=true then 0 else 2
def iZ (args:List PV) (K:PV→Prop):Prop:=match args with
 | [.list es t]=>∃ ns,es=en1 .i64 ns∧ek ns∧NT t∧K (.int .i64 (wrong ns))
 | _=>False
theorem yn (ns:List Int) (t:Tail) (i:Nat):(by refine(?_:_→_→_→Prop) (↑(List.length (en1 .i64 ns)):Int) (List.getD (en1 .i64 ns) (Int.toNat (i:Int)) []) (PV.list (en1 .i64 ns) t); exact fun a b c=>∀(R:Ex→List PV→ae→Prop),(br (decide ((i:Int)<a)) (InL (en1 .i64 ns) 1 (i:Int)∧br (true && aE [.int .i64] 0 b) (br (cI b 0 != within (cI b 0)) (R .ret [.I 2,c,.I a,.I i] []) (R .normal [.I 0,c,.I a,.I (wI ((i:Int)+1))] [])) False) (R (.exit 0) [.I 0,c,.I a,.I i] []))→Holds (wpK T4 [] (fun _=>0) (aj [1,0,1,0] (ag Tryz.f74)) [] (an [2,5,6,7] [.I 0,c,.I (en1 .i64 ns).length,.I i]) [] (fun ex e H=>R ex (List.map e [2,5,6,7]) H)):Prop):=fun R h=>hoE h
theorem uc {ns:List Int} {i:Nat} (h:i<ns.length):eR (ns.drop i)=((ns.getD i 0 == within (ns.getD i 0)) && eR (ns.drop (i+1))):=by rw[lD h]; rfl
theorem vz:∀ e H Q,vY e H Q→AwK Tryz.f74.ntmps (.loop (aj [1,0,1,0] (ag Tryz.f74))) Q e H:=by
 rintro e H Q ⟨ns,t,hl,he,hH,hQ,hR⟩
 refine aB (hn:=fun _=>0) ai sR (.nil _ _ _ _ _) (σ:=Nat) [2,5,6,7] (fun i=>i≤ns.length∧eR (ns.drop i)=eR ns) (fun i=>[.I 0,.list (en1 .i64 ns) t,.I (en1 .i64 ns).length,.I i])
  (fun _=>[]) (fun i=>ns.length-i) 0 ⟨Nat.zero_le _,rfl⟩ he hH ?_
 rintro i ⟨h1,h2⟩
 refine yn ns t i _ ?_
 simp only[ar,decide_eq_true_eq,bl,toNat_cast,j7,bne_iff_ne]
 by_cases c:i<ns.length
 ·rw[if_pos (by omega),fP _ _ _ c]
  refine⟨fj _ _ _ (by omega) (by omega),?_⟩
  simp only[Bool.and_self,if_true]
  rw[uc c] at h2
  by_cases d:ns.getD i 0=within (ns.getD i 0)
  ·rw[if_neg (fun k=>k d)]
   rw[show(ns.getD i 0 == within (ns.getD i 0))=true by simpa using d,Bool.true_and] at h2
   refine⟨i+1,(by omega:ns.length-(i+1)<ns.length-i),⟨by omega,h2⟩,?_,[],rfl,Nat.le_refl _,.inl rfl⟩
   rw[au c hl]
  ·rw[if_pos d]
   rw[show(ns.getD i 0 == within (ns.getD i 0))=false by simpa using d,Bool.false_and] at h2
   have:=hR h2.symm i
   rw[bl] at this
   exact this
 ·rw[if_neg (by omega)]
  have e:i=ns.length:=by omega
  subst e
  rw[List.drop_length] at h2
  have:=hQ h2.symm
  rw[bl] at this
  exact this
theorem Ck (ns:List Int) (t:Tail)  (K:PV→Prop) (h:∃(ns_1:List Int) (t_1:Tail),ek ns_1∧ah [.I 0,.list (en1 .i64 ns) t,.I (↑(List.length (en1 .i64 ns)):Int),.I 0] [.I 0,.list (en1 .i64 ns_1) t_1,.I (↑(List.length (en1 .i64 ns_1)):Int),.I 0]∧ax [] []∧(eR ns_1=true→K (.I 0))∧(eR ns_1=false→∀(_:Int),K (.I 2))):AcK 74 [.list (en1 .i64 ns) t] [] (fun x _=>K x):=
 acW (T:=T4) (L:=[([1,0,1,0],vY)]) (fun _=>0) Tryz.func74 (sR) (.cons suE vz (.nil _ _ _ _ _)) h
theorem oQ:SpK 74 (.pure iZ):=by
 intro args K h
 unfold iZ at h
 split at h
 ·rename_i es t
  obtain⟨ns,rfl,hl,ht,h⟩:=h
  refine b9 ai (by simp[bY ht]) (.int _ _) (Ck ns t _ ?_) h
  refine⟨ns,t,hl,rfl,rfl,fun k=>?_,fun k i=>?_⟩
  ·unfold wrong; rw[if_pos k]
  ·unfold wrong; rw[if_neg (by rw[k]; decide)]
 ·exact h.elim
def nY:LSp:=fun e H Q=>∃(xs ys:List Int) (t u:Tail),ek xs∧xs.length=ys.length∧ah (List.map e [0,1,4,5]) [.list (en1 .i64 xs) t,.list (en1 .i64 ys) u,.bool false,.I 0]∧ax H []∧
 (xs=ys→Q (.exit 0) (an [0,1,4,5] [.list (en1 .i64 xs) t,.list (en1 .i64 ys) u,.bool false,.I xs.length]) [])∧
 (xs≠ys→∀ i:Int,Q .ret (an [0,1,4,5] [.list (en1 .i64 xs) t,.list (en1 .i64 ys) u,.bool false,.I i]) [])
def nP (args:List PV) (K:PV→Prop):Prop:=match args with
 | [.list es t,.list fs u]=>∃ xs ys,es=en1 .i64 xs∧fs=en1 .i64 ys∧ek xs∧ek ys∧NT t∧NT u∧K (.bool (xs == ys))
 | _=>False
theorem AF (xs ys:List Int) (t u:Tail) (i:Nat):(by refine(?_:_→_→Prop) (Int.toNat (i:Int)) (PV.list (en1 .i64 ys) u); exact fun b f=>by refine(?_:_→_→_→Prop) [PV.list (en1 .i64 xs) t,f,.bool false,.I i] (List.getD (en1 .i64 xs) b []) (List.getD (en1 .i64 ys) b []); exact fun a c d=>∀(R:Ex→List PV→ae→Prop),(br (decide ((i:Int)<(↑(List.length (en1 .i64 xs)):Int))) (InL (en1 .i64 xs) 1 (i:Int)∧br (true && aE [.int .i64] 0 c) (InL (en1 .i64 ys) 1 (i:Int)∧br (true && aE [.int .i64] 0 d) (br (cI c 0 != cI d 0) (R .ret a []) (R .normal [.list (en1 .i64 xs) t,f,.bool false,.I (wI ((i:Int)+1))] [])) False) False) (R (.exit 0) a []))→Holds (wpK T4 [] (fun _=>0) (aj [1,1,0,1,0] (ag Tryz.f39)) [] (an [0,1,4,5] a) [] (fun ex e H=>R ex (List.map e [0,1,4,5]) H)):Prop):=fun R h=>hoE h
theorem lG:∀ e H Q,nY e H Q→AwK Tryz.f39.ntmps (.loop (aj [1,1,0,1,0] (ag Tryz.f39))) Q e H:=by
 rintro e H Q ⟨xs,ys,t,u,hl,hlen,he,hH,hQ,hR⟩
 refine aB (hn:=fun _=>0) ai sR (.nil _ _ _ _ _) (σ:=Nat) [0,1,4,5] (fun i=>i≤xs.length∧(xs.drop i=ys.drop i↔xs=ys)) (fun i=>[.list (en1 .i64 xs) t,.list (en1 .i64 ys) u,.bool false,.I i])
  (fun _=>[]) (fun i=>xs.length-i) 0 ⟨Nat.zero_le _,by simp⟩ he hH ?_
 rintro i ⟨h1,h2⟩
 refine AF xs ys t u i _ ?_
 simp only[ar,decide_eq_true_eq,bl,toNat_cast,j7,bne_iff_ne]
 by_cases c:i<xs.length
 ·have c':i<ys.length:=by omega
  rw[if_pos (by omega),fP _ _ _ c,fP _ _ _ c']
  simp only[Bool.and_self,if_true]
  rw[lD c,lD c'] at h2
  refine⟨fj _ _ _ (by omega) (by omega),fj _ _ _ (by omega) (by omega),?_⟩
  by_cases d:xs.getD i 0=ys.getD i 0
  ·rw[if_neg (fun k=>k d)]
   refine⟨i+1,(by omega:xs.length-(i+1)<xs.length-i),⟨by omega,by rw[← h2,d]; simp⟩,?_,[],rfl,Nat.le_refl _,.inl rfl⟩
   rw[au c hl]
  ·rw[if_pos d]
   exact hR (fun k=>d (by rw[k])) i
 ·rw[if_neg (by omega)]
  have e:i=xs.length:=by omega
  subst e
  rw[List.drop_length,hlen,List.drop_length] at h2
  have hxy:=h2.1 rfl
  exact hQ hxy
theorem rS (xs ys:List Int) (t u:Tail)  (K:PV→Prop) (h:br ((↑(List.length (en1 .i64 xs)):Int) != (↑(List.length (en1 .i64 ys)):Int)) (K (.bool false)) (∃(xs_1:List Int) (ys_1:List Int) (t_1:Tail) (u_1:Tail),ek xs_1∧List.length xs_1=List.length ys_1∧ah [.list (en1 .i64 xs) t,.list (en1 .i64 ys) u,.bool false,.I 0] [.list (en1 .i64 xs_1) t_1,.list (en1 .i64 ys_1) u_1,.bool false,.I 0]∧ax [] []∧(xs_1=ys_1→K (.bool true))∧(xs_1≠ys_1→∀(_:Int),K (.bool false)))):AcK 39 [.list (en1 .i64 xs) t,.list (en1 .i64 ys) u] [] (fun x _=>K x):=
 acW (T:=T4) (L:=[([1,1,0,1,0],nY)]) (fun _=>0) Tryz.func39 (sR) (.cons suE lG (.nil _ _ _ _ _)) h
theorem rO:SpK 39 (.pure nP):=by
 intro args K h
 unfold nP at h
 split at h
 ·rename_i es t fs u
  obtain⟨xs,ys,rfl,rfl,hl,hl2,ht,hu,h⟩:=h
  refine b9 ai (by simp[bY ht,bY hu]) (.bool _) (rS xs ys t u _ ?_) h
  simp only[ar,bne_iff_ne,bl]
  by_cases c:xs.length=ys.length
  ·rw[if_neg (by omega)]
   refine⟨xs,ys,t,u,hl,c,rfl,rfl,fun k=>?_,fun k i=>?_⟩
   ·rw[show(xs == ys)=true by simpa using k]
   ·rw[show(xs == ys)=false by simpa using k]
  ·rw[if_pos (by omega)]
   rw[show(xs == ys)=false by simp; intro k; exact c (by rw[k])]
 ·exact h.elim
def T5:Tab:=(74,.pure iZ)::(39,.pure nP)::T4
theorem DQ:TbK T5:= .cons oQ (.cons rO sR)
def uQ (n:Int) (p:Int):Int→List Int→List Int
 | _,[]=>[]
 | k,r::l=>within (r+shr p n k)::uQ n p (k+1) l
def shd (ns:List Int) (p:Int):List Int:=uQ ns.length p 0 ns
theorem mG (n p:Int):∀(k:Int) (l:List Int),(uQ n p k l).length=l.length
 | _,[]=>rfl
 | k,r::l=>by simp only[uQ,List.length_cons,mG n p (k+1) l]
theorem sZ (n p:Int):∀(l:List Int) (k:Int) (i:Nat),i<l.length→(uQ n p k l).getD i 0=within (l.getD i 0+shr p n (k+i))
 | [],_,_,h=>by simp at h
 | r::l,k,0,_=>by simp[uQ]
 | r::l,k,i+1,h=>by
  have:=sZ n p l (k+1) i (by simpa using h)
  simp only[uQ,List.getD_cons_succ,this]
  congr 3; omega
def Ten (ns:List Int):Prop:=ns.length≤1000
def Rt (ns:List Int):Prop:=∀ r∈ns,0≤r∧r≤10000
def th:LSp:=fun e H Q=>∃(ns:List Int) (t:Tail) (p:Int),Ten ns∧P41 p∧Rt ns∧ah (List.map e [0,1,5,11,12,13]) [.list (en1 .i64 ns) t,.I p,.arr 0 0 ns.length ns.length,.list (en1 .i64 ns) t,.I ns.length,.I 0]∧ax H [.cells ((List.replicate ns.length (0:Int)).map (PV.int .i64))]∧
 Q (.exit 0) (an [0,1,5,11,12,13] [.list (en1 .i64 ns) t,.I p,.arr 0 0 ns.length ns.length,.list (en1 .i64 ns) t,.I ns.length,.I ns.length]) [.cells ((shd ns p).map (PV.int .i64))]
theorem uV (ns xs:List Int) (t:Tail) (p:Int) (i:Nat):(by refine(?_:_→_→_→_→_→_→Prop) (List.map (PV.int .i64) xs) (List.getD (en1 .i64 ns) (Int.toNat (i:Int)) []) (PV.list (en1 .i64 ns) t) (0+Int.toNat (i:Int)*1) (PV.arr 0 0 ns.length ns.length) (PV.I ns.length); exact fun c d f g h j=>by refine(?_:_→_→Prop) [PV.I (within (wI (cI d 0+shr p (↑(List.length (en1 .i64 ns)):Int) (i:Int))))] [PV.list (en1 .i64 ns) t,.I p,h,f,j,.I i]; exact fun a b=>∀(R:Ex→List PV→ae→Prop),(br (decide ((i:Int)<(ns.length:Int))) (InL (en1 .i64 ns) 1 (i:Int)∧br (true && aE [.int .i64] 0 d) (P41 p∧(0≤(i:Int)∧(i:Int)<(ns.length:Int))∧br (1 == 1 && List.all a PV.one && decide (0+Int.toNat (i:Int)*1+1≤List.length c) && cJ 0 0 g 1) (R .normal [f,.I p,h,f,j,.I (wI ((i:Int)+1))] [.cells (over c g a)]) False) False) (R (.exit 0) b [.cells c]))→Holds (wpK T5 [] (fun _=>0) (aj [1,1,0,1,0] (ag Tryz.f77)) [] (an [0,1,5,11,12,13] b) [.cells (xs.map (PV.int .i64))] (fun ex e H=>R ex (List.map e [0,1,5,11,12,13]) H)):Prop):=fun R h=>hoE h
theorem Rt.get {ns:List Int} (h:Rt ns) (i:Nat):0≤ns.getD i 0∧ns.getD i 0≤10000:=by
 rw[List.getD_eq_getElem?_getD]
 cases hq:ns[i]? with
 | none=>simp
 | some r=>exact h r (List.mem_iff_getElem?.2 ⟨i,hq⟩)
theorem Ff {ns:List Int} {p:Int} {i:Nat} (h:i<ns.length):(shd ns p).getD i 0=within (ns.getD i 0+shr p ns.length i):=by
 unfold shd; rw[sZ _ _ _ _ _ h]; congr 3; omega
theorem gI (ns:List Int) (p:Int):(shd ns p).length=ns.length:=mG _ _ _ _
theorem take_set {xs T:List Int} {i:Nat} {v:Int} (hx:i<xs.length) (hT:i<T.length) (h:xs.take i=T.take i) (hv:T.getD i 0=v):(xs.set i v).take (i+1)=T.take (i+1):=by
 rw[List.take_succ_eq_append_getElem (by simpa using hx),List.take_succ_eq_append_getElem hT,List.take_set_of_le (Nat.le_refl _),h]
 congr 1
 rw[List.getElem_set_self]
 rw[List.getD_eq_getElem?_getD,List.getElem?_eq_getElem hT] at hv
 simp only[Option.getD_some] at hv
 rw[hv]
theorem sF:∀ e H Q,th e H Q→AwK Tryz.f77.ntmps (.loop (aj [1,1,0,1,0] (ag Tryz.f77))) Q e H:=by
 rintro e H Q ⟨ns,t,p,hl,hp,hr,he,hH,hQ⟩
 have hten:ns.length≤1000:=hl
 refine aB (hn:=fun _=>0) ai DQ (.nil _ _ _ _ _) (σ:=Nat×List Int) [0,1,5,11,12,13] (fun s=>s.1≤ns.length∧s.2.length=ns.length∧s.2.take s.1=(shd ns p).take s.1)
  (fun s=>[.list (en1 .i64 ns) t,.I p,.arr 0 0 ns.length ns.length,.list (en1 .i64 ns) t,.I ns.length,.I s.1])
  (fun s=>[.cells (s.2.map (PV.int .i64))]) (fun s=>ns.length-s.1) (0,List.replicate ns.length 0) ⟨Nat.zero_le _,by simp,by simp⟩ he hH ?_
 rintro⟨i,xs⟩ ⟨h1,h2,h3⟩
 simp only at h1 h2 h3
 refine uV ns xs t p i _ ?_
 have hsr:=ze (p:=p) (m:=ns.length) (k:=i) hp
 have hg:=hr.get i
 have hs0:ns.getD i 0+shr p ns.length i≤9223372036854775807:=by omega
 simp only[ar,decide_eq_true_eq,bl,toNat_cast,j7,Nat.mul_one,Nat.zero_add,Dd]
 by_cases c:i<ns.length
 ·rw[if_pos (by omega),fP _ _ _ c,aD (n:=ns.getD i 0+shr p ns.length i) (by omega) (by omega)]
  refine⟨fj _ _ _ (by omega) (by omega),?_⟩
  rw[if_pos (by rfl:(true && true)=true)]
  refine⟨hp,⟨by omega,by omega⟩,?_⟩
  rw[if_pos (by simp[PV.one,cJ,Nat.blt]; omega),yd _ _ _ _ (by omega)]
  refine⟨(i+1,xs.set i (within (ns.getD i 0+shr p ns.length i))),(by simp only; omega),⟨by simp only; omega,by simpa using h2,?_⟩,?_,[],rfl,Nat.le_refl _,.inl rfl⟩
  ·exact take_set (by omega) (by rw[gI]; omega) h3 (Ff c)
  ·rw[au c (by omega)]
 ·rw[if_neg (by omega)]
  have e:i=ns.length:=by omega
  subst e
  rw[← h2,List.take_length,h2,← gI ns p,List.take_length] at h3
  subst h3
  exact hQ
theorem yR (ns:List Int) (t:Tail) (p:Int):(by refine(?_:_→_→Prop) (↑(List.length (en1 .i64 ns)):Int) (PV.list (en1 .i64 ns) t); exact fun a b=>∀(K:PV→ae→Prop),(0≤a∧a≤a∧a≤140737488355328∧a*8≤140737488355328∧∃(ns_1:List Int) (t_1:Tail) (p_1:Int),Ten ns_1∧P41 p_1∧Rt ns_1∧ah [b,.I p,.arr 0 0 (Int.toNat a) (Int.toNat a),b,.I a,.I 0] [.list (en1 .i64 ns_1) t_1,.I p_1,.arr 0 0 ns_1.length ns_1.length,.list (en1 .i64 ns_1) t_1,.I ns_1.length,.I 0]∧ax [.cells (List.flatten (List.replicate (Int.toNat a) [.I 0]))] [.cells (List.map (PV.int .i64) (List.replicate ns_1.length 0))]∧K (.arr 0 0 ns_1.length ns_1.length) [.cells (List.map (PV.int .i64) (shd ns_1 p_1))])→AcK 77 [b,.I p] [] K:Prop):=fun K h=>acW (T:=T5) (L:=[([1,1,0,1,0],th)]) (fun _=>0) Tryz.func77 (DQ) (.cons suE sF (.nil _ _ _ _ _)) h
def pu (args:List PV) (K:PV→Prop):Prop:=match args with
 | [.list es t,.int .i64 p]=>∃ ns,es=en1 .i64 ns∧Ten ns∧P41 p∧Rt ns∧NT t∧K (.list (en1 .i64 (shd ns p)) .no)
 | _=>False
theorem zk:SpK 77 (.pure pu):=by
 intro args K h
 unfold pu at h
 split at h
 ·rename_i es t p
  obtain⟨ns,rfl,hl,hp,hr,ht,h⟩:=h
  have hten:ns.length≤1000:=hl
  refine b9 ai (by simp[bY ht,cr]) (bY NT.no) (pJ (K:=fun x=>x = .list (en1 .i64 (shd ns p)) .no) (yR ns t p _ ?_)) h
  simp only[bl]
  refine⟨by omega,by omega,by omega,by omega,ns,t,p,hl,hp,hr,rfl,?_,?_⟩
  ·show _=_
   rw[toNat_cast,Df]
  ·exact⟨0,ns.length,ns.length,1,_,[],en1 .i64 (shd ns p),rfl,rfl,wC _ _,by rw[bl,gI],Nat.le_refl _,by rw[sv,List.append_nil],rfl⟩
 ·exact h.elim
def T6:Tab:=(77,.pure pu)::T5
theorem Lt:TbK T6:= .cons zk DQ
def upd (a b:List Int) (r:Int):List Int×List Int×Int:=
 if a.length<1∨b.length<1∨a.length>4∨b.length>4 then([],[],21)
 else if eR a=false∨eR b=false∨r<0∨r>2 then([],[],2)
 else(shd a (stk (fZ a) (fZ b) (mnI a.length b.length) r),shd b (-(stk (fZ a) (fZ b) (mnI a.length b.length) r)),0)
def o4 (a b:List Int) (r:Int):PV:= .tup [.list (en1 .i64 (upd a b r).1) .no,.list (en1 .i64 (upd a b r).2.1) .no,.I (upd a b r).2.2]
def IA (args:List PV) (K:PV→Prop):Prop:=match args with
 | [.list es t,.list fs u,.int .i64 r]=>∃ a b,es=en1 .i64 a∧fs=en1 .i64 b∧ek a∧ek b∧NT t∧NT u∧K (o4 a b r)
 | _=>False
theorem oe:∀ {ns:List Int},eR ns=true→Rt ns
 | [],_=>fun r h=>by simp at h
 | r::l,h=>by
  simp only[eR,Bool.and_eq_true,beq_iff_eq] at h
  intro q hq
  rcases List.mem_cons.1 hq with rfl|hq
  ·have:=cj q; omega
  ·exact oe h.2 q hq
theorem yq (a b:List Int) (t u:Tail) (r:Int):(by refine(?_:_→_→Prop) (↑(List.length (en1 .i64 a)):Int) (↑(List.length (en1 .i64 b)):Int); exact fun g h=>∀(K:PV→Prop),by refine(?_:_→_→Prop) (K (.tup [.E,.E,.I 2])) (K (.tup [.E,.E,.I 21])); exact fun e f=>(br (decide (mnI g h<1) == false) (br (decide (mxI g h>4)) f (∃(ns:List Int),en1 .i64 a=en1 .i64 ns∧ek ns∧NT t∧br ((wrong ns != 0) == false) (∃(ns:List Int),en1 .i64 b=en1 .i64 ns∧ek ns∧NT u∧br ((wrong ns != 0) == false) (br (decide (r<0) == false) (br (decide (r>2)) e (∃(ns:List Int),en1 .i64 a=en1 .i64 ns∧ek ns∧NT t∧∃(ns_1:List Int),by refine(?_:_→_→Prop) (wI (0-stk (fZ ns) (fZ ns_1) (mnI g h) r)) (stk (fZ ns) (fZ ns_1) (mnI g h) r); exact fun c d=>en1 .i64 b=en1 .i64 ns_1∧ek ns_1∧NT u∧∃(ns_2:List Int),en1 .i64 a=en1 .i64 ns_2∧Ten ns_2∧P41 d∧Rt ns_2∧NT t∧∃(ns_3:List Int),en1 .i64 b=en1 .i64 ns_3∧Ten ns_3∧P41 c∧Rt ns_3∧NT u∧K (.tup [.list (en1 .i64 (shd ns_2 d)) .no,.list (en1 .i64 (shd ns_3 c)) .no,.I 0]))) e) e) e)) f)→AcK 45 [.list (en1 .i64 a) t,.list (en1 .i64 b) u,.I r] [] (fun x _=>K x):Prop):=fun K h=>acW (T:=T6) (L:=[]) (fun _=>0) Tryz.func45 (Lt) (LOk.nil _ _ _ _ _) h
theorem zu:SpK 45 (.pure IA):=by
 intro args K h
 unfold IA at h
 split at h
 ·rename_i es t fs u r
  obtain⟨a,b,rfl,rfl,ha,hb,ht,hu,h⟩:=h
  have hlow:Low 0 (o4 a b r):= .tup _ (by simp[cr,bY NT.no])
  refine b9 ai (by simp[bY ht,bY hu,cr]) hlow (bh (K:=fun x _=>x=o4 a b r) (yq a b t u r (fun x=>∃ x',Wk x x'∧x'=o4 a b r) ?_)) h
  have nilw:∀ e:Int,Wk (.tup [.E,.E,.I e]) (.tup [.list (en1 .i64 []) .no,.list (en1 .i64 []) .no,.I e]):=fun e=>
   .tup (.cons (.list _ _) (.cons (.list _ _) (.cons (.refl _) .nil)))
  have bad:∀ e:Int,upd a b r=([],[],e)→∃ x',Wk (.tup [.E,.E,.I e]) x'∧x'=o4 a b r:=fun e he=>⟨_,nilw e,by unfold o4; rw[he]⟩
  simp only[ar,bl]
  by_cases c1:mnI (a.length:Int) b.length<1
  ·rw[if_neg (by simp[c1])]
   exact bad 21 (by unfold upd; rw[if_pos (by unfold mnI at c1; split at c1<;>omega)])
  ·rw[if_pos (by simp; omega)]
   by_cases c2:mxI (a.length:Int) b.length>4
   ·rw[if_pos (by simpa using c2)]
    exact bad 21 (by unfold upd; rw[if_pos (by unfold mxI at c2; split at c2<;>omega)])
   ·rw[if_neg (by simpa using c2)]
    have hlens:¬ (a.length<1∨b.length<1∨a.length>4∨b.length>4):=by
     unfold mnI at c1; unfold mxI at c2
     split at c1<;>split at c2<;>omega
    have b2:(eR a=false∨eR b=false∨r<0∨r>2)→upd a b r=([],[],2):=fun hc=>by unfold upd; rw[if_neg hlens,if_pos hc]
    refine⟨a,rfl,ha,ht,?_⟩
    by_cases w1:eR a=true
    ·rw[if_pos (by simp[wrong,w1])]
     refine⟨b,rfl,hb,hu,?_⟩
     by_cases w2:eR b=true
     ·rw[if_pos (by simp[wrong,w2])]
      by_cases r1:r<0
      ·rw[if_neg (by simp[r1])]; exact bad 2 (b2 (.inr (.inr (.inl r1))))
      ·rw[if_pos (by simp; omega)]
       by_cases r2:r>2
       ·rw[if_pos (by simpa using r2)]; exact bad 2 (b2 (.inr (.inr (.inr r2))))
       ·rw[if_neg (by simpa using r2)]
        have hr:=y9 (fZ a) (fZ b) (mnI a.length b.length) r
        have e0:wI (0-stk (fZ a) (fZ b) (mnI a.length b.length) r) = -(stk (fZ a) (fZ b) (mnI a.length b.length) r):=by rw[aD (by omega) (by omega)]; omega
        have e1:upd a b r=(shd a (stk (fZ a) (fZ b) (mnI a.length b.length) r),shd b (-(stk (fZ a) (fZ b) (mnI a.length b.length) r)),0):=by
         unfold upd; rw[if_neg hlens,if_neg (by simp[w1,w2]; omega)]
        refine⟨a,rfl,ha,ht,b,rfl,hb,hu,a,rfl,(by unfold Ten; omega),⟨by omega,by omega⟩,oe w1,ht,b,rfl,(by unfold Ten; omega),?_,oe w2,hu,_,.refl _,?_⟩
        ·rw[e0]; exact⟨by omega,by omega⟩
        ·rw[e0]; unfold o4; rw[e1]
     ·rw[if_neg (by simp[wrong,w2])]
      exact bad 2 (b2 (.inr (.inl (by simpa using w2))))
    ·rw[if_neg (by simp[wrong,w1])]
     exact bad 2 (b2 (.inl (by simpa using w1)))
 ·exact h.elim
end Elo
abbrev RwI:=Rw Int
def csI (r:RwI):List PV:=[.U r.id,.I r.v]
theorem eJ (r:RwI):(csI r).length=2:=rfl
theorem lj {n:Nat} (r:RwI):∀ y∈csI r,Low n y:=by
 intro y hy
 simp only[csI,List.mem_cons,List.not_mem_nil,or_false] at hy
 rcases hy with rfl|rfl<;>first|exact .int _ _|exact .str _
theorem HK (v:Int):Low 0 (.I v):=by first|exact .int _ _|exact .str _|(refine .agg _ ?_; intro y hy; simp only[List.mem_cons,List.not_mem_nil,or_false] at hy; rcases hy with rfl<;>first|exact .int _ _|exact .str _)
theorem yC (v:Int) (b:Bool):Low 0 (.tup [.I v,.bool b]):= .tup _ (by intro y hy; simp only[List.mem_cons,List.not_mem_nil,or_false] at hy; rcases hy with rfl|rfl; exact HK v; exact .bool _)
theorem Gq (r:RwI):∀ y∈csI r,y.one=true:=by
 intro y hy
 simp only[csI,List.mem_cons,List.not_mem_nil,or_false] at hy
 rcases hy with rfl|rfl<;>rfl
abbrev flI (l:List RwI):List PV:=(l.map csI).flatten
theorem kA (l:List RwI):(flI l).length=l.length*2:=bp eJ l
theorem pb {l:List RwI} {k:Nat} (J:List PV) (h:k<l.length):List.drop (k*2) (flI l++J)=csI (l.getD k default)++(flI (l.drop (k+1))++J):=ko eJ J default h
theorem xF {n:Nat} (l:List RwI) {J:List PV} (h:∀ y∈J,Low n y):∀ y∈flI l++J,Low n y:=fi (fun a _=>lj a) h
theorem wK (l:List RwI) {J:List PV} (h:∀ y∈J,y.one=true):∀ y∈flI l++J,y.one=true:=by
 intro y hy
 rcases List.mem_append.1 hy with h1|h1
 ·obtain⟨c,h2,h3⟩:=List.mem_flatten.1 h1
  obtain⟨a,_,rfl⟩:=List.mem_map.1 h2
  exact Gq a y h3
 ·exact h y h1
def gq (l:List RwI) (J:List PV) (cap:Nat) (most:Int):ae:=[.cells [.arr 1 0 l.length cap,.I most],.cells (flI l++J)]
def pL (most:Int):ae:=[.cells [.E,.I most]]
def EXI (l:List RwI) (most:Int) (H:ae):Prop:=
 (∃(J:List PV) (cap:Nat),H=gq l J cap most∧l.length≤cap∧aH J ((cap-l.length)*2))∨(l=[]∧H=pL most)
theorem Gm (r:RwI) (t:Int)  (K:PV→Prop) (h:K (.I (fE (Rw.id r) t))):AcK 83 [.agg (csI r),.U t] [] (fun x _=>K x):=
 acW (T:=TK) (L:=[]) (fun _=>0) Tryz.func83 (vU) (LOk.nil _ _ _ _ _) h
def Dr (args:List PV) (K:PV→Prop):Prop:=∃(r:RwI) (t:Int),ah args [.agg (csI r),.U t]∧K (.I (fE r.id t))
theorem GY:SpK 83 (.pure Dr):=by
 rintro args K ⟨r,t,he,hk⟩
 have he:args=_:=he
 subst he
 exact b9 ai (by intro y hy; simp only[List.mem_cons,List.not_mem_nil,or_false] at hy; rcases hy with rfl|rfl; exact .agg _ (lj r); exact .int _ _) (.int _ _) (Gm r t (fun y=>y = .I (fE r.id t)) rfl) hk
def TCI:Tab:=(83,.pure Dr)::TK
theorem ox:TbK TCI:= .cons GY vU
theorem Ft (l:List RwI) (J:List PV) (cap:Nat) (most:Int) (t:Int) (i j:Nat):(by refine(?_:_→_→_→Prop) (Int.fdiv (IntKind.wrap .u64 (wI ((i:Int)+(j:Int)))) 2) (PV.arr 1 0 l.length cap) (PV.I l.length); exact fun a f g=>by refine(?_:_→_→_→Prop) [Ob.cells [f,.I most],.cells (flI l++J)] (List.drop (0+Int.toNat (wI a)*2) (flI l++J)) [PV.arr 1 0 l.length cap,.U t,.fn 83 [],g,.I i,.I j]; exact fun b c d=>∀(R:Ex→List PV→ae→Prop),(br (decide ((i:Int)<(j:Int))) ((0≤wI a∧wI a<(l.length:Int))∧br (true && aE [.int .u32,.int .i64] 0 c) (∃(r:RwI) (t_1:Int),ah [.agg [.U (cI c 0),.I (cI c 1)],.U t] [.agg [.U r.id,.I r.v],.U t_1]∧br (decide (fE r.id t_1<0)) (R .normal [f,.U t,.fn 83 [],g,.I (wI (wI a+1)),.I j] b) (R .normal [f,.U t,.fn 83 [],g,.I i,.I (wI a)] b)) False) (R (.exit 0) d b))→Holds (wpK TCI [] (fun _=>0) (aj [1,1,1,0,0] (ag Tryz.f82)) [] (an [0,1,2,8,9,10] d) b (fun ex e H=>R ex (List.map e [0,1,2,8,9,10]) H)):Prop):=fun R h=>hoE h
theorem F6 (most t:Int):(by refine(?_:_→_→Prop) [PV.E,.U t,.fn 83 [],.I 0,.I 0,.I 0] [Ob.cells [.E,.I most]]; exact fun a b=>∀(R:Ex→List PV→ae→Prop),(R (.exit 0) a b)→Holds (wpK TCI [] (fun _=>0) (aj [1,1,1,0,0] (ag Tryz.f82)) [] (an [0,1,2,8,9,10] a) b (fun ex e H=>R ex (List.map e [0,1,2,8,9,10]) H)):Prop):=fun R h=>hoE h
def HW:LSp:=fun e H Q=>∃(l:List RwI) (J:List PV) (cap:Nat) (most t:Int) (p:Nat),Lb l t p∧l.length≤1000000∧ah (List.map e [0,1,2,8,9,10]) [.arr 1 0 l.length cap,.U t,.fn 83 [],.I l.length,.I 0,.I l.length]∧ax H (gq l J cap most)∧
 Q (.exit 0) (an [0,1,2,8,9,10] [.arr 1 0 l.length cap,.U t,.fn 83 [],.I l.length,.I p,.I p]) (gq l J cap most)
theorem Er:∀ e H Q,HW e H Q→AwK Tryz.f82.ntmps (.loop (aj [1,1,1,0,0] (ag Tryz.f82))) Q e H:=by
 rintro e H Q ⟨l,J,cap,most,t,p,hp,hl,he,hH,hQ⟩
 refine aB (hn:=fun _=>0) ai ox (.nil _ _ _ _ _) (σ:=Nat×Nat) [0,1,2,8,9,10] (fun s=>s.1≤p∧p≤s.2∧s.2≤l.length)
  (fun s=>[.arr 1 0 l.length cap,.U t,.fn 83 [],.I l.length,.I s.1,.I s.2]) (fun _=>gq l J cap most) (fun s=>s.2-s.1) (0,l.length) ⟨Nat.zero_le _,hp.le,Nat.le_refl _⟩ he hH ?_
 rintro⟨i,j⟩ ⟨h1,h2,h3⟩
 simp only at h1 h2 h3
 refine Ft l J cap most t i j _ ?_
 simp only[ar,dt]
 by_cases h:i<j
 ·rw[if_pos (by omega)]
  obtain⟨k,hk⟩:∃ k,k=(i+j) / 2:=⟨_,rfl⟩
  have e1:wI (Int.fdiv (IntKind.wrap .u64 (wI ((i:Int)+j))) 2)=(k:Int):=by
   rw[aD (n:=(i:Int)+j) (by omega) (by omega),wrap_u64 (by omega) (by omega),Int.fdiv_eq_ediv_of_nonneg _ (by decide),aD (by omega) (by omega)]
   omega
  simp only[e1,ak,Nat.zero_add]
  have hkl:k<l.length:=by omega
  rw[pb J hkl]
  refine⟨⟨by omega,by omega⟩,?_⟩
  rw[if_pos (by rfl)]
  refine⟨l.getD k default,t,rfl,?_⟩
  by_cases c:fE (l.getD k default).id t<0
  ·rw[if_pos c]
   have hc:(l.getD k default).id<t:=by unfold fE at c; split at c; assumption; split at c<;>omega
   have hkp:k<p:=by
    rcases Nat.lt_or_ge k p with q|q
    ·exact q
    ·have:=hp.hi k q hkl; omega
   exact⟨(k+1,j),(show j-(k+1)<j-i by omega),⟨hkp,h2,h3⟩,by rw[au hkl (by omega)],[],rfl,Nat.le_refl _,.inl rfl⟩
  ·rw[if_neg c]
   have hc:t≤(l.getD k default).id:=by unfold fE at c; split at c<;>omega
   have hkp:p≤k:=by
    rcases Nat.lt_or_ge k p with q|q
    ·have:=hp.lo k q; omega
    ·exact q
   exact⟨(i,k),(show k-i<j-i by omega),⟨h1,hkp,by omega⟩,rfl,[],rfl,Nat.le_refl _,.inl rfl⟩
 ·rw[if_neg (by omega)]
  have e1:i=p:=by omega
  have e2:j=p:=by omega
  subst e1
  subst e2
  exact hQ
def HJ:LSp:=fun e H Q=>∃(most t:Int),ah (List.map e [0,1,2,8,9,10]) [.E,.U t,.fn 83 [],.I 0,.I 0,.I 0]∧ax H (pL most)∧
 Q (.exit 0) (an [0,1,2,8,9,10] [.E,.U t,.fn 83 [],.I 0,.I 0,.I 0]) (pL most)
theorem Dk:∀ e H Q,HJ e H Q→AwK Tryz.f82.ntmps (.loop (aj [1,1,1,0,0] (ag Tryz.f82))) Q e H:=by
 rintro e H Q ⟨most,t,he,hH,hQ⟩
 refine aB (hn:=fun _=>0) ai ox (.nil _ _ _ _ _) (σ:=Unit) [0,1,2,8,9,10] (fun _=>True)
  (fun _=>[.E,.U t,.fn 83 [],.I 0,.I 0,.I 0]) (fun _=>pL most) (fun _=>0) () trivial he hH ?_
 intro _ _
 exact F6 most t _ hQ
theorem G4 (l:List RwI) (J:List PV) (cap:Nat) (most:Int) (t:Int):(by refine(?_:_→_→Prop) (PV.arr 1 0 l.length cap) (PV.I l.length); exact fun g h=>by refine(?_:_→Prop) [Ob.cells [g,.I most],.cells (flI l++J)]; exact fun f=>∀(K:PV→ae→Prop),(∃(l_1:List RwI) (J_1:List PV) (cap_1:Nat) (most_1:Int) (t_1:Int) (p:Nat),by refine(?_:_→_→_→_→Prop) (List.drop (0+Int.toNat (p:Int)*2) (flI l_1++J_1)) (PV.arr 1 0 l_1.length cap_1) (PV.I l_1.length) (l_1.length:Int); exact fun b c d e=>by refine(?_:_→Prop) [Ob.cells [c,.I most_1],.cells (flI l_1++J_1)]; exact fun a=>Lb l_1 t_1 p∧l_1.length≤1000000∧ah [g,.U t,.fn 83 [],h,.I 0,h] [c,.U t_1,.fn 83 [],d,.I 0,d]∧ax f a∧br (decide ((p:Int)<e) == true) ((0≤(p:Int)∧(p:Int)<e)∧br (true && aE [.int .u32,.int .i64] 0 b) (∃(r:RwI) (t:Int),ah [.agg [.U (cI b 0),.I (cI b 1)],.U t_1] [.agg [.U r.id,.I r.v],.U t]∧K (.tup [.I p,.bool (fE r.id t == 0)]) a) False) (K (.tup [.I p,.bool false]) a))→AcK 82 [g,.U t,.fn 83 []] f K:Prop):=fun K h=>acW (T:=TCI) (L:=[([1,1,1,0,0],HW)]) (fun _=>0) Tryz.func82 (ox) (.cons suE Er (.nil _ _ _ _ _)) h
theorem F9 (most t:Int)  (K:PV→ae→Prop) (h:∃(most_1:Int) (t_1:Int),ah [.E,.U t,.fn 83 [],.I 0,.I 0,.I 0] [.E,.U t_1,.fn 83 [],.I 0,.I 0,.I 0]∧ax [.cells [.E,.I most]] [.cells [.E,.I most_1]]∧K (.tup [.I 0,.bool false]) [.cells [.E,.I most_1]]):AcK 82 [.E,.U t,.fn 83 []] [.cells [.E,.I most]] K:=
 acW (T:=TCI) (L:=[([1,1,1,0,0],HJ)]) (fun _=>0) Tryz.func82 (ox) (.cons suE Dk (.nil _ _ _ _ _)) h
def HU (args:List PV) (H:ae) (K:PV→Prop):Prop:=
 (∃(l:List RwI) (J:List PV) (cap:Nat) (most t:Int),ah args [.arr 1 0 l.length cap,.U t,.fn 83 []]∧ax H (gq l J cap most)∧Ok l most∧K (.tup [.I (lbp l t),.bool (has l t)]))∨
 (∃(most t:Int),ah args [.E,.U t,.fn 83 []]∧ax H (pL most)∧K (.tup [.I 0,.bool false]))
theorem JA:SpK 82 (.read HU):=by
 rintro args H K (⟨l,J,cap,most,t,he,hH,ok,hk⟩|⟨most,t,he,hH,hk⟩)
 ·have he:args=_:=he
  have hH:H=_:=hH
  subst he
  subst hH
  obtain⟨p,hpe⟩:∃ p,p=lbp l t:=⟨_,rfl⟩
  have hp:Lb l t p:=hpe▸ok.lb t
  unfold has at hk
  rw[← hpe] at hk
  refine⟨_,G4 l J cap most t _ ⟨l,J,cap,most,t,p,hp,ok.len,rfl,rfl,?_⟩,hk⟩
  simp only[ar,bt,dt]
  by_cases c:p<l.length
  ·rw[if_pos (by omega)]
   simp only[ak,Nat.zero_add]
   rw[pb J c]
   refine⟨⟨by omega,by omega⟩,?_⟩
   rw[if_pos (by rfl)]
   refine⟨l.getD p default,t,rfl,?_,rfl⟩
   unfold ue
   have e:((fE (l.getD p default).id t) == 0)=decide (p<l.length∧(l.getD p default).id=t):=by
    rw[Bool.eq_iff_iff,beq_iff_eq,decide_eq_true_eq]
    unfold fE
    constructor
    ·intro h; refine⟨c,?_⟩; split at h; omega; split at h<;>omega
    ·rintro⟨_,h⟩; rw[if_neg (by omega),if_neg (by omega)]
   rw[e]
  ·rw[if_neg (by omega)]
   unfold ue
   rw[decide_eq_false (fun h=>c h.1)]
   exact⟨rfl,rfl⟩
 ·have he:args=_:=he
  have hH:H=_:=hH
  subst he
  subst hH
  exact⟨_,F9 most t _ ⟨most,t,rfl,rfl,rfl,rfl⟩,hk⟩
def TBI:Tab:=(82,.read HU)::TCI
theorem tX:TbK TBI:= .cons JA ox
theorem Hz (l:List RwI) (J:List PV) (cap:Nat) (most:Int) (t:Int):(by refine(?_:_→_→Prop) [Ob.cells [.arr 1 0 l.length cap,.I most],.cells (flI l++J)] [PV.arr 1 0 l.length cap,.U t,.fn 83 []]; exact fun a b=>∀(K:PV→ae→Prop),((∃(l_1:List RwI) (J_1:List PV) (cap_1:Nat) (most_1:Int) (t_1:Int),ah b [.arr 1 0 l_1.length cap_1,.U t_1,.fn 83 []]∧ax a [.cells [.arr 1 0 l_1.length cap_1,.I most_1],.cells (flI l_1++J_1)]∧Ok l_1 most_1∧K (.tup [.I (↑(lbp l_1 t_1):Int),.bool (has l_1 t_1)]) a)∨∃(most_1:Int) (t_1:Int),ah b [.E,.U t_1,.fn 83 []]∧ax a [.cells [.E,.I most_1]]∧K (.tup [.I 0,.bool false]) a)→AcK 51 [.ptr 0 0,.U t] a K:Prop):=fun K h=>acW (T:=TBI) (L:=[]) (fun o=>match o.op with| .load t _=>(match t with|116=>1|_=>0)|_=>0) Tryz.func51 (tX) (LOk.nil _ _ _ _ _) h
theorem Hh (most t:Int):(by refine(?_:_→_→Prop) [Ob.cells [.E,.I most]] [PV.E,.U t,.fn 83 []]; exact fun a b=>∀(K:PV→ae→Prop),((∃(l:List RwI) (J:List PV) (cap:Nat) (most_1:Int) (t_1:Int),ah b [.arr 1 0 l.length cap,.U t_1,.fn 83 []]∧ax a [.cells [.arr 1 0 l.length cap,.I most_1],.cells (flI l++J)]∧Ok l most_1∧K (.tup [.I (↑(lbp l t_1):Int),.bool (has l t_1)]) a)∨∃(most_1:Int) (t_1:Int),ah b [.E,.U t_1,.fn 83 []]∧ax a [.cells [.E,.I most_1]]∧K (.tup [.I 0,.bool false]) a)→AcK 51 [.ptr 0 0,.U t] a K:Prop):=fun K h=>acW (T:=TBI) (L:=[]) (fun o=>match o.op with| .load t _=>(match t with|116=>1|_=>0)|_=>0) Tryz.func51 (tX) (LOk.nil _ _ _ _ _) h
def Ix (args:List PV) (H:ae) (K:PV→Prop):Prop:=
 ∃(l:List RwI) (most t:Int),ah args [.ptr 0 0,.U t]∧EXI l most H∧Ok l most∧K (.tup [.I (lbp l t),.bool (has l t)])
theorem JG:SpK 51 (.read Ix):=by
 rintro args H K ⟨l,most,t,he,hH,ok,hk⟩
 have he:args=_:=he
 subst he
 rcases hH with⟨J,cap,rfl,_,_⟩|⟨rfl,rfl⟩
 ·exact⟨_,Hz l J cap most t _ (.inl ⟨l,J,cap,most,t,rfl,rfl,ok,rfl,rfl⟩),hk⟩
 ·exact⟨_,Hh most t _ (.inr ⟨most,t,rfl,rfl,rfl,rfl⟩),hk⟩
def TAI:Tab:=(51,.read Ix)::TBI
theorem uk:TbK TAI:= .cons JG tX
theorem xd {l:List RwI} {J:List PV} {cap:Nat} {most:Int} (h:l.length≤cap) (hJ:aH J ((cap-l.length)*2)):EXI l most [.cells [.arr 1 0 l.length cap,.I most],.cells (flI l++J)]:= .inl ⟨J,cap,rfl,h,hJ⟩
theorem ID {most:Int}:EXI [] most [.cells [.E,.I most]]:= .inr ⟨rfl,rfl⟩
theorem DP (l:List RwI) (J:List PV) (cap:Nat) (most:Int) (t:Int):(by refine(?_:_→_→Prop) [Ob.cells [.arr 1 0 l.length cap,.I most],.cells (flI l++J)] [PV.ptr 0 0,.U t]; exact fun d e=>∀(K:PV→ae→Prop),(∃(l_1:List RwI) (most_1:Int) (t_1:Int),by refine(?_:_→_→Prop) (↑(lbp l_1 t_1):Int) (PV.bool (has l_1 t_1)); exact fun b c=>by refine(?_:_→Prop) (List.drop (0+Int.toNat b*2+1) (flI l++J)); exact fun a=>ah e [.ptr 0 0,.U t_1]∧EXI l_1 most_1 d∧Ok l_1 most_1∧br (has l_1 t_1) ((0≤b∧b<(l.length:Int))∧br (true && aE [.int .i64] 0 a) (K (.tup [.I (cI a 0),c]) d) False) (K (.tup [.I 0,c]) d))→AcK 33 e d K:Prop):=fun K h=>acW (T:=TAI) (L:=[]) (fun o=>match o.op with| .load t _=>(match t with|116=>1|_=>0)|_=>0) Tryz.func33 (uk) (LOk.nil _ _ _ _ _) h
theorem D2 (most t:Int):(by refine(?_:_→_→Prop) [Ob.cells [.E,.I most]] [PV.ptr 0 0,.U t]; exact fun a b=>∀(K:PV→ae→Prop),(∃(l:List RwI) (most_1:Int) (t_1:Int),ah b [.ptr 0 0,.U t_1]∧EXI l most_1 a∧Ok l most_1∧br (has l t_1) (InL [] 2 (↑(lbp l t_1):Int)∧False) (K (.tup [.I 0,.bool (has l t_1)]) a))→AcK 33 b a K:Prop):=fun K h=>acW (T:=TAI) (L:=[]) (fun o=>match o.op with| .load t _=>(match t with|116=>1|_=>0)|_=>0) Tryz.func33 (uk) (LOk.nil _ _ _ _ _) h
def Cd (args:List PV) (H:ae) (K:PV→Prop):Prop:=
 ∃(l:List RwI) (most t:Int),ah args [.ptr 0 0,.U t]∧EXI l most H∧Ok l most∧K (.tup [(let v:=bC l t; .I v),.bool (has l t)])
theorem wQ:SpK 33 (.read Cd):=by
 rintro args H K ⟨l,most,t,he,hH,ok,hk⟩
 have he:args=_:=he
 subst he
 refine⟨_,?_,hk⟩
 rcases hH with⟨J,cap,rfl,hc,hJ⟩|⟨rfl,rfl⟩
 ·refine DP l J cap most t _ ⟨l,most,t,rfl,xd hc hJ,ok,?_⟩
  simp only[ar]
  unfold bC
  cases c:has l t with
  | true=>
   obtain⟨c1,c2⟩:=fA c
   rw[if_pos rfl,if_pos rfl]
   simp only[ak,Nat.zero_add]
   rw[← List.drop_drop,pb J c1]
   exact⟨⟨by omega,by omega⟩,by first|exact⟨rfl,rfl⟩|(rw[if_pos (by rfl)]; exact⟨rfl,rfl⟩)⟩
  | false=>rw[if_neg (by decide),if_neg (by decide)]; exact⟨rfl,rfl⟩
 ·refine D2 most t _ ⟨[],most,t,rfl,ID,ok,?_⟩
  exact⟨rfl,rfl⟩
def TGI:Tab:=(33,.read Cd)::TAI
theorem Ab:TbK TGI:= .cons wQ uk
theorem Fl:SpK 85 (.ext dl):=
 ik (t:=116) (e:=122) (b:=true) (sz:=2) Tryz.func85 (by kernel_rfl) (by kernel_rfl) (by kernel_rfl) (by kernel_rfl) (by kernel_rfl) (by kernel_rfl) (by kernel_rfl)
def TII:Tab:=(85,.ext dl)::TGI
theorem Em:TbK TII:= .cons Fl Ab
theorem zV (l:List RwI) (J:List PV) (cap:Nat) (most:Int) (r:RwI) (p:Nat):(by refine(?_:_→_→_→_→_→_→_→_→_→Prop) ((p:Int)+(1:Int)) ((l.length:Int)+(1:Int)) (Int.toNat (l.length:Int)-Int.toNat (p:Int)) (Int.toNat (cap:Int)-0) (Ob.cells (flI l++J)) [PV.U r.id,.I r.v] [PV.U 0,.I 0] (Int.toNat (p:Int)-0) (PV.arr 1 0 l.length cap); exact fun h k q s x y A B D=>by refine(?_:_→_→_→_→_→_→Prop) (↑s:Int) (List.take (q*2) (List.drop (if Int.toNat (cap:Int)=Int.toNat (p:Int) then 0 else 0+Int.toNat (p:Int)*2) (flI l++J))) y (Ob.cells [D,.I most]) (wI k-(p:Int)) (Int.toNat (wI k)-0); exact fun g i m n t C=>by refine(?_:_→_→Prop) (↑C:Int) (Int.toNat (p:Int)-0+Int.toNat (wI t)); exact fun d f=>by refine(?_:_→_→_→_→Prop) (Int.toNat d-Int.toNat (p:Int)) (Int.toNat (↑f:Int)-Int.toNat (p:Int)) (Int.toNat (↑f:Int)-Int.toNat (wI h)) (Int.toNat d-Int.toNat (wI h)); exact fun o u w z=>by refine(?_:_→Prop) (List.take (o*2) (List.drop (if Int.toNat g=Int.toNat (p:Int) then if Int.toNat (cap:Int)=0 then 0 else 0 else(if Int.toNat (cap:Int)=0 then 0 else 0)+Int.toNat (p:Int)*2) (flI l++J))); exact fun e=>by refine(?_:_→Prop) (over (flI l++J) (if Int.toNat g=Int.toNat (wI h) then if Int.toNat (cap:Int)=0 then 0 else 0 else(if Int.toNat (cap:Int)=0 then 0 else 0)+Int.toNat (wI h)*2) (List.take (min o z*2) e)); exact fun j=>∀(K:PV→ae→Prop),((0≤(p:Int)∧(p:Int)≤(l.length:Int)∧(l.length:Int)≤(cap:Int)∧(cap:Int)≤(cap:Int))∧br ((p:Int) == (l.length:Int)) ((l.length≤cap∧0+cap*2≤List.length (flI l++J)∧2=2∧List.all m PV.one=true∧(l.length+1)*16≤140737488355328)∧(l.length+1≤cap→K (.arr 1 0 (l.length+1) cap) [n,.cells (over (flI l++J) (0+l.length*2) m)])∧(cap<l.length+1→∀(c:Nat),l.length+1≤c→K (.arr 2 0 (l.length+1) c) [n,x,.cells (List.take (l.length*2) (List.drop 0 (flI l++J))++m++List.flatten (List.replicate (c-(l.length+1)) A))])) (br (decide (wI k>(cap:Int))) ((iI 0≤0∧0≤(p:Int)∧(p:Int)≤(cap:Int)∧(cap:Int)≤(cap:Int))∧(Int.toNat (p:Int)-0≤Int.toNat (cap:Int)-0∧(if Int.toNat (cap:Int)=0 then 0 else 0)+s*2≤List.length (flI l++J)∧0≤wI t∧Int.toNat (cap:Int)-0<Int.toNat (p:Int)-0+Int.toNat (wI t)∧f*16≤140737488355328)∧∀(c:Nat),by refine(?_:_→Prop) (List.take (B*2) (List.drop (if Int.toNat (cap:Int)=0 then 0 else 0) (flI l++J))++List.flatten (List.replicate (c-B) A)); exact fun b=>by refine(?_:_→Prop) (over b (if Int.toNat (c:Int)=Int.toNat (p:Int) then 0 else 0+Int.toNat (p:Int)*2) (List.take (min 1 u*2) m)); exact fun a=>Int.toNat (p:Int)-0+Int.toNat (wI t)≤c→(0≤(p:Int)∧(p:Int)≤(↑f:Int)∧(↑f:Int)≤(c:Int)∧(c:Int)≤(c:Int))∧((if Int.toNat (c:Int)=Int.toNat (p:Int) then 0 else 0+Int.toNat (p:Int)*2)+u*2≤List.length b∧2=2∧List.all m PV.one=true)∧(0≤wI h∧wI h≤(↑f:Int)∧(↑f:Int)≤(c:Int)∧(c:Int)≤(c:Int))∧(0≤(p:Int)∧(p:Int)≤(l.length:Int)∧(l.length:Int)≤(cap:Int)∧(cap:Int)≤(cap:Int))∧(if Int.toNat (cap:Int)=Int.toNat (p:Int) then 0 else 0+Int.toNat (p:Int)*2)+q*2≤List.length (flI l++J)∧((if Int.toNat (c:Int)=Int.toNat (wI h) then 0 else 0+Int.toNat (wI h)*2)+w*2≤List.length a∧List.length i=q*2∧List.all i PV.one=true)∧K (.arr 2 0 f c) [n,x,.cells (over a (if Int.toNat (c:Int)=Int.toNat (wI h) then 0 else 0+Int.toNat (wI h)*2) (List.take (min q w*2) i))]) ((iI 0≤0∧0≤wI k∧wI k≤(cap:Int)∧(cap:Int)≤(cap:Int))∧(0≤wI h∧wI h≤d∧d≤g∧g≤g)∧y≠[]∧(flI l++J=[]→False)∧(0≤wI h∧wI h≤d∧d≤g∧g≤g)∧(0≤(p:Int)∧(p:Int)≤d∧d≤g∧g≤g)∧(if Int.toNat g=Int.toNat (p:Int) then if Int.toNat (cap:Int)=0 then 0 else 0 else(if Int.toNat (cap:Int)=0 then 0 else 0)+Int.toNat (p:Int)*2)+o*2≤List.length (flI l++J)∧((if Int.toNat g=Int.toNat (wI h) then if Int.toNat (cap:Int)=0 then 0 else 0 else(if Int.toNat (cap:Int)=0 then 0 else 0)+Int.toNat (wI h)*2)+z*2≤List.length (flI l++J)∧List.length e=o*2∧List.all e PV.one=true)∧(0≤(p:Int)∧(p:Int)≤d∧d≤g∧g≤g)∧((if Int.toNat g=Int.toNat (p:Int) then if Int.toNat (cap:Int)=0 then 0 else 0 else(if Int.toNat (cap:Int)=0 then 0 else 0)+Int.toNat (p:Int)*2)+o*2≤List.length j∧2=2∧List.all m PV.one=true)∧K (.arr 1 (if Int.toNat (cap:Int)=0 then 0 else 0) C s) [n,.cells (over j (if Int.toNat g=Int.toNat (p:Int) then if Int.toNat (cap:Int)=0 then 0 else 0 else(if Int.toNat (cap:Int)=0 then 0 else 0)+Int.toNat (p:Int)*2) (List.take (min 1 o*2) m))])))→AcK 52 [D,.I p,.list [csI r] .exact] [n,x] K:Prop):=fun K h=>acW (T:=TII) (L:=[]) (fun o=>match o.op with| .load t _=>(match t with|116=>1|_=>0)|_=>match o.dst with|some 25=>2|_=>0) Tryz.func52 (Em) (LOk.nil _ _ _ _ _) h
theorem CP (most:Int) (r:RwI)  (K:PV→ae→Prop) (h:(iI 0≤0∧iI 0≤0∧iI 0≤0∧iI 0≤0∧uni 2 [])∧2=2∧16≤140737488355328∧0<1∧∀(c:Nat),1≤c→K (.arr 1 0 1 c) [.cells [.E,.I most],.cells ([.U (Rw.id r),.I (Rw.v r)]++List.flatten (List.replicate (c-1) [.U 0,.I 0]))]):AcK 52 [.E,.I 0,.list [csI r] .exact] [.cells [.E,.I most]] K:=
 acW (T:=TII) (L:=[]) (fun o=>match o.op with| .load t _=>(match t with|116=>1|_=>0)|_=>match o.dst with|some 25=>2|_=>0) Tryz.func52 (Em) (LOk.nil _ _ _ _ _) h
def zU (args:List PV) (H:ae) (K:PV→ae→Prop):Prop:=
 (∃(l:List RwI) (J:List PV) (cap:Nat) (most:Int) (r:RwI) (p:Nat),ah args [.arr 1 0 l.length cap,.I p,.list [csI r] .exact]∧ax H (gq l J cap most)∧p≤l.length∧l.length≤1000000∧l.length≤cap∧aH J ((cap-l.length)*2)∧
  (∀(J':List PV),l.length+1≤cap→aH J' ((cap-(l.length+1))*2)→K (.arr 1 0 (l.length+1) cap) [.cells [.arr 1 0 l.length cap,.I most],.cells (flI (bj l p r)++J')])∧
  (∀(c:Nat),l.length+1≤c→∀(J':List PV),aH J' ((c-(l.length+1))*2)→K (.arr 2 0 (l.length+1) c) [.cells [.arr 1 0 l.length cap,.I most],.cells (flI l++J),.cells (flI (bj l p r)++J')]))∨
 (∃(most:Int) (r:RwI),ah args [.E,.I 0,.list [csI r] .exact]∧ax H (pL most)∧
  ∀(c:Nat),1≤c→∀(J':List PV),aH J' ((c-1)*2)→K (.arr 1 0 1 c) [.cells [.E,.I most],.cells (csI r++J')])
def zrI:List PV:=[.U 0,.I 0]
theorem nT (n:Nat):aH (List.replicate n zrI).flatten (n*2):=
 aH.qm (z:=zrI) (by intro y hy; simp only[zrI,List.mem_cons,List.not_mem_nil,or_false] at hy; rcases hy with rfl|rfl<;>rfl) (by intro y hy; simp only[zrI,List.mem_cons,List.not_mem_nil,or_false] at hy; rcases hy with rfl|rfl<;>first|exact .int _ _|exact .str _) n
theorem Gz:SpK 52 (.heap zU):=by
 rintro args H K (⟨l,J,cap,most,r,p,he,hH,hp,hl,hc,hJ,hk1,hk2⟩|⟨most,r,he,hH,hk⟩)
 ·have he:args=_:=he
  have hH:H=_:=hH
  subst he
  subst hH
  have hlen:(flI l++J).length=cap*2:=by rw[List.length_append,kA,hJ.len,← Nat.add_mul]; congr 1; omega
  have hone:(flI l++J).all PV.one=true:=List.all_eq_true.2 (wK l hJ.one)
  refine zV l J cap most r p K ?_
  refine⟨⟨by omega,by omega,by omega,by omega⟩,?_⟩
  rw[ar]
  by_cases c1:p=l.length
  ·rw[if_pos (by simp[c1])]
   subst c1
   refine⟨⟨hc,by rw[hlen]; omega,rfl,rfl,by omega⟩,fun h=>?_,fun h c hcc=>?_⟩
   ·have:=hk1 (J.drop 2) h (hJ.drop.cast (by omega))
    rw[← nI eJ r (by rw[hJ.len]; omega)] at this
    rw[Nat.zero_add]
    exact this
   ·have:=hk2 c hcc _ (nT (c-(l.length+1)))
    rw[iX] at this
    rw[List.drop_zero,eU eJ J l l.length (Nat.le_refl _),List.take_length]
    simp only[flI,List.map_append,List.flatten_append,List.map_cons,List.map_nil,List.flatten_cons,List.flatten_nil,List.append_nil] at this
    exact this
  ·rw[if_neg (by simp; omega),ar]
   have e1:wI ((l.length:Int)+1)=((l.length+1:Nat):Int):=by rw[aD (by omega) (by omega)]; rfl
   have e2:wI (((l.length+1:Nat):Int)-(p:Int))=((l.length+1-p:Nat):Int):=by rw[aD (by omega) (by omega)]; omega
   have e3:wI ((p:Int)+1)=((p+1:Nat):Int):=by rw[aD (by omega) (by omega)]; rfl
   have e4:p+(l.length+1-p)=l.length+1:=by omega
   simp only[e1,e2,e3,e4,ak,Nat.sub_zero,Nat.zero_add,List.drop_zero,ite_self]
   have t1:List.take (p*2) (flI l++J)=flI (l.take p):=eU eJ J l p hp
   have t2:List.take ((l.length-p)*2) (List.drop (p*2) (flI l++J))=flI (l.drop p):=by
    rw[eW eJ J l p hp,List.take_left']
    rw[kA,List.length_drop]
   have t3:min 1 (l.length+1-p)=1:=by omega
   have t5:(flI (l.drop p)).length=(l.length-p)*2:=by rw[kA,List.length_drop]
   have t6:(flI (l.drop p)).all PV.one=true:=by
    have:=wK (l.drop p) (J:=[]) (fun _ h=>nomatch h)
    rw[List.append_nil] at this
    exact List.all_eq_true.2 this
   have t7:(flI (l.take p)).length=p*2:=by rw[kA,List.length_take,Nat.min_eq_left hp]
   by_cases c2:cap<l.length+1
   ·rw[if_pos (decide_eq_true (by omega))]
    have n3:¬ cap=p:=by omega
    refine⟨⟨by decide,by omega,by omega,by omega⟩,⟨by omega,by omega,by omega,by omega,by omega⟩,fun c hcc=>?_⟩
    have t4:min (l.length-p) (l.length+1-(p+1))=l.length-p:=by omega
    have n1:¬ c=p:=by omega
    have n2:¬ c=p+1:=by omega
    have hZ:=nT (c-p)
    have t9:(flI (l.take p)++(List.replicate (c-p) zrI).flatten).length=c*2:=by rw[List.length_append,t7,hZ.len,← Nat.add_mul]; congr 1; omega
    simp only[if_neg n1,if_neg n2,if_neg n3,t1,t2,t3,t4,t5,t6]
    refine⟨⟨by omega,by omega,by omega,by omega⟩,⟨Nat.le_trans (show _≤c*2 by omega) (Nat.le_of_eq t9.symm),trivial,rfl⟩,⟨by omega,by omega,by omega,by omega⟩,⟨by omega,by omega,by omega,by omega⟩,by omega,⟨?_,trivial,trivial⟩,?_⟩
    ·have t10:(over (flI (l.take p)++(List.replicate (c-p) zrI).flatten) (p*2) (csI r)).length=c*2:=by rw[bA (by rw[t9,eJ]; omega),t9]
     exact Nat.le_trans (show _≤c*2 by omega) (Nat.le_of_eq t10.symm)
    ·have:=hk2 c (by omega) _ ((hZ.drop (k:=(l.length+1-p)*2)).cast (by omega))
     rw[← pq eJ r hp (by rw[hZ.len]; omega)] at this
     rw[List.take_of_length_le (Nat.le_of_eq t5)]
     exact this
   ·rw[if_neg (by simp; omega)]
    have n3:¬ cap=p:=by omega
    have n4:¬ cap=p+1:=by omega
    have t9:min (l.length+1-p) (l.length+1-(p+1))=l.length-p:=by omega
    have t10:List.take ((l.length-p)*2) (List.take ((l.length+1-p)*2) (List.drop (p*2) (flI l++J)))=List.take ((l.length-p)*2) (List.drop (p*2) (flI l++J)):=by rw[List.take_take,Nat.min_eq_left (by omega)]
    simp only[if_neg n3,if_neg n4,t3,t9,t10]
    have t11:(List.take ((l.length+1-p)*2) (List.drop (p*2) (flI l++J))).length=(l.length+1-p)*2:=by rw[List.length_take,List.length_drop,hlen]; omega
    have t12:(List.take ((l.length+1-p)*2) (List.drop (p*2) (flI l++J))).all PV.one=true:=List.all_eq_true.2 fun y hy=>List.all_eq_true.1 hone y (List.mem_of_mem_drop (List.mem_of_mem_take hy))
    have t13:(over (flI l++J) ((p+1)*2) (List.take ((l.length-p)*2) (List.drop (p*2) (flI l++J)))).length=cap*2:=by rw[bA (by rw[t2,t5,hlen]; omega),hlen]
    refine⟨⟨by decide,by omega,by omega,by omega⟩,⟨by omega,by omega,by omega,by omega⟩,List.cons_ne_nil _ _,fun h=>?_,⟨by omega,by omega,by omega,by omega⟩,⟨by omega,by omega,by omega,by omega⟩,by omega,⟨by omega,t11,t12⟩,⟨by omega,by omega,by omega,by omega⟩,⟨by omega,trivial,rfl⟩,?_⟩
    ·rw[h] at hlen; simp only[List.length_nil] at hlen; omega
    ·have:=hk1 (J.drop 2) (by omega) (hJ.drop.cast (by omega))
     rw[← q7 eJ r (by omega) (by rw[hJ.len]; omega)] at this
     exact this
 ·have he:args=_:=he
  have hH:H=_:=hH
  subst he
  subst hH
  exact CP most r K ⟨⟨by decide,by decide,by decide,by decide,fun _ h=>nomatch h⟩,rfl,by decide,by decide,fun c hc=>hk c hc _ (nT (c-1))⟩
def TPI:Tab:=(52,.heap zU)::TGI
theorem EB:TbK TPI:= .cons Gz Ab
theorem D9 (l:List RwI) (J:List PV) (cap:Nat) (most:Int) (t:Int) (v:Int):(by refine(?_:_→Prop) (PV.arr 1 0 l.length cap); exact fun g=>by refine(?_:_→Prop) [g,.I most]; exact fun f=>by refine(?_:_→Prop) [Ob.cells f,.cells (flI l++J)]; exact fun e=>∀(K:PV→ae→Prop),(br (!aC t) (K (.I 14) e) (∃(l_1:List RwI) (most_1:Int) (t_1:Int),by refine(?_:_→Prop) (↑(lbp l_1 t_1):Int); exact fun a=>by refine(?_:_→_→Prop) [g,.I a,.list [[PV.U t,.I v]] .exact] (0+Int.toNat a*2+1); exact fun b d=>ah [.ptr 0 0,.U t] [.ptr 0 0,.U t_1]∧EXI l_1 most_1 e∧Ok l_1 most_1∧br (has l_1 t_1) ((0≤a∧a<(l.length:Int))∧br (1 == 1 && List.all [.I v] PV.one && decide (0+Int.toNat a*2+1+1≤List.length (flI l++J)) && cJ 0 1 d 1) (K (.I 0) [.cells f,.cells (over (flI l++J) d [.I v])]) False) (br (decide ((l.length:Int)≥most)) (K (.I 10) e) ((∃(l_2:List RwI) (J_1:List PV) (cap_1:Nat) (most_2:Int) (r:RwI) (p:Nat),ah b [.arr 1 0 l_2.length cap_1,.I p,.list [[PV.U r.id,.I r.v]] .exact]∧ax e [.cells [.arr 1 0 l_2.length cap_1,.I most_2],.cells (flI l_2++J_1)]∧p≤l_2.length∧l_2.length≤1000000∧l_2.length≤cap_1∧aH J_1 ((cap_1-l_2.length)*2)∧(∀(J':List PV),l_2.length+1≤cap_1→aH J' ((cap_1-(l_2.length+1))*2)→K (.I 0) [.cells [.arr 1 0 (l_2.length+1) cap_1,.I most_2],.cells (flI (bj l_2 p r)++J')])∧∀(c:Nat),l_2.length+1≤c→∀(J':List PV),aH J' ((c-(l_2.length+1))*2)→K (.I 0) [.cells [.arr 2 0 (l_2.length+1) c,.I most_2],.cells (flI l_2++J_1),.cells (flI (bj l_2 p r)++J')])∨∃(most_2:Int) (r:RwI),ah b [.E,.I 0,.list [[PV.U r.id,.I r.v]] .exact]∧ax e [.cells [.E,.I most_2]]∧∀(c:Nat),1≤c→∀(J':List PV),aH J' ((c-1)*2)→K (.I 0) [.cells [.arr 1 0 1 c,.I most_2],.cells ([.U r.id,.I r.v]++J')]))))→AcK 22 [.ptr 0 0,.U t,.I v] e K:Prop):=fun K h=>acW (T:=TPI) (L:=[]) (fun o=>match o.op with| .load t _=>(match t with|116=>1|_=>0)|_=>0) Tryz.func22 (EB) (LOk.nil _ _ _ _ _) h
theorem Dl (most t:Int) (v:Int):(by refine(?_:_→Prop) [Ob.cells [.E,.I most]]; exact fun d=>∀(K:PV→ae→Prop),(br (!aC t) (K (.I 14) d) (∃(l:List RwI) (most_1:Int) (t_1:Int),by refine(?_:_→Prop) (↑(lbp l t_1):Int); exact fun b=>by refine(?_:_→Prop) [PV.E,.I b,.list [[PV.U t,.I v]] .exact]; exact fun a=>ah [.ptr 0 0,.U t] [.ptr 0 0,.U t_1]∧EXI l most_1 d∧Ok l most_1∧br (has l t_1) (InL [] 2 b∧False) (br (decide (0≥most)) (K (.I 10) d) ((∃(l_1:List RwI) (J:List PV) (cap:Nat) (most_2:Int) (r:RwI) (p:Nat),ah a [.arr 1 0 l_1.length cap,.I p,.list [[PV.U r.id,.I r.v]] .exact]∧ax d [.cells [.arr 1 0 l_1.length cap,.I most_2],.cells (flI l_1++J)]∧p≤l_1.length∧l_1.length≤1000000∧l_1.length≤cap∧aH J ((cap-l_1.length)*2)∧(∀(J':List PV),l_1.length+1≤cap→aH J' ((cap-(l_1.length+1))*2)→K (.I 0) [.cells [.arr 1 0 (l_1.length+1) cap,.I most_2],.cells (flI (bj l_1 p r)++J')])∧∀(c:Nat),l_1.length+1≤c→∀(J':List PV),aH J' ((c-(l_1.length+1))*2)→K (.I 0) [.cells [.arr 2 0 (l_1.length+1) c,.I most_2],.cells (flI l_1++J),.cells (flI (bj l_1 p r)++J')])∨∃(most_2:Int) (r:RwI),ah a [.E,.I 0,.list [[PV.U r.id,.I r.v]] .exact]∧ax d [.cells [.E,.I most_2]]∧∀(c:Nat),1≤c→∀(J':List PV),aH J' ((c-1)*2)→K (.I 0) [.cells [.arr 1 0 1 c,.I most_2],.cells ([.U r.id,.I r.v]++J')]))))→AcK 22 [.ptr 0 0,.U t,.I v] d K:Prop):=fun K h=>acW (T:=TPI) (L:=[]) (fun o=>match o.op with| .load t _=>(match t with|116=>1|_=>0)|_=>0) Tryz.func22 (EB) (LOk.nil _ _ _ _ _) h
theorem Bn {l:List RwI} {J:List PV} {cap:Nat} {most:Int} (h:∀ y∈J,Low 2 y):∀(o:Nat) cs,(gq l J cap most)[o]?=some (.cells cs)→∀ x∈cs,Low (gq l J cap most).length x:=by
 intro o cs ho x hx
 have e1:=(List.getElem?_eq_some_iff.1 ho).1
 simp[gq] at e1
 rcases Nat.eq_zero_or_pos o with rfl|h0
 ·cases ho
  simp only[List.mem_cons,List.not_mem_nil,or_false] at hx
  rcases hx with rfl|rfl
  ·exact .arr _ _ _ _ (by simp[gq])
  ·exact .int _ _
 ·have:o=1:=by omega
  subst this
  cases ho
  exact xF l h x hx
def rkI (l:List RwI) (most:Int):Rep:=whole (EXI l most)
theorem jc {l:List RwI} {J:List PV} {cap:Nat} {most:Int} {T:ae} {k:Nat} (hk:T[k]?=some (.cells (flI l++J))) (h:l.length≤cap) (hJ:aH J ((cap-l.length)*2)):dN (EXI l most) (.cells [.arr (k+1) 0 l.length cap,.I most]::T):=
 ⟨gq l J cap most,_,xE hk (fun y hy=>by rcases List.mem_singleton.1 hy with rfl; exact .int _ _) (xF l hJ.low),rfl,.inl ⟨J,cap,rfl,h,hJ⟩,nL⟩
theorem kO {most:Int} {T:ae}:dN (EXI [] most) (.cells [.E,.I most]::T):=
 ⟨pL most,_,sub_one T (fun y hy=>by simp only[List.mem_cons,List.not_mem_nil,or_false] at hy; rcases hy with rfl|rfl; exact aF NT.exact (fun _ h=>nomatch h); exact .int _ _),rfl,.inr ⟨rfl,rfl⟩,nL⟩
theorem oz {l:List RwI} {most:Int} {H:ae} (h:EXI l most H):dN (EXI l most) H:=by
 rcases h with⟨J,cap,rfl,hc,hJ⟩|⟨rfl,rfl⟩
 ·exact jc (k:=0) rfl hc hJ
 ·exact kO
theorem LZ {l:List RwI} {J:List PV} {p:Nat} {t:Int} {v:Int} (hp:p<l.length) (ht:(l.getD p default).id=t):over (flI l++J) (p*2+1) (let r:RwI:=⟨t,v⟩; [.I r.v])=flI (l.set p ⟨t,v⟩)++J:=by
 have e1:flI l++J=(flI (l.take p)++[.U t])++(let r:RwI:=l.getD p default; [.I r.v])++(flI (l.drop (p+1))++J):=by
  unfold flI
  rw[fC l p,List.drop_eq_getElem_cons hp,List.map_cons,List.flatten_cons,← ht,a9 hp]
  simp[csI]
 rw[cm e1 (by rw[List.length_append,bp eJ,List.length_take,Nat.min_eq_left (by omega)]; rfl) (by rfl),List.set_eq_take_append_cons_drop,if_pos hp]
 simp[flI,csI]
def IV (args:List PV) (H:ae) (K:PV→ae→Prop):Prop:=
 ∃(l:List RwI) (most t:Int) (v:Int),ah args [.ptr 0 0,.U t,.I v]∧EXI l most H∧Ok l most∧∀(H':ae),dN (EXI (cF l most t v).1 most) H'→K (.I (cF l most t v).2) H'
theorem ER:SpK 22 (.heap IV):=by
 rintro args H K ⟨l,most,t,v,he,hH,ok,hk⟩
 have he:args=_:=he
 subst he
 unfold cF at hk
 rcases hH with⟨J,cap,rfl,hc,hJ⟩|⟨rfl,rfl⟩
 ·have hlen:(flI l++J).length=cap*2:=by rw[List.length_append,kA,hJ.len,← Nat.add_mul]; congr 1; omega
  refine D9 l J cap most t v K ?_
  rw[ar]
  by_cases c:aC t=true
  ·rw[if_neg (by simp[c])]
   rw[if_pos c] at hk
   refine⟨l,most,t,rfl,xd hc hJ,ok,?_⟩
   simp only[ar]
   by_cases c2:has l t=true
   ·rw[if_pos c2]
    rw[if_pos c2] at hk
    obtain⟨h1,h2⟩:=fA c2
    refine⟨⟨by omega,by omega⟩,?_⟩
    simp only[ak,Nat.zero_add]
    rw[if_pos (by rw[decide_eq_true (by rw[hlen]; omega)]; rfl)]
    have h3:=jc (most:=most) (l:=l.set (lbp l t) ⟨t,v⟩) (J:=J) (cap:=cap) (k:=0) (T:=[.cells (flI (l.set (lbp l t) ⟨t,v⟩)++J)]) rfl (by simpa using hc) (by simpa using hJ)
    rw[List.length_set,← LZ h1 h2] at h3
    exact hk _ h3
   ·rw[if_neg c2]
    rw[if_neg c2] at hk
    by_cases c3:(l.length:Int)≥most
    ·rw[if_pos (decide_eq_true c3)]
     rw[if_pos c3] at hk
     exact hk _ (oz (xd hc hJ))
    ·rw[if_neg (by simpa using c3)]
     rw[if_neg c3] at hk
     have hi:(bj l (lbp l t) ⟨t,v⟩).length=l.length+1:=fm (qQ l t)
     refine .inl ⟨l,J,cap,most,⟨t,v⟩,lbp l t,rfl,rfl,qQ l t,ok.len,hc,hJ,fun J' h1 h2=>?_,fun c h1 J' h2=>?_⟩
     ·rw[← hi]
      exact hk _ (jc (k:=0) rfl (by rw[hi]; exact h1) (by rw[hi]; exact h2))
     ·have:=hk _ (jc (l:=bj l (lbp l t) ⟨t,v⟩) (J:=J') (cap:=c) (most:=most) (k:=1) (T:=[.cells (flI l++J),.cells (flI (bj l (lbp l t) ⟨t,v⟩)++J')]) rfl (by rw[hi]; exact h1) (by rw[hi]; exact h2))
      rw[hi] at this
      exact this
  ·rw[if_pos (by simpa using c)]
   rw[if_neg c] at hk
   exact hk _ (oz (xd hc hJ))
 ·refine Dl most t v K ?_
  rw[ar]
  by_cases c:aC t=true
  ·rw[if_neg (by simp[c])]
   rw[if_pos c,nt,if_neg (by decide)] at hk
   refine⟨[],most,t,rfl,ID,ok,?_⟩
   rw[nt]
   simp only[ar]
   rw[if_neg (by decide)]
   by_cases c3:0≥most
   ·rw[if_pos (decide_eq_true c3)]
    rw[if_pos (by simpa using c3)] at hk
    exact hk _ kO
   ·rw[if_neg (by simpa using c3)]
    rw[if_neg (by simpa using c3)] at hk
    refine .inr ⟨most,⟨t,v⟩,rfl,rfl,fun c hc J' hJ=>?_⟩
    exact hk _ (jc (l:=[⟨t,v⟩]) (k:=0) rfl hc hJ)
  ·rw[if_pos (by simpa using c)]
   rw[if_neg c] at hk
   exact hk _ kO
theorem EG (n:Int)  (K:PV→ae→Prop) (h:K (.ptr 0 0) [.cells [.E,.I (mxI 0 n)]]):AcK 20 [.I n] [] K:=
 acW (T:=[]) (L:=[]) (fun _=>0) Tryz.func20 (aV.nil _ _) (LOk.nil _ _ _ _ _) h
theorem AK (l:List RwI) (J:List PV) (cap:Nat) (most:Int):(by refine(?_:_→_→_→_→Prop) (List.drop 0 (flI l++J)) (PV.arr 1 0 l.length cap) (Ob.cells (flI l++J)) (PV.I l.length); exact fun a b g h=>by refine(?_:_→_→_→_→Prop) [PV.ptr 0 0,.E,b,h,.I 0] (Ob.cells [b,.I most]) [[PV.U (cI a 0)]] (PV.U (cI a 0)); exact fun c d f i=>∀(R:Ex→List PV→ae→Prop),(br (decide (0<(l.length:Int))) ((iI 0≤0∧0<(l.length:Int))∧br (true && aE [.int .u32,.int .i64] 0 a) (aS [] f 1 4∧(List.all [i] PV.one=true∧f≠[])∧R .normal [.ptr 0 0,.list f (.tok 3),b,h,.I 1] [d,g,.cells [i,.I (cI a 1)],.tok]) False) (R (.exit 0) c [d,g]))→Holds (wpK [] [] (fun o=>match o.op with| .load t _=>(match t with|116=>1|_=>0)|_=>match o.dst with|some 21=>1|_=>0) (aj [1,1,0,1,0,1,0] (ag Tryz.f30)) [] (an [0,3,11,12,13] c) [d,g] (fun ex e H=>R ex (List.map e [0,3,11,12,13]) H)):Prop):=fun R h=>hoE h
theorem z5 (l:List RwI) (J:List PV) (cap:Nat) (most:Int) (es:List (List PV)) (i:Nat):(by refine(?_:_→_→_→_→Prop) (List.drop (0+Int.toNat (i:Int)*2) (flI l++J)) (PV.arr 1 0 l.length cap) (Ob.cells (flI l++J)) (PV.I l.length); exact fun a b h j=>by refine(?_:_→_→_→_→Prop) [PV.ptr 0 0,.list es (.tok 2),b,j,.I i] [[PV.U (cI a 0)]] [b,.I most] (PV.U (cI a 0)); exact fun c f g k=>by refine(?_:_→Prop) [Ob.cells g,h,.tok]; exact fun d=>∀(R:Ex→List PV→ae→Prop),(br (decide ((i:Int)<(l.length:Int))) ((0≤(i:Int)∧(i:Int)<(l.length:Int))∧br (true && aE [.int .u32,.int .i64] 0 a) (aS es f 1 4∧(List.all [k] PV.one=true∧f≠[])∧R .normal [.ptr 0 0,.list (es++f) (.tok 4),b,j,.I (wI ((i:Int)+1))] [.cells g,h,.dead,.cells [k,.I (cI a 1)],.tok]) False) (R (.exit 0) c d))→Holds (wpK [] [] (fun o=>match o.op with| .load t _=>(match t with|116=>1|_=>0)|_=>match o.dst with|some 21=>1|_=>0) (aj [1,1,0,1,0,1,0] (ag Tryz.f30)) [] (an [0,3,11,12,13] c) d (fun ex e H=>R ex (List.map e [0,3,11,12,13]) H)):Prop):=fun R h=>hoE h
theorem Ch (most:Int):(by refine(?_:_→_→Prop) [PV.ptr 0 0,.E,.E,.I 0,.I 0] [Ob.cells [.E,.I most]]; exact fun a b=>∀(R:Ex→List PV→ae→Prop),(R (.exit 0) a b)→Holds (wpK [] [] (fun o=>match o.op with| .load t _=>(match t with|116=>1|_=>0)|_=>0) (aj [1,1,0,1,0,1,0] (ag Tryz.f30)) [] (an [0,3,11,12,13] a) b (fun ex e H=>R ex (List.map e [0,3,11,12,13]) H)):Prop):=fun R h=>hoE h
theorem LI (l:List RwI):uni 1 (bL l):=by
 intro e he
 obtain⟨a,_,rfl⟩:=List.mem_map.1 he
 rfl
theorem l7 {l:List RwI} {i:Nat} (h:i<l.length):bL (l.take (i+1))=bL (l.take i)++[[.U (l.getD i default).id]]:=by
 unfold bL
 rw[← List.take_append_getElem h,List.map_append,a9 h]; rfl
def Ci:LSp:=fun e H Q=>∃(l:List RwI) (J:List PV) (cap:Nat) (most:Int),l.length≤1000000∧(∀ y∈J,Low 2 y)∧ah (List.map e [0,3,11,12,13]) [.ptr 0 0,.E,.arr 1 0 l.length cap,.I l.length,.I 0]∧ax H (gq l J cap most)∧
 Q (.exit 0) (an [0,3,11,12,13] [.ptr 0 0,.list (bL l) .no,.arr 1 0 l.length cap,.I l.length,.I l.length]) (gq l J cap most++[.dead])
theorem x7:∀ e H Q,Ci e H Q→AwK Tryz.f30.ntmps (.loop (aj [1,1,0,1,0,1,0] (ag Tryz.f30))) Q e H:=by
 rintro e H Q ⟨l,J,cap,most,hl,hJ,he,hH,hQ⟩
 have hH2:H=gq l J cap most:=hH
 refine rA (f:=fun r:RwI=>[PV.U r.id]) (T:=l) (hn:=fun o=>match o.op with| .load t _=>(match t with|116=>1|_=>0)|_=>match o.dst with|some 21=>1|_=>0) ai (.nil _ _) (.nil _ _ _ _ _) [0,3,11,12,13] (fun r i=>[.ptr 0 0,r,.arr 1 0 l.length cap,.I l.length,.I i]) (gq l J cap most)
  (Bn hJ) (fun b _ x hx=>by rcases List.mem_singleton.1 hx with rfl; exact .int _ _)
  (fun es i k h=> .same (.ptr _ _ (by simp[gq])) (.row h (.same (.arr _ _ _ _ (by simp[gq])) (.same (.int _ _) (.same (.int _ _) .nil))))) he hH2 ?_ ?_
 ·refine AK l J cap most _ ?_
  simp only[ar,dt]
  by_cases h:0<l.length
  ·rw[if_pos (by omega)]
   refine⟨⟨by decide,by omega⟩,?_⟩
   have e0:=pb J h
   rw[Nat.zero_mul] at e0
   rw[e0,if_pos (by rfl)]
   refine⟨⟨(by intro e he; simp at he),(by intro e he; simp at he; subst he; rfl),by simp⟩,⟨by rfl,by simp⟩,h,_,3,rfl,rfl,by simp[gq],?_⟩
   have:=l7 h
   unfold bL at this
   rw[this]; rfl
  ·rw[if_neg (by omega)]
   have hm:l=[]:=List.eq_nil_of_length_eq_zero (by omega)
   subst hm
   exact⟨_,_,.cons (.refl _) (.cons (.list _ _) (.cons (.refl _) (.cons (.refl _) (.cons (.refl _) .nil)))),dS _,hQ⟩
 ·intro i h0 hi
  refine z5 l J cap most (bL (l.take i)) i _ ?_
  simp only[ar,dt,ak,Nat.zero_add]
  by_cases h:i<l.length
  ·rw[if_pos (by omega)]
   refine⟨⟨by omega,by omega⟩,?_⟩
   rw[pb J h,if_pos (by rfl)]
   refine⟨⟨LI _,(by intro e he; simp at he; subst he; rfl),by simp only[bL,List.length_map,List.length_take,List.length_cons,List.length_nil]; omega⟩,⟨by rfl,by simp⟩,h,_,4,rfl,rfl,by simp[gq],?_⟩
   have:=l7 h
   unfold bL at this
   rw[this,au h (by omega)]; rfl
  ·rw[if_neg (by omega)]
   have hm:i=l.length:=by omega
   subst hm
   rw[List.take_length]
   exact⟨_,_,.cons (.refl _) (.cons (.list _ _) (.cons (.refl _) (.cons (.refl _) (.cons (.refl _) .nil)))),eL (gq l J cap most) .tok,hQ⟩
def CQ:LSp:=fun e H Q=>∃(most:Int),ah (List.map e [0,3,11,12,13]) [.ptr 0 0,.E,.E,.I 0,.I 0]∧ax H (pL most)∧
 Q (.exit 0) (an [0,3,11,12,13] [.ptr 0 0,.E,.E,.I 0,.I 0]) (pL most)
theorem xQ:∀ e H Q,CQ e H Q→AwK Tryz.f30.ntmps (.loop (aj [1,1,0,1,0,1,0] (ag Tryz.f30))) Q e H:=by
 rintro e H Q ⟨most,he,hH,hQ⟩
 refine aB (hn:=fun o=>match o.op with| .load t _=>(match t with|116=>1|_=>0)|_=>0) ai (.nil _ _) (.nil _ _ _ _ _) (σ:=Unit) [0,3,11,12,13] (fun _=>True)
  (fun _=>[.ptr 0 0,.E,.E,.I 0,.I 0]) (fun _=>pL most) (fun _=>0) () trivial he hH ?_
 intro _ _
 exact Ch most _ hQ
theorem CO (l:List RwI) (J:List PV) (cap:Nat) (most:Int):(by refine(?_:_→Prop) (PV.arr 1 0 l.length cap); exact fun e=>by refine(?_:_→Prop) [Ob.cells [e,.I most],.cells (flI l++J)]; exact fun d=>∀(K:PV→ae→Prop),(∃(l_1:List RwI) (J_1:List PV) (cap_1:Nat) (most_1:Int),by refine(?_:_→_→Prop) (PV.arr 1 0 l_1.length cap_1) (Ob.cells (flI l_1++J_1)); exact fun b c=>by refine(?_:_→Prop) (Ob.cells [b,.I most_1]); exact fun a=>l_1.length≤1000000∧(∀(y:PV),y∈J_1→Low 2 y)∧ah [.ptr 0 0,.E,e,.I l.length,.I 0] [.ptr 0 0,.E,b,.I l_1.length,.I 0]∧ax d [a,c]∧K (.list (bL l_1) .no) [a,c,.dead])→AcK 30 [.ptr 0 0] d K:Prop):=fun K h=>acW (T:=[]) (L:=[([1,1,0,1,0,1,0],Ci)]) (fun o=>match o.op with| .load t _=>(match t with|116=>1|_=>0)|_=>0) Tryz.func30 (aV.nil _ _) (.cons suE x7 (.nil _ _ _ _ _)) h
theorem Dn (most:Int):(by refine(?_:_→_→Prop) [PV.ptr 0 0,.E,.E,.I 0,.I 0] [Ob.cells [.E,.I most]]; exact fun b c=>∀(K:PV→ae→Prop),(∃(most_1:Int),by refine(?_:_→Prop) [Ob.cells [.E,.I most_1]]; exact fun a=>ah b b∧ax c a∧K (.E) a)→AcK 30 [.ptr 0 0] c K:Prop):=fun K h=>acW (T:=[]) (L:=[([1,1,0,1,0,1,0],CQ)]) (fun o=>match o.op with| .load t _=>(match t with|116=>1|_=>0)|_=>0) Tryz.func30 (aV.nil _ _) (.cons suE xQ (.nil _ _ _ _ _)) h
theorem KV {l:List RwI} {most:Int} {hh:ae} (hH:EXI l most hh) (ok:Ok l most):AcK 30 [.ptr 0 0] hh (fun x H'=>x = .list (bL l) .no∧dN (EXI l most) H'):=by
 rcases hH with⟨J,cap,rfl,hc,hJ⟩|⟨rfl,rfl⟩
 ·exact CO l J cap most _ ⟨l,J,cap,most,ok.len,K1 hJ,rfl,rfl,rfl,jc (k:=0) rfl hc hJ⟩
 ·exact gS (Dn most _ ⟨most,rfl,rfl,_,_,.list _ _,.refl _,rfl,kO⟩)
def nX (args:List PV) (H:ae) (K:PV→Prop):Prop:=∃(q:Nat) (l:List RwI) (most t:Int),ah args [.ptr q 0,.U t]∧bP H q (rkI l most)∧Ok l most∧K (.tup [(let v:=bC l t; .I v),.bool (has l t)])
theorem nD:SpK 33 (.read nX):=by
 rintro args H K ⟨q,l,most,t,he,ha,ok,hk⟩
 have he:args=_:=he
 subst he
 refine⟨_,iS ai ha cK (yC _ _) (fun hh h=>?_),hk⟩
 obtain⟨r,h1,h2⟩:=wQ _ hh (fun x=>x = .tup [(let v:=bC l t; .I v),.bool (has l t)]) ⟨l,most,t,rfl,h,ok,rfl⟩
 exact aJ h1 fun x H' e=>⟨e.1.trans h2,e.2▸oz h⟩
def uE (args:List PV) (H:ae) (K:PV→ae→Prop):Prop:=match args with
 | .ptr q 0::rest=>∃(l:List RwI) (most t:Int) (v:Int),ah rest [.int .u32 t,.int .i64 v]∧bP H q (rkI l most)∧Ok l most∧K (.int .i64 (cF l most t v).2) (H.set q (.abs (rkI (cF l most t v).1 most)))
 | _=>False
theorem qE:SpK 22 (.heap uE):=by
 intro args H K h
 unfold uE at h
 split at h
 ·rename_i q rest
  obtain⟨l,most,t,v,he,ha,ok,hk⟩:=h
  have he:rest=_:=he
  subst he
  refine jq ai ha (by intro y hy; simp only[List.mem_cons,List.not_mem_nil,or_false] at hy; rcases hy with rfl|rfl; exact .int _ _; exact HK v) (.int _ _) (fun hh h=>?_) hk
  exact ER _ hh _ ⟨l,most,t,v,rfl,h,ok,fun H' h'=>⟨rfl,h'⟩⟩
 ·exact h.elim
def vu (args:List PV) (H:ae) (K:PV→ae→Prop):Prop:=∃ n:Int,ah args [.I n]∧K (.ptr H.length 0) (H++[.abs (rkI [] (mxI 0 n))])
theorem wL:SpK 20 (.heap vu):=by
 rintro args H K ⟨n,he,hk⟩
 have he:args=_:=he
 subst he
 exact aJ (qi ai cK (EG n _ ⟨rfl,kO⟩)) fun _ _ e=>e.1▸e.2▸hk
def Ds (args:List PV) (H:ae) (K:PV→Prop):Prop:=∃(q:Nat) (l:List RwI) (most:Int),ah args [.ptr q 0]∧bP H q (rkI l most)∧Ok l most∧K (.list (bL l) .no)
theorem tB (l:List RwI):Low 0 (.list (bL l) .no):=aF NT.no (by
 intro x hx
 obtain⟨c,h1,h2⟩:=List.mem_flatten.1 hx
 obtain⟨r,_,rfl⟩:=List.mem_map.1 h1
 rcases List.mem_singleton.1 h2 with rfl
 exact .int _ _)
theorem FN:SpK 30 (.read Ds):=by
 rintro args H K ⟨q,l,most,he,ha,ok,hk⟩
 have he:args=_:=he
 subst he
 exact⟨_,iS ai ha tR (tB l) (fun hh h=>KV h ok),hk⟩
def i1 (n:Int):List PV:=[.I n]
theorem px (n:Int):(i1 n).length=1:=rfl
theorem gO {k:Nat} (n:Int):∀ y∈i1 n,Low k y:=bu (.int _ _)
theorem ij (n:Int):∀ y∈i1 n,y.one=true:=by intro y hy; rcases List.mem_singleton.1 hy with rfl; rfl
theorem uW (l:List Int) (i:Nat):InL (l.map i1) 1 (i:Int)=(i<l.length):=dH px (by decide) l i
namespace CU
abbrev flR (l:List Int):List PV:=(l.map u1).flatten
theorem bI (l:List Int):(flR l).length=l.length*1:=bp dL l
theorem gN (c:Nat):aH (List.replicate c [PV.U 0]).flatten (c*1):=by
 refine⟨by simp,fun x hx=>?_,fun x hx=>?_⟩<;>simp at hx<;>rcases hx with⟨_,rfl⟩<;>first|rfl|exact .int _ _
theorem aM {n:Nat} (l:List Int):Low n (.list (l.map u1) .no):=bn bG l
theorem ki (H:ae) (n:Int)  (K:PV→ae→Prop) (h:br (decide (n<0)) False (br (decide (wI (n-0)>0)) ((iI 0≤0∧iI 0≤0∧iI 0≤0∧iI 0≤0∧uni 1 [])∧0<wI (n-0)∧Int.toNat (wI (n-0))*4≤140737488355328∧∀(c:Nat),Int.toNat (wI (n-0))≤c→(iI 0≤0∧iI 0≤0∧0≤(c:Int)∧(c:Int)≤(c:Int))∧K (.arr (List.length H) (if Int.toNat (c:Int)=0 then 0 else 0) 0 (Int.toNat (c:Int)-0)) (H++[.cells (List.flatten (List.replicate c [.U 0]))])) (K (.E) H))):AcK 72 [.E,.I n] H K:=
 acW (T:=[]) (L:=[]) (fun o=>match o.dst with|some 22=>8|_=>0) Tryz.func72 (aV.nil _ _) (LOk.nil _ _ _ _ _) h
def mR (args:List PV) (H:ae) (K:PV→ae→Prop):Prop:=∃ n:Nat,ah args [.E,.I n]∧n≤1000000∧(n=0→K (.E) H)∧(0<n→∀(c:Nat) (J:List PV),n≤c→aH J (c*1)→K (.arr H.length 0 0 c) (H++[.cells J]))
theorem oB:SpK 72 (.heap mR):=by
 rintro args H K ⟨n,he,hn,h0,h1⟩
 have he:args=_:=he
 subst he
 refine ki H n K ?_
 have e:wI ((n:Int)-0)=n:=by rw[aD (by omega) (by omega)]; omega
 simp only[ar,dt,e,ak]
 rw[if_neg (by omega)]
 by_cases c:n=0
 ·rw[if_neg (by omega)]; exact h0 c
 ·rw[if_pos (by omega)]
  refine⟨⟨by decide,by decide,by decide,by decide,fun _ h=>nomatch h⟩,by omega,by omega,fun k hk=>⟨⟨by decide,by decide,by omega,by omega⟩,?_⟩⟩
  rw[ite_self]
  exact h1 (by omega) k _ hk (gN k)
def lcs (l:List Int):List PV:=[.list (l.map u1) .no]
theorem lf (l:List Int):(lcs l).length=1:=rfl
theorem iP {n:Nat} (l:List Int):∀ y∈lcs l,Low n y:=bu (aM l)
theorem cP (l:List (List Int)) (i:Nat):InL (l.map lcs) 1 (i:Int)=(i<l.length):=dH lf (by decide) l i
def a8 (ls:List (List Int)):Nat:=ls.flatten.length
theorem cH {ls:List (List Int)} {k:Nat} (h:k<ls.length):a8 (ls.take (k+1))=a8 (ls.take k)+(ls.getD k []).length:=by
 unfold a8; rw[aK [] h,List.flatten_append]; simp
theorem ck (ls:List (List Int)) (k:Nat):a8 (ls.take k)≤a8 ls:=by
 unfold a8
 conv=>rhs; rw[← List.take_append_drop k ls,List.flatten_append]
 rw[List.length_append]; omega
def TCG:Tab:=[(72,.heap mR)]
theorem oO:TbK TCG:= .cons oB (.nil _ _)
theorem oD (ls:List (List Int)) (n i:Nat):(by refine(?_:_→_→_→Prop) (PV.list (ls.map lcs) .no) (List.getD (ls.map lcs) (Int.toNat (i:Int)) []) (PV.I ls.length); exact fun a b f=>by refine(?_:_→_→Prop) [a,.I n,a,f,.I i] ((n:Int)+(↑(List.length (cL b 0)):Int)); exact fun c d=>∀(R:Ex→List PV→ae→Prop),(br (decide ((i:Int)<(ls.length:Int))) (InL (ls.map lcs) 1 (i:Int)∧br (true && aE [.list] 0 b) (br (decide (wI d<0)) False (R .normal [a,.I (wI d),a,f,.I (wI ((i:Int)+1))] [])) False) (R (.exit 0) c []))→Holds (wpK [] [] (fun _=>0) (aj [1,1,0,1,0] (ag Tryz.f42)) [] (an [0,3,9,10,11] c) [] (fun ex e H=>R ex (List.map e [0,3,9,10,11]) H)):Prop):=fun R h=>hoE h
theorem kL (ls:List (List Int)) (i:Nat):(by refine(?_:_→_→_→_→Prop) (List.getD (ls.map lcs) (Int.toNat (i:Int)) []) (PV.list (ls.map lcs) .no) (PV.I ls.length) (PV.I (wI ((i:Int)+1))); exact fun a c d f=>by refine(?_:_→Prop) [PV.E,c,d,.I i]; exact fun b=>∀(R:Ex→List PV→ae→Prop),(br (decide ((i:Int)<(ls.length:Int))) (InL (ls.map lcs) 1 (i:Int)∧br (true && aE [.list] 0 a) (aS [] (cL a 0) 1 4∧List.all (List.flatten (cL a 0)) PV.one=true∧(cL a 0=[]→R .normal [.E,c,d,f] [])∧(cL a 0≠[]→R .normal [.list ([]++cL a 0) (.tok 0),c,d,f] [.tok])) False) (R (.exit 2) b []))→Holds (wpK [] [] (fun o=>match o.dst with|some 33=>4|_=>0) (aj [1,1,1,1,0,1,0] (ag Tryz.f42)) [] (an [6,25,26,27] b) [] (fun ex e H=>R ex (List.map e [6,25,26,27]) H)):Prop):=fun R h=>hoE h
theorem lA (ls:List (List Int)) (acc:List Int) (J:List PV) (cap i:Nat):(by refine(?_:_→_→_→_→Prop) (List.getD (ls.map lcs) (Int.toNat (i:Int)) []) [Ob.cells (flR acc++J)] (PV.list (ls.map lcs) .no) (PV.I ls.length); exact fun a f g h=>by refine(?_:_→_→_→Prop) [PV.arr 0 0 acc.length cap,g,h,.I i] (List.flatten (cL a 0)) (acc.length+List.length (cL a 0)); exact fun b c d=>∀(R:Ex→List PV→ae→Prop),(br (decide ((i:Int)<(ls.length:Int))) (InL (ls.map lcs) 1 (i:Int)∧br (true && aE [.list] 0 a) ((acc.length≤cap∧0+cap*1≤List.length (flR acc++J)∧List.length c=List.length (cL a 0)*1∧List.all c PV.one=true∧d*4≤140737488355328)∧acc.length+List.length (cL a 0)≤cap∧R .normal [.arr 0 0 d cap,g,h,.I (wI ((i:Int)+1))] [.cells (over (flR acc++J) (0+acc.length*1) c)]) False) (R (.exit 2) b f))→Holds (wpK [] [] (fun o=>match o.dst with|some 33=>3|_=>0) (aj [1,1,1,1,0,1,0] (ag Tryz.f42)) [] (an [6,25,26,27] b) f (fun ex e H=>R ex (List.map e [6,25,26,27]) H)):Prop):=fun R h=>hoE h
theorem lu (l k:List Int):flR (l++k)=flR l++flR k:=by unfold flR; rw[List.map_append,List.flatten_append]
theorem jh {l:List Int}:∀ y∈flR l,y.one=true:=by
 intro y hy
 obtain⟨c,h2,h3⟩:=List.mem_flatten.1 hy
 obtain⟨a,_,rfl⟩:=List.mem_map.1 h2
 exact eM a y h3
theorem gm {acc l:List Int} {J:List PV}:over (flR acc++J) (acc.length*1) (flR l)=flR (acc++l)++J.drop (l.length*1):=by
 unfold over
 rw[List.take_left' (bI acc),lu,List.append_assoc,List.append_assoc]
 congr 2
 rw[List.drop_append,bI,bI,List.drop_of_length_le (by rw[bI]; omega),List.nil_append,show acc.length*1+l.length*1-acc.length*1=l.length*1 by omega]
def mL:LSp:=fun e H Q=>∃(ls:List (List Int)),ls.length≤1000000∧a8 ls≤1000000∧ah (List.map e [0,3,9,10,11]) [.list (ls.map lcs) .no,.I 0,.list (ls.map lcs) .no,.I ls.length,.I 0]∧ax H []∧Q (.exit 0) (an [0,3,9,10,11] [.list (ls.map lcs) .no,.I (a8 ls),.list (ls.map lcs) .no,.I ls.length,.I ls.length]) []
theorem iA:∀ e H Q,mL e H Q→AwK Tryz.f42.ntmps (.loop (aj [1,1,0,1,0] (ag Tryz.f42))) Q e H:=by
 rintro e H Q ⟨ls,hl,hs,he,hH,hQ⟩
 refine aB (hn:=fun _=>0) ai (.nil _ _) (.nil _ _ _ _ _) (σ:=Nat) [0,3,9,10,11] (fun i=>i≤ls.length) (fun i=>[.list (ls.map lcs) .no,.I (a8 (ls.take i)),.list (ls.map lcs) .no,.I ls.length,.I i]) (fun _=>[]) (fun i=>ls.length-i) 0 (Nat.zero_le _) (by rw[he]; rfl) hH ?_
 intro i hi
 have hi:i≤ls.length:=hi
 refine oD ls (a8 (ls.take i)) i _ ?_
 have h3:=ck ls i
 simp only[ar,dt,ak,cP]
 by_cases h:i<ls.length
 ·rw[if_pos (by omega)]
  have h4:=ck ls (i+1)
  have e1:=cH h
  simp only[getD_map [] h]
  refine⟨h,?_⟩
  rw[if_pos (by rfl)]
  have c0:cL (lcs (ls.getD i [])) 0=(ls.getD i []).map u1:=rfl
  have e2:wI ((a8 (ls.take i):Int)+(((ls.getD i []).map u1).length:Int))=(a8 (ls.take (i+1)):Int):=by rw[List.length_map,aD (by omega) (by omega)]; omega
  rw[c0,e2,if_neg (by omega)]
  exact⟨i+1,(show ls.length-(i+1)<ls.length-i by omega),h,by rw[au h (by omega)],[],rfl,Nat.le_refl _,.inl rfl⟩
 ·rw[if_neg (by omega)]
  have:i=ls.length:=by omega
  subst this
  rw[List.take_length]
  exact hQ
def mV:LSp:=fun e H Q=>∃(ls:List (List Int)),ls.length≤1000000∧a8 ls≤1000000∧
 ((a8 ls=0∧ah (List.map e [6,25,26,27]) [.E,.list (ls.map lcs) .no,.I ls.length,.I 0]∧ax H []∧Q (.exit 2) (an [6,25,26,27] [.E,.list (ls.map lcs) .no,.I ls.length,.I ls.length]) [])∨
  (∃(cap:Nat) (J:List PV),a8 ls≤cap∧aH J (cap*1)∧ah (List.map e [6,25,26,27]) [.arr 0 0 0 cap,.list (ls.map lcs) .no,.I ls.length,.I 0]∧ax H [.cells J]∧∀ J',aH J' ((cap-ls.flatten.length)*1)→Q (.exit 2) (an [6,25,26,27] [.arr 0 0 ls.flatten.length cap,.list (ls.map lcs) .no,.I ls.length,.I ls.length]) [.cells (flR ls.flatten++J')]))
theorem iJ:∀ e H Q,mV e H Q→AwK Tryz.f42.ntmps (.loop (aj [1,1,1,1,0,1,0] (ag Tryz.f42))) Q e H:=by
 rintro e H Q ⟨ls,hl,hs,(⟨h0,he,hH,hQ⟩|⟨cap,J,hc,hJ,he,hH,hQ⟩)⟩
 ·refine aB (hn:=fun o=>match o.dst with|some 33=>4|_=>0) ai (.nil _ _) (.nil _ _ _ _ _) (σ:=Nat) [6,25,26,27] (fun i=>i≤ls.length) (fun i=>[.E,.list (ls.map lcs) .no,.I ls.length,.I i]) (fun _=>[]) (fun i=>ls.length-i) 0 (Nat.zero_le _) (by rw[he]; rfl) hH ?_
  intro i hi
  have hi:i≤ls.length:=hi
  refine kL ls i _ ?_
  simp only[ar,dt,ak,cP]
  by_cases h:i<ls.length
  ·rw[if_pos (by omega)]
   have h4:=ck ls (i+1)
   have e1:=cH h
   simp only[getD_map [] h]
   refine⟨h,?_⟩
   rw[if_pos (by rfl)]
   have c0:cL (lcs (ls.getD i [])) 0=(ls.getD i []).map u1:=rfl
   have c1:ls.getD i []=[]:=List.length_eq_zero_iff.1 (by omega)
   rw[c0,c1]
   exact⟨⟨(fun _ h=>nomatch h),(fun _ h=>nomatch h),by decide⟩,rfl,fun _=>⟨i+1,(show ls.length-(i+1)<ls.length-i by omega),h,by rw[au h (by omega)],[],rfl,Nat.le_refl _,.inl rfl⟩,fun h=>absurd rfl h⟩
  ·rw[if_neg (by omega)]
   have:i=ls.length:=by omega
   subst this
   exact hQ
 ·refine aB (hn:=fun o=>match o.dst with|some 33=>3|_=>0) ai (.nil _ _) (.nil _ _ _ _ _) (σ:=Nat) [6,25,26,27] (fun i=>i≤ls.length) (fun i=>[.arr 0 0 (ls.take i).flatten.length cap,.list (ls.map lcs) .no,.I ls.length,.I i]) (fun i=>[.cells (flR (ls.take i).flatten++J.drop ((ls.take i).flatten.length*1))]) (fun i=>ls.length-i) 0 (Nat.zero_le _) (by rw[he]; rfl) (by rw[show H=_ from hH]; simp[flR]) ?_
  intro i hi
  have hi:i≤ls.length:=hi
  refine lA ls (ls.take i).flatten (J.drop ((ls.take i).flatten.length*1)) cap i _ ?_
  simp only[ar,dt,ak,cP]
  have h3:=ck ls i
  have hJl:=hJ.len
  have h5:(ls.take i).flatten.length≤cap:=Nat.le_trans h3 hc
  by_cases h:i<ls.length
  ·rw[if_pos (by omega)]
   have h4:=ck ls (i+1)
   have e1:=cH h
   simp only[getD_map [] h]
   refine⟨h,?_⟩
   rw[if_pos (by rfl)]
   have c0:cL (lcs (ls.getD i [])) 0=(ls.getD i []).map u1:=rfl
   obtain⟨l,hld⟩:∃ l,l=ls.getD i []:=⟨_,rfl⟩
   have e4:(ls.take (i+1)).flatten=(ls.take i).flatten++l:=by rw[aK [] h,List.flatten_append,hld]; simp
   have e5:(ls.take (i+1)).flatten.length=(ls.take i).flatten.length+l.length:=by rw[e4,List.length_append]
   have e6:(ls.take (i+1)).flatten.length≤cap:=Nat.le_trans h4 hc
   have e7:a8 (ls.take (i+1))=(ls.take (i+1)).flatten.length:=rfl
   have e8:(J.drop ((ls.take i).flatten.length*1)).length=(cap-(ls.take i).flatten.length)*1:=by rw[List.length_drop,hJl]; omega
   have e9:(List.map u1 l).flatten.length=l.length*1:=bI l
   rw[c0,← hld]
   simp only[List.length_map,e9]
   refine⟨⟨h5,?_,trivial,List.all_eq_true.2 jh,by omega⟩,by omega,i+1,(show ls.length-(i+1)<ls.length-i by omega),h,by(try dsimp only); rw[au h (by omega),e5],[],?_,Nat.le_refl _,.inl rfl⟩
   ·rw[List.length_append,bI,e8]; omega
   ·(try dsimp only)
    rw[Nat.zero_add,gm,e4,List.drop_drop,List.append_nil,List.length_append,Nat.add_mul]
  ·rw[if_neg (by omega)]
   have:i=ls.length:=by omega
   subst this
   rw[List.take_length]
   exact hQ _ (hJ.drop.cast (by omega))
theorem fO (ls:List (List Int)):∀(K:PV→ae→Prop),(∃(ls_1:List (List Int)),by refine(?_:_→_→Prop) (PV.list (ls_1.map lcs) .no) (PV.I (↑(List.length (ls_1.map lcs)):Int)); exact fun d e=>by refine(?_:_→Prop) [PV.E,d,e,.I 0]; exact fun b=>ls_1.length≤1000000∧a8 ls_1≤1000000∧ah [.list (ls.map lcs) .no,.I 0,.list (ls.map lcs) .no,.I (↑(List.length (ls.map lcs)):Int),.I 0] [d,.I 0,d,.I ls_1.length,.I 0]∧ax [] []∧∃(n:Nat),ah [.E,.I (↑(a8 ls_1):Int)] [.E,.I n]∧n≤1000000∧(n=0→∃(ls:List (List Int)),ls.length≤1000000∧a8 ls≤1000000∧(a8 ls=0∧ah b [.E,.list (ls.map lcs) .no,.I ls.length,.I 0]∧ax [] []∧K (.E) []∨∃(cap:Nat) (J:List PV),a8 ls≤cap∧aH J (cap*1)∧ah b [.arr 0 0 0 cap,.list (ls.map lcs) .no,.I ls.length,.I 0]∧ax [] [.cells J]∧∀(J':List PV),aH J' ((cap-ls.flatten.length)*1)→K (.arr 0 0 ls.flatten.length cap) [.cells (flR ls.flatten++J')]))∧(0<n→∀(c:Nat),by refine(?_:_→Prop) [PV.arr 0 0 0 c,d,e,.I 0]; exact fun a=>∀(J:List PV),n≤c→aH J (c*1)→∃(ls:List (List Int)),ls.length≤1000000∧a8 ls≤1000000∧(a8 ls=0∧ah a [.E,.list (ls.map lcs) .no,.I ls.length,.I 0]∧ax [.cells J] []∧K (.E) []∨∃(cap:Nat) (J_1:List PV),a8 ls≤cap∧aH J_1 (cap*1)∧ah a [.arr 0 0 0 cap,.list (ls.map lcs) .no,.I ls.length,.I 0]∧ax [.cells J] [.cells J_1]∧∀(J':List PV),aH J' ((cap-ls.flatten.length)*1)→K (.arr 0 0 ls.flatten.length cap) [.cells (flR ls.flatten++J')])))→AcK 42 [.list (ls.map lcs) .no] [] K:=fun K h=>acW (T:=TCG) (L:=[([1,1,0,1,0],mL),([1,1,1,1,0,1,0],mV)]) (fun _=>0) Tryz.func42 (oO) (.cons suE iA (.cons suE iJ (.nil _ _ _ _ _))) h
theorem tU (ls:List (List Int)) (hl:ls.length≤1000000) (hs:a8 ls≤1000000):AcK 42 [.list (ls.map lcs) .no] [] (fun x _=>x = .list (ls.flatten.map u1) .no):=by
 have e0:(List.map lcs ls).length=ls.length:=List.length_map _
 by_cases c:a8 ls=0
 ·refine bh (fO ls _ ⟨ls,hl,hs,(by show _=_; rw[e0]),rfl,a8 ls,rfl,hs,fun _=>⟨ls,hl,hs,.inl ⟨c,(by show _=_; rw[e0]),rfl,?_⟩⟩,fun h=>absurd c (by omega)⟩)
  have e:ls.flatten=[]:=List.length_eq_zero_iff.1 c
  rw[e]
  exact⟨_,.list _ _,rfl⟩
 ·refine bQ (fO ls _ ⟨ls,hl,hs,(by show _=_; rw[e0]),rfl,a8 ls,rfl,hs,fun h=>absurd h c,fun h cap J hc hJ=>⟨ls,hl,hs,.inr ⟨cap,J,hc,hJ,(by show _=_; rw[e0]),rfl,fun J' hJ'=>?_⟩⟩⟩)
  refine⟨0,0,1,[],J',ls.flatten.map u1,.list (ls.flatten.map u1) .no,[.dead],rfl,rfl,bZ dL _,⟨rfl,fun i b hb=> .inl ?_⟩,?_,rfl⟩
  ·have k1:=(List.getElem?_eq_some_iff.1 hb).1
   simp at k1
   subst k1
   cases hb; rfl
  ·have:=Fz.arr (o:=0) (off:=0) (es:=ls.flatten.map u1) cap (by rw[List.length_map]; exact hc)
   rw[List.length_map] at this
   exact this
def mP (args:List PV) (K:PV→Prop):Prop:=∃(a b:List Int),ah args [.list [[.list (a.map u1) .no],[.list (b.map u1) .no]] .exact]∧a.length+b.length≤1000000∧K (.list ((a++b).map u1) .no)
theorem oU:SpK 42 (.pure mP):=by
 rintro args K ⟨a,b,he,h,hk⟩
 have he:args=_:=he
 subst he
 have hf:[a,b].flatten=a++b:=by simp
 have hl:=tU [a,b] (by simp) (by unfold a8; rw[hf,List.length_append]; exact h)
 rw[hf] at hl
 exact bw ai (.cons (.list _ _) .nil) (bu (bn iP [a,b])) (aM _) hl hk
end CU
namespace CI
abbrev flR (l:List Int):List PV:=(l.map i1).flatten
theorem bI (l:List Int):(flR l).length=l.length*1:=bp px l
theorem gN (c:Nat):aH (List.replicate c [PV.I 0]).flatten (c*1):=by
 refine⟨by simp,fun x hx=>?_,fun x hx=>?_⟩<;>simp at hx<;>rcases hx with⟨_,rfl⟩<;>first|rfl|exact .int _ _
theorem aM {n:Nat} (l:List Int):Low n (.list (l.map i1) .no):=bn gO l
theorem ki (H:ae) (n:Int)  (K:PV→ae→Prop) (h:br (decide (n<0)) False (br (decide (wI (n-0)>0)) ((iI 0≤0∧iI 0≤0∧iI 0≤0∧iI 0≤0∧uni 1 [])∧0<wI (n-0)∧Int.toNat (wI (n-0))*8≤140737488355328∧∀(c:Nat),Int.toNat (wI (n-0))≤c→(iI 0≤0∧iI 0≤0∧0≤(c:Int)∧(c:Int)≤(c:Int))∧K (.arr (List.length H) (if Int.toNat (c:Int)=0 then 0 else 0) 0 (Int.toNat (c:Int)-0)) (H++[.cells (List.flatten (List.replicate c [.I 0]))])) (K (.E) H))):AcK 73 [.E,.I n] H K:=
 acW (T:=[]) (L:=[]) (fun o=>match o.dst with|some 22=>8|_=>0) Tryz.func73 (aV.nil _ _) (LOk.nil _ _ _ _ _) h
def mR (args:List PV) (H:ae) (K:PV→ae→Prop):Prop:=∃ n:Nat,ah args [.E,.I n]∧n≤1000000∧(n=0→K (.E) H)∧(0<n→∀(c:Nat) (J:List PV),n≤c→aH J (c*1)→K (.arr H.length 0 0 c) (H++[.cells J]))
theorem oB:SpK 73 (.heap mR):=by
 rintro args H K ⟨n,he,hn,h0,h1⟩
 have he:args=_:=he
 subst he
 refine ki H n K ?_
 have e:wI ((n:Int)-0)=n:=by rw[aD (by omega) (by omega)]; omega
 simp only[ar,dt,e,ak]
 rw[if_neg (by omega)]
 by_cases c:n=0
 ·rw[if_neg (by omega)]; exact h0 c
 ·rw[if_pos (by omega)]
  refine⟨⟨by decide,by decide,by decide,by decide,fun _ h=>nomatch h⟩,by omega,by omega,fun k hk=>⟨⟨by decide,by decide,by omega,by omega⟩,?_⟩⟩
  rw[ite_self]
  exact h1 (by omega) k _ hk (gN k)
def lcs (l:List Int):List PV:=[.list (l.map i1) .no]
theorem lf (l:List Int):(lcs l).length=1:=rfl
theorem iP {n:Nat} (l:List Int):∀ y∈lcs l,Low n y:=bu (aM l)
theorem cP (l:List (List Int)) (i:Nat):InL (l.map lcs) 1 (i:Int)=(i<l.length):=dH lf (by decide) l i
def a8 (ls:List (List Int)):Nat:=ls.flatten.length
theorem cH {ls:List (List Int)} {k:Nat} (h:k<ls.length):a8 (ls.take (k+1))=a8 (ls.take k)+(ls.getD k []).length:=by
 unfold a8; rw[aK [] h,List.flatten_append]; simp
theorem ck (ls:List (List Int)) (k:Nat):a8 (ls.take k)≤a8 ls:=by
 unfold a8
 conv=>rhs; rw[← List.take_append_drop k ls,List.flatten_append]
 rw[List.length_append]; omega
def TCG:Tab:=[(73,.heap mR)]
theorem oO:TbK TCG:= .cons oB (.nil _ _)
theorem oD (ls:List (List Int)) (n i:Nat):(by refine(?_:_→_→_→Prop) (PV.list (ls.map lcs) .no) (List.getD (ls.map lcs) (Int.toNat (i:Int)) []) (PV.I ls.length); exact fun a b f=>by refine(?_:_→_→Prop) [a,.I n,a,f,.I i] ((n:Int)+(↑(List.length (cL b 0)):Int)); exact fun c d=>∀(R:Ex→List PV→ae→Prop),(br (decide ((i:Int)<(ls.length:Int))) (InL (ls.map lcs) 1 (i:Int)∧br (true && aE [.list] 0 b) (br (decide (wI d<0)) False (R .normal [a,.I (wI d),a,f,.I (wI ((i:Int)+1))] [])) False) (R (.exit 0) c []))→Holds (wpK [] [] (fun _=>0) (aj [1,1,0,1,0] (ag Tryz.f43)) [] (an [0,3,9,10,11] c) [] (fun ex e H=>R ex (List.map e [0,3,9,10,11]) H)):Prop):=fun R h=>hoE h
theorem kL (ls:List (List Int)) (i:Nat):(by refine(?_:_→_→_→_→Prop) (List.getD (ls.map lcs) (Int.toNat (i:Int)) []) (PV.list (ls.map lcs) .no) (PV.I ls.length) (PV.I (wI ((i:Int)+1))); exact fun a c d f=>by refine(?_:_→Prop) [PV.E,c,d,.I i]; exact fun b=>∀(R:Ex→List PV→ae→Prop),(br (decide ((i:Int)<(ls.length:Int))) (InL (ls.map lcs) 1 (i:Int)∧br (true && aE [.list] 0 a) (aS [] (cL a 0) 1 8∧List.all (List.flatten (cL a 0)) PV.one=true∧(cL a 0=[]→R .normal [.E,c,d,f] [])∧(cL a 0≠[]→R .normal [.list ([]++cL a 0) (.tok 0),c,d,f] [.tok])) False) (R (.exit 2) b []))→Holds (wpK [] [] (fun o=>match o.dst with|some 33=>4|_=>0) (aj [1,1,1,1,0,1,0] (ag Tryz.f43)) [] (an [6,25,26,27] b) [] (fun ex e H=>R ex (List.map e [6,25,26,27]) H)):Prop):=fun R h=>hoE h
theorem lA (ls:List (List Int)) (acc:List Int) (J:List PV) (cap i:Nat):(by refine(?_:_→_→_→_→Prop) (List.getD (ls.map lcs) (Int.toNat (i:Int)) []) [Ob.cells (flR acc++J)] (PV.list (ls.map lcs) .no) (PV.I ls.length); exact fun a f g h=>by refine(?_:_→_→_→Prop) [PV.arr 0 0 acc.length cap,g,h,.I i] (List.flatten (cL a 0)) (acc.length+List.length (cL a 0)); exact fun b c d=>∀(R:Ex→List PV→ae→Prop),(br (decide ((i:Int)<(ls.length:Int))) (InL (ls.map lcs) 1 (i:Int)∧br (true && aE [.list] 0 a) ((acc.length≤cap∧0+cap*1≤List.length (flR acc++J)∧List.length c=List.length (cL a 0)*1∧List.all c PV.one=true∧d*8≤140737488355328)∧acc.length+List.length (cL a 0)≤cap∧R .normal [.arr 0 0 d cap,g,h,.I (wI ((i:Int)+1))] [.cells (over (flR acc++J) (0+acc.length*1) c)]) False) (R (.exit 2) b f))→Holds (wpK [] [] (fun o=>match o.dst with|some 33=>3|_=>0) (aj [1,1,1,1,0,1,0] (ag Tryz.f43)) [] (an [6,25,26,27] b) f (fun ex e H=>R ex (List.map e [6,25,26,27]) H)):Prop):=fun R h=>hoE h
theorem lu (l k:List Int):flR (l++k)=flR l++flR k:=by unfold flR; rw[List.map_append,List.flatten_append]
theorem jh {l:List Int}:∀ y∈flR l,y.one=true:=by
 intro y hy
 obtain⟨c,h2,h3⟩:=List.mem_flatten.1 hy
 obtain⟨a,_,rfl⟩:=List.mem_map.1 h2
 exact ij a y h3
theorem gm {acc l:List Int} {J:List PV}:over (flR acc++J) (acc.length*1) (flR l)=flR (acc++l)++J.drop (l.length*1):=by
 unfold over
 rw[List.take_left' (bI acc),lu,List.append_assoc,List.append_assoc]
 congr 2
 rw[List.drop_append,bI,bI,List.drop_of_length_le (by rw[bI]; omega),List.nil_append,show acc.length*1+l.length*1-acc.length*1=l.length*1 by omega]
def mL:LSp:=fun e H Q=>∃(ls:List (List Int)),ls.length≤1000000∧a8 ls≤1000000∧ah (List.map e [0,3,9,10,11]) [.list (ls.map lcs) .no,.I 0,.list (ls.map lcs) .no,.I ls.length,.I 0]∧ax H []∧Q (.exit 0) (an [0,3,9,10,11] [.list (ls.map lcs) .no,.I (a8 ls),.list (ls.map lcs) .no,.I ls.length,.I ls.length]) []
theorem iA:∀ e H Q,mL e H Q→AwK Tryz.f43.ntmps (.loop (aj [1,1,0,1,0] (ag Tryz.f43))) Q e H:=by
 rintro e H Q ⟨ls,hl,hs,he,hH,hQ⟩
 refine aB (hn:=fun _=>0) ai (.nil _ _) (.nil _ _ _ _ _) (σ:=Nat) [0,3,9,10,11] (fun i=>i≤ls.length) (fun i=>[.list (ls.map lcs) .no,.I (a8 (ls.take i)),.list (ls.map lcs) .no,.I ls.length,.I i]) (fun _=>[]) (fun i=>ls.length-i) 0 (Nat.zero_le _) (by rw[he]; rfl) hH ?_
 intro i hi
 have hi:i≤ls.length:=hi
 refine oD ls (a8 (ls.take i)) i _ ?_
 have h3:=ck ls i
 simp only[ar,dt,ak,cP]
 by_cases h:i<ls.length
 ·rw[if_pos (by omega)]
  have h4:=ck ls (i+1)
  have e1:=cH h
  simp only[getD_map [] h]
  refine⟨h,?_⟩
  rw[if_pos (by rfl)]
  have c0:cL (lcs (ls.getD i [])) 0=(ls.getD i []).map i1:=rfl
  have e2:wI ((a8 (ls.take i):Int)+(((ls.getD i []).map i1).length:Int))=(a8 (ls.take (i+1)):Int):=by rw[List.length_map,aD (by omega) (by omega)]; omega
  rw[c0,e2,if_neg (by omega)]
  exact⟨i+1,(show ls.length-(i+1)<ls.length-i by omega),h,by rw[au h (by omega)],[],rfl,Nat.le_refl _,.inl rfl⟩
 ·rw[if_neg (by omega)]
  have:i=ls.length:=by omega
  subst this
  rw[List.take_length]
  exact hQ
def mV:LSp:=fun e H Q=>∃(ls:List (List Int)),ls.length≤1000000∧a8 ls≤1000000∧
 ((a8 ls=0∧ah (List.map e [6,25,26,27]) [.E,.list (ls.map lcs) .no,.I ls.length,.I 0]∧ax H []∧Q (.exit 2) (an [6,25,26,27] [.E,.list (ls.map lcs) .no,.I ls.length,.I ls.length]) [])∨
  (∃(cap:Nat) (J:List PV),a8 ls≤cap∧aH J (cap*1)∧ah (List.map e [6,25,26,27]) [.arr 0 0 0 cap,.list (ls.map lcs) .no,.I ls.length,.I 0]∧ax H [.cells J]∧∀ J',aH J' ((cap-ls.flatten.length)*1)→Q (.exit 2) (an [6,25,26,27] [.arr 0 0 ls.flatten.length cap,.list (ls.map lcs) .no,.I ls.length,.I ls.length]) [.cells (flR ls.flatten++J')]))
theorem iJ:∀ e H Q,mV e H Q→AwK Tryz.f43.ntmps (.loop (aj [1,1,1,1,0,1,0] (ag Tryz.f43))) Q e H:=by
 rintro e H Q ⟨ls,hl,hs,(⟨h0,he,hH,hQ⟩|⟨cap,J,hc,hJ,he,hH,hQ⟩)⟩
 ·refine aB (hn:=fun o=>match o.dst with|some 33=>4|_=>0) ai (.nil _ _) (.nil _ _ _ _ _) (σ:=Nat) [6,25,26,27] (fun i=>i≤ls.length) (fun i=>[.E,.list (ls.map lcs) .no,.I ls.length,.I i]) (fun _=>[]) (fun i=>ls.length-i) 0 (Nat.zero_le _) (by rw[he]; rfl) hH ?_
  intro i hi
  have hi:i≤ls.length:=hi
  refine kL ls i _ ?_
  simp only[ar,dt,ak,cP]
  by_cases h:i<ls.length
  ·rw[if_pos (by omega)]
   have h4:=ck ls (i+1)
   have e1:=cH h
   simp only[getD_map [] h]
   refine⟨h,?_⟩
   rw[if_pos (by rfl)]
   have c0:cL (lcs (ls.getD i [])) 0=(ls.getD i []).map i1:=rfl
   have c1:ls.getD i []=[]:=List.length_eq_zero_iff.1 (by omega)
   rw[c0,c1]
   exact⟨⟨(fun _ h=>nomatch h),(fun _ h=>nomatch h),by decide⟩,rfl,fun _=>⟨i+1,(show ls.length-(i+1)<ls.length-i by omega),h,by rw[au h (by omega)],[],rfl,Nat.le_refl _,.inl rfl⟩,fun h=>absurd rfl h⟩
  ·rw[if_neg (by omega)]
   have:i=ls.length:=by omega
   subst this
   exact hQ
 ·refine aB (hn:=fun o=>match o.dst with|some 33=>3|_=>0) ai (.nil _ _) (.nil _ _ _ _ _) (σ:=Nat) [6,25,26,27] (fun i=>i≤ls.length) (fun i=>[.arr 0 0 (ls.take i).flatten.length cap,.list (ls.map lcs) .no,.I ls.length,.I i]) (fun i=>[.cells (flR (ls.take i).flatten++J.drop ((ls.take i).flatten.length*1))]) (fun i=>ls.length-i) 0 (Nat.zero_le _) (by rw[he]; rfl) (by rw[show H=_ from hH]; simp[flR]) ?_
  intro i hi
  have hi:i≤ls.length:=hi
  refine lA ls (ls.take i).flatten (J.drop ((ls.take i).flatten.length*1)) cap i _ ?_
  simp only[ar,dt,ak,cP]
  have h3:=ck ls i
  have hJl:=hJ.len
  have h5:(ls.take i).flatten.length≤cap:=Nat.le_trans h3 hc
  by_cases h:i<ls.length
  ·rw[if_pos (by omega)]
   have h4:=ck ls (i+1)
   have e1:=cH h
   simp only[getD_map [] h]
   refine⟨h,?_⟩
   rw[if_pos (by rfl)]
   have c0:cL (lcs (ls.getD i [])) 0=(ls.getD i []).map i1:=rfl
   obtain⟨l,hld⟩:∃ l,l=ls.getD i []:=⟨_,rfl⟩
   have e4:(ls.take (i+1)).flatten=(ls.take i).flatten++l:=by rw[aK [] h,List.flatten_append,hld]; simp
   have e5:(ls.take (i+1)).flatten.length=(ls.take i).flatten.length+l.length:=by rw[e4,List.length_append]
   have e6:(ls.take (i+1)).flatten.length≤cap:=Nat.le_trans h4 hc
   have e7:a8 (ls.take (i+1))=(ls.take (i+1)).flatten.length:=rfl
   have e8:(J.drop ((ls.take i).flatten.length*1)).length=(cap-(ls.take i).flatten.length)*1:=by rw[List.length_drop,hJl]; omega
   have e9:(List.map i1 l).flatten.length=l.length*1:=bI l
   rw[c0,← hld]
   simp only[List.length_map,e9]
   refine⟨⟨h5,?_,trivial,List.all_eq_true.2 jh,by omega⟩,by omega,i+1,(show ls.length-(i+1)<ls.length-i by omega),h,by(try dsimp only); rw[au h (by omega),e5],[],?_,Nat.le_refl _,.inl rfl⟩
   ·rw[List.length_append,bI,e8]; omega
   ·(try dsimp only)
    rw[Nat.zero_add,gm,e4,List.drop_drop,List.append_nil,List.length_append,Nat.add_mul]
  ·rw[if_neg (by omega)]
   have:i=ls.length:=by omega
   subst this
   rw[List.take_length]
   exact hQ _ (hJ.drop.cast (by omega))
theorem fO (ls:List (List Int)):∀(K:PV→ae→Prop),(∃(ls_1:List (List Int)),by refine(?_:_→_→Prop) (PV.list (ls_1.map lcs) .no) (PV.I (↑(List.length (ls_1.map lcs)):Int)); exact fun d e=>by refine(?_:_→Prop) [PV.E,d,e,.I 0]; exact fun b=>ls_1.length≤1000000∧a8 ls_1≤1000000∧ah [.list (ls.map lcs) .no,.I 0,.list (ls.map lcs) .no,.I (↑(List.length (ls.map lcs)):Int),.I 0] [d,.I 0,d,.I ls_1.length,.I 0]∧ax [] []∧∃(n:Nat),ah [.E,.I (↑(a8 ls_1):Int)] [.E,.I n]∧n≤1000000∧(n=0→∃(ls:List (List Int)),ls.length≤1000000∧a8 ls≤1000000∧(a8 ls=0∧ah b [.E,.list (ls.map lcs) .no,.I ls.length,.I 0]∧ax [] []∧K (.E) []∨∃(cap:Nat) (J:List PV),a8 ls≤cap∧aH J (cap*1)∧ah b [.arr 0 0 0 cap,.list (ls.map lcs) .no,.I ls.length,.I 0]∧ax [] [.cells J]∧∀(J':List PV),aH J' ((cap-ls.flatten.length)*1)→K (.arr 0 0 ls.flatten.length cap) [.cells (flR ls.flatten++J')]))∧(0<n→∀(c:Nat),by refine(?_:_→Prop) [PV.arr 0 0 0 c,d,e,.I 0]; exact fun a=>∀(J:List PV),n≤c→aH J (c*1)→∃(ls:List (List Int)),ls.length≤1000000∧a8 ls≤1000000∧(a8 ls=0∧ah a [.E,.list (ls.map lcs) .no,.I ls.length,.I 0]∧ax [.cells J] []∧K (.E) []∨∃(cap:Nat) (J_1:List PV),a8 ls≤cap∧aH J_1 (cap*1)∧ah a [.arr 0 0 0 cap,.list (ls.map lcs) .no,.I ls.length,.I 0]∧ax [.cells J] [.cells J_1]∧∀(J':List PV),aH J' ((cap-ls.flatten.length)*1)→K (.arr 0 0 ls.flatten.length cap) [.cells (flR ls.flatten++J')])))→AcK 43 [.list (ls.map lcs) .no] [] K:=fun K h=>acW (T:=TCG) (L:=[([1,1,0,1,0],mL),([1,1,1,1,0,1,0],mV)]) (fun _=>0) Tryz.func43 (oO) (.cons suE iA (.cons suE iJ (.nil _ _ _ _ _))) h
theorem tU (ls:List (List Int)) (hl:ls.length≤1000000) (hs:a8 ls≤1000000):AcK 43 [.list (ls.map lcs) .no] [] (fun x _=>x = .list (ls.flatten.map i1) .no):=by
 have e0:(List.map lcs ls).length=ls.length:=List.length_map _
 by_cases c:a8 ls=0
 ·refine bh (fO ls _ ⟨ls,hl,hs,(by show _=_; rw[e0]),rfl,a8 ls,rfl,hs,fun _=>⟨ls,hl,hs,.inl ⟨c,(by show _=_; rw[e0]),rfl,?_⟩⟩,fun h=>absurd c (by omega)⟩)
  have e:ls.flatten=[]:=List.length_eq_zero_iff.1 c
  rw[e]
  exact⟨_,.list _ _,rfl⟩
 ·refine bQ (fO ls _ ⟨ls,hl,hs,(by show _=_; rw[e0]),rfl,a8 ls,rfl,hs,fun h=>absurd h c,fun h cap J hc hJ=>⟨ls,hl,hs,.inr ⟨cap,J,hc,hJ,(by show _=_; rw[e0]),rfl,fun J' hJ'=>?_⟩⟩⟩)
  refine⟨0,0,1,[],J',ls.flatten.map i1,.list (ls.flatten.map i1) .no,[.dead],rfl,rfl,bZ px _,⟨rfl,fun i b hb=> .inl ?_⟩,?_,rfl⟩
  ·have k1:=(List.getElem?_eq_some_iff.1 hb).1
   simp at k1
   subst k1
   cases hb; rfl
  ·have:=Fz.arr (o:=0) (off:=0) (es:=ls.flatten.map i1) cap (by rw[List.length_map]; exact hc)
   rw[List.length_map] at this
   exact this
def mP (args:List PV) (K:PV→Prop):Prop:=∃(a b:List Int),ah args [.list [[.list (a.map i1) .no],[.list (b.map i1) .no]] .exact]∧a.length+b.length≤1000000∧K (.list ((a++b).map i1) .no)
theorem oU:SpK 43 (.pure mP):=by
 rintro args K ⟨a,b,he,h,hk⟩
 have he:args=_:=he
 subst he
 have hf:[a,b].flatten=a++b:=by simp
 have hl:=tU [a,b] (by simp) (by unfold a8; rw[hf,List.length_append]; exact h)
 rw[hf] at hl
 exact bw ai (.cons (.list _ _) .nil) (bu (bn iP [a,b])) (aM _) hl hk
end CI
def ke (k:Int) (s:Se):Bool:=s.tm == k && (s.st == 2 || s.st == 3)
def di (l:List Se) (k:Int):List Se:=l.filter (ke k)
def pu1 (s:Se):List PV:=u1 s.pl
def pi1 (ra:List RwI) (s:Se):List PV:=i1 (bC ra s.pl)
theorem vP {n:Nat} (s:Se):∀ y∈pu1 s,Low n y:=bG _
theorem vR {n:Nat} (ra:List RwI) (s:Se):∀ y∈pi1 ra s,Low n y:=gO _
def TVT:Tab:=[(33,.read nX)]
theorem uX:TbK TVT:= .cons nD (.nil _ _)
theorem JH (ra:List RwI) (most:Int) (c:Mt) (k:Int) (i:Nat):(by refine(?_:_→_→_→_→_→Prop) (List.getD (c.aa.map stc) (Int.toNat (i:Int)) []) (PV.list (c.aa.map stc) .no) (PV.I c.aa.length) (PV.I (wI ((i:Int)+1))) (Ob.abs (rkI ra most)); exact fun g n p v w=>by refine(?_:_→_→_→_→Prop) (Ob.cells [.U c.id,.I c.md,.U c.ins,.list (c.rows.map rrc) .no,n]) [[PV.U (cI g 0)]] [PV.ptr 0 0,.I k,.E,.E,.I 0,n,p,.I i] (PV.U (cI g 0)); exact fun j r s u=>by refine(?_:_→Prop) (Ob.cells [u,.I (cI g 1),.I (cI g 2),.I (cI g 3),.I (cI g 4),.int .u64 (cI g 5)]); exact fun m=>by refine(?_:_→_→Prop) [Ob.abs (rkI ra most),j,m] [w,j,m,.tok,.tok]; exact fun h x=>∀(R:Ex→List PV→ae→Prop),by refine(?_:_→_→Prop) (R .normal [.ptr 0 0,.I k,.E,.E,.I 0,n,p,v] h) (R .ret [.ptr 0 0,.I k,.E,.E,.I 12,n,p,.I i] h); exact fun d f=>(br (decide ((i:Int)<(c.aa.length:Int))) (InL (c.aa.map stc) 6 (i:Int)∧br (true && aE [.int .u32,.int .i64,.int .i64,.int .i64,.int .i64,.int .u64] 0 g) (br ((cI g 1 != k) == false) (br ((cI g 3 != 2) == true) (br (cI g 3 != 3) d (∃(q:Nat) (l:List RwI) (most_1:Int) (t:Int),by refine(?_:_→Prop) [[PV.I (bC l t)]]; exact fun a=>ah [.ptr 0 0,u] [.ptr q 0,.U t]∧bP h q (rkI l most_1)∧Ok l most_1∧br (!has l t) f (aS [] r 1 4∧(List.all [u] PV.one=true∧r≠[])∧aS [] a 1 8∧(List.all [.I (bC l t)] PV.one=true∧a≠[])∧R .normal [.ptr 0 0,.I k,.list r (.tok 3),.list a (.tok 4),.I 0,n,p,v] x))) (∃(q:Nat) (l:List RwI) (most_1:Int) (t:Int),by refine(?_:_→Prop) [[PV.I (bC l t)]]; exact fun b=>ah [.ptr 0 0,u] [.ptr q 0,.U t]∧bP h q (rkI l most_1)∧Ok l most_1∧br (!has l t) f (aS [] r 1 4∧(List.all [u] PV.one=true∧r≠[])∧aS [] b 1 8∧(List.all [.I (bC l t)] PV.one=true∧b≠[])∧R .normal [.ptr 0 0,.I k,.list r (.tok 3),.list b (.tok 4),.I 0,n,p,v] x))) d) False) (R (.exit 0) s [w,j]))→Holds (wpK TVT [] (fun o=>match o.dst with|some 47=>1|some 51=>1|_=>0) (aj [1,0,1,0] (ag Tryz.f41)) [] (an [0,2,6,7,8,14,15,16] s) [w,.cells (mtc c)] (fun ex e H=>R ex (List.map e [0,2,6,7,8,14,15,16]) H)):Prop):=fun R h=>hoE h
theorem JK (ra:List RwI) (most:Int) (c:Mt) (k:Int) (a:List Se) (i:Nat):(by refine(?_:_→_→_→_→_→_→_→Prop) (List.getD (c.aa.map stc) (Int.toNat (i:Int)) []) (PV.list (c.aa.map stc) .no) (PV.I c.aa.length) (List.map (pi1 ra) a) (PV.I (wI ((i:Int)+1))) (PV.list (a.map pu1) (.tok 2)) (Ob.abs (rkI ra most)); exact fun h p r v w y C=>by refine(?_:_→_→_→_→_→Prop) (Ob.cells [.U c.id,.I c.md,.U c.ins,.list (c.rows.map rrc) .no,p]) [[PV.U (cI h 0)]] (PV.U (cI h 0)) C C; exact fun m s u A B=>by refine(?_:_→_→Prop) (Ob.cells [u,.I (cI h 1),.I (cI h 2),.I (cI h 3),.I (cI h 4),.int .u64 (cI h 5)]) (PV.list (a.map pu1++s) (.tok 5)); exact fun n z=>by refine(?_:_→_→Prop) [A,m,.tok,.tok,n] [A,m,.dead,.dead,n,.tok,.tok]; exact fun j x=>∀(R:Ex→List PV→ae→Prop),by refine(?_:_→_→Prop) (R .normal [.ptr 0 0,.I k,y,.list v (.tok 3),.I 0,p,r,w] j) (R .ret [.ptr 0 0,.I k,.E,.E,.I 12,p,r,.I i] j); exact fun f g=>(br (decide ((i:Int)<(c.aa.length:Int))) (InL (c.aa.map stc) 6 (i:Int)∧br (true && aE [.int .u32,.int .i64,.int .i64,.int .i64,.int .i64,.int .u64] 0 h) (br ((cI h 1 != k) == false) (br ((cI h 3 != 2) == true) (br (cI h 3 != 3) f (∃(q:Nat) (l:List RwI) (most_1:Int) (t:Int),by refine(?_:_→Prop) [[PV.I (bC l t)]]; exact fun b=>ah [.ptr 0 0,u] [.ptr q 0,.U t]∧bP j q (rkI l most_1)∧Ok l most_1∧br (!has l t) g (aS (a.map pu1) s 1 4∧(List.all [u] PV.one=true∧s≠[])∧aS v b 1 8∧(List.all [.I (bC l t)] PV.one=true∧b≠[])∧R .normal [.ptr 0 0,.I k,z,.list (List.map (pi1 ra) a++b) (.tok 6),.I 0,p,r,w] x))) (∃(q:Nat) (l:List RwI) (most_1:Int) (t:Int),by refine(?_:_→Prop) [[PV.I (bC l t)]]; exact fun d=>ah [.ptr 0 0,u] [.ptr q 0,.U t]∧bP j q (rkI l most_1)∧Ok l most_1∧br (!has l t) g (aS (a.map pu1) s 1 4∧(List.all [u] PV.one=true∧s≠[])∧aS v d 1 8∧(List.all [.I (bC l t)] PV.one=true∧d≠[])∧R .normal [.ptr 0 0,.I k,z,.list (List.map (pi1 ra) a++d) (.tok 6),.I 0,p,r,w] x))) f) False) (R (.exit 0) [.ptr 0 0,.I k,y,.list v (.tok 3),.I 0,p,r,.I i] [B,m,.tok,.tok]))→Holds (wpK TVT [] (fun o=>match o.dst with|some 47=>1|some 51=>1|_=>0) (aj [1,0,1,0] (ag Tryz.f41)) [] (an [0,2,6,7,8,14,15,16] [.ptr 0 0,.I k,y,.list (a.map (pi1 ra)) (.tok 3),.I 0,p,r,.I i]) [B,.cells (mtc c),.tok,.tok] (fun ex e H=>R ex (List.map e [0,2,6,7,8,14,15,16]) H)):Prop):=fun R h=>hoE h
theorem ct0 (s:Se):cI (stc s) 0=s.pl:=rfl
theorem ct1 (s:Se):cI (stc s) 1=s.tm:=rfl
theorem ct3 (s:Se):cI (stc s) 3=s.st:=rfl
theorem s8 {n:Nat} {α:Type} {f:α→List PV} (hf:∀ a,∀ x∈f a,Low 0 x) (l:List α) (t:Tail) (ht:NT t):Lid n (.list (l.map f) t):= .low (aF ht (bg fun a _=>hf a))
theorem jU {a b:List Se} {ra:List RwI} {t u:Tail} {c:Mt} {k e i:Int} (ht:NT t) (hu:NT u):∀ v∈[.ptr 0 0,.I k,.list (a.map pu1) t,.list (b.map (pi1 ra)) u,.I e,.list (c.aa.map stc) .no,.I c.aa.length,.I i],Lid 2 v:=by
 intro v hv
 simp only[List.mem_cons,List.not_mem_nil,or_false] at hv
 rcases hv with rfl|rfl|rfl|rfl|rfl|rfl|rfl|rfl
 ·exact .ptr _ _ (by decide)
 ·exact .low (.int _ _)
 ·exact s8 vP _ _ ht
 ·exact s8 (vR ra) _ _ hu
 ·exact .low (.int _ _)
 ·exact .low (dh _)
 ·exact .low (.int _ _)
 ·exact .low (.int _ _)
theorem Ip {x y x' y' z:PV} {k e n i:Int} (h:Wk x x') (h2:Wk y y'):WkL [.ptr 0 0,.I k,x,y,.I e,z,.I n,.I i] [.ptr 0 0,.I k,x',y',.I e,z,.I n,.I i]:=
 .cons (.refl _) (.cons (.refl _) (.cons h (.cons h2 (.cons (.refl _) (.cons (.refl _) (.cons (.refl _) (.cons (.refl _) .nil)))))))
theorem wA {ra:List RwI} {most:Int} {c:Mt}:ot [.abs (rkI ra most),.cells (mtc c)]:=by
 intro o cs ho
 have k1:=(List.getElem?_eq_some_iff.1 ho).1
 simp at k1
 have:o=0∨o=1:=by omega
 rcases this with rfl|rfl<;>cases ho
 exact fun x hx=> .inl (kX c x hx)
theorem GV {ra:List RwI} {most:Int} {c:Mt}:gX 2 [.abs (rkI ra most),.cells (mtc c)]:=by
 intro o cs ho x hx
 rcases wA o cs ho x hx with h|⟨q,off,h,rfl⟩
 ·exact .low h
 ·exact .ptr _ _ h
theorem GZ {c:Mt} {k i:Int}:Dg 2 (fun T U=>[.ptr 0 0,.I k,T,U,.I 0,.list (c.aa.map stc) .no,.I c.aa.length,.I i]):=by
 intro ρ n k1 k2 es1 es2 h1 h2 h3 h4 h5 h6
 have e0:=Ren.ptr (ρ:=ρ) (n:=n) 0 0 (by omega)
 rw[h1 0 (by decide)] at e0
 exact .cons e0 (.cons (.low (.int _ _)) (.cons (.ltok es1 k1 h3 h5) (.cons (.ltok es2 k2 h4 h6) (.cons (.low (.int _ _)) (.cons (.low (dh _)) (.cons (.low (.int _ _)) (.cons (.low (.int _ _)) .nil)))))))
def Lu:LSp:=fun e H Q=>∃(ra:List RwI) (most:Int) (c:Mt) (k:Int),Ok ra most∧c.aa.length≤1000000∧ah (List.map e [0,2,6,7,8,14,15,16]) [.ptr 0 0,.I k,.E,.E,.I 0,.list (c.aa.map stc) .no,.I c.aa.length,.I 0]∧ax H [.abs (rkI ra most),.cells (mtc c)]∧((∀ s∈di c.aa k,has ra s.pl=true)→Q (.exit 0) (an [0,2,6,7,8,14,15,16] [.ptr 0 0,.I k,.list ((di c.aa k).map pu1) .no,.list ((di c.aa k).map (pi1 ra)) .no,.I 0,.list (c.aa.map stc) .no,.I c.aa.length,.I c.aa.length]) [.abs (rkI ra most),.cells (mtc c)])∧(∀ i:Nat,¬ (∀ s∈di c.aa k,has ra s.pl=true)→Q .ret (an [0,2,6,7,8,14,15,16] [.ptr 0 0,.I k,.E,.E,.I 12,.list (c.aa.map stc) .no,.I c.aa.length,.I i]) [.abs (rkI ra most),.cells (mtc c)])
theorem F3:∀ e H Q,Lu e H Q→AwK Tryz.f41.ntmps (.loop (aj [1,0,1,0] (ag Tryz.f41))) Q e H:=by
 rintro e H Q ⟨ra,most,c,k,ok,hcl,he,hH,hQ0,hQ1⟩
 refine Cs (f1:=pu1) (f2:=pi1 ra) (acc:=fun i=>di (c.aa.take i) k) (I:=fun i=>i≤c.aa.length∧∀ s∈di (c.aa.take i) k,has ra s.pl=true) (m:=fun i=>c.aa.length-i) ai [0,2,6,7,8,14,15,16] (fun T U i=>[.ptr 0 0,.I k,T,U,.I 0,.list (c.aa.map stc) .no,.I c.aa.length,.I i]) [.abs (rkI ra most),.cells (mtc c)] (0:Nat) wA GV
  (fun a=>vP a) (fun a=>vR ra a) (fun _ _=>GZ) (fun _ _=>jU (a:=[]) (b:=[]) (ra:=ra) .exact .exact) ⟨Nat.zero_le _,fun _ h=>nomatch h⟩ rfl he hH ?_ ?_
 ·rintro i ⟨hi,hall⟩ ha
  have hi':i≤c.aa.length:=hi
  have ha:di (c.aa.take i) k=[]:=ha
  have hal:(di (c.aa.take i) k).length≤i:=iz _ _ _
  refine aZ uX (aj [1,0,1,0] (ag Tryz.f41)) [] (.nil _ _ _ _ _) _ _ _ (JH ra most c k i _ ?_).out
  simp only[ar,dt,ak]
  by_cases h:i<c.aa.length
  ·rw[if_pos (by omega)]
   have inl:InL (c.aa.map stc) 6 (i:Int):=by rw[dH bJ (by decide)]; exact h
   obtain⟨s,hsd⟩:∃ s,s=c.aa.getD i default:=⟨_,rfl⟩
   have hs:di (c.aa.take (i+1)) k=di (c.aa.take i) k++(if ke k s=true then [s] else []):=by rw[hsd]; exact m7 default h
   refine⟨inl,?_⟩
   simp only[getD_map default h,← hsd,ct0,ct1,ct3]
   rw[if_pos (by rfl)]
   by_cases c1:s.tm=k
   ·rw[if_pos (by simp[c1])]
    by_cases c2:s.st=2
    ·rw[if_neg (by simp[c2])]
     have hct:ke k s=true:=by simp[ke,c1,c2]
     rw[if_pos hct] at hs
     refine⟨0,ra,most,s.pl,rfl,rfl,ok,?_⟩
     by_cases hh:has ra s.pl=true
     ·rw[if_neg (by rw[hh]; decide)]
      refine⟨aG (f:=pu1) (l:=[]) (by_:=4) (fun _=>rfl) s (by show(0+1)*4≤_; decide),one_row (f:=pu1) (fun _=>eM _) s,aG (f:=pi1 ra) (l:=[]) (by_:=8) (fun _=>rfl) s (by show(0+1)*8≤_; decide),one_row (f:=pi1 ra) (fun _=>ij _) s,?_⟩
      have hall2:∀ s∈di (c.aa.take (i+1)) k,has ra s.pl=true:=by
       rw[hs]
       intro y hy
       rcases List.mem_append.1 hy with hy|hy
       ·exact hall y hy
       ·rcases List.mem_singleton.1 hy with rfl; exact hh
      exact⟨i+1,(show c.aa.length-(i+1)<c.aa.length-i by omega),⟨h,hall2⟩,.inr ⟨by(try dsimp only); rw[hs,ha]; simp,[_,.tok,.tok],3,4,rfl,rfl,rfl,by simp,by simp,by decide,by(try dsimp only); rw[au h (by omega),hs,ha]; rfl⟩⟩
     ·rw[if_pos (by rw[eq_false_of_ne_true hh]; rfl)]
      exact⟨_,[_],rfl,.refl _,jU (a:=[]) (b:=[]) (ra:=ra) .exact .exact,hQ1 i fun hA=>hh (hA s (List.mem_filter.2 ⟨by rw[hsd]; exact aU h,hct⟩))⟩
    ·rw[if_pos (by simp[c2])]
     by_cases c3:s.st=3
     ·rw[if_neg (by simp[c3])]
      have hct:ke k s=true:=by simp[ke,c1,c3]
      rw[if_pos hct] at hs
      refine⟨0,ra,most,s.pl,rfl,rfl,ok,?_⟩
      by_cases hh:has ra s.pl=true
      ·rw[if_neg (by rw[hh]; decide)]
       refine⟨aG (f:=pu1) (l:=[]) (by_:=4) (fun _=>rfl) s (by show(0+1)*4≤_; decide),one_row (f:=pu1) (fun _=>eM _) s,aG (f:=pi1 ra) (l:=[]) (by_:=8) (fun _=>rfl) s (by show(0+1)*8≤_; decide),one_row (f:=pi1 ra) (fun _=>ij _) s,?_⟩
       have hall2:∀ s∈di (c.aa.take (i+1)) k,has ra s.pl=true:=by
        rw[hs]
        intro y hy
        rcases List.mem_append.1 hy with hy|hy
        ·exact hall y hy
        ·rcases List.mem_singleton.1 hy with rfl; exact hh
       exact⟨i+1,(show c.aa.length-(i+1)<c.aa.length-i by omega),⟨h,hall2⟩,.inr ⟨by(try dsimp only); rw[hs,ha]; simp,[_,.tok,.tok],3,4,rfl,rfl,rfl,by simp,by simp,by decide,by(try dsimp only); rw[au h (by omega),hs,ha]; rfl⟩⟩
      ·rw[if_pos (by rw[eq_false_of_ne_true hh]; rfl)]
       exact⟨_,[_],rfl,.refl _,jU (a:=[]) (b:=[]) (ra:=ra) .exact .exact,hQ1 i fun hA=>hh (hA s (List.mem_filter.2 ⟨by rw[hsd]; exact aU h,hct⟩))⟩
     ·rw[if_pos (by simp[c3])]
      rw[ke,if_neg (by simp[c2,c3])] at hs
      rw[List.append_nil] at hs
      have hall2:∀ s∈di (c.aa.take (i+1)) k,has ra s.pl=true:=by rw[hs]; exact hall
      exact⟨i+1,(show c.aa.length-(i+1)<c.aa.length-i by omega),⟨h,hall2⟩,.inl ⟨hs.trans ha,[_],rfl,by rw[au h (by omega)]⟩⟩
   ·rw[if_neg (by simp[c1])]
    rw[ke,if_neg (by simp[c1])] at hs
    rw[List.append_nil] at hs
    have hall2:∀ s∈di (c.aa.take (i+1)) k,has ra s.pl=true:=by rw[hs]; exact hall
    exact⟨i+1,(show c.aa.length-(i+1)<c.aa.length-i by omega),⟨h,hall2⟩,.inl ⟨hs.trans ha,[_],rfl,by rw[au h (by omega)]⟩⟩
  ·rw[if_neg (by omega)]
   have:i=c.aa.length:=by omega
   subst this
   rw[List.take_length] at hall ha
   exact⟨_,[],(List.append_nil _).symm,Ip (by rw[ha]; exact .list _ _) (by rw[ha]; exact .list _ _),jU .no .no,hQ0 hall⟩
 ·rintro i ⟨hi,hall⟩ ha
  have hi':i≤c.aa.length:=hi
  have ha:di (c.aa.take i) k≠[]:=ha
  have hal:(di (c.aa.take i) k).length≤i:=iz _ _ _
  refine aZ uX (aj [1,0,1,0] (ag Tryz.f41)) [] (.nil _ _ _ _ _) _ _ _ (JK ra most c k (di (c.aa.take i) k) i _ ?_).out
  simp only[ar,dt,ak]
  by_cases h:i<c.aa.length
  ·rw[if_pos (by omega)]
   have inl:InL (c.aa.map stc) 6 (i:Int):=by rw[dH bJ (by decide)]; exact h
   obtain⟨s,hsd⟩:∃ s,s=c.aa.getD i default:=⟨_,rfl⟩
   have hs:di (c.aa.take (i+1)) k=di (c.aa.take i) k++(if ke k s=true then [s] else []):=by rw[hsd]; exact m7 default h
   refine⟨inl,?_⟩
   simp only[getD_map default h,← hsd,ct0,ct1,ct3]
   rw[if_pos (by rfl)]
   by_cases c1:s.tm=k
   ·rw[if_pos (by simp[c1])]
    by_cases c2:s.st=2
    ·rw[if_neg (by simp[c2])]
     have hct:ke k s=true:=by simp[ke,c1,c2]
     rw[if_pos hct] at hs
     refine⟨0,ra,most,s.pl,rfl,rfl,ok,?_⟩
     by_cases hh:has ra s.pl=true
     ·rw[if_neg (by rw[hh]; decide)]
      refine⟨aG (f:=pu1) (by_:=4) (fun _=>rfl) (di (c.aa.take i) k) s (by omega),one_row (f:=pu1) (fun _=>eM _) s,aG (f:=pi1 ra) (by_:=8) (fun _=>rfl) (di (c.aa.take i) k) s (by omega),one_row (f:=pi1 ra) (fun _=>ij _) s,?_⟩
      have hall2:∀ s∈di (c.aa.take (i+1)) k,has ra s.pl=true:=by
       rw[hs]
       intro y hy
       rcases List.mem_append.1 hy with hy|hy
       ·exact hall y hy
       ·rcases List.mem_singleton.1 hy with rfl; exact hh
      exact⟨i+1,(show c.aa.length-(i+1)<c.aa.length-i by omega),⟨h,hall2⟩,.inr ⟨by(try dsimp only); rw[hs]; simp,[.dead,.dead,_,.tok,.tok],5,6,rfl,rfl,rfl,by simp,by simp,by decide,by(try dsimp only); rw[au h (by omega),hs,List.map_append,List.map_append]; rfl⟩⟩
     ·rw[if_pos (by rw[eq_false_of_ne_true hh]; rfl)]
      exact⟨_,[.tok,.tok,_],rfl,.refl _,jU (a:=[]) (b:=[]) (ra:=ra) .exact .exact,hQ1 i fun hA=>hh (hA s (List.mem_filter.2 ⟨by rw[hsd]; exact aU h,hct⟩))⟩
    ·rw[if_pos (by simp[c2])]
     by_cases c3:s.st=3
     ·rw[if_neg (by simp[c3])]
      have hct:ke k s=true:=by simp[ke,c1,c3]
      rw[if_pos hct] at hs
      refine⟨0,ra,most,s.pl,rfl,rfl,ok,?_⟩
      by_cases hh:has ra s.pl=true
      ·rw[if_neg (by rw[hh]; decide)]
       refine⟨aG (f:=pu1) (by_:=4) (fun _=>rfl) (di (c.aa.take i) k) s (by omega),one_row (f:=pu1) (fun _=>eM _) s,aG (f:=pi1 ra) (by_:=8) (fun _=>rfl) (di (c.aa.take i) k) s (by omega),one_row (f:=pi1 ra) (fun _=>ij _) s,?_⟩
       have hall2:∀ s∈di (c.aa.take (i+1)) k,has ra s.pl=true:=by
        rw[hs]
        intro y hy
        rcases List.mem_append.1 hy with hy|hy
        ·exact hall y hy
        ·rcases List.mem_singleton.1 hy with rfl; exact hh
       exact⟨i+1,(show c.aa.length-(i+1)<c.aa.length-i by omega),⟨h,hall2⟩,.inr ⟨by(try dsimp only); rw[hs]; simp,[.dead,.dead,_,.tok,.tok],5,6,rfl,rfl,rfl,by simp,by simp,by decide,by(try dsimp only); rw[au h (by omega),hs,List.map_append,List.map_append]; rfl⟩⟩
      ·rw[if_pos (by rw[eq_false_of_ne_true hh]; rfl)]
       exact⟨_,[.tok,.tok,_],rfl,.refl _,jU (a:=[]) (b:=[]) (ra:=ra) .exact .exact,hQ1 i fun hA=>hh (hA s (List.mem_filter.2 ⟨by rw[hsd]; exact aU h,hct⟩))⟩
     ·rw[if_pos (by simp[c3])]
      rw[ke,if_neg (by simp[c2,c3])] at hs
      rw[List.append_nil] at hs
      have hall2:∀ s∈di (c.aa.take (i+1)) k,has ra s.pl=true:=by rw[hs]; exact hall
      exact⟨i+1,(show c.aa.length-(i+1)<c.aa.length-i by omega),⟨h,hall2⟩,.inr ⟨by(try dsimp only); rw[hs]; exact ha,[.tok,.tok,_],2,3,rfl,rfl,rfl,by simp,by simp,by decide,by(try dsimp only); rw[au h (by omega),hs]⟩⟩
   ·rw[if_neg (by simp[c1])]
    rw[ke,if_neg (by simp[c1])] at hs
    rw[List.append_nil] at hs
    have hall2:∀ s∈di (c.aa.take (i+1)) k,has ra s.pl=true:=by rw[hs]; exact hall
    exact⟨i+1,(show c.aa.length-(i+1)<c.aa.length-i by omega),⟨h,hall2⟩,.inr ⟨by(try dsimp only); rw[hs]; exact ha,[.tok,.tok,_],2,3,rfl,rfl,rfl,by simp,by simp,by decide,by(try dsimp only); rw[au h (by omega),hs]⟩⟩
  ·rw[if_neg (by omega)]
   have:i=c.aa.length:=by omega
   subst this
   rw[List.take_length] at hall ha
   rw[List.take_length]
   exact⟨_,[.tok,.tok],rfl,Ip (.list _ _) (.list _ _),jU .no .no,hQ0 hall⟩
theorem Bo (ra:List RwI) (most:Int) (c:Mt) (k:Int):∀(K:PV→ae→Prop),(∃(ra_1:List RwI) (most_1:Int) (c_1:Mt) (k_1:Int),by refine(?_:_→_→Prop) (PV.list (c_1.aa.map stc) .no) (di c_1.aa k_1); exact fun b d=>by refine(?_:_→Prop) [Ob.abs (rkI ra_1 most_1),.cells [.U c_1.id,.I c_1.md,.U c_1.ins,.list (c_1.rows.map rrc) .no,b]]; exact fun a=>Ok ra_1 most_1∧c_1.aa.length≤1000000∧ah [.ptr 0 0,.I k,.E,.E,.I 0,.list (c.aa.map stc) .no,.I (↑(List.length (c.aa.map stc)):Int),.I 0] [.ptr 0 0,.I k_1,.E,.E,.I 0,b,.I c_1.aa.length,.I 0]∧ax [.abs (rkI ra most),.cells [.U c.id,.I c.md,.U c.ins,.list (c.rows.map rrc) .no,.list (c.aa.map stc) .no]] a∧((∀(s:Se),s∈di c_1.aa k_1→has ra_1 s.pl=true)→K (.tup [.list (List.map pu1 d) .no,.list (List.map (pi1 ra_1) d) .no,.I 0]) a)∧∀(_:Nat),(¬∀(s:Se),s∈di c_1.aa k_1→has ra_1 s.pl=true)→K (.tup [.E,.E,.I 12]) a)→AcK 41 [.ptr 0 0,c.pv,.I k] [.abs (rkI ra most)] K:=fun K h=>acW (T:=TVT) (L:=[([1,0,1,0],Lu)]) (fun _=>0) Tryz.func41 (uX) (.cons suE F3 (.nil _ _ _ _ _)) h
def bz (ra:List RwI) (l:List Se) (k:Int):List Int×List Int×Int:=if(di l k).all (fun s=>has ra s.pl)=true then((di l k).map Se.pl,(di l k).map (fun s=>bC ra s.pl),0) else([],[],12)
def xo (v:List Int×List Int×Int):PV:= .tup [.list (v.1.map u1) .no,.list (v.2.1.map i1) .no,.I v.2.2]
theorem zl {n:Nat} (v:List Int×List Int×Int):Low n (xo v):= .tup _ (ef (bn bG _) (bn gO _) (.int _ _))
def xw (args:List PV) (H:ae) (K:PV→Prop):Prop:=∃(q:Nat) (ra:List RwI) (most:Int) (c:Mt) (t1 t2:Tail) (k:Int),ah args [.ptr q 0,.agg [.U c.id,.I c.md,.U c.ins,.list (c.rows.map rrc) t1,.list (c.aa.map stc) t2],.I k]∧bP H q (rkI ra most)∧Ok ra most∧c.aa.length≤1000000∧
 (let v:=bz ra c.aa k; K (.tup [.list (v.1.map u1) .no,.list (v.2.1.map i1) .no,.I v.2.2]))
theorem DA:SpK 41 (.read xw):=by
 rintro args H K ⟨q,ra,most,c,t1,t2,k,he,hA,ok,hl,hk⟩
 have he:args=_:=he
 subst he
 refine⟨xo (bz ra c.aa k),?_,hk⟩
 refine aY (.cons (.refl _) (.cons (.agg (xs':=mtc c) (.cons (.refl _) (.cons (.refl _) (.cons (.refl _) (.cons (.list _ _) (.cons (.list _ _) .nil)))))) (.cons (.refl _) .nil))) ?_
 refine tJ ai hA (args0:=[.ptr 0 0,c.pv,.I k]) (.cons (Ren.ptr (ρ:=fun _=>q) (n:=1) 0 0 (by omega)) (.cons (.low c.low) (.cons (.low (.int _ _)) .nil))) (zl _) ?_
 refine bh (Bo ra most c k _ ⟨ra,most,c,k,ok,hl,(by show _=_; rw[List.length_map]),rfl,fun hA=>?_,fun i hA=>?_⟩)
 ·have e:bz ra c.aa k=((di c.aa k).map Se.pl,(di c.aa k).map (fun s=>bC ra s.pl),0):=if_pos (List.all_eq_true.2 hA)
  refine⟨_,.refl _,?_,[_],rfl⟩
  rw[e]; simp only[xo,List.map_map]; rfl
 ·have e:bz ra c.aa k=([],[],12):=if_neg (fun h=>hA (List.all_eq_true.1 h))
  refine⟨xo (bz ra c.aa k),?_,rfl,[_],rfl⟩
  rw[e]
  exact .tup (.cons (.list _ _) (.cons (.list _ _) (.cons (.refl _) .nil)))
end Go.Proofs.YtenaelaapdhbdaaGreatDoor
