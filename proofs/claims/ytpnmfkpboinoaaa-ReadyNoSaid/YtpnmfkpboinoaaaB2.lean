/-
  What the program's and the document's functions do, over plain values, part 5.
-/
import Derived.Test.YtpnmfkpboinoaaaB1
import Derived.Test.YtpnmfkpboinoaaaProg
namespace Go.Proofs.Ytpnmfkpboinoaaa
open Go Go.AM Go.Proofs
theorem u3 {w:List Ck} {m:Int} (ro:RO w m) {p:Int} (h:aK Ck.id w (ofS w p)=true):fb w p∈w∧p∈(fb w p).pl:=by
 have hm:=dl h
 refine⟨hm.1,?_⟩
 unfold ofS at hm h
 unfold fb ofS
 by_cases c:w.findIdx (fun c=>ay c.pl p)<w.length
 ·rw[if_pos c] at hm ⊢
  have h1:w.getD (w.findIdx (fun c=>ay c.pl p)) default∈w:=fW c
  rw[nt ro.rise h1]
  have:=List.findIdx_getElem (p:=fun c:Ck=>ay c.pl p) (xs:=w) (w:=c)
  rw[aH c]
  exact cV.1 this
 ·rw[if_neg c] at hm
  have:=(ro.cs _ hm.1).rt
  rw[hm.2] at this
  exact absurd this (by decide)
theorem nM {w:List Ck} {m:Int} (ro:RO w m) {c:Ck} (h:aK Ck.id w c.id=true∨(w.length:Int)<m):((er Ck.id w c).length:Int)≤m:=by
 have e:=ox ro.rise c
 have:=ro.full
 rw[e]
 split
 ·exact this
 ·rename_i k
  have:=h.resolve_left k
  omega
theorem RO.put {w:List Ck} {m:Int} (ro:RO w m) {c:Ck} (hc:c.Ok) (h:aK Ck.id w c.id=true∨(w.length:Int)<m):RO (er Ck.id w c) m:=
 ⟨ro.rise.put c,nM ro h,ro.big,fun x hx=>by
  rcases fJ.1 hx with rfl|⟨hx,_⟩
  ·exact hc
  ·exact ro.cs x hx⟩
theorem mA {w:List Ck} {pl:List Int} (h:¬ dO w pl=true):pl.Nodup∧∀ x∈pl,ofS w x=0:=by
 have hp:∀ k,k<pl.length→pl.getD k 0∉pl.take k∧ofS w (pl.getD k 0)=0:=by
  intro k hk
  have h1:dP w pl k=false:=by
   refine eq_false_of_ne_true fun c=>h (di hk c)
  unfold dP at h1
  rw[Bool.or_eq_false_iff] at h1
  refine⟨fun c=>?_,by simpa using h1.2⟩
  rw[cV.2 c] at h1
  cases h1.1
 refine⟨?_,fun x hx=>?_⟩
 ·show List.Pairwise _ _
  rw[List.pairwise_iff_getElem]
  intro i j hi hj hij e
  refine(hp j hj).1 ?_
  rw[aH hj,← e]
  exact List.mem_iff_getElem.2 ⟨i,by rw[List.length_take]; omega,by rw[List.getElem_take]⟩
 ·obtain⟨k,hk,rfl⟩:=List.mem_iff_getElem.1 hx
  have:=(hp k hk).2
  rwa [aH hk] at this
theorem RO.open {w:List Ck} {m:Int} (ro:RO w m) (id un:Int) (pl:List Int):RO (bW w m id un pl).1 m:=by
 unfold bW
 split
 ·rename_i c
  split
  ·exact ro
  ·rename_i c1
   split
   ·exact ro
   ·rename_i c2
    split
    ·exact ro
    ·rename_i c3
     obtain⟨nd,_⟩:=mA (fun h=>c2 (.inr h))
     exact ro.put ⟨List.all_eq_true.1 c id (by simp),by show 1≤pl.length; omega,by show pl.length≤8; omega,nd,List.nodup_nil,fun _ h=>nomatch h⟩ (.inr (by omega))
 ·exact ro
theorem RO.acc {w:List Ck} {m:Int} (ro:RO w m) (p:Int):RO (ef w p).1 m:=by
 unfold ef
 split
 ·rename_i h
  split
  ·exact ro
  ·rename_i c3
   obtain⟨hm,hp⟩:=u3 ro h
   have ck:=ro.cs _ hm
   split
   ·exact ro.drop _
   ·refine ro.put ⟨ck.rt,ck.n1,ck.n8,ck.nd,?_,fun x hx=>?_⟩ (.inl (bM.2 ⟨_,hm,rfl⟩))
    ·show((fb w p).ys++[p]).Nodup
     rw[List.nodup_append]
     exact⟨ck.yn,by simp,fun a ha b hb=>by rcases List.mem_singleton.1 hb with rfl; exact fun e=>c3 (cV.2 (e▸ha))⟩
    ·rcases List.mem_append.1 (show x∈(fb w p).ys++[p] from hx) with hx|hx
     ·exact ck.sub x hx
     ·rcases List.mem_singleton.1 hx with rfl; exact hp
 ·exact ro
theorem RO.nil {m:Int} (h0:0≤m) (h:m≤1000000):RO [] m:=⟨.nil _,by simpa using h0,h,fun _ h=>nomatch h⟩
def TW0:Tab:=(4,.heap my)::(5,.heap l6)::(6,.heap m8)::(8,.read sa)::TR0
theorem uw:TbK TW0:= .cons mX (.cons sO (.cons qh (.cons oU ja)))
theorem sV  : ∀(K:PV→Prop),(∃(n:Int),ag [.I 4] [.I n]∧∃(w:List Ck) (m:Int) (id:Int) (un:Int) (pl:List Int) (tl:Tail),ag [.U 3,.I 9,.list [[PV.U 5],[.U 6]] .exact] [.U id,.I un,.list (pl.map u1) tl]∧bB [.abs (rkC [] (mxI 0 n)),.cells [.ptr 0 0]] 0 (rkC (ae w) m)∧RO w m∧pl.length≤100000∧∃(w_1:List Ck) (m_1:Int) (p:Int),by refine(?_:_→Prop) (Prod.snd (ef w_1 p)); exact fun c=>by refine(?_:_→Prop) (Ob.cells [.U (Ck.id (Prod.fst c)),.list (en1 .u32 (Ck.pl (Prod.fst c))) .no,.list (en1 .u32 (Ck.ys (Prod.fst c))) .no,.I (Ck.un (Prod.fst c))]); exact fun b=>ag [.U 5] [.U p]∧bB [.abs (rkC (ae (Prod.fst (bW w m id un pl))) m),.cells [.ptr 0 0]] 0 (rkC (ae w_1) m_1)∧RO w_1 m_1∧∃(w_2:List Ck) (m_2:Int) (p_1:Int),by refine(?_:_→Prop) (Prod.snd (ef w_2 p_1)); exact fun a=>ag [.U 6] [.U p_1]∧bB [.abs (rkC (ae (Prod.fst (ef w_1 p))) m_1),.cells [.ptr 0 0],b] 0 (rkC (ae w_2) m_2)∧RO w_2 m_2∧br ((Prod.snd (bW w m id un pl) == 0) == true) (br ((Prod.snd (Prod.snd c) == 0) == true) (br ((Prod.snd (Prod.snd a) == 0) == true) (br ((!Prod.fst (Prod.snd c)) == true) (br (Prod.fst (Prod.snd a) == true) (∃(q:Nat) (r:Nat) (w:List Ck) (m:Int) (p_2:Int),ag [.ptr 1 0,.U 5] [.ptr q 0,.U p_2]∧cr [.abs (rkC (ae (Prod.fst (ef w_2 p_1))) m_2),.cells [.ptr 0 0],b,.cells [.U (Ck.id (Prod.fst a)),.list (en1 .u32 (Ck.pl (Prod.fst a))) .no,.list (en1 .u32 (Ck.ys (Prod.fst a))) .no,.I (Ck.un (Prod.fst a))]] q r (rkC (ae w) m)∧RO w m∧K (.bool (ofS w p_2 == 0))) (K (.bool false))) (K (.bool false))) (K (.bool false))) (K (.bool false))) (K (.bool false)))→AcK 11 [] [] (fun x _=>K x):=fun K h=>acW (T:=TW0) (L:=[]) (fun _=>0) Try.func11 (uw) (LOk.nil _ _ _ _ _) h
def aw1:List Ck:=(bW [] 4 3 9 [5,6]).1
def aw2:List Ck:=(ef aw1 5).1
def aw3:List Ck:=(ef aw2 6).1
theorem qW:RO [] 4:= .nil (by decide) (by decide)
theorem qj:RO aw1 4:=qW.open _ _ _
theorem pB:RO aw2 4:=qj.acc _
theorem tY:RO aw3 4:=pB.acc _
theorem oe:AcK 11 [] [] (fun x _=>x = .bool true):=by
 refine sV _ ⟨4,rfl,[],4,3,9,[5,6],.exact,rfl,rfl,qW,by decide,aw1,4,5,rfl,rfl,qj,aw2,4,6,rfl,rfl,pB,?_⟩
 rw[aI,if_pos (by decide),aI,if_pos (by decide),aI,if_pos (by decide),aI,if_pos (by decide),aI,if_pos (by decide)]
 refine⟨1,0,aw3,4,5,rfl,⟨rfl,rfl⟩,tY,?_⟩
 show PV.bool _=_
 congr 1
def tn (args:List PV) (K:PV→Prop):Prop:=ag args []∧K (.bool true)
theorem va:SpK 11 (.pure tn):=by
 rintro args K ⟨he,hk⟩
 have he:args=_:=he
 subst he
 exact jz ap (fun x h=>nomatch h) (.bool _) oe hk
def plS (b:Int) (n:Nat):List Int:=(List.range n).map fun(j:Nat)=>b+(j:Int)
theorem iG (b:Int) (n:Nat):plS b (n+1)=plS b n++[b+(n:Int)]:=by unfold plS; rw[List.range_succ,List.map_append]; rfl
theorem bn (b:Int) (n:Nat):(plS b n).length=n:=by simp[plS]
theorem fV {b:Int} {n k:Nat} (h:k<n):(plS b n).getD k 0=b+(k:Int):=by
 unfold plS; rw[List.getD_eq_getElem?_getD,List.getElem?_map,List.getElem?_range h]; rfl
theorem gh (b:Int) (n:Nat):(plS b n).Nodup:=by
 unfold plS
 refine List.Pairwise.map _ (fun a c h e=>h ?_) List.nodup_range
 have e:b+(a:Int)=b+(c:Int):=e
 omega
theorem jU {b x:Int} {n:Nat} (h:x∈plS b n):b≤x∧x<b+n:=by
 unfold plS at h
 obtain⟨j,hj,rfl⟩:=List.mem_map.1 h
 have:=List.mem_range.1 hj
 omega
theorem kG (c:Ck) (t:Int):aK Ck.id [c] t=(c.id == t):=by unfold aK; simp
theorem kg {c:Ck} {t:Int} (h:c.id=t):aN Ck.id [c] t=c:=by unfold aN; simp[h]
theorem drop_one {c:Ck} {t:Int} (h:c.id=t):ct Ck.id [c] t=[]:=by unfold ct; simp[h]
theorem rB {c d:Ck} (h:c.id=d.id):er Ck.id [c] d=[d]:=by unfold er; simp[h]
theorem mM {c:Ck} {p:Int} (h:p∈c.pl):ofS [c] p=c.id:=by
 unfold ofS
 have e:[c].findIdx (fun c=>ay c.pl p)=0:=by rw[List.findIdx_cons,cV.2 h]; rfl
 rw[e]; rfl
theorem oJ {b m id un:Int} {n:Nat} (h1:1≤n) (h8:n≤8) (hb:1≤b) (hb2:b≤1000) (hid:av id=true) (hm:1≤m):bW [] m id un (plS b n)=([⟨id,plS b n,[],un⟩],0):=by
 unfold bW
 have hr:(id::plS b n).all av=true:=List.all_eq_true.2 fun x hx=>by
  rcases List.mem_cons.1 hx with rfl|hx
  ·exact hid
  ·have:=jU hx
   unfold av
   exact decide_eq_true (by omega)
 rw[if_pos hr,bn,if_neg (by omega)]
 have hd:dO [] (plS b n)=false:=fa fun k hk=>by
  unfold dP
  rw[Bool.or_eq_false_iff]
  refine⟨eq_false_of_ne_true fun c=>?_,by simp[ofS]⟩
  have c:=cV.1 c
  rw[bn] at hk
  rw[fV hk] at c
  obtain⟨j,hj,e⟩:=List.mem_iff_getElem.1 c
  have hj2:j<k:=by rw[List.length_take] at hj; omega
  rw[List.getElem_take] at e
  have e2:(plS b n).getD j 0=b+(j:Int):=fV (by omega)
  rw[aH (by rw[bn]; omega),e] at e2
  omega
 rw[if_neg (fun h=>h.elim (fun h=>by simp[aK] at h) (fun h=>by rw[hd] at h; cases h)),if_neg (by simp; omega)]
 rfl
def TN0:Tab:=(4,.heap my)::(5,.heap jW)::(6,.heap m8)::(7,.heap kq)::(8,.read sa)::(9,.read qo)::(10,.heap lS)::(11,.pure tn)::TR0
theorem ko:TbK TN0:= .cons mX (.cons qu (.cons qh (.cons qP (.cons oU (.cons sv (.cons mQ (.cons va ja)))))))
theorem vj (ys no n:Int) (i:Nat):(by refine(?_:_→_→Prop) (IntKind.wrap .u32 (wI (1+(i:Int)))) [PV.int .u8 ys,.int .u8 no,.bool false,.I n,.E,.I i]; exact fun a b=>∀(R:Ex→List PV→aa→Prop),(br (decide ((i:Int)<n)) (fU [] [[PV.U a]] 1 4∧(List.all [.U a] PV.one=true∧[[PV.U a]]≠[])∧R .normal [.int .u8 ys,.int .u8 no,.bool false,.I n,.list [[PV.U a]] (.tok 0),.I (wI ((i:Int)+1))] [.tok]) (R (.exit 0) b []))→Holds (wpK TN0 [] (fun o=>match o.dst with|some 34=>1|some 94=>1|some 84=>1|some 100=>1|some 116=>1|some 123=>1|some 129=>1|_=>0) (aL [1,1,1,0,1,0] (ar Try.f3)) [] (aj [1,2,6,7,8,9] b) [] (fun ex e H=>R ex (List.map e [1,2,6,7,8,9]) H)):Prop):=fun R h=>hoE h
theorem uM (ys no n:Int) (es:List (List PV)) (i:Nat):(by refine(?_:_→_→Prop) (IntKind.wrap .u32 (wI (1+(i:Int)))) [PV.int .u8 ys,.int .u8 no,.bool false,.I n,.list es (.tok 0),.I i]; exact fun a b=>∀(R:Ex→List PV→aa→Prop),(br (decide ((i:Int)<n)) (fU es [[PV.U a]] 1 4∧(List.all [.U a] PV.one=true∧[[PV.U a]]≠[])∧R .normal [.int .u8 ys,.int .u8 no,.bool false,.I n,.list (es++[[PV.U a]]) (.tok 1),.I (wI ((i:Int)+1))] [.dead,.tok]) (R (.exit 0) b [.tok]))→Holds (wpK TN0 [] (fun o=>match o.dst with|some 34=>1|some 94=>1|some 84=>1|some 100=>1|some 116=>1|some 123=>1|some 129=>1|_=>0) (aL [1,1,1,0,1,0] (ar Try.f3)) [] (aj [1,2,6,7,8,9] b) [.tok] (fun ex e H=>R ex (List.map e [1,2,6,7,8,9]) H)):Prop):=fun R h=>hoE h
theorem vG (w:List Ck) (cs:List PV) (no n:Int) (off k cap:Nat) (e y:Int) (i:Nat):(by refine(?_:_→_→_→Prop) [Ob.cells cs,.abs (rkC (ae w) 1),.cells [.ptr 1 0]] [PV.int .u8 no,.bool false,.I n,.arr 0 off k cap,.ptr 2 0,.I e,.I y,.I i] (List.drop (off+Int.toNat (i:Int)*1) cs); exact fun a b c=>∀(R:Ex→List PV→aa→Prop),(br (decide ((i:Int)<y)) ((0≤(i:Int)∧(i:Int)<(k:Int))∧br (true && cN [.int .u32] 0 c) (∃(w_1:List Ck) (m:Int) (p:Int),ag [.U (cI c 0)] [.U p]∧bB a 1 (rkC (ae w_1) m)∧RO w_1 m∧R .normal [.int .u8 no,.bool false,.I n,.arr 0 off k cap,.ptr 2 0,.I e,.I y,.I (wI ((i:Int)+1))] [.cells cs,.abs (rkC (ae (Prod.fst (ef w_1 p))) m),.cells [.ptr 1 0]]) False) (R (.exit 2) b a))→Holds (wpK TN0 [] (fun o=>match o.dst with|some 34=>1|some 94=>1|some 84=>1|some 100=>1|some 116=>1|some 123=>1|some 129=>1|_=>0) (aL [1,1,1,1,1,1,1,0,1,0] (ar Try.f3)) [] (aj [2,6,7,8,10,11,12,13] b) a (fun ex e H=>R ex (List.map e [2,6,7,8,10,11,12,13]) H)):Prop):=fun R h=>hoE h
theorem ue (cs cs2:List PV) (n:Int) (off k cap off2 k2 cap2:Nat) (e y g:Int) (ys:List Int) (i:Nat):(by refine(?_:_→_→_→Prop) [PV.bool false,.I n,.arr 0 off k cap,.ptr 2 0,.I e,.I y,.ptr 4 0,.I g,.I i] (Ob.cells [.U 5,.arr 3 off2 k2 cap2,.list (en1 .u32 ys) .no,.I 3]) (List.drop (off+Int.toNat (i:Int)*1) cs); exact fun b c d=>by refine(?_:_→Prop) [Ob.cells cs,.abs (rkC [] 1),.cells [.ptr 1 0],.cells cs2,c]; exact fun a=>∀(R:Ex→List PV→aa→Prop),(br (decide ((i:Int)<n)) ((0≤(i:Int)∧(i:Int)<(k:Int))∧br (true && cN [.int .u32] 0 d) (∃(q:Nat) (r:Nat) (w:List Ck) (m:Int) (p:Int),ag [.ptr 2 0,.U (cI d 0)] [.ptr q 0,.U p]∧cr a q r (rkC (ae w) m)∧RO w m∧br (ofS w p != 0) (R .ret b a) (R .normal [.bool false,.I n,.arr 0 off k cap,.ptr 2 0,.I e,.I y,.ptr 4 0,.I g,.I (wI ((i:Int)+1))] a)) False) (R (.exit 4) b a))→Holds (wpK TN0 [] (fun o=>match o.dst with|some 34=>1|some 94=>1|some 84=>1|some 100=>1|some 116=>1|some 123=>1|some 129=>1|_=>0) (aL [1,1,1,1,1,1,1,1,1,0,1,0] (ar Try.f3)) [] (aj [6,7,8,10,11,12,14,15,16] b) [.cells cs,.abs (rkC (ae []) 1),.cells [.ptr 1 0],.cells cs2,c] (fun ex e H=>R ex (List.map e [6,7,8,10,11,12,14,15,16]) H)):Prop):=fun R h=>hoE h
def tq:LSp:=fun e H Q=>∃(ys no:Int) (n:Nat),1≤n∧n≤8∧ag (List.map e [1,2,6,7,8,9]) [.int .u8 ys,.int .u8 no,.bool false,.I n,.E,.I 0]∧aE H []∧
 ∀(off cap:Nat) (cs:List PV),aX cs off (plS 1 n)→n≤cap→Q (.exit 0) (aj [1,2,6,7,8,9] [.int .u8 ys,.int .u8 no,.bool false,.I n,.arr 0 off n cap,.I n]) [.cells cs]
theorem pA:∀ e H Q,tq e H Q→AwK Try.f3.ntmps (.loop (aL [1,1,1,0,1,0] (ar Try.f3))) Q e H:=by
 rintro e H Q ⟨ys,no,n,h1,hn,he,hH,hQ⟩
 have hH2:H=[]:=hH
 subst hH2
 refine AW.vw [1,2,6,7,8,9] (fun o r h=>by simp at h) ?_
 refine nu (f:=u1) (acc:=fun i=>plS 1 i) (I:=fun i=>i≤n) (m:=fun i=>n-i) (hn:=fun o=>match o.dst with|some 34=>1|some 94=>1|some 84=>1|some 100=>1|some 116=>1|some 123=>1|some 129=>1|_=>0) ap ko (.nil _ _ _ _ _) [1,2,6,7,8,9] (fun r i=>[.int .u8 ys,.int .u8 no,.bool false,.I n,r,.I i]) [] (0:Nat)
  mb (fun _ _ a _=>kM a) (fun es i k _ h=> .same (.int _ _) (.same (.int _ _) (.same (.bool _) (.same (.int _ _) (.row h (.same (.int _ _) .nil)))))) (fun i _ w hw=>by
   simp only[List.mem_cons,List.not_mem_nil,or_false] at hw
   rcases hw with rfl|rfl|rfl|rfl|rfl|rfl
   ·exact .int _ _
   ·exact .int _ _
   ·exact .bool _
   ·exact .int _ _
   ·exact bh NT.exact (by simp)
   ·exact .int _ _) (Nat.zero_le _) (by rfl) he rfl ?_ ?_
 ·intro i hi ha
  have hi':i≤n:=hi
  refine vj ys no n  i _ ?_
  simp only[aI,dt]
  by_cases h:i<n
  ·rw[if_pos (by omega)]
   have hs:=iG 1 i
   have e0:u1 (IntKind.wrap .u32 (wI (1+(i:Int))))=u1 (1+(i:Int)):=by rw[cq (by omega) (by omega),wrap_u32 (by omega) (by omega)]
   have e1:[[PV.U (IntKind.wrap .u32 (wI (1+(i:Int))))]]=[u1 (1+(i:Int))]:=by rw[← e0]; rfl
   rw[e1]
   refine⟨ic (l:=[]) (by_:=4) cK (1+(i:Int)) (by show(0+1)*4≤_; decide),one_row kA (1+(i:Int)),?_⟩
   exact jy (i+1) (show n-(i+1)<n-i by omega) h hs (mT _ _) [.tok] 0 rfl rfl (by simp) (by rw[ha]; rw[aW h (by omega)]; rfl)
  ·rw[if_neg (by omega)]
   have:i=n:=by omega
   subst this
   have:=congrArg List.length ha
   rw[bn] at this
   simp at this
   omega
 ·intro i hi ha
  have hi':i≤n:=hi
  refine uM ys no n ((plS 1 i).map u1) i _ ?_
  simp only[aI,dt]
  by_cases h:i<n
  ·rw[if_pos (by omega)]
   have hs:=iG 1 i
   have e0:u1 (IntKind.wrap .u32 (wI (1+(i:Int))))=u1 (1+(i:Int)):=by rw[cq (by omega) (by omega),wrap_u32 (by omega) (by omega)]
   have e1:[[PV.U (IntKind.wrap .u32 (wI (1+(i:Int))))]]=[u1 (1+(i:Int))]:=by rw[← e0]; rfl
   rw[e1]
   refine⟨ic cK _ _ (by rw[bn]; omega),one_row kA (1+(i:Int)),?_⟩
   exact jy (i+1) (show n-(i+1)<n-i by omega) h hs (mT _ _) [.dead,.tok] 1 rfl rfl (by simp) (by  rw[aW h (by omega)]; rw[List.map_append]; rfl)
  ·rw[if_neg (by omega)]
   have:i=n:=by omega
   subst this
   refine lY ⟨0,8,.u32,plS 1 i,ha,rfl,rfl,Nat.zero_le _,fun q hq=>absurd hq (Nat.not_lt_zero _),fun off cap A B hA hB hoff hcap=>⟨[.int .u8 ys,.int .u8 no,.bool false,.I i,.arr 0 off (plS 1 i).length cap,.I i],[.cells (A++((plS 1 i).map (PV.int .u32)++B))],.cons (.int _ _) (.cons (.int _ _) (.cons (.bool _) (.cons (.int _ _) (.here (.cons (.int _ _) .nil))))),⟨rfl,rfl,fun j b hj hb=>?_⟩,?_⟩⟩
   ·have k1:=(List.getElem?_eq_some_iff.1 hb).1
    simp at k1
    omega
   ·have hq:=hQ off cap _ ⟨A,B,hA,hB,hoff,rfl⟩ (by rw[bn] at hcap; exact hcap)
    rw[bn]
    exact hq
def wN (n i:Nat):List Ck:=[⟨5,plS 1 n,plS 1 i,3⟩]
theorem qX (n:Nat) {i:Nat} (h:i≤n):∀ x∈plS 1 i,x∈plS 1 n:=fun x hx=>by
 unfold plS at hx ⊢
 obtain⟨j,hj,rfl⟩:=List.mem_map.1 hx
 exact List.mem_map.2 ⟨j,List.mem_range.2 (by have:=List.mem_range.1 hj; omega),rfl⟩
theorem kJ {n:Nat} {p:Int} (h1:1≤p) (h2:p≤n):p∈plS 1 n:=List.mem_map.2 ⟨(p-1).toNat,List.mem_range.2 (by omega),by omega⟩
theorem tC {n i:Nat} (h1:1≤n) (h8:n≤8) (hi:i≤n):RO (wN n i) 1:=by
 refine⟨List.pairwise_singleton _ _,(show(1:Int)≤1 by decide),(by decide),fun c hc=>?_⟩
 rcases List.mem_singleton.1 hc with rfl
 exact⟨(show av 5=true by decide),by rw[bn]; exact h1,by rw[bn]; exact h8,gh _ _,gh _ _,qX n hi⟩
theorem vu {n i:Nat} (hi:i+1<n):(ef (wN n i) (1+(i:Int))).1=wN n (i+1):=by
 obtain⟨c,hc⟩:∃ c:Ck,c=⟨5,plS 1 n,plS 1 i,3⟩:=⟨_,rfl⟩
 have hp:(1+(i:Int))∈plS 1 n:=kJ (by omega) (by omega)
 have ho:ofS [c] (1+(i:Int))=5:=by rw[mM (by rw[hc]; exact hp),hc]
 have hg:fb [c] (1+(i:Int))=c:=by unfold fb; rw[ho]; exact kg (by rw[hc])
 have hn:l7 [c] (1+(i:Int))=⟨5,plS 1 n,plS 1 (i+1),3⟩:=by unfold l7; rw[hg,hc,iG]
 have c1:c.ys=plS 1 i:=by rw[hc]
 have c2:c.pl=plS 1 n:=by rw[hc]
 have c3:c.id=5:=by rw[hc]
 unfold wN
 rw[← hc]
 unfold ef
 rw[ho,hg,hn,if_pos (by rw[kG,c3]; rfl),c1,c2,c3,if_neg (fun k=>by have:=jU (cV.1 k); omega),if_neg (by simp only[bn]; omega)]
 exact rB c3
def vJ:LSp:=fun e H Q=>∃(cs:List PV) (no:Int) (n off cap y:Nat) (e0:Int),1≤n∧n≤8∧y<n∧aX cs off (plS 1 n)∧ag (List.map e [2,6,7,8,10,11,12,13]) [.int .u8 no,.bool false,.I n,.arr 0 off n cap,.ptr 2 0,.I e0,.I y,.I 0]∧aE H [.cells cs,.abs (rkC (ae (wN n 0)) 1),.cells [.ptr 1 0]]∧
 Q (.exit 2) (aj [2,6,7,8,10,11,12,13] [.int .u8 no,.bool false,.I n,.arr 0 off n cap,.ptr 2 0,.I e0,.I y,.I y]) [.cells cs,.abs (rkC (ae (wN n y)) 1),.cells [.ptr 1 0]]
theorem sb:∀ e H Q,vJ e H Q→AwK Try.f3.ntmps (.loop (aL [1,1,1,1,1,1,1,0,1,0] (ar Try.f3))) Q e H:=by
 rintro e H Q ⟨cs,no,n,off,cap,y,e0,h1,h8,hy,hr,he,hH,hQ⟩
 refine aZ (hn:=fun o=>match o.dst with|some 34=>1|some 94=>1|some 84=>1|some 100=>1|some 116=>1|some 123=>1|some 129=>1|_=>0) ap ko (.nil _ _ _ _ _) (σ:=Nat) [2,6,7,8,10,11,12,13] (fun i=>i≤y) (fun i=>[.int .u8 no,.bool false,.I n,.arr 0 off n cap,.ptr 2 0,.I e0,.I y,.I i]) (fun i=>[.cells cs,.abs (rkC (ae (wN n i)) 1),.cells [.ptr 1 0]]) (fun i=>y-i) 0 (Nat.zero_le _) he hH ?_
 intro i hi
 have hi':i≤y:=hi
 refine vG (wN n i) cs no n off n cap e0 y i _ ?_
 simp only[aI,dt,aC]
 by_cases h:i<y
 ·rw[if_pos (by omega)]
  obtain⟨k1,k2⟩:=hr.at (i:=i) (by rw[bn]; omega)
  rw[fV (by omega)] at k2
  refine⟨⟨by omega,by omega⟩,?_⟩
  rw[if_pos (by rw[k1]; rfl),k2]
  refine⟨wN n i,1,_,rfl,rfl,tC h1 h8 (by omega),?_⟩
  rw[vu (by omega)]
  exact⟨i+1,(show y-(i+1)<y-i by omega),h,by rw[aW h (by omega)],[],rfl,Nat.le_refl _,.inl rfl⟩
 ·rw[if_neg (by omega)]
  have:i=y:=by omega
  subst this
  exact hQ
def tb:LSp:=fun e H Q=>∃(cs cs2:List PV) (n off cap off2 cap2:Nat) (e0 y g:Int) (ys:List Int),n≤8∧aX cs off (plS 1 n)∧ag (List.map e [6,7,8,10,11,12,14,15,16]) [.bool false,.I n,.arr 0 off n cap,.ptr 2 0,.I e0,.I y,.ptr 4 0,.I g,.I 0]∧aE H [.cells cs,.abs (rkC (ae []) 1),.cells [.ptr 1 0],.cells cs2,.cells [.U 5,.arr 3 off2 n cap2,.list (en1 .u32 ys) .no,.I 3]]∧
 Q (.exit 4) (aj [6,7,8,10,11,12,14,15,16] [.bool false,.I n,.arr 0 off n cap,.ptr 2 0,.I e0,.I y,.ptr 4 0,.I g,.I n]) [.cells cs,.abs (rkC (ae []) 1),.cells [.ptr 1 0],.cells cs2,.cells [.U 5,.arr 3 off2 n cap2,.list (en1 .u32 ys) .no,.I 3]]
theorem qH:∀ e H Q,tb e H Q→AwK Try.f3.ntmps (.loop (aL [1,1,1,1,1,1,1,1,1,0,1,0] (ar Try.f3))) Q e H:=by
 rintro e H Q ⟨cs,cs2,n,off,cap,off2,cap2,e0,y,g,ys,h8,hr,he,hH,hQ⟩
 refine aZ (hn:=fun o=>match o.dst with|some 34=>1|some 94=>1|some 84=>1|some 100=>1|some 116=>1|some 123=>1|some 129=>1|_=>0) ap ko (.nil _ _ _ _ _) (σ:=Nat) [6,7,8,10,11,12,14,15,16] (fun i=>i≤n) (fun i=>[.bool false,.I n,.arr 0 off n cap,.ptr 2 0,.I e0,.I y,.ptr 4 0,.I g,.I i]) (fun _=>[.cells cs,.abs (rkC (ae []) 1),.cells [.ptr 1 0],.cells cs2,.cells [.U 5,.arr 3 off2 n cap2,.list (en1 .u32 ys) .no,.I 3]]) (fun i=>n-i) 0 (Nat.zero_le _) he hH ?_
 intro i hi
 have hi':i≤n:=hi
 refine ue cs cs2 n off n cap off2 n cap2 e0 y g ys i _ ?_
 simp only[aI,dt,aC]
 by_cases h:i<n
 ·rw[if_pos (by omega)]
  obtain⟨k1,k2⟩:=hr.at (i:=i) (by rw[bn]; omega)
  refine⟨⟨by omega,by omega⟩,?_⟩
  rw[if_pos (by rw[k1]; rfl)]
  refine⟨2,1,[],1,_,rfl,⟨rfl,rfl⟩,.nil (by decide) (by decide),?_⟩
  rw[if_neg (by simp[ofS])]
  exact⟨i+1,(show n-(i+1)<n-i by omega),h,by rw[aW h (by omega)],[],rfl,Nat.le_refl _,.inl rfl⟩
 ·rw[if_neg (by omega)]
  have:i=n:=by omega
  subst this
  exact hQ
theorem uF (many ys no:Int):∀(K:PV→Prop),(∃(ys_1:Int) (no_1:Int) (n:Nat),1≤n∧n≤8∧ag [.int .u8 ys,.int .u8 no,.bool false,.I (wI (1+Int.tmod (wI many) 8)),.E,.I 0] [.int .u8 ys_1,.int .u8 no_1,.bool false,.I n,.E,.I 0]∧aE [] []∧∀(off cap:Nat),∀(cs:List PV),aX cs off (plS 1 n)→n≤cap→∃(n_1:Int),by refine(?_:_→Prop) [Ob.cells cs,.abs (rkC [] (mxI 0 n_1)),.cells [.ptr 1 0]]; exact fun C=>ag [.I 1] [.I n_1]∧∃(w:List Ck) (m:Int) (id:Int) (un:Int) (o:Nat) (off_1:Nat) (cap_1:Nat) (pl:List Int) (cs_1:List PV),ag [.U 5,.I 3,.arr 0 off n cap] [.U id,.I un,.arr o off_1 pl.length cap_1]∧bB C 1 (rkC (ae w) m)∧RO w m∧fe C o cs_1∧aX cs_1 off_1 pl∧2≠o∧pl≠[]∧pl.length≤cap_1∧pl.length≤999999∧br ((n:Int) != 0) (∃(cs_2:List PV) (no:Int) (n_2:Nat) (off_2:Nat) (cap_2:Nat) (y:Nat) (e0:Int),by refine(?_:_→_→Prop) (List.drop (off_2+Int.toNat (Int.tmod (wI no) (n_2:Int))*1) cs_2) (PV.arr 0 off_2 n_2 cap_2); exact fun A B=>1≤n_2∧n_2≤8∧y<n_2∧aX cs_2 off_2 (plS 1 n_2)∧ag [.int .u8 no_1,.bool false,.I n,.arr 0 off n cap,.ptr 2 0,.I (Prod.snd (bW w m id un pl)),.I (Int.tmod (wI ys_1) (n:Int)),.I 0] [.int .u8 no,.bool false,.I n_2,B,.ptr 2 0,.I e0,.I y,.I 0]∧aE [.cells cs,.abs (rkC (ae (Prod.fst (bW w m id un pl))) m),.cells [.ptr 1 0]] [.cells cs_2,.abs (rkC [{ id:=5,v:={ id:=5,pl:=plS 1 n_2,ys:=[],un:=3 } }] 1),.cells [.ptr 1 0]]∧br ((n_2:Int) != 0) ((0≤Int.tmod (wI no) (n_2:Int)∧Int.tmod (wI no) (n_2:Int)<(n_2:Int))∧br (true && cN [.int .u32] 0 A) (∃(w:List Ck) (m:Int) (p:Int),by refine(?_:_→Prop) (aN Ck.id w (ofS w p)); exact fun z=>ag [.U (cI A 0)] [.U p]∧bB [.cells cs_2,.abs (rkC [{ id:=5,v:={ id:=5,pl:=plS 1 n_2,ys:=plS 1 y,un:=3 } }] 1),.cells [.ptr 1 0]] 1 (rkC (ae w) m)∧RO w m∧aK Ck.id w (ofS w p)=true∧∀(off cap:Nat),∀(cs:List PV),aX cs off (Ck.pl z)→List.length (Ck.pl z)≤cap→∃(cs_3:List PV) (cs2:List PV) (n:Nat) (off_3:Nat) (cap_3:Nat) (off2:Nat) (cap2:Nat) (e0_1:Int) (y_1:Int) (g:Int) (ys:List Int),by refine(?_:_→_→_→_→Prop) [PV.U 5,.arr 3 off2 n cap2,.list (en1 .u32 ys) .no,.I 3] (Ob.cells (over cs2 (off2+0) [.U 99])) (over cs_3 (off_3+0) [.U 50]) (PV.arr 0 off_3 n cap_3); exact fun i j s u=>by refine(?_:_→_→Prop) [Ob.cells cs_3,.abs (rkC [] 1),.cells [.ptr 1 0],.cells cs2,.cells i] [Ob.cells cs_3,.abs (rkC [] 1),.cells [.ptr 1 0],j,.cells i]; exact fun k l=>n≤8∧aX cs_3 off_3 (plS 1 n)∧ag [.bool false,.I n_2,B,.ptr 2 0,.I e0,.I y,.ptr 4 0,.I 0,.I 0] [.bool false,.I n,u,.ptr 2 0,.I e0_1,.I y_1,.ptr 4 0,.I g,.I 0]∧aE [.cells cs_2,.abs (rkC (ae (ct Ck.id w (ofS w p))) m),.cells [.ptr 1 0],.cells cs,.cells [.U (Ck.id z),.arr 3 off (List.length (Ck.pl z)) cap,.list (en1 .u32 (Ck.ys z)) .no,.I (Ck.un z)]] k∧br (((↑(List.length (en1 .u32 ys)):Int) != y_1) == false) (∃(o:Nat) (off:Nat) (cap:Nat) (c:Ck) (cs:List PV),ag [.agg i] [.agg [.U c.id,.arr o off c.pl.length cap,.list (en1 .u32 c.ys) .no,.I c.un]]∧fe k o cs∧aX cs off c.pl∧c.pl≠[]∧Ck.Sm c∧br (((↑(List.length (List.map u1 (lf c))):Int) != wI ((n:Int)-y_1)) == false) (br ((n:Int) != (n:Int)) (K (.bool false)) ((iI 0≤0∧0<(n:Int))∧br (1 == 1 && List.all [.U 99] PV.one && decide (off2+0+1≤cs2.length) && cA 0 3 (off2+0) 1) (∃(w:List Ck) (m:Int) (id:Int) (un:Int) (o:Nat) (off:Nat) (cap:Nat) (pl:List Int) (cs:List PV),by refine(?_:_→Prop) (bW w m id un pl); exact fun h=>by refine(?_:_→Prop) (Ob.abs (rkC (ae (Prod.fst h)) m)); exact fun f=>ag [.U 6,.I 3,u] [.U id,.I un,.arr o off pl.length cap]∧bB l 1 (rkC (ae w) m)∧RO w m∧fe l o cs∧aX cs off pl∧2≠o∧pl≠[]∧pl.length≤cap∧pl.length≤999999∧(iI 0≤0∧0<(n:Int))∧br (1 == 1 && List.all [.U 50] PV.one && decide (off_3+0+1≤cs_3.length) && cA 0 0 (off_3+0) 1) (∃(q:Nat) (r:Nat) (w_1:List Ck) (m_1:Int) (t:Int),by refine(?_:_→Prop) (aN Ck.id w_1 t); exact fun d=>by refine(?_:_→Prop) (List.length (Ck.pl d)); exact fun e=>ag [.ptr 2 0,.U 6] [.ptr q 0,.U t]∧cr [.cells s,f,.cells [.ptr 1 0],j,.cells i] q r (rkC (ae w_1) m_1)∧RO w_1 m_1∧aK Ck.id w_1 t=true∧∀(off cap:Nat),∀(cs:List PV),by refine(?_:_→_→Prop) [Ob.cells s,f,.cells [.ptr 1 0],j,.cells i,.cells (over cs (off+0) [.U 98]),.cells [.U (Ck.id d),.arr 5 off e cap,.list (en1 .u32 (Ck.ys d)) .no,.I (Ck.un d)]] (List.drop (off+0) cs); exact fun a b=>aX cs off (Ck.pl d)→List.length (Ck.pl d)≤cap→br (((↑e:Int) != (n:Int)) == false) ((iI 0≤0∧0<(↑e:Int))∧br (true && cN [.int .u32] 0 b) (br (cI b 0 != 1) (K (.bool false)) ((iI 0≤0∧0<(↑e:Int))∧br (1 == 1 && List.all [.U 98] PV.one && decide (off+0+1≤cs.length) && cA 0 5 (off+0) 1) (br ((e0_1 == 0) == true) (br ((g == 0) == true) (br ((Prod.snd h == 0) == true) (∃(q:Nat) (r:Nat) (w_2:List Ck) (m_2:Int) (p:Int),ag [.ptr 2 0,.U 1] [.ptr q 0,.U p]∧cr a q r (rkC (ae w_2) m_2)∧RO w_2 m_2∧br ((ofS w_2 p == 6) == true) (∃(q:Nat) (r:Nat) (w_3:List Ck) (m_3:Int) (p:Int),ag [.ptr 2 0,.U 98] [.ptr q 0,.U p]∧cr a q r (rkC (ae w_3) m_3)∧RO w_3 m_3∧br ((ofS w_3 p == 0) == true) (ag [] []∧K (.bool true)) (K (.bool false))) (K (.bool false))) (K (.bool false))) (K (.bool false))) (K (.bool false))) False)) False) (K (.bool false))) False) False)) (K (.bool false))) (K (.bool false))) False) False) False)→AcK 3 [.int .u8 many,.int .u8 ys,.int .u8 no] [] (fun x _=>K x):=fun K h=>acW (T:=TN0) (L:=[([1,1,1,0,1,0],tq),([1,1,1,1,1,1,1,0,1,0],vJ),([1,1,1,1,1,1,1,1,1,0,1,0],tb)]) (fun o=>match o.dst with|some 34=>1|some 94=>1|some 84=>1|some 100=>1|some 116=>1|some 123=>1|some 129=>1|_=>0) Try.func3 (ko) (.cons suE pA (.cons suE sb (.cons suE qH (.nil _ _ _ _ _)))) h
theorem uL {c:Ck} {p:Int} (h:p∉c.pl):ofS [c] p=0:=by
 unfold ofS
 have e:[c].findIdx (fun c=>ay c.pl p)=1:=by rw[List.findIdx_cons,eq_false_of_ne_true (fun k=>h (cV.1 k))]; rfl
 rw[e]; rfl
theorem p6:∀ n:Fin 9,∀ y:Fin 9,((plS 1 n.1).filter (fun v=> !ay (plS 1 y.1) v)).length=n.1-y.1:=by decide
theorem s8 {n y:Nat} (h8:n≤8) (hy:y<n):(lf ⟨5,plS 1 n,plS 1 y,3⟩).length=n-y:=p6 ⟨n,by omega⟩ ⟨y,by omega⟩
theorem iw {a:Int} {n:Nat} (ha:0≤a∧a≤255) (hn:1≤n):∃ k:Nat,Int.tmod (wI a) n=(k:Int)∧k<n:=by
 rw[cq (n:=a) (by omega) (by omega)]
 have h0:0≤Int.tmod a n:=Int.tmod_nonneg _ ha.1
 have h2:Int.tmod a n<n:=Int.tmod_lt_of_pos _ (by omega)
 exact⟨(Int.tmod a n).toNat,by omega,by omega⟩
theorem ug (many ys no:Int) (hm:0≤many∧many≤255) (hy:0≤ys∧ys≤255) (hno:0≤no∧no≤255):AcK 3 [.int .u8 many,.int .u8 ys,.int .u8 no] [] (fun x _=>x = .bool true):=by
 refine uF many ys no _ ?_
 simp only[aI]
 obtain⟨n,hn,h1,h8⟩:∃ n:Nat,wI (1+Int.tmod (wI many) 8)=(n:Int)∧1≤n∧n≤8:=by
  obtain⟨k,e,hk⟩:=iw (n:=8) hm (by decide)
  have e:Int.tmod (wI many) 8=(k:Int):=e
  rw[e,cq (by omega) (by omega)]
  exact⟨1+k,by omega,by omega,by omega⟩
 obtain⟨y,ey,hyn⟩:=iw hy h1
 obtain⟨k,ek,hkn⟩:=iw hno h1
 have hpl:=bn 1 n
 have hne:plS 1 n≠[]:=fun e=>by rw[e] at hpl; simp at hpl; omega
 have ho1:=oJ (b:=1) (m:=mxI 0 1) (id:=5) (un:=3) h1 h8 (by decide) (by decide) (by decide) (by decide)
 have ho2:=oJ (b:=1) (m:=1) (id:=6) (un:=3) h1 h8 (by decide) (by decide) (by decide) (by decide)
 have nz:((n:Int) != 0)=true:=by simp; omega
 refine⟨ys,no,n,h1,h8,by rw[hn]; rfl,rfl,fun off cap cs hr hcap=>⟨1,rfl,[],mxI 0 1,5,3,0,off,cap,plS 1 n,cs,by show _=_; rw[hpl],rfl,.nil (by decide) (by decide),rfl,hr,by decide,hne,by rw[hpl]; exact hcap,by rw[hpl]; omega,?_⟩⟩
 rw[ho1,if_pos nz]
 refine⟨cs,no,n,off,cap,y,0,h1,h8,hyn,hr,by show _=_; rw[ey],rfl,?_⟩
 rw[if_pos nz,ek,aC]
 obtain⟨k1,k2⟩:=hr.at (i:=k) (by rw[hpl]; exact hkn)
 rw[fV hkn] at k2
 refine⟨⟨by omega,by omega⟩,?_⟩
 rw[if_pos (by rw[k1]; rfl),k2]
 obtain⟨c,hc⟩:∃ c:Ck,c=⟨5,plS 1 n,plS 1 y,3⟩:=⟨_,rfl⟩
 have hof:ofS (wN n y) (1+(k:Int))=5:=mM (c:=⟨5,plS 1 n,plS 1 y,3⟩) (kJ (by omega) (by omega))
 have hget:aN Ck.id (wN n y) 5=⟨5,plS 1 n,plS 1 y,3⟩:=kg rfl
 have hdrop:ct Ck.id (wN n y) 5=[]:=drop_one rfl
 refine⟨wN n y,1,1+(k:Int),rfl,rfl,tC h1 h8 (by omega),?_⟩
 rw[hof,hget,hdrop]
 refine⟨by unfold wN; rw[kG]; rfl,fun off2 cap2 cs2 hr2 hcap2=>?_⟩
 have hr2:aX cs2 off2 (plS 1 n):=hr2
 have hcap2:(plS 1 n).length≤cap2:=hcap2
 rw[hpl] at hcap2
 refine⟨cs,cs2,n,off,cap,off2,cap2,0,y,0,plS 1 y,h8,hr,rfl,by show _=_; simp only[hpl]; rfl,?_⟩
 rw[if_pos (by rw[bE,bn]; simp)]
 refine⟨3,off2,cap2,⟨5,plS 1 n,plS 1 y,3⟩,cs2,by show _=_; simp only[hpl],rfl,hr2,hne,⟨by show(plS 1 n).length≤_; rw[hpl]; omega,by show(plS 1 y).length≤_; rw[bn]; omega⟩,?_⟩
 rw[if_pos (by rw[List.length_map,s8 h8 hyn,cq (by omega) (by omega)]; simp; omega),if_neg (by simp)]
 refine⟨⟨by decide,by omega⟩,?_⟩
 obtain⟨p1,p2,p3⟩:=hr2.put (i:=0) (by rw[hpl]; omega)
 have p2:off2+0+1≤cs2.length:=p2
 rw[if_pos (by rw[decide_eq_true p2]; rfl)]
 refine⟨[],1,6,3,0,off,cap,plS 1 n,cs,by show _=_; rw[hpl],rfl,.nil (by decide) (by decide),rfl,hr,by decide,hne,by rw[hpl]; exact hcap,by rw[hpl]; omega,⟨by decide,by omega⟩,?_⟩
 obtain⟨q1,q2,q3⟩:=hr.put (i:=0) (by rw[hpl]; omega)
 have q2:off+0+1≤cs.length:=q2
 rw[if_pos (by rw[decide_eq_true q2]; rfl),ho2]
 have ro:RO [⟨6,plS 1 n,[],3⟩] 1:=by
  refine⟨List.pairwise_singleton _ _,(show(1:Int)≤1 by decide),(by decide),fun c hc=>?_⟩
  rcases List.mem_singleton.1 hc with rfl
  exact⟨(show av 6=true by decide),by rw[hpl]; exact h1,by rw[hpl]; exact h8,gh _ _,List.nodup_nil,fun _ h=>nomatch h⟩
 have hget6:aN Ck.id [⟨6,plS 1 n,[],3⟩] 6=⟨6,plS 1 n,[],3⟩:=kg rfl
 refine⟨2,1,[⟨6,plS 1 n,[],3⟩],1,6,rfl,⟨rfl,rfl⟩,ro,by rw[kG]; rfl,?_⟩
 rw[hget6]
 intro off3 cap3 cs3 hr3 hcap3
 have hr3:aX cs3 off3 (plS 1 n):=hr3
 obtain⟨s1,s2⟩:=hr3.at (i:=0) (by rw[hpl]; omega)
 have s1:cN [CK.int .u32] 0 (cs3.drop (off3+0))=true:=s1
 have s2:cI (cs3.drop (off3+0)) 0=1:=by rw[fV (by omega)] at s2; exact s2
 obtain⟨t1,t2,t3⟩:=hr3.put (i:=0) (by rw[hpl]; omega)
 have t2:off3+0+1≤cs3.length:=t2
 rw[hpl,if_pos (by simp)]
 refine⟨⟨by decide,by omega⟩,?_⟩
 rw[if_pos (by rw[s1]; rfl),s2,if_neg (by decide)]
 refine⟨⟨by decide,by omega⟩,?_⟩
 rw[if_pos (by rw[decide_eq_true t2]; rfl),if_pos (by rfl),if_pos (by rfl),if_pos (by rfl)]
 refine⟨2,1,[⟨6,plS 1 n,[],3⟩],1,1,rfl,⟨rfl,rfl⟩,ro,?_⟩
 rw[mM (c:=⟨6,plS 1 n,[],3⟩) (kJ (by omega) (by omega)),if_pos (by rfl)]
 refine⟨2,1,[⟨6,plS 1 n,[],3⟩],1,98,rfl,⟨rfl,rfl⟩,ro,?_⟩
 rw[uL (c:=⟨6,plS 1 n,[],3⟩) (fun h=>by have:=jU h; omega),if_pos (by rfl)]
 exact⟨rfl,trivial⟩
set_option maxRecDepth 10000
theorem u5:Try.prog.underlying 5=some (.int .u8):=by kernel_rfl
theorem sg (xs:List PV) (h:kw Try.prog 6 Try.f3.params.toList xs):AcK 3 xs [] (fun x _=>x = .bool true):=by
 rw[Try.params3] at h
 obtain⟨x,r,rfl,h1,y,r2,rfl,h2,z,r3,rfl,h3,h4⟩:=h
 obtain rfl:=mK h4
 obtain⟨m,rfl,hm⟩:=jS u5 h1
 obtain⟨y,rfl,hy⟩:=jS u5 h2
 obtain⟨k,rfl,hk⟩:=jS u5 h3
 exact ug m y k hm hy hk
end Go.Proofs.Ytpnmfkpboinoaaa
