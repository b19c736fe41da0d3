/-
  What the program's and the document's functions do, over plain values, part 4.
-/
import Derived.Test.YtpnmfkpboinoaaaA3
import Derived.Test.YtpnmfkpboinoaaaProg
namespace Go.Proofs.Ytpnmfkpboinoaaa
open Go Go.AM Go.Proofs
def gl:ai:=fun _=>none

abbrev SpK:=rU Try.prog gl
abbrev TbK:=aV Try.prog gl
abbrev AcK:=af Try.prog gl
abbrev AwK [Dfr]:=AW Try.prog gl
abbrev wpK:=wpc br Try.prog gl
theorem ap:az gl:=nN
abbrev wI (n:Int):Int:=IntKind.wrap .i64 n
theorem cq {n:Int} (h0: -9223372036854775808≤n) (h1:n≤9223372036854775807):wI n=n:=wrap_i64 h0 h1
theorem aW {i n:Nat} (h:i<n) (hn:(n:Int)≤4611686018427387904):wI ((i:Int)+1)=((i+1:Nat):Int):=by
 rw[cq (by omega) (by omega)]; rfl
theorem fW {α:Type} {l:List α} {i:Nat} {d:α} (h:i<l.length):l.getD i d∈l:=by
 rw[List.getD_eq_getElem?_getD,List.getElem?_eq_getElem h]; exact List.getElem_mem h
theorem qV (a:Int)  (K:PV→Prop) (h:K (.bool (a != a))):AcK 36 [.U a] [] (fun x _=>K x):=
 acW (T:=[]) (L:=[]) (fun _=>0) Try.func36 (aV.nil _ _) (LOk.nil _ _ _ _ _) h
theorem qp (a:Int)  (K:PV→Prop) (h:br (decide (a≥1) == true) (K (.bool (decide (a≤2147483647)))) (K (.bool false))):AcK 13 [.U a] [] (fun x _=>K x):=
 acW (T:=[]) (L:=[]) (fun _=>0) Try.func13 (aV.nil _ _) (LOk.nil _ _ _ _ _) h
def kC (args:List PV) (K:PV→Prop):Prop:=match args with
 | [.int .u32 _]=>K (.bool false)
 | _=>False
theorem po:SpK 36 (.pure kC):=by
 intro args K h
 unfold kC at h
 split at h
 ·rename_i a
  refine jz ap (by simp[kL]) (.bool _) (qV a (fun x=>x = .bool false) ?_) h
  simp
 ·exact h.elim
def av (a:Int):Bool:=decide (1≤a∧a≤2147483647)
def fT (args:List PV) (K:PV→Prop):Prop:=match args with
 | [.int .u32 a]=>K (.bool (av a))
 | _=>False
theorem iR:SpK 13 (.pure fT):=by
 intro args K h
 unfold fT at h
 split at h
 ·rename_i a
  refine jz ap (by simp[kL]) (.bool _) (qp a (fun x=>x = .bool (av a)) ?_) h
  simp only[aI,bt,dt]
  unfold av
  by_cases c:a≥1
  ·rw[if_pos c]; congr 1; apply decide_eq_decide.2; omega
  ·rw[if_neg c]; congr 1; symm; apply decide_eq_false; omega
 ·exact h.elim
def TK0:Tab:=[(36,.pure kC),(13,.pure fT)]
theorem o9:TbK TK0:= .cons po (.cons iR (.nil _ _))
theorem r6 (a b:Int)  (K:PV→Prop) (h:br (decide (a<b)) (K (.I (-1))) (br (decide (a>b)) (K (.I 1)) (K (.I 0)))):AcK 33 [.U a,.U b] [] (fun x _=>K x):=
 acW (T:=TK0) (L:=[]) (fun _=>0) Try.func33 (o9) (LOk.nil _ _ _ _ _) h
def gw (a b:Int):Int:=if a<b then -1 else if a>b then 1 else 0
def mC (args:List PV) (K:PV→Prop):Prop:=match args with
 | [.int .u32 a,.int .u32 b]=>K (.int .i64 (gw a b))
 | _=>False
theorem rG:SpK 33 (.pure mC):=by
 intro args K h
 unfold mC at h
 split at h
 ·rename_i a b
  refine jz ap (by simp[kL]) (.int _ _) (r6 a b (fun x=>x = .I (gw a b)) ?_) h
  simp only[aI,dt]
  unfold gw
  by_cases c:a<b
  ·rw[if_pos c,if_pos c]
  rw[if_neg c,if_neg c]
  by_cases d:a>b
  ·rw[if_pos d,if_pos d]
  ·rw[if_neg d,if_neg d]
 ·exact h.elim
def TK:Tab:=(33,.pure mC)::TK0
theorem tL:TbK TK:= .cons rG o9
structure Rw (G:Type) where
 id:Int
 v:G
instance rwInh {G:Type} [Inhabited G]:Inhabited (Rw G):=⟨⟨0,default⟩⟩
section
variable {G:Type}
structure Ok (l:List (Rw G)) (most:Int):Prop where
 rise:l.Pairwise fun a b=>a.id<b.id
 full:(l.length:Int)≤most
 big:most≤1000000
theorem Ok.len {l:List (Rw G)} {most:Int} (h:Ok l most):l.length≤1000000:=by have:=h.full; have:=h.big; omega
end
section
variable {G:Type} [Inhabited G]
structure Lb (l:List (Rw G)) (t:Int) (p:Nat):Prop where
 le:p≤l.length
 lo:∀ k,k<p→(l.getD k default).id<t
 hi:∀ k,p≤k→k<l.length→t≤(l.getD k default).id
def oG (l:List (Rw G)) (t:Int) (p:Nat):Bool:=decide (p<l.length∧(l.getD p default).id=t)
def lbp (l:List (Rw G)) (t:Int):Nat:=l.findIdx fun r=>decide (t≤r.id)
def has (l:List (Rw G)) (t:Int):Bool:=oG l t (lbp l t)
theorem Ok.lb {l:List (Rw G)} {most:Int} (h:Ok l most) (t:Int):Lb l t (lbp l t):=by
 refine⟨List.findIdx_le_length,fun k hk=>?_,fun k hk hl=>?_⟩
 ·have hkl:k<l.length:=Nat.lt_of_lt_of_le hk List.findIdx_le_length
  have:=List.not_of_lt_findIdx hk
  rw[List.getD_eq_getElem?_getD,List.getElem?_eq_getElem hkl,Option.getD_some]
  simp only[decide_eq_false_iff_not] at this
  omega
 ·have hpl:lbp l t<l.length:=Nat.lt_of_le_of_lt hk hl
  have h1:t≤(l[lbp l t]'hpl).id:=by
   have:=List.findIdx_getElem (p:=fun r:Rw G=>decide (t≤r.id)) (w:=hpl)
   exact of_decide_eq_true this
  rw[List.getD_eq_getElem?_getD,List.getElem?_eq_getElem hl,Option.getD_some]
  rcases Nat.eq_or_lt_of_le hk with e|e
  ·subst e; exact h1
  ·have:=List.pairwise_iff_getElem.1 h.rise (lbp l t) k hpl hl e
   omega
theorem Ok.get {l:List (Rw G)} {most:Int} (h:Ok l most) {i j:Nat} (hij:i<j) (hj:j<l.length):(l.getD i default).id<(l.getD j default).id:=by
 rw[List.getD_eq_getElem?_getD,List.getElem?_eq_getElem (by omega),List.getD_eq_getElem?_getD,List.getElem?_eq_getElem hj]
 exact List.pairwise_iff_getElem.1 h.rise i j (by omega) hj hij
def a9 (l:List (Rw G)) (t:Int):G:=if has l t=true then(l.getD (lbp l t) default).v else default
def cM (l:List (Rw G)) (most t:Int) (v:G):List (Rw G)×Int:=
 if av t=true then
  if has l t=true then(l.set (lbp l t) ⟨t,v⟩,0)
  else if(l.length:Int)≥most then(l,10) else(bj l (lbp l t) ⟨t,v⟩,0)
 else(l,14)
def ei (l:List (Rw G)) (t:Int):List (Rw G):=if has l t=true then l.eraseIdx (lbp l t) else l
theorem nr (t:Int):has ([]:List (Rw G)) t=false:=rfl
theorem eE {l:List (Rw G)} {t:Int} (h:has l t=true):lbp l t<l.length∧(l.getD (lbp l t) default).id=t:=by
 unfold has oG at h; simpa using h
theorem aH {α:Type} {d:α} {l:List α} {k:Nat} (h:k<l.length):l.getD k d=l[k]:=by
 rw[List.getD_eq_getElem?_getD,List.getElem?_eq_getElem h]; rfl
theorem gy {l:List (Rw G)} {most t:Int} (ok:Ok l most) (h:has l t=false):∀ k,lbp l t≤k→k<l.length→t<(l.getD k default).id:=by
 intro k h1 h2
 have h3:=(ok.lb t).hi k h1 h2
 unfold has oG at h
 have h4:¬(lbp l t<l.length∧(l.getD (lbp l t) default).id=t):=of_decide_eq_false h
 rcases Nat.eq_or_lt_of_le h1 with e|e
 ·subst e
  have:(l.getD (lbp l t) default).id≠t:=fun k=>h4 ⟨h2,k⟩
  omega
 ·have:=ok.get e h2
  have:=(ok.lb t).hi (lbp l t) (Nat.le_refl _) (by omega)
  omega
theorem Ok.put {l:List (Rw G)} {most:Int} (ok:Ok l most) (t:Int) (v:G):Ok (cM l most t v).1 most:=by
 unfold cM
 split
 ·split
  ·rename_i h
   obtain⟨h1,h2⟩:=eE h
   refine⟨?_,by simpa using ok.full,ok.big⟩
   rw[List.pairwise_iff_getElem]
   intro i j hi hj hij
   simp only[List.length_set] at hi hj
   have h3:=ok.get hij hj
   rw[aH hi,aH hj] at h3
   rw[aH h1] at h2
   simp only[List.getElem_set]
   split<;>split
   ·omega
   ·rename_i e _; subst e; simp only; omega
   ·rename_i _ e; subst e; simp only; omega
   ·exact h3
  ·split
   ·exact ok
   ·rename_i h h1
    refine⟨?_,by show((bj l (lbp l t) _).length:Int)≤most; rw[fl (show lbp l t≤l.length from List.findIdx_le_length)]; omega,ok.big⟩
    have hb:has l t=false:=by simpa using h
    have lb:=ok.lb t
    unfold bj
    rw[List.pairwise_append]
    refine⟨ok.rise.sublist (List.take_sublist _ _),List.pairwise_cons.2 ⟨fun a ha=>?_,ok.rise.sublist (List.drop_sublist _ _)⟩,fun a ha b hb'=>?_⟩
    ·obtain⟨k,hk,rfl⟩:=List.mem_iff_getElem.1 ha
     rw[List.length_drop] at hk
     rw[List.getElem_drop]
     have:=gy ok hb (lbp l t+k) (by omega) (by omega)
     rw[aH (by omega)] at this
     exact this
    ·obtain⟨k,hk,rfl⟩:=List.mem_iff_getElem.1 ha
     rw[List.length_take] at hk
     have h5:=lb.lo k (by omega)
     rw[aH (by omega)] at h5
     rw[List.getElem_take]
     rcases List.mem_cons.1 hb' with rfl|hb'
     ·exact h5
     ·obtain⟨m,hm,rfl⟩:=List.mem_iff_getElem.1 hb'
      rw[List.length_drop] at hm
      rw[List.getElem_drop]
      have:=gy ok hb (lbp l t+m) (by omega) (by omega)
      rw[aH (by omega)] at this
      omega
 ·exact ok
def eU (l:List (Rw G)):List (List PV):=l.map fun r=>[.U r.id]
end
theorem qI:∀ x∈([]:List PV),Low 0 x:=fun _ h=>nomatch h
theorem bC {k:IntKind} {n:Int}:∀ x∈[PV.int k n],Low 0 x:=fun _ h=>by rcases List.mem_singleton.1 h with rfl; exact .int _ _
theorem vL {J:List PV} {n:Nat} (h:aT J n):∀ y∈J,Low 2 y:=fun y hy=>(h.low y hy).up
theorem qE {G:Type} (l:List (Rw G)) (t:Int):lbp l t≤l.length:=List.findIdx_le_length
structure Ck where
 id:Int
 pl:List Int
 ys:List Int
 un:Int
def Ck.cells (c:Ck):List PV:=[.U c.id,.list (en1 .u32 c.pl) .no,.list (en1 .u32 c.ys) .no,.I c.un]
def Ck.pv (c:Ck):PV:= .agg [.U c.id,.list (en1 .u32 c.pl) .no,.list (en1 .u32 c.ys) .no,.I c.un]
instance ckInh:Inhabited Ck:=⟨⟨0,[],[],0⟩⟩
abbrev RwC:=Rw Ck
def csC (r:RwC):List PV:=[.U r.id,.U r.v.id,.list (en1 .u32 r.v.pl) .no,.list (en1 .u32 r.v.ys) .no,.I r.v.un]
theorem bA (r:RwC):(csC r).length=5:=rfl
theorem fy {n:Nat} (r:RwC):∀ y∈csC r,Low n y:=by
 intro y hy
 simp only[csC,List.mem_cons,List.not_mem_nil,or_false] at hy
 rcases hy with rfl|rfl|rfl|rfl|rfl<;>first|exact .int _ _|exact .str _|exact bg NT.no
theorem tK (v:Ck):Low 0 (Ck.pv v):=by first|exact .int _ _|exact .str _|(refine .agg _ ?_; intro y hy; simp only[List.mem_cons,List.not_mem_nil,or_false] at hy; rcases hy with rfl|rfl|rfl|rfl<;>first|exact .int _ _|exact .str _|exact bg NT.no)
theorem dw (v:Ck) (b:Bool):Low 0 (.tup [Ck.pv v,.bool b]):= .tup _ (by intro y hy; simp only[List.mem_cons,List.not_mem_nil,or_false] at hy; rcases hy with rfl|rfl; exact tK v; exact .bool _)
theorem r9 (r:RwC):∀ y∈csC r,y.one=true:=by
 intro y hy
 simp only[csC,List.mem_cons,List.not_mem_nil,or_false] at hy
 rcases hy with rfl|rfl|rfl|rfl|rfl<;>rfl
abbrev flC (l:List RwC):List PV:=(l.map csC).flatten
theorem eN (l:List RwC):(flC l).length=l.length*5:=aS bA l
theorem hY {l:List RwC} {k:Nat} (J:List PV) (h:k<l.length):List.drop (k*5) (flC l++J)=csC (l.getD k default)++(flC (l.drop (k+1))++J):=iP bA J default h
theorem eK {n:Nat} (l:List RwC) {J:List PV} (h:∀ y∈J,Low n y):∀ y∈flC l++J,Low n y:=kW (fun a _=>fy a) h
theorem kr (l:List RwC) {J:List PV} (h:∀ y∈J,y.one=true):∀ y∈flC l++J,y.one=true:=by
 intro y hy
 rcases List.mem_append.1 hy with h1|h1
 ·obtain⟨c,h2,h3⟩:=List.mem_flatten.1 h1
  obtain⟨a,_,rfl⟩:=List.mem_map.1 h2
  exact r9 a y h3
 ·exact h y h1
def bw (l:List RwC) (J:List PV) (cap:Nat) (most:Int):aa:=[.cells [.arr 1 0 l.length cap,.I most],.cells (flC l++J)]
def fg (most:Int):aa:=[.cells [.E,.I most]]
def EXC (l:List RwC) (most:Int) (H:aa):Prop:=
 (∃(J:List PV) (cap:Nat),H=bw l J cap most∧l.length≤cap∧aT J ((cap-l.length)*5))∨(l=[]∧H=fg most)
theorem s4 (r:RwC) (t:Int)  (K:PV→Prop) (h:K (.I (gw (Rw.id r) t))):AcK 32 [.agg (csC r),.U t] [] (fun x _=>K x):=
 acW (T:=TK) (L:=[]) (fun _=>0) Try.func32 (tL) (LOk.nil _ _ _ _ _) h
def qx (args:List PV) (K:PV→Prop):Prop:=∃(r:RwC) (t:Int),ag args [.agg (csC r),.U t]∧K (.I (gw r.id t))
theorem rm:SpK 32 (.pure qx):=by
 rintro args K ⟨r,t,he,hk⟩
 have he:args=_:=he
 subst he
 exact jz ap (by intro y hy; simp only[List.mem_cons,List.not_mem_nil,or_false] at hy; rcases hy with rfl|rfl; exact .agg _ (fy r); exact .int _ _) (.int _ _) (s4 r t (fun y=>y = .I (gw r.id t)) rfl) hk
def TCC:Tab:=(32,.pure qx)::TK
theorem iZ:TbK TCC:= .cons rm tL
theorem sc (l:List RwC) (J:List PV) (cap:Nat) (most:Int) (t:Int) (i j:Nat):(by refine(?_:_→_→_→Prop) (Int.fdiv (IntKind.wrap .u64 (wI ((i:Int)+(j:Int)))) 2) (PV.arr 1 0 l.length cap) (PV.I l.length); exact fun b f g=>by refine(?_:_→_→_→Prop) (List.drop (0+Int.toNat (wI b)*5) (flC l++J)) [Ob.cells [f,.I most],.cells (flC l++J)] [PV.arr 1 0 l.length cap,.U t,.fn 32 [],g,.I i,.I j]; exact fun a c d=>∀(R:Ex→List PV→aa→Prop),(br (decide ((i:Int)<(j:Int))) ((0≤wI b∧wI b<(l.length:Int))∧br (true && cN [.int .u32,.int .u32,.list,.list,.int .i64] 0 a) (∃(r:RwC) (t_1:Int),ag [.agg [.U (cI a 0),.U (cI a 1),.list (cL a 2) (cT a 2),.list (cL a 3) (cT a 3),.I (cI a 4)],.U t] [.agg [.U r.id,.U r.v.id,.list (en1 .u32 r.v.pl) .no,.list (en1 .u32 r.v.ys) .no,.I r.v.un],.U t_1]∧br (decide (gw r.id t_1<0)) (R .normal [f,.U t,.fn 32 [],g,.I (wI (wI b+1)),.I j] c) (R .normal [f,.U t,.fn 32 [],g,.I i,.I (wI b)] c)) False) (R (.exit 0) d c))→Holds (wpK TCC [] (fun _=>0) (aL [1,1,1,0,0] (ar Try.f31)) [] (aj [0,1,2,8,9,10] d) c (fun ex e H=>R ex (List.map e [0,1,2,8,9,10]) H)):Prop):=fun R h=>hoE h
theorem rY (most t:Int):(by refine(?_:_→_→Prop) [PV.E,.U t,.fn 32 [],.I 0,.I 0,.I 0] [Ob.cells [.E,.I most]]; exact fun a b=>∀(R:Ex→List PV→aa→Prop),(R (.exit 0) a b)→Holds (wpK TCC [] (fun _=>0) (aL [1,1,1,0,0] (ar Try.f31)) [] (aj [0,1,2,8,9,10] a) b (fun ex e H=>R ex (List.map e [0,1,2,8,9,10]) H)):Prop):=fun R h=>hoE h
def tc:LSp:=fun e H Q=>∃(l:List RwC) (J:List PV) (cap:Nat) (most t:Int) (p:Nat),Lb l t p∧l.length≤1000000∧ag (List.map e [0,1,2,8,9,10]) [.arr 1 0 l.length cap,.U t,.fn 32 [],.I l.length,.I 0,.I l.length]∧aE H (bw l J cap most)∧
 Q (.exit 0) (aj [0,1,2,8,9,10] [.arr 1 0 l.length cap,.U t,.fn 32 [],.I l.length,.I p,.I p]) (bw l J cap most)
theorem qG:∀ e H Q,tc e H Q→AwK Try.f31.ntmps (.loop (aL [1,1,1,0,0] (ar Try.f31))) Q e H:=by
 rintro e H Q ⟨l,J,cap,most,t,p,hp,hl,he,hH,hQ⟩
 refine aZ (hn:=fun _=>0) ap iZ (.nil _ _ _ _ _) (σ:=Nat×Nat) [0,1,2,8,9,10] (fun s=>s.1≤p∧p≤s.2∧s.2≤l.length)
  (fun s=>[.arr 1 0 l.length cap,.U t,.fn 32 [],.I l.length,.I s.1,.I s.2]) (fun _=>bw l J cap most) (fun s=>s.2-s.1) (0,l.length) ⟨Nat.zero_le _,hp.le,Nat.le_refl _⟩ he hH ?_
 rintro⟨i,j⟩ ⟨h1,h2,h3⟩
 simp only at h1 h2 h3
 refine sc l J cap most t i j _ ?_
 simp only[aI,dt]
 by_cases h:i<j
 ·rw[if_pos (by omega)]
  obtain⟨k,hk⟩:∃ k,k=(i+j) / 2:=⟨_,rfl⟩
  have e1:wI (Int.fdiv (IntKind.wrap .u64 (wI ((i:Int)+j))) 2)=(k:Int):=by
   rw[cq (n:=(i:Int)+j) (by omega) (by omega),wrap_u64 (by omega) (by omega),Int.fdiv_eq_ediv_of_nonneg _ (by decide),cq (by omega) (by omega)]
   omega
  simp only[e1,aC,Nat.zero_add]
  have hkl:k<l.length:=by omega
  rw[hY J hkl]
  refine⟨⟨by omega,by omega⟩,?_⟩
  rw[if_pos (by rfl)]
  refine⟨l.getD k default,t,rfl,?_⟩
  by_cases c:gw (l.getD k default).id t<0
  ·rw[if_pos c]
   have hc:(l.getD k default).id<t:=by unfold gw at c; split at c; assumption; split at c<;>omega
   have hkp:k<p:=by
    rcases Nat.lt_or_ge k p with q|q
    ·exact q
    ·have:=hp.hi k q hkl; omega
   exact⟨(k+1,j),(show j-(k+1)<j-i by omega),⟨hkp,h2,h3⟩,by rw[aW hkl (by omega)],[],rfl,Nat.le_refl _,.inl rfl⟩
  ·rw[if_neg c]
   have hc:t≤(l.getD k default).id:=by unfold gw at c; split at c<;>omega
   have hkp:p≤k:=by
    rcases Nat.lt_or_ge k p with q|q
    ·have:=hp.lo k q; omega
    ·exact q
   exact⟨(i,k),(show k-i<j-i by omega),⟨h1,hkp,by omega⟩,rfl,[],rfl,Nat.le_refl _,.inl rfl⟩
 ·rw[if_neg (by omega)]
  have e1:i=p:=by omega
  have e2:j=p:=by omega
  subst e1
  subst e2
  exact hQ
def tu:LSp:=fun e H Q=>∃(most t:Int),ag (List.map e [0,1,2,8,9,10]) [.E,.U t,.fn 32 [],.I 0,.I 0,.I 0]∧aE H (fg most)∧
 Q (.exit 0) (aj [0,1,2,8,9,10] [.E,.U t,.fn 32 [],.I 0,.I 0,.I 0]) (fg most)
theorem oX:∀ e H Q,tu e H Q→AwK Try.f31.ntmps (.loop (aL [1,1,1,0,0] (ar Try.f31))) Q e H:=by
 rintro e H Q ⟨most,t,he,hH,hQ⟩
 refine aZ (hn:=fun _=>0) ap iZ (.nil _ _ _ _ _) (σ:=Unit) [0,1,2,8,9,10] (fun _=>True)
  (fun _=>[.E,.U t,.fn 32 [],.I 0,.I 0,.I 0]) (fun _=>fg most) (fun _=>0) () trivial he hH ?_
 intro _ _
 exact rY most t _ hQ
theorem sN (l:List RwC) (J:List PV) (cap:Nat) (most:Int) (t:Int):(by refine(?_:_→_→Prop) (PV.arr 1 0 l.length cap) (PV.I l.length); exact fun g h=>by refine(?_:_→Prop) [Ob.cells [g,.I most],.cells (flC l++J)]; exact fun f=>∀(K:PV→aa→Prop),(∃(l_1:List RwC) (J_1:List PV) (cap_1:Nat) (most_1:Int) (t_1:Int) (p:Nat),by refine(?_:_→_→_→_→Prop) (List.drop (0+Int.toNat (p:Int)*5) (flC l_1++J_1)) (PV.arr 1 0 l_1.length cap_1) (PV.I l_1.length) (l_1.length:Int); exact fun a c d e=>by refine(?_:_→Prop) [Ob.cells [c,.I most_1],.cells (flC l_1++J_1)]; exact fun b=>Lb l_1 t_1 p∧l_1.length≤1000000∧ag [g,.U t,.fn 32 [],h,.I 0,h] [c,.U t_1,.fn 32 [],d,.I 0,d]∧aE f b∧br (decide ((p:Int)<e) == true) ((0≤(p:Int)∧(p:Int)<e)∧br (true && cN [.int .u32,.int .u32,.list,.list,.int .i64] 0 a) (∃(r:RwC) (t:Int),ag [.agg [.U (cI a 0),.U (cI a 1),.list (cL a 2) (cT a 2),.list (cL a 3) (cT a 3),.I (cI a 4)],.U t_1] [.agg [.U r.id,.U r.v.id,.list (en1 .u32 r.v.pl) .no,.list (en1 .u32 r.v.ys) .no,.I r.v.un],.U t]∧K (.tup [.I p,.bool (gw r.id t == 0)]) b) False) (K (.tup [.I p,.bool false]) b))→AcK 31 [g,.U t,.fn 32 []] f K:Prop):=fun K h=>acW (T:=TCC) (L:=[([1,1,1,0,0],tc)]) (fun _=>0) Try.func31 (iZ) (.cons suE qG (.nil _ _ _ _ _)) h
theorem sB (most t:Int)  (K:PV→aa→Prop) (h:∃(most_1:Int) (t_1:Int),ag [.E,.U t,.fn 32 [],.I 0,.I 0,.I 0] [.E,.U t_1,.fn 32 [],.I 0,.I 0,.I 0]∧aE [.cells [.E,.I most]] [.cells [.E,.I most_1]]∧K (.tup [.I 0,.bool false]) [.cells [.E,.I most_1]]):AcK 31 [.E,.U t,.fn 32 []] [.cells [.E,.I most]] K:=
 acW (T:=TCC) (L:=[([1,1,1,0,0],tu)]) (fun _=>0) Try.func31 (iZ) (.cons suE oX (.nil _ _ _ _ _)) h
def tA (args:List PV) (H:aa) (K:PV→Prop):Prop:=
 (∃(l:List RwC) (J:List PV) (cap:Nat) (most t:Int),ag args [.arr 1 0 l.length cap,.U t,.fn 32 []]∧aE H (bw l J cap most)∧Ok l most∧K (.tup [.I (lbp l t),.bool (has l t)]))∨
 (∃(most t:Int),ag args [.E,.U t,.fn 32 []]∧aE H (fg most)∧K (.tup [.I 0,.bool false]))
theorem uE:SpK 31 (.read tA):=by
 rintro args H K (⟨l,J,cap,most,t,he,hH,ok,hk⟩|⟨most,t,he,hH,hk⟩)
 ·have he:args=_:=he
  have hH:H=_:=hH
  subst he
  subst hH
  obtain⟨p,hpe⟩:∃ p,p=lbp l t:=⟨_,rfl⟩
  have hp:Lb l t p:=hpe▸ok.lb t
  unfold has at hk
  rw[← hpe] at hk
  refine⟨_,sN l J cap most t _ ⟨l,J,cap,most,t,p,hp,ok.len,rfl,rfl,?_⟩,hk⟩
  simp only[aI,bt,dt]
  by_cases c:p<l.length
  ·rw[if_pos (by omega)]
   simp only[aC,Nat.zero_add]
   rw[hY J c]
   refine⟨⟨by omega,by omega⟩,?_⟩
   rw[if_pos (by rfl)]
   refine⟨l.getD p default,t,rfl,?_,rfl⟩
   unfold oG
   have e:((gw (l.getD p default).id t) == 0)=decide (p<l.length∧(l.getD p default).id=t):=by
    rw[Bool.eq_iff_iff,beq_iff_eq,decide_eq_true_eq]
    unfold gw
    constructor
    ·intro h; refine⟨c,?_⟩; split at h; omega; split at h<;>omega
    ·rintro⟨_,h⟩; rw[if_neg (by omega),if_neg (by omega)]
   rw[e]
  ·rw[if_neg (by omega)]
   unfold oG
   rw[decide_eq_false (fun h=>c h.1)]
   exact⟨rfl,rfl⟩
 ·have he:args=_:=he
  have hH:H=_:=hH
  subst he
  subst hH
  exact⟨_,sB most t _ ⟨most,t,rfl,rfl,rfl,rfl⟩,hk⟩
def TBC:Tab:=(31,.read tA)::TCC
theorem lO:TbK TBC:= .cons uE iZ
theorem sD (l:List RwC) (J:List PV) (cap:Nat) (most:Int) (t:Int):(by refine(?_:_→_→Prop) [Ob.cells [.arr 1 0 l.length cap,.I most],.cells (flC l++J)] [PV.arr 1 0 l.length cap,.U t,.fn 32 []]; exact fun a b=>∀(K:PV→aa→Prop),((∃(l_1:List RwC) (J_1:List PV) (cap_1:Nat) (most_1:Int) (t_1:Int),ag b [.arr 1 0 l_1.length cap_1,.U t_1,.fn 32 []]∧aE a [.cells [.arr 1 0 l_1.length cap_1,.I most_1],.cells (flC l_1++J_1)]∧Ok l_1 most_1∧K (.tup [.I (↑(lbp l_1 t_1):Int),.bool (has l_1 t_1)]) a)∨∃(most_1:Int) (t_1:Int),ag b [.E,.U t_1,.fn 32 []]∧aE a [.cells [.E,.I most_1]]∧K (.tup [.I 0,.bool false]) a)→AcK 25 [.ptr 0 0,.U t] a K:Prop):=fun K h=>acW (T:=TBC) (L:=[]) (fun o=>match o.op with| .load t _=>(match t with|53=>1|_=>0)|_=>0) Try.func25 (lO) (LOk.nil _ _ _ _ _) h
theorem sF (most t:Int):(by refine(?_:_→_→Prop) [Ob.cells [.E,.I most]] [PV.E,.U t,.fn 32 []]; exact fun a b=>∀(K:PV→aa→Prop),((∃(l:List RwC) (J:List PV) (cap:Nat) (most_1:Int) (t_1:Int),ag b [.arr 1 0 l.length cap,.U t_1,.fn 32 []]∧aE a [.cells [.arr 1 0 l.length cap,.I most_1],.cells (flC l++J)]∧Ok l most_1∧K (.tup [.I (↑(lbp l t_1):Int),.bool (has l t_1)]) a)∨∃(most_1:Int) (t_1:Int),ag b [.E,.U t_1,.fn 32 []]∧aE a [.cells [.E,.I most_1]]∧K (.tup [.I 0,.bool false]) a)→AcK 25 [.ptr 0 0,.U t] a K:Prop):=fun K h=>acW (T:=TBC) (L:=[]) (fun o=>match o.op with| .load t _=>(match t with|53=>1|_=>0)|_=>0) Try.func25 (lO) (LOk.nil _ _ _ _ _) h
def tO (args:List PV) (H:aa) (K:PV→Prop):Prop:=
 ∃(l:List RwC) (most t:Int),ag args [.ptr 0 0,.U t]∧EXC l most H∧Ok l most∧K (.tup [.I (lbp l t),.bool (has l t)])
theorem pJ:SpK 25 (.read tO):=by
 rintro args H K ⟨l,most,t,he,hH,ok,hk⟩
 have he:args=_:=he
 subst he
 rcases hH with⟨J,cap,rfl,_,_⟩|⟨rfl,rfl⟩
 ·exact⟨_,sD l J cap most t _ (.inl ⟨l,J,cap,most,t,rfl,rfl,ok,rfl,rfl⟩),hk⟩
 ·exact⟨_,sF most t _ (.inr ⟨most,t,rfl,rfl,rfl,rfl⟩),hk⟩
def TAC:Tab:=(25,.read tO)::TBC
theorem qS:TbK TAC:= .cons pJ lO
theorem mR {l:List RwC} {J:List PV} {cap:Nat} {most:Int} (h:l.length≤cap) (hJ:aT J ((cap-l.length)*5)):EXC l most [.cells [.arr 1 0 l.length cap,.I most],.cells (flC l++J)]:= .inl ⟨J,cap,rfl,h,hJ⟩
theorem q9 {most:Int}:EXC [] most [.cells [.E,.I most]]:= .inr ⟨rfl,rfl⟩
def jh (l:List RwC) (most:Int) (H:aa):Prop:=∃ X G:aa,H=X++G∧EXC l most X
theorem ec {l:List RwC} {J:List PV} {cap:Nat} {most:Int} {n:Nat} (hn:2≤n) (h:∀ y∈J,Low 0 y):jp n (bw l J cap most):=
 iX (fun y hy=>by simp only[List.mem_cons,List.not_mem_nil,or_false] at hy; rcases hy with rfl|rfl; exact .arr _ _ _ _ (by omega); exact .low (.int _ _)) (fun y hy=> .low (eK l h y hy))
theorem fX {most:Int} {n:Nat}:jp n (fg most):=
 om (fun y hy=>by simp only[List.mem_cons,List.not_mem_nil,or_false] at hy; rcases hy with rfl|rfl; exact .low (bh NT.exact (fun _ h=>nomatch h)); exact .low (.int _ _))
def kF (args:List PV) (H:aa) (K:PV→Prop):Prop:=
 ∃(l:List RwC) (most t:Int),ag args [.ptr 0 0,.U t]∧jh l most H∧Ok l most∧K (.tup [.I (lbp l t),.bool (has l t)])
theorem jZ:SpK 25 (.read kF):=by
 rintro args H K ⟨l,most,t,he,⟨X,G,rfl,hX⟩,ok,hk⟩
 have he:args=_:=he
 subst he
 obtain⟨r,h1,rfl⟩:=pJ _ X (fun x=>x = .tup [.I (lbp l t),.bool (has l t)]) ⟨l,most,t,rfl,hX,ok,rfl⟩
 have hlow:Low 0 (.tup [.I (lbp l t),.bool (has l t)]):= .tup _ (by intro y hy; simp only[List.mem_cons,List.not_mem_nil,or_false] at hy; rcases hy with rfl|rfl; exact .int _ _; exact .bool _)
 refine⟨_,?_,hk⟩
 rcases hX with⟨J,cap,rfl,hc,hJ⟩|⟨rfl,rfl⟩
 ·exact eS ap (by intro y hy; simp only[List.mem_cons,List.not_mem_nil,or_false] at hy; rcases hy with rfl|rfl; exact .ptr _ _ (by simp[bw]); exact .low (.int _ _)) (ec (by simp[bw]) hJ.low) hlow h1
 ·exact eS ap (by intro y hy; simp only[List.mem_cons,List.not_mem_nil,or_false] at hy; rcases hy with rfl|rfl; exact .ptr _ _ (by simp[fg]); exact .low (.int _ _)) fX hlow h1
def uU:Tab:=(25,.read kF)::TAC
theorem nq:TbK uU:= .cons jZ qS
theorem oI (l:List RwC) (J:List PV) (cap:Nat) (most:Int) (t:Int):(by refine(?_:_→_→_→_→Prop) [PV.arr 1 0 l.length cap,.I most] [PV.U 0,.E,.E,.I 0] (Ob.cells (flC l++J)) [PV.ptr 0 0,.U t]; exact fun f g h i=>by refine(?_:_→Prop) [Ob.cells f,h,.cells g]; exact fun e=>∀(K:PV→aa→Prop),(∃(l_1:List RwC) (most_1:Int) (t_1:Int),by refine(?_:_→_→Prop) (↑(lbp l_1 t_1):Int) (PV.bool (has l_1 t_1)); exact fun c d=>by refine(?_:_→Prop) (List.drop (0+Int.toNat c*5+1) (flC l++J)); exact fun a=>by refine(?_:_→Prop) [PV.U (cI a 0),.list (cL a 1) (cT a 1),.list (cL a 2) (cT a 2),.I (cI a 3)]; exact fun b=>ag i [.ptr 0 0,.U t_1]∧jh l_1 most_1 e∧Ok l_1 most_1∧br (has l_1 t_1) ((0≤c∧c<(l.length:Int))∧br (true && cN [.int .u32,.list,.list,.int .i64] 0 a) (K (.tup [.agg b,d]) [.cells f,h,.cells b]) False) (K (.tup [.agg g,d]) e))→AcK 14 i [.cells f,h] K:Prop):=fun K h=>acW (T:=uU) (L:=[]) (fun o=>match o.op with| .load t _=>(match t with|53=>1|_=>0)|_=>0) Try.func14 (nq) (LOk.nil _ _ _ _ _) h
theorem pY (most t:Int):(by refine(?_:_→_→_→Prop) [PV.U 0,.E,.E,.I 0] (Ob.cells [.E,.I most]) [PV.ptr 0 0,.U t]; exact fun a b c=>∀(K:PV→aa→Prop),(∃(l:List RwC) (most_1:Int) (t_1:Int),ag c [.ptr 0 0,.U t_1]∧jh l most_1 [b,.cells a]∧Ok l most_1∧br (has l t_1) (InL [] 5 (↑(lbp l t_1):Int)∧False) (K (.tup [.agg a,.bool (has l t_1)]) [b,.cells a]))→AcK 14 c [b] K:Prop):=fun K h=>acW (T:=uU) (L:=[]) (fun o=>match o.op with| .load t _=>(match t with|53=>1|_=>0)|_=>0) Try.func14 (nq) (LOk.nil _ _ _ _ _) h
def pb (args:List PV) (H:aa) (K:PV→Prop):Prop:=
 ∃(l:List RwC) (most t:Int),ag args [.ptr 0 0,.U t]∧EXC l most H∧Ok l most∧K (.tup [(let v:=a9 l t; Ck.pv v),.bool (has l t)])
theorem kf:SpK 14 (.read pb):=by
 rintro args H K ⟨l,most,t,he,hH,ok,hk⟩
 have he:args=_:=he
 subst he
 refine⟨_,af.same (dw _ _).up (bD ?_),hk⟩
 rcases hH with⟨J,cap,rfl,hc,hJ⟩|⟨rfl,rfl⟩
 ·refine oI l J cap most t _ ⟨l,most,t,rfl,⟨_,[_],rfl,mR hc hJ⟩,ok,?_⟩
  simp only[aI]
  unfold a9
  cases c:has l t with
  | true=>
   obtain⟨c1,c2⟩:=eE c
   rw[if_pos rfl,if_pos rfl]
   simp only[aC,Nat.zero_add]
   rw[← List.drop_drop,hY J c1]
   exact⟨⟨by omega,by omega⟩,by first|exact⟨_,.tup (.cons (.agg (.cons (.refl _) (.cons (.list _ _) (.cons (.list _ _) (.cons (.refl _) .nil))))) (.cons (.refl _) .nil)),rfl,[_],rfl⟩|(rw[if_pos (by rfl)]; exact⟨_,.tup (.cons (.agg (.cons (.refl _) (.cons (.list _ _) (.cons (.list _ _) (.cons (.refl _) .nil))))) (.cons (.refl _) .nil)),rfl,[_],rfl⟩)⟩
  | false=>rw[if_neg (by decide),if_neg (by decide)]; exact⟨_,.tup (.cons (.agg (.cons (.refl _) (.cons (.list _ _) (.cons (.list _ _) (.cons (.refl _) .nil))))) (.cons (.refl _) .nil)),rfl,[_],rfl⟩
 ·refine pY most t _ ⟨[],most,t,rfl,⟨_,[_],rfl,q9⟩,ok,?_⟩
  exact⟨_,.tup (.cons (.agg (.cons (.refl _) (.cons (.list _ _) (.cons (.list _ _) (.cons (.refl _) .nil))))) (.cons (.refl _) .nil)),rfl,[_],rfl⟩
def TGC:Tab:=(14,.read pb)::TAC
theorem l5:TbK TGC:= .cons kf qS
def qt (args:List PV) (H:aa) (K:PV→Prop):Prop:=
 ∃(l:List RwC) (most t:Int),ag args [.ptr 0 0,.U t]∧jh l most H∧Ok l most∧K (.tup [(let v:=a9 l t; Ck.pv v),.bool (has l t)])
theorem sW:SpK 14 (.read qt):=by
 rintro args H K ⟨l,most,t,he,⟨X,G,rfl,hX⟩,ok,hk⟩
 have he:args=_:=he
 subst he
 obtain⟨r,h1,rfl⟩:=kf _ X (fun x=>x = .tup [(let v:=a9 l t; Ck.pv v),.bool (has l t)]) ⟨l,most,t,rfl,hX,ok,rfl⟩
 refine⟨_,?_,hk⟩
 rcases hX with⟨J,cap,rfl,hc,hJ⟩|⟨rfl,rfl⟩
 ·exact eS ap (by intro y hy; simp only[List.mem_cons,List.not_mem_nil,or_false] at hy; rcases hy with rfl|rfl; exact .ptr _ _ (by simp[bw]); exact .low (.int _ _)) (ec (by simp[bw]) hJ.low) (dw _ _) h1
 ·exact eS ap (by intro y hy; simp only[List.mem_cons,List.not_mem_nil,or_false] at hy; rcases hy with rfl|rfl; exact .ptr _ _ (by simp[fg]); exact .low (.int _ _)) fX (dw _ _) h1
theorem rR:SpK 34 (.ext dI):=
 kU (t:=53) (e:=59) (b:=true) (sz:=5) Try.func34 (by kernel_rfl) (by kernel_rfl) (by kernel_rfl) (by kernel_rfl) (by kernel_rfl) (by kernel_rfl) (by kernel_rfl)
def TIC:Tab:=(34,.ext dI)::TGC
theorem pc:TbK TIC:= .cons rR l5
theorem oH (l:List RwC) (J:List PV) (cap:Nat) (most:Int) (r:RwC) (p:Nat):(by refine(?_:_→_→_→_→_→_→_→_→_→Prop) ((p:Int)+(1:Int)) ((l.length:Int)+(1:Int)) (Int.toNat (l.length:Int)-Int.toNat (p:Int)) [PV.U r.id,.U r.v.id,.list (en1 .u32 r.v.pl) .no,.list (en1 .u32 r.v.ys) .no,.I r.v.un] [PV.U 0,.U 0,.E,.E,.I 0] (Int.toNat (cap:Int)-0) (Ob.cells (flC l++J)) (Int.toNat (p:Int)-0) (PV.arr 1 0 l.length cap); exact fun i m q s t u z B D=>by refine(?_:_→_→_→_→_→_→Prop) (↑u:Int) s (List.take (q*5) (List.drop (if Int.toNat (cap:Int)=Int.toNat (p:Int) then 0 else 0+Int.toNat (p:Int)*5) (flC l++J))) (Ob.cells [D,.I most]) (wI m-(p:Int)) (Int.toNat (wI m)-0); exact fun g h j n w C=>by refine(?_:_→_→Prop) (↑C:Int) (Int.toNat (p:Int)-0+Int.toNat (wI w)); exact fun d f=>by refine(?_:_→_→_→_→Prop) (Int.toNat d-Int.toNat (p:Int)) (Int.toNat (↑f:Int)-Int.toNat (p:Int)) (Int.toNat (↑f:Int)-Int.toNat (wI i)) (Int.toNat d-Int.toNat (wI i)); exact fun o x y A=>by refine(?_:_→Prop) (List.take (o*5) (List.drop (if Int.toNat g=Int.toNat (p:Int) then if Int.toNat (cap:Int)=0 then 0 else 0 else(if Int.toNat (cap:Int)=0 then 0 else 0)+Int.toNat (p:Int)*5) (flC l++J))); exact fun e=>by refine(?_:_→Prop) (over (flC l++J) (if Int.toNat g=Int.toNat (wI i) then if Int.toNat (cap:Int)=0 then 0 else 0 else(if Int.toNat (cap:Int)=0 then 0 else 0)+Int.toNat (wI i)*5) (List.take (min o A*5) e)); exact fun k=>∀(K:PV→aa→Prop),((0≤(p:Int)∧(p:Int)≤(l.length:Int)∧(l.length:Int)≤(cap:Int)∧(cap:Int)≤(cap:Int))∧br ((p:Int) == (l.length:Int)) ((l.length≤cap∧0+cap*5≤List.length (flC l++J)∧5=5∧List.all h PV.one=true∧(l.length+1)*72≤140737488355328)∧(l.length+1≤cap→K (.arr 1 0 (l.length+1) cap) [n,.cells (over (flC l++J) (0+l.length*5) h)])∧(cap<l.length+1→∀(c:Nat),l.length+1≤c→K (.arr 2 0 (l.length+1) c) [n,z,.cells (List.take (l.length*5) (List.drop 0 (flC l++J))++h++List.flatten (List.replicate (c-(l.length+1)) t))])) (br (decide (wI m>(cap:Int))) ((iI 0≤0∧0≤(p:Int)∧(p:Int)≤(cap:Int)∧(cap:Int)≤(cap:Int))∧(Int.toNat (p:Int)-0≤Int.toNat (cap:Int)-0∧(if Int.toNat (cap:Int)=0 then 0 else 0)+u*5≤List.length (flC l++J)∧0≤wI w∧Int.toNat (cap:Int)-0<Int.toNat (p:Int)-0+Int.toNat (wI w)∧f*72≤140737488355328)∧∀(c:Nat),by refine(?_:_→Prop) (List.take (B*5) (List.drop (if Int.toNat (cap:Int)=0 then 0 else 0) (flC l++J))++List.flatten (List.replicate (c-B) t)); exact fun b=>by refine(?_:_→Prop) (over b (if Int.toNat (c:Int)=Int.toNat (p:Int) then 0 else 0+Int.toNat (p:Int)*5) (List.take (min 1 x*5) h)); exact fun a=>Int.toNat (p:Int)-0+Int.toNat (wI w)≤c→(0≤(p:Int)∧(p:Int)≤(↑f:Int)∧(↑f:Int)≤(c:Int)∧(c:Int)≤(c:Int))∧((if Int.toNat (c:Int)=Int.toNat (p:Int) then 0 else 0+Int.toNat (p:Int)*5)+x*5≤List.length b∧5=5∧List.all h PV.one=true)∧(0≤wI i∧wI i≤(↑f:Int)∧(↑f:Int)≤(c:Int)∧(c:Int)≤(c:Int))∧(0≤(p:Int)∧(p:Int)≤(l.length:Int)∧(l.length:Int)≤(cap:Int)∧(cap:Int)≤(cap:Int))∧(if Int.toNat (cap:Int)=Int.toNat (p:Int) then 0 else 0+Int.toNat (p:Int)*5)+q*5≤List.length (flC l++J)∧((if Int.toNat (c:Int)=Int.toNat (wI i) then 0 else 0+Int.toNat (wI i)*5)+y*5≤List.length a∧List.length j=q*5∧List.all j PV.one=true)∧K (.arr 2 0 f c) [n,z,.cells (over a (if Int.toNat (c:Int)=Int.toNat (wI i) then 0 else 0+Int.toNat (wI i)*5) (List.take (min q y*5) j))]) ((iI 0≤0∧0≤wI m∧wI m≤(cap:Int)∧(cap:Int)≤(cap:Int))∧(0≤wI i∧wI i≤d∧d≤g∧g≤g)∧s≠[]∧(flC l++J=[]→False)∧(0≤wI i∧wI i≤d∧d≤g∧g≤g)∧(0≤(p:Int)∧(p:Int)≤d∧d≤g∧g≤g)∧(if Int.toNat g=Int.toNat (p:Int) then if Int.toNat (cap:Int)=0 then 0 else 0 else(if Int.toNat (cap:Int)=0 then 0 else 0)+Int.toNat (p:Int)*5)+o*5≤List.length (flC l++J)∧((if Int.toNat g=Int.toNat (wI i) then if Int.toNat (cap:Int)=0 then 0 else 0 else(if Int.toNat (cap:Int)=0 then 0 else 0)+Int.toNat (wI i)*5)+A*5≤List.length (flC l++J)∧List.length e=o*5∧List.all e PV.one=true)∧(0≤(p:Int)∧(p:Int)≤d∧d≤g∧g≤g)∧((if Int.toNat g=Int.toNat (p:Int) then if Int.toNat (cap:Int)=0 then 0 else 0 else(if Int.toNat (cap:Int)=0 then 0 else 0)+Int.toNat (p:Int)*5)+o*5≤List.length k∧5=5∧List.all h PV.one=true)∧K (.arr 1 (if Int.toNat (cap:Int)=0 then 0 else 0) C u) [n,.cells (over k (if Int.toNat g=Int.toNat (p:Int) then if Int.toNat (cap:Int)=0 then 0 else 0 else(if Int.toNat (cap:Int)=0 then 0 else 0)+Int.toNat (p:Int)*5) (List.take (min 1 o*5) h))])))→AcK 26 [D,.I p,.list [csC r] .exact] [n,z] K:Prop):=fun K h=>acW (T:=TIC) (L:=[]) (fun o=>match o.op with| .load t _=>(match t with|53=>1|_=>0)|_=>match o.dst with|some 25=>2|_=>0) Try.func26 (pc) (LOk.nil _ _ _ _ _) h
theorem q4 (most:Int) (r:RwC):∀(K:PV→aa→Prop),((iI 0≤0∧iI 0≤0∧iI 0≤0∧iI 0≤0∧uni 5 [])∧5=5∧72≤140737488355328∧0<1∧∀(c:Nat),1≤c→K (.arr 1 0 1 c) [.cells [.E,.I most],.cells ([.U r.id,.U r.v.id,.list (en1 .u32 r.v.pl) .no,.list (en1 .u32 r.v.ys) .no,.I r.v.un]++List.flatten (List.replicate (c-1) [.U 0,.U 0,.E,.E,.I 0]))])→AcK 26 [.E,.I 0,.list [csC r] .exact] [.cells [.E,.I most]] K:=fun K h=>acW (T:=TIC) (L:=[]) (fun o=>match o.op with| .load t _=>(match t with|53=>1|_=>0)|_=>match o.dst with|some 25=>2|_=>0) Try.func26 (pc) (LOk.nil _ _ _ _ _) h
def ux (args:List PV) (H:aa) (K:PV→aa→Prop):Prop:=
 (∃(l:List RwC) (J:List PV) (cap:Nat) (most:Int) (r:RwC) (p:Nat),ag args [.arr 1 0 l.length cap,.I p,.list [csC r] .exact]∧aE H (bw l J cap most)∧p≤l.length∧l.length≤1000000∧l.length≤cap∧aT J ((cap-l.length)*5)∧
  (∀(J':List PV),l.length+1≤cap→aT J' ((cap-(l.length+1))*5)→K (.arr 1 0 (l.length+1) cap) [.cells [.arr 1 0 l.length cap,.I most],.cells (flC (bj l p r)++J')])∧
  (∀(c:Nat),l.length+1≤c→∀(J':List PV),aT J' ((c-(l.length+1))*5)→K (.arr 2 0 (l.length+1) c) [.cells [.arr 1 0 l.length cap,.I most],.cells (flC l++J),.cells (flC (bj l p r)++J')]))∨
 (∃(most:Int) (r:RwC),ag args [.E,.I 0,.list [csC r] .exact]∧aE H (fg most)∧
  ∀(c:Nat),1≤c→∀(J':List PV),aT J' ((c-1)*5)→K (.arr 1 0 1 c) [.cells [.E,.I most],.cells (csC r++J')])
def zrC:List PV:=[.U 0,.U 0,.E,.E,.I 0]
theorem eb (n:Nat):aT (List.replicate n zrC).flatten (n*5):=
 aT.tE (z:=zrC) (by intro y hy; simp only[zrC,List.mem_cons,List.not_mem_nil,or_false] at hy; rcases hy with rfl|rfl|rfl|rfl|rfl<;>rfl) (by intro y hy; simp only[zrC,List.mem_cons,List.not_mem_nil,or_false] at hy; rcases hy with rfl|rfl|rfl|rfl|rfl<;>first|exact .int _ _|exact .str _|exact bh NT.exact (fun _ h=>nomatch h)) n
theorem mP:SpK 26 (.heap ux):=by
 rintro args H K (⟨l,J,cap,most,r,p,he,hH,hp,hl,hc,hJ,hk1,hk2⟩|⟨most,r,he,hH,hk⟩)
 ·have he:args=_:=he
  have hH:H=_:=hH
  subst he
  subst hH
  have hlen:(flC l++J).length=cap*5:=by rw[List.length_append,eN,hJ.len,← Nat.add_mul]; congr 1; omega
  have hone:(flC l++J).all PV.one=true:=List.all_eq_true.2 (kr l hJ.one)
  refine oH l J cap most r p K ?_
  refine⟨⟨by omega,by omega,by omega,by omega⟩,?_⟩
  rw[aI]
  by_cases c1:p=l.length
  ·rw[if_pos (by simp[c1])]
   subst c1
   refine⟨⟨hc,by rw[hlen]; omega,rfl,rfl,by omega⟩,fun h=>?_,fun h c hcc=>?_⟩
   ·have:=hk1 (J.drop 5) h (hJ.drop.cast (by omega))
    rw[← rh bA r (by rw[hJ.len]; omega)] at this
    rw[Nat.zero_add]
    exact this
   ·have:=hk2 c hcc _ (eb (c-(l.length+1)))
    rw[n5] at this
    rw[List.drop_zero,gb bA J l l.length (Nat.le_refl _),List.take_length]
    simp only[flC,List.map_append,List.flatten_append,List.map_cons,List.map_nil,List.flatten_cons,List.flatten_nil,List.append_nil] at this
    exact this
  ·rw[if_neg (by simp; omega),aI]
   have e1:wI ((l.length:Int)+1)=((l.length+1:Nat):Int):=by rw[cq (by omega) (by omega)]; rfl
   have e2:wI (((l.length+1:Nat):Int)-(p:Int))=((l.length+1-p:Nat):Int):=by rw[cq (by omega) (by omega)]; omega
   have e3:wI ((p:Int)+1)=((p+1:Nat):Int):=by rw[cq (by omega) (by omega)]; rfl
   have e4:p+(l.length+1-p)=l.length+1:=by omega
   simp only[e1,e2,e3,e4,aC,Nat.sub_zero,Nat.zero_add,List.drop_zero,ite_self]
   have t1:List.take (p*5) (flC l++J)=flC (l.take p):=gb bA J l p hp
   have t2:List.take ((l.length-p)*5) (List.drop (p*5) (flC l++J))=flC (l.drop p):=by
    rw[dA bA J l p hp,List.take_left']
    rw[eN,List.length_drop]
   have t3:min 1 (l.length+1-p)=1:=by omega
   have t5:(flC (l.drop p)).length=(l.length-p)*5:=by rw[eN,List.length_drop]
   have t6:(flC (l.drop p)).all PV.one=true:=by
    have:=kr (l.drop p) (J:=[]) (fun _ h=>nomatch h)
    rw[List.append_nil] at this
    exact List.all_eq_true.2 this
   have t7:(flC (l.take p)).length=p*5:=by rw[eN,List.length_take,Nat.min_eq_left hp]
   by_cases c2:cap<l.length+1
   ·rw[if_pos (decide_eq_true (by omega))]
    have n3:¬ cap=p:=by omega
    refine⟨⟨by decide,by omega,by omega,by omega⟩,⟨by omega,by omega,by omega,by omega,by omega⟩,fun c hcc=>?_⟩
    have t4:min (l.length-p) (l.length+1-(p+1))=l.length-p:=by omega
    have n1:¬ c=p:=by omega
    have n2:¬ c=p+1:=by omega
    have hZ:=eb (c-p)
    have t9:(flC (l.take p)++(List.replicate (c-p) zrC).flatten).length=c*5:=by rw[List.length_append,t7,hZ.len,← Nat.add_mul]; congr 1; omega
    simp only[if_neg n1,if_neg n2,if_neg n3,t1,t2,t3,t4,t5,t6]
    refine⟨⟨by omega,by omega,by omega,by omega⟩,⟨Nat.le_trans (show _≤c*5 by omega) (Nat.le_of_eq t9.symm),trivial,rfl⟩,⟨by omega,by omega,by omega,by omega⟩,⟨by omega,by omega,by omega,by omega⟩,by omega,⟨?_,trivial,trivial⟩,?_⟩
    ·have t10:(over (flC (l.take p)++(List.replicate (c-p) zrC).flatten) (p*5) (csC r)).length=c*5:=by rw[bl (by rw[t9,bA]; omega),t9]
     exact Nat.le_trans (show _≤c*5 by omega) (Nat.le_of_eq t10.symm)
    ·have:=hk2 c (by omega) _ ((hZ.drop (k:=(l.length+1-p)*5)).cast (by omega))
     rw[← oD bA r hp (by rw[hZ.len]; omega)] at this
     rw[List.take_of_length_le (Nat.le_of_eq t5)]
     exact this
   ·rw[if_neg (by simp; omega)]
    have n3:¬ cap=p:=by omega
    have n4:¬ cap=p+1:=by omega
    have t9:min (l.length+1-p) (l.length+1-(p+1))=l.length-p:=by omega
    have t10:List.take ((l.length-p)*5) (List.take ((l.length+1-p)*5) (List.drop (p*5) (flC l++J)))=List.take ((l.length-p)*5) (List.drop (p*5) (flC l++J)):=by rw[List.take_take,Nat.min_eq_left (by omega)]
    simp only[if_neg n3,if_neg n4,t3,t9,t10]
    have t11:(List.take ((l.length+1-p)*5) (List.drop (p*5) (flC l++J))).length=(l.length+1-p)*5:=by rw[List.length_take,List.length_drop,hlen]; omega
    have t12:(List.take ((l.length+1-p)*5) (List.drop (p*5) (flC l++J))).all PV.one=true:=List.all_eq_true.2 fun y hy=>List.all_eq_true.1 hone y (List.mem_of_mem_drop (List.mem_of_mem_take hy))
    have t13:(over (flC l++J) ((p+1)*5) (List.take ((l.length-p)*5) (List.drop (p*5) (flC l++J)))).length=cap*5:=by rw[bl (by rw[t2,t5,hlen]; omega),hlen]
    refine⟨⟨by decide,by omega,by omega,by omega⟩,⟨by omega,by omega,by omega,by omega⟩,List.cons_ne_nil _ _,fun h=>?_,⟨by omega,by omega,by omega,by omega⟩,⟨by omega,by omega,by omega,by omega⟩,by omega,⟨by omega,t11,t12⟩,⟨by omega,by omega,by omega,by omega⟩,⟨by omega,trivial,rfl⟩,?_⟩
    ·rw[h] at hlen; simp only[List.length_nil] at hlen; omega
    ·have:=hk1 (J.drop 5) (by omega) (hJ.drop.cast (by omega))
     rw[← sR bA r (by omega) (by rw[hJ.len]; omega)] at this
     exact this
 ·have he:args=_:=he
  have hH:H=_:=hH
  subst he
  subst hH
  exact q4 most r K ⟨⟨by decide,by decide,by decide,by decide,fun _ h=>nomatch h⟩,rfl,by decide,by decide,fun c hc=>hk c hc _ (eb (c-1))⟩
theorem r4 (l:List RwC) (J:List PV) (cap:Nat) (most:Int) (p:Nat):(by refine(?_:_→_→_→Prop) (Int.toNat (l.length:Int)-Int.toNat (↑(p+1):Int)) (Int.toNat (cap:Int)-0) (PV.arr 1 0 l.length cap); exact fun a d j=>by refine(?_:_→_→_→Prop) (List.take (a*5) (List.drop (if Int.toNat (cap:Int)=Int.toNat (↑(p+1):Int) then 0 else 0+Int.toNat (↑(p+1):Int)*5) (flC l++J))) (Ob.cells [j,.I most]) (Int.toNat (p:Int)-0+a); exact fun b f g=>by refine(?_:_→_→_→Prop) (↑g:Int) (over (flC l++J) ((if Int.toNat (cap:Int)=0 then 0 else 0)+(Int.toNat (p:Int)-0)*5) b) [f,.cells (flC l++J)]; exact fun c e i=>by refine(?_:_→Prop) (Int.toNat (l.length:Int)-Int.toNat c); exact fun h=>∀(K:PV→aa→Prop),((0≤(p:Int)∧(p:Int)≤(↑(p+1):Int)∧(↑(p+1):Int)≤(l.length:Int)∧(l.length:Int)≤(cap:Int))∧br ((p:Int) == (↑(p+1):Int)) (K (.arr 1 0 l.length cap) i) ((iI 0≤0∧0≤(p:Int)∧(p:Int)≤(cap:Int)∧(cap:Int)≤(cap:Int))∧(0≤(↑(p+1):Int)∧(↑(p+1):Int)≤(l.length:Int)∧(l.length:Int)≤(cap:Int)∧(cap:Int)≤(cap:Int))∧(if Int.toNat (cap:Int)=Int.toNat (↑(p+1):Int) then 0 else 0+Int.toNat (↑(p+1):Int)*5)+a*5≤List.length (flC l++J)∧(Int.toNat (p:Int)-0≤Int.toNat (cap:Int)-0∧(if Int.toNat (cap:Int)=0 then 0 else 0)+d*5≤List.length (flC l++J)∧List.length b=a*5∧List.all b PV.one=true∧g*72≤140737488355328)∧Int.toNat (p:Int)-0+a≤Int.toNat (cap:Int)-0∧(0≤c∧c≤(l.length:Int)∧(l.length:Int)≤(↑d:Int)∧(↑d:Int)≤(↑d:Int))∧(if Int.toNat (↑d:Int)=Int.toNat c then if Int.toNat (cap:Int)=0 then 0 else 0 else(if Int.toNat (cap:Int)=0 then 0 else 0)+Int.toNat c*5)+h*5≤List.length e∧K (.arr 1 (if Int.toNat (cap:Int)=0 then 0 else 0) g d) [f,.cells (over e (if Int.toNat (↑d:Int)=Int.toNat c then if Int.toNat (cap:Int)=0 then 0 else 0 else(if Int.toNat (cap:Int)=0 then 0 else 0)+Int.toNat c*5) (List.flatten (List.replicate h [.U 0,.U 0,.E,.E,.I 0])))]))→AcK 28 [j,.I p,.I ((p+1:Nat):Int)] i K:Prop):=fun K h=>acW (T:=[]) (L:=[]) (fun o=>match o.op with| .load t _=>(match t with|53=>1|_=>0)|_=>match o.dst with|some 26=>3|_=>0) Try.func28 (aV.nil _ _) (LOk.nil _ _ _ _ _) h
def mO (args:List PV) (H:aa) (K:PV→aa→Prop):Prop:=
 (∃(G:aa) (l:List RwC) (J:List PV) (cap:Nat) (most:Int) (r:RwC) (p:Nat),ag args [.arr 1 0 l.length cap,.I p,.list [csC r] .exact]∧aE H (bw l J cap most++G)∧p≤l.length∧l.length≤1000000∧l.length≤cap∧aT J ((cap-l.length)*5)∧
  (∀(J':List PV),l.length+1≤cap→aT J' ((cap-(l.length+1))*5)→K (.arr 1 0 (l.length+1) cap) ([.cells [.arr 1 0 l.length cap,.I most],.cells (flC (bj l p r)++J')]++G))∧
  (∀(c:Nat),l.length+1≤c→∀(J':List PV),aT J' ((c-(l.length+1))*5)→K (.arr (2+G.length) 0 (l.length+1) c) ([.cells [.arr 1 0 l.length cap,.I most],.cells (flC l++J)]++G++[.cells (flC (bj l p r)++J')])))∨
 (∃(G:aa) (most:Int) (r:RwC),ag args [.E,.I 0,.list [csC r] .exact]∧aE H (fg most++G)∧
  ∀(c:Nat),1≤c→∀(J':List PV),aT J' ((c-1)*5)→K (.arr (1+G.length) 0 1 c) ([.cells [.E,.I most]]++G++[.cells (csC r++J')]))
theorem q8:SpK 26 (.heap mO):=by
 rintro args H K (⟨G,l,J,cap,most,r,p,he,hH,hp,hl,hc,hJ,hk1,hk2⟩|⟨G,most,r,he,hH,hk⟩)
 ·have he:args=_:=he
  have hH:H=_:=hH
  subst he
  subst hH
  refine de ap (by intro y hy; simp only[List.mem_cons,List.not_mem_nil,or_false] at hy; rcases hy with rfl|rfl|rfl; exact .arr _ _ _ _ (by simp[bw]); exact .low (.int _ _); exact .low (bh NT.exact (by intro y hy; simp at hy; exact fy r y hy))) (ec (by simp[bw]) hJ.low) ?_
  refine mP _ _ _ (.inl ⟨l,J,cap,most,r,p,rfl,rfl,hp,hl,hc,hJ,fun J' h1 h2=>?_,fun c h1 J' h2=>?_⟩)
  ·exact⟨_,_,gA rfl (iX (fun y hy=>by simp only[List.mem_cons,List.not_mem_nil,or_false] at hy; rcases hy with rfl|rfl; exact .arr _ _ _ _ (by simp[bw]); exact .low (.int _ _)) (fun y hy=> .low (eK _ h2.low y hy))),Lid.ren (.arr _ _ _ _ (by simp)) (fun o ho=>cz (by simpa[bw] using ho)),hk1 J' h1 h2⟩
  ·exact⟨_,_,jP (X':=[.cells [.arr 1 0 l.length cap,.I most],.cells (flC l++J)]) rfl (ec (by simp[bw]) hJ.low) (eK _ h2.low),lK (X:=bw l J cap most) (X':=[.cells [.arr 1 0 l.length cap,.I most],.cells (flC l++J)]) rfl,hk2 c h1 J' h2⟩
 ·have he:args=_:=he
  have hH:H=_:=hH
  subst he
  subst hH
  refine de ap (by intro y hy; simp only[List.mem_cons,List.not_mem_nil,or_false] at hy; rcases hy with rfl|rfl|rfl; exact .low (bh NT.exact (fun _ h=>nomatch h)); exact .low (.int _ _); exact .low (bh NT.exact (by intro y hy; simp at hy; exact fy r y hy))) fX ?_
  refine mP _ _ _ (.inr ⟨most,r,rfl,rfl,fun c hc J' h2=>?_⟩)
  exact⟨_,_,jP (X':=[.cells [.E,.I most]]) rfl fX (by intro y hy; rcases List.mem_append.1 hy with hy|hy; exact fy r y hy; exact h2.low y hy),lK (X:=fg most) (X':=[.cells [.E,.I most]]) rfl,hk c hc J' h2⟩
def TPC:Tab:=(26,.heap mO)::(25,.read kF)::TGC
theorem kD:TbK TPC:= .cons q8 (.cons jZ l5)
theorem o5 (l:List RwC) (J:List PV) (cap:Nat) (most:Int) (t:Int) (v:Ck):(by refine(?_:_→_→_→_→Prop) (PV.list (en1 .u32 v.pl) .no) (PV.list (en1 .u32 v.ys) .no) (PV.arr 1 0 l.length cap) (Ob.cells (flC l++J)); exact fun o q s u=>by refine(?_:_→_→Prop) [PV.U v.id,o,q,.I v.un] [s,.I most]; exact fun m n=>by refine(?_:_→Prop) [Ob.cells n,u,.cells m]; exact fun k=>∀(K:PV→aa→Prop),(br (!av t) (K (.I 14) k) (∃(l_1:List RwC) (most_1:Int) (t_1:Int),by refine(?_:_→Prop) (↑(lbp l_1 t_1):Int); exact fun i=>by refine(?_:_→_→Prop) [s,.I i,.list [[PV.U t,.U v.id,o,q,.I v.un]] .exact] (0+Int.toNat i*5+1); exact fun h j=>ag [.ptr 0 0,.U t] [.ptr 0 0,.U t_1]∧jh l_1 most_1 k∧Ok l_1 most_1∧br (has l_1 t_1) ((0≤i∧i<(l.length:Int))∧br (4 == 4 && List.all m PV.one && decide (0+Int.toNat i*5+1+4≤List.length (flC l++J)) && cA 0 1 j 4) (K (.I 0) [.cells n,.cells (over (flC l++J) j m),.cells m]) False) (br (decide ((l.length:Int)≥most)) (K (.I 10) k) ((∃(G:aa) (l_2:List RwC) (J_1:List PV) (cap_1:Nat) (most_2:Int) (r:RwC) (p:Nat),by refine(?_:_→Prop) (PV.arr 1 0 l_2.length cap_1); exact fun d=>by refine(?_:_→Prop) (Ob.cells [d,.I most_2]); exact fun a=>by refine(?_:_→Prop) [a,.cells (flC l_2++J_1)]; exact fun b=>ag h [d,.I p,.list [[PV.U r.id,.U r.v.id,.list (en1 .u32 r.v.pl) .no,.list (en1 .u32 r.v.ys) .no,.I r.v.un]] .exact]∧aE k (b++G)∧p≤l_2.length∧l_2.length≤1000000∧l_2.length≤cap_1∧aT J_1 ((cap_1-l_2.length)*5)∧(∀(J':List PV),l_2.length+1≤cap_1→aT J' ((cap_1-(l_2.length+1))*5)→K (.I 0) (List.set ([a,.cells (flC (bj l_2 p r)++J')]++G) 0 (.cells [.arr 1 0 (l_2.length+1) cap_1,.I most_2])))∧∀(c:Nat),l_2.length+1≤c→∀(J':List PV),aT J' ((c-(l_2.length+1))*5)→K (.I 0) (List.set (b++G++[.cells (flC (bj l_2 p r)++J')]) 0 (.cells [.arr (2+G.length) 0 (l_2.length+1) c,.I most_2])))∨∃(G:aa) (most_2:Int) (r:RwC),by refine(?_:_→_→_→Prop) [Ob.cells [.E,.I most_2]] (PV.list (en1 .u32 r.v.pl) .no) (PV.list (en1 .u32 r.v.ys) .no); exact fun e f g=>ag h [.E,.I 0,.list [[PV.U r.id,.U r.v.id,f,g,.I r.v.un]] .exact]∧aE k (e++G)∧∀(c:Nat),1≤c→∀(J':List PV),aT J' ((c-1)*5)→K (.I 0) (List.set (e++G++[.cells ([.U r.id,.U r.v.id,f,g,.I r.v.un]++J')]) 0 (.cells [.arr (1+G.length) 0 1 c,.I most_2]))))))→AcK 16 [.ptr 0 0,.U t,Ck.pv v] [.cells n,u] K:Prop):=fun K h=>acW (T:=TPC) (L:=[([1,1,1,1,0,0,1,1,1,1],ul br Try.prog gl TPC (fun o=>match o.op with| .load t _=>(match t with|53=>1|_=>0)|_=>0) (gD [1,1,1,1,0,0,1,1,1,1] (ar Try.f16)) 10 [0,1,2,3,4,5,6,7,8,9,11,12] [13])]) (fun o=>match o.op with| .load t _=>(match t with|53=>1|_=>0)|_=>0) Try.func16 (kD) (.cons (show sub [1,1,1,1,0,0,1,1,1,1] (ar Try.f16)=some (gD [1,1,1,1,0,0,1,1,1,1] (ar Try.f16)) from by kernel_rfl) (mY kD (by kernel_rfl) (by kernel_rfl)) (.nil _ _ _ _ _)) h
theorem qA (most t:Int) (v:Ck):(by refine(?_:_→_→_→Prop) [PV.E,.I most] (PV.list (en1 .u32 v.pl) .no) (PV.list (en1 .u32 v.ys) .no); exact fun k m n=>by refine(?_:_→Prop) [Ob.cells k,.cells [.U v.id,m,n,.I v.un]]; exact fun j=>∀(K:PV→aa→Prop),(br (!av t) (K (.I 14) j) (∃(l:List RwC) (most_1:Int) (t_1:Int),by refine(?_:_→Prop) (↑(lbp l t_1):Int); exact fun i=>by refine(?_:_→Prop) [PV.E,.I i,.list [[PV.U t,.U v.id,m,n,.I v.un]] .exact]; exact fun h=>ag [.ptr 0 0,.U t] [.ptr 0 0,.U t_1]∧jh l most_1 j∧Ok l most_1∧br (has l t_1) (InL [] 5 i∧False) (br (decide (0≥most)) (K (.I 10) j) ((∃(G:aa) (l_1:List RwC) (J:List PV) (cap:Nat) (most_2:Int) (r:RwC) (p:Nat),by refine(?_:_→Prop) (PV.arr 1 0 l_1.length cap); exact fun d=>by refine(?_:_→Prop) (Ob.cells [d,.I most_2]); exact fun a=>by refine(?_:_→Prop) [a,.cells (flC l_1++J)]; exact fun b=>ag h [d,.I p,.list [[PV.U r.id,.U r.v.id,.list (en1 .u32 r.v.pl) .no,.list (en1 .u32 r.v.ys) .no,.I r.v.un]] .exact]∧aE j (b++G)∧p≤l_1.length∧l_1.length≤1000000∧l_1.length≤cap∧aT J ((cap-l_1.length)*5)∧(∀(J':List PV),l_1.length+1≤cap→aT J' ((cap-(l_1.length+1))*5)→K (.I 0) (List.set ([a,.cells (flC (bj l_1 p r)++J')]++G) 0 (.cells [.arr 1 0 (l_1.length+1) cap,.I most_2])))∧∀(c:Nat),l_1.length+1≤c→∀(J':List PV),aT J' ((c-(l_1.length+1))*5)→K (.I 0) (List.set (b++G++[.cells (flC (bj l_1 p r)++J')]) 0 (.cells [.arr (2+G.length) 0 (l_1.length+1) c,.I most_2])))∨∃(G:aa) (most_2:Int) (r:RwC),by refine(?_:_→_→_→Prop) [Ob.cells [.E,.I most_2]] (PV.list (en1 .u32 r.v.pl) .no) (PV.list (en1 .u32 r.v.ys) .no); exact fun e f g=>ag h [.E,.I 0,.list [[PV.U r.id,.U r.v.id,f,g,.I r.v.un]] .exact]∧aE j (e++G)∧∀(c:Nat),1≤c→∀(J':List PV),aT J' ((c-1)*5)→K (.I 0) (List.set (e++G++[.cells ([.U r.id,.U r.v.id,f,g,.I r.v.un]++J')]) 0 (.cells [.arr (1+G.length) 0 1 c,.I most_2]))))))→AcK 16 [.ptr 0 0,.U t,Ck.pv v] [.cells k] K:Prop):=fun K h=>acW (T:=TPC) (L:=[([1,1,1,1,0,0,1,1,1,1],ul br Try.prog gl TPC (fun o=>match o.op with| .load t _=>(match t with|53=>1|_=>0)|_=>0) (gD [1,1,1,1,0,0,1,1,1,1] (ar Try.f16)) 10 [0,1,2,3,4,5,6,7,8,9,11,12] [13])]) (fun o=>match o.op with| .load t _=>(match t with|53=>1|_=>0)|_=>0) Try.func16 (kD) (.cons (show sub [1,1,1,1,0,0,1,1,1,1] (ar Try.f16)=some (gD [1,1,1,1,0,0,1,1,1,1] (ar Try.f16)) from by kernel_rfl) (mY kD (by kernel_rfl) (by kernel_rfl)) (.nil _ _ _ _ _)) h
theorem qF {l:List RwC} {J:List PV} {cap:Nat} {most:Int} (h:∀ y∈J,Low 2 y):∀(o:Nat) cs,(bw l J cap most)[o]?=some (.cells cs)→∀ x∈cs,Low (bw l J cap most).length x:=by
 intro o cs ho x hx
 have e1:=(List.getElem?_eq_some_iff.1 ho).1
 simp[bw] at e1
 rcases Nat.eq_zero_or_pos o with rfl|h0
 ·cases ho
  simp only[List.mem_cons,List.not_mem_nil,or_false] at hx
  rcases hx with rfl|rfl
  ·exact .arr _ _ _ _ (by simp[bw])
  ·exact .int _ _
 ·have:o=1:=by omega
  subst this
  cases ho
  exact eK l h x hx
def rkC (l:List RwC) (most:Int):Rep:=whole (EXC l most)
theorem cC {l:List RwC} {J:List PV} {cap:Nat} {most:Int} {T:aa} {k:Nat} (hk:T[k]?=some (.cells (flC l++J))) (h:l.length≤cap) (hJ:aT J ((cap-l.length)*5)):df (EXC l most) (.cells [.arr (k+1) 0 l.length cap,.I most]::T):=
 ⟨bw l J cap most,_,sY hk (fun y hy=>by rcases List.mem_singleton.1 hy with rfl; exact .int _ _) (eK l hJ.low),rfl,.inl ⟨J,cap,rfl,h,hJ⟩,nf⟩
theorem eR {most:Int} {T:aa}:df (EXC [] most) (.cells [.E,.I most]::T):=
 ⟨fg most,_,sub_one T (fun y hy=>by simp only[List.mem_cons,List.not_mem_nil,or_false] at hy; rcases hy with rfl|rfl; exact bh NT.exact (fun _ h=>nomatch h); exact .int _ _),rfl,.inr ⟨rfl,rfl⟩,nf⟩
theorem qB {l:List RwC} {most:Int} {H:aa} (h:EXC l most H):df (EXC l most) H:=by
 rcases h with⟨J,cap,rfl,hc,hJ⟩|⟨rfl,rfl⟩
 ·exact cC (k:=0) rfl hc hJ
 ·exact eR
def uq (args:List PV) (H:aa) (K:PV→aa→Prop):Prop:=
 ∃(l:List RwC) (J:List PV) (cap:Nat) (most:Int) (p:Nat),ag args [.arr 1 0 l.length cap,.I p,.I ((p+1:Nat):Int)]∧aE H (bw l J cap most)∧p<l.length∧l.length≤1000000∧l.length≤cap∧aT J ((cap-l.length)*5)∧
  K (.arr 1 0 (l.length-1) cap) [.cells [.arr 1 0 l.length cap,.I most],.cells (flC (l.eraseIdx p)++(zrC++J))]
theorem sJ:SpK 28 (.heap uq):=by
 rintro args H K ⟨l,J,cap,most,p,he,hH,hp,hl,hc,hJ,hk⟩
 have he:args=_:=he
 have hH:H=_:=hH
 subst he
 subst hH
 have hlen:(flC l++J).length=cap*5:=by rw[List.length_append,eN,hJ.len,← Nat.add_mul]; congr 1; omega
 have hone:(flC l++J).all PV.one=true:=List.all_eq_true.2 (kr l hJ.one)
 refine r4 l J cap most p K ?_
 refine⟨⟨by omega,by omega,by omega,by omega⟩,?_⟩
 rw[aI,if_neg (by simp; omega)]
 have e4:p+(l.length-(p+1))=l.length-1:=by omega
 have e5:l.length-(l.length-1)=1:=by omega
 simp only[aC,Nat.sub_zero,Nat.zero_add,ite_self,e4,e5]
 have n1:¬ cap=l.length-1:=by omega
 have t11:(List.take ((l.length-(p+1))*5) (List.drop (if cap=p+1 then 0 else(p+1)*5) (flC l++J)))=List.take ((l.length-(p+1))*5) (List.drop ((p+1)*5) (flC l++J)):=by
  split
  ·rw[show l.length-(p+1)=0 by omega,Nat.zero_mul,List.take_zero,List.take_zero]
  ·rfl
 have t12:(List.take ((l.length-(p+1))*5) (List.drop ((p+1)*5) (flC l++J))).length=(l.length-(p+1))*5:=by rw[List.length_take,List.length_drop,hlen]; omega
 have t13:(List.take ((l.length-(p+1))*5) (List.drop ((p+1)*5) (flC l++J))).all PV.one=true:=List.all_eq_true.2 fun y hy=>List.all_eq_true.1 hone y (List.mem_of_mem_drop (List.mem_of_mem_take hy))
 simp only[t11,if_neg n1,pL bA hp]
 have hle:l.length-1=(l.eraseIdx p).length:=by rw[List.length_eraseIdx_of_lt hp]
 refine⟨⟨by decide,by omega,by omega,by omega⟩,⟨by omega,by omega,by omega,by omega⟩,by split<;>omega,⟨by omega,by omega,t12,t13,by omega⟩,by omega,⟨by omega,by omega,by omega,by omega⟩,?_,?_⟩
 ·simp only[List.length_append,aS bA,← hle,bA,hJ.len]; omega
 ·rw[hle]
  rw[hle] at hk
  rw[← oh (z:=zrC) bA (l.getLast (List.ne_nil_of_length_pos (by omega))) rfl] at hk
  exact hk
theorem vK {l:List RwC} {J:List PV} {p:Nat} {t:Int} {v:Ck} (hp:p<l.length) (ht:(l.getD p default).id=t):over (flC l++J) (p*5+1) (let r:RwC:=⟨t,v⟩; [.U r.v.id,.list (en1 .u32 r.v.pl) .no,.list (en1 .u32 r.v.ys) .no,.I r.v.un])=flC (l.set p ⟨t,v⟩)++J:=by
 have e1:flC l++J=(flC (l.take p)++[.U t])++(let r:RwC:=l.getD p default; [.U r.v.id,.list (en1 .u32 r.v.pl) .no,.list (en1 .u32 r.v.ys) .no,.I r.v.un])++(flC (l.drop (p+1))++J):=by
  unfold flC
  rw[cZ l p,List.drop_eq_getElem_cons hp,List.map_cons,List.flatten_cons,← ht,aH hp]
  simp[csC]
 rw[bP e1 (by rw[List.length_append,aS bA,List.length_take,Nat.min_eq_left (by omega)]; rfl) (by rfl),List.set_eq_take_append_cons_drop,if_pos hp]
 simp[flC,csC]
def uX (args:List PV) (H:aa) (K:PV→aa→Prop):Prop:=
 ∃(l:List RwC) (most t:Int) (v:Ck),ag args [.ptr 0 0,.U t,Ck.pv v]∧EXC l most H∧Ok l most∧∀(H':aa),df (EXC (cM l most t v).1 most) H'→K (.I (cM l most t v).2) H'
theorem rp:SpK 16 (.heap uX):=by
 rintro args H K ⟨l,most,t,v,he,hH,ok,hk⟩
 have he:args=_:=he
 subst he
 unfold cM at hk
 rcases hH with⟨J,cap,rfl,hc,hJ⟩|⟨rfl,rfl⟩
 ·have hlen:(flC l++J).length=cap*5:=by rw[List.length_append,eN,hJ.len,← Nat.add_mul]; congr 1; omega
  refine o5 l J cap most t v K ?_
  rw[aI]
  by_cases c:av t=true
  ·rw[if_neg (by simp[c])]
   rw[if_pos c] at hk
   refine⟨l,most,t,rfl,⟨_,[_],rfl,mR hc hJ⟩,ok,?_⟩
   simp only[aI]
   by_cases c2:has l t=true
   ·rw[if_pos c2]
    rw[if_pos c2] at hk
    obtain⟨h1,h2⟩:=eE c2
    refine⟨⟨by omega,by omega⟩,?_⟩
    simp only[aC,Nat.zero_add]
    rw[if_pos (by rw[decide_eq_true (by rw[hlen]; omega)]; rfl)]
    have h3:=cC (most:=most) (l:=l.set (lbp l t) ⟨t,v⟩) (J:=J) (cap:=cap) (k:=0) (T:=[.cells (flC (l.set (lbp l t) ⟨t,v⟩)++J),.cells [.U v.id,.list (en1 .u32 v.pl) .no,.list (en1 .u32 v.ys) .no,.I v.un]]) rfl (by simpa using hc) (by simpa using hJ)
    rw[List.length_set,← vK h1 h2] at h3
    exact hk _ h3
   ·rw[if_neg c2]
    rw[if_neg c2] at hk
    by_cases c3:(l.length:Int)≥most
    ·rw[if_pos (decide_eq_true c3)]
     rw[if_pos c3] at hk
     exact hk _ (cC (k:=0) rfl hc hJ)
    ·rw[if_neg (by simpa using c3)]
     rw[if_neg c3] at hk
     have hi:(bj l (lbp l t) ⟨t,v⟩).length=l.length+1:=fl (qE l t)
     refine .inl ⟨[.cells [.U v.id,.list (en1 .u32 v.pl) .no,.list (en1 .u32 v.ys) .no,.I v.un]],l,J,cap,most,⟨t,v⟩,lbp l t,rfl,rfl,qE l t,ok.len,hc,hJ,fun J' h1 h2=>?_,fun c h1 J' h2=>?_⟩
     ·rw[← hi]
      exact hk _ (cC (k:=0) rfl (by rw[hi]; exact h1) (by rw[hi]; exact h2))
     ·have:=hk _ (cC (l:=bj l (lbp l t) ⟨t,v⟩) (J:=J') (cap:=c) (most:=most) (k:=2) (T:=[.cells (flC l++J),.cells [.U v.id,.list (en1 .u32 v.pl) .no,.list (en1 .u32 v.ys) .no,.I v.un],.cells (flC (bj l (lbp l t) ⟨t,v⟩)++J')]) rfl (by rw[hi]; exact h1) (by rw[hi]; exact h2))
      rw[hi] at this
      exact this
  ·rw[if_pos (by simpa using c)]
   rw[if_neg c] at hk
   exact hk _ (cC (k:=0) rfl hc hJ)
 ·refine qA most t v K ?_
  rw[aI]
  by_cases c:av t=true
  ·rw[if_neg (by simp[c])]
   rw[if_pos c,nr,if_neg (by decide)] at hk
   refine⟨[],most,t,rfl,⟨_,[_],rfl,q9⟩,ok,?_⟩
   rw[nr]
   simp only[aI]
   rw[if_neg (by decide)]
   by_cases c3:0≥most
   ·rw[if_pos (decide_eq_true c3)]
    rw[if_pos (by simpa using c3)] at hk
    exact hk _ eR
   ·rw[if_neg (by simpa using c3)]
    rw[if_neg (by simpa using c3)] at hk
    refine .inr ⟨[.cells [.U v.id,.list (en1 .u32 v.pl) .no,.list (en1 .u32 v.ys) .no,.I v.un]],most,⟨t,v⟩,rfl,rfl,fun c hc J' hJ=>?_⟩
    exact hk _ (cC (l:=[⟨t,v⟩]) (k:=1) rfl hc hJ)
  ·rw[if_pos (by simpa using c)]
   rw[if_neg c] at hk
   exact hk _ eR
def nn (args:List PV) (H:aa) (K:PV→aa→Prop):Prop:=
 ∃(v:Ck) (l:List RwC) (J:List PV) (cap:Nat) (most:Int) (p:Nat),ag args [.arr 1 0 l.length cap,.I p,.I ((p+1:Nat):Int)]∧aE H (bw l J cap most++[.cells [.U 0,.E,.E,.I 0],.cells [.U v.id,.list (en1 .u32 v.pl) .no,.list (en1 .u32 v.ys) .no,.I v.un]])∧p<l.length∧l.length≤1000000∧l.length≤cap∧aT J ((cap-l.length)*5)∧
  K (.arr 1 0 (l.length-1) cap) ([.cells [.arr 1 0 l.length cap,.I most],.cells (flC (l.eraseIdx p)++(zrC++J))]++[.cells [.U 0,.E,.E,.I 0],.cells [.U v.id,.list (en1 .u32 v.pl) .no,.list (en1 .u32 v.ys) .no,.I v.un]])
theorem qY:SpK 28 (.heap nn):=by
 rintro args H K ⟨v,l,J,cap,most,p,he,hH,hp,hl,hc,hJ,hk⟩
 have he:args=_:=he
 have hH:H=_:=hH
 subst he
 subst hH
 refine de ap (by intro y hy; simp only[List.mem_cons,List.not_mem_nil,or_false] at hy; rcases hy with rfl|rfl|rfl; exact .arr _ _ _ _ (by simp[bw]); exact .low (.int _ _); exact .low (.int _ _)) (ec (by simp[bw]) hJ.low) ?_
 refine sJ _ _ _ ⟨l,J,cap,most,p,rfl,rfl,hp,hl,hc,hJ,?_⟩
 have hz:=(eb 1).low
 simp only[List.replicate,List.flatten_cons,List.flatten_nil,List.append_nil] at hz
 exact⟨_,_,gA rfl (iX (fun y hy=>by simp only[List.mem_cons,List.not_mem_nil,or_false] at hy; rcases hy with rfl|rfl; exact .arr _ _ _ _ (by simp[bw]); exact .low (.int _ _)) (fun y hy=> .low (eK _ (fun y hy=>by rcases List.mem_append.1 hy with hy|hy; exact hz y hy; exact hJ.low y hy) y hy))),Lid.ren (.arr _ _ _ _ (by simp)) (fun o ho=>cz (by simpa[bw] using ho)),hk⟩
def TDC:Tab:=(28,.heap nn)::(25,.read kF)::(14,.read qt)::TGC
theorem qZ:TbK TDC:= .cons qY (.cons jZ (.cons sW l5))
theorem py (l:List RwC) (J:List PV) (cap:Nat) (most:Int) (t:Int):(by refine(?_:_→_→_→_→Prop) (Ob.cells [.U 0,.E,.E,.I 0]) [PV.arr 1 0 l.length cap,.I most] (Ob.cells (flC l++J)) [PV.ptr 0 0,.U t]; exact fun f g h i=>∀(K:PV→aa→Prop),(∃(l_1:List RwC) (most_1:Int) (t_1:Int),by refine(?_:_→_→Prop) [PV.U (Ck.id (a9 l_1 t_1)),.list (en1 .u32 (Ck.pl (a9 l_1 t_1))) .no,.list (en1 .u32 (Ck.ys (a9 l_1 t_1))) .no,.I (Ck.un (a9 l_1 t_1))] (PV.bool (has l_1 t_1)); exact fun c e=>by refine(?_:_→Prop) [Ob.cells g,h,f,.cells c]; exact fun d=>ag i [.ptr 0 0,.U t_1]∧jh l_1 most_1 [.cells g,h,f]∧Ok l_1 most_1∧br (has l_1 t_1) (∃(l_2:List RwC) (most_2:Int) (t_2:Int),ag i [.ptr 0 0,.U t_2]∧jh l_2 most_2 d∧Ok l_2 most_2∧∃(v:Ck) (l_3:List RwC) (J_1:List PV) (cap_1:Nat) (most_3:Int) (p:Nat),by refine(?_:_→_→Prop) [PV.U v.id,.list (en1 .u32 v.pl) .no,.list (en1 .u32 v.ys) .no,.I v.un] (PV.arr 1 0 l_3.length cap_1); exact fun a b=>ag [.arr 1 0 l.length cap,.I (↑(lbp l_2 t_2):Int),.I (wI ((↑(lbp l_2 t_2):Int)+1))] [b,.I p,.I (↑(p+1):Int)]∧aE d [.cells [b,.I most_3],.cells (flC l_3++J_1),f,.cells a]∧p<l_3.length∧l_3.length≤1000000∧l_3.length≤cap_1∧aT J_1 ((cap_1-l_3.length)*5)∧K (.tup [.agg a,e]) [.cells [.arr 1 0 (l_3.length-1) cap_1,.I most_3],.cells (flC (List.eraseIdx l_3 p)++([.U 0,.U 0,.E,.E,.I 0]++J_1)),.cells a,.cells a]) (K (.tup [.agg c,e]) [.cells g,h,.cells c,.cells c]))→AcK 19 i [.cells g,h] K:Prop):=fun K h=>acW (T:=TDC) (L:=[]) (fun o=>match o.op with| .load t _=>(match t with|53=>1|_=>0)|_=>0) Try.func19 (qZ) (LOk.nil _ _ _ _ _) h
theorem oS (most t:Int):(by refine(?_:_→_→_→Prop) [PV.U 0,.E,.E,.I 0] [PV.E,.I most] [PV.ptr 0 0,.U t]; exact fun f g h=>∀(K:PV→aa→Prop),(∃(l:List RwC) (most_1:Int) (t_1:Int),by refine(?_:_→Prop) [PV.U (Ck.id (a9 l t_1)),.list (en1 .u32 (Ck.pl (a9 l t_1))) .no,.list (en1 .u32 (Ck.ys (a9 l t_1))) .no,.I (Ck.un (a9 l t_1))]; exact fun d=>by refine(?_:_→Prop) [Ob.cells g,.cells f,.cells d]; exact fun e=>ag h [.ptr 0 0,.U t_1]∧jh l most_1 [.cells g,.cells f]∧Ok l most_1∧br (has l t_1) (∃(l_1:List RwC) (most_2:Int) (t_2:Int),ag h [.ptr 0 0,.U t_2]∧jh l_1 most_2 e∧Ok l_1 most_2∧∃(v:Ck) (l_2:List RwC) (J:List PV) (cap:Nat) (most_3:Int) (p:Nat),by refine(?_:_→_→_→Prop) (flC (List.eraseIdx l_2 p)++([.U 0,.U 0,.E,.E,.I 0]++J)) (Ob.cells [.U v.id,.list (en1 .u32 v.pl) .no,.list (en1 .u32 v.ys) .no,.I v.un]) (PV.arr 1 0 l_2.length cap); exact fun a b c=>ag [.E,.I (↑(lbp l_1 t_2):Int),.I (wI ((↑(lbp l_1 t_2):Int)+1))] [c,.I p,.I (↑(p+1):Int)]∧aE e [.cells [c,.I most_3],.cells (flC l_2++J),.cells f,b]∧p<l_2.length∧l_2.length≤1000000∧l_2.length≤cap∧aT J ((cap-l_2.length)*5)∧br (true && decide (4≤List.length a) && cA 0 1 0 4) (K (.tup [.agg f,.bool (has l t_1)]) [.cells [.arr 1 0 (l_2.length-1) cap,.I most_3],.cells (over a 0 f),.cells f,b]) False) (K (.tup [.agg d,.bool (has l t_1)]) [.cells g,.cells d,.cells d]))→AcK 19 h [.cells g] K:Prop):=fun K h=>acW (T:=TDC) (L:=[]) (fun o=>match o.op with| .load t _=>(match t with|53=>1|_=>0)|_=>0) Try.func19 (qZ) (LOk.nil _ _ _ _ _) h
theorem sx (n:Int)  (K:PV→aa→Prop) (h:K (.ptr 0 0) [.cells [.E,.I (mxI 0 n)]]):AcK 12 [.I n] [] K:=
 acW (T:=[]) (L:=[]) (fun _=>0) Try.func12 (aV.nil _ _) (LOk.nil _ _ _ _ _) h
theorem oK (l:List RwC) (J:List PV) (cap:Nat) (most:Int):(by refine(?_:_→_→_→_→Prop) (List.drop 0 (flC l++J)) (PV.arr 1 0 l.length cap) (Ob.cells (flC l++J)) (PV.I l.length); exact fun a b g h=>by refine(?_:_→_→_→_→Prop) [PV.ptr 0 0,.E,b,h,.I 0] (Ob.cells [b,.I most]) [[PV.U (cI a 0)]] (PV.U (cI a 0)); exact fun c d f i=>∀(R:Ex→List PV→aa→Prop),(br (decide (0<(l.length:Int))) ((iI 0≤0∧0<(l.length:Int))∧br (true && cN [.int .u32,.int .u32,.list,.list,.int .i64] 0 a) (fU [] f 1 4∧(List.all [i] PV.one=true∧f≠[])∧R .normal [.ptr 0 0,.list f (.tok 3),b,h,.I 1] [d,g,.cells [i,.U (cI a 1),.list (cL a 2) (cT a 2),.list (cL a 3) (cT a 3),.I (cI a 4)],.tok]) False) (R (.exit 0) c [d,g]))→Holds (wpK [] [] (fun o=>match o.op with| .load t _=>(match t with|53=>1|_=>0)|_=>match o.dst with|some 21=>1|_=>0) (aL [1,1,0,1,0,1,0] (ar Try.f29)) [] (aj [0,3,11,12,13] c) [d,g] (fun ex e H=>R ex (List.map e [0,3,11,12,13]) H)):Prop):=fun R h=>hoE h
theorem pW (l:List RwC) (J:List PV) (cap:Nat) (most:Int) (es:List (List PV)) (i:Nat):(by refine(?_:_→_→_→_→Prop) (List.drop (0+Int.toNat (i:Int)*5) (flC l++J)) (PV.arr 1 0 l.length cap) (Ob.cells (flC l++J)) (PV.I l.length); exact fun a b h j=>by refine(?_:_→_→_→_→Prop) [PV.ptr 0 0,.list es (.tok 2),b,j,.I i] [[PV.U (cI a 0)]] [b,.I most] (PV.U (cI a 0)); exact fun c f g k=>by refine(?_:_→Prop) [Ob.cells g,h,.tok]; exact fun d=>∀(R:Ex→List PV→aa→Prop),(br (decide ((i:Int)<(l.length:Int))) ((0≤(i:Int)∧(i:Int)<(l.length:Int))∧br (true && cN [.int .u32,.int .u32,.list,.list,.int .i64] 0 a) (fU es f 1 4∧(List.all [k] PV.one=true∧f≠[])∧R .normal [.ptr 0 0,.list (es++f) (.tok 4),b,j,.I (wI ((i:Int)+1))] [.cells g,h,.dead,.cells [k,.U (cI a 1),.list (cL a 2) (cT a 2),.list (cL a 3) (cT a 3),.I (cI a 4)],.tok]) False) (R (.exit 0) c d))→Holds (wpK [] [] (fun o=>match o.op with| .load t _=>(match t with|53=>1|_=>0)|_=>match o.dst with|some 21=>1|_=>0) (aL [1,1,0,1,0,1,0] (ar Try.f29)) [] (aj [0,3,11,12,13] c) d (fun ex e H=>R ex (List.map e [0,3,11,12,13]) H)):Prop):=fun R h=>hoE h
theorem pK (most:Int):(by refine(?_:_→_→Prop) [PV.ptr 0 0,.E,.E,.I 0,.I 0] [Ob.cells [.E,.I most]]; exact fun a b=>∀(R:Ex→List PV→aa→Prop),(R (.exit 0) a b)→Holds (wpK [] [] (fun o=>match o.op with| .load t _=>(match t with|53=>1|_=>0)|_=>0) (aL [1,1,0,1,0,1,0] (ar Try.f29)) [] (aj [0,3,11,12,13] a) b (fun ex e H=>R ex (List.map e [0,3,11,12,13]) H)):Prop):=fun R h=>hoE h
theorem vS (l:List RwC):uni 1 (eU l):=by
 intro e he
 obtain⟨a,_,rfl⟩:=List.mem_map.1 he
 rfl
theorem jD {l:List RwC} {i:Nat} (h:i<l.length):eU (l.take (i+1))=eU (l.take i)++[[.U (l.getD i default).id]]:=by
 unfold eU
 rw[← List.take_append_getElem h,List.map_append,aH h]; rfl
def qR:LSp:=fun e H Q=>∃(l:List RwC) (J:List PV) (cap:Nat) (most:Int),l.length≤1000000∧(∀ y∈J,Low 2 y)∧ag (List.map e [0,3,11,12,13]) [.ptr 0 0,.E,.arr 1 0 l.length cap,.I l.length,.I 0]∧aE H (bw l J cap most)∧
 Q (.exit 0) (aj [0,3,11,12,13] [.ptr 0 0,.list (eU l) .no,.arr 1 0 l.length cap,.I l.length,.I l.length]) (bw l J cap most++[.dead])
theorem nI:∀ e H Q,qR e H Q→AwK Try.f29.ntmps (.loop (aL [1,1,0,1,0,1,0] (ar Try.f29))) Q e H:=by
 rintro e H Q ⟨l,J,cap,most,hl,hJ,he,hH,hQ⟩
 have hH2:H=bw l J cap most:=hH
 refine s6 (f:=fun r:RwC=>[PV.U r.id]) (T:=l) (hn:=fun o=>match o.op with| .load t _=>(match t with|53=>1|_=>0)|_=>match o.dst with|some 21=>1|_=>0) ap (.nil _ _) (.nil _ _ _ _ _) [0,3,11,12,13] (fun r i=>[.ptr 0 0,r,.arr 1 0 l.length cap,.I l.length,.I i]) (bw l J cap most)
  (qF hJ) (fun b _ x hx=>by rcases List.mem_singleton.1 hx with rfl; exact .int _ _)
  (fun es i k h=> .same (.ptr _ _ (by simp[bw])) (.row h (.same (.arr _ _ _ _ (by simp[bw])) (.same (.int _ _) (.same (.int _ _) .nil))))) he hH2 ?_ ?_
 ·refine oK l J cap most _ ?_
  simp only[aI,dt]
  by_cases h:0<l.length
  ·rw[if_pos (by omega)]
   refine⟨⟨by decide,by omega⟩,?_⟩
   have e0:=hY J h
   rw[Nat.zero_mul] at e0
   rw[e0,if_pos (by rfl)]
   refine⟨⟨(by intro e he; simp at he),(by intro e he; simp at he; subst he; rfl),by simp⟩,⟨by rfl,by simp⟩,h,_,3,rfl,rfl,by simp[bw],?_⟩
   have:=jD h
   unfold eU at this
   rw[this]; rfl
  ·rw[if_neg (by omega)]
   have hm:l=[]:=List.eq_nil_of_length_eq_zero (by omega)
   subst hm
   exact⟨_,_,.cons (.refl _) (.cons (.list _ _) (.cons (.refl _) (.cons (.refl _) (.cons (.refl _) .nil)))),pZ _,hQ⟩
 ·intro i h0 hi
  refine pW l J cap most (eU (l.take i)) i _ ?_
  simp only[aI,dt,aC,Nat.zero_add]
  by_cases h:i<l.length
  ·rw[if_pos (by omega)]
   refine⟨⟨by omega,by omega⟩,?_⟩
   rw[hY J h,if_pos (by rfl)]
   refine⟨⟨vS _,(by intro e he; simp at he; subst he; rfl),by simp only[eU,List.length_map,List.length_take,List.length_cons,List.length_nil]; omega⟩,⟨by rfl,by simp⟩,h,_,4,rfl,rfl,by simp[bw],?_⟩
   have:=jD h
   unfold eU at this
   rw[this,aW h (by omega)]; rfl
  ·rw[if_neg (by omega)]
   have hm:i=l.length:=by omega
   subst hm
   rw[List.take_length]
   exact⟨_,_,.cons (.refl _) (.cons (.list _ _) (.cons (.refl _) (.cons (.refl _) (.cons (.refl _) .nil)))),p4 (bw l J cap most) .tok,hQ⟩
def oz:LSp:=fun e H Q=>∃(most:Int),ag (List.map e [0,3,11,12,13]) [.ptr 0 0,.E,.E,.I 0,.I 0]∧aE H (fg most)∧
 Q (.exit 0) (aj [0,3,11,12,13] [.ptr 0 0,.E,.E,.I 0,.I 0]) (fg most)
theorem nw:∀ e H Q,oz e H Q→AwK Try.f29.ntmps (.loop (aL [1,1,0,1,0,1,0] (ar Try.f29))) Q e H:=by
 rintro e H Q ⟨most,he,hH,hQ⟩
 refine aZ (hn:=fun o=>match o.op with| .load t _=>(match t with|53=>1|_=>0)|_=>0) ap (.nil _ _) (.nil _ _ _ _ _) (σ:=Unit) [0,3,11,12,13] (fun _=>True)
  (fun _=>[.ptr 0 0,.E,.E,.I 0,.I 0]) (fun _=>fg most) (fun _=>0) () trivial he hH ?_
 intro _ _
 exact pK most _ hQ
theorem qq (l:List RwC) (J:List PV) (cap:Nat) (most:Int):(by refine(?_:_→Prop) (PV.arr 1 0 l.length cap); exact fun e=>by refine(?_:_→Prop) [Ob.cells [e,.I most],.cells (flC l++J)]; exact fun d=>∀(K:PV→aa→Prop),(∃(l_1:List RwC) (J_1:List PV) (cap_1:Nat) (most_1:Int),by refine(?_:_→_→Prop) (PV.arr 1 0 l_1.length cap_1) (Ob.cells (flC l_1++J_1)); exact fun b c=>by refine(?_:_→Prop) (Ob.cells [b,.I most_1]); exact fun a=>l_1.length≤1000000∧(∀(y:PV),y∈J_1→Low 2 y)∧ag [.ptr 0 0,.E,e,.I l.length,.I 0] [.ptr 0 0,.E,b,.I l_1.length,.I 0]∧aE d [a,c]∧K (.list (eU l_1) .no) [a,c,.dead])→AcK 29 [.ptr 0 0] d K:Prop):=fun K h=>acW (T:=[]) (L:=[([1,1,0,1,0,1,0],qR)]) (fun o=>match o.op with| .load t _=>(match t with|53=>1|_=>0)|_=>0) Try.func29 (aV.nil _ _) (.cons suE nI (.nil _ _ _ _ _)) h
theorem pD (most:Int):(by refine(?_:_→_→Prop) [PV.ptr 0 0,.E,.E,.I 0,.I 0] [Ob.cells [.E,.I most]]; exact fun b c=>∀(K:PV→aa→Prop),(∃(most_1:Int),by refine(?_:_→Prop) [Ob.cells [.E,.I most_1]]; exact fun a=>ag b b∧aE c a∧K (.E) a)→AcK 29 [.ptr 0 0] c K:Prop):=fun K h=>acW (T:=[]) (L:=[([1,1,0,1,0,1,0],oz)]) (fun o=>match o.op with| .load t _=>(match t with|53=>1|_=>0)|_=>0) Try.func29 (aV.nil _ _) (.cons suE nw (.nil _ _ _ _ _)) h
theorem vO {l:List RwC} {most t:Int} {hh:aa} (hH:EXC l most hh) (ok:Ok l most):AcK 19 [.ptr 0 0,.U t] hh (fun x H'=>x = .tup [(let v:=a9 l t; Ck.pv v),.bool (has l t)]∧df (EXC (ei l t) most) H'):=by
 have hfull:=ok.len
 rcases hH with⟨J,cap,rfl,hc,hJ⟩|⟨rfl,rfl⟩
 ·refine py l J cap most t _ ⟨l,most,t,rfl,⟨_,[_],rfl,mR hc hJ⟩,ok,?_⟩
  simp only[aI]
  unfold ei
  by_cases c:has l t=true
  ·obtain⟨c1,c2⟩:=eE c
   rw[if_pos c,if_pos c]
   refine⟨l,most,t,rfl,⟨_,[_,_],rfl,mR hc hJ⟩,ok,a9 l t,l,J,cap,most,lbp l t,(by show _=_; rw[aW c1 (by omega)]),rfl,c1,ok.len,hc,hJ,by first|rfl|trivial,?_⟩
   have hle:l.length-1=(l.eraseIdx (lbp l t)).length:=by rw[List.length_eraseIdx_of_lt c1]
   rw[hle]
   exact cC (k:=0) rfl (by omega) (((eb 1).app hJ |> fun h=>by
    simp only[List.replicate,List.flatten_cons,List.flatten_nil,List.append_nil] at h
    exact h.cast (by omega)))
  ·rw[if_neg c,if_neg c]
   exact⟨by first|rfl|trivial,cC (k:=0) rfl hc hJ⟩
 ·refine oS most t _ ⟨[],most,t,rfl,⟨_,[_],rfl,q9⟩,ok,?_⟩
  exact⟨rfl,eR⟩
theorem vB {l:List RwC} {most:Int} {hh:aa} (hH:EXC l most hh) (ok:Ok l most):AcK 29 [.ptr 0 0] hh (fun x H'=>x = .list (eU l) .no∧df (EXC l most) H'):=by
 rcases hH with⟨J,cap,rfl,hc,hJ⟩|⟨rfl,rfl⟩
 ·exact qq l J cap most _ ⟨l,J,cap,most,ok.len,vL hJ,rfl,rfl,rfl,cC (k:=0) rfl hc hJ⟩
 ·exact kj (pD most _ ⟨most,rfl,rfl,_,_,.list _ _,.refl _,rfl,eR⟩)
def pS (args:List PV) (H:aa) (K:PV→Prop):Prop:=∃(q:Nat) (l:List RwC) (most t:Int),ag args [.ptr q 0,.U t]∧bB H q (rkC l most)∧Ok l most∧K (.tup [(let v:=a9 l t; Ck.pv v),.bool (has l t)])
theorem sQ:SpK 14 (.read pS):=by
 rintro args H K ⟨q,l,most,t,he,ha,ok,hk⟩
 have he:args=_:=he
 subst he
 refine⟨_,jr ap ha bC (dw _ _) (fun hh h=>?_),hk⟩
 obtain⟨r,h1,h2⟩:=kf _ hh (fun x=>x = .tup [(let v:=a9 l t; Ck.pv v),.bool (has l t)]) ⟨l,most,t,rfl,h,ok,rfl⟩
 exact aA h1 fun x H' e=>⟨e.1.trans h2,e.2▸qB h⟩
def gu (args:List PV) (H:aa) (K:PV→aa→Prop):Prop:=match args with
 | .ptr q 0::rest=>∃(l:List RwC) (most t:Int) (v:Ck) (t1 t2:Tail),ag rest [.int .u32 t,.agg [.int .u32 v.id,.list (en1 .u32 v.pl) t1,.list (en1 .u32 v.ys) t2,.int .i64 v.un]]∧bB H q (rkC l most)∧Ok l most∧K (.int .i64 (cM l most t v).2) (H.set q (.abs (rkC (cM l most t v).1 most)))
 | _=>False
theorem sG:SpK 16 (.heap gu):=by
 intro args H K h
 unfold gu at h
 split at h
 ·rename_i q rest
  obtain⟨l,most,t,v,t1,t2,he,ha,ok,hk⟩:=h
  have he:rest=_:=he
  subst he
  refine bV (.cons (.refl _) (.cons (.refl _) (.cons (.agg (.cons (.refl _) (.cons (.list _ _) (.cons (.list _ _) (.cons (.refl _) .nil))))) .nil))) ?_
  refine jx ap ha (by intro y hy; simp only[List.mem_cons,List.not_mem_nil,or_false] at hy; rcases hy with rfl|rfl; exact .int _ _; exact tK v) (.int _ _) (fun hh h=>?_) hk
  exact rp _ hh _ ⟨l,most,t,v,rfl,h,ok,fun H' h'=>⟨rfl,h'⟩⟩
 ·exact h.elim
def qc (args:List PV) (H:aa) (K:PV→aa→Prop):Prop:=∃ n:Int,ag args [.I n]∧K (.ptr H.length 0) (H++[.abs (rkC [] (mxI 0 n))])
theorem s9:SpK 12 (.heap qc):=by
 rintro args H K ⟨n,he,hk⟩
 have he:args=_:=he
 subst he
 exact aA (nJ ap bC (sx n _ ⟨rfl,eR⟩)) fun _ _ e=>e.1▸e.2▸hk
def pR (args:List PV) (H:aa) (K:PV→Prop):Prop:=∃(q:Nat) (l:List RwC) (most:Int),ag args [.ptr q 0]∧bB H q (rkC l most)∧Ok l most∧K (.list (eU l) .no)
theorem pV (l:List RwC):Low 0 (.list (eU l) .no):=bh NT.no (by
 intro x hx
 obtain⟨c,h1,h2⟩:=List.mem_flatten.1 hx
 obtain⟨r,_,rfl⟩:=List.mem_map.1 h1
 rcases List.mem_singleton.1 h2 with rfl
 exact .int _ _)
theorem rJ:SpK 29 (.read pR):=by
 rintro args H K ⟨q,l,most,he,ha,ok,hk⟩
 have he:args=_:=he
 subst he
 exact⟨_,jr ap ha qI (pV l) (fun hh h=>vB h ok),hk⟩
def gd (args:List PV) (H:aa) (K:PV→aa→Prop):Prop:=match args with
 | .ptr q 0::rest=>∃(l:List RwC) (most t:Int),ag rest [.int .u32 t]∧bB H q (rkC l most)∧Ok l most∧K (.tup [(let v:=a9 l t; Ck.pv v),.bool (has l t)]) (H.set q (.abs (rkC (ei l t) most)))
 | _=>False
theorem sq:SpK 19 (.heap gd):=by
 intro args H K h
 unfold gd at h
 split at h
 ·rename_i q rest
  obtain⟨l,most,t,he,ha,ok,hk⟩:=h
  have he:rest=_:=he
  subst he
  exact jx ap ha bC (dw _ _) (fun hh h=>vO h ok) hk
 ·exact h.elim
theorem pz:SpK 16 (.chg gu):=by
 intro args H K h
 unfold gu at h
 split at h
 ·obtain⟨l,most,t,v,t1,t2,he,ha,ok,hk⟩:=h
  exact⟨_,_,sG _ H (fun x H1=>x=_∧H1=_) (by unfold gu; exact⟨l,most,t,v,t1,t2,he,ha,ok,⟨rfl,rfl⟩⟩),hk⟩
 ·exact h.elim
theorem qk:SpK 19 (.chg gd):=by
 intro args H K h
 unfold gd at h
 split at h
 ·obtain⟨l,most,t,he,ha,ok,hk⟩:=h
  exact⟨_,_,sq _ H (fun x H1=>x=_∧H1=_) (by unfold gd; exact⟨l,most,t,he,ha,ok,⟨rfl,rfl⟩⟩),hk⟩
 ·exact h.elim
def TMC (T:Tab):Tab:=(14,.read pS)::(16,.chg gu)::(19,.chg gd)::(29,.read pR)::(12,.heap qc)::T
theorem uD {T:Tab} (h:TbK T):TbK (TMC T):=(.cons sQ (.cons pz (.cons qk (.cons rJ (.cons s9 h)))))
theorem dj {α:Type} {p:α→Bool} {l:List α} {i:Nat} (d:α) (hi:i≤l.findIdx p) (h:i<l.length) (c:p (l.getD i d)=true):l.findIdx p=i:=by
 rcases Nat.eq_or_lt_of_le hi with e|e
 ·exact e.symm
 ·exfalso
  have:=List.not_of_lt_findIdx e
  rw[aH h] at c
  rw[c] at this
  cases this
theorem dy {α:Type} {p:α→Bool} {l:List α} {i:Nat} (d:α) (hi:i≤l.findIdx p) (h:i<l.length) (c:p (l.getD i d)=false):i<l.findIdx p:=by
 rcases Nat.eq_or_lt_of_le hi with e|e
 ·exfalso
  subst e
  have:=List.findIdx_getElem (p:=p) (xs:=l) (w:=h)
  rw[aH h,this] at c
  cases c
 ·exact e
section
variable {G:Type}
def qd (w:List (Rw G)) (t:Int):List (Rw G):=w.filter fun r=>r.id != t
theorem oL {l:List (Rw G)} {most:Int} (ok:Ok l most) {r s:Rw G} (hr:r∈l) (hs:s∈l) (e:r.id=s.id):r=s:=by
 obtain⟨i,hi,rfl⟩:=List.mem_iff_getElem.1 hr
 obtain⟨j,hj,rfl⟩:=List.mem_iff_getElem.1 hs
 rcases Nat.lt_trichotomy i j with c|c|c
 ·have:=List.pairwise_iff_getElem.1 ok.rise i j hi hj c; omega
 ·subst c; rfl
 ·have:=List.pairwise_iff_getElem.1 ok.rise j i hj hi c; omega
structure Like (l w:List (Rw G)) (most:Int):Prop where
 ok:Ok l most
 perm:l.Perm w
 pos:∀ r∈l,av r.id=true
end
section
variable {G:Type} [Inhabited G]
theorem g8 {l:List (Rw G)} {most t:Int} (ok:Ok l most):has l t=true↔∃ r∈l,r.id=t:=by
 constructor
 ·intro h
  obtain⟨h1,h2⟩:=eE h
  exact⟨_,fW h1,h2⟩
 ·rintro⟨r,hr,rfl⟩
  obtain⟨k,hk,rfl⟩:=List.mem_iff_getElem.1 hr
  cases c:has l l[k].id with
  | true=>rfl
  | false=>
   exfalso
   have lb:=ok.lb l[k].id
   rcases Nat.lt_or_ge k (lbp l l[k].id) with q|q
   ·have:=lb.lo k q; rw[aH hk] at this; omega
   ·have:=gy ok c k q hk; rw[aH hk] at this; omega
theorem uJ {l:List (Rw G)} {most:Int} (ok:Ok l most) {r:Rw G} (hr:r∈l):a9 l r.id=r.v:=by
 have h:=(g8 ok).2 ⟨r,hr,rfl⟩
 obtain⟨h1,h2⟩:=eE h
 unfold a9
 rw[if_pos h,oL ok (fW h1) hr h2]
theorem qN {l:List (Rw G)} {most:Int} (ok:Ok l most) (t:Int):ei l t=qd l t:=by
 unfold ei qd
 by_cases c:has l t=true
 ·rw[if_pos c]
  obtain⟨h1,h2⟩:=eE c
  rw[List.eraseIdx_eq_take_drop_succ]
  have hl:l=l.take (lbp l t)++l.getD (lbp l t) default::l.drop (lbp l t+1):=by
   rw[aH h1,← List.drop_eq_getElem_cons h1,List.take_append_drop]
  have ha:∀ r∈l.take (lbp l t),(r.id != t)=true:=by
   intro r hr
   obtain⟨k,hk,rfl⟩:=List.mem_iff_getElem.1 hr
   rw[List.length_take] at hk
   have:=(ok.lb t).lo k (by omega)
   rw[aH (by omega)] at this
   rw[List.getElem_take]
   simp; omega
  have hb:∀ r∈l.drop (lbp l t+1),(r.id != t)=true:=by
   intro r hr
   obtain⟨k,hk,rfl⟩:=List.mem_iff_getElem.1 hr
   rw[List.length_drop] at hk
   have:=ok.get (i:=lbp l t) (j:=lbp l t+1+k) (by omega) (by omega)
   rw[h2,aH (by omega)] at this
   rw[List.getElem_drop]
   simp; omega
  conv=>rhs; rw[hl]
  rw[List.filter_append,List.filter_cons,if_neg (by rw[h2]; simp),List.filter_eq_self.2 ha,List.filter_eq_self.2 hb]
 ·rw[if_neg c,List.filter_eq_self.2]
  intro r hr
  simp only[bne_iff_ne,ne_eq]
  intro e
  exact c ((g8 ok).2 ⟨r,hr,e⟩)
end
section
variable {α:Type}
def bZ (k:α→Int) (w:List α):Prop:=w.Pairwise fun a b=>k a<k b
def er (k:α→Int) (w:List α) (c:α):List α:=w.filter (fun x=>decide (k x<k c))++c::w.filter (fun x=>decide (k c<k x))
def ct (k:α→Int) (w:List α) (t:Int):List α:=w.filter fun x=>k x != t
def aK (k:α→Int) (w:List α) (t:Int):Bool:=w.any fun x=>k x == t
def aN [Inhabited α] (k:α→Int) (w:List α) (t:Int):α:=(w.find? fun x=>k x == t).getD default
theorem bZ.nil (k:α→Int):bZ k ([]:List α):=List.Pairwise.nil
theorem bZ.drop {k:α→Int} {w:List α} (h:bZ k w) (t:Int):bZ k (ct k w t):=List.Pairwise.sublist List.filter_sublist h
theorem bZ.put {k:α→Int} {w:List α} (h:bZ k w) (c:α):bZ k (er k w c):=by
 unfold er bZ
 rw[List.pairwise_append]
 refine⟨List.Pairwise.sublist List.filter_sublist h,List.pairwise_cons.2 ⟨fun a ha=>?_,List.Pairwise.sublist List.filter_sublist h⟩,fun a ha b hb=>?_⟩
 ·have:=(List.mem_filter.1 ha).2; simpa using this
 ·have h1:=(List.mem_filter.1 ha).2
  rcases List.mem_cons.1 hb with rfl|hb
  ·simpa using h1
  ·have h2:=(List.mem_filter.1 hb).2
   simp at h1 h2; omega
theorem bZ.ext {k:α→Int} {w v:List α} (hw:bZ k w) (hv:bZ k v) (h:∀ x,x∈w↔x∈v):w=v:=by
 have nd:∀ {l:List α},bZ k l→l.Nodup:=fun ok=>List.Pairwise.imp (fun h e=>by rw[e] at h; exact absurd h (Int.lt_irrefl _)) ok
 refine List.Perm.eq_of_pairwise (fun a b _ _ h1 h2=>?_) hw hv ((List.perm_ext_iff_of_nodup (nd hw) (nd hv)).2 h)
 exact absurd (Int.lt_trans h1 h2) (Int.lt_irrefl _)
theorem bZ.inj {k:α→Int} {w:List α} (h:bZ k w) {a b:α} (ha:a∈w) (hb:b∈w) (e:k a=k b):a=b:=by
 obtain⟨i,hi,rfl⟩:=List.mem_iff_getElem.1 ha
 obtain⟨j,hj,rfl⟩:=List.mem_iff_getElem.1 hb
 rcases Nat.lt_trichotomy i j with c|c|c
 ·have:=List.pairwise_iff_getElem.1 h i j hi hj c; omega
 ·subst c; rfl
 ·have:=List.pairwise_iff_getElem.1 h j i hj hi c; omega
theorem fJ {k:α→Int} {w:List α} {c x:α}:x∈er k w c↔x=c∨(x∈w∧k x≠k c):=by
 unfold er
 simp only[List.mem_append,List.mem_filter,List.mem_cons,decide_eq_true_eq]
 constructor
 ·rintro (⟨h1,h2⟩|h|⟨h1,h2⟩)
  ·exact .inr ⟨h1,by omega⟩
  ·exact .inl h
  ·exact .inr ⟨h1,by omega⟩
 ·rintro (h|⟨h1,h2⟩)
  ·exact .inr (.inl h)
  ·rcases Int.lt_or_gt_of_ne h2 with q|q
   ·exact .inl ⟨h1,q⟩
   ·exact .inr (.inr ⟨h1,q⟩)
theorem nF {k:α→Int} {w:List α} {t:Int} {x:α}:x∈ct k w t↔x∈w∧k x≠t:=by
 unfold ct; simp
theorem bM {k:α→Int} {w:List α} {t:Int}:aK k w t=true↔∃ x∈w,k x=t:=by
 unfold aK; simp
theorem dl [Inhabited α] {k:α→Int} {w:List α} {t:Int} (h:aK k w t=true):aN k w t∈w∧k (aN k w t)=t:=by
 obtain⟨x,hx,e⟩:=bM.1 h
 unfold aN
 cases c:w.find? (fun x=>k x == t) with
 | none=>exact absurd (by simpa using e) (List.find?_eq_none.1 c x hx)
 | some y=>exact⟨List.mem_of_find?_eq_some c,by simpa using List.find?_some c⟩
theorem nt [Inhabited α] {k:α→Int} {w:List α} (h:bZ k w) {x:α} (hx:x∈w):aN k w (k x)=x:=by
 obtain⟨h1,h2⟩:=dl (bM.2 ⟨x,hx,rfl⟩)
 exact h.inj h1 hx h2
theorem gp [Inhabited α] {k:α→Int} {w:List α} {t:Int} (h:aK k w t=false):aN k w t=default:=by
 unfold aN
 cases c:w.find? (fun x=>k x == t) with
 | none=>rfl
 | some y=>
  have:aK k w t=true:=bM.2 ⟨y,List.mem_of_find?_eq_some c,by simpa using List.find?_some c⟩
  rw[h] at this; cases this
theorem ox {k:α→Int} {w:List α} (h:bZ k w) (c:α):(er k w c).length=if aK k w (k c)=true then w.length else w.length+1:=by
 have key:∀ w:List α,bZ k w→(w.filter (fun x=>decide (k x<k c))).length+(w.filter (fun x=>decide (k c<k x))).length=if aK k w (k c)=true then w.length-1 else w.length:=by
  intro w
  induction w with
  | nil=>intro _; rfl
  | cons a w ih=>
   intro h
   obtain⟨h1,h2⟩:=List.pairwise_cons.1 h
   have ih:=ih h2
   have hh:aK k (a::w) (k c)=(k a == k c || aK k w (k c)):=rfl
   rw[hh]
   rcases Int.lt_trichotomy (k a) (k c) with q|q|q
   ·rw[List.filter_cons_of_pos (by simpa using q),List.filter_cons_of_neg (by simp; omega)]
    have e:(k a == k c)=false:=by simp; omega
    rw[e,Bool.false_or]
    have hne:aK k w (k c)=true→w≠[]:=fun h0 h3=>by subst h3; cases h0
    split at ih
    ·rename_i h3; rw[if_pos h3]; have:=List.length_pos_iff.2 (hne h3); simp only[List.length_cons]; omega
    ·rename_i h3; rw[if_neg h3]; simp only[List.length_cons]; omega
   ·rw[List.filter_cons_of_neg (by simp; omega),List.filter_cons_of_neg (by simp; omega)]
    have e:(k a == k c)=true:=by simpa using q
    have h0:aK k w (k c)=false:=by
     cases c0:aK k w (k c) with
     | false=>rfl
     | true=>obtain⟨x,hx,ex⟩:=bM.1 c0; have:=h1 x hx; omega
    rw[h0,if_neg (by decide)] at ih
    rw[e,Bool.true_or,if_pos rfl,ih]; simp
   ·rw[List.filter_cons_of_neg (by simp; omega),List.filter_cons_of_pos (by simpa using q)]
    have e:(k a == k c)=false:=by simp; omega
    have h0:aK k w (k c)=false:=by
     cases c0:aK k w (k c) with
     | false=>rfl
     | true=>obtain⟨x,hx,ex⟩:=bM.1 c0; have:=h1 x hx; omega
    rw[h0,if_neg (by decide)] at ih
    rw[e,h0]; simp only[Bool.or_self,if_neg (by decide:¬ false=true),List.length_cons]; omega
 have:=key w h
 unfold er
 rw[List.length_append,List.length_cons]
 split at this
 ·rename_i h3
  rw[if_pos h3]
  obtain⟨x,hx,_⟩:=bM.1 h3
  have:=List.length_pos_of_mem hx; omega
 ·rename_i h3; rw[if_neg h3]; omega
end
theorem Ok.vH {G:Type} {l:List (Rw G)} {most:Int} (ok:Ok l most):bZ Rw.id l:=ok.rise
section
variable {G:Type} [Inhabited G]
theorem kz {l:List (Rw G)} {most:Int} (ok:Ok l most) (t:Int):has l t=aK Rw.id l t:=by
 rw[Bool.eq_iff_iff,g8 ok,bM]
theorem pF {l:List (Rw G)} {most t:Int} {v:G} (ok:Ok l most) (hr:av t=true) (h:has l t=true∨¬ (l.length:Int)≥most) (x:Rw G):x∈(cM l most t v).1↔x=⟨t,v⟩∨(x∈l∧x.id≠t):=by
 unfold cM
 rw[if_pos hr]
 by_cases c:has l t=true
 ·rw[if_pos c]
  obtain⟨h1,h2⟩:=eE c
  show x∈l.set (lbp l t) ⟨t,v⟩↔_
  rw[List.mem_iff_getElem]
  constructor
  ·rintro⟨j,hj,rfl⟩
   rw[List.length_set] at hj
   rw[List.getElem_set]
   split
   ·exact .inl rfl
   ·rename_i hne
    refine .inr ⟨List.getElem_mem hj,fun e=>hne ?_⟩
    rw[aH h1] at h2
    rcases Nat.lt_trichotomy (lbp l t) j with q|q|q
    ·have:=List.pairwise_iff_getElem.1 ok.rise _ _ h1 hj q; omega
    ·exact q
    ·have:=List.pairwise_iff_getElem.1 ok.rise _ _ hj h1 q; omega
  ·rintro (rfl|⟨hx,hne⟩)
   ·exact⟨lbp l t,by simpa using h1,by simp⟩
   ·obtain⟨j,hj,rfl⟩:=List.mem_iff_getElem.1 hx
    refine⟨j,by simpa using hj,?_⟩
    rw[List.getElem_set,if_neg]
    rintro rfl
    rw[aH h1] at h2
    exact hne h2
 ·rw[if_neg c,if_neg (h.resolve_left c)]
  show x∈bj l (lbp l t) ⟨t,v⟩↔_
  have hno:∀ y∈l,y.id≠t:=fun y hy e=>c ((g8 ok).2 ⟨y,hy,e⟩)
  unfold bj
  have hm:x∈l↔x∈l.take (lbp l t)∨x∈l.drop (lbp l t):=by
   conv=>lhs; rw[← List.take_append_drop (lbp l t) l]
   exact List.mem_append
  rw[List.mem_append,List.mem_cons]
  constructor
  ·rintro (h1|h1|h1)
   ·exact .inr ⟨hm.2 (.inl h1),hno x (hm.2 (.inl h1))⟩
   ·exact .inl h1
   ·exact .inr ⟨hm.2 (.inr h1),hno x (hm.2 (.inr h1))⟩
  ·rintro (h1|⟨h1,_⟩)
   ·exact .inr (.inl h1)
   ·rcases hm.1 h1 with h2|h2
    ·exact .inl h2
    ·exact .inr (.inr h2)
theorem sk {l:List (Rw G)} {most:Int} (ok:Ok l most) (t:Int) (v:G):cM l most t v=if av t=true then(if aK Rw.id l t=false∧(l.length:Int)≥most then(l,10) else(er Rw.id l ⟨t,v⟩,0)) else(l,14):=by
 by_cases hr:av t=true
 ·rw[if_pos hr]
  by_cases c:aK Rw.id l t=false∧(l.length:Int)≥most
  ·rw[if_pos c]
   unfold cM
   rw[if_pos hr,kz ok,if_neg (by rw[c.1]; decide),if_pos c.2]
  ·rw[if_neg c]
   have h:has l t=true∨¬ (l.length:Int)≥most:=by
    rw[kz ok]
    cases c0:aK Rw.id l t with
    | true=>exact .inl rfl
    | false=>exact .inr fun h=>c ⟨c0,h⟩
   refine Prod.ext ?_ ?_
   ·refine bZ.ext (k:=Rw.id) (ok.put t v).rise (ok.vH.put _) fun x=>?_
    rw[pF ok hr h,fJ]
   ·unfold cM
    rw[if_pos hr]
    by_cases c0:has l t=true
    ·rw[if_pos c0]
    ·rw[if_neg c0,if_neg (h.resolve_left c0)]
 ·rw[if_neg hr]; unfold cM; rw[if_neg hr]
end
section
variable {α:Type} (k:α→Int)
def rowsOf (w:List α):List (Rw α):=w.map fun x=>⟨k x,x⟩
variable {k}
theorem iq (w:List α):(rowsOf k w).length=w.length:=List.length_map _
theorem ff {w:List α} {r:Rw α}:r∈rowsOf k w↔r.v∈w∧r.id=k r.v:=by
 unfold rowsOf
 rw[List.mem_map]
 constructor
 ·rintro⟨x,hx,rfl⟩; exact⟨hx,rfl⟩
 ·rintro⟨h1,h2⟩; exact⟨r.v,h1,by cases r; simp only at h2; rw[h2]⟩
theorem bZ.ok {w:List α} (h:bZ k w) {most:Int} (hl:(w.length:Int)≤most) (hm:most≤1000000):Ok (rowsOf k w) most:=
 ⟨by unfold rowsOf; rw[List.pairwise_map]; exact h,by rw[iq]; exact hl,hm⟩
theorem bZ.rows {w:List α} (h:bZ k w):bZ Rw.id (rowsOf k w):=by unfold rowsOf bZ; rw[List.pairwise_map]; exact h
theorem gP (w:List α) (t:Int):aK Rw.id (rowsOf k w) t=aK k w t:=by
 unfold aK rowsOf; rw[List.any_map]; rfl
end
section
variable {α:Type} [Inhabited α] {k:α→Int}
theorem cw {w:List α} {most:Int} (ok:Ok (rowsOf k w) most) (t:Int):has (rowsOf k w) t=aK k w t:=by
 rw[kz ok,gP]
theorem dU {w:List α} {most:Int} (ok:Ok (rowsOf k w) most) (t:Int):a9 (rowsOf k w) t=aN k w t:=by
 cases c:aK k w t with
 | true=>
  obtain⟨h1,h2⟩:=dl c
  have h3:(⟨k (aN k w t),aN k w t⟩:Rw α)∈rowsOf k w:=ff.2 ⟨h1,rfl⟩
  have:=uJ ok h3
  simp only[h2] at this
  exact this
 | false=>
  rw[gp c]
  unfold a9
  rw[if_neg (by rw[cw ok,c]; decide)]
theorem fj {w:List α} {most:Int} (h:bZ k w) (ok:Ok (rowsOf k w) most) (c:α):cM (rowsOf k w) most (k c) c=if av (k c)=true then(if aK k w (k c)=false∧(w.length:Int)≥most then(rowsOf k w,10) else(rowsOf k (er k w c),0)) else(rowsOf k w,14):=by
 rw[sk ok,gP,iq]
 have e:er Rw.id (rowsOf k w) ⟨k c,c⟩=rowsOf k (er k w c):=by
  refine bZ.ext (k:=Rw.id) (h.rows.put _) (h.put c).rows fun x=>?_
  rw[fJ,ff,ff,fJ]
  cases x with
  | mk i v=>
   simp only[Rw.mk.injEq]
   constructor
   ·rintro (⟨h1,h2⟩|⟨⟨h1,h2⟩,h3⟩)
    ·exact⟨.inl h2,by rw[h1,h2]⟩
    ·exact⟨.inr ⟨h1,by rw[← h2]; exact h3⟩,h2⟩
   ·rintro⟨h1|⟨h1,h2⟩,h3⟩
    ·exact .inl ⟨by rw[h3,h1],h1⟩
    ·exact .inr ⟨⟨h1,h3⟩,by rw[h3]; exact h2⟩
 rw[e]
theorem cG {w:List α} {most:Int} (ok:Ok (rowsOf k w) most) (t:Int):ei (rowsOf k w) t=rowsOf k (ct k w t):=by
 rw[qN ok]
 unfold qd rowsOf ct
 rw[List.filter_map]; rfl
end
theorem bg {ns:List Int} {k:IntKind} {t:Tail} (ht:NT t) {n:Nat}:Low n (.list (en1 k ns) t):=bh ht (g5 k ns)
theorem ua (l:List (Int)) (t:Int) (i:Nat):(by refine(?_:_→_→_→Prop) (List.getD (l.map u1) (Int.toNat (i:Int)) []) (PV.I l.length) (PV.list (l.map u1) .no); exact fun b c d=>by refine(?_:_→Prop) [PV.list (l.map u1) .no,.U t,.I 0,c,.I i]; exact fun a=>∀(R:Ex→List PV→aa→Prop),(br (decide ((i:Int)<(l.length:Int))) (InL (l.map u1) 1 (i:Int)∧br (true && cN [.int .u32] 0 b) (br (t == cI b 0) (R .ret [d,.U t,.I i,c,.I i] []) (R .normal [d,.U t,.I 0,c,.I (wI ((i:Int)+1))] [])) False) (R (.exit 0) a []))→Holds (wpK [] [] (fun _=>0) (aL [1,0,1,0] (ar Try.f27)) [] (aj [0,1,4,7,8] a) [] (fun ex e H=>R ex (List.map e [0,1,4,7,8]) H)):Prop):=fun R h=>hoE h
def tQ:LSp:=fun e H Q=>∃(l:List (Int)) (t:Int),l.length≤1000000∧(True)∧ag (List.map e [0,1,4,7,8]) [.list (l.map u1) .no,.U t,.I 0,.I l.length,.I 0]∧aE H []∧
 (l.findIdx (fun x=>t == x)<l.length→Q .ret (aj [0,1,4,7,8] [.list (l.map u1) .no,.U t,.I (l.findIdx (fun x=>t == x)),.I l.length,.I (l.findIdx (fun x=>t == x))]) [])∧(l.findIdx (fun x=>t == x)=l.length→Q (.exit 0) (aj [0,1,4,7,8] [.list (l.map u1) .no,.U t,.I 0,.I l.length,.I l.length]) [])
theorem qT:∀ e H Q,tQ e H Q→AwK Try.f27.ntmps (.loop (aL [1,0,1,0] (ar Try.f27))) Q e H:=by
 rintro e H Q ⟨l,t,hl,_,he,hH,hQ1,hQ2⟩
 have hfl:l.findIdx (fun x=>t == x)≤l.length:=List.findIdx_le_length
 refine aZ (hn:=fun _=>0) ap (.nil _ _) (.nil _ _ _ _ _) (σ:=Nat) [0,1,4,7,8] (fun i=>i≤l.findIdx (fun x=>t == x)) (fun i=>[.list (l.map u1) .no,.U t,.I 0,.I l.length,.I i]) (fun _=>[]) (fun i=>l.length-i) 0 (Nat.zero_le _) he hH ?_
 intro i hi
 have hi':i≤l.findIdx (fun x=>t == x):=hi
 refine ua l t i _ ?_
 simp only[aI,dt,aC,je]
 by_cases h:i<l.length
 ·rw[if_pos (by omega)]
  simp only[getD_map 0 h]
  repeat (first|refine⟨h,?_⟩|rw[if_pos (by rfl)])
  by_cases c:(fun x=>t == x) (l.getD i 0)=true
  ·have hge:l.findIdx (fun x=>t == x)=i:=dj 0 hi' h c
   rw[hge] at hQ1
   rw[if_pos (by exact c)]
   repeat (first|refine⟨h,?_⟩|rw[if_pos (by rfl)])
   exact hQ1 h
  ·have hlt:i<l.findIdx (fun x=>t == x):=dy 0 hi' h (by simpa using c)
   rw[if_neg (by exact c)]
   exact⟨i+1,(show l.length-(i+1)<l.length-i by omega),hlt,by rw[aW h (by omega)],[],rfl,Nat.le_refl _,.inl rfl⟩
 ·rw[if_neg (by omega)]
  have:i=l.length:=by omega
  subst this
  exact hQ2 (by omega)
theorem sH (l:List Int) (t:Int):∀(K:PV→Prop),(∃(l_1:List Int) (t_1:Int),by refine(?_:_→Prop) (fun(x:Int)=>t_1 == x); exact fun a=>l_1.length≤1000000∧True∧ag [.list (l.map u1) .no,.U t,.I 0,.I (↑(List.length (l.map u1)):Int),.I 0] [.list (l_1.map u1) .no,.U t_1,.I 0,.I l_1.length,.I 0]∧aE [] []∧(List.findIdx a l_1<l_1.length→K (.I (↑(List.findIdx a l_1):Int)))∧(List.findIdx a l_1=l_1.length→K (.I (-1))))→AcK 27 [.list (l.map u1) .no,.U t] [] (fun x _=>K x):=fun K h=>acW (T:=[]) (L:=[([1,0,1,0],tQ)]) (fun _=>0) Try.func27 (aV.nil _ _) (.cons suE qT (.nil _ _ _ _ _)) h
def mG (l:List Int) (t:Int):Int:=if l.findIdx (fun x=>t == x)<l.length then(l.findIdx (fun x=>t == x):Int) else -1
def tB (args:List PV) (K:PV→Prop):Prop:=∃(l:List Int) (t:Int),ag args [.list (l.map u1) .no,.U t]∧l.length≤1000000∧K (.I (mG l t))
theorem cy {n:Nat} (l:List Int):Low n (.list (l.map u1) .no):=ou kM l
theorem ud:SpK 27 (.pure tB):=by
 rintro args K ⟨l,t,he,hl,hk⟩
 have he:args=_:=he
 subst he
 refine jz ap (fC (cy l) (.int _ _)) (.int _ _) (sH l t (fun x=>x = .I (mG l t)) ⟨l,t,hl,trivial,(by show _=_; simp only[List.length_map]),rfl,fun h=>?_,fun h=>?_⟩) hk
 ·unfold mG; rw[if_pos h]
 ·unfold mG; rw[if_neg (by omega)]
def TI1:Tab:=[(27,.pure tB)]
theorem ur:TbK TI1:= .cons ud (.nil _ _)
theorem rC (l:List Int) (t:Int)  (K:PV→Prop) (h:∃(l_1:List Int) (t_1:Int),ag [.list (List.map u1 l) .no,.U t] [.list (List.map u1 l_1) .no,.U t_1]∧List.length l_1≤1000000∧K (.bool (decide (mG l_1 t_1≥0)))):AcK 18 [.list (l.map u1) .no,.U t] [] (fun x _=>K x):=
 acW (T:=TI1) (L:=[]) (fun _=>0) Try.func18 (ur) (LOk.nil _ _ _ _ _) h
def ay (l:List Int) (t:Int):Bool:=decide (t∈l)
theorem cV {l:List Int} {t:Int}:ay l t=true↔t∈l:=by unfold ay; rw[decide_eq_true_eq]
theorem qe (l:List Int) (t:Int):decide (mG l t≥0)=ay l t:=by
 unfold mG ay
 have h:l.findIdx (fun x=>t == x)<l.length↔t∈l:=by
  rw[List.findIdx_lt_length]
  constructor
  ·rintro⟨x,hx,e⟩; rw[eq_of_beq e]; exact hx
  ·intro h; exact⟨t,h,by simp⟩
 by_cases c:l.findIdx (fun x=>t == x)<l.length
 ·rw[if_pos c,decide_eq_true (h.1 c),decide_eq_true (by omega)]
 ·rw[if_neg c,decide_eq_false (fun k=>c (h.2 k)),decide_eq_false (by omega)]
def ph (args:List PV) (K:PV→Prop):Prop:=∃(l:List Int) (tl:Tail) (t:Int),ag args [.list (l.map u1) tl,.U t]∧l.length≤1000000∧K (.bool (ay l t))
theorem mF:SpK 18 (.pure ph):=by
 rintro args K ⟨l,tl,t,he,hl,hk⟩
 have he:args=_:=he
 subst he
 exact g7 ap (.cons (.list _ _) (.cons (.refl _) .nil)) (fC (cy l) (.int _ _)) (.bool _) (rC l t (fun x=>x = .bool (ay l t)) ⟨l,t,rfl,hl,by rw[qe]⟩) hk
theorem s7 (l:List Int):∀(K:PV→aa→Prop),(∀(b:Bool),(List.flatten (l.map u1)≠[]→b=false)→br b (K (.E) []) (fU [] (l.map u1) 1 4∧List.all (List.flatten (l.map u1)) PV.one=true∧(l.map u1=[]→K (.E) [])∧(l.map u1≠[]→K (.list ([]++l.map u1) (.tok 0)) [.tok])))→AcK 17 [.list (l.map u1) .no] [] K:=fun K h=>acW (T:=[]) (L:=[]) (fun o=>match o.dst with|some 7=>4|_=>0) Try.func17 (aV.nil _ _) (LOk.nil _ _ _ _ _) h
theorem vt {l:List Int} (h:l≠[]):(l.map u1).flatten≠[]:=by
 cases l with
 | nil=>exact absurd rfl h
 | cons a l=>simp[u1]
theorem mI {l:List Int}:l.map u1=[]↔l=[]:=List.map_eq_nil_iff
def tN (args:List PV) (K:List (List PV)→Prop):Prop:=∃(l:List Int) (tl:Tail),ag args [.list (l.map u1) tl]∧l.length≤1000000∧K (l.map u1)
theorem ov:SpK 17 (.mk tN):=by
 rintro args K ⟨l,tl,he,hl,hk⟩
 have he:args=_:=he
 subst he
 refine⟨l.map u1,hk,vF ap (.cons (.list _ _) .nil) (ci (cy l)) (by have:=mZ (n:=0) l (J:=[]) (fun _ h=>nomatch h); simpa using this) (s7 l _ ?_)⟩
 intro b hb
 rw[aI]
 cases b with
 | true=>
  rw[if_pos rfl]
  have hn:l=[]:=Classical.byContradiction fun h=>absurd (hb (vt h)) (by decide)
  subst hn
  exact⟨fun _=>rfl,fun h=>absurd rfl h⟩
 | false=>
  rw[if_neg (by decide)]
  refine⟨⟨(fun _ h=>nomatch h),fN cK l,by simp; omega⟩,?_,fun h=>?_,fun h=>?_⟩
  ·exact List.all_eq_true.2 (by have:=fY l; intro y hy; obtain⟨c,h2,h3⟩:=List.mem_flatten.1 hy; obtain⟨a,_,rfl⟩:=List.mem_map.1 h2; exact kA a y h3)
  ·exact⟨fun _=>rfl,fun h2=>absurd h h2⟩
  ·exact⟨fun h2=>absurd h2 h,fun _=>⟨0,rfl,rfl⟩⟩
theorem eO (n:Nat):aT (List.replicate n [PV.U 0]).flatten n:=(aT.tE (z:=[PV.U 0]) (by intro y hy; rcases List.mem_singleton.1 hy with rfl; rfl) (ci (.int _ _)) n).cast (by simp)
def TC0:Tab:=[(18,.pure ph)]
theorem oE:TbK TC0:= .cons mF (.nil _ _)
theorem uS {n:Nat} (c:Ck):∀ y∈c.cells,Low n y:=iD (.int _ _) (bg NT.no) (bg NT.no) (.int _ _)
theorem Ck.low (c:Ck) {n:Nat}:Low n c.pv:= .agg _ (uS c)
structure Cs where
 c:Ck
 h:c.ys.length≤1000000
structure Midm (ns l:List Int) (cx:Cs) (i j:Nat):Prop where
 len:l.length=ns.length
 kept:l.take i=(ns.take j).filter (fun v=> !(ay cx.c.ys) v)
 rest:l.drop j=ns.drop j
 le:i≤j
 lt:j≤ns.length
def TOW:Tab:=[(17,.mk tN)]
theorem qC:TbK TOW:= .cons ov (.nil _ _)
theorem o4 (c:Ck):(by refine(?_:_→_→_→_→Prop) (Ob.cells [.U 0,.E,.E,.I 0]) [PV.ptr 0 0,.ptr 1 0] (opsOf (gD [1,0] (ar Try.f20))) [PV.list (en1 .u32 c.ys) .no]; exact fun a b d f=>∀(R:List PV→aa→Prop),(∃(l:List Int) (tl:Tail),ag [.list (en1 .u32 c.pl) .no] [.list (l.map u1) tl]∧l.length≤1000000∧(l.map u1=[]→∃(l:List Int) (tl:Tail),ag f [.list (l.map u1) tl]∧l.length≤1000000∧(l.map u1=[]→R b [.cells [.U c.id,.E,.E,.I c.un],a])∧(l.map u1≠[]→R b [.cells [.U c.id,.E,.list (l.map u1) (.tok 2),.I c.un],a,.tok]))∧(l.map u1≠[]→∃(l_1:List Int) (tl:Tail),ag f [.list (l_1.map u1) tl]∧l_1.length≤1000000∧(l_1.map u1=[]→R b [.cells [.U c.id,.list (l.map u1) (.tok 2),.E,.I c.un],a,.tok])∧(l_1.map u1≠[]→R b [.cells [.U c.id,.list (l.map u1) (.tok 2),.list (l_1.map u1) (.tok 3),.I c.un],a,.tok,.tok])))→Holds (dY br Try.prog gl TOW (fun o=>match o.dst with|some 5=>6|some 8=>6|some 4=>1101|some 7=>1201|some _=>0|none=>match o.op with| .store _ (.tmp 9) _=>1101| .store _ (.tmp 10) _=>1201|_=>0) true d (bH d [0,3,6,8,1,4,2,5,7,9]) (aj [1,2] b) [.cells c.cells,a] (fun e H=>R (List.map e [1,2]) H)):Prop):=fun R h=>hoE h
theorem oM (c:Ck):(by refine(?_:_→_→_→_→Prop) (Ob.cells [.U 0,.E,.E,.I 0]) [PV.ptr 0 0,.ptr 1 0] (opsOf (gD [1,0] (ar Try.f20))) [PV.list (en1 .u32 c.ys) .no]; exact fun a b d f=>∀(R:List PV→aa→Prop),(∃(l:List Int) (tl:Tail),ag [.list (en1 .u32 c.pl) .no] [.list (l.map u1) tl]∧l.length≤1000000∧(l.map u1=[]→∃(l:List Int) (tl:Tail),ag f [.list (l.map u1) tl]∧l.length≤1000000∧(l.map u1=[]→R b [.cells [.U c.id,.E,.E,.I c.un],a])∧(l.map u1≠[]→R b [.cells [.U c.id,.E,.list (l.map u1) (.tok 2),.I c.un],a,.tok]))∧(l.map u1≠[]→∃(l_1:List Int) (tl:Tail),ag f [.list (l_1.map u1) tl]∧l_1.length≤1000000∧(l_1.map u1=[]→R b [.cells [.U c.id,.list (l.map u1) (.tok 2),.E,.I c.un],a,.tok])∧(l_1.map u1≠[]→R b [.cells [.U c.id,.list (l.map u1) (.tok 2),.list (l_1.map u1) (.tok 3),.I c.un],a,.tok,.tok])))→Holds (dY br Try.prog gl TOW (fun o=>match o.dst with|some 5=>6|some 8=>6|some 4=>1101|some 7=>1201|some _=>0|none=>match o.op with| .store _ (.tmp 9) _=>1101| .store _ (.tmp 10) _=>1201|_=>0) true d (bH d [0,3,6,8,1,4,2,7,5,9]) (aj [1,2] b) [.cells c.cells,a] (fun e H=>R (List.map e [1,2]) H)):Prop):=fun R h=>hoE h
def lf (c:Ck):List Int:=c.pl.filter (fun v=> !ay c.ys v)
structure Ck.Sm (c:Ck):Prop where
 pl:c.pl.length≤1000000
 ys:c.ys.length≤1000000
theorem iK {c:Ck} {t1 t2:Tail}:Wk (.agg [.U c.id,.list (en1 .u32 c.pl) t1,.list (en1 .u32 c.ys) t2,.I c.un]) c.pv:= .agg (.cons (.refl _) (.cons (.list _ _) (.cons (.list _ _) (.cons (.refl _) .nil))))
theorem eu {l:List Int} (h:l.map u1=[]):l=[]:=mI.1 h
def tv:LSp:=fun e H Q=>∃(c:Ck),c.Sm∧ag (List.map e [1,2]) [.ptr 0 0,.ptr 1 0]∧aE H [.cells c.cells,.cells [.U 0,.E,.E,.I 0]]∧
 ∀(t1 t2:Tail) (G:aa),(c.ys=[]→t2 = .exact)→(c.ys≠[]→∃ o,t2 = .tok o∧([.cells [.U c.id,.list (en1 .u32 c.pl) t1,.list (en1 .u32 c.ys) t2,.I c.un],.cells [.U 0,.E,.E,.I 0]]++G:aa)[o]?=some .tok)→
  Q .normal (aj [1,2] [.ptr 0 0,.ptr 1 0]) ([.cells [.U c.id,.list (en1 .u32 c.pl) t1,.list (en1 .u32 c.ys) t2,.I c.un],.cells [.U 0,.E,.E,.I 0]]++G)
theorem p9:∀ e H Q,tv e H Q→AwK Try.f20.ntmps (gD [1,0] (ar Try.f20)) Q e H:=by
 rintro e H Q ⟨c,h,he,hH,hQ⟩
 have key:∀(R:List PV→aa→Prop),(∀(t1 t2:Tail) (G:aa),(c.ys=[]→t2 = .exact)→(c.ys≠[]→∃ o,t2 = .tok o∧([.cells [.U c.id,.list (en1 .u32 c.pl) t1,.list (en1 .u32 c.ys) t2,.I c.un],.cells [.U 0,.E,.E,.I 0]]++G:aa)[o]?=some .tok)→
   R [.ptr 0 0,.ptr 1 0] ([.cells [.U c.id,.list (en1 .u32 c.pl) t1,.list (en1 .u32 c.ys) t2,.I c.un],.cells [.U 0,.E,.E,.I 0]]++G))→∃(l:List Int),∃(tl:Tail),ag [PV.list (en1 IntKind.u32 (Ck.pl c)) Tail.no] [PV.list (List.map u1 l) tl]∧List.length l≤1000000∧(List.map u1 l=[]→∃(l:List Int),∃(tl:Tail),ag [PV.list (en1 IntKind.u32 (Ck.ys c)) Tail.no] [PV.list (List.map u1 l) tl]∧List.length l≤1000000∧(List.map u1 l=[]→R [PV.ptr 0 0,PV.ptr 1 0] [Ob.cells [PV.int IntKind.u32 (Ck.id c),PV.list [] Tail.exact,PV.list [] Tail.exact,PV.int IntKind.i64 (Ck.un c)],.cells [.U 0,.E,.E,.I 0]])∧(List.map u1 l≠[]→R [PV.ptr 0 0,PV.ptr 1 0] [Ob.cells [PV.int IntKind.u32 (Ck.id c),PV.list [] Tail.exact,PV.list (List.map u1 l) (Tail.tok 2),PV.int IntKind.i64 (Ck.un c)],.cells [.U 0,.E,.E,.I 0],Ob.tok]))∧(List.map u1 l≠[]→∃(l_1:List Int),∃(tl:Tail),ag [PV.list (en1 IntKind.u32 (Ck.ys c)) Tail.no] [PV.list (List.map u1 l_1) tl]∧List.length l_1≤1000000∧(List.map u1 l_1=[]→R [PV.ptr 0 0,PV.ptr 1 0] [Ob.cells [PV.int IntKind.u32 (Ck.id c),PV.list (List.map u1 l) (Tail.tok 2),PV.list [] Tail.exact,PV.int IntKind.i64 (Ck.un c)],.cells [.U 0,.E,.E,.I 0],Ob.tok])∧(List.map u1 l_1≠[]→R [PV.ptr 0 0,PV.ptr 1 0] [Ob.cells [PV.int IntKind.u32 (Ck.id c),PV.list (List.map u1 l) (Tail.tok 2),PV.list (List.map u1 l_1) (Tail.tok 3),PV.int IntKind.i64 (Ck.un c)],.cells [.U 0,.E,.E,.I 0],Ob.tok,Ob.tok])):=by
  intro R hR
  refine⟨c.pl,.no,rfl,h.pl,fun h1=>⟨c.ys,.no,rfl,h.ys,fun h2=>?_,fun h2=>?_⟩,fun h1=>⟨c.ys,.no,rfl,h.ys,fun h2=>?_,fun h2=>?_⟩⟩
  ·have e1:=eu h1
   have e2:=eu h2
   have:=hR .exact .exact [] (fun _=>rfl) (fun hn=>absurd e2 hn)
   rw[e1,e2] at this
   exact this
  ·have e1:=eu h1
   have:=hR .exact (.tok 2) [.tok] (fun e2=>absurd (by rw[e2]; rfl) h2) (fun _=>⟨2,rfl,rfl⟩)
   rw[e1] at this
   exact this
  ·have e2:=eu h2
   have:=hR (.tok 2) .exact [.tok] (fun _=>rfl) (fun hn=>absurd e2 hn)
   rw[e2] at this
   exact this
  ·exact hR (.tok 2) (.tok 3) [.tok,.tok] (fun e2=>absurd (by rw[e2]; rfl) h2) (fun _=>⟨3,rfl,rfl⟩)
 refine jq (outs:=[1,2]) (hn:=fun o=>match o.dst with|some 5=>6|some 8=>6|some 4=>1101|some 7=>1201|some _=>0|none=>match o.op with| .store _ (.tmp 9) _=>1101| .store _ (.tmp 10) _=>1201|_=>0) qC 5 7 [0,3,6,8,1,4,2,5,7,9] [0,3,6,8,1,4,2,7,5,9] (by kernel_rfl) (by kernel_rfl) he hH ?_ ?_
 ·exact o4 c (fun vs H'=>Q .normal (aj [1,2] vs) H') (key (fun vs H'=>Q .normal (aj [1,2] vs) H') hQ)
 ·exact oM c (fun vs H'=>Q .normal (aj [1,2] vs) H') (key (fun vs H'=>Q .normal (aj [1,2] vs) H') hQ)
theorem sK (c:Ck):(by refine(?_:_→_→Prop) (Ob.cells [.U 0,.E,.E,.I 0]) [PV.ptr 0 0,.ptr 1 0]; exact fun d e=>∀(K:PV→aa→Prop),(∃(c_1:Ck),Ck.Sm c_1∧ag e e∧aE [.cells [.U c.id,.list (en1 .u32 c.pl) .no,.list (en1 .u32 c.ys) .no,.I c.un],d] [.cells [.U c_1.id,.list (en1 .u32 c_1.pl) .no,.list (en1 .u32 c_1.ys) .no,.I c_1.un],d]∧∀(t1 t2:Tail),by refine(?_:_→Prop) [PV.U c_1.id,.list (en1 .u32 c_1.pl) t1,.list (en1 .u32 c_1.ys) t2,.I c_1.un]; exact fun b=>∀(G:aa),by refine(?_:_→Prop) ([.cells b,d]++G); exact fun a=>(c_1.ys=[]→t2 = .exact)→(c_1.ys≠[]→∃(o:Nat),t2 = .tok o∧a[o]?=some .tok)→K (.agg b) (List.set a 1 (.cells b)))→AcK 20 [c.pv] [] K:Prop):=fun K h=>acW (T:=[]) (L:=[([1,0],tv)]) (fun _=>0) Try.func20 (aV.nil _ _) (.cons (show sub [1,0] (ar Try.f20)=some (gD [1,0] (ar Try.f20)) from by kernel_rfl) p9 (.nil _ _ _ _ _)) h
def tG (args:List PV) (H:aa) (K:PV→aa→Prop):Prop:=∃(c:Ck) (t1 t2:Tail),ag args [.agg [.U c.id,.list (en1 .u32 c.pl) t1,.list (en1 .u32 c.ys) t2,.I c.un]]∧c.Sm∧
 (c.ys=[]→K (.agg [.U c.id,.list (en1 .u32 c.pl) .no,.E,.I c.un]) H)∧
 (c.ys≠[]→K (.agg [.U c.id,.list (en1 .u32 c.pl) .no,.list (en1 .u32 c.ys) (.tok H.length),.I c.un]) (H++[.tok]))
theorem pq:SpK 20 (.heap tG):=by
 rintro args H K ⟨c,t1,t2,he,h,h0,h1⟩
 have he:args=_:=he
 subst he
 have main:AcK 20 [c.pv] [] (fun x H'=>(en1 .u32 c.ys=[]→x = .agg ([.U c.id,.list (en1 .u32 c.pl) .no] ++ .E::[.I c.un]))∧(en1 .u32 c.ys≠[]→∃ o,x = .agg ([.U c.id,.list (en1 .u32 c.pl) .no] ++ .list (en1 .u32 c.ys) (.tok o)::[.I c.un])∧H'[o]?=some .tok)):=by
  refine bD (sK c _ ⟨c,h,rfl,rfl,fun t1 t2 G e1 e2=>?_⟩)
  refine⟨.agg [.U c.id,.list (en1 .u32 c.pl) .no,.list (en1 .u32 c.ys) t2,.I c.un],.agg (.cons (.refl _) (.cons (.list _ _) (.cons (.refl _) (.cons (.refl _) .nil)))),fun hn=>?_,fun hn=>?_⟩
  ·have e3:c.ys=[]:=eu hn
   rw[e1 e3,e3]; rfl
  ·obtain⟨o,rfl,ho⟩:=e2 (fun e=>hn (by rw[e]; rfl))
   refine⟨o,rfl,?_⟩
   rcases o with _|_|o
   ·cases ho
   ·cases ho
   ·exact ho
 refine aA (rM ap (.cons iK .nil) (ci c.low) (g5 _ _) (fC (.int _ _) (bg NT.no)) (ci (.int _ _)) main H) fun x H' e=>?_
 by_cases c0:c.ys=[]
 ·obtain⟨rfl,rfl⟩:=e.1 (by rw[c0]; rfl)
  exact h0 c0
 ·obtain⟨rfl,rfl⟩:=e.2 (fun k=>c0 (eu k))
  exact h1 c0
abbrev ae (w:List Ck):List RwC:=rowsOf Ck.id w
structure Ck.Ok (c:Ck):Prop where
 rt:av c.id=true
 n1:1≤c.pl.length
 n8:c.pl.length≤8
 nd:c.pl.Nodup
 yn:c.ys.Nodup
 sub:∀ x∈c.ys,x∈c.pl
theorem Ck.Ok.le {c:Ck} (h:c.Ok):c.ys.length≤c.pl.length:=List.Nodup.length_le_of_subset h.yn h.sub
theorem Ck.Ok.sm {c:Ck} (h:c.Ok):c.Sm:=⟨by have:=h.n8; omega,by have:=h.n8; have:=h.le; omega⟩
structure RO (w:List Ck) (m:Int):Prop where
 rise:bZ Ck.id w
 full:(w.length:Int)≤m
 big:m≤1000000
 cs:∀ c∈w,c.Ok
theorem RO.sm {w:List Ck} {m:Int} (h:RO w m) (c:Ck) (hc:c∈w):c.Sm:=(h.cs c hc).sm
theorem RO.ok {w:List Ck} {m:Int} (h:RO w m):Ok (ae w) m:=h.rise.ok h.full h.big
theorem RO.len {w:List Ck} {m:Int} (h:RO w m):w.length≤1000000:=by have:=h.full; have:=h.big; omega
abbrev ck0:Ck:=⟨0,[],[],0⟩
theorem RO.tD {w:List Ck} {m:Int} (h:RO w m) (t:Int):(aN Ck.id w t).Sm:=by
 cases c:aK Ck.id w t with
 | true=>exact h.sm _ (dl c).1
 | false=>rw[gp c]; exact⟨(show(0:Nat)≤1000000 by decide),(show(0:Nat)≤1000000 by decide)⟩
def ofS (w:List Ck) (p:Int):Int:=if w.findIdx (fun c=>ay c.pl p)<w.length then(w.getD (w.findIdx (fun c=>ay c.pl p)) default).id else 0
def TR0:Tab:=TMC [(18,.pure ph)]
theorem ja:TbK TR0:=uD (.cons mF (.nil _ _))
theorem vQ (w:List Ck):eU (ae w)=(w.map Ck.id).map u1:=by simp[eU,rowsOf,u1,Function.comp_def]
theorem sU (l:List RwC) (m:Int)  (K:PV→aa→Prop) (h:∃(q:Nat) (l_1:List RwC) (most:Int),ag [.ptr 1 0] [.ptr q 0]∧bB [.cells [.ptr 1 0],.abs (rkC l m)] q (rkC l_1 most)∧Ok l_1 most∧K (.list (eU l_1) .no) [.cells [.ptr 1 0],.abs (rkC l m)]):AcK 22 [.ptr 0 0] [.cells [.ptr 1 0],.abs (rkC l m)] K:=
 acW (T:=TR0) (L:=[]) (fun _=>0) Try.func22 (ja) (LOk.nil _ _ _ _ _) h
def tF (args:List PV) (H:aa) (K:PV→Prop):Prop:=∃(q r:Nat) (w:List Ck) (m:Int),ag args [.ptr q 0]∧cr H q r (rkC (ae w) m)∧RO w m∧K (.list ((w.map Ck.id).map u1) .no)
theorem uk:SpK 22 (.read tF):=by
 rintro args H K ⟨q,r,w,m,he,hb,ro,hk⟩
 have he:args=_:=he
 subst he
 refine⟨_,gg ap hb pe (cy _) (sU (ae w) m _ ⟨1,ae w,m,rfl,rfl,ro.ok,?_⟩),hk⟩
 exact⟨by rw[vQ],_,rfl⟩
def TR1:Tab:=(22,.read tF)::TR0
theorem mE:TbK TR1:= .cons uk ja
theorem vy (w:List Ck) (m p:Int) (i:Nat):(by refine(?_:_→_→_→_→Prop) (List.map u1 (w.map Ck.id)) (PV.I w.length) (Ob.abs (rkC (ae w) m)) (Ob.cells [.ptr 1 0]); exact fun c g h j=>by refine(?_:_→_→Prop) [j,h] (List.getD c (Int.toNat (i:Int)) []); exact fun d f=>by refine(?_:_→Prop) (PV.U (cI f 0)); exact fun k=>∀(R:Ex→List PV→aa→Prop),(br (decide ((i:Int)<(w.length:Int))) (InL c 1 (i:Int)∧br (true && cN [.int .u32] 0 f) (∃(q:Nat) (l:List RwC) (most:Int) (t:Int),by refine(?_:_→Prop) (PV.list (en1 .u32 (Ck.pl (a9 l t))) .no); exact fun b=>by refine(?_:_→Prop) [j,h,.cells [.U (Ck.id (a9 l t)),b,.list (en1 .u32 (Ck.ys (a9 l t))) .no,.I (Ck.un (a9 l t))]]; exact fun a=>ag [.ptr 1 0,k] [.ptr q 0,.U t]∧bB d q (rkC l most)∧Ok l most∧∃(l_1:List Int) (tl:Tail) (t_1:Int),ag [b,.U p] [.list (l_1.map u1) tl,.U t_1]∧l_1.length≤1000000∧br (ay l_1 t_1) (R .ret [.ptr 0 0,.U p,k,.list c .no,g,.I i] a) (R .normal [.ptr 0 0,.U p,.U 0,.list c .no,g,.I (wI ((i:Int)+1))] a)) False) (R (.exit 0) [.ptr 0 0,.U p,.U 0,.list c .no,g,.I i] d))→Holds (wpK TR1 [] (fun _=>0) (aL [1,0,1,0] (ar Try.f8)) [] (aj [0,1,4,10,11,12] [.ptr 0 0,.U p,.U 0,.list ((w.map Ck.id).map u1) .no,g,.I i]) d (fun ex e H=>R ex (List.map e [0,1,4,10,11,12]) H)):Prop):=fun R h=>hoE h
theorem nG (R:Rep):vE [.cells [.ptr 1 0],.abs R]:=rI (by
 intro ob ho
 simp only[List.mem_cons,List.not_mem_nil,or_false] at ho
 rcases ho with rfl|rfl
 ·exact ci (.ptr _ _ (by simp))
 ·trivial)
theorem uT {w:List Ck} {i:Nat} (h:i<w.length):((w.map Ck.id).map u1).getD i []=u1 (w.getD i default).id:=by
 rw[List.map_map,getD_map default h]; rfl
theorem uG (w:List Ck) (i:Nat):InL ((w.map Ck.id).map u1) 1 (i:Int)=(i<w.length):=by rw[je,List.length_map]
def vI:LSp:=fun e H Q=>∃(w:List Ck) (m p:Int),RO w m∧ag (List.map e [0,1,4,10,11,12]) [.ptr 0 0,.U p,.U 0,.list ((w.map Ck.id).map u1) .no,.I w.length,.I 0]∧aE H [.cells [.ptr 1 0],.abs (rkC (ae w) m)]∧
 (w.findIdx (fun c=>ay c.pl p)<w.length→∀ G,Q .ret (aj [0,1,4,10,11,12] [.ptr 0 0,.U p,.U (ofS w p),.list ((w.map Ck.id).map u1) .no,.I w.length,.I (w.findIdx (fun c=>ay c.pl p))]) ([.cells [.ptr 1 0],.abs (rkC (ae w) m)]++G))∧
 (w.findIdx (fun c=>ay c.pl p)=w.length→Q (.exit 0) (aj [0,1,4,10,11,12] [.ptr 0 0,.U p,.U 0,.list ((w.map Ck.id).map u1) .no,.I w.length,.I w.length]) [.cells [.ptr 1 0],.abs (rkC (ae w) m)])
theorem rQ:∀ e H Q,vI e H Q→AwK Try.f8.ntmps (.loop (aL [1,0,1,0] (ar Try.f8))) Q e H:=by
 rintro e H Q ⟨w,m,p,ro,he,hH,hQ1,hQ2⟩
 have hfl:w.findIdx (fun c=>ay c.pl p)≤w.length:=List.findIdx_le_length
 have hlen:=ro.len
 refine aZ (hn:=fun _=>0) ap mE (.nil _ _ _ _ _) (σ:=Nat) [0,1,4,10,11,12] (fun i=>i≤w.findIdx (fun c=>ay c.pl p)) (fun i=>[.ptr 0 0,.U p,.U 0,.list ((w.map Ck.id).map u1) .no,.I w.length,.I i]) (fun _=>[.cells [.ptr 1 0],.abs (rkC (ae w) m)]) (fun i=>w.length-i) 0 (Nat.zero_le _) he hH ?_
 intro i hi
 have hi':i≤w.findIdx (fun c=>ay c.pl p):=hi
 refine vy w m p i _ ?_
 simp only[aI,dt,uG,aC]
 by_cases h:i<w.length
 ·rw[if_pos (by omega),uT h]
  refine⟨h,?_⟩
  rw[if_pos (by rfl)]
  obtain⟨c,hcd⟩:∃ c,c=w.getD i default:=⟨_,rfl⟩
  have hcm:c∈w:=by rw[hcd]; exact fW h
  have hid:cI (u1 (w.getD i default).id) 0=c.id:=by rw[← hcd]; rfl
  rw[hid]
  have hg:a9 (ae w) c.id=c:=by rw[dU ro.ok]; exact nt ro.rise hcm
  refine⟨1,ae w,m,c.id,rfl,rfl,ro.ok,?_⟩
  rw[hg]
  refine⟨c.pl,.no,p,rfl,(ro.sm c hcm).pl,?_⟩
  by_cases k:ay c.pl p=true
  ·have hge:w.findIdx (fun c=>ay c.pl p)=i:=dj default hi' h (by rw[← hcd]; exact k)
   rw[if_pos k]
   have:=hQ1 (by omega)
   unfold ofS at this
   rw[hge,if_pos h,← hcd] at this
   exact this [_]
  ·have hlt:i<w.findIdx (fun c=>ay c.pl p):=dy default hi' h (by rw[← hcd]; simpa using k)
   rw[if_neg k]
   exact⟨i+1,(show w.length-(i+1)<w.length-i by omega),hlt,by rw[aW h (by omega)],[_],rfl,Nat.le_refl _,.inr ⟨by
    intro v hv
    simp only[List.mem_cons,List.not_mem_nil,or_false] at hv
    rcases hv with rfl|rfl|rfl|rfl|rfl|rfl
    ·exact .ptr _ _ (by simp)
    ·exact .int _ _
    ·exact .int _ _
    ·exact cy _
    ·exact .int _ _
    ·exact .int _ _,nG _⟩⟩
 ·rw[if_neg (by omega)]
  have:i=w.length:=by omega
  subst this
  exact hQ2 (by omega)
theorem uP (w:List Ck) (m p:Int):(by refine(?_:_→Prop) (Ob.cells [.ptr 1 0]); exact fun e=>by refine(?_:_→Prop) [e,.abs (rkC (ae w) m)]; exact fun d=>∀(K:PV→aa→Prop),(∃(q:Nat) (r:Nat) (w_1:List Ck) (m_1:Int),ag [.ptr 0 0] [.ptr q 0]∧cr d q r (rkC (ae w_1) m_1)∧RO w_1 m_1∧∃(w_2:List Ck) (m_2:Int) (p_1:Int),by refine(?_:_→_→Prop) [e,.abs (rkC (ae w_2) m_2)] (fun(c:Ck)=>ay c.pl p_1); exact fun a b=>RO w_2 m_2∧ag [.ptr 0 0,.U p,.U 0,.list (List.map u1 (w_1.map Ck.id)) .no,.I (↑(List.length (List.map u1 (w_1.map Ck.id))):Int),.I 0] [.ptr 0 0,.U p_1,.U 0,.list (List.map u1 (w_2.map Ck.id)) .no,.I w_2.length,.I 0]∧aE d a∧(List.findIdx b w_2<w_2.length→∀(G:List Ob),K (.U (ofS w_2 p_1)) (a++G))∧(List.findIdx b w_2=w_2.length→K (.U 0) a))→AcK 8 [.ptr 0 0,.U p] d K:Prop):=fun K h=>acW (T:=TR1) (L:=[([1,0,1,0],vI)]) (fun _=>0) Try.func8 (mE) (.cons suE rQ (.nil _ _ _ _ _)) h
def sa (args:List PV) (H:aa) (K:PV→Prop):Prop:=∃(q r:Nat) (w:List Ck) (m p:Int),ag args [.ptr q 0,.U p]∧cr H q r (rkC (ae w) m)∧RO w m∧K (.U (ofS w p))
theorem oU:SpK 8 (.read sa):=by
 rintro args H K ⟨q,r,w,m,p,he,hb,ro,hk⟩
 have he:args=_:=he
 subst he
 refine⟨_,gg ap hb bC (.int _ _) (uP w m p _ ⟨0,1,w,m,rfl,⟨rfl,rfl⟩,ro,w,m,p,ro,(by show _=_; simp only[List.length_map]),rfl,fun h G=>?_,fun h=>?_⟩),hk⟩
 ·exact⟨rfl,_,rfl⟩
 ·refine⟨?_,[],rfl⟩
  unfold ofS
  rw[if_neg (by omega)]
def TR2:Tab:=(8,.read sa)::(20,.heap tG)::TR1
theorem dQ:TbK TR2:= .cons oU (.cons pq mE)
theorem nh (w:List Ck) (m t:Int):(by refine(?_:_→Prop) (Ob.abs (rkC (ae w) m)); exact fun f=>∀(K:PV→aa→Prop),(∃(q:Nat) (l:List RwC) (most:Int) (t_1:Int),by refine(?_:_→Prop) [PV.U (Ck.id (a9 l t_1)),.list (en1 .u32 (Ck.pl (a9 l t_1))) .no,.list (en1 .u32 (Ck.ys (a9 l t_1))) .no,.I (Ck.un (a9 l t_1))]; exact fun e=>ag [.ptr 1 0,.U t] [.ptr q 0,.U t_1]∧bB [.cells [.ptr 1 0],f,.cells [.U 0,.E,.E,.I 0]] q (rkC l most)∧Ok l most∧∃(c:Ck) (t1:Tail) (t2:Tail),by refine(?_:_→Prop) (PV.list (en1 .u32 c.pl) .no); exact fun d=>by refine(?_:_→_→Prop) [PV.U c.id,d,.list (en1 .u32 c.ys) (.tok 4),.I c.un] [PV.U c.id,d,.E,.I c.un]; exact fun a b=>ag [.agg e] [.agg [.U c.id,.list (en1 .u32 c.pl) t1,.list (en1 .u32 c.ys) t2,.I c.un]]∧Ck.Sm c∧(c.ys=[]→K (.tup [.agg b,.bool (has l t_1)]) [.cells [.ptr 1 0],f,.cells b,.cells e])∧(c.ys≠[]→K (.tup [.agg a,.bool (has l t_1)]) [.cells [.ptr 1 0],f,.cells a,.cells e,.tok]))→AcK 10 [.ptr 0 0,.U t] [.cells [.ptr 1 0],f] K:Prop):=fun K h=>acW (T:=TR2) (L:=[]) (fun _=>0) Try.func10 (dQ) (LOk.nil _ _ _ _ _) h
def ckV (c:Ck) (b:Bool) (r:PV):PV:= .tup [.agg [.U c.id,.list (en1 .u32 c.pl) .no,r,.I c.un],.bool b]
def tt (args:List PV) (H:aa) (K:PV→aa→Prop):Prop:=∃(q r:Nat) (w:List Ck) (m t:Int),ag args [.ptr q 0,.U t]∧cr H q r (rkC (ae w) m)∧RO w m∧
 ((aN Ck.id w t).ys=[]→K (.tup [.agg [.U (aN Ck.id w t).id,.list (en1 .u32 (aN Ck.id w t).pl) .no,.E,.I (aN Ck.id w t).un],.bool (aK Ck.id w t)]) H)∧
 ((aN Ck.id w t).ys≠[]→K (.tup [.agg [.U (aN Ck.id w t).id,.list (en1 .u32 (aN Ck.id w t).pl) .no,.list (en1 .u32 (aN Ck.id w t).ys) (.tok H.length),.I (aN Ck.id w t).un],.bool (aK Ck.id w t)]) (H++[.tok]))
theorem vo:SpK 10 (.heap tt):=by
 rintro args H K ⟨q,r,w,m,t,he,hb,ro,h0,h1⟩
 have he:args=_:=he
 subst he
 have hsm:=ro.tD t
 by_cases c0:(aN Ck.id w t).ys=[]
 ·refine dm (R':=rkC (ae w) m) (x0:=ckV (aN Ck.id w t) (aK Ck.id w t) (.E)) ap hb bC (.tup _ (fC (.agg _ (iD (.int _ _) (bg NT.no) (bh NT.exact (by simp)) (.int _ _))) (.bool _))) (nh w m t _ ⟨1,ae w,m,t,rfl,rfl,ro.ok,?_⟩) (by rw[cJ hb.2]; exact h0 c0)
  rw[dU ro.ok,cw ro.ok]
  exact⟨_,.no,.no,rfl,hsm,fun _=>⟨rfl,_,rfl⟩,fun hn=>absurd c0 hn⟩
 ·refine aA (px (es:=en1 .u32 (aN Ck.id w t).ys) ap (ckV (aN Ck.id w t) (aK Ck.id w t)) hb bC (fun ρ n k hk=>?_) (nh w m t _ ⟨1,ae w,m,t,rfl,rfl,ro.ok,?_⟩)) fun x H' e=>by rw[e.1,e.2]; exact h1 c0
  ·refine .vP (.cons (.rH (.cons (.low (.int _ _)) (.cons (.low (bg NT.no)) (.cons (.ltok _ k hk (g5 _ _)) (.cons (.low (.int _ _)) .nil))))) (.cons (.low (.bool _)) .nil))
  ·rw[dU ro.ok,cw ro.ok]
   exact⟨_,.no,.no,rfl,hsm,fun hn=>absurd hn c0,fun _=>⟨4,_,rfl,rfl,rfl⟩⟩
def TR3:Tab:=(10,.heap tt)::TR2
theorem o3:TbK TR3:= .cons vo dQ
theorem nY (w:List Ck) (m t:Int):(by refine(?_:_→_→_→Prop) (Ob.cells [.U 0,.E,.E,.I 0]) (Ob.abs (rkC (ae w) m)) [PV.ptr 0 0,.U t]; exact fun j k n=>∀(K:PV→aa→Prop),(∃(q:Nat) (r:Nat) (w_1:List Ck) (m_1:Int) (t_1:Int),by refine(?_:_→_→Prop) (aN Ck.id w_1 t_1) (aK Ck.id w_1 t_1); exact fun c d=>by refine(?_:_→_→_→Prop) (PV.list (en1 .u32 (Ck.pl c)) .no) (PV.U (Ck.id c)) (PV.I (Ck.un c)); exact fun e h i=>by refine(?_:_→_→Prop) [h,e,.list (en1 .u32 (Ck.ys c)) (.tok 3),i] [h,e,.E,i]; exact fun a b=>by refine(?_:_→_→Prop) (PV.tup [.agg b,.bool d]) (PV.tup [.agg a,.bool d]); exact fun f g=>ag n [.ptr q 0,.U t_1]∧cr [.cells [.ptr 1 0],k,j] q r (rkC (ae w_1) m_1)∧RO w_1 m_1∧(Ck.ys c=[]→br d (∃(l:List RwC) (most:Int) (t_2:Int),ag [.U t] [.U t_2]∧bB [.cells [.ptr 1 0],k,j,.cells b] 1 (rkC l most)∧Ok l most∧K f [.cells [.ptr 1 0],.abs (rkC (ei l t_2) most),.cells b,.cells b]) (K f [.cells [.ptr 1 0],k,.cells b,.cells b]))∧(Ck.ys c≠[]→br d (∃(l:List RwC) (most:Int) (t_2:Int),ag [.U t] [.U t_2]∧bB [.cells [.ptr 1 0],k,j,.tok,.cells a] 1 (rkC l most)∧Ok l most∧K g [.cells [.ptr 1 0],.abs (rkC (ei l t_2) most),.cells a,.tok,.cells a]) (K g [.cells [.ptr 1 0],k,.cells a,.tok,.cells a])))→AcK 21 n [.cells [.ptr 1 0],k] K:Prop):=fun K h=>acW (T:=TR3) (L:=[]) (fun _=>0) Try.func21 (o3) (LOk.nil _ _ _ _ _) h
theorem kX {w:List Ck} {t:Int} (h:aK Ck.id w t=false):ct Ck.id w t=w:=by
 refine List.filter_eq_self.2 fun c hc=>?_
 simp only[bne_iff_ne,ne_eq]
 intro e
 have:=bM.2 ⟨c,hc,e⟩
 rw[h] at this; cases this
theorem RO.drop {w:List Ck} {m:Int} (h:RO w m) (t:Int):RO (ct Ck.id w t) m:=
 ⟨h.rise.drop t,by have:=h.full; have:(ct Ck.id w t).length≤w.length:=List.length_filter_le _ _; omega,h.big,fun c hc=>h.cs c (nF.1 hc).1⟩
def ke (args:List PV) (H:aa) (K:PV→aa→Prop):Prop:=match args with
 | .ptr q 0::rest=>match fI H q with
  | some r=>∃(w:List Ck) (m t:Int),ag rest [.int .u32 t]∧bB H r (rkC (ae w) m)∧RO w m∧K (.tup [(aN Ck.id w t).pv,.bool (aK Ck.id w t)]) (H.set r (.abs (rkC (ae (ct Ck.id w t)) m)))
  | none=>False
 | _=>False
theorem qQ {c:Ck} {b:Bool} {t1 t2:Tail}:Wk (.tup [.agg [.U c.id,.list (en1 .u32 c.pl) t1,.list (en1 .u32 c.ys) t2,.I c.un],.bool b]) (.tup [c.pv,.bool b]):= .tup (.cons iK (.cons (.refl _) .nil))
theorem pT:SpK 21 (.heap ke):=by
 intro args H K h
 unfold ke at h
 split at h
 ·rename_i q rest
  split at h<;>try (exact h.elim)
  rename_i r hr
  obtain⟨w,m,t,he,ha,ro,hk⟩:=h
  have hb:=dh hr ha
  have he:rest=_:=he
  subst he
  refine dm (R':=rkC (ae (ct Ck.id w t)) m) ap hb bC (.tup _ (fC (Ck.low _) (.bool _))) (bD (nY w m t _ ⟨0,1,w,m,t,rfl,⟨rfl,rfl⟩,ro,fun c0=>?_,fun c0=>?_⟩)) hk
  ·rw[aI]
   have ew:=qQ (c:=aN Ck.id w t) (b:=aK Ck.id w t) (t1:= .no) (t2:= .exact)
   rw[c0] at ew
   by_cases c:aK Ck.id w t=true
   ·rw[if_pos c]
    exact⟨ae w,m,t,rfl,rfl,ro.ok,_,ew,rfl,by rw[cG ro.ok]; exact⟨_,rfl⟩⟩
   ·rw[if_neg c]
    exact⟨_,ew,rfl,by rw[kX (by simpa using c)]; exact⟨_,rfl⟩⟩
  ·rw[aI]
   have ew:=fun o=>qQ (c:=aN Ck.id w t) (b:=aK Ck.id w t) (t1:= .no) (t2:= .tok o)
   by_cases c:aK Ck.id w t=true
   ·rw[if_pos c]
    exact⟨ae w,m,t,rfl,rfl,ro.ok,_,ew _,rfl,by rw[cG ro.ok]; exact⟨_,rfl⟩⟩
   ·rw[if_neg c]
    exact⟨_,ew _,rfl,by rw[kX (by simpa using c)]; exact⟨_,rfl⟩⟩
 ·exact h.elim
def TR4:Tab:=(21,.heap ke)::TR3
theorem tV:TbK TR4:= .cons pT o3
theorem uQ (w:List Ck) (m:Int) (pl:List Int) (i:Nat):(by refine(?_:_→_→_→_→_→Prop) [Ob.cells [.ptr 1 0],.abs (rkC (ae w) m)] (PV.list (pl.map u1) .no) (↑(List.length (pl.map u1)):Int) (PV.I pl.length) (Int.toNat (i:Int)); exact fun b c f h j=>by refine(?_:_→_→Prop) (List.getD (pl.map u1) j []) [PV.ptr 0 0,c,.bool false,c,h,.I i]; exact fun d g=>by refine(?_:_→Prop) (PV.U (cI d 0)); exact fun k=>∀(R:Ex→List PV→aa→Prop),by refine(?_:_→Prop) (R .ret [.ptr 0 0,c,.bool true,c,h,.I i] b); exact fun a=>(br (decide ((i:Int)<(pl.length:Int))) (InL (pl.map u1) 1 (i:Int)∧br (true && cN [.int .u32] 0 d) ((iI 0≤0∧0≤(i:Int)∧(i:Int)≤f∧f≤f∧uni 1 (pl.map u1))∧∃(l:List Int) (tl:Tail) (t:Int),ag [.list (List.drop 0 (List.take j (pl.map u1))) .no,k] [.list (l.map u1) tl,.U t]∧l.length≤1000000∧br (ay l t == false) (∃(q:Nat) (r:Nat) (w_1:List Ck) (m_1:Int) (p:Int),ag [.ptr 0 0,k] [.ptr q 0,.U p]∧cr b q r (rkC (ae w_1) m_1)∧RO w_1 m_1∧br (ofS w_1 p != 0) a (R .normal [.ptr 0 0,c,.bool false,c,h,.I (wI ((i:Int)+1))] b)) a) False) (R (.exit 0) g b))→Holds (wpK TR2 [] (fun _=>0) (aL [1,0,1,0] (ar Try.f15)) [] (aj [0,1,4,7,8,9] g) b (fun ex e H=>R ex (List.map e [0,1,4,7,8,9]) H)):Prop):=fun R h=>hoE h
def dP (w:List Ck) (pl:List Int) (k:Nat):Bool:=ay (pl.take k) (pl.getD k 0) || (ofS w (pl.getD k 0) != 0)
def dO (w:List Ck) (pl:List Int):Bool:=(List.range pl.length).any (dP w pl)
theorem di {w:List Ck} {pl:List Int} {i:Nat} (h:i<pl.length) (c:dP w pl i=true):dO w pl=true:=List.any_eq_true.2 ⟨i,List.mem_range.2 h,c⟩
theorem fa {w:List Ck} {pl:List Int} (h:∀ k,k<pl.length→dP w pl k=false):dO w pl=false:=by
 rw[← Bool.not_eq_true]
 intro c
 obtain⟨k,h1,h2⟩:=List.any_eq_true.1 c
 rw[h k (List.mem_range.1 h1)] at h2; cases h2
def tH:LSp:=fun e H Q=>∃(w:List Ck) (m:Int) (pl:List Int),RO w m∧pl.length≤1000000∧ag (List.map e [0,1,4,7,8,9]) [.ptr 0 0,.list (pl.map u1) .no,.bool false,.list (pl.map u1) .no,.I pl.length,.I 0]∧aE H [.cells [.ptr 1 0],.abs (rkC (ae w) m)]∧
 (dO w pl=true→∀ i:Int,Q .ret (aj [0,1,4,7,8,9] [.ptr 0 0,.list (pl.map u1) .no,.bool true,.list (pl.map u1) .no,.I pl.length,.I i]) [.cells [.ptr 1 0],.abs (rkC (ae w) m)])∧
 (dO w pl=false→Q (.exit 0) (aj [0,1,4,7,8,9] [.ptr 0 0,.list (pl.map u1) .no,.bool false,.list (pl.map u1) .no,.I pl.length,.I pl.length]) [.cells [.ptr 1 0],.abs (rkC (ae w) m)])
theorem qK:∀ e H Q,tH e H Q→AwK Try.f15.ntmps (.loop (aL [1,0,1,0] (ar Try.f15))) Q e H:=by
 rintro e H Q ⟨w,m,pl,ro,hl,he,hH,hQ1,hQ2⟩
 refine aZ (hn:=fun _=>0) ap dQ (.nil _ _ _ _ _) (σ:=Nat) [0,1,4,7,8,9] (fun i=>i≤pl.length∧∀ k,k<i→dP w pl k=false) (fun i=>[.ptr 0 0,.list (pl.map u1) .no,.bool false,.list (pl.map u1) .no,.I pl.length,.I i]) (fun _=>[.cells [.ptr 1 0],.abs (rkC (ae w) m)]) (fun i=>pl.length-i) 0 ⟨Nat.zero_le _,fun k hk=>absurd hk (Nat.not_lt_zero _)⟩ he hH ?_
 rintro i ⟨hi,hk⟩
 refine uQ w m pl i _ ?_
 simp only[aI,dt,bf,je,aC,List.length_map]
 by_cases h:i<pl.length
 ·rw[if_pos (by omega)]
  simp only[getD_map 0 h]
  refine⟨h,?_⟩
  rw[if_pos (by rfl)]
  have hv:cI (u1 (pl.getD i 0)) 0=pl.getD i 0:=rfl
  simp only[hv]
  refine⟨⟨by decide,by omega,by omega,by omega,fN cK _⟩,pl.take i,.no,pl.getD i 0,(by show _=_; rw[List.drop_zero,← List.map_take]),by rw[List.length_take]; omega,?_⟩
  by_cases c1:ay (pl.take i) (pl.getD i 0)=true
  ·rw[if_neg (by rw[c1]; decide)]
   exact hQ1 (di h (by unfold dP; rw[c1]; rfl)) i
  ·have c1':ay (pl.take i) (pl.getD i 0)=false:=eq_false_of_ne_true c1
   rw[if_pos c1']
   refine⟨0,1,w,m,_,rfl,⟨rfl,rfl⟩,ro,?_⟩
   by_cases c2:(ofS w (pl.getD i 0) != 0)=true
   ·rw[if_pos c2]
    exact hQ1 (di h (by unfold dP; rw[c1',c2]; rfl)) i
   ·rw[if_neg c2]
    refine⟨i+1,(show pl.length-(i+1)<pl.length-i by omega),⟨h,fun k hk'=>?_⟩,by rw[aW h (by omega)],[],rfl,Nat.le_refl _,.inl rfl⟩
    rcases Nat.eq_or_lt_of_le (Nat.le_of_lt_succ hk') with rfl|q
    ·have c2':(ofS w (pl.getD k 0) != 0)=false:=eq_false_of_ne_true c2
     unfold dP; rw[c1',c2']; rfl
    ·exact hk k q
 ·rw[if_neg (by omega)]
  have hi':i≤pl.length:=hi
  have:i=pl.length:=by omega
  subst this
  exact hQ2 (fa hk)
theorem sS (w:List Ck) (m:Int) (pl:List Int):∀(K:PV→aa→Prop),(∃(w_1:List Ck) (m_1:Int) (pl_1:List Int),by refine(?_:_→_→Prop) [Ob.cells [.ptr 1 0],.abs (rkC (ae w_1) m_1)] (PV.list (pl_1.map u1) .no); exact fun a b=>RO w_1 m_1∧pl_1.length≤1000000∧ag [.ptr 0 0,.list (pl.map u1) .no,.bool false,.list (pl.map u1) .no,.I (↑(List.length (pl.map u1)):Int),.I 0] [.ptr 0 0,b,.bool false,b,.I pl_1.length,.I 0]∧aE [.cells [.ptr 1 0],.abs (rkC (ae w) m)] a∧(dO w_1 pl_1=true→∀(_:Int),K (.bool true) a)∧(dO w_1 pl_1=false→K (.bool false) a))→AcK 15 [.ptr 0 0,.list (pl.map u1) .no] [.cells [.ptr 1 0],.abs (rkC (ae w) m)] K:=fun K h=>acW (T:=TR2) (L:=[([1,0,1,0],tH)]) (fun _=>0) Try.func15 (dQ) (.cons suE qK (.nil _ _ _ _ _)) h
def tg (args:List PV) (H:aa) (K:PV→Prop):Prop:=∃(q r:Nat) (w:List Ck) (m:Int) (pl:List Int),ag args [.ptr q 0,.list (pl.map u1) .no]∧cr H q r (rkC (ae w) m)∧RO w m∧pl.length≤1000000∧K (.bool (dO w pl))
theorem uz:SpK 15 (.read tg):=by
 rintro args H K ⟨q,r,w,m,pl,he,hb,ro,hl,hk⟩
 have he:args=_:=he
 subst he
 exact⟨_,gg ap hb (ci (cy _)) (.bool _) (sS w m pl _ ⟨w,m,pl,ro,hl,(by show _=_; simp only[List.length_map]),rfl,fun h _=>⟨by rw[h],[],rfl⟩,fun h=>⟨by rw[h],[],rfl⟩⟩),hk⟩
def pg (args:List PV) (K:PV→Prop):Prop:=∃(l:List Int) (tl:Tail),ag args [.list (l.map u1) tl]∧l.length≤1000000∧K (.list (l.map u1) .no)
theorem rO:SpK 17 (.pure pg):=by
 rintro args K ⟨l,tl,he,hl,hk⟩
 have he:args=_:=he
 subst he
 refine g7 ap (.cons (.list _ _) .nil) (ci (cy _)) (cy l) ?_ hk
 obtain⟨es,e1,h⟩:=ov [.list (l.map u1) .no] (fun es=>es=l.map u1) ⟨l,.no,rfl,hl,rfl⟩
 subst e1
 refine bD (aA (h []) fun x H' e=>?_)
 by_cases c:l.map u1=[]
 ·rw[(e.1 c).1,c]; exact⟨_,.list _ _,rfl⟩
 ·rw[(e.2 c).1]; exact⟨_,.list _ _,rfl⟩
def ql (args:List PV) (K:PV→Prop):Prop:=∃(c:Ck) (t1 t2:Tail),ag args [.agg [.U c.id,.list (en1 .u32 c.pl) t1,.list (en1 .u32 c.ys) t2,.I c.un]]∧c.Sm∧K c.pv
theorem r8:SpK 20 (.pure ql):=by
 rintro args K ⟨c,t1,t2,he,h,hk⟩
 have he:args=_:=he
 subst he
 refine g7 ap (.cons iK .nil) (ci c.low) c.low (bD (pq _ [] _ ⟨c,.no,.no,rfl,h,fun e=>⟨c.pv,by have k:=iK (c:=c) (t1:= .no) (t2:= .exact); rw[e] at k; exact k,rfl⟩,fun _=>⟨_,iK,rfl⟩⟩)) hk
def TR5:Tab:=(15,.read tg)::(17,.pure pg)::(13,.pure fT)::TR2
theorem pN:TbK TR5:= .cons uz (.cons rO (.cons iR dQ))
def TR6:Tab:=(20,.pure ql)::TR4
theorem uv:TbK TR6:= .cons r8 tV
theorem uf (l:List (Int)) (w:List Ck) (m id un:Int) (pl:List Int) (i:Nat):(by refine(?_:_→_→_→_→_→Prop) [Ob.cells [.ptr 1 0],.abs (rkC (ae w) m)] (List.getD (l.map u1) (Int.toNat (i:Int)) []) (PV.list (pl.map u1) .no) (PV.list (l.map u1) .no) (PV.I l.length); exact fun b c d f g=>by refine(?_:_→Prop) [PV.ptr 0 0,.U id,.I un,d,.I 0,f,g,.I i]; exact fun a=>∀(R:Ex→List PV→aa→Prop),(br (decide ((i:Int)<(l.length:Int))) (InL (l.map u1) 1 (i:Int)∧br (true && cN [.int .u32] 0 c) (br (!av (cI c 0)) (R .ret [.ptr 0 0,.U id,.I un,d,.I 14,f,g,.I i] b) (R .normal [.ptr 0 0,.U id,.I un,d,.I 0,f,g,.I (wI ((i:Int)+1))] b)) False) (R (.exit 0) a b))→Holds (wpK TR5 [] (fun _=>0) (aL [1,1,0,1,0] (ar Try.f5)) [] (aj [0,1,2,3,8,18,19,20] a) b (fun ex e H=>R ex (List.map e [0,1,2,3,8,18,19,20]) H)):Prop):=fun R h=>hoE h
def td:LSp:=fun e H Q=>∃(l:List (Int)) (w:List Ck) (m id un:Int) (pl:List Int),l.length≤1000000∧(True)∧ag (List.map e [0,1,2,3,8,18,19,20]) [.ptr 0 0,.U id,.I un,.list (pl.map u1) .no,.I 0,.list (l.map u1) .no,.I l.length,.I 0]∧aE H [.cells [.ptr 1 0],.abs (rkC (ae w) m)]∧
 (l.findIdx (fun x=> !av x)<l.length→Q .ret (aj [0,1,2,3,8,18,19,20] [.ptr 0 0,.U id,.I un,.list (pl.map u1) .no,.I 14,.list (l.map u1) .no,.I l.length,.I (l.findIdx (fun x=> !av x))]) [.cells [.ptr 1 0],.abs (rkC (ae w) m)])∧(l.findIdx (fun x=> !av x)=l.length→Q (.exit 0) (aj [0,1,2,3,8,18,19,20] [.ptr 0 0,.U id,.I un,.list (pl.map u1) .no,.I 0,.list (l.map u1) .no,.I l.length,.I l.length]) [.cells [.ptr 1 0],.abs (rkC (ae w) m)])
theorem qy:∀ e H Q,td e H Q→AwK Try.f5.ntmps (.loop (aL [1,1,0,1,0] (ar Try.f5))) Q e H:=by
 rintro e H Q ⟨l,w,m,id,un,pl,hl,_,he,hH,hQ1,hQ2⟩
 have hfl:l.findIdx (fun x=> !av x)≤l.length:=List.findIdx_le_length
 refine aZ (hn:=fun _=>0) ap (pN) (.nil _ _ _ _ _) (σ:=Nat) [0,1,2,3,8,18,19,20] (fun i=>i≤l.findIdx (fun x=> !av x)) (fun i=>[.ptr 0 0,.U id,.I un,.list (pl.map u1) .no,.I 0,.list (l.map u1) .no,.I l.length,.I i]) (fun _=>[.cells [.ptr 1 0],.abs (rkC (ae w) m)]) (fun i=>l.length-i) 0 (Nat.zero_le _) he hH ?_
 intro i hi
 have hi':i≤l.findIdx (fun x=> !av x):=hi
 refine uf l w m id un pl i _ ?_
 simp only[aI,dt,aC,je]
 by_cases h:i<l.length
 ·rw[if_pos (by omega)]
  simp only[getD_map 0 h]
  repeat (first|refine⟨h,?_⟩|rw[if_pos (by rfl)])
  by_cases c:(fun x=> !av x) (l.getD i 0)=true
  ·have hge:l.findIdx (fun x=> !av x)=i:=dj 0 hi' h c
   rw[hge] at hQ1
   rw[if_pos (by exact c)]
   repeat (first|refine⟨h,?_⟩|rw[if_pos (by rfl)])
   exact hQ1 h
  ·have hlt:i<l.findIdx (fun x=> !av x):=dy 0 hi' h (by simpa using c)
   rw[if_neg (by exact c)]
   exact⟨i+1,(show l.length-(i+1)<l.length-i by omega),hlt,by rw[aW h (by omega)],[],rfl,Nat.le_refl _,.inl rfl⟩
 ·rw[if_neg (by omega)]
  have:i=l.length:=by omega
  subst this
  exact hQ2 (by omega)
theorem oB (w:List Ck) (m id un:Int) (pl:List Int):∀(K:PV→aa→Prop),(fU [[PV.U id]] (pl.map u1) 1 4∧∃(l:List Int) (w_1:List Ck) (m_1:Int) (id_1:Int) (un_1:Int) (pl_1:List Int),by refine(?_:_→_→_→Prop) (PV.list (pl_1.map u1) .no) (↑(List.length (pl_1.map u1)):Int) (Ob.abs (rkC (ae w_1) m_1)); exact fun f g h=>by refine(?_:_→Prop) [Ob.cells [.ptr 1 0],h]; exact fun e=>l.length≤1000000∧True∧ag [.ptr 0 0,.U id,.I un,.list (pl.map u1) .no,.I 0,.list ([[PV.U id]]++pl.map u1) .no,.I (↑(List.length ([[PV.U id]]++pl.map u1)):Int),.I 0] [.ptr 0 0,.U id_1,.I un_1,f,.I 0,.list (l.map u1) .no,.I l.length,.I 0]∧aE [.cells [.ptr 1 0],.abs (rkC (ae w) m)] e∧(List.findIdx (fun(x:Int)=> !av x) l<l.length→K (.I 14) e)∧(List.findIdx (fun(x:Int)=> !av x) l=l.length→∃(q:Nat) (l:List RwC) (most:Int) (t:Int),by refine(?_:_→Prop) (Ob.cells [.U (Ck.id (a9 l t)),.list (en1 .u32 (Ck.pl (a9 l t))) .no,.list (en1 .u32 (Ck.ys (a9 l t))) .no,.I (Ck.un (a9 l t))]); exact fun b=>by refine(?_:_→Prop) [Ob.cells [.ptr 1 0],h,b]; exact fun a=>by refine(?_:_→_→Prop) (K (.I 21) a) (K (.I 11) a); exact fun c d=>ag [.ptr 1 0,.U id_1] [.ptr q 0,.U t]∧bB e q (rkC l most)∧Ok l most∧br (decide (g<1) == false) (br (decide (g>8)) c (br (has l t == false) (∃(q:Nat) (r:Nat) (w:List Ck) (m:Int) (pl:List Int),ag [.ptr 0 0,f] [.ptr q 0,.list (pl.map u1) .no]∧cr a q r (rkC (ae w) m)∧RO w m∧pl.length≤1000000∧br (dO w pl) d (∃(l_1:List Int) (tl:Tail),ag [f] [.list (l_1.map u1) tl]∧l_1.length≤1000000∧∃(l_2:List RwC) (most:Int) (t_1:Int) (v:Ck) (t1:Tail) (t2:Tail),ag [.U id_1,.agg [.U id_1,.list (l_1.map u1) .no,.E,.I un_1]] [.U t_1,.agg [.U v.id,.list (en1 .u32 v.pl) t1,.list (en1 .u32 v.ys) t2,.I v.un]]∧bB a 1 (rkC l_2 most)∧Ok l_2 most∧K (.I (Prod.snd (cM l_2 most t_1 v))) [.cells [.ptr 1 0],.abs (rkC (Prod.fst (cM l_2 most t_1 v)) most),b])) d)) c))→AcK 5 [.ptr 0 0,.U id,.I un,.list (pl.map u1) .no] [.cells [.ptr 1 0],.abs (rkC (ae w) m)] K:=fun K h=>acW (T:=TR5) (L:=[([1,1,0,1,0],td)]) (fun o=>match o.dst with|some 65=>7|_=>0) Try.func5 (pN) (.cons suE qy (.nil _ _ _ _ _)) h
theorem sZ (w:List Ck) (m p:Int):(by refine(?_:_→_→_→_→Prop) [PV.U 0,.E,.E,.I 0] (Ob.abs (rkC (ae w) m)) (Ob.cells [.ptr 1 0]) [PV.ptr 0 0,.U p]; exact fun z A B F=>by refine(?_:_→_→_→Prop) (PV.tup [.agg z,.bool false,.I 12]) (PV.tup [.agg z,.bool false,.I 11]) [Ob.cells [.ptr 1 0],A,.cells z]; exact fun C D E=>∀(K:PV→aa→Prop),(∃(q:Nat) (r:Nat) (w_1:List Ck) (m_1:Int) (p_1:Int),ag F [.ptr q 0,.U p_1]∧cr E q r (rkC (ae w_1) m_1)∧RO w_1 m_1∧∃(q:Nat) (r:Nat) (w_2:List Ck) (m_2:Int) (t:Int),by refine(?_:_→_→Prop) (aN Ck.id w_2 t) (!aK Ck.id w_2 t); exact fun d y=>by refine(?_:_→_→_→_→_→Prop) (en1 .u32 (Ck.pl d)) (PV.I (Ck.un d)) (en1 .u32 (Ck.ys d)++[[PV.U p]]) (en1 .u32 (Ck.ys d)) (PV.U (Ck.id d)); exact fun i k n o x=>by refine(?_:_→_→_→Prop) x (↑(List.length i):Int) x; exact fun j s u=>by refine(?_:_→_→_→_→Prop) [u,.list i .no,.list n (.tok 5),k] [u,.list i .no,.list [[PV.U p]] (.tok 4),k] [B,A,.cells z,.tok,.cells [j,.list i .no,.list o (.tok 3),k]] [B,A,.cells z,.cells [j,.list i .no,.E,k]]; exact fun a b e f=>by refine(?_:_→_→Prop) [B,A,.cells z,.dead,.cells a,.tok] [B,A,.cells z,.cells b,.tok]; exact fun g h=>ag [.ptr 0 0,.U (ofS w_1 p_1)] [.ptr q 0,.U t]∧cr E q r (rkC (ae w_2) m_2)∧RO w_2 m_2∧(Ck.ys d=[]→br y (K C f) (∃(l:List Int) (tl:Tail) (t_1:Int),ag [.E,.U p] [.list (l.map u1) tl,.U t_1]∧l.length≤1000000∧br (ay l t_1) (K D f) (fU [] [[PV.U p]] 1 4∧(List.all [.U p] PV.one=true∧[[PV.U p]]≠[])∧br ((1:Int) == s) (∃(l:List RwC) (most:Int) (t_2:Int),ag [j] [.U t_2]∧bB h 1 (rkC l most)∧Ok l most∧K (.tup [.agg b,.bool true,.I 0]) [.cells [.ptr 1 0],.abs (rkC (ei l t_2) most),.cells b,.cells b,.tok]) (∃(c:Ck) (t1:Tail) (t2:Tail),ag [.agg b] [.agg [.U c.id,.list (en1 .u32 c.pl) t1,.list (en1 .u32 c.ys) t2,.I c.un]]∧Ck.Sm c∧∃(l:List RwC) (most:Int) (t_2:Int) (v:Ck) (t1:Tail) (t2:Tail),ag [j,.agg [.U c.id,.list (en1 .u32 c.pl) .no,.list (en1 .u32 c.ys) .no,.I c.un]] [.U t_2,.agg [.U v.id,.list (en1 .u32 v.pl) t1,.list (en1 .u32 v.ys) t2,.I v.un]]∧bB h 1 (rkC l most)∧Ok l most∧K (.tup [.agg b,.bool false,.I 0]) [.cells [.ptr 1 0],.abs (rkC (Prod.fst (cM l most t_2 v)) most),.cells b,.cells b,.tok]))))∧(Ck.ys d≠[]→br y (K C e) (∃(l:List Int) (tl:Tail) (t_1:Int),ag [.list o (.tok 3),.U p] [.list (l.map u1) tl,.U t_1]∧l.length≤1000000∧br (ay l t_1) (K D e) (fU o [[PV.U p]] 1 4∧(List.all [.U p] PV.one=true∧[[PV.U p]]≠[])∧br ((↑(List.length n):Int) == s) (∃(l:List RwC) (most:Int) (t_2:Int),ag [j] [.U t_2]∧bB g 1 (rkC l most)∧Ok l most∧K (.tup [.agg a,.bool true,.I 0]) [.cells [.ptr 1 0],.abs (rkC (ei l t_2) most),.cells a,.dead,.cells a,.tok]) (∃(c:Ck) (t1:Tail) (t2:Tail),ag [.agg a] [.agg [.U c.id,.list (en1 .u32 c.pl) t1,.list (en1 .u32 c.ys) t2,.I c.un]]∧Ck.Sm c∧∃(l:List RwC) (most:Int) (t_2:Int) (v:Ck) (t1:Tail) (t2:Tail),ag [j,.agg [.U c.id,.list (en1 .u32 c.pl) .no,.list (en1 .u32 c.ys) .no,.I c.un]] [.U t_2,.agg [.U v.id,.list (en1 .u32 v.pl) t1,.list (en1 .u32 v.ys) t2,.I v.un]]∧bB g 1 (rkC l most)∧Ok l most∧K (.tup [.agg a,.bool false,.I 0]) [.cells [.ptr 1 0],.abs (rkC (Prod.fst (cM l most t_2 v)) most),.cells a,.dead,.cells a,.tok])))))→AcK 6 F [.cells [.ptr 1 0],A] K:Prop):=fun K h=>acW (T:=TR6) (L:=[]) (fun o=>match o.dst with|some 47=>7|some 58=>7|some 31=>1|_=>0) Try.func6 (uv) (LOk.nil _ _ _ _ _) h
def bW (w:List Ck) (m id un:Int) (pl:List Int):List Ck×Int:=
 if(id::pl).all av=true then(if pl.length<1∨8<pl.length then(w,21) else if aK Ck.id w id=true∨dO w pl=true then(w,11) else if(w.length:Int)≥m then(w,10) else(er Ck.id w ⟨id,pl,[],un⟩,0)) else(w,14)
theorem fQ {p:Int→Bool} (l:List Int):(l.all p=true→l.findIdx (fun x=> !p x)=l.length)∧(¬ l.all p=true→l.findIdx (fun x=> !p x)<l.length):=by
 constructor
 ·intro h
  rw[List.findIdx_eq_length]
  intro x hx
  rw[List.all_eq_true.1 h x hx]; rfl
 ·intro h
  rw[List.findIdx_lt_length]
  have h':l.all p=false:=eq_false_of_ne_true h
  rw[List.all_eq_false] at h'
  obtain⟨x,hx,hp⟩:=h'
  exact⟨x,hx,by simpa using hp⟩
def l6 (args:List PV) (H:aa) (K:PV→aa→Prop):Prop:=match args with
 | .ptr q 0::rest=>match fI H q with
  | some r=>∃(w:List Ck) (m id un:Int) (pl:List Int) (tl:Tail),ag rest [.int .u32 id,.int .i64 un,.list (pl.map u1) tl]∧bB H r (rkC (ae w) m)∧RO w m∧pl.length≤100000∧K (.int .i64 (bW w m id un pl).2) (H.set r (.abs (rkC (ae (bW w m id un pl).1) m)))
  | none=>False
 | _=>False
theorem sO:SpK 5 (.heap l6):=by
 intro args H K h
 unfold l6 at h
 split at h
 ·rename_i q rest
  split at h<;>try (exact h.elim)
  rename_i r hr
  obtain⟨w,m,id,un,pl,tl,he,ha,ro,hpl,hk⟩:=h
  have hb:=dh hr ha
  have he:rest=_:=he
  subst he
  refine bV (.cons (.refl _) (.cons (.refl _) (.cons (.refl _) (.cons (.list _ _) .nil)))) ?_
  refine dm (R':=rkC (ae (bW w m id un pl).1) m) ap hb (jB (.int _ _) (.int _ _) (cy _)) (.int _ _) (oB w m id un pl _ ?_) hk
  refine⟨⟨(by intro e he; rcases List.mem_singleton.1 he with rfl; rfl),fN cK _,by simp; omega⟩,id::pl,w,m,id,un,pl,(by simp; omega),trivial,(by show _=_; rw[show([[PV.int IntKind.u32 id]]++pl.map u1).length=(id::pl).length from by simp]; rfl),rfl,fun hf=>?_,fun hf=>?_⟩
  ·have c:¬ (id::pl).all av=true:=fun c=>by have:=(fQ (id::pl)).1 c; omega
   unfold bW
   rw[if_neg c]
   exact⟨rfl,_,rfl⟩
  ·have c:(id::pl).all av=true:=Classical.byContradiction fun c=>by have:=(fQ (id::pl)).2 c; omega
   have hid:av id=true:=List.all_eq_true.1 c id (by simp)
   unfold bW
   rw[if_pos c]
   refine⟨1,ae w,m,id,rfl,rfl,ro.ok,?_⟩
   simp only[aI,dt,bf,List.length_map,cw ro.ok]
   by_cases c1:pl.length<1∨8<pl.length
   ·rw[if_pos c1]
    by_cases c2:pl.length<1
    ·rw[if_neg (by simp; omega)]
     exact⟨rfl,_,rfl⟩
    ·rw[if_pos (by simp; omega),if_pos (by omega)]
     exact⟨rfl,_,rfl⟩
   ·rw[if_neg c1,if_pos (by simp; omega),if_neg (by omega)]
    by_cases c3:aK Ck.id w id=true
    ·rw[if_neg (by rw[c3]; decide),if_pos (.inl c3)]
     exact⟨rfl,_,rfl⟩
    ·have c3':aK Ck.id w id=false:=eq_false_of_ne_true c3
     rw[if_pos c3']
     refine⟨0,1,w,m,pl,rfl,⟨rfl,rfl⟩,ro,by omega,?_⟩
     by_cases c4:dO w pl=true
     ·rw[if_pos c4,if_pos (.inr c4)]
      exact⟨rfl,_,rfl⟩
     ·rw[if_neg c4,if_neg (fun h=>h.elim c3 c4)]
      refine⟨pl,.no,rfl,by omega,ae w,m,id,⟨id,pl,[],un⟩,.no,.exact,rfl,rfl,ro.ok,?_⟩
      have e:=fj ro.rise ro.ok ⟨id,pl,[],un⟩
      rw[show cM (ae w) m id ⟨id,pl,[],un⟩=_ from e,if_pos hid]
      by_cases c5:(w.length:Int)≥m
      ·rw[if_pos ⟨c3',c5⟩,if_pos c5]
       exact⟨rfl,_,rfl⟩
      ·rw[if_neg (fun h=>c5 h.2),if_neg c5]
       exact⟨rfl,_,rfl⟩
 ·exact h.elim
def fb (w:List Ck) (p:Int):Ck:=aN Ck.id w (ofS w p)
def l7 (w:List Ck) (p:Int):Ck:=⟨(fb w p).id,(fb w p).pl,(fb w p).ys++[p],(fb w p).un⟩
def ef (w:List Ck) (p:Int):List Ck×Ck×Bool×Int:=
 if aK Ck.id w (ofS w p)=true then
  (if ay (fb w p).ys p=true then(w,ck0,false,11)
   else if((l7 w p).ys.length:Int)=(fb w p).pl.length then(ct Ck.id w (fb w p).id,l7 w p,true,0) else(er Ck.id w (l7 w p),l7 w p,false,0))
 else(w,ck0,false,12)
def m8 (args:List PV) (H:aa) (K:PV→aa→Prop):Prop:=match args with
 | .ptr q 0::rest=>match fI H q with
  | some r=>∃(w:List Ck) (m p:Int),ag rest [.int .u32 p]∧bB H r (rkC (ae w) m)∧RO w m∧K (.tup [(ef w p).2.1.pv,.bool (ef w p).2.2.1,.int .i64 (ef w p).2.2.2]) (H.set r (.abs (rkC (ae (ef w p).1) m)))
  | none=>False
 | _=>False
theorem mh {c:Ck} {b:Bool} {n:Int} {t1 t2:Tail}:Wk (.tup [.agg [.U c.id,.list (en1 .u32 c.pl) t1,.list (en1 .u32 c.ys) t2,.I c.un],.bool b,.I n]) (.tup [c.pv,.bool b,.I n]):= .tup (.cons iK (.cons (.refl _) (.cons (.refl _) .nil)))
theorem qh:SpK 6 (.heap m8):=by
 intro args H K h
 unfold m8 at h
 split at h
 ·rename_i q rest
  split at h<;>try (exact h.elim)
  rename_i r hr
  obtain⟨w,m,p,he,ha,ro,hk⟩:=h
  have hb:=dh hr ha
  have he:rest=_:=he
  subst he
  refine dm (R':=rkC (ae (ef w p).1) m) ap hb bC (.tup _ (jB (Ck.low _) (.bool _) (.int _ _))) (bD (sZ w m p _ ⟨0,1,w,m,p,rfl,⟨rfl,rfl⟩,ro,0,1,w,m,ofS w p,rfl,⟨rfl,rfl⟩,ro,?_⟩)) hk
  obtain⟨c,hc⟩:∃ c,c=aN Ck.id w (ofS w p):=⟨_,rfl⟩
  have hn:l7 w p=⟨c.id,c.pl,c.ys++[p],c.un⟩:=by rw[hc]; rfl
  have hcc:fb w p=c:=hc.symm
  unfold ef
  rw[hn,hcc]
  rw[← hc]
  simp only[aI]
  by_cases c1:aK Ck.id w (ofS w p)=true
  ·rw[if_pos c1]
   have hcm:c∈w:=by rw[hc]; exact(dl c1).1
   have ck:=ro.cs c hcm
   have hle:=ck.le
   have h8:=ck.n8
   have hhas:aK Ck.id w c.id=true:=bM.2 ⟨c,hcm,rfl⟩
   have hput:cM (ae w) m c.id ⟨c.id,c.pl,c.ys++[p],c.un⟩=(ae (er Ck.id w ⟨c.id,c.pl,c.ys++[p],c.un⟩),0):=by
    rw[show cM (ae w) m c.id ⟨c.id,c.pl,c.ys++[p],c.un⟩=_ from fj ro.rise ro.ok ⟨c.id,c.pl,c.ys++[p],c.un⟩,if_pos ck.rt,if_neg (by rw[hhas]; simp)]
   have hsm:(⟨c.id,c.pl,c.ys++[p],c.un⟩:Ck).Sm:=⟨by show c.pl.length≤_; omega,by show(c.ys++[p]).length≤_; rw[List.length_append,List.length_singleton]; omega⟩
   have happ:fU (en1 .u32 c.ys) [[PV.U p]] 1 4:=ic cK c.ys p (by omega)
   have hone:=one_row kA p
   have e4:en1 .u32 (c.ys++[p])=en1 .u32 c.ys++[[PV.U p]]:=(lW _ _ _).symm
   have ew:=fun(b:Bool) (t:Tail)=>mh (c:=⟨c.id,c.pl,c.ys++[p],c.un⟩) (b:=b) (n:=0) (t1:= .no) (t2:=t)
   simp only[e4] at ew
   refine⟨fun c0=>?_,fun c0=>?_⟩
   ·rw[if_neg (by rw[c1]; decide)]
    refine⟨[],.exact,p,rfl,by simp,?_⟩
    rw[c0] at happ e4 hput hsm hle ⊢
    simp only[c0] at ew
    have m0:ay [] p=false:=by simp[ay]
    simp only[m0,Bool.false_eq_true,if_false]
    refine⟨happ,hone,?_⟩
    rw[bE]
    simp only[List.nil_append,List.length_singleton]
    by_cases c2:(1:Int)=c.pl.length
    ·rw[if_pos (by simpa using c2),if_pos (by simpa using c2)]
     refine⟨ae w,m,c.id,rfl,rfl,ro.ok,_,ew true _,rfl,?_⟩
     rw[cG ro.ok]
     exact⟨_,rfl⟩
    ·rw[if_neg (by simpa using c2),if_neg (by simpa using c2)]
     refine⟨⟨c.id,c.pl,[p],c.un⟩,_,_,rfl,hsm,ae w,m,c.id,⟨c.id,c.pl,[p],c.un⟩,.no,.no,rfl,rfl,ro.ok,_,ew false _,rfl,?_⟩
     rw[show cM (ae w) m c.id ⟨c.id,c.pl,[p],c.un⟩=_ from hput]
     exact⟨_,rfl⟩
   ·rw[if_neg (by rw[c1]; decide)]
    refine⟨c.ys,_,p,rfl,by omega,?_⟩
    by_cases c3:ay c.ys p=true
    ·rw[if_pos c3,if_pos c3]
     exact⟨_,mh (c:=ck0) (t1:= .exact) (t2:= .exact),rfl,_,rfl⟩
    ·rw[if_neg c3,if_neg c3]
     refine⟨happ,hone,?_⟩
     rw[List.length_append,bE,bE]
     by_cases c2:((c.ys++[p]).length:Int)=c.pl.length
     ·have c2':=c2
      rw[List.length_append,List.length_singleton] at c2'
      rw[if_pos (by simp; omega),if_pos c2]
      refine⟨ae w,m,c.id,rfl,rfl,ro.ok,_,ew true _,rfl,?_⟩
      rw[cG ro.ok]
      exact⟨_,rfl⟩
     ·have c2':=c2
      rw[List.length_append,List.length_singleton] at c2'
      rw[if_neg (by simp; omega),if_neg c2]
      refine⟨⟨c.id,c.pl,c.ys++[p],c.un⟩,_,_,(by show _=_; simp only[e4]; rfl),hsm,ae w,m,c.id,⟨c.id,c.pl,c.ys++[p],c.un⟩,.no,.no,rfl,rfl,ro.ok,_,ew false _,rfl,?_⟩
      rw[hput]
      exact⟨_,rfl⟩
  ·rw[if_neg c1]
   have hc0:c=ck0:=by rw[hc]; exact gp (eq_false_of_ne_true c1)
   rw[hc0]
   refine⟨fun _=>?_,fun hn=>absurd rfl hn⟩
   rw[if_pos (by rw[eq_false_of_ne_true c1]; rfl)]
   exact⟨_,mh (c:=ck0) (t1:= .exact) (t2:= .exact),rfl,_,rfl⟩
 ·exact h.elim
theorem qD (n:Int)  (K:PV→aa→Prop) (h:∃(n_1:Int),ag [.I n] [.I n_1]∧K (.ptr 1 0) [.abs (rkC [] (mxI 0 n_1)),.cells [.ptr 0 0]]):AcK 4 [.I n] [] K:=
 acW (T:=TR0) (L:=[]) (fun _=>0) Try.func4 (ja) (LOk.nil _ _ _ _ _) h
def my (args:List PV) (H:aa) (K:PV→aa→Prop):Prop:=∃ n:Int,ag args [.I n]∧K (.ptr (H.length+1) 0) (H++[.abs (rkC (ae []) (mxI 0 n)),.cells [.ptr H.length 0]])
theorem mX:SpK 4 (.heap my):=by
 rintro args H K ⟨n,he,hk⟩
 have he:args=_:=he
 subst he
 exact aA (lN ap (ci (.int _ _)) (qD n _ ⟨n,rfl,rfl,rfl⟩)) fun _ _ e=>e.1▸e.2▸hk
def aX (cs:List PV) (off:Nat) (ns:List Int):Prop:=∃ A B:List PV,(∀ x∈A,x = .any)∧(∀ x∈B,x = .any)∧A.length=off∧cs=A++(ns.map (PV.int .u32)++B)
theorem aX.low {cs:List PV} {off:Nat} {ns:List Int} (h:aX cs off ns):∀ x∈cs,Low 0 x:=by
 obtain⟨A,B,h1,h2,_,rfl⟩:=h
 intro x hx
 rcases List.mem_append.1 hx with hx|hx
 ·rw[h1 x hx]; exact .any
 ·rcases List.mem_append.1 hx with hx|hx
  ·exact oW .u32 ns x hx
  ·rw[h2 x hx]; exact .any
theorem u9 (o:Nat) (H:aa):SfL o H [PV.U 0,.E,.E,.I 0] [.U 0,.E,.E,.I 0]:=
 .cons (.int _ _) (.cons (.nil _ NT.exact) (.cons (.nil _ NT.exact) (.cons (.int _ _) .nil)))
def pP:LSp:=fun e H Q=>∃(c:Ck),c.Sm∧c.pl≠[]∧ag (List.map e [1,2]) [.ptr 0 0,.ptr 1 0]∧aE H [.cells c.cells,.cells [.U 0,.E,.E,.I 0]]∧
 ∀(off cap:Nat) (cs:List PV) (t2:Tail) (G:aa),aX cs off c.pl→c.pl.length≤cap→Q .normal (aj [1,2] [.ptr 0 0,.ptr 1 0]) ([.cells [.U c.id,.arr 2 off c.pl.length cap,.list (en1 .u32 c.ys) t2,.I c.un],.cells [.U 0,.E,.E,.I 0],.cells cs]++G)
theorem nV:∀ e H Q,pP e H Q→AwK Try.f20.ntmps (gD [1,0] (ar Try.f20)) Q e H:=by
 rintro e H Q ⟨c,h,hne,he,hH,hQ⟩
 have hH2:H=[.cells c.cells,.cells [.U 0,.E,.E,.I 0]]:=hH
 subst hH2
 have noabs:∀(o:Nat) (r:Rep),([.cells c.cells,.cells [.U 0,.E,.E,.I 0]]:aa)[o]?≠some (.abs r):=by
  intro o r ho
  have k1:=(List.getElem?_eq_some_iff.1 ho).1
  simp at k1
  have:o=0∨o=1:=by omega
  rcases this with rfl|rfl<;>cases ho
 refine AW.vN [1,2] noabs ?_
 have key:∀(R:List PV→aa→Prop),(c.ys=[]→R [.ptr 0 0,.ptr 1 0] [.cells [.U c.id,.list (en1 .u32 c.pl) (.tok 2),.list (en1 .u32 c.ys) .exact,.I c.un],.cells [.U 0,.E,.E,.I 0],.tok])→(c.ys≠[]→R [.ptr 0 0,.ptr 1 0] [.cells [.U c.id,.list (en1 .u32 c.pl) (.tok 2),.list (en1 .u32 c.ys) (.tok 3),.I c.un],.cells [.U 0,.E,.E,.I 0],.tok,.tok])→∃(l:List Int),∃(tl:Tail),ag [PV.list (en1 IntKind.u32 (Ck.pl c)) Tail.no] [PV.list (List.map u1 l) tl]∧List.length l≤1000000∧(List.map u1 l=[]→∃(l:List Int),∃(tl:Tail),ag [PV.list (en1 IntKind.u32 (Ck.ys c)) Tail.no] [PV.list (List.map u1 l) tl]∧List.length l≤1000000∧(List.map u1 l=[]→R [PV.ptr 0 0,PV.ptr 1 0] [Ob.cells [PV.int IntKind.u32 (Ck.id c),PV.list [] Tail.exact,PV.list [] Tail.exact,PV.int IntKind.i64 (Ck.un c)],.cells [.U 0,.E,.E,.I 0]])∧(List.map u1 l≠[]→R [PV.ptr 0 0,PV.ptr 1 0] [Ob.cells [PV.int IntKind.u32 (Ck.id c),PV.list [] Tail.exact,PV.list (List.map u1 l) (Tail.tok 2),PV.int IntKind.i64 (Ck.un c)],.cells [.U 0,.E,.E,.I 0],Ob.tok]))∧(List.map u1 l≠[]→∃(l_1:List Int),∃(tl:Tail),ag [PV.list (en1 IntKind.u32 (Ck.ys c)) Tail.no] [PV.list (List.map u1 l_1) tl]∧List.length l_1≤1000000∧(List.map u1 l_1=[]→R [PV.ptr 0 0,PV.ptr 1 0] [Ob.cells [PV.int IntKind.u32 (Ck.id c),PV.list (List.map u1 l) (Tail.tok 2),PV.list [] Tail.exact,PV.int IntKind.i64 (Ck.un c)],.cells [.U 0,.E,.E,.I 0],Ob.tok])∧(List.map u1 l_1≠[]→R [PV.ptr 0 0,PV.ptr 1 0] [Ob.cells [PV.int IntKind.u32 (Ck.id c),PV.list (List.map u1 l) (Tail.tok 2),PV.list (List.map u1 l_1) (Tail.tok 3),PV.int IntKind.i64 (Ck.un c)],.cells [.U 0,.E,.E,.I 0],Ob.tok,Ob.tok])):=by
  intro R hA hB
  refine⟨c.pl,.no,rfl,h.pl,fun h1=>absurd (eu h1) hne,fun h1=>⟨c.ys,.no,rfl,h.ys,fun h2=>?_,fun h2=>hB fun e2=>h2 (by rw[e2]; rfl)⟩⟩
  have e2:=eu h2
  have:=hA e2
  rw[e2] at this
  exact this
 have fin:∀(y:PV) (t2:Tail) (G:aa),y = .list (en1 .u32 c.ys) t2→Sf 2 ([.cells [.U c.id,.list (en1 .u32 c.pl) (.tok 2),y,.I c.un],.cells [.U 0,.E,.E,.I 0],.tok]++G) y y→(∀(k:Nat) (b:Ob),G[k]?=some b→b = .tok)→
   ∃(o p:Nat) (k:IntKind) (ns:List Int) (pre post pre2 post2:List PV),Thaw o p k ns pre post pre2 post2 ([.cells [.U c.id,.list (en1 .u32 c.pl) (.tok 2),y,.I c.un],.cells [.U 0,.E,.E,.I 0],.tok]++G)∧([.cells c.cells,.cells [.U 0,.E,.E,.I 0]]:aa).length≤o∧(∀ q,q<([.cells c.cells,.cells [.U 0,.E,.E,.I 0]]:aa).length→∃ cs,([.cells [.U c.id,.list (en1 .u32 c.pl) (.tok 2),y,.I c.un],.cells [.U 0,.E,.E,.I 0],.tok]++G:aa)[q]?=some (.cells cs))∧
   ∀(off cap:Nat) (A B:List PV),(∀ x∈A,x = .any)→(∀ x∈B,x = .any)→A.length=off→ns.length≤cap→∃ vs H2,SfL o ([.cells [.U c.id,.list (en1 .u32 c.pl) (.tok 2),y,.I c.un],.cells [.U 0,.E,.E,.I 0],.tok]++G) (List.map (aj [1,2] [PV.ptr 0 0,.ptr 1 0]) [1,2]) vs∧iH o p ([.cells [.U c.id,.list (en1 .u32 c.pl) (.tok 2),y,.I c.un],.cells [.U 0,.E,.E,.I 0],.tok]++G) H2 (pre2 ++ .arr o off ns.length cap::post2) (A++(ns.map (PV.int k)++B))∧Q .normal (aj [1,2] vs) H2:=by
  intro y t2 G hy hsf hG
  subst hy
  refine⟨2,0,.u32,c.pl,[.U c.id],[.list (en1 .u32 c.ys) t2,.I c.un],[.U c.id],[.list (en1 .u32 c.ys) t2,.I c.un],⟨hne,rfl,rfl,.cons (.int _ _) .nil,.cons hsf (.cons (.int _ _) .nil)⟩,Nat.le_refl _,fun q hq=>?_,fun off cap A B hA hB hoff hcap=>?_⟩
  ·simp at hq
   have:q=0∨q=1:=by omega
   rcases this with rfl|rfl<;>exact⟨_,rfl⟩
  ·have hrow:aX (A++(c.pl.map (PV.int .u32)++B)) off c.pl:=⟨A,B,hA,hB,hoff,rfl⟩
   refine⟨[.ptr 0 0,.ptr 1 0],[.cells [.U c.id,.arr 2 off c.pl.length cap,.list (en1 .u32 c.ys) t2,.I c.un],.cells [.U 0,.E,.E,.I 0],.cells (A++(c.pl.map (PV.int .u32)++B))]++G,.cons (.ptr _ _) (.cons (.ptr _ _) .nil),⟨by simp,rfl,rfl,fun i b h1 h2 hb=>?_⟩,hQ off cap _ t2 G hrow hcap⟩
   rcases i with _|_|_|i
   ·exact absurd rfl h2
   ·cases hb
    exact .inr (.inr ⟨_,_,rfl,rfl,u9 _ _⟩)
   ·exact absurd rfl h1
   ·have hb:G[i]?=some b:=by simpa using hb
    have:=hG i b hb
    subst this
    exact .inr (.inl ⟨rfl,by simpa using hb⟩)
 have fA:=fun e2:c.ys=[]=>fin (.list (en1 .u32 c.ys) .exact) .exact [] rfl (by rw[e2]; exact .nil _ NT.exact) (fun k b hb=>by simp at hb)
 have fB:=fun _:c.ys≠[]=>fin (.list (en1 .u32 c.ys) (.tok 3)) (.tok 3) [.tok] rfl (.tok .u32 c.ys 3 rfl (by decide)) (fun k b hb=>by
  have k1:=(List.getElem?_eq_some_iff.1 hb).1
  simp at k1
  subst k1
  cases hb; rfl)
 let R0:List PV→aa→Prop:=fun vs H'=>∃(o p:Nat) (k:IntKind) (ns:List Int) (pre post pre2 post2:List PV),Thaw o p k ns pre post pre2 post2 H'∧([.cells c.cells,.cells [.U 0,.E,.E,.I 0]]:aa).length≤o∧(∀ q,q<([.cells c.cells,.cells [.U 0,.E,.E,.I 0]]:aa).length→∃ cs,H'[q]?=some (.cells cs))∧∀(off cap:Nat) (A B:List PV),(∀ x∈A,x = .any)→(∀ x∈B,x = .any)→A.length=off→ns.length≤cap→∃ vs1 H2,SfL o H' (List.map (aj [1,2] vs) [1,2]) vs1∧iH o p H' H2 (pre2 ++ .arr o off ns.length cap::post2) (A++(ns.map (PV.int k)++B))∧Q .normal (aj [1,2] vs1) H2
 refine jq (outs:=[1,2]) (hn:=fun o=>match o.dst with|some 5=>6|some 8=>6|some 4=>1101|some 7=>1201|some _=>0|none=>match o.op with| .store _ (.tmp 9) _=>1101| .store _ (.tmp 10) _=>1201|_=>0) qC 5 7 [0,3,6,8,1,4,2,5,7,9] [0,3,6,8,1,4,2,7,5,9] (by kernel_rfl) (by kernel_rfl) he rfl ?_ ?_
 ·exact o4 c R0 (key R0 fA fB)
 ·exact oM c R0 (key R0 fA fB)
theorem oA (c:Ck):(by refine(?_:_→_→Prop) (Ob.cells [.U 0,.E,.E,.I 0]) [PV.ptr 0 0,.ptr 1 0]; exact fun b d=>∀(K:PV→aa→Prop),(∃(c_1:Ck),Ck.Sm c_1∧c_1.pl≠[]∧ag d d∧aE [.cells [.U c.id,.list (en1 .u32 c.pl) .no,.list (en1 .u32 c.ys) .no,.I c.un],b] [.cells [.U c_1.id,.list (en1 .u32 c_1.pl) .no,.list (en1 .u32 c_1.ys) .no,.I c_1.un],b]∧∀(off cap:Nat),∀(cs:List PV),∀(t2:Tail),by refine(?_:_→Prop) [PV.U c_1.id,.arr 2 off c_1.pl.length cap,.list (en1 .u32 c_1.ys) t2,.I c_1.un]; exact fun a=>∀(G:aa),aX cs off c_1.pl→c_1.pl.length≤cap→K (.agg a) (List.set ([.cells a,b,.cells cs]++G) 1 (.cells a)))→AcK 20 [c.pv] [] K:Prop):=fun K h=>acW (T:=[]) (L:=[([1,0],pP)]) (fun o=>match o.dst with|some 11=>1|_=>0) Try.func20 (aV.nil _ _) (.cons (show sub [1,0] (ar Try.f20)=some (gD [1,0] (ar Try.f20)) from by kernel_rfl) nV (.nil _ _ _ _ _)) h
def ckT (c:Ck) (z:PV):PV:= .agg [.U c.id,z,.list (en1 .u32 c.ys) .no,.I c.un]
theorem o7 (c:Ck) (k k' off len cap:Nat):RA k k' (ckT c (.arr k off len cap)) (ckT c (.arr k' off len cap)):=by
 refine .agg _ _ rfl fun q x y h1 h2=>?_
 have k1:=(List.getElem?_eq_some_iff.1 h1).1
 simp at k1
 have:q=0∨q=1∨q=2∨q=3:=by omega
 rcases this with rfl|rfl|rfl|rfl
 ·cases h1; cases h2; exact .low (.int _ _)
 ·cases h1; cases h2; exact .arr _ _ _
 ·cases h1; cases h2; exact .low (bg NT.no)
 ·cases h1; cases h2; exact .low (.int _ _)
theorem jX (c:Ck) (b:PV) (hb:Low 0 b) (k k' off len cap:Nat):RA k k' (.tup [ckT c (.arr k off len cap),b]) (.tup [ckT c (.arr k' off len cap),b]):=by
 refine .tup _ _ rfl fun q x y h1 h2=>?_
 have k1:=(List.getElem?_eq_some_iff.1 h1).1
 simp at k1
 have:q=0∨q=1:=by omega
 rcases this with rfl|rfl
 ·cases h1; cases h2; exact o7 c k k' off len cap
 ·cases h1; cases h2; exact .low hb
theorem uW {c:Ck} {z:PV} {t:Tail}:Wk (.agg [.U c.id,z,.list (en1 .u32 c.ys) t,.I c.un]) (ckT c z):= .agg (.cons (.refl _) (.cons (.refl _) (.cons (.list _ _) (.cons (.refl _) .nil))))
def oN (args:List PV) (H:aa) (K:PV→aa→Prop):Prop:=∃(c:Ck) (t1 t2:Tail),ag args [.agg [.U c.id,.list (en1 .u32 c.pl) t1,.list (en1 .u32 c.ys) t2,.I c.un]]∧c.Sm∧c.pl≠[]∧
 ∀(off cap:Nat) (cs:List PV),aX cs off c.pl→c.pl.length≤cap→K (.agg [.U c.id,.arr H.length off c.pl.length cap,.list (en1 .u32 c.ys) .no,.I c.un]) (H++[.cells cs])
theorem rq:SpK 20 (.heap oN):=by
 rintro args H K ⟨c,t1,t2,he,h,hne,hk⟩
 have he:args=_:=he
 subst he
 refine sM ap (ckT c) (.cons iK .nil) (ci c.low) (o7 c) (bD (oA c _ ⟨c,h,hne,rfl,rfl,fun off cap cs t2 G hr hcap=>⟨_,uW,2,off,_,cap,cs,rfl,rfl,hr.low,hk off cap cs hr hcap⟩⟩))
def TT3:Tab:=(20,.heap oN)::TR2
theorem uo:TbK TT3:= .cons rq dQ
theorem oy (w:List Ck) (m t:Int):∀(K:PV→aa→Prop),(∃(q:Nat) (l:List RwC) (most:Int) (t_1:Int),by refine(?_:_→Prop) [PV.U (Ck.id (a9 l t_1)),.list (en1 .u32 (Ck.pl (a9 l t_1))) .no,.list (en1 .u32 (Ck.ys (a9 l t_1))) .no,.I (Ck.un (a9 l t_1))]; exact fun b=>ag [.ptr 1 0,.U t] [.ptr q 0,.U t_1]∧bB [.cells [.ptr 1 0],.abs (rkC (ae w) m),.cells [.U 0,.E,.E,.I 0]] q (rkC l most)∧Ok l most∧∃(c:Ck) (t1:Tail) (t2:Tail),ag [.agg b] [.agg [.U c.id,.list (en1 .u32 c.pl) t1,.list (en1 .u32 c.ys) t2,.I c.un]]∧Ck.Sm c∧c.pl≠[]∧∀(off cap:Nat),by refine(?_:_→Prop) [PV.U c.id,.arr 4 off c.pl.length cap,.list (en1 .u32 c.ys) .no,.I c.un]; exact fun a=>∀(cs:List PV),aX cs off c.pl→c.pl.length≤cap→K (.tup [.agg a,.bool (has l t_1)]) [.cells [.ptr 1 0],.abs (rkC (ae w) m),.cells a,.cells b,.cells cs])→AcK 10 [.ptr 0 0,.U t] [.cells [.ptr 1 0],.abs (rkC (ae w) m)] K:=fun K h=>acW (T:=TT3) (L:=[]) (fun _=>0) Try.func10 (uo) (LOk.nil _ _ _ _ _) h
def lS (args:List PV) (H:aa) (K:PV→aa→Prop):Prop:=∃(q r:Nat) (w:List Ck) (m t:Int),ag args [.ptr q 0,.U t]∧cr H q r (rkC (ae w) m)∧RO w m∧aK Ck.id w t=true∧
 ∀(off cap:Nat) (cs:List PV),aX cs off (aN Ck.id w t).pl→(aN Ck.id w t).pl.length≤cap→K (.tup [.agg [.U (aN Ck.id w t).id,.arr H.length off (aN Ck.id w t).pl.length cap,.list (en1 .u32 (aN Ck.id w t).ys) .no,.I (aN Ck.id w t).un],.bool true]) (H++[.cells cs])
theorem mQ:SpK 10 (.heap lS):=by
 rintro args H K ⟨q,r,w,m,t,he,hb,ro,hh,hk⟩
 have he:args=_:=he
 subst he
 have hne:(aN Ck.id w t).pl≠[]:=fun e=>by have:=(ro.cs _ (dl hh).1).n1; rw[e] at this; simp at this
 refine jc ap (fun z=> .tup [ckT (aN Ck.id w t) z,.bool true]) hb bC (jX _ _ (.bool _)) (oy w m t _ ⟨1,ae w,m,t,rfl,rfl,ro.ok,?_⟩)
 rw[dU ro.ok,cw ro.ok,hh]
 refine⟨_,.no,.no,rfl,ro.tD t,hne,fun off cap cs hr hcap=>?_⟩
 refine⟨4,off,_,cap,cs,_,_,rfl,rfl,by decide,rfl,hr.low,?_⟩
 rw[cJ hb.2]
 exact hk off cap cs hr hcap
def TT4:Tab:=(10,.heap lS)::TR2
theorem qU:TbK TT4:= .cons mQ dQ
theorem mc (w:List Ck) (m t:Int):(by refine(?_:_→_→_→Prop) (Ob.cells [.U 0,.E,.E,.I 0]) (Ob.abs (rkC (ae w) m)) [PV.ptr 0 0,.U t]; exact fun c d e=>∀(K:PV→aa→Prop),(∃(q:Nat) (r:Nat) (w_1:List Ck) (m_1:Int) (t_1:Int),by refine(?_:_→Prop) (aN Ck.id w_1 t_1); exact fun b=>ag e [.ptr q 0,.U t_1]∧cr [.cells [.ptr 1 0],d,c] q r (rkC (ae w_1) m_1)∧RO w_1 m_1∧aK Ck.id w_1 t_1=true∧∀(off cap:Nat),by refine(?_:_→Prop) [PV.U (Ck.id b),.arr 3 off (List.length (Ck.pl b)) cap,.list (en1 .u32 (Ck.ys b)) .no,.I (Ck.un b)]; exact fun a=>∀(cs:List PV),aX cs off (Ck.pl b)→List.length (Ck.pl b)≤cap→∃(l:List RwC) (most:Int) (t_2:Int),ag [.U t] [.U t_2]∧bB [.cells [.ptr 1 0],d,c,.cells cs,.cells a] 1 (rkC l most)∧Ok l most∧K (.tup [.agg a,.bool true]) [.cells [.ptr 1 0],.abs (rkC (ei l t_2) most),.cells a,.cells cs,.cells a])→AcK 21 e [.cells [.ptr 1 0],d] K:Prop):=fun K h=>acW (T:=TT4) (L:=[]) (fun o=>match o.dst with|some 22=>1|_=>0) Try.func21 (qU) (LOk.nil _ _ _ _ _) h
def ie (args:List PV) (H:aa) (K:PV→aa→Prop):Prop:=match args with
 | .ptr q 0::rest=>match fI H q with
  | some r=>∃(w:List Ck) (m t:Int),ag rest [.int .u32 t]∧bB H r (rkC (ae w) m)∧RO w m∧aK Ck.id w t=true∧
   ∀(off cap:Nat) (cs:List PV),aX cs off (aN Ck.id w t).pl→(aN Ck.id w t).pl.length≤cap→K (.tup [.agg [.U (aN Ck.id w t).id,.arr H.length off (aN Ck.id w t).pl.length cap,.list (en1 .u32 (aN Ck.id w t).ys) .no,.I (aN Ck.id w t).un],.bool true]) (H.set r (.abs (rkC (ae (ct Ck.id w t)) m))++[.cells cs])
  | none=>False
 | _=>False
theorem nv:SpK 21 (.heap ie):=by
 intro args H K h
 unfold ie at h
 split at h
 ·rename_i q rest
  split at h<;>try (exact h.elim)
  rename_i r hr
  obtain⟨w,m,t,he,ha,ro,hh,hk⟩:=h
  have hb:=dh hr ha
  have he:rest=_:=he
  subst he
  refine jc ap (fun z=> .tup [ckT (aN Ck.id w t) z,.bool true]) hb bC (jX _ _ (.bool _)) (mc w m t _ ⟨0,1,w,m,t,rfl,⟨rfl,rfl⟩,ro,hh,fun off cap cs hrw hcap=>?_⟩)
  refine⟨ae w,m,t,rfl,rfl,ro.ok,?_⟩
  refine⟨3,off,_,cap,cs,_,_,rfl,rfl,by decide,rfl,hrw.low,?_⟩
  rw[cG ro.ok]
  exact hk off cap cs hrw hcap
 ·exact h.elim
def TT5:Tab:=(21,.heap ie)::TT4
theorem vg:TbK TT5:= .cons nv qU
theorem nB (w:List Ck) (m p:Int):(by refine(?_:_→_→Prop) [PV.ptr 0 0,.U p] (Ob.abs (rkC (ae w) m)); exact fun d e=>by refine(?_:_→Prop) [Ob.cells [.ptr 1 0],e,.cells [.U 0,.E,.E,.I 0]]; exact fun c=>∀(K:PV→aa→Prop),(∃(q:Nat) (r:Nat) (w_1:List Ck) (m_1:Int) (p_1:Int),ag d [.ptr q 0,.U p_1]∧cr c q r (rkC (ae w_1) m_1)∧RO w_1 m_1∧∃(w_2:List Ck) (m_2:Int) (t:Int),by refine(?_:_→Prop) (aN Ck.id w_2 t); exact fun b=>ag [.U (ofS w_1 p_1)] [.U t]∧bB c 1 (rkC (ae w_2) m_2)∧RO w_2 m_2∧aK Ck.id w_2 t=true∧∀(off cap:Nat),by refine(?_:_→Prop) [PV.U (Ck.id b),.arr 3 off (List.length (Ck.pl b)) cap,.list (en1 .u32 (Ck.ys b)) .no,.I (Ck.un b)]; exact fun a=>∀(cs:List PV),aX cs off (Ck.pl b)→List.length (Ck.pl b)≤cap→K (.tup [.agg a,.I 0]) [.cells [.ptr 1 0],.abs (rkC (ae (ct Ck.id w_2 t)) m_2),.cells a,.cells cs,.cells a])→AcK 7 d [.cells [.ptr 1 0],e] K:Prop):=fun K h=>acW (T:=TT5) (L:=[]) (fun o=>match o.dst with|some 19=>1|_=>0) Try.func7 (vg) (LOk.nil _ _ _ _ _) h
def kq (args:List PV) (H:aa) (K:PV→aa→Prop):Prop:=match args with
 | .ptr q 0::rest=>match fI H q with
  | some r=>∃(w:List Ck) (m p:Int),ag rest [.int .u32 p]∧bB H r (rkC (ae w) m)∧RO w m∧aK Ck.id w (ofS w p)=true∧
   (let c:=aN Ck.id w (ofS w p); ∀(off cap:Nat) (cs:List PV),aX cs off c.pl→c.pl.length≤cap→K (.tup [.agg [.U c.id,.arr H.length off c.pl.length cap,.list (en1 .u32 c.ys) .no,.I c.un],.I 0]) (H.set r (.abs (rkC (ae (ct Ck.id w (ofS w p))) m))++[.cells cs]))
  | none=>False
 | _=>False
theorem qP:SpK 7 (.heap kq):=by
 intro args H K h
 unfold kq at h
 split at h
 ·rename_i q rest
  split at h<;>try (exact h.elim)
  rename_i r hr
  obtain⟨w,m,p,he,ha,ro,hh,hk⟩:=h
  have hb:=dh hr ha
  have he:rest=_:=he
  subst he
  refine jc ap (fun z=> .tup [ckT (aN Ck.id w (ofS w p)) z,.I 0]) hb bC (jX _ _ (.int _ _)) (nB w m p _ ⟨0,1,w,m,p,rfl,⟨rfl,rfl⟩,ro,w,m,ofS w p,rfl,rfl,ro,hh,fun off cap cs hrw hcap=>?_⟩)
  refine⟨3,off,_,cap,cs,_,_,rfl,rfl,by decide,rfl,hrw.low,hk off cap cs hrw hcap⟩
 ·exact h.elim
theorem mV (cs:List PV) (off n cap:Nat)  (K:PV→aa→Prop) (h:off+n*1≤List.length cs∧List.length (List.take (n*1) (List.drop off cs))=n*1∧n*4≤140737488355328∧0<n∧∀(c:Nat),n≤c→K (.arr 1 0 n c) [.cells cs,.cells (List.take (n*1) (List.drop off cs)++List.flatten (List.replicate (c-n) [.U 0]))]):AcK 17 [.arr 0 off n cap] [.cells cs] K:=
 acW (T:=[]) (L:=[]) (fun o=>match o.dst with|some 7=>2|_=>0) Try.func17 (aV.nil _ _) (LOk.nil _ _ _ _ _) h
theorem mD (l:List Int):uni 1 (l.map u1):=fN cK l
theorem ng {o off:Nat} {es:List (List PV)} {H:aa} {c:Ob} (ho:o=H.length):FzH o off es (H++[c]) (H++[.dead]):=by
 subst ho
 refine⟨by simp,fun i b h=>?_⟩
 by_cases c:i<H.length
 ·rw[List.getElem?_append_left c] at h
  exact .inr (.inl ⟨by omega,by rw[List.getElem?_append_left c]; exact h⟩)
 ·have:=(List.getElem?_eq_some_iff.1 h).1
  simp at this
  rw[show i=H.length by omega,List.getElem?_append_right (Nat.le_refl _)] at h
  simp at h
  exact .inl h.symm
theorem aX.take {cs:List PV} {off:Nat} {ns:List Int} (h:aX cs off ns):(cs.drop off).take ns.length=ns.map (PV.int .u32)∧off+ns.length≤cs.length:=by
 obtain⟨A,B,_,_,rfl,rfl⟩:=h
 refine⟨?_,by simp⟩
 rw[List.drop_left,List.take_left']
 exact List.length_map _
theorem iW (ns:List Int):(ns.map u1).flatten=ns.map (PV.int .u32):=by
 induction ns with
 | nil=>rfl
 | cons n ns ih=>rw[List.map_cons,List.flatten_cons,ih]; rfl
theorem aX.parts {cs:List PV} {off:Nat} {ns:List Int} (h:aX cs off ns):∃ A B:List PV,A.length=off∧cs=A++((ns.map u1).flatten++B):=by
 obtain⟨A,B,_,_,h1,rfl⟩:=h
 exact⟨A,B,h1,by rw[iW]⟩
def tJ (args:List PV) (H:aa) (K:PV→Prop):Prop:=∃(o off cap:Nat) (ns:List Int) (cs:List PV),ag args [.arr o off ns.length cap]∧fe H o cs∧aX cs off ns∧ns≠[]∧ns.length≤1000000∧K (.list (ns.map u1) .no)
theorem uH:SpK 17 (.read tJ):=by
 rintro args H K ⟨o,off,cap,ns,cs,he,hc,hr,hne,hl,hk⟩
 have he:args=_:=he
 subst he
 obtain⟨e1,e2⟩:=hr.take
 refine⟨_,iT (args0:=[.arr 0 off ns.length cap]) ap hc hr.low (.cons (Ren.arr (ρ:=fun _=>o) 0 off _ cap (by decide)) .nil) (aA (af.same (r:= .list (ns.map u1) .no) (cy ns).up (ej (mV cs off ns.length cap _ ?_))) fun x X' e=>?_),hk⟩
 ·rw[Nat.mul_one,e1]
  refine⟨e2,List.length_map _,by omega,List.length_pos_iff.2 hne,fun c hcap=>?_⟩
  refine⟨1,0,1,[],(List.replicate (c-ns.length) [PV.U 0]).flatten,ns.map u1,.list (ns.map u1) .no,[.cells cs,.dead],by rw[iW]; rfl,rfl,mD ns,ng (H:=[.cells cs]) rfl,?_,rfl,[.dead],rfl⟩
  have:=Fz.arr (o:=1) (off:=0) (es:=ns.map u1) c (by rw[List.length_map]; exact hcap)
  rw[List.length_map] at this
  exact this
 ·obtain⟨rfl,rfl⟩:=e
  exact .inl ⟨cs,_,rfl,hr.low,.low (cy ns),rfl,cJ hc⟩
def qO (args:List PV) (H:aa) (K:PV→Prop):Prop:=∃(o off n cap:Nat) (ns:List Int) (cs:List PV) (t:Int),ag args [.arr o off n cap,.U t]∧fe H o cs∧aX cs off ns∧n≤ns.length∧ns.length≤cap∧ns.length≤1000000∧K (.bool (ay (ns.take n) t))
theorem sn:SpK 18 (.read qO):=by
 rintro args H K ⟨o,off,n,cap,ns,cs,t,he,hc,hr,hn,hcap,hl,hk⟩
 have he:args=_:=he
 subst he
 obtain⟨A,B,h1,h2⟩:=hr.parts
 have e:n=((ns.take n).map u1).length:=by rw[List.length_map,List.length_take]; omega
 have hld:=Ld.arr (H:=H) o off cap 1 A (((ns.drop n).map u1).flatten++B) ((ns.take n).map u1) (by
  have:(ns.map u1).flatten=((ns.take n).map u1).flatten++((ns.drop n).map u1).flatten:=by rw[← List.flatten_append,← List.map_append,List.take_append_drop]
  have e3:A++(((ns.take n).map u1).flatten++(((ns.drop n).map u1).flatten++B))=cs:=by rw[h2,this]; simp only[List.append_assoc]
  rw[e3]; exact hc) h1 (mD _) (by omega) (fx fun a _=>kM a)
 rw[← e] at hld
 obtain⟨x,hx,hk2⟩:=mF [.list ((ns.take n).map u1) .no,.U t] (fun x=>x = .bool (ay (ns.take n) t)) ⟨ns.take n,.no,t,rfl,by rw[List.length_take]; omega,rfl⟩
 subst hk2
 exact⟨_,k9 ap (.bool _) (.cons hld (.cons (.low (.int _ _)) .nil)) (hx (gF H)),hk⟩
def TDA:Tab:=(18,.read qO)::TR2
theorem pn:TbK TDA:= .cons sn dQ
theorem book_row {P:Program} {gl:ai} (hgl:az gl) {f:FuncId} {rest0 rest:List PV} {H:aa} {q r o:Nat} {RM RM':Rep} {x0:PV} {cs:List PV} {K:PV→aa→Prop} (hB:cr H q r RM) (hO:fe H o cs) (hcs:∀ x∈cs,Low 0 x) (hqo:q≠o) (hrest:aJ (gk q r o) 3 rest0 rest) (hx:Low 0 x0)
  (h:af P gl f (.ptr 0 0::rest0) [.cells [.ptr 1 0],.abs RM,.cells cs] (fun x H'=>x=x0∧∃ G,H' = .cells [.ptr 1 0] :: .abs RM' :: .cells cs::G)) (hk:K x0 (H.set r (.abs RM'))):af P gl f (.ptr q 0::rest) H K:=by
 have hO:H[o]?=some (.cells cs):=hO
 obtain⟨hB1,hB2⟩:=hB
 have lq:=(List.getElem?_eq_some_iff.1 hB1).1
 have lr:=(List.getElem?_eq_some_iff.1 hB2).1
 have lo:=(List.getElem?_eq_some_iff.1 hO).1
 have hqr:q≠r:=fun e=>by rw[e,hB2] at hB1; cases hB1
 have hro:r≠o:=fun e=>by rw[e,hO] at hB2; cases hB2
 have three:∀ {A B C:Ob} {i:Nat} {b:Ob},[A,B,C][i]?=some b→(i=0∧b=A)∨(i=1∧b=B)∨(i=2∧b=C):=fun {A B C i b} e=>by
  have k1:=(List.getElem?_eq_some_iff.1 e).1
  simp at k1
  have:i=0∨i=1∨i=2:=by omega
  rcases this with rfl|rfl|rfl<;>cases e
  ·exact .inl ⟨rfl,rfl⟩
  ·exact .inr (.inl ⟨rfl,rfl⟩)
  ·exact .inr (.inr ⟨rfl,rfl⟩)
 have r0:gk q r o 0=q:=rfl
 have r1:gk q r o 1=r:=rfl
 have r2:gk q r o 2=o:=rfl
 have h1:af P gl f (.ptr 0 0::rest0) [.cells [.ptr 1 0],.abs RM,.cells cs] (fun x H'=>x=x0∧H'=[.cells [.ptr 1 0],.abs RM',.cells cs]):=by
  refine h.forget fun x H' hh=>?_
  obtain⟨rfl,G,rfl⟩:=hh
  refine⟨[.cells [.ptr 1 0],.abs RM',.cells cs],G,rfl,rfl,hx.up,fun i cs' ho'=>?_,rfl,rfl⟩
  rcases three ho' with⟨rfl,e⟩|⟨_,e⟩|⟨rfl,e⟩
  ·cases e; exact .inl rfl
  ·cases e
  ·cases e; exact .inl rfl
 have hsub:Sub (gk q r o) [.cells [.ptr 1 0],.abs RM,.cells cs] H:=by
  refine⟨fun i ho=>?_,fun x y hx hy e=>?_,fun i b ho=>?_⟩
  ·unfold gk; split; omega; split<;>omega
  ·simp at hx hy
   unfold gk at e
   split at e<;>split at e<;>(try split at e)<;>(try split at e)<;>omega
  ·rcases three ho with⟨rfl,rfl⟩|⟨rfl,rfl⟩|⟨rfl,rfl⟩
   ·exact⟨_,hB1,.cells (.cons (Ren.ptr (ρ:=gk q r o) (n:=3) 1 0 (by decide)) .nil)⟩
   ·exact⟨_,hB2,.abs _⟩
   ·exact⟨_,hO,.cells (aJ.low hcs)⟩
 refine aD hgl hsub (.cons (.ptr (ρ:=gk q r o) 0 0 (by simp)) hrest) (aA h1 fun x H' e=>?_)
 obtain⟨rfl,rfl⟩:=e
 refine⟨x,_,⟨Nat.le_refl _,by simp,fun i b ho'=>?_,fun i hl hn=>?_⟩,.low hx,hk⟩
 ·rcases three ho' with⟨rfl,rfl⟩|⟨rfl,rfl⟩|⟨rfl,rfl⟩
  ·refine⟨.cells [.ptr r 0],?_,.cells (.cons ?_ .nil),fun h=>h⟩
   ·simp only[aF,List.length_cons,List.length_nil]
    rw[if_pos (by omega),r0,List.getElem?_set_ne (Ne.symm hqr)]
    exact hB1
   ·have:=Ren.ptr (ρ:=aF (gk q r o) 3 H.length) (n:=3) 1 0 (by decide)
    simpa[aF,gk] using this
  ·refine⟨.abs RM',?_,.abs _,fun h=>h⟩
   simp only[aF,List.length_cons,List.length_nil]
   rw[if_pos (by omega),r1,List.getElem?_set_self lr]
  ·refine⟨.cells cs,?_,.cells (aJ.low hcs),fun h=>h⟩
   simp only[aF,List.length_cons,List.length_nil]
   rw[if_pos (by omega),r2,List.getElem?_set_ne hro]
   exact hO
 ·have n1:=hn 1 (by simp)
  rw[r1] at n1
  rw[List.getElem?_set_ne n1]
theorem vi (w:List Ck) (m:Int) (cs:List PV) (off n cap i:Nat):(by refine(?_:_→_→_→Prop) [Ob.cells [.ptr 1 0],.abs (rkC (ae w) m),.cells cs] (List.drop (off+Int.toNat (i:Int)*1) cs) [PV.ptr 0 0,.arr 2 off n cap,.bool false,.arr 2 off n cap,.I n,.I i]; exact fun b c d=>by refine(?_:_→Prop) (PV.U (cI c 0)); exact fun f=>∀(R:Ex→List PV→aa→Prop),by refine(?_:_→Prop) (R .ret [.ptr 0 0,.arr 2 off n cap,.bool true,.arr 2 off n cap,.I n,.I i] b); exact fun a=>(br (decide ((i:Int)<(n:Int))) ((0≤(i:Int)∧(i:Int)<(n:Int))∧br (true && cN [.int .u32] 0 c) ((iI 0≤0∧0≤(i:Int)∧(i:Int)≤(cap:Int)∧(cap:Int)≤(cap:Int))∧∃(o:Nat) (off_1:Nat) (n_1:Nat) (cap_1:Nat) (ns:List Int) (cs_1:List PV) (t:Int),ag [.arr 2 (if Int.toNat (cap:Int)=0 then off else off+0) (Int.toNat (i:Int)-0) (Int.toNat (cap:Int)-0),f] [.arr o off_1 n_1 cap_1,.U t]∧fe b o cs_1∧aX cs_1 off_1 ns∧n_1≤ns.length∧ns.length≤cap_1∧ns.length≤1000000∧br (ay (List.take n_1 ns) t == false) (∃(q:Nat) (r:Nat) (w_1:List Ck) (m_1:Int) (p:Int),ag [.ptr 0 0,f] [.ptr q 0,.U p]∧cr b q r (rkC (ae w_1) m_1)∧RO w_1 m_1∧br (ofS w_1 p != 0) a (R .normal [.ptr 0 0,.arr 2 off n cap,.bool false,.arr 2 off n cap,.I n,.I (wI ((i:Int)+1))] b)) a) False) (R (.exit 0) d b))→Holds (wpK TDA [] (fun _=>0) (aL [1,0,1,0] (ar Try.f15)) [] (aj [0,1,4,7,8,9] d) b (fun ex e H=>R ex (List.map e [0,1,4,7,8,9]) H)):Prop):=fun R h=>hoE h
theorem jM (A B:List PV) (ns:List Int) (i:Nat) (h:i<ns.length):A++(ns.map (PV.int .u32)++B)=(A++(ns.take i).map (PV.int .u32))++(PV.U ns[i]::((ns.drop (i+1)).map (PV.int .u32)++B)):=by
 have e:ns.map (PV.int .u32)=(ns.take i).map (PV.int .u32)++(PV.U ns[i]::(ns.drop (i+1)).map (PV.int .u32)):=by
  conv=>lhs; rw[← List.take_append_drop i ns,List.drop_eq_getElem_cons h,List.map_append,List.map_cons]
 rw[e,List.append_assoc,List.append_assoc,List.cons_append]
theorem nQ (P S:List PV) (v x:PV):over (P++(x::S)) P.length [v]=P++(v::S):=by
 unfold over
 rw[List.take_left' rfl,List.drop_append]
 simp
theorem aX.put {cs:List PV} {off:Nat} {ns:List Int} (h:aX cs off ns) {i:Nat} (hi:i<ns.length):cN [CK.int .u32] 0 (cs.drop (off+i*1))=true∧off+i*1+1≤cs.length∧∀ v:Int,aX (over cs (off+i*1) [.U v]) off (ns.set i v):=by
 obtain⟨A,B,h1,h2,rfl,rfl⟩:=h
 have hp:(A++(ns.take i).map (PV.int .u32)).length=A.length+i*1:=by rw[List.length_append,List.length_map,List.length_take,Nat.min_eq_left (by omega)]; omega
 rw[jM A B ns i hi,← hp]
 refine⟨?_,by rw[List.length_append (bs:=_::_),List.length_cons]; omega,fun v=>⟨A,B,h1,h2,rfl,?_⟩⟩
 ·rw[List.drop_append_of_le_length (Nat.le_refl _),List.drop_length]; rfl
 ·rw[nQ,List.set_eq_take_append_cons_drop,if_pos hi]
  simp
theorem aX.at {cs:List PV} {off:Nat} {ns:List Int} (h:aX cs off ns) {i:Nat} (hi:i<ns.length):cN [CK.int .u32] 0 (cs.drop (off+i*1))=true∧cI (cs.drop (off+i*1)) 0=ns.getD i 0:=by
 obtain⟨A,B,h1,h2,rfl,rfl⟩:=h
 have hp:(A++(ns.take i).map (PV.int .u32)).length=A.length+i*1:=by rw[List.length_append,List.length_map,List.length_take,Nat.min_eq_left (by omega)]; omega
 rw[jM A B ns i hi,← hp,List.drop_append_of_le_length (Nat.le_refl _),List.drop_length]
 refine⟨rfl,?_⟩
 have:ns.getD i 0=ns[i]:=by simp[hi]
 rw[this]; rfl
def tw:LSp:=fun e H Q=>∃(w:List Ck) (m:Int) (cs:List PV) (off cap:Nat) (pl:List Int),RO w m∧aX cs off pl∧pl.length≤cap∧pl.length≤1000000∧ag (List.map e [0,1,4,7,8,9]) [.ptr 0 0,.arr 2 off pl.length cap,.bool false,.arr 2 off pl.length cap,.I pl.length,.I 0]∧aE H [.cells [.ptr 1 0],.abs (rkC (ae w) m),.cells cs]∧
 (dO w pl=true→∀ i:Int,Q .ret (aj [0,1,4,7,8,9] [.ptr 0 0,.arr 2 off pl.length cap,.bool true,.arr 2 off pl.length cap,.I pl.length,.I i]) [.cells [.ptr 1 0],.abs (rkC (ae w) m),.cells cs])∧
 (dO w pl=false→Q (.exit 0) (aj [0,1,4,7,8,9] [.ptr 0 0,.arr 2 off pl.length cap,.bool false,.arr 2 off pl.length cap,.I pl.length,.I pl.length]) [.cells [.ptr 1 0],.abs (rkC (ae w) m),.cells cs])
theorem pM:∀ e H Q,tw e H Q→AwK Try.f15.ntmps (.loop (aL [1,0,1,0] (ar Try.f15))) Q e H:=by
 rintro e H Q ⟨w,m,cs,off,cap,pl,ro,hr,hcap,hl,he,hH,hQ1,hQ2⟩
 refine aZ (hn:=fun _=>0) ap pn (.nil _ _ _ _ _) (σ:=Nat) [0,1,4,7,8,9] (fun i=>i≤pl.length∧∀ k,k<i→dP w pl k=false) (fun i=>[.ptr 0 0,.arr 2 off pl.length cap,.bool false,.arr 2 off pl.length cap,.I pl.length,.I i]) (fun _=>[.cells [.ptr 1 0],.abs (rkC (ae w) m),.cells cs]) (fun i=>pl.length-i) 0 ⟨Nat.zero_le _,fun k hk=>absurd hk (Nat.not_lt_zero _)⟩ he hH ?_
 rintro i ⟨hi,hk⟩
 refine vi w m cs off pl.length cap i _ ?_
 simp only[aI,dt,bf,aC]
 by_cases h:i<pl.length
 ·rw[if_pos (by omega)]
  obtain⟨h1,h2⟩:=hr.at h
  refine⟨⟨by omega,by omega⟩,?_⟩
  rw[if_pos (by rw[h1]; rfl)]
  simp only[h2]
  have e0:(if cap=0 then off else off+0)=off:=by split<;>rfl
  refine⟨⟨by decide,by omega,by omega,by omega⟩,2,off,i,cap,pl,cs,pl.getD i 0,(by show _=_; rw[e0]; rfl),rfl,hr,by omega,hcap,hl,?_⟩
  by_cases c1:ay (pl.take i) (pl.getD i 0)=true
  ·rw[if_neg (by rw[c1]; decide)]
   exact hQ1 (di h (by unfold dP; rw[c1]; rfl)) i
  ·have c1':ay (pl.take i) (pl.getD i 0)=false:=eq_false_of_ne_true c1
   rw[if_pos (by rw[c1'])]
   refine⟨0,1,w,m,_,rfl,⟨rfl,rfl⟩,ro,?_⟩
   by_cases c2:(ofS w (pl.getD i 0) != 0)=true
   ·rw[if_pos c2]
    exact hQ1 (di h (by unfold dP; rw[c1',c2]; rfl)) i
   ·rw[if_neg c2]
    refine⟨i+1,(show pl.length-(i+1)<pl.length-i by omega),⟨h,fun k hk'=>?_⟩,by rw[aW h (by omega)],[],rfl,Nat.le_refl _,.inl rfl⟩
    rcases Nat.eq_or_lt_of_le (Nat.le_of_lt_succ hk') with rfl|q
    ·have c2':(ofS w (pl.getD k 0) != 0)=false:=eq_false_of_ne_true c2
     unfold dP; rw[c1',c2']; rfl
    ·exact hk k q
 ·rw[if_neg (by omega)]
  have hi':i≤pl.length:=hi
  have:i=pl.length:=by omega
  subst this
  exact hQ2 (fa hk)
theorem rX (w:List Ck) (m:Int) (cs:List PV) (off n cap:Nat):(by refine(?_:_→Prop) (Ob.cells [.ptr 1 0]); exact fun d=>by refine(?_:_→Prop) [d,.abs (rkC (ae w) m),.cells cs]; exact fun c=>∀(K:PV→aa→Prop),(∃(w_1:List Ck) (m_1:Int) (cs_1:List PV) (off_1:Nat) (cap_1:Nat) (pl:List Int),by refine(?_:_→_→Prop) [d,.abs (rkC (ae w_1) m_1),.cells cs_1] (PV.arr 2 off_1 pl.length cap_1); exact fun a b=>RO w_1 m_1∧aX cs_1 off_1 pl∧pl.length≤cap_1∧pl.length≤1000000∧ag [.ptr 0 0,.arr 2 off n cap,.bool false,.arr 2 off n cap,.I n,.I 0] [.ptr 0 0,b,.bool false,b,.I pl.length,.I 0]∧aE c a∧(dO w_1 pl=true→∀(_:Int),K (.bool true) a)∧(dO w_1 pl=false→K (.bool false) a))→AcK 15 [.ptr 0 0,.arr 2 off n cap] c K:Prop):=fun K h=>acW (T:=TDA) (L:=[([1,0,1,0],tw)]) (fun _=>0) Try.func15 (pn) (.cons suE pM (.nil _ _ _ _ _)) h
def pU (args:List PV) (H:aa) (K:PV→Prop):Prop:=∃(q r o off cap:Nat) (w:List Ck) (m:Int) (pl:List Int) (cs:List PV),ag args [.ptr q 0,.arr o off pl.length cap]∧cr H q r (rkC (ae w) m)∧fe H o cs∧aX cs off pl∧q≠o∧pl.length≤cap∧RO w m∧pl.length≤1000000∧K (.bool (dO w pl))
theorem rL:SpK 15 (.read pU):=by
 rintro args H K ⟨q,r,o,off,cap,w,m,pl,cs,he,hb,hc,hr,hqo,hcap,ro,hl,hk⟩
 have he:args=_:=he
 subst he
 refine⟨_,book_row (rest0:=[.arr 2 off pl.length cap]) ap hb hc hr.low hqo (.cons (Ren.arr (ρ:=gk q r o) 2 off pl.length cap (by decide)) .nil) (.bool _) (rX w m cs off pl.length cap _ ⟨w,m,cs,off,cap,pl,ro,hr,hcap,hl,rfl,rfl,fun h _=>⟨by rw[h],[],rfl⟩,fun h=>⟨by rw[h],[],rfl⟩⟩) ⟨rfl,cJ hb.2⟩,hk⟩
def TOA:Tab:=(15,.read pU)::(17,.read tJ)::(13,.pure fT)::TR2
theorem oO:TbK TOA:= .cons rL (.cons uH (.cons iR dQ))
theorem uV (l:List (Int)) (w:List Ck) (m id un:Int) (cs:List PV) (off n cap:Nat) (i:Nat):(by refine(?_:_→_→_→_→Prop) [Ob.cells [.ptr 1 0],.abs (rkC (ae w) m),.cells cs] (List.getD (l.map u1) (Int.toNat (i:Int)) []) (PV.list (l.map u1) .no) (PV.I l.length); exact fun a c d f=>by refine(?_:_→Prop) [PV.ptr 0 0,.U id,.I un,.arr 2 off n cap,.I 0,d,f,.I i]; exact fun b=>∀(R:Ex→List PV→aa→Prop),(br (decide ((i:Int)<(l.length:Int))) (InL (l.map u1) 1 (i:Int)∧br (true && cN [.int .u32] 0 c) (br (!av (cI c 0)) (R .ret [.ptr 0 0,.U id,.I un,.arr 2 off n cap,.I 14,d,f,.I i] a) (R .normal [.ptr 0 0,.U id,.I un,.arr 2 off n cap,.I 0,d,f,.I (wI ((i:Int)+1))] a)) False) (R (.exit 0) b a))→Holds (wpK TOA [] (fun _=>0) (aL [1,1,0,1,0] (ar Try.f5)) [] (aj [0,1,2,3,8,18,19,20] b) a (fun ex e H=>R ex (List.map e [0,1,2,3,8,18,19,20]) H)):Prop):=fun R h=>hoE h
def tx:LSp:=fun e H Q=>∃(l:List (Int)) (w:List Ck) (m id un:Int) (cs:List PV) (off n cap:Nat),l.length≤1000000∧(True)∧ag (List.map e [0,1,2,3,8,18,19,20]) [.ptr 0 0,.U id,.I un,.arr 2 off n cap,.I 0,.list (l.map u1) .no,.I l.length,.I 0]∧aE H [.cells [.ptr 1 0],.abs (rkC (ae w) m),.cells cs]∧
 (l.findIdx (fun x=> !av x)<l.length→Q .ret (aj [0,1,2,3,8,18,19,20] [.ptr 0 0,.U id,.I un,.arr 2 off n cap,.I 14,.list (l.map u1) .no,.I l.length,.I (l.findIdx (fun x=> !av x))]) [.cells [.ptr 1 0],.abs (rkC (ae w) m),.cells cs])∧(l.findIdx (fun x=> !av x)=l.length→Q (.exit 0) (aj [0,1,2,3,8,18,19,20] [.ptr 0 0,.U id,.I un,.arr 2 off n cap,.I 0,.list (l.map u1) .no,.I l.length,.I l.length]) [.cells [.ptr 1 0],.abs (rkC (ae w) m),.cells cs])
theorem qM:∀ e H Q,tx e H Q→AwK Try.f5.ntmps (.loop (aL [1,1,0,1,0] (ar Try.f5))) Q e H:=by
 rintro e H Q ⟨l,w,m,id,un,cs,off,n,cap,hl,_,he,hH,hQ1,hQ2⟩
 have hfl:l.findIdx (fun x=> !av x)≤l.length:=List.findIdx_le_length
 refine aZ (hn:=fun _=>0) ap (oO) (.nil _ _ _ _ _) (σ:=Nat) [0,1,2,3,8,18,19,20] (fun i=>i≤l.findIdx (fun x=> !av x)) (fun i=>[.ptr 0 0,.U id,.I un,.arr 2 off n cap,.I 0,.list (l.map u1) .no,.I l.length,.I i]) (fun _=>[.cells [.ptr 1 0],.abs (rkC (ae w) m),.cells cs]) (fun i=>l.length-i) 0 (Nat.zero_le _) he hH ?_
 intro i hi
 have hi':i≤l.findIdx (fun x=> !av x):=hi
 refine uV l w m id un cs off n cap i _ ?_
 simp only[aI,dt,aC,je]
 by_cases h:i<l.length
 ·rw[if_pos (by omega)]
  simp only[getD_map 0 h]
  repeat (first|refine⟨h,?_⟩|rw[if_pos (by rfl)])
  by_cases c:(fun x=> !av x) (l.getD i 0)=true
  ·have hge:l.findIdx (fun x=> !av x)=i:=dj 0 hi' h c
   rw[hge] at hQ1
   rw[if_pos (by exact c)]
   repeat (first|refine⟨h,?_⟩|rw[if_pos (by rfl)])
   exact hQ1 h
  ·have hlt:i<l.findIdx (fun x=> !av x):=dy 0 hi' h (by simpa using c)
   rw[if_neg (by exact c)]
   exact⟨i+1,(show l.length-(i+1)<l.length-i by omega),hlt,by rw[aW h (by omega)],[],rfl,Nat.le_refl _,.inl rfl⟩
 ·rw[if_neg (by omega)]
  have:i=l.length:=by omega
  subst this
  exact hQ2 (by omega)
theorem nZ (w:List Ck) (m id un:Int) (cs:List PV) (off n cap:Nat):(by refine(?_:_→_→_→_→Prop) (List.take (n*1) (List.drop off cs)) (Ob.cells [.ptr 1 0]) (fun(x:Int)=> !av x) [[PV.U id]]; exact fun j k p s=>by refine(?_:_→_→Prop) (s++List.map (fun(x:PV)=>[x]) j) [k,.abs (rkC (ae w) m),.cells cs]; exact fun h i=>∀(K:PV→aa→Prop),(off+n*1≤cs.length∧uni 1 s∧List.length j=n∧(1+n)*4≤140737488355328∧∃(l:List Int) (w_1:List Ck) (m_1:Int) (id_1:Int) (un_1:Int) (cs_1:List PV) (off_1:Nat) (n_1:Nat) (cap_1:Nat),by refine(?_:_→_→Prop) (PV.arr 2 off_1 n_1 cap_1) (Ob.abs (rkC (ae w_1) m_1)); exact fun f g=>by refine(?_:_→Prop) [k,g,.cells cs_1]; exact fun e=>l.length≤1000000∧True∧ag [.ptr 0 0,.U id,.I un,.arr 2 off n cap,.I 0,.list h .no,.I (↑(List.length h):Int),.I 0] [.ptr 0 0,.U id_1,.I un_1,f,.I 0,.list (l.map u1) .no,.I l.length,.I 0]∧aE i e∧(List.findIdx p l<l.length→K (.I 14) e)∧(List.findIdx p l=l.length→∃(q:Nat) (l:List RwC) (most:Int) (t:Int),by refine(?_:_→Prop) (Ob.cells [.U (Ck.id (a9 l t)),.list (en1 .u32 (Ck.pl (a9 l t))) .no,.list (en1 .u32 (Ck.ys (a9 l t))) .no,.I (Ck.un (a9 l t))]); exact fun b=>by refine(?_:_→Prop) [k,g,.cells cs_1,b]; exact fun a=>by refine(?_:_→_→Prop) (K (.I 21) a) (K (.I 11) a); exact fun c d=>ag [.ptr 1 0,.U id_1] [.ptr q 0,.U t]∧bB e q (rkC l most)∧Ok l most∧br (decide ((n_1:Int)<1) == false) (br (decide ((n_1:Int)>8)) c (br (has l t == false) (∃(q:Nat) (r:Nat) (o:Nat) (off:Nat) (cap:Nat) (w:List Ck) (m:Int) (pl:List Int) (cs:List PV),ag [.ptr 0 0,f] [.ptr q 0,.arr o off pl.length cap]∧cr a q r (rkC (ae w) m)∧fe a o cs∧aX cs off pl∧q≠o∧pl.length≤cap∧RO w m∧pl.length≤1000000∧br (dO w pl) d (∃(o:Nat) (off:Nat) (cap:Nat) (ns:List Int) (cs:List PV),ag [f] [.arr o off ns.length cap]∧fe a o cs∧aX cs off ns∧ns≠[]∧ns.length≤1000000∧∃(l_1:List RwC) (most:Int) (t_1:Int) (v:Ck) (t1:Tail) (t2:Tail),ag [.U id_1,.agg [.U id_1,.list (ns.map u1) .no,.E,.I un_1]] [.U t_1,.agg [.U v.id,.list (en1 .u32 v.pl) t1,.list (en1 .u32 v.ys) t2,.I v.un]]∧bB a 1 (rkC l_1 most)∧Ok l_1 most∧K (.I (Prod.snd (cM l_1 most t_1 v))) [.cells [.ptr 1 0],.abs (rkC (Prod.fst (cM l_1 most t_1 v)) most),.cells cs_1,b])) d)) c))→AcK 5 [.ptr 0 0,.U id,.I un,.arr 2 off n cap] i K:Prop):=fun K h=>acW (T:=TOA) (L:=[([1,1,0,1,0],tx)]) (fun o=>match o.dst with|some 18=>10|some 62=>5|some 65=>7|_=>0) Try.func5 (oO) (.cons suE qM (.nil _ _ _ _ _)) h
theorem oV {α β γ:Type} (f:α→β) (g:β→γ) (l:List α):(l.map f).map g=l.map (fun a=>g (f a)):=List.map_map
def jW (args:List PV) (H:aa) (K:PV→aa→Prop):Prop:=match args with
 | .ptr q 0::rest=>match fI H q with
  | some r=>∃(w:List Ck) (m id un:Int) (o off cap:Nat) (pl:List Int) (cs:List PV),ag rest [.int .u32 id,.int .i64 un,.arr o off pl.length cap]∧bB H r (rkC (ae w) m)∧RO w m∧fe H o cs∧aX cs off pl∧q≠o∧pl≠[]∧pl.length≤cap∧pl.length≤999999∧K (.int .i64 (bW w m id un pl).2) (H.set r (.abs (rkC (ae (bW w m id un pl).1) m)))
  | none=>False
 | _=>False
theorem qu:SpK 5 (.heap jW):=by
 intro args H K h
 unfold jW at h
 split at h
 ·rename_i q rest
  split at h<;>try (exact h.elim)
  rename_i r hr
  obtain⟨w,m,id,un,o,off,cap,pl,cs,he,ha,ro,hc,hrw,hqo,hne,hcap,hl,hk⟩:=h
  have hb:=dh hr ha
  have he:rest=_:=he
  subst he
  obtain⟨e1,e2⟩:=hrw.take
  have e3:(pl.map (PV.int .u32)).map (fun x=>[x])=pl.map u1:=oV _ _ _
  have el:[[PV.U id]]++(pl.map (PV.int .u32)).map (fun x=>[x])=(id::pl).map u1:=by rw[e3]; rfl
  refine book_row (RM':=rkC (ae (bW w m id un pl).1) m) (rest0:=[.U id,.I un,.arr 2 off pl.length cap]) ap hb hc hrw.low hqo (.cons (.low (.int _ _)) (.cons (.low (.int _ _)) (.cons (Ren.arr (ρ:=gk q r o) 2 off pl.length cap (by decide)) .nil))) (.int _ _) (nZ w m id un cs off pl.length cap _ ?_) hk
  rw[Nat.mul_one,e1,el]
  refine⟨e2,(by intro e he; rcases List.mem_singleton.1 he with rfl; rfl),List.length_map _,by omega,id::pl,w,m,id,un,cs,off,pl.length,cap,(by simp; omega),trivial,(by show _=_; rw[List.length_map]),rfl,fun hf=>?_,fun hf=>?_⟩
  ·have c:¬ (id::pl).all av=true:=fun c=>by have:=(fQ (id::pl)).1 c; omega
   unfold bW
   rw[if_neg c]
   exact⟨rfl,_,rfl⟩
  ·have c:(id::pl).all av=true:=Classical.byContradiction fun c=>by have:=(fQ (id::pl)).2 c; omega
   have hid:av id=true:=List.all_eq_true.1 c id (by simp)
   unfold bW
   rw[if_pos c]
   refine⟨1,ae w,m,id,rfl,rfl,ro.ok,?_⟩
   simp only[aI,dt,bf,List.length_map,cw ro.ok]
   by_cases c1:pl.length<1∨8<pl.length
   ·rw[if_pos c1]
    by_cases c2:pl.length<1
    ·rw[if_neg (by simp; omega)]
     exact⟨rfl,_,rfl⟩
    ·rw[if_pos (by simp; omega),if_pos (by omega)]
     exact⟨rfl,_,rfl⟩
   ·rw[if_neg c1,if_pos (by simp; omega),if_neg (by omega)]
    by_cases c3:aK Ck.id w id=true
    ·rw[if_neg (by rw[c3]; decide),if_pos (.inl c3)]
     exact⟨rfl,_,rfl⟩
    ·have c3':aK Ck.id w id=false:=eq_false_of_ne_true c3
     rw[if_pos c3']
     refine⟨0,1,2,off,cap,w,m,pl,cs,rfl,⟨rfl,rfl⟩,rfl,hrw,by decide,hcap,ro,by omega,?_⟩
     by_cases c4:dO w pl=true
     ·rw[if_pos c4,if_pos (.inr c4)]
      exact⟨rfl,_,rfl⟩
     ·rw[if_neg c4,if_neg (fun h=>h.elim c3 c4)]
      refine⟨2,off,cap,pl,cs,rfl,rfl,hrw,hne,by omega,ae w,m,id,⟨id,pl,[],un⟩,.no,.exact,rfl,rfl,ro.ok,?_⟩
      have e:=fj ro.rise ro.ok ⟨id,pl,[],un⟩
      rw[show cM (ae w) m id ⟨id,pl,[],un⟩=_ from e,if_pos hid]
      by_cases c5:(w.length:Int)≥m
      ·rw[if_pos ⟨c3',c5⟩,if_pos c5]
       exact⟨rfl,_,rfl⟩
      ·rw[if_neg (fun h=>c5 h.2),if_neg c5]
       exact⟨rfl,_,rfl⟩
 ·exact h.elim
theorem rS (c:Ck) (ob:Ob) (p:Int):(by refine(?_:_→Prop) (PV.list (en1 .u32 c.ys) .no); exact fun b=>by refine(?_:_→Prop) [Ob.cells [.U c.id,.any,b,.I c.un],ob]; exact fun a=>∀(K:PV→aa→Prop),(∃(l:List Int) (tl:Tail) (t:Int),ag [b,.U p] [.list (l.map u1) tl,.U t]∧l.length≤1000000∧K (.bool (ay l t)) a)→AcK 24 [.U p,.ptr 0 0] a K:Prop):=fun K h=>acW (T:=TC0) (L:=[]) (fun _=>0) Try.func24 (oE) (LOk.nil _ _ _ _ _) h
def tR (args:List PV) (H:aa) (K:PV→Prop):Prop:=∃(c:Ck) (ob:Ob) (p:Int),ag args [.U p,.ptr 0 0]∧aE H [.cells [.U c.id,.any,.list (en1 .u32 c.ys) .no,.I c.un],ob]∧c.ys.length≤1000000∧K (.bool (ay c.ys p))
theorem uC:SpK 24 (.read tR):=by
 rintro args H K ⟨c,ob,p,he,hH,hl,hk⟩
 have he:args=_:=he
 have hH:H=_:=hH
 subst he
 subst hH
 exact⟨_,rS c ob p _ ⟨c.ys,_,p,rfl,hl,rfl,rfl⟩,hk⟩
def TMy:Tab:=(24,.read tR)::TC0
theorem gi:TbK TMy:= .cons uC oE
theorem uY (cx:Cs) (l:List Int) (J:List PV) (cap:Nat) (i:Nat):(by refine(?_:_→_→_→_→Prop) [PV.U cx.c.id,.any,.list (en1 .u32 cx.c.ys) .no,.I cx.c.un] (PV.I l.length) (List.flatten (l.map u1)++J) (PV.arr 1 0 l.length cap); exact fun d g h j=>by refine(?_:_→_→_→Prop) [Ob.cells d,.cells h] [PV.arr 1 0 l.length cap,.fn 24 [.ptr 0 0],.I 0,g,.I i] (List.drop (0+Int.toNat (i:Int)*1) h); exact fun a b f=>∀(R:Ex→List PV→aa→Prop),(br (decide ((i:Int)<(l.length:Int))) ((0≤(i:Int)∧(i:Int)<(l.length:Int))∧br (true && cN [.int .u32] 0 f) (∃(c:Ck) (ob:Ob) (p:Int),ag [.U (cI f 0),.ptr 0 0] [.U p,.ptr 0 0]∧aE a [.cells [.U c.id,.any,.list (en1 .u32 c.ys) .no,.I c.un],ob]∧c.ys.length≤1000000∧br (ay c.ys p) (R .ret [j,.fn 24 [.ptr 0 0],.I i,g,.I i] a) (R .normal [j,.fn 24 [.ptr 0 0],.I 0,g,.I (wI ((i:Int)+1))] a)) False) (R (.exit 0) b a))→Holds (wpK TMy [] (fun _=>0) (aL [1,0,1,0] (ar Try.f30)) [] (aj [0,1,4,7,8] b) [.cells d,.cells ((l.map u1).flatten++J)] (fun ex e H=>R ex (List.map e [0,1,4,7,8]) H)):Prop):=fun R h=>hoE h
def tj:LSp:=fun e H Q=>∃(cx:Cs) (l:List Int) (J:List PV) (cap:Nat),l.length≤1000000∧ag (List.map e [0,1,4,7,8]) [.arr 1 0 l.length cap,.fn 24 [.ptr 0 0],.I 0,.I l.length,.I 0]∧aE H [.cells [.U cx.c.id,.any,.list (en1 .u32 cx.c.ys) .no,.I cx.c.un],.cells ((l.map u1).flatten++J)]∧
 (l.findIdx (ay cx.c.ys)<l.length→Q .ret (aj [0,1,4,7,8] [.arr 1 0 l.length cap,.fn 24 [.ptr 0 0],.I (l.findIdx (ay cx.c.ys)),.I l.length,.I (l.findIdx (ay cx.c.ys))]) [.cells [.U cx.c.id,.any,.list (en1 .u32 cx.c.ys) .no,.I cx.c.un],.cells ((l.map u1).flatten++J)])∧
 (l.findIdx (ay cx.c.ys)=l.length→Q (.exit 0) (aj [0,1,4,7,8] [.arr 1 0 l.length cap,.fn 24 [.ptr 0 0],.I 0,.I l.length,.I l.length]) [.cells [.U cx.c.id,.any,.list (en1 .u32 cx.c.ys) .no,.I cx.c.un],.cells ((l.map u1).flatten++J)])
theorem qb:∀ e H Q,tj e H Q→AwK Try.f30.ntmps (.loop (aL [1,0,1,0] (ar Try.f30))) Q e H:=by
 rintro e H Q ⟨cx,l,J,cap,hl,he,hH,hQ1,hQ2⟩
 have hfl:l.findIdx (ay cx.c.ys)≤l.length:=List.findIdx_le_length
 refine aZ (hn:=fun _=>0) ap gi (.nil _ _ _ _ _) (σ:=Nat) [0,1,4,7,8] (fun i=>i≤l.findIdx (ay cx.c.ys)) (fun i=>[.arr 1 0 l.length cap,.fn 24 [.ptr 0 0],.I 0,.I l.length,.I i]) (fun _=>[.cells [.U cx.c.id,.any,.list (en1 .u32 cx.c.ys) .no,.I cx.c.un],.cells ((l.map u1).flatten++J)]) (fun i=>l.length-i) 0 (Nat.zero_le _) he hH ?_
 intro i hi
 have hi':i≤l.findIdx (ay cx.c.ys):=hi
 refine uY cx l J cap i _ ?_
 simp only[aI,dt]
 by_cases h:i<l.length
 ·rw[if_pos (by omega)]
  simp only[aC,Nat.zero_add]
  rw[iP cK J 0 h]
  refine⟨⟨by omega,by omega⟩,?_⟩
  rw[if_pos (by rfl)]
  have hv:cI (u1 (l.getD i 0)++(((l.drop (i+1)).map u1).flatten++J)) 0=l.getD i 0:=rfl
  rw[hv]
  obtain⟨v,hvd⟩:∃ v,v=l.getD i 0:=⟨_,rfl⟩
  rw[← hvd]
  refine⟨cx.c,_,v,rfl,rfl,cx.h,?_⟩
  by_cases c:(ay cx.c.ys) v=true
  ·have hge:l.findIdx (ay cx.c.ys)=i:=dj 0 hi' h (by rw[← hvd]; exact c)
   rw[hge] at hQ1
   rw[if_pos (by exact c)]
   exact hQ1 h
  ·have hlt:i<l.findIdx (ay cx.c.ys):=dy 0 hi' h (by rw[← hvd]; simpa using c)
   rw[if_neg (by exact c)]
   exact⟨i+1,(show l.length-(i+1)<l.length-i by omega),hlt,by rw[aW h (by omega)],[],rfl,Nat.le_refl _,.inl rfl⟩
 ·rw[if_neg (by omega)]
  have:i=l.length:=by omega
  subst this
  exact hQ2 (by omega)
theorem ry (cx:Cs) (l:List Int) (J:List PV) (cap:Nat):(by refine(?_:_→_→Prop) (Ob.cells [.U cx.c.id,.any,.list (en1 .u32 cx.c.ys) .no,.I cx.c.un]) (PV.arr 1 0 l.length cap); exact fun b d=>∀(K:PV→aa→Prop),(∃(cx_1:Cs) (l_1:List Int) (J_1:List PV) (cap_1:Nat),by refine(?_:_→Prop) [Ob.cells [.U cx_1.c.id,.any,.list (en1 .u32 cx_1.c.ys) .no,.I cx_1.c.un],.cells (List.flatten (l_1.map u1)++J_1)]; exact fun a=>l_1.length≤1000000∧ag [d,.fn 24 [.ptr 0 0],.I 0,.I l.length,.I 0] [.arr 1 0 l_1.length cap_1,.fn 24 [.ptr 0 0],.I 0,.I l_1.length,.I 0]∧aE [b,.cells (List.flatten (l.map u1)++J)] a∧(List.findIdx (ay cx_1.c.ys) l_1<l_1.length→K (.I (↑(List.findIdx (ay cx_1.c.ys) l_1):Int)) a)∧(List.findIdx (ay cx_1.c.ys) l_1=l_1.length→K (.I (-1)) a))→AcK 30 [d,.fn 24 [.ptr 0 0]] [b,.cells ((l.map u1).flatten++J)] K:Prop):=fun K h=>acW (T:=TMy) (L:=[([1,0,1,0],tj)]) (fun _=>0) Try.func30 (gi) (.cons suE qb (.nil _ _ _ _ _)) h
def tP (args:List PV) (H:aa) (K:PV→Prop):Prop:=∃(cx:Cs) (l:List Int) (J:List PV) (cap:Nat),ag args [.arr 1 0 l.length cap,.fn 24 [.ptr 0 0]]∧aE H [.cells [.U cx.c.id,.any,.list (en1 .u32 cx.c.ys) .no,.I cx.c.un],.cells ((l.map u1).flatten++J)]∧l.length≤1000000∧K (.I (if l.findIdx (ay cx.c.ys)<l.length then(l.findIdx (ay cx.c.ys):Int) else -1))
theorem uI:SpK 30 (.read tP):=by
 rintro args H K ⟨cx,l,J,cap,he,hH,hl,hk⟩
 have he:args=_:=he
 have hH:H=_:=hH
 subst he
 subst hH
 exact⟨_,ry cx l J cap _ ⟨cx,l,J,cap,hl,rfl,rfl,fun h=>⟨by rw[if_pos h],rfl⟩,fun h=>⟨by rw[if_neg (by omega)],rfl⟩⟩,hk⟩
def uA:Tab:=(30,.read tP)::TMy
theorem nl:TbK uA:= .cons uI gi
theorem u7 (cx:Cs) (l:List Int) (J:List PV) (cap:Nat) (i j:Nat):(by refine(?_:_→_→_→_→_→_→Prop) (Ob.cells [.U cx.c.id,.any,.list (en1 .u32 cx.c.ys) .no,.I cx.c.un]) (List.flatten (l.map u1)++J) [PV.arr 1 0 l.length cap,.fn 24 [.ptr 0 0],.I i,.I j] (PV.I (wI ((j:Int)+1))) (0+Int.toNat (i:Int)*1) (PV.arr 1 0 l.length cap); exact fun a b f h k m=>by refine(?_:_→Prop) (List.drop (0+Int.toNat (j:Int)*1) b); exact fun d=>by refine(?_:_→Prop) (PV.U (cI d 0)); exact fun g=>∀(R:Ex→List PV→aa→Prop),(br (decide ((j:Int)<(l.length:Int))) ((0≤(j:Int)∧(j:Int)<(l.length:Int))∧br (true && cN [.int .u32] 0 d) (∃(c:Ck) (ob:Ob) (p:Int),ag [g,.ptr 0 0] [.U p,.ptr 0 0]∧aE [a,.cells b] [.cells [.U c.id,.any,.list (en1 .u32 c.ys) .no,.I c.un],ob]∧c.ys.length≤1000000∧br (!ay c.ys p) ((0≤(i:Int)∧(i:Int)<(l.length:Int))∧br (1 == 1 && List.all [g] PV.one && decide (0+Int.toNat (i:Int)*1+1≤List.length b) && cA 0 1 k 1) (R .normal [m,.fn 24 [.ptr 0 0],.I (wI ((i:Int)+1)),h] [a,.cells (over b k [g])]) False) (R .normal [m,.fn 24 [.ptr 0 0],.I i,h] [a,.cells b])) False) (R (.exit 0) f [a,.cells b]))→Holds (wpK uA [] (fun _=>0) (aL [1,1,1,0,1,0] (ar Try.f23)) [] (aj [0,1,5,6] f) [a,.cells ((l.map u1).flatten++J)] (fun ex e H=>R ex (List.map e [0,1,5,6]) H)):Prop):=fun R h=>hoE h
structure eV (ns l:List Int) (cx:Cs) (i j:Nat):Prop where
 len:l.length=ns.length
 kept:l.take i=(ns.take j).filter (fun v=> !(ay cx.c.ys) v)
 rest:l.drop j=ns.drop j
 le:i≤j
 lt:j≤ns.length
theorem eV.num {ns l:List Int} {cx:Cs} {i j:Nat} (h:eV ns l cx i j):i=((ns.take j).filter (fun v=> !(ay cx.c.ys) v)).length:=by
 have:=congrArg List.length h.kept
 rw[List.length_take] at this
 have:=h.len; have:=h.le; have:=h.lt; omega
theorem eV.at {ns l:List Int} {cx:Cs} {i j:Nat} (h:eV ns l cx i j):l.getD j 0=ns.getD j 0:=by
 have:=congrArg (fun w=>w.getD 0 0) h.rest
 simpa using this
theorem eV.skip {ns l:List Int} {cx:Cs} {i j:Nat} (h:eV ns l cx i j) (hj:j<ns.length) (c:(ay cx.c.ys) (ns.getD j 0)=true):eV ns l cx i (j+1):=by
 refine⟨h.len,?_,?_,by have:=h.le; omega,hj⟩
 ·rw[h.kept,gO 0 hj,if_neg (by rw[c]; decide),List.append_nil]
 ·have:=congrArg (List.drop 1) h.rest
  rwa [List.drop_drop,List.drop_drop] at this
theorem eV.vv {ns l:List Int} {cx:Cs} {i j:Nat} (h:eV ns l cx i j) (hj:j<ns.length) (c:(ay cx.c.ys) (ns.getD j 0)=false):eV ns (l.set i (ns.getD j 0)) cx (i+1) (j+1):=by
 have h1:=h.len
 have h2:=h.le
 refine⟨by rw[List.length_set]; exact h1,?_,?_,by omega,hj⟩
 ·rw[gO 0 hj,if_pos (by rw[c]; decide),← h.kept,List.take_add_one,List.take_set_of_le (Nat.le_refl _),List.getElem?_set_self (by omega)]
  rfl
 ·rw[List.drop_set_of_lt (by omega)]
  have:=congrArg (List.drop 1) h.rest
  rwa [List.drop_drop,List.drop_drop] at this
def o8:LSp:=fun e H Q=>∃(cx:Cs) (ns:List Int) (J:List PV) (cap i:Nat),ns.length≤1000000∧eV ns ns cx i (i+1)∧(∀ y∈J,Low 2 y)∧(∀ y∈([.U cx.c.id,.any,.list (en1 .u32 cx.c.ys) .no,.I cx.c.un]:List PV),Low 2 y)∧ag (List.map e [0,1,5,6]) [.arr 1 0 ns.length cap,.fn 24 [.ptr 0 0],.I i,.I ((i+1:Nat):Int)]∧aE H [.cells [.U cx.c.id,.any,.list (en1 .u32 cx.c.ys) .no,.I cx.c.un],.cells ((ns.map u1).flatten++J)]∧
 ∀(l:List Int) (k:Nat),eV ns l cx k ns.length→Q (.exit 0) (aj [0,1,5,6] [.arr 1 0 ns.length cap,.fn 24 [.ptr 0 0],.I k,.I ns.length]) [.cells [.U cx.c.id,.any,.list (en1 .u32 cx.c.ys) .no,.I cx.c.un],.cells ((l.map u1).flatten++J)]
theorem kP:∀ e H Q,o8 e H Q→AwK Try.f23.ntmps (.loop (aL [1,1,1,0,1,0] (ar Try.f23))) Q e H:=by
 rintro e H Q ⟨cx,ns,J,cap,i0,hl,mid,hJ,hbx,he,hH,hQ⟩
 refine aZ (hn:=fun _=>0) ap nl (.nil _ _ _ _ _) (σ:=Nat×Nat×List Int) [0,1,5,6] (fun s=>eV ns s.2.2 cx s.1 s.2.1)
  (fun s=>[.arr 1 0 ns.length cap,.fn 24 [.ptr 0 0],.I s.1,.I s.2.1]) (fun s=>[.cells [.U cx.c.id,.any,.list (en1 .u32 cx.c.ys) .no,.I cx.c.un],.cells ((s.2.2.map u1).flatten++J)]) (fun s=>ns.length-s.2.1) (i0,i0+1,ns) mid he hH ?_
 rintro⟨i,j,l⟩ mid
 have mid:eV ns l cx i j:=mid
 have hlen:=mid.len
 have hle:=mid.le
 have hjn:=mid.lt
 simp only[← hlen]
 refine u7 cx l J cap i j _ ?_
 simp only[aI,dt]
 by_cases h:j<l.length
 ·have hj:j<ns.length:=by omega
  rw[if_pos (by omega)]
  simp only[aC,Nat.zero_add]
  rw[iP cK J 0 h]
  refine⟨⟨by omega,by omega⟩,?_⟩
  rw[if_pos (by rfl)]
  have hv:cI (u1 (l.getD j 0)++(((l.drop (j+1)).map u1).flatten++J)) 0=l.getD j 0:=rfl
  rw[hv,mid.at]
  obtain⟨v,hvd⟩:∃ v,v=ns.getD j 0:=⟨_,rfl⟩
  rw[← hvd]
  refine⟨cx.c,_,v,rfl,rfl,cx.h,?_⟩
  have hrow:=over_row cK (J:=J) (a:=v) (k:=i) 0 (show i<l.length by omega)
  by_cases c:(ay cx.c.ys) v=true
  ·rw[if_neg (by rw[show _=true from c]; decide)]
   exact⟨(i,j+1,l),(show l.length-(j+1)<l.length-j by omega),mid.skip hj (by rw[← hvd]; exact c),by dsimp only; rw[aW h (by omega),hlen],[],rfl,Nat.le_refl _,.inl rfl⟩
  ·have c':(ay cx.c.ys) v=false:=by simpa using c
   rw[if_pos (by rw[show _=false from c']; decide)]
   refine⟨⟨by omega,by omega⟩,?_⟩
   rw[if_pos (by rw[decide_eq_true (by rw[List.length_append,fY]; omega)]; rfl)]
   have hm:=mid.vv hj (by rw[← hvd]; exact c')
   rw[← hvd] at hm
   refine⟨(i+1,j+1,l.set i v),(show l.length-(j+1)<l.length-j by omega),hm,by dsimp only; rw[aW h (by omega),aW (n:=ns.length) (show i<ns.length by omega) (by omega),hlen],[],?_,Nat.le_refl _,.inl rfl⟩
   dsimp only
   rw[List.append_nil,← hrow]; rfl
 ·rw[if_neg (by omega)]
  have:j=ns.length:=by omega
  subst this
  rw[hlen]
  exact hQ l i mid
theorem rP (cx:Cs) (l:List Int) (J:List PV) (cap:Nat):(by refine(?_:_→_→Prop) [PV.U cx.c.id,.any,.list (en1 .u32 cx.c.ys) .no,.I cx.c.un] [PV.arr 1 0 l.length cap,.fn 24 [.ptr 0 0]]; exact fun f g=>by refine(?_:_→Prop) [Ob.cells f,.cells (List.flatten (l.map u1)++J)]; exact fun e=>∀(K:PV→aa→Prop),(∃(cx_1:Cs) (l_1:List Int) (J_1:List PV) (cap_1:Nat),by refine(?_:_→Prop) (↑(List.findIdx (ay cx_1.c.ys) l_1):Int); exact fun d=>ag g [.arr 1 0 l_1.length cap_1,.fn 24 [.ptr 0 0]]∧aE e [.cells [.U cx_1.c.id,.any,.list (en1 .u32 cx_1.c.ys) .no,.I cx_1.c.un],.cells (List.flatten (l_1.map u1)++J_1)]∧l_1.length≤1000000∧br ((if List.findIdx (ay cx_1.c.ys) l_1<l_1.length then d else -1) == -1) (K (.arr 1 0 l.length cap) e) (∃(cx_2:Cs) (ns:List Int) (J_2:List PV) (cap_2:Nat) (i:Nat),by refine(?_:_→Prop) [PV.U cx_2.c.id,.any,.list (en1 .u32 cx_2.c.ys) .no,.I cx_2.c.un]; exact fun b=>ns.length≤1000000∧eV ns ns cx_2 i (i+1)∧(∀(y:PV),y∈J_2→Low 2 y)∧(∀(y:PV),y∈b→Low 2 y)∧ag [.arr 1 0 l.length cap,.fn 24 [.ptr 0 0],.I (if List.findIdx (ay cx_1.c.ys) l_1<l_1.length then d else -1),.I (wI ((if List.findIdx (ay cx_1.c.ys) l_1<l_1.length then d else -1)+1))] [.arr 1 0 ns.length cap_2,.fn 24 [.ptr 0 0],.I i,.I (↑(i+1):Int)]∧aE e [.cells b,.cells (List.flatten (ns.map u1)++J_2)]∧∀(l:List Int),∀(k:Nat),by refine(?_:_→Prop) (Int.toNat (ns.length:Int)-Int.toNat (k:Int)); exact fun a=>eV ns l cx_2 k ns.length→(0≤(k:Int)∧(k:Int)≤(ns.length:Int)∧(ns.length:Int)≤(cap_2:Int)∧(cap_2:Int)≤(cap_2:Int))∧(if Int.toNat (cap_2:Int)=Int.toNat (k:Int) then 0 else 0+Int.toNat (k:Int)*1)+a*1≤List.length (List.flatten (l.map u1)++J_2)∧(iI 0≤0∧0≤(k:Int)∧(k:Int)≤(cap_2:Int)∧(cap_2:Int)≤(cap_2:Int))∧K (.arr 1 (if Int.toNat (cap_2:Int)=0 then 0 else 0) (Int.toNat (k:Int)-0) (Int.toNat (cap_2:Int)-0)) [.cells b,.cells (over (List.flatten (l.map u1)++J_2) (if Int.toNat (cap_2:Int)=Int.toNat (k:Int) then 0 else 0+Int.toNat (k:Int)*1) (List.flatten (List.replicate a [.U 0])))]))→AcK 23 g [.cells f,.cells ((l.map u1).flatten++J)] K:Prop):=fun K h=>acW (T:=uA) (L:=[([1,1,1,0,1,0],o8)]) (fun _=>0) Try.func23 (nl) (.cons suE kP (.nil _ _ _ _ _)) h
theorem ve (cx:Cs):(by refine(?_:_→_→Prop) [Ob.cells [.U cx.c.id,.any,.list (en1 .u32 cx.c.ys) .no,.I cx.c.un]] [PV.list [] .no,.fn 24 [.ptr 0 0],.I 0,.I 0,.I 0]; exact fun a b=>∀(R:Ex→List PV→aa→Prop),(R (.exit 0) b a)→Holds (wpK TMy [] (fun _=>0) (aL [1,0,1,0] (ar Try.f30)) [] (aj [0,1,4,7,8] b) a (fun ex e H=>R ex (List.map e [0,1,4,7,8]) H)):Prop):=fun R h=>hoE h
def ta:LSp:=fun e H Q=>∃(cx:Cs),ag (List.map e [0,1,4,7,8]) [.list [] .no,.fn 24 [.ptr 0 0],.I 0,.I 0,.I 0]∧aE H [.cells [.U cx.c.id,.any,.list (en1 .u32 cx.c.ys) .no,.I cx.c.un]]∧Q (.exit 0) (aj [0,1,4,7,8] [.list [] .no,.fn 24 [.ptr 0 0],.I 0,.I 0,.I 0]) [.cells [.U cx.c.id,.any,.list (en1 .u32 cx.c.ys) .no,.I cx.c.un]]
theorem qa:∀ e H Q,ta e H Q→AwK Try.f30.ntmps (.loop (aL [1,0,1,0] (ar Try.f30))) Q e H:=by
 rintro e H Q ⟨cx,he,hH,hQ⟩
 refine aZ (hn:=fun _=>0) ap gi (.nil _ _ _ _ _) (σ:=Unit) [0,1,4,7,8] (fun _=>True) (fun _=>[.list [] .no,.fn 24 [.ptr 0 0],.I 0,.I 0,.I 0]) (fun _=>[.cells [.U cx.c.id,.any,.list (en1 .u32 cx.c.ys) .no,.I cx.c.un]]) (fun _=>0) () trivial he hH ?_
 intro _ _
 exact ve cx _ hQ
theorem r7 (cx:Cs):(by refine(?_:_→_→Prop) [Ob.cells [.U cx.c.id,.any,.list (en1 .u32 cx.c.ys) .no,.I cx.c.un]] [PV.list [] .no,.fn 24 [.ptr 0 0],.I 0,.I 0,.I 0]; exact fun b d=>∀(K:PV→aa→Prop),(∃(cx_1:Cs),by refine(?_:_→Prop) [Ob.cells [.U cx_1.c.id,.any,.list (en1 .u32 cx_1.c.ys) .no,.I cx_1.c.un]]; exact fun a=>ag d d∧aE b a∧K (.I (-1)) a)→AcK 30 [.list [] .no,.fn 24 [.ptr 0 0]] b K:Prop):=fun K h=>acW (T:=TMy) (L:=[([1,0,1,0],ta)]) (fun _=>0) Try.func30 (gi) (.cons suE qa (.nil _ _ _ _ _)) h
def tT (args:List PV) (H:aa) (K:PV→Prop):Prop:=∃(cx:Cs),ag args [.list [] .no,.fn 24 [.ptr 0 0]]∧aE H [.cells [.U cx.c.id,.any,.list (en1 .u32 cx.c.ys) .no,.I cx.c.un]]∧K (.I (-1))
theorem uj:SpK 30 (.read tT):=by
 rintro args H K ⟨cx,he,hH,hk⟩
 have he:args=_:=he
 have hH:H=_:=hH
 subst he
 subst hH
 exact⟨_,r7 cx _ ⟨cx,rfl,rfl,rfl,rfl⟩,hk⟩
def vC:Tab:=(30,.read tT)::TMy
theorem rF:TbK vC:= .cons uj gi
theorem rN (cx:Cs):(by refine(?_:_→_→Prop) [Ob.cells [.U cx.c.id,.any,.list (en1 .u32 cx.c.ys) .no,.I cx.c.un]] [PV.list [] .no,.fn 24 [.ptr 0 0]]; exact fun a b=>∀(K:PV→aa→Prop),(∃(cx_1:Cs),ag b b∧aE a [.cells [.U cx_1.c.id,.any,.list (en1 .u32 cx_1.c.ys) .no,.I cx_1.c.un]]∧K (.list [] .no) a)→AcK 23 b a K:Prop):=fun K h=>acW (T:=vC) (L:=[([1,1,1,0,1,0],o8)]) (fun _=>0) Try.func23 (rF) (.cons suE kP (.nil _ _ _ _ _)) h
theorem mS {p:Int→Bool}:∀(l:List Int),(l.findIdx p<l.length→l.take (l.findIdx p)=(l.take (l.findIdx p+1)).filter (fun v=> !p v))∧(l.findIdx p=l.length→l.filter (fun v=> !p v)=l)
 | []=>⟨fun h=>absurd h (by simp),fun _=>rfl⟩
 | a::l=>by
  obtain⟨h1,h2⟩:=mS l
  by_cases c:p a=true
  ·have e:(a::l).findIdx p=0:=by rw[List.findIdx_cons,c]; rfl
   rw[e]
   exact⟨fun _=>by simp[c],fun h=>by simp at h⟩
  ·have c':p a=false:=by simpa using c
   have e:(a::l).findIdx p=l.findIdx p+1:=by rw[List.findIdx_cons,c']; rfl
   rw[e]
   refine⟨fun h=>?_,fun h=>?_⟩
   ·rw[List.take_succ_cons,List.take_succ_cons,List.filter_cons_of_pos (by simp[c']),← h1 (by simpa using h)]
   ·rw[List.filter_cons_of_pos (by simp[c']),h2 (by simpa using h)]
theorem uR {l:List Int} {J:List PV} {k n:Nat} (hn:l.length=n) (hk:k≤n):over ((l.map u1).flatten++J) k (List.flatten (List.replicate (n-k) [PV.U 0]))=((l.take k).map u1).flatten++((List.flatten (List.replicate (n-k) [PV.U 0]))++J):=by
 have hz:=(eO (n-k)).len
 have e1:(l.map u1).flatten++J=((l.take k).map u1).flatten++((l.drop k).map u1).flatten++J:=by rw[← cZ]
 rw[bP e1 (by rw[fY,List.length_take]; omega) (by rw[fY,List.length_drop,hz]; omega),List.append_assoc]
def s3 (args:List PV) (H:aa) (K:PV→aa→Prop):Prop:=
 (∃(cx:Cs) (l:List Int) (J:List PV) (cap:Nat),ag args [.arr 1 0 l.length cap,.fn 24 [.ptr 0 0]]∧aE H [.cells [.U cx.c.id,.any,.list (en1 .u32 cx.c.ys) .no,.I cx.c.un],.cells ((l.map u1).flatten++J)]∧l.length≤1000000∧l.length≤cap∧aT J (cap-l.length)∧(∀ y∈([.U cx.c.id,.any,.list (en1 .u32 cx.c.ys) .no,.I cx.c.un]:List PV),Low 2 y)∧
  K (.arr 1 0 (l.filter (fun v=> !(ay cx.c.ys) v)).length cap) [.cells [.U cx.c.id,.any,.list (en1 .u32 cx.c.ys) .no,.I cx.c.un],.cells (((l.filter (fun v=> !(ay cx.c.ys) v)).map u1).flatten++((List.flatten (List.replicate (l.length-(l.filter (fun v=> !(ay cx.c.ys) v)).length) [PV.U 0]))++J))])∨
 (∃(cx:Cs),ag args [.list [] .no,.fn 24 [.ptr 0 0]]∧aE H [.cells [.U cx.c.id,.any,.list (en1 .u32 cx.c.ys) .no,.I cx.c.un]]∧K (.list [] .no) [.cells [.U cx.c.id,.any,.list (en1 .u32 cx.c.ys) .no,.I cx.c.un]])
theorem lI:SpK 23 (.heap s3):=by
 rintro args H K (⟨cx,l,J,cap,he,hH,hl,hc,hJ,hbx,hk⟩|⟨cx,he,hH,hk⟩)
 ·have he:args=_:=he
  have hH:H=_:=hH
  subst he
  subst hH
  obtain⟨s1,s2⟩:=mS (p:=(ay cx.c.ys)) l
  have hfl:l.findIdx (ay cx.c.ys)≤l.length:=List.findIdx_le_length
  refine rP cx l J cap K ⟨cx,l,J,cap,rfl,rfl,hl,?_⟩
  rw[aI]
  by_cases h:l.findIdx (ay cx.c.ys)<l.length
  ·rw[if_pos h,if_neg (by rw[beq_iff_eq]; omega)]
   refine⟨cx,l,J,cap,l.findIdx (ay cx.c.ys),hl,⟨rfl,s1 h,rfl,by omega,h⟩,fun y hy=>(hJ.low y hy).up,hbx,?_,rfl,fun l' k mid=>?_⟩
   ·show _=_
    rw[aW h (by omega)]
   ·have hlen:=mid.len
    have hle:=mid.le
    have hkept:=mid.kept
    rw[List.take_length] at hkept
    have hnum:=mid.num
    rw[List.take_length] at hnum
    simp only[aC,Nat.sub_zero,Nat.zero_add,Nat.mul_one,ite_self]
    have hif:(if cap=k then 0 else k)+(l.length-k)≤((l'.map u1).flatten++J).length:=by
     rw[List.length_append,fY,hJ.len]; split<;>omega
    have hov:over ((l'.map u1).flatten++J) (if cap=k then 0 else k) (List.flatten (List.replicate (l.length-k) [PV.U 0]))=((l'.take k).map u1).flatten++((List.flatten (List.replicate (l.length-k) [PV.U 0]))++J):=by
     split
     ·have e:l.length-k=0:=by omega
      rw[e,show List.flatten (List.replicate 0 [PV.int IntKind.u32 0])=[] from rfl,eH,List.take_of_length_le (by omega),List.nil_append]
     ·exact uR hlen hle
    refine⟨⟨by omega,by omega,by omega,by omega⟩,hif,⟨by decide,by omega,by omega,by omega⟩,?_⟩
    rw[hov,hkept,hnum]
    exact hk
  ·rw[if_neg h,if_pos (by rfl)]
   have e:=s2 (by omega)
   rw[e,Nat.sub_self] at hk
   exact hk
 ·have he:args=_:=he
  have hH:H=_:=hH
  subst he
  subst hH
  exact rN cx K ⟨cx,rfl,rfl,hk⟩
def uu (args:List PV) (H:aa) (K:PV→aa→Prop):Prop:=
 (∃(cx:Cs) (l:List Int) (J:List PV) (cap:Nat),ag args [.arr 1 0 l.length cap,.fn 24 [.ptr 0 0]]∧aE H [.cells [.U cx.c.id,.any,.list (en1 .u32 cx.c.ys) .no,.I cx.c.un],.cells ((l.map u1).flatten++J)]∧l.length≤1000000∧l.length≤cap∧aT J (cap-l.length)∧(∀ y∈([.U cx.c.id,.any,.list (en1 .u32 cx.c.ys) .no,.I cx.c.un]:List PV),Low 2 y)∧
  ∀(J':List PV),aT J' (cap-(l.filter (fun v=> !(ay cx.c.ys) v)).length)→K (.arr 1 0 (l.filter (fun v=> !(ay cx.c.ys) v)).length cap) [.cells [.U cx.c.id,.any,.list (en1 .u32 cx.c.ys) .no,.I cx.c.un],.cells (((l.filter (fun v=> !(ay cx.c.ys) v)).map u1).flatten++J')])∨
 (∃(cx:Cs),ag args [.list [] .no,.fn 24 [.ptr 0 0]]∧aE H [.cells [.U cx.c.id,.any,.list (en1 .u32 cx.c.ys) .no,.I cx.c.un]]∧K (.list [] .no) [.cells [.U cx.c.id,.any,.list (en1 .u32 cx.c.ys) .no,.I cx.c.un]])
theorem sL:SpK 23 (.heap uu):=by
 rintro args H K (⟨cx,l,J,cap,he,hH,hl,hc,hJ,hbx,hk⟩|h)
 ·refine lI _ _ _ (.inl ⟨cx,l,J,cap,he,hH,hl,hc,hJ,hbx,hk _ (((eO _).app hJ).cast ?_)⟩)
  have:=List.length_filter_le (fun v=> !(ay cx.c.ys) v) l
  omega
 ·exact lI _ _ _ (.inr h)
def qv (args:List PV) (H:aa) (K:PV→aa→Prop):Prop:=∃(c:Ck) (z:PV) (cs:List PV) (l:List Int) (J:List PV) (cap:Nat),ag args [.arr 2 0 l.length cap,.fn 24 [.ptr 1 0]]∧aE H [.cells cs,.cells [.U c.id,z,.list (en1 .u32 c.ys) .no,.I c.un],.cells ((l.map u1).flatten++J)]∧c.ys.length≤1000000∧l.length≤1000000∧l.length≤cap∧aT J (cap-l.length)∧
 ∀(J':List PV),aT J' (cap-(l.filter (fun v=> !ay c.ys v)).length)→K (.arr 2 0 (l.filter (fun v=> !ay c.ys v)).length cap) [.cells cs,.cells [.U c.id,.any,.list (en1 .u32 c.ys) .no,.I c.un],.cells (((l.filter (fun v=> !ay c.ys v)).map u1).flatten++J')]
theorem tZ {x:PV}:Wk x .any:=fun _ _ _ _=> .any _
theorem mg {n:Nat} (c:Ck):∀ y∈([.U c.id,.any,.list (en1 .u32 c.ys) .no,.I c.un]:List PV),Low n y:=iD (.int _ _) .any (bg NT.no) (.int _ _)
theorem ir {l:List Int} {J:List PV} {n:Nat} (hJ:aT J n):∀ x∈(l.map u1).flatten++J,Low 0 x:=mZ l (fun y hy=>hJ.low y hy)
theorem sP:SpK 23 (.heap qv):=by
 rintro args H K ⟨c,z,cs,l,J,cap,he,hH,hy,hl,hc,hJ,hk⟩
 have he:args=_:=he
 have hH:H=_:=hH
 subst he
 subst hH
 have three:∀ {A B C:Ob} {i:Nat} {b:Ob},[A,B,C][i]?=some b→(i=0∧b=A)∨(i=1∧b=B)∨(i=2∧b=C):=fun {A B C i b} e=>by
  have k1:=(List.getElem?_eq_some_iff.1 e).1
  simp at k1
  have:i=0∨i=1∨i=2:=by omega
  rcases this with rfl|rfl|rfl<;>cases e
  ·exact .inl ⟨rfl,rfl⟩
  ·exact .inr (.inl ⟨rfl,rfl⟩)
  ·exact .inr (.inr ⟨rfl,rfl⟩)
 have two:∀ {A B:Ob} {i:Nat} {b:Ob},[A,B][i]?=some b→(i=0∧b=A)∨(i=1∧b=B):=fun {A B i b} e=>by
  have k1:=(List.getElem?_eq_some_iff.1 e).1
  simp at k1
  have:i=0∨i=1:=by omega
  rcases this with rfl|rfl<;>cases e
  ·exact .inl ⟨rfl,rfl⟩
  ·exact .inr ⟨rfl,rfl⟩
 have hw:WkH [.cells cs,.cells [.U c.id,z,.list (en1 .u32 c.ys) .no,.I c.un],.cells ((l.map u1).flatten++J)] [.cells cs,.cells [.U c.id,.any,.list (en1 .u32 c.ys) .no,.I c.un],.cells ((l.map u1).flatten++J)]:=by
  refine⟨rfl,fun o b ho=>?_⟩
  rcases three ho with⟨rfl,rfl⟩|⟨rfl,rfl⟩|⟨rfl,rfl⟩
  ·exact⟨_,rfl,.refl _⟩
  ·exact⟨_,rfl,.cells (.cons (.refl _) (.cons tZ (.cons (.refl _) (.cons (.refl _) .nil))))⟩
  ·exact⟨_,rfl,.refl _⟩
 have hsub:Sub (fun o=>o+1) [.cells [.U c.id,.any,.list (en1 .u32 c.ys) .no,.I c.un],.cells ((l.map u1).flatten++J)] [.cells cs,.cells [.U c.id,.any,.list (en1 .u32 c.ys) .no,.I c.un],.cells ((l.map u1).flatten++J)]:=by
  refine⟨fun o ho=>by simp at ho ⊢; omega,fun a b _ _ e=>by omega,fun o a ho=>?_⟩
  rcases two ho with⟨rfl,rfl⟩|⟨rfl,rfl⟩
  ·exact⟨_,rfl,.cells (aJ.low (mg c))⟩
  ·exact⟨_,rfl,.cells (aJ.low (ir hJ))⟩
 refine jm hw (aD (args0:=[.arr 1 0 l.length cap,.fn 24 [.ptr 0 0]]) ap hsub (.cons (Ren.arr (ρ:=fun o=>o+1) 1 0 _ cap (show 1<2 by decide)) (.cons (Ren.fn (ρ:=fun o=>o+1) 24 [.ptr 0 0] [.ptr 1 0] rfl fun q x y h1 h2=>?_) .nil)) (sL _ _ _ (.inl ⟨⟨c,hy⟩,l,J,cap,rfl,rfl,hl,hc,hJ,mg c,fun J' hJ'=>⟨.arr 2 0 (l.filter (fun v=> !ay c.ys v)).length cap,[.cells cs,.cells [.U c.id,.any,.list (en1 .u32 c.ys) .no,.I c.un],.cells (((l.filter (fun v=> !ay c.ys v)).map u1).flatten++J')],⟨Nat.le_refl _,rfl,fun o a ho=>?_,fun o ho hn=>?_⟩,?_,hk J' hJ'⟩⟩)))
 ·have k1:=(List.getElem?_eq_some_iff.1 h1).1
  simp at k1
  subst k1
  cases h1; cases h2
  exact .ptr (ρ:=fun o=>o+1) 0 0 (show 0<2 by decide)
 ·rcases two ho with⟨rfl,rfl⟩|⟨rfl,rfl⟩
  ·exact⟨_,rfl,.cells (aJ.low (mg c)),fun h=>h⟩
  ·exact⟨_,rfl,.cells (aJ.low (ir hJ')),fun h=>h⟩
 ·have k0:=hn 0 (by simp)
  have k1:=hn 1 (by simp)
  simp at ho
  have:o=0:=by omega
  subst this
  rfl
 ·exact Ren.arr (ρ:=aF (fun o=>o+1) 2 3) 1 0 _ cap (show 1<2 by decide)
def tS (args:List PV) (H:aa) (K:PV→aa→Prop):Prop:=∃(o off cap:Nat) (ns:List Int) (cs:List PV),ag args [.arr o off ns.length cap]∧fe H o cs∧aX cs off ns∧ns≠[]∧ns.length≤1000000∧
 ∀(c:Nat),ns.length≤c→∀(J:List PV),aT J (c-ns.length)→K (.arr H.length 0 ns.length c) (H++[.cells ((ns.map u1).flatten++J)])
theorem tW:SpK 17 (.heap tS):=by
 rintro args H K ⟨o,off,cap,ns,cs,he,hc,hr,hne,hl,hk⟩
 have he:args=_:=he
 subst he
 obtain⟨e1,e2⟩:=hr.take
 refine iT (args0:=[.arr 0 off ns.length cap]) ap hc hr.low (.cons (Ren.arr (ρ:=fun _=>o) 0 off _ cap (by decide)) .nil) (mV cs off ns.length cap _ ?_)
 rw[Nat.mul_one,e1]
 refine⟨e2,List.length_map _,by omega,List.length_pos_iff.2 hne,fun c hcap=>?_⟩
 refine .inr ⟨cs,(ns.map u1).flatten++(List.replicate (c-ns.length) [PV.U 0]).flatten,.arr H.length 0 ns.length c,by rw[iW],hr.low,ir (eO _),?_,?_⟩
 ·exact Ren.arr (ρ:=e8 o H.length) 1 0 _ c (by decide)
 ·rw[cJ hc]; exact hk c hcap _ (eO _)
def TMA:Tab:=[(17,.heap tS),(23,.heap qv)]
theorem vn:TbK TMA:= .cons tW (.cons sP (.nil _ _))
theorem pE (c:Ck) (cs:List PV) (off n cap:Nat):(by refine(?_:_→Prop) [PV.U c.id,.arr 0 off n cap,.list (en1 .u32 c.ys) .no,.I c.un]; exact fun d=>∀(K:PV→aa→Prop),(∃(o:Nat) (off_1:Nat) (cap_1:Nat) (ns:List Int) (cs_1:List PV),ag [.arr 0 off n cap] [.arr o off_1 ns.length cap_1]∧fe [.cells cs,.cells d] o cs_1∧aX cs_1 off_1 ns∧ns≠[]∧ns.length≤1000000∧∀(c_1:Nat),ns.length≤c_1→∀(J:List PV),aT J (c_1-ns.length)→∃(c_2:Ck) (z:PV) (cs_2:List PV) (l:List Int) (J_1:List PV) (cap_2:Nat),by refine(?_:_→_→Prop) (List.filter (fun(v:Int)=> !ay c_2.ys v) l) (PV.list (en1 .u32 c_2.ys) .no); exact fun a b=>ag [.arr 2 0 ns.length c_1,.fn 24 [.ptr 1 0]] [.arr 2 0 l.length cap_2,.fn 24 [.ptr 1 0]]∧aE [.cells cs,.cells d,.cells (List.flatten (ns.map u1)++J)] [.cells cs_2,.cells [.U c_2.id,z,b,.I c_2.un],.cells (List.flatten (l.map u1)++J_1)]∧c_2.ys.length≤1000000∧l.length≤1000000∧l.length≤cap_2∧aT J_1 (cap_2-l.length)∧∀(J':List PV),aT J' (cap_2-List.length a)→K (.arr 2 0 (List.length a) cap_2) [.cells cs_2,.cells [.U c_2.id,.any,b,.I c_2.un],.cells (List.flatten (List.map u1 a)++J')])→AcK 9 [.agg d] [.cells cs] K:Prop):=fun K h=>acW (T:=TMA) (L:=[]) (fun o=>match o.dst with|some 4=>1|_=>0) Try.func9 (vn) (LOk.nil _ _ _ _ _) h
def qo (args:List PV) (H:aa) (K:PV→Prop):Prop:=∃(o off cap:Nat) (c:Ck) (cs:List PV),ag args [.agg [.U c.id,.arr o off c.pl.length cap,.list (en1 .u32 c.ys) .no,.I c.un]]∧fe H o cs∧aX cs off c.pl∧c.pl≠[]∧c.Sm∧K (.list ((lf c).map u1) .no)
theorem sv:SpK 9 (.read qo):=by
 rintro args H K ⟨o,off,cap,c,cs,he,hc,hr,hne,hsm,hk⟩
 have he:args=_:=he
 subst he
 refine⟨_,iT (args0:=[.agg [.U c.id,.arr 0 off c.pl.length cap,.list (en1 .u32 c.ys) .no,.I c.un]]) ap hc hr.low (.cons (.rH (.cons (.low (.int _ _)) (.cons (Ren.arr (ρ:=fun _=>o) 0 off _ cap (by decide)) (.cons (.low (bg NT.no)) (.cons (.low (.int _ _)) .nil))))) .nil) (aA (af.same (r:= .list ((lf c).map u1) .no) (cy _).up (ej (pE c cs off c.pl.length cap _ ⟨0,off,cap,c.pl,cs,rfl,rfl,hr,hne,hsm.pl,fun c1 hc1 J hJ=>⟨c,_,cs,c.pl,J,c1,rfl,rfl,hsm.ys,hsm.pl,hc1,hJ,fun J' hJ'=>?_⟩⟩))) fun x X' e=>?_),hk⟩
 ·have hle:(lf c).length≤c.pl.length:=List.length_filter_le _ _
  refine⟨2,0,1,[],J',(lf c).map u1,.list ((lf c).map u1) .no,[.cells cs,.cells [.U c.id,.any,.list (en1 .u32 c.ys) .no,.I c.un],.dead],rfl,rfl,mD _,ng (H:=[.cells cs,.cells [.U c.id,.any,.list (en1 .u32 c.ys) .no,.I c.un]]) rfl,?_,rfl,[.cells [.U c.id,.any,.list (en1 .u32 c.ys) .no,.I c.un],.dead],rfl⟩
  have:=Fz.arr (o:=2) (off:=0) (es:=(lf c).map u1) c1 (by rw[List.length_map]; omega)
  rw[List.length_map] at this
  exact this
 ·obtain⟨rfl,rfl⟩:=e
  exact .inl ⟨cs,_,rfl,hr.low,.low (cy _),rfl,cJ hc⟩
end Go.Proofs.Ytpnmfkpboinoaaa
