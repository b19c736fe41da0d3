/-
  What the program's and the document's functions do, over plain values, part 4.
-/
import Derived.Test.YtenaelaapdhbdaaGreatDoorA3
import Derived.Test.YtenaelaapdhbdaaGreatDoorProg
namespace Go.Proofs.YtenaelaapdhbdaaGreatDoor
open Go Go.AM Go.Proofs
def scs:List Int:=[500,1000,0]
def fX:List Int:=[500,571,640,703,760,808,849,882,909,930,947,960,969,977,983,987,990]
def gl:az:=fun k=>match k with
 | 1=>some [.int .i64 500,.int .i64 571,.int .i64 640,.int .i64 703,.int .i64 760,.int .i64 808,.int .i64 849,.int .i64 882,.int .i64 909,.int .i64 930,.int .i64 947,.int .i64 960,.int .i64 969,.int .i64 977,.int .i64 983,.int .i64 987,.int .i64 990]
 | 0=>some [.int .i64 500,.int .i64 1000,.int .i64 0]
 | _=>none

abbrev SpK:=FY Tryz.prog gl
abbrev TbK:=aX Tryz.prog gl
abbrev AcK:=ax Tryz.prog gl
abbrev AwK [Dfr]:=AW Tryz.prog gl
abbrev wpK:=wpc br Tryz.prog gl
theorem aj:aQ gl:=by
 intro k cs hk x hx
 unfold gl at hk
 split at hk
 ·cases hk; simp at hx; rcases hx with rfl|rfl|rfl|rfl|rfl|rfl|rfl|rfl|rfl|rfl|rfl|rfl|rfl|rfl|rfl|rfl|rfl<;>exact .int _ _
 ·cases hk; simp at hx; rcases hx with rfl|rfl|rfl<;>exact .int _ _
 ·cases hk
abbrev wI (n:Int):Int:=IntKind.wrap .i64 n
theorem aF {n:Int} (h0: -9223372036854775808≤n) (h1:n≤9223372036854775807):wI n=n:=wrap_i64 h0 h1
theorem ar {i n:Nat} (h:i<n) (hn:(n:Int)≤4611686018427387904):wI ((i:Int)+1)=((i+1:Nat):Int):=by
 rw[aF (by omega) (by omega)]; rfl
theorem aY {α:Type} {l:List α} {i:Nat} {d:α} (h:i<l.length):l.getD i d∈l:=by
 rw[List.getD_eq_getElem?_getD,List.getElem?_eq_getElem h]; exact List.getElem_mem h
theorem C8 (a:Int)  (K:PV→Prop) (h:K (.bool (a != a))):AcK 106 [.U a] [] (fun x _=>K x):=
 acW (T:=[]) (L:=[]) (fun _=>0) Tryz.func106 (aX.nil _ _) (LOk.nil _ _ _ _ _) h
theorem DA (a:Int)  (K:PV→Prop) (h:br (decide (a≥1) == true) (K (.bool (decide (a≤2147483647)))) (K (.bool false))):AcK 50 [.U a] [] (fun x _=>K x):=
 acW (T:=[]) (L:=[]) (fun _=>0) Tryz.func50 (aX.nil _ _) (LOk.nil _ _ _ _ _) h
def sa (args:List PV) (K:PV→Prop):Prop:=match args with
 | [.int .u32 _]=>K (.bool false)
 | _=>False
theorem B6:SpK 106 (.pure sa):=by
 intro args K h
 unfold sa at h
 split at h
 ·rename_i a
  refine cr aj (by simp[cg]) (.bool _) (C8 a (fun x=>x = .bool false) ?_) h
  simp
 ·exact h.elim
def aC (a:Int):Bool:=decide (1≤a∧a≤2147483647)
def lg (args:List PV) (K:PV→Prop):Prop:=match args with
 | [.int .u32 a]=>K (.bool (aC a))
 | _=>False
theorem pc:SpK 50 (.pure lg):=by
 intro args K h
 unfold lg at h
 split at h
 ·rename_i a
  refine cr aj (by simp[cg]) (.bool _) (DA a (fun x=>x = .bool (aC a)) ?_) h
  simp only[au,bt,dt]
  unfold aC
  by_cases c:a≥1
  ·rw[if_pos c]; congr 1; apply decide_eq_decide.2; omega
  ·rw[if_neg c]; congr 1; symm; apply decide_eq_false; omega
 ·exact h.elim
def TK0:Tab:=[(106,.pure sa),(50,.pure lg)]
theorem FL:TbK TK0:= .cons B6 (.cons pc (.nil _ _))
theorem IF (a b:Int)  (K:PV→Prop) (h:br (decide (a<b)) (K (.I (-1))) (br (decide (a>b)) (K (.I 1)) (K (.I 0)))):AcK 84 [.U a,.U b] [] (fun x _=>K x):=
 acW (T:=TK0) (L:=[]) (fun _=>0) Tryz.func84 (FL) (LOk.nil _ _ _ _ _) h
def fU (a b:Int):Int:=if a<b then -1 else if a>b then 1 else 0
def wg (args:List PV) (K:PV→Prop):Prop:=match args with
 | [.int .u32 a,.int .u32 b]=>K (.int .i64 (fU a b))
 | _=>False
theorem Hz:SpK 84 (.pure wg):=by
 intro args K h
 unfold wg at h
 split at h
 ·rename_i a b
  refine cr aj (by simp[cg]) (.int _ _) (IF a b (fun x=>x = .I (fU a b)) ?_) h
  simp only[au,dt]
  unfold fU
  by_cases c:a<b
  ·rw[if_pos c,if_pos c]
  rw[if_neg c,if_neg c]
  by_cases d:a>b
  ·rw[if_pos d,if_pos d]
  ·rw[if_neg d,if_neg d]
 ·exact h.elim
def TK:Tab:=(84,.pure wg)::TK0
theorem yy:TbK TK:= .cons Hz FL
structure Rw (G:Type) where
 id:Int
 v:G
instance rwInh {G:Type} [Inhabited G]:Inhabited (Rw G):=⟨⟨0,default⟩⟩
section
variable {G:Type}
structure Ok (l:List (Rw G)) (most:Int):Prop where
 rise:l.Pairwise fun a b=>a.id<b.id
 full:(l.length:Int)≤most
 big:most≤1000000
theorem Ok.len {l:List (Rw G)} {most:Int} (h:Ok l most):l.length≤1000000:=by have:=h.full; have:=h.big; omega
theorem Ok.none {most:Int} (h0:0≤most) (h:most≤1000000):Ok ([]:List (Rw G)) most:=⟨List.Pairwise.nil,by simpa using h0,h⟩
end
section
variable {G:Type} [Inhabited G]
structure Lb (l:List (Rw G)) (t:Int) (p:Nat):Prop where
 le:p≤l.length
 lo:∀ k,k<p→(l.getD k default).id<t
 hi:∀ k,p≤k→k<l.length→t≤(l.getD k default).id
def wE (l:List (Rw G)) (t:Int) (p:Nat):Bool:=decide (p<l.length∧(l.getD p default).id=t)
def lbp (l:List (Rw G)) (t:Int):Nat:=l.findIdx fun r=>decide (t≤r.id)
def has (l:List (Rw G)) (t:Int):Bool:=wE l t (lbp l t)
theorem Ok.lb {l:List (Rw G)} {most:Int} (h:Ok l most) (t:Int):Lb l t (lbp l t):=by
 refine⟨List.findIdx_le_length,fun k hk=>?_,fun k hk hl=>?_⟩
 ·have hkl:k<l.length:=Nat.lt_of_lt_of_le hk List.findIdx_le_length
  have:=List.not_of_lt_findIdx hk
  rw[List.getD_eq_getElem?_getD,List.getElem?_eq_getElem hkl,Option.getD_some]
  simp only[decide_eq_false_iff_not] at this
  omega
 ·have hpl:lbp l t<l.length:=Nat.lt_of_le_of_lt hk hl
  have h1:t≤(l[lbp l t]'hpl).id:=by
   have:=List.findIdx_getElem (p:=fun r:Rw G=>decide (t≤r.id)) (w:=hpl)
   exact of_decide_eq_true this
  rw[List.getD_eq_getElem?_getD,List.getElem?_eq_getElem hl,Option.getD_some]
  rcases Nat.eq_or_lt_of_le hk with e|e
  ·subst e; exact h1
  ·have:=List.pairwise_iff_getElem.1 h.rise (lbp l t) k hpl hl e
   omega
theorem Ok.get {l:List (Rw G)} {most:Int} (h:Ok l most) {i j:Nat} (hij:i<j) (hj:j<l.length):(l.getD i default).id<(l.getD j default).id:=by
 rw[List.getD_eq_getElem?_getD,List.getElem?_eq_getElem (by omega),List.getD_eq_getElem?_getD,List.getElem?_eq_getElem hj]
 exact List.pairwise_iff_getElem.1 h.rise i j (by omega) hj hij
def bF (l:List (Rw G)) (t:Int):G:=if has l t=true then(l.getD (lbp l t) default).v else default
def cN (l:List (Rw G)) (most t:Int) (v:G):List (Rw G)×Int:=
 if aC t=true then
  if has l t=true then(l.set (lbp l t) ⟨t,v⟩,0)
  else if(l.length:Int)≥most then(l,10) else(bC l (lbp l t) ⟨t,v⟩,0)
 else(l,14)
def tI (l:List (Rw G)) (most t:Int) (v:G):List (Rw G)×Int:=if has l t=true then(l,11) else cN l most t v
def l9 (l:List (Rw G)) (t:Int):List (Rw G):=if has l t=true then l.eraseIdx (lbp l t) else l
theorem ov (t:Int):has ([]:List (Rw G)) t=false:=rfl
theorem fV {l:List (Rw G)} {t:Int} (h:has l t=true):lbp l t<l.length∧(l.getD (lbp l t) default).id=t:=by
 unfold has wE at h; simpa using h
theorem bh {α:Type} {d:α} {l:List α} {k:Nat} (h:k<l.length):l.getD k d=l[k]:=by
 rw[List.getD_eq_getElem?_getD,List.getElem?_eq_getElem h]; rfl
theorem mO {l:List (Rw G)} {most t:Int} (ok:Ok l most) (h:has l t=false):∀ k,lbp l t≤k→k<l.length→t<(l.getD k default).id:=by
 intro k h1 h2
 have h3:=(ok.lb t).hi k h1 h2
 unfold has wE at h
 have h4:¬(lbp l t<l.length∧(l.getD (lbp l t) default).id=t):=of_decide_eq_false h
 rcases Nat.eq_or_lt_of_le h1 with e|e
 ·subst e
  have:(l.getD (lbp l t) default).id≠t:=fun k=>h4 ⟨h2,k⟩
  omega
 ·have:=ok.get e h2
  have:=(ok.lb t).hi (lbp l t) (Nat.le_refl _) (by omega)
  omega
theorem Ok.put {l:List (Rw G)} {most:Int} (ok:Ok l most) (t:Int) (v:G):Ok (cN l most t v).1 most:=by
 unfold cN
 split
 ·split
  ·rename_i h
   obtain⟨h1,h2⟩:=fV h
   refine⟨?_,by simpa using ok.full,ok.big⟩
   rw[List.pairwise_iff_getElem]
   intro i j hi hj hij
   simp only[List.length_set] at hi hj
   have h3:=ok.get hij hj
   rw[bh hi,bh hj] at h3
   rw[bh h1] at h2
   simp only[List.getElem_set]
   split<;>split
   ·omega
   ·rename_i e _; subst e; simp only; omega
   ·rename_i _ e; subst e; simp only; omega
   ·exact h3
  ·split
   ·exact ok
   ·rename_i h h1
    refine⟨?_,by show((bC l (lbp l t) _).length:Int)≤most; rw[fN (show lbp l t≤l.length from List.findIdx_le_length)]; omega,ok.big⟩
    have hb:has l t=false:=by simpa using h
    have lb:=ok.lb t
    unfold bC
    rw[List.pairwise_append]
    refine⟨ok.rise.sublist (List.take_sublist _ _),List.pairwise_cons.2 ⟨fun a ha=>?_,ok.rise.sublist (List.drop_sublist _ _)⟩,fun a ha b hb'=>?_⟩
    ·obtain⟨k,hk,rfl⟩:=List.mem_iff_getElem.1 ha
     rw[List.length_drop] at hk
     rw[List.getElem_drop]
     have:=mO ok hb (lbp l t+k) (by omega) (by omega)
     rw[bh (by omega)] at this
     exact this
    ·obtain⟨k,hk,rfl⟩:=List.mem_iff_getElem.1 ha
     rw[List.length_take] at hk
     have h5:=lb.lo k (by omega)
     rw[bh (by omega)] at h5
     rw[List.getElem_take]
     rcases List.mem_cons.1 hb' with rfl|hb'
     ·exact h5
     ·obtain⟨m,hm,rfl⟩:=List.mem_iff_getElem.1 hb'
      rw[List.length_drop] at hm
      rw[List.getElem_drop]
      have:=mO ok hb (lbp l t+m) (by omega) (by omega)
      rw[bh (by omega)] at this
      omega
 ·exact ok
def bT (l:List (Rw G)):List (List PV):=l.map fun r=>[.U r.id]
end
theorem tB:∀ x∈([]:List PV),Low 0 x:=fun _ h=>nomatch h
theorem cU {k:IntKind} {n:Int}:∀ x∈[PV.int k n],Low 0 x:=fun _ h=>by rcases List.mem_singleton.1 h with rfl; exact .int _ _
theorem MS {J:List PV} {n:Nat} (h:aK J n):∀ y∈J,Low 2 y:=fun y hy=>(h.low y hy).up
theorem sQ {G:Type} (l:List (Rw G)) (t:Int):lbp l t≤l.length:=List.findIdx_le_length
structure Rr where
 tm:Int
 pl:List Int
 rt:Int
 wd:Int
 deriving DecidableEq
structure Se where
 pl:Int
 tm:Int
 nu:Int
 st:Int
 un:Int
 no:Int
 deriving DecidableEq
structure Mt where
 id:Int
 md:Int
 ins:Int
 rows:List Rr
 aa:List Se
 deriving DecidableEq
def rrc (r:Rr):List PV:=[.I r.tm,.list (r.pl.map u1) .no,.I r.rt,.I r.wd]
def stc (s:Se):List PV:=[.U s.pl,.I s.tm,.I s.nu,.I s.st,.I s.un,.int .u64 s.no]
theorem fA (r:Rr):(rrc r).length=4:=rfl
theorem bQ (s:Se):(stc s).length=6:=rfl
theorem KU {n:Nat} (l:List Int):Low n (.list (l.map u1) .no):=bq bO l
theorem bJ {n:Nat} (r:Rr):∀ y∈rrc r,Low n y:=by
 intro y hy
 simp only[rrc,List.mem_cons,List.not_mem_nil,or_false] at hy
 rcases hy with rfl|rfl|rfl|rfl<;>first|exact .int _ _|exact KU _
theorem dc {n:Nat} (s:Se):∀ y∈stc s,Low n y:=by
 intro y hy
 simp only[stc,List.mem_cons,List.not_mem_nil,or_false] at hy
 rcases hy with rfl|rfl|rfl|rfl|rfl|rfl<;>exact .int _ _
theorem rD (r:Rr):∀ y∈rrc r,y.one=true:=by
 intro y hy
 simp only[rrc,List.mem_cons,List.not_mem_nil,or_false] at hy
 rcases hy with rfl|rfl|rfl|rfl<;>rfl
theorem eB (s:Se):∀ y∈stc s,y.one=true:=by
 intro y hy
 simp only[stc,List.mem_cons,List.not_mem_nil,or_false] at hy
 rcases hy with rfl|rfl|rfl|rfl|rfl|rfl<;>rfl
theorem aR {n:Nat} (l:List Rr):Low n (.list (l.map rrc) .no):=bq bJ l
theorem dz {n:Nat} (l:List Se):Low n (.list (l.map stc) .no):=bq dc l
def Mt.pv (c:Mt):PV:= .agg [.U c.id,.I c.md,.U c.ins,.list (c.rows.map rrc) .no,.list (c.aa.map stc) .no]
instance rrInh:Inhabited Rr:=⟨⟨0,[],0,0⟩⟩
instance seInh:Inhabited Se:=⟨⟨0,0,0,0,0,0⟩⟩
instance mtInh:Inhabited Mt:=⟨⟨0,0,0,[],[]⟩⟩
abbrev RwM:=Rw Mt
def csM (r:RwM):List PV:=[.U r.id,.U r.v.id,.I r.v.md,.U r.v.ins,.list (r.v.rows.map rrc) .no,.list (r.v.aa.map stc) .no]
theorem dA (r:RwM):(csM r).length=6:=rfl
theorem mq {n:Nat} (r:RwM):∀ y∈csM r,Low n y:=by
 intro y hy
 simp only[csM,List.mem_cons,List.not_mem_nil,or_false] at hy
 rcases hy with rfl|rfl|rfl|rfl|rfl|rfl<;>first|exact .int _ _|exact .str _|exact aR _|exact dz _
theorem Ci (v:Mt):Low 0 (Mt.pv v):=by first|exact .int _ _|exact .str _|(refine .agg _ ?_; intro y hy; simp only[List.mem_cons,List.not_mem_nil,or_false] at hy; rcases hy with rfl|rfl|rfl|rfl|rfl<;>first|exact .int _ _|exact .str _|exact aR _|exact dz _)
theorem gS (v:Mt) (b:Bool):Low 0 (.tup [Mt.pv v,.bool b]):= .tup _ (by intro y hy; simp only[List.mem_cons,List.not_mem_nil,or_false] at hy; rcases hy with rfl|rfl; exact Ci v; exact .bool _)
theorem Gw (r:RwM):∀ y∈csM r,y.one=true:=by
 intro y hy
 simp only[csM,List.mem_cons,List.not_mem_nil,or_false] at hy
 rcases hy with rfl|rfl|rfl|rfl|rfl|rfl<;>rfl
abbrev flM (l:List RwM):List PV:=(l.map csM).flatten
theorem j7 (l:List RwM):(flM l).length=l.length*6:=bE dA l
theorem qb {l:List RwM} {k:Nat} (J:List PV) (h:k<l.length):List.drop (k*6) (flM l++J)=csM (l.getD k default)++(flM (l.drop (k+1))++J):=lc dA J default h
theorem jQ {n:Nat} (l:List RwM) {J:List PV} (h:∀ y∈J,Low n y):∀ y∈flM l++J,Low n y:=fH (fun a _=>mq a) h
theorem sV (l:List RwM) {J:List PV} (h:∀ y∈J,y.one=true):∀ y∈flM l++J,y.one=true:=by
 intro y hy
 rcases List.mem_append.1 hy with h1|h1
 ·obtain⟨c,h2,h3⟩:=List.mem_flatten.1 h1
  obtain⟨a,_,rfl⟩:=List.mem_map.1 h2
  exact Gw a y h3
 ·exact h y h1
def di (l:List RwM) (J:List PV) (cap:Nat) (most:Int):ae:=[.cells [.arr 1 0 l.length cap,.I most],.cells (flM l++J)]
def kA (most:Int):ae:=[.cells [.E,.I most]]
def EXM (l:List RwM) (most:Int) (H:ae):Prop:=
 (∃(J:List PV) (cap:Nat),H=di l J cap most∧l.length≤cap∧aK J ((cap-l.length)*6))∨(l=[]∧H=kA most)
theorem GN (r:RwM) (t:Int)  (K:PV→Prop) (h:K (.I (fU (Rw.id r) t))):AcK 100 [.agg (csM r),.U t] [] (fun x _=>K x):=
 acW (T:=TK) (L:=[]) (fun _=>0) Tryz.func100 (yy) (LOk.nil _ _ _ _ _) h
def Da (args:List PV) (K:PV→Prop):Prop:=∃(r:RwM) (t:Int),ah args [.agg (csM r),.U t]∧K (.I (fU r.id t))
theorem Ic:SpK 100 (.pure Da):=by
 rintro args K ⟨r,t,he,hk⟩
 have he:args=_:=he
 subst he
 exact cr aj (by intro y hy; simp only[List.mem_cons,List.not_mem_nil,or_false] at hy; rcases hy with rfl|rfl; exact .agg _ (mq r); exact .int _ _) (.int _ _) (GN r t (fun y=>y = .I (fU r.id t)) rfl) hk
def TCM:Tab:=(100,.pure Da)::TK
theorem oE:TbK TCM:= .cons Ic yy
theorem Hh (l:List RwM) (J:List PV) (cap:Nat) (most:Int) (t:Int) (i j:Nat):(by refine(?_:_→_→_→Prop) (Int.fdiv (IntKind.wrap .u64 (wI ((i:Int)+(j:Int)))) 2) (PV.arr 1 0 l.length cap) (PV.I l.length); exact fun b f g=>by refine(?_:_→_→_→Prop) (List.drop (0+Int.toNat (wI b)*6) (flM l++J)) [Ob.cells [f,.I most],.cells (flM l++J)] [PV.arr 1 0 l.length cap,.U t,.fn 100 [],g,.I i,.I j]; exact fun a c d=>∀(R:Ex→List PV→ae→Prop),(br (decide ((i:Int)<(j:Int))) ((0≤wI b∧wI b<(l.length:Int))∧br (true && aD [.int .u32,.int .u32,.int .i64,.int .u32,.list,.list] 0 a) (∃(r:RwM) (t_1:Int),ah [.agg [.U (cI a 0),.U (cI a 1),.I (cI a 2),.U (cI a 3),.list (cL a 4) (cT a 4),.list (cL a 5) (cT a 5)],.U t] [.agg [.U r.id,.U r.v.id,.I r.v.md,.U r.v.ins,.list (r.v.rows.map rrc) .no,.list (r.v.aa.map stc) .no],.U t_1]∧br (decide (fU r.id t_1<0)) (R .normal [f,.U t,.fn 100 [],g,.I (wI (wI b+1)),.I j] c) (R .normal [f,.U t,.fn 100 [],g,.I i,.I (wI b)] c)) False) (R (.exit 0) d c))→Holds (wpK TCM [] (fun _=>0) (ai [1,1,1,0,0] (ag Tryz.f99)) [] (ak [0,1,2,8,9,10] d) c (fun ex e H=>R ex (List.map e [0,1,2,8,9,10]) H)):Prop):=fun R h=>hoE h
theorem Gl (most t:Int):(by refine(?_:_→_→Prop) [PV.E,.U t,.fn 100 [],.I 0,.I 0,.I 0] [Ob.cells [.E,.I most]]; exact fun a b=>∀(R:Ex→List PV→ae→Prop),(R (.exit 0) a b)→Holds (wpK TCM [] (fun _=>0) (ai [1,1,1,0,0] (ag Tryz.f99)) [] (ak [0,1,2,8,9,10] a) b (fun ex e H=>R ex (List.map e [0,1,2,8,9,10]) H)):Prop):=fun R h=>hoE h
def J7:LSp:=fun e H Q=>∃(l:List RwM) (J:List PV) (cap:Nat) (most t:Int) (p:Nat),Lb l t p∧l.length≤1000000∧ah (List.map e [0,1,2,8,9,10]) [.arr 1 0 l.length cap,.U t,.fn 100 [],.I l.length,.I 0,.I l.length]∧av H (di l J cap most)∧
 Q (.exit 0) (ak [0,1,2,8,9,10] [.arr 1 0 l.length cap,.U t,.fn 100 [],.I l.length,.I p,.I p]) (di l J cap most)
theorem CT:∀ e H Q,J7 e H Q→AwK Tryz.f99.ntmps (.loop (ai [1,1,1,0,0] (ag Tryz.f99))) Q e H:=by
 rintro e H Q ⟨l,J,cap,most,t,p,hp,hl,he,hH,hQ⟩
 refine aB (hn:=fun _=>0) aj oE (.nil _ _ _ _ _) (σ:=Nat×Nat) [0,1,2,8,9,10] (fun s=>s.1≤p∧p≤s.2∧s.2≤l.length)
  (fun s=>[.arr 1 0 l.length cap,.U t,.fn 100 [],.I l.length,.I s.1,.I s.2]) (fun _=>di l J cap most) (fun s=>s.2-s.1) (0,l.length) ⟨Nat.zero_le _,hp.le,Nat.le_refl _⟩ he hH ?_
 rintro⟨i,j⟩ ⟨h1,h2,h3⟩
 simp only at h1 h2 h3
 refine Hh l J cap most t i j _ ?_
 simp only[au,dt]
 by_cases h:i<j
 ·rw[if_pos (by omega)]
  obtain⟨k,hk⟩:∃ k,k=(i+j) / 2:=⟨_,rfl⟩
  have e1:wI (Int.fdiv (IntKind.wrap .u64 (wI ((i:Int)+j))) 2)=(k:Int):=by
   rw[aF (n:=(i:Int)+j) (by omega) (by omega),wrap_u64 (by omega) (by omega),Int.fdiv_eq_ediv_of_nonneg _ (by decide),aF (by omega) (by omega)]
   omega
  simp only[e1,an,Nat.zero_add]
  have hkl:k<l.length:=by omega
  rw[qb J hkl]
  refine⟨⟨by omega,by omega⟩,?_⟩
  rw[if_pos (by rfl)]
  refine⟨l.getD k default,t,rfl,?_⟩
  by_cases c:fU (l.getD k default).id t<0
  ·rw[if_pos c]
   have hc:(l.getD k default).id<t:=by unfold fU at c; split at c; assumption; split at c<;>omega
   have hkp:k<p:=by
    rcases Nat.lt_or_ge k p with q|q
    ·exact q
    ·have:=hp.hi k q hkl; omega
   exact⟨(k+1,j),(show j-(k+1)<j-i by omega),⟨hkp,h2,h3⟩,by rw[ar hkl (by omega)],[],rfl,Nat.le_refl _,.inl rfl⟩
  ·rw[if_neg c]
   have hc:t≤(l.getD k default).id:=by unfold fU at c; split at c<;>omega
   have hkp:p≤k:=by
    rcases Nat.lt_or_ge k p with q|q
    ·have:=hp.lo k q; omega
    ·exact q
   exact⟨(i,k),(show k-i<j-i by omega),⟨h1,hkp,by omega⟩,rfl,[],rfl,Nat.le_refl _,.inl rfl⟩
 ·rw[if_neg (by omega)]
  have e1:i=p:=by omega
  have e2:j=p:=by omega
  subst e1
  subst e2
  exact hQ
def J6:LSp:=fun e H Q=>∃(most t:Int),ah (List.map e [0,1,2,8,9,10]) [.E,.U t,.fn 100 [],.I 0,.I 0,.I 0]∧av H (kA most)∧
 Q (.exit 0) (ak [0,1,2,8,9,10] [.E,.U t,.fn 100 [],.I 0,.I 0,.I 0]) (kA most)
theorem ED:∀ e H Q,J6 e H Q→AwK Tryz.f99.ntmps (.loop (ai [1,1,1,0,0] (ag Tryz.f99))) Q e H:=by
 rintro e H Q ⟨most,t,he,hH,hQ⟩
 refine aB (hn:=fun _=>0) aj oE (.nil _ _ _ _ _) (σ:=Unit) [0,1,2,8,9,10] (fun _=>True)
  (fun _=>[.E,.U t,.fn 100 [],.I 0,.I 0,.I 0]) (fun _=>kA most) (fun _=>0) () trivial he hH ?_
 intro _ _
 exact Gl most t _ hQ
theorem HL (l:List RwM) (J:List PV) (cap:Nat) (most:Int) (t:Int):(by refine(?_:_→_→Prop) (PV.arr 1 0 l.length cap) (PV.I l.length); exact fun g h=>by refine(?_:_→Prop) [Ob.cells [g,.I most],.cells (flM l++J)]; exact fun f=>∀(K:PV→ae→Prop),(∃(l_1:List RwM) (J_1:List PV) (cap_1:Nat) (most_1:Int) (t_1:Int) (p:Nat),by refine(?_:_→_→_→_→Prop) (List.drop (0+Int.toNat (p:Int)*6) (flM l_1++J_1)) (PV.arr 1 0 l_1.length cap_1) (PV.I l_1.length) (l_1.length:Int); exact fun a c d e=>by refine(?_:_→Prop) [Ob.cells [c,.I most_1],.cells (flM l_1++J_1)]; exact fun b=>Lb l_1 t_1 p∧l_1.length≤1000000∧ah [g,.U t,.fn 100 [],h,.I 0,h] [c,.U t_1,.fn 100 [],d,.I 0,d]∧av f b∧br (decide ((p:Int)<e) == true) ((0≤(p:Int)∧(p:Int)<e)∧br (true && aD [.int .u32,.int .u32,.int .i64,.int .u32,.list,.list] 0 a) (∃(r:RwM) (t:Int),ah [.agg [.U (cI a 0),.U (cI a 1),.I (cI a 2),.U (cI a 3),.list (cL a 4) (cT a 4),.list (cL a 5) (cT a 5)],.U t_1] [.agg [.U r.id,.U r.v.id,.I r.v.md,.U r.v.ins,.list (r.v.rows.map rrc) .no,.list (r.v.aa.map stc) .no],.U t]∧K (.tup [.I p,.bool (fU r.id t == 0)]) b) False) (K (.tup [.I p,.bool false]) b))→AcK 99 [g,.U t,.fn 100 []] f K:Prop):=fun K h=>acW (T:=TCM) (L:=[([1,1,1,0,0],J7)]) (fun _=>0) Tryz.func99 (oE) (.cons suE CT (.nil _ _ _ _ _)) h
theorem IB (most t:Int)  (K:PV→ae→Prop) (h:∃(most_1:Int) (t_1:Int),ah [.E,.U t,.fn 100 [],.I 0,.I 0,.I 0] [.E,.U t_1,.fn 100 [],.I 0,.I 0,.I 0]∧av [.cells [.E,.I most]] [.cells [.E,.I most_1]]∧K (.tup [.I 0,.bool false]) [.cells [.E,.I most_1]]):AcK 99 [.E,.U t,.fn 100 []] [.cells [.E,.I most]] K:=
 acW (T:=TCM) (L:=[([1,1,1,0,0],J6)]) (fun _=>0) Tryz.func99 (oE) (.cons suE ED (.nil _ _ _ _ _)) h
def Jl (args:List PV) (H:ae) (K:PV→Prop):Prop:=
 (∃(l:List RwM) (J:List PV) (cap:Nat) (most t:Int),ah args [.arr 1 0 l.length cap,.U t,.fn 100 []]∧av H (di l J cap most)∧Ok l most∧K (.tup [.I (lbp l t),.bool (has l t)]))∨
 (∃(most t:Int),ah args [.E,.U t,.fn 100 []]∧av H (kA most)∧K (.tup [.I 0,.bool false]))
theorem LK:SpK 99 (.read Jl):=by
 rintro args H K (⟨l,J,cap,most,t,he,hH,ok,hk⟩|⟨most,t,he,hH,hk⟩)
 ·have he:args=_:=he
  have hH:H=_:=hH
  subst he
  subst hH
  obtain⟨p,hpe⟩:∃ p,p=lbp l t:=⟨_,rfl⟩
  have hp:Lb l t p:=hpe▸ok.lb t
  unfold has at hk
  rw[← hpe] at hk
  refine⟨_,HL l J cap most t _ ⟨l,J,cap,most,t,p,hp,ok.len,rfl,rfl,?_⟩,hk⟩
  simp only[au,bt,dt]
  by_cases c:p<l.length
  ·rw[if_pos (by omega)]
   simp only[an,Nat.zero_add]
   rw[qb J c]
   refine⟨⟨by omega,by omega⟩,?_⟩
   rw[if_pos (by rfl)]
   refine⟨l.getD p default,t,rfl,?_,rfl⟩
   unfold wE
   have e:((fU (l.getD p default).id t) == 0)=decide (p<l.length∧(l.getD p default).id=t):=by
    rw[Bool.eq_iff_iff,beq_iff_eq,decide_eq_true_eq]
    unfold fU
    constructor
    ·intro h; refine⟨c,?_⟩; split at h; omega; split at h<;>omega
    ·rintro⟨_,h⟩; rw[if_neg (by omega),if_neg (by omega)]
   rw[e]
  ·rw[if_neg (by omega)]
   unfold wE
   rw[decide_eq_false (fun h=>c h.1)]
   exact⟨rfl,rfl⟩
 ·have he:args=_:=he
  have hH:H=_:=hH
  subst he
  subst hH
  exact⟨_,IB most t _ ⟨most,t,rfl,rfl,rfl,rfl⟩,hk⟩
def TBM:Tab:=(99,.read Jl)::TCM
theorem vX:TbK TBM:= .cons LK oE
theorem FQ (l:List RwM) (J:List PV) (cap:Nat) (most:Int) (t:Int):(by refine(?_:_→_→Prop) [Ob.cells [.arr 1 0 l.length cap,.I most],.cells (flM l++J)] [PV.arr 1 0 l.length cap,.U t,.fn 100 []]; exact fun a b=>∀(K:PV→ae→Prop),((∃(l_1:List RwM) (J_1:List PV) (cap_1:Nat) (most_1:Int) (t_1:Int),ah b [.arr 1 0 l_1.length cap_1,.U t_1,.fn 100 []]∧av a [.cells [.arr 1 0 l_1.length cap_1,.I most_1],.cells (flM l_1++J_1)]∧Ok l_1 most_1∧K (.tup [.I (↑(lbp l_1 t_1):Int),.bool (has l_1 t_1)]) a)∨∃(most_1:Int) (t_1:Int),ah b [.E,.U t_1,.fn 100 []]∧av a [.cells [.E,.I most_1]]∧K (.tup [.I 0,.bool false]) a)→AcK 68 [.ptr 0 0,.U t] a K:Prop):=fun K h=>acW (T:=TBM) (L:=[]) (fun o=>match o.op with| .load t _=>(match t with|146=>1|_=>0)|_=>0) Tryz.func68 (vX) (LOk.nil _ _ _ _ _) h
theorem GS (most t:Int):(by refine(?_:_→_→Prop) [Ob.cells [.E,.I most]] [PV.E,.U t,.fn 100 []]; exact fun a b=>∀(K:PV→ae→Prop),((∃(l:List RwM) (J:List PV) (cap:Nat) (most_1:Int) (t_1:Int),ah b [.arr 1 0 l.length cap,.U t_1,.fn 100 []]∧av a [.cells [.arr 1 0 l.length cap,.I most_1],.cells (flM l++J)]∧Ok l most_1∧K (.tup [.I (↑(lbp l t_1):Int),.bool (has l t_1)]) a)∨∃(most_1:Int) (t_1:Int),ah b [.E,.U t_1,.fn 100 []]∧av a [.cells [.E,.I most_1]]∧K (.tup [.I 0,.bool false]) a)→AcK 68 [.ptr 0 0,.U t] a K:Prop):=fun K h=>acW (T:=TBM) (L:=[]) (fun o=>match o.op with| .load t _=>(match t with|146=>1|_=>0)|_=>0) Tryz.func68 (vX) (LOk.nil _ _ _ _ _) h
def JB (args:List PV) (H:ae) (K:PV→Prop):Prop:=
 ∃(l:List RwM) (most t:Int),ah args [.ptr 0 0,.U t]∧EXM l most H∧Ok l most∧K (.tup [.I (lbp l t),.bool (has l t)])
theorem B1:SpK 68 (.read JB):=by
 rintro args H K ⟨l,most,t,he,hH,ok,hk⟩
 have he:args=_:=he
 subst he
 rcases hH with⟨J,cap,rfl,_,_⟩|⟨rfl,rfl⟩
 ·exact⟨_,FQ l J cap most t _ (.inl ⟨l,J,cap,most,t,rfl,rfl,ok,rfl,rfl⟩),hk⟩
 ·exact⟨_,GS most t _ (.inr ⟨most,t,rfl,rfl,rfl,rfl⟩),hk⟩
def TAM:Tab:=(68,.read JB)::TBM
theorem DE:TbK TAM:= .cons B1 vX
theorem wZ {l:List RwM} {J:List PV} {cap:Nat} {most:Int} (h:l.length≤cap) (hJ:aK J ((cap-l.length)*6)):EXM l most [.cells [.arr 1 0 l.length cap,.I most],.cells (flM l++J)]:= .inl ⟨J,cap,rfl,h,hJ⟩
theorem Fs {most:Int}:EXM [] most [.cells [.E,.I most]]:= .inr ⟨rfl,rfl⟩
def qg (l:List RwM) (most:Int) (H:ae):Prop:=∃ X G:ae,H=X++G∧EXM l most X
theorem jf {l:List RwM} {J:List PV} {cap:Nat} {most:Int} {n:Nat} (hn:2≤n) (h:∀ y∈J,Low 0 y):gN n (di l J cap most):=
 lO (fun y hy=>by simp only[List.mem_cons,List.not_mem_nil,or_false] at hy; rcases hy with rfl|rfl; exact .arr _ _ _ _ (by omega); exact .low (.int _ _)) (fun y hy=> .low (jQ l h y hy))
theorem lj {most:Int} {n:Nat}:gN n (kA most):=
 Cx (fun y hy=>by simp only[List.mem_cons,List.not_mem_nil,or_false] at hy; rcases hy with rfl|rfl; exact .low (aH NT.exact (fun _ h=>nomatch h)); exact .low (.int _ _))
def rM (args:List PV) (H:ae) (K:PV→Prop):Prop:=
 ∃(l:List RwM) (most t:Int),ah args [.ptr 0 0,.U t]∧qg l most H∧Ok l most∧K (.tup [.I (lbp l t),.bool (has l t)])
theorem rQ:SpK 68 (.read rM):=by
 rintro args H K ⟨l,most,t,he,⟨X,G,rfl,hX⟩,ok,hk⟩
 have he:args=_:=he
 subst he
 obtain⟨r,h1,rfl⟩:=B1 _ X (fun x=>x = .tup [.I (lbp l t),.bool (has l t)]) ⟨l,most,t,rfl,hX,ok,rfl⟩
 have hlow:Low 0 (.tup [.I (lbp l t),.bool (has l t)]):= .tup _ (by intro y hy; simp only[List.mem_cons,List.not_mem_nil,or_false] at hy; rcases hy with rfl|rfl; exact .int _ _; exact .bool _)
 refine⟨_,?_,hk⟩
 rcases hX with⟨J,cap,rfl,hc,hJ⟩|⟨rfl,rfl⟩
 ·exact j8 aj (by intro y hy; simp only[List.mem_cons,List.not_mem_nil,or_false] at hy; rcases hy with rfl|rfl; exact .ptr _ _ (by simp[di]); exact .low (.int _ _)) (jf (by simp[di]) hJ.low) hlow h1
 ·exact j8 aj (by intro y hy; simp only[List.mem_cons,List.not_mem_nil,or_false] at hy; rcases hy with rfl|rfl; exact .ptr _ _ (by simp[kA]); exact .low (.int _ _)) lj hlow h1
def Lr:Tab:=(68,.read rM)::TAM
theorem xD:TbK Lr:= .cons rQ DE
theorem Bi (l:List RwM) (J:List PV) (cap:Nat) (most:Int) (t:Int):(by refine(?_:_→_→_→_→Prop) [PV.arr 1 0 l.length cap,.I most] [PV.U 0,.I 0,.U 0,.E,.E] (Ob.cells (flM l++J)) [PV.ptr 0 0,.U t]; exact fun f g h i=>by refine(?_:_→Prop) [Ob.cells f,h,.cells g]; exact fun e=>∀(K:PV→ae→Prop),(∃(l_1:List RwM) (most_1:Int) (t_1:Int),by refine(?_:_→_→Prop) (↑(lbp l_1 t_1):Int) (PV.bool (has l_1 t_1)); exact fun c d=>by refine(?_:_→Prop) (List.drop (0+Int.toNat c*6+1) (flM l++J)); exact fun a=>by refine(?_:_→Prop) [PV.U (cI a 0),.I (cI a 1),.U (cI a 2),.list (cL a 3) (cT a 3),.list (cL a 4) (cT a 4)]; exact fun b=>ah i [.ptr 0 0,.U t_1]∧qg l_1 most_1 e∧Ok l_1 most_1∧br (has l_1 t_1) ((0≤c∧c<(l.length:Int))∧br (true && aD [.int .u32,.int .i64,.int .u32,.list,.list] 0 a) (K (.tup [.agg b,d]) [.cells f,h,.cells b]) False) (K (.tup [.agg g,d]) e))→AcK 35 i [.cells f,h] K:Prop):=fun K h=>acW (T:=Lr) (L:=[]) (fun o=>match o.op with| .load t _=>(match t with|146=>1|_=>0)|_=>0) Tryz.func35 (xD) (LOk.nil _ _ _ _ _) h
theorem AB (most t:Int):(by refine(?_:_→_→_→Prop) [PV.U 0,.I 0,.U 0,.E,.E] (Ob.cells [.E,.I most]) [PV.ptr 0 0,.U t]; exact fun a b c=>∀(K:PV→ae→Prop),(∃(l:List RwM) (most_1:Int) (t_1:Int),ah c [.ptr 0 0,.U t_1]∧qg l most_1 [b,.cells a]∧Ok l most_1∧br (has l t_1) (InL [] 6 (↑(lbp l t_1):Int)∧False) (K (.tup [.agg a,.bool (has l t_1)]) [b,.cells a]))→AcK 35 c [b] K:Prop):=fun K h=>acW (T:=Lr) (L:=[]) (fun o=>match o.op with| .load t _=>(match t with|146=>1|_=>0)|_=>0) Tryz.func35 (xD) (LOk.nil _ _ _ _ _) h
def Bh (args:List PV) (H:ae) (K:PV→Prop):Prop:=
 ∃(l:List RwM) (most t:Int),ah args [.ptr 0 0,.U t]∧EXM l most H∧Ok l most∧K (.tup [(let v:=bF l t; Mt.pv v),.bool (has l t)])
theorem rC:SpK 35 (.read Bh):=by
 rintro args H K ⟨l,most,t,he,hH,ok,hk⟩
 have he:args=_:=he
 subst he
 refine⟨_,ax.same (gS _ _).up (a9 ?_),hk⟩
 rcases hH with⟨J,cap,rfl,hc,hJ⟩|⟨rfl,rfl⟩
 ·refine Bi l J cap most t _ ⟨l,most,t,rfl,⟨_,[_],rfl,wZ hc hJ⟩,ok,?_⟩
  simp only[au]
  unfold bF
  cases c:has l t with
  | true=>
   obtain⟨c1,c2⟩:=fV c
   rw[if_pos rfl,if_pos rfl]
   simp only[an,Nat.zero_add]
   rw[← List.drop_drop,qb J c1]
   exact⟨⟨by omega,by omega⟩,by first|exact⟨_,.tup (.cons (.agg (.cons (.refl _) (.cons (.refl _) (.cons (.refl _) (.cons (.list _ _) (.cons (.list _ _) .nil)))))) (.cons (.refl _) .nil)),rfl,[_],rfl⟩|(rw[if_pos (by rfl)]; exact⟨_,.tup (.cons (.agg (.cons (.refl _) (.cons (.refl _) (.cons (.refl _) (.cons (.list _ _) (.cons (.list _ _) .nil)))))) (.cons (.refl _) .nil)),rfl,[_],rfl⟩)⟩
  | false=>rw[if_neg (by decide),if_neg (by decide)]; exact⟨_,.tup (.cons (.agg (.cons (.refl _) (.cons (.refl _) (.cons (.refl _) (.cons (.list _ _) (.cons (.list _ _) .nil)))))) (.cons (.refl _) .nil)),rfl,[_],rfl⟩
 ·refine AB most t _ ⟨[],most,t,rfl,⟨_,[_],rfl,Fs⟩,ok,?_⟩
  exact⟨_,.tup (.cons (.agg (.cons (.refl _) (.cons (.refl _) (.cons (.refl _) (.cons (.list _ _) (.cons (.list _ _) .nil)))))) (.cons (.refl _) .nil)),rfl,[_],rfl⟩
def TGM:Tab:=(35,.read Bh)::TAM
theorem vt:TbK TGM:= .cons rC DE
def FN (args:List PV) (H:ae) (K:PV→Prop):Prop:=
 ∃(l:List RwM) (most t:Int),ah args [.ptr 0 0,.U t]∧qg l most H∧Ok l most∧K (.tup [(let v:=bF l t; Mt.pv v),.bool (has l t)])
theorem IC:SpK 35 (.read FN):=by
 rintro args H K ⟨l,most,t,he,⟨X,G,rfl,hX⟩,ok,hk⟩
 have he:args=_:=he
 subst he
 obtain⟨r,h1,rfl⟩:=rC _ X (fun x=>x = .tup [(let v:=bF l t; Mt.pv v),.bool (has l t)]) ⟨l,most,t,rfl,hX,ok,rfl⟩
 refine⟨_,?_,hk⟩
 rcases hX with⟨J,cap,rfl,hc,hJ⟩|⟨rfl,rfl⟩
 ·exact j8 aj (by intro y hy; simp only[List.mem_cons,List.not_mem_nil,or_false] at hy; rcases hy with rfl|rfl; exact .ptr _ _ (by simp[di]); exact .low (.int _ _)) (jf (by simp[di]) hJ.low) (gS _ _) h1
 ·exact j8 aj (by intro y hy; simp only[List.mem_cons,List.not_mem_nil,or_false] at hy; rcases hy with rfl|rfl; exact .ptr _ _ (by simp[kA]); exact .low (.int _ _)) lj (gS _ _) h1
theorem I6:SpK 111 (.ext dP):=
 jm (t:=146) (e:=145) (b:=true) (sz:=6) Tryz.func111 (by kernel_rfl) (by kernel_rfl) (by kernel_rfl) (by kernel_rfl) (by kernel_rfl) (by kernel_rfl) (by kernel_rfl)
def TIM:Tab:=(111,.ext dP)::TGM
theorem EE:TbK TIM:= .cons I6 vt
theorem DC (l:List RwM) (J:List PV) (cap:Nat) (most:Int) (r:RwM) (p:Nat):(by refine(?_:_→_→_→_→_→_→_→_→_→Prop) ((p:Int)+(1:Int)) ((l.length:Int)+(1:Int)) (Int.toNat (l.length:Int)-Int.toNat (p:Int)) [PV.U r.id,.U r.v.id,.I r.v.md,.U r.v.ins,.list (r.v.rows.map rrc) .no,.list (r.v.aa.map stc) .no] [PV.U 0,.U 0,.I 0,.U 0,.E,.E] (Int.toNat (cap:Int)-0) (Ob.cells (flM l++J)) (Int.toNat (p:Int)-0) (PV.arr 1 0 l.length cap); exact fun i m q s t u z B D=>by refine(?_:_→_→_→_→_→_→Prop) s (↑u:Int) (List.take (q*6) (List.drop (if Int.toNat (cap:Int)=Int.toNat (p:Int) then 0 else 0+Int.toNat (p:Int)*6) (flM l++J))) (Ob.cells [D,.I most]) (wI m-(p:Int)) (Int.toNat (wI m)-0); exact fun g h j n w C=>by refine(?_:_→_→Prop) (↑C:Int) (Int.toNat (p:Int)-0+Int.toNat (wI w)); exact fun d f=>by refine(?_:_→_→_→_→Prop) (Int.toNat d-Int.toNat (p:Int)) (Int.toNat (↑f:Int)-Int.toNat (p:Int)) (Int.toNat (↑f:Int)-Int.toNat (wI i)) (Int.toNat d-Int.toNat (wI i)); exact fun o x y A=>by refine(?_:_→Prop) (List.take (o*6) (List.drop (if Int.toNat h=Int.toNat (p:Int) then if Int.toNat (cap:Int)=0 then 0 else 0 else(if Int.toNat (cap:Int)=0 then 0 else 0)+Int.toNat (p:Int)*6) (flM l++J))); exact fun e=>by refine(?_:_→Prop) (over (flM l++J) (if Int.toNat h=Int.toNat (wI i) then if Int.toNat (cap:Int)=0 then 0 else 0 else(if Int.toNat (cap:Int)=0 then 0 else 0)+Int.toNat (wI i)*6) (List.take (min o A*6) e)); exact fun k=>∀(K:PV→ae→Prop),((0≤(p:Int)∧(p:Int)≤(l.length:Int)∧(l.length:Int)≤(cap:Int)∧(cap:Int)≤(cap:Int))∧br ((p:Int) == (l.length:Int)) ((l.length≤cap∧0+cap*6≤List.length (flM l++J)∧6=6∧List.all g PV.one=true∧(l.length+1)*80≤140737488355328)∧(l.length+1≤cap→K (.arr 1 0 (l.length+1) cap) [n,.cells (over (flM l++J) (0+l.length*6) g)])∧(cap<l.length+1→∀(c:Nat),l.length+1≤c→K (.arr 2 0 (l.length+1) c) [n,z,.cells (List.take (l.length*6) (List.drop 0 (flM l++J))++g++List.flatten (List.replicate (c-(l.length+1)) t))])) (br (decide (wI m>(cap:Int))) ((iI 0≤0∧0≤(p:Int)∧(p:Int)≤(cap:Int)∧(cap:Int)≤(cap:Int))∧(Int.toNat (p:Int)-0≤Int.toNat (cap:Int)-0∧(if Int.toNat (cap:Int)=0 then 0 else 0)+u*6≤List.length (flM l++J)∧0≤wI w∧Int.toNat (cap:Int)-0<Int.toNat (p:Int)-0+Int.toNat (wI w)∧f*80≤140737488355328)∧∀(c:Nat),by refine(?_:_→Prop) (List.take (B*6) (List.drop (if Int.toNat (cap:Int)=0 then 0 else 0) (flM l++J))++List.flatten (List.replicate (c-B) t)); exact fun b=>by refine(?_:_→Prop) (over b (if Int.toNat (c:Int)=Int.toNat (p:Int) then 0 else 0+Int.toNat (p:Int)*6) (List.take (min 1 x*6) g)); exact fun a=>Int.toNat (p:Int)-0+Int.toNat (wI w)≤c→(0≤(p:Int)∧(p:Int)≤(↑f:Int)∧(↑f:Int)≤(c:Int)∧(c:Int)≤(c:Int))∧((if Int.toNat (c:Int)=Int.toNat (p:Int) then 0 else 0+Int.toNat (p:Int)*6)+x*6≤List.length b∧6=6∧List.all g PV.one=true)∧(0≤wI i∧wI i≤(↑f:Int)∧(↑f:Int)≤(c:Int)∧(c:Int)≤(c:Int))∧(0≤(p:Int)∧(p:Int)≤(l.length:Int)∧(l.length:Int)≤(cap:Int)∧(cap:Int)≤(cap:Int))∧(if Int.toNat (cap:Int)=Int.toNat (p:Int) then 0 else 0+Int.toNat (p:Int)*6)+q*6≤List.length (flM l++J)∧((if Int.toNat (c:Int)=Int.toNat (wI i) then 0 else 0+Int.toNat (wI i)*6)+y*6≤List.length a∧List.length j=q*6∧List.all j PV.one=true)∧K (.arr 2 0 f c) [n,z,.cells (over a (if Int.toNat (c:Int)=Int.toNat (wI i) then 0 else 0+Int.toNat (wI i)*6) (List.take (min q y*6) j))]) ((iI 0≤0∧0≤wI m∧wI m≤(cap:Int)∧(cap:Int)≤(cap:Int))∧(0≤wI i∧wI i≤d∧d≤h∧h≤h)∧s≠[]∧(flM l++J=[]→False)∧(0≤wI i∧wI i≤d∧d≤h∧h≤h)∧(0≤(p:Int)∧(p:Int)≤d∧d≤h∧h≤h)∧(if Int.toNat h=Int.toNat (p:Int) then if Int.toNat (cap:Int)=0 then 0 else 0 else(if Int.toNat (cap:Int)=0 then 0 else 0)+Int.toNat (p:Int)*6)+o*6≤List.length (flM l++J)∧((if Int.toNat h=Int.toNat (wI i) then if Int.toNat (cap:Int)=0 then 0 else 0 else(if Int.toNat (cap:Int)=0 then 0 else 0)+Int.toNat (wI i)*6)+A*6≤List.length (flM l++J)∧List.length e=o*6∧List.all e PV.one=true)∧(0≤(p:Int)∧(p:Int)≤d∧d≤h∧h≤h)∧((if Int.toNat h=Int.toNat (p:Int) then if Int.toNat (cap:Int)=0 then 0 else 0 else(if Int.toNat (cap:Int)=0 then 0 else 0)+Int.toNat (p:Int)*6)+o*6≤List.length k∧6=6∧List.all g PV.one=true)∧K (.arr 1 (if Int.toNat (cap:Int)=0 then 0 else 0) C u) [n,.cells (over k (if Int.toNat h=Int.toNat (p:Int) then if Int.toNat (cap:Int)=0 then 0 else 0 else(if Int.toNat (cap:Int)=0 then 0 else 0)+Int.toNat (p:Int)*6) (List.take (min 1 o*6) g))])))→AcK 97 [D,.I p,.list [csM r] .exact] [n,z] K:Prop):=fun K h=>acW (T:=TIM) (L:=[]) (fun o=>match o.op with| .load t _=>(match t with|146=>1|_=>0)|_=>match o.dst with|some 25=>2|_=>0) Tryz.func97 (EE) (LOk.nil _ _ _ _ _) h
theorem Bj (most:Int) (r:RwM):∀(K:PV→ae→Prop),((iI 0≤0∧iI 0≤0∧iI 0≤0∧iI 0≤0∧uni 6 [])∧6=6∧80≤140737488355328∧0<1∧∀(c:Nat),1≤c→K (.arr 1 0 1 c) [.cells [.E,.I most],.cells ([.U r.id,.U r.v.id,.I r.v.md,.U r.v.ins,.list (r.v.rows.map rrc) .no,.list (r.v.aa.map stc) .no]++List.flatten (List.replicate (c-1) [.U 0,.U 0,.I 0,.U 0,.E,.E]))])→AcK 97 [.E,.I 0,.list [csM r] .exact] [.cells [.E,.I most]] K:=fun K h=>acW (T:=TIM) (L:=[]) (fun o=>match o.op with| .load t _=>(match t with|146=>1|_=>0)|_=>match o.dst with|some 25=>2|_=>0) Tryz.func97 (EE) (LOk.nil _ _ _ _ _) h
def Ke (args:List PV) (H:ae) (K:PV→ae→Prop):Prop:=
 (∃(l:List RwM) (J:List PV) (cap:Nat) (most:Int) (r:RwM) (p:Nat),ah args [.arr 1 0 l.length cap,.I p,.list [csM r] .exact]∧av H (di l J cap most)∧p≤l.length∧l.length≤1000000∧l.length≤cap∧aK J ((cap-l.length)*6)∧
  (∀(J':List PV),l.length+1≤cap→aK J' ((cap-(l.length+1))*6)→K (.arr 1 0 (l.length+1) cap) [.cells [.arr 1 0 l.length cap,.I most],.cells (flM (bC l p r)++J')])∧
  (∀(c:Nat),l.length+1≤c→∀(J':List PV),aK J' ((c-(l.length+1))*6)→K (.arr 2 0 (l.length+1) c) [.cells [.arr 1 0 l.length cap,.I most],.cells (flM l++J),.cells (flM (bC l p r)++J')]))∨
 (∃(most:Int) (r:RwM),ah args [.E,.I 0,.list [csM r] .exact]∧av H (kA most)∧
  ∀(c:Nat),1≤c→∀(J':List PV),aK J' ((c-1)*6)→K (.arr 1 0 1 c) [.cells [.E,.I most],.cells (csM r++J')])
def zrM:List PV:=[.U 0,.U 0,.I 0,.U 0,.E,.E]
theorem jA (n:Nat):aK (List.replicate n zrM).flatten (n*6):=
 aK.q7 (z:=zrM) (by intro y hy; simp only[zrM,List.mem_cons,List.not_mem_nil,or_false] at hy; rcases hy with rfl|rfl|rfl|rfl|rfl|rfl<;>rfl) (by intro y hy; simp only[zrM,List.mem_cons,List.not_mem_nil,or_false] at hy; rcases hy with rfl|rfl|rfl|rfl|rfl|rfl<;>first|exact .int _ _|exact .str _|exact aH NT.exact (fun _ h=>nomatch h)) n
theorem wW:SpK 97 (.heap Ke):=by
 rintro args H K (⟨l,J,cap,most,r,p,he,hH,hp,hl,hc,hJ,hk1,hk2⟩|⟨most,r,he,hH,hk⟩)
 ·have he:args=_:=he
  have hH:H=_:=hH
  subst he
  subst hH
  have hlen:(flM l++J).length=cap*6:=by rw[List.length_append,j7,hJ.len,← Nat.add_mul]; congr 1; omega
  have hone:(flM l++J).all PV.one=true:=List.all_eq_true.2 (sV l hJ.one)
  refine DC l J cap most r p K ?_
  refine⟨⟨by omega,by omega,by omega,by omega⟩,?_⟩
  rw[au]
  by_cases c1:p=l.length
  ·rw[if_pos (by simp[c1])]
   subst c1
   refine⟨⟨hc,by rw[hlen]; omega,rfl,rfl,by omega⟩,fun h=>?_,fun h c hcc=>?_⟩
   ·have:=hk1 (J.drop 6) h (hJ.drop.cast (by omega))
    rw[← oq dA r (by rw[hJ.len]; omega)] at this
    rw[Nat.zero_add]
    exact this
   ·have:=hk2 c hcc _ (jA (c-(l.length+1)))
    rw[jL] at this
    rw[List.drop_zero,fu dA J l l.length (Nat.le_refl _),List.take_length]
    simp only[flM,List.map_append,List.flatten_append,List.map_cons,List.map_nil,List.flatten_cons,List.flatten_nil,List.append_nil] at this
    exact this
  ·rw[if_neg (by simp; omega),au]
   have e1:wI ((l.length:Int)+1)=((l.length+1:Nat):Int):=by rw[aF (by omega) (by omega)]; rfl
   have e2:wI (((l.length+1:Nat):Int)-(p:Int))=((l.length+1-p:Nat):Int):=by rw[aF (by omega) (by omega)]; omega
   have e3:wI ((p:Int)+1)=((p+1:Nat):Int):=by rw[aF (by omega) (by omega)]; rfl
   have e4:p+(l.length+1-p)=l.length+1:=by omega
   simp only[e1,e2,e3,e4,an,Nat.sub_zero,Nat.zero_add,List.drop_zero,ite_self]
   have t1:List.take (p*6) (flM l++J)=flM (l.take p):=fu dA J l p hp
   have t2:List.take ((l.length-p)*6) (List.drop (p*6) (flM l++J))=flM (l.drop p):=by
    rw[fq dA J l p hp,List.take_left']
    rw[j7,List.length_drop]
   have t3:min 1 (l.length+1-p)=1:=by omega
   have t5:(flM (l.drop p)).length=(l.length-p)*6:=by rw[j7,List.length_drop]
   have t6:(flM (l.drop p)).all PV.one=true:=by
    have:=sV (l.drop p) (J:=[]) (fun _ h=>nomatch h)
    rw[List.append_nil] at this
    exact List.all_eq_true.2 this
   have t7:(flM (l.take p)).length=p*6:=by rw[j7,List.length_take,Nat.min_eq_left hp]
   by_cases c2:cap<l.length+1
   ·rw[if_pos (decide_eq_true (by omega))]
    have n3:¬ cap=p:=by omega
    refine⟨⟨by decide,by omega,by omega,by omega⟩,⟨by omega,by omega,by omega,by omega,by omega⟩,fun c hcc=>?_⟩
    have t4:min (l.length-p) (l.length+1-(p+1))=l.length-p:=by omega
    have n1:¬ c=p:=by omega
    have n2:¬ c=p+1:=by omega
    have hZ:=jA (c-p)
    have t9:(flM (l.take p)++(List.replicate (c-p) zrM).flatten).length=c*6:=by rw[List.length_append,t7,hZ.len,← Nat.add_mul]; congr 1; omega
    simp only[if_neg n1,if_neg n2,if_neg n3,t1,t2,t3,t4,t5,t6]
    refine⟨⟨by omega,by omega,by omega,by omega⟩,⟨Nat.le_trans (show _≤c*6 by omega) (Nat.le_of_eq t9.symm),trivial,rfl⟩,⟨by omega,by omega,by omega,by omega⟩,⟨by omega,by omega,by omega,by omega⟩,by omega,⟨?_,trivial,trivial⟩,?_⟩
    ·have t10:(over (flM (l.take p)++(List.replicate (c-p) zrM).flatten) (p*6) (csM r)).length=c*6:=by rw[bG (by rw[t9,dA]; omega),t9]
     exact Nat.le_trans (show _≤c*6 by omega) (Nat.le_of_eq t10.symm)
    ·have:=hk2 c (by omega) _ ((hZ.drop (k:=(l.length+1-p)*6)).cast (by omega))
     rw[← p8 dA r hp (by rw[hZ.len]; omega)] at this
     rw[List.take_of_length_le (Nat.le_of_eq t5)]
     exact this
   ·rw[if_neg (by simp; omega)]
    have n3:¬ cap=p:=by omega
    have n4:¬ cap=p+1:=by omega
    have t9:min (l.length+1-p) (l.length+1-(p+1))=l.length-p:=by omega
    have t10:List.take ((l.length-p)*6) (List.take ((l.length+1-p)*6) (List.drop (p*6) (flM l++J)))=List.take ((l.length-p)*6) (List.drop (p*6) (flM l++J)):=by rw[List.take_take,Nat.min_eq_left (by omega)]
    simp only[if_neg n3,if_neg n4,t3,t9,t10]
    have t11:(List.take ((l.length+1-p)*6) (List.drop (p*6) (flM l++J))).length=(l.length+1-p)*6:=by rw[List.length_take,List.length_drop,hlen]; omega
    have t12:(List.take ((l.length+1-p)*6) (List.drop (p*6) (flM l++J))).all PV.one=true:=List.all_eq_true.2 fun y hy=>List.all_eq_true.1 hone y (List.mem_of_mem_drop (List.mem_of_mem_take hy))
    have t13:(over (flM l++J) ((p+1)*6) (List.take ((l.length-p)*6) (List.drop (p*6) (flM l++J)))).length=cap*6:=by rw[bG (by rw[t2,t5,hlen]; omega),hlen]
    refine⟨⟨by decide,by omega,by omega,by omega⟩,⟨by omega,by omega,by omega,by omega⟩,List.cons_ne_nil _ _,fun h=>?_,⟨by omega,by omega,by omega,by omega⟩,⟨by omega,by omega,by omega,by omega⟩,by omega,⟨by omega,t11,t12⟩,⟨by omega,by omega,by omega,by omega⟩,⟨by omega,trivial,rfl⟩,?_⟩
    ·rw[h] at hlen; simp only[List.length_nil] at hlen; omega
    ·have:=hk1 (J.drop 6) (by omega) (hJ.drop.cast (by omega))
     rw[← sk dA r (by omega) (by rw[hJ.len]; omega)] at this
     exact this
 ·have he:args=_:=he
  have hH:H=_:=hH
  subst he
  subst hH
  exact Bj most r K ⟨⟨by decide,by decide,by decide,by decide,fun _ h=>nomatch h⟩,rfl,by decide,by decide,fun c hc=>hk c hc _ (jA (c-1))⟩
theorem Gj (l:List RwM) (J:List PV) (cap:Nat) (most:Int) (p:Nat):(by refine(?_:_→_→_→Prop) (Int.toNat (l.length:Int)-Int.toNat (↑(p+1):Int)) (Int.toNat (cap:Int)-0) (PV.arr 1 0 l.length cap); exact fun a d j=>by refine(?_:_→_→_→Prop) (List.take (a*6) (List.drop (if Int.toNat (cap:Int)=Int.toNat (↑(p+1):Int) then 0 else 0+Int.toNat (↑(p+1):Int)*6) (flM l++J))) (Ob.cells [j,.I most]) (Int.toNat (p:Int)-0+a); exact fun b f g=>by refine(?_:_→_→_→Prop) (↑g:Int) (over (flM l++J) ((if Int.toNat (cap:Int)=0 then 0 else 0)+(Int.toNat (p:Int)-0)*6) b) [f,.cells (flM l++J)]; exact fun c e i=>by refine(?_:_→Prop) (Int.toNat (l.length:Int)-Int.toNat c); exact fun h=>∀(K:PV→ae→Prop),((0≤(p:Int)∧(p:Int)≤(↑(p+1):Int)∧(↑(p+1):Int)≤(l.length:Int)∧(l.length:Int)≤(cap:Int))∧br ((p:Int) == (↑(p+1):Int)) (K (.arr 1 0 l.length cap) i) ((iI 0≤0∧0≤(p:Int)∧(p:Int)≤(cap:Int)∧(cap:Int)≤(cap:Int))∧(0≤(↑(p+1):Int)∧(↑(p+1):Int)≤(l.length:Int)∧(l.length:Int)≤(cap:Int)∧(cap:Int)≤(cap:Int))∧(if Int.toNat (cap:Int)=Int.toNat (↑(p+1):Int) then 0 else 0+Int.toNat (↑(p+1):Int)*6)+a*6≤List.length (flM l++J)∧(Int.toNat (p:Int)-0≤Int.toNat (cap:Int)-0∧(if Int.toNat (cap:Int)=0 then 0 else 0)+d*6≤List.length (flM l++J)∧List.length b=a*6∧List.all b PV.one=true∧g*80≤140737488355328)∧Int.toNat (p:Int)-0+a≤Int.toNat (cap:Int)-0∧(0≤c∧c≤(l.length:Int)∧(l.length:Int)≤(↑d:Int)∧(↑d:Int)≤(↑d:Int))∧(if Int.toNat (↑d:Int)=Int.toNat c then if Int.toNat (cap:Int)=0 then 0 else 0 else(if Int.toNat (cap:Int)=0 then 0 else 0)+Int.toNat c*6)+h*6≤List.length e∧K (.arr 1 (if Int.toNat (cap:Int)=0 then 0 else 0) g d) [f,.cells (over e (if Int.toNat (↑d:Int)=Int.toNat c then if Int.toNat (cap:Int)=0 then 0 else 0 else(if Int.toNat (cap:Int)=0 then 0 else 0)+Int.toNat c*6) (List.flatten (List.replicate h [.U 0,.U 0,.I 0,.U 0,.E,.E])))]))→AcK 101 [j,.I p,.I ((p+1:Nat):Int)] i K:Prop):=fun K h=>acW (T:=[]) (L:=[]) (fun o=>match o.op with| .load t _=>(match t with|146=>1|_=>0)|_=>match o.dst with|some 26=>3|_=>0) Tryz.func101 (aX.nil _ _) (LOk.nil _ _ _ _ _) h
def yn (args:List PV) (H:ae) (K:PV→ae→Prop):Prop:=
 (∃(G:ae) (l:List RwM) (J:List PV) (cap:Nat) (most:Int) (r:RwM) (p:Nat),ah args [.arr 1 0 l.length cap,.I p,.list [csM r] .exact]∧av H (di l J cap most++G)∧p≤l.length∧l.length≤1000000∧l.length≤cap∧aK J ((cap-l.length)*6)∧
  (∀(J':List PV),l.length+1≤cap→aK J' ((cap-(l.length+1))*6)→K (.arr 1 0 (l.length+1) cap) ([.cells [.arr 1 0 l.length cap,.I most],.cells (flM (bC l p r)++J')]++G))∧
  (∀(c:Nat),l.length+1≤c→∀(J':List PV),aK J' ((c-(l.length+1))*6)→K (.arr (2+G.length) 0 (l.length+1) c) ([.cells [.arr 1 0 l.length cap,.I most],.cells (flM l++J)]++G++[.cells (flM (bC l p r)++J')])))∨
 (∃(G:ae) (most:Int) (r:RwM),ah args [.E,.I 0,.list [csM r] .exact]∧av H (kA most++G)∧
  ∀(c:Nat),1≤c→∀(J':List PV),aK J' ((c-1)*6)→K (.arr (1+G.length) 0 1 c) ([.cells [.E,.I most]]++G++[.cells (csM r++J')]))
theorem FG:SpK 97 (.heap yn):=by
 rintro args H K (⟨G,l,J,cap,most,r,p,he,hH,hp,hl,hc,hJ,hk1,hk2⟩|⟨G,most,r,he,hH,hk⟩)
 ·have he:args=_:=he
  have hH:H=_:=hH
  subst he
  subst hH
  refine gw aj (by intro y hy; simp only[List.mem_cons,List.not_mem_nil,or_false] at hy; rcases hy with rfl|rfl|rfl; exact .arr _ _ _ _ (by simp[di]); exact .low (.int _ _); exact .low (aH NT.exact (by intro y hy; simp at hy; exact mq r y hy))) (jf (by simp[di]) hJ.low) ?_
  refine wW _ _ _ (.inl ⟨l,J,cap,most,r,p,rfl,rfl,hp,hl,hc,hJ,fun J' h1 h2=>?_,fun c h1 J' h2=>?_⟩)
  ·exact⟨_,_,my rfl (lO (fun y hy=>by simp only[List.mem_cons,List.not_mem_nil,or_false] at hy; rcases hy with rfl|rfl; exact .arr _ _ _ _ (by simp[di]); exact .low (.int _ _)) (fun y hy=> .low (jQ _ h2.low y hy))),Lid.ren (.arr _ _ _ _ (by simp)) (fun o ho=>fo (by simpa[di] using ho)),hk1 J' h1 h2⟩
  ·exact⟨_,_,qS (X':=[.cells [.arr 1 0 l.length cap,.I most],.cells (flM l++J)]) rfl (jf (by simp[di]) hJ.low) (jQ _ h2.low),tU (X:=di l J cap most) (X':=[.cells [.arr 1 0 l.length cap,.I most],.cells (flM l++J)]) rfl,hk2 c h1 J' h2⟩
 ·have he:args=_:=he
  have hH:H=_:=hH
  subst he
  subst hH
  refine gw aj (by intro y hy; simp only[List.mem_cons,List.not_mem_nil,or_false] at hy; rcases hy with rfl|rfl|rfl; exact .low (aH NT.exact (fun _ h=>nomatch h)); exact .low (.int _ _); exact .low (aH NT.exact (by intro y hy; simp at hy; exact mq r y hy))) lj ?_
  refine wW _ _ _ (.inr ⟨most,r,rfl,rfl,fun c hc J' h2=>?_⟩)
  exact⟨_,_,qS (X':=[.cells [.E,.I most]]) rfl lj (by intro y hy; rcases List.mem_append.1 hy with hy|hy; exact mq r y hy; exact h2.low y hy),tU (X:=kA most) (X':=[.cells [.E,.I most]]) rfl,hk c hc J' h2⟩
def TPM:Tab:=(97,.heap yn)::(68,.read rM)::TGM
theorem sO:TbK TPM:= .cons FG (.cons rQ vt)
theorem FC (l:List RwM) (J:List PV) (cap:Nat) (most:Int) (t:Int) (v:Mt):(by refine(?_:_→_→_→_→Prop) (PV.list (v.aa.map stc) .no) (PV.list (v.rows.map rrc) .no) (PV.arr 1 0 l.length cap) (Ob.cells (flM l++J)); exact fun o q s u=>by refine(?_:_→_→Prop) [PV.U v.id,.I v.md,.U v.ins,q,o] [s,.I most]; exact fun k n=>by refine(?_:_→Prop) [Ob.cells n,u,.cells k]; exact fun m=>∀(K:PV→ae→Prop),(br (!aC t) (K (.I 14) m) (∃(l_1:List RwM) (most_1:Int) (t_1:Int),by refine(?_:_→Prop) (↑(lbp l_1 t_1):Int); exact fun i=>by refine(?_:_→_→Prop) [s,.I i,.list [[PV.U t,.U v.id,.I v.md,.U v.ins,q,o]] .exact] (0+Int.toNat i*6+1); exact fun h j=>ah [.ptr 0 0,.U t] [.ptr 0 0,.U t_1]∧qg l_1 most_1 m∧Ok l_1 most_1∧br (has l_1 t_1) ((0≤i∧i<(l.length:Int))∧br (5 == 5 && List.all k PV.one && decide (0+Int.toNat i*6+1+5≤List.length (flM l++J)) && cW 0 1 j 5) (K (.I 0) [.cells n,.cells (over (flM l++J) j k),.cells k]) False) (br (decide ((l.length:Int)≥most)) (K (.I 10) m) ((∃(G:ae) (l_2:List RwM) (J_1:List PV) (cap_1:Nat) (most_2:Int) (r:RwM) (p:Nat),by refine(?_:_→Prop) (PV.arr 1 0 l_2.length cap_1); exact fun d=>by refine(?_:_→Prop) (Ob.cells [d,.I most_2]); exact fun a=>by refine(?_:_→Prop) [a,.cells (flM l_2++J_1)]; exact fun b=>ah h [d,.I p,.list [[PV.U r.id,.U r.v.id,.I r.v.md,.U r.v.ins,.list (r.v.rows.map rrc) .no,.list (r.v.aa.map stc) .no]] .exact]∧av m (b++G)∧p≤l_2.length∧l_2.length≤1000000∧l_2.length≤cap_1∧aK J_1 ((cap_1-l_2.length)*6)∧(∀(J':List PV),l_2.length+1≤cap_1→aK J' ((cap_1-(l_2.length+1))*6)→K (.I 0) (List.set ([a,.cells (flM (bC l_2 p r)++J')]++G) 0 (.cells [.arr 1 0 (l_2.length+1) cap_1,.I most_2])))∧∀(c:Nat),l_2.length+1≤c→∀(J':List PV),aK J' ((c-(l_2.length+1))*6)→K (.I 0) (List.set (b++G++[.cells (flM (bC l_2 p r)++J')]) 0 (.cells [.arr (2+G.length) 0 (l_2.length+1) c,.I most_2])))∨∃(G:ae) (most_2:Int) (r:RwM),by refine(?_:_→_→_→Prop) [Ob.cells [.E,.I most_2]] (PV.list (r.v.aa.map stc) .no) (PV.list (r.v.rows.map rrc) .no); exact fun e f g=>ah h [.E,.I 0,.list [[PV.U r.id,.U r.v.id,.I r.v.md,.U r.v.ins,g,f]] .exact]∧av m (e++G)∧∀(c:Nat),1≤c→∀(J':List PV),aK J' ((c-1)*6)→K (.I 0) (List.set (e++G++[.cells ([.U r.id,.U r.v.id,.I r.v.md,.U r.v.ins,g,f]++J')]) 0 (.cells [.arr (1+G.length) 0 1 c,.I most_2]))))))→AcK 64 [.ptr 0 0,.U t,Mt.pv v] [.cells n,u] K:Prop):=fun K h=>acW (T:=TPM) (L:=[([1,1,1,1,0,0,1,1,1,1],Lc br Tryz.prog gl TPM (fun o=>match o.op with| .load t _=>(match t with|146=>1|_=>0)|_=>0) (b5 [1,1,1,1,0,0,1,1,1,1] (ag Tryz.f64)) 10 [0,1,2,3,4,5,6,7,8,9,11,12] [13])]) (fun o=>match o.op with| .load t _=>(match t with|146=>1|_=>0)|_=>0) Tryz.func64 (sO) (.cons (show sub [1,1,1,1,0,0,1,1,1,1] (ag Tryz.f64)=some (b5 [1,1,1,1,0,0,1,1,1,1] (ag Tryz.f64)) from by kernel_rfl) (xh sO (by kernel_rfl) (by kernel_rfl)) (.nil _ _ _ _ _)) h
theorem BG (most t:Int) (v:Mt):(by refine(?_:_→_→_→Prop) [PV.E,.I most] (PV.list (v.aa.map stc) .no) (PV.list (v.rows.map rrc) .no); exact fun k m n=>by refine(?_:_→Prop) [Ob.cells k,.cells [.U v.id,.I v.md,.U v.ins,n,m]]; exact fun j=>∀(K:PV→ae→Prop),(br (!aC t) (K (.I 14) j) (∃(l:List RwM) (most_1:Int) (t_1:Int),by refine(?_:_→Prop) (↑(lbp l t_1):Int); exact fun i=>by refine(?_:_→Prop) [PV.E,.I i,.list [[PV.U t,.U v.id,.I v.md,.U v.ins,n,m]] .exact]; exact fun h=>ah [.ptr 0 0,.U t] [.ptr 0 0,.U t_1]∧qg l most_1 j∧Ok l most_1∧br (has l t_1) (InL [] 6 i∧False) (br (decide (0≥most)) (K (.I 10) j) ((∃(G:ae) (l_1:List RwM) (J:List PV) (cap:Nat) (most_2:Int) (r:RwM) (p:Nat),by refine(?_:_→Prop) (PV.arr 1 0 l_1.length cap); exact fun d=>by refine(?_:_→Prop) (Ob.cells [d,.I most_2]); exact fun a=>by refine(?_:_→Prop) [a,.cells (flM l_1++J)]; exact fun b=>ah h [d,.I p,.list [[PV.U r.id,.U r.v.id,.I r.v.md,.U r.v.ins,.list (r.v.rows.map rrc) .no,.list (r.v.aa.map stc) .no]] .exact]∧av j (b++G)∧p≤l_1.length∧l_1.length≤1000000∧l_1.length≤cap∧aK J ((cap-l_1.length)*6)∧(∀(J':List PV),l_1.length+1≤cap→aK J' ((cap-(l_1.length+1))*6)→K (.I 0) (List.set ([a,.cells (flM (bC l_1 p r)++J')]++G) 0 (.cells [.arr 1 0 (l_1.length+1) cap,.I most_2])))∧∀(c:Nat),l_1.length+1≤c→∀(J':List PV),aK J' ((c-(l_1.length+1))*6)→K (.I 0) (List.set (b++G++[.cells (flM (bC l_1 p r)++J')]) 0 (.cells [.arr (2+G.length) 0 (l_1.length+1) c,.I most_2])))∨∃(G:ae) (most_2:Int) (r:RwM),by refine(?_:_→_→_→Prop) [Ob.cells [.E,.I most_2]] (PV.list (r.v.aa.map stc) .no) (PV.list (r.v.rows.map rrc) .no); exact fun e f g=>ah h [.E,.I 0,.list [[PV.U r.id,.U r.v.id,.I r.v.md,.U r.v.ins,g,f]] .exact]∧av j (e++G)∧∀(c:Nat),1≤c→∀(J':List PV),aK J' ((c-1)*6)→K (.I 0) (List.set (e++G++[.cells ([.U r.id,.U r.v.id,.I r.v.md,.U r.v.ins,g,f]++J')]) 0 (.cells [.arr (1+G.length) 0 1 c,.I most_2]))))))→AcK 64 [.ptr 0 0,.U t,Mt.pv v] [.cells k] K:Prop):=fun K h=>acW (T:=TPM) (L:=[([1,1,1,1,0,0,1,1,1,1],Lc br Tryz.prog gl TPM (fun o=>match o.op with| .load t _=>(match t with|146=>1|_=>0)|_=>0) (b5 [1,1,1,1,0,0,1,1,1,1] (ag Tryz.f64)) 10 [0,1,2,3,4,5,6,7,8,9,11,12] [13])]) (fun o=>match o.op with| .load t _=>(match t with|146=>1|_=>0)|_=>0) Tryz.func64 (sO) (.cons (show sub [1,1,1,1,0,0,1,1,1,1] (ag Tryz.f64)=some (b5 [1,1,1,1,0,0,1,1,1,1] (ag Tryz.f64)) from by kernel_rfl) (xh sO (by kernel_rfl) (by kernel_rfl)) (.nil _ _ _ _ _)) h
theorem Cu {l:List RwM} {J:List PV} {cap:Nat} {most:Int} (h:∀ y∈J,Low 2 y):∀(o:Nat) cs,(di l J cap most)[o]?=some (.cells cs)→∀ x∈cs,Low (di l J cap most).length x:=by
 intro o cs ho x hx
 have e1:=(List.getElem?_eq_some_iff.1 ho).1
 simp[di] at e1
 rcases Nat.eq_zero_or_pos o with rfl|h0
 ·cases ho
  simp only[List.mem_cons,List.not_mem_nil,or_false] at hx
  rcases hx with rfl|rfl
  ·exact .arr _ _ _ _ (by simp[di])
  ·exact .int _ _
 ·have:o=1:=by omega
  subst this
  cases ho
  exact jQ l h x hx
def rkM (l:List RwM) (most:Int):Rep:=whole (EXM l most)
theorem fz {l:List RwM} {J:List PV} {cap:Nat} {most:Int} {T:ae} {k:Nat} (hk:T[k]?=some (.cells (flM l++J))) (h:l.length≤cap) (hJ:aK J ((cap-l.length)*6)):ek (EXM l most) (.cells [.arr (k+1) 0 l.length cap,.I most]::T):=
 ⟨di l J cap most,_,x6 hk (fun y hy=>by rcases List.mem_singleton.1 hy with rfl; exact .int _ _) (jQ l hJ.low),rfl,.inl ⟨J,cap,rfl,h,hJ⟩,n9⟩
theorem jV {most:Int} {T:ae}:ek (EXM [] most) (.cells [.E,.I most]::T):=
 ⟨kA most,_,sub_one T (fun y hy=>by simp only[List.mem_cons,List.not_mem_nil,or_false] at hy; rcases hy with rfl|rfl; exact aH NT.exact (fun _ h=>nomatch h); exact .int _ _),rfl,.inr ⟨rfl,rfl⟩,n9⟩
theorem Cf {l:List RwM} {most:Int} {H:ae} (h:EXM l most H):ek (EXM l most) H:=by
 rcases h with⟨J,cap,rfl,hc,hJ⟩|⟨rfl,rfl⟩
 ·exact fz (k:=0) rfl hc hJ
 ·exact jV
def K4 (args:List PV) (H:ae) (K:PV→ae→Prop):Prop:=
 ∃(l:List RwM) (J:List PV) (cap:Nat) (most:Int) (p:Nat),ah args [.arr 1 0 l.length cap,.I p,.I ((p+1:Nat):Int)]∧av H (di l J cap most)∧p<l.length∧l.length≤1000000∧l.length≤cap∧aK J ((cap-l.length)*6)∧
  K (.arr 1 0 (l.length-1) cap) [.cells [.arr 1 0 l.length cap,.I most],.cells (flM (l.eraseIdx p)++(zrM++J))]
theorem HT:SpK 101 (.heap K4):=by
 rintro args H K ⟨l,J,cap,most,p,he,hH,hp,hl,hc,hJ,hk⟩
 have he:args=_:=he
 have hH:H=_:=hH
 subst he
 subst hH
 have hlen:(flM l++J).length=cap*6:=by rw[List.length_append,j7,hJ.len,← Nat.add_mul]; congr 1; omega
 have hone:(flM l++J).all PV.one=true:=List.all_eq_true.2 (sV l hJ.one)
 refine Gj l J cap most p K ?_
 refine⟨⟨by omega,by omega,by omega,by omega⟩,?_⟩
 rw[au,if_neg (by simp; omega)]
 have e4:p+(l.length-(p+1))=l.length-1:=by omega
 have e5:l.length-(l.length-1)=1:=by omega
 simp only[an,Nat.sub_zero,Nat.zero_add,ite_self,e4,e5]
 have n1:¬ cap=l.length-1:=by omega
 have t11:(List.take ((l.length-(p+1))*6) (List.drop (if cap=p+1 then 0 else(p+1)*6) (flM l++J)))=List.take ((l.length-(p+1))*6) (List.drop ((p+1)*6) (flM l++J)):=by
  split
  ·rw[show l.length-(p+1)=0 by omega,Nat.zero_mul,List.take_zero,List.take_zero]
  ·rfl
 have t12:(List.take ((l.length-(p+1))*6) (List.drop ((p+1)*6) (flM l++J))).length=(l.length-(p+1))*6:=by rw[List.length_take,List.length_drop,hlen]; omega
 have t13:(List.take ((l.length-(p+1))*6) (List.drop ((p+1)*6) (flM l++J))).all PV.one=true:=List.all_eq_true.2 fun y hy=>List.all_eq_true.1 hone y (List.mem_of_mem_drop (List.mem_of_mem_take hy))
 simp only[t11,if_neg n1,By dA hp]
 have hle:l.length-1=(l.eraseIdx p).length:=by rw[List.length_eraseIdx_of_lt hp]
 refine⟨⟨by decide,by omega,by omega,by omega⟩,⟨by omega,by omega,by omega,by omega⟩,by split<;>omega,⟨by omega,by omega,t12,t13,by omega⟩,by omega,⟨by omega,by omega,by omega,by omega⟩,?_,?_⟩
 ·simp only[List.length_append,bE dA,← hle,dA,hJ.len]; omega
 ·rw[hle]
  rw[hle] at hk
  rw[← zT (z:=zrM) dA (l.getLast (List.ne_nil_of_length_pos (by omega))) rfl] at hk
  exact hk
theorem NU {l:List RwM} {J:List PV} {p:Nat} {t:Int} {v:Mt} (hp:p<l.length) (ht:(l.getD p default).id=t):over (flM l++J) (p*6+1) (let r:RwM:=⟨t,v⟩; [.U r.v.id,.I r.v.md,.U r.v.ins,.list (r.v.rows.map rrc) .no,.list (r.v.aa.map stc) .no])=flM (l.set p ⟨t,v⟩)++J:=by
 have e1:flM l++J=(flM (l.take p)++[.U t])++(let r:RwM:=l.getD p default; [.U r.v.id,.I r.v.md,.U r.v.ins,.list (r.v.rows.map rrc) .no,.list (r.v.aa.map stc) .no])++(flM (l.drop (p+1))++J):=by
  unfold flM
  rw[fT l p,List.drop_eq_getElem_cons hp,List.map_cons,List.flatten_cons,← ht,bh hp]
  simp[csM]
 rw[cD e1 (by rw[List.length_append,bE dA,List.length_take,Nat.min_eq_left (by omega)]; rfl) (by rfl),List.set_eq_take_append_cons_drop,if_pos hp]
 simp[flM,csM]
def LZ (args:List PV) (H:ae) (K:PV→ae→Prop):Prop:=
 ∃(l:List RwM) (most t:Int) (v:Mt),ah args [.ptr 0 0,.U t,Mt.pv v]∧EXM l most H∧Ok l most∧∀(H':ae),ek (EXM (cN l most t v).1 most) H'→K (.I (cN l most t v).2) H'
theorem IS:SpK 64 (.heap LZ):=by
 rintro args H K ⟨l,most,t,v,he,hH,ok,hk⟩
 have he:args=_:=he
 subst he
 unfold cN at hk
 rcases hH with⟨J,cap,rfl,hc,hJ⟩|⟨rfl,rfl⟩
 ·have hlen:(flM l++J).length=cap*6:=by rw[List.length_append,j7,hJ.len,← Nat.add_mul]; congr 1; omega
  refine FC l J cap most t v K ?_
  rw[au]
  by_cases c:aC t=true
  ·rw[if_neg (by simp[c])]
   rw[if_pos c] at hk
   refine⟨l,most,t,rfl,⟨_,[_],rfl,wZ hc hJ⟩,ok,?_⟩
   simp only[au]
   by_cases c2:has l t=true
   ·rw[if_pos c2]
    rw[if_pos c2] at hk
    obtain⟨h1,h2⟩:=fV c2
    refine⟨⟨by omega,by omega⟩,?_⟩
    simp only[an,Nat.zero_add]
    rw[if_pos (by rw[decide_eq_true (by rw[hlen]; omega)]; rfl)]
    have h3:=fz (most:=most) (l:=l.set (lbp l t) ⟨t,v⟩) (J:=J) (cap:=cap) (k:=0) (T:=[.cells (flM (l.set (lbp l t) ⟨t,v⟩)++J),.cells [.U v.id,.I v.md,.U v.ins,.list (v.rows.map rrc) .no,.list (v.aa.map stc) .no]]) rfl (by simpa using hc) (by simpa using hJ)
    rw[List.length_set,← NU h1 h2] at h3
    exact hk _ h3
   ·rw[if_neg c2]
    rw[if_neg c2] at hk
    by_cases c3:(l.length:Int)≥most
    ·rw[if_pos (decide_eq_true c3)]
     rw[if_pos c3] at hk
     exact hk _ (fz (k:=0) rfl hc hJ)
    ·rw[if_neg (by simpa using c3)]
     rw[if_neg c3] at hk
     have hi:(bC l (lbp l t) ⟨t,v⟩).length=l.length+1:=fN (sQ l t)
     refine .inl ⟨[.cells [.U v.id,.I v.md,.U v.ins,.list (v.rows.map rrc) .no,.list (v.aa.map stc) .no]],l,J,cap,most,⟨t,v⟩,lbp l t,rfl,rfl,sQ l t,ok.len,hc,hJ,fun J' h1 h2=>?_,fun c h1 J' h2=>?_⟩
     ·rw[← hi]
      exact hk _ (fz (k:=0) rfl (by rw[hi]; exact h1) (by rw[hi]; exact h2))
     ·have:=hk _ (fz (l:=bC l (lbp l t) ⟨t,v⟩) (J:=J') (cap:=c) (most:=most) (k:=2) (T:=[.cells (flM l++J),.cells [.U v.id,.I v.md,.U v.ins,.list (v.rows.map rrc) .no,.list (v.aa.map stc) .no],.cells (flM (bC l (lbp l t) ⟨t,v⟩)++J')]) rfl (by rw[hi]; exact h1) (by rw[hi]; exact h2))
      rw[hi] at this
      exact this
  ·rw[if_pos (by simpa using c)]
   rw[if_neg c] at hk
   exact hk _ (fz (k:=0) rfl hc hJ)
 ·refine BG most t v K ?_
  rw[au]
  by_cases c:aC t=true
  ·rw[if_neg (by simp[c])]
   rw[if_pos c,ov,if_neg (by decide)] at hk
   refine⟨[],most,t,rfl,⟨_,[_],rfl,Fs⟩,ok,?_⟩
   rw[ov]
   simp only[au]
   rw[if_neg (by decide)]
   by_cases c3:0≥most
   ·rw[if_pos (decide_eq_true c3)]
    rw[if_pos (by simpa using c3)] at hk
    exact hk _ jV
   ·rw[if_neg (by simpa using c3)]
    rw[if_neg (by simpa using c3)] at hk
    refine .inr ⟨[.cells [.U v.id,.I v.md,.U v.ins,.list (v.rows.map rrc) .no,.list (v.aa.map stc) .no]],most,⟨t,v⟩,rfl,rfl,fun c hc J' hJ=>?_⟩
    exact hk _ (fz (l:=[⟨t,v⟩]) (k:=1) rfl hc hJ)
  ·rw[if_pos (by simpa using c)]
   rw[if_neg c] at hk
   exact hk _ jV
def x9 (args:List PV) (H:ae) (K:PV→ae→Prop):Prop:=
 ∃(v:Mt) (l:List RwM) (J:List PV) (cap:Nat) (most:Int) (p:Nat),ah args [.arr 1 0 l.length cap,.I p,.I ((p+1:Nat):Int)]∧av H (di l J cap most++[.cells [.U 0,.I 0,.U 0,.E,.E],.cells [.U v.id,.I v.md,.U v.ins,.list (v.rows.map rrc) .no,.list (v.aa.map stc) .no]])∧p<l.length∧l.length≤1000000∧l.length≤cap∧aK J ((cap-l.length)*6)∧
  K (.arr 1 0 (l.length-1) cap) ([.cells [.arr 1 0 l.length cap,.I most],.cells (flM (l.eraseIdx p)++(zrM++J))]++[.cells [.U 0,.I 0,.U 0,.E,.E],.cells [.U v.id,.I v.md,.U v.ins,.list (v.rows.map rrc) .no,.list (v.aa.map stc) .no]])
theorem Ff:SpK 101 (.heap x9):=by
 rintro args H K ⟨v,l,J,cap,most,p,he,hH,hp,hl,hc,hJ,hk⟩
 have he:args=_:=he
 have hH:H=_:=hH
 subst he
 subst hH
 refine gw aj (by intro y hy; simp only[List.mem_cons,List.not_mem_nil,or_false] at hy; rcases hy with rfl|rfl|rfl; exact .arr _ _ _ _ (by simp[di]); exact .low (.int _ _); exact .low (.int _ _)) (jf (by simp[di]) hJ.low) ?_
 refine HT _ _ _ ⟨l,J,cap,most,p,rfl,rfl,hp,hl,hc,hJ,?_⟩
 have hz:=(jA 1).low
 simp only[List.replicate,List.flatten_cons,List.flatten_nil,List.append_nil] at hz
 exact⟨_,_,my rfl (lO (fun y hy=>by simp only[List.mem_cons,List.not_mem_nil,or_false] at hy; rcases hy with rfl|rfl; exact .arr _ _ _ _ (by simp[di]); exact .low (.int _ _)) (fun y hy=> .low (jQ _ (fun y hy=>by rcases List.mem_append.1 hy with hy|hy; exact hz y hy; exact hJ.low y hy) y hy))),Lid.ren (.arr _ _ _ _ (by simp)) (fun o ho=>fo (by simpa[di] using ho)),hk⟩
def TDM:Tab:=(101,.heap x9)::(68,.read rM)::(35,.read FN)::TGM
theorem Bc:TbK TDM:= .cons Ff (.cons rQ (.cons IC vt))
theorem DH (l:List RwM) (J:List PV) (cap:Nat) (most:Int) (t:Int):(by refine(?_:_→_→_→_→Prop) (Ob.cells [.U 0,.I 0,.U 0,.E,.E]) [PV.arr 1 0 l.length cap,.I most] (Ob.cells (flM l++J)) [PV.ptr 0 0,.U t]; exact fun f g h i=>∀(K:PV→ae→Prop),(∃(l_1:List RwM) (most_1:Int) (t_1:Int),by refine(?_:_→_→Prop) [PV.U (Mt.id (bF l_1 t_1)),.I (Mt.md (bF l_1 t_1)),.U (Mt.ins (bF l_1 t_1)),.list (List.map rrc (Mt.rows (bF l_1 t_1))) .no,.list (List.map stc (Mt.aa (bF l_1 t_1))) .no] (PV.bool (has l_1 t_1)); exact fun c e=>by refine(?_:_→Prop) [Ob.cells g,h,f,.cells c]; exact fun d=>ah i [.ptr 0 0,.U t_1]∧qg l_1 most_1 [.cells g,h,f]∧Ok l_1 most_1∧br (has l_1 t_1) (∃(l_2:List RwM) (most_2:Int) (t_2:Int),ah i [.ptr 0 0,.U t_2]∧qg l_2 most_2 d∧Ok l_2 most_2∧∃(v:Mt) (l_3:List RwM) (J_1:List PV) (cap_1:Nat) (most_3:Int) (p:Nat),by refine(?_:_→_→Prop) [PV.U v.id,.I v.md,.U v.ins,.list (v.rows.map rrc) .no,.list (v.aa.map stc) .no] (PV.arr 1 0 l_3.length cap_1); exact fun a b=>ah [.arr 1 0 l.length cap,.I (↑(lbp l_2 t_2):Int),.I (wI ((↑(lbp l_2 t_2):Int)+1))] [b,.I p,.I (↑(p+1):Int)]∧av d [.cells [b,.I most_3],.cells (flM l_3++J_1),f,.cells a]∧p<l_3.length∧l_3.length≤1000000∧l_3.length≤cap_1∧aK J_1 ((cap_1-l_3.length)*6)∧K (.tup [.agg a,e]) [.cells [.arr 1 0 (l_3.length-1) cap_1,.I most_3],.cells (flM (List.eraseIdx l_3 p)++([.U 0,.U 0,.I 0,.U 0,.E,.E]++J_1)),.cells a,.cells a]) (K (.tup [.agg c,e]) [.cells g,h,.cells c,.cells c]))→AcK 71 i [.cells g,h] K:Prop):=fun K h=>acW (T:=TDM) (L:=[]) (fun o=>match o.op with| .load t _=>(match t with|146=>1|_=>0)|_=>0) Tryz.func71 (Bc) (LOk.nil _ _ _ _ _) h
theorem CL (most t:Int):(by refine(?_:_→_→_→Prop) [PV.U 0,.I 0,.U 0,.E,.E] [PV.E,.I most] [PV.ptr 0 0,.U t]; exact fun f g h=>∀(K:PV→ae→Prop),(∃(l:List RwM) (most_1:Int) (t_1:Int),by refine(?_:_→Prop) [PV.U (Mt.id (bF l t_1)),.I (Mt.md (bF l t_1)),.U (Mt.ins (bF l t_1)),.list (List.map rrc (Mt.rows (bF l t_1))) .no,.list (List.map stc (Mt.aa (bF l t_1))) .no]; exact fun d=>by refine(?_:_→Prop) [Ob.cells g,.cells f,.cells d]; exact fun e=>ah h [.ptr 0 0,.U t_1]∧qg l most_1 [.cells g,.cells f]∧Ok l most_1∧br (has l t_1) (∃(l_1:List RwM) (most_2:Int) (t_2:Int),ah h [.ptr 0 0,.U t_2]∧qg l_1 most_2 e∧Ok l_1 most_2∧∃(v:Mt) (l_2:List RwM) (J:List PV) (cap:Nat) (most_3:Int) (p:Nat),by refine(?_:_→_→_→Prop) (flM (List.eraseIdx l_2 p)++([.U 0,.U 0,.I 0,.U 0,.E,.E]++J)) (Ob.cells [.U v.id,.I v.md,.U v.ins,.list (v.rows.map rrc) .no,.list (v.aa.map stc) .no]) (PV.arr 1 0 l_2.length cap); exact fun a b c=>ah [.E,.I (↑(lbp l_1 t_2):Int),.I (wI ((↑(lbp l_1 t_2):Int)+1))] [c,.I p,.I (↑(p+1):Int)]∧av e [.cells [c,.I most_3],.cells (flM l_2++J),.cells f,b]∧p<l_2.length∧l_2.length≤1000000∧l_2.length≤cap∧aK J ((cap-l_2.length)*6)∧br (true && decide (5≤List.length a) && cW 0 1 0 5) (K (.tup [.agg f,.bool (has l t_1)]) [.cells [.arr 1 0 (l_2.length-1) cap,.I most_3],.cells (over a 0 f),.cells f,b]) False) (K (.tup [.agg d,.bool (has l t_1)]) [.cells g,.cells d,.cells d]))→AcK 71 h [.cells g] K:Prop):=fun K h=>acW (T:=TDM) (L:=[]) (fun o=>match o.op with| .load t _=>(match t with|146=>1|_=>0)|_=>0) Tryz.func71 (Bc) (LOk.nil _ _ _ _ _) h
theorem GJ (n:Int)  (K:PV→ae→Prop) (h:K (.ptr 0 0) [.cells [.E,.I (mxI 0 n)]]):AcK 49 [.I n] [] K:=
 acW (T:=[]) (L:=[]) (fun _=>0) Tryz.func49 (aX.nil _ _) (LOk.nil _ _ _ _ _) h
theorem Fm (l:List RwM) (J:List PV) (cap:Nat) (most:Int):(by refine(?_:_→_→_→_→Prop) (List.drop 0 (flM l++J)) (PV.arr 1 0 l.length cap) (Ob.cells (flM l++J)) (PV.I l.length); exact fun a b g h=>by refine(?_:_→_→_→_→Prop) [PV.ptr 0 0,.E,b,h,.I 0] (Ob.cells [b,.I most]) [[PV.U (cI a 0)]] (PV.U (cI a 0)); exact fun c d f i=>∀(R:Ex→List PV→ae→Prop),(br (decide (0<(l.length:Int))) ((iI 0≤0∧0<(l.length:Int))∧br (true && aD [.int .u32,.int .u32,.int .i64,.int .u32,.list,.list] 0 a) (aG [] f 1 4∧(List.all [i] PV.one=true∧f≠[])∧R .normal [.ptr 0 0,.list f (.tok 3),b,h,.I 1] [d,g,.cells [i,.U (cI a 1),.I (cI a 2),.U (cI a 3),.list (cL a 4) (cT a 4),.list (cL a 5) (cT a 5)],.tok]) False) (R (.exit 0) c [d,g]))→Holds (wpK [] [] (fun o=>match o.op with| .load t _=>(match t with|146=>1|_=>0)|_=>match o.dst with|some 21=>1|_=>0) (ai [1,1,0,1,0,1,0] (ag Tryz.f67)) [] (ak [0,3,11,12,13] c) [d,g] (fun ex e H=>R ex (List.map e [0,3,11,12,13]) H)):Prop):=fun R h=>hoE h
theorem C4 (l:List RwM) (J:List PV) (cap:Nat) (most:Int) (es:List (List PV)) (i:Nat):(by refine(?_:_→_→_→_→Prop) (List.drop (0+Int.toNat (i:Int)*6) (flM l++J)) (PV.arr 1 0 l.length cap) (Ob.cells (flM l++J)) (PV.I l.length); exact fun a b h j=>by refine(?_:_→_→_→_→Prop) [PV.ptr 0 0,.list es (.tok 2),b,j,.I i] [[PV.U (cI a 0)]] [b,.I most] (PV.U (cI a 0)); exact fun c f g k=>by refine(?_:_→Prop) [Ob.cells g,h,.tok]; exact fun d=>∀(R:Ex→List PV→ae→Prop),(br (decide ((i:Int)<(l.length:Int))) ((0≤(i:Int)∧(i:Int)<(l.length:Int))∧br (true && aD [.int .u32,.int .u32,.int .i64,.int .u32,.list,.list] 0 a) (aG es f 1 4∧(List.all [k] PV.one=true∧f≠[])∧R .normal [.ptr 0 0,.list (es++f) (.tok 4),b,j,.I (wI ((i:Int)+1))] [.cells g,h,.dead,.cells [k,.U (cI a 1),.I (cI a 2),.U (cI a 3),.list (cL a 4) (cT a 4),.list (cL a 5) (cT a 5)],.tok]) False) (R (.exit 0) c d))→Holds (wpK [] [] (fun o=>match o.op with| .load t _=>(match t with|146=>1|_=>0)|_=>match o.dst with|some 21=>1|_=>0) (ai [1,1,0,1,0,1,0] (ag Tryz.f67)) [] (ak [0,3,11,12,13] c) d (fun ex e H=>R ex (List.map e [0,3,11,12,13]) H)):Prop):=fun R h=>hoE h
theorem DI (most:Int):(by refine(?_:_→_→Prop) [PV.ptr 0 0,.E,.E,.I 0,.I 0] [Ob.cells [.E,.I most]]; exact fun a b=>∀(R:Ex→List PV→ae→Prop),(R (.exit 0) a b)→Holds (wpK [] [] (fun o=>match o.op with| .load t _=>(match t with|146=>1|_=>0)|_=>0) (ai [1,1,0,1,0,1,0] (ag Tryz.f67)) [] (ak [0,3,11,12,13] a) b (fun ex e H=>R ex (List.map e [0,3,11,12,13]) H)):Prop):=fun R h=>hoE h
theorem NJ (l:List RwM):uni 1 (bT l):=by
 intro e he
 obtain⟨a,_,rfl⟩:=List.mem_map.1 he
 rfl
theorem rp {l:List RwM} {i:Nat} (h:i<l.length):bT (l.take (i+1))=bT (l.take i)++[[.U (l.getD i default).id]]:=by
 unfold bT
 rw[← List.take_append_getElem h,List.map_append,bh h]; rfl
def CF:LSp:=fun e H Q=>∃(l:List RwM) (J:List PV) (cap:Nat) (most:Int),l.length≤1000000∧(∀ y∈J,Low 2 y)∧ah (List.map e [0,3,11,12,13]) [.ptr 0 0,.E,.arr 1 0 l.length cap,.I l.length,.I 0]∧av H (di l J cap most)∧
 Q (.exit 0) (ak [0,3,11,12,13] [.ptr 0 0,.list (bT l) .no,.arr 1 0 l.length cap,.I l.length,.I l.length]) (di l J cap most++[.dead])
theorem zN:∀ e H Q,CF e H Q→AwK Tryz.f67.ntmps (.loop (ai [1,1,0,1,0,1,0] (ag Tryz.f67))) Q e H:=by
 rintro e H Q ⟨l,J,cap,most,hl,hJ,he,hH,hQ⟩
 have hH2:H=di l J cap most:=hH
 refine r5 (f:=fun r:RwM=>[PV.U r.id]) (T:=l) (hn:=fun o=>match o.op with| .load t _=>(match t with|146=>1|_=>0)|_=>match o.dst with|some 21=>1|_=>0) aj (.nil _ _) (.nil _ _ _ _ _) [0,3,11,12,13] (fun r i=>[.ptr 0 0,r,.arr 1 0 l.length cap,.I l.length,.I i]) (di l J cap most)
  (Cu hJ) (fun b _ x hx=>by rcases List.mem_singleton.1 hx with rfl; exact .int _ _)
  (fun es i k h=> .same (.ptr _ _ (by simp[di])) (.row h (.same (.arr _ _ _ _ (by simp[di])) (.same (.int _ _) (.same (.int _ _) .nil))))) he hH2 ?_ ?_
 ·refine Fm l J cap most _ ?_
  simp only[au,dt]
  by_cases h:0<l.length
  ·rw[if_pos (by omega)]
   refine⟨⟨by decide,by omega⟩,?_⟩
   have e0:=qb J h
   rw[Nat.zero_mul] at e0
   rw[e0,if_pos (by rfl)]
   refine⟨⟨(by intro e he; simp at he),(by intro e he; simp at he; subst he; rfl),by simp⟩,⟨by rfl,by simp⟩,h,_,3,rfl,rfl,by simp[di],?_⟩
   have:=rp h
   unfold bT at this
   rw[this]; rfl
  ·rw[if_neg (by omega)]
   have hm:l=[]:=List.eq_nil_of_length_eq_zero (by omega)
   subst hm
   exact⟨_,_,.cons (.refl _) (.cons (.list _ _) (.cons (.refl _) (.cons (.refl _) (.cons (.refl _) .nil)))),dg _,hQ⟩
 ·intro i h0 hi
  refine C4 l J cap most (bT (l.take i)) i _ ?_
  simp only[au,dt,an,Nat.zero_add]
  by_cases h:i<l.length
  ·rw[if_pos (by omega)]
   refine⟨⟨by omega,by omega⟩,?_⟩
   rw[qb J h,if_pos (by rfl)]
   refine⟨⟨NJ _,(by intro e he; simp at he; subst he; rfl),by simp only[bT,List.length_map,List.length_take,List.length_cons,List.length_nil]; omega⟩,⟨by rfl,by simp⟩,h,_,4,rfl,rfl,by simp[di],?_⟩
   have:=rp h
   unfold bT at this
   rw[this,ar h (by omega)]; rfl
  ·rw[if_neg (by omega)]
   have hm:i=l.length:=by omega
   subst hm
   rw[List.take_length]
   exact⟨_,_,.cons (.refl _) (.cons (.list _ _) (.cons (.refl _) (.cons (.refl _) (.cons (.refl _) .nil)))),dK (di l J cap most) .tok,hQ⟩
def Co:LSp:=fun e H Q=>∃(most:Int),ah (List.map e [0,3,11,12,13]) [.ptr 0 0,.E,.E,.I 0,.I 0]∧av H (kA most)∧
 Q (.exit 0) (ak [0,3,11,12,13] [.ptr 0 0,.E,.E,.I 0,.I 0]) (kA most)
theorem z9:∀ e H Q,Co e H Q→AwK Tryz.f67.ntmps (.loop (ai [1,1,0,1,0,1,0] (ag Tryz.f67))) Q e H:=by
 rintro e H Q ⟨most,he,hH,hQ⟩
 refine aB (hn:=fun o=>match o.op with| .load t _=>(match t with|146=>1|_=>0)|_=>0) aj (.nil _ _) (.nil _ _ _ _ _) (σ:=Unit) [0,3,11,12,13] (fun _=>True)
  (fun _=>[.ptr 0 0,.E,.E,.I 0,.I 0]) (fun _=>kA most) (fun _=>0) () trivial he hH ?_
 intro _ _
 exact DI most _ hQ
theorem Ce (l:List RwM) (J:List PV) (cap:Nat) (most:Int):(by refine(?_:_→Prop) (PV.arr 1 0 l.length cap); exact fun e=>by refine(?_:_→Prop) [Ob.cells [e,.I most],.cells (flM l++J)]; exact fun d=>∀(K:PV→ae→Prop),(∃(l_1:List RwM) (J_1:List PV) (cap_1:Nat) (most_1:Int),by refine(?_:_→_→Prop) (PV.arr 1 0 l_1.length cap_1) (Ob.cells (flM l_1++J_1)); exact fun b c=>by refine(?_:_→Prop) (Ob.cells [b,.I most_1]); exact fun a=>l_1.length≤1000000∧(∀(y:PV),y∈J_1→Low 2 y)∧ah [.ptr 0 0,.E,e,.I l.length,.I 0] [.ptr 0 0,.E,b,.I l_1.length,.I 0]∧av d [a,c]∧K (.list (bT l_1) .no) [a,c,.dead])→AcK 67 [.ptr 0 0] d K:Prop):=fun K h=>acW (T:=[]) (L:=[([1,1,0,1,0,1,0],CF)]) (fun o=>match o.op with| .load t _=>(match t with|146=>1|_=>0)|_=>0) Tryz.func67 (aX.nil _ _) (.cons suE zN (.nil _ _ _ _ _)) h
theorem D8 (most:Int):(by refine(?_:_→_→Prop) [PV.ptr 0 0,.E,.E,.I 0,.I 0] [Ob.cells [.E,.I most]]; exact fun b c=>∀(K:PV→ae→Prop),(∃(most_1:Int),by refine(?_:_→Prop) [Ob.cells [.E,.I most_1]]; exact fun a=>ah b b∧av c a∧K (.E) a)→AcK 67 [.ptr 0 0] c K:Prop):=fun K h=>acW (T:=[]) (L:=[([1,1,0,1,0,1,0],Co)]) (fun o=>match o.op with| .load t _=>(match t with|146=>1|_=>0)|_=>0) Tryz.func67 (aX.nil _ _) (.cons suE z9 (.nil _ _ _ _ _)) h
theorem NK {l:List RwM} {most t:Int} {hh:ae} (hH:EXM l most hh) (ok:Ok l most):AcK 71 [.ptr 0 0,.U t] hh (fun x H'=>x = .tup [(let v:=bF l t; Mt.pv v),.bool (has l t)]∧ek (EXM (l9 l t) most) H'):=by
 have hfull:=ok.len
 rcases hH with⟨J,cap,rfl,hc,hJ⟩|⟨rfl,rfl⟩
 ·refine DH l J cap most t _ ⟨l,most,t,rfl,⟨_,[_],rfl,wZ hc hJ⟩,ok,?_⟩
  simp only[au]
  unfold l9
  by_cases c:has l t=true
  ·obtain⟨c1,c2⟩:=fV c
   rw[if_pos c,if_pos c]
   refine⟨l,most,t,rfl,⟨_,[_,_],rfl,wZ hc hJ⟩,ok,bF l t,l,J,cap,most,lbp l t,(by show _=_; rw[ar c1 (by omega)]),rfl,c1,ok.len,hc,hJ,by first|rfl|trivial,?_⟩
   have hle:l.length-1=(l.eraseIdx (lbp l t)).length:=by rw[List.length_eraseIdx_of_lt c1]
   rw[hle]
   exact fz (k:=0) rfl (by omega) (((jA 1).app hJ |> fun h=>by
    simp only[List.replicate,List.flatten_cons,List.flatten_nil,List.append_nil] at h
    exact h.cast (by omega)))
  ·rw[if_neg c,if_neg c]
   exact⟨by first|rfl|trivial,fz (k:=0) rfl hc hJ⟩
 ·refine CL most t _ ⟨[],most,t,rfl,⟨_,[_],rfl,Fs⟩,ok,?_⟩
  exact⟨rfl,jV⟩
theorem MY {l:List RwM} {most:Int} {hh:ae} (hH:EXM l most hh) (ok:Ok l most):AcK 67 [.ptr 0 0] hh (fun x H'=>x = .list (bT l) .no∧ek (EXM l most) H'):=by
 rcases hH with⟨J,cap,rfl,hc,hJ⟩|⟨rfl,rfl⟩
 ·exact Ce l J cap most _ ⟨l,J,cap,most,ok.len,MS hJ,rfl,rfl,rfl,fz (k:=0) rfl hc hJ⟩
 ·exact iv (D8 most _ ⟨most,rfl,rfl,_,_,.list _ _,.refl _,rfl,jV⟩)
def vV (args:List PV) (H:ae) (K:PV→Prop):Prop:=∃(q:Nat) (l:List RwM) (most t:Int),ah args [.ptr q 0,.U t]∧bU H q (rkM l most)∧Ok l most∧K (.tup [(let v:=bF l t; Mt.pv v),.bool (has l t)])
theorem yz:SpK 35 (.read vV):=by
 rintro args H K ⟨q,l,most,t,he,ha,ok,hk⟩
 have he:args=_:=he
 subst he
 refine⟨_,jI aj ha cU (gS _ _) (fun hh h=>?_),hk⟩
 obtain⟨r,h1,h2⟩:=rC _ hh (fun x=>x = .tup [(let v:=bF l t; Mt.pv v),.bool (has l t)]) ⟨l,most,t,rfl,h,ok,rfl⟩
 exact aM h1 fun x H' e=>⟨e.1.trans h2,e.2▸Cf h⟩
def iD (args:List PV) (H:ae) (K:PV→ae→Prop):Prop:=match args with
 | .ptr q 0::rest=>∃(l:List RwM) (most t:Int) (v:Mt) (t1 t2:Tail),ah rest [.int .u32 t,.agg [.int .u32 v.id,.int .i64 v.md,.int .u32 v.ins,.list (v.rows.map rrc) t1,.list (v.aa.map stc) t2]]∧bU H q (rkM l most)∧Ok l most∧K (.int .i64 (cN l most t v).2) (H.set q (.abs (rkM (cN l most t v).1 most)))
 | _=>False
theorem xe:SpK 64 (.heap iD):=by
 intro args H K h
 unfold iD at h
 split at h
 ·rename_i q rest
  obtain⟨l,most,t,v,t1,t2,he,ha,ok,hk⟩:=h
  have he:rest=_:=he
  subst he
  refine bj (.cons (.refl _) (.cons (.refl _) (.cons (.agg (.cons (.refl _) (.cons (.refl _) (.cons (.refl _) (.cons (.list _ _) (.cons (.list _ _) .nil)))))) .nil))) ?_
  refine j6 aj ha (by intro y hy; simp only[List.mem_cons,List.not_mem_nil,or_false] at hy; rcases hy with rfl|rfl; exact .int _ _; exact Ci v) (.int _ _) (fun hh h=>?_) hk
  exact IS _ hh _ ⟨l,most,t,v,rfl,h,ok,fun H' h'=>⟨rfl,h'⟩⟩
 ·exact h.elim
def AG (args:List PV) (H:ae) (K:PV→ae→Prop):Prop:=∃ n:Int,ah args [.I n]∧K (.ptr H.length 0) (H++[.abs (rkM [] (mxI 0 n))])
theorem FW:SpK 49 (.heap AG):=by
 rintro args H K ⟨n,he,hk⟩
 have he:args=_:=he
 subst he
 exact aM (qR aj cU (GJ n _ ⟨rfl,jV⟩)) fun _ _ e=>e.1▸e.2▸hk
def FI (args:List PV) (H:ae) (K:PV→Prop):Prop:=∃(q:Nat) (l:List RwM) (most:Int),ah args [.ptr q 0]∧bU H q (rkM l most)∧Ok l most∧K (.list (bT l) .no)
theorem Dn (l:List RwM):Low 0 (.list (bT l) .no):=aH NT.no (by
 intro x hx
 obtain⟨c,h1,h2⟩:=List.mem_flatten.1 hx
 obtain⟨r,_,rfl⟩:=List.mem_map.1 h1
 rcases List.mem_singleton.1 h2 with rfl
 exact .int _ _)
theorem IG:SpK 67 (.read FI):=by
 rintro args H K ⟨q,l,most,he,ha,ok,hk⟩
 have he:args=_:=he
 subst he
 exact⟨_,jI aj ha tB (Dn l) (fun hh h=>MY h ok),hk⟩
def kF (args:List PV) (H:ae) (K:PV→ae→Prop):Prop:=match args with
 | .ptr q 0::rest=>∃(l:List RwM) (most t:Int),ah rest [.int .u32 t]∧bU H q (rkM l most)∧Ok l most∧K (.tup [(let v:=bF l t; Mt.pv v),.bool (has l t)]) (H.set q (.abs (rkM (l9 l t) most)))
 | _=>False
theorem HP:SpK 71 (.heap kF):=by
 intro args H K h
 unfold kF at h
 split at h
 ·rename_i q rest
  obtain⟨l,most,t,he,ha,ok,hk⟩:=h
  have he:rest=_:=he
  subst he
  exact j6 aj ha cU (gS _ _) (fun hh h=>NK h ok) hk
 ·exact h.elim
def TQM:Tab:=[(35,.read vV),(64,.heap iD)]
theorem K7:TbK TQM:= .cons yz (.cons xe (.nil _ _))
theorem Ht (l:List RwM) (most t:Int) (v:Mt):(by refine(?_:_→Prop) [PV.U v.id,.I v.md,.U v.ins,.list (v.rows.map rrc) .no,.list (v.aa.map stc) .no]; exact fun c=>∀(K:PV→ae→Prop),(∃(q:Nat) (l_1:List RwM) (most_1:Int) (t_1:Int),by refine(?_:_→Prop) (Ob.cells [.U (Mt.id (bF l_1 t_1)),.I (Mt.md (bF l_1 t_1)),.U (Mt.ins (bF l_1 t_1)),.list (List.map rrc (Mt.rows (bF l_1 t_1))) .no,.list (List.map stc (Mt.aa (bF l_1 t_1))) .no]); exact fun a=>by refine(?_:_→Prop) [Ob.abs (rkM l most),.cells c,a]; exact fun b=>ah [.ptr 0 0,.U t] [.ptr q 0,.U t_1]∧bU [.abs (rkM l most),.cells c] q (rkM l_1 most_1)∧Ok l_1 most_1∧br (has l_1 t_1) (K (.I 11) b) (∃(l_2:List RwM) (most_2:Int) (t_2:Int) (v_1:Mt) (t1:Tail) (t2:Tail),ah [.U t,.agg c] [.U t_2,.agg [.U v_1.id,.I v_1.md,.U v_1.ins,.list (v_1.rows.map rrc) t1,.list (v_1.aa.map stc) t2]]∧bU b 0 (rkM l_2 most_2)∧Ok l_2 most_2∧K (.I (Prod.snd (cN l_2 most_2 t_2 v_1))) [.abs (rkM (Prod.fst (cN l_2 most_2 t_2 v_1)) most_2),.cells c,a]))→AcK 57 [.ptr 0 0,.U t,Mt.pv v] [.abs (rkM l most)] K:Prop):=fun K h=>acW (T:=TQM) (L:=[]) (fun _=>0) Tryz.func57 (K7) (LOk.nil _ _ _ _ _) h
def kx (args:List PV) (H:ae) (K:PV→ae→Prop):Prop:=match args with
 | .ptr q 0::rest=>∃(l:List RwM) (most t:Int) (v:Mt) (t1 t2:Tail),ah rest [.int .u32 t,.agg [.int .u32 v.id,.int .i64 v.md,.int .u32 v.ins,.list (v.rows.map rrc) t1,.list (v.aa.map stc) t2]]∧bU H q (rkM l most)∧Ok l most∧K (.int .i64 (tI l most t v).2) (H.set q (.abs (rkM (tI l most t v).1 most)))
 | _=>False
theorem xw:SpK 57 (.heap kx):=by
 intro args H K h
 unfold kx at h
 split at h
 ·rename_i q rest
  obtain⟨l,most,t,v,t1,t2,he,ha,ok,hk⟩:=h
  have he:rest=_:=he
  subst he
  refine bj (.cons (.refl _) (.cons (.refl _) (.cons (.agg (.cons (.refl _) (.cons (.refl _) (.cons (.refl _) (.cons (.list _ _) (.cons (.list _ _) .nil)))))) .nil))) ?_
  refine uv aj ha (by intro y hy; simp only[List.mem_cons,List.not_mem_nil,or_false] at hy; rcases hy with rfl|rfl; exact .int _ _; exact Ci v) (.int _ _) (Ht l most t v _ ⟨0,l,most,t,rfl,rfl,ok,?_⟩) hk
  unfold tI
  rw[au]
  by_cases c:has l t=true
  ·rw[if_pos c,if_pos c]
   exact⟨rfl,_,rfl⟩
  ·rw[if_neg c,if_neg c]
   exact⟨l,most,t,v,.no,.no,rfl,rfl,ok,rfl,_,rfl⟩
 ·exact h.elim
theorem o7:SpK 64 (.chg iD):=by
 intro args H K h
 unfold iD at h
 split at h
 ·obtain⟨l,most,t,v,t1,t2,he,ha,ok,hk⟩:=h
  exact⟨_,_,xe _ H (fun x H1=>x=_∧H1=_) (by unfold iD; exact⟨l,most,t,v,t1,t2,he,ha,ok,⟨rfl,rfl⟩⟩),hk⟩
 ·exact h.elim
theorem uq:SpK 71 (.chg kF):=by
 intro args H K h
 unfold kF at h
 split at h
 ·obtain⟨l,most,t,he,ha,ok,hk⟩:=h
  exact⟨_,_,HP _ H (fun x H1=>x=_∧H1=_) (by unfold kF; exact⟨l,most,t,he,ha,ok,⟨rfl,rfl⟩⟩),hk⟩
 ·exact h.elim
def TMM (T:Tab):Tab:=(35,.read vV)::(64,.chg iD)::(57,.heap kx)::(71,.chg kF)::(67,.read FI)::(49,.heap AG)::T
theorem EH {T:Tab} (h:TbK T):TbK (TMM T):=(.cons yz (.cons o7 (.cons xw (.cons uq (.cons IG (.cons FW h))))))
theorem ed {α:Type} {p:α→Bool} {l:List α} {i:Nat} (d:α) (hi:i≤l.findIdx p) (h:i<l.length) (c:p (l.getD i d)=true):l.findIdx p=i:=by
 rcases Nat.eq_or_lt_of_le hi with e|e
 ·exact e.symm
 ·exfalso
  have:=List.not_of_lt_findIdx e
  rw[bh h] at c
  rw[c] at this
  cases this
theorem ec {α:Type} {p:α→Bool} {l:List α} {i:Nat} (d:α) (hi:i≤l.findIdx p) (h:i<l.length) (c:p (l.getD i d)=false):i<l.findIdx p:=by
 rcases Nat.eq_or_lt_of_le hi with e|e
 ·exfalso
  subst e
  have:=List.findIdx_getElem (p:=p) (xs:=l) (w:=h)
  rw[bh h,this] at c
  cases c
 ·exact e
section
variable {G:Type}
def fiW (w:List (Rw G)) (t:Int):Nat:=w.findIdx fun r=>r.id == t
def iO (w:List (Rw G)) (t:Int):Int:=if fiW w t<w.length then fiW w t else -1
def eT (w:List (Rw G)) (t:Int):Bool:=decide (fiW w t<w.length)
def bL (w:List (Rw G)) (t:Int):List (Rw G):=w.filter fun r=>r.id != t
def iU (w:List (Rw G)) (m t:Int) (v:G):List (Rw G)×Int:=
 if aC t=true then if eT w t=false∧(w.length:Int)≥m then(w,10) else(bL w t++[⟨t,v⟩],0) else(w,14)
def ep (t b:Int) (r:Rw G):Int:=if r.id>t then(if b=0 then r.id else if r.id<b then r.id else b) else b
def ct (w:List (Rw G)) (t:Int):Int:=w.foldl (ep t) 0
theorem Ea {l:List (Rw G)} {most:Int} (ok:Ok l most) {r s:Rw G} (hr:r∈l) (hs:s∈l) (e:r.id=s.id):r=s:=by
 obtain⟨i,hi,rfl⟩:=List.mem_iff_getElem.1 hr
 obtain⟨j,hj,rfl⟩:=List.mem_iff_getElem.1 hs
 rcases Nat.lt_trichotomy i j with c|c|c
 ·have:=List.pairwise_iff_getElem.1 ok.rise i j hi hj c; omega
 ·subst c; rfl
 ·have:=List.pairwise_iff_getElem.1 ok.rise j i hj hi c; omega
theorem CB {w:List (Rw G)} {t:Int}:eT w t=true↔∃ r∈w,r.id=t:=by
 unfold eT fiW
 rw[decide_eq_true_eq,List.findIdx_lt_length]
 simp
structure bY (l w:List (Rw G)) (most:Int):Prop where
 ok:Ok l most
 perm:l.Perm w
 pos:∀ r∈l,aC r.id=true
theorem bY.len {l w:List (Rw G)} {most:Int} (h:bY l w most):w.length=l.length:=h.perm.length_eq.symm
def nf (w:List (Rw G)) (t c:Int):Prop:=(c=0∧∀ r∈w,r.id≤t)∨(t<c∧(∃ r∈w,r.id=c)∧∀ s∈w,t<s.id→c≤s.id)
theorem nf.MX {l w:List (Rw G)} {t c c':Int} (h:nf l t c) (h':nf w t c') (e:∀ r,r∈l↔r∈w):c=c':=by
 rcases h with⟨rfl,h1⟩|⟨h1,⟨r,h2,h3⟩,h4⟩<;>rcases h' with⟨rfl,k1⟩|⟨k1,⟨s,k2,k3⟩,k4⟩
 ·rfl
 ·have:=h1 s ((e s).2 k2); omega
 ·have:=k1 r ((e r).1 h2); omega
 ·have:=h4 s ((e s).2 k2) (by omega)
  have:=k4 r ((e r).1 h2) (by omega)
  omega
theorem gb {t:Int} (h:aC t=true):1≤t:=by unfold aC at h; have:=of_decide_eq_true h; omega
theorem oY (t:Int):∀(w:List (Rw G)) (b:Int),(∀ r∈w,1≤r.id)→
  (w.foldl (ep t) b=0∧b=0∧∀ r∈w,r.id≤t)∨(w.foldl (ep t) b≠0∧(w.foldl (ep t) b=b∨(t<w.foldl (ep t) b∧∃ r∈w,r.id=w.foldl (ep t) b))∧(b≠0→w.foldl (ep t) b≤b)∧∀ s∈w,t<s.id→w.foldl (ep t) b≤s.id)
 | [],b,_=>by
  by_cases hb:b=0
  ·exact .inl ⟨hb,hb,fun _ h=>nomatch h⟩
  ·exact .inr ⟨hb,.inl rfl,fun _=>Int.le_refl _,fun _ h=>nomatch h⟩
 | r::w,b,hp=>by
  have h1:=hp r (by simp)
  have hs:(ep t b r=b∨ep t b r=r.id)∧(ep t b r≠b→t<r.id)∧(b≠0→ep t b r≤b)∧(t<r.id→ep t b r≤r.id∧ep t b r≠0):=by
   unfold ep
   by_cases c1:r.id>t
   ·rw[if_pos c1]
    by_cases c2:b=0
    ·rw[if_pos c2]; omega
    ·rw[if_neg c2]
     by_cases c3:r.id<b
     ·rw[if_pos c3]; omega
     ·rw[if_neg c3]; omega
   ·rw[if_neg c1]; omega
  have ih:=oY t w (ep t b r) (fun s hs=>hp s (by simp[hs]))
  rw[List.foldl_cons]
  generalize List.foldl (ep t) (ep t b r) w=c at ih
  generalize ep t b r=s' at hs ih
  obtain⟨a1,a2,a3,a4⟩:=hs
  rcases ih with⟨h2,h3,h4⟩|⟨h2,h3,h4,h5⟩
  ·refine .inl ⟨h2,by omega,fun q hq=>?_⟩
   rcases List.mem_cons.1 hq with rfl|hq
   ·omega
   ·exact h4 q hq
  ·refine .inr ⟨h2,?_,fun hb=>by clear h3 h5; omega,fun q hq htq=>?_⟩
   ·rcases h3 with h3|⟨h3,q,h6,h7⟩
    ·by_cases c:s'=b
     ·exact .inl (h3.trans c)
     ·have e:s'=r.id:=a1.resolve_left c
      exact .inr ⟨by rw[h3,e]; exact a2 c,r,by simp,by rw[h3,e]⟩
    ·exact .inr ⟨h3,q,by simp[h6],h7⟩
   ·rcases List.mem_cons.1 hq with rfl|hq
    ·have:=a4 htq; omega
    ·exact h5 q hq htq
theorem td {w:List (Rw G)} (hp:∀ r∈w,1≤r.id) (t:Int):nf w t (ct w t):=by
 rcases oY t w 0 hp with⟨h1,_,h2⟩|⟨h1,h2,_,h3⟩
 ·exact .inl ⟨h1,h2⟩
 ·rcases h2 with h2|⟨h2,h4⟩
  ·exact absurd h2 h1
  ·exact .inr ⟨h2,h4,h3⟩
end
section
variable {G:Type} [Inhabited G]
def ff (w:List (Rw G)) (t:Int):G:=if fiW w t<w.length then(w.getD (fiW w t) default).v else default
theorem jE {l:List (Rw G)} {most t:Int} (ok:Ok l most):has l t=true↔∃ r∈l,r.id=t:=by
 constructor
 ·intro h
  obtain⟨h1,h2⟩:=fV h
  exact⟨_,aY h1,h2⟩
 ·rintro⟨r,hr,rfl⟩
  obtain⟨k,hk,rfl⟩:=List.mem_iff_getElem.1 hr
  cases c:has l l[k].id with
  | true=>rfl
  | false=>
   exfalso
   have lb:=ok.lb l[k].id
   rcases Nat.lt_or_ge k (lbp l l[k].id) with q|q
   ·have:=lb.lo k q; rw[bh hk] at this; omega
   ·have:=mO ok c k q hk; rw[bh hk] at this; omega
theorem C7 {l:List (Rw G)} {most:Int} (ok:Ok l most) {r:Rw G} (hr:r∈l):bF l r.id=r.v:=by
 have h:=(jE ok).2 ⟨r,hr,rfl⟩
 obtain⟨h1,h2⟩:=fV h
 unfold bF
 rw[if_pos h,Ea ok (aY h1) hr h2]
theorem Dx {w:List (Rw G)} {t:Int} (h:fiW w t<w.length):(w.getD (fiW w t) default)∈w∧(w.getD (fiW w t) default).id=t:=by
 refine⟨aY h,?_⟩
 have:=List.findIdx_getElem (p:=fun r:Rw G=>r.id == t) (xs:=w) (w:=h)
 rw[bh h]
 exact eq_of_beq this
theorem bY.Lf {l w:List (Rw G)} {most:Int} (h:bY l w most) (t:Int):eT w t=has l t:=by
 rw[Bool.eq_iff_iff,CB,jE h.ok]
 exact⟨fun⟨r,hr,e⟩=>⟨r,h.perm.mem_iff.2 hr,e⟩,fun⟨r,hr,e⟩=>⟨r,h.perm.mem_iff.1 hr,e⟩⟩
theorem bY.M2 {l w:List (Rw G)} {most:Int} (h:bY l w most) (t:Int):ff w t=bF l t:=by
 unfold ff
 by_cases c:fiW w t<w.length
 ·rw[if_pos c]
  obtain⟨h1,h2⟩:=Dx c
  have:=C7 h.ok (h.perm.mem_iff.2 h1)
  rw[h2] at this
  exact this.symm
 ·rw[if_neg c]
  have h1:has l t=false:=by rw[← h.Lf t]; exact decide_eq_false c
  unfold bF
  rw[if_neg (by simp[h1])]
theorem pT {l:List (Rw G)} {most:Int} (ok:Ok l most) (t:Int):l9 l t=bL l t:=by
 unfold l9 bL
 by_cases c:has l t=true
 ·rw[if_pos c]
  obtain⟨h1,h2⟩:=fV c
  rw[List.eraseIdx_eq_take_drop_succ]
  have hl:l=l.take (lbp l t)++l.getD (lbp l t) default::l.drop (lbp l t+1):=by
   rw[bh h1,← List.drop_eq_getElem_cons h1,List.take_append_drop]
  have ha:∀ r∈l.take (lbp l t),(r.id != t)=true:=by
   intro r hr
   obtain⟨k,hk,rfl⟩:=List.mem_iff_getElem.1 hr
   rw[List.length_take] at hk
   have:=(ok.lb t).lo k (by omega)
   rw[bh (by omega)] at this
   rw[List.getElem_take]
   simp; omega
  have hb:∀ r∈l.drop (lbp l t+1),(r.id != t)=true:=by
   intro r hr
   obtain⟨k,hk,rfl⟩:=List.mem_iff_getElem.1 hr
   rw[List.length_drop] at hk
   have:=ok.get (i:=lbp l t) (j:=lbp l t+1+k) (by omega) (by omega)
   rw[h2,bh (by omega)] at this
   rw[List.getElem_drop]
   simp; omega
  conv=>rhs; rw[hl]
  rw[List.filter_append,List.filter_cons,if_neg (by rw[h2]; simp),List.filter_eq_self.2 ha,List.filter_eq_self.2 hb]
 ·rw[if_neg c,List.filter_eq_self.2]
  intro r hr
  simp only[bne_iff_ne,ne_eq]
  intro e
  exact c ((jE ok).2 ⟨r,hr,e⟩)
theorem bY.put {l w:List (Rw G)} {most:Int} (h:bY l w most) (t:Int) (v:G):bY (cN l most t v).1 (iU w most t v).1 most∧(iU w most t v).2=(cN l most t v).2:=by
 have hok:=h.ok.put t v
 unfold iU
 unfold cN at hok ⊢
 by_cases c:aC t=true
 ·rw[if_pos c,if_pos c]
  rw[if_pos c] at hok
  have hw:=h.Lf t
  by_cases c2:has l t=true
  ·rw[if_pos c2,if_neg (by rw[hw,c2]; simp)]
   rw[if_pos c2] at hok
   obtain⟨h1,h2⟩:=fV c2
   have hp:(l.set (lbp l t) ⟨t,v⟩).Perm (bL w t++[⟨t,v⟩]):=by
    rw[List.set_eq_take_append_cons_drop,if_pos h1]
    refine List.perm_middle.trans ?_
    have e1:=pT h.ok t
    unfold l9 at e1
    rw[if_pos c2,List.eraseIdx_eq_take_drop_succ] at e1
    rw[e1]
    refine(List.Perm.cons _ (h.perm.filter _)).trans ?_
    exact(List.perm_append_singleton _ _).symm
   refine⟨⟨hok,hp,fun r hr=>?_⟩,rfl⟩
   rcases List.mem_or_eq_of_mem_set hr with q|rfl
   ·exact h.pos r q
   ·exact c
  ·rw[if_neg c2]
   rw[if_neg c2] at hok
   have c2':has l t=false:=by simpa using c2
   by_cases c3:(l.length:Int)≥most
   ·rw[if_pos c3,if_pos ⟨by rw[hw,c2'],by rw[h.len]; exact c3⟩]
    exact⟨h,rfl⟩
   ·rw[if_neg c3,if_neg (by rw[h.len]; exact fun q=>c3 q.2)]
    rw[if_neg c3] at hok
    have hd:bL l t=l:=by
     have e1:=pT h.ok t
     unfold l9 at e1
     rw[if_neg c2] at e1
     exact e1.symm
    have hp:(bC l (lbp l t) ⟨t,v⟩).Perm (bL w t++[⟨t,v⟩]):=by
     unfold bC
     refine List.perm_middle.trans ?_
     rw[List.take_append_drop]
     refine List.Perm.trans ?_ (List.perm_append_singleton _ _).symm
     refine List.Perm.cons _ ?_
     have:=h.perm.filter (fun r=>r.id != t)
     unfold bL at hd
     rw[hd] at this
     exact this
    refine⟨⟨hok,hp,fun r hr=>?_⟩,rfl⟩
    unfold bC at hr
    rcases List.mem_append.1 hr with q|q
    ·exact h.pos r (List.mem_of_mem_take q)
    ·rcases List.mem_cons.1 q with rfl|q
     ·exact c
     ·exact h.pos r (List.mem_of_mem_drop q)
 ·rw[if_neg c,if_neg c]; exact⟨h,rfl⟩
def ii (l:List (Rw G)) (k:Nat):Int:=if k<l.length then(l.getD k default).id else 0
theorem bY.at0 {l w:List (Rw G)} {most:Int} (h:bY l w most):ct w 0=ii l 0:=by
 have hp:∀ r∈w,1≤r.id:=fun r hr=>gb (h.pos r (h.perm.mem_iff.2 hr))
 have key:nf l 0 (ii l 0):=by
  unfold ii
  by_cases c:0<l.length
  ·rw[if_pos c]
   refine .inr ⟨gb (h.pos _ (aY c)),⟨_,aY c,rfl⟩,fun s hs _=>?_⟩
   obtain⟨k,hk,rfl⟩:=List.mem_iff_getElem.1 hs
   rcases Nat.eq_zero_or_pos k with rfl|q
   ·rw[bh hk]; omega
   ·have:=h.ok.get q hk; rw[bh hk] at this; omega
  ·rw[if_neg c]
   refine .inl ⟨rfl,fun r hr=>?_⟩
   rw[List.eq_nil_of_length_eq_zero (l:=l) (by omega)] at hr
   cases hr
 exact(td hp 0).MX key (fun r=>(h.perm.mem_iff).symm)
theorem bY.atS {l w:List (Rw G)} {most:Int} (h:bY l w most) {k:Nat} (hk:k<l.length):ct w (ii l k)=ii l (k+1):=by
 have hp:∀ r∈w,1≤r.id:=fun r hr=>gb (h.pos r (h.perm.mem_iff.2 hr))
 have key:nf l (ii l k) (ii l (k+1)):=by
  unfold ii
  rw[if_pos hk]
  by_cases c:k+1<l.length
  ·rw[if_pos c]
   refine .inr ⟨h.ok.get (Nat.lt_succ_self k) c,⟨_,aY c,rfl⟩,fun s hs q=>?_⟩
   obtain⟨j,hj,rfl⟩:=List.mem_iff_getElem.1 hs
   rw[← bh (d:=default) hj] at q ⊢
   rcases Nat.lt_trichotomy j (k+1) with q2|q2|q2
   ·exfalso
    rcases Nat.eq_or_lt_of_le (Nat.le_of_lt_succ q2) with rfl|q3
    ·omega
    ·have:=h.ok.get q3 hk; omega
   ·subst q2; omega
   ·have:=h.ok.get q2 hj; omega
  ·rw[if_neg c]
   refine .inl ⟨rfl,fun r hr=>?_⟩
   obtain⟨j,hj,rfl⟩:=List.mem_iff_getElem.1 hr
   rw[← bh (d:=default) hj]
   rcases Nat.eq_or_lt_of_le (show j≤k by omega) with rfl|q3
   ·omega
   ·have:=h.ok.get q3 hk; omega
 exact(td hp _).MX key (fun r=>(h.perm.mem_iff).symm)
theorem oV {l w:List (Rw G)} {most:Int} (h:bY l w most) (k:Nat):(ii l k != 0)=decide (k<l.length):=by
 unfold ii
 by_cases c:k<l.length
 ·rw[if_pos c,decide_eq_true c]
  have:=gb (h.pos _ (aY (d:=default) c))
  exact bne_iff_ne.2 (by omega)
 ·rw[if_neg c,decide_eq_false c]; rfl
end
section
variable {α:Type}
def dN (k:α→Int) (w:List α):Prop:=w.Pairwise fun a b=>k a<k b
def fj (k:α→Int) (w:List α) (c:α):List α:=w.filter (fun x=>decide (k x<k c))++c::w.filter (fun x=>decide (k c<k x))
def ef (k:α→Int) (w:List α) (t:Int):List α:=w.filter fun x=>k x != t
def bz (k:α→Int) (w:List α) (t:Int):Bool:=w.any fun x=>k x == t
def nU [Inhabited α] (k:α→Int) (w:List α) (t:Int):α:=(w.find? fun x=>k x == t).getD default
theorem dN.nil (k:α→Int):dN k ([]:List α):=List.Pairwise.nil
theorem dN.drop {k:α→Int} {w:List α} (h:dN k w) (t:Int):dN k (ef k w t):=List.Pairwise.sublist List.filter_sublist h
theorem dN.put {k:α→Int} {w:List α} (h:dN k w) (c:α):dN k (fj k w c):=by
 unfold fj dN
 rw[List.pairwise_append]
 refine⟨List.Pairwise.sublist List.filter_sublist h,List.pairwise_cons.2 ⟨fun a ha=>?_,List.Pairwise.sublist List.filter_sublist h⟩,fun a ha b hb=>?_⟩
 ·have:=(List.mem_filter.1 ha).2; simpa using this
 ·have h1:=(List.mem_filter.1 ha).2
  rcases List.mem_cons.1 hb with rfl|hb
  ·simpa using h1
  ·have h2:=(List.mem_filter.1 hb).2
   simp at h1 h2; omega
theorem dN.ext {k:α→Int} {w v:List α} (hw:dN k w) (hv:dN k v) (h:∀ x,x∈w↔x∈v):w=v:=by
 have nd:∀ {l:List α},dN k l→l.Nodup:=fun ok=>List.Pairwise.imp (fun h e=>by rw[e] at h; exact absurd h (Int.lt_irrefl _)) ok
 refine List.Perm.eq_of_pairwise (fun a b _ _ h1 h2=>?_) hw hv ((List.perm_ext_iff_of_nodup (nd hw) (nd hv)).2 h)
 exact absurd (Int.lt_trans h1 h2) (Int.lt_irrefl _)
theorem dN.inj {k:α→Int} {w:List α} (h:dN k w) {a b:α} (ha:a∈w) (hb:b∈w) (e:k a=k b):a=b:=by
 obtain⟨i,hi,rfl⟩:=List.mem_iff_getElem.1 ha
 obtain⟨j,hj,rfl⟩:=List.mem_iff_getElem.1 hb
 rcases Nat.lt_trichotomy i j with c|c|c
 ·have:=List.pairwise_iff_getElem.1 h i j hi hj c; omega
 ·subst c; rfl
 ·have:=List.pairwise_iff_getElem.1 h j i hj hi c; omega
theorem g9 {k:α→Int} {w:List α} {c x:α}:x∈fj k w c↔x=c∨(x∈w∧k x≠k c):=by
 unfold fj
 simp only[List.mem_append,List.mem_filter,List.mem_cons,decide_eq_true_eq]
 constructor
 ·rintro (⟨h1,h2⟩|h|⟨h1,h2⟩)
  ·exact .inr ⟨h1,by omega⟩
  ·exact .inl h
  ·exact .inr ⟨h1,by omega⟩
 ·rintro (h|⟨h1,h2⟩)
  ·exact .inr (.inl h)
  ·rcases Int.lt_or_gt_of_ne h2 with q|q
   ·exact .inl ⟨h1,q⟩
   ·exact .inr (.inr ⟨h1,q⟩)
theorem nc {k:α→Int} {w:List α} {t:Int} {x:α}:x∈ef k w t↔x∈w∧k x≠t:=by
 unfold ef; simp
theorem dR {k:α→Int} {w:List α} {t:Int}:bz k w t=true↔∃ x∈w,k x=t:=by
 unfold bz; simp
theorem eP [Inhabited α] {k:α→Int} {w:List α} {t:Int} (h:bz k w t=true):nU k w t∈w∧k (nU k w t)=t:=by
 obtain⟨x,hx,e⟩:=dR.1 h
 unfold nU
 cases c:w.find? (fun x=>k x == t) with
 | none=>exact absurd (by simpa using e) (List.find?_eq_none.1 c x hx)
 | some y=>exact⟨List.mem_of_find?_eq_some c,by simpa using List.find?_some c⟩
theorem yf [Inhabited α] {k:α→Int} {w:List α} (h:dN k w) {x:α} (hx:x∈w):nU k w (k x)=x:=by
 obtain⟨h1,h2⟩:=eP (dR.2 ⟨x,hx,rfl⟩)
 exact h.inj h1 hx h2
theorem gQ [Inhabited α] {k:α→Int} {w:List α} {t:Int} (h:bz k w t=false):nU k w t=default:=by
 unfold nU
 cases c:w.find? (fun x=>k x == t) with
 | none=>rfl
 | some y=>
  have:bz k w t=true:=dR.2 ⟨y,List.mem_of_find?_eq_some c,by simpa using List.find?_some c⟩
  rw[h] at this; cases this
theorem Cv {k:α→Int} {w:List α} (h:dN k w) (c:α):(fj k w c).length=if bz k w (k c)=true then w.length else w.length+1:=by
 have key:∀ w:List α,dN k w→(w.filter (fun x=>decide (k x<k c))).length+(w.filter (fun x=>decide (k c<k x))).length=if bz k w (k c)=true then w.length-1 else w.length:=by
  intro w
  induction w with
  | nil=>intro _; rfl
  | cons a w ih=>
   intro h
   obtain⟨h1,h2⟩:=List.pairwise_cons.1 h
   have ih:=ih h2
   have hh:bz k (a::w) (k c)=(k a == k c || bz k w (k c)):=rfl
   rw[hh]
   rcases Int.lt_trichotomy (k a) (k c) with q|q|q
   ·rw[List.filter_cons_of_pos (by simpa using q),List.filter_cons_of_neg (by simp; omega)]
    have e:(k a == k c)=false:=by simp; omega
    rw[e,Bool.false_or]
    have hne:bz k w (k c)=true→w≠[]:=fun h0 h3=>by subst h3; cases h0
    split at ih
    ·rename_i h3; rw[if_pos h3]; have:=List.length_pos_iff.2 (hne h3); simp only[List.length_cons]; omega
    ·rename_i h3; rw[if_neg h3]; simp only[List.length_cons]; omega
   ·rw[List.filter_cons_of_neg (by simp; omega),List.filter_cons_of_neg (by simp; omega)]
    have e:(k a == k c)=true:=by simpa using q
    have h0:bz k w (k c)=false:=by
     cases c0:bz k w (k c) with
     | false=>rfl
     | true=>obtain⟨x,hx,ex⟩:=dR.1 c0; have:=h1 x hx; omega
    rw[h0,if_neg (by decide)] at ih
    rw[e,Bool.true_or,if_pos rfl,ih]; simp
   ·rw[List.filter_cons_of_neg (by simp; omega),List.filter_cons_of_pos (by simpa using q)]
    have e:(k a == k c)=false:=by simp; omega
    have h0:bz k w (k c)=false:=by
     cases c0:bz k w (k c) with
     | false=>rfl
     | true=>obtain⟨x,hx,ex⟩:=dR.1 c0; have:=h1 x hx; omega
    rw[h0,if_neg (by decide)] at ih
    rw[e,h0]; simp only[Bool.or_self,if_neg (by decide:¬ false=true),List.length_cons]; omega
 have:=key w h
 unfold fj
 rw[List.length_append,List.length_cons]
 split at this
 ·rename_i h3
  rw[if_pos h3]
  obtain⟨x,hx,_⟩:=dR.1 h3
  have:=List.length_pos_of_mem hx; omega
 ·rename_i h3; rw[if_neg h3]; omega
def dV (k:α→Int) (c:α) (s:List α×Bool) (r:α):List α×Bool:=
 let s1:List α×Bool:=if s.2=false∧k r≥k c then(s.1++[c],true) else s
 if k r≠k c then(s1.1++[r],s1.2) else s1
def cX (k:α→Int) (c:α) (b:Bool) (w:List α):List α×Bool:=w.foldl (dV k c) ([],b)
def zZ (c:α) (s:List α×Bool):List α:=if s.2=false then s.1++[c] else s.1
theorem rf (k:α→Int) (c:α) (b:Bool) {w:List α} {i:Nat} (d:α) (h:i<w.length):cX k c b (w.take (i+1))=dV k c (cX k c b (w.take i)) (w.getD i d):=by
 unfold cX
 rw[aJ d h,List.foldl_append]; rfl
theorem pN (k:α→Int) (c:α):∀(w a:List α),w.foldl (dV k c) (a,true)=(a++ef k w (k c),true)
 | [],a=>by simp[ef]
 | r::w,a=>by
  rw[List.foldl_cons]
  have e:dV k c (a,true) r=(if k r≠k c then a++[r] else a,true):=by
   simp only[dV,Bool.true_eq_false,false_and,if_false]
   split<;>rfl
  rw[e,pN k c w]
  unfold ef
  by_cases h:k r=k c
  ·rw[if_neg (by simpa using h),List.filter_cons_of_neg (by simpa using h)]
  ·rw[if_pos h,List.filter_cons_of_pos (by simpa using h),List.append_assoc]; rfl
theorem nH {k:α→Int} (c:α):∀(w a:List α),dN k w→zZ c (w.foldl (dV k c) (a,false))=a++fj k w c
 | [],a,_=>by simp[zZ,fj]
 | r::w,a,h=>by
  obtain⟨h1,h2⟩:=List.pairwise_cons.1 h
  rw[List.foldl_cons]
  by_cases q:k r≥k c
  ·have e:dV k c (a,false) r=(a++c::(if k r≠k c then [r] else []),true):=by
    simp only[dV,q,and_true,if_true]
    split<;>simp
   rw[e,pN]
   unfold zZ fj ef
   rw[if_neg (by simp)]
   have f1:∀ x∈w,k c<k x:=fun x hx=>by have:=h1 x hx; omega
   have e1:w.filter (fun x=>decide (k x<k c))=[]:=List.filter_eq_nil_iff.2 fun x hx=>by have:=f1 x hx; simp; omega
   have e2:w.filter (fun x=>decide (k c<k x))=w:=List.filter_eq_self.2 fun x hx=>by simpa using f1 x hx
   have e3:w.filter (fun x=>k x != k c)=w:=List.filter_eq_self.2 fun x hx=>by have:=f1 x hx; simp; omega
   rw[List.filter_cons_of_neg (by simp; omega),e1,e3,List.nil_append]
   by_cases p:k r=k c
   ·rw[if_neg (by simpa using p),List.filter_cons_of_neg (by simp; omega),e2]; simp
   ·rw[if_pos p,List.filter_cons_of_pos (by simp; omega),e2]; simp
  ·have e:dV k c (a,false) r=(a++[r],false):=by
    simp only[dV,q,and_false,if_false]
    rw[if_pos (by omega)]
   rw[e,nH c w _ h2]
   unfold fj
   rw[List.filter_cons_of_pos (by simp; omega),List.filter_cons_of_neg (by simp; omega)]; simp
theorem uW {k:α→Int} (c:α) {w:List α} (h:dN k w):zZ c (cX k c false w)=fj k w c:=by
 unfold cX; rw[nH c w [] h]; rfl
theorem oP (k:α→Int) (c:α) (b:Bool) (w:List α):(cX k c b w).1.length≤2*w.length:=by
 have:∀(w:List α) (s:List α×Bool),(w.foldl (dV k c) s).1.length≤s.1.length+2*w.length:=by
  intro w
  induction w with
  | nil=>intro s; simp
  | cons r w ih=>
   intro s
   have h1:=ih (dV k c s r)
   have h2:(dV k c s r).1.length≤s.1.length+2:=by unfold dV; (repeat' split)<;>simp
   rw[List.foldl_cons,List.length_cons]; omega
 have h:=this w ([],b)
 simpa[cX] using h
end
theorem Ok.M6 {G:Type} {l:List (Rw G)} {most:Int} (ok:Ok l most):dN Rw.id l:=ok.rise
section
variable {G:Type} [Inhabited G]
theorem rz {l:List (Rw G)} {most:Int} (ok:Ok l most) (t:Int):has l t=bz Rw.id l t:=by
 rw[Bool.eq_iff_iff,jE ok,dR]
theorem Fa {l:List (Rw G)} {most t:Int} {v:G} (ok:Ok l most) (hr:aC t=true) (h:has l t=true∨¬ (l.length:Int)≥most) (x:Rw G):x∈(cN l most t v).1↔x=⟨t,v⟩∨(x∈l∧x.id≠t):=by
 unfold cN
 rw[if_pos hr]
 by_cases c:has l t=true
 ·rw[if_pos c]
  obtain⟨h1,h2⟩:=fV c
  show x∈l.set (lbp l t) ⟨t,v⟩↔_
  rw[List.mem_iff_getElem]
  constructor
  ·rintro⟨j,hj,rfl⟩
   rw[List.length_set] at hj
   rw[List.getElem_set]
   split
   ·exact .inl rfl
   ·rename_i hne
    refine .inr ⟨List.getElem_mem hj,fun e=>hne ?_⟩
    rw[bh h1] at h2
    rcases Nat.lt_trichotomy (lbp l t) j with q|q|q
    ·have:=List.pairwise_iff_getElem.1 ok.rise _ _ h1 hj q; omega
    ·exact q
    ·have:=List.pairwise_iff_getElem.1 ok.rise _ _ hj h1 q; omega
  ·rintro (rfl|⟨hx,hne⟩)
   ·exact⟨lbp l t,by simpa using h1,by simp⟩
   ·obtain⟨j,hj,rfl⟩:=List.mem_iff_getElem.1 hx
    refine⟨j,by simpa using hj,?_⟩
    rw[List.getElem_set,if_neg]
    rintro rfl
    rw[bh h1] at h2
    exact hne h2
 ·rw[if_neg c,if_neg (h.resolve_left c)]
  show x∈bC l (lbp l t) ⟨t,v⟩↔_
  have hno:∀ y∈l,y.id≠t:=fun y hy e=>c ((jE ok).2 ⟨y,hy,e⟩)
  unfold bC
  have hm:x∈l↔x∈l.take (lbp l t)∨x∈l.drop (lbp l t):=by
   conv=>lhs; rw[← List.take_append_drop (lbp l t) l]
   exact List.mem_append
  rw[List.mem_append,List.mem_cons]
  constructor
  ·rintro (h1|h1|h1)
   ·exact .inr ⟨hm.2 (.inl h1),hno x (hm.2 (.inl h1))⟩
   ·exact .inl h1
   ·exact .inr ⟨hm.2 (.inr h1),hno x (hm.2 (.inr h1))⟩
  ·rintro (h1|⟨h1,_⟩)
   ·exact .inr (.inl h1)
   ·rcases hm.1 h1 with h2|h2
    ·exact .inl h2
    ·exact .inr (.inr h2)
theorem IE {l:List (Rw G)} {most:Int} (ok:Ok l most) (t:Int) (v:G):cN l most t v=if aC t=true then(if bz Rw.id l t=false∧(l.length:Int)≥most then(l,10) else(fj Rw.id l ⟨t,v⟩,0)) else(l,14):=by
 by_cases hr:aC t=true
 ·rw[if_pos hr]
  by_cases c:bz Rw.id l t=false∧(l.length:Int)≥most
  ·rw[if_pos c]
   unfold cN
   rw[if_pos hr,rz ok,if_neg (by rw[c.1]; decide),if_pos c.2]
  ·rw[if_neg c]
   have h:has l t=true∨¬ (l.length:Int)≥most:=by
    rw[rz ok]
    cases c0:bz Rw.id l t with
    | true=>exact .inl rfl
    | false=>exact .inr fun h=>c ⟨c0,h⟩
   refine Prod.ext ?_ ?_
   ·refine dN.ext (k:=Rw.id) (ok.put t v).rise (ok.M6.put _) fun x=>?_
    rw[Fa ok hr h,g9]
   ·unfold cN
    rw[if_pos hr]
    by_cases c0:has l t=true
    ·rw[if_pos c0]
    ·rw[if_neg c0,if_neg (h.resolve_left c0)]
 ·rw[if_neg hr]; unfold cN; rw[if_neg hr]
end
section
variable {α:Type} (k:α→Int)
def rowsOf (w:List α):List (Rw α):=w.map fun x=>⟨k x,x⟩
variable {k}
theorem oI (w:List α):(rowsOf k w).length=w.length:=List.length_map _
theorem kN {w:List α} {r:Rw α}:r∈rowsOf k w↔r.v∈w∧r.id=k r.v:=by
 unfold rowsOf
 rw[List.mem_map]
 constructor
 ·rintro⟨x,hx,rfl⟩; exact⟨hx,rfl⟩
 ·rintro⟨h1,h2⟩; exact⟨r.v,h1,by cases r; simp only at h2; rw[h2]⟩
theorem dN.ok {w:List α} (h:dN k w) {most:Int} (hl:(w.length:Int)≤most) (hm:most≤1000000):Ok (rowsOf k w) most:=
 ⟨by unfold rowsOf; rw[List.pairwise_map]; exact h,by rw[oI]; exact hl,hm⟩
theorem dN.rows {w:List α} (h:dN k w):dN Rw.id (rowsOf k w):=by unfold rowsOf dN; rw[List.pairwise_map]; exact h
theorem nA (w:List α) (t:Int):bz Rw.id (rowsOf k w) t=bz k w t:=by
 unfold bz rowsOf; rw[List.any_map]; rfl
end
section
variable {α:Type} [Inhabited α] {k:α→Int}
theorem iu {w:List α} {most:Int} (ok:Ok (rowsOf k w) most) (t:Int):has (rowsOf k w) t=bz k w t:=by
 rw[rz ok,nA]
theorem kS {w:List α} {most:Int} (ok:Ok (rowsOf k w) most) (t:Int):bF (rowsOf k w) t=nU k w t:=by
 cases c:bz k w t with
 | true=>
  obtain⟨h1,h2⟩:=eP c
  have h3:(⟨k (nU k w t),nU k w t⟩:Rw α)∈rowsOf k w:=kN.2 ⟨h1,rfl⟩
  have:=C7 ok h3
  simp only[h2] at this
  exact this
 | false=>
  rw[gQ c]
  unfold bF
  rw[if_neg (by rw[iu ok,c]; decide)]
theorem pZ {w:List α} {most:Int} (h:dN k w) (ok:Ok (rowsOf k w) most) (c:α):cN (rowsOf k w) most (k c) c=if aC (k c)=true then(if bz k w (k c)=false∧(w.length:Int)≥most then(rowsOf k w,10) else(rowsOf k (fj k w c),0)) else(rowsOf k w,14):=by
 rw[IE ok,nA,oI]
 have e:fj Rw.id (rowsOf k w) ⟨k c,c⟩=rowsOf k (fj k w c):=by
  refine dN.ext (k:=Rw.id) (h.rows.put _) (h.put c).rows fun x=>?_
  rw[g9,kN,kN,g9]
  cases x with
  | mk i v=>
   simp only[Rw.mk.injEq]
   constructor
   ·rintro (⟨h1,h2⟩|⟨⟨h1,h2⟩,h3⟩)
    ·exact⟨.inl h2,by rw[h1,h2]⟩
    ·exact⟨.inr ⟨h1,by rw[← h2]; exact h3⟩,h2⟩
   ·rintro⟨h1|⟨h1,h2⟩,h3⟩
    ·exact .inl ⟨by rw[h3,h1],h1⟩
    ·exact .inr ⟨⟨h1,h3⟩,by rw[h3]; exact h2⟩
 rw[e]
theorem tK {w:List α} {most:Int} (ok:Ok (rowsOf k w) most) (t:Int):l9 (rowsOf k w) t=rowsOf k (ef k w t):=by
 rw[pT ok]
 unfold bL rowsOf ef
 rw[List.filter_map]; rfl
end
theorem LY (l:List (Int)) (t:Int) (i:Nat):(by refine(?_:_→_→_→Prop) (List.getD (l.map u1) (Int.toNat (i:Int)) []) (PV.I l.length) (PV.list (l.map u1) .no); exact fun b c d=>by refine(?_:_→Prop) [PV.list (l.map u1) .no,.U t,.I 0,c,.I i]; exact fun a=>∀(R:Ex→List PV→ae→Prop),(br (decide ((i:Int)<(l.length:Int))) (InL (l.map u1) 1 (i:Int)∧br (true && aD [.int .u32] 0 b) (br (t == cI b 0) (R .ret [d,.U t,.I i,c,.I i] []) (R .normal [d,.U t,.I 0,c,.I (wI ((i:Int)+1))] [])) False) (R (.exit 0) a []))→Holds (wpK [] [] (fun _=>0) (ai [1,0,1,0] (ag Tryz.f108)) [] (ak [0,1,4,7,8] a) [] (fun ex e H=>R ex (List.map e [0,1,4,7,8]) H)):Prop):=fun R h=>hoE h
def J1:LSp:=fun e H Q=>∃(l:List (Int)) (t:Int),l.length≤1000000∧(True)∧ah (List.map e [0,1,4,7,8]) [.list (l.map u1) .no,.U t,.I 0,.I l.length,.I 0]∧av H []∧
 (l.findIdx (fun x=>t == x)<l.length→Q .ret (ak [0,1,4,7,8] [.list (l.map u1) .no,.U t,.I (l.findIdx (fun x=>t == x)),.I l.length,.I (l.findIdx (fun x=>t == x))]) [])∧(l.findIdx (fun x=>t == x)=l.length→Q (.exit 0) (ak [0,1,4,7,8] [.list (l.map u1) .no,.U t,.I 0,.I l.length,.I l.length]) [])
theorem Ck:∀ e H Q,J1 e H Q→AwK Tryz.f108.ntmps (.loop (ai [1,0,1,0] (ag Tryz.f108))) Q e H:=by
 rintro e H Q ⟨l,t,hl,_,he,hH,hQ1,hQ2⟩
 have hfl:l.findIdx (fun x=>t == x)≤l.length:=List.findIdx_le_length
 refine aB (hn:=fun _=>0) aj (.nil _ _) (.nil _ _ _ _ _) (σ:=Nat) [0,1,4,7,8] (fun i=>i≤l.findIdx (fun x=>t == x)) (fun i=>[.list (l.map u1) .no,.U t,.I 0,.I l.length,.I i]) (fun _=>[]) (fun i=>l.length-i) 0 (Nat.zero_le _) he hH ?_
 intro i hi
 have hi':i≤l.findIdx (fun x=>t == x):=hi
 refine LY l t i _ ?_
 simp only[au,dt,an,dQ]
 by_cases h:i<l.length
 ·rw[if_pos (by omega)]
  simp only[getD_map 0 h]
  repeat (first|refine⟨h,?_⟩|rw[if_pos (by rfl)])
  by_cases c:(fun x=>t == x) (l.getD i 0)=true
  ·have hge:l.findIdx (fun x=>t == x)=i:=ed 0 hi' h c
   rw[hge] at hQ1
   rw[if_pos (by exact c)]
   repeat (first|refine⟨h,?_⟩|rw[if_pos (by rfl)])
   exact hQ1 h
  ·have hlt:i<l.findIdx (fun x=>t == x):=ec 0 hi' h (by simpa using c)
   rw[if_neg (by exact c)]
   exact⟨i+1,(show l.length-(i+1)<l.length-i by omega),hlt,by rw[ar h (by omega)],[],rfl,Nat.le_refl _,.inl rfl⟩
 ·rw[if_neg (by omega)]
  have:i=l.length:=by omega
  subst this
  exact hQ2 (by omega)
theorem Iy (l:List Int) (t:Int):∀(K:PV→Prop),(∃(l_1:List Int) (t_1:Int),by refine(?_:_→Prop) (fun(x:Int)=>t_1 == x); exact fun a=>l_1.length≤1000000∧True∧ah [.list (l.map u1) .no,.U t,.I 0,.I (↑(List.length (l.map u1)):Int),.I 0] [.list (l_1.map u1) .no,.U t_1,.I 0,.I l_1.length,.I 0]∧av [] []∧(List.findIdx a l_1<l_1.length→K (.I (↑(List.findIdx a l_1):Int)))∧(List.findIdx a l_1=l_1.length→K (.I (-1))))→AcK 108 [.list (l.map u1) .no,.U t] [] (fun x _=>K x):=fun K h=>acW (T:=[]) (L:=[([1,0,1,0],J1)]) (fun _=>0) Tryz.func108 (aX.nil _ _) (.cons suE Ck (.nil _ _ _ _ _)) h
def v5 (l:List Int) (t:Int):Int:=if l.findIdx (fun x=>t == x)<l.length then(l.findIdx (fun x=>t == x):Int) else -1
def Js (args:List PV) (K:PV→Prop):Prop:=∃(l:List Int) (t:Int),ah args [.list (l.map u1) .no,.U t]∧l.length≤1000000∧K (.I (v5 l t))
theorem eE {n:Nat} (l:List Int):Low n (.list (l.map u1) .no):=bq bO l
theorem Mh:SpK 108 (.pure Js):=by
 rintro args K ⟨l,t,he,hl,hk⟩
 have he:args=_:=he
 subst he
 refine cr aj (bn (eE l) (.int _ _)) (.int _ _) (Iy l t (fun x=>x = .I (v5 l t)) ⟨l,t,hl,trivial,(by show _=_; simp only[List.length_map]),rfl,fun h=>?_,fun h=>?_⟩) hk
 ·unfold v5; rw[if_pos h]
 ·unfold v5; rw[if_neg (by omega)]
def TI1:Tab:=[(108,.pure Js)]
theorem KS:TbK TI1:= .cons Mh (.nil _ _)
theorem F8 (l:List Int) (t:Int)  (K:PV→Prop) (h:∃(l_1:List Int) (t_1:Int),ah [.list (List.map u1 l) .no,.U t] [.list (List.map u1 l_1) .no,.U t_1]∧List.length l_1≤1000000∧K (.bool (decide (v5 l_1 t_1≥0)))):AcK 87 [.list (l.map u1) .no,.U t] [] (fun x _=>K x):=
 acW (T:=TI1) (L:=[]) (fun _=>0) Tryz.func87 (KS) (LOk.nil _ _ _ _ _) h
def cJ (l:List Int) (t:Int):Bool:=decide (t∈l)
theorem pY {l:List Int} {t:Int}:cJ l t=true↔t∈l:=by unfold cJ; rw[decide_eq_true_eq]
theorem AL (l:List Int) (t:Int):decide (v5 l t≥0)=cJ l t:=by
 unfold v5 cJ
 have h:l.findIdx (fun x=>t == x)<l.length↔t∈l:=by
  rw[List.findIdx_lt_length]
  constructor
  ·rintro⟨x,hx,e⟩; rw[eq_of_beq e]; exact hx
  ·intro h; exact⟨t,h,by simp⟩
 by_cases c:l.findIdx (fun x=>t == x)<l.length
 ·rw[if_pos c,decide_eq_true (h.1 c),decide_eq_true (by omega)]
 ·rw[if_neg c,decide_eq_false (fun k=>c (h.2 k)),decide_eq_false (by omega)]
def JE (args:List PV) (K:PV→Prop):Prop:=∃(l:List Int) (tl:Tail) (t:Int),ah args [.list (l.map u1) tl,.U t]∧l.length≤1000000∧K (.bool (cJ l t))
theorem Ku:SpK 87 (.pure JE):=by
 rintro args K ⟨l,tl,t,he,hl,hk⟩
 have he:args=_:=he
 subst he
 exact bu aj (.cons (.list _ _) (.cons (.refl _) .nil)) (bn (eE l) (.int _ _)) (.bool _) (F8 l t (fun x=>x = .bool (cJ l t)) ⟨l,t,rfl,hl,by rw[AL]⟩) hk
theorem rV (l:List Int):∀(K:PV→ae→Prop),(∀(b:Bool),(List.flatten (l.map u1)≠[]→b=false)→br b (K (.E) []) (aG [] (l.map u1) 1 4∧List.all (List.flatten (l.map u1)) PV.one=true∧(l.map u1=[]→K (.E) [])∧(l.map u1≠[]→K (.list ([]++l.map u1) (.tok 0)) [.tok])))→AcK 70 [.list (l.map u1) .no] [] K:=fun K h=>acW (T:=[]) (L:=[]) (fun o=>match o.dst with|some 7=>4|_=>0) Tryz.func70 (aX.nil _ _) (LOk.nil _ _ _ _ _) h
theorem yH (H:ae)  (K:PV→ae→Prop) (h:∀(b:Bool),(([]:List PV)≠[]→b=false)→br b (K (.E) H) (aG [] [] 1 4∧K (.list [] .no) H)):AcK 70 [.list [] .no] H K:=
 acW (T:=[]) (L:=[]) (fun _=>0) Tryz.func70 (aX.nil _ _) (LOk.nil _ _ _ _ _) h
theorem xX (H:ae) (l:List Int):∀(K:PV→ae→Prop),(∀(b:Bool),(List.flatten (l.map u1)≠[]→b=false)→br b (K (.E) H) (List.length (List.flatten (l.map u1))=List.length (l.map u1)*1∧List.length (l.map u1)*4≤140737488355328∧0<List.length (l.map u1)∧∀(c:Nat),List.length (l.map u1)≤c→K (.arr H.length 0 (List.length (l.map u1)) c) (H++[.cells (List.flatten (l.map u1)++List.flatten (List.replicate (c-List.length (l.map u1)) [.U 0]))])))→AcK 70 [.list (l.map u1) .no] H K:=fun K h=>acW (T:=[]) (L:=[]) (fun o=>match o.dst with|some 7=>2|_=>0) Tryz.func70 (aX.nil _ _) (LOk.nil _ _ _ _ _) h
theorem wU {l:List Int} (h:l≠[]):(l.map u1).flatten≠[]:=by
 cases l with
 | nil=>exact absurd rfl h
 | cons a l=>simp[u1]
def EU (args:List PV) (K:List (List PV)→Prop):Prop:=∃(l:List Int) (tl:Tail),ah args [.list (l.map u1) tl]∧l.length≤1000000∧K (l.map u1)
theorem DM:SpK 70 (.mk EU):=by
 rintro args K ⟨l,tl,he,hl,hk⟩
 have he:args=_:=he
 subst he
 refine⟨l.map u1,hk,Jm aj (.cons (.list _ _) .nil) (bw (eE l)) (by have:=HU (n:=0) l (J:=[]) (fun _ h=>nomatch h); simpa using this) (rV l _ ?_)⟩
 intro b hb
 rw[au]
 cases b with
 | true=>
  rw[if_pos rfl]
  have hn:l=[]:=Classical.byContradiction fun h=>absurd (hb (wU h)) (by decide)
  subst hn
  exact⟨fun _=>rfl,fun h=>absurd rfl h⟩
 | false=>
  rw[if_neg (by decide)]
  refine⟨⟨(fun _ h=>nomatch h),b8 da l,by simp; omega⟩,?_,fun h=>?_,fun h=>?_⟩
  ·exact List.all_eq_true.2 (by have:=xl l; intro y hy; obtain⟨c,h2,h3⟩:=List.mem_flatten.1 hy; obtain⟨a,_,rfl⟩:=List.mem_map.1 h2; exact dy a y h3)
  ·exact⟨fun _=>rfl,fun h2=>absurd h h2⟩
  ·exact⟨fun h2=>absurd h2 h,fun _=>⟨0,rfl,rfl⟩⟩
def Kd (args:List PV) (H:ae) (K:PV→ae→Prop):Prop:=∃(l:List Int) (tl:Tail),ah args [.list (l.map u1) tl]∧l.length≤1000000∧(l=[]→K (.list [] .no) H)∧
 (l≠[]→∀(cap:Nat),l.length≤cap→∀(J:List PV),aK J (cap-l.length)→K (.arr H.length 0 l.length cap) (H++[.cells ((l.map u1).flatten++J)]))
theorem zn (n:Nat):aK (List.replicate n [PV.U 0]).flatten n:=(aK.q7 (z:=[PV.U 0]) (by intro y hy; rcases List.mem_singleton.1 hy with rfl; rfl) (bw (.int _ _)) n).cast (by simp)
theorem sx:SpK 70 (.heap Kd):=by
 rintro args H K ⟨l,tl,he,hl,h0,h1⟩
 have he:args=_:=he
 subst he
 refine bj (.cons (.list _ _) .nil) ?_
 by_cases c:l=[]
 ·subst c
  refine a9 (yH H _ ?_)
  intro b _
  rw[au]
  split
  ·exact⟨_,.list _ _,h0 rfl⟩
  ·exact⟨⟨(fun _ h=>nomatch h),(fun _ h=>nomatch h),by simp⟩,_,.refl _,h0 rfl⟩
 ·refine xX H l _ ?_
  intro b hb
  rw[au,hb (wU c),if_neg (by decide)]
  have hp:=List.length_pos_iff.2 c
  refine⟨by rw[xl,List.length_map,Nat.mul_one],by rw[List.length_map]; omega,by rw[List.length_map]; exact hp,fun cap hc=>?_⟩
  rw[List.length_map] at hc ⊢
  exact h1 c cap hc _ (zn _)
theorem Ms (H:ae)  (K:PV→ae→Prop) (h:∀(b:Bool),(([]:List PV)≠[]→b=false)→br b (K (.E) H) (aG [] [] 6 48∧true=true∧(([]:List (List PV))=[]→K (.E) H)∧(([]:List (List PV))≠[]→K (.list [] (.tok (List.length H))) (H++[.tok])))):AcK 69 [.list [] .no] H K:=
 acW (T:=[]) (L:=[]) (fun o=>match o.dst with|some 7=>4|_=>0) Tryz.func69 (aX.nil _ _) (LOk.nil _ _ _ _ _) h
theorem KK (H:ae) (l:List Se):∀(K:PV→ae→Prop),(∀(b:Bool),(List.flatten (l.map stc)≠[]→b=false)→br b (K (.E) H) (List.length (List.flatten (l.map stc))=List.length (l.map stc)*6∧List.length (l.map stc)*48≤140737488355328∧0<List.length (l.map stc)∧∀(c:Nat),List.length (l.map stc)≤c→K (.arr H.length 0 (List.length (l.map stc)) c) (H++[.cells (List.flatten (l.map stc)++List.flatten (List.replicate (c-List.length (l.map stc)) [.U 0,.I 0,.I 0,.I 0,.I 0,.int .u64 0]))])))→AcK 69 [.list (l.map stc) .no] H K:=fun K h=>acW (T:=[]) (L:=[]) (fun o=>match o.dst with|some 7=>2|_=>0) Tryz.func69 (aX.nil _ _) (LOk.nil _ _ _ _ _) h
def E6 (args:List PV) (H:ae) (K:PV→ae→Prop):Prop:=∃(l:List Int) (tl:Tail),ah args [.list (l.map u1) tl]∧l.length≤1000000∧
 (K (.list (l.map u1) .no) H∨(l≠[]∧∀(cap:Nat),l.length≤cap→∀(J:List PV),aK J (cap-l.length)→K (.arr H.length 0 l.length cap) (H++[.cells ((l.map u1).flatten++J)])))
theorem KH (l:List Int):uni 1 (l.map u1):=b8 da l
theorem GG {o off:Nat} {es:List (List PV)} {H:ae} {c:Ob} (ho:o=H.length):FzH o off es (H++[c]) (H++[.dead]):=by
 subst ho
 refine⟨by simp,fun i b h=>?_⟩
 by_cases c:i<H.length
 ·rw[List.getElem?_append_left c] at h
  exact .inr (.inl ⟨by omega,by rw[List.getElem?_append_left c]; exact h⟩)
 ·have:=(List.getElem?_eq_some_iff.1 h).1
  simp at this
  rw[show i=H.length by omega,List.getElem?_append_right (Nat.le_refl _)] at h
  simp at h
  exact .inl h.symm
theorem yO:SpK 70 (.heap E6):=by
 rintro args H K ⟨l,tl,he,hl,hk⟩
 rcases hk with hk|⟨hne,hk⟩
 ·by_cases c:l=[]
  ·subst c
   exact sx args H K ⟨[],tl,he,hl,fun _=>hk,fun h=>absurd rfl h⟩
  refine aM (ax.same (r:= .list (l.map u1) .no) (eE l).up (bV (sx args H _ ⟨l,tl,he,hl,fun e=>absurd e c,fun _ cap hc J hJ=>?_⟩))) (fun x H' e=>by obtain⟨rfl,rfl⟩:=e; exact hk)
  ·refine⟨H.length,0,1,[],J,l.map u1,.list (l.map u1) .no,H++[.dead],by simp,rfl,KH l,GG rfl,?_,rfl,[.dead],rfl⟩
   have:=Fz.arr (o:=H.length) (off:=0) (es:=l.map u1) cap (by rw[List.length_map]; exact hc)
   rw[List.length_map] at this
   exact this
 ·exact sx args H K ⟨l,tl,he,hl,fun e=>absurd e hne,fun _=>hk⟩
abbrev flS (l:List Se):List PV:=(l.map stc).flatten
theorem iB (l:List Se):(flS l).length=l.length*6:=bE bQ l
theorem Mz {l:List Se} (h:l≠[]):flS l≠[]:=by
 cases l with
 | nil=>exact absurd rfl h
 | cons a l=>simp[flS,stc]
def ArS (o:Nat) (l:List Se) (x:PV) (g:Ob):Prop:=(l=[]∧x = .E∧g = .dead)∨(l≠[]∧∃(cap:Nat) (J:List PV),x = .arr o 0 l.length cap∧g = .cells (flS l++J)∧l.length≤cap∧aK J ((cap-l.length)*6))
def Cq (args:List PV) (H:ae) (K:PV→ae→Prop):Prop:=∃(l:List Se) (tl:Tail),ah args [.list (l.map stc) tl]∧l.length≤1000000∧(l=[]→K (.E) (H++[.dead]))∧(l≠[]→∀(cap:Nat) (J:List PV),l.length≤cap→aK J ((cap-l.length)*6)→K (.arr H.length 0 l.length cap) (H++[.cells (flS l++J)]))
theorem BY (n:Nat):aK (List.replicate n [PV.U 0,.I 0,.I 0,.I 0,.I 0,.int .u64 0]).flatten (n*6):=by
 refine(aK.q7 (z:=[PV.U 0,.I 0,.I 0,.I 0,.I 0,.int .u64 0]) (fun y hy=>eB (⟨0,0,0,0,0,0⟩:Se) y hy) (fun y hy=>dc (⟨0,0,0,0,0,0⟩:Se) y hy) n).cast (by simp)
theorem F3:SpK 69 (.heap Cq):=by
 rintro args H K ⟨l,tl,he,hl,hk0,hk⟩
 have he:args=_:=he
 subst he
 refine bj (.cons (.list _ _) .nil) ?_
 by_cases c:l=[]
 ·subst c
  have h0:=hk0 rfl
  refine nC (Ms H _ ?_)
  intro b _
  rw[au]
  split
  ·exact h0
  ·exact⟨⟨(fun _ h=>nomatch h),(fun _ h=>nomatch h),by simp⟩,rfl,fun _=>h0,fun h=>absurd rfl h⟩
 ·refine KK H l _ ?_
  intro b hb
  rw[au,hb (Mz c),if_neg (by decide)]
  have hp:=List.length_pos_iff.2 c
  have e1:(List.map stc l).length=l.length:=List.length_map _
  rw[e1]
  refine⟨iB l,by omega,hp,fun cap hc=>?_⟩
  exact hk c cap _ hc (BY _)
theorem L8 (s:Se) (p:Int):∀(K:PV→ae→Prop),(K (.bool (s.pl == p)) [.cells [.U p],.cells [.U s.pl,.I s.tm,.I s.nu,.I s.st,.I s.un,.int .u64 s.no]])→AcK 96 [.agg (stc s),.ptr 0 0] [.cells [.U p]] K:=fun K h=>acW (T:=[]) (L:=[]) (fun _=>0) Tryz.func96 (aX.nil _ _) (LOk.nil _ _ _ _ _) h
def isP (p:Int) (s:Se):Bool:=s.pl == p
def ixS (l:List Se) (p:Int):Int:=if l.findIdx (isP p)<l.length then(l.findIdx (isP p):Int) else -1
def Nu (args:List PV) (H:ae) (K:PV→Prop):Prop:=∃(s:Se) (p:Int) (b:Nat),ah args [.agg (stc s),.ptr b 0]∧iw H b [.U p]∧K (.bool (isP p s))
theorem MR:SpK 96 (.read Nu):=by
 rintro args H K ⟨s,p,b,he,hc,hk⟩
 have he:args=_:=he
 subst he
 exact⟨_,zO (pre:=[.agg (stc s)]) aj hc cU (bw (.agg _ (dc s))) (.bool (isP p s)) (L8 s p _ ⟨rfl,[_],rfl⟩),hk⟩
def TAC:Tab:=[(96,.read Nu)]
theorem Em:TbK TAC:= .cons MR (.nil _ _)
theorem m7 (l:List Se) (i:Nat):InL (l.map stc) 6 (i:Int)=(i<l.length):=dD bQ (by decide) l i
theorem Km (H:ae) (l:List Se) (b i:Nat):(by refine(?_:_→_→_→Prop) (List.getD (l.map stc) (Int.toNat (i:Int)) []) (PV.I l.length) (PV.list (l.map stc) .no); exact fun a d f=>by refine(?_:_→Prop) [PV.list (l.map stc) .no,.fn 96 [.ptr b 0],.I 0,d,.I i]; exact fun c=>∀(R:Ex→List PV→ae→Prop),(br (decide ((i:Int)<(l.length:Int))) (InL (l.map stc) 6 (i:Int)∧br (true && aD [.int .u32,.int .i64,.int .i64,.int .i64,.int .i64,.int .u64] 0 a) (∃(s:Se) (p:Int) (b_1:Nat),ah [.agg [.U (cI a 0),.I (cI a 1),.I (cI a 2),.I (cI a 3),.I (cI a 4),.int .u64 (cI a 5)],.ptr b 0] [.agg [.U s.pl,.I s.tm,.I s.nu,.I s.st,.I s.un,.int .u64 s.no],.ptr b_1 0]∧iw H b_1 [.U p]∧br (isP p s) (R .ret [f,.fn 96 [.ptr b 0],.I i,d,.I i] H) (R .normal [f,.fn 96 [.ptr b 0],.I 0,d,.I (wI ((i:Int)+1))] H)) False) (R (.exit 0) c H))→Holds (wpK TAC [] (fun _=>0) (ai [1,0,1,0] (ag Tryz.f95)) [] (ak [0,1,4,7,8] c) H (fun ex e H=>R ex (List.map e [0,1,4,7,8]) H)):Prop):=fun R h=>hoE h
def I9:LSp:=fun e H Q=>∃(l:List Se) (b:Nat) (p:Int),l.length≤1000000∧ah (List.map e [0,1,4,7,8]) [.list (l.map stc) .no,.fn 96 [.ptr b 0],.I 0,.I l.length,.I 0]∧iw H b [.U p]∧
  (l.findIdx (isP p)<l.length→Q .ret (ak [0,1,4,7,8] [.list (l.map stc) .no,.fn 96 [.ptr b 0],.I (l.findIdx (isP p)),.I l.length,.I (l.findIdx (isP p))]) H)∧
  (l.findIdx (isP p)=l.length→Q (.exit 0) (ak [0,1,4,7,8] [.list (l.map stc) .no,.fn 96 [.ptr b 0],.I 0,.I l.length,.I l.length]) H)
theorem Cn:∀ e H Q,I9 e H Q→AwK Tryz.f95.ntmps (.loop (ai [1,0,1,0] (ag Tryz.f95))) Q e H:=by
 rintro e H Q ⟨l,b,p,hl,he,hb,hQ1,hQ2⟩
 have hfl:l.findIdx (isP p)≤l.length:=List.findIdx_le_length
 refine aB (hn:=fun _=>0) aj Em (.nil _ _ _ _ _) (σ:=Nat) [0,1,4,7,8] (fun i=>i≤l.findIdx (isP p)) (fun i=>[.list (l.map stc) .no,.fn 96 [.ptr b 0],.I 0,.I l.length,.I i]) (fun _=>H) (fun i=>l.length-i) 0 (Nat.zero_le _) he rfl ?_
 intro i hi
 have hi':i≤l.findIdx (isP p):=hi
 refine Km H l b i _ ?_
 simp only[au,dt,an,m7]
 by_cases h:i<l.length
 ·rw[if_pos (by omega)]
  simp only[getD_map default h]
  refine⟨h,?_⟩
  rw[if_pos (by rfl)]
  obtain⟨t,htd⟩:∃ t,t=l.getD i default:=⟨_,rfl⟩
  rw[← htd]
  refine⟨t,p,b,rfl,hb,?_⟩
  by_cases k:isP p t=true
  ·have hge:l.findIdx (isP p)=i:=ed default hi' h (by rw[← htd]; exact k)
   rw[hge] at hQ1
   rw[if_pos k]
   exact hQ1 h
  ·have hlt:i<l.findIdx (isP p):=ec default hi' h (by rw[← htd]; simpa using k)
   rw[if_neg k]
   exact⟨i+1,(show l.length-(i+1)<l.length-i by omega),hlt,by rw[ar h (by omega)],[],(List.append_nil _).symm,Nat.le_refl _,.inl rfl⟩
 ·rw[if_neg (by omega)]
  have:i=l.length:=by omega
  subst this
  exact hQ2 (by omega)
theorem KQ (H:ae) (l:List Se) (b:Nat):∀(K:PV→ae→Prop),(∃(l_1:List Se) (b_1:Nat) (p:Int),l_1.length≤1000000∧ah [.list (l.map stc) .no,.fn 96 [.ptr b 0],.I 0,.I (↑(List.length (l.map stc)):Int),.I 0] [.list (l_1.map stc) .no,.fn 96 [.ptr b_1 0],.I 0,.I l_1.length,.I 0]∧iw H b_1 [.U p]∧(List.findIdx (isP p) l_1<l_1.length→K (.I (↑(List.findIdx (isP p) l_1):Int)) H)∧(List.findIdx (isP p) l_1=l_1.length→K (.I (-1)) H))→AcK 95 [.list (l.map stc) .no,.fn 96 [.ptr b 0]] H K:=fun K h=>acW (T:=TAC) (L:=[([1,0,1,0],I9)]) (fun _=>0) Tryz.func95 (Em) (.cons suE Cn (.nil _ _ _ _ _)) h
def Nn (args:List PV) (H:ae) (K:PV→Prop):Prop:=∃(l:List Se) (tl:Tail) (b:Nat) (p:Int),ah args [.list (l.map stc) tl,.fn 96 [.ptr b 0]]∧iw H b [.U p]∧l.length≤1000000∧K (.I (ixS l p))
theorem Nv:SpK 95 (.read Nn):=by
 rintro args H K ⟨l,tl,b,p,he,hb,hl,hk⟩
 have he:args=_:=he
 subst he
 refine⟨_,bj (.cons (.list _ _) (.cons (.refl _) .nil)) (KQ H l b _ ⟨l,b,p,hl,(by show _=_; simp only[List.length_map]),hb,fun h=>⟨?_,rfl⟩,fun h=>⟨?_,rfl⟩⟩),hk⟩
 ·unfold ixS; rw[if_pos h]
 ·unfold ixS; rw[if_neg (by omega)]
def TIX:Tab:=[(95,.read Nn)]
theorem Cz:TbK TIX:= .cons Nv (.nil _ _)
theorem L1 (c:Mt) (p:Int):(by refine(?_:_→Prop) (PV.list (c.aa.map stc) .no); exact fun d=>by refine(?_:_→Prop) [Ob.cells [.U c.id,.I c.md,.U c.ins,.list (c.rows.map rrc) .no,d],.cells [.U p]]; exact fun a=>∀(K:PV→ae→Prop),(∃(l:List Se) (tl:Tail) (b:Nat) (p_1:Int),ah [d,.fn 96 [.ptr 1 0]] [.list (l.map stc) tl,.fn 96 [.ptr b 0]]∧iw a b [.U p_1]∧l.length≤1000000∧K (.I (ixS l p_1)) a)→AcK 63 [c.pv,.U p] [] K:Prop):=fun K h=>acW (T:=TIX) (L:=[]) (fun _=>0) Tryz.func63 (Cz) (LOk.nil _ _ _ _ _) h
theorem L9 (c:Mt) (n cap:Nat) (p:Int):(by refine(?_:_→Prop) (PV.list (c.aa.map stc) .no); exact fun e=>by refine(?_:_→Prop) [PV.U c.id,.I c.md,.U c.ins,.arr 0 0 n cap,e]; exact fun a=>by refine(?_:_→Prop) [Ob.dead,.cells a,.cells [.U p]]; exact fun d=>∀(K:PV→ae→Prop),(∃(l:List Se) (tl:Tail) (b:Nat) (p_1:Int),ah [e,.fn 96 [.ptr 2 0]] [.list (l.map stc) tl,.fn 96 [.ptr b 0]]∧iw d b [.U p_1]∧l.length≤1000000∧K (.I (ixS l p_1)) d)→AcK 63 [.agg a,.U p] [.dead] K:Prop):=fun K h=>acW (T:=TIX) (L:=[]) (fun o=>match o.dst with|some 6=>1|_=>0) Tryz.func63 (Cz) (LOk.nil _ _ _ _ _) h
def ez (c:Mt) (x y:PV):PV:= .agg [.U c.id,.I c.md,.U c.ins,x,y]
theorem Mt.low (c:Mt) {n:Nat}:Low n c.pv:=by
 refine .agg _ fun y hy=>?_
 simp only[List.mem_cons,List.not_mem_nil,or_false] at hy
 rcases hy with rfl|rfl|rfl|rfl|rfl<;>first|exact .int _ _|exact aR _|exact dz _
theorem yd (c:Mt) (p:Int) (h:c.aa.length≤1000000):jn Tryz.prog gl 63 [c.pv,.U p] (.I (ixS c.aa p)):=
 jn.alone aj (bn c.low (.int _ _)) (.int _ _) (L1 c p _ ⟨c.aa,.no,1,p,rfl,rfl,h,rfl⟩)
theorem FU (c:Mt) (n cap:Nat) (p:Int) (h:c.aa.length≤1000000) {H:ae} {o:Nat} (ho:o<H.length):AcK 63 [ez c (.arr o 0 n cap) (.list (c.aa.map stc) .no),.U p] (gq H) (fun x H'=>x = .I (ixS c.aa p)∧H'=gq H):=by
 have hd:(gq H)[o]?=some .dead:=by
  simp only[gq,List.getElem?_map,List.getElem?_eq_getElem ho]; rfl
 have h1:AcK 63 [ez c (.arr 0 0 n cap) (.list (c.aa.map stc) .no),.U p] [.dead] (fun x H'=>x = .I (ixS c.aa p)∧H'=[.dead]):=
  ax.same (.int _ _) (L9 c n cap p _ ⟨c.aa,.no,2,p,rfl,rfl,h,rfl,[_,_],rfl⟩)
 have hsub:Sub (fun _=>o) [.dead] (gq H):=by
  refine⟨fun _ _=>(List.getElem?_eq_some_iff.1 hd).1,fun a b h1 h2 _=>by simp at h1 h2; omega,fun j a hj=>?_⟩
  have e1:=(List.getElem?_eq_some_iff.1 hj).1
  have:j=0:=by simpa using e1
  subst this; cases hj
  exact⟨_,hd,.dead _⟩
 refine a8 aj hsub (.cons (Ren.iS (.cons (.low (.int _ _)) (.cons (.low (.int _ _)) (.cons (.low (.int _ _)) (.cons (.arr (ρ:=fun _=>o) 0 0 n cap (by simp)) (.cons (.low (dz _)) .nil)))))) (.cons (.low (.int _ _)) .nil)) (aM h1 fun x H' e=>?_)
 obtain⟨rfl,rfl⟩:=e
 refine⟨.I (ixS c.aa p),gq H,⟨Nat.le_refl _,by simp,fun j a hj=>?_,fun _ _ _=>rfl⟩,.low (.int _ _),rfl,rfl⟩
 have e1:=(List.getElem?_eq_some_iff.1 hj).1
 have:j=0:=by simpa using e1
 subst this; cases hj
 exact⟨.dead,hd,.dead _,fun h=>h⟩
def LU (args:List PV) (H:ae) (K:PV→Prop):Prop:=∃(c:Mt) (x y:PV) (p:Int),ah args [.agg [.U c.id,.I c.md,.U c.ins,x,y],.U p]∧c.aa.length≤1000000∧
 (((∃ t,x = .list (c.rows.map rrc) t)∧(∃ t,y = .list (c.aa.map stc) t))∨((∃ t,x = .list (c.rows.map rrc) t)∧∃(o cap:Nat) (J:List PV),y = .arr o 0 c.aa.length cap∧c.aa.length≤cap∧iw H o (flS c.aa++J))∨
  ((∃ o n cap,x = .arr o 0 n cap∧o<H.length)∧∃(o cap:Nat) (J:List PV),y = .arr o 0 c.aa.length cap∧c.aa.length≤cap∧iw H o (flS c.aa++J)))∧K (.I (ixS c.aa p))
theorem gW {c:Mt} {t1 t2:Tail}:Wk (ez c (.list (c.rows.map rrc) t1) (.list (c.aa.map stc) t2)) c.pv:= .agg (.cons (.refl _) (.cons (.refl _) (.cons (.refl _) (.cons (.list _ _) (.cons (.list _ _) .nil)))))
theorem Kf {c:Mt} {t1:Tail} {y:PV}:Wk (ez c (.list (c.rows.map rrc) t1) y) (ez c (.list (c.rows.map rrc) .no) y):= .agg (.cons (.refl _) (.cons (.refl _) (.cons (.refl _) (.cons (.list _ _) (.cons (.refl _) .nil)))))
theorem HQ {n:Nat} (l:List Se):∀ x∈flS l,Low n x:=bp fun a _=>dc a
theorem sY {H:ae} {o cap:Nat} {l:List Se} {J:List PV} (hc:l.length≤cap) (ho:iw H o (flS l++J)):Ld H (.arr o 0 l.length cap) (.list (l.map stc) .no):=by
 have:=Ld.arr (H:=H) o 0 cap 6 [] J (l.map stc) ho rfl (b8 bQ l) (by rw[List.length_map]; exact hc) (HQ l)
 rw[List.length_map] at this
 exact this
theorem J3:SpK 63 (.read LU):=by
 rintro args H K ⟨c,x,y,p,he,h,hx,hk⟩
 have he:args=_:=he
 subst he
 rcases hx with⟨⟨t1,rfl⟩,t2,rfl⟩|⟨⟨t1,rfl⟩,o,cap,J,rfl,hc,ho⟩|⟨⟨o2,n,cap2,rfl,ho2⟩,o,cap,J,rfl,hc,ho⟩
 ·exact⟨_,bj (.cons gW (.cons (.refl _) .nil)) (yd c p h H),hk⟩
 ·exact⟨_,bj (.cons Kf (.cons (.refl _) .nil)) (nJ aj (.int _ _) (.cons (Ld.iS (.cons (.low (.int _ _)) (.cons (.low (.int _ _)) (.cons (.low (.int _ _)) (.cons (.low (aR _)) (.cons (sY hc ho) .nil)))))) (.cons (.low (.int _ _)) .nil)) (yd c p h (gq H))),hk⟩
 ·exact⟨_,nJ aj (.int _ _) (.cons (Ld.iS (.cons (.low (.int _ _)) (.cons (.low (.int _ _)) (.cons (.low (.int _ _)) (.cons (.name o2 0 n cap2 ho2) (.cons (sY hc ho) .nil)))))) (.cons (.low (.int _ _)) .nil)) (FU c n cap2 p h ho2),hk⟩
theorem n7 (l:List Se) (i:Nat):InL (l.map stc) 6 (i:Int)=(i<l.length):=m7 l i
abbrev flR (l:List Rr):List PV:=(l.map rrc).flatten
def rwA (o cap:Nat) (r:Rr):List PV:=[.I r.tm,.arr o 0 r.pl.length cap,.I r.rt,.I r.wd]
def rsJ (o j cap:Nat) (l:List Rr):List (List PV):=(l.map rrc).set j (rwA o cap (l.getD j default))
def zrr:List PV:=[.I 0,.E,.I 0,.I 0]
def rsI (l:List Rr) (i:Nat):List (List PV):=(l.map rrc).take i++List.replicate (l.length-i) zrr
theorem ou (l:List Rr) (i:Nat):uni 4 (rsI l i):=by
 intro e he
 rcases List.mem_append.1 he with h1|h1
 ·obtain⟨a,_,rfl⟩:=List.mem_map.1 (List.mem_of_mem_take h1); rfl
 ·rw[(List.mem_replicate.1 h1).2]; rfl
theorem lm {l:List Rr} {i:Nat} (hi:i≤l.length):(rsI l i).length=l.length:=by
 unfold rsI; rw[List.length_append,List.length_take,List.length_map,List.length_replicate]; omega
theorem lC {n:Nat} (l:List Rr) (i:Nat):∀ x∈(rsI l i).flatten,Low n x:=by
 intro x hx
 obtain⟨e,he,hx⟩:=List.mem_flatten.1 hx
 rcases List.mem_append.1 he with h1|h1
 ·obtain⟨a,_,rfl⟩:=List.mem_map.1 (List.mem_of_mem_take h1); exact bJ a x hx
 ·rw[(List.mem_replicate.1 h1).2] at hx
  exact iX (.int _ _) (aH NT.exact (by simp)) (.int _ _) (.int _ _) x hx
theorem H9 {s:Nat} {E:List (List PV)} (h:uni s E) {j:Nat} {xs:List PV} (hx:xs.length=s):uni s (E.set j xs):=by
 intro e he
 rcases List.mem_or_eq_of_mem_set he with h1|rfl
 ·exact h e h1
 ·exact hx
theorem qe {l:List Rr} {i:Nat} (hi:i<l.length):(rsI l i).set i (rrc (l.getD i default))=rsI l (i+1):=by
 unfold rsI
 have h1:((l.map rrc).take i).length=i:=by rw[List.length_take,List.length_map]; omega
 rw[List.set_append_right _ _ (by omega),h1,Nat.sub_self,show l.length-i=(l.length-(i+1))+1 by omega,List.replicate_succ,List.set_cons_zero,List.take_add_one,List.getElem?_map,List.getElem?_eq_getElem hi,List.getD_eq_getElem?_getD,List.getElem?_eq_getElem hi]
 simp
theorem uf (l:List Rr):rsI l l.length=l.map rrc:=by
 unfold rsI; rw[Nat.sub_self,List.take_of_length_le (by simp)]; simp
theorem ue {l:List Rr} {i:Nat} {E:List (List PV)} (hu:uni 4 E) (hE:E.length=l.length) (h:i<l.length):0+i*4+4≤E.flatten.length:=by
 rw[eV hu,hE]; omega
theorem tj {ρ:Nat→Nat} {m:Nat}:∀ {E E':List (List PV)},E.length=E'.length→(∀(k:Nat) (e e':List PV),E[k]?=some e→E'[k]?=some e'→aW ρ m e e')→aW ρ m E.flatten E'.flatten
 | [],[],_,_=> .nil
 | e::E,e'::E',hl,h=>(h 0 e e' rfl rfl).append (tj (by simpa using hl) fun k a b h1 h2=>h (k+1) a b h1 h2)
theorem eK {ρ:Nat→Nat} {n:Nat} {g:Ob} (hg:∀ cs,g = .cells cs→∀ x∈cs,Low 0 x):dB ρ n g g:=by
 cases g with
 | cells cs=>exact .cells (aW.low (hg cs rfl))
 | tok=>exact .tok
 | dead=>exact .dead _
 | abs r=>exact .abs r
theorem rT {ρ:Nat→Nat} {m:Nat} {E:List (List PV)} (hE:∀ x∈E.flatten,Low 0 x) (j o cap:Nat) (r:Rr) (ho:o<m):aW ρ m (E.set j (rwA o cap r)).flatten (E.set j (rwA (ρ o) cap r)).flatten:=by
 refine tj (by simp) fun k e e' h1 h2=>?_
 rw[List.getElem?_set] at h1 h2
 by_cases c:j=k
 ·rw[if_pos c] at h1 h2
  split at h1
  ·rename_i hk
   rw[if_pos hk] at h2
   cases h1; cases h2
   exact .cons (.low (.int _ _)) (.cons (.arr (ρ:=ρ) o 0 _ cap ho) (.cons (.low (.int _ _)) (.cons (.low (.int _ _)) .nil)))
  ·cases h1
 ·rw[if_neg c] at h1 h2
  rw[h1] at h2; cases h2
  exact aW.low fun x hx=>hE x (List.mem_flatten.2 ⟨e,List.mem_iff_getElem?.2 ⟨k,h1⟩,hx⟩)
theorem yI {E:List (List PV)} (hE:∀ x∈E.flatten,Low 0 x) (j o cap n:Nat) (r:Rr) (ho:o<n):∀ x∈(E.set j (rwA o cap r)).flatten,Lid n x:=by
 intro x hx
 obtain⟨e,he,hx⟩:=List.mem_flatten.1 hx
 rcases List.mem_or_eq_of_mem_set he with h1|rfl
 ·exact .low (hE x (List.mem_flatten.2 ⟨e,h1,hx⟩))
 ·simp only[rwA,List.mem_cons,List.not_mem_nil,or_false] at hx
  rcases hx with rfl|rfl|rfl|rfl<;>first|exact .low (.int _ _)|exact .arr _ _ _ _ ho
theorem ee (l:List Rr) (i:Nat):InL (l.map rrc) 4 (i:Int)=(i<l.length):=dD fA (by decide) l i
def IY:Tab:=[(69,.heap Cq),(70,.heap E6)]
theorem xR:TbK IY:= .cons F3 (.cons yO (.nil _ _))
theorem BJ (l:List Rr) (mc rc:List PV) (g:Ob) (i:Nat):(by refine(?_:_→_→_→_→_→_→Prop) (List.getD (l.map rrc) (Int.toNat (i:Int)) []) (Ob.cells [.U 0,.I 0,.U 0,.E,.E]) (0+Int.toNat (i:Int)*4) (PV.arr 3 0 l.length l.length) (PV.list (l.map rrc) .no) (PV.I l.length); exact fun c d j m n q=>by refine(?_:_→_→_→_→_→_→Prop) [PV.ptr 0 0,.ptr 1 0,m,n,q,.I (wI ((i:Int)+1))] [PV.ptr 0 0,.ptr 1 0,m,n,q,.I i] [Ob.cells mc,d,g,.cells rc] (PV.I (cI c 0)) (PV.I (cI c 2)) (PV.I (cI c 3)); exact fun f h k p r s=>∀(R:Ex→List PV→ae→Prop),(br (decide ((i:Int)<(l.length:Int))) (InL (l.map rrc) 4 (i:Int)∧br (true && aD [.int .i64,.list,.int .i64,.int .i64] 0 c) (∃(l_1:List Int) (tl:Tail),by refine(?_:_→Prop) [p,.list (l_1.map u1) .no,r,s]; exact fun b=>ah [.list (cL c 1) (cT c 1)] [.list (l_1.map u1) tl]∧l_1.length≤1000000∧((0≤(i:Int)∧(i:Int)<(l.length:Int))∧br (4 == 4 && List.all b PV.one && decide (0+Int.toNat (i:Int)*4+4≤rc.length) && cW 0 3 j 4) (R .normal f [.cells mc,d,g,.cells (over rc j b),.cells b]) False∨l_1≠[]∧∀(cap:Nat),by refine(?_:_→Prop) [p,.arr 5 0 l_1.length cap,r,s]; exact fun a=>l_1.length≤cap→∀(J:List PV),aK J (cap-l_1.length)→(0≤(i:Int)∧(i:Int)<(l.length:Int))∧br (4 == 4 && List.all a PV.one && decide (0+Int.toNat (i:Int)*4+4≤rc.length) && cW 0 3 j 4) (R .normal f [.cells mc,d,g,.cells (over rc j a),.cells a,.cells (List.flatten (l_1.map u1)++J)]) False)) False) (R (.exit 0) h k))→Holds (wpK IY [] (fun o=>match o.dst with|some 28=>1|_=>0) (ai [1,1,1,0,1,0] (ag Tryz.f36)) [] (ak [1,2,3,15,16,17] h) k (fun ex e H=>R ex (List.map e [1,2,3,15,16,17]) H)):Prop):=fun R h=>hoE h
theorem C9 (l:List Rr) (mc rc pj:List PV) (g:Ob) (i:Nat):(by refine(?_:_→_→_→_→_→_→Prop) (List.getD (l.map rrc) (Int.toNat (i:Int)) []) (Ob.cells [.U 0,.I 0,.U 0,.E,.E]) (0+Int.toNat (i:Int)*4) (PV.arr 3 0 l.length l.length) (PV.list (l.map rrc) .no) (PV.I l.length); exact fun c d j m n q=>by refine(?_:_→_→_→_→_→_→Prop) [PV.ptr 0 0,.ptr 1 0,m,n,q,.I (wI ((i:Int)+1))] [PV.ptr 0 0,.ptr 1 0,m,n,q,.I i] [Ob.cells mc,d,g,.cells rc,.cells pj] (PV.I (cI c 0)) (PV.I (cI c 2)) (PV.I (cI c 3)); exact fun f h k p r s=>∀(R:Ex→List PV→ae→Prop),(br (decide ((i:Int)<(l.length:Int))) (InL (l.map rrc) 4 (i:Int)∧br (true && aD [.int .i64,.list,.int .i64,.int .i64] 0 c) (∃(l_1:List Int) (tl:Tail),by refine(?_:_→Prop) [p,.list (l_1.map u1) .no,r,s]; exact fun b=>ah [.list (cL c 1) (cT c 1)] [.list (l_1.map u1) tl]∧l_1.length≤1000000∧((0≤(i:Int)∧(i:Int)<(l.length:Int))∧br (4 == 4 && List.all b PV.one && decide (0+Int.toNat (i:Int)*4+4≤rc.length) && cW 0 3 j 4) (R .normal f [.cells mc,d,g,.cells (over rc j b),.cells pj,.cells b]) False∨l_1≠[]∧∀(cap:Nat),by refine(?_:_→Prop) [p,.arr 6 0 l_1.length cap,r,s]; exact fun a=>l_1.length≤cap→∀(J:List PV),aK J (cap-l_1.length)→(0≤(i:Int)∧(i:Int)<(l.length:Int))∧br (4 == 4 && List.all a PV.one && decide (0+Int.toNat (i:Int)*4+4≤rc.length) && cW 0 3 j 4) (R .normal f [.cells mc,d,g,.cells (over rc j a),.cells pj,.cells a,.cells (List.flatten (l_1.map u1)++J)]) False)) False) (R (.exit 0) h k))→Holds (wpK IY [] (fun o=>match o.dst with|some 28=>1|_=>0) (ai [1,1,1,0,1,0] (ag Tryz.f36)) [] (ak [1,2,3,15,16,17] h) k (fun ex e H=>R ex (List.map e [1,2,3,15,16,17]) H)):Prop):=fun R h=>hoE h
def HpO (mc:List PV) (g:Ob) (l:List Rr) (j:Nat) (s:Nat×Nat×List PV):ae:=if s.1≤j then [.cells mc,.cells [.U 0,.I 0,.U 0,.E,.E],g,.cells (rsI l s.1).flatten] else [.cells mc,.cells [.U 0,.I 0,.U 0,.E,.E],g,.cells ((rsI l s.1).set j (rwA 4 s.2.1 (l.getD j default))).flatten,.cells s.2.2]
def RwJ (r:Rr) (cap:Nat) (pj:List PV):Prop:=r.pl.length≤cap∧∃ J:List PV,pj=(r.pl.map u1).flatten++J∧aK J (cap-r.pl.length)
def Jk:LSp:=fun e H Q=>∃(l:List Rr) (id md ins:Int) (y:PV) (g:Ob) (j:Nat),l.length≤1000000∧(∀ r∈l,r.pl.length≤1000000)∧(j<l.length→(l.getD j default).pl≠[])∧j≤l.length∧Lid 4 y∧(∀ cs,g = .cells cs→∀ x∈cs,Low 0 x)∧
 ah (List.map e [1,2,3,15,16,17]) [.ptr 0 0,.ptr 1 0,.arr 3 0 l.length l.length,.list (l.map rrc) .no,.I l.length,.I 0]∧av H [.cells [.U id,.I md,.U ins,.list (l.map rrc) .no,y],.cells [.U 0,.I 0,.U 0,.E,.E],g,.cells (List.replicate l.length zrr).flatten]∧
 (j=l.length→Q (.exit 0) (ak [1,2,3,15,16,17] [.ptr 0 0,.ptr 1 0,.arr 3 0 l.length l.length,.list (l.map rrc) .no,.I l.length,.I l.length]) [.cells [.U id,.I md,.U ins,.list (l.map rrc) .no,y],.cells [.U 0,.I 0,.U 0,.E,.E],g,.cells (flR l)])∧
 (j<l.length→∀(cap:Nat) (pj:List PV),RwJ (l.getD j default) cap pj→Q (.exit 0) (ak [1,2,3,15,16,17] [.ptr 0 0,.ptr 1 0,.arr 3 0 l.length l.length,.list (l.map rrc) .no,.I l.length,.I l.length]) [.cells [.U id,.I md,.U ins,.list (l.map rrc) .no,y],.cells [.U 0,.I 0,.U 0,.E,.E],g,.cells (rsJ 4 j cap l).flatten,.cells pj])
theorem sv:∀ x∈([.U 0,.I 0,.U 0,.E,.E]:List PV),Low 0 x:=by
 intro y hy
 simp only[List.mem_cons,List.not_mem_nil,or_false] at hy
 rcases hy with rfl|rfl|rfl|rfl|rfl<;>first|exact .int _ _|exact aH NT.exact (by simp)
theorem RwJ.low {r:Rr} {cap:Nat} {pj:List PV} (h:RwJ r cap pj):∀ x∈pj,Low 0 x:=by
 obtain⟨_,J,rfl,hJ⟩:=h
 exact fH (fun a _=>bO a) hJ.low
theorem AK:∀ e H Q,Jk e H Q→AwK Tryz.f36.ntmps (.loop (ai [1,1,1,0,1,0] (ag Tryz.f36))) Q e H:=by
 rintro e H Q ⟨l,id,md,ins,y,g,j,hl,hpl,hne,hj,hy,hg,he,hH,hQ1,hQ2⟩
 obtain⟨mc,hmcd⟩:∃ mc:List PV,mc=[.U id,.I md,.U ins,.list (l.map rrc) .no,y]:=⟨_,rfl⟩
 have hmc:∀ x∈mc,Lid 4 x:=by
  intro x hx
  rw[hmcd] at hx
  simp only[List.mem_cons,List.not_mem_nil,or_false] at hx
  rcases hx with rfl|rfl|rfl|rfl|rfl<;>first|exact hy|exact .low (.int _ _)|exact .low (aR _)
 rw[← hmcd] at hH hQ1 hQ2
 have he:List.map e [1,2,3,15,16,17]=_:=he
 have hH:H=_:=hH
 have lidv:∀(N i:Nat),4≤N→∀ v∈([.ptr 0 0,.ptr 1 0,.arr 3 0 l.length l.length,.list (l.map rrc) .no,.I l.length,.I i]:List PV),Lid N v:=by
  intro N i hN v hv
  simp only[List.mem_cons,List.not_mem_nil,or_false] at hv
  rcases hv with rfl|rfl|rfl|rfl|rfl|rfl
  ·exact .ptr _ _ (by omega)
  ·exact .ptr _ _ (by omega)
  ·exact .arr _ _ _ _ (by omega)
  ·exact .low (aR _)
  ·exact .low (.int _ _)
  ·exact .low (.int _ _)
 have lid4:∀(E:List PV),(∀ x∈E,Low 0 x)→gN 4 [.cells mc,.cells [.U 0,.I 0,.U 0,.E,.E],g,.cells E]:=by
  intro E hE o cs ho
  have k1:=(List.getElem?_eq_some_iff.1 ho).1
  simp at k1
  have:o=0∨o=1∨o=2∨o=3:=by omega
  rcases this with rfl|rfl|rfl|rfl
  ·cases ho; exact hmc
  ·cases ho; exact fun x hx=> .low (sv x hx)
  ·exact fun x hx=> .low (hg cs (by simpa using ho) x hx)
  ·cases ho; exact fun x hx=> .low (hE x hx)
 have lid5:∀(E pj:List PV),(∀ x∈E,Lid 5 x)→(∀ x∈pj,Low 0 x)→gN 5 [.cells mc,.cells [.U 0,.I 0,.U 0,.E,.E],g,.cells E,.cells pj]:=by
  intro E pj hE hp o cs ho
  have k1:=(List.getElem?_eq_some_iff.1 ho).1
  simp at k1
  have:o=0∨o=1∨o=2∨o=3∨o=4:=by omega
  rcases this with rfl|rfl|rfl|rfl|rfl
  ·cases ho; exact fun x hx=>(hmc x hx).up (by decide)
  ·cases ho; exact fun x hx=> .low (sv x hx)
  ·exact fun x hx=> .low (hg cs (by simpa using ho) x hx)
  ·cases ho; exact hE
  ·cases ho; exact fun x hx=> .low (hp x hx)
 have h00:(List.replicate l.length zrr).flatten=(rsI l 0).flatten:=by unfold rsI; simp
 refine fF (hn:=fun o=>match o.dst with|some 28=>1|_=>0) aj xR (.nil _ _ _ _ _) (σ:=Nat×Nat×List PV) [1,2,3,15,16,17] (fun s=>s.1≤l.length∧(j<s.1→RwJ (l.getD j default) s.2.1 s.2.2))
  (fun s=>[.ptr 0 0,.ptr 1 0,.arr 3 0 l.length l.length,.list (l.map rrc) .no,.I l.length,.I s.1]) (HpO mc g l j) (fun s=>l.length-s.1) (0,0,[]) ⟨Nat.zero_le _,fun h=>absurd h (Nat.not_lt_zero _)⟩ he (by rw[hH,h00]; unfold HpO; rw[if_pos (Nat.zero_le _)]) ?_
 have hHl:H.length=4:=by rw[hH]; rfl
 rw[hHl]
 rintro⟨i,cap,pj⟩ ⟨hi,hc⟩
 have hi:i≤l.length:=hi
 have hc:j<i→RwJ (l.getD j default) cap pj:=hc
 by_cases h:i<l.length
 ·obtain⟨r,hr⟩:∃ r,r=l.getD i default:=⟨_,rfl⟩
  have c0:cI (rrc r) 0=r.tm:=rfl
  have c1:cL (rrc r) 1=r.pl.map u1:=rfl
  have c1':cT (rrc r) 1 = .no:=rfl
  have c2:cI (rrc r) 2=r.rt:=rfl
  have c3:cI (rrc r) 3=r.wd:=rfl
  have hrl:r.pl.length≤1000000:=hpl r (by rw[hr]; exact aY h)
  have hru:rrc r=[.I r.tm,.list (r.pl.map u1) .no,.I r.rt,.I r.wd]:=rfl
  by_cases hij:i≤j
  ·unfold HpO
   rw[if_pos hij]
   refine BJ l mc (rsI l i).flatten g i _ ?_
   simp only[au,dt,an,ee]
   rw[if_pos (by omega)]
   simp only[getD_map default h,← hr,c0,c1,c1',c2,c3]
   refine⟨h,?_⟩
   rw[if_pos (by rfl)]
   have hsz:decide (0+i*4+4≤(rsI l i).flatten.length)=true:=decide_eq_true (ue (ou l i) (lm hi) h)
   have hset:over (rsI l i).flatten (0+i*4) (rrc r)=(rsI l (i+1)).flatten:=by
    rw[← qe h,← hr,Nat.zero_add]; exact(gu (ou l i) (by rw[lm hi]; exact h) rfl).symm
   refine⟨r.pl,.no,rfl,hrl,?_⟩
   by_cases hjj:i=j
   ·subst hjj
    refine .inr ⟨by rw[hr]; exact hne h,fun cap' hcap J hJ=>⟨⟨by omega,by omega⟩,?_⟩⟩
    rw[if_pos (by rw[hsz]; rfl)]
    have hseto:∀ o,over (rsI l i).flatten (0+i*4) [.I r.tm,.arr o 0 r.pl.length cap',.I r.rt,.I r.wd]=((rsI l (i+1)).set i (rwA o cap' r)).flatten:=by
     intro o
     rw[← qe h,List.set_set,Nat.zero_add]; exact(gu (ou l i) (by rw[lm hi]; exact h) rfl).symm
    rw[hseto]
    refine⟨(i+1,cap',(r.pl.map u1).flatten++J),(show l.length-(i+1)<l.length-i by omega),⟨h,fun _=>by rw[← hr]; exact⟨hcap,J,rfl,hJ⟩⟩,?_⟩
    show ej 4 _ _ _ (HpO mc g l i (i+1,cap',_))
    unfold HpO
    rw[if_neg (by show ¬ i+1≤i; omega),← hr]
    have hρ:∀ o,o<4→[0,1,2,3,5].getD o 0=o:=by
     intro o ho
     have:o=0∨o=1∨o=2∨o=3:=by omega
     rcases this with rfl|rfl|rfl|rfl<;>rfl
    refine aT [0,1,2,3,5] (WkL.refl _) (.cons rfl (.cells (nh hρ (by simp) hmc)) (.cons rfl (.cells (aW.low sv)) (.cons rfl ?_ (.cons rfl (.cells ?_) (.cons rfl (.cells (aW.low (fH (fun a _=>bO a) hJ.low))) .nil))))) (by decide) (by simp) hρ ?_
    ·exact eK hg
    ·exact rT (ρ:=fun o=>[0,1,2,3,5].getD o 0) (lC l (i+1)) i 4 cap' r (by simp)
    ·rw[ar h (by omega)]
     exact nh hρ (by simp) (lidv 4 (i+1) (Nat.le_refl _))
   ·refine .inl ⟨⟨by omega,by omega⟩,?_⟩
    rw[if_pos (by rw[hsz]; rfl),← hru,hset]
    refine⟨(i+1,cap,pj),(show l.length-(i+1)<l.length-i by omega),⟨h,fun k=>absurd (show j<i+1 from k) (by omega)⟩,?_⟩
    show ej 4 _ _ _ (HpO mc g l j (i+1,cap,pj))
    unfold HpO
    rw[if_pos (by show i+1≤j; omega),ar h (by omega)]
    exact eI (G:=[_]) (lid4 _ (lC l (i+1))) (lidv 4 (i+1) (Nat.le_refl _)) (Nat.le_refl _)
  ·have hp:=hc (by omega)
   unfold HpO
   rw[if_neg hij]
   have hu2:uni 4 ((rsI l i).set j (rwA 4 cap (l.getD j default))):=H9 (ou l i) rfl
   refine C9 l mc _ pj g i _ ?_
   simp only[au,dt,an,ee]
   rw[if_pos (by omega)]
   simp only[getD_map default h,← hr,c0,c1,c1',c2,c3]
   refine⟨h,?_⟩
   rw[if_pos (by rfl)]
   have hsz:decide (0+i*4+4≤((rsI l i).set j (rwA 4 cap (l.getD j default))).flatten.length)=true:=decide_eq_true (ue hu2 (by rw[List.length_set,lm hi]) h)
   have hset:over ((rsI l i).set j (rwA 4 cap (l.getD j default))).flatten (0+i*4) (rrc r)=((rsI l (i+1)).set j (rwA 4 cap (l.getD j default))).flatten:=by
    rw[← qe h,← hr,Nat.zero_add,← gu hu2 (by rw[List.length_set,lm hi]; exact h) rfl,List.set_comm _ _ (by omega)]
   refine⟨r.pl,.no,rfl,hrl,.inl ⟨⟨by omega,by omega⟩,?_⟩⟩
   rw[if_pos (by rw[hsz]; rfl),← hru,hset]
   refine⟨(i+1,cap,pj),(show l.length-(i+1)<l.length-i by omega),⟨h,fun _=>hp⟩,?_⟩
   show ej 4 _ _ _ (HpO mc g l j (i+1,cap,pj))
   unfold HpO
   rw[if_neg (by show ¬ i+1≤j; omega),ar h (by omega)]
   exact eI (G:=[_]) (lid5 _ _ (yI (lC l (i+1)) _ _ _ _ _ (by decide)) hp.low) (lidv 5 (i+1) (by decide)) (by simp)
 ·have:i=l.length:=by omega
  subst this
  by_cases hij:l.length≤j
  ·have hj2:j=l.length:=by omega
   unfold HpO
   rw[if_pos hij]
   refine BJ l mc (rsI l l.length).flatten g l.length _ ?_
   simp only[au,dt]
   rw[if_neg (by omega)]
   refine⟨_,_,eI (G:=[]) (lid4 _ (lC l l.length)) (lidv 4 l.length (Nat.le_refl _)) (Nat.le_refl _),?_⟩
   rw[uf]; exact hQ1 hj2
  ·have hp:=hc (by omega)
   unfold HpO
   rw[if_neg hij]
   refine C9 l mc _ pj g l.length _ ?_
   simp only[au,dt]
   rw[if_neg (by omega)]
   refine⟨_,_,eI (G:=[]) (lid5 _ _ (yI (lC l l.length) _ _ _ _ _ (by decide)) hp.low) (lidv 5 l.length (by decide)) (by simp),?_⟩
   rw[uf]; exact hQ2 (by omega) cap pj hp
theorem F7 (c:Mt):(by refine(?_:_→_→_→_→Prop) (↑(List.length (c.rows.map rrc)):Int) (Ob.cells [.U 0,.I 0,.U 0,.E,.E]) [PV.I 0,.E,.I 0,.I 0] (PV.list (c.rows.map rrc) .no); exact fun m n o s=>by refine(?_:_→_→Prop) [PV.ptr 0 0,.ptr 1 0,.arr 3 0 (Int.toNat m) (Int.toNat m),s,.I m,.I 0] (Ob.cells (List.flatten (List.replicate (Int.toNat m) o))); exact fun p q=>∀(K:PV→ae→Prop),(∃(l:List Se) (tl:Tail),ah [.list (c.aa.map stc) .no] [.list (l.map stc) tl]∧l.length≤1000000∧(l=[]→0≤m∧m≤m∧m≤140737488355328∧m*48≤140737488355328∧∃(l:List Rr) (id:Int) (md:Int) (ins:Int) (y:PV) (g:Ob) (j:Nat),by refine(?_:_→_→_→Prop) (PV.arr 3 0 l.length l.length) (List.getD l j default) (PV.list (l.map rrc) .no); exact fun h i k=>by refine(?_:_→Prop) [PV.U id,.I md,.U ins,h,y]; exact fun f=>l.length≤1000000∧(∀(r:Rr),r∈l→r.pl.length≤1000000)∧(j<l.length→Rr.pl i≠[])∧j≤l.length∧Lid 4 y∧(∀(cs:List PV),g = .cells cs→∀(x:PV),x∈cs→Low 0 x)∧ah p [.ptr 0 0,.ptr 1 0,h,k,.I l.length,.I 0]∧av [.cells [.U c.id,.I c.md,.U c.ins,s,.E],n,.dead,q] [.cells [.U id,.I md,.U ins,k,y],n,g,.cells (List.flatten (List.replicate l.length o))]∧(j=l.length→br (5 == 5 && List.all f PV.one && true && true) (K (.agg f) [.cells f,.cells f,g,.cells (flR l)]) False)∧(j<l.length→∀(cap:Nat),∀(pj:List PV),RwJ i cap pj→br (5 == 5 && List.all f PV.one && true && true) (K (.agg f) [.cells f,.cells f,g,.cells (List.flatten (rsJ 4 j cap l)),.cells pj]) False))∧(l≠[]→∀(cap:Nat),∀(J:List PV),l.length≤cap→aK J ((cap-l.length)*6)→0≤m∧m≤m∧m≤140737488355328∧m*48≤140737488355328∧∃(l_1:List Rr) (id:Int) (md:Int) (ins:Int) (y:PV) (g:Ob) (j:Nat),by refine(?_:_→_→_→Prop) (PV.arr 3 0 l_1.length l_1.length) (List.getD l_1 j default) (PV.list (l_1.map rrc) .no); exact fun b d e=>by refine(?_:_→Prop) [PV.U id,.I md,.U ins,b,y]; exact fun a=>l_1.length≤1000000∧(∀(r:Rr),r∈l_1→r.pl.length≤1000000)∧(j<l_1.length→Rr.pl d≠[])∧j≤l_1.length∧Lid 4 y∧(∀(cs:List PV),g = .cells cs→∀(x:PV),x∈cs→Low 0 x)∧ah p [.ptr 0 0,.ptr 1 0,b,e,.I l_1.length,.I 0]∧av [.cells [.U c.id,.I c.md,.U c.ins,s,.arr 2 0 l.length cap],n,.cells (flS l++J),q] [.cells [.U id,.I md,.U ins,e,y],n,g,.cells (List.flatten (List.replicate l_1.length o))]∧(j=l_1.length→br (5 == 5 && List.all a PV.one && true && true) (K (.agg a) [.cells a,.cells a,g,.cells (flR l_1)]) False)∧(j<l_1.length→∀(cap:Nat),∀(pj:List PV),RwJ d cap pj→br (5 == 5 && List.all a PV.one && true && true) (K (.agg a) [.cells a,.cells a,g,.cells (List.flatten (rsJ 4 j cap l_1)),.cells pj]) False)))→AcK 36 [c.pv] [] K:Prop):=fun K h=>acW (T:=IY) (L:=[([1,1,1,0,1,0],Jk)]) (fun o=>match o.dst with|some 33=>1|_=>0) Tryz.func36 (xR) (.cons suE AK (.nil _ _ _ _ _)) h
theorem mN {α:Type} {f:α→List PV} {n:Nat} (hf:∀ a,∀ x∈f a,Low n x) (l:List α):Low n (.list (l.map f) .exact):=aH NT.exact (bp fun a _=>hf a)
theorem fZ {n:Nat} {a b c d e:PV} (ha:Low n a) (hb:Low n b) (hc:Low n c) (hd:Low n d) (he:Low n e):∀ x∈[a,b,c,d,e],Low n x:=by
 intro x hx
 simp only[List.mem_cons,List.not_mem_nil,or_false] at hx
 rcases hx with rfl|rfl|rfl|rfl|rfl<;>assumption
structure Mt.Sm (c:Mt):Prop where
 rows:c.rows.length≤1000000
 aa:c.aa.length≤1000000
 pl:∀ r∈c.rows,r.pl.length≤1000000
theorem ArS.lid {o n:Nat} {l:List Se} {y:PV} {g:Ob} (h:ArS o l y g) (ho:o<n):Lid n y:=by
 rcases h with⟨_,rfl,_⟩|⟨_,cap,J,rfl,_⟩
 ·exact .low (aH NT.exact (by simp))
 ·exact .arr _ _ _ _ ho
theorem ArS.mG {o:Nat} {l:List Se} {y:PV} {g:Ob} (h:ArS o l y g):∀ cs,g = .cells cs→∀ x∈cs,Low 0 x:=by
 intro cs e
 rcases h with⟨_,_,rfl⟩|⟨_,cap,J,_,rfl,_,hJ⟩
 ·cases e
 ·cases e; exact fH (fun a _=>dc a) hJ.low
theorem ArS.one {o:Nat} {l:List Se} {y:PV} {g:Ob} (h:ArS o l y g):y.one=true:=by
 rcases h with⟨_,rfl,_⟩|⟨_,cap,J,rfl,_⟩<;>rfl
theorem ArS.ren {o:Nat} {l:List Se} {y:PV} {g:Ob} (h:ArS o l y g) (o':Nat) {ρ:Nat→Nat} {n:Nat} (ho:o'<n) (hρ:ρ o'=o):∃ y',ArS o' l y' g∧Ren ρ n y' y:=by
 rcases h with⟨h1,rfl,rfl⟩|⟨h1,cap,J,rfl,rfl,h2,h3⟩
 ·exact⟨_,.inl ⟨h1,rfl,rfl⟩,.low (aH NT.exact (by simp))⟩
 ·refine⟨_,.inr ⟨h1,cap,J,rfl,rfl,h2,h3⟩,?_⟩
  have:=Ren.arr (ρ:=ρ) (n:=n) o' 0 l.length cap ho
  rwa [hρ] at this
theorem ArS.to {o:Nat} {l:List Se} {y:PV} {g:Ob} (h:ArS o l y g) (o':Nat) {ρ:Nat→Nat} {n:Nat} (ho:o<n) (hρ:ρ o=o'):∃ y',ArS o' l y' g∧Ren ρ n y y':=by
 rcases h with⟨h1,rfl,rfl⟩|⟨h1,cap,J,rfl,rfl,h2,h3⟩
 ·exact⟨_,.inl ⟨h1,rfl,rfl⟩,.low (aH NT.exact (by simp))⟩
 ·refine⟨_,.inr ⟨h1,cap,J,rfl,rfl,h2,h3⟩,?_⟩
  have:=Ren.arr (ρ:=ρ) (n:=n) o 0 l.length cap ho
  rwa [hρ] at this
theorem rL (c:Mt) (h:c.Sm) (j:Nat) (hj:j≤c.rows.length) (hne:j<c.rows.length→(c.rows.getD j default).pl≠[]) (K:PV→ae→Prop)
  (h1:j=c.rows.length→∀(y:PV) (g:Ob),ArS 2 c.aa y g→K (ez c (.arr 3 0 c.rows.length c.rows.length) y) [.cells [.U c.id,.I c.md,.U c.ins,.arr 3 0 c.rows.length c.rows.length,y],.cells [.U c.id,.I c.md,.U c.ins,.arr 3 0 c.rows.length c.rows.length,y],g,.cells (flR c.rows)])
  (h2:j<c.rows.length→∀(y:PV) (g:Ob) (cap:Nat) (pj:List PV),ArS 2 c.aa y g→RwJ (c.rows.getD j default) cap pj→K (ez c (.arr 3 0 c.rows.length c.rows.length) y) [.cells [.U c.id,.I c.md,.U c.ins,.arr 3 0 c.rows.length c.rows.length,y],.cells [.U c.id,.I c.md,.U c.ins,.arr 3 0 c.rows.length c.rows.length,y],g,.cells (rsJ 4 j cap c.rows).flatten,.cells pj]):
  AcK 36 [c.pv] [] K:=by
 have e1:(List.map rrc c.rows).length=c.rows.length:=List.length_map _
 have hr:=h.rows
 refine F7 c K ⟨c.aa,.no,rfl,h.aa,fun e=>?_,fun hn cap J hc hJ=>?_⟩
 ·have hA:ArS 2 c.aa (.E) .dead:= .inl ⟨e,rfl,rfl⟩
  simp only[e1,au,an]
  refine⟨by omega,by omega,by omega,by omega,c.rows,c.id,c.md,c.ins,.E,.dead,j,h.rows,h.pl,hne,hj,hA.lid (by decide),hA.mG,rfl,rfl,fun k=>?_,fun k cap pj hp=>?_⟩
  ·rw[if_pos (by rfl)]; exact h1 k _ _ hA
  ·rw[if_pos (by rfl)]; exact h2 k _ _ cap pj hA hp
 ·have hA:ArS 2 c.aa (.arr 2 0 c.aa.length cap) (.cells (flS c.aa++J)):= .inr ⟨hn,cap,J,rfl,rfl,hc,hJ⟩
  simp only[e1,au,an]
  refine⟨by omega,by omega,by omega,by omega,c.rows,c.id,c.md,c.ins,.arr 2 0 c.aa.length cap,.cells (flS c.aa++J),j,h.rows,h.pl,hne,hj,hA.lid (by decide),hA.mG,rfl,rfl,fun k=>?_,fun k cap pj hp=>?_⟩
  ·rw[if_pos (by rfl)]; exact h1 k _ _ hA
  ·rw[if_pos (by rfl)]; exact h2 k _ _ cap pj hA hp
theorem xC (c:Mt) (h:c.Sm):AcK 36 [c.pv] [] (fun x H'=>∃(y:PV) (g:Ob),ArS 2 c.aa y g∧x=ez c (.list (c.rows.map rrc) .exact) y∧H'=[.dead,.dead,g,.dead]):=by
 refine bV (rL c h c.rows.length (Nat.le_refl _) (fun k=>absurd k (Nat.lt_irrefl _)) _ (fun _ y g hA=>?_) (fun k=>absurd k (Nat.lt_irrefl _)))
 refine⟨3,0,4,[],[],c.rows.map rrc,ez c (.list (c.rows.map rrc) .exact) y,[.dead,.dead,g,.dead],by simp,rfl,b8 fA _,⟨rfl,fun i b hb=>?_⟩,?_,y,g,hA,rfl,rfl⟩
 ·have k1:=(List.getElem?_eq_some_iff.1 hb).1
  simp at k1
  have:i=0∨i=1∨i=2∨i=3:=by omega
  rcases this with rfl|rfl|rfl|rfl
  ·cases hb; exact .inl rfl
  ·cases hb; exact .inl rfl
  ·exact .inr (.inl ⟨by decide,hb⟩)
  ·cases hb; exact .inl rfl
 ·have:=Fz.exact (o:=3) (off:=0) (es:=c.rows.map rrc)
  rw[List.length_map] at this
  exact Fz.iS (.cons (.refl _) (.cons (.refl _) (.cons (.refl _) (.cons this (.cons (.refl _) .nil)))))
theorem JA (c:Mt) (h:c.Sm):AcK 36 [c.pv] [] (fun x _=>x=c.pv):=by
 by_cases e:c.aa=[]
 ·refine a9 (aM (xC c h) fun x H' hh=>?_)
  obtain⟨y,g,hA,rfl,rfl⟩:=hh
  rcases hA with⟨_,rfl,rfl⟩|⟨hn,_⟩
  ·refine⟨c.pv,?_,rfl⟩
   have:=gW (c:=c) (t1:= .exact) (t2:= .exact)
   rw[e] at this
   exact this
  ·exact absurd e hn
 ·refine a9 (bV (aM (xC c h) fun x H' hh=>?_))
  obtain⟨y,g,hA,rfl,rfl⟩:=hh
  rcases hA with⟨h0,_⟩|⟨_,cap,J,rfl,rfl,hc,hJ⟩
  ·exact absurd h0 e
  ·refine⟨2,0,6,[],J,c.aa.map stc,ez c (.list (c.rows.map rrc) .exact) (.list (c.aa.map stc) .no),[.dead,.dead,.dead,.dead],rfl,rfl,b8 bQ _,⟨rfl,fun i b hb=>?_⟩,?_,c.pv,gW,rfl⟩
   ·have k1:=(List.getElem?_eq_some_iff.1 hb).1
    simp at k1
    have:i=0∨i=1∨i=2∨i=3:=by omega
    rcases this with rfl|rfl|rfl|rfl<;>(cases hb; exact .inl rfl)
   ·have:=Fz.arr (o:=2) (off:=0) (es:=c.aa.map stc) cap (by rw[List.length_map]; exact hc)
    rw[List.length_map] at this
    exact Fz.iS (.cons (.refl _) (.cons (.refl _) (.cons (.refl _) (.cons (.refl _) (.cons this .nil)))))
theorem Na (c:Mt) (k k' len cap:Nat):RA k k' (ez c (.list (c.rows.map rrc) .exact) (.arr k 0 len cap)) (ez c (.list (c.rows.map rrc) .exact) (.arr k' 0 len cap)):=
 RA.iS (.cons (.low (.int _ _)) (.cons (.low (.int _ _)) (.cons (.low (.int _ _)) (.cons (.low (mN bJ _)) (.cons (.arr _ _ _) .nil)))))
def OwJ (c:Mt) (o j:Nat) (x:PV) (X:ae):Prop:=∃(y:PV) (g:Ob) (cap:Nat) (pj:List PV),ArS o c.aa y g∧RwJ (c.rows.getD j default) cap pj∧x=ez c (.arr (o+1) 0 c.rows.length c.rows.length) y∧X=[g,.cells (rsJ (o+2) j cap c.rows).flatten,.cells pj]
theorem Ns (c:Mt) (h:c.Sm) (j:Nat) (hj:j<c.rows.length) (hne:(c.rows.getD j default).pl≠[]) (H:ae):AcK 36 [c.pv] H (fun x H'=>∃ X,OwJ c H.length j x X∧H'=H++X):=by
 refine a8 aj (X:=[]) (ρ:=fun o=>o) ⟨by simp,by simp,by simp⟩ (aW.low (bw c.low)) (cj aj (rL c h j (by omega) (fun _=>hne) _ (fun k=>by omega) (fun _ y g cap pj hA hp=>?_)))
 obtain⟨y1,hA1,hr1⟩:=hA.ren 0 (ρ:=fun o=>o+2) (n:=3) (by decide) rfl
 obtain⟨y2,hA2,hr2⟩:=hA1.to H.length (ρ:=aN (fun o=>o) ([]:ae).length H.length) (n:=3) (by decide) (by simp[aN])
 have hlow:∀ x∈(List.map rrc c.rows).flatten,Low 0 x:=bp fun a _=>bJ a
 have e1:aN (fun o=>o) ([]:ae).length H.length 1=H.length+1:=by simp[aN]
 have e2:aN (fun o=>o) ([]:ae).length H.length 2=H.length+2:=by simp[aN]
 refine⟨ez c (.arr 1 0 c.rows.length c.rows.length) y1,[g,.cells (rsJ 2 j cap c.rows).flatten,.cells pj],fun o=>o+2,⟨fun o ho=>by simp at ho ⊢; omega,fun a b _ _ e=>by have e:a+2=b+2:=e; omega,fun o a ho=>?_⟩,by simp,fun o ho=>by simp at ho,?_,
  ez c (.arr (H.length+1) 0 c.rows.length c.rows.length) y2,H++[g,.cells (rsJ (H.length+2) j cap c.rows).flatten,.cells pj],⟨by simp,by simp,fun o a ho=>?_,fun o hl _=>by rw[List.getElem?_append_left hl]⟩,?_,_,⟨y2,g,cap,pj,hA2,hp,rfl,rfl⟩,rfl⟩
 ·have k1:=(List.getElem?_eq_some_iff.1 ho).1
  simp at k1
  have:o=0∨o=1∨o=2:=by omega
  rcases this with rfl|rfl|rfl
  ·cases ho; exact⟨g,rfl,eK hA.mG⟩
  ·cases ho; exact⟨_,rfl,.cells (rT (ρ:=fun o=>o+2) hlow j 2 cap _ (by simp))⟩
  ·cases ho; exact⟨_,rfl,.cells (aW.low hp.low)⟩
 ·exact Ren.iS (.cons (.low (.int _ _)) (.cons (.low (.int _ _)) (.cons (.low (.int _ _)) (.cons (.arr (ρ:=fun o=>o+2) 1 0 _ _ (by simp)) (.cons hr1 .nil)))))
 ·have k1:=(List.getElem?_eq_some_iff.1 ho).1
  simp at k1
  have:o=0∨o=1∨o=2:=by omega
  rcases this with rfl|rfl|rfl
  ·cases ho; exact⟨g,by simp[aN],eK hA.mG,fun h=>h⟩
  ·cases ho
   refine⟨.cells (rsJ (H.length+2) j cap c.rows).flatten,by simp[aN],.cells ?_,fun h=>h⟩
   have:=rT (ρ:=aN (fun o=>o) ([]:ae).length H.length) (m:=3) hlow j 2 cap (c.rows.getD j default) (by simp)
   rw[e2] at this
   exact this
  ·cases ho; exact⟨.cells pj,by simp[aN],.cells (aW.low hp.low),fun h=>h⟩
 ·have:=Ren.arr (ρ:=aN (fun o=>o) ([]:ae).length H.length) (n:=3) 1 0 c.rows.length c.rows.length (by simp)
  rw[e1] at this
  exact Ren.iS (.cons (.low (.int _ _)) (.cons (.low (.int _ _)) (.cons (.low (.int _ _)) (.cons this (.cons hr2 .nil)))))
theorem MU (c:Mt) (h:c.Sm) (H:ae):AcK 36 [c.pv] H (fun x H'=>∃(y:PV) (g:Ob),ArS H.length c.aa y g∧x=ez c (.arr (H.length+1) 0 c.rows.length c.rows.length) y∧H'=H++[g,.cells (flR c.rows)]):=by
 refine a8 aj (X:=[]) (ρ:=fun o=>o) ⟨by simp,by simp,by simp⟩ (aW.low (bw c.low)) (cj aj (rL c h c.rows.length (Nat.le_refl _) (fun k=>absurd k (Nat.lt_irrefl _)) _ (fun _ y g hA=>?_) (fun k=>absurd k (Nat.lt_irrefl _))))
 obtain⟨y1,hA1,hr1⟩:=hA.ren 0 (ρ:=fun o=>o+2) (n:=2) (by decide) rfl
 obtain⟨y2,hA2,hr2⟩:=hA1.to H.length (ρ:=aN (fun o=>o) ([]:ae).length H.length) (n:=2) (by decide) (by simp[aN])
 have hlow:∀ x∈flR c.rows,Low 0 x:=bp fun a _=>bJ a
 have e1:aN (fun o=>o) ([]:ae).length H.length 1=H.length+1:=by simp[aN]
 refine⟨ez c (.arr 1 0 c.rows.length c.rows.length) y1,[g,.cells (flR c.rows)],fun o=>o+2,⟨fun o ho=>by simp at ho ⊢; omega,fun a b _ _ e=>by have e:a+2=b+2:=e; omega,fun o a ho=>?_⟩,by simp,fun o ho=>by simp at ho,?_,
  ez c (.arr (H.length+1) 0 c.rows.length c.rows.length) y2,H++[g,.cells (flR c.rows)],⟨by simp,by simp,fun o a ho=>?_,fun o hl _=>by rw[List.getElem?_append_left hl]⟩,?_,y2,g,hA2,rfl,rfl⟩
 ·have k1:=(List.getElem?_eq_some_iff.1 ho).1
  simp at k1
  have:o=0∨o=1:=by omega
  rcases this with rfl|rfl
  ·cases ho; exact⟨g,rfl,eK hA.mG⟩
  ·cases ho; exact⟨_,rfl,.cells (aW.low hlow)⟩
 ·exact Ren.iS (.cons (.low (.int _ _)) (.cons (.low (.int _ _)) (.cons (.low (.int _ _)) (.cons (.arr (ρ:=fun o=>o+2) 1 0 _ _ (by simp)) (.cons hr1 .nil)))))
 ·have k1:=(List.getElem?_eq_some_iff.1 ho).1
  simp at k1
  have:o=0∨o=1:=by omega
  rcases this with rfl|rfl
  ·cases ho; exact⟨g,by simp[aN],eK hA.mG,fun h=>h⟩
  ·cases ho; exact⟨.cells (flR c.rows),by simp[aN],.cells (aW.low hlow),fun h=>h⟩
 ·have:=Ren.arr (ρ:=aN (fun o=>o) ([]:ae).length H.length) (n:=2) 1 0 c.rows.length c.rows.length (by simp)
  rw[e1] at this
  exact Ren.iS (.cons (.low (.int _ _)) (.cons (.low (.int _ _)) (.cons (.low (.int _ _)) (.cons this (.cons hr2 .nil)))))
def Nr (args:List PV) (H:ae) (K:PV→ae→Prop):Prop:=∃(c:Mt) (t1 t2:Tail),ah args [.agg [.U c.id,.I c.md,.U c.ins,.list (c.rows.map rrc) t1,.list (c.aa.map stc) t2]]∧c.Sm∧
 (K c.pv H∨(∀(y:PV) (g:Ob),ArS H.length c.aa y g→K (ez c (.list (c.rows.map rrc) .exact) y) (H++[g]))∨
  (∀(y:PV) (g:Ob),ArS H.length c.aa y g→K (ez c (.arr (H.length+1) 0 c.rows.length c.rows.length) y) (H++[g,.cells (flR c.rows)]))∨
  (∃ j,j<c.rows.length∧(c.rows.getD j default).pl≠[]∧∀ x X,OwJ c H.length j x X→K x (H++X)))
theorem AQ:SpK 36 (.heap Nr):=by
 rintro args H K ⟨c,t1,t2,he,h,hk⟩
 have he:args=_:=he
 subst he
 refine bj (.cons gW .nil) ?_
 rcases hk with hk|hk|hk|⟨j,hj,hne,hk⟩
 ·exact aM (jn.alone aj (bw c.low) c.low (JA c h) H) fun x H' e=>by obtain⟨rfl,rfl⟩:=e; exact hk
 ·by_cases e:c.aa=[]
  ·refine nC (aM (jn.alone (r:=ez c (.list (c.rows.map rrc) .exact) (.E)) aj (bw c.low) ?_ (aM (xC c h) fun x H' hh=>?_) H) fun x H' e'=>?_)
   ·refine .agg _ (fZ (.int _ _) (.int _ _) (.int _ _) (mN bJ _) (aH NT.exact (by simp)))
   ·obtain⟨y,g,hA,rfl,rfl⟩:=hh
    rcases hA with⟨_,rfl,rfl⟩|⟨hn,_⟩
    ·rfl
    ·exact absurd e hn
   ·obtain⟨rfl,rfl⟩:=e'
    exact hk _ _ (.inl ⟨e,rfl,rfl⟩)
  ·refine B2 aj (ez c (.list (c.rows.map rrc) .exact)) (.cons (Wk.refl _) .nil) (bw c.low) (Na c) (aM (xC c h) fun x H' hh=>?_)
   obtain⟨y,g,hA,rfl,rfl⟩:=hh
   have hg:=hA.mG
   rcases hA with⟨h0,_⟩|⟨_,cap,J,rfl,rfl,hc,hJ⟩
   ·exact absurd h0 e
   ·exact⟨2,_,cap,_,rfl,rfl,hg _ rfl,hk _ _ (.inr ⟨e,cap,J,rfl,rfl,hc,hJ⟩)⟩
 ·refine aM (MU c h H) fun x H' hh=>?_
  obtain⟨y,g,hA,rfl,rfl⟩:=hh
  exact hk y g hA
 ·refine aM (Ns c h j hj hne H) fun x H' hh=>?_
  obtain⟨X,hX,rfl⟩:=hh
  exact hk x X hX
theorem ix (r:Se):(stc r).length=6:=bQ r
theorem ya (l:List Se) {J:List PV} (h:∀ y∈J,y.one=true):∀ y∈flS l++J,y.one=true:=by
 intro y hy
 rcases List.mem_append.1 hy with h1|h1
 ·obtain⟨c,h2,h3⟩:=List.mem_flatten.1 h1
  obtain⟨a,_,rfl⟩:=List.mem_map.1 h2
  exact eB a y h3
 ·exact h y h1
theorem GY:SpK 114 (.ext dP):=
 jm (t:=42) (e:=138) (b:=true) (sz:=6) Tryz.func114 (by kernel_rfl) (by kernel_rfl) (by kernel_rfl) (by kernel_rfl) (by kernel_rfl) (by kernel_rfl) (by kernel_rfl)
def TIS:Tab:=[(114,.ext dP)]
theorem Cb:TbK TIS:= .cons GY (.nil _ _)
theorem D4 (l:List Se) (J:List PV) (cap:Nat) (r:Se) (p:Nat):(by refine(?_:_→_→_→_→_→_→_→_→Prop) ((p:Int)+(1:Int)) ((l.length:Int)+(1:Int)) (Int.toNat (l.length:Int)-Int.toNat (p:Int)) [PV.U r.pl,.I r.tm,.I r.nu,.I r.st,.I r.un,.int .u64 r.no] [PV.U 0,.I 0,.I 0,.I 0,.I 0,.int .u64 0] (Int.toNat (cap:Int)-0) (Ob.cells (flS l++J)) (Int.toNat (p:Int)-0); exact fun i m o q s t x z=>by refine(?_:_→_→_→_→_→Prop) (↑t:Int) q (List.take (o*6) (List.drop (if Int.toNat (cap:Int)=Int.toNat (p:Int) then 0 else 0+Int.toNat (p:Int)*6) (flS l++J))) (wI m-(p:Int)) (Int.toNat (wI m)-0); exact fun g h j u A=>by refine(?_:_→_→Prop) (↑A:Int) (Int.toNat (p:Int)-0+Int.toNat (wI u)); exact fun d f=>by refine(?_:_→_→_→_→Prop) (Int.toNat d-Int.toNat (p:Int)) (Int.toNat (↑f:Int)-Int.toNat (p:Int)) (Int.toNat (↑f:Int)-Int.toNat (wI i)) (Int.toNat d-Int.toNat (wI i)); exact fun n v w y=>by refine(?_:_→Prop) (List.take (n*6) (List.drop (if Int.toNat g=Int.toNat (p:Int) then if Int.toNat (cap:Int)=0 then 0 else 0 else(if Int.toNat (cap:Int)=0 then 0 else 0)+Int.toNat (p:Int)*6) (flS l++J))); exact fun e=>by refine(?_:_→Prop) (over (flS l++J) (if Int.toNat g=Int.toNat (wI i) then if Int.toNat (cap:Int)=0 then 0 else 0 else(if Int.toNat (cap:Int)=0 then 0 else 0)+Int.toNat (wI i)*6) (List.take (min n y*6) e)); exact fun k=>∀(K:PV→ae→Prop),((0≤(p:Int)∧(p:Int)≤(l.length:Int)∧(l.length:Int)≤(cap:Int)∧(cap:Int)≤(cap:Int))∧br ((p:Int) == (l.length:Int)) ((l.length≤cap∧0+cap*6≤List.length (flS l++J)∧6=6∧List.all h PV.one=true∧(l.length+1)*48≤140737488355328)∧(l.length+1≤cap→K (.arr 0 0 (l.length+1) cap) [.cells (over (flS l++J) (0+l.length*6) h)])∧(cap<l.length+1→∀(c:Nat),l.length+1≤c→K (.arr 1 0 (l.length+1) c) [x,.cells (List.take (l.length*6) (List.drop 0 (flS l++J))++h++List.flatten (List.replicate (c-(l.length+1)) s))])) (br (decide (wI m>(cap:Int))) ((iI 0≤0∧0≤(p:Int)∧(p:Int)≤(cap:Int)∧(cap:Int)≤(cap:Int))∧(Int.toNat (p:Int)-0≤Int.toNat (cap:Int)-0∧(if Int.toNat (cap:Int)=0 then 0 else 0)+t*6≤List.length (flS l++J)∧0≤wI u∧Int.toNat (cap:Int)-0<Int.toNat (p:Int)-0+Int.toNat (wI u)∧f*48≤140737488355328)∧∀(c:Nat),by refine(?_:_→Prop) (List.take (z*6) (List.drop (if Int.toNat (cap:Int)=0 then 0 else 0) (flS l++J))++List.flatten (List.replicate (c-z) s)); exact fun b=>by refine(?_:_→Prop) (over b (if Int.toNat (c:Int)=Int.toNat (p:Int) then 0 else 0+Int.toNat (p:Int)*6) (List.take (min 1 v*6) h)); exact fun a=>Int.toNat (p:Int)-0+Int.toNat (wI u)≤c→(0≤(p:Int)∧(p:Int)≤(↑f:Int)∧(↑f:Int)≤(c:Int)∧(c:Int)≤(c:Int))∧((if Int.toNat (c:Int)=Int.toNat (p:Int) then 0 else 0+Int.toNat (p:Int)*6)+v*6≤List.length b∧6=6∧List.all h PV.one=true)∧(0≤wI i∧wI i≤(↑f:Int)∧(↑f:Int)≤(c:Int)∧(c:Int)≤(c:Int))∧(0≤(p:Int)∧(p:Int)≤(l.length:Int)∧(l.length:Int)≤(cap:Int)∧(cap:Int)≤(cap:Int))∧(if Int.toNat (cap:Int)=Int.toNat (p:Int) then 0 else 0+Int.toNat (p:Int)*6)+o*6≤List.length (flS l++J)∧((if Int.toNat (c:Int)=Int.toNat (wI i) then 0 else 0+Int.toNat (wI i)*6)+w*6≤List.length a∧List.length j=o*6∧List.all j PV.one=true)∧K (.arr 1 0 f c) [x,.cells (over a (if Int.toNat (c:Int)=Int.toNat (wI i) then 0 else 0+Int.toNat (wI i)*6) (List.take (min o w*6) j))]) ((iI 0≤0∧0≤wI m∧wI m≤(cap:Int)∧(cap:Int)≤(cap:Int))∧(0≤wI i∧wI i≤d∧d≤g∧g≤g)∧q≠[]∧(flS l++J=[]→False)∧(0≤wI i∧wI i≤d∧d≤g∧g≤g)∧(0≤(p:Int)∧(p:Int)≤d∧d≤g∧g≤g)∧(if Int.toNat g=Int.toNat (p:Int) then if Int.toNat (cap:Int)=0 then 0 else 0 else(if Int.toNat (cap:Int)=0 then 0 else 0)+Int.toNat (p:Int)*6)+n*6≤List.length (flS l++J)∧((if Int.toNat g=Int.toNat (wI i) then if Int.toNat (cap:Int)=0 then 0 else 0 else(if Int.toNat (cap:Int)=0 then 0 else 0)+Int.toNat (wI i)*6)+y*6≤List.length (flS l++J)∧List.length e=n*6∧List.all e PV.one=true)∧(0≤(p:Int)∧(p:Int)≤d∧d≤g∧g≤g)∧((if Int.toNat g=Int.toNat (p:Int) then if Int.toNat (cap:Int)=0 then 0 else 0 else(if Int.toNat (cap:Int)=0 then 0 else 0)+Int.toNat (p:Int)*6)+n*6≤List.length k∧6=6∧List.all h PV.one=true)∧K (.arr 0 (if Int.toNat (cap:Int)=0 then 0 else 0) A t) [.cells (over k (if Int.toNat g=Int.toNat (p:Int) then if Int.toNat (cap:Int)=0 then 0 else 0 else(if Int.toNat (cap:Int)=0 then 0 else 0)+Int.toNat (p:Int)*6) (List.take (min 1 n*6) h))])))→AcK 110 [.arr 0 0 l.length cap,.I p,.list [stc r] .exact] [x] K:Prop):=fun K h=>acW (T:=TIS) (L:=[]) (fun o=>match o.op with| .load t _=>(match t with|42=>1|_=>0)|_=>match o.dst with|some 25=>2|_=>0) Tryz.func110 (Cb) (LOk.nil _ _ _ _ _) h
theorem CN (r:Se):∀(K:PV→ae→Prop),((iI 0≤0∧iI 0≤0∧iI 0≤0∧iI 0≤0∧uni 6 [])∧6=6∧48≤140737488355328∧0<1∧∀(c:Nat),1≤c→K (.arr 0 0 1 c) [.cells ([.U r.pl,.I r.tm,.I r.nu,.I r.st,.I r.un,.int .u64 r.no]++List.flatten (List.replicate (c-1) [.U 0,.I 0,.I 0,.I 0,.I 0,.int .u64 0]))])→AcK 110 [.E,.I 0,.list [stc r] .exact] [] K:=fun K h=>acW (T:=TIS) (L:=[]) (fun o=>match o.op with| .load t _=>(match t with|42=>1|_=>0)|_=>match o.dst with|some 25=>2|_=>0) Tryz.func110 (Cb) (LOk.nil _ _ _ _ _) h
def KD (args:List PV) (H:ae) (K:PV→ae→Prop):Prop:=
 (∃(l:List Se) (J:List PV) (cap:Nat) (r:Se) (p:Nat),ah args [.arr 0 0 l.length cap,.I p,.list [stc r] .exact]∧av H ([.cells (flS l++J)])∧p≤l.length∧l.length≤1000000∧l.length≤cap∧aK J ((cap-l.length)*6)∧
  (∀(J':List PV),l.length+1≤cap→aK J' ((cap-(l.length+1))*6)→K (.arr 0 0 (l.length+1) cap) [.cells (flS (bC l p r)++J')])∧
  (∀(c:Nat),l.length+1≤c→∀(J':List PV),aK J' ((c-(l.length+1))*6)→K (.arr 1 0 (l.length+1) c) [.cells (flS l++J),.cells (flS (bC l p r)++J')]))∨
 (∃(r:Se),ah args [.E,.I 0,.list [stc r] .exact]∧av H []∧
  ∀(c:Nat),1≤c→∀(J':List PV),aK J' ((c-1)*6)→K (.arr 0 0 1 c) [.cells (stc r++J')])
def zrS:List PV:=[.U 0,.I 0,.I 0,.I 0,.I 0,.int .u64 0]
theorem pD (n:Nat):aK (List.replicate n zrS).flatten (n*6):=
 aK.q7 (z:=zrS) (by intro y hy; simp only[zrS,List.mem_cons,List.not_mem_nil,or_false] at hy; rcases hy with rfl|rfl|rfl|rfl|rfl|rfl<;>rfl) (by intro y hy; simp only[zrS,List.mem_cons,List.not_mem_nil,or_false] at hy; rcases hy with rfl|rfl|rfl|rfl|rfl|rfl<;>first|exact .int _ _|exact .str _) n
theorem yG:SpK 110 (.heap KD):=by
 rintro args H K (⟨l,J,cap,r,p,he,hH,hp,hl,hc,hJ,hk1,hk2⟩|⟨r,he,hH,hk⟩)
 ·have he:args=_:=he
  have hH:H=_:=hH
  subst he
  subst hH
  have hlen:(flS l++J).length=cap*6:=by rw[List.length_append,iB,hJ.len,← Nat.add_mul]; congr 1; omega
  have hone:(flS l++J).all PV.one=true:=List.all_eq_true.2 (ya l hJ.one)
  refine D4 l J cap r p K ?_
  refine⟨⟨by omega,by omega,by omega,by omega⟩,?_⟩
  rw[au]
  by_cases c1:p=l.length
  ·rw[if_pos (by simp[c1])]
   subst c1
   refine⟨⟨hc,by rw[hlen]; omega,rfl,rfl,by omega⟩,fun h=>?_,fun h c hcc=>?_⟩
   ·have:=hk1 (J.drop 6) h (hJ.drop.cast (by omega))
    rw[← oq ix r (by rw[hJ.len]; omega)] at this
    rw[Nat.zero_add]
    exact this
   ·have:=hk2 c hcc _ (pD (c-(l.length+1)))
    rw[jL] at this
    rw[List.drop_zero,fu ix J l l.length (Nat.le_refl _),List.take_length]
    simp only[flS,List.map_append,List.flatten_append,List.map_cons,List.map_nil,List.flatten_cons,List.flatten_nil,List.append_nil] at this
    exact this
  ·rw[if_neg (by simp; omega),au]
   have e1:wI ((l.length:Int)+1)=((l.length+1:Nat):Int):=by rw[aF (by omega) (by omega)]; rfl
   have e2:wI (((l.length+1:Nat):Int)-(p:Int))=((l.length+1-p:Nat):Int):=by rw[aF (by omega) (by omega)]; omega
   have e3:wI ((p:Int)+1)=((p+1:Nat):Int):=by rw[aF (by omega) (by omega)]; rfl
   have e4:p+(l.length+1-p)=l.length+1:=by omega
   simp only[e1,e2,e3,e4,an,Nat.sub_zero,Nat.zero_add,List.drop_zero,ite_self]
   have t1:List.take (p*6) (flS l++J)=flS (l.take p):=fu ix J l p hp
   have t2:List.take ((l.length-p)*6) (List.drop (p*6) (flS l++J))=flS (l.drop p):=by
    rw[fq ix J l p hp,List.take_left']
    rw[iB,List.length_drop]
   have t3:min 1 (l.length+1-p)=1:=by omega
   have t5:(flS (l.drop p)).length=(l.length-p)*6:=by rw[iB,List.length_drop]
   have t6:(flS (l.drop p)).all PV.one=true:=by
    have:=ya (l.drop p) (J:=[]) (fun _ h=>nomatch h)
    rw[List.append_nil] at this
    exact List.all_eq_true.2 this
   have t7:(flS (l.take p)).length=p*6:=by rw[iB,List.length_take,Nat.min_eq_left hp]
   by_cases c2:cap<l.length+1
   ·rw[if_pos (decide_eq_true (by omega))]
    have n3:¬ cap=p:=by omega
    refine⟨⟨by decide,by omega,by omega,by omega⟩,⟨by omega,by omega,by omega,by omega,by omega⟩,fun c hcc=>?_⟩
    have t4:min (l.length-p) (l.length+1-(p+1))=l.length-p:=by omega
    have n1:¬ c=p:=by omega
    have n2:¬ c=p+1:=by omega
    have hZ:=pD (c-p)
    have t9:(flS (l.take p)++(List.replicate (c-p) zrS).flatten).length=c*6:=by rw[List.length_append,t7,hZ.len,← Nat.add_mul]; congr 1; omega
    simp only[if_neg n1,if_neg n2,if_neg n3,t1,t2,t3,t4,t5,t6]
    refine⟨⟨by omega,by omega,by omega,by omega⟩,⟨Nat.le_trans (show _≤c*6 by omega) (Nat.le_of_eq t9.symm),trivial,rfl⟩,⟨by omega,by omega,by omega,by omega⟩,⟨by omega,by omega,by omega,by omega⟩,by omega,⟨?_,trivial,trivial⟩,?_⟩
    ·have t10:(over (flS (l.take p)++(List.replicate (c-p) zrS).flatten) (p*6) (stc r)).length=c*6:=by rw[bG (by rw[t9,ix]; omega),t9]
     exact Nat.le_trans (show _≤c*6 by omega) (Nat.le_of_eq t10.symm)
    ·have:=hk2 c (by omega) _ ((hZ.drop (k:=(l.length+1-p)*6)).cast (by omega))
     rw[← p8 ix r hp (by rw[hZ.len]; omega)] at this
     rw[List.take_of_length_le (Nat.le_of_eq t5)]
     exact this
   ·rw[if_neg (by simp; omega)]
    have n3:¬ cap=p:=by omega
    have n4:¬ cap=p+1:=by omega
    have t9:min (l.length+1-p) (l.length+1-(p+1))=l.length-p:=by omega
    have t10:List.take ((l.length-p)*6) (List.take ((l.length+1-p)*6) (List.drop (p*6) (flS l++J)))=List.take ((l.length-p)*6) (List.drop (p*6) (flS l++J)):=by rw[List.take_take,Nat.min_eq_left (by omega)]
    simp only[if_neg n3,if_neg n4,t3,t9,t10]
    have t11:(List.take ((l.length+1-p)*6) (List.drop (p*6) (flS l++J))).length=(l.length+1-p)*6:=by rw[List.length_take,List.length_drop,hlen]; omega
    have t12:(List.take ((l.length+1-p)*6) (List.drop (p*6) (flS l++J))).all PV.one=true:=List.all_eq_true.2 fun y hy=>List.all_eq_true.1 hone y (List.mem_of_mem_drop (List.mem_of_mem_take hy))
    have t13:(over (flS l++J) ((p+1)*6) (List.take ((l.length-p)*6) (List.drop (p*6) (flS l++J)))).length=cap*6:=by rw[bG (by rw[t2,t5,hlen]; omega),hlen]
    refine⟨⟨by decide,by omega,by omega,by omega⟩,⟨by omega,by omega,by omega,by omega⟩,List.cons_ne_nil _ _,fun h=>?_,⟨by omega,by omega,by omega,by omega⟩,⟨by omega,by omega,by omega,by omega⟩,by omega,⟨by omega,t11,t12⟩,⟨by omega,by omega,by omega,by omega⟩,⟨by omega,trivial,rfl⟩,?_⟩
    ·rw[h] at hlen; simp only[List.length_nil] at hlen; omega
    ·have:=hk1 (J.drop 6) (by omega) (hJ.drop.cast (by omega))
     rw[← sk ix r (by omega) (by rw[hJ.len]; omega)] at this
     exact this
 ·have he:args=_:=he
  have hH:H=_:=hH
  subst he
  subst hH
  exact CN r K ⟨⟨by decide,by decide,by decide,by decide,fun _ h=>nomatch h⟩,rfl,by decide,by decide,fun c hc=>hk c hc _ (pD (c-1))⟩
theorem uN (r:Se) (t:Tail) (ht:NT t) {n:Nat}:Low n (.list [stc r] t):=aH ht (by intro y hy; simp at hy; exact dc r y hy)
theorem kV {n:Nat} (l:List Se) {J:List PV} (h:∀ y∈J,Low n y):∀ y∈flS l++J,Low n y:=fH (fun a _=>dc a) h
def vS (args:List PV) (H:ae) (K:PV→ae→Prop):Prop:=match args with
 | .arr o 0 n cap::rest=>∃(l:List Se) (J:List PV) (r:Se) (p:Nat),n=l.length∧ah rest [.int .i64 p,.list [stc r] .exact]∧iw H o (flS l++J)∧p≤l.length∧l.length≤1000000∧l.length≤cap∧aK J ((cap-l.length)*6)∧
  (∀(J':List PV),l.length+1≤cap→aK J' ((cap-(l.length+1))*6)→K (.arr o 0 (l.length+1) cap) (H.set o (.cells (flS (bC l p r)++J'))))∧
  (∀(c:Nat),l.length+1≤c→∀(J':List PV),aK J' ((c-(l.length+1))*6)→K (.arr H.length 0 (l.length+1) c) (H++[.cells (flS (bC l p r)++J')]))
 | .list [] .exact::rest=>∃(r:Se),ah rest [.int .i64 0,.list [stc r] .exact]∧∀(c:Nat),1≤c→∀(J':List PV),aK J' ((c-1)*6)→K (.arr H.length 0 1 c) (H++[.cells (flS [r]++J')])
 | _=>False
theorem GL:SpK 110 (.heap vS):=by
 intro args H K h
 unfold vS at h
 split at h
 ·rename_i o n cap rest
  obtain⟨l,J,r,p,rfl,he,hc,hp,hl,hcap,hJ,hk1,hk2⟩:=h
  have he:rest=_:=he
  subst he
  refine ET aj hc (kV l hJ.low) (.cons (.arr (ρ:=fun _=>o) 0 0 l.length cap (by decide)) (.cons (.low (.int _ _)) (.cons (.low (uN r _ NT.exact)) .nil))) ?_
  refine yG _ _ _ (.inl ⟨l,J,cap,r,p,rfl,rfl,hp,hl,hcap,hJ,fun J' h1 h2=> .inl ⟨_,.arr o 0 (l.length+1) cap,rfl,kV _ h2.low,.arr (ρ:=jb o H.length) 0 0 _ _ (by decide),hk1 J' h1 h2⟩,fun c h1 J' h2=> .inr ⟨_,_,.arr H.length 0 (l.length+1) c,rfl,kV l hJ.low,kV _ h2.low,.arr (ρ:=jb o H.length) 1 0 _ _ (by decide),?_⟩⟩)
  rw[l8 hc]; exact hk2 c h1 J' h2
 ·rename_i rest
  obtain⟨r,he,hk⟩:=h
  have he:rest=_:=he
  subst he
  refine B2 aj (fun x=>x) (.cons (.refl _) (.cons (.refl _) (.cons (.refl _) .nil))) (dn (aH NT.exact (by simp)) (.int _ _) (uN r _ NT.exact)) (fun k k' len cap=> .arr _ _ _) (yG _ _ _ (.inr ⟨r,rfl,rfl,fun c hc J' h2=>⟨0,1,c,_,rfl,rfl,?_,?_⟩⟩))
  ·intro x hx
   rcases List.mem_append.1 hx with hx|hx
   ·exact dc r x hx
   ·exact h2.low x hx
  ·have:=hk c hc J' h2
   simpa[flS] using this
 ·exact h.elim
def cY (l:List Se):Nat:=(List.range l.length).findIdx fun m=>decide ((l.getD m default).nu≠(m:Int))
theorem eN (l:List Se):cY l≤l.length:=by
 have:=List.findIdx_le_length (p:=fun m=>decide ((l.getD m default).nu≠(m:Int))) (xs:=List.range l.length)
 rwa [List.length_range] at this
theorem nX {l:List Se} {m:Nat} (h:m<cY l):(l.getD m default).nu=(m:Int):=by
 have hl:=eN l
 have:=List.not_of_lt_findIdx (p:=fun m=>decide ((l.getD m default).nu≠(m:Int))) h
 simp only[List.getElem_range,decide_eq_false_iff_not,ne_eq,Classical.not_not] at this
 exact this
theorem r7 {l:List Se} (h:cY l<l.length):(l.getD (cY l) default).nu≠(cY l:Int):=by
 have:=List.findIdx_getElem (p:=fun m=>decide ((l.getD m default).nu≠(m:Int))) (xs:=List.range l.length) (w:=by rw[List.length_range]; exact h)
 have:=of_decide_eq_true this
 rw[List.getElem_range] at this
 exact this
theorem qI {l:List Se} {i:Nat} (hi:i≤cY l) (h:i=l.length∨(i<l.length∧(l.getD i default).nu≠(i:Int))):cY l=i:=by
 rcases Nat.lt_or_ge i (cY l) with c|c
 ·rcases h with h|⟨_,h⟩
  ·have:=eN l; omega
  ·exact absurd (nX c) h
 ·omega
theorem Am {l:List Se} {i:Nat} (hi:i≤cY l) (h:i<l.length) (hn:(l.getD i default).nu=(i:Int)):i<cY l:=by
 rcases Nat.lt_or_ge i (cY l) with c|c
 ·exact c
 ·have e:i=cY l:=by omega
  subst e
  exact absurd hn (r7 h)
def gg (l:List Se) (p t:Int):Se:=⟨p,t,(cY l:Int),1,0,0⟩
def gO (l:List Se) (p t:Int):List Se:=bC l (cY l) (gg l p t)
theorem HB (c:Mt) (x:PV) (gx:Ob) (J:List PV) (cap i:Nat) (p t:Int):(by refine(?_:_→_→_→Prop) [PV.ptr 0 0,.U p,.I t,.I i] (c.aa.length:Int) (flS c.aa++J); exact fun f g h=>by refine(?_:_→_→Prop) [Ob.cells [.U c.id,.I c.md,.U c.ins,x,.arr 2 0 c.aa.length cap],gx,.cells h] (List.drop (0+Int.toNat (i:Int)*6+2) h); exact fun b d=>∀(R:Ex→List PV→ae→Prop),by refine(?_:_→Prop) (R (.exit 0) f b); exact fun a=>(br (decide ((i:Int)<g) == true) ((0≤(i:Int)∧(i:Int)<g)∧br (true && aD [.int .i64] 0 d) (br (cI d 0 == (i:Int)) (R .normal [.ptr 0 0,.U p,.I t,.I (wI ((i:Int)+1))] b) a) False) a)→Holds (wpK [] [] (fun o=>match o.op with| .load t _=>(match t with|42=>1|_=>0)|_=>0) (ai [1,0,0] (ag Tryz.f90)) [] (ak [0,1,2,6] f) b (fun ex e H=>R ex (List.map e [0,1,2,6]) H)):Prop):=fun R h=>hoE h
theorem G9 (c:Mt) (x:PV) (gx:Ob) (p t:Int):(by refine(?_:_→_→Prop) [Ob.cells [.U c.id,.I c.md,.U c.ins,x,.E],gx,.dead] [PV.ptr 0 0,.U p,.I t,.I 0]; exact fun a b=>∀(R:Ex→List PV→ae→Prop),(R (.exit 0) b a)→Holds (wpK [] [] (fun o=>match o.op with| .load t _=>(match t with|42=>1|_=>0)|_=>0) (ai [1,0,0] (ag Tryz.f90)) [] (ak [0,1,2,6] b) a (fun ex e H=>R ex (List.map e [0,1,2,6]) H)):Prop):=fun R h=>hoE h
def DZ:LSp:=fun e H Q=>
 (∃(c:Mt) (x:PV) (gx:Ob) (J:List PV) (cap:Nat) (p t:Int),c.aa.length≤1000000∧ah (List.map e [0,1,2,6]) [.ptr 0 0,.U p,.I t,.I 0]∧av H [.cells [.U c.id,.I c.md,.U c.ins,x,.arr 2 0 c.aa.length cap],gx,.cells (flS c.aa++J)]∧Q (.exit 0) (ak [0,1,2,6] [.ptr 0 0,.U p,.I t,.I (cY c.aa)]) [.cells [.U c.id,.I c.md,.U c.ins,x,.arr 2 0 c.aa.length cap],gx,.cells (flS c.aa++J)])∨
 (∃(c:Mt) (x:PV) (gx:Ob) (p t:Int),ah (List.map e [0,1,2,6]) [.ptr 0 0,.U p,.I t,.I 0]∧av H [.cells [.U c.id,.I c.md,.U c.ins,x,.E],gx,.dead]∧Q (.exit 0) (ak [0,1,2,6] [.ptr 0 0,.U p,.I t,.I 0]) [.cells [.U c.id,.I c.md,.U c.ins,x,.E],gx,.dead])
theorem uQ:∀ e H Q,DZ e H Q→AwK Tryz.f90.ntmps (.loop (ai [1,0,0] (ag Tryz.f90))) Q e H:=by
 rintro e H Q (⟨c,x,gx,J,cap,p,t,hl,he,hH,hQ⟩|⟨c,x,gx,p,t,he,hH,hQ⟩)
 ·refine aB (hn:=fun o=>match o.op with| .load t _=>(match t with|42=>1|_=>0)|_=>0) aj (.nil _ _) (.nil _ _ _ _ _) (σ:=Nat) [0,1,2,6] (fun i=>i≤cY c.aa) (fun i=>[.ptr 0 0,.U p,.I t,.I i]) (fun _=>[.cells [.U c.id,.I c.md,.U c.ins,x,.arr 2 0 c.aa.length cap],gx,.cells (flS c.aa++J)]) (fun i=>c.aa.length-i) 0 (Nat.zero_le _) he hH ?_
  intro i hi
  have hi:i≤cY c.aa:=hi
  have hg:=eN c.aa
  refine HB c x gx J cap i p t _ ?_
  simp only[au,dt,an,beq_iff_eq]
  by_cases h:i<c.aa.length
  ·rw[if_pos (by omega)]
   refine⟨⟨by omega,by omega⟩,?_⟩
   have hd:List.drop (0+i*6+2) (flS c.aa++J)=[.I (c.aa.getD i default).nu,.I (c.aa.getD i default).st,.I (c.aa.getD i default).un,.int .u64 (c.aa.getD i default).no]++(flS (c.aa.drop (i+1))++J):=by
    rw[Nat.zero_add,← List.drop_drop,lc bQ J default h]; rfl
   rw[hd,if_pos (by rfl)]
   have hc:cI ([.I (c.aa.getD i default).nu,.I (c.aa.getD i default).st,.I (c.aa.getD i default).un,.int .u64 (c.aa.getD i default).no]++(flS (c.aa.drop (i+1))++J)) 0=(c.aa.getD i default).nu:=rfl
   rw[hc]
   by_cases hn:(c.aa.getD i default).nu=(i:Int)
   ·rw[if_pos hn]
    exact⟨i+1,(show c.aa.length-(i+1)<c.aa.length-i by omega),Am hi h hn,by rw[ar h (by omega)],[],rfl,Nat.le_refl _,.inl rfl⟩
   ·rw[if_neg hn]
    rw[qI hi (.inr ⟨h,hn⟩)] at hQ
    exact hQ
  ·rw[if_neg (by omega)]
   have:i=c.aa.length:=by omega
   rw[qI hi (.inl this)] at hQ
   exact hQ
 ·refine aB (hn:=fun o=>match o.op with| .load t _=>(match t with|42=>1|_=>0)|_=>0) aj (.nil _ _) (.nil _ _ _ _ _) (σ:=Unit) [0,1,2,6] (fun _=>True) (fun _=>[.ptr 0 0,.U p,.I t,.I 0]) (fun _=>[.cells [.U c.id,.I c.md,.U c.ins,x,.E],gx,.dead]) (fun _=>0) () trivial he hH ?_
  intro _ _
  exact G9 c x gx p t _ hQ
def TSI:Tab:=[(110,.heap vS)]
theorem Fx:TbK TSI:= .cons GL (.nil _ _)
theorem BV (c:Mt) (x:PV) (gx:Ob) (J:List PV) (cap:Nat) (p t:Int):(by refine(?_:_→_→Prop) [Ob.cells [.U c.id,.I c.md,.U c.ins,x,.arr 2 0 c.aa.length cap],gx,.cells (flS c.aa++J)] [PV.ptr 0 0,.U p,.I t,.I 0]; exact fun e f=>∀(K:PV→ae→Prop),((∃(c_1:Mt) (x_1:PV) (gx_1:Ob) (J_1:List PV) (cap_1:Nat) (p_1:Int) (t_1:Int),by refine(?_:_→_→Prop) (PV.I (↑(cY c_1.aa):Int)) (Ob.cells (flS c_1.aa++J_1)); exact fun b d=>by refine(?_:_→Prop) [Ob.cells [.U c_1.id,.I c_1.md,.U c_1.ins,x_1,.arr 2 0 c_1.aa.length cap_1],gx_1,d]; exact fun a=>c_1.aa.length≤1000000∧ah f [.ptr 0 0,.U p_1,.I t_1,.I 0]∧av e a∧∃(l:List Se) (J:List PV) (r:Se) (p:Nat),c_1.aa.length=l.length∧ah [b,.list [[PV.U p_1,.I t_1,b,.I 1,.I 0,.int .u64 0]] .exact] [.I p,.list [[PV.U r.pl,.I r.tm,.I r.nu,.I r.st,.I r.un,.int .u64 r.no]] .exact]∧iw a 2 (flS l++J)∧p≤l.length∧l.length≤1000000∧l.length≤cap_1∧aK J ((cap_1-l.length)*6)∧(∀(J':List PV),l.length+1≤cap_1→aK J' ((cap_1-(l.length+1))*6)→K (.tup []) [.cells [.U c_1.id,.I c_1.md,.U c_1.ins,x_1,.arr 2 0 (l.length+1) cap_1],gx_1,.cells (flS (bC l p r)++J')])∧∀(c:Nat),l.length+1≤c→∀(J':List PV),aK J' ((c-(l.length+1))*6)→K (.tup []) [.cells [.U c_1.id,.I c_1.md,.U c_1.ins,x_1,.arr 3 0 (l.length+1) c],gx_1,d,.cells (flS (bC l p r)++J')])∨∃(c_1:Mt) (x_1:PV) (gx_1:Ob) (p_1:Int) (t_1:Int),ah f [.ptr 0 0,.U p_1,.I t_1,.I 0]∧av e [.cells [.U c_1.id,.I c_1.md,.U c_1.ins,x_1,.E],gx_1,.dead]∧∃(r:Se),ah [.I 0,.list [[PV.U p_1,.I t_1,.I 0,.I 1,.I 0,.int .u64 0]] .exact] [.I 0,.list [[PV.U r.pl,.I r.tm,.I r.nu,.I r.st,.I r.un,.int .u64 r.no]] .exact]∧∀(c:Nat),1≤c→∀(J':List PV),aK J' ((c-1)*6)→K (.tup []) [.cells [.U c_1.id,.I c_1.md,.U c_1.ins,x_1,.arr 3 0 1 c],gx_1,.dead,.cells ([.U r.pl,.I r.tm,.I r.nu,.I r.st,.I r.un,.int .u64 r.no]++J')])→AcK 90 [.ptr 0 0,.U p,.I t] e K:Prop):=fun K h=>acW (T:=TSI) (L:=[([1,0,0],DZ)]) (fun o=>match o.op with| .load t _=>(match t with|42=>1|_=>0)|_=>0) Tryz.func90 (Fx) (.cons suE uQ (.nil _ _ _ _ _)) h
theorem Bo (c:Mt) (x:PV) (gx:Ob) (p t:Int):(by refine(?_:_→_→Prop) [Ob.cells [.U c.id,.I c.md,.U c.ins,x,.E],gx,.dead] [PV.ptr 0 0,.U p,.I t,.I 0]; exact fun e f=>∀(K:PV→ae→Prop),((∃(c_1:Mt) (x_1:PV) (gx_1:Ob) (J:List PV) (cap:Nat) (p_1:Int) (t_1:Int),by refine(?_:_→_→Prop) (PV.I (↑(cY c_1.aa):Int)) (Ob.cells (flS c_1.aa++J)); exact fun b d=>by refine(?_:_→Prop) [Ob.cells [.U c_1.id,.I c_1.md,.U c_1.ins,x_1,.arr 2 0 c_1.aa.length cap],gx_1,d]; exact fun a=>c_1.aa.length≤1000000∧ah f [.ptr 0 0,.U p_1,.I t_1,.I 0]∧av e a∧∃(l:List Se) (J_1:List PV) (r:Se) (p:Nat),c_1.aa.length=l.length∧ah [b,.list [[PV.U p_1,.I t_1,b,.I 1,.I 0,.int .u64 0]] .exact] [.I p,.list [[PV.U r.pl,.I r.tm,.I r.nu,.I r.st,.I r.un,.int .u64 r.no]] .exact]∧iw a 2 (flS l++J_1)∧p≤l.length∧l.length≤1000000∧l.length≤cap∧aK J_1 ((cap-l.length)*6)∧(∀(J':List PV),l.length+1≤cap→aK J' ((cap-(l.length+1))*6)→K (.tup []) [.cells [.U c_1.id,.I c_1.md,.U c_1.ins,x_1,.arr 2 0 (l.length+1) cap],gx_1,.cells (flS (bC l p r)++J')])∧∀(c:Nat),l.length+1≤c→∀(J':List PV),aK J' ((c-(l.length+1))*6)→K (.tup []) [.cells [.U c_1.id,.I c_1.md,.U c_1.ins,x_1,.arr 3 0 (l.length+1) c],gx_1,d,.cells (flS (bC l p r)++J')])∨∃(c_1:Mt) (x_1:PV) (gx_1:Ob) (p_1:Int) (t_1:Int),ah f [.ptr 0 0,.U p_1,.I t_1,.I 0]∧av e [.cells [.U c_1.id,.I c_1.md,.U c_1.ins,x_1,.E],gx_1,.dead]∧∃(r:Se),ah [.I 0,.list [[PV.U p_1,.I t_1,.I 0,.I 1,.I 0,.int .u64 0]] .exact] [.I 0,.list [[PV.U r.pl,.I r.tm,.I r.nu,.I r.st,.I r.un,.int .u64 r.no]] .exact]∧∀(c:Nat),1≤c→∀(J':List PV),aK J' ((c-1)*6)→K (.tup []) [.cells [.U c_1.id,.I c_1.md,.U c_1.ins,x_1,.arr 3 0 1 c],gx_1,.dead,.cells ([.U r.pl,.I r.tm,.I r.nu,.I r.st,.I r.un,.int .u64 r.no]++J')])→AcK 90 [.ptr 0 0,.U p,.I t] e K:Prop):=fun K h=>acW (T:=TSI) (L:=[([1,0,0],DZ)]) (fun o=>match o.op with| .load t _=>(match t with|42=>1|_=>0)|_=>0) Tryz.func90 (Fx) (.cons suE uQ (.nil _ _ _ _ _)) h
def ArR (o:Nat) (l:List Rr) (x:PV) (g:Ob):Prop:=∃(cap:Nat) (J:List PV),x = .arr o 0 l.length cap∧g = .cells (flR l++J)∧l.length≤cap∧aK J ((cap-l.length)*4)
theorem ArR.one {o:Nat} {l:List Rr} {x:PV} {g:Ob} (h:ArR o l x g):x.one=true:=by
 obtain⟨cap,J,rfl,_⟩:=h; rfl
theorem ArR.mG {o:Nat} {l:List Rr} {x:PV} {g:Ob} (h:ArR o l x g):∀ cs,g = .cells cs→∀ x∈cs,Low 0 x:=by
 intro cs e
 obtain⟨cap,J,_,rfl,_,hJ⟩:=h
 cases e; exact fH (fun a _=>bJ a) hJ.low
theorem ArR.ren {o:Nat} {l:List Rr} {x:PV} {g:Ob} (h:ArR o l x g) (o':Nat) {ρ:Nat→Nat} {n:Nat} (ho:o'<n) (hρ:ρ o'=o):∃ x',ArR o' l x' g∧Ren ρ n x' x:=by
 obtain⟨cap,J,rfl,rfl,h2,h3⟩:=h
 refine⟨_,⟨cap,J,rfl,rfl,h2,h3⟩,?_⟩
 have:=Ren.arr (ρ:=ρ) (n:=n) o' 0 l.length cap ho
 rwa [hρ] at this
theorem ArR.nm {o:Nat} {l:List Rr} {x:PV} {g:Ob} (h:ArR o l x g) (o':Nat) {ρ:Nat→Nat} {n:Nat} (ho:o<n) (hρ:ρ o=o'):∃ x',ArR o' l x' g∧Nm ρ n x x':=by
 obtain⟨cap,J,rfl,rfl,h2,h3⟩:=h
 refine⟨_,⟨cap,J,rfl,rfl,h2,h3⟩,?_⟩
 have:=Nm.arr (ρ:=ρ) (n:=n) o 0 l.length cap ho
 rwa [hρ] at this
theorem ArS.nm {o:Nat} {l:List Se} {y:PV} {g:Ob} (h:ArS o l y g) (o':Nat) {ρ:Nat→Nat} {n:Nat} (ho:o<n) (hρ:ρ o=o'):∃ y',ArS o' l y' g∧Nm ρ n y y':=by
 rcases h with⟨h1,rfl,rfl⟩|⟨h1,cap,J,rfl,rfl,h2,h3⟩
 ·exact⟨_,.inl ⟨h1,rfl,rfl⟩,.low (aH NT.exact (by simp))⟩
 ·refine⟨_,.inr ⟨h1,cap,J,rfl,rfl,h2,h3⟩,?_⟩
  have:=Nm.arr (ρ:=ρ) (n:=n) o 0 l.length cap ho
  rwa [hρ] at this
def MW (c:Mt):ae→Prop:=fun h=>∃(x y:PV) (gx gy:Ob),ArR 1 c.rows x gx∧ArS 2 c.aa y gy∧h=[.cells [.U c.id,.I c.md,.U c.ins,x,y],gx,gy]
def mw (c:Mt):Rep:=whole (MW c)
theorem ArR.ob {o:Nat} {l:List Rr} {x:PV} {g:Ob} (h:ArR o l x g):g = .dead∨∃ cs,g = .cells cs:=by
 obtain⟨cap,J,_,rfl,_⟩:=h
 exact .inr ⟨_,rfl⟩
theorem ArS.ob {o:Nat} {l:List Se} {x:PV} {g:Ob} (h:ArS o l x g):g = .dead∨∃ cs,g = .cells cs:=by
 rcases h with⟨_,_,rfl⟩|⟨_,cap,J,_,rfl,_⟩
 ·exact .inl rfl
 ·exact .inr ⟨_,rfl⟩
theorem LX {a b c:Ob} (ha:a = .dead∨∃ cs,a = .cells cs) (hb:b = .dead∨∃ cs,b = .cells cs) (hc:c = .dead∨∃ cs,c = .cells cs):cA [a,b,c]=[a,b,c]:=by
 rcases ha with rfl|⟨_,rfl⟩<;>rcases hb with rfl|⟨_,rfl⟩<;>rcases hc with rfl|⟨_,rfl⟩<;>rfl
theorem Jp {c:Mt} {x y:PV} {gx gy:Ob} {r i k:Nat} {H:ae} (hr:H[r]?=some (.cells [.U c.id,.I c.md,.U c.ins,x,y])) (hi:H[i]?=some gx) (hk:H[k]?=some gy) (h1:r≠i) (h2:r≠k) (h3:i≠k) (hx:ArR i c.rows x gx) (hy:ArS k c.aa y gy):
  ∃ X,Sub (fun o=>if o=0 then r else if o=1 then i else k) X H∧MW c X∧cA X=X∧kP X∧X.length=3:=by
 let ρ:Nat→Nat:=fun o=>if o=0 then r else if o=1 then i else k
 obtain⟨x',hx',rx⟩:=hx.ren 1 (ρ:=ρ) (n:=3) (by decide) rfl
 obtain⟨y',hy',ry⟩:=hy.ren 2 (ρ:=ρ) (n:=3) (by decide) rfl
 have lr:=(List.getElem?_eq_some_iff.1 hr).1
 have li:=(List.getElem?_eq_some_iff.1 hi).1
 have lk:=(List.getElem?_eq_some_iff.1 hk).1
 refine⟨[.cells [.U c.id,.I c.md,.U c.ins,x',y'],gx,gy],⟨fun o _=>?_,fun a b ha hb e=>?_,fun o a ho=>?_⟩,⟨x',y',gx,gy,hx',hy',rfl⟩,LX (.inr ⟨_,rfl⟩) hx.ob hy.ob,⟨_,rfl⟩,rfl⟩
 ·show(if _ then _ else _)<_
  split
  ·exact lr
  ·split
   ·exact li
   ·exact lk
 ·simp at ha hb
  have e:(if a=0 then r else if a=1 then i else k)=(if b=0 then r else if b=1 then i else k):=e
  split at e<;>split at e<;>(try split at e)<;>(try split at e)<;>omega
 ·have e1:=(List.getElem?_eq_some_iff.1 ho).1
  simp at e1
  have:o=0∨o=1∨o=2:=by omega
  rcases this with rfl|rfl|rfl
  ·cases ho
   exact⟨_,hr,.cells (.cons (.low (.int _ _)) (.cons (.low (.int _ _)) (.cons (.low (.int _ _)) (.cons rx (.cons ry .nil)))))⟩
  ·cases ho; exact⟨_,hi,eK hx.mG⟩
  ·cases ho; exact⟨_,hk,eK hy.mG⟩
theorem vQ {c:Mt} {x y:PV} {gx gy:Ob} {i k:Nat} {T:ae} (hi:(.cells [.U c.id,.I c.md,.U c.ins,x,y]::T:ae)[i]?=some gx) (hk:(.cells [.U c.id,.I c.md,.U c.ins,x,y]::T:ae)[k]?=some gy) (h1:0≠i) (h2:0≠k) (h3:i≠k) (hx:ArR i c.rows x gx) (hy:ArS k c.aa y gy):
  ek (MW c) (.cells [.U c.id,.I c.md,.U c.ins,x,y]::T):=by
 obtain⟨X,k1,k2,k3,k4,_⟩:=Jp (r:=0) rfl hi hk h1 h2 h3 hx hy
 exact⟨X,_,k1,rfl,by rw[k3]; exact k2,k4⟩
def gj (c:Mt) (p t:Int):Mt:=⟨c.id,c.md,c.ins,c.rows,gO c.aa p t⟩
def C3 (args:List PV) (H:ae) (K:PV→ae→Prop):Prop:=match args with
 | .ptr q 0::rest=>∃(c:Mt) (p t:Int),ah rest [.int .u32 p,.int .i64 t]∧bU H q (mw c)∧c.aa.length≤1000000∧K (.tup []) (H.set q (.abs (mw (gj c p t))))
 | _=>False
theorem qa (l:List Se) (p t:Int):(gO l p t).length=l.length+1:=fN (eN l)
theorem MM:SpK 90 (.heap C3):=by
 intro args H K h
 unfold C3 at h
 split at h
 rotate_left
 ·exact h.elim
 rename_i q rest
 obtain⟨c,p,t,he,ha,hl,hk⟩:=h
 have he:rest=_:=he
 subst he
 refine j6 aj ha (bn (.int _ _) (.int _ _)) (.tup _ (by simp)) (fun hh h=>?_) hk
 obtain⟨x,y,gx,gy,hx,hy,rfl⟩:=h
 have hg:=eN c.aa
 rcases hy with⟨e,rfl,rfl⟩|⟨hn,cap,J,rfl,rfl,hcap,hJ⟩
 ·refine Bo c x gx p t _ (.inr ⟨c,x,gx,p,t,rfl,rfl,gg c.aa p t,?_,fun cap hc J' hJ=>⟨rfl,?_⟩⟩)
  ·have:cY c.aa=0:=by rw[e]; rfl
   unfold gg; rw[this]; rfl
  ·have e2:gO c.aa p t=[gg c.aa p t]:=by unfold gO; rw[e]; rfl
   refine vQ (c:=gj c p t) (i:=1) (k:=3) rfl rfl (by decide) (by decide) (by decide) hx (.inr ⟨by show gO _ _ _≠[]; rw[e2]; simp,cap,J',?_,?_,?_,?_⟩)
   ·show _=PV.arr 3 0 (gO c.aa p t).length cap; rw[e2]; rfl
   ·show _=Ob.cells (flS (gO c.aa p t)++J'); rw[e2]; rfl
   ·show(gO c.aa p t).length≤cap; rw[e2]; exact hc
   ·show aK J' ((cap-(gO c.aa p t).length)*6); rw[e2]; exact hJ
 ·have e3:(gO c.aa p t).length=c.aa.length+1:=qa _ _ _
  have hne:gO c.aa p t≠[]:=fun e=>by rw[e] at e3; simp at e3
  refine BV c x gx J cap p t _ (.inl ⟨c,x,gx,J,cap,p,t,hl,rfl,rfl,c.aa,J,gg c.aa p t,cY c.aa,rfl,rfl,rfl,hg,hl,hcap,hJ,fun J' h1 h2=>⟨rfl,?_⟩,fun c' h1 J' h2=>⟨rfl,?_⟩⟩)
  ·refine vQ (c:=gj c p t) (i:=1) (k:=2) rfl rfl (by decide) (by decide) (by decide) hx (.inr ⟨hne,cap,J',?_,rfl,?_,?_⟩)
   ·show _=PV.arr 2 0 (gO c.aa p t).length cap; rw[e3]
   ·show(gO c.aa p t).length≤cap; rw[e3]; exact h1
   ·show aK J' ((cap-(gO c.aa p t).length)*6); rw[e3]; exact h2
  ·refine vQ (c:=gj c p t) (i:=1) (k:=3) rfl rfl (by decide) (by decide) (by decide) hx (.inr ⟨hne,c',J',?_,rfl,?_,?_⟩)
   ·show _=PV.arr 3 0 (gO c.aa p t).length c'; rw[e3]
   ·show(gO c.aa p t).length≤c'; rw[e3]; exact h1
   ·show aK J' ((c'-(gO c.aa p t).length)*6); rw[e3]; exact h2
def cV (c:Mt) (ps:List Int) (t:Int):Mt:=ps.foldl (fun c p=>gj c p t) c
def s5 (c:Mt) (r:Rr):Mt:=⟨c.id,c.md,c.ins,c.rows++[r],c.aa⟩
def fG (c:Mt) (r:Rr):Mt:=s5 (cV c r.pl r.tm) r
def ay (c:Mt) (l:List Rr):Mt:=l.foldl fG c
theorem zu {c:Mt} {ps:List Int} {t:Int} {k:Nat} (h:k<ps.length):cV c (ps.take (k+1)) t=gj (cV c (ps.take k) t) (ps.getD k 0) t:=by
 unfold cV; rw[aJ 0 h,List.foldl_append]; rfl
theorem rK {c:Mt} {l:List Rr} {k:Nat} (h:k<l.length):ay c (l.take (k+1))=fG (ay c (l.take k)) (l.getD k default):=by
 unfold ay; rw[aJ default h,List.foldl_append]; rfl
theorem fm (ps:List Int) (t:Int):∀ c:Mt,(cV c ps t).aa.length=c.aa.length+ps.length:=by
 induction ps with
 | nil=>intro c; rfl
 | cons p ps ih=>intro c; show(cV (gj c p t) ps t).aa.length=_; rw[ih]; show(gO c.aa p t).length+_=_; rw[qa,List.length_cons]; omega
theorem qJ (ps:List Int) (t:Int):∀ c:Mt,(cV c ps t).rows=c.rows:=by
 induction ps with
 | nil=>intro c; rfl
 | cons p ps ih=>intro c; show(cV (gj c p t) ps t).rows=_; rw[ih]; rfl
def tot (l:List Rr):Nat:=(l.map fun r=>r.pl.length).sum
theorem lT {l:List Rr} {k:Nat} (h:k<l.length):tot (l.take (k+1))=tot (l.take k)+(l.getD k default).pl.length:=by
 unfold tot; rw[aJ default h,List.map_append,List.sum_append]; simp
theorem fW {l:List Rr} (k:Nat):tot (l.take k)≤tot l:=by
 unfold tot
 conv=>rhs; rw[← List.take_append_drop k l,List.map_append,List.sum_append]
 omega
theorem gI (l:List Rr):∀ c:Mt,(ay c l).aa.length=c.aa.length+tot l:=by
 induction l with
 | nil=>intro c; rfl
 | cons r l ih=>intro c; show(ay (fG c r) l).aa.length=_; rw[ih]; show(cV c r.pl r.tm).aa.length+_=_; rw[fm]; unfold tot; rw[List.map_cons,List.sum_cons]; omega
theorem c8 (l:List Rr):∀ c:Mt,(ay c l).rows=c.rows++l:=by
 induction l with
 | nil=>intro c; show c.rows=_; rw[List.append_nil]
 | cons r l ih=>intro c; show(ay (fG c r) l).rows=_; rw[ih]; show((cV c r.pl r.tm).rows++[r])++l=_; rw[qJ,List.append_assoc]; rfl
def EC (args:List PV) (K:PV→Prop):Prop:=∃(c:Mt) (t1 t2:Tail),ah args [.agg [.U c.id,.I c.md,.U c.ins,.list (c.rows.map rrc) t1,.list (c.aa.map stc) t2]]∧c.Sm∧K c.pv
theorem II:SpK 36 (.pure EC):=by
 rintro args K ⟨c,t1,t2,he,h,hk⟩
 have he:args=_:=he
 subst he
 exact bu aj (.cons gW .nil) (bw c.low) c.low (JA c h) hk
def Bm (args:List PV) (H:ae) (K:PV→ae→Prop):Prop:=∃(c:Mt) (t1 t2:Tail),ah args [.agg [.U c.id,.I c.md,.U c.ins,.list (c.rows.map rrc) t1,.list (c.aa.map stc) t2]]∧c.Sm∧∀(y:PV) (g:Ob),ArS H.length c.aa y g→K (ez c (.list (c.rows.map rrc) .exact) y) (H++[g])
theorem GO:SpK 36 (.heap Bm):=fun _ _ _ ⟨c,t1,t2,he,h,hk⟩=>AQ _ _ _ ⟨c,t1,t2,he,h,.inr (.inl hk)⟩
def Cj (args:List PV) (H:ae) (K:PV→ae→Prop):Prop:=∃(c:Mt) (t1 t2:Tail),ah args [.agg [.U c.id,.I c.md,.U c.ins,.list (c.rows.map rrc) t1,.list (c.aa.map stc) t2]]∧c.Sm∧∀(y:PV) (g:Ob),ArS H.length c.aa y g→K (ez c (.arr (H.length+1) 0 c.rows.length c.rows.length) y) (H++[g,.cells (flR c.rows)])
theorem Im:SpK 36 (.heap Cj):=fun _ _ _ ⟨c,t1,t2,he,h,hk⟩=>AQ _ _ _ ⟨c,t1,t2,he,h,.inr (.inr (.inl hk))⟩
def Bv (args:List PV) (K:PV→Prop):Prop:=∃(l:List Int) (tl:Tail),ah args [.list (l.map u1) tl]∧l.length≤1000000∧K (.list (l.map u1) .no)
theorem GX:SpK 70 (.pure Bv):=by
 rintro args K ⟨l,tl,he,hl,hk⟩
 have he:args=_:=he
 subst he
 exact bu (r:= .list (l.map u1) .no) aj (.cons (.list _ _) .nil) (bw (eE l)) (eE l) (yO _ _ _ ⟨l,.no,rfl,hl,.inl rfl⟩) hk
def TSD:Tab:=[(90,.heap C3),(70,.pure Bv),(36,.heap Cj)]
theorem vp:TbK TSD:= .cons MM (.cons GX (.cons Im (.nil _ _)))
theorem MF (c:Mt) (l:List Rr) (r:Rr) (i k:Nat):(by refine(?_:_→_→_→_→_→_→Prop) (Ob.cells [.U 0,.I 0,.U 0,.E,.E]) (List.getD (r.pl.map u1) (Int.toNat (k:Int)) []) (PV.list (r.pl.map u1) .no) (PV.list (l.map rrc) .no) (PV.I r.pl.length) (PV.I l.length); exact fun a f g j m n=>by refine(?_:_→_→Prop) (Ob.cells [.I r.tm,g,.I r.rt,.I r.wd]) [PV.ptr 0 0,.ptr 1 0,.ptr 4 0,j,n,.I i,g,m,.I k]; exact fun b d=>by refine(?_:_→Prop) [Ob.abs (mw c),a,.dead,.dead,b]; exact fun h=>∀(R:Ex→List PV→ae→Prop),(br (decide ((k:Int)<(r.pl.length:Int))) (InL (r.pl.map u1) 1 (k:Int)∧br (true && aD [.int .u32] 0 f) (∃(c_1:Mt) (p:Int) (t:Int),ah [.U (cI f 0),.I r.tm] [.U p,.I t]∧bU h 0 (mw c_1)∧c_1.aa.length≤1000000∧R .normal [.ptr 0 0,.ptr 1 0,.ptr 4 0,j,n,.I i,g,m,.I (wI ((k:Int)+1))] [.abs (mw (gj c_1 p t)),a,.dead,.dead,b]) False) (R (.exit 2) d h))→Holds (wpK TSD [] (fun _=>0) (ai [1,1,0,1,0,0,1,1,0,0,1,0,1,0] (ag Tryz.f58)) [] (ak [2,4,6,11,12,13,18,19,20] d) [.abs (mw c),a,.dead,.dead,.cells (rrc r)] (fun ex e H=>R ex (List.map e [2,4,6,11,12,13,18,19,20]) H)):Prop):=fun R h=>hoE h
theorem ME (c:Mt) (l:List Rr) (r:Rr) (i cap:Nat) (J:List PV) (y:PV) (gy:Ob):(by refine(?_:_→_→_→_→_→Prop) [PV.I r.tm,.list (r.pl.map u1) .no,.I r.rt,.I r.wd] [PV.ptr 0 0,.ptr 1 0,.ptr 4 0,.list (l.map rrc) .no,.I l.length,.I i] (Ob.cells [.U 0,.I 0,.U 0,.E,.E]) (c.rows.length+1) (Ob.cells (flR c.rows++J)); exact fun a b d f g=>∀(R:Ex→List PV→ae→Prop),((c.rows.length≤cap∧0+cap*4≤List.length (flR c.rows++J)∧4=4∧List.all a PV.one=true∧f*48≤140737488355328)∧(c.rows.length+1≤cap→R .normal b [.cells [.U c.id,.I c.md,.U c.ins,.arr 5 0 f cap,y],d,.dead,.dead,.cells a,.cells (over (flR c.rows++J) (0+c.rows.length*4) a),gy])∧(cap<c.rows.length+1→∀(c_1:Nat),c.rows.length+1≤c_1→R .normal b [.cells [.U c.id,.I c.md,.U c.ins,.arr 7 0 f c_1,y],d,.dead,.dead,.cells a,g,gy,.cells (List.take (c.rows.length*4) (List.drop 0 (flR c.rows++J))++a++List.flatten (List.replicate (c_1-f) [.I 0,.E,.I 0,.I 0]))]))→Holds (wpK [] [] (fun o=>match o.op with| .load t _=>(match t with|41=>1|_=>0)|_=>match o.dst with|some 37=>2|_=>0) (b5 [1,1,0,1,0,0,1,1,0,0,1,1,1] (ag Tryz.f58)) [] (ak [2,4,6,11,12,13] b) [.cells [.U c.id,.I c.md,.U c.ins,.arr 5 0 c.rows.length cap,y],d,.dead,.dead,.cells (rrc r),g,gy] (fun ex e H=>R ex (List.map e [2,4,6,11,12,13]) H)):Prop):=fun R h=>hoE h
theorem G0 (c:Mt) (x y:PV) (gx gy:Ob):(by refine(?_:_→_→Prop) [PV.U c.id,.I c.md,.U c.ins,x,y] [PV.ptr 0 0,.ptr 1 0]; exact fun a b=>∀(R:Ex→List PV→ae→Prop),(br (5 == 5 && List.all a PV.one && true && true) (R .normal b [.cells a,.cells a,.dead,.dead,gx,gy]) False)→Holds (wpK [] [] (fun o=>match o.dst with|some 40=>1|_=>0) (b5 [1,1,1,0] (ag Tryz.f58)) [] (ak [2,4] b) [.cells a,.cells [.U 0,.I 0,.U 0,.E,.E],.dead,.dead,gx,gy] (fun ex e H=>R ex (List.map e [2,4]) H)):Prop):=fun R h=>hoE h
theorem ie (n:Nat):aK (List.replicate n [PV.I 0,.E,.I 0,.I 0]).flatten (n*4):=by
 refine(aK.q7 (z:=[PV.I 0,.E,.I 0,.I 0]) (fun y hy=>?_) (iX (.int _ _) (aH NT.exact (by simp)) (.int _ _) (.int _ _)) n).cast (by simp)
 simp only[List.mem_cons,List.not_mem_nil,or_false] at hy
 rcases hy with rfl|rfl|rfl|rfl<;>rfl
theorem bR (l:List Rr):(flR l).length=l.length*4:=bE fA l
theorem AP (l:List Rr) (r:Rr):flR (l++[r])=flR l++rrc r:=by unfold flR; simp
def CW:LSp:=fun e H Q=>∃(c:Mt) (l:List Rr) (r:Rr) (i:Nat),r.pl.length≤1000000∧c.aa.length+r.pl.length≤1000000∧ah (List.map e [2,4,6,11,12,13,18,19,20]) [.ptr 0 0,.ptr 1 0,.ptr 4 0,.list (l.map rrc) .no,.I l.length,.I i,.list (r.pl.map u1) .no,.I r.pl.length,.I 0]∧av H [.abs (mw c),.cells [.U 0,.I 0,.U 0,.E,.E],.dead,.dead,.cells (rrc r)]∧Q (.exit 2) (ak [2,4,6,11,12,13,18,19,20] [.ptr 0 0,.ptr 1 0,.ptr 4 0,.list (l.map rrc) .no,.I l.length,.I i,.list (r.pl.map u1) .no,.I r.pl.length,.I r.pl.length]) [.abs (mw (cV c r.pl r.tm)),.cells [.U 0,.I 0,.U 0,.E,.E],.dead,.dead,.cells (rrc r)]
theorem AJ:∀ e H Q,CW e H Q→AwK Tryz.f58.ntmps (.loop (ai [1,1,0,1,0,0,1,1,0,0,1,0,1,0] (ag Tryz.f58))) Q e H:=by
 rintro e H Q ⟨c,l,r,i,hr,hl,he,hH,hQ⟩
 refine aB (hn:=fun _=>0) aj vp (.nil _ _ _ _ _) (σ:=Nat) [2,4,6,11,12,13,18,19,20] (fun k=>k≤r.pl.length) (fun k=>[.ptr 0 0,.ptr 1 0,.ptr 4 0,.list (l.map rrc) .no,.I l.length,.I i,.list (r.pl.map u1) .no,.I r.pl.length,.I k]) (fun k=>[.abs (mw (cV c (r.pl.take k) r.tm)),.cells [.U 0,.I 0,.U 0,.E,.E],.dead,.dead,.cells (rrc r)]) (fun k=>r.pl.length-k) 0 (Nat.zero_le _) he hH ?_
 intro k hk
 have hk:k≤r.pl.length:=hk
 refine MF (cV c (r.pl.take k) r.tm) l r i k _ ?_
 simp only[au,dt,an,dQ]
 by_cases h:k<r.pl.length
 ·rw[if_pos (by omega)]
  simp only[getD_map 0 h]
  refine⟨h,?_⟩
  rw[if_pos (by rfl)]
  have cid:cI (u1 (r.pl.getD k 0)) 0=r.pl.getD k 0:=rfl
  simp only[cid]
  refine⟨cV c (r.pl.take k) r.tm,r.pl.getD k 0,r.tm,rfl,rfl,?_,k+1,(show r.pl.length-(k+1)<r.pl.length-k by omega),h,by rw[ar h (by omega)],[],?_,Nat.le_refl _,.inl rfl⟩
  ·rw[fm,List.length_take]; omega
  ·rw[← zu h]; rfl
 ·rw[if_neg (by omega)]
  have:k=r.pl.length:=by omega
  subst this
  rw[List.take_length]
  exact hQ
theorem GB:ai [1,1,0,0,1,0,1,0] (ai [1,1,0,1,0] (ag Tryz.f58))=ai [1,1,0,1,0,0,1,1,0,0,1,0,1,0] (ag Tryz.f58):=by kernel_rfl
theorem Aw:∀ e H Q,CW e H Q→AwK Tryz.f58.ntmps (.loop (ai [1,1,0,0,1,0,1,0] (ai [1,1,0,1,0] (ag Tryz.f58)))) Q e H:=by
 rw[GB]; exact AJ
theorem Cc {c:Mt} {H:ae} {x y:PV} {gx gy:Ob} (hx:ArR 1 c.rows x gx) (hy:ArS 2 c.aa y gy):∃ x' y',ArR H.length c.rows x' gx∧ArS (H.length+1) c.aa y' gy∧Nm (dh 0 H.length) 3 x x'∧Nm (dh 0 H.length) 3 y y':=by
 obtain⟨x',h1,h2⟩:=hx.nm H.length (ρ:=dh 0 H.length) (n:=3) (by decide) rfl
 obtain⟨y',h3,h4⟩:=hy.nm (H.length+1) (ρ:=dh 0 H.length) (n:=3) (by decide) (by rfl)
 exact⟨x',y',h1,h3,h2,h4⟩
theorem Ja {g:Ob} {ρ:Nat→Nat} {n q:Nat} {H2:ae} (hg:g = .dead∨∃ cs,g = .cells cs) (hl:∀ cs,g = .cells cs→∀ x∈cs,Low 0 x) (h:H2[q]?=some g):g = .dead∧H2[q]?=some .dead∨∃ cs cs',g = .cells cs∧H2[q]?=some (.cells cs')∧NmL ρ n cs cs':=by
 rcases hg with rfl|⟨cs,rfl⟩
 ·exact .inl ⟨rfl,h⟩
 ·exact .inr ⟨cs,cs,rfl,h,NmL.low (hl cs rfl)⟩
theorem s3 {c:Mt} {T:ae} {x y x' y':PV} {gx gy:Ob} (hx:ArR 1 c.rows x gx) (hy:ArS 2 c.aa y gy) (h1:Nm (dh 0 (.abs (mw c)::T:ae).length) 3 x x') (h2:Nm (dh 0 (.abs (mw c)::T:ae).length) 3 y y'):
  OpenH 0 [.cells [.U c.id,.I c.md,.U c.ins,x,y],gx,gy] (.abs (mw c)::T) (.cells [.U c.id,.I c.md,.U c.ins,x',y']::(T++[gx,gy])):=by
 refine⟨by simp,fun o h3 h4=>?_,fun k a hk=>?_⟩
 ·obtain⟨o,rfl⟩:=Nat.exists_eq_succ_of_ne_zero h4
  simp only[List.length_cons] at h3
  show(T++[gx,gy])[o]?=T[o]?
  rw[List.getElem?_append_left (by omega)]
 ·have k1:=(List.getElem?_eq_some_iff.1 hk).1
  simp at k1
  have:k=0∨k=1∨k=2:=by omega
  rcases this with rfl|rfl|rfl
  ·cases hk
   exact .inr ⟨_,_,rfl,rfl,.cons (.low (.int _ _)) (.cons (.low (.int _ _)) (.cons (.low (.int _ _)) (.cons h1 (.cons h2 .nil))))⟩
  ·cases hk
   refine Ja hx.ob hx.mG ?_
   show(_::(T++[gx,gy]))[(T.length+1)+0]?=_
   simp
  ·cases hk
   refine Ja hy.ob hy.mG ?_
   show(_::(T++[gx,gy]))[(T.length+1)+1]?=_
   simp
theorem vb {c:Mt} {x y:PV} {gx gy:Ob} {i k:Nat} {T T2:ae} (hi:(.cells [.U c.id,.I c.md,.U c.ins,x,y]::T:ae)[i]?=some gx) (hk:(.cells [.U c.id,.I c.md,.U c.ins,x,y]::T:ae)[k]?=some gy) (h1:0≠i) (h2:0≠k) (h3:i≠k) (hx:ArR i c.rows x gx) (hy:ArS k c.aa y gy)
  (hl:T2.length=T.length) (ho:∀(o:Nat) (b:Ob),T2[o]?=some b→b.alive=true→T[o]?=some b∧o+1≠i∧o+1≠k):
  ∃(ρ:Nat→Nat) (hh:ae),ShutH ρ hh 0 (MW c) (.cells [.U c.id,.I c.md,.U c.ins,x,y]::T) (.abs (mw c)::T2):=by
 obtain⟨Z,k1,k2,k3,k4,k5⟩:=Jp (r:=0) rfl hi hk h1 h2 h3 hx hy
 refine⟨_,Z,k1,k4,k2,?_,rfl,by simp[hl],rfl,fun o b h4 h5 h6=>?_⟩
 ·rw[← k3]; exact iW _
 ·obtain⟨o,rfl⟩:=Nat.exists_eq_succ_of_ne_zero h4
  obtain⟨j1,j2,j3⟩:=ho o b h5 h6
  refine⟨j1,fun n hn=>?_⟩
  rw[k5] at hn
  have:n=0∨n=1∨n=2:=by omega
  rcases this with rfl|rfl|rfl
  ·show(0:Nat)≠o+1; omega
  ·exact fun e=>j2 e.symm
  ·exact fun e=>j3 e.symm
def Ch:LSp:=fun e H Q=>∃(c:Mt) (l:List Rr) (r:Rr) (i:Nat),c.rows.length+1≤1000000∧ah (List.map e [2,4,6,11,12,13]) [.ptr 0 0,.ptr 1 0,.ptr 4 0,.list (l.map rrc) .no,.I l.length,.I i]∧av H [.abs (mw c),.cells [.U 0,.I 0,.U 0,.E,.E],.dead,.dead,.cells (rrc r)]∧∀(G:ae),Q .normal (ak [2,4,6,11,12,13] [.ptr 0 0,.ptr 1 0,.ptr 4 0,.list (l.map rrc) .no,.I l.length,.I i]) ([.abs (mw (s5 c r)),.cells [.U 0,.I 0,.U 0,.E,.E],.dead,.dead,.cells (rrc r)]++G)
theorem EI:∀ e H Q,Ch e H Q→AwK Tryz.f58.ntmps (b5 [1,1,0,1,0,0,1,1,0,0,1,1,1] (ag Tryz.f58)) Q e H:=by
 rintro e H Q ⟨c,l,r,i,hl,he,hH,hQ⟩
 have hH:H=_:=hH
 have he:List.map e [2,4,6,11,12,13]=_:=he
 subst hH
 refine AW.wT (q:=0) (I:=MW c) rfl fun hh h _=>?_
 obtain⟨x,y,gx,gy,hx,hy,rfl⟩:=h
 obtain⟨x',y',hx',hy',h1,h2⟩:=Cc (H:=[.abs (mw c),.cells [.U 0,.I 0,.U 0,.E,.E],.dead,.dead,.cells (rrc r)]) hx hy
 refine⟨_,s3 hx hy h1 h2,?_⟩
 obtain⟨cap,J,rfl,rfl,hcap,hJ⟩:=hx'
 have hn:=hcap
 refine AW.Nf (dj (T:=[]) (slots:=[2,4,6,11,12,13]) (outs:=[2,4,6,11,12,13]) (hn:=fun o=>match o.op with| .load t _=>(match t with|41=>1|_=>0)|_=>match o.dst with|some 37=>2|_=>0) (.nil _ _) (.nil _ _ _ _ _) he rfl (ME c l r i cap J y' gy (fun ex vs H'=>∃(ρ:Nat→Nat) (hh:ae) (q:Nat) (I:ae→Prop) (H2:ae),ShutH ρ hh q I H' H2∧Q ex (ak [2,4,6,11,12,13] vs) H2) ?_))
 have hlen:(flR c.rows++J).length=cap*4:=by rw[List.length_append,bR,hJ.len,← Nat.add_mul]; congr 1; omega
 have e3:(c.rows++[r]).length=c.rows.length+1:=by simp
 refine⟨⟨hcap,by rw[hlen]; omega,rfl,rfl,by omega⟩,fun h=>?_,fun h c' hc'=>?_⟩
 ·have e4:=oq fA r (l:=c.rows) (J:=J) (by rw[hJ.len]; omega)
  rw[jL] at e4
  obtain⟨ρ,hh,hs⟩:=vb (c:=s5 c r) (x:= .arr 5 0 (c.rows.length+1) cap) (y:=y') (i:=5) (k:=6) (gx:= .cells (flR (c.rows++[r])++J.drop 4)) (gy:=gy) (T:=[.cells [.U 0,.I 0,.U 0,.E,.E],.dead,.dead,.cells (rrc r),.cells (flR (c.rows++[r])++J.drop 4),gy]) (T2:=[.cells [.U 0,.I 0,.U 0,.E,.E],.dead,.dead,.cells (rrc r),.dead,.dead]) rfl rfl (by decide) (by decide) (by decide) ⟨cap,J.drop 4,by show PV.arr 5 0 _ cap = .arr 5 0 (c.rows++[r]).length cap; rw[e3],rfl,by show(c.rows++[r]).length≤cap; rw[e3]; exact h,by show aK _ ((cap-(c.rows++[r]).length)*4); rw[e3]; exact hJ.drop.cast (by omega)⟩ hy' rfl (fun o b h1 h2=>by
   have k1:=(List.getElem?_eq_some_iff.1 h1).1
   simp at k1
   have:o=0∨o=1∨o=2∨o=3∨o=4∨o=5:=by omega
   rcases this with rfl|rfl|rfl|rfl|rfl|rfl<;>first|(exact⟨h1,by decide,by decide⟩)|(cases h1; cases h2))
  refine⟨ρ,hh,0,MW (s5 c r),_,?_,hQ [.dead,.dead]⟩
  rw[Nat.zero_add]
  have e5:over (flR c.rows++J) (c.rows.length*4) [PV.I r.tm,.list (List.map u1 r.pl) .no,.I r.rt,.I r.wd]=flR (c.rows++[r])++J.drop 4:=e4
  rw[e5]
  exact hs
 ·obtain⟨ρ,hh,hs⟩:=vb (c:=s5 c r) (x:= .arr 7 0 (c.rows.length+1) c') (y:=y') (i:=7) (k:=6) (gx:= .cells (flR (c.rows++[r])++(List.replicate (c'-(c.rows.length+1)) [PV.I 0,.E,.I 0,.I 0]).flatten)) (gy:=gy) (T:=[.cells [.U 0,.I 0,.U 0,.E,.E],.dead,.dead,.cells (rrc r),.cells (flR c.rows++J),gy,.cells (flR (c.rows++[r])++(List.replicate (c'-(c.rows.length+1)) [PV.I 0,.E,.I 0,.I 0]).flatten)]) (T2:=[.cells [.U 0,.I 0,.U 0,.E,.E],.dead,.dead,.cells (rrc r),.dead,.dead,.dead]) rfl rfl (by decide) (by decide) (by decide) ⟨c',_,by show PV.arr 7 0 _ c' = .arr 7 0 (c.rows++[r]).length c'; rw[e3],rfl,by show(c.rows++[r]).length≤c'; rw[e3]; exact hc',by show aK _ ((c'-(c.rows++[r]).length)*4); rw[e3]; exact ie _⟩ hy' rfl (fun o b h1 h2=>by
   have k1:=(List.getElem?_eq_some_iff.1 h1).1
   simp at k1
   have:o=0∨o=1∨o=2∨o=3∨o=4∨o=5∨o=6:=by omega
   rcases this with rfl|rfl|rfl|rfl|rfl|rfl|rfl<;>first|(exact⟨h1,by decide,by decide⟩)|(cases h1; cases h2))
  refine⟨ρ,hh,0,MW (s5 c r),_,?_,hQ [.dead,.dead,.dead]⟩
  have e5:List.take (c.rows.length*4) (List.drop 0 (flR c.rows++J))++[PV.I r.tm,.list (List.map u1 r.pl) .no,.I r.rt,.I r.wd]=flR (c.rows++[r]):=by
   rw[List.drop_zero,List.take_left' (bR _),AP]; rfl
  rw[e5]
  exact hs
theorem Hg:b5 [1,1,0,0,1,1,1] (ai [1,1,0,1,0] (ag Tryz.f58))=b5 [1,1,0,1,0,0,1,1,0,0,1,1,1] (ag Tryz.f58):=by kernel_rfl
theorem z8:∀ e H Q,Ch e H Q→AwK Tryz.f58.ntmps (b5 [1,1,0,0,1,1,1] (ai [1,1,0,1,0] (ag Tryz.f58))) Q e H:=by
 rw[Hg]; exact EI
def Bd:LSp:=fun e H Q=>∃(c:Mt),ah (List.map e [2,4]) [.ptr 0 0,.ptr 1 0]∧av H [.abs (mw c),.cells [.U 0,.I 0,.U 0,.E,.E],.dead,.dead]∧∀(x y:PV) (gx gy:Ob),ArR 4 c.rows x gx→ArS 5 c.aa y gy→Q .normal (ak [2,4] [.ptr 0 0,.ptr 1 0]) [.cells [.U c.id,.I c.md,.U c.ins,x,y],.cells [.U c.id,.I c.md,.U c.ins,x,y],.dead,.dead,gx,gy]
theorem yQ:∀ e H Q,Bd e H Q→AwK Tryz.f58.ntmps (b5 [1,1,1,0] (ag Tryz.f58)) Q e H:=by
 rintro e H Q ⟨c,he,hH,hQ⟩
 have hH:H=_:=hH
 subst hH
 refine AW.wT (q:=0) (I:=MW c) rfl fun hh h _=>?_
 obtain⟨x,y,gx,gy,hx,hy,rfl⟩:=h
 obtain⟨x',y',hx',hy',h1,h2⟩:=Cc (H:=[.abs (mw c),.cells [.U 0,.I 0,.U 0,.E,.E],.dead,.dead]) hx hy
 refine⟨_,s3 hx hy h1 h2,?_⟩
 refine dj (T:=[]) (slots:=[2,4]) (outs:=[2,4]) (hn:=fun o=>match o.dst with|some 40=>1|_=>0) (.nil _ _) (.nil _ _ _ _ _) he rfl (G0 c x' y' gx gy (fun ex vs H'=>Q ex (ak [2,4] vs) H') ?_)
 rw[au,if_pos (by simp only[List.all_cons,hx'.one,hy'.one]; rfl)]
 exact hQ x' y' gx gy hx' hy'
theorem KR (c:Mt) (l:List Rr) (i:Nat):(by refine(?_:_→_→_→_→Prop) (Ob.cells [.U 0,.I 0,.U 0,.E,.E]) (List.getD (l.map rrc) (Int.toNat (i:Int)) []) (PV.list (l.map rrc) .no) (PV.I l.length); exact fun j k p q=>by refine(?_:_→_→_→Prop) [PV.ptr 0 0,.ptr 1 0,p,q,.I i] [Ob.abs (mw c),j,.dead,.dead] (PV.list (cL k 1) (cT k 1)); exact fun m n o=>∀(R:Ex→List PV→ae→Prop),(br (decide ((i:Int)<(l.length:Int))) (InL (l.map rrc) 4 (i:Int)∧br (true && aD [.int .i64,.list,.int .i64,.int .i64] 0 k) (∃(c_1:Mt) (l_1:List Rr) (r:Rr) (i_1:Nat),by refine(?_:_→_→_→Prop) (PV.list (r.pl.map u1) .no) (PV.list (l_1.map rrc) .no) (PV.I l_1.length); exact fun f g h=>r.pl.length≤1000000∧c_1.aa.length+r.pl.length≤1000000∧ah [.ptr 0 0,.ptr 1 0,.ptr 4 0,p,q,.I i,o,.I (↑(List.length (cL k 1)):Int),.I 0] [.ptr 0 0,.ptr 1 0,.ptr 4 0,g,h,.I i_1,f,.I r.pl.length,.I 0]∧av [.abs (mw c),j,.dead,.dead,.cells [.I (cI k 0),o,.I (cI k 2),.I (cI k 3)]] [.abs (mw c_1),j,.dead,.dead,.cells [.I r.tm,f,.I r.rt,.I r.wd]]∧∃(l:List Int) (tl:Tail),ah [f] [.list (l.map u1) tl]∧l.length≤1000000∧∃(c:Mt) (l_2:List Rr) (r_1:Rr) (i:Nat),by refine(?_:_→_→_→Prop) (Ob.cells [.I r_1.tm,.list (r_1.pl.map u1) .no,.I r_1.rt,.I r_1.wd]) (PV.list (l_2.map rrc) .no) (PV.I l_2.length); exact fun a b d=>c.rows.length+1≤1000000∧ah [.ptr 0 0,.ptr 1 0,.ptr 4 0,g,h,.I i_1] [.ptr 0 0,.ptr 1 0,.ptr 4 0,b,d,.I i]∧av [.abs (mw (cV c_1 r.pl r.tm)),j,.dead,.dead,.cells [.I r.tm,.list (l.map u1) .no,.I r.rt,.I r.wd]] [.abs (mw c),j,.dead,.dead,a]∧∀(G:ae),R .normal [.ptr 0 0,.ptr 1 0,b,d,.I (wI ((i:Int)+1))] ([.abs (mw (s5 c r_1)),j,.dead,.dead,a]++G)) False) (R (.exit 0) m n))→Holds (wpK TSD [([1,1,0,0,1,0,1,0],CW),([1,1,0,0,1,1,1],Ch)] (fun _=>0) (ai [1,1,0,1,0] (ag Tryz.f58)) [] (ak [2,4,11,12,13] m) n (fun ex e H=>R ex (List.map e [2,4,11,12,13]) H)):Prop):=fun R h=>hoE h
theorem yw {c:Mt}:gN 4 [.abs (mw c),.cells [.U 0,.I 0,.U 0,.E,.E],.dead,.dead]:=by
 intro o cs ho
 have k1:=(List.getElem?_eq_some_iff.1 ho).1
 simp at k1
 have:o=0∨o=1∨o=2∨o=3:=by omega
 rcases this with rfl|rfl|rfl|rfl
 ·cases ho
 ·cases ho; exact fun x hx=> .low (sv x hx)
 ·cases ho
 ·cases ho
def Jn:LSp:=fun e H Q=>∃(c:Mt) (l:List Rr) (x y:PV) (g gx:Ob),l.length≤1000000∧c.rows.length+l.length≤1000000∧(∀ r∈l,r.pl.length≤1000000)∧c.aa.length+tot l≤1000000∧ArR 3 c.rows x gx∧ArS 2 c.aa y g∧ah (List.map e [2,4,11,12,13]) [.ptr 0 0,.ptr 1 0,.list (l.map rrc) .no,.I l.length,.I 0]∧av H [.cells [.U c.id,.I c.md,.U c.ins,x,y],.cells [.U 0,.I 0,.U 0,.E,.E],g,gx]∧Q (.exit 0) (ak [2,4,11,12,13] [.ptr 0 0,.ptr 1 0,.list (l.map rrc) .no,.I l.length,.I l.length]) [.abs (mw (ay c l)),.cells [.U 0,.I 0,.U 0,.E,.E],.dead,.dead]
theorem DV:∀ e H Q,Jn e H Q→AwK Tryz.f58.ntmps (.loop (ai [1,1,0,1,0] (ag Tryz.f58))) Q e H:=by
 rintro e H Q ⟨c,l,x,y,g,gx,hl,hrl,hpl,hst,hx,hy,he,hH,hQ⟩
 have hH:H=_:=hH
 subst hH
 obtain⟨ρ,hh,hs⟩:=vb (c:=c) (x:=x) (y:=y) (i:=3) (k:=2) (gx:=gx) (gy:=g) (T:=[.cells [.U 0,.I 0,.U 0,.E,.E],g,gx]) (T2:=[.cells [.U 0,.I 0,.U 0,.E,.E],.dead,.dead]) rfl rfl (by decide) (by decide) (by decide) hx hy rfl (fun o b h1 h2=>by
  have k1:=(List.getElem?_eq_some_iff.1 h1).1
  simp at k1
  have:o=0∨o=1∨o=2:=by omega
  rcases this with rfl|rfl|rfl<;>first|(exact⟨h1,by decide,by decide⟩)|(cases h1; cases h2))
 refine AW.shut hs ?_
 have lidv:∀ i:Nat,∀ v∈([.ptr 0 0,.ptr 1 0,.list (l.map rrc) .no,.I l.length,.I i]:List PV),Lid 4 v:=by
  intro i v hv
  simp only[List.mem_cons,List.not_mem_nil,or_false] at hv
  rcases hv with rfl|rfl|rfl|rfl|rfl
  ·exact .ptr _ _ (by decide)
  ·exact .ptr _ _ (by decide)
  ·exact .low (aR _)
  ·exact .low (.int _ _)
  ·exact .low (.int _ _)
 refine fF (hn:=fun _=>0) aj vp (.cons suE Aw (.cons atE z8 (.nil _ _ _ _ _))) (σ:=Nat) [2,4,11,12,13] (fun i=>i≤l.length) (fun i=>[.ptr 0 0,.ptr 1 0,.list (l.map rrc) .no,.I l.length,.I i]) (fun i=>[.abs (mw (ay c (l.take i))),.cells [.U 0,.I 0,.U 0,.E,.E],.dead,.dead]) (fun i=>l.length-i) 0 (Nat.zero_le _) he rfl ?_
 intro i hi
 have hi:i≤l.length:=hi
 have e1:=c8 (l.take i) c
 have e2:=gI (l.take i) c
 have e3:=fW (l:=l) i
 refine KR (ay c (l.take i)) l i _ ?_
 simp only[au,dt,an,ee]
 by_cases h:i<l.length
 ·rw[if_pos (by omega)]
  have e4:=lT h
  have e5:=fW (l:=l) (i+1)
  obtain⟨r,hr⟩:∃ r,r=l.getD i default:=⟨_,rfl⟩
  simp only[getD_map default h,← hr]
  rw[← hr] at e4
  refine⟨h,?_⟩
  rw[if_pos (by rfl)]
  have hrl:r.pl.length≤1000000:=hpl r (by rw[hr]; exact aY h)
  refine⟨ay c (l.take i),l,r,i,hrl,by omega,?_,rfl,r.pl,.no,rfl,hrl,cV (ay c (l.take i)) r.pl r.tm,l,r,i,?_,rfl,rfl,fun G=>?_⟩
  ·show _=_
   have c1:cL (rrc r) 1=r.pl.map u1:=rfl
   have c2:cT (rrc r) 1 = .no:=rfl
   rw[c1,c2,List.length_map]
  ·rw[qJ,e1,List.length_append,List.length_take]; omega
  ·refine⟨i+1,(show l.length-(i+1)<l.length-i by omega),h,?_⟩
   have e6:s5 (cV (ay c (l.take i)) r.pl r.tm) r=ay c (l.take (i+1)):=by rw[rK h,← hr]; rfl
   rw[e6,ar h (by omega)]
   exact eI (X:=[.abs (mw (ay c (l.take (i+1)))),.cells [.U 0,.I 0,.U 0,.E,.E],.dead,.dead]) (G:= .cells (rrc r)::G) yw (lidv (i+1)) (Nat.le_refl _)
 ·rw[if_neg (by omega)]
  have:i=l.length:=by omega
  subst this
  rw[List.take_length]
  exact⟨_,_,eI (X:=[.abs (mw (ay c l)),.cells [.U 0,.I 0,.U 0,.E,.E],.dead,.dead]) (G:=[]) yw (lidv l.length) (Nat.le_refl _),hQ⟩
theorem KA (c:Mt) (l:List Rr):(by refine(?_:_→_→_→Prop) (Ob.cells [.U 0,.I 0,.U 0,.E,.E]) (PV.list (l.map rrc) .no) [PV.ptr 0 0,.ptr 1 0]; exact fun d e f=>∀(K:PV→ae→Prop),(∃(c_1:Mt) (t1:Tail) (t2:Tail),ah [.agg [.U c.id,.I c.md,.U c.ins,.list (c.rows.map rrc) .no,.list (c.aa.map stc) .no]] [.agg [.U c_1.id,.I c_1.md,.U c_1.ins,.list (c_1.rows.map rrc) t1,.list (c_1.aa.map stc) t2]]∧Mt.Sm c_1∧∀(y:PV),by refine(?_:_→Prop) [PV.U c_1.id,.I c_1.md,.U c_1.ins,.arr 3 0 c_1.rows.length c_1.rows.length,y]; exact fun b=>∀(g:Ob),ArS 2 c_1.aa y g→br (5 == 5 && List.all b PV.one && decide (5≤5) && true) (∃(c:Mt) (l_1:List Rr) (x:PV) (y_1:PV) (g_1:Ob) (gx:Ob),l_1.length≤1000000∧c.rows.length+l_1.length≤1000000∧(∀(r:Rr),r∈l_1→r.pl.length≤1000000)∧c.aa.length+tot l_1≤1000000∧ArR 3 c.rows x gx∧ArS 2 c.aa y_1 g_1∧ah [.ptr 0 0,.ptr 1 0,e,.I (↑(List.length (l.map rrc)):Int),.I 0] [.ptr 0 0,.ptr 1 0,.list (l_1.map rrc) .no,.I l_1.length,.I 0]∧av [.cells b,d,g,.cells (flR c_1.rows)] [.cells [.U c.id,.I c.md,.U c.ins,x,y_1],d,g_1,gx]∧∃(c_2:Mt),ah f f∧av [.abs (mw (ay c l_1)),d,.dead,.dead] [.abs (mw c_2),d,.dead,.dead]∧∀(x y:PV),by refine(?_:_→Prop) [PV.U c_2.id,.I c_2.md,.U c_2.ins,x,y]; exact fun a=>∀(gx gy:Ob),ArR 4 c_2.rows x gx→ArS 5 c_2.aa y gy→K (.agg a) [.cells a,.cells a,.dead,.dead,gx,gy]) False)→AcK 58 [c.pv,e] [] K:Prop):=fun K h=>acW (T:=TSD) (L:=[([1,1,0,1,0],Jn),([1,1,1,0],Bd)]) (fun o=>match o.dst with|some 7=>1|_=>0) Tryz.func58 (vp) (.cons suE DV (.cons atE yQ (.nil _ _ _ _ _))) h
theorem Eo {f:FuncId} {args:List PV} {H:ae} {c:Mt} {k m:Nat} {K:PV→ae→Prop}
  (h:AcK f args H (fun z H'=>∃(x y:PV) (gx gy:Ob),ArR k c.rows x gx∧ArS m c.aa y gy∧k≠m∧z=ez c x y∧H'[k]?=some gx∧H'[m]?=some gy∧∀ H2:ae,H2.length=H'.length→H2[m]?=some gy→(∀ i b,i≠m→H2[i]?=some b→b = .dead)→K (ez c (.list (c.rows.map rrc) .no) y) H2)):AcK f args H K:=by
 refine bV (aM h fun z H' hh=>?_)
 obtain⟨x,y,gx,gy,⟨cap,J,rfl,rfl,hc,hJ⟩,hy,hne,rfl,hk,hm,hK⟩:=hh
 have hml:=(List.getElem?_eq_some_iff.1 hm).1
 have g1:((List.replicate H'.length Ob.dead).set m gy)[m]?=some gy:=by rw[List.getElem?_set_self (by simpa using hml)]
 have g2:∀ i b,i≠m→((List.replicate H'.length Ob.dead).set m gy)[i]?=some b→b = .dead:=by
  intro i b hi hb
  rw[List.getElem?_set_ne (Ne.symm hi),List.getElem?_replicate] at hb
  split at hb
  ·cases hb; rfl
  ·cases hb
 refine⟨k,0,4,[],J,c.rows.map rrc,ez c (.list (c.rows.map rrc) .no) y,(List.replicate H'.length Ob.dead).set m gy,hk,rfl,b8 fA _,⟨by simp,fun i b hb=>?_⟩,?_,hK _ (by simp) g1 g2⟩
 ·by_cases e:i=m
  ·subst e
   rw[g1] at hb; cases hb
   exact .inr (.inl ⟨Ne.symm hne,hm⟩)
  ·exact .inl (g2 i b e hb)
 ·have:=Fz.arr (o:=k) (off:=0) (es:=c.rows.map rrc) cap (by rw[List.length_map]; exact hc)
  rw[List.length_map] at this
  exact Fz.iS (.cons (.refl _) (.cons (.refl _) (.cons (.refl _) (.cons this (.cons (.refl _) .nil)))))
theorem D5 (c:Mt) (l:List Rr) (h:c.Sm) (hl:c.rows.length+l.length≤1000000) (hp:∀ r∈l,r.pl.length≤1000000) (hs:c.aa.length+tot l≤1000000):AcK 58 [c.pv,.list (l.map rrc) .no] [] (fun x _=>x=(ay c l).pv):=by
 obtain⟨d,hd⟩:∃ d,d=ay c l:=⟨_,rfl⟩
 rw[← hd]
 have h1:AcK 58 [c.pv,.list (l.map rrc) .no] [] (fun z H'=>∃(y:PV) (gy:Ob),ArS 5 d.aa y gy∧z=ez d (.list (d.rows.map rrc) .no) y∧H'[5]?=some gy∧(∀ i b,i≠5→H'[i]?=some b→b = .dead)):=by
  refine Eo (c:=d) (k:=4) (m:=5) (KA c l _ ⟨c,.no,.no,rfl,h,fun y g hA=>?_⟩)
  rw[au,if_pos (by simp only[List.all_cons,hA.one]; rfl)]
  refine⟨c,l,_,y,g,_,by omega,hl,hp,hs,⟨c.rows.length,[],rfl,?_,Nat.le_refl _,(ie 0).cast (by simp)⟩,hA,?_,rfl,d,rfl,by rw[← hd]; rfl,fun x y gx gy hx hy=>⟨x,y,gx,gy,hx,hy,by decide,rfl,rfl,rfl,fun H2 _ k2 k3=>⟨y,gy,hy,rfl,k2,k3⟩⟩⟩
  ·rw[List.append_nil]
  ·show _=_; rw[List.length_map]
 by_cases e:d.aa=[]
 ·refine a9 (aM h1 fun z H' hh=>?_)
  obtain⟨y,gy,hy,rfl,_⟩:=hh
  rcases hy with⟨_,rfl,rfl⟩|⟨hn,_⟩
  ·refine⟨d.pv,?_,rfl⟩
   have:=gW (c:=d) (t1:= .no) (t2:= .exact)
   rw[e] at this
   exact this
  ·exact absurd e hn
 ·refine bV (aM h1 fun z H' hh=>?_)
  obtain⟨y,gy,hy,rfl,h5,hr⟩:=hh
  rcases hy with⟨h0,_⟩|⟨_,cap,J,rfl,rfl,hc,hJ⟩
  ·exact absurd h0 e
  ·refine⟨5,0,6,[],J,d.aa.map stc,d.pv,List.replicate H'.length .dead,h5,rfl,b8 bQ _,⟨by simp,fun i b hb=> .inl ?_⟩,?_,rfl⟩
   ·rw[List.getElem?_replicate] at hb
    split at hb
    ·cases hb; rfl
    ·cases hb
   ·have:=Fz.arr (o:=5) (off:=0) (es:=d.aa.map stc) cap (by rw[List.length_map]; exact hc)
    rw[List.length_map] at this
    exact Fz.iS (.cons (.refl _) (.cons (.refl _) (.cons (.refl _) (.cons (.refl _) (.cons this .nil)))))
def uK (args:List PV) (K:PV→Prop):Prop:=∃(c:Mt) (l:List Rr) (t1 t2 t3:Tail),ah args [.agg [.U c.id,.I c.md,.U c.ins,.list (c.rows.map rrc) t1,.list (c.aa.map stc) t2],.list (l.map rrc) t3]∧c.Sm∧c.rows.length+l.length≤1000000∧(∀ r∈l,r.pl.length≤1000000)∧c.aa.length+tot l≤1000000∧K (ay c l).pv
theorem zo:SpK 58 (.pure uK):=by
 rintro args K ⟨c,l,t1,t2,t3,he,h,hl,hp,hs,hk⟩
 have he:args=_:=he
 subst he
 exact bu aj (.cons gW (.cons (.list _ _) .nil)) (bn c.low (aR _)) (ay c l).low (D5 c l h hl hp hs) hk
abbrev aq (w:List Mt):List RwM:=rowsOf Mt.id w
def inM (c:Mt) (p:Int):Bool:=c.aa.any (isP p)
def ofM (w:List Mt) (p:Int):Int:=if w.findIdx (fun c=>inM c p)<w.length then(w.getD (w.findIdx fun c=>inM c p) default).id else 0
def pairs (l:List Rr):List (Int×Int):=l.flatMap fun r=>r.pl.map fun p=>(p,r.tm)
def fg (l:List Se):List (Int×Int):=l.map fun s=>(s.pl,s.tm)
def taken (l:List Rr) (t:Int):Nat:=((l.filter fun r=>r.tm == t).map fun r=>r.pl.length).sum
structure Mt.Ok (c:Mt):Prop where
 rt:aC c.id=true
 sn:c.aa.Pairwise fun a b=>a.nu<b.nu
 lo:∀ s∈c.aa,0≤s.nu∧s.nu<8
 tm:∀ r∈c.rows,r.tm=1∨r.tm=2
 ne:∀ r∈c.rows,r.pl≠[]
 pm:(fg c.aa).Perm (pairs c.rows)
 nd:(c.aa.map Se.pl).Nodup
 t1:taken c.rows 1≤4
 t2:taken c.rows 2≤4
theorem mE {l:List Rr} (h:∀ r∈l,r.tm=1∨r.tm=2):tot l=taken l 1+taken l 2:=by
 induction l with
 | nil=>rfl
 | cons r l ih=>
  have ih:=ih fun a ha=>h a (by simp[ha])
  unfold tot taken at *
  rcases h r (by simp) with e|e<;>simp[e]<;>omega
theorem qx (l:List Rr):(pairs l).length=tot l:=by
 unfold pairs tot; simp[List.length_flatMap]
theorem HV {l:List Rr} (h:∀ r∈l,r.pl≠[]):l.length≤tot l:=by
 induction l with
 | nil=>exact Nat.le_refl _
 | cons r l ih=>
  have ih:=ih fun a ha=>h a (by simp[ha])
  have:=List.length_pos_iff.2 (h r (by simp))
  unfold tot at *
  simp only[List.map_cons,List.sum_cons,List.length_cons]; omega
theorem vq {l:List Rr} {r:Rr} (h:r∈l):r.pl.length≤tot l:=by
 induction l with
 | nil=>cases h
 | cons a l ih=>
  unfold tot at *
  simp only[List.map_cons,List.sum_cons]
  rcases List.mem_cons.1 h with rfl|h
  ·omega
  ·have:=ih h; omega
theorem Mt.Ok.tot {c:Mt} (h:c.Ok):tot c.rows≤8:=by have:=mE h.tm; have:=h.t1; have:=h.t2; omega
theorem Mt.Ok.aa {c:Mt} (h:c.Ok):c.aa.length=Go.Proofs.YtenaelaapdhbdaaGreatDoor.tot c.rows:=by
 have:=h.pm.length_eq
 rw[qx] at this
 unfold fg at this
 rwa [List.length_map] at this
theorem Mt.Ok.sm {c:Mt} (h:c.Ok):c.Sm:=by
 have h1:=h.tot
 refine⟨?_,?_,fun r hr=>?_⟩
 ·have:=HV h.ne; omega
 ·have:=h.aa; omega
 ·have:=vq hr; omega
structure MO (w:List Mt) (m:Int):Prop where
 rise:dN Mt.id w
 full:(w.length:Int)≤m
 big:m≤1000000
 cs:∀ c∈w,c.Ok
 one:∀ a∈w,∀ b∈w,∀ p,inM a p=true→inM b p=true→a=b
theorem MO.sm {w:List Mt} {m:Int} (h:MO w m) (c:Mt) (hc:c∈w):c.Sm:=(h.cs c hc).sm
theorem MO.ok {w:List Mt} {m:Int} (h:MO w m):Ok (aq w) m:=h.rise.ok h.full h.big
theorem MO.len {w:List Mt} {m:Int} (h:MO w m):w.length≤1000000:=by have:=h.full; have:=h.big; omega
abbrev mt0:Mt:=⟨0,0,0,[],[]⟩
theorem Ly:mt0.Sm:=⟨(show(0:Nat)≤1000000 by decide),(show(0:Nat)≤1000000 by decide),fun _ h=>nomatch h⟩
abbrev gM (w:List Mt) (t:Int):Mt:=nU Mt.id w t
theorem MO.I8 {w:List Mt} {m:Int} (h:MO w m) (t:Int):(gM w t).Sm:=by
 cases c:bz Mt.id w t with
 | true=>exact h.sm _ (eP c).1
 | false=>rw[show gM w t=_ from gQ c]; exact Ly
theorem sI {n:Nat} (c:Mt) (b:Bool):Low n (.tup [c.pv,.bool b]):= .tup _ (bn c.low (.bool _))
theorem M7 (w:List Mt):bT (aq w)=(w.map Mt.id).map u1:=by simp[bT,rowsOf,u1,Function.comp_def]
theorem GP (l:List Se) (p:Int):decide (ixS l p≥0)=l.any (isP p):=by
 unfold ixS
 by_cases c:l.findIdx (isP p)<l.length
 ·rw[if_pos c,decide_eq_true (by omega)]
  exact(List.any_eq_true.2 ⟨_,List.getElem_mem c,List.findIdx_getElem (w:=c)⟩).symm
 ·rw[if_neg c,decide_eq_false (by omega)]
  symm
  rw[List.any_eq_false]
  intro x hx hp
  exact c (List.findIdx_lt_length_of_exists ⟨x,hx,hp⟩)
theorem zK (R:Rep):M5 [.cells [.ptr 1 0],.abs R]:=kT (by
 intro ob hob
 simp only[List.mem_cons,List.not_mem_nil,or_false] at hob
 rcases hob with rfl|rfl
 ·exact fun x hx=>K3 hx
 ·trivial)
def TT0:Tab:=TMM [(63,.read LU),(36,.pure EC)]
theorem sH:TbK TT0:=EH (.cons J3 (.cons II (.nil _ _)))
theorem FH (l:List RwM) (m:Int)  (K:PV→ae→Prop) (h:∃(q:Nat) (l_1:List RwM) (most:Int),ah [.ptr 1 0] [.ptr q 0]∧bU [.cells [.ptr 1 0],.abs (rkM l m)] q (rkM l_1 most)∧Ok l_1 most∧K (.list (bT l_1) .no) [.cells [.ptr 1 0],.abs (rkM l m)]):AcK 31 [.ptr 0 0] [.cells [.ptr 1 0],.abs (rkM l m)] K:=
 acW (T:=TT0) (L:=[]) (fun _=>0) Tryz.func31 (sH) (LOk.nil _ _ _ _ _) h
def wQ (args:List PV) (H:ae) (K:PV→Prop):Prop:=∃(q r:Nat) (w:List Mt) (m:Int),ah args [.ptr q 0]∧cm H q r (rkM (aq w) m)∧MO w m∧K (.list ((w.map Mt.id).map u1) .no)
theorem yo:SpK 31 (.read wQ):=by
 rintro args H K ⟨q,r,w,m,he,hb,ro,hk⟩
 have he:args=_:=he
 subst he
 refine⟨_,jW aj hb AE (eE _) (FH (aq w) m _ ⟨1,aq w,m,rfl,rfl,ro.ok,?_⟩),hk⟩
 exact⟨by rw[M7],_,rfl⟩
def TT1:Tab:=(31,.read wQ)::TT0
theorem EP:TbK TT1:= .cons yo sH
theorem Mg (w:List Mt) (m p:Int) (i:Nat):(by refine(?_:_→_→_→_→Prop) (List.map u1 (w.map Mt.id)) (PV.I w.length) (Ob.abs (rkM (aq w) m)) (Ob.cells [.ptr 1 0]); exact fun f j k r=>by refine(?_:_→_→Prop) [r,k] (List.getD f (Int.toNat (i:Int)) []); exact fun g h=>by refine(?_:_→Prop) (PV.U (cI h 0)); exact fun s=>∀(R:Ex→List PV→ae→Prop),(br (decide ((i:Int)<(w.length:Int))) (InL f 1 (i:Int)∧br (true && aD [.int .u32] 0 h) (∃(q:Nat) (l:List RwM) (most:Int) (t:Int),by refine(?_:_→Prop) [PV.U (Mt.id (bF l t)),.I (Mt.md (bF l t)),.U (Mt.ins (bF l t)),.list (List.map rrc (Mt.rows (bF l t))) .no,.list (List.map stc (Mt.aa (bF l t))) .no]; exact fun b=>by refine(?_:_→Prop) [r,k,.cells b]; exact fun d=>ah [.ptr 1 0,s] [.ptr q 0,.U t]∧bU g q (rkM l most)∧Ok l most∧∃(c:Mt) (x:PV) (y:PV) (p_1:Int),by refine(?_:_→Prop) (∃(t:Tail),x = .list (c.rows.map rrc) t); exact fun a=>ah [.agg b,.U p] [.agg [.U c.id,.I c.md,.U c.ins,x,y],.U p_1]∧c.aa.length≤1000000∧((a∧∃(t:Tail),y = .list (c.aa.map stc) t)∨(a∧∃(o:Nat) (cap:Nat) (J:List PV),y = .arr o 0 c.aa.length cap∧c.aa.length≤cap∧iw d o (flS c.aa++J))∨(∃(o:Nat) (n:Nat) (cap:Nat),x = .arr o 0 n cap∧o<3)∧∃(o:Nat) (cap:Nat) (J:List PV),y = .arr o 0 c.aa.length cap∧c.aa.length≤cap∧iw d o (flS c.aa++J))∧br (decide (ixS c.aa p_1≥0)) (R .ret [.ptr 0 0,.U p,s,.list f .no,j,.I i] d) (R .normal [.ptr 0 0,.U p,.U 0,.list f .no,j,.I (wI ((i:Int)+1))] d)) False) (R (.exit 0) [.ptr 0 0,.U p,.U 0,.list f .no,j,.I i] g))→Holds (wpK TT1 [] (fun _=>0) (ai [1,0,1,0] (ag Tryz.f62)) [] (ak [0,1,4,10,11,12] [.ptr 0 0,.U p,.U 0,.list ((w.map Mt.id).map u1) .no,j,.I i]) g (fun ex e H=>R ex (List.map e [0,1,4,10,11,12]) H)):Prop):=fun R h=>hoE h
theorem Ix {w:List Mt} {i:Nat} (h:i<w.length):((w.map Mt.id).map u1).getD i []=u1 (w.getD i default).id:=by
 rw[List.map_map,getD_map default h]; rfl
theorem Gq (w:List Mt) (i:Nat):InL ((w.map Mt.id).map u1) 1 (i:Int)=(i<w.length):=by rw[dQ,List.length_map]
def JW:LSp:=fun e H Q=>∃(w:List Mt) (m p:Int),MO w m∧ah (List.map e [0,1,4,10,11,12]) [.ptr 0 0,.U p,.U 0,.list ((w.map Mt.id).map u1) .no,.I w.length,.I 0]∧av H [.cells [.ptr 1 0],.abs (rkM (aq w) m)]∧
 (w.findIdx (fun c=>inM c p)<w.length→∀ G,Q .ret (ak [0,1,4,10,11,12] [.ptr 0 0,.U p,.U (ofM w p),.list ((w.map Mt.id).map u1) .no,.I w.length,.I (w.findIdx (fun c=>inM c p))]) ([.cells [.ptr 1 0],.abs (rkM (aq w) m)]++G))∧
 (w.findIdx (fun c=>inM c p)=w.length→Q (.exit 0) (ak [0,1,4,10,11,12] [.ptr 0 0,.U p,.U 0,.list ((w.map Mt.id).map u1) .no,.I w.length,.I w.length]) [.cells [.ptr 1 0],.abs (rkM (aq w) m)])
theorem DP:∀ e H Q,JW e H Q→AwK Tryz.f62.ntmps (.loop (ai [1,0,1,0] (ag Tryz.f62))) Q e H:=by
 rintro e H Q ⟨w,m,p,ro,he,hH,hQ1,hQ2⟩
 have hfl:w.findIdx (fun c=>inM c p)≤w.length:=List.findIdx_le_length
 have hlen:=ro.len
 refine aB (hn:=fun _=>0) aj EP (.nil _ _ _ _ _) (σ:=Nat) [0,1,4,10,11,12] (fun i=>i≤w.findIdx (fun c=>inM c p)) (fun i=>[.ptr 0 0,.U p,.U 0,.list ((w.map Mt.id).map u1) .no,.I w.length,.I i]) (fun _=>[.cells [.ptr 1 0],.abs (rkM (aq w) m)]) (fun i=>w.length-i) 0 (Nat.zero_le _) he hH ?_
 intro i hi
 have hi':i≤w.findIdx (fun c=>inM c p):=hi
 refine Mg w m p i _ ?_
 simp only[au,dt,Gq,an]
 by_cases h:i<w.length
 ·rw[if_pos (by omega),Ix h]
  refine⟨h,?_⟩
  rw[if_pos (by rfl)]
  obtain⟨c,hcd⟩:∃ c,c=w.getD i default:=⟨_,rfl⟩
  have hcm:c∈w:=by rw[hcd]; exact aY h
  have hid:cI (u1 (w.getD i default).id) 0=c.id:=by rw[← hcd]; rfl
  rw[hid]
  have hg:bF (aq w) c.id=c:=by rw[kS ro.ok]; exact yf ro.rise hcm
  refine⟨1,aq w,m,c.id,rfl,rfl,ro.ok,?_⟩
  rw[hg]
  refine⟨c,_,_,p,rfl,(ro.sm c hcm).aa,.inl ⟨⟨_,rfl⟩,_,rfl⟩,?_⟩
  have hany:(ixS c.aa p≥0)↔inM c p=true:=by rw[inM,← GP,decide_eq_true_eq]
  by_cases k:ixS c.aa p≥0
  ·have hge:w.findIdx (fun c=>inM c p)=i:=ed default hi' h (by rw[← hcd]; exact hany.1 k)
   rw[if_pos k]
   have:=hQ1 (by omega)
   unfold ofM at this
   rw[hge,if_pos h,← hcd] at this
   exact this [_]
  ·have hlt:i<w.findIdx (fun c=>inM c p):=ec default hi' h (by rw[← hcd]; exact Bool.eq_false_iff.2 fun e=>k (hany.2 e))
   rw[if_neg k]
   exact⟨i+1,(show w.length-(i+1)<w.length-i by omega),hlt,by rw[ar h (by omega)],[_],rfl,Nat.le_refl _,.inr ⟨by
    intro v hv
    simp only[List.mem_cons,List.not_mem_nil,or_false] at hv
    rcases hv with rfl|rfl|rfl|rfl|rfl|rfl
    ·exact .ptr _ _ (by simp)
    ·exact .int _ _
    ·exact .int _ _
    ·exact eE _
    ·exact .int _ _
    ·exact .int _ _,zK _⟩⟩
 ·rw[if_neg (by omega)]
  have:i=w.length:=by omega
  subst this
  exact hQ2 (by omega)
theorem G5 (w:List Mt) (m p:Int):(by refine(?_:_→Prop) (Ob.cells [.ptr 1 0]); exact fun e=>by refine(?_:_→Prop) [e,.abs (rkM (aq w) m)]; exact fun d=>∀(K:PV→ae→Prop),(∃(q:Nat) (r:Nat) (w_1:List Mt) (m_1:Int),ah [.ptr 0 0] [.ptr q 0]∧cm d q r (rkM (aq w_1) m_1)∧MO w_1 m_1∧∃(w_2:List Mt) (m_2:Int) (p_1:Int),by refine(?_:_→_→Prop) [e,.abs (rkM (aq w_2) m_2)] (fun(c:Mt)=>inM c p_1); exact fun a b=>MO w_2 m_2∧ah [.ptr 0 0,.U p,.U 0,.list (List.map u1 (w_1.map Mt.id)) .no,.I (↑(List.length (List.map u1 (w_1.map Mt.id))):Int),.I 0] [.ptr 0 0,.U p_1,.U 0,.list (List.map u1 (w_2.map Mt.id)) .no,.I w_2.length,.I 0]∧av d a∧(List.findIdx b w_2<w_2.length→∀(G:List Ob),K (.U (ofM w_2 p_1)) (a++G))∧(List.findIdx b w_2=w_2.length→K (.U 0) a))→AcK 62 [.ptr 0 0,.U p] d K:Prop):=fun K h=>acW (T:=TT1) (L:=[([1,0,1,0],JW)]) (fun _=>0) Tryz.func62 (EP) (.cons suE DP (.nil _ _ _ _ _)) h
def EB (args:List PV) (H:ae) (K:PV→Prop):Prop:=∃(q r:Nat) (w:List Mt) (m p:Int),ah args [.ptr q 0,.U p]∧cm H q r (rkM (aq w) m)∧MO w m∧K (.U (ofM w p))
theorem Ee:SpK 62 (.read EB):=by
 rintro args H K ⟨q,r,w,m,p,he,hb,ro,hk⟩
 have he:args=_:=he
 subst he
 refine⟨_,jW aj hb cU (.int _ _) (G5 w m p _ ⟨0,1,w,m,rfl,⟨rfl,rfl⟩,ro,w,m,p,ro,(by show _=_; simp only[List.length_map]),rfl,fun h G=>?_,fun h=>?_⟩),hk⟩
 ·exact⟨rfl,_,rfl⟩
 ·refine⟨?_,[],rfl⟩
  unfold ofM
  rw[if_neg (by omega)]
theorem IW (w:List Mt) (m t:Int):∀(K:PV→ae→Prop),(∃(q:Nat) (l:List RwM) (most:Int) (t_1:Int),by refine(?_:_→Prop) [PV.U (Mt.id (bF l t_1)),.I (Mt.md (bF l t_1)),.U (Mt.ins (bF l t_1)),.list (List.map rrc (Mt.rows (bF l t_1))) .no,.list (List.map stc (Mt.aa (bF l t_1))) .no]; exact fun b=>ah [.ptr 1 0,.U t] [.ptr q 0,.U t_1]∧bU [.cells [.ptr 1 0],.abs (rkM (aq w) m),.cells [.U 0,.I 0,.U 0,.E,.E]] q (rkM l most)∧Ok l most∧∃(c:Mt) (t1:Tail) (t2:Tail),by refine(?_:_→Prop) [PV.U c.id,.I c.md,.U c.ins,.list (c.rows.map rrc) .no,.list (c.aa.map stc) .no]; exact fun a=>ah [.agg b] [.agg [.U c.id,.I c.md,.U c.ins,.list (c.rows.map rrc) t1,.list (c.aa.map stc) t2]]∧Mt.Sm c∧K (.tup [.agg a,.bool (has l t_1)]) [.cells [.ptr 1 0],.abs (rkM (aq w) m),.cells a,.cells b])→AcK 9 [.ptr 0 0,.U t] [.cells [.ptr 1 0],.abs (rkM (aq w) m)] K:=fun K h=>acW (T:=TT0) (L:=[]) (fun o=>match o.dst with|some 21=>1|_=>0) Tryz.func9 (sH) (LOk.nil _ _ _ _ _) h
end Go.Proofs.YtenaelaapdhbdaaGreatDoor
