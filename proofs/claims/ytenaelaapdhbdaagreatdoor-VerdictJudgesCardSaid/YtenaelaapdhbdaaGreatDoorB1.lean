/-
  What the program's and the document's functions do, over plain values, part 4.
-/
import Derived.Test.YtenaelaapdhbdaaGreatDoorA3
import Derived.Test.YtenaelaapdhbdaaGreatDoorProg
namespace Go.Proofs.YtenaelaapdhbdaaGreatDoor
open Go Go.AM Go.Proofs
def scs:List Int:=[500,1000,0]
def gf:List Int:=[500,571,640,703,760,808,849,882,909,930,947,960,969,977,983,987,990]
def gl:az:=fun k=>match k with
 | 1=>some [.int .i64 500,.int .i64 571,.int .i64 640,.int .i64 703,.int .i64 760,.int .i64 808,.int .i64 849,.int .i64 882,.int .i64 909,.int .i64 930,.int .i64 947,.int .i64 960,.int .i64 969,.int .i64 977,.int .i64 983,.int .i64 987,.int .i64 990]
 | 0=>some [.int .i64 500,.int .i64 1000,.int .i64 0]
 | _=>none

abbrev SpK:=GL Tryz.prog gl
abbrev TbK:=aW Tryz.prog gl
abbrev AcK:=ax Tryz.prog gl
abbrev AwK [Dfr]:=AW Tryz.prog gl
abbrev wpK:=wpc br Tryz.prog gl
theorem aj:aO gl:=by
 intro k cs hk x hx
 unfold gl at hk
 split at hk
 ·cases hk; simp at hx; rcases hx with rfl|rfl|rfl|rfl|rfl|rfl|rfl|rfl|rfl|rfl|rfl|rfl|rfl|rfl|rfl|rfl|rfl<;>exact .int _ _
 ·cases hk; simp at hx; rcases hx with rfl|rfl|rfl<;>exact .int _ _
 ·cases hk
abbrev wI (n:Int):Int:=IntKind.wrap .i64 n
theorem aD {n:Int} (h0: -9223372036854775808≤n) (h1:n≤9223372036854775807):wI n=n:=wrap_i64 h0 h1
theorem ar {i n:Nat} (h:i<n) (hn:(n:Int)≤4611686018427387904):wI ((i:Int)+1)=((i+1:Nat):Int):=by
 rw[aD (by omega) (by omega)]; rfl
theorem aX {α:Type} {l:List α} {i:Nat} {d:α} (h:i<l.length):l.getD i d∈l:=by
 rw[List.getD_eq_getElem?_getD,List.getElem?_eq_getElem h]; exact List.getElem_mem h
theorem DA (a:Int)  (K:PV→Prop) (h:K (.bool (a != a))):AcK 106 [.U a] [] (fun x _=>K x):=
 acW (T:=[]) (L:=[]) (fun _=>0) Tryz.func106 (aW.nil _ _) (LOk.nil _ _ _ _ _) h
theorem EF (a:Int)  (K:PV→Prop) (h:br (decide (a≥1) == true) (K (.bool (decide (a≤2147483647)))) (K (.bool false))):AcK 50 [.U a] [] (fun x _=>K x):=
 acW (T:=[]) (L:=[]) (fun _=>0) Tryz.func50 (aW.nil _ _) (LOk.nil _ _ _ _ _) h
def sM (args:List PV) (K:PV→Prop):Prop:=match args with
 | [.int .u32 _]=>K (.bool false)
 | _=>False
theorem Eh:SpK 106 (.pure sM):=by
 intro args K h
 unfold sM at h
 split at h
 ·rename_i a
  refine ck aj (by simp[cf]) (.bool _) (DA a (fun x=>x = .bool false) ?_) h
  simp
 ·exact h.elim
def aC (a:Int):Bool:=decide (1≤a∧a≤2147483647)
def kO (args:List PV) (K:PV→Prop):Prop:=match args with
 | [.int .u32 a]=>K (.bool (aC a))
 | _=>False
theorem ox:SpK 50 (.pure kO):=by
 intro args K h
 unfold kO at h
 split at h
 ·rename_i a
  refine ck aj (by simp[cf]) (.bool _) (EF a (fun x=>x = .bool (aC a)) ?_) h
  simp only[au,bt,dt]
  unfold aC
  by_cases c:a≥1
  ·rw[if_pos c]; congr 1; apply decide_eq_decide.2; omega
  ·rw[if_neg c]; congr 1; symm; apply decide_eq_false; omega
 ·exact h.elim
def TK0:Tab:=[(106,.pure sM),(50,.pure kO)]
theorem E0:TbK TK0:= .cons Eh (.cons ox (.nil _ _))
theorem GA (a b:Int)  (K:PV→Prop) (h:br (decide (a<b)) (K (.I (-1))) (br (decide (a>b)) (K (.I 1)) (K (.I 0)))):AcK 84 [.U a,.U b] [] (fun x _=>K x):=
 acW (T:=TK0) (L:=[]) (fun _=>0) Tryz.func84 (E0) (LOk.nil _ _ _ _ _) h
def ga (a b:Int):Int:=if a<b then -1 else if a>b then 1 else 0
def vv (args:List PV) (K:PV→Prop):Prop:=match args with
 | [.int .u32 a,.int .u32 b]=>K (.int .i64 (ga a b))
 | _=>False
theorem GY:SpK 84 (.pure vv):=by
 intro args K h
 unfold vv at h
 split at h
 ·rename_i a b
  refine ck aj (by simp[cf]) (.int _ _) (GA a b (fun x=>x = .I (ga a b)) ?_) h
  simp only[au,dt]
  unfold ga
  by_cases c:a<b
  ·rw[if_pos c,if_pos c]
  rw[if_neg c,if_neg c]
  by_cases d:a>b
  ·rw[if_pos d,if_pos d]
  ·rw[if_neg d,if_neg d]
 ·exact h.elim
def TK:Tab:=(84,.pure vv)::TK0
theorem xX:TbK TK:= .cons GY E0
structure Rw (G:Type) where
 id:Int
 v:G
instance rwInh {G:Type} [Inhabited G]:Inhabited (Rw G):=⟨⟨0,default⟩⟩
section
variable {G:Type}
structure Ok (l:List (Rw G)) (most:Int):Prop where
 rise:l.Pairwise fun a b=>a.id<b.id
 full:(l.length:Int)≤most
 big:most≤1000000
theorem Ok.len {l:List (Rw G)} {most:Int} (h:Ok l most):l.length≤1000000:=by have:=h.full; have:=h.big; omega
theorem Ok.none {most:Int} (h0:0≤most) (h:most≤1000000):Ok ([]:List (Rw G)) most:=⟨List.Pairwise.nil,by simpa using h0,h⟩
end
section
variable {G:Type} [Inhabited G]
structure Lb (l:List (Rw G)) (t:Int) (p:Nat):Prop where
 le:p≤l.length
 lo:∀ k,k<p→(l.getD k default).id<t
 hi:∀ k,p≤k→k<l.length→t≤(l.getD k default).id
def wA (l:List (Rw G)) (t:Int) (p:Nat):Bool:=decide (p<l.length∧(l.getD p default).id=t)
def lbp (l:List (Rw G)) (t:Int):Nat:=l.findIdx fun r=>decide (t≤r.id)
def has (l:List (Rw G)) (t:Int):Bool:=wA l t (lbp l t)
theorem Ok.lb {l:List (Rw G)} {most:Int} (h:Ok l most) (t:Int):Lb l t (lbp l t):=by
 refine⟨List.findIdx_le_length,fun k hk=>?_,fun k hk hl=>?_⟩
 ·have hkl:k<l.length:=Nat.lt_of_lt_of_le hk List.findIdx_le_length
  have:=List.not_of_lt_findIdx hk
  rw[List.getD_eq_getElem?_getD,List.getElem?_eq_getElem hkl,Option.getD_some]
  simp only[decide_eq_false_iff_not] at this
  omega
 ·have hpl:lbp l t<l.length:=Nat.lt_of_le_of_lt hk hl
  have h1:t≤(l[lbp l t]'hpl).id:=by
   have:=List.findIdx_getElem (p:=fun r:Rw G=>decide (t≤r.id)) (w:=hpl)
   exact of_decide_eq_true this
  rw[List.getD_eq_getElem?_getD,List.getElem?_eq_getElem hl,Option.getD_some]
  rcases Nat.eq_or_lt_of_le hk with e|e
  ·subst e; exact h1
  ·have:=List.pairwise_iff_getElem.1 h.rise (lbp l t) k hpl hl e
   omega
theorem Ok.get {l:List (Rw G)} {most:Int} (h:Ok l most) {i j:Nat} (hij:i<j) (hj:j<l.length):(l.getD i default).id<(l.getD j default).id:=by
 rw[List.getD_eq_getElem?_getD,List.getElem?_eq_getElem (by omega),List.getD_eq_getElem?_getD,List.getElem?_eq_getElem hj]
 exact List.pairwise_iff_getElem.1 h.rise i j (by omega) hj hij
def bD (l:List (Rw G)) (t:Int):G:=if has l t=true then(l.getD (lbp l t) default).v else default
def cV (l:List (Rw G)) (most t:Int) (v:G):List (Rw G)×Int:=
 if aC t=true then
  if has l t=true then(l.set (lbp l t) ⟨t,v⟩,0)
  else if(l.length:Int)≥most then(l,10) else(bw l (lbp l t) ⟨t,v⟩,0)
 else(l,14)
def tY (l:List (Rw G)) (most t:Int) (v:G):List (Rw G)×Int:=if has l t=true then(l,11) else cV l most t v
def lj (l:List (Rw G)) (t:Int):List (Rw G):=if has l t=true then l.eraseIdx (lbp l t) else l
theorem ol (t:Int):has ([]:List (Rw G)) t=false:=rfl
theorem fU {l:List (Rw G)} {t:Int} (h:has l t=true):lbp l t<l.length∧(l.getD (lbp l t) default).id=t:=by
 unfold has wA at h; simpa using h
theorem bg {α:Type} {d:α} {l:List α} {k:Nat} (h:k<l.length):l.getD k d=l[k]:=by
 rw[List.getD_eq_getElem?_getD,List.getElem?_eq_getElem h]; rfl
theorem mW {l:List (Rw G)} {most t:Int} (ok:Ok l most) (h:has l t=false):∀ k,lbp l t≤k→k<l.length→t<(l.getD k default).id:=by
 intro k h1 h2
 have h3:=(ok.lb t).hi k h1 h2
 unfold has wA at h
 have h4:¬(lbp l t<l.length∧(l.getD (lbp l t) default).id=t):=of_decide_eq_false h
 rcases Nat.eq_or_lt_of_le h1 with e|e
 ·subst e
  have:(l.getD (lbp l t) default).id≠t:=fun k=>h4 ⟨h2,k⟩
  omega
 ·have:=ok.get e h2
  have:=(ok.lb t).hi (lbp l t) (Nat.le_refl _) (by omega)
  omega
theorem Ok.put {l:List (Rw G)} {most:Int} (ok:Ok l most) (t:Int) (v:G):Ok (cV l most t v).1 most:=by
 unfold cV
 split
 ·split
  ·rename_i h
   obtain⟨h1,h2⟩:=fU h
   refine⟨?_,by simpa using ok.full,ok.big⟩
   rw[List.pairwise_iff_getElem]
   intro i j hi hj hij
   simp only[List.length_set] at hi hj
   have h3:=ok.get hij hj
   rw[bg hi,bg hj] at h3
   rw[bg h1] at h2
   simp only[List.getElem_set]
   split<;>split
   ·omega
   ·rename_i e _; subst e; simp only; omega
   ·rename_i _ e; subst e; simp only; omega
   ·exact h3
  ·split
   ·exact ok
   ·rename_i h h1
    refine⟨?_,by show((bw l (lbp l t) _).length:Int)≤most; rw[fH (show lbp l t≤l.length from List.findIdx_le_length)]; omega,ok.big⟩
    have hb:has l t=false:=by simpa using h
    have lb:=ok.lb t
    unfold bw
    rw[List.pairwise_append]
    refine⟨ok.rise.sublist (List.take_sublist _ _),List.pairwise_cons.2 ⟨fun a ha=>?_,ok.rise.sublist (List.drop_sublist _ _)⟩,fun a ha b hb'=>?_⟩
    ·obtain⟨k,hk,rfl⟩:=List.mem_iff_getElem.1 ha
     rw[List.length_drop] at hk
     rw[List.getElem_drop]
     have:=mW ok hb (lbp l t+k) (by omega) (by omega)
     rw[bg (by omega)] at this
     exact this
    ·obtain⟨k,hk,rfl⟩:=List.mem_iff_getElem.1 ha
     rw[List.length_take] at hk
     have h5:=lb.lo k (by omega)
     rw[bg (by omega)] at h5
     rw[List.getElem_take]
     rcases List.mem_cons.1 hb' with rfl|hb'
     ·exact h5
     ·obtain⟨m,hm,rfl⟩:=List.mem_iff_getElem.1 hb'
      rw[List.length_drop] at hm
      rw[List.getElem_drop]
      have:=mW ok hb (lbp l t+m) (by omega) (by omega)
      rw[bg (by omega)] at this
      omega
 ·exact ok
def bS (l:List (Rw G)):List (List PV):=l.map fun r=>[.U r.id]
end
theorem tC:∀ x∈([]:List PV),Low 0 x:=fun _ h=>nomatch h
theorem cN {k:IntKind} {n:Int}:∀ x∈[PV.int k n],Low 0 x:=fun _ h=>by rcases List.mem_singleton.1 h with rfl; exact .int _ _
theorem Mw {J:List PV} {n:Nat} (h:aJ J n):∀ y∈J,Low 2 y:=fun y hy=>(h.low y hy).up
theorem rC {G:Type} (l:List (Rw G)) (t:Int):lbp l t≤l.length:=List.findIdx_le_length
structure Rr where
 tm:Int
 pl:List Int
 rt:Int
 wd:Int
 deriving DecidableEq
structure Se where
 pl:Int
 tm:Int
 nu:Int
 st:Int
 un:Int
 no:Int
 deriving DecidableEq
structure Mt where
 id:Int
 md:Int
 ins:Int
 rows:List Rr
 aa:List Se
 deriving DecidableEq
def rrc (r:Rr):List PV:=[.I r.tm,.list (r.pl.map u1) .no,.I r.rt,.I r.wd]
def stc (s:Se):List PV:=[.U s.pl,.I s.tm,.I s.nu,.I s.st,.I s.un,.int .u64 s.no]
theorem fo (r:Rr):(rrc r).length=4:=rfl
theorem bP (s:Se):(stc s).length=6:=rfl
theorem J8 {n:Nat} (l:List Int):Low n (.list (l.map u1) .no):=bp bL l
theorem bG {n:Nat} (r:Rr):∀ y∈rrc r,Low n y:=by
 intro y hy
 simp only[rrc,List.mem_cons,List.not_mem_nil,or_false] at hy
 rcases hy with rfl|rfl|rfl|rfl<;>first|exact .int _ _|exact J8 _
theorem c8 {n:Nat} (s:Se):∀ y∈stc s,Low n y:=by
 intro y hy
 simp only[stc,List.mem_cons,List.not_mem_nil,or_false] at hy
 rcases hy with rfl|rfl|rfl|rfl|rfl|rfl<;>exact .int _ _
theorem ru (r:Rr):∀ y∈rrc r,y.one=true:=by
 intro y hy
 simp only[rrc,List.mem_cons,List.not_mem_nil,or_false] at hy
 rcases hy with rfl|rfl|rfl|rfl<;>rfl
theorem ew (s:Se):∀ y∈stc s,y.one=true:=by
 intro y hy
 simp only[stc,List.mem_cons,List.not_mem_nil,or_false] at hy
 rcases hy with rfl|rfl|rfl|rfl|rfl|rfl<;>rfl
theorem aP {n:Nat} (l:List Rr):Low n (.list (l.map rrc) .no):=bp bG l
theorem dz {n:Nat} (l:List Se):Low n (.list (l.map stc) .no):=bp c8 l
def Mt.pv (c:Mt):PV:= .agg [.U c.id,.I c.md,.U c.ins,.list (c.rows.map rrc) .no,.list (c.aa.map stc) .no]
instance rrInh:Inhabited Rr:=⟨⟨0,[],0,0⟩⟩
instance seInh:Inhabited Se:=⟨⟨0,0,0,0,0,0⟩⟩
instance mtInh:Inhabited Mt:=⟨⟨0,0,0,[],[]⟩⟩
abbrev RwM:=Rw Mt
def csM (r:RwM):List PV:=[.U r.id,.U r.v.id,.I r.v.md,.U r.v.ins,.list (r.v.rows.map rrc) .no,.list (r.v.aa.map stc) .no]
theorem dx (r:RwM):(csM r).length=6:=rfl
theorem lY {n:Nat} (r:RwM):∀ y∈csM r,Low n y:=by
 intro y hy
 simp only[csM,List.mem_cons,List.not_mem_nil,or_false] at hy
 rcases hy with rfl|rfl|rfl|rfl|rfl|rfl<;>first|exact .int _ _|exact .str _|exact aP _|exact dz _
theorem EK (v:Mt):Low 0 (Mt.pv v):=by first|exact .int _ _|exact .str _|(refine .agg _ ?_; intro y hy; simp only[List.mem_cons,List.not_mem_nil,or_false] at hy; rcases hy with rfl|rfl|rfl|rfl|rfl<;>first|exact .int _ _|exact .str _|exact aP _|exact dz _)
theorem gU (v:Mt) (b:Bool):Low 0 (.tup [Mt.pv v,.bool b]):= .tup _ (by intro y hy; simp only[List.mem_cons,List.not_mem_nil,or_false] at hy; rcases hy with rfl|rfl; exact EK v; exact .bool _)
theorem F0 (r:RwM):∀ y∈csM r,y.one=true:=by
 intro y hy
 simp only[csM,List.mem_cons,List.not_mem_nil,or_false] at hy
 rcases hy with rfl|rfl|rfl|rfl|rfl|rfl<;>rfl
abbrev flM (l:List RwM):List PV:=(l.map csM).flatten
theorem jz (l:List RwM):(flM l).length=l.length*6:=bA dx l
theorem p7 {l:List RwM} {k:Nat} (J:List PV) (h:k<l.length):List.drop (k*6) (flM l++J)=csM (l.getD k default)++(flM (l.drop (k+1))++J):=lF dx J default h
theorem jX {n:Nat} (l:List RwM) {J:List PV} (h:∀ y∈J,Low n y):∀ y∈flM l++J,Low n y:=fz (fun a _=>lY a) h
theorem sj (l:List RwM) {J:List PV} (h:∀ y∈J,y.one=true):∀ y∈flM l++J,y.one=true:=by
 intro y hy
 rcases List.mem_append.1 hy with h1|h1
 ·obtain⟨c,h2,h3⟩:=List.mem_flatten.1 h1
  obtain⟨a,_,rfl⟩:=List.mem_map.1 h2
  exact F0 a y h3
 ·exact h y h1
def dg (l:List RwM) (J:List PV) (cap:Nat) (most:Int):ae:=[.cells [.arr 1 0 l.length cap,.I most],.cells (flM l++J)]
def kI (most:Int):ae:=[.cells [.E,.I most]]
def EXM (l:List RwM) (most:Int) (H:ae):Prop:=
 (∃(J:List PV) (cap:Nat),H=dg l J cap most∧l.length≤cap∧aJ J ((cap-l.length)*6))∨(l=[]∧H=kI most)
theorem FY (r:RwM) (t:Int)  (K:PV→Prop) (h:K (.I (ga (Rw.id r) t))):AcK 100 [.agg (csM r),.U t] [] (fun x _=>K x):=
 acW (T:=TK) (L:=[]) (fun _=>0) Tryz.func100 (xX) (LOk.nil _ _ _ _ _) h
def CL (args:List PV) (K:PV→Prop):Prop:=∃(r:RwM) (t:Int),ah args [.agg (csM r),.U t]∧K (.I (ga r.id t))
theorem IA:SpK 100 (.pure CL):=by
 rintro args K ⟨r,t,he,hk⟩
 have he:args=_:=he
 subst he
 exact ck aj (by intro y hy; simp only[List.mem_cons,List.not_mem_nil,or_false] at hy; rcases hy with rfl|rfl; exact .agg _ (lY r); exact .int _ _) (.int _ _) (FY r t (fun y=>y = .I (ga r.id t)) rfl) hk
def TCM:Tab:=(100,.pure CL)::TK
theorem pg:TbK TCM:= .cons IA xX
theorem Ij (l:List RwM) (J:List PV) (cap:Nat) (most:Int) (t:Int) (i j:Nat):(by refine(?_:_→_→_→Prop) (Int.fdiv (IntKind.wrap .u64 (wI ((i:Int)+(j:Int)))) 2) (PV.arr 1 0 l.length cap) (PV.I l.length); exact fun b f g=>by refine(?_:_→_→_→Prop) (List.drop (0+Int.toNat (wI b)*6) (flM l++J)) [Ob.cells [f,.I most],.cells (flM l++J)] [PV.arr 1 0 l.length cap,.U t,.fn 100 [],g,.I i,.I j]; exact fun a c d=>∀(R:Ex→List PV→ae→Prop),(br (decide ((i:Int)<(j:Int))) ((0≤wI b∧wI b<(l.length:Int))∧br (true && aE [.int .u32,.int .u32,.int .i64,.int .u32,.list,.list] 0 a) (∃(r:RwM) (t_1:Int),ah [.agg [.U (cI a 0),.U (cI a 1),.I (cI a 2),.U (cI a 3),.list (cL a 4) (cT a 4),.list (cL a 5) (cT a 5)],.U t] [.agg [.U r.id,.U r.v.id,.I r.v.md,.U r.v.ins,.list (r.v.rows.map rrc) .no,.list (r.v.aa.map stc) .no],.U t_1]∧br (decide (ga r.id t_1<0)) (R .normal [f,.U t,.fn 100 [],g,.I (wI (wI b+1)),.I j] c) (R .normal [f,.U t,.fn 100 [],g,.I i,.I (wI b)] c)) False) (R (.exit 0) d c))→Holds (wpK TCM [] (fun _=>0) (ai [1,1,1,0,0] (ag Tryz.f99)) [] (ak [0,1,2,8,9,10] d) c (fun ex e H=>R ex (List.map e [0,1,2,8,9,10]) H)):Prop):=fun R h=>hoE h
theorem Gz (most t:Int):(by refine(?_:_→_→Prop) [PV.E,.U t,.fn 100 [],.I 0,.I 0,.I 0] [Ob.cells [.E,.I most]]; exact fun a b=>∀(R:Ex→List PV→ae→Prop),(R (.exit 0) a b)→Holds (wpK TCM [] (fun _=>0) (ai [1,1,1,0,0] (ag Tryz.f99)) [] (ak [0,1,2,8,9,10] a) b (fun ex e H=>R ex (List.map e [0,1,2,8,9,10]) H)):Prop):=fun R h=>hoE h
def Jc:LSp:=fun e H Q=>∃(l:List RwM) (J:List PV) (cap:Nat) (most t:Int) (p:Nat),Lb l t p∧l.length≤1000000∧ah (List.map e [0,1,2,8,9,10]) [.arr 1 0 l.length cap,.U t,.fn 100 [],.I l.length,.I 0,.I l.length]∧av H (dg l J cap most)∧
 Q (.exit 0) (ak [0,1,2,8,9,10] [.arr 1 0 l.length cap,.U t,.fn 100 [],.I l.length,.I p,.I p]) (dg l J cap most)
theorem BB:∀ e H Q,Jc e H Q→AwK Tryz.f99.ntmps (.loop (ai [1,1,1,0,0] (ag Tryz.f99))) Q e H:=by
 rintro e H Q ⟨l,J,cap,most,t,p,hp,hl,he,hH,hQ⟩
 refine aB (hn:=fun _=>0) aj pg (.nil _ _ _ _ _) (σ:=Nat×Nat) [0,1,2,8,9,10] (fun s=>s.1≤p∧p≤s.2∧s.2≤l.length)
  (fun s=>[.arr 1 0 l.length cap,.U t,.fn 100 [],.I l.length,.I s.1,.I s.2]) (fun _=>dg l J cap most) (fun s=>s.2-s.1) (0,l.length) ⟨Nat.zero_le _,hp.le,Nat.le_refl _⟩ he hH ?_
 rintro⟨i,j⟩ ⟨h1,h2,h3⟩
 simp only at h1 h2 h3
 refine Ij l J cap most t i j _ ?_
 simp only[au,dt]
 by_cases h:i<j
 ·rw[if_pos (by omega)]
  obtain⟨k,hk⟩:∃ k,k=(i+j) / 2:=⟨_,rfl⟩
  have e1:wI (Int.fdiv (IntKind.wrap .u64 (wI ((i:Int)+j))) 2)=(k:Int):=by
   rw[aD (n:=(i:Int)+j) (by omega) (by omega),wrap_u64 (by omega) (by omega),Int.fdiv_eq_ediv_of_nonneg _ (by decide),aD (by omega) (by omega)]
   omega
  simp only[e1,an,Nat.zero_add]
  have hkl:k<l.length:=by omega
  rw[p7 J hkl]
  refine⟨⟨by omega,by omega⟩,?_⟩
  rw[if_pos (by rfl)]
  refine⟨l.getD k default,t,rfl,?_⟩
  by_cases c:ga (l.getD k default).id t<0
  ·rw[if_pos c]
   have hc:(l.getD k default).id<t:=by unfold ga at c; split at c; assumption; split at c<;>omega
   have hkp:k<p:=by
    rcases Nat.lt_or_ge k p with q|q
    ·exact q
    ·have:=hp.hi k q hkl; omega
   exact⟨(k+1,j),(show j-(k+1)<j-i by omega),⟨hkp,h2,h3⟩,by rw[ar hkl (by omega)],[],rfl,Nat.le_refl _,.inl rfl⟩
  ·rw[if_neg c]
   have hc:t≤(l.getD k default).id:=by unfold ga at c; split at c<;>omega
   have hkp:p≤k:=by
    rcases Nat.lt_or_ge k p with q|q
    ·have:=hp.lo k q; omega
    ·exact q
   exact⟨(i,k),(show k-i<j-i by omega),⟨h1,hkp,by omega⟩,rfl,[],rfl,Nat.le_refl _,.inl rfl⟩
 ·rw[if_neg (by omega)]
  have e1:i=p:=by omega
  have e2:j=p:=by omega
  subst e1
  subst e2
  exact hQ
def JD:LSp:=fun e H Q=>∃(most t:Int),ah (List.map e [0,1,2,8,9,10]) [.E,.U t,.fn 100 [],.I 0,.I 0,.I 0]∧av H (kI most)∧
 Q (.exit 0) (ak [0,1,2,8,9,10] [.E,.U t,.fn 100 [],.I 0,.I 0,.I 0]) (kI most)
theorem Ed:∀ e H Q,JD e H Q→AwK Tryz.f99.ntmps (.loop (ai [1,1,1,0,0] (ag Tryz.f99))) Q e H:=by
 rintro e H Q ⟨most,t,he,hH,hQ⟩
 refine aB (hn:=fun _=>0) aj pg (.nil _ _ _ _ _) (σ:=Unit) [0,1,2,8,9,10] (fun _=>True)
  (fun _=>[.E,.U t,.fn 100 [],.I 0,.I 0,.I 0]) (fun _=>kI most) (fun _=>0) () trivial he hH ?_
 intro _ _
 exact Gz most t _ hQ
theorem F4 (l:List RwM) (J:List PV) (cap:Nat) (most:Int) (t:Int):(by refine(?_:_→_→Prop) (PV.arr 1 0 l.length cap) (PV.I l.length); exact fun g h=>by refine(?_:_→Prop) [Ob.cells [g,.I most],.cells (flM l++J)]; exact fun f=>∀(K:PV→ae→Prop),(∃(l_1:List RwM) (J_1:List PV) (cap_1:Nat) (most_1:Int) (t_1:Int) (p:Nat),by refine(?_:_→_→_→_→Prop) (List.drop (0+Int.toNat (p:Int)*6) (flM l_1++J_1)) (PV.arr 1 0 l_1.length cap_1) (PV.I l_1.length) (l_1.length:Int); exact fun a c d e=>by refine(?_:_→Prop) [Ob.cells [c,.I most_1],.cells (flM l_1++J_1)]; exact fun b=>Lb l_1 t_1 p∧l_1.length≤1000000∧ah [g,.U t,.fn 100 [],h,.I 0,h] [c,.U t_1,.fn 100 [],d,.I 0,d]∧av f b∧br (decide ((p:Int)<e) == true) ((0≤(p:Int)∧(p:Int)<e)∧br (true && aE [.int .u32,.int .u32,.int .i64,.int .u32,.list,.list] 0 a) (∃(r:RwM) (t:Int),ah [.agg [.U (cI a 0),.U (cI a 1),.I (cI a 2),.U (cI a 3),.list (cL a 4) (cT a 4),.list (cL a 5) (cT a 5)],.U t_1] [.agg [.U r.id,.U r.v.id,.I r.v.md,.U r.v.ins,.list (r.v.rows.map rrc) .no,.list (r.v.aa.map stc) .no],.U t]∧K (.tup [.I p,.bool (ga r.id t == 0)]) b) False) (K (.tup [.I p,.bool false]) b))→AcK 99 [g,.U t,.fn 100 []] f K:Prop):=fun K h=>acW (T:=TCM) (L:=[([1,1,1,0,0],Jc)]) (fun _=>0) Tryz.func99 (pg) (.cons suE BB (.nil _ _ _ _ _)) h
theorem HY (most t:Int)  (K:PV→ae→Prop) (h:∃(most_1:Int) (t_1:Int),ah [.E,.U t,.fn 100 [],.I 0,.I 0,.I 0] [.E,.U t_1,.fn 100 [],.I 0,.I 0,.I 0]∧av [.cells [.E,.I most]] [.cells [.E,.I most_1]]∧K (.tup [.I 0,.bool false]) [.cells [.E,.I most_1]]):AcK 99 [.E,.U t,.fn 100 []] [.cells [.E,.I most]] K:=
 acW (T:=TCM) (L:=[([1,1,1,0,0],JD)]) (fun _=>0) Tryz.func99 (pg) (.cons suE Ed (.nil _ _ _ _ _)) h
def IW (args:List PV) (H:ae) (K:PV→Prop):Prop:=
 (∃(l:List RwM) (J:List PV) (cap:Nat) (most t:Int),ah args [.arr 1 0 l.length cap,.U t,.fn 100 []]∧av H (dg l J cap most)∧Ok l most∧K (.tup [.I (lbp l t),.bool (has l t)]))∨
 (∃(most t:Int),ah args [.E,.U t,.fn 100 []]∧av H (kI most)∧K (.tup [.I 0,.bool false]))
theorem KE:SpK 99 (.read IW):=by
 rintro args H K (⟨l,J,cap,most,t,he,hH,ok,hk⟩|⟨most,t,he,hH,hk⟩)
 ·have he:args=_:=he
  have hH:H=_:=hH
  subst he
  subst hH
  obtain⟨p,hpe⟩:∃ p,p=lbp l t:=⟨_,rfl⟩
  have hp:Lb l t p:=hpe▸ok.lb t
  unfold has at hk
  rw[← hpe] at hk
  refine⟨_,F4 l J cap most t _ ⟨l,J,cap,most,t,p,hp,ok.len,rfl,rfl,?_⟩,hk⟩
  simp only[au,bt,dt]
  by_cases c:p<l.length
  ·rw[if_pos (by omega)]
   simp only[an,Nat.zero_add]
   rw[p7 J c]
   refine⟨⟨by omega,by omega⟩,?_⟩
   rw[if_pos (by rfl)]
   refine⟨l.getD p default,t,rfl,?_,rfl⟩
   unfold wA
   have e:((ga (l.getD p default).id t) == 0)=decide (p<l.length∧(l.getD p default).id=t):=by
    rw[Bool.eq_iff_iff,beq_iff_eq,decide_eq_true_eq]
    unfold ga
    constructor
    ·intro h; refine⟨c,?_⟩; split at h; omega; split at h<;>omega
    ·rintro⟨_,h⟩; rw[if_neg (by omega),if_neg (by omega)]
   rw[e]
  ·rw[if_neg (by omega)]
   unfold wA
   rw[decide_eq_false (fun h=>c h.1)]
   exact⟨rfl,rfl⟩
 ·have he:args=_:=he
  have hH:H=_:=hH
  subst he
  subst hH
  exact⟨_,HY most t _ ⟨most,t,rfl,rfl,rfl,rfl⟩,hk⟩
def TBM:Tab:=(99,.read IW)::TCM
theorem vc:TbK TBM:= .cons KE pg
theorem IC (l:List RwM) (J:List PV) (cap:Nat) (most:Int) (t:Int):(by refine(?_:_→_→Prop) [Ob.cells [.arr 1 0 l.length cap,.I most],.cells (flM l++J)] [PV.arr 1 0 l.length cap,.U t,.fn 100 []]; exact fun a b=>∀(K:PV→ae→Prop),((∃(l_1:List RwM) (J_1:List PV) (cap_1:Nat) (most_1:Int) (t_1:Int),ah b [.arr 1 0 l_1.length cap_1,.U t_1,.fn 100 []]∧av a [.cells [.arr 1 0 l_1.length cap_1,.I most_1],.cells (flM l_1++J_1)]∧Ok l_1 most_1∧K (.tup [.I (↑(lbp l_1 t_1):Int),.bool (has l_1 t_1)]) a)∨∃(most_1:Int) (t_1:Int),ah b [.E,.U t_1,.fn 100 []]∧av a [.cells [.E,.I most_1]]∧K (.tup [.I 0,.bool false]) a)→AcK 68 [.ptr 0 0,.U t] a K:Prop):=fun K h=>acW (T:=TBM) (L:=[]) (fun o=>match o.op with| .load t _=>(match t with|146=>1|_=>0)|_=>0) Tryz.func68 (vc) (LOk.nil _ _ _ _ _) h
theorem Gv (most t:Int):(by refine(?_:_→_→Prop) [Ob.cells [.E,.I most]] [PV.E,.U t,.fn 100 []]; exact fun a b=>∀(K:PV→ae→Prop),((∃(l:List RwM) (J:List PV) (cap:Nat) (most_1:Int) (t_1:Int),ah b [.arr 1 0 l.length cap,.U t_1,.fn 100 []]∧av a [.cells [.arr 1 0 l.length cap,.I most_1],.cells (flM l++J)]∧Ok l most_1∧K (.tup [.I (↑(lbp l t_1):Int),.bool (has l t_1)]) a)∨∃(most_1:Int) (t_1:Int),ah b [.E,.U t_1,.fn 100 []]∧av a [.cells [.E,.I most_1]]∧K (.tup [.I 0,.bool false]) a)→AcK 68 [.ptr 0 0,.U t] a K:Prop):=fun K h=>acW (T:=TBM) (L:=[]) (fun o=>match o.op with| .load t _=>(match t with|146=>1|_=>0)|_=>0) Tryz.func68 (vc) (LOk.nil _ _ _ _ _) h
def JI (args:List PV) (H:ae) (K:PV→Prop):Prop:=
 ∃(l:List RwM) (most t:Int),ah args [.ptr 0 0,.U t]∧EXM l most H∧Ok l most∧K (.tup [.I (lbp l t),.bool (has l t)])
theorem Dr:SpK 68 (.read JI):=by
 rintro args H K ⟨l,most,t,he,hH,ok,hk⟩
 have he:args=_:=he
 subst he
 rcases hH with⟨J,cap,rfl,_,_⟩|⟨rfl,rfl⟩
 ·exact⟨_,IC l J cap most t _ (.inl ⟨l,J,cap,most,t,rfl,rfl,ok,rfl,rfl⟩),hk⟩
 ·exact⟨_,Gv most t _ (.inr ⟨most,t,rfl,rfl,rfl,rfl⟩),hk⟩
def TAM:Tab:=(68,.read JI)::TBM
theorem AT:TbK TAM:= .cons Dr vc
theorem yz {l:List RwM} {J:List PV} {cap:Nat} {most:Int} (h:l.length≤cap) (hJ:aJ J ((cap-l.length)*6)):EXM l most [.cells [.arr 1 0 l.length cap,.I most],.cells (flM l++J)]:= .inl ⟨J,cap,rfl,h,hJ⟩
theorem AN {most:Int}:EXM [] most [.cells [.E,.I most]]:= .inr ⟨rfl,rfl⟩
def ql (l:List RwM) (most:Int) (H:ae):Prop:=∃ X G:ae,H=X++G∧EXM l most X
theorem jk {l:List RwM} {J:List PV} {cap:Nat} {most:Int} {n:Nat} (hn:2≤n) (h:∀ y∈J,Low 0 y):gD n (dg l J cap most):=
 kW (fun y hy=>by simp only[List.mem_cons,List.not_mem_nil,or_false] at hy; rcases hy with rfl|rfl; exact .arr _ _ _ _ (by omega); exact .low (.int _ _)) (fun y hy=> .low (jX l h y hy))
theorem lm {most:Int} {n:Nat}:gD n (kI most):=
 Cf (fun y hy=>by simp only[List.mem_cons,List.not_mem_nil,or_false] at hy; rcases hy with rfl|rfl; exact .low (aH NT.exact (fun _ h=>nomatch h)); exact .low (.int _ _))
def rU (args:List PV) (H:ae) (K:PV→Prop):Prop:=
 ∃(l:List RwM) (most t:Int),ah args [.ptr 0 0,.U t]∧ql l most H∧Ok l most∧K (.tup [.I (lbp l t),.bool (has l t)])
theorem rP:SpK 68 (.read rU):=by
 rintro args H K ⟨l,most,t,he,⟨X,G,rfl,hX⟩,ok,hk⟩
 have he:args=_:=he
 subst he
 obtain⟨r,h1,rfl⟩:=Dr _ X (fun x=>x = .tup [.I (lbp l t),.bool (has l t)]) ⟨l,most,t,rfl,hX,ok,rfl⟩
 have hlow:Low 0 (.tup [.I (lbp l t),.bool (has l t)]):= .tup _ (by intro y hy; simp only[List.mem_cons,List.not_mem_nil,or_false] at hy; rcases hy with rfl|rfl; exact .int _ _; exact .bool _)
 refine⟨_,?_,hk⟩
 rcases hX with⟨J,cap,rfl,hc,hJ⟩|⟨rfl,rfl⟩
 ·exact jN aj (by intro y hy; simp only[List.mem_cons,List.not_mem_nil,or_false] at hy; rcases hy with rfl|rfl; exact .ptr _ _ (by simp[dg]); exact .low (.int _ _)) (jk (by simp[dg]) hJ.low) hlow h1
 ·exact jN aj (by intro y hy; simp only[List.mem_cons,List.not_mem_nil,or_false] at hy; rcases hy with rfl|rfl; exact .ptr _ _ (by simp[kI]); exact .low (.int _ _)) lm hlow h1
def KO:Tab:=(68,.read rU)::TAM
theorem yL:TbK KO:= .cons rP AT
theorem Dp (l:List RwM) (J:List PV) (cap:Nat) (most:Int) (t:Int):(by refine(?_:_→_→_→_→Prop) [PV.arr 1 0 l.length cap,.I most] [PV.U 0,.I 0,.U 0,.E,.E] (Ob.cells (flM l++J)) [PV.ptr 0 0,.U t]; exact fun f g h i=>by refine(?_:_→Prop) [Ob.cells f,h,.cells g]; exact fun e=>∀(K:PV→ae→Prop),(∃(l_1:List RwM) (most_1:Int) (t_1:Int),by refine(?_:_→_→Prop) (↑(lbp l_1 t_1):Int) (PV.bool (has l_1 t_1)); exact fun c d=>by refine(?_:_→Prop) (List.drop (0+Int.toNat c*6+1) (flM l++J)); exact fun a=>by refine(?_:_→Prop) [PV.U (cI a 0),.I (cI a 1),.U (cI a 2),.list (cL a 3) (cT a 3),.list (cL a 4) (cT a 4)]; exact fun b=>ah i [.ptr 0 0,.U t_1]∧ql l_1 most_1 e∧Ok l_1 most_1∧br (has l_1 t_1) ((0≤c∧c<(l.length:Int))∧br (true && aE [.int .u32,.int .i64,.int .u32,.list,.list] 0 a) (K (.tup [.agg b,d]) [.cells f,h,.cells b]) False) (K (.tup [.agg g,d]) e))→AcK 35 i [.cells f,h] K:Prop):=fun K h=>acW (T:=KO) (L:=[]) (fun o=>match o.op with| .load t _=>(match t with|146=>1|_=>0)|_=>0) Tryz.func35 (yL) (LOk.nil _ _ _ _ _) h
theorem Av (most t:Int):(by refine(?_:_→_→_→Prop) [PV.U 0,.I 0,.U 0,.E,.E] (Ob.cells [.E,.I most]) [PV.ptr 0 0,.U t]; exact fun a b c=>∀(K:PV→ae→Prop),(∃(l:List RwM) (most_1:Int) (t_1:Int),ah c [.ptr 0 0,.U t_1]∧ql l most_1 [b,.cells a]∧Ok l most_1∧br (has l t_1) (InL [] 6 (↑(lbp l t_1):Int)∧False) (K (.tup [.agg a,.bool (has l t_1)]) [b,.cells a]))→AcK 35 c [b] K:Prop):=fun K h=>acW (T:=KO) (L:=[]) (fun o=>match o.op with| .load t _=>(match t with|146=>1|_=>0)|_=>0) Tryz.func35 (yL) (LOk.nil _ _ _ _ _) h
def Cd (args:List PV) (H:ae) (K:PV→Prop):Prop:=
 ∃(l:List RwM) (most t:Int),ah args [.ptr 0 0,.U t]∧EXM l most H∧Ok l most∧K (.tup [(let v:=bD l t; Mt.pv v),.bool (has l t)])
theorem rA:SpK 35 (.read Cd):=by
 rintro args H K ⟨l,most,t,he,hH,ok,hk⟩
 have he:args=_:=he
 subst he
 refine⟨_,ax.same (gU _ _).up (a9 ?_),hk⟩
 rcases hH with⟨J,cap,rfl,hc,hJ⟩|⟨rfl,rfl⟩
 ·refine Dp l J cap most t _ ⟨l,most,t,rfl,⟨_,[_],rfl,yz hc hJ⟩,ok,?_⟩
  simp only[au]
  unfold bD
  cases c:has l t with
  | true=>
   obtain⟨c1,c2⟩:=fU c
   rw[if_pos rfl,if_pos rfl]
   simp only[an,Nat.zero_add]
   rw[← List.drop_drop,p7 J c1]
   exact⟨⟨by omega,by omega⟩,by first|exact⟨_,.tup (.cons (.agg (.cons (.refl _) (.cons (.refl _) (.cons (.refl _) (.cons (.list _ _) (.cons (.list _ _) .nil)))))) (.cons (.refl _) .nil)),rfl,[_],rfl⟩|(rw[if_pos (by rfl)]; exact⟨_,.tup (.cons (.agg (.cons (.refl _) (.cons (.refl _) (.cons (.refl _) (.cons (.list _ _) (.cons (.list _ _) .nil)))))) (.cons (.refl _) .nil)),rfl,[_],rfl⟩)⟩
  | false=>rw[if_neg (by decide),if_neg (by decide)]; exact⟨_,.tup (.cons (.agg (.cons (.refl _) (.cons (.refl _) (.cons (.refl _) (.cons (.list _ _) (.cons (.list _ _) .nil)))))) (.cons (.refl _) .nil)),rfl,[_],rfl⟩
 ·refine Av most t _ ⟨[],most,t,rfl,⟨_,[_],rfl,AN⟩,ok,?_⟩
  exact⟨_,.tup (.cons (.agg (.cons (.refl _) (.cons (.refl _) (.cons (.refl _) (.cons (.list _ _) (.cons (.list _ _) .nil)))))) (.cons (.refl _) .nil)),rfl,[_],rfl⟩
def TGM:Tab:=(35,.read Cd)::TAM
theorem vU:TbK TGM:= .cons rA AT
def DD (args:List PV) (H:ae) (K:PV→Prop):Prop:=
 ∃(l:List RwM) (most t:Int),ah args [.ptr 0 0,.U t]∧ql l most H∧Ok l most∧K (.tup [(let v:=bD l t; Mt.pv v),.bool (has l t)])
theorem F2:SpK 35 (.read DD):=by
 rintro args H K ⟨l,most,t,he,⟨X,G,rfl,hX⟩,ok,hk⟩
 have he:args=_:=he
 subst he
 obtain⟨r,h1,rfl⟩:=rA _ X (fun x=>x = .tup [(let v:=bD l t; Mt.pv v),.bool (has l t)]) ⟨l,most,t,rfl,hX,ok,rfl⟩
 refine⟨_,?_,hk⟩
 rcases hX with⟨J,cap,rfl,hc,hJ⟩|⟨rfl,rfl⟩
 ·exact jN aj (by intro y hy; simp only[List.mem_cons,List.not_mem_nil,or_false] at hy; rcases hy with rfl|rfl; exact .ptr _ _ (by simp[dg]); exact .low (.int _ _)) (jk (by simp[dg]) hJ.low) (gU _ _) h1
 ·exact jN aj (by intro y hy; simp only[List.mem_cons,List.not_mem_nil,or_false] at hy; rcases hy with rfl|rfl; exact .ptr _ _ (by simp[kI]); exact .low (.int _ _)) lm (gU _ _) h1
theorem Ie:SpK 111 (.ext dJ):=
 iR (t:=146) (e:=145) (b:=true) (sz:=6) Tryz.func111 (by kernel_rfl) (by kernel_rfl) (by kernel_rfl) (by kernel_rfl) (by kernel_rfl) (by kernel_rfl) (by kernel_rfl)
def TIM:Tab:=(111,.ext dJ)::TGM
theorem EL:TbK TIM:= .cons Ie vU
theorem E6 (l:List RwM) (J:List PV) (cap:Nat) (most:Int) (r:RwM) (p:Nat):(by refine(?_:_→_→_→_→_→_→_→_→_→Prop) ((p:Int)+(1:Int)) ((l.length:Int)+(1:Int)) (Int.toNat (l.length:Int)-Int.toNat (p:Int)) [PV.U r.id,.U r.v.id,.I r.v.md,.U r.v.ins,.list (r.v.rows.map rrc) .no,.list (r.v.aa.map stc) .no] [PV.U 0,.U 0,.I 0,.U 0,.E,.E] (Int.toNat (cap:Int)-0) (Ob.cells (flM l++J)) (Int.toNat (p:Int)-0) (PV.arr 1 0 l.length cap); exact fun i m q s t u z B D=>by refine(?_:_→_→_→_→_→_→Prop) s (↑u:Int) (List.take (q*6) (List.drop (if Int.toNat (cap:Int)=Int.toNat (p:Int) then 0 else 0+Int.toNat (p:Int)*6) (flM l++J))) (Ob.cells [D,.I most]) (wI m-(p:Int)) (Int.toNat (wI m)-0); exact fun g h j n w C=>by refine(?_:_→_→Prop) (↑C:Int) (Int.toNat (p:Int)-0+Int.toNat (wI w)); exact fun d f=>by refine(?_:_→_→_→_→Prop) (Int.toNat d-Int.toNat (p:Int)) (Int.toNat (↑f:Int)-Int.toNat (p:Int)) (Int.toNat (↑f:Int)-Int.toNat (wI i)) (Int.toNat d-Int.toNat (wI i)); exact fun o x y A=>by refine(?_:_→Prop) (List.take (o*6) (List.drop (if Int.toNat h=Int.toNat (p:Int) then if Int.toNat (cap:Int)=0 then 0 else 0 else(if Int.toNat (cap:Int)=0 then 0 else 0)+Int.toNat (p:Int)*6) (flM l++J))); exact fun e=>by refine(?_:_→Prop) (over (flM l++J) (if Int.toNat h=Int.toNat (wI i) then if Int.toNat (cap:Int)=0 then 0 else 0 else(if Int.toNat (cap:Int)=0 then 0 else 0)+Int.toNat (wI i)*6) (List.take (min o A*6) e)); exact fun k=>∀(K:PV→ae→Prop),((0≤(p:Int)∧(p:Int)≤(l.length:Int)∧(l.length:Int)≤(cap:Int)∧(cap:Int)≤(cap:Int))∧br ((p:Int) == (l.length:Int)) ((l.length≤cap∧0+cap*6≤List.length (flM l++J)∧6=6∧List.all g PV.one=true∧(l.length+1)*80≤140737488355328)∧(l.length+1≤cap→K (.arr 1 0 (l.length+1) cap) [n,.cells (over (flM l++J) (0+l.length*6) g)])∧(cap<l.length+1→∀(c:Nat),l.length+1≤c→K (.arr 2 0 (l.length+1) c) [n,z,.cells (List.take (l.length*6) (List.drop 0 (flM l++J))++g++List.flatten (List.replicate (c-(l.length+1)) t))])) (br (decide (wI m>(cap:Int))) ((iI 0≤0∧0≤(p:Int)∧(p:Int)≤(cap:Int)∧(cap:Int)≤(cap:Int))∧(Int.toNat (p:Int)-0≤Int.toNat (cap:Int)-0∧(if Int.toNat (cap:Int)=0 then 0 else 0)+u*6≤List.length (flM l++J)∧0≤wI w∧Int.toNat (cap:Int)-0<Int.toNat (p:Int)-0+Int.toNat (wI w)∧f*80≤140737488355328)∧∀(c:Nat),by refine(?_:_→Prop) (List.take (B*6) (List.drop (if Int.toNat (cap:Int)=0 then 0 else 0) (flM l++J))++List.flatten (List.replicate (c-B) t)); exact fun b=>by refine(?_:_→Prop) (over b (if Int.toNat (c:Int)=Int.toNat (p:Int) then 0 else 0+Int.toNat (p:Int)*6) (List.take (min 1 x*6) g)); exact fun a=>Int.toNat (p:Int)-0+Int.toNat (wI w)≤c→(0≤(p:Int)∧(p:Int)≤(↑f:Int)∧(↑f:Int)≤(c:Int)∧(c:Int)≤(c:Int))∧((if Int.toNat (c:Int)=Int.toNat (p:Int) then 0 else 0+Int.toNat (p:Int)*6)+x*6≤List.length b∧6=6∧List.all g PV.one=true)∧(0≤wI i∧wI i≤(↑f:Int)∧(↑f:Int)≤(c:Int)∧(c:Int)≤(c:Int))∧(0≤(p:Int)∧(p:Int)≤(l.length:Int)∧(l.length:Int)≤(cap:Int)∧(cap:Int)≤(cap:Int))∧(if Int.toNat (cap:Int)=Int.toNat (p:Int) then 0 else 0+Int.toNat (p:Int)*6)+q*6≤List.length (flM l++J)∧((if Int.toNat (c:Int)=Int.toNat (wI i) then 0 else 0+Int.toNat (wI i)*6)+y*6≤List.length a∧List.length j=q*6∧List.all j PV.one=true)∧K (.arr 2 0 f c) [n,z,.cells (over a (if Int.toNat (c:Int)=Int.toNat (wI i) then 0 else 0+Int.toNat (wI i)*6) (List.take (min q y*6) j))]) ((iI 0≤0∧0≤wI m∧wI m≤(cap:Int)∧(cap:Int)≤(cap:Int))∧(0≤wI i∧wI i≤d∧d≤h∧h≤h)∧s≠[]∧(flM l++J=[]→False)∧(0≤wI i∧wI i≤d∧d≤h∧h≤h)∧(0≤(p:Int)∧(p:Int)≤d∧d≤h∧h≤h)∧(if Int.toNat h=Int.toNat (p:Int) then if Int.toNat (cap:Int)=0 then 0 else 0 else(if Int.toNat (cap:Int)=0 then 0 else 0)+Int.toNat (p:Int)*6)+o*6≤List.length (flM l++J)∧((if Int.toNat h=Int.toNat (wI i) then if Int.toNat (cap:Int)=0 then 0 else 0 else(if Int.toNat (cap:Int)=0 then 0 else 0)+Int.toNat (wI i)*6)+A*6≤List.length (flM l++J)∧List.length e=o*6∧List.all e PV.one=true)∧(0≤(p:Int)∧(p:Int)≤d∧d≤h∧h≤h)∧((if Int.toNat h=Int.toNat (p:Int) then if Int.toNat (cap:Int)=0 then 0 else 0 else(if Int.toNat (cap:Int)=0 then 0 else 0)+Int.toNat (p:Int)*6)+o*6≤List.length k∧6=6∧List.all g PV.one=true)∧K (.arr 1 (if Int.toNat (cap:Int)=0 then 0 else 0) C u) [n,.cells (over k (if Int.toNat h=Int.toNat (p:Int) then if Int.toNat (cap:Int)=0 then 0 else 0 else(if Int.toNat (cap:Int)=0 then 0 else 0)+Int.toNat (p:Int)*6) (List.take (min 1 o*6) g))])))→AcK 97 [D,.I p,.list [csM r] .exact] [n,z] K:Prop):=fun K h=>acW (T:=TIM) (L:=[]) (fun o=>match o.op with| .load t _=>(match t with|146=>1|_=>0)|_=>match o.dst with|some 25=>2|_=>0) Tryz.func97 (EL) (LOk.nil _ _ _ _ _) h
theorem Dc (most:Int) (r:RwM):∀(K:PV→ae→Prop),((iI 0≤0∧iI 0≤0∧iI 0≤0∧iI 0≤0∧uni 6 [])∧6=6∧80≤140737488355328∧0<1∧∀(c:Nat),1≤c→K (.arr 1 0 1 c) [.cells [.E,.I most],.cells ([.U r.id,.U r.v.id,.I r.v.md,.U r.v.ins,.list (r.v.rows.map rrc) .no,.list (r.v.aa.map stc) .no]++List.flatten (List.replicate (c-1) [.U 0,.U 0,.I 0,.U 0,.E,.E]))])→AcK 97 [.E,.I 0,.list [csM r] .exact] [.cells [.E,.I most]] K:=fun K h=>acW (T:=TIM) (L:=[]) (fun o=>match o.op with| .load t _=>(match t with|146=>1|_=>0)|_=>match o.dst with|some 25=>2|_=>0) Tryz.func97 (EL) (LOk.nil _ _ _ _ _) h
def K9 (args:List PV) (H:ae) (K:PV→ae→Prop):Prop:=
 (∃(l:List RwM) (J:List PV) (cap:Nat) (most:Int) (r:RwM) (p:Nat),ah args [.arr 1 0 l.length cap,.I p,.list [csM r] .exact]∧av H (dg l J cap most)∧p≤l.length∧l.length≤1000000∧l.length≤cap∧aJ J ((cap-l.length)*6)∧
  (∀(J':List PV),l.length+1≤cap→aJ J' ((cap-(l.length+1))*6)→K (.arr 1 0 (l.length+1) cap) [.cells [.arr 1 0 l.length cap,.I most],.cells (flM (bw l p r)++J')])∧
  (∀(c:Nat),l.length+1≤c→∀(J':List PV),aJ J' ((c-(l.length+1))*6)→K (.arr 2 0 (l.length+1) c) [.cells [.arr 1 0 l.length cap,.I most],.cells (flM l++J),.cells (flM (bw l p r)++J')]))∨
 (∃(most:Int) (r:RwM),ah args [.E,.I 0,.list [csM r] .exact]∧av H (kI most)∧
  ∀(c:Nat),1≤c→∀(J':List PV),aJ J' ((c-1)*6)→K (.arr 1 0 1 c) [.cells [.E,.I most],.cells (csM r++J')])
def zrM:List PV:=[.U 0,.U 0,.I 0,.U 0,.E,.E]
theorem jm (n:Nat):aJ (List.replicate n zrM).flatten (n*6):=
 aJ.qy (z:=zrM) (by intro y hy; simp only[zrM,List.mem_cons,List.not_mem_nil,or_false] at hy; rcases hy with rfl|rfl|rfl|rfl|rfl|rfl<;>rfl) (by intro y hy; simp only[zrM,List.mem_cons,List.not_mem_nil,or_false] at hy; rcases hy with rfl|rfl|rfl|rfl|rfl|rfl<;>first|exact .int _ _|exact .str _|exact aH NT.exact (fun _ h=>nomatch h)) n
theorem xJ:SpK 97 (.heap K9):=by
 rintro args H K (⟨l,J,cap,most,r,p,he,hH,hp,hl,hc,hJ,hk1,hk2⟩|⟨most,r,he,hH,hk⟩)
 ·have he:args=_:=he
  have hH:H=_:=hH
  subst he
  subst hH
  have hlen:(flM l++J).length=cap*6:=by rw[List.length_append,jz,hJ.len,← Nat.add_mul]; congr 1; omega
  have hone:(flM l++J).all PV.one=true:=List.all_eq_true.2 (sj l hJ.one)
  refine E6 l J cap most r p K ?_
  refine⟨⟨by omega,by omega,by omega,by omega⟩,?_⟩
  rw[au]
  by_cases c1:p=l.length
  ·rw[if_pos (by simp[c1])]
   subst c1
   refine⟨⟨hc,by rw[hlen]; omega,rfl,rfl,by omega⟩,fun h=>?_,fun h c hcc=>?_⟩
   ·have:=hk1 (J.drop 6) h (hJ.drop.cast (by omega))
    rw[← nV dx r (by rw[hJ.len]; omega)] at this
    rw[Nat.zero_add]
    exact this
   ·have:=hk2 c hcc _ (jm (c-(l.length+1)))
    rw[jF] at this
    rw[List.drop_zero,fi dx J l l.length (Nat.le_refl _),List.take_length]
    simp only[flM,List.map_append,List.flatten_append,List.map_cons,List.map_nil,List.flatten_cons,List.flatten_nil,List.append_nil] at this
    exact this
  ·rw[if_neg (by simp; omega),au]
   have e1:wI ((l.length:Int)+1)=((l.length+1:Nat):Int):=by rw[aD (by omega) (by omega)]; rfl
   have e2:wI (((l.length+1:Nat):Int)-(p:Int))=((l.length+1-p:Nat):Int):=by rw[aD (by omega) (by omega)]; omega
   have e3:wI ((p:Int)+1)=((p+1:Nat):Int):=by rw[aD (by omega) (by omega)]; rfl
   have e4:p+(l.length+1-p)=l.length+1:=by omega
   simp only[e1,e2,e3,e4,an,Nat.sub_zero,Nat.zero_add,List.drop_zero,ite_self]
   have t1:List.take (p*6) (flM l++J)=flM (l.take p):=fi dx J l p hp
   have t2:List.take ((l.length-p)*6) (List.drop (p*6) (flM l++J))=flM (l.drop p):=by
    rw[fc dx J l p hp,List.take_left']
    rw[jz,List.length_drop]
   have t3:min 1 (l.length+1-p)=1:=by omega
   have t5:(flM (l.drop p)).length=(l.length-p)*6:=by rw[jz,List.length_drop]
   have t6:(flM (l.drop p)).all PV.one=true:=by
    have:=sj (l.drop p) (J:=[]) (fun _ h=>nomatch h)
    rw[List.append_nil] at this
    exact List.all_eq_true.2 this
   have t7:(flM (l.take p)).length=p*6:=by rw[jz,List.length_take,Nat.min_eq_left hp]
   by_cases c2:cap<l.length+1
   ·rw[if_pos (decide_eq_true (by omega))]
    have n3:¬ cap=p:=by omega
    refine⟨⟨by decide,by omega,by omega,by omega⟩,⟨by omega,by omega,by omega,by omega,by omega⟩,fun c hcc=>?_⟩
    have t4:min (l.length-p) (l.length+1-(p+1))=l.length-p:=by omega
    have n1:¬ c=p:=by omega
    have n2:¬ c=p+1:=by omega
    have hZ:=jm (c-p)
    have t9:(flM (l.take p)++(List.replicate (c-p) zrM).flatten).length=c*6:=by rw[List.length_append,t7,hZ.len,← Nat.add_mul]; congr 1; omega
    simp only[if_neg n1,if_neg n2,if_neg n3,t1,t2,t3,t4,t5,t6]
    refine⟨⟨by omega,by omega,by omega,by omega⟩,⟨Nat.le_trans (show _≤c*6 by omega) (Nat.le_of_eq t9.symm),trivial,rfl⟩,⟨by omega,by omega,by omega,by omega⟩,⟨by omega,by omega,by omega,by omega⟩,by omega,⟨?_,trivial,trivial⟩,?_⟩
    ·have t10:(over (flM (l.take p)++(List.replicate (c-p) zrM).flatten) (p*6) (csM r)).length=c*6:=by rw[bE (by rw[t9,dx]; omega),t9]
     exact Nat.le_trans (show _≤c*6 by omega) (Nat.le_of_eq t10.symm)
    ·have:=hk2 c (by omega) _ ((hZ.drop (k:=(l.length+1-p)*6)).cast (by omega))
     rw[← pe dx r hp (by rw[hZ.len]; omega)] at this
     rw[List.take_of_length_le (Nat.le_of_eq t5)]
     exact this
   ·rw[if_neg (by simp; omega)]
    have n3:¬ cap=p:=by omega
    have n4:¬ cap=p+1:=by omega
    have t9:min (l.length+1-p) (l.length+1-(p+1))=l.length-p:=by omega
    have t10:List.take ((l.length-p)*6) (List.take ((l.length+1-p)*6) (List.drop (p*6) (flM l++J)))=List.take ((l.length-p)*6) (List.drop (p*6) (flM l++J)):=by rw[List.take_take,Nat.min_eq_left (by omega)]
    simp only[if_neg n3,if_neg n4,t3,t9,t10]
    have t11:(List.take ((l.length+1-p)*6) (List.drop (p*6) (flM l++J))).length=(l.length+1-p)*6:=by rw[List.length_take,List.length_drop,hlen]; omega
    have t12:(List.take ((l.length+1-p)*6) (List.drop (p*6) (flM l++J))).all PV.one=true:=List.all_eq_true.2 fun y hy=>List.all_eq_true.1 hone y (List.mem_of_mem_drop (List.mem_of_mem_take hy))
    have t13:(over (flM l++J) ((p+1)*6) (List.take ((l.length-p)*6) (List.drop (p*6) (flM l++J)))).length=cap*6:=by rw[bE (by rw[t2,t5,hlen]; omega),hlen]
    refine⟨⟨by decide,by omega,by omega,by omega⟩,⟨by omega,by omega,by omega,by omega⟩,List.cons_ne_nil _ _,fun h=>?_,⟨by omega,by omega,by omega,by omega⟩,⟨by omega,by omega,by omega,by omega⟩,by omega,⟨by omega,t11,t12⟩,⟨by omega,by omega,by omega,by omega⟩,⟨by omega,trivial,rfl⟩,?_⟩
    ·rw[h] at hlen; simp only[List.length_nil] at hlen; omega
    ·have:=hk1 (J.drop 6) (by omega) (hJ.drop.cast (by omega))
     rw[← rJ dx r (by omega) (by rw[hJ.len]; omega)] at this
     exact this
 ·have he:args=_:=he
  have hH:H=_:=hH
  subst he
  subst hH
  exact Dc most r K ⟨⟨by decide,by decide,by decide,by decide,fun _ h=>nomatch h⟩,rfl,by decide,by decide,fun c hc=>hk c hc _ (jm (c-1))⟩
theorem IM (l:List RwM) (J:List PV) (cap:Nat) (most:Int) (p:Nat):(by refine(?_:_→_→_→Prop) (Int.toNat (l.length:Int)-Int.toNat (↑(p+1):Int)) (Int.toNat (cap:Int)-0) (PV.arr 1 0 l.length cap); exact fun a d j=>by refine(?_:_→_→_→Prop) (List.take (a*6) (List.drop (if Int.toNat (cap:Int)=Int.toNat (↑(p+1):Int) then 0 else 0+Int.toNat (↑(p+1):Int)*6) (flM l++J))) (Ob.cells [j,.I most]) (Int.toNat (p:Int)-0+a); exact fun b f g=>by refine(?_:_→_→_→Prop) (↑g:Int) (over (flM l++J) ((if Int.toNat (cap:Int)=0 then 0 else 0)+(Int.toNat (p:Int)-0)*6) b) [f,.cells (flM l++J)]; exact fun c e i=>by refine(?_:_→Prop) (Int.toNat (l.length:Int)-Int.toNat c); exact fun h=>∀(K:PV→ae→Prop),((0≤(p:Int)∧(p:Int)≤(↑(p+1):Int)∧(↑(p+1):Int)≤(l.length:Int)∧(l.length:Int)≤(cap:Int))∧br ((p:Int) == (↑(p+1):Int)) (K (.arr 1 0 l.length cap) i) ((iI 0≤0∧0≤(p:Int)∧(p:Int)≤(cap:Int)∧(cap:Int)≤(cap:Int))∧(0≤(↑(p+1):Int)∧(↑(p+1):Int)≤(l.length:Int)∧(l.length:Int)≤(cap:Int)∧(cap:Int)≤(cap:Int))∧(if Int.toNat (cap:Int)=Int.toNat (↑(p+1):Int) then 0 else 0+Int.toNat (↑(p+1):Int)*6)+a*6≤List.length (flM l++J)∧(Int.toNat (p:Int)-0≤Int.toNat (cap:Int)-0∧(if Int.toNat (cap:Int)=0 then 0 else 0)+d*6≤List.length (flM l++J)∧List.length b=a*6∧List.all b PV.one=true∧g*80≤140737488355328)∧Int.toNat (p:Int)-0+a≤Int.toNat (cap:Int)-0∧(0≤c∧c≤(l.length:Int)∧(l.length:Int)≤(↑d:Int)∧(↑d:Int)≤(↑d:Int))∧(if Int.toNat (↑d:Int)=Int.toNat c then if Int.toNat (cap:Int)=0 then 0 else 0 else(if Int.toNat (cap:Int)=0 then 0 else 0)+Int.toNat c*6)+h*6≤List.length e∧K (.arr 1 (if Int.toNat (cap:Int)=0 then 0 else 0) g d) [f,.cells (over e (if Int.toNat (↑d:Int)=Int.toNat c then if Int.toNat (cap:Int)=0 then 0 else 0 else(if Int.toNat (cap:Int)=0 then 0 else 0)+Int.toNat c*6) (List.flatten (List.replicate h [.U 0,.U 0,.I 0,.U 0,.E,.E])))]))→AcK 101 [j,.I p,.I ((p+1:Nat):Int)] i K:Prop):=fun K h=>acW (T:=[]) (L:=[]) (fun o=>match o.op with| .load t _=>(match t with|146=>1|_=>0)|_=>match o.dst with|some 26=>3|_=>0) Tryz.func101 (aW.nil _ _) (LOk.nil _ _ _ _ _) h
def yl (args:List PV) (H:ae) (K:PV→ae→Prop):Prop:=
 (∃(G:ae) (l:List RwM) (J:List PV) (cap:Nat) (most:Int) (r:RwM) (p:Nat),ah args [.arr 1 0 l.length cap,.I p,.list [csM r] .exact]∧av H (dg l J cap most++G)∧p≤l.length∧l.length≤1000000∧l.length≤cap∧aJ J ((cap-l.length)*6)∧
  (∀(J':List PV),l.length+1≤cap→aJ J' ((cap-(l.length+1))*6)→K (.arr 1 0 (l.length+1) cap) ([.cells [.arr 1 0 l.length cap,.I most],.cells (flM (bw l p r)++J')]++G))∧
  (∀(c:Nat),l.length+1≤c→∀(J':List PV),aJ J' ((c-(l.length+1))*6)→K (.arr (2+G.length) 0 (l.length+1) c) ([.cells [.arr 1 0 l.length cap,.I most],.cells (flM l++J)]++G++[.cells (flM (bw l p r)++J')])))∨
 (∃(G:ae) (most:Int) (r:RwM),ah args [.E,.I 0,.list [csM r] .exact]∧av H (kI most++G)∧
  ∀(c:Nat),1≤c→∀(J':List PV),aJ J' ((c-1)*6)→K (.arr (1+G.length) 0 1 c) ([.cells [.E,.I most]]++G++[.cells (csM r++J')]))
theorem Ez:SpK 97 (.heap yl):=by
 rintro args H K (⟨G,l,J,cap,most,r,p,he,hH,hp,hl,hc,hJ,hk1,hk2⟩|⟨G,most,r,he,hH,hk⟩)
 ·have he:args=_:=he
  have hH:H=_:=hH
  subst he
  subst hH
  refine gz aj (by intro y hy; simp only[List.mem_cons,List.not_mem_nil,or_false] at hy; rcases hy with rfl|rfl|rfl; exact .arr _ _ _ _ (by simp[dg]); exact .low (.int _ _); exact .low (aH NT.exact (by intro y hy; simp at hy; exact lY r y hy))) (jk (by simp[dg]) hJ.low) ?_
  refine xJ _ _ _ (.inl ⟨l,J,cap,most,r,p,rfl,rfl,hp,hl,hc,hJ,fun J' h1 h2=>?_,fun c h1 J' h2=>?_⟩)
  ·exact⟨_,_,mG rfl (kW (fun y hy=>by simp only[List.mem_cons,List.not_mem_nil,or_false] at hy; rcases hy with rfl|rfl; exact .arr _ _ _ _ (by simp[dg]); exact .low (.int _ _)) (fun y hy=> .low (jX _ h2.low y hy))),Lid.ren (.arr _ _ _ _ (by simp)) (fun o ho=>fh (by simpa[dg] using ho)),hk1 J' h1 h2⟩
  ·exact⟨_,_,qJ (X':=[.cells [.arr 1 0 l.length cap,.I most],.cells (flM l++J)]) rfl (jk (by simp[dg]) hJ.low) (jX _ h2.low),tV (X:=dg l J cap most) (X':=[.cells [.arr 1 0 l.length cap,.I most],.cells (flM l++J)]) rfl,hk2 c h1 J' h2⟩
 ·have he:args=_:=he
  have hH:H=_:=hH
  subst he
  subst hH
  refine gz aj (by intro y hy; simp only[List.mem_cons,List.not_mem_nil,or_false] at hy; rcases hy with rfl|rfl|rfl; exact .low (aH NT.exact (fun _ h=>nomatch h)); exact .low (.int _ _); exact .low (aH NT.exact (by intro y hy; simp at hy; exact lY r y hy))) lm ?_
  refine xJ _ _ _ (.inr ⟨most,r,rfl,rfl,fun c hc J' h2=>?_⟩)
  exact⟨_,_,qJ (X':=[.cells [.E,.I most]]) rfl lm (by intro y hy; rcases List.mem_append.1 hy with hy|hy; exact lY r y hy; exact h2.low y hy),tV (X:=kI most) (X':=[.cells [.E,.I most]]) rfl,hk c hc J' h2⟩
def TPM:Tab:=(97,.heap yl)::(68,.read rU)::TGM
theorem rO:TbK TPM:= .cons Ez (.cons rP vU)
theorem Dq (l:List RwM) (J:List PV) (cap:Nat) (most:Int) (t:Int) (v:Mt):(by refine(?_:_→_→_→_→Prop) (PV.list (v.aa.map stc) .no) (PV.list (v.rows.map rrc) .no) (PV.arr 1 0 l.length cap) (Ob.cells (flM l++J)); exact fun o q s u=>by refine(?_:_→_→Prop) [PV.U v.id,.I v.md,.U v.ins,q,o] [s,.I most]; exact fun k n=>by refine(?_:_→Prop) [Ob.cells n,u,.cells k]; exact fun m=>∀(K:PV→ae→Prop),(br (!aC t) (K (.I 14) m) (∃(l_1:List RwM) (most_1:Int) (t_1:Int),by refine(?_:_→Prop) (↑(lbp l_1 t_1):Int); exact fun i=>by refine(?_:_→_→Prop) [s,.I i,.list [[PV.U t,.U v.id,.I v.md,.U v.ins,q,o]] .exact] (0+Int.toNat i*6+1); exact fun h j=>ah [.ptr 0 0,.U t] [.ptr 0 0,.U t_1]∧ql l_1 most_1 m∧Ok l_1 most_1∧br (has l_1 t_1) ((0≤i∧i<(l.length:Int))∧br (5 == 5 && List.all k PV.one && decide (0+Int.toNat i*6+1+5≤List.length (flM l++J)) && cQ 0 1 j 5) (K (.I 0) [.cells n,.cells (over (flM l++J) j k),.cells k]) False) (br (decide ((l.length:Int)≥most)) (K (.I 10) m) ((∃(G:ae) (l_2:List RwM) (J_1:List PV) (cap_1:Nat) (most_2:Int) (r:RwM) (p:Nat),by refine(?_:_→Prop) (PV.arr 1 0 l_2.length cap_1); exact fun d=>by refine(?_:_→Prop) (Ob.cells [d,.I most_2]); exact fun a=>by refine(?_:_→Prop) [a,.cells (flM l_2++J_1)]; exact fun b=>ah h [d,.I p,.list [[PV.U r.id,.U r.v.id,.I r.v.md,.U r.v.ins,.list (r.v.rows.map rrc) .no,.list (r.v.aa.map stc) .no]] .exact]∧av m (b++G)∧p≤l_2.length∧l_2.length≤1000000∧l_2.length≤cap_1∧aJ J_1 ((cap_1-l_2.length)*6)∧(∀(J':List PV),l_2.length+1≤cap_1→aJ J' ((cap_1-(l_2.length+1))*6)→K (.I 0) (List.set ([a,.cells (flM (bw l_2 p r)++J')]++G) 0 (.cells [.arr 1 0 (l_2.length+1) cap_1,.I most_2])))∧∀(c:Nat),l_2.length+1≤c→∀(J':List PV),aJ J' ((c-(l_2.length+1))*6)→K (.I 0) (List.set (b++G++[.cells (flM (bw l_2 p r)++J')]) 0 (.cells [.arr (2+G.length) 0 (l_2.length+1) c,.I most_2])))∨∃(G:ae) (most_2:Int) (r:RwM),by refine(?_:_→_→_→Prop) [Ob.cells [.E,.I most_2]] (PV.list (r.v.aa.map stc) .no) (PV.list (r.v.rows.map rrc) .no); exact fun e f g=>ah h [.E,.I 0,.list [[PV.U r.id,.U r.v.id,.I r.v.md,.U r.v.ins,g,f]] .exact]∧av m (e++G)∧∀(c:Nat),1≤c→∀(J':List PV),aJ J' ((c-1)*6)→K (.I 0) (List.set (e++G++[.cells ([.U r.id,.U r.v.id,.I r.v.md,.U r.v.ins,g,f]++J')]) 0 (.cells [.arr (1+G.length) 0 1 c,.I most_2]))))))→AcK 64 [.ptr 0 0,.U t,Mt.pv v] [.cells n,u] K:Prop):=fun K h=>acW (T:=TPM) (L:=[([1,1,1,1,0,0,1,1,1,1],Me br Tryz.prog gl TPM (fun o=>match o.op with| .load t _=>(match t with|146=>1|_=>0)|_=>0) (bX [1,1,1,1,0,0,1,1,1,1] (ag Tryz.f64)) 10 [0,1,2,3,4,5,6,7,8,9,11,12] [13])]) (fun o=>match o.op with| .load t _=>(match t with|146=>1|_=>0)|_=>0) Tryz.func64 (rO) (.cons (show sub [1,1,1,1,0,0,1,1,1,1] (ag Tryz.f64)=some (bX [1,1,1,1,0,0,1,1,1,1] (ag Tryz.f64)) from by kernel_rfl) (wU rO (by kernel_rfl) (by kernel_rfl)) (.nil _ _ _ _ _)) h
theorem EV (most t:Int) (v:Mt):(by refine(?_:_→_→_→Prop) [PV.E,.I most] (PV.list (v.aa.map stc) .no) (PV.list (v.rows.map rrc) .no); exact fun k m n=>by refine(?_:_→Prop) [Ob.cells k,.cells [.U v.id,.I v.md,.U v.ins,n,m]]; exact fun j=>∀(K:PV→ae→Prop),(br (!aC t) (K (.I 14) j) (∃(l:List RwM) (most_1:Int) (t_1:Int),by refine(?_:_→Prop) (↑(lbp l t_1):Int); exact fun i=>by refine(?_:_→Prop) [PV.E,.I i,.list [[PV.U t,.U v.id,.I v.md,.U v.ins,n,m]] .exact]; exact fun h=>ah [.ptr 0 0,.U t] [.ptr 0 0,.U t_1]∧ql l most_1 j∧Ok l most_1∧br (has l t_1) (InL [] 6 i∧False) (br (decide (0≥most)) (K (.I 10) j) ((∃(G:ae) (l_1:List RwM) (J:List PV) (cap:Nat) (most_2:Int) (r:RwM) (p:Nat),by refine(?_:_→Prop) (PV.arr 1 0 l_1.length cap); exact fun d=>by refine(?_:_→Prop) (Ob.cells [d,.I most_2]); exact fun a=>by refine(?_:_→Prop) [a,.cells (flM l_1++J)]; exact fun b=>ah h [d,.I p,.list [[PV.U r.id,.U r.v.id,.I r.v.md,.U r.v.ins,.list (r.v.rows.map rrc) .no,.list (r.v.aa.map stc) .no]] .exact]∧av j (b++G)∧p≤l_1.length∧l_1.length≤1000000∧l_1.length≤cap∧aJ J ((cap-l_1.length)*6)∧(∀(J':List PV),l_1.length+1≤cap→aJ J' ((cap-(l_1.length+1))*6)→K (.I 0) (List.set ([a,.cells (flM (bw l_1 p r)++J')]++G) 0 (.cells [.arr 1 0 (l_1.length+1) cap,.I most_2])))∧∀(c:Nat),l_1.length+1≤c→∀(J':List PV),aJ J' ((c-(l_1.length+1))*6)→K (.I 0) (List.set (b++G++[.cells (flM (bw l_1 p r)++J')]) 0 (.cells [.arr (2+G.length) 0 (l_1.length+1) c,.I most_2])))∨∃(G:ae) (most_2:Int) (r:RwM),by refine(?_:_→_→_→Prop) [Ob.cells [.E,.I most_2]] (PV.list (r.v.aa.map stc) .no) (PV.list (r.v.rows.map rrc) .no); exact fun e f g=>ah h [.E,.I 0,.list [[PV.U r.id,.U r.v.id,.I r.v.md,.U r.v.ins,g,f]] .exact]∧av j (e++G)∧∀(c:Nat),1≤c→∀(J':List PV),aJ J' ((c-1)*6)→K (.I 0) (List.set (e++G++[.cells ([.U r.id,.U r.v.id,.I r.v.md,.U r.v.ins,g,f]++J')]) 0 (.cells [.arr (1+G.length) 0 1 c,.I most_2]))))))→AcK 64 [.ptr 0 0,.U t,Mt.pv v] [.cells k] K:Prop):=fun K h=>acW (T:=TPM) (L:=[([1,1,1,1,0,0,1,1,1,1],Me br Tryz.prog gl TPM (fun o=>match o.op with| .load t _=>(match t with|146=>1|_=>0)|_=>0) (bX [1,1,1,1,0,0,1,1,1,1] (ag Tryz.f64)) 10 [0,1,2,3,4,5,6,7,8,9,11,12] [13])]) (fun o=>match o.op with| .load t _=>(match t with|146=>1|_=>0)|_=>0) Tryz.func64 (rO) (.cons (show sub [1,1,1,1,0,0,1,1,1,1] (ag Tryz.f64)=some (bX [1,1,1,1,0,0,1,1,1,1] (ag Tryz.f64)) from by kernel_rfl) (wU rO (by kernel_rfl) (by kernel_rfl)) (.nil _ _ _ _ _)) h
theorem AG {l:List RwM} {J:List PV} {cap:Nat} {most:Int} (h:∀ y∈J,Low 2 y):∀(o:Nat) cs,(dg l J cap most)[o]?=some (.cells cs)→∀ x∈cs,Low (dg l J cap most).length x:=by
 intro o cs ho x hx
 have e1:=(List.getElem?_eq_some_iff.1 ho).1
 simp[dg] at e1
 rcases Nat.eq_zero_or_pos o with rfl|h0
 ·cases ho
  simp only[List.mem_cons,List.not_mem_nil,or_false] at hx
  rcases hx with rfl|rfl
  ·exact .arr _ _ _ _ (by simp[dg])
  ·exact .int _ _
 ·have:o=1:=by omega
  subst this
  cases ho
  exact jX l h x hx
def rkM (l:List RwM) (most:Int):Rep:=whole (EXM l most)
theorem fm {l:List RwM} {J:List PV} {cap:Nat} {most:Int} {T:ae} {k:Nat} (hk:T[k]?=some (.cells (flM l++J))) (h:l.length≤cap) (hJ:aJ J ((cap-l.length)*6)):ed (EXM l most) (.cells [.arr (k+1) 0 l.length cap,.I most]::T):=
 ⟨dg l J cap most,_,w9 hk (fun y hy=>by rcases List.mem_singleton.1 hy with rfl; exact .int _ _) (jX l hJ.low),rfl,.inl ⟨J,cap,rfl,h,hJ⟩,od⟩
theorem jy {most:Int} {T:ae}:ed (EXM [] most) (.cells [.E,.I most]::T):=
 ⟨kI most,_,sub_one T (fun y hy=>by simp only[List.mem_cons,List.not_mem_nil,or_false] at hy; rcases hy with rfl|rfl; exact aH NT.exact (fun _ h=>nomatch h); exact .int _ _),rfl,.inr ⟨rfl,rfl⟩,od⟩
theorem BJ {l:List RwM} {most:Int} {H:ae} (h:EXM l most H):ed (EXM l most) H:=by
 rcases h with⟨J,cap,rfl,hc,hJ⟩|⟨rfl,rfl⟩
 ·exact fm (k:=0) rfl hc hJ
 ·exact jy
def Kl (args:List PV) (H:ae) (K:PV→ae→Prop):Prop:=
 ∃(l:List RwM) (J:List PV) (cap:Nat) (most:Int) (p:Nat),ah args [.arr 1 0 l.length cap,.I p,.I ((p+1:Nat):Int)]∧av H (dg l J cap most)∧p<l.length∧l.length≤1000000∧l.length≤cap∧aJ J ((cap-l.length)*6)∧
  K (.arr 1 0 (l.length-1) cap) [.cells [.arr 1 0 l.length cap,.I most],.cells (flM (l.eraseIdx p)++(zrM++J))]
theorem FJ:SpK 101 (.heap Kl):=by
 rintro args H K ⟨l,J,cap,most,p,he,hH,hp,hl,hc,hJ,hk⟩
 have he:args=_:=he
 have hH:H=_:=hH
 subst he
 subst hH
 have hlen:(flM l++J).length=cap*6:=by rw[List.length_append,jz,hJ.len,← Nat.add_mul]; congr 1; omega
 have hone:(flM l++J).all PV.one=true:=List.all_eq_true.2 (sj l hJ.one)
 refine IM l J cap most p K ?_
 refine⟨⟨by omega,by omega,by omega,by omega⟩,?_⟩
 rw[au,if_neg (by simp; omega)]
 have e4:p+(l.length-(p+1))=l.length-1:=by omega
 have e5:l.length-(l.length-1)=1:=by omega
 simp only[an,Nat.sub_zero,Nat.zero_add,ite_self,e4,e5]
 have n1:¬ cap=l.length-1:=by omega
 have t11:(List.take ((l.length-(p+1))*6) (List.drop (if cap=p+1 then 0 else(p+1)*6) (flM l++J)))=List.take ((l.length-(p+1))*6) (List.drop ((p+1)*6) (flM l++J)):=by
  split
  ·rw[show l.length-(p+1)=0 by omega,Nat.zero_mul,List.take_zero,List.take_zero]
  ·rfl
 have t12:(List.take ((l.length-(p+1))*6) (List.drop ((p+1)*6) (flM l++J))).length=(l.length-(p+1))*6:=by rw[List.length_take,List.length_drop,hlen]; omega
 have t13:(List.take ((l.length-(p+1))*6) (List.drop ((p+1)*6) (flM l++J))).all PV.one=true:=List.all_eq_true.2 fun y hy=>List.all_eq_true.1 hone y (List.mem_of_mem_drop (List.mem_of_mem_take hy))
 simp only[t11,if_neg n1,C5 dx hp]
 have hle:l.length-1=(l.eraseIdx p).length:=by rw[List.length_eraseIdx_of_lt hp]
 refine⟨⟨by decide,by omega,by omega,by omega⟩,⟨by omega,by omega,by omega,by omega⟩,by split<;>omega,⟨by omega,by omega,t12,t13,by omega⟩,by omega,⟨by omega,by omega,by omega,by omega⟩,?_,?_⟩
 ·simp only[List.length_append,bA dx,← hle,dx,hJ.len]; omega
 ·rw[hle]
  rw[hle] at hk
  rw[← za (z:=zrM) dx (l.getLast (List.ne_nil_of_length_pos (by omega))) rfl] at hk
  exact hk
theorem Ng {l:List RwM} {J:List PV} {p:Nat} {t:Int} {v:Mt} (hp:p<l.length) (ht:(l.getD p default).id=t):over (flM l++J) (p*6+1) (let r:RwM:=⟨t,v⟩; [.U r.v.id,.I r.v.md,.U r.v.ins,.list (r.v.rows.map rrc) .no,.list (r.v.aa.map stc) .no])=flM (l.set p ⟨t,v⟩)++J:=by
 have e1:flM l++J=(flM (l.take p)++[.U t])++(let r:RwM:=l.getD p default; [.U r.v.id,.I r.v.md,.U r.v.ins,.list (r.v.rows.map rrc) .no,.list (r.v.aa.map stc) .no])++(flM (l.drop (p+1))++J):=by
  unfold flM
  rw[fY l p,List.drop_eq_getElem_cons hp,List.map_cons,List.flatten_cons,← ht,bg hp]
  simp[csM]
 rw[ct e1 (by rw[List.length_append,bA dx,List.length_take,Nat.min_eq_left (by omega)]; rfl) (by rfl),List.set_eq_take_append_cons_drop,if_pos hp]
 simp[flM,csM]
def Kp (args:List PV) (H:ae) (K:PV→ae→Prop):Prop:=
 ∃(l:List RwM) (most t:Int) (v:Mt),ah args [.ptr 0 0,.U t,Mt.pv v]∧EXM l most H∧Ok l most∧∀(H':ae),ed (EXM (cV l most t v).1 most) H'→K (.I (cV l most t v).2) H'
theorem FH:SpK 64 (.heap Kp):=by
 rintro args H K ⟨l,most,t,v,he,hH,ok,hk⟩
 have he:args=_:=he
 subst he
 unfold cV at hk
 rcases hH with⟨J,cap,rfl,hc,hJ⟩|⟨rfl,rfl⟩
 ·have hlen:(flM l++J).length=cap*6:=by rw[List.length_append,jz,hJ.len,← Nat.add_mul]; congr 1; omega
  refine Dq l J cap most t v K ?_
  rw[au]
  by_cases c:aC t=true
  ·rw[if_neg (by simp[c])]
   rw[if_pos c] at hk
   refine⟨l,most,t,rfl,⟨_,[_],rfl,yz hc hJ⟩,ok,?_⟩
   simp only[au]
   by_cases c2:has l t=true
   ·rw[if_pos c2]
    rw[if_pos c2] at hk
    obtain⟨h1,h2⟩:=fU c2
    refine⟨⟨by omega,by omega⟩,?_⟩
    simp only[an,Nat.zero_add]
    rw[if_pos (by rw[decide_eq_true (by rw[hlen]; omega)]; rfl)]
    have h3:=fm (most:=most) (l:=l.set (lbp l t) ⟨t,v⟩) (J:=J) (cap:=cap) (k:=0) (T:=[.cells (flM (l.set (lbp l t) ⟨t,v⟩)++J),.cells [.U v.id,.I v.md,.U v.ins,.list (v.rows.map rrc) .no,.list (v.aa.map stc) .no]]) rfl (by simpa using hc) (by simpa using hJ)
    rw[List.length_set,← Ng h1 h2] at h3
    exact hk _ h3
   ·rw[if_neg c2]
    rw[if_neg c2] at hk
    by_cases c3:(l.length:Int)≥most
    ·rw[if_pos (decide_eq_true c3)]
     rw[if_pos c3] at hk
     exact hk _ (fm (k:=0) rfl hc hJ)
    ·rw[if_neg (by simpa using c3)]
     rw[if_neg c3] at hk
     have hi:(bw l (lbp l t) ⟨t,v⟩).length=l.length+1:=fH (rC l t)
     refine .inl ⟨[.cells [.U v.id,.I v.md,.U v.ins,.list (v.rows.map rrc) .no,.list (v.aa.map stc) .no]],l,J,cap,most,⟨t,v⟩,lbp l t,rfl,rfl,rC l t,ok.len,hc,hJ,fun J' h1 h2=>?_,fun c h1 J' h2=>?_⟩
     ·rw[← hi]
      exact hk _ (fm (k:=0) rfl (by rw[hi]; exact h1) (by rw[hi]; exact h2))
     ·have:=hk _ (fm (l:=bw l (lbp l t) ⟨t,v⟩) (J:=J') (cap:=c) (most:=most) (k:=2) (T:=[.cells (flM l++J),.cells [.U v.id,.I v.md,.U v.ins,.list (v.rows.map rrc) .no,.list (v.aa.map stc) .no],.cells (flM (bw l (lbp l t) ⟨t,v⟩)++J')]) rfl (by rw[hi]; exact h1) (by rw[hi]; exact h2))
      rw[hi] at this
      exact this
  ·rw[if_pos (by simpa using c)]
   rw[if_neg c] at hk
   exact hk _ (fm (k:=0) rfl hc hJ)
 ·refine EV most t v K ?_
  rw[au]
  by_cases c:aC t=true
  ·rw[if_neg (by simp[c])]
   rw[if_pos c,ol,if_neg (by decide)] at hk
   refine⟨[],most,t,rfl,⟨_,[_],rfl,AN⟩,ok,?_⟩
   rw[ol]
   simp only[au]
   rw[if_neg (by decide)]
   by_cases c3:0≥most
   ·rw[if_pos (decide_eq_true c3)]
    rw[if_pos (by simpa using c3)] at hk
    exact hk _ jy
   ·rw[if_neg (by simpa using c3)]
    rw[if_neg (by simpa using c3)] at hk
    refine .inr ⟨[.cells [.U v.id,.I v.md,.U v.ins,.list (v.rows.map rrc) .no,.list (v.aa.map stc) .no]],most,⟨t,v⟩,rfl,rfl,fun c hc J' hJ=>?_⟩
    exact hk _ (fm (l:=[⟨t,v⟩]) (k:=1) rfl hc hJ)
  ·rw[if_pos (by simpa using c)]
   rw[if_neg c] at hk
   exact hk _ jy
def wW (args:List PV) (H:ae) (K:PV→ae→Prop):Prop:=
 ∃(v:Mt) (l:List RwM) (J:List PV) (cap:Nat) (most:Int) (p:Nat),ah args [.arr 1 0 l.length cap,.I p,.I ((p+1:Nat):Int)]∧av H (dg l J cap most++[.cells [.U 0,.I 0,.U 0,.E,.E],.cells [.U v.id,.I v.md,.U v.ins,.list (v.rows.map rrc) .no,.list (v.aa.map stc) .no]])∧p<l.length∧l.length≤1000000∧l.length≤cap∧aJ J ((cap-l.length)*6)∧
  K (.arr 1 0 (l.length-1) cap) ([.cells [.arr 1 0 l.length cap,.I most],.cells (flM (l.eraseIdx p)++(zrM++J))]++[.cells [.U 0,.I 0,.U 0,.E,.E],.cells [.U v.id,.I v.md,.U v.ins,.list (v.rows.map rrc) .no,.list (v.aa.map stc) .no]])
theorem Dy:SpK 101 (.heap wW):=by
 rintro args H K ⟨v,l,J,cap,most,p,he,hH,hp,hl,hc,hJ,hk⟩
 have he:args=_:=he
 have hH:H=_:=hH
 subst he
 subst hH
 refine gz aj (by intro y hy; simp only[List.mem_cons,List.not_mem_nil,or_false] at hy; rcases hy with rfl|rfl|rfl; exact .arr _ _ _ _ (by simp[dg]); exact .low (.int _ _); exact .low (.int _ _)) (jk (by simp[dg]) hJ.low) ?_
 refine FJ _ _ _ ⟨l,J,cap,most,p,rfl,rfl,hp,hl,hc,hJ,?_⟩
 have hz:=(jm 1).low
 simp only[List.replicate,List.flatten_cons,List.flatten_nil,List.append_nil] at hz
 exact⟨_,_,mG rfl (kW (fun y hy=>by simp only[List.mem_cons,List.not_mem_nil,or_false] at hy; rcases hy with rfl|rfl; exact .arr _ _ _ _ (by simp[dg]); exact .low (.int _ _)) (fun y hy=> .low (jX _ (fun y hy=>by rcases List.mem_append.1 hy with hy|hy; exact hz y hy; exact hJ.low y hy) y hy))),Lid.ren (.arr _ _ _ _ (by simp)) (fun o ho=>fh (by simpa[dg] using ho)),hk⟩
def TDM:Tab:=(101,.heap wW)::(68,.read rU)::(35,.read DD)::TGM
theorem DT:TbK TDM:= .cons Dy (.cons rP (.cons F2 vU))
theorem Ef (l:List RwM) (J:List PV) (cap:Nat) (most:Int) (t:Int):(by refine(?_:_→_→_→_→Prop) (Ob.cells [.U 0,.I 0,.U 0,.E,.E]) [PV.arr 1 0 l.length cap,.I most] (Ob.cells (flM l++J)) [PV.ptr 0 0,.U t]; exact fun f g h i=>∀(K:PV→ae→Prop),(∃(l_1:List RwM) (most_1:Int) (t_1:Int),by refine(?_:_→_→Prop) [PV.U (Mt.id (bD l_1 t_1)),.I (Mt.md (bD l_1 t_1)),.U (Mt.ins (bD l_1 t_1)),.list (List.map rrc (Mt.rows (bD l_1 t_1))) .no,.list (List.map stc (Mt.aa (bD l_1 t_1))) .no] (PV.bool (has l_1 t_1)); exact fun c e=>by refine(?_:_→Prop) [Ob.cells g,h,f,.cells c]; exact fun d=>ah i [.ptr 0 0,.U t_1]∧ql l_1 most_1 [.cells g,h,f]∧Ok l_1 most_1∧br (has l_1 t_1) (∃(l_2:List RwM) (most_2:Int) (t_2:Int),ah i [.ptr 0 0,.U t_2]∧ql l_2 most_2 d∧Ok l_2 most_2∧∃(v:Mt) (l_3:List RwM) (J_1:List PV) (cap_1:Nat) (most_3:Int) (p:Nat),by refine(?_:_→_→Prop) [PV.U v.id,.I v.md,.U v.ins,.list (v.rows.map rrc) .no,.list (v.aa.map stc) .no] (PV.arr 1 0 l_3.length cap_1); exact fun a b=>ah [.arr 1 0 l.length cap,.I (↑(lbp l_2 t_2):Int),.I (wI ((↑(lbp l_2 t_2):Int)+1))] [b,.I p,.I (↑(p+1):Int)]∧av d [.cells [b,.I most_3],.cells (flM l_3++J_1),f,.cells a]∧p<l_3.length∧l_3.length≤1000000∧l_3.length≤cap_1∧aJ J_1 ((cap_1-l_3.length)*6)∧K (.tup [.agg a,e]) [.cells [.arr 1 0 (l_3.length-1) cap_1,.I most_3],.cells (flM (List.eraseIdx l_3 p)++([.U 0,.U 0,.I 0,.U 0,.E,.E]++J_1)),.cells a,.cells a]) (K (.tup [.agg c,e]) [.cells g,h,.cells c,.cells c]))→AcK 71 i [.cells g,h] K:Prop):=fun K h=>acW (T:=TDM) (L:=[]) (fun o=>match o.op with| .load t _=>(match t with|146=>1|_=>0)|_=>0) Tryz.func71 (DT) (LOk.nil _ _ _ _ _) h
theorem Eu (most t:Int):(by refine(?_:_→_→_→Prop) [PV.U 0,.I 0,.U 0,.E,.E] [PV.E,.I most] [PV.ptr 0 0,.U t]; exact fun f g h=>∀(K:PV→ae→Prop),(∃(l:List RwM) (most_1:Int) (t_1:Int),by refine(?_:_→Prop) [PV.U (Mt.id (bD l t_1)),.I (Mt.md (bD l t_1)),.U (Mt.ins (bD l t_1)),.list (List.map rrc (Mt.rows (bD l t_1))) .no,.list (List.map stc (Mt.aa (bD l t_1))) .no]; exact fun d=>by refine(?_:_→Prop) [Ob.cells g,.cells f,.cells d]; exact fun e=>ah h [.ptr 0 0,.U t_1]∧ql l most_1 [.cells g,.cells f]∧Ok l most_1∧br (has l t_1) (∃(l_1:List RwM) (most_2:Int) (t_2:Int),ah h [.ptr 0 0,.U t_2]∧ql l_1 most_2 e∧Ok l_1 most_2∧∃(v:Mt) (l_2:List RwM) (J:List PV) (cap:Nat) (most_3:Int) (p:Nat),by refine(?_:_→_→_→Prop) (flM (List.eraseIdx l_2 p)++([.U 0,.U 0,.I 0,.U 0,.E,.E]++J)) (Ob.cells [.U v.id,.I v.md,.U v.ins,.list (v.rows.map rrc) .no,.list (v.aa.map stc) .no]) (PV.arr 1 0 l_2.length cap); exact fun a b c=>ah [.E,.I (↑(lbp l_1 t_2):Int),.I (wI ((↑(lbp l_1 t_2):Int)+1))] [c,.I p,.I (↑(p+1):Int)]∧av e [.cells [c,.I most_3],.cells (flM l_2++J),.cells f,b]∧p<l_2.length∧l_2.length≤1000000∧l_2.length≤cap∧aJ J ((cap-l_2.length)*6)∧br (true && decide (5≤List.length a) && cQ 0 1 0 5) (K (.tup [.agg f,.bool (has l t_1)]) [.cells [.arr 1 0 (l_2.length-1) cap,.I most_3],.cells (over a 0 f),.cells f,b]) False) (K (.tup [.agg d,.bool (has l t_1)]) [.cells g,.cells d,.cells d]))→AcK 71 h [.cells g] K:Prop):=fun K h=>acW (T:=TDM) (L:=[]) (fun o=>match o.op with| .load t _=>(match t with|146=>1|_=>0)|_=>0) Tryz.func71 (DT) (LOk.nil _ _ _ _ _) h
theorem FU (n:Int)  (K:PV→ae→Prop) (h:K (.ptr 0 0) [.cells [.E,.I (mxI 0 n)]]):AcK 49 [.I n] [] K:=
 acW (T:=[]) (L:=[]) (fun _=>0) Tryz.func49 (aW.nil _ _) (LOk.nil _ _ _ _ _) h
theorem Bw (l:List RwM) (J:List PV) (cap:Nat) (most:Int):(by refine(?_:_→_→_→_→Prop) (List.drop 0 (flM l++J)) (PV.arr 1 0 l.length cap) (Ob.cells (flM l++J)) (PV.I l.length); exact fun a b g h=>by refine(?_:_→_→_→_→Prop) [PV.ptr 0 0,.E,b,h,.I 0] (Ob.cells [b,.I most]) [[PV.U (cI a 0)]] (PV.U (cI a 0)); exact fun c d f i=>∀(R:Ex→List PV→ae→Prop),(br (decide (0<(l.length:Int))) ((iI 0≤0∧0<(l.length:Int))∧br (true && aE [.int .u32,.int .u32,.int .i64,.int .u32,.list,.list] 0 a) (aG [] f 1 4∧(List.all [i] PV.one=true∧f≠[])∧R .normal [.ptr 0 0,.list f (.tok 3),b,h,.I 1] [d,g,.cells [i,.U (cI a 1),.I (cI a 2),.U (cI a 3),.list (cL a 4) (cT a 4),.list (cL a 5) (cT a 5)],.tok]) False) (R (.exit 0) c [d,g]))→Holds (wpK [] [] (fun o=>match o.op with| .load t _=>(match t with|146=>1|_=>0)|_=>match o.dst with|some 21=>1|_=>0) (ai [1,1,0,1,0,1,0] (ag Tryz.f67)) [] (ak [0,3,11,12,13] c) [d,g] (fun ex e H=>R ex (List.map e [0,3,11,12,13]) H)):Prop):=fun R h=>hoE h
theorem Ci (l:List RwM) (J:List PV) (cap:Nat) (most:Int) (es:List (List PV)) (i:Nat):(by refine(?_:_→_→_→_→Prop) (List.drop (0+Int.toNat (i:Int)*6) (flM l++J)) (PV.arr 1 0 l.length cap) (Ob.cells (flM l++J)) (PV.I l.length); exact fun a b h j=>by refine(?_:_→_→_→_→Prop) [PV.ptr 0 0,.list es (.tok 2),b,j,.I i] [[PV.U (cI a 0)]] [b,.I most] (PV.U (cI a 0)); exact fun c f g k=>by refine(?_:_→Prop) [Ob.cells g,h,.tok]; exact fun d=>∀(R:Ex→List PV→ae→Prop),(br (decide ((i:Int)<(l.length:Int))) ((0≤(i:Int)∧(i:Int)<(l.length:Int))∧br (true && aE [.int .u32,.int .u32,.int .i64,.int .u32,.list,.list] 0 a) (aG es f 1 4∧(List.all [k] PV.one=true∧f≠[])∧R .normal [.ptr 0 0,.list (es++f) (.tok 4),b,j,.I (wI ((i:Int)+1))] [.cells g,h,.dead,.cells [k,.U (cI a 1),.I (cI a 2),.U (cI a 3),.list (cL a 4) (cT a 4),.list (cL a 5) (cT a 5)],.tok]) False) (R (.exit 0) c d))→Holds (wpK [] [] (fun o=>match o.op with| .load t _=>(match t with|146=>1|_=>0)|_=>match o.dst with|some 21=>1|_=>0) (ai [1,1,0,1,0,1,0] (ag Tryz.f67)) [] (ak [0,3,11,12,13] c) d (fun ex e H=>R ex (List.map e [0,3,11,12,13]) H)):Prop):=fun R h=>hoE h
theorem Dw (most:Int):(by refine(?_:_→_→Prop) [PV.ptr 0 0,.E,.E,.I 0,.I 0] [Ob.cells [.E,.I most]]; exact fun a b=>∀(R:Ex→List PV→ae→Prop),(R (.exit 0) a b)→Holds (wpK [] [] (fun o=>match o.op with| .load t _=>(match t with|146=>1|_=>0)|_=>0) (ai [1,1,0,1,0,1,0] (ag Tryz.f67)) [] (ak [0,3,11,12,13] a) b (fun ex e H=>R ex (List.map e [0,3,11,12,13]) H)):Prop):=fun R h=>hoE h
theorem Nv (l:List RwM):uni 1 (bS l):=by
 intro e he
 obtain⟨a,_,rfl⟩:=List.mem_map.1 he
 rfl
theorem qI {l:List RwM} {i:Nat} (h:i<l.length):bS (l.take (i+1))=bS (l.take i)++[[.U (l.getD i default).id]]:=by
 unfold bS
 rw[← List.take_append_getElem h,List.map_append,bg h]; rfl
def Cc:LSp:=fun e H Q=>∃(l:List RwM) (J:List PV) (cap:Nat) (most:Int),l.length≤1000000∧(∀ y∈J,Low 2 y)∧ah (List.map e [0,3,11,12,13]) [.ptr 0 0,.E,.arr 1 0 l.length cap,.I l.length,.I 0]∧av H (dg l J cap most)∧
 Q (.exit 0) (ak [0,3,11,12,13] [.ptr 0 0,.list (bS l) .no,.arr 1 0 l.length cap,.I l.length,.I l.length]) (dg l J cap most++[.dead])
theorem z6:∀ e H Q,Cc e H Q→AwK Tryz.f67.ntmps (.loop (ai [1,1,0,1,0,1,0] (ag Tryz.f67))) Q e H:=by
 rintro e H Q ⟨l,J,cap,most,hl,hJ,he,hH,hQ⟩
 have hH2:H=dg l J cap most:=hH
 refine sF (f:=fun r:RwM=>[PV.U r.id]) (T:=l) (hn:=fun o=>match o.op with| .load t _=>(match t with|146=>1|_=>0)|_=>match o.dst with|some 21=>1|_=>0) aj (.nil _ _) (.nil _ _ _ _ _) [0,3,11,12,13] (fun r i=>[.ptr 0 0,r,.arr 1 0 l.length cap,.I l.length,.I i]) (dg l J cap most)
  (AG hJ) (fun b _ x hx=>by rcases List.mem_singleton.1 hx with rfl; exact .int _ _)
  (fun es i k h=> .same (.ptr _ _ (by simp[dg])) (.row h (.same (.arr _ _ _ _ (by simp[dg])) (.same (.int _ _) (.same (.int _ _) .nil))))) he hH2 ?_ ?_
 ·refine Bw l J cap most _ ?_
  simp only[au,dt]
  by_cases h:0<l.length
  ·rw[if_pos (by omega)]
   refine⟨⟨by decide,by omega⟩,?_⟩
   have e0:=p7 J h
   rw[Nat.zero_mul] at e0
   rw[e0,if_pos (by rfl)]
   refine⟨⟨(by intro e he; simp at he),(by intro e he; simp at he; subst he; rfl),by simp⟩,⟨by rfl,by simp⟩,h,_,3,rfl,rfl,by simp[dg],?_⟩
   have:=qI h
   unfold bS at this
   rw[this]; rfl
  ·rw[if_neg (by omega)]
   have hm:l=[]:=List.eq_nil_of_length_eq_zero (by omega)
   subst hm
   exact⟨_,_,.cons (.refl _) (.cons (.list _ _) (.cons (.refl _) (.cons (.refl _) (.cons (.refl _) .nil)))),dN _,hQ⟩
 ·intro i h0 hi
  refine Ci l J cap most (bS (l.take i)) i _ ?_
  simp only[au,dt,an,Nat.zero_add]
  by_cases h:i<l.length
  ·rw[if_pos (by omega)]
   refine⟨⟨by omega,by omega⟩,?_⟩
   rw[p7 J h,if_pos (by rfl)]
   refine⟨⟨Nv _,(by intro e he; simp at he; subst he; rfl),by simp only[bS,List.length_map,List.length_take,List.length_cons,List.length_nil]; omega⟩,⟨by rfl,by simp⟩,h,_,4,rfl,rfl,by simp[dg],?_⟩
   have:=qI h
   unfold bS at this
   rw[this,ar h (by omega)]; rfl
  ·rw[if_neg (by omega)]
   have hm:i=l.length:=by omega
   subst hm
   rw[List.take_length]
   exact⟨_,_,.cons (.refl _) (.cons (.list _ _) (.cons (.refl _) (.cons (.refl _) (.cons (.refl _) .nil)))),ej (dg l J cap most) .tok,hQ⟩
def Dx:LSp:=fun e H Q=>∃(most:Int),ah (List.map e [0,3,11,12,13]) [.ptr 0 0,.E,.E,.I 0,.I 0]∧av H (kI most)∧
 Q (.exit 0) (ak [0,3,11,12,13] [.ptr 0 0,.E,.E,.I 0,.I 0]) (kI most)
theorem z5:∀ e H Q,Dx e H Q→AwK Tryz.f67.ntmps (.loop (ai [1,1,0,1,0,1,0] (ag Tryz.f67))) Q e H:=by
 rintro e H Q ⟨most,he,hH,hQ⟩
 refine aB (hn:=fun o=>match o.op with| .load t _=>(match t with|146=>1|_=>0)|_=>0) aj (.nil _ _) (.nil _ _ _ _ _) (σ:=Unit) [0,3,11,12,13] (fun _=>True)
  (fun _=>[.ptr 0 0,.E,.E,.I 0,.I 0]) (fun _=>kI most) (fun _=>0) () trivial he hH ?_
 intro _ _
 exact Dw most _ hQ
theorem BA (l:List RwM) (J:List PV) (cap:Nat) (most:Int):(by refine(?_:_→Prop) (PV.arr 1 0 l.length cap); exact fun e=>by refine(?_:_→Prop) [Ob.cells [e,.I most],.cells (flM l++J)]; exact fun d=>∀(K:PV→ae→Prop),(∃(l_1:List RwM) (J_1:List PV) (cap_1:Nat) (most_1:Int),by refine(?_:_→_→Prop) (PV.arr 1 0 l_1.length cap_1) (Ob.cells (flM l_1++J_1)); exact fun b c=>by refine(?_:_→Prop) (Ob.cells [b,.I most_1]); exact fun a=>l_1.length≤1000000∧(∀(y:PV),y∈J_1→Low 2 y)∧ah [.ptr 0 0,.E,e,.I l.length,.I 0] [.ptr 0 0,.E,b,.I l_1.length,.I 0]∧av d [a,c]∧K (.list (bS l_1) .no) [a,c,.dead])→AcK 67 [.ptr 0 0] d K:Prop):=fun K h=>acW (T:=[]) (L:=[([1,1,0,1,0,1,0],Cc)]) (fun o=>match o.op with| .load t _=>(match t with|146=>1|_=>0)|_=>0) Tryz.func67 (aW.nil _ _) (.cons suE z6 (.nil _ _ _ _ _)) h
theorem ED (most:Int):(by refine(?_:_→_→Prop) [PV.ptr 0 0,.E,.E,.I 0,.I 0] [Ob.cells [.E,.I most]]; exact fun b c=>∀(K:PV→ae→Prop),(∃(most_1:Int),by refine(?_:_→Prop) [Ob.cells [.E,.I most_1]]; exact fun a=>ah b b∧av c a∧K (.E) a)→AcK 67 [.ptr 0 0] c K:Prop):=fun K h=>acW (T:=[]) (L:=[([1,1,0,1,0,1,0],Dx)]) (fun o=>match o.op with| .load t _=>(match t with|146=>1|_=>0)|_=>0) Tryz.func67 (aW.nil _ _) (.cons suE z5 (.nil _ _ _ _ _)) h
theorem Nw {l:List RwM} {most t:Int} {hh:ae} (hH:EXM l most hh) (ok:Ok l most):AcK 71 [.ptr 0 0,.U t] hh (fun x H'=>x = .tup [(let v:=bD l t; Mt.pv v),.bool (has l t)]∧ed (EXM (lj l t) most) H'):=by
 have hfull:=ok.len
 rcases hH with⟨J,cap,rfl,hc,hJ⟩|⟨rfl,rfl⟩
 ·refine Ef l J cap most t _ ⟨l,most,t,rfl,⟨_,[_],rfl,yz hc hJ⟩,ok,?_⟩
  simp only[au]
  unfold lj
  by_cases c:has l t=true
  ·obtain⟨c1,c2⟩:=fU c
   rw[if_pos c,if_pos c]
   refine⟨l,most,t,rfl,⟨_,[_,_],rfl,yz hc hJ⟩,ok,bD l t,l,J,cap,most,lbp l t,(by show _=_; rw[ar c1 (by omega)]),rfl,c1,ok.len,hc,hJ,by first|rfl|trivial,?_⟩
   have hle:l.length-1=(l.eraseIdx (lbp l t)).length:=by rw[List.length_eraseIdx_of_lt c1]
   rw[hle]
   exact fm (k:=0) rfl (by omega) (((jm 1).app hJ |> fun h=>by
    simp only[List.replicate,List.flatten_cons,List.flatten_nil,List.append_nil] at h
    exact h.cast (by omega)))
  ·rw[if_neg c,if_neg c]
   exact⟨by first|rfl|trivial,fm (k:=0) rfl hc hJ⟩
 ·refine Eu most t _ ⟨[],most,t,rfl,⟨_,[_],rfl,AN⟩,ok,?_⟩
  exact⟨rfl,jy⟩
theorem MY {l:List RwM} {most:Int} {hh:ae} (hH:EXM l most hh) (ok:Ok l most):AcK 67 [.ptr 0 0] hh (fun x H'=>x = .list (bS l) .no∧ed (EXM l most) H'):=by
 rcases hH with⟨J,cap,rfl,hc,hJ⟩|⟨rfl,rfl⟩
 ·exact BA l J cap most _ ⟨l,J,cap,most,ok.len,Mw hJ,rfl,rfl,rfl,fm (k:=0) rfl hc hJ⟩
 ·exact ij (ED most _ ⟨most,rfl,rfl,_,_,.list _ _,.refl _,rfl,jy⟩)
def vo (args:List PV) (H:ae) (K:PV→Prop):Prop:=∃(q:Nat) (l:List RwM) (most t:Int),ah args [.ptr q 0,.U t]∧bR H q (rkM l most)∧Ok l most∧K (.tup [(let v:=bD l t; Mt.pv v),.bool (has l t)])
theorem yB:SpK 35 (.read vo):=by
 rintro args H K ⟨q,l,most,t,he,ha,ok,hk⟩
 have he:args=_:=he
 subst he
 refine⟨_,jw aj ha cN (gU _ _) (fun hh h=>?_),hk⟩
 obtain⟨r,h1,h2⟩:=rA _ hh (fun x=>x = .tup [(let v:=bD l t; Mt.pv v),.bool (has l t)]) ⟨l,most,t,rfl,h,ok,rfl⟩
 exact aL h1 fun x H' e=>⟨e.1.trans h2,e.2▸BJ h⟩
def ia (args:List PV) (H:ae) (K:PV→ae→Prop):Prop:=match args with
 | .ptr q 0::rest=>∃(l:List RwM) (most t:Int) (v:Mt) (t1 t2:Tail),ah rest [.int .u32 t,.agg [.int .u32 v.id,.int .i64 v.md,.int .u32 v.ins,.list (v.rows.map rrc) t1,.list (v.aa.map stc) t2]]∧bR H q (rkM l most)∧Ok l most∧K (.int .i64 (cV l most t v).2) (H.set q (.abs (rkM (cV l most t v).1 most)))
 | _=>False
theorem wX:SpK 64 (.heap ia):=by
 intro args H K h
 unfold ia at h
 split at h
 ·rename_i q rest
  obtain⟨l,most,t,v,t1,t2,he,ha,ok,hk⟩:=h
  have he:rest=_:=he
  subst he
  refine bc (.cons (.refl _) (.cons (.refl _) (.cons (.agg (.cons (.refl _) (.cons (.refl _) (.cons (.refl _) (.cons (.list _ _) (.cons (.list _ _) .nil)))))) .nil))) ?_
  refine jD aj ha (by intro y hy; simp only[List.mem_cons,List.not_mem_nil,or_false] at hy; rcases hy with rfl|rfl; exact .int _ _; exact EK v) (.int _ _) (fun hh h=>?_) hk
  exact FH _ hh _ ⟨l,most,t,v,rfl,h,ok,fun H' h'=>⟨rfl,h'⟩⟩
 ·exact h.elim
def CE (args:List PV) (H:ae) (K:PV→ae→Prop):Prop:=∃ n:Int,ah args [.I n]∧K (.ptr H.length 0) (H++[.abs (rkM [] (mxI 0 n))])
theorem GG:SpK 49 (.heap CE):=by
 rintro args H K ⟨n,he,hk⟩
 have he:args=_:=he
 subst he
 exact aL (q6 aj cN (FU n _ ⟨rfl,jy⟩)) fun _ _ e=>e.1▸e.2▸hk
def Fq (args:List PV) (H:ae) (K:PV→Prop):Prop:=∃(q:Nat) (l:List RwM) (most:Int),ah args [.ptr q 0]∧bR H q (rkM l most)∧Ok l most∧K (.list (bS l) .no)
theorem AZ (l:List RwM):Low 0 (.list (bS l) .no):=aH NT.no (by
 intro x hx
 obtain⟨c,h1,h2⟩:=List.mem_flatten.1 hx
 obtain⟨r,_,rfl⟩:=List.mem_map.1 h1
 rcases List.mem_singleton.1 h2 with rfl
 exact .int _ _)
theorem FV:SpK 67 (.read Fq):=by
 rintro args H K ⟨q,l,most,he,ha,ok,hk⟩
 have he:args=_:=he
 subst he
 exact⟨_,jw aj ha tC (AZ l) (fun hh h=>MY h ok),hk⟩
def kK (args:List PV) (H:ae) (K:PV→ae→Prop):Prop:=match args with
 | .ptr q 0::rest=>∃(l:List RwM) (most t:Int),ah rest [.int .u32 t]∧bR H q (rkM l most)∧Ok l most∧K (.tup [(let v:=bD l t; Mt.pv v),.bool (has l t)]) (H.set q (.abs (rkM (lj l t) most)))
 | _=>False
theorem HS:SpK 71 (.heap kK):=by
 intro args H K h
 unfold kK at h
 split at h
 ·rename_i q rest
  obtain⟨l,most,t,he,ha,ok,hk⟩:=h
  have he:rest=_:=he
  subst he
  exact jD aj ha cN (gU _ _) (fun hh h=>Nw h ok) hk
 ·exact h.elim
def TQM:Tab:=[(35,.read vo),(64,.heap ia)]
theorem JU:TbK TQM:= .cons yB (.cons wX (.nil _ _))
theorem GW (l:List RwM) (most t:Int) (v:Mt):(by refine(?_:_→Prop) [PV.U v.id,.I v.md,.U v.ins,.list (v.rows.map rrc) .no,.list (v.aa.map stc) .no]; exact fun c=>∀(K:PV→ae→Prop),(∃(q:Nat) (l_1:List RwM) (most_1:Int) (t_1:Int),by refine(?_:_→Prop) (Ob.cells [.U (Mt.id (bD l_1 t_1)),.I (Mt.md (bD l_1 t_1)),.U (Mt.ins (bD l_1 t_1)),.list (List.map rrc (Mt.rows (bD l_1 t_1))) .no,.list (List.map stc (Mt.aa (bD l_1 t_1))) .no]); exact fun a=>by refine(?_:_→Prop) [Ob.abs (rkM l most),.cells c,a]; exact fun b=>ah [.ptr 0 0,.U t] [.ptr q 0,.U t_1]∧bR [.abs (rkM l most),.cells c] q (rkM l_1 most_1)∧Ok l_1 most_1∧br (has l_1 t_1) (K (.I 11) b) (∃(l_2:List RwM) (most_2:Int) (t_2:Int) (v_1:Mt) (t1:Tail) (t2:Tail),ah [.U t,.agg c] [.U t_2,.agg [.U v_1.id,.I v_1.md,.U v_1.ins,.list (v_1.rows.map rrc) t1,.list (v_1.aa.map stc) t2]]∧bR b 0 (rkM l_2 most_2)∧Ok l_2 most_2∧K (.I (Prod.snd (cV l_2 most_2 t_2 v_1))) [.abs (rkM (Prod.fst (cV l_2 most_2 t_2 v_1)) most_2),.cells c,a]))→AcK 57 [.ptr 0 0,.U t,Mt.pv v] [.abs (rkM l most)] K:Prop):=fun K h=>acW (T:=TQM) (L:=[]) (fun _=>0) Tryz.func57 (JU) (LOk.nil _ _ _ _ _) h
def kz (args:List PV) (H:ae) (K:PV→ae→Prop):Prop:=match args with
 | .ptr q 0::rest=>∃(l:List RwM) (most t:Int) (v:Mt) (t1 t2:Tail),ah rest [.int .u32 t,.agg [.int .u32 v.id,.int .i64 v.md,.int .u32 v.ins,.list (v.rows.map rrc) t1,.list (v.aa.map stc) t2]]∧bR H q (rkM l most)∧Ok l most∧K (.int .i64 (tY l most t v).2) (H.set q (.abs (rkM (tY l most t v).1 most)))
 | _=>False
theorem yq:SpK 57 (.heap kz):=by
 intro args H K h
 unfold kz at h
 split at h
 ·rename_i q rest
  obtain⟨l,most,t,v,t1,t2,he,ha,ok,hk⟩:=h
  have he:rest=_:=he
  subst he
  refine bc (.cons (.refl _) (.cons (.refl _) (.cons (.agg (.cons (.refl _) (.cons (.refl _) (.cons (.refl _) (.cons (.list _ _) (.cons (.list _ _) .nil)))))) .nil))) ?_
  refine uI aj ha (by intro y hy; simp only[List.mem_cons,List.not_mem_nil,or_false] at hy; rcases hy with rfl|rfl; exact .int _ _; exact EK v) (.int _ _) (GW l most t v _ ⟨0,l,most,t,rfl,rfl,ok,?_⟩) hk
  unfold tY
  rw[au]
  by_cases c:has l t=true
  ·rw[if_pos c,if_pos c]
   exact⟨rfl,_,rfl⟩
  ·rw[if_neg c,if_neg c]
   exact⟨l,most,t,v,.no,.no,rfl,rfl,ok,rfl,_,rfl⟩
 ·exact h.elim
theorem oE:SpK 64 (.chg ia):=by
 intro args H K h
 unfold ia at h
 split at h
 ·obtain⟨l,most,t,v,t1,t2,he,ha,ok,hk⟩:=h
  exact⟨_,_,wX _ H (fun x H1=>x=_∧H1=_) (by unfold ia; exact⟨l,most,t,v,t1,t2,he,ha,ok,⟨rfl,rfl⟩⟩),hk⟩
 ·exact h.elim
theorem uP:SpK 71 (.chg kK):=by
 intro args H K h
 unfold kK at h
 split at h
 ·obtain⟨l,most,t,he,ha,ok,hk⟩:=h
  exact⟨_,_,HS _ H (fun x H1=>x=_∧H1=_) (by unfold kK; exact⟨l,most,t,he,ha,ok,⟨rfl,rfl⟩⟩),hk⟩
 ·exact h.elim
def TMM (T:Tab):Tab:=(35,.read vo)::(64,.chg ia)::(57,.heap kz)::(71,.chg kK)::(67,.read Fq)::(49,.heap CE)::T
theorem Fe {T:Tab} (h:TbK T):TbK (TMM T):=(.cons yB (.cons oE (.cons yq (.cons uP (.cons FV (.cons GG h))))))
theorem dY {α:Type} {p:α→Bool} {l:List α} {i:Nat} (d:α) (hi:i≤l.findIdx p) (h:i<l.length) (c:p (l.getD i d)=true):l.findIdx p=i:=by
 rcases Nat.eq_or_lt_of_le hi with e|e
 ·exact e.symm
 ·exfalso
  have:=List.not_of_lt_findIdx e
  rw[bg h] at c
  rw[c] at this
  cases this
theorem dS {α:Type} {p:α→Bool} {l:List α} {i:Nat} (d:α) (hi:i≤l.findIdx p) (h:i<l.length) (c:p (l.getD i d)=false):i<l.findIdx p:=by
 rcases Nat.eq_or_lt_of_le hi with e|e
 ·exfalso
  subst e
  have:=List.findIdx_getElem (p:=p) (xs:=l) (w:=h)
  rw[bg h,this] at c
  cases c
 ·exact e
section
variable {G:Type}
def fiW (w:List (Rw G)) (t:Int):Nat:=w.findIdx fun r=>r.id == t
def iG (w:List (Rw G)) (t:Int):Int:=if fiW w t<w.length then fiW w t else -1
def eK (w:List (Rw G)) (t:Int):Bool:=decide (fiW w t<w.length)
def bI (w:List (Rw G)) (t:Int):List (Rw G):=w.filter fun r=>r.id != t
def iL (w:List (Rw G)) (m t:Int) (v:G):List (Rw G)×Int:=
 if aC t=true then if eK w t=false∧(w.length:Int)≥m then(w,10) else(bI w t++[⟨t,v⟩],0) else(w,14)
def ek (t b:Int) (r:Rw G):Int:=if r.id>t then(if b=0 then r.id else if r.id<b then r.id else b) else b
def cy (w:List (Rw G)) (t:Int):Int:=w.foldl (ek t) 0
theorem EW {l:List (Rw G)} {most:Int} (ok:Ok l most) {r s:Rw G} (hr:r∈l) (hs:s∈l) (e:r.id=s.id):r=s:=by
 obtain⟨i,hi,rfl⟩:=List.mem_iff_getElem.1 hr
 obtain⟨j,hj,rfl⟩:=List.mem_iff_getElem.1 hs
 rcases Nat.lt_trichotomy i j with c|c|c
 ·have:=List.pairwise_iff_getElem.1 ok.rise i j hi hj c; omega
 ·subst c; rfl
 ·have:=List.pairwise_iff_getElem.1 ok.rise j i hj hi c; omega
theorem Ce {w:List (Rw G)} {t:Int}:eK w t=true↔∃ r∈w,r.id=t:=by
 unfold eK fiW
 rw[decide_eq_true_eq,List.findIdx_lt_length]
 simp
structure cF (l w:List (Rw G)) (most:Int):Prop where
 ok:Ok l most
 perm:l.Perm w
 pos:∀ r∈l,aC r.id=true
theorem cF.len {l w:List (Rw G)} {most:Int} (h:cF l w most):w.length=l.length:=h.perm.length_eq.symm
def ng (w:List (Rw G)) (t c:Int):Prop:=(c=0∧∀ r∈w,r.id≤t)∨(t<c∧(∃ r∈w,r.id=c)∧∀ s∈w,t<s.id→c≤s.id)
theorem ng.MV {l w:List (Rw G)} {t c c':Int} (h:ng l t c) (h':ng w t c') (e:∀ r,r∈l↔r∈w):c=c':=by
 rcases h with⟨rfl,h1⟩|⟨h1,⟨r,h2,h3⟩,h4⟩<;>rcases h' with⟨rfl,k1⟩|⟨k1,⟨s,k2,k3⟩,k4⟩
 ·rfl
 ·have:=h1 s ((e s).2 k2); omega
 ·have:=k1 r ((e r).1 h2); omega
 ·have:=h4 s ((e s).2 k2) (by omega)
  have:=k4 r ((e r).1 h2) (by omega)
  omega
theorem fV {t:Int} (h:aC t=true):1≤t:=by unfold aC at h; have:=of_decide_eq_true h; omega
theorem p6 (t:Int):∀(w:List (Rw G)) (b:Int),(∀ r∈w,1≤r.id)→
  (w.foldl (ek t) b=0∧b=0∧∀ r∈w,r.id≤t)∨(w.foldl (ek t) b≠0∧(w.foldl (ek t) b=b∨(t<w.foldl (ek t) b∧∃ r∈w,r.id=w.foldl (ek t) b))∧(b≠0→w.foldl (ek t) b≤b)∧∀ s∈w,t<s.id→w.foldl (ek t) b≤s.id)
 | [],b,_=>by
  by_cases hb:b=0
  ·exact .inl ⟨hb,hb,fun _ h=>nomatch h⟩
  ·exact .inr ⟨hb,.inl rfl,fun _=>Int.le_refl _,fun _ h=>nomatch h⟩
 | r::w,b,hp=>by
  have h1:=hp r (by simp)
  have hs:(ek t b r=b∨ek t b r=r.id)∧(ek t b r≠b→t<r.id)∧(b≠0→ek t b r≤b)∧(t<r.id→ek t b r≤r.id∧ek t b r≠0):=by
   unfold ek
   by_cases c1:r.id>t
   ·rw[if_pos c1]
    by_cases c2:b=0
    ·rw[if_pos c2]; omega
    ·rw[if_neg c2]
     by_cases c3:r.id<b
     ·rw[if_pos c3]; omega
     ·rw[if_neg c3]; omega
   ·rw[if_neg c1]; omega
  have ih:=p6 t w (ek t b r) (fun s hs=>hp s (by simp[hs]))
  rw[List.foldl_cons]
  generalize List.foldl (ek t) (ek t b r) w=c at ih
  generalize ek t b r=s' at hs ih
  obtain⟨a1,a2,a3,a4⟩:=hs
  rcases ih with⟨h2,h3,h4⟩|⟨h2,h3,h4,h5⟩
  ·refine .inl ⟨h2,by omega,fun q hq=>?_⟩
   rcases List.mem_cons.1 hq with rfl|hq
   ·omega
   ·exact h4 q hq
  ·refine .inr ⟨h2,?_,fun hb=>by clear h3 h5; omega,fun q hq htq=>?_⟩
   ·rcases h3 with h3|⟨h3,q,h6,h7⟩
    ·by_cases c:s'=b
     ·exact .inl (h3.trans c)
     ·have e:s'=r.id:=a1.resolve_left c
      exact .inr ⟨by rw[h3,e]; exact a2 c,r,by simp,by rw[h3,e]⟩
    ·exact .inr ⟨h3,q,by simp[h6],h7⟩
   ·rcases List.mem_cons.1 hq with rfl|hq
    ·have:=a4 htq; omega
    ·exact h5 q hq htq
theorem ta {w:List (Rw G)} (hp:∀ r∈w,1≤r.id) (t:Int):ng w t (cy w t):=by
 rcases p6 t w 0 hp with⟨h1,_,h2⟩|⟨h1,h2,_,h3⟩
 ·exact .inl ⟨h1,h2⟩
 ·rcases h2 with h2|⟨h2,h4⟩
  ·exact absurd h2 h1
  ·exact .inr ⟨h2,h4,h3⟩
end
section
variable {G:Type} [Inhabited G]
def eZ (w:List (Rw G)) (t:Int):G:=if fiW w t<w.length then(w.getD (fiW w t) default).v else default
theorem jT {l:List (Rw G)} {most t:Int} (ok:Ok l most):has l t=true↔∃ r∈l,r.id=t:=by
 constructor
 ·intro h
  obtain⟨h1,h2⟩:=fU h
  exact⟨_,aX h1,h2⟩
 ·rintro⟨r,hr,rfl⟩
  obtain⟨k,hk,rfl⟩:=List.mem_iff_getElem.1 hr
  cases c:has l l[k].id with
  | true=>rfl
  | false=>
   exfalso
   have lb:=ok.lb l[k].id
   rcases Nat.lt_or_ge k (lbp l l[k].id) with q|q
   ·have:=lb.lo k q; rw[bg hk] at this; omega
   ·have:=mW ok c k q hk; rw[bg hk] at this; omega
theorem AX {l:List (Rw G)} {most:Int} (ok:Ok l most) {r:Rw G} (hr:r∈l):bD l r.id=r.v:=by
 have h:=(jT ok).2 ⟨r,hr,rfl⟩
 obtain⟨h1,h2⟩:=fU h
 unfold bD
 rw[if_pos h,EW ok (aX h1) hr h2]
theorem AD {w:List (Rw G)} {t:Int} (h:fiW w t<w.length):(w.getD (fiW w t) default)∈w∧(w.getD (fiW w t) default).id=t:=by
 refine⟨aX h,?_⟩
 have:=List.findIdx_getElem (p:=fun r:Rw G=>r.id == t) (xs:=w) (w:=h)
 rw[bg h]
 exact eq_of_beq this
theorem cF.JZ {l w:List (Rw G)} {most:Int} (h:cF l w most) (t:Int):eK w t=has l t:=by
 rw[Bool.eq_iff_iff,Ce,jT h.ok]
 exact⟨fun⟨r,hr,e⟩=>⟨r,h.perm.mem_iff.2 hr,e⟩,fun⟨r,hr,e⟩=>⟨r,h.perm.mem_iff.1 hr,e⟩⟩
theorem cF.My {l w:List (Rw G)} {most:Int} (h:cF l w most) (t:Int):eZ w t=bD l t:=by
 unfold eZ
 by_cases c:fiW w t<w.length
 ·rw[if_pos c]
  obtain⟨h1,h2⟩:=AD c
  have:=AX h.ok (h.perm.mem_iff.2 h1)
  rw[h2] at this
  exact this.symm
 ·rw[if_neg c]
  have h1:has l t=false:=by rw[← h.JZ t]; exact decide_eq_false c
  unfold bD
  rw[if_neg (by simp[h1])]
theorem oT {l:List (Rw G)} {most:Int} (ok:Ok l most) (t:Int):lj l t=bI l t:=by
 unfold lj bI
 by_cases c:has l t=true
 ·rw[if_pos c]
  obtain⟨h1,h2⟩:=fU c
  rw[List.eraseIdx_eq_take_drop_succ]
  have hl:l=l.take (lbp l t)++l.getD (lbp l t) default::l.drop (lbp l t+1):=by
   rw[bg h1,← List.drop_eq_getElem_cons h1,List.take_append_drop]
  have ha:∀ r∈l.take (lbp l t),(r.id != t)=true:=by
   intro r hr
   obtain⟨k,hk,rfl⟩:=List.mem_iff_getElem.1 hr
   rw[List.length_take] at hk
   have:=(ok.lb t).lo k (by omega)
   rw[bg (by omega)] at this
   rw[List.getElem_take]
   simp; omega
  have hb:∀ r∈l.drop (lbp l t+1),(r.id != t)=true:=by
   intro r hr
   obtain⟨k,hk,rfl⟩:=List.mem_iff_getElem.1 hr
   rw[List.length_drop] at hk
   have:=ok.get (i:=lbp l t) (j:=lbp l t+1+k) (by omega) (by omega)
   rw[h2,bg (by omega)] at this
   rw[List.getElem_drop]
   simp; omega
  conv=>rhs; rw[hl]
  rw[List.filter_append,List.filter_cons,if_neg (by rw[h2]; simp),List.filter_eq_self.2 ha,List.filter_eq_self.2 hb]
 ·rw[if_neg c,List.filter_eq_self.2]
  intro r hr
  simp only[bne_iff_ne,ne_eq]
  intro e
  exact c ((jT ok).2 ⟨r,hr,e⟩)
theorem cF.put {l w:List (Rw G)} {most:Int} (h:cF l w most) (t:Int) (v:G):cF (cV l most t v).1 (iL w most t v).1 most∧(iL w most t v).2=(cV l most t v).2:=by
 have hok:=h.ok.put t v
 unfold iL
 unfold cV at hok ⊢
 by_cases c:aC t=true
 ·rw[if_pos c,if_pos c]
  rw[if_pos c] at hok
  have hw:=h.JZ t
  by_cases c2:has l t=true
  ·rw[if_pos c2,if_neg (by rw[hw,c2]; simp)]
   rw[if_pos c2] at hok
   obtain⟨h1,h2⟩:=fU c2
   have hp:(l.set (lbp l t) ⟨t,v⟩).Perm (bI w t++[⟨t,v⟩]):=by
    rw[List.set_eq_take_append_cons_drop,if_pos h1]
    refine List.perm_middle.trans ?_
    have e1:=oT h.ok t
    unfold lj at e1
    rw[if_pos c2,List.eraseIdx_eq_take_drop_succ] at e1
    rw[e1]
    refine(List.Perm.cons _ (h.perm.filter _)).trans ?_
    exact(List.perm_append_singleton _ _).symm
   refine⟨⟨hok,hp,fun r hr=>?_⟩,rfl⟩
   rcases List.mem_or_eq_of_mem_set hr with q|rfl
   ·exact h.pos r q
   ·exact c
  ·rw[if_neg c2]
   rw[if_neg c2] at hok
   have c2':has l t=false:=by simpa using c2
   by_cases c3:(l.length:Int)≥most
   ·rw[if_pos c3,if_pos ⟨by rw[hw,c2'],by rw[h.len]; exact c3⟩]
    exact⟨h,rfl⟩
   ·rw[if_neg c3,if_neg (by rw[h.len]; exact fun q=>c3 q.2)]
    rw[if_neg c3] at hok
    have hd:bI l t=l:=by
     have e1:=oT h.ok t
     unfold lj at e1
     rw[if_neg c2] at e1
     exact e1.symm
    have hp:(bw l (lbp l t) ⟨t,v⟩).Perm (bI w t++[⟨t,v⟩]):=by
     unfold bw
     refine List.perm_middle.trans ?_
     rw[List.take_append_drop]
     refine List.Perm.trans ?_ (List.perm_append_singleton _ _).symm
     refine List.Perm.cons _ ?_
     have:=h.perm.filter (fun r=>r.id != t)
     unfold bI at hd
     rw[hd] at this
     exact this
    refine⟨⟨hok,hp,fun r hr=>?_⟩,rfl⟩
    unfold bw at hr
    rcases List.mem_append.1 hr with q|q
    ·exact h.pos r (List.mem_of_mem_take q)
    ·rcases List.mem_cons.1 q with rfl|q
     ·exact c
     ·exact h.pos r (List.mem_of_mem_drop q)
 ·rw[if_neg c,if_neg c]; exact⟨h,rfl⟩
def hY (l:List (Rw G)) (k:Nat):Int:=if k<l.length then(l.getD k default).id else 0
theorem cF.at0 {l w:List (Rw G)} {most:Int} (h:cF l w most):cy w 0=hY l 0:=by
 have hp:∀ r∈w,1≤r.id:=fun r hr=>fV (h.pos r (h.perm.mem_iff.2 hr))
 have key:ng l 0 (hY l 0):=by
  unfold hY
  by_cases c:0<l.length
  ·rw[if_pos c]
   refine .inr ⟨fV (h.pos _ (aX c)),⟨_,aX c,rfl⟩,fun s hs _=>?_⟩
   obtain⟨k,hk,rfl⟩:=List.mem_iff_getElem.1 hs
   rcases Nat.eq_zero_or_pos k with rfl|q
   ·rw[bg hk]; omega
   ·have:=h.ok.get q hk; rw[bg hk] at this; omega
  ·rw[if_neg c]
   refine .inl ⟨rfl,fun r hr=>?_⟩
   rw[List.eq_nil_of_length_eq_zero (l:=l) (by omega)] at hr
   cases hr
 exact(ta hp 0).MV key (fun r=>(h.perm.mem_iff).symm)
theorem cF.atS {l w:List (Rw G)} {most:Int} (h:cF l w most) {k:Nat} (hk:k<l.length):cy w (hY l k)=hY l (k+1):=by
 have hp:∀ r∈w,1≤r.id:=fun r hr=>fV (h.pos r (h.perm.mem_iff.2 hr))
 have key:ng l (hY l k) (hY l (k+1)):=by
  unfold hY
  rw[if_pos hk]
  by_cases c:k+1<l.length
  ·rw[if_pos c]
   refine .inr ⟨h.ok.get (Nat.lt_succ_self k) c,⟨_,aX c,rfl⟩,fun s hs q=>?_⟩
   obtain⟨j,hj,rfl⟩:=List.mem_iff_getElem.1 hs
   rw[← bg (d:=default) hj] at q ⊢
   rcases Nat.lt_trichotomy j (k+1) with q2|q2|q2
   ·exfalso
    rcases Nat.eq_or_lt_of_le (Nat.le_of_lt_succ q2) with rfl|q3
    ·omega
    ·have:=h.ok.get q3 hk; omega
   ·subst q2; omega
   ·have:=h.ok.get q2 hj; omega
  ·rw[if_neg c]
   refine .inl ⟨rfl,fun r hr=>?_⟩
   obtain⟨j,hj,rfl⟩:=List.mem_iff_getElem.1 hr
   rw[← bg (d:=default) hj]
   rcases Nat.eq_or_lt_of_le (show j≤k by omega) with rfl|q3
   ·omega
   ·have:=h.ok.get q3 hk; omega
 exact(ta hp _).MV key (fun r=>(h.perm.mem_iff).symm)
theorem oO {l w:List (Rw G)} {most:Int} (h:cF l w most) (k:Nat):(hY l k != 0)=decide (k<l.length):=by
 unfold hY
 by_cases c:k<l.length
 ·rw[if_pos c,decide_eq_true c]
  have:=fV (h.pos _ (aX (d:=default) c))
  exact bne_iff_ne.2 (by omega)
 ·rw[if_neg c,decide_eq_false c]; rfl
end
section
variable {α:Type}
def dD (k:α→Int) (w:List α):Prop:=w.Pairwise fun a b=>k a<k b
def fj (k:α→Int) (w:List α) (c:α):List α:=w.filter (fun x=>decide (k x<k c))++c::w.filter (fun x=>decide (k c<k x))
def fa (k:α→Int) (w:List α) (t:Int):List α:=w.filter fun x=>k x != t
def bC (k:α→Int) (w:List α) (t:Int):Bool:=w.any fun x=>k x == t
def nR [Inhabited α] (k:α→Int) (w:List α) (t:Int):α:=(w.find? fun x=>k x == t).getD default
theorem dD.nil (k:α→Int):dD k ([]:List α):=List.Pairwise.nil
theorem dD.drop {k:α→Int} {w:List α} (h:dD k w) (t:Int):dD k (fa k w t):=List.Pairwise.sublist List.filter_sublist h
theorem dD.put {k:α→Int} {w:List α} (h:dD k w) (c:α):dD k (fj k w c):=by
 unfold fj dD
 rw[List.pairwise_append]
 refine⟨List.Pairwise.sublist List.filter_sublist h,List.pairwise_cons.2 ⟨fun a ha=>?_,List.Pairwise.sublist List.filter_sublist h⟩,fun a ha b hb=>?_⟩
 ·have:=(List.mem_filter.1 ha).2; simpa using this
 ·have h1:=(List.mem_filter.1 ha).2
  rcases List.mem_cons.1 hb with rfl|hb
  ·simpa using h1
  ·have h2:=(List.mem_filter.1 hb).2
   simp at h1 h2; omega
theorem dD.ext {k:α→Int} {w v:List α} (hw:dD k w) (hv:dD k v) (h:∀ x,x∈w↔x∈v):w=v:=by
 have nd:∀ {l:List α},dD k l→l.Nodup:=fun ok=>List.Pairwise.imp (fun h e=>by rw[e] at h; exact absurd h (Int.lt_irrefl _)) ok
 refine List.Perm.eq_of_pairwise (fun a b _ _ h1 h2=>?_) hw hv ((List.perm_ext_iff_of_nodup (nd hw) (nd hv)).2 h)
 exact absurd (Int.lt_trans h1 h2) (Int.lt_irrefl _)
theorem dD.inj {k:α→Int} {w:List α} (h:dD k w) {a b:α} (ha:a∈w) (hb:b∈w) (e:k a=k b):a=b:=by
 obtain⟨i,hi,rfl⟩:=List.mem_iff_getElem.1 ha
 obtain⟨j,hj,rfl⟩:=List.mem_iff_getElem.1 hb
 rcases Nat.lt_trichotomy i j with c|c|c
 ·have:=List.pairwise_iff_getElem.1 h i j hi hj c; omega
 ·subst c; rfl
 ·have:=List.pairwise_iff_getElem.1 h j i hj hi c; omega
theorem gS {k:α→Int} {w:List α} {c x:α}:x∈fj k w c↔x=c∨(x∈w∧k x≠k c):=by
 unfold fj
 simp only[List.mem_append,List.mem_filter,List.mem_cons,decide_eq_true_eq]
 constructor
 ·rintro (⟨h1,h2⟩|h|⟨h1,h2⟩)
  ·exact .inr ⟨h1,by omega⟩
  ·exact .inl h
  ·exact .inr ⟨h1,by omega⟩
 ·rintro (h|⟨h1,h2⟩)
  ·exact .inr (.inl h)
  ·rcases Int.lt_or_gt_of_ne h2 with q|q
   ·exact .inl ⟨h1,q⟩
   ·exact .inr (.inr ⟨h1,q⟩)
theorem m8 {k:α→Int} {w:List α} {t:Int} {x:α}:x∈fa k w t↔x∈w∧k x≠t:=by
 unfold fa; simp
theorem dL {k:α→Int} {w:List α} {t:Int}:bC k w t=true↔∃ x∈w,k x=t:=by
 unfold bC; simp
theorem fC [Inhabited α] {k:α→Int} {w:List α} {t:Int} (h:bC k w t=true):nR k w t∈w∧k (nR k w t)=t:=by
 obtain⟨x,hx,e⟩:=dL.1 h
 unfold nR
 cases c:w.find? (fun x=>k x == t) with
 | none=>exact absurd (by simpa using e) (List.find?_eq_none.1 c x hx)
 | some y=>exact⟨List.mem_of_find?_eq_some c,by simpa using List.find?_some c⟩
theorem w4 [Inhabited α] {k:α→Int} {w:List α} (h:dD k w) {x:α} (hx:x∈w):nR k w (k x)=x:=by
 obtain⟨h1,h2⟩:=fC (dL.2 ⟨x,hx,rfl⟩)
 exact h.inj h1 hx h2
theorem gL [Inhabited α] {k:α→Int} {w:List α} {t:Int} (h:bC k w t=false):nR k w t=default:=by
 unfold nR
 cases c:w.find? (fun x=>k x == t) with
 | none=>rfl
 | some y=>
  have:bC k w t=true:=dL.2 ⟨y,List.mem_of_find?_eq_some c,by simpa using List.find?_some c⟩
  rw[h] at this; cases this
theorem En {k:α→Int} {w:List α} (h:dD k w) (c:α):(fj k w c).length=if bC k w (k c)=true then w.length else w.length+1:=by
 have key:∀ w:List α,dD k w→(w.filter (fun x=>decide (k x<k c))).length+(w.filter (fun x=>decide (k c<k x))).length=if bC k w (k c)=true then w.length-1 else w.length:=by
  intro w
  induction w with
  | nil=>intro _; rfl
  | cons a w ih=>
   intro h
   obtain⟨h1,h2⟩:=List.pairwise_cons.1 h
   have ih:=ih h2
   have hh:bC k (a::w) (k c)=(k a == k c || bC k w (k c)):=rfl
   rw[hh]
   rcases Int.lt_trichotomy (k a) (k c) with q|q|q
   ·rw[List.filter_cons_of_pos (by simpa using q),List.filter_cons_of_neg (by simp; omega)]
    have e:(k a == k c)=false:=by simp; omega
    rw[e,Bool.false_or]
    have hne:bC k w (k c)=true→w≠[]:=fun h0 h3=>by subst h3; cases h0
    split at ih
    ·rename_i h3; rw[if_pos h3]; have:=List.length_pos_iff.2 (hne h3); simp only[List.length_cons]; omega
    ·rename_i h3; rw[if_neg h3]; simp only[List.length_cons]; omega
   ·rw[List.filter_cons_of_neg (by simp; omega),List.filter_cons_of_neg (by simp; omega)]
    have e:(k a == k c)=true:=by simpa using q
    have h0:bC k w (k c)=false:=by
     cases c0:bC k w (k c) with
     | false=>rfl
     | true=>obtain⟨x,hx,ex⟩:=dL.1 c0; have:=h1 x hx; omega
    rw[h0,if_neg (by decide)] at ih
    rw[e,Bool.true_or,if_pos rfl,ih]; simp
   ·rw[List.filter_cons_of_neg (by simp; omega),List.filter_cons_of_pos (by simpa using q)]
    have e:(k a == k c)=false:=by simp; omega
    have h0:bC k w (k c)=false:=by
     cases c0:bC k w (k c) with
     | false=>rfl
     | true=>obtain⟨x,hx,ex⟩:=dL.1 c0; have:=h1 x hx; omega
    rw[h0,if_neg (by decide)] at ih
    rw[e,h0]; simp only[Bool.or_self,if_neg (by decide:¬ false=true),List.length_cons]; omega
 have:=key w h
 unfold fj
 rw[List.length_append,List.length_cons]
 split at this
 ·rename_i h3
  rw[if_pos h3]
  obtain⟨x,hx,_⟩:=dL.1 h3
  have:=List.length_pos_of_mem hx; omega
 ·rename_i h3; rw[if_neg h3]; omega
def dX (k:α→Int) (c:α) (s:List α×Bool) (r:α):List α×Bool:=
 let s1:List α×Bool:=if s.2=false∧k r≥k c then(s.1++[c],true) else s
 if k r≠k c then(s1.1++[r],s1.2) else s1
def cX (k:α→Int) (c:α) (b:Bool) (w:List α):List α×Bool:=w.foldl (dX k c) ([],b)
def z9 (c:α) (s:List α×Bool):List α:=if s.2=false then s.1++[c] else s.1
theorem qY (k:α→Int) (c:α) (b:Bool) {w:List α} {i:Nat} (d:α) (h:i<w.length):cX k c b (w.take (i+1))=dX k c (cX k c b (w.take i)) (w.getD i d):=by
 unfold cX
 rw[aI d h,List.foldl_append]; rfl
theorem pA (k:α→Int) (c:α):∀(w a:List α),w.foldl (dX k c) (a,true)=(a++fa k w (k c),true)
 | [],a=>by simp[fa]
 | r::w,a=>by
  rw[List.foldl_cons]
  have e:dX k c (a,true) r=(if k r≠k c then a++[r] else a,true):=by
   simp only[dX,Bool.true_eq_false,false_and,if_false]
   split<;>rfl
  rw[e,pA k c w]
  unfold fa
  by_cases h:k r=k c
  ·rw[if_neg (by simpa using h),List.filter_cons_of_neg (by simpa using h)]
  ·rw[if_pos h,List.filter_cons_of_pos (by simpa using h),List.append_assoc]; rfl
theorem ni {k:α→Int} (c:α):∀(w a:List α),dD k w→z9 c (w.foldl (dX k c) (a,false))=a++fj k w c
 | [],a,_=>by simp[z9,fj]
 | r::w,a,h=>by
  obtain⟨h1,h2⟩:=List.pairwise_cons.1 h
  rw[List.foldl_cons]
  by_cases q:k r≥k c
  ·have e:dX k c (a,false) r=(a++c::(if k r≠k c then [r] else []),true):=by
    simp only[dX,q,and_true,if_true]
    split<;>simp
   rw[e,pA]
   unfold z9 fj fa
   rw[if_neg (by simp)]
   have f1:∀ x∈w,k c<k x:=fun x hx=>by have:=h1 x hx; omega
   have e1:w.filter (fun x=>decide (k x<k c))=[]:=List.filter_eq_nil_iff.2 fun x hx=>by have:=f1 x hx; simp; omega
   have e2:w.filter (fun x=>decide (k c<k x))=w:=List.filter_eq_self.2 fun x hx=>by simpa using f1 x hx
   have e3:w.filter (fun x=>k x != k c)=w:=List.filter_eq_self.2 fun x hx=>by have:=f1 x hx; simp; omega
   rw[List.filter_cons_of_neg (by simp; omega),e1,e3,List.nil_append]
   by_cases p:k r=k c
   ·rw[if_neg (by simpa using p),List.filter_cons_of_neg (by simp; omega),e2]; simp
   ·rw[if_pos p,List.filter_cons_of_pos (by simp; omega),e2]; simp
  ·have e:dX k c (a,false) r=(a++[r],false):=by
    simp only[dX,q,and_false,if_false]
    rw[if_pos (by omega)]
   rw[e,ni c w _ h2]
   unfold fj
   rw[List.filter_cons_of_pos (by simp; omega),List.filter_cons_of_neg (by simp; omega)]; simp
theorem vB {k:α→Int} (c:α) {w:List α} (h:dD k w):z9 c (cX k c false w)=fj k w c:=by
 unfold cX; rw[ni c w [] h]; rfl
theorem pE (k:α→Int) (c:α) (b:Bool) (w:List α):(cX k c b w).1.length≤2*w.length:=by
 have:∀(w:List α) (s:List α×Bool),(w.foldl (dX k c) s).1.length≤s.1.length+2*w.length:=by
  intro w
  induction w with
  | nil=>intro s; simp
  | cons r w ih=>
   intro s
   have h1:=ih (dX k c s r)
   have h2:(dX k c s r).1.length≤s.1.length+2:=by unfold dX; (repeat' split)<;>simp
   rw[List.foldl_cons,List.length_cons]; omega
 have h:=this w ([],b)
 simpa[cX] using h
end
theorem Ok.M2 {G:Type} {l:List (Rw G)} {most:Int} (ok:Ok l most):dD Rw.id l:=ok.rise
section
variable {G:Type} [Inhabited G]
theorem sa {l:List (Rw G)} {most:Int} (ok:Ok l most) (t:Int):has l t=bC Rw.id l t:=by
 rw[Bool.eq_iff_iff,jT ok,dL]
theorem ET {l:List (Rw G)} {most t:Int} {v:G} (ok:Ok l most) (hr:aC t=true) (h:has l t=true∨¬ (l.length:Int)≥most) (x:Rw G):x∈(cV l most t v).1↔x=⟨t,v⟩∨(x∈l∧x.id≠t):=by
 unfold cV
 rw[if_pos hr]
 by_cases c:has l t=true
 ·rw[if_pos c]
  obtain⟨h1,h2⟩:=fU c
  show x∈l.set (lbp l t) ⟨t,v⟩↔_
  rw[List.mem_iff_getElem]
  constructor
  ·rintro⟨j,hj,rfl⟩
   rw[List.length_set] at hj
   rw[List.getElem_set]
   split
   ·exact .inl rfl
   ·rename_i hne
    refine .inr ⟨List.getElem_mem hj,fun e=>hne ?_⟩
    rw[bg h1] at h2
    rcases Nat.lt_trichotomy (lbp l t) j with q|q|q
    ·have:=List.pairwise_iff_getElem.1 ok.rise _ _ h1 hj q; omega
    ·exact q
    ·have:=List.pairwise_iff_getElem.1 ok.rise _ _ hj h1 q; omega
  ·rintro (rfl|⟨hx,hne⟩)
   ·exact⟨lbp l t,by simpa using h1,by simp⟩
   ·obtain⟨j,hj,rfl⟩:=List.mem_iff_getElem.1 hx
    refine⟨j,by simpa using hj,?_⟩
    rw[List.getElem_set,if_neg]
    rintro rfl
    rw[bg h1] at h2
    exact hne h2
 ·rw[if_neg c,if_neg (h.resolve_left c)]
  show x∈bw l (lbp l t) ⟨t,v⟩↔_
  have hno:∀ y∈l,y.id≠t:=fun y hy e=>c ((jT ok).2 ⟨y,hy,e⟩)
  unfold bw
  have hm:x∈l↔x∈l.take (lbp l t)∨x∈l.drop (lbp l t):=by
   conv=>lhs; rw[← List.take_append_drop (lbp l t) l]
   exact List.mem_append
  rw[List.mem_append,List.mem_cons]
  constructor
  ·rintro (h1|h1|h1)
   ·exact .inr ⟨hm.2 (.inl h1),hno x (hm.2 (.inl h1))⟩
   ·exact .inl h1
   ·exact .inr ⟨hm.2 (.inr h1),hno x (hm.2 (.inr h1))⟩
  ·rintro (h1|⟨h1,_⟩)
   ·exact .inr (.inl h1)
   ·rcases hm.1 h1 with h2|h2
    ·exact .inl h2
    ·exact .inr (.inr h2)
theorem Gs {l:List (Rw G)} {most:Int} (ok:Ok l most) (t:Int) (v:G):cV l most t v=if aC t=true then(if bC Rw.id l t=false∧(l.length:Int)≥most then(l,10) else(fj Rw.id l ⟨t,v⟩,0)) else(l,14):=by
 by_cases hr:aC t=true
 ·rw[if_pos hr]
  by_cases c:bC Rw.id l t=false∧(l.length:Int)≥most
  ·rw[if_pos c]
   unfold cV
   rw[if_pos hr,sa ok,if_neg (by rw[c.1]; decide),if_pos c.2]
  ·rw[if_neg c]
   have h:has l t=true∨¬ (l.length:Int)≥most:=by
    rw[sa ok]
    cases c0:bC Rw.id l t with
    | true=>exact .inl rfl
    | false=>exact .inr fun h=>c ⟨c0,h⟩
   refine Prod.ext ?_ ?_
   ·refine dD.ext (k:=Rw.id) (ok.put t v).rise (ok.M2.put _) fun x=>?_
    rw[ET ok hr h,gS]
   ·unfold cV
    rw[if_pos hr]
    by_cases c0:has l t=true
    ·rw[if_pos c0]
    ·rw[if_neg c0,if_neg (h.resolve_left c0)]
 ·rw[if_neg hr]; unfold cV; rw[if_neg hr]
end
section
variable {α:Type} (k:α→Int)
def rowsOf (w:List α):List (Rw α):=w.map fun x=>⟨k x,x⟩
variable {k}
theorem p5 (w:List α):(rowsOf k w).length=w.length:=List.length_map _
theorem kH {w:List α} {r:Rw α}:r∈rowsOf k w↔r.v∈w∧r.id=k r.v:=by
 unfold rowsOf
 rw[List.mem_map]
 constructor
 ·rintro⟨x,hx,rfl⟩; exact⟨hx,rfl⟩
 ·rintro⟨h1,h2⟩; exact⟨r.v,h1,by cases r; simp only at h2; rw[h2]⟩
theorem dD.ok {w:List α} (h:dD k w) {most:Int} (hl:(w.length:Int)≤most) (hm:most≤1000000):Ok (rowsOf k w) most:=
 ⟨by unfold rowsOf; rw[List.pairwise_map]; exact h,by rw[p5]; exact hl,hm⟩
theorem dD.rows {w:List α} (h:dD k w):dD Rw.id (rowsOf k w):=by unfold rowsOf dD; rw[List.pairwise_map]; exact h
theorem nv (w:List α) (t:Int):bC Rw.id (rowsOf k w) t=bC k w t:=by
 unfold bC rowsOf; rw[List.any_map]; rfl
end
section
variable {α:Type} [Inhabited α] {k:α→Int}
theorem ir {w:List α} {most:Int} (ok:Ok (rowsOf k w) most) (t:Int):has (rowsOf k w) t=bC k w t:=by
 rw[sa ok,nv]
theorem ku {w:List α} {most:Int} (ok:Ok (rowsOf k w) most) (t:Int):bD (rowsOf k w) t=nR k w t:=by
 cases c:bC k w t with
 | true=>
  obtain⟨h1,h2⟩:=fC c
  have h3:(⟨k (nR k w t),nR k w t⟩:Rw α)∈rowsOf k w:=kH.2 ⟨h1,rfl⟩
  have:=AX ok h3
  simp only[h2] at this
  exact this
 | false=>
  rw[gL c]
  unfold bD
  rw[if_neg (by rw[ir ok,c]; decide)]
theorem oy {w:List α} {most:Int} (h:dD k w) (ok:Ok (rowsOf k w) most) (c:α):cV (rowsOf k w) most (k c) c=if aC (k c)=true then(if bC k w (k c)=false∧(w.length:Int)≥most then(rowsOf k w,10) else(rowsOf k (fj k w c),0)) else(rowsOf k w,14):=by
 rw[Gs ok,nv,p5]
 have e:fj Rw.id (rowsOf k w) ⟨k c,c⟩=rowsOf k (fj k w c):=by
  refine dD.ext (k:=Rw.id) (h.rows.put _) (h.put c).rows fun x=>?_
  rw[gS,kH,kH,gS]
  cases x with
  | mk i v=>
   simp only[Rw.mk.injEq]
   constructor
   ·rintro (⟨h1,h2⟩|⟨⟨h1,h2⟩,h3⟩)
    ·exact⟨.inl h2,by rw[h1,h2]⟩
    ·exact⟨.inr ⟨h1,by rw[← h2]; exact h3⟩,h2⟩
   ·rintro⟨h1|⟨h1,h2⟩,h3⟩
    ·exact .inl ⟨by rw[h3,h1],h1⟩
    ·exact .inr ⟨⟨h1,h3⟩,by rw[h3]; exact h2⟩
 rw[e]
theorem tq {w:List α} {most:Int} (ok:Ok (rowsOf k w) most) (t:Int):lj (rowsOf k w) t=rowsOf k (fa k w t):=by
 rw[oT ok]
 unfold bI rowsOf fa
 rw[List.filter_map]; rfl
end
theorem KB (l:List (Int)) (t:Int) (i:Nat):(by refine(?_:_→_→_→Prop) (List.getD (l.map u1) (Int.toNat (i:Int)) []) (PV.I l.length) (PV.list (l.map u1) .no); exact fun b c d=>by refine(?_:_→Prop) [PV.list (l.map u1) .no,.U t,.I 0,c,.I i]; exact fun a=>∀(R:Ex→List PV→ae→Prop),(br (decide ((i:Int)<(l.length:Int))) (InL (l.map u1) 1 (i:Int)∧br (true && aE [.int .u32] 0 b) (br (t == cI b 0) (R .ret [d,.U t,.I i,c,.I i] []) (R .normal [d,.U t,.I 0,c,.I (wI ((i:Int)+1))] [])) False) (R (.exit 0) a []))→Holds (wpK [] [] (fun _=>0) (ai [1,0,1,0] (ag Tryz.f108)) [] (ak [0,1,4,7,8] a) [] (fun ex e H=>R ex (List.map e [0,1,4,7,8]) H)):Prop):=fun R h=>hoE h
def Jf:LSp:=fun e H Q=>∃(l:List (Int)) (t:Int),l.length≤1000000∧(True)∧ah (List.map e [0,1,4,7,8]) [.list (l.map u1) .no,.U t,.I 0,.I l.length,.I 0]∧av H []∧
 (l.findIdx (fun x=>t == x)<l.length→Q .ret (ak [0,1,4,7,8] [.list (l.map u1) .no,.U t,.I (l.findIdx (fun x=>t == x)),.I l.length,.I (l.findIdx (fun x=>t == x))]) [])∧(l.findIdx (fun x=>t == x)=l.length→Q (.exit 0) (ak [0,1,4,7,8] [.list (l.map u1) .no,.U t,.I 0,.I l.length,.I l.length]) [])
theorem Bb:∀ e H Q,Jf e H Q→AwK Tryz.f108.ntmps (.loop (ai [1,0,1,0] (ag Tryz.f108))) Q e H:=by
 rintro e H Q ⟨l,t,hl,_,he,hH,hQ1,hQ2⟩
 have hfl:l.findIdx (fun x=>t == x)≤l.length:=List.findIdx_le_length
 refine aB (hn:=fun _=>0) aj (.nil _ _) (.nil _ _ _ _ _) (σ:=Nat) [0,1,4,7,8] (fun i=>i≤l.findIdx (fun x=>t == x)) (fun i=>[.list (l.map u1) .no,.U t,.I 0,.I l.length,.I i]) (fun _=>[]) (fun i=>l.length-i) 0 (Nat.zero_le _) he hH ?_
 intro i hi
 have hi':i≤l.findIdx (fun x=>t == x):=hi
 refine KB l t i _ ?_
 simp only[au,dt,an,dM]
 by_cases h:i<l.length
 ·rw[if_pos (by omega)]
  simp only[getD_map 0 h]
  repeat (first|refine⟨h,?_⟩|rw[if_pos (by rfl)])
  by_cases c:(fun x=>t == x) (l.getD i 0)=true
  ·have hge:l.findIdx (fun x=>t == x)=i:=dY 0 hi' h c
   rw[hge] at hQ1
   rw[if_pos (by exact c)]
   repeat (first|refine⟨h,?_⟩|rw[if_pos (by rfl)])
   exact hQ1 h
  ·have hlt:i<l.findIdx (fun x=>t == x):=dS 0 hi' h (by simpa using c)
   rw[if_neg (by exact c)]
   exact⟨i+1,(show l.length-(i+1)<l.length-i by omega),hlt,by rw[ar h (by omega)],[],rfl,Nat.le_refl _,.inl rfl⟩
 ·rw[if_neg (by omega)]
  have:i=l.length:=by omega
  subst this
  exact hQ2 (by omega)
theorem HX (l:List Int) (t:Int):∀(K:PV→Prop),(∃(l_1:List Int) (t_1:Int),by refine(?_:_→Prop) (fun(x:Int)=>t_1 == x); exact fun a=>l_1.length≤1000000∧True∧ah [.list (l.map u1) .no,.U t,.I 0,.I (↑(List.length (l.map u1)):Int),.I 0] [.list (l_1.map u1) .no,.U t_1,.I 0,.I l_1.length,.I 0]∧av [] []∧(List.findIdx a l_1<l_1.length→K (.I (↑(List.findIdx a l_1):Int)))∧(List.findIdx a l_1=l_1.length→K (.I (-1))))→AcK 108 [.list (l.map u1) .no,.U t] [] (fun x _=>K x):=fun K h=>acW (T:=[]) (L:=[([1,0,1,0],Jf)]) (fun _=>0) Tryz.func108 (aW.nil _ _) (.cons suE Bb (.nil _ _ _ _ _)) h
def vw (l:List Int) (t:Int):Int:=if l.findIdx (fun x=>t == x)<l.length then(l.findIdx (fun x=>t == x):Int) else -1
def Jd (args:List PV) (K:PV→Prop):Prop:=∃(l:List Int) (t:Int),ah args [.list (l.map u1) .no,.U t]∧l.length≤1000000∧K (.I (vw l t))
theorem eC {n:Nat} (l:List Int):Low n (.list (l.map u1) .no):=bp bL l
theorem Kb:SpK 108 (.pure Jd):=by
 rintro args K ⟨l,t,he,hl,hk⟩
 have he:args=_:=he
 subst he
 refine ck aj (bn (eC l) (.int _ _)) (.int _ _) (HX l t (fun x=>x = .I (vw l t)) ⟨l,t,hl,trivial,(by show _=_; simp only[List.length_map]),rfl,fun h=>?_,fun h=>?_⟩) hk
 ·unfold vw; rw[if_pos h]
 ·unfold vw; rw[if_neg (by omega)]
def TI1:Tab:=[(108,.pure Jd)]
theorem Lv:TbK TI1:= .cons Kb (.nil _ _)
theorem Hz (l:List Int) (t:Int)  (K:PV→Prop) (h:∃(l_1:List Int) (t_1:Int),ah [.list (List.map u1 l) .no,.U t] [.list (List.map u1 l_1) .no,.U t_1]∧List.length l_1≤1000000∧K (.bool (decide (vw l_1 t_1≥0)))):AcK 87 [.list (l.map u1) .no,.U t] [] (fun x _=>K x):=
 acW (T:=TI1) (L:=[]) (fun _=>0) Tryz.func87 (Lv) (LOk.nil _ _ _ _ _) h
def cH (l:List Int) (t:Int):Bool:=decide (t∈l)
theorem oF {l:List Int} {t:Int}:cH l t=true↔t∈l:=by unfold cH; rw[decide_eq_true_eq]
theorem Dl (l:List Int) (t:Int):decide (vw l t≥0)=cH l t:=by
 unfold vw cH
 have h:l.findIdx (fun x=>t == x)<l.length↔t∈l:=by
  rw[List.findIdx_lt_length]
  constructor
  ·rintro⟨x,hx,e⟩; rw[eq_of_beq e]; exact hx
  ·intro h; exact⟨t,h,by simp⟩
 by_cases c:l.findIdx (fun x=>t == x)<l.length
 ·rw[if_pos c,decide_eq_true (h.1 c),decide_eq_true (by omega)]
 ·rw[if_neg c,decide_eq_false (fun k=>c (h.2 k)),decide_eq_false (by omega)]
def Ju (args:List PV) (K:PV→Prop):Prop:=∃(l:List Int) (tl:Tail) (t:Int),ah args [.list (l.map u1) tl,.U t]∧l.length≤1000000∧K (.bool (cH l t))
theorem K3:SpK 87 (.pure Ju):=by
 rintro args K ⟨l,tl,t,he,hl,hk⟩
 have he:args=_:=he
 subst he
 exact bB aj (.cons (.list _ _) (.cons (.refl _) .nil)) (bn (eC l) (.int _ _)) (.bool _) (Hz l t (fun x=>x = .bool (cH l t)) ⟨l,t,rfl,hl,by rw[Dl]⟩) hk
theorem rz (l:List Int):∀(K:PV→ae→Prop),(∀(b:Bool),(List.flatten (l.map u1)≠[]→b=false)→br b (K (.E) []) (aG [] (l.map u1) 1 4∧List.all (List.flatten (l.map u1)) PV.one=true∧(l.map u1=[]→K (.E) [])∧(l.map u1≠[]→K (.list ([]++l.map u1) (.tok 0)) [.tok])))→AcK 70 [.list (l.map u1) .no] [] K:=fun K h=>acW (T:=[]) (L:=[]) (fun o=>match o.dst with|some 7=>4|_=>0) Tryz.func70 (aW.nil _ _) (LOk.nil _ _ _ _ _) h
theorem yf (H:ae)  (K:PV→ae→Prop) (h:∀(b:Bool),(([]:List PV)≠[]→b=false)→br b (K (.E) H) (aG [] [] 1 4∧K (.list [] .no) H)):AcK 70 [.list [] .no] H K:=
 acW (T:=[]) (L:=[]) (fun _=>0) Tryz.func70 (aW.nil _ _) (LOk.nil _ _ _ _ _) h
theorem yc (H:ae) (l:List Int):∀(K:PV→ae→Prop),(∀(b:Bool),(List.flatten (l.map u1)≠[]→b=false)→br b (K (.E) H) (List.length (List.flatten (l.map u1))=List.length (l.map u1)*1∧List.length (l.map u1)*4≤140737488355328∧0<List.length (l.map u1)∧∀(c:Nat),List.length (l.map u1)≤c→K (.arr H.length 0 (List.length (l.map u1)) c) (H++[.cells (List.flatten (l.map u1)++List.flatten (List.replicate (c-List.length (l.map u1)) [.U 0]))])))→AcK 70 [.list (l.map u1) .no] H K:=fun K h=>acW (T:=[]) (L:=[]) (fun o=>match o.dst with|some 7=>2|_=>0) Tryz.func70 (aW.nil _ _) (LOk.nil _ _ _ _ _) h
theorem xV {l:List Int} (h:l≠[]):(l.map u1).flatten≠[]:=by
 cases l with
 | nil=>exact absurd rfl h
 | cons a l=>simp[u1]
def CF (args:List PV) (K:List (List PV)→Prop):Prop:=∃(l:List Int) (tl:Tail),ah args [.list (l.map u1) tl]∧l.length≤1000000∧K (l.map u1)
theorem AB:SpK 70 (.mk CF):=by
 rintro args K ⟨l,tl,he,hl,hk⟩
 have he:args=_:=he
 subst he
 refine⟨l.map u1,hk,JQ aj (.cons (.list _ _) .nil) (bu (eC l)) (by have:=Gq (n:=0) l (J:=[]) (fun _ h=>nomatch h); simpa using this) (rz l _ ?_)⟩
 intro b hb
 rw[au]
 cases b with
 | true=>
  rw[if_pos rfl]
  have hn:l=[]:=Classical.byContradiction fun h=>absurd (hb (xV h)) (by decide)
  subst hn
  exact⟨fun _=>rfl,fun h=>absurd rfl h⟩
 | false=>
  rw[if_neg (by decide)]
  refine⟨⟨(fun _ h=>nomatch h),b5 dc l,by simp; omega⟩,?_,fun h=>?_,fun h=>?_⟩
  ·exact List.all_eq_true.2 (by have:=xP l; intro y hy; obtain⟨c,h2,h3⟩:=List.mem_flatten.1 hy; obtain⟨a,_,rfl⟩:=List.mem_map.1 h2; exact dm a y h3)
  ·exact⟨fun _=>rfl,fun h2=>absurd h h2⟩
  ·exact⟨fun h2=>absurd h2 h,fun _=>⟨0,rfl,rfl⟩⟩
def Lg (args:List PV) (H:ae) (K:PV→ae→Prop):Prop:=∃(l:List Int) (tl:Tail),ah args [.list (l.map u1) tl]∧l.length≤1000000∧(l=[]→K (.list [] .no) H)∧
 (l≠[]→∀(cap:Nat),l.length≤cap→∀(J:List PV),aJ J (cap-l.length)→K (.arr H.length 0 l.length cap) (H++[.cells ((l.map u1).flatten++J)]))
theorem Aj (n:Nat):aJ (List.replicate n [PV.U 0]).flatten n:=(aJ.qy (z:=[PV.U 0]) (by intro y hy; rcases List.mem_singleton.1 hy with rfl; rfl) (bu (.int _ _)) n).cast (by simp)
theorem rp:SpK 70 (.heap Lg):=by
 rintro args H K ⟨l,tl,he,hl,h0,h1⟩
 have he:args=_:=he
 subst he
 refine bc (.cons (.list _ _) .nil) ?_
 by_cases c:l=[]
 ·subst c
  refine a9 (yf H _ ?_)
  intro b _
  rw[au]
  split
  ·exact⟨_,.list _ _,h0 rfl⟩
  ·exact⟨⟨(fun _ h=>nomatch h),(fun _ h=>nomatch h),by simp⟩,_,.refl _,h0 rfl⟩
 ·refine yc H l _ ?_
  intro b hb
  rw[au,hb (xV c),if_neg (by decide)]
  have hp:=List.length_pos_iff.2 c
  refine⟨by rw[xP,List.length_map,Nat.mul_one],by rw[List.length_map]; omega,by rw[List.length_map]; exact hp,fun cap hc=>?_⟩
  rw[List.length_map] at hc ⊢
  exact h1 c cap hc _ (Aj _)
theorem K8 (H:ae)  (K:PV→ae→Prop) (h:∀(b:Bool),(([]:List PV)≠[]→b=false)→br b (K (.E) H) (aG [] [] 6 48∧true=true∧(([]:List (List PV))=[]→K (.E) H)∧(([]:List (List PV))≠[]→K (.list [] (.tok (List.length H))) (H++[.tok])))):AcK 69 [.list [] .no] H K:=
 acW (T:=[]) (L:=[]) (fun o=>match o.dst with|some 7=>4|_=>0) Tryz.func69 (aW.nil _ _) (LOk.nil _ _ _ _ _) h
theorem K1 (H:ae) (l:List Se):∀(K:PV→ae→Prop),(∀(b:Bool),(List.flatten (l.map stc)≠[]→b=false)→br b (K (.E) H) (List.length (List.flatten (l.map stc))=List.length (l.map stc)*6∧List.length (l.map stc)*48≤140737488355328∧0<List.length (l.map stc)∧∀(c:Nat),List.length (l.map stc)≤c→K (.arr H.length 0 (List.length (l.map stc)) c) (H++[.cells (List.flatten (l.map stc)++List.flatten (List.replicate (c-List.length (l.map stc)) [.U 0,.I 0,.I 0,.I 0,.I 0,.int .u64 0]))])))→AcK 69 [.list (l.map stc) .no] H K:=fun K h=>acW (T:=[]) (L:=[]) (fun o=>match o.dst with|some 7=>2|_=>0) Tryz.func69 (aW.nil _ _) (LOk.nil _ _ _ _ _) h
def Ek (args:List PV) (H:ae) (K:PV→ae→Prop):Prop:=∃(l:List Int) (tl:Tail),ah args [.list (l.map u1) tl]∧l.length≤1000000∧
 (K (.list (l.map u1) .no) H∨(l≠[]∧∀(cap:Nat),l.length≤cap→∀(J:List PV),aJ J (cap-l.length)→K (.arr H.length 0 l.length cap) (H++[.cells ((l.map u1).flatten++J)])))
theorem KD (l:List Int):uni 1 (l.map u1):=b5 dc l
theorem He {o off:Nat} {es:List (List PV)} {H:ae} {c:Ob} (ho:o=H.length):FzH o off es (H++[c]) (H++[.dead]):=by
 subst ho
 refine⟨by simp,fun i b h=>?_⟩
 by_cases c:i<H.length
 ·rw[List.getElem?_append_left c] at h
  exact .inr (.inl ⟨by omega,by rw[List.getElem?_append_left c]; exact h⟩)
 ·have:=(List.getElem?_eq_some_iff.1 h).1
  simp at this
  rw[show i=H.length by omega,List.getElem?_append_right (Nat.le_refl _)] at h
  simp at h
  exact .inl h.symm
theorem xy:SpK 70 (.heap Ek):=by
 rintro args H K ⟨l,tl,he,hl,hk⟩
 rcases hk with hk|⟨hne,hk⟩
 ·by_cases c:l=[]
  ·subst c
   exact rp args H K ⟨[],tl,he,hl,fun _=>hk,fun h=>absurd rfl h⟩
  refine aL (ax.same (r:= .list (l.map u1) .no) (eC l).up (bW (rp args H _ ⟨l,tl,he,hl,fun e=>absurd e c,fun _ cap hc J hJ=>?_⟩))) (fun x H' e=>by obtain⟨rfl,rfl⟩:=e; exact hk)
  ·refine⟨H.length,0,1,[],J,l.map u1,.list (l.map u1) .no,H++[.dead],by simp,rfl,KD l,He rfl,?_,rfl,[.dead],rfl⟩
   have:=Fz.arr (o:=H.length) (off:=0) (es:=l.map u1) cap (by rw[List.length_map]; exact hc)
   rw[List.length_map] at this
   exact this
 ·exact rp args H K ⟨l,tl,he,hl,fun e=>absurd e hne,fun _=>hk⟩
abbrev flS (l:List Se):List PV:=(l.map stc).flatten
theorem ix (l:List Se):(flS l).length=l.length*6:=bA bP l
theorem Mc {l:List Se} (h:l≠[]):flS l≠[]:=by
 cases l with
 | nil=>exact absurd rfl h
 | cons a l=>simp[flS,stc]
def ArS (o:Nat) (l:List Se) (x:PV) (g:Ob):Prop:=(l=[]∧x = .E∧g = .dead)∨(l≠[]∧∃(cap:Nat) (J:List PV),x = .arr o 0 l.length cap∧g = .cells (flS l++J)∧l.length≤cap∧aJ J ((cap-l.length)*6))
def BQ (args:List PV) (H:ae) (K:PV→ae→Prop):Prop:=∃(l:List Se) (tl:Tail),ah args [.list (l.map stc) tl]∧l.length≤1000000∧(l=[]→K (.E) (H++[.dead]))∧(l≠[]→∀(cap:Nat) (J:List PV),l.length≤cap→aJ J ((cap-l.length)*6)→K (.arr H.length 0 l.length cap) (H++[.cells (flS l++J)]))
theorem Bg (n:Nat):aJ (List.replicate n [PV.U 0,.I 0,.I 0,.I 0,.I 0,.int .u64 0]).flatten (n*6):=by
 refine(aJ.qy (z:=[PV.U 0,.I 0,.I 0,.I 0,.I 0,.int .u64 0]) (fun y hy=>ew (⟨0,0,0,0,0,0⟩:Se) y hy) (fun y hy=>c8 (⟨0,0,0,0,0,0⟩:Se) y hy) n).cast (by simp)
theorem GP:SpK 69 (.heap BQ):=by
 rintro args H K ⟨l,tl,he,hl,hk0,hk⟩
 have he:args=_:=he
 subst he
 refine bc (.cons (.list _ _) .nil) ?_
 by_cases c:l=[]
 ·subst c
  have h0:=hk0 rfl
  refine nI (K8 H _ ?_)
  intro b _
  rw[au]
  split
  ·exact h0
  ·exact⟨⟨(fun _ h=>nomatch h),(fun _ h=>nomatch h),by simp⟩,rfl,fun _=>h0,fun h=>absurd rfl h⟩
 ·refine K1 H l _ ?_
  intro b hb
  rw[au,hb (Mc c),if_neg (by decide)]
  have hp:=List.length_pos_iff.2 c
  have e1:(List.map stc l).length=l.length:=List.length_map _
  rw[e1]
  refine⟨ix l,by omega,hp,fun cap hc=>?_⟩
  exact hk c cap _ hc (Bg _)
theorem KN (s:Se) (p:Int):∀(K:PV→ae→Prop),(K (.bool (s.pl == p)) [.cells [.U p],.cells [.U s.pl,.I s.tm,.I s.nu,.I s.st,.I s.un,.int .u64 s.no]])→AcK 96 [.agg (stc s),.ptr 0 0] [.cells [.U p]] K:=fun K h=>acW (T:=[]) (L:=[]) (fun _=>0) Tryz.func96 (aW.nil _ _) (LOk.nil _ _ _ _ _) h
def isP (p:Int) (s:Se):Bool:=s.pl == p
def ixS (l:List Se) (p:Int):Int:=if l.findIdx (isP p)<l.length then(l.findIdx (isP p):Int) else -1
def M3 (args:List PV) (H:ae) (K:PV→Prop):Prop:=∃(s:Se) (p:Int) (b:Nat),ah args [.agg (stc s),.ptr b 0]∧iz H b [.U p]∧K (.bool (isP p s))
theorem Mr:SpK 96 (.read M3):=by
 rintro args H K ⟨s,p,b,he,hc,hk⟩
 have he:args=_:=he
 subst he
 exact⟨_,Ab (pre:=[.agg (stc s)]) aj hc cN (bu (.agg _ (c8 s))) (.bool (isP p s)) (KN s p _ ⟨rfl,[_],rfl⟩),hk⟩
def TAC:Tab:=[(96,.read M3)]
theorem AH:TbK TAC:= .cons Mr (.nil _ _)
theorem mF (l:List Se) (i:Nat):InL (l.map stc) 6 (i:Int)=(i<l.length):=dZ bP (by decide) l i
theorem Li (H:ae) (l:List Se) (b i:Nat):(by refine(?_:_→_→_→Prop) (List.getD (l.map stc) (Int.toNat (i:Int)) []) (PV.I l.length) (PV.list (l.map stc) .no); exact fun a d f=>by refine(?_:_→Prop) [PV.list (l.map stc) .no,.fn 96 [.ptr b 0],.I 0,d,.I i]; exact fun c=>∀(R:Ex→List PV→ae→Prop),(br (decide ((i:Int)<(l.length:Int))) (InL (l.map stc) 6 (i:Int)∧br (true && aE [.int .u32,.int .i64,.int .i64,.int .i64,.int .i64,.int .u64] 0 a) (∃(s:Se) (p:Int) (b_1:Nat),ah [.agg [.U (cI a 0),.I (cI a 1),.I (cI a 2),.I (cI a 3),.I (cI a 4),.int .u64 (cI a 5)],.ptr b 0] [.agg [.U s.pl,.I s.tm,.I s.nu,.I s.st,.I s.un,.int .u64 s.no],.ptr b_1 0]∧iz H b_1 [.U p]∧br (isP p s) (R .ret [f,.fn 96 [.ptr b 0],.I i,d,.I i] H) (R .normal [f,.fn 96 [.ptr b 0],.I 0,d,.I (wI ((i:Int)+1))] H)) False) (R (.exit 0) c H))→Holds (wpK TAC [] (fun _=>0) (ai [1,0,1,0] (ag Tryz.f95)) [] (ak [0,1,4,7,8] c) H (fun ex e H=>R ex (List.map e [0,1,4,7,8]) H)):Prop):=fun R h=>hoE h
def I4:LSp:=fun e H Q=>∃(l:List Se) (b:Nat) (p:Int),l.length≤1000000∧ah (List.map e [0,1,4,7,8]) [.list (l.map stc) .no,.fn 96 [.ptr b 0],.I 0,.I l.length,.I 0]∧iz H b [.U p]∧
  (l.findIdx (isP p)<l.length→Q .ret (ak [0,1,4,7,8] [.list (l.map stc) .no,.fn 96 [.ptr b 0],.I (l.findIdx (isP p)),.I l.length,.I (l.findIdx (isP p))]) H)∧
  (l.findIdx (isP p)=l.length→Q (.exit 0) (ak [0,1,4,7,8] [.list (l.map stc) .no,.fn 96 [.ptr b 0],.I 0,.I l.length,.I l.length]) H)
theorem Da:∀ e H Q,I4 e H Q→AwK Tryz.f95.ntmps (.loop (ai [1,0,1,0] (ag Tryz.f95))) Q e H:=by
 rintro e H Q ⟨l,b,p,hl,he,hb,hQ1,hQ2⟩
 have hfl:l.findIdx (isP p)≤l.length:=List.findIdx_le_length
 refine aB (hn:=fun _=>0) aj AH (.nil _ _ _ _ _) (σ:=Nat) [0,1,4,7,8] (fun i=>i≤l.findIdx (isP p)) (fun i=>[.list (l.map stc) .no,.fn 96 [.ptr b 0],.I 0,.I l.length,.I i]) (fun _=>H) (fun i=>l.length-i) 0 (Nat.zero_le _) he rfl ?_
 intro i hi
 have hi':i≤l.findIdx (isP p):=hi
 refine Li H l b i _ ?_
 simp only[au,dt,an,mF]
 by_cases h:i<l.length
 ·rw[if_pos (by omega)]
  simp only[getD_map default h]
  refine⟨h,?_⟩
  rw[if_pos (by rfl)]
  obtain⟨t,htd⟩:∃ t,t=l.getD i default:=⟨_,rfl⟩
  rw[← htd]
  refine⟨t,p,b,rfl,hb,?_⟩
  by_cases k:isP p t=true
  ·have hge:l.findIdx (isP p)=i:=dY default hi' h (by rw[← htd]; exact k)
   rw[hge] at hQ1
   rw[if_pos k]
   exact hQ1 h
  ·have hlt:i<l.findIdx (isP p):=dS default hi' h (by rw[← htd]; simpa using k)
   rw[if_neg k]
   exact⟨i+1,(show l.length-(i+1)<l.length-i by omega),hlt,by rw[ar h (by omega)],[],(List.append_nil _).symm,Nat.le_refl _,.inl rfl⟩
 ·rw[if_neg (by omega)]
  have:i=l.length:=by omega
  subst this
  exact hQ2 (by omega)
theorem KP (H:ae) (l:List Se) (b:Nat):∀(K:PV→ae→Prop),(∃(l_1:List Se) (b_1:Nat) (p:Int),l_1.length≤1000000∧ah [.list (l.map stc) .no,.fn 96 [.ptr b 0],.I 0,.I (↑(List.length (l.map stc)):Int),.I 0] [.list (l_1.map stc) .no,.fn 96 [.ptr b_1 0],.I 0,.I l_1.length,.I 0]∧iz H b_1 [.U p]∧(List.findIdx (isP p) l_1<l_1.length→K (.I (↑(List.findIdx (isP p) l_1):Int)) H)∧(List.findIdx (isP p) l_1=l_1.length→K (.I (-1)) H))→AcK 95 [.list (l.map stc) .no,.fn 96 [.ptr b 0]] H K:=fun K h=>acW (T:=TAC) (L:=[([1,0,1,0],I4)]) (fun _=>0) Tryz.func95 (AH) (.cons suE Da (.nil _ _ _ _ _)) h
def Mo (args:List PV) (H:ae) (K:PV→Prop):Prop:=∃(l:List Se) (tl:Tail) (b:Nat) (p:Int),ah args [.list (l.map stc) tl,.fn 96 [.ptr b 0]]∧iz H b [.U p]∧l.length≤1000000∧K (.I (ixS l p))
theorem M7:SpK 95 (.read Mo):=by
 rintro args H K ⟨l,tl,b,p,he,hb,hl,hk⟩
 have he:args=_:=he
 subst he
 refine⟨_,bc (.cons (.list _ _) (.cons (.refl _) .nil)) (KP H l b _ ⟨l,b,p,hl,(by show _=_; simp only[List.length_map]),hb,fun h=>⟨?_,rfl⟩,fun h=>⟨?_,rfl⟩⟩),hk⟩
 ·unfold ixS; rw[if_pos h]
 ·unfold ixS; rw[if_neg (by omega)]
def TIX:Tab:=[(95,.read Mo)]
theorem Ff:TbK TIX:= .cons M7 (.nil _ _)
theorem KW (c:Mt) (p:Int):(by refine(?_:_→Prop) (PV.list (c.aa.map stc) .no); exact fun d=>by refine(?_:_→Prop) [Ob.cells [.U c.id,.I c.md,.U c.ins,.list (c.rows.map rrc) .no,d],.cells [.U p]]; exact fun a=>∀(K:PV→ae→Prop),(∃(l:List Se) (tl:Tail) (b:Nat) (p_1:Int),ah [d,.fn 96 [.ptr 1 0]] [.list (l.map stc) tl,.fn 96 [.ptr b 0]]∧iz a b [.U p_1]∧l.length≤1000000∧K (.I (ixS l p_1)) a)→AcK 63 [c.pv,.U p] [] K:Prop):=fun K h=>acW (T:=TIX) (L:=[]) (fun _=>0) Tryz.func63 (Ff) (LOk.nil _ _ _ _ _) h
theorem Ll (c:Mt) (n cap:Nat) (p:Int):(by refine(?_:_→Prop) (PV.list (c.aa.map stc) .no); exact fun e=>by refine(?_:_→Prop) [PV.U c.id,.I c.md,.U c.ins,.arr 0 0 n cap,e]; exact fun a=>by refine(?_:_→Prop) [Ob.dead,.cells a,.cells [.U p]]; exact fun d=>∀(K:PV→ae→Prop),(∃(l:List Se) (tl:Tail) (b:Nat) (p_1:Int),ah [e,.fn 96 [.ptr 2 0]] [.list (l.map stc) tl,.fn 96 [.ptr b 0]]∧iz d b [.U p_1]∧l.length≤1000000∧K (.I (ixS l p_1)) d)→AcK 63 [.agg a,.U p] [.dead] K:Prop):=fun K h=>acW (T:=TIX) (L:=[]) (fun o=>match o.dst with|some 6=>1|_=>0) Tryz.func63 (Ff) (LOk.nil _ _ _ _ _) h
def eg (c:Mt) (x y:PV):PV:= .agg [.U c.id,.I c.md,.U c.ins,x,y]
theorem Mt.low (c:Mt) {n:Nat}:Low n c.pv:=by
 refine .agg _ fun y hy=>?_
 simp only[List.mem_cons,List.not_mem_nil,or_false] at hy
 rcases hy with rfl|rfl|rfl|rfl|rfl<;>first|exact .int _ _|exact aP _|exact dz _
theorem yw (c:Mt) (p:Int) (h:c.aa.length≤1000000):jq Tryz.prog gl 63 [c.pv,.U p] (.I (ixS c.aa p)):=
 jq.alone aj (bn c.low (.int _ _)) (.int _ _) (KW c p _ ⟨c.aa,.no,1,p,rfl,rfl,h,rfl⟩)
theorem IE (c:Mt) (n cap:Nat) (p:Int) (h:c.aa.length≤1000000) {H:ae} {o:Nat} (ho:o<H.length):AcK 63 [eg c (.arr o 0 n cap) (.list (c.aa.map stc) .no),.U p] (gu H) (fun x H'=>x = .I (ixS c.aa p)∧H'=gu H):=by
 have hd:(gu H)[o]?=some .dead:=by
  simp only[gu,List.getElem?_map,List.getElem?_eq_getElem ho]; rfl
 have h1:AcK 63 [eg c (.arr 0 0 n cap) (.list (c.aa.map stc) .no),.U p] [.dead] (fun x H'=>x = .I (ixS c.aa p)∧H'=[.dead]):=
  ax.same (.int _ _) (Ll c n cap p _ ⟨c.aa,.no,2,p,rfl,rfl,h,rfl,[_,_],rfl⟩)
 have hsub:Sub (fun _=>o) [.dead] (gu H):=by
  refine⟨fun _ _=>(List.getElem?_eq_some_iff.1 hd).1,fun a b h1 h2 _=>by simp at h1 h2; omega,fun j a hj=>?_⟩
  have e1:=(List.getElem?_eq_some_iff.1 hj).1
  have:j=0:=by simpa using e1
  subst this; cases hj
  exact⟨_,hd,.dead _⟩
 refine aZ aj hsub (.cons (Ren.iM (.cons (.low (.int _ _)) (.cons (.low (.int _ _)) (.cons (.low (.int _ _)) (.cons (.arr (ρ:=fun _=>o) 0 0 n cap (by simp)) (.cons (.low (dz _)) .nil)))))) (.cons (.low (.int _ _)) .nil)) (aL h1 fun x H' e=>?_)
 obtain⟨rfl,rfl⟩:=e
 refine⟨.I (ixS c.aa p),gu H,⟨Nat.le_refl _,by simp,fun j a hj=>?_,fun _ _ _=>rfl⟩,.low (.int _ _),rfl,rfl⟩
 have e1:=(List.getElem?_eq_some_iff.1 hj).1
 have:j=0:=by simpa using e1
 subst this; cases hj
 exact⟨.dead,hd,.dead _,fun h=>h⟩
def KL (args:List PV) (H:ae) (K:PV→Prop):Prop:=∃(c:Mt) (x y:PV) (p:Int),ah args [.agg [.U c.id,.I c.md,.U c.ins,x,y],.U p]∧c.aa.length≤1000000∧
 (((∃ t,x = .list (c.rows.map rrc) t)∧(∃ t,y = .list (c.aa.map stc) t))∨((∃ t,x = .list (c.rows.map rrc) t)∧∃(o cap:Nat) (J:List PV),y = .arr o 0 c.aa.length cap∧c.aa.length≤cap∧iz H o (flS c.aa++J))∨
  ((∃ o n cap,x = .arr o 0 n cap∧o<H.length)∧∃(o cap:Nat) (J:List PV),y = .arr o 0 c.aa.length cap∧c.aa.length≤cap∧iz H o (flS c.aa++J)))∧K (.I (ixS c.aa p))
theorem gK {c:Mt} {t1 t2:Tail}:Wk (eg c (.list (c.rows.map rrc) t1) (.list (c.aa.map stc) t2)) c.pv:= .agg (.cons (.refl _) (.cons (.refl _) (.cons (.refl _) (.cons (.list _ _) (.cons (.list _ _) .nil)))))
theorem K5 {c:Mt} {t1:Tail} {y:PV}:Wk (eg c (.list (c.rows.map rrc) t1) y) (eg c (.list (c.rows.map rrc) .no) y):= .agg (.cons (.refl _) (.cons (.refl _) (.cons (.refl _) (.cons (.list _ _) (.cons (.refl _) .nil)))))
theorem Ge {n:Nat} (l:List Se):∀ x∈flS l,Low n x:=bl fun a _=>c8 a
theorem tS {H:ae} {o cap:Nat} {l:List Se} {J:List PV} (hc:l.length≤cap) (ho:iz H o (flS l++J)):Ld H (.arr o 0 l.length cap) (.list (l.map stc) .no):=by
 have:=Ld.arr (H:=H) o 0 cap 6 [] J (l.map stc) ho rfl (b5 bP l) (by rw[List.length_map]; exact hc) (Ge l)
 rw[List.length_map] at this
 exact this
theorem IY:SpK 63 (.read KL):=by
 rintro args H K ⟨c,x,y,p,he,h,hx,hk⟩
 have he:args=_:=he
 subst he
 rcases hx with⟨⟨t1,rfl⟩,t2,rfl⟩|⟨⟨t1,rfl⟩,o,cap,J,rfl,hc,ho⟩|⟨⟨o2,n,cap2,rfl,ho2⟩,o,cap,J,rfl,hc,ho⟩
 ·exact⟨_,bc (.cons gK (.cons (.refl _) .nil)) (yw c p h H),hk⟩
 ·exact⟨_,bc (.cons K5 (.cons (.refl _) .nil)) (nh aj (.int _ _) (.cons (Ld.iM (.cons (.low (.int _ _)) (.cons (.low (.int _ _)) (.cons (.low (.int _ _)) (.cons (.low (aP _)) (.cons (tS hc ho) .nil)))))) (.cons (.low (.int _ _)) .nil)) (yw c p h (gu H))),hk⟩
 ·exact⟨_,nh aj (.int _ _) (.cons (Ld.iM (.cons (.low (.int _ _)) (.cons (.low (.int _ _)) (.cons (.low (.int _ _)) (.cons (.name o2 0 n cap2 ho2) (.cons (tS hc ho) .nil)))))) (.cons (.low (.int _ _)) .nil)) (IE c n cap2 p h ho2),hk⟩
theorem nX (l:List Se) (i:Nat):InL (l.map stc) 6 (i:Int)=(i<l.length):=mF l i
abbrev flR (l:List Rr):List PV:=(l.map rrc).flatten
def rwA (o cap:Nat) (r:Rr):List PV:=[.I r.tm,.arr o 0 r.pl.length cap,.I r.rt,.I r.wd]
def rsJ (o j cap:Nat) (l:List Rr):List (List PV):=(l.map rrc).set j (rwA o cap (l.getD j default))
def zrr:List PV:=[.I 0,.E,.I 0,.I 0]
def rsI (l:List Rr) (i:Nat):List (List PV):=(l.map rrc).take i++List.replicate (l.length-i) zrr
theorem oe (l:List Rr) (i:Nat):uni 4 (rsI l i):=by
 intro e he
 rcases List.mem_append.1 he with h1|h1
 ·obtain⟨a,_,rfl⟩:=List.mem_map.1 (List.mem_of_mem_take h1); rfl
 ·rw[(List.mem_replicate.1 h1).2]; rfl
theorem kR {l:List Rr} {i:Nat} (hi:i≤l.length):(rsI l i).length=l.length:=by
 unfold rsI; rw[List.length_append,List.length_take,List.length_map,List.length_replicate]; omega
theorem lg {n:Nat} (l:List Rr) (i:Nat):∀ x∈(rsI l i).flatten,Low n x:=by
 intro x hx
 obtain⟨e,he,hx⟩:=List.mem_flatten.1 hx
 rcases List.mem_append.1 he with h1|h1
 ·obtain⟨a,_,rfl⟩:=List.mem_map.1 (List.mem_of_mem_take h1); exact bG a x hx
 ·rw[(List.mem_replicate.1 h1).2] at hx
  exact lR (.int _ _) (aH NT.exact (by simp)) (.int _ _) (.int _ _) x hx
theorem Ic {s:Nat} {E:List (List PV)} (h:uni s E) {j:Nat} {xs:List PV} (hx:xs.length=s):uni s (E.set j xs):=by
 intro e he
 rcases List.mem_or_eq_of_mem_set he with h1|rfl
 ·exact h e h1
 ·exact hx
theorem oP {l:List Rr} {i:Nat} (hi:i<l.length):(rsI l i).set i (rrc (l.getD i default))=rsI l (i+1):=by
 unfold rsI
 have h1:((l.map rrc).take i).length=i:=by rw[List.length_take,List.length_map]; omega
 rw[List.set_append_right _ _ (by omega),h1,Nat.sub_self,show l.length-i=(l.length-(i+1))+1 by omega,List.replicate_succ,List.set_cons_zero,List.take_add_one,List.getElem?_map,List.getElem?_eq_getElem hi,List.getD_eq_getElem?_getD,List.getElem?_eq_getElem hi]
 simp
theorem tR (l:List Rr):rsI l l.length=l.map rrc:=by
 unfold rsI; rw[Nat.sub_self,List.take_of_length_le (by simp)]; simp
theorem tn {l:List Rr} {i:Nat} {E:List (List PV)} (hu:uni 4 E) (hE:E.length=l.length) (h:i<l.length):0+i*4+4≤E.flatten.length:=by
 rw[eT hu,hE]; omega
theorem tv {ρ:Nat→Nat} {m:Nat}:∀ {E E':List (List PV)},E.length=E'.length→(∀(k:Nat) (e e':List PV),E[k]?=some e→E'[k]?=some e'→aU ρ m e e')→aU ρ m E.flatten E'.flatten
 | [],[],_,_=> .nil
 | e::E,e'::E',hl,h=>(h 0 e e' rfl rfl).append (tv (by simpa using hl) fun k a b h1 h2=>h (k+1) a b h1 h2)
theorem eH {ρ:Nat→Nat} {n:Nat} {g:Ob} (hg:∀ cs,g = .cells cs→∀ x∈cs,Low 0 x):dA ρ n g g:=by
 cases g with
 | cells cs=>exact .cells (aU.low (hg cs rfl))
 | tok=>exact .tok
 | dead=>exact .dead _
 | abs r=>exact .abs r
theorem sQ {ρ:Nat→Nat} {m:Nat} {E:List (List PV)} (hE:∀ x∈E.flatten,Low 0 x) (j o cap:Nat) (r:Rr) (ho:o<m):aU ρ m (E.set j (rwA o cap r)).flatten (E.set j (rwA (ρ o) cap r)).flatten:=by
 refine tv (by simp) fun k e e' h1 h2=>?_
 rw[List.getElem?_set] at h1 h2
 by_cases c:j=k
 ·rw[if_pos c] at h1 h2
  split at h1
  ·rename_i hk
   rw[if_pos hk] at h2
   cases h1; cases h2
   exact .cons (.low (.int _ _)) (.cons (.arr (ρ:=ρ) o 0 _ cap ho) (.cons (.low (.int _ _)) (.cons (.low (.int _ _)) .nil)))
  ·cases h1
 ·rw[if_neg c] at h1 h2
  rw[h1] at h2; cases h2
  exact aU.low fun x hx=>hE x (List.mem_flatten.2 ⟨e,List.mem_iff_getElem?.2 ⟨k,h1⟩,hx⟩)
theorem yy {E:List (List PV)} (hE:∀ x∈E.flatten,Low 0 x) (j o cap n:Nat) (r:Rr) (ho:o<n):∀ x∈(E.set j (rwA o cap r)).flatten,Lid n x:=by
 intro x hx
 obtain⟨e,he,hx⟩:=List.mem_flatten.1 hx
 rcases List.mem_or_eq_of_mem_set he with h1|rfl
 ·exact .low (hE x (List.mem_flatten.2 ⟨e,h1,hx⟩))
 ·simp only[rwA,List.mem_cons,List.not_mem_nil,or_false] at hx
  rcases hx with rfl|rfl|rfl|rfl<;>first|exact .low (.int _ _)|exact .arr _ _ _ _ ho
theorem dP (l:List Rr) (i:Nat):InL (l.map rrc) 4 (i:Int)=(i<l.length):=dZ fo (by decide) l i
def IN:Tab:=[(69,.heap BQ),(70,.heap Ek)]
theorem xZ:TbK IN:= .cons GP (.cons xy (.nil _ _))
theorem EQ (l:List Rr) (mc rc:List PV) (g:Ob) (i:Nat):(by refine(?_:_→_→_→_→_→_→Prop) (List.getD (l.map rrc) (Int.toNat (i:Int)) []) (Ob.cells [.U 0,.I 0,.U 0,.E,.E]) (0+Int.toNat (i:Int)*4) (PV.arr 3 0 l.length l.length) (PV.list (l.map rrc) .no) (PV.I l.length); exact fun c d j m n q=>by refine(?_:_→_→_→_→_→_→Prop) [PV.ptr 0 0,.ptr 1 0,m,n,q,.I (wI ((i:Int)+1))] [PV.ptr 0 0,.ptr 1 0,m,n,q,.I i] [Ob.cells mc,d,g,.cells rc] (PV.I (cI c 0)) (PV.I (cI c 2)) (PV.I (cI c 3)); exact fun f h k p r s=>∀(R:Ex→List PV→ae→Prop),(br (decide ((i:Int)<(l.length:Int))) (InL (l.map rrc) 4 (i:Int)∧br (true && aE [.int .i64,.list,.int .i64,.int .i64] 0 c) (∃(l_1:List Int) (tl:Tail),by refine(?_:_→Prop) [p,.list (l_1.map u1) .no,r,s]; exact fun b=>ah [.list (cL c 1) (cT c 1)] [.list (l_1.map u1) tl]∧l_1.length≤1000000∧((0≤(i:Int)∧(i:Int)<(l.length:Int))∧br (4 == 4 && List.all b PV.one && decide (0+Int.toNat (i:Int)*4+4≤rc.length) && cQ 0 3 j 4) (R .normal f [.cells mc,d,g,.cells (over rc j b),.cells b]) False∨l_1≠[]∧∀(cap:Nat),by refine(?_:_→Prop) [p,.arr 5 0 l_1.length cap,r,s]; exact fun a=>l_1.length≤cap→∀(J:List PV),aJ J (cap-l_1.length)→(0≤(i:Int)∧(i:Int)<(l.length:Int))∧br (4 == 4 && List.all a PV.one && decide (0+Int.toNat (i:Int)*4+4≤rc.length) && cQ 0 3 j 4) (R .normal f [.cells mc,d,g,.cells (over rc j a),.cells a,.cells (List.flatten (l_1.map u1)++J)]) False)) False) (R (.exit 0) h k))→Holds (wpK IN [] (fun o=>match o.dst with|some 28=>1|_=>0) (ai [1,1,1,0,1,0] (ag Tryz.f36)) [] (ak [1,2,3,15,16,17] h) k (fun ex e H=>R ex (List.map e [1,2,3,15,16,17]) H)):Prop):=fun R h=>hoE h
theorem BS (l:List Rr) (mc rc pj:List PV) (g:Ob) (i:Nat):(by refine(?_:_→_→_→_→_→_→Prop) (List.getD (l.map rrc) (Int.toNat (i:Int)) []) (Ob.cells [.U 0,.I 0,.U 0,.E,.E]) (0+Int.toNat (i:Int)*4) (PV.arr 3 0 l.length l.length) (PV.list (l.map rrc) .no) (PV.I l.length); exact fun c d j m n q=>by refine(?_:_→_→_→_→_→_→Prop) [PV.ptr 0 0,.ptr 1 0,m,n,q,.I (wI ((i:Int)+1))] [PV.ptr 0 0,.ptr 1 0,m,n,q,.I i] [Ob.cells mc,d,g,.cells rc,.cells pj] (PV.I (cI c 0)) (PV.I (cI c 2)) (PV.I (cI c 3)); exact fun f h k p r s=>∀(R:Ex→List PV→ae→Prop),(br (decide ((i:Int)<(l.length:Int))) (InL (l.map rrc) 4 (i:Int)∧br (true && aE [.int .i64,.list,.int .i64,.int .i64] 0 c) (∃(l_1:List Int) (tl:Tail),by refine(?_:_→Prop) [p,.list (l_1.map u1) .no,r,s]; exact fun b=>ah [.list (cL c 1) (cT c 1)] [.list (l_1.map u1) tl]∧l_1.length≤1000000∧((0≤(i:Int)∧(i:Int)<(l.length:Int))∧br (4 == 4 && List.all b PV.one && decide (0+Int.toNat (i:Int)*4+4≤rc.length) && cQ 0 3 j 4) (R .normal f [.cells mc,d,g,.cells (over rc j b),.cells pj,.cells b]) False∨l_1≠[]∧∀(cap:Nat),by refine(?_:_→Prop) [p,.arr 6 0 l_1.length cap,r,s]; exact fun a=>l_1.length≤cap→∀(J:List PV),aJ J (cap-l_1.length)→(0≤(i:Int)∧(i:Int)<(l.length:Int))∧br (4 == 4 && List.all a PV.one && decide (0+Int.toNat (i:Int)*4+4≤rc.length) && cQ 0 3 j 4) (R .normal f [.cells mc,d,g,.cells (over rc j a),.cells pj,.cells a,.cells (List.flatten (l_1.map u1)++J)]) False)) False) (R (.exit 0) h k))→Holds (wpK IN [] (fun o=>match o.dst with|some 28=>1|_=>0) (ai [1,1,1,0,1,0] (ag Tryz.f36)) [] (ak [1,2,3,15,16,17] h) k (fun ex e H=>R ex (List.map e [1,2,3,15,16,17]) H)):Prop):=fun R h=>hoE h
def HpO (mc:List PV) (g:Ob) (l:List Rr) (j:Nat) (s:Nat×Nat×List PV):ae:=if s.1≤j then [.cells mc,.cells [.U 0,.I 0,.U 0,.E,.E],g,.cells (rsI l s.1).flatten] else [.cells mc,.cells [.U 0,.I 0,.U 0,.E,.E],g,.cells ((rsI l s.1).set j (rwA 4 s.2.1 (l.getD j default))).flatten,.cells s.2.2]
def RwJ (r:Rr) (cap:Nat) (pj:List PV):Prop:=r.pl.length≤cap∧∃ J:List PV,pj=(r.pl.map u1).flatten++J∧aJ J (cap-r.pl.length)
def IU:LSp:=fun e H Q=>∃(l:List Rr) (id md ins:Int) (y:PV) (g:Ob) (j:Nat),l.length≤1000000∧(∀ r∈l,r.pl.length≤1000000)∧(j<l.length→(l.getD j default).pl≠[])∧j≤l.length∧Lid 4 y∧(∀ cs,g = .cells cs→∀ x∈cs,Low 0 x)∧
 ah (List.map e [1,2,3,15,16,17]) [.ptr 0 0,.ptr 1 0,.arr 3 0 l.length l.length,.list (l.map rrc) .no,.I l.length,.I 0]∧av H [.cells [.U id,.I md,.U ins,.list (l.map rrc) .no,y],.cells [.U 0,.I 0,.U 0,.E,.E],g,.cells (List.replicate l.length zrr).flatten]∧
 (j=l.length→Q (.exit 0) (ak [1,2,3,15,16,17] [.ptr 0 0,.ptr 1 0,.arr 3 0 l.length l.length,.list (l.map rrc) .no,.I l.length,.I l.length]) [.cells [.U id,.I md,.U ins,.list (l.map rrc) .no,y],.cells [.U 0,.I 0,.U 0,.E,.E],g,.cells (flR l)])∧
 (j<l.length→∀(cap:Nat) (pj:List PV),RwJ (l.getD j default) cap pj→Q (.exit 0) (ak [1,2,3,15,16,17] [.ptr 0 0,.ptr 1 0,.arr 3 0 l.length l.length,.list (l.map rrc) .no,.I l.length,.I l.length]) [.cells [.U id,.I md,.U ins,.list (l.map rrc) .no,y],.cells [.U 0,.I 0,.U 0,.E,.E],g,.cells (rsJ 4 j cap l).flatten,.cells pj])
theorem rq:∀ x∈([.U 0,.I 0,.U 0,.E,.E]:List PV),Low 0 x:=by
 intro y hy
 simp only[List.mem_cons,List.not_mem_nil,or_false] at hy
 rcases hy with rfl|rfl|rfl|rfl|rfl<;>first|exact .int _ _|exact aH NT.exact (by simp)
theorem RwJ.low {r:Rr} {cap:Nat} {pj:List PV} (h:RwJ r cap pj):∀ x∈pj,Low 0 x:=by
 obtain⟨_,J,rfl,hJ⟩:=h
 exact fz (fun a _=>bL a) hJ.low
theorem Cq:∀ e H Q,IU e H Q→AwK Tryz.f36.ntmps (.loop (ai [1,1,1,0,1,0] (ag Tryz.f36))) Q e H:=by
 rintro e H Q ⟨l,id,md,ins,y,g,j,hl,hpl,hne,hj,hy,hg,he,hH,hQ1,hQ2⟩
 obtain⟨mc,hmcd⟩:∃ mc:List PV,mc=[.U id,.I md,.U ins,.list (l.map rrc) .no,y]:=⟨_,rfl⟩
 have hmc:∀ x∈mc,Lid 4 x:=by
  intro x hx
  rw[hmcd] at hx
  simp only[List.mem_cons,List.not_mem_nil,or_false] at hx
  rcases hx with rfl|rfl|rfl|rfl|rfl<;>first|exact hy|exact .low (.int _ _)|exact .low (aP _)
 rw[← hmcd] at hH hQ1 hQ2
 have he:List.map e [1,2,3,15,16,17]=_:=he
 have hH:H=_:=hH
 have lidv:∀(N i:Nat),4≤N→∀ v∈([.ptr 0 0,.ptr 1 0,.arr 3 0 l.length l.length,.list (l.map rrc) .no,.I l.length,.I i]:List PV),Lid N v:=by
  intro N i hN v hv
  simp only[List.mem_cons,List.not_mem_nil,or_false] at hv
  rcases hv with rfl|rfl|rfl|rfl|rfl|rfl
  ·exact .ptr _ _ (by omega)
  ·exact .ptr _ _ (by omega)
  ·exact .arr _ _ _ _ (by omega)
  ·exact .low (aP _)
  ·exact .low (.int _ _)
  ·exact .low (.int _ _)
 have lid4:∀(E:List PV),(∀ x∈E,Low 0 x)→gD 4 [.cells mc,.cells [.U 0,.I 0,.U 0,.E,.E],g,.cells E]:=by
  intro E hE o cs ho
  have k1:=(List.getElem?_eq_some_iff.1 ho).1
  simp at k1
  have:o=0∨o=1∨o=2∨o=3:=by omega
  rcases this with rfl|rfl|rfl|rfl
  ·cases ho; exact hmc
  ·cases ho; exact fun x hx=> .low (rq x hx)
  ·exact fun x hx=> .low (hg cs (by simpa using ho) x hx)
  ·cases ho; exact fun x hx=> .low (hE x hx)
 have lid5:∀(E pj:List PV),(∀ x∈E,Lid 5 x)→(∀ x∈pj,Low 0 x)→gD 5 [.cells mc,.cells [.U 0,.I 0,.U 0,.E,.E],g,.cells E,.cells pj]:=by
  intro E pj hE hp o cs ho
  have k1:=(List.getElem?_eq_some_iff.1 ho).1
  simp at k1
  have:o=0∨o=1∨o=2∨o=3∨o=4:=by omega
  rcases this with rfl|rfl|rfl|rfl|rfl
  ·cases ho; exact fun x hx=>(hmc x hx).up (by decide)
  ·cases ho; exact fun x hx=> .low (rq x hx)
  ·exact fun x hx=> .low (hg cs (by simpa using ho) x hx)
  ·cases ho; exact hE
  ·cases ho; exact fun x hx=> .low (hp x hx)
 have h00:(List.replicate l.length zrr).flatten=(rsI l 0).flatten:=by unfold rsI; simp
 refine fB (hn:=fun o=>match o.dst with|some 28=>1|_=>0) aj xZ (.nil _ _ _ _ _) (σ:=Nat×Nat×List PV) [1,2,3,15,16,17] (fun s=>s.1≤l.length∧(j<s.1→RwJ (l.getD j default) s.2.1 s.2.2))
  (fun s=>[.ptr 0 0,.ptr 1 0,.arr 3 0 l.length l.length,.list (l.map rrc) .no,.I l.length,.I s.1]) (HpO mc g l j) (fun s=>l.length-s.1) (0,0,[]) ⟨Nat.zero_le _,fun h=>absurd h (Nat.not_lt_zero _)⟩ he (by rw[hH,h00]; unfold HpO; rw[if_pos (Nat.zero_le _)]) ?_
 have hHl:H.length=4:=by rw[hH]; rfl
 rw[hHl]
 rintro⟨i,cap,pj⟩ ⟨hi,hc⟩
 have hi:i≤l.length:=hi
 have hc:j<i→RwJ (l.getD j default) cap pj:=hc
 by_cases h:i<l.length
 ·obtain⟨r,hr⟩:∃ r,r=l.getD i default:=⟨_,rfl⟩
  have c0:cI (rrc r) 0=r.tm:=rfl
  have c1:cL (rrc r) 1=r.pl.map u1:=rfl
  have c1':cT (rrc r) 1 = .no:=rfl
  have c2:cI (rrc r) 2=r.rt:=rfl
  have c3:cI (rrc r) 3=r.wd:=rfl
  have hrl:r.pl.length≤1000000:=hpl r (by rw[hr]; exact aX h)
  have hru:rrc r=[.I r.tm,.list (r.pl.map u1) .no,.I r.rt,.I r.wd]:=rfl
  by_cases hij:i≤j
  ·unfold HpO
   rw[if_pos hij]
   refine EQ l mc (rsI l i).flatten g i _ ?_
   simp only[au,dt,an,dP]
   rw[if_pos (by omega)]
   simp only[getD_map default h,← hr,c0,c1,c1',c2,c3]
   refine⟨h,?_⟩
   rw[if_pos (by rfl)]
   have hsz:decide (0+i*4+4≤(rsI l i).flatten.length)=true:=decide_eq_true (tn (oe l i) (kR hi) h)
   have hset:over (rsI l i).flatten (0+i*4) (rrc r)=(rsI l (i+1)).flatten:=by
    rw[← oP h,← hr,Nat.zero_add]; exact(gp (oe l i) (by rw[kR hi]; exact h) rfl).symm
   refine⟨r.pl,.no,rfl,hrl,?_⟩
   by_cases hjj:i=j
   ·subst hjj
    refine .inr ⟨by rw[hr]; exact hne h,fun cap' hcap J hJ=>⟨⟨by omega,by omega⟩,?_⟩⟩
    rw[if_pos (by rw[hsz]; rfl)]
    have hseto:∀ o,over (rsI l i).flatten (0+i*4) [.I r.tm,.arr o 0 r.pl.length cap',.I r.rt,.I r.wd]=((rsI l (i+1)).set i (rwA o cap' r)).flatten:=by
     intro o
     rw[← oP h,List.set_set,Nat.zero_add]; exact(gp (oe l i) (by rw[kR hi]; exact h) rfl).symm
    rw[hseto]
    refine⟨(i+1,cap',(r.pl.map u1).flatten++J),(show l.length-(i+1)<l.length-i by omega),⟨h,fun _=>by rw[← hr]; exact⟨hcap,J,rfl,hJ⟩⟩,?_⟩
    show ef 4 _ _ _ (HpO mc g l i (i+1,cap',_))
    unfold HpO
    rw[if_neg (by show ¬ i+1≤i; omega),← hr]
    have hρ:∀ o,o<4→[0,1,2,3,5].getD o 0=o:=by
     intro o ho
     have:o=0∨o=1∨o=2∨o=3:=by omega
     rcases this with rfl|rfl|rfl|rfl<;>rfl
    refine aR [0,1,2,3,5] (WkL.refl _) (.cons rfl (.cells (mP hρ (by simp) hmc)) (.cons rfl (.cells (aU.low rq)) (.cons rfl ?_ (.cons rfl (.cells ?_) (.cons rfl (.cells (aU.low (fz (fun a _=>bL a) hJ.low))) .nil))))) (by decide) (by simp) hρ ?_
    ·exact eH hg
    ·exact sQ (ρ:=fun o=>[0,1,2,3,5].getD o 0) (lg l (i+1)) i 4 cap' r (by simp)
    ·rw[ar h (by omega)]
     exact mP hρ (by simp) (lidv 4 (i+1) (Nat.le_refl _))
   ·refine .inl ⟨⟨by omega,by omega⟩,?_⟩
    rw[if_pos (by rw[hsz]; rfl),← hru,hset]
    refine⟨(i+1,cap,pj),(show l.length-(i+1)<l.length-i by omega),⟨h,fun k=>absurd (show j<i+1 from k) (by omega)⟩,?_⟩
    show ef 4 _ _ _ (HpO mc g l j (i+1,cap,pj))
    unfold HpO
    rw[if_pos (by show i+1≤j; omega),ar h (by omega)]
    exact eF (G:=[_]) (lid4 _ (lg l (i+1))) (lidv 4 (i+1) (Nat.le_refl _)) (Nat.le_refl _)
  ·have hp:=hc (by omega)
   unfold HpO
   rw[if_neg hij]
   have hu2:uni 4 ((rsI l i).set j (rwA 4 cap (l.getD j default))):=Ic (oe l i) rfl
   refine BS l mc _ pj g i _ ?_
   simp only[au,dt,an,dP]
   rw[if_pos (by omega)]
   simp only[getD_map default h,← hr,c0,c1,c1',c2,c3]
   refine⟨h,?_⟩
   rw[if_pos (by rfl)]
   have hsz:decide (0+i*4+4≤((rsI l i).set j (rwA 4 cap (l.getD j default))).flatten.length)=true:=decide_eq_true (tn hu2 (by rw[List.length_set,kR hi]) h)
   have hset:over ((rsI l i).set j (rwA 4 cap (l.getD j default))).flatten (0+i*4) (rrc r)=((rsI l (i+1)).set j (rwA 4 cap (l.getD j default))).flatten:=by
    rw[← oP h,← hr,Nat.zero_add,← gp hu2 (by rw[List.length_set,kR hi]; exact h) rfl,List.set_comm _ _ (by omega)]
   refine⟨r.pl,.no,rfl,hrl,.inl ⟨⟨by omega,by omega⟩,?_⟩⟩
   rw[if_pos (by rw[hsz]; rfl),← hru,hset]
   refine⟨(i+1,cap,pj),(show l.length-(i+1)<l.length-i by omega),⟨h,fun _=>hp⟩,?_⟩
   show ef 4 _ _ _ (HpO mc g l j (i+1,cap,pj))
   unfold HpO
   rw[if_neg (by show ¬ i+1≤j; omega),ar h (by omega)]
   exact eF (G:=[_]) (lid5 _ _ (yy (lg l (i+1)) _ _ _ _ _ (by decide)) hp.low) (lidv 5 (i+1) (by decide)) (by simp)
 ·have:i=l.length:=by omega
  subst this
  by_cases hij:l.length≤j
  ·have hj2:j=l.length:=by omega
   unfold HpO
   rw[if_pos hij]
   refine EQ l mc (rsI l l.length).flatten g l.length _ ?_
   simp only[au,dt]
   rw[if_neg (by omega)]
   refine⟨_,_,eF (G:=[]) (lid4 _ (lg l l.length)) (lidv 4 l.length (Nat.le_refl _)) (Nat.le_refl _),?_⟩
   rw[tR]; exact hQ1 hj2
  ·have hp:=hc (by omega)
   unfold HpO
   rw[if_neg hij]
   refine BS l mc _ pj g l.length _ ?_
   simp only[au,dt]
   rw[if_neg (by omega)]
   refine⟨_,_,eF (G:=[]) (lid5 _ _ (yy (lg l l.length) _ _ _ _ _ (by decide)) hp.low) (lidv 5 l.length (by decide)) (by simp),?_⟩
   rw[tR]; exact hQ2 (by omega) cap pj hp
theorem HC (c:Mt):(by refine(?_:_→_→_→_→Prop) (↑(List.length (c.rows.map rrc)):Int) (Ob.cells [.U 0,.I 0,.U 0,.E,.E]) [PV.I 0,.E,.I 0,.I 0] (PV.list (c.rows.map rrc) .no); exact fun m n o s=>by refine(?_:_→_→Prop) [PV.ptr 0 0,.ptr 1 0,.arr 3 0 (Int.toNat m) (Int.toNat m),s,.I m,.I 0] (Ob.cells (List.flatten (List.replicate (Int.toNat m) o))); exact fun p q=>∀(K:PV→ae→Prop),(∃(l:List Se) (tl:Tail),ah [.list (c.aa.map stc) .no] [.list (l.map stc) tl]∧l.length≤1000000∧(l=[]→0≤m∧m≤m∧m≤140737488355328∧m*48≤140737488355328∧∃(l:List Rr) (id:Int) (md:Int) (ins:Int) (y:PV) (g:Ob) (j:Nat),by refine(?_:_→_→_→Prop) (PV.arr 3 0 l.length l.length) (List.getD l j default) (PV.list (l.map rrc) .no); exact fun h i k=>by refine(?_:_→Prop) [PV.U id,.I md,.U ins,h,y]; exact fun f=>l.length≤1000000∧(∀(r:Rr),r∈l→r.pl.length≤1000000)∧(j<l.length→Rr.pl i≠[])∧j≤l.length∧Lid 4 y∧(∀(cs:List PV),g = .cells cs→∀(x:PV),x∈cs→Low 0 x)∧ah p [.ptr 0 0,.ptr 1 0,h,k,.I l.length,.I 0]∧av [.cells [.U c.id,.I c.md,.U c.ins,s,.E],n,.dead,q] [.cells [.U id,.I md,.U ins,k,y],n,g,.cells (List.flatten (List.replicate l.length o))]∧(j=l.length→br (5 == 5 && List.all f PV.one && true && true) (K (.agg f) [.cells f,.cells f,g,.cells (flR l)]) False)∧(j<l.length→∀(cap:Nat),∀(pj:List PV),RwJ i cap pj→br (5 == 5 && List.all f PV.one && true && true) (K (.agg f) [.cells f,.cells f,g,.cells (List.flatten (rsJ 4 j cap l)),.cells pj]) False))∧(l≠[]→∀(cap:Nat),∀(J:List PV),l.length≤cap→aJ J ((cap-l.length)*6)→0≤m∧m≤m∧m≤140737488355328∧m*48≤140737488355328∧∃(l_1:List Rr) (id:Int) (md:Int) (ins:Int) (y:PV) (g:Ob) (j:Nat),by refine(?_:_→_→_→Prop) (PV.arr 3 0 l_1.length l_1.length) (List.getD l_1 j default) (PV.list (l_1.map rrc) .no); exact fun b d e=>by refine(?_:_→Prop) [PV.U id,.I md,.U ins,b,y]; exact fun a=>l_1.length≤1000000∧(∀(r:Rr),r∈l_1→r.pl.length≤1000000)∧(j<l_1.length→Rr.pl d≠[])∧j≤l_1.length∧Lid 4 y∧(∀(cs:List PV),g = .cells cs→∀(x:PV),x∈cs→Low 0 x)∧ah p [.ptr 0 0,.ptr 1 0,b,e,.I l_1.length,.I 0]∧av [.cells [.U c.id,.I c.md,.U c.ins,s,.arr 2 0 l.length cap],n,.cells (flS l++J),q] [.cells [.U id,.I md,.U ins,e,y],n,g,.cells (List.flatten (List.replicate l_1.length o))]∧(j=l_1.length→br (5 == 5 && List.all a PV.one && true && true) (K (.agg a) [.cells a,.cells a,g,.cells (flR l_1)]) False)∧(j<l_1.length→∀(cap:Nat),∀(pj:List PV),RwJ d cap pj→br (5 == 5 && List.all a PV.one && true && true) (K (.agg a) [.cells a,.cells a,g,.cells (List.flatten (rsJ 4 j cap l_1)),.cells pj]) False)))→AcK 36 [c.pv] [] K:Prop):=fun K h=>acW (T:=IN) (L:=[([1,1,1,0,1,0],IU)]) (fun o=>match o.dst with|some 33=>1|_=>0) Tryz.func36 (xZ) (.cons suE Cq (.nil _ _ _ _ _)) h
theorem mK {α:Type} {f:α→List PV} {n:Nat} (hf:∀ a,∀ x∈f a,Low n x) (l:List α):Low n (.list (l.map f) .exact):=aH NT.exact (bl fun a _=>hf a)
theorem gQ {n:Nat} {a b c d e:PV} (ha:Low n a) (hb:Low n b) (hc:Low n c) (hd:Low n d) (he:Low n e):∀ x∈[a,b,c,d,e],Low n x:=by
 intro x hx
 simp only[List.mem_cons,List.not_mem_nil,or_false] at hx
 rcases hx with rfl|rfl|rfl|rfl|rfl<;>assumption
structure Mt.Sm (c:Mt):Prop where
 rows:c.rows.length≤1000000
 aa:c.aa.length≤1000000
 pl:∀ r∈c.rows,r.pl.length≤1000000
theorem ArS.lid {o n:Nat} {l:List Se} {y:PV} {g:Ob} (h:ArS o l y g) (ho:o<n):Lid n y:=by
 rcases h with⟨_,rfl,_⟩|⟨_,cap,J,rfl,_⟩
 ·exact .low (aH NT.exact (by simp))
 ·exact .arr _ _ _ _ ho
theorem ArS.mQ {o:Nat} {l:List Se} {y:PV} {g:Ob} (h:ArS o l y g):∀ cs,g = .cells cs→∀ x∈cs,Low 0 x:=by
 intro cs e
 rcases h with⟨_,_,rfl⟩|⟨_,cap,J,_,rfl,_,hJ⟩
 ·cases e
 ·cases e; exact fz (fun a _=>c8 a) hJ.low
theorem ArS.one {o:Nat} {l:List Se} {y:PV} {g:Ob} (h:ArS o l y g):y.one=true:=by
 rcases h with⟨_,rfl,_⟩|⟨_,cap,J,rfl,_⟩<;>rfl
theorem ArS.ren {o:Nat} {l:List Se} {y:PV} {g:Ob} (h:ArS o l y g) (o':Nat) {ρ:Nat→Nat} {n:Nat} (ho:o'<n) (hρ:ρ o'=o):∃ y',ArS o' l y' g∧Ren ρ n y' y:=by
 rcases h with⟨h1,rfl,rfl⟩|⟨h1,cap,J,rfl,rfl,h2,h3⟩
 ·exact⟨_,.inl ⟨h1,rfl,rfl⟩,.low (aH NT.exact (by simp))⟩
 ·refine⟨_,.inr ⟨h1,cap,J,rfl,rfl,h2,h3⟩,?_⟩
  have:=Ren.arr (ρ:=ρ) (n:=n) o' 0 l.length cap ho
  rwa [hρ] at this
theorem ArS.to {o:Nat} {l:List Se} {y:PV} {g:Ob} (h:ArS o l y g) (o':Nat) {ρ:Nat→Nat} {n:Nat} (ho:o<n) (hρ:ρ o=o'):∃ y',ArS o' l y' g∧Ren ρ n y y':=by
 rcases h with⟨h1,rfl,rfl⟩|⟨h1,cap,J,rfl,rfl,h2,h3⟩
 ·exact⟨_,.inl ⟨h1,rfl,rfl⟩,.low (aH NT.exact (by simp))⟩
 ·refine⟨_,.inr ⟨h1,cap,J,rfl,rfl,h2,h3⟩,?_⟩
  have:=Ren.arr (ρ:=ρ) (n:=n) o 0 l.length cap ho
  rwa [hρ] at this
theorem sv (c:Mt) (h:c.Sm) (j:Nat) (hj:j≤c.rows.length) (hne:j<c.rows.length→(c.rows.getD j default).pl≠[]) (K:PV→ae→Prop)
  (h1:j=c.rows.length→∀(y:PV) (g:Ob),ArS 2 c.aa y g→K (eg c (.arr 3 0 c.rows.length c.rows.length) y) [.cells [.U c.id,.I c.md,.U c.ins,.arr 3 0 c.rows.length c.rows.length,y],.cells [.U c.id,.I c.md,.U c.ins,.arr 3 0 c.rows.length c.rows.length,y],g,.cells (flR c.rows)])
  (h2:j<c.rows.length→∀(y:PV) (g:Ob) (cap:Nat) (pj:List PV),ArS 2 c.aa y g→RwJ (c.rows.getD j default) cap pj→K (eg c (.arr 3 0 c.rows.length c.rows.length) y) [.cells [.U c.id,.I c.md,.U c.ins,.arr 3 0 c.rows.length c.rows.length,y],.cells [.U c.id,.I c.md,.U c.ins,.arr 3 0 c.rows.length c.rows.length,y],g,.cells (rsJ 4 j cap c.rows).flatten,.cells pj]):
  AcK 36 [c.pv] [] K:=by
 have e1:(List.map rrc c.rows).length=c.rows.length:=List.length_map _
 have hr:=h.rows
 refine HC c K ⟨c.aa,.no,rfl,h.aa,fun e=>?_,fun hn cap J hc hJ=>?_⟩
 ·have hA:ArS 2 c.aa (.E) .dead:= .inl ⟨e,rfl,rfl⟩
  simp only[e1,au,an]
  refine⟨by omega,by omega,by omega,by omega,c.rows,c.id,c.md,c.ins,.E,.dead,j,h.rows,h.pl,hne,hj,hA.lid (by decide),hA.mQ,rfl,rfl,fun k=>?_,fun k cap pj hp=>?_⟩
  ·rw[if_pos (by rfl)]; exact h1 k _ _ hA
  ·rw[if_pos (by rfl)]; exact h2 k _ _ cap pj hA hp
 ·have hA:ArS 2 c.aa (.arr 2 0 c.aa.length cap) (.cells (flS c.aa++J)):= .inr ⟨hn,cap,J,rfl,rfl,hc,hJ⟩
  simp only[e1,au,an]
  refine⟨by omega,by omega,by omega,by omega,c.rows,c.id,c.md,c.ins,.arr 2 0 c.aa.length cap,.cells (flS c.aa++J),j,h.rows,h.pl,hne,hj,hA.lid (by decide),hA.mQ,rfl,rfl,fun k=>?_,fun k cap pj hp=>?_⟩
  ·rw[if_pos (by rfl)]; exact h1 k _ _ hA
  ·rw[if_pos (by rfl)]; exact h2 k _ _ cap pj hA hp
theorem yh (c:Mt) (h:c.Sm):AcK 36 [c.pv] [] (fun x H'=>∃(y:PV) (g:Ob),ArS 2 c.aa y g∧x=eg c (.list (c.rows.map rrc) .exact) y∧H'=[.dead,.dead,g,.dead]):=by
 refine bW (sv c h c.rows.length (Nat.le_refl _) (fun k=>absurd k (Nat.lt_irrefl _)) _ (fun _ y g hA=>?_) (fun k=>absurd k (Nat.lt_irrefl _)))
 refine⟨3,0,4,[],[],c.rows.map rrc,eg c (.list (c.rows.map rrc) .exact) y,[.dead,.dead,g,.dead],by simp,rfl,b5 fo _,⟨rfl,fun i b hb=>?_⟩,?_,y,g,hA,rfl,rfl⟩
 ·have k1:=(List.getElem?_eq_some_iff.1 hb).1
  simp at k1
  have:i=0∨i=1∨i=2∨i=3:=by omega
  rcases this with rfl|rfl|rfl|rfl
  ·cases hb; exact .inl rfl
  ·cases hb; exact .inl rfl
  ·exact .inr (.inl ⟨by decide,hb⟩)
  ·cases hb; exact .inl rfl
 ·have:=Fz.exact (o:=3) (off:=0) (es:=c.rows.map rrc)
  rw[List.length_map] at this
  exact Fz.iM (.cons (.refl _) (.cons (.refl _) (.cons (.refl _) (.cons this (.cons (.refl _) .nil)))))
theorem Ja (c:Mt) (h:c.Sm):AcK 36 [c.pv] [] (fun x _=>x=c.pv):=by
 by_cases e:c.aa=[]
 ·refine a9 (aL (yh c h) fun x H' hh=>?_)
  obtain⟨y,g,hA,rfl,rfl⟩:=hh
  rcases hA with⟨_,rfl,rfl⟩|⟨hn,_⟩
  ·refine⟨c.pv,?_,rfl⟩
   have:=gK (c:=c) (t1:= .exact) (t2:= .exact)
   rw[e] at this
   exact this
  ·exact absurd e hn
 ·refine a9 (bW (aL (yh c h) fun x H' hh=>?_))
  obtain⟨y,g,hA,rfl,rfl⟩:=hh
  rcases hA with⟨h0,_⟩|⟨_,cap,J,rfl,rfl,hc,hJ⟩
  ·exact absurd h0 e
  ·refine⟨2,0,6,[],J,c.aa.map stc,eg c (.list (c.rows.map rrc) .exact) (.list (c.aa.map stc) .no),[.dead,.dead,.dead,.dead],rfl,rfl,b5 bP _,⟨rfl,fun i b hb=>?_⟩,?_,c.pv,gK,rfl⟩
   ·have k1:=(List.getElem?_eq_some_iff.1 hb).1
    simp at k1
    have:i=0∨i=1∨i=2∨i=3:=by omega
    rcases this with rfl|rfl|rfl|rfl<;>(cases hb; exact .inl rfl)
   ·have:=Fz.arr (o:=2) (off:=0) (es:=c.aa.map stc) cap (by rw[List.length_map]; exact hc)
    rw[List.length_map] at this
    exact Fz.iM (.cons (.refl _) (.cons (.refl _) (.cons (.refl _) (.cons (.refl _) (.cons this .nil)))))
theorem Ms (c:Mt) (k k' len cap:Nat):RA k k' (eg c (.list (c.rows.map rrc) .exact) (.arr k 0 len cap)) (eg c (.list (c.rows.map rrc) .exact) (.arr k' 0 len cap)):=
 RA.iM (.cons (.low (.int _ _)) (.cons (.low (.int _ _)) (.cons (.low (.int _ _)) (.cons (.low (mK bG _)) (.cons (.arr _ _ _) .nil)))))
def OwJ (c:Mt) (o j:Nat) (x:PV) (X:ae):Prop:=∃(y:PV) (g:Ob) (cap:Nat) (pj:List PV),ArS o c.aa y g∧RwJ (c.rows.getD j default) cap pj∧x=eg c (.arr (o+1) 0 c.rows.length c.rows.length) y∧X=[g,.cells (rsJ (o+2) j cap c.rows).flatten,.cells pj]
theorem ML (c:Mt) (h:c.Sm) (j:Nat) (hj:j<c.rows.length) (hne:(c.rows.getD j default).pl≠[]) (H:ae):AcK 36 [c.pv] H (fun x H'=>∃ X,OwJ c H.length j x X∧H'=H++X):=by
 refine aZ aj (X:=[]) (ρ:=fun o=>o) ⟨by simp,by simp,by simp⟩ (aU.low (bu c.low)) (cg aj (sv c h j (by omega) (fun _=>hne) _ (fun k=>by omega) (fun _ y g cap pj hA hp=>?_)))
 obtain⟨y1,hA1,hr1⟩:=hA.ren 0 (ρ:=fun o=>o+2) (n:=3) (by decide) rfl
 obtain⟨y2,hA2,hr2⟩:=hA1.to H.length (ρ:=aM (fun o=>o) ([]:ae).length H.length) (n:=3) (by decide) (by simp[aM])
 have hlow:∀ x∈(List.map rrc c.rows).flatten,Low 0 x:=bl fun a _=>bG a
 have e1:aM (fun o=>o) ([]:ae).length H.length 1=H.length+1:=by simp[aM]
 have e2:aM (fun o=>o) ([]:ae).length H.length 2=H.length+2:=by simp[aM]
 refine⟨eg c (.arr 1 0 c.rows.length c.rows.length) y1,[g,.cells (rsJ 2 j cap c.rows).flatten,.cells pj],fun o=>o+2,⟨fun o ho=>by simp at ho ⊢; omega,fun a b _ _ e=>by have e:a+2=b+2:=e; omega,fun o a ho=>?_⟩,by simp,fun o ho=>by simp at ho,?_,
  eg c (.arr (H.length+1) 0 c.rows.length c.rows.length) y2,H++[g,.cells (rsJ (H.length+2) j cap c.rows).flatten,.cells pj],⟨by simp,by simp,fun o a ho=>?_,fun o hl _=>by rw[List.getElem?_append_left hl]⟩,?_,_,⟨y2,g,cap,pj,hA2,hp,rfl,rfl⟩,rfl⟩
 ·have k1:=(List.getElem?_eq_some_iff.1 ho).1
  simp at k1
  have:o=0∨o=1∨o=2:=by omega
  rcases this with rfl|rfl|rfl
  ·cases ho; exact⟨g,rfl,eH hA.mQ⟩
  ·cases ho; exact⟨_,rfl,.cells (sQ (ρ:=fun o=>o+2) hlow j 2 cap _ (by simp))⟩
  ·cases ho; exact⟨_,rfl,.cells (aU.low hp.low)⟩
 ·exact Ren.iM (.cons (.low (.int _ _)) (.cons (.low (.int _ _)) (.cons (.low (.int _ _)) (.cons (.arr (ρ:=fun o=>o+2) 1 0 _ _ (by simp)) (.cons hr1 .nil)))))
 ·have k1:=(List.getElem?_eq_some_iff.1 ho).1
  simp at k1
  have:o=0∨o=1∨o=2:=by omega
  rcases this with rfl|rfl|rfl
  ·cases ho; exact⟨g,by simp[aM],eH hA.mQ,fun h=>h⟩
  ·cases ho
   refine⟨.cells (rsJ (H.length+2) j cap c.rows).flatten,by simp[aM],.cells ?_,fun h=>h⟩
   have:=sQ (ρ:=aM (fun o=>o) ([]:ae).length H.length) (m:=3) hlow j 2 cap (c.rows.getD j default) (by simp)
   rw[e2] at this
   exact this
  ·cases ho; exact⟨.cells pj,by simp[aM],.cells (aU.low hp.low),fun h=>h⟩
 ·have:=Ren.arr (ρ:=aM (fun o=>o) ([]:ae).length H.length) (n:=3) 1 0 c.rows.length c.rows.length (by simp)
  rw[e1] at this
  exact Ren.iM (.cons (.low (.int _ _)) (.cons (.low (.int _ _)) (.cons (.low (.int _ _)) (.cons this (.cons hr2 .nil)))))
theorem Mv (c:Mt) (h:c.Sm) (H:ae):AcK 36 [c.pv] H (fun x H'=>∃(y:PV) (g:Ob),ArS H.length c.aa y g∧x=eg c (.arr (H.length+1) 0 c.rows.length c.rows.length) y∧H'=H++[g,.cells (flR c.rows)]):=by
 refine aZ aj (X:=[]) (ρ:=fun o=>o) ⟨by simp,by simp,by simp⟩ (aU.low (bu c.low)) (cg aj (sv c h c.rows.length (Nat.le_refl _) (fun k=>absurd k (Nat.lt_irrefl _)) _ (fun _ y g hA=>?_) (fun k=>absurd k (Nat.lt_irrefl _))))
 obtain⟨y1,hA1,hr1⟩:=hA.ren 0 (ρ:=fun o=>o+2) (n:=2) (by decide) rfl
 obtain⟨y2,hA2,hr2⟩:=hA1.to H.length (ρ:=aM (fun o=>o) ([]:ae).length H.length) (n:=2) (by decide) (by simp[aM])
 have hlow:∀ x∈flR c.rows,Low 0 x:=bl fun a _=>bG a
 have e1:aM (fun o=>o) ([]:ae).length H.length 1=H.length+1:=by simp[aM]
 refine⟨eg c (.arr 1 0 c.rows.length c.rows.length) y1,[g,.cells (flR c.rows)],fun o=>o+2,⟨fun o ho=>by simp at ho ⊢; omega,fun a b _ _ e=>by have e:a+2=b+2:=e; omega,fun o a ho=>?_⟩,by simp,fun o ho=>by simp at ho,?_,
  eg c (.arr (H.length+1) 0 c.rows.length c.rows.length) y2,H++[g,.cells (flR c.rows)],⟨by simp,by simp,fun o a ho=>?_,fun o hl _=>by rw[List.getElem?_append_left hl]⟩,?_,y2,g,hA2,rfl,rfl⟩
 ·have k1:=(List.getElem?_eq_some_iff.1 ho).1
  simp at k1
  have:o=0∨o=1:=by omega
  rcases this with rfl|rfl
  ·cases ho; exact⟨g,rfl,eH hA.mQ⟩
  ·cases ho; exact⟨_,rfl,.cells (aU.low hlow)⟩
 ·exact Ren.iM (.cons (.low (.int _ _)) (.cons (.low (.int _ _)) (.cons (.low (.int _ _)) (.cons (.arr (ρ:=fun o=>o+2) 1 0 _ _ (by simp)) (.cons hr1 .nil)))))
 ·have k1:=(List.getElem?_eq_some_iff.1 ho).1
  simp at k1
  have:o=0∨o=1:=by omega
  rcases this with rfl|rfl
  ·cases ho; exact⟨g,by simp[aM],eH hA.mQ,fun h=>h⟩
  ·cases ho; exact⟨.cells (flR c.rows),by simp[aM],.cells (aU.low hlow),fun h=>h⟩
 ·have:=Ren.arr (ρ:=aM (fun o=>o) ([]:ae).length H.length) (n:=2) 1 0 c.rows.length c.rows.length (by simp)
  rw[e1] at this
  exact Ren.iM (.cons (.low (.int _ _)) (.cons (.low (.int _ _)) (.cons (.low (.int _ _)) (.cons this (.cons hr2 .nil)))))
def Mq (args:List PV) (H:ae) (K:PV→ae→Prop):Prop:=∃(c:Mt) (t1 t2:Tail),ah args [.agg [.U c.id,.I c.md,.U c.ins,.list (c.rows.map rrc) t1,.list (c.aa.map stc) t2]]∧c.Sm∧
 (K c.pv H∨(∀(y:PV) (g:Ob),ArS H.length c.aa y g→K (eg c (.list (c.rows.map rrc) .exact) y) (H++[g]))∨
  (∀(y:PV) (g:Ob),ArS H.length c.aa y g→K (eg c (.arr (H.length+1) 0 c.rows.length c.rows.length) y) (H++[g,.cells (flR c.rows)]))∨
  (∃ j,j<c.rows.length∧(c.rows.getD j default).pl≠[]∧∀ x X,OwJ c H.length j x X→K x (H++X)))
theorem EH:SpK 36 (.heap Mq):=by
 rintro args H K ⟨c,t1,t2,he,h,hk⟩
 have he:args=_:=he
 subst he
 refine bc (.cons gK .nil) ?_
 rcases hk with hk|hk|hk|⟨j,hj,hne,hk⟩
 ·exact aL (jq.alone aj (bu c.low) c.low (Ja c h) H) fun x H' e=>by obtain⟨rfl,rfl⟩:=e; exact hk
 ·by_cases e:c.aa=[]
  ·refine nI (aL (jq.alone (r:=eg c (.list (c.rows.map rrc) .exact) (.E)) aj (bu c.low) ?_ (aL (yh c h) fun x H' hh=>?_) H) fun x H' e'=>?_)
   ·refine .agg _ (gQ (.int _ _) (.int _ _) (.int _ _) (mK bG _) (aH NT.exact (by simp)))
   ·obtain⟨y,g,hA,rfl,rfl⟩:=hh
    rcases hA with⟨_,rfl,rfl⟩|⟨hn,_⟩
    ·rfl
    ·exact absurd e hn
   ·obtain⟨rfl,rfl⟩:=e'
    exact hk _ _ (.inl ⟨e,rfl,rfl⟩)
  ·refine BI aj (eg c (.list (c.rows.map rrc) .exact)) (.cons (Wk.refl _) .nil) (bu c.low) (Ms c) (aL (yh c h) fun x H' hh=>?_)
   obtain⟨y,g,hA,rfl,rfl⟩:=hh
   have hg:=hA.mQ
   rcases hA with⟨h0,_⟩|⟨_,cap,J,rfl,rfl,hc,hJ⟩
   ·exact absurd h0 e
   ·exact⟨2,_,cap,_,rfl,rfl,hg _ rfl,hk _ _ (.inr ⟨e,cap,J,rfl,rfl,hc,hJ⟩)⟩
 ·refine aL (Mv c h H) fun x H' hh=>?_
  obtain⟨y,g,hA,rfl,rfl⟩:=hh
  exact hk y g hA
 ·refine aL (ML c h j hj hne H) fun x H' hh=>?_
  obtain⟨X,hX,rfl⟩:=hh
  exact hk x X hX
theorem gY (r:Se):(stc r).length=6:=bP r
theorem xM (l:List Se) {J:List PV} (h:∀ y∈J,y.one=true):∀ y∈flS l++J,y.one=true:=by
 intro y hy
 rcases List.mem_append.1 hy with h1|h1
 ·obtain⟨c,h2,h3⟩:=List.mem_flatten.1 h1
  obtain⟨a,_,rfl⟩:=List.mem_map.1 h2
  exact ew a y h3
 ·exact h y h1
theorem IF:SpK 114 (.ext dJ):=
 iR (t:=42) (e:=138) (b:=true) (sz:=6) Tryz.func114 (by kernel_rfl) (by kernel_rfl) (by kernel_rfl) (by kernel_rfl) (by kernel_rfl) (by kernel_rfl) (by kernel_rfl)
def TIS:Tab:=[(114,.ext dJ)]
theorem Dh:TbK TIS:= .cons IF (.nil _ _)
theorem EX (l:List Se) (J:List PV) (cap:Nat) (r:Se) (p:Nat):(by refine(?_:_→_→_→_→_→_→_→_→Prop) ((p:Int)+(1:Int)) ((l.length:Int)+(1:Int)) (Int.toNat (l.length:Int)-Int.toNat (p:Int)) [PV.U r.pl,.I r.tm,.I r.nu,.I r.st,.I r.un,.int .u64 r.no] [PV.U 0,.I 0,.I 0,.I 0,.I 0,.int .u64 0] (Int.toNat (cap:Int)-0) (Ob.cells (flS l++J)) (Int.toNat (p:Int)-0); exact fun i m o q s t x z=>by refine(?_:_→_→_→_→_→Prop) (↑t:Int) q (List.take (o*6) (List.drop (if Int.toNat (cap:Int)=Int.toNat (p:Int) then 0 else 0+Int.toNat (p:Int)*6) (flS l++J))) (wI m-(p:Int)) (Int.toNat (wI m)-0); exact fun g h j u A=>by refine(?_:_→_→Prop) (↑A:Int) (Int.toNat (p:Int)-0+Int.toNat (wI u)); exact fun d f=>by refine(?_:_→_→_→_→Prop) (Int.toNat d-Int.toNat (p:Int)) (Int.toNat (↑f:Int)-Int.toNat (p:Int)) (Int.toNat (↑f:Int)-Int.toNat (wI i)) (Int.toNat d-Int.toNat (wI i)); exact fun n v w y=>by refine(?_:_→Prop) (List.take (n*6) (List.drop (if Int.toNat g=Int.toNat (p:Int) then if Int.toNat (cap:Int)=0 then 0 else 0 else(if Int.toNat (cap:Int)=0 then 0 else 0)+Int.toNat (p:Int)*6) (flS l++J))); exact fun e=>by refine(?_:_→Prop) (over (flS l++J) (if Int.toNat g=Int.toNat (wI i) then if Int.toNat (cap:Int)=0 then 0 else 0 else(if Int.toNat (cap:Int)=0 then 0 else 0)+Int.toNat (wI i)*6) (List.take (min n y*6) e)); exact fun k=>∀(K:PV→ae→Prop),((0≤(p:Int)∧(p:Int)≤(l.length:Int)∧(l.length:Int)≤(cap:Int)∧(cap:Int)≤(cap:Int))∧br ((p:Int) == (l.length:Int)) ((l.length≤cap∧0+cap*6≤List.length (flS l++J)∧6=6∧List.all h PV.one=true∧(l.length+1)*48≤140737488355328)∧(l.length+1≤cap→K (.arr 0 0 (l.length+1) cap) [.cells (over (flS l++J) (0+l.length*6) h)])∧(cap<l.length+1→∀(c:Nat),l.length+1≤c→K (.arr 1 0 (l.length+1) c) [x,.cells (List.take (l.length*6) (List.drop 0 (flS l++J))++h++List.flatten (List.replicate (c-(l.length+1)) s))])) (br (decide (wI m>(cap:Int))) ((iI 0≤0∧0≤(p:Int)∧(p:Int)≤(cap:Int)∧(cap:Int)≤(cap:Int))∧(Int.toNat (p:Int)-0≤Int.toNat (cap:Int)-0∧(if Int.toNat (cap:Int)=0 then 0 else 0)+t*6≤List.length (flS l++J)∧0≤wI u∧Int.toNat (cap:Int)-0<Int.toNat (p:Int)-0+Int.toNat (wI u)∧f*48≤140737488355328)∧∀(c:Nat),by refine(?_:_→Prop) (List.take (z*6) (List.drop (if Int.toNat (cap:Int)=0 then 0 else 0) (flS l++J))++List.flatten (List.replicate (c-z) s)); exact fun b=>by refine(?_:_→Prop) (over b (if Int.toNat (c:Int)=Int.toNat (p:Int) then 0 else 0+Int.toNat (p:Int)*6) (List.take (min 1 v*6) h)); exact fun a=>Int.toNat (p:Int)-0+Int.toNat (wI u)≤c→(0≤(p:Int)∧(p:Int)≤(↑f:Int)∧(↑f:Int)≤(c:Int)∧(c:Int)≤(c:Int))∧((if Int.toNat (c:Int)=Int.toNat (p:Int) then 0 else 0+Int.toNat (p:Int)*6)+v*6≤List.length b∧6=6∧List.all h PV.one=true)∧(0≤wI i∧wI i≤(↑f:Int)∧(↑f:Int)≤(c:Int)∧(c:Int)≤(c:Int))∧(0≤(p:Int)∧(p:Int)≤(l.length:Int)∧(l.length:Int)≤(cap:Int)∧(cap:Int)≤(cap:Int))∧(if Int.toNat (cap:Int)=Int.toNat (p:Int) then 0 else 0+Int.toNat (p:Int)*6)+o*6≤List.length (flS l++J)∧((if Int.toNat (c:Int)=Int.toNat (wI i) then 0 else 0+Int.toNat (wI i)*6)+w*6≤List.length a∧List.length j=o*6∧List.all j PV.one=true)∧K (.arr 1 0 f c) [x,.cells (over a (if Int.toNat (c:Int)=Int.toNat (wI i) then 0 else 0+Int.toNat (wI i)*6) (List.take (min o w*6) j))]) ((iI 0≤0∧0≤wI m∧wI m≤(cap:Int)∧(cap:Int)≤(cap:Int))∧(0≤wI i∧wI i≤d∧d≤g∧g≤g)∧q≠[]∧(flS l++J=[]→False)∧(0≤wI i∧wI i≤d∧d≤g∧g≤g)∧(0≤(p:Int)∧(p:Int)≤d∧d≤g∧g≤g)∧(if Int.toNat g=Int.toNat (p:Int) then if Int.toNat (cap:Int)=0 then 0 else 0 else(if Int.toNat (cap:Int)=0 then 0 else 0)+Int.toNat (p:Int)*6)+n*6≤List.length (flS l++J)∧((if Int.toNat g=Int.toNat (wI i) then if Int.toNat (cap:Int)=0 then 0 else 0 else(if Int.toNat (cap:Int)=0 then 0 else 0)+Int.toNat (wI i)*6)+y*6≤List.length (flS l++J)∧List.length e=n*6∧List.all e PV.one=true)∧(0≤(p:Int)∧(p:Int)≤d∧d≤g∧g≤g)∧((if Int.toNat g=Int.toNat (p:Int) then if Int.toNat (cap:Int)=0 then 0 else 0 else(if Int.toNat (cap:Int)=0 then 0 else 0)+Int.toNat (p:Int)*6)+n*6≤List.length k∧6=6∧List.all h PV.one=true)∧K (.arr 0 (if Int.toNat (cap:Int)=0 then 0 else 0) A t) [.cells (over k (if Int.toNat g=Int.toNat (p:Int) then if Int.toNat (cap:Int)=0 then 0 else 0 else(if Int.toNat (cap:Int)=0 then 0 else 0)+Int.toNat (p:Int)*6) (List.take (min 1 n*6) h))])))→AcK 110 [.arr 0 0 l.length cap,.I p,.list [stc r] .exact] [x] K:Prop):=fun K h=>acW (T:=TIS) (L:=[]) (fun o=>match o.op with| .load t _=>(match t with|42=>1|_=>0)|_=>match o.dst with|some 25=>2|_=>0) Tryz.func110 (Dh) (LOk.nil _ _ _ _ _) h
theorem DG (r:Se):∀(K:PV→ae→Prop),((iI 0≤0∧iI 0≤0∧iI 0≤0∧iI 0≤0∧uni 6 [])∧6=6∧48≤140737488355328∧0<1∧∀(c:Nat),1≤c→K (.arr 0 0 1 c) [.cells ([.U r.pl,.I r.tm,.I r.nu,.I r.st,.I r.un,.int .u64 r.no]++List.flatten (List.replicate (c-1) [.U 0,.I 0,.I 0,.I 0,.I 0,.int .u64 0]))])→AcK 110 [.E,.I 0,.list [stc r] .exact] [] K:=fun K h=>acW (T:=TIS) (L:=[]) (fun o=>match o.op with| .load t _=>(match t with|42=>1|_=>0)|_=>match o.dst with|some 25=>2|_=>0) Tryz.func110 (Dh) (LOk.nil _ _ _ _ _) h
def KI (args:List PV) (H:ae) (K:PV→ae→Prop):Prop:=
 (∃(l:List Se) (J:List PV) (cap:Nat) (r:Se) (p:Nat),ah args [.arr 0 0 l.length cap,.I p,.list [stc r] .exact]∧av H ([.cells (flS l++J)])∧p≤l.length∧l.length≤1000000∧l.length≤cap∧aJ J ((cap-l.length)*6)∧
  (∀(J':List PV),l.length+1≤cap→aJ J' ((cap-(l.length+1))*6)→K (.arr 0 0 (l.length+1) cap) [.cells (flS (bw l p r)++J')])∧
  (∀(c:Nat),l.length+1≤c→∀(J':List PV),aJ J' ((c-(l.length+1))*6)→K (.arr 1 0 (l.length+1) c) [.cells (flS l++J),.cells (flS (bw l p r)++J')]))∨
 (∃(r:Se),ah args [.E,.I 0,.list [stc r] .exact]∧av H []∧
  ∀(c:Nat),1≤c→∀(J':List PV),aJ J' ((c-1)*6)→K (.arr 0 0 1 c) [.cells (stc r++J')])
def zrS:List PV:=[.U 0,.I 0,.I 0,.I 0,.I 0,.int .u64 0]
theorem oJ (n:Nat):aJ (List.replicate n zrS).flatten (n*6):=
 aJ.qy (z:=zrS) (by intro y hy; simp only[zrS,List.mem_cons,List.not_mem_nil,or_false] at hy; rcases hy with rfl|rfl|rfl|rfl|rfl|rfl<;>rfl) (by intro y hy; simp only[zrS,List.mem_cons,List.not_mem_nil,or_false] at hy; rcases hy with rfl|rfl|rfl|rfl|rfl|rfl<;>first|exact .int _ _|exact .str _) n
theorem xI:SpK 110 (.heap KI):=by
 rintro args H K (⟨l,J,cap,r,p,he,hH,hp,hl,hc,hJ,hk1,hk2⟩|⟨r,he,hH,hk⟩)
 ·have he:args=_:=he
  have hH:H=_:=hH
  subst he
  subst hH
  have hlen:(flS l++J).length=cap*6:=by rw[List.length_append,ix,hJ.len,← Nat.add_mul]; congr 1; omega
  have hone:(flS l++J).all PV.one=true:=List.all_eq_true.2 (xM l hJ.one)
  refine EX l J cap r p K ?_
  refine⟨⟨by omega,by omega,by omega,by omega⟩,?_⟩
  rw[au]
  by_cases c1:p=l.length
  ·rw[if_pos (by simp[c1])]
   subst c1
   refine⟨⟨hc,by rw[hlen]; omega,rfl,rfl,by omega⟩,fun h=>?_,fun h c hcc=>?_⟩
   ·have:=hk1 (J.drop 6) h (hJ.drop.cast (by omega))
    rw[← nV gY r (by rw[hJ.len]; omega)] at this
    rw[Nat.zero_add]
    exact this
   ·have:=hk2 c hcc _ (oJ (c-(l.length+1)))
    rw[jF] at this
    rw[List.drop_zero,fi gY J l l.length (Nat.le_refl _),List.take_length]
    simp only[flS,List.map_append,List.flatten_append,List.map_cons,List.map_nil,List.flatten_cons,List.flatten_nil,List.append_nil] at this
    exact this
  ·rw[if_neg (by simp; omega),au]
   have e1:wI ((l.length:Int)+1)=((l.length+1:Nat):Int):=by rw[aD (by omega) (by omega)]; rfl
   have e2:wI (((l.length+1:Nat):Int)-(p:Int))=((l.length+1-p:Nat):Int):=by rw[aD (by omega) (by omega)]; omega
   have e3:wI ((p:Int)+1)=((p+1:Nat):Int):=by rw[aD (by omega) (by omega)]; rfl
   have e4:p+(l.length+1-p)=l.length+1:=by omega
   simp only[e1,e2,e3,e4,an,Nat.sub_zero,Nat.zero_add,List.drop_zero,ite_self]
   have t1:List.take (p*6) (flS l++J)=flS (l.take p):=fi gY J l p hp
   have t2:List.take ((l.length-p)*6) (List.drop (p*6) (flS l++J))=flS (l.drop p):=by
    rw[fc gY J l p hp,List.take_left']
    rw[ix,List.length_drop]
   have t3:min 1 (l.length+1-p)=1:=by omega
   have t5:(flS (l.drop p)).length=(l.length-p)*6:=by rw[ix,List.length_drop]
   have t6:(flS (l.drop p)).all PV.one=true:=by
    have:=xM (l.drop p) (J:=[]) (fun _ h=>nomatch h)
    rw[List.append_nil] at this
    exact List.all_eq_true.2 this
   have t7:(flS (l.take p)).length=p*6:=by rw[ix,List.length_take,Nat.min_eq_left hp]
   by_cases c2:cap<l.length+1
   ·rw[if_pos (decide_eq_true (by omega))]
    have n3:¬ cap=p:=by omega
    refine⟨⟨by decide,by omega,by omega,by omega⟩,⟨by omega,by omega,by omega,by omega,by omega⟩,fun c hcc=>?_⟩
    have t4:min (l.length-p) (l.length+1-(p+1))=l.length-p:=by omega
    have n1:¬ c=p:=by omega
    have n2:¬ c=p+1:=by omega
    have hZ:=oJ (c-p)
    have t9:(flS (l.take p)++(List.replicate (c-p) zrS).flatten).length=c*6:=by rw[List.length_append,t7,hZ.len,← Nat.add_mul]; congr 1; omega
    simp only[if_neg n1,if_neg n2,if_neg n3,t1,t2,t3,t4,t5,t6]
    refine⟨⟨by omega,by omega,by omega,by omega⟩,⟨Nat.le_trans (show _≤c*6 by omega) (Nat.le_of_eq t9.symm),trivial,rfl⟩,⟨by omega,by omega,by omega,by omega⟩,⟨by omega,by omega,by omega,by omega⟩,by omega,⟨?_,trivial,trivial⟩,?_⟩
    ·have t10:(over (flS (l.take p)++(List.replicate (c-p) zrS).flatten) (p*6) (stc r)).length=c*6:=by rw[bE (by rw[t9,gY]; omega),t9]
     exact Nat.le_trans (show _≤c*6 by omega) (Nat.le_of_eq t10.symm)
    ·have:=hk2 c (by omega) _ ((hZ.drop (k:=(l.length+1-p)*6)).cast (by omega))
     rw[← pe gY r hp (by rw[hZ.len]; omega)] at this
     rw[List.take_of_length_le (Nat.le_of_eq t5)]
     exact this
   ·rw[if_neg (by simp; omega)]
    have n3:¬ cap=p:=by omega
    have n4:¬ cap=p+1:=by omega
    have t9:min (l.length+1-p) (l.length+1-(p+1))=l.length-p:=by omega
    have t10:List.take ((l.length-p)*6) (List.take ((l.length+1-p)*6) (List.drop (p*6) (flS l++J)))=List.take ((l.length-p)*6) (List.drop (p*6) (flS l++J)):=by rw[List.take_take,Nat.min_eq_left (by omega)]
    simp only[if_neg n3,if_neg n4,t3,t9,t10]
    have t11:(List.take ((l.length+1-p)*6) (List.drop (p*6) (flS l++J))).length=(l.length+1-p)*6:=by rw[List.length_take,List.length_drop,hlen]; omega
    have t12:(List.take ((l.length+1-p)*6) (List.drop (p*6) (flS l++J))).all PV.one=true:=List.all_eq_true.2 fun y hy=>List.all_eq_true.1 hone y (List.mem_of_mem_drop (List.mem_of_mem_take hy))
    have t13:(over (flS l++J) ((p+1)*6) (List.take ((l.length-p)*6) (List.drop (p*6) (flS l++J)))).length=cap*6:=by rw[bE (by rw[t2,t5,hlen]; omega),hlen]
    refine⟨⟨by decide,by omega,by omega,by omega⟩,⟨by omega,by omega,by omega,by omega⟩,List.cons_ne_nil _ _,fun h=>?_,⟨by omega,by omega,by omega,by omega⟩,⟨by omega,by omega,by omega,by omega⟩,by omega,⟨by omega,t11,t12⟩,⟨by omega,by omega,by omega,by omega⟩,⟨by omega,trivial,rfl⟩,?_⟩
    ·rw[h] at hlen; simp only[List.length_nil] at hlen; omega
    ·have:=hk1 (J.drop 6) (by omega) (hJ.drop.cast (by omega))
     rw[← rJ gY r (by omega) (by rw[hJ.len]; omega)] at this
     exact this
 ·have he:args=_:=he
  have hH:H=_:=hH
  subst he
  subst hH
  exact DG r K ⟨⟨by decide,by decide,by decide,by decide,fun _ h=>nomatch h⟩,rfl,by decide,by decide,fun c hc=>hk c hc _ (oJ (c-1))⟩
theorem sW (r:Se) (t:Tail) (ht:NT t) {n:Nat}:Low n (.list [stc r] t):=aH ht (by intro y hy; simp at hy; exact c8 r y hy)
theorem lQ {n:Nat} (l:List Se) {J:List PV} (h:∀ y∈J,Low n y):∀ y∈flS l++J,Low n y:=fz (fun a _=>c8 a) h
def vC (args:List PV) (H:ae) (K:PV→ae→Prop):Prop:=match args with
 | .arr o 0 n cap::rest=>∃(l:List Se) (J:List PV) (r:Se) (p:Nat),n=l.length∧ah rest [.int .i64 p,.list [stc r] .exact]∧iz H o (flS l++J)∧p≤l.length∧l.length≤1000000∧l.length≤cap∧aJ J ((cap-l.length)*6)∧
  (∀(J':List PV),l.length+1≤cap→aJ J' ((cap-(l.length+1))*6)→K (.arr o 0 (l.length+1) cap) (H.set o (.cells (flS (bw l p r)++J'))))∧
  (∀(c:Nat),l.length+1≤c→∀(J':List PV),aJ J' ((c-(l.length+1))*6)→K (.arr H.length 0 (l.length+1) c) (H++[.cells (flS (bw l p r)++J')]))
 | .list [] .exact::rest=>∃(r:Se),ah rest [.int .i64 0,.list [stc r] .exact]∧∀(c:Nat),1≤c→∀(J':List PV),aJ J' ((c-1)*6)→K (.arr H.length 0 1 c) (H++[.cells (flS [r]++J')])
 | _=>False
theorem FK:SpK 110 (.heap vC):=by
 intro args H K h
 unfold vC at h
 split at h
 ·rename_i o n cap rest
  obtain⟨l,J,r,p,rfl,he,hc,hp,hl,hcap,hJ,hk1,hk2⟩:=h
  have he:rest=_:=he
  subst he
  refine BY aj hc (lQ l hJ.low) (.cons (.arr (ρ:=fun _=>o) 0 0 l.length cap (by decide)) (.cons (.low (.int _ _)) (.cons (.low (sW r _ NT.exact)) .nil))) ?_
  refine xI _ _ _ (.inl ⟨l,J,cap,r,p,rfl,rfl,hp,hl,hcap,hJ,fun J' h1 h2=> .inl ⟨_,.arr o 0 (l.length+1) cap,rfl,lQ _ h2.low,.arr (ρ:=jr o H.length) 0 0 _ _ (by decide),hk1 J' h1 h2⟩,fun c h1 J' h2=> .inr ⟨_,_,.arr H.length 0 (l.length+1) c,rfl,lQ l hJ.low,lQ _ h2.low,.arr (ρ:=jr o H.length) 1 0 _ _ (by decide),?_⟩⟩)
  rw[kQ hc]; exact hk2 c h1 J' h2
 ·rename_i rest
  obtain⟨r,he,hk⟩:=h
  have he:rest=_:=he
  subst he
  refine BI aj (fun x=>x) (.cons (.refl _) (.cons (.refl _) (.cons (.refl _) .nil))) (dO (aH NT.exact (by simp)) (.int _ _) (sW r _ NT.exact)) (fun k k' len cap=> .arr _ _ _) (xI _ _ _ (.inr ⟨r,rfl,rfl,fun c hc J' h2=>⟨0,1,c,_,rfl,rfl,?_,?_⟩⟩))
  ·intro x hx
   rcases List.mem_append.1 hx with hx|hx
   ·exact c8 r x hx
   ·exact h2.low x hx
  ·have:=hk c hc J' h2
   simpa[flS] using this
 ·exact h.elim
def cY (l:List Se):Nat:=(List.range l.length).findIdx fun m=>decide ((l.getD m default).nu≠(m:Int))
theorem eV (l:List Se):cY l≤l.length:=by
 have:=List.findIdx_le_length (p:=fun m=>decide ((l.getD m default).nu≠(m:Int))) (xs:=List.range l.length)
 rwa [List.length_range] at this
theorem om {l:List Se} {m:Nat} (h:m<cY l):(l.getD m default).nu=(m:Int):=by
 have hl:=eV l
 have:=List.not_of_lt_findIdx (p:=fun m=>decide ((l.getD m default).nu≠(m:Int))) h
 simp only[List.getElem_range,decide_eq_false_iff_not,ne_eq,Classical.not_not] at this
 exact this
theorem sE {l:List Se} (h:cY l<l.length):(l.getD (cY l) default).nu≠(cY l:Int):=by
 have:=List.findIdx_getElem (p:=fun m=>decide ((l.getD m default).nu≠(m:Int))) (xs:=List.range l.length) (w:=by rw[List.length_range]; exact h)
 have:=of_decide_eq_true this
 rw[List.getElem_range] at this
 exact this
theorem qR {l:List Se} {i:Nat} (hi:i≤cY l) (h:i=l.length∨(i<l.length∧(l.getD i default).nu≠(i:Int))):cY l=i:=by
 rcases Nat.lt_or_ge i (cY l) with c|c
 ·rcases h with h|⟨_,h⟩
  ·have:=eV l; omega
  ·exact absurd (om c) h
 ·omega
theorem Aa {l:List Se} {i:Nat} (hi:i≤cY l) (h:i<l.length) (hn:(l.getD i default).nu=(i:Int)):i<cY l:=by
 rcases Nat.lt_or_ge i (cY l) with c|c
 ·exact c
 ·have e:i=cY l:=by omega
  subst e
  exact absurd hn (sE h)
def fR (l:List Se) (p t:Int):Se:=⟨p,t,(cY l:Int),1,0,0⟩
def gC (l:List Se) (p t:Int):List Se:=bw l (cY l) (fR l p t)
theorem Gg (c:Mt) (x:PV) (gx:Ob) (J:List PV) (cap i:Nat) (p t:Int):(by refine(?_:_→_→_→Prop) [PV.ptr 0 0,.U p,.I t,.I i] (c.aa.length:Int) (flS c.aa++J); exact fun f g h=>by refine(?_:_→_→Prop) [Ob.cells [.U c.id,.I c.md,.U c.ins,x,.arr 2 0 c.aa.length cap],gx,.cells h] (List.drop (0+Int.toNat (i:Int)*6+2) h); exact fun b d=>∀(R:Ex→List PV→ae→Prop),by refine(?_:_→Prop) (R (.exit 0) f b); exact fun a=>(br (decide ((i:Int)<g) == true) ((0≤(i:Int)∧(i:Int)<g)∧br (true && aE [.int .i64] 0 d) (br (cI d 0 == (i:Int)) (R .normal [.ptr 0 0,.U p,.I t,.I (wI ((i:Int)+1))] b) a) False) a)→Holds (wpK [] [] (fun o=>match o.op with| .load t _=>(match t with|42=>1|_=>0)|_=>0) (ai [1,0,0] (ag Tryz.f90)) [] (ak [0,1,2,6] f) b (fun ex e H=>R ex (List.map e [0,1,2,6]) H)):Prop):=fun R h=>hoE h
theorem GB (c:Mt) (x:PV) (gx:Ob) (p t:Int):(by refine(?_:_→_→Prop) [Ob.cells [.U c.id,.I c.md,.U c.ins,x,.E],gx,.dead] [PV.ptr 0 0,.U p,.I t,.I 0]; exact fun a b=>∀(R:Ex→List PV→ae→Prop),(R (.exit 0) b a)→Holds (wpK [] [] (fun o=>match o.op with| .load t _=>(match t with|42=>1|_=>0)|_=>0) (ai [1,0,0] (ag Tryz.f90)) [] (ak [0,1,2,6] b) a (fun ex e H=>R ex (List.map e [0,1,2,6]) H)):Prop):=fun R h=>hoE h
def B5:LSp:=fun e H Q=>
 (∃(c:Mt) (x:PV) (gx:Ob) (J:List PV) (cap:Nat) (p t:Int),c.aa.length≤1000000∧ah (List.map e [0,1,2,6]) [.ptr 0 0,.U p,.I t,.I 0]∧av H [.cells [.U c.id,.I c.md,.U c.ins,x,.arr 2 0 c.aa.length cap],gx,.cells (flS c.aa++J)]∧Q (.exit 0) (ak [0,1,2,6] [.ptr 0 0,.U p,.I t,.I (cY c.aa)]) [.cells [.U c.id,.I c.md,.U c.ins,x,.arr 2 0 c.aa.length cap],gx,.cells (flS c.aa++J)])∨
 (∃(c:Mt) (x:PV) (gx:Ob) (p t:Int),ah (List.map e [0,1,2,6]) [.ptr 0 0,.U p,.I t,.I 0]∧av H [.cells [.U c.id,.I c.md,.U c.ins,x,.E],gx,.dead]∧Q (.exit 0) (ak [0,1,2,6] [.ptr 0 0,.U p,.I t,.I 0]) [.cells [.U c.id,.I c.md,.U c.ins,x,.E],gx,.dead])
theorem tT:∀ e H Q,B5 e H Q→AwK Tryz.f90.ntmps (.loop (ai [1,0,0] (ag Tryz.f90))) Q e H:=by
 rintro e H Q (⟨c,x,gx,J,cap,p,t,hl,he,hH,hQ⟩|⟨c,x,gx,p,t,he,hH,hQ⟩)
 ·refine aB (hn:=fun o=>match o.op with| .load t _=>(match t with|42=>1|_=>0)|_=>0) aj (.nil _ _) (.nil _ _ _ _ _) (σ:=Nat) [0,1,2,6] (fun i=>i≤cY c.aa) (fun i=>[.ptr 0 0,.U p,.I t,.I i]) (fun _=>[.cells [.U c.id,.I c.md,.U c.ins,x,.arr 2 0 c.aa.length cap],gx,.cells (flS c.aa++J)]) (fun i=>c.aa.length-i) 0 (Nat.zero_le _) he hH ?_
  intro i hi
  have hi:i≤cY c.aa:=hi
  have hg:=eV c.aa
  refine Gg c x gx J cap i p t _ ?_
  simp only[au,dt,an,beq_iff_eq]
  by_cases h:i<c.aa.length
  ·rw[if_pos (by omega)]
   refine⟨⟨by omega,by omega⟩,?_⟩
   have hd:List.drop (0+i*6+2) (flS c.aa++J)=[.I (c.aa.getD i default).nu,.I (c.aa.getD i default).st,.I (c.aa.getD i default).un,.int .u64 (c.aa.getD i default).no]++(flS (c.aa.drop (i+1))++J):=by
    rw[Nat.zero_add,← List.drop_drop,lF bP J default h]; rfl
   rw[hd,if_pos (by rfl)]
   have hc:cI ([.I (c.aa.getD i default).nu,.I (c.aa.getD i default).st,.I (c.aa.getD i default).un,.int .u64 (c.aa.getD i default).no]++(flS (c.aa.drop (i+1))++J)) 0=(c.aa.getD i default).nu:=rfl
   rw[hc]
   by_cases hn:(c.aa.getD i default).nu=(i:Int)
   ·rw[if_pos hn]
    exact⟨i+1,(show c.aa.length-(i+1)<c.aa.length-i by omega),Aa hi h hn,by rw[ar h (by omega)],[],rfl,Nat.le_refl _,.inl rfl⟩
   ·rw[if_neg hn]
    rw[qR hi (.inr ⟨h,hn⟩)] at hQ
    exact hQ
  ·rw[if_neg (by omega)]
   have:i=c.aa.length:=by omega
   rw[qR hi (.inl this)] at hQ
   exact hQ
 ·refine aB (hn:=fun o=>match o.op with| .load t _=>(match t with|42=>1|_=>0)|_=>0) aj (.nil _ _) (.nil _ _ _ _ _) (σ:=Unit) [0,1,2,6] (fun _=>True) (fun _=>[.ptr 0 0,.U p,.I t,.I 0]) (fun _=>[.cells [.U c.id,.I c.md,.U c.ins,x,.E],gx,.dead]) (fun _=>0) () trivial he hH ?_
  intro _ _
  exact GB c x gx p t _ hQ
def TSI:Tab:=[(110,.heap vC)]
theorem BH:TbK TSI:= .cons FK (.nil _ _)
theorem Bx (c:Mt) (x:PV) (gx:Ob) (J:List PV) (cap:Nat) (p t:Int):(by refine(?_:_→_→Prop) [Ob.cells [.U c.id,.I c.md,.U c.ins,x,.arr 2 0 c.aa.length cap],gx,.cells (flS c.aa++J)] [PV.ptr 0 0,.U p,.I t,.I 0]; exact fun e f=>∀(K:PV→ae→Prop),((∃(c_1:Mt) (x_1:PV) (gx_1:Ob) (J_1:List PV) (cap_1:Nat) (p_1:Int) (t_1:Int),by refine(?_:_→_→Prop) (PV.I (↑(cY c_1.aa):Int)) (Ob.cells (flS c_1.aa++J_1)); exact fun b d=>by refine(?_:_→Prop) [Ob.cells [.U c_1.id,.I c_1.md,.U c_1.ins,x_1,.arr 2 0 c_1.aa.length cap_1],gx_1,d]; exact fun a=>c_1.aa.length≤1000000∧ah f [.ptr 0 0,.U p_1,.I t_1,.I 0]∧av e a∧∃(l:List Se) (J:List PV) (r:Se) (p:Nat),c_1.aa.length=l.length∧ah [b,.list [[PV.U p_1,.I t_1,b,.I 1,.I 0,.int .u64 0]] .exact] [.I p,.list [[PV.U r.pl,.I r.tm,.I r.nu,.I r.st,.I r.un,.int .u64 r.no]] .exact]∧iz a 2 (flS l++J)∧p≤l.length∧l.length≤1000000∧l.length≤cap_1∧aJ J ((cap_1-l.length)*6)∧(∀(J':List PV),l.length+1≤cap_1→aJ J' ((cap_1-(l.length+1))*6)→K (.tup []) [.cells [.U c_1.id,.I c_1.md,.U c_1.ins,x_1,.arr 2 0 (l.length+1) cap_1],gx_1,.cells (flS (bw l p r)++J')])∧∀(c:Nat),l.length+1≤c→∀(J':List PV),aJ J' ((c-(l.length+1))*6)→K (.tup []) [.cells [.U c_1.id,.I c_1.md,.U c_1.ins,x_1,.arr 3 0 (l.length+1) c],gx_1,d,.cells (flS (bw l p r)++J')])∨∃(c_1:Mt) (x_1:PV) (gx_1:Ob) (p_1:Int) (t_1:Int),ah f [.ptr 0 0,.U p_1,.I t_1,.I 0]∧av e [.cells [.U c_1.id,.I c_1.md,.U c_1.ins,x_1,.E],gx_1,.dead]∧∃(r:Se),ah [.I 0,.list [[PV.U p_1,.I t_1,.I 0,.I 1,.I 0,.int .u64 0]] .exact] [.I 0,.list [[PV.U r.pl,.I r.tm,.I r.nu,.I r.st,.I r.un,.int .u64 r.no]] .exact]∧∀(c:Nat),1≤c→∀(J':List PV),aJ J' ((c-1)*6)→K (.tup []) [.cells [.U c_1.id,.I c_1.md,.U c_1.ins,x_1,.arr 3 0 1 c],gx_1,.dead,.cells ([.U r.pl,.I r.tm,.I r.nu,.I r.st,.I r.un,.int .u64 r.no]++J')])→AcK 90 [.ptr 0 0,.U p,.I t] e K:Prop):=fun K h=>acW (T:=TSI) (L:=[([1,0,0],B5)]) (fun o=>match o.op with| .load t _=>(match t with|42=>1|_=>0)|_=>0) Tryz.func90 (BH) (.cons suE tT (.nil _ _ _ _ _)) h
theorem D2 (c:Mt) (x:PV) (gx:Ob) (p t:Int):(by refine(?_:_→_→Prop) [Ob.cells [.U c.id,.I c.md,.U c.ins,x,.E],gx,.dead] [PV.ptr 0 0,.U p,.I t,.I 0]; exact fun e f=>∀(K:PV→ae→Prop),((∃(c_1:Mt) (x_1:PV) (gx_1:Ob) (J:List PV) (cap:Nat) (p_1:Int) (t_1:Int),by refine(?_:_→_→Prop) (PV.I (↑(cY c_1.aa):Int)) (Ob.cells (flS c_1.aa++J)); exact fun b d=>by refine(?_:_→Prop) [Ob.cells [.U c_1.id,.I c_1.md,.U c_1.ins,x_1,.arr 2 0 c_1.aa.length cap],gx_1,d]; exact fun a=>c_1.aa.length≤1000000∧ah f [.ptr 0 0,.U p_1,.I t_1,.I 0]∧av e a∧∃(l:List Se) (J_1:List PV) (r:Se) (p:Nat),c_1.aa.length=l.length∧ah [b,.list [[PV.U p_1,.I t_1,b,.I 1,.I 0,.int .u64 0]] .exact] [.I p,.list [[PV.U r.pl,.I r.tm,.I r.nu,.I r.st,.I r.un,.int .u64 r.no]] .exact]∧iz a 2 (flS l++J_1)∧p≤l.length∧l.length≤1000000∧l.length≤cap∧aJ J_1 ((cap-l.length)*6)∧(∀(J':List PV),l.length+1≤cap→aJ J' ((cap-(l.length+1))*6)→K (.tup []) [.cells [.U c_1.id,.I c_1.md,.U c_1.ins,x_1,.arr 2 0 (l.length+1) cap],gx_1,.cells (flS (bw l p r)++J')])∧∀(c:Nat),l.length+1≤c→∀(J':List PV),aJ J' ((c-(l.length+1))*6)→K (.tup []) [.cells [.U c_1.id,.I c_1.md,.U c_1.ins,x_1,.arr 3 0 (l.length+1) c],gx_1,d,.cells (flS (bw l p r)++J')])∨∃(c_1:Mt) (x_1:PV) (gx_1:Ob) (p_1:Int) (t_1:Int),ah f [.ptr 0 0,.U p_1,.I t_1,.I 0]∧av e [.cells [.U c_1.id,.I c_1.md,.U c_1.ins,x_1,.E],gx_1,.dead]∧∃(r:Se),ah [.I 0,.list [[PV.U p_1,.I t_1,.I 0,.I 1,.I 0,.int .u64 0]] .exact] [.I 0,.list [[PV.U r.pl,.I r.tm,.I r.nu,.I r.st,.I r.un,.int .u64 r.no]] .exact]∧∀(c:Nat),1≤c→∀(J':List PV),aJ J' ((c-1)*6)→K (.tup []) [.cells [.U c_1.id,.I c_1.md,.U c_1.ins,x_1,.arr 3 0 1 c],gx_1,.dead,.cells ([.U r.pl,.I r.tm,.I r.nu,.I r.st,.I r.un,.int .u64 r.no]++J')])→AcK 90 [.ptr 0 0,.U p,.I t] e K:Prop):=fun K h=>acW (T:=TSI) (L:=[([1,0,0],B5)]) (fun o=>match o.op with| .load t _=>(match t with|42=>1|_=>0)|_=>0) Tryz.func90 (BH) (.cons suE tT (.nil _ _ _ _ _)) h
def ArR (o:Nat) (l:List Rr) (x:PV) (g:Ob):Prop:=∃(cap:Nat) (J:List PV),x = .arr o 0 l.length cap∧g = .cells (flR l++J)∧l.length≤cap∧aJ J ((cap-l.length)*4)
theorem ArR.one {o:Nat} {l:List Rr} {x:PV} {g:Ob} (h:ArR o l x g):x.one=true:=by
 obtain⟨cap,J,rfl,_⟩:=h; rfl
theorem ArR.mQ {o:Nat} {l:List Rr} {x:PV} {g:Ob} (h:ArR o l x g):∀ cs,g = .cells cs→∀ x∈cs,Low 0 x:=by
 intro cs e
 obtain⟨cap,J,_,rfl,_,hJ⟩:=h
 cases e; exact fz (fun a _=>bG a) hJ.low
theorem ArR.ren {o:Nat} {l:List Rr} {x:PV} {g:Ob} (h:ArR o l x g) (o':Nat) {ρ:Nat→Nat} {n:Nat} (ho:o'<n) (hρ:ρ o'=o):∃ x',ArR o' l x' g∧Ren ρ n x' x:=by
 obtain⟨cap,J,rfl,rfl,h2,h3⟩:=h
 refine⟨_,⟨cap,J,rfl,rfl,h2,h3⟩,?_⟩
 have:=Ren.arr (ρ:=ρ) (n:=n) o' 0 l.length cap ho
 rwa [hρ] at this
theorem ArR.nm {o:Nat} {l:List Rr} {x:PV} {g:Ob} (h:ArR o l x g) (o':Nat) {ρ:Nat→Nat} {n:Nat} (ho:o<n) (hρ:ρ o=o'):∃ x',ArR o' l x' g∧Nm ρ n x x':=by
 obtain⟨cap,J,rfl,rfl,h2,h3⟩:=h
 refine⟨_,⟨cap,J,rfl,rfl,h2,h3⟩,?_⟩
 have:=Nm.arr (ρ:=ρ) (n:=n) o 0 l.length cap ho
 rwa [hρ] at this
theorem ArS.nm {o:Nat} {l:List Se} {y:PV} {g:Ob} (h:ArS o l y g) (o':Nat) {ρ:Nat→Nat} {n:Nat} (ho:o<n) (hρ:ρ o=o'):∃ y',ArS o' l y' g∧Nm ρ n y y':=by
 rcases h with⟨h1,rfl,rfl⟩|⟨h1,cap,J,rfl,rfl,h2,h3⟩
 ·exact⟨_,.inl ⟨h1,rfl,rfl⟩,.low (aH NT.exact (by simp))⟩
 ·refine⟨_,.inr ⟨h1,cap,J,rfl,rfl,h2,h3⟩,?_⟩
  have:=Nm.arr (ρ:=ρ) (n:=n) o 0 l.length cap ho
  rwa [hρ] at this
def MW (c:Mt):ae→Prop:=fun h=>∃(x y:PV) (gx gy:Ob),ArR 1 c.rows x gx∧ArS 2 c.aa y gy∧h=[.cells [.U c.id,.I c.md,.U c.ins,x,y],gx,gy]
def mw (c:Mt):Rep:=whole (MW c)
theorem ArR.ob {o:Nat} {l:List Rr} {x:PV} {g:Ob} (h:ArR o l x g):g = .dead∨∃ cs,g = .cells cs:=by
 obtain⟨cap,J,_,rfl,_⟩:=h
 exact .inr ⟨_,rfl⟩
theorem ArS.ob {o:Nat} {l:List Se} {x:PV} {g:Ob} (h:ArS o l x g):g = .dead∨∃ cs,g = .cells cs:=by
 rcases h with⟨_,_,rfl⟩|⟨_,cap,J,_,rfl,_⟩
 ·exact .inl rfl
 ·exact .inr ⟨_,rfl⟩
theorem Ml {a b c:Ob} (ha:a = .dead∨∃ cs,a = .cells cs) (hb:b = .dead∨∃ cs,b = .cells cs) (hc:c = .dead∨∃ cs,c = .cells cs):cC [a,b,c]=[a,b,c]:=by
 rcases ha with rfl|⟨_,rfl⟩<;>rcases hb with rfl|⟨_,rfl⟩<;>rcases hc with rfl|⟨_,rfl⟩<;>rfl
theorem Jk {c:Mt} {x y:PV} {gx gy:Ob} {r i k:Nat} {H:ae} (hr:H[r]?=some (.cells [.U c.id,.I c.md,.U c.ins,x,y])) (hi:H[i]?=some gx) (hk:H[k]?=some gy) (h1:r≠i) (h2:r≠k) (h3:i≠k) (hx:ArR i c.rows x gx) (hy:ArS k c.aa y gy):
  ∃ X,Sub (fun o=>if o=0 then r else if o=1 then i else k) X H∧MW c X∧cC X=X∧kr X∧X.length=3:=by
 let ρ:Nat→Nat:=fun o=>if o=0 then r else if o=1 then i else k
 obtain⟨x',hx',rx⟩:=hx.ren 1 (ρ:=ρ) (n:=3) (by decide) rfl
 obtain⟨y',hy',ry⟩:=hy.ren 2 (ρ:=ρ) (n:=3) (by decide) rfl
 have lr:=(List.getElem?_eq_some_iff.1 hr).1
 have li:=(List.getElem?_eq_some_iff.1 hi).1
 have lk:=(List.getElem?_eq_some_iff.1 hk).1
 refine⟨[.cells [.U c.id,.I c.md,.U c.ins,x',y'],gx,gy],⟨fun o _=>?_,fun a b ha hb e=>?_,fun o a ho=>?_⟩,⟨x',y',gx,gy,hx',hy',rfl⟩,Ml (.inr ⟨_,rfl⟩) hx.ob hy.ob,⟨_,rfl⟩,rfl⟩
 ·show(if _ then _ else _)<_
  split
  ·exact lr
  ·split
   ·exact li
   ·exact lk
 ·simp at ha hb
  have e:(if a=0 then r else if a=1 then i else k)=(if b=0 then r else if b=1 then i else k):=e
  split at e<;>split at e<;>(try split at e)<;>(try split at e)<;>omega
 ·have e1:=(List.getElem?_eq_some_iff.1 ho).1
  simp at e1
  have:o=0∨o=1∨o=2:=by omega
  rcases this with rfl|rfl|rfl
  ·cases ho
   exact⟨_,hr,.cells (.cons (.low (.int _ _)) (.cons (.low (.int _ _)) (.cons (.low (.int _ _)) (.cons rx (.cons ry .nil)))))⟩
  ·cases ho; exact⟨_,hi,eH hx.mQ⟩
  ·cases ho; exact⟨_,hk,eH hy.mQ⟩
theorem v9 {c:Mt} {x y:PV} {gx gy:Ob} {i k:Nat} {T:ae} (hi:(.cells [.U c.id,.I c.md,.U c.ins,x,y]::T:ae)[i]?=some gx) (hk:(.cells [.U c.id,.I c.md,.U c.ins,x,y]::T:ae)[k]?=some gy) (h1:0≠i) (h2:0≠k) (h3:i≠k) (hx:ArR i c.rows x gx) (hy:ArS k c.aa y gy):
  ed (MW c) (.cells [.U c.id,.I c.md,.U c.ins,x,y]::T):=by
 obtain⟨X,k1,k2,k3,k4,_⟩:=Jk (r:=0) rfl hi hk h1 h2 h3 hx hy
 exact⟨X,_,k1,rfl,by rw[k3]; exact k2,k4⟩
def fS (c:Mt) (p t:Int):Mt:=⟨c.id,c.md,c.ins,c.rows,gC c.aa p t⟩
def BF (args:List PV) (H:ae) (K:PV→ae→Prop):Prop:=match args with
 | .ptr q 0::rest=>∃(c:Mt) (p t:Int),ah rest [.int .u32 p,.int .i64 t]∧bR H q (mw c)∧c.aa.length≤1000000∧K (.tup []) (H.set q (.abs (mw (fS c p t))))
 | _=>False
theorem pX (l:List Se) (p t:Int):(gC l p t).length=l.length+1:=fH (eV l)
theorem J2:SpK 90 (.heap BF):=by
 intro args H K h
 unfold BF at h
 split at h
 rotate_left
 ·exact h.elim
 rename_i q rest
 obtain⟨c,p,t,he,ha,hl,hk⟩:=h
 have he:rest=_:=he
 subst he
 refine jD aj ha (bn (.int _ _) (.int _ _)) (.tup _ (by simp)) (fun hh h=>?_) hk
 obtain⟨x,y,gx,gy,hx,hy,rfl⟩:=h
 have hg:=eV c.aa
 rcases hy with⟨e,rfl,rfl⟩|⟨hn,cap,J,rfl,rfl,hcap,hJ⟩
 ·refine D2 c x gx p t _ (.inr ⟨c,x,gx,p,t,rfl,rfl,fR c.aa p t,?_,fun cap hc J' hJ=>⟨rfl,?_⟩⟩)
  ·have:cY c.aa=0:=by rw[e]; rfl
   unfold fR; rw[this]; rfl
  ·have e2:gC c.aa p t=[fR c.aa p t]:=by unfold gC; rw[e]; rfl
   refine v9 (c:=fS c p t) (i:=1) (k:=3) rfl rfl (by decide) (by decide) (by decide) hx (.inr ⟨by show gC _ _ _≠[]; rw[e2]; simp,cap,J',?_,?_,?_,?_⟩)
   ·show _=PV.arr 3 0 (gC c.aa p t).length cap; rw[e2]; rfl
   ·show _=Ob.cells (flS (gC c.aa p t)++J'); rw[e2]; rfl
   ·show(gC c.aa p t).length≤cap; rw[e2]; exact hc
   ·show aJ J' ((cap-(gC c.aa p t).length)*6); rw[e2]; exact hJ
 ·have e3:(gC c.aa p t).length=c.aa.length+1:=pX _ _ _
  have hne:gC c.aa p t≠[]:=fun e=>by rw[e] at e3; simp at e3
  refine Bx c x gx J cap p t _ (.inl ⟨c,x,gx,J,cap,p,t,hl,rfl,rfl,c.aa,J,fR c.aa p t,cY c.aa,rfl,rfl,rfl,hg,hl,hcap,hJ,fun J' h1 h2=>⟨rfl,?_⟩,fun c' h1 J' h2=>⟨rfl,?_⟩⟩)
  ·refine v9 (c:=fS c p t) (i:=1) (k:=2) rfl rfl (by decide) (by decide) (by decide) hx (.inr ⟨hne,cap,J',?_,rfl,?_,?_⟩)
   ·show _=PV.arr 2 0 (gC c.aa p t).length cap; rw[e3]
   ·show(gC c.aa p t).length≤cap; rw[e3]; exact h1
   ·show aJ J' ((cap-(gC c.aa p t).length)*6); rw[e3]; exact h2
  ·refine v9 (c:=fS c p t) (i:=1) (k:=3) rfl rfl (by decide) (by decide) (by decide) hx (.inr ⟨hne,c',J',?_,rfl,?_,?_⟩)
   ·show _=PV.arr 3 0 (gC c.aa p t).length c'; rw[e3]
   ·show(gC c.aa p t).length≤c'; rw[e3]; exact h1
   ·show aJ J' ((c'-(gC c.aa p t).length)*6); rw[e3]; exact h2
def cW (c:Mt) (ps:List Int) (t:Int):Mt:=ps.foldl (fun c p=>fS c p t) c
def tE (c:Mt) (r:Rr):Mt:=⟨c.id,c.md,c.ins,c.rows++[r],c.aa⟩
def fx (c:Mt) (r:Rr):Mt:=tE (cW c r.pl r.tm) r
def ay (c:Mt) (l:List Rr):Mt:=l.foldl fx c
theorem ze {c:Mt} {ps:List Int} {t:Int} {k:Nat} (h:k<ps.length):cW c (ps.take (k+1)) t=fS (cW c (ps.take k) t) (ps.getD k 0) t:=by
 unfold cW; rw[aI 0 h,List.foldl_append]; rfl
theorem rS {c:Mt} {l:List Rr} {k:Nat} (h:k<l.length):ay c (l.take (k+1))=fx (ay c (l.take k)) (l.getD k default):=by
 unfold ay; rw[aI default h,List.foldl_append]; rfl
theorem fg (ps:List Int) (t:Int):∀ c:Mt,(cW c ps t).aa.length=c.aa.length+ps.length:=by
 induction ps with
 | nil=>intro c; rfl
 | cons p ps ih=>intro c; show(cW (fS c p t) ps t).aa.length=_; rw[ih]; show(gC c.aa p t).length+_=_; rw[pX,List.length_cons]; omega
theorem qw (ps:List Int) (t:Int):∀ c:Mt,(cW c ps t).rows=c.rows:=by
 induction ps with
 | nil=>intro c; rfl
 | cons p ps ih=>intro c; show(cW (fS c p t) ps t).rows=_; rw[ih]; rfl
def tot (l:List Rr):Nat:=(l.map fun r=>r.pl.length).sum
theorem lc {l:List Rr} {k:Nat} (h:k<l.length):tot (l.take (k+1))=tot (l.take k)+(l.getD k default).pl.length:=by
 unfold tot; rw[aI default h,List.map_append,List.sum_append]; simp
theorem fO {l:List Rr} (k:Nat):tot (l.take k)≤tot l:=by
 unfold tot
 conv=>rhs; rw[← List.take_append_drop k l,List.map_append,List.sum_append]
 omega
theorem gE (l:List Rr):∀ c:Mt,(ay c l).aa.length=c.aa.length+tot l:=by
 induction l with
 | nil=>intro c; rfl
 | cons r l ih=>intro c; show(ay (fx c r) l).aa.length=_; rw[ih]; show(cW c r.pl r.tm).aa.length+_=_; rw[fg]; unfold tot; rw[List.map_cons,List.sum_cons]; omega
theorem c9 (l:List Rr):∀ c:Mt,(ay c l).rows=c.rows++l:=by
 induction l with
 | nil=>intro c; show c.rows=_; rw[List.append_nil]
 | cons r l ih=>intro c; show(ay (fx c r) l).rows=_; rw[ih]; show((cW c r.pl r.tm).rows++[r])++l=_; rw[qw,List.append_assoc]; rfl
def C9 (args:List PV) (K:PV→Prop):Prop:=∃(c:Mt) (t1 t2:Tail),ah args [.agg [.U c.id,.I c.md,.U c.ins,.list (c.rows.map rrc) t1,.list (c.aa.map stc) t2]]∧c.Sm∧K c.pv
theorem FM:SpK 36 (.pure C9):=by
 rintro args K ⟨c,t1,t2,he,h,hk⟩
 have he:args=_:=he
 subst he
 exact bB aj (.cons gK .nil) (bu c.low) c.low (Ja c h) hk
def Fg (args:List PV) (H:ae) (K:PV→ae→Prop):Prop:=∃(c:Mt) (t1 t2:Tail),ah args [.agg [.U c.id,.I c.md,.U c.ins,.list (c.rows.map rrc) t1,.list (c.aa.map stc) t2]]∧c.Sm∧∀(y:PV) (g:Ob),ArS H.length c.aa y g→K (eg c (.list (c.rows.map rrc) .exact) y) (H++[g])
theorem Hg:SpK 36 (.heap Fg):=fun _ _ _ ⟨c,t1,t2,he,h,hk⟩=>EH _ _ _ ⟨c,t1,t2,he,h,.inr (.inl hk)⟩
def Ft (args:List PV) (H:ae) (K:PV→ae→Prop):Prop:=∃(c:Mt) (t1 t2:Tail),ah args [.agg [.U c.id,.I c.md,.U c.ins,.list (c.rows.map rrc) t1,.list (c.aa.map stc) t2]]∧c.Sm∧∀(y:PV) (g:Ob),ArS H.length c.aa y g→K (eg c (.arr (H.length+1) 0 c.rows.length c.rows.length) y) (H++[g,.cells (flR c.rows)])
theorem Gt:SpK 36 (.heap Ft):=fun _ _ _ ⟨c,t1,t2,he,h,hk⟩=>EH _ _ _ ⟨c,t1,t2,he,h,.inr (.inr (.inl hk))⟩
def CD (args:List PV) (K:PV→Prop):Prop:=∃(l:List Int) (tl:Tail),ah args [.list (l.map u1) tl]∧l.length≤1000000∧K (.list (l.map u1) .no)
theorem IG:SpK 70 (.pure CD):=by
 rintro args K ⟨l,tl,he,hl,hk⟩
 have he:args=_:=he
 subst he
 exact bB (r:= .list (l.map u1) .no) aj (.cons (.list _ _) .nil) (bu (eC l)) (eC l) (xy _ _ _ ⟨l,.no,rfl,hl,.inl rfl⟩) hk
def TSD:Tab:=[(90,.heap BF),(70,.pure CD),(36,.heap Ft)]
theorem vR:TbK TSD:= .cons J2 (.cons IG (.cons Gt (.nil _ _)))
theorem Lo (c:Mt) (l:List Rr) (r:Rr) (i k:Nat):(by refine(?_:_→_→_→_→_→_→Prop) (Ob.cells [.U 0,.I 0,.U 0,.E,.E]) (List.getD (r.pl.map u1) (Int.toNat (k:Int)) []) (PV.list (r.pl.map u1) .no) (PV.list (l.map rrc) .no) (PV.I r.pl.length) (PV.I l.length); exact fun a f g j m n=>by refine(?_:_→_→Prop) (Ob.cells [.I r.tm,g,.I r.rt,.I r.wd]) [PV.ptr 0 0,.ptr 1 0,.ptr 4 0,j,n,.I i,g,m,.I k]; exact fun b d=>by refine(?_:_→Prop) [Ob.abs (mw c),a,.dead,.dead,b]; exact fun h=>∀(R:Ex→List PV→ae→Prop),(br (decide ((k:Int)<(r.pl.length:Int))) (InL (r.pl.map u1) 1 (k:Int)∧br (true && aE [.int .u32] 0 f) (∃(c_1:Mt) (p:Int) (t:Int),ah [.U (cI f 0),.I r.tm] [.U p,.I t]∧bR h 0 (mw c_1)∧c_1.aa.length≤1000000∧R .normal [.ptr 0 0,.ptr 1 0,.ptr 4 0,j,n,.I i,g,m,.I (wI ((k:Int)+1))] [.abs (mw (fS c_1 p t)),a,.dead,.dead,b]) False) (R (.exit 2) d h))→Holds (wpK TSD [] (fun _=>0) (ai [1,1,0,1,0,0,1,1,0,0,1,0,1,0] (ag Tryz.f58)) [] (ak [2,4,6,11,12,13,18,19,20] d) [.abs (mw c),a,.dead,.dead,.cells (rrc r)] (fun ex e H=>R ex (List.map e [2,4,6,11,12,13,18,19,20]) H)):Prop):=fun R h=>hoE h
theorem Km (c:Mt) (l:List Rr) (r:Rr) (i cap:Nat) (J:List PV) (y:PV) (gy:Ob):(by refine(?_:_→_→_→_→_→Prop) [PV.I r.tm,.list (r.pl.map u1) .no,.I r.rt,.I r.wd] [PV.ptr 0 0,.ptr 1 0,.ptr 4 0,.list (l.map rrc) .no,.I l.length,.I i] (Ob.cells [.U 0,.I 0,.U 0,.E,.E]) (c.rows.length+1) (Ob.cells (flR c.rows++J)); exact fun a b d f g=>∀(R:Ex→List PV→ae→Prop),((c.rows.length≤cap∧0+cap*4≤List.length (flR c.rows++J)∧4=4∧List.all a PV.one=true∧f*48≤140737488355328)∧(c.rows.length+1≤cap→R .normal b [.cells [.U c.id,.I c.md,.U c.ins,.arr 5 0 f cap,y],d,.dead,.dead,.cells a,.cells (over (flR c.rows++J) (0+c.rows.length*4) a),gy])∧(cap<c.rows.length+1→∀(c_1:Nat),c.rows.length+1≤c_1→R .normal b [.cells [.U c.id,.I c.md,.U c.ins,.arr 7 0 f c_1,y],d,.dead,.dead,.cells a,g,gy,.cells (List.take (c.rows.length*4) (List.drop 0 (flR c.rows++J))++a++List.flatten (List.replicate (c_1-f) [.I 0,.E,.I 0,.I 0]))]))→Holds (wpK [] [] (fun o=>match o.op with| .load t _=>(match t with|41=>1|_=>0)|_=>match o.dst with|some 37=>2|_=>0) (bX [1,1,0,1,0,0,1,1,0,0,1,1,1] (ag Tryz.f58)) [] (ak [2,4,6,11,12,13] b) [.cells [.U c.id,.I c.md,.U c.ins,.arr 5 0 c.rows.length cap,y],d,.dead,.dead,.cells (rrc r),g,gy] (fun ex e H=>R ex (List.map e [2,4,6,11,12,13]) H)):Prop):=fun R h=>hoE h
theorem Gy (c:Mt) (x y:PV) (gx gy:Ob):(by refine(?_:_→_→Prop) [PV.U c.id,.I c.md,.U c.ins,x,y] [PV.ptr 0 0,.ptr 1 0]; exact fun a b=>∀(R:Ex→List PV→ae→Prop),(br (5 == 5 && List.all a PV.one && true && true) (R .normal b [.cells a,.cells a,.dead,.dead,gx,gy]) False)→Holds (wpK [] [] (fun o=>match o.dst with|some 40=>1|_=>0) (bX [1,1,1,0] (ag Tryz.f58)) [] (ak [2,4] b) [.cells a,.cells [.U 0,.I 0,.U 0,.E,.E],.dead,.dead,gx,gy] (fun ex e H=>R ex (List.map e [2,4]) H)):Prop):=fun R h=>hoE h
theorem gZ (n:Nat):aJ (List.replicate n [PV.I 0,.E,.I 0,.I 0]).flatten (n*4):=by
 refine(aJ.qy (z:=[PV.I 0,.E,.I 0,.I 0]) (fun y hy=>?_) (lR (.int _ _) (aH NT.exact (by simp)) (.int _ _) (.int _ _)) n).cast (by simp)
 simp only[List.mem_cons,List.not_mem_nil,or_false] at hy
 rcases hy with rfl|rfl|rfl|rfl<;>rfl
theorem bQ (l:List Rr):(flR l).length=l.length*4:=bA fo l
theorem De (l:List Rr) (r:Rr):flR (l++[r])=flR l++rrc r:=by unfold flR; simp
def Ea:LSp:=fun e H Q=>∃(c:Mt) (l:List Rr) (r:Rr) (i:Nat),r.pl.length≤1000000∧c.aa.length+r.pl.length≤1000000∧ah (List.map e [2,4,6,11,12,13,18,19,20]) [.ptr 0 0,.ptr 1 0,.ptr 4 0,.list (l.map rrc) .no,.I l.length,.I i,.list (r.pl.map u1) .no,.I r.pl.length,.I 0]∧av H [.abs (mw c),.cells [.U 0,.I 0,.U 0,.E,.E],.dead,.dead,.cells (rrc r)]∧Q (.exit 2) (ak [2,4,6,11,12,13,18,19,20] [.ptr 0 0,.ptr 1 0,.ptr 4 0,.list (l.map rrc) .no,.I l.length,.I i,.list (r.pl.map u1) .no,.I r.pl.length,.I r.pl.length]) [.abs (mw (cW c r.pl r.tm)),.cells [.U 0,.I 0,.U 0,.E,.E],.dead,.dead,.cells (rrc r)]
theorem Bz:∀ e H Q,Ea e H Q→AwK Tryz.f58.ntmps (.loop (ai [1,1,0,1,0,0,1,1,0,0,1,0,1,0] (ag Tryz.f58))) Q e H:=by
 rintro e H Q ⟨c,l,r,i,hr,hl,he,hH,hQ⟩
 refine aB (hn:=fun _=>0) aj vR (.nil _ _ _ _ _) (σ:=Nat) [2,4,6,11,12,13,18,19,20] (fun k=>k≤r.pl.length) (fun k=>[.ptr 0 0,.ptr 1 0,.ptr 4 0,.list (l.map rrc) .no,.I l.length,.I i,.list (r.pl.map u1) .no,.I r.pl.length,.I k]) (fun k=>[.abs (mw (cW c (r.pl.take k) r.tm)),.cells [.U 0,.I 0,.U 0,.E,.E],.dead,.dead,.cells (rrc r)]) (fun k=>r.pl.length-k) 0 (Nat.zero_le _) he hH ?_
 intro k hk
 have hk:k≤r.pl.length:=hk
 refine Lo (cW c (r.pl.take k) r.tm) l r i k _ ?_
 simp only[au,dt,an,dM]
 by_cases h:k<r.pl.length
 ·rw[if_pos (by omega)]
  simp only[getD_map 0 h]
  refine⟨h,?_⟩
  rw[if_pos (by rfl)]
  have cid:cI (u1 (r.pl.getD k 0)) 0=r.pl.getD k 0:=rfl
  simp only[cid]
  refine⟨cW c (r.pl.take k) r.tm,r.pl.getD k 0,r.tm,rfl,rfl,?_,k+1,(show r.pl.length-(k+1)<r.pl.length-k by omega),h,by rw[ar h (by omega)],[],?_,Nat.le_refl _,.inl rfl⟩
  ·rw[fg,List.length_take]; omega
  ·rw[← ze h]; rfl
 ·rw[if_neg (by omega)]
  have:k=r.pl.length:=by omega
  subst this
  rw[List.take_length]
  exact hQ
theorem Gb:ai [1,1,0,0,1,0,1,0] (ai [1,1,0,1,0] (ag Tryz.f58))=ai [1,1,0,1,0,0,1,1,0,0,1,0,1,0] (ag Tryz.f58):=by kernel_rfl
theorem zo:∀ e H Q,Ea e H Q→AwK Tryz.f58.ntmps (.loop (ai [1,1,0,0,1,0,1,0] (ai [1,1,0,1,0] (ag Tryz.f58)))) Q e H:=by
 rw[Gb]; exact Bz
theorem EG {c:Mt} {H:ae} {x y:PV} {gx gy:Ob} (hx:ArR 1 c.rows x gx) (hy:ArS 2 c.aa y gy):∃ x' y',ArR H.length c.rows x' gx∧ArS (H.length+1) c.aa y' gy∧Nm (df 0 H.length) 3 x x'∧Nm (df 0 H.length) 3 y y':=by
 obtain⟨x',h1,h2⟩:=hx.nm H.length (ρ:=df 0 H.length) (n:=3) (by decide) rfl
 obtain⟨y',h3,h4⟩:=hy.nm (H.length+1) (ρ:=df 0 H.length) (n:=3) (by decide) (by rfl)
 exact⟨x',y',h1,h3,h2,h4⟩
theorem JR {g:Ob} {ρ:Nat→Nat} {n q:Nat} {H2:ae} (hg:g = .dead∨∃ cs,g = .cells cs) (hl:∀ cs,g = .cells cs→∀ x∈cs,Low 0 x) (h:H2[q]?=some g):g = .dead∧H2[q]?=some .dead∨∃ cs cs',g = .cells cs∧H2[q]?=some (.cells cs')∧NmL ρ n cs cs':=by
 rcases hg with rfl|⟨cs,rfl⟩
 ·exact .inl ⟨rfl,h⟩
 ·exact .inr ⟨cs,cs,rfl,h,NmL.low (hl cs rfl)⟩
theorem uy {c:Mt} {T:ae} {x y x' y':PV} {gx gy:Ob} (hx:ArR 1 c.rows x gx) (hy:ArS 2 c.aa y gy) (h1:Nm (df 0 (.abs (mw c)::T:ae).length) 3 x x') (h2:Nm (df 0 (.abs (mw c)::T:ae).length) 3 y y'):
  OpenH 0 [.cells [.U c.id,.I c.md,.U c.ins,x,y],gx,gy] (.abs (mw c)::T) (.cells [.U c.id,.I c.md,.U c.ins,x',y']::(T++[gx,gy])):=by
 refine⟨by simp,fun o h3 h4=>?_,fun k a hk=>?_⟩
 ·obtain⟨o,rfl⟩:=Nat.exists_eq_succ_of_ne_zero h4
  simp only[List.length_cons] at h3
  show(T++[gx,gy])[o]?=T[o]?
  rw[List.getElem?_append_left (by omega)]
 ·have k1:=(List.getElem?_eq_some_iff.1 hk).1
  simp at k1
  have:k=0∨k=1∨k=2:=by omega
  rcases this with rfl|rfl|rfl
  ·cases hk
   exact .inr ⟨_,_,rfl,rfl,.cons (.low (.int _ _)) (.cons (.low (.int _ _)) (.cons (.low (.int _ _)) (.cons h1 (.cons h2 .nil))))⟩
  ·cases hk
   refine JR hx.ob hx.mQ ?_
   show(_::(T++[gx,gy]))[(T.length+1)+0]?=_
   simp
  ·cases hk
   refine JR hy.ob hy.mQ ?_
   show(_::(T++[gx,gy]))[(T.length+1)+1]?=_
   simp
theorem va {c:Mt} {x y:PV} {gx gy:Ob} {i k:Nat} {T T2:ae} (hi:(.cells [.U c.id,.I c.md,.U c.ins,x,y]::T:ae)[i]?=some gx) (hk:(.cells [.U c.id,.I c.md,.U c.ins,x,y]::T:ae)[k]?=some gy) (h1:0≠i) (h2:0≠k) (h3:i≠k) (hx:ArR i c.rows x gx) (hy:ArS k c.aa y gy)
  (hl:T2.length=T.length) (ho:∀(o:Nat) (b:Ob),T2[o]?=some b→b.alive=true→T[o]?=some b∧o+1≠i∧o+1≠k):
  ∃(ρ:Nat→Nat) (hh:ae),ShutH ρ hh 0 (MW c) (.cells [.U c.id,.I c.md,.U c.ins,x,y]::T) (.abs (mw c)::T2):=by
 obtain⟨Z,k1,k2,k3,k4,k5⟩:=Jk (r:=0) rfl hi hk h1 h2 h3 hx hy
 refine⟨_,Z,k1,k4,k2,?_,rfl,by simp[hl],rfl,fun o b h4 h5 h6=>?_⟩
 ·rw[← k3]; exact jj _
 ·obtain⟨o,rfl⟩:=Nat.exists_eq_succ_of_ne_zero h4
  obtain⟨j1,j2,j3⟩:=ho o b h5 h6
  refine⟨j1,fun n hn=>?_⟩
  rw[k5] at hn
  have:n=0∨n=1∨n=2:=by omega
  rcases this with rfl|rfl|rfl
  ·show(0:Nat)≠o+1; omega
  ·exact fun e=>j2 e.symm
  ·exact fun e=>j3 e.symm
def CO:LSp:=fun e H Q=>∃(c:Mt) (l:List Rr) (r:Rr) (i:Nat),c.rows.length+1≤1000000∧ah (List.map e [2,4,6,11,12,13]) [.ptr 0 0,.ptr 1 0,.ptr 4 0,.list (l.map rrc) .no,.I l.length,.I i]∧av H [.abs (mw c),.cells [.U 0,.I 0,.U 0,.E,.E],.dead,.dead,.cells (rrc r)]∧∀(G:ae),Q .normal (ak [2,4,6,11,12,13] [.ptr 0 0,.ptr 1 0,.ptr 4 0,.list (l.map rrc) .no,.I l.length,.I i]) ([.abs (mw (tE c r)),.cells [.U 0,.I 0,.U 0,.E,.E],.dead,.dead,.cells (rrc r)]++G)
theorem A0:∀ e H Q,CO e H Q→AwK Tryz.f58.ntmps (bX [1,1,0,1,0,0,1,1,0,0,1,1,1] (ag Tryz.f58)) Q e H:=by
 rintro e H Q ⟨c,l,r,i,hl,he,hH,hQ⟩
 have hH:H=_:=hH
 have he:List.map e [2,4,6,11,12,13]=_:=he
 subst hH
 refine AW.yA (q:=0) (I:=MW c) rfl fun hh h _=>?_
 obtain⟨x,y,gx,gy,hx,hy,rfl⟩:=h
 obtain⟨x',y',hx',hy',h1,h2⟩:=EG (H:=[.abs (mw c),.cells [.U 0,.I 0,.U 0,.E,.E],.dead,.dead,.cells (rrc r)]) hx hy
 refine⟨_,uy hx hy h1 h2,?_⟩
 obtain⟨cap,J,rfl,rfl,hcap,hJ⟩:=hx'
 have hn:=hcap
 refine AW.MB (dj (T:=[]) (slots:=[2,4,6,11,12,13]) (outs:=[2,4,6,11,12,13]) (hn:=fun o=>match o.op with| .load t _=>(match t with|41=>1|_=>0)|_=>match o.dst with|some 37=>2|_=>0) (.nil _ _) (.nil _ _ _ _ _) he rfl (Km c l r i cap J y' gy (fun ex vs H'=>∃(ρ:Nat→Nat) (hh:ae) (q:Nat) (I:ae→Prop) (H2:ae),ShutH ρ hh q I H' H2∧Q ex (ak [2,4,6,11,12,13] vs) H2) ?_))
 have hlen:(flR c.rows++J).length=cap*4:=by rw[List.length_append,bQ,hJ.len,← Nat.add_mul]; congr 1; omega
 have e3:(c.rows++[r]).length=c.rows.length+1:=by simp
 refine⟨⟨hcap,by rw[hlen]; omega,rfl,rfl,by omega⟩,fun h=>?_,fun h c' hc'=>?_⟩
 ·have e4:=nV fo r (l:=c.rows) (J:=J) (by rw[hJ.len]; omega)
  rw[jF] at e4
  obtain⟨ρ,hh,hs⟩:=va (c:=tE c r) (x:= .arr 5 0 (c.rows.length+1) cap) (y:=y') (i:=5) (k:=6) (gx:= .cells (flR (c.rows++[r])++J.drop 4)) (gy:=gy) (T:=[.cells [.U 0,.I 0,.U 0,.E,.E],.dead,.dead,.cells (rrc r),.cells (flR (c.rows++[r])++J.drop 4),gy]) (T2:=[.cells [.U 0,.I 0,.U 0,.E,.E],.dead,.dead,.cells (rrc r),.dead,.dead]) rfl rfl (by decide) (by decide) (by decide) ⟨cap,J.drop 4,by show PV.arr 5 0 _ cap = .arr 5 0 (c.rows++[r]).length cap; rw[e3],rfl,by show(c.rows++[r]).length≤cap; rw[e3]; exact h,by show aJ _ ((cap-(c.rows++[r]).length)*4); rw[e3]; exact hJ.drop.cast (by omega)⟩ hy' rfl (fun o b h1 h2=>by
   have k1:=(List.getElem?_eq_some_iff.1 h1).1
   simp at k1
   have:o=0∨o=1∨o=2∨o=3∨o=4∨o=5:=by omega
   rcases this with rfl|rfl|rfl|rfl|rfl|rfl<;>first|(exact⟨h1,by decide,by decide⟩)|(cases h1; cases h2))
  refine⟨ρ,hh,0,MW (tE c r),_,?_,hQ [.dead,.dead]⟩
  rw[Nat.zero_add]
  have e5:over (flR c.rows++J) (c.rows.length*4) [PV.I r.tm,.list (List.map u1 r.pl) .no,.I r.rt,.I r.wd]=flR (c.rows++[r])++J.drop 4:=e4
  rw[e5]
  exact hs
 ·obtain⟨ρ,hh,hs⟩:=va (c:=tE c r) (x:= .arr 7 0 (c.rows.length+1) c') (y:=y') (i:=7) (k:=6) (gx:= .cells (flR (c.rows++[r])++(List.replicate (c'-(c.rows.length+1)) [PV.I 0,.E,.I 0,.I 0]).flatten)) (gy:=gy) (T:=[.cells [.U 0,.I 0,.U 0,.E,.E],.dead,.dead,.cells (rrc r),.cells (flR c.rows++J),gy,.cells (flR (c.rows++[r])++(List.replicate (c'-(c.rows.length+1)) [PV.I 0,.E,.I 0,.I 0]).flatten)]) (T2:=[.cells [.U 0,.I 0,.U 0,.E,.E],.dead,.dead,.cells (rrc r),.dead,.dead,.dead]) rfl rfl (by decide) (by decide) (by decide) ⟨c',_,by show PV.arr 7 0 _ c' = .arr 7 0 (c.rows++[r]).length c'; rw[e3],rfl,by show(c.rows++[r]).length≤c'; rw[e3]; exact hc',by show aJ _ ((c'-(c.rows++[r]).length)*4); rw[e3]; exact gZ _⟩ hy' rfl (fun o b h1 h2=>by
   have k1:=(List.getElem?_eq_some_iff.1 h1).1
   simp at k1
   have:o=0∨o=1∨o=2∨o=3∨o=4∨o=5∨o=6:=by omega
   rcases this with rfl|rfl|rfl|rfl|rfl|rfl|rfl<;>first|(exact⟨h1,by decide,by decide⟩)|(cases h1; cases h2))
  refine⟨ρ,hh,0,MW (tE c r),_,?_,hQ [.dead,.dead,.dead]⟩
  have e5:List.take (c.rows.length*4) (List.drop 0 (flR c.rows++J))++[PV.I r.tm,.list (List.map u1 r.pl) .no,.I r.rt,.I r.wd]=flR (c.rows++[r]):=by
   rw[List.drop_zero,List.take_left' (bQ _),De]; rfl
  rw[e5]
  exact hs
theorem FW:bX [1,1,0,0,1,1,1] (ai [1,1,0,1,0] (ag Tryz.f58))=bX [1,1,0,1,0,0,1,1,0,0,1,1,1] (ag Tryz.f58):=by kernel_rfl
theorem zI:∀ e H Q,CO e H Q→AwK Tryz.f58.ntmps (bX [1,1,0,0,1,1,1] (ai [1,1,0,1,0] (ag Tryz.f58))) Q e H:=by
 rw[FW]; exact A0
def Fa:LSp:=fun e H Q=>∃(c:Mt),ah (List.map e [2,4]) [.ptr 0 0,.ptr 1 0]∧av H [.abs (mw c),.cells [.U 0,.I 0,.U 0,.E,.E],.dead,.dead]∧∀(x y:PV) (gx gy:Ob),ArR 4 c.rows x gx→ArS 5 c.aa y gy→Q .normal (ak [2,4] [.ptr 0 0,.ptr 1 0]) [.cells [.U c.id,.I c.md,.U c.ins,x,y],.cells [.U c.id,.I c.md,.U c.ins,x,y],.dead,.dead,gx,gy]
theorem yT:∀ e H Q,Fa e H Q→AwK Tryz.f58.ntmps (bX [1,1,1,0] (ag Tryz.f58)) Q e H:=by
 rintro e H Q ⟨c,he,hH,hQ⟩
 have hH:H=_:=hH
 subst hH
 refine AW.yA (q:=0) (I:=MW c) rfl fun hh h _=>?_
 obtain⟨x,y,gx,gy,hx,hy,rfl⟩:=h
 obtain⟨x',y',hx',hy',h1,h2⟩:=EG (H:=[.abs (mw c),.cells [.U 0,.I 0,.U 0,.E,.E],.dead,.dead]) hx hy
 refine⟨_,uy hx hy h1 h2,?_⟩
 refine dj (T:=[]) (slots:=[2,4]) (outs:=[2,4]) (hn:=fun o=>match o.dst with|some 40=>1|_=>0) (.nil _ _) (.nil _ _ _ _ _) he rfl (Gy c x' y' gx gy (fun ex vs H'=>Q ex (ak [2,4] vs) H') ?_)
 rw[au,if_pos (by simp only[List.all_cons,hx'.one,hy'.one]; rfl)]
 exact hQ x' y' gx gy hx' hy'
theorem JT (c:Mt) (l:List Rr) (i:Nat):(by refine(?_:_→_→_→_→Prop) (Ob.cells [.U 0,.I 0,.U 0,.E,.E]) (List.getD (l.map rrc) (Int.toNat (i:Int)) []) (PV.list (l.map rrc) .no) (PV.I l.length); exact fun j k p q=>by refine(?_:_→_→_→Prop) [PV.ptr 0 0,.ptr 1 0,p,q,.I i] [Ob.abs (mw c),j,.dead,.dead] (PV.list (cL k 1) (cT k 1)); exact fun m n o=>∀(R:Ex→List PV→ae→Prop),(br (decide ((i:Int)<(l.length:Int))) (InL (l.map rrc) 4 (i:Int)∧br (true && aE [.int .i64,.list,.int .i64,.int .i64] 0 k) (∃(c_1:Mt) (l_1:List Rr) (r:Rr) (i_1:Nat),by refine(?_:_→_→_→Prop) (PV.list (r.pl.map u1) .no) (PV.list (l_1.map rrc) .no) (PV.I l_1.length); exact fun f g h=>r.pl.length≤1000000∧c_1.aa.length+r.pl.length≤1000000∧ah [.ptr 0 0,.ptr 1 0,.ptr 4 0,p,q,.I i,o,.I (↑(List.length (cL k 1)):Int),.I 0] [.ptr 0 0,.ptr 1 0,.ptr 4 0,g,h,.I i_1,f,.I r.pl.length,.I 0]∧av [.abs (mw c),j,.dead,.dead,.cells [.I (cI k 0),o,.I (cI k 2),.I (cI k 3)]] [.abs (mw c_1),j,.dead,.dead,.cells [.I r.tm,f,.I r.rt,.I r.wd]]∧∃(l:List Int) (tl:Tail),ah [f] [.list (l.map u1) tl]∧l.length≤1000000∧∃(c:Mt) (l_2:List Rr) (r_1:Rr) (i:Nat),by refine(?_:_→_→_→Prop) (Ob.cells [.I r_1.tm,.list (r_1.pl.map u1) .no,.I r_1.rt,.I r_1.wd]) (PV.list (l_2.map rrc) .no) (PV.I l_2.length); exact fun a b d=>c.rows.length+1≤1000000∧ah [.ptr 0 0,.ptr 1 0,.ptr 4 0,g,h,.I i_1] [.ptr 0 0,.ptr 1 0,.ptr 4 0,b,d,.I i]∧av [.abs (mw (cW c_1 r.pl r.tm)),j,.dead,.dead,.cells [.I r.tm,.list (l.map u1) .no,.I r.rt,.I r.wd]] [.abs (mw c),j,.dead,.dead,a]∧∀(G:ae),R .normal [.ptr 0 0,.ptr 1 0,b,d,.I (wI ((i:Int)+1))] ([.abs (mw (tE c r_1)),j,.dead,.dead,a]++G)) False) (R (.exit 0) m n))→Holds (wpK TSD [([1,1,0,0,1,0,1,0],Ea),([1,1,0,0,1,1,1],CO)] (fun _=>0) (ai [1,1,0,1,0] (ag Tryz.f58)) [] (ak [2,4,11,12,13] m) n (fun ex e H=>R ex (List.map e [2,4,11,12,13]) H)):Prop):=fun R h=>hoE h
theorem yj {c:Mt}:gD 4 [.abs (mw c),.cells [.U 0,.I 0,.U 0,.E,.E],.dead,.dead]:=by
 intro o cs ho
 have k1:=(List.getElem?_eq_some_iff.1 ho).1
 simp at k1
 have:o=0∨o=1∨o=2∨o=3:=by omega
 rcases this with rfl|rfl|rfl|rfl
 ·cases ho
 ·cases ho; exact fun x hx=> .low (rq x hx)
 ·cases ho
 ·cases ho
def JG:LSp:=fun e H Q=>∃(c:Mt) (l:List Rr) (x y:PV) (g gx:Ob),l.length≤1000000∧c.rows.length+l.length≤1000000∧(∀ r∈l,r.pl.length≤1000000)∧c.aa.length+tot l≤1000000∧ArR 3 c.rows x gx∧ArS 2 c.aa y g∧ah (List.map e [2,4,11,12,13]) [.ptr 0 0,.ptr 1 0,.list (l.map rrc) .no,.I l.length,.I 0]∧av H [.cells [.U c.id,.I c.md,.U c.ins,x,y],.cells [.U 0,.I 0,.U 0,.E,.E],g,gx]∧Q (.exit 0) (ak [2,4,11,12,13] [.ptr 0 0,.ptr 1 0,.list (l.map rrc) .no,.I l.length,.I l.length]) [.abs (mw (ay c l)),.cells [.U 0,.I 0,.U 0,.E,.E],.dead,.dead]
theorem Ej:∀ e H Q,JG e H Q→AwK Tryz.f58.ntmps (.loop (ai [1,1,0,1,0] (ag Tryz.f58))) Q e H:=by
 rintro e H Q ⟨c,l,x,y,g,gx,hl,hrl,hpl,hst,hx,hy,he,hH,hQ⟩
 have hH:H=_:=hH
 subst hH
 obtain⟨ρ,hh,hs⟩:=va (c:=c) (x:=x) (y:=y) (i:=3) (k:=2) (gx:=gx) (gy:=g) (T:=[.cells [.U 0,.I 0,.U 0,.E,.E],g,gx]) (T2:=[.cells [.U 0,.I 0,.U 0,.E,.E],.dead,.dead]) rfl rfl (by decide) (by decide) (by decide) hx hy rfl (fun o b h1 h2=>by
  have k1:=(List.getElem?_eq_some_iff.1 h1).1
  simp at k1
  have:o=0∨o=1∨o=2:=by omega
  rcases this with rfl|rfl|rfl<;>first|(exact⟨h1,by decide,by decide⟩)|(cases h1; cases h2))
 refine AW.shut hs ?_
 have lidv:∀ i:Nat,∀ v∈([.ptr 0 0,.ptr 1 0,.list (l.map rrc) .no,.I l.length,.I i]:List PV),Lid 4 v:=by
  intro i v hv
  simp only[List.mem_cons,List.not_mem_nil,or_false] at hv
  rcases hv with rfl|rfl|rfl|rfl|rfl
  ·exact .ptr _ _ (by decide)
  ·exact .ptr _ _ (by decide)
  ·exact .low (aP _)
  ·exact .low (.int _ _)
  ·exact .low (.int _ _)
 refine fB (hn:=fun _=>0) aj vR (.cons suE zo (.cons atE zI (.nil _ _ _ _ _))) (σ:=Nat) [2,4,11,12,13] (fun i=>i≤l.length) (fun i=>[.ptr 0 0,.ptr 1 0,.list (l.map rrc) .no,.I l.length,.I i]) (fun i=>[.abs (mw (ay c (l.take i))),.cells [.U 0,.I 0,.U 0,.E,.E],.dead,.dead]) (fun i=>l.length-i) 0 (Nat.zero_le _) he rfl ?_
 intro i hi
 have hi:i≤l.length:=hi
 have e1:=c9 (l.take i) c
 have e2:=gE (l.take i) c
 have e3:=fO (l:=l) i
 refine JT (ay c (l.take i)) l i _ ?_
 simp only[au,dt,an,dP]
 by_cases h:i<l.length
 ·rw[if_pos (by omega)]
  have e4:=lc h
  have e5:=fO (l:=l) (i+1)
  obtain⟨r,hr⟩:∃ r,r=l.getD i default:=⟨_,rfl⟩
  simp only[getD_map default h,← hr]
  rw[← hr] at e4
  refine⟨h,?_⟩
  rw[if_pos (by rfl)]
  have hrl:r.pl.length≤1000000:=hpl r (by rw[hr]; exact aX h)
  refine⟨ay c (l.take i),l,r,i,hrl,by omega,?_,rfl,r.pl,.no,rfl,hrl,cW (ay c (l.take i)) r.pl r.tm,l,r,i,?_,rfl,rfl,fun G=>?_⟩
  ·show _=_
   have c1:cL (rrc r) 1=r.pl.map u1:=rfl
   have c2:cT (rrc r) 1 = .no:=rfl
   rw[c1,c2,List.length_map]
  ·rw[qw,e1,List.length_append,List.length_take]; omega
  ·refine⟨i+1,(show l.length-(i+1)<l.length-i by omega),h,?_⟩
   have e6:tE (cW (ay c (l.take i)) r.pl r.tm) r=ay c (l.take (i+1)):=by rw[rS h,← hr]; rfl
   rw[e6,ar h (by omega)]
   exact eF (X:=[.abs (mw (ay c (l.take (i+1)))),.cells [.U 0,.I 0,.U 0,.E,.E],.dead,.dead]) (G:= .cells (rrc r)::G) yj (lidv (i+1)) (Nat.le_refl _)
 ·rw[if_neg (by omega)]
  have:i=l.length:=by omega
  subst this
  rw[List.take_length]
  exact⟨_,_,eF (X:=[.abs (mw (ay c l)),.cells [.U 0,.I 0,.U 0,.E,.E],.dead,.dead]) (G:=[]) yj (lidv l.length) (Nat.le_refl _),hQ⟩
theorem KJ (c:Mt) (l:List Rr):(by refine(?_:_→_→_→Prop) (Ob.cells [.U 0,.I 0,.U 0,.E,.E]) (PV.list (l.map rrc) .no) [PV.ptr 0 0,.ptr 1 0]; exact fun d e f=>∀(K:PV→ae→Prop),(∃(c_1:Mt) (t1:Tail) (t2:Tail),ah [.agg [.U c.id,.I c.md,.U c.ins,.list (c.rows.map rrc) .no,.list (c.aa.map stc) .no]] [.agg [.U c_1.id,.I c_1.md,.U c_1.ins,.list (c_1.rows.map rrc) t1,.list (c_1.aa.map stc) t2]]∧Mt.Sm c_1∧∀(y:PV),by refine(?_:_→Prop) [PV.U c_1.id,.I c_1.md,.U c_1.ins,.arr 3 0 c_1.rows.length c_1.rows.length,y]; exact fun b=>∀(g:Ob),ArS 2 c_1.aa y g→br (5 == 5 && List.all b PV.one && decide (5≤5) && true) (∃(c:Mt) (l_1:List Rr) (x:PV) (y_1:PV) (g_1:Ob) (gx:Ob),l_1.length≤1000000∧c.rows.length+l_1.length≤1000000∧(∀(r:Rr),r∈l_1→r.pl.length≤1000000)∧c.aa.length+tot l_1≤1000000∧ArR 3 c.rows x gx∧ArS 2 c.aa y_1 g_1∧ah [.ptr 0 0,.ptr 1 0,e,.I (↑(List.length (l.map rrc)):Int),.I 0] [.ptr 0 0,.ptr 1 0,.list (l_1.map rrc) .no,.I l_1.length,.I 0]∧av [.cells b,d,g,.cells (flR c_1.rows)] [.cells [.U c.id,.I c.md,.U c.ins,x,y_1],d,g_1,gx]∧∃(c_2:Mt),ah f f∧av [.abs (mw (ay c l_1)),d,.dead,.dead] [.abs (mw c_2),d,.dead,.dead]∧∀(x y:PV),by refine(?_:_→Prop) [PV.U c_2.id,.I c_2.md,.U c_2.ins,x,y]; exact fun a=>∀(gx gy:Ob),ArR 4 c_2.rows x gx→ArS 5 c_2.aa y gy→K (.agg a) [.cells a,.cells a,.dead,.dead,gx,gy]) False)→AcK 58 [c.pv,e] [] K:Prop):=fun K h=>acW (T:=TSD) (L:=[([1,1,0,1,0],JG),([1,1,1,0],Fa)]) (fun o=>match o.dst with|some 7=>1|_=>0) Tryz.func58 (vR) (.cons suE Ej (.cons atE yT (.nil _ _ _ _ _))) h
theorem Df {f:FuncId} {args:List PV} {H:ae} {c:Mt} {k m:Nat} {K:PV→ae→Prop}
  (h:AcK f args H (fun z H'=>∃(x y:PV) (gx gy:Ob),ArR k c.rows x gx∧ArS m c.aa y gy∧k≠m∧z=eg c x y∧H'[k]?=some gx∧H'[m]?=some gy∧∀ H2:ae,H2.length=H'.length→H2[m]?=some gy→(∀ i b,i≠m→H2[i]?=some b→b = .dead)→K (eg c (.list (c.rows.map rrc) .no) y) H2)):AcK f args H K:=by
 refine bW (aL h fun z H' hh=>?_)
 obtain⟨x,y,gx,gy,⟨cap,J,rfl,rfl,hc,hJ⟩,hy,hne,rfl,hk,hm,hK⟩:=hh
 have hml:=(List.getElem?_eq_some_iff.1 hm).1
 have g1:((List.replicate H'.length Ob.dead).set m gy)[m]?=some gy:=by rw[List.getElem?_set_self (by simpa using hml)]
 have g2:∀ i b,i≠m→((List.replicate H'.length Ob.dead).set m gy)[i]?=some b→b = .dead:=by
  intro i b hi hb
  rw[List.getElem?_set_ne (Ne.symm hi),List.getElem?_replicate] at hb
  split at hb
  ·cases hb; rfl
  ·cases hb
 refine⟨k,0,4,[],J,c.rows.map rrc,eg c (.list (c.rows.map rrc) .no) y,(List.replicate H'.length Ob.dead).set m gy,hk,rfl,b5 fo _,⟨by simp,fun i b hb=>?_⟩,?_,hK _ (by simp) g1 g2⟩
 ·by_cases e:i=m
  ·subst e
   rw[g1] at hb; cases hb
   exact .inr (.inl ⟨Ne.symm hne,hm⟩)
  ·exact .inl (g2 i b e hb)
 ·have:=Fz.arr (o:=k) (off:=0) (es:=c.rows.map rrc) cap (by rw[List.length_map]; exact hc)
  rw[List.length_map] at this
  exact Fz.iM (.cons (.refl _) (.cons (.refl _) (.cons (.refl _) (.cons this (.cons (.refl _) .nil)))))
theorem E5 (c:Mt) (l:List Rr) (h:c.Sm) (hl:c.rows.length+l.length≤1000000) (hp:∀ r∈l,r.pl.length≤1000000) (hs:c.aa.length+tot l≤1000000):AcK 58 [c.pv,.list (l.map rrc) .no] [] (fun x _=>x=(ay c l).pv):=by
 obtain⟨d,hd⟩:∃ d,d=ay c l:=⟨_,rfl⟩
 rw[← hd]
 have h1:AcK 58 [c.pv,.list (l.map rrc) .no] [] (fun z H'=>∃(y:PV) (gy:Ob),ArS 5 d.aa y gy∧z=eg d (.list (d.rows.map rrc) .no) y∧H'[5]?=some gy∧(∀ i b,i≠5→H'[i]?=some b→b = .dead)):=by
  refine Df (c:=d) (k:=4) (m:=5) (KJ c l _ ⟨c,.no,.no,rfl,h,fun y g hA=>?_⟩)
  rw[au,if_pos (by simp only[List.all_cons,hA.one]; rfl)]
  refine⟨c,l,_,y,g,_,by omega,hl,hp,hs,⟨c.rows.length,[],rfl,?_,Nat.le_refl _,(gZ 0).cast (by simp)⟩,hA,?_,rfl,d,rfl,by rw[← hd]; rfl,fun x y gx gy hx hy=>⟨x,y,gx,gy,hx,hy,by decide,rfl,rfl,rfl,fun H2 _ k2 k3=>⟨y,gy,hy,rfl,k2,k3⟩⟩⟩
  ·rw[List.append_nil]
  ·show _=_; rw[List.length_map]
 by_cases e:d.aa=[]
 ·refine a9 (aL h1 fun z H' hh=>?_)
  obtain⟨y,gy,hy,rfl,_⟩:=hh
  rcases hy with⟨_,rfl,rfl⟩|⟨hn,_⟩
  ·refine⟨d.pv,?_,rfl⟩
   have:=gK (c:=d) (t1:= .no) (t2:= .exact)
   rw[e] at this
   exact this
  ·exact absurd e hn
 ·refine bW (aL h1 fun z H' hh=>?_)
  obtain⟨y,gy,hy,rfl,h5,hr⟩:=hh
  rcases hy with⟨h0,_⟩|⟨_,cap,J,rfl,rfl,hc,hJ⟩
  ·exact absurd h0 e
  ·refine⟨5,0,6,[],J,d.aa.map stc,d.pv,List.replicate H'.length .dead,h5,rfl,b5 bP _,⟨by simp,fun i b hb=> .inl ?_⟩,?_,rfl⟩
   ·rw[List.getElem?_replicate] at hb
    split at hb
    ·cases hb; rfl
    ·cases hb
   ·have:=Fz.arr (o:=5) (off:=0) (es:=d.aa.map stc) cap (by rw[List.length_map]; exact hc)
    rw[List.length_map] at this
    exact Fz.iM (.cons (.refl _) (.cons (.refl _) (.cons (.refl _) (.cons (.refl _) (.cons this .nil)))))
def sS (args:List PV) (K:PV→Prop):Prop:=∃(c:Mt) (l:List Rr) (t1 t2 t3:Tail),ah args [.agg [.U c.id,.I c.md,.U c.ins,.list (c.rows.map rrc) t1,.list (c.aa.map stc) t2],.list (l.map rrc) t3]∧c.Sm∧c.rows.length+l.length≤1000000∧(∀ r∈l,r.pl.length≤1000000)∧c.aa.length+tot l≤1000000∧K (ay c l).pv
theorem zU:SpK 58 (.pure sS):=by
 rintro args K ⟨c,l,t1,t2,t3,he,h,hl,hp,hs,hk⟩
 have he:args=_:=he
 subst he
 exact bB aj (.cons gK (.cons (.list _ _) .nil)) (bn c.low (aP _)) (ay c l).low (E5 c l h hl hp hs) hk
abbrev aq (w:List Mt):List RwM:=rowsOf Mt.id w
def inM (c:Mt) (p:Int):Bool:=c.aa.any (isP p)
def ofM (w:List Mt) (p:Int):Int:=if w.findIdx (fun c=>inM c p)<w.length then(w.getD (w.findIdx fun c=>inM c p) default).id else 0
def pairs (l:List Rr):List (Int×Int):=l.flatMap fun r=>r.pl.map fun p=>(p,r.tm)
def fb (l:List Se):List (Int×Int):=l.map fun s=>(s.pl,s.tm)
def taken (l:List Rr) (t:Int):Nat:=((l.filter fun r=>r.tm == t).map fun r=>r.pl.length).sum
structure Mt.Ok (c:Mt):Prop where
 rt:aC c.id=true
 sn:c.aa.Pairwise fun a b=>a.nu<b.nu
 lo:∀ s∈c.aa,0≤s.nu∧s.nu<8
 tm:∀ r∈c.rows,r.tm=1∨r.tm=2
 ne:∀ r∈c.rows,r.pl≠[]
 pm:(fb c.aa).Perm (pairs c.rows)
 nd:(c.aa.map Se.pl).Nodup
 t1:taken c.rows 1≤4
 t2:taken c.rows 2≤4
theorem mL {l:List Rr} (h:∀ r∈l,r.tm=1∨r.tm=2):tot l=taken l 1+taken l 2:=by
 induction l with
 | nil=>rfl
 | cons r l ih=>
  have ih:=ih fun a ha=>h a (by simp[ha])
  unfold tot taken at *
  rcases h r (by simp) with e|e<;>simp[e]<;>omega
theorem qD (l:List Rr):(pairs l).length=tot l:=by
 unfold pairs tot; simp[List.length_flatMap]
theorem Hu {l:List Rr} (h:∀ r∈l,r.pl≠[]):l.length≤tot l:=by
 induction l with
 | nil=>exact Nat.le_refl _
 | cons r l ih=>
  have ih:=ih fun a ha=>h a (by simp[ha])
  have:=List.length_pos_iff.2 (h r (by simp))
  unfold tot at *
  simp only[List.map_cons,List.sum_cons,List.length_cons]; omega
theorem vn {l:List Rr} {r:Rr} (h:r∈l):r.pl.length≤tot l:=by
 induction l with
 | nil=>cases h
 | cons a l ih=>
  unfold tot at *
  simp only[List.map_cons,List.sum_cons]
  rcases List.mem_cons.1 h with rfl|h
  ·omega
  ·have:=ih h; omega
theorem Mt.Ok.tot {c:Mt} (h:c.Ok):tot c.rows≤8:=by have:=mL h.tm; have:=h.t1; have:=h.t2; omega
theorem Mt.Ok.aa {c:Mt} (h:c.Ok):c.aa.length=Go.Proofs.YtenaelaapdhbdaaGreatDoor.tot c.rows:=by
 have:=h.pm.length_eq
 rw[qD] at this
 unfold fb at this
 rwa [List.length_map] at this
theorem Mt.Ok.sm {c:Mt} (h:c.Ok):c.Sm:=by
 have h1:=h.tot
 refine⟨?_,?_,fun r hr=>?_⟩
 ·have:=Hu h.ne; omega
 ·have:=h.aa; omega
 ·have:=vn hr; omega
structure MO (w:List Mt) (m:Int):Prop where
 rise:dD Mt.id w
 full:(w.length:Int)≤m
 big:m≤1000000
 cs:∀ c∈w,c.Ok
 one:∀ a∈w,∀ b∈w,∀ p,inM a p=true→inM b p=true→a=b
theorem MO.sm {w:List Mt} {m:Int} (h:MO w m) (c:Mt) (hc:c∈w):c.Sm:=(h.cs c hc).sm
theorem MO.ok {w:List Mt} {m:Int} (h:MO w m):Ok (aq w) m:=h.rise.ok h.full h.big
theorem MO.len {w:List Mt} {m:Int} (h:MO w m):w.length≤1000000:=by have:=h.full; have:=h.big; omega
abbrev mt0:Mt:=⟨0,0,0,[],[]⟩
theorem LQ:mt0.Sm:=⟨(show(0:Nat)≤1000000 by decide),(show(0:Nat)≤1000000 by decide),fun _ h=>nomatch h⟩
abbrev gM (w:List Mt) (t:Int):Mt:=nR Mt.id w t
theorem MO.I2 {w:List Mt} {m:Int} (h:MO w m) (t:Int):(gM w t).Sm:=by
 cases c:bC Mt.id w t with
 | true=>exact h.sm _ (fC c).1
 | false=>rw[show gM w t=_ from gL c]; exact LQ
theorem so {n:Nat} (c:Mt) (b:Bool):Low n (.tup [c.pv,.bool b]):= .tup _ (bn c.low (.bool _))
theorem Mu (w:List Mt):bS (aq w)=(w.map Mt.id).map u1:=by simp[bS,rowsOf,u1,Function.comp_def]
theorem GN (l:List Se) (p:Int):decide (ixS l p≥0)=l.any (isP p):=by
 unfold ixS
 by_cases c:l.findIdx (isP p)<l.length
 ·rw[if_pos c,decide_eq_true (by omega)]
  exact(List.any_eq_true.2 ⟨_,List.getElem_mem c,List.findIdx_getElem (w:=c)⟩).symm
 ·rw[if_neg c,decide_eq_false (by omega)]
  symm
  rw[List.any_eq_false]
  intro x hx hp
  exact c (List.findIdx_lt_length_of_exists ⟨x,hx,hp⟩)
theorem Ad (R:Rep):MR [.cells [.ptr 1 0],.abs R]:=lM (by
 intro ob hob
 simp only[List.mem_cons,List.not_mem_nil,or_false] at hob
 rcases hob with rfl|rfl
 ·exact fun x hx=>LY hx
 ·trivial)
def TT0:Tab:=TMM [(63,.read KL),(36,.pure C9)]
theorem r9:TbK TT0:=Fe (.cons IY (.cons FM (.nil _ _)))
theorem AI (l:List RwM) (m:Int)  (K:PV→ae→Prop) (h:∃(q:Nat) (l_1:List RwM) (most:Int),ah [.ptr 1 0] [.ptr q 0]∧bR [.cells [.ptr 1 0],.abs (rkM l m)] q (rkM l_1 most)∧Ok l_1 most∧K (.list (bS l_1) .no) [.cells [.ptr 1 0],.abs (rkM l m)]):AcK 31 [.ptr 0 0] [.cells [.ptr 1 0],.abs (rkM l m)] K:=
 acW (T:=TT0) (L:=[]) (fun _=>0) Tryz.func31 (r9) (LOk.nil _ _ _ _ _) h
def wF (args:List PV) (H:ae) (K:PV→Prop):Prop:=∃(q r:Nat) (w:List Mt) (m:Int),ah args [.ptr q 0]∧cj H q r (rkM (aq w) m)∧MO w m∧K (.list ((w.map Mt.id).map u1) .no)
theorem xF:SpK 31 (.read wF):=by
 rintro args H K ⟨q,r,w,m,he,hb,ro,hk⟩
 have he:args=_:=he
 subst he
 refine⟨_,jB aj hb Fj (eC _) (AI (aq w) m _ ⟨1,aq w,m,rfl,rfl,ro.ok,?_⟩),hk⟩
 exact⟨by rw[Mu],_,rfl⟩
def TT1:Tab:=(31,.read wF)::TT0
theorem BO:TbK TT1:= .cons xF r9
theorem LK (w:List Mt) (m p:Int) (i:Nat):(by refine(?_:_→_→_→_→Prop) (List.map u1 (w.map Mt.id)) (PV.I w.length) (Ob.abs (rkM (aq w) m)) (Ob.cells [.ptr 1 0]); exact fun f j k r=>by refine(?_:_→_→Prop) [r,k] (List.getD f (Int.toNat (i:Int)) []); exact fun g h=>by refine(?_:_→Prop) (PV.U (cI h 0)); exact fun s=>∀(R:Ex→List PV→ae→Prop),(br (decide ((i:Int)<(w.length:Int))) (InL f 1 (i:Int)∧br (true && aE [.int .u32] 0 h) (∃(q:Nat) (l:List RwM) (most:Int) (t:Int),by refine(?_:_→Prop) [PV.U (Mt.id (bD l t)),.I (Mt.md (bD l t)),.U (Mt.ins (bD l t)),.list (List.map rrc (Mt.rows (bD l t))) .no,.list (List.map stc (Mt.aa (bD l t))) .no]; exact fun b=>by refine(?_:_→Prop) [r,k,.cells b]; exact fun d=>ah [.ptr 1 0,s] [.ptr q 0,.U t]∧bR g q (rkM l most)∧Ok l most∧∃(c:Mt) (x:PV) (y:PV) (p_1:Int),by refine(?_:_→Prop) (∃(t:Tail),x = .list (c.rows.map rrc) t); exact fun a=>ah [.agg b,.U p] [.agg [.U c.id,.I c.md,.U c.ins,x,y],.U p_1]∧c.aa.length≤1000000∧((a∧∃(t:Tail),y = .list (c.aa.map stc) t)∨(a∧∃(o:Nat) (cap:Nat) (J:List PV),y = .arr o 0 c.aa.length cap∧c.aa.length≤cap∧iz d o (flS c.aa++J))∨(∃(o:Nat) (n:Nat) (cap:Nat),x = .arr o 0 n cap∧o<3)∧∃(o:Nat) (cap:Nat) (J:List PV),y = .arr o 0 c.aa.length cap∧c.aa.length≤cap∧iz d o (flS c.aa++J))∧br (decide (ixS c.aa p_1≥0)) (R .ret [.ptr 0 0,.U p,s,.list f .no,j,.I i] d) (R .normal [.ptr 0 0,.U p,.U 0,.list f .no,j,.I (wI ((i:Int)+1))] d)) False) (R (.exit 0) [.ptr 0 0,.U p,.U 0,.list f .no,j,.I i] g))→Holds (wpK TT1 [] (fun _=>0) (ai [1,0,1,0] (ag Tryz.f62)) [] (ak [0,1,4,10,11,12] [.ptr 0 0,.U p,.U 0,.list ((w.map Mt.id).map u1) .no,j,.I i]) g (fun ex e H=>R ex (List.map e [0,1,4,10,11,12]) H)):Prop):=fun R h=>hoE h
theorem H7 {w:List Mt} {i:Nat} (h:i<w.length):((w.map Mt.id).map u1).getD i []=u1 (w.getD i default).id:=by
 rw[List.map_map,getD_map default h]; rfl
theorem Hi (w:List Mt) (i:Nat):InL ((w.map Mt.id).map u1) 1 (i:Int)=(i<w.length):=by rw[dM,List.length_map]
def Jr:LSp:=fun e H Q=>∃(w:List Mt) (m p:Int),MO w m∧ah (List.map e [0,1,4,10,11,12]) [.ptr 0 0,.U p,.U 0,.list ((w.map Mt.id).map u1) .no,.I w.length,.I 0]∧av H [.cells [.ptr 1 0],.abs (rkM (aq w) m)]∧
 (w.findIdx (fun c=>inM c p)<w.length→∀ G,Q .ret (ak [0,1,4,10,11,12] [.ptr 0 0,.U p,.U (ofM w p),.list ((w.map Mt.id).map u1) .no,.I w.length,.I (w.findIdx (fun c=>inM c p))]) ([.cells [.ptr 1 0],.abs (rkM (aq w) m)]++G))∧
 (w.findIdx (fun c=>inM c p)=w.length→Q (.exit 0) (ak [0,1,4,10,11,12] [.ptr 0 0,.U p,.U 0,.list ((w.map Mt.id).map u1) .no,.I w.length,.I w.length]) [.cells [.ptr 1 0],.abs (rkM (aq w) m)])
theorem B1:∀ e H Q,Jr e H Q→AwK Tryz.f62.ntmps (.loop (ai [1,0,1,0] (ag Tryz.f62))) Q e H:=by
 rintro e H Q ⟨w,m,p,ro,he,hH,hQ1,hQ2⟩
 have hfl:w.findIdx (fun c=>inM c p)≤w.length:=List.findIdx_le_length
 have hlen:=ro.len
 refine aB (hn:=fun _=>0) aj BO (.nil _ _ _ _ _) (σ:=Nat) [0,1,4,10,11,12] (fun i=>i≤w.findIdx (fun c=>inM c p)) (fun i=>[.ptr 0 0,.U p,.U 0,.list ((w.map Mt.id).map u1) .no,.I w.length,.I i]) (fun _=>[.cells [.ptr 1 0],.abs (rkM (aq w) m)]) (fun i=>w.length-i) 0 (Nat.zero_le _) he hH ?_
 intro i hi
 have hi':i≤w.findIdx (fun c=>inM c p):=hi
 refine LK w m p i _ ?_
 simp only[au,dt,Hi,an]
 by_cases h:i<w.length
 ·rw[if_pos (by omega),H7 h]
  refine⟨h,?_⟩
  rw[if_pos (by rfl)]
  obtain⟨c,hcd⟩:∃ c,c=w.getD i default:=⟨_,rfl⟩
  have hcm:c∈w:=by rw[hcd]; exact aX h
  have hid:cI (u1 (w.getD i default).id) 0=c.id:=by rw[← hcd]; rfl
  rw[hid]
  have hg:bD (aq w) c.id=c:=by rw[ku ro.ok]; exact w4 ro.rise hcm
  refine⟨1,aq w,m,c.id,rfl,rfl,ro.ok,?_⟩
  rw[hg]
  refine⟨c,_,_,p,rfl,(ro.sm c hcm).aa,.inl ⟨⟨_,rfl⟩,_,rfl⟩,?_⟩
  have hany:(ixS c.aa p≥0)↔inM c p=true:=by rw[inM,← GN,decide_eq_true_eq]
  by_cases k:ixS c.aa p≥0
  ·have hge:w.findIdx (fun c=>inM c p)=i:=dY default hi' h (by rw[← hcd]; exact hany.1 k)
   rw[if_pos k]
   have:=hQ1 (by omega)
   unfold ofM at this
   rw[hge,if_pos h,← hcd] at this
   exact this [_]
  ·have hlt:i<w.findIdx (fun c=>inM c p):=dS default hi' h (by rw[← hcd]; exact Bool.eq_false_iff.2 fun e=>k (hany.2 e))
   rw[if_neg k]
   exact⟨i+1,(show w.length-(i+1)<w.length-i by omega),hlt,by rw[ar h (by omega)],[_],rfl,Nat.le_refl _,.inr ⟨by
    intro v hv
    simp only[List.mem_cons,List.not_mem_nil,or_false] at hv
    rcases hv with rfl|rfl|rfl|rfl|rfl|rfl
    ·exact .ptr _ _ (by simp)
    ·exact .int _ _
    ·exact .int _ _
    ·exact eC _
    ·exact .int _ _
    ·exact .int _ _,Ad _⟩⟩
 ·rw[if_neg (by omega)]
  have:i=w.length:=by omega
  subst this
  exact hQ2 (by omega)
theorem Ix (w:List Mt) (m p:Int):(by refine(?_:_→Prop) (Ob.cells [.ptr 1 0]); exact fun e=>by refine(?_:_→Prop) [e,.abs (rkM (aq w) m)]; exact fun d=>∀(K:PV→ae→Prop),(∃(q:Nat) (r:Nat) (w_1:List Mt) (m_1:Int),ah [.ptr 0 0] [.ptr q 0]∧cj d q r (rkM (aq w_1) m_1)∧MO w_1 m_1∧∃(w_2:List Mt) (m_2:Int) (p_1:Int),by refine(?_:_→_→Prop) [e,.abs (rkM (aq w_2) m_2)] (fun(c:Mt)=>inM c p_1); exact fun a b=>MO w_2 m_2∧ah [.ptr 0 0,.U p,.U 0,.list (List.map u1 (w_1.map Mt.id)) .no,.I (↑(List.length (List.map u1 (w_1.map Mt.id))):Int),.I 0] [.ptr 0 0,.U p_1,.U 0,.list (List.map u1 (w_2.map Mt.id)) .no,.I w_2.length,.I 0]∧av d a∧(List.findIdx b w_2<w_2.length→∀(G:List Ob),K (.U (ofM w_2 p_1)) (a++G))∧(List.findIdx b w_2=w_2.length→K (.U 0) a))→AcK 62 [.ptr 0 0,.U p] d K:Prop):=fun K h=>acW (T:=TT1) (L:=[([1,0,1,0],Jr)]) (fun _=>0) Tryz.func62 (BO) (.cons suE B1 (.nil _ _ _ _ _)) h
def DZ (args:List PV) (H:ae) (K:PV→Prop):Prop:=∃(q r:Nat) (w:List Mt) (m p:Int),ah args [.ptr q 0,.U p]∧cj H q r (rkM (aq w) m)∧MO w m∧K (.U (ofM w p))
theorem Eo:SpK 62 (.read DZ):=by
 rintro args H K ⟨q,r,w,m,p,he,hb,ro,hk⟩
 have he:args=_:=he
 subst he
 refine⟨_,jB aj hb cN (.int _ _) (Ix w m p _ ⟨0,1,w,m,rfl,⟨rfl,rfl⟩,ro,w,m,p,ro,(by show _=_; simp only[List.length_map]),rfl,fun h G=>?_,fun h=>?_⟩),hk⟩
 ·exact⟨rfl,_,rfl⟩
 ·refine⟨?_,[],rfl⟩
  unfold ofM
  rw[if_neg (by omega)]
theorem F7 (w:List Mt) (m t:Int):∀(K:PV→ae→Prop),(∃(q:Nat) (l:List RwM) (most:Int) (t_1:Int),by refine(?_:_→Prop) [PV.U (Mt.id (bD l t_1)),.I (Mt.md (bD l t_1)),.U (Mt.ins (bD l t_1)),.list (List.map rrc (Mt.rows (bD l t_1))) .no,.list (List.map stc (Mt.aa (bD l t_1))) .no]; exact fun b=>ah [.ptr 1 0,.U t] [.ptr q 0,.U t_1]∧bR [.cells [.ptr 1 0],.abs (rkM (aq w) m),.cells [.U 0,.I 0,.U 0,.E,.E]] q (rkM l most)∧Ok l most∧∃(c:Mt) (t1:Tail) (t2:Tail),by refine(?_:_→Prop) [PV.U c.id,.I c.md,.U c.ins,.list (c.rows.map rrc) .no,.list (c.aa.map stc) .no]; exact fun a=>ah [.agg b] [.agg [.U c.id,.I c.md,.U c.ins,.list (c.rows.map rrc) t1,.list (c.aa.map stc) t2]]∧Mt.Sm c∧K (.tup [.agg a,.bool (has l t_1)]) [.cells [.ptr 1 0],.abs (rkM (aq w) m),.cells a,.cells b])→AcK 9 [.ptr 0 0,.U t] [.cells [.ptr 1 0],.abs (rkM (aq w) m)] K:=fun K h=>acW (T:=TT0) (L:=[]) (fun o=>match o.dst with|some 21=>1|_=>0) Tryz.func9 (r9) (LOk.nil _ _ _ _ _) h
end Go.Proofs.YtenaelaapdhbdaaGreatDoor
