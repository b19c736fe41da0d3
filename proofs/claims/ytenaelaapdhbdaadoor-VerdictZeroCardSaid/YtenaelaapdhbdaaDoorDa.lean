/-
  The program's functions under a rack.
-/
import Derived.Test.YtenaelaapdhbdaaDoorA3
import Derived.Test.YtenaelaapdhbdaaDoorProg
namespace Go.Proofs.YtenaelaapdhbdaaDoor
open Go Go.AM Go.Proofs
def scs:List Int:=[500,1000,0]
def uT:List Int:=[500,571,640,703,760,808,849,882,909,930,947,960,969,977,983,987,990]
def gl:aC:=fun k=>match k with
 | 1=>some [.int .i64 500,.int .i64 571,.int .i64 640,.int .i64 703,.int .i64 760,.int .i64 808,.int .i64 849,.int .i64 882,.int .i64 909,.int .i64 930,.int .i64 947,.int .i64 960,.int .i64 969,.int .i64 977,.int .i64 983,.int .i64 987,.int .i64 990]
 | 0=>some [.int .i64 500,.int .i64 1000,.int .i64 0]
 | _=>none
theorem aq:aU gl:=by
 intro k cs hk x hx
 unfold gl at hk
 split at hk
 ·cases hk; simp at hx; rcases hx with rfl|rfl|rfl|rfl|rfl|rfl|rfl|rfl|rfl|rfl|rfl|rfl|rfl|rfl|rfl|rfl|rfl<;>exact .int _ _
 ·cases hk; simp at hx; rcases hx with rfl|rfl|rfl<;>exact .int _ _
 ·cases hk
abbrev wI (n:Int):Int:=IntKind.wrap .i64 n
theorem a8 {n:Int} (h0: -9223372036854775808≤n) (h1:n≤9223372036854775807):wI n=n:=wrap_i64 h0 h1
theorem ax {i n:Nat} (h:i<n) (hn:(n:Int)≤4611686018427387904):wI ((i:Int)+1)=((i+1:Nat):Int):=by
 rw[a8 (by omega) (by omega)]; rfl
theorem bj {α:Type} {l:List α} {i:Nat} {d:α} (h:i<l.length):l.getD i d∈l:=by
 rw[List.getD_eq_getElem?_getD,List.getElem?_eq_getElem h]; exact List.getElem_mem h
theorem Ef (a:Int)  (K:PV→Prop) (h:K (.bool (a != a))):aj Tryd.prog gl 78 [.int .u32 a] [] (fun x _=>K x):=
 ah (T:=[]) (L:=[]) (fun _=>0) Tryd.func78 (by kernel_rfl) (by kernel_rfl) (by kernel_rfl) (aB.nil _ _) (LOk.nil _ _ _ _ _) (ag (by kernel_rfl) h)
theorem DE (a:Int)  (K:PV→Prop) (h:br (decide (a≥1) == true) (K (.bool (decide (a≤2147483647)))) (K (.bool false))):aj Tryd.prog gl 26 [.int .u32 a] [] (fun x _=>K x):=
 ah (T:=[]) (L:=[]) (fun _=>0) Tryd.func26 (by kernel_rfl) (by kernel_rfl) (by kernel_rfl) (aB.nil _ _) (LOk.nil _ _ _ _ _) (ag (by kernel_rfl) h)
def qJ (args:List PV) (K:PV→Prop):Prop:=match args with
 | [.int .u32 _]=>K (.bool false)
 | _=>False
theorem C2:aO Tryd.prog gl 78 (.pure qJ):=by
 intro args K h
 unfold qJ at h
 split at h
 ·rename_i a
  refine eM aq (by simp[dY]) (.bool _) (Ef a (fun x=>x = .bool false) ?_) h
  simp
 ·exact h.elim
def aF (a:Int):Bool:=decide (1≤a∧a≤2147483647)
def ki (args:List PV) (K:PV→Prop):Prop:=match args with
 | [.int .u32 a]=>K (.bool (aF a))
 | _=>False
theorem od:aO Tryd.prog gl 26 (.pure ki):=by
 intro args K h
 unfold ki at h
 split at h
 ·rename_i a
  refine eM aq (by simp[dY]) (.bool _) (DE a (fun x=>x = .bool (aF a)) ?_) h
  simp only[ay,bt,dt]
  unfold aF
  by_cases c:a≥1
  ·rw[if_pos c]; congr 1; apply decide_eq_decide.2; omega
  ·rw[if_neg c]; congr 1; symm; apply decide_eq_false; omega
 ·exact h.elim
def TK0:Tab:=[(78,.pure qJ),(26,.pure ki)]
theorem Bq:aB Tryd.prog gl TK0:= .cons C2 (.cons od (.nil _ _))
theorem GW (a b:Int)  (K:PV→Prop) (h:br (decide (a<b)) (K (.int .i64 (-1))) (br (decide (a>b)) (K (.int .i64 1)) (K (.int .i64 0)))):aj Tryd.prog gl 53 [.int .u32 a,.int .u32 b] [] (fun x _=>K x):=
 ah (T:=TK0) (L:=[]) (fun _=>0) Tryd.func53 (by kernel_rfl) (by kernel_rfl) (by kernel_rfl) (Bq) (LOk.nil _ _ _ _ _) (ag (by kernel_rfl) h)
def fB (a b:Int):Int:=if a<b then -1 else if a>b then 1 else 0
def tE (args:List PV) (K:PV→Prop):Prop:=match args with
 | [.int .u32 a,.int .u32 b]=>K (.int .i64 (fB a b))
 | _=>False
theorem EL:aO Tryd.prog gl 53 (.pure tE):=by
 intro args K h
 unfold tE at h
 split at h
 ·rename_i a b
  refine eM aq (by simp[dY]) (.int _ _) (GW a b (fun x=>x = .int .i64 (fB a b)) ?_) h
  simp only[ay,dt]
  unfold fB
  by_cases c:a<b
  ·rw[if_pos c,if_pos c]
  rw[if_neg c,if_neg c]
  by_cases d:a>b
  ·rw[if_pos d,if_pos d]
  ·rw[if_neg d,if_neg d]
 ·exact h.elim
def TK:Tab:=(53,.pure tE)::TK0
theorem vK:aB Tryd.prog gl TK:= .cons EL Bq
structure Rw (G:Type) where
 id:Int
 v:G
instance rwInh {G:Type} [Inhabited G]:Inhabited (Rw G):=⟨⟨0,default⟩⟩
section
variable {G:Type}
structure Ok (l:List (Rw G)) (most:Int):Prop where
 rise:l.Pairwise fun a b=>a.id<b.id
 full:(l.length:Int)≤most
 big:most≤1000000
theorem Ok.len {l:List (Rw G)} {most:Int} (h:Ok l most):l.length≤1000000:=by have:=h.full; have:=h.big; omega
theorem Ok.none {most:Int} (h0:0≤most) (h:most≤1000000):Ok ([]:List (Rw G)) most:=⟨List.Pairwise.nil,by simpa using h0,h⟩
end
section
variable {G:Type} [Inhabited G]
structure Lb (l:List (Rw G)) (t:Int) (p:Nat):Prop where
 le:p≤l.length
 lo:∀ k,k<p→(l.getD k default).id<t
 hi:∀ k,p≤k→k<l.length→t≤(l.getD k default).id
def uH (l:List (Rw G)) (t:Int) (p:Nat):Bool:=decide (p<l.length∧(l.getD p default).id=t)
def lbp (l:List (Rw G)) (t:Int):Nat:=l.findIdx fun r=>decide (t≤r.id)
def has (l:List (Rw G)) (t:Int):Bool:=uH l t (lbp l t)
theorem Ok.lb {l:List (Rw G)} {most:Int} (h:Ok l most) (t:Int):Lb l t (lbp l t):=by
 refine⟨List.findIdx_le_length,fun k hk=>?_,fun k hk hl=>?_⟩
 ·have hkl:k<l.length:=Nat.lt_of_lt_of_le hk List.findIdx_le_length
  have:=List.not_of_lt_findIdx hk
  rw[List.getD_eq_getElem?_getD,List.getElem?_eq_getElem hkl,Option.getD_some]
  simp only[decide_eq_false_iff_not] at this
  omega
 ·have hpl:lbp l t<l.length:=Nat.lt_of_le_of_lt hk hl
  have h1:t≤(l[lbp l t]'hpl).id:=by
   have:=List.findIdx_getElem (p:=fun r:Rw G=>decide (t≤r.id)) (w:=hpl)
   exact of_decide_eq_true this
  rw[List.getD_eq_getElem?_getD,List.getElem?_eq_getElem hl,Option.getD_some]
  rcases Nat.eq_or_lt_of_le hk with e|e
  ·subst e; exact h1
  ·have:=List.pairwise_iff_getElem.1 h.rise (lbp l t) k hpl hl e
   omega
theorem Ok.get {l:List (Rw G)} {most:Int} (h:Ok l most) {i j:Nat} (hij:i<j) (hj:j<l.length):(l.getD i default).id<(l.getD j default).id:=by
 rw[List.getD_eq_getElem?_getD,List.getElem?_eq_getElem (by omega),List.getD_eq_getElem?_getD,List.getElem?_eq_getElem hj]
 exact List.pairwise_iff_getElem.1 h.rise i j (by omega) hj hij
def aD (l:List (Rw G)) (t:Int):G:=if has l t=true then(l.getD (lbp l t) default).v else default
def bZ (l:List (Rw G)) (most t:Int) (v:G):List (Rw G)×Int:=
 if aF t=true then
  if has l t=true then(l.set (lbp l t) ⟨t,v⟩,0)
  else if(l.length:Int)≥most then(l,10) else(bz l (lbp l t) ⟨t,v⟩,0)
 else(l,14)
def tr (l:List (Rw G)) (most t:Int) (v:G):List (Rw G)×Int:=if has l t=true then(l,11) else bZ l most t v
def oz (l:List (Rw G)) (t:Int):List (Rw G):=if has l t=true then l.eraseIdx (lbp l t) else l
theorem nn (t:Int):has ([]:List (Rw G)) t=false:=rfl
theorem fP {l:List (Rw G)} {t:Int} (h:has l t=true):lbp l t<l.length∧(l.getD (lbp l t) default).id=t:=by
 unfold has uH at h; simpa using h
theorem bI {α:Type} {d:α} {l:List α} {k:Nat} (h:k<l.length):l.getD k d=l[k]:=by
 rw[List.getD_eq_getElem?_getD,List.getElem?_eq_getElem h]; rfl
theorem lZ {l:List (Rw G)} {most t:Int} (ok:Ok l most) (h:has l t=false):∀ k,lbp l t≤k→k<l.length→t<(l.getD k default).id:=by
 intro k h1 h2
 have h3:=(ok.lb t).hi k h1 h2
 unfold has uH at h
 have h4:¬(lbp l t<l.length∧(l.getD (lbp l t) default).id=t):=of_decide_eq_false h
 rcases Nat.eq_or_lt_of_le h1 with e|e
 ·subst e
  have:(l.getD (lbp l t) default).id≠t:=fun k=>h4 ⟨h2,k⟩
  omega
 ·have:=ok.get e h2
  have:=(ok.lb t).hi (lbp l t) (Nat.le_refl _) (by omega)
  omega
theorem Ok.put {l:List (Rw G)} {most:Int} (ok:Ok l most) (t:Int) (v:G):Ok (bZ l most t v).1 most:=by
 unfold bZ
 split
 ·split
  ·rename_i h
   obtain⟨h1,h2⟩:=fP h
   refine⟨?_,by simpa using ok.full,ok.big⟩
   rw[List.pairwise_iff_getElem]
   intro i j hi hj hij
   simp only[List.length_set] at hi hj
   have h3:=ok.get hij hj
   rw[bI hi,bI hj] at h3
   rw[bI h1] at h2
   simp only[List.getElem_set]
   split<;>split
   ·omega
   ·rename_i e _; subst e; simp only; omega
   ·rename_i _ e; subst e; simp only; omega
   ·exact h3
  ·split
   ·exact ok
   ·rename_i h h1
    refine⟨?_,by show((bz l (lbp l t) _).length:Int)≤most; rw[fl (show lbp l t≤l.length from List.findIdx_le_length)]; omega,ok.big⟩
    have hb:has l t=false:=by simpa using h
    have lb:=ok.lb t
    unfold bz
    rw[List.pairwise_append]
    refine⟨ok.rise.sublist (List.take_sublist _ _),List.pairwise_cons.2 ⟨fun a ha=>?_,ok.rise.sublist (List.drop_sublist _ _)⟩,fun a ha b hb'=>?_⟩
    ·obtain⟨k,hk,rfl⟩:=List.mem_iff_getElem.1 ha
     rw[List.length_drop] at hk
     rw[List.getElem_drop]
     have:=lZ ok hb (lbp l t+k) (by omega) (by omega)
     rw[bI (by omega)] at this
     exact this
    ·obtain⟨k,hk,rfl⟩:=List.mem_iff_getElem.1 ha
     rw[List.length_take] at hk
     have h5:=lb.lo k (by omega)
     rw[bI (by omega)] at h5
     rw[List.getElem_take]
     rcases List.mem_cons.1 hb' with rfl|hb'
     ·exact h5
     ·obtain⟨m,hm,rfl⟩:=List.mem_iff_getElem.1 hb'
      rw[List.length_drop] at hm
      rw[List.getElem_drop]
      have:=lZ ok hb (lbp l t+m) (by omega) (by omega)
      rw[bI (by omega)] at this
      omega
 ·exact ok
def bl (l:List (Rw G)):List (List PV):=l.map fun r=>[.int .u32 r.id]
end
theorem sY:∀ x∈([]:List PV),Low 0 x:=fun _ h=>nomatch h
theorem cM {k:IntKind} {n:Int}:∀ x∈[PV.int k n],Low 0 x:=fun _ h=>by rcases List.mem_singleton.1 h with rfl; exact .int _ _
theorem Kx {J:List PV} {n:Nat} (h:aJ J n):∀ y∈J,Low 2 y:=fun y hy=>(h.low y hy).up
theorem qh {G:Type} (l:List (Rw G)) (t:Int):lbp l t≤l.length:=List.findIdx_le_length
structure Rr where
 tm:Int
 pl:List Int
 rt:Int
 wd:Int
 deriving DecidableEq
structure Se where
 pl:Int
 tm:Int
 nu:Int
 st:Int
 un:Int
 no:Int
 deriving DecidableEq
structure Mt where
 id:Int
 md:Int
 ins:Int
 rows:List Rr
 aa:List Se
 deriving DecidableEq
def rrc (r:Rr):List PV:=[.int .i64 r.tm,.list (r.pl.map u1) .no,.int .i64 r.rt,.int .i64 r.wd]
def stc (s:Se):List PV:=[.int .u32 s.pl,.int .i64 s.tm,.int .i64 s.nu,.int .i64 s.st,.int .i64 s.un,.int .u64 s.no]
theorem fb (r:Rr):(rrc r).length=4:=rfl
theorem bK (s:Se):(stc s).length=6:=rfl
theorem IF {n:Nat} (l:List Int):Low n (.list (l.map u1) .no):=bD bU l
theorem bG {n:Nat} (r:Rr):∀ y∈rrc r,Low n y:=by
 intro y hy
 simp only[rrc,List.mem_cons,List.not_mem_nil,or_false] at hy
 rcases hy with rfl|rfl|rfl|rfl<;>first|exact .int _ _|exact IF _
theorem cU {n:Nat} (s:Se):∀ y∈stc s,Low n y:=by
 intro y hy
 simp only[stc,List.mem_cons,List.not_mem_nil,or_false] at hy
 rcases hy with rfl|rfl|rfl|rfl|rfl|rfl<;>exact .int _ _
theorem rp (r:Rr):∀ y∈rrc r,y.one=true:=by
 intro y hy
 simp only[rrc,List.mem_cons,List.not_mem_nil,or_false] at hy
 rcases hy with rfl|rfl|rfl|rfl<;>rfl
theorem dX (s:Se):∀ y∈stc s,y.one=true:=by
 intro y hy
 simp only[stc,List.mem_cons,List.not_mem_nil,or_false] at hy
 rcases hy with rfl|rfl|rfl|rfl|rfl|rfl<;>rfl
theorem aQ {n:Nat} (l:List Rr):Low n (.list (l.map rrc) .no):=bD bG l
theorem dg {n:Nat} (l:List Se):Low n (.list (l.map stc) .no):=bD cU l
def Mt.pv (c:Mt):PV:= .agg [.int .u32 c.id,.int .i64 c.md,.int .u32 c.ins,.list (c.rows.map rrc) .no,.list (c.aa.map stc) .no]
instance rrInh:Inhabited Rr:=⟨⟨0,[],0,0⟩⟩
instance seInh:Inhabited Se:=⟨⟨0,0,0,0,0,0⟩⟩
instance mtInh:Inhabited Mt:=⟨⟨0,0,0,[],[]⟩⟩
end Go.Proofs.YtenaelaapdhbdaaDoor
