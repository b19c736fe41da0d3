/-
  An abstract machine over values without memory, proved against the model; part 3. A tool for the proofs of this claim; it states nothing of the program.
-/
import Derived.Test.YtenaelaapdhbdaaDoorA2
import Derived.Laws.Externs
namespace Go.AM
open Go
def Wk (x x':PV):Prop:=∀(g:Gh) (w:World) (v:Value),Rel g w x v→Rel g w x' v
theorem Wk.refl (x:PV):Wk x x:=fun _ _ _ h=>h
theorem Wk.list (es:List (List PV)) (t:Tail):Wk (.list es t) (.list es .no):=by
 intro g w v h
 obtain⟨a,cap,rfl,h1,h2,_,h4⟩:=Rel.aT.1 h
 exact Rel.aT.2 ⟨a,cap,rfl,h1,h2,trivial,h4⟩
inductive WkL:List PV→List PV→Prop where
 | nil:WkL [] []
 | cons {x x':PV} {xs xs':List PV} (h:Wk x x') (hs:WkL xs xs'):WkL (x::xs) (x'::xs')
theorem WkL.rel {xs xs':List PV} (h:WkL xs xs') {g:Gh} {w:World} {vs:List Value} (hr:aR g w xs vs):aR g w xs' vs:=by
 induction h generalizing vs with
 | nil=>exact hr
 | cons h hs ih=>
  cases vs with
  | nil=>have:=hr.1; simp at this
  | cons v vs=>
   refine .cons (h g w v (hr.2 0 _ _ rfl rfl)) (ih ⟨by have:=hr.1; simpa using this,fun q x u h1 h2=>hr.2 (q+1) x u (by simpa using h1) (by simpa using h2)⟩)
theorem Wk.tup {xs xs':List PV} (h:WkL xs xs'):Wk (.tup xs) (.tup xs'):=by
 intro g w v hr
 obtain⟨vs,rfl,h1⟩:=Rel.dD.1 hr
 exact Rel.dD.2 ⟨vs,rfl,h.rel h1⟩
theorem Wk.agg {xs xs':List PV} (h:WkL xs xs'):Wk (.agg xs) (.agg xs'):=by
 intro g w v hr
 obtain⟨vs,rfl,h1⟩:=Rel.bP.1 hr
 exact Rel.bP.2 ⟨vs,rfl,h.rel h1⟩
theorem bA {P:Program} {gl:aC} {f:FuncId} {args:List PV} {H:ae} {K:PV→ae→Prop} (h:aj P gl f args H (fun x H'=>∃ x',Wk x x'∧K x' H')):aj P gl f args H K:=by
 intro g w vs hS hG hR
 refine(h g w vs hS hG hR).mono ?_
 rintro e w' ⟨v,g',H',x,rfl,hS',hX,hr,x',hw,hk⟩
 exact⟨v,g',H',x',rfl,hS',hX,hw _ _ _ hr,hk⟩
end Go.AM

namespace Go.AM
open Go
inductive RVs (n0 k:Nat):List PV→List PV→Prop where
 | nil:RVs n0 k [] []
 | same {x:PV} {xs xs':List PV} (h:Low n0 x) (hs:RVs n0 k xs' xs):RVs n0 k (x::xs') (x::xs)
 | row {es:List (List PV)} {xs xs':List PV} (h:∀ y∈es.flatten,Low n0 y) (hs:RVs n0 k xs' xs):RVs n0 k (.list es (.tok k)::xs') (.list es (.tok n0)::xs)
theorem RVs.len {n0 k:Nat} {xs' xs:List PV} (h:RVs n0 k xs' xs):xs'.length=xs.length:=by
 induction h with
 | nil=>rfl
 | same _ _ ih=>simp[ih]
 | row _ _ ih=>simp[ih]
theorem RVs.get {n0 k:Nat} {xs' xs:List PV} (h:RVs n0 k xs' xs):∀(q:Nat) (x' x:PV),xs'[q]?=some x'→xs[q]?=some x→uF n0 (fun _=>k) x' x:=by
 induction h with
 | nil=>intro q x' x h1; simp at h1
 | same hl _ ih=>
  intro q x' x h1 h2
  cases q with
  | zero=>simp at h1 h2; subst h1; subst h2; exact .inl ⟨rfl,hl⟩
  | succ q=>exact ih q x' x (by simpa using h1) (by simpa using h2)
 | row hl _ ih=>
  intro q x' x h1 h2
  cases q with
  | zero=>simp at h1 h2; subst h1; subst h2; exact .inr ⟨_,n0,rfl,rfl,Nat.le_refl _,hl⟩
  | succ q=>exact ih q x' x (by simpa using h1) (by simpa using h2)
theorem RVs.tok {n0 k:Nat} {xs' xs:List PV} (h:RVs n0 k xs' xs):∀(q:Nat) (es:List (List PV)) (o:Nat),xs[q]?=some (.list es (.tok o))→o<n0+1:=by
 induction h with
 | nil=>intro q es o h1; simp at h1
 | same hl _ ih=>
  intro q es o h1
  cases q with
  | zero=>
   simp at h1; subst h1
   cases hl with
   | list _ _ ht _=>have:=ht o rfl; omega
  | succ q=>exact ih q es o (by simpa using h1)
 | row hl _ ih=>
  intro q es o h1
  cases q with
  | zero=>simp at h1; obtain⟨_,h1⟩:=h1; omega
  | succ q=>exact ih q es o (by simpa using h1)
theorem relab_row {n0 k:Nat} {B X:ae} {vs' vs:List PV} (hB:B.length=n0) (hlow:∀(o:Nat) cs,B[o]?=some (.cells cs)→∀ x∈cs,Low n0 x) (hk:n0≤k) (hX:(B++X)[k]?=some .tok) (hv:RVs n0 k vs' vs):
  Relab n0 vs' (B++X) vs (B++[.tok]):=by
 refine⟨by simp; omega,fun o ho=>?_,fun _=>k,fun o h1 h2=>?_,fun o o' h1 h2 h3 h4 _=>?_,hv.len,hv.get,fun q es o h=>?_⟩
 ·have e1:(B++[Ob.tok])[o]?=B[o]?:=List.getElem?_append_left (by omega)
  have e2:(B++X)[o]?=B[o]?:=List.getElem?_append_left (by omega)
  rw[e1,e2]
  exact⟨rfl,fun cs hc=>hlow o cs hc⟩
 ·simp at h2
  have:o=B.length:=by omega
  subst this
  exact⟨hk,by simp,hX⟩
 ·simp at h2 h4; omega
 ·have:=hv.tok q es o h
  simp; omega
end Go.AM

namespace Go.AM
open Go
theorem au (i:Nat):Int.toNat (i:Int)=i:=rfl
theorem aZ {α:Type} {T:List α} {i:Nat} (d:α) (h:i<T.length):T.take (i+1)=T.take i++[T.getD i d]:=by
 rw[List.take_succ_eq_append_getElem h,List.getD_eq_getElem?_getD,List.getElem?_eq_getElem h]; rfl
end Go.AM

namespace Go.AM
open Go Go.RowKit
theorem iL {α:Type} {f:α→List PV} {Q:α→Prop}:∀ {es:List (List PV)},(∀ r∈es,∃ a,r=f a∧Q a)→∃ l:List α,es=l.map f∧∀ a∈l,Q a
 | [],_=>⟨[],rfl,fun a h=>by simp at h⟩
 | e::es,h=>by
  obtain⟨a,h1,h2⟩:=h e List.mem_cons_self
  obtain⟨l,h3,h4⟩:=iL (es:=es) (fun r hr=>h r (List.mem_cons_of_mem _ hr))
  refine⟨a::l,by rw[h1,h3]; rfl,fun b hb=>?_⟩
  rcases List.mem_cons.1 hb with rfl|hb
  ·exact h2
  ·exact h4 b hb
variable {P:Program} {k:Nat} {t:TypeId} {xs:List PV} {x:PV}
theorem eY {kd:IntKind} (hu:P.underlying t=some (.int kd)) (h:WTp P (k+1) t xs):∃ n,xs=[.int kd n]∧kd.min≤n∧n≤kd.max:=by
 unfold WTp at h; rw[hu] at h; exact h
theorem ig {e:TypeId} (hu:P.underlying t=some (.slice e)) (h:WTp P (k+1) t xs):∃ es,xs=[.list es .no]∧es.length≤maxLen∧∀ r∈es,WTp P k e r:=by
 unfold WTp at h; rw[hu] at h; exact h
theorem jE {fs:Array Field} (hu:P.underlying t=some (.struct fs)) (h:WTp P (k+1) t xs):WFs (WTp P k) (fs.toList.map (·.type)) xs:=by
 unfold WTp at h; rw[hu] at h; exact h
theorem oK {fs:Array Field} (hu:P.underlying t=some (.struct fs)) (h:WTa P (k+1) t x):∃ cs,x = .agg cs∧WFs (WTp P k) (fs.toList.map (·.type)) cs:=by
 unfold WTa at h; rw[hu] at h
 obtain⟨cs,h1,h2⟩:=h
 exact⟨cs,h1,jE hu h2⟩
theorem uR (h:qg P k [] xs):xs=[]:=h
theorem nv {R:TypeId→List PV→Prop} (h:WFs R [] xs):xs=[]:=h
theorem dc {R:TypeId→List PV→Prop} {ts:List TypeId} (h:WFs R (t::ts) xs):∃ a b,xs=a++b∧R t a∧WFs R ts b:=h
end Go.AM

namespace Go.AM
open Go
inductive Ren (ρ:Nat→Nat) (n:Nat):PV→PV→Prop where
 | low {x:PV} (h:Low 0 x):Ren ρ n x x
 | arr (o off len cap:Nat) (h:o<n):Ren ρ n (.arr o off len cap) (.arr (ρ o) off len cap)
 | ptr (o off:Nat) (h:o<n):Ren ρ n (.ptr o off) (.ptr (ρ o) off)
 | ltok (es:List (List PV)) (o:Nat) (h:o<n) (hl:∀ x∈es.flatten,Low 0 x):Ren ρ n (.list es (.tok o)) (.list es (.tok (ρ o)))
 | fn (f:Nat) (cs cs':List PV) (hl:cs.length=cs'.length) (h:∀(q:Nat) (x y:PV),cs[q]?=some x→cs'[q]?=some y→Ren ρ n x y):Ren ρ n (.fn f cs) (.fn f cs')
 | agg (cs cs':List PV) (hl:cs.length=cs'.length) (h:∀(q:Nat) (x y:PV),cs[q]?=some x→cs'[q]?=some y→Ren ρ n x y):Ren ρ n (.agg cs) (.agg cs')
 | tup (cs cs':List PV) (hl:cs.length=cs'.length) (h:∀(q:Nat) (x y:PV),cs[q]?=some x→cs'[q]?=some y→Ren ρ n x y):Ren ρ n (.tup cs) (.tup cs')
inductive aW (ρ:Nat→Nat) (n:Nat):List PV→List PV→Prop where
 | nil:aW ρ n [] []
 | cons {x y:PV} {xs ys:List PV} (h:Ren ρ n x y) (hs:aW ρ n xs ys):aW ρ n (x::xs) (y::ys)
theorem aW.length {ρ:Nat→Nat} {n:Nat} {xs ys:List PV} (h:aW ρ n xs ys):xs.length=ys.length:=by
 induction h with
 | nil=>rfl
 | cons _ _ ih=>simp[ih]
theorem aW.get {ρ:Nat→Nat} {n:Nat} {xs ys:List PV} (h:aW ρ n xs ys):∀(q:Nat) (x y:PV),xs[q]?=some x→ys[q]?=some y→Ren ρ n x y:=by
 induction h with
 | nil=>intro q x y h; simp at h
 | cons h _ ih=>
  intro q x y h1 h2
  cases q with
  | zero=>simp at h1 h2; subst h1; subst h2; exact h
  | succ q=>exact ih q x y (by simpa using h1) (by simpa using h2)
theorem aW.low {ρ:Nat→Nat} {n:Nat} {xs:List PV} (h:∀ x∈xs,Low 0 x):aW ρ n xs xs:=by
 induction xs with
 | nil=>exact .nil
 | cons x xs ih=>exact .cons (.low (h x List.mem_cons_self)) (ih fun y hy=>h y (List.mem_cons_of_mem _ hy))
theorem aW.append {ρ:Nat→Nat} {n:Nat} {xs ys xs' ys':List PV} (h:aW ρ n xs ys) (h':aW ρ n xs' ys'):aW ρ n (xs++xs') (ys++ys'):=by
 induction h with
 | nil=>exact h'
 | cons h _ ih=>exact .cons h ih
theorem Ren.KE {ρ:Nat→Nat} {n:Nat} {xs ys:List PV} (h:aW ρ n xs ys):Ren ρ n (.tup xs) (.tup ys):= .tup xs ys h.length h.get
theorem Ren.gW {ρ:Nat→Nat} {n:Nat} {xs ys:List PV} (h:aW ρ n xs ys):Ren ρ n (.agg xs) (.agg ys):= .agg xs ys h.length h.get
structure Seen (ρ:Nat→Nat) (n:Nat) (g0 g:Gh):Prop where
 n0:g0.n=n
 lt:∀ o,o<n→ρ o<g.n
 bk:∀ o,o<n→g0.bk o=g.bk (ρ o)
 en:∀ o,o<n→g0.en o=g.en (ρ o)
 sz:∀ o,o<n→g0.sz o=g.sz (ρ o)
 imm:g0.imm=g.imm
theorem dl {g g':Gh} {w:World} {x:PV} {v:Value} (h:Rel g w x v) (hl:Low 0 x) (hi:g'.imm=g.imm):Rel g' w x v:=
 Rel.mono (g:=g.cutAt 0) (w:=w) ⟨Nat.zero_le _,fun _ h=>absurd h (Nat.not_lt_zero _),fun _ h=>absurd h (Nat.not_lt_zero _),fun _ h=>absurd h (Nat.not_lt_zero _),fun b q h=>by rw[hi]; exact h,fun _ _ _=>rfl⟩ (h.cutAt hl)
theorem Ren.to {ρ:Nat→Nat} {n:Nat} {x y:PV} (hr:Ren ρ n x y) {g0 g:Gh} {w:World} (hs:Seen ρ n g0 g):∀ {v:Value},Rel g0 w x v→Rel g w y v:=by
 induction hr with
 | low h=>intro v hv; exact dl hv h hs.imm.symm
 | arr o off len cap h=>
  intro v hv
  cases hv
  rw[hs.bk o h]; exact .arr _ off len cap (hs.lt o h)
 | ptr o off h=>
  intro v hv
  cases hv
  rw[hs.bk o h]; exact .ptr _ off (hs.lt o h)
 | ltok es o h hl=>
  intro v hv
  obtain⟨a,cap,rfl,h1,h2,h3,h4⟩:=Rel.aT.1 hv
  refine Rel.aT.2 ⟨a,cap,rfl,h1,h2,?_,h4.imp id ?_⟩
  ·obtain⟨_,A,s,k2,k3,k4,k5,k6,k7,k8⟩:=h3
   exact⟨hs.lt o h,A,s,k2,k3,by rw[← hs.bk o h]; exact k4,by rw[← hs.en o h]; exact k5,k6,k7,by rw[← hs.sz o h]; exact k8⟩
  ·rintro⟨A,k1,k2,k3⟩
   refine⟨A,k1,k2,fun q x hq=>?_⟩
   obtain⟨j1,c,j2,j3⟩:=k3 q x hq
   exact⟨by rw[← hs.imm]; exact j1,c,j2,dl j3 (hl x (List.mem_iff_getElem?.2 ⟨q,hq⟩)) hs.imm.symm⟩
 | fn f cs cs' hl _ ih=>
  intro v hv
  obtain⟨vs,rfl,h1⟩:=Rel.fz.1 hv
  refine Rel.fz.2 ⟨vs,rfl,by rw[← hl]; exact h1.1,fun q y u hy hu=>?_⟩
  have hq:q<cs.length:=by rw[hl]; exact(List.getElem?_eq_some_iff.1 hy).1
  exact ih q cs[q] y (List.getElem?_eq_getElem hq) hy (h1.2 q _ u (List.getElem?_eq_getElem hq) hu)
 | agg cs cs' hl _ ih=>
  intro v hv
  obtain⟨vs,rfl,h1⟩:=Rel.bP.1 hv
  refine Rel.bP.2 ⟨vs,rfl,by rw[← hl]; exact h1.1,fun q y u hy hu=>?_⟩
  have hq:q<cs.length:=by rw[hl]; exact(List.getElem?_eq_some_iff.1 hy).1
  exact ih q cs[q] y (List.getElem?_eq_getElem hq) hy (h1.2 q _ u (List.getElem?_eq_getElem hq) hu)
 | tup cs cs' hl _ ih=>
  intro v hv
  obtain⟨vs,rfl,h1⟩:=Rel.dD.1 hv
  refine Rel.dD.2 ⟨vs,rfl,by rw[← hl]; exact h1.1,fun q y u hy hu=>?_⟩
  have hq:q<cs.length:=by rw[hl]; exact(List.getElem?_eq_some_iff.1 hy).1
  exact ih q cs[q] y (List.getElem?_eq_getElem hq) hy (h1.2 q _ u (List.getElem?_eq_getElem hq) hu)
theorem Ren.back {ρ:Nat→Nat} {n:Nat} {x y:PV} (hr:Ren ρ n x y) {g0 g:Gh} {w:World} (hs:Seen ρ n g0 g):∀ {v:Value},Rel g w y v→Rel g0 w x v:=by
 induction hr with
 | low h=>intro v hv; exact dl hv h hs.imm
 | arr o off len cap h=>
  intro v hv
  cases hv
  rw[← hs.bk o h]; exact .arr _ off len cap (by rw[hs.n0]; exact h)
 | ptr o off h=>
  intro v hv
  cases hv
  rw[← hs.bk o h]; exact .ptr _ off (by rw[hs.n0]; exact h)
 | ltok es o h hl=>
  intro v hv
  obtain⟨a,cap,rfl,h1,h2,h3,h4⟩:=Rel.aT.1 hv
  refine Rel.aT.2 ⟨a,cap,rfl,h1,h2,?_,h4.imp id ?_⟩
  ·obtain⟨_,A,s,k2,k3,k4,k5,k6,k7,k8⟩:=h3
   exact⟨by rw[hs.n0]; exact h,A,s,k2,k3,by rw[hs.bk o h]; exact k4,by rw[hs.en o h]; exact k5,k6,k7,by rw[hs.sz o h]; exact k8⟩
  ·rintro⟨A,k1,k2,k3⟩
   refine⟨A,k1,k2,fun q x hq=>?_⟩
   obtain⟨j1,c,j2,j3⟩:=k3 q x hq
   exact⟨by rw[hs.imm]; exact j1,c,j2,dl j3 (hl x (List.mem_iff_getElem?.2 ⟨q,hq⟩)) hs.imm⟩
 | fn f cs cs' hl _ ih=>
  intro v hv
  obtain⟨vs,rfl,h1⟩:=Rel.fz.1 hv
  refine Rel.fz.2 ⟨vs,rfl,by rw[hl]; exact h1.1,fun q y u hy hu=>?_⟩
  have hq:q<cs'.length:=by rw[← hl]; exact(List.getElem?_eq_some_iff.1 hy).1
  exact ih q y cs'[q] hy (List.getElem?_eq_getElem hq) (h1.2 q _ u (List.getElem?_eq_getElem hq) hu)
 | agg cs cs' hl _ ih=>
  intro v hv
  obtain⟨vs,rfl,h1⟩:=Rel.bP.1 hv
  refine Rel.bP.2 ⟨vs,rfl,by rw[hl]; exact h1.1,fun q y u hy hu=>?_⟩
  have hq:q<cs'.length:=by rw[← hl]; exact(List.getElem?_eq_some_iff.1 hy).1
  exact ih q y cs'[q] hy (List.getElem?_eq_getElem hq) (h1.2 q _ u (List.getElem?_eq_getElem hq) hu)
 | tup cs cs' hl _ ih=>
  intro v hv
  obtain⟨vs,rfl,h1⟩:=Rel.dD.1 hv
  refine Rel.dD.2 ⟨vs,rfl,by rw[hl]; exact h1.1,fun q y u hy hu=>?_⟩
  have hq:q<cs'.length:=by rw[← hl]; exact(List.getElem?_eq_some_iff.1 hy).1
  exact ih q y cs'[q] hy (List.getElem?_eq_getElem hq) (h1.2 q _ u (List.getElem?_eq_getElem hq) hu)
theorem aW.to {ρ:Nat→Nat} {n:Nat} {xs ys:List PV} (h:aW ρ n xs ys) {g0 g:Gh} {w:World} (hs:Seen ρ n g0 g) {vs:List Value} (hr:aR g0 w xs vs):aR g w ys vs:=by
 refine⟨by rw[← h.length]; exact hr.1,fun q y u hy hu=>?_⟩
 have hq:q<xs.length:=by rw[h.length]; exact(List.getElem?_eq_some_iff.1 hy).1
 exact(h.get q xs[q] y (List.getElem?_eq_getElem hq) hy).to hs (hr.2 q _ u (List.getElem?_eq_getElem hq) hu)
theorem aW.back {ρ:Nat→Nat} {n:Nat} {xs ys:List PV} (h:aW ρ n xs ys) {g0 g:Gh} {w:World} (hs:Seen ρ n g0 g) {vs:List Value} (hr:aR g w ys vs):aR g0 w xs vs:=by
 refine⟨by rw[h.length]; exact hr.1,fun q y u hy hu=>?_⟩
 have hq:q<ys.length:=by rw[← h.length]; exact(List.getElem?_eq_some_iff.1 hy).1
 exact(h.get q y ys[q] hy (List.getElem?_eq_getElem hq)).back hs (hr.2 q _ u (List.getElem?_eq_getElem hq) hu)
inductive dj (ρ:Nat→Nat) (n:Nat):Ob→Ob→Prop where
 | cells {cs cs':List PV} (h:aW ρ n cs cs'):dj ρ n (.cells cs) (.cells cs')
 | tok:dj ρ n .tok .tok
 | dead (ob:Ob):dj ρ n .dead ob
 | abs (r:Rep):dj ρ n (.abs r) (.abs r)
theorem dj.alive {ρ:Nat→Nat} {n:Nat} {a b:Ob} (h:dj ρ n a b) (ha:a.alive=true):b.alive=true:=by
 cases h<;>first|rfl|(cases ha; done)
structure Sub (ρ:Nat→Nat) (X H:ae):Prop where
 lt:∀ o,o<X.length→ρ o<H.length
 inj:∀ o o',o<X.length→o'<X.length→ρ o=ρ o'→o=o'
 ob:∀(o:Nat) (a:Ob),X[o]?=some a→∃ b,H[ρ o]?=some b∧dj ρ X.length a b
def Gh.through (g:Gh) (ρ:Nat→Nat) (n:Nat):Gh:=⟨n,fun o=>g.bk (ρ o),fun o=>g.en (ρ o),fun o=>g.sz (ρ o),g.imm,fun o=>g.fp (ρ o)⟩
theorem ee (g:Gh) (ρ:Nat→Nat) (n:Nat) {N:Nat} {a b:Ob} (h:dj ρ N a b) (ha:a.alive=true) (o k:Nat):blk (g.through ρ n) a o k↔blk g b (ρ o) k:=by
 cases h<;>first|exact Iff.rfl|(cases ha; done)
theorem ez {g:Gh} {ρ:Nat→Nat} {n:Nat} (h:∀ o,o<n→ρ o<g.n):Seen ρ n (g.through ρ n) g:=⟨rfl,h,fun _ _=>rfl,fun _ _=>rfl,fun _ _=>rfl,rfl⟩
theorem Sub.own {ρ:Nat→Nat} {X H:ae} (h:Sub ρ X H) {g:Gh} {b:Nat} (hb:own (g.through ρ X.length) X b):own g H b:=by
 obtain⟨o,a,h1,h2,h3⟩:=hb
 obtain⟨b',k1,k2⟩:=h.ob o a h1
 exact⟨ρ o,b',k1,k2.alive h2,(ee g ρ _ k2 h2 o b).1 h3⟩
theorem Sub.sim {ρ:Nat→Nat} {X H:ae} (h:Sub ρ X H) {g:Gh} {w:World} (hS:Sim g H w):Sim (g.through ρ X.length) X w:=by
 have hs:Seen ρ X.length (g.through ρ X.length) g:=ez fun o ho=>by rw[hS.n]; exact h.lt o ho
 refine⟨rfl,fun o o' a a' k h1 h2 h3 h4 h5 h6=>?_,fun o cs h1=>?_,fun o h1=>?_,hS.imm,fun o r h1=>?_⟩
 ·obtain⟨b,k1,k2⟩:=h.ob o a h1
  obtain⟨b',k3,k4⟩:=h.ob o' a' h2
  exact h.inj o o' (List.getElem?_eq_some_iff.1 h1).1 (List.getElem?_eq_some_iff.1 h2).1 (hS.inj _ _ b b' k k1 k3 (k2.alive h3) (k4.alive h4) ((ee g ρ _ k2 h3 o k).1 h5) ((ee g ρ _ k4 h4 o' k).1 h6))
 ·obtain⟨b,k1,k2⟩:=h.ob o _ h1
  cases k2 with
  | cells k2=>
   obtain⟨⟨C,ty,e1,e2⟩,e3⟩:=hS.cells _ _ k1
   exact⟨⟨C,ty,e1,k2.back hs e2⟩,e3⟩
 ·obtain⟨b,k1,k2⟩:=h.ob o _ h1
  cases k2
  exact hS.tok _ k1
 ·obtain⟨b,k1,k2⟩:=h.ob o _ h1
  cases k2
  exact hS.abs _ r k1
theorem b5 {P:Program} {gl:aC} (_:aU gl) {f:FuncId} {args:List PV} {H:ae} {K:PV→ae→Prop}
  (h:aj P gl f args H (fun y H'=>∃(x:PV) (X:ae) (ρ:Nat→Nat),Sub ρ X H'∧H.length≤X.length∧(∀ o,o<H.length→ρ o=o)∧Ren ρ X.length x y∧K x X)):aj P gl f args H K:=by
 intro g w vs hS hG hR
 refine(h g w vs hS hG hR).mono ?_
 rintro e w' ⟨v,g',H',y,rfl,hS',hX,hv,x,X,ρ,hsub,hlen,hid,hren,hk⟩
 have hs:Seen ρ X.length (g'.through ρ X.length) g':=ez fun o ho=>by rw[hS'.n]; exact hsub.lt o ho
 refine⟨v,g'.through ρ X.length,X,x,rfl,hsub.sim hS',?_,hren.back hs hv,hk⟩
 have hn:g.n=H.length:=hS.n
 refine⟨⟨by rw[hn]; exact hlen,fun o ho=>?_,fun o ho=>?_,fun o ho=>?_,hX.gx.imm,hX.gx.cell⟩,hX.size,fun b hb ho=>hX.ow b hb (hsub.own ho),hX.frame,hX.os,hX.tape,hX.output,hX.im⟩
 ·show g'.bk (ρ o)=_; rw[hid o (by omega)]; exact hX.gx.bk o ho
 ·show g'.en (ρ o)=_; rw[hid o (by omega)]; exact hX.gx.en o ho
 ·show g'.sz (ρ o)=_; rw[hid o (by omega)]; exact hX.gx.sz o ho
def aN (ρ:Nat→Nat) (n N:Nat):Nat→Nat:=fun o=>if o<n then ρ o else N+(o-n)
structure Behind (ρ:Nat→Nat) (X H X' H':ae):Prop where
 len:X.length≤X'.length
 lenH:H'.length=H.length+(X'.length-X.length)
 on:∀(o:Nat) (a:Ob),X'[o]?=some a→∃ b,H'[aN ρ X.length H.length o]?=some b∧dj (aN ρ X.length H.length) X'.length a b∧(b.alive=true→a.alive=true)
 off:∀ o,o<H.length→(∀ j,j<X.length→ρ j≠o)→H'[o]?=H[o]?
theorem a9 {P:Program} {gl:aC} (hgl:aU gl) {f:FuncId} {args0 args:List PV} {X H:ae} {K:PV→ae→Prop} {ρ:Nat→Nat} (hsub:Sub ρ X H) (hargs:aW ρ X.length args0 args)
  (h:aj P gl f args0 X (fun x X'=>∃ y H',Behind ρ X H X' H'∧Ren (aN ρ X.length H.length) X'.length x y∧K y H')):aj P gl f args H K:=by
 intro g w vs hS hG hR
 have hs:Seen ρ X.length (g.through ρ X.length) g:=ez fun o ho=>by rw[hS.n]; exact hsub.lt o ho
 have hG0:cZ (g.through ρ X.length) w gl:=fun k cs hk=>by
  refine⟨(hG k cs hk).1,fun q x hx=>?_⟩
  obtain⟨h1,c,h2,h3⟩:=(hG k cs hk).2 q x hx
  exact⟨h1,c,h2,dl h3 (hgl k cs hk x (List.mem_iff_getElem?.2 ⟨q,hx⟩)) rfl⟩
 refine(h _ w vs (hsub.sim hS) hG0 (hargs.back hs hR)).mono ?_
 rintro e w' ⟨v,g',X',x,rfl,hS',hX,hv,y,H',hB,hren,hk⟩
 have hn:g.n=H.length:=hS.n
 have hn':g'.n=X'.length:=hS'.n
 have inv:∃ σ:Nat→Option Nat,∀ o,(∀ j,σ o=some j→j<X.length∧ρ j=o)∧(σ o=none→∀ j,j<X.length→ρ j≠o):=by
  refine⟨fun o=>(List.range X.length).find? fun j=>ρ j == o,fun o=>⟨fun j hj=>?_,fun hj j hlt=>?_⟩⟩
  ·have h1:=List.find?_some hj
   have h2:=List.mem_of_find?_eq_some hj
   exact⟨by simpa using h2,by simpa using h1⟩
  ·have:=List.find?_eq_none.1 hj j (by simpa using hlt)
   simpa using this
 obtain⟨σ,hσ⟩:=inv
 have hσρ:∀ j,j<X.length→σ (ρ j)=some j:=fun j hj=>by
  cases hq:σ (ρ j) with
  | none=>exact absurd rfl ((hσ _).2 hq j hj)
  | some i=>obtain⟨h1,h2⟩:=(hσ _).1 i hq; rw[hsub.inj i j h1 hj h2]
 have bk0:∀ o,o<X.length→g'.bk o=g.bk (ρ o):=fun o ho=>hX.gx.bk o ho
 have en0:∀ o,o<X.length→g'.en o=g.en (ρ o):=fun o ho=>hX.gx.en o ho
 have sz0:∀ o,o<X.length→g'.sz o=g.sz (ρ o):=fun o ho=>hX.gx.sz o ho
 let g2:Gh:=⟨H'.length,fun o=>if o<H.length then g.bk o else g'.bk (X.length+(o-H.length)),fun o=>if o<H.length then g.en o else g'.en (X.length+(o-H.length)),fun o=>if o<H.length then g.sz o else g'.sz (X.length+(o-H.length)),g'.imm,
  fun o=>if o<H.length then(match σ o with|some j=>g'.fp j|none=>g.fp o) else g'.fp (X.length+(o-H.length))⟩
 have ext_lt:∀ o,o<X.length→aN ρ X.length H.length o=ρ o∧ρ o<H.length:=fun o ho=>⟨by simp[aN,ho],hsub.lt o ho⟩
 have ext_ge:∀ o,¬ o<X.length→aN ρ X.length H.length o=H.length+(o-X.length):=fun o ho=>by simp[aN,ho]
 have hlenX:=hB.len
 have hlenH:=hB.lenH
 have hs2:Seen (aN ρ X.length H.length) X'.length g' g2:=by
  refine⟨hn',fun o ho=>?_,fun o ho=>?_,fun o ho=>?_,fun o ho=>?_,rfl⟩
  ·show _<H'.length
   by_cases c:o<X.length
   ·obtain⟨e1,e2⟩:=ext_lt o c; rw[e1]; omega
   ·rw[ext_ge o c]; omega
  ·by_cases c:o<X.length
   ·obtain⟨e1,e2⟩:=ext_lt o c
    show _=(if _ then _ else _); rw[e1,if_pos e2]; exact bk0 o c
   ·show _=(if _ then _ else _); rw[ext_ge o c,if_neg (by omega)]; congr 1; omega
  ·by_cases c:o<X.length
   ·obtain⟨e1,e2⟩:=ext_lt o c
    show _=(if _ then _ else _); rw[e1,if_pos e2]; exact en0 o c
   ·show _=(if _ then _ else _); rw[ext_ge o c,if_neg (by omega)]; congr 1; omega
  ·by_cases c:o<X.length
   ·obtain⟨e1,e2⟩:=ext_lt o c
    show _=(if _ then _ else _); rw[e1,if_pos e2]; exact sz0 o c
   ·show _=(if _ then _ else _); rw[ext_ge o c,if_neg (by omega)]; congr 1; omega
 have fp2:∀ o,o<X'.length→g2.fp (aN ρ X.length H.length o)=g'.fp o:=fun o ho=>by
  by_cases c:o<X.length
  ·obtain⟨e1,e2⟩:=ext_lt o c
   show(if _ then _ else _)=_; rw[e1,if_pos e2,hσρ o c]
  ·show(if _ then _ else _)=_; rw[ext_ge o c,if_neg (by omega)]; congr 1; omega
 have cases2:∀(o:Nat) (b:Ob),H'[o]?=some b→b.alive=true→(∃ j a,X'[j]?=some a∧a.alive=true∧o=aN ρ X.length H.length j∧dj (aN ρ X.length H.length) X'.length a b)∨(o<H.length∧H[o]?=some b∧∀ j,j<X.length→ρ j≠o):=by
  intro o b hb hal
  have hol:o<H'.length:=(List.getElem?_eq_some_iff.1 hb).1
  have fromX:∀ j,j<X'.length→o=aN ρ X.length H.length j→∃ a,X'[j]?=some a∧a.alive=true∧dj (aN ρ X.length H.length) X'.length a b:=fun j hj ho=>by
   obtain⟨b',k1,k2,k3⟩:=hB.on j _ (List.getElem?_eq_getElem hj)
   rw[← ho,hb] at k1
   cases k1
   exact⟨_,List.getElem?_eq_getElem hj,k3 hal,k2⟩
  by_cases c:o<H.length
  ·cases hq:σ o with
   | some j=>
    obtain⟨h1,h2⟩:=(hσ o).1 j hq
    have ho:o=aN ρ X.length H.length j:=by rw[(ext_lt j h1).1,h2]
    obtain⟨a,k1,k2,k3⟩:=fromX j (by omega) ho
    exact .inl ⟨j,a,k1,k2,ho,k3⟩
   | none=>
    have h1:=(hσ o).2 hq
    exact .inr ⟨c,by rw[← hB.off o c h1]; exact hb,h1⟩
  ·have ho:o=aN ρ X.length H.length (X.length+(o-H.length)):=by rw[ext_ge _ (by omega)]; omega
   obtain⟨a,k1,k2,k3⟩:=fromX _ (by omega) ho
   exact .inl ⟨_,a,k1,k2,ho,k3⟩
 have blkX:∀ {j:Nat} {a b:Ob} {k:Nat},X'[j]?=some a→a.alive=true→dj (aN ρ X.length H.length) X'.length a b→(blk g2 b (aN ρ X.length H.length j) k↔blk g' a j k):=by
  intro j a b k h1 h2 h3
  have hj:j<X'.length:=(List.getElem?_eq_some_iff.1 h1).1
  cases h3 with
  | cells _=>show _=k↔_=k; rw[hs2.bk j hj]
  | tok=>show _=k↔_=k; rw[hs2.bk j hj]
  | dead _=>cases h2
  | abs r=>show g2.fp _ k↔g'.fp j k; rw[fp2 j hj]
 have blkH:∀ {o:Nat} {b:Ob} {k:Nat},o<H.length→(∀ j,j<X.length→ρ j≠o)→(blk g2 b o k↔blk g b o k):=by
  intro o b k h1 h2
  refine dm (g:=g) (g':=g2) ?_ (fun k=>?_) b k
  ·show(if _ then _ else _)=_; rw[if_pos h1]
  ·show(if o<H.length then(match σ o with|some j=>g'.fp j|none=>g.fp o) else _) k↔_
   rw[if_pos h1]
   cases hq:σ o with
   | some j=>obtain⟨k1,k2⟩:=(hσ o).1 j hq; exact absurd k2 (h2 j k1)
   | none=>exact Iff.rfl
 have apart0:∀ {o:Nat} {b:Ob} {k:Nat},H[o]?=some b→b.alive=true→(∀ j,j<X.length→ρ j≠o)→blk g b o k→k<w.heap.size∧¬ own (g.through ρ X.length) X k:=by
  intro o b k h1 h2 h3 h4
  refine⟨dM hS ⟨o,b,h1,h2,h4⟩,?_⟩
  rintro⟨j,a,k1,k2,k3⟩
  obtain⟨b',e1,e2⟩:=hsub.ob j a k1
  have:=hS.inj (ρ j) o b' b k e1 h1 (e2.alive k2) h2 ((ee g ρ _ e2 k2 j k).1 k3) h4
  exact h3 j (List.getElem?_eq_some_iff.1 k1).1 this
 have apart:∀ {o:Nat} {b:Ob} {k:Nat},H[o]?=some b→b.alive=true→(∀ j,j<X.length→ρ j≠o)→blk g b o k→k<w.heap.size∧w'.heap[k]?=w.heap[k]?∧(∀ q,¬ g.imm k q→¬ g'.imm k q)∧¬ own g' X' k:=by
  intro o b k h1 h2 h3 h4
  obtain⟨hlt,hno⟩:=apart0 h1 h2 h3 h4
  exact⟨hlt,hX.frame k hlt hno,fun q hq hi=>(hX.im k q hlt hi).elim hq hno,fun ho=>hno (hX.ow k hlt ho)⟩
 have hgx:bL g w g2 w':=by
  refine⟨by show g.n≤H'.length; omega,fun o ho=>?_,fun o ho=>?_,fun o ho=>?_,hX.gx.imm,hX.gx.cell⟩
  ·show(if _ then _ else _)=_; rw[if_pos (by omega)]
  ·show(if _ then _ else _)=_; rw[if_pos (by omega)]
  ·show(if _ then _ else _)=_; rw[if_pos (by omega)]
 have hbk2:∀ o,o<H.length→g2.bk o=g.bk o:=fun o ho=>hgx.bk o (by omega)
 refine⟨v,g2,H',y,rfl,?_,?_,hren.to hs2 hv,hk⟩
 ·refine⟨rfl,fun o o' b b' k h1 h2 h3 h4 h5 h6=>?_,fun o cs h1=>?_,fun o h1=>?_,hS'.imm,fun o r h1=>?_⟩
  ·rcases cases2 o b h1 h3 with⟨j,a,k1,k2,rfl,k3⟩|⟨k1,k2,k3⟩<;>rcases cases2 o' b' h2 h4 with⟨j',a',m1,m2,rfl,m3⟩|⟨m1,m2,m3⟩
   ·rw[hS'.inj j j' a a' k k1 m1 k2 m2 ((blkX k1 k2 k3).1 h5) ((blkX m1 m2 m3).1 h6)]
   ·exact absurd ⟨j,a,k1,k2,(blkX k1 k2 k3).1 h5⟩ (apart m2 h4 m3 ((blkH m1 m3).1 h6)).2.2.2
   ·exact absurd ⟨j',a',m1,m2,(blkX m1 m2 m3).1 h6⟩ (apart k2 h3 k3 ((blkH k1 k3).1 h5)).2.2.2
   ·exact hS.inj o o' b b' k k2 m2 h3 h4 ((blkH k1 k3).1 h5) ((blkH m1 m3).1 h6)
  ·rcases cases2 o _ h1 rfl with⟨j,a,k1,k2,rfl,k3⟩|⟨k1,k2,k3⟩
   ·cases k3 with
    | cells k3=>
     obtain⟨⟨C,ty,e1,e2⟩,e3⟩:=hS'.cells j _ k1
     have hj:j<X'.length:=(List.getElem?_eq_some_iff.1 k1).1
     rw[← hs2.bk j hj]
     exact⟨⟨C,ty,e1,k3.to hs2 e2⟩,e3⟩
    | dead _=>cases k2
   ·obtain⟨⟨C,ty,e1,e2⟩,e3⟩:=hS.cells o cs k2
    obtain⟨_,a2,a3,_⟩:=apart k2 rfl k3 rfl
    rw[hbk2 o k1]
    exact⟨⟨C,ty,a2.trans e1,e2.mono hgx⟩,fun q=>a3 q (e3 q)⟩
  ·rcases cases2 o _ h1 rfl with⟨j,a,k1,k2,rfl,k3⟩|⟨k1,k2,k3⟩
   ·cases k3 with
    | tok=>
     have hj:j<X'.length:=(List.getElem?_eq_some_iff.1 k1).1
     rw[← hs2.bk j hj,← hs2.en j hj,← hs2.sz j hj]
     exact hS'.tok j k1
    | dead _=>cases k2
   ·obtain⟨⟨C,ty,e1,e2⟩,e3⟩:=hS.tok o k2
    obtain⟨_,a2,a3,_⟩:=apart k2 rfl k3 rfl
    rw[hbk2 o k1,hgx.en o (by omega),hgx.sz o (by omega)]
    exact⟨⟨C,ty,a2.trans e1,e2⟩,fun q hq=>a3 q (e3 q hq)⟩
  ·rcases cases2 o _ h1 rfl with⟨j,a,k1,k2,rfl,k3⟩|⟨k1,k2,k3⟩
   ·cases k3 with
    | abs r=>
     have hj:j<X'.length:=(List.getElem?_eq_some_iff.1 k1).1
     rw[← hs2.bk j hj,fp2 j hj]
     exact hS'.abs j r k1
    | dead _=>cases k2
   ·have h2:=(hS.abs o r k2).2.2
    have hfp:∀ b,g2.fp o b↔g.fp o b:=fun b=>blkH (b:= .abs r) (k:=b) k1 k3
    exact hS.dJ k2 hgx (hbk2 o k1) hfp (fun b hb=>(apart k2 rfl k3 hb).2.1) (fun b q hb=>(apart k2 rfl k3 hb).2.2.1 q ((h2 b hb).2 q)) hX.size hS'.imm
 ·have ownsub:∀ b,own (g.through ρ X.length) X b→own g H b:=fun b=>hsub.own
  refine⟨hgx,hX.size,fun b hb ho=>?_,fun b hb ho=>hX.frame b hb (fun k=>ho (ownsub b k)),hX.os,hX.tape,hX.output,fun b q hb hi=>(hX.im b q hb hi).imp id (ownsub b)⟩
  obtain⟨o,b',h1,h2,h3⟩:=ho
  rcases cases2 o b' h1 h2 with⟨j,a,k1,k2,rfl,k3⟩|⟨k1,k2,k3⟩
  ·exact ownsub b (hX.ow b hb ⟨j,a,k1,k2,(blkX k1 k2 k3).1 h3⟩)
  ·exact⟨o,b',k2,h2,(blkH k1 k3).1 h3⟩
end Go.AM

namespace Go.AM
open Go
def cn (h:ae):ae:=h.map fun ob=>match ob with
 | .tok=> .dead
 | ob=>ob
theorem qW (h:ae):(cn h).length=h.length:=by simp[cn]
theorem iW {h:ae} {o:Nat} {ob:Ob} (ho:(cn h)[o]?=some ob):ob = .dead∨(h[o]?=some ob∧ob ≠ .tok):=by
 simp only[cn,List.getElem?_map,Option.map_eq_some_iff] at ho
 obtain⟨a,h1,h2⟩:=ho
 cases a<;>simp only at h2<;>subst h2
 ·exact .inr ⟨h1,fun e=>by cases e⟩
 ·exact .inl rfl
 ·exact .inl rfl
 ·exact .inr ⟨h1,fun e=>by cases e⟩
theorem Sim.cn {g:Gh} {h:ae} {w:World} (hS:Sim g h w):Sim g (cn h) w:=by
 have live:∀ {o:Nat} {ob:Ob},(AM.cn h)[o]?=some ob→ob.alive=true→h[o]?=some ob:=fun ho ha=>by
  rcases iW ho with rfl|⟨k,_⟩
  ·cases ha
  ·exact k
 refine⟨by rw[qW]; exact hS.n,fun o o' ob ob' b h1 h2 h3 h4 h5 h6=>hS.inj o o' ob ob' b (live h1 h3) (live h2 h4) h3 h4 h5 h6,fun o cs h1=>hS.cells o cs (live h1 rfl),fun o h1=>?_,hS.imm,fun o r h1=>hS.abs o r (live h1 rfl)⟩
 rcases iW h1 with e|⟨_,k⟩
 ·cases e
 ·exact absurd rfl k
theorem pL {g:Gh} {h:ae} {b:Nat} (ho:own g (cn h) b):own g h b:=by
 obtain⟨o,ob,h1,h2,h3⟩:=ho
 rcases iW h1 with rfl|⟨k,_⟩
 ·cases h2
 ·exact⟨o,ob,k,h2,h3⟩
def wP (h:ae):Prop:=∀ o:Nat,h[o]?≠some Ob.tok
theorem iz (h:ae):wP (cn h):=fun o ho=>by
 rcases iW ho with e|⟨_,k⟩
 ·cases e
 ·exact k rfl
theorem l9 {g:Gh} {h:ae} {w:World} (hS:Sim g h w) (hn:wP h) {b:Nat} (hb:own g h b) (q:Nat):¬ g.imm b q:=by
 obtain⟨o,ob,h1,h2,h3⟩:=hb
 cases ob with
 | cells cs=>have h3:g.bk o=b:=h3; subst h3; exact(hS.cells o cs h1).2 q
 | tok=>exact absurd h1 (hn o)
 | dead=>cases h2
 | abs r=>exact((hS.abs o r h1).2.2 b h3).2 q
def whole (I:ae→Prop):Rep where
 R:=fun w imm b F=>∃(g:Gh) (h:ae),I h∧Sim g h w∧wP h∧g.imm=imm∧(∃ cs,h[0]?=some (.cells cs))∧g.bk 0=b∧∀ k,F k↔own g h k
 st:=by
  rintro w w' imm imm' b F ⟨g,h,h1,h2,h3,rfl,h5,h6,h7⟩ hfr him hc hni hsz hbd
  let g':Gh:={ g with imm:=imm' }
  have hgx:bL g w g' w':=⟨Nat.le_refl _,fun _ _=>rfl,fun _ _=>rfl,fun _ _=>rfl,him,hc⟩
  have hb:∀ ob o k,blk g' ob o k↔blk g ob o k:=fun ob o k=>dm rfl (fun _=>Iff.rfl) ob k
  have hin:∀ {o:Nat} {ob:Ob} {k:Nat},h[o]?=some ob→ob.alive=true→blk g ob o k→F k:=fun k1 k2 k3=>(h7 _).2 ⟨_,_,k1,k2,k3⟩
  refine⟨g',h,h1,⟨h2.n,fun o o' ob ob' k k1 k2 k3 k4 k5 k6=>h2.inj o o' ob ob' k k1 k2 k3 k4 ((hb _ _ _).1 k5) ((hb _ _ _).1 k6),fun o cs k1=>?_,fun o k1=>absurd k1 (h3 o),hbd,fun o r k1=>?_⟩,h3,rfl,h5,h6,fun k=>(h7 k).trans ⟨fun⟨o,ob,k1,k2,k3⟩=>⟨o,ob,k1,k2,(hb _ _ _).2 k3⟩,fun⟨o,ob,k1,k2,k3⟩=>⟨o,ob,k1,k2,(hb _ _ _).1 k3⟩⟩⟩
  ·obtain⟨⟨C,ty,e1,e2⟩,e3⟩:=h2.cells o cs k1
   have hF:=hin k1 rfl rfl
   exact⟨⟨C,ty,(hfr _ hF).trans e1,e2.mono hgx⟩,fun q=>hni _ q hF⟩
  ·exact h2.dJ k1 hgx rfl (fun _=>Iff.rfl) (fun k hk=>hfr k (hin k1 rfl hk)) (fun k q hk=>hni k q (hin k1 rfl hk)) hsz hbd
def jN (h:ae):Prop:=∃ cs,h[0]?=some (.cells cs)
theorem nl {cs:List PV} {t:ae}:jN (.cells cs::t):=⟨cs,rfl⟩
theorem jN.cn {h:ae} (hr:jN h):jN (cn h):=by
 obtain⟨cs,h1⟩:=hr
 exact⟨cs,by simp[AM.cn,h1]⟩
end Go.AM

namespace Go.AM
open Go
def cw (p:List Nat) (c:Code):Code:=(sub p c).getD .skip
theorem jz {p:List Nat} {c:Code} (h:(sub p c).isSome=true):sub p c=some (cw p c):=by
 unfold cw
 cases hq:sub p c with
 | none=>rw[hq] at h; cases h
 | some x=>rfl
theorem dQ [Dfr] {P:Program} {gl:aC} {n:Nat} {T:Tab} (hT:aB P gl T) {L:kg} {hn:Oper→Nat} {x:Code} (hL:LOk P gl n x [] L) {Q:Ex→Env→ae→Prop} {e:Env} {H X:ae} {slots outs:List Nat} {lF:List PV}
  (he:ak (slots.map e) lF) (hH:az H X) (h:Holds (wpc br P gl T L hn x [] (av slots lF) X (fun ex e' H'=>(fun ex vs H'=>Q ex (av outs vs) H') ex (outs.map e') H'))):AW P gl n x Q e H:=by
 have he:slots.map e=lF:=he
 have hH:H=X:=hH
 subst hH
 refine AW.of_le (e1:=av slots lF) (by rw[← he]; exact bQ e slots) (AW.weaken ((aY hT x [] hL _ _ _ h.out).mono fun ex e' H' k=>?_))
 exact⟨av outs (outs.map e'),bQ e' outs,k⟩
def dw (args:List PV) (H:ae) (K:PV→Prop):Prop:=match args with
 | [.list es _,.arr o _ _ _]=>es.flatten≠[]∧(match H[o]? with|some (.cells cs)=>cs≠[]|_=>False)∧K (.bool false)
 | _=>False
theorem rh {P:Program} {g:Gh} {H:ae} {w:World} (hS:Sim g H w) {params rs:Array TypeId} {t e:TypeId} {b:Bool} {sz:Nat} (hp:params[0]?=some t) (ht:P.underlying t=some (.slice e)) (he:tyA P e=some (b,sz))
  {es:List (List PV)} {tl:Tail} {o off len cap:Nat} {cs:List PV} {c:PV} (hne:es.flatten≠[]) (ho:H[o]?=some (.cells (c::cs))) {v u:Value} (hv:Rel g w (.list es tl) v) (hu:Rel g w (.arr o off len cap) u):
  (Extern.SlicesOverlaps.overlaps params rs #[v,u]).run P w = .ok (.bool false) w:=by
 obtain⟨a,cap',rfl,_,_,_,hc⟩:=Rel.aT.1 hv
 rcases hc with hc|⟨A,rfl,hA,hrow⟩
 ·exact absurd hc hne
 obtain⟨x0,hx0⟩:∃ x,es.flatten[0]?=some x:=by
  cases hq:es.flatten with
  | nil=>exact absurd hq hne
  | cons x xs=>exact⟨x,rfl⟩
 obtain⟨hi,c0,hc0,_⟩:=hrow 0 x0 hx0
 cases hu with
 | arr _ _ _ _ hog=>
 obtain⟨⟨C,ty,hC,hr⟩,hni⟩:=hS.cells o _ ho
 have hblk:A.block≠g.bk o:=fun e'=>hni (A.off+0) (by rw[← e']; exact hi)
 have hshA:∃ ty' n,w.shape? A.block=some (ty',n+1):=by
  unfold World.cell? at hc0
  simp only[At] at hc0
  unfold World.shape?
  split at hc0
  ·rename_i C' ty' fr hb'
   have hne:C'.size≠0:=by
    simp only[Option.isSome_none,Bool.false_eq_true,if_false] at hc0
    have:=(Array.getElem?_eq_some_iff.1 hc0).1; omega
   refine⟨ty',C'.size-1,?_⟩
   rw[show C'.size-1+1=C'.size by omega]
  ·cases hc0
 obtain⟨ty',n,hp'⟩:=hshA
 have hshB:w.shape? (g.bk o)=some (ty,C.size):=by unfold World.shape?; rw[hC]
 have hCs:C.size≠0:=by have:=hr.1; simp at this; omega
 have hfrB:∀ q,w.frozen? ⟨g.bk o,q,none⟩=false:=fun q=>gV hC q
 have hb1:(A.block == g.bk o)=false:=by simpa using hblk
 have hb2:(A.block != g.bk o)=true:=by simpa using hblk
 delta Extern.SlicesOverlaps.overlaps
 conv=>lhs; arg 2; whnf
 simp only[hp,Sem.run_bind,aE ht,Result.andThen_ok,run_sizeOf he]
 by_cases hz:es.length=0∨len=0∨sz=0
 ·rw[if_pos hz]; rfl
 ·rw[if_neg hz]
  simp only[hb2,hb1,hfrB,Sem.run_bind,run_frozen,Result.andThen_ok,Bool.true_and,Bool.and_false,Bool.false_eq_true,if_false,if_true,Bool.false_and,Sem.run_pure,noView,viewAt,run_shape,hp',hshB,Option.isSome_some,Option.isSome_none,mayBeOne,stringish]
  by_cases hfA:w.frozen? A=true
  ·simp[hfA,hCs,hp',hshB,hfrB]
  ·simp[hfA,hCs,hp',hshB,hfrB]
theorem iq {P:Program} {gl:aC} {f:FuncId} {fn:Func} {t e:TypeId} {b:Bool} {sz:Nat} (hf:P.funcs[f]?=some fn) (hname:(fn.name == "runtime.NumGoroutine")=false) (hb:fn.body.isNone=true) (hn:Extern.findNext fn=none)
  (hfi:Extern.find fn=some (Extern.SlicesOverlaps.overlaps fn.params fn.resultTypes)) (hp:fn.params[0]?=some t) (ht:P.underlying t=some (.slice e)) (he:tyA P e=some (b,sz)):aO P gl f (.ext dw):=by
 intro args H K h g w vs hS hR
 unfold dw at h
 split at h
 ·rename_i es tl o off len cap
  obtain⟨h1,h2,h3⟩:=h
  split at h2
  ·rename_i cs0 ho
   obtain⟨c,cs,rfl⟩:=List.exists_cons_of_ne_nil h2
   obtain⟨v,u,rfl,hv,hu⟩:=gh hR rfl
   exact⟨_,_,by rw[run_callFunc_extern hf hname hb hn hfi,rh hS hp ht he h1 ho hv hu]; rfl,.bool false,h3⟩
  ·exact h2.elim
 ·exact h.elim
end Go.AM

namespace Go.AM
open Go
def bO (H:ae) (o:Nat) (r:Rep):Prop:=H[o]?=some (.abs r)
def gL (H:ae) (o:Nat) (cs:List PV):Prop:=H[o]?=some (.cells cs)
theorem cW {α:Type} {f:α→List PV} {sz:Nat} (hf:∀ a,(f a).length=sz) (h0:sz≠0) (l:List α) (i:Nat):InL (l.map f) sz (i:Int)=(i<l.length):=by
 apply propext
 constructor
 ·intro h; have:=h.2.1; simpa using this
 ·intro h
  refine⟨by omega,by simpa using h,?_,h0⟩
  intro e he
  simp only[List.mem_map] at he
  obtain⟨a,_,rfl⟩:=he
  exact hf a
theorem getD_map {α:Type} {f:α→List PV} {l:List α} {i:Nat} (d:α) (h:i<l.length):(l.map f).getD i []=f (l.getD i d):=by
 rw[List.getD_eq_getElem?_getD,List.getElem?_map,List.getElem?_eq_getElem h,List.getD_eq_getElem?_getD,List.getElem?_eq_getElem h]; rfl
theorem b9 {α:Type} {f:α→List PV} {sz:Nat} (hf:∀ a,(f a).length=sz) (l:List α):uni sz (l.map f):=by
 intro e he
 simp only[List.mem_map] at he
 obtain⟨a,_,rfl⟩:=he
 exact hf a
theorem bh {α:Type} {f:α→List PV} {n:Nat} {l:List α} (hf:∀ a∈l,∀ x∈f a,Low n x):∀ x∈(l.map f).flatten,Low n x:=by
 intro x hx
 obtain⟨e,he,hx⟩:=List.mem_flatten.1 hx
 simp only[List.mem_map] at he
 obtain⟨a,ha,rfl⟩:=he
 exact hf a ha x hx
abbrev iI (n:Int):Int:=n
theorem bt (b:Bool):((b == true)=true)=(b=true):=by cases b<;>simp
theorem dt (p:Prop) [Decidable p]:(decide p=true)=p:=by simp
end Go.AM

namespace Go.AM
open Go
structure Pad (H H2:ae):Prop where
 len:H.length≤H2.length
 ob:∀(o:Nat) (ob:Ob),H2[o]?=some ob→ob.alive=true→H[o]?=some ob
theorem Pad.refl (H:ae):Pad H H:=⟨Nat.le_refl _,fun _ _ h _=>h⟩
theorem fu (H:ae):Pad H (H++[.dead]):=by
 refine⟨by simp,fun o ob h ha=>?_⟩
 rcases aK _ _ _ _ h with⟨h1,_⟩|⟨_,rfl⟩
 ·exact h1
 ·cases ha
theorem gk (H:ae) (x:Ob):Pad (H++[x]) (H++[.dead]):=by
 refine⟨by simp,fun o ob h ha=>?_⟩
 rcases aK _ _ _ _ h with⟨h1,h2⟩|⟨_,rfl⟩
 ·rw[List.getElem?_append_left h2]; exact h1
 ·cases ha
theorem St.pad [Dfr] {gl:aC} {n:Nat} {g g0:Gh} {e:Env} {H H0 H2:ae} {a:Act} {w w0:World} (hst:St gl n g e H a w) (hx:Ext g0 H0 w0 g H w) (hp:Pad H H2):∃ g',St gl n g' e H2 a w∧Ext g0 H0 w0 g' H2 w:=by
 let g':Gh:=⟨H2.length,g.bk,g.en,g.sz,g.imm,g.fp⟩
 have hb:blk g'=blk g:=by funext ob o b; cases ob<;>rfl
 have hn:g.n=H.length:=hst.sim.n
 have hgx:bL g w g' w:=⟨by show g.n≤H2.length; rw[hn]; exact hp.len,fun _ _=>rfl,fun _ _=>rfl,fun _ _=>rfl,fun _ _ h=>h,fun _ _ _=>rfl⟩
 have hS:=hst.sim
 refine⟨g',⟨⟨rfl,fun o o' ob ob' b h1 h2 h3 h4=>by rw[hb]; exact hS.inj o o' ob ob' b (hp.ob _ _ h1 h3) (hp.ob _ _ h2 h4) h3 h4,fun o cs h1=>?_,fun o h1=>hS.tok o (hp.ob _ _ h1 rfl),hS.imm,fun o r h1=>hS.abs o r (hp.ob _ _ h1 rfl)⟩,hst.glob.mono hgx,hst.env.mono hgx,hst.dfr⟩,?_⟩
 ·obtain⟨⟨C,ty,e1,e2⟩,e3⟩:=hS.cells o cs (hp.ob _ _ h1 rfl)
  exact⟨⟨C,ty,e1,e2.mono hgx⟩,e3⟩
 ·refine⟨hx.gx.trans hgx,hx.size,fun b hb' ho=>?_,hx.frame,hx.os,hx.tape,hx.output,hx.im⟩
  obtain⟨o,ob,h1,h2,h3⟩:=ho
  rw[hb] at h3
  exact hx.ow b hb' ⟨o,ob,hp.ob _ _ h1 h2,h2,h3⟩
theorem kU {g:Gh} {w:World}:∀ {ts:List Nat} {vs vs2:List PV},WkL vs vs2→∀ t v,Rel g w (av ts vs t) v→Rel g w (av ts vs2 t) v
 | [],_,_,_,t,v,_=>by unfold av; exact .any v
 | k::ts,_,_,.nil,t,v,_=>by unfold av; exact .any v
 | k::ts,_,_,.cons h hs,t,v,hr=>by
  simp only[av] at hr ⊢
  cases hk:t == k with
  | true=>rw[hk] at hr; exact h g w v hr
  | false=>rw[hk] at hr; exact kU hs t v hr
def vz {σ:Type} (Q:Ex→Env→ae→Prop) (n0:Nat) (slots:List Nat) (I:σ→Prop) (V:σ→List PV) (Hp:σ→ae) (m:σ→Nat) (s:σ):Ex→List PV→ae→Prop:=fun ex vs H'=>match ex with
 | .normal=>∃ s',m s'<m s∧I s'∧Relab n0 vs H' (V s') (Hp s')
 | .exit i=>∃ vs2 H2,WkL vs vs2∧Pad H' H2∧Q (.exit i) (av slots vs2) H2
 | .ret=>∃ vs2 H2,WkL vs vs2∧Pad H' H2∧Q .ret (av slots vs2) H2
theorem l8 [Dfr] {P:Program} {gl:aC} (hgl:aU gl) {n:Nat} {x:Code} {Q:Ex→Env→ae→Prop} {e:Env} {H:ae} {σ:Type} (slots:List Nat) (I:σ→Prop) (V:σ→List PV) (Hp:σ→ae) (m:σ→Nat) (s0:σ)
  (h0:I s0) (he:slots.map e=V s0) (hH:H=Hp s0)
  (round:∀ s,I s→AW P gl n x (fun ex e' H'=>vz Q H.length slots I V Hp m s ex (slots.map e') H') (av slots (V s)) (Hp s)):AW P gl n (.loop x) Q e H:=by
 intro hd g a w hst
 simp only[bN] at hd
 have hng:g.n=H.length:=hst.sim.n
 refine wp_loop_ghost (fun k a' w'=>∃ g' s,k=m s∧I s∧St gl n g' (av slots (V s)) (Hp s) a' w'∧Ext g H w g' (Hp s) w') (m s0) ⟨g,s0,rfl,h0,by rw[← hH,← he]; exact hst.weaken (bQ e slots),by rw[← hH]; exact .refl g H w⟩ ?_
 rintro k a1 w1 ⟨g1,s,rfl,hI,hst1,hx1⟩
 refine wp_mono (round s hI hd g1 a1 w1 hst1) ?_
 rintro ex a' w' ⟨ex',g',e',H',k0,k1,k2,k3⟩
 have k1':=k1.weaken (bQ e' slots)
 have wk:∀ {vs2:List PV} {H2:ae},WkL (slots.map e') vs2→Pad H' H2→∃ g3,St gl n g3 (av slots vs2) H2 a' w'∧Ext g H w g3 H2 w':=fun h1 h2=>by
  have k4:St gl n g' (av slots _) H' a' w':=⟨k1'.sim,k1'.glob,⟨k1'.env.1,fun t=>kU h1 t _ (k1'.env.2 t)⟩,k1'.dfr⟩
  exact k4.pad (hx1.trans k2) h2
 cases ex<;>cases ex'<;>first|exact k0.elim|skip
 ·obtain⟨s',hm,hI',hr⟩:=k3
  obtain⟨g3,j1,j2⟩:=k1'.Kn hgl (hx1.trans k2) hng hr
  exact⟨m s',hm,g3,s',rfl,hI',j1,j2⟩
 ·obtain⟨vs2,H2,j1,j2,j3⟩:=k3
  obtain⟨g3,j4,j5⟩:=wk j1 j2
  exact⟨.exit _,g3,_,H2,k0,j4,j5,j3⟩
 ·obtain⟨vs2,H2,j1,j2,j3⟩:=k3
  obtain⟨g3,j4,j5⟩:=wk j1 j2
  exact⟨.ret,g3,_,H2,k0,j4,j5,j3⟩
def tlG (n0:Nat):Nat→Tail
 | 0=> .exact
 | _+1=> .tok n0
def hpG (B:ae):Nat→ae
 | 0=>B
 | _+1=>B++[.tok]
end Go.AM

namespace Go.AM
open Go
def DD {α:Type} (f:α→List PV) (T:List α) (Q:Ex→Env→ae→Prop) (B:ae) (slots:List Nat) (V:PV→Nat→List PV) (i:Nat):Ex→List PV→ae→Prop:=fun ex vs H'=>match ex with
 | .normal=>i<T.length∧∃ X k,H'=B++X∧(B++X)[k]?=some .tok∧B.length≤k∧vs=V (.list ((T.take (i+1)).map f) (.tok k)) (i+1)
 | .exit j=>∃ vs2 H2,WkL vs vs2∧Pad H' H2∧Q (.exit j) (av slots vs2) H2
 | .ret=>∃ vs2 H2,WkL vs vs2∧Pad H' H2∧Q .ret (av slots vs2) H2
theorem vV [Dfr] {α:Type} {f:α→List PV} {T:List α} {P:Program} {gl:aC} (hgl:aU gl) {n:Nat} {Tb:Tab} (hT:aB P gl Tb) {L:kg} {hn:Oper→Nat} {x:Code} (hL:LOk P gl n x [] L) {Q:Ex→Env→ae→Prop} {e:Env} {H:ae} (slots:List Nat) (V:PV→Nat→List PV) (B:ae)
  (hlow:∀(o:Nat) cs,B[o]?=some (.cells cs)→∀ x∈cs,Low B.length x) (hf:∀ a∈T,∀ x∈f a,Low B.length x)
  (hrv:∀(es:List (List PV)) (i k:Nat),(∀ y∈es.flatten,Low B.length y)→RVs B.length k (V (.list es (.tok k)) i) (V (.list es (.tok B.length)) i))
  (he:slots.map e=V (.list [] .exact) 0) (hH:H=B)
  (first:Holds (wpc br P gl Tb L hn x [] (av slots (V (.list [] .exact) 0)) B (fun ex e' H'=>DD f T Q B slots V 0 ex (slots.map e') H')))
  (later:∀ i,0<i→i≤T.length→Holds (wpc br P gl Tb L hn x [] (av slots (V (.list ((T.take i).map f) (.tok B.length)) i)) (B++[.tok]) (fun ex e' H'=>DD f T Q B slots V i ex (slots.map e') H'))):AW P gl n (.loop x) Q e H:=by
 subst hH
 have key:∀ i,i≤T.length→∀ ex vs H',DD f T Q H slots V i ex vs H'→vz Q H.length slots (fun i=>i≤T.length) (fun i=>V (.list ((T.take i).map f) (tlG H.length i)) i) (fun i=>hpG H i) (fun i=>T.length-i) i ex vs H':=by
  intro i hi ex vs H' h
  cases ex with
  | exit j=>exact h
  | ret=>exact h
  | normal=>
   obtain⟨hlt,X,k,rfl,h2,h3,rfl⟩:=h
   refine⟨i+1,(show T.length-(i+1)<T.length-i by omega),hlt,?_⟩
   exact relab_row rfl hlow h3 h2 (hrv _ _ _ (bh fun a ha=>hf a (List.mem_of_mem_take ha)))
 refine l8 hgl (σ:=Nat) slots (fun i=>i≤T.length) (fun i=>V (.list ((T.take i).map f) (tlG H.length i)) i) (fun i=>hpG H i) (fun i=>T.length-i) 0 (Nat.zero_le _) (by simpa[tlG] using he) rfl ?_
 intro i hi
 cases i with
 | zero=>exact(aY hT x [] hL _ _ _ first.out).mono fun ex e' H' k=>key 0 hi ex _ H' k
 | succ i=>exact(aY hT x [] hL _ _ _ (later (i+1) (Nat.succ_pos i) hi).out).mono fun ex e' H' k=>key (i+1) hi ex _ H' k
end Go.AM

namespace Go.AM
open Go
theorem bg {P:Program} {gl:aC} {f:FuncId} {args args':List PV} {H:ae} {K:PV→ae→Prop} (hw:WkL args args') (h:aj P gl f args' H K):aj P gl f args H K:=by
 intro g w vs hS hG hR
 exact h g w vs hS hG (hw.rel hR)
theorem bH {P:Program} {gl:aC} (hgl:aU gl) {f:FuncId} {args args':List PV} {r:PV} {K:PV→Prop} (hw:WkL args args') (ha:∀ x∈args',Low 0 x) (hr:Low 0 r) (h:aj P gl f args' [] (fun x _=>x=r)) (hk:K r):∃ r,ix P gl f args r∧K r:=
 ⟨r,fun H=>bg hw (ix.alone hgl ha hr h H),hk⟩
end Go.AM

namespace Go.AM
open Go
def DB (rk:Nat→Nat) (ops:Array Oper) (hn:Oper→Nat) (i j:Nat):Prop:=rk j<rk i→∀ oj oi,ops[j]?=some oj→ops[i]?=some oi→indep ops hn oj oi=true
theorem mq {P:Program} {gl:aC} {hn:Oper→Nat} {ops:Array Oper} (rk:Nat→Nat):∀(σ L:List Nat) (e:Env) (H:ae) (e2:Env) (H2:ae),
  L.Pairwise (fun a b=>rk a<rk b)→σ.Perm L→σ.Pairwise (DB rk ops hn)→Chain P gl hn ops L e H e2 H2→Chain P gl hn ops σ e H e2 H2:=by
 intro σ
 induction σ with
 | nil=>
  intro L e H e2 H2 _ hp _ h
  have:L=[]:=List.Perm.eq_nil hp.symm
  subst this; exact h
 | cons i σ ih=>
  intro L e H e2 H2 hL hp hR h
  have hi:i∈L:=hp.subset (by simp)
  obtain⟨A,B,rfl⟩:=List.append_of_mem hi
  have hb:=B1 A e H e2 H2 (fun k hk ok oi h1 h2=>by
   have hlt:rk k<rk i:=(List.pairwise_append.1 hL).2.2 k hk i (by simp)
   have hkσ:k∈σ:=by
    have:k∈i::σ:=hp.symm.subset (by simp[hk])
    rcases List.mem_cons.1 this with e|h
    ·subst e; omega
    ·exact h
   exact(List.pairwise_cons.1 hR).1 k hkσ hlt ok oi h1 h2) h
  cases hb with
  | cons ho h1 hs=>
   refine .cons ho h1 (ih (A++B) _ _ _ _ ?_ ?_ (List.pairwise_cons.1 hR).2 hs)
   ·exact hL.sublist (by simp)
   ·exact(List.perm_cons i).1 (hp.trans (List.perm_middle))
def qx (ops:Array Oper):Bool:=
 jj ops && jy .any ops (mO .any ops) && (!Region.departs ops || jy .text ops (mO .text ops)) && (!Region.departs ops || jy .gc ops (mO .gc ops))
def gD (ops:Array Oper) (is:List Nat):List Oper:=is.filterMap fun i=>ops[i]?
theorem ic {ops:Array Oper}:∀ {is:List Nat},(∀ i∈is,i<ops.size)→is.map (fun i=>ops[i]?)=(gD ops is).map some
 | [],_=>rfl
 | i::is,h=>by
  have h0:=h i (by simp)
  have ih:=ic (is:=is) fun j hj=>h j (by simp[hj])
  unfold gD at ih ⊢
  rw[List.map_cons,ih,List.filterMap_cons]
  simp[Array.getElem?_eq_getElem h0]
end Go.AM

namespace Go.AM
open Go
def opsOf:Code→Array Oper
 | .region _ ops _=>ops
 | _=> #[]
def CW:Code→Bool
 | .region _ _ d=>d
 | _=>false
end Go.AM

namespace Go.AM
open Go
theorem oR {ρ:Nat→Nat} {n:Nat}:∀ {xs:List PV},(∀ x∈xs,Low 0 x)→aW ρ n xs xs
 | [],_=> .nil
 | x::xs,h=> .cons (.low (h x (by simp))) (oR fun y hy=>h y (by simp[hy]))
theorem H8 {P:Program} {gl:aC} (hgl:aU gl) {f:FuncId} {args args':List PV} {es:List (List PV)} (hw:WkL args args') (ha:∀ x∈args',Low 0 x) (hl:∀ x∈es.flatten,Low 0 x)
  (h:aj P gl f args' [] (fun x H'=>(es=[]→x = .list [] .exact)∧(es≠[]→∃ o,x = .list es (.tok o)∧H'[o]?=some .tok))) (H:ae):
  aj P gl f args H (fun x H'=>(es=[]→x = .list [] .exact∧H'=H)∧(es≠[]→x = .list es (.tok H.length)∧H'=H++[.tok])):=by
 refine bg hw (a9 hgl (X:=[]) (ρ:=fun o=>o) ⟨by simp,by simp,by simp⟩ (oR ha) (b5 hgl (h.mono ?_)))
 rintro x H' ⟨h1,h2⟩
 by_cases h0:es=[]
 ·refine⟨.list [] .exact,[],fun o=>o,⟨by simp,by simp,by simp⟩,by simp,by simp,?_,.list [] .exact,H,⟨by simp,by simp,by simp,fun o _ _=>rfl⟩,?_,fun _=>⟨rfl,rfl⟩,fun k=>absurd h0 k⟩
  ·rw[h1 h0]; exact .low (.list _ _ (by intro o e; cases e) (by simp))
  ·exact .low (.list _ _ (by intro o e; cases e) (by simp))
 ·obtain⟨o,rfl,ho⟩:=h2 h0
  have hol:o<H'.length:=(List.getElem?_eq_some_iff.1 ho).1
  refine⟨.list es (.tok 0),[.tok],fun _=>o,⟨fun _ _=>hol,fun a b ha hb _=>by simp at ha hb; omega,fun j a h1=>?_⟩,by simp,by simp,.ltok _ 0 (by simp) hl,.list es (.tok H.length),H++[.tok],⟨by simp,by simp,fun j a h1=>?_,fun o h1 _=>?_⟩,?_,fun k=>absurd k h0,fun _=>⟨rfl,rfl⟩⟩
  ·have:j=0:=by have:=(List.getElem?_eq_some_iff.1 h1).1; simpa using this
   subst this; cases h1
   exact⟨_,ho,.tok⟩
  ·have:j=0:=by have:=(List.getElem?_eq_some_iff.1 h1).1; simpa using this
   subst this; cases h1
   exact⟨.tok,by simp[aN],.tok,fun _=>rfl⟩
  ·rw[List.getElem?_append_left h1]
  ·have:=Ren.ltok (ρ:=aN (fun o=>o) ([]:ae).length H.length) (n:=1) es 0 (by omega) hl
   simpa[aN] using this
end Go.AM

namespace Go.AM
open Go
inductive WkO:Ob→Ob→Prop where
 | refl (x:Ob):WkO x x
 | cells {cs cs':List PV} (h:WkL cs cs'):WkO (.cells cs) (.cells cs')
structure WkH (H H1:ae):Prop where
 len:H1.length=H.length
 ob:∀(o:Nat) (b:Ob),H1[o]?=some b→∃ a,H[o]?=some a∧WkO a b
theorem WkH.refl (H:ae):WkH H H:=⟨rfl,fun _ b h=>⟨b,h,.refl b⟩⟩
theorem WkO.alive {a b:Ob} (h:WkO a b) (hb:b.alive=true):a.alive=true:=by cases h<;>first|exact hb|rfl
theorem WkO.blk {a b:Ob} (h:WkO a b) (g:Gh) (o k:Nat):blk g b o k↔blk g a o k:=by cases h<;>exact Iff.rfl
theorem WkH.sim {H H1:ae} (h:WkH H H1) {g:Gh} {w:World} (hS:Sim g H w):Sim g H1 w:=by
 refine⟨by rw[h.len]; exact hS.n,fun o o' a a' k h1 h2 h3 h4 h5 h6=>?_,fun o cs h1=>?_,fun o h1=>?_,hS.imm,fun o r h1=>?_⟩
 ·obtain⟨b,k1,k2⟩:=h.ob o a h1
  obtain⟨b',k3,k4⟩:=h.ob o' a' h2
  exact hS.inj o o' b b' k k1 k3 (k2.alive h3) (k4.alive h4) ((k2.blk g o k).1 h5) ((k4.blk g o' k).1 h6)
 ·obtain⟨b,k1,k2⟩:=h.ob o _ h1
  cases k2 with
  | refl=>exact hS.cells o cs k1
  | cells hw=>
   obtain⟨⟨C,ty,e1,e2⟩,e3⟩:=hS.cells o _ k1
   exact⟨⟨C,ty,e1,hw.rel e2⟩,e3⟩
 ·obtain⟨b,k1,k2⟩:=h.ob o _ h1
  cases k2 with
  | refl=>exact hS.tok o k1
 ·obtain⟨b,k1,k2⟩:=h.ob o _ h1
  cases k2 with
  | refl=>exact hS.abs o r k1
theorem WkH.own {H H1:ae} (h:WkH H H1) {g:Gh} {b:Nat} (hb:own g H1 b):own g H b:=by
 obtain⟨o,a,h1,h2,h3⟩:=hb
 obtain⟨b',k1,k2⟩:=h.ob o a h1
 exact⟨o,b',k1,k2.alive h2,(k2.blk g o b).1 h3⟩
def dV (n0:Nat) (vs':List PV) (H':ae) (vs:List PV) (H:ae):Prop:=
 ∃(vs1:List PV) (H1:ae) (ρ:Nat→Nat),WkL vs' vs1∧WkH H' H1∧Sub ρ H H1∧n0≤H.length∧(∀ o,o<n0→ρ o=o)∧aW ρ H.length vs vs1
theorem n8 {ρ:Nat→Nat} {n:Nat} {g0 g:Gh} {w:World} (hs:Seen ρ n g0 g):∀ {ts:List Nat} {vs vs1:List PV},aW ρ n vs vs1→∀ t v,Rel g w (av ts vs1 t) v→Rel g0 w (av ts vs t) v
 | [],_,_,_,t,v,_=>by unfold av; exact .any v
 | k::ts,_,_,.nil,t,v,_=>by unfold av; exact .any v
 | k::ts,_,_,.cons h hs',t,v,hr=>by
  simp only[av] at hr ⊢
  cases hk:t == k with
  | true=>rw[hk] at hr; exact h.back hs hr
  | false=>rw[hk] at hr; exact n8 hs hs' t v hr
theorem St.lm [Dfr] {gl:aC} (hgl:aU gl) {n:Nat} {g0 g:Gh} {H0 H' H:ae} {w0 w:World} {slots:List Nat} {vs' vs:List PV} {a:Act} (hst:St gl n g (av slots vs') H' a w) (hx:Ext g0 H0 w0 g H' w) (hn:g0.n=H0.length)
  (hr:dV H0.length vs' H' vs H):∃ g3,St gl n g3 (av slots vs) H a w∧Ext g0 H0 w0 g3 H w:=by
 obtain⟨vs1,H1,ρ,hw,hh,hsub,hlen,hid,hren⟩:=hr
 have hS1:=hh.sim hst.sim
 have hs:Seen ρ H.length (g.through ρ H.length) g:=ez fun o ho=>by rw[hS1.n]; exact hsub.lt o ho
 refine⟨g.through ρ H.length,⟨hsub.sim hS1,fun k cs hk=>?_,⟨hst.env.1,fun t=>n8 hs hren t _ (kU hw t _ (hst.env.2 t))⟩,hst.dfr⟩,?_⟩
 ·refine⟨(hst.glob k cs hk).1,fun q x hq=>?_⟩
  obtain⟨h1,c,h2,h3⟩:=(hst.glob k cs hk).2 q x hq
  exact⟨h1,c,h2,dl h3 (hgl k cs hk x (List.mem_iff_getElem?.2 ⟨q,hq⟩)) rfl⟩
 ·refine⟨⟨by rw[hn]; exact hlen,fun o ho=>?_,fun o ho=>?_,fun o ho=>?_,hx.gx.imm,hx.gx.cell⟩,hx.size,fun b hb ho=>hx.ow b hb (hh.own (hsub.own ho)),hx.frame,hx.os,hx.tape,hx.output,hx.im⟩
  ·show g.bk (ρ o)=_; rw[hid o (by omega)]; exact hx.gx.bk o ho
  ·show g.en (ρ o)=_; rw[hid o (by omega)]; exact hx.gx.en o ho
  ·show g.sz (ρ o)=_; rw[hid o (by omega)]; exact hx.gx.sz o ho
theorem AW.lm [Dfr] {P:Program} {gl:aC} (hgl:aU gl) {n:Nat} {c:Code} {Q:Ex→Env→ae→Prop} {e:Env} {H:ae} {slots:List Nat}
  (h:AW P gl n c (fun ex e' H'=>∃ vs H2,dV H.length (slots.map e') H' vs H2∧Q ex (av slots vs) H2) e H):AW P gl n c Q e H:=by
 intro hd g a w hst
 refine wp_mono (h hd g a w hst) ?_
 rintro ex a' w' ⟨ex',g',e',H',k0,k1,k2,vs,H2,k3,k4⟩
 obtain⟨g3,j1,j2⟩:=(k1.weaken (bQ e' slots)).lm hgl k2 hst.sim.n k3
 exact⟨ex',g3,_,H2,k0,j1,j2,k4⟩
theorem rf {ops:Array Oper} (h:qx ops=true) (mixed:Bool) (t:Nat):
  (Region.schedule mixed ops t).Perm (List.range ops.size)∧(Region.schedule mixed ops t).Pairwise (fun a b=>((fF ops.toList).getD a []).contains b=false):=by
 simp only[qx,Bool.and_eq_true] at h
 obtain⟨⟨⟨hb,hra⟩,hrt⟩,hrg⟩:=h
 have main:∀ md t,jy md ops (mO md ops)=true→(Region.linearise md ops t).Perm (List.range ops.size)∧(Region.linearise md ops t).Pairwise (fun a b=>((fF ops.toList).getD a []).contains b=false):=by
  intro md t hrk
  unfold Region.linearise
  obtain⟨k1,k2,k3,k4⟩:=zF (md:=md) hrk ops.size t (Array.replicate ops.size false) [] (by simp) (fun i hi=>by simp[Array.getD,hi]) (by simp) (by simp) (fun p i o hp=>by simp at hp) (by simp)
  generalize Region.linearise.go md ops ops.size t (Array.replicate ops.size false) []=l at k1 k2 k3 k4
  refine⟨?_,?_⟩
  ·refine(List.perm_ext_iff_of_nodup k1 List.nodup_range).2 fun a=>⟨fun ha=>by simpa using k2 a ha,fun ha=>?_⟩
   rcases Classical.em (a∈l) with h|h
   ·exact h
   ·exfalso
    have h1:(a::l).Nodup:=List.nodup_cons.2 ⟨h,k1⟩
    have h2:(a::l) ⊆ List.range ops.size:=by
     intro x hx
     rcases List.mem_cons.1 hx with rfl|hx
     ·exact ha
     ·simpa using k2 x hx
    have:=List.Nodup.length_le_of_subset h1 h2
    simp at this
    omega
  ·rw[List.pairwise_iff_getElem]
   intro p q hp hq hpq
   cases hc:((fF ops.toList).getD l[p] []).contains l[q] with
   | false=>rfl
   | true=>
    exfalso
    have:=ou hb k3 k2 p l[p] (List.getElem?_eq_getElem hp) l[q] (by simpa using hc)
    obtain⟨r,hr⟩:=List.mem_iff_getElem?.1 this
    have hrp:r<p:=by
     have:=(List.getElem?_eq_some_iff.1 hr).1
     simp at this; omega
    rw[List.getElem?_take,if_pos hrp] at hr
    have hrl:r<l.length:=by omega
    rw[List.getElem?_eq_getElem hrl] at hr
    have:=(List.getElem_inj k1).1 (Option.some.inj hr)
    omega
 unfold Region.schedule
 split
 ·exact main _ _ hra
 ·rename_i hdep
  have hdp:Region.departs ops=true:=by
   revert hdep
   cases mixed<;>cases Region.departs ops<;>simp
  rw[hdp] at hrt hrg
  simp only[Bool.not_true,Bool.false_or] at hrt hrg
  split
  ·exact main _ _ hrt
  ·exact main _ _ hrg
end Go.AM

namespace Go.AM
open Go
theorem oy {n0:Nat} {B X:ae} {vs:List PV} (hB:B.length=n0) (hlow:∀(o:Nat) cs,B[o]?=some (.cells cs)→∀ x∈cs,Low n0 x) (hv:∀ v∈vs,Low n0 v):Relab n0 vs (B++X) vs B:=by
 refine⟨by omega,fun o ho=>?_,fun _=>0,fun o h1 h2=>by omega,fun o o' h1 h2 _ _ _=>by omega,rfl,fun q x' x h1 h2=>?_,fun q es o h=>?_⟩
 ·exact⟨(List.getElem?_append_left (by omega)).symm,fun cs hc=>hlow o cs hc⟩
 ·rw[h1] at h2; cases h2
  exact .inl ⟨rfl,hv _ (List.mem_iff_getElem?.2 ⟨q,h1⟩)⟩
 ·have:=hv _ (List.mem_iff_getElem?.2 ⟨q,h⟩)
  cases this with
  | list _ _ ht _=>rw[hB]; exact ht o rfl
def tlL {α:Type} (n0:Nat):List α→Tail
 | []=> .exact
 | _::_=> .tok n0
def hpL {α:Type} (B:ae):List α→ae
 | []=>B
 | _::_=>B++[.tok]
theorem CH {α:Type} {n0:Nat} {l:List α} (h:l≠[]):tlL n0 l = .tok n0:=by cases l<;>first|exact absurd rfl h|rfl
theorem Bf {α:Type} {B:ae} {l:List α} (h:l≠[]):hpL B l=B++[.tok]:=by cases l<;>first|exact absurd rfl h|rfl
def jx {α σ:Type} (f:α→List PV) (acc:σ→List α) (I:σ→Prop) (m:σ→Nat) (Q:Ex→Env→ae→Prop) (B:ae) (slots:List Nat) (V:PV→σ→List PV) (s:σ):Ex→List PV→ae→Prop:=fun ex vs H'=>match ex with
 | .normal=>∃ s',m s'<m s∧I s'∧((acc s'=[]∧∃ X,H'=B++X∧vs=V (.list [] .exact) s')∨(acc s'≠[]∧∃ X k,H'=B++X∧(B++X)[k]?=some .tok∧B.length≤k∧vs=V (.list ((acc s').map f) (.tok k)) s'))
 | .exit j=>∃ vs2 H2,WkL vs vs2∧Pad H' H2∧Q (.exit j) (av slots vs2) H2
 | .ret=>∃ vs2 H2,WkL vs vs2∧Pad H' H2∧Q .ret (av slots vs2) H2
theorem lH [Dfr] {α σ:Type} {f:α→List PV} {acc:σ→List α} {I:σ→Prop} {m:σ→Nat} {P:Program} {gl:aC} (hgl:aU gl) {n:Nat} {Tb:Tab} (hT:aB P gl Tb) {L:kg} {hn:Oper→Nat} {x:Code} (hL:LOk P gl n x [] L) {Q:Ex→Env→ae→Prop} {e:Env} {H:ae} (slots:List Nat) (V:PV→σ→List PV) (B:ae) (s0:σ)
  (hlow:∀(o:Nat) cs,B[o]?=some (.cells cs)→∀ x∈cs,Low B.length x) (hf:∀ s,I s→∀ a∈acc s,∀ x∈f a,Low B.length x)
  (hrv:∀(es:List (List PV)) (s:σ) (k:Nat),I s→(∀ y∈es.flatten,Low B.length y)→RVs B.length k (V (.list es (.tok k)) s) (V (.list es (.tok B.length)) s))
  (hv:∀ s,I s→∀ v∈V (.list [] .exact) s,Low B.length v)
  (h0:I s0) (ha:acc s0=[]) (he:slots.map e=V (.list [] .exact) s0) (hH:H=B)
  (none:∀ s,I s→acc s=[]→Holds (wpc br P gl Tb L hn x [] (av slots (V (.list [] .exact) s)) B (fun ex e' H'=>jx f acc I m Q B slots V s ex (slots.map e') H')))
  (some:∀ s,I s→acc s≠[]→Holds (wpc br P gl Tb L hn x [] (av slots (V (.list ((acc s).map f) (.tok B.length)) s)) (B++[.tok]) (fun ex e' H'=>jx f acc I m Q B slots V s ex (slots.map e') H'))):AW P gl n (.loop x) Q e H:=by
 subst hH
 have key:∀ s,I s→∀ ex vs H',jx f acc I m Q H slots V s ex vs H'→vz Q H.length slots I (fun s=>V (.list ((acc s).map f) (tlL H.length (acc s))) s) (fun s=>hpL H (acc s)) m s ex vs H':=by
  intro s hs ex vs H' h
  cases ex with
  | exit j=>exact h
  | ret=>exact h
  | normal=>
   obtain⟨s',h1,h2,h3⟩:=h
   refine⟨s',h1,h2,?_⟩
   rcases h3 with⟨h3,X,rfl,rfl⟩|⟨h3,X,k,rfl,h5,h6,rfl⟩
   ·simp only[h3,List.map_nil,tlL,hpL]
    exact oy rfl hlow (hv s' h2)
   ·have r:=relab_row (X:=X) rfl hlow h6 h5 (hrv _ _ _ h2 (bh fun a ha=>hf s' h2 a ha))
    have e1:=CH (n0:=H.length) h3
    have e2:=Bf (B:=H) h3
    rw[← e1,← e2] at r
    exact r
 refine l8 hgl (σ:=σ) slots I (fun s=>V (.list ((acc s).map f) (tlL H.length (acc s))) s) (fun s=>hpL H (acc s)) m s0 h0 (by rw[ha]; exact he) (by rw[ha]; rfl) ?_
 intro s hs
 cases hq:acc s with
 | nil=>exact(aY hT x [] hL _ _ _ (none s hs hq).out).mono fun ex e' H' k=>key s hs ex _ H' k
 | cons a l=>
  have hne:acc s≠[]:=by rw[hq]; simp
  have:=(aY hT x [] hL _ _ _ (some s hs hne).out).mono fun ex e' H' k=>key s hs ex _ H' k
  rw[hq] at this
  exact this
end Go.AM

namespace Go.AM
open Go
theorem AW.Lm [Dfr] {P:Program} {gl:aC} {n:Nat} {c:Code} {Q:Ex→Env→ae→Prop} {e:Env} {H:ae} {slots:List Nat} {vs:List PV} (hw:WkL (slots.map e) vs) (h:AW P gl n c Q (av slots vs) H):AW P gl n c Q e H:=by
 intro hd g a w hst
 have h1:=hst.weaken (bQ e slots)
 exact h hd g a w ⟨h1.sim,h1.glob,⟨h1.env.1,fun t=>kU hw t _ (h1.env.2 t)⟩,h1.dfr⟩
theorem gC {P:Program} {gl:aC} {f:FuncId} {args:List PV} {H:ae} {K:PV→ae→Prop} (h:aj P gl f args H (fun x H'=>∃ x1 H1,Wk x x1∧WkH H' H1∧K x1 H1)):aj P gl f args H K:=by
 intro g w vs hS hG hR
 refine(h g w vs hS hG hR).mono ?_
 rintro e w' ⟨v,g',H',x,rfl,hS',hX,hr,x1,H1,hw,hh,hk⟩
 exact⟨v,g',H1,x1,rfl,hh.sim hS',⟨hX.gx,hX.size,fun b hb ho=>hX.ow b hb (hh.own ho),hX.frame,hX.os,hX.tape,hX.output,hX.im⟩,hw _ _ _ hr,hk⟩
inductive RVb (n0 k:Nat):List PV→List PV→Prop where
 | nil:RVb n0 k [] []
 | same {x:PV} {xs xs':List PV} (h:Low 0 x) (hs:RVb n0 k xs' xs):RVb n0 k (x::xs') (x::xs)
 | keep {o off:Nat} {xs xs':List PV} (h:o<n0) (hs:RVb n0 k xs' xs):RVb n0 k (.ptr o off::xs') (.ptr o off::xs)
 | box {off:Nat} {xs xs':List PV} (hs:RVb n0 k xs' xs):RVb n0 k (.ptr k off::xs') (.ptr n0 off::xs)
end Go.AM

namespace Go.AM
open Go
section
variable {α:Type} {f:α→List PV} {sz:Nat}
theorem bq (h:∀ a,(f a).length=sz):∀ l:List α,(l.map f).flatten.length=l.length*sz
 | []=>by simp
 | a::l=>by rw[List.map_cons,List.flatten_cons,List.length_append,h,bq h l,List.length_cons,Nat.succ_mul]; omega
theorem eO (h:∀ a,(f a).length=sz) (J:List PV):∀(l:List α) (k:Nat),k≤l.length→((l.map f).flatten++J).drop (k*sz)=((l.drop k).map f).flatten++J
 | l,0,_=>by simp
 | [],k+1,hk=>by simp at hk
 | a::l,k+1,hk=>by
  have e:(k+1)*sz=(f a).length+k*sz:=by rw[h,Nat.succ_mul]; omega
  rw[List.map_cons,List.flatten_cons,List.append_assoc,e,← List.drop_drop,List.drop_left' rfl,eO h J l k (by simpa using hk)]
  rfl
theorem eS (h:∀ a,(f a).length=sz) (J:List PV):∀(l:List α) (k:Nat),k≤l.length→((l.map f).flatten++J).take (k*sz)=((l.take k).map f).flatten
 | l,0,_=>by simp
 | [],k+1,hk=>by simp at hk
 | a::l,k+1,hk=>by
  have e:(k+1)*sz=(f a).length+k*sz:=by rw[h,Nat.succ_mul]; omega
  rw[List.map_cons,List.flatten_cons,List.append_assoc,e,List.take_length_add_append,eS h J l k (by simpa using hk)]
  rfl
theorem kP (h:∀ a,(f a).length=sz) (J:List PV) {l:List α} {k:Nat} (d:α) (hk:k<l.length):((l.map f).flatten++J).drop (k*sz)=f (l.getD k d)++(((l.drop (k+1)).map f).flatten++J):=by
 rw[eO h J l k (by omega),List.drop_eq_getElem_cons hk,List.map_cons,List.flatten_cons,List.append_assoc]
 congr 2
 rw[List.getD_eq_getElem?_getD,List.getElem?_eq_getElem hk]; rfl
theorem cy {C A B X Y:List PV} {n:Nat} (hC:C=A++X++B) (hA:A.length=n) (hX:X.length=Y.length):over C n Y=A++Y++B:=by
 subst hC hA
 unfold over
 rw[show A++X++B=A++(X++B) by rw[List.append_assoc],List.take_left' rfl,show A++(X++B)=(A++X)++B by rw[List.append_assoc],List.drop_left' (by simp[hX])]
end
theorem fi {α:Type} {f:α→List PV} {n:Nat} {l:List α} {J:List PV} (h1:∀ a∈l,∀ x∈f a,Low n x) (h2:∀ x∈J,Low n x):∀ x∈(l.map f).flatten++J,Low n x:=by
 intro x hx
 rcases List.mem_append.1 hx with h|h
 ·exact bh h1 x h
 ·exact h2 x h
end Go.AM

namespace Go.AM
open Go
theorem rq {P:Program} {gl:aC} (hgl:aU gl) {f:FuncId} {args:List PV} {I:ae→Prop} {K:PV→ae→Prop} (hargs:∀ x∈args,Low 0 x∨∃ off,x = .ptr 0 off)
  (h:∀ hh,I hh→jN hh→aj P gl f args hh (fun x H'=>∃(I':ae→Prop) (X:ae) (ρ:Nat→Nat),Sub ρ X H'∧ρ 0=0∧I' (cn X)∧jN X∧(Low 0 x∨∃ off,x = .ptr 0 off)∧K x [.abs (whole I')])):aj P gl f args [.abs (whole I)] K:=by
 intro g w vs hS hG hR
 obtain⟨⟨g0,hh,h1,h2,h3,h4,h5,h6,h7⟩,h8,h9⟩:=hS.abs 0 _ rfl
 have hn0:0<hh.length:=by obtain⟨cs,e⟩:=h5; exact(List.getElem?_eq_some_iff.1 e).1
 have hgn:g.n=1:=hS.n
 have toR:∀ {x:PV} {v:Value},(Low 0 x∨∃ off,x = .ptr 0 off)→Rel g w x v→Rel g0 w x v:=by
  rintro x v (hl|⟨off,rfl⟩) hr
  ·exact dl hr hl h4
  ·cases hr
   rw[← h6]; exact .ptr 0 off (by rw[h2.n]; exact hn0)
 have hG0:cZ g0 w gl:=fun k cs hk=>by
  refine⟨(hG k cs hk).1,fun q x hx=>?_⟩
  obtain⟨k1,c,k2,k3⟩:=(hG k cs hk).2 q x hx
  exact⟨by rw[h4]; exact k1,c,k2,dl k3 (hgl k cs hk x (List.mem_iff_getElem?.2 ⟨q,hx⟩)) h4⟩
 refine(h hh h1 h5 g0 w vs h2 hG0 ⟨hR.1,fun q x v hx hv=>toR (hargs x (List.mem_iff_getElem?.2 ⟨q,hx⟩)) (hR.2 q x v hx hv)⟩).mono ?_
 rintro e w' ⟨v,g1,H',x,rfl,hS1,hX,hv,I',X,ρ,hsub,hρ,hI,hroot,hlow,hk⟩
 have hn1:0<X.length:=by obtain⟨cs,e⟩:=hroot; exact(List.getElem?_eq_some_iff.1 e).1
 have hS3:=hsub.sim hS1
 have hbk0:(g1.through ρ X.length).bk 0=g1.bk 0:=by show g1.bk (ρ 0)=_; rw[hρ]
 have hbk1:g1.bk 0=g.bk 0:=(hX.gx.bk 0 (by rw[h2.n]; exact hn0)).trans h6
 let g2:Gh:=⟨1,fun _=>g1.bk 0,g.en,g.sz,g1.imm,fun _=>own (g1.through ρ X.length) (cn X)⟩
 have hSn:=hS3.cn
 obtain⟨cs0,hcs0⟩:=hroot.cn
 have own2:∀ b,own g2 [.abs (whole I')] b↔own (g1.through ρ X.length) (cn X) b:=fun b=>by
  constructor
  ·rintro⟨o,ob,k1,k2,k3⟩
   have:o=0:=by have:=(List.getElem?_eq_some_iff.1 k1).1; simpa using this
   subst this
   cases k1
   exact k3
  ·intro k; exact⟨0,_,rfl,rfl,k⟩
 have own0:∀ b,own g0 hh b→own g [.abs (whole I)] b:=fun b k=>⟨0,_,rfl,rfl,(h7 b).2 k⟩
 have hgx:bL g w g2 w':=by
  refine⟨by rw[hgn]; exact Nat.le_refl _,fun o ho=>?_,fun _ _=>rfl,fun _ _=>rfl,fun b q k=>?_,fun b q k=>?_⟩
  ·have:o=0:=by omega
   subst this; exact hbk1
  ·exact hX.gx.imm b q (by rw[h4]; exact k)
  ·exact hX.gx.cell b q (by rw[h4]; exact k)
 refine⟨v,g2,[.abs (whole I')],x,rfl,?_,?_,?_,hk⟩
 ·refine⟨rfl,fun o o' ob ob' b k1 k2 _ _ _ _=>?_,fun o cs k1=>?_,fun o k1=>?_,hS1.imm,fun o r k1=>?_⟩
  ·have e1:=(List.getElem?_eq_some_iff.1 k1).1
   have e2:=(List.getElem?_eq_some_iff.1 k2).1
   simp at e1 e2; omega
  ·have e1:=(List.getElem?_eq_some_iff.1 k1).1
   have:o=0:=by simpa using e1
   subst this; cases k1
  ·have e1:=(List.getElem?_eq_some_iff.1 k1).1
   have:o=0:=by simpa using e1
   subst this; cases k1
  ·have e1:=(List.getElem?_eq_some_iff.1 k1).1
   have:o=0:=by simpa using e1
   subst this
   cases k1
   exact⟨⟨g1.through ρ X.length,cn X,hI,hSn,iz _,rfl,⟨cs0,hcs0⟩,hbk0,fun _=>Iff.rfl⟩,⟨0,_,hcs0,rfl,hbk0⟩,fun b hb=>⟨dM hSn hb,fun q=>l9 hSn (iz _) hb q⟩⟩
 ·exact⟨hgx,hX.size,fun b hb ho=>own0 b (hX.ow b hb (hsub.own (pL ((own2 b).1 ho)))),fun b hb ho=>hX.frame b hb (fun k=>ho (own0 b k)),hX.os,hX.tape,hX.output,
   fun b q hb hi=>(hX.im b q hb hi).elim (fun k=> .inl (by rw[← h4]; exact k)) (fun k=> .inr (own0 b k))⟩
 ·rcases hlow with hl|⟨off,rfl⟩
  ·exact dl hv hl rfl
  ·cases hv
   exact .ptr (g:=g2) 0 off Nat.zero_lt_one
theorem qj {P:Program} {gl:aC} {f:FuncId} {args:List PV} {K:PV→ae→Prop}
  (h:aj P gl f args [] (fun x H'=>∃(I':ae→Prop) (X:ae) (ρ:Nat→Nat),Sub ρ X H'∧ρ 0=0∧I' (cn X)∧jN X∧(∃ off,x = .ptr 0 off)∧K x [.abs (whole I')])):aj P gl f args [] K:=by
 intro g w vs hS hG hR
 refine(h g w vs hS hG hR).mono ?_
 rintro e w' ⟨v,g1,H',x,rfl,hS1,hX,hv,I',X,ρ,hsub,hρ,hI,hroot,⟨off,rfl⟩,hk⟩
 have hn1:0<X.length:=by obtain⟨cs,e⟩:=hroot; exact(List.getElem?_eq_some_iff.1 e).1
 have hS3:=hsub.sim hS1
 have hbk0:(g1.through ρ X.length).bk 0=g1.bk 0:=by show g1.bk (ρ 0)=_; rw[hρ]
 have hgn:g.n=0:=hS.n
 let g2:Gh:=⟨1,fun _=>g1.bk 0,g.en,g.sz,g1.imm,fun _=>own (g1.through ρ X.length) (cn X)⟩
 have hSn:=hS3.cn
 obtain⟨cs0,hcs0⟩:=hroot.cn
 have own2:∀ b,own g2 [.abs (whole I')] b↔own (g1.through ρ X.length) (cn X) b:=fun b=>by
  constructor
  ·rintro⟨o,ob,k1,k2,k3⟩
   have:o=0:=by have:=(List.getElem?_eq_some_iff.1 k1).1; simpa using this
   subst this
   cases k1
   exact k3
  ·intro k; exact⟨0,_,rfl,rfl,k⟩
 have hgx:bL g w g2 w':=⟨by rw[hgn]; exact Nat.zero_le _,fun o ho=>absurd ho (by rw[hgn]; exact Nat.not_lt_zero _),fun _ _=>rfl,fun _ _=>rfl,hX.gx.imm,hX.gx.cell⟩
 refine⟨v,g2,[.abs (whole I')],_,rfl,?_,?_,?_,hk⟩
 ·refine⟨rfl,fun o o' ob ob' b k1 k2 _ _ _ _=>?_,fun o cs k1=>?_,fun o k1=>?_,hS1.imm,fun o r k1=>?_⟩
  ·have e1:=(List.getElem?_eq_some_iff.1 k1).1
   have e2:=(List.getElem?_eq_some_iff.1 k2).1
   simp at e1 e2; omega
  ·have e1:=(List.getElem?_eq_some_iff.1 k1).1
   have:o=0:=by simpa using e1
   subst this; cases k1
  ·have e1:=(List.getElem?_eq_some_iff.1 k1).1
   have:o=0:=by simpa using e1
   subst this; cases k1
  ·have e1:=(List.getElem?_eq_some_iff.1 k1).1
   have:o=0:=by simpa using e1
   subst this
   cases k1
   exact⟨⟨g1.through ρ X.length,cn X,hI,hSn,iz _,rfl,⟨cs0,hcs0⟩,hbk0,fun _=>Iff.rfl⟩,⟨0,_,hcs0,rfl,hbk0⟩,fun b hb=>⟨dM hSn hb,fun q=>l9 hSn (iz _) hb q⟩⟩
 ·exact⟨hgx,hX.size,fun b hb ho=>hX.ow b hb (hsub.own (pL ((own2 b).1 ho))),fun b hb ho=>hX.frame b hb ho,hX.os,hX.tape,hX.output,hX.im⟩
 ·cases hv
  exact .ptr (g:=g2) 0 off Nat.zero_lt_one
theorem nN {P:Program} {gl:aC} (hgl:aU gl) {f:FuncId} {args0 args:List PV} {H:ae} {o:Nat} {I:ae→Prop} {K:PV→ae→Prop} (ho:H[o]?=some (.abs (whole I)))
  (hargs0:∀ x∈args0,Low 0 x∨∃ off,x = .ptr 0 off) (hargs:aW (fun _=>o) 1 args0 args)
  (h:∀ hh,I hh→jN hh→aj P gl f args0 hh (fun x H'=>∃(I':ae→Prop) (X:ae) (ρ:Nat→Nat),Sub ρ X H'∧ρ 0=0∧I' (cn X)∧jN X∧Low 0 x∧K x (H.set o (.abs (whole I'))))):aj P gl f args H K:=by
 have hol:o<H.length:=(List.getElem?_eq_some_iff.1 ho).1
 have hsub:Sub (fun _=>o) [.abs (whole I)] H:=by
  refine⟨fun _ _=>hol,fun a b h1 h2 _=>?_,fun j a h1=>?_⟩
  ·simp at h1 h2; omega
  ·have e1:=(List.getElem?_eq_some_iff.1 h1).1
   have:j=0:=by simpa using e1
   subst this; cases h1
   exact⟨_,ho,.abs _⟩
 refine a9 hgl hsub hargs (rq hgl hargs0 fun hh h1 h2=>?_)
 intro g w vs hS hG hR
 refine(h hh h1 h2 g w vs hS hG hR).mono ?_
 rintro e w' ⟨v,g',H',x,rfl,hS',hX,hv,I',X,ρ,j1,j2,k1,k2,k3,k4⟩
 refine⟨v,g',H',x,rfl,hS',hX,hv,I',X,ρ,j1,j2,k1,k2,.inl k3,x,H.set o (.abs (whole I')),⟨Nat.le_refl _,by simp,fun j a h1=>?_,fun o' h1 h2=>?_⟩,.low k3,k4⟩
 ·have e1:=(List.getElem?_eq_some_iff.1 h1).1
  have:j=0:=by simpa using e1
  subst this; cases h1
  exact⟨_,by simp[aN,hol],.abs _,fun _=>rfl⟩
 ·rw[List.getElem?_set_ne]
  exact h2 0 (by simp)
theorem qK {P:Program} {gl:aC} (hgl:aU gl) {f:FuncId} {args:List PV} {H:ae} {K:PV→ae→Prop} (hargs:∀ x∈args,Low 0 x)
  (h:aj P gl f args [] (fun x H'=>∃(I':ae→Prop) (X:ae) (ρ:Nat→Nat),Sub ρ X H'∧ρ 0=0∧I' (cn X)∧jN X∧x = .ptr 0 0∧K (.ptr H.length 0) (H++[.abs (whole I')]))):aj P gl f args H K:=by
 have hsub:Sub (fun _=>0) [] H:=⟨fun o h=>absurd h (Nat.not_lt_zero _),fun o _ h=>absurd h (Nat.not_lt_zero _),fun o a h=>by simp at h⟩
 refine a9 hgl hsub (aW.low hargs) (qj ?_)
 intro g w vs hS hG hR
 refine(h g w vs hS hG hR).mono ?_
 rintro e w' ⟨v,g',H',x,rfl,hS',hX,hv,I',X,ρ,j1,j2,k1,k2,rfl,k4⟩
 refine⟨v,g',H',_,rfl,hS',hX,hv,I',X,ρ,j1,j2,k1,k2,⟨0,rfl⟩,.ptr H.length 0,H++[.abs (whole I')],⟨Nat.zero_le _,by simp,fun j a h1=>?_,fun o' h1 _=>?_⟩,?_,k4⟩
 ·have e1:=(List.getElem?_eq_some_iff.1 h1).1
  have:j=0:=by simpa using e1
  subst this; cases h1
  refine⟨_,?_,.abs _,fun _=>rfl⟩
  simp[aN]
 ·rw[List.getElem?_append_left h1]
 ·have:=Ren.ptr (ρ:=aN (fun _=>0) ([]:ae).length H.length) (n:=[Ob.abs (whole I')].length) 0 0 (by simp)
  simpa[aN] using this
theorem sub_one {cs:List PV} (T:ae) (h:∀ x∈cs,Low 0 x):Sub (fun _=>0) [.cells cs] (.cells cs::T):=by
 refine⟨fun o _=>by simp,fun o o' h1 h2 _=>by simp at h1 h2; omega,fun o a h1=>?_⟩
 have e1:=(List.getElem?_eq_some_iff.1 h1).1
 have:o=0:=by simpa using e1
 subst this; cases h1
 exact⟨_,rfl,.cells (aW.low h)⟩
theorem wB {cs c1:List PV} {T:ae} {k:Nat} {off len cap:Nat} (hk:T[k]?=some (.cells c1)) (h0:∀ x∈cs,Low 0 x) (h1:∀ x∈c1,Low 0 x):
  Sub (fun o=>if o=0 then 0 else k+1) [.cells (.arr 1 off len cap::cs),.cells c1] (.cells (.arr (k+1) off len cap::cs)::T):=by
 have hkl:=(List.getElem?_eq_some_iff.1 hk).1
 refine⟨fun o _=>by split<;>simp; omega,fun o o' h2 h3 h4=>?_,fun o a h2=>?_⟩
 ·simp at h2 h3
  rcases Nat.eq_zero_or_pos o with rfl|ho
  ·rcases Nat.eq_zero_or_pos o' with rfl|ho'
   ·rfl
   ·rw[if_pos rfl,if_neg (by omega)] at h4; omega
  ·rcases Nat.eq_zero_or_pos o' with rfl|ho'
   ·rw[if_neg (by omega),if_pos rfl] at h4; omega
   ·omega
 ·have e1:=(List.getElem?_eq_some_iff.1 h2).1
  simp at e1
  rcases Nat.eq_zero_or_pos o with rfl|ho
  ·simp only[List.getElem?_cons_zero,Option.some.injEq] at h2
   subst h2
   refine⟨_,by rw[if_pos rfl]; rfl,.cells (.cons ?_ (aW.low h0))⟩
   have:=Ren.arr (ρ:=fun o=>if o=0 then 0 else k+1) (n:=[Ob.cells (PV.arr 1 off len cap::cs),Ob.cells c1].length) 1 off len cap (by simp)
   simpa using this
  ·have:o=1:=by omega
   subst this
   simp only[List.getElem?_cons_succ,List.getElem?_cons_zero,Option.some.injEq] at h2
   subst h2
   exact⟨.cells c1,by simpa using hk,.cells (aW.low h1)⟩
end Go.AM

namespace Go.AM
open Go
def bz {α:Type} (l:List α) (p:Nat) (r:α):List α:=l.take p++r::l.drop p
theorem fl {α:Type} {l:List α} {p:Nat} {r:α} (h:p≤l.length):(bz l p r).length=l.length+1:=by
 simp[bz]; omega
theorem jh {α:Type} (l:List α) (r:α):bz l l.length r=l++[r]:=by simp[bz]
structure aJ (J:List PV) (n:Nat):Prop where
 len:J.length=n
 one:∀ x∈J,x.one=true
 low:∀ x∈J,Low 0 x
theorem aJ.drop {J:List PV} {n k:Nat} (h:aJ J n):aJ (J.drop k) (n-k):=
 ⟨by rw[List.length_drop,h.len],fun x hx=>h.one x (List.mem_of_mem_drop hx),fun x hx=>h.low x (List.mem_of_mem_drop hx)⟩
theorem aJ.app {J L:List PV} {n k:Nat} (h:aJ J n) (h':aJ L k):aJ (J++L) (n+k):=
 ⟨by rw[List.length_append,h.len,h'.len],fun x hx=>(List.mem_append.1 hx).elim (h.one x) (h'.one x),fun x hx=>(List.mem_append.1 hx).elim (h.low x) (h'.low x)⟩
theorem aJ.pX {z:List PV} (h1:∀ x∈z,x.one=true) (h2:∀ x∈z,Low 0 x) (n:Nat):aJ (List.replicate n z).flatten (n*z.length):=by
 refine⟨by simp,fun x hx=>?_,fun x hx=>?_⟩ <;>
 ·obtain⟨y,h3,h4⟩:=List.mem_flatten.1 hx
  rw[(List.mem_replicate.1 h3).2] at h4
  first|exact h1 x h4|exact h2 x h4
theorem aJ.cast {J:List PV} {n m:Nat} (h:aJ J n) (e:n=m):aJ J m:=e▸h
section
variable {α:Type} {f:α→List PV} {sz:Nat}
theorem fw (l:List α) (p:Nat):(l.map f).flatten=((l.take p).map f).flatten++((l.drop p).map f).flatten:=by
 rw[← List.flatten_append,← List.map_append,List.take_append_drop]
theorem ny (h:∀ a,(f a).length=sz) {l:List α} {J:List PV} (r:α) (hJ:sz≤J.length):
  over ((l.map f).flatten++J) (l.length*sz) (f r)=((bz l l.length r).map f).flatten++J.drop sz:=by
 rw[cy (A:=(l.map f).flatten) (X:=J.take sz) (B:=J.drop sz) (by rw[List.append_assoc,List.take_append_drop]) (bq h l) (by rw[h,List.length_take]; omega)]
 simp[bz]
theorem q9 (h:∀ a,(f a).length=sz) {l:List α} {J:List PV} {p:Nat} (r:α) (hp:p<l.length) (hJ:sz≤J.length):
  over (over ((l.map f).flatten++J) ((p+1)*sz) ((((l.map f).flatten++J).drop (p*sz)).take ((l.length-p)*sz))) (p*sz) (f r)=((bz l p r).map f).flatten++J.drop sz:=by
 rw[eO h J l p (by omega),show l.length-p=(l.drop p).length by simp,← bq h (l.drop p),List.take_left' rfl]
 obtain⟨x,t,e⟩:∃ x t,l.drop p=x::t:=⟨_,_,List.drop_eq_getElem_cons hp⟩
 have e1:(l.map f).flatten++J=((l.take p).map f).flatten++f x++((t.map f).flatten++J.take sz)++J.drop sz:=by
  rw[fw l p,e]; simp
 have e2:(((l.take p).map f).flatten++f x).length=(p+1)*sz:=by
  rw[List.length_append,bq h,h,List.length_take,Nat.min_eq_left (by omega),Nat.succ_mul]
 rw[cy e1 e2 (by rw[e]; simp[h]; omega)]
 rw[cy (A:=((l.take p).map f).flatten) (X:=f x) (B:=((l.drop p).map f).flatten++J.drop sz) (by simp) (by rw[bq h,List.length_take,Nat.min_eq_left (by omega)]) (by rw[h,h])]
 simp[bz]
theorem oT (h:∀ a,(f a).length=sz) {l:List α} {Z:List PV} {p:Nat} (r:α) (hp:p≤l.length) (hZ:(l.length+1-p)*sz≤Z.length):
  over (over (((l.take p).map f).flatten++Z) (p*sz) (f r)) ((p+1)*sz) ((l.drop p).map f).flatten=((bz l p r).map f).flatten++Z.drop ((l.length+1-p)*sz):=by
 have e0:(((l.take p).map f).flatten).length=p*sz:=by rw[bq h,List.length_take,Nat.min_eq_left hp]
 have e3:(l.length+1-p)*sz=sz+(l.length-p)*sz:=by rw[show l.length+1-p=(l.length-p)+1 by omega,Nat.succ_mul]; omega
 rw[cy (A:=((l.take p).map f).flatten) (X:=Z.take sz) (B:=Z.drop sz) (by simp) e0 (by rw[h,List.length_take]; omega)]
 rw[cy (A:=((l.take p).map f).flatten++f r) (X:=(Z.drop sz).take ((l.length-p)*sz)) (B:=Z.drop ((l.length+1-p)*sz)) (by rw[e3,← List.drop_drop,List.append_assoc (_++f r),List.take_append_drop]) (by rw[List.length_append,e0,h,Nat.succ_mul]) (by rw[bq h,List.length_take,List.length_drop,List.length_drop]; omega)]
 simp[bz]
theorem zD (h:∀ a,(f a).length=sz) {l:List α} {J:List PV} {p:Nat} (hp:p<l.length):
  over ((l.map f).flatten++J) (p*sz) ((((l.map f).flatten++J).drop ((p+1)*sz)).take ((l.length-(p+1))*sz))=((l.eraseIdx p).map f).flatten++(f (l.getLast (List.ne_nil_of_length_pos (by omega)))++J):=by
 rw[eO h J l (p+1) (by omega),show l.length-(p+1)=(l.drop (p+1)).length by simp,← bq h (l.drop (p+1)),List.take_left' rfl]
 have hne:l≠[]:=List.ne_nil_of_length_pos (by omega)
 obtain⟨x,t,e⟩:∃ x t,l.drop p=x::t:=⟨_,_,List.drop_eq_getElem_cons hp⟩
 have e':l.drop (p+1)=t:=by rw[← List.drop_drop,e]; rfl
 have el:l=l.take p++x::t:=by rw[← e,List.take_append_drop]
 have hlast:(x::t).getLast (by simp)=l.getLast hne:=by
  have:l.getLast hne=(l.take p++x::t).getLast (by simp):=by congr 1
  rw[this,List.getLast_append_of_ne_nil]
 have e2:f x++(t.map f).flatten=(((x::t).dropLast).map f).flatten++f (l.getLast hne):=by
  have:=List.dropLast_concat_getLast (l:=x::t) (by simp)
  calc f x++(t.map f).flatten=((x::t).map f).flatten:=by simp
   _=(((x::t).dropLast++[(x::t).getLast (by simp)]).map f).flatten:=by rw[this]
   _=_:=by simp[hlast]
 have e1:(l.map f).flatten++J=((l.take p).map f).flatten++(((x::t).dropLast).map f).flatten++(f (l.getLast hne)++J):=by
  rw[fw l p,e]; simp only[List.map_cons,List.flatten_cons]; rw[e2]; simp
 rw[cy e1 (by rw[bq h,List.length_take,Nat.min_eq_left (by omega)]) (by rw[bq h,bq h,e',List.length_dropLast]; simp)]
 rw[List.eraseIdx_eq_take_drop_succ,e']
 simp
theorem x5 (h:∀ a,(f a).length=sz) {l:List α} {J z:List PV} (r:α) (hz:z.length=sz):over ((l.map f).flatten++(f r++J)) (l.length*sz) z=(l.map f).flatten++(z++J):=by
 rw[cy (A:=(l.map f).flatten) (X:=f r) (B:=J) (by simp) (bq h l) (by rw[h,hz])]
 simp
end
end Go.AM

namespace Go.AM
open Go
def dO (I:ae→Prop) (H:ae):Prop:=∃(X:ae) (ρ:Nat→Nat),Sub ρ X H∧ρ 0=0∧I (cn X)∧jN X
theorem mH {P:Program} {gl:aC} (hgl:aU gl) {f:FuncId} {args0 args:List PV} {H:ae} {o:Nat} {I I':ae→Prop} {r:PV} (ho:H[o]?=some (.abs (whole I)))
  (hargs0:∀ x∈args0,Low 0 x∨∃ off,x = .ptr 0 off) (hargs:aW (fun _=>o) 1 args0 args) (hr:Low 0 r)
  (h:∀ hh,I hh→aj P gl f args0 hh (fun x H'=>x=r∧dO I' H')):aj P gl f args H (fun x H'=>x=r∧H'=H.set o (.abs (whole I'))):=by
 refine nN hgl ho hargs0 hargs fun hh h1 _=>?_
 intro g w vs hS hG hR
 refine(h hh h1 g w vs hS hG hR).mono ?_
 rintro e w' ⟨v,g',H',x,rfl,hS',hX,hv,rfl,X,ρ,k1,k2,k3,k4⟩
 exact⟨v,g',H',_,rfl,hS',hX,hv,I',X,ρ,k1,k2,k3,k4,hr,rfl,rfl⟩
theorem pT {P:Program} {gl:aC} (hgl:aU gl) {f:FuncId} {args:List PV} {H:ae} {I':ae→Prop} (hargs:∀ x∈args,Low 0 x)
  (h:aj P gl f args [] (fun x H'=>x = .ptr 0 0∧dO I' H')):aj P gl f args H (fun x H'=>x = .ptr H.length 0∧H'=H++[.abs (whole I')]):=by
 refine qK hgl hargs ?_
 intro g w vs hS hG hR
 refine(h g w vs hS hG hR).mono ?_
 rintro e w' ⟨v,g',H',x,rfl,hS',hX,hv,rfl,X,ρ,k1,k2,k3,k4⟩
 exact⟨v,g',H',_,rfl,hS',hX,hv,I',X,ρ,k1,k2,k3,k4,rfl,rfl,rfl⟩
theorem aM {P:Program} {gl:aC} {f:FuncId} {args:List PV} {H:ae} {K K':PV→ae→Prop} (h:aj P gl f args H K) (hk:∀ x H',K x H'→K' x H'):aj P gl f args H K':=by
 intro g w vs hS hG hR
 refine(h g w vs hS hG hR).mono ?_
 rintro e w' ⟨v,g',H',x,rfl,hS',hX,hv,k⟩
 exact⟨v,g',H',x,rfl,hS',hX,hv,hk _ _ k⟩
theorem pP {rest:List PV} (h:∀ x∈rest,Low 0 x):∀ x∈PV.ptr 0 0::rest,Low 0 x∨∃ off,x = .ptr 0 off:=by
 intro x hx
 rcases List.mem_cons.1 hx with rfl|hx
 ·exact .inr ⟨0,rfl⟩
 ·exact .inl (h x hx)
theorem s7 {rest:List PV} (q:Nat) (h:∀ x∈rest,Low 0 x):aW (fun _=>q) 1 (.ptr 0 0::rest) (.ptr q 0::rest):=
 .cons (.ptr (ρ:=fun _=>q) 0 0 Nat.zero_lt_one) (aW.low h)
theorem j6 {α:Type} {l:List α} {i:Nat} {a:α} (h:l[i]?=some a):l.set i a=l:=by
 obtain⟨h1,rfl⟩:=List.getElem?_eq_some_iff.1 h
 exact List.set_getElem_self h1
theorem iU {P:Program} {gl:aC} (hgl:aU gl) {f:FuncId} {rest:List PV} {H:ae} {q:Nat} {I I':ae→Prop} {r:PV} {K:PV→ae→Prop} (ho:bO H q (whole I)) (hrest:∀ x∈rest,Low 0 x) (hr:Low 0 r)
  (h:∀ hh,I hh→aj P gl f (.ptr 0 0::rest) hh (fun x H'=>x=r∧dO I' H')) (hk:K r (H.set q (.abs (whole I')))):aj P gl f (.ptr q 0::rest) H K:=
 aM (mH hgl ho (pP hrest) (s7 q hrest) hr h) fun _ _ e=>e.1▸e.2▸hk
theorem iJ {P:Program} {gl:aC} (hgl:aU gl) {f:FuncId} {rest:List PV} {H:ae} {q:Nat} {I:ae→Prop} {r:PV} (ho:bO H q (whole I)) (hrest:∀ x∈rest,Low 0 x) (hr:Low 0 r)
  (h:∀ hh,I hh→aj P gl f (.ptr 0 0::rest) hh (fun x H'=>x=r∧dO I H')):aj P gl f (.ptr q 0::rest) H (fun x H'=>x=r∧H'=H):=
 aM (mH hgl ho (pP hrest) (s7 q hrest) hr h) fun _ _ e=>⟨e.1,by rw[e.2,j6 ho]⟩
end Go.AM

namespace Go.AM
open Go
def rT {σ:Type} (Q:Ex→Env→ae→Prop) (n0:Nat) (slots:List Nat) (I:σ→Prop) (V:σ→List PV) (Hp:σ→ae) (m:σ→Nat) (s:σ):Ex→List PV→ae→Prop:=fun ex vs H'=>match ex with
 | .normal=>∃ s',m s'<m s∧I s'∧dV n0 vs H' (V s') (Hp s')
 | .exit i=>∃ vs2 H2,dV n0 vs H' vs2 H2∧Q (.exit i) (av slots vs2) H2
 | .ret=>∃ vs2 H2,dV n0 vs H' vs2 H2∧Q .ret (av slots vs2) H2
theorem fe [Dfr] {P:Program} {gl:aC} (hgl:aU gl) {n:Nat} {T:Tab} (hT:aB P gl T) {L:kg} {hn:Oper→Nat} {x:Code} (hL:LOk P gl n x [] L) {Q:Ex→Env→ae→Prop} {e:Env} {H:ae} {σ:Type} (slots:List Nat) (I:σ→Prop) (V:σ→List PV) (Hp:σ→ae) (m:σ→Nat) (s0:σ)
  (h0:I s0) (he:slots.map e=V s0) (hH:H=Hp s0)
  (round0:∀ s,I s→Holds (wpc br P gl T L hn x [] (av slots (V s)) (Hp s) (fun ex e' H'=>rT Q H.length slots I V Hp m s ex (slots.map e') H'))):AW P gl n (.loop x) Q e H:=by
 have round:∀ s,I s→AW P gl n x (fun ex e' H'=>rT Q H.length slots I V Hp m s ex (slots.map e') H') (av slots (V s)) (Hp s):=fun s hI=>aY hT x [] hL _ _ _ (round0 s hI).out
 intro hd g a w hst
 simp only[bN] at hd
 have hng:g.n=H.length:=hst.sim.n
 refine wp_loop_ghost (fun k a' w'=>∃ g' s,k=m s∧I s∧St gl n g' (av slots (V s)) (Hp s) a' w'∧Ext g H w g' (Hp s) w') (m s0) ⟨g,s0,rfl,h0,by rw[← hH,← he]; exact hst.weaken (bQ e slots),by rw[← hH]; exact .refl g H w⟩ ?_
 rintro k a1 w1 ⟨g1,s,rfl,hI,hst1,hx1⟩
 refine wp_mono (round s hI hd g1 a1 w1 hst1) ?_
 rintro ex a' w' ⟨ex',g',e',H',k0,k1,k2,k3⟩
 have k1':=k1.weaken (bQ e' slots)
 cases ex<;>cases ex'<;>first|exact k0.elim|skip
 ·obtain⟨s',hm,hI',hr⟩:=k3
  obtain⟨g3,j1,j2⟩:=k1'.lm hgl (hx1.trans k2) hng hr
  exact⟨m s',hm,g3,s',rfl,hI',j1,j2⟩
 ·obtain⟨vs2,H2,j1,j3⟩:=k3
  obtain⟨g3,j4,j5⟩:=k1'.lm hgl (hx1.trans k2) hng j1
  exact⟨.exit _,g3,_,H2,k0,j4,j5,j3⟩
 ·obtain⟨vs2,H2,j1,j3⟩:=k3
  obtain⟨g3,j4,j5⟩:=k1'.lm hgl (hx1.trans k2) hng j1
  exact⟨.ret,g3,_,H2,k0,j4,j5,j3⟩
inductive qu (ρ:Nat→Nat) (n:Nat) (H':ae):List Nat→ae→Prop where
 | nil:qu ρ n H' [] []
 | cons {p:Nat} {ps:List Nat} {a b:Ob} {X:ae} (hb:H'[p]?=some b) (hr:dj ρ n a b) (t:qu ρ n H' ps X):qu ρ n H' (p::ps) (a::X)
theorem qu.len {ρ:Nat→Nat} {n:Nat} {H':ae} {ps:List Nat} {X:ae} (h:qu ρ n H' ps X):ps.length=X.length:=by
 induction h with
 | nil=>rfl
 | cons _ _ _ ih=>simp[ih]
theorem qu.get {ρ:Nat→Nat} {n:Nat} {H':ae} {ps:List Nat} {X:ae} (h:qu ρ n H' ps X):∀(o:Nat) (a:Ob),X[o]?=some a→∃ b,H'[ps.getD o 0]?=some b∧dj ρ n a b:=by
 induction h with
 | nil=>intro o a h; simp at h
 | cons hb hr _ ih=>
  intro o a h
  cases o with
  | zero=>simp at h; subst h; exact⟨_,hb,hr⟩
  | succ o=>simpa using ih o a (by simpa using h)
theorem sH {ps:List Nat} {X H':ae} (h:qu (fun o=>ps.getD o 0) X.length H' ps X) (hnd:ps.Nodup):Sub (fun o=>ps.getD o 0) X H':=by
 have hl:=h.len
 refine⟨fun o ho=>?_,fun o o' h1 h2 h3=>?_,h.get⟩
 ·obtain⟨b,hb,_⟩:=h.get o X[o] (List.getElem?_eq_getElem ho)
  exact(List.getElem?_eq_some_iff.1 hb).1
 ·have e1:ps.getD o 0=ps[o]:=by rw[List.getD_eq_getElem?_getD,List.getElem?_eq_getElem (by omega)]; rfl
  have e2:ps.getD o' 0=ps[o']:=by rw[List.getD_eq_getElem?_getD,List.getElem?_eq_getElem (by omega)]; rfl
  have h4:ps[o]'(by omega)=ps[o']'(by omega):=by rw[← e1,← e2]; exact h3
  rcases Nat.lt_trichotomy o o' with c|c|c
  ·exact absurd h4 (List.pairwise_iff_getElem.1 hnd o o' (by omega) (by omega) c)
  ·exact c
  ·exact absurd h4.symm (List.pairwise_iff_getElem.1 hnd o' o (by omega) (by omega) c)
theorem aS {n0:Nat} {vs' vs vs1:List PV} {H' H:ae} (ps:List Nat) (hw:WkL vs' vs1) (hs:qu (fun o=>ps.getD o 0) H.length H' ps H) (hnd:ps.Nodup) (hn:n0≤H.length) (hid:∀ o,o<n0→ps.getD o 0=o)
  (hr:aW (fun o=>ps.getD o 0) H.length vs vs1):dV n0 vs' H' vs H:=
 ⟨vs1,H',_,hw,.refl _,sH hs hnd,hn,hid,hr⟩
theorem WkL.refl:∀(l:List PV),WkL l l
 | []=> .nil
 | x::xs=> .cons (.refl x) (WkL.refl xs)
theorem kD {ρ:Nat→Nat} {n:Nat} {cs:List PV} (h:∀ x∈cs,Low 0 x):dj ρ n (.cells cs) (.cells cs):= .cells (aW.low h)
theorem JZ {P:Program} {gl:aC} (hgl:aU gl) {f:FuncId} {args args':List PV} {es:List (List PV)} {rest:List PV} (hw:WkL args args') (ha:∀ x∈args',Low 0 x) (hl:∀ x∈es.flatten,Low 0 x) (hrest:∀ x∈rest,Low 0 x)
  (h:aj P gl f args' [] (fun x H'=>(es=[]→x = .agg (.list [] .exact::rest))∧(es≠[]→∃ o,x = .agg (.list es (.tok o)::rest)∧H'[o]?=some .tok))) (H:ae):
  aj P gl f args H (fun x H'=>(es=[]→x = .agg (.list [] .exact::rest)∧H'=H)∧(es≠[]→x = .agg (.list es (.tok H.length)::rest)∧H'=H++[.tok])):=by
 refine bg hw (a9 hgl (X:=[]) (ρ:=fun o=>o) ⟨by simp,by simp,by simp⟩ (oR ha) (b5 hgl (h.mono ?_)))
 rintro x H' ⟨h1,h2⟩
 by_cases h0:es=[]
 ·have hlow:Low 0 (.agg (.list [] .exact::rest)):= .agg _ (by
   intro y hy
   rcases List.mem_cons.1 hy with rfl|hy
   ·exact .list _ _ (by intro o e; cases e) (by simp)
   ·exact hrest y hy)
  refine⟨.agg (.list [] .exact::rest),[],fun o=>o,⟨by simp,by simp,by simp⟩,by simp,by simp,?_,.agg (.list [] .exact::rest),H,⟨by simp,by simp,by simp,fun o _ _=>rfl⟩,?_,fun _=>⟨rfl,rfl⟩,fun k=>absurd h0 k⟩
  ·rw[h1 h0]; exact .low hlow
  ·exact .low hlow
 ·obtain⟨o,rfl,ho⟩:=h2 h0
  have hol:o<H'.length:=(List.getElem?_eq_some_iff.1 ho).1
  refine⟨.agg (.list es (.tok 0)::rest),[.tok],fun _=>o,⟨fun _ _=>hol,fun a b ha hb _=>by simp at ha hb; omega,fun j a h1=>?_⟩,by simp,by simp,Ren.gW (.cons (.ltok (ρ:=fun _=>o) _ 0 (by simp) hl) (aW.low hrest)),.agg (.list es (.tok H.length)::rest),H++[.tok],⟨by simp,by simp,fun j a h1=>?_,fun o h1 _=>?_⟩,?_,fun k=>absurd k h0,fun _=>⟨rfl,rfl⟩⟩
  ·have:j=0:=by have:=(List.getElem?_eq_some_iff.1 h1).1; simpa using this
   subst this; cases h1
   exact⟨_,ho,.tok⟩
  ·have:j=0:=by have:=(List.getElem?_eq_some_iff.1 h1).1; simpa using this
   subst this; cases h1
   exact⟨.tok,by simp[aN],.tok,fun _=>rfl⟩
  ·rw[List.getElem?_append_left h1]
  ·have:=Ren.ltok (ρ:=aN (fun o=>o) ([]:ae).length H.length) (n:=1) es 0 (by omega) hl
   refine Ren.gW (.cons ?_ (aW.low hrest))
   simpa[aN] using this
theorem sK {P:Program} {gl:aC} (hgl:aU gl) {f:FuncId} {args0 args:List PV} {H:ae} {q:Nat} {r:Rep} {v:PV} (ho:bO H q r) (hargs:aW (fun _=>q) 1 args0 args) (hv:Low 0 v)
  (h:aj P gl f args0 [.abs r] (fun x H'=>x=v∧∃ G,H' = .abs r::G)):aj P gl f args H (fun x H'=>x=v∧H'=H):=by
 have hol:q<H.length:=(List.getElem?_eq_some_iff.1 ho).1
 have one:∀ {o:Nat} {a:Ob},[Ob.abs r][o]?=some a→o=0∧a = .abs r:=fun {o a} h1=>by
  have e1:=(List.getElem?_eq_some_iff.1 h1).1
  have:o=0:=by simpa using e1
  subst this; cases h1; exact⟨rfl,rfl⟩
 have hsub:Sub (fun _=>q) [.abs r] H:=⟨fun _ _=>hol,fun a b h1 h2 _=>by simp at h1 h2; omega,fun j a h1=>by obtain⟨rfl,rfl⟩:=one h1; exact⟨_,ho,.abs _⟩⟩
 refine a9 hgl hsub hargs (b5 hgl (aM h ?_))
 rintro x H' ⟨rfl,G,rfl⟩
 refine⟨x,[.abs r],fun _=>0,⟨fun _ _=>by simp,fun a b h1 h2 _=>by simp at h1 h2; omega,fun j a h1=>by obtain⟨rfl,rfl⟩:=one h1; exact⟨_,rfl,.abs _⟩⟩,Nat.le_refl _,fun o ho=>by simp at ho; simp[ho],.low hv,x,H,⟨Nat.le_refl _,by simp,fun j a h1=>?_,fun o' _ _=>rfl⟩,.low hv,rfl,rfl⟩
 obtain⟨rfl,rfl⟩:=one h1
 have ho':H[q]?=some (.abs r):=ho
 exact⟨_,by simpa[aN] using ho',.abs _,fun h=>h⟩
theorem AW.Jo [Dfr] {P:Program} {gl:aC} {n:Nat} {c:Code} {Q:Ex→Env→ae→Prop} {e:Env} {H H1:ae} (hw:WkH H H1) (h:AW P gl n c Q e H1):AW P gl n c Q e H:=by
 intro hd g a w hst
 refine wp_mono (h hd g a w ⟨hw.sim hst.sim,hst.glob,hst.env,hst.dfr⟩) ?_
 rintro ex a' w' ⟨ex',g',e',H',k0,k1,hX,k3⟩
 exact⟨ex',g',e',H',k0,k1,⟨hX.gx,hX.size,fun b hb ho=>hw.own (hX.ow b hb ho),fun b hb ho=>hX.frame b hb fun k=>ho (hw.own k),hX.os,hX.tape,hX.output,fun b q hb hi=>(hX.im b q hb hi).imp id hw.own⟩,k3⟩
end Go.AM

namespace Go.AM
open Go
def cC (H:ae) (q r:Nat) (R:Rep):Prop:=H[q]?=some (.cells [.ptr r 0])∧H[r]?=some (.abs R)
theorem sQ {H:ae} {q r:Nat} {R:Rep} (h:cC H q r R):Sub (fun o=>if o=0 then q else r) [.cells [.ptr 1 0],.abs R] H:=by
 obtain⟨h1,h2⟩:=h
 have hq:=(List.getElem?_eq_some_iff.1 h1).1
 have hr:=(List.getElem?_eq_some_iff.1 h2).1
 have hne:q≠r:=fun e=>by subst e; rw[h1] at h2; cases h2
 refine⟨fun o _=>by split<;>assumption,fun o o' k1 k2 e=>?_,fun o a ho=>?_⟩
 ·simp at k1 k2
  split at e<;>split at e<;>first|omega|(exact absurd e hne)|(exact absurd e.symm hne)
 ·have k1:=(List.getElem?_eq_some_iff.1 ho).1
  simp at k1
  have:o=0∨o=1:=by omega
  rcases this with rfl|rfl
  ·cases ho
   refine⟨_,h1,.cells (.cons ?_ .nil)⟩
   exact .ptr (ρ:=fun o=>if o=0 then q else r) 1 0 (by simp)
  ·cases ho
   exact⟨_,h2,.abs _⟩
theorem JM {x:PV} (h:x∈([.ptr 1 0]:List PV)):Low 2 x:=by
 rcases List.mem_singleton.1 h with rfl; exact .ptr _ _ (by decide)
theorem iN {P:Program} {gl:aC} (hgl:aU gl) {f:FuncId} {rest:List PV} {H:ae} {q r:Nat} {R R':Rep} {x0:PV} {K:PV→ae→Prop} (ho:cC H q r R) (hrest:∀ x∈rest,Low 0 x) (hx:Low 0 x0)
  (h:aj P gl f (.ptr 0 0::rest) [.cells [.ptr 1 0],.abs R] (fun x H'=>x=x0∧∃ G,H' = .cells [.ptr 1 0] :: .abs R'::G)) (hk:K x0 (H.set r (.abs R'))):aj P gl f (.ptr q 0::rest) H K:=by
 have hq:=(List.getElem?_eq_some_iff.1 ho.1).1
 have hr:=(List.getElem?_eq_some_iff.1 ho.2).1
 have hne:q≠r:=fun e=>by have h1:=ho.1; rw[e,ho.2] at h1; cases h1
 have h1:aj P gl f (.ptr 0 0::rest) [.cells [.ptr 1 0],.abs R] (fun x H'=>x=x0∧H'=[.cells [.ptr 1 0],.abs R']):=by
  refine h.forget fun x H' hh=>?_
  obtain⟨rfl,G,rfl⟩:=hh
  refine⟨[.cells [.ptr 1 0],.abs R'],G,rfl,rfl,hx.up,fun o cs ho'=>?_,rfl,rfl⟩
  have k1:=(List.getElem?_eq_some_iff.1 ho').1
  simp at k1
  have:o=0∨o=1:=by omega
  rcases this with rfl|rfl
  ·cases ho'; exact .inl rfl
  ·cases ho'
 refine a9 hgl (sQ ho) (.cons (.ptr (ρ:=fun o=>if o=0 then q else r) 0 0 (by simp)) (aW.low hrest)) (aM h1 fun x H' e=>?_)
 obtain⟨rfl,rfl⟩:=e
 refine⟨x,H.set r (.abs R'),⟨Nat.le_refl _,by simp,fun o a ho'=>?_,fun o hl hn=>?_⟩,.low hx,hk⟩
 ·have k1:=(List.getElem?_eq_some_iff.1 ho').1
  simp at k1
  have:o=0∨o=1:=by omega
  rcases this with rfl|rfl
  ·cases ho'
   refine⟨.cells [.ptr r 0],?_,.cells (.cons ?_ .nil),fun _=>rfl⟩
   ·simp only[aN,List.length_cons,List.length_nil]
    rw[if_pos (by omega),if_pos trivial,List.getElem?_set_ne (Ne.symm hne)]
    exact ho.1
   ·have:=Ren.ptr (ρ:=aN (fun o=>if o=0 then q else r) 2 H.length) (n:=2) 1 0 (by decide)
    simpa[aN] using this
  ·cases ho'
   refine⟨.abs R',?_,.abs _,fun _=>rfl⟩
   simp only[aN,List.length_cons,List.length_nil]
   rw[if_pos (by omega),if_neg (by decide),List.getElem?_set_self hr]
 ·have:=hn 1 (by simp)
  simp at this
  rw[List.getElem?_set_ne this]
theorem ji {P:Program} {gl:aC} (hgl:aU gl) {f:FuncId} {rest:List PV} {H:ae} {q r:Nat} {R:Rep} {x0:PV} (ho:cC H q r R) (hrest:∀ x∈rest,Low 0 x) (hx:Low 0 x0)
  (h:aj P gl f (.ptr 0 0::rest) [.cells [.ptr 1 0],.abs R] (fun x H'=>x=x0∧∃ G,H' = .cells [.ptr 1 0] :: .abs R::G)):aj P gl f (.ptr q 0::rest) H (fun x H'=>x=x0∧H'=H):=
 iN hgl ho hrest hx h ⟨rfl,j6 ho.2⟩
end Go.AM

namespace Go.AM
open Go
inductive Lid (n:Nat):PV→Prop where
 | low {x:PV} (h:Low 0 x):Lid n x
 | arr (o off len cap:Nat) (h:o<n):Lid n (.arr o off len cap)
 | ptr (o off:Nat) (h:o<n):Lid n (.ptr o off)
theorem Lid.up {n m:Nat} {x:PV} (h:Lid n x) (hm:n≤m):Lid m x:=by
 cases h with
 | low h=>exact .low h
 | arr o off len cap h=>exact .arr _ _ _ _ (by omega)
 | ptr o off h=>exact .ptr _ _ (by omega)
theorem Lid.ren {n:Nat} {x:PV} (h:Lid n x) {ρ:Nat→Nat} (hρ:∀ o,o<n→ρ o=o):Ren ρ n x x:=by
 cases h with
 | low h=>exact .low h
 | arr o off len cap h=>
  have:=Ren.arr (ρ:=ρ) (n:=n) o off len cap h
  rwa [hρ o h] at this
 | ptr o off h=>
  have:=Ren.ptr (ρ:=ρ) (n:=n) o off h
  rwa [hρ o h] at this
theorem gm {n:Nat} {ρ:Nat→Nat} (hρ:∀ o,o<n→ρ o=o):∀ {xs:List PV},(∀ x∈xs,Lid n x)→aW ρ n xs xs
 | [],_=> .nil
 | x::xs,h=> .cons ((h x (by simp)).ren hρ) (gm hρ fun y hy=>h y (by simp[hy]))
def gQ (n:Nat) (X:ae):Prop:=∀(o:Nat) cs,X[o]?=some (.cells cs)→∀ x∈cs,Lid n x
theorem CP {n N:Nat} {ρ:Nat→Nat} (hρ:∀ o,o<n→ρ o=o) {X:ae} (h:gQ n X) {o:Nat} {a:Ob} (ho:X[o]?=some a) (hN:N=n):dj ρ N a a:=by
 subst hN
 cases a with
 | cells cs=>exact .cells (gm hρ (h o cs ho))
 | tok=>exact .tok
 | dead=>exact .dead _
 | abs r=>exact .abs _
theorem kn {X G:ae} (h:gQ X.length X):Sub (fun o=>o) X (X++G):=
 ⟨fun o h=>by rw[List.length_append]; omega,fun _ _ _ _ e=>e,fun o a ho=>⟨a,cY ho,CP (fun _ _=>rfl) h ho rfl⟩⟩
theorem eV {X G:ae} {o:Nat} (h:o<X.length):aN (fun o=>o) X.length (X++G).length o=o:=by
 unfold aN; rw[if_pos h]
theorem lW {X X' G:ae} (hl:X'.length=X.length) (h:gQ X.length X'):Behind (fun o=>o) X (X++G) X' (X'++G):=by
 refine⟨by omega,by simp[hl],fun o a ho=>?_,fun o h1 h2=>?_⟩
 ·have hlt:=(List.getElem?_eq_some_iff.1 ho).1
  refine⟨a,by rw[eV (by omega)]; exact cY ho,CP (n:=X.length) (fun q hq=>eV hq) h ho hl,fun h=>h⟩
 ·rcases Nat.lt_or_ge o X.length with q|q
  ·exact absurd rfl (h2 o q)
  ·rw[List.getElem?_append_right (by omega),List.getElem?_append_right q,hl]
theorem pI {X X' G:ae} {n:List PV} (hl:X'.length=X.length) (h:gQ X.length X') (hn:∀ x∈n,Low 0 x):Behind (fun o=>o) X (X++G) (X'++[.cells n]) (X'++G++[.cells n]):=by
 refine⟨by simp[hl],by simp[hl]; omega,fun o a ho=>?_,fun o h1 h2=>?_⟩
 ·have hlt:=(List.getElem?_eq_some_iff.1 ho).1
  rw[List.length_append,List.length_singleton] at hlt
  rcases Nat.lt_or_ge o X.length with q|q
  ·rw[List.getElem?_append_left (by omega)] at ho
   refine⟨a,by rw[eV q,List.append_assoc]; exact cY ho,?_,fun h=>h⟩
   cases a with
   | cells cs=>
    have hh:=h o cs ho
    refine .cells ?_
    have:∀ {xs:List PV},(∀ x∈xs,Lid X.length x)→aW (aN (fun o=>o) X.length (X++G).length) (X'++[Ob.cells n]).length xs xs:=by
     intro xs
     induction xs with
     | nil=>intro _; exact .nil
     | cons x xs ih=>
      intro hx
      refine .cons ?_ (ih fun y hy=>hx y (by simp[hy]))
      have h0:=hx x (by simp)
      cases h0 with
      | low h=>exact .low h
      | arr o off len cap h=>
       have:=Ren.arr (ρ:=aN (fun o=>o) X.length (X++G).length) (n:=(X'++[Ob.cells n]).length) o off len cap (by simp; omega)
       rwa [eV h] at this
      | ptr o off h=>
       have:=Ren.ptr (ρ:=aN (fun o=>o) X.length (X++G).length) (n:=(X'++[Ob.cells n]).length) o off (by simp; omega)
       rwa [eV h] at this
    exact this hh
   | tok=>exact .tok
   | dead=>exact .dead _
   | abs r=>exact .abs _
  ·have e:o=X'.length:=by omega
   subst e
   rw[List.getElem?_append_right (Nat.le_refl _),Nat.sub_self] at ho
   cases ho
   refine⟨.cells n,?_,.cells (aW.low hn),fun h=>h⟩
   have:aN (fun o=>o) X.length (X++G).length X'.length=(X'++G).length:=by unfold aN; rw[if_neg (by omega)]; simp[hl]
   rw[this,List.getElem?_append_right (Nat.le_refl _),Nat.sub_self]; rfl
 ·rcases Nat.lt_or_ge o X.length with q|q
  ·exact absurd rfl (h2 o q)
  ·rw[List.length_append] at h1
   rw[List.getElem?_append_left (by simp; omega),List.getElem?_append_right (by omega),List.getElem?_append_right q,hl]
theorem rG {X X' G:ae} (hl:X'.length=X.length) {n:List PV} {len cap:Nat}:Ren (aN (fun o=>o) X.length (X++G).length) (X'++[Ob.cells n]).length (.arr X.length 0 len cap) (.arr (X.length+G.length) 0 len cap):=by
 have:=Ren.arr (ρ:=aN (fun o=>o) X.length (X++G).length) (n:=(X'++[Ob.cells n]).length) X.length 0 len cap (by simp; omega)
 have e:aN (fun o=>o) X.length (X++G).length X.length=X.length+G.length:=by unfold aN; rw[if_neg (by omega)]; simp
 rwa [e] at this
theorem fN {P:Program} {gl:aC} (hgl:aU gl) {f:FuncId} {args:List PV} {X G:ae} {K:PV→ae→Prop} (ha:∀ x∈args,Lid X.length x) (hX:gQ X.length X)
  (h:aj P gl f args X (fun x X'=>∃ y H',Behind (fun o=>o) X (X++G) X' H'∧Ren (aN (fun o=>o) X.length (X++G).length) X'.length x y∧K y H')):aj P gl f args (X++G) K:=
 a9 hgl (kn hX) (gm (fun _ _=>rfl) ha) h
theorem iO {P:Program} {gl:aC} (hgl:aU gl) {f:FuncId} {args:List PV} {X G:ae} {r:PV} (ha:∀ x∈args,Lid X.length x) (hX:gQ X.length X) (hr:Low 0 r)
  (h:aj P gl f args X (fun x H'=>x=r∧H'=X)):aj P gl f args (X++G) (fun x H'=>x=r∧H'=X++G):=
 fN hgl ha hX (aM h fun x H' e=>⟨r,X++G,by rw[e.2]; exact lW rfl hX,by rw[e.1]; exact .low hr,rfl,rfl⟩)
theorem kK {n:Nat} {a b:List PV} (ha:∀ x∈a,Lid n x) (hb:∀ x∈b,Lid n x):gQ n [.cells a,.cells b]:=by
 intro o cs ho
 have k1:=(List.getElem?_eq_some_iff.1 ho).1
 simp at k1
 have:o=0∨o=1:=by omega
 rcases this with rfl|rfl
 ·cases ho; exact ha
 ·cases ho; exact hb
theorem Cx {n:Nat} {a:List PV} (ha:∀ x∈a,Lid n x):gQ n [.cells a]:=by
 intro o cs ho
 have k1:=(List.getElem?_eq_some_iff.1 ho).1
 simp at k1
 subst k1
 cases ho; exact ha
end Go.AM

namespace Go.AM
open Go
def qo (ops:Array Oper) (hn:Oper→Nat) (oc oa:Oper):Bool:=
 (match cl (hn oa) oa.op with|some .p=>true|_=>false) && (match oa.dst with|some d=> !(looks ops oc).contains d && oc.dst != some d|none=>true) && (match oc.dst with|some d=> !(looks ops oa).contains d|none=>true)
def CA (ops:Array Oper) (hn:Oper→Nat) (c:Nat) (A B:List Nat):Bool:=
 let anc:=fF ops.toList
 let L:=A++c::B
 qx ops && (ops.toList.all fun o=>(cl (hn o) o.op).isSome) && L.isPerm (List.range ops.size) && decide (L.Pairwise fun a b=>L.idxOf a<L.idxOf b) &&
 ((A++B).all fun i=>(A++B).all fun j=> !Nat.blt (L.idxOf j) (L.idxOf i) || (match ops[j]?,ops[i]? with|some oj,some oi=>indep ops hn oj oi || (anc.getD i []).contains j|_,_=>true)) &&
 (B.all fun b=>(anc.getD b []).contains c) &&
 (match ops[c]? with
  | some oc=>oc.guard.isNone && (A.all fun a=>(anc.getD c []).contains a || (match ops[a]? with|some oa=>qo ops hn oc oa|none=>false))
  | none=>false)
theorem mL {P:Program} {gl:aC} {hn:Oper→Nat} {ops:Array Oper}:∀ {is js:List Nat} {e e2:Env} {H H2:ae},Chain P gl hn ops (is++js) e H e2 H2→∃ e1 H1,Chain P gl hn ops is e H e1 H1∧Chain P gl hn ops js e1 H1 e2 H2
 | [],js,e,e2,H,H2,h=>⟨e,H,.nil e H,h⟩
 | i::is,js,e,e2,H,H2,h=>by
  cases h with
  | cons ho h1 hs=>
   obtain⟨e1,H1,k1,k2⟩:=mL hs
   exact⟨e1,H1,.cons ho h1 k1,k2⟩
theorem uU {P:Program} {gl:aC} {hn:Oper→Nat} {ops:Array Oper} {is js:List Nat} {e e1 e2:Env} {H H1 H2:ae} (h:Chain P gl hn ops is e H e1 H1) (h':Chain P gl hn ops js e1 H1 e2 H2):Chain P gl hn ops (is++js) e H e2 H2:=by
 induction h with
 | nil=>exact h'
 | cons ho h1 _ ih=>exact .cons ho h1 (ih h')
theorem E2 {P:Program} {gl:aC} {hn:Oper→Nat} {ops:Array Oper} {o:Oper} {e e1:Env} {H H1:ae} (hc:cl (hn o) o.op=some .p) (h:SD P gl hn ops o e H e1 H1):H1=H∧∀ H2,SD P gl hn ops o e H2 e1 H2:=by
 rcases h with⟨r,rfl,hs,hg⟩|⟨rfl,rfl,h⟩
 ·have h2:=hs.2
  rw[hc] at h2
  exact⟨h2.1,fun H2=> .inl ⟨r,rfl,⟨h2.2 H2,by rw[hc]; exact⟨rfl,h2.2⟩⟩,hg⟩⟩
 ·exact⟨rfl,fun H2=> .inr ⟨rfl,rfl,h⟩⟩
theorem Iz {P:Program} {gl:aC} {hn:Oper→Nat} {ops:Array Oper} {o:Oper} {e e1:Env} {H H1:ae} (h:SD P gl hn ops o e H e1 H1):∃ r,e1=upd e o.dst r:=by
 rcases h with⟨r,rfl,_⟩|⟨rfl,_⟩
 ·exact⟨r,rfl⟩
 ·exact⟨_,rfl⟩
theorem mr {P:Program} {gl:aC} {hn:Oper→Nat} {ops:Array Oper} {oc:Oper}:∀ {is:List Nat} {e e2:Env} {H H2:ae},(∀ i∈is,∀ oa,ops[i]?=some oa→qo ops hn oc oa=true)→Chain P gl hn ops is e H e2 H2→
  H2=H∧(∀ y∈oc.op.operands,ev gl e2 y=ev gl e y)∧∀ x H',Chain P gl hn ops is (upd e oc.dst x) H' (upd e2 oc.dst x) H'
 | [],e,e2,H,H2,_,h=>by cases h; exact⟨rfl,fun _ _=>rfl,fun x H'=> .nil _ _⟩
 | i::is,e,e2,H,H2,hp,h=>by
  cases h with
  | cons ho h1 hs=>
   rename_i o e1 H1
   have ha:=hp i (by simp) o ho
   simp only[qo,Bool.and_eq_true] at ha
   obtain⟨⟨a1,a2⟩,a3⟩:=ha
   have hc:cl (hn o) o.op=some .p:=by split at a1; assumption; cases a1
   obtain⟨rfl,hall⟩:=E2 hc h1
   obtain⟨k1,k2,k3⟩:=mr (fun j hj=>hp j (by simp[hj])) hs
   refine⟨k1,fun y hy=>?_,fun x H'=> .cons ho ?_ (k3 x H')⟩
   ·rw[k2 y hy]
    obtain⟨r,rfl⟩:=Iz h1
    exact nZ (ops:=ops) (o:=oc) (fun t ht=>by rw[ht] at a2; simp only[Bool.and_eq_true] at a2; simpa using a2.1) y hy
   ·exact vc (fun t ht=>by rw[ht] at a3; simpa using a3) (fun t ht e=>by
     rw[e] at a2
     simp only[Bool.and_eq_true,bne_iff_ne,ne_eq] at a2
     exact a2.2 ht) (hall H')
theorem tZ [Dfr] {P:Program} {gl:aC} {hn:Oper→Nat} {n:Nat} {ops:Array Oper} (hd:ops.toList.all (k9 n)=true) {Q:Exit→Act→World→Prop} {js:List Nat} {e2:Env} {H2:ae}:∀(is:List Nat) (g:Gh) (e:Env) (H:ae) (a:Act) (w:World),
  St gl n g e H a w→Chain P gl hn ops is e H e2 H2→(∀ g' a' w',St gl n g' e2 H2 a' w'→Ext g H w g' H2 w'→wpOps P ops Q js a' w')→
  wpOps P ops Q (is++js) a w:=by
 intro is
 induction is with
 | nil=>
  intro g e H a w hst h hk
  cases h
  exact hk g a w hst (.refl _ _ _)
 | cons i is ih=>
  intro g e H a w hst h hk
  cases h with
  | cons ho h1 hs=>
   rename_i o e1 H1
   have hmem:o∈ops.toList:=by
    obtain⟨hlt,he⟩:=Array.getElem?_eq_some_iff.1 ho
    rw[← he]; exact Array.getElem_mem_toList hlt
   have hdo:∀ t,o.dst=some t→t<n:=by
    intro t ht
    have:=List.all_eq_true.1 hd o hmem
    simpa[k9,ht] using this
   rw[List.cons_append]
   unfold wpOps
   rw[ho]
   simp only
   rcases h1 with⟨r,rfl,hst1,hg⟩|⟨rfl,rfl,j,want,d,hg,hdd,hb⟩
   ·have hw:Region.wanted o (yielded ops a.tmps)=true:=by
     unfold Region.wanted
     split at hg
     ·rename_i hgn; rw[hgn]
     ·rename_i j want hgs
      obtain⟨d,hdd,hb⟩:=hg
      rw[hgs]
      simp[gE hst hdd hb]
    rw[if_pos hw]
    left
    have hno:=fU hst.sim hst.glob (o:=o) (a:=a) (fun x=>hst.env.ev hst.glob x) hst1.1
    have cont:∀(g1:Gh) (H1':ae) (w1:World) (x:PV) (v:Value),Sim g1 H1' w1→Ext g H w g1 H1' w1→Rel g1 w1 x v→(x=r∧H1'=H1)→
      wpOps P ops Q (is++js) (a.put o.dst v) w1:=by
     rintro g1 H1' w1 x v k1 k2 k3 ⟨rfl,rfl⟩
     exact ih g1 (upd e o.dst x) H1' (a.put o.dst v) w1 (hst.next k1 k2 k3 o.dst hdo) hs fun g' a' w' j1 j2=>hk g' a' w' j1 (k2.trans j2)
    unfold Oper.wp
    rcases hno with⟨v,w',g',H',x,h1,h2,h3,h4,h5⟩|⟨w',g',H',h1,h2,h3,h4⟩|⟨f,vs,h1,h2⟩
    ·rw[h1]; exact cont g' H' w' x v h2 h3 h4 h5
    ·rw[h1]; exact cont g' H' w' (.tup []) undef h2 h3 (dG g' w') h4
    ·rw[h1]
     refine h2.mono ?_
     rintro ex w' ⟨v,g',H',x,rfl,k1,k2,k3,k4⟩
     exact cont g' H' w' x v k1 k2 k3 k4
   ·have hw:¬ Region.wanted o (yielded ops a.tmps)=true:=by
     unfold Region.wanted
     rw[hg]
     rcases hb with hb|hb
     ·simp[gE hst hdd hb]
     ·simp[gH hst hdd hb]
    rw[if_neg hw]
    exact ih g (upd e o.dst (.tup [])) _ (a.put o.dst undef) w (hst.next hst.sim (.refl _ _ _) (dG g w) o.dst hdo) hs hk
theorem FP [Dfr] {P:Program} {gl:aC} {m:Nat} {n:Nat} {ops:Array Oper} (hd:ops.toList.all (k9 n)=true) {Q:Exit→Act→World→Prop} {js:List Nat} {c:Nat} {o:Oper} (ho:ops[c]?=some o) (hg:o.guard=none)
  {g:Gh} {e:Env} {H:ae} {a:Act} {w:World} (hst:St gl n g e H a w) {K:PV→ae→Prop} (h:opw P gl o.op m (ev gl e) H K)
  (hk:∀ x H' g' a' w',K x H'→St gl n g' (upd e o.dst x) H' a' w'→Ext g H w g' H' w'→wpOps P ops Q js a' w'):wpOps P ops Q (c::js) a w:=by
 have hmem:o∈ops.toList:=by
  obtain⟨hlt,he⟩:=Array.getElem?_eq_some_iff.1 ho
  rw[← he]; exact Array.getElem_mem_toList hlt
 have hdo:∀ t,o.dst=some t→t<n:=by
  intro t ht
  have:=List.all_eq_true.1 hd o hmem
  simpa[k9,ht] using this
 unfold wpOps
 rw[ho]
 simp only
 rw[if_pos (by unfold Region.wanted; rw[hg])]
 left
 have hno:=fU hst.sim hst.glob (o:=o) (a:=a) (fun x=>hst.env.ev hst.glob x) h
 have cont:∀(g1:Gh) (H1':ae) (w1:World) (x:PV) (v:Value),Sim g1 H1' w1→Ext g H w g1 H1' w1→Rel g1 w1 x v→K x H1'→wpOps P ops Q js (a.put o.dst v) w1:=
  fun g1 H1' w1 x v k1 k2 k3 k4=>hk x H1' g1 _ w1 k4 (hst.next k1 k2 k3 o.dst hdo) k2
 unfold Oper.wp
 rcases hno with⟨v,w',g',H',x,h1,h2,h3,h4,h5⟩|⟨w',g',H',h1,h2,h3,h4⟩|⟨f,vs,h1,h2⟩
 ·rw[h1]; exact cont g' H' w' x v h2 h3 h4 h5
 ·rw[h1]; exact cont g' H' w' (.tup []) undef h2 h3 (dG g' w') h4
 ·rw[h1]
  refine h2.mono ?_
  rintro ex w' ⟨v,g',H',x,rfl,k1,k2,k3,k4⟩
  exact cont g' H' w' x v k1 k2 k3 k4
def Kq (B:Bool→Prop→Prop→Prop) (P:Program) (gl:aC) (T:Tab) (hn:Oper→Nat) (ops:Array Oper) (c:Nat) (A Bs:List Nat) (e:Env) (H:ae) (Q:Env→ae→Prop):Prop:=
 kE B P gl T hn true ops (gD ops A) e H fun e1 H1=>match ops[c]? with
  | some o=>match o.op with
   | .call cc=>pZ B P T cc (hn o) false (ev gl e1) H1 fun x H'=>kE B P gl T hn true ops (gD ops Bs) (upd e1 o.dst x) H' Q
   | _=>False
  | none=>False
theorem Is [Dfr] {P:Program} {gl:aC} {n:Nat} {T:Tab} (hT:aB P gl T) {hn:Oper→Nat} {id:Nat} {ops:Array Oper} {Q:Ex→Env→ae→Prop} {e:Env} {H:ae} (c:Nat) (A B:List Nat)
  (hok:CA ops hn c A B=true) (h:Kq br P gl T hn ops c A B e H (Q .normal)):AW P gl n (.region id ops true) Q e H:=by
 intro hd g a w hst
 simp only[CA,Bool.and_eq_true,decide_eq_true_eq] at hok
 obtain⟨⟨⟨⟨⟨⟨h1,h2⟩,h3⟩,h4⟩,h5⟩,h6⟩,h7⟩:=hok
 have hcl:∀ o∈ops.toList,(cl (hn o) o.op).isSome=true:=List.all_eq_true.1 h2
 have hperm:(A++c::B).Perm (List.range ops.size):=List.isPerm_iff.1 h3
 have ndL:(A++c::B).Nodup:=hperm.nodup_iff.2 List.nodup_range
 have hlt:∀ i∈A++c::B,i<ops.size:=fun i hi=>by simpa using hperm.subset hi
 generalize hrk:(fun i=>(A++c::B).idxOf i)=rk at *
 have h4':(A++c::B).Pairwise (fun a b=>rk a<rk b):=by rw[← hrk]; exact h4
 cases hoc:ops[c]? with
 | none=>rw[hoc] at h7; cases h7
 | some oc=>
 rw[hoc] at h7
 simp only[Bool.and_eq_true] at h7
 obtain⟨h7,h8⟩:=h7
 have hgd:oc.guard=none:=by simpa using h7
 have hr:=dW hT (gD ops A) e H h
 obtain⟨eA,HA,chA,hK⟩:=jG hcl A (gD ops A) e H (ic fun i hi=>hlt i (by simp[hi])) hr
 rw[hoc] at hK
 simp only at hK
 cases hop:oc.op<;>rw[hop] at hK<;>try (exact hK.elim)
 rename_i cc
 simp only at hK
 have hcall:opw P gl oc.op (hn oc) (ev gl eA) HA (fun x H'=>∃ e2 H2,Chain P gl hn ops B (upd eA oc.dst x) H' e2 H2∧Q .normal e2 H2):=by
  rw[hop]
  refine kG ((mS hT hK).1 rfl) fun x H' hx=>?_
  exact jG hcl B (gD ops B) _ _ (ic fun i hi=>hlt i (by simp[hi])) (dW hT _ _ _ hx)
 refine wp_region_draw fun t=>?_
 have hst':St gl n g e H a w.drew:=⟨hst.sim.drew,hst.glob.mono (bL.drew g w),hst.env.mono (bL.drew g w),hst.dfr⟩
 obtain⟨hp,hanc⟩:=rf h1 (P.follows .mixedOrders) t
 generalize Region.schedule (P.follows .mixedOrders) ops t=σ at hp hanc
 have hσ:σ.Perm (A++c::B):=hp.trans hperm.symm
 have ndσ:σ.Nodup:=hσ.nodup_iff.2 ndL
 have hcσ:c∈σ:=hσ.symm.subset (by simp)
 obtain⟨σ1,σ2,rfl⟩:=List.append_of_mem hcσ
 obtain⟨an1,an2,an3⟩:=List.pairwise_append.1 hanc
 obtain⟨an4,an5⟩:=List.pairwise_cons.1 an2
 obtain⟨nd1,nd2,nd3⟩:=List.pairwise_append.1 ndσ
 obtain⟨nd4,nd5⟩:=List.pairwise_cons.1 nd2
 have hcA:c∉A:=fun hc=>(List.pairwise_append.1 ndL).2.2 c hc c (by simp) rfl
 have hs1:∀ i∈σ1,i∈A:=by
  intro i hi
  have hm:i∈A++c::B:=hσ.subset (by simp[hi])
  rcases List.mem_append.1 hm with hm|hm
  ·exact hm
  ·rcases List.mem_cons.1 hm with rfl|hm
   ·exact absurd rfl (nd3 i hi i (by simp))
   ·exfalso
    have k1:=List.all_eq_true.1 h6 i hm
    have k2:=an3 i hi c (by simp)
    rw[k1] at k2; cases k2
 have hpair:∀ i j,i∈A++B→j∈A++B→((fF ops.toList).getD i []).contains j=false→rk j<rk i→∀ oj oi,ops[j]?=some oj→ops[i]?=some oi→indep ops hn oj oi=true:=by
  intro i j hi hj hno hlt2 oj oi hoj hoi
  have k:=List.all_eq_true.1 (List.all_eq_true.1 h5 i hi) j hj
  rw[hoj,hoi] at k
  have hbl:Nat.blt ((A++c::B).idxOf j) ((A++c::B).idxOf i)=true:=by
   rw[Nat.blt_eq]
   rw[← hrk] at hlt2
   exact hlt2
  rw[hbl,hno] at k
  simpa using k
 let p:Nat→Bool:=fun i=>decide (i∈σ2)
 have hP:(A.filter p).Perm (A.filter p):=List.Perm.refl _
 have ndA:A.Nodup:=(List.pairwise_append.1 ndL).1
 have hperm1:(σ1++A.filter p).Perm A:=by
  refine(List.perm_ext_iff_of_nodup ?_ ndA).2 fun x=>?_
  ·refine List.pairwise_append.2 ⟨nd1,List.Pairwise.filter _ ndA,fun x hx y hy=>?_⟩
   have:=(List.mem_filter.1 hy).2
   exact nd3 x hx y (by simp[p] at this; simp[this])
  ·rw[List.mem_append,List.mem_filter]
   constructor
   ·rintro (hx|⟨hx,_⟩)
    ·exact hs1 x hx
    ·exact hx
   ·intro hx
    have hm:x∈σ1++c::σ2:=hσ.symm.subset (by simp[hx])
    rcases List.mem_append.1 hm with hm|hm
    ·exact .inl hm
    ·rcases List.mem_cons.1 hm with hm|hm
     ·exact absurd (hm▸hx) hcA
     ·exact .inr ⟨hx,by simp[p,hm]⟩
 have hperm2:σ2.Perm (A.filter p++B):=by
  have k1:(σ1++c::σ2).Perm (σ1++(A.filter p++c::B)):=by
   rw[← List.append_assoc]
   exact hσ.trans (List.Perm.append_right _ hperm1.symm)
  have k2:=(List.perm_append_left_iff σ1).1 k1
  exact(List.perm_cons c).1 (k2.trans List.perm_middle)
 have sA:A.Pairwise (fun a b=>rk a<rk b):=(List.pairwise_append.1 h4').1
 have sPB:(A.filter p++B).Pairwise (fun a b=>rk a<rk b):=h4'.sublist (List.Sublist.append List.filter_sublist (List.sublist_cons_self c B))
 have inAB:∀ i∈σ2,i∈A++B:=fun i hi=>by
  have:=hperm2.subset hi
  rcases List.mem_append.1 this with h|h
  ·exact List.mem_append_left _ (List.mem_filter.1 h).1
  ·exact List.mem_append_right _ h
 have R1:(σ1++A.filter p).Pairwise (DB rk ops hn):=by
  refine List.pairwise_append.2 ⟨?_,?_,?_⟩
  ·refine List.Pairwise.imp_of_mem (fun {i j} hi hj hno=>?_) an1
   exact fun hr=>hpair i j (List.mem_append_left _ (hs1 i hi)) (List.mem_append_left _ (hs1 j hj)) hno hr
  ·refine List.Pairwise.imp (fun {i j} hij hr=>?_) (sA.sublist List.filter_sublist)
   exact absurd hr (Nat.not_lt.2 (Nat.le_of_lt hij))
  ·intro i hi j hj hr
   have hj2:j∈σ2:=by have:=(List.mem_filter.1 hj).2; simpa[p] using this
   exact hpair i j (List.mem_append_left _ (hs1 i hi)) (List.mem_append_left _ (List.mem_filter.1 hj).1) (an3 i hi j (by simp[hj2])) hr
 have R2:σ2.Pairwise (DB rk ops hn):=by
  refine List.Pairwise.imp_of_mem (fun {i j} hi hj hno=>?_) an5
  exact fun hr=>hpair i j (inAB i hi) (inAB j hj) hno hr
 have ch1:=mq rk (σ1++A.filter p) A e H eA HA sA hperm1 R1 chA
 obtain⟨e1,H1,c1,c2⟩:=mL ch1
 have hap:∀ i∈A.filter p,∀ oa,ops[i]?=some oa→qo ops hn oc oa=true:=by
  intro i hi oa hoa
  have hi2:i∈σ2:=by have:=(List.mem_filter.1 hi).2; simpa[p] using this
  have k:=List.all_eq_true.1 h8 i (List.mem_filter.1 hi).1
  rw[an4 i hi2,hoa] at k
  simpa using k
 obtain⟨rfl,hev,hch⟩:=mr hap c2
 have hcall1:=lK (ρ':=ev gl e1) hev hcall
 refine tZ hd σ1 g e H a w.drew hst' c1 fun g1 a1 w1 s1 x1=>?_
 refine FP hd hoc hgd s1 hcall1 fun x H' g2 a2 w2 hx s2 x2=>?_
 obtain⟨e2,H2,cB,hq⟩:=hx
 have ch2:=mq rk σ2 (A.filter p++B) _ _ _ _ sPB hperm2 R2 (uU (hch x H') cB)
 have:=mu hd σ2 g2 _ _ a2 w2 s2 ch2
 refine fq _ ?_ _ _ this
 rintro ex a' w' ⟨g',rfl,k1,k2⟩
 exact⟨.normal,g',e2,H2,trivial,k1,(Ext.drew g H w).trans (x1.trans (x2.trans k2)),hq⟩
def Ji (B:Bool→Prop→Prop→Prop) (P:Program) (gl:aC) (T:Tab) (hn:Oper→Nat) (cd:Code) (c:Nat) (A Bs:List Nat):LSp:=fun e H Q=>Kq B P gl T hn (opsOf cd) c A Bs e H (Q .normal)
theorem vq [Dfr] {P:Program} {gl:aC} {n:Nat} {T:Tab} (hT:aB P gl T) {hn:Oper→Nat} {cd:Code} (hd:CW cd=true) {c:Nat} {A B:List Nat} (hok:CA (opsOf cd) hn c A B=true):
  ∀ e H Q,Ji br P gl T hn cd c A B e H Q→AW P gl n cd Q e H:=by
 intro e H Q h
 cases cd<;>try (simp only[CW] at hd; cases hd; done)
 rename_i id ops d
 have hd:d=true:=hd
 subst hd
 exact Is hT c A B hok h
end Go.AM

namespace Go.AM
open Go
theorem tv {P:Program} {gl:aC} (hgl:aU gl) {f:FuncId} {args:List PV} {H:ae} {R:Rep} (hargs:∀ x∈args,Low 0 x)
  (h:aj P gl f args [] (fun x H'=>x = .ptr 1 0∧H'=[.abs R,.cells [.ptr 0 0]])):aj P gl f args H (fun x H'=>x = .ptr (H.length+1) 0∧H'=H++[.abs R,.cells [.ptr H.length 0]]):=by
 have hsub:Sub (fun _=>0) [] H:=⟨fun o h=>absurd h (Nat.not_lt_zero _),fun o _ h=>absurd h (Nat.not_lt_zero _),fun o a h=>by simp at h⟩
 refine a9 hgl hsub (aW.low hargs) (aM h fun x H' e=>?_)
 obtain⟨rfl,rfl⟩:=e
 refine⟨.ptr (H.length+1) 0,H++[.abs R,.cells [.ptr H.length 0]],⟨Nat.zero_le _,by simp,fun o a ho'=>?_,fun o hl _=>?_⟩,?_,rfl,rfl⟩
 ·have k1:=(List.getElem?_eq_some_iff.1 ho').1
  simp at k1
  have:o=0∨o=1:=by omega
  rcases this with rfl|rfl
  ·cases ho'
   exact⟨.abs R,by simp[aN],.abs _,fun _=>rfl⟩
  ·cases ho'
   refine⟨.cells [.ptr H.length 0],by simp[aN],.cells (.cons ?_ .nil),fun _=>rfl⟩
   have:=Ren.ptr (ρ:=aN (fun _=>0) ([]:ae).length H.length) (n:=2) 0 0 (by decide)
   simpa[aN] using this
 ·rw[List.getElem?_append_left hl]
 ·have:=Ren.ptr (ρ:=aN (fun _=>0) ([]:ae).length H.length) (n:=[Ob.abs R,Ob.cells [.ptr 0 0]].length) 1 0 (by simp)
  simpa[aN] using this
theorem bF {n:Nat} {a b:PV} (ha:Low n a) (hb:Low n b):∀ x∈[a,b],Low n x:=by
 intro x hx; simp only[List.mem_cons,List.not_mem_nil,or_false] at hx; rcases hx with rfl|rfl<;>assumption
theorem dK {n:Nat} {a b c:PV} (ha:Low n a) (hb:Low n b) (hc:Low n c):∀ x∈[a,b,c],Low n x:=by
 intro x hx; simp only[List.mem_cons,List.not_mem_nil,or_false] at hx; rcases hx with rfl|rfl|rfl<;>assumption
theorem kY {n:Nat} {a b c d:PV} (ha:Low n a) (hb:Low n b) (hc:Low n c) (hd:Low n d):∀ x∈[a,b,c,d],Low n x:=by
 intro x hx; simp only[List.mem_cons,List.not_mem_nil,or_false] at hx; rcases hx with rfl|rfl|rfl|rfl<;>assumption
theorem bw {n:Nat} {a:PV} (ha:Low n a):∀ x∈[a],Low n x:=by
 intro x hx; rcases List.mem_singleton.1 hx with rfl; assumption
theorem Ai {n:Nat}:∀ x∈([]:List PV),Low n x:=fun _ h=>nomatch h
end Go.AM

namespace Go.AM
open Go
theorem aL {α:Type} {f:α→List PV} {sz by_:Nat} (hf:∀ a,(f a).length=sz) (l:List α) (a:α) (hb:(l.length+1)*by_≤140737488355328):aX (l.map f) [f a] sz by_:=
 ⟨b9 hf l,(by intro e he; rcases List.mem_singleton.1 he with rfl; exact hf a),by rw[List.length_map]; exact hb⟩
theorem one_row {α:Type} {f:α→List PV} (h1:∀ a,∀ y∈f a,y.one=true) (a:α):(f a).all PV.one=true∧[f a]≠[]:=⟨List.all_eq_true.2 (h1 a),List.cons_ne_nil _ _⟩
theorem bf {α σ:Type} {f:α→List PV} {acc:σ→List α} {I:σ→Prop} {m:σ→Nat} {Q:Ex→Env→ae→Prop} {B:ae} {slots:List Nat} {V:PV→σ→List PV} {s:σ} (s':σ) {L:List α} {vs:List PV} {H':ae} (h1:m s'<m s) (h2:I s') (hacc:acc s'=L) (hne:L≠[])
  (X:ae) (k:Nat) (hX:H'=B++X) (hk:(B++X)[k]?=some .tok) (hle:B.length≤k) (hv:vs=V (.list (L.map f) (.tok k)) s'):jx f acc I m Q B slots V s .normal vs H':=
 ⟨s',h1,h2,.inr ⟨by rw[hacc]; exact hne,X,k,hX,hk,hle,by rw[hacc]; exact hv⟩⟩
theorem jS {α σ:Type} {f:α→List PV} {acc:σ→List α} {I:σ→Prop} {m:σ→Nat} {Q:Ex→Env→ae→Prop} {B:ae} {slots:List Nat} {V:PV→σ→List PV} {s:σ} (s':σ) {vs:List PV} {H':ae} (h1:m s'<m s) (h2:I s') (hacc:acc s'=[])
  (X:ae) (hX:H'=B++X) (hv:vs=V (.list [] .exact) s'):jx f acc I m Q B slots V s .normal vs H':=
 ⟨s',h1,h2,.inl ⟨hacc,X,hX,hv⟩⟩
theorem n9 {α σ:Type} {f:α→List PV} {acc:σ→List α} {I:σ→Prop} {m:σ→Nat} {Q:Ex→Env→ae→Prop} {B:ae} {slots:List Nat} {V:PV→σ→List PV} {s:σ} {j:Nat} {vs:List PV} {H':ae} (h:Q (.exit j) (av slots vs) H'):jx f acc I m Q B slots V s (.exit j) vs H':=
 ⟨vs,H',.refl _,.refl _,h⟩
theorem cj {α σ:Type} {f:α→List PV} {acc:σ→List α} {I:σ→Prop} {m:σ→Nat} {Q:Ex→Env→ae→Prop} {B:ae} {slots:List Nat} {V:PV→σ→List PV} {s:σ} {j:Nat} {vs vs2:List PV} {H' H2:ae} (hw:WkL vs vs2) (hp:Pad H' H2) (h:Q (.exit j) (av slots vs2) H2):jx f acc I m Q B slots V s (.exit j) vs H':=
 ⟨vs2,H2,hw,hp,h⟩
theorem mD {α:Type} {p:α→Bool} {l:List α} {i:Nat} (d:α) (h:i<l.length):(l.take (i+1)).filter p=(l.take i).filter p++(if p (l.getD i d)=true then [l.getD i d] else []):=by
 rw[aZ d h,List.filter_append]
 congr 1
 by_cases c:p (l.getD i d)=true
 ·rw[if_pos c,List.filter_cons_of_pos c]; rfl
 ·rw[if_neg c,List.filter_cons_of_neg c]; rfl
theorem iu {α:Type} (p:α→Bool) (l:List α) (i:Nat):((l.take i).filter p).length≤i:=
 Nat.le_trans (List.length_filter_le _ _) (by rw[List.length_take]; omega)
theorem bD {α:Type} {f:α→List PV} {n:Nat} (hf:∀ a,∀ x∈f a,Low n x) (l:List α):Low n (.list (l.map f) .no):=aI NT.no (bh fun a _=>hf a)
def Kr (B:ae):Prop:=∀(o:Nat) cs,B[o]?=some (.cells cs)→∀ x∈cs,Low B.length x
theorem ql {B:ae} (h:∀ ob∈B,match ob with| .cells cs=>∀ x∈cs,Low B.length x|_=>True):Kr B:=by
 intro o cs ho
 have:=h _ (List.mem_of_getElem? ho)
 exact this
end Go.AM

namespace Go.AM
open Go
theorem ed {n0:Nat} {vs:List PV} {X G:ae} (hX:gQ X.length X) (hv:∀ v∈vs,Lid X.length v) (hn:n0≤X.length):dV n0 vs (X++G) vs X:=
 ⟨vs,X++G,fun o=>o,.refl _,.refl _,kn hX,hn,fun _ _=>rfl,gm (fun _ _=>rfl) hv⟩
def K5 (H:ae) (q:Nat):Option Nat:=match H[q]? with
 | some (.cells [.ptr r 0])=>some r
 | _=>none
end Go.AM

namespace Go.AM
open Go
theorem over_row {α:Type} {f:α→List PV} {sz:Nat} (h:∀ a,(f a).length=sz) {l:List α} {J:List PV} {k:Nat} {a:α} (d:α) (hk:k<l.length):over ((l.map f).flatten++J) (k*sz) (f a)=((l.set k a).map f).flatten++J:=by
 have e1:(l.map f).flatten++J=((l.take k).map f).flatten++f (l.getD k d)++(((l.drop (k+1)).map f).flatten++J):=by
  rw[fw l k,List.drop_eq_getElem_cons hk,List.map_cons,List.flatten_cons,List.getD_eq_getElem?_getD,List.getElem?_eq_getElem hk]
  simp
 rw[cy e1 (by rw[bq h,List.length_take,Nat.min_eq_left (by omega)]) (by rw[h,h]),List.set_eq_take_append_cons_drop,if_pos hk]
 simp
def u1 (n:Int):List PV:=[.int .u32 n]
theorem dN (n:Int):(u1 n).length=1:=rfl
theorem bU {k:Nat} (n:Int):∀ y∈u1 n,Low k y:=bw (.int _ _)
theorem ey (n:Int):∀ y∈u1 n,y.one=true:=by intro y hy; rcases List.mem_singleton.1 hy with rfl; rfl
theorem ec (l:List Int) (i:Nat):InL (l.map u1) 1 (i:Int)=(i<l.length):=cW dN (by decide) l i
theorem vX (l:List Int):(l.map u1).flatten.length=l.length:=by rw[bq dN,Nat.mul_one]
theorem EE {n:Nat} (l:List Int) {J:List PV} (h:∀ y∈J,Low n y):∀ y∈(l.map u1).flatten++J,Low n y:=fi (fun a _=>bU a) h
end Go.AM

namespace Go.AM
open Go
end Go.AM

namespace Go.AM
open Go
theorem lC {n m:Nat} {ρ:Nat→Nat} (hρ:∀ o,o<n→ρ o=o) (hm:n≤m):∀ {xs:List PV},(∀ x∈xs,Lid n x)→aW ρ m xs xs
 | [],_=> .nil
 | x::xs,h=>by
  refine .cons ?_ (lC hρ hm fun y hy=>h y (by simp[hy]))
  have hx:=h x (by simp)
  cases hx with
  | low hx=>exact .low hx
  | arr o off len cap hx=>
   have:=Ren.arr (ρ:=ρ) (n:=m) o off len cap (by omega)
   rwa [hρ o hx] at this
  | ptr o off hx=>
   have:=Ren.ptr (ρ:=ρ) (n:=m) o off (by omega)
   rwa [hρ o hx] at this
theorem lU {B X:ae} {vs' vs:List PV} (hB:gQ B.length B) (hw:WkL vs' vs) (hv:∀ v∈vs,Lid B.length v) {n0:Nat} (hn:n0≤B.length):dV n0 vs' (B++X) vs B:=
 ⟨vs,B++X,fun o=>o,hw,.refl _,kn hB,hn,fun _ _=>rfl,gm (fun _ _=>rfl) hv⟩
theorem Gf {B B' X:ae} {vs' vs:List PV} (hB:gQ B.length B) (hw:WkL vs' vs) (hh:WkH (B'++X) (B++X)) (hv:∀ v∈vs,Lid B.length v) {n0:Nat} (hn:n0≤B.length):dV n0 vs' (B'++X) vs B:=
 ⟨vs,B++X,fun o=>o,hw,hh,kn hB,hn,fun _ _=>rfl,gm (fun _ _=>rfl) hv⟩
inductive RA (k k':Nat):PV→PV→Prop where
 | low {x:PV} (h:Low 0 x):RA k k' x x
 | arr (off len cap:Nat):RA k k' (.arr k off len cap) (.arr k' off len cap)
 | agg (cs cs':List PV) (hl:cs.length=cs'.length) (h:∀(q:Nat) (x y:PV),cs[q]?=some x→cs'[q]?=some y→RA k k' x y):RA k k' (.agg cs) (.agg cs')
 | tup (cs cs':List PV) (hl:cs.length=cs'.length) (h:∀(q:Nat) (x y:PV),cs[q]?=some x→cs'[q]?=some y→RA k k' x y):RA k k' (.tup cs) (.tup cs')
inductive RAL (k k':Nat):List PV→List PV→Prop where
 | nil:RAL k k' [] []
 | cons {x y:PV} {xs ys:List PV} (h:RA k k' x y) (hs:RAL k k' xs ys):RAL k k' (x::xs) (y::ys)
theorem RAL.length {k k':Nat} {xs ys:List PV} (h:RAL k k' xs ys):xs.length=ys.length:=by
 induction h with
 | nil=>rfl
 | cons _ _ ih=>simp[ih]
theorem RAL.get {k k':Nat} {xs ys:List PV} (h:RAL k k' xs ys):∀(q:Nat) (x y:PV),xs[q]?=some x→ys[q]?=some y→RA k k' x y:=by
 induction h with
 | nil=>intro q x y h; simp at h
 | cons h _ ih=>
  intro q x y h1 h2
  cases q with
  | zero=>simp at h1 h2; subst h1; subst h2; exact h
  | succ q=>exact ih q x y (by simpa using h1) (by simpa using h2)
theorem RA.gW {k k':Nat} {xs ys:List PV} (h:RAL k k' xs ys):RA k k' (.agg xs) (.agg ys):= .agg _ _ h.length h.get
theorem RA.ren {k k':Nat} {x y:PV} (hr:RA k k' x y) {ρ:Nat→Nat} {n:Nat} (hk:k<n) (hρ:ρ k=k'):Ren ρ n x y:=by
 induction hr with
 | low h=>exact .low h
 | arr off len cap=>rw[← hρ]; exact .arr _ _ _ _ hk
 | agg cs cs' hl _ ih=>exact .agg _ _ hl ih
 | tup cs cs' hl _ ih=>exact .tup _ _ hl ih
end Go.AM

namespace Go.AM
open Go
theorem xD {P:Program} {gl:aC} (hgl:aU gl) {f:FuncId} {pre cs:List PV} {H:ae} {b:Nat} {r:PV} (hc:gL H b cs) (hcs:∀ x∈cs,Low 0 x) (hp:∀ x∈pre,Low 0 x) (hr:Low 0 r)
  (h:aj P gl f (pre++[.ptr 0 0]) [.cells cs] (fun x H'=>x=r∧∃ G,H'=[.cells cs]++G)):aj P gl f (pre++[.ptr b 0]) H (fun x H'=>x=r∧H'=H):=by
 have hb:b<H.length:=(List.getElem?_eq_some_iff.1 hc).1
 have h1:aj P gl f (pre++[.ptr 0 0]) [.cells cs] (fun x H'=>x=r∧H'=[.cells cs]):=aj.same hr.up h
 have hsub:Sub (fun _=>b) [.cells cs] H:=by
  refine⟨fun _ _=>hb,fun a c h1 h2 _=>?_,fun j a h1=>?_⟩
  ·simp at h1 h2; omega
  ·have e1:=(List.getElem?_eq_some_iff.1 h1).1
   have:j=0:=by simpa using e1
   subst this; cases h1
   exact⟨_,hc,.cells (aW.low hcs)⟩
 refine a9 hgl hsub ((aW.low hp).append (.cons (.ptr (ρ:=fun _=>b) 0 0 Nat.zero_lt_one) .nil)) (aM h1 fun x H' e=>?_)
 obtain⟨rfl,rfl⟩:=e
 refine⟨x,H,⟨Nat.le_refl _,by simp,fun j a h1=>?_,fun o' _ _=>rfl⟩,.low hr,rfl,rfl⟩
 have e1:=(List.getElem?_eq_some_iff.1 h1).1
 have:j=0:=by simpa using e1
 subst this; cases h1
 exact⟨.cells cs,hc,.cells (aW.low hcs),fun _=>rfl⟩
inductive RF (o:Nat) (es:List (List PV)):PV→PV→Prop where
 | low {x:PV} (h:Low 0 x):RF o es x x
 | arr (cap:Nat) (hc:es.length≤cap):RF o es (.arr o 0 es.length cap) (.list es .no)
 | agg (cs cs':List PV) (hl:cs.length=cs'.length) (h:∀(q:Nat) (x y:PV),cs[q]?=some x→cs'[q]?=some y→RF o es x y):RF o es (.agg cs) (.agg cs')
 | tup (cs cs':List PV) (hl:cs.length=cs'.length) (h:∀(q:Nat) (x y:PV),cs[q]?=some x→cs'[q]?=some y→RF o es x y):RF o es (.tup cs) (.tup cs')
inductive RFL (o:Nat) (es:List (List PV)):List PV→List PV→Prop where
 | nil:RFL o es [] []
 | cons {x y:PV} {xs ys:List PV} (h:RF o es x y) (hs:RFL o es xs ys):RFL o es (x::xs) (y::ys)
theorem Cg {P:Program} {gl:aC} (hgl:aU gl) {f:FuncId} {args args':List PV} {K:PV→ae→Prop} {H:ae} (V:PV→PV) (hw:WkL args args') (ha:∀ x∈args',Low 0 x) (hV:∀(k k' len cap:Nat),RA k k' (V (.arr k 0 len cap)) (V (.arr k' 0 len cap)))
  (h:aj P gl f args' [] (fun x H'=>∃(k len cap:Nat) (cs:List PV),x=V (.arr k 0 len cap)∧H'[k]?=some (.cells cs)∧(∀ x∈cs,Low 0 x)∧K (V (.arr H.length 0 len cap)) (H++[.cells cs]))):aj P gl f args H K:=by
 refine bg hw (a9 hgl (X:=[]) (ρ:=fun o=>o) ⟨fun o ho=>absurd ho (Nat.not_lt_zero _),fun o _ ho=>absurd ho (Nat.not_lt_zero _),fun o a ho=>by simp at ho⟩ (aW.low ha) (b5 hgl (aM h fun x H' e=>?_)))
 obtain⟨k,len,cap,cs,rfl,ho,hcs,hk⟩:=e
 have hol:=(List.getElem?_eq_some_iff.1 ho).1
 refine⟨V (.arr 0 0 len cap),[.cells cs],fun _=>k,⟨fun _ _=>hol,fun a b h1 h2 _=>by simp at h1 h2; omega,fun a ob h1=>?_⟩,Nat.zero_le _,fun a ha=>absurd ha (Nat.not_lt_zero _),?_,?_⟩
 ·have k1:=(List.getElem?_eq_some_iff.1 h1).1
  simp at k1
  subst k1
  cases h1
  exact⟨.cells cs,ho,.cells (aW.low hcs)⟩
 ·exact(hV 0 k len cap).ren (by simp) rfl
 ·refine⟨V (.arr H.length 0 len cap),H++[.cells cs],⟨Nat.zero_le _,by simp,fun a ob h1=>?_,fun a h1 _=>?_⟩,?_,hk⟩
  ·have k1:=(List.getElem?_eq_some_iff.1 h1).1
   simp at k1
   subst k1
   cases h1
   exact⟨.cells cs,by simp[aN],.cells (aW.low hcs),fun h=>h⟩
  ·rw[List.getElem?_append_left h1]
  ·exact(hV 0 H.length len cap).ren (by simp) (by simp[aN])
theorem sW [Dfr] {P:Program} {gl:aC} (hgl:aU gl) {n:Nat} {x:Code} {Q:Ex→Env→ae→Prop} {e:Env} {H:ae} {σ:Type} (slots:List Nat) (I:σ→Prop) (V:σ→List PV) (Hp:σ→ae) (m:σ→Nat) (s0:σ)
  (h0:I s0) (he:slots.map e=V s0) (hH:H=Hp s0)
  (round:∀ s,I s→AW P gl n x (fun ex e' H'=>rT Q H.length slots I V Hp m s ex (slots.map e') H') (av slots (V s)) (Hp s)):AW P gl n (.loop x) Q e H:=by
 intro hd g a w hst
 simp only[bN] at hd
 have hng:g.n=H.length:=hst.sim.n
 refine wp_loop_ghost (fun k a' w'=>∃ g' s,k=m s∧I s∧St gl n g' (av slots (V s)) (Hp s) a' w'∧Ext g H w g' (Hp s) w') (m s0) ⟨g,s0,rfl,h0,by rw[← hH,← he]; exact hst.weaken (bQ e slots),by rw[← hH]; exact .refl g H w⟩ ?_
 rintro k a1 w1 ⟨g1,s,rfl,hI,hst1,hx1⟩
 refine wp_mono (round s hI hd g1 a1 w1 hst1) ?_
 rintro ex a' w' ⟨ex',g',e',H',k0,k1,k2,k3⟩
 have k1':=k1.weaken (bQ e' slots)
 cases ex<;>cases ex'<;>first|exact k0.elim|skip
 ·obtain⟨s',hm,hI',hr⟩:=k3
  obtain⟨g3,j1,j2⟩:=k1'.lm hgl (hx1.trans k2) hng hr
  exact⟨m s',hm,g3,s',rfl,hI',j1,j2⟩
 ·obtain⟨vs2,H2,j1,j3⟩:=k3
  obtain⟨g3,j4,j5⟩:=k1'.lm hgl (hx1.trans k2) hng j1
  exact⟨.exit _,g3,_,H2,k0,j4,j5,j3⟩
 ·obtain⟨vs2,H2,j1,j3⟩:=k3
  obtain⟨g3,j4,j5⟩:=k1'.lm hgl (hx1.trans k2) hng j1
  exact⟨.ret,g3,_,H2,k0,j4,j5,j3⟩
end Go.AM

namespace Go.AM
open Go
inductive Sf (o:Nat) (H:ae):PV→PV→Prop where
 | int (k:IntKind) (n:Int):Sf o H (.int k n) (.int k n)
 | bool (b:Bool):Sf o H (.bool b) (.bool b)
 | nil (t:Tail) (ht:NT t):Sf o H (.list [] t) (.list [] t)
 | tok (k:IntKind) (ns:List Int) (p:Nat) (hp:H[p]?=some .tok) (hne:p≠o):Sf o H (.list (en1 k ns) (.tok p)) (.list (en1 k ns) (.tok p))
 | ptr (q off:Nat):Sf o H (.ptr q off) (.ptr q off)
 | arr (q off len cap:Nat):Sf o H (.arr q off len cap) (.arr q off len cap)
 | any (x:PV):Sf o H x .any
inductive SfL (o:Nat) (H:ae):List PV→List PV→Prop where
 | nil:SfL o H [] []
 | cons {x y:PV} {xs ys:List PV} (h:Sf o H x y) (hs:SfL o H xs ys):SfL o H (x::xs) (y::ys)
structure Thaw [Dfr] (o p:Nat) (k:IntKind) (ns:List Int) (pre post pre2 post2:List PV) (H':ae):Prop where
 ne:ns≠[]
 tok:H'[o]?=some .tok
 at_:H'[p]?=some (.cells (pre ++ .list (en1 k ns) (.tok o)::post))
 pre_:SfL o H' pre pre2
 post_:SfL o H' post post2
structure Thawed (o p:Nat) (H' H2:ae) (cs C:List PV):Prop where
 len:H2.length=H'.length
 row:H2[o]?=some (.cells C)
 hold:H2[p]?=some (.cells cs)
 rest:∀(i:Nat) (b:Ob),i≠o→i≠p→H2[i]?=some b→b = .dead∨(b = .tok∧H'[i]?=some .tok)∨∃ c c2,b = .cells c2∧H'[i]?=some (.cells c)∧SfL o H' c c2
end Go.AM

namespace Go.AM
open Go
theorem vA {ρ:Nat→Nat} {n:Nat} {g0 g:Gh} {w:World} (hs:Seen ρ n g0 g):∀ {ts:List Nat} {vs vs1:List PV},aW ρ n vs vs1→∀ t v,Rel g0 w (av ts vs t) v→Rel g w (av ts vs1 t) v
 | [],_,_,_,t,v,_=>by unfold av; exact .any v
 | k::ts,_,_,.nil,t,v,_=>by unfold av; exact .any v
 | k::ts,_,_,.cons h hs',t,v,hr=>by
  simp only[av] at hr ⊢
  cases hk:t == k with
  | true=>rw[hk] at hr; exact h.to hs hr
  | false=>rw[hk] at hr; exact vA hs hs' t v hr
theorem AW.frame [Dfr] {P:Program} {gl:aC} (hgl:aU gl) {n:Nat} {c:Code} {Q:Ex→Env→ae→Prop} {e:Env} {X H:ae} {ρ:Nat→Nat} {slots outs:List Nat} {vals0 lF:List PV} (hsub:Sub ρ X H) (he:slots.map e=lF) (hv0:aW ρ X.length vals0 lF)
  (h:AW P gl n c (fun ex e' X'=>∃ vs H',Behind ρ X H X' H'∧aW (aN ρ X.length H.length) X'.length (outs.map e') vs∧Q ex (av outs vs) H') (av slots vals0) X):AW P gl n c Q e H:=by
 intro hd g a w hst
 have hS:=hst.sim
 have hs:Seen ρ X.length (g.through ρ X.length) g:=ez fun o ho=>by rw[hS.n]; exact hsub.lt o ho
 have hG0:cZ (g.through ρ X.length) w gl:=fun k cs hk=>by
  refine⟨(hst.glob k cs hk).1,fun q x hx=>?_⟩
  obtain⟨h1,c,h2,h3⟩:=(hst.glob k cs hk).2 q x hx
  exact⟨h1,c,h2,dl h3 (hgl k cs hk x (List.mem_iff_getElem?.2 ⟨q,hx⟩)) rfl⟩
 have hw:=hst.weaken (bQ e slots)
 rw[he] at hw
 refine wp_mono (h hd (g.through ρ X.length) a w ⟨hsub.sim hS,hG0,⟨hw.env.1,fun t=>n8 hs hv0 t _ (hw.env.2 t)⟩,hst.dfr⟩) ?_
 rintro ex a' w' ⟨ex',g',e',X',k0,k1,hX,vs,H',hB,hren,hk⟩
 have k1:=k1.weaken (bQ e' outs)
 have hS':=k1.sim
 have hn:g.n=H.length:=hS.n
 have hn':g'.n=X'.length:=hS'.n
 have inv:∃ σ:Nat→Option Nat,∀ o,(∀ j,σ o=some j→j<X.length∧ρ j=o)∧(σ o=none→∀ j,j<X.length→ρ j≠o):=by
  refine⟨fun o=>(List.range X.length).find? fun j=>ρ j == o,fun o=>⟨fun j hj=>?_,fun hj j hlt=>?_⟩⟩
  ·have h1:=List.find?_some hj
   have h2:=List.mem_of_find?_eq_some hj
   exact⟨by simpa using h2,by simpa using h1⟩
  ·have:=List.find?_eq_none.1 hj j (by simpa using hlt)
   simpa using this
 obtain⟨σ,hσ⟩:=inv
 have hσρ:∀ j,j<X.length→σ (ρ j)=some j:=fun j hj=>by
  cases hq:σ (ρ j) with
  | none=>exact absurd rfl ((hσ _).2 hq j hj)
  | some i=>obtain⟨h1,h2⟩:=(hσ _).1 i hq; rw[hsub.inj i j h1 hj h2]
 have bk0:∀ o,o<X.length→g'.bk o=g.bk (ρ o):=fun o ho=>hX.gx.bk o ho
 have en0:∀ o,o<X.length→g'.en o=g.en (ρ o):=fun o ho=>hX.gx.en o ho
 have sz0:∀ o,o<X.length→g'.sz o=g.sz (ρ o):=fun o ho=>hX.gx.sz o ho
 let g2:Gh:=⟨H'.length,fun o=>if o<H.length then g.bk o else g'.bk (X.length+(o-H.length)),fun o=>if o<H.length then g.en o else g'.en (X.length+(o-H.length)),fun o=>if o<H.length then g.sz o else g'.sz (X.length+(o-H.length)),g'.imm,
  fun o=>if o<H.length then(match σ o with|some j=>g'.fp j|none=>g.fp o) else g'.fp (X.length+(o-H.length))⟩
 have ext_lt:∀ o,o<X.length→aN ρ X.length H.length o=ρ o∧ρ o<H.length:=fun o ho=>⟨by simp[aN,ho],hsub.lt o ho⟩
 have ext_ge:∀ o,¬ o<X.length→aN ρ X.length H.length o=H.length+(o-X.length):=fun o ho=>by simp[aN,ho]
 have hlenX:=hB.len
 have hlenH:=hB.lenH
 have hs2:Seen (aN ρ X.length H.length) X'.length g' g2:=by
  refine⟨hn',fun o ho=>?_,fun o ho=>?_,fun o ho=>?_,fun o ho=>?_,rfl⟩
  ·show _<H'.length
   by_cases c:o<X.length
   ·obtain⟨e1,e2⟩:=ext_lt o c; rw[e1]; omega
   ·rw[ext_ge o c]; omega
  ·by_cases c:o<X.length
   ·obtain⟨e1,e2⟩:=ext_lt o c
    show _=(if _ then _ else _); rw[e1,if_pos e2]; exact bk0 o c
   ·show _=(if _ then _ else _); rw[ext_ge o c,if_neg (by omega)]; congr 1; omega
  ·by_cases c:o<X.length
   ·obtain⟨e1,e2⟩:=ext_lt o c
    show _=(if _ then _ else _); rw[e1,if_pos e2]; exact en0 o c
   ·show _=(if _ then _ else _); rw[ext_ge o c,if_neg (by omega)]; congr 1; omega
  ·by_cases c:o<X.length
   ·obtain⟨e1,e2⟩:=ext_lt o c
    show _=(if _ then _ else _); rw[e1,if_pos e2]; exact sz0 o c
   ·show _=(if _ then _ else _); rw[ext_ge o c,if_neg (by omega)]; congr 1; omega
 have fp2:∀ o,o<X'.length→g2.fp (aN ρ X.length H.length o)=g'.fp o:=fun o ho=>by
  by_cases c:o<X.length
  ·obtain⟨e1,e2⟩:=ext_lt o c
   show(if _ then _ else _)=_; rw[e1,if_pos e2,hσρ o c]
  ·show(if _ then _ else _)=_; rw[ext_ge o c,if_neg (by omega)]; congr 1; omega
 have cases2:∀(o:Nat) (b:Ob),H'[o]?=some b→b.alive=true→(∃ j a,X'[j]?=some a∧a.alive=true∧o=aN ρ X.length H.length j∧dj (aN ρ X.length H.length) X'.length a b)∨(o<H.length∧H[o]?=some b∧∀ j,j<X.length→ρ j≠o):=by
  intro o b hb hal
  have hol:o<H'.length:=(List.getElem?_eq_some_iff.1 hb).1
  have fromX:∀ j,j<X'.length→o=aN ρ X.length H.length j→∃ a,X'[j]?=some a∧a.alive=true∧dj (aN ρ X.length H.length) X'.length a b:=fun j hj ho=>by
   obtain⟨b',k1,k2,k3⟩:=hB.on j _ (List.getElem?_eq_getElem hj)
   rw[← ho,hb] at k1
   cases k1
   exact⟨_,List.getElem?_eq_getElem hj,k3 hal,k2⟩
  by_cases c:o<H.length
  ·cases hq:σ o with
   | some j=>
    obtain⟨h1,h2⟩:=(hσ o).1 j hq
    have ho:o=aN ρ X.length H.length j:=by rw[(ext_lt j h1).1,h2]
    obtain⟨a,k1,k2,k3⟩:=fromX j (by omega) ho
    exact .inl ⟨j,a,k1,k2,ho,k3⟩
   | none=>
    have h1:=(hσ o).2 hq
    exact .inr ⟨c,by rw[← hB.off o c h1]; exact hb,h1⟩
  ·have ho:o=aN ρ X.length H.length (X.length+(o-H.length)):=by rw[ext_ge _ (by omega)]; omega
   obtain⟨a,k1,k2,k3⟩:=fromX _ (by omega) ho
   exact .inl ⟨_,a,k1,k2,ho,k3⟩
 have blkX:∀ {j:Nat} {a b:Ob} {k:Nat},X'[j]?=some a→a.alive=true→dj (aN ρ X.length H.length) X'.length a b→(blk g2 b (aN ρ X.length H.length j) k↔blk g' a j k):=by
  intro j a b k h1 h2 h3
  have hj:j<X'.length:=(List.getElem?_eq_some_iff.1 h1).1
  cases h3 with
  | cells _=>show _=k↔_=k; rw[hs2.bk j hj]
  | tok=>show _=k↔_=k; rw[hs2.bk j hj]
  | dead _=>cases h2
  | abs r=>show g2.fp _ k↔g'.fp j k; rw[fp2 j hj]
 have blkH:∀ {o:Nat} {b:Ob} {k:Nat},o<H.length→(∀ j,j<X.length→ρ j≠o)→(blk g2 b o k↔blk g b o k):=by
  intro o b k h1 h2
  refine dm (g:=g) (g':=g2) ?_ (fun k=>?_) b k
  ·show(if _ then _ else _)=_; rw[if_pos h1]
  ·show(if o<H.length then(match σ o with|some j=>g'.fp j|none=>g.fp o) else _) k↔_
   rw[if_pos h1]
   cases hq:σ o with
   | some j=>obtain⟨k1,k2⟩:=(hσ o).1 j hq; exact absurd k2 (h2 j k1)
   | none=>exact Iff.rfl
 have apart0:∀ {o:Nat} {b:Ob} {k:Nat},H[o]?=some b→b.alive=true→(∀ j,j<X.length→ρ j≠o)→blk g b o k→k<w.heap.size∧¬ own (g.through ρ X.length) X k:=by
  intro o b k h1 h2 h3 h4
  refine⟨dM hS ⟨o,b,h1,h2,h4⟩,?_⟩
  rintro⟨j,a,k1,k2,k3⟩
  obtain⟨b',e1,e2⟩:=hsub.ob j a k1
  have:=hS.inj (ρ j) o b' b k e1 h1 (e2.alive k2) h2 ((ee g ρ _ e2 k2 j k).1 k3) h4
  exact h3 j (List.getElem?_eq_some_iff.1 k1).1 this
 have apart:∀ {o:Nat} {b:Ob} {k:Nat},H[o]?=some b→b.alive=true→(∀ j,j<X.length→ρ j≠o)→blk g b o k→k<w.heap.size∧w'.heap[k]?=w.heap[k]?∧(∀ q,¬ g.imm k q→¬ g'.imm k q)∧¬ own g' X' k:=by
  intro o b k h1 h2 h3 h4
  obtain⟨hlt,hno⟩:=apart0 h1 h2 h3 h4
  exact⟨hlt,hX.frame k hlt hno,fun q hq hi=>(hX.im k q hlt hi).elim hq hno,fun ho=>hno (hX.ow k hlt ho)⟩
 have hgx:bL g w g2 w':=by
  refine⟨by show g.n≤H'.length; omega,fun o ho=>?_,fun o ho=>?_,fun o ho=>?_,hX.gx.imm,hX.gx.cell⟩
  ·show(if _ then _ else _)=_; rw[if_pos (by omega)]
  ·show(if _ then _ else _)=_; rw[if_pos (by omega)]
  ·show(if _ then _ else _)=_; rw[if_pos (by omega)]
 have hbk2:∀ o,o<H.length→g2.bk o=g.bk o:=fun o ho=>hgx.bk o (by omega)
 refine⟨ex',g2,av outs vs,H',k0,⟨?_,hst.glob.mono hgx,⟨k1.env.1,fun t=>vA hs2 hren t _ (k1.env.2 t)⟩,k1.dfr⟩,?_,hk⟩
 ·refine⟨rfl,fun o o' b b' k h1 h2 h3 h4 h5 h6=>?_,fun o cs h1=>?_,fun o h1=>?_,hS'.imm,fun o r h1=>?_⟩
  ·rcases cases2 o b h1 h3 with⟨j,a,k1,k2,rfl,k3⟩|⟨k1,k2,k3⟩<;>rcases cases2 o' b' h2 h4 with⟨j',a',m1,m2,rfl,m3⟩|⟨m1,m2,m3⟩
   ·rw[hS'.inj j j' a a' k k1 m1 k2 m2 ((blkX k1 k2 k3).1 h5) ((blkX m1 m2 m3).1 h6)]
   ·exact absurd ⟨j,a,k1,k2,(blkX k1 k2 k3).1 h5⟩ (apart m2 h4 m3 ((blkH m1 m3).1 h6)).2.2.2
   ·exact absurd ⟨j',a',m1,m2,(blkX m1 m2 m3).1 h6⟩ (apart k2 h3 k3 ((blkH k1 k3).1 h5)).2.2.2
   ·exact hS.inj o o' b b' k k2 m2 h3 h4 ((blkH k1 k3).1 h5) ((blkH m1 m3).1 h6)
  ·rcases cases2 o _ h1 rfl with⟨j,a,k1,k2,rfl,k3⟩|⟨k1,k2,k3⟩
   ·cases k3 with
    | cells k3=>
     obtain⟨⟨C,ty,e1,e2⟩,e3⟩:=hS'.cells j _ k1
     have hj:j<X'.length:=(List.getElem?_eq_some_iff.1 k1).1
     rw[← hs2.bk j hj]
     exact⟨⟨C,ty,e1,k3.to hs2 e2⟩,e3⟩
    | dead _=>cases k2
   ·obtain⟨⟨C,ty,e1,e2⟩,e3⟩:=hS.cells o cs k2
    obtain⟨_,a2,a3,_⟩:=apart k2 rfl k3 rfl
    rw[hbk2 o k1]
    exact⟨⟨C,ty,a2.trans e1,e2.mono hgx⟩,fun q=>a3 q (e3 q)⟩
  ·rcases cases2 o _ h1 rfl with⟨j,a,k1,k2,rfl,k3⟩|⟨k1,k2,k3⟩
   ·cases k3 with
    | tok=>
     have hj:j<X'.length:=(List.getElem?_eq_some_iff.1 k1).1
     rw[← hs2.bk j hj,← hs2.en j hj,← hs2.sz j hj]
     exact hS'.tok j k1
    | dead _=>cases k2
   ·obtain⟨⟨C,ty,e1,e2⟩,e3⟩:=hS.tok o k2
    obtain⟨_,a2,a3,_⟩:=apart k2 rfl k3 rfl
    rw[hbk2 o k1,hgx.en o (by omega),hgx.sz o (by omega)]
    exact⟨⟨C,ty,a2.trans e1,e2⟩,fun q hq=>a3 q (e3 q hq)⟩
  ·rcases cases2 o _ h1 rfl with⟨j,a,k1,k2,rfl,k3⟩|⟨k1,k2,k3⟩
   ·cases k3 with
    | abs r=>
     have hj:j<X'.length:=(List.getElem?_eq_some_iff.1 k1).1
     rw[← hs2.bk j hj,fp2 j hj]
     exact hS'.abs j r k1
    | dead _=>cases k2
   ·have h2:=(hS.abs o r k2).2.2
    have hfp:∀ b,g2.fp o b↔g.fp o b:=fun b=>blkH (b:= .abs r) (k:=b) k1 k3
    exact hS.dJ k2 hgx (hbk2 o k1) hfp (fun b hb=>(apart k2 rfl k3 hb).2.1) (fun b q hb=>(apart k2 rfl k3 hb).2.2.1 q ((h2 b hb).2 q)) hX.size hS'.imm
 ·have ownsub:∀ b,own (g.through ρ X.length) X b→own g H b:=fun b=>hsub.own
  refine⟨hgx,hX.size,fun b hb ho=>?_,fun b hb ho=>hX.frame b hb (fun k=>ho (ownsub b k)),hX.os,hX.tape,hX.output,fun b q hb hi=>(hX.im b q hb hi).imp id (ownsub b)⟩
  obtain⟨o,b',h1,h2,h3⟩:=ho
  rcases cases2 o b' h1 h2 with⟨j,a,k1,k2,rfl,k3⟩|⟨k1,k2,k3⟩
  ·exact ownsub b (hX.ow b hb ⟨j,a,k1,k2,(blkX k1 k2 k3).1 h3⟩)
  ·exact⟨o,b',k2,h2,(blkH k1 k3).1 h3⟩
end Go.AM

namespace Go.AM
open Go
end Go.AM

namespace Go.AM
open Go
theorem um {P:Program} {gl:aC} {f:FuncId} {args:List PV} {H:ae} {K:PV→ae→Prop} (h:aj P gl f args H (fun x H'=>∃ H2,Pad H' H2∧K x H2)):aj P gl f args H K:=by
 intro g w vs hS hG hR
 refine(h g w vs hS hG hR).mono ?_
 rintro e w' ⟨v,g1,H',x,rfl,hS',hx,hv,H2,hp,hk⟩
 let g':Gh:=⟨H2.length,g1.bk,g1.en,g1.sz,g1.imm,g1.fp⟩
 have hb:blk g'=blk g1:=by funext ob o b; cases ob<;>rfl
 have hn:g1.n=H'.length:=hS'.n
 have hgx:bL g1 w' g' w':=⟨by show g1.n≤H2.length; rw[hn]; exact hp.len,fun _ _=>rfl,fun _ _=>rfl,fun _ _=>rfl,fun _ _ h=>h,fun _ _ _=>rfl⟩
 refine⟨v,g',H2,x,rfl,⟨rfl,fun o o' ob ob' b h1 h2 h3 h4=>by rw[hb]; exact hS'.inj o o' ob ob' b (hp.ob _ _ h1 h3) (hp.ob _ _ h2 h4) h3 h4,fun o cs h1=>?_,fun o h1=>hS'.tok o (hp.ob _ _ h1 rfl),hS'.imm,fun o r h1=>hS'.abs o r (hp.ob _ _ h1 rfl)⟩,?_,hv.mono hgx,hk⟩
 ·obtain⟨⟨C,ty,e1,e2⟩,e3⟩:=hS'.cells o cs (hp.ob _ _ h1 rfl)
  exact⟨⟨C,ty,e1,e2.mono hgx⟩,e3⟩
 ·refine⟨hx.gx.trans hgx,hx.size,fun b hb' ho=>?_,hx.frame,hx.os,hx.tape,hx.output,hx.im⟩
  obtain⟨o,ob,h1,h2,h3⟩:=ho
  rw[hb] at h3
  exact hx.ow b hb' ⟨o,ob,hp.ob _ _ h1 h2,h2,h3⟩
theorem mQ {P:Program} {gl:aC} {f:FuncId} {args:List PV} {H:ae} {K:PV→ae→Prop} (h:aj P gl f args H (fun x H'=>K x (H'++[.dead]))):aj P gl f args H K:=
 um (aM h fun _ _ hk=>⟨_,fu _,hk⟩)
end Go.AM

namespace Go.AM
open Go
theorem E0 {H:ae} {q:Nat} {R:Rep} (ha:bO H q R):Sub (fun _=>q) [.abs R] H:=by
 refine⟨fun _ _=>(List.getElem?_eq_some_iff.1 ha).1,fun a b h1 h2 _=>by simp at h1 h2; omega,fun o a ho=>?_⟩
 have k1:=(List.getElem?_eq_some_iff.1 ho).1
 simp at k1
 subst k1
 cases ho
 exact⟨_,ha,.abs _⟩
theorem tq {P:Program} {gl:aC} (hgl:aU gl) {f:FuncId} {rest:List PV} {H:ae} {q:Nat} {R R':Rep} {x0:PV} {K:PV→ae→Prop} (ha:bO H q R) (hrest:∀ x∈rest,Low 0 x) (hx:Low 0 x0)
  (h:aj P gl f (.ptr 0 0::rest) [.abs R] (fun x H'=>x=x0∧∃ G,H' = .abs R'::G)) (hk:K x0 (H.set q (.abs R'))):aj P gl f (.ptr q 0::rest) H K:=by
 have hq:=(List.getElem?_eq_some_iff.1 ha).1
 have h1:aj P gl f (.ptr 0 0::rest) [.abs R] (fun x H'=>x=x0∧H'=[.abs R']):=by
  refine h.forget fun x H' hh=>?_
  obtain⟨rfl,G,rfl⟩:=hh
  refine⟨[.abs R'],G,rfl,rfl,hx.up,fun o cs ho'=>?_,rfl,rfl⟩
  have k1:=(List.getElem?_eq_some_iff.1 ho').1
  simp at k1
  subst k1
  cases ho'
 refine a9 hgl (E0 ha) (.cons (.ptr (ρ:=fun _=>q) 0 0 (by simp)) (aW.low hrest)) (aM h1 fun x H' e=>?_)
 obtain⟨rfl,rfl⟩:=e
 refine⟨x,H.set q (.abs R'),⟨Nat.le_refl _,by simp,fun o a ho'=>?_,fun o hl hn=>?_⟩,.low hx,hk⟩
 ·have k1:=(List.getElem?_eq_some_iff.1 ho').1
  simp at k1
  subst k1
  cases ho'
  exact⟨.abs R',by simp[aN,hq],.abs _,fun h=>h⟩
 ·have:=hn 0 (by simp)
  rw[List.getElem?_set_ne this]
inductive Ld (H:ae):PV→PV→Prop where
 | low {x:PV} (h:Low 0 x):Ld H x x
 | any (x:PV):Ld H x .any
 | name (o off len cap:Nat) (h:o<H.length):Ld H (.arr o off len cap) (.arr o off len cap)
 | arr (o off cap sz:Nat) (A B:List PV) (es:List (List PV)) (ho:H[o]?=some (.cells (A++(es.flatten++B)))) (hA:A.length=off) (hu:uni sz es) (hl:es.length≤cap) (hlow:∀ x∈es.flatten,Low 0 x):Ld H (.arr o off es.length cap) (.list es .no)
 | agg (cs cs':List PV) (hl:cs.length=cs'.length) (h:∀(q:Nat) (x y:PV),cs[q]?=some x→cs'[q]?=some y→Ld H x y):Ld H (.agg cs) (.agg cs')
inductive LdL (H:ae):List PV→List PV→Prop where
 | nil:LdL H [] []
 | cons {x y:PV} {xs ys:List PV} (h:Ld H x y) (hs:LdL H xs ys):LdL H (x::xs) (y::ys)
theorem LdL.length {H:ae} {xs ys:List PV} (h:LdL H xs ys):xs.length=ys.length:=by
 induction h with
 | nil=>rfl
 | cons _ _ ih=>simp[ih]
theorem LdL.get {H:ae} {xs ys:List PV} (h:LdL H xs ys):∀(q:Nat) (x y:PV),xs[q]?=some x→ys[q]?=some y→Ld H x y:=by
 induction h with
 | nil=>intro q x y h; simp at h
 | cons h _ ih=>
  intro q x y h1 h2
  cases q with
  | zero=>simp at h1 h2; subst h1; subst h2; exact h
  | succ q=>exact ih q x y (by simpa using h1) (by simpa using h2)
theorem Ld.gW {H:ae} {xs ys:List PV} (h:LdL H xs ys):Ld H (.agg xs) (.agg ys):= .agg _ _ h.length h.get
def Gh.py (g:Gh) (H:ae):Gh:=⟨H.length,g.bk,g.en,g.sz,fun b q=>g.imm b q∨∃ o cs,H[o]?=some (.cells cs)∧b=g.bk o,g.fp⟩
theorem n6 {g:Gh} {H:ae} {w:World} {x:PV} {v:Value} (h:Rel g w x v) (hl:Low 0 x):Rel (g.py H) w x v:=
 Rel.mono (g:=g.cutAt 0) (g':=g.py H) (w:=w) (w':=w) ⟨Nat.zero_le _,fun _ h=>absurd h (Nat.not_lt_zero _),fun _ h=>absurd h (Nat.not_lt_zero _),fun _ h=>absurd h (Nat.not_lt_zero _),fun b q (h:g.imm b q)=>Or.inl h,fun _ _ _=>rfl⟩ (h.cutAt hl)
theorem Ld.to {H:ae} {x y:PV} (hr:Ld H x y) {g:Gh} {w:World} (hS:Sim g H w):∀ {v:Value},Rel g w x v→Rel (g.py H) w y v:=by
 induction hr with
 | low h=>intro v hv; exact n6 hv h
 | any x=>intro v _; exact .any v
 | name o off len cap h=>intro v hv; cases hv; exact .arr (g:=g.py H) o off len cap h
 | arr o off cap sz A B es ho hA hu hl hlow=>
  intro v hv
  cases hv
  refine Rel.aT.2 ⟨_,cap,rfl,fT hu,hl,trivial,.inr ⟨_,rfl,rfl,fun q x hq=>⟨.inr ⟨o,_,ho,rfl⟩,?_⟩⟩⟩
  obtain⟨⟨C,ty,e1,e2⟩,_⟩:=hS.cells o _ ho
  have hql:=(List.getElem?_eq_some_iff.1 hq).1
  have hx:(A++(es.flatten++B))[off+q]?=some x:=by
   rw[List.getElem?_append_right (by omega),show off+q-A.length=q by omega,List.getElem?_append_left hql]; exact hq
  obtain⟨c,h1,h2⟩:=e2.get hx
  refine⟨c,?_,n6 h2 (hlow x (List.mem_iff_getElem?.2 ⟨q,hq⟩))⟩
  simp only[At]
  rw[cA e1,← Array.getElem?_toList]; exact h1
 | agg cs cs' hl _ ih=>
  intro v hv
  obtain⟨vs,rfl,h1⟩:=Rel.bP.1 hv
  refine Rel.bP.2 ⟨vs,rfl,by rw[← hl]; exact h1.1,fun q y u hy hu=>?_⟩
  have hq:q<cs.length:=by rw[hl]; exact(List.getElem?_eq_some_iff.1 hy).1
  exact ih q cs[q] y (List.getElem?_eq_getElem hq) hy (h1.2 q _ u (List.getElem?_eq_getElem hq) hu)
inductive Flat:PV→Prop where
 | int (k:IntKind) (n:Int):Flat (.int k n)
 | bool (b:Bool):Flat (.bool b)
theorem Flat.rel {x:PV} (h:Flat x) {g g':Gh} {w:World} {v:Value} (hv:Rel g w x v):Rel g' w x v:=by
 cases h with
 | int k n=>cases hv; exact .int _ _
 | bool b=>cases hv; exact .bool _
def fJ (H:ae):ae:=H.map fun _=> .dead
theorem fV {H:ae} {o:Nat} {b:Ob} (h:(fJ H)[o]?=some b):b = .dead:=by
 simp only[fJ,List.getElem?_map] at h
 cases hx:H[o]? with
 | none=>rw[hx] at h; cases h
 | some a=>rw[hx] at h; cases h; rfl
theorem mR {P:Program} {gl:aC} (hgl:aU gl) {f:FuncId} {args args':List PV} {H:ae} {r:PV} (hr:Flat r) (hl:LdL H args args') (hp:aj P gl f args' (fJ H) (fun x H'=>x=r∧H'=fJ H)):aj P gl f args H (fun x H'=>x=r∧H'=H):=by
 intro g w vs hS hG hR
 have hS0:Sim (g.py H) (fJ H) w:=by
  refine⟨by simp[fJ,Gh.py],fun o o' ob ob' b h1 _ h3=>(by rw[fV h1] at h3; cases h3),fun o cs h1=>(by cases fV h1),fun o h1=>(by cases fV h1),?_,fun o r h1=>(by cases fV h1)⟩
  rintro b q (h1|⟨o,cs,h1,rfl⟩)
  ·exact hS.imm b q h1
  ·exact dM hS ⟨o,_,h1,rfl,rfl⟩
 have hG0:cZ (g.py H) w gl:=fun k cs hk=>by
  refine⟨(hG k cs hk).1,fun q x hx=>?_⟩
  obtain⟨h1,c,h2,h3⟩:=(hG k cs hk).2 q x hx
  exact⟨.inl h1,c,h2,n6 h3 (hgl k cs hk x (List.mem_iff_getElem?.2 ⟨q,hx⟩))⟩
 have hR0:aR (g.py H) w args' vs.toList:=by
  refine⟨by rw[← hl.length]; exact hR.1,fun q y u hy hu=>?_⟩
  have hq:q<args.length:=by rw[hl.length]; exact(List.getElem?_eq_some_iff.1 hy).1
  exact(hl.get q args[q] y (List.getElem?_eq_getElem hq) hy).to hS (hR.2 q _ u (List.getElem?_eq_getElem hq) hu)
 refine(hp (g.py H) w vs hS0 hG0 hR0).mono ?_
 rintro e w' ⟨v,g1,H1,x,rfl,hS1,hX,hv,rfl,rfl⟩
 have hno:∀ b,¬ own (g.py H) (fJ H) b:=by
  rintro b ⟨o,ob,h1,h2,_⟩; rw[fV h1] at h2; cases h2
 have hfr:∀ b,b<w.heap.size→w'.heap[b]?=w.heap[b]?:=fun b hb=>hX.frame b hb (hno b)
 have hgx:bL g w g w':=⟨Nat.le_refl _,fun _ _=>rfl,fun _ _=>rfl,fun _ _=>rfl,fun _ _ h=>h,fun b q h=>hX.gx.cell b q (.inl h)⟩
 refine⟨v,g,H,_,rfl,⟨hS.n,hS.inj,fun o cs h1=>?_,fun o h1=>?_,fun b q h1=>Nat.lt_of_lt_of_le (hS.imm b q h1) hX.size,fun o r h1=>?_⟩,⟨hgx,hX.size,fun b _ h=>h,fun b hb _=>hfr b hb,hX.os,hX.tape,hX.output,fun b q _ h=> .inl h⟩,hr.rel hv,rfl,rfl⟩
 ·obtain⟨⟨C,ty,e1,e2⟩,e3⟩:=hS.cells o cs h1
  exact⟨⟨C,ty,(hfr _ (dM hS ⟨o,_,h1,rfl,rfl⟩)).trans e1,e2.mono hgx⟩,e3⟩
 ·obtain⟨⟨C,ty,e1,e2⟩,e3⟩:=hS.tok o h1
  exact⟨⟨C,ty,(hfr _ (dM hS ⟨o,_,h1,rfl,rfl⟩)).trans e1,e2⟩,e3⟩
 ·have h2:=(hS.abs o r h1).2.2
  exact hS.dJ h1 hgx rfl (fun _=>Iff.rfl) (fun b hb=>hfr b (h2 b hb).1) (fun b q hb=>(h2 b hb).2 q) hX.size (fun b q h=>Nat.lt_of_lt_of_le (hS.imm b q h) hX.size)
inductive Fz (o off:Nat) (es:List (List PV)):PV→PV→Prop where
 | refl (x:PV):Fz o off es x x
 | any (x:PV):Fz o off es x .any
 | arr (cap:Nat) (h:es.length≤cap):Fz o off es (.arr o off es.length cap) (.list es .no)
 | exact:Fz o off es (.arr o off es.length es.length) (.list es .exact)
 | agg (cs cs':List PV) (hl:cs.length=cs'.length) (h:∀(q:Nat) (x y:PV),cs[q]?=some x→cs'[q]?=some y→Fz o off es x y):Fz o off es (.agg cs) (.agg cs')
 | tup (cs cs':List PV) (hl:cs.length=cs'.length) (h:∀(q:Nat) (x y:PV),cs[q]?=some x→cs'[q]?=some y→Fz o off es x y):Fz o off es (.tup cs) (.tup cs')
inductive FzL (o off:Nat) (es:List (List PV)):List PV→List PV→Prop where
 | nil:FzL o off es [] []
 | cons {x y:PV} {xs ys:List PV} (h:Fz o off es x y) (hs:FzL o off es xs ys):FzL o off es (x::xs) (y::ys)
theorem FzL.length {o off:Nat} {es:List (List PV)} {xs ys:List PV} (h:FzL o off es xs ys):xs.length=ys.length:=by
 induction h with
 | nil=>rfl
 | cons _ _ ih=>simp[ih]
theorem FzL.get {o off:Nat} {es:List (List PV)} {xs ys:List PV} (h:FzL o off es xs ys):∀(q:Nat) (x y:PV),xs[q]?=some x→ys[q]?=some y→Fz o off es x y:=by
 induction h with
 | nil=>intro q x y h; simp at h
 | cons h _ ih=>
  intro q x y h1 h2
  cases q with
  | zero=>simp at h1 h2; subst h1; subst h2; exact h
  | succ q=>exact ih q x y (by simpa using h1) (by simpa using h2)
theorem FzL.refl {o off:Nat} {es:List (List PV)}:∀(xs:List PV),FzL o off es xs xs
 | []=> .nil
 | x::xs=> .cons (.refl x) (FzL.refl xs)
theorem Fz.gW {o off:Nat} {es:List (List PV)} {xs ys:List PV} (h:FzL o off es xs ys):Fz o off es (.agg xs) (.agg ys):= .agg _ _ h.length h.get
theorem Fz.to {o off:Nat} {es:List (List PV)} {x y:PV} (hr:Fz o off es x y) {g g':Gh} {w:World} (hx:bL g w g' w) {sz:Nat} (hu:uni sz es) (hi:bR g' w ⟨g.bk o,off,none⟩ es.flatten):∀ {v:Value},Rel g w x v→Rel g' w y v:=by
 induction hr with
 | refl x=>intro v hv; exact hv.mono hx
 | any x=>intro v _; exact .any v
 | arr cap hc=>
  intro v hv
  cases hv
  exact Rel.aT.2 ⟨_,cap,rfl,fT hu,hc,trivial,.inr ⟨_,rfl,hi⟩⟩
 | exact=>
  intro v hv
  cases hv
  exact Rel.aT.2 ⟨_,_,rfl,fT hu,Nat.le_refl _,rfl,.inr ⟨_,rfl,hi⟩⟩
 | agg cs cs' hl _ ih=>
  intro v hv
  obtain⟨vs,rfl,h1⟩:=Rel.bP.1 hv
  refine Rel.bP.2 ⟨vs,rfl,by rw[← hl]; exact h1.1,fun q y u hy hu=>?_⟩
  have hq:q<cs.length:=by rw[hl]; exact(List.getElem?_eq_some_iff.1 hy).1
  exact ih q cs[q] y (List.getElem?_eq_getElem hq) hy (h1.2 q _ u (List.getElem?_eq_getElem hq) hu)
 | tup cs cs' hl _ ih=>
  intro v hv
  obtain⟨vs,rfl,h1⟩:=Rel.dD.1 hv
  refine Rel.dD.2 ⟨vs,rfl,by rw[← hl]; exact h1.1,fun q y u hy hu=>?_⟩
  have hq:q<cs.length:=by rw[hl]; exact(List.getElem?_eq_some_iff.1 hy).1
  exact ih q cs[q] y (List.getElem?_eq_getElem hq) hy (h1.2 q _ u (List.getElem?_eq_getElem hq) hu)
theorem FzL.to {o off:Nat} {es:List (List PV)} {xs ys:List PV} (h:FzL o off es xs ys) {g g':Gh} {w:World} (hx:bL g w g' w) {sz:Nat} (hu:uni sz es) (hi:bR g' w ⟨g.bk o,off,none⟩ es.flatten) {vs:List Value} (hr:aR g w xs vs):aR g' w ys vs:=by
 refine⟨by rw[← h.length]; exact hr.1,fun q y u hy hu'=>?_⟩
 have hq:q<xs.length:=by rw[h.length]; exact(List.getElem?_eq_some_iff.1 hy).1
 exact(h.get q xs[q] y (List.getElem?_eq_getElem hq) hy).to hx hu hi (hr.2 q _ u (List.getElem?_eq_getElem hq) hu')
def FzH (o off:Nat) (es:List (List PV)) (H H2:ae):Prop:=H2.length=H.length∧∀(i:Nat) (b:Ob),H2[i]?=some b→b = .dead∨(i≠o∧H[i]?=some b)∨∃ c c2,b = .cells c2∧i≠o∧H[i]?=some (.cells c)∧FzL o off es c c2
theorem ur {g:Gh} {w:World} {b:Nat} {A B:List PV} {cs:List PV} {off:Nat} (h:bR g w ⟨b,0,none⟩ (A++(cs++B))) (hA:A.length=off):bR g w ⟨b,off,none⟩ cs:=by
 refine⟨rfl,fun q x hq=>?_⟩
 have hql:=(List.getElem?_eq_some_iff.1 hq).1
 have hx:(A++(cs++B))[off+q]?=some x:=by
  rw[List.getElem?_append_right (by omega),show off+q-A.length=q by omega,List.getElem?_append_left hql]; exact hq
 obtain⟨h1,c,h2,h3⟩:=h.2 _ _ hx
 simp only[At,Nat.zero_add] at h1 h2 ⊢
 exact⟨h1,c,h2,h3⟩
theorem Sim.nw {g:Gh} {H:ae} {w:World} (h:Sim g H w) {o off sz:Nat} {A B:List PV} {es:List (List PV)} (ho:H[o]?=some (.cells (A++(es.flatten++B)))) (hA:A.length=off) (hu:uni sz es) {H2:ae} (hH:FzH o off es H H2):
  ∃ g',Sim g' H2 w∧Ext g H w g' H2 w∧bL g w g' w∧bR g' w ⟨g.bk o,off,none⟩ es.flatten:=by
 obtain⟨g',k1,k2,k3⟩:=h.freeze ho
 have hi:=ur k3 hA
 have get:∀ {i:Nat} {b:Ob},H2[i]?=some b→b.alive=true→(∃ a,(H.set o .dead)[i]?=some a∧a.alive=true∧H[i]?=some a∧∀ x,blk g' b i x↔blk g' a i x):=by
  intro i b h1 h2
  rcases hH.2 i b h1 with rfl|⟨hne,h3⟩|⟨c,c2,rfl,hne,h3,_⟩
  ·cases h2
  ·exact⟨b,by rw[List.getElem?_set_ne (Ne.symm hne)]; exact h3,h2,h3,fun _=>Iff.rfl⟩
  ·exact⟨_,by rw[List.getElem?_set_ne (Ne.symm hne)]; exact h3,rfl,h3,fun _=>Iff.rfl⟩
 refine⟨g',⟨?_,fun i j oi oj b h1 h2 h3 h4 h5 h6=>?_,fun i cs h1=>?_,fun i h1=>?_,k1.imm,fun i r h1=>?_⟩,⟨k2.gx,k2.size,fun b hb ho'=>?_,k2.frame,k2.os,k2.tape,k2.output,k2.im⟩,k2.gx,hi⟩
 ·rw[hH.1]; have:=k1.n; simpa using this
 ·obtain⟨a1,e1,e2,_,e3⟩:=get h1 h3
  obtain⟨a2,f1,f2,_,f3⟩:=get h2 h4
  exact k1.inj i j a1 a2 b e1 f1 e2 f2 ((e3 b).1 h5) ((f3 b).1 h6)
 ·rcases hH.2 i _ h1 with h2|⟨hne,h3⟩|⟨c,c2,h2,hne,h3,h4⟩
  ·cases h2
  ·exact k1.cells i cs (by rw[List.getElem?_set_ne (Ne.symm hne)]; exact h3)
  ·cases h2
   obtain⟨⟨C,ty,e1,e2⟩,_⟩:=h.cells i c h3
   obtain⟨⟨C',ty',e1',e2'⟩,e3⟩:=k1.cells i c (by rw[List.getElem?_set_ne (Ne.symm hne)]; exact h3)
   have hb:g'.bk i=g.bk i:=k2.gx.bk i (by rw[h.n]; exact(List.getElem?_eq_some_iff.1 h3).1)
   exact⟨⟨C,ty,by rw[hb]; exact e1,h4.to k2.gx hu hi e2⟩,e3⟩
 ·rcases hH.2 i _ h1 with h2|⟨hne,h3⟩|⟨c,c2,h2,_⟩
  ·cases h2
  ·exact k1.tok i (by rw[List.getElem?_set_ne (Ne.symm hne)]; exact h3)
  ·cases h2
 ·rcases hH.2 i _ h1 with h2|⟨hne,h3⟩|⟨c,c2,h2,_⟩
  ·cases h2
  ·exact k1.abs i r (by rw[List.getElem?_set_ne (Ne.symm hne)]; exact h3)
  ·cases h2
 ·obtain⟨i,ob,h1,h2,h3⟩:=ho'
  obtain⟨a,e1,e2,e3,e4⟩:=get h1 h2
  exact k2.ow b hb ⟨i,a,e1,e2,(e4 b).1 h3⟩
theorem w8 {o off:Nat} {es:List (List PV)} {g g':Gh} {w:World} (hx:bL g w g' w) {sz:Nat} (hu:uni sz es) (hi:bR g' w ⟨g.bk o,off,none⟩ es.flatten):∀ {ts:List Nat} {vs vs2:List PV},FzL o off es vs vs2→∀ t v,Rel g w (av ts vs t) v→Rel g' w (av ts vs2 t) v
 | [],_,_,_,t,v,_=>by unfold av; exact .any v
 | k::ts,_,_,.nil,t,v,_=>by unfold av; exact .any v
 | k::ts,_,_,.cons h hs,t,v,hr=>by
  simp only[av] at hr ⊢
  cases hk:t == k with
  | true=>rw[hk] at hr; exact h.to hx hu hi hr
  | false=>rw[hk] at hr; exact w8 hx hu hi hs t v hr
theorem AW.nw [Dfr] {P:Program} {gl:aC} {n:Nat} {c:Code} {Q:Ex→Env→ae→Prop} {e:Env} {H H2:ae} {slots:List Nat} {vs vs2:List PV} {o off sz:Nat} {A B:List PV} {es:List (List PV)} (he:slots.map e=vs)
  (ho:H[o]?=some (.cells (A++(es.flatten++B)))) (hA:A.length=off) (hu:uni sz es) (hH:FzH o off es H H2) (hv:FzL o off es vs vs2)
  (h:AW P gl n c Q (av slots vs2) H2):AW P gl n c Q e H:=by
 intro hd g a w hst
 obtain⟨g',k1,k2,k3,k4⟩:=hst.sim.nw ho hA hu hH
 have hw:=hst.weaken (bQ e slots)
 rw[he] at hw
 refine wp_mono (h hd g' a w ⟨k1,hst.glob.mono k3,⟨hw.env.1,fun t=>w8 k3 hu k4 hv t _ (hw.env.2 t)⟩,hst.dfr⟩) ?_
 rintro ex a' w' ⟨ex',g2,e2,H3,j0,j1,j2,j3⟩
 exact⟨ex',g2,e2,H3,j0,j1,k2.trans j2,j3⟩
theorem bS {P:Program} {gl:aC} {f:FuncId} {args:List PV} {H:ae} {K:PV→ae→Prop}
  (h:aj P gl f args H (fun x H'=>∃(o off sz:Nat) (A B:List PV) (es:List (List PV)) (y:PV) (H2:ae),H'[o]?=some (.cells (A++(es.flatten++B)))∧A.length=off∧uni sz es∧FzH o off es H' H2∧Fz o off es x y∧K y H2)):aj P gl f args H K:=by
 intro g w vs hS hG hR
 refine(h g w vs hS hG hR).mono ?_
 rintro e w' ⟨v,g',H',x,rfl,hS',hX,hr,o,off,sz,A,B,es,y,H2,ho,hA,hu,hH,hf,hk⟩
 obtain⟨g2,k1,k2,k3,k4⟩:=hS'.nw ho hA hu hH
 exact⟨v,g2,H2,y,rfl,k1,hX.trans k2,hf.to k3 hu k4 hr,hk⟩
end Go.AM

namespace Go.AM
open Go
structure ShutH (ρ:Nat→Nat) (hh:ae) (q:Nat) (I:ae→Prop) (H H2:ae):Prop where
 sub:Sub ρ hh H
 root:jN hh
 it:I hh
 notok:wP hh
 zero:ρ 0=q
 len:H2.length=H.length
 at_:H2[q]?=some (.abs (whole I))
 off:∀(o:Nat) (b:Ob),o≠q→H2[o]?=some b→b.alive=true→H[o]?=some b∧∀ k,k<hh.length→ρ k≠o
theorem Sim.HV {g:Gh} {H:ae} {w:World} (hS:Sim g H w) {ρ:Nat→Nat} {hh:ae} {q:Nat} {I:ae→Prop} {H2:ae} (h:ShutH ρ hh q I H H2):∃ g2,Sim g2 H2 w∧Ext g H w g2 H2 w∧bL g w g2 w:=by
 let g0:Gh:=g.through ρ hh.length
 let g2:Gh:={ g with fp:=fun o b=>if o=q then own g0 hh b else g.fp o b }
 have hS0:Sim g0 hh w:=h.sub.sim hS
 have hgx:bL g w g2 w:=⟨Nat.le_refl _,fun _ _=>rfl,fun _ _=>rfl,fun _ _=>rfl,fun _ _ h=>h,fun _ _ _=>rfl⟩
 have hfq:∀ b,g2.fp q b↔own g0 hh b:=fun b=>by show(if q=q then _ else _)↔_; rw[if_pos rfl]
 have hfo:∀ {o:Nat},o≠q→∀ b,g2.fp o b↔g.fp o b:=fun ho b=>by show(if _=q then _ else _)↔_; rw[if_neg ho]
 have blko:∀ {o:Nat} {ob:Ob} {b:Nat},o≠q→(blk g2 ob o b↔blk g ob o b):=fun {o ob b} ho=>dm (g:=g) (g':=g2) rfl (fun k=>hfo ho k) ob b
 have notin:∀ {o:Nat} {ob:Ob} {b:Nat},o≠q→H2[o]?=some ob→ob.alive=true→blk g2 ob o b→own g0 hh b→False:=by
  intro o ob b h1 h2 h3 h4 h5
  obtain⟨h6,h7⟩:=h.off o ob h1 h2 h3
  obtain⟨k,a,k1,k2,k3⟩:=h5
  obtain⟨b',j1,j2⟩:=h.sub.ob k a k1
  have hk:=(List.getElem?_eq_some_iff.1 k1).1
  have:=hS.inj (ρ k) o b' ob b j1 h6 (j2.alive k2) h3 ((ee g ρ _ j2 k2 k b).1 k3) ((blko h1).1 h4)
  exact h7 k hk this
 have qabs:∀ {ob:Ob},H2[q]?=some ob→ob = .abs (whole I):=fun hb=>by rw[h.at_] at hb; exact(Option.some.inj hb).symm
 refine⟨g2,⟨by rw[h.len]; exact hS.n,fun o o' ob ob' b h1 h2 h3 h4 h5 h6=>?_,fun o cs h1=>?_,fun o h1=>?_,hS.imm,fun o r h1=>?_⟩,⟨hgx,Nat.le_refl _,fun b _ ho=>?_,fun _ _ _=>rfl,rfl,rfl,rfl,fun _ _ _ h=> .inl h⟩,hgx⟩
 ·by_cases c:o=q<;>by_cases c':o'=q
  ·rw[c,c']
  ·subst c
   rw[qabs h1] at h5
   exact(notin c' h2 h4 h6 ((hfq b).1 h5)).elim
  ·subst c'
   rw[qabs h2] at h6
   exact(notin c h1 h3 h5 ((hfq b).1 h6)).elim
  ·exact hS.inj o o' ob ob' b (h.off o ob c h1 h3).1 (h.off o' ob' c' h2 h4).1 h3 h4 ((blko c).1 h5) ((blko c').1 h6)
 ·by_cases c:o=q
  ·subst c; cases qabs h1
  ·obtain⟨⟨C,ty,e1,e2⟩,e3⟩:=hS.cells o cs (h.off o _ c h1 rfl).1
   exact⟨⟨C,ty,e1,e2.mono hgx⟩,e3⟩
 ·by_cases c:o=q
  ·subst c; cases qabs h1
  ·exact hS.tok o (h.off o _ c h1 rfl).1
 ·by_cases c:o=q
  ·subst c
   cases qabs h1
   obtain⟨cs,hcs⟩:=h.root
   have e:g2.fp o=own g0 hh:=funext fun b=>propext (hfq b)
   rw[e]
   refine⟨⟨g0,hh,h.it,hS0,h.notok,rfl,⟨cs,hcs⟩,by show g.bk (ρ 0)=g.bk o; rw[h.zero],fun k=>Iff.rfl⟩,⟨0,_,hcs,rfl,by show g.bk (ρ 0)=g.bk o; rw[h.zero]⟩,fun b hb=>⟨dM hS0 hb,fun q'=>l9 hS0 h.notok hb q'⟩⟩
  ·have e:g2.fp o=g.fp o:=funext fun b=>propext (hfo c b)
   rw[e]
   exact hS.abs o r (h.off o _ c h1 rfl).1
 ·obtain⟨o,ob,h1,h2,h3⟩:=ho
  by_cases c:o=q
  ·subst c
   rw[qabs h1] at h3
   exact h.sub.own ((hfq b).1 h3)
  ·exact⟨o,ob,(h.off o ob c h1 h2).1,h2,(blko c).1 h3⟩
theorem AW.shut [Dfr] {P:Program} {gl:aC} {n:Nat} {c:Code} {Q:Ex→Env→ae→Prop} {e:Env} {H H2:ae} {ρ:Nat→Nat} {hh:ae} {q:Nat} {I:ae→Prop} (h:ShutH ρ hh q I H H2) (hk:AW P gl n c Q e H2):AW P gl n c Q e H:=by
 intro hd g a w hst
 obtain⟨g2,k1,k2,k3⟩:=hst.sim.HV h
 refine wp_mono (hk hd g2 a w ⟨k1,hst.glob.mono k3,hst.env.mono k3,hst.dfr⟩) ?_
 rintro ex a' w' ⟨ex',g',e',H',j0,j1,j2,j3⟩
 exact⟨ex',g',e',H',j0,j1,k2.trans j2,j3⟩
theorem AW.K3 [Dfr] {P:Program} {gl:aC} {n:Nat} {c:Code} {Q:Ex→Env→ae→Prop} {e:Env} {H:ae} (hk:AW P gl n c (fun ex e' H'=>∃(ρ:Nat→Nat) (hh:ae) (q:Nat) (I:ae→Prop) (H2:ae),ShutH ρ hh q I H' H2∧Q ex e' H2) e H):AW P gl n c Q e H:=by
 intro hd g a w hst
 refine wp_mono (hk hd g a w hst) ?_
 rintro ex a' w' ⟨ex',g',e',H',j0,j1,j2,ρ,hh,q,I,H2,h,j3⟩
 obtain⟨g2,k1,k2,k3⟩:=j1.sim.HV h
 exact⟨ex',g2,e',H2,j0,⟨k1,j1.glob.mono k3,j1.env.mono k3,j1.dfr⟩,j2.trans k2,j3⟩
inductive Nm (ρ:Nat→Nat) (n:Nat):PV→PV→Prop where
 | low {x:PV} (h:Low 0 x):Nm ρ n x x
 | arr (o off len cap:Nat) (h:o<n):Nm ρ n (.arr o off len cap) (.arr (ρ o) off len cap)
inductive NmL (ρ:Nat→Nat) (n:Nat):List PV→List PV→Prop where
 | nil:NmL ρ n [] []
 | cons {x y:PV} {xs ys:List PV} (h:Nm ρ n x y) (hs:NmL ρ n xs ys):NmL ρ n (x::xs) (y::ys)
theorem NmL.low {ρ:Nat→Nat} {n:Nat}:∀ {xs:List PV},(∀ x∈xs,Low 0 x)→NmL ρ n xs xs
 | [],_=> .nil
 | x::xs,h=> .cons (.low (h x (by simp))) (NmL.low fun y hy=>h y (by simp[hy]))
theorem NmL.length {ρ:Nat→Nat} {n:Nat} {xs ys:List PV} (h:NmL ρ n xs ys):xs.length=ys.length:=by
 induction h with
 | nil=>rfl
 | cons _ _ ih=>simp[ih]
theorem NmL.get {ρ:Nat→Nat} {n:Nat} {xs ys:List PV} (h:NmL ρ n xs ys):∀(q:Nat) (x y:PV),xs[q]?=some x→ys[q]?=some y→Nm ρ n x y:=by
 induction h with
 | nil=>intro q x y h; simp at h
 | cons h _ ih=>
  intro q x y h1 h2
  cases q with
  | zero=>simp at h1 h2; subst h1; subst h2; exact h
  | succ q=>exact ih q x y (by simpa using h1) (by simpa using h2)
theorem Nm.to {ρ:Nat→Nat} {n:Nat} {g0 g2:Gh} {w:World} (hbk:∀ o,o<n→ρ o<g2.n∧g2.bk (ρ o)=g0.bk o) (himm:g2.imm=g0.imm) {x y:PV} (h:Nm ρ n x y) {v:Value} (hv:Rel g0 w x v):Rel g2 w y v:=by
 cases h with
 | low h=>exact dl hv h himm
 | arr o off len cap ho=>
  cases hv
  obtain⟨h1,h2⟩:=hbk o ho
  rw[← h2]; exact .arr _ _ _ _ h1
theorem NmL.to {ρ:Nat→Nat} {n:Nat} {g0 g2:Gh} {w:World} (hbk:∀ o,o<n→ρ o<g2.n∧g2.bk (ρ o)=g0.bk o) (himm:g2.imm=g0.imm) {xs ys:List PV} (h:NmL ρ n xs ys) {vs:List Value} (hr:aR g0 w xs vs):aR g2 w ys vs:=by
 refine⟨by rw[← h.length]; exact hr.1,fun q y u hy hu=>?_⟩
 have hq:q<xs.length:=by rw[h.length]; exact(List.getElem?_eq_some_iff.1 hy).1
 exact(h.get q xs[q] y (List.getElem?_eq_getElem hq) hy).to hbk himm (hr.2 q _ u (List.getElem?_eq_getElem hq) hu)
def c8 (q N:Nat):Nat→Nat:=fun k=>if k=0 then q else N+(k-1)
structure OpenH (q:Nat) (hh H H2:ae):Prop where
 len:H2.length=H.length+(hh.length-1)
 off:∀ o,o<H.length→o≠q→H2[o]?=H[o]?
 on:∀(k:Nat) (a:Ob),hh[k]?=some a→a = .dead∧H2[c8 q H.length k]?=some .dead∨∃ cs cs',a = .cells cs∧H2[c8 q H.length k]?=some (.cells cs')∧NmL (c8 q H.length) hh.length cs cs'
theorem Sim.v5 {g:Gh} {H:ae} {w:World} (hS:Sim g H w) {q:Nat} {I:ae→Prop} (hq:H[q]?=some (.abs (whole I))):∃ hh,I hh∧jN hh∧∀ H2,OpenH q hh H H2→∃ g2,Sim g2 H2 w∧Ext g H w g2 H2 w∧bL g w g2 w:=by
 obtain⟨⟨g0,hh,h1,hS0,h3,h4,h5,h6,h7⟩,h8,h9⟩:=hS.abs q _ hq
 have hql:=(List.getElem?_eq_some_iff.1 hq).1
 have hn0:0<hh.length:=by obtain⟨cs,e⟩:=h5; exact(List.getElem?_eq_some_iff.1 e).1
 refine⟨hh,h1,h5,fun H2 ho=>?_⟩
 have hn:g.n=H.length:=hS.n
 let g2:Gh:=⟨H2.length,fun o=>if o<H.length then g.bk o else g0.bk (o-H.length+1),fun o=>if o<H.length then g.en o else g0.en (o-H.length+1),fun o=>if o<H.length then g.sz o else g0.sz (o-H.length+1),g.imm,g.fp⟩
 have hlen:=ho.len
 have hbk:∀ k,k<hh.length→c8 q H.length k<g2.n∧g2.bk (c8 q H.length k)=g0.bk k:=by
  intro k hk
  unfold c8
  by_cases c:k=0
  ·subst c
   rw[if_pos rfl]
   exact⟨by show q<H2.length; omega,by show(if _ then _ else _)=_; rw[if_pos hql,h6]⟩
  ·rw[if_neg c]
   exact⟨by show _<H2.length; omega,by show(if _ then _ else _)=_; rw[if_neg (by omega)]; congr 1; omega⟩
 have himm:g2.imm=g0.imm:=h4.symm
 have hgx:bL g w g2 w:=by
  refine⟨by show g.n≤H2.length; omega,fun o ho=>?_,fun o ho=>?_,fun o ho=>?_,fun _ _ h=>h,fun _ _ _=>rfl⟩
  ·show(if _ then _ else _)=_; rw[if_pos (by omega)]
  ·show(if _ then _ else _)=_; rw[if_pos (by omega)]
  ·show(if _ then _ else _)=_; rw[if_pos (by omega)]
 have bk2:∀ {o:Nat},o<H.length→g2.bk o=g.bk o:=fun ho=>hgx.bk _ (by omega)
 have cases2:∀(o:Nat) (b:Ob),H2[o]?=some b→b.alive=true→(∃ k cs cs',k<hh.length∧hh[k]?=some (.cells cs)∧b = .cells cs'∧o=c8 q H.length k∧NmL (c8 q H.length) hh.length cs cs')∨(o<H.length∧o≠q∧H[o]?=some b):=by
  intro o b hb hal
  have hol:=(List.getElem?_eq_some_iff.1 hb).1
  have fromX:∀ k,k<hh.length→o=c8 q H.length k→∃ cs cs',hh[k]?=some (.cells cs)∧b = .cells cs'∧NmL (c8 q H.length) hh.length cs cs':=by
   intro k hk e
   rcases ho.on k _ (List.getElem?_eq_getElem hk) with⟨e1,e2⟩|⟨cs,cs',e1,e2,e3⟩
   ·rw[← e,hb] at e2; cases e2; cases hal
   ·rw[← e,hb] at e2; cases e2
    exact⟨cs,cs',by rw[List.getElem?_eq_getElem hk,e1],rfl,e3⟩
  by_cases c:o<H.length
  ·by_cases c2:o=q
   ·obtain⟨cs,cs',j1,j2,j3⟩:=fromX 0 hn0 (by unfold c8; rw[if_pos rfl]; exact c2)
    exact .inl ⟨0,cs,cs',hn0,j1,j2,by unfold c8; rw[if_pos rfl]; exact c2,j3⟩
   ·exact .inr ⟨c,c2,by rw[← ho.off o c c2]; exact hb⟩
  ·have e:o=c8 q H.length (o-H.length+1):=by unfold c8; rw[if_neg (by omega)]; omega
   obtain⟨cs,cs',j1,j2,j3⟩:=fromX (o-H.length+1) (by omega) e
   exact .inl ⟨_,cs,cs',by omega,j1,j2,e,j3⟩
 have apart:∀ {o:Nat} {b:Ob} {k:Nat} {cs:List PV},o≠q→H[o]?=some b→b.alive=true→hh[k]?=some (.cells cs)→¬ blk g b o (g0.bk k):=by
  intro o b k cs c1 c2 c3 c4 c5
  have:g.fp q (g0.bk k):=(h7 _).2 ⟨k,_,c4,rfl,rfl⟩
  exact c1 (hS.inj o q b _ (g0.bk k) c2 hq c3 rfl c5 this)
 have blko:∀ {o:Nat} {ob:Ob} {b:Nat},o<H.length→(blk g2 ob o b↔blk g ob o b):=fun {o ob b} hol=>dm (g:=g) (g':=g2) (bk2 hol) (fun k=>Iff.rfl) ob b
 refine⟨g2,⟨rfl,fun o o' b b' x a1 a2 a3 a4 a5 a6=>?_,fun o cs a1=>?_,fun o a1=>?_,hS.imm,fun o r a1=>?_⟩,⟨hgx,Nat.le_refl _,fun b _ hb=>?_,fun _ _ _=>rfl,rfl,rfl,rfl,fun _ _ _ h=> .inl h⟩,hgx⟩
 ·rcases cases2 o b a1 a3 with⟨k,cs,cs',k1,k2,rfl,rfl,k3⟩|⟨k1,k2,k3⟩<;>rcases cases2 o' b' a2 a4 with⟨j,ds,ds',j1,j2,rfl,rfl,j3⟩|⟨j1,j2,j3⟩
  ·have e1:g2.bk (c8 q H.length k)=x:=a5
   have e2:g2.bk (c8 q H.length j)=x:=a6
   rw[(hbk k k1).2] at e1
   rw[(hbk j j1).2] at e2
   rw[hS0.inj k j _ _ x k2 j2 rfl rfl e1 e2]
  ·have e1:g2.bk (c8 q H.length k)=x:=a5
   rw[(hbk k k1).2] at e1
   subst e1
   exact(apart j2 j3 a4 k2 ((blko j1).1 a6)).elim
  ·have e1:g2.bk (c8 q H.length j)=x:=a6
   rw[(hbk j j1).2] at e1
   subst e1
   exact(apart k2 k3 a3 j2 ((blko k1).1 a5)).elim
  ·exact hS.inj o o' b b' x k3 j3 a3 a4 ((blko k1).1 a5) ((blko j1).1 a6)
 ·rcases cases2 o _ a1 rfl with⟨k,ds,ds',k1,k2,k3,rfl,k4⟩|⟨k1,k2,k3⟩
  ·cases k3
   obtain⟨⟨C,ty,e1,e2⟩,e3⟩:=hS0.cells k ds k2
   rw[(hbk k k1).2]
   exact⟨⟨C,ty,e1,k4.to hbk himm e2⟩,fun q' hi=>e3 q' (by rw[← himm]; exact hi)⟩
  ·obtain⟨⟨C,ty,e1,e2⟩,e3⟩:=hS.cells o cs k3
   rw[bk2 k1]
   exact⟨⟨C,ty,e1,e2.mono hgx⟩,e3⟩
 ·rcases cases2 o _ a1 rfl with⟨k,ds,ds',k1,k2,k3,_⟩|⟨k1,k2,k3⟩
  ·cases k3
  ·obtain⟨⟨C,ty,e1,e2⟩,e3⟩:=hS.tok o k3
   rw[bk2 k1,hgx.en o (by omega),hgx.sz o (by omega)]
   exact⟨⟨C,ty,e1,e2⟩,e3⟩
 ·rcases cases2 o _ a1 rfl with⟨k,ds,ds',k1,k2,k3,_⟩|⟨k1,k2,k3⟩
  ·cases k3
  ·have:=hS.abs o r k3
   rw[bk2 k1]
   exact this
 ·obtain⟨o,ob,a1,a2,a3⟩:=hb
  rcases cases2 o ob a1 a2 with⟨k,ds,ds',k1,k2,rfl,rfl,k4⟩|⟨k1,k2,k3⟩
  ·have e1:g2.bk (c8 q H.length k)=b:=a3
   rw[(hbk k k1).2] at e1
   exact⟨q,_,hq,rfl,(h7 b).2 ⟨k,_,k2,rfl,e1⟩⟩
  ·exact⟨o,ob,k3,a2,(blko k1).1 a3⟩
theorem AW.v5 [Dfr] {P:Program} {gl:aC} {n:Nat} {c:Code} {Q:Ex→Env→ae→Prop} {e:Env} {H:ae} {q:Nat} {I:ae→Prop} (hq:H[q]?=some (.abs (whole I))) (h:∀ hh,I hh→jN hh→∃ H2,OpenH q hh H H2∧AW P gl n c Q e H2):AW P gl n c Q e H:=by
 intro hd g a w hst
 obtain⟨hh,h1,h2,h3⟩:=hst.sim.v5 hq
 obtain⟨H2,h4,hk⟩:=h hh h1 h2
 obtain⟨g2,k1,k2,k3⟩:=h3 H2 h4
 refine wp_mono (hk hd g2 a w ⟨k1,hst.glob.mono k3,hst.env.mono k3,hst.dfr⟩) ?_
 rintro ex a' w' ⟨ex',g',e',H',j0,j1,j2,j3⟩
 exact⟨ex',g',e',H',j0,j1,k2.trans j2,j3⟩
end Go.AM

namespace Go.AM
open Go
theorem pB {ρ ρ':Nat→Nat} {n:Nat} (e:∀ k,k<n→ρ k=ρ' k) {x y:PV} (h:Ren ρ n x y):Ren ρ' n x y:=by
 induction h with
 | low h=>exact .low h
 | arr o off len cap h=>rw[e o h]; exact .arr _ _ _ _ h
 | ptr o off h=>rw[e o h]; exact .ptr _ _ h
 | ltok es o h hl=>rw[e o h]; exact .ltok _ _ h hl
 | fn f cs cs' hl _ ih=>exact .fn f cs cs' hl ih
 | agg cs cs' hl _ ih=>exact .agg cs cs' hl ih
 | tup cs cs' hl _ ih=>exact .tup cs cs' hl ih
def iB (o N:Nat):Nat→Nat:=fun k=>if k=0 then o else N
theorem zV {P:Program} {gl:aC} (hgl:aU gl) {f:FuncId} {args0 args cs:List PV} {H:ae} {o:Nat} {K:PV→ae→Prop} (hc:gL H o cs) (hcs:∀ x∈cs,Low 0 x) (ha:aW (fun _=>o) 1 args0 args)
  (h:aj P gl f args0 [.cells cs] (fun x X'=>(∃ cs' x',X'=[.cells cs']∧(∀ x∈cs',Low 0 x)∧Ren (iB o H.length) 1 x x'∧K x' (H.set o (.cells cs')))∨
   (∃ cs' cs2 x',X'=[.cells cs',.cells cs2]∧(∀ x∈cs',Low 0 x)∧(∀ x∈cs2,Low 0 x)∧Ren (iB o H.length) 2 x x'∧K x' (H.set o (.cells cs')++[.cells cs2])))):aj P gl f args H K:=by
 have hol:=(List.getElem?_eq_some_iff.1 hc).1
 have hsub:Sub (fun _=>o) [.cells cs] H:=by
  refine⟨fun _ _=>hol,fun a b h1 h2 _=>by simp at h1 h2; omega,fun j a hj=>?_⟩
  have e1:=(List.getElem?_eq_some_iff.1 hj).1
  have:j=0:=by simpa using e1
  subst this; cases hj
  exact⟨_,hc,.cells (aW.low hcs)⟩
 have e:∀ n,n≤2→∀ k,k<n→iB o H.length k=aN (fun _=>o) [Ob.cells cs].length H.length k:=by
  intro n hn k hk
  unfold aN iB
  by_cases c:k=0
  ·subst c; simp
  ·rw[if_neg c,if_neg (by simp; omega)]
   have:k=1:=by omega
   subst this; simp
 refine a9 hgl hsub ha (aM h fun x X' hh=>?_)
 rcases hh with⟨cs',x',rfl,h1,h2,h3⟩|⟨cs',cs2,x',rfl,h1,h2,h3,h4⟩
 ·refine⟨x',H.set o (.cells cs'),⟨Nat.le_refl _,by simp,fun j a hj=>?_,fun o' h5 h6=>?_⟩,pB (e 1 (by decide)) h2,h3⟩
  ·have e1:=(List.getElem?_eq_some_iff.1 hj).1
   have:j=0:=by simpa using e1
   subst this; cases hj
   exact⟨.cells cs',by rw[← e 1 (by decide) 0 (by decide)]; simp[iB,hol],.cells (aW.low h1),fun _=>rfl⟩
  ·have:=h6 0 (by simp)
   rw[List.getElem?_set_ne this]
 ·refine⟨x',H.set o (.cells cs')++[.cells cs2],⟨by simp,by simp,fun j a hj=>?_,fun o' h5 h6=>?_⟩,pB (e 2 (by decide)) h3,h4⟩
  ·have e1:=(List.getElem?_eq_some_iff.1 hj).1
   simp at e1
   have:j=0∨j=1:=by omega
   rcases this with rfl|rfl
   ·cases hj
    exact⟨.cells cs',by rw[← e 2 (by decide) 0 (by decide),List.getElem?_append_left (by simp[iB,hol])]; simp[iB,hol],.cells (aW.low h1),fun _=>rfl⟩
   ·cases hj
    exact⟨.cells cs2,by rw[← e 2 (by decide) 1 (by decide),List.getElem?_append_right (by simp[iB])]; simp[iB],.cells (aW.low h2),fun _=>rfl⟩
  ·have:=h6 0 (by simp)
   rw[List.getElem?_append_left (by simpa using h5),List.getElem?_set_ne this]
end Go.AM

namespace Go.AM
open Go
structure Shape (N:Nat) (V:Nat→PV) (G:Nat→ae):Prop where
 len:∀ b,(G b).length=N
 v:∀(ρ:Nat→Nat) (n b b':Nat),b+N≤n→(∀ k,k<N→ρ (b+k)=b'+k)→Ren ρ n (V b) (V b')
 g:∀(ρ:Nat→Nat) (n b b':Nat),b+N≤n→(∀ k,k<N→ρ (b+k)=b'+k)→∀(k:Nat) (a:Ob),(G b)[k]?=some a→∃ a',(G b')[k]?=some a'∧dj ρ n a a'∧(a'.alive=true→a.alive=true)
theorem tT {P:Program} {gl:aC} (hgl:aU gl) {f:FuncId} {rest:List PV} {H:ae} {q r:Nat} {R:Rep} {K:PV→ae→Prop} (ho:cC H q r R) (hrest:∀ x∈rest,Low 0 x)
  (h:aj P gl f (.ptr 0 0::rest) [.cells [.ptr 1 0],.abs R] (fun x H'=>∃(N:Nat) (V:Nat→PV) (G:Nat→ae) (b:Nat) (R':Rep),Shape N V G∧x=V b∧2≤b∧H'[0]?=some (.cells [.ptr 1 0])∧H'[1]?=some (.abs R')∧(∀(k:Nat) (a:Ob),(G b)[k]?=some a→H'[b+k]?=some a)∧K (V H.length) (H.set r (.abs R')++G H.length))):aj P gl f (.ptr q 0::rest) H K:=by
 have hq:=(List.getElem?_eq_some_iff.1 ho.1).1
 have hr:=(List.getElem?_eq_some_iff.1 ho.2).1
 have hne:q≠r:=fun e=>by have h1:=ho.1; rw[e,ho.2] at h1; cases h1
 refine a9 hgl (sQ ho) (.cons (.ptr (ρ:=fun o=>if o=0 then q else r) 0 0 (by simp)) (aW.low hrest)) (b5 hgl (aM h fun x H' e=>?_))
 obtain⟨N,V,G,b,R',hs,rfl,hb,h0,h1,hg,hk⟩:=e
 have hbN:b+N≤H'.length∨N=0:=by
  rcases Nat.eq_zero_or_pos N with e|e
  ·exact .inr e
  ·have hl:=hs.len b
   have:=hg (N-1) ((G b)[N-1]'(by omega)) (List.getElem?_eq_getElem _)
   have:=(List.getElem?_eq_some_iff.1 this).1
   exact .inl (by omega)
 have hl2:=hs.len 2
 have hlH:=hs.len H.length
 let ρ1:Nat→Nat:=fun k=>if k<2 then k else b+(k-2)
 have hX:([.cells [.ptr 1 0],.abs R']++G 2:ae).length=2+N:=by simp[hl2]; omega
 have e1:∀ k,k<N→ρ1 (2+k)=b+k:=fun k _=>by show(if _ then _ else _)=_; rw[if_neg (by omega)]; omega
 refine⟨V 2,[.cells [.ptr 1 0],.abs R']++G 2,ρ1,⟨fun o ho'=>?_,fun o o' k1 k2 e=>?_,fun o a ho'=>?_⟩,by simp,fun o ho'=>?_,hs.v ρ1 _ 2 b (Nat.le_of_eq hX.symm) e1,?_⟩
 ·rw[hX] at ho'
  show(if o<2 then o else b+(o-2))<H'.length
  have:=(List.getElem?_eq_some_iff.1 h1).1
  split
  ·omega
  ·rcases hbN with c|c<;>omega
 ·rw[hX] at k1 k2
  have e:(if o<2 then o else b+(o-2))=(if o'<2 then o' else b+(o'-2)):=e
  split at e<;>split at e<;>omega
 ·have hol:=(List.getElem?_eq_some_iff.1 ho').1
  rw[hX] at hol
  by_cases c:o<2
  ·have:o=0∨o=1:=by omega
   rcases this with rfl|rfl
   ·cases ho'
    exact⟨_,h0,.cells (.cons (.ptr (ρ:=ρ1) 1 0 (by rw[hX]; omega)) .nil)⟩
   ·cases ho'
    exact⟨_,h1,.abs _⟩
  ·rw[List.getElem?_append_right (by simp; omega)] at ho'
   obtain⟨a',j1,j2,_⟩:=hs.g ρ1 _ 2 b (Nat.le_of_eq hX.symm) e1 _ _ ho'
   refine⟨a',?_,j2⟩
   have:=hg _ _ j1
   show H'[if o<2 then o else b+(o-2)]?=_
   rw[if_neg c]
   exact this
 ·have:o=0∨o=1:=by simp at ho'; omega
  rcases this with rfl|rfl<;>rfl
 ·have e2:∀ k,k<N→aN (fun o=>if o=0 then q else r) [Ob.cells [PV.ptr 1 0],Ob.abs R].length H.length (2+k)=H.length+k:=fun k _=>by
   simp only[aN,List.length_cons,List.length_nil]
   rw[if_neg (by omega)]; omega
  refine⟨V H.length,H.set r (.abs R')++G H.length,⟨by simp,by simp[hl2,hlH],fun o a ho'=>?_,fun o hl hn=>?_⟩,hs.v _ _ 2 H.length (Nat.le_of_eq hX.symm) e2,hk⟩
  ·have hol:=(List.getElem?_eq_some_iff.1 ho').1
   rw[hX] at hol
   by_cases c:o<2
   ·have:o=0∨o=1:=by omega
    rcases this with rfl|rfl
    ·cases ho'
     refine⟨.cells [.ptr r 0],?_,.cells (.cons ?_ .nil),fun _=>rfl⟩
     ·simp only[aN,List.length_cons,List.length_nil]
      rw[if_pos (by omega),if_pos trivial,List.getElem?_append_left (by simpa using hq),List.getElem?_set_ne (Ne.symm hne)]
      exact ho.1
     ·have:=Ren.ptr (ρ:=aN (fun o=>if o=0 then q else r) [Ob.cells [PV.ptr 1 0],Ob.abs R].length H.length) (n:=([.cells [.ptr 1 0],.abs R']++G 2:ae).length) 1 0 (by rw[hX]; omega)
      simpa[aN] using this
    ·cases ho'
     refine⟨.abs R',?_,.abs _,fun _=>rfl⟩
     simp only[aN,List.length_cons,List.length_nil]
     rw[if_pos (by omega),if_neg (by decide),List.getElem?_append_left (by simpa using hr),List.getElem?_set_self hr]
   ·rw[List.getElem?_append_right (by simp; omega)] at ho'
    obtain⟨a',j1,j2,j3⟩:=hs.g (aN (fun o=>if o=0 then q else r) [Ob.cells [PV.ptr 1 0],Ob.abs R].length H.length) ([.cells [.ptr 1 0],.abs R']++G 2:ae).length 2 H.length (Nat.le_of_eq hX.symm) e2 _ _ ho'
    refine⟨a',?_,j2,j3⟩
    have:aN (fun o=>if o=0 then q else r) [Ob.cells [PV.ptr 1 0],Ob.abs R].length H.length o=H.length+(o-2):=by simp[aN,c]
    rw[this,List.getElem?_append_right (by simp)]
    simpa using j1
  ·have:=hn 1 (by simp)
   simp at this
   rw[List.getElem?_append_left (by simpa using hl),List.getElem?_set_ne this]
end Go.AM

