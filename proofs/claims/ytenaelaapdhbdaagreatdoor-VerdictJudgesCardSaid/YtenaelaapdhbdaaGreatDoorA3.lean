/-
  An abstract machine over values without memory, proved against the model, part 3: a tool for this claim; it states nothing of the program.
-/
import Derived.Test.YtenaelaapdhbdaaGreatDoorA2
import Derived.Defers
namespace Go.AM
open Go
def sX {σ:Type} (Q:Ex→Env→ae→Prop) (n0:Nat) (slots:List Nat) (I:σ→Prop) (V:σ→List PV) (Hp:σ→ae) (m:σ→Nat) (s:σ):Ex→List PV→ae→Prop:=fun ex vs H'=>match ex with
 | .normal=>∃ s',m s'<m s∧I s'∧ef n0 vs H' (V s') (Hp s')
 | .exit i=>∃ vs2 H2,ef n0 vs H' vs2 H2∧Q (.exit i) (ak slots vs2) H2
 | .ret=>∃ vs2 H2,ef n0 vs H' vs2 H2∧Q .ret (ak slots vs2) H2
theorem fB [Dfr] {P:Program} {gl:az} (hgl:aO gl) {n:Nat} {T:Tab} (hT:aW P gl T) {L:j7} {hn:Oper→Nat} {x:Code} (hL:LOk P gl n x [] L) {Q:Ex→Env→ae→Prop} {e:Env} {H:ae} {σ:Type} (slots:List Nat) (I:σ→Prop) (V:σ→List PV) (Hp:σ→ae) (m:σ→Nat) (s0:σ)
  (h0:I s0) (he:slots.map e=V s0) (hH:H=Hp s0)
  (round0:∀ s,I s→Holds (wpc br P gl T L hn x [] (ak slots (V s)) (Hp s) (fun ex e' H'=>sX Q H.length slots I V Hp m s ex (slots.map e') H'))):AW P gl n (.loop x) Q e H:=by
 have round:∀ s,I s→AW P gl n x (fun ex e' H'=>sX Q H.length slots I V Hp m s ex (slots.map e') H') (ak slots (V s)) (Hp s):=fun s hI=>aY hT x [] hL _ _ _ (round0 s hI).out
 intro hd g a w hst
 simp only[bM] at hd
 have hng:g.n=H.length:=hst.sim.n
 refine wp_loop_ghost (fun k a' w'=>∃ g' s,k=m s∧I s∧St gl n g' (ak slots (V s)) (Hp s) a' w'∧Ext g H w g' (Hp s) w') (m s0) ⟨g,s0,rfl,h0,by rw[← hH,← he]; exact hst.weaken (bH e slots),by rw[← hH]; exact .refl g H w⟩ ?_
 rintro k a1 w1 ⟨g1,s,rfl,hI,hst1,hx1⟩
 refine wp_mono (round s hI hd g1 a1 w1 hst1) ?_
 rintro ex a' w' ⟨ex',g',e',H',k0,k1,k2,k3⟩
 have k1':=k1.weaken (bH e' slots)
 cases ex<;>cases ex'<;>first|exact k0.elim|skip
 ·obtain⟨s',hm,hI',hr⟩:=k3
  obtain⟨g3,j1,j2⟩:=k1'.kP hgl (hx1.trans k2) hng hr
  exact⟨m s',hm,g3,s',rfl,hI',j1,j2⟩
 ·obtain⟨vs2,H2,j1,j3⟩:=k3
  obtain⟨g3,j4,j5⟩:=k1'.kP hgl (hx1.trans k2) hng j1
  exact⟨.exit _,g3,_,H2,k0,j4,j5,j3⟩
 ·obtain⟨vs2,H2,j1,j3⟩:=k3
  obtain⟨g3,j4,j5⟩:=k1'.kP hgl (hx1.trans k2) hng j1
  exact⟨.ret,g3,_,H2,k0,j4,j5,j3⟩
inductive rE (ρ:Nat→Nat) (n:Nat) (H':ae):List Nat→ae→Prop where
 | nil:rE ρ n H' [] []
 | cons {p:Nat} {ps:List Nat} {a b:Ob} {X:ae} (hb:H'[p]?=some b) (hr:dA ρ n a b) (t:rE ρ n H' ps X):rE ρ n H' (p::ps) (a::X)
theorem rE.len {ρ:Nat→Nat} {n:Nat} {H':ae} {ps:List Nat} {X:ae} (h:rE ρ n H' ps X):ps.length=X.length:=by
 induction h with
 | nil=>rfl
 | cons _ _ _ ih=>simp[ih]
theorem rE.get {ρ:Nat→Nat} {n:Nat} {H':ae} {ps:List Nat} {X:ae} (h:rE ρ n H' ps X):∀(o:Nat) (a:Ob),X[o]?=some a→∃ b,H'[ps.getD o 0]?=some b∧dA ρ n a b:=by
 induction h with
 | nil=>intro o a h; simp at h
 | cons hb hr _ ih=>
  intro o a h
  cases o with
  | zero=>simp at h; subst h; exact⟨_,hb,hr⟩
  | succ o=>simpa using ih o a (by simpa using h)
theorem th {ps:List Nat} {X H':ae} (h:rE (fun o=>ps.getD o 0) X.length H' ps X) (hnd:ps.Nodup):Sub (fun o=>ps.getD o 0) X H':=by
 have hl:=h.len
 refine⟨fun o ho=>?_,fun o o' h1 h2 h3=>?_,h.get⟩
 ·obtain⟨b,hb,_⟩:=h.get o X[o] (List.getElem?_eq_getElem ho)
  exact(List.getElem?_eq_some_iff.1 hb).1
 ·have e1:ps.getD o 0=ps[o]:=by rw[List.getD_eq_getElem?_getD,List.getElem?_eq_getElem (by omega)]; rfl
  have e2:ps.getD o' 0=ps[o']:=by rw[List.getD_eq_getElem?_getD,List.getElem?_eq_getElem (by omega)]; rfl
  have h4:ps[o]'(by omega)=ps[o']'(by omega):=by rw[← e1,← e2]; exact h3
  rcases Nat.lt_trichotomy o o' with c|c|c
  ·exact absurd h4 (List.pairwise_iff_getElem.1 hnd o o' (by omega) (by omega) c)
  ·exact c
  ·exact absurd h4.symm (List.pairwise_iff_getElem.1 hnd o' o (by omega) (by omega) c)
theorem aR {n0:Nat} {vs' vs vs1:List PV} {H' H:ae} (ps:List Nat) (hw:WkL vs' vs1) (hs:rE (fun o=>ps.getD o 0) H.length H' ps H) (hnd:ps.Nodup) (hn:n0≤H.length) (hid:∀ o,o<n0→ps.getD o 0=o)
  (hr:aU (fun o=>ps.getD o 0) H.length vs vs1):ef n0 vs' H' vs H:=
 ⟨vs1,H',_,hw,.refl _,th hs hnd,hn,hid,hr⟩
theorem WkL.refl:∀(l:List PV),WkL l l
 | []=> .nil
 | x::xs=> .cons (.refl x) (WkL.refl xs)
theorem lZ {ρ:Nat→Nat} {n:Nat} {cs:List PV} (h:∀ x∈cs,Low 0 x):dA ρ n (.cells cs) (.cells cs):= .cells (aU.low h)
theorem LM {P:Program} {gl:az} (hgl:aO gl) {f:FuncId} {args args':List PV} {es:List (List PV)} {rest:List PV} (hw:WkL args args') (ha:∀ x∈args',Low 0 x) (hl:∀ x∈es.flatten,Low 0 x) (hrest:∀ x∈rest,Low 0 x)
  (h:ax P gl f args' [] (fun x H'=>(es=[]→x = .agg (.list [] .exact::rest))∧(es≠[]→∃ o,x = .agg (.list es (.tok o)::rest)∧H'[o]?=some .tok))) (H:ae):
  ax P gl f args H (fun x H'=>(es=[]→x = .agg (.list [] .exact::rest)∧H'=H)∧(es≠[]→x = .agg (.list es (.tok H.length)::rest)∧H'=H++[.tok])):=by
 refine bc hw (aZ hgl (X:=[]) (ρ:=fun o=>o) ⟨by simp,by simp,by simp⟩ (pZ ha) (cg hgl (h.mono ?_)))
 rintro x H' ⟨h1,h2⟩
 by_cases h0:es=[]
 ·have hlow:Low 0 (.agg (.list [] .exact::rest)):= .agg _ (by
   intro y hy
   rcases List.mem_cons.1 hy with rfl|hy
   ·exact .list _ _ (by intro o e; cases e) (by simp)
   ·exact hrest y hy)
  refine⟨.agg (.list [] .exact::rest),[],fun o=>o,⟨by simp,by simp,by simp⟩,by simp,by simp,?_,.agg (.list [] .exact::rest),H,⟨by simp,by simp,by simp,fun o _ _=>rfl⟩,?_,fun _=>⟨rfl,rfl⟩,fun k=>absurd h0 k⟩
  ·rw[h1 h0]; exact .low hlow
  ·exact .low hlow
 ·obtain⟨o,rfl,ho⟩:=h2 h0
  have hol:o<H'.length:=(List.getElem?_eq_some_iff.1 ho).1
  refine⟨.agg (.list es (.tok 0)::rest),[.tok],fun _=>o,⟨fun _ _=>hol,fun a b ha hb _=>by simp at ha hb; omega,fun j a h1=>?_⟩,by simp,by simp,Ren.iM (.cons (.ltok (ρ:=fun _=>o) _ 0 (by simp) hl) (aU.low hrest)),.agg (.list es (.tok H.length)::rest),H++[.tok],⟨by simp,by simp,fun j a h1=>?_,fun o h1 _=>?_⟩,?_,fun k=>absurd k h0,fun _=>⟨rfl,rfl⟩⟩
  ·have:j=0:=by have:=(List.getElem?_eq_some_iff.1 h1).1; simpa using this
   subst this; cases h1
   exact⟨_,ho,.tok⟩
  ·have:j=0:=by have:=(List.getElem?_eq_some_iff.1 h1).1; simpa using this
   subst this; cases h1
   exact⟨.tok,by simp[aM],.tok,fun _=>rfl⟩
  ·rw[List.getElem?_append_left h1]
  ·have:=Ren.ltok (ρ:=aM (fun o=>o) ([]:ae).length H.length) (n:=1) es 0 (by omega) hl
   refine Ren.iM (.cons ?_ (aU.low hrest))
   simpa[aM] using this
theorem tf {P:Program} {gl:az} (hgl:aO gl) {f:FuncId} {args0 args:List PV} {H:ae} {q:Nat} {r:Rep} {v:PV} (ho:bR H q r) (hargs:aU (fun _=>q) 1 args0 args) (hv:Low 0 v)
  (h:ax P gl f args0 [.abs r] (fun x H'=>x=v∧∃ G,H' = .abs r::G)):ax P gl f args H (fun x H'=>x=v∧H'=H):=by
 have hol:q<H.length:=(List.getElem?_eq_some_iff.1 ho).1
 have one:∀ {o:Nat} {a:Ob},[Ob.abs r][o]?=some a→o=0∧a = .abs r:=fun {o a} h1=>by
  have e1:=(List.getElem?_eq_some_iff.1 h1).1
  have:o=0:=by simpa using e1
  subst this; cases h1; exact⟨rfl,rfl⟩
 have hsub:Sub (fun _=>q) [.abs r] H:=⟨fun _ _=>hol,fun a b h1 h2 _=>by simp at h1 h2; omega,fun j a h1=>by obtain⟨rfl,rfl⟩:=one h1; exact⟨_,ho,.abs _⟩⟩
 refine aZ hgl hsub hargs (cg hgl (aL h ?_))
 rintro x H' ⟨rfl,G,rfl⟩
 refine⟨x,[.abs r],fun _=>0,⟨fun _ _=>by simp,fun a b h1 h2 _=>by simp at h1 h2; omega,fun j a h1=>by obtain⟨rfl,rfl⟩:=one h1; exact⟨_,rfl,.abs _⟩⟩,Nat.le_refl _,fun o ho=>by simp at ho; simp[ho],.low hv,x,H,⟨Nat.le_refl _,by simp,fun j a h1=>?_,fun o' _ _=>rfl⟩,.low hv,rfl,rfl⟩
 obtain⟨rfl,rfl⟩:=one h1
 have ho':H[q]?=some (.abs r):=ho
 exact⟨_,by simpa[aM] using ho',.abs _,fun h=>h⟩
theorem AW.Lm [Dfr] {P:Program} {gl:az} {n:Nat} {c:Code} {Q:Ex→Env→ae→Prop} {e:Env} {H H1:ae} (hw:WkH H H1) (h:AW P gl n c Q e H1):AW P gl n c Q e H:=by
 intro hd g a w hst
 refine wp_mono (h hd g a w ⟨hw.sim hst.sim,hst.glob,hst.env,hst.dfr⟩) ?_
 rintro ex a' w' ⟨ex',g',e',H',k0,k1,hX,k3⟩
 exact⟨ex',g',e',H',k0,k1,⟨hX.gx,hX.size,fun b hb ho=>hw.own (hX.ow b hb ho),fun b hb ho=>hX.frame b hb fun k=>ho (hw.own k),hX.os,hX.tape,hX.output,fun b q hb hi=>(hX.im b q hb hi).imp id hw.own⟩,k3⟩
def cj (H:ae) (q r:Nat) (R:Rep):Prop:=H[q]?=some (.cells [.ptr r 0])∧H[r]?=some (.abs R)
theorem tJ {H:ae} {q r:Nat} {R:Rep} (h:cj H q r R):Sub (fun o=>if o=0 then q else r) [.cells [.ptr 1 0],.abs R] H:=by
 obtain⟨h1,h2⟩:=h
 have hq:=(List.getElem?_eq_some_iff.1 h1).1
 have hr:=(List.getElem?_eq_some_iff.1 h2).1
 have hne:q≠r:=fun e=>by subst e; rw[h1] at h2; cases h2
 refine⟨fun o _=>by split<;>assumption,fun o o' k1 k2 e=>?_,fun o a ho=>?_⟩
 ·simp at k1 k2
  split at e<;>split at e<;>first|omega|(exact absurd e hne)|(exact absurd e.symm hne)
 ·have k1:=(List.getElem?_eq_some_iff.1 ho).1
  simp at k1
  have:o=0∨o=1:=by omega
  rcases this with rfl|rfl
  ·cases ho
   refine⟨_,h1,.cells (.cons ?_ .nil)⟩
   exact .ptr (ρ:=fun o=>if o=0 then q else r) 1 0 (by simp)
  ·cases ho
   exact⟨_,h2,.abs _⟩
theorem LY {x:PV} (h:x∈([.ptr 1 0]:List PV)):Low 2 x:=by
 rcases List.mem_singleton.1 h with rfl; exact .ptr _ _ (by decide)
theorem jR {P:Program} {gl:az} (hgl:aO gl) {f:FuncId} {rest:List PV} {H:ae} {q r:Nat} {R R':Rep} {x0:PV} {K:PV→ae→Prop} (ho:cj H q r R) (hrest:∀ x∈rest,Low 0 x) (hx:Low 0 x0)
  (h:ax P gl f (.ptr 0 0::rest) [.cells [.ptr 1 0],.abs R] (fun x H'=>x=x0∧∃ G,H' = .cells [.ptr 1 0] :: .abs R'::G)) (hk:K x0 (H.set r (.abs R'))):ax P gl f (.ptr q 0::rest) H K:=by
 have hq:=(List.getElem?_eq_some_iff.1 ho.1).1
 have hr:=(List.getElem?_eq_some_iff.1 ho.2).1
 have hne:q≠r:=fun e=>by have h1:=ho.1; rw[e,ho.2] at h1; cases h1
 have h1:ax P gl f (.ptr 0 0::rest) [.cells [.ptr 1 0],.abs R] (fun x H'=>x=x0∧H'=[.cells [.ptr 1 0],.abs R']):=by
  refine h.forget fun x H' hh=>?_
  obtain⟨rfl,G,rfl⟩:=hh
  refine⟨[.cells [.ptr 1 0],.abs R'],G,rfl,rfl,hx.up,fun o cs ho'=>?_,rfl,rfl⟩
  have k1:=(List.getElem?_eq_some_iff.1 ho').1
  simp at k1
  have:o=0∨o=1:=by omega
  rcases this with rfl|rfl
  ·cases ho'; exact .inl rfl
  ·cases ho'
 refine aZ hgl (tJ ho) (.cons (.ptr (ρ:=fun o=>if o=0 then q else r) 0 0 (by simp)) (aU.low hrest)) (aL h1 fun x H' e=>?_)
 obtain⟨rfl,rfl⟩:=e
 refine⟨x,H.set r (.abs R'),⟨Nat.le_refl _,by simp,fun o a ho'=>?_,fun o hl hn=>?_⟩,.low hx,hk⟩
 ·have k1:=(List.getElem?_eq_some_iff.1 ho').1
  simp at k1
  have:o=0∨o=1:=by omega
  rcases this with rfl|rfl
  ·cases ho'
   refine⟨.cells [.ptr r 0],?_,.cells (.cons ?_ .nil),fun _=>rfl⟩
   ·simp only[aM,List.length_cons,List.length_nil]
    rw[if_pos (by omega),if_pos trivial,List.getElem?_set_ne (Ne.symm hne)]
    exact ho.1
   ·have:=Ren.ptr (ρ:=aM (fun o=>if o=0 then q else r) 2 H.length) (n:=2) 1 0 (by decide)
    simpa[aM] using this
  ·cases ho'
   refine⟨.abs R',?_,.abs _,fun _=>rfl⟩
   simp only[aM,List.length_cons,List.length_nil]
   rw[if_pos (by omega),if_neg (by decide),List.getElem?_set_self hr]
 ·have:=hn 1 (by simp)
  simp at this
  rw[List.getElem?_set_ne this]
theorem jB {P:Program} {gl:az} (hgl:aO gl) {f:FuncId} {rest:List PV} {H:ae} {q r:Nat} {R:Rep} {x0:PV} (ho:cj H q r R) (hrest:∀ x∈rest,Low 0 x) (hx:Low 0 x0)
  (h:ax P gl f (.ptr 0 0::rest) [.cells [.ptr 1 0],.abs R] (fun x H'=>x=x0∧∃ G,H' = .cells [.ptr 1 0] :: .abs R::G)):ax P gl f (.ptr q 0::rest) H (fun x H'=>x=x0∧H'=H):=
 jR hgl ho hrest hx h ⟨rfl,kQ ho.2⟩
inductive Lid (n:Nat):PV→Prop where
 | low {x:PV} (h:Low 0 x):Lid n x
 | arr (o off len cap:Nat) (h:o<n):Lid n (.arr o off len cap)
 | ptr (o off:Nat) (h:o<n):Lid n (.ptr o off)
theorem Lid.up {n m:Nat} {x:PV} (h:Lid n x) (hm:n≤m):Lid m x:=by
 cases h with
 | low h=>exact .low h
 | arr o off len cap h=>exact .arr _ _ _ _ (by omega)
 | ptr o off h=>exact .ptr _ _ (by omega)
theorem Lid.ren {n:Nat} {x:PV} (h:Lid n x) {ρ:Nat→Nat} (hρ:∀ o,o<n→ρ o=o):Ren ρ n x x:=by
 cases h with
 | low h=>exact .low h
 | arr o off len cap h=>
  have:=Ren.arr (ρ:=ρ) (n:=n) o off len cap h
  rwa [hρ o h] at this
 | ptr o off h=>
  have:=Ren.ptr (ρ:=ρ) (n:=n) o off h
  rwa [hρ o h] at this
theorem gO {n:Nat} {ρ:Nat→Nat} (hρ:∀ o,o<n→ρ o=o):∀ {xs:List PV},(∀ x∈xs,Lid n x)→aU ρ n xs xs
 | [],_=> .nil
 | x::xs,h=> .cons ((h x (by simp)).ren hρ) (gO hρ fun y hy=>h y (by simp[hy]))
def gD (n:Nat) (X:ae):Prop:=∀(o:Nat) cs,X[o]?=some (.cells cs)→∀ x∈cs,Lid n x
theorem CR {n N:Nat} {ρ:Nat→Nat} (hρ:∀ o,o<n→ρ o=o) {X:ae} (h:gD n X) {o:Nat} {a:Ob} (ho:X[o]?=some a) (hN:N=n):dA ρ N a a:=by
 subst hN
 cases a with
 | cells cs=>exact .cells (gO hρ (h o cs ho))
 | tok=>exact .tok
 | dead=>exact .dead _
 | abs r=>exact .abs _
theorem lu {X G:ae} (h:gD X.length X):Sub (fun o=>o) X (X++G):=
 ⟨fun o h=>by rw[List.length_append]; omega,fun _ _ _ _ e=>e,fun o a ho=>⟨a,da ho,CR (fun _ _=>rfl) h ho rfl⟩⟩
theorem fh {X G:ae} {o:Nat} (h:o<X.length):aM (fun o=>o) X.length (X++G).length o=o:=by
 unfold aM; rw[if_pos h]
theorem mG {X X' G:ae} (hl:X'.length=X.length) (h:gD X.length X'):Behind (fun o=>o) X (X++G) X' (X'++G):=by
 refine⟨by omega,by simp[hl],fun o a ho=>?_,fun o h1 h2=>?_⟩
 ·have hlt:=(List.getElem?_eq_some_iff.1 ho).1
  refine⟨a,by rw[fh (by omega)]; exact da ho,CR (n:=X.length) (fun q hq=>fh hq) h ho hl,fun h=>h⟩
 ·rcases Nat.lt_or_ge o X.length with q|q
  ·exact absurd rfl (h2 o q)
  ·rw[List.getElem?_append_right (by omega),List.getElem?_append_right q,hl]
theorem qJ {X X' G:ae} {n:List PV} (hl:X'.length=X.length) (h:gD X.length X') (hn:∀ x∈n,Low 0 x):Behind (fun o=>o) X (X++G) (X'++[.cells n]) (X'++G++[.cells n]):=by
 refine⟨by simp[hl],by simp[hl]; omega,fun o a ho=>?_,fun o h1 h2=>?_⟩
 ·have hlt:=(List.getElem?_eq_some_iff.1 ho).1
  rw[List.length_append,List.length_singleton] at hlt
  rcases Nat.lt_or_ge o X.length with q|q
  ·rw[List.getElem?_append_left (by omega)] at ho
   refine⟨a,by rw[fh q,List.append_assoc]; exact da ho,?_,fun h=>h⟩
   cases a with
   | cells cs=>
    have hh:=h o cs ho
    refine .cells ?_
    have:∀ {xs:List PV},(∀ x∈xs,Lid X.length x)→aU (aM (fun o=>o) X.length (X++G).length) (X'++[Ob.cells n]).length xs xs:=by
     intro xs
     induction xs with
     | nil=>intro _; exact .nil
     | cons x xs ih=>
      intro hx
      refine .cons ?_ (ih fun y hy=>hx y (by simp[hy]))
      have h0:=hx x (by simp)
      cases h0 with
      | low h=>exact .low h
      | arr o off len cap h=>
       have:=Ren.arr (ρ:=aM (fun o=>o) X.length (X++G).length) (n:=(X'++[Ob.cells n]).length) o off len cap (by simp; omega)
       rwa [fh h] at this
      | ptr o off h=>
       have:=Ren.ptr (ρ:=aM (fun o=>o) X.length (X++G).length) (n:=(X'++[Ob.cells n]).length) o off (by simp; omega)
       rwa [fh h] at this
    exact this hh
   | tok=>exact .tok
   | dead=>exact .dead _
   | abs r=>exact .abs _
  ·have e:o=X'.length:=by omega
   subst e
   rw[List.getElem?_append_right (Nat.le_refl _),Nat.sub_self] at ho
   cases ho
   refine⟨.cells n,?_,.cells (aU.low hn),fun h=>h⟩
   have:aM (fun o=>o) X.length (X++G).length X'.length=(X'++G).length:=by unfold aM; rw[if_neg (by omega)]; simp[hl]
   rw[this,List.getElem?_append_right (Nat.le_refl _),Nat.sub_self]; rfl
 ·rcases Nat.lt_or_ge o X.length with q|q
  ·exact absurd rfl (h2 o q)
  ·rw[List.length_append] at h1
   rw[List.getElem?_append_left (by simp; omega),List.getElem?_append_right (by omega),List.getElem?_append_right q,hl]
theorem tV {X X' G:ae} (hl:X'.length=X.length) {n:List PV} {len cap:Nat}:Ren (aM (fun o=>o) X.length (X++G).length) (X'++[Ob.cells n]).length (.arr X.length 0 len cap) (.arr (X.length+G.length) 0 len cap):=by
 have:=Ren.arr (ρ:=aM (fun o=>o) X.length (X++G).length) (n:=(X'++[Ob.cells n]).length) X.length 0 len cap (by simp; omega)
 have e:aM (fun o=>o) X.length (X++G).length X.length=X.length+G.length:=by unfold aM; rw[if_neg (by omega)]; simp
 rwa [e] at this
theorem gz {P:Program} {gl:az} (hgl:aO gl) {f:FuncId} {args:List PV} {X G:ae} {K:PV→ae→Prop} (ha:∀ x∈args,Lid X.length x) (hX:gD X.length X)
  (h:ax P gl f args X (fun x X'=>∃ y H',Behind (fun o=>o) X (X++G) X' H'∧Ren (aM (fun o=>o) X.length (X++G).length) X'.length x y∧K y H')):ax P gl f args (X++G) K:=
 aZ hgl (lu hX) (gO (fun _ _=>rfl) ha) h
theorem jN {P:Program} {gl:az} (hgl:aO gl) {f:FuncId} {args:List PV} {X G:ae} {r:PV} (ha:∀ x∈args,Lid X.length x) (hX:gD X.length X) (hr:Low 0 r)
  (h:ax P gl f args X (fun x H'=>x=r∧H'=X)):ax P gl f args (X++G) (fun x H'=>x=r∧H'=X++G):=
 gz hgl ha hX (aL h fun x H' e=>⟨r,X++G,by rw[e.2]; exact mG rfl hX,by rw[e.1]; exact .low hr,rfl,rfl⟩)
theorem kW {n:Nat} {a b:List PV} (ha:∀ x∈a,Lid n x) (hb:∀ x∈b,Lid n x):gD n [.cells a,.cells b]:=by
 intro o cs ho
 have k1:=(List.getElem?_eq_some_iff.1 ho).1
 simp at k1
 have:o=0∨o=1:=by omega
 rcases this with rfl|rfl
 ·cases ho; exact ha
 ·cases ho; exact hb
theorem Cf {n:Nat} {a:List PV} (ha:∀ x∈a,Lid n x):gD n [.cells a]:=by
 intro o cs ho
 have k1:=(List.getElem?_eq_some_iff.1 ho).1
 simp at k1
 subst k1
 cases ho; exact ha
def rQ (ops:Array Oper) (hn:Oper→Nat) (oc oa:Oper):Bool:=
 (match cl (hn oa) oa.op with|some .p=>true|_=>false) && (match oa.dst with|some d=> !(looks ops oc).contains d && oc.dst != some d|none=>true) && (match oc.dst with|some d=> !(looks ops oa).contains d|none=>true)
def BD (ops:Array Oper) (hn:Oper→Nat) (c:Nat) (A B:List Nat):Bool:=
 let anc:=fG ops.toList
 let L:=A++c::B
 n6 ops && (ops.toList.all fun o=>(cl (hn o) o.op).isSome) && L.isPerm (List.range ops.size) && decide (L.Pairwise fun a b=>L.idxOf a<L.idxOf b) &&
 ((A++B).all fun i=>(A++B).all fun j=> !Nat.blt (L.idxOf j) (L.idxOf i) || (match ops[j]?,ops[i]? with|some oj,some oi=>indep ops hn oj oi || (anc.getD i []).contains j|_,_=>true)) &&
 (B.all fun b=>(anc.getD b []).contains c) &&
 (match ops[c]? with
  | some oc=>oc.guard.isNone && (A.all fun a=>(anc.getD c []).contains a || (match ops[a]? with|some oa=>rQ ops hn oc oa|none=>false))
  | none=>false)
theorem nn {P:Program} {gl:az} {hn:Oper→Nat} {ops:Array Oper}:∀ {is js:List Nat} {e e2:Env} {H H2:ae},Chain P gl hn ops (is++js) e H e2 H2→∃ e1 H1,Chain P gl hn ops is e H e1 H1∧Chain P gl hn ops js e1 H1 e2 H2
 | [],js,e,e2,H,H2,h=>⟨e,H,.nil e H,h⟩
 | i::is,js,e,e2,H,H2,h=>by
  cases h with
  | cons ho h1 hs=>
   obtain⟨e1,H1,k1,k2⟩:=nn hs
   exact⟨e1,H1,.cons ho h1 k1,k2⟩
theorem wE {P:Program} {gl:az} {hn:Oper→Nat} {ops:Array Oper} {is js:List Nat} {e e1 e2:Env} {H H1 H2:ae} (h:Chain P gl hn ops is e H e1 H1) (h':Chain P gl hn ops js e1 H1 e2 H2):Chain P gl hn ops (is++js) e H e2 H2:=by
 induction h with
 | nil=>exact h'
 | cons ho h1 _ ih=>exact .cons ho h1 (ih h')
theorem HB {P:Program} {gl:az} {hn:Oper→Nat} {ops:Array Oper} {o:Oper} {e e1:Env} {H H1:ae} (hc:cl (hn o) o.op=some .p) (h:SD P gl hn ops o e H e1 H1):H1=H∧∀ H2,SD P gl hn ops o e H2 e1 H2:=by
 rcases h with⟨r,rfl,hs,hg⟩|⟨rfl,rfl,h⟩
 ·have h2:=hs.2
  rw[hc] at h2
  exact⟨h2.1,fun H2=> .inl ⟨r,rfl,⟨h2.2 H2,by rw[hc]; exact⟨rfl,h2.2⟩⟩,hg⟩⟩
 ·exact⟨rfl,fun H2=> .inr ⟨rfl,rfl,h⟩⟩
theorem KR {P:Program} {gl:az} {hn:Oper→Nat} {ops:Array Oper} {o:Oper} {e e1:Env} {H H1:ae} (h:SD P gl hn ops o e H e1 H1):∃ r,e1=upd e o.dst r:=by
 rcases h with⟨r,rfl,_⟩|⟨rfl,_⟩
 ·exact⟨r,rfl⟩
 ·exact⟨_,rfl⟩
theorem nx {P:Program} {gl:az} {hn:Oper→Nat} {ops:Array Oper} {oc:Oper}:∀ {is:List Nat} {e e2:Env} {H H2:ae},(∀ i∈is,∀ oa,ops[i]?=some oa→rQ ops hn oc oa=true)→Chain P gl hn ops is e H e2 H2→
  H2=H∧(∀ y∈oc.op.operands,ev gl e2 y=ev gl e y)∧∀ x H',Chain P gl hn ops is (upd e oc.dst x) H' (upd e2 oc.dst x) H'
 | [],e,e2,H,H2,_,h=>by cases h; exact⟨rfl,fun _ _=>rfl,fun x H'=> .nil _ _⟩
 | i::is,e,e2,H,H2,hp,h=>by
  cases h with
  | cons ho h1 hs=>
   rename_i o e1 H1
   have ha:=hp i (by simp) o ho
   simp only[rQ,Bool.and_eq_true] at ha
   obtain⟨⟨a1,a2⟩,a3⟩:=ha
   have hc:cl (hn o) o.op=some .p:=by split at a1; assumption; cases a1
   obtain⟨rfl,hall⟩:=HB hc h1
   obtain⟨k1,k2,k3⟩:=nx (fun j hj=>hp j (by simp[hj])) hs
   refine⟨k1,fun y hy=>?_,fun x H'=> .cons ho ?_ (k3 x H')⟩
   ·rw[k2 y hy]
    obtain⟨r,rfl⟩:=KR h1
    exact oC (ops:=ops) (o:=oc) (fun t ht=>by rw[ht] at a2; simp only[Bool.and_eq_true] at a2; simpa using a2.1) y hy
   ·exact xG (fun t ht=>by rw[ht] at a3; simpa using a3) (fun t ht e=>by
     rw[e] at a2
     simp only[Bool.and_eq_true,bne_iff_ne,ne_eq] at a2
     exact a2.2 ht) (hall H')
theorem wH [Dfr] {P:Program} {gl:az} {hn:Oper→Nat} {n:Nat} {ops:Array Oper} (hd:ops.toList.all (lz n)=true) {Q:Exit→Act→World→Prop} {js:List Nat} {e2:Env} {H2:ae}:∀(is:List Nat) (g:Gh) (e:Env) (H:ae) (a:Act) (w:World),
  St gl n g e H a w→Chain P gl hn ops is e H e2 H2→(∀ g' a' w',St gl n g' e2 H2 a' w'→Ext g H w g' H2 w'→wpOps P ops Q js a' w')→
  wpOps P ops Q (is++js) a w:=by
 intro is
 induction is with
 | nil=>
  intro g e H a w hst h hk
  cases h
  exact hk g a w hst (.refl _ _ _)
 | cons i is ih=>
  intro g e H a w hst h hk
  cases h with
  | cons ho h1 hs=>
   rename_i o e1 H1
   have hmem:o∈ops.toList:=by
    obtain⟨hlt,he⟩:=Array.getElem?_eq_some_iff.1 ho
    rw[← he]; exact Array.getElem_mem_toList hlt
   have hdo:∀ t,o.dst=some t→t<n:=by
    intro t ht
    have:=List.all_eq_true.1 hd o hmem
    simpa[lz,ht] using this
   rw[List.cons_append]
   unfold wpOps
   rw[ho]
   simp only
   rcases h1 with⟨r,rfl,hst1,hg⟩|⟨rfl,rfl,j,want,d,hg,hdd,hb⟩
   ·have hw:Region.wanted o (yielded ops a.tmps)=true:=by
     unfold Region.wanted
     split at hg
     ·rename_i hgn; rw[hgn]
     ·rename_i j want hgs
      obtain⟨d,hdd,hb⟩:=hg
      rw[hgs]
      simp[iE hst hdd hb]
    rw[if_pos hw]
    left
    have hno:=gT hst.sim hst.glob (o:=o) (a:=a) (fun x=>hst.env.ev hst.glob x) hst1.1
    have cont:∀(g1:Gh) (H1':ae) (w1:World) (x:PV) (v:Value),Sim g1 H1' w1→Ext g H w g1 H1' w1→Rel g1 w1 x v→(x=r∧H1'=H1)→
      wpOps P ops Q (is++js) (a.put o.dst v) w1:=by
     rintro g1 H1' w1 x v k1 k2 k3 ⟨rfl,rfl⟩
     exact ih g1 (upd e o.dst x) H1' (a.put o.dst v) w1 (hst.next k1 k2 k3 o.dst hdo) hs fun g' a' w' j1 j2=>hk g' a' w' j1 (k2.trans j2)
    unfold Oper.wp
    rcases hno with⟨v,w',g',H',x,h1,h2,h3,h4,h5⟩|⟨w',g',H',h1,h2,h3,h4⟩|⟨f,vs,h1,h2⟩
    ·rw[h1]; exact cont g' H' w' x v h2 h3 h4 h5
    ·rw[h1]; exact cont g' H' w' (.tup []) undef h2 h3 (dR g' w') h4
    ·rw[h1]
     refine h2.mono ?_
     rintro ex w' ⟨v,g',H',x,rfl,k1,k2,k3,k4⟩
     exact cont g' H' w' x v k1 k2 k3 k4
   ·have hw:¬ Region.wanted o (yielded ops a.tmps)=true:=by
     unfold Region.wanted
     rw[hg]
     rcases hb with hb|hb
     ·simp[iE hst hdd hb]
     ·simp[g6 hst hdd hb]
    rw[if_neg hw]
    exact ih g (upd e o.dst (.tup [])) _ (a.put o.dst undef) w (hst.next hst.sim (.refl _ _ _) (dR g w) o.dst hdo) hs hk
theorem H6 [Dfr] {P:Program} {gl:az} {m:Nat} {n:Nat} {ops:Array Oper} (hd:ops.toList.all (lz n)=true) {Q:Exit→Act→World→Prop} {js:List Nat} {c:Nat} {o:Oper} (ho:ops[c]?=some o) (hg:o.guard=none)
  {g:Gh} {e:Env} {H:ae} {a:Act} {w:World} (hst:St gl n g e H a w) {K:PV→ae→Prop} (h:opw P gl o.op m (ev gl e) H K)
  (hk:∀ x H' g' a' w',K x H'→St gl n g' (upd e o.dst x) H' a' w'→Ext g H w g' H' w'→wpOps P ops Q js a' w'):wpOps P ops Q (c::js) a w:=by
 have hmem:o∈ops.toList:=by
  obtain⟨hlt,he⟩:=Array.getElem?_eq_some_iff.1 ho
  rw[← he]; exact Array.getElem_mem_toList hlt
 have hdo:∀ t,o.dst=some t→t<n:=by
  intro t ht
  have:=List.all_eq_true.1 hd o hmem
  simpa[lz,ht] using this
 unfold wpOps
 rw[ho]
 simp only
 rw[if_pos (by unfold Region.wanted; rw[hg])]
 left
 have hno:=gT hst.sim hst.glob (o:=o) (a:=a) (fun x=>hst.env.ev hst.glob x) h
 have cont:∀(g1:Gh) (H1':ae) (w1:World) (x:PV) (v:Value),Sim g1 H1' w1→Ext g H w g1 H1' w1→Rel g1 w1 x v→K x H1'→wpOps P ops Q js (a.put o.dst v) w1:=
  fun g1 H1' w1 x v k1 k2 k3 k4=>hk x H1' g1 _ w1 k4 (hst.next k1 k2 k3 o.dst hdo) k2
 unfold Oper.wp
 rcases hno with⟨v,w',g',H',x,h1,h2,h3,h4,h5⟩|⟨w',g',H',h1,h2,h3,h4⟩|⟨f,vs,h1,h2⟩
 ·rw[h1]; exact cont g' H' w' x v h2 h3 h4 h5
 ·rw[h1]; exact cont g' H' w' (.tup []) undef h2 h3 (dR g' w') h4
 ·rw[h1]
  refine h2.mono ?_
  rintro ex w' ⟨v,g',H',x,rfl,k1,k2,k3,k4⟩
  exact cont g' H' w' x v k1 k2 k3 k4
def MS (B:Bool→Prop→Prop→Prop) (P:Program) (gl:az) (T:Tab) (hn:Oper→Nat) (ops:Array Oper) (c:Nat) (A Bs:List Nat) (e:Env) (H:ae) (Q:Env→ae→Prop):Prop:=
 iN B P gl T hn true ops (eM ops A) e H fun e1 H1=>match ops[c]? with
  | some o=>match o.op with
   | .call cc=>qu B P T cc (hn o) false (ev gl e1) H1 fun x H'=>iN B P gl T hn true ops (eM ops Bs) (upd e1 o.dst x) H' Q
   | _=>False
  | none=>False
theorem J6 [Dfr] {P:Program} {gl:az} {n:Nat} {T:Tab} (hT:aW P gl T) {hn:Oper→Nat} {id:Nat} {ops:Array Oper} {Q:Ex→Env→ae→Prop} {e:Env} {H:ae} (c:Nat) (A B:List Nat)
  (hok:BD ops hn c A B=true) (h:MS br P gl T hn ops c A B e H (Q .normal)):AW P gl n (.region id ops true) Q e H:=by
 intro hd g a w hst
 simp only[BD,Bool.and_eq_true,decide_eq_true_eq] at hok
 obtain⟨⟨⟨⟨⟨⟨h1,h2⟩,h3⟩,h4⟩,h5⟩,h6⟩,h7⟩:=hok
 have hcl:∀ o∈ops.toList,(cl (hn o) o.op).isSome=true:=List.all_eq_true.1 h2
 have hperm:(A++c::B).Perm (List.range ops.size):=List.isPerm_iff.1 h3
 have ndL:(A++c::B).Nodup:=hperm.nodup_iff.2 List.nodup_range
 have hlt:∀ i∈A++c::B,i<ops.size:=fun i hi=>by simpa using hperm.subset hi
 generalize hrk:(fun i=>(A++c::B).idxOf i)=rk at *
 have h4':(A++c::B).Pairwise (fun a b=>rk a<rk b):=by rw[← hrk]; exact h4
 cases hoc:ops[c]? with
 | none=>rw[hoc] at h7; cases h7
 | some oc=>
 rw[hoc] at h7
 simp only[Bool.and_eq_true] at h7
 obtain⟨h7,h8⟩:=h7
 have hgd:oc.guard=none:=by simpa using h7
 have hr:=dh hT (eM ops A) e H h
 obtain⟨eA,HA,chA,hK⟩:=iA hcl A (eM ops A) e H (gr fun i hi=>hlt i (by simp[hi])) hr
 rw[hoc] at hK
 simp only at hK
 cases hop:oc.op<;>rw[hop] at hK<;>try (exact hK.elim)
 rename_i cc
 simp only at hK
 have hcall:opw P gl oc.op (hn oc) (ev gl eA) HA (fun x H'=>∃ e2 H2,Chain P gl hn ops B (upd eA oc.dst x) H' e2 H2∧Q .normal e2 H2):=by
  rw[hop]
  refine lU ((nA hT hK).1 rfl) fun x H' hx=>?_
  exact iA hcl B (eM ops B) _ _ (gr fun i hi=>hlt i (by simp[hi])) (dh hT _ _ _ hx)
 refine wp_region_draw fun t=>?_
 have hst':St gl n g e H a w.drew:=⟨hst.sim.drew,hst.glob.mono (bO.drew g w),hst.env.mono (bO.drew g w),hst.dfr⟩
 obtain⟨hp,hanc⟩:=kV h1 (P.follows .mixedOrders) t
 generalize Region.schedule (P.follows .mixedOrders) ops t=σ at hp hanc
 have hσ:σ.Perm (A++c::B):=hp.trans hperm.symm
 have ndσ:σ.Nodup:=hσ.nodup_iff.2 ndL
 have hcσ:c∈σ:=hσ.symm.subset (by simp)
 obtain⟨σ1,σ2,rfl⟩:=List.append_of_mem hcσ
 obtain⟨an1,an2,an3⟩:=List.pairwise_append.1 hanc
 obtain⟨an4,an5⟩:=List.pairwise_cons.1 an2
 obtain⟨nd1,nd2,nd3⟩:=List.pairwise_append.1 ndσ
 obtain⟨nd4,nd5⟩:=List.pairwise_cons.1 nd2
 have hcA:c∉A:=fun hc=>(List.pairwise_append.1 ndL).2.2 c hc c (by simp) rfl
 have hs1:∀ i∈σ1,i∈A:=by
  intro i hi
  have hm:i∈A++c::B:=hσ.subset (by simp[hi])
  rcases List.mem_append.1 hm with hm|hm
  ·exact hm
  ·rcases List.mem_cons.1 hm with rfl|hm
   ·exact absurd rfl (nd3 i hi i (by simp))
   ·exfalso
    have k1:=List.all_eq_true.1 h6 i hm
    have k2:=an3 i hi c (by simp)
    rw[k1] at k2; cases k2
 have hpair:∀ i j,i∈A++B→j∈A++B→((fG ops.toList).getD i []).contains j=false→rk j<rk i→∀ oj oi,ops[j]?=some oj→ops[i]?=some oi→indep ops hn oj oi=true:=by
  intro i j hi hj hno hlt2 oj oi hoj hoi
  have k:=List.all_eq_true.1 (List.all_eq_true.1 h5 i hi) j hj
  rw[hoj,hoi] at k
  have hbl:Nat.blt ((A++c::B).idxOf j) ((A++c::B).idxOf i)=true:=by
   rw[Nat.blt_eq]
   rw[← hrk] at hlt2
   exact hlt2
  rw[hbl,hno] at k
  simpa using k
 let p:Nat→Bool:=fun i=>decide (i∈σ2)
 have hP:(A.filter p).Perm (A.filter p):=List.Perm.refl _
 have ndA:A.Nodup:=(List.pairwise_append.1 ndL).1
 have hperm1:(σ1++A.filter p).Perm A:=by
  refine(List.perm_ext_iff_of_nodup ?_ ndA).2 fun x=>?_
  ·refine List.pairwise_append.2 ⟨nd1,List.Pairwise.filter _ ndA,fun x hx y hy=>?_⟩
   have:=(List.mem_filter.1 hy).2
   exact nd3 x hx y (by simp[p] at this; simp[this])
  ·rw[List.mem_append,List.mem_filter]
   constructor
   ·rintro (hx|⟨hx,_⟩)
    ·exact hs1 x hx
    ·exact hx
   ·intro hx
    have hm:x∈σ1++c::σ2:=hσ.symm.subset (by simp[hx])
    rcases List.mem_append.1 hm with hm|hm
    ·exact .inl hm
    ·rcases List.mem_cons.1 hm with hm|hm
     ·exact absurd (hm▸hx) hcA
     ·exact .inr ⟨hx,by simp[p,hm]⟩
 have hperm2:σ2.Perm (A.filter p++B):=by
  have k1:(σ1++c::σ2).Perm (σ1++(A.filter p++c::B)):=by
   rw[← List.append_assoc]
   exact hσ.trans (List.Perm.append_right _ hperm1.symm)
  have k2:=(List.perm_append_left_iff σ1).1 k1
  exact(List.perm_cons c).1 (k2.trans List.perm_middle)
 have sA:A.Pairwise (fun a b=>rk a<rk b):=(List.pairwise_append.1 h4').1
 have sPB:(A.filter p++B).Pairwise (fun a b=>rk a<rk b):=h4'.sublist (List.Sublist.append List.filter_sublist (List.sublist_cons_self c B))
 have inAB:∀ i∈σ2,i∈A++B:=fun i hi=>by
  have:=hperm2.subset hi
  rcases List.mem_append.1 this with h|h
  ·exact List.mem_append_left _ (List.mem_filter.1 h).1
  ·exact List.mem_append_right _ h
 have R1:(σ1++A.filter p).Pairwise (xf rk ops hn):=by
  refine List.pairwise_append.2 ⟨?_,?_,?_⟩
  ·refine List.Pairwise.imp_of_mem (fun {i j} hi hj hno=>?_) an1
   exact fun hr=>hpair i j (List.mem_append_left _ (hs1 i hi)) (List.mem_append_left _ (hs1 j hj)) hno hr
  ·refine List.Pairwise.imp (fun {i j} hij hr=>?_) (sA.sublist List.filter_sublist)
   exact absurd hr (Nat.not_lt.2 (Nat.le_of_lt hij))
  ·intro i hi j hj hr
   have hj2:j∈σ2:=by have:=(List.mem_filter.1 hj).2; simpa[p] using this
   exact hpair i j (List.mem_append_left _ (hs1 i hi)) (List.mem_append_left _ (List.mem_filter.1 hj).1) (an3 i hi j (by simp[hj2])) hr
 have R2:σ2.Pairwise (xf rk ops hn):=by
  refine List.Pairwise.imp_of_mem (fun {i j} hi hj hno=>?_) an5
  exact fun hr=>hpair i j (inAB i hi) (inAB j hj) hno hr
 have ch1:=jo rk (σ1++A.filter p) A e H eA HA sA hperm1 R1 chA
 obtain⟨e1,H1,c1,c2⟩:=nn ch1
 have hap:∀ i∈A.filter p,∀ oa,ops[i]?=some oa→rQ ops hn oc oa=true:=by
  intro i hi oa hoa
  have hi2:i∈σ2:=by have:=(List.mem_filter.1 hi).2; simpa[p] using this
  have k:=List.all_eq_true.1 h8 i (List.mem_filter.1 hi).1
  rw[an4 i hi2,hoa] at k
  simpa using k
 obtain⟨rfl,hev,hch⟩:=nx hap c2
 have hcall1:=mN (ρ':=ev gl e1) hev hcall
 refine wH hd σ1 g e H a w.drew hst' c1 fun g1 a1 w1 s1 x1=>?_
 refine H6 hd hoc hgd s1 hcall1 fun x H' g2 a2 w2 hx s2 x2=>?_
 obtain⟨e2,H2,cB,hq⟩:=hx
 have ch2:=jo rk σ2 (A.filter p++B) _ _ _ _ sPB hperm2 R2 (wE (hch x H') cB)
 have:=jh hd σ2 g2 _ _ a2 w2 s2 ch2
 refine fe _ ?_ _ _ this
 rintro ex a' w' ⟨g',rfl,k1,k2⟩
 exact⟨.normal,g',e2,H2,trivial,k1,(Ext.drew g H w).trans (x1.trans (x2.trans k2)),hq⟩
def Me (B:Bool→Prop→Prop→Prop) (P:Program) (gl:az) (T:Tab) (hn:Oper→Nat) (cd:Code) (c:Nat) (A Bs:List Nat):LSp:=fun e H Q=>MS B P gl T hn (opsOf cd) c A Bs e H (Q .normal)
theorem wU [Dfr] {P:Program} {gl:az} {n:Nat} {T:Tab} (hT:aW P gl T) {hn:Oper→Nat} {cd:Code} (hd:mO cd=true) {c:Nat} {A B:List Nat} (hok:BD (opsOf cd) hn c A B=true):
  ∀ e H Q,Me br P gl T hn cd c A B e H Q→AW P gl n cd Q e H:=by
 intro e H Q h
 cases cd<;>try (simp only[mO] at hd; cases hd; done)
 rename_i id ops d
 have hd:d=true:=hd
 subst hd
 exact J6 hT c A B hok h
theorem vM {P:Program} {gl:az} (hgl:aO gl) {f:FuncId} {args:List PV} {H:ae} {R:Rep} (hargs:∀ x∈args,Low 0 x)
  (h:ax P gl f args [] (fun x H'=>x = .ptr 1 0∧H'=[.abs R,.cells [.ptr 0 0]])):ax P gl f args H (fun x H'=>x = .ptr (H.length+1) 0∧H'=H++[.abs R,.cells [.ptr H.length 0]]):=by
 have hsub:Sub (fun _=>0) [] H:=⟨fun o h=>absurd h (Nat.not_lt_zero _),fun o _ h=>absurd h (Nat.not_lt_zero _),fun o a h=>by simp at h⟩
 refine aZ hgl hsub (aU.low hargs) (aL h fun x H' e=>?_)
 obtain⟨rfl,rfl⟩:=e
 refine⟨.ptr (H.length+1) 0,H++[.abs R,.cells [.ptr H.length 0]],⟨Nat.zero_le _,by simp,fun o a ho'=>?_,fun o hl _=>?_⟩,?_,rfl,rfl⟩
 ·have k1:=(List.getElem?_eq_some_iff.1 ho').1
  simp at k1
  have:o=0∨o=1:=by omega
  rcases this with rfl|rfl
  ·cases ho'
   exact⟨.abs R,by simp[aM],.abs _,fun _=>rfl⟩
  ·cases ho'
   refine⟨.cells [.ptr H.length 0],by simp[aM],.cells (.cons ?_ .nil),fun _=>rfl⟩
   have:=Ren.ptr (ρ:=aM (fun _=>0) ([]:ae).length H.length) (n:=2) 0 0 (by decide)
   simpa[aM] using this
 ·rw[List.getElem?_append_left hl]
 ·have:=Ren.ptr (ρ:=aM (fun _=>0) ([]:ae).length H.length) (n:=[Ob.abs R,Ob.cells [.ptr 0 0]].length) 1 0 (by simp)
  simpa[aM] using this
theorem bn {n:Nat} {a b:PV} (ha:Low n a) (hb:Low n b):∀ x∈[a,b],Low n x:=by
 intro x hx; simp only[List.mem_cons,List.not_mem_nil,or_false] at hx; rcases hx with rfl|rfl<;>assumption
theorem dO {n:Nat} {a b c:PV} (ha:Low n a) (hb:Low n b) (hc:Low n c):∀ x∈[a,b,c],Low n x:=by
 intro x hx; simp only[List.mem_cons,List.not_mem_nil,or_false] at hx; rcases hx with rfl|rfl|rfl<;>assumption
theorem lR {n:Nat} {a b c d:PV} (ha:Low n a) (hb:Low n b) (hc:Low n c) (hd:Low n d):∀ x∈[a,b,c,d],Low n x:=by
 intro x hx; simp only[List.mem_cons,List.not_mem_nil,or_false] at hx; rcases hx with rfl|rfl|rfl|rfl<;>assumption
theorem bu {n:Nat} {a:PV} (ha:Low n a):∀ x∈[a],Low n x:=by
 intro x hx; rcases List.mem_singleton.1 hx with rfl; assumption
theorem Fj {n:Nat}:∀ x∈([]:List PV),Low n x:=fun _ h=>nomatch h
theorem aF {α:Type} {f:α→List PV} {sz by_:Nat} (hf:∀ a,(f a).length=sz) (l:List α) (a:α) (hb:(l.length+1)*by_≤140737488355328):aG (l.map f) [f a] sz by_:=
 ⟨b5 hf l,(by intro e he; rcases List.mem_singleton.1 he with rfl; exact hf a),by rw[List.length_map]; exact hb⟩
theorem one_row {α:Type} {f:α→List PV} (h1:∀ a,∀ y∈f a,y.one=true) (a:α):(f a).all PV.one=true∧[f a]≠[]:=⟨List.all_eq_true.2 (h1 a),List.cons_ne_nil _ _⟩
theorem aV {α σ:Type} {f:α→List PV} {acc:σ→List α} {I:σ→Prop} {m:σ→Nat} {Q:Ex→Env→ae→Prop} {B:ae} {slots:List Nat} {V:PV→σ→List PV} {s:σ} (s':σ) {L:List α} {vs:List PV} {H':ae} (h1:m s'<m s) (h2:I s') (hacc:acc s'=L) (hne:L≠[])
  (X:ae) (k:Nat) (hX:H'=B++X) (hk:(B++X)[k]?=some .tok) (hle:B.length≤k) (hv:vs=V (.list (L.map f) (.tok k)) s'):ko f acc I m Q B slots V s .normal vs H':=
 ⟨s',h1,h2,.inr ⟨by rw[hacc]; exact hne,X,k,hX,hk,hle,by rw[hacc]; exact hv⟩⟩
theorem ie {α σ:Type} {f:α→List PV} {acc:σ→List α} {I:σ→Prop} {m:σ→Nat} {Q:Ex→Env→ae→Prop} {B:ae} {slots:List Nat} {V:PV→σ→List PV} {s:σ} (s':σ) {vs:List PV} {H':ae} (h1:m s'<m s) (h2:I s') (hacc:acc s'=[])
  (X:ae) (hX:H'=B++X) (hv:vs=V (.list [] .exact) s'):ko f acc I m Q B slots V s .normal vs H':=
 ⟨s',h1,h2,.inl ⟨hacc,X,hX,hv⟩⟩
theorem ph {α σ:Type} {f:α→List PV} {acc:σ→List α} {I:σ→Prop} {m:σ→Nat} {Q:Ex→Env→ae→Prop} {B:ae} {slots:List Nat} {V:PV→σ→List PV} {s:σ} {j:Nat} {vs:List PV} {H':ae} (h:Q (.exit j) (ak slots vs) H'):ko f acc I m Q B slots V s (.exit j) vs H':=
 ⟨vs,H',.refl _,.refl _,h⟩
theorem bN {α σ:Type} {f:α→List PV} {acc:σ→List α} {I:σ→Prop} {m:σ→Nat} {Q:Ex→Env→ae→Prop} {B:ae} {slots:List Nat} {V:PV→σ→List PV} {s:σ} {j:Nat} {vs vs2:List PV} {H' H2:ae} (hw:WkL vs vs2) (hp:Pad H' H2) (h:Q (.exit j) (ak slots vs2) H2):ko f acc I m Q B slots V s (.exit j) vs H':=
 ⟨vs2,H2,hw,hp,h⟩
theorem gw {α:Type} {p:α→Bool} {l:List α} {i:Nat} (d:α) (h:i<l.length):(l.take (i+1)).filter p=(l.take i).filter p++(if p (l.getD i d)=true then [l.getD i d] else []):=by
 rw[aI d h,List.filter_append]
 congr 1
 by_cases c:p (l.getD i d)=true
 ·rw[if_pos c,List.filter_cons_of_pos c]; rfl
 ·rw[if_neg c,List.filter_cons_of_neg c]; rfl
theorem fP {α:Type} (p:α→Bool) (l:List α) (i:Nat):((l.take i).filter p).length≤i:=
 Nat.le_trans (List.length_filter_le _ _) (by rw[List.length_take]; omega)
theorem jP {α:Type} (l:List α) (a:α):l++[a]≠[]:=by simp
theorem bp {α:Type} {f:α→List PV} {n:Nat} (hf:∀ a,∀ x∈f a,Low n x) (l:List α):Low n (.list (l.map f) .no):=aH NT.no (bl fun a _=>hf a)
theorem vK {n:Nat}:∀(o:Nat) cs,([]:ae)[o]?=some (.cells cs)→∀ x∈cs,Low n x:=fun o cs h=>by simp at h
def MR (B:ae):Prop:=∀(o:Nat) cs,B[o]?=some (.cells cs)→∀ x∈cs,Low B.length x
theorem lM {B:ae} (h:∀ ob∈B,match ob with| .cells cs=>∀ x∈cs,Low B.length x|_=>True):MR B:=by
 intro o cs ho
 have:=h _ (List.mem_of_getElem? ho)
 exact this
theorem eF {n0:Nat} {vs:List PV} {X G:ae} (hX:gD X.length X) (hv:∀ v∈vs,Lid X.length v) (hn:n0≤X.length):ef n0 vs (X++G) vs X:=
 ⟨vs,X++G,fun o=>o,.refl _,.refl _,lu hX,hn,fun _ _=>rfl,gO (fun _ _=>rfl) hv⟩
def Jb (H:ae) (q:Nat):Option Nat:=match H[q]? with
 | some (.cells [.ptr r 0])=>some r
 | _=>none
theorem over_row {α:Type} {f:α→List PV} {sz:Nat} (h:∀ a,(f a).length=sz) {l:List α} {J:List PV} {k:Nat} {a:α} (d:α) (hk:k<l.length):over ((l.map f).flatten++J) (k*sz) (f a)=((l.set k a).map f).flatten++J:=by
 have e1:(l.map f).flatten++J=((l.take k).map f).flatten++f (l.getD k d)++(((l.drop (k+1)).map f).flatten++J):=by
  rw[fY l k,List.drop_eq_getElem_cons hk,List.map_cons,List.flatten_cons,List.getD_eq_getElem?_getD,List.getElem?_eq_getElem hk]
  simp
 rw[ct e1 (by rw[bA h,List.length_take,Nat.min_eq_left (by omega)]) (by rw[h,h]),List.set_eq_take_append_cons_drop,if_pos hk]
 simp
def u1 (n:Int):List PV:=[.int .u32 n]
theorem dc (n:Int):(u1 n).length=1:=rfl
theorem bL {k:Nat} (n:Int):∀ y∈u1 n,Low k y:=bu (.int _ _)
theorem dm (n:Int):∀ y∈u1 n,y.one=true:=by intro y hy; rcases List.mem_singleton.1 hy with rfl; rfl
theorem dM (l:List Int) (i:Nat):InL (l.map u1) 1 (i:Int)=(i<l.length):=dZ dc (by decide) l i
theorem xP (l:List Int):(l.map u1).flatten.length=l.length:=by rw[bA dc,Nat.mul_one]
theorem Gq {n:Nat} (l:List Int) {J:List PV} (h:∀ y∈J,Low n y):∀ y∈(l.map u1).flatten++J,Low n y:=fz (fun a _=>bL a) h
theorem mP {n m:Nat} {ρ:Nat→Nat} (hρ:∀ o,o<n→ρ o=o) (hm:n≤m):∀ {xs:List PV},(∀ x∈xs,Lid n x)→aU ρ m xs xs
 | [],_=> .nil
 | x::xs,h=>by
  refine .cons ?_ (mP hρ hm fun y hy=>h y (by simp[hy]))
  have hx:=h x (by simp)
  cases hx with
  | low hx=>exact .low hx
  | arr o off len cap hx=>
   have:=Ren.arr (ρ:=ρ) (n:=m) o off len cap (by omega)
   rwa [hρ o hx] at this
  | ptr o off hx=>
   have:=Ren.ptr (ρ:=ρ) (n:=m) o off (by omega)
   rwa [hρ o hx] at this
theorem mS {B X:ae} {vs' vs:List PV} (hB:gD B.length B) (hw:WkL vs' vs) (hv:∀ v∈vs,Lid B.length v) {n0:Nat} (hn:n0≤B.length):ef n0 vs' (B++X) vs B:=
 ⟨vs,B++X,fun o=>o,hw,.refl _,lu hB,hn,fun _ _=>rfl,gO (fun _ _=>rfl) hv⟩
theorem wZ {B B' X:ae} {vs' vs:List PV} (hB:gD B.length B) (hw:WkL vs' vs) (hh:WkH (B'++X) (B++X)) (hv:∀ v∈vs,Lid B.length v) {n0:Nat} (hn:n0≤B.length):ef n0 vs' (B'++X) vs B:=
 ⟨vs,B++X,fun o=>o,hw,hh,lu hB,hn,fun _ _=>rfl,gO (fun _ _=>rfl) hv⟩
inductive RA (k k':Nat):PV→PV→Prop where
 | low {x:PV} (h:Low 0 x):RA k k' x x
 | arr (off len cap:Nat):RA k k' (.arr k off len cap) (.arr k' off len cap)
 | agg (cs cs':List PV) (hl:cs.length=cs'.length) (h:∀(q:Nat) (x y:PV),cs[q]?=some x→cs'[q]?=some y→RA k k' x y):RA k k' (.agg cs) (.agg cs')
 | tup (cs cs':List PV) (hl:cs.length=cs'.length) (h:∀(q:Nat) (x y:PV),cs[q]?=some x→cs'[q]?=some y→RA k k' x y):RA k k' (.tup cs) (.tup cs')
inductive RAL (k k':Nat):List PV→List PV→Prop where
 | nil:RAL k k' [] []
 | cons {x y:PV} {xs ys:List PV} (h:RA k k' x y) (hs:RAL k k' xs ys):RAL k k' (x::xs) (y::ys)
theorem RAL.length {k k':Nat} {xs ys:List PV} (h:RAL k k' xs ys):xs.length=ys.length:=by
 induction h with
 | nil=>rfl
 | cons _ _ ih=>simp[ih]
theorem RAL.get {k k':Nat} {xs ys:List PV} (h:RAL k k' xs ys):∀(q:Nat) (x y:PV),xs[q]?=some x→ys[q]?=some y→RA k k' x y:=by
 induction h with
 | nil=>intro q x y h; simp at h
 | cons h _ ih=>
  intro q x y h1 h2
  cases q with
  | zero=>simp at h1 h2; subst h1; subst h2; exact h
  | succ q=>exact ih q x y (by simpa using h1) (by simpa using h2)
theorem RA.iM {k k':Nat} {xs ys:List PV} (h:RAL k k' xs ys):RA k k' (.agg xs) (.agg ys):= .agg _ _ h.length h.get
theorem RA.ren {k k':Nat} {x y:PV} (hr:RA k k' x y) {ρ:Nat→Nat} {n:Nat} (hk:k<n) (hρ:ρ k=k'):Ren ρ n x y:=by
 induction hr with
 | low h=>exact .low h
 | arr off len cap=>rw[← hρ]; exact .arr _ _ _ _ hk
 | agg cs cs' hl _ ih=>exact .agg _ _ hl ih
 | tup cs cs' hl _ ih=>exact .tup _ _ hl ih
theorem Ab {P:Program} {gl:az} (hgl:aO gl) {f:FuncId} {pre cs:List PV} {H:ae} {b:Nat} {r:PV} (hc:iz H b cs) (hcs:∀ x∈cs,Low 0 x) (hp:∀ x∈pre,Low 0 x) (hr:Low 0 r)
  (h:ax P gl f (pre++[.ptr 0 0]) [.cells cs] (fun x H'=>x=r∧∃ G,H'=[.cells cs]++G)):ax P gl f (pre++[.ptr b 0]) H (fun x H'=>x=r∧H'=H):=by
 have hb:b<H.length:=(List.getElem?_eq_some_iff.1 hc).1
 have h1:ax P gl f (pre++[.ptr 0 0]) [.cells cs] (fun x H'=>x=r∧H'=[.cells cs]):=ax.same hr.up h
 have hsub:Sub (fun _=>b) [.cells cs] H:=by
  refine⟨fun _ _=>hb,fun a c h1 h2 _=>?_,fun j a h1=>?_⟩
  ·simp at h1 h2; omega
  ·have e1:=(List.getElem?_eq_some_iff.1 h1).1
   have:j=0:=by simpa using e1
   subst this; cases h1
   exact⟨_,hc,.cells (aU.low hcs)⟩
 refine aZ hgl hsub ((aU.low hp).append (.cons (.ptr (ρ:=fun _=>b) 0 0 Nat.zero_lt_one) .nil)) (aL h1 fun x H' e=>?_)
 obtain⟨rfl,rfl⟩:=e
 refine⟨x,H,⟨Nat.le_refl _,by simp,fun j a h1=>?_,fun o' _ _=>rfl⟩,.low hr,rfl,rfl⟩
 have e1:=(List.getElem?_eq_some_iff.1 h1).1
 have:j=0:=by simpa using e1
 subst this; cases h1
 exact⟨.cells cs,hc,.cells (aU.low hcs),fun _=>rfl⟩
inductive RF (o:Nat) (es:List (List PV)):PV→PV→Prop where
 | low {x:PV} (h:Low 0 x):RF o es x x
 | arr (cap:Nat) (hc:es.length≤cap):RF o es (.arr o 0 es.length cap) (.list es .no)
 | agg (cs cs':List PV) (hl:cs.length=cs'.length) (h:∀(q:Nat) (x y:PV),cs[q]?=some x→cs'[q]?=some y→RF o es x y):RF o es (.agg cs) (.agg cs')
 | tup (cs cs':List PV) (hl:cs.length=cs'.length) (h:∀(q:Nat) (x y:PV),cs[q]?=some x→cs'[q]?=some y→RF o es x y):RF o es (.tup cs) (.tup cs')
inductive RFL (o:Nat) (es:List (List PV)):List PV→List PV→Prop where
 | nil:RFL o es [] []
 | cons {x y:PV} {xs ys:List PV} (h:RF o es x y) (hs:RFL o es xs ys):RFL o es (x::xs) (y::ys)
theorem BI {P:Program} {gl:az} (hgl:aO gl) {f:FuncId} {args args':List PV} {K:PV→ae→Prop} {H:ae} (V:PV→PV) (hw:WkL args args') (ha:∀ x∈args',Low 0 x) (hV:∀(k k' len cap:Nat),RA k k' (V (.arr k 0 len cap)) (V (.arr k' 0 len cap)))
  (h:ax P gl f args' [] (fun x H'=>∃(k len cap:Nat) (cs:List PV),x=V (.arr k 0 len cap)∧H'[k]?=some (.cells cs)∧(∀ x∈cs,Low 0 x)∧K (V (.arr H.length 0 len cap)) (H++[.cells cs]))):ax P gl f args H K:=by
 refine bc hw (aZ hgl (X:=[]) (ρ:=fun o=>o) ⟨fun o ho=>absurd ho (Nat.not_lt_zero _),fun o _ ho=>absurd ho (Nat.not_lt_zero _),fun o a ho=>by simp at ho⟩ (aU.low ha) (cg hgl (aL h fun x H' e=>?_)))
 obtain⟨k,len,cap,cs,rfl,ho,hcs,hk⟩:=e
 have hol:=(List.getElem?_eq_some_iff.1 ho).1
 refine⟨V (.arr 0 0 len cap),[.cells cs],fun _=>k,⟨fun _ _=>hol,fun a b h1 h2 _=>by simp at h1 h2; omega,fun a ob h1=>?_⟩,Nat.zero_le _,fun a ha=>absurd ha (Nat.not_lt_zero _),?_,?_⟩
 ·have k1:=(List.getElem?_eq_some_iff.1 h1).1
  simp at k1
  subst k1
  cases h1
  exact⟨.cells cs,ho,.cells (aU.low hcs)⟩
 ·exact(hV 0 k len cap).ren (by simp) rfl
 ·refine⟨V (.arr H.length 0 len cap),H++[.cells cs],⟨Nat.zero_le _,by simp,fun a ob h1=>?_,fun a h1 _=>?_⟩,?_,hk⟩
  ·have k1:=(List.getElem?_eq_some_iff.1 h1).1
   simp at k1
   subst k1
   cases h1
   exact⟨.cells cs,by simp[aM],.cells (aU.low hcs),fun h=>h⟩
  ·rw[List.getElem?_append_left h1]
  ·exact(hV 0 H.length len cap).ren (by simp) (by simp[aM])
theorem uD [Dfr] {P:Program} {gl:az} (hgl:aO gl) {n:Nat} {x:Code} {Q:Ex→Env→ae→Prop} {e:Env} {H:ae} {σ:Type} (slots:List Nat) (I:σ→Prop) (V:σ→List PV) (Hp:σ→ae) (m:σ→Nat) (s0:σ)
  (h0:I s0) (he:slots.map e=V s0) (hH:H=Hp s0)
  (round:∀ s,I s→AW P gl n x (fun ex e' H'=>sX Q H.length slots I V Hp m s ex (slots.map e') H') (ak slots (V s)) (Hp s)):AW P gl n (.loop x) Q e H:=by
 intro hd g a w hst
 simp only[bM] at hd
 have hng:g.n=H.length:=hst.sim.n
 refine wp_loop_ghost (fun k a' w'=>∃ g' s,k=m s∧I s∧St gl n g' (ak slots (V s)) (Hp s) a' w'∧Ext g H w g' (Hp s) w') (m s0) ⟨g,s0,rfl,h0,by rw[← hH,← he]; exact hst.weaken (bH e slots),by rw[← hH]; exact .refl g H w⟩ ?_
 rintro k a1 w1 ⟨g1,s,rfl,hI,hst1,hx1⟩
 refine wp_mono (round s hI hd g1 a1 w1 hst1) ?_
 rintro ex a' w' ⟨ex',g',e',H',k0,k1,k2,k3⟩
 have k1':=k1.weaken (bH e' slots)
 cases ex<;>cases ex'<;>first|exact k0.elim|skip
 ·obtain⟨s',hm,hI',hr⟩:=k3
  obtain⟨g3,j1,j2⟩:=k1'.kP hgl (hx1.trans k2) hng hr
  exact⟨m s',hm,g3,s',rfl,hI',j1,j2⟩
 ·obtain⟨vs2,H2,j1,j3⟩:=k3
  obtain⟨g3,j4,j5⟩:=k1'.kP hgl (hx1.trans k2) hng j1
  exact⟨.exit _,g3,_,H2,k0,j4,j5,j3⟩
 ·obtain⟨vs2,H2,j1,j3⟩:=k3
  obtain⟨g3,j4,j5⟩:=k1'.kP hgl (hx1.trans k2) hng j1
  exact⟨.ret,g3,_,H2,k0,j4,j5,j3⟩
inductive Sf (o:Nat) (H:ae):PV→PV→Prop where
 | int (k:IntKind) (n:Int):Sf o H (.int k n) (.int k n)
 | bool (b:Bool):Sf o H (.bool b) (.bool b)
 | nil (t:Tail) (ht:NT t):Sf o H (.list [] t) (.list [] t)
 | tok (k:IntKind) (ns:List Int) (p:Nat) (hp:H[p]?=some .tok) (hne:p≠o):Sf o H (.list (en1 k ns) (.tok p)) (.list (en1 k ns) (.tok p))
 | ptr (q off:Nat):Sf o H (.ptr q off) (.ptr q off)
 | arr (q off len cap:Nat):Sf o H (.arr q off len cap) (.arr q off len cap)
 | any (x:PV):Sf o H x .any
inductive SfL (o:Nat) (H:ae):List PV→List PV→Prop where
 | nil:SfL o H [] []
 | cons {x y:PV} {xs ys:List PV} (h:Sf o H x y) (hs:SfL o H xs ys):SfL o H (x::xs) (y::ys)
structure Thaw [Dfr] (o p:Nat) (k:IntKind) (ns:List Int) (pre post pre2 post2:List PV) (H':ae):Prop where
 ne:ns≠[]
 tok:H'[o]?=some .tok
 at_:H'[p]?=some (.cells (pre ++ .list (en1 k ns) (.tok o)::post))
 pre_:SfL o H' pre pre2
 post_:SfL o H' post post2
structure Thawed (o p:Nat) (H' H2:ae) (cs C:List PV):Prop where
 len:H2.length=H'.length
 row:H2[o]?=some (.cells C)
 hold:H2[p]?=some (.cells cs)
 rest:∀(i:Nat) (b:Ob),i≠o→i≠p→H2[i]?=some b→b = .dead∨(b = .tok∧H'[i]?=some .tok)∨∃ c c2,b = .cells c2∧H'[i]?=some (.cells c)∧SfL o H' c c2
theorem yD {ρ:Nat→Nat} {n:Nat} {g0 g:Gh} {w:World} (hs:Seen ρ n g0 g):∀ {ts:List Nat} {vs vs1:List PV},aU ρ n vs vs1→∀ t v,Rel g0 w (ak ts vs t) v→Rel g w (ak ts vs1 t) v
 | [],_,_,_,t,v,_=>by unfold ak; exact .any v
 | k::ts,_,_,.nil,t,v,_=>by unfold ak; exact .any v
 | k::ts,_,_,.cons h hs',t,v,hr=>by
  simp only[ak] at hr ⊢
  cases hk:t == k with
  | true=>rw[hk] at hr; exact h.to hs hr
  | false=>rw[hk] at hr; exact yD hs hs' t v hr
theorem AW.frame [Dfr] {P:Program} {gl:az} (hgl:aO gl) {n:Nat} {c:Code} {Q:Ex→Env→ae→Prop} {e:Env} {X H:ae} {ρ:Nat→Nat} {slots outs:List Nat} {vals0 fF:List PV} (hsub:Sub ρ X H) (he:slots.map e=fF) (hv0:aU ρ X.length vals0 fF)
  (h:AW P gl n c (fun ex e' X'=>∃ vs H',Behind ρ X H X' H'∧aU (aM ρ X.length H.length) X'.length (outs.map e') vs∧Q ex (ak outs vs) H') (ak slots vals0) X):AW P gl n c Q e H:=by
 intro hd g a w hst
 have hS:=hst.sim
 have hs:Seen ρ X.length (g.through ρ X.length) g:=eW fun o ho=>by rw[hS.n]; exact hsub.lt o ho
 have hG0:cZ (g.through ρ X.length) w gl:=fun k cs hk=>by
  refine⟨(hst.glob k cs hk).1,fun q x hx=>?_⟩
  obtain⟨h1,c,h2,h3⟩:=(hst.glob k cs hk).2 q x hx
  exact⟨h1,c,h2,dK h3 (hgl k cs hk x (List.mem_iff_getElem?.2 ⟨q,hx⟩)) rfl⟩
 have hw:=hst.weaken (bH e slots)
 rw[he] at hw
 refine wp_mono (h hd (g.through ρ X.length) a w ⟨hsub.sim hS,hG0,⟨hw.env.1,fun t=>pP hs hv0 t _ (hw.env.2 t)⟩,hst.dfr⟩) ?_
 rintro ex a' w' ⟨ex',g',e',X',k0,k1,hX,vs,H',hB,hren,hk⟩
 have k1:=k1.weaken (bH e' outs)
 have hS':=k1.sim
 have hn:g.n=H.length:=hS.n
 have hn':g'.n=X'.length:=hS'.n
 have inv:∃ σ:Nat→Option Nat,∀ o,(∀ j,σ o=some j→j<X.length∧ρ j=o)∧(σ o=none→∀ j,j<X.length→ρ j≠o):=by
  refine⟨fun o=>(List.range X.length).find? fun j=>ρ j == o,fun o=>⟨fun j hj=>?_,fun hj j hlt=>?_⟩⟩
  ·have h1:=List.find?_some hj
   have h2:=List.mem_of_find?_eq_some hj
   exact⟨by simpa using h2,by simpa using h1⟩
  ·have:=List.find?_eq_none.1 hj j (by simpa using hlt)
   simpa using this
 obtain⟨σ,hσ⟩:=inv
 have hσρ:∀ j,j<X.length→σ (ρ j)=some j:=fun j hj=>by
  cases hq:σ (ρ j) with
  | none=>exact absurd rfl ((hσ _).2 hq j hj)
  | some i=>obtain⟨h1,h2⟩:=(hσ _).1 i hq; rw[hsub.inj i j h1 hj h2]
 have bk0:∀ o,o<X.length→g'.bk o=g.bk (ρ o):=fun o ho=>hX.gx.bk o ho
 have en0:∀ o,o<X.length→g'.en o=g.en (ρ o):=fun o ho=>hX.gx.en o ho
 have sz0:∀ o,o<X.length→g'.sz o=g.sz (ρ o):=fun o ho=>hX.gx.sz o ho
 let g2:Gh:=⟨H'.length,fun o=>if o<H.length then g.bk o else g'.bk (X.length+(o-H.length)),fun o=>if o<H.length then g.en o else g'.en (X.length+(o-H.length)),fun o=>if o<H.length then g.sz o else g'.sz (X.length+(o-H.length)),g'.imm,
  fun o=>if o<H.length then(match σ o with|some j=>g'.fp j|none=>g.fp o) else g'.fp (X.length+(o-H.length))⟩
 have ext_lt:∀ o,o<X.length→aM ρ X.length H.length o=ρ o∧ρ o<H.length:=fun o ho=>⟨by simp[aM,ho],hsub.lt o ho⟩
 have ext_ge:∀ o,¬ o<X.length→aM ρ X.length H.length o=H.length+(o-X.length):=fun o ho=>by simp[aM,ho]
 have hlenX:=hB.len
 have hlenH:=hB.lenH
 have hs2:Seen (aM ρ X.length H.length) X'.length g' g2:=by
  refine⟨hn',fun o ho=>?_,fun o ho=>?_,fun o ho=>?_,fun o ho=>?_,rfl⟩
  ·show _<H'.length
   by_cases c:o<X.length
   ·obtain⟨e1,e2⟩:=ext_lt o c; rw[e1]; omega
   ·rw[ext_ge o c]; omega
  ·by_cases c:o<X.length
   ·obtain⟨e1,e2⟩:=ext_lt o c
    show _=(if _ then _ else _); rw[e1,if_pos e2]; exact bk0 o c
   ·show _=(if _ then _ else _); rw[ext_ge o c,if_neg (by omega)]; congr 1; omega
  ·by_cases c:o<X.length
   ·obtain⟨e1,e2⟩:=ext_lt o c
    show _=(if _ then _ else _); rw[e1,if_pos e2]; exact en0 o c
   ·show _=(if _ then _ else _); rw[ext_ge o c,if_neg (by omega)]; congr 1; omega
  ·by_cases c:o<X.length
   ·obtain⟨e1,e2⟩:=ext_lt o c
    show _=(if _ then _ else _); rw[e1,if_pos e2]; exact sz0 o c
   ·show _=(if _ then _ else _); rw[ext_ge o c,if_neg (by omega)]; congr 1; omega
 have fp2:∀ o,o<X'.length→g2.fp (aM ρ X.length H.length o)=g'.fp o:=fun o ho=>by
  by_cases c:o<X.length
  ·obtain⟨e1,e2⟩:=ext_lt o c
   show(if _ then _ else _)=_; rw[e1,if_pos e2,hσρ o c]
  ·show(if _ then _ else _)=_; rw[ext_ge o c,if_neg (by omega)]; congr 1; omega
 have cases2:∀(o:Nat) (b:Ob),H'[o]?=some b→b.alive=true→(∃ j a,X'[j]?=some a∧a.alive=true∧o=aM ρ X.length H.length j∧dA (aM ρ X.length H.length) X'.length a b)∨(o<H.length∧H[o]?=some b∧∀ j,j<X.length→ρ j≠o):=by
  intro o b hb hal
  have hol:o<H'.length:=(List.getElem?_eq_some_iff.1 hb).1
  have fromX:∀ j,j<X'.length→o=aM ρ X.length H.length j→∃ a,X'[j]?=some a∧a.alive=true∧dA (aM ρ X.length H.length) X'.length a b:=fun j hj ho=>by
   obtain⟨b',k1,k2,k3⟩:=hB.on j _ (List.getElem?_eq_getElem hj)
   rw[← ho,hb] at k1
   cases k1
   exact⟨_,List.getElem?_eq_getElem hj,k3 hal,k2⟩
  by_cases c:o<H.length
  ·cases hq:σ o with
   | some j=>
    obtain⟨h1,h2⟩:=(hσ o).1 j hq
    have ho:o=aM ρ X.length H.length j:=by rw[(ext_lt j h1).1,h2]
    obtain⟨a,k1,k2,k3⟩:=fromX j (by omega) ho
    exact .inl ⟨j,a,k1,k2,ho,k3⟩
   | none=>
    have h1:=(hσ o).2 hq
    exact .inr ⟨c,by rw[← hB.off o c h1]; exact hb,h1⟩
  ·have ho:o=aM ρ X.length H.length (X.length+(o-H.length)):=by rw[ext_ge _ (by omega)]; omega
   obtain⟨a,k1,k2,k3⟩:=fromX _ (by omega) ho
   exact .inl ⟨_,a,k1,k2,ho,k3⟩
 have blkX:∀ {j:Nat} {a b:Ob} {k:Nat},X'[j]?=some a→a.alive=true→dA (aM ρ X.length H.length) X'.length a b→(blk g2 b (aM ρ X.length H.length j) k↔blk g' a j k):=by
  intro j a b k h1 h2 h3
  have hj:j<X'.length:=(List.getElem?_eq_some_iff.1 h1).1
  cases h3 with
  | cells _=>show _=k↔_=k; rw[hs2.bk j hj]
  | tok=>show _=k↔_=k; rw[hs2.bk j hj]
  | dead _=>cases h2
  | abs r=>show g2.fp _ k↔g'.fp j k; rw[fp2 j hj]
 have blkH:∀ {o:Nat} {b:Ob} {k:Nat},o<H.length→(∀ j,j<X.length→ρ j≠o)→(blk g2 b o k↔blk g b o k):=by
  intro o b k h1 h2
  refine dF (g:=g) (g':=g2) ?_ (fun k=>?_) b k
  ·show(if _ then _ else _)=_; rw[if_pos h1]
  ·show(if o<H.length then(match σ o with|some j=>g'.fp j|none=>g.fp o) else _) k↔_
   rw[if_pos h1]
   cases hq:σ o with
   | some j=>obtain⟨k1,k2⟩:=(hσ o).1 j hq; exact absurd k2 (h2 j k1)
   | none=>exact Iff.rfl
 have apart0:∀ {o:Nat} {b:Ob} {k:Nat},H[o]?=some b→b.alive=true→(∀ j,j<X.length→ρ j≠o)→blk g b o k→k<w.heap.size∧¬ own (g.through ρ X.length) X k:=by
  intro o b k h1 h2 h3 h4
  refine⟨ee hS ⟨o,b,h1,h2,h4⟩,?_⟩
  rintro⟨j,a,k1,k2,k3⟩
  obtain⟨b',e1,e2⟩:=hsub.ob j a k1
  have:=hS.inj (ρ j) o b' b k e1 h1 (e2.alive k2) h2 ((eD g ρ _ e2 k2 j k).1 k3) h4
  exact h3 j (List.getElem?_eq_some_iff.1 k1).1 this
 have apart:∀ {o:Nat} {b:Ob} {k:Nat},H[o]?=some b→b.alive=true→(∀ j,j<X.length→ρ j≠o)→blk g b o k→k<w.heap.size∧w'.heap[k]?=w.heap[k]?∧(∀ q,¬ g.imm k q→¬ g'.imm k q)∧¬ own g' X' k:=by
  intro o b k h1 h2 h3 h4
  obtain⟨hlt,hno⟩:=apart0 h1 h2 h3 h4
  exact⟨hlt,hX.frame k hlt hno,fun q hq hi=>(hX.im k q hlt hi).elim hq hno,fun ho=>hno (hX.ow k hlt ho)⟩
 have hgx:bO g w g2 w':=by
  refine⟨by show g.n≤H'.length; omega,fun o ho=>?_,fun o ho=>?_,fun o ho=>?_,hX.gx.imm,hX.gx.cell⟩
  ·show(if _ then _ else _)=_; rw[if_pos (by omega)]
  ·show(if _ then _ else _)=_; rw[if_pos (by omega)]
  ·show(if _ then _ else _)=_; rw[if_pos (by omega)]
 have hbk2:∀ o,o<H.length→g2.bk o=g.bk o:=fun o ho=>hgx.bk o (by omega)
 refine⟨ex',g2,ak outs vs,H',k0,⟨?_,hst.glob.mono hgx,⟨k1.env.1,fun t=>yD hs2 hren t _ (k1.env.2 t)⟩,k1.dfr⟩,?_,hk⟩
 ·refine⟨rfl,fun o o' b b' k h1 h2 h3 h4 h5 h6=>?_,fun o cs h1=>?_,fun o h1=>?_,hS'.imm,fun o r h1=>?_⟩
  ·rcases cases2 o b h1 h3 with⟨j,a,k1,k2,rfl,k3⟩|⟨k1,k2,k3⟩<;>rcases cases2 o' b' h2 h4 with⟨j',a',m1,m2,rfl,m3⟩|⟨m1,m2,m3⟩
   ·rw[hS'.inj j j' a a' k k1 m1 k2 m2 ((blkX k1 k2 k3).1 h5) ((blkX m1 m2 m3).1 h6)]
   ·exact absurd ⟨j,a,k1,k2,(blkX k1 k2 k3).1 h5⟩ (apart m2 h4 m3 ((blkH m1 m3).1 h6)).2.2.2
   ·exact absurd ⟨j',a',m1,m2,(blkX m1 m2 m3).1 h6⟩ (apart k2 h3 k3 ((blkH k1 k3).1 h5)).2.2.2
   ·exact hS.inj o o' b b' k k2 m2 h3 h4 ((blkH k1 k3).1 h5) ((blkH m1 m3).1 h6)
  ·rcases cases2 o _ h1 rfl with⟨j,a,k1,k2,rfl,k3⟩|⟨k1,k2,k3⟩
   ·cases k3 with
    | cells k3=>
     obtain⟨⟨C,ty,e1,e2⟩,e3⟩:=hS'.cells j _ k1
     have hj:j<X'.length:=(List.getElem?_eq_some_iff.1 k1).1
     rw[← hs2.bk j hj]
     exact⟨⟨C,ty,e1,k3.to hs2 e2⟩,e3⟩
    | dead _=>cases k2
   ·obtain⟨⟨C,ty,e1,e2⟩,e3⟩:=hS.cells o cs k2
    obtain⟨_,a2,a3,_⟩:=apart k2 rfl k3 rfl
    rw[hbk2 o k1]
    exact⟨⟨C,ty,a2.trans e1,e2.mono hgx⟩,fun q=>a3 q (e3 q)⟩
  ·rcases cases2 o _ h1 rfl with⟨j,a,k1,k2,rfl,k3⟩|⟨k1,k2,k3⟩
   ·cases k3 with
    | tok=>
     have hj:j<X'.length:=(List.getElem?_eq_some_iff.1 k1).1
     rw[← hs2.bk j hj,← hs2.en j hj,← hs2.sz j hj]
     exact hS'.tok j k1
    | dead _=>cases k2
   ·obtain⟨⟨C,ty,e1,e2⟩,e3⟩:=hS.tok o k2
    obtain⟨_,a2,a3,_⟩:=apart k2 rfl k3 rfl
    rw[hbk2 o k1,hgx.en o (by omega),hgx.sz o (by omega)]
    exact⟨⟨C,ty,a2.trans e1,e2⟩,fun q hq=>a3 q (e3 q hq)⟩
  ·rcases cases2 o _ h1 rfl with⟨j,a,k1,k2,rfl,k3⟩|⟨k1,k2,k3⟩
   ·cases k3 with
    | abs r=>
     have hj:j<X'.length:=(List.getElem?_eq_some_iff.1 k1).1
     rw[← hs2.bk j hj,fp2 j hj]
     exact hS'.abs j r k1
    | dead _=>cases k2
   ·have h2:=(hS.abs o r k2).2.2
    have hfp:∀ b,g2.fp o b↔g.fp o b:=fun b=>blkH (b:= .abs r) (k:=b) k1 k3
    exact hS.dV k2 hgx (hbk2 o k1) hfp (fun b hb=>(apart k2 rfl k3 hb).2.1) (fun b q hb=>(apart k2 rfl k3 hb).2.2.1 q ((h2 b hb).2 q)) hX.size hS'.imm
 ·have ownsub:∀ b,own (g.through ρ X.length) X b→own g H b:=fun b=>hsub.own
  refine⟨hgx,hX.size,fun b hb ho=>?_,fun b hb ho=>hX.frame b hb (fun k=>ho (ownsub b k)),hX.os,hX.tape,hX.output,fun b q hb hi=>(hX.im b q hb hi).imp id (ownsub b)⟩
  obtain⟨o,b',h1,h2,h3⟩:=ho
  rcases cases2 o b' h1 h2 with⟨j,a,k1,k2,rfl,k3⟩|⟨k1,k2,k3⟩
  ·exact ownsub b (hX.ow b hb ⟨j,a,k1,k2,(blkX k1 k2 k3).1 h3⟩)
  ·exact⟨o,b',k2,h2,(blkH k1 k3).1 h3⟩
theorem wx {P:Program} {gl:az} {f:FuncId} {args:List PV} {H:ae} {K:PV→ae→Prop} (h:ax P gl f args H (fun x H'=>∃ H2,Pad H' H2∧K x H2)):ax P gl f args H K:=by
 intro g w vs hS hG hR
 refine(h g w vs hS hG hR).mono ?_
 rintro e w' ⟨v,g1,H',x,rfl,hS',hx,hv,H2,hp,hk⟩
 let g':Gh:=⟨H2.length,g1.bk,g1.en,g1.sz,g1.imm,g1.fp⟩
 have hb:blk g'=blk g1:=by funext ob o b; cases ob<;>rfl
 have hn:g1.n=H'.length:=hS'.n
 have hgx:bO g1 w' g' w':=⟨by show g1.n≤H2.length; rw[hn]; exact hp.len,fun _ _=>rfl,fun _ _=>rfl,fun _ _=>rfl,fun _ _ h=>h,fun _ _ _=>rfl⟩
 refine⟨v,g',H2,x,rfl,⟨rfl,fun o o' ob ob' b h1 h2 h3 h4=>by rw[hb]; exact hS'.inj o o' ob ob' b (hp.ob _ _ h1 h3) (hp.ob _ _ h2 h4) h3 h4,fun o cs h1=>?_,fun o h1=>hS'.tok o (hp.ob _ _ h1 rfl),hS'.imm,fun o r h1=>hS'.abs o r (hp.ob _ _ h1 rfl)⟩,?_,hv.mono hgx,hk⟩
 ·obtain⟨⟨C,ty,e1,e2⟩,e3⟩:=hS'.cells o cs (hp.ob _ _ h1 rfl)
  exact⟨⟨C,ty,e1,e2.mono hgx⟩,e3⟩
 ·refine⟨hx.gx.trans hgx,hx.size,fun b hb' ho=>?_,hx.frame,hx.os,hx.tape,hx.output,hx.im⟩
  obtain⟨o,ob,h1,h2,h3⟩:=ho
  rw[hb] at h3
  exact hx.ow b hb' ⟨o,ob,hp.ob _ _ h1 h2,h2,h3⟩
theorem nI {P:Program} {gl:az} {f:FuncId} {args:List PV} {H:ae} {K:PV→ae→Prop} (h:ax P gl f args H (fun x H'=>K x (H'++[.dead]))):ax P gl f args H K:=
 wx (aL h fun _ _ hk=>⟨_,dN _,hk⟩)
theorem Gn {H:ae} {q:Nat} {R:Rep} (ha:bR H q R):Sub (fun _=>q) [.abs R] H:=by
 refine⟨fun _ _=>(List.getElem?_eq_some_iff.1 ha).1,fun a b h1 h2 _=>by simp at h1 h2; omega,fun o a ho=>?_⟩
 have k1:=(List.getElem?_eq_some_iff.1 ho).1
 simp at k1
 subst k1
 cases ho
 exact⟨_,ha,.abs _⟩
theorem uI {P:Program} {gl:az} (hgl:aO gl) {f:FuncId} {rest:List PV} {H:ae} {q:Nat} {R R':Rep} {x0:PV} {K:PV→ae→Prop} (ha:bR H q R) (hrest:∀ x∈rest,Low 0 x) (hx:Low 0 x0)
  (h:ax P gl f (.ptr 0 0::rest) [.abs R] (fun x H'=>x=x0∧∃ G,H' = .abs R'::G)) (hk:K x0 (H.set q (.abs R'))):ax P gl f (.ptr q 0::rest) H K:=by
 have hq:=(List.getElem?_eq_some_iff.1 ha).1
 have h1:ax P gl f (.ptr 0 0::rest) [.abs R] (fun x H'=>x=x0∧H'=[.abs R']):=by
  refine h.forget fun x H' hh=>?_
  obtain⟨rfl,G,rfl⟩:=hh
  refine⟨[.abs R'],G,rfl,rfl,hx.up,fun o cs ho'=>?_,rfl,rfl⟩
  have k1:=(List.getElem?_eq_some_iff.1 ho').1
  simp at k1
  subst k1
  cases ho'
 refine aZ hgl (Gn ha) (.cons (.ptr (ρ:=fun _=>q) 0 0 (by simp)) (aU.low hrest)) (aL h1 fun x H' e=>?_)
 obtain⟨rfl,rfl⟩:=e
 refine⟨x,H.set q (.abs R'),⟨Nat.le_refl _,by simp,fun o a ho'=>?_,fun o hl hn=>?_⟩,.low hx,hk⟩
 ·have k1:=(List.getElem?_eq_some_iff.1 ho').1
  simp at k1
  subst k1
  cases ho'
  exact⟨.abs R',by simp[aM,hq],.abs _,fun h=>h⟩
 ·have:=hn 0 (by simp)
  rw[List.getElem?_set_ne this]
inductive Ld (H:ae):PV→PV→Prop where
 | low {x:PV} (h:Low 0 x):Ld H x x
 | any (x:PV):Ld H x .any
 | name (o off len cap:Nat) (h:o<H.length):Ld H (.arr o off len cap) (.arr o off len cap)
 | arr (o off cap sz:Nat) (A B:List PV) (es:List (List PV)) (ho:H[o]?=some (.cells (A++(es.flatten++B)))) (hA:A.length=off) (hu:uni sz es) (hl:es.length≤cap) (hlow:∀ x∈es.flatten,Low 0 x):Ld H (.arr o off es.length cap) (.list es .no)
 | agg (cs cs':List PV) (hl:cs.length=cs'.length) (h:∀(q:Nat) (x y:PV),cs[q]?=some x→cs'[q]?=some y→Ld H x y):Ld H (.agg cs) (.agg cs')
inductive LdL (H:ae):List PV→List PV→Prop where
 | nil:LdL H [] []
 | cons {x y:PV} {xs ys:List PV} (h:Ld H x y) (hs:LdL H xs ys):LdL H (x::xs) (y::ys)
theorem LdL.length {H:ae} {xs ys:List PV} (h:LdL H xs ys):xs.length=ys.length:=by
 induction h with
 | nil=>rfl
 | cons _ _ ih=>simp[ih]
theorem LdL.get {H:ae} {xs ys:List PV} (h:LdL H xs ys):∀(q:Nat) (x y:PV),xs[q]?=some x→ys[q]?=some y→Ld H x y:=by
 induction h with
 | nil=>intro q x y h; simp at h
 | cons h _ ih=>
  intro q x y h1 h2
  cases q with
  | zero=>simp at h1 h2; subst h1; subst h2; exact h
  | succ q=>exact ih q x y (by simpa using h1) (by simpa using h2)
theorem Ld.iM {H:ae} {xs ys:List PV} (h:LdL H xs ys):Ld H (.agg xs) (.agg ys):= .agg _ _ h.length h.get
def Gh.qo (g:Gh) (H:ae):Gh:=⟨H.length,g.bk,g.en,g.sz,fun b q=>g.imm b q∨∃ o cs,H[o]?=some (.cells cs)∧b=g.bk o,g.fp⟩
theorem o7 {g:Gh} {H:ae} {w:World} {x:PV} {v:Value} (h:Rel g w x v) (hl:Low 0 x):Rel (g.qo H) w x v:=
 Rel.mono (g:=g.cutAt 0) (g':=g.qo H) (w:=w) (w':=w) ⟨Nat.zero_le _,fun _ h=>absurd h (Nat.not_lt_zero _),fun _ h=>absurd h (Nat.not_lt_zero _),fun _ h=>absurd h (Nat.not_lt_zero _),fun b q (h:g.imm b q)=>Or.inl h,fun _ _ _=>rfl⟩ (h.cutAt hl)
theorem Ld.to {H:ae} {x y:PV} (hr:Ld H x y) {g:Gh} {w:World} (hS:Sim g H w):∀ {v:Value},Rel g w x v→Rel (g.qo H) w y v:=by
 induction hr with
 | low h=>intro v hv; exact o7 hv h
 | any x=>intro v _; exact .any v
 | name o off len cap h=>intro v hv; cases hv; exact .arr (g:=g.qo H) o off len cap h
 | arr o off cap sz A B es ho hA hu hl hlow=>
  intro v hv
  cases hv
  refine Rel.aS.2 ⟨_,cap,rfl,gA hu,hl,trivial,.inr ⟨_,rfl,rfl,fun q x hq=>⟨.inr ⟨o,_,ho,rfl⟩,?_⟩⟩⟩
  obtain⟨⟨C,ty,e1,e2⟩,_⟩:=hS.cells o _ ho
  have hql:=(List.getElem?_eq_some_iff.1 hq).1
  have hx:(A++(es.flatten++B))[off+q]?=some x:=by
   rw[List.getElem?_append_right (by omega),show off+q-A.length=q by omega,List.getElem?_append_left hql]; exact hq
  obtain⟨c,h1,h2⟩:=e2.get hx
  refine⟨c,?_,o7 h2 (hlow x (List.mem_iff_getElem?.2 ⟨q,hq⟩))⟩
  simp only[At]
  rw[cD e1,← Array.getElem?_toList]; exact h1
 | agg cs cs' hl _ ih=>
  intro v hv
  obtain⟨vs,rfl,h1⟩:=Rel.bT.1 hv
  refine Rel.bT.2 ⟨vs,rfl,by rw[← hl]; exact h1.1,fun q y u hy hu=>?_⟩
  have hq:q<cs.length:=by rw[hl]; exact(List.getElem?_eq_some_iff.1 hy).1
  exact ih q cs[q] y (List.getElem?_eq_getElem hq) hy (h1.2 q _ u (List.getElem?_eq_getElem hq) hu)
inductive Flat:PV→Prop where
 | int (k:IntKind) (n:Int):Flat (.int k n)
 | bool (b:Bool):Flat (.bool b)
theorem Flat.rel {x:PV} (h:Flat x) {g g':Gh} {w:World} {v:Value} (hv:Rel g w x v):Rel g' w x v:=by
 cases h with
 | int k n=>cases hv; exact .int _ _
 | bool b=>cases hv; exact .bool _
def gu (H:ae):ae:=H.map fun _=> .dead
theorem gI {H:ae} {o:Nat} {b:Ob} (h:(gu H)[o]?=some b):b = .dead:=by
 simp only[gu,List.getElem?_map] at h
 cases hx:H[o]? with
 | none=>rw[hx] at h; cases h
 | some a=>rw[hx] at h; cases h; rfl
theorem nh {P:Program} {gl:az} (hgl:aO gl) {f:FuncId} {args args':List PV} {H:ae} {r:PV} (hr:Flat r) (hl:LdL H args args') (hp:ax P gl f args' (gu H) (fun x H'=>x=r∧H'=gu H)):ax P gl f args H (fun x H'=>x=r∧H'=H):=by
 intro g w vs hS hG hR
 have hS0:Sim (g.qo H) (gu H) w:=by
  refine⟨by simp[gu,Gh.qo],fun o o' ob ob' b h1 _ h3=>(by rw[gI h1] at h3; cases h3),fun o cs h1=>(by cases gI h1),fun o h1=>(by cases gI h1),?_,fun o r h1=>(by cases gI h1)⟩
  rintro b q (h1|⟨o,cs,h1,rfl⟩)
  ·exact hS.imm b q h1
  ·exact ee hS ⟨o,_,h1,rfl,rfl⟩
 have hG0:cZ (g.qo H) w gl:=fun k cs hk=>by
  refine⟨(hG k cs hk).1,fun q x hx=>?_⟩
  obtain⟨h1,c,h2,h3⟩:=(hG k cs hk).2 q x hx
  exact⟨.inl h1,c,h2,o7 h3 (hgl k cs hk x (List.mem_iff_getElem?.2 ⟨q,hx⟩))⟩
 have hR0:aQ (g.qo H) w args' vs.toList:=by
  refine⟨by rw[← hl.length]; exact hR.1,fun q y u hy hu=>?_⟩
  have hq:q<args.length:=by rw[hl.length]; exact(List.getElem?_eq_some_iff.1 hy).1
  exact(hl.get q args[q] y (List.getElem?_eq_getElem hq) hy).to hS (hR.2 q _ u (List.getElem?_eq_getElem hq) hu)
 refine(hp (g.qo H) w vs hS0 hG0 hR0).mono ?_
 rintro e w' ⟨v,g1,H1,x,rfl,hS1,hX,hv,rfl,rfl⟩
 have hno:∀ b,¬ own (g.qo H) (gu H) b:=by
  rintro b ⟨o,ob,h1,h2,_⟩; rw[gI h1] at h2; cases h2
 have hfr:∀ b,b<w.heap.size→w'.heap[b]?=w.heap[b]?:=fun b hb=>hX.frame b hb (hno b)
 have hgx:bO g w g w':=⟨Nat.le_refl _,fun _ _=>rfl,fun _ _=>rfl,fun _ _=>rfl,fun _ _ h=>h,fun b q h=>hX.gx.cell b q (.inl h)⟩
 refine⟨v,g,H,_,rfl,⟨hS.n,hS.inj,fun o cs h1=>?_,fun o h1=>?_,fun b q h1=>Nat.lt_of_lt_of_le (hS.imm b q h1) hX.size,fun o r h1=>?_⟩,⟨hgx,hX.size,fun b _ h=>h,fun b hb _=>hfr b hb,hX.os,hX.tape,hX.output,fun b q _ h=> .inl h⟩,hr.rel hv,rfl,rfl⟩
 ·obtain⟨⟨C,ty,e1,e2⟩,e3⟩:=hS.cells o cs h1
  exact⟨⟨C,ty,(hfr _ (ee hS ⟨o,_,h1,rfl,rfl⟩)).trans e1,e2.mono hgx⟩,e3⟩
 ·obtain⟨⟨C,ty,e1,e2⟩,e3⟩:=hS.tok o h1
  exact⟨⟨C,ty,(hfr _ (ee hS ⟨o,_,h1,rfl,rfl⟩)).trans e1,e2⟩,e3⟩
 ·have h2:=(hS.abs o r h1).2.2
  exact hS.dV h1 hgx rfl (fun _=>Iff.rfl) (fun b hb=>hfr b (h2 b hb).1) (fun b q hb=>(h2 b hb).2 q) hX.size (fun b q h=>Nat.lt_of_lt_of_le (hS.imm b q h) hX.size)
inductive Fz (o off:Nat) (es:List (List PV)):PV→PV→Prop where
 | refl (x:PV):Fz o off es x x
 | any (x:PV):Fz o off es x .any
 | arr (cap:Nat) (h:es.length≤cap):Fz o off es (.arr o off es.length cap) (.list es .no)
 | exact:Fz o off es (.arr o off es.length es.length) (.list es .exact)
 | agg (cs cs':List PV) (hl:cs.length=cs'.length) (h:∀(q:Nat) (x y:PV),cs[q]?=some x→cs'[q]?=some y→Fz o off es x y):Fz o off es (.agg cs) (.agg cs')
 | tup (cs cs':List PV) (hl:cs.length=cs'.length) (h:∀(q:Nat) (x y:PV),cs[q]?=some x→cs'[q]?=some y→Fz o off es x y):Fz o off es (.tup cs) (.tup cs')
inductive FzL (o off:Nat) (es:List (List PV)):List PV→List PV→Prop where
 | nil:FzL o off es [] []
 | cons {x y:PV} {xs ys:List PV} (h:Fz o off es x y) (hs:FzL o off es xs ys):FzL o off es (x::xs) (y::ys)
theorem FzL.length {o off:Nat} {es:List (List PV)} {xs ys:List PV} (h:FzL o off es xs ys):xs.length=ys.length:=by
 induction h with
 | nil=>rfl
 | cons _ _ ih=>simp[ih]
theorem FzL.get {o off:Nat} {es:List (List PV)} {xs ys:List PV} (h:FzL o off es xs ys):∀(q:Nat) (x y:PV),xs[q]?=some x→ys[q]?=some y→Fz o off es x y:=by
 induction h with
 | nil=>intro q x y h; simp at h
 | cons h _ ih=>
  intro q x y h1 h2
  cases q with
  | zero=>simp at h1 h2; subst h1; subst h2; exact h
  | succ q=>exact ih q x y (by simpa using h1) (by simpa using h2)
theorem FzL.refl {o off:Nat} {es:List (List PV)}:∀(xs:List PV),FzL o off es xs xs
 | []=> .nil
 | x::xs=> .cons (.refl x) (FzL.refl xs)
theorem Fz.iM {o off:Nat} {es:List (List PV)} {xs ys:List PV} (h:FzL o off es xs ys):Fz o off es (.agg xs) (.agg ys):= .agg _ _ h.length h.get
theorem Fz.to {o off:Nat} {es:List (List PV)} {x y:PV} (hr:Fz o off es x y) {g g':Gh} {w:World} (hx:bO g w g' w) {sz:Nat} (hu:uni sz es) (hi:bV g' w ⟨g.bk o,off,none⟩ es.flatten):∀ {v:Value},Rel g w x v→Rel g' w y v:=by
 induction hr with
 | refl x=>intro v hv; exact hv.mono hx
 | any x=>intro v _; exact .any v
 | arr cap hc=>
  intro v hv
  cases hv
  exact Rel.aS.2 ⟨_,cap,rfl,gA hu,hc,trivial,.inr ⟨_,rfl,hi⟩⟩
 | exact=>
  intro v hv
  cases hv
  exact Rel.aS.2 ⟨_,_,rfl,gA hu,Nat.le_refl _,rfl,.inr ⟨_,rfl,hi⟩⟩
 | agg cs cs' hl _ ih=>
  intro v hv
  obtain⟨vs,rfl,h1⟩:=Rel.bT.1 hv
  refine Rel.bT.2 ⟨vs,rfl,by rw[← hl]; exact h1.1,fun q y u hy hu=>?_⟩
  have hq:q<cs.length:=by rw[hl]; exact(List.getElem?_eq_some_iff.1 hy).1
  exact ih q cs[q] y (List.getElem?_eq_getElem hq) hy (h1.2 q _ u (List.getElem?_eq_getElem hq) hu)
 | tup cs cs' hl _ ih=>
  intro v hv
  obtain⟨vs,rfl,h1⟩:=Rel.dU.1 hv
  refine Rel.dU.2 ⟨vs,rfl,by rw[← hl]; exact h1.1,fun q y u hy hu=>?_⟩
  have hq:q<cs.length:=by rw[hl]; exact(List.getElem?_eq_some_iff.1 hy).1
  exact ih q cs[q] y (List.getElem?_eq_getElem hq) hy (h1.2 q _ u (List.getElem?_eq_getElem hq) hu)
theorem FzL.to {o off:Nat} {es:List (List PV)} {xs ys:List PV} (h:FzL o off es xs ys) {g g':Gh} {w:World} (hx:bO g w g' w) {sz:Nat} (hu:uni sz es) (hi:bV g' w ⟨g.bk o,off,none⟩ es.flatten) {vs:List Value} (hr:aQ g w xs vs):aQ g' w ys vs:=by
 refine⟨by rw[← h.length]; exact hr.1,fun q y u hy hu'=>?_⟩
 have hq:q<xs.length:=by rw[h.length]; exact(List.getElem?_eq_some_iff.1 hy).1
 exact(h.get q xs[q] y (List.getElem?_eq_getElem hq) hy).to hx hu hi (hr.2 q _ u (List.getElem?_eq_getElem hq) hu')
def FzH (o off:Nat) (es:List (List PV)) (H H2:ae):Prop:=H2.length=H.length∧∀(i:Nat) (b:Ob),H2[i]?=some b→b = .dead∨(i≠o∧H[i]?=some b)∨∃ c c2,b = .cells c2∧i≠o∧H[i]?=some (.cells c)∧FzL o off es c c2
theorem vi {g:Gh} {w:World} {b:Nat} {A B:List PV} {cs:List PV} {off:Nat} (h:bV g w ⟨b,0,none⟩ (A++(cs++B))) (hA:A.length=off):bV g w ⟨b,off,none⟩ cs:=by
 refine⟨rfl,fun q x hq=>?_⟩
 have hql:=(List.getElem?_eq_some_iff.1 hq).1
 have hx:(A++(cs++B))[off+q]?=some x:=by
  rw[List.getElem?_append_right (by omega),show off+q-A.length=q by omega,List.getElem?_append_left hql]; exact hq
 obtain⟨h1,c,h2,h3⟩:=h.2 _ _ hx
 simp only[At,Nat.zero_add] at h1 h2 ⊢
 exact⟨h1,c,h2,h3⟩
theorem Sim.n9 {g:Gh} {H:ae} {w:World} (h:Sim g H w) {o off sz:Nat} {A B:List PV} {es:List (List PV)} (ho:H[o]?=some (.cells (A++(es.flatten++B)))) (hA:A.length=off) (hu:uni sz es) {H2:ae} (hH:FzH o off es H H2):
  ∃ g',Sim g' H2 w∧Ext g H w g' H2 w∧bO g w g' w∧bV g' w ⟨g.bk o,off,none⟩ es.flatten:=by
 obtain⟨g',k1,k2,k3⟩:=h.freeze ho
 have hi:=vi k3 hA
 have get:∀ {i:Nat} {b:Ob},H2[i]?=some b→b.alive=true→(∃ a,(H.set o .dead)[i]?=some a∧a.alive=true∧H[i]?=some a∧∀ x,blk g' b i x↔blk g' a i x):=by
  intro i b h1 h2
  rcases hH.2 i b h1 with rfl|⟨hne,h3⟩|⟨c,c2,rfl,hne,h3,_⟩
  ·cases h2
  ·exact⟨b,by rw[List.getElem?_set_ne (Ne.symm hne)]; exact h3,h2,h3,fun _=>Iff.rfl⟩
  ·exact⟨_,by rw[List.getElem?_set_ne (Ne.symm hne)]; exact h3,rfl,h3,fun _=>Iff.rfl⟩
 refine⟨g',⟨?_,fun i j oi oj b h1 h2 h3 h4 h5 h6=>?_,fun i cs h1=>?_,fun i h1=>?_,k1.imm,fun i r h1=>?_⟩,⟨k2.gx,k2.size,fun b hb ho'=>?_,k2.frame,k2.os,k2.tape,k2.output,k2.im⟩,k2.gx,hi⟩
 ·rw[hH.1]; have:=k1.n; simpa using this
 ·obtain⟨a1,e1,e2,_,e3⟩:=get h1 h3
  obtain⟨a2,f1,f2,_,f3⟩:=get h2 h4
  exact k1.inj i j a1 a2 b e1 f1 e2 f2 ((e3 b).1 h5) ((f3 b).1 h6)
 ·rcases hH.2 i _ h1 with h2|⟨hne,h3⟩|⟨c,c2,h2,hne,h3,h4⟩
  ·cases h2
  ·exact k1.cells i cs (by rw[List.getElem?_set_ne (Ne.symm hne)]; exact h3)
  ·cases h2
   obtain⟨⟨C,ty,e1,e2⟩,_⟩:=h.cells i c h3
   obtain⟨⟨C',ty',e1',e2'⟩,e3⟩:=k1.cells i c (by rw[List.getElem?_set_ne (Ne.symm hne)]; exact h3)
   have hb:g'.bk i=g.bk i:=k2.gx.bk i (by rw[h.n]; exact(List.getElem?_eq_some_iff.1 h3).1)
   exact⟨⟨C,ty,by rw[hb]; exact e1,h4.to k2.gx hu hi e2⟩,e3⟩
 ·rcases hH.2 i _ h1 with h2|⟨hne,h3⟩|⟨c,c2,h2,_⟩
  ·cases h2
  ·exact k1.tok i (by rw[List.getElem?_set_ne (Ne.symm hne)]; exact h3)
  ·cases h2
 ·rcases hH.2 i _ h1 with h2|⟨hne,h3⟩|⟨c,c2,h2,_⟩
  ·cases h2
  ·exact k1.abs i r (by rw[List.getElem?_set_ne (Ne.symm hne)]; exact h3)
  ·cases h2
 ·obtain⟨i,ob,h1,h2,h3⟩:=ho'
  obtain⟨a,e1,e2,e3,e4⟩:=get h1 h2
  exact k2.ow b hb ⟨i,a,e1,e2,(e4 b).1 h3⟩
theorem x9 {o off:Nat} {es:List (List PV)} {g g':Gh} {w:World} (hx:bO g w g' w) {sz:Nat} (hu:uni sz es) (hi:bV g' w ⟨g.bk o,off,none⟩ es.flatten):∀ {ts:List Nat} {vs vs2:List PV},FzL o off es vs vs2→∀ t v,Rel g w (ak ts vs t) v→Rel g' w (ak ts vs2 t) v
 | [],_,_,_,t,v,_=>by unfold ak; exact .any v
 | k::ts,_,_,.nil,t,v,_=>by unfold ak; exact .any v
 | k::ts,_,_,.cons h hs,t,v,hr=>by
  simp only[ak] at hr ⊢
  cases hk:t == k with
  | true=>rw[hk] at hr; exact h.to hx hu hi hr
  | false=>rw[hk] at hr; exact x9 hx hu hi hs t v hr
theorem AW.n9 [Dfr] {P:Program} {gl:az} {n:Nat} {c:Code} {Q:Ex→Env→ae→Prop} {e:Env} {H H2:ae} {slots:List Nat} {vs vs2:List PV} {o off sz:Nat} {A B:List PV} {es:List (List PV)} (he:slots.map e=vs)
  (ho:H[o]?=some (.cells (A++(es.flatten++B)))) (hA:A.length=off) (hu:uni sz es) (hH:FzH o off es H H2) (hv:FzL o off es vs vs2)
  (h:AW P gl n c Q (ak slots vs2) H2):AW P gl n c Q e H:=by
 intro hd g a w hst
 obtain⟨g',k1,k2,k3,k4⟩:=hst.sim.n9 ho hA hu hH
 have hw:=hst.weaken (bH e slots)
 rw[he] at hw
 refine wp_mono (h hd g' a w ⟨k1,hst.glob.mono k3,⟨hw.env.1,fun t=>x9 k3 hu k4 hv t _ (hw.env.2 t)⟩,hst.dfr⟩) ?_
 rintro ex a' w' ⟨ex',g2,e2,H3,j0,j1,j2,j3⟩
 exact⟨ex',g2,e2,H3,j0,j1,k2.trans j2,j3⟩
theorem bW {P:Program} {gl:az} {f:FuncId} {args:List PV} {H:ae} {K:PV→ae→Prop}
  (h:ax P gl f args H (fun x H'=>∃(o off sz:Nat) (A B:List PV) (es:List (List PV)) (y:PV) (H2:ae),H'[o]?=some (.cells (A++(es.flatten++B)))∧A.length=off∧uni sz es∧FzH o off es H' H2∧Fz o off es x y∧K y H2)):ax P gl f args H K:=by
 intro g w vs hS hG hR
 refine(h g w vs hS hG hR).mono ?_
 rintro e w' ⟨v,g',H',x,rfl,hS',hX,hr,o,off,sz,A,B,es,y,H2,ho,hA,hu,hH,hf,hk⟩
 obtain⟨g2,k1,k2,k3,k4⟩:=hS'.n9 ho hA hu hH
 exact⟨v,g2,H2,y,rfl,k1,hX.trans k2,hf.to k3 hu k4 hr,hk⟩
structure ShutH (ρ:Nat→Nat) (hh:ae) (q:Nat) (I:ae→Prop) (H H2:ae):Prop where
 sub:Sub ρ hh H
 root:kr hh
 it:I hh
 notok:w8 hh
 zero:ρ 0=q
 len:H2.length=H.length
 at_:H2[q]?=some (.abs (whole I))
 off:∀(o:Nat) (b:Ob),o≠q→H2[o]?=some b→b.alive=true→H[o]?=some b∧∀ k,k<hh.length→ρ k≠o
theorem Sim.I3 {g:Gh} {H:ae} {w:World} (hS:Sim g H w) {ρ:Nat→Nat} {hh:ae} {q:Nat} {I:ae→Prop} {H2:ae} (h:ShutH ρ hh q I H H2):∃ g2,Sim g2 H2 w∧Ext g H w g2 H2 w∧bO g w g2 w:=by
 let g0:Gh:=g.through ρ hh.length
 let g2:Gh:={ g with fp:=fun o b=>if o=q then own g0 hh b else g.fp o b }
 have hS0:Sim g0 hh w:=h.sub.sim hS
 have hgx:bO g w g2 w:=⟨Nat.le_refl _,fun _ _=>rfl,fun _ _=>rfl,fun _ _=>rfl,fun _ _ h=>h,fun _ _ _=>rfl⟩
 have hfq:∀ b,g2.fp q b↔own g0 hh b:=fun b=>by show(if q=q then _ else _)↔_; rw[if_pos rfl]
 have hfo:∀ {o:Nat},o≠q→∀ b,g2.fp o b↔g.fp o b:=fun ho b=>by show(if _=q then _ else _)↔_; rw[if_neg ho]
 have blko:∀ {o:Nat} {ob:Ob} {b:Nat},o≠q→(blk g2 ob o b↔blk g ob o b):=fun {o ob b} ho=>dF (g:=g) (g':=g2) rfl (fun k=>hfo ho k) ob b
 have notin:∀ {o:Nat} {ob:Ob} {b:Nat},o≠q→H2[o]?=some ob→ob.alive=true→blk g2 ob o b→own g0 hh b→False:=by
  intro o ob b h1 h2 h3 h4 h5
  obtain⟨h6,h7⟩:=h.off o ob h1 h2 h3
  obtain⟨k,a,k1,k2,k3⟩:=h5
  obtain⟨b',j1,j2⟩:=h.sub.ob k a k1
  have hk:=(List.getElem?_eq_some_iff.1 k1).1
  have:=hS.inj (ρ k) o b' ob b j1 h6 (j2.alive k2) h3 ((eD g ρ _ j2 k2 k b).1 k3) ((blko h1).1 h4)
  exact h7 k hk this
 have qabs:∀ {ob:Ob},H2[q]?=some ob→ob = .abs (whole I):=fun hb=>by rw[h.at_] at hb; exact(Option.some.inj hb).symm
 refine⟨g2,⟨by rw[h.len]; exact hS.n,fun o o' ob ob' b h1 h2 h3 h4 h5 h6=>?_,fun o cs h1=>?_,fun o h1=>?_,hS.imm,fun o r h1=>?_⟩,⟨hgx,Nat.le_refl _,fun b _ ho=>?_,fun _ _ _=>rfl,rfl,rfl,rfl,fun _ _ _ h=> .inl h⟩,hgx⟩
 ·by_cases c:o=q<;>by_cases c':o'=q
  ·rw[c,c']
  ·subst c
   rw[qabs h1] at h5
   exact(notin c' h2 h4 h6 ((hfq b).1 h5)).elim
  ·subst c'
   rw[qabs h2] at h6
   exact(notin c h1 h3 h5 ((hfq b).1 h6)).elim
  ·exact hS.inj o o' ob ob' b (h.off o ob c h1 h3).1 (h.off o' ob' c' h2 h4).1 h3 h4 ((blko c).1 h5) ((blko c').1 h6)
 ·by_cases c:o=q
  ·subst c; cases qabs h1
  ·obtain⟨⟨C,ty,e1,e2⟩,e3⟩:=hS.cells o cs (h.off o _ c h1 rfl).1
   exact⟨⟨C,ty,e1,e2.mono hgx⟩,e3⟩
 ·by_cases c:o=q
  ·subst c; cases qabs h1
  ·exact hS.tok o (h.off o _ c h1 rfl).1
 ·by_cases c:o=q
  ·subst c
   cases qabs h1
   obtain⟨cs,hcs⟩:=h.root
   have e:g2.fp o=own g0 hh:=funext fun b=>propext (hfq b)
   rw[e]
   refine⟨⟨g0,hh,h.it,hS0,h.notok,rfl,⟨cs,hcs⟩,by show g.bk (ρ 0)=g.bk o; rw[h.zero],fun k=>Iff.rfl⟩,⟨0,_,hcs,rfl,by show g.bk (ρ 0)=g.bk o; rw[h.zero]⟩,fun b hb=>⟨ee hS0 hb,fun q'=>nc hS0 h.notok hb q'⟩⟩
  ·have e:g2.fp o=g.fp o:=funext fun b=>propext (hfo c b)
   rw[e]
   exact hS.abs o r (h.off o _ c h1 rfl).1
 ·obtain⟨o,ob,h1,h2,h3⟩:=ho
  by_cases c:o=q
  ·subst c
   rw[qabs h1] at h3
   exact h.sub.own ((hfq b).1 h3)
  ·exact⟨o,ob,(h.off o ob c h1 h2).1,h2,(blko c).1 h3⟩
theorem AW.shut [Dfr] {P:Program} {gl:az} {n:Nat} {c:Code} {Q:Ex→Env→ae→Prop} {e:Env} {H H2:ae} {ρ:Nat→Nat} {hh:ae} {q:Nat} {I:ae→Prop} (h:ShutH ρ hh q I H H2) (hk:AW P gl n c Q e H2):AW P gl n c Q e H:=by
 intro hd g a w hst
 obtain⟨g2,k1,k2,k3⟩:=hst.sim.I3 h
 refine wp_mono (hk hd g2 a w ⟨k1,hst.glob.mono k3,hst.env.mono k3,hst.dfr⟩) ?_
 rintro ex a' w' ⟨ex',g',e',H',j0,j1,j2,j3⟩
 exact⟨ex',g',e',H',j0,j1,k2.trans j2,j3⟩
theorem AW.MB [Dfr] {P:Program} {gl:az} {n:Nat} {c:Code} {Q:Ex→Env→ae→Prop} {e:Env} {H:ae} (hk:AW P gl n c (fun ex e' H'=>∃(ρ:Nat→Nat) (hh:ae) (q:Nat) (I:ae→Prop) (H2:ae),ShutH ρ hh q I H' H2∧Q ex e' H2) e H):AW P gl n c Q e H:=by
 intro hd g a w hst
 refine wp_mono (hk hd g a w hst) ?_
 rintro ex a' w' ⟨ex',g',e',H',j0,j1,j2,ρ,hh,q,I,H2,h,j3⟩
 obtain⟨g2,k1,k2,k3⟩:=j1.sim.I3 h
 exact⟨ex',g2,e',H2,j0,⟨k1,j1.glob.mono k3,j1.env.mono k3,j1.dfr⟩,j2.trans k2,j3⟩
inductive Nm (ρ:Nat→Nat) (n:Nat):PV→PV→Prop where
 | low {x:PV} (h:Low 0 x):Nm ρ n x x
 | arr (o off len cap:Nat) (h:o<n):Nm ρ n (.arr o off len cap) (.arr (ρ o) off len cap)
inductive NmL (ρ:Nat→Nat) (n:Nat):List PV→List PV→Prop where
 | nil:NmL ρ n [] []
 | cons {x y:PV} {xs ys:List PV} (h:Nm ρ n x y) (hs:NmL ρ n xs ys):NmL ρ n (x::xs) (y::ys)
theorem NmL.low {ρ:Nat→Nat} {n:Nat}:∀ {xs:List PV},(∀ x∈xs,Low 0 x)→NmL ρ n xs xs
 | [],_=> .nil
 | x::xs,h=> .cons (.low (h x (by simp))) (NmL.low fun y hy=>h y (by simp[hy]))
theorem NmL.length {ρ:Nat→Nat} {n:Nat} {xs ys:List PV} (h:NmL ρ n xs ys):xs.length=ys.length:=by
 induction h with
 | nil=>rfl
 | cons _ _ ih=>simp[ih]
theorem NmL.get {ρ:Nat→Nat} {n:Nat} {xs ys:List PV} (h:NmL ρ n xs ys):∀(q:Nat) (x y:PV),xs[q]?=some x→ys[q]?=some y→Nm ρ n x y:=by
 induction h with
 | nil=>intro q x y h; simp at h
 | cons h _ ih=>
  intro q x y h1 h2
  cases q with
  | zero=>simp at h1 h2; subst h1; subst h2; exact h
  | succ q=>exact ih q x y (by simpa using h1) (by simpa using h2)
theorem Nm.to {ρ:Nat→Nat} {n:Nat} {g0 g2:Gh} {w:World} (hbk:∀ o,o<n→ρ o<g2.n∧g2.bk (ρ o)=g0.bk o) (himm:g2.imm=g0.imm) {x y:PV} (h:Nm ρ n x y) {v:Value} (hv:Rel g0 w x v):Rel g2 w y v:=by
 cases h with
 | low h=>exact dK hv h himm
 | arr o off len cap ho=>
  cases hv
  obtain⟨h1,h2⟩:=hbk o ho
  rw[← h2]; exact .arr _ _ _ _ h1
theorem NmL.to {ρ:Nat→Nat} {n:Nat} {g0 g2:Gh} {w:World} (hbk:∀ o,o<n→ρ o<g2.n∧g2.bk (ρ o)=g0.bk o) (himm:g2.imm=g0.imm) {xs ys:List PV} (h:NmL ρ n xs ys) {vs:List Value} (hr:aQ g0 w xs vs):aQ g2 w ys vs:=by
 refine⟨by rw[← h.length]; exact hr.1,fun q y u hy hu=>?_⟩
 have hq:q<xs.length:=by rw[h.length]; exact(List.getElem?_eq_some_iff.1 hy).1
 exact(h.get q xs[q] y (List.getElem?_eq_getElem hq) hy).to hbk himm (hr.2 q _ u (List.getElem?_eq_getElem hq) hu)
def df (q N:Nat):Nat→Nat:=fun k=>if k=0 then q else N+(k-1)
structure OpenH (q:Nat) (hh H H2:ae):Prop where
 len:H2.length=H.length+(hh.length-1)
 off:∀ o,o<H.length→o≠q→H2[o]?=H[o]?
 on:∀(k:Nat) (a:Ob),hh[k]?=some a→a = .dead∧H2[df q H.length k]?=some .dead∨∃ cs cs',a = .cells cs∧H2[df q H.length k]?=some (.cells cs')∧NmL (df q H.length) hh.length cs cs'
theorem Sim.yA {g:Gh} {H:ae} {w:World} (hS:Sim g H w) {q:Nat} {I:ae→Prop} (hq:H[q]?=some (.abs (whole I))):∃ hh,I hh∧kr hh∧∀ H2,OpenH q hh H H2→∃ g2,Sim g2 H2 w∧Ext g H w g2 H2 w∧bO g w g2 w:=by
 obtain⟨⟨g0,hh,h1,hS0,h3,h4,h5,h6,h7⟩,h8,h9⟩:=hS.abs q _ hq
 have hql:=(List.getElem?_eq_some_iff.1 hq).1
 have hn0:0<hh.length:=by obtain⟨cs,e⟩:=h5; exact(List.getElem?_eq_some_iff.1 e).1
 refine⟨hh,h1,h5,fun H2 ho=>?_⟩
 have hn:g.n=H.length:=hS.n
 let g2:Gh:=⟨H2.length,fun o=>if o<H.length then g.bk o else g0.bk (o-H.length+1),fun o=>if o<H.length then g.en o else g0.en (o-H.length+1),fun o=>if o<H.length then g.sz o else g0.sz (o-H.length+1),g.imm,g.fp⟩
 have hlen:=ho.len
 have hbk:∀ k,k<hh.length→df q H.length k<g2.n∧g2.bk (df q H.length k)=g0.bk k:=by
  intro k hk
  unfold df
  by_cases c:k=0
  ·subst c
   rw[if_pos rfl]
   exact⟨by show q<H2.length; omega,by show(if _ then _ else _)=_; rw[if_pos hql,h6]⟩
  ·rw[if_neg c]
   exact⟨by show _<H2.length; omega,by show(if _ then _ else _)=_; rw[if_neg (by omega)]; congr 1; omega⟩
 have himm:g2.imm=g0.imm:=h4.symm
 have hgx:bO g w g2 w:=by
  refine⟨by show g.n≤H2.length; omega,fun o ho=>?_,fun o ho=>?_,fun o ho=>?_,fun _ _ h=>h,fun _ _ _=>rfl⟩
  ·show(if _ then _ else _)=_; rw[if_pos (by omega)]
  ·show(if _ then _ else _)=_; rw[if_pos (by omega)]
  ·show(if _ then _ else _)=_; rw[if_pos (by omega)]
 have bk2:∀ {o:Nat},o<H.length→g2.bk o=g.bk o:=fun ho=>hgx.bk _ (by omega)
 have cases2:∀(o:Nat) (b:Ob),H2[o]?=some b→b.alive=true→(∃ k cs cs',k<hh.length∧hh[k]?=some (.cells cs)∧b = .cells cs'∧o=df q H.length k∧NmL (df q H.length) hh.length cs cs')∨(o<H.length∧o≠q∧H[o]?=some b):=by
  intro o b hb hal
  have hol:=(List.getElem?_eq_some_iff.1 hb).1
  have fromX:∀ k,k<hh.length→o=df q H.length k→∃ cs cs',hh[k]?=some (.cells cs)∧b = .cells cs'∧NmL (df q H.length) hh.length cs cs':=by
   intro k hk e
   rcases ho.on k _ (List.getElem?_eq_getElem hk) with⟨e1,e2⟩|⟨cs,cs',e1,e2,e3⟩
   ·rw[← e,hb] at e2; cases e2; cases hal
   ·rw[← e,hb] at e2; cases e2
    exact⟨cs,cs',by rw[List.getElem?_eq_getElem hk,e1],rfl,e3⟩
  by_cases c:o<H.length
  ·by_cases c2:o=q
   ·obtain⟨cs,cs',j1,j2,j3⟩:=fromX 0 hn0 (by unfold df; rw[if_pos rfl]; exact c2)
    exact .inl ⟨0,cs,cs',hn0,j1,j2,by unfold df; rw[if_pos rfl]; exact c2,j3⟩
   ·exact .inr ⟨c,c2,by rw[← ho.off o c c2]; exact hb⟩
  ·have e:o=df q H.length (o-H.length+1):=by unfold df; rw[if_neg (by omega)]; omega
   obtain⟨cs,cs',j1,j2,j3⟩:=fromX (o-H.length+1) (by omega) e
   exact .inl ⟨_,cs,cs',by omega,j1,j2,e,j3⟩
 have apart:∀ {o:Nat} {b:Ob} {k:Nat} {cs:List PV},o≠q→H[o]?=some b→b.alive=true→hh[k]?=some (.cells cs)→¬ blk g b o (g0.bk k):=by
  intro o b k cs c1 c2 c3 c4 c5
  have:g.fp q (g0.bk k):=(h7 _).2 ⟨k,_,c4,rfl,rfl⟩
  exact c1 (hS.inj o q b _ (g0.bk k) c2 hq c3 rfl c5 this)
 have blko:∀ {o:Nat} {ob:Ob} {b:Nat},o<H.length→(blk g2 ob o b↔blk g ob o b):=fun {o ob b} hol=>dF (g:=g) (g':=g2) (bk2 hol) (fun k=>Iff.rfl) ob b
 refine⟨g2,⟨rfl,fun o o' b b' x a1 a2 a3 a4 a5 a6=>?_,fun o cs a1=>?_,fun o a1=>?_,hS.imm,fun o r a1=>?_⟩,⟨hgx,Nat.le_refl _,fun b _ hb=>?_,fun _ _ _=>rfl,rfl,rfl,rfl,fun _ _ _ h=> .inl h⟩,hgx⟩
 ·rcases cases2 o b a1 a3 with⟨k,cs,cs',k1,k2,rfl,rfl,k3⟩|⟨k1,k2,k3⟩<;>rcases cases2 o' b' a2 a4 with⟨j,ds,ds',j1,j2,rfl,rfl,j3⟩|⟨j1,j2,j3⟩
  ·have e1:g2.bk (df q H.length k)=x:=a5
   have e2:g2.bk (df q H.length j)=x:=a6
   rw[(hbk k k1).2] at e1
   rw[(hbk j j1).2] at e2
   rw[hS0.inj k j _ _ x k2 j2 rfl rfl e1 e2]
  ·have e1:g2.bk (df q H.length k)=x:=a5
   rw[(hbk k k1).2] at e1
   subst e1
   exact(apart j2 j3 a4 k2 ((blko j1).1 a6)).elim
  ·have e1:g2.bk (df q H.length j)=x:=a6
   rw[(hbk j j1).2] at e1
   subst e1
   exact(apart k2 k3 a3 j2 ((blko k1).1 a5)).elim
  ·exact hS.inj o o' b b' x k3 j3 a3 a4 ((blko k1).1 a5) ((blko j1).1 a6)
 ·rcases cases2 o _ a1 rfl with⟨k,ds,ds',k1,k2,k3,rfl,k4⟩|⟨k1,k2,k3⟩
  ·cases k3
   obtain⟨⟨C,ty,e1,e2⟩,e3⟩:=hS0.cells k ds k2
   rw[(hbk k k1).2]
   exact⟨⟨C,ty,e1,k4.to hbk himm e2⟩,fun q' hi=>e3 q' (by rw[← himm]; exact hi)⟩
  ·obtain⟨⟨C,ty,e1,e2⟩,e3⟩:=hS.cells o cs k3
   rw[bk2 k1]
   exact⟨⟨C,ty,e1,e2.mono hgx⟩,e3⟩
 ·rcases cases2 o _ a1 rfl with⟨k,ds,ds',k1,k2,k3,_⟩|⟨k1,k2,k3⟩
  ·cases k3
  ·obtain⟨⟨C,ty,e1,e2⟩,e3⟩:=hS.tok o k3
   rw[bk2 k1,hgx.en o (by omega),hgx.sz o (by omega)]
   exact⟨⟨C,ty,e1,e2⟩,e3⟩
 ·rcases cases2 o _ a1 rfl with⟨k,ds,ds',k1,k2,k3,_⟩|⟨k1,k2,k3⟩
  ·cases k3
  ·have:=hS.abs o r k3
   rw[bk2 k1]
   exact this
 ·obtain⟨o,ob,a1,a2,a3⟩:=hb
  rcases cases2 o ob a1 a2 with⟨k,ds,ds',k1,k2,rfl,rfl,k4⟩|⟨k1,k2,k3⟩
  ·have e1:g2.bk (df q H.length k)=b:=a3
   rw[(hbk k k1).2] at e1
   exact⟨q,_,hq,rfl,(h7 b).2 ⟨k,_,k2,rfl,e1⟩⟩
  ·exact⟨o,ob,k3,a2,(blko k1).1 a3⟩
theorem AW.yA [Dfr] {P:Program} {gl:az} {n:Nat} {c:Code} {Q:Ex→Env→ae→Prop} {e:Env} {H:ae} {q:Nat} {I:ae→Prop} (hq:H[q]?=some (.abs (whole I))) (h:∀ hh,I hh→kr hh→∃ H2,OpenH q hh H H2∧AW P gl n c Q e H2):AW P gl n c Q e H:=by
 intro hd g a w hst
 obtain⟨hh,h1,h2,h3⟩:=hst.sim.yA hq
 obtain⟨H2,h4,hk⟩:=h hh h1 h2
 obtain⟨g2,k1,k2,k3⟩:=h3 H2 h4
 refine wp_mono (hk hd g2 a w ⟨k1,hst.glob.mono k3,hst.env.mono k3,hst.dfr⟩) ?_
 rintro ex a' w' ⟨ex',g',e',H',j0,j1,j2,j3⟩
 exact⟨ex',g',e',H',j0,j1,k2.trans j2,j3⟩
theorem rf {ρ ρ':Nat→Nat} {n:Nat} (e:∀ k,k<n→ρ k=ρ' k) {x y:PV} (h:Ren ρ n x y):Ren ρ' n x y:=by
 induction h with
 | low h=>exact .low h
 | arr o off len cap h=>rw[e o h]; exact .arr _ _ _ _ h
 | ptr o off h=>rw[e o h]; exact .ptr _ _ h
 | ltok es o h hl=>rw[e o h]; exact .ltok _ _ h hl
 | fn f cs cs' hl _ ih=>exact .fn f cs cs' hl ih
 | agg cs cs' hl _ ih=>exact .agg cs cs' hl ih
 | tup cs cs' hl _ ih=>exact .tup cs cs' hl ih
def jr (o N:Nat):Nat→Nat:=fun k=>if k=0 then o else N
theorem BY {P:Program} {gl:az} (hgl:aO gl) {f:FuncId} {args0 args cs:List PV} {H:ae} {o:Nat} {K:PV→ae→Prop} (hc:iz H o cs) (hcs:∀ x∈cs,Low 0 x) (ha:aU (fun _=>o) 1 args0 args)
  (h:ax P gl f args0 [.cells cs] (fun x X'=>(∃ cs' x',X'=[.cells cs']∧(∀ x∈cs',Low 0 x)∧Ren (jr o H.length) 1 x x'∧K x' (H.set o (.cells cs')))∨
   (∃ cs' cs2 x',X'=[.cells cs',.cells cs2]∧(∀ x∈cs',Low 0 x)∧(∀ x∈cs2,Low 0 x)∧Ren (jr o H.length) 2 x x'∧K x' (H.set o (.cells cs')++[.cells cs2])))):ax P gl f args H K:=by
 have hol:=(List.getElem?_eq_some_iff.1 hc).1
 have hsub:Sub (fun _=>o) [.cells cs] H:=by
  refine⟨fun _ _=>hol,fun a b h1 h2 _=>by simp at h1 h2; omega,fun j a hj=>?_⟩
  have e1:=(List.getElem?_eq_some_iff.1 hj).1
  have:j=0:=by simpa using e1
  subst this; cases hj
  exact⟨_,hc,.cells (aU.low hcs)⟩
 have e:∀ n,n≤2→∀ k,k<n→jr o H.length k=aM (fun _=>o) [Ob.cells cs].length H.length k:=by
  intro n hn k hk
  unfold aM jr
  by_cases c:k=0
  ·subst c; simp
  ·rw[if_neg c,if_neg (by simp; omega)]
   have:k=1:=by omega
   subst this; simp
 refine aZ hgl hsub ha (aL h fun x X' hh=>?_)
 rcases hh with⟨cs',x',rfl,h1,h2,h3⟩|⟨cs',cs2,x',rfl,h1,h2,h3,h4⟩
 ·refine⟨x',H.set o (.cells cs'),⟨Nat.le_refl _,by simp,fun j a hj=>?_,fun o' h5 h6=>?_⟩,rf (e 1 (by decide)) h2,h3⟩
  ·have e1:=(List.getElem?_eq_some_iff.1 hj).1
   have:j=0:=by simpa using e1
   subst this; cases hj
   exact⟨.cells cs',by rw[← e 1 (by decide) 0 (by decide)]; simp[jr,hol],.cells (aU.low h1),fun _=>rfl⟩
  ·have:=h6 0 (by simp)
   rw[List.getElem?_set_ne this]
 ·refine⟨x',H.set o (.cells cs')++[.cells cs2],⟨by simp,by simp,fun j a hj=>?_,fun o' h5 h6=>?_⟩,rf (e 2 (by decide)) h3,h4⟩
  ·have e1:=(List.getElem?_eq_some_iff.1 hj).1
   simp at e1
   have:j=0∨j=1:=by omega
   rcases this with rfl|rfl
   ·cases hj
    exact⟨.cells cs',by rw[← e 2 (by decide) 0 (by decide),List.getElem?_append_left (by simp[jr,hol])]; simp[jr,hol],.cells (aU.low h1),fun _=>rfl⟩
   ·cases hj
    exact⟨.cells cs2,by rw[← e 2 (by decide) 1 (by decide),List.getElem?_append_right (by simp[jr])]; simp[jr],.cells (aU.low h2),fun _=>rfl⟩
  ·have:=h6 0 (by simp)
   rw[List.getElem?_append_left (by simpa using h5),List.getElem?_set_ne this]
structure Shape (N:Nat) (V:Nat→PV) (G:Nat→ae):Prop where
 len:∀ b,(G b).length=N
 v:∀(ρ:Nat→Nat) (n b b':Nat),b+N≤n→(∀ k,k<N→ρ (b+k)=b'+k)→Ren ρ n (V b) (V b')
 g:∀(ρ:Nat→Nat) (n b b':Nat),b+N≤n→(∀ k,k<N→ρ (b+k)=b'+k)→∀(k:Nat) (a:Ob),(G b)[k]?=some a→∃ a',(G b')[k]?=some a'∧dA ρ n a a'∧(a'.alive=true→a.alive=true)
theorem vN {P:Program} {gl:az} (hgl:aO gl) {f:FuncId} {rest:List PV} {H:ae} {q r:Nat} {R:Rep} {K:PV→ae→Prop} (ho:cj H q r R) (hrest:∀ x∈rest,Low 0 x)
  (h:ax P gl f (.ptr 0 0::rest) [.cells [.ptr 1 0],.abs R] (fun x H'=>∃(N:Nat) (V:Nat→PV) (G:Nat→ae) (b:Nat) (R':Rep),Shape N V G∧x=V b∧2≤b∧H'[0]?=some (.cells [.ptr 1 0])∧H'[1]?=some (.abs R')∧(∀(k:Nat) (a:Ob),(G b)[k]?=some a→H'[b+k]?=some a)∧K (V H.length) (H.set r (.abs R')++G H.length))):ax P gl f (.ptr q 0::rest) H K:=by
 have hq:=(List.getElem?_eq_some_iff.1 ho.1).1
 have hr:=(List.getElem?_eq_some_iff.1 ho.2).1
 have hne:q≠r:=fun e=>by have h1:=ho.1; rw[e,ho.2] at h1; cases h1
 refine aZ hgl (tJ ho) (.cons (.ptr (ρ:=fun o=>if o=0 then q else r) 0 0 (by simp)) (aU.low hrest)) (cg hgl (aL h fun x H' e=>?_))
 obtain⟨N,V,G,b,R',hs,rfl,hb,h0,h1,hg,hk⟩:=e
 have hbN:b+N≤H'.length∨N=0:=by
  rcases Nat.eq_zero_or_pos N with e|e
  ·exact .inr e
  ·have hl:=hs.len b
   have:=hg (N-1) ((G b)[N-1]'(by omega)) (List.getElem?_eq_getElem _)
   have:=(List.getElem?_eq_some_iff.1 this).1
   exact .inl (by omega)
 have hl2:=hs.len 2
 have hlH:=hs.len H.length
 let ρ1:Nat→Nat:=fun k=>if k<2 then k else b+(k-2)
 have hX:([.cells [.ptr 1 0],.abs R']++G 2:ae).length=2+N:=by simp[hl2]; omega
 have e1:∀ k,k<N→ρ1 (2+k)=b+k:=fun k _=>by show(if _ then _ else _)=_; rw[if_neg (by omega)]; omega
 refine⟨V 2,[.cells [.ptr 1 0],.abs R']++G 2,ρ1,⟨fun o ho'=>?_,fun o o' k1 k2 e=>?_,fun o a ho'=>?_⟩,by simp,fun o ho'=>?_,hs.v ρ1 _ 2 b (Nat.le_of_eq hX.symm) e1,?_⟩
 ·rw[hX] at ho'
  show(if o<2 then o else b+(o-2))<H'.length
  have:=(List.getElem?_eq_some_iff.1 h1).1
  split
  ·omega
  ·rcases hbN with c|c<;>omega
 ·rw[hX] at k1 k2
  have e:(if o<2 then o else b+(o-2))=(if o'<2 then o' else b+(o'-2)):=e
  split at e<;>split at e<;>omega
 ·have hol:=(List.getElem?_eq_some_iff.1 ho').1
  rw[hX] at hol
  by_cases c:o<2
  ·have:o=0∨o=1:=by omega
   rcases this with rfl|rfl
   ·cases ho'
    exact⟨_,h0,.cells (.cons (.ptr (ρ:=ρ1) 1 0 (by rw[hX]; omega)) .nil)⟩
   ·cases ho'
    exact⟨_,h1,.abs _⟩
  ·rw[List.getElem?_append_right (by simp; omega)] at ho'
   obtain⟨a',j1,j2,_⟩:=hs.g ρ1 _ 2 b (Nat.le_of_eq hX.symm) e1 _ _ ho'
   refine⟨a',?_,j2⟩
   have:=hg _ _ j1
   show H'[if o<2 then o else b+(o-2)]?=_
   rw[if_neg c]
   exact this
 ·have:o=0∨o=1:=by simp at ho'; omega
  rcases this with rfl|rfl<;>rfl
 ·have e2:∀ k,k<N→aM (fun o=>if o=0 then q else r) [Ob.cells [PV.ptr 1 0],Ob.abs R].length H.length (2+k)=H.length+k:=fun k _=>by
   simp only[aM,List.length_cons,List.length_nil]
   rw[if_neg (by omega)]; omega
  refine⟨V H.length,H.set r (.abs R')++G H.length,⟨by simp,by simp[hl2,hlH],fun o a ho'=>?_,fun o hl hn=>?_⟩,hs.v _ _ 2 H.length (Nat.le_of_eq hX.symm) e2,hk⟩
  ·have hol:=(List.getElem?_eq_some_iff.1 ho').1
   rw[hX] at hol
   by_cases c:o<2
   ·have:o=0∨o=1:=by omega
    rcases this with rfl|rfl
    ·cases ho'
     refine⟨.cells [.ptr r 0],?_,.cells (.cons ?_ .nil),fun _=>rfl⟩
     ·simp only[aM,List.length_cons,List.length_nil]
      rw[if_pos (by omega),if_pos trivial,List.getElem?_append_left (by simpa using hq),List.getElem?_set_ne (Ne.symm hne)]
      exact ho.1
     ·have:=Ren.ptr (ρ:=aM (fun o=>if o=0 then q else r) [Ob.cells [PV.ptr 1 0],Ob.abs R].length H.length) (n:=([.cells [.ptr 1 0],.abs R']++G 2:ae).length) 1 0 (by rw[hX]; omega)
      simpa[aM] using this
    ·cases ho'
     refine⟨.abs R',?_,.abs _,fun _=>rfl⟩
     simp only[aM,List.length_cons,List.length_nil]
     rw[if_pos (by omega),if_neg (by decide),List.getElem?_append_left (by simpa using hr),List.getElem?_set_self hr]
   ·rw[List.getElem?_append_right (by simp; omega)] at ho'
    obtain⟨a',j1,j2,j3⟩:=hs.g (aM (fun o=>if o=0 then q else r) [Ob.cells [PV.ptr 1 0],Ob.abs R].length H.length) ([.cells [.ptr 1 0],.abs R']++G 2:ae).length 2 H.length (Nat.le_of_eq hX.symm) e2 _ _ ho'
    refine⟨a',?_,j2,j3⟩
    have:aM (fun o=>if o=0 then q else r) [Ob.cells [PV.ptr 1 0],Ob.abs R].length H.length o=H.length+(o-2):=by simp[aM,c]
    rw[this,List.getElem?_append_right (by simp)]
    simpa using j1
  ·have:=hn 1 (by simp)
   simp at this
   rw[List.getElem?_append_left (by simpa using hl),List.getElem?_set_ne this]
theorem qG [Dfr] {P:Program} {gl:az} (hgl:aO gl) {n:Nat} {x:Code} {Q:Ex→Env→ae→Prop} {e:Env} {H:ae} {σ:Type} (slots:List Nat) (I:σ→Prop) (V:σ→List PV) (Hp:σ→ae) (m:σ→Nat) (s0:σ)
  (h0:I s0) (he:slots.map e=V s0) (hH:H=Hp s0)
  (round:∀ s,I s→AW P gl n x (fun ex e' H'=>sX Q H.length slots I V Hp m s ex (slots.map e') H') (ak slots (V s)) (Hp s)):AW P gl n (.loop x) Q e H:=by
 intro hd g a w hst
 simp only[bM] at hd
 have hng:g.n=H.length:=hst.sim.n
 refine wp_loop_ghost (fun k a' w'=>∃ g' s,k=m s∧I s∧St gl n g' (ak slots (V s)) (Hp s) a' w'∧Ext g H w g' (Hp s) w') (m s0) ⟨g,s0,rfl,h0,by rw[← hH,← he]; exact hst.weaken (bH e slots),by rw[← hH]; exact .refl g H w⟩ ?_
 rintro k a1 w1 ⟨g1,s,rfl,hI,hst1,hx1⟩
 refine wp_mono (round s hI hd g1 a1 w1 hst1) ?_
 rintro ex a' w' ⟨ex',g',e',H',k0,k1,k2,k3⟩
 have k1':=k1.weaken (bH e' slots)
 cases ex<;>cases ex'<;>first|exact k0.elim|skip
 ·obtain⟨s',hm,hI',hr⟩:=k3
  obtain⟨g3,j1,j2⟩:=k1'.kP hgl (hx1.trans k2) hng hr
  exact⟨m s',hm,g3,s',rfl,hI',j1,j2⟩
 ·obtain⟨vs2,H2,j1,j3⟩:=k3
  obtain⟨g3,j4,j5⟩:=k1'.kP hgl (hx1.trans k2) hng j1
  exact⟨.exit _,g3,_,H2,k0,j4,j5,j3⟩
 ·obtain⟨vs2,H2,j1,j3⟩:=k3
  obtain⟨g3,j4,j5⟩:=k1'.kP hgl (hx1.trans k2) hng j1
  exact⟨.ret,g3,_,H2,k0,j4,j5,j3⟩
def onQ {α σ:Type} (f:α→List PV) (acc:σ→List α) (I:σ→Prop) (m:σ→Nat) (Q:Ex→Env→ae→Prop) (B:ae) (slots:List Nat) (V:PV→σ→List PV) (s:σ):Ex→List PV→ae→Prop:=fun ex vs H'=>match ex with
 | .normal=>∃ s',m s'<m s∧I s'∧∃ X k,H'=B++X∧(B++X)[k]?=some .tok∧B.length≤k∧vs=V (.list ((acc s').map f) (.tok k)) s'
 | .exit j=>vs=V (.list ((acc s).map f) (.tok B.length)) s∧H'=B++[.tok]∧Q (.exit j) (ak slots (V (.list ((acc s).map f) (.tok B.length)) s)) (B++[.tok])∧Q (.exit j) (ak slots (V (.list ((acc s).map f) (.tok (B.length+1))) s)) (B++[.dead,.tok])
 | .ret=>False
def oH (B:ae):Prop:=∀(o:Nat) cs,B[o]?=some (.cells cs)→∀ x∈cs,Low 0 x∨∃ q off,q<B.length∧x = .ptr q off
theorem oH.up {B:ae} (h:oH B) (o:Nat) (cs:List PV) (ho:B[o]?=some (.cells cs)) (x:PV) (hx:x∈cs):Low B.length x:=by
 rcases h o cs ho x hx with h|⟨q,off,h,rfl⟩
 ·exact h.up
 ·exact .ptr _ _ h
theorem oH.ob {B:ae} (h:oH B) {ρ:Nat→Nat} {n:Nat} {o:Nat} {a:Ob} (ho:B[o]?=some a) (hr:∀ o,o<B.length→ρ o=o) (hn:B.length≤n):dA ρ n a a:=by
 cases a with
 | cells cs=>
  refine .cells ?_
  have:=h o cs ho
  clear ho
  induction cs with
  | nil=>exact .nil
  | cons x cs ih=>
   refine .cons ?_ (ih fun y hy=>this y (List.mem_cons_of_mem _ hy))
   rcases this x (List.mem_cons_self ..) with h|⟨q,off,h,rfl⟩
   ·exact .low h
   ·have:=Ren.ptr (ρ:=ρ) (n:=n) q off (by omega)
    rwa [hr q h] at this
 | tok=>exact .tok
 | dead=>exact .dead _
 | abs r=>exact .abs r
def MP (n0:Nat) (V:PV→List PV):Prop:=∀(ρ:Nat→Nat) (n k:Nat) (es:List (List PV)),(∀ o,o<n0→ρ o=o)→n0≤n→k<n→(∀ x∈es.flatten,Low 0 x)→aU ρ n (V (.list es (.tok k))) (V (.list es (.tok (ρ k))))
def ρat (n0 k:Nat):Nat→Nat:=fun o=>if o<n0 then o else k
theorem eX {n0 k o:Nat} (h:o<n0):ρat n0 k o=o:=by unfold ρat; rw[if_pos h]
theorem lJ {n0 k o:Nat} (h:¬ o<n0):ρat n0 k o=k:=by unfold ρat; rw[if_neg h]
theorem cA {B X:ae} {o:Nat} (h:o<B.length):(B++X)[o]?=B[o]?:=List.getElem?_append_left h
theorem jc {B X:ae} (hB:oH B) {vs' vs:List PV} {k:Nat} (h:(B++X)[k]?=some .tok) (hk:B.length<k) (hv:aU (ρat (B.length+1) k) (B.length+2) vs vs'):ef (B.length+1) vs' (B++X) vs (B++[.dead,.tok]):=by
 have hl:=(List.getElem?_eq_some_iff.1 h).1
 refine⟨vs',B++X,ρat (B.length+1) k,.refl _,.refl _,⟨fun o ho=>?_,fun a b h1 h2 h3=>?_,fun j a hj=>?_⟩,by simp,fun o ho=>eX ho,by rw[show(B++[Ob.dead,Ob.tok]).length=B.length+2 by simp]; exact hv⟩
 ·by_cases c:o<B.length+1
  ·rw[eX c]; omega
  ·rw[lJ c]; exact hl
 ·simp at h1 h2
  by_cases ca:a<B.length+1<;>by_cases cb:b<B.length+1
  ·rw[eX ca,eX cb] at h3; exact h3
  ·rw[eX ca,lJ cb] at h3; omega
  ·rw[lJ ca,eX cb] at h3; omega
  ·omega
 ·have e1:=(List.getElem?_eq_some_iff.1 hj).1
  simp at e1
  by_cases c:j<B.length
  ·rw[cA c] at hj
   exact⟨a,by rw[eX (by omega),cA c]; exact hj,hB.ob hj (fun o ho=>eX (by omega)) (by simp)⟩
  ·by_cases c2:j=B.length
   ·subst c2
    rw[List.getElem?_append_right (Nat.le_refl _),Nat.sub_self] at hj
    cases hj
    exact⟨_,by rw[eX (by omega)]; exact List.getElem?_eq_getElem (by omega),.dead _⟩
   ·have:j=B.length+1:=by omega
    subst this
    rw[List.getElem?_append_right (by omega),show B.length+1-B.length=1 by omega] at hj
    cases hj
    exact⟨.tok,by rw[lJ (by omega)]; exact h,.tok⟩
theorem jM {B X:ae} (hB:oH B) {vs' vs:List PV} (h:(B++X)[B.length]?=some .tok) (hv:aU (fun o=>o) (B.length+1) vs vs'):ef (B.length+1) vs' (B++X) vs (B++[.tok]):=by
 have hl:=(List.getElem?_eq_some_iff.1 h).1
 refine⟨vs',B++X,fun o=>o,.refl _,.refl _,⟨fun o ho=>?_,fun a b _ _ h3=>h3,fun j a hj=>?_⟩,by simp,fun o ho=>rfl,by rw[show(B++[Ob.tok]).length=B.length+1 by simp]; exact hv⟩
 ·simp at ho; omega
 ·have e1:=(List.getElem?_eq_some_iff.1 hj).1
  simp at e1
  by_cases c:j<B.length
  ·rw[cA c] at hj
   exact⟨a,by rw[cA c]; exact hj,hB.ob hj (fun _ _=>rfl) (by simp)⟩
  ·have:j=B.length:=by omega
   subst this
   rw[List.getElem?_append_right (Nat.le_refl _),Nat.sub_self] at hj
   cases hj
   exact⟨_,h,.tok⟩
theorem rh [Dfr] {α σ:Type} {f:α→List PV} {acc:σ→List α} {I:σ→Prop} {m:σ→Nat} {P:Program} {gl:az} (hgl:aO gl) {n:Nat} {Tb:Tab} (hT:aW P gl Tb) {L:j7} {hn:Oper→Nat} {x:Code} (hL:LOk P gl n x [] L) {Q:Ex→Env→ae→Prop} {e:Env} {H:ae} (slots:List Nat) (V:PV→σ→List PV) (B:ae) (s0:σ) (hB:oH B)
  (hf:∀ s,I s→∀ a∈acc s,∀ x∈f a,Low 0 x) (hren:∀ s,I s→MP B.length (fun T=>V T s)) (hsl:∀ T s,slots.map (ak slots (V T s))=V T s)
  (h0:I s0) (he:slots.map e=V (.list ((acc s0).map f) (.tok B.length)) s0) (hH:H=B++[.tok])
  (round:∀ s,I s→Holds (wpc br P gl Tb L hn x [] (ak slots (V (.list ((acc s).map f) (.tok B.length)) s)) (B++[.tok]) (fun ex e' H'=>onQ f acc I m Q B slots V s ex (slots.map e') H'))):AW P gl n (.loop x) Q e H:=by
 subst hH
 have hl:∀ s,I s→∀ x∈((acc s).map f).flatten,Low 0 x:=fun s hs=>bl (hf s hs)
 have lenX:(B++[Ob.tok]).length=B.length+1:=by simp
 have lenH:(B++[Ob.dead,Ob.tok]).length=B.length+2:=by simp
 have get1:(B++[Ob.dead,Ob.tok])[B.length+1]?=some .tok:=by rw[List.getElem?_append_right (by omega),show B.length+1-B.length=1 by omega]; rfl
 have get0:(B++[Ob.tok])[B.length]?=some .tok:=by rw[List.getElem?_append_right (Nat.le_refl _),Nat.sub_self]; rfl
 have rid:∀ s,I s→aU (fun o=>o) (B.length+1) (V (.list ((acc s).map f) (.tok B.length)) s) (V (.list ((acc s).map f) (.tok B.length)) s):=fun s hs=>hren s hs (fun o=>o) (B.length+1) B.length _ (fun _ _=>rfl) (by omega) (by omega) (hl s hs)
 have rat:∀ s,I s→∀ k,aU (ρat (B.length+1) k) (B.length+2) (V (.list ((acc s).map f) (.tok (B.length+1))) s) (V (.list ((acc s).map f) (.tok k)) s):=fun s hs k=>by
  have:=hren s hs (ρat (B.length+1) k) (B.length+2) (B.length+1) _ (fun o ho=>eX (by omega)) (by omega) (by omega) (hl s hs)
  rwa [lJ (show ¬ B.length+1<B.length+1 by omega)] at this
 refine qG hgl (σ:=σ×Bool) slots (fun t=>I t.1) (fun t=>V (.list ((acc t.1).map f) (.tok (if t.2 then B.length+1 else B.length))) t.1) (fun t=>if t.2 then B++[.dead,.tok] else B++[.tok]) (fun t=>m t.1) (s0,false) h0 he rfl ?_
 rintro⟨s,b⟩ hI
 have hI:I s:=hI
 have body:=aY hT x [] hL _ _ _ (round s hI).out
 rw[lenX]
 cases b with
 | false=>
  refine body.mono fun ex e' H' k=>?_
  cases ex with
  | ret=>exact k.elim
  | exit j=>
   obtain⟨h1,h2,h3,_⟩:=k
   refine⟨_,B++[.tok],?_,h3⟩
   rw[h1,h2]
   exact jM hB get0 (rid s hI)
  | normal=>
   obtain⟨s',h1,h2,X,k,rfl,h3,h5,h4⟩:=k
   by_cases c:k=B.length
   ·subst c
    refine⟨(s',false),h1,h2,?_⟩
    rw[h4]
    exact jM hB h3 (rid s' h2)
   ·refine⟨(s',true),h1,h2,?_⟩
    rw[h4]
    exact jc hB h3 (by omega) (rat s' h2 k)
 | true=>
  have e1:ρat B.length (B.length+1) B.length=B.length+1:=lJ (by omega)
  have hsub:Sub (ρat B.length (B.length+1)) (B++[.tok]) (B++[.dead,.tok]):=by
   refine⟨fun o ho=>?_,fun a b h1 h2 h3=>?_,fun j a hj=>?_⟩
   ·rw[lenH]
    by_cases c:o<B.length
    ·rw[eX c]; omega
    ·rw[lJ c]; omega
   ·rw[lenX] at h1 h2
    by_cases ca:a<B.length<;>by_cases cb:b<B.length
    ·rw[eX ca,eX cb] at h3; exact h3
    ·rw[eX ca,lJ cb] at h3; omega
    ·rw[lJ ca,eX cb] at h3; omega
    ·omega
   ·have k1:=(List.getElem?_eq_some_iff.1 hj).1
    rw[lenX] at k1
    by_cases c:j<B.length
    ·rw[cA c] at hj
     exact⟨a,by rw[eX c,cA c]; exact hj,hB.ob hj (fun o ho=>eX ho) (by simp)⟩
    ·have:j=B.length:=by omega
     subst this
     rw[get0] at hj; cases hj
     exact⟨.tok,by rw[e1]; exact get1,.tok⟩
  have rv0:∀ s,I s→∀(ρ:Nat→Nat) n,(∀ o,o<B.length→ρ o=o)→ρ B.length=B.length+1→B.length<n→aU ρ n (V (.list ((acc s).map f) (.tok B.length)) s) (V (.list ((acc s).map f) (.tok (B.length+1))) s):=fun s hs ρ n h1 h2 h3=>by
   have:=hren s hs ρ n B.length _ h1 (by omega) h3 (hl s hs)
   rwa [h2] at this
  refine AW.frame hgl (H:=B++[.dead,.tok]) (ρ:=ρat B.length (B.length+1)) (X:=B++[.tok]) (slots:=slots) (outs:=slots) (vals0:=V (.list ((acc s).map f) (.tok B.length)) s) (fF:=V (.list ((acc s).map f) (.tok (B.length+1))) s) hsub (hsl _ _) (by rw[lenX]; exact rv0 s hI _ _ (fun o ho=>eX ho) e1 (by omega)) ?_
  rw[lenX,lenH]
  refine AW.kP hgl (slots:=slots) (body.mono fun ex e' H' k=>?_)
  rw[lenX]
  have x0:∀ o,o<B.length→aM (ρat B.length (B.length+1)) (B.length+1) (B.length+2) o=o:=fun o ho=>by unfold aM; rw[if_pos (by omega),eX ho]
  have x1:aM (ρat B.length (B.length+1)) (B.length+1) (B.length+2) B.length=B.length+1:=by unfold aM; rw[if_pos (by omega),e1]
  have x2:aM (ρat B.length (B.length+1)) (B.length+1) (B.length+2) (B.length+1)=B.length+2:=by unfold aM; rw[if_neg (by omega)]; omega
  have bh0:Behind (ρat B.length (B.length+1)) (B++[.tok]) (B++[.dead,.tok]) (B++[.tok]) (B++[.dead,.tok]):=by
   refine⟨Nat.le_refl _,by simp,fun o a ho=>?_,fun o ho hj=>rfl⟩
   rw[lenX,lenH]
   have k1:=(List.getElem?_eq_some_iff.1 ho).1
   rw[lenX] at k1
   by_cases c:o<B.length
   ·rw[cA c] at ho
    exact⟨a,by rw[x0 o c,cA c]; exact ho,hB.ob ho x0 (by omega),fun h=>h⟩
   ·have:o=B.length:=by omega
    subst this
    rw[get0] at ho; cases ho
    exact⟨.tok,by rw[x1]; exact get1,.tok,fun _=>rfl⟩
  have bh1:Behind (ρat B.length (B.length+1)) (B++[.tok]) (B++[.dead,.tok]) (B++[.dead,.tok]) (B++[.dead,.dead,.tok]):=by
   refine⟨by simp,by simp,fun o a ho=>?_,fun o ho hj=>?_⟩
   ·rw[lenX,lenH]
    have k1:=(List.getElem?_eq_some_iff.1 ho).1
    rw[lenH] at k1
    by_cases c:o<B.length
    ·rw[cA c] at ho
     exact⟨a,by rw[x0 o c,cA c]; exact ho,hB.ob ho x0 (by omega),fun h=>h⟩
    ·by_cases c2:o=B.length
     ·subst c2
      rw[List.getElem?_append_right (Nat.le_refl _),Nat.sub_self] at ho; cases ho
      exact⟨.dead,by rw[x1,List.getElem?_append_right (by omega),show B.length+1-B.length=1 by omega]; rfl,.dead _,fun h=>by cases h⟩
     ·have:o=B.length+1:=by omega
      subst this
      rw[get1] at ho; cases ho
      exact⟨.tok,by rw[x2,List.getElem?_append_right (by omega),show B.length+2-B.length=2 by omega]; rfl,.tok,fun _=>rfl⟩
   ·rw[lenH] at ho
    have h2:=hj B.length (by rw[lenX]; omega)
    rw[e1] at h2
    by_cases c:o<B.length
    ·rw[cA c,cA c]
    ·have:o=B.length:=by omega
     subst this
     rw[List.getElem?_append_right (Nat.le_refl _),List.getElem?_append_right (Nat.le_refl _),Nat.sub_self]; rfl
  have gd:(B++[Ob.dead,Ob.dead,Ob.tok])[B.length+2]?=some .tok:=by rw[List.getElem?_append_right (by omega),show B.length+2-B.length=2 by omega]; rfl
  cases ex with
  | ret=>exact k.elim
  | exit j=>
   obtain⟨h1,h2,_,h3⟩:=k
   refine⟨V (.list ((acc s).map f) (.tok B.length)) s,B++[.tok],?_,V (.list ((acc s).map f) (.tok (B.length+1))) s,B++[.dead,.tok],bh0,?_,?_⟩
   ·rw[h1,h2]
    exact jM hB get0 (rid s hI)
   ·rw[hsl,lenX]
    exact rv0 s hI _ _ x0 x1 (by omega)
   ·refine⟨_,B++[.dead,.tok],?_,h3⟩
    rw[hsl]
    exact jc hB get1 (by omega) (rat s hI _)
  | normal=>
   obtain⟨s',h1,h2,X,k,rfl,h3,h5,h4⟩:=k
   by_cases c:k=B.length
   ·subst c
    refine⟨V (.list ((acc s').map f) (.tok B.length)) s',B++[.tok],?_,V (.list ((acc s').map f) (.tok (B.length+1))) s',B++[.dead,.tok],bh0,?_,(s',true),h1,h2,?_⟩
    ·rw[h4]
     exact jM hB h3 (rid s' h2)
    ·rw[hsl,lenX]
     exact rv0 s' h2 _ _ x0 x1 (by omega)
    ·rw[hsl]
     exact jc hB get1 (by omega) (rat s' h2 _)
   ·refine⟨V (.list ((acc s').map f) (.tok (B.length+1))) s',B++[.dead,.tok],?_,V (.list ((acc s').map f) (.tok (B.length+2))) s',B++[.dead,.dead,.tok],bh1,?_,(s',true),h1,h2,?_⟩
    ·rw[h4]
     exact jc hB h3 (by omega) (rat s' h2 k)
    ·rw[hsl,lenH]
     have:=hren s' h2 (aM (ρat B.length (B.length+1)) (B.length+1) (B.length+2)) (B.length+2) (B.length+1) _ x0 (by omega) (by omega) (hl s' h2)
     rwa [x2] at this
    ·rw[hsl]
     exact jc hB gd (by omega) (rat s' h2 _)
theorem kJ [Dfr] {α σ:Type} {f:α→List PV} {acc:σ→List α} {I:σ→Prop} {m:σ→Nat} {P:Program} {gl:az} (hgl:aO gl) {n:Nat} {x:Code} {Q:Ex→Env→ae→Prop} {e:Env} {H:ae} (slots:List Nat) (V:PV→σ→List PV) (B:ae) (s0:σ)
  (hlow:∀(o:Nat) cs,B[o]?=some (.cells cs)→∀ x∈cs,Low B.length x) (hf:∀ s,I s→∀ a∈acc s,∀ x∈f a,Low B.length x)
  (hrv:∀(es:List (List PV)) (s:σ) (k:Nat),I s→(∀ y∈es.flatten,Low B.length y)→RVs B.length k (V (.list es (.tok k)) s) (V (.list es (.tok B.length)) s))
  (hv:∀ s,I s→∀ v∈V (.list [] .exact) s,Low B.length v)
  (h0:I s0) (ha:acc s0=[]) (he:slots.map e=V (.list [] .exact) s0) (hH:H=B)
  (none:∀ s,I s→acc s=[]→AW P gl n x (fun ex e' H'=>ko f acc I m Q B slots V s ex (slots.map e') H') (ak slots (V (.list [] .exact) s)) B)
  (some:∀ s,I s→acc s≠[]→AW P gl n x (fun ex e' H'=>ko f acc I m Q B slots V s ex (slots.map e') H') (ak slots (V (.list ((acc s).map f) (.tok B.length)) s)) (B++[.tok])):AW P gl n (.loop x) Q e H:=by
 subst hH
 have key:∀ s,I s→∀ ex vs H',ko f acc I m Q H slots V s ex vs H'→yI Q H.length slots I (fun s=>V (.list ((acc s).map f) (tlL H.length (acc s))) s) (fun s=>hpL H (acc s)) m s ex vs H':=by
  intro s hs ex vs H' h
  cases ex with
  | exit j=>exact h
  | ret=>exact h
  | normal=>
   obtain⟨s',h1,h2,h3⟩:=h
   refine⟨s',h1,h2,?_⟩
   rcases h3 with⟨h3,X,rfl,rfl⟩|⟨h3,X,k,rfl,h5,h6,rfl⟩
   ·simp only[h3,List.map_nil,tlL,hpL]
    exact pJ rfl hlow (hv s' h2)
   ·have r:=relab_row (X:=X) rfl hlow h6 h5 (hrv _ _ _ h2 (bl fun a ha=>hf s' h2 a ha))
    have e1:=AF (n0:=H.length) h3
    have e2:=Cj (B:=H) h3
    rw[← e1,← e2] at r
    exact r
 refine mu hgl (σ:=σ) slots I (fun s=>V (.list ((acc s).map f) (tlL H.length (acc s))) s) (fun s=>hpL H (acc s)) m s0 h0 (by rw[ha]; exact he) (by rw[ha]; rfl) ?_
 intro s hs
 cases hq:acc s with
 | nil=>exact(none s hs hq).mono fun ex e' H' k=>key s hs ex _ H' k
 | cons a l=>
  have hne:acc s≠[]:=by rw[hq]; simp
  have:=(some s hs hne).mono fun ex e' H' k=>key s hs ex _ H' k
  rw[hq] at this
  exact this
theorem AW.ME [Dfr] {P:Program} {gl:az} {n:Nat} {c:Code} {Q:Ex→Env→ae→Prop} {e:Env} {H:ae} {slots:List Nat} (h:AW P gl n c (fun ex e' H'=>∃ vs,WkL (slots.map e') vs∧Q ex (ak slots vs) H') e H):AW P gl n c Q e H:=by
 intro hd g a w hst
 refine wp_mono (h hd g a w hst) ?_
 rintro ex a' w' ⟨ex',g',e',H',k0,k1,k2,vs,k3,k4⟩
 have h1:=k1.weaken (bH e' slots)
 exact⟨ex',g',_,H',k0,⟨h1.sim,h1.glob,⟨h1.env.1,fun t=>lB k3 t _ (h1.env.2 t)⟩,h1.dfr⟩,k2,k4⟩
theorem at0 (B:ae) (a:Ob) (X:ae):(B++a::X)[B.length]?=some a:=by rw[List.getElem?_append_right (Nat.le_refl _),Nat.sub_self]; rfl
theorem at1 (B:ae) (a b:Ob) (X:ae):(B++a::b::X)[B.length+1]?=some b:=by rw[List.getElem?_append_right (by omega),show B.length+1-B.length=1 by omega]; rfl
def iB (P:Program) (gl:az) (f:FuncId) (args:List PV) (H:ae) (K:PV→ae→Prop):Prop:=
 ∀ g w (vs:Array Value),Sim g H w→cZ g w gl→aQ g w args vs.toList→∀ u,
  CallsD P f vs u w fun e u' w'=>u'=u∧∃ v g' H' x,e = .returned v∧Sim g' H' w'∧Ext g H w g' H' w'∧Rel g' w' x v∧K x H'
theorem rH {P:Program} {gl:az} {f:FuncId} {fn:Func} {c:Code} (hf:P.funcs[f]?=some fn) (hb:fn.body=some c) (hd:bM fn.ntmps c=true) {args:List PV} (hsz:args.length≤fn.ntmps) {H:ae} {K:PV→ae→Prop}
  (h:AW P gl fn.ntmps c (post P gl fn.ntmps (.fin (kF P fn.results.toList K))) (pG args) H):iB P gl f args H K:=
 fun _ _ _ hS hG hR _=>callsD_of_wp hf hb (po hd hsz h hS hG hR)
theorem qe {P:Program} {gl:az} {f:FuncId} {fn:Func} {T:Tab} {L:j7} (hn:Oper→Nat) (hf:P.funcs[f]?=some fn) (hb:fn.body.isSome=true) (hd:bM fn.ntmps (ag fn)=true) {args:List PV} (hsz:Nat.ble args.length fn.ntmps=true) {H:ae} {K:PV→ae→Prop}
  (hT:aW P gl T) (hL:LOk P gl fn.ntmps (ag fn) [] L) (h:Holds (wpc br P gl T L hn (ag fn) [] (pG args) H (kF P fn.results.toList K))):iB P gl f args H K:=by
 obtain⟨c,hc⟩:=Option.isSome_iff_exists.1 hb
 have e:ag fn=c:=by unfold ag; rw[hc]; rfl
 rw[e] at hd hL h
 exact rH hf hc hd (Nat.le_of_ble_eq_true hsz) ((aY hT c [] hL _ _ _ h.out).mono fun _ _ _ k=>k)
theorem nP {P:Program} {gl:az} {f:FuncId} {fn:Func} {i1:Nat} {c0:Code} {mk:Oper} {t:Tmp} {tys:Array TypeId} {ty:TypeId} {ps:String} {af:Array Edge} {rest:Code} {hn:Oper→Nat} (hf:P.funcs[f]?=some fn)
  (hb:fn.body=some (.seq c0 (.seq (.region i1 #[mk,⟨none,.defer ⟨.value (.tmp t),#[],tys⟩,ty,ps,af,none⟩] false) rest)))
  (hg:mk.guard=none) (hmd:mk.dst=some t) (hd0:bM fn.ntmps c0=true) (hdt:t<fn.ntmps) (hdr:bM fn.ntmps rest=true) {args:List PV} (hsz:args.length≤fn.ntmps) {H:ae} {K:PV→ae→Prop}
  (h:AW P gl fn.ntmps c0 (fun ex e1 H1=>ex = .normal∧opw P gl mk.op (hn mk) (ev gl e1) H1 fun x H2=>∃ F caps,x = .fn F caps∧cU P F=true∧
   ∀ D:Dfr,@AW D P gl fn.ntmps rest (fun ex e3 H3=>(ex = .normal∨ex = .ret)∧iB P gl F caps H3 fun _ H4=>kF P fn.results.toList K ex e3 H4) (upd e1 (some t) x) H2) (pG args) H):ax P gl f args H K:=by
 intro g w vs hS hG hR
 refine calls_of_wp_defers hf hb ?_
 have hst:=tB hS hG hR hsz
 refine wp_seq (wp_mono (h hd0 g _ w hst) ?_)
 rintro ex a1 w1 ⟨ex1,g1,e1,H1,k0,k1,k2,rfl,k3⟩
 cases ex<;>first|exact k0.elim|skip
 show Code.wp P (.seq _ rest) _ a1 w1
 generalize hQ:bodyPostD P fn (fun e w'=>∃ v g' H' x,e=Ending.returned v∧Sim g' H' w'∧Ext g H w g' H' w'∧Rel g' w' x v∧K x H')=QQ
 refine wp_seq (wp_region ?_)
 show wpOps P _ _ [0,1] a1 w1
 have last:∀(g2:Gh) (H2:ae) (w2:World) (x:PV) (v:Value),Sim g2 H2 w2→Ext g1 H1 w1 g2 H2 w2→Rel g2 w2 x v→(∃ F caps,x = .fn F caps∧cU P F=true∧
   ∀ D:Dfr,@AW D P gl fn.ntmps rest (fun ex e3 H3=>(ex = .normal∨ex = .ret)∧iB P gl F caps H3 fun _ H4=>kF P fn.results.toList K ex e3 H4) (upd e1 (some t) x) H2)→
   wpOps P #[mk,⟨none,.defer ⟨.value (.tmp t),#[],tys⟩,ty,ps,af,none⟩] (Exit.then (rest.wp P QQ) QQ) [1] (a1.put mk.dst v) w2:=by
  rintro g2 H2 w2 x v h1 h2 h3 ⟨F,caps,rfl,hca,hrest⟩
  have hst2:=k1.next h1 h2 h3 (some t) (fun _ e=>by cases e; exact hdt)
  rw[hmd]
  have hev:=hst2.env.ev hst2.glob (.tmp t)
  have hev':Rel g2 w2 (.fn F caps) ((a1.put (some t) v).eval (.tmp t)):=by
   have e:ev gl (upd e1 (some t) (.fn F caps)) (.tmp t) = .fn F caps:=by
    show(if t=t then PV.fn F caps else e1 t)=_
    rw[if_pos rfl]
   rw[e] at hev; exact hev
  obtain⟨cv,hv,hcr⟩:=Rel.fX.1 hev'
  unfold wpOps
  rw[show(#[mk,⟨none,.defer ⟨.value (.tmp t),#[],tys⟩,ty,ps,af,none⟩]:Array Oper)[1]?=some ⟨none,.defer ⟨.value (.tmp t),#[],tys⟩,ty,ps,af,none⟩ from rfl]
  simp only
  have hw:Region.wanted ⟨none,.defer ⟨.value (.tmp t),#[],tys⟩,ty,ps,af,none⟩ (yielded #[mk,⟨none,.defer ⟨.value (.tmp t),#[],tys⟩,ty,ps,af,none⟩] (a1.put (some t) v).tmps)=true:=rfl
  rw[if_pos hw]
  refine .inl ?_
  unfold Oper.wp
  have hrun:(execOp (a1.put (some t) v).eval ⟨none,.defer ⟨.value (.tmp t),#[],tys⟩,ty,ps,af,none⟩).run P w2 = .ok (.defer { target:= .fn (.func F) cv,args:= #[] }) w2:=by
   simp only[execOp,resolve,hv,Deferred.ofValue,Sem.run_bind,Sem.run_pure,Result.andThen_ok]
   simp
  rw[hrun,Oper.upon_defer]
  unfold wpOps
  have hdf:(a1.put (some t) v).defers=[]:=hst2.dfr
  refine wp_mono (@hrest ⟨[{ target:= .fn (.func F) cv,args:= #[] }]⟩ hdr g2 _ w2 ?_) ?_
  ·refine @St.mk ⟨_⟩ _ _ _ _ _ _ _ hst2.sim hst2.glob hst2.env ?_
   show _::(a1.put (some t) v).defers=_
   rw[hdf]; rfl
  ·rintro ex a' w' ⟨ex',g',e',H',j0,⟨js,jg,je,jd⟩,j2,j3,j4⟩
   have hdd:a'.defers=[{ target:= .fn (.func F) cv,args:= #[] }]:=jd
   have hcr':aQ g' w' caps cv.toList:=by
    have:=(hev'.mono j2.gx)
    rw[hv] at this
    obtain⟨cv2,e2,h⟩:=Rel.fX.1 this
    cases e2; exact h
   have key:kF P fn.results.toList K=kF P fn.results.toList K→Leaves P fn a'.tmps (fun e w'=>∃ v g' H' x,e=Ending.returned v∧Sim g' H' w'∧Ext g H w g' H' w'∧Rel g' w' x v∧K x H') a'.defers .returning w':=by
    intro _
    rw[hdd]
    refine leaves_cons (by simp) (f:=F) (args:= #[]++cv) ?_ ?_
    ·simp only[invoke]
     exact ld hca _ w'
    ·have hcall:=j4 g' w' (#[]++cv) js jg (by simpa using hcr') .returning
     refine hcall.mono ?_
     rintro e u' w'' ⟨rfl,v2,g'',H'',x2,rfl,m1,m2,m3,m4⟩
     show Leaves P fn a'.tmps _ [] .returning w''
     have hst3: @St ⟨a'.defers⟩ gl fn.ntmps g'' e' H'' a' w'':= @St.mk ⟨a'.defers⟩ _ _ _ _ _ _ _ m1 (jg.mono m2.gx) (je.mono m2.gx) rfl
     have hres:(match sK P H'' e' fn.results.toList with|some [x]=>K x H''|some xs=>K (.tup xs) H''|none=>False):=by
      rcases j3 with rfl|rfl<;>exact m4
     obtain⟨v3,r1,x3,r2,r3⟩:= @xz ⟨a'.defers⟩ _ _ _ _ _ _ _ _ _ _ hst3 hres
     exact⟨v3,r1,v3,g'',H'',x3,rfl,m1,((k2.trans h2).trans j2).trans m2,r2,r3⟩
   rw[← hQ]
   rcases j3 with rfl|rfl<;>cases ex<;>first|exact j0.elim|exact key rfl
 have hno:=gT k1.sim k1.glob (o:=mk) (a:=a1) (fun x=>k1.env.ev k1.glob x) k3
 unfold wpOps
 rw[show(#[mk,⟨none,.defer ⟨.value (.tmp t),#[],tys⟩,ty,ps,af,none⟩]:Array Oper)[0]?=some mk from rfl]
 simp only
 have hw:Region.wanted mk (yielded #[mk,⟨none,.defer ⟨.value (.tmp t),#[],tys⟩,ty,ps,af,none⟩] a1.tmps)=true:=by simp[Region.wanted,hg]
 rw[if_pos hw]
 refine .inl ?_
 unfold Oper.wp
 rcases hno with⟨v,w',g',H',x,h1,h2,h3,h4,h5⟩|⟨w',g',H',h1,h2,h3,h4⟩|⟨f,vs,h1,h2⟩
 ·rw[h1]; exact last g' H' w' x v h2 h3 h4 h5
 ·obtain⟨F,caps,e,_⟩:=h4; cases e
 ·rw[h1]
  refine h2.mono ?_
  rintro ex w' ⟨v,g',H',x,rfl,k1,k2,k3,k4⟩
  exact last g' H' w' x v k1 k2 k3 k4
def C7 (c:Code) (t:Tmp):Bool:=match c with
 | .seq _ (.seq (.region _ ops false) _)=>match ops.toList with
  | [mk,⟨none,.defer ⟨.value (.tmp t'),as,_⟩,_,_,_,none⟩]=>t' == t && as.isEmpty && mk.guard.isNone && mk.dst == some t
  | _=>false
 | _=>false
def Lu (c:Code):Oper:=((opsOf (bX [1,0] c)).toList.head?).getD default
theorem mj {P:Program} {gl:az} {f:FuncId} {fn:Func} {t:Tmp} (m:Nat) (hf:P.funcs[f]?=some fn) (hb:fn.body.isSome=true) (hs:C7 (ag fn) t=true) (hd:bM fn.ntmps (ag fn)=true) (hdt:Nat.blt t fn.ntmps=true) {args:List PV} (hsz:Nat.ble args.length fn.ntmps=true) {H:ae} {K:PV→ae→Prop}
  (h:AW P gl fn.ntmps (bX [0] (ag fn)) (fun ex e1 H1=>ex = .normal∧opw P gl (Lu (ag fn)).op m (ev gl e1) H1 fun x H2=>∃ F caps,x = .fn F caps∧cU P F=true∧
   ∀ D:Dfr,@AW D P gl fn.ntmps (bX [1,1] (ag fn)) (fun ex e3 H3=>(ex = .normal∨ex = .ret)∧iB P gl F caps H3 fun _ H4=>kF P fn.results.toList K ex e3 H4) (upd e1 (some t) x) H2) (pG args) H):ax P gl f args H K:=by
 obtain⟨c,hc⟩:=Option.isSome_iff_exists.1 hb
 have e:ag fn=c:=by unfold ag; rw[hc]; rfl
 rw[e] at hs hd h
 unfold C7 at hs
 split at hs
 ·rename_i c0 i1 ops rest
  split at hs
  ·rename_i mk t' as tys ty ps af hops
   simp only[Bool.and_eq_true,beq_iff_eq] at hs
   obtain⟨⟨⟨rfl,ha⟩,hg⟩,hmd⟩:=hs
   have ha:as = #[]:=by simpa using ha
   subst ha
   have ho:ops = #[mk,⟨none,.defer ⟨.value (.tmp t'),#[],tys⟩,ty,ps,af,none⟩]:=by
    apply Array.ext'; exact hops
   subst ho
   simp only[bM,Bool.and_eq_true] at hd
   exact nP (hn:=fun _=>m) hf hc (by simpa using hg) hmd hd.1 (by simpa using hdt) hd.2.2 (Nat.le_of_ble_eq_true hsz) h
  ·cases hs
 ·cases hs
def C3 (n0:Nat) (V:PV→PV→List PV):Prop:=∀(ρ:Nat→Nat) (n k1 k2:Nat) (es1 es2:List (List PV)),(∀ o,o<n0→ρ o=o)→n0≤n→k1<n→k2<n→(∀ x∈es1.flatten,Low 0 x)→(∀ x∈es2.flatten,Low 0 x)→aU ρ n (V (.list es1 (.tok k1)) (.list es2 (.tok k2))) (V (.list es1 (.tok (ρ k1))) (.list es2 (.tok (ρ k2))))
def qk (n0 k1 k2:Nat):Nat→Nat:=fun o=>if o<n0 then o else if o=n0 then k1 else k2
theorem AV {B X:ae} (hB:oH B) {V:PV→PV→List PV} (hV:C3 B.length V) {es1 es2:List (List PV)} (l1:∀ x∈es1.flatten,Low 0 x) (l2:∀ x∈es2.flatten,Low 0 x) {k1 k2:Nat} (h1:(B++X)[k1]?=some .tok) (h2:(B++X)[k2]?=some .tok) (b1:B.length≤k1) (b2:B.length≤k2) (hne:k1≠k2):
  ef B.length (V (.list es1 (.tok k1)) (.list es2 (.tok k2))) (B++X) (V (.list es1 (.tok B.length)) (.list es2 (.tok (B.length+1)))) (B++[.tok,.tok]):=by
 have e1:=(List.getElem?_eq_some_iff.1 h1).1
 have e2:=(List.getElem?_eq_some_iff.1 h2).1
 have len:(B++[Ob.tok,.tok]).length=B.length+2:=by simp
 have r0:∀ o,o<B.length→qk B.length k1 k2 o=o:=fun o ho=>by unfold qk; rw[if_pos ho]
 have r1:qk B.length k1 k2 B.length=k1:=by unfold qk; rw[if_neg (by omega),if_pos rfl]
 have r2:qk B.length k1 k2 (B.length+1)=k2:=by unfold qk; rw[if_neg (by omega),if_neg (by omega)]
 refine⟨_,_,qk B.length k1 k2,.refl _,.refl _,⟨fun o ho=>?_,fun a b ha hb h3=>?_,fun j a hj=>?_⟩,by omega,r0,?_⟩
 ·unfold qk; split; omega; split<;>omega
 ·rw[len] at ha hb
  unfold qk at h3
  split at h3<;>split at h3<;>(try split at h3)<;>(try split at h3)<;>omega
 ·have k:=(List.getElem?_eq_some_iff.1 hj).1
  rw[len] at k ⊢
  by_cases c:j<B.length
  ·rw[cA c] at hj
   exact⟨a,by rw[r0 j c,cA c]; exact hj,hB.ob hj r0 (by omega)⟩
  ·by_cases c2:j=B.length
   ·subst c2
    rw[at0] at hj; cases hj
    exact⟨_,by rw[r1]; exact h1,.tok⟩
   ·have:j=B.length+1:=by omega
    subst this
    rw[at1] at hj; cases hj
    exact⟨_,by rw[r2]; exact h2,.tok⟩
 ·have:=hV (qk B.length k1 k2) (B.length+2) B.length (B.length+1) es1 es2 r0 (by omega) (by omega) (by omega) l1 l2
  rw[r1,r2] at this
  rw[len]; exact this
def v8 {α σ:Type} (f1 f2:α→List PV) (acc:σ→List α) (I:σ→Prop) (m:σ→Nat) (Q:Ex→Env→ae→Prop) (B:ae) (slots:List Nat) (V:PV→PV→σ→List PV) (s:σ):Ex→List PV→ae→Prop:=fun ex vs H'=>match ex with
 | .normal=>∃ s',m s'<m s∧I s'∧((acc s'=[]∧∃ X,H'=B++X∧vs=V (.list [] .exact) (.list [] .exact) s')∨
   (acc s'≠[]∧∃ X k1 k2,H'=B++X∧(B++X)[k1]?=some .tok∧(B++X)[k2]?=some .tok∧B.length≤k1∧B.length≤k2∧k1≠k2∧vs=V (.list ((acc s').map f1) (.tok k1)) (.list ((acc s').map f2) (.tok k2)) s'))
 | ex=>∃ vs2 X,H'=B++X∧WkL vs vs2∧(∀ v∈vs2,Lid B.length v)∧Q ex (ak slots vs2) B
theorem BK [Dfr] {α σ:Type} {f1 f2:α→List PV} {acc:σ→List α} {I:σ→Prop} {m:σ→Nat} {P:Program} {gl:az} (hgl:aO gl) {n:Nat} {x:Code} {Q:Ex→Env→ae→Prop} {e:Env} {H:ae} (slots:List Nat) (V:PV→PV→σ→List PV) (B:ae) (s0:σ) (hB:oH B) (hBL:gD B.length B)
  (hf1:∀ a,∀ x∈f1 a,Low 0 x) (hf2:∀ a,∀ x∈f2 a,Low 0 x) (hV:∀ s,I s→C3 B.length fun T U=>V T U s) (hv:∀ s,I s→∀ v∈V (.list [] .exact) (.list [] .exact) s,Lid B.length v)
  (h0:I s0) (ha:acc s0=[]) (he:slots.map e=V (.list [] .exact) (.list [] .exact) s0) (hH:H=B)
  (none:∀ s,I s→acc s=[]→AW P gl n x (fun ex e' H'=>v8 f1 f2 acc I m Q B slots V s ex (slots.map e') H') (ak slots (V (.list [] .exact) (.list [] .exact) s)) B)
  (some:∀ s,I s→acc s≠[]→AW P gl n x (fun ex e' H'=>v8 f1 f2 acc I m Q B slots V s ex (slots.map e') H') (ak slots (V (.list ((acc s).map f1) (.tok B.length)) (.list ((acc s).map f2) (.tok (B.length+1))) s)) (B++[.tok,.tok])):AW P gl n (.loop x) Q e H:=by
 subst hH
 let Vs:σ→List PV:=fun s=>match acc s with
  | []=>V (.list [] .exact) (.list [] .exact) s
  | a::l=>V (.list ((a::l).map f1) (.tok H.length)) (.list ((a::l).map f2) (.tok (H.length+1))) s
 let Hs:σ→ae:=fun s=>match acc s with
  | []=>H
  | _::_=>H++[.tok,.tok]
 have v0:∀ s,acc s=[]→Vs s=V (.list [] .exact) (.list [] .exact) s∧Hs s=H:=fun s h=>by simp only[Vs,Hs,h]; exact⟨trivial,trivial⟩
 have v1:∀ s,acc s≠[]→Vs s=V (.list ((acc s).map f1) (.tok H.length)) (.list ((acc s).map f2) (.tok (H.length+1))) s∧Hs s=H++[.tok,.tok]:=fun s h=>by
  cases q:acc s with
  | nil=>exact absurd q h
  | cons a l=>simp only[Vs,Hs,q]; exact⟨trivial,trivial⟩
 have key:∀ s,I s→∀ ex vs H',v8 f1 f2 acc I m Q H slots V s ex vs H'→sX Q H.length slots I Vs Hs m s ex vs H':=by
  intro s hs ex vs H' k
  cases ex with
  | normal=>
   obtain⟨s',h1,h2,⟨h3,X,rfl,rfl⟩|⟨h3,X,k1,k2,rfl,t1,t2,b1,b2,hne,rfl⟩⟩:=k
   ·refine⟨s',h1,h2,?_⟩
    rw[(v0 s' h3).1,(v0 s' h3).2]
    exact mS hBL (.refl _) (hv s' h2) (Nat.le_refl _)
   ·refine⟨s',h1,h2,?_⟩
    rw[(v1 s' h3).1,(v1 s' h3).2]
    exact AV (V:=fun T U=>V T U s') hB (hV s' h2) (bl fun a _=>hf1 a) (bl fun a _=>hf2 a) t1 t2 b1 b2 hne
  | exit j=>
   obtain⟨vs2,X,rfl,hw,hl,hq⟩:=k
   exact⟨vs2,H,mS hBL hw hl (Nat.le_refl _),hq⟩
  | ret=>
   obtain⟨vs2,X,rfl,hw,hl,hq⟩:=k
   exact⟨vs2,H,mS hBL hw hl (Nat.le_refl _),hq⟩
 refine qG hgl (σ:=σ) slots I Vs Hs m s0 h0 (by rw[(v0 s0 ha).1]; exact he) (v0 s0 ha).2.symm ?_
 intro s hs
 by_cases c:acc s=[]
 ·rw[(v0 s c).1,(v0 s c).2]
  exact(none s hs c).mono fun ex e' H' k=>key s hs ex _ H' k
 ·rw[(v1 s c).1,(v1 s c).2]
  exact(some s hs c).mono fun ex e' H' k=>key s hs ex _ H' k
def pB (q a t:Nat):Nat→Nat:=fun o=>if o=0 then q else if o=1 then a else t
theorem pz {P:Program} {gl:az} (hgl:aO gl) {f:FuncId} {rest:List PV} {H:ae} {q t a:Nat} {RI RM RI' RM':Rep} {x0:PV} {K:PV→ae→Prop} (hI:bR H q RI) (hB:cj H t a RM) (hqa:q≠a) (hrest:∀ x∈rest,Low 0 x) (hx:Low 0 x0)
  (h:ax P gl f (.ptr 0 0 :: .ptr 2 0::rest) [.abs RI,.abs RM,.cells [.ptr 1 0]] (fun x H'=>x=x0∧∃ G,H' = .abs RI' :: .abs RM' :: .cells [.ptr 1 0]::G)) (hk:K x0 ((H.set q (.abs RI')).set a (.abs RM'))):ax P gl f (.ptr q 0 :: .ptr t 0::rest) H K:=by
 have hI:H[q]?=some (.abs RI):=hI
 obtain⟨hB1,hB2⟩:=hB
 have lq:=(List.getElem?_eq_some_iff.1 hI).1
 have lt:=(List.getElem?_eq_some_iff.1 hB1).1
 have la:=(List.getElem?_eq_some_iff.1 hB2).1
 have hqt:q≠t:=fun e=>by rw[e,hB1] at hI; cases hI
 have hta:t≠a:=fun e=>by rw[e,hB2] at hB1; cases hB1
 have three:∀ {A B C:Ob} {o:Nat} {b:Ob},[A,B,C][o]?=some b→(o=0∧b=A)∨(o=1∧b=B)∨(o=2∧b=C):=fun {A B C o b} e=>by
  have k1:=(List.getElem?_eq_some_iff.1 e).1
  simp at k1
  have:o=0∨o=1∨o=2:=by omega
  rcases this with rfl|rfl|rfl<;>cases e
  ·exact .inl ⟨rfl,rfl⟩
  ·exact .inr (.inl ⟨rfl,rfl⟩)
  ·exact .inr (.inr ⟨rfl,rfl⟩)
 have r0:pB q a t 0=q:=rfl
 have r1:pB q a t 1=a:=rfl
 have r2:pB q a t 2=t:=rfl
 have h1:ax P gl f (.ptr 0 0 :: .ptr 2 0::rest) [.abs RI,.abs RM,.cells [.ptr 1 0]] (fun x H'=>x=x0∧H'=[.abs RI',.abs RM',.cells [.ptr 1 0]]):=by
  refine h.forget fun x H' hh=>?_
  obtain⟨rfl,G,rfl⟩:=hh
  refine⟨[.abs RI',.abs RM',.cells [.ptr 1 0]],G,rfl,rfl,hx.up,fun o cs ho'=>?_,rfl,rfl⟩
  rcases three ho' with⟨_,e⟩|⟨_,e⟩|⟨rfl,e⟩
  ·cases e
  ·cases e
  ·cases e; exact .inl rfl
 have hsub:Sub (pB q a t) [.abs RI,.abs RM,.cells [.ptr 1 0]] H:=by
  refine⟨fun o ho=>?_,fun x y hx hy e=>?_,fun o b ho=>?_⟩
  ·unfold pB; split; omega; split<;>omega
  ·simp at hx hy
   unfold pB at e
   split at e<;>split at e<;>(try split at e)<;>(try split at e)<;>omega
  ·rcases three ho with⟨rfl,rfl⟩|⟨rfl,rfl⟩|⟨rfl,rfl⟩
   ·exact⟨_,hI,.abs _⟩
   ·exact⟨_,hB2,.abs _⟩
   ·exact⟨_,hB1,.cells (.cons (Ren.ptr (ρ:=pB q a t) (n:=3) 1 0 (by decide)) .nil)⟩
 refine aZ hgl hsub (.cons (.ptr (ρ:=pB q a t) 0 0 (by simp)) (.cons (.ptr (ρ:=pB q a t) 2 0 (by simp)) (aU.low hrest))) (aL h1 fun x H' e=>?_)
 obtain⟨rfl,rfl⟩:=e
 refine⟨x,_,⟨Nat.le_refl _,by simp,fun o b ho'=>?_,fun o hl hn=>?_⟩,.low hx,hk⟩
 ·rcases three ho' with⟨rfl,rfl⟩|⟨rfl,rfl⟩|⟨rfl,rfl⟩
  ·refine⟨.abs RI',?_,.abs _,fun h=>h⟩
   simp only[aM,List.length_cons,List.length_nil]
   rw[if_pos (by omega),r0,List.getElem?_set_ne (Ne.symm hqa),List.getElem?_set_self lq]
  ·refine⟨.abs RM',?_,.abs _,fun h=>h⟩
   simp only[aM,List.length_cons,List.length_nil]
   rw[if_pos (by omega),r1,List.getElem?_set_self (by simpa using la)]
  ·refine⟨.cells [.ptr a 0],?_,.cells (.cons ?_ .nil),fun h=>h⟩
   ·simp only[aM,List.length_cons,List.length_nil]
    rw[if_pos (by omega),r2,List.getElem?_set_ne (Ne.symm hta),List.getElem?_set_ne hqt]
    exact hB1
   ·have:=Ren.ptr (ρ:=aM (pB q a t) 3 H.length) (n:=3) 1 0 (by decide)
    simpa[aM,pB] using this
 ·have n0:=hn 0 (by simp)
  have n1:=hn 1 (by simp)
  rw[r0] at n0
  rw[r1] at n1
  rw[List.getElem?_set_ne n1,List.getElem?_set_ne n0]
def nC:PV→PV
 | .list es (.tok _)=> .list es .no
 | x=>x
def y5:Ob→Ob
 | .cells cs=> .cells (cs.map nC)
 | x=>x
theorem Lc (x:PV):Wk x (nC x):=by
 unfold nC
 split
 ·exact .list _ _
 ·exact .refl _
theorem rZ:∀ xs:List PV,WkL xs (xs.map nC)
 | []=> .nil
 | x::xs=> .cons (Lc x) (rZ xs)
def rG (n0:Nat) (R:List PV→ae→Prop) (vs:List PV) (H:ae):Prop:=n0≤H.length∧R (vs.map nC) ((H.take n0).map y5)
theorem wO {n0:Nat} {vs:List PV} {H:ae} (hn:n0≤H.length) (hl:gD n0 ((H.take n0).map y5)) (hv:∀ v∈vs.map nC,Lid n0 v):ef n0 vs H (vs.map nC) ((H.take n0).map y5):=by
 have e:((H.take n0).map y5).length=n0:=by rw[List.length_map,List.length_take]; omega
 have h:=wZ (B:=(H.take n0).map y5) (B':=H.take n0) (X:=H.drop n0) (vs':=vs) (vs:=vs.map nC) (n0:=n0) (by rw[e]; exact hl) (rZ vs) ?_ (by rw[e]; exact hv) (by omega)
 ·rwa [List.take_append_drop] at h
 ·refine⟨by simp only[List.length_append,List.length_map],fun o x ho=>?_⟩
  by_cases c:o<((H.take n0).map y5).length
  ·rw[List.getElem?_append_left c,List.getElem?_map] at ho
   obtain⟨a,ha,rfl⟩:=Option.map_eq_some_iff.1 ho
   refine⟨a,by rw[List.getElem?_append_left (by rw[List.length_map] at c; exact c)]; exact ha,?_⟩
   cases a with
   | cells cs=>exact .cells (rZ cs)
   | tok=>exact .refl _
   | dead=>exact .refl _
   | abs r=>exact .refl _
  ·rw[List.getElem?_append_right (by omega),List.length_map] at ho
   rw[List.length_map] at c
   exact⟨x,by rw[List.getElem?_append_right (by omega)]; exact ho,.refl _⟩
theorem vf [Dfr] {P:Program} {gl:az} (hgl:aO gl) {n:Nat} {T:Tab} (hT:aW P gl T) {hn:Oper→Nat} {c:Code} {Q:Ex→Env→ae→Prop} {e:Env} {H X:ae} {slots outs:List Nat} {fF:List PV} (M:List Nat) (F:List (List Nat)) (R:List PV→ae→Prop) (C:List Nat→Prop)
  (hd:mO c=true) (hok:uB (opsOf c) hn M F=true) (he:ah (slots.map e) fF) (hH:av H X)
  (heq:F.map (fun is=>iN br P gl T hn true (opsOf c) (eM (opsOf c) is) (ak slots fF) X (fun e' H'=>rG X.length R (outs.map (ak outs (outs.map e'))) H'))=F.map C)
  (hC:∀ is∈F,C is) (hR:∀ vs H2,R vs H2→gD X.length H2∧(∀ v∈vs,Lid X.length v)∧Q .normal (ak outs vs) H2):AW P gl n c Q e H:=by
 have hH2:H=X:=hH
 subst hH2
 refine AW.kP hgl (slots:=outs) (AW.mono (y3 (Q:=fun ex e' H'=>match ex with| .normal=>rG H.length R (outs.map e') H'|_=>False) (slots:=slots) (outs:=outs) hT M F hd hok he rfl fun is his=>?_) fun ex e' H' k=>?_)
 ·refine⟨?_⟩
  have:=(List.map_inj_left.1 heq) is his
  exact Eq.mpr this (hC is his)
 ·cases ex with
  | normal=>
   obtain⟨k1,k2⟩:=k
   obtain⟨k3,k4,k5⟩:=hR _ _ k2
   exact⟨_,_,wO k1 k3 k4,k5⟩
  | exit i=>exact k.elim
  | ret=>exact k.elim
end Go.AM
