/-
  An abstract machine over values without memory, proved against the model; part 4. A tool for the proofs of this claim; it states nothing of the program.
-/
import Derived.Test.YtenaelaapdhbdaaDoorA3
import Derived.Defers
namespace Go.AM
open Go
theorem pH [Dfr] {P:Program} {gl:aC} (hgl:aU gl) {n:Nat} {x:Code} {Q:Ex→Env→ae→Prop} {e:Env} {H:ae} {σ:Type} (slots:List Nat) (I:σ→Prop) (V:σ→List PV) (Hp:σ→ae) (m:σ→Nat) (s0:σ)
  (h0:I s0) (he:slots.map e=V s0) (hH:H=Hp s0)
  (round:∀ s,I s→AW P gl n x (fun ex e' H'=>rT Q H.length slots I V Hp m s ex (slots.map e') H') (av slots (V s)) (Hp s)):AW P gl n (.loop x) Q e H:=by
 intro hd g a w hst
 simp only[bN] at hd
 have hng:g.n=H.length:=hst.sim.n
 refine wp_loop_ghost (fun k a' w'=>∃ g' s,k=m s∧I s∧St gl n g' (av slots (V s)) (Hp s) a' w'∧Ext g H w g' (Hp s) w') (m s0) ⟨g,s0,rfl,h0,by rw[← hH,← he]; exact hst.weaken (bQ e slots),by rw[← hH]; exact .refl g H w⟩ ?_
 rintro k a1 w1 ⟨g1,s,rfl,hI,hst1,hx1⟩
 refine wp_mono (round s hI hd g1 a1 w1 hst1) ?_
 rintro ex a' w' ⟨ex',g',e',H',k0,k1,k2,k3⟩
 have k1':=k1.weaken (bQ e' slots)
 cases ex<;>cases ex'<;>first|exact k0.elim|skip
 ·obtain⟨s',hm,hI',hr⟩:=k3
  obtain⟨g3,j1,j2⟩:=k1'.lm hgl (hx1.trans k2) hng hr
  exact⟨m s',hm,g3,s',rfl,hI',j1,j2⟩
 ·obtain⟨vs2,H2,j1,j3⟩:=k3
  obtain⟨g3,j4,j5⟩:=k1'.lm hgl (hx1.trans k2) hng j1
  exact⟨.exit _,g3,_,H2,k0,j4,j5,j3⟩
 ·obtain⟨vs2,H2,j1,j3⟩:=k3
  obtain⟨g3,j4,j5⟩:=k1'.lm hgl (hx1.trans k2) hng j1
  exact⟨.ret,g3,_,H2,k0,j4,j5,j3⟩
def onQ {α σ:Type} (f:α→List PV) (acc:σ→List α) (I:σ→Prop) (m:σ→Nat) (Q:Ex→Env→ae→Prop) (B:ae) (slots:List Nat) (V:PV→σ→List PV) (s:σ):Ex→List PV→ae→Prop:=fun ex vs H'=>match ex with
 | .normal=>∃ s',m s'<m s∧I s'∧∃ X k,H'=B++X∧(B++X)[k]?=some .tok∧B.length≤k∧vs=V (.list ((acc s').map f) (.tok k)) s'
 | .exit j=>vs=V (.list ((acc s).map f) (.tok B.length)) s∧H'=B++[.tok]∧Q (.exit j) (av slots (V (.list ((acc s).map f) (.tok B.length)) s)) (B++[.tok])∧Q (.exit j) (av slots (V (.list ((acc s).map f) (.tok (B.length+1))) s)) (B++[.dead,.tok])
 | .ret=>False
def oL (B:ae):Prop:=∀(o:Nat) cs,B[o]?=some (.cells cs)→∀ x∈cs,Low 0 x∨∃ q off,q<B.length∧x = .ptr q off
theorem oL.up {B:ae} (h:oL B) (o:Nat) (cs:List PV) (ho:B[o]?=some (.cells cs)) (x:PV) (hx:x∈cs):Low B.length x:=by
 rcases h o cs ho x hx with h|⟨q,off,h,rfl⟩
 ·exact h.up
 ·exact .ptr _ _ h
theorem oL.ob {B:ae} (h:oL B) {ρ:Nat→Nat} {n:Nat} {o:Nat} {a:Ob} (ho:B[o]?=some a) (hr:∀ o,o<B.length→ρ o=o) (hn:B.length≤n):dj ρ n a a:=by
 cases a with
 | cells cs=>
  refine .cells ?_
  have:=h o cs ho
  clear ho
  induction cs with
  | nil=>exact .nil
  | cons x cs ih=>
   refine .cons ?_ (ih fun y hy=>this y (List.mem_cons_of_mem _ hy))
   rcases this x (List.mem_cons_self ..) with h|⟨q,off,h,rfl⟩
   ·exact .low h
   ·have:=Ren.ptr (ρ:=ρ) (n:=n) q off (by omega)
    rwa [hr q h] at this
 | tok=>exact .tok
 | dead=>exact .dead _
 | abs r=>exact .abs r
def KK (n0:Nat) (V:PV→List PV):Prop:=∀(ρ:Nat→Nat) (n k:Nat) (es:List (List PV)),(∀ o,o<n0→ρ o=o)→n0≤n→k<n→(∀ x∈es.flatten,Low 0 x)→aW ρ n (V (.list es (.tok k))) (V (.list es (.tok (ρ k))))
def ρat (n0 k:Nat):Nat→Nat:=fun o=>if o<n0 then o else k
theorem eJ {n0 k o:Nat} (h:o<n0):ρat n0 k o=o:=by unfold ρat; rw[if_pos h]
theorem ke {n0 k o:Nat} (h:¬ o<n0):ρat n0 k o=k:=by unfold ρat; rw[if_neg h]
theorem cr {B X:ae} {o:Nat} (h:o<B.length):(B++X)[o]?=B[o]?:=List.getElem?_append_left h
theorem ia {B X:ae} (hB:oL B) {vs' vs:List PV} {k:Nat} (h:(B++X)[k]?=some .tok) (hk:B.length<k) (hv:aW (ρat (B.length+1) k) (B.length+2) vs vs'):dV (B.length+1) vs' (B++X) vs (B++[.dead,.tok]):=by
 have hl:=(List.getElem?_eq_some_iff.1 h).1
 refine⟨vs',B++X,ρat (B.length+1) k,.refl _,.refl _,⟨fun o ho=>?_,fun a b h1 h2 h3=>?_,fun j a hj=>?_⟩,by simp,fun o ho=>eJ ho,by rw[show(B++[Ob.dead,Ob.tok]).length=B.length+2 by simp]; exact hv⟩
 ·by_cases c:o<B.length+1
  ·rw[eJ c]; omega
  ·rw[ke c]; exact hl
 ·simp at h1 h2
  by_cases ca:a<B.length+1<;>by_cases cb:b<B.length+1
  ·rw[eJ ca,eJ cb] at h3; exact h3
  ·rw[eJ ca,ke cb] at h3; omega
  ·rw[ke ca,eJ cb] at h3; omega
  ·omega
 ·have e1:=(List.getElem?_eq_some_iff.1 hj).1
  simp at e1
  by_cases c:j<B.length
  ·rw[cr c] at hj
   exact⟨a,by rw[eJ (by omega),cr c]; exact hj,hB.ob hj (fun o ho=>eJ (by omega)) (by simp)⟩
  ·by_cases c2:j=B.length
   ·subst c2
    rw[List.getElem?_append_right (Nat.le_refl _),Nat.sub_self] at hj
    cases hj
    exact⟨_,by rw[eJ (by omega)]; exact List.getElem?_eq_getElem (by omega),.dead _⟩
   ·have:j=B.length+1:=by omega
    subst this
    rw[List.getElem?_append_right (by omega),show B.length+1-B.length=1 by omega] at hj
    cases hj
    exact⟨.tok,by rw[ke (by omega)]; exact h,.tok⟩
theorem iK {B X:ae} (hB:oL B) {vs' vs:List PV} (h:(B++X)[B.length]?=some .tok) (hv:aW (fun o=>o) (B.length+1) vs vs'):dV (B.length+1) vs' (B++X) vs (B++[.tok]):=by
 have hl:=(List.getElem?_eq_some_iff.1 h).1
 refine⟨vs',B++X,fun o=>o,.refl _,.refl _,⟨fun o ho=>?_,fun a b _ _ h3=>h3,fun j a hj=>?_⟩,by simp,fun o ho=>rfl,by rw[show(B++[Ob.tok]).length=B.length+1 by simp]; exact hv⟩
 ·simp at ho; omega
 ·have e1:=(List.getElem?_eq_some_iff.1 hj).1
  simp at e1
  by_cases c:j<B.length
  ·rw[cr c] at hj
   exact⟨a,by rw[cr c]; exact hj,hB.ob hj (fun _ _=>rfl) (by simp)⟩
  ·have:j=B.length:=by omega
   subst this
   rw[List.getElem?_append_right (Nat.le_refl _),Nat.sub_self] at hj
   cases hj
   exact⟨_,h,.tok⟩
theorem pE [Dfr] {α σ:Type} {f:α→List PV} {acc:σ→List α} {I:σ→Prop} {m:σ→Nat} {P:Program} {gl:aC} (hgl:aU gl) {n:Nat} {Tb:Tab} (hT:aB P gl Tb) {L:kg} {hn:Oper→Nat} {x:Code} (hL:LOk P gl n x [] L) {Q:Ex→Env→ae→Prop} {e:Env} {H:ae} (slots:List Nat) (V:PV→σ→List PV) (B:ae) (s0:σ) (hB:oL B)
  (hf:∀ s,I s→∀ a∈acc s,∀ x∈f a,Low 0 x) (hren:∀ s,I s→KK B.length (fun T=>V T s)) (hsl:∀ T s,slots.map (av slots (V T s))=V T s)
  (h0:I s0) (he:slots.map e=V (.list ((acc s0).map f) (.tok B.length)) s0) (hH:H=B++[.tok])
  (round:∀ s,I s→Holds (wpc br P gl Tb L hn x [] (av slots (V (.list ((acc s).map f) (.tok B.length)) s)) (B++[.tok]) (fun ex e' H'=>onQ f acc I m Q B slots V s ex (slots.map e') H'))):AW P gl n (.loop x) Q e H:=by
 subst hH
 have hl:∀ s,I s→∀ x∈((acc s).map f).flatten,Low 0 x:=fun s hs=>bh (hf s hs)
 have lenX:(B++[Ob.tok]).length=B.length+1:=by simp
 have lenH:(B++[Ob.dead,Ob.tok]).length=B.length+2:=by simp
 have get1:(B++[Ob.dead,Ob.tok])[B.length+1]?=some .tok:=by rw[List.getElem?_append_right (by omega),show B.length+1-B.length=1 by omega]; rfl
 have get0:(B++[Ob.tok])[B.length]?=some .tok:=by rw[List.getElem?_append_right (Nat.le_refl _),Nat.sub_self]; rfl
 have rid:∀ s,I s→aW (fun o=>o) (B.length+1) (V (.list ((acc s).map f) (.tok B.length)) s) (V (.list ((acc s).map f) (.tok B.length)) s):=fun s hs=>hren s hs (fun o=>o) (B.length+1) B.length _ (fun _ _=>rfl) (by omega) (by omega) (hl s hs)
 have rat:∀ s,I s→∀ k,aW (ρat (B.length+1) k) (B.length+2) (V (.list ((acc s).map f) (.tok (B.length+1))) s) (V (.list ((acc s).map f) (.tok k)) s):=fun s hs k=>by
  have:=hren s hs (ρat (B.length+1) k) (B.length+2) (B.length+1) _ (fun o ho=>eJ (by omega)) (by omega) (by omega) (hl s hs)
  rwa [ke (show ¬ B.length+1<B.length+1 by omega)] at this
 refine pH hgl (σ:=σ×Bool) slots (fun t=>I t.1) (fun t=>V (.list ((acc t.1).map f) (.tok (if t.2 then B.length+1 else B.length))) t.1) (fun t=>if t.2 then B++[.dead,.tok] else B++[.tok]) (fun t=>m t.1) (s0,false) h0 he rfl ?_
 rintro⟨s,b⟩ hI
 have hI:I s:=hI
 have body:=aY hT x [] hL _ _ _ (round s hI).out
 rw[lenX]
 cases b with
 | false=>
  refine body.mono fun ex e' H' k=>?_
  cases ex with
  | ret=>exact k.elim
  | exit j=>
   obtain⟨h1,h2,h3,_⟩:=k
   refine⟨_,B++[.tok],?_,h3⟩
   rw[h1,h2]
   exact iK hB get0 (rid s hI)
  | normal=>
   obtain⟨s',h1,h2,X,k,rfl,h3,h5,h4⟩:=k
   by_cases c:k=B.length
   ·subst c
    refine⟨(s',false),h1,h2,?_⟩
    rw[h4]
    exact iK hB h3 (rid s' h2)
   ·refine⟨(s',true),h1,h2,?_⟩
    rw[h4]
    exact ia hB h3 (by omega) (rat s' h2 k)
 | true=>
  have e1:ρat B.length (B.length+1) B.length=B.length+1:=ke (by omega)
  have hsub:Sub (ρat B.length (B.length+1)) (B++[.tok]) (B++[.dead,.tok]):=by
   refine⟨fun o ho=>?_,fun a b h1 h2 h3=>?_,fun j a hj=>?_⟩
   ·rw[lenH]
    by_cases c:o<B.length
    ·rw[eJ c]; omega
    ·rw[ke c]; omega
   ·rw[lenX] at h1 h2
    by_cases ca:a<B.length<;>by_cases cb:b<B.length
    ·rw[eJ ca,eJ cb] at h3; exact h3
    ·rw[eJ ca,ke cb] at h3; omega
    ·rw[ke ca,eJ cb] at h3; omega
    ·omega
   ·have k1:=(List.getElem?_eq_some_iff.1 hj).1
    rw[lenX] at k1
    by_cases c:j<B.length
    ·rw[cr c] at hj
     exact⟨a,by rw[eJ c,cr c]; exact hj,hB.ob hj (fun o ho=>eJ ho) (by simp)⟩
    ·have:j=B.length:=by omega
     subst this
     rw[get0] at hj; cases hj
     exact⟨.tok,by rw[e1]; exact get1,.tok⟩
  have rv0:∀ s,I s→∀(ρ:Nat→Nat) n,(∀ o,o<B.length→ρ o=o)→ρ B.length=B.length+1→B.length<n→aW ρ n (V (.list ((acc s).map f) (.tok B.length)) s) (V (.list ((acc s).map f) (.tok (B.length+1))) s):=fun s hs ρ n h1 h2 h3=>by
   have:=hren s hs ρ n B.length _ h1 (by omega) h3 (hl s hs)
   rwa [h2] at this
  refine AW.frame hgl (H:=B++[.dead,.tok]) (ρ:=ρat B.length (B.length+1)) (X:=B++[.tok]) (slots:=slots) (outs:=slots) (vals0:=V (.list ((acc s).map f) (.tok B.length)) s) (lF:=V (.list ((acc s).map f) (.tok (B.length+1))) s) hsub (hsl _ _) (by rw[lenX]; exact rv0 s hI _ _ (fun o ho=>eJ ho) e1 (by omega)) ?_
  rw[lenX,lenH]
  refine AW.lm hgl (slots:=slots) (body.mono fun ex e' H' k=>?_)
  rw[lenX]
  have x0:∀ o,o<B.length→aN (ρat B.length (B.length+1)) (B.length+1) (B.length+2) o=o:=fun o ho=>by unfold aN; rw[if_pos (by omega),eJ ho]
  have x1:aN (ρat B.length (B.length+1)) (B.length+1) (B.length+2) B.length=B.length+1:=by unfold aN; rw[if_pos (by omega),e1]
  have x2:aN (ρat B.length (B.length+1)) (B.length+1) (B.length+2) (B.length+1)=B.length+2:=by unfold aN; rw[if_neg (by omega)]; omega
  have bh0:Behind (ρat B.length (B.length+1)) (B++[.tok]) (B++[.dead,.tok]) (B++[.tok]) (B++[.dead,.tok]):=by
   refine⟨Nat.le_refl _,by simp,fun o a ho=>?_,fun o ho hj=>rfl⟩
   rw[lenX,lenH]
   have k1:=(List.getElem?_eq_some_iff.1 ho).1
   rw[lenX] at k1
   by_cases c:o<B.length
   ·rw[cr c] at ho
    exact⟨a,by rw[x0 o c,cr c]; exact ho,hB.ob ho x0 (by omega),fun h=>h⟩
   ·have:o=B.length:=by omega
    subst this
    rw[get0] at ho; cases ho
    exact⟨.tok,by rw[x1]; exact get1,.tok,fun _=>rfl⟩
  have bh1:Behind (ρat B.length (B.length+1)) (B++[.tok]) (B++[.dead,.tok]) (B++[.dead,.tok]) (B++[.dead,.dead,.tok]):=by
   refine⟨by simp,by simp,fun o a ho=>?_,fun o ho hj=>?_⟩
   ·rw[lenX,lenH]
    have k1:=(List.getElem?_eq_some_iff.1 ho).1
    rw[lenH] at k1
    by_cases c:o<B.length
    ·rw[cr c] at ho
     exact⟨a,by rw[x0 o c,cr c]; exact ho,hB.ob ho x0 (by omega),fun h=>h⟩
    ·by_cases c2:o=B.length
     ·subst c2
      rw[List.getElem?_append_right (Nat.le_refl _),Nat.sub_self] at ho; cases ho
      exact⟨.dead,by rw[x1,List.getElem?_append_right (by omega),show B.length+1-B.length=1 by omega]; rfl,.dead _,fun h=>by cases h⟩
     ·have:o=B.length+1:=by omega
      subst this
      rw[get1] at ho; cases ho
      exact⟨.tok,by rw[x2,List.getElem?_append_right (by omega),show B.length+2-B.length=2 by omega]; rfl,.tok,fun _=>rfl⟩
   ·rw[lenH] at ho
    have h2:=hj B.length (by rw[lenX]; omega)
    rw[e1] at h2
    by_cases c:o<B.length
    ·rw[cr c,cr c]
    ·have:o=B.length:=by omega
     subst this
     rw[List.getElem?_append_right (Nat.le_refl _),List.getElem?_append_right (Nat.le_refl _),Nat.sub_self]; rfl
  have gd:(B++[Ob.dead,Ob.dead,Ob.tok])[B.length+2]?=some .tok:=by rw[List.getElem?_append_right (by omega),show B.length+2-B.length=2 by omega]; rfl
  cases ex with
  | ret=>exact k.elim
  | exit j=>
   obtain⟨h1,h2,_,h3⟩:=k
   refine⟨V (.list ((acc s).map f) (.tok B.length)) s,B++[.tok],?_,V (.list ((acc s).map f) (.tok (B.length+1))) s,B++[.dead,.tok],bh0,?_,?_⟩
   ·rw[h1,h2]
    exact iK hB get0 (rid s hI)
   ·rw[hsl,lenX]
    exact rv0 s hI _ _ x0 x1 (by omega)
   ·refine⟨_,B++[.dead,.tok],?_,h3⟩
    rw[hsl]
    exact ia hB get1 (by omega) (rat s hI _)
  | normal=>
   obtain⟨s',h1,h2,X,k,rfl,h3,h5,h4⟩:=k
   by_cases c:k=B.length
   ·subst c
    refine⟨V (.list ((acc s').map f) (.tok B.length)) s',B++[.tok],?_,V (.list ((acc s').map f) (.tok (B.length+1))) s',B++[.dead,.tok],bh0,?_,(s',true),h1,h2,?_⟩
    ·rw[h4]
     exact iK hB h3 (rid s' h2)
    ·rw[hsl,lenX]
     exact rv0 s' h2 _ _ x0 x1 (by omega)
    ·rw[hsl]
     exact ia hB get1 (by omega) (rat s' h2 _)
   ·refine⟨V (.list ((acc s').map f) (.tok (B.length+1))) s',B++[.dead,.tok],?_,V (.list ((acc s').map f) (.tok (B.length+2))) s',B++[.dead,.dead,.tok],bh1,?_,(s',true),h1,h2,?_⟩
    ·rw[h4]
     exact ia hB h3 (by omega) (rat s' h2 k)
    ·rw[hsl,lenH]
     have:=hren s' h2 (aN (ρat B.length (B.length+1)) (B.length+1) (B.length+2)) (B.length+2) (B.length+1) _ x0 (by omega) (by omega) (hl s' h2)
     rwa [x2] at this
    ·rw[hsl]
     exact ia hB gd (by omega) (rat s' h2 _)
theorem gT [Dfr] {α σ:Type} {f:α→List PV} {acc:σ→List α} {I:σ→Prop} {m:σ→Nat} {P:Program} {gl:aC} (hgl:aU gl) {n:Nat} {x:Code} {Q:Ex→Env→ae→Prop} {e:Env} {H:ae} (slots:List Nat) (V:PV→σ→List PV) (B:ae) (s0:σ)
  (hlow:∀(o:Nat) cs,B[o]?=some (.cells cs)→∀ x∈cs,Low B.length x) (hf:∀ s,I s→∀ a∈acc s,∀ x∈f a,Low B.length x)
  (hrv:∀(es:List (List PV)) (s:σ) (k:Nat),I s→(∀ y∈es.flatten,Low B.length y)→RVs B.length k (V (.list es (.tok k)) s) (V (.list es (.tok B.length)) s))
  (hv:∀ s,I s→∀ v∈V (.list [] .exact) s,Low B.length v)
  (h0:I s0) (ha:acc s0=[]) (he:slots.map e=V (.list [] .exact) s0) (hH:H=B)
  (none:∀ s,I s→acc s=[]→AW P gl n x (fun ex e' H'=>jx f acc I m Q B slots V s ex (slots.map e') H') (av slots (V (.list [] .exact) s)) B)
  (some:∀ s,I s→acc s≠[]→AW P gl n x (fun ex e' H'=>jx f acc I m Q B slots V s ex (slots.map e') H') (av slots (V (.list ((acc s).map f) (.tok B.length)) s)) (B++[.tok])):AW P gl n (.loop x) Q e H:=by
 subst hH
 have key:∀ s,I s→∀ ex vs H',jx f acc I m Q H slots V s ex vs H'→vz Q H.length slots I (fun s=>V (.list ((acc s).map f) (tlL H.length (acc s))) s) (fun s=>hpL H (acc s)) m s ex vs H':=by
  intro s hs ex vs H' h
  cases ex with
  | exit j=>exact h
  | ret=>exact h
  | normal=>
   obtain⟨s',h1,h2,h3⟩:=h
   refine⟨s',h1,h2,?_⟩
   rcases h3 with⟨h3,X,rfl,rfl⟩|⟨h3,X,k,rfl,h5,h6,rfl⟩
   ·simp only[h3,List.map_nil,tlL,hpL]
    exact oy rfl hlow (hv s' h2)
   ·have r:=relab_row (X:=X) rfl hlow h6 h5 (hrv _ _ _ h2 (bh fun a ha=>hf s' h2 a ha))
    have e1:=CH (n0:=H.length) h3
    have e2:=Bf (B:=H) h3
    rw[← e1,← e2] at r
    exact r
 refine l8 hgl (σ:=σ) slots I (fun s=>V (.list ((acc s).map f) (tlL H.length (acc s))) s) (fun s=>hpL H (acc s)) m s0 h0 (by rw[ha]; exact he) (by rw[ha]; rfl) ?_
 intro s hs
 cases hq:acc s with
 | nil=>exact(none s hs hq).mono fun ex e' H' k=>key s hs ex _ H' k
 | cons a l=>
  have hne:acc s≠[]:=by rw[hq]; simp
  have:=(some s hs hne).mono fun ex e' H' k=>key s hs ex _ H' k
  rw[hq] at this
  exact this
theorem AW.K0 [Dfr] {P:Program} {gl:aC} {n:Nat} {c:Code} {Q:Ex→Env→ae→Prop} {e:Env} {H:ae} {slots:List Nat} (h:AW P gl n c (fun ex e' H'=>∃ vs,WkL (slots.map e') vs∧Q ex (av slots vs) H') e H):AW P gl n c Q e H:=by
 intro hd g a w hst
 refine wp_mono (h hd g a w hst) ?_
 rintro ex a' w' ⟨ex',g',e',H',k0,k1,k2,vs,k3,k4⟩
 have h1:=k1.weaken (bQ e' slots)
 exact⟨ex',g',_,H',k0,⟨h1.sim,h1.glob,⟨h1.env.1,fun t=>kU k3 t _ (h1.env.2 t)⟩,h1.dfr⟩,k2,k4⟩
end Go.AM

namespace Go.AM
open Go
end Go.AM

namespace Go.AM
open Go
theorem at0 (B:ae) (a:Ob) (X:ae):(B++a::X)[B.length]?=some a:=by rw[List.getElem?_append_right (Nat.le_refl _),Nat.sub_self]; rfl
theorem at1 (B:ae) (a b:Ob) (X:ae):(B++a::b::X)[B.length+1]?=some b:=by rw[List.getElem?_append_right (by omega),show B.length+1-B.length=1 by omega]; rfl
end Go.AM

namespace Go.AM
open Go
def gG (P:Program) (gl:aC) (f:FuncId) (args:List PV) (H:ae) (K:PV→ae→Prop):Prop:=
 ∀ g w (vs:Array Value),Sim g H w→cZ g w gl→aR g w args vs.toList→∀ u,
  CallsD P f vs u w fun e u' w'=>u'=u∧∃ v g' H' x,e = .returned v∧Sim g' H' w'∧Ext g H w g' H' w'∧Rel g' w' x v∧K x H'
theorem qn {P:Program} {gl:aC} {f:FuncId} {fn:Func} {c:Code} (hf:P.funcs[f]?=some fn) (hb:fn.body=some c) (hd:bN fn.ntmps c=true) {args:List PV} (hsz:args.length≤fn.ntmps) {H:ae} {K:PV→ae→Prop}
  (h:AW P gl fn.ntmps c (post P gl fn.ntmps (.fin (kW P fn.results.toList K))) (po args) H):gG P gl f args H K:=
 fun _ _ _ hS hG hR _=>callsD_of_wp hf hb (oH hd hsz h hS hG hR)
theorem o9 {P:Program} {gl:aC} {f:FuncId} {fn:Func} {T:Tab} {L:kg} (hn:Oper→Nat) (hf:P.funcs[f]?=some fn) (hb:fn.body.isSome=true) (hd:bN fn.ntmps (ai fn)=true) {args:List PV} (hsz:Nat.ble args.length fn.ntmps=true) {H:ae} {K:PV→ae→Prop}
  (hT:aB P gl T) (hL:LOk P gl fn.ntmps (ai fn) [] L) (h:Holds (wpc br P gl T L hn (ai fn) [] (po args) H (kW P fn.results.toList K))):gG P gl f args H K:=by
 obtain⟨c,hc⟩:=Option.isSome_iff_exists.1 hb
 have e:ai fn=c:=by unfold ai; rw[hc]; rfl
 rw[e] at hd hL h
 exact qn hf hc hd (Nat.le_of_ble_eq_true hsz) ((aY hT c [] hL _ _ _ h.out).mono fun _ _ _ k=>k)
theorem nf {P:Program} {gl:aC} {f:FuncId} {fn:Func} {i1:Nat} {c0:Code} {mk:Oper} {t:Tmp} {tys:Array TypeId} {ty:TypeId} {ps:String} {af:Array Edge} {rest:Code} {hn:Oper→Nat} (hf:P.funcs[f]?=some fn)
  (hb:fn.body=some (.seq c0 (.seq (.region i1 #[mk,⟨none,.defer ⟨.value (.tmp t),#[],tys⟩,ty,ps,af,none⟩] false) rest)))
  (hg:mk.guard=none) (hmd:mk.dst=some t) (hd0:bN fn.ntmps c0=true) (hdt:t<fn.ntmps) (hdr:bN fn.ntmps rest=true) {args:List PV} (hsz:args.length≤fn.ntmps) {H:ae} {K:PV→ae→Prop}
  (h:AW P gl fn.ntmps c0 (fun ex e1 H1=>ex = .normal∧opw P gl mk.op (hn mk) (ev gl e1) H1 fun x H2=>∃ F caps,x = .fn F caps∧cG P F=true∧
   ∀ D:Dfr,@AW D P gl fn.ntmps rest (fun ex e3 H3=>(ex = .normal∨ex = .ret)∧gG P gl F caps H3 fun _ H4=>kW P fn.results.toList K ex e3 H4) (upd e1 (some t) x) H2) (po args) H):aj P gl f args H K:=by
 intro g w vs hS hG hR
 refine calls_of_wp_defers hf hb ?_
 have hst:=tb hS hG hR hsz
 refine wp_seq (wp_mono (h hd0 g _ w hst) ?_)
 rintro ex a1 w1 ⟨ex1,g1,e1,H1,k0,k1,k2,rfl,k3⟩
 cases ex<;>first|exact k0.elim|skip
 show Code.wp P (.seq _ rest) _ a1 w1
 generalize hQ:bodyPostD P fn (fun e w'=>∃ v g' H' x,e=Ending.returned v∧Sim g' H' w'∧Ext g H w g' H' w'∧Rel g' w' x v∧K x H')=QQ
 refine wp_seq (wp_region ?_)
 show wpOps P _ _ [0,1] a1 w1
 have last:∀(g2:Gh) (H2:ae) (w2:World) (x:PV) (v:Value),Sim g2 H2 w2→Ext g1 H1 w1 g2 H2 w2→Rel g2 w2 x v→(∃ F caps,x = .fn F caps∧cG P F=true∧
   ∀ D:Dfr,@AW D P gl fn.ntmps rest (fun ex e3 H3=>(ex = .normal∨ex = .ret)∧gG P gl F caps H3 fun _ H4=>kW P fn.results.toList K ex e3 H4) (upd e1 (some t) x) H2)→
   wpOps P #[mk,⟨none,.defer ⟨.value (.tmp t),#[],tys⟩,ty,ps,af,none⟩] (Exit.then (rest.wp P QQ) QQ) [1] (a1.put mk.dst v) w2:=by
  rintro g2 H2 w2 x v h1 h2 h3 ⟨F,caps,rfl,hca,hrest⟩
  have hst2:=k1.next h1 h2 h3 (some t) (fun _ e=>by cases e; exact hdt)
  rw[hmd]
  have hev:=hst2.env.ev hst2.glob (.tmp t)
  have hev':Rel g2 w2 (.fn F caps) ((a1.put (some t) v).eval (.tmp t)):=by
   have e:ev gl (upd e1 (some t) (.fn F caps)) (.tmp t) = .fn F caps:=by
    show(if t=t then PV.fn F caps else e1 t)=_
    rw[if_pos rfl]
   rw[e] at hev; exact hev
  obtain⟨cv,hv,hcr⟩:=Rel.fz.1 hev'
  unfold wpOps
  rw[show(#[mk,⟨none,.defer ⟨.value (.tmp t),#[],tys⟩,ty,ps,af,none⟩]:Array Oper)[1]?=some ⟨none,.defer ⟨.value (.tmp t),#[],tys⟩,ty,ps,af,none⟩ from rfl]
  simp only
  have hw:Region.wanted ⟨none,.defer ⟨.value (.tmp t),#[],tys⟩,ty,ps,af,none⟩ (yielded #[mk,⟨none,.defer ⟨.value (.tmp t),#[],tys⟩,ty,ps,af,none⟩] (a1.put (some t) v).tmps)=true:=rfl
  rw[if_pos hw]
  refine .inl ?_
  unfold Oper.wp
  have hrun:(execOp (a1.put (some t) v).eval ⟨none,.defer ⟨.value (.tmp t),#[],tys⟩,ty,ps,af,none⟩).run P w2 = .ok (.defer { target:= .fn (.func F) cv,args:= #[] }) w2:=by
   simp only[execOp,resolve,hv,Deferred.ofValue,Sem.run_bind,Sem.run_pure,Result.andThen_ok]
   simp
  rw[hrun,Oper.upon_defer]
  unfold wpOps
  have hdf:(a1.put (some t) v).defers=[]:=hst2.dfr
  refine wp_mono (@hrest ⟨[{ target:= .fn (.func F) cv,args:= #[] }]⟩ hdr g2 _ w2 ?_) ?_
  ·refine @St.mk ⟨_⟩ _ _ _ _ _ _ _ hst2.sim hst2.glob hst2.env ?_
   show _::(a1.put (some t) v).defers=_
   rw[hdf]; rfl
  ·rintro ex a' w' ⟨ex',g',e',H',j0,⟨js,jg,je,jd⟩,j2,j3,j4⟩
   have hdd:a'.defers=[{ target:= .fn (.func F) cv,args:= #[] }]:=jd
   have hcr':aR g' w' caps cv.toList:=by
    have:=(hev'.mono j2.gx)
    rw[hv] at this
    obtain⟨cv2,e2,h⟩:=Rel.fz.1 this
    cases e2; exact h
   have key:kW P fn.results.toList K=kW P fn.results.toList K→Leaves P fn a'.tmps (fun e w'=>∃ v g' H' x,e=Ending.returned v∧Sim g' H' w'∧Ext g H w g' H' w'∧Rel g' w' x v∧K x H') a'.defers .returning w':=by
    intro _
    rw[hdd]
    refine leaves_cons (by simp) (f:=F) (args:= #[]++cv) ?_ ?_
    ·simp only[invoke]
     exact kZ hca _ w'
    ·have hcall:=j4 g' w' (#[]++cv) js jg (by simpa using hcr') .returning
     refine hcall.mono ?_
     rintro e u' w'' ⟨rfl,v2,g'',H'',x2,rfl,m1,m2,m3,m4⟩
     show Leaves P fn a'.tmps _ [] .returning w''
     have hst3: @St ⟨a'.defers⟩ gl fn.ntmps g'' e' H'' a' w'':= @St.mk ⟨a'.defers⟩ _ _ _ _ _ _ _ m1 (jg.mono m2.gx) (je.mono m2.gx) rfl
     have hres:(match qi P H'' e' fn.results.toList with|some [x]=>K x H''|some xs=>K (.tup xs) H''|none=>False):=by
      rcases j3 with rfl|rfl<;>exact m4
     obtain⟨v3,r1,x3,r2,r3⟩:= @wW ⟨a'.defers⟩ _ _ _ _ _ _ _ _ _ _ hst3 hres
     exact⟨v3,r1,v3,g'',H'',x3,rfl,m1,((k2.trans h2).trans j2).trans m2,r2,r3⟩
   rw[← hQ]
   rcases j3 with rfl|rfl<;>cases ex<;>first|exact j0.elim|exact key rfl
 have hno:=fU k1.sim k1.glob (o:=mk) (a:=a1) (fun x=>k1.env.ev k1.glob x) k3
 unfold wpOps
 rw[show(#[mk,⟨none,.defer ⟨.value (.tmp t),#[],tys⟩,ty,ps,af,none⟩]:Array Oper)[0]?=some mk from rfl]
 simp only
 have hw:Region.wanted mk (yielded #[mk,⟨none,.defer ⟨.value (.tmp t),#[],tys⟩,ty,ps,af,none⟩] a1.tmps)=true:=by simp[Region.wanted,hg]
 rw[if_pos hw]
 refine .inl ?_
 unfold Oper.wp
 rcases hno with⟨v,w',g',H',x,h1,h2,h3,h4,h5⟩|⟨w',g',H',h1,h2,h3,h4⟩|⟨f,vs,h1,h2⟩
 ·rw[h1]; exact last g' H' w' x v h2 h3 h4 h5
 ·obtain⟨F,caps,e,_⟩:=h4; cases e
 ·rw[h1]
  refine h2.mono ?_
  rintro ex w' ⟨v,g',H',x,rfl,k1,k2,k3,k4⟩
  exact last g' H' w' x v k1 k2 k3 k4
def AN (c:Code) (t:Tmp):Bool:=match c with
 | .seq _ (.seq (.region _ ops false) _)=>match ops.toList with
  | [mk,⟨none,.defer ⟨.value (.tmp t'),as,_⟩,_,_,_,none⟩]=>t' == t && as.isEmpty && mk.guard.isNone && mk.dst == some t
  | _=>false
 | _=>false
def J9 (c:Code):Oper:=((opsOf (cw [1,0] c)).toList.head?).getD default
theorem lA {P:Program} {gl:aC} {f:FuncId} {fn:Func} {t:Tmp} (m:Nat) (hf:P.funcs[f]?=some fn) (hb:fn.body.isSome=true) (hs:AN (ai fn) t=true) (hd:bN fn.ntmps (ai fn)=true) (hdt:Nat.blt t fn.ntmps=true) {args:List PV} (hsz:Nat.ble args.length fn.ntmps=true) {H:ae} {K:PV→ae→Prop}
  (h:AW P gl fn.ntmps (cw [0] (ai fn)) (fun ex e1 H1=>ex = .normal∧opw P gl (J9 (ai fn)).op m (ev gl e1) H1 fun x H2=>∃ F caps,x = .fn F caps∧cG P F=true∧
   ∀ D:Dfr,@AW D P gl fn.ntmps (cw [1,1] (ai fn)) (fun ex e3 H3=>(ex = .normal∨ex = .ret)∧gG P gl F caps H3 fun _ H4=>kW P fn.results.toList K ex e3 H4) (upd e1 (some t) x) H2) (po args) H):aj P gl f args H K:=by
 obtain⟨c,hc⟩:=Option.isSome_iff_exists.1 hb
 have e:ai fn=c:=by unfold ai; rw[hc]; rfl
 rw[e] at hs hd h
 unfold AN at hs
 split at hs
 ·rename_i c0 i1 ops rest
  split at hs
  ·rename_i mk t' as tys ty ps af hops
   simp only[Bool.and_eq_true,beq_iff_eq] at hs
   obtain⟨⟨⟨rfl,ha⟩,hg⟩,hmd⟩:=hs
   have ha:as = #[]:=by simpa using ha
   subst ha
   have ho:ops = #[mk,⟨none,.defer ⟨.value (.tmp t'),#[],tys⟩,ty,ps,af,none⟩]:=by
    apply Array.ext'; exact hops
   subst ho
   simp only[bN,Bool.and_eq_true] at hd
   exact nf (hn:=fun _=>m) hf hc (by simpa using hg) hmd hd.1 (by simpa using hdt) hd.2.2 (Nat.le_of_ble_eq_true hsz) h
  ·cases hs
 ·cases hs
end Go.AM

namespace Go.AM
open Go
def Bh (n0:Nat) (V:PV→PV→List PV):Prop:=∀(ρ:Nat→Nat) (n k1 k2:Nat) (es1 es2:List (List PV)),(∀ o,o<n0→ρ o=o)→n0≤n→k1<n→k2<n→(∀ x∈es1.flatten,Low 0 x)→(∀ x∈es2.flatten,Low 0 x)→aW ρ n (V (.list es1 (.tok k1)) (.list es2 (.tok k2))) (V (.list es1 (.tok (ρ k1))) (.list es2 (.tok (ρ k2))))
def pi (n0 k1 k2:Nat):Nat→Nat:=fun o=>if o<n0 then o else if o=n0 then k1 else k2
theorem AF {B X:ae} (hB:oL B) {V:PV→PV→List PV} (hV:Bh B.length V) {es1 es2:List (List PV)} (l1:∀ x∈es1.flatten,Low 0 x) (l2:∀ x∈es2.flatten,Low 0 x) {k1 k2:Nat} (h1:(B++X)[k1]?=some .tok) (h2:(B++X)[k2]?=some .tok) (b1:B.length≤k1) (b2:B.length≤k2) (hne:k1≠k2):
  dV B.length (V (.list es1 (.tok k1)) (.list es2 (.tok k2))) (B++X) (V (.list es1 (.tok B.length)) (.list es2 (.tok (B.length+1)))) (B++[.tok,.tok]):=by
 have e1:=(List.getElem?_eq_some_iff.1 h1).1
 have e2:=(List.getElem?_eq_some_iff.1 h2).1
 have len:(B++[Ob.tok,.tok]).length=B.length+2:=by simp
 have r0:∀ o,o<B.length→pi B.length k1 k2 o=o:=fun o ho=>by unfold pi; rw[if_pos ho]
 have r1:pi B.length k1 k2 B.length=k1:=by unfold pi; rw[if_neg (by omega),if_pos rfl]
 have r2:pi B.length k1 k2 (B.length+1)=k2:=by unfold pi; rw[if_neg (by omega),if_neg (by omega)]
 refine⟨_,_,pi B.length k1 k2,.refl _,.refl _,⟨fun o ho=>?_,fun a b ha hb h3=>?_,fun j a hj=>?_⟩,by omega,r0,?_⟩
 ·unfold pi; split; omega; split<;>omega
 ·rw[len] at ha hb
  unfold pi at h3
  split at h3<;>split at h3<;>(try split at h3)<;>(try split at h3)<;>omega
 ·have k:=(List.getElem?_eq_some_iff.1 hj).1
  rw[len] at k ⊢
  by_cases c:j<B.length
  ·rw[cr c] at hj
   exact⟨a,by rw[r0 j c,cr c]; exact hj,hB.ob hj r0 (by omega)⟩
  ·by_cases c2:j=B.length
   ·subst c2
    rw[at0] at hj; cases hj
    exact⟨_,by rw[r1]; exact h1,.tok⟩
   ·have:j=B.length+1:=by omega
    subst this
    rw[at1] at hj; cases hj
    exact⟨_,by rw[r2]; exact h2,.tok⟩
 ·have:=hV (pi B.length k1 k2) (B.length+2) B.length (B.length+1) es1 es2 r0 (by omega) (by omega) (by omega) l1 l2
  rw[r1,r2] at this
  rw[len]; exact this
def uJ {α σ:Type} (f1 f2:α→List PV) (acc:σ→List α) (I:σ→Prop) (m:σ→Nat) (Q:Ex→Env→ae→Prop) (B:ae) (slots:List Nat) (V:PV→PV→σ→List PV) (s:σ):Ex→List PV→ae→Prop:=fun ex vs H'=>match ex with
 | .normal=>∃ s',m s'<m s∧I s'∧((acc s'=[]∧∃ X,H'=B++X∧vs=V (.list [] .exact) (.list [] .exact) s')∨
   (acc s'≠[]∧∃ X k1 k2,H'=B++X∧(B++X)[k1]?=some .tok∧(B++X)[k2]?=some .tok∧B.length≤k1∧B.length≤k2∧k1≠k2∧vs=V (.list ((acc s').map f1) (.tok k1)) (.list ((acc s').map f2) (.tok k2)) s'))
 | ex=>∃ vs2 X,H'=B++X∧WkL vs vs2∧(∀ v∈vs2,Lid B.length v)∧Q ex (av slots vs2) B
theorem Bv [Dfr] {α σ:Type} {f1 f2:α→List PV} {acc:σ→List α} {I:σ→Prop} {m:σ→Nat} {P:Program} {gl:aC} (hgl:aU gl) {n:Nat} {x:Code} {Q:Ex→Env→ae→Prop} {e:Env} {H:ae} (slots:List Nat) (V:PV→PV→σ→List PV) (B:ae) (s0:σ) (hB:oL B) (hBL:gQ B.length B)
  (hf1:∀ a,∀ x∈f1 a,Low 0 x) (hf2:∀ a,∀ x∈f2 a,Low 0 x) (hV:∀ s,I s→Bh B.length fun T U=>V T U s) (hv:∀ s,I s→∀ v∈V (.list [] .exact) (.list [] .exact) s,Lid B.length v)
  (h0:I s0) (ha:acc s0=[]) (he:slots.map e=V (.list [] .exact) (.list [] .exact) s0) (hH:H=B)
  (none:∀ s,I s→acc s=[]→AW P gl n x (fun ex e' H'=>uJ f1 f2 acc I m Q B slots V s ex (slots.map e') H') (av slots (V (.list [] .exact) (.list [] .exact) s)) B)
  (some:∀ s,I s→acc s≠[]→AW P gl n x (fun ex e' H'=>uJ f1 f2 acc I m Q B slots V s ex (slots.map e') H') (av slots (V (.list ((acc s).map f1) (.tok B.length)) (.list ((acc s).map f2) (.tok (B.length+1))) s)) (B++[.tok,.tok])):AW P gl n (.loop x) Q e H:=by
 subst hH
 let Vs:σ→List PV:=fun s=>match acc s with
  | []=>V (.list [] .exact) (.list [] .exact) s
  | a::l=>V (.list ((a::l).map f1) (.tok H.length)) (.list ((a::l).map f2) (.tok (H.length+1))) s
 let Hs:σ→ae:=fun s=>match acc s with
  | []=>H
  | _::_=>H++[.tok,.tok]
 have v0:∀ s,acc s=[]→Vs s=V (.list [] .exact) (.list [] .exact) s∧Hs s=H:=fun s h=>by simp only[Vs,Hs,h]; exact⟨trivial,trivial⟩
 have v1:∀ s,acc s≠[]→Vs s=V (.list ((acc s).map f1) (.tok H.length)) (.list ((acc s).map f2) (.tok (H.length+1))) s∧Hs s=H++[.tok,.tok]:=fun s h=>by
  cases q:acc s with
  | nil=>exact absurd q h
  | cons a l=>simp only[Vs,Hs,q]; exact⟨trivial,trivial⟩
 have key:∀ s,I s→∀ ex vs H',uJ f1 f2 acc I m Q H slots V s ex vs H'→rT Q H.length slots I Vs Hs m s ex vs H':=by
  intro s hs ex vs H' k
  cases ex with
  | normal=>
   obtain⟨s',h1,h2,⟨h3,X,rfl,rfl⟩|⟨h3,X,k1,k2,rfl,t1,t2,b1,b2,hne,rfl⟩⟩:=k
   ·refine⟨s',h1,h2,?_⟩
    rw[(v0 s' h3).1,(v0 s' h3).2]
    exact lU hBL (.refl _) (hv s' h2) (Nat.le_refl _)
   ·refine⟨s',h1,h2,?_⟩
    rw[(v1 s' h3).1,(v1 s' h3).2]
    exact AF (V:=fun T U=>V T U s') hB (hV s' h2) (bh fun a _=>hf1 a) (bh fun a _=>hf2 a) t1 t2 b1 b2 hne
  | exit j=>
   obtain⟨vs2,X,rfl,hw,hl,hq⟩:=k
   exact⟨vs2,H,lU hBL hw hl (Nat.le_refl _),hq⟩
  | ret=>
   obtain⟨vs2,X,rfl,hw,hl,hq⟩:=k
   exact⟨vs2,H,lU hBL hw hl (Nat.le_refl _),hq⟩
 refine pH hgl (σ:=σ) slots I Vs Hs m s0 h0 (by rw[(v0 s0 ha).1]; exact he) (v0 s0 ha).2.symm ?_
 intro s hs
 by_cases c:acc s=[]
 ·rw[(v0 s c).1,(v0 s c).2]
  exact(none s hs c).mono fun ex e' H' k=>key s hs ex _ H' k
 ·rw[(v1 s c).1,(v1 s c).2]
  exact(some s hs c).mono fun ex e' H' k=>key s hs ex _ H' k
end Go.AM

namespace Go.AM
open Go
def oS (q a t:Nat):Nat→Nat:=fun o=>if o=0 then q else if o=1 then a else t
theorem uk {P:Program} {gl:aC} (hgl:aU gl) {f:FuncId} {rest:List PV} {H:ae} {q t a:Nat} {RI RM RI' RM':Rep} {x0:PV} {K:PV→ae→Prop} (hI:bO H q RI) (hB:cC H t a RM) (hqa:q≠a) (hrest:∀ x∈rest,Low 0 x) (hx:Low 0 x0)
  (h:aj P gl f (.ptr 0 0 :: .ptr 2 0::rest) [.abs RI,.abs RM,.cells [.ptr 1 0]] (fun x H'=>x=x0∧∃ G,H' = .abs RI' :: .abs RM' :: .cells [.ptr 1 0]::G)) (hk:K x0 ((H.set q (.abs RI')).set a (.abs RM'))):aj P gl f (.ptr q 0 :: .ptr t 0::rest) H K:=by
 have hI:H[q]?=some (.abs RI):=hI
 obtain⟨hB1,hB2⟩:=hB
 have lq:=(List.getElem?_eq_some_iff.1 hI).1
 have lt:=(List.getElem?_eq_some_iff.1 hB1).1
 have la:=(List.getElem?_eq_some_iff.1 hB2).1
 have hqt:q≠t:=fun e=>by rw[e,hB1] at hI; cases hI
 have hta:t≠a:=fun e=>by rw[e,hB2] at hB1; cases hB1
 have three:∀ {A B C:Ob} {o:Nat} {b:Ob},[A,B,C][o]?=some b→(o=0∧b=A)∨(o=1∧b=B)∨(o=2∧b=C):=fun {A B C o b} e=>by
  have k1:=(List.getElem?_eq_some_iff.1 e).1
  simp at k1
  have:o=0∨o=1∨o=2:=by omega
  rcases this with rfl|rfl|rfl<;>cases e
  ·exact .inl ⟨rfl,rfl⟩
  ·exact .inr (.inl ⟨rfl,rfl⟩)
  ·exact .inr (.inr ⟨rfl,rfl⟩)
 have r0:oS q a t 0=q:=rfl
 have r1:oS q a t 1=a:=rfl
 have r2:oS q a t 2=t:=rfl
 have h1:aj P gl f (.ptr 0 0 :: .ptr 2 0::rest) [.abs RI,.abs RM,.cells [.ptr 1 0]] (fun x H'=>x=x0∧H'=[.abs RI',.abs RM',.cells [.ptr 1 0]]):=by
  refine h.forget fun x H' hh=>?_
  obtain⟨rfl,G,rfl⟩:=hh
  refine⟨[.abs RI',.abs RM',.cells [.ptr 1 0]],G,rfl,rfl,hx.up,fun o cs ho'=>?_,rfl,rfl⟩
  rcases three ho' with⟨_,e⟩|⟨_,e⟩|⟨rfl,e⟩
  ·cases e
  ·cases e
  ·cases e; exact .inl rfl
 have hsub:Sub (oS q a t) [.abs RI,.abs RM,.cells [.ptr 1 0]] H:=by
  refine⟨fun o ho=>?_,fun x y hx hy e=>?_,fun o b ho=>?_⟩
  ·unfold oS; split; omega; split<;>omega
  ·simp at hx hy
   unfold oS at e
   split at e<;>split at e<;>(try split at e)<;>(try split at e)<;>omega
  ·rcases three ho with⟨rfl,rfl⟩|⟨rfl,rfl⟩|⟨rfl,rfl⟩
   ·exact⟨_,hI,.abs _⟩
   ·exact⟨_,hB2,.abs _⟩
   ·exact⟨_,hB1,.cells (.cons (Ren.ptr (ρ:=oS q a t) (n:=3) 1 0 (by decide)) .nil)⟩
 refine a9 hgl hsub (.cons (.ptr (ρ:=oS q a t) 0 0 (by simp)) (.cons (.ptr (ρ:=oS q a t) 2 0 (by simp)) (aW.low hrest))) (aM h1 fun x H' e=>?_)
 obtain⟨rfl,rfl⟩:=e
 refine⟨x,_,⟨Nat.le_refl _,by simp,fun o b ho'=>?_,fun o hl hn=>?_⟩,.low hx,hk⟩
 ·rcases three ho' with⟨rfl,rfl⟩|⟨rfl,rfl⟩|⟨rfl,rfl⟩
  ·refine⟨.abs RI',?_,.abs _,fun h=>h⟩
   simp only[aN,List.length_cons,List.length_nil]
   rw[if_pos (by omega),r0,List.getElem?_set_ne (Ne.symm hqa),List.getElem?_set_self lq]
  ·refine⟨.abs RM',?_,.abs _,fun h=>h⟩
   simp only[aN,List.length_cons,List.length_nil]
   rw[if_pos (by omega),r1,List.getElem?_set_self (by simpa using la)]
  ·refine⟨.cells [.ptr a 0],?_,.cells (.cons ?_ .nil),fun h=>h⟩
   ·simp only[aN,List.length_cons,List.length_nil]
    rw[if_pos (by omega),r2,List.getElem?_set_ne (Ne.symm hta),List.getElem?_set_ne hqt]
    exact hB1
   ·have:=Ren.ptr (ρ:=aN (oS q a t) 3 H.length) (n:=3) 1 0 (by decide)
    simpa[aN,oS] using this
 ·have n0:=hn 0 (by simp)
  have n1:=hn 1 (by simp)
  rw[r0] at n0
  rw[r1] at n1
  rw[List.getElem?_set_ne n1,List.getElem?_set_ne n0]
end Go.AM

namespace Go.AM
open Go
end Go.AM

