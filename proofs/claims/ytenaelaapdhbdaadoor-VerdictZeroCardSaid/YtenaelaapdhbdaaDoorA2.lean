/-
  An abstract machine over values without memory, proved against the model; part 2. A tool for the proofs of this claim; it states nothing of the program.
-/
import Derived.Test.YtenaelaapdhbdaaDoorA1
import Derived.DataReads
import Derived.Below
import Derived.ChangeOld
import Derived.OpenShut
import Derived.ChangeArms
import Derived.Carry
import Derived.ChangeShapes
import Derived.Scope
namespace Go.AM
open Go
def upd (e:Env) (d:Option Tmp) (x:PV):Env:=
 match d with
 | some t=>fun k=>if k=t then x else e k
 | none=>e
def ph (P:Program) (gl:aC) (hn:Oper→Nat) (ops:Array Oper):List Oper→Env→ae→(Env→ae→Prop)→Prop
 | [],e,H,K=>K e H
 | o::l,e,H,K=>
  match o.guard with
  | none=>opw P gl o.op (hn o) (ev gl e) H fun x H'=>ph P gl hn ops l (upd e o.dst x) H' K
  | some (j,want)=>match (ops[j]?).bind (·.dst) with
   | some d=>match e d with
    | .bool b=>(b=want→opw P gl o.op (hn o) (ev gl e) H fun x H'=>ph P gl hn ops l (upd e o.dst x) H' K)∧(b = !want→ph P gl hn ops l (upd e o.dst (.tup [])) H K)
    | .tup []=>ph P gl hn ops l (upd e o.dst (.tup [])) H K
    | _=>False
   | none=>False
inductive Ex where
 | normal
 | exit (id:Nat)
 | ret
def Hw:Exit→Ex→Prop
 | .normal,.normal=>True
 | .exit i,.exit j=>i=j
 | .ret,.ret=>True
 | _,_=>False
def k9 (n:Nat) (o:Oper):Bool:=match o.dst with
 | some d=>decide (d<n)
 | none=>true
def bN (n:Nat):Code→Bool
 | .region _ ops _=>ops.toList.all (k9 n)
 | .seq a b=>bN n a && bN n b
 | .cond _ a b=>bN n a && bN n b
 | .block _ b=>bN n b
 | .loop b=>bN n b
 | .scope b=>bN n b
 | _=>true
class Dfr where
 ds:List Deferred
instance dfr0:Dfr:=⟨[]⟩
structure St [Dfr] (gl:aC) (n:Nat) (g:Gh) (e:Env) (H:ae) (a:Act) (w:World):Prop where
 sim:Sim g H w
 glob:cZ g w gl
 env:gF g w n e a
 dfr:a.defers=Dfr.ds
theorem gF.put {g:Gh} {w:World} {n:Nat} {e:Env} {a:Act} (h:gF g w n e a) {x:PV} {v:Value} (hx:Rel g w x v) (d:Option Tmp) (hd:∀ t,d=some t→t<n):gF g w n (upd e d x) (a.put d v):=by
 cases d with
 | none=>exact h
 | some t=>
  refine⟨by simp[Act.put,h.1],fun k=>?_⟩
  simp only[upd,Act.put]
  by_cases hk:k=t
  ·subst hk
   rw[if_pos rfl]
   have:k<a.tmps.size:=by rw[h.1]; exact hd k rfl
   simp[Array.getD,this]; exact hx
  ·rw[if_neg hk]
   have:=h.2 k
   simp only[Array.getD_eq_getD_getElem?] at this ⊢
   rw[Array.getElem?_setIfInBounds_ne (Ne.symm hk)]
   exact this
def AW [Dfr] (P:Program) (gl:aC) (n:Nat) (c:Code) (Q:Ex→Env→ae→Prop) (e:Env) (H:ae):Prop:=
 bN n c=true→∀ g a w,St gl n g e H a w→
  c.wp P (fun ex a' w'=>∃ ex' g' e' H',Hw ex ex'∧St gl n g' e' H' a' w'∧Ext g H w g' H' w'∧Q ex' e' H') a w
theorem St.next [Dfr] {gl:aC} {n:Nat} {g g':Gh} {e:Env} {H H':ae} {a:Act} {w w':World} (h:St gl n g e H a w) (hs:Sim g' H' w') (hx:Ext g H w g' H' w') {x:PV} {v:Value} (hr:Rel g' w' x v) (d:Option Tmp) (hd:∀ t,d=some t→t<n):
  St gl n g' (upd e d x) H' (a.put d v) w':=
 ⟨hs,h.glob.mono hx.gx,(h.env.mono hx.gx).put hr d hd,by cases d<;>exact h.dfr⟩
theorem dG (g:Gh) (w:World):Rel g w (.tup []) undef:=Rel.dD.2 ⟨#[],rfl,.nil⟩
theorem yf {P:Program} {o:Oper} {a:Act} {w:World} {next next':Act→World→Prop} {Q Q':Exit→Act→World→Prop} (hn:∀ a w,next a w→next' a w) (hq:∀ e a w,Q e a w→Q' e a w)
  (h:o.wp P a w next Q):o.wp P a w next' Q':=by
 unfold Oper.wp Oper.upon at *
 split at h
 ·exact hn _ _ h
 ·exact hn _ _ h
 ·exact hn _ _ h
 ·refine h.mono ?_
  intro e w' hr
  cases e with
  | returned v=>exact hn _ _ hr
  | panicked chain=>exact hq _ _ _ hr
  | outgrown=>obtain⟨a,w,k⟩:=hr; exact⟨a,w,hq _ _ _ k⟩
 ·exact h.mono fun v w' hr=>hn _ _ hr
 ·exact hq _ _ _ h
 ·exact h.elim
theorem fq {P:Program} {ops:Array Oper} {Q Q':Exit→Act→World→Prop} (is:List Nat) (hq:∀ e a w,Q e a w→Q' e a w):∀(a:Act) (w:World),wpOps P ops Q is a w→wpOps P ops Q' is a w:=by
 induction is with
 | nil=>intro a w h; exact hq _ _ _ h
 | cons i is ih=>
  intro a w h
  unfold wpOps at h ⊢
  split at h
  ·exact ih a w h
  ·split at h
   ·rename_i hw
    rw[if_pos hw]
    rcases h with h|⟨h1,a0,w0,h2⟩
    ·exact .inl (yf ih hq h)
    ·exact .inr ⟨h1,a0,w0,hq _ _ _ h2⟩
   ·rename_i hw
    rw[if_neg hw]
    exact ih _ w h
theorem gH [Dfr] {gl:aC} {n:Nat} {g:Gh} {e:Env} {H:ae} {a:Act} {w:World} (hst:St gl n g e H a w) {ops:Array Oper} {j:Nat} {d:Tmp} (hd:(ops[j]?).bind (·.dst)=some d) (hb:e d = .tup []):
  yielded ops a.tmps j=none:=by
 unfold yielded
 rw[hd]
 simp only[Option.bind_some]
 have hr:=hst.env.2 d
 rw[hb] at hr
 rcases Nat.lt_or_ge d a.tmps.size with hlt|hge
 ·rw[Array.getD_eq_getD_getElem?,Array.getElem?_eq_getElem hlt] at hr
  rw[Array.getElem?_eq_getElem hlt]
  simp only[Option.getD_some] at hr
  generalize a.tmps[d]=v at hr
  cases hr; rfl
 ·rw[Array.getElem?_eq_none hge]
theorem tV [Dfr] {P:Program} {gl:aC} {hn:Oper→Nat} {n:Nat} {ops:Array Oper} {K:Env→ae→Prop} (hd:ops.toList.all (k9 n)=true):∀(is:List Nat) (l:List Oper) (g:Gh) (e:Env) (H:ae) (a:Act) (w:World),
  is.map (fun i=>ops[i]?)=l.map some→St gl n g e H a w→ph P gl hn ops l e H K→
  wpOps P ops (fun ex a' w'=>∃ g' e' H',ex = .normal∧St gl n g' e' H' a' w'∧Ext g H w g' H' w'∧K e' H') is a w:=by
 intro is
 induction is with
 | nil=>
  intro l g e H a w hl hst h
  have:l=[]:=by simpa using hl
  subst this
  exact⟨g,e,H,rfl,hst,.refl g H w,h⟩
 | cons i is ih=>
  intro l g e H a w hl hst h
  cases l with
  | nil=>simp at hl
  | cons o l=>
   simp only[List.map_cons,List.cons.injEq] at hl
   obtain⟨hi,hl⟩:=hl
   have hmem:o∈ops.toList:=by
    obtain⟨hlt,he⟩:=Array.getElem?_eq_some_iff.1 hi
    rw[← he]; exact Array.getElem_mem_toList hlt
   have hdo:∀ t,o.dst=some t→t<n:=by
    intro t ht
    have:=List.all_eq_true.1 hd o hmem
    simpa[k9,ht] using this
   have step:∀(K':PV→ae→Prop),(∀ x H',K' x H'→ph P gl hn ops l (upd e o.dst x) H' K)→opw P gl o.op (hn o) (ev gl e) H K'→
     o.wp P a w (wpOps P ops (fun ex a' w'=>∃ g' e' H',ex = .normal∧St gl n g' e' H' a' w'∧Ext g H w g' H' w'∧K e' H') is) (fun ex a' w'=>∃ g' e' H',ex = .normal∧St gl n g' e' H' a' w'∧Ext g H w g' H' w'∧K e' H'):=by
    intro K' hK' hop
    have hno:=fU hst.sim hst.glob (o:=o) (a:=a) (fun x=>hst.env.ev hst.glob x) hop
    have cont:∀(g1:Gh) (H1:ae) (w1:World) (x:PV) (v:Value),Sim g1 H1 w1→Ext g H w g1 H1 w1→Rel g1 w1 x v→K' x H1→
      wpOps P ops (fun ex a' w'=>∃ g' e' H',ex = .normal∧St gl n g' e' H' a' w'∧Ext g H w g' H' w'∧K e' H') is (a.put o.dst v) w1:=by
     intro g1 H1 w1 x v h1 h2 h3 h4
     have:=ih l g1 (upd e o.dst x) H1 (a.put o.dst v) w1 hl (hst.next h1 h2 h3 o.dst hdo) (hK' x H1 h4)
     refine fq _ ?_ _ _ this
     rintro ex a' w' ⟨g',e',H',rfl,k1,k2,k3⟩
     exact⟨g',e',H',rfl,k1,h2.trans k2,k3⟩
    unfold Oper.wp
    rcases hno with⟨v,w',g',H',x,h1,h2,h3,h4,h5⟩|⟨w',g',H',h1,h2,h3,h4⟩|⟨f,vs,h1,h2⟩
    ·rw[h1]; exact cont g' H' w' x v h2 h3 h4 h5
    ·rw[h1]; exact cont g' H' w' (.tup []) undef h2 h3 (dG g' w') h4
    ·rw[h1]
     refine h2.mono ?_
     rintro ex w' ⟨v,g',H',x,rfl,k1,k2,k3,k4⟩
     exact cont g' H' w' x v k1 k2 k3 k4
   unfold wpOps
   rw[hi]
   simp only
   unfold ph at h
   split at h
   ·rename_i hg
    have hw:Region.wanted o (yielded ops a.tmps)=true:=by simp[Region.wanted,hg]
    rw[if_pos hw]
    exact .inl (step _ (fun x H' hk=>hk) h)
   ·rename_i j want hg
    split at h
    ·rename_i d hd'
     split at h
     ·rename_i b hb
      have hy:yielded ops a.tmps j=some b:=by
       unfold yielded
       rw[hd']
       simp only[Option.bind_some]
       have hr:=hst.env.2 d
       rw[hb] at hr
       have hlt:d<a.tmps.size:=by
        rcases Nat.lt_or_ge d a.tmps.size with h|h
        ·exact h
        ·exfalso
         rw[Array.getD_eq_getD_getElem?,Array.getElem?_eq_none h] at hr
         simp only[Option.getD_none,undef] at hr
         cases hr
       rw[Array.getD_eq_getD_getElem?,Array.getElem?_eq_getElem hlt] at hr
       rw[Array.getElem?_eq_getElem hlt]
       simp only[Option.getD_some] at hr
       generalize a.tmps[d]=v at hr
       cases hr; rfl
      by_cases hbw:b=want
      ·have hw:Region.wanted o (yielded ops a.tmps)=true:=by simp[Region.wanted,hg,hy,hbw]
       rw[if_pos hw]
       exact .inl (step _ (fun x H' hk=>hk) (h.1 hbw))
      ·have hw:¬ Region.wanted o (yielded ops a.tmps)=true:=by simp[Region.wanted,hg,hy,hbw]
       rw[if_neg hw]
       have hbn:b = !want:=by cases b<;>cases want<;>simp_all
       have:=ih l g (upd e o.dst (.tup [])) H (a.put o.dst undef) w hl (hst.next hst.sim (.refl g H w) (dG g w) o.dst hdo) (h.2 hbn)
       exact this
     ·rename_i hb
      have hy:yielded ops a.tmps j=none:=gH hst hd' hb
      have hw:¬ Region.wanted o (yielded ops a.tmps)=true:=by simp[Region.wanted,hg,hy]
      rw[if_neg hw]
      exact ih l g (upd e o.dst (.tup [])) H (a.put o.dst undef) w hl (hst.next hst.sim (.refl g H w) (dG g w) o.dst hdo) h
     ·exact h.elim
    ·exact h.elim
theorem ir (ops:Array Oper):(List.range ops.size).map (fun i=>ops[i]?)=ops.toList.map some:=by
 apply List.ext_getElem?
 intro q
 by_cases hq:q<ops.size
 ·rw[List.getElem?_map,List.getElem?_range hq,List.getElem?_map]
  simp[hq]
 ·rw[List.getElem?_eq_none (by simp; omega),List.getElem?_eq_none (by simp; omega)]
theorem xU [Dfr] {P:Program} {gl:aC} {n:Nat} {id:Nat} {ops:Array Oper} {Q:Ex→Env→ae→Prop} {e:Env} {H:ae} (hn:Oper→Nat) (h:ph P gl hn ops ops.toList e H (Q .normal)):AW P gl n (.region id ops false) Q e H:=by
 intro hd g a w hst
 refine wp_region (fq _ ?_ _ _ (tV (n:=n) hd _ _ g e H a w (ir ops) hst h))
 rintro ex a' w' ⟨g',e',H',rfl,k1,k2,k3⟩
 exact⟨.normal,g',e',H',trivial,k1,k2,k3⟩
theorem AW.mono [Dfr] {P:Program} {gl:aC} {n:Nat} {c:Code} {Q Q':Ex→Env→ae→Prop} {e:Env} {H:ae} (h:AW P gl n c Q e H) (hq:∀ ex e H,Q ex e H→Q' ex e H):AW P gl n c Q' e H:=
 fun hd g a w hst=>wp_mono (h hd g a w hst) fun _ _ _ ⟨ex',g',e',H',k0,k1,k2,k3⟩=>⟨ex',g',e',H',k0,k1,k2,hq _ _ _ k3⟩
theorem Gb [Dfr] {P:Program} {gl:aC} {n:Nat} {Q:Ex→Env→ae→Prop} {e:Env} {H:ae} (h:Q .normal e H):AW P gl n .skip Q e H:=
 fun _ g _ w hst=>wp_skip ⟨.normal,g,e,H,trivial,hst,.refl g H w,h⟩
theorem Em [Dfr] {P:Program} {gl:aC} {n l:Nat} {Q:Ex→Env→ae→Prop} {e:Env} {H:ae} (h:Q .normal e H):AW P gl n (.label l) Q e H:=
 fun _ g _ w hst=>wp_label ⟨.normal,g,e,H,trivial,hst,.refl g H w,h⟩
theorem G6 [Dfr] {P:Program} {gl:aC} {n id:Nat} {Q:Ex→Env→ae→Prop} {e:Env} {H:ae} (h:Q (.exit id) e H):AW P gl n (.exit id) Q e H:=
 fun _ g _ w hst=>wp_exit ⟨.exit id,g,e,H,rfl,hst,.refl g H w,h⟩
theorem JS [Dfr] {P:Program} {gl:aC} {n:Nat} {Q:Ex→Env→ae→Prop} {e:Env} {H:ae} (h:Q .ret e H):AW P gl n .ret Q e H:=
 fun _ g _ w hst=>wp_ret ⟨.ret,g,e,H,trivial,hst,.refl g H w,h⟩
theorem ES [Dfr] {P:Program} {gl:aC} {n:Nat} {c:Operand} {x y:Code} {Q:Ex→Env→ae→Prop} {e:Env} {H:ae} {b:Bool} (hc:ev gl e c = .bool b) (h1:b=true→AW P gl n x Q e H) (h2:b=false→AW P gl n y Q e H):
  AW P gl n (.cond c x y) Q e H:=by
 intro hd g a w hst
 simp only[bN,Bool.and_eq_true] at hd
 have hr:=hst.env.ev hst.glob c
 rw[hc] at hr
 have hv:a.eval c = .bool b:=by
  generalize a.eval c=v at hr
  cases hr; rfl
 refine wp_cond_split hv (fun hb=>h1 hb hd.1 g a w hst) (fun hb=>h2 hb hd.2 g a w hst)
inductive Kt where
 | fin (Q:Ex→Env→ae→Prop)
 | seq (b:Code) (k:Kt)
 | blk (id:Nat) (k:Kt)
 | lp (I:Nat→Env→ae→Prop) (m:Nat) (k:Kt)
def post [Dfr] (P:Program) (gl:aC) (n:Nat):Kt→Ex→Env→ae→Prop
 | .fin Q=>Q
 | .seq b k=>fun ex e H=>match ex with
  | .normal=>AW P gl n b (post P gl n k) e H
  | ex=>post P gl n k ex e H
 | .blk id k=>fun ex e H=>match ex with
  | .exit i=>if i=id then post P gl n k .normal e H else post P gl n k (.exit i) e H
  | ex=>post P gl n k ex e H
 | .lp I m k=>fun ex e H=>match ex with
  | .normal=>∃ m',m'<m∧I m' e H
  | ex=>post P gl n k ex e H
theorem pn [Dfr] (P:Program) (gl:aC) (n id i:Nat) (k:Kt) (e:Env) (H:ae):post P gl n (.blk id k) (.exit i) e H=if i=id then post P gl n k .normal e H else post P gl n k (.exit i) e H:=rfl
theorem JU [Dfr] {P:Program} {gl:aC} {n:Nat} {x y:Code} {k:Kt} {e:Env} {H:ae} (h:AW P gl n x (post P gl n (.seq y k)) e H):AW P gl n (.seq x y) (post P gl n k) e H:=by
 intro hd g a w hst
 simp only[bN,Bool.and_eq_true] at hd
 refine wp_seq (wp_mono (h hd.1 g a w hst) ?_)
 rintro ex a' w' ⟨ex',g',e',H',k0,k1,k2,k3⟩
 cases ex<;>cases ex'<;>first|exact k0.elim|skip
 ·refine wp_mono (k3 hd.2 g' a' w' k1) ?_
  rintro ex2 a2 w2 ⟨ex3,g3,e3,H3,j0,j1,j2,j3⟩
  exact⟨ex3,g3,e3,H3,j0,j1,k2.trans j2,j3⟩
 ·exact⟨.exit _,g',e',H',k0,k1,k2,k3⟩
 ·exact⟨.ret,g',e',H',k0,k1,k2,k3⟩
theorem zY [Dfr] {P:Program} {gl:aC} {n id:Nat} {x:Code} {k:Kt} {e:Env} {H:ae} (h:AW P gl n x (post P gl n (.blk id k)) e H):AW P gl n (.block id x) (post P gl n k) e H:=by
 intro hd g a w hst
 simp only[bN] at hd
 refine wp_block (wp_mono (h hd g a w hst) ?_)
 rintro ex a' w' ⟨ex',g',e',H',k0,k1,k2,k3⟩
 cases ex<;>cases ex'<;>first|exact k0.elim|skip
 ·exact⟨.normal,g',e',H',trivial,k1,k2,k3⟩
 ·rename_i i j
  simp only[Hw] at k0
  subst k0
  simp only[post] at k3
  show(if i=id then _ else _)
  by_cases hi:i=id
  ·rw[if_pos hi] at k3 ⊢
   exact⟨.normal,g',e',H',trivial,k1,k2,k3⟩
  ·rw[if_neg hi] at k3 ⊢
   exact⟨.exit i,g',e',H',rfl,k1,k2,k3⟩
 ·exact⟨.ret,g',e',H',trivial,k1,k2,k3⟩
theorem FW [Dfr] {P:Program} {gl:aC} {n:Nat} {x:Code} {k:Kt} {e:Env} {H:ae} (I:Nat→Env→ae→Prop) (m0:Nat) (h0:I m0 e H)
  (round:∀ m e H,I m e H→AW P gl n x (post P gl n (.lp I m k)) e H):AW P gl n (.loop x) (post P gl n k) e H:=by
 intro hd g a w hst
 simp only[bN] at hd
 refine wp_loop_ghost (fun m a' w'=>∃ g' e' H',St gl n g' e' H' a' w'∧Ext g H w g' H' w'∧I m e' H') m0 ⟨g,e,H,hst,.refl g H w,h0⟩ ?_
 rintro m a1 w1 ⟨g1,e1,H1,hst1,hx1,hI⟩
 refine wp_mono (round m e1 H1 hI hd g1 a1 w1 hst1) ?_
 rintro ex a' w' ⟨ex',g',e',H',k0,k1,k2,k3⟩
 cases ex<;>cases ex'<;>first|exact k0.elim|skip
 ·obtain⟨m',hm,hI'⟩:=k3
  exact⟨m',hm,g',e',H',k1,hx1.trans k2,hI'⟩
 ·exact⟨.exit _,g',e',H',k0,k1,hx1.trans k2,k3⟩
 ·exact⟨.ret,g',e',H',k0,k1,hx1.trans k2,k3⟩
def qi (P:Program) (H:ae) (e:Env):List ResultVar→Option (List PV)
 | []=>some []
 | .tmp t::rs=>match qi P H e rs with
  | some xs=>some (e t::xs)
  | none=>none
 | .cell a t::rs=>match behind H (e a),tyA P t with
  | some cs,some (b,sz)=>match eH b sz cs,qi P H e rs with
   | some y,some xs=>some (y::xs)
   | _,_=>none
  | _,_=>none
def kW (P:Program) (rs:List ResultVar) (K:PV→ae→Prop):Ex→Env→ae→Prop
 | .normal,e,H| .ret,e,H=>match qi P H e rs with
  | some [x]=>K x H
  | some xs=>K (.tup xs) H
  | none=>False
 | _,_,_=>False
theorem rD [Dfr] {P:Program} {gl:aC} {n:Nat} {g:Gh} {e:Env} {H:ae} {a:Act} {w:World} (hst:St gl n g e H a w):∀(rs:List ResultVar) (xs:List PV),qi P H e rs=some xs→
  ∃ vs,(rs.mapM (fun(r:ResultVar)=>(match r with
   | .tmp t=>pure (a.tmps.getD t undef)
   | .cell b t=>do loadVar t (← asAddr (a.tmps.getD b undef)):Sem Value))).run P w = .ok vs w∧aR g w xs vs:=by
 intro rs
 induction rs with
 | nil=>intro xs h; cases h; exact⟨[],rfl,.nil⟩
 | cons r rs ih=>
  intro xs h
  cases r with
  | tmp t=>
   simp only[qi] at h
   split at h
   ·rename_i xs' hxs
    cases h
    obtain⟨vs,h1,h2⟩:=ih xs' hxs
    exact⟨a.tmps.getD t undef::vs,by simp only[List.mapM_cons,Sem.run_bind,Sem.run_pure,Result.andThen_ok,h1],.cons (hst.env.2 t) h2⟩
   ·cases h
  | cell b t=>
   simp only[qi] at h
   split at h
   ·rename_i cs bb sz hb ht
    split at h
    ·rename_i y xs' hl hxs
     cases h
     obtain⟨vs,h1,h2⟩:=ih xs' hxs
     obtain⟨A,hA,hrow⟩:=mN hst.sim (hst.env.2 b) hb
     obtain⟨u,h3,h4⟩:=load_row (P:=P) hrow ht hl
     refine⟨u::vs,?_,.cons h4 h2⟩
     have e1:(do loadVar t (← asAddr (a.tmps.getD b undef)):Sem Value).run P w = .ok u w:=by
      rw[hA,Sem.run_bind]
      exact h3
     rw[List.mapM_cons,Sem.run_bind]
     simp only
     rw[e1]
     simp only[Result.andThen_ok,Sem.run_bind,h1,Sem.run_pure]
    ·cases h
   ·cases h
def po (args:List PV):Env:=fun t=>(args[t]?).getD (.tup [])
theorem wW [Dfr] {P:Program} {gl:aC} {n:Nat} {g:Gh} {e:Env} {H:ae} {a:Act} {w:World} {fn:Func} {K:PV→ae→Prop} (hst:St gl n g e H a w)
  (hk:match qi P H e fn.results.toList with|some [x]=>K x H|some xs=>K (.tup xs) H|none=>False):∃ v,(results fn a.tmps).run P w = .ok v w∧∃ x,Rel g w x v∧K x H:=by
 split at hk
 ·rename_i x hx
  obtain⟨us,h1,h2⟩:=rD (P:=P) hst _ _ hx
  obtain⟨u,rfl⟩:∃ u,us=[u]:=by
   have:=h2.1
   match us,this with
   | [u],_=>exact⟨u,rfl⟩
  refine⟨u,?_,x,h2.2 0 x u rfl rfl,hk⟩
  unfold results
  rw[Array.mapM_eq_mapM_toList,Sem.run_bind,Sem.run_map]
  refine Eq.trans (congrArg (fun z:Result (List Value)=>(z.andThen fun a w'=>Result.ok a.toArray w').andThen fun a w'=>Sem.run P (pure (if h:a.size=1 then a[0] else Value.tuple a)) w') h1) ?_
  rfl
 ·rename_i xs hne hx
  obtain⟨us,h1,h2⟩:=rD (P:=P) hst _ _ hx
  refine⟨.tuple us.toArray,?_,.tup xs,Rel.dD.2 ⟨_,rfl,by simpa using h2⟩,hk⟩
  unfold results
  rw[Array.mapM_eq_mapM_toList,Sem.run_bind,Sem.run_map]
  refine Eq.trans (congrArg (fun z:Result (List Value)=>(z.andThen fun a w'=>Result.ok a.toArray w').andThen fun a w'=>Sem.run P (pure (if h:a.size=1 then a[0] else Value.tuple a)) w') h1) ?_
  simp only[Result.andThen_ok]
  have hne1:us.toArray.size≠1:=by
   intro h
   simp at h
   have hl:=h2.1
   rw[h] at hl
   match xs,hl,hne with
   | [x],_,hne=>exact hne x rfl
  rw[dif_neg hne1]
  rfl
 ·exact hk.elim
theorem tb {gl:aC} {n:Nat} {g:Gh} {args:List PV} {H:ae} {w:World} {vs:Array Value} (hS:Sim g H w) (hG:cZ g w gl) (hR:aR g w args vs.toList) (hsz:args.length≤n):
  St gl n g (po args) H { tmps:=vs++Array.replicate (n-vs.size) undef,defers:=[] } w:=by
 have hlen:vs.size=args.length:=by have:=hR.1; simp at this; omega
 refine⟨hS,hG,⟨by simp; omega,fun t=>?_⟩,rfl⟩
 simp only[po,Array.getD_eq_getD_getElem?]
 by_cases ht:t<args.length
 ·rw[List.getElem?_eq_getElem ht,Array.getElem?_append_left (by omega)]
  simp only[Option.getD_some]
  obtain⟨v,hv,hr⟩:=hR.get (List.getElem?_eq_getElem ht)
  rw[Array.getElem?_toList] at hv
  rw[hv]; exact hr
 ·rw[List.getElem?_eq_none (by omega)]
  simp only[Option.getD_none]
  rw[Array.getElem?_append_right (by omega)]
  have:(Array.replicate (n-vs.size) undef)[t-vs.size]?.getD undef=undef:=by
   rw[Array.getElem?_replicate]; split<;>rfl
  rw[this]; exact dG g w
theorem oH {P:Program} {gl:aC} {fn:Func} {c:Code} (hd:bN fn.ntmps c=true) {args:List PV} (hsz:args.length≤fn.ntmps) {H:ae} {K:PV→ae→Prop}
  (h:AW P gl fn.ntmps c (post P gl fn.ntmps (.fin (kW P fn.results.toList K))) (po args) H) {g:Gh} {w:World} {vs:Array Value} (hS:Sim g H w) (hG:cZ g w gl) (hR:aR g w args vs.toList):
  c.wp P (bodyPost P fn fun e w'=>∃ v g' H' x,e = .returned v∧Sim g' H' w'∧Ext g H w g' H' w'∧Rel g' w' x v∧K x H') { tmps:=vs++Array.replicate (fn.ntmps-vs.size) undef,defers:=[] } w:=by
 refine wp_mono (h hd g _ w (tb hS hG hR hsz)) ?_
 rintro ex a' w' ⟨ex',g',e',H',k0,k1,k2,k3⟩
 have fin:(match qi P H' e' fn.results.toList with|some [x]=>K x H'|some xs=>K (.tup xs) H'|none=>False)→
   a'.defers=[]∧∃ v,(results fn a'.tmps).run P w' = .ok v w'∧∃ v1 g1 H1 x,Ending.returned v = .returned v1∧Sim g1 H1 w'∧Ext g H w g1 H1 w'∧Rel g1 w' x v1∧K x H1:=by
  intro hk
  obtain⟨v,h1,x,h2,h3⟩:=wW k1 hk
  exact⟨k1.dfr,v,h1,v,g',H',x,rfl,k1.sim,k2,h2,h3⟩
 cases ex<;>cases ex'<;>first|exact k0.elim|skip
 ·exact fin k3
 ·exact k3.elim
 ·exact fin k3
theorem rm {P:Program} {gl:aC} {f:FuncId} {fn:Func} {c:Code} (hf:P.funcs[f]?=some fn) (hb:fn.body=some c) (hd:bN fn.ntmps c=true) {args:List PV} (hsz:args.length≤fn.ntmps) {H:ae} {K:PV→ae→Prop}
  (h:AW P gl fn.ntmps c (post P gl fn.ntmps (.fin (kW P fn.results.toList K))) (po args) H):aj P gl f args H K:=
 fun _ _ _ hS hG hR=>calls_of_wp hf hb (oH hd hsz h hS hG hR)
end Go.AM

namespace Go.AM
open Go
theorem lK {P:Program} {gl:aC} {op:Op} {m:Nat} {ρ ρ':Operand→PV} {H:ae} {K:PV→ae→Prop} (hρ:∀ x∈op.operands,ρ x=ρ' x) (h:opw P gl op m ρ H K):opw P gl op m ρ' H K:=by
 have parts:∀(ps:Array (Nat×Operand)),(∀ x∈(ps.toList.map (·.2)).toArray,ρ x=ρ' x)→(ps.toList.map fun p=>(p.1,ρ p.2))=(ps.toList.map fun p=>(p.1,ρ' p.2)):=by
  intro ps hp
  apply List.map_congr_left
  intro p hpm
  rw[hp p.2 (by simp only[List.mem_toArray,List.mem_map]; exact⟨p,hpm,rfl⟩)]
 cases op<;>simp only[Op.operands] at hρ<;>simp only[opw] at h ⊢
 case move x=>rwa [hρ x (by simp)] at h
 case assign x=>rwa [hρ x (by simp)] at h
 case pick c a b=>rwa [hρ c (by simp),hρ a (by simp),hρ b (by simp)] at h
 case alloc t=>exact h
 case box t x=>rwa [hρ x (by simp)] at h
 case build t ps=>rwa [parts ps hρ] at h
 case buildSlice t l ps=>rwa [parts ps hρ] at h
 case load t x=>rwa [hρ x (by simp)] at h
 case store t x y=>rwa [hρ x (by simp),hρ y (by simp)] at h
 case nilCheck x=>rwa [hρ x (by simp)] at h
 case binOp op t x y yt=>rwa [hρ x (by simp),hρ y (by simp)] at h
 case unOp op t x=>rwa [hρ x (by simp)] at h
 case convert s d x=>rwa [hρ x (by simp)] at h
 case makeFunc fn first caps=>
  have:caps.toList.map ρ=caps.toList.map ρ':=List.map_congr_left fun x hx=>hρ x (by simp at hx; simp[hx])
  rwa [this] at h
 case makeSlice t l c=>rwa [hρ l (by simp),hρ c (by simp)] at h
 case slice t x lo hi mx=>
  have e1:lo.map ρ=lo.map ρ':=by cases lo with
   | none=>rfl
   | some y=>simp only[Option.map_some]; rw[hρ y (by simp)]
  have e2:hi.map ρ=hi.map ρ':=by cases hi with
   | none=>rfl
   | some y=>simp only[Option.map_some]; rw[hρ y (by simp)]
  have e3:mx.map ρ=mx.map ρ':=by cases mx with
   | none=>rfl
   | some y=>simp only[Option.map_some]; rw[hρ y (by simp)]
  rwa [hρ x (by simp),e1,e2,e3] at h
 case fieldAddr s x f=>rwa [hρ x (by simp)] at h
 case field s x f=>rwa [hρ x (by simp)] at h
 case indexAddr t x i=>rwa [hρ x (by simp),hρ i (by simp)] at h
 case index t x i=>rwa [hρ x (by simp),hρ i (by simp)] at h
 case extract t i=>rwa [hρ t (by simp)] at h
 case call c=>
  have ha:c.args.toList.map ρ=c.args.toList.map ρ':=List.map_congr_left fun x hx=>hρ x (by simp at hx; simp[Call.operands,hx])
  unfold cN at h ⊢
  rw[ha] at h
  split at h
  ·rename_i f hc
   have:ρ f=ρ' f:=hρ f (by simp[Call.operands,hc])
   rwa [this] at h
  ·exact h
  ·exact h.elim
inductive Cl where
 | p|l|r|a|w
 deriving DecidableEq
def cl (m:Nat):Op→Option Cl
 | .move _| .assign _| .pick .. | .build .. | .buildSlice .. | .nilCheck _| .unOp .. | .convert .. | .makeFunc .. | .slice .. | .fieldAddr .. | .field .. | .indexAddr .. | .index .. | .extract .. => some .p
 | .binOp _ _ _ y _=>if dZ y then none else some .p
 | .load .. => some .l
 | .alloc _| .box .. => some .a
 | .store .. => some .w
 | .call c=>match c.callee with
  | .value _=>if m=5 then some .r else if m=6 then some .a else if m=7 then some .w else some .p
  | .builtin b=>match b with
   | .len| .cap| .min| .max=>some .p
   | .append=>if m=0 then some .p else if m=1 then some .a else if m=3 then some .w else if m=4 then some .a else none
   | .copy| .clear=>some .w
   | _=>none
  | _=>none
 | _=>none
def jc:List PV→Bool
 | .list _ _::_=>true
 | _=>false
def ix (P:Program) (gl:aC) (f:FuncId) (args:List PV) (r:PV):Prop:=∀ H,aj P gl f args H fun x H'=>x=r∧H'=H
def keeps (H H':ae):Prop:=∀(o:Nat) (cs:List PV),H[o]?=some (.cells cs)→H'[o]?=some (.cells cs)
def jW (P:Program) (gl:aC) (f:FuncId) (args:List PV) (m:Nat) (H:ae) (K:PV→ae→Prop):Prop:=
 if m=6 then ∃ r H',aj P gl f args H (fun x H1=>x=r∧H1=H')∧keeps H H'∧K r H'
 else if m=7 then ∃ r H',aj P gl f args H (fun x H1=>x=r∧H1=H')∧K r H'
 else ∃ r,(if m=5 then aj P gl f args H (fun x H'=>x=r∧H'=H) else ix P gl f args r)∧K r H
def m8 (P:Program) (gl:aC) (op:Op) (m:Nat) (ρ:Operand→PV) (H:ae) (K:PV→ae→Prop):Prop:=
 match op with
 | .call c=>match c.callee with
  | .value f=>match ρ f with
   | .fn k caps=>cG P k=true∧jW P gl k (c.args.toList.map ρ++caps) m H K
   | _=>False
  | .builtin b=>(b ≠ .append∨jc (c.args.toList.map ρ)=true∨m=3)∧aV P b c.argTypes (c.args.toList.map ρ) m H K
  | _=>False
 | op=>opw P gl op m ρ H K
def ku (P:Program) (gl:aC) (op:Op) (m:Nat) (ρ:Operand→PV) (H:ae) (r:PV) (H':ae):Prop:=
 opw P gl op m ρ H (fun x H1=>x=r∧H1=H')∧match cl m op with
  | some .p=>H'=H∧∀ H2,opw P gl op m ρ H2 (fun x H1=>x=r∧H1=H2)
  | some .l=>H'=H
  | some .r=>H'=H
  | some .a=>keeps H H'
  | some .w=>True
  | none=>False
theorem fD (H:ae) (x:Ob):keeps H (H++[x]):=fun o cs h=>by
 rw[List.getElem?_append_left (List.getElem?_eq_some_iff.1 h).1]; exact h
theorem qa {H:ae} {o:Nat} (ho:H[o]?=some .tok) (x:Ob):keeps H (H.set o .dead++[x]):=fun o' cs h=>by
 have hl:o'<H.length:=(List.getElem?_eq_some_iff.1 h).1
 rw[List.getElem?_append_left (by simpa using hl),List.getElem?_set]
 by_cases e:o=o'
 ·subst e; rw[ho] at h; cases h
 ·rw[if_neg e]; exact h
theorem bp {P:Program} {gl:aC} {op:Op} {m:Nat} {ρ:Operand→PV} {H:ae} {r:PV} (hc:cl m op=some .p) (h:∀ H2,opw P gl op m ρ H2 (fun x H1=>x=r∧H1=H2)):ku P gl op m ρ H r H:=
 ⟨h H,by rw[hc]; exact⟨rfl,h⟩⟩
theorem pC {P:Program} {gl:aC} {op:Op} {m:Nat} {ρ:Operand→PV} {H:ae} {K:PV→ae→Prop} (hcl:(cl m op).isSome=true) (h:m8 P gl op m ρ H K):
  ∃ r H',K r H'∧ku P gl op m ρ H r H':=by
 have triv:∀(r:PV) (H:ae),r=r∧H=H:=fun _ _=>⟨rfl,rfl⟩
 cases op<;>simp only[cl,Option.isSome_none,Bool.false_eq_true] at hcl<;>simp only[m8,opw] at h
 case move x=>exact⟨_,H,h,bp rfl (fun H2=>triv _ _)⟩
 case assign x=>exact⟨_,H,h,bp rfl (fun H2=>triv _ _)⟩
 case pick c a b=>
  split at h
  ·rename_i t ht; exact⟨_,H,h,bp rfl (fun H2=>by simp only[opw,ht]; exact⟨trivial,trivial⟩)⟩
  ·exact h.elim
 case alloc t=>
  split at h
  ·rename_i cs hz
   exact⟨_,_,h,by simp only[opw,hz]; exact⟨trivial,trivial⟩,fD H _⟩
  ·exact h.elim
 case box t x=>
  split at h
  ·rename_i cs hz
   exact⟨_,_,h,by simp only[opw,hz]; exact⟨trivial,trivial⟩,fD H _⟩
  ·exact h.elim
 case build t ps=>
  split at h
  ·rename_i cs hz; exact⟨_,H,h,bp rfl (fun H2=>by simp only[opw,hz]; exact⟨trivial,trivial⟩)⟩
  ·exact h.elim
 case buildSlice t l ps=>
  split at h
  ·rename_i b sz by_ et hel
   split at h
   ·rename_i z hz
    obtain⟨h1,h2,h3,h⟩:=h
    split at h
    ·rename_i es he
     exact⟨_,H,h,bp rfl (fun H2=>by simp only[opw,hel,hz,he]; exact⟨h1,h2,h3,⟨trivial,trivial⟩⟩)⟩
    ·exact h.elim
   ·exact h.elim
  ·exact h.elim
 case load t x=>
  split at h
  ·rename_i cs b sz hb ht
   split at h
   ·rename_i y hl
    exact⟨_,H,h.2,by simp only[opw,hb,ht,hl]; exact⟨h.1,trivial,trivial⟩,rfl⟩
   ·exact h.elim
  ·exact h.elim
 case store t x y=>
  split at h
  ·rename_i o off b sz xs hx ht hc
   split at h
   ·rename_i cs ho
    obtain⟨h1,h2,h3,h4⟩:=h
    exact⟨_,_,h4,by simp only[opw,hx,ht,hc,ho]; exact⟨h1,h2,h3,⟨trivial,trivial⟩⟩,trivial⟩
   ·exact h.elim
  ·exact h.elim
 case nilCheck x=>
  split at h
  ·rename_i o off hx; exact⟨_,H,h,bp rfl (fun H2=>by simp only[opw,hx]; exact⟨trivial,trivial⟩)⟩
  ·rename_i cs hx; exact⟨_,H,h,bp rfl (fun H2=>by simp only[opw,hx]; exact⟨trivial,trivial⟩)⟩
  ·rename_i f caps hx; exact⟨_,H,h,bp rfl (fun H2=>by simp only[opw,hx]; exact⟨trivial,trivial⟩)⟩
  ·exact h.elim
 case binOp op t x y yt=>
  have hny:dZ y=false:=by
   cases hn:dZ y
   ·rfl
   ·rw[hn] at hcl; simp at hcl
  rw[hny] at h
  simp only[Bool.false_eq_true,if_false] at h
  have intdet:∀ {k k':IntKind} {a b:Int} {K:PV→Prop},oN op k a k' b K→∃ r,K r∧∀ K':PV→Prop,K' r→oN op k a k' b K':=by
   intro k k' a b K hk
   cases op<;>simp only[oN] at hk ⊢
   case quo=>exact⟨_,hk.2.2,fun K' hK=>⟨hk.1,hk.2.1,hK⟩⟩
   case rem=>exact⟨_,hk.2.2,fun K' hK=>⟨hk.1,hk.2.1,hK⟩⟩
   all_goals exact⟨_,hk.2,fun K' hK=>⟨hk.1,hK⟩⟩
  have det:∀ {x y:PV} {K:PV→Prop},lO P op t x y K→∃ r,K r∧∀ K':PV→Prop,K' r→lO P op t x y K':=by
   intro x y K hk
   unfold lO at hk
   split at hk
   ·obtain⟨r,h1,h2⟩:=intdet hk
    exact⟨r,h1,fun K' hK=>h2 K' hK⟩
   ·split at hk
    ·exact⟨_,hk,fun K' hK=>hK⟩
    ·exact⟨_,hk,fun K' hK=>hK⟩
    ·exact hk.elim
   ·obtain⟨ht,hk⟩:=hk
    split at hk
    ·exact⟨_,hk,fun K' hK=>⟨ht,hK⟩⟩
    ·exact⟨_,hk,fun K' hK=>⟨ht,hK⟩⟩
    ·exact hk.elim
   ·obtain⟨ht,hk⟩:=hk
    split at hk
    ·exact⟨_,hk,fun K' hK=>⟨ht,hK⟩⟩
    ·exact⟨_,hk,fun K' hK=>⟨ht,hK⟩⟩
    ·exact hk.elim
   ·obtain⟨ht,hk⟩:=hk
    split at hk
    ·exact⟨_,hk,fun K' hK=>⟨ht,hK⟩⟩
    ·exact⟨_,hk,fun K' hK=>⟨ht,hK⟩⟩
    ·exact hk.elim
   ·obtain⟨ht,hk⟩:=hk
    split at hk
    ·exact⟨_,hk,fun K' hK=>⟨ht,hK⟩⟩
    ·exact⟨_,hk,fun K' hK=>⟨ht,hK⟩⟩
    ·exact hk.elim
   ·rename_i xs ys
    obtain⟨h1,h2,h3,h4,hk⟩:=hk
    split at hk
    ·rename_i b hb
     split at hk
     ·exact⟨_,hk,fun K' hK=>by simp only[lO,hb]; exact⟨h1,h2,h3,h4,hK⟩⟩
     ·exact⟨_,hk,fun K' hK=>by simp only[lO,hb]; exact⟨h1,h2,h3,h4,hK⟩⟩
     ·exact hk.elim
    ·exact hk.elim
   ·exact hk.elim
  obtain⟨r,h1,h2⟩:=det h
  exact⟨r,H,h1,bp (by simp[cl,hny]) (fun H2=>by simp only[opw,hny,Bool.false_eq_true,if_false]; exact h2 _ ⟨rfl,trivial⟩)⟩
 case unOp op t x=>
  split at h
  ·rename_i y hy; exact⟨_,H,h,bp rfl (fun H2=>by simp only[opw,hy]; exact⟨trivial,trivial⟩)⟩
  ·exact h.elim
 case convert s d x=>
  split at h
  ·rename_i y hy; exact⟨_,H,h,bp rfl (fun H2=>by simp only[opw,hy]; exact⟨trivial,trivial⟩)⟩
  ·exact h.elim
 case makeFunc fn first caps=>
  split at h
  ·rename_i f
   exact⟨_,H,h.2,bp rfl (fun H2=>by simp only[opw]; exact⟨h.1,⟨trivial,trivial⟩⟩)⟩
  ·exact h.elim
 case slice t x lo hi mx=>
  split at h
  ·rename_i b sz by_ et es tl hel hx
   split at h
   ·rename_i l h' m' e1 e2 e3
    obtain⟨h1,h2,h3,h4,h5,h6,hk⟩:=h
    exact⟨_,H,hk,bp rfl (fun H2=>by simp only[opw,hel,hx,e1,e2,e3]; exact⟨h1,h2,h3,h4,h5,h6,⟨trivial,trivial⟩⟩)⟩
   ·exact h.elim
  ·rename_i b sz by_ et o' off len cap hel hx
   split at h
   ·rename_i l h' m' e1 e2 e3
    obtain⟨h1,h2,h3,h4,h5,hk⟩:=h
    exact⟨_,H,hk,bp rfl (fun H2=>by simp only[opw,hel,hx,e1,e2,e3]; exact⟨h1,h2,h3,h4,h5,⟨trivial,trivial⟩⟩)⟩
   ·exact h.elim
  ·exact h.elim
 case fieldAddr s x f=>
  split at h
  ·rename_i off b sz hf
   split at h
   ·rename_i y hy; exact⟨_,H,h,bp rfl (fun H2=>by simp only[opw,hf,hy]; exact⟨trivial,trivial⟩)⟩
   ·exact h.elim
  ·exact h.elim
 case field s x f=>
  split at h
  ·rename_i off b sz cs hf hx
   split at h
   ·rename_i y hy; exact⟨_,H,h,bp rfl (fun H2=>by simp only[opw,hf,hx,hy]; exact⟨trivial,trivial⟩)⟩
   ·exact h.elim
  ·exact h.elim
 case indexAddr t x i=>
  split at h
  ·rename_i b sz by_ et k n hel hi
   split at h
   ·rename_i es tl hx
    obtain⟨h0,h⟩:=h
    split at h
    ·rename_i e he
     exact⟨_,H,h.2.2,bp rfl (fun H2=>by simp only[opw,hel,hi,hx,he]; exact⟨h0,h.1,h.2.1,⟨trivial,trivial⟩⟩)⟩
    ·exact h.elim
   ·rename_i o' off len cap hx
    exact⟨_,H,h.2.2,bp rfl (fun H2=>by simp only[opw,hel,hi,hx]; exact⟨h.1,h.2.1,⟨trivial,trivial⟩⟩)⟩
   ·exact h.elim
  ·rename_i mm b sz by_ et k n hel hi
   obtain⟨h0,h1,h⟩:=h
   split at h
   ·rename_i y hy; exact⟨_,H,h,bp rfl (fun H2=>by simp only[opw,hel,hi,hy]; exact⟨h0,h1,⟨trivial,trivial⟩⟩)⟩
   ·exact h.elim
  ·exact h.elim
 case index t x i=>
  split at h
  ·rename_i mm b sz by_ et cs k n hel hx hi
   obtain⟨h0,h1,h⟩:=h
   split at h
   ·rename_i y hy; exact⟨_,H,h,bp rfl (fun H2=>by simp only[opw,hel,hx,hi,hy]; exact⟨h0,h1,⟨trivial,trivial⟩⟩)⟩
   ·exact h.elim
  ·exact h.elim
 case extract t i=>
  split at h
  ·rename_i vs ht
   split at h
   ·rename_i y hy; exact⟨_,H,h,bp rfl (fun H2=>by simp only[opw,ht,hy]; exact⟨trivial,trivial⟩)⟩
   ·exact h.elim
  ·exact h.elim
 case call c=>
  split at h
  ·rename_i f hc
   split at h
   ·rename_i k caps hf
    obtain⟨hcall,h⟩:=h
    unfold jW at h
    by_cases h6:m=6
    ·rw[if_pos h6] at h
     obtain⟨r,H',hr,hkp,hk⟩:=h
     refine⟨r,H',hk,?_,?_⟩
     ·simp only[opw,cN,hc,hf]; exact .inl ⟨hcall,hr⟩
     ·simp only[cl,hc]; rw[if_neg (by omega),if_pos h6]; exact hkp
    rw[if_neg h6] at h
    by_cases h7:m=7
    ·rw[if_pos h7] at h
     obtain⟨r,H',hr,hk⟩:=h
     refine⟨r,H',hk,?_,?_⟩
     ·simp only[opw,cN,hc,hf]; exact .inl ⟨hcall,hr⟩
     ·simp only[cl,hc]; rw[if_neg (by omega),if_neg h6,if_pos h7]; trivial
    rw[if_neg h7] at h
    obtain⟨r,hr,hk⟩:=h
    by_cases hm:m=5
    ·rw[if_pos hm] at hr
     refine⟨r,H,hk,?_,?_⟩
     ·simp only[opw,cN,hc,hf]; exact .inl ⟨hcall,hr⟩
     ·simp only[cl,hc]; rw[if_pos hm]; trivial
    ·rw[if_neg hm] at hr
     exact⟨r,H,hk,bp (by simp only[cl,hc]; rw[if_neg hm,if_neg h6,if_neg h7]) (fun H2=>by simp only[opw,cN,hc,hf]; exact .inl ⟨hcall,hr H2⟩)⟩
   ·exact h.elim
  ·rename_i b hc
   obtain⟨hb,h⟩:=h
   simp only[hc] at hcl
   unfold aV at h
   split at h
   ·split at h
    ·rename_i t x ht
     split at h
     ·rename_i n hn
      exact⟨_,H,h,bp (by simp only[cl,hc]) (fun H2=>by simp only[opw,cN,aV, *]; exact⟨trivial,trivial⟩)⟩
     ·exact h.elim
    ·exact h.elim
   ·split at h
    ·rename_i t o off len cap ht hargs
     exact⟨_,H,h.2,bp (by simp only[cl,hc]) (fun H2=>by simp only[opw,cN,hc,aV,ht,hargs]; exact⟨h.1,⟨trivial,trivial⟩⟩)⟩
    ·rename_i t es ht hargs
     exact⟨_,H,h.2,bp (by simp only[cl,hc]) (fun H2=>by simp only[opw,cN,hc,aV,ht,hargs]; exact⟨h.1,⟨trivial,trivial⟩⟩)⟩
    ·exact h.elim
   ·split at h
    ·rename_i z hz
     exact⟨_,H,h,bp (by simp only[cl,hc]) (fun H2=>by simp only[opw,cN,hc,aV,hz]; exact⟨trivial,trivial⟩)⟩
    ·exact h.elim
   ·split at h
    ·rename_i z hz
     exact⟨_,H,h,bp (by simp only[cl,hc]) (fun H2=>by simp only[opw,cN,hc,aV,hz]; exact⟨trivial,trivial⟩)⟩
    ·exact h.elim
   ·
    split at h
    ·rename_i sz by_ z es tl y ha hargs
     simp only at hcl
     split at h
     ·simp at hcl
     ·rename_i hm2
      split at h
      ·rename_i ys tly
       obtain⟨h1,h2,h3,h4⟩:=h
       split at h4
       ·obtain⟨h5,h6,h7⟩:=h4
        split at h7
        ·refine⟨_,_,h7,?_,?_⟩
         ·simp only[opw,cN,hc,aV,ha,hargs]; exact⟨h1,h2,h3,h5,h6,⟨trivial,trivial⟩⟩
         ·simp only[cl,hc]; exact fD H _
        ·rename_i o
         refine⟨_,_,h7.2,?_,?_⟩
         ·simp only[opw,cN,hc,aV,ha,hargs]; exact⟨h1,h2,h3,h5,h6,h7.1,⟨trivial,trivial⟩⟩
         ·simp only[cl,hc]; exact qa h7.1 _
        ·exact h7.elim
       ·obtain⟨h5,h6,h7⟩:=h4
        by_cases h0:ys=[]
        ·subst h0
         refine⟨_,_,h6 rfl,?_,?_⟩
         ·simp only[opw,cN,hc,aV,ha,hargs]; exact⟨h1,h2,h3,h5,fun _=>⟨trivial,trivial⟩,fun k=>absurd rfl k⟩
         ·simp only[cl,hc]; exact fun _ _ k=>k
        ·have h7:=h7 h0
         split at h7
         ·refine⟨_,_,h7,?_,?_⟩
          ·simp only[opw,cN,hc,aV,ha,hargs]; exact⟨h1,h2,h3,h5,fun k=>absurd k h0,fun _=>⟨trivial,trivial⟩⟩
          ·simp only[cl,hc]; exact fD H _
         ·rename_i o
          refine⟨_,_,h7.2,?_,?_⟩
          ·simp only[opw,cN,hc,aV,ha,hargs]; exact⟨h1,h2,h3,h5,fun k=>absurd k h0,fun _=>⟨h7.1,⟨trivial,trivial⟩⟩⟩
          ·simp only[cl,hc]; exact qa h7.1 _
         ·exact h7.elim
       ·rename_i hm1 hm4
        obtain⟨rfl,hk⟩:=h4
        have hm03:m=0∨m=3:=by
         rcases Decidable.em (m=0) with e|e
         ·exact .inl e
         ·rcases Decidable.em (m=3) with e3|e3
          ·exact .inr e3
          ·rw[if_neg e,if_neg hm1,if_neg e3,if_neg hm4] at hcl; simp at hcl
        rcases hm03 with hm0|hm0
        case inr=>
         subst hm0
         refine⟨_,H,hk,?_,?_⟩
         ·simp only[opw,cN,hc,aV,ha,hargs]; exact⟨h1,h2,h3,trivial,⟨trivial,trivial⟩⟩
         ·simp only[cl,hc]; exact trivial
        subst hm0
        exact⟨_,H,hk,bp (by simp only[cl,hc]; rfl) (fun H2=>by simp only[opw,cN,hc,aV,ha,hargs]; exact⟨h1,h2,h3,trivial,⟨trivial,trivial⟩⟩)⟩
      ·exact h.elim
    ·rename_i sz by_ z o off len cap y ha hargs
     have hm3:m=3:=by
      rcases hb with hb|hb|hb
      ·exact absurd rfl hb
      ·rw[hargs] at hb; simp[jc] at hb
      ·exact hb
     subst hm3
     split at h
     ·rename_i cs' ys n ho hs
      obtain⟨h1,h2,h3,h4,h5,h6,h7⟩:=h
      refine⟨_,_,h7,?_,?_⟩
      ·simp only[opw,cN,hc,aV,ha,hargs,ho,hs]; exact⟨h1,h2,h3,h4,h5,h6,⟨trivial,trivial⟩⟩
      ·simp only[cl,hc]; exact trivial
     ·exact h.elim
    ·rename_i o off len cap kd n ha hargs
     split at h
     ·obtain⟨_,_,_,_,_,hm,_⟩:=h
      subst hm
      rcases hb with hb|hb|hb
      ·exact absurd rfl hb
      ·rw[hargs] at hb; simp[jc] at hb
      ·cases hb
     ·exact h.elim
    ·rename_i es tl kd n ha hargs
     split at h
     ·obtain⟨_,_,_,_,hm,_⟩:=h
      subst hm
      simp at hcl
     ·exact h.elim
    ·exact h.elim
   ·
    split at h
    ·rename_i t o off len cap y ht hargs
     split at h
     ·rename_i b' sz by_ et hel
      split at h
      ·rename_i cs' ys n ho hs
       obtain⟨h1,h2,h3,h4⟩:=h
       refine⟨_,_,h4,?_,?_⟩
       ·simp only[opw,cN,hc,aV,ht,hargs,hel,ho,hs]; exact⟨h1,h2,h3,⟨trivial,trivial⟩⟩
       ·simp only[cl,hc]
      ·exact h.elim
     ·exact h.elim
    ·exact h.elim
   ·
    split at h
    ·rename_i t o off len cap ht hargs
     split at h
     ·rename_i b' sz by_ et hel
      split at h
      ·rename_i cs' z ho hz
       obtain⟨h1,h2,h3,h4⟩:=h
       refine⟨_,_,h4,?_,?_⟩
       ·simp only[opw,cN,hc,aV,ht,hargs,hel,ho,hz]; exact⟨h1,h2,h3,⟨trivial,trivial⟩⟩
       ·simp only[cl,hc]
      ·exact h.elim
     ·exact h.elim
    ·exact h.elim
   ·exact h.elim
  ·exact h.elim
end Go.AM

namespace Go.AM
open Go
def SD (P:Program) (gl:aC) (hn:Oper→Nat) (ops:Array Oper) (o:Oper) (e:Env) (H:ae) (e':Env) (H':ae):Prop:=
 (∃ r,e'=upd e o.dst r∧ku P gl o.op (hn o) (ev gl e) H r H'∧match o.guard with
  | none=>True
  | some (j,want)=>∃ d,(ops[j]?).bind (·.dst)=some d∧e d = .bool want)∨
 (e'=upd e o.dst (.tup [])∧H'=H∧∃ j want d,o.guard=some (j,want)∧(ops[j]?).bind (·.dst)=some d∧(e d = .bool (!want)∨e d = .tup []))
inductive Chain (P:Program) (gl:aC) (hn:Oper→Nat) (ops:Array Oper):List Nat→Env→ae→Env→ae→Prop where
 | nil (e:Env) (H:ae):Chain P gl hn ops [] e H e H
 | cons {i:Nat} {is:List Nat} {o:Oper} {e e1 e2:Env} {H H1 H2:ae} (ho:ops[i]?=some o) (h:SD P gl hn ops o e H e1 H1) (hs:Chain P gl hn ops is e1 H1 e2 H2):Chain P gl hn ops (i::is) e H e2 H2
def looks (ops:Array Oper) (o:Oper):List Nat:=
 (o.op.operands.toList.filterMap fun x=>match x with| .tmp t=>some t|_=>none)++(match o.guard with|some (j,_)=>((ops[j]?).bind (·.dst)).toList|none=>[])
def gP (m1 m2:Nat):Bool:=
 Nat.ble 1000 m1 && Nat.ble 1000 m2 &&
  (!((m1-1000) / 100000 == (m2-1000) / 100000) || Nat.ble ((m1-1000) / 100 % 1000+(m1-1000) % 100) ((m2-1000) / 100 % 1000) || Nat.ble ((m2-1000) / 100 % 1000+(m2-1000) % 100) ((m1-1000) / 100 % 1000))
def kq:Op→Bool
 | .store .. => true
 | _=>false
def uA:Op→Bool
 | .load .. => true
 | _=>false
theorem kx {m o off sz:Nat} (hm:1000≤m) (h:cE m o off sz=true):(m-1000) / 100000=o∧(m-1000) / 100 % 1000=off∧(m-1000) % 100=sz:=by
 unfold cE at h
 simp only[Bool.or_eq_true,Bool.and_eq_true,Nat.blt_eq,beq_iff_eq] at h
 rcases h with h|⟨⟨h1,h2⟩,h3⟩
 ·omega
 ·omega
theorem iw {α:Type} {C vs:List α} {off:Nat} (h:off+vs.length≤C.length) (q:Nat):(over C off vs)[q]?=if q<off then C[q]? else if q<off+vs.length then vs[q-off]? else C[q]?:=by
 unfold over
 by_cases h1:q<off
 ·rw[if_pos h1,List.append_assoc,List.getElem?_append_left (by simp; omega),List.getElem?_take,if_pos h1]
 ·rw[if_neg h1,List.append_assoc,List.getElem?_append_right (by simp; omega)]
  have e:(List.take off C).length=off:=by simp; omega
  rw[e]
  by_cases h2:q<off+vs.length
  ·rw[if_pos h2,List.getElem?_append_left (by omega)]
  ·rw[if_neg h2,List.getElem?_append_right (by omega),List.getElem?_drop]
   congr 1; omega
theorem yu {α:Type} {C us vs:List α} {a b:Nat} (ha:a+us.length≤C.length) (hb:b+vs.length≤C.length) (h:a+us.length≤b∨b+vs.length≤a):over (over C a us) b vs=over (over C b vs) a us:=by
 apply List.ext_getElem?
 intro q
 rw[iw (C:=over C a us) (by rw[bB ha]; exact hb),iw (C:=over C b vs) (by rw[bB hb]; exact ha),iw (C:=C) ha,iw (C:=C) hb]
 by_cases c1:q<b<;>by_cases c2:q<b+vs.length<;>by_cases c3:q<a<;>by_cases c4:q<a+us.length<;>simp only[c1,c2,c3,c4,if_true,if_false]<;>omega
def indep (ops:Array Oper) (hn:Oper→Nat) (o1 o2:Oper):Bool:=
 (match o1.dst with|some d=> !(looks ops o2).contains d && o2.dst != some d|none=>true) &&
 (match o2.dst with|some d=> !(looks ops o1).contains d|none=>true) &&
 match cl (hn o1) o1.op,cl (hn o2) o2.op with
 | some .p,some _|some _,some .p=>true
 | some .l,some .l|some .l,some .r|some .r,some .l|some .r,some .r=>true
 | some .l,some .a=>true
 | some .w,some .w=>kq o1.op && kq o2.op && gP (hn o1) (hn o2)
 | some .l,some .w=>uA o1.op && kq o2.op && (hn o1 == 900 || gP (hn o1) (hn o2))
 | some .w,some .l=>kq o1.op && uA o2.op && (hn o2 == 900 || gP (hn o1) (hn o2))
 | _,_=>false
theorem Kj {gl:aC} {e:Env} {d:Option Tmp} {x:PV} {y:Operand} (h:∀ t,d=some t→y ≠ .tmp t):ev gl (upd e d x) y=ev gl e y:=by
 cases y with
 | tmp k=>
  cases d with
  | none=>rfl
  | some t=>
   simp only[ev,upd]
   rw[if_neg]
   intro e; subst e; exact h _ rfl rfl
 | const v=>rfl
 | global k=>rfl
 | func f=>rfl
theorem iE (e:Env) (d1 d2:Option Tmp) (x y:PV) (h:∀ t,d1=some t→d2≠some t):upd (upd e d1 x) d2 y=upd (upd e d2 y) d1 x:=by
 cases d1 with
 | none=>rfl
 | some a=>
  cases d2 with
  | none=>rfl
  | some b=>
   have:b≠a:=fun e=>h a rfl (by rw[e])
   funext k
   simp only[upd]
   by_cases h1:k=b
   ·subst h1; rw[if_pos rfl,if_neg this,if_pos rfl]
   ·rw[if_neg h1,if_neg h1]
theorem Ke (e:Env) (d:Option Tmp) (x:PV) (k:Nat) (h:d≠some k):upd e d x k=e k:=by
 cases d with
 | none=>rfl
 | some t=>
  simp only[upd]
  rw[if_neg]
  intro e; subst e; exact h rfl
theorem pG {P:Program} {gl:aC} {op:Op} {m:Nat} {ρ ρ':Operand→PV} {H H':ae} {r:PV} (hρ:∀ x∈op.operands,ρ x=ρ' x) (h:ku P gl op m ρ H r H'):ku P gl op m ρ' H r H':=by
 refine⟨lK hρ h.1,?_⟩
 have h2:=h.2
 split at h2
 ·exact⟨h2.1,fun H2=>lK hρ (h2.2 H2)⟩
 all_goals exact h2
theorem nZ {ops:Array Oper} {o:Oper} {d:Option Tmp} (h:∀ t,d=some t→(looks ops o).contains t=false) {gl:aC} {e:Env} {x:PV}:∀ y∈o.op.operands,ev gl (upd e d x) y=ev gl e y:=by
 intro y hy
 refine Kj ?_
 rintro t ht rfl
 have:=h t ht
 simp only[looks,List.contains_eq_mem,List.mem_append,List.mem_filterMap,decide_eq_false_iff_not,not_or] at this
 exact this.1 ⟨.tmp t,by simpa using hy,rfl⟩
theorem fO {ops:Array Oper} {o:Oper} {d:Option Tmp} (h:∀ t,d=some t→(looks ops o).contains t=false) {j:Nat} {want:Bool} {k:Tmp} (hg:o.guard=some (j,want)) (hk:(ops[j]?).bind (·.dst)=some k) (e:Env) (x:PV):
  upd e d x k=e k:=by
 refine Ke _ _ _ _ ?_
 intro hd
 have:=h k hd
 simp only[looks,hg,hk,List.contains_eq_mem,List.mem_append,decide_eq_false_iff_not,not_or] at this
 exact this.2 (by simp)
theorem J7 {P:Program} {gl:aC} {hn:Oper→Nat} {ops:Array Oper} {o:Oper} {d:Option Tmp} {x:PV} {e e':Env} {H H':ae} (hl:∀ t,d=some t→(looks ops o).contains t=false) (hd:∀ t,d=some t→o.dst≠some t)
  (h:SD P gl hn ops o (upd e d x) H e' H'):∃ e1,SD P gl hn ops o e H e1 H'∧e'=upd e1 d x:=by
 rcases h with⟨r,rfl,hs,hg⟩|⟨rfl,rfl,j,want,k,hg,hk,he⟩
 ·refine⟨upd e o.dst r,.inl ⟨r,rfl,pG (nZ hl) hs,?_⟩,iE e d o.dst x r hd⟩
  split at hg
  ·trivial
  ·rename_i j want hgd
   obtain⟨k,hk,he⟩:=hg
   exact⟨k,hk,by rw[← fO hl hgd hk e x]; exact he⟩
 ·exact⟨upd e o.dst (.tup []),.inr ⟨rfl,rfl,j,want,k,hg,hk,by rw[← fO hl hg hk e x]; exact he⟩,iE e d o.dst x _ hd⟩
theorem vc {P:Program} {gl:aC} {hn:Oper→Nat} {ops:Array Oper} {o:Oper} {d:Option Tmp} {x:PV} {e e1:Env} {H H':ae} (hl:∀ t,d=some t→(looks ops o).contains t=false) (hd:∀ t,d=some t→o.dst≠some t)
  (h:SD P gl hn ops o e H e1 H'):SD P gl hn ops o (upd e d x) H (upd e1 d x) H':=by
 rcases h with⟨r,rfl,hs,hg⟩|⟨rfl,rfl,j,want,k,hg,hk,he⟩
 ·refine .inl ⟨r,(iE e d o.dst x r hd).symm,pG (fun y hy=>(nZ hl y hy).symm) hs,?_⟩
  split at hg
  ·trivial
  ·rename_i j want hgd
   obtain⟨k,hk,he⟩:=hg
   exact⟨k,hk,by rw[fO hl hgd hk e x]; exact he⟩
 ·exact .inr ⟨(iE e d o.dst x _ hd).symm,rfl,j,want,k,hg,hk,by rw[fO hl hg hk e x]; exact he⟩
theorem u7 {P:Program} {gl:aC} {op:Op} {m:Nat} {ρ:Operand→PV} {H H':ae} {r:PV} (hc:cl m op=some .l) (hk:keeps H H') (h:opw P gl op m ρ H (fun x H1=>x=r∧H1=H)):opw P gl op m ρ H' (fun x H1=>x=r∧H1=H'):=by
 cases op<;>try (simp[cl] at hc; done)
 case load t a=>
  simp only[opw] at h ⊢
  split at h
  ·rename_i cs b sz hb ht
   have hb':behind H' (ρ a)=some cs:=by
    unfold behind at hb ⊢
    split at hb
    ·exact hb
    ·rename_i o off _
     split at hb
     ·rename_i cs' ho
      rw[hk o cs' ho]; exact hb
     ·cases hb
    ·cases hb
   rw[hb',ht]
   simp only
   split at h
   ·rename_i y hl
    exact⟨h.1,h.2.1,trivial⟩
   ·exact h.elim
  ·exact h.elim
 case call c=>
  simp only[cl] at hc
  split at hc
  ·(repeat' split at hc)<;>simp at hc
  ·split at hc<;>first|(simp at hc; done)|skip
   split at hc
   ·simp at hc
   ·(repeat' split at hc)<;>simp at hc
  ·simp at hc
theorem gz {P:Program} {gl:aC} {op:Op} {m:Nat} {ρ:Operand→PV} {H H':ae} {r:PV} (hs:kq op=true) (h:opw P gl op m ρ H (fun x H1=>x=r∧H1=H')):
  ∃(o off sz:Nat) (xs cs:List PV),H[o]?=some (.cells cs)∧off+sz≤cs.length∧xs.length=sz∧cE m o off sz=true∧r = .tup []∧H'=H.set o (.cells (over cs off xs))∧
   ∀(H2:ae) (cs2:List PV),H2[o]?=some (.cells cs2)→off+sz≤cs2.length→opw P gl op m ρ H2 (fun x H1=>x = .tup []∧H1=H2.set o (.cells (over cs2 off xs))):=by
 cases op<;>try (cases hs; done)
 case store t a x=>
  simp only[opw] at h
  split at h
  ·rename_i o off b sz xs ha ht hx
   split at h
   ·rename_i cs ho
    obtain⟨h1,h2,⟨h3,h4⟩,h5,h6⟩:=h
    refine⟨o,off,sz,xs,cs,ho,h3,h1,h4,h5.symm,h6.symm,fun H2 cs2 k1 k2=>?_⟩
    simp only[opw,ha,ht,hx,k1]
    exact⟨h1,h2,⟨k2,h4⟩,trivial,trivial⟩
   ·exact h.elim
  ·exact h.elim
theorem loadPV_over {b:Bool} {off sz off2:Nat} {cs xs:List PV} (h2:off2+xs.length≤cs.length) (h0:0<sz) (hd:off+sz≤off2∨off2+xs.length≤off):eH b sz ((over cs off2 xs).drop off)=eH b sz (cs.drop off):=by
 have hl:((over cs off2 xs).drop off).length=(cs.drop off).length:=by rw[List.length_drop,List.length_drop,bB h2]
 have hg:∀ q,q<sz→((over cs off2 xs).drop off)[q]?=(cs.drop off)[q]?:=fun q hq=>by
  rw[List.getElem?_drop,List.getElem?_drop,iw h2]
  by_cases c1:off+q<off2
  ·rw[if_pos c1]
  ·rw[if_neg c1,if_neg (by omega)]
 unfold eH
 cases b with
 | true=>
  simp only[if_true,hl]
  have ht:((over cs off2 xs).drop off).take sz=(cs.drop off).take sz:=by
   apply List.ext_getElem?
   intro q
   rw[List.getElem?_take,List.getElem?_take]
   by_cases c:q<sz
   ·rw[if_pos c,if_pos c,hg q c]
   ·rw[if_neg c,if_neg c]
  rw[ht]
 | false=>
  simp only[Bool.false_eq_true,if_false]
  exact hg 0 h0
theorem nL {P:Program} {gl:aC} {op:Op} {m m2:Nat} {ρ:Operand→PV} {H:ae} {r:PV} (hs:uA op=true) {o2 off2 sz2:Nat} {cs2 xs2:List PV} (ho:H[o2]?=some (.cells cs2)) (hfit:off2+sz2≤cs2.length) (hx:xs2.length=sz2) (hh:cE m2 o2 off2 sz2=true)
  (hap:(m == 900 || gP m m2)=true∨(m == 900 || gP m2 m)=true):
  opw P gl op m ρ H (fun x H1=>x=r∧H1=H)↔opw P gl op m ρ (H.set o2 (.cells (over cs2 off2 xs2))) (fun x H1=>x=r∧H1=H.set o2 (.cells (over cs2 off2 xs2))):=by
 cases op<;>try (cases hs; done)
 case load t a=>
  have hol:o2<H.length:=(List.getElem?_eq_some_iff.1 ho).1
  subst hx
  have key:∀(b:Bool) (sz:Nat),tf m (ρ a) sz=true→(behind H (ρ a)).bind (eH b sz)=(behind (H.set o2 (.cells (over cs2 off2 xs2))) (ρ a)).bind (eH b sz):=by
   intro b sz hl
   unfold tf at hl
   split at hl
   ·split at hl
    ·rename_i cs hx; rw[hx]; rfl
    ·cases hl
   ·rename_i h9
    have hm:1000≤m:=by
     rcases hap with h|h<;>rw[h9,Bool.false_or] at h<;>simp only[gP,Bool.and_eq_true,Nat.ble_eq] at h
     ·exact h.1.1
     ·exact h.1.2
    have hm2:1000≤m2:=by
     rcases hap with h|h<;>rw[h9,Bool.false_or] at h<;>simp only[gP,Bool.and_eq_true,Nat.ble_eq] at h
     ·exact h.1.2
     ·exact h.1.1
    simp only[Bool.or_eq_true,Nat.blt_eq] at hl
    rcases hl with hl|hl
    ·omega
    ·split at hl
     ·rename_i o off hx
      simp only[Bool.and_eq_true,Nat.blt_eq] at hl
      obtain⟨d1,d2,d3⟩:=kx hm hl.1
      obtain⟨d4,d5,d6⟩:=kx hm2 hh
      have hd:o≠o2∨off+sz≤off2∨off2+xs2.length≤off:=by
       rcases hap with h|h<;>rw[h9,Bool.false_or] at h<;>simp only[gP,Bool.and_eq_true,Nat.ble_eq,Bool.or_eq_true,Bool.not_eq_true',beq_eq_false_iff_ne,d1,d2,d3,d4,d5,d6] at h
       ·rcases h.2 with (k|k)|k
        ·exact .inl k
        ·exact .inr (.inl k)
        ·exact .inr (.inr k)
       ·rcases h.2 with (k|k)|k
        ·exact .inl (Ne.symm k)
        ·exact .inr (.inr k)
        ·exact .inr (.inl k)
      rw[hx]
      simp only[behind]
      by_cases hoo:o=o2
      ·subst hoo
       rw[ho,List.getElem?_set_self hol]
       simp only[Option.bind_some]
       rcases hd with k|k
       ·exact absurd rfl k
       ·exact(loadPV_over hfit hl.2 k).symm
      ·rw[List.getElem?_set_ne (fun e=>hoo e.symm)]
     ·cases hl
  simp only[opw]
  cases ht:tyA P t with
  | none=>cases behind H (ρ a)<;>cases behind (H.set o2 (.cells (over cs2 off2 xs2))) (ρ a)<;>exact⟨fun h=>h.elim,fun h=>h.elim⟩
  | some p=>
   obtain⟨b,sz⟩:=p
   by_cases hl:tf m (ρ a) sz=true
   ·have k:=key b sz hl
    constructor
    ·intro h
     split at h
     ·rename_i cs b' sz' hb ht'
      cases ht'
      split at h
      ·rename_i y hy
       rw[hb] at k
       simp only[Option.bind_some,hy] at k
       obtain⟨cs',hb',hy'⟩:=Option.bind_eq_some_iff.1 k.symm
       rw[hb']; simp only[hy']
       exact⟨hl,h.2.1,trivial⟩
      ·exact h.elim
     ·exact h.elim
    ·intro h
     split at h
     ·rename_i cs b' sz' hb ht'
      cases ht'
      split at h
      ·rename_i y hy
       rw[hb] at k
       simp only[Option.bind_some,hy] at k
       obtain⟨cs',hb',hy'⟩:=Option.bind_eq_some_iff.1 k
       rw[hb']; simp only[hy']
       exact⟨hl,h.2.1,trivial⟩
      ·exact h.elim
     ·exact h.elim
   ·constructor
    ·intro h
     split at h
     ·rename_i cs b' sz' hb ht'
      cases ht'
      split at h
      ·exact absurd h.1 hl
      ·exact h.elim
     ·exact h.elim
    ·intro h
     split at h
     ·rename_i cs b' sz' hb ht'
      cases ht'
      split at h
      ·exact absurd h.1 hl
      ·exact h.elim
     ·exact h.elim
theorem swap {P:Program} {gl:aC} {hn:Oper→Nat} {ops:Array Oper} {o1 o2:Oper} (hi:indep ops hn o1 o2=true) {e e1 e2:Env} {H H1 H2:ae} (h1:SD P gl hn ops o1 e H e1 H1) (h2:SD P gl hn ops o2 e1 H1 e2 H2):
  ∃ e1' H1',SD P gl hn ops o2 e H e1' H1'∧SD P gl hn ops o1 e1' H1' e2 H2:=by
 simp only[indep,Bool.and_eq_true] at hi
 obtain⟨⟨hi1,hi2⟩,hi3⟩:=hi
 have hl2:∀ t,o1.dst=some t→(looks ops o2).contains t=false:=by
  intro t ht; rw[ht] at hi1; simp at hi1; simpa using hi1.1
 have hd:∀ t,o1.dst=some t→o2.dst≠some t:=by
  intro t ht; rw[ht] at hi1; simp at hi1; exact hi1.2
 have hl1:∀ t,o2.dst=some t→(looks ops o1).contains t=false:=by
  intro t ht; rw[ht] at hi2; simpa using hi2
 have hd':∀ t,o2.dst=some t→o1.dst≠some t:=fun t ht ht'=>hd t ht' ht
 obtain⟨r1,hr1⟩:∃ r1,e1=upd e o1.dst r1:=by
  rcases h1 with⟨r,rfl,_⟩|⟨rfl,_⟩
  ·exact⟨r,rfl⟩
  ·exact⟨_,rfl⟩
 subst hr1
 obtain⟨ea,ha,rfl⟩:=J7 hl2 hd h2
 obtain⟨r2,hr2⟩:∃ r2,ea=upd e o2.dst r2:=by
  rcases ha with⟨r,rfl,_⟩|⟨rfl,_⟩
  ·exact⟨r,rfl⟩
  ·exact⟨_,rfl⟩
 subst hr2
 have hfin:∀ Ha,SD P gl hn ops o2 e H (upd e o2.dst r2) Ha→SD P gl hn ops o1 e Ha (upd e o1.dst r1) H2→
   ∃ e1' H1',SD P gl hn ops o2 e H e1' H1'∧SD P gl hn ops o1 e1' H1' (upd (upd e o2.dst r2) o1.dst r1) H2:=by
  intro Ha k1 k2
  have k3:=vc (d:=o2.dst) (x:=r2) hl1 hd' k2
  refine⟨_,Ha,k1,?_⟩
  rwa [← iE e o2.dst o1.dst r2 r1 hd'] at k3
 have stay:∀ {o:Oper} {r:PV} {Hx Hy:ae},SD P gl hn ops o e Hx (upd e o.dst r) Hx→(∀ {r'},ku P gl o.op (hn o) (ev gl e) Hx r' Hx→ku P gl o.op (hn o) (ev gl e) Hy r' Hy)→SD P gl hn ops o e Hy (upd e o.dst r) Hy:=by
  intro o r Hx Hy h hs
  rcases h with⟨r',he,h1,hg⟩|⟨he,_,hg⟩
  ·exact .inl ⟨r',he,hs h1,hg⟩
  ·exact .inr ⟨he,rfl,hg⟩
 have pstay:∀ {o:Oper} {Hx Hy:ae} {r':PV},cl (hn o) o.op=some .p→ku P gl o.op (hn o) (ev gl e) Hx r' Hx→ku P gl o.op (hn o) (ev gl e) Hy r' Hy:=by
  intro o Hx Hy r' hc h
  have:=h.2
  rw[hc] at this
  exact bp hc this.2
 have same:∀ {o:Oper} {Hx Hy:ae} {r:PV},(cl (hn o) o.op=some .p∨cl (hn o) o.op=some .l∨cl (hn o) o.op=some .r)→SD P gl hn ops o e Hx (upd e o.dst r) Hy→Hy=Hx:=by
  intro o Hx Hy r hc h
  rcases h with⟨r',_,h1,_⟩|⟨_,he,_⟩
  ·have:=h1.2
   rcases hc with hc|hc|hc<;>rw[hc] at this
   ·exact this.1
   ·exact this
   ·exact this
  ·exact he
 split at hi3
 ·
  rename_i c2 hc1 hc2
  have:=same (.inl hc1) h1
  subst this
  exact hfin H2 ha (stay h1 (pstay hc1))
 ·rename_i c1 hc1 hc2
  have:=same (.inl hc2) ha
  subst this
  exact hfin H (stay ha (pstay hc2)) h1
 ·rename_i hc1 hc2
  have:=same (.inr (.inl hc1)) h1
  subst this
  have:=same (.inr (.inl hc2)) ha
  subst this
  exact hfin _ ha h1
 ·rename_i hc1 hc2
  have:=same (.inr (.inl hc1)) h1
  subst this
  have:=same (.inr (.inr hc2)) ha
  subst this
  exact hfin _ ha h1
 ·rename_i hc1 hc2
  have:=same (.inr (.inr hc1)) h1
  subst this
  have:=same (.inr (.inl hc2)) ha
  subst this
  exact hfin _ ha h1
 ·rename_i hc1 hc2
  have:=same (.inr (.inr hc1)) h1
  subst this
  have:=same (.inr (.inr hc2)) ha
  subst this
  exact hfin _ ha h1
 ·
  rename_i hc1 hc2
  have:=same (.inr (.inl hc1)) h1
  subst this
  have hk:keeps H1 H2:=by
   rcases ha with⟨r',_,hs,_⟩|⟨_,he,_⟩
   ·have:=hs.2; rw[hc2] at this; exact this
   ·subst he; exact fun _ _ h=>h
  exact hfin H2 ha (stay h1 (fun {r'} hs=>⟨u7 hc1 hk hs.1,by rw[hc1]⟩))
 ·
  rename_i hc1 hc2
  simp only[Bool.and_eq_true] at hi3
  obtain⟨⟨hs1,hs2⟩,hap⟩:=hi3
  rcases h1 with⟨ra,hea,k1,hg1⟩|⟨hea,rfl,hg1⟩
  ·rcases ha with⟨rb,heb,k2,hg2⟩|⟨heb,rfl,hg2⟩
   ·obtain⟨oa,offa,sza,xa,ca,a1,a2,a3,a4,rfl,a6,a7⟩:=gz hs1 k1.1
    obtain⟨ob,offb,szb,xb,cb,b1,b2,b3,b4,rfl,b6,b7⟩:=gz hs2 k2.1
    simp only[gP,Bool.and_eq_true,Nat.ble_eq,Bool.or_eq_true,Bool.not_eq_true',beq_eq_false_iff_ne] at hap
    obtain⟨⟨m1,m2⟩,hap⟩:=hap
    obtain⟨d1,d2,d3⟩:=kx m1 a4
    obtain⟨d4,d5,d6⟩:=kx m2 b4
    rw[d1,d2,d3,d4,d5,d6] at hap
    subst a6
    subst a3
    subst b3
    by_cases hoo:oa=ob
    ·subst hoo
     have hol:oa<H.length:=(List.getElem?_eq_some_iff.1 a1).1
     have hcb:cb=over ca offa xa:=by
      rw[List.getElem?_set_self hol] at b1
      cases b1; rfl
     subst hcb
     have hlb:offb+xb.length≤ca.length:=by rw[bB a2] at b2; exact b2
     have hdis:offa+xa.length≤offb∨offb+xb.length≤offa:=by
      rcases hap with (h|h)|h
      ·exact absurd rfl h
      ·exact .inl h
      ·exact .inr h
     have e1:H2=(H.set oa (.cells (over ca offb xb))).set oa (.cells (over (over ca offb xb) offa xa)):=by
      rw[b6,List.set_set,List.set_set,yu a2 hlb hdis]
     refine hfin (H.set oa (.cells (over ca offb xb))) (.inl ⟨_,heb,⟨b7 H ca a1 hlb,by rw[hc2]; trivial⟩,hg2⟩) (.inl ⟨_,hea,⟨?_,by rw[hc1]; trivial⟩,hg1⟩)
     rw[e1]
     exact a7 _ _ (List.getElem?_set_self hol) (by rw[bB hlb]; exact a2)
    ·have b1':H[ob]?=some (.cells cb):=by rw[List.getElem?_set_ne hoo] at b1; exact b1
     refine hfin (H.set ob (.cells (over cb offb xb))) (.inl ⟨_,heb,⟨b7 H cb b1' b2,by rw[hc2]; trivial⟩,hg2⟩) (.inl ⟨_,hea,⟨?_,by rw[hc1]; trivial⟩,hg1⟩)
     rw[b6,List.set_comm _ _ (fun e=>hoo e)]
     exact a7 _ _ (by rw[List.getElem?_set_ne (fun e=>hoo e.symm)]; exact a1) a2
   ·exact hfin H (.inr ⟨heb,rfl,hg2⟩) (.inl ⟨ra,hea,k1,hg1⟩)
  ·exact hfin H2 ha (.inr ⟨hea,rfl,hg1⟩)
 ·
  rename_i hc1 hc2
  simp only[Bool.and_eq_true] at hi3
  obtain⟨⟨hs1,hs2⟩,hap⟩:=hi3
  have:=same (.inr (.inl hc1)) h1
  subst this
  rcases ha with⟨rb,heb,k2,hg2⟩|⟨heb,rfl,hg2⟩
  ·obtain⟨ob,offb,szb,xb,cb,b1,b2,b3,b4,rfl,b6,b7⟩:=gz hs2 k2.1
   have kk:=k2
   subst b6
   exact hfin _ (.inl ⟨_,heb,kk,hg2⟩) (stay h1 (fun {r'} hs=>⟨(nL hs1 b1 b2 b3 b4 (.inl hap)).1 hs.1,by rw[hc1]⟩))
  ·exact hfin _ (.inr ⟨heb,rfl,hg2⟩) h1
 ·
  rename_i hc1 hc2
  simp only[Bool.and_eq_true] at hi3
  obtain⟨⟨hs1,hs2⟩,hap⟩:=hi3
  have:=same (.inr (.inl hc2)) ha
  subst this
  rcases h1 with⟨ra,hea,k1,hg1⟩|⟨hea,rfl,hg1⟩
  ·obtain⟨oa,offa,sza,xa,ca,a1,a2,a3,a4,rfl,a6,a7⟩:=gz hs1 k1.1
   have kk:=k1
   subst a6
   refine hfin H ?_ (.inl ⟨_,hea,kk,hg1⟩)
   exact stay ha (fun {r'} hs=>⟨(nL hs2 a1 a2 a3 a4 (.inr hap)).2 hs.1,by rw[hc2]⟩)
  ·exact hfin H2 ha (.inr ⟨hea,rfl,hg1⟩)
 ·cases hi3
theorem B1 {P:Program} {gl:aC} {hn:Oper→Nat} {ops:Array Oper} {i:Nat} {B:List Nat}:∀(A:List Nat) (e:Env) (H:ae) (e2:Env) (H2:ae),
  (∀ k∈A,∀ ok oi,ops[k]?=some ok→ops[i]?=some oi→indep ops hn ok oi=true)→Chain P gl hn ops (A++i::B) e H e2 H2→Chain P gl hn ops (i::(A++B)) e H e2 H2:=by
 intro A
 induction A with
 | nil=>intro e H e2 H2 _ h; exact h
 | cons k A ih=>
  intro e H e2 H2 hi h
  rw[List.cons_append] at h
  cases h with
  | cons ho h1 hs=>
   have hs':=ih _ _ _ _ (fun q hq=>hi q (by simp[hq])) hs
   cases hs' with
   | cons ho' h2 hs2=>
    obtain⟨ea,Ha,k1,k2⟩:=swap (hi k (by simp) _ _ ho ho') h1 h2
    exact .cons ho' k1 (.cons ho k2 hs2)
def CF (ops:Array Oper) (hn:Oper→Nat) (i j:Nat):Prop:=j<i→∀ oj oi,ops[j]?=some oj→ops[i]?=some oi→indep ops hn oj oi=true
theorem uu {P:Program} {gl:aC} {hn:Oper→Nat} {ops:Array Oper}:∀(σ L:List Nat) (e:Env) (H:ae) (e2:Env) (H2:ae),
  L.Pairwise (· < ·)→σ.Perm L→σ.Pairwise (CF ops hn)→Chain P gl hn ops L e H e2 H2→Chain P gl hn ops σ e H e2 H2:=by
 intro σ
 induction σ with
 | nil=>
  intro L e H e2 H2 _ hp _ h
  have:L=[]:=List.Perm.eq_nil hp.symm
  subst this; exact h
 | cons i σ ih=>
  intro L e H e2 H2 hL hp hR h
  have hi:i∈L:=hp.subset (by simp)
  obtain⟨A,B,rfl⟩:=List.append_of_mem hi
  have hb:=B1 A e H e2 H2 (fun k hk ok oi h1 h2=>by
   have hlt:k<i:=by
    have:=(List.pairwise_append.1 hL).2.2 k hk i (by simp)
    exact this
   have hkσ:k∈σ:=by
    have:k∈i::σ:=hp.symm.subset (by simp[hk])
    rcases List.mem_cons.1 this with e|h
    ·omega
    ·exact h
   exact(List.pairwise_cons.1 hR).1 k hkσ hlt ok oi h1 h2) h
  cases hb with
  | cons ho h1 hs=>
   refine .cons ho h1 (ih (A++B) _ _ _ _ ?_ ?_ (List.pairwise_cons.1 hR).2 hs)
   ·exact hL.sublist (by simp)
   ·exact(List.perm_cons i).1 (hp.trans (List.perm_middle))
def tQ (md:Region.Mode) (ops:Array Oper) (l:List Nat):Prop:=
 ∀(p i:Nat) (o:Oper),l[p]?=some i→ops[i]?=some o→∀ e∈o.after,Region.binds md e=true→e.on∈l.take p
def jj (ops:Array Oper):Bool:=(List.range ops.size).all fun i=>match ops[i]? with
 | some o=>o.after.toList.all fun e=> !Region.binds .any e || decide (e.on<i)
 | none=>true
theorem oE {ops:Array Oper} (h:jj ops=true) {i:Nat} {o:Oper} (ho:ops[i]?=some o) {e:Edge} (he:e∈o.after) (hb:Region.binds .any e=true):e.on<i:=by
 have hi:i<ops.size:=(Array.getElem?_eq_some_iff.1 ho).1
 have:=List.all_eq_true.1 h i (by simpa using hi)
 rw[ho] at this
 simp only[List.all_eq_true,Bool.or_eq_true,decide_eq_true_eq,Bool.not_eq_true'] at this
 rcases this e (by simpa using he) with h|h
 ·rw[hb] at h; cases h
 ·exact h
def jy (md:Region.Mode) (ops:Array Oper) (rk:List Nat):Bool:=(List.range ops.size).all fun i=>match ops[i]? with
 | some o=>o.after.toList.all fun e=>decide (e.on<ops.size) && (!Region.binds md e || decide (rk.getD e.on 0<rk.getD i 0))
 | none=>true
theorem o6 {md:Region.Mode} {ops:Array Oper} {rk:List Nat} (h:jy md ops rk=true) {i:Nat} {o:Oper} (ho:ops[i]?=some o) {e:Edge} (he:e∈o.after):
  e.on<ops.size∧(Region.binds md e=true→rk.getD e.on 0<rk.getD i 0):=by
 have hi:i<ops.size:=(Array.getElem?_eq_some_iff.1 ho).1
 have:=List.all_eq_true.1 h i (by simpa using hi)
 rw[ho] at this
 simp only[List.all_eq_true,Bool.and_eq_true,Bool.or_eq_true,decide_eq_true_eq,Bool.not_eq_true'] at this
 obtain⟨h1,h2⟩:=this e (by simpa using he)
 refine⟨h1,fun hb=>?_⟩
 rcases h2 with h2|h2
 ·rw[hb] at h2; cases h2
 ·exact h2
def mO (md:Region.Mode) (ops:Array Oper):List Nat:=
 let l:=Region.linearise md ops 0
 (List.range ops.size).map fun i=>l.idxOf i
theorem zF {md:Region.Mode} {ops:Array Oper} {rk:List Nat} (hb:jy md ops rk=true):∀(fuel t:Nat) (listed:Array Bool) (acc:List Nat),listed.size=ops.size→(∀ i,i<ops.size→(listed.getD i true=true↔i∈acc))→
  acc.Nodup→(∀ i∈acc,i<ops.size)→tQ md ops acc.reverse→acc.length+fuel=ops.size→
  (Region.linearise.go md ops fuel t listed acc).Nodup∧(∀ i∈Region.linearise.go md ops fuel t listed acc,i<ops.size)∧tQ md ops (Region.linearise.go md ops fuel t listed acc)∧
   (Region.linearise.go md ops fuel t listed acc).length=ops.size:=by
 intro fuel
 induction fuel with
 | zero=>
  intro t listed acc _ _ h3 h4 h5 h6
  simp only[Region.linearise.go]
  exact⟨(List.reverse_perm acc).nodup_iff.2 h3,fun i hi=>h4 i (by simpa using hi),h5,by simpa using h6⟩
 | succ fuel ih=>
  intro t listed acc h1 h2 h3 h4 h5 h6
  simp only[Region.linearise.go]
  generalize hrs:((List.range ops.size).filter fun i=> !listed.getD i true && ((ops[i]?).map (·.after.all fun e=> !Region.binds md e || listed.getD e.on false)).getD false)=rs
  have hne:0<rs.length:=by
   have hex:∃ i,i<ops.size∧i∉acc:=by
    rcases Classical.em (∃ i,i<ops.size∧i∉acc) with h|h
    ·exact h
    ·exfalso
     have hall:∀ i∈List.range ops.size,i∈acc:=by
      intro i hi
      rcases Classical.em (i∈acc) with h'|h'
      ·exact h'
      ·exact absurd ⟨i,by simpa using hi,h'⟩ h
     have:=List.Nodup.length_le_of_subset (List.nodup_range) hall
     simp at this
     omega
   obtain⟨r,⟨i,hi,hri⟩,hmin0⟩:=exists_least (p:=fun r=>∃ i,(i<ops.size∧i∉acc)∧rk.getD i 0=r) (by obtain⟨i,hi⟩:=hex; exact⟨_,i,hi,rfl⟩)
   have hmin:∀ k,k<ops.size∧k∉acc→r≤rk.getD k 0:=fun k hk=>hmin0 _ ⟨k,hk,rfl⟩
   have hmem:i∈rs:=by
    rw[← hrs]
    simp only[List.mem_filter,List.mem_range,Bool.and_eq_true,Bool.not_eq_true']
    refine⟨hi.1,?_,?_⟩
    ·cases hl:listed.getD i true
     ·rfl
     ·exact absurd ((h2 i hi.1).1 hl) hi.2
    ·rw[Array.getElem?_eq_getElem hi.1]
     simp only[Option.map_some,Option.getD_some]
     rw[Array.all_eq_true']
     intro e he
     obtain⟨hos,hlt⟩:=o6 hb (Array.getElem?_eq_getElem hi.1) he
     cases hbe:Region.binds md e with
     | false=>simp
     | true=>
     have hlt:=hlt hbe
     have hin:e.on∈acc:=by
      rcases Classical.em (e.on∈acc) with h'|h'
      ·exact h'
      ·exact absurd (hmin e.on ⟨hos,h'⟩) (by omega)
     have hl:=(h2 e.on hos).2 hin
     have:listed.getD e.on false=true:=by
      have hs:e.on<listed.size:=by omega
      simp only[Array.getD,hs,dif_pos] at hl ⊢
      exact hl
     simp[this]
   exact List.length_pos_of_mem hmem
  have hlt:t % rs.length<rs.length:=Nat.mod_lt _ hne
  rw[List.getElem?_eq_getElem hlt]
  simp only
  generalize hi:rs[t % rs.length]=i
  have hmem:i∈rs:=by rw[← hi]; exact List.getElem_mem hlt
  rw[← hrs] at hmem
  simp only[List.mem_filter,List.mem_range,Bool.and_eq_true,Bool.not_eq_true'] at hmem
  obtain⟨hio,hnl,hrd⟩:=hmem
  have hnot:i∉acc:=by
   intro h'
   have:=(h2 i hio).2 h'
   rw[this] at hnl; cases hnl
  refine ih (t / rs.length) (listed.setIfInBounds i true) (i::acc) (by simpa using h1) ?_ (List.nodup_cons.2 ⟨hnot,h3⟩) ?_ ?_ (by simp; omega)
  ·intro k hk
   by_cases hki:k=i
   ·subst hki
    have:k<listed.size:=by omega
    simp[Array.getD,this]
   ·have h7:=h2 k hk
    simp only[Array.getD_eq_getD_getElem?] at h7 ⊢
    rw[Array.getElem?_setIfInBounds_ne (Ne.symm hki),h7]
    simp[hki]
  ·intro k hk
   rcases List.mem_cons.1 hk with rfl|hk
   ·exact hio
   ·exact h4 k hk
  ·intro p k o hp ho e he hbe
   rw[List.reverse_cons] at hp ⊢
   rcases aK _ _ _ _ hp with⟨hp,hpl⟩|⟨rfl,rfl⟩
   ·rw[List.take_append_of_le_length (by omega)]
    exact h5 p k o hp ho e he hbe
   ·rw[List.take_left']
    ·rw[ho] at hrd
     simp only[Option.map_some,Option.getD_some] at hrd
     have:=Array.all_eq_true'.1 hrd e he
     rw[hbe] at this
     simp only[Bool.not_true,Bool.false_or] at this
     have hlt':e.on<ops.size:=(o6 hb ho he).1
     have:listed.getD e.on true=true:=by
      have hs:e.on<listed.size:=by omega
      simp only[Array.getD,hs,dif_pos] at this ⊢
      exact this
     have:=(h2 e.on (by omega)).1 this
     simpa using this
    ·rfl
def gZ (acc:List (List Nat)) (o:Oper):List Nat:=
 (o.after.toList.filter (Region.binds .any)).foldl (fun s e=>s++(e.on::acc.getD e.on []).filter (fun x=> !s.contains x)) []
def fF (ops:List Oper):List (List Nat):=ops.foldl (fun acc o=>acc++[gZ acc o]) []
theorem tw {acc:List (List Nat)} {o:Oper} {j:Nat} (h:j∈gZ acc o):∃ e∈o.after,Region.binds .any e=true∧(j=e.on∨j∈acc.getD e.on []):=by
 unfold gZ at h
 have gen:∀(es:List Edge) (s:List Nat),j∈es.foldl (fun s e=>s++(e.on::acc.getD e.on []).filter (fun x=> !s.contains x)) s→j∈s∨∃ e∈es,j=e.on∨j∈acc.getD e.on []:=by
  intro es
  induction es with
  | nil=>intro s h; exact .inl h
  | cons e es ih=>
   intro s h
   rcases ih _ h with h|⟨e',he',h⟩
   ·rcases List.mem_append.1 h with h|h
    ·exact .inl h
    ·have:=(List.mem_filter.1 h).1
     exact .inr ⟨e,by simp,List.mem_cons.1 this⟩
   ·exact .inr ⟨e',by simp[he'],h⟩
 rcases gen _ _ h with h|⟨e,he,h⟩
 ·cases h
 ·have:=List.mem_filter.1 he
  exact⟨e,by simpa using this.1,this.2,h⟩
theorem yp (l:List Oper) (o:Oper):fF (l++[o])=fF l++[gZ (fF l) o]:=by
 simp[fF,List.foldl_append]
theorem rW:∀(l:List Oper),(fF l).length=l.length:=by
 intro l
 have gen:∀(l:List Oper) (acc:List (List Nat)),(l.foldl (fun acc o=>acc++[gZ acc o]) acc).length=acc.length+l.length:=by
  intro l
  induction l with
  | nil=>intro acc; rfl
  | cons o l ih=>intro acc; simp only[List.foldl_cons,ih]; simp; omega
 have:=gen l []
 simpa[fF] using this
theorem Ck (ops:List Oper):∀(n:Nat),n≤ops.length→∀(i j:Nat) (o:Oper),i<n→ops[i]?=some o→(∀ e∈o.after,Region.binds .any e=true→e.on<i)→j∈(fF (ops.take n)).getD i []→
  ∃ e∈o.after,Region.binds .any e=true∧(j=e.on∨j∈(fF (ops.take n)).getD e.on []):=by
 intro n
 induction n with
 | zero=>intro _ i j o hi; omega
 | succ n ih=>
  intro hn i j o hi ho hback hj
  have hlt:n<ops.length:=by omega
  have htake:ops.take (n+1)=ops.take n++[ops[n]]:=by
   rw[List.take_succ_eq_append_getElem hlt]
  rw[htake,yp] at hj ⊢
  have hlen:(fF (ops.take n)).length=n:=by rw[rW]; simp; omega
  have hget:∀ k,k<n→(fF (ops.take n)++[gZ (fF (ops.take n)) ops[n]]).getD k []=(fF (ops.take n)).getD k []:=by
   intro k hk
   simp only[List.getD_eq_getElem?_getD]
   rw[List.getElem?_append_left (by omega)]
  by_cases hin:i<n
  ·rw[hget i hin] at hj
   obtain⟨e,he,hb,h⟩:=ih (by omega) i j o hin ho hback hj
   refine⟨e,he,hb,?_⟩
   have:=hback e he hb
   rw[hget e.on (by omega)]; exact h
  ·have hieq:i=n:=by omega
   subst hieq
   have ho':ops[i]=o:=by rw[List.getElem?_eq_getElem hlt] at ho; exact Option.some.inj ho
   have:(fF (ops.take i)++[gZ (fF (ops.take i)) ops[i]]).getD i []=gZ (fF (ops.take i)) ops[i]:=by
    simp only[List.getD_eq_getElem?_getD]
    rw[List.getElem?_append_right (by omega),hlen]; simp
   rw[this,ho'] at hj
   obtain⟨e,he,hb,h⟩:=tw hj
   refine⟨e,he,hb,?_⟩
   have:=hback e he hb
   rw[hget e.on (by omega)]; exact h
theorem ou {md:Region.Mode} {ops:Array Oper} (hb:jj ops=true) {l:List Nat} (hl:tQ md ops l) (hr:∀ i∈l,i<ops.size):
  ∀(p i:Nat),l[p]?=some i→∀ j∈(fF ops.toList).getD i [],j∈l.take p:=by
 intro p
 induction p using Nat.strongRecOn with
 | _ p ih=>
  intro i hp j hj
  have hi:i<ops.size:=hr i (List.mem_of_getElem? hp)
  have hm:=Ck ops.toList ops.size (by simp) i j ops[i] hi (by simp) (fun e he hbe=>oE hb (Array.getElem?_eq_getElem hi) he hbe)
  have htk:ops.toList.take ops.size=ops.toList:=by rw[List.take_of_length_le (by simp)]
  rw[htk] at hm
  obtain⟨e,he,hbe,h⟩:=hm hj
  have hbe':Region.binds md e=true:=by
   unfold Region.binds at hbe ⊢
   split<;>simp_all
  have hin:=hl p i ops[i] hp (Array.getElem?_eq_getElem hi) e he hbe'
  rcases h with rfl|h
  ·exact hin
  ·obtain⟨p',hp'⟩:=List.mem_iff_getElem?.1 hin
   have hlt:p'<p:=by
    have:=(List.getElem?_eq_some_iff.1 hp').1
    simp at this; omega
   rw[List.getElem?_take,if_pos hlt] at hp'
   have:=ih p' hlt e.on hp' j h
   exact(List.take_subset_take_left l (Nat.le_of_lt hlt)) this
def lg (ops:Array Oper) (hn:Oper→Nat):Bool:=
 (jj ops && jy .any ops (mO .any ops) && (!Region.departs ops || jy .text ops (mO .text ops)) && (!Region.departs ops || jy .gc ops (mO .gc ops))) && (ops.toList.all fun o=>(cl (hn o) o.op).isSome) &&
 (let anc:=fF ops.toList
  (List.range ops.size).all fun i=>(List.range i).all fun j=>match ops[j]?,ops[i]? with
  | some oj,some oi=>indep ops hn oj oi || (anc.getD i []).contains j
  | _,_=>true)
theorem su {ops:Array Oper} {hn:Oper→Nat} (h:lg ops hn=true) (mixed:Bool) (t:Nat):
  (Region.schedule mixed ops t).Perm (List.range ops.size)∧(Region.schedule mixed ops t).Pairwise (CF ops hn):=by
 simp only[lg,Bool.and_eq_true] at h
 obtain⟨⟨⟨⟨⟨hb,hra⟩,hrt⟩,hrg⟩,_⟩,hd⟩:=h
 have main:∀ md t,jy md ops (mO md ops)=true→(Region.linearise md ops t).Perm (List.range ops.size)∧(Region.linearise md ops t).Pairwise (CF ops hn):=by
  intro md t hrk
  unfold Region.linearise
  obtain⟨k1,k2,k3,k4⟩:=zF (md:=md) hrk ops.size t (Array.replicate ops.size false) [] (by simp) (fun i hi=>by simp[Array.getD,hi]) (by simp) (by simp) (fun p i o hp=>by simp at hp) (by simp)
  generalize Region.linearise.go md ops ops.size t (Array.replicate ops.size false) []=l at k1 k2 k3 k4
  refine⟨?_,?_⟩
  ·refine(List.perm_ext_iff_of_nodup k1 List.nodup_range).2 fun a=>⟨fun ha=>by simpa using k2 a ha,fun ha=>?_⟩
   rcases Classical.em (a∈l) with h|h
   ·exact h
   ·exfalso
    have h1:(a::l).Nodup:=List.nodup_cons.2 ⟨h,k1⟩
    have h2:(a::l) ⊆ List.range ops.size:=by
     intro x hx
     rcases List.mem_cons.1 hx with rfl|hx
     ·exact ha
     ·simpa using k2 x hx
    have:=List.Nodup.length_le_of_subset h1 h2
    simp at this
    omega
  ·rw[List.pairwise_iff_getElem]
   intro p q hp hq hpq hlt oj oi hoj hoi
   have hiq:=k2 _ (List.getElem_mem hp)
   have hc:=List.all_eq_true.1 hd (l[p]) (by simpa using hiq)
   have hc:=List.all_eq_true.1 hc (l[q]) (by simpa using hlt)
   rw[hoj,hoi] at hc
   simp only[Bool.or_eq_true] at hc
   rcases hc with hc|hc
   ·exact hc
   ·exfalso
    have:=ou hb k3 k2 p l[p] (List.getElem?_eq_getElem hp) l[q] (by simpa using hc)
    obtain⟨r,hr⟩:=List.mem_iff_getElem?.1 this
    have hrp:r<p:=by
     have:=(List.getElem?_eq_some_iff.1 hr).1
     simp at this; omega
    rw[List.getElem?_take,if_pos hrp] at hr
    have hrl:r<l.length:=by omega
    rw[List.getElem?_eq_getElem hrl] at hr
    have:=(List.getElem_inj k1).1 (Option.some.inj hr)
    omega
 unfold Region.schedule
 split
 ·exact main _ _ hra
 ·rename_i hdep
  have hdp:Region.departs ops=true:=by
   revert hdep
   cases mixed<;>cases Region.departs ops<;>simp
  rw[hdp] at hrt hrg
  simp only[Bool.not_true,Bool.false_or] at hrt hrg
  split
  ·exact main _ _ hrt
  ·exact main _ _ hrg
end Go.AM

namespace Go.AM
open Go
def qA (P:Program) (gl:aC) (hn:Oper→Nat) (ops:Array Oper):List Oper→Env→ae→(Env→ae→Prop)→Prop
 | [],e,H,K=>K e H
 | o::l,e,H,K=>
  match o.guard with
  | none=>m8 P gl o.op (hn o) (ev gl e) H fun x H'=>qA P gl hn ops l (upd e o.dst x) H' K
  | some (j,want)=>match (ops[j]?).bind (·.dst) with
   | some d=>match e d with
    | .bool b=>(b=want→m8 P gl o.op (hn o) (ev gl e) H fun x H'=>qA P gl hn ops l (upd e o.dst x) H' K)∧(b = !want→qA P gl hn ops l (upd e o.dst (.tup [])) H K)
    | .tup []=>qA P gl hn ops l (upd e o.dst (.tup [])) H K
    | _=>False
   | none=>False
theorem jG {P:Program} {gl:aC} {hn:Oper→Nat} {ops:Array Oper} {K:Env→ae→Prop} (hc:∀ o∈ops.toList,(cl (hn o) o.op).isSome=true):∀(is:List Nat) (l:List Oper) (e:Env) (H:ae),
  is.map (fun i=>ops[i]?)=l.map some→qA P gl hn ops l e H K→∃ e2 H2,Chain P gl hn ops is e H e2 H2∧K e2 H2:=by
 intro is
 induction is with
 | nil=>
  intro l e H hl h
  have:l=[]:=by simpa using hl
  subst this
  exact⟨e,H,.nil e H,h⟩
 | cons i is ih=>
  intro l e H hl h
  cases l with
  | nil=>simp at hl
  | cons o l=>
   simp only[List.map_cons,List.cons.injEq] at hl
   obtain⟨hi,hl⟩:=hl
   have hmem:o∈ops.toList:=by
    obtain⟨hlt,he⟩:=Array.getElem?_eq_some_iff.1 hi
    rw[← he]; exact Array.getElem_mem_toList hlt
   unfold qA at h
   split at h
   ·rename_i hg
    obtain⟨r,H',hk,hs⟩:=pC (hc o hmem) h
    obtain⟨e2,H2,h1,h2⟩:=ih l _ _ hl hk
    exact⟨e2,H2,.cons hi (.inl ⟨r,rfl,hs,by rw[hg]; trivial⟩) h1,h2⟩
   ·rename_i j want hg
    split at h
    ·rename_i d hd
     split at h
     ·rename_i b hb
      by_cases hbw:b=want
      ·obtain⟨r,H',hk,hs⟩:=pC (hc o hmem) (h.1 hbw)
       obtain⟨e2,H2,h1,h2⟩:=ih l _ _ hl hk
       exact⟨e2,H2,.cons hi (.inl ⟨r,rfl,hs,by rw[hg]; exact⟨d,hd,by rw[hb,hbw]⟩⟩) h1,h2⟩
      ·have hbn:b = !want:=by revert hbw; cases b<;>cases want<;>simp
       obtain⟨e2,H2,h1,h2⟩:=ih l _ _ hl (h.2 hbn)
       exact⟨e2,H2,.cons hi (.inr ⟨rfl,rfl,j,want,d,hg,hd,.inl (by rw[hb,hbn])⟩) h1,h2⟩
     ·rename_i hb
      obtain⟨e2,H2,h1,h2⟩:=ih l _ _ hl h
      exact⟨e2,H2,.cons hi (.inr ⟨rfl,rfl,j,want,d,hg,hd,.inr hb⟩) h1,h2⟩
     ·exact h.elim
    ·exact h.elim
theorem gE [Dfr] {gl:aC} {n:Nat} {g:Gh} {e:Env} {H:ae} {a:Act} {w:World} (hst:St gl n g e H a w) {ops:Array Oper} {j:Nat} {d:Tmp} {b:Bool} (hd:(ops[j]?).bind (·.dst)=some d) (hb:e d = .bool b):
  yielded ops a.tmps j=some b:=by
 unfold yielded
 rw[hd]
 simp only[Option.bind_some]
 have hr:=hst.env.2 d
 rw[hb] at hr
 have hlt:d<a.tmps.size:=by
  rcases Nat.lt_or_ge d a.tmps.size with h|h
  ·exact h
  ·exfalso
   rw[Array.getD_eq_getD_getElem?,Array.getElem?_eq_none h] at hr
   simp only[Option.getD_none,undef] at hr
   cases hr
 rw[Array.getD_eq_getD_getElem?,Array.getElem?_eq_getElem hlt] at hr
 rw[Array.getElem?_eq_getElem hlt]
 simp only[Option.getD_some] at hr
 generalize a.tmps[d]=v at hr
 cases hr; rfl
theorem mu [Dfr] {P:Program} {gl:aC} {hn:Oper→Nat} {n:Nat} {ops:Array Oper} (hd:ops.toList.all (k9 n)=true) {e2:Env} {H2:ae}:∀(is:List Nat) (g:Gh) (e:Env) (H:ae) (a:Act) (w:World),
  St gl n g e H a w→Chain P gl hn ops is e H e2 H2→
  wpOps P ops (fun ex a' w'=>∃ g',ex = .normal∧St gl n g' e2 H2 a' w'∧Ext g H w g' H2 w') is a w:=by
 intro is
 induction is with
 | nil=>
  intro g e H a w hst h
  cases h
  exact⟨g,rfl,hst,.refl _ _ _⟩
 | cons i is ih=>
  intro g e H a w hst h
  cases h with
  | cons ho h1 hs=>
   rename_i o e1 H1
   have hmem:o∈ops.toList:=by
    obtain⟨hlt,he⟩:=Array.getElem?_eq_some_iff.1 ho
    rw[← he]; exact Array.getElem_mem_toList hlt
   have hdo:∀ t,o.dst=some t→t<n:=by
    intro t ht
    have:=List.all_eq_true.1 hd o hmem
    simpa[k9,ht] using this
   unfold wpOps
   rw[ho]
   simp only
   rcases h1 with⟨r,rfl,hst1,hg⟩|⟨rfl,rfl,j,want,d,hg,hdd,hb⟩
   ·have hw:Region.wanted o (yielded ops a.tmps)=true:=by
     unfold Region.wanted
     split at hg
     ·rename_i hgn; rw[hgn]
     ·rename_i j want hgs
      obtain⟨d,hdd,hb⟩:=hg
      rw[hgs]
      simp[gE hst hdd hb]
    rw[if_pos hw]
    left
    have hno:=fU hst.sim hst.glob (o:=o) (a:=a) (fun x=>hst.env.ev hst.glob x) hst1.1
    have cont:∀(g1:Gh) (H1':ae) (w1:World) (x:PV) (v:Value),Sim g1 H1' w1→Ext g H w g1 H1' w1→Rel g1 w1 x v→(x=r∧H1'=H1)→
      wpOps P ops (fun ex a' w'=>∃ g',ex = .normal∧St gl n g' e2 H2 a' w'∧Ext g H w g' H2 w') is (a.put o.dst v) w1:=by
     rintro g1 H1' w1 x v k1 k2 k3 ⟨rfl,rfl⟩
     have:=ih g1 (upd e o.dst x) H1' (a.put o.dst v) w1 (hst.next k1 k2 k3 o.dst hdo) hs
     refine fq _ ?_ _ _ this
     rintro ex a' w' ⟨g',rfl,j1,j2⟩
     exact⟨g',rfl,j1,k2.trans j2⟩
    unfold Oper.wp
    rcases hno with⟨v,w',g',H',x,h1,h2,h3,h4,h5⟩|⟨w',g',H',h1,h2,h3,h4⟩|⟨f,vs,h1,h2⟩
    ·rw[h1]; exact cont g' H' w' x v h2 h3 h4 h5
    ·rw[h1]; exact cont g' H' w' (.tup []) undef h2 h3 (dG g' w') h4
    ·rw[h1]
     refine h2.mono ?_
     rintro ex w' ⟨v,g',H',x,rfl,k1,k2,k3,k4⟩
     exact cont g' H' w' x v k1 k2 k3 k4
   ·have hw:¬ Region.wanted o (yielded ops a.tmps)=true:=by
     unfold Region.wanted
     rw[hg]
     rcases hb with hb|hb
     ·simp[gE hst hdd hb]
     ·simp[gH hst hdd hb]
    rw[if_neg hw]
    exact ih g (upd e o.dst (.tup [])) _ (a.put o.dst undef) w (hst.next hst.sim (.refl _ _ _) (dG g w) o.dst hdo) hs
theorem nV [Dfr] {P:Program} {gl:aC} {n:Nat} {id:Nat} {ops:Array Oper} {Q:Ex→Env→ae→Prop} {e:Env} {H:ae} (hn:Oper→Nat) (hok:lg ops hn=true) (h:qA P gl hn ops ops.toList e H (Q .normal)):
  AW P gl n (.region id ops true) Q e H:=by
 intro hd g a w hst
 have hcl:∀ o∈ops.toList,(cl (hn o) o.op).isSome=true:=by
  have:=hok
  simp only[lg,Bool.and_eq_true] at this
  exact List.all_eq_true.1 this.1.2
 obtain⟨e2,H2,hch,hq⟩:=jG hcl _ _ e H (ir ops) h
 refine wp_region_draw fun t=>?_
 obtain⟨hp,hr⟩:=su hok (P.follows .mixedOrders) t
 have hch':=uu _ _ _ _ _ _ List.pairwise_lt_range hp hr hch
 have hst':St gl n g e H a w.drew:=⟨hst.sim.drew,hst.glob.mono (bL.drew g w),hst.env.mono (bL.drew g w),hst.dfr⟩
 refine fq _ ?_ _ _ (mu hd _ g e H a w.drew hst' hch')
 rintro ex a' w' ⟨g',rfl,k1,k2⟩
 exact⟨.normal,g',e2,H2,trivial,k1,(Ext.drew g H w).trans k2,hq⟩
end Go.AM

namespace Go.AM
open Go Go.RowKit
def WFs (R:TypeId→List PV→Prop):List TypeId→List PV→Prop
 | [],xs=>xs=[]
 | t::ts,xs=>∃ a b,xs=a++b∧R t a∧WFs R ts b
def WTp (P:Program):Nat→TypeId→List PV→Prop
 | 0,_,_=>False
 | k+1,t,xs=>match P.underlying t with
  | some .bool=>∃ b,xs=[.bool b]
  | some (.int kd)=>∃ n,xs=[.int kd n]∧kd.min≤n∧n≤kd.max
  | some .string=>∃ s,xs=[.str s]∧s.size≤maxLen
  | some (.slice e)=>∃ es,xs=[.list es .no]∧es.length≤maxLen∧∀ r∈es,WTp P k e r
  | some (.struct fs)=>WFs (WTp P k) (fs.toList.map (·.type)) xs
  | some (.array n e)=>WFs (WTp P k) (List.replicate n e) xs
  | _=>False
def gY (P:Program):Nat→List Field→Nat→Bool
 | o,[],n=>o == n
 | o,f::fs,n=>f.offset == o && gY P (o+P.cellsOf f.type) fs n
def nW (P:Program):Nat→TypeId→Bool
 | 0,_=>false
 | k+1,t=>match P.underlying t with
  | some .bool|some (.int _)|some .string=>true
  | some (.slice e)=>nW P k e
  | some (.struct fs)=>gY P 0 fs.toList (P.cellsOf t) && fs.toList.all (fun f=>nW P k f.type)
  | some (.array n e)=>P.cellsOf t == n*P.cellsOf e && nW P k e
  | _=>false
def gh0 (W:World):Gh:=⟨0,fun _=>0,fun _=>0,fun _=>0,fun b _=>b<W.heap.size,fun _ _=>False⟩
theorem Lg (W:World):Sim (gh0 W) [] W where
 n:=rfl
 inj:=fun o _ _ _ _ h=>by simp at h
 cells:=fun o cs h=>by simp at h
 tok:=fun o h=>by simp at h
 imm:=fun _ _ h=>h
 abs:=fun o r h=>by simp at h
theorem qd {W W':World} {g':Gh} {H':ae} (h:Ext (gh0 W) [] W g' H' W'):Below W.heap.size W W':=
 ⟨h.os,h.tape,h.output,h.size,fun k hk=>h.frame k hk (fun⟨o,ob,ho,_⟩=>by simp at ho)⟩
theorem sZ {w:World} {A:Addr} {v:Value} (h:w.cell? A=some v):A.block<w.heap.size:=by
 unfold World.cell? at h
 split at h
 ·rename_i hb; exact(Array.getElem?_eq_some_iff.1 hb).1
 ·cases h
theorem xX {w:World} {A:Addr} {v:Value} (h:w.cell? A=some v):A.spot=none:=by
 unfold World.cell? at h
 split at h
 ·split at h
  ·cases h
  ·rename_i hs; cases hq:A.spot with
   | none=>rfl
   | some _=>simp[hq] at hs
 ·cases h
theorem jV {w:World} {b:Nat} {A:Addr} {n:Nat} {cs:List Value} (h:w.cells? b A n=some cs):cs.length=n∧∀ i,i<n→w.cell? (A.add i)=cs[i]?:=by
 unfold World.cells? at h
 split at h
 ·refine⟨by simpa using mapM_some_length h,fun i hi=>?_⟩
  exact mapM_some_get h i i (by simp[List.getElem?_range hi])
 ·cases h
theorem jw {P:Program} {g:Gh} {w:World} {R:TypeId→List PV→Prop}:∀(fs:List Field) (o n:Nat) (cs:List Value),gY P o fs n=true→cs.length=n→
  (∀ f∈fs,∃ xs,aR g w xs ((cs.drop f.offset).take (P.cellsOf f.type))∧R f.type xs)→o≤n→∃ xs,aR g w xs (cs.drop o)∧WFs R (fs.map (·.type)) xs
 | [],o,n,cs,ho,hl,_,_=>by
  simp only[gY,beq_iff_eq] at ho
  refine⟨[],?_,rfl⟩
  rw[List.drop_eq_nil_of_le (by omega)]; exact .nil
 | f::fs,o,n,cs,ho,hl,hf,hn=>by
  simp only[gY,Bool.and_eq_true,beq_iff_eq] at ho
  have hle:∀(fs:List Field) (o:Nat),gY P o fs n=true→o≤n:=by
   intro fs
   induction fs with
   | nil=>intro o h; simp only[gY,beq_iff_eq] at h; omega
   | cons f fs ih=>intro o h; simp only[gY,Bool.and_eq_true] at h; have:=ih _ h.2; omega
  have hn':=hle _ _ ho.2
  obtain⟨ys,hy,hw⟩:=jw fs _ n cs ho.2 hl (fun f' hf'=>hf f' (List.mem_cons_of_mem _ hf')) hn'
  obtain⟨xs,hx,hr⟩:=hf f List.mem_cons_self
  refine⟨xs++ys,?_,xs,ys,rfl,hr,hw⟩
  have e:cs.drop o=(cs.drop f.offset).take (P.cellsOf f.type)++cs.drop (o+P.cellsOf f.type):=by
   rw[ho.1,← List.drop_drop,List.take_append_drop]
  rw[e]; exact hx.append hy
theorem ld {g:Gh} {w:World} {R:TypeId→List PV→Prop} {e:TypeId} {s:Nat}:∀(n:Nat) (cs:List Value),cs.length=n*s→
  (∀ i,i<n→∃ xs,aR g w xs ((cs.drop (i*s)).take s)∧R e xs)→∃ xs,aR g w xs cs∧WFs R (List.replicate n e) xs
 | 0,cs,hl,_=>by
  refine⟨[],?_,rfl⟩
  have h0:cs=[]:=List.eq_nil_of_length_eq_zero (by simpa using hl)
  subst h0; exact .nil
 | n+1,cs,hl,hf=>by
  have hl':cs.length=n*s+s:=by rw[hl]; exact Nat.succ_mul n s
  obtain⟨xs,hx,hr⟩:=hf 0 (Nat.succ_pos n)
  obtain⟨ys,hy,hw⟩:=ld (g:=g) (w:=w) (R:=R) (e:=e) (s:=s) n (cs.drop s) (by rw[List.length_drop,hl']; omega) (fun i hi=>by
   obtain⟨zs,hz,hq⟩:=hf (i+1) (by omega)
   refine⟨zs,?_,hq⟩
   rw[List.drop_drop,show s+i*s=(i+1)*s by rw[Nat.succ_mul]; omega]; exact hz)
  refine⟨xs++ys,?_,xs,ys,rfl,hr,hw⟩
  simp only[Nat.zero_mul,List.drop_zero] at hx
  have:=hx.append hy
  rwa [List.take_append_drop] at this
theorem ik {α:Type} {s:Nat}:∀(es:List (List α)),(∀ e∈es,e.length=s)→∀ q,q<es.flatten.length→es.flatten[q]?=(es.getD (q / s) [])[q % s]?∧q / s<es.length∧0<s
 | [],_,q,hq=>by simp at hq
 | e::es,h,q,hq=>by
  have he:=h e List.mem_cons_self
  have hs:=fun e' (h':e'∈es)=>h e' (List.mem_cons_of_mem _ h')
  simp only[List.flatten_cons,List.length_append] at hq
  by_cases hq1:q<s
  ·have hdiv:q / s=0:=Nat.div_eq_of_lt hq1
   have hmod:q % s=q:=Nat.mod_eq_of_lt hq1
   refine⟨?_,by rw[hdiv]; simp,by omega⟩
   rw[hdiv,hmod,List.flatten_cons,List.getElem?_append_left (by omega)]; rfl
  ·obtain⟨h1,h2,h3⟩:=ik es hs (q-s) (by omega)
   have hdiv:q / s=(q-s) / s+1:=by rw[Nat.div_eq_sub_div h3 (by omega)]
   have hmod:q % s=(q-s) % s:=by rw[Nat.mod_eq_sub_mod (by omega)]
   refine⟨?_,by rw[hdiv]; simpa using h2,h3⟩
   rw[List.flatten_cons,List.getElem?_append_right (by omega),he,h1,hdiv,hmod]; rfl
theorem oU {g:Gh} {w:World} {R:List PV→Prop} {s:Nat} (A:Addr) (base:Nat):∀(n:Nat),
  (∀ i,i<n→∃ cs xs,w.cells? base (A.add (i*s)) s=some cs∧aR g w xs cs∧R xs)→
  ∃ es:List (List PV),es.length=n∧(∀ e∈es,e.length=s∧R e)∧∀ i,i<n→∃ cs,w.cells? base (A.add (i*s)) s=some cs∧aR g w (es.getD i []) cs
 | 0,_=>⟨[],rfl,fun e he=>by simp at he,fun i hi=>by omega⟩
 | n+1,h=>by
  obtain⟨es,hl,he,hi⟩:=oU A base n (fun i hi=>h i (by omega))
  obtain⟨cs,xs,h1,h2,h3⟩:=h n (by omega)
  refine⟨es++[xs],by simp[hl],fun e hm=>?_,fun i hlt=>?_⟩
  ·rcases List.mem_append.1 hm with hm|hm
   ·exact he e hm
   ·simp only[List.mem_singleton] at hm; subst hm
    exact⟨h2.1.trans (jV h1).1,h3⟩
  ·by_cases hin:i<n
   ·obtain⟨cs',k1,k2⟩:=hi i hin
    refine⟨cs',k1,?_⟩
    rw[List.getD_eq_getElem?_getD,List.getElem?_append_left (by omega),← List.getD_eq_getElem?_getD]; exact k2
   ·have:i=n:=by omega
    subst this
    refine⟨cs,h1,?_⟩
    rw[List.getD_eq_getElem?_getD,List.getElem?_append_right (by omega),hl]; simpa using h2
theorem add_add (b o u v:Nat):((⟨b,o,none⟩:Addr).add u).add v=⟨b,o+(u+v),none⟩:=by
 unfold Addr.add
 by_cases hu:u=0
 ·subst hu
  by_cases hv:v=0
  ·subst hv; rfl
  ·rw[if_pos rfl,if_neg hv,Nat.zero_add]
 ·by_cases hv:v=0
  ·subst hv; rw[if_pos rfl,if_neg hu,Nat.add_zero]
  ·rw[if_neg hv,if_neg hu]; simp only[Nat.add_assoc]
theorem sS {g:Gh} {w:World} {s n cap:Nat} {a:Option Addr} {base:Nat} {es:List (List PV)} (hl:es.length=n) (hcap:n≤cap)
  (he:∀ e∈es,e.length=s) (hg:∀ A,a=some A→∀ q,g.imm A.block (A.off+q)∨w.heap.size≤A.block)
  (ha:0<n→∃ A,a=some A∧∀ i,i<n→∃ cs,w.cells? base (A.add (i*s)) s=some cs∧aR g w (es.getD i []) cs):Rel g w (.list es .no) (.slice a n cap):=by
 subst hl
 have key:∀ q,q<es.flatten.length→∃ A c,a=some A∧A.spot=none∧g.imm A.block (A.off+q)∧w.cell? (At A q)=some c∧∀ x,es.flatten[q]?=some x→Rel g w x c:=by
  intro q hq
  obtain⟨h1,h2,h3⟩:=ik es he q hq
  obtain⟨A,e,hA⟩:=ha (Nat.lt_of_le_of_lt (Nat.zero_le _) h2)
  obtain⟨cs,k1,k2⟩:=hA (q / s) h2
  obtain⟨k3,k4⟩:=jV k1
  have k5:=k4 (q % s) (Nat.mod_lt _ h3)
  have hoff:q / s*s+q % s=q:=by rw[Nat.mul_comm]; exact Nat.div_add_mod q s
  have hc:(cs[q % s]?).isSome:=by simp[k3,Nat.mod_lt _ h3]
  obtain⟨c,hc⟩:=Option.isSome_iff_exists.1 hc
  rw[hc] at k5
  have hsp:A.spot=none:=by
   obtain⟨cs0,m1,m2⟩:=hA 0 (Nat.lt_of_le_of_lt (Nat.zero_le _) h2)
   obtain⟨m3,m4⟩:=jV m1
   have m5:=m4 0 h3
   have m6:(cs0[0]?).isSome:=by simp[m3,h3]
   obtain⟨c0,m6⟩:=Option.isSome_iff_exists.1 m6
   rw[m6] at m5
   simp only[Nat.zero_mul,Addr.add,if_true] at m5
   exact xX m5
  have hAt:(A.add (q / s*s)).add (q % s)=At A q:=by
   cases A with
   | mk b o sp=>
    simp only at hsp; subst hsp
    rw[add_add,hoff]; rfl
  have k6:=k5
  rw[hAt] at k6
  refine⟨A,c,e,hsp,?_,k6,fun x hx=>?_⟩
  ·rcases hg A e q with h|h
   ·exact h
   ·exact absurd (sZ k6) (by simp only[At]; omega)
  ·rw[h1] at hx
   exact k2.2 _ x c hx hc
 refine .list es .no a cap (fun q=>match a with|some A=>(w.cell? (At A q)).getD default|none=>default) (fun e h e' h'=>(he e h).trans (he e' h').symm) hcap trivial (fun q hq=>?_) (fun q x hx=>?_)
 ·obtain⟨A,c,e,hsp,him,k6,_⟩:=key q hq
  refine⟨A,e,hsp,him,?_⟩
  subst e; simp only[k6,Option.getD_some]
 ·obtain⟨A,c,e,_,_,k6,k7⟩:=key q (List.getElem?_eq_some_iff.1 hx).1
  subst e; simp only[k6,Option.getD_some]
  exact k7 x hx
theorem fK {H:Type} {enc:TypeId×Value→H} {P:Program} {W:World} {base:Nat} {spare:Nat→Bool} {held:Bool}:∀(k n:Nat) (t:TypeId) (cs:List Value) (x:DataW H×List MemPlace),nW P k t=true→
  DataW.trod enc P W base spare held n t cs=some x→∃ xs,aR (gh0 W) W xs cs∧WTp P k t xs
 | 0,_,_,_,_,hf,_=>by simp[nW] at hf
 | k+1,n,t,cs,x,hf,h=>by
  unfold nW at hf
  unfold WTp
  cases hu:P.underlying t with
  | none=>rw[hu] at hf; simp at hf
  | some ty=>
   rw[hu] at hf
   cases ty with
   | bool=>
    obtain⟨b,rfl,_⟩:=DataW.trod_bool hu h
    exact⟨[.bool b],.cons (.bool b) .nil,b,rfl⟩
   | int kd=>
    obtain⟨m,rfl,_,hw⟩:=DataW.trod_int hu h
    simp only[Lit.wf,Bool.and_eq_true,decide_eq_true_eq] at hw
    exact⟨[.int _ m],.cons (.int _ m) .nil,m,rfl,hw⟩
   | string=>
    obtain⟨s,rfl,_,hs⟩:=DataW.trod_string hu h
    exact⟨[.str s],.cons (.str s) .nil,s,rfl,hs⟩
   | slice e=>
    simp only at hf
    rcases DataW.trod_slice hu h with⟨rfl,_⟩|⟨a,len,cap,elems,rest,m,rfl,rfl,_,_,hl,hm,he,hi,_⟩
    ·refine⟨[.list [] .no],.cons (.list [] .no none 0 (fun _=> .nilIface) (fun e he=>by simp at he) (Nat.le_refl _) trivial (fun q hq=>by simp at hq) (fun q x hx=>by simp at hx)) .nil,[],rfl,Nat.zero_le _,fun r hr=>by simp at hr⟩
    ·have hr:∀ i,i<len→∃ cs xs,W.cells? base (a.add (i*P.cellsOf e)) (P.cellsOf e)=some cs∧aR (gh0 W) W xs cs∧WTp P k e xs:=by
      intro i hlt
      have h1:=hi i hlt
      rw[List.getElem?_eq_getElem (by omega)] at h1
      obtain⟨cs,h2,h3⟩:=Option.bind_eq_some_iff.1 h1
      obtain⟨xs,h4,h5⟩:=fK k m e cs _ hf h3
      exact⟨cs,xs,h2,h4,h5⟩
     obtain⟨es,e1,e2,e3⟩:=oU a base len hr
     refine⟨[.list es .no],.cons ?_ .nil,es,rfl,by omega,fun r hr=>(e2 r hr).2⟩
     refine sS (s:=P.cellsOf e) (base:=base) e1 hl (fun e he=>(e2 e he).1) (fun A hA q=>?_) (fun _=>⟨a,rfl,e3⟩)
     show A.block<W.heap.size∨_
     omega
   | struct fs=>
    simp only[Bool.and_eq_true,List.all_eq_true] at hf
    obtain⟨xs,m,rfl,_,hl,hs,hi⟩:=DataW.trod_struct hu h
    obtain⟨ys,h1,h2⟩:=jw (P:=P) (g:=gh0 W) (w:=W) (R:=WTp P k) fs.toList 0 _ cs hf.1 hl (fun f hmem=>by
     obtain⟨i,hlt,he⟩:=List.getElem_of_mem hmem
     have h1:=hi i f (by rw[← he]; simp)
     have hlt':i<xs.length:=by rw[hs]; simpa using hlt
     rw[List.getElem?_eq_getElem hlt'] at h1
     exact fK k m _ _ _ (hf.2 f hmem) h1) (Nat.zero_le _)
    exact⟨ys,by simpa using h1,h2⟩
   | array c e=>
    simp only[Bool.and_eq_true,beq_iff_eq] at hf
    obtain⟨xs,m,rfl,_,hl,hs,hi⟩:=DataW.trod_array hu h
    exact ld (s:=P.cellsOf e) c cs (by rw[hl,hf.1]) (fun i hlt=>by
     have h1:=hi i hlt
     rw[List.getElem?_eq_getElem (by omega)] at h1
     exact fK k m _ _ _ hf.2 h1)
   | _=>simp at hf
end Go.AM

namespace Go.AM
open Go Go.RowKit
def WTa (P:Program) (k:Nat) (t:TypeId) (x:PV):Prop:=
 match P.underlying t with
 | some (.struct _)|some (.array _ _)=>∃ cs,x = .agg cs∧WTp P k t cs
 | _=>WTp P k t [x]
def qg (P:Program) (k:Nat):List TypeId→List PV→Prop
 | [],xs=>xs=[]
 | t::ts,xs=>∃ x xs',xs=x::xs'∧WTa P k t x∧qg P k ts xs'
theorem Ki {H:Type} {enc:TypeId×Value→H} {P:Program} {W:World} {base b0:Nat} {r:Reach} {spare:Nat→Bool} {held:Bool} {k:Nat} {t:TypeId} {v:Value} {d:DataW H} {ps:List MemPlace}
  (hf:nW P k t=true) (hval:Value.okWide P W r b0 t v) (h:DataW.Trod enc P W base spare held t v d ps):∃ x,Rel (gh0 W) W x v∧WTa P k t x:=by
 obtain⟨n,h⟩:=h
 obtain⟨xs,hx,hw⟩:=fK k n t _ _ hf h
 have one:∀ {v':Value},v=v'→v'.cells.toList=[v']→(∀ y,xs=[y]→WTa P k t y)→∃ x,Rel (gh0 W) W x v∧WTa P k t x:=by
  intro v' e hc hwt
  subst e
  rw[hc] at hx
  obtain⟨y,rfl⟩:=List.length_eq_one_iff.1 hx.1
  exact⟨y,hx.2 0 y v rfl rfl,hwt y rfl⟩
 cases k with
 | zero=>simp[nW] at hf
 | succ k=>
  unfold nW at hf
  unfold Value.okWide at hval
  cases hu:P.underlying t with
  | none=>rw[hu] at hf; simp at hf
  | some ty=>
   rw[hu] at hf hval
   have hwta:∀ y,xs=[y]→(∀ fs,ty ≠ .struct fs)→(∀ n e,ty ≠ .array n e)→WTa P (k+1) t y:=by
    intro y e h1 h2
    subst e
    unfold WTa
    rw[hu]
    cases ty<;>first|exact hw|exact absurd rfl (h1 _)|exact absurd rfl (h2 _ _)
   have agg:∀ cs,v = .agg cs→(∀ y,WTp P (k+1) t y→WTa P (k+1) t (.agg y))→∃ x,Rel (gh0 W) W x v∧WTa P (k+1) t x:=by
    intro cs e hy
    subst e
    exact⟨.agg xs,Rel.bP.2 ⟨cs,rfl,hx⟩,hy _ hw⟩
   cases ty with
   | bool=>
    obtain⟨b,e⟩:=WideShapes.okWide_bool hu (by unfold Value.okWide; rw[hu]; exact hval)
    exact one e rfl fun y hy=>hwta y hy (fun _ h=>by cases h) (fun _ _ h=>by cases h)
   | int kd=>
    obtain⟨b,e⟩:=WideShapes.okWide_int hu (by unfold Value.okWide; rw[hu]; exact hval)
    exact one e rfl fun y hy=>hwta y hy (fun _ h=>by cases h) (fun _ _ h=>by cases h)
   | string=>
    obtain⟨b,e⟩:=WideShapes.okWide_string hu (by unfold Value.okWide; rw[hu]; exact hval)
    exact one e rfl fun y hy=>hwta y hy (fun _ h=>by cases h) (fun _ _ h=>by cases h)
   | slice e'=>
    obtain⟨a,l,c,e⟩:=WideShapes.okWide_slice hu (by unfold Value.okWide; rw[hu]; exact hval)
    exact one e rfl fun y hy=>hwta y hy (fun _ h=>by cases h) (fun _ _ h=>by cases h)
   | struct fs=>
    obtain⟨cs,e,_⟩:=hval
    exact agg cs e fun y hy=>by unfold WTa; rw[hu]; exact⟨y,rfl,hy⟩
   | array m e'=>
    obtain⟨cs,e,_⟩:=hval
    exact agg cs e fun y hy=>by unfold WTa; rw[hu]; exact⟨y,rfl,hy⟩
   | _=>simp at hf
theorem vn {H:Type} {enc:TypeId×Value→H} {P:Program} {W:World} {base b0:Nat} {r:Reach} {spare:Nat→Bool} {held:Bool} {k:Nat}:∀ {ts:List TypeId} {vs:List Value} {ds:List (DataW H)} {ps:List MemPlace},
  ts.all (nW P k)=true→(∀(j:Nat) t v,ts[j]?=some t→vs[j]?=some v→Value.okWide P W r b0 t v)→DataW.TrodAll enc P W base spare held ts vs ds ps→
  ∃ xs,aR (gh0 W) W xs vs∧qg P k ts xs
 | [],[],[],_,_,_,_=>⟨[],.nil,rfl⟩
 | t::ts,v::vs,d::ds,ps,hf,hval,⟨p,q,h1,h2,_⟩=>by
  simp only[List.all_cons,Bool.and_eq_true] at hf
  obtain⟨x,hx,hw⟩:=Ki hf.1 (hval 0 t v rfl rfl) h1
  obtain⟨xs,e1,e2⟩:=vn hf.2 (fun j t v ht hv=>hval (j+1) t v (by simpa using ht) (by simpa using hv)) h2
  exact⟨x::xs,.cons hx e1,x,xs,rfl,hw,e2⟩
 | [],_::_,_,_,_,_,h=>h.elim
 | [],[],_::_,_,_,_,h=>h.elim
 | _::_,[],_,_,_,_,h=>h.elim
 | _::_,_::_,[],_,_,_,h=>h.elim
theorem jr {H:Type} {enc:TypeId×Value→H} {P:Program} (hl:laidOutB P=true) {W W':World} (hb:Below W.heap.size W W'):∀ {ts:List TypeId} {vs:List Value} {ds:List (DataW H)} {ps:List MemPlace},
  ts.all (fun t=>P.readableRec t && decide (t<P.types.size))=true→DataW.TrodAll enc P W 0 (fun _=>true) true ts vs ds ps→DataW.TrodAll enc P W' 0 (fun b=>decide (b<W.heap.size)) true ts vs ds ps
 | [],[],[],_,_,h=>h
 | t::ts,v::vs,d::ds,ps,hf,⟨p,q,h1,h2,h3⟩=>by
  simp only[List.all_cons,Bool.and_eq_true,decide_eq_true_eq] at hf
  refine⟨p,q,Below.trod hl hf.1.1 hf.1.2 h1 hb ?_,jr hl hb hf.2 h2,h3⟩
  obtain⟨m,hm⟩:=h1
  exact DataW.trod_lt m _ _ _ hm
 | [],_::_,_,_,_,h=>h.elim
 | [],[],_::_,_,_,h=>h.elim
 | _::_,[],_,_,_,h=>h.elim
 | _::_,_::_,[],_,_,h=>h.elim
theorem xL {W:World} {gl:aC} (h:∀ k cs,gl k=some cs→∃ vs:List Value,aR (gh0 W) W cs vs∧∀ q,q<vs.length→W.cell? ⟨k,q,none⟩=vs[q]?):cZ (gh0 W) W gl:=by
 intro k cs hk
 obtain⟨vs,h1,h2⟩:=h k cs hk
 refine⟨rfl,fun q x hx=>?_⟩
 obtain⟨v,hv,hr⟩:=h1.get hx
 have hq:=(List.getElem?_eq_some_iff.1 hv).1
 have hc:=h2 q hq
 rw[hv] at hc
 have e:At ⟨k,0,none⟩ q=⟨k,q,none⟩:=by simp[At]
 rw[e]
 exact⟨(sZ (A:=⟨k,q,none⟩) hc:k<W.heap.size),v,hc,hr⟩
theorem mW {P:Program} {gl:aC} {f:FuncId} {xs:List PV} {W:World} {args:Array Value} (hg:cZ (gh0 W) W gl) (hr:aR (gh0 W) W xs args.toList)
  (h:aj P gl f xs [] (fun x _=>x = .bool true)):Calls P f args W fun e W'=>e = .returned (.bool true)∧Below W.heap.size W W':=by
 refine(h (gh0 W) W args (Lg W) hg hr).mono ?_
 rintro e W' ⟨v,g',H',x,rfl,_,hx,hv,rfl⟩
 cases hv
 exact⟨rfl,qd hx⟩
end Go.AM

namespace Go.AM
open Go
inductive Low (n:Nat):PV→Prop where
 | any:Low n .any
 | bool (b:Bool):Low n (.bool b)
 | int (k:IntKind) (m:Int):Low n (.int k m)
 | str (s:ByteArray):Low n (.str s)
 | list (es:List (List PV)) (t:Tail) (ht:∀ o,t = .tok o→o<n) (h:∀ x∈es.flatten,Low n x):Low n (.list es t)
 | arr (o off len cap:Nat) (h:o<n):Low n (.arr o off len cap)
 | ptr (o off:Nat) (h:o<n):Low n (.ptr o off)
 | iptr (cs:List PV) (h:∀ x∈cs,Low n x):Low n (.iptr cs)
 | nilptr:Low n .nilptr
 | nilfn:Low n .nilfn
 | fn (f:Nat) (cs:List PV) (h:∀ x∈cs,Low n x):Low n (.fn f cs)
 | agg (cs:List PV) (h:∀ x∈cs,Low n x):Low n (.agg cs)
 | tup (cs:List PV) (h:∀ x∈cs,Low n x):Low n (.tup cs)
theorem Rel.low {g:Gh} {w:World} {x:PV} {v:Value} (h:Rel g w x v):Low g.n x:=by
 induction h with
 | any v=>exact .any
 | bool b=>exact .bool b
 | int k n=>exact .int k n
 | str s=>exact .str s
 | list es t a cap cv hu hl ht hc hr ih=>
  refine .list es t (fun o e=>by subst e; exact ht.1) fun x hx=>?_
  obtain⟨q,hq⟩:=List.mem_iff_getElem?.1 hx
  exact ih q x hq
 | arr o off len cap ho=>exact .arr o off len cap ho
 | ptr o off ho=>exact .ptr o off ho
 | iptr cs A cv hs hc hr ih=>exact .iptr cs fun x hx=>by obtain⟨q,hq⟩:=List.mem_iff_getElem?.1 hx; exact ih q x hq
 | nilptr=>exact .nilptr
 | nilfn=>exact .nilfn
 | fn f caps vs cv hs hc hr ih=>exact .fn f caps fun x hx=>by obtain⟨q,hq⟩:=List.mem_iff_getElem?.1 hx; exact ih q x hq
 | agg cs vs cv hs hc hr ih=>exact .agg cs fun x hx=>by obtain⟨q,hq⟩:=List.mem_iff_getElem?.1 hx; exact ih q x hq
 | tup cs vs cv hs hc hr ih=>exact .tup cs fun x hx=>by obtain⟨q,hq⟩:=List.mem_iff_getElem?.1 hx; exact ih q x hq
def Gh.cutAt (g:Gh) (n:Nat):Gh:=⟨n,g.bk,g.en,g.sz,g.imm,g.fp⟩
theorem nt (g:Gh) (n:Nat):blk (g.cutAt n)=blk g:=by funext ob o b; cases ob<;>rfl
theorem Rel.cutAt {g:Gh} {w:World} {x:PV} {v:Value} {n:Nat} (h:Rel g w x v) (hl:Low n x):Rel (g.cutAt n) w x v:=by
 induction h with
 | any v=>exact .any v
 | bool b=>exact .bool b
 | int k n=>exact .int k n
 | str s=>exact .str s
 | list es t a cap cv hu hle ht hc hr ih=>
  cases hl with
  | list _ _ h1 h2=>
   refine .list es t a cap cv hu hle ?_ hc fun q x hq=>ih q x hq (h2 x (List.mem_iff_getElem?.2 ⟨q,hq⟩))
   cases t with
   | no=>trivial
   | exact=>exact ht
   | tok o=>exact⟨h1 o rfl,ht.2⟩
 | arr o off len cap ho=>cases hl with|arr _ _ _ _ h=>exact .arr (g:=g.cutAt n) o off len cap h
 | ptr o off ho=>cases hl with|ptr _ _ h=>exact .ptr (g:=g.cutAt n) o off h
 | iptr cs A cv hs hc hr ih=>cases hl with|iptr _ h=>exact .iptr cs A cv hs hc fun q x hq=>ih q x hq (h x (List.mem_iff_getElem?.2 ⟨q,hq⟩))
 | nilptr=>exact .nilptr
 | nilfn=>exact .nilfn
 | fn f caps vs cv hs hc hr ih=>cases hl with|fn _ _ h=>exact .fn f caps vs cv hs hc fun q x hq=>ih q x hq (h x (List.mem_iff_getElem?.2 ⟨q,hq⟩))
 | agg cs vs cv hs hc hr ih=>cases hl with|agg _ h=>exact .agg cs vs cv hs hc fun q x hq=>ih q x hq (h x (List.mem_iff_getElem?.2 ⟨q,hq⟩))
 | tup cs vs cv hs hc hr ih=>cases hl with|tup _ h=>exact .tup cs vs cv hs hc fun q x hq=>ih q x hq (h x (List.mem_iff_getElem?.2 ⟨q,hq⟩))
theorem cY {α:Type} {l r:List α} {o:Nat} {x:α} (h:l[o]?=some x):(l++r)[o]?=some x:=by
 rw[List.getElem?_append_left (List.getElem?_eq_some_iff.1 h).1]; exact h
theorem aj.forget {P:Program} {gl:aC} {f:FuncId} {args:List PV} {H:ae} {K K':PV→ae→Prop} (h:aj P gl f args H K)
  (hK:∀ x H',K x H'→∃ H1 E,H'=H1++E∧H1.length=H.length∧Low H.length x∧(∀(o:Nat) cs,H1[o]?=some (.cells cs)→H[o]?=some (.cells cs)∨∀ x∈cs,Low H.length x)∧K' x H1):aj P gl f args H K':=by
 intro g w vs hS hG hR
 refine(h g w vs hS hG hR).mono ?_
 rintro e w' ⟨v,g',H',x,rfl,hS',hX,hr,hk⟩
 obtain⟨H1,E,rfl,hlen,hlow,hc,hk'⟩:=hK x H' hk
 refine⟨v,g'.cutAt H.length,H1,x,rfl,?_,?_,hr.cutAt hlow,hk'⟩
 ·refine⟨hlen.symm,fun o o' ob ob' b h1 h2=>by rw[nt]; exact hS'.inj o o' ob ob' b (cY h1) (cY h2),fun o cs h1=>?_,fun o h1=>hS'.tok o (cY h1),hS'.imm,fun o r h1=>hS'.abs o r (cY h1)⟩
  obtain⟨⟨C,ty,e1,e2⟩,e3⟩:=hS'.cells o cs (cY h1)
  refine⟨⟨C,ty,e1,e2.1,fun q y u hy hu=>(e2.2 q y u hy hu).cutAt ?_⟩,e3⟩
  rcases hc o cs h1 with h2|h2
  ·obtain⟨⟨C0,ty0,k1,k2⟩,_⟩:=hS.cells o cs h2
   obtain⟨u0,_,k3⟩:=k2.get hy
   have:=k3.low
   rwa [hS.n] at this
  ·exact h2 y (List.mem_iff_getElem?.2 ⟨q,hy⟩)
 ·have hn:g.n=H.length:=hS.n
  refine⟨⟨Nat.le_of_eq hn,hX.gx.bk,hX.gx.en,hX.gx.sz,hX.gx.imm,hX.gx.cell⟩,hX.size,fun b hb ho=>?_,hX.frame,hX.os,hX.tape,hX.output,hX.im⟩
  obtain⟨o,ob,k1,k2,k3⟩:=ho
  rw[nt] at k3
  exact hX.ow b hb ⟨o,ob,cY k1,k2,k3⟩
theorem aj.same {P:Program} {gl:aC} {f:FuncId} {args:List PV} {H:ae} {r:PV} (hr:Low H.length r) (h:aj P gl f args H (fun x H'=>x=r∧∃ E,H'=H++E)):aj P gl f args H (fun x H'=>x=r∧H'=H):=
 h.forget fun _ _ ⟨e,E,e1⟩=>⟨H,E,e1,rfl,e▸hr,fun _ _ ho=> .inl ho,e,rfl⟩
theorem Low.up {x:PV} {n:Nat} (hx:Low 0 x):Low n x:=by
 induction hx with
 | any=>exact .any
 | bool b=>exact .bool b
 | int k m=>exact .int k m
 | str s=>exact .str s
 | list es t ht h ih=>exact .list es t (fun o e=>absurd (ht o e) (Nat.not_lt_zero _)) ih
 | arr o off len cap h=>exact absurd h (Nat.not_lt_zero _)
 | ptr o off h=>exact absurd h (Nat.not_lt_zero _)
 | iptr cs h ih=>exact .iptr cs ih
 | nilptr=>exact .nilptr
 | nilfn=>exact .nilfn
 | fn f cs h ih=>exact .fn f cs ih
 | agg cs h ih=>exact .agg cs ih
 | tup cs h ih=>exact .tup cs ih
def aU (gl:aC):Prop:=∀ k cs,gl k=some cs→∀ x∈cs,Low 0 x
theorem ix.alone {P:Program} {gl:aC} {f:FuncId} {args:List PV} {r:PV} (hgl:aU gl) (ha:∀ x∈args,Low 0 x) (hr:Low 0 r) (h:aj P gl f args [] (fun x _=>x=r)):ix P gl f args r:=by
 intro H g w vs hS hG hR
 have hS0:Sim (g.cutAt 0) [] w:=⟨rfl,fun o _ _ _ _ h=>by simp at h,fun o cs h=>by simp at h,fun o h=>by simp at h,hS.imm,fun o r h=>by simp at h⟩
 have hG0:cZ (g.cutAt 0) w gl:=fun k cs hk=>by
  refine⟨(hG k cs hk).1,fun q x hx=>?_⟩
  obtain⟨h1,c,h2,h3⟩:=(hG k cs hk).2 q x hx
  exact⟨h1,c,h2,h3.cutAt (hgl k cs hk x (List.mem_iff_getElem?.2 ⟨q,hx⟩))⟩
 have hR0:aR (g.cutAt 0) w args vs.toList:=⟨hR.1,fun q x v hx hv=>(hR.2 q x v hx hv).cutAt (ha x (List.mem_iff_getElem?.2 ⟨q,hx⟩))⟩
 refine(h _ w vs hS0 hG0 hR0).mono ?_
 rintro e w' ⟨v,g',H',x,rfl,hS',hX,hv,rfl⟩
 have noOwn:∀ b,¬ own (g.cutAt 0) [] b:=fun b ⟨o,ob,ho,_⟩=>by simp at ho
 let g2:Gh:=⟨g.n,g.bk,g.en,g.sz,fun b q=>g.imm b q∨(w.heap.size≤b∧g'.imm b q),g.fp⟩
 have hb2:blk g2=blk g:=by funext ob o b; cases ob<;>rfl
 have himm:∀ b q,g'.imm b q→g2.imm b q:=fun b q hi=>by
  rcases Nat.lt_or_ge b w.heap.size with hb|hb
  ·rcases hX.im b q hb hi with h1|h1
   ·exact .inl h1
   ·exact absurd h1 (noOwn b)
  ·exact .inr ⟨hb,hi⟩
 have hgx:bL g w g2 w':=⟨Nat.le_refl _,fun _ _=>rfl,fun _ _=>rfl,fun _ _=>rfl,fun _ _ h=> .inl h,hX.gx.cell⟩
 have hblk:∀(o:Nat) (ob:Ob) (b:Nat),H[o]?=some ob→ob.alive=true→blk g ob o b→w'.heap[b]?=w.heap[b]?∧b<w.heap.size:=fun o ob b ho hal hb=>by
  have hlt:=dM hS ⟨o,ob,ho,hal,hb⟩
  exact⟨hX.frame _ hlt (noOwn _),hlt⟩
 refine⟨v,g2,H,x,rfl,?_,?_,?_,rfl,rfl⟩
 ·refine⟨hS.n,by rw[hb2]; exact hS.inj,fun o cs ho=>?_,fun o ho=>?_,fun b q hi=>?_,fun o r ho=>?_⟩
  ·obtain⟨⟨C,ty,h1,h2⟩,h3⟩:=hS.cells o cs ho
   obtain⟨h4,h5⟩:=hblk o _ _ ho rfl rfl
   refine⟨⟨C,ty,h4.trans h1,h2.mono hgx⟩,fun q hq=>?_⟩
   rcases hq with hq|hq
   ·exact h3 q hq
   ·exact absurd h5 (Nat.not_lt.2 hq.1)
  ·obtain⟨⟨C,ty,h1,h2⟩,h3⟩:=hS.tok o ho
   obtain⟨h4,h5⟩:=hblk o _ _ ho rfl rfl
   refine⟨⟨C,ty,h4.trans h1,h2⟩,fun q hq hi=>?_⟩
   rcases hi with hi|hi
   ·exact h3 q hq hi
   ·exact absurd h5 (Nat.not_lt.2 hi.1)
  ·rcases hi with hi|hi
   ·exact Nat.lt_of_lt_of_le (hS.imm b q hi) hX.size
   ·exact hS'.imm b q hi.2
  ·have h2:=(hS.abs o r ho).2.2
   refine hS.dJ ho hgx rfl (fun _=>Iff.rfl) (fun b hb=>(hblk o _ b ho rfl hb).1) ?_ hX.size ?_
   ·rintro b q hb (hi|hi)
    ·exact(h2 b hb).2 q hi
    ·exact absurd (h2 b hb).1 (Nat.not_lt.2 hi.1)
   ·rintro b q (hi|hi)
    ·exact Nat.lt_of_lt_of_le (hS.imm b q hi) hX.size
    ·exact hS'.imm b q hi.2
 ·exact⟨hgx,hX.size,fun b _ ⟨o,ob,k1,k2,k3⟩=>⟨o,ob,k1,k2,by rw[hb2] at k3; exact k3⟩,fun b hb _=>hX.frame b hb (noOwn b),hX.os,hX.tape,hX.output,
   fun b q hb hi=>hi.elim .inl fun k=>absurd hb (Nat.not_lt.2 k.1)⟩
 ·exact Rel.mono (g:=g'.cutAt 0) (g':=g2) (w:=w') ⟨Nat.zero_le _,fun o ho=>absurd ho (Nat.not_lt_zero _),fun o ho=>absurd ho (Nat.not_lt_zero _),fun o ho=>absurd ho (Nat.not_lt_zero _),himm,fun _ _ _=>rfl⟩ (hv.cutAt hr)
end Go.AM

namespace Go.AM
open Go
def br (b:Bool) (X Y:Prop):Prop:=match b with
 | true=>X
 | false=>Y
theorem uv {b:Bool} {X Y:Prop}:br b X Y↔(b=true→X)∧(b=false→Y):=by cases b<;>simp[br]
theorem bc {b:Bool} {X:Prop} (h:br b X False):b=true∧X:=by cases b<;>simp_all [br]
inductive CK where
 | int (k:IntKind)
 | bool
 | str
 | list
 | raw
def cI (xs:List PV) (i:Nat):Int:=match xs[i]? with|some (.int _ n)=>n|_=>0
def cB (xs:List PV) (i:Nat):Bool:=match xs[i]? with|some (.bool b)=>b|_=>false
def cS (xs:List PV) (i:Nat):ByteArray:=match xs[i]? with|some (.str s)=>s|_=>ByteArray.empty
def cL (xs:List PV) (i:Nat):List (List PV):=match xs[i]? with|some (.list es _)=>es|_=>[]
def cT (xs:List PV) (i:Nat):Tail:=match xs[i]? with|some (.list _ t)=>t|_=> .no
def cR (xs:List PV) (i:Nat):PV:=match xs[i]? with|some x=>x|none=> .any
def mE:CK→List PV→Nat→PV
 | .int k,xs,i=> .int k (cI xs i)
 | .bool,xs,i=> .bool (cB xs i)
 | .str,xs,i=> .str (cS xs i)
 | .list,xs,i=> .list (cL xs i) (cT xs i)
 | .raw,xs,i=>cR xs i
def BN:CK→Option PV→Bool
 | .int k,some (.int k' _)=>k == k'
 | .bool,some (.bool _)=>true
 | .str,some (.str _)=>true
 | .list,some (.list _ _)=>true
 | .raw,some _=>true
 | _,_=>false
theorem Bu {c:CK} {xs:List PV} {i:Nat} (h:BN c xs[i]?=true):xs[i]?=some (mE c xs i):=by
 cases hx:xs[i]? with
 | none=>rw[hx] at h; cases c<;>cases h
 | some x=>
  rw[hx] at h
  cases c with
  | raw=>simp only[mE,cR,hx]
  | int k=>cases x<;>first|(cases h; done)|(simp only[BN,beq_iff_eq] at h; subst h; simp only[mE,cI,hx])
  | bool=>cases x<;>first|(cases h; done)|simp only[mE,cB,hx]
  | str=>cases x<;>first|(cases h; done)|simp only[mE,cS,hx]
  | list=>cases x<;>first|(cases h; done)|simp only[mE,cL,cT,hx]
def pQ:List CK→Nat→List PV→List PV
 | [],_,_=>[]
 | c::cs,i,xs=>mE c xs i::pQ cs (i+1) xs
def aP:List CK→Nat→List PV→Bool
 | [],_,_=>true
 | c::cs,i,xs=>BN c xs[i]? && aP cs (i+1) xs
theorem r6:∀(cs:List CK) (i:Nat) (xs:List PV),aP cs i xs=true→pQ cs i xs=(xs.drop i).take cs.length∧(cs≠[]→i+cs.length≤xs.length)
 | [],i,xs,_=>⟨by simp[pQ],fun h=>absurd rfl h⟩
 | c::cs,i,xs,h=>by
  simp only[aP,Bool.and_eq_true] at h
  have h1:=Bu h.1
  have hi:i<xs.length:=(List.getElem?_eq_some_iff.1 h1).1
  obtain⟨h2,h3⟩:=r6 cs (i+1) xs h.2
  have hd:xs.drop i=mE c xs i::xs.drop (i+1):=by
   rw[List.drop_eq_getElem_cons hi]
   congr 1
   exact(List.getElem?_eq_some_iff.1 h1).2
  refine⟨?_,fun _=>?_⟩
  ·rw[pQ,h2,hd,List.length_cons,List.take_succ_cons]
  ·by_cases hc:cs=[]
   ·subst hc; simp; omega
   ·have:=h3 hc; simp; omega
def ckT (P:Program):Nat→TypeId→List CK
 | 0,t=>match tyA P t with
  | some (_,sz)=>List.replicate sz .raw
  | none=>[]
 | k+1,t=>match P.underlying t with
  | some .bool=>[.bool]
  | some (.int kd)=>[.int kd]
  | some .string=>[.str]
  | some (.slice _)=>[.list]
  | some (.struct fs)=>(fs.toList.map fun f=>ckT P k f.type).flatten
  | some (.array n e)=>(List.replicate n (ckT P k e)).flatten
  | _=>match tyA P t with
   | some (_,sz)=>List.replicate sz .raw
   | none=>[]
def Ee (B:Bool→Prop→Prop→Prop) (P:Program) (t:TypeId) (m:Nat) (cs:List PV) (K:PV→Prop):Prop:=
 match tyA P t with
 | some (b,sz)=>match m with
  | 0=>B ((ckT P 6 t).length == sz && (b || sz == 1) && aP (ckT P 6 t) 0 cs) (K (match b with|true=> .agg (pQ (ckT P 6 t) 0 cs)|false=>match pQ (ckT P 6 t) 0 cs with|x::_=>x|[]=> .any)) False
  | 901=>match b,sz with
   | false,1=>B (Nat.blt 0 cs.length) (∀ x:PV,x=cR cs 0→K x) False
   | _,_=>False
  | _=>match eH b sz cs with
   | some y=>K y
   | none=>False
 | none=>False
theorem ru {P:Program} {t:TypeId} {m:Nat} {cs:List PV} {K:PV→Prop} (h:Ee br P t m cs K):∃ b sz y,tyA P t=some (b,sz)∧eH b sz cs=some y∧K y:=by
 unfold Ee at h
 cases ht:tyA P t with
 | none=>rw[ht] at h; exact h.elim
 | some p=>
  obtain⟨b,sz⟩:=p
  rw[ht] at h
  simp only at h
  split at h
  ·obtain⟨hc,hk⟩:=bc h
   simp only[Bool.and_eq_true,beq_iff_eq,Bool.or_eq_true] at hc
   obtain⟨⟨h1,h2⟩,h3⟩:=hc
   obtain⟨h4,h5⟩:=r6 _ _ _ h3
   refine⟨b,sz,_,rfl,?_,hk⟩
   unfold eH
   cases b with
   | true=>
    have:sz≤cs.length:=by
     by_cases hn:ckT P 6 t=[]
     ·rw[hn] at h1; simp at h1; omega
     ·have:=h5 hn; omega
    simp only[if_true,if_pos this,h4,List.drop_zero,h1]
   | false=>
    have hs:sz=1:=by simpa using h2
    subst hs
    have hn:ckT P 6 t≠[]:=fun e=>by rw[e] at h1; simp at h1
    have:=h5 hn
    rw[h4,List.drop_zero,h1]
    cases cs with
    | nil=>simp[h1] at this
    | cons x cs=>rfl
  ·split at h
   ·obtain⟨h1,h2⟩:=bc h
    refine⟨_,_,cR cs 0,rfl,?_,h2 _ rfl⟩
    cases cs with
    | nil=>simp at h1
    | cons x cs=>rfl
   ·exact h.elim
  ·cases hl:eH b sz cs with
   | none=>rw[hl] at h; exact h.elim
   | some y=>rw[hl] at h; exact⟨b,sz,y,rfl,hl,h⟩
end Go.AM

namespace Go.AM
open Go
def q5 (P:Program) (t:TypeId):Bool:=match P.underlying t with|some .bool=>true|_=>false
def oZ (P:Program) (t:TypeId):Bool:=match P.underlying t with|some (.pointer _)=>true|_=>false
def rX (P:Program) (t:TypeId):Bool:=match P.underlying t with|some (.slice _)=>true|_=>false
theorem tD {P:Program} {t:TypeId} (h:q5 P t=true):P.underlying t=some .bool:=by
 unfold q5 at h; split at h
 ·assumption
 ·cases h
theorem lQ {P:Program} {t:TypeId} (h:oZ P t=true):∃ e,P.underlying t=some (.pointer e):=by
 unfold oZ at h; split at h
 ·rename_i e he; exact⟨e,he⟩
 ·cases h
theorem nR {P:Program} {t:TypeId} (h:rX P t=true):∃ e,P.underlying t=some (.slice e):=by
 unfold rX at h; split at h
 ·rename_i e he; exact⟨e,he⟩
 ·cases h
def Hg (P:Program) (t:TypeId) (xs:List PV):Bool:=
 !P.eqGuardType P.depth t && (jt P 20 t == some xs.length) && (match tyA P t with|some (true,n)=>n == xs.length|_=>false) && tL P 20 t xs
section
variable (B:Bool→Prop→Prop→Prop)
def JN (op:BinOp) (k:IntKind) (a:Int) (k':IntKind) (b:Int) (K:PV→Prop):Prop:=
 match op with
 | .add=>B (k == k') (K (.int k (k.wrap (a+b)))) False
 | .sub=>B (k == k') (K (.int k (k.wrap (a-b)))) False
 | .mul=>B (k == k') (K (.int k (k.wrap (a*b)))) False
 | .quo=>B (k == k') (B (b != 0) (K (.int k (k.wrap (a.tdiv b)))) False) False
 | .rem=>B (k == k') (B (b != 0) (K (.int k (a.tmod b))) False) False
 | .and=>B (k == k') (K (.int k (k.wrap (BitVec.ofInt k.bits a &&& BitVec.ofInt k.bits b).toNat))) False
 | .or=>B (k == k') (K (.int k (k.wrap (BitVec.ofInt k.bits a ||| BitVec.ofInt k.bits b).toNat))) False
 | .xor=>B (k == k') (K (.int k (k.wrap (BitVec.ofInt k.bits a ^^^ BitVec.ofInt k.bits b).toNat))) False
 | .andNot=>B (k == k') (K (.int k (k.wrap (BitVec.ofInt k.bits a &&& ~~~ BitVec.ofInt k.bits b).toNat))) False
 | .shl=>B (decide (0≤b)) (K (.int k (k.wrap (a*2 ^ (min b.toNat k.bits))))) False
 | .shr=>B (decide (0≤b)) (K (.int k (a.fdiv (2 ^ (min b.toNat k.bits))))) False
 | .eql=>B (k == k') (K (.bool (a == b))) False
 | .neq=>B (k == k') (K (.bool (a != b))) False
 | .lss=>B (k == k') (K (.bool (decide (a<b)))) False
 | .leq=>B (k == k') (K (.bool (decide (a≤b)))) False
 | .gtr=>B (k == k') (K (.bool (decide (a>b)))) False
 | .geq=>B (k == k') (K (.bool (decide (a≥b)))) False
def Ju (P:Program) (op:BinOp) (t:TypeId) (x y:PV) (K:PV→Prop):Prop:=
 match x,y with
 | .int k a,.int k' b=>JN B op k a k' b K
 | .str a,.str b=>match op with
  | .eql=>K (.bool (a == b))
  | .neq=>K (.bool (a != b))
  | _=>False
 | .bool a,.bool b=>B (q5 P t) (match op with
  | .eql=>K (.bool (a == b))
  | .neq=>K (.bool (a != b))
  | _=>False) False
 | .nilptr,.nilptr=>B (oZ P t) (match op with
  | .eql=>K (.bool true)
  | .neq=>K (.bool false)
  | _=>False) False
 | .ptr _ _,.nilptr=>B (oZ P t) (match op with
  | .eql=>K (.bool false)
  | .neq=>K (.bool true)
  | _=>False) False
 | .iptr _,.nilptr=>B (oZ P t) (match op with
  | .eql=>K (.bool false)
  | .neq=>K (.bool true)
  | _=>False) False
 | .agg xs,.agg ys=>B (Hg P t xs) (match cD xs ys with
  | some r=>(match op with
   | .eql=>K (.bool r)
   | .neq=>K (.bool (!r))
   | _=>False)
  | none=>False) False
 | _,_=>False
def Kw (P:Program) (op:BinOp) (t:TypeId) (x:PV) (K:PV→Prop):Prop:=
 B (rX P t) (match x with
 | .list es _=>(match op with
  | .eql=>∀ b:Bool,(es.flatten≠[]→b=false)→K (.bool b)
  | .neq=>∀ b:Bool,(es.flatten≠[]→b=true)→K (.bool b)
  | _=>False)
 | .arr _ _ _ _=>(match op with
  | .eql=>K (.bool false)
  | .neq=>K (.bool true)
  | _=>False)
 | _=>False) False
end
theorem uw {op:BinOp} {k k':IntKind} {a b:Int} {K:PV→Prop} (h:JN br op k a k' b K):oN op k a k' b K:=by
 cases op<;>simp only[JN] at h<;>simp only[oN]
 case quo=>
  obtain⟨h1,h2⟩:=bc h
  obtain⟨h2,h3⟩:=bc h2
  exact⟨by simpa using h1,by simpa using h2,h3⟩
 case rem=>
  obtain⟨h1,h2⟩:=bc h
  obtain⟨h2,h3⟩:=bc h2
  exact⟨by simpa using h1,by simpa using h2,h3⟩
 all_goals
  obtain⟨h1,h2⟩:=bc h
  exact⟨by simpa using h1,h2⟩
theorem uo {P:Program} {op:BinOp} {t:TypeId} {x y:PV} {K:PV→Prop} (h:Ju br P op t x y K):lO P op t x y K:=by
 unfold Ju at h
 split at h
 ·exact uw h
 ·exact h
 ·obtain⟨h1,h2⟩:=bc h; exact⟨tD h1,h2⟩
 ·obtain⟨h1,h2⟩:=bc h; exact⟨lQ h1,h2⟩
 ·obtain⟨h1,h2⟩:=bc h; exact⟨lQ h1,h2⟩
 ·obtain⟨h1,h2⟩:=bc h; exact⟨lQ h1,h2⟩
 ·rename_i xs ys
  obtain⟨h1,h2⟩:=bc h
  simp only[Hg,Bool.and_eq_true,beq_iff_eq,Bool.not_eq_true'] at h1
  obtain⟨⟨⟨e1,e2⟩,e3⟩,e4⟩:=h1
  refine⟨e1,e2,?_,e4,h2⟩
  split at e3
  ·rename_i n hn; rw[hn]; simp only[beq_iff_eq] at e3; rw[e3]
  ·cases e3
 ·exact h.elim
theorem uL {P:Program} {op:BinOp} {t:TypeId} {x:PV} {K:PV→Prop} (h:Kw br P op t x K):AC P op t x K:=by
 obtain⟨h1,h2⟩:=bc h
 exact⟨nR h1,h2⟩
def InL (es:List (List PV)) (sz:Nat) (n:Int):Prop:=0≤n∧n.toNat<es.length∧uni sz es∧sz≠0
theorem InL.get {es:List (List PV)} {sz:Nat} {n:Int} (h:InL es sz n):es[n.toNat]?=some (es.getD n.toNat [])∧(es.getD n.toNat []).length=sz:=by
 have h1:=List.getElem?_eq_getElem h.2.1
 have h2:es.getD n.toNat []=es[n.toNat]'h.2.1:=by rw[List.getD_eq_getElem?_getD,h1]; rfl
 rw[h2]
 exact⟨h1,h.2.2.1 _ (List.getElem_mem _)⟩
def szT (P:Program) (t:TypeId):Nat:=match tyA P t with
 | some (_,sz)=>sz
 | none=>0
def opc (B:Bool→Prop→Prop→Prop) (P:Program) (op:Op) (m:Nat) (ρ:Operand→PV) (H:ae) (K:PV→ae→Prop):Prop:=
 match op with
 | .move x=>K (ρ x) H
 | .assign x=>K (ρ x) H
 | .pick c a b=>match ρ c with
  | .bool t=>B t (K (ρ a) H) (K (ρ b) H)
  | _=>False
 | .alloc t=>match ef P t with
  | some cs=>K (.ptr H.length 0) (H++[.cells cs])
  | none=>False
 | .box _ x=>match (ρ x).cells with
  | some cs=>K (.ptr H.length 0) (H++[.cells cs])
  | none=>False
 | .build t parts=>match qN P t (parts.toList.map fun p=>(p.1,ρ p.2)) with
  | some cs=>K (.agg cs) H
  | none=>False
 | .buildSlice t len parts=>match elA P t with
  | some (none,_,sz,_,et)=>match ef P et with
   | some z=>B (z.length == sz && sz != 0 && decide (len*sz≤16777216)) (match l7 sz (List.replicate len z) (parts.toList.map fun p=>(p.1,ρ p.2)) with
    | some es=>K (.list es .exact) H
    | none=>False) False
   | none=>False
  | _=>False
 | .load t a=>match behind H (ρ a) with
  | some cs=>Ee B P t (match m with|900=>0|m=>m) cs fun y=>match m with
   | 0=>K y H
   | _=>B (tf m (ρ a) (szT P t)) (K y H) False
  | none=>False
 | .store t a x=>match ρ a,tyA P t,(ρ x).cells with
  | .ptr o off,some (_,sz),some xs=>match H[o]? with
   | some (.cells cs)=>B (xs.length == sz && xs.all PV.one && decide (off+sz≤cs.length) && cE m o off sz) (K (.tup []) (H.set o (.cells (over cs off xs)))) False
   | _=>False
  | _,_,_=>False
 | .nilCheck x=>match ρ x with
  | .ptr o off=>K (.ptr o off) H
  | .iptr cs=>K (.iptr cs) H
  | .fn f caps=>K (.fn f caps) H
  | _=>False
 | .binOp op t x y _=>match dZ y with
  | true=>Kw B P op t (ρ x) (fun z=>K z H)
  | false=>Ju B P op t (ρ x) (ρ y) (fun z=>K z H)
 | .unOp op _ x=>match unA op (ρ x) with
  | some y=>K y H
  | none=>False
 | .convert s d x=>match wi P s d (ρ x) with
  | some y=>K y H
  | none=>False
 | .makeFunc fn first caps=>match fn with
  | .func f=>match first.toList with
   | []=>K (.fn f (caps.toList.map ρ)) H
   | _=>False
  | _=>False
 | .makeSlice t l c=>match elA P t,ρ l,ρ c with
  | some (none,_,sz,by_,et),.int _ l,.int _ c=>match ef P et with
   | some z=>B (z.length == sz && sz != 0) (0≤l∧l≤c∧c≤140737488355328∧c*by_≤140737488355328∧K (.arr H.length 0 l.toNat c.toNat) (H++[.cells (List.replicate c.toNat z).flatten])) False
   | none=>False
  | _,_,_=>False
 | .slice t x lo hi mx=>match elA P t,ρ x with
  | some (none,_,sz,_,_),.list es tl=>match bnd 0 (lo.map ρ),bnd es.length (hi.map ρ),bnd es.length (mx.map ρ) with
   | some l,some h,some m=>(0≤l∧l≤h∧h≤m∧m≤es.length∧uni sz es)∧B (hi.isSome || mx.isNone) (K (.list ((es.take h.toNat).drop l.toNat) (gu tl (lo.map ρ) (hi.map ρ) (mx.map ρ) h m)) H) False
   | _,_,_=>False
  | some (none,_,sz,_,_),.arr o off len cap=>match bnd 0 (lo.map ρ),bnd len (hi.map ρ),bnd cap (mx.map ρ) with
   | some l,some h,some m=>(0≤l∧l≤h∧h≤m∧m≤cap)∧B (hi.isSome || mx.isNone) (K (.arr o (if m.toNat=l.toNat then off else off+l.toNat*sz) (h.toNat-l.toNat) (m.toNat-l.toNat)) H) False
   | _,_,_=>False
  | _,_=>False
 | .fieldAddr s x f=>match sj P s f with
  | some (off,_,_)=>match iG off (ρ x) with
   | some y=>K y H
   | none=>False
  | none=>False
 | .field s x f=>match sj P s f,ρ x with
  | some (off,b,sz),.agg cs=>match my b off sz cs with
   | some y=>K y H
   | none=>False
  | _,_=>False
 | .indexAddr t x i=>match elA P t,ρ i with
  | some (none,_,sz,_,_),.int _ n=>match ρ x with
   | .list es _=>InL es sz n∧K (.iptr (es.getD n.toNat [])) H
   | .arr o off len _=>(0≤n∧n<len)∧K (.ptr o (off+n.toNat*sz)) H
   | _=>False
  | some (some m,_,sz,_,_),.int _ n=>B (decide (0≤n) && decide (n<m)) (match iG (n.toNat*sz) (ρ x) with
   | some y=>K y H
   | none=>False) False
  | _,_=>False
 | .index t x i=>match elA P t,ρ x,ρ i with
  | some (some m,b,sz,_,_),.agg cs,.int _ n=>B (decide (0≤n) && decide (n<m)) (match my b (n.toNat*sz) sz cs with
   | some y=>K y H
   | none=>False) False
  | _,_,_=>False
 | .extract t i=>match ρ t with
  | .tup vs=>match vs[i]? with
   | some y=>K y H
   | none=>False
  | _=>False
 | _=>False
theorem pF {P:Program} {gl:aC} {op:Op} {m:Nat} {ρ:Operand→PV} {H:ae} {K:PV→ae→Prop} (h:opc br P op m ρ H K):opw P gl op m ρ H K∧m8 P gl op m ρ H K:=by
 have main:∀ {op:Op},opc br P op m ρ H K→opw P gl op m ρ H K:=by
  intro op h
  cases op<;>try exact h
  case pick c a b=>
   simp only[opc] at h
   simp only[opw]
   split at h
   ·rename_i t ht; rw[ht]; simp only
    cases t
    ·exact h
    ·exact h
   ·exact h.elim
  case buildSlice t len parts=>
   simp only[opc] at h
   simp only[opw]
   split at h
   ·rename_i he; rw[he]; simp only
    split at h
    ·rename_i hz; rw[hz]; simp only
     obtain⟨h1,h2⟩:=bc h
     simp only[Bool.and_eq_true,beq_iff_eq,bne_iff_ne,decide_eq_true_eq] at h1
     exact⟨h1.1.1,h1.1.2,h1.2,h2⟩
    ·exact h.elim
   ·exact h.elim
  case load t a=>
   simp only[opc] at h
   simp only[opw]
   split at h
   ·rename_i cs hb
    obtain⟨b,sz,y,h1,h2,h3⟩:=ru h
    have e:szT P t=sz:=by unfold szT; rw[h1]
    rw[hb,h1]; simp only[h2]
    split at h3
    ·exact⟨rfl,h3⟩
    ·obtain⟨h4,h5⟩:=bc h3
     rw[e] at h4
     exact⟨h4,h5⟩
   ·exact h.elim
  case store t a x=>
   simp only[opc] at h
   simp only[opw]
   split at h
   ·rename_i h1 h2 h3; rw[h1,h2,h3]; simp only
    split at h
    ·rename_i h4; rw[h4]; simp only
     obtain⟨h5,h6⟩:=bc h
     simp only[Bool.and_eq_true,beq_iff_eq,decide_eq_true_eq] at h5
     exact⟨h5.1.1.1,h5.1.1.2,⟨h5.1.2,h5.2⟩,h6⟩
    ·exact h.elim
   ·exact h.elim
  case binOp op t x y yt=>
   simp only[opc] at h
   simp only[opw]
   split at h
   ·rename_i hn; rw[if_pos hn]; exact uL h
   ·rename_i hn; rw[if_neg (by rw[hn]; exact Bool.false_ne_true)]; exact uo h
  case makeFunc fn first caps=>
   simp only[opc] at h
   simp only[opw]
   split at h
   ·split at h
    ·rename_i hf; exact⟨by cases first; simp_all,h⟩
    ·exact h.elim
   ·exact h.elim
  case makeSlice t l c=>
   simp only[opc] at h
   simp only[opw]
   split at h
   ·rename_i h1 h2 h3; rw[h1,h2,h3]; simp only
    split at h
    ·rename_i hz; rw[hz]; simp only
     obtain⟨h5,h6⟩:=bc h
     simp only[Bool.and_eq_true,beq_iff_eq,bne_iff_ne] at h5
     exact⟨h5.1,h5.2,h6⟩
    ·exact h.elim
   ·exact h.elim
  case slice t x lo hi mx=>
   simp only[opc] at h
   simp only[opw]
   have hh:∀ {X:Prop},br (hi.isSome || mx.isNone) X False→(hi=none→mx=none)∧X:=by
    intro X hX
    obtain⟨h1,h2⟩:=bc hX
    refine⟨fun e=>?_,h2⟩
    subst e; simpa using h1
   split at h
   ·rename_i h1 h2; rw[h1,h2]; simp only
    split at h
    ·rename_i h3 h4 h5; rw[h3,h4,h5]; simp only
     obtain⟨⟨a1,a2,a3,a4,a5⟩,h7⟩:=h
     obtain⟨h8,h9⟩:=hh h7
     exact⟨a1,a2,a3,a4,h8,a5,h9⟩
    ·exact h.elim
   ·rename_i h1 h2; rw[h1,h2]; simp only
    split at h
    ·rename_i h3 h4 h5; rw[h3,h4,h5]; simp only
     obtain⟨⟨a1,a2,a3,a4⟩,h7⟩:=h
     obtain⟨h8,h9⟩:=hh h7
     exact⟨a1,a2,a3,a4,h8,h9⟩
    ·exact h.elim
   ·exact h.elim
  case indexAddr t x i=>
   simp only[opc] at h
   simp only[opw]
   split at h
   ·rename_i h1 h2; rw[h1,h2]; simp only
    split at h
    ·rename_i h3; rw[h3]; simp only
     obtain⟨h4,h5⟩:=h
     obtain⟨h6,h7⟩:=h4.get
     rw[h6]
     exact⟨h4.1,h7,h4.2.2.2,h5⟩
    ·rename_i h3; rw[h3]; simp only
     exact⟨h.1.1,h.1.2,h.2⟩
    ·exact h.elim
   ·rename_i h1 h2; rw[h1,h2]; simp only
    obtain⟨h5,h6⟩:=bc h
    simp only[Bool.and_eq_true,decide_eq_true_eq] at h5
    exact⟨h5.1,h5.2,h6⟩
   ·exact h.elim
  case index t x i=>
   simp only[opc] at h
   simp only[opw]
   split at h
   ·rename_i h1 h2 h3; rw[h1,h2,h3]; simp only
    obtain⟨h5,h6⟩:=bc h
    simp only[Bool.and_eq_true,decide_eq_true_eq] at h5
    exact⟨h5.1,h5.2,h6⟩
   ·exact h.elim
  all_goals exact h.elim
 refine⟨main h,?_⟩
 cases op<;>first|exact main h|exact h.elim
end Go.AM

namespace Go.AM
open Go
inductive Sp where
 | pure (s:List PV→(PV→Prop)→Prop)
 | read (s:List PV→ae→(PV→Prop)→Prop)
 | heap (s:List PV→ae→(PV→ae→Prop)→Prop)
 | ext (s:List PV→ae→(PV→Prop)→Prop)
 | mk (s:List PV→(List (List PV)→Prop)→Prop)
 | chg (s:List PV→ae→(PV→ae→Prop)→Prop)
def aO (P:Program) (gl:aC) (f:Nat):Sp→Prop
 | .pure s=>∀ args K,s args K→∃ r,ix P gl f args r∧K r
 | .read s=>∀ args H K,s args H K→∃ r,aj P gl f args H (fun x H'=>x=r∧H'=H)∧K r
 | .heap s=>∀ args H K,s args H K→aj P gl f args H K
 | .ext s=>∀ args H K,s args H K→El P f args H (fun x _=>K x)
 | .mk s=>∀ args K,s args K→∃ es,K es∧∀ H,aj P gl f args H (fun x H'=>(es=[]→x = .list [] .exact∧H'=H)∧(es≠[]→x = .list es (.tok H.length)∧H'=H++[.tok]))
 | .chg s=>∀ args H K,s args H K→∃ r H',aj P gl f args H (fun x H1=>x=r∧H1=H')∧K r H'
abbrev Tab:=List (Nat×Sp)
def rz (f:Nat):Tab→Option Sp
 | []=>none
 | (g,s)::T=>match g == f with
  | true=>some s
  | false=>rz f T
def aB (P:Program) (gl:aC) (T:Tab):Prop:=∀ f s,rz f T=some s→aO P gl f s
theorem aB.nil (P:Program) (gl:aC):aB P gl []:=fun f s h=>by simp[rz] at h
theorem aB.cons {P:Program} {gl:aC} {f:Nat} {s:Sp} {T:Tab} (h:aO P gl f s) (hT:aB P gl T):aB P gl ((f,s)::T):=by
 intro g s' hl
 simp only[rz] at hl
 split at hl
 ·rename_i he
  have:f=g:=by simpa using he
  subst this; cases hl; exact h
 ·exact hT g s' hl
def aX (es ys:List (List PV)) (sz by_:Nat):Prop:=uni sz es∧uni sz ys∧(es.length+ys.length)*by_≤140737488355328
def B8 (H:ae) (sz:Nat):PV→Option (Option Prop×List PV×Nat)
 | .list ys _=>some (none,ys.flatten,ys.length)
 | .arr o off len _=>match H[o]? with
  | some (.cells cs)=>some (some (off+len*sz≤cs.length),(cs.drop off).take (len*sz),len)
  | _=>none
 | _=>none
def pre (p:Option Prop) (q:Prop):Prop:=match p with
 | none=>q
 | some p=>p∧q
theorem qw {H:ae} {sz n:Nat} {y:PV} {p:Option Prop} {ys:List PV} {q:Prop} (h:B8 H sz y=some (p,ys,n)) (k:pre p q):lS H sz y=some (ys,n)∧q:=by
 unfold B8 at h
 split at h
 ·cases h; exact⟨rfl,k⟩
 ·rename_i o off len cap
  split at h
  ·rename_i cs ho
   cases h
   refine⟨?_,k.2⟩
   simp only[lS,ho]
   rw[if_pos k.1]
  ·cases h
 ·cases h
def lE (B:Bool→Prop→Prop→Prop) (P:Program) (b:Builtin) (ts:Array TypeId) (args:List PV) (m:Nat) (dr:Bool) (H:ae) (K:PV→ae→Prop):Prop:=
 match b with
 | .len=>match ts[0]?,args with
  | some t,[x]=>match ER P t x with
   | some n=>K (.int .i64 n) H
   | none=>False
  | _,_=>False
 | .cap=>match ts[0]?,args with
  | some t,[.arr _ _ _ cap]=>B (rX P t) (K (.int .i64 cap) H) False
  | some t,[.list es .exact]=>B (rX P t) (K (.int .i64 es.length) H) False
  | _,_=>False
 | .min=>match eI mnI args with
  | some z=>K z H
  | none=>False
 | .max=>match eI mxI args with
  | some z=>K z H
  | none=>False
 | .append=>match qE P ts,args with
  | some (sz,by_,z),[.list es tl,y]=>match m with
   | 2=>match es,tl,B8 H sz y with
    | [],.exact,some (p,ys,n)=>pre p <| ys.length=n*sz∧n*by_≤140737488355328∧0<n∧∀ c,n≤c→K (.arr H.length 0 n c) (H++[.cells (ys++(List.replicate (c-n) z).flatten)])
    | _,_,_=>False
   | 1=>match y with
    | .list ys _=>aX es ys sz by_∧(ys.flatten.all PV.one=true∧ys≠[])∧match tl with
     | .exact=>K (.list (es++ys) (.tok H.length)) (H++[.tok])
     | .tok o=>match H[o]? with
      | some .tok=>K (.list (es++ys) (.tok H.length)) (H.set o .dead++[.tok])
      | _=>False
     | .no=>False
    | _=>False
   | 4=>match y with
    | .list ys _=>aX es ys sz by_∧ys.flatten.all PV.one=true∧(ys=[]→K (.list es tl) H)∧(ys≠[]→match tl with
     | .exact=>K (.list (es++ys) (.tok H.length)) (H++[.tok])
     | .tok o=>match H[o]? with
      | some .tok=>K (.list (es++ys) (.tok H.length)) (H.set o .dead++[.tok])
      | _=>False
     | .no=>False)
    | _=>False
   | 0=>match y,tl with
    | .list ys _,.exact=>aX es ys sz by_∧K (.list (es++ys) .no) H
    | _,_=>False
   | _=>False
  | some (sz,by_,z),[.arr o off len cap,y]=>match H[o]?,B8 H sz y with
   | some (.cells cs),some (p,ys,n)=>pre p <| (len≤cap∧off+cap*sz≤cs.length∧ys.length=n*sz∧ys.all PV.one=true∧(len+n)*by_≤140737488355328)∧
    match m with
    | 3=>len+n≤cap∧K (.arr o off (len+n) cap) (H.set o (.cells (over cs (off+len*sz) ys)))
    | _=>match dr with
     | true=>False
     | false=>(len+n≤cap→K (.arr o off (len+n) cap) (H.set o (.cells (over cs (off+len*sz) ys))))∧
      (cap<len+n→∀ c,len+n≤c→K (.arr H.length 0 (len+n) c) (H++[.cells (((cs.drop off).take (len*sz))++ys++(List.replicate (c-(len+n)) z).flatten)]))
   | _,_=>False
  | none,[.arr o off len cap,.int _ n]=>match dr,m,tn P ts,H[o]? with
   | false,0,some (sz,by_,z),some (.cells cs)=>(len≤cap∧off+cap*sz≤cs.length∧0≤n∧cap<len+n.toNat∧(len+n.toNat)*by_≤140737488355328)∧
    ∀ c,len+n.toNat≤c→K (.arr H.length 0 (len+n.toNat) c) (H++[.cells (((cs.drop off).take (len*sz))++(List.replicate (c-len) z).flatten)])
   | _,_,_,_=>False
  | none,[.list es tl,.int _ n]=>match m,es,tl,tn P ts with
   | 8,[],.exact,some (_,by_,z)=>0<n∧n.toNat*by_≤140737488355328∧∀ c,n.toNat≤c→K (.arr H.length 0 n.toNat c) (H++[.cells (List.replicate c z).flatten])
   | _,_,_,_=>False
  | _,_=>False
 | .copy=>match ts[0]?,args with
  | some t,[.arr o off len _,y]=>match elA P t with
   | some (none,_,sz,_,_)=>match H[o]?,B8 H sz y with
    | some (.cells cs),some (p,ys,n)=>pre p <| (off+len*sz≤cs.length∧ys.length=n*sz∧ys.all PV.one=true)∧K (.int .i64 (min n len:Nat)) (H.set o (.cells (over cs off (ys.take (min n len*sz)))))
    | _,_=>False
   | _=>False
  | _,_=>False
 | .clear=>match ts[0]?,args with
  | some t,[.arr o off len _]=>match elA P t with
   | some (none,_,sz,_,et)=>match H[o]?,ef P et with
    | some (.cells cs),some z=>B (z.length == sz && z.all PV.one) (off+len*sz≤cs.length∧K (.tup []) (H.set o (.cells (over cs off (List.replicate len z).flatten)))) False
    | _,_=>False
   | _=>False
  | _,_=>False
 | _=>False
theorem qz {P:Program} {b:Builtin} {ts:Array TypeId} {args:List PV} {m:Nat} {dr:Bool} {H:ae} {K:PV→ae→Prop} (h:lE br P b ts args m dr H K):
  aV P b ts args m H K∧(dr=true→b ≠ .append∨jc args=true∨m=3):=by
 cases b<;>try exact h.elim
 case len=>exact⟨h,fun _=> .inl (fun e=>by cases e)⟩
 case min=>exact⟨h,fun _=> .inl (fun e=>by cases e)⟩
 case max=>exact⟨h,fun _=> .inl (fun e=>by cases e)⟩
 case cap=>
  refine⟨?_,fun _=> .inl (fun e=>by cases e)⟩
  simp only[lE] at h
  simp only[aV]
  split at h
  ·rename_i h1; rw[h1]; simp only
   obtain⟨h2,h3⟩:=bc h
   exact⟨nR h2,h3⟩
  ·rename_i h1; rw[h1]; simp only
   obtain⟨h2,h3⟩:=bc h
   exact⟨nR h2,h3⟩
  ·exact h.elim
 case copy=>
  refine⟨?_,fun _=> .inl (fun e=>by cases e)⟩
  simp only[lE] at h
  simp only[aV]
  split at h
  ·rename_i h1; rw[h1]; simp only
   split at h
   ·rename_i h2; rw[h2]; simp only
    split at h
    ·rename_i h3 h4
     obtain⟨h5,h⟩:=qw h4 h
     rw[h3,h5]; simp only
     exact⟨h.1.1,h.1.2.1,h.1.2.2,h.2⟩
    ·exact h.elim
   ·exact h.elim
  ·exact h.elim
 case clear=>
  refine⟨?_,fun _=> .inl (fun e=>by cases e)⟩
  simp only[lE] at h
  simp only[aV]
  split at h
  ·rename_i h1; rw[h1]; simp only
   split at h
   ·rename_i h2; rw[h2]; simp only
    split at h
    ·rename_i h3 h4; rw[h3,h4]; simp only
     obtain⟨h5,h6⟩:=bc h
     simp only[Bool.and_eq_true,beq_iff_eq] at h5
     exact⟨h5.1,h5.2,h6⟩
    ·exact h.elim
   ·exact h.elim
  ·exact h.elim
 case append=>
  simp only[lE] at h
  simp only[aV]
  split at h
  ·rename_i h1; rw[h1]; simp only
   refine⟨?_,fun _=> .inr (.inl rfl)⟩
   split at h
   ·split at h
    ·rename_i h2; simp only
     refine⟨trivial,trivial,?_⟩
     obtain⟨h5,h⟩:=qw h2 h
     rw[h5]; exact h
    ·exact h.elim
   ·split at h
    ·obtain⟨⟨a1,a2,a3⟩,⟨b1,b2⟩,h⟩:=h
     refine⟨a1,a2,a3,b1,b2,?_⟩
     split at h
     ·exact h
     ·split at h
      ·rename_i ho; exact⟨ho,h⟩
      ·exact h.elim
     ·exact h.elim
    ·exact h.elim
   ·split at h
    ·obtain⟨⟨a1,a2,a3⟩,b1,b2,h⟩:=h
     refine⟨a1,a2,a3,b1,b2,fun k=>?_⟩
     have h:=h k
     split at h
     ·exact h
     ·split at h
      ·rename_i ho; exact⟨ho,h⟩
      ·exact h.elim
     ·exact h.elim
    ·exact h.elim
   ·split at h
    ·obtain⟨⟨a1,a2,a3⟩,h⟩:=h
     exact⟨a1,a2,a3,rfl,h⟩
    ·exact h.elim
   ·exact h.elim
  ·rename_i h1; rw[h1]; simp only
   split at h
   ·rename_i h3 h4
    obtain⟨h5,h⟩:=qw h4 h
    rw[h3,h5]; simp only
    obtain⟨ha,h⟩:=h
    split at h
    ·exact⟨⟨ha.1,ha.2.1,ha.2.2.1,ha.2.2.2.1,ha.2.2.2.2,h⟩,fun _=> .inr (.inr rfl)⟩
    ·rename_i hm
     split at h
     ·exact h.elim
     ·refine⟨⟨ha.1,ha.2.1,ha.2.2.1,ha.2.2.2.1,ha.2.2.2.2,?_⟩,fun e=>by cases e⟩
      split
      ·exact absurd rfl hm
      ·exact h
   ·exact h.elim
  ·rename_i h1; rw[h1]; simp only
   split at h
   ·rename_i h2 h3; rw[h2,h3]; simp only
    exact⟨⟨h.1.1,h.1.2.1,h.1.2.2.1,h.1.2.2.2.1,h.1.2.2.2.2,trivial,h.2⟩,fun e=>by cases e⟩
   ·exact h.elim
  ·rename_i h1; rw[h1]; simp only
   split at h
   ·rename_i h2; rw[h2]
    exact⟨⟨rfl,rfl,h.1,h.2.1,rfl,h.2.2⟩,fun _=> .inr (.inl rfl)⟩
   ·exact h.elim
  ·exact h.elim
def pZ (B:Bool→Prop→Prop→Prop) (P:Program) (T:Tab) (c:Call) (m:Nat) (dr:Bool) (ρ:Operand→PV) (H:ae) (K:PV→ae→Prop):Prop:=
 match c.callee with
 | .value f=>match ρ f with
  | .fn k caps=>match rz k T with
   | some (.pure s)=>B (cG P k) (s (c.args.toList.map ρ++caps) (fun x=>K x H)) False
   | some (.read s)=>B (cG P k) (match dr,m with
    | false,_=>s (c.args.toList.map ρ++caps) H (fun x=>K x H)
    | true,5=>s (c.args.toList.map ρ++caps) H (fun x=>K x H)
    | true,_=>False) False
   | some (.heap s)=>B (cG P k) (match dr with
    | false=>s (c.args.toList.map ρ++caps) H K
    | true=>False) False
   | some (.ext s)=>match dr with
    | false=>s (c.args.toList.map ρ++caps) H (fun x=>K x H)
    | true=>False
   | some (.mk s)=>B (cG P k) (match dr,m with
    | false,_=>s (c.args.toList.map ρ++caps) (fun es=>(es=[]→K (.list [] .exact) H)∧(es≠[]→K (.list es (.tok H.length)) (H++[.tok])))
    | true,6=>s (c.args.toList.map ρ++caps) (fun es=>(es=[]→K (.list [] .exact) H)∧(es≠[]→K (.list es (.tok H.length)) (H++[.tok])))
    | true,_=>False) False
   | some (.chg s)=>B (cG P k) (match dr,m with
    | false,_=>s (c.args.toList.map ρ++caps) H K
    | true,7=>s (c.args.toList.map ρ++caps) H K
    | true,_=>False) False
   | none=>False
  | _=>False
 | .builtin b=>lE B P b c.argTypes (c.args.toList.map ρ) m dr H K
 | _=>False
theorem mS {P:Program} {gl:aC} {T:Tab} (hT:aB P gl T) {c:Call} {m:Nat} {dr:Bool} {ρ:Operand→PV} {H:ae} {K:PV→ae→Prop} (h:pZ br P T c m dr ρ H K):
  (dr=false→opw P gl (.call c) m ρ H K)∧(dr=true→m8 P gl (.call c) m ρ H K):=by
 unfold pZ at h
 have hop:opw P gl (.call c) m ρ H K=cN P gl c m ρ H K:=rfl
 rw[hop]
 unfold cN
 simp only[m8]
 split at h
 ·rename_i f hf
  rw[hf]; simp only
  split at h
  ·rename_i k caps hk
   rw[hk]; simp only
   split at h
   ·rename_i s hs
    obtain⟨h1,h2⟩:=bc h
    obtain⟨r,k1,k2⟩:=hT k _ hs _ _ h2
    refine⟨fun _=> .inl ⟨h1,(k1 H).mono fun x H' e=>by rw[e.1,e.2]; exact k2⟩,fun _=>⟨h1,?_⟩⟩
    unfold jW
    by_cases h6:m=6
    ·rw[if_pos h6]; exact⟨r,H,k1 H,fun _ _ k=>k,k2⟩
    rw[if_neg h6]
    by_cases h7:m=7
    ·rw[if_pos h7]; exact⟨r,H,k1 H,k2⟩
    rw[if_neg h7]
    refine⟨r,?_,k2⟩
    split
    ·exact k1 H
    ·exact k1
   ·rename_i s hs
    obtain⟨h1,h2⟩:=bc h
    split at h2
    ·obtain⟨r,k1,k2⟩:=hT k _ hs _ _ _ h2
     exact⟨fun _=> .inl ⟨h1,k1.mono fun x H' e=>by rw[e.1,e.2]; exact k2⟩,fun e=>by cases e⟩
    ·obtain⟨r,k1,k2⟩:=hT k _ hs _ _ _ h2
     exact⟨fun e=>(by cases e),fun _=>⟨h1,by unfold jW; rw[if_neg (by decide),if_neg (by decide)]; exact⟨r,by rw[if_pos rfl]; exact k1,k2⟩⟩⟩
    ·exact h2.elim
   ·rename_i s hs
    obtain⟨h1,h2⟩:=bc h
    split at h2
    ·exact⟨fun _=> .inl ⟨h1,hT k _ hs _ _ _ h2⟩,fun e=>by cases e⟩
    ·exact h2.elim
   ·rename_i s hs
    split at h
    ·exact⟨fun _=> .inr (hT k _ hs _ _ _ h),fun e=>by cases e⟩
    ·exact h.elim
   ·rename_i s hs
    obtain⟨h1,h2⟩:=bc h
    have main:∀ es:List (List PV),((es=[]→K (.list [] .exact) H)∧(es≠[]→K (.list es (.tok H.length)) (H++[.tok])))→(∀ H,aj P gl k (c.args.toList.map ρ++caps) H (fun x H'=>(es=[]→x = .list [] .exact∧H'=H)∧(es≠[]→x = .list es (.tok H.length)∧H'=H++[.tok])))→
      ∃ r H',aj P gl k (c.args.toList.map ρ++caps) H (fun x H1=>x=r∧H1=H')∧keeps H H'∧K r H':=by
     intro es hk ha
     by_cases h0:es=[]
     ·exact⟨_,_,(ha H).mono fun x H' e=>e.1 h0,fun _ _ k=>k,hk.1 h0⟩
     ·exact⟨_,_,(ha H).mono fun x H' e=>e.2 h0,fD H _,hk.2 h0⟩
    split at h2
    ·obtain⟨es,k2,k1⟩:=hT k _ hs _ _ h2
     obtain⟨r,H',a1,_,a2⟩:=main es k2 k1
     exact⟨fun _=> .inl ⟨h1,a1.mono fun x H1 e=>by rw[e.1,e.2]; exact a2⟩,fun e=>by cases e⟩
    ·obtain⟨es,k2,k1⟩:=hT k _ hs _ _ h2
     exact⟨fun e=>(by cases e),fun _=>⟨h1,by unfold jW; rw[if_pos rfl]; exact main es k2 k1⟩⟩
    ·exact h2.elim
   ·rename_i s hs
    obtain⟨h1,h2⟩:=bc h
    split at h2
    ·obtain⟨r,H',k1,k2⟩:=hT k _ hs _ _ _ h2
     exact⟨fun _=> .inl ⟨h1,k1.mono fun x H1 e=>by rw[e.1,e.2]; exact k2⟩,fun e=>by cases e⟩
    ·obtain⟨r,H',k1,k2⟩:=hT k _ hs _ _ _ h2
     exact⟨fun e=>(by cases e),fun _=>⟨h1,by unfold jW; rw[if_neg (by decide),if_pos rfl]; exact⟨r,H',k1,k2⟩⟩⟩
    ·exact h2.elim
   ·exact h.elim
  ·exact h.elim
 ·rename_i b hb
  rw[hb]; simp only
  obtain⟨h1,h2⟩:=qz h
  exact⟨fun _=>h1,fun e=>⟨h2 e,h1⟩⟩
 ·exact h.elim
def kE (B:Bool→Prop→Prop→Prop) (P:Program) (gl:aC) (T:Tab) (hn:Oper→Nat) (dr:Bool) (ops:Array Oper):List Oper→Env→ae→(Env→ae→Prop)→Prop
 | [],e,H,K=>K e H
 | o::l,e,H,K=>
  match o.guard with
  | none=>match o.op with
   | .call c=>pZ B P T c (hn o) dr (ev gl e) H fun x H'=>kE B P gl T hn dr ops l (upd e o.dst x) H' K
   | op=>opc B P op (hn o) (ev gl e) H fun x H'=>kE B P gl T hn dr ops l (upd e o.dst x) H' K
  | some (j,want)=>match (ops[j]?).bind (·.dst) with
   | some d=>match e d with
    | .bool b=>B (b == want)
      (match o.op with
      | .call c=>pZ B P T c (hn o) dr (ev gl (upd e (some d) (.bool want))) H fun x H'=>kE B P gl T hn dr ops l (upd (upd e (some d) (.bool want)) o.dst x) H' K
      | op=>opc B P op (hn o) (ev gl (upd e (some d) (.bool want))) H fun x H'=>kE B P gl T hn dr ops l (upd (upd e (some d) (.bool want)) o.dst x) H' K)
      (kE B P gl T hn dr ops l (upd (upd e (some d) (.bool !want)) o.dst (.tup [])) H K)
    | .tup []=>kE B P gl T hn dr ops l (upd e o.dst (.tup [])) H K
    | _=>False
   | none=>False
theorem ij {e:Env} {d:Nat} {x:PV} (h:e d=x):upd e (some d) x=e:=by
 funext k; simp only[upd]; split
 ·rename_i hk; rw[hk,h]
 ·rfl
theorem y8 {P:Program} {gl:aC} {c:Call} {m:Nat} {ρ:Operand→PV} {H:ae} {K:PV→ae→Prop}:opw P gl (.call c) m ρ H K=cN P gl c m ρ H K:=rfl
theorem gB {P:Program} {gl:aC} {T:Tab} (hT:aB P gl T) {op:Op} {m:Nat} {dr:Bool} {ρ:Operand→PV} {H:ae} {K:PV→ae→Prop}
  (h:match op with| .call c=>pZ br P T c m dr ρ H K|op=>opc br P op m ρ H K):(dr=false→opw P gl op m ρ H K)∧(dr=true→m8 P gl op m ρ H K):=by
 cases op<;>first|exact mS hT h|exact⟨fun _=>(pF h).1,fun _=>(pF h).2⟩
theorem yA {op:BinOp} {k k':IntKind} {a b:Int} {K K':PV→Prop} (h:oN op k a k' b K) (hk:∀ x,K x→K' x):oN op k a k' b K':=by
 cases op<;>simp only[oN] at h ⊢
 case quo=>exact⟨h.1,h.2.1,hk _ h.2.2⟩
 case rem=>exact⟨h.1,h.2.1,hk _ h.2.2⟩
 all_goals exact⟨h.1,hk _ h.2⟩
theorem x7 {P:Program} {op:BinOp} {t:TypeId} {x y:PV} {K K':PV→Prop} (h:lO P op t x y K) (hk:∀ x,K x→K' x):lO P op t x y K':=by
 unfold lO at h
 split at h
 ·exact yA h hk
 ·unfold lO
  cases op<;>first|exact h.elim|exact hk _ h
 ·refine⟨h.1,?_⟩
  have h:=h.2
  cases op<;>first|exact h.elim|exact hk _ h
 ·refine⟨h.1,?_⟩
  have h:=h.2
  cases op<;>first|exact h.elim|exact hk _ h
 ·refine⟨h.1,?_⟩
  have h:=h.2
  cases op<;>first|exact h.elim|exact hk _ h
 ·refine⟨h.1,?_⟩
  have h:=h.2
  cases op<;>first|exact h.elim|exact hk _ h
 ·rename_i xs ys
  obtain⟨h1,h2,h3,h4,h5⟩:=h
  refine⟨h1,h2,h3,h4,?_⟩
  split at h5
  ·rename_i he; (try rw[he]); (try simp only)
   cases op<;>first|exact h5.elim|exact hk _ h5
  ·exact h5.elim
 ·exact h.elim
theorem xp {P:Program} {op:BinOp} {t:TypeId} {x:PV} {K K':PV→Prop} (h:AC P op t x K) (hk:∀ x,K x→K' x):AC P op t x K':=by
 refine⟨h.1,?_⟩
 have h:=h.2
 split at h
 ·cases op<;>first|exact h.elim|exact fun b hb=>hk _ (h b hb)
 ·cases op<;>first|exact h.elim|exact hk _ h
 ·exact h.elim
theorem jp {P:Program} {b:Builtin} {ts:Array TypeId} {args:List PV} {m:Nat} {H:ae} {K K':PV→ae→Prop} (h:aV P b ts args m H K) (hk:∀ x H',K x H'→K' x H'):aV P b ts args m H K':=by
 cases b<;>try exact h.elim
 case len=>
  simp only[aV] at h ⊢
  split at h
  ·rename_i h1; (try rw[h1]); (try simp only)
   split at h
   ·rename_i h2; (try rw[h2]); exact hk _ _ h
   ·exact h.elim
  ·exact h.elim
 case min=>
  simp only[aV] at h ⊢
  split at h
  ·rename_i h2; (try rw[h2]); exact hk _ _ h
  ·exact h.elim
 case max=>
  simp only[aV] at h ⊢
  split at h
  ·rename_i h2; (try rw[h2]); exact hk _ _ h
  ·exact h.elim
 case cap=>
  simp only[aV] at h ⊢
  split at h
  ·rename_i h1; (try rw[h1]); exact⟨h.1,hk _ _ h.2⟩
  ·rename_i h1; (try rw[h1]); exact⟨h.1,hk _ _ h.2⟩
  ·exact h.elim
 case copy=>
  simp only[aV] at h ⊢
  split at h
  ·rename_i h1; (try rw[h1]); (try simp only)
   split at h
   ·rename_i h2; (try rw[h2]); (try simp only)
    split at h
    ·rename_i h3 h4; (try rw[h3,h4]); exact⟨h.1,h.2.1,h.2.2.1,hk _ _ h.2.2.2⟩
    ·exact h.elim
   ·exact h.elim
  ·exact h.elim
 case clear=>
  simp only[aV] at h ⊢
  split at h
  ·rename_i h1; (try rw[h1]); (try simp only)
   split at h
   ·rename_i h2; (try rw[h2]); (try simp only)
    split at h
    ·rename_i h3 h4; (try rw[h3,h4]); exact⟨h.1,h.2.1,h.2.2.1,hk _ _ h.2.2.2⟩
    ·exact h.elim
   ·exact h.elim
  ·exact h.elim
 case append=>
  simp only[aV] at h ⊢
  split at h
  ·rename_i h1; (try rw[h1]); (try simp only)
   split at h
   ·obtain⟨h2,h3,h4⟩:=h
    refine⟨h2,h3,?_⟩
    split at h4
    ·exact⟨h4.1,h4.2.1,h4.2.2.1,fun c hc=>hk _ _ (h4.2.2.2 c hc)⟩
    ·exact h4.elim
   ·rename_i hm
    split at h
    ·obtain⟨a1,a2,a3,h⟩:=h
     refine⟨a1,a2,a3,?_⟩
     split at h
     ·refine⟨h.1,h.2.1,?_⟩
      have h:=h.2.2
      split at h
      ·exact hk _ _ h
      ·exact⟨h.1,hk _ _ h.2⟩
      ·exact h.elim
     ·refine⟨h.1,fun k=>hk _ _ (h.2.1 k),fun k=>?_⟩
      have h:=h.2.2 k
      split at h
      ·exact hk _ _ h
      ·exact⟨h.1,hk _ _ h.2⟩
      ·exact h.elim
     ·exact⟨h.1,hk _ _ h.2⟩
    ·exact h.elim
  ·rename_i h1; (try rw[h1]); (try simp only)
   split at h
   ·rename_i h3 h4; (try rw[h3,h4])
    refine⟨h.1,h.2.1,h.2.2.1,h.2.2.2.1,h.2.2.2.2.1,?_⟩
    have h:=h.2.2.2.2.2
    split at h
    ·exact⟨h.1,hk _ _ h.2⟩
    ·exact⟨fun q=>hk _ _ (h.1 q),fun q c hc=>hk _ _ (h.2 q c hc)⟩
   ·exact h.elim
  ·rename_i h1; (try rw[h1]); (try simp only)
   split at h
   ·rename_i h3 h4; (try rw[h3,h4])
    exact⟨h.1,h.2.1,h.2.2.1,h.2.2.2.1,h.2.2.2.2.1,h.2.2.2.2.2.1,fun c hc=>hk _ _ (h.2.2.2.2.2.2 c hc)⟩
   ·exact h.elim
  ·rename_i h1; (try rw[h1]); (try simp only)
   split at h
   ·rename_i h3; (try rw[h3])
    exact⟨h.1,h.2.1,h.2.2.1,h.2.2.2.1,h.2.2.2.2.1,fun c hc=>hk _ _ (h.2.2.2.2.2 c hc)⟩
   ·exact h.elim
  ·exact h.elim
theorem kG {P:Program} {gl:aC} {op:Op} {m:Nat} {ρ:Operand→PV} {H:ae} {K K':PV→ae→Prop} (h:opw P gl op m ρ H K) (hk:∀ x H',K x H'→K' x H'):opw P gl op m ρ H K':=by
 cases op<;>try exact h.elim
 case move x=>exact hk _ _ h
 case assign x=>exact hk _ _ h
 case call c=>
  rw[y8] at h ⊢
  unfold cN at h ⊢
  split at h
  ·split at h
   ·rcases h with h|h
    ·exact .inl ⟨h.1,h.2.mono hk⟩
    ·refine .inr fun g w vs hS hR=>?_
     obtain⟨v,x,h1,h2,h3⟩:=h g w vs hS hR
     exact⟨v,x,h1,h2,hk _ _ h3⟩
   ·exact h.elim
  ·exact jp h hk
  ·exact h.elim
 case binOp=>
  simp only[opw] at h ⊢
  split at h
  ·rename_i hc; (try rw[if_pos hc]); exact xp h fun x=>hk x H
  ·rename_i hc; (try rw[if_neg hc]); exact x7 h fun x=>hk x H
 case nilCheck x=>
  simp only[opw] at h ⊢
  split at h<;>first|exact h.elim|(rename_i h1; (try rw[h1]); exact hk _ _ h)
 case pick=>
  simp only[opw] at h ⊢
  split at h<;>first|exact h.elim|(rename_i h1; (try rw[h1]); exact hk _ _ h)
 case alloc=>
  simp only[opw] at h ⊢
  split at h<;>first|exact h.elim|(rename_i h1; (try rw[h1]); exact hk _ _ h)
 case box=>
  simp only[opw] at h ⊢
  split at h<;>first|exact h.elim|(rename_i h1; (try rw[h1]); exact hk _ _ h)
 case build=>
  simp only[opw] at h ⊢
  split at h<;>first|exact h.elim|(rename_i h1; (try rw[h1]); exact hk _ _ h)
 case unOp=>
  simp only[opw] at h ⊢
  split at h<;>first|exact h.elim|(rename_i h1; (try rw[h1]); exact hk _ _ h)
 case convert=>
  simp only[opw] at h ⊢
  split at h<;>first|exact h.elim|(rename_i h1; (try rw[h1]); exact hk _ _ h)
 case makeFunc=>
  simp only[opw] at h ⊢
  split at h<;>first|exact h.elim|exact⟨h.1,hk _ _ h.2⟩
 case buildSlice=>
  simp only[opw] at h ⊢
  split at h
  ·rename_i h1; (try rw[h1]); (try simp only)
   split at h
   ·rename_i h2; (try rw[h2])
    refine⟨h.1,h.2.1,h.2.2.1,?_⟩
    have h:=h.2.2.2
    split at h
    ·rename_i h3; (try rw[h3]); exact hk _ _ h
    ·exact h.elim
   ·exact h.elim
  ·exact h.elim
 case load=>
  simp only[opw] at h ⊢
  split at h
  ·rename_i h1 h2; (try rw[h1,h2]); (try simp only)
   split at h
   ·rename_i h3; (try rw[h3]); exact⟨h.1,hk _ _ h.2⟩
   ·exact h.elim
  ·exact h.elim
 case store=>
  simp only[opw] at h ⊢
  split at h
  ·rename_i h1 h2 h3; (try rw[h1,h2,h3]); (try simp only)
   split at h
   ·rename_i h4; (try rw[h4]); exact⟨h.1,h.2.1,h.2.2.1,hk _ _ h.2.2.2⟩
   ·exact h.elim
  ·exact h.elim
 case makeSlice=>
  simp only[opw] at h ⊢
  split at h
  ·rename_i h1 h2 h3; (try rw[h1,h2,h3]); (try simp only)
   split at h
   ·rename_i h4; (try rw[h4]); exact⟨h.1,h.2.1,h.2.2.1,h.2.2.2.1,h.2.2.2.2.1,h.2.2.2.2.2.1,hk _ _ h.2.2.2.2.2.2⟩
   ·exact h.elim
  ·exact h.elim
 case slice=>
  simp only[opw] at h ⊢
  split at h
  ·rename_i h1 h2; (try rw[h1,h2]); (try simp only)
   split at h
   ·rename_i h3 h4 h5; (try rw[h3,h4,h5]); exact⟨h.1,h.2.1,h.2.2.1,h.2.2.2.1,h.2.2.2.2.1,h.2.2.2.2.2.1,hk _ _ h.2.2.2.2.2.2⟩
   ·exact h.elim
  ·rename_i h1 h2; (try rw[h1,h2]); (try simp only)
   split at h
   ·rename_i h3 h4 h5; (try rw[h3,h4,h5]); exact⟨h.1,h.2.1,h.2.2.1,h.2.2.2.1,h.2.2.2.2.1,hk _ _ h.2.2.2.2.2⟩
   ·exact h.elim
  ·exact h.elim
 case fieldAddr=>
  simp only[opw] at h ⊢
  split at h
  ·rename_i h1; (try rw[h1]); (try simp only)
   split at h
   ·rename_i h2; (try rw[h2]); exact hk _ _ h
   ·exact h.elim
  ·exact h.elim
 case field=>
  simp only[opw] at h ⊢
  split at h
  ·rename_i h1 h2; (try rw[h1,h2]); (try simp only)
   split at h
   ·rename_i h3; (try rw[h3]); exact hk _ _ h
   ·exact h.elim
  ·exact h.elim
 case indexAddr=>
  simp only[opw] at h ⊢
  split at h
  ·rename_i h1 h2; (try rw[h1,h2]); (try simp only)
   split at h
   ·rename_i h3; (try rw[h3]); refine⟨h.1,?_⟩
    have h:=h.2
    split at h
    ·rename_i h4; (try rw[h4]); exact⟨h.1,h.2.1,hk _ _ h.2.2⟩
    ·exact h.elim
   ·rename_i h3; (try rw[h3]); exact⟨h.1,h.2.1,hk _ _ h.2.2⟩
   ·exact h.elim
  ·rename_i h1 h2; (try rw[h1,h2]); refine⟨h.1,h.2.1,?_⟩
   have h:=h.2.2
   split at h
   ·rename_i h3; (try rw[h3]); exact hk _ _ h
   ·exact h.elim
  ·exact h.elim
 case index=>
  simp only[opw] at h ⊢
  split at h
  ·rename_i h1 h2 h3; (try rw[h1,h2,h3]); refine⟨h.1,h.2.1,?_⟩
   have h:=h.2.2
   split at h
   ·rename_i h4; (try rw[h4]); exact hk _ _ h
   ·exact h.elim
  ·exact h.elim
 case extract=>
  simp only[opw] at h ⊢
  split at h
  ·rename_i h1; (try rw[h1]); (try simp only)
   split at h
   ·rename_i h2; (try rw[h2]); exact hk _ _ h
   ·exact h.elim
  ·exact h.elim
theorem Gi {P:Program} {gl:aC} {op:Op} (hc:∀ c,op ≠ .call c):m8 P gl op=opw P gl op:=by
 cases op<;>first|rfl|exact absurd rfl (hc _)
theorem p7 {P:Program} {gl:aC} {op:Op} {m:Nat} {ρ:Operand→PV} {H:ae} {K K':PV→ae→Prop} (h:m8 P gl op m ρ H K) (hk:∀ x H',K x H'→K' x H'):m8 P gl op m ρ H K':=by
 by_cases hc:∃ c,op = .call c
 ·obtain⟨c,rfl⟩:=hc
  simp only[m8] at h ⊢
  split at h
  ·split at h
   ·obtain⟨h1,h⟩:=h
    refine⟨h1,?_⟩
    unfold jW at h ⊢
    by_cases h6:m=6
    ·rw[if_pos h6] at h ⊢
     obtain⟨r,H',h2,h3,h4⟩:=h
     exact⟨r,H',h2,h3,hk _ _ h4⟩
    ·rw[if_neg h6] at h ⊢
     by_cases h7:m=7
     ·rw[if_pos h7] at h ⊢
      obtain⟨r,H',h2,h3⟩:=h
      exact⟨r,H',h2,hk _ _ h3⟩
     ·rw[if_neg h7] at h ⊢
      obtain⟨r,h2,h3⟩:=h
      exact⟨r,h2,hk _ _ h3⟩
   ·exact h.elim
  ·exact⟨h.1,jp h.2 hk⟩
  ·exact h.elim
 ·have hc:∀ c,op ≠ .call c:=fun c e=>hc ⟨c,e⟩
  rw[Gi hc] at h ⊢
  exact kG h hk
theorem nS {P:Program} {gl:aC} {T:Tab} (hT:aB P gl T) {hn:Oper→Nat} {ops:Array Oper} {K:Env→ae→Prop}:∀(l:List Oper) (e:Env) (H:ae),
  kE br P gl T hn false ops l e H K→ph P gl hn ops l e H K
 | [],e,H,h=>h
 | o::l,e,H,h=>by
  have ih:=fun e H=>nS (gl:=gl) hT (hn:=hn) (ops:=ops) (K:=K) l e H
  unfold kE at h
  unfold ph
  split at h
  ·rename_i hg
   (try rw[hg])
   exact kG ((gB (m:=hn o) (dr:=false) hT h).1 rfl) fun x H' k=>ih _ _ k
  ·rename_i j want hg
   (try rw[hg])
   (try simp only)
   split at h
   ·rename_i d hd
    (try rw[hd])
    (try simp only)
    split at h
    ·rename_i b hb
     (try rw[hb])
     (try simp only)
     obtain⟨h1,h2⟩:=uv.1 h
     constructor
     ·intro hw
      subst hw
      have h1:=h1 (by simp)
      rw[ij hb] at h1
      exact kG ((gB (m:=hn o) (dr:=false) hT h1).1 rfl) fun x H' k=>ih _ _ k
     ·intro hw
      have h2:=h2 (by subst hw; cases want<;>rfl)
      rw[hw] at hb
      rw[ij hb] at h2
      exact ih _ _ h2
    ·rename_i hb
     (try rw[hb])
     exact ih _ _ h
    ·exact h.elim
   ·exact h.elim
theorem dW {P:Program} {gl:aC} {T:Tab} (hT:aB P gl T) {hn:Oper→Nat} {ops:Array Oper} {K:Env→ae→Prop}:∀(l:List Oper) (e:Env) (H:ae),
  kE br P gl T hn true ops l e H K→qA P gl hn ops l e H K
 | [],e,H,h=>h
 | o::l,e,H,h=>by
  have ih:=fun e H=>dW (gl:=gl) hT (hn:=hn) (ops:=ops) (K:=K) l e H
  unfold kE at h
  unfold qA
  split at h
  ·rename_i hg
   (try rw[hg])
   exact p7 ((gB (m:=hn o) (dr:=true) hT h).2 rfl) fun x H' k=>ih _ _ k
  ·rename_i j want hg
   (try rw[hg])
   (try simp only)
   split at h
   ·rename_i d hd
    (try rw[hd])
    (try simp only)
    split at h
    ·rename_i b hb
     (try rw[hb])
     (try simp only)
     obtain⟨h1,h2⟩:=uv.1 h
     constructor
     ·intro hw
      subst hw
      have h1:=h1 (by simp)
      rw[ij hb] at h1
      exact p7 ((gB (m:=hn o) (dr:=true) hT h1).2 rfl) fun x H' k=>ih _ _ k
     ·intro hw
      have h2:=h2 (by subst hw; cases want<;>rfl)
      rw[hw] at hb
      rw[ij hb] at h2
      exact ih _ _ h2
    ·rename_i hb
     (try rw[hb])
     exact ih _ _ h
    ·exact h.elim
   ·exact h.elim
end Go.AM

namespace Go.AM
open Go
abbrev LSp:=Env→ae→(Ex→Env→ae→Prop)→Prop
abbrev kg:=List (List Nat×LSp)
def kz (p:List Nat):kg→Option LSp
 | []=>none
 | (q,s)::L=>match p == q with
  | true=>some s
  | false=>kz p L
def sub:List Nat→Code→Option Code
 | [],c=>some c
 | i::p,.seq x y=>match i with
  | 0=>sub p x
  | _=>sub p y
 | i::p,.cond _ x y=>match i with
  | 0=>sub p x
  | _=>sub p y
 | _::p,.block _ x=>sub p x
 | _::p,.loop x=>sub p x
 | _::p,.scope x=>sub p x
 | _,_=>none
def GQ (e:Env) (c:Operand) (b:Bool):Env:=match c with
 | .tmp t=>upd e (some t) (.bool b)
 | _=>e
def wpc (B:Bool→Prop→Prop→Prop) (P:Program) (gl:aC) (T:Tab) (L:kg) (hn:Oper→Nat):Code→List Nat→Env→ae→(Ex→Env→ae→Prop)→Prop
 | .skip,_,e,H,Q=>Q .normal e H
 | .label _,_,e,H,Q=>Q .normal e H
 | .exit id,_,e,H,Q=>Q (.exit id) e H
 | .ret,_,e,H,Q=>Q .ret e H
 | .region _ ops d,p,e,H,Q=>match kz p L with
  | some s=>s e H Q
  | none=>match d with
   | false=>kE B P gl T hn false ops ops.toList e H (Q .normal)
   | true=>B (lg ops hn) (kE B P gl T hn true ops ops.toList e H (Q .normal)) False
 | .seq x y,p,e,H,Q=>match kz p L with
  | some s=>s e H Q
  | none=>wpc B P gl T L hn x (p++[0]) e H fun ex e' H'=>match ex with
   | .normal=>wpc B P gl T L hn y (p++[1]) e' H' Q
   | .exit i=>Q (.exit i) e' H'
   | .ret=>Q .ret e' H'
 | .cond c x y,p,e,H,Q=>match kz p L with
  | some s=>s e H Q
  | none=>match ev gl e c with
   | .bool b=>B b (wpc B P gl T L hn x (p++[0]) (GQ e c true) H Q) (wpc B P gl T L hn y (p++[1]) (GQ e c false) H Q)
   | _=>False
 | .block id x,p,e,H,Q=>match kz p L with
  | some s=>s e H Q
  | none=>wpc B P gl T L hn x (p++[0]) e H fun ex e' H'=>match ex with
   | .normal=>Q .normal e' H'
   | .exit i=>match i == id with
    | true=>Q .normal e' H'
    | false=>Q (.exit i) e' H'
   | .ret=>Q .ret e' H'
 | .loop _,p,e,H,Q=>match kz p L with
  | some s=>s e H Q
  | none=>False
 | .scope x,p,e,H,Q=>wpc B P gl T L hn x (p++[0]) e H Q
 | _,_,_,_,_=>False
def LOk [Dfr] (P:Program) (gl:aC) (n:Nat) (c:Code) (p:List Nat) (L:kg):Prop:=
 ∀ q s x,kz (p++q) L=some s→sub q c=some x→∀ e H Q,s e H Q→AW P gl n x Q e H
theorem pS {gl:aC} {e:Env} {c:Operand} {b:Bool} (h:ev gl e c = .bool b):GQ e c b=e:=by
 unfold GQ
 split
 ·exact ij h
 ·rfl
theorem zO [Dfr] {P:Program} {gl:aC} {n:Nat} {x:Code} {Q:Ex→Env→ae→Prop} {e:Env} {H:ae} (h:AW P gl n x Q e H):AW P gl n (.scope x) Q e H:=by
 intro hd g a w hst
 simp only[bN] at hd
 refine wp_scope_straight (wp_mono (h hd g a w hst) ?_)
 rintro ex a' w' ⟨ex',g',e',H',k0,k1⟩
 cases ex<;>first|(cases ex'<;>exact k0.elim)|exact⟨ex',g',e',H',k0,k1⟩
theorem aY [Dfr] {P:Program} {gl:aC} {n:Nat} {T:Tab} {L:kg} {hn:Oper→Nat} (hT:aB P gl T):∀(c:Code) (p:List Nat),LOk P gl n c p L→∀(e:Env) (H:ae) (Q:Ex→Env→ae→Prop),
  wpc br P gl T L hn c p e H Q→AW P gl n c Q e H:=by
 intro c
 induction c with
 | skip=>intro p _ e H Q h; exact Gb h
 | label l=>intro p _ e H Q h; exact Em h
 | exit i=>intro p _ e H Q h; exact G6 h
 | ret=>intro p _ e H Q h; exact JS h
 | region id ops d=>
  intro p hL e H Q h
  simp only[wpc] at h
  split at h
  ·rename_i s hs
   exact hL [] s _ (by simpa using hs) rfl e H Q h
  ·split at h
   ·exact xU hn (nS hT _ _ _ h)
   ·obtain⟨h1,h2⟩:=bc h
    exact nV hn h1 (dW hT _ _ _ h2)
 | seq x y ihx ihy=>
  intro p hL e H Q h
  have hx:LOk P gl n x (p++[0]) L:=fun q s z h1 h2=>hL (0::q) s z (by simpa using h1) h2
  have hy:LOk P gl n y (p++[1]) L:=fun q s z h1 h2=>hL (1::q) s z (by simpa using h1) h2
  simp only[wpc] at h
  split at h
  ·rename_i s hs
   exact hL [] s _ (by simpa using hs) rfl e H Q h
  refine AW.mono (Q:=post P gl n (.fin Q)) (JU (AW.mono (ihx _ hx _ _ _ h) fun ex e' H' k=>?_)) fun ex e H k=>k
  cases ex with
  | normal=>exact(ihy _ hy _ _ _ k:AW P gl n y Q e' H')
  | exit i=>exact k
  | ret=>exact k
 | cond c x y ihx ihy=>
  intro p hL e H Q h
  have hx:LOk P gl n x (p++[0]) L:=fun q s z h1 h2=>hL (0::q) s z (by simpa using h1) h2
  have hy:LOk P gl n y (p++[1]) L:=fun q s z h1 h2=>hL (1::q) s z (by simpa using h1) h2
  simp only[wpc] at h
  split at h
  ·rename_i s hs
   exact hL [] s _ (by simpa using hs) rfl e H Q h
  split at h
  ·rename_i b hb
   obtain⟨h1,h2⟩:=uv.1 h
   refine ES hb (fun k=>?_) (fun k=>?_)
   ·have h3:=h1 k
    rw[pS (by rw[hb,k])] at h3
    exact ihx _ hx _ _ _ h3
   ·have h3:=h2 k
    rw[pS (by rw[hb,k])] at h3
    exact ihy _ hy _ _ _ h3
  ·exact h.elim
 | block id x ihx=>
  intro p hL e H Q h
  have hx:LOk P gl n x (p++[0]) L:=fun q s z h1 h2=>hL (0::q) s z (by simpa using h1) h2
  simp only[wpc] at h
  split at h
  ·rename_i s hs
   exact hL [] s _ (by simpa using hs) rfl e H Q h
  refine AW.mono (Q:=post P gl n (.fin Q)) (zY (AW.mono (ihx _ hx _ _ _ h) fun ex e' H' k=>?_)) fun ex e H k=>k
  cases ex with
  | normal=>exact k
  | exit i=>
   rw[pn]
   simp only at k
   split at k
   ·rename_i hi; rw[if_pos (by simpa using hi)]; exact k
   ·rename_i hi; rw[if_neg (by simpa using hi)]; exact k
  | ret=>exact k
 | loop x ih=>
  intro p hL e H Q h
  simp only[wpc] at h
  split at h
  ·rename_i s hs
   exact hL [] s _ (by simpa using hs) rfl e H Q h
  ·exact h.elim
 | scope x ihx=>
  intro p hL e H Q h
  have hx:LOk P gl n x (p++[0]) L:=fun q s z h1 h2=>hL (0::q) s z (by simpa using h1) h2
  exact zO (ihx _ hx _ _ _ h)
 | _=>intro p _ e H Q h; exact h.elim
theorem LOk.nil [Dfr] (P:Program) (gl:aC) (n:Nat) (c:Code) (p:List Nat):LOk P gl n c p []:=fun q s x h=>by simp[kz] at h
theorem LOk.cons [Dfr] {P:Program} {gl:aC} {n:Nat} {c x:Code} {q:List Nat} {s:LSp} {L:kg} (hs:sub q c=some x) (h:∀ e H Q,s e H Q→AW P gl n x Q e H) (hL:LOk P gl n c [] L):LOk P gl n c [] ((q,s)::L):=by
 intro q' s' x' hl hs' e H Q hq
 simp only[kz,List.nil_append] at hl
 split at hl
 ·rename_i he
  have:q'=q:=by simpa using he
  subst this
  cases hl
  rw[hs] at hs'; cases hs'
  exact h e H Q hq
 ·exact hL q' s' x' (by simpa using hl) hs' e H Q hq
theorem pc {P:Program} {gl:aC} {f:FuncId} {fn:Func} {c:Code} {T:Tab} {L:kg} (hn:Oper→Nat) (hf:P.funcs[f]?=some fn) (hb:fn.body=some c) (hd:bN fn.ntmps c=true) {args:List PV} (hsz:args.length≤fn.ntmps) {H:ae} {K:PV→ae→Prop}
  (hT:aB P gl T) (hL:LOk P gl fn.ntmps c [] L) (h:wpc br P gl T L hn c [] (po args) H (kW P fn.results.toList K)):aj P gl f args H K:=
 rm hf hb hd hsz ((aY hT c [] hL _ _ _ h).mono fun _ _ _ k=>k)
def rR (e e1:Env):Prop:=∀ t,e1 t=e t∨e1 t = .any
theorem St.weaken [Dfr] {gl:aC} {n:Nat} {g:Gh} {e e1:Env} {H:ae} {a:Act} {w:World} (h:St gl n g e H a w) (he:rR e e1):St gl n g e1 H a w:=by
 obtain⟨h1,h2,h3,h4⟩:=h
 refine⟨h1,h2,⟨h3.1,fun t=>?_⟩,h4⟩
 rcases he t with k|k<;>rw[k]
 ·exact h3.2 t
 ·exact .any _
theorem AW.weaken [Dfr] {P:Program} {gl:aC} {n:Nat} {c:Code} {Q:Ex→Env→ae→Prop} {e:Env} {H:ae} (h:AW P gl n c (fun ex e' H'=>∃ e1,rR e' e1∧Q ex e1 H') e H):AW P gl n c Q e H:=by
 intro hd g a w hst
 refine wp_mono (h hd g a w hst) ?_
 rintro ex a' w' ⟨ex',g',e',H',k0,k1,k2,e1,k3,k4⟩
 exact⟨ex',g',e1,H',k0,k1.weaken k3,k2,k4⟩
theorem AW.of_le [Dfr] {P:Program} {gl:aC} {n:Nat} {c:Code} {Q:Ex→Env→ae→Prop} {e e1:Env} {H:ae} (he:rR e e1) (h:AW P gl n c Q e1 H):AW P gl n c Q e H:=
 fun hd g a w hst=>h hd g a w (hst.weaken he)
def Lf (e:Env) (H:ae):Prop:=(∀ t,Low H.length (e t))∧∀(o:Nat) cs,H[o]?=some (.cells cs)→∀ x∈cs,Low H.length x
theorem z7 [Dfr] {P:Program} {gl:aC} {n:Nat} {x:Code} {Q:Ex→Env→ae→Prop} {e:Env} {H:ae} {σ:Type} (I:σ→Prop) (E:σ→Env) (Hp:σ→ae) (m:σ→Nat) (s0:σ) (h0:I s0) (he:rR e (E s0)) (hH:H=Hp s0)
  (round:∀ s,I s→AW P gl n x (fun ex e' H'=>match ex with
   | .normal=>∃ s',m s'<m s∧I s'∧e'=E s'∧H'=Hp s'
   | .exit i=>Q (.exit i) e' H'
   | .ret=>Q .ret e' H') (E s) (Hp s)):AW P gl n (.loop x) Q e H:=by
 subst hH
 refine AW.of_le he ?_
 refine AW.mono (Q:=post P gl n (.fin Q)) ?_ fun ex e H k=>k
 refine FW (fun k e H=>∃ s,k=m s∧I s∧e=E s∧H=Hp s) (m s0) ⟨s0,rfl,h0,rfl,rfl⟩ ?_
 rintro k e1 H1 ⟨s,rfl,hI,rfl,rfl⟩
 refine(round s hI).mono fun ex e' H' h=>?_
 cases ex with
 | normal=>
  obtain⟨s',h1,h2,h3,h4⟩:=h
  exact⟨m s',h1,s',rfl,h2,h3,h4⟩
 | exit i=>exact h
 | ret=>exact h
end Go.AM

namespace Go.AM
open Go
def az (H X:ae):Prop:=H=X
def ak (xs ys:List PV):Prop:=xs=ys
structure Holds (p:Prop):Prop where
 out:p
theorem ag {p q:Prop} (e:p=q) (h:p):Holds q:=⟨e▸h⟩
def av:List Nat→List PV→Env
 | t::ts,v::vs=>fun k=>match k == t with
  | true=>v
  | false=>av ts vs k
 | _,_=>fun _=> .any
theorem bQ (e:Env):∀(ts:List Nat),rR e (av ts (ts.map e))
 | []=>fun t=> .inr rfl
 | t::ts=>fun k=>by
  simp only[List.map_cons,av]
  cases h:k == t with
  | true=>exact .inl (by rw[show k=t by simpa using h])
  | false=>exact bQ e ts k
theorem rY:∀(ts:List Nat) (vs:List PV) (k:Nat),av ts vs k∈vs∨av ts vs k = .any
 | t::ts,v::vs,k=>by
  simp only[av]
  cases k == t with
  | true=>exact .inl List.mem_cons_self
  | false=>exact(rY ts vs k).imp (List.mem_cons_of_mem _) id
 | [],_,_=> .inr (by unfold av; rfl)
 | _::_,[],_=> .inr (by unfold av; rfl)
theorem BJ {n:Nat} {ts:List Nat} {vs:List PV} (h:∀ v∈vs,Low n v) (k:Nat):Low n (av ts vs k):=by
 rcases rY ts vs k with h1|h1
 ·exact h _ h1
 ·rw[h1]; exact .any
theorem yX [Dfr] {P:Program} {gl:aC} (hgl:aU gl) {n:Nat} {x:Code} {Q:Ex→Env→ae→Prop} {e:Env} {H:ae} {σ:Type} (slots:List Nat) (I:σ→Prop) (V:σ→List PV) (Hp:σ→ae) (m:σ→Nat) (s0:σ)
  (h0:I s0) (he:slots.map e=V s0) (hH:H=Hp s0)
  (round:∀ s,I s→AW P gl n x (fun ex e' H'=>match ex with
   | .normal=>∃ s' G,m s'<m s∧I s'∧slots.map e'=V s'∧H'=Hp s'++G∧(Hp s).length≤(Hp s').length∧(G=[]∨((∀ v∈V s',Low (Hp s').length v)∧∀(o:Nat) cs,(Hp s')[o]?=some (.cells cs)→∀ x∈cs,Low (Hp s').length x))
   | .exit i=>Q (.exit i) (av slots (slots.map e')) H'
   | .ret=>Q .ret (av slots (slots.map e')) H') (av slots (V s)) (Hp s)):AW P gl n (.loop x) Q e H:=by
 refine z7 (σ:=σ) I (fun s=>av slots (V s)) Hp m s0 h0 (by rw[← he]; exact bQ e slots) hH fun s hI=>?_
 have key:AW P gl n x (fun ex e' H'=>match ex with
   | .normal=>∃ s',m s'<m s∧I s'∧(∃ G,slots.map e'=V s'∧H'=Hp s'++G∧(Hp s).length≤(Hp s').length∧(G=[]∨((∀ v∈V s',Low (Hp s').length v)∧∀(o:Nat) cs,(Hp s')[o]?=some (.cells cs)→∀ x∈cs,Low (Hp s').length x)))
   | .exit i=>Q (.exit i) (av slots (slots.map e')) H'
   | .ret=>Q .ret (av slots (slots.map e')) H') (av slots (V s)) (Hp s):=(round s hI).mono fun ex e' H' h=>by
  cases ex with
  | normal=>obtain⟨s',G,h1,h2,h3⟩:=h; exact⟨s',h1,h2,G,h3⟩
  | exit i=>exact h
  | ret=>exact h
 intro hd g a w hst
 refine wp_mono (key hd g a w hst) ?_
 rintro ex a' w' ⟨ex',g',e',H',k0,k1,k2,k4⟩
 cases ex' with
 | exit i=>exact⟨.exit i,g',_,H',k0,k1.weaken (bQ e' slots),k2,k4⟩
 | ret=>exact⟨.ret,g',_,H',k0,k1.weaken (bQ e' slots),k2,k4⟩
 | normal=>
  obtain⟨s',h1,h2,G,h3,rfl,h5,h6⟩:=k4
  have k5:=k1.weaken (bQ e' slots)
  rw[h3] at k5
  rcases h6 with rfl|⟨h6,h7⟩
  ·rw[List.append_nil] at k5 k2
   exact⟨.normal,g',_,_,k0,k5,k2,s',h1,h2,rfl,rfl⟩
  ·have hlow:Lf (av slots (V s')) (Hp s'):=⟨fun t=>BJ h6 t,h7⟩
   have hS':=k5.sim
   refine⟨.normal,g'.cutAt (Hp s').length,_,Hp s',k0,⟨?_,?_,⟨k5.env.1,fun t=>(k5.env.2 t).cutAt (hlow.1 t)⟩,k5.dfr⟩,?_,s',h1,h2,rfl,rfl⟩
   ·refine⟨rfl,fun o o' ob ob' b h1 h2=>by rw[nt]; exact hS'.inj o o' ob ob' b (cY h1) (cY h2),fun o cs h1=>?_,fun o h1=>hS'.tok o (cY h1),hS'.imm,fun o r h1=>hS'.abs o r (cY h1)⟩
    obtain⟨⟨C,ty,e1,e2⟩,e3⟩:=hS'.cells o cs (cY h1)
    exact⟨⟨C,ty,e1,e2.1,fun q y u hy hu=>(e2.2 q y u hy hu).cutAt (hlow.2 o cs h1 y (List.mem_iff_getElem?.2 ⟨q,hy⟩))⟩,e3⟩
   ·intro k cs hk
    refine⟨(k5.glob k cs hk).1,fun q x hx=>?_⟩
    obtain⟨h1,c,h2,h3⟩:=(k5.glob k cs hk).2 q x hx
    refine⟨h1,c,h2,h3.cutAt ?_⟩
    have hz:=hgl k cs hk x (List.mem_iff_getElem?.2 ⟨q,hx⟩)
    exact hz.up
   ·have hn:g.n=(Hp s).length:=hst.sim.n
    refine⟨⟨by rw[hn]; exact h5,k2.gx.bk,k2.gx.en,k2.gx.sz,k2.gx.imm,k2.gx.cell⟩,k2.size,fun b hb ho=>?_,k2.frame,k2.os,k2.tape,k2.output,k2.im⟩
    obtain⟨o,ob,j1,j2,j3⟩:=ho
    rw[nt] at j3
    exact k2.ow b hb ⟨o,ob,cY j1,j2,j3⟩
def vM {σ:Type} (Q:Ex→Env→ae→Prop) (slots:List Nat) (I:σ→Prop) (V:σ→List PV) (Hp:σ→ae) (m:σ→Nat) (s:σ):Ex→List PV→ae→Prop:=fun ex vs H'=>match ex with
 | .normal=>∃ s',m s'<m s∧I s'∧vs=V s'∧∃ G,H'=Hp s'++G∧(Hp s).length≤(Hp s').length∧(G=[]∨((∀ v∈V s',Low (Hp s').length v)∧∀(o:Nat) cs,(Hp s')[o]?=some (.cells cs)→∀ x∈cs,Low (Hp s').length x))
 | .exit i=>Q (.exit i) (av slots vs) H'
 | .ret=>Q .ret (av slots vs) H'
theorem aG [Dfr] {P:Program} {gl:aC} (hgl:aU gl) {n:Nat} {T:Tab} (hT:aB P gl T) {L:kg} {hn:Oper→Nat} {x:Code} (hL:LOk P gl n x [] L) {Q:Ex→Env→ae→Prop} {e:Env} {H:ae} {σ:Type} (slots:List Nat) (I:σ→Prop) (V:σ→List PV) (Hp:σ→ae) (m:σ→Nat) (s0:σ)
  (h0:I s0) (he:slots.map e=V s0) (hH:H=Hp s0)
  (round:∀ s,I s→Holds (wpc br P gl T L hn x [] (av slots (V s)) (Hp s) (fun ex e' H'=>vM Q slots I V Hp m s ex (slots.map e') H'))):AW P gl n (.loop x) Q e H:=by
 refine yX hgl slots I V Hp m s0 h0 he hH fun s hI=>(aY hT x [] hL _ _ _ (round s hI).out).mono fun ex e' H' h=>?_
 cases ex with
 | normal=>obtain⟨s',h1,h2,h3,G,h4⟩:=h; exact⟨s',G,h1,h2,h3,h4⟩
 | exit i=>exact h
 | ret=>exact h
theorem dY {n:Nat} {k:IntKind} {a:Int}:Low n (.int k a)↔True:=⟨fun _=>trivial,fun _=> .int _ _⟩
theorem eM {P:Program} {gl:aC} (hgl:aU gl) {f:FuncId} {args:List PV} {r:PV} {K:PV→Prop} (ha:∀ x∈args,Low 0 x) (hr:Low 0 r) (h:aj P gl f args [] (fun x _=>x=r)) (hk:K r):∃ r,ix P gl f args r∧K r:=
 ⟨r,.alone hgl ha hr h,hk⟩
theorem wrap_i64 {n:Int} (h1: -9223372036854775808≤n) (h2:n≤9223372036854775807):IntKind.wrap .i64 n=n:=by
 simp only[IntKind.wrap,IntKind.bits,IntKind.signed]; simp; omega
theorem wrap_u64 {n:Int} (h1:0≤n) (h2:n<18446744073709551616):IntKind.wrap .u64 n=n:=by
 simp only[IntKind.wrap,IntKind.bits,IntKind.signed]; simp; omega
theorem wrap_u32 {n:Int} (h1:0≤n) (h2:n<4294967296):IntKind.wrap .u32 n=n:=by
 simp only[IntKind.wrap,IntKind.bits,IntKind.signed]; simp; omega
theorem ay (b:Bool) (X Y:Prop):br b X Y=if b=true then X else Y:=by cases b<;>rfl
def ai (fn:Func):Code:=fn.body.getD .skip
def an (p:List Nat) (c:Code):Code:=match sub p c with
 | some (.loop x)=>x
 | _=> .skip
theorem aH {p:List Nat} {c:Code} (h:(match sub p c with|some (.loop _)=>true|_=>false)=true):sub p c=some (.loop (an p c)):=by
 unfold an
 split at h
 ·rename_i x hx; rw[hx]
 ·cases h
theorem ah {P:Program} {gl:aC} {f:FuncId} {fn:Func} {T:Tab} {L:kg} (hn:Oper→Nat) (hf:P.funcs[f]?=some fn) (hb:fn.body.isSome=true) (hd:bN fn.ntmps (ai fn)=true) {args:List PV} (hsz:Nat.ble args.length fn.ntmps=true) {H:ae} {K:PV→ae→Prop}
  (hT:aB P gl T) (hL:LOk P gl fn.ntmps (ai fn) [] L) (h:Holds (wpc br P gl T L hn (ai fn) [] (po args) H (kW P fn.results.toList K))):aj P gl f args H K:=
 pc hn hf (by unfold ai; cases hq:fn.body with
  | none=>rw[hq] at hb; cases hb
  | some c=>rfl) hd (Nat.le_of_ble_eq_true hsz) hT hL h.out
end Go.AM

namespace Go.AM
open Go
theorem pb {H:Type} {enc:TypeId×Value→H} {P:Program} {w:World} {base:Nat} {sp:Nat→Bool} {held:Bool} {fuel n:Nat} {t e:TypeId} {k:IntKind} {cs:List Value} {ns:List Int} {p:List MemPlace}
  (ht:P.underlying t=some (.array n e)) (he:P.underlying e=some (.int k)) (h1:P.cellsOf e=1) (hn:P.cellsOf t=n)
  (hd:DataW.trod enc P w base sp held fuel t cs=some (.agg (ns.map fun m=> .lit (.int k m)),p)):cs=ns.map (Value.int k):=by
 obtain⟨xs,m,rfl,hx,hl,hs,hi⟩:=DataW.trod_array ht hd
 have hxs:xs.map (·.1)=ns.map fun m=> .lit (.int k m):=by
  have:=congrArg Prod.fst hx
  simpa using this.symm
 have hlen:xs.length=ns.length:=by simpa using congrArg List.length hxs
 apply List.ext_getElem?
 intro i
 by_cases hin:i<n
 ·have h2:=hi i hin
  rw[h1,Nat.mul_one] at h2
  have hc:i<cs.length:=by rw[hl,hn]; exact hin
  have hd1:(cs.drop i).take 1=[cs[i]]:=by
   rw[List.drop_eq_getElem_cons hc]; rfl
  have hix:i<xs.length:=by omega
  rw[hd1,List.getElem?_eq_getElem hix] at h2
  obtain⟨q,e1,e2,_⟩:=DataW.trod_int he h2
  have e3:(xs.map (·.1))[i]?=(ns.map fun m=>DataW.lit (H:=H) (.int k m))[i]?:=by rw[hxs]
  rw[List.getElem?_map,List.getElem?_eq_getElem hix,e2,List.getElem?_map,List.getElem?_eq_getElem (by omega)] at e3
  simp only[Option.map_some,Option.some.injEq,DataW.lit.injEq,Lit.int.injEq,true_and] at e3
  rw[List.getElem?_eq_getElem hc,List.getElem?_map,List.getElem?_eq_getElem (by omega),← e3]
  simp only[List.cons.injEq,and_true] at e1
  rw[e1]; rfl
 ·rw[List.getElem?_eq_none (by rw[hl,hn]; omega),List.getElem?_eq_none (by simp; omega)]
theorem ju {P:Program} {W:World} {name:String} {d:DataW Unit} {L:List (String×DataW Unit)} {ns:List Int} {k:IntKind} {g n:Nat} {t e:TypeId}
  (hg:P.globalNamed name=some g) (htg:(P.globals[g]?).map (·.type)=some t) (ht:P.underlying t=some (.array n e)) (he:P.underlying e=some (.int k)) (h1:P.cellsOf e=1) (hn:P.cellsOf t=n)
  (hd:d = .agg (ns.map fun m=> .lit (.int k m))) {ps:List MemPlace} (h:DataW.LaidVars P W ((name,d)::L) ps):
  (∀ q,q<(ns.map (Value.int k)).length→W.cell? ⟨g,q,none⟩=(ns.map (Value.int k))[q]?)∧∃ ps',DataW.LaidVars P W L ps':=by
 obtain⟨g',t',cs,fuel,p,q,hg',ht',hvar,hd',hr,_⟩:=h
 obtain rfl:=Option.some.inj (hg.symm.trans hg')
 obtain rfl:=Option.some.inj (htg.symm.trans ht')
 subst hd
 have hc:=pb ht he h1 hn hd'
 refine⟨fun i hi=>?_,_,hr⟩
 rw[← hc,Array.getElem?_toList]
 exact World.var?_cell hg hvar i
theorem lI {g:Gh} {w:World} (k:IntKind):∀ ns:List Int,aR g w (ns.map (PV.int k)) (ns.map (Value.int k))
 | []=> .nil
 | n::ns=> .cons (.int k n) (lI k ns)
end Go.AM

namespace Go.AM
open Go
def en1 (k:IntKind) (ns:List Int):List (List PV):=ns.map fun n=>[PV.int k n]
theorem bW (k:IntKind) (ns:List Int):(en1 k ns).length=ns.length:=by simp[en1]
theorem wF (k:IntKind) (ns:List Int):uni 1 (en1 k ns):=by
 intro e he
 simp only[en1,List.mem_map] at he
 obtain⟨n,_,rfl⟩:=he; rfl
theorem sv (k:IntKind) (ns:List Int):(en1 k ns).flatten=ns.map (PV.int k):=by
 induction ns with
 | nil=>rfl
 | cons n ns ih=>simp only[en1,List.map_cons,List.flatten_cons] at ih ⊢; rw[ih]; rfl
theorem wq (k:IntKind) (ns:List Int) (i:Nat) (h:i<ns.length):(en1 k ns).getD i []=[PV.int k (ns.getD i 0)]:=by
 rw[List.getD_eq_getElem?_getD,en1,List.getElem?_map,List.getElem?_eq_getElem h,List.getD_eq_getElem?_getD,List.getElem?_eq_getElem h]; rfl
theorem uX (k:IntKind) (ns:List Int) (i:Int) (h0:0≤i) (h:i<ns.length):InL (en1 k ns) 1 i:=
 ⟨h0,by rw[bW]; omega,wF k ns,by decide⟩
theorem vG {n:Nat} (k:IntKind) (ns:List Int):∀ x∈(en1 k ns).flatten,Low n x:=by
 rw[sv]; intro x hx
 simp only[List.mem_map] at hx
 obtain⟨m,_,rfl⟩:=hx
 exact .int _ _
theorem Gz (k:IntKind) (m:Int):aP [CK.int k] 0 [PV.int k m]=true:=by simp[aP,BN]
theorem oI (k:IntKind) (ns:List Int) (i:Nat) (h:i<ns.length):aP [CK.int k] 0 (List.drop i (ns.map (PV.int k)))=true:=by
 simp only[aP,Bool.and_true,List.getElem?_drop,Nat.add_zero,List.getElem?_map,List.getElem?_eq_getElem h,Option.map_some,BN,beq_self_eq_true]
theorem qY (k:IntKind) (ns:List Int) (i:Nat):cI (List.drop i (ns.map (PV.int k))) 0=ns.getD i 0:=by
 unfold cI
 simp only[List.getElem?_drop,Nat.add_zero,List.getElem?_map,List.getD_eq_getElem?_getD]
 cases ns[i]?<;>rfl
theorem qU (k:IntKind) (ns:List Int) (i:Nat) (h:i<ns.length):aP [CK.int k] 0 ((en1 k ns).getD i [])=true:=by rw[wq k ns i h]; exact Gz k _
theorem tW (k:IntKind) (ns:List Int) (i:Nat):cI ((en1 k ns).getD i []) 0=ns.getD i 0:=by
 rcases Nat.lt_or_ge i ns.length with h|h
 ·rw[wq k ns i h]; rfl
 ·rw[List.getD_eq_getElem?_getD,List.getD_eq_getElem?_getD,List.getElem?_eq_none (by rw[bW]; exact h),List.getElem?_eq_none h]; rfl
theorem B3 (k:IntKind) (ns:List Int):(ns.map (PV.int k)).length=ns.length:=by simp
theorem xI (k:IntKind) (ns:List Int) (i:Nat) (m:Int) (h:i<ns.length):over (ns.map (PV.int k)) i [PV.int k m]=(ns.set i m).map (PV.int k):=by
 unfold over
 apply List.ext_getElem?
 intro j
 simp only[List.map_set]
 rw[List.getElem?_set]
 by_cases hj:j<i
 ·rw[if_neg (by omega),List.append_assoc,List.getElem?_append_left (by simp; omega),List.getElem?_take,if_pos hj]
 ·by_cases he:i=j
  ·subst he
   rw[if_pos rfl,if_pos (by simpa using h),List.append_assoc,List.getElem?_append_right (by simp; omega)]
   have:min i ns.length=i:=by omega
   simp[this]
  ·rw[if_neg he,List.append_assoc,List.getElem?_append_right (by simp; omega),List.getElem?_append_right (by simp; omega),List.getElem?_drop]
   congr 1
   simp
   omega
theorem zS (k:IntKind) (n:Nat) (m:Int):(List.replicate n [PV.int k m]).flatten=(List.replicate n m).map (PV.int k):=by
 induction n with
 | zero=>rfl
 | succ n ih=>simp only[List.replicate_succ,List.flatten_cons,ih]; simp
def NT (t:Tail):Prop:=∀ o,t ≠ .tok o
theorem NT.no:NT .no:=fun _ h=>by cases h
theorem NT.exact:NT .exact:=fun _ h=>by cases h
theorem aI {n:Nat} {es:List (List PV)} {t:Tail} (ht:NT t) (h:∀ x∈es.flatten,Low n x):Low n (.list es t):= .list _ _ (fun o e=>absurd e (ht o)) h
theorem ej {n:Nat} {ns:List Int} {k:IntKind} {t:Tail} (ht:NT t):Low n (.list (en1 k ns) t):=aI ht (vG k ns)
theorem o8 {P:Program} {gl:aC} {f:FuncId} {args:List PV} {K:PV→Prop} (h:aj P gl f args [] (fun x H'=>∃(o len cap sz:Nat) (cs rest:List PV) (es:List (List PV)),x = .arr o 0 len cap∧H'[o]?=some (.cells cs)∧uni sz es∧es.length=len∧len≤cap∧cs=es.flatten++rest∧K (.list es .no))):
  aj P gl f args [] (fun x _=>K x):=by
 intro g w vs hS hG hR
 refine(h g w vs hS hG hR).mono ?_
 rintro e w' ⟨v,g',H',x,rfl,hS',hX,hr,o,len,cap,sz,cs,rest,es,rfl,ho,hu,hl,hc,hcs,hk⟩
 obtain⟨g2,k1,k2,k3⟩:=hS'.freeze ho
 cases hr with
 | arr _ _ _ _ hlt=>
  refine⟨_,g2,_,.list es .no,rfl,k1,hX.trans k2,?_,hk⟩
  have hbk:g'.bk o=g2.bk o:=(k2.gx.bk o hlt).symm
  rw[hcs] at k3
  subst hl
  refine Rel.aT.2 ⟨some ⟨g'.bk o,0,none⟩,cap,rfl,fT hu,hc,trivial,.inr ⟨_,rfl,k3.front⟩⟩
end Go.AM

namespace Go.AM
open Go
def uF (n0:Nat) (ρ:Nat→Nat) (x' x:PV):Prop:=
 (x'=x∧Low n0 x)∨∃ es o,x = .list es (.tok o)∧x' = .list es (.tok (ρ o))∧n0≤o∧∀ y∈es.flatten,Low n0 y
structure Relab (n0:Nat) (vs':List PV) (H':ae) (vs:List PV) (H:ae):Prop where
 len:n0≤H.length
 base:∀ o,o<n0→H[o]?=H'[o]?∧∀ cs,H[o]?=some (.cells cs)→∀ x∈cs,Low n0 x
 ex:∃ ρ:Nat→Nat,(∀ o,n0≤o→o<H.length→n0≤ρ o∧H[o]?=some .tok∧H'[ρ o]?=some .tok)∧(∀ o o',n0≤o→o<H.length→n0≤o'→o'<H.length→ρ o=ρ o'→o=o')∧
  vs'.length=vs.length∧(∀(q:Nat) (x' x:PV),vs'[q]?=some x'→vs[q]?=some x→uF n0 ρ x' x)∧∀(q:Nat) (es:List (List PV)) (o:Nat),vs[q]?=some (PV.list es (.tok o))→o<H.length
theorem St.Kn [Dfr] {gl:aC} (hgl:aU gl) {n:Nat} {g0 g:Gh} {H0 H' H:ae} {w0 w:World} {slots:List Nat} {vs' vs:List PV} {a:Act} (hst:St gl n g (av slots vs') H' a w) (hx:Ext g0 H0 w0 g H' w) (hn:g0.n=H0.length)
  (hr:Relab H0.length vs' H' vs H):∃ g3,St gl n g3 (av slots vs) H a w∧Ext g0 H0 w0 g3 H w:=by
 obtain⟨hlen,hbase,ρ,hρ,hinj,hvl,hv,hvt⟩:=hr
 have hS:=hst.sim
 have hn0:H0.length≤g.n:=by rw[← hn]; exact hx.gx.n
 let τ:Nat→Nat:=fun o=>if o<H0.length then o else ρ o
 have hτ:∀(o:Nat) ob,H[o]?=some ob→H'[τ o]?=some ob:=by
  intro o ob ho
  by_cases h:o<H0.length
  ·simp only[τ,if_pos h]; rw[← (hbase o h).1]; exact ho
  ·have hlt:=(List.getElem?_eq_some_iff.1 ho).1
   obtain⟨_,h2,h3⟩:=hρ o (by omega) hlt
   simp only[τ,if_neg h]
   rw[h2] at ho; cases ho; exact h3
 let g3:Gh:=⟨H.length,fun o=>g.bk (τ o),fun o=>g.en (τ o),fun o=>g.sz (τ o),g.imm,fun o=>g.fp (τ o)⟩
 have hb3:∀ ob o b,blk g3 ob o b=blk g ob (τ o) b:=fun ob o b=>by cases ob<;>rfl
 have hτ0:∀ o,o<H0.length→τ o=o:=fun o h=>by simp only[τ,if_pos h]
 have gx0:bL (g.cutAt H0.length) w g3 w:=
  ⟨hlen,fun o ho=>by show g.bk (τ o)=_; rw[hτ0 o ho]; rfl,fun o ho=>by show g.en (τ o)=_; rw[hτ0 o ho]; rfl,fun o ho=>by show g.sz (τ o)=_; rw[hτ0 o ho]; rfl,fun _ _ h=>h,fun _ _ _=>rfl⟩
 have up:∀ {x:PV} {v:Value},Rel g w x v→Low H0.length x→Rel g3 w x v:=fun h hl=>(h.cutAt hl).mono gx0
 refine⟨g3,⟨?_,?_,⟨hst.env.1,fun t=>?_⟩,hst.dfr⟩,?_⟩
 ·refine⟨rfl,fun o o' ob ob' b h1 h2 h3 h4 h5 h6=>?_,fun o cs h1=>?_,fun o h1=>?_,hS.imm,fun o r h1=>hS.abs (τ o) r (hτ o _ h1)⟩
  ·rw[hb3] at h5 h6
   have e:=hS.inj (τ o) (τ o') ob ob' b (hτ o ob h1) (hτ o' ob' h2) h3 h4 h5 h6
   have l1:=(List.getElem?_eq_some_iff.1 h1).1
   have l2:=(List.getElem?_eq_some_iff.1 h2).1
   by_cases c1:o<H0.length<;>by_cases c2:o'<H0.length<;>simp only[τ,c1,c2,if_true,if_false] at e
   ·exact e
   ·have:=(hρ o' (by omega) l2).1; omega
   ·have:=(hρ o (by omega) l1).1; omega
   ·exact hinj o o' (by omega) l1 (by omega) l2 e
  ·have c1:o<H0.length:=by
    rcases Nat.lt_or_ge o H0.length with h|h
    ·exact h
    ·have l1:=(List.getElem?_eq_some_iff.1 h1).1
     rw[(hρ o h l1).2.1] at h1; cases h1
   have h2:=hτ o _ h1
   obtain⟨⟨C,ty,e1,e2⟩,e3⟩:=hS.cells (τ o) cs h2
   exact⟨⟨C,ty,e1,e2.1,fun q y u hy hu=>up (e2.2 q y u hy hu) ((hbase o c1).2 cs h1 y (List.mem_iff_getElem?.2 ⟨q,hy⟩))⟩,e3⟩
  ·exact hS.tok (τ o) (hτ o _ h1)
 ·intro k cs hk
  refine⟨(hst.glob k cs hk).1,fun q x hq=>?_⟩
  obtain⟨h1,c,h2,h3⟩:=(hst.glob k cs hk).2 q x hq
  exact⟨h1,c,h2,up h3 (hgl k cs hk x (List.mem_iff_getElem?.2 ⟨q,hq⟩)).up⟩
 ·
  have key:∀(ts:List Nat) (us' us:List PV),us'.length=us.length→(∀(q:Nat) (x' x:PV),us'[q]?=some x'→us[q]?=some x→uF H0.length ρ x' x)→(∀(q:Nat) (es:List (List PV)) (o:Nat),us[q]?=some (PV.list es (.tok o))→o<H.length)→
    (∀ v,Rel g w (av ts us' t) v→Rel g3 w (av ts us t) v):=by
   intro ts
   induction ts with
   | nil=>intro us' us _ _ _ v h; unfold av at h ⊢; exact .any v
   | cons k ts ih=>
    intro us' us hl hu ht v h
    cases us' with
    | nil=>
     cases us with
     | nil=>unfold av; exact .any v
     | cons _ _=>simp at hl
    | cons x' us'=>
     cases us with
     | nil=>simp at hl
     | cons x us=>
      simp only[av] at h ⊢
      cases hk:t == k with
      | true=>
       rw[hk] at h
       simp only at h ⊢
       rcases hu 0 x' x rfl rfl with⟨rfl,hlow⟩|⟨es,o,rfl,rfl,ho,hlow⟩
       ·exact up h hlow
       ·have hol:=ht 0 es o rfl
        obtain⟨a',cap,rfl,h1,h2,h3,h4⟩:=Rel.aT.1 h
        refine Rel.aT.2 ⟨a',cap,rfl,h1,h2,?_,?_⟩
        ·obtain⟨k1,A,s,k2,k3,k4,k5,k6,k7,k8⟩:=h3
         have e:τ o=ρ o:=by simp only[τ]; rw[if_neg (by omega)]
         refine⟨hol,A,s,k2,k3,?_,?_,k6,k7,?_⟩
         ·show _=g.bk (τ o); rw[e]; exact k4
         ·show _=g.en (τ o); rw[e]; exact k5
         ·show _≤g.sz (τ o); rw[e]; exact k8
        ·refine h4.imp id ?_
         rintro⟨A,k1,k2,k3⟩
         refine⟨A,k1,k2,fun q x hq=>?_⟩
         obtain⟨j1,c,j2,j3⟩:=k3 q x hq
         exact⟨j1,c,j2,up j3 (hlow x (List.mem_iff_getElem?.2 ⟨q,hq⟩))⟩
      | false=>
       rw[hk] at h
       simp only at h ⊢
       exact ih us' us (by simpa using hl) (fun q y' y h1 h2=>hu (q+1) y' y (by simpa using h1) (by simpa using h2)) (fun q es o h1=>ht (q+1) es o (by simpa using h1)) v h
  exact key slots vs' vs hvl hv hvt _ (hst.env.2 t)
 ·refine⟨⟨by rw[hn]; exact hlen,fun o ho=>?_,fun o ho=>?_,fun o ho=>?_,hx.gx.imm,hx.gx.cell⟩,hx.size,fun b hb ho=>?_,hx.frame,hx.os,hx.tape,hx.output,hx.im⟩
  ·show g.bk (τ o)=_; rw[hτ0 o (by rw[← hn]; exact ho)]; exact hx.gx.bk o ho
  ·show g.en (τ o)=_; rw[hτ0 o (by rw[← hn]; exact ho)]; exact hx.gx.en o ho
  ·show g.sz (τ o)=_; rw[hτ0 o (by rw[← hn]; exact ho)]; exact hx.gx.sz o ho
  ·obtain⟨o,ob,k1,k2,k3⟩:=ho
   rw[hb3] at k3
   exact hx.ow b hb ⟨τ o,ob,hτ o ob k1,k2,k3⟩
end Go.AM

