/-
  An abstract machine over values without memory, proved against the model; part 4. A tool for the proofs of this claim; it states nothing of the program.
-/
import Derived.Test.YtenaelaapdhbdaaA3
namespace Go.AM
open Go
structure ShutH (ρ:Nat→Nat) (hh:Heap) (q:Nat) (I:Heap→Prop) (H H2:Heap):Prop where
 sub:Sub ρ hh H
 root:Root hh
 it:I hh
 notok:NoTok hh
 zero:ρ 0=q
 len:H2.length=H.length
 at_:H2[q]?=some (.abs (whole I))
 off:∀(o:Nat) (b:Ob),o≠q→H2[o]?=some b→b.alive=true→H[o]?=some b∧∀ k,k<hh.length→ρ k≠o
theorem Sim.shutH {g:Gh} {H:Heap} {w:World} (hS:Sim g H w) {ρ:Nat→Nat} {hh:Heap} {q:Nat} {I:Heap→Prop} {H2:Heap} (h:ShutH ρ hh q I H H2):∃ g2,Sim g2 H2 w∧Ext g H w g2 H2 w∧Gext g w g2 w:=by
 let g0:Gh:=g.through ρ hh.length
 let g2:Gh:={ g with fp:=fun o b=>if o=q then own g0 hh b else g.fp o b }
 have hS0:Sim g0 hh w:=h.sub.sim hS
 have hgx:Gext g w g2 w:=⟨Nat.le_refl _,fun _ _=>rfl,fun _ _=>rfl,fun _ _=>rfl,fun _ _ h=>h,fun _ _ _=>rfl⟩
 have hfq:∀ b,g2.fp q b↔own g0 hh b:=fun b=>by show(if q=q then _ else _)↔_; rw[if_pos rfl]
 have hfo:∀ {o:Nat},o≠q→∀ b,g2.fp o b↔g.fp o b:=fun ho b=>by show(if _=q then _ else _)↔_; rw[if_neg ho]
 have blko:∀ {o:Nat} {ob:Ob} {b:Nat},o≠q→(blk g2 ob o b↔blk g ob o b):=fun {o ob b} ho=>blk_of (g:=g) (g':=g2) rfl (fun k=>hfo ho k) ob b
 have notin:∀ {o:Nat} {ob:Ob} {b:Nat},o≠q→H2[o]?=some ob→ob.alive=true→blk g2 ob o b→own g0 hh b→False:=by
  intro o ob b h1 h2 h3 h4 h5
  obtain⟨h6,h7⟩:=h.off o ob h1 h2 h3
  obtain⟨k,a,k1,k2,k3⟩:=h5
  obtain⟨b',j1,j2⟩:=h.sub.ob k a k1
  have hk:=(List.getElem?_eq_some_iff.1 k1).1
  have:=hS.inj (ρ k) o b' ob b j1 h6 (j2.alive k2) h3 ((blk_through g ρ _ j2 k2 k b).1 k3) ((blko h1).1 h4)
  exact h7 k hk this
 have qabs:∀ {ob:Ob},H2[q]?=some ob→ob = .abs (whole I):=fun hb=>by rw[h.at_] at hb; exact(Option.some.inj hb).symm
 refine⟨g2,⟨by rw[h.len]; exact hS.n,fun o o' ob ob' b h1 h2 h3 h4 h5 h6=>?_,fun o cs h1=>?_,fun o h1=>?_,hS.imm,fun o r h1=>?_⟩,⟨hgx,Nat.le_refl _,fun b _ ho=>?_,fun _ _ _=>rfl,rfl,rfl,rfl,fun _ _ _ h=> .inl h⟩,hgx⟩
 ·by_cases c:o=q<;>by_cases c':o'=q
  ·rw[c,c']
  ·subst c
   rw[qabs h1] at h5
   exact(notin c' h2 h4 h6 ((hfq b).1 h5)).elim
  ·subst c'
   rw[qabs h2] at h6
   exact(notin c h1 h3 h5 ((hfq b).1 h6)).elim
  ·exact hS.inj o o' ob ob' b (h.off o ob c h1 h3).1 (h.off o' ob' c' h2 h4).1 h3 h4 ((blko c).1 h5) ((blko c').1 h6)
 ·by_cases c:o=q
  ·subst c; cases qabs h1
  ·obtain⟨⟨C,ty,e1,e2⟩,e3⟩:=hS.cells o cs (h.off o _ c h1 rfl).1
   exact⟨⟨C,ty,e1,e2.mono hgx⟩,e3⟩
 ·by_cases c:o=q
  ·subst c; cases qabs h1
  ·exact hS.tok o (h.off o _ c h1 rfl).1
 ·by_cases c:o=q
  ·subst c
   cases qabs h1
   obtain⟨cs,hcs⟩:=h.root
   have e:g2.fp o=own g0 hh:=funext fun b=>propext (hfq b)
   rw[e]
   refine⟨⟨g0,hh,h.it,hS0,h.notok,rfl,⟨cs,hcs⟩,by show g.bk (ρ 0)=g.bk o; rw[h.zero],fun k=>Iff.rfl⟩,⟨0,_,hcs,rfl,by show g.bk (ρ 0)=g.bk o; rw[h.zero]⟩,fun b hb=>⟨own_lt hS0 hb,fun q'=>own_fresh hS0 h.notok hb q'⟩⟩
  ·have e:g2.fp o=g.fp o:=funext fun b=>propext (hfo c b)
   rw[e]
   exact hS.abs o r (h.off o _ c h1 rfl).1
 ·obtain⟨o,ob,h1,h2,h3⟩:=ho
  by_cases c:o=q
  ·subst c
   rw[qabs h1] at h3
   exact h.sub.own ((hfq b).1 h3)
  ·exact⟨o,ob,(h.off o ob c h1 h2).1,h2,(blko c).1 h3⟩
theorem AW.shut {P:Program} {gl:Glob} {n:Nat} {c:Code} {Q:Ex→Env→Heap→Prop} {e:Env} {H H2:Heap} {ρ:Nat→Nat} {hh:Heap} {q:Nat} {I:Heap→Prop} (h:ShutH ρ hh q I H H2) (hk:AW P gl n c Q e H2):AW P gl n c Q e H:=by
 intro hd g a w hst
 obtain⟨g2,k1,k2,k3⟩:=hst.sim.shutH h
 refine wp_mono (hk hd g2 a w ⟨k1,hst.glob.mono k3,hst.env.mono k3,hst.dfr⟩) ?_
 rintro ex a' w' ⟨ex',g',e',H',j0,j1,j2,j3⟩
 exact⟨ex',g',e',H',j0,j1,k2.trans j2,j3⟩
theorem AW.shutQ {P:Program} {gl:Glob} {n:Nat} {c:Code} {Q:Ex→Env→Heap→Prop} {e:Env} {H:Heap} (hk:AW P gl n c (fun ex e' H'=>∃(ρ:Nat→Nat) (hh:Heap) (q:Nat) (I:Heap→Prop) (H2:Heap),ShutH ρ hh q I H' H2∧Q ex e' H2) e H):AW P gl n c Q e H:=by
 intro hd g a w hst
 refine wp_mono (hk hd g a w hst) ?_
 rintro ex a' w' ⟨ex',g',e',H',j0,j1,j2,ρ,hh,q,I,H2,h,j3⟩
 obtain⟨g2,k1,k2,k3⟩:=j1.sim.shutH h
 exact⟨ex',g2,e',H2,j0,⟨k1,j1.glob.mono k3,j1.env.mono k3,j1.dfr⟩,j2.trans k2,j3⟩
inductive Nm (ρ:Nat→Nat) (n:Nat):PV→PV→Prop where
 | low {x:PV} (h:Low 0 x):Nm ρ n x x
 | arr (o off len cap:Nat) (h:o<n):Nm ρ n (.arr o off len cap) (.arr (ρ o) off len cap)
inductive NmL (ρ:Nat→Nat) (n:Nat):List PV→List PV→Prop where
 | nil:NmL ρ n [] []
 | cons {x y:PV} {xs ys:List PV} (h:Nm ρ n x y) (hs:NmL ρ n xs ys):NmL ρ n (x::xs) (y::ys)
theorem NmL.low {ρ:Nat→Nat} {n:Nat}:∀ {xs:List PV},(∀ x∈xs,Low 0 x)→NmL ρ n xs xs
 | [],_=> .nil
 | x::xs,h=> .cons (.low (h x (by simp))) (NmL.low fun y hy=>h y (by simp[hy]))
theorem NmL.length {ρ:Nat→Nat} {n:Nat} {xs ys:List PV} (h:NmL ρ n xs ys):xs.length=ys.length:=by
 induction h with
 | nil=>rfl
 | cons _ _ ih=>simp[ih]
theorem NmL.get {ρ:Nat→Nat} {n:Nat} {xs ys:List PV} (h:NmL ρ n xs ys):∀(q:Nat) (x y:PV),xs[q]?=some x→ys[q]?=some y→Nm ρ n x y:=by
 induction h with
 | nil=>intro q x y h; simp at h
 | cons h _ ih=>
  intro q x y h1 h2
  cases q with
  | zero=>simp at h1 h2; subst h1; subst h2; exact h
  | succ q=>exact ih q x y (by simpa using h1) (by simpa using h2)
theorem Nm.to {ρ:Nat→Nat} {n:Nat} {g0 g2:Gh} {w:World} (hbk:∀ o,o<n→ρ o<g2.n∧g2.bk (ρ o)=g0.bk o) (himm:g2.imm=g0.imm) {x y:PV} (h:Nm ρ n x y) {v:Value} (hv:Rel g0 w x v):Rel g2 w y v:=by
 cases h with
 | low h=>exact low_cong hv h himm
 | arr o off len cap ho=>
  cases hv
  obtain⟨h1,h2⟩:=hbk o ho
  rw[← h2]; exact .arr _ _ _ _ h1
theorem NmL.to {ρ:Nat→Nat} {n:Nat} {g0 g2:Gh} {w:World} (hbk:∀ o,o<n→ρ o<g2.n∧g2.bk (ρ o)=g0.bk o) (himm:g2.imm=g0.imm) {xs ys:List PV} (h:NmL ρ n xs ys) {vs:List Value} (hr:RelL g0 w xs vs):RelL g2 w ys vs:=by
 refine⟨by rw[← h.length]; exact hr.1,fun q y u hy hu=>?_⟩
 have hq:q<xs.length:=by rw[h.length]; exact(List.getElem?_eq_some_iff.1 hy).1
 exact(h.get q xs[q] y (List.getElem?_eq_getElem hq) hy).to hbk himm (hr.2 q _ u (List.getElem?_eq_getElem hq) hu)
def ρopen (q N:Nat):Nat→Nat:=fun k=>if k=0 then q else N+(k-1)
structure OpenH (q:Nat) (hh H H2:Heap):Prop where
 len:H2.length=H.length+(hh.length-1)
 off:∀ o,o<H.length→o≠q→H2[o]?=H[o]?
 on:∀(k:Nat) (a:Ob),hh[k]?=some a→a = .dead∧H2[ρopen q H.length k]?=some .dead∨∃ cs cs',a = .cells cs∧H2[ρopen q H.length k]?=some (.cells cs')∧NmL (ρopen q H.length) hh.length cs cs'
theorem Sim.openW {g:Gh} {H:Heap} {w:World} (hS:Sim g H w) {q:Nat} {I:Heap→Prop} (hq:H[q]?=some (.abs (whole I))):∃ hh,I hh∧Root hh∧∀ H2,OpenH q hh H H2→∃ g2,Sim g2 H2 w∧Ext g H w g2 H2 w∧Gext g w g2 w:=by
 obtain⟨⟨g0,hh,h1,hS0,h3,h4,h5,h6,h7⟩,h8,h9⟩:=hS.abs q _ hq
 have hql:=(List.getElem?_eq_some_iff.1 hq).1
 have hn0:0<hh.length:=by obtain⟨cs,e⟩:=h5; exact(List.getElem?_eq_some_iff.1 e).1
 refine⟨hh,h1,h5,fun H2 ho=>?_⟩
 have hn:g.n=H.length:=hS.n
 let g2:Gh:=⟨H2.length,fun o=>if o<H.length then g.bk o else g0.bk (o-H.length+1),fun o=>if o<H.length then g.en o else g0.en (o-H.length+1),fun o=>if o<H.length then g.sz o else g0.sz (o-H.length+1),g.imm,g.fp⟩
 have hlen:=ho.len
 have hbk:∀ k,k<hh.length→ρopen q H.length k<g2.n∧g2.bk (ρopen q H.length k)=g0.bk k:=by
  intro k hk
  unfold ρopen
  by_cases c:k=0
  ·subst c
   rw[if_pos rfl]
   exact⟨by show q<H2.length; omega,by show(if _ then _ else _)=_; rw[if_pos hql,h6]⟩
  ·rw[if_neg c]
   exact⟨by show _<H2.length; omega,by show(if _ then _ else _)=_; rw[if_neg (by omega)]; congr 1; omega⟩
 have himm:g2.imm=g0.imm:=h4.symm
 have hgx:Gext g w g2 w:=by
  refine⟨by show g.n≤H2.length; omega,fun o ho=>?_,fun o ho=>?_,fun o ho=>?_,fun _ _ h=>h,fun _ _ _=>rfl⟩
  ·show(if _ then _ else _)=_; rw[if_pos (by omega)]
  ·show(if _ then _ else _)=_; rw[if_pos (by omega)]
  ·show(if _ then _ else _)=_; rw[if_pos (by omega)]
 have bk2:∀ {o:Nat},o<H.length→g2.bk o=g.bk o:=fun ho=>hgx.bk _ (by omega)
 have cases2:∀(o:Nat) (b:Ob),H2[o]?=some b→b.alive=true→(∃ k cs cs',k<hh.length∧hh[k]?=some (.cells cs)∧b = .cells cs'∧o=ρopen q H.length k∧NmL (ρopen q H.length) hh.length cs cs')∨(o<H.length∧o≠q∧H[o]?=some b):=by
  intro o b hb hal
  have hol:=(List.getElem?_eq_some_iff.1 hb).1
  have fromX:∀ k,k<hh.length→o=ρopen q H.length k→∃ cs cs',hh[k]?=some (.cells cs)∧b = .cells cs'∧NmL (ρopen q H.length) hh.length cs cs':=by
   intro k hk e
   rcases ho.on k _ (List.getElem?_eq_getElem hk) with⟨e1,e2⟩|⟨cs,cs',e1,e2,e3⟩
   ·rw[← e,hb] at e2; cases e2; cases hal
   ·rw[← e,hb] at e2; cases e2
    exact⟨cs,cs',by rw[List.getElem?_eq_getElem hk,e1],rfl,e3⟩
  by_cases c:o<H.length
  ·by_cases c2:o=q
   ·obtain⟨cs,cs',j1,j2,j3⟩:=fromX 0 hn0 (by unfold ρopen; rw[if_pos rfl]; exact c2)
    exact .inl ⟨0,cs,cs',hn0,j1,j2,by unfold ρopen; rw[if_pos rfl]; exact c2,j3⟩
   ·exact .inr ⟨c,c2,by rw[← ho.off o c c2]; exact hb⟩
  ·have e:o=ρopen q H.length (o-H.length+1):=by unfold ρopen; rw[if_neg (by omega)]; omega
   obtain⟨cs,cs',j1,j2,j3⟩:=fromX (o-H.length+1) (by omega) e
   exact .inl ⟨_,cs,cs',by omega,j1,j2,e,j3⟩
 have apart:∀ {o:Nat} {b:Ob} {k:Nat} {cs:List PV},o≠q→H[o]?=some b→b.alive=true→hh[k]?=some (.cells cs)→¬ blk g b o (g0.bk k):=by
  intro o b k cs c1 c2 c3 c4 c5
  have:g.fp q (g0.bk k):=(h7 _).2 ⟨k,_,c4,rfl,rfl⟩
  exact c1 (hS.inj o q b _ (g0.bk k) c2 hq c3 rfl c5 this)
 have blko:∀ {o:Nat} {ob:Ob} {b:Nat},o<H.length→(blk g2 ob o b↔blk g ob o b):=fun {o ob b} hol=>blk_of (g:=g) (g':=g2) (bk2 hol) (fun k=>Iff.rfl) ob b
 refine⟨g2,⟨rfl,fun o o' b b' x a1 a2 a3 a4 a5 a6=>?_,fun o cs a1=>?_,fun o a1=>?_,hS.imm,fun o r a1=>?_⟩,⟨hgx,Nat.le_refl _,fun b _ hb=>?_,fun _ _ _=>rfl,rfl,rfl,rfl,fun _ _ _ h=> .inl h⟩,hgx⟩
 ·rcases cases2 o b a1 a3 with⟨k,cs,cs',k1,k2,rfl,rfl,k3⟩|⟨k1,k2,k3⟩<;>rcases cases2 o' b' a2 a4 with⟨j,ds,ds',j1,j2,rfl,rfl,j3⟩|⟨j1,j2,j3⟩
  ·have e1:g2.bk (ρopen q H.length k)=x:=a5
   have e2:g2.bk (ρopen q H.length j)=x:=a6
   rw[(hbk k k1).2] at e1
   rw[(hbk j j1).2] at e2
   rw[hS0.inj k j _ _ x k2 j2 rfl rfl e1 e2]
  ·have e1:g2.bk (ρopen q H.length k)=x:=a5
   rw[(hbk k k1).2] at e1
   subst e1
   exact(apart j2 j3 a4 k2 ((blko j1).1 a6)).elim
  ·have e1:g2.bk (ρopen q H.length j)=x:=a6
   rw[(hbk j j1).2] at e1
   subst e1
   exact(apart k2 k3 a3 j2 ((blko k1).1 a5)).elim
  ·exact hS.inj o o' b b' x k3 j3 a3 a4 ((blko k1).1 a5) ((blko j1).1 a6)
 ·rcases cases2 o _ a1 rfl with⟨k,ds,ds',k1,k2,k3,rfl,k4⟩|⟨k1,k2,k3⟩
  ·cases k3
   obtain⟨⟨C,ty,e1,e2⟩,e3⟩:=hS0.cells k ds k2
   rw[(hbk k k1).2]
   exact⟨⟨C,ty,e1,k4.to hbk himm e2⟩,fun q' hi=>e3 q' (by rw[← himm]; exact hi)⟩
  ·obtain⟨⟨C,ty,e1,e2⟩,e3⟩:=hS.cells o cs k3
   rw[bk2 k1]
   exact⟨⟨C,ty,e1,e2.mono hgx⟩,e3⟩
 ·rcases cases2 o _ a1 rfl with⟨k,ds,ds',k1,k2,k3,_⟩|⟨k1,k2,k3⟩
  ·cases k3
  ·obtain⟨⟨C,ty,e1,e2⟩,e3⟩:=hS.tok o k3
   rw[bk2 k1,hgx.en o (by omega),hgx.sz o (by omega)]
   exact⟨⟨C,ty,e1,e2⟩,e3⟩
 ·rcases cases2 o _ a1 rfl with⟨k,ds,ds',k1,k2,k3,_⟩|⟨k1,k2,k3⟩
  ·cases k3
  ·have:=hS.abs o r k3
   rw[bk2 k1]
   exact this
 ·obtain⟨o,ob,a1,a2,a3⟩:=hb
  rcases cases2 o ob a1 a2 with⟨k,ds,ds',k1,k2,rfl,rfl,k4⟩|⟨k1,k2,k3⟩
  ·have e1:g2.bk (ρopen q H.length k)=b:=a3
   rw[(hbk k k1).2] at e1
   exact⟨q,_,hq,rfl,(h7 b).2 ⟨k,_,k2,rfl,e1⟩⟩
  ·exact⟨o,ob,k3,a2,(blko k1).1 a3⟩
theorem AW.openW {P:Program} {gl:Glob} {n:Nat} {c:Code} {Q:Ex→Env→Heap→Prop} {e:Env} {H:Heap} {q:Nat} {I:Heap→Prop} (hq:H[q]?=some (.abs (whole I))) (h:∀ hh,I hh→Root hh→∃ H2,OpenH q hh H H2∧AW P gl n c Q e H2):AW P gl n c Q e H:=by
 intro hd g a w hst
 obtain⟨hh,h1,h2,h3⟩:=hst.sim.openW hq
 obtain⟨H2,h4,hk⟩:=h hh h1 h2
 obtain⟨g2,k1,k2,k3⟩:=h3 H2 h4
 refine wp_mono (hk hd g2 a w ⟨k1,hst.glob.mono k3,hst.env.mono k3,hst.dfr⟩) ?_
 rintro ex a' w' ⟨ex',g',e',H',j0,j1,j2,j3⟩
 exact⟨ex',g',e',H',j0,j1,k2.trans j2,j3⟩
end Go.AM

namespace Go.AM
open Go
theorem ren_congr {ρ ρ':Nat→Nat} {n:Nat} (e:∀ k,k<n→ρ k=ρ' k) {x y:PV} (h:Ren ρ n x y):Ren ρ' n x y:=by
 induction h with
 | low h=>exact .low h
 | arr o off len cap h=>rw[e o h]; exact .arr _ _ _ _ h
 | ptr o off h=>rw[e o h]; exact .ptr _ _ h
 | ltok es o h hl=>rw[e o h]; exact .ltok _ _ h hl
 | fn f cs cs' hl _ ih=>exact .fn f cs cs' hl ih
 | agg cs cs' hl _ ih=>exact .agg cs cs' hl ih
 | tup cs cs' hl _ ih=>exact .tup cs cs' hl ih
def ρcell (o N:Nat):Nat→Nat:=fun k=>if k=0 then o else N
theorem row_heap {P:Program} {gl:Glob} (hgl:GlobLow gl) {f:FuncId} {args0 args cs:List PV} {H:Heap} {o:Nat} {K:PV→Heap→Prop} (hc:CeIs H o cs) (hcs:∀ x∈cs,Low 0 x) (ha:RenL (fun _=>o) 1 args0 args)
  (h:ACalls P gl f args0 [.cells cs] (fun x X'=>(∃ cs' x',X'=[.cells cs']∧(∀ x∈cs',Low 0 x)∧Ren (ρcell o H.length) 1 x x'∧K x' (H.set o (.cells cs')))∨
   (∃ cs' cs2 x',X'=[.cells cs',.cells cs2]∧(∀ x∈cs',Low 0 x)∧(∀ x∈cs2,Low 0 x)∧Ren (ρcell o H.length) 2 x x'∧K x' (H.set o (.cells cs')++[.cells cs2])))):ACalls P gl f args H K:=by
 have hol:=(List.getElem?_eq_some_iff.1 hc).1
 have hsub:Sub (fun _=>o) [.cells cs] H:=by
  refine⟨fun _ _=>hol,fun a b h1 h2 _=>by simp at h1 h2; omega,fun j a hj=>?_⟩
  have e1:=(List.getElem?_eq_some_iff.1 hj).1
  have:j=0:=by simpa using e1
  subst this; cases hj
  exact⟨_,hc,.cells (RenL.low hcs)⟩
 have e:∀ n,n≤2→∀ k,k<n→ρcell o H.length k=ρext (fun _=>o) [Ob.cells cs].length H.length k:=by
  intro n hn k hk
  unfold ρext ρcell
  by_cases c:k=0
  ·subst c; simp
  ·rw[if_neg c,if_neg (by simp; omega)]
   have:k=1:=by omega
   subst this; simp
 refine acalls_frame hgl hsub ha (acalls_to h fun x X' hh=>?_)
 rcases hh with⟨cs',x',rfl,h1,h2,h3⟩|⟨cs',cs2,x',rfl,h1,h2,h3,h4⟩
 ·refine⟨x',H.set o (.cells cs'),⟨Nat.le_refl _,by simp,fun j a hj=>?_,fun o' h5 h6=>?_⟩,ren_congr (e 1 (by decide)) h2,h3⟩
  ·have e1:=(List.getElem?_eq_some_iff.1 hj).1
   have:j=0:=by simpa using e1
   subst this; cases hj
   exact⟨.cells cs',by rw[← e 1 (by decide) 0 (by decide)]; simp[ρcell,hol],.cells (RenL.low h1),fun _=>rfl⟩
  ·have:=h6 0 (by simp)
   rw[List.getElem?_set_ne this]
 ·refine⟨x',H.set o (.cells cs')++[.cells cs2],⟨by simp,by simp,fun j a hj=>?_,fun o' h5 h6=>?_⟩,ren_congr (e 2 (by decide)) h3,h4⟩
  ·have e1:=(List.getElem?_eq_some_iff.1 hj).1
   simp at e1
   have:j=0∨j=1:=by omega
   rcases this with rfl|rfl
   ·cases hj
    exact⟨.cells cs',by rw[← e 2 (by decide) 0 (by decide),List.getElem?_append_left (by simp[ρcell,hol])]; simp[ρcell,hol],.cells (RenL.low h1),fun _=>rfl⟩
   ·cases hj
    exact⟨.cells cs2,by rw[← e 2 (by decide) 1 (by decide),List.getElem?_append_right (by simp[ρcell])]; simp[ρcell],.cells (RenL.low h2),fun _=>rfl⟩
  ·have:=h6 0 (by simp)
   rw[List.getElem?_append_left (by simpa using h5),List.getElem?_set_ne this]
end Go.AM

namespace Go.AM
open Go
structure Shape (N:Nat) (V:Nat→PV) (G:Nat→Heap):Prop where
 len:∀ b,(G b).length=N
 v:∀(ρ:Nat→Nat) (n b b':Nat),b+N≤n→(∀ k,k<N→ρ (b+k)=b'+k)→Ren ρ n (V b) (V b')
 g:∀(ρ:Nat→Nat) (n b b':Nat),b+N≤n→(∀ k,k<N→ρ (b+k)=b'+k)→∀(k:Nat) (a:Ob),(G b)[k]?=some a→∃ a',(G b')[k]?=some a'∧RenOb ρ n a a'∧(a'.alive=true→a.alive=true)
theorem book_shape {P:Program} {gl:Glob} (hgl:GlobLow gl) {f:FuncId} {rest:List PV} {H:Heap} {q r:Nat} {R:Rep} {K:PV→Heap→Prop} (ho:BkIs H q r R) (hrest:∀ x∈rest,Low 0 x)
  (h:ACalls P gl f (.ptr 0 0::rest) [.cells [.ptr 1 0],.abs R] (fun x H'=>∃(N:Nat) (V:Nat→PV) (G:Nat→Heap) (b:Nat) (R':Rep),Shape N V G∧x=V b∧2≤b∧H'[0]?=some (.cells [.ptr 1 0])∧H'[1]?=some (.abs R')∧(∀(k:Nat) (a:Ob),(G b)[k]?=some a→H'[b+k]?=some a)∧K (V H.length) (H.set r (.abs R')++G H.length))):ACalls P gl f (.ptr q 0::rest) H K:=by
 have hq:=(List.getElem?_eq_some_iff.1 ho.1).1
 have hr:=(List.getElem?_eq_some_iff.1 ho.2).1
 have hne:q≠r:=fun e=>by have h1:=ho.1; rw[e,ho.2] at h1; cases h1
 refine acalls_frame hgl (book_sub ho) (.cons (.ptr (ρ:=fun o=>if o=0 then q else r) 0 0 (by simp)) (RenL.low hrest)) (acalls_rename hgl (acalls_to h fun x H' e=>?_))
 obtain⟨N,V,G,b,R',hs,rfl,hb,h0,h1,hg,hk⟩:=e
 have hbN:b+N≤H'.length∨N=0:=by
  rcases Nat.eq_zero_or_pos N with e|e
  ·exact .inr e
  ·have hl:=hs.len b
   have:=hg (N-1) ((G b)[N-1]'(by omega)) (List.getElem?_eq_getElem _)
   have:=(List.getElem?_eq_some_iff.1 this).1
   exact .inl (by omega)
 have hl2:=hs.len 2
 have hlH:=hs.len H.length
 let ρ1:Nat→Nat:=fun k=>if k<2 then k else b+(k-2)
 have hX:([.cells [.ptr 1 0],.abs R']++G 2:Heap).length=2+N:=by simp[hl2]; omega
 have e1:∀ k,k<N→ρ1 (2+k)=b+k:=fun k _=>by show(if _ then _ else _)=_; rw[if_neg (by omega)]; omega
 refine⟨V 2,[.cells [.ptr 1 0],.abs R']++G 2,ρ1,⟨fun o ho'=>?_,fun o o' k1 k2 e=>?_,fun o a ho'=>?_⟩,by simp,fun o ho'=>?_,hs.v ρ1 _ 2 b (Nat.le_of_eq hX.symm) e1,?_⟩
 ·rw[hX] at ho'
  show(if o<2 then o else b+(o-2))<H'.length
  have:=(List.getElem?_eq_some_iff.1 h1).1
  split
  ·omega
  ·rcases hbN with c|c<;>omega
 ·rw[hX] at k1 k2
  have e:(if o<2 then o else b+(o-2))=(if o'<2 then o' else b+(o'-2)):=e
  split at e<;>split at e<;>omega
 ·have hol:=(List.getElem?_eq_some_iff.1 ho').1
  rw[hX] at hol
  by_cases c:o<2
  ·have:o=0∨o=1:=by omega
   rcases this with rfl|rfl
   ·cases ho'
    exact⟨_,h0,.cells (.cons (.ptr (ρ:=ρ1) 1 0 (by rw[hX]; omega)) .nil)⟩
   ·cases ho'
    exact⟨_,h1,.abs _⟩
  ·rw[List.getElem?_append_right (by simp; omega)] at ho'
   obtain⟨a',j1,j2,_⟩:=hs.g ρ1 _ 2 b (Nat.le_of_eq hX.symm) e1 _ _ ho'
   refine⟨a',?_,j2⟩
   have:=hg _ _ j1
   show H'[if o<2 then o else b+(o-2)]?=_
   rw[if_neg c]
   exact this
 ·have:o=0∨o=1:=by simp at ho'; omega
  rcases this with rfl|rfl<;>rfl
 ·have e2:∀ k,k<N→ρext (fun o=>if o=0 then q else r) [Ob.cells [PV.ptr 1 0],Ob.abs R].length H.length (2+k)=H.length+k:=fun k _=>by
   simp only[ρext,List.length_cons,List.length_nil]
   rw[if_neg (by omega)]; omega
  refine⟨V H.length,H.set r (.abs R')++G H.length,⟨by simp,by simp[hl2,hlH],fun o a ho'=>?_,fun o hl hn=>?_⟩,hs.v _ _ 2 H.length (Nat.le_of_eq hX.symm) e2,hk⟩
  ·have hol:=(List.getElem?_eq_some_iff.1 ho').1
   rw[hX] at hol
   by_cases c:o<2
   ·have:o=0∨o=1:=by omega
    rcases this with rfl|rfl
    ·cases ho'
     refine⟨.cells [.ptr r 0],?_,.cells (.cons ?_ .nil),fun _=>rfl⟩
     ·simp only[ρext,List.length_cons,List.length_nil]
      rw[if_pos (by omega),if_pos trivial,List.getElem?_append_left (by simpa using hq),List.getElem?_set_ne (Ne.symm hne)]
      exact ho.1
     ·have:=Ren.ptr (ρ:=ρext (fun o=>if o=0 then q else r) [Ob.cells [PV.ptr 1 0],Ob.abs R].length H.length) (n:=([.cells [.ptr 1 0],.abs R']++G 2:Heap).length) 1 0 (by rw[hX]; omega)
      simpa[ρext] using this
    ·cases ho'
     refine⟨.abs R',?_,.abs _,fun _=>rfl⟩
     simp only[ρext,List.length_cons,List.length_nil]
     rw[if_pos (by omega),if_neg (by decide),List.getElem?_append_left (by simpa using hr),List.getElem?_set_self hr]
   ·rw[List.getElem?_append_right (by simp; omega)] at ho'
    obtain⟨a',j1,j2,j3⟩:=hs.g (ρext (fun o=>if o=0 then q else r) [Ob.cells [PV.ptr 1 0],Ob.abs R].length H.length) ([.cells [.ptr 1 0],.abs R']++G 2:Heap).length 2 H.length (Nat.le_of_eq hX.symm) e2 _ _ ho'
    refine⟨a',?_,j2,j3⟩
    have:ρext (fun o=>if o=0 then q else r) [Ob.cells [PV.ptr 1 0],Ob.abs R].length H.length o=H.length+(o-2):=by simp[ρext,c]
    rw[this,List.getElem?_append_right (by simp)]
    simpa using j1
  ·have:=hn 1 (by simp)
   simp at this
   rw[List.getElem?_append_left (by simpa using hl),List.getElem?_set_ne this]
end Go.AM

namespace Go.AM
open Go
theorem aw_loop7a {P:Program} {gl:Glob} (hgl:GlobLow gl) {n:Nat} {x:Code} {Q:Ex→Env→Heap→Prop} {e:Env} {H:Heap} {σ:Type} (slots:List Nat) (I:σ→Prop) (V:σ→List PV) (Hp:σ→Heap) (m:σ→Nat) (s0:σ)
  (h0:I s0) (he:slots.map e=V s0) (hH:H=Hp s0)
  (round:∀ s,I s→AW P gl n x (fun ex e' H'=>loopY Q H.length slots I V Hp m s ex (slots.map e') H') (envS slots (V s)) (Hp s)):AW P gl n (.loop x) Q e H:=by
 intro hd g a w hst
 simp only[dstAll] at hd
 have hng:g.n=H.length:=hst.sim.n
 refine wp_loop_ghost (fun k a' w'=>∃ g' s,k=m s∧I s∧St gl n g' (envS slots (V s)) (Hp s) a' w'∧Ext g H w g' (Hp s) w') (m s0) ⟨g,s0,rfl,h0,by rw[← hH,← he]; exact hst.weaken (envS_le e slots),by rw[← hH]; exact .refl g H w⟩ ?_
 rintro k a1 w1 ⟨g1,s,rfl,hI,hst1,hx1⟩
 refine wp_mono (round s hI hd g1 a1 w1 hst1) ?_
 rintro ex a' w' ⟨ex',g',e',H',k0,k1,k2,k3⟩
 have k1':=k1.weaken (envS_le e' slots)
 cases ex<;>cases ex'<;>first|exact k0.elim|skip
 ·obtain⟨s',hm,hI',hr⟩:=k3
  obtain⟨g3,j1,j2⟩:=k1'.tidy hgl (hx1.trans k2) hng hr
  exact⟨m s',hm,g3,s',rfl,hI',j1,j2⟩
 ·obtain⟨vs2,H2,j1,j3⟩:=k3
  obtain⟨g3,j4,j5⟩:=k1'.tidy hgl (hx1.trans k2) hng j1
  exact⟨.exit _,g3,_,H2,k0,j4,j5,j3⟩
 ·obtain⟨vs2,H2,j1,j3⟩:=k3
  obtain⟨g3,j4,j5⟩:=k1'.tidy hgl (hx1.trans k2) hng j1
  exact⟨.ret,g3,_,H2,k0,j4,j5,j3⟩
def onQ {α σ:Type} (f:α→List PV) (acc:σ→List α) (I:σ→Prop) (m:σ→Nat) (Q:Ex→Env→Heap→Prop) (B:Heap) (slots:List Nat) (V:PV→σ→List PV) (s:σ):Ex→List PV→Heap→Prop:=fun ex vs H'=>match ex with
 | .normal=>∃ s',m s'<m s∧I s'∧∃ X k,H'=B++X∧(B++X)[k]?=some .tok∧B.length≤k∧vs=V (.list ((acc s').map f) (.tok k)) s'
 | .exit j=>vs=V (.list ((acc s).map f) (.tok B.length)) s∧H'=B++[.tok]∧Q (.exit j) (envS slots (V (.list ((acc s).map f) (.tok B.length)) s)) (B++[.tok])∧Q (.exit j) (envS slots (V (.list ((acc s).map f) (.tok (B.length+1))) s)) (B++[.dead,.tok])
 | .ret=>False
def LowB (B:Heap):Prop:=∀(o:Nat) cs,B[o]?=some (.cells cs)→∀ x∈cs,Low 0 x∨∃ q off,q<B.length∧x = .ptr q off
theorem LowB.up {B:Heap} (h:LowB B) (o:Nat) (cs:List PV) (ho:B[o]?=some (.cells cs)) (x:PV) (hx:x∈cs):Low B.length x:=by
 rcases h o cs ho x hx with h|⟨q,off,h,rfl⟩
 ·exact h.up
 ·exact .ptr _ _ h
theorem LowB.ob {B:Heap} (h:LowB B) {ρ:Nat→Nat} {n:Nat} {o:Nat} {a:Ob} (ho:B[o]?=some a) (hr:∀ o,o<B.length→ρ o=o) (hn:B.length≤n):RenOb ρ n a a:=by
 cases a with
 | cells cs=>
  refine .cells ?_
  have:=h o cs ho
  clear ho
  induction cs with
  | nil=>exact .nil
  | cons x cs ih=>
   refine .cons ?_ (ih fun y hy=>this y (List.mem_cons_of_mem _ hy))
   rcases this x (List.mem_cons_self ..) with h|⟨q,off,h,rfl⟩
   ·exact .low h
   ·have:=Ren.ptr (ρ:=ρ) (n:=n) q off (by omega)
    rwa [hr q h] at this
 | tok=>exact .tok
 | dead=>exact .dead _
 | abs r=>exact .abs r
def RenV (n0:Nat) (V:PV→List PV):Prop:=∀(ρ:Nat→Nat) (n k:Nat) (es:List (List PV)),(∀ o,o<n0→ρ o=o)→n0≤n→k<n→(∀ x∈es.flatten,Low 0 x)→RenL ρ n (V (.list es (.tok k))) (V (.list es (.tok (ρ k))))
def ρat (n0 k:Nat):Nat→Nat:=fun o=>if o<n0 then o else k
theorem at_lt {n0 k o:Nat} (h:o<n0):ρat n0 k o=o:=by unfold ρat; rw[if_pos h]
theorem at_ge {n0 k o:Nat} (h:¬ o<n0):ρat n0 k o=k:=by unfold ρat; rw[if_neg h]
theorem get_base {B X:Heap} {o:Nat} (h:o<B.length):(B++X)[o]?=B[o]?:=List.getElem?_append_left h
theorem tidy_tok {B X:Heap} (hB:LowB B) {vs' vs:List PV} {k:Nat} (h:(B++X)[k]?=some .tok) (hk:B.length<k) (hv:RenL (ρat (B.length+1) k) (B.length+2) vs vs'):Tidy (B.length+1) vs' (B++X) vs (B++[.dead,.tok]):=by
 have hl:=(List.getElem?_eq_some_iff.1 h).1
 refine⟨vs',B++X,ρat (B.length+1) k,.refl _,.refl _,⟨fun o ho=>?_,fun a b h1 h2 h3=>?_,fun j a hj=>?_⟩,by simp,fun o ho=>at_lt ho,by rw[show(B++[Ob.dead,Ob.tok]).length=B.length+2 by simp]; exact hv⟩
 ·by_cases c:o<B.length+1
  ·rw[at_lt c]; omega
  ·rw[at_ge c]; exact hl
 ·simp at h1 h2
  by_cases ca:a<B.length+1<;>by_cases cb:b<B.length+1
  ·rw[at_lt ca,at_lt cb] at h3; exact h3
  ·rw[at_lt ca,at_ge cb] at h3; omega
  ·rw[at_ge ca,at_lt cb] at h3; omega
  ·omega
 ·have e1:=(List.getElem?_eq_some_iff.1 hj).1
  simp at e1
  by_cases c:j<B.length
  ·rw[get_base c] at hj
   exact⟨a,by rw[at_lt (by omega),get_base c]; exact hj,hB.ob hj (fun o ho=>at_lt (by omega)) (by simp)⟩
  ·by_cases c2:j=B.length
   ·subst c2
    rw[List.getElem?_append_right (Nat.le_refl _),Nat.sub_self] at hj
    cases hj
    exact⟨_,by rw[at_lt (by omega)]; exact List.getElem?_eq_getElem (by omega),.dead _⟩
   ·have:j=B.length+1:=by omega
    subst this
    rw[List.getElem?_append_right (by omega),show B.length+1-B.length=1 by omega] at hj
    cases hj
    exact⟨.tok,by rw[at_ge (by omega)]; exact h,.tok⟩
theorem tidy_same {B X:Heap} (hB:LowB B) {vs' vs:List PV} (h:(B++X)[B.length]?=some .tok) (hv:RenL (fun o=>o) (B.length+1) vs vs'):Tidy (B.length+1) vs' (B++X) vs (B++[.tok]):=by
 have hl:=(List.getElem?_eq_some_iff.1 h).1
 refine⟨vs',B++X,fun o=>o,.refl _,.refl _,⟨fun o ho=>?_,fun a b _ _ h3=>h3,fun j a hj=>?_⟩,by simp,fun o ho=>rfl,by rw[show(B++[Ob.tok]).length=B.length+1 by simp]; exact hv⟩
 ·simp at ho; omega
 ·have e1:=(List.getElem?_eq_some_iff.1 hj).1
  simp at e1
  by_cases c:j<B.length
  ·rw[get_base c] at hj
   exact⟨a,by rw[get_base c]; exact hj,hB.ob hj (fun _ _=>rfl) (by simp)⟩
  ·have:j=B.length:=by omega
   subst this
   rw[List.getElem?_append_right (Nat.le_refl _),Nat.sub_self] at hj
   cases hj
   exact⟨_,h,.tok⟩
theorem aw_growon {α σ:Type} {f:α→List PV} {acc:σ→List α} {I:σ→Prop} {m:σ→Nat} {P:Program} {gl:Glob} (hgl:GlobLow gl) {n:Nat} {Tb:Tab} (hT:TabOk P gl Tb) {L:LTab} {hn:Oper→Nat} {x:Code} (hL:LOk P gl n x [] L) {Q:Ex→Env→Heap→Prop} {e:Env} {H:Heap} (slots:List Nat) (V:PV→σ→List PV) (B:Heap) (s0:σ) (hB:LowB B)
  (hf:∀ s,I s→∀ a∈acc s,∀ x∈f a,Low 0 x) (hren:∀ s,I s→RenV B.length (fun T=>V T s)) (hsl:∀ T s,slots.map (envS slots (V T s))=V T s)
  (h0:I s0) (he:slots.map e=V (.list ((acc s0).map f) (.tok B.length)) s0) (hH:H=B++[.tok])
  (round:∀ s,I s→Holds (wpc br P gl Tb L hn x [] (envS slots (V (.list ((acc s).map f) (.tok B.length)) s)) (B++[.tok]) (fun ex e' H'=>onQ f acc I m Q B slots V s ex (slots.map e') H'))):AW P gl n (.loop x) Q e H:=by
 subst hH
 have hl:∀ s,I s→∀ x∈((acc s).map f).flatten,Low 0 x:=fun s hs=>low_map (hf s hs)
 have lenX:(B++[Ob.tok]).length=B.length+1:=by simp
 have lenH:(B++[Ob.dead,Ob.tok]).length=B.length+2:=by simp
 have get1:(B++[Ob.dead,Ob.tok])[B.length+1]?=some .tok:=by rw[List.getElem?_append_right (by omega),show B.length+1-B.length=1 by omega]; rfl
 have get0:(B++[Ob.tok])[B.length]?=some .tok:=by rw[List.getElem?_append_right (Nat.le_refl _),Nat.sub_self]; rfl
 have rid:∀ s,I s→RenL (fun o=>o) (B.length+1) (V (.list ((acc s).map f) (.tok B.length)) s) (V (.list ((acc s).map f) (.tok B.length)) s):=fun s hs=>hren s hs (fun o=>o) (B.length+1) B.length _ (fun _ _=>rfl) (by omega) (by omega) (hl s hs)
 have rat:∀ s,I s→∀ k,RenL (ρat (B.length+1) k) (B.length+2) (V (.list ((acc s).map f) (.tok (B.length+1))) s) (V (.list ((acc s).map f) (.tok k)) s):=fun s hs k=>by
  have:=hren s hs (ρat (B.length+1) k) (B.length+2) (B.length+1) _ (fun o ho=>at_lt (by omega)) (by omega) (by omega) (hl s hs)
  rwa [at_ge (show ¬ B.length+1<B.length+1 by omega)] at this
 refine aw_loop7a hgl (σ:=σ×Bool) slots (fun t=>I t.1) (fun t=>V (.list ((acc t.1).map f) (.tok (if t.2 then B.length+1 else B.length))) t.1) (fun t=>if t.2 then B++[.dead,.tok] else B++[.tok]) (fun t=>m t.1) (s0,false) h0 he rfl ?_
 rintro⟨s,b⟩ hI
 have hI:I s:=hI
 have body:=wpc_sound hT x [] hL _ _ _ (round s hI).out
 rw[lenX]
 cases b with
 | false=>
  refine body.mono fun ex e' H' k=>?_
  cases ex with
  | ret=>exact k.elim
  | exit j=>
   obtain⟨h1,h2,h3,_⟩:=k
   refine⟨_,B++[.tok],?_,h3⟩
   rw[h1,h2]
   exact tidy_same hB get0 (rid s hI)
  | normal=>
   obtain⟨s',h1,h2,X,k,rfl,h3,h5,h4⟩:=k
   by_cases c:k=B.length
   ·subst c
    refine⟨(s',false),h1,h2,?_⟩
    rw[h4]
    exact tidy_same hB h3 (rid s' h2)
   ·refine⟨(s',true),h1,h2,?_⟩
    rw[h4]
    exact tidy_tok hB h3 (by omega) (rat s' h2 k)
 | true=>
  have e1:ρat B.length (B.length+1) B.length=B.length+1:=at_ge (by omega)
  have hsub:Sub (ρat B.length (B.length+1)) (B++[.tok]) (B++[.dead,.tok]):=by
   refine⟨fun o ho=>?_,fun a b h1 h2 h3=>?_,fun j a hj=>?_⟩
   ·rw[lenH]
    by_cases c:o<B.length
    ·rw[at_lt c]; omega
    ·rw[at_ge c]; omega
   ·rw[lenX] at h1 h2
    by_cases ca:a<B.length<;>by_cases cb:b<B.length
    ·rw[at_lt ca,at_lt cb] at h3; exact h3
    ·rw[at_lt ca,at_ge cb] at h3; omega
    ·rw[at_ge ca,at_lt cb] at h3; omega
    ·omega
   ·have k1:=(List.getElem?_eq_some_iff.1 hj).1
    rw[lenX] at k1
    by_cases c:j<B.length
    ·rw[get_base c] at hj
     exact⟨a,by rw[at_lt c,get_base c]; exact hj,hB.ob hj (fun o ho=>at_lt ho) (by simp)⟩
    ·have:j=B.length:=by omega
     subst this
     rw[get0] at hj; cases hj
     exact⟨.tok,by rw[e1]; exact get1,.tok⟩
  have rv0:∀ s,I s→∀(ρ:Nat→Nat) n,(∀ o,o<B.length→ρ o=o)→ρ B.length=B.length+1→B.length<n→RenL ρ n (V (.list ((acc s).map f) (.tok B.length)) s) (V (.list ((acc s).map f) (.tok (B.length+1))) s):=fun s hs ρ n h1 h2 h3=>by
   have:=hren s hs ρ n B.length _ h1 (by omega) h3 (hl s hs)
   rwa [h2] at this
  refine AW.frame hgl (H:=B++[.dead,.tok]) (ρ:=ρat B.length (B.length+1)) (X:=B++[.tok]) (slots:=slots) (outs:=slots) (vals0:=V (.list ((acc s).map f) (.tok B.length)) s) (vals:=V (.list ((acc s).map f) (.tok (B.length+1))) s) hsub (hsl _ _) (by rw[lenX]; exact rv0 s hI _ _ (fun o ho=>at_lt ho) e1 (by omega)) ?_
  rw[lenX,lenH]
  refine AW.tidy hgl (slots:=slots) (body.mono fun ex e' H' k=>?_)
  rw[lenX]
  have x0:∀ o,o<B.length→ρext (ρat B.length (B.length+1)) (B.length+1) (B.length+2) o=o:=fun o ho=>by unfold ρext; rw[if_pos (by omega),at_lt ho]
  have x1:ρext (ρat B.length (B.length+1)) (B.length+1) (B.length+2) B.length=B.length+1:=by unfold ρext; rw[if_pos (by omega),e1]
  have x2:ρext (ρat B.length (B.length+1)) (B.length+1) (B.length+2) (B.length+1)=B.length+2:=by unfold ρext; rw[if_neg (by omega)]; omega
  have bh0:Behind (ρat B.length (B.length+1)) (B++[.tok]) (B++[.dead,.tok]) (B++[.tok]) (B++[.dead,.tok]):=by
   refine⟨Nat.le_refl _,by simp,fun o a ho=>?_,fun o ho hj=>rfl⟩
   rw[lenX,lenH]
   have k1:=(List.getElem?_eq_some_iff.1 ho).1
   rw[lenX] at k1
   by_cases c:o<B.length
   ·rw[get_base c] at ho
    exact⟨a,by rw[x0 o c,get_base c]; exact ho,hB.ob ho x0 (by omega),fun h=>h⟩
   ·have:o=B.length:=by omega
    subst this
    rw[get0] at ho; cases ho
    exact⟨.tok,by rw[x1]; exact get1,.tok,fun _=>rfl⟩
  have bh1:Behind (ρat B.length (B.length+1)) (B++[.tok]) (B++[.dead,.tok]) (B++[.dead,.tok]) (B++[.dead,.dead,.tok]):=by
   refine⟨by simp,by simp,fun o a ho=>?_,fun o ho hj=>?_⟩
   ·rw[lenX,lenH]
    have k1:=(List.getElem?_eq_some_iff.1 ho).1
    rw[lenH] at k1
    by_cases c:o<B.length
    ·rw[get_base c] at ho
     exact⟨a,by rw[x0 o c,get_base c]; exact ho,hB.ob ho x0 (by omega),fun h=>h⟩
    ·by_cases c2:o=B.length
     ·subst c2
      rw[List.getElem?_append_right (Nat.le_refl _),Nat.sub_self] at ho; cases ho
      exact⟨.dead,by rw[x1,List.getElem?_append_right (by omega),show B.length+1-B.length=1 by omega]; rfl,.dead _,fun h=>by cases h⟩
     ·have:o=B.length+1:=by omega
      subst this
      rw[get1] at ho; cases ho
      exact⟨.tok,by rw[x2,List.getElem?_append_right (by omega),show B.length+2-B.length=2 by omega]; rfl,.tok,fun _=>rfl⟩
   ·rw[lenH] at ho
    have h2:=hj B.length (by rw[lenX]; omega)
    rw[e1] at h2
    by_cases c:o<B.length
    ·rw[get_base c,get_base c]
    ·have:o=B.length:=by omega
     subst this
     rw[List.getElem?_append_right (Nat.le_refl _),List.getElem?_append_right (Nat.le_refl _),Nat.sub_self]; rfl
  have gd:(B++[Ob.dead,Ob.dead,Ob.tok])[B.length+2]?=some .tok:=by rw[List.getElem?_append_right (by omega),show B.length+2-B.length=2 by omega]; rfl
  cases ex with
  | ret=>exact k.elim
  | exit j=>
   obtain⟨h1,h2,_,h3⟩:=k
   refine⟨V (.list ((acc s).map f) (.tok B.length)) s,B++[.tok],?_,V (.list ((acc s).map f) (.tok (B.length+1))) s,B++[.dead,.tok],bh0,?_,?_⟩
   ·rw[h1,h2]
    exact tidy_same hB get0 (rid s hI)
   ·rw[hsl,lenX]
    exact rv0 s hI _ _ x0 x1 (by omega)
   ·refine⟨_,B++[.dead,.tok],?_,h3⟩
    rw[hsl]
    exact tidy_tok hB get1 (by omega) (rat s hI _)
  | normal=>
   obtain⟨s',h1,h2,X,k,rfl,h3,h5,h4⟩:=k
   by_cases c:k=B.length
   ·subst c
    refine⟨V (.list ((acc s').map f) (.tok B.length)) s',B++[.tok],?_,V (.list ((acc s').map f) (.tok (B.length+1))) s',B++[.dead,.tok],bh0,?_,(s',true),h1,h2,?_⟩
    ·rw[h4]
     exact tidy_same hB h3 (rid s' h2)
    ·rw[hsl,lenX]
     exact rv0 s' h2 _ _ x0 x1 (by omega)
    ·rw[hsl]
     exact tidy_tok hB get1 (by omega) (rat s' h2 _)
   ·refine⟨V (.list ((acc s').map f) (.tok (B.length+1))) s',B++[.dead,.tok],?_,V (.list ((acc s').map f) (.tok (B.length+2))) s',B++[.dead,.dead,.tok],bh1,?_,(s',true),h1,h2,?_⟩
    ·rw[h4]
     exact tidy_tok hB h3 (by omega) (rat s' h2 k)
    ·rw[hsl,lenH]
     have:=hren s' h2 (ρext (ρat B.length (B.length+1)) (B.length+1) (B.length+2)) (B.length+2) (B.length+1) _ x0 (by omega) (by omega) (hl s' h2)
     rwa [x2] at this
    ·rw[hsl]
     exact tidy_tok hB gd (by omega) (rat s' h2 _)
theorem aw_growifA {α σ:Type} {f:α→List PV} {acc:σ→List α} {I:σ→Prop} {m:σ→Nat} {P:Program} {gl:Glob} (hgl:GlobLow gl) {n:Nat} {x:Code} {Q:Ex→Env→Heap→Prop} {e:Env} {H:Heap} (slots:List Nat) (V:PV→σ→List PV) (B:Heap) (s0:σ)
  (hlow:∀(o:Nat) cs,B[o]?=some (.cells cs)→∀ x∈cs,Low B.length x) (hf:∀ s,I s→∀ a∈acc s,∀ x∈f a,Low B.length x)
  (hrv:∀(es:List (List PV)) (s:σ) (k:Nat),I s→(∀ y∈es.flatten,Low B.length y)→RVs B.length k (V (.list es (.tok k)) s) (V (.list es (.tok B.length)) s))
  (hv:∀ s,I s→∀ v∈V (.list [] .exact) s,Low B.length v)
  (h0:I s0) (ha:acc s0=[]) (he:slots.map e=V (.list [] .exact) s0) (hH:H=B)
  (none:∀ s,I s→acc s=[]→AW P gl n x (fun ex e' H'=>growQ f acc I m Q B slots V s ex (slots.map e') H') (envS slots (V (.list [] .exact) s)) B)
  (some:∀ s,I s→acc s≠[]→AW P gl n x (fun ex e' H'=>growQ f acc I m Q B slots V s ex (slots.map e') H') (envS slots (V (.list ((acc s).map f) (.tok B.length)) s)) (B++[.tok])):AW P gl n (.loop x) Q e H:=by
 subst hH
 have key:∀ s,I s→∀ ex vs H',growQ f acc I m Q H slots V s ex vs H'→loopP Q H.length slots I (fun s=>V (.list ((acc s).map f) (tlL H.length (acc s))) s) (fun s=>hpL H (acc s)) m s ex vs H':=by
  intro s hs ex vs H' h
  cases ex with
  | exit j=>exact h
  | ret=>exact h
  | normal=>
   obtain⟨s',h1,h2,h3⟩:=h
   refine⟨s',h1,h2,?_⟩
   rcases h3 with⟨h3,X,rfl,rfl⟩|⟨h3,X,k,rfl,h5,h6,rfl⟩
   ·simp only[h3,List.map_nil,tlL,hpL]
    exact relab_base rfl hlow (hv s' h2)
   ·have r:=relab_row (X:=X) rfl hlow h6 h5 (hrv _ _ _ h2 (low_map fun a ha=>hf s' h2 a ha))
    have e1:=tlL_ne (n0:=H.length) h3
    have e2:=hpL_ne (B:=H) h3
    rw[← e1,← e2] at r
    exact r
 refine aw_loop6a hgl (σ:=σ) slots I (fun s=>V (.list ((acc s).map f) (tlL H.length (acc s))) s) (fun s=>hpL H (acc s)) m s0 h0 (by rw[ha]; exact he) (by rw[ha]; rfl) ?_
 intro s hs
 cases hq:acc s with
 | nil=>exact(none s hs hq).mono fun ex e' H' k=>key s hs ex _ H' k
 | cons a l=>
  have hne:acc s≠[]:=by rw[hq]; simp
  have:=(some s hs hne).mono fun ex e' H' k=>key s hs ex _ H' k
  rw[hq] at this
  exact this
theorem AW.wkout {P:Program} {gl:Glob} {n:Nat} {c:Code} {Q:Ex→Env→Heap→Prop} {e:Env} {H:Heap} {slots:List Nat} (h:AW P gl n c (fun ex e' H'=>∃ vs,WkL (slots.map e') vs∧Q ex (envS slots vs) H') e H):AW P gl n c Q e H:=by
 intro hd g a w hst
 refine wp_mono (h hd g a w hst) ?_
 rintro ex a' w' ⟨ex',g',e',H',k0,k1,k2,vs,k3,k4⟩
 have h1:=k1.weaken (envS_le e' slots)
 exact⟨ex',g',_,H',k0,⟨h1.sim,h1.glob,⟨h1.env.1,fun t=>envS_wk k3 t _ (h1.env.2 t)⟩,h1.dfr⟩,k2,k4⟩
end Go.AM

namespace Go.AM
open Go
def okFam2 (ops:Array Oper) (hn:List Nat→Oper→Nat) (M:List Nat) (F:List (List Nat)):Bool:=
 let anc:=ancB ops.toList
 okEdges ops && (F.all fun is=>ops.toList.all fun o=>(cl (hn is o) o.op).isSome) && decide M.Nodup && (M.all fun m=>Nat.blt m ops.size) &&
 (F.all fun is=>is.isPerm (List.range ops.size) && decide (is.Pairwise fun a b=>is.idxOf a<is.idxOf b) && okRankM ops (hn is) (fun i=>is.idxOf i) M) &&
 covers (fun a b=>(anc.getD a []).contains b) M.length (F.map fun is=>is.filter M.contains) M
theorem aw_family2 {P:Program} {gl:Glob} {n:Nat} {T:Tab} (hT:TabOk P gl T) {hn:List Nat→Oper→Nat} {c:Code} {Q:Ex→Env→Heap→Prop} {e:Env} {H X:Heap} {slots outs:List Nat} {vals:List PV} (M:List Nat) (F:List (List Nat))
  (hd:isDraw c=true) (hok:okFam2 (opsOf c) hn M F=true) (he:SlIs (slots.map e) vals) (hH:HpIs H X)
  (hF:∀ is∈F,Holds (regc br P gl T (hn is) true (opsOf c) (inOrder (opsOf c) is) (envS slots vals) X (fun e' H'=>(fun vs H'=>Q .normal (envS outs vs) H') (outs.map e') H'))):AW P gl n c Q e H:=by
 cases c<;>try (simp only[isDraw] at hd; cases hd; done)
 rename_i id ops d
 have hd:d=true:=hd
 subst hd
 have he:slots.map e=vals:=he
 have hH:H=X:=hH
 subst hH
 have hok:okFam2 ops hn M F=true:=hok
 have hF:∀ is∈F,Holds (regc br P gl T (hn is) true ops (inOrder ops is) (envS slots vals) H (fun e' H'=>(fun vs H'=>Q .normal (envS outs vs) H') (outs.map e') H')):=hF
 simp only[okFam2,Bool.and_eq_true,decide_eq_true_eq] at hok
 obtain⟨⟨⟨⟨⟨h1,h2⟩,h3⟩,h4⟩,h5⟩,h6⟩:=hok
 refine AW.of_le (e1:=envS slots vals) (by rw[← he]; exact envS_le e slots) (AW.weaken ?_)
 suffices hs:AW P gl n (.region id ops true) (fun ex e' H'=>match ex with| .normal=>Q .normal (envS outs (outs.map e')) H'|_=>False) (envS slots vals) H from
  hs.mono fun ex e' H' k=>by
   cases ex with
   | normal=>exact⟨envS outs (outs.map e'),envS_le e' outs,k⟩
   | exit i=>exact k.elim
   | ret=>exact k.elim
 intro hd g a w hst
 refine wp_region_draw fun t=>?_
 have hst':St gl n g (envS slots vals) H a w.drew:=⟨hst.sim.drew,hst.glob.mono (Gext.drew g w),hst.env.mono (Gext.drew g w),hst.dfr⟩
 obtain⟨hp,hr⟩:=schedule_anc h1 (P.follows .mixedOrders) t
 generalize Region.schedule (P.follows .mixedOrders) ops t=σ at hp hr
 have nd:σ.Nodup:=hp.nodup_iff.2 List.nodup_range
 have hM:∀ m∈M,m<ops.size:=fun m hm=>by have:=List.all_eq_true.1 h4 m hm; rwa [Nat.blt_eq] at this
 have hperm:(σ.filter M.contains).Perm M:=by
  refine(List.perm_ext_iff_of_nodup (nd.filter _) h3).2 fun a=>⟨fun ha=>?_,fun ha=>?_⟩
  ·have:=(List.mem_filter.1 ha).2; simpa using this
  ·exact List.mem_filter.2 ⟨hp.symm.subset (by simpa using hM a ha),by simpa using ha⟩
 have hmem:=covers_mem M.length _ M (σ.filter M.contains) rfl h6 hperm (nd.filter _) (hr.sublist List.filter_sublist)
 obtain⟨is,his,hisp⟩:=List.mem_map.1 hmem
 have hcl:∀ o∈ops.toList,(cl (hn is o) o.op).isSome=true:=List.all_eq_true.1 (List.all_eq_true.1 h2 is his)
 have h5':=List.all_eq_true.1 h5 is his
 simp only[Bool.and_eq_true,decide_eq_true_eq,List.isPerm_iff] at h5'
 obtain⟨⟨pi,si⟩,oi⟩:=h5'
 have mi:∀ i∈is,i<ops.size:=fun i hi=>by simpa using pi.subset hi
 obtain⟨e2,H2,hch,hq⟩:=regd_chain hcl is _ _ H (inOrder_map mi) (regc_sound_draw hT _ _ _ (hF is his).out)
 have hresp:σ.Pairwise (RespK (fun i=>is.idxOf i) ops (hn is)):=by
  rw[List.pairwise_iff_forall_sublist]
  intro i j hij hlt oj oi' hoj hoi
  have hi:i<ops.size:=by
   have:i∈σ:=hij.subset (by simp)
   simpa using hp.subset this
  have hj:j<ops.size:=by
   have:j∈σ:=hij.subset (by simp)
   simpa using hp.subset this
  have hc:=List.all_eq_true.1 oi i (by simpa using hi)
  have hc:=List.all_eq_true.1 hc j (by simpa using hj)
  rw[hoj,hoi] at hc
  have hbl:Nat.blt (is.idxOf j) (is.idxOf i)=true:=by rw[Nat.blt_eq]; exact hlt
  rw[hbl] at hc
  simp only[Bool.not_true,Bool.false_or,Bool.or_eq_true,Bool.and_eq_true] at hc
  rcases hc with (hc|hc)|⟨e1,e2⟩
  ·exact hc
  ·have:=(List.pairwise_iff_forall_sublist.1 hr) hij
   rw[hc] at this; cases this
  ·exfalso
   have hf:=hij.filter M.contains
   rw[List.filter_cons_of_pos e1,List.filter_cons_of_pos e2,List.filter_nil,← hisp] at hf
   have:=(List.pairwise_iff_forall_sublist.1 si) (hf.trans List.filter_sublist)
   simp only at hlt
   omega
 have hch':=perm_chain2 (fun i=>is.idxOf i) _ is _ _ _ _ si (hp.trans pi.symm) hresp hch
 refine wpOps_mono _ ?_ _ _ (chain_sound hd _ g _ H a w.drew hst' hch')
 rintro ex a' w' ⟨g',rfl,k1,k2⟩
 exact⟨.normal,g',e2,H2,trivial,k1,(Ext.drew g H w).trans k2,hq⟩
end Go.AM

namespace Go.AM
open Go
def ρsw (n0:Nat):Nat→Nat:=fun o=>if o=n0 then n0+1 else if o=n0+1 then n0 else o
theorem sw_lt {n0 o:Nat} (h:o<n0):ρsw n0 o=o:=by unfold ρsw; rw[if_neg (by omega),if_neg (by omega)]
theorem sw_0 (n0:Nat):ρsw n0 n0=n0+1:=by unfold ρsw; rw[if_pos rfl]
theorem sw_1 (n0:Nat):ρsw n0 (n0+1)=n0:=by unfold ρsw; rw[if_neg (by omega),if_pos rfl]
theorem at0 (B:Heap) (a:Ob) (X:Heap):(B++a::X)[B.length]?=some a:=by rw[List.getElem?_append_right (Nat.le_refl _),Nat.sub_self]; rfl
theorem at1 (B:Heap) (a b:Ob) (X:Heap):(B++a::b::X)[B.length+1]?=some b:=by rw[List.getElem?_append_right (by omega),show B.length+1-B.length=1 by omega]; rfl
theorem at2 (B:Heap) (a b c:Ob) (X:Heap):(B++a::b::c::X)[B.length+2]?=some c:=by rw[List.getElem?_append_right (by omega),show B.length+2-B.length=2 by omega]; rfl
theorem AW.swap {P:Program} {gl:Glob} (hgl:GlobLow gl) {n:Nat} {c:Code} {Q:Ex→Env→Heap→Prop} {e:Env} {B:Heap} {z:List PV} {slots outs:List Nat} {vals0 vals:List PV} {V:PV→List PV}
  (hB:LowB B) (hz:∀ x∈z,Low 0 x) (he:slots.map e=vals) (hv0:RenL (ρsw B.length) (B.length+2) vals0 vals) (hV:RenV B.length V)
  (h:AW P gl n c (fun ex e' X'=>∃ es,(∀ x∈es.flatten,Low 0 x)∧((X'=B++[.cells z,.tok]∧outs.map e'=V (.list es (.tok (B.length+1)))∧Q ex (envS outs (V (.list es (.tok B.length)))) (B++[.tok,.cells z]))∨
   (X'=B++[.cells z,.dead,.tok]∧outs.map e'=V (.list es (.tok (B.length+2)))∧Q ex (envS outs (V (.list es (.tok (B.length+2))))) (B++[.dead,.cells z,.tok])))) (envS slots vals0) (B++[.cells z,.tok])):AW P gl n c Q e (B++[.tok,.cells z]):=by
 have lenX:(B++[Ob.cells z,.tok]).length=B.length+2:=by simp
 have lenH:(B++[Ob.tok,.cells z]).length=B.length+2:=by simp
 have hsub:Sub (ρsw B.length) (B++[.cells z,.tok]) (B++[.tok,.cells z]):=by
  refine⟨fun o ho=>?_,fun a b h1 h2 h3=>?_,fun j a hj=>?_⟩
  ·rw[lenX] at ho; rw[lenH]; unfold ρsw; split; omega; split<;>omega
  ·unfold ρsw at h3; split at h3<;>split at h3<;>(try split at h3)<;>(try split at h3)<;>omega
  ·have k1:=(List.getElem?_eq_some_iff.1 hj).1
   rw[lenX] at k1 ⊢
   by_cases c:j<B.length
   ·rw[get_base c] at hj
    exact⟨a,by rw[sw_lt c,get_base c]; exact hj,hB.ob hj (fun o ho=>sw_lt ho) (by omega)⟩
   ·by_cases c2:j=B.length
    ·subst c2
     rw[at0] at hj; cases hj
     exact⟨_,by rw[sw_0]; exact at1 ..,.cells (RenL.low hz)⟩
    ·have:j=B.length+1:=by omega
     subst this
     rw[at1] at hj; cases hj
     exact⟨_,by rw[sw_1]; exact at0 ..,.tok⟩
 refine AW.frame hgl (ρ:=ρsw B.length) (X:=B++[.cells z,.tok]) (slots:=slots) (outs:=outs) (vals0:=vals0) (vals:=vals) hsub he (by rw[lenX]; exact hv0) (h.mono fun ex e' X' k=>?_)
 rw[lenX,lenH]
 have x0:∀ o,o<B.length→ρext (ρsw B.length) (B.length+2) (B.length+2) o=o:=fun o ho=>by unfold ρext; rw[if_pos (by omega),sw_lt ho]
 have x1:ρext (ρsw B.length) (B.length+2) (B.length+2) B.length=B.length+1:=by unfold ρext; rw[if_pos (by omega),sw_0]
 have x2:ρext (ρsw B.length) (B.length+2) (B.length+2) (B.length+1)=B.length:=by unfold ρext; rw[if_pos (by omega),sw_1]
 have x3:ρext (ρsw B.length) (B.length+2) (B.length+2) (B.length+2)=B.length+2:=by unfold ρext; rw[if_neg (by omega)]; omega
 obtain⟨es,hes,⟨rfl,h2,h3⟩|⟨rfl,h2,h3⟩⟩:=k
 ·refine⟨_,_,⟨Nat.le_refl _,by simp,fun o a ho=>?_,fun o ho hj=>?_⟩,?_,h3⟩
  ·rw[lenX,lenH]
   have k1:=(List.getElem?_eq_some_iff.1 ho).1
   rw[lenX] at k1
   by_cases c:o<B.length
   ·rw[get_base c] at ho
    exact⟨a,by rw[x0 o c,get_base c]; exact ho,hB.ob ho x0 (by omega),fun h=>h⟩
   ·by_cases c2:o=B.length
    ·subst c2
     rw[at0] at ho; cases ho
     exact⟨_,by rw[x1]; exact at1 ..,.cells (RenL.low hz),fun _=>rfl⟩
    ·have:o=B.length+1:=by omega
     subst this
     rw[at1] at ho; cases ho
     exact⟨_,by rw[x2]; exact at0 ..,.tok,fun _=>rfl⟩
  ·rfl
  ·rw[h2,lenX]
   have:=hV (ρext (ρsw B.length) (B.length+2) (B.length+2)) (B.length+2) (B.length+1) es x0 (by omega) (by omega) hes
   rwa [x2] at this
 ·refine⟨_,_,⟨by simp,by simp,fun o a ho=>?_,fun o ho hj=>?_⟩,?_,h3⟩
  ·rw[lenX,lenH]
   have k1:=(List.getElem?_eq_some_iff.1 ho).1
   have lenX2:(B++[Ob.cells z,.dead,.tok]).length=B.length+3:=by simp
   rw[lenX2] at k1 ⊢
   by_cases c:o<B.length
   ·rw[get_base c] at ho
    exact⟨a,by rw[x0 o c,get_base c]; exact ho,hB.ob ho x0 (by omega),fun h=>h⟩
   ·by_cases c2:o=B.length
    ·subst c2
     rw[at0] at ho; cases ho
     exact⟨_,by rw[x1]; exact at1 ..,.cells (RenL.low hz),fun _=>rfl⟩
    ·by_cases c3:o=B.length+1
     ·subst c3
      rw[at1] at ho; cases ho
      exact⟨_,by rw[x2]; exact at0 ..,.dead _,fun h=>h⟩
     ·have:o=B.length+2:=by omega
      subst this
      rw[at2] at ho; cases ho
      exact⟨_,by rw[x3]; exact at2 ..,.tok,fun _=>rfl⟩
  ·rw[lenH] at ho
   by_cases c:o<B.length
   ·rw[get_base c,get_base c]
   ·by_cases c2:o=B.length
    ·subst c2; exact absurd (sw_1 _) (hj _ (by rw[lenX]; omega))
    ·have:o=B.length+1:=by omega
     subst this; exact absurd (sw_0 _) (hj _ (by rw[lenX]; omega))
  ·rw[h2]
   have lenX2:(B++[Ob.cells z,.dead,.tok]).length=B.length+3:=by simp
   rw[lenX2]
   have:=hV (ρext (ρsw B.length) (B.length+2) (B.length+2)) (B.length+3) (B.length+2) es x0 (by omega) (by omega) hes
   rwa [x3] at this
end Go.AM

