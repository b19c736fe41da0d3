/-
  An abstract machine over values without memory, proved against the model, part 2: a tool for this claim; it states nothing of the program.
-/
import Derived.Test.YtpnmfkpboinoaaaA1
import Derived.DataReads
import Derived.Below
import Derived.ChangeOld
import Derived.OpenShut
import Derived.ChangeArms
import Derived.Carry
import Derived.ChangeShapes
import Derived.Scope
import Derived.Laws.Externs
namespace Go.AM
open Go
def SD (P:Program) (gl:ai) (hn:Oper→Nat) (ops:Array Oper) (o:Oper) (e:Env) (H:aa) (e':Env) (H':aa):Prop:=
 (∃ r,e'=upd e o.dst r∧fD P gl o.op (hn o) (ev gl e) H r H'∧match o.guard with
  | none=>True
  | some (j,want)=>∃ d,(ops[j]?).bind (·.dst)=some d∧e d = .bool want)∨
 (e'=upd e o.dst (.tup [])∧H'=H∧∃ j want d,o.guard=some (j,want)∧(ops[j]?).bind (·.dst)=some d∧(e d = .bool (!want)∨e d = .tup []))
inductive Chain (P:Program) (gl:ai) (hn:Oper→Nat) (ops:Array Oper):List Nat→Env→aa→Env→aa→Prop where
 | nil (e:Env) (H:aa):Chain P gl hn ops [] e H e H
 | cons {i:Nat} {is:List Nat} {o:Oper} {e e1 e2:Env} {H H1 H2:aa} (ho:ops[i]?=some o) (h:SD P gl hn ops o e H e1 H1) (hs:Chain P gl hn ops is e1 H1 e2 H2):Chain P gl hn ops (i::is) e H e2 H2
def looks (ops:Array Oper) (o:Oper):List Nat:=
 (o.op.operands.toList.filterMap fun x=>match x with| .tmp t=>some t|_=>none)++(match o.guard with|some (j,_)=>((ops[j]?).bind (·.dst)).toList|none=>[])
def dL (m1 m2:Nat):Bool:=
 Nat.ble 1000 m1 && Nat.ble 1000 m2 &&
  (!((m1-1000) / 100000 == (m2-1000) / 100000) || Nat.ble ((m1-1000) / 100 % 1000+(m1-1000) % 100) ((m2-1000) / 100 % 1000) || Nat.ble ((m2-1000) / 100 % 1000+(m2-1000) % 100) ((m1-1000) / 100 % 1000))
def fK:Op→Bool
 | .store .. => true
 | _=>false
def mv:Op→Bool
 | .load .. => true
 | _=>false
theorem fM {m o off sz:Nat} (hm:1000≤m) (h:cA m o off sz=true):(m-1000) / 100000=o∧(m-1000) / 100 % 1000=off∧(m-1000) % 100=sz:=by
 unfold cA at h
 simp only[Bool.or_eq_true,Bool.and_eq_true,Nat.blt_eq,beq_iff_eq] at h
 rcases h with h|⟨⟨h1,h2⟩,h3⟩
 ·omega
 ·omega
theorem eI {α:Type} {C vs:List α} {off:Nat} (h:off+vs.length≤C.length) (q:Nat):(over C off vs)[q]?=if q<off then C[q]? else if q<off+vs.length then vs[q-off]? else C[q]?:=by
 unfold over
 by_cases h1:q<off
 ·rw[if_pos h1,List.append_assoc,List.getElem?_append_left (by simp; omega),List.getElem?_take,if_pos h1]
 ·rw[if_neg h1,List.append_assoc,List.getElem?_append_right (by simp; omega)]
  have e:(List.take off C).length=off:=by simp; omega
  rw[e]
  by_cases h2:q<off+vs.length
  ·rw[if_pos h2,List.getElem?_append_left (by omega)]
  ·rw[if_neg h2,List.getElem?_append_right (by omega),List.getElem?_drop]
   congr 1; omega
theorem nS {α:Type} {C us vs:List α} {a b:Nat} (ha:a+us.length≤C.length) (hb:b+vs.length≤C.length) (h:a+us.length≤b∨b+vs.length≤a):over (over C a us) b vs=over (over C b vs) a us:=by
 apply List.ext_getElem?
 intro q
 rw[eI (C:=over C a us) (by rw[bl ha]; exact hb),eI (C:=over C b vs) (by rw[bl hb]; exact ha),eI (C:=C) ha,eI (C:=C) hb]
 by_cases c1:q<b<;>by_cases c2:q<b+vs.length<;>by_cases c3:q<a<;>by_cases c4:q<a+us.length<;>simp only[c1,c2,c3,c4,if_true,if_false]<;>omega
def indep (ops:Array Oper) (hn:Oper→Nat) (o1 o2:Oper):Bool:=
 (match o1.dst with|some d=> !(looks ops o2).contains d && o2.dst != some d|none=>true) &&
 (match o2.dst with|some d=> !(looks ops o1).contains d|none=>true) &&
 match cl (hn o1) o1.op,cl (hn o2) o2.op with
 | some .p,some _|some _,some .p=>true
 | some .l,some .l|some .l,some .r|some .r,some .l|some .r,some .r=>true
 | some .l,some .a=>true
 | some .w,some .w=>fK o1.op && fK o2.op && dL (hn o1) (hn o2)
 | some .l,some .w=>mv o1.op && fK o2.op && (hn o1 == 900 || dL (hn o1) (hn o2))
 | some .w,some .l=>fK o1.op && mv o2.op && (hn o2 == 900 || dL (hn o1) (hn o2))
 | _,_=>false
theorem uN {gl:ai} {e:Env} {d:Option Tmp} {x:PV} {y:Operand} (h:∀ t,d=some t→y ≠ .tmp t):ev gl (upd e d x) y=ev gl e y:=by
 cases y with
 | tmp k=>
  cases d with
  | none=>rfl
  | some t=>
   simp only[ev,upd]
   rw[if_neg]
   intro e; subst e; exact h _ rfl rfl
 | const v=>rfl
 | global k=>rfl
 | func f=>rfl
theorem eC (e:Env) (d1 d2:Option Tmp) (x y:PV) (h:∀ t,d1=some t→d2≠some t):upd (upd e d1 x) d2 y=upd (upd e d2 y) d1 x:=by
 cases d1 with
 | none=>rfl
 | some a=>
  cases d2 with
  | none=>rfl
  | some b=>
   have:b≠a:=fun e=>h a rfl (by rw[e])
   funext k
   simp only[upd]
   by_cases h1:k=b
   ·subst h1; rw[if_pos rfl,if_neg this,if_pos rfl]
   ·rw[if_neg h1,if_neg h1]
theorem u4 (e:Env) (d:Option Tmp) (x:PV) (k:Nat) (h:d≠some k):upd e d x k=e k:=by
 cases d with
 | none=>rfl
 | some t=>
  simp only[upd]
  rw[if_neg]
  intro e; subst e; exact h rfl
theorem jE {P:Program} {gl:ai} {op:Op} {m:Nat} {ρ ρ':Operand→PV} {H H':aa} {r:PV} (hρ:∀ x∈op.operands,ρ x=ρ' x) (h:fD P gl op m ρ H r H'):fD P gl op m ρ' H r H':=by
 refine⟨gr hρ h.1,?_⟩
 have h2:=h.2
 split at h2
 ·exact⟨h2.1,fun H2=>gr hρ (h2.2 H2)⟩
 all_goals exact h2
theorem hM {ops:Array Oper} {o:Oper} {d:Option Tmp} (h:∀ t,d=some t→(looks ops o).contains t=false) {gl:ai} {e:Env} {x:PV}:∀ y∈o.op.operands,ev gl (upd e d x) y=ev gl e y:=by
 intro y hy
 refine uN ?_
 rintro t ht rfl
 have:=h t ht
 simp only[looks,List.contains_eq_mem,List.mem_append,List.mem_filterMap,decide_eq_false_iff_not,not_or] at this
 exact this.1 ⟨.tmp t,by simpa using hy,rfl⟩
theorem dc {ops:Array Oper} {o:Oper} {d:Option Tmp} (h:∀ t,d=some t→(looks ops o).contains t=false) {j:Nat} {want:Bool} {k:Tmp} (hg:o.guard=some (j,want)) (hk:(ops[j]?).bind (·.dst)=some k) (e:Env) (x:PV):
  upd e d x k=e k:=by
 refine u4 _ _ _ _ ?_
 intro hd
 have:=h k hd
 simp only[looks,hg,hk,List.contains_eq_mem,List.mem_append,decide_eq_false_iff_not,not_or] at this
 exact this.2 (by simp)
theorem uK {P:Program} {gl:ai} {hn:Oper→Nat} {ops:Array Oper} {o:Oper} {d:Option Tmp} {x:PV} {e e':Env} {H H':aa} (hl:∀ t,d=some t→(looks ops o).contains t=false) (hd:∀ t,d=some t→o.dst≠some t)
  (h:SD P gl hn ops o (upd e d x) H e' H'):∃ e1,SD P gl hn ops o e H e1 H'∧e'=upd e1 d x:=by
 rcases h with⟨r,rfl,hs,hg⟩|⟨rfl,rfl,j,want,k,hg,hk,he⟩
 ·refine⟨upd e o.dst r,.inl ⟨r,rfl,jE (hM hl) hs,?_⟩,eC e d o.dst x r hd⟩
  split at hg
  ·trivial
  ·rename_i j want hgd
   obtain⟨k,hk,he⟩:=hg
   exact⟨k,hk,by rw[← dc hl hgd hk e x]; exact he⟩
 ·exact⟨upd e o.dst (.tup []),.inr ⟨rfl,rfl,j,want,k,hg,hk,by rw[← dc hl hg hk e x]; exact he⟩,eC e d o.dst x _ hd⟩
theorem m9 {P:Program} {gl:ai} {hn:Oper→Nat} {ops:Array Oper} {o:Oper} {d:Option Tmp} {x:PV} {e e1:Env} {H H':aa} (hl:∀ t,d=some t→(looks ops o).contains t=false) (hd:∀ t,d=some t→o.dst≠some t)
  (h:SD P gl hn ops o e H e1 H'):SD P gl hn ops o (upd e d x) H (upd e1 d x) H':=by
 rcases h with⟨r,rfl,hs,hg⟩|⟨rfl,rfl,j,want,k,hg,hk,he⟩
 ·refine .inl ⟨r,(eC e d o.dst x r hd).symm,jE (fun y hy=>(hM hl y hy).symm) hs,?_⟩
  split at hg
  ·trivial
  ·rename_i j want hgd
   obtain⟨k,hk,he⟩:=hg
   exact⟨k,hk,by rw[dc hl hgd hk e x]; exact he⟩
 ·exact .inr ⟨(eC e d o.dst x _ hd).symm,rfl,j,want,k,hg,hk,by rw[dc hl hg hk e x]; exact he⟩
theorem mH {P:Program} {gl:ai} {op:Op} {m:Nat} {ρ:Operand→PV} {H H':aa} {r:PV} (hc:cl m op=some .l) (hk:keeps H H') (h:opw P gl op m ρ H (fun x H1=>x=r∧H1=H)):opw P gl op m ρ H' (fun x H1=>x=r∧H1=H'):=by
 cases op<;>try (simp[cl] at hc; done)
 case load t a=>
  simp only[opw] at h ⊢
  split at h
  ·rename_i cs b sz hb ht
   have hb':behind H' (ρ a)=some cs:=by
    unfold behind at hb ⊢
    split at hb
    ·exact hb
    ·rename_i o off _
     split at hb
     ·rename_i cs' ho
      rw[hk o cs' ho]; exact hb
     ·cases hb
    ·cases hb
   rw[hb',ht]
   simp only
   split at h
   ·rename_i y hl
    exact⟨h.1,h.2.1,trivial⟩
   ·exact h.elim
  ·exact h.elim
 case call c=>
  simp only[cl] at hc
  split at hc
  ·(repeat' split at hc)<;>simp at hc
  ·split at hc<;>first|(simp at hc; done)|skip
   split at hc
   ·simp at hc
   ·(repeat' split at hc)<;>simp at hc
  ·simp at hc
theorem dH {P:Program} {gl:ai} {op:Op} {m:Nat} {ρ:Operand→PV} {H H':aa} {r:PV} (hs:fK op=true) (h:opw P gl op m ρ H (fun x H1=>x=r∧H1=H')):
  ∃(o off sz:Nat) (xs cs:List PV),H[o]?=some (.cells cs)∧off+sz≤cs.length∧xs.length=sz∧cA m o off sz=true∧r = .tup []∧H'=H.set o (.cells (over cs off xs))∧
   ∀(H2:aa) (cs2:List PV),H2[o]?=some (.cells cs2)→off+sz≤cs2.length→opw P gl op m ρ H2 (fun x H1=>x = .tup []∧H1=H2.set o (.cells (over cs2 off xs))):=by
 cases op<;>try (cases hs; done)
 case store t a x=>
  simp only[opw] at h
  split at h
  ·rename_i o off b sz xs ha ht hx
   split at h
   ·rename_i cs ho
    obtain⟨h1,h2,⟨h3,h4⟩,h5,h6⟩:=h
    refine⟨o,off,sz,xs,cs,ho,h3,h1,h4,h5.symm,h6.symm,fun H2 cs2 k1 k2=>?_⟩
    simp only[opw,ha,ht,hx,k1]
    exact⟨h1,h2,⟨k2,h4⟩,trivial,trivial⟩
   ·exact h.elim
  ·exact h.elim
theorem loadPV_over {b:Bool} {off sz off2:Nat} {cs xs:List PV} (h2:off2+xs.length≤cs.length) (h0:0<sz) (hd:off+sz≤off2∨off2+xs.length≤off):b5 b sz ((over cs off2 xs).drop off)=b5 b sz (cs.drop off):=by
 have hl:((over cs off2 xs).drop off).length=(cs.drop off).length:=by rw[List.length_drop,List.length_drop,bl h2]
 have hg:∀ q,q<sz→((over cs off2 xs).drop off)[q]?=(cs.drop off)[q]?:=fun q hq=>by
  rw[List.getElem?_drop,List.getElem?_drop,eI h2]
  by_cases c1:off+q<off2
  ·rw[if_pos c1]
  ·rw[if_neg c1,if_neg (by omega)]
 unfold b5
 cases b with
 | true=>
  simp only[if_true,hl]
  have ht:((over cs off2 xs).drop off).take sz=(cs.drop off).take sz:=by
   apply List.ext_getElem?
   intro q
   rw[List.getElem?_take,List.getElem?_take]
   by_cases c:q<sz
   ·rw[if_pos c,if_pos c,hg q c]
   ·rw[if_neg c,if_neg c]
  rw[ht]
 | false=>
  simp only[Bool.false_eq_true,if_false]
  exact hg 0 h0
theorem iV {P:Program} {gl:ai} {op:Op} {m m2:Nat} {ρ:Operand→PV} {H:aa} {r:PV} (hs:mv op=true) {o2 off2 sz2:Nat} {cs2 xs2:List PV} (ho:H[o2]?=some (.cells cs2)) (hfit:off2+sz2≤cs2.length) (hx:xs2.length=sz2) (hh:cA m2 o2 off2 sz2=true)
  (hap:(m == 900 || dL m m2)=true∨(m == 900 || dL m2 m)=true):
  opw P gl op m ρ H (fun x H1=>x=r∧H1=H)↔opw P gl op m ρ (H.set o2 (.cells (over cs2 off2 xs2))) (fun x H1=>x=r∧H1=H.set o2 (.cells (over cs2 off2 xs2))):=by
 cases op<;>try (cases hs; done)
 case load t a=>
  have hol:o2<H.length:=(List.getElem?_eq_some_iff.1 ho).1
  subst hx
  have key:∀(b:Bool) (sz:Nat),kR m (ρ a) sz=true→(behind H (ρ a)).bind (b5 b sz)=(behind (H.set o2 (.cells (over cs2 off2 xs2))) (ρ a)).bind (b5 b sz):=by
   intro b sz hl
   unfold kR at hl
   split at hl
   ·split at hl
    ·rename_i cs hx; rw[hx]; rfl
    ·cases hl
   ·rename_i h9
    have hm:1000≤m:=by
     rcases hap with h|h<;>rw[h9,Bool.false_or] at h<;>simp only[dL,Bool.and_eq_true,Nat.ble_eq] at h
     ·exact h.1.1
     ·exact h.1.2
    have hm2:1000≤m2:=by
     rcases hap with h|h<;>rw[h9,Bool.false_or] at h<;>simp only[dL,Bool.and_eq_true,Nat.ble_eq] at h
     ·exact h.1.2
     ·exact h.1.1
    simp only[Bool.or_eq_true,Nat.blt_eq] at hl
    rcases hl with hl|hl
    ·omega
    ·split at hl
     ·rename_i o off hx
      simp only[Bool.and_eq_true,Nat.blt_eq] at hl
      obtain⟨d1,d2,d3⟩:=fM hm hl.1
      obtain⟨d4,d5,d6⟩:=fM hm2 hh
      have hd:o≠o2∨off+sz≤off2∨off2+xs2.length≤off:=by
       rcases hap with h|h<;>rw[h9,Bool.false_or] at h<;>simp only[dL,Bool.and_eq_true,Nat.ble_eq,Bool.or_eq_true,Bool.not_eq_true',beq_eq_false_iff_ne,d1,d2,d3,d4,d5,d6] at h
       ·rcases h.2 with (k|k)|k
        ·exact .inl k
        ·exact .inr (.inl k)
        ·exact .inr (.inr k)
       ·rcases h.2 with (k|k)|k
        ·exact .inl (Ne.symm k)
        ·exact .inr (.inr k)
        ·exact .inr (.inl k)
      rw[hx]
      simp only[behind]
      by_cases hoo:o=o2
      ·subst hoo
       rw[ho,List.getElem?_set_self hol]
       simp only[Option.bind_some]
       rcases hd with k|k
       ·exact absurd rfl k
       ·exact(loadPV_over hfit hl.2 k).symm
      ·rw[List.getElem?_set_ne (fun e=>hoo e.symm)]
     ·cases hl
  simp only[opw]
  cases ht:tyA P t with
  | none=>cases behind H (ρ a)<;>cases behind (H.set o2 (.cells (over cs2 off2 xs2))) (ρ a)<;>exact⟨fun h=>h.elim,fun h=>h.elim⟩
  | some p=>
   obtain⟨b,sz⟩:=p
   by_cases hl:kR m (ρ a) sz=true
   ·have k:=key b sz hl
    constructor
    ·intro h
     split at h
     ·rename_i cs b' sz' hb ht'
      cases ht'
      split at h
      ·rename_i y hy
       rw[hb] at k
       simp only[Option.bind_some,hy] at k
       obtain⟨cs',hb',hy'⟩:=Option.bind_eq_some_iff.1 k.symm
       rw[hb']; simp only[hy']
       exact⟨hl,h.2.1,trivial⟩
      ·exact h.elim
     ·exact h.elim
    ·intro h
     split at h
     ·rename_i cs b' sz' hb ht'
      cases ht'
      split at h
      ·rename_i y hy
       rw[hb] at k
       simp only[Option.bind_some,hy] at k
       obtain⟨cs',hb',hy'⟩:=Option.bind_eq_some_iff.1 k
       rw[hb']; simp only[hy']
       exact⟨hl,h.2.1,trivial⟩
      ·exact h.elim
     ·exact h.elim
   ·constructor
    ·intro h
     split at h
     ·rename_i cs b' sz' hb ht'
      cases ht'
      split at h
      ·exact absurd h.1 hl
      ·exact h.elim
     ·exact h.elim
    ·intro h
     split at h
     ·rename_i cs b' sz' hb ht'
      cases ht'
      split at h
      ·exact absurd h.1 hl
      ·exact h.elim
     ·exact h.elim
theorem swap {P:Program} {gl:ai} {hn:Oper→Nat} {ops:Array Oper} {o1 o2:Oper} (hi:indep ops hn o1 o2=true) {e e1 e2:Env} {H H1 H2:aa} (h1:SD P gl hn ops o1 e H e1 H1) (h2:SD P gl hn ops o2 e1 H1 e2 H2):
  ∃ e1' H1',SD P gl hn ops o2 e H e1' H1'∧SD P gl hn ops o1 e1' H1' e2 H2:=by
 simp only[indep,Bool.and_eq_true] at hi
 obtain⟨⟨hi1,hi2⟩,hi3⟩:=hi
 have hl2:∀ t,o1.dst=some t→(looks ops o2).contains t=false:=by
  intro t ht; rw[ht] at hi1; simp at hi1; simpa using hi1.1
 have hd:∀ t,o1.dst=some t→o2.dst≠some t:=by
  intro t ht; rw[ht] at hi1; simp at hi1; exact hi1.2
 have hl1:∀ t,o2.dst=some t→(looks ops o1).contains t=false:=by
  intro t ht; rw[ht] at hi2; simpa using hi2
 have hd':∀ t,o2.dst=some t→o1.dst≠some t:=fun t ht ht'=>hd t ht' ht
 obtain⟨r1,hr1⟩:∃ r1,e1=upd e o1.dst r1:=by
  rcases h1 with⟨r,rfl,_⟩|⟨rfl,_⟩
  ·exact⟨r,rfl⟩
  ·exact⟨_,rfl⟩
 subst hr1
 obtain⟨ea,ha,rfl⟩:=uK hl2 hd h2
 obtain⟨r2,hr2⟩:∃ r2,ea=upd e o2.dst r2:=by
  rcases ha with⟨r,rfl,_⟩|⟨rfl,_⟩
  ·exact⟨r,rfl⟩
  ·exact⟨_,rfl⟩
 subst hr2
 have hfin:∀ Ha,SD P gl hn ops o2 e H (upd e o2.dst r2) Ha→SD P gl hn ops o1 e Ha (upd e o1.dst r1) H2→
   ∃ e1' H1',SD P gl hn ops o2 e H e1' H1'∧SD P gl hn ops o1 e1' H1' (upd (upd e o2.dst r2) o1.dst r1) H2:=by
  intro Ha k1 k2
  have k3:=m9 (d:=o2.dst) (x:=r2) hl1 hd' k2
  refine⟨_,Ha,k1,?_⟩
  rwa [← eC e o2.dst o1.dst r2 r1 hd'] at k3
 have stay:∀ {o:Oper} {r:PV} {Hx Hy:aa},SD P gl hn ops o e Hx (upd e o.dst r) Hx→(∀ {r'},fD P gl o.op (hn o) (ev gl e) Hx r' Hx→fD P gl o.op (hn o) (ev gl e) Hy r' Hy)→SD P gl hn ops o e Hy (upd e o.dst r) Hy:=by
  intro o r Hx Hy h hs
  rcases h with⟨r',he,h1,hg⟩|⟨he,_,hg⟩
  ·exact .inl ⟨r',he,hs h1,hg⟩
  ·exact .inr ⟨he,rfl,hg⟩
 have pstay:∀ {o:Oper} {Hx Hy:aa} {r':PV},cl (hn o) o.op=some .p→fD P gl o.op (hn o) (ev gl e) Hx r' Hx→fD P gl o.op (hn o) (ev gl e) Hy r' Hy:=by
  intro o Hx Hy r' hc h
  have:=h.2
  rw[hc] at this
  exact aB hc this.2
 have same:∀ {o:Oper} {Hx Hy:aa} {r:PV},(cl (hn o) o.op=some .p∨cl (hn o) o.op=some .l∨cl (hn o) o.op=some .r)→SD P gl hn ops o e Hx (upd e o.dst r) Hy→Hy=Hx:=by
  intro o Hx Hy r hc h
  rcases h with⟨r',_,h1,_⟩|⟨_,he,_⟩
  ·have:=h1.2
   rcases hc with hc|hc|hc<;>rw[hc] at this
   ·exact this.1
   ·exact this
   ·exact this
  ·exact he
 split at hi3
 ·
  rename_i c2 hc1 hc2
  have:=same (.inl hc1) h1
  subst this
  exact hfin H2 ha (stay h1 (pstay hc1))
 ·rename_i c1 hc1 hc2
  have:=same (.inl hc2) ha
  subst this
  exact hfin H (stay ha (pstay hc2)) h1
 ·rename_i hc1 hc2
  have:=same (.inr (.inl hc1)) h1
  subst this
  have:=same (.inr (.inl hc2)) ha
  subst this
  exact hfin _ ha h1
 ·rename_i hc1 hc2
  have:=same (.inr (.inl hc1)) h1
  subst this
  have:=same (.inr (.inr hc2)) ha
  subst this
  exact hfin _ ha h1
 ·rename_i hc1 hc2
  have:=same (.inr (.inr hc1)) h1
  subst this
  have:=same (.inr (.inl hc2)) ha
  subst this
  exact hfin _ ha h1
 ·rename_i hc1 hc2
  have:=same (.inr (.inr hc1)) h1
  subst this
  have:=same (.inr (.inr hc2)) ha
  subst this
  exact hfin _ ha h1
 ·
  rename_i hc1 hc2
  have:=same (.inr (.inl hc1)) h1
  subst this
  have hk:keeps H1 H2:=by
   rcases ha with⟨r',_,hs,_⟩|⟨_,he,_⟩
   ·have:=hs.2; rw[hc2] at this; exact this
   ·subst he; exact fun _ _ h=>h
  exact hfin H2 ha (stay h1 (fun {r'} hs=>⟨mH hc1 hk hs.1,by rw[hc1]⟩))
 ·
  rename_i hc1 hc2
  simp only[Bool.and_eq_true] at hi3
  obtain⟨⟨hs1,hs2⟩,hap⟩:=hi3
  rcases h1 with⟨ra,hea,k1,hg1⟩|⟨hea,rfl,hg1⟩
  ·rcases ha with⟨rb,heb,k2,hg2⟩|⟨heb,rfl,hg2⟩
   ·obtain⟨oa,offa,sza,xa,ca,a1,a2,a3,a4,rfl,a6,a7⟩:=dH hs1 k1.1
    obtain⟨ob,offb,szb,xb,cb,b1,b2,b3,b4,rfl,b6,b7⟩:=dH hs2 k2.1
    simp only[dL,Bool.and_eq_true,Nat.ble_eq,Bool.or_eq_true,Bool.not_eq_true',beq_eq_false_iff_ne] at hap
    obtain⟨⟨m1,m2⟩,hap⟩:=hap
    obtain⟨d1,d2,d3⟩:=fM m1 a4
    obtain⟨d4,d5,d6⟩:=fM m2 b4
    rw[d1,d2,d3,d4,d5,d6] at hap
    subst a6
    subst a3
    subst b3
    by_cases hoo:oa=ob
    ·subst hoo
     have hol:oa<H.length:=(List.getElem?_eq_some_iff.1 a1).1
     have hcb:cb=over ca offa xa:=by
      rw[List.getElem?_set_self hol] at b1
      cases b1; rfl
     subst hcb
     have hlb:offb+xb.length≤ca.length:=by rw[bl a2] at b2; exact b2
     have hdis:offa+xa.length≤offb∨offb+xb.length≤offa:=by
      rcases hap with (h|h)|h
      ·exact absurd rfl h
      ·exact .inl h
      ·exact .inr h
     have e1:H2=(H.set oa (.cells (over ca offb xb))).set oa (.cells (over (over ca offb xb) offa xa)):=by
      rw[b6,List.set_set,List.set_set,nS a2 hlb hdis]
     refine hfin (H.set oa (.cells (over ca offb xb))) (.inl ⟨_,heb,⟨b7 H ca a1 hlb,by rw[hc2]; trivial⟩,hg2⟩) (.inl ⟨_,hea,⟨?_,by rw[hc1]; trivial⟩,hg1⟩)
     rw[e1]
     exact a7 _ _ (List.getElem?_set_self hol) (by rw[bl hlb]; exact a2)
    ·have b1':H[ob]?=some (.cells cb):=by rw[List.getElem?_set_ne hoo] at b1; exact b1
     refine hfin (H.set ob (.cells (over cb offb xb))) (.inl ⟨_,heb,⟨b7 H cb b1' b2,by rw[hc2]; trivial⟩,hg2⟩) (.inl ⟨_,hea,⟨?_,by rw[hc1]; trivial⟩,hg1⟩)
     rw[b6,List.set_comm _ _ (fun e=>hoo e)]
     exact a7 _ _ (by rw[List.getElem?_set_ne (fun e=>hoo e.symm)]; exact a1) a2
   ·exact hfin H (.inr ⟨heb,rfl,hg2⟩) (.inl ⟨ra,hea,k1,hg1⟩)
  ·exact hfin H2 ha (.inr ⟨hea,rfl,hg1⟩)
 ·
  rename_i hc1 hc2
  simp only[Bool.and_eq_true] at hi3
  obtain⟨⟨hs1,hs2⟩,hap⟩:=hi3
  have:=same (.inr (.inl hc1)) h1
  subst this
  rcases ha with⟨rb,heb,k2,hg2⟩|⟨heb,rfl,hg2⟩
  ·obtain⟨ob,offb,szb,xb,cb,b1,b2,b3,b4,rfl,b6,b7⟩:=dH hs2 k2.1
   have kk:=k2
   subst b6
   exact hfin _ (.inl ⟨_,heb,kk,hg2⟩) (stay h1 (fun {r'} hs=>⟨(iV hs1 b1 b2 b3 b4 (.inl hap)).1 hs.1,by rw[hc1]⟩))
  ·exact hfin _ (.inr ⟨heb,rfl,hg2⟩) h1
 ·
  rename_i hc1 hc2
  simp only[Bool.and_eq_true] at hi3
  obtain⟨⟨hs1,hs2⟩,hap⟩:=hi3
  have:=same (.inr (.inl hc2)) ha
  subst this
  rcases h1 with⟨ra,hea,k1,hg1⟩|⟨hea,rfl,hg1⟩
  ·obtain⟨oa,offa,sza,xa,ca,a1,a2,a3,a4,rfl,a6,a7⟩:=dH hs1 k1.1
   have kk:=k1
   subst a6
   refine hfin H ?_ (.inl ⟨_,hea,kk,hg1⟩)
   exact stay ha (fun {r'} hs=>⟨(iV hs2 a1 a2 a3 a4 (.inr hap)).2 hs.1,by rw[hc2]⟩)
  ·exact hfin H2 ha (.inr ⟨hea,rfl,hg1⟩)
 ·cases hi3
theorem qL {P:Program} {gl:ai} {hn:Oper→Nat} {ops:Array Oper} {i:Nat} {B:List Nat}:∀(A:List Nat) (e:Env) (H:aa) (e2:Env) (H2:aa),
  (∀ k∈A,∀ ok oi,ops[k]?=some ok→ops[i]?=some oi→indep ops hn ok oi=true)→Chain P gl hn ops (A++i::B) e H e2 H2→Chain P gl hn ops (i::(A++B)) e H e2 H2:=by
 intro A
 induction A with
 | nil=>intro e H e2 H2 _ h; exact h
 | cons k A ih=>
  intro e H e2 H2 hi h
  rw[List.cons_append] at h
  cases h with
  | cons ho h1 hs=>
   have hs':=ih _ _ _ _ (fun q hq=>hi q (by simp[hq])) hs
   cases hs' with
   | cons ho' h2 hs2=>
    obtain⟨ea,Ha,k1,k2⟩:=swap (hi k (by simp) _ _ ho ho') h1 h2
    exact .cons ho' k1 (.cons ho k2 hs2)
def qg (ops:Array Oper) (hn:Oper→Nat) (i j:Nat):Prop:=j<i→∀ oj oi,ops[j]?=some oj→ops[i]?=some oi→indep ops hn oj oi=true
theorem lV {P:Program} {gl:ai} {hn:Oper→Nat} {ops:Array Oper}:∀(σ L:List Nat) (e:Env) (H:aa) (e2:Env) (H2:aa),
  L.Pairwise (· < ·)→σ.Perm L→σ.Pairwise (qg ops hn)→Chain P gl hn ops L e H e2 H2→Chain P gl hn ops σ e H e2 H2:=by
 intro σ
 induction σ with
 | nil=>
  intro L e H e2 H2 _ hp _ h
  have:L=[]:=List.Perm.eq_nil hp.symm
  subst this; exact h
 | cons i σ ih=>
  intro L e H e2 H2 hL hp hR h
  have hi:i∈L:=hp.subset (by simp)
  obtain⟨A,B,rfl⟩:=List.append_of_mem hi
  have hb:=qL A e H e2 H2 (fun k hk ok oi h1 h2=>by
   have hlt:k<i:=by
    have:=(List.pairwise_append.1 hL).2.2 k hk i (by simp)
    exact this
   have hkσ:k∈σ:=by
    have:k∈i::σ:=hp.symm.subset (by simp[hk])
    rcases List.mem_cons.1 this with e|h
    ·omega
    ·exact h
   exact(List.pairwise_cons.1 hR).1 k hkσ hlt ok oi h1 h2) h
  cases hb with
  | cons ho h1 hs=>
   refine .cons ho h1 (ih (A++B) _ _ _ _ ?_ ?_ (List.pairwise_cons.1 hR).2 hs)
   ·exact hL.sublist (by simp)
   ·exact(List.perm_cons i).1 (hp.trans (List.perm_middle))
def mL (md:Region.Mode) (ops:Array Oper) (l:List Nat):Prop:=
 ∀(p i:Nat) (o:Oper),l[p]?=some i→ops[i]?=some o→∀ e∈o.after,Region.binds md e=true→e.on∈l.take p
def eT (ops:Array Oper):Bool:=(List.range ops.size).all fun i=>match ops[i]? with
 | some o=>o.after.toList.all fun e=> !Region.binds .any e || decide (e.on<i)
 | none=>true
theorem iA {ops:Array Oper} (h:eT ops=true) {i:Nat} {o:Oper} (ho:ops[i]?=some o) {e:Edge} (he:e∈o.after) (hb:Region.binds .any e=true):e.on<i:=by
 have hi:i<ops.size:=(Array.getElem?_eq_some_iff.1 ho).1
 have:=List.all_eq_true.1 h i (by simpa using hi)
 rw[ho] at this
 simp only[List.all_eq_true,Bool.or_eq_true,decide_eq_true_eq,Bool.not_eq_true'] at this
 rcases this e (by simpa using he) with h|h
 ·rw[hb] at h; cases h
 ·exact h
def eo (md:Region.Mode) (ops:Array Oper) (rk:List Nat):Bool:=(List.range ops.size).all fun i=>match ops[i]? with
 | some o=>o.after.toList.all fun e=>decide (e.on<ops.size) && (!Region.binds md e || decide (rk.getD e.on 0<rk.getD i 0))
 | none=>true
theorem ig {md:Region.Mode} {ops:Array Oper} {rk:List Nat} (h:eo md ops rk=true) {i:Nat} {o:Oper} (ho:ops[i]?=some o) {e:Edge} (he:e∈o.after):
  e.on<ops.size∧(Region.binds md e=true→rk.getD e.on 0<rk.getD i 0):=by
 have hi:i<ops.size:=(Array.getElem?_eq_some_iff.1 ho).1
 have:=List.all_eq_true.1 h i (by simpa using hi)
 rw[ho] at this
 simp only[List.all_eq_true,Bool.and_eq_true,Bool.or_eq_true,decide_eq_true_eq,Bool.not_eq_true'] at this
 obtain⟨h1,h2⟩:=this e (by simpa using he)
 refine⟨h1,fun hb=>?_⟩
 rcases h2 with h2|h2
 ·rw[hb] at h2; cases h2
 ·exact h2
def fF (md:Region.Mode) (ops:Array Oper):List Nat:=
 let l:=Region.linearise md ops 0
 (List.range ops.size).map fun i=>l.idxOf i
theorem lZ {md:Region.Mode} {ops:Array Oper} {rk:List Nat} (hb:eo md ops rk=true):∀(fuel t:Nat) (listed:Array Bool) (acc:List Nat),listed.size=ops.size→(∀ i,i<ops.size→(listed.getD i true=true↔i∈acc))→
  acc.Nodup→(∀ i∈acc,i<ops.size)→mL md ops acc.reverse→acc.length+fuel=ops.size→
  (Region.linearise.go md ops fuel t listed acc).Nodup∧(∀ i∈Region.linearise.go md ops fuel t listed acc,i<ops.size)∧mL md ops (Region.linearise.go md ops fuel t listed acc)∧
   (Region.linearise.go md ops fuel t listed acc).length=ops.size:=by
 intro fuel
 induction fuel with
 | zero=>
  intro t listed acc _ _ h3 h4 h5 h6
  simp only[Region.linearise.go]
  exact⟨(List.reverse_perm acc).nodup_iff.2 h3,fun i hi=>h4 i (by simpa using hi),h5,by simpa using h6⟩
 | succ fuel ih=>
  intro t listed acc h1 h2 h3 h4 h5 h6
  simp only[Region.linearise.go]
  generalize hrs:((List.range ops.size).filter fun i=> !listed.getD i true && ((ops[i]?).map (·.after.all fun e=> !Region.binds md e || listed.getD e.on false)).getD false)=rs
  have hne:0<rs.length:=by
   have hex:∃ i,i<ops.size∧i∉acc:=by
    rcases Classical.em (∃ i,i<ops.size∧i∉acc) with h|h
    ·exact h
    ·exfalso
     have hall:∀ i∈List.range ops.size,i∈acc:=by
      intro i hi
      rcases Classical.em (i∈acc) with h'|h'
      ·exact h'
      ·exact absurd ⟨i,by simpa using hi,h'⟩ h
     have:=List.Nodup.length_le_of_subset (List.nodup_range) hall
     simp at this
     omega
   obtain⟨r,⟨i,hi,hri⟩,hmin0⟩:=exists_least (p:=fun r=>∃ i,(i<ops.size∧i∉acc)∧rk.getD i 0=r) (by obtain⟨i,hi⟩:=hex; exact⟨_,i,hi,rfl⟩)
   have hmin:∀ k,k<ops.size∧k∉acc→r≤rk.getD k 0:=fun k hk=>hmin0 _ ⟨k,hk,rfl⟩
   have hmem:i∈rs:=by
    rw[← hrs]
    simp only[List.mem_filter,List.mem_range,Bool.and_eq_true,Bool.not_eq_true']
    refine⟨hi.1,?_,?_⟩
    ·cases hl:listed.getD i true
     ·rfl
     ·exact absurd ((h2 i hi.1).1 hl) hi.2
    ·rw[Array.getElem?_eq_getElem hi.1]
     simp only[Option.map_some,Option.getD_some]
     rw[Array.all_eq_true']
     intro e he
     obtain⟨hos,hlt⟩:=ig hb (Array.getElem?_eq_getElem hi.1) he
     cases hbe:Region.binds md e with
     | false=>simp
     | true=>
     have hlt:=hlt hbe
     have hin:e.on∈acc:=by
      rcases Classical.em (e.on∈acc) with h'|h'
      ·exact h'
      ·exact absurd (hmin e.on ⟨hos,h'⟩) (by omega)
     have hl:=(h2 e.on hos).2 hin
     have:listed.getD e.on false=true:=by
      have hs:e.on<listed.size:=by omega
      simp only[Array.getD,hs,dif_pos] at hl ⊢
      exact hl
     simp[this]
   exact List.length_pos_of_mem hmem
  have hlt:t % rs.length<rs.length:=Nat.mod_lt _ hne
  rw[List.getElem?_eq_getElem hlt]
  simp only
  generalize hi:rs[t % rs.length]=i
  have hmem:i∈rs:=by rw[← hi]; exact List.getElem_mem hlt
  rw[← hrs] at hmem
  simp only[List.mem_filter,List.mem_range,Bool.and_eq_true,Bool.not_eq_true'] at hmem
  obtain⟨hio,hnl,hrd⟩:=hmem
  have hnot:i∉acc:=by
   intro h'
   have:=(h2 i hio).2 h'
   rw[this] at hnl; cases hnl
  refine ih (t / rs.length) (listed.setIfInBounds i true) (i::acc) (by simpa using h1) ?_ (List.nodup_cons.2 ⟨hnot,h3⟩) ?_ ?_ (by simp; omega)
  ·intro k hk
   by_cases hki:k=i
   ·subst hki
    have:k<listed.size:=by omega
    simp[Array.getD,this]
   ·have h7:=h2 k hk
    simp only[Array.getD_eq_getD_getElem?] at h7 ⊢
    rw[Array.getElem?_setIfInBounds_ne (Ne.symm hki),h7]
    simp[hki]
  ·intro k hk
   rcases List.mem_cons.1 hk with rfl|hk
   ·exact hio
   ·exact h4 k hk
  ·intro p k o hp ho e he hbe
   rw[List.reverse_cons] at hp ⊢
   rcases ak _ _ _ _ hp with⟨hp,hpl⟩|⟨rfl,rfl⟩
   ·rw[List.take_append_of_le_length (by omega)]
    exact h5 p k o hp ho e he hbe
   ·rw[List.take_left']
    ·rw[ho] at hrd
     simp only[Option.map_some,Option.getD_some] at hrd
     have:=Array.all_eq_true'.1 hrd e he
     rw[hbe] at this
     simp only[Bool.not_true,Bool.false_or] at this
     have hlt':e.on<ops.size:=(ig hb ho he).1
     have:listed.getD e.on true=true:=by
      have hs:e.on<listed.size:=by omega
      simp only[Array.getD,hs,dif_pos] at this ⊢
      exact this
     have:=(h2 e.on (by omega)).1 this
     simpa using this
    ·rfl
def ez (acc:List (List Nat)) (o:Oper):List Nat:=
 (o.after.toList.filter (Region.binds .any)).foldl (fun s e=>s++(e.on::acc.getD e.on []).filter (fun x=> !s.contains x)) []
def cY (ops:List Oper):List (List Nat):=ops.foldl (fun acc o=>acc++[ez acc o]) []
theorem l9 {acc:List (List Nat)} {o:Oper} {j:Nat} (h:j∈ez acc o):∃ e∈o.after,Region.binds .any e=true∧(j=e.on∨j∈acc.getD e.on []):=by
 unfold ez at h
 have gen:∀(es:List Edge) (s:List Nat),j∈es.foldl (fun s e=>s++(e.on::acc.getD e.on []).filter (fun x=> !s.contains x)) s→j∈s∨∃ e∈es,j=e.on∨j∈acc.getD e.on []:=by
  intro es
  induction es with
  | nil=>intro s h; exact .inl h
  | cons e es ih=>
   intro s h
   rcases ih _ h with h|⟨e',he',h⟩
   ·rcases List.mem_append.1 h with h|h
    ·exact .inl h
    ·have:=(List.mem_filter.1 h).1
     exact .inr ⟨e,by simp,List.mem_cons.1 this⟩
   ·exact .inr ⟨e',by simp[he'],h⟩
 rcases gen _ _ h with h|⟨e,he,h⟩
 ·cases h
 ·have:=List.mem_filter.1 he
  exact⟨e,by simpa using this.1,this.2,h⟩
theorem nx (l:List Oper) (o:Oper):cY (l++[o])=cY l++[ez (cY l) o]:=by
 simp[cY,List.foldl_append]
theorem lB:∀(l:List Oper),(cY l).length=l.length:=by
 intro l
 have gen:∀(l:List Oper) (acc:List (List Nat)),(l.foldl (fun acc o=>acc++[ez acc o]) acc).length=acc.length+l.length:=by
  intro l
  induction l with
  | nil=>intro acc; rfl
  | cons o l ih=>intro acc; simp only[List.foldl_cons,ih]; simp; omega
 have:=gen l []
 simpa[cY] using this
theorem pG (ops:List Oper):∀(n:Nat),n≤ops.length→∀(i j:Nat) (o:Oper),i<n→ops[i]?=some o→(∀ e∈o.after,Region.binds .any e=true→e.on<i)→j∈(cY (ops.take n)).getD i []→
  ∃ e∈o.after,Region.binds .any e=true∧(j=e.on∨j∈(cY (ops.take n)).getD e.on []):=by
 intro n
 induction n with
 | zero=>intro _ i j o hi; omega
 | succ n ih=>
  intro hn i j o hi ho hback hj
  have hlt:n<ops.length:=by omega
  have htake:ops.take (n+1)=ops.take n++[ops[n]]:=by
   rw[List.take_succ_eq_append_getElem hlt]
  rw[htake,nx] at hj ⊢
  have hlen:(cY (ops.take n)).length=n:=by rw[lB]; simp; omega
  have hget:∀ k,k<n→(cY (ops.take n)++[ez (cY (ops.take n)) ops[n]]).getD k []=(cY (ops.take n)).getD k []:=by
   intro k hk
   simp only[List.getD_eq_getElem?_getD]
   rw[List.getElem?_append_left (by omega)]
  by_cases hin:i<n
  ·rw[hget i hin] at hj
   obtain⟨e,he,hb,h⟩:=ih (by omega) i j o hin ho hback hj
   refine⟨e,he,hb,?_⟩
   have:=hback e he hb
   rw[hget e.on (by omega)]; exact h
  ·have hieq:i=n:=by omega
   subst hieq
   have ho':ops[i]=o:=by rw[List.getElem?_eq_getElem hlt] at ho; exact Option.some.inj ho
   have:(cY (ops.take i)++[ez (cY (ops.take i)) ops[i]]).getD i []=ez (cY (ops.take i)) ops[i]:=by
    simp only[List.getD_eq_getElem?_getD]
    rw[List.getElem?_append_right (by omega),hlen]; simp
   rw[this,ho'] at hj
   obtain⟨e,he,hb,h⟩:=l9 hj
   refine⟨e,he,hb,?_⟩
   have:=hback e he hb
   rw[hget e.on (by omega)]; exact h
theorem fc {md:Region.Mode} {ops:Array Oper} (hb:eT ops=true) {l:List Nat} (hl:mL md ops l) (hr:∀ i∈l,i<ops.size):
  ∀(p i:Nat),l[p]?=some i→∀ j∈(cY ops.toList).getD i [],j∈l.take p:=by
 intro p
 induction p using Nat.strongRecOn with
 | _ p ih=>
  intro i hp j hj
  have hi:i<ops.size:=hr i (List.mem_of_getElem? hp)
  have hm:=pG ops.toList ops.size (by simp) i j ops[i] hi (by simp) (fun e he hbe=>iA hb (Array.getElem?_eq_getElem hi) he hbe)
  have htk:ops.toList.take ops.size=ops.toList:=by rw[List.take_of_length_le (by simp)]
  rw[htk] at hm
  obtain⟨e,he,hbe,h⟩:=hm hj
  have hbe':Region.binds md e=true:=by
   unfold Region.binds at hbe ⊢
   split<;>simp_all
  have hin:=hl p i ops[i] hp (Array.getElem?_eq_getElem hi) e he hbe'
  rcases h with rfl|h
  ·exact hin
  ·obtain⟨p',hp'⟩:=List.mem_iff_getElem?.1 hin
   have hlt:p'<p:=by
    have:=(List.getElem?_eq_some_iff.1 hp').1
    simp at this; omega
   rw[List.getElem?_take,if_pos hlt] at hp'
   have:=ih p' hlt e.on hp' j h
   exact(List.take_subset_take_left l (Nat.le_of_lt hlt)) this
def fL (ops:Array Oper) (hn:Oper→Nat):Bool:=
 (eT ops && eo .any ops (fF .any ops) && (!Region.departs ops || eo .text ops (fF .text ops)) && (!Region.departs ops || eo .gc ops (fF .gc ops))) && (ops.toList.all fun o=>(cl (hn o) o.op).isSome) &&
 (let anc:=cY ops.toList
  (List.range ops.size).all fun i=>(List.range i).all fun j=>match ops[j]?,ops[i]? with
  | some oj,some oi=>indep ops hn oj oi || (anc.getD i []).contains j
  | _,_=>true)
theorem lA {ops:Array Oper} {hn:Oper→Nat} (h:fL ops hn=true) (mixed:Bool) (t:Nat):
  (Region.schedule mixed ops t).Perm (List.range ops.size)∧(Region.schedule mixed ops t).Pairwise (qg ops hn):=by
 simp only[fL,Bool.and_eq_true] at h
 obtain⟨⟨⟨⟨⟨hb,hra⟩,hrt⟩,hrg⟩,_⟩,hd⟩:=h
 have main:∀ md t,eo md ops (fF md ops)=true→(Region.linearise md ops t).Perm (List.range ops.size)∧(Region.linearise md ops t).Pairwise (qg ops hn):=by
  intro md t hrk
  unfold Region.linearise
  obtain⟨k1,k2,k3,k4⟩:=lZ (md:=md) hrk ops.size t (Array.replicate ops.size false) [] (by simp) (fun i hi=>by simp[Array.getD,hi]) (by simp) (by simp) (fun p i o hp=>by simp at hp) (by simp)
  generalize Region.linearise.go md ops ops.size t (Array.replicate ops.size false) []=l at k1 k2 k3 k4
  refine⟨?_,?_⟩
  ·refine(List.perm_ext_iff_of_nodup k1 List.nodup_range).2 fun a=>⟨fun ha=>by simpa using k2 a ha,fun ha=>?_⟩
   rcases Classical.em (a∈l) with h|h
   ·exact h
   ·exfalso
    have h1:(a::l).Nodup:=List.nodup_cons.2 ⟨h,k1⟩
    have h2:(a::l) ⊆ List.range ops.size:=by
     intro x hx
     rcases List.mem_cons.1 hx with rfl|hx
     ·exact ha
     ·simpa using k2 x hx
    have:=List.Nodup.length_le_of_subset h1 h2
    simp at this
    omega
  ·rw[List.pairwise_iff_getElem]
   intro p q hp hq hpq hlt oj oi hoj hoi
   have hiq:=k2 _ (List.getElem_mem hp)
   have hc:=List.all_eq_true.1 hd (l[p]) (by simpa using hiq)
   have hc:=List.all_eq_true.1 hc (l[q]) (by simpa using hlt)
   rw[hoj,hoi] at hc
   simp only[Bool.or_eq_true] at hc
   rcases hc with hc|hc
   ·exact hc
   ·exfalso
    have:=fc hb k3 k2 p l[p] (List.getElem?_eq_getElem hp) l[q] (by simpa using hc)
    obtain⟨r,hr⟩:=List.mem_iff_getElem?.1 this
    have hrp:r<p:=by
     have:=(List.getElem?_eq_some_iff.1 hr).1
     simp at this; omega
    rw[List.getElem?_take,if_pos hrp] at hr
    have hrl:r<l.length:=by omega
    rw[List.getElem?_eq_getElem hrl] at hr
    have:=(List.getElem_inj k1).1 (Option.some.inj hr)
    omega
 unfold Region.schedule
 split
 ·exact main _ _ hra
 ·rename_i hdep
  have hdp:Region.departs ops=true:=by
   revert hdep
   cases mixed<;>cases Region.departs ops<;>simp
  rw[hdp] at hrt hrg
  simp only[Bool.not_true,Bool.false_or] at hrt hrg
  split
  ·exact main _ _ hrt
  ·exact main _ _ hrg
def ia (P:Program) (gl:ai) (hn:Oper→Nat) (ops:Array Oper):List Oper→Env→aa→(Env→aa→Prop)→Prop
 | [],e,H,K=>K e H
 | o::l,e,H,K=>
  match o.guard with
  | none=>gX P gl o.op (hn o) (ev gl e) H fun x H'=>ia P gl hn ops l (upd e o.dst x) H' K
  | some (j,want)=>match (ops[j]?).bind (·.dst) with
   | some d=>match e d with
    | .bool b=>(b=want→gX P gl o.op (hn o) (ev gl e) H fun x H'=>ia P gl hn ops l (upd e o.dst x) H' K)∧(b = !want→ia P gl hn ops l (upd e o.dst (.tup [])) H K)
    | .tup []=>ia P gl hn ops l (upd e o.dst (.tup [])) H K
    | _=>False
   | none=>False
theorem c6 {P:Program} {gl:ai} {hn:Oper→Nat} {ops:Array Oper} {K:Env→aa→Prop} (hc:∀ o∈ops.toList,(cl (hn o) o.op).isSome=true):∀(is:List Nat) (l:List Oper) (e:Env) (H:aa),
  is.map (fun i=>ops[i]?)=l.map some→ia P gl hn ops l e H K→∃ e2 H2,Chain P gl hn ops is e H e2 H2∧K e2 H2:=by
 intro is
 induction is with
 | nil=>
  intro l e H hl h
  have:l=[]:=by simpa using hl
  subst this
  exact⟨e,H,.nil e H,h⟩
 | cons i is ih=>
  intro l e H hl h
  cases l with
  | nil=>simp at hl
  | cons o l=>
   simp only[List.map_cons,List.cons.injEq] at hl
   obtain⟨hi,hl⟩:=hl
   have hmem:o∈ops.toList:=by
    obtain⟨hlt,he⟩:=Array.getElem?_eq_some_iff.1 hi
    rw[← he]; exact Array.getElem_mem_toList hlt
   unfold ia at h
   split at h
   ·rename_i hg
    obtain⟨r,H',hk,hs⟩:=jA (hc o hmem) h
    obtain⟨e2,H2,h1,h2⟩:=ih l _ _ hl hk
    exact⟨e2,H2,.cons hi (.inl ⟨r,rfl,hs,by rw[hg]; trivial⟩) h1,h2⟩
   ·rename_i j want hg
    split at h
    ·rename_i d hd
     split at h
     ·rename_i b hb
      by_cases hbw:b=want
      ·obtain⟨r,H',hk,hs⟩:=jA (hc o hmem) (h.1 hbw)
       obtain⟨e2,H2,h1,h2⟩:=ih l _ _ hl hk
       exact⟨e2,H2,.cons hi (.inl ⟨r,rfl,hs,by rw[hg]; exact⟨d,hd,by rw[hb,hbw]⟩⟩) h1,h2⟩
      ·have hbn:b = !want:=by revert hbw; cases b<;>cases want<;>simp
       obtain⟨e2,H2,h1,h2⟩:=ih l _ _ hl (h.2 hbn)
       exact⟨e2,H2,.cons hi (.inr ⟨rfl,rfl,j,want,d,hg,hd,.inl (by rw[hb,hbn])⟩) h1,h2⟩
     ·rename_i hb
      obtain⟨e2,H2,h1,h2⟩:=ih l _ _ hl h
      exact⟨e2,H2,.cons hi (.inr ⟨rfl,rfl,j,want,d,hg,hd,.inr hb⟩) h1,h2⟩
     ·exact h.elim
    ·exact h.elim
theorem dM [Dfr] {gl:ai} {n:Nat} {g:Gh} {e:Env} {H:aa} {a:Act} {w:World} (hst:St gl n g e H a w) {ops:Array Oper} {j:Nat} {d:Tmp} {b:Bool} (hd:(ops[j]?).bind (·.dst)=some d) (hb:e d = .bool b):
  yielded ops a.tmps j=some b:=by
 unfold yielded
 rw[hd]
 simp only[Option.bind_some]
 have hr:=hst.env.2 d
 rw[hb] at hr
 have hlt:d<a.tmps.size:=by
  rcases Nat.lt_or_ge d a.tmps.size with h|h
  ·exact h
  ·exfalso
   rw[Array.getD_eq_getD_getElem?,Array.getElem?_eq_none h] at hr
   simp only[Option.getD_none,undef] at hr
   cases hr
 rw[Array.getD_eq_getD_getElem?,Array.getElem?_eq_getElem hlt] at hr
 rw[Array.getElem?_eq_getElem hlt]
 simp only[Option.getD_some] at hr
 generalize a.tmps[d]=v at hr
 cases hr; rfl
theorem c8 [Dfr] {P:Program} {gl:ai} {hn:Oper→Nat} {n:Nat} {ops:Array Oper} (hd:ops.toList.all (fO n)=true) {e2:Env} {H2:aa}:∀(is:List Nat) (g:Gh) (e:Env) (H:aa) (a:Act) (w:World),
  St gl n g e H a w→Chain P gl hn ops is e H e2 H2→
  wpOps P ops (fun ex a' w'=>∃ g',ex = .normal∧St gl n g' e2 H2 a' w'∧Ext g H w g' H2 w') is a w:=by
 intro is
 induction is with
 | nil=>
  intro g e H a w hst h
  cases h
  exact⟨g,rfl,hst,.refl _ _ _⟩
 | cons i is ih=>
  intro g e H a w hst h
  cases h with
  | cons ho h1 hs=>
   rename_i o e1 H1
   have hmem:o∈ops.toList:=by
    obtain⟨hlt,he⟩:=Array.getElem?_eq_some_iff.1 ho
    rw[← he]; exact Array.getElem_mem_toList hlt
   have hdo:∀ t,o.dst=some t→t<n:=by
    intro t ht
    have:=List.all_eq_true.1 hd o hmem
    simpa[fO,ht] using this
   unfold wpOps
   rw[ho]
   simp only
   rcases h1 with⟨r,rfl,hst1,hg⟩|⟨rfl,rfl,j,want,d,hg,hdd,hb⟩
   ·have hw:Region.wanted o (yielded ops a.tmps)=true:=by
     unfold Region.wanted
     split at hg
     ·rename_i hgn; rw[hgn]
     ·rename_i j want hgs
      obtain⟨d,hdd,hb⟩:=hg
      rw[hgs]
      simp[dM hst hdd hb]
    rw[if_pos hw]
    left
    have hno:=eL hst.sim hst.glob (o:=o) (a:=a) (fun x=>hst.env.ev hst.glob x) hst1.1
    have cont:∀(g1:Gh) (H1':aa) (w1:World) (x:PV) (v:Value),Sim g1 H1' w1→Ext g H w g1 H1' w1→Rel g1 w1 x v→(x=r∧H1'=H1)→
      wpOps P ops (fun ex a' w'=>∃ g',ex = .normal∧St gl n g' e2 H2 a' w'∧Ext g H w g' H2 w') is (a.put o.dst v) w1:=by
     rintro g1 H1' w1 x v k1 k2 k3 ⟨rfl,rfl⟩
     have:=ih g1 (upd e o.dst x) H1' (a.put o.dst v) w1 (hst.next k1 k2 k3 o.dst hdo) hs
     refine bS _ ?_ _ _ this
     rintro ex a' w' ⟨g',rfl,j1,j2⟩
     exact⟨g',rfl,j1,k2.trans j2⟩
    unfold Oper.wp
    rcases hno with⟨v,w',g',H',x,h1,h2,h3,h4,h5⟩|⟨w',g',H',h1,h2,h3,h4⟩|⟨f,vs,h1,h2⟩
    ·rw[h1]; exact cont g' H' w' x v h2 h3 h4 h5
    ·rw[h1]; exact cont g' H' w' (.tup []) undef h2 h3 (bK g' w') h4
    ·rw[h1]
     refine h2.mono ?_
     rintro ex w' ⟨v,g',H',x,rfl,k1,k2,k3,k4⟩
     exact cont g' H' w' x v k1 k2 k3 k4
   ·have hw:¬ Region.wanted o (yielded ops a.tmps)=true:=by
     unfold Region.wanted
     rw[hg]
     rcases hb with hb|hb
     ·simp[dM hst hdd hb]
     ·simp[dR hst hdd hb]
    rw[if_neg hw]
    exact ih g (upd e o.dst (.tup [])) _ (a.put o.dst undef) w (hst.next hst.sim (.refl _ _ _) (bK g w) o.dst hdo) hs
theorem iy [Dfr] {P:Program} {gl:ai} {n:Nat} {id:Nat} {ops:Array Oper} {Q:Ex→Env→aa→Prop} {e:Env} {H:aa} (hn:Oper→Nat) (hok:fL ops hn=true) (h:ia P gl hn ops ops.toList e H (Q .normal)):
  AW P gl n (.region id ops true) Q e H:=by
 intro hd g a w hst
 have hcl:∀ o∈ops.toList,(cl (hn o) o.op).isSome=true:=by
  have:=hok
  simp only[fL,Bool.and_eq_true] at this
  exact List.all_eq_true.1 this.1.2
 obtain⟨e2,H2,hch,hq⟩:=c6 hcl _ _ e H (ed ops) h
 refine wp_region_draw fun t=>?_
 obtain⟨hp,hr⟩:=lA hok (P.follows .mixedOrders) t
 have hch':=lV _ _ _ _ _ _ List.pairwise_lt_range hp hr hch
 have hst':St gl n g e H a w.drew:=⟨hst.sim.drew,hst.glob.mono (aQ.drew g w),hst.env.mono (aQ.drew g w),hst.dfr⟩
 refine bS _ ?_ _ _ (c8 hd _ g e H a w.drew hst' hch')
 rintro ex a' w' ⟨g',rfl,k1,k2⟩
 exact⟨.normal,g',e2,H2,trivial,k1,(Ext.drew g H w).trans k2,hq⟩
end Go.AM
namespace Go.AM
open Go Go.RowKit
def WFs (R:TypeId→List PV→Prop):List TypeId→List PV→Prop
 | [],xs=>xs=[]
 | t::ts,xs=>∃ a b,xs=a++b∧R t a∧WFs R ts b
def WTp (P:Program):Nat→TypeId→List PV→Prop
 | 0,_,_=>False
 | k+1,t,xs=>match P.underlying t with
  | some .bool=>∃ b,xs=[.bool b]
  | some (.int kd)=>∃ n,xs=[.int kd n]∧kd.min≤n∧n≤kd.max
  | some .string=>∃ s,xs=[.str s]∧s.size≤maxLen
  | some (.slice e)=>∃ es,xs=[.list es .no]∧es.length≤maxLen∧∀ r∈es,WTp P k e r
  | some (.struct fs)=>WFs (WTp P k) (fs.toList.map (·.type)) xs
  | some (.array n e)=>WFs (WTp P k) (List.replicate n e) xs
  | _=>False
def eG (P:Program):Nat→List Field→Nat→Bool
 | o,[],n=>o == n
 | o,f::fs,n=>f.offset == o && eG P (o+P.cellsOf f.type) fs n
def iY (P:Program):Nat→TypeId→Bool
 | 0,_=>false
 | k+1,t=>match P.underlying t with
  | some .bool|some (.int _)|some .string=>true
  | some (.slice e)=>iY P k e
  | some (.struct fs)=>eG P 0 fs.toList (P.cellsOf t) && fs.toList.all (fun f=>iY P k f.type)
  | some (.array n e)=>P.cellsOf t == n*P.cellsOf e && iY P k e
  | _=>false
def gh0 (W:World):Gh:=⟨0,fun _=>0,fun _=>0,fun _=>0,fun b _=>b<W.heap.size,fun _ _=>False⟩
theorem vM (W:World):Sim (gh0 W) [] W where
 n:=rfl
 inj:=fun o _ _ _ _ h=>by simp at h
 cells:=fun o cs h=>by simp at h
 tok:=fun o h=>by simp at h
 imm:=fun _ _ h=>h
 abs:=fun o r h=>by simp at h
theorem jY {W W':World} {g':Gh} {H':aa} (h:Ext (gh0 W) [] W g' H' W'):Below W.heap.size W W':=
 ⟨h.os,h.tape,h.output,h.size,fun k hk=>h.frame k hk (fun⟨o,ob,ho,_⟩=>by simp at ho)⟩
theorem kO {w:World} {A:Addr} {v:Value} (h:w.cell? A=some v):A.block<w.heap.size:=by
 unfold World.cell? at h
 split at h
 ·rename_i hb; exact(Array.getElem?_eq_some_iff.1 hb).1
 ·cases h
theorem nH {w:World} {A:Addr} {v:Value} (h:w.cell? A=some v):A.spot=none:=by
 unfold World.cell? at h
 split at h
 ·split at h
  ·cases h
  ·rename_i hs; cases hq:A.spot with
   | none=>rfl
   | some _=>simp[hq] at hs
 ·cases h
theorem e9 {w:World} {b:Nat} {A:Addr} {n:Nat} {cs:List Value} (h:w.cells? b A n=some cs):cs.length=n∧∀ i,i<n→w.cell? (A.add i)=cs[i]?:=by
 unfold World.cells? at h
 split at h
 ·refine⟨by simpa using mapM_some_length h,fun i hi=>?_⟩
  exact mapM_some_get h i i (by simp[List.getElem?_range hi])
 ·cases h
theorem e6 {P:Program} {g:Gh} {w:World} {R:TypeId→List PV→Prop}:∀(fs:List Field) (o n:Nat) (cs:List Value),eG P o fs n=true→cs.length=n→
  (∀ f∈fs,∃ xs,aq g w xs ((cs.drop f.offset).take (P.cellsOf f.type))∧R f.type xs)→o≤n→∃ xs,aq g w xs (cs.drop o)∧WFs R (fs.map (·.type)) xs
 | [],o,n,cs,ho,hl,_,_=>by
  simp only[eG,beq_iff_eq] at ho
  refine⟨[],?_,rfl⟩
  rw[List.drop_eq_nil_of_le (by omega)]; exact .nil
 | f::fs,o,n,cs,ho,hl,hf,hn=>by
  simp only[eG,Bool.and_eq_true,beq_iff_eq] at ho
  have hle:∀(fs:List Field) (o:Nat),eG P o fs n=true→o≤n:=by
   intro fs
   induction fs with
   | nil=>intro o h; simp only[eG,beq_iff_eq] at h; omega
   | cons f fs ih=>intro o h; simp only[eG,Bool.and_eq_true] at h; have:=ih _ h.2; omega
  have hn':=hle _ _ ho.2
  obtain⟨ys,hy,hw⟩:=e6 fs _ n cs ho.2 hl (fun f' hf'=>hf f' (List.mem_cons_of_mem _ hf')) hn'
  obtain⟨xs,hx,hr⟩:=hf f List.mem_cons_self
  refine⟨xs++ys,?_,xs,ys,rfl,hr,hw⟩
  have e:cs.drop o=(cs.drop f.offset).take (P.cellsOf f.type)++cs.drop (o+P.cellsOf f.type):=by
   rw[ho.1,← List.drop_drop,List.take_append_drop]
  rw[e]; exact hx.append hy
theorem fR {g:Gh} {w:World} {R:TypeId→List PV→Prop} {e:TypeId} {s:Nat}:∀(n:Nat) (cs:List Value),cs.length=n*s→
  (∀ i,i<n→∃ xs,aq g w xs ((cs.drop (i*s)).take s)∧R e xs)→∃ xs,aq g w xs cs∧WFs R (List.replicate n e) xs
 | 0,cs,hl,_=>by
  refine⟨[],?_,rfl⟩
  have h0:cs=[]:=List.eq_nil_of_length_eq_zero (by simpa using hl)
  subst h0; exact .nil
 | n+1,cs,hl,hf=>by
  have hl':cs.length=n*s+s:=by rw[hl]; exact Nat.succ_mul n s
  obtain⟨xs,hx,hr⟩:=hf 0 (Nat.succ_pos n)
  obtain⟨ys,hy,hw⟩:=fR (g:=g) (w:=w) (R:=R) (e:=e) (s:=s) n (cs.drop s) (by rw[List.length_drop,hl']; omega) (fun i hi=>by
   obtain⟨zs,hz,hq⟩:=hf (i+1) (by omega)
   refine⟨zs,?_,hq⟩
   rw[List.drop_drop,show s+i*s=(i+1)*s by rw[Nat.succ_mul]; omega]; exact hz)
  refine⟨xs++ys,?_,xs,ys,rfl,hr,hw⟩
  simp only[Nat.zero_mul,List.drop_zero] at hx
  have:=hx.append hy
  rwa [List.take_append_drop] at this
theorem eB {α:Type} {s:Nat}:∀(es:List (List α)),(∀ e∈es,e.length=s)→∀ q,q<es.flatten.length→es.flatten[q]?=(es.getD (q / s) [])[q % s]?∧q / s<es.length∧0<s
 | [],_,q,hq=>by simp at hq
 | e::es,h,q,hq=>by
  have he:=h e List.mem_cons_self
  have hs:=fun e' (h':e'∈es)=>h e' (List.mem_cons_of_mem _ h')
  simp only[List.flatten_cons,List.length_append] at hq
  by_cases hq1:q<s
  ·have hdiv:q / s=0:=Nat.div_eq_of_lt hq1
   have hmod:q % s=q:=Nat.mod_eq_of_lt hq1
   refine⟨?_,by rw[hdiv]; simp,by omega⟩
   rw[hdiv,hmod,List.flatten_cons,List.getElem?_append_left (by omega)]; rfl
  ·obtain⟨h1,h2,h3⟩:=eB es hs (q-s) (by omega)
   have hdiv:q / s=(q-s) / s+1:=by rw[Nat.div_eq_sub_div h3 (by omega)]
   have hmod:q % s=(q-s) % s:=by rw[Nat.mod_eq_sub_mod (by omega)]
   refine⟨?_,by rw[hdiv]; simpa using h2,h3⟩
   rw[List.flatten_cons,List.getElem?_append_right (by omega),he,h1,hdiv,hmod]; rfl
theorem iQ {g:Gh} {w:World} {R:List PV→Prop} {s:Nat} (A:Addr) (base:Nat):∀(n:Nat),
  (∀ i,i<n→∃ cs xs,w.cells? base (A.add (i*s)) s=some cs∧aq g w xs cs∧R xs)→
  ∃ es:List (List PV),es.length=n∧(∀ e∈es,e.length=s∧R e)∧∀ i,i<n→∃ cs,w.cells? base (A.add (i*s)) s=some cs∧aq g w (es.getD i []) cs
 | 0,_=>⟨[],rfl,fun e he=>by simp at he,fun i hi=>by omega⟩
 | n+1,h=>by
  obtain⟨es,hl,he,hi⟩:=iQ A base n (fun i hi=>h i (by omega))
  obtain⟨cs,xs,h1,h2,h3⟩:=h n (by omega)
  refine⟨es++[xs],by simp[hl],fun e hm=>?_,fun i hlt=>?_⟩
  ·rcases List.mem_append.1 hm with hm|hm
   ·exact he e hm
   ·simp only[List.mem_singleton] at hm; subst hm
    exact⟨h2.1.trans (e9 h1).1,h3⟩
  ·by_cases hin:i<n
   ·obtain⟨cs',k1,k2⟩:=hi i hin
    refine⟨cs',k1,?_⟩
    rw[List.getD_eq_getElem?_getD,List.getElem?_append_left (by omega),← List.getD_eq_getElem?_getD]; exact k2
   ·have:i=n:=by omega
    subst this
    refine⟨cs,h1,?_⟩
    rw[List.getD_eq_getElem?_getD,List.getElem?_append_right (by omega),hl]; simpa using h2
theorem add_add (b o u v:Nat):((⟨b,o,none⟩:Addr).add u).add v=⟨b,o+(u+v),none⟩:=by
 unfold Addr.add
 by_cases hu:u=0
 ·subst hu
  by_cases hv:v=0
  ·subst hv; rfl
  ·rw[if_pos rfl,if_neg hv,Nat.zero_add]
 ·by_cases hv:v=0
  ·subst hv; rw[if_pos rfl,if_neg hu,Nat.add_zero]
  ·rw[if_neg hv,if_neg hu]; simp only[Nat.add_assoc]
theorem lF {g:Gh} {w:World} {s n cap:Nat} {a:Option Addr} {base:Nat} {es:List (List PV)} (hl:es.length=n) (hcap:n≤cap)
  (he:∀ e∈es,e.length=s) (hg:∀ A,a=some A→∀ q,g.imm A.block (A.off+q)∨w.heap.size≤A.block)
  (ha:0<n→∃ A,a=some A∧∀ i,i<n→∃ cs,w.cells? base (A.add (i*s)) s=some cs∧aq g w (es.getD i []) cs):Rel g w (.list es .no) (.slice a n cap):=by
 subst hl
 have key:∀ q,q<es.flatten.length→∃ A c,a=some A∧A.spot=none∧g.imm A.block (A.off+q)∧w.cell? (At A q)=some c∧∀ x,es.flatten[q]?=some x→Rel g w x c:=by
  intro q hq
  obtain⟨h1,h2,h3⟩:=eB es he q hq
  obtain⟨A,e,hA⟩:=ha (Nat.lt_of_le_of_lt (Nat.zero_le _) h2)
  obtain⟨cs,k1,k2⟩:=hA (q / s) h2
  obtain⟨k3,k4⟩:=e9 k1
  have k5:=k4 (q % s) (Nat.mod_lt _ h3)
  have hoff:q / s*s+q % s=q:=by rw[Nat.mul_comm]; exact Nat.div_add_mod q s
  have hc:(cs[q % s]?).isSome:=by simp[k3,Nat.mod_lt _ h3]
  obtain⟨c,hc⟩:=Option.isSome_iff_exists.1 hc
  rw[hc] at k5
  have hsp:A.spot=none:=by
   obtain⟨cs0,m1,m2⟩:=hA 0 (Nat.lt_of_le_of_lt (Nat.zero_le _) h2)
   obtain⟨m3,m4⟩:=e9 m1
   have m5:=m4 0 h3
   have m6:(cs0[0]?).isSome:=by simp[m3,h3]
   obtain⟨c0,m6⟩:=Option.isSome_iff_exists.1 m6
   rw[m6] at m5
   simp only[Nat.zero_mul,Addr.add,if_true] at m5
   exact nH m5
  have hAt:(A.add (q / s*s)).add (q % s)=At A q:=by
   cases A with
   | mk b o sp=>
    simp only at hsp; subst hsp
    rw[add_add,hoff]; rfl
  have k6:=k5
  rw[hAt] at k6
  refine⟨A,c,e,hsp,?_,k6,fun x hx=>?_⟩
  ·rcases hg A e q with h|h
   ·exact h
   ·exact absurd (kO k6) (by simp only[At]; omega)
  ·rw[h1] at hx
   exact k2.2 _ x c hx hc
 refine .list es .no a cap (fun q=>match a with|some A=>(w.cell? (At A q)).getD default|none=>default) (fun e h e' h'=>(he e h).trans (he e' h').symm) hcap trivial (fun q hq=>?_) (fun q x hx=>?_)
 ·obtain⟨A,c,e,hsp,him,k6,_⟩:=key q hq
  refine⟨A,e,hsp,him,?_⟩
  subst e; simp only[k6,Option.getD_some]
 ·obtain⟨A,c,e,_,_,k6,k7⟩:=key q (List.getElem?_eq_some_iff.1 hx).1
  subst e; simp only[k6,Option.getD_some]
  exact k7 x hx
theorem da {H:Type} {enc:TypeId×Value→H} {P:Program} {W:World} {base:Nat} {spare:Nat→Bool} {held:Bool}:∀(k n:Nat) (t:TypeId) (cs:List Value) (x:DataW H×List MemPlace),iY P k t=true→
  DataW.trod enc P W base spare held n t cs=some x→∃ xs,aq (gh0 W) W xs cs∧WTp P k t xs
 | 0,_,_,_,_,hf,_=>by simp[iY] at hf
 | k+1,n,t,cs,x,hf,h=>by
  unfold iY at hf
  unfold WTp
  cases hu:P.underlying t with
  | none=>rw[hu] at hf; simp at hf
  | some ty=>
   rw[hu] at hf
   cases ty with
   | bool=>
    obtain⟨b,rfl,_⟩:=DataW.trod_bool hu h
    exact⟨[.bool b],.cons (.bool b) .nil,b,rfl⟩
   | int kd=>
    obtain⟨m,rfl,_,hw⟩:=DataW.trod_int hu h
    simp only[Lit.wf,Bool.and_eq_true,decide_eq_true_eq] at hw
    exact⟨[.int _ m],.cons (.int _ m) .nil,m,rfl,hw⟩
   | string=>
    obtain⟨s,rfl,_,hs⟩:=DataW.trod_string hu h
    exact⟨[.str s],.cons (.str s) .nil,s,rfl,hs⟩
   | slice e=>
    simp only at hf
    rcases DataW.trod_slice hu h with⟨rfl,_⟩|⟨a,len,cap,elems,rest,m,rfl,rfl,_,_,hl,hm,he,hi,_⟩
    ·refine⟨[.list [] .no],.cons (.list [] .no none 0 (fun _=> .nilIface) (fun e he=>by simp at he) (Nat.le_refl _) trivial (fun q hq=>by simp at hq) (fun q x hx=>by simp at hx)) .nil,[],rfl,Nat.zero_le _,fun r hr=>by simp at hr⟩
    ·have hr:∀ i,i<len→∃ cs xs,W.cells? base (a.add (i*P.cellsOf e)) (P.cellsOf e)=some cs∧aq (gh0 W) W xs cs∧WTp P k e xs:=by
      intro i hlt
      have h1:=hi i hlt
      rw[List.getElem?_eq_getElem (by omega)] at h1
      obtain⟨cs,h2,h3⟩:=Option.bind_eq_some_iff.1 h1
      obtain⟨xs,h4,h5⟩:=da k m e cs _ hf h3
      exact⟨cs,xs,h2,h4,h5⟩
     obtain⟨es,e1,e2,e3⟩:=iQ a base len hr
     refine⟨[.list es .no],.cons ?_ .nil,es,rfl,by omega,fun r hr=>(e2 r hr).2⟩
     refine lF (s:=P.cellsOf e) (base:=base) e1 hl (fun e he=>(e2 e he).1) (fun A hA q=>?_) (fun _=>⟨a,rfl,e3⟩)
     show A.block<W.heap.size∨_
     omega
   | struct fs=>
    simp only[Bool.and_eq_true,List.all_eq_true] at hf
    obtain⟨xs,m,rfl,_,hl,hs,hi⟩:=DataW.trod_struct hu h
    obtain⟨ys,h1,h2⟩:=e6 (P:=P) (g:=gh0 W) (w:=W) (R:=WTp P k) fs.toList 0 _ cs hf.1 hl (fun f hmem=>by
     obtain⟨i,hlt,he⟩:=List.getElem_of_mem hmem
     have h1:=hi i f (by rw[← he]; simp)
     have hlt':i<xs.length:=by rw[hs]; simpa using hlt
     rw[List.getElem?_eq_getElem hlt'] at h1
     exact da k m _ _ _ (hf.2 f hmem) h1) (Nat.zero_le _)
    exact⟨ys,by simpa using h1,h2⟩
   | array c e=>
    simp only[Bool.and_eq_true,beq_iff_eq] at hf
    obtain⟨xs,m,rfl,_,hl,hs,hi⟩:=DataW.trod_array hu h
    exact fR (s:=P.cellsOf e) c cs (by rw[hl,hf.1]) (fun i hlt=>by
     have h1:=hi i hlt
     rw[List.getElem?_eq_getElem (by omega)] at h1
     exact da k m _ _ _ hf.2 h1)
   | _=>simp at hf
def WTa (P:Program) (k:Nat) (t:TypeId) (x:PV):Prop:=
 match P.underlying t with
 | some (.struct _)|some (.array _ _)=>∃ cs,x = .agg cs∧WTp P k t cs
 | _=>WTp P k t [x]
def kw (P:Program) (k:Nat):List TypeId→List PV→Prop
 | [],xs=>xs=[]
 | t::ts,xs=>∃ x xs',xs=x::xs'∧WTa P k t x∧kw P k ts xs'
theorem vk {H:Type} {enc:TypeId×Value→H} {P:Program} {W:World} {base b0:Nat} {r:Reach} {spare:Nat→Bool} {held:Bool} {k:Nat} {t:TypeId} {v:Value} {d:DataW H} {ps:List MemPlace}
  (hf:iY P k t=true) (hval:Value.okWide P W r b0 t v) (h:DataW.Trod enc P W base spare held t v d ps):∃ x,Rel (gh0 W) W x v∧WTa P k t x:=by
 obtain⟨n,h⟩:=h
 obtain⟨xs,hx,hw⟩:=da k n t _ _ hf h
 have one:∀ {v':Value},v=v'→v'.cells.toList=[v']→(∀ y,xs=[y]→WTa P k t y)→∃ x,Rel (gh0 W) W x v∧WTa P k t x:=by
  intro v' e hc hwt
  subst e
  rw[hc] at hx
  obtain⟨y,rfl⟩:=List.length_eq_one_iff.1 hx.1
  exact⟨y,hx.2 0 y v rfl rfl,hwt y rfl⟩
 cases k with
 | zero=>simp[iY] at hf
 | succ k=>
  unfold iY at hf
  unfold Value.okWide at hval
  cases hu:P.underlying t with
  | none=>rw[hu] at hf; simp at hf
  | some ty=>
   rw[hu] at hf hval
   have hwta:∀ y,xs=[y]→(∀ fs,ty ≠ .struct fs)→(∀ n e,ty ≠ .array n e)→WTa P (k+1) t y:=by
    intro y e h1 h2
    subst e
    unfold WTa
    rw[hu]
    cases ty<;>first|exact hw|exact absurd rfl (h1 _)|exact absurd rfl (h2 _ _)
   have agg:∀ cs,v = .agg cs→(∀ y,WTp P (k+1) t y→WTa P (k+1) t (.agg y))→∃ x,Rel (gh0 W) W x v∧WTa P (k+1) t x:=by
    intro cs e hy
    subst e
    exact⟨.agg xs,Rel.aP.2 ⟨cs,rfl,hx⟩,hy _ hw⟩
   cases ty with
   | bool=>
    obtain⟨b,e⟩:=WideShapes.okWide_bool hu (by unfold Value.okWide; rw[hu]; exact hval)
    exact one e rfl fun y hy=>hwta y hy (fun _ h=>by cases h) (fun _ _ h=>by cases h)
   | int kd=>
    obtain⟨b,e⟩:=WideShapes.okWide_int hu (by unfold Value.okWide; rw[hu]; exact hval)
    exact one e rfl fun y hy=>hwta y hy (fun _ h=>by cases h) (fun _ _ h=>by cases h)
   | string=>
    obtain⟨b,e⟩:=WideShapes.okWide_string hu (by unfold Value.okWide; rw[hu]; exact hval)
    exact one e rfl fun y hy=>hwta y hy (fun _ h=>by cases h) (fun _ _ h=>by cases h)
   | slice e'=>
    obtain⟨a,l,c,e⟩:=WideShapes.okWide_slice hu (by unfold Value.okWide; rw[hu]; exact hval)
    exact one e rfl fun y hy=>hwta y hy (fun _ h=>by cases h) (fun _ _ h=>by cases h)
   | struct fs=>
    obtain⟨cs,e,_⟩:=hval
    exact agg cs e fun y hy=>by unfold WTa; rw[hu]; exact⟨y,rfl,hy⟩
   | array m e'=>
    obtain⟨cs,e,_⟩:=hval
    exact agg cs e fun y hy=>by unfold WTa; rw[hu]; exact⟨y,rfl,hy⟩
   | _=>simp at hf
theorem nj {H:Type} {enc:TypeId×Value→H} {P:Program} {W:World} {base b0:Nat} {r:Reach} {spare:Nat→Bool} {held:Bool} {k:Nat}:∀ {ts:List TypeId} {vs:List Value} {ds:List (DataW H)} {ps:List MemPlace},
  ts.all (iY P k)=true→(∀(j:Nat) t v,ts[j]?=some t→vs[j]?=some v→Value.okWide P W r b0 t v)→DataW.TrodAll enc P W base spare held ts vs ds ps→
  ∃ xs,aq (gh0 W) W xs vs∧kw P k ts xs
 | [],[],[],_,_,_,_=>⟨[],.nil,rfl⟩
 | t::ts,v::vs,d::ds,ps,hf,hval,⟨p,q,h1,h2,_⟩=>by
  simp only[List.all_cons,Bool.and_eq_true] at hf
  obtain⟨x,hx,hw⟩:=vk hf.1 (hval 0 t v rfl rfl) h1
  obtain⟨xs,e1,e2⟩:=nj hf.2 (fun j t v ht hv=>hval (j+1) t v (by simpa using ht) (by simpa using hv)) h2
  exact⟨x::xs,.cons hx e1,x,xs,rfl,hw,e2⟩
 | [],_::_,_,_,_,_,h=>h.elim
 | [],[],_::_,_,_,_,h=>h.elim
 | _::_,[],_,_,_,_,h=>h.elim
 | _::_,_::_,[],_,_,_,h=>h.elim
theorem eY {H:Type} {enc:TypeId×Value→H} {P:Program} (hl:laidOutB P=true) {W W':World} (hb:Below W.heap.size W W'):∀ {ts:List TypeId} {vs:List Value} {ds:List (DataW H)} {ps:List MemPlace},
  ts.all (fun t=>P.readableRec t && decide (t<P.types.size))=true→DataW.TrodAll enc P W 0 (fun _=>true) true ts vs ds ps→DataW.TrodAll enc P W' 0 (fun b=>decide (b<W.heap.size)) true ts vs ds ps
 | [],[],[],_,_,h=>h
 | t::ts,v::vs,d::ds,ps,hf,⟨p,q,h1,h2,h3⟩=>by
  simp only[List.all_cons,Bool.and_eq_true,decide_eq_true_eq] at hf
  refine⟨p,q,Below.trod hl hf.1.1 hf.1.2 h1 hb ?_,eY hl hb hf.2 h2,h3⟩
  obtain⟨m,hm⟩:=h1
  exact DataW.trod_lt m _ _ _ hm
 | [],_::_,_,_,_,h=>h.elim
 | [],[],_::_,_,_,h=>h.elim
 | _::_,[],_,_,_,h=>h.elim
 | _::_,_::_,[],_,_,h=>h.elim
theorem nR {W:World} {gl:ai} (h:∀ k cs,gl k=some cs→∃ vs:List Value,aq (gh0 W) W cs vs∧∀ q,q<vs.length→W.cell? ⟨k,q,none⟩=vs[q]?):bL (gh0 W) W gl:=by
 intro k cs hk
 obtain⟨vs,h1,h2⟩:=h k cs hk
 refine⟨rfl,fun q x hx=>?_⟩
 obtain⟨v,hv,hr⟩:=h1.get hx
 have hq:=(List.getElem?_eq_some_iff.1 hv).1
 have hc:=h2 q hq
 rw[hv] at hc
 have e:At ⟨k,0,none⟩ q=⟨k,q,none⟩:=by simp[At]
 rw[e]
 exact⟨(kO (A:=⟨k,q,none⟩) hc:k<W.heap.size),v,hc,hr⟩
theorem gT {P:Program} {gl:ai} {f:FuncId} {xs:List PV} {W:World} {args:Array Value} (hg:bL (gh0 W) W gl) (hr:aq (gh0 W) W xs args.toList)
  (h:af P gl f xs [] (fun x _=>x = .bool true)):Calls P f args W fun e W'=>e = .returned (.bool true)∧Below W.heap.size W W':=by
 refine(h (gh0 W) W args (vM W) hg hr).mono ?_
 rintro e W' ⟨v,g',H',x,rfl,_,hx,hv,rfl⟩
 cases hv
 exact⟨rfl,jY hx⟩
end Go.AM
namespace Go.AM
open Go
inductive Low (n:Nat):PV→Prop where
 | any:Low n .any
 | bool (b:Bool):Low n (.bool b)
 | int (k:IntKind) (m:Int):Low n (.int k m)
 | str (s:ByteArray):Low n (.str s)
 | list (es:List (List PV)) (t:Tail) (ht:∀ o,t = .tok o→o<n) (h:∀ x∈es.flatten,Low n x):Low n (.list es t)
 | arr (o off len cap:Nat) (h:o<n):Low n (.arr o off len cap)
 | ptr (o off:Nat) (h:o<n):Low n (.ptr o off)
 | iptr (cs:List PV) (h:∀ x∈cs,Low n x):Low n (.iptr cs)
 | nilptr:Low n .nilptr
 | nilfn:Low n .nilfn
 | fn (f:Nat) (cs:List PV) (h:∀ x∈cs,Low n x):Low n (.fn f cs)
 | agg (cs:List PV) (h:∀ x∈cs,Low n x):Low n (.agg cs)
 | tup (cs:List PV) (h:∀ x∈cs,Low n x):Low n (.tup cs)
theorem Rel.low {g:Gh} {w:World} {x:PV} {v:Value} (h:Rel g w x v):Low g.n x:=by
 induction h with
 | any v=>exact .any
 | bool b=>exact .bool b
 | int k n=>exact .int k n
 | str s=>exact .str s
 | list es t a cap cv hu hl ht hc hr ih=>
  refine .list es t (fun o e=>by subst e; exact ht.1) fun x hx=>?_
  obtain⟨q,hq⟩:=List.mem_iff_getElem?.1 hx
  exact ih q x hq
 | arr o off len cap ho=>exact .arr o off len cap ho
 | ptr o off ho=>exact .ptr o off ho
 | iptr cs A cv hs hc hr ih=>exact .iptr cs fun x hx=>by obtain⟨q,hq⟩:=List.mem_iff_getElem?.1 hx; exact ih q x hq
 | nilptr=>exact .nilptr
 | nilfn=>exact .nilfn
 | fn f caps vs cv hs hc hr ih=>exact .fn f caps fun x hx=>by obtain⟨q,hq⟩:=List.mem_iff_getElem?.1 hx; exact ih q x hq
 | agg cs vs cv hs hc hr ih=>exact .agg cs fun x hx=>by obtain⟨q,hq⟩:=List.mem_iff_getElem?.1 hx; exact ih q x hq
 | tup cs vs cv hs hc hr ih=>exact .tup cs fun x hx=>by obtain⟨q,hq⟩:=List.mem_iff_getElem?.1 hx; exact ih q x hq
def Gh.cutAt (g:Gh) (n:Nat):Gh:=⟨n,g.bk,g.en,g.sz,g.imm,g.fp⟩
theorem g6 (g:Gh) (n:Nat):blk (g.cutAt n)=blk g:=by funext ob o b; cases ob<;>rfl
theorem Rel.cutAt {g:Gh} {w:World} {x:PV} {v:Value} {n:Nat} (h:Rel g w x v) (hl:Low n x):Rel (g.cutAt n) w x v:=by
 induction h with
 | any v=>exact .any v
 | bool b=>exact .bool b
 | int k n=>exact .int k n
 | str s=>exact .str s
 | list es t a cap cv hu hle ht hc hr ih=>
  cases hl with
  | list _ _ h1 h2=>
   refine .list es t a cap cv hu hle ?_ hc fun q x hq=>ih q x hq (h2 x (List.mem_iff_getElem?.2 ⟨q,hq⟩))
   cases t with
   | no=>trivial
   | exact=>exact ht
   | tok o=>exact⟨h1 o rfl,ht.2⟩
 | arr o off len cap ho=>cases hl with|arr _ _ _ _ h=>exact .arr (g:=g.cutAt n) o off len cap h
 | ptr o off ho=>cases hl with|ptr _ _ h=>exact .ptr (g:=g.cutAt n) o off h
 | iptr cs A cv hs hc hr ih=>cases hl with|iptr _ h=>exact .iptr cs A cv hs hc fun q x hq=>ih q x hq (h x (List.mem_iff_getElem?.2 ⟨q,hq⟩))
 | nilptr=>exact .nilptr
 | nilfn=>exact .nilfn
 | fn f caps vs cv hs hc hr ih=>cases hl with|fn _ _ h=>exact .fn f caps vs cv hs hc fun q x hq=>ih q x hq (h x (List.mem_iff_getElem?.2 ⟨q,hq⟩))
 | agg cs vs cv hs hc hr ih=>cases hl with|agg _ h=>exact .agg cs vs cv hs hc fun q x hq=>ih q x hq (h x (List.mem_iff_getElem?.2 ⟨q,hq⟩))
 | tup cs vs cv hs hc hr ih=>cases hl with|tup _ h=>exact .tup cs vs cv hs hc fun q x hq=>ih q x hq (h x (List.mem_iff_getElem?.2 ⟨q,hq⟩))
theorem bp {α:Type} {l r:List α} {o:Nat} {x:α} (h:l[o]?=some x):(l++r)[o]?=some x:=by
 rw[List.getElem?_append_left (List.getElem?_eq_some_iff.1 h).1]; exact h
theorem af.forget {P:Program} {gl:ai} {f:FuncId} {args:List PV} {H:aa} {K K':PV→aa→Prop} (h:af P gl f args H K)
  (hK:∀ x H',K x H'→∃ H1 E,H'=H1++E∧H1.length=H.length∧Low H.length x∧(∀(o:Nat) cs,H1[o]?=some (.cells cs)→H[o]?=some (.cells cs)∨∀ x∈cs,Low H.length x)∧K' x H1):af P gl f args H K':=by
 intro g w vs hS hG hR
 refine(h g w vs hS hG hR).mono ?_
 rintro e w' ⟨v,g',H',x,rfl,hS',hX,hr,hk⟩
 obtain⟨H1,E,rfl,hlen,hlow,hc,hk'⟩:=hK x H' hk
 refine⟨v,g'.cutAt H.length,H1,x,rfl,?_,?_,hr.cutAt hlow,hk'⟩
 ·refine⟨hlen.symm,fun o o' ob ob' b h1 h2=>by rw[g6]; exact hS'.inj o o' ob ob' b (bp h1) (bp h2),fun o cs h1=>?_,fun o h1=>hS'.tok o (bp h1),hS'.imm,fun o r h1=>hS'.abs o r (bp h1)⟩
  obtain⟨⟨C,ty,e1,e2⟩,e3⟩:=hS'.cells o cs (bp h1)
  refine⟨⟨C,ty,e1,e2.1,fun q y u hy hu=>(e2.2 q y u hy hu).cutAt ?_⟩,e3⟩
  rcases hc o cs h1 with h2|h2
  ·obtain⟨⟨C0,ty0,k1,k2⟩,_⟩:=hS.cells o cs h2
   obtain⟨u0,_,k3⟩:=k2.get hy
   have:=k3.low
   rwa [hS.n] at this
  ·exact h2 y (List.mem_iff_getElem?.2 ⟨q,hy⟩)
 ·have hn:g.n=H.length:=hS.n
  refine⟨⟨Nat.le_of_eq hn,hX.gx.bk,hX.gx.en,hX.gx.sz,hX.gx.imm,hX.gx.cell⟩,hX.size,fun b hb ho=>?_,hX.frame,hX.os,hX.tape,hX.output,hX.im⟩
  obtain⟨o,ob,k1,k2,k3⟩:=ho
  rw[g6] at k3
  exact hX.ow b hb ⟨o,ob,bp k1,k2,k3⟩
theorem af.same {P:Program} {gl:ai} {f:FuncId} {args:List PV} {H:aa} {r:PV} (hr:Low H.length r) (h:af P gl f args H (fun x H'=>x=r∧∃ E,H'=H++E)):af P gl f args H (fun x H'=>x=r∧H'=H):=
 h.forget fun _ _ ⟨e,E,e1⟩=>⟨H,E,e1,rfl,e▸hr,fun _ _ ho=> .inl ho,e,rfl⟩
theorem Low.up {x:PV} {n:Nat} (hx:Low 0 x):Low n x:=by
 induction hx with
 | any=>exact .any
 | bool b=>exact .bool b
 | int k m=>exact .int k m
 | str s=>exact .str s
 | list es t ht h ih=>exact .list es t (fun o e=>absurd (ht o e) (Nat.not_lt_zero _)) ih
 | arr o off len cap h=>exact absurd h (Nat.not_lt_zero _)
 | ptr o off h=>exact absurd h (Nat.not_lt_zero _)
 | iptr cs h ih=>exact .iptr cs ih
 | nilptr=>exact .nilptr
 | nilfn=>exact .nilfn
 | fn f cs h ih=>exact .fn f cs ih
 | agg cs h ih=>exact .agg cs ih
 | tup cs h ih=>exact .tup cs ih
def az (gl:ai):Prop:=∀ k cs,gl k=some cs→∀ x∈cs,Low 0 x
theorem jd.alone {P:Program} {gl:ai} {f:FuncId} {args:List PV} {r:PV} (hgl:az gl) (ha:∀ x∈args,Low 0 x) (hr:Low 0 r) (h:af P gl f args [] (fun x _=>x=r)):jd P gl f args r:=by
 intro H g w vs hS hG hR
 have hS0:Sim (g.cutAt 0) [] w:=⟨rfl,fun o _ _ _ _ h=>by simp at h,fun o cs h=>by simp at h,fun o h=>by simp at h,hS.imm,fun o r h=>by simp at h⟩
 have hG0:bL (g.cutAt 0) w gl:=fun k cs hk=>by
  refine⟨(hG k cs hk).1,fun q x hx=>?_⟩
  obtain⟨h1,c,h2,h3⟩:=(hG k cs hk).2 q x hx
  exact⟨h1,c,h2,h3.cutAt (hgl k cs hk x (List.mem_iff_getElem?.2 ⟨q,hx⟩))⟩
 have hR0:aq (g.cutAt 0) w args vs.toList:=⟨hR.1,fun q x v hx hv=>(hR.2 q x v hx hv).cutAt (ha x (List.mem_iff_getElem?.2 ⟨q,hx⟩))⟩
 refine(h _ w vs hS0 hG0 hR0).mono ?_
 rintro e w' ⟨v,g',H',x,rfl,hS',hX,hv,rfl⟩
 have noOwn:∀ b,¬ own (g.cutAt 0) [] b:=fun b ⟨o,ob,ho,_⟩=>by simp at ho
 let g2:Gh:=⟨g.n,g.bk,g.en,g.sz,fun b q=>g.imm b q∨(w.heap.size≤b∧g'.imm b q),g.fp⟩
 have hb2:blk g2=blk g:=by funext ob o b; cases ob<;>rfl
 have himm:∀ b q,g'.imm b q→g2.imm b q:=fun b q hi=>by
  rcases Nat.lt_or_ge b w.heap.size with hb|hb
  ·rcases hX.im b q hb hi with h1|h1
   ·exact .inl h1
   ·exact absurd h1 (noOwn b)
  ·exact .inr ⟨hb,hi⟩
 have hgx:aQ g w g2 w':=⟨Nat.le_refl _,fun _ _=>rfl,fun _ _=>rfl,fun _ _=>rfl,fun _ _ h=> .inl h,hX.gx.cell⟩
 have hblk:∀(o:Nat) (ob:Ob) (b:Nat),H[o]?=some ob→ob.alive=true→blk g ob o b→w'.heap[b]?=w.heap[b]?∧b<w.heap.size:=fun o ob b ho hal hb=>by
  have hlt:=b9 hS ⟨o,ob,ho,hal,hb⟩
  exact⟨hX.frame _ hlt (noOwn _),hlt⟩
 refine⟨v,g2,H,x,rfl,?_,?_,?_,rfl,rfl⟩
 ·refine⟨hS.n,by rw[hb2]; exact hS.inj,fun o cs ho=>?_,fun o ho=>?_,fun b q hi=>?_,fun o r ho=>?_⟩
  ·obtain⟨⟨C,ty,h1,h2⟩,h3⟩:=hS.cells o cs ho
   obtain⟨h4,h5⟩:=hblk o _ _ ho rfl rfl
   refine⟨⟨C,ty,h4.trans h1,h2.mono hgx⟩,fun q hq=>?_⟩
   rcases hq with hq|hq
   ·exact h3 q hq
   ·exact absurd h5 (Nat.not_lt.2 hq.1)
  ·obtain⟨⟨C,ty,h1,h2⟩,h3⟩:=hS.tok o ho
   obtain⟨h4,h5⟩:=hblk o _ _ ho rfl rfl
   refine⟨⟨C,ty,h4.trans h1,h2⟩,fun q hq hi=>?_⟩
   rcases hi with hi|hi
   ·exact h3 q hq hi
   ·exact absurd h5 (Nat.not_lt.2 hi.1)
  ·rcases hi with hi|hi
   ·exact Nat.lt_of_lt_of_le (hS.imm b q hi) hX.size
   ·exact hS'.imm b q hi.2
  ·have h2:=(hS.abs o r ho).2.2
   refine hS.bR ho hgx rfl (fun _=>Iff.rfl) (fun b hb=>(hblk o _ b ho rfl hb).1) ?_ hX.size ?_
   ·rintro b q hb (hi|hi)
    ·exact(h2 b hb).2 q hi
    ·exact absurd (h2 b hb).1 (Nat.not_lt.2 hi.1)
   ·rintro b q (hi|hi)
    ·exact Nat.lt_of_lt_of_le (hS.imm b q hi) hX.size
    ·exact hS'.imm b q hi.2
 ·exact⟨hgx,hX.size,fun b _ ⟨o,ob,k1,k2,k3⟩=>⟨o,ob,k1,k2,by rw[hb2] at k3; exact k3⟩,fun b hb _=>hX.frame b hb (noOwn b),hX.os,hX.tape,hX.output,
   fun b q hb hi=>hi.elim .inl fun k=>absurd hb (Nat.not_lt.2 k.1)⟩
 ·exact Rel.mono (g:=g'.cutAt 0) (g':=g2) (w:=w') ⟨Nat.zero_le _,fun o ho=>absurd ho (Nat.not_lt_zero _),fun o ho=>absurd ho (Nat.not_lt_zero _),fun o ho=>absurd ho (Nat.not_lt_zero _),himm,fun _ _ _=>rfl⟩ (hv.cutAt hr)
def br (b:Bool) (X Y:Prop):Prop:=match b with
 | true=>X
 | false=>Y
theorem mw {b:Bool} {X Y:Prop}:br b X Y↔(b=true→X)∧(b=false→Y):=by cases b<;>simp[br]
theorem ax {b:Bool} {X:Prop} (h:br b X False):b=true∧X:=by cases b<;>simp_all [br]
inductive CK where
 | int (k:IntKind)
 | bool
 | str
 | list
 | raw
def cI (xs:List PV) (i:Nat):Int:=match xs[i]? with|some (.int _ n)=>n|_=>0
def cB (xs:List PV) (i:Nat):Bool:=match xs[i]? with|some (.bool b)=>b|_=>false
def cS (xs:List PV) (i:Nat):ByteArray:=match xs[i]? with|some (.str s)=>s|_=>ByteArray.empty
def cL (xs:List PV) (i:Nat):List (List PV):=match xs[i]? with|some (.list es _)=>es|_=>[]
def cT (xs:List PV) (i:Nat):Tail:=match xs[i]? with|some (.list _ t)=>t|_=> .no
def cR (xs:List PV) (i:Nat):PV:=match xs[i]? with|some x=>x|none=> .any
def gH:CK→List PV→Nat→PV
 | .int k,xs,i=> .int k (cI xs i)
 | .bool,xs,i=> .bool (cB xs i)
 | .str,xs,i=> .str (cS xs i)
 | .list,xs,i=> .list (cL xs i) (cT xs i)
 | .raw,xs,i=>cR xs i
def um:CK→Option PV→Bool
 | .int k,some (.int k' _)=>k == k'
 | .bool,some (.bool _)=>true
 | .str,some (.str _)=>true
 | .list,some (.list _ _)=>true
 | .raw,some _=>true
 | _,_=>false
theorem oq {c:CK} {xs:List PV} {i:Nat} (h:um c xs[i]?=true):xs[i]?=some (gH c xs i):=by
 cases hx:xs[i]? with
 | none=>rw[hx] at h; cases c<;>cases h
 | some x=>
  rw[hx] at h
  cases c with
  | raw=>simp only[gH,cR,hx]
  | int k=>cases x<;>first|(cases h; done)|(simp only[um,beq_iff_eq] at h; subst h; simp only[gH,cI,hx])
  | bool=>cases x<;>first|(cases h; done)|simp only[gH,cB,hx]
  | str=>cases x<;>first|(cases h; done)|simp only[gH,cS,hx]
  | list=>cases x<;>first|(cases h; done)|simp only[gH,cL,cT,hx]
def jF:List CK→Nat→List PV→List PV
 | [],_,_=>[]
 | c::cs,i,xs=>gH c xs i::jF cs (i+1) xs
def cN:List CK→Nat→List PV→Bool
 | [],_,_=>true
 | c::cs,i,xs=>um c xs[i]? && cN cs (i+1) xs
theorem kY:∀(cs:List CK) (i:Nat) (xs:List PV),cN cs i xs=true→jF cs i xs=(xs.drop i).take cs.length∧(cs≠[]→i+cs.length≤xs.length)
 | [],i,xs,_=>⟨by simp[jF],fun h=>absurd rfl h⟩
 | c::cs,i,xs,h=>by
  simp only[cN,Bool.and_eq_true] at h
  have h1:=oq h.1
  have hi:i<xs.length:=(List.getElem?_eq_some_iff.1 h1).1
  obtain⟨h2,h3⟩:=kY cs (i+1) xs h.2
  have hd:xs.drop i=gH c xs i::xs.drop (i+1):=by
   rw[List.drop_eq_getElem_cons hi]
   congr 1
   exact(List.getElem?_eq_some_iff.1 h1).2
  refine⟨?_,fun _=>?_⟩
  ·rw[jF,h2,hd,List.length_cons,List.take_succ_cons]
  ·by_cases hc:cs=[]
   ·subst hc; simp; omega
   ·have:=h3 hc; simp; omega
def ckT (P:Program):Nat→TypeId→List CK
 | 0,t=>match tyA P t with
  | some (_,sz)=>List.replicate sz .raw
  | none=>[]
 | k+1,t=>match P.underlying t with
  | some .bool=>[.bool]
  | some (.int kd)=>[.int kd]
  | some .string=>[.str]
  | some (.slice _)=>[.list]
  | some (.struct fs)=>(fs.toList.map fun f=>ckT P k f.type).flatten
  | some (.array n e)=>(List.replicate n (ckT P k e)).flatten
  | _=>match tyA P t with
   | some (_,sz)=>List.replicate sz .raw
   | none=>[]
def ot (B:Bool→Prop→Prop→Prop) (P:Program) (t:TypeId) (m:Nat) (cs:List PV) (K:PV→Prop):Prop:=
 match tyA P t with
 | some (b,sz)=>match m with
  | 0=>B ((ckT P 6 t).length == sz && (b || sz == 1) && cN (ckT P 6 t) 0 cs) (K (match b with|true=> .agg (jF (ckT P 6 t) 0 cs)|false=>match jF (ckT P 6 t) 0 cs with|x::_=>x|[]=> .any)) False
  | 901=>match b,sz with
   | false,1=>B (Nat.blt 0 cs.length) (∀ x:PV,x=cR cs 0→K x) False
   | _,_=>False
  | _=>match b5 b sz cs with
   | some y=>K y
   | none=>False
 | none=>False
theorem lu {P:Program} {t:TypeId} {m:Nat} {cs:List PV} {K:PV→Prop} (h:ot br P t m cs K):∃ b sz y,tyA P t=some (b,sz)∧b5 b sz cs=some y∧K y:=by
 unfold ot at h
 cases ht:tyA P t with
 | none=>rw[ht] at h; exact h.elim
 | some p=>
  obtain⟨b,sz⟩:=p
  rw[ht] at h
  simp only at h
  split at h
  ·obtain⟨hc,hk⟩:=ax h
   simp only[Bool.and_eq_true,beq_iff_eq,Bool.or_eq_true] at hc
   obtain⟨⟨h1,h2⟩,h3⟩:=hc
   obtain⟨h4,h5⟩:=kY _ _ _ h3
   refine⟨b,sz,_,rfl,?_,hk⟩
   unfold b5
   cases b with
   | true=>
    have:sz≤cs.length:=by
     by_cases hn:ckT P 6 t=[]
     ·rw[hn] at h1; simp at h1; omega
     ·have:=h5 hn; omega
    simp only[if_true,if_pos this,h4,List.drop_zero,h1]
   | false=>
    have hs:sz=1:=by simpa using h2
    subst hs
    have hn:ckT P 6 t≠[]:=fun e=>by rw[e] at h1; simp at h1
    have:=h5 hn
    rw[h4,List.drop_zero,h1]
    cases cs with
    | nil=>simp[h1] at this
    | cons x cs=>rfl
  ·split at h
   ·obtain⟨h1,h2⟩:=ax h
    refine⟨_,_,cR cs 0,rfl,?_,h2 _ rfl⟩
    cases cs with
    | nil=>simp at h1
    | cons x cs=>rfl
   ·exact h.elim
  ·cases hl:b5 b sz cs with
   | none=>rw[hl] at h; exact h.elim
   | some y=>rw[hl] at h; exact⟨b,sz,y,rfl,hl,h⟩
def kx (P:Program) (t:TypeId):Bool:=match P.underlying t with|some .bool=>true|_=>false
def iC (P:Program) (t:TypeId):Bool:=match P.underlying t with|some (.pointer _)=>true|_=>false
def kV (P:Program) (t:TypeId):Bool:=match P.underlying t with|some (.slice _)=>true|_=>false
theorem mu {P:Program} {t:TypeId} (h:kx P t=true):P.underlying t=some .bool:=by
 unfold kx at h; split at h
 ·assumption
 ·cases h
theorem fZ {P:Program} {t:TypeId} (h:iC P t=true):∃ e,P.underlying t=some (.pointer e):=by
 unfold iC at h; split at h
 ·rename_i e he; exact⟨e,he⟩
 ·cases h
theorem jb {P:Program} {t:TypeId} (h:kV P t=true):∃ e,P.underlying t=some (.slice e):=by
 unfold kV at h; split at h
 ·rename_i e he; exact⟨e,he⟩
 ·cases h
def tf (P:Program) (t:TypeId) (xs:List PV):Bool:=
 !P.eqGuardType P.depth t && (eZ P 20 t == some xs.length) && (match tyA P t with|some (true,n)=>n == xs.length|_=>false) && mz P 20 t xs
section
variable (B:Bool→Prop→Prop→Prop)
def vc (op:BinOp) (k:IntKind) (a:Int) (k':IntKind) (b:Int) (K:PV→Prop):Prop:=
 match op with
 | .add=>B (k == k') (K (.int k (k.wrap (a+b)))) False
 | .sub=>B (k == k') (K (.int k (k.wrap (a-b)))) False
 | .mul=>B (k == k') (K (.int k (k.wrap (a*b)))) False
 | .quo=>B (k == k') (B (b != 0) (K (.int k (k.wrap (a.tdiv b)))) False) False
 | .rem=>B (k == k') (B (b != 0) (K (.int k (a.tmod b))) False) False
 | .and=>B (k == k') (K (.int k (k.wrap (BitVec.ofInt k.bits a &&& BitVec.ofInt k.bits b).toNat))) False
 | .or=>B (k == k') (K (.int k (k.wrap (BitVec.ofInt k.bits a ||| BitVec.ofInt k.bits b).toNat))) False
 | .xor=>B (k == k') (K (.int k (k.wrap (BitVec.ofInt k.bits a ^^^ BitVec.ofInt k.bits b).toNat))) False
 | .andNot=>B (k == k') (K (.int k (k.wrap (BitVec.ofInt k.bits a &&& ~~~ BitVec.ofInt k.bits b).toNat))) False
 | .shl=>B (decide (0≤b)) (K (.int k (k.wrap (a*2 ^ (min b.toNat k.bits))))) False
 | .shr=>B (decide (0≤b)) (K (.int k (a.fdiv (2 ^ (min b.toNat k.bits))))) False
 | .eql=>B (k == k') (K (.bool (a == b))) False
 | .neq=>B (k == k') (K (.bool (a != b))) False
 | .lss=>B (k == k') (K (.bool (decide (a<b)))) False
 | .leq=>B (k == k') (K (.bool (decide (a≤b)))) False
 | .gtr=>B (k == k') (K (.bool (decide (a>b)))) False
 | .geq=>B (k == k') (K (.bool (decide (a≥b)))) False
def uB (P:Program) (op:BinOp) (t:TypeId) (x y:PV) (K:PV→Prop):Prop:=
 match x,y with
 | .int k a,.int k' b=>vc B op k a k' b K
 | .str a,.str b=>match op with
  | .eql=>K (.bool (a == b))
  | .neq=>K (.bool (a != b))
  | _=>False
 | .bool a,.bool b=>B (kx P t) (match op with
  | .eql=>K (.bool (a == b))
  | .neq=>K (.bool (a != b))
  | _=>False) False
 | .nilptr,.nilptr=>B (iC P t) (match op with
  | .eql=>K (.bool true)
  | .neq=>K (.bool false)
  | _=>False) False
 | .ptr _ _,.nilptr=>B (iC P t) (match op with
  | .eql=>K (.bool false)
  | .neq=>K (.bool true)
  | _=>False) False
 | .iptr _,.nilptr=>B (iC P t) (match op with
  | .eql=>K (.bool false)
  | .neq=>K (.bool true)
  | _=>False) False
 | .agg xs,.agg ys=>B (tf P t xs) (match bc xs ys with
  | some r=>(match op with
   | .eql=>K (.bool r)
   | .neq=>K (.bool (!r))
   | _=>False)
  | none=>False) False
 | _,_=>False
def vx (P:Program) (op:BinOp) (t:TypeId) (x:PV) (K:PV→Prop):Prop:=
 B (kV P t) (match x with
 | .list es _=>(match op with
  | .eql=>∀ b:Bool,(es.flatten≠[]→b=false)→K (.bool b)
  | .neq=>∀ b:Bool,(es.flatten≠[]→b=true)→K (.bool b)
  | _=>False)
 | .arr _ _ _ _=>(match op with
  | .eql=>K (.bool false)
  | .neq=>K (.bool true)
  | _=>False)
 | _=>False) False
end
theorem mo {op:BinOp} {k k':IntKind} {a b:Int} {K:PV→Prop} (h:vc br op k a k' b K):ij op k a k' b K:=by
 cases op<;>simp only[vc] at h<;>simp only[ij]
 case quo=>
  obtain⟨h1,h2⟩:=ax h
  obtain⟨h2,h3⟩:=ax h2
  exact⟨by simpa using h1,by simpa using h2,h3⟩
 case rem=>
  obtain⟨h1,h2⟩:=ax h
  obtain⟨h2,h3⟩:=ax h2
  exact⟨by simpa using h1,by simpa using h2,h3⟩
 all_goals
  obtain⟨h1,h2⟩:=ax h
  exact⟨by simpa using h1,h2⟩
theorem mr {P:Program} {op:BinOp} {t:TypeId} {x y:PV} {K:PV→Prop} (h:uB br P op t x y K):gj P op t x y K:=by
 unfold uB at h
 split at h
 ·exact mo h
 ·exact h
 ·obtain⟨h1,h2⟩:=ax h; exact⟨mu h1,h2⟩
 ·obtain⟨h1,h2⟩:=ax h; exact⟨fZ h1,h2⟩
 ·obtain⟨h1,h2⟩:=ax h; exact⟨fZ h1,h2⟩
 ·obtain⟨h1,h2⟩:=ax h; exact⟨fZ h1,h2⟩
 ·rename_i xs ys
  obtain⟨h1,h2⟩:=ax h
  simp only[tf,Bool.and_eq_true,beq_iff_eq,Bool.not_eq_true'] at h1
  obtain⟨⟨⟨e1,e2⟩,e3⟩,e4⟩:=h1
  refine⟨e1,e2,?_,e4,h2⟩
  split at e3
  ·rename_i n hn; rw[hn]; simp only[beq_iff_eq] at e3; rw[e3]
  ·cases e3
 ·exact h.elim
theorem lX {P:Program} {op:BinOp} {t:TypeId} {x:PV} {K:PV→Prop} (h:vx br P op t x K):pu P op t x K:=by
 obtain⟨h1,h2⟩:=ax h
 exact⟨jb h1,h2⟩
def InL (es:List (List PV)) (sz:Nat) (n:Int):Prop:=0≤n∧n.toNat<es.length∧uni sz es∧sz≠0
theorem InL.get {es:List (List PV)} {sz:Nat} {n:Int} (h:InL es sz n):es[n.toNat]?=some (es.getD n.toNat [])∧(es.getD n.toNat []).length=sz:=by
 have h1:=List.getElem?_eq_getElem h.2.1
 have h2:es.getD n.toNat []=es[n.toNat]'h.2.1:=by rw[List.getD_eq_getElem?_getD,h1]; rfl
 rw[h2]
 exact⟨h1,h.2.2.1 _ (List.getElem_mem _)⟩
def szT (P:Program) (t:TypeId):Nat:=match tyA P t with
 | some (_,sz)=>sz
 | none=>0
def opc (B:Bool→Prop→Prop→Prop) (P:Program) (op:Op) (m:Nat) (ρ:Operand→PV) (H:aa) (K:PV→aa→Prop):Prop:=
 match op with
 | .move x=>K (ρ x) H
 | .assign x=>K (ρ x) H
 | .pick c a b=>match ρ c with
  | .bool t=>B t (K (ρ a) H) (K (ρ b) H)
  | _=>False
 | .alloc t=>match bU P t with
  | some cs=>K (.ptr H.length 0) (H++[.cells cs])
  | none=>False
 | .box _ x=>match (ρ x).cells with
  | some cs=>K (.ptr H.length 0) (H++[.cells cs])
  | none=>False
 | .build t parts=>match jV P t (parts.toList.map fun p=>(p.1,ρ p.2)) with
  | some cs=>K (.agg cs) H
  | none=>False
 | .buildSlice t len parts=>match elA P t with
  | some (none,_,sz,_,et)=>match bU P et with
   | some z=>B (z.length == sz && sz != 0 && decide (len*sz≤16777216)) (match gf sz (List.replicate len z) (parts.toList.map fun p=>(p.1,ρ p.2)) with
    | some es=>K (.list es .exact) H
    | none=>False) False
   | none=>False
  | _=>False
 | .load t a=>match behind H (ρ a) with
  | some cs=>ot B P t (match m with|900=>0|m=>m) cs fun y=>match m with
   | 0=>K y H
   | _=>B (kR m (ρ a) (szT P t)) (K y H) False
  | none=>False
 | .store t a x=>match ρ a,tyA P t,(ρ x).cells with
  | .ptr o off,some (_,sz),some xs=>match H[o]? with
   | some (.cells cs)=>B (xs.length == sz && xs.all PV.one && decide (off+sz≤cs.length) && cA m o off sz) (K (.tup []) (H.set o (.cells (over cs off xs)))) False
   | _=>False
  | _,_,_=>False
 | .nilCheck x=>match ρ x with
  | .ptr o off=>K (.ptr o off) H
  | .iptr cs=>K (.iptr cs) H
  | .fn f caps=>K (.fn f caps) H
  | _=>False
 | .binOp op t x y _=>match bT y with
  | true=>vx B P op t (ρ x) (fun z=>K z H)
  | false=>uB B P op t (ρ x) (ρ y) (fun z=>K z H)
 | .unOp op _ x=>match unA op (ρ x) with
  | some y=>K y H
  | none=>False
 | .convert s d x=>match nk P s d (ρ x) with
  | some y=>K y H
  | none=>False
 | .makeFunc fn first caps=>match fn with
  | .func f=>match first.toList with
   | []=>K (.fn f (caps.toList.map ρ)) H
   | _=>False
  | _=>False
 | .makeSlice t l c=>match elA P t,ρ l,ρ c with
  | some (none,_,sz,by_,et),.int _ l,.int _ c=>match bU P et with
   | some z=>B (z.length == sz && sz != 0) (0≤l∧l≤c∧c≤140737488355328∧c*by_≤140737488355328∧K (.arr H.length 0 l.toNat c.toNat) (H++[.cells (List.replicate c.toNat z).flatten])) False
   | none=>False
  | _,_,_=>False
 | .slice t x lo hi mx=>match elA P t,ρ x with
  | some (none,_,sz,_,_),.list es tl=>match bnd 0 (lo.map ρ),bnd es.length (hi.map ρ),bnd es.length (mx.map ρ) with
   | some l,some h,some m=>(0≤l∧l≤h∧h≤m∧m≤es.length∧uni sz es)∧B (hi.isSome || mx.isNone) (K (.list ((es.take h.toNat).drop l.toNat) (dD tl (lo.map ρ) (hi.map ρ) (mx.map ρ) h m)) H) False
   | _,_,_=>False
  | some (none,_,sz,_,_),.arr o off len cap=>match bnd 0 (lo.map ρ),bnd len (hi.map ρ),bnd cap (mx.map ρ) with
   | some l,some h,some m=>(0≤l∧l≤h∧h≤m∧m≤cap)∧B (hi.isSome || mx.isNone) (K (.arr o (if m.toNat=l.toNat then off else off+l.toNat*sz) (h.toNat-l.toNat) (m.toNat-l.toNat)) H) False
   | _,_,_=>False
  | _,_=>False
 | .fieldAddr s x f=>match lE P s f with
  | some (off,_,_)=>match eF off (ρ x) with
   | some y=>K y H
   | none=>False
  | none=>False
 | .field s x f=>match lE P s f,ρ x with
  | some (off,b,sz),.agg cs=>match gI b off sz cs with
   | some y=>K y H
   | none=>False
  | _,_=>False
 | .indexAddr t x i=>match elA P t,ρ i with
  | some (none,_,sz,_,_),.int _ n=>match ρ x with
   | .list es _=>InL es sz n∧K (.iptr (es.getD n.toNat [])) H
   | .arr o off len _=>(0≤n∧n<len)∧K (.ptr o (off+n.toNat*sz)) H
   | _=>False
  | some (some m,_,sz,_,_),.int _ n=>B (decide (0≤n) && decide (n<m)) (match eF (n.toNat*sz) (ρ x) with
   | some y=>K y H
   | none=>False) False
  | _,_=>False
 | .index t x i=>match elA P t,ρ x,ρ i with
  | some (some m,b,sz,_,_),.agg cs,.int _ n=>B (decide (0≤n) && decide (n<m)) (match gI b (n.toNat*sz) sz cs with
   | some y=>K y H
   | none=>False) False
  | _,_,_=>False
 | .extract t i=>match ρ t with
  | .tup vs=>match vs[i]? with
   | some y=>K y H
   | none=>False
  | _=>False
 | _=>False
theorem ju {P:Program} {gl:ai} {op:Op} {m:Nat} {ρ:Operand→PV} {H:aa} {K:PV→aa→Prop} (h:opc br P op m ρ H K):opw P gl op m ρ H K∧gX P gl op m ρ H K:=by
 have main:∀ {op:Op},opc br P op m ρ H K→opw P gl op m ρ H K:=by
  intro op h
  cases op<;>try exact h
  case pick c a b=>
   simp only[opc] at h
   simp only[opw]
   split at h
   ·rename_i t ht; rw[ht]; simp only
    cases t
    ·exact h
    ·exact h
   ·exact h.elim
  case buildSlice t len parts=>
   simp only[opc] at h
   simp only[opw]
   split at h
   ·rename_i he; rw[he]; simp only
    split at h
    ·rename_i hz; rw[hz]; simp only
     obtain⟨h1,h2⟩:=ax h
     simp only[Bool.and_eq_true,beq_iff_eq,bne_iff_ne,decide_eq_true_eq] at h1
     exact⟨h1.1.1,h1.1.2,h1.2,h2⟩
    ·exact h.elim
   ·exact h.elim
  case load t a=>
   simp only[opc] at h
   simp only[opw]
   split at h
   ·rename_i cs hb
    obtain⟨b,sz,y,h1,h2,h3⟩:=lu h
    have e:szT P t=sz:=by unfold szT; rw[h1]
    rw[hb,h1]; simp only[h2]
    split at h3
    ·exact⟨rfl,h3⟩
    ·obtain⟨h4,h5⟩:=ax h3
     rw[e] at h4
     exact⟨h4,h5⟩
   ·exact h.elim
  case store t a x=>
   simp only[opc] at h
   simp only[opw]
   split at h
   ·rename_i h1 h2 h3; rw[h1,h2,h3]; simp only
    split at h
    ·rename_i h4; rw[h4]; simp only
     obtain⟨h5,h6⟩:=ax h
     simp only[Bool.and_eq_true,beq_iff_eq,decide_eq_true_eq] at h5
     exact⟨h5.1.1.1,h5.1.1.2,⟨h5.1.2,h5.2⟩,h6⟩
    ·exact h.elim
   ·exact h.elim
  case binOp op t x y yt=>
   simp only[opc] at h
   simp only[opw]
   split at h
   ·rename_i hn; rw[if_pos hn]; exact lX h
   ·rename_i hn; rw[if_neg (by rw[hn]; exact Bool.false_ne_true)]; exact mr h
  case makeFunc fn first caps=>
   simp only[opc] at h
   simp only[opw]
   split at h
   ·split at h
    ·rename_i hf; exact⟨by cases first; simp_all,h⟩
    ·exact h.elim
   ·exact h.elim
  case makeSlice t l c=>
   simp only[opc] at h
   simp only[opw]
   split at h
   ·rename_i h1 h2 h3; rw[h1,h2,h3]; simp only
    split at h
    ·rename_i hz; rw[hz]; simp only
     obtain⟨h5,h6⟩:=ax h
     simp only[Bool.and_eq_true,beq_iff_eq,bne_iff_ne] at h5
     exact⟨h5.1,h5.2,h6⟩
    ·exact h.elim
   ·exact h.elim
  case slice t x lo hi mx=>
   simp only[opc] at h
   simp only[opw]
   have hh:∀ {X:Prop},br (hi.isSome || mx.isNone) X False→(hi=none→mx=none)∧X:=by
    intro X hX
    obtain⟨h1,h2⟩:=ax hX
    refine⟨fun e=>?_,h2⟩
    subst e; simpa using h1
   split at h
   ·rename_i h1 h2; rw[h1,h2]; simp only
    split at h
    ·rename_i h3 h4 h5; rw[h3,h4,h5]; simp only
     obtain⟨⟨a1,a2,a3,a4,a5⟩,h7⟩:=h
     obtain⟨h8,h9⟩:=hh h7
     exact⟨a1,a2,a3,a4,h8,a5,h9⟩
    ·exact h.elim
   ·rename_i h1 h2; rw[h1,h2]; simp only
    split at h
    ·rename_i h3 h4 h5; rw[h3,h4,h5]; simp only
     obtain⟨⟨a1,a2,a3,a4⟩,h7⟩:=h
     obtain⟨h8,h9⟩:=hh h7
     exact⟨a1,a2,a3,a4,h8,h9⟩
    ·exact h.elim
   ·exact h.elim
  case indexAddr t x i=>
   simp only[opc] at h
   simp only[opw]
   split at h
   ·rename_i h1 h2; rw[h1,h2]; simp only
    split at h
    ·rename_i h3; rw[h3]; simp only
     obtain⟨h4,h5⟩:=h
     obtain⟨h6,h7⟩:=h4.get
     rw[h6]
     exact⟨h4.1,h7,h4.2.2.2,h5⟩
    ·rename_i h3; rw[h3]; simp only
     exact⟨h.1.1,h.1.2,h.2⟩
    ·exact h.elim
   ·rename_i h1 h2; rw[h1,h2]; simp only
    obtain⟨h5,h6⟩:=ax h
    simp only[Bool.and_eq_true,decide_eq_true_eq] at h5
    exact⟨h5.1,h5.2,h6⟩
   ·exact h.elim
  case index t x i=>
   simp only[opc] at h
   simp only[opw]
   split at h
   ·rename_i h1 h2 h3; rw[h1,h2,h3]; simp only
    obtain⟨h5,h6⟩:=ax h
    simp only[Bool.and_eq_true,decide_eq_true_eq] at h5
    exact⟨h5.1,h5.2,h6⟩
   ·exact h.elim
  all_goals exact h.elim
 refine⟨main h,?_⟩
 cases op<;>first|exact main h|exact h.elim
inductive Sp where
 | pure (s:List PV→(PV→Prop)→Prop)
 | read (s:List PV→aa→(PV→Prop)→Prop)
 | heap (s:List PV→aa→(PV→aa→Prop)→Prop)
 | ext (s:List PV→aa→(PV→Prop)→Prop)
 | mk (s:List PV→(List (List PV)→Prop)→Prop)
 | chg (s:List PV→aa→(PV→aa→Prop)→Prop)
def rU (P:Program) (gl:ai) (f:Nat):Sp→Prop
 | .pure s=>∀ args K,s args K→∃ r,jd P gl f args r∧K r
 | .read s=>∀ args H K,s args H K→∃ r,af P gl f args H (fun x H'=>x=r∧H'=H)∧K r
 | .heap s=>∀ args H K,s args H K→af P gl f args H K
 | .ext s=>∀ args H K,s args H K→oC P f args H (fun x _=>K x)
 | .mk s=>∀ args K,s args K→∃ es,K es∧∀ H,af P gl f args H (fun x H'=>(es=[]→x = .list [] .exact∧H'=H)∧(es≠[]→x = .list es (.tok H.length)∧H'=H++[.tok]))
 | .chg s=>∀ args H K,s args H K→∃ r H',af P gl f args H (fun x H1=>x=r∧H1=H')∧K r H'
abbrev Tab:=List (Nat×Sp)
def lg (f:Nat):Tab→Option Sp
 | []=>none
 | (g,s)::T=>match g == f with
  | true=>some s
  | false=>lg f T
def aV (P:Program) (gl:ai) (T:Tab):Prop:=∀ f s,lg f T=some s→rU P gl f s
theorem aV.nil (P:Program) (gl:ai):aV P gl []:=fun f s h=>by simp[lg] at h
theorem aV.cons {P:Program} {gl:ai} {f:Nat} {s:Sp} {T:Tab} (h:rU P gl f s) (hT:aV P gl T):aV P gl ((f,s)::T):=by
 intro g s' hl
 simp only[lg] at hl
 split at hl
 ·rename_i he
  have:f=g:=by simpa using he
  subst this; cases hl; exact h
 ·exact hT g s' hl
def fU (es ys:List (List PV)) (sz by_:Nat):Prop:=uni sz es∧uni sz ys∧(es.length+ys.length)*by_≤140737488355328
def od (H:aa) (sz:Nat):PV→Option (Option Prop×List PV×Nat)
 | .list ys _=>some (none,ys.flatten,ys.length)
 | .arr o off len _=>match H[o]? with
  | some (.cells cs)=>some (some (off+len*sz≤cs.length),(cs.drop off).take (len*sz),len)
  | _=>none
 | _=>none
def pre (p:Option Prop) (q:Prop):Prop:=match p with
 | none=>q
 | some p=>p∧q
theorem gY {H:aa} {sz n:Nat} {y:PV} {p:Option Prop} {ys:List PV} {q:Prop} (h:od H sz y=some (p,ys,n)) (k:pre p q):fo H sz y=some (ys,n)∧q:=by
 unfold od at h
 split at h
 ·cases h; exact⟨rfl,k⟩
 ·rename_i o off len cap
  split at h
  ·rename_i cs ho
   cases h
   refine⟨?_,k.2⟩
   simp only[fo,ho]
   rw[if_pos k.1]
  ·cases h
 ·cases h
def gm (B:Bool→Prop→Prop→Prop) (P:Program) (b:Builtin) (ts:Array TypeId) (args:List PV) (m:Nat) (dr:Bool) (H:aa) (K:PV→aa→Prop):Prop:=
 match b with
 | .len=>match ts[0]?,args with
  | some t,[x]=>match rK P t x with
   | some n=>K (.int .i64 n) H
   | none=>False
  | _,_=>False
 | .cap=>match ts[0]?,args with
  | some t,[.arr _ _ _ cap]=>B (kV P t) (K (.int .i64 cap) H) False
  | some t,[.list es .exact]=>B (kV P t) (K (.int .i64 es.length) H) False
  | _,_=>False
 | .min=>match bY mnI args with
  | some z=>K z H
  | none=>False
 | .max=>match bY mxI args with
  | some z=>K z H
  | none=>False
 | .append=>match jT P ts,args with
  | some (sz,by_,z),[.list es tl,y]=>match m with
   | 2=>match es,tl,od H sz y with
    | [],.exact,some (p,ys,n)=>pre p <| ys.length=n*sz∧n*by_≤140737488355328∧0<n∧∀ c,n≤c→K (.arr H.length 0 n c) (H++[.cells (ys++(List.replicate (c-n) z).flatten)])
    | _,_,_=>False
   | 1=>match y with
    | .list ys _=>fU es ys sz by_∧(ys.flatten.all PV.one=true∧ys≠[])∧match tl with
     | .exact=>K (.list (es++ys) (.tok H.length)) (H++[.tok])
     | .tok o=>match H[o]? with
      | some .tok=>K (.list (es++ys) (.tok H.length)) (H.set o .dead++[.tok])
      | _=>False
     | .no=>False
    | _=>False
   | 4=>match y with
    | .list ys _=>fU es ys sz by_∧ys.flatten.all PV.one=true∧(ys=[]→K (.list es tl) H)∧(ys≠[]→match tl with
     | .exact=>K (.list (es++ys) (.tok H.length)) (H++[.tok])
     | .tok o=>match H[o]? with
      | some .tok=>K (.list (es++ys) (.tok H.length)) (H.set o .dead++[.tok])
      | _=>False
     | .no=>False)
    | _=>False
   | 10=>match sz,tl,od H sz y with
    | 1,.exact,some (p,ys,n)=>pre p <| uni 1 es∧ys.length=n∧(es.length+n)*by_≤140737488355328∧K (.list (es++ys.map fun x=>[x]) .no) H
    | _,_,_=>False
   | 9=>match y with
    | .list ys _=>fU es ys sz by_∧ys=[]∧K (.list es tl) H
    | _=>False
   | 0=>match y,tl with
    | .list ys _,.exact=>fU es ys sz by_∧K (.list (es++ys) .no) H
    | _,_=>False
   | _=>False
  | some (sz,by_,z),[.arr o off len cap,y]=>match H[o]?,od H sz y with
   | some (.cells cs),some (p,ys,n)=>pre p <| (len≤cap∧off+cap*sz≤cs.length∧ys.length=n*sz∧ys.all PV.one=true∧(len+n)*by_≤140737488355328)∧
    match m with
    | 3=>len+n≤cap∧K (.arr o off (len+n) cap) (H.set o (.cells (over cs (off+len*sz) ys)))
    | _=>match dr with
     | true=>False
     | false=>(len+n≤cap→K (.arr o off (len+n) cap) (H.set o (.cells (over cs (off+len*sz) ys))))∧
      (cap<len+n→∀ c,len+n≤c→K (.arr H.length 0 (len+n) c) (H++[.cells (((cs.drop off).take (len*sz))++ys++(List.replicate (c-(len+n)) z).flatten)]))
   | _,_=>False
  | none,[.arr o off len cap,.int _ n]=>match dr,m,kS P ts,H[o]? with
   | false,0,some (sz,by_,z),some (.cells cs)=>(len≤cap∧off+cap*sz≤cs.length∧0≤n∧cap<len+n.toNat∧(len+n.toNat)*by_≤140737488355328)∧
    ∀ c,len+n.toNat≤c→K (.arr H.length 0 (len+n.toNat) c) (H++[.cells (((cs.drop off).take (len*sz))++(List.replicate (c-len) z).flatten)])
   | _,_,_,_=>False
  | none,[.list es tl,.int _ n]=>match m,es,tl,kS P ts with
   | 8,[],.exact,some (_,by_,z)=>0<n∧n.toNat*by_≤140737488355328∧∀ c,n.toNat≤c→K (.arr H.length 0 n.toNat c) (H++[.cells (List.replicate c z).flatten])
   | _,_,_,_=>False
  | _,_=>False
 | .copy=>match ts[0]?,args with
  | some t,[.arr o off len _,y]=>match elA P t with
   | some (none,_,sz,_,_)=>match H[o]?,od H sz y with
    | some (.cells cs),some (p,ys,n)=>pre p <| (off+len*sz≤cs.length∧ys.length=n*sz∧ys.all PV.one=true)∧K (.int .i64 (min n len:Nat)) (H.set o (.cells (over cs off (ys.take (min n len*sz)))))
    | _,_=>False
   | _=>False
  | _,_=>False
 | .clear=>match ts[0]?,args with
  | some t,[.arr o off len _]=>match elA P t with
   | some (none,_,sz,_,et)=>match H[o]?,bU P et with
    | some (.cells cs),some z=>B (z.length == sz && z.all PV.one) (off+len*sz≤cs.length∧K (.tup []) (H.set o (.cells (over cs off (List.replicate len z).flatten)))) False
    | _,_=>False
   | _=>False
  | _,_=>False
 | _=>False
theorem j9 {P:Program} {b:Builtin} {ts:Array TypeId} {args:List PV} {m:Nat} {dr:Bool} {H:aa} {K:PV→aa→Prop} (h:gm br P b ts args m dr H K):
  au P b ts args m H K∧(dr=true→b ≠ .append∨eM args=true∨m=3):=by
 cases b<;>try exact h.elim
 case len=>exact⟨h,fun _=> .inl (fun e=>by cases e)⟩
 case min=>exact⟨h,fun _=> .inl (fun e=>by cases e)⟩
 case max=>exact⟨h,fun _=> .inl (fun e=>by cases e)⟩
 case cap=>
  refine⟨?_,fun _=> .inl (fun e=>by cases e)⟩
  simp only[gm] at h
  simp only[au]
  split at h
  ·rename_i h1; rw[h1]; simp only
   obtain⟨h2,h3⟩:=ax h
   exact⟨jb h2,h3⟩
  ·rename_i h1; rw[h1]; simp only
   obtain⟨h2,h3⟩:=ax h
   exact⟨jb h2,h3⟩
  ·exact h.elim
 case copy=>
  refine⟨?_,fun _=> .inl (fun e=>by cases e)⟩
  simp only[gm] at h
  simp only[au]
  split at h
  ·rename_i h1; rw[h1]; simp only
   split at h
   ·rename_i h2; rw[h2]; simp only
    split at h
    ·rename_i h3 h4
     obtain⟨h5,h⟩:=gY h4 h
     rw[h3,h5]; simp only
     exact⟨h.1.1,h.1.2.1,h.1.2.2,h.2⟩
    ·exact h.elim
   ·exact h.elim
  ·exact h.elim
 case clear=>
  refine⟨?_,fun _=> .inl (fun e=>by cases e)⟩
  simp only[gm] at h
  simp only[au]
  split at h
  ·rename_i h1; rw[h1]; simp only
   split at h
   ·rename_i h2; rw[h2]; simp only
    split at h
    ·rename_i h3 h4; rw[h3,h4]; simp only
     obtain⟨h5,h6⟩:=ax h
     simp only[Bool.and_eq_true,beq_iff_eq] at h5
     exact⟨h5.1,h5.2,h6⟩
    ·exact h.elim
   ·exact h.elim
  ·exact h.elim
 case append=>
  simp only[gm] at h
  simp only[au]
  split at h
  ·rename_i h1; rw[h1]; simp only
   refine⟨?_,fun _=> .inr (.inl rfl)⟩
   split at h
   ·split at h
    ·rename_i h2; simp only
     refine⟨trivial,trivial,?_⟩
     obtain⟨h5,h⟩:=gY h2 h
     rw[h5]; exact h
    ·exact h.elim
   ·split at h
    ·obtain⟨⟨a1,a2,a3⟩,⟨b1,b2⟩,h⟩:=h
     refine⟨a1,a2,a3,b1,b2,?_⟩
     split at h
     ·exact h
     ·split at h
      ·rename_i ho; exact⟨ho,h⟩
      ·exact h.elim
     ·exact h.elim
    ·exact h.elim
   ·split at h
    ·obtain⟨⟨a1,a2,a3⟩,b1,b2,h⟩:=h
     refine⟨a1,a2,a3,b1,b2,fun k=>?_⟩
     have h:=h k
     split at h
     ·exact h
     ·split at h
      ·rename_i ho; exact⟨ho,h⟩
      ·exact h.elim
     ·exact h.elim
    ·exact h.elim
   ·split at h
    ·rename_i h2; simp only
     refine⟨trivial,trivial,?_⟩
     obtain⟨h5,h⟩:=gY h2 h
     rw[h5]; exact h
    ·exact h.elim
   ·split at h
    ·obtain⟨⟨a1,a2,a3⟩,b1,h⟩:=h
     exact⟨a1,a2,a3,b1,h⟩
    ·exact h.elim
   ·split at h
    ·obtain⟨⟨a1,a2,a3⟩,h⟩:=h
     exact⟨a1,a2,a3,rfl,h⟩
    ·exact h.elim
   ·exact h.elim
  ·rename_i h1; rw[h1]; simp only
   split at h
   ·rename_i h3 h4
    obtain⟨h5,h⟩:=gY h4 h
    rw[h3,h5]; simp only
    obtain⟨ha,h⟩:=h
    split at h
    ·exact⟨⟨ha.1,ha.2.1,ha.2.2.1,ha.2.2.2.1,ha.2.2.2.2,h⟩,fun _=> .inr (.inr rfl)⟩
    ·rename_i hm
     split at h
     ·exact h.elim
     ·refine⟨⟨ha.1,ha.2.1,ha.2.2.1,ha.2.2.2.1,ha.2.2.2.2,?_⟩,fun e=>by cases e⟩
      split
      ·exact absurd rfl hm
      ·exact h
   ·exact h.elim
  ·rename_i h1; rw[h1]; simp only
   split at h
   ·rename_i h2 h3; rw[h2,h3]; simp only
    exact⟨⟨h.1.1,h.1.2.1,h.1.2.2.1,h.1.2.2.2.1,h.1.2.2.2.2,trivial,h.2⟩,fun e=>by cases e⟩
   ·exact h.elim
  ·rename_i h1; rw[h1]; simp only
   split at h
   ·rename_i h2; rw[h2]
    exact⟨⟨rfl,rfl,h.1,h.2.1,rfl,h.2.2⟩,fun _=> .inr (.inl rfl)⟩
   ·exact h.elim
  ·exact h.elim
def jR (B:Bool→Prop→Prop→Prop) (P:Program) (T:Tab) (c:Call) (m:Nat) (dr:Bool) (ρ:Operand→PV) (H:aa) (K:PV→aa→Prop):Prop:=
 match c.callee with
 | .value f=>match ρ f with
  | .fn k caps=>match lg k T with
   | some (.pure s)=>B (cg P k) (s (c.args.toList.map ρ++caps) (fun x=>K x H)) False
   | some (.read s)=>B (cg P k) (match dr,m with
    | false,_=>s (c.args.toList.map ρ++caps) H (fun x=>K x H)
    | true,5=>s (c.args.toList.map ρ++caps) H (fun x=>K x H)
    | true,_=>False) False
   | some (.heap s)=>B (cg P k) (match dr with
    | false=>s (c.args.toList.map ρ++caps) H K
    | true=>False) False
   | some (.ext s)=>match dr with
    | false=>s (c.args.toList.map ρ++caps) H (fun x=>K x H)
    | true=>False
   | some (.mk s)=>B (cg P k) (match dr,m with
    | false,_=>s (c.args.toList.map ρ++caps) (fun es=>(es=[]→K (.list [] .exact) H)∧(es≠[]→K (.list es (.tok H.length)) (H++[.tok])))
    | true,6=>s (c.args.toList.map ρ++caps) (fun es=>(es=[]→K (.list [] .exact) H)∧(es≠[]→K (.list es (.tok H.length)) (H++[.tok])))
    | true,_=>False) False
   | some (.chg s)=>B (cg P k) (match dr,m with
    | false,_=>s (c.args.toList.map ρ++caps) H K
    | true,7=>s (c.args.toList.map ρ++caps) H K
    | true,_=>False) False
   | none=>False
  | _=>False
 | .builtin b=>gm B P b c.argTypes (c.args.toList.map ρ) m dr H K
 | _=>False
theorem gL {P:Program} {gl:ai} {T:Tab} (hT:aV P gl T) {c:Call} {m:Nat} {dr:Bool} {ρ:Operand→PV} {H:aa} {K:PV→aa→Prop} (h:jR br P T c m dr ρ H K):
  (dr=false→opw P gl (.call c) m ρ H K)∧(dr=true→gX P gl (.call c) m ρ H K):=by
 unfold jR at h
 have hop:opw P gl (.call c) m ρ H K=a8 P gl c m ρ H K:=rfl
 rw[hop]
 unfold a8
 simp only[gX]
 split at h
 ·rename_i f hf
  rw[hf]; simp only
  split at h
  ·rename_i k caps hk
   rw[hk]; simp only
   split at h
   ·rename_i s hs
    obtain⟨h1,h2⟩:=ax h
    obtain⟨r,k1,k2⟩:=hT k _ hs _ _ h2
    refine⟨fun _=> .inl ⟨h1,(k1 H).mono fun x H' e=>by rw[e.1,e.2]; exact k2⟩,fun _=>⟨h1,?_⟩⟩
    unfold fk
    by_cases h6:m=6
    ·rw[if_pos h6]; exact⟨r,H,k1 H,fun _ _ k=>k,k2⟩
    rw[if_neg h6]
    by_cases h7:m=7
    ·rw[if_pos h7]; exact⟨r,H,k1 H,k2⟩
    rw[if_neg h7]
    refine⟨r,?_,k2⟩
    split
    ·exact k1 H
    ·exact k1
   ·rename_i s hs
    obtain⟨h1,h2⟩:=ax h
    split at h2
    ·obtain⟨r,k1,k2⟩:=hT k _ hs _ _ _ h2
     exact⟨fun _=> .inl ⟨h1,k1.mono fun x H' e=>by rw[e.1,e.2]; exact k2⟩,fun e=>by cases e⟩
    ·obtain⟨r,k1,k2⟩:=hT k _ hs _ _ _ h2
     exact⟨fun e=>(by cases e),fun _=>⟨h1,by unfold fk; rw[if_neg (by decide),if_neg (by decide)]; exact⟨r,by rw[if_pos rfl]; exact k1,k2⟩⟩⟩
    ·exact h2.elim
   ·rename_i s hs
    obtain⟨h1,h2⟩:=ax h
    split at h2
    ·exact⟨fun _=> .inl ⟨h1,hT k _ hs _ _ _ h2⟩,fun e=>by cases e⟩
    ·exact h2.elim
   ·rename_i s hs
    split at h
    ·exact⟨fun _=> .inr (hT k _ hs _ _ _ h),fun e=>by cases e⟩
    ·exact h.elim
   ·rename_i s hs
    obtain⟨h1,h2⟩:=ax h
    have main:∀ es:List (List PV),((es=[]→K (.list [] .exact) H)∧(es≠[]→K (.list es (.tok H.length)) (H++[.tok])))→(∀ H,af P gl k (c.args.toList.map ρ++caps) H (fun x H'=>(es=[]→x = .list [] .exact∧H'=H)∧(es≠[]→x = .list es (.tok H.length)∧H'=H++[.tok])))→
      ∃ r H',af P gl k (c.args.toList.map ρ++caps) H (fun x H1=>x=r∧H1=H')∧keeps H H'∧K r H':=by
     intro es hk ha
     by_cases h0:es=[]
     ·exact⟨_,_,(ha H).mono fun x H' e=>e.1 h0,fun _ _ k=>k,hk.1 h0⟩
     ·exact⟨_,_,(ha H).mono fun x H' e=>e.2 h0,cX H _,hk.2 h0⟩
    split at h2
    ·obtain⟨es,k2,k1⟩:=hT k _ hs _ _ h2
     obtain⟨r,H',a1,_,a2⟩:=main es k2 k1
     exact⟨fun _=> .inl ⟨h1,a1.mono fun x H1 e=>by rw[e.1,e.2]; exact a2⟩,fun e=>by cases e⟩
    ·obtain⟨es,k2,k1⟩:=hT k _ hs _ _ h2
     exact⟨fun e=>(by cases e),fun _=>⟨h1,by unfold fk; rw[if_pos rfl]; exact main es k2 k1⟩⟩
    ·exact h2.elim
   ·rename_i s hs
    obtain⟨h1,h2⟩:=ax h
    split at h2
    ·obtain⟨r,H',k1,k2⟩:=hT k _ hs _ _ _ h2
     exact⟨fun _=> .inl ⟨h1,k1.mono fun x H1 e=>by rw[e.1,e.2]; exact k2⟩,fun e=>by cases e⟩
    ·obtain⟨r,H',k1,k2⟩:=hT k _ hs _ _ _ h2
     exact⟨fun e=>(by cases e),fun _=>⟨h1,by unfold fk; rw[if_neg (by decide),if_pos rfl]; exact⟨r,H',k1,k2⟩⟩⟩
    ·exact h2.elim
   ·exact h.elim
  ·exact h.elim
 ·rename_i b hb
  rw[hb]; simp only
  obtain⟨h1,h2⟩:=j9 h
  exact⟨fun _=>h1,fun e=>⟨h2 e,h1⟩⟩
 ·exact h.elim
def dY (B:Bool→Prop→Prop→Prop) (P:Program) (gl:ai) (T:Tab) (hn:Oper→Nat) (dr:Bool) (ops:Array Oper):List Oper→Env→aa→(Env→aa→Prop)→Prop
 | [],e,H,K=>K e H
 | o::l,e,H,K=>
  match o.guard with
  | none=>match o.op with
   | .call c=>jR B P T c (hn o) dr (ev gl e) H fun x H'=>dY B P gl T hn dr ops l (upd e o.dst x) H' K
   | op=>opc B P op (hn o) (ev gl e) H fun x H'=>dY B P gl T hn dr ops l (upd e o.dst x) H' K
  | some (j,want)=>match (ops[j]?).bind (·.dst) with
   | some d=>match e d with
    | .bool b=>B (b == want)
      (match o.op with
      | .call c=>jR B P T c (hn o) dr (ev gl (upd e (some d) (.bool want))) H fun x H'=>dY B P gl T hn dr ops l (upd (upd e (some d) (.bool want)) o.dst x) H' K
      | op=>opc B P op (hn o) (ev gl (upd e (some d) (.bool want))) H fun x H'=>dY B P gl T hn dr ops l (upd (upd e (some d) (.bool want)) o.dst x) H' K)
      (dY B P gl T hn dr ops l (upd (upd e (some d) (.bool !want)) o.dst (.tup [])) H K)
    | .tup []=>dY B P gl T hn dr ops l (upd e o.dst (.tup [])) H K
    | _=>False
   | none=>False
theorem ep {e:Env} {d:Nat} {x:PV} (h:e d=x):upd e (some d) x=e:=by
 funext k; simp only[upd]; split
 ·rename_i hk; rw[hk,h]
 ·rfl
theorem qm {P:Program} {gl:ai} {c:Call} {m:Nat} {ρ:Operand→PV} {H:aa} {K:PV→aa→Prop}:opw P gl (.call c) m ρ H K=a8 P gl c m ρ H K:=rfl
theorem dJ {P:Program} {gl:ai} {T:Tab} (hT:aV P gl T) {op:Op} {m:Nat} {dr:Bool} {ρ:Operand→PV} {H:aa} {K:PV→aa→Prop}
  (h:match op with| .call c=>jR br P T c m dr ρ H K|op=>opc br P op m ρ H K):(dr=false→opw P gl op m ρ H K)∧(dr=true→gX P gl op m ρ H K):=by
 cases op<;>first|exact gL hT h|exact⟨fun _=>(ju h).1,fun _=>(ju h).2⟩
theorem n9 {op:BinOp} {k k':IntKind} {a b:Int} {K K':PV→Prop} (h:ij op k a k' b K) (hk:∀ x,K x→K' x):ij op k a k' b K':=by
 cases op<;>simp only[ij] at h ⊢
 case quo=>exact⟨h.1,h.2.1,hk _ h.2.2⟩
 case rem=>exact⟨h.1,h.2.1,hk _ h.2.2⟩
 all_goals exact⟨h.1,hk _ h.2⟩
theorem nX {P:Program} {op:BinOp} {t:TypeId} {x y:PV} {K K':PV→Prop} (h:gj P op t x y K) (hk:∀ x,K x→K' x):gj P op t x y K':=by
 unfold gj at h
 split at h
 ·exact n9 h hk
 ·unfold gj
  cases op<;>first|exact h.elim|exact hk _ h
 ·refine⟨h.1,?_⟩
  have h:=h.2
  cases op<;>first|exact h.elim|exact hk _ h
 ·refine⟨h.1,?_⟩
  have h:=h.2
  cases op<;>first|exact h.elim|exact hk _ h
 ·refine⟨h.1,?_⟩
  have h:=h.2
  cases op<;>first|exact h.elim|exact hk _ h
 ·refine⟨h.1,?_⟩
  have h:=h.2
  cases op<;>first|exact h.elim|exact hk _ h
 ·rename_i xs ys
  obtain⟨h1,h2,h3,h4,h5⟩:=h
  refine⟨h1,h2,h3,h4,?_⟩
  split at h5
  ·rename_i he; (try rw[he]); (try simp only)
   cases op<;>first|exact h5.elim|exact hk _ h5
  ·exact h5.elim
 ·exact h.elim
theorem nD {P:Program} {op:BinOp} {t:TypeId} {x:PV} {K K':PV→Prop} (h:pu P op t x K) (hk:∀ x,K x→K' x):pu P op t x K':=by
 refine⟨h.1,?_⟩
 have h:=h.2
 split at h
 ·cases op<;>first|exact h.elim|exact fun b hb=>hk _ (h b hb)
 ·cases op<;>first|exact h.elim|exact hk _ h
 ·exact h.elim
theorem eX {P:Program} {b:Builtin} {ts:Array TypeId} {args:List PV} {m:Nat} {H:aa} {K K':PV→aa→Prop} (h:au P b ts args m H K) (hk:∀ x H',K x H'→K' x H'):au P b ts args m H K':=by
 cases b<;>try exact h.elim
 case len=>
  simp only[au] at h ⊢
  split at h
  ·rename_i h1; (try rw[h1]); (try simp only)
   split at h
   ·rename_i h2; (try rw[h2]); exact hk _ _ h
   ·exact h.elim
  ·exact h.elim
 case min=>
  simp only[au] at h ⊢
  split at h
  ·rename_i h2; (try rw[h2]); exact hk _ _ h
  ·exact h.elim
 case max=>
  simp only[au] at h ⊢
  split at h
  ·rename_i h2; (try rw[h2]); exact hk _ _ h
  ·exact h.elim
 case cap=>
  simp only[au] at h ⊢
  split at h
  ·rename_i h1; (try rw[h1]); exact⟨h.1,hk _ _ h.2⟩
  ·rename_i h1; (try rw[h1]); exact⟨h.1,hk _ _ h.2⟩
  ·exact h.elim
 case copy=>
  simp only[au] at h ⊢
  split at h
  ·rename_i h1; (try rw[h1]); (try simp only)
   split at h
   ·rename_i h2; (try rw[h2]); (try simp only)
    split at h
    ·rename_i h3 h4; (try rw[h3,h4]); exact⟨h.1,h.2.1,h.2.2.1,hk _ _ h.2.2.2⟩
    ·exact h.elim
   ·exact h.elim
  ·exact h.elim
 case clear=>
  simp only[au] at h ⊢
  split at h
  ·rename_i h1; (try rw[h1]); (try simp only)
   split at h
   ·rename_i h2; (try rw[h2]); (try simp only)
    split at h
    ·rename_i h3 h4; (try rw[h3,h4]); exact⟨h.1,h.2.1,h.2.2.1,hk _ _ h.2.2.2⟩
    ·exact h.elim
   ·exact h.elim
  ·exact h.elim
 case append=>
  simp only[au] at h ⊢
  split at h
  ·rename_i h1; (try rw[h1]); (try simp only)
   split at h
   ·obtain⟨h2,h3,h4⟩:=h
    refine⟨h2,h3,?_⟩
    split at h4
    ·exact⟨h4.1,h4.2.1,h4.2.2.1,fun c hc=>hk _ _ (h4.2.2.2 c hc)⟩
    ·exact h4.elim
   ·obtain⟨h2,h3,h4⟩:=h
    refine⟨h2,h3,?_⟩
    split at h4
    ·exact⟨h4.1,h4.2.1,h4.2.2.1,hk _ _ h4.2.2.2⟩
    ·exact h4.elim
   ·rename_i hm
    split at h
    ·obtain⟨a1,a2,a3,h⟩:=h
     refine⟨a1,a2,a3,?_⟩
     split at h
     ·refine⟨h.1,h.2.1,?_⟩
      have h:=h.2.2
      split at h
      ·exact hk _ _ h
      ·exact⟨h.1,hk _ _ h.2⟩
      ·exact h.elim
     ·refine⟨h.1,fun k=>hk _ _ (h.2.1 k),fun k=>?_⟩
      have h:=h.2.2 k
      split at h
      ·exact hk _ _ h
      ·exact⟨h.1,hk _ _ h.2⟩
      ·exact h.elim
     ·exact⟨h.1,hk _ _ h.2⟩
     ·exact⟨h.1,hk _ _ h.2⟩
    ·exact h.elim
  ·rename_i h1; (try rw[h1]); (try simp only)
   split at h
   ·rename_i h3 h4; (try rw[h3,h4])
    refine⟨h.1,h.2.1,h.2.2.1,h.2.2.2.1,h.2.2.2.2.1,?_⟩
    have h:=h.2.2.2.2.2
    split at h
    ·exact⟨h.1,hk _ _ h.2⟩
    ·exact⟨fun q=>hk _ _ (h.1 q),fun q c hc=>hk _ _ (h.2 q c hc)⟩
   ·exact h.elim
  ·rename_i h1; (try rw[h1]); (try simp only)
   split at h
   ·rename_i h3 h4; (try rw[h3,h4])
    exact⟨h.1,h.2.1,h.2.2.1,h.2.2.2.1,h.2.2.2.2.1,h.2.2.2.2.2.1,fun c hc=>hk _ _ (h.2.2.2.2.2.2 c hc)⟩
   ·exact h.elim
  ·rename_i h1; (try rw[h1]); (try simp only)
   split at h
   ·rename_i h3; (try rw[h3])
    exact⟨h.1,h.2.1,h.2.2.1,h.2.2.2.1,h.2.2.2.2.1,fun c hc=>hk _ _ (h.2.2.2.2.2 c hc)⟩
   ·exact h.elim
  ·exact h.elim
theorem fu {P:Program} {gl:ai} {op:Op} {m:Nat} {ρ:Operand→PV} {H:aa} {K K':PV→aa→Prop} (h:opw P gl op m ρ H K) (hk:∀ x H',K x H'→K' x H'):opw P gl op m ρ H K':=by
 cases op<;>try exact h.elim
 case move x=>exact hk _ _ h
 case assign x=>exact hk _ _ h
 case call c=>
  rw[qm] at h ⊢
  unfold a8 at h ⊢
  split at h
  ·split at h
   ·rcases h with h|h
    ·exact .inl ⟨h.1,h.2.mono hk⟩
    ·refine .inr fun g w vs hS hR=>?_
     obtain⟨v,x,h1,h2,h3⟩:=h g w vs hS hR
     exact⟨v,x,h1,h2,hk _ _ h3⟩
   ·exact h.elim
  ·exact eX h hk
  ·exact h.elim
 case binOp=>
  simp only[opw] at h ⊢
  split at h
  ·rename_i hc; (try rw[if_pos hc]); exact nD h fun x=>hk x H
  ·rename_i hc; (try rw[if_neg hc]); exact nX h fun x=>hk x H
 case nilCheck x=>
  simp only[opw] at h ⊢
  split at h<;>first|exact h.elim|(rename_i h1; (try rw[h1]); exact hk _ _ h)
 case pick=>
  simp only[opw] at h ⊢
  split at h<;>first|exact h.elim|(rename_i h1; (try rw[h1]); exact hk _ _ h)
 case alloc=>
  simp only[opw] at h ⊢
  split at h<;>first|exact h.elim|(rename_i h1; (try rw[h1]); exact hk _ _ h)
 case box=>
  simp only[opw] at h ⊢
  split at h<;>first|exact h.elim|(rename_i h1; (try rw[h1]); exact hk _ _ h)
 case build=>
  simp only[opw] at h ⊢
  split at h<;>first|exact h.elim|(rename_i h1; (try rw[h1]); exact hk _ _ h)
 case unOp=>
  simp only[opw] at h ⊢
  split at h<;>first|exact h.elim|(rename_i h1; (try rw[h1]); exact hk _ _ h)
 case convert=>
  simp only[opw] at h ⊢
  split at h<;>first|exact h.elim|(rename_i h1; (try rw[h1]); exact hk _ _ h)
 case makeFunc=>
  simp only[opw] at h ⊢
  split at h<;>first|exact h.elim|exact⟨h.1,hk _ _ h.2⟩
 case buildSlice=>
  simp only[opw] at h ⊢
  split at h
  ·rename_i h1; (try rw[h1]); (try simp only)
   split at h
   ·rename_i h2; (try rw[h2])
    refine⟨h.1,h.2.1,h.2.2.1,?_⟩
    have h:=h.2.2.2
    split at h
    ·rename_i h3; (try rw[h3]); exact hk _ _ h
    ·exact h.elim
   ·exact h.elim
  ·exact h.elim
 case load=>
  simp only[opw] at h ⊢
  split at h
  ·rename_i h1 h2; (try rw[h1,h2]); (try simp only)
   split at h
   ·rename_i h3; (try rw[h3]); exact⟨h.1,hk _ _ h.2⟩
   ·exact h.elim
  ·exact h.elim
 case store=>
  simp only[opw] at h ⊢
  split at h
  ·rename_i h1 h2 h3; (try rw[h1,h2,h3]); (try simp only)
   split at h
   ·rename_i h4; (try rw[h4]); exact⟨h.1,h.2.1,h.2.2.1,hk _ _ h.2.2.2⟩
   ·exact h.elim
  ·exact h.elim
 case makeSlice=>
  simp only[opw] at h ⊢
  split at h
  ·rename_i h1 h2 h3; (try rw[h1,h2,h3]); (try simp only)
   split at h
   ·rename_i h4; (try rw[h4]); exact⟨h.1,h.2.1,h.2.2.1,h.2.2.2.1,h.2.2.2.2.1,h.2.2.2.2.2.1,hk _ _ h.2.2.2.2.2.2⟩
   ·exact h.elim
  ·exact h.elim
 case slice=>
  simp only[opw] at h ⊢
  split at h
  ·rename_i h1 h2; (try rw[h1,h2]); (try simp only)
   split at h
   ·rename_i h3 h4 h5; (try rw[h3,h4,h5]); exact⟨h.1,h.2.1,h.2.2.1,h.2.2.2.1,h.2.2.2.2.1,h.2.2.2.2.2.1,hk _ _ h.2.2.2.2.2.2⟩
   ·exact h.elim
  ·rename_i h1 h2; (try rw[h1,h2]); (try simp only)
   split at h
   ·rename_i h3 h4 h5; (try rw[h3,h4,h5]); exact⟨h.1,h.2.1,h.2.2.1,h.2.2.2.1,h.2.2.2.2.1,hk _ _ h.2.2.2.2.2⟩
   ·exact h.elim
  ·exact h.elim
 case fieldAddr=>
  simp only[opw] at h ⊢
  split at h
  ·rename_i h1; (try rw[h1]); (try simp only)
   split at h
   ·rename_i h2; (try rw[h2]); exact hk _ _ h
   ·exact h.elim
  ·exact h.elim
 case field=>
  simp only[opw] at h ⊢
  split at h
  ·rename_i h1 h2; (try rw[h1,h2]); (try simp only)
   split at h
   ·rename_i h3; (try rw[h3]); exact hk _ _ h
   ·exact h.elim
  ·exact h.elim
 case indexAddr=>
  simp only[opw] at h ⊢
  split at h
  ·rename_i h1 h2; (try rw[h1,h2]); (try simp only)
   split at h
   ·rename_i h3; (try rw[h3]); refine⟨h.1,?_⟩
    have h:=h.2
    split at h
    ·rename_i h4; (try rw[h4]); exact⟨h.1,h.2.1,hk _ _ h.2.2⟩
    ·exact h.elim
   ·rename_i h3; (try rw[h3]); exact⟨h.1,h.2.1,hk _ _ h.2.2⟩
   ·exact h.elim
  ·rename_i h1 h2; (try rw[h1,h2]); refine⟨h.1,h.2.1,?_⟩
   have h:=h.2.2
   split at h
   ·rename_i h3; (try rw[h3]); exact hk _ _ h
   ·exact h.elim
  ·exact h.elim
 case index=>
  simp only[opw] at h ⊢
  split at h
  ·rename_i h1 h2 h3; (try rw[h1,h2,h3]); refine⟨h.1,h.2.1,?_⟩
   have h:=h.2.2
   split at h
   ·rename_i h4; (try rw[h4]); exact hk _ _ h
   ·exact h.elim
  ·exact h.elim
 case extract=>
  simp only[opw] at h ⊢
  split at h
  ·rename_i h1; (try rw[h1]); (try simp only)
   split at h
   ·rename_i h2; (try rw[h2]); exact hk _ _ h
   ·exact h.elim
  ·exact h.elim
theorem rZ {P:Program} {gl:ai} {op:Op} (hc:∀ c,op ≠ .call c):gX P gl op=opw P gl op:=by
 cases op<;>first|rfl|exact absurd rfl (hc _)
theorem jJ {P:Program} {gl:ai} {op:Op} {m:Nat} {ρ:Operand→PV} {H:aa} {K K':PV→aa→Prop} (h:gX P gl op m ρ H K) (hk:∀ x H',K x H'→K' x H'):gX P gl op m ρ H K':=by
 by_cases hc:∃ c,op = .call c
 ·obtain⟨c,rfl⟩:=hc
  simp only[gX] at h ⊢
  split at h
  ·split at h
   ·obtain⟨h1,h⟩:=h
    refine⟨h1,?_⟩
    unfold fk at h ⊢
    by_cases h6:m=6
    ·rw[if_pos h6] at h ⊢
     obtain⟨r,H',h2,h3,h4⟩:=h
     exact⟨r,H',h2,h3,hk _ _ h4⟩
    ·rw[if_neg h6] at h ⊢
     by_cases h7:m=7
     ·rw[if_pos h7] at h ⊢
      obtain⟨r,H',h2,h3⟩:=h
      exact⟨r,H',h2,hk _ _ h3⟩
     ·rw[if_neg h7] at h ⊢
      obtain⟨r,h2,h3⟩:=h
      exact⟨r,h2,hk _ _ h3⟩
   ·exact h.elim
  ·exact⟨h.1,eX h.2 hk⟩
  ·exact h.elim
 ·have hc:∀ c,op ≠ .call c:=fun c e=>hc ⟨c,e⟩
  rw[rZ hc] at h ⊢
  exact fu h hk
theorem iE {P:Program} {gl:ai} {T:Tab} (hT:aV P gl T) {hn:Oper→Nat} {ops:Array Oper} {K:Env→aa→Prop}:∀(l:List Oper) (e:Env) (H:aa),
  dY br P gl T hn false ops l e H K→ji P gl hn ops l e H K
 | [],e,H,h=>h
 | o::l,e,H,h=>by
  have ih:=fun e H=>iE (gl:=gl) hT (hn:=hn) (ops:=ops) (K:=K) l e H
  unfold dY at h
  unfold ji
  split at h
  ·rename_i hg
   (try rw[hg])
   exact fu ((dJ (m:=hn o) (dr:=false) hT h).1 rfl) fun x H' k=>ih _ _ k
  ·rename_i j want hg
   (try rw[hg])
   (try simp only)
   split at h
   ·rename_i d hd
    (try rw[hd])
    (try simp only)
    split at h
    ·rename_i b hb
     (try rw[hb])
     (try simp only)
     obtain⟨h1,h2⟩:=mw.1 h
     constructor
     ·intro hw
      subst hw
      have h1:=h1 (by simp)
      rw[ep hb] at h1
      exact fu ((dJ (m:=hn o) (dr:=false) hT h1).1 rfl) fun x H' k=>ih _ _ k
     ·intro hw
      have h2:=h2 (by subst hw; cases want<;>rfl)
      rw[hw] at hb
      rw[ep hb] at h2
      exact ih _ _ h2
    ·rename_i hb
     (try rw[hb])
     exact ih _ _ h
    ·exact h.elim
   ·exact h.elim
theorem aY {P:Program} {gl:ai} {T:Tab} (hT:aV P gl T) {hn:Oper→Nat} {ops:Array Oper} {K:Env→aa→Prop}:∀(l:List Oper) (e:Env) (H:aa),
  dY br P gl T hn true ops l e H K→ia P gl hn ops l e H K
 | [],e,H,h=>h
 | o::l,e,H,h=>by
  have ih:=fun e H=>aY (gl:=gl) hT (hn:=hn) (ops:=ops) (K:=K) l e H
  unfold dY at h
  unfold ia
  split at h
  ·rename_i hg
   (try rw[hg])
   exact jJ ((dJ (m:=hn o) (dr:=true) hT h).2 rfl) fun x H' k=>ih _ _ k
  ·rename_i j want hg
   (try rw[hg])
   (try simp only)
   split at h
   ·rename_i d hd
    (try rw[hd])
    (try simp only)
    split at h
    ·rename_i b hb
     (try rw[hb])
     (try simp only)
     obtain⟨h1,h2⟩:=mw.1 h
     constructor
     ·intro hw
      subst hw
      have h1:=h1 (by simp)
      rw[ep hb] at h1
      exact jJ ((dJ (m:=hn o) (dr:=true) hT h1).2 rfl) fun x H' k=>ih _ _ k
     ·intro hw
      have h2:=h2 (by subst hw; cases want<;>rfl)
      rw[hw] at hb
      rw[ep hb] at h2
      exact ih _ _ h2
    ·rename_i hb
     (try rw[hb])
     exact ih _ _ h
    ·exact h.elim
   ·exact h.elim
abbrev LSp:=Env→aa→(Ex→Env→aa→Prop)→Prop
abbrev iU:=List (List Nat×LSp)
def fG (p:List Nat):iU→Option LSp
 | []=>none
 | (q,s)::L=>match p == q with
  | true=>some s
  | false=>fG p L
def sub:List Nat→Code→Option Code
 | [],c=>some c
 | i::p,.seq x y=>match i with
  | 0=>sub p x
  | _=>sub p y
 | i::p,.cond _ x y=>match i with
  | 0=>sub p x
  | _=>sub p y
 | _::p,.block _ x=>sub p x
 | _::p,.loop x=>sub p x
 | _::p,.scope x=>sub p x
 | _,_=>none
def sr (e:Env) (c:Operand) (b:Bool):Env:=match c with
 | .tmp t=>upd e (some t) (.bool b)
 | _=>e
def wpc (B:Bool→Prop→Prop→Prop) (P:Program) (gl:ai) (T:Tab) (L:iU) (hn:Oper→Nat):Code→List Nat→Env→aa→(Ex→Env→aa→Prop)→Prop
 | .skip,_,e,H,Q=>Q .normal e H
 | .label _,_,e,H,Q=>Q .normal e H
 | .exit id,_,e,H,Q=>Q (.exit id) e H
 | .ret,_,e,H,Q=>Q .ret e H
 | .region _ ops d,p,e,H,Q=>match fG p L with
  | some s=>s e H Q
  | none=>match d with
   | false=>dY B P gl T hn false ops ops.toList e H (Q .normal)
   | true=>B (fL ops hn) (dY B P gl T hn true ops ops.toList e H (Q .normal)) False
 | .seq x y,p,e,H,Q=>match fG p L with
  | some s=>s e H Q
  | none=>wpc B P gl T L hn x (p++[0]) e H fun ex e' H'=>match ex with
   | .normal=>wpc B P gl T L hn y (p++[1]) e' H' Q
   | .exit i=>Q (.exit i) e' H'
   | .ret=>Q .ret e' H'
 | .cond c x y,p,e,H,Q=>match fG p L with
  | some s=>s e H Q
  | none=>match ev gl e c with
   | .bool b=>B b (wpc B P gl T L hn x (p++[0]) (sr e c true) H Q) (wpc B P gl T L hn y (p++[1]) (sr e c false) H Q)
   | _=>False
 | .block id x,p,e,H,Q=>match fG p L with
  | some s=>s e H Q
  | none=>wpc B P gl T L hn x (p++[0]) e H fun ex e' H'=>match ex with
   | .normal=>Q .normal e' H'
   | .exit i=>match i == id with
    | true=>Q .normal e' H'
    | false=>Q (.exit i) e' H'
   | .ret=>Q .ret e' H'
 | .loop _,p,e,H,Q=>match fG p L with
  | some s=>s e H Q
  | none=>False
 | .scope x,p,e,H,Q=>wpc B P gl T L hn x (p++[0]) e H Q
 | _,_,_,_,_=>False
def LOk [Dfr] (P:Program) (gl:ai) (n:Nat) (c:Code) (p:List Nat) (L:iU):Prop:=
 ∀ q s x,fG (p++q) L=some s→sub q c=some x→∀ e H Q,s e H Q→AW P gl n x Q e H
theorem jN {gl:ai} {e:Env} {c:Operand} {b:Bool} (h:ev gl e c = .bool b):sr e c b=e:=by
 unfold sr
 split
 ·exact ep h
 ·rfl
theorem q6 [Dfr] {P:Program} {gl:ai} {n:Nat} {x:Code} {Q:Ex→Env→aa→Prop} {e:Env} {H:aa} (h:AW P gl n x Q e H):AW P gl n (.scope x) Q e H:=by
 intro hd g a w hst
 simp only[bq] at hd
 refine wp_scope_straight (wp_mono (h hd g a w hst) ?_)
 rintro ex a' w' ⟨ex',g',e',H',k0,k1⟩
 cases ex<;>first|(cases ex'<;>exact k0.elim)|exact⟨ex',g',e',H',k0,k1⟩
theorem cP [Dfr] {P:Program} {gl:ai} {n:Nat} {T:Tab} {L:iU} {hn:Oper→Nat} (hT:aV P gl T):∀(c:Code) (p:List Nat),LOk P gl n c p L→∀(e:Env) (H:aa) (Q:Ex→Env→aa→Prop),
  wpc br P gl T L hn c p e H Q→AW P gl n c Q e H:=by
 intro c
 induction c with
 | skip=>intro p _ e H Q h; exact rz h
 | label l=>intro p _ e H Q h; exact oo h
 | exit i=>intro p _ e H Q h; exact sw h
 | ret=>intro p _ e H Q h; exact uh h
 | region id ops d=>
  intro p hL e H Q h
  simp only[wpc] at h
  split at h
  ·rename_i s hs
   exact hL [] s _ (by simpa using hs) rfl e H Q h
  ·split at h
   ·exact og hn (iE hT _ _ _ h)
   ·obtain⟨h1,h2⟩:=ax h
    exact iy hn h1 (aY hT _ _ _ h2)
 | seq x y ihx ihy=>
  intro p hL e H Q h
  have hx:LOk P gl n x (p++[0]) L:=fun q s z h1 h2=>hL (0::q) s z (by simpa using h1) h2
  have hy:LOk P gl n y (p++[1]) L:=fun q s z h1 h2=>hL (1::q) s z (by simpa using h1) h2
  simp only[wpc] at h
  split at h
  ·rename_i s hs
   exact hL [] s _ (by simpa using hs) rfl e H Q h
  refine AW.mono (Q:=post P gl n (.fin Q)) (uy (AW.mono (ihx _ hx _ _ _ h) fun ex e' H' k=>?_)) fun ex e H k=>k
  cases ex with
  | normal=>exact(ihy _ hy _ _ _ k:AW P gl n y Q e' H')
  | exit i=>exact k
  | ret=>exact k
 | cond c x y ihx ihy=>
  intro p hL e H Q h
  have hx:LOk P gl n x (p++[0]) L:=fun q s z h1 h2=>hL (0::q) s z (by simpa using h1) h2
  have hy:LOk P gl n y (p++[1]) L:=fun q s z h1 h2=>hL (1::q) s z (by simpa using h1) h2
  simp only[wpc] at h
  split at h
  ·rename_i s hs
   exact hL [] s _ (by simpa using hs) rfl e H Q h
  split at h
  ·rename_i b hb
   obtain⟨h1,h2⟩:=mw.1 h
   refine sE hb (fun k=>?_) (fun k=>?_)
   ·have h3:=h1 k
    rw[jN (by rw[hb,k])] at h3
    exact ihx _ hx _ _ _ h3
   ·have h3:=h2 k
    rw[jN (by rw[hb,k])] at h3
    exact ihy _ hy _ _ _ h3
  ·exact h.elim
 | block id x ihx=>
  intro p hL e H Q h
  have hx:LOk P gl n x (p++[0]) L:=fun q s z h1 h2=>hL (0::q) s z (by simpa using h1) h2
  simp only[wpc] at h
  split at h
  ·rename_i s hs
   exact hL [] s _ (by simpa using hs) rfl e H Q h
  refine AW.mono (Q:=post P gl n (.fin Q)) (oT (AW.mono (ihx _ hx _ _ _ h) fun ex e' H' k=>?_)) fun ex e H k=>k
  cases ex with
  | normal=>exact k
  | exit i=>
   rw[jg]
   simp only at k
   split at k
   ·rename_i hi; rw[if_pos (by simpa using hi)]; exact k
   ·rename_i hi; rw[if_neg (by simpa using hi)]; exact k
  | ret=>exact k
 | loop x ih=>
  intro p hL e H Q h
  simp only[wpc] at h
  split at h
  ·rename_i s hs
   exact hL [] s _ (by simpa using hs) rfl e H Q h
  ·exact h.elim
 | scope x ihx=>
  intro p hL e H Q h
  have hx:LOk P gl n x (p++[0]) L:=fun q s z h1 h2=>hL (0::q) s z (by simpa using h1) h2
  exact q6 (ihx _ hx _ _ _ h)
 | _=>intro p _ e H Q h; exact h.elim
theorem LOk.nil [Dfr] (P:Program) (gl:ai) (n:Nat) (c:Code) (p:List Nat):LOk P gl n c p []:=fun q s x h=>by simp[fG] at h
theorem LOk.cons [Dfr] {P:Program} {gl:ai} {n:Nat} {c x:Code} {q:List Nat} {s:LSp} {L:iU} (hs:sub q c=some x) (h:∀ e H Q,s e H Q→AW P gl n x Q e H) (hL:LOk P gl n c [] L):LOk P gl n c [] ((q,s)::L):=by
 intro q' s' x' hl hs' e H Q hq
 simp only[fG,List.nil_append] at hl
 split at hl
 ·rename_i he
  have:q'=q:=by simpa using he
  subst this
  cases hl
  rw[hs] at hs'; cases hs'
  exact h e H Q hq
 ·exact hL q' s' x' (by simpa using hl) hs' e H Q hq
theorem jj {P:Program} {gl:ai} {f:FuncId} {fn:Func} {c:Code} {T:Tab} {L:iU} (hn:Oper→Nat) (hf:P.funcs[f]?=some fn) (hb:fn.body=some c) (hd:bq fn.ntmps c=true) {args:List PV} (hsz:args.length≤fn.ntmps) {H:aa} {K:PV→aa→Prop}
  (hT:aV P gl T) (hL:LOk P gl fn.ntmps c [] L) (h:wpc br P gl T L hn c [] (lQ args) H (q5 P fn.results.toList K)):af P gl f args H K:=
 j7 hf hb hd hsz ((cP hT c [] hL _ _ _ h).mono fun _ _ _ k=>k)
def lD (e e1:Env):Prop:=∀ t,e1 t=e t∨e1 t = .any
theorem St.weaken [Dfr] {gl:ai} {n:Nat} {g:Gh} {e e1:Env} {H:aa} {a:Act} {w:World} (h:St gl n g e H a w) (he:lD e e1):St gl n g e1 H a w:=by
 obtain⟨h1,h2,h3,h4⟩:=h
 refine⟨h1,h2,⟨h3.1,fun t=>?_⟩,h4⟩
 rcases he t with k|k<;>rw[k]
 ·exact h3.2 t
 ·exact .any _
theorem AW.weaken [Dfr] {P:Program} {gl:ai} {n:Nat} {c:Code} {Q:Ex→Env→aa→Prop} {e:Env} {H:aa} (h:AW P gl n c (fun ex e' H'=>∃ e1,lD e' e1∧Q ex e1 H') e H):AW P gl n c Q e H:=by
 intro hd g a w hst
 refine wp_mono (h hd g a w hst) ?_
 rintro ex a' w' ⟨ex',g',e',H',k0,k1,k2,e1,k3,k4⟩
 exact⟨ex',g',e1,H',k0,k1.weaken k3,k2,k4⟩
theorem AW.of_le [Dfr] {P:Program} {gl:ai} {n:Nat} {c:Code} {Q:Ex→Env→aa→Prop} {e e1:Env} {H:aa} (he:lD e e1) (h:AW P gl n c Q e1 H):AW P gl n c Q e H:=
 fun hd g a w hst=>h hd g a w (hst.weaken he)
def vT (e:Env) (H:aa):Prop:=(∀ t,Low H.length (e t))∧∀(o:Nat) cs,H[o]?=some (.cells cs)→∀ x∈cs,Low H.length x
theorem oF [Dfr] {P:Program} {gl:ai} {n:Nat} {x:Code} {Q:Ex→Env→aa→Prop} {e:Env} {H:aa} {σ:Type} (I:σ→Prop) (E:σ→Env) (Hp:σ→aa) (m:σ→Nat) (s0:σ) (h0:I s0) (he:lD e (E s0)) (hH:H=Hp s0)
  (round:∀ s,I s→AW P gl n x (fun ex e' H'=>match ex with
   | .normal=>∃ s',m s'<m s∧I s'∧e'=E s'∧H'=Hp s'
   | .exit i=>Q (.exit i) e' H'
   | .ret=>Q .ret e' H') (E s) (Hp s)):AW P gl n (.loop x) Q e H:=by
 subst hH
 refine AW.of_le he ?_
 refine AW.mono (Q:=post P gl n (.fin Q)) ?_ fun ex e H k=>k
 refine rT (fun k e H=>∃ s,k=m s∧I s∧e=E s∧H=Hp s) (m s0) ⟨s0,rfl,h0,rfl,rfl⟩ ?_
 rintro k e1 H1 ⟨s,rfl,hI,rfl,rfl⟩
 refine(round s hI).mono fun ex e' H' h=>?_
 cases ex with
 | normal=>
  obtain⟨s',h1,h2,h3,h4⟩:=h
  exact⟨m s',h1,s',rfl,h2,h3,h4⟩
 | exit i=>exact h
 | ret=>exact h
def aE (H X:aa):Prop:=H=X
def ag (xs ys:List PV):Prop:=xs=ys
structure Holds (p:Prop):Prop where
 out:p
theorem tI {p q:Prop} (e:p=q) (h:p):Holds q:=⟨e▸h⟩
def aj:List Nat→List PV→Env
 | t::ts,v::vs=>fun k=>match k == t with
  | true=>v
  | false=>aj ts vs k
 | _,_=>fun _=> .any
theorem cf (e:Env):∀(ts:List Nat),lD e (aj ts (ts.map e))
 | []=>fun t=> .inr rfl
 | t::ts=>fun k=>by
  simp only[List.map_cons,aj]
  cases h:k == t with
  | true=>exact .inl (by rw[show k=t by simpa using h])
  | false=>exact cf e ts k
theorem li:∀(ts:List Nat) (vs:List PV) (k:Nat),aj ts vs k∈vs∨aj ts vs k = .any
 | t::ts,v::vs,k=>by
  simp only[aj]
  cases k == t with
  | true=>exact .inl List.mem_cons_self
  | false=>exact(li ts vs k).imp (List.mem_cons_of_mem _) id
 | [],_,_=> .inr (by unfold aj; rfl)
 | _::_,[],_=> .inr (by unfold aj; rfl)
theorem qi {n:Nat} {ts:List Nat} {vs:List PV} (h:∀ v∈vs,Low n v) (k:Nat):Low n (aj ts vs k):=by
 rcases li ts vs k with h1|h1
 ·exact h _ h1
 ·rw[h1]; exact .any
theorem pC [Dfr] {P:Program} {gl:ai} (hgl:az gl) {n:Nat} {x:Code} {Q:Ex→Env→aa→Prop} {e:Env} {H:aa} {σ:Type} (slots:List Nat) (I:σ→Prop) (V:σ→List PV) (Hp:σ→aa) (m:σ→Nat) (s0:σ)
  (h0:I s0) (he:slots.map e=V s0) (hH:H=Hp s0)
  (round:∀ s,I s→AW P gl n x (fun ex e' H'=>match ex with
   | .normal=>∃ s' G,m s'<m s∧I s'∧slots.map e'=V s'∧H'=Hp s'++G∧(Hp s).length≤(Hp s').length∧(G=[]∨((∀ v∈V s',Low (Hp s').length v)∧∀(o:Nat) cs,(Hp s')[o]?=some (.cells cs)→∀ x∈cs,Low (Hp s').length x))
   | .exit i=>Q (.exit i) (aj slots (slots.map e')) H'
   | .ret=>Q .ret (aj slots (slots.map e')) H') (aj slots (V s)) (Hp s)):AW P gl n (.loop x) Q e H:=by
 refine oF (σ:=σ) I (fun s=>aj slots (V s)) Hp m s0 h0 (by rw[← he]; exact cf e slots) hH fun s hI=>?_
 have key:AW P gl n x (fun ex e' H'=>match ex with
   | .normal=>∃ s',m s'<m s∧I s'∧(∃ G,slots.map e'=V s'∧H'=Hp s'++G∧(Hp s).length≤(Hp s').length∧(G=[]∨((∀ v∈V s',Low (Hp s').length v)∧∀(o:Nat) cs,(Hp s')[o]?=some (.cells cs)→∀ x∈cs,Low (Hp s').length x)))
   | .exit i=>Q (.exit i) (aj slots (slots.map e')) H'
   | .ret=>Q .ret (aj slots (slots.map e')) H') (aj slots (V s)) (Hp s):=(round s hI).mono fun ex e' H' h=>by
  cases ex with
  | normal=>obtain⟨s',G,h1,h2,h3⟩:=h; exact⟨s',h1,h2,G,h3⟩
  | exit i=>exact h
  | ret=>exact h
 intro hd g a w hst
 refine wp_mono (key hd g a w hst) ?_
 rintro ex a' w' ⟨ex',g',e',H',k0,k1,k2,k4⟩
 cases ex' with
 | exit i=>exact⟨.exit i,g',_,H',k0,k1.weaken (cf e' slots),k2,k4⟩
 | ret=>exact⟨.ret,g',_,H',k0,k1.weaken (cf e' slots),k2,k4⟩
 | normal=>
  obtain⟨s',h1,h2,G,h3,rfl,h5,h6⟩:=k4
  have k5:=k1.weaken (cf e' slots)
  rw[h3] at k5
  rcases h6 with rfl|⟨h6,h7⟩
  ·rw[List.append_nil] at k5 k2
   exact⟨.normal,g',_,_,k0,k5,k2,s',h1,h2,rfl,rfl⟩
  ·have hlow:vT (aj slots (V s')) (Hp s'):=⟨fun t=>qi h6 t,h7⟩
   have hS':=k5.sim
   refine⟨.normal,g'.cutAt (Hp s').length,_,Hp s',k0,⟨?_,?_,⟨k5.env.1,fun t=>(k5.env.2 t).cutAt (hlow.1 t)⟩,k5.dfr⟩,?_,s',h1,h2,rfl,rfl⟩
   ·refine⟨rfl,fun o o' ob ob' b h1 h2=>by rw[g6]; exact hS'.inj o o' ob ob' b (bp h1) (bp h2),fun o cs h1=>?_,fun o h1=>hS'.tok o (bp h1),hS'.imm,fun o r h1=>hS'.abs o r (bp h1)⟩
    obtain⟨⟨C,ty,e1,e2⟩,e3⟩:=hS'.cells o cs (bp h1)
    exact⟨⟨C,ty,e1,e2.1,fun q y u hy hu=>(e2.2 q y u hy hu).cutAt (hlow.2 o cs h1 y (List.mem_iff_getElem?.2 ⟨q,hy⟩))⟩,e3⟩
   ·intro k cs hk
    refine⟨(k5.glob k cs hk).1,fun q x hx=>?_⟩
    obtain⟨h1,c,h2,h3⟩:=(k5.glob k cs hk).2 q x hx
    refine⟨h1,c,h2,h3.cutAt ?_⟩
    have hz:=hgl k cs hk x (List.mem_iff_getElem?.2 ⟨q,hx⟩)
    exact hz.up
   ·have hn:g.n=(Hp s).length:=hst.sim.n
    refine⟨⟨by rw[hn]; exact h5,k2.gx.bk,k2.gx.en,k2.gx.sz,k2.gx.imm,k2.gx.cell⟩,k2.size,fun b hb ho=>?_,k2.frame,k2.os,k2.tape,k2.output,k2.im⟩
    obtain⟨o,ob,j1,j2,j3⟩:=ho
    rw[g6] at j3
    exact k2.ow b hb ⟨o,ob,bp j1,j2,j3⟩
def vr {σ:Type} (Q:Ex→Env→aa→Prop) (slots:List Nat) (I:σ→Prop) (V:σ→List PV) (Hp:σ→aa) (m:σ→Nat) (s:σ):Ex→List PV→aa→Prop:=fun ex vs H'=>match ex with
 | .normal=>∃ s',m s'<m s∧I s'∧vs=V s'∧∃ G,H'=Hp s'++G∧(Hp s).length≤(Hp s').length∧(G=[]∨((∀ v∈V s',Low (Hp s').length v)∧∀(o:Nat) cs,(Hp s')[o]?=some (.cells cs)→∀ x∈cs,Low (Hp s').length x))
 | .exit i=>Q (.exit i) (aj slots vs) H'
 | .ret=>Q .ret (aj slots vs) H'
theorem aZ [Dfr] {P:Program} {gl:ai} (hgl:az gl) {n:Nat} {T:Tab} (hT:aV P gl T) {L:iU} {hn:Oper→Nat} {x:Code} (hL:LOk P gl n x [] L) {Q:Ex→Env→aa→Prop} {e:Env} {H:aa} {σ:Type} (slots:List Nat) (I:σ→Prop) (V:σ→List PV) (Hp:σ→aa) (m:σ→Nat) (s0:σ)
  (h0:I s0) (he:slots.map e=V s0) (hH:H=Hp s0)
  (round:∀ s,I s→Holds (wpc br P gl T L hn x [] (aj slots (V s)) (Hp s) (fun ex e' H'=>vr Q slots I V Hp m s ex (slots.map e') H'))):AW P gl n (.loop x) Q e H:=by
 refine pC hgl slots I V Hp m s0 h0 he hH fun s hI=>(cP hT x [] hL _ _ _ (round s hI).out).mono fun ex e' H' h=>?_
 cases ex with
 | normal=>obtain⟨s',h1,h2,h3,G,h4⟩:=h; exact⟨s',G,h1,h2,h3,h4⟩
 | exit i=>exact h
 | ret=>exact h
theorem kL {n:Nat} {k:IntKind} {a:Int}:Low n (.int k a)↔True:=⟨fun _=>trivial,fun _=> .int _ _⟩
theorem jz {P:Program} {gl:ai} (hgl:az gl) {f:FuncId} {args:List PV} {r:PV} {K:PV→Prop} (ha:∀ x∈args,Low 0 x) (hr:Low 0 r) (h:af P gl f args [] (fun x _=>x=r)) (hk:K r):∃ r,jd P gl f args r∧K r:=
 ⟨r,.alone hgl ha hr h,hk⟩
theorem wrap_i64 {n:Int} (h1: -9223372036854775808≤n) (h2:n≤9223372036854775807):IntKind.wrap .i64 n=n:=by
 simp only[IntKind.wrap,IntKind.bits,IntKind.signed]; simp; omega
theorem wrap_u64 {n:Int} (h1:0≤n) (h2:n<18446744073709551616):IntKind.wrap .u64 n=n:=by
 simp only[IntKind.wrap,IntKind.bits,IntKind.signed]; simp; omega
theorem wrap_u32 {n:Int} (h1:0≤n) (h2:n<4294967296):IntKind.wrap .u32 n=n:=by
 simp only[IntKind.wrap,IntKind.bits,IntKind.signed]; simp; omega
theorem aI (b:Bool) (X Y:Prop):br b X Y=if b=true then X else Y:=by cases b<;>rfl
def ar (fn:Func):Code:=fn.body.getD .skip
def aL (p:List Nat) (c:Code):Code:=match sub p c with
 | some (.loop x)=>x
 | _=> .skip
theorem vp {p:List Nat} {c:Code} (h:(match sub p c with|some (.loop _)=>true|_=>false)=true):sub p c=some (.loop (aL p c)):=by
 unfold aL
 split at h
 ·rename_i x hx; rw[hx]
 ·cases h
theorem iM {P:Program} {gl:ai} {f:FuncId} {fn:Func} {T:Tab} {L:iU} (hn:Oper→Nat) (hf:P.funcs[f]?=some fn) (hb:fn.body.isSome=true) (hd:bq fn.ntmps (ar fn)=true) {args:List PV} (hsz:Nat.ble args.length fn.ntmps=true) {H:aa} {K:PV→aa→Prop}
  (hT:aV P gl T) (hL:LOk P gl fn.ntmps (ar fn) [] L) (h:Holds (wpc br P gl T L hn (ar fn) [] (lQ args) H (q5 P fn.results.toList K))):af P gl f args H K:=
 jj hn hf (by unfold ar; cases hq:fn.body with
  | none=>rw[hq] at hb; cases hb
  | some c=>rfl) hd (Nat.le_of_ble_eq_true hsz) hT hL h.out
theorem nN:az (fun _=>none):=fun k cs h=>by cases h
theorem acW {P:Program} {gl:ai} {f:FuncId} {fn:Func} {T:Tab} {L:iU} (hn:Oper→Nat) (hf:P.funcs[f]?=some fn) {args:List PV} {H:aa} {K:PV→aa→Prop} {p:Prop}
  (hT:aV P gl T) (hL:LOk P gl fn.ntmps (ar fn) [] L) (h:p) (hb:fn.body.isSome=true:=by kernel_rfl) (hd:bq fn.ntmps (ar fn)=true:=by kernel_rfl) (hsz:Nat.ble args.length fn.ntmps=true:=by kernel_rfl) (e:p=wpc br P gl T L hn (ar fn) [] (lQ args) H (q5 P fn.results.toList K):=by kernel_rfl):af P gl f args H K:=
 iM hn hf hb hd hsz hT hL ⟨e▸h⟩
theorem hoE {p q:Prop} (h:p) (e:p=q:=by kernel_rfl):Holds q:=⟨e▸h⟩
theorem suE {p:List Nat} {c:Code} (h:(match sub p c with|some (.loop _)=>true|_=>false)=true:=by kernel_rfl):sub p c=some (.loop (aL p c)):=vp h
def en1 (k:IntKind) (ns:List Int):List (List PV):=ns.map fun n=>[PV.int k n]
theorem bE (k:IntKind) (ns:List Int):(en1 k ns).length=ns.length:=by simp[en1]
theorem dk (k:IntKind) (ns:List Int):(en1 k ns).flatten=ns.map (PV.int k):=by
 induction ns with
 | nil=>rfl
 | cons n ns ih=>simp only[en1,List.map_cons,List.flatten_cons] at ih ⊢; rw[ih]; rfl
theorem lW (k:IntKind) (ns ms:List Int):en1 k ns++en1 k ms=en1 k (ns++ms):=by simp[en1]
theorem g5 {n:Nat} (k:IntKind) (ns:List Int):∀ x∈(en1 k ns).flatten,Low n x:=by
 rw[dk]; intro x hx
 simp only[List.mem_map] at hx
 obtain⟨m,_,rfl⟩:=hx
 exact .int _ _
theorem oW {n:Nat} (k:IntKind) (ns:List Int):∀ x∈ns.map (PV.int k),Low n x:=by
 intro x hx
 simp only[List.mem_map] at hx
 obtain⟨m,_,rfl⟩:=hx
 exact .int _ _
def NT (t:Tail):Prop:=∀ o,t ≠ .tok o
theorem NT.no:NT .no:=fun _ h=>by cases h
theorem NT.exact:NT .exact:=fun _ h=>by cases h
theorem bh {n:Nat} {es:List (List PV)} {t:Tail} (ht:NT t) (h:∀ x∈es.flatten,Low n x):Low n (.list es t):= .list _ _ (fun o e=>absurd e (ht o)) h
theorem bg {n:Nat} {ns:List Int} {k:IntKind} {t:Tail} (ht:NT t):Low n (.list (en1 k ns) t):=bh ht (g5 k ns)
def mB (n0:Nat) (ρ:Nat→Nat) (x' x:PV):Prop:=
 (x'=x∧Low n0 x)∨∃ es o,x = .list es (.tok o)∧x' = .list es (.tok (ρ o))∧n0≤o∧∀ y∈es.flatten,Low n0 y
structure Relab (n0:Nat) (vs':List PV) (H':aa) (vs:List PV) (H:aa):Prop where
 len:n0≤H.length
 base:∀ o,o<n0→H[o]?=H'[o]?∧∀ cs,H[o]?=some (.cells cs)→∀ x∈cs,Low n0 x
 ex:∃ ρ:Nat→Nat,(∀ o,n0≤o→o<H.length→n0≤ρ o∧H[o]?=some .tok∧H'[ρ o]?=some .tok)∧(∀ o o',n0≤o→o<H.length→n0≤o'→o'<H.length→ρ o=ρ o'→o=o')∧
  vs'.length=vs.length∧(∀(q:Nat) (x' x:PV),vs'[q]?=some x'→vs[q]?=some x→mB n0 ρ x' x)∧∀(q:Nat) (es:List (List PV)) (o:Nat),vs[q]?=some (PV.list es (.tok o))→o<H.length
theorem St.vz [Dfr] {gl:ai} (hgl:az gl) {n:Nat} {g0 g:Gh} {H0 H' H:aa} {w0 w:World} {slots:List Nat} {vs' vs:List PV} {a:Act} (hst:St gl n g (aj slots vs') H' a w) (hx:Ext g0 H0 w0 g H' w) (hn:g0.n=H0.length)
  (hr:Relab H0.length vs' H' vs H):∃ g3,St gl n g3 (aj slots vs) H a w∧Ext g0 H0 w0 g3 H w:=by
 obtain⟨hlen,hbase,ρ,hρ,hinj,hvl,hv,hvt⟩:=hr
 have hS:=hst.sim
 have hn0:H0.length≤g.n:=by rw[← hn]; exact hx.gx.n
 let τ:Nat→Nat:=fun o=>if o<H0.length then o else ρ o
 have hτ:∀(o:Nat) ob,H[o]?=some ob→H'[τ o]?=some ob:=by
  intro o ob ho
  by_cases h:o<H0.length
  ·simp only[τ,if_pos h]; rw[← (hbase o h).1]; exact ho
  ·have hlt:=(List.getElem?_eq_some_iff.1 ho).1
   obtain⟨_,h2,h3⟩:=hρ o (by omega) hlt
   simp only[τ,if_neg h]
   rw[h2] at ho; cases ho; exact h3
 let g3:Gh:=⟨H.length,fun o=>g.bk (τ o),fun o=>g.en (τ o),fun o=>g.sz (τ o),g.imm,fun o=>g.fp (τ o)⟩
 have hb3:∀ ob o b,blk g3 ob o b=blk g ob (τ o) b:=fun ob o b=>by cases ob<;>rfl
 have hτ0:∀ o,o<H0.length→τ o=o:=fun o h=>by simp only[τ,if_pos h]
 have gx0:aQ (g.cutAt H0.length) w g3 w:=
  ⟨hlen,fun o ho=>by show g.bk (τ o)=_; rw[hτ0 o ho]; rfl,fun o ho=>by show g.en (τ o)=_; rw[hτ0 o ho]; rfl,fun o ho=>by show g.sz (τ o)=_; rw[hτ0 o ho]; rfl,fun _ _ h=>h,fun _ _ _=>rfl⟩
 have up:∀ {x:PV} {v:Value},Rel g w x v→Low H0.length x→Rel g3 w x v:=fun h hl=>(h.cutAt hl).mono gx0
 refine⟨g3,⟨?_,?_,⟨hst.env.1,fun t=>?_⟩,hst.dfr⟩,?_⟩
 ·refine⟨rfl,fun o o' ob ob' b h1 h2 h3 h4 h5 h6=>?_,fun o cs h1=>?_,fun o h1=>?_,hS.imm,fun o r h1=>hS.abs (τ o) r (hτ o _ h1)⟩
  ·rw[hb3] at h5 h6
   have e:=hS.inj (τ o) (τ o') ob ob' b (hτ o ob h1) (hτ o' ob' h2) h3 h4 h5 h6
   have l1:=(List.getElem?_eq_some_iff.1 h1).1
   have l2:=(List.getElem?_eq_some_iff.1 h2).1
   by_cases c1:o<H0.length<;>by_cases c2:o'<H0.length<;>simp only[τ,c1,c2,if_true,if_false] at e
   ·exact e
   ·have:=(hρ o' (by omega) l2).1; omega
   ·have:=(hρ o (by omega) l1).1; omega
   ·exact hinj o o' (by omega) l1 (by omega) l2 e
  ·have c1:o<H0.length:=by
    rcases Nat.lt_or_ge o H0.length with h|h
    ·exact h
    ·have l1:=(List.getElem?_eq_some_iff.1 h1).1
     rw[(hρ o h l1).2.1] at h1; cases h1
   have h2:=hτ o _ h1
   obtain⟨⟨C,ty,e1,e2⟩,e3⟩:=hS.cells (τ o) cs h2
   exact⟨⟨C,ty,e1,e2.1,fun q y u hy hu=>up (e2.2 q y u hy hu) ((hbase o c1).2 cs h1 y (List.mem_iff_getElem?.2 ⟨q,hy⟩))⟩,e3⟩
  ·exact hS.tok (τ o) (hτ o _ h1)
 ·intro k cs hk
  refine⟨(hst.glob k cs hk).1,fun q x hq=>?_⟩
  obtain⟨h1,c,h2,h3⟩:=(hst.glob k cs hk).2 q x hq
  exact⟨h1,c,h2,up h3 (hgl k cs hk x (List.mem_iff_getElem?.2 ⟨q,hq⟩)).up⟩
 ·
  have key:∀(ts:List Nat) (us' us:List PV),us'.length=us.length→(∀(q:Nat) (x' x:PV),us'[q]?=some x'→us[q]?=some x→mB H0.length ρ x' x)→(∀(q:Nat) (es:List (List PV)) (o:Nat),us[q]?=some (PV.list es (.tok o))→o<H.length)→
    (∀ v,Rel g w (aj ts us' t) v→Rel g3 w (aj ts us t) v):=by
   intro ts
   induction ts with
   | nil=>intro us' us _ _ _ v h; unfold aj at h ⊢; exact .any v
   | cons k ts ih=>
    intro us' us hl hu ht v h
    cases us' with
    | nil=>
     cases us with
     | nil=>unfold aj; exact .any v
     | cons _ _=>simp at hl
    | cons x' us'=>
     cases us with
     | nil=>simp at hl
     | cons x us=>
      simp only[aj] at h ⊢
      cases hk:t == k with
      | true=>
       rw[hk] at h
       simp only at h ⊢
       rcases hu 0 x' x rfl rfl with⟨rfl,hlow⟩|⟨es,o,rfl,rfl,ho,hlow⟩
       ·exact up h hlow
       ·have hol:=ht 0 es o rfl
        obtain⟨a',cap,rfl,h1,h2,h3,h4⟩:=Rel.an.1 h
        refine Rel.an.2 ⟨a',cap,rfl,h1,h2,?_,?_⟩
        ·obtain⟨k1,A,s,k2,k3,k4,k5,k6,k7,k8⟩:=h3
         have e:τ o=ρ o:=by simp only[τ]; rw[if_neg (by omega)]
         refine⟨hol,A,s,k2,k3,?_,?_,k6,k7,?_⟩
         ·show _=g.bk (τ o); rw[e]; exact k4
         ·show _=g.en (τ o); rw[e]; exact k5
         ·show _≤g.sz (τ o); rw[e]; exact k8
        ·refine h4.imp id ?_
         rintro⟨A,k1,k2,k3⟩
         refine⟨A,k1,k2,fun q x hq=>?_⟩
         obtain⟨j1,c,j2,j3⟩:=k3 q x hq
         exact⟨j1,c,j2,up j3 (hlow x (List.mem_iff_getElem?.2 ⟨q,hq⟩))⟩
      | false=>
       rw[hk] at h
       simp only at h ⊢
       exact ih us' us (by simpa using hl) (fun q y' y h1 h2=>hu (q+1) y' y (by simpa using h1) (by simpa using h2)) (fun q es o h1=>ht (q+1) es o (by simpa using h1)) v h
  exact key slots vs' vs hvl hv hvt _ (hst.env.2 t)
 ·refine⟨⟨by rw[hn]; exact hlen,fun o ho=>?_,fun o ho=>?_,fun o ho=>?_,hx.gx.imm,hx.gx.cell⟩,hx.size,fun b hb ho=>?_,hx.frame,hx.os,hx.tape,hx.output,hx.im⟩
  ·show g.bk (τ o)=_; rw[hτ0 o (by rw[← hn]; exact ho)]; exact hx.gx.bk o ho
  ·show g.en (τ o)=_; rw[hτ0 o (by rw[← hn]; exact ho)]; exact hx.gx.en o ho
  ·show g.sz (τ o)=_; rw[hτ0 o (by rw[← hn]; exact ho)]; exact hx.gx.sz o ho
  ·obtain⟨o,ob,k1,k2,k3⟩:=ho
   rw[hb3] at k3
   exact hx.ow b hb ⟨τ o,ob,hτ o ob k1,k2,k3⟩
def Wk (x x':PV):Prop:=∀(g:Gh) (w:World) (v:Value),Rel g w x v→Rel g w x' v
theorem Wk.refl (x:PV):Wk x x:=fun _ _ _ h=>h
theorem Wk.list (es:List (List PV)) (t:Tail):Wk (.list es t) (.list es .no):=by
 intro g w v h
 obtain⟨a,cap,rfl,h1,h2,_,h4⟩:=Rel.an.1 h
 exact Rel.an.2 ⟨a,cap,rfl,h1,h2,trivial,h4⟩
inductive WkL:List PV→List PV→Prop where
 | nil:WkL [] []
 | cons {x x':PV} {xs xs':List PV} (h:Wk x x') (hs:WkL xs xs'):WkL (x::xs) (x'::xs')
theorem WkL.rel {xs xs':List PV} (h:WkL xs xs') {g:Gh} {w:World} {vs:List Value} (hr:aq g w xs vs):aq g w xs' vs:=by
 induction h generalizing vs with
 | nil=>exact hr
 | cons h hs ih=>
  cases vs with
  | nil=>have:=hr.1; simp at this
  | cons v vs=>
   refine .cons (h g w v (hr.2 0 _ _ rfl rfl)) (ih ⟨by have:=hr.1; simpa using this,fun q x u h1 h2=>hr.2 (q+1) x u (by simpa using h1) (by simpa using h2)⟩)
theorem Wk.tup {xs xs':List PV} (h:WkL xs xs'):Wk (.tup xs) (.tup xs'):=by
 intro g w v hr
 obtain⟨vs,rfl,h1⟩:=Rel.bJ.1 hr
 exact Rel.bJ.2 ⟨vs,rfl,h.rel h1⟩
theorem Wk.agg {xs xs':List PV} (h:WkL xs xs'):Wk (.agg xs) (.agg xs'):=by
 intro g w v hr
 obtain⟨vs,rfl,h1⟩:=Rel.aP.1 hr
 exact Rel.aP.2 ⟨vs,rfl,h.rel h1⟩
theorem bD {P:Program} {gl:ai} {f:FuncId} {args:List PV} {H:aa} {K:PV→aa→Prop} (h:af P gl f args H (fun x H'=>∃ x',Wk x x'∧K x' H')):af P gl f args H K:=by
 intro g w vs hS hG hR
 refine(h g w vs hS hG hR).mono ?_
 rintro e w' ⟨v,g',H',x,rfl,hS',hX,hr,x',hw,hk⟩
 exact⟨v,g',H',x',rfl,hS',hX,hw _ _ _ hr,hk⟩
inductive RVs (n0 k:Nat):List PV→List PV→Prop where
 | nil:RVs n0 k [] []
 | same {x:PV} {xs xs':List PV} (h:Low n0 x) (hs:RVs n0 k xs' xs):RVs n0 k (x::xs') (x::xs)
 | row {es:List (List PV)} {xs xs':List PV} (h:∀ y∈es.flatten,Low n0 y) (hs:RVs n0 k xs' xs):RVs n0 k (.list es (.tok k)::xs') (.list es (.tok n0)::xs)
theorem RVs.len {n0 k:Nat} {xs' xs:List PV} (h:RVs n0 k xs' xs):xs'.length=xs.length:=by
 induction h with
 | nil=>rfl
 | same _ _ ih=>simp[ih]
 | row _ _ ih=>simp[ih]
theorem RVs.get {n0 k:Nat} {xs' xs:List PV} (h:RVs n0 k xs' xs):∀(q:Nat) (x' x:PV),xs'[q]?=some x'→xs[q]?=some x→mB n0 (fun _=>k) x' x:=by
 induction h with
 | nil=>intro q x' x h1; simp at h1
 | same hl _ ih=>
  intro q x' x h1 h2
  cases q with
  | zero=>simp at h1 h2; subst h1; subst h2; exact .inl ⟨rfl,hl⟩
  | succ q=>exact ih q x' x (by simpa using h1) (by simpa using h2)
 | row hl _ ih=>
  intro q x' x h1 h2
  cases q with
  | zero=>simp at h1 h2; subst h1; subst h2; exact .inr ⟨_,n0,rfl,rfl,Nat.le_refl _,hl⟩
  | succ q=>exact ih q x' x (by simpa using h1) (by simpa using h2)
theorem RVs.tok {n0 k:Nat} {xs' xs:List PV} (h:RVs n0 k xs' xs):∀(q:Nat) (es:List (List PV)) (o:Nat),xs[q]?=some (.list es (.tok o))→o<n0+1:=by
 induction h with
 | nil=>intro q es o h1; simp at h1
 | same hl _ ih=>
  intro q es o h1
  cases q with
  | zero=>
   simp at h1; subst h1
   cases hl with
   | list _ _ ht _=>have:=ht o rfl; omega
  | succ q=>exact ih q es o (by simpa using h1)
 | row hl _ ih=>
  intro q es o h1
  cases q with
  | zero=>simp at h1; obtain⟨_,h1⟩:=h1; omega
  | succ q=>exact ih q es o (by simpa using h1)
theorem relab_row {n0 k:Nat} {B X:aa} {vs' vs:List PV} (hB:B.length=n0) (hlow:∀(o:Nat) cs,B[o]?=some (.cells cs)→∀ x∈cs,Low n0 x) (hk:n0≤k) (hX:(B++X)[k]?=some .tok) (hv:RVs n0 k vs' vs):
  Relab n0 vs' (B++X) vs (B++[.tok]):=by
 refine⟨by simp; omega,fun o ho=>?_,fun _=>k,fun o h1 h2=>?_,fun o o' h1 h2 h3 h4 _=>?_,hv.len,hv.get,fun q es o h=>?_⟩
 ·have e1:(B++[Ob.tok])[o]?=B[o]?:=List.getElem?_append_left (by omega)
  have e2:(B++X)[o]?=B[o]?:=List.getElem?_append_left (by omega)
  rw[e1,e2]
  exact⟨rfl,fun cs hc=>hlow o cs hc⟩
 ·simp at h2
  have:o=B.length:=by omega
  subst this
  exact⟨hk,by simp,hX⟩
 ·simp at h2 h4; omega
 ·have:=hv.tok q es o h
  simp; omega
theorem aC (i:Nat):Int.toNat (i:Int)=i:=rfl
theorem nO {α:Type} {T:List α} {i:Nat} (d:α) (h:i<T.length):T.take (i+1)=T.take i++[T.getD i d]:=by
 rw[List.take_succ_eq_append_getElem h,List.getD_eq_getElem?_getD,List.getElem?_eq_getElem h]; rfl
end Go.AM
namespace Go.AM
open Go Go.RowKit
variable {P:Program} {k:Nat} {t:TypeId} {xs:List PV} {x:PV}
theorem rf {kd:IntKind} (hu:P.underlying t=some (.int kd)) (h:WTp P (k+1) t xs):∃ n,xs=[.int kd n]∧kd.min≤n∧n≤kd.max:=by
 unfold WTp at h; rw[hu] at h; exact h
theorem jS {kd:IntKind} (hu:P.underlying t=some (.int kd)) (h:WTa P (k+1) t x):∃ n,x = .int kd n∧kd.min≤n∧n≤kd.max:=by
 unfold WTa at h; rw[hu] at h
 obtain⟨n,h1,h2⟩:=rf hu h
 exact⟨n,by simpa using h1,h2⟩
theorem mK (h:kw P k [] xs):xs=[]:=h
end Go.AM
namespace Go.AM
open Go
inductive Ren (ρ:Nat→Nat) (n:Nat):PV→PV→Prop where
 | low {x:PV} (h:Low 0 x):Ren ρ n x x
 | arr (o off len cap:Nat) (h:o<n):Ren ρ n (.arr o off len cap) (.arr (ρ o) off len cap)
 | ptr (o off:Nat) (h:o<n):Ren ρ n (.ptr o off) (.ptr (ρ o) off)
 | ltok (es:List (List PV)) (o:Nat) (h:o<n) (hl:∀ x∈es.flatten,Low 0 x):Ren ρ n (.list es (.tok o)) (.list es (.tok (ρ o)))
 | fn (f:Nat) (cs cs':List PV) (hl:cs.length=cs'.length) (h:∀(q:Nat) (x y:PV),cs[q]?=some x→cs'[q]?=some y→Ren ρ n x y):Ren ρ n (.fn f cs) (.fn f cs')
 | agg (cs cs':List PV) (hl:cs.length=cs'.length) (h:∀(q:Nat) (x y:PV),cs[q]?=some x→cs'[q]?=some y→Ren ρ n x y):Ren ρ n (.agg cs) (.agg cs')
 | tup (cs cs':List PV) (hl:cs.length=cs'.length) (h:∀(q:Nat) (x y:PV),cs[q]?=some x→cs'[q]?=some y→Ren ρ n x y):Ren ρ n (.tup cs) (.tup cs')
inductive aJ (ρ:Nat→Nat) (n:Nat):List PV→List PV→Prop where
 | nil:aJ ρ n [] []
 | cons {x y:PV} {xs ys:List PV} (h:Ren ρ n x y) (hs:aJ ρ n xs ys):aJ ρ n (x::xs) (y::ys)
theorem aJ.length {ρ:Nat→Nat} {n:Nat} {xs ys:List PV} (h:aJ ρ n xs ys):xs.length=ys.length:=by
 induction h with
 | nil=>rfl
 | cons _ _ ih=>simp[ih]
theorem aJ.get {ρ:Nat→Nat} {n:Nat} {xs ys:List PV} (h:aJ ρ n xs ys):∀(q:Nat) (x y:PV),xs[q]?=some x→ys[q]?=some y→Ren ρ n x y:=by
 induction h with
 | nil=>intro q x y h; simp at h
 | cons h _ ih=>
  intro q x y h1 h2
  cases q with
  | zero=>simp at h1 h2; subst h1; subst h2; exact h
  | succ q=>exact ih q x y (by simpa using h1) (by simpa using h2)
theorem aJ.low {ρ:Nat→Nat} {n:Nat} {xs:List PV} (h:∀ x∈xs,Low 0 x):aJ ρ n xs xs:=by
 induction xs with
 | nil=>exact .nil
 | cons x xs ih=>exact .cons (.low (h x List.mem_cons_self)) (ih fun y hy=>h y (List.mem_cons_of_mem _ hy))
theorem aJ.append {ρ:Nat→Nat} {n:Nat} {xs ys xs' ys':List PV} (h:aJ ρ n xs ys) (h':aJ ρ n xs' ys'):aJ ρ n (xs++xs') (ys++ys'):=by
 induction h with
 | nil=>exact h'
 | cons h _ ih=>exact .cons h ih
theorem Ren.vP {ρ:Nat→Nat} {n:Nat} {xs ys:List PV} (h:aJ ρ n xs ys):Ren ρ n (.tup xs) (.tup ys):= .tup xs ys h.length h.get
theorem Ren.rH {ρ:Nat→Nat} {n:Nat} {xs ys:List PV} (h:aJ ρ n xs ys):Ren ρ n (.agg xs) (.agg ys):= .agg xs ys h.length h.get
structure Seen (ρ:Nat→Nat) (n:Nat) (g0 g:Gh):Prop where
 n0:g0.n=n
 lt:∀ o,o<n→ρ o<g.n
 bk:∀ o,o<n→g0.bk o=g.bk (ρ o)
 en:∀ o,o<n→g0.en o=g.en (ρ o)
 sz:∀ o,o<n→g0.sz o=g.sz (ρ o)
 imm:g0.imm=g.imm
theorem cF {g g':Gh} {w:World} {x:PV} {v:Value} (h:Rel g w x v) (hl:Low 0 x) (hi:g'.imm=g.imm):Rel g' w x v:=
 Rel.mono (g:=g.cutAt 0) (w:=w) ⟨Nat.zero_le _,fun _ h=>absurd h (Nat.not_lt_zero _),fun _ h=>absurd h (Nat.not_lt_zero _),fun _ h=>absurd h (Nat.not_lt_zero _),fun b q h=>by rw[hi]; exact h,fun _ _ _=>rfl⟩ (h.cutAt hl)
theorem Ren.to {ρ:Nat→Nat} {n:Nat} {x y:PV} (hr:Ren ρ n x y) {g0 g:Gh} {w:World} (hs:Seen ρ n g0 g):∀ {v:Value},Rel g0 w x v→Rel g w y v:=by
 induction hr with
 | low h=>intro v hv; exact cF hv h hs.imm.symm
 | arr o off len cap h=>
  intro v hv
  cases hv
  rw[hs.bk o h]; exact .arr _ off len cap (hs.lt o h)
 | ptr o off h=>
  intro v hv
  cases hv
  rw[hs.bk o h]; exact .ptr _ off (hs.lt o h)
 | ltok es o h hl=>
  intro v hv
  obtain⟨a,cap,rfl,h1,h2,h3,h4⟩:=Rel.an.1 hv
  refine Rel.an.2 ⟨a,cap,rfl,h1,h2,?_,h4.imp id ?_⟩
  ·obtain⟨_,A,s,k2,k3,k4,k5,k6,k7,k8⟩:=h3
   exact⟨hs.lt o h,A,s,k2,k3,by rw[← hs.bk o h]; exact k4,by rw[← hs.en o h]; exact k5,k6,k7,by rw[← hs.sz o h]; exact k8⟩
  ·rintro⟨A,k1,k2,k3⟩
   refine⟨A,k1,k2,fun q x hq=>?_⟩
   obtain⟨j1,c,j2,j3⟩:=k3 q x hq
   exact⟨by rw[← hs.imm]; exact j1,c,j2,cF j3 (hl x (List.mem_iff_getElem?.2 ⟨q,hq⟩)) hs.imm.symm⟩
 | fn f cs cs' hl _ ih=>
  intro v hv
  obtain⟨vs,rfl,h1⟩:=Rel.dS.1 hv
  refine Rel.dS.2 ⟨vs,rfl,by rw[← hl]; exact h1.1,fun q y u hy hu=>?_⟩
  have hq:q<cs.length:=by rw[hl]; exact(List.getElem?_eq_some_iff.1 hy).1
  exact ih q cs[q] y (List.getElem?_eq_getElem hq) hy (h1.2 q _ u (List.getElem?_eq_getElem hq) hu)
 | agg cs cs' hl _ ih=>
  intro v hv
  obtain⟨vs,rfl,h1⟩:=Rel.aP.1 hv
  refine Rel.aP.2 ⟨vs,rfl,by rw[← hl]; exact h1.1,fun q y u hy hu=>?_⟩
  have hq:q<cs.length:=by rw[hl]; exact(List.getElem?_eq_some_iff.1 hy).1
  exact ih q cs[q] y (List.getElem?_eq_getElem hq) hy (h1.2 q _ u (List.getElem?_eq_getElem hq) hu)
 | tup cs cs' hl _ ih=>
  intro v hv
  obtain⟨vs,rfl,h1⟩:=Rel.bJ.1 hv
  refine Rel.bJ.2 ⟨vs,rfl,by rw[← hl]; exact h1.1,fun q y u hy hu=>?_⟩
  have hq:q<cs.length:=by rw[hl]; exact(List.getElem?_eq_some_iff.1 hy).1
  exact ih q cs[q] y (List.getElem?_eq_getElem hq) hy (h1.2 q _ u (List.getElem?_eq_getElem hq) hu)
theorem Ren.back {ρ:Nat→Nat} {n:Nat} {x y:PV} (hr:Ren ρ n x y) {g0 g:Gh} {w:World} (hs:Seen ρ n g0 g):∀ {v:Value},Rel g w y v→Rel g0 w x v:=by
 induction hr with
 | low h=>intro v hv; exact cF hv h hs.imm
 | arr o off len cap h=>
  intro v hv
  cases hv
  rw[← hs.bk o h]; exact .arr _ off len cap (by rw[hs.n0]; exact h)
 | ptr o off h=>
  intro v hv
  cases hv
  rw[← hs.bk o h]; exact .ptr _ off (by rw[hs.n0]; exact h)
 | ltok es o h hl=>
  intro v hv
  obtain⟨a,cap,rfl,h1,h2,h3,h4⟩:=Rel.an.1 hv
  refine Rel.an.2 ⟨a,cap,rfl,h1,h2,?_,h4.imp id ?_⟩
  ·obtain⟨_,A,s,k2,k3,k4,k5,k6,k7,k8⟩:=h3
   exact⟨by rw[hs.n0]; exact h,A,s,k2,k3,by rw[hs.bk o h]; exact k4,by rw[hs.en o h]; exact k5,k6,k7,by rw[hs.sz o h]; exact k8⟩
  ·rintro⟨A,k1,k2,k3⟩
   refine⟨A,k1,k2,fun q x hq=>?_⟩
   obtain⟨j1,c,j2,j3⟩:=k3 q x hq
   exact⟨by rw[hs.imm]; exact j1,c,j2,cF j3 (hl x (List.mem_iff_getElem?.2 ⟨q,hq⟩)) hs.imm⟩
 | fn f cs cs' hl _ ih=>
  intro v hv
  obtain⟨vs,rfl,h1⟩:=Rel.dS.1 hv
  refine Rel.dS.2 ⟨vs,rfl,by rw[hl]; exact h1.1,fun q y u hy hu=>?_⟩
  have hq:q<cs'.length:=by rw[← hl]; exact(List.getElem?_eq_some_iff.1 hy).1
  exact ih q y cs'[q] hy (List.getElem?_eq_getElem hq) (h1.2 q _ u (List.getElem?_eq_getElem hq) hu)
 | agg cs cs' hl _ ih=>
  intro v hv
  obtain⟨vs,rfl,h1⟩:=Rel.aP.1 hv
  refine Rel.aP.2 ⟨vs,rfl,by rw[hl]; exact h1.1,fun q y u hy hu=>?_⟩
  have hq:q<cs'.length:=by rw[← hl]; exact(List.getElem?_eq_some_iff.1 hy).1
  exact ih q y cs'[q] hy (List.getElem?_eq_getElem hq) (h1.2 q _ u (List.getElem?_eq_getElem hq) hu)
 | tup cs cs' hl _ ih=>
  intro v hv
  obtain⟨vs,rfl,h1⟩:=Rel.bJ.1 hv
  refine Rel.bJ.2 ⟨vs,rfl,by rw[hl]; exact h1.1,fun q y u hy hu=>?_⟩
  have hq:q<cs'.length:=by rw[← hl]; exact(List.getElem?_eq_some_iff.1 hy).1
  exact ih q y cs'[q] hy (List.getElem?_eq_getElem hq) (h1.2 q _ u (List.getElem?_eq_getElem hq) hu)
theorem aJ.to {ρ:Nat→Nat} {n:Nat} {xs ys:List PV} (h:aJ ρ n xs ys) {g0 g:Gh} {w:World} (hs:Seen ρ n g0 g) {vs:List Value} (hr:aq g0 w xs vs):aq g w ys vs:=by
 refine⟨by rw[← h.length]; exact hr.1,fun q y u hy hu=>?_⟩
 have hq:q<xs.length:=by rw[h.length]; exact(List.getElem?_eq_some_iff.1 hy).1
 exact(h.get q xs[q] y (List.getElem?_eq_getElem hq) hy).to hs (hr.2 q _ u (List.getElem?_eq_getElem hq) hu)
theorem aJ.back {ρ:Nat→Nat} {n:Nat} {xs ys:List PV} (h:aJ ρ n xs ys) {g0 g:Gh} {w:World} (hs:Seen ρ n g0 g) {vs:List Value} (hr:aq g w ys vs):aq g0 w xs vs:=by
 refine⟨by rw[h.length]; exact hr.1,fun q y u hy hu=>?_⟩
 have hq:q<ys.length:=by rw[← h.length]; exact(List.getElem?_eq_some_iff.1 hy).1
 exact(h.get q y ys[q] hy (List.getElem?_eq_getElem hq)).back hs (hr.2 q _ u (List.getElem?_eq_getElem hq) hu)
inductive cW (ρ:Nat→Nat) (n:Nat):Ob→Ob→Prop where
 | cells {cs cs':List PV} (h:aJ ρ n cs cs'):cW ρ n (.cells cs) (.cells cs')
 | tok:cW ρ n .tok .tok
 | dead (ob:Ob):cW ρ n .dead ob
 | abs (r:Rep):cW ρ n (.abs r) (.abs r)
theorem cW.alive {ρ:Nat→Nat} {n:Nat} {a b:Ob} (h:cW ρ n a b) (ha:a.alive=true):b.alive=true:=by
 cases h<;>first|rfl|(cases ha; done)
structure Sub (ρ:Nat→Nat) (X H:aa):Prop where
 lt:∀ o,o<X.length→ρ o<H.length
 inj:∀ o o',o<X.length→o'<X.length→ρ o=ρ o'→o=o'
 ob:∀(o:Nat) (a:Ob),X[o]?=some a→∃ b,H[ρ o]?=some b∧cW ρ X.length a b
def Gh.through (g:Gh) (ρ:Nat→Nat) (n:Nat):Gh:=⟨n,fun o=>g.bk (ρ o),fun o=>g.en (ρ o),fun o=>g.sz (ρ o),g.imm,fun o=>g.fp (ρ o)⟩
theorem c9 (g:Gh) (ρ:Nat→Nat) (n:Nat) {N:Nat} {a b:Ob} (h:cW ρ N a b) (ha:a.alive=true) (o k:Nat):blk (g.through ρ n) a o k↔blk g b (ρ o) k:=by
 cases h<;>first|exact Iff.rfl|(cases ha; done)
theorem dN {g:Gh} {ρ:Nat→Nat} {n:Nat} (h:∀ o,o<n→ρ o<g.n):Seen ρ n (g.through ρ n) g:=⟨rfl,h,fun _ _=>rfl,fun _ _=>rfl,fun _ _=>rfl,rfl⟩
theorem Sub.own {ρ:Nat→Nat} {X H:aa} (h:Sub ρ X H) {g:Gh} {b:Nat} (hb:own (g.through ρ X.length) X b):own g H b:=by
 obtain⟨o,a,h1,h2,h3⟩:=hb
 obtain⟨b',k1,k2⟩:=h.ob o a h1
 exact⟨ρ o,b',k1,k2.alive h2,(c9 g ρ _ k2 h2 o b).1 h3⟩
theorem Sub.sim {ρ:Nat→Nat} {X H:aa} (h:Sub ρ X H) {g:Gh} {w:World} (hS:Sim g H w):Sim (g.through ρ X.length) X w:=by
 have hs:Seen ρ X.length (g.through ρ X.length) g:=dN fun o ho=>by rw[hS.n]; exact h.lt o ho
 refine⟨rfl,fun o o' a a' k h1 h2 h3 h4 h5 h6=>?_,fun o cs h1=>?_,fun o h1=>?_,hS.imm,fun o r h1=>?_⟩
 ·obtain⟨b,k1,k2⟩:=h.ob o a h1
  obtain⟨b',k3,k4⟩:=h.ob o' a' h2
  exact h.inj o o' (List.getElem?_eq_some_iff.1 h1).1 (List.getElem?_eq_some_iff.1 h2).1 (hS.inj _ _ b b' k k1 k3 (k2.alive h3) (k4.alive h4) ((c9 g ρ _ k2 h3 o k).1 h5) ((c9 g ρ _ k4 h4 o' k).1 h6))
 ·obtain⟨b,k1,k2⟩:=h.ob o _ h1
  cases k2 with
  | cells k2=>
   obtain⟨⟨C,ty,e1,e2⟩,e3⟩:=hS.cells _ _ k1
   exact⟨⟨C,ty,e1,k2.back hs e2⟩,e3⟩
 ·obtain⟨b,k1,k2⟩:=h.ob o _ h1
  cases k2
  exact hS.tok _ k1
 ·obtain⟨b,k1,k2⟩:=h.ob o _ h1
  cases k2
  exact hS.abs _ r k1
theorem bN {P:Program} {gl:ai} (_:az gl) {f:FuncId} {args:List PV} {H:aa} {K:PV→aa→Prop}
  (h:af P gl f args H (fun y H'=>∃(x:PV) (X:aa) (ρ:Nat→Nat),Sub ρ X H'∧H.length≤X.length∧(∀ o,o<H.length→ρ o=o)∧Ren ρ X.length x y∧K x X)):af P gl f args H K:=by
 intro g w vs hS hG hR
 refine(h g w vs hS hG hR).mono ?_
 rintro e w' ⟨v,g',H',y,rfl,hS',hX,hv,x,X,ρ,hsub,hlen,hid,hren,hk⟩
 have hs:Seen ρ X.length (g'.through ρ X.length) g':=dN fun o ho=>by rw[hS'.n]; exact hsub.lt o ho
 refine⟨v,g'.through ρ X.length,X,x,rfl,hsub.sim hS',?_,hren.back hs hv,hk⟩
 have hn:g.n=H.length:=hS.n
 refine⟨⟨by rw[hn]; exact hlen,fun o ho=>?_,fun o ho=>?_,fun o ho=>?_,hX.gx.imm,hX.gx.cell⟩,hX.size,fun b hb ho=>hX.ow b hb (hsub.own ho),hX.frame,hX.os,hX.tape,hX.output,hX.im⟩
 ·show g'.bk (ρ o)=_; rw[hid o (by omega)]; exact hX.gx.bk o ho
 ·show g'.en (ρ o)=_; rw[hid o (by omega)]; exact hX.gx.en o ho
 ·show g'.sz (ρ o)=_; rw[hid o (by omega)]; exact hX.gx.sz o ho
def aF (ρ:Nat→Nat) (n N:Nat):Nat→Nat:=fun o=>if o<n then ρ o else N+(o-n)
structure Behind (ρ:Nat→Nat) (X H X' H':aa):Prop where
 len:X.length≤X'.length
 lenH:H'.length=H.length+(X'.length-X.length)
 on:∀(o:Nat) (a:Ob),X'[o]?=some a→∃ b,H'[aF ρ X.length H.length o]?=some b∧cW (aF ρ X.length H.length) X'.length a b∧(b.alive=true→a.alive=true)
 off:∀ o,o<H.length→(∀ j,j<X.length→ρ j≠o)→H'[o]?=H[o]?
theorem aD {P:Program} {gl:ai} (hgl:az gl) {f:FuncId} {args0 args:List PV} {X H:aa} {K:PV→aa→Prop} {ρ:Nat→Nat} (hsub:Sub ρ X H) (hargs:aJ ρ X.length args0 args)
  (h:af P gl f args0 X (fun x X'=>∃ y H',Behind ρ X H X' H'∧Ren (aF ρ X.length H.length) X'.length x y∧K y H')):af P gl f args H K:=by
 intro g w vs hS hG hR
 have hs:Seen ρ X.length (g.through ρ X.length) g:=dN fun o ho=>by rw[hS.n]; exact hsub.lt o ho
 have hG0:bL (g.through ρ X.length) w gl:=fun k cs hk=>by
  refine⟨(hG k cs hk).1,fun q x hx=>?_⟩
  obtain⟨h1,c,h2,h3⟩:=(hG k cs hk).2 q x hx
  exact⟨h1,c,h2,cF h3 (hgl k cs hk x (List.mem_iff_getElem?.2 ⟨q,hx⟩)) rfl⟩
 refine(h _ w vs (hsub.sim hS) hG0 (hargs.back hs hR)).mono ?_
 rintro e w' ⟨v,g',X',x,rfl,hS',hX,hv,y,H',hB,hren,hk⟩
 have hn:g.n=H.length:=hS.n
 have hn':g'.n=X'.length:=hS'.n
 have inv:∃ σ:Nat→Option Nat,∀ o,(∀ j,σ o=some j→j<X.length∧ρ j=o)∧(σ o=none→∀ j,j<X.length→ρ j≠o):=by
  refine⟨fun o=>(List.range X.length).find? fun j=>ρ j == o,fun o=>⟨fun j hj=>?_,fun hj j hlt=>?_⟩⟩
  ·have h1:=List.find?_some hj
   have h2:=List.mem_of_find?_eq_some hj
   exact⟨by simpa using h2,by simpa using h1⟩
  ·have:=List.find?_eq_none.1 hj j (by simpa using hlt)
   simpa using this
 obtain⟨σ,hσ⟩:=inv
 have hσρ:∀ j,j<X.length→σ (ρ j)=some j:=fun j hj=>by
  cases hq:σ (ρ j) with
  | none=>exact absurd rfl ((hσ _).2 hq j hj)
  | some i=>obtain⟨h1,h2⟩:=(hσ _).1 i hq; rw[hsub.inj i j h1 hj h2]
 have bk0:∀ o,o<X.length→g'.bk o=g.bk (ρ o):=fun o ho=>hX.gx.bk o ho
 have en0:∀ o,o<X.length→g'.en o=g.en (ρ o):=fun o ho=>hX.gx.en o ho
 have sz0:∀ o,o<X.length→g'.sz o=g.sz (ρ o):=fun o ho=>hX.gx.sz o ho
 let g2:Gh:=⟨H'.length,fun o=>if o<H.length then g.bk o else g'.bk (X.length+(o-H.length)),fun o=>if o<H.length then g.en o else g'.en (X.length+(o-H.length)),fun o=>if o<H.length then g.sz o else g'.sz (X.length+(o-H.length)),g'.imm,
  fun o=>if o<H.length then(match σ o with|some j=>g'.fp j|none=>g.fp o) else g'.fp (X.length+(o-H.length))⟩
 have ext_lt:∀ o,o<X.length→aF ρ X.length H.length o=ρ o∧ρ o<H.length:=fun o ho=>⟨by simp[aF,ho],hsub.lt o ho⟩
 have ext_ge:∀ o,¬ o<X.length→aF ρ X.length H.length o=H.length+(o-X.length):=fun o ho=>by simp[aF,ho]
 have hlenX:=hB.len
 have hlenH:=hB.lenH
 have hs2:Seen (aF ρ X.length H.length) X'.length g' g2:=by
  refine⟨hn',fun o ho=>?_,fun o ho=>?_,fun o ho=>?_,fun o ho=>?_,rfl⟩
  ·show _<H'.length
   by_cases c:o<X.length
   ·obtain⟨e1,e2⟩:=ext_lt o c; rw[e1]; omega
   ·rw[ext_ge o c]; omega
  ·by_cases c:o<X.length
   ·obtain⟨e1,e2⟩:=ext_lt o c
    show _=(if _ then _ else _); rw[e1,if_pos e2]; exact bk0 o c
   ·show _=(if _ then _ else _); rw[ext_ge o c,if_neg (by omega)]; congr 1; omega
  ·by_cases c:o<X.length
   ·obtain⟨e1,e2⟩:=ext_lt o c
    show _=(if _ then _ else _); rw[e1,if_pos e2]; exact en0 o c
   ·show _=(if _ then _ else _); rw[ext_ge o c,if_neg (by omega)]; congr 1; omega
  ·by_cases c:o<X.length
   ·obtain⟨e1,e2⟩:=ext_lt o c
    show _=(if _ then _ else _); rw[e1,if_pos e2]; exact sz0 o c
   ·show _=(if _ then _ else _); rw[ext_ge o c,if_neg (by omega)]; congr 1; omega
 have fp2:∀ o,o<X'.length→g2.fp (aF ρ X.length H.length o)=g'.fp o:=fun o ho=>by
  by_cases c:o<X.length
  ·obtain⟨e1,e2⟩:=ext_lt o c
   show(if _ then _ else _)=_; rw[e1,if_pos e2,hσρ o c]
  ·show(if _ then _ else _)=_; rw[ext_ge o c,if_neg (by omega)]; congr 1; omega
 have cases2:∀(o:Nat) (b:Ob),H'[o]?=some b→b.alive=true→(∃ j a,X'[j]?=some a∧a.alive=true∧o=aF ρ X.length H.length j∧cW (aF ρ X.length H.length) X'.length a b)∨(o<H.length∧H[o]?=some b∧∀ j,j<X.length→ρ j≠o):=by
  intro o b hb hal
  have hol:o<H'.length:=(List.getElem?_eq_some_iff.1 hb).1
  have fromX:∀ j,j<X'.length→o=aF ρ X.length H.length j→∃ a,X'[j]?=some a∧a.alive=true∧cW (aF ρ X.length H.length) X'.length a b:=fun j hj ho=>by
   obtain⟨b',k1,k2,k3⟩:=hB.on j _ (List.getElem?_eq_getElem hj)
   rw[← ho,hb] at k1
   cases k1
   exact⟨_,List.getElem?_eq_getElem hj,k3 hal,k2⟩
  by_cases c:o<H.length
  ·cases hq:σ o with
   | some j=>
    obtain⟨h1,h2⟩:=(hσ o).1 j hq
    have ho:o=aF ρ X.length H.length j:=by rw[(ext_lt j h1).1,h2]
    obtain⟨a,k1,k2,k3⟩:=fromX j (by omega) ho
    exact .inl ⟨j,a,k1,k2,ho,k3⟩
   | none=>
    have h1:=(hσ o).2 hq
    exact .inr ⟨c,by rw[← hB.off o c h1]; exact hb,h1⟩
  ·have ho:o=aF ρ X.length H.length (X.length+(o-H.length)):=by rw[ext_ge _ (by omega)]; omega
   obtain⟨a,k1,k2,k3⟩:=fromX _ (by omega) ho
   exact .inl ⟨_,a,k1,k2,ho,k3⟩
 have blkX:∀ {j:Nat} {a b:Ob} {k:Nat},X'[j]?=some a→a.alive=true→cW (aF ρ X.length H.length) X'.length a b→(blk g2 b (aF ρ X.length H.length j) k↔blk g' a j k):=by
  intro j a b k h1 h2 h3
  have hj:j<X'.length:=(List.getElem?_eq_some_iff.1 h1).1
  cases h3 with
  | cells _=>show _=k↔_=k; rw[hs2.bk j hj]
  | tok=>show _=k↔_=k; rw[hs2.bk j hj]
  | dead _=>cases h2
  | abs r=>show g2.fp _ k↔g'.fp j k; rw[fp2 j hj]
 have blkH:∀ {o:Nat} {b:Ob} {k:Nat},o<H.length→(∀ j,j<X.length→ρ j≠o)→(blk g2 b o k↔blk g b o k):=by
  intro o b k h1 h2
  refine cn (g:=g) (g':=g2) ?_ (fun k=>?_) b k
  ·show(if _ then _ else _)=_; rw[if_pos h1]
  ·show(if o<H.length then(match σ o with|some j=>g'.fp j|none=>g.fp o) else _) k↔_
   rw[if_pos h1]
   cases hq:σ o with
   | some j=>obtain⟨k1,k2⟩:=(hσ o).1 j hq; exact absurd k2 (h2 j k1)
   | none=>exact Iff.rfl
 have apart0:∀ {o:Nat} {b:Ob} {k:Nat},H[o]?=some b→b.alive=true→(∀ j,j<X.length→ρ j≠o)→blk g b o k→k<w.heap.size∧¬ own (g.through ρ X.length) X k:=by
  intro o b k h1 h2 h3 h4
  refine⟨b9 hS ⟨o,b,h1,h2,h4⟩,?_⟩
  rintro⟨j,a,k1,k2,k3⟩
  obtain⟨b',e1,e2⟩:=hsub.ob j a k1
  have:=hS.inj (ρ j) o b' b k e1 h1 (e2.alive k2) h2 ((c9 g ρ _ e2 k2 j k).1 k3) h4
  exact h3 j (List.getElem?_eq_some_iff.1 k1).1 this
 have apart:∀ {o:Nat} {b:Ob} {k:Nat},H[o]?=some b→b.alive=true→(∀ j,j<X.length→ρ j≠o)→blk g b o k→k<w.heap.size∧w'.heap[k]?=w.heap[k]?∧(∀ q,¬ g.imm k q→¬ g'.imm k q)∧¬ own g' X' k:=by
  intro o b k h1 h2 h3 h4
  obtain⟨hlt,hno⟩:=apart0 h1 h2 h3 h4
  exact⟨hlt,hX.frame k hlt hno,fun q hq hi=>(hX.im k q hlt hi).elim hq hno,fun ho=>hno (hX.ow k hlt ho)⟩
 have hgx:aQ g w g2 w':=by
  refine⟨by show g.n≤H'.length; omega,fun o ho=>?_,fun o ho=>?_,fun o ho=>?_,hX.gx.imm,hX.gx.cell⟩
  ·show(if _ then _ else _)=_; rw[if_pos (by omega)]
  ·show(if _ then _ else _)=_; rw[if_pos (by omega)]
  ·show(if _ then _ else _)=_; rw[if_pos (by omega)]
 have hbk2:∀ o,o<H.length→g2.bk o=g.bk o:=fun o ho=>hgx.bk o (by omega)
 refine⟨v,g2,H',y,rfl,?_,?_,hren.to hs2 hv,hk⟩
 ·refine⟨rfl,fun o o' b b' k h1 h2 h3 h4 h5 h6=>?_,fun o cs h1=>?_,fun o h1=>?_,hS'.imm,fun o r h1=>?_⟩
  ·rcases cases2 o b h1 h3 with⟨j,a,k1,k2,rfl,k3⟩|⟨k1,k2,k3⟩<;>rcases cases2 o' b' h2 h4 with⟨j',a',m1,m2,rfl,m3⟩|⟨m1,m2,m3⟩
   ·rw[hS'.inj j j' a a' k k1 m1 k2 m2 ((blkX k1 k2 k3).1 h5) ((blkX m1 m2 m3).1 h6)]
   ·exact absurd ⟨j,a,k1,k2,(blkX k1 k2 k3).1 h5⟩ (apart m2 h4 m3 ((blkH m1 m3).1 h6)).2.2.2
   ·exact absurd ⟨j',a',m1,m2,(blkX m1 m2 m3).1 h6⟩ (apart k2 h3 k3 ((blkH k1 k3).1 h5)).2.2.2
   ·exact hS.inj o o' b b' k k2 m2 h3 h4 ((blkH k1 k3).1 h5) ((blkH m1 m3).1 h6)
  ·rcases cases2 o _ h1 rfl with⟨j,a,k1,k2,rfl,k3⟩|⟨k1,k2,k3⟩
   ·cases k3 with
    | cells k3=>
     obtain⟨⟨C,ty,e1,e2⟩,e3⟩:=hS'.cells j _ k1
     have hj:j<X'.length:=(List.getElem?_eq_some_iff.1 k1).1
     rw[← hs2.bk j hj]
     exact⟨⟨C,ty,e1,k3.to hs2 e2⟩,e3⟩
    | dead _=>cases k2
   ·obtain⟨⟨C,ty,e1,e2⟩,e3⟩:=hS.cells o cs k2
    obtain⟨_,a2,a3,_⟩:=apart k2 rfl k3 rfl
    rw[hbk2 o k1]
    exact⟨⟨C,ty,a2.trans e1,e2.mono hgx⟩,fun q=>a3 q (e3 q)⟩
  ·rcases cases2 o _ h1 rfl with⟨j,a,k1,k2,rfl,k3⟩|⟨k1,k2,k3⟩
   ·cases k3 with
    | tok=>
     have hj:j<X'.length:=(List.getElem?_eq_some_iff.1 k1).1
     rw[← hs2.bk j hj,← hs2.en j hj,← hs2.sz j hj]
     exact hS'.tok j k1
    | dead _=>cases k2
   ·obtain⟨⟨C,ty,e1,e2⟩,e3⟩:=hS.tok o k2
    obtain⟨_,a2,a3,_⟩:=apart k2 rfl k3 rfl
    rw[hbk2 o k1,hgx.en o (by omega),hgx.sz o (by omega)]
    exact⟨⟨C,ty,a2.trans e1,e2⟩,fun q hq=>a3 q (e3 q hq)⟩
  ·rcases cases2 o _ h1 rfl with⟨j,a,k1,k2,rfl,k3⟩|⟨k1,k2,k3⟩
   ·cases k3 with
    | abs r=>
     have hj:j<X'.length:=(List.getElem?_eq_some_iff.1 k1).1
     rw[← hs2.bk j hj,fp2 j hj]
     exact hS'.abs j r k1
    | dead _=>cases k2
   ·have h2:=(hS.abs o r k2).2.2
    have hfp:∀ b,g2.fp o b↔g.fp o b:=fun b=>blkH (b:= .abs r) (k:=b) k1 k3
    exact hS.bR k2 hgx (hbk2 o k1) hfp (fun b hb=>(apart k2 rfl k3 hb).2.1) (fun b q hb=>(apart k2 rfl k3 hb).2.2.1 q ((h2 b hb).2 q)) hX.size hS'.imm
 ·have ownsub:∀ b,own (g.through ρ X.length) X b→own g H b:=fun b=>hsub.own
  refine⟨hgx,hX.size,fun b hb ho=>?_,fun b hb ho=>hX.frame b hb (fun k=>ho (ownsub b k)),hX.os,hX.tape,hX.output,fun b q hb hi=>(hX.im b q hb hi).imp id (ownsub b)⟩
  obtain⟨o,b',h1,h2,h3⟩:=ho
  rcases cases2 o b' h1 h2 with⟨j,a,k1,k2,rfl,k3⟩|⟨k1,k2,k3⟩
  ·exact ownsub b (hX.ow b hb ⟨j,a,k1,k2,(blkX k1 k2 k3).1 h3⟩)
  ·exact⟨o,b',k2,h2,(blkH k1 k3).1 h3⟩
def bi (h:aa):aa:=h.map fun ob=>match ob with
 | .tok=> .dead
 | ob=>ob
theorem j6 (h:aa):(bi h).length=h.length:=by simp[bi]
theorem eP {h:aa} {o:Nat} {ob:Ob} (ho:(bi h)[o]?=some ob):ob = .dead∨(h[o]?=some ob∧ob ≠ .tok):=by
 simp only[bi,List.getElem?_map,Option.map_eq_some_iff] at ho
 obtain⟨a,h1,h2⟩:=ho
 cases a<;>simp only at h2<;>subst h2
 ·exact .inr ⟨h1,fun e=>by cases e⟩
 ·exact .inl rfl
 ·exact .inl rfl
 ·exact .inr ⟨h1,fun e=>by cases e⟩
theorem Sim.bi {g:Gh} {h:aa} {w:World} (hS:Sim g h w):Sim g (bi h) w:=by
 have live:∀ {o:Nat} {ob:Ob},(AM.bi h)[o]?=some ob→ob.alive=true→h[o]?=some ob:=fun ho ha=>by
  rcases eP ho with rfl|⟨k,_⟩
  ·cases ha
  ·exact k
 refine⟨by rw[j6]; exact hS.n,fun o o' ob ob' b h1 h2 h3 h4 h5 h6=>hS.inj o o' ob ob' b (live h1 h3) (live h2 h4) h3 h4 h5 h6,fun o cs h1=>hS.cells o cs (live h1 rfl),fun o h1=>?_,hS.imm,fun o r h1=>hS.abs o r (live h1 rfl)⟩
 rcases eP h1 with e|⟨_,k⟩
 ·cases e
 ·exact absurd rfl k
theorem jv {g:Gh} {h:aa} {b:Nat} (ho:own g (bi h) b):own g h b:=by
 obtain⟨o,ob,h1,h2,h3⟩:=ho
 rcases eP h1 with rfl|⟨k,_⟩
 ·cases h2
 ·exact⟨o,ob,k,h2,h3⟩
def m7 (h:aa):Prop:=∀ o:Nat,h[o]?≠some Ob.tok
theorem fm (h:aa):m7 (bi h):=fun o ho=>by
 rcases eP ho with e|⟨_,k⟩
 ·cases e
 ·exact k rfl
theorem jO {g:Gh} {h:aa} {w:World} (hS:Sim g h w) (hn:m7 h) {b:Nat} (hb:own g h b) (q:Nat):¬ g.imm b q:=by
 obtain⟨o,ob,h1,h2,h3⟩:=hb
 cases ob with
 | cells cs=>have h3:g.bk o=b:=h3; subst h3; exact(hS.cells o cs h1).2 q
 | tok=>exact absurd h1 (hn o)
 | dead=>cases h2
 | abs r=>exact((hS.abs o r h1).2.2 b h3).2 q
def whole (I:aa→Prop):Rep where
 R:=fun w imm b F=>∃(g:Gh) (h:aa),I h∧Sim g h w∧m7 h∧g.imm=imm∧(∃ cs,h[0]?=some (.cells cs))∧g.bk 0=b∧∀ k,F k↔own g h k
 st:=by
  rintro w w' imm imm' b F ⟨g,h,h1,h2,h3,rfl,h5,h6,h7⟩ hfr him hc hni hsz hbd
  let g':Gh:={ g with imm:=imm' }
  have hgx:aQ g w g' w':=⟨Nat.le_refl _,fun _ _=>rfl,fun _ _=>rfl,fun _ _=>rfl,him,hc⟩
  have hb:∀ ob o k,blk g' ob o k↔blk g ob o k:=fun ob o k=>cn rfl (fun _=>Iff.rfl) ob k
  have hin:∀ {o:Nat} {ob:Ob} {k:Nat},h[o]?=some ob→ob.alive=true→blk g ob o k→F k:=fun k1 k2 k3=>(h7 _).2 ⟨_,_,k1,k2,k3⟩
  refine⟨g',h,h1,⟨h2.n,fun o o' ob ob' k k1 k2 k3 k4 k5 k6=>h2.inj o o' ob ob' k k1 k2 k3 k4 ((hb _ _ _).1 k5) ((hb _ _ _).1 k6),fun o cs k1=>?_,fun o k1=>absurd k1 (h3 o),hbd,fun o r k1=>?_⟩,h3,rfl,h5,h6,fun k=>(h7 k).trans ⟨fun⟨o,ob,k1,k2,k3⟩=>⟨o,ob,k1,k2,(hb _ _ _).2 k3⟩,fun⟨o,ob,k1,k2,k3⟩=>⟨o,ob,k1,k2,(hb _ _ _).1 k3⟩⟩⟩
  ·obtain⟨⟨C,ty,e1,e2⟩,e3⟩:=h2.cells o cs k1
   have hF:=hin k1 rfl rfl
   exact⟨⟨C,ty,(hfr _ hF).trans e1,e2.mono hgx⟩,fun q=>hni _ q hF⟩
  ·exact h2.bR k1 hgx rfl (fun _=>Iff.rfl) (fun k hk=>hfr k (hin k1 rfl hk)) (fun k q hk=>hni k q (hin k1 rfl hk)) hsz hbd
def gS (h:aa):Prop:=∃ cs,h[0]?=some (.cells cs)
theorem nf {cs:List PV} {t:aa}:gS (.cells cs::t):=⟨cs,rfl⟩
theorem gS.bi {h:aa} (hr:gS h):gS (bi h):=by
 obtain⟨cs,h1⟩:=hr
 exact⟨cs,by simp[AM.bi,h1]⟩
def gD (p:List Nat) (c:Code):Code:=(sub p c).getD .skip
theorem vA {p:List Nat} {c:Code} (h:(sub p c).isSome=true):sub p c=some (gD p c):=by
 unfold gD
 cases hq:sub p c with
 | none=>rw[hq] at h; cases h
 | some x=>rfl
def dI (args:List PV) (H:aa) (K:PV→Prop):Prop:=match args with
 | [.list es _,.arr o _ _ _]=>es.flatten≠[]∧(match H[o]? with|some (.cells cs)=>cs≠[]|_=>False)∧K (.bool false)
 | _=>False
theorem kK {P:Program} {g:Gh} {H:aa} {w:World} (hS:Sim g H w) {params rs:Array TypeId} {t e:TypeId} {b:Bool} {sz:Nat} (hp:params[0]?=some t) (ht:P.underlying t=some (.slice e)) (he:tyA P e=some (b,sz))
  {es:List (List PV)} {tl:Tail} {o off len cap:Nat} {cs:List PV} {c:PV} (hne:es.flatten≠[]) (ho:H[o]?=some (.cells (c::cs))) {v u:Value} (hv:Rel g w (.list es tl) v) (hu:Rel g w (.arr o off len cap) u):
  (Extern.SlicesOverlaps.overlaps params rs #[v,u]).run P w = .ok (.bool false) w:=by
 obtain⟨a,cap',rfl,_,_,_,hc⟩:=Rel.an.1 hv
 rcases hc with hc|⟨A,rfl,hA,hrow⟩
 ·exact absurd hc hne
 obtain⟨x0,hx0⟩:∃ x,es.flatten[0]?=some x:=by
  cases hq:es.flatten with
  | nil=>exact absurd hq hne
  | cons x xs=>exact⟨x,rfl⟩
 obtain⟨hi,c0,hc0,_⟩:=hrow 0 x0 hx0
 cases hu with
 | arr _ _ _ _ hog=>
 obtain⟨⟨C,ty,hC,hr⟩,hni⟩:=hS.cells o _ ho
 have hblk:A.block≠g.bk o:=fun e'=>hni (A.off+0) (by rw[← e']; exact hi)
 have hshA:∃ ty' n,w.shape? A.block=some (ty',n+1):=by
  unfold World.cell? at hc0
  simp only[At] at hc0
  unfold World.shape?
  split at hc0
  ·rename_i C' ty' fr hb'
   have hne:C'.size≠0:=by
    simp only[Option.isSome_none,Bool.false_eq_true,if_false] at hc0
    have:=(Array.getElem?_eq_some_iff.1 hc0).1; omega
   refine⟨ty',C'.size-1,?_⟩
   rw[show C'.size-1+1=C'.size by omega]
  ·cases hc0
 obtain⟨ty',n,hp'⟩:=hshA
 have hshB:w.shape? (g.bk o)=some (ty,C.size):=by unfold World.shape?; rw[hC]
 have hCs:C.size≠0:=by have:=hr.1; simp at this; omega
 have hfrB:∀ q,w.frozen? ⟨g.bk o,q,none⟩=false:=fun q=>dW hC q
 have hb1:(A.block == g.bk o)=false:=by simpa using hblk
 have hb2:(A.block != g.bk o)=true:=by simpa using hblk
 delta Extern.SlicesOverlaps.overlaps
 conv=>lhs; arg 2; whnf
 simp only[hp,Sem.run_bind,ah ht,Result.andThen_ok,run_sizeOf he]
 by_cases hz:es.length=0∨len=0∨sz=0
 ·rw[if_pos hz]; rfl
 ·rw[if_neg hz]
  simp only[hb2,hb1,hfrB,Sem.run_bind,run_frozen,Result.andThen_ok,Bool.true_and,Bool.and_false,Bool.false_eq_true,if_false,if_true,Bool.false_and,Sem.run_pure,noView,viewAt,run_shape,hp',hshB,Option.isSome_some,Option.isSome_none,mayBeOne,stringish]
  by_cases hfA:w.frozen? A=true
  ·simp[hfA,hCs,hp',hshB,hfrB]
  ·simp[hfA,hCs,hp',hshB,hfrB]
theorem kU {P:Program} {gl:ai} {f:FuncId} {fn:Func} {t e:TypeId} {b:Bool} {sz:Nat} (hf:P.funcs[f]?=some fn) (hname:(fn.name == "runtime.NumGoroutine")=false) (hb:fn.body.isNone=true) (hn:Extern.findNext fn=none)
  (hfi:Extern.find fn=some (Extern.SlicesOverlaps.overlaps fn.params fn.resultTypes)) (hp:fn.params[0]?=some t) (ht:P.underlying t=some (.slice e)) (he:tyA P e=some (b,sz)):rU P gl f (.ext dI):=by
 intro args H K h g w vs hS hR
 unfold dI at h
 split at h
 ·rename_i es tl o off len cap
  obtain⟨h1,h2,h3⟩:=h
  split at h2
  ·rename_i cs0 ho
   obtain⟨c,cs,rfl⟩:=List.exists_cons_of_ne_nil h2
   obtain⟨v,u,rfl,hv,hu⟩:=dn hR rfl
   exact⟨_,_,by rw[run_callFunc_extern hf hname hb hn hfi,kK hS hp ht he h1 ho hv hu]; rfl,.bool false,h3⟩
  ·exact h2.elim
 ·exact h.elim
theorem atE {p:List Nat} {c:Code} (h:(sub p c).isSome=true:=by kernel_rfl):sub p c=some (gD p c):=vA h
def bB (H:aa) (o:Nat) (r:Rep):Prop:=H[o]?=some (.abs r)
def fe (H:aa) (o:Nat) (cs:List PV):Prop:=H[o]?=some (.cells cs)
theorem rW {α:Type} {f:α→List PV} {sz:Nat} (hf:∀ a,(f a).length=sz) (h0:sz≠0) (l:List α) (i:Nat):InL (l.map f) sz (i:Int)=(i<l.length):=by
 apply propext
 constructor
 ·intro h; have:=h.2.1; simpa using this
 ·intro h
  refine⟨by omega,by simpa using h,?_,h0⟩
  intro e he
  simp only[List.mem_map] at he
  obtain⟨a,_,rfl⟩:=he
  exact hf a
theorem getD_map {α:Type} {f:α→List PV} {l:List α} {i:Nat} (d:α) (h:i<l.length):(l.map f).getD i []=f (l.getD i d):=by
 rw[List.getD_eq_getElem?_getD,List.getElem?_map,List.getElem?_eq_getElem h,List.getD_eq_getElem?_getD,List.getElem?_eq_getElem h]; rfl
theorem fN {α:Type} {f:α→List PV} {sz:Nat} (hf:∀ a,(f a).length=sz) (l:List α):uni sz (l.map f):=by
 intro e he
 simp only[List.mem_map] at he
 obtain⟨a,_,rfl⟩:=he
 exact hf a
theorem fx {α:Type} {f:α→List PV} {n:Nat} {l:List α} (hf:∀ a∈l,∀ x∈f a,Low n x):∀ x∈(l.map f).flatten,Low n x:=by
 intro x hx
 obtain⟨e,he,hx⟩:=List.mem_flatten.1 hx
 simp only[List.mem_map] at he
 obtain⟨a,ha,rfl⟩:=he
 exact hf a ha x hx
abbrev iI (n:Int):Int:=n
theorem bt (b:Bool):((b == true)=true)=(b=true):=by cases b<;>simp
theorem bf (b:Bool):((b == false)=true)=(b=false):=by cases b<;>simp
theorem dt (p:Prop) [Decidable p]:(decide p=true)=p:=by simp
structure Pad (H H2:aa):Prop where
 len:H.length≤H2.length
 ob:∀(o:Nat) (ob:Ob),H2[o]?=some ob→ob.alive=true→H[o]?=some ob
theorem Pad.refl (H:aa):Pad H H:=⟨Nat.le_refl _,fun _ _ h _=>h⟩
theorem pZ (H:aa):Pad H (H++[.dead]):=by
 refine⟨by simp,fun o ob h ha=>?_⟩
 rcases ak _ _ _ _ h with⟨h1,_⟩|⟨_,rfl⟩
 ·exact h1
 ·cases ha
theorem p4 (H:aa) (x:Ob):Pad (H++[x]) (H++[.dead]):=by
 refine⟨by simp,fun o ob h ha=>?_⟩
 rcases ak _ _ _ _ h with⟨h1,h2⟩|⟨_,rfl⟩
 ·rw[List.getElem?_append_left h2]; exact h1
 ·cases ha
theorem St.pad [Dfr] {gl:ai} {n:Nat} {g g0:Gh} {e:Env} {H H0 H2:aa} {a:Act} {w w0:World} (hst:St gl n g e H a w) (hx:Ext g0 H0 w0 g H w) (hp:Pad H H2):∃ g',St gl n g' e H2 a w∧Ext g0 H0 w0 g' H2 w:=by
 let g':Gh:=⟨H2.length,g.bk,g.en,g.sz,g.imm,g.fp⟩
 have hb:blk g'=blk g:=by funext ob o b; cases ob<;>rfl
 have hn:g.n=H.length:=hst.sim.n
 have hgx:aQ g w g' w:=⟨by show g.n≤H2.length; rw[hn]; exact hp.len,fun _ _=>rfl,fun _ _=>rfl,fun _ _=>rfl,fun _ _ h=>h,fun _ _ _=>rfl⟩
 have hS:=hst.sim
 refine⟨g',⟨⟨rfl,fun o o' ob ob' b h1 h2 h3 h4=>by rw[hb]; exact hS.inj o o' ob ob' b (hp.ob _ _ h1 h3) (hp.ob _ _ h2 h4) h3 h4,fun o cs h1=>?_,fun o h1=>hS.tok o (hp.ob _ _ h1 rfl),hS.imm,fun o r h1=>hS.abs o r (hp.ob _ _ h1 rfl)⟩,hst.glob.mono hgx,hst.env.mono hgx,hst.dfr⟩,?_⟩
 ·obtain⟨⟨C,ty,e1,e2⟩,e3⟩:=hS.cells o cs (hp.ob _ _ h1 rfl)
  exact⟨⟨C,ty,e1,e2.mono hgx⟩,e3⟩
 ·refine⟨hx.gx.trans hgx,hx.size,fun b hb' ho=>?_,hx.frame,hx.os,hx.tape,hx.output,hx.im⟩
  obtain⟨o,ob,h1,h2,h3⟩:=ho
  rw[hb] at h3
  exact hx.ow b hb' ⟨o,ob,hp.ob _ _ h1 h2,h2,h3⟩
theorem nc {g:Gh} {w:World}:∀ {ts:List Nat} {vs vs2:List PV},WkL vs vs2→∀ t v,Rel g w (aj ts vs t) v→Rel g w (aj ts vs2 t) v
 | [],_,_,_,t,v,_=>by unfold aj; exact .any v
 | k::ts,_,_,.nil,t,v,_=>by unfold aj; exact .any v
 | k::ts,_,_,.cons h hs,t,v,hr=>by
  simp only[aj] at hr ⊢
  cases hk:t == k with
  | true=>rw[hk] at hr; exact h g w v hr
  | false=>rw[hk] at hr; exact nc hs t v hr
def oY {σ:Type} (Q:Ex→Env→aa→Prop) (n0:Nat) (slots:List Nat) (I:σ→Prop) (V:σ→List PV) (Hp:σ→aa) (m:σ→Nat) (s:σ):Ex→List PV→aa→Prop:=fun ex vs H'=>match ex with
 | .normal=>∃ s',m s'<m s∧I s'∧Relab n0 vs H' (V s') (Hp s')
 | .exit i=>∃ vs2 H2,WkL vs vs2∧Pad H' H2∧Q (.exit i) (aj slots vs2) H2
 | .ret=>∃ vs2 H2,WkL vs vs2∧Pad H' H2∧Q .ret (aj slots vs2) H2
theorem jK [Dfr] {P:Program} {gl:ai} (hgl:az gl) {n:Nat} {x:Code} {Q:Ex→Env→aa→Prop} {e:Env} {H:aa} {σ:Type} (slots:List Nat) (I:σ→Prop) (V:σ→List PV) (Hp:σ→aa) (m:σ→Nat) (s0:σ)
  (h0:I s0) (he:slots.map e=V s0) (hH:H=Hp s0)
  (round:∀ s,I s→AW P gl n x (fun ex e' H'=>oY Q H.length slots I V Hp m s ex (slots.map e') H') (aj slots (V s)) (Hp s)):AW P gl n (.loop x) Q e H:=by
 intro hd g a w hst
 simp only[bq] at hd
 have hng:g.n=H.length:=hst.sim.n
 refine wp_loop_ghost (fun k a' w'=>∃ g' s,k=m s∧I s∧St gl n g' (aj slots (V s)) (Hp s) a' w'∧Ext g H w g' (Hp s) w') (m s0) ⟨g,s0,rfl,h0,by rw[← hH,← he]; exact hst.weaken (cf e slots),by rw[← hH]; exact .refl g H w⟩ ?_
 rintro k a1 w1 ⟨g1,s,rfl,hI,hst1,hx1⟩
 refine wp_mono (round s hI hd g1 a1 w1 hst1) ?_
 rintro ex a' w' ⟨ex',g',e',H',k0,k1,k2,k3⟩
 have k1':=k1.weaken (cf e' slots)
 have wk:∀ {vs2:List PV} {H2:aa},WkL (slots.map e') vs2→Pad H' H2→∃ g3,St gl n g3 (aj slots vs2) H2 a' w'∧Ext g H w g3 H2 w':=fun h1 h2=>by
  have k4:St gl n g' (aj slots _) H' a' w':=⟨k1'.sim,k1'.glob,⟨k1'.env.1,fun t=>nc h1 t _ (k1'.env.2 t)⟩,k1'.dfr⟩
  exact k4.pad (hx1.trans k2) h2
 cases ex<;>cases ex'<;>first|exact k0.elim|skip
 ·obtain⟨s',hm,hI',hr⟩:=k3
  obtain⟨g3,j1,j2⟩:=k1'.vz hgl (hx1.trans k2) hng hr
  exact⟨m s',hm,g3,s',rfl,hI',j1,j2⟩
 ·obtain⟨vs2,H2,j1,j2,j3⟩:=k3
  obtain⟨g3,j4,j5⟩:=wk j1 j2
  exact⟨.exit _,g3,_,H2,k0,j4,j5,j3⟩
 ·obtain⟨vs2,H2,j1,j2,j3⟩:=k3
  obtain⟨g3,j4,j5⟩:=wk j1 j2
  exact⟨.ret,g3,_,H2,k0,j4,j5,j3⟩
def tlG (n0:Nat):Nat→Tail
 | 0=> .exact
 | _+1=> .tok n0
def hpG (B:aa):Nat→aa
 | 0=>B
 | _+1=>B++[.tok]
def qJ {α:Type} (f:α→List PV) (T:List α) (Q:Ex→Env→aa→Prop) (B:aa) (slots:List Nat) (V:PV→Nat→List PV) (i:Nat):Ex→List PV→aa→Prop:=fun ex vs H'=>match ex with
 | .normal=>i<T.length∧∃ X k,H'=B++X∧(B++X)[k]?=some .tok∧B.length≤k∧vs=V (.list ((T.take (i+1)).map f) (.tok k)) (i+1)
 | .exit j=>∃ vs2 H2,WkL vs vs2∧Pad H' H2∧Q (.exit j) (aj slots vs2) H2
 | .ret=>∃ vs2 H2,WkL vs vs2∧Pad H' H2∧Q .ret (aj slots vs2) H2
theorem s6 [Dfr] {α:Type} {f:α→List PV} {T:List α} {P:Program} {gl:ai} (hgl:az gl) {n:Nat} {Tb:Tab} (hT:aV P gl Tb) {L:iU} {hn:Oper→Nat} {x:Code} (hL:LOk P gl n x [] L) {Q:Ex→Env→aa→Prop} {e:Env} {H:aa} (slots:List Nat) (V:PV→Nat→List PV) (B:aa)
  (hlow:∀(o:Nat) cs,B[o]?=some (.cells cs)→∀ x∈cs,Low B.length x) (hf:∀ a∈T,∀ x∈f a,Low B.length x)
  (hrv:∀(es:List (List PV)) (i k:Nat),(∀ y∈es.flatten,Low B.length y)→RVs B.length k (V (.list es (.tok k)) i) (V (.list es (.tok B.length)) i))
  (he:slots.map e=V (.list [] .exact) 0) (hH:H=B)
  (first:Holds (wpc br P gl Tb L hn x [] (aj slots (V (.list [] .exact) 0)) B (fun ex e' H'=>qJ f T Q B slots V 0 ex (slots.map e') H')))
  (later:∀ i,0<i→i≤T.length→Holds (wpc br P gl Tb L hn x [] (aj slots (V (.list ((T.take i).map f) (.tok B.length)) i)) (B++[.tok]) (fun ex e' H'=>qJ f T Q B slots V i ex (slots.map e') H'))):AW P gl n (.loop x) Q e H:=by
 subst hH
 have key:∀ i,i≤T.length→∀ ex vs H',qJ f T Q H slots V i ex vs H'→oY Q H.length slots (fun i=>i≤T.length) (fun i=>V (.list ((T.take i).map f) (tlG H.length i)) i) (fun i=>hpG H i) (fun i=>T.length-i) i ex vs H':=by
  intro i hi ex vs H' h
  cases ex with
  | exit j=>exact h
  | ret=>exact h
  | normal=>
   obtain⟨hlt,X,k,rfl,h2,h3,rfl⟩:=h
   refine⟨i+1,(show T.length-(i+1)<T.length-i by omega),hlt,?_⟩
   exact relab_row rfl hlow h3 h2 (hrv _ _ _ (fx fun a ha=>hf a (List.mem_of_mem_take ha)))
 refine jK hgl (σ:=Nat) slots (fun i=>i≤T.length) (fun i=>V (.list ((T.take i).map f) (tlG H.length i)) i) (fun i=>hpG H i) (fun i=>T.length-i) 0 (Nat.zero_le _) (by simpa[tlG] using he) rfl ?_
 intro i hi
 cases i with
 | zero=>exact(cP hT x [] hL _ _ _ first.out).mono fun ex e' H' k=>key 0 hi ex _ H' k
 | succ i=>exact(cP hT x [] hL _ _ _ (later (i+1) (Nat.succ_pos i) hi).out).mono fun ex e' H' k=>key (i+1) hi ex _ H' k
theorem bV {P:Program} {gl:ai} {f:FuncId} {args args':List PV} {H:aa} {K:PV→aa→Prop} (hw:WkL args args') (h:af P gl f args' H K):af P gl f args H K:=by
 intro g w vs hS hG hR
 exact h g w vs hS hG (hw.rel hR)
theorem g7 {P:Program} {gl:ai} (hgl:az gl) {f:FuncId} {args args':List PV} {r:PV} {K:PV→Prop} (hw:WkL args args') (ha:∀ x∈args',Low 0 x) (hr:Low 0 r) (h:af P gl f args' [] (fun x _=>x=r)) (hk:K r):∃ r,jd P gl f args r∧K r:=
 ⟨r,fun H=>bV hw (jd.alone hgl ha hr h H),hk⟩
def lH (rk:Nat→Nat) (ops:Array Oper) (hn:Oper→Nat) (i j:Nat):Prop:=rk j<rk i→∀ oj oi,ops[j]?=some oj→ops[i]?=some oi→indep ops hn oj oi=true
theorem c7 {P:Program} {gl:ai} {hn:Oper→Nat} {ops:Array Oper} (rk:Nat→Nat):∀(σ L:List Nat) (e:Env) (H:aa) (e2:Env) (H2:aa),
  L.Pairwise (fun a b=>rk a<rk b)→σ.Perm L→σ.Pairwise (lH rk ops hn)→Chain P gl hn ops L e H e2 H2→Chain P gl hn ops σ e H e2 H2:=by
 intro σ
 induction σ with
 | nil=>
  intro L e H e2 H2 _ hp _ h
  have:L=[]:=List.Perm.eq_nil hp.symm
  subst this; exact h
 | cons i σ ih=>
  intro L e H e2 H2 hL hp hR h
  have hi:i∈L:=hp.subset (by simp)
  obtain⟨A,B,rfl⟩:=List.append_of_mem hi
  have hb:=qL A e H e2 H2 (fun k hk ok oi h1 h2=>by
   have hlt:rk k<rk i:=(List.pairwise_append.1 hL).2.2 k hk i (by simp)
   have hkσ:k∈σ:=by
    have:k∈i::σ:=hp.symm.subset (by simp[hk])
    rcases List.mem_cons.1 this with e|h
    ·subst e; omega
    ·exact h
   exact(List.pairwise_cons.1 hR).1 k hkσ hlt ok oi h1 h2) h
  cases hb with
  | cons ho h1 hs=>
   refine .cons ho h1 (ih (A++B) _ _ _ _ ?_ ?_ (List.pairwise_cons.1 hR).2 hs)
   ·exact hL.sublist (by simp)
   ·exact(List.perm_cons i).1 (hp.trans (List.perm_middle))
def dK (ops:Array Oper):Bool:=
 eT ops && eo .any ops (fF .any ops) && (!Region.departs ops || eo .text ops (fF .text ops)) && (!Region.departs ops || eo .gc ops (fF .gc ops))
def gC (ops:Array Oper) (hn:Oper→Nat) (rk:Nat→Nat) (x y:Nat):Bool:=
 let anc:=cY ops.toList
 (List.range ops.size).all fun i=>(List.range ops.size).all fun j=> !Nat.blt (rk j) (rk i) || (match ops[j]?,ops[i]? with
  | some oj,some oi=>indep ops hn oj oi || (anc.getD i []).contains j || (i == y && j == x)
  | _,_=>true)
def ahead (l:List Nat) (y x:Nat):Prop:=∃ p q:Nat,p<q∧l[p]?=some y∧l[q]?=some x
theorem jo {ops:Array Oper} {hn:Oper→Nat} (h:dK ops=true) (mixed:Bool) (t:Nat):
  (Region.schedule mixed ops t).Perm (List.range ops.size)∧∀ rk x y,gC ops hn rk x y=true→¬ ahead (Region.schedule mixed ops t) y x→(Region.schedule mixed ops t).Pairwise (lH rk ops hn):=by
 simp only[dK,Bool.and_eq_true] at h
 obtain⟨⟨⟨hb,hra⟩,hrt⟩,hrg⟩:=h
 have main:∀ md t,eo md ops (fF md ops)=true→(Region.linearise md ops t).Perm (List.range ops.size)∧∀ rk x y,gC ops hn rk x y=true→¬ ahead (Region.linearise md ops t) y x→(Region.linearise md ops t).Pairwise (lH rk ops hn):=by
  intro md t hrk
  unfold Region.linearise
  obtain⟨k1,k2,k3,k4⟩:=lZ (md:=md) hrk ops.size t (Array.replicate ops.size false) [] (by simp) (fun i hi=>by simp[Array.getD,hi]) (by simp) (by simp) (fun p i o hp=>by simp at hp) (by simp)
  generalize Region.linearise.go md ops ops.size t (Array.replicate ops.size false) []=l at k1 k2 k3 k4
  refine⟨?_,?_⟩
  ·refine(List.perm_ext_iff_of_nodup k1 List.nodup_range).2 fun a=>⟨fun ha=>by simpa using k2 a ha,fun ha=>?_⟩
   rcases Classical.em (a∈l) with h|h
   ·exact h
   ·exfalso
    have h1:(a::l).Nodup:=List.nodup_cons.2 ⟨h,k1⟩
    have h2:(a::l) ⊆ List.range ops.size:=by
     intro x hx
     rcases List.mem_cons.1 hx with rfl|hx
     ·exact ha
     ·simpa using k2 x hx
    have:=List.Nodup.length_le_of_subset h1 h2
    simp at this
    omega
  ·intro rk x y hd hah
   rw[List.pairwise_iff_getElem]
   intro p q hp hq hpq hlt oj oi hoj hoi
   have hiq:=k2 _ (List.getElem_mem hp)
   have hjq:=k2 _ (List.getElem_mem hq)
   have hc:=List.all_eq_true.1 hd (l[p]) (by simpa using hiq)
   have hc:=List.all_eq_true.1 hc (l[q]) (by simpa using hjq)
   rw[hoj,hoi] at hc
   have hbl:Nat.blt (rk l[q]) (rk l[p])=true:=by rw[Nat.blt_eq]; exact hlt
   rw[hbl] at hc
   simp only[Bool.not_true,Bool.false_or,Bool.or_eq_true,Bool.and_eq_true,beq_iff_eq] at hc
   rcases hc with (hc|hc)|⟨e1,e2⟩
   ·exact hc
   ·exfalso
    have:=fc hb k3 k2 p l[p] (List.getElem?_eq_getElem hp) l[q] (by simpa using hc)
    obtain⟨r,hr⟩:=List.mem_iff_getElem?.1 this
    have hrp:r<p:=by
     have:=(List.getElem?_eq_some_iff.1 hr).1
     simp at this; omega
    rw[List.getElem?_take,if_pos hrp] at hr
    have hrl:r<l.length:=by omega
    rw[List.getElem?_eq_getElem hrl] at hr
    have:=(List.getElem_inj k1).1 (Option.some.inj hr)
    omega
   ·exact absurd ⟨p,q,hpq,by rw[List.getElem?_eq_getElem hp,e1],by rw[List.getElem?_eq_getElem hq,e2]⟩ hah
 unfold Region.schedule
 split
 ·exact main _ _ hra
 ·rename_i hdep
  have hdp:Region.departs ops=true:=by
   revert hdep
   cases mixed<;>cases Region.departs ops<;>simp
  rw[hdp] at hrt hrg
  simp only[Bool.not_true,Bool.false_or] at hrt hrg
  split
  ·exact main _ _ hrt
  ·exact main _ _ hrg
def bH (ops:Array Oper) (is:List Nat):List Oper:=is.filterMap fun i=>ops[i]?
theorem cE {ops:Array Oper}:∀ {is:List Nat},(∀ i∈is,i<ops.size)→is.map (fun i=>ops[i]?)=(bH ops is).map some
 | [],_=>rfl
 | i::is,h=>by
  have h0:=h i (by simp)
  have ih:=cE (is:=is) fun j hj=>h j (by simp[hj])
  unfold bH at ih ⊢
  rw[List.map_cons,ih,List.filterMap_cons]
  simp[Array.getElem?_eq_getElem h0]
theorem gU [Dfr] {P:Program} {gl:ai} {n:Nat} {id:Nat} {ops:Array Oper} {Q:Ex→Env→aa→Prop} {e:Env} {H:aa} (hn:Oper→Nat) (x y:Nat) (is js:List Nat) (ri rj:Nat→Nat)
  (he:dK ops=true) (hcl:(ops.toList.all fun o=>(cl (hn o) o.op).isSome)=true) (pi:is.Perm (List.range ops.size)) (pj:js.Perm (List.range ops.size))
  (si:is.Pairwise (fun a b=>ri a<ri b)) (sj:js.Pairwise (fun a b=>rj a<rj b)) (oi:gC ops hn ri x y=true) (oj:gC ops hn rj y x=true)
  (hi:ia P gl hn ops (bH ops is) e H (Q .normal)) (hj:ia P gl hn ops (bH ops js) e H (Q .normal)):
  AW P gl n (.region id ops true) Q e H:=by
 intro hd g a w hst
 have hcl:∀ o∈ops.toList,(cl (hn o) o.op).isSome=true:=List.all_eq_true.1 hcl
 have mi:∀ i∈is,i<ops.size:=fun i hi=>by simpa using pi.subset hi
 have mj:∀ i∈js,i<ops.size:=fun i hi=>by simpa using pj.subset hi
 refine wp_region_draw fun t=>?_
 have hst':St gl n g e H a w.drew:=⟨hst.sim.drew,hst.glob.mono (aQ.drew g w),hst.env.mono (aQ.drew g w),hst.dfr⟩
 obtain⟨hp,hr⟩:=jo (hn:=hn) he (P.follows .mixedOrders) t
 by_cases hah:ahead (Region.schedule (P.follows .mixedOrders) ops t) y x
 ·have hno:¬ ahead (Region.schedule (P.follows .mixedOrders) ops t) x y:=by
   rintro⟨p,q,hpq,h1,h2⟩
   obtain⟨p',q',hpq',h1',h2'⟩:=hah
   have nd:(Region.schedule (P.follows .mixedOrders) ops t).Nodup:=hp.nodup_iff.2 List.nodup_range
   have e1:p=q':=by
    have a1:=(List.getElem?_eq_some_iff.1 h1); have a2:=(List.getElem?_eq_some_iff.1 h2')
    exact(List.getElem_inj nd).1 (a1.2.trans a2.2.symm)
   have e2:q=p':=by
    have a1:=(List.getElem?_eq_some_iff.1 h2); have a2:=(List.getElem?_eq_some_iff.1 h1')
    exact(List.getElem_inj nd).1 (a1.2.trans a2.2.symm)
   omega
  obtain⟨e2,H2,hch,hq⟩:=c6 hcl js _ e H (cE mj) hj
  have hch':=c7 rj _ js _ _ _ _ sj (hp.trans pj.symm) (hr rj y x oj hno) hch
  refine bS _ ?_ _ _ (c8 hd _ g e H a w.drew hst' hch')
  rintro ex a' w' ⟨g',rfl,k1,k2⟩
  exact⟨.normal,g',e2,H2,trivial,k1,(Ext.drew g H w).trans k2,hq⟩
 ·obtain⟨e2,H2,hch,hq⟩:=c6 hcl is _ e H (cE mi) hi
  have hch':=c7 ri _ is _ _ _ _ si (hp.trans pi.symm) (hr ri x y oi hah) hch
  refine bS _ ?_ _ _ (c8 hd _ g e H a w.drew hst' hch')
  rintro ex a' w' ⟨g',rfl,k1,k2⟩
  exact⟨.normal,g',e2,H2,trivial,k1,(Ext.drew g H w).trans k2,hq⟩
def opsOf:Code→Array Oper
 | .region _ ops _=>ops
 | _=> #[]
def kB:Code→Bool
 | .region _ _ d=>d
 | _=>false
def tr (ops:Array Oper) (hn:Oper→Nat) (x y:Nat) (is js:List Nat):Bool:=
 dK ops && (ops.toList.all fun o=>(cl (hn o) o.op).isSome) && is.isPerm (List.range ops.size) && js.isPerm (List.range ops.size) &&
 decide (is.Pairwise fun a b=>is.idxOf a<is.idxOf b) && decide (js.Pairwise fun a b=>js.idxOf a<js.idxOf b) && gC ops hn (fun i=>is.idxOf i) x y && gC ops hn (fun i=>js.idxOf i) y x
theorem jq [Dfr] {P:Program} {gl:ai} {n:Nat} {T:Tab} (hT:aV P gl T) {hn:Oper→Nat} {c:Code} {Q:Ex→Env→aa→Prop} {e:Env} {H X:aa} {slots outs:List Nat} {ku:List PV} (x y:Nat) (is js:List Nat)
  (hd:kB c=true) (hok:tr (opsOf c) hn x y is js=true) (he:ag (slots.map e) ku) (hH:aE H X)
  (hi:Holds (dY br P gl T hn true (opsOf c) (bH (opsOf c) is) (aj slots ku) X (fun e' H'=>(fun vs H'=>Q .normal (aj outs vs) H') (outs.map e') H')))
  (hj:Holds (dY br P gl T hn true (opsOf c) (bH (opsOf c) js) (aj slots ku) X (fun e' H'=>(fun vs H'=>Q .normal (aj outs vs) H') (outs.map e') H'))):AW P gl n c Q e H:=by
 cases c<;>try (simp only[kB] at hd; cases hd; done)
 rename_i id ops d
 have hd:d=true:=hd
 subst hd
 have he:slots.map e=ku:=he
 have hH:H=X:=hH
 subst hH
 simp only[tr,Bool.and_eq_true,decide_eq_true_eq,List.isPerm_iff] at hok
 obtain⟨⟨⟨⟨⟨⟨⟨h1,h2⟩,h3⟩,h4⟩,h5⟩,h6⟩,h7⟩,h8⟩:=hok
 refine AW.of_le (e1:=aj slots ku) (by rw[← he]; exact cf e slots) (AW.weaken ?_)
 refine(gU (Q:=fun ex e' H'=>match ex with| .normal=>Q .normal (aj outs (outs.map e')) H'|_=>False) hn x y is js _ _ h1 h2 h3 h4 h5 h6 h7 h8 (aY hT _ _ _ hi.out) (aY hT _ _ _ hj.out)).mono fun ex e' H' k=>?_
 cases ex with
 | normal=>exact⟨aj outs (outs.map e'),cf e' outs,k⟩
 | exit i=>exact k.elim
 | ret=>exact k.elim
theorem lJ {ρ:Nat→Nat} {n:Nat}:∀ {xs:List PV},(∀ x∈xs,Low 0 x)→aJ ρ n xs xs
 | [],_=> .nil
 | x::xs,h=> .cons (.low (h x (by simp))) (lJ fun y hy=>h y (by simp[hy]))
theorem vF {P:Program} {gl:ai} (hgl:az gl) {f:FuncId} {args args':List PV} {es:List (List PV)} (hw:WkL args args') (ha:∀ x∈args',Low 0 x) (hl:∀ x∈es.flatten,Low 0 x)
  (h:af P gl f args' [] (fun x H'=>(es=[]→x = .list [] .exact)∧(es≠[]→∃ o,x = .list es (.tok o)∧H'[o]?=some .tok))) (H:aa):
  af P gl f args H (fun x H'=>(es=[]→x = .list [] .exact∧H'=H)∧(es≠[]→x = .list es (.tok H.length)∧H'=H++[.tok])):=by
 refine bV hw (aD hgl (X:=[]) (ρ:=fun o=>o) ⟨by simp,by simp,by simp⟩ (lJ ha) (bN hgl (h.mono ?_)))
 rintro x H' ⟨h1,h2⟩
 by_cases h0:es=[]
 ·refine⟨.list [] .exact,[],fun o=>o,⟨by simp,by simp,by simp⟩,by simp,by simp,?_,.list [] .exact,H,⟨by simp,by simp,by simp,fun o _ _=>rfl⟩,?_,fun _=>⟨rfl,rfl⟩,fun k=>absurd h0 k⟩
  ·rw[h1 h0]; exact .low (.list _ _ (by intro o e; cases e) (by simp))
  ·exact .low (.list _ _ (by intro o e; cases e) (by simp))
 ·obtain⟨o,rfl,ho⟩:=h2 h0
  have hol:o<H'.length:=(List.getElem?_eq_some_iff.1 ho).1
  refine⟨.list es (.tok 0),[.tok],fun _=>o,⟨fun _ _=>hol,fun a b ha hb _=>by simp at ha hb; omega,fun j a h1=>?_⟩,by simp,by simp,.ltok _ 0 (by simp) hl,.list es (.tok H.length),H++[.tok],⟨by simp,by simp,fun j a h1=>?_,fun o h1 _=>?_⟩,?_,fun k=>absurd k h0,fun _=>⟨rfl,rfl⟩⟩
  ·have:j=0:=by have:=(List.getElem?_eq_some_iff.1 h1).1; simpa using this
   subst this; cases h1
   exact⟨_,ho,.tok⟩
  ·have:j=0:=by have:=(List.getElem?_eq_some_iff.1 h1).1; simpa using this
   subst this; cases h1
   exact⟨.tok,by simp[aF],.tok,fun _=>rfl⟩
  ·rw[List.getElem?_append_left h1]
  ·have:=Ren.ltok (ρ:=aF (fun o=>o) ([]:aa).length H.length) (n:=1) es 0 (by omega) hl
   simpa[aF] using this
inductive WkO:Ob→Ob→Prop where
 | refl (x:Ob):WkO x x
 | cells {cs cs':List PV} (h:WkL cs cs'):WkO (.cells cs) (.cells cs')
structure WkH (H H1:aa):Prop where
 len:H1.length=H.length
 ob:∀(o:Nat) (b:Ob),H1[o]?=some b→∃ a,H[o]?=some a∧WkO a b
theorem WkH.refl (H:aa):WkH H H:=⟨rfl,fun _ b h=>⟨b,h,.refl b⟩⟩
theorem WkO.alive {a b:Ob} (h:WkO a b) (hb:b.alive=true):a.alive=true:=by cases h<;>first|exact hb|rfl
theorem WkO.blk {a b:Ob} (h:WkO a b) (g:Gh) (o k:Nat):blk g b o k↔blk g a o k:=by cases h<;>exact Iff.rfl
theorem WkH.sim {H H1:aa} (h:WkH H H1) {g:Gh} {w:World} (hS:Sim g H w):Sim g H1 w:=by
 refine⟨by rw[h.len]; exact hS.n,fun o o' a a' k h1 h2 h3 h4 h5 h6=>?_,fun o cs h1=>?_,fun o h1=>?_,hS.imm,fun o r h1=>?_⟩
 ·obtain⟨b,k1,k2⟩:=h.ob o a h1
  obtain⟨b',k3,k4⟩:=h.ob o' a' h2
  exact hS.inj o o' b b' k k1 k3 (k2.alive h3) (k4.alive h4) ((k2.blk g o k).1 h5) ((k4.blk g o' k).1 h6)
 ·obtain⟨b,k1,k2⟩:=h.ob o _ h1
  cases k2 with
  | refl=>exact hS.cells o cs k1
  | cells hw=>
   obtain⟨⟨C,ty,e1,e2⟩,e3⟩:=hS.cells o _ k1
   exact⟨⟨C,ty,e1,hw.rel e2⟩,e3⟩
 ·obtain⟨b,k1,k2⟩:=h.ob o _ h1
  cases k2 with
  | refl=>exact hS.tok o k1
 ·obtain⟨b,k1,k2⟩:=h.ob o _ h1
  cases k2 with
  | refl=>exact hS.abs o r k1
theorem WkH.own {H H1:aa} (h:WkH H H1) {g:Gh} {b:Nat} (hb:own g H1 b):own g H b:=by
 obtain⟨o,a,h1,h2,h3⟩:=hb
 obtain⟨b',k1,k2⟩:=h.ob o a h1
 exact⟨o,b',k1,k2.alive h2,(k2.blk g o b).1 h3⟩
theorem j8 {ops:Array Oper} (h:dK ops=true) (mixed:Bool) (t:Nat):
  (Region.schedule mixed ops t).Perm (List.range ops.size)∧(Region.schedule mixed ops t).Pairwise (fun a b=>((cY ops.toList).getD a []).contains b=false):=by
 simp only[dK,Bool.and_eq_true] at h
 obtain⟨⟨⟨hb,hra⟩,hrt⟩,hrg⟩:=h
 have main:∀ md t,eo md ops (fF md ops)=true→(Region.linearise md ops t).Perm (List.range ops.size)∧(Region.linearise md ops t).Pairwise (fun a b=>((cY ops.toList).getD a []).contains b=false):=by
  intro md t hrk
  unfold Region.linearise
  obtain⟨k1,k2,k3,k4⟩:=lZ (md:=md) hrk ops.size t (Array.replicate ops.size false) [] (by simp) (fun i hi=>by simp[Array.getD,hi]) (by simp) (by simp) (fun p i o hp=>by simp at hp) (by simp)
  generalize Region.linearise.go md ops ops.size t (Array.replicate ops.size false) []=l at k1 k2 k3 k4
  refine⟨?_,?_⟩
  ·refine(List.perm_ext_iff_of_nodup k1 List.nodup_range).2 fun a=>⟨fun ha=>by simpa using k2 a ha,fun ha=>?_⟩
   rcases Classical.em (a∈l) with h|h
   ·exact h
   ·exfalso
    have h1:(a::l).Nodup:=List.nodup_cons.2 ⟨h,k1⟩
    have h2:(a::l) ⊆ List.range ops.size:=by
     intro x hx
     rcases List.mem_cons.1 hx with rfl|hx
     ·exact ha
     ·simpa using k2 x hx
    have:=List.Nodup.length_le_of_subset h1 h2
    simp at this
    omega
  ·rw[List.pairwise_iff_getElem]
   intro p q hp hq hpq
   cases hc:((cY ops.toList).getD l[p] []).contains l[q] with
   | false=>rfl
   | true=>
    exfalso
    have:=fc hb k3 k2 p l[p] (List.getElem?_eq_getElem hp) l[q] (by simpa using hc)
    obtain⟨r,hr⟩:=List.mem_iff_getElem?.1 this
    have hrp:r<p:=by
     have:=(List.getElem?_eq_some_iff.1 hr).1
     simp at this; omega
    rw[List.getElem?_take,if_pos hrp] at hr
    have hrl:r<l.length:=by omega
    rw[List.getElem?_eq_getElem hrl] at hr
    have:=(List.getElem_inj k1).1 (Option.some.inj hr)
    omega
 unfold Region.schedule
 split
 ·exact main _ _ hra
 ·rename_i hdep
  have hdp:Region.departs ops=true:=by
   revert hdep
   cases mixed<;>cases Region.departs ops<;>simp
  rw[hdp] at hrt hrg
  simp only[Bool.not_true,Bool.false_or] at hrt hrg
  split
  ·exact main _ _ hrt
  ·exact main _ _ hrg
theorem mq {n0:Nat} {B X:aa} {vs:List PV} (hB:B.length=n0) (hlow:∀(o:Nat) cs,B[o]?=some (.cells cs)→∀ x∈cs,Low n0 x) (hv:∀ v∈vs,Low n0 v):Relab n0 vs (B++X) vs B:=by
 refine⟨by omega,fun o ho=>?_,fun _=>0,fun o h1 h2=>by omega,fun o o' h1 h2 _ _ _=>by omega,rfl,fun q x' x h1 h2=>?_,fun q es o h=>?_⟩
 ·exact⟨(List.getElem?_append_left (by omega)).symm,fun cs hc=>hlow o cs hc⟩
 ·rw[h1] at h2; cases h2
  exact .inl ⟨rfl,hv _ (List.mem_iff_getElem?.2 ⟨q,h1⟩)⟩
 ·have:=hv _ (List.mem_iff_getElem?.2 ⟨q,h⟩)
  cases this with
  | list _ _ ht _=>rw[hB]; exact ht o rfl
def tlL {α:Type} (n0:Nat):List α→Tail
 | []=> .exact
 | _::_=> .tok n0
def hpL {α:Type} (B:aa):List α→aa
 | []=>B
 | _::_=>B++[.tok]
theorem tU {α:Type} {n0:Nat} {l:List α} (h:l≠[]):tlL n0 l = .tok n0:=by cases l<;>first|exact absurd rfl h|rfl
theorem vb {α:Type} {B:aa} {l:List α} (h:l≠[]):hpL B l=B++[.tok]:=by cases l<;>first|exact absurd rfl h|rfl
def lG {α σ:Type} (f:α→List PV) (acc:σ→List α) (I:σ→Prop) (m:σ→Nat) (Q:Ex→Env→aa→Prop) (B:aa) (slots:List Nat) (V:PV→σ→List PV) (s:σ):Ex→List PV→aa→Prop:=fun ex vs H'=>match ex with
 | .normal=>∃ s',m s'<m s∧I s'∧((acc s'=[]∧∃ X,H'=B++X∧vs=V (.list [] .exact) s')∨(acc s'≠[]∧∃ X k,H'=B++X∧(B++X)[k]?=some .tok∧B.length≤k∧vs=V (.list ((acc s').map f) (.tok k)) s'))
 | .exit j=>∃ vs2 H2,WkL vs vs2∧Pad H' H2∧Q (.exit j) (aj slots vs2) H2
 | .ret=>∃ vs2 H2,WkL vs vs2∧Pad H' H2∧Q .ret (aj slots vs2) H2
theorem nu [Dfr] {α σ:Type} {f:α→List PV} {acc:σ→List α} {I:σ→Prop} {m:σ→Nat} {P:Program} {gl:ai} (hgl:az gl) {n:Nat} {Tb:Tab} (hT:aV P gl Tb) {L:iU} {hn:Oper→Nat} {x:Code} (hL:LOk P gl n x [] L) {Q:Ex→Env→aa→Prop} {e:Env} {H:aa} (slots:List Nat) (V:PV→σ→List PV) (B:aa) (s0:σ)
  (hlow:∀(o:Nat) cs,B[o]?=some (.cells cs)→∀ x∈cs,Low B.length x) (hf:∀ s,I s→∀ a∈acc s,∀ x∈f a,Low B.length x)
  (hrv:∀(es:List (List PV)) (s:σ) (k:Nat),I s→(∀ y∈es.flatten,Low B.length y)→RVs B.length k (V (.list es (.tok k)) s) (V (.list es (.tok B.length)) s))
  (hv:∀ s,I s→∀ v∈V (.list [] .exact) s,Low B.length v)
  (h0:I s0) (ha:acc s0=[]) (he:slots.map e=V (.list [] .exact) s0) (hH:H=B)
  (none:∀ s,I s→acc s=[]→Holds (wpc br P gl Tb L hn x [] (aj slots (V (.list [] .exact) s)) B (fun ex e' H'=>lG f acc I m Q B slots V s ex (slots.map e') H')))
  (some:∀ s,I s→acc s≠[]→Holds (wpc br P gl Tb L hn x [] (aj slots (V (.list ((acc s).map f) (.tok B.length)) s)) (B++[.tok]) (fun ex e' H'=>lG f acc I m Q B slots V s ex (slots.map e') H'))):AW P gl n (.loop x) Q e H:=by
 subst hH
 have key:∀ s,I s→∀ ex vs H',lG f acc I m Q H slots V s ex vs H'→oY Q H.length slots I (fun s=>V (.list ((acc s).map f) (tlL H.length (acc s))) s) (fun s=>hpL H (acc s)) m s ex vs H':=by
  intro s hs ex vs H' h
  cases ex with
  | exit j=>exact h
  | ret=>exact h
  | normal=>
   obtain⟨s',h1,h2,h3⟩:=h
   refine⟨s',h1,h2,?_⟩
   rcases h3 with⟨h3,X,rfl,rfl⟩|⟨h3,X,k,rfl,h5,h6,rfl⟩
   ·simp only[h3,List.map_nil,tlL,hpL]
    exact mq rfl hlow (hv s' h2)
   ·have r:=relab_row (X:=X) rfl hlow h6 h5 (hrv _ _ _ h2 (fx fun a ha=>hf s' h2 a ha))
    have e1:=tU (n0:=H.length) h3
    have e2:=vb (B:=H) h3
    rw[← e1,← e2] at r
    exact r
 refine jK hgl (σ:=σ) slots I (fun s=>V (.list ((acc s).map f) (tlL H.length (acc s))) s) (fun s=>hpL H (acc s)) m s0 h0 (by rw[ha]; exact he) (by rw[ha]; rfl) ?_
 intro s hs
 cases hq:acc s with
 | nil=>exact(cP hT x [] hL _ _ _ (none s hs hq).out).mono fun ex e' H' k=>key s hs ex _ H' k
 | cons a l=>
  have hne:acc s≠[]:=by rw[hq]; simp
  have:=(cP hT x [] hL _ _ _ (some s hs hne).out).mono fun ex e' H' k=>key s hs ex _ H' k
  rw[hq] at this
  exact this
theorem jm {P:Program} {gl:ai} {f:FuncId} {args:List PV} {H H1:aa} {K:PV→aa→Prop} (hw:WkH H H1) (h:af P gl f args H1 K):af P gl f args H K:=by
 intro g w vs hS hG hR
 refine(h g w vs (hw.sim hS) hG hR).mono ?_
 rintro e w' ⟨v,g',H',x,rfl,hS',hX,hr,hk⟩
 exact⟨v,g',H',x,rfl,hS',⟨hX.gx,hX.size,fun b hb ho=>hw.own (hX.ow b hb ho),fun b hb ho=>hX.frame b hb fun k=>ho (hw.own k),hX.os,hX.tape,hX.output,fun b q hb hi=>(hX.im b q hb hi).imp id hw.own⟩,hr,hk⟩
theorem kj {P:Program} {gl:ai} {f:FuncId} {args:List PV} {H:aa} {K:PV→aa→Prop} (h:af P gl f args H (fun x H'=>∃ x1 H1,Wk x x1∧WkH H' H1∧K x1 H1)):af P gl f args H K:=by
 intro g w vs hS hG hR
 refine(h g w vs hS hG hR).mono ?_
 rintro e w' ⟨v,g',H',x,rfl,hS',hX,hr,x1,H1,hw,hh,hk⟩
 exact⟨v,g',H1,x1,rfl,hh.sim hS',⟨hX.gx,hX.size,fun b hb ho=>hX.ow b hb (hh.own ho),hX.frame,hX.os,hX.tape,hX.output,hX.im⟩,hw _ _ _ hr,hk⟩
inductive RVb (n0 k:Nat):List PV→List PV→Prop where
 | nil:RVb n0 k [] []
 | same {x:PV} {xs xs':List PV} (h:Low 0 x) (hs:RVb n0 k xs' xs):RVb n0 k (x::xs') (x::xs)
 | vv {o off:Nat} {xs xs':List PV} (h:o<n0) (hs:RVb n0 k xs' xs):RVb n0 k (.ptr o off::xs') (.ptr o off::xs)
 | box {off:Nat} {xs xs':List PV} (hs:RVb n0 k xs' xs):RVb n0 k (.ptr k off::xs') (.ptr n0 off::xs)
section
variable {α:Type} {f:α→List PV} {sz:Nat}
theorem aS (h:∀ a,(f a).length=sz):∀ l:List α,(l.map f).flatten.length=l.length*sz
 | []=>by simp
 | a::l=>by rw[List.map_cons,List.flatten_cons,List.length_append,h,aS h l,List.length_cons,Nat.succ_mul]; omega
theorem dA (h:∀ a,(f a).length=sz) (J:List PV):∀(l:List α) (k:Nat),k≤l.length→((l.map f).flatten++J).drop (k*sz)=((l.drop k).map f).flatten++J
 | l,0,_=>by simp
 | [],k+1,hk=>by simp at hk
 | a::l,k+1,hk=>by
  have e:(k+1)*sz=(f a).length+k*sz:=by rw[h,Nat.succ_mul]; omega
  rw[List.map_cons,List.flatten_cons,List.append_assoc,e,← List.drop_drop,List.drop_left' rfl,dA h J l k (by simpa using hk)]
  rfl
theorem gb (h:∀ a,(f a).length=sz) (J:List PV):∀(l:List α) (k:Nat),k≤l.length→((l.map f).flatten++J).take (k*sz)=((l.take k).map f).flatten
 | l,0,_=>by simp
 | [],k+1,hk=>by simp at hk
 | a::l,k+1,hk=>by
  have e:(k+1)*sz=(f a).length+k*sz:=by rw[h,Nat.succ_mul]; omega
  rw[List.map_cons,List.flatten_cons,List.append_assoc,e,List.take_length_add_append,gb h J l k (by simpa using hk)]
  rfl
theorem iP (h:∀ a,(f a).length=sz) (J:List PV) {l:List α} {k:Nat} (d:α) (hk:k<l.length):((l.map f).flatten++J).drop (k*sz)=f (l.getD k d)++(((l.drop (k+1)).map f).flatten++J):=by
 rw[dA h J l k (by omega),List.drop_eq_getElem_cons hk,List.map_cons,List.flatten_cons,List.append_assoc]
 congr 2
 rw[List.getD_eq_getElem?_getD,List.getElem?_eq_getElem hk]; rfl
theorem bP {C A B X Y:List PV} {n:Nat} (hC:C=A++X++B) (hA:A.length=n) (hX:X.length=Y.length):over C n Y=A++Y++B:=by
 subst hC hA
 unfold over
 rw[show A++X++B=A++(X++B) by rw[List.append_assoc],List.take_left' rfl,show A++(X++B)=(A++X)++B by rw[List.append_assoc],List.drop_left' (by simp[hX])]
end
theorem kW {α:Type} {f:α→List PV} {n:Nat} {l:List α} {J:List PV} (h1:∀ a∈l,∀ x∈f a,Low n x) (h2:∀ x∈J,Low n x):∀ x∈(l.map f).flatten++J,Low n x:=by
 intro x hx
 rcases List.mem_append.1 hx with h|h
 ·exact fx h1 x h
 ·exact h2 x h
theorem kH {P:Program} {gl:ai} (hgl:az gl) {f:FuncId} {args:List PV} {I:aa→Prop} {K:PV→aa→Prop} (hargs:∀ x∈args,Low 0 x∨∃ off,x = .ptr 0 off)
  (h:∀ hh,I hh→gS hh→af P gl f args hh (fun x H'=>∃(I':aa→Prop) (X:aa) (ρ:Nat→Nat),Sub ρ X H'∧ρ 0=0∧I' (bi X)∧gS X∧(Low 0 x∨∃ off,x = .ptr 0 off)∧K x [.abs (whole I')])):af P gl f args [.abs (whole I)] K:=by
 intro g w vs hS hG hR
 obtain⟨⟨g0,hh,h1,h2,h3,h4,h5,h6,h7⟩,h8,h9⟩:=hS.abs 0 _ rfl
 have hn0:0<hh.length:=by obtain⟨cs,e⟩:=h5; exact(List.getElem?_eq_some_iff.1 e).1
 have hgn:g.n=1:=hS.n
 have toR:∀ {x:PV} {v:Value},(Low 0 x∨∃ off,x = .ptr 0 off)→Rel g w x v→Rel g0 w x v:=by
  rintro x v (hl|⟨off,rfl⟩) hr
  ·exact cF hr hl h4
  ·cases hr
   rw[← h6]; exact .ptr 0 off (by rw[h2.n]; exact hn0)
 have hG0:bL g0 w gl:=fun k cs hk=>by
  refine⟨(hG k cs hk).1,fun q x hx=>?_⟩
  obtain⟨k1,c,k2,k3⟩:=(hG k cs hk).2 q x hx
  exact⟨by rw[h4]; exact k1,c,k2,cF k3 (hgl k cs hk x (List.mem_iff_getElem?.2 ⟨q,hx⟩)) h4⟩
 refine(h hh h1 h5 g0 w vs h2 hG0 ⟨hR.1,fun q x v hx hv=>toR (hargs x (List.mem_iff_getElem?.2 ⟨q,hx⟩)) (hR.2 q x v hx hv)⟩).mono ?_
 rintro e w' ⟨v,g1,H',x,rfl,hS1,hX,hv,I',X,ρ,hsub,hρ,hI,hroot,hlow,hk⟩
 have hn1:0<X.length:=by obtain⟨cs,e⟩:=hroot; exact(List.getElem?_eq_some_iff.1 e).1
 have hS3:=hsub.sim hS1
 have hbk0:(g1.through ρ X.length).bk 0=g1.bk 0:=by show g1.bk (ρ 0)=_; rw[hρ]
 have hbk1:g1.bk 0=g.bk 0:=(hX.gx.bk 0 (by rw[h2.n]; exact hn0)).trans h6
 let g2:Gh:=⟨1,fun _=>g1.bk 0,g.en,g.sz,g1.imm,fun _=>own (g1.through ρ X.length) (bi X)⟩
 have hSn:=hS3.bi
 obtain⟨cs0,hcs0⟩:=hroot.bi
 have own2:∀ b,own g2 [.abs (whole I')] b↔own (g1.through ρ X.length) (bi X) b:=fun b=>by
  constructor
  ·rintro⟨o,ob,k1,k2,k3⟩
   have:o=0:=by have:=(List.getElem?_eq_some_iff.1 k1).1; simpa using this
   subst this
   cases k1
   exact k3
  ·intro k; exact⟨0,_,rfl,rfl,k⟩
 have own0:∀ b,own g0 hh b→own g [.abs (whole I)] b:=fun b k=>⟨0,_,rfl,rfl,(h7 b).2 k⟩
 have hgx:aQ g w g2 w':=by
  refine⟨by rw[hgn]; exact Nat.le_refl _,fun o ho=>?_,fun _ _=>rfl,fun _ _=>rfl,fun b q k=>?_,fun b q k=>?_⟩
  ·have:o=0:=by omega
   subst this; exact hbk1
  ·exact hX.gx.imm b q (by rw[h4]; exact k)
  ·exact hX.gx.cell b q (by rw[h4]; exact k)
 refine⟨v,g2,[.abs (whole I')],x,rfl,?_,?_,?_,hk⟩
 ·refine⟨rfl,fun o o' ob ob' b k1 k2 _ _ _ _=>?_,fun o cs k1=>?_,fun o k1=>?_,hS1.imm,fun o r k1=>?_⟩
  ·have e1:=(List.getElem?_eq_some_iff.1 k1).1
   have e2:=(List.getElem?_eq_some_iff.1 k2).1
   simp at e1 e2; omega
  ·have e1:=(List.getElem?_eq_some_iff.1 k1).1
   have:o=0:=by simpa using e1
   subst this; cases k1
  ·have e1:=(List.getElem?_eq_some_iff.1 k1).1
   have:o=0:=by simpa using e1
   subst this; cases k1
  ·have e1:=(List.getElem?_eq_some_iff.1 k1).1
   have:o=0:=by simpa using e1
   subst this
   cases k1
   exact⟨⟨g1.through ρ X.length,bi X,hI,hSn,fm _,rfl,⟨cs0,hcs0⟩,hbk0,fun _=>Iff.rfl⟩,⟨0,_,hcs0,rfl,hbk0⟩,fun b hb=>⟨b9 hSn hb,fun q=>jO hSn (fm _) hb q⟩⟩
 ·exact⟨hgx,hX.size,fun b hb ho=>own0 b (hX.ow b hb (hsub.own (jv ((own2 b).1 ho)))),fun b hb ho=>hX.frame b hb (fun k=>ho (own0 b k)),hX.os,hX.tape,hX.output,
   fun b q hb hi=>(hX.im b q hb hi).elim (fun k=> .inl (by rw[← h4]; exact k)) (fun k=> .inr (own0 b k))⟩
 ·rcases hlow with hl|⟨off,rfl⟩
  ·exact cF hv hl rfl
  ·cases hv
   exact .ptr (g:=g2) 0 off Nat.zero_lt_one
theorem ki {P:Program} {gl:ai} {f:FuncId} {args:List PV} {K:PV→aa→Prop}
  (h:af P gl f args [] (fun x H'=>∃(I':aa→Prop) (X:aa) (ρ:Nat→Nat),Sub ρ X H'∧ρ 0=0∧I' (bi X)∧gS X∧(∃ off,x = .ptr 0 off)∧K x [.abs (whole I')])):af P gl f args [] K:=by
 intro g w vs hS hG hR
 refine(h g w vs hS hG hR).mono ?_
 rintro e w' ⟨v,g1,H',x,rfl,hS1,hX,hv,I',X,ρ,hsub,hρ,hI,hroot,⟨off,rfl⟩,hk⟩
 have hn1:0<X.length:=by obtain⟨cs,e⟩:=hroot; exact(List.getElem?_eq_some_iff.1 e).1
 have hS3:=hsub.sim hS1
 have hbk0:(g1.through ρ X.length).bk 0=g1.bk 0:=by show g1.bk (ρ 0)=_; rw[hρ]
 have hgn:g.n=0:=hS.n
 let g2:Gh:=⟨1,fun _=>g1.bk 0,g.en,g.sz,g1.imm,fun _=>own (g1.through ρ X.length) (bi X)⟩
 have hSn:=hS3.bi
 obtain⟨cs0,hcs0⟩:=hroot.bi
 have own2:∀ b,own g2 [.abs (whole I')] b↔own (g1.through ρ X.length) (bi X) b:=fun b=>by
  constructor
  ·rintro⟨o,ob,k1,k2,k3⟩
   have:o=0:=by have:=(List.getElem?_eq_some_iff.1 k1).1; simpa using this
   subst this
   cases k1
   exact k3
  ·intro k; exact⟨0,_,rfl,rfl,k⟩
 have hgx:aQ g w g2 w':=⟨by rw[hgn]; exact Nat.zero_le _,fun o ho=>absurd ho (by rw[hgn]; exact Nat.not_lt_zero _),fun _ _=>rfl,fun _ _=>rfl,hX.gx.imm,hX.gx.cell⟩
 refine⟨v,g2,[.abs (whole I')],_,rfl,?_,?_,?_,hk⟩
 ·refine⟨rfl,fun o o' ob ob' b k1 k2 _ _ _ _=>?_,fun o cs k1=>?_,fun o k1=>?_,hS1.imm,fun o r k1=>?_⟩
  ·have e1:=(List.getElem?_eq_some_iff.1 k1).1
   have e2:=(List.getElem?_eq_some_iff.1 k2).1
   simp at e1 e2; omega
  ·have e1:=(List.getElem?_eq_some_iff.1 k1).1
   have:o=0:=by simpa using e1
   subst this; cases k1
  ·have e1:=(List.getElem?_eq_some_iff.1 k1).1
   have:o=0:=by simpa using e1
   subst this; cases k1
  ·have e1:=(List.getElem?_eq_some_iff.1 k1).1
   have:o=0:=by simpa using e1
   subst this
   cases k1
   exact⟨⟨g1.through ρ X.length,bi X,hI,hSn,fm _,rfl,⟨cs0,hcs0⟩,hbk0,fun _=>Iff.rfl⟩,⟨0,_,hcs0,rfl,hbk0⟩,fun b hb=>⟨b9 hSn hb,fun q=>jO hSn (fm _) hb q⟩⟩
 ·exact⟨hgx,hX.size,fun b hb ho=>hX.ow b hb (hsub.own (jv ((own2 b).1 ho))),fun b hb ho=>hX.frame b hb ho,hX.os,hX.tape,hX.output,hX.im⟩
 ·cases hv
  exact .ptr (g:=g2) 0 off Nat.zero_lt_one
theorem iL {P:Program} {gl:ai} (hgl:az gl) {f:FuncId} {args0 args:List PV} {H:aa} {o:Nat} {I:aa→Prop} {K:PV→aa→Prop} (ho:H[o]?=some (.abs (whole I)))
  (hargs0:∀ x∈args0,Low 0 x∨∃ off,x = .ptr 0 off) (hargs:aJ (fun _=>o) 1 args0 args)
  (h:∀ hh,I hh→gS hh→af P gl f args0 hh (fun x H'=>∃(I':aa→Prop) (X:aa) (ρ:Nat→Nat),Sub ρ X H'∧ρ 0=0∧I' (bi X)∧gS X∧Low 0 x∧K x (H.set o (.abs (whole I'))))):af P gl f args H K:=by
 have hol:o<H.length:=(List.getElem?_eq_some_iff.1 ho).1
 have hsub:Sub (fun _=>o) [.abs (whole I)] H:=by
  refine⟨fun _ _=>hol,fun a b h1 h2 _=>?_,fun j a h1=>?_⟩
  ·simp at h1 h2; omega
  ·have e1:=(List.getElem?_eq_some_iff.1 h1).1
   have:j=0:=by simpa using e1
   subst this; cases h1
   exact⟨_,ho,.abs _⟩
 refine aD hgl hsub hargs (kH hgl hargs0 fun hh h1 h2=>?_)
 intro g w vs hS hG hR
 refine(h hh h1 h2 g w vs hS hG hR).mono ?_
 rintro e w' ⟨v,g',H',x,rfl,hS',hX,hv,I',X,ρ,j1,j2,k1,k2,k3,k4⟩
 refine⟨v,g',H',x,rfl,hS',hX,hv,I',X,ρ,j1,j2,k1,k2,.inl k3,x,H.set o (.abs (whole I')),⟨Nat.le_refl _,by simp,fun j a h1=>?_,fun o' h1 h2=>?_⟩,.low k3,k4⟩
 ·have e1:=(List.getElem?_eq_some_iff.1 h1).1
  have:j=0:=by simpa using e1
  subst this; cases h1
  exact⟨_,by simp[aF,hol],.abs _,fun _=>rfl⟩
 ·rw[List.getElem?_set_ne]
  exact h2 0 (by simp)
theorem kp {P:Program} {gl:ai} (hgl:az gl) {f:FuncId} {args:List PV} {H:aa} {K:PV→aa→Prop} (hargs:∀ x∈args,Low 0 x)
  (h:af P gl f args [] (fun x H'=>∃(I':aa→Prop) (X:aa) (ρ:Nat→Nat),Sub ρ X H'∧ρ 0=0∧I' (bi X)∧gS X∧x = .ptr 0 0∧K (.ptr H.length 0) (H++[.abs (whole I')]))):af P gl f args H K:=by
 have hsub:Sub (fun _=>0) [] H:=⟨fun o h=>absurd h (Nat.not_lt_zero _),fun o _ h=>absurd h (Nat.not_lt_zero _),fun o a h=>by simp at h⟩
 refine aD hgl hsub (aJ.low hargs) (ki ?_)
 intro g w vs hS hG hR
 refine(h g w vs hS hG hR).mono ?_
 rintro e w' ⟨v,g',H',x,rfl,hS',hX,hv,I',X,ρ,j1,j2,k1,k2,rfl,k4⟩
 refine⟨v,g',H',_,rfl,hS',hX,hv,I',X,ρ,j1,j2,k1,k2,⟨0,rfl⟩,.ptr H.length 0,H++[.abs (whole I')],⟨Nat.zero_le _,by simp,fun j a h1=>?_,fun o' h1 _=>?_⟩,?_,k4⟩
 ·have e1:=(List.getElem?_eq_some_iff.1 h1).1
  have:j=0:=by simpa using e1
  subst this; cases h1
  refine⟨_,?_,.abs _,fun _=>rfl⟩
  simp[aF]
 ·rw[List.getElem?_append_left h1]
 ·have:=Ren.ptr (ρ:=aF (fun _=>0) ([]:aa).length H.length) (n:=[Ob.abs (whole I')].length) 0 0 (by simp)
  simpa[aF] using this
theorem sub_one {cs:List PV} (T:aa) (h:∀ x∈cs,Low 0 x):Sub (fun _=>0) [.cells cs] (.cells cs::T):=by
 refine⟨fun o _=>by simp,fun o o' h1 h2 _=>by simp at h1 h2; omega,fun o a h1=>?_⟩
 have e1:=(List.getElem?_eq_some_iff.1 h1).1
 have:o=0:=by simpa using e1
 subst this; cases h1
 exact⟨_,rfl,.cells (aJ.low h)⟩
theorem sY {cs c1:List PV} {T:aa} {k:Nat} {off len cap:Nat} (hk:T[k]?=some (.cells c1)) (h0:∀ x∈cs,Low 0 x) (h1:∀ x∈c1,Low 0 x):
  Sub (fun o=>if o=0 then 0 else k+1) [.cells (.arr 1 off len cap::cs),.cells c1] (.cells (.arr (k+1) off len cap::cs)::T):=by
 have hkl:=(List.getElem?_eq_some_iff.1 hk).1
 refine⟨fun o _=>by split<;>simp; omega,fun o o' h2 h3 h4=>?_,fun o a h2=>?_⟩
 ·simp at h2 h3
  rcases Nat.eq_zero_or_pos o with rfl|ho
  ·rcases Nat.eq_zero_or_pos o' with rfl|ho'
   ·rfl
   ·rw[if_pos rfl,if_neg (by omega)] at h4; omega
  ·rcases Nat.eq_zero_or_pos o' with rfl|ho'
   ·rw[if_neg (by omega),if_pos rfl] at h4; omega
   ·omega
 ·have e1:=(List.getElem?_eq_some_iff.1 h2).1
  simp at e1
  rcases Nat.eq_zero_or_pos o with rfl|ho
  ·simp only[List.getElem?_cons_zero,Option.some.injEq] at h2
   subst h2
   refine⟨_,by rw[if_pos rfl]; rfl,.cells (.cons ?_ (aJ.low h0))⟩
   have:=Ren.arr (ρ:=fun o=>if o=0 then 0 else k+1) (n:=[Ob.cells (PV.arr 1 off len cap::cs),Ob.cells c1].length) 1 off len cap (by simp)
   simpa using this
  ·have:o=1:=by omega
   subst this
   simp only[List.getElem?_cons_succ,List.getElem?_cons_zero,Option.some.injEq] at h2
   subst h2
   exact⟨.cells c1,by simpa using hk,.cells (aJ.low h1)⟩
def bj {α:Type} (l:List α) (p:Nat) (r:α):List α:=l.take p++r::l.drop p
theorem fl {α:Type} {l:List α} {p:Nat} {r:α} (h:p≤l.length):(bj l p r).length=l.length+1:=by
 simp[bj]; omega
theorem n5 {α:Type} (l:List α) (r:α):bj l l.length r=l++[r]:=by simp[bj]
structure aT (J:List PV) (n:Nat):Prop where
 len:J.length=n
 one:∀ x∈J,x.one=true
 low:∀ x∈J,Low 0 x
theorem aT.drop {J:List PV} {n k:Nat} (h:aT J n):aT (J.drop k) (n-k):=
 ⟨by rw[List.length_drop,h.len],fun x hx=>h.one x (List.mem_of_mem_drop hx),fun x hx=>h.low x (List.mem_of_mem_drop hx)⟩
theorem aT.app {J L:List PV} {n k:Nat} (h:aT J n) (h':aT L k):aT (J++L) (n+k):=
 ⟨by rw[List.length_append,h.len,h'.len],fun x hx=>(List.mem_append.1 hx).elim (h.one x) (h'.one x),fun x hx=>(List.mem_append.1 hx).elim (h.low x) (h'.low x)⟩
theorem aT.tE {z:List PV} (h1:∀ x∈z,x.one=true) (h2:∀ x∈z,Low 0 x) (n:Nat):aT (List.replicate n z).flatten (n*z.length):=by
 refine⟨by simp,fun x hx=>?_,fun x hx=>?_⟩ <;>
 ·obtain⟨y,h3,h4⟩:=List.mem_flatten.1 hx
  rw[(List.mem_replicate.1 h3).2] at h4
  first|exact h1 x h4|exact h2 x h4
theorem aT.cast {J:List PV} {n m:Nat} (h:aT J n) (e:n=m):aT J m:=e▸h
section
variable {α:Type} {f:α→List PV} {sz:Nat}
theorem cZ (l:List α) (p:Nat):(l.map f).flatten=((l.take p).map f).flatten++((l.drop p).map f).flatten:=by
 rw[← List.flatten_append,← List.map_append,List.take_append_drop]
theorem rh (h:∀ a,(f a).length=sz) {l:List α} {J:List PV} (r:α) (hJ:sz≤J.length):
  over ((l.map f).flatten++J) (l.length*sz) (f r)=((bj l l.length r).map f).flatten++J.drop sz:=by
 rw[bP (A:=(l.map f).flatten) (X:=J.take sz) (B:=J.drop sz) (by rw[List.append_assoc,List.take_append_drop]) (aS h l) (by rw[h,List.length_take]; omega)]
 simp[bj]
theorem sR (h:∀ a,(f a).length=sz) {l:List α} {J:List PV} {p:Nat} (r:α) (hp:p<l.length) (hJ:sz≤J.length):
  over (over ((l.map f).flatten++J) ((p+1)*sz) ((((l.map f).flatten++J).drop (p*sz)).take ((l.length-p)*sz))) (p*sz) (f r)=((bj l p r).map f).flatten++J.drop sz:=by
 rw[dA h J l p (by omega),show l.length-p=(l.drop p).length by simp,← aS h (l.drop p),List.take_left' rfl]
 obtain⟨x,t,e⟩:∃ x t,l.drop p=x::t:=⟨_,_,List.drop_eq_getElem_cons hp⟩
 have e1:(l.map f).flatten++J=((l.take p).map f).flatten++f x++((t.map f).flatten++J.take sz)++J.drop sz:=by
  rw[cZ l p,e]; simp
 have e2:(((l.take p).map f).flatten++f x).length=(p+1)*sz:=by
  rw[List.length_append,aS h,h,List.length_take,Nat.min_eq_left (by omega),Nat.succ_mul]
 rw[bP e1 e2 (by rw[e]; simp[h]; omega)]
 rw[bP (A:=((l.take p).map f).flatten) (X:=f x) (B:=((l.drop p).map f).flatten++J.drop sz) (by simp) (by rw[aS h,List.length_take,Nat.min_eq_left (by omega)]) (by rw[h,h])]
 simp[bj]
theorem oD (h:∀ a,(f a).length=sz) {l:List α} {Z:List PV} {p:Nat} (r:α) (hp:p≤l.length) (hZ:(l.length+1-p)*sz≤Z.length):
  over (over (((l.take p).map f).flatten++Z) (p*sz) (f r)) ((p+1)*sz) ((l.drop p).map f).flatten=((bj l p r).map f).flatten++Z.drop ((l.length+1-p)*sz):=by
 have e0:(((l.take p).map f).flatten).length=p*sz:=by rw[aS h,List.length_take,Nat.min_eq_left hp]
 have e3:(l.length+1-p)*sz=sz+(l.length-p)*sz:=by rw[show l.length+1-p=(l.length-p)+1 by omega,Nat.succ_mul]; omega
 rw[bP (A:=((l.take p).map f).flatten) (X:=Z.take sz) (B:=Z.drop sz) (by simp) e0 (by rw[h,List.length_take]; omega)]
 rw[bP (A:=((l.take p).map f).flatten++f r) (X:=(Z.drop sz).take ((l.length-p)*sz)) (B:=Z.drop ((l.length+1-p)*sz)) (by rw[e3,← List.drop_drop,List.append_assoc (_++f r),List.take_append_drop]) (by rw[List.length_append,e0,h,Nat.succ_mul]) (by rw[aS h,List.length_take,List.length_drop,List.length_drop]; omega)]
 simp[bj]
theorem pL (h:∀ a,(f a).length=sz) {l:List α} {J:List PV} {p:Nat} (hp:p<l.length):
  over ((l.map f).flatten++J) (p*sz) ((((l.map f).flatten++J).drop ((p+1)*sz)).take ((l.length-(p+1))*sz))=((l.eraseIdx p).map f).flatten++(f (l.getLast (List.ne_nil_of_length_pos (by omega)))++J):=by
 rw[dA h J l (p+1) (by omega),show l.length-(p+1)=(l.drop (p+1)).length by simp,← aS h (l.drop (p+1)),List.take_left' rfl]
 have hne:l≠[]:=List.ne_nil_of_length_pos (by omega)
 obtain⟨x,t,e⟩:∃ x t,l.drop p=x::t:=⟨_,_,List.drop_eq_getElem_cons hp⟩
 have e':l.drop (p+1)=t:=by rw[← List.drop_drop,e]; rfl
 have el:l=l.take p++x::t:=by rw[← e,List.take_append_drop]
 have hlast:(x::t).getLast (by simp)=l.getLast hne:=by
  have:l.getLast hne=(l.take p++x::t).getLast (by simp):=by congr 1
  rw[this,List.getLast_append_of_ne_nil]
 have e2:f x++(t.map f).flatten=(((x::t).dropLast).map f).flatten++f (l.getLast hne):=by
  have:=List.dropLast_concat_getLast (l:=x::t) (by simp)
  calc f x++(t.map f).flatten=((x::t).map f).flatten:=by simp
   _=(((x::t).dropLast++[(x::t).getLast (by simp)]).map f).flatten:=by rw[this]
   _=_:=by simp[hlast]
 have e1:(l.map f).flatten++J=((l.take p).map f).flatten++(((x::t).dropLast).map f).flatten++(f (l.getLast hne)++J):=by
  rw[cZ l p,e]; simp only[List.map_cons,List.flatten_cons]; rw[e2]; simp
 rw[bP e1 (by rw[aS h,List.length_take,Nat.min_eq_left (by omega)]) (by rw[aS h,aS h,e',List.length_dropLast]; simp)]
 rw[List.eraseIdx_eq_take_drop_succ,e']
 simp
theorem oh (h:∀ a,(f a).length=sz) {l:List α} {J z:List PV} (r:α) (hz:z.length=sz):over ((l.map f).flatten++(f r++J)) (l.length*sz) z=(l.map f).flatten++(z++J):=by
 rw[bP (A:=(l.map f).flatten) (X:=f r) (B:=J) (by simp) (aS h l) (by rw[h,hz])]
 simp
end
def df (I:aa→Prop) (H:aa):Prop:=∃(X:aa) (ρ:Nat→Nat),Sub ρ X H∧ρ 0=0∧I (bi X)∧gS X
theorem gR {P:Program} {gl:ai} (hgl:az gl) {f:FuncId} {args0 args:List PV} {H:aa} {o:Nat} {I I':aa→Prop} {r:PV} (ho:H[o]?=some (.abs (whole I)))
  (hargs0:∀ x∈args0,Low 0 x∨∃ off,x = .ptr 0 off) (hargs:aJ (fun _=>o) 1 args0 args) (hr:Low 0 r)
  (h:∀ hh,I hh→af P gl f args0 hh (fun x H'=>x=r∧df I' H')):af P gl f args H (fun x H'=>x=r∧H'=H.set o (.abs (whole I'))):=by
 refine iL hgl ho hargs0 hargs fun hh h1 _=>?_
 intro g w vs hS hG hR
 refine(h hh h1 g w vs hS hG hR).mono ?_
 rintro e w' ⟨v,g',H',x,rfl,hS',hX,hv,rfl,X,ρ,k1,k2,k3,k4⟩
 exact⟨v,g',H',_,rfl,hS',hX,hv,I',X,ρ,k1,k2,k3,k4,hr,rfl,rfl⟩
theorem nJ {P:Program} {gl:ai} (hgl:az gl) {f:FuncId} {args:List PV} {H:aa} {I':aa→Prop} (hargs:∀ x∈args,Low 0 x)
  (h:af P gl f args [] (fun x H'=>x = .ptr 0 0∧df I' H')):af P gl f args H (fun x H'=>x = .ptr H.length 0∧H'=H++[.abs (whole I')]):=by
 refine kp hgl hargs ?_
 intro g w vs hS hG hR
 refine(h g w vs hS hG hR).mono ?_
 rintro e w' ⟨v,g',H',x,rfl,hS',hX,hv,rfl,X,ρ,k1,k2,k3,k4⟩
 exact⟨v,g',H',_,rfl,hS',hX,hv,I',X,ρ,k1,k2,k3,k4,rfl,rfl,rfl⟩
theorem aA {P:Program} {gl:ai} {f:FuncId} {args:List PV} {H:aa} {K K':PV→aa→Prop} (h:af P gl f args H K) (hk:∀ x H',K x H'→K' x H'):af P gl f args H K':=by
 intro g w vs hS hG hR
 refine(h g w vs hS hG hR).mono ?_
 rintro e w' ⟨v,g',H',x,rfl,hS',hX,hv,k⟩
 exact⟨v,g',H',x,rfl,hS',hX,hv,hk _ _ k⟩
theorem jQ {rest:List PV} (h:∀ x∈rest,Low 0 x):∀ x∈PV.ptr 0 0::rest,Low 0 x∨∃ off,x = .ptr 0 off:=by
 intro x hx
 rcases List.mem_cons.1 hx with rfl|hx
 ·exact .inr ⟨0,rfl⟩
 ·exact .inl (h x hx)
theorem lm {rest:List PV} (q:Nat) (h:∀ x∈rest,Low 0 x):aJ (fun _=>q) 1 (.ptr 0 0::rest) (.ptr q 0::rest):=
 .cons (.ptr (ρ:=fun _=>q) 0 0 Nat.zero_lt_one) (aJ.low h)
theorem cJ {α:Type} {l:List α} {i:Nat} {a:α} (h:l[i]?=some a):l.set i a=l:=by
 obtain⟨h1,rfl⟩:=List.getElem?_eq_some_iff.1 h
 exact List.set_getElem_self h1
theorem jx {P:Program} {gl:ai} (hgl:az gl) {f:FuncId} {rest:List PV} {H:aa} {q:Nat} {I I':aa→Prop} {r:PV} {K:PV→aa→Prop} (ho:bB H q (whole I)) (hrest:∀ x∈rest,Low 0 x) (hr:Low 0 r)
  (h:∀ hh,I hh→af P gl f (.ptr 0 0::rest) hh (fun x H'=>x=r∧df I' H')) (hk:K r (H.set q (.abs (whole I')))):af P gl f (.ptr q 0::rest) H K:=
 aA (gR hgl ho (jQ hrest) (lm q hrest) hr h) fun _ _ e=>e.1▸e.2▸hk
theorem jr {P:Program} {gl:ai} (hgl:az gl) {f:FuncId} {rest:List PV} {H:aa} {q:Nat} {I:aa→Prop} {r:PV} (ho:bB H q (whole I)) (hrest:∀ x∈rest,Low 0 x) (hr:Low 0 r)
  (h:∀ hh,I hh→af P gl f (.ptr 0 0::rest) hh (fun x H'=>x=r∧df I H')):af P gl f (.ptr q 0::rest) H (fun x H'=>x=r∧H'=H):=
 aA (gR hgl ho (jQ hrest) (lm q hrest) hr h) fun _ _ e=>⟨e.1,by rw[e.2,cJ ho]⟩
inductive SubL (ρ:Nat→Nat) (n:Nat) (H':aa):List Nat→aa→Prop where
 | nil:SubL ρ n H' [] []
 | cons {p:Nat} {ps:List Nat} {a b:Ob} {X:aa} (hb:H'[p]?=some b) (hr:cW ρ n a b) (t:SubL ρ n H' ps X):SubL ρ n H' (p::ps) (a::X)
theorem WkL.refl:∀(l:List PV),WkL l l
 | []=> .nil
 | x::xs=> .cons (.refl x) (WkL.refl xs)
def cr (H:aa) (q r:Nat) (R:Rep):Prop:=H[q]?=some (.cells [.ptr r 0])∧H[r]?=some (.abs R)
theorem fq {H:aa} {q r:Nat} {R:Rep} (h:cr H q r R):Sub (fun o=>if o=0 then q else r) [.cells [.ptr 1 0],.abs R] H:=by
 obtain⟨h1,h2⟩:=h
 have hq:=(List.getElem?_eq_some_iff.1 h1).1
 have hr:=(List.getElem?_eq_some_iff.1 h2).1
 have hne:q≠r:=fun e=>by subst e; rw[h1] at h2; cases h2
 refine⟨fun o _=>by split<;>assumption,fun o o' k1 k2 e=>?_,fun o a ho=>?_⟩
 ·simp at k1 k2
  split at e<;>split at e<;>first|omega|(exact absurd e hne)|(exact absurd e.symm hne)
 ·have k1:=(List.getElem?_eq_some_iff.1 ho).1
  simp at k1
  have:o=0∨o=1:=by omega
  rcases this with rfl|rfl
  ·cases ho
   refine⟨_,h1,.cells (.cons ?_ .nil)⟩
   exact .ptr (ρ:=fun o=>if o=0 then q else r) 1 0 (by simp)
  ·cases ho
   exact⟨_,h2,.abs _⟩
theorem dm {P:Program} {gl:ai} (hgl:az gl) {f:FuncId} {rest:List PV} {H:aa} {q r:Nat} {R R':Rep} {x0:PV} {K:PV→aa→Prop} (ho:cr H q r R) (hrest:∀ x∈rest,Low 0 x) (hx:Low 0 x0)
  (h:af P gl f (.ptr 0 0::rest) [.cells [.ptr 1 0],.abs R] (fun x H'=>x=x0∧∃ G,H' = .cells [.ptr 1 0] :: .abs R'::G)) (hk:K x0 (H.set r (.abs R'))):af P gl f (.ptr q 0::rest) H K:=by
 have hq:=(List.getElem?_eq_some_iff.1 ho.1).1
 have hr:=(List.getElem?_eq_some_iff.1 ho.2).1
 have hne:q≠r:=fun e=>by have h1:=ho.1; rw[e,ho.2] at h1; cases h1
 have h1:af P gl f (.ptr 0 0::rest) [.cells [.ptr 1 0],.abs R] (fun x H'=>x=x0∧H'=[.cells [.ptr 1 0],.abs R']):=by
  refine h.forget fun x H' hh=>?_
  obtain⟨rfl,G,rfl⟩:=hh
  refine⟨[.cells [.ptr 1 0],.abs R'],G,rfl,rfl,hx.up,fun o cs ho'=>?_,rfl,rfl⟩
  have k1:=(List.getElem?_eq_some_iff.1 ho').1
  simp at k1
  have:o=0∨o=1:=by omega
  rcases this with rfl|rfl
  ·cases ho'; exact .inl rfl
  ·cases ho'
 refine aD hgl (fq ho) (.cons (.ptr (ρ:=fun o=>if o=0 then q else r) 0 0 (by simp)) (aJ.low hrest)) (aA h1 fun x H' e=>?_)
 obtain⟨rfl,rfl⟩:=e
 refine⟨x,H.set r (.abs R'),⟨Nat.le_refl _,by simp,fun o a ho'=>?_,fun o hl hn=>?_⟩,.low hx,hk⟩
 ·have k1:=(List.getElem?_eq_some_iff.1 ho').1
  simp at k1
  have:o=0∨o=1:=by omega
  rcases this with rfl|rfl
  ·cases ho'
   refine⟨.cells [.ptr r 0],?_,.cells (.cons ?_ .nil),fun _=>rfl⟩
   ·simp only[aF,List.length_cons,List.length_nil]
    rw[if_pos (by omega),if_pos trivial,List.getElem?_set_ne (Ne.symm hne)]
    exact ho.1
   ·have:=Ren.ptr (ρ:=aF (fun o=>if o=0 then q else r) 2 H.length) (n:=2) 1 0 (by decide)
    simpa[aF] using this
  ·cases ho'
   refine⟨.abs R',?_,.abs _,fun _=>rfl⟩
   simp only[aF,List.length_cons,List.length_nil]
   rw[if_pos (by omega),if_neg (by decide),List.getElem?_set_self hr]
 ·have:=hn 1 (by simp)
  simp at this
  rw[List.getElem?_set_ne this]
theorem gg {P:Program} {gl:ai} (hgl:az gl) {f:FuncId} {rest:List PV} {H:aa} {q r:Nat} {R:Rep} {x0:PV} (ho:cr H q r R) (hrest:∀ x∈rest,Low 0 x) (hx:Low 0 x0)
  (h:af P gl f (.ptr 0 0::rest) [.cells [.ptr 1 0],.abs R] (fun x H'=>x=x0∧∃ G,H' = .cells [.ptr 1 0] :: .abs R::G)):af P gl f (.ptr q 0::rest) H (fun x H'=>x=x0∧H'=H):=
 dm hgl ho hrest hx h ⟨rfl,cJ ho.2⟩
inductive Lid (n:Nat):PV→Prop where
 | low {x:PV} (h:Low 0 x):Lid n x
 | arr (o off len cap:Nat) (h:o<n):Lid n (.arr o off len cap)
 | ptr (o off:Nat) (h:o<n):Lid n (.ptr o off)
theorem Lid.ren {n:Nat} {x:PV} (h:Lid n x) {ρ:Nat→Nat} (hρ:∀ o,o<n→ρ o=o):Ren ρ n x x:=by
 cases h with
 | low h=>exact .low h
 | arr o off len cap h=>
  have:=Ren.arr (ρ:=ρ) (n:=n) o off len cap h
  rwa [hρ o h] at this
 | ptr o off h=>
  have:=Ren.ptr (ρ:=ρ) (n:=n) o off h
  rwa [hρ o h] at this
theorem g9 {n:Nat} {ρ:Nat→Nat} (hρ:∀ o,o<n→ρ o=o):∀ {xs:List PV},(∀ x∈xs,Lid n x)→aJ ρ n xs xs
 | [],_=> .nil
 | x::xs,h=> .cons ((h x (by simp)).ren hρ) (g9 hρ fun y hy=>h y (by simp[hy]))
def jp (n:Nat) (X:aa):Prop:=∀(o:Nat) cs,X[o]?=some (.cells cs)→∀ x∈cs,Lid n x
theorem qz {n N:Nat} {ρ:Nat→Nat} (hρ:∀ o,o<n→ρ o=o) {X:aa} (h:jp n X) {o:Nat} {a:Ob} (ho:X[o]?=some a) (hN:N=n):cW ρ N a a:=by
 subst hN
 cases a with
 | cells cs=>exact .cells (g9 hρ (h o cs ho))
 | tok=>exact .tok
 | dead=>exact .dead _
 | abs r=>exact .abs _
theorem pI {X G:aa} (h:jp X.length X):Sub (fun o=>o) X (X++G):=
 ⟨fun o h=>by rw[List.length_append]; omega,fun _ _ _ _ e=>e,fun o a ho=>⟨a,bp ho,qz (fun _ _=>rfl) h ho rfl⟩⟩
theorem cz {X G:aa} {o:Nat} (h:o<X.length):aF (fun o=>o) X.length (X++G).length o=o:=by
 unfold aF; rw[if_pos h]
theorem gA {X X' G:aa} (hl:X'.length=X.length) (h:jp X.length X'):Behind (fun o=>o) X (X++G) X' (X'++G):=by
 refine⟨by omega,by simp[hl],fun o a ho=>?_,fun o h1 h2=>?_⟩
 ·have hlt:=(List.getElem?_eq_some_iff.1 ho).1
  refine⟨a,by rw[cz (by omega)]; exact bp ho,qz (n:=X.length) (fun q hq=>cz hq) h ho hl,fun h=>h⟩
 ·rcases Nat.lt_or_ge o X.length with q|q
  ·exact absurd rfl (h2 o q)
  ·rw[List.getElem?_append_right (by omega),List.getElem?_append_right q,hl]
theorem jP {X X' G:aa} {n:List PV} (hl:X'.length=X.length) (h:jp X.length X') (hn:∀ x∈n,Low 0 x):Behind (fun o=>o) X (X++G) (X'++[.cells n]) (X'++G++[.cells n]):=by
 refine⟨by simp[hl],by simp[hl]; omega,fun o a ho=>?_,fun o h1 h2=>?_⟩
 ·have hlt:=(List.getElem?_eq_some_iff.1 ho).1
  rw[List.length_append,List.length_singleton] at hlt
  rcases Nat.lt_or_ge o X.length with q|q
  ·rw[List.getElem?_append_left (by omega)] at ho
   refine⟨a,by rw[cz q,List.append_assoc]; exact bp ho,?_,fun h=>h⟩
   cases a with
   | cells cs=>
    have hh:=h o cs ho
    refine .cells ?_
    have:∀ {xs:List PV},(∀ x∈xs,Lid X.length x)→aJ (aF (fun o=>o) X.length (X++G).length) (X'++[Ob.cells n]).length xs xs:=by
     intro xs
     induction xs with
     | nil=>intro _; exact .nil
     | cons x xs ih=>
      intro hx
      refine .cons ?_ (ih fun y hy=>hx y (by simp[hy]))
      have h0:=hx x (by simp)
      cases h0 with
      | low h=>exact .low h
      | arr o off len cap h=>
       have:=Ren.arr (ρ:=aF (fun o=>o) X.length (X++G).length) (n:=(X'++[Ob.cells n]).length) o off len cap (by simp; omega)
       rwa [cz h] at this
      | ptr o off h=>
       have:=Ren.ptr (ρ:=aF (fun o=>o) X.length (X++G).length) (n:=(X'++[Ob.cells n]).length) o off (by simp; omega)
       rwa [cz h] at this
    exact this hh
   | tok=>exact .tok
   | dead=>exact .dead _
   | abs r=>exact .abs _
  ·have e:o=X'.length:=by omega
   subst e
   rw[List.getElem?_append_right (Nat.le_refl _),Nat.sub_self] at ho
   cases ho
   refine⟨.cells n,?_,.cells (aJ.low hn),fun h=>h⟩
   have:aF (fun o=>o) X.length (X++G).length X'.length=(X'++G).length:=by unfold aF; rw[if_neg (by omega)]; simp[hl]
   rw[this,List.getElem?_append_right (Nat.le_refl _),Nat.sub_self]; rfl
 ·rcases Nat.lt_or_ge o X.length with q|q
  ·exact absurd rfl (h2 o q)
  ·rw[List.length_append] at h1
   rw[List.getElem?_append_left (by simp; omega),List.getElem?_append_right (by omega),List.getElem?_append_right q,hl]
theorem lK {X X' G:aa} (hl:X'.length=X.length) {n:List PV} {len cap:Nat}:Ren (aF (fun o=>o) X.length (X++G).length) (X'++[Ob.cells n]).length (.arr X.length 0 len cap) (.arr (X.length+G.length) 0 len cap):=by
 have:=Ren.arr (ρ:=aF (fun o=>o) X.length (X++G).length) (n:=(X'++[Ob.cells n]).length) X.length 0 len cap (by simp; omega)
 have e:aF (fun o=>o) X.length (X++G).length X.length=X.length+G.length:=by unfold aF; rw[if_neg (by omega)]; simp
 rwa [e] at this
theorem de {P:Program} {gl:ai} (hgl:az gl) {f:FuncId} {args:List PV} {X G:aa} {K:PV→aa→Prop} (ha:∀ x∈args,Lid X.length x) (hX:jp X.length X)
  (h:af P gl f args X (fun x X'=>∃ y H',Behind (fun o=>o) X (X++G) X' H'∧Ren (aF (fun o=>o) X.length (X++G).length) X'.length x y∧K y H')):af P gl f args (X++G) K:=
 aD hgl (pI hX) (g9 (fun _ _=>rfl) ha) h
theorem eS {P:Program} {gl:ai} (hgl:az gl) {f:FuncId} {args:List PV} {X G:aa} {r:PV} (ha:∀ x∈args,Lid X.length x) (hX:jp X.length X) (hr:Low 0 r)
  (h:af P gl f args X (fun x H'=>x=r∧H'=X)):af P gl f args (X++G) (fun x H'=>x=r∧H'=X++G):=
 de hgl ha hX (aA h fun x H' e=>⟨r,X++G,by rw[e.2]; exact gA rfl hX,by rw[e.1]; exact .low hr,rfl,rfl⟩)
theorem iX {n:Nat} {a b:List PV} (ha:∀ x∈a,Lid n x) (hb:∀ x∈b,Lid n x):jp n [.cells a,.cells b]:=by
 intro o cs ho
 have k1:=(List.getElem?_eq_some_iff.1 ho).1
 simp at k1
 have:o=0∨o=1:=by omega
 rcases this with rfl|rfl
 ·cases ho; exact ha
 ·cases ho; exact hb
theorem om {n:Nat} {a:List PV} (ha:∀ x∈a,Lid n x):jp n [.cells a]:=by
 intro o cs ho
 have k1:=(List.getElem?_eq_some_iff.1 ho).1
 simp at k1
 subst k1
 cases ho; exact ha
end Go.AM
