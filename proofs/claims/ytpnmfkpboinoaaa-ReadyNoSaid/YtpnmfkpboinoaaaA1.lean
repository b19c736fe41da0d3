/-
  An abstract machine over values without memory, proved against the model, part 1: a tool for this claim; it states nothing of the program.
-/
import Derived.Calls
import Derived.KernelRfl
import Derived.Laws.Sem
import Derived.Laws.World
import Derived.Laws.StructEq
import Derived.Laws.Append
import Derived.Laws.AppendOwn
import Derived.Laws.MakeOwn
import Derived.Deep.LoopGhost
namespace Go.AM
open Go
inductive Tail where
 | no
 | exact
 | tok (o:Nat)
inductive PV where
 | any
 | bool (b:Bool)
 | int (k:IntKind) (n:Int)
 | str (s:ByteArray)
 | list (es:List (List PV)) (t:Tail)
 | arr (o off len cap:Nat)
 | ptr (o off:Nat)
 | iptr (cs:List PV)
 | nilptr
 | nilfn
 | fn (f:Nat) (caps:List PV)
 | agg (cs:List PV)
 | tup (vs:List PV)
structure Rep where
 R:World→(Nat→Nat→Prop)→Nat→(Nat→Prop)→Prop
 st:∀ {w w':World} {imm imm':Nat→Nat→Prop} {b:Nat} {F:Nat→Prop},R w imm b F→(∀ b',F b'→w'.heap[b']?=w.heap[b']?)→(∀ b' q,imm b' q→imm' b' q)→
  (∀ b' q,imm b' q→w'.cell? ⟨b',q,none⟩=w.cell? ⟨b',q,none⟩)→(∀ b' q,F b'→¬ imm' b' q)→w.heap.size≤w'.heap.size→(∀ b' q,imm' b' q→b'<w'.heap.size)→R w' imm' b F
inductive Ob where
 | cells (cs:List PV)
 | tok
 | dead
 | abs (r:Rep)
abbrev PV.I (n:Int):PV:= .int .i64 n
abbrev PV.U (n:Int):PV:= .int .u32 n
abbrev PV.E:PV:= .list [] .exact
abbrev aa:=List Ob
abbrev Env:=Nat→PV
structure Gh where
 n:Nat
 bk:Nat→Nat
 en:Nat→Nat
 sz:Nat→Nat
 imm:Nat→Nat→Prop
 fp:Nat→Nat→Prop
def dF (g:Gh) (a:Option Addr) (len flat cap:Nat):Tail→Prop
 | .no=>True
 | .exact=>cap=len
 | .tok o=>o<g.n∧∃ A s,a=some A∧A.spot=none∧A.block=g.bk o∧A.off+flat=g.en o∧0<len∧flat=len*s∧A.off+cap*s≤g.sz o
def At (A:Addr) (q:Nat):Addr:=⟨A.block,A.off+q,none⟩
inductive Rel (g:Gh) (w:World):PV→Value→Prop where
 | any (v:Value):Rel g w .any v
 | bool (b:Bool):Rel g w (.bool b) (.bool b)
 | int (k:IntKind) (n:Int):Rel g w (.int k n) (.int k n)
 | str (s:ByteArray):Rel g w (.str s) (.string s)
 | list (es:List (List PV)) (t:Tail) (a:Option Addr) (cap:Nat) (cv:Nat→Value)
   (hu:∀ e∈es,∀ e'∈es,e.length=e'.length) (hl:es.length≤cap)
   (ht:dF g a es.length es.flatten.length cap t)
   (hc:∀ q,q<es.flatten.length→∃ A,a=some A∧A.spot=none∧g.imm A.block (A.off+q)∧w.cell? (At A q)=some (cv q))
   (hr:∀ q x,es.flatten[q]?=some x→Rel g w x (cv q)):Rel g w (.list es t) (.slice a es.length cap)
 | arr (o off len cap:Nat) (ho:o<g.n):Rel g w (.arr o off len cap) (.slice (some ⟨g.bk o,off,none⟩) len cap)
 | ptr (o off:Nat) (ho:o<g.n):Rel g w (.ptr o off) (.pointer (some ⟨g.bk o,off,none⟩))
 | iptr (cs:List PV) (A:Addr) (cv:Nat→Value) (hs:A.spot=none)
   (hc:∀ q,q<cs.length→g.imm A.block (A.off+q)∧w.cell? (At A q)=some (cv q))
   (hr:∀ q x,cs[q]?=some x→Rel g w x (cv q)):Rel g w (.iptr cs) (.pointer (some A))
 | nilptr:Rel g w .nilptr (.pointer none)
 | nilfn:Rel g w .nilfn .nilFunc
 | fn (f:Nat) (caps:List PV) (vs:Array Value) (cv:Nat→Value) (hs:vs.size=caps.length) (hc:∀ q,q<caps.length→vs[q]?=some (cv q))
   (hr:∀ q x,caps[q]?=some x→Rel g w x (cv q)):Rel g w (.fn f caps) (.func (.func f) #[] vs)
 | agg (cs:List PV) (vs:Array Value) (cv:Nat→Value) (hs:vs.size=cs.length) (hc:∀ q,q<cs.length→vs[q]?=some (cv q))
   (hr:∀ q x,cs[q]?=some x→Rel g w x (cv q)):Rel g w (.agg cs) (.agg vs)
 | tup (cs:List PV) (vs:Array Value) (cv:Nat→Value) (hs:vs.size=cs.length) (hc:∀ q,q<cs.length→vs[q]?=some (cv q))
   (hr:∀ q x,cs[q]?=some x→Rel g w x (cv q)):Rel g w (.tup cs) (.tuple vs)
structure aQ (g:Gh) (w:World) (g':Gh) (w':World):Prop where
 n:g.n≤g'.n
 bk:∀ o,o<g.n→g'.bk o=g.bk o
 en:∀ o,o<g.n→g'.en o=g.en o
 sz:∀ o,o<g.n→g'.sz o=g.sz o
 imm:∀ b q,g.imm b q→g'.imm b q
 cell:∀ b q,g.imm b q→w'.cell? ⟨b,q,none⟩=w.cell? ⟨b,q,none⟩
theorem aQ.refl (g:Gh) (w:World):aQ g w g w:=⟨Nat.le_refl _,fun _ _=>rfl,fun _ _=>rfl,fun _ _=>rfl,fun _ _ h=>h,fun _ _ _=>rfl⟩
theorem aQ.trans {g g' g'':Gh} {w w' w'':World} (h:aQ g w g' w') (h':aQ g' w' g'' w''):aQ g w g'' w'':=
 ⟨Nat.le_trans h.n h'.n,fun o ho=>(h'.bk o (Nat.lt_of_lt_of_le ho h.n)).trans (h.bk o ho),fun o ho=>(h'.en o (Nat.lt_of_lt_of_le ho h.n)).trans (h.en o ho),
  fun o ho=>(h'.sz o (Nat.lt_of_lt_of_le ho h.n)).trans (h.sz o ho),
  fun b q hi=>h'.imm b q (h.imm b q hi),fun b q hi=>(h'.cell b q (h.imm b q hi)).trans (h.cell b q hi)⟩
theorem dF.mono {g g':Gh} {w w':World} (hx:aQ g w g' w') {a:Option Addr} {len flat cap:Nat} {t:Tail} (h:dF g a len flat cap t):dF g' a len flat cap t:=by
 cases t with
 | no=>trivial
 | exact=>exact h
 | tok o=>
  obtain⟨ho,A,s,h1,h2,h3,h4,h5,h6,h7⟩:=h
  exact⟨Nat.lt_of_lt_of_le ho hx.n,A,s,h1,h2,by rw[hx.bk o ho,h3],by rw[hx.en o ho,h4],h5,h6,by rw[hx.sz o ho]; exact h7⟩
theorem Rel.mono {g g':Gh} {w w':World} (hx:aQ g w g' w') {x:PV} {v:Value} (h:Rel g w x v):Rel g' w' x v:=by
 induction h with
 | any v=>exact .any v
 | bool b=>exact .bool b
 | int k n=>exact .int k n
 | str s=>exact .str s
 | list es t a cap cv hu hl ht hc hr ih=>
  refine .list es t a cap cv hu hl (ht.mono hx) (fun q hq=>?_) ih
  obtain⟨A,h1,h2,h3,h4⟩:=hc q hq
  exact⟨A,h1,h2,hx.imm _ _ h3,(hx.cell _ _ h3).trans h4⟩
 | arr o off len cap ho=>rw[← hx.bk o ho]; exact .arr o off len cap (Nat.lt_of_lt_of_le ho hx.n)
 | ptr o off ho=>rw[← hx.bk o ho]; exact .ptr o off (Nat.lt_of_lt_of_le ho hx.n)
 | iptr cs A cv hs hc hr ih=>exact .iptr cs A cv hs (fun q hq=>⟨hx.imm _ _ (hc q hq).1,(hx.cell _ _ (hc q hq).1).trans (hc q hq).2⟩) ih
 | nilptr=>exact .nilptr
 | nilfn=>exact .nilfn
 | fn f caps vs cv hs hc hr ih=>exact .fn f caps vs cv hs hc ih
 | agg cs vs cv hs hc hr ih=>exact .agg cs vs cv hs hc ih
 | tup cs vs cv hs hc hr ih=>exact .tup cs vs cv hs hc ih
def PV.cells:PV→Option (List PV)
 | .agg cs=>some cs
 | .any| .tup _=>none
 | x=>some [x]
def aq (g:Gh) (w:World) (xs:List PV) (vs:List Value):Prop:=xs.length=vs.length∧∀(q:Nat) (x:PV) (v:Value),xs[q]?=some x→vs[q]?=some v→Rel g w x v
theorem aq.mono {g g':Gh} {w w':World} (hx:aQ g w g' w') {xs:List PV} {vs:List Value} (h:aq g w xs vs):aq g' w' xs vs:=
 ⟨h.1,fun q x v h1 h2=>(h.2 q x v h1 h2).mono hx⟩
theorem aq.nil {g:Gh} {w:World}:aq g w [] []:=⟨rfl,fun q x v h=>by simp at h⟩
theorem aq.cons {g:Gh} {w:World} {x:PV} {v:Value} {xs:List PV} {vs:List Value} (h:Rel g w x v) (hs:aq g w xs vs):aq g w (x::xs) (v::vs):=by
 refine⟨by simp[hs.1],fun q y u h1 h2=>?_⟩
 cases q with
 | zero=>simp at h1 h2; subst h1; subst h2; exact h
 | succ q=>exact hs.2 q y u (by simpa using h1) (by simpa using h2)
theorem aq.append {g:Gh} {w:World} {xs ys:List PV} {vs us:List Value} (h:aq g w xs vs) (h':aq g w ys us):aq g w (xs++ys) (vs++us):=by
 refine⟨by simp[h.1,h'.1],fun q y u h1 h2=>?_⟩
 by_cases hq:q<xs.length
 ·rw[List.getElem?_append_left hq] at h1
  rw[List.getElem?_append_left (by rw[← h.1]; exact hq)] at h2
  exact h.2 q y u h1 h2
 ·rw[List.getElem?_append_right (Nat.le_of_not_lt hq)] at h1
  rw[List.getElem?_append_right (by rw[← h.1]; exact Nat.le_of_not_lt hq),← h.1] at h2
  exact h'.2 _ y u h1 h2
theorem aq.get {g:Gh} {w:World} {xs:List PV} {vs:List Value} (h:aq g w xs vs) {q:Nat} {x:PV} (hx:xs[q]?=some x):∃ v,vs[q]?=some v∧Rel g w x v:=by
 have hq:q<xs.length:=(List.getElem?_eq_some_iff.1 hx).1
 have hv:q<vs.length:=by rw[← h.1]; exact hq
 exact⟨vs[q],List.getElem?_eq_getElem hv,h.2 q x _ hx (List.getElem?_eq_getElem hv)⟩
theorem aq.take {g:Gh} {w:World} {xs:List PV} {vs:List Value} (h:aq g w xs vs) (n:Nat):aq g w (xs.take n) (vs.take n):=by
 refine⟨by simp[h.1],fun q x v h1 h2=>?_⟩
 rw[List.getElem?_take] at h1 h2
 split at h1
 ·rename_i hq; rw[if_pos hq] at h2; exact h.2 q x v h1 h2
 ·cases h1
theorem aq.drop {g:Gh} {w:World} {xs:List PV} {vs:List Value} (h:aq g w xs vs) (n:Nat):aq g w (xs.drop n) (vs.drop n):=by
 refine⟨by simp[h.1],fun q x v h1 h2=>?_⟩
 rw[List.getElem?_drop] at h1 h2
 exact h.2 _ x v h1 h2
theorem Rel.aP {g:Gh} {w:World} {cs:List PV} {v:Value}:Rel g w (.agg cs) v↔∃ vs:Array Value,v = .agg vs∧aq g w cs vs.toList:=by
 constructor
 ·intro h
  cases h with
  | agg _ vs cv hs hc hr=>
   refine⟨vs,rfl,by simp[hs],fun q x v h1 h2=>?_⟩
   have hq:q<cs.length:=(List.getElem?_eq_some_iff.1 h1).1
   have:=hc q hq
   rw[Array.getElem?_toList] at h2
   rw[this] at h2; cases h2
   exact hr q x h1
 ·rintro⟨vs,rfl,h⟩
  refine .agg cs vs (fun q=>vs.getD q default) (by have:=h.1; simp at this; omega) (fun q hq=>?_) (fun q x hx=>?_)
  ·have:q<vs.size:=by have:=h.1; simp at this; omega
   simp[Array.getD,this]
  ·obtain⟨v,hv,hr⟩:=h.get hx
   rw[Array.getElem?_toList] at hv
   obtain⟨hlt,he⟩:=Array.getElem?_eq_some_iff.1 hv
   simp only[Array.getD,hlt,dif_pos]
   rw[← he] at hr; exact hr
theorem Rel.bJ {g:Gh} {w:World} {cs:List PV} {v:Value}:Rel g w (.tup cs) v↔∃ vs:Array Value,v = .tuple vs∧aq g w cs vs.toList:=by
 constructor
 ·intro h
  cases h with
  | tup _ vs cv hs hc hr=>
   refine⟨vs,rfl,by simp[hs],fun q x v h1 h2=>?_⟩
   have hq:q<cs.length:=(List.getElem?_eq_some_iff.1 h1).1
   have:=hc q hq
   rw[Array.getElem?_toList] at h2
   rw[this] at h2; cases h2
   exact hr q x h1
 ·rintro⟨vs,rfl,h⟩
  refine .tup cs vs (fun q=>vs.getD q default) (by have:=h.1; simp at this; omega) (fun q hq=>?_) (fun q x hx=>?_)
  ·have:q<vs.size:=by have:=h.1; simp at this; omega
   simp[Array.getD,this]
  ·obtain⟨v,hv,hr⟩:=h.get hx
   rw[Array.getElem?_toList] at hv
   obtain⟨hlt,he⟩:=Array.getElem?_eq_some_iff.1 hv
   simp only[Array.getD,hlt,dif_pos]
   rw[← he] at hr; exact hr
theorem Rel.dS {g:Gh} {w:World} {f:Nat} {cs:List PV} {v:Value}:Rel g w (.fn f cs) v↔∃ vs:Array Value,v = .func (.func f) #[] vs∧aq g w cs vs.toList:=by
 constructor
 ·intro h
  cases h with
  | fn _ _ vs cv hs hc hr=>
   refine⟨vs,rfl,by simp[hs],fun q x v h1 h2=>?_⟩
   have hq:q<cs.length:=(List.getElem?_eq_some_iff.1 h1).1
   have:=hc q hq
   rw[Array.getElem?_toList] at h2
   rw[this] at h2; cases h2
   exact hr q x h1
 ·rintro⟨vs,rfl,h⟩
  refine .fn f cs vs (fun q=>vs.getD q default) (by have:=h.1; simp at this; omega) (fun q hq=>?_) (fun q x hx=>?_)
  ·have:q<vs.size:=by have:=h.1; simp at this; omega
   simp[Array.getD,this]
  ·obtain⟨v,hv,hr⟩:=h.get hx
   rw[Array.getElem?_toList] at hv
   obtain⟨hlt,he⟩:=Array.getElem?_eq_some_iff.1 hv
   simp only[Array.getD,hlt,dif_pos]
   rw[← he] at hr; exact hr
def aM (g:Gh) (w:World) (A:Addr) (cs:List PV):Prop:=
 A.spot=none∧∀(q:Nat) (x:PV),cs[q]?=some x→g.imm A.block (A.off+q)∧∃ c,w.cell? (At A q)=some c∧Rel g w x c
theorem Rel.cU {g:Gh} {w:World} {cs:List PV} {v:Value}:Rel g w (.iptr cs) v↔∃ A,v = .pointer (some A)∧aM g w A cs:=by
 constructor
 ·intro h
  cases h with
  | iptr _ A cv hs hc hr=>
   refine⟨A,rfl,hs,fun q x hx=>?_⟩
   have hq:q<cs.length:=(List.getElem?_eq_some_iff.1 hx).1
   exact⟨(hc q hq).1,_,(hc q hq).2,hr q x hx⟩
 ·rintro⟨A,rfl,hs,h⟩
  refine .iptr cs A (fun q=>(w.cell? (At A q)).getD default) hs (fun q hq=>?_) (fun q x hx=>?_)
  ·obtain⟨h1,c,h2,_⟩:=h q cs[q] (List.getElem?_eq_getElem hq)
   exact⟨h1,by rw[h2]; rfl⟩
  ·obtain⟨_,c,h2,h3⟩:=h q x hx
   rw[h2]; exact h3
theorem Rel.an {g:Gh} {w:World} {es:List (List PV)} {t:Tail} {v:Value}:Rel g w (.list es t) v ↔
  ∃ a cap,v = .slice a es.length cap∧(∀ e∈es,∀ e'∈es,e.length=e'.length)∧es.length≤cap∧dF g a es.length es.flatten.length cap t∧
   (es.flatten=[]∨∃ A,a=some A∧aM g w A es.flatten):=by
 constructor
 ·intro h
  cases h with
  | list _ _ a cap cv hu hl ht hc hr=>
   refine⟨a,cap,rfl,hu,hl,ht,?_⟩
   by_cases hf:es.flatten=[]
   ·exact .inl hf
   ·refine .inr ?_
    have h0:0<es.flatten.length:=List.length_pos_iff.2 hf
    obtain⟨A,hA,hs,_,_⟩:=hc 0 h0
    refine⟨A,hA,hs,fun q x hx=>?_⟩
    have hq:q<es.flatten.length:=(List.getElem?_eq_some_iff.1 hx).1
    obtain⟨A',hA',_,h3,h4⟩:=hc q hq
    rw[hA] at hA'; cases hA'
    exact⟨h3,_,h4,hr q x hx⟩
 ·rintro⟨a,cap,rfl,hu,hl,ht,hc⟩
  rcases hc with hf|⟨A,rfl,hs,h⟩
  ·exact .list es t a cap (fun _=>default) hu hl ht (fun q hq=>by rw[hf] at hq; simp at hq) (fun q x hx=>by rw[hf] at hx; simp at hx)
  ·refine .list es t (some A) cap (fun q=>(w.cell? (At A q)).getD default) hu hl ht (fun q hq=>?_) (fun q x hx=>?_)
   ·obtain⟨h1,c,h2,_⟩:=h q es.flatten[q] (List.getElem?_eq_getElem hq)
    exact⟨A,rfl,hs,h1,by rw[h2]; rfl⟩
   ·obtain⟨_,c,h2,h3⟩:=h q x hx
    rw[h2]; exact h3
theorem Rel.iO {g:Gh} {w:World} {x:PV} {v:Value} {cs:List PV} (h:Rel g w x v) (hc:x.cells=some cs):aq g w cs v.cells.toList:=by
 cases h<;>simp only[PV.cells,Option.some.injEq,reduceCtorEq] at hc<;>subst hc <;>
  first
  | (refine aq.cons ?_ aq.nil; first|exact .bool _|exact .int _ _|exact .str _|exact .nilptr|exact .nilfn|(constructor<;>assumption))
  | skip
 rename_i vs cv hs hc hr
 obtain⟨vs',e,h'⟩:=Rel.aP.1 (Rel.agg _ vs cv hs hc hr)
 cases e; exact h'
def Ob.alive:Ob→Bool
 | .dead=>false
 | _=>true
def blk (g:Gh):Ob→Nat→Nat→Prop
 | .abs _,o,b=>g.fp o b
 | .cells _,o,b=>g.bk o=b
 | .tok,o,b=>g.bk o=b
 | .dead,o,b=>g.bk o=b
def own (g:Gh) (H:aa) (b:Nat):Prop:=∃ o ob,H[o]?=some ob∧ob.alive=true∧blk g ob o b
structure Sim (g:Gh) (H:aa) (w:World):Prop where
 n:g.n=H.length
 inj:∀(o o':Nat) (ob ob':Ob) (b:Nat),H[o]?=some ob→H[o']?=some ob'→ob.alive=true→ob'.alive=true→blk g ob o b→blk g ob' o' b→o=o'
 cells:∀(o:Nat) (cs:List PV),H[o]?=some (.cells cs)→(∃ C ty,w.heap[g.bk o]?=some (.cells C ty (0,0))∧aq g w cs C.toList)∧∀ q,¬ g.imm (g.bk o) q
 tok:∀(o:Nat),H[o]?=some .tok→(∃ C ty,w.heap[g.bk o]?=some (.cells C ty (0,0))∧C.size=g.sz o)∧∀ q,g.en o≤q→¬ g.imm (g.bk o) q
 imm:∀ b q,g.imm b q→b<w.heap.size
 abs:∀(o:Nat) (r:Rep),H[o]?=some (.abs r)→r.R w g.imm (g.bk o) (g.fp o)∧g.fp o (g.bk o)∧∀ b,g.fp o b→b<w.heap.size∧∀ q,¬ g.imm b q
structure Ext (g:Gh) (H:aa) (w:World) (g':Gh) (H':aa) (w':World):Prop where
 gx:aQ g w g' w'
 size:w.heap.size≤w'.heap.size
 ow:∀ b,b<w.heap.size→own g' H' b→own g H b
 frame:∀ b,b<w.heap.size→¬ own g H b→w'.heap[b]?=w.heap[b]?
 os:w'.os=w.os
 tape:w'.tape=w.tape
 output:w'.output=w.output
 im:∀ b q,b<w.heap.size→g'.imm b q→g.imm b q∨own g H b
theorem Ext.refl (g:Gh) (H:aa) (w:World):Ext g H w g H w:=⟨.refl g w,Nat.le_refl _,fun _ _ h=>h,fun _ _ _=>rfl,rfl,rfl,rfl,fun _ _ _ h=> .inl h⟩
theorem Ext.trans {g g' g'':Gh} {H H' H'':aa} {w w' w'':World} (h:Ext g H w g' H' w') (h':Ext g' H' w' g'' H'' w''):Ext g H w g'' H'' w'':=
 ⟨h.gx.trans h'.gx,Nat.le_trans h.size h'.size,fun b hb ho=>h.ow b hb (h'.ow b (Nat.lt_of_lt_of_le hb h.size) ho),
  fun b hb ho=>(h'.frame b (Nat.lt_of_lt_of_le hb h.size) (fun k=>ho (h.ow b hb k))).trans (h.frame b hb ho),
  h'.os.trans h.os,h'.tape.trans h.tape,h'.output.trans h.output,
  fun b q hb hi=>(h'.im b q (Nat.lt_of_lt_of_le hb h.size) hi).elim (h.im b q hb) (fun k=> .inr (h.ow b hb k))⟩
def bX (w:World) (b:Nat) (o:Obj):World:={ w with heap:=w.heap.setIfInBounds b o }
theorem bx (w:World) (b:Nat) (o:Obj):(bX w b o).heap.size=w.heap.size:=by simp[bX]
theorem bu (w:World) (b k:Nat) (o:Obj):(bX w b o).heap[k]?=if b=k then(if b<w.heap.size then some o else none) else w.heap[k]?:=by
 simp[bX,Array.getElem?_setIfInBounds]
theorem oQ (w:World) (b:Nat) (o o':Obj):bX (bX w b o) b o'=bX w b o':=by
 simp[bX]
theorem nT {w:World} {b:Nat} {o:Obj} (h:w.heap[b]?=some o):bX w b o=w:=by
 obtain⟨hb,he⟩:=Array.getElem?_eq_some_iff.1 h
 have:w.heap.setIfInBounds b o=w.heap:=by
  apply Array.ext_getElem?
  intro i
  rw[Array.getElem?_setIfInBounds]
  split
  ·rename_i hi; subst hi; simp[hb,he]
  ·rfl
 simp[bX,this]
theorem aO {w:World} {b:Nat} {C:Array Value} {ty:TypeId} {fr:Nat×Nat} (h:w.heap[b]?=some (.cells C ty fr)) (q:Nat):w.cell? ⟨b,q,none⟩=C[q]?:=by
 simp[World.cell?,h]
theorem dW {w:World} {b:Nat} {C:Array Value} {ty:TypeId} (h:w.heap[b]?=some (.cells C ty (0,0))) (q:Nat):w.frozen? ⟨b,q,none⟩=false:=by
 simp[World.frozen?,h]
theorem gM (w:World) (b k q:Nat) (o:Obj) (h:b≠k):(bX w b o).cell? ⟨k,q,none⟩=w.cell? ⟨k,q,none⟩:=by
 unfold World.cell?
 rw[bu,if_neg h]
theorem lc {w:World} {b q:Nat} {C:Array Value} {ty:TypeId} {fr:Nat×Nat} (h:w.heap[b]?=some (.cells C ty fr)) (v:Value):
  w.setCell ⟨b,q,none⟩ v=bX w b (.cells (C.setIfInBounds q v) ty fr):=by
 obtain⟨hb,he⟩:=Array.getElem?_eq_some_iff.1 h
 unfold World.setCell bX
 congr 1
 apply Array.ext_getElem?
 intro i
 rw[Array.getElem?_modify,Array.getElem?_setIfInBounds]
 by_cases hi:b=i
 ·subst hi
  rw[if_pos rfl,if_pos rfl,if_pos hb,h]
  rfl
 ·simp[hi]
theorem aU {A:Addr} (h:A.spot=none) (i:Nat):A.add i=At A i:=by
 unfold Addr.add At
 split
 ·rename_i hi; subst hi; cases A; simp at h; subst h; rfl
 ·rfl
def over {α:Type} (C:List α) (off:Nat) (vs:List α):List α:=C.take off++vs++C.drop (off+vs.length)
theorem bl {α:Type} {C:List α} {off:Nat} {vs:List α} (h:off+vs.length≤C.length):(over C off vs).length=C.length:=by
 simp[over]; omega
theorem eH {α:Type} (C:List α) (off:Nat):over C off []=C:=by simp[over]
theorem jC {α:Type} (C:List α) (off:Nat) (v:α) (vs:List α) (h:off<C.length):over (C.set off v) (off+1) vs=over C off (v::vs):=by
 unfold over
 rw[List.take_set,List.drop_set,if_pos (by omega)]
 rw[List.take_add_one]
 rw[List.getElem?_eq_getElem h]
 simp only[Option.toList_some,List.length_cons]
 rw[List.set_append,if_neg (by simp; omega)]
 simp[Nat.min_eq_left (Nat.le_of_lt h),Nat.add_assoc,Nat.add_comm 1]
theorem bF (P:Program) {b:Nat} {ty:TypeId} (vs:List Value):∀(w:World) (C:Array Value) (A:Addr) (i:Nat),A.block=b→A.spot=none→
  w.heap[b]?=some (.cells C ty (0,0))→(∀ v∈vs,v.oneCell'=true)→A.off+i+vs.length≤C.size→
  (storeCells A vs i).run P w = .ok () (bX w b (.cells (over C.toList (A.off+i) vs).toArray ty (0,0))):=by
 induction vs with
 | nil=>
  intro w C A i _ _ h _ _
  simp only[storeCells,Sem.run_pure,eH]
  rw[Array.toArray_toList,nT h]
 | cons v vs ih=>
  intro w C A i hA hs h hv hn
  simp only[List.length_cons] at hn
  have hlt:A.off+i<C.size:=by omega
  simp only[storeCells,Sem.run_bind]
  rw[run_store P w _ v .plain (hv v (by simp)),aU hs]
  have hAt:At A i=⟨b,A.off+i,none⟩:=by simp[At,hA]
  rw[hAt,aO h,dW h,Array.getElem?_eq_getElem hlt]
  simp only[Bool.false_eq_true,if_false,Result.andThen_ok]
  rw[lc h]
  rw[ih (bX w b (.cells (C.setIfInBounds (A.off+i) v) ty (0,0))) (C.setIfInBounds (A.off+i) v) A (i+1) hA hs
   (by rw[bu,if_pos rfl,if_pos (Array.getElem?_eq_some_iff.1 h).1]) (fun u hu=>hv u (by simp[hu])) (by simp; omega)]
  rw[oQ,Array.toList_setIfInBounds,← Nat.add_assoc,jC _ _ _ _ (by simpa using hlt)]
theorem run_loadCellsFrom (P:Program) (w:World) (A:Addr) (hs:A.spot=none) (vs:List Value):∀(i:Nat) (acc:Array Value),
  (∀(q:Nat) (v:Value),vs[q]?=some v→w.cell? (At A (i+q))=some v)→(loadCellsFrom A i vs.length acc).run P w = .ok (acc++vs.toArray) w:=by
 induction vs with
 | nil=>intro i acc _; simp[loadCellsFrom]
 | cons v vs ih=>
  intro i acc h
  simp only[List.length_cons,loadCellsFrom,Sem.run_bind,run_load]
  rw[aU hs,show At A i=At A (i+0) from rfl,h 0 v (by simp)]
  simp only[Result.andThen_ok]
  rw[ih (i+1) (acc.push v) (fun q u hu=>by rw[Nat.add_assoc,Nat.add_comm 1]; exact h (q+1) u (by simpa using hu))]
  simp
theorem run_loadCells (P:Program) (w:World) (A:Addr) (hs:A.spot=none) (vs:List Value)
  (h:∀(q:Nat) (v:Value),vs[q]?=some v→w.cell? (At A q)=some v):(loadCells A vs.length).run P w = .ok vs.toArray w:=by
 unfold loadCells
 rw[run_loadCellsFrom P w A hs vs 0 #[] (by simpa using h)]
 simp
theorem aQ.drew (g:Gh) (w:World):aQ g w g w.drew:=⟨Nat.le_refl _,fun _ _=>rfl,fun _ _=>rfl,fun _ _=>rfl,fun _ _ h=>h,fun _ _ _=>rfl⟩
theorem Sim.bR {g:Gh} {H:aa} {w:World} (h:Sim g H w) {o:Nat} {r:Rep} (ho:H[o]?=some (.abs r)) {g':Gh} {w':World} (hgx:aQ g w g' w') (hbk:g'.bk o=g.bk o) (hfp:∀ b,g'.fp o b↔g.fp o b)
  (hfr:∀ b,g.fp o b→w'.heap[b]?=w.heap[b]?) (hni:∀ b q,g.fp o b→¬ g'.imm b q) (hsz:w.heap.size≤w'.heap.size) (him:∀ b q,g'.imm b q→b<w'.heap.size):
  r.R w' g'.imm (g'.bk o) (g'.fp o)∧g'.fp o (g'.bk o)∧∀ b,g'.fp o b→b<w'.heap.size∧∀ q,¬ g'.imm b q:=by
 obtain⟨h1,h2,h3⟩:=h.abs o r ho
 have e:g'.fp o=g.fp o:=funext fun b=>propext (hfp b)
 rw[hbk,e]
 exact⟨r.st h1 hfr hgx.imm hgx.cell hni hsz him,h2,fun b hb=>⟨Nat.lt_of_lt_of_le (h3 b hb).1 hsz,fun q=>hni b q hb⟩⟩
theorem Sim.drew {g:Gh} {H:aa} {w:World} (h:Sim g H w):Sim g H w.drew:=
 ⟨h.n,h.inj,fun o cs ho=>⟨by
  obtain⟨C,ty,h1,h2⟩:=(h.cells o cs ho).1
  exact⟨C,ty,h1,h2.mono (aQ.drew g w)⟩,(h.cells o cs ho).2⟩,h.tok,h.imm,
  fun _ _ ho=>h.bR ho (aQ.drew g w) rfl (fun _=>Iff.rfl) (fun _ _=>rfl) (fun b q hb=>(((h.abs _ _ ho).2.2 b hb).2 q)) (Nat.le_refl _) h.imm⟩
theorem Ext.drew (g:Gh) (H:aa) (w:World):Ext g H w g H w.drew:=⟨.drew g w,Nat.le_refl _,fun _ _ h=>h,fun _ _ _=>rfl,rfl,rfl,rfl,fun _ _ _ h=> .inl h⟩
def Gh.push (g:Gh) (b:Nat) (e:Nat):Gh:={ g with n:=g.n+1,bk:=fun o=>if o=g.n then b else g.bk o,en:=fun o=>if o=g.n then e else g.en o,sz:=fun o=>if o=g.n then e else g.sz o }
theorem aG (w:World) (o:Obj) (k:Nat):(w.alloc o).heap[k]?=if k=w.heap.size then some o else w.heap[k]?:=by
 show(w.heap.push o)[k]?=_
 rw[Array.getElem?_push]
theorem cj (w:World) (o:Obj) (b q:Nat) (h:b<w.heap.size):(w.alloc o).cell? ⟨b,q,none⟩=w.cell? ⟨b,q,none⟩:=
 World.cell?_alloc_lt w o ⟨b,q,none⟩ h
theorem aQ.push {g:Gh} {w w':World} (himm:∀ b q,g.imm b q→b<w.heap.size) (b e:Nat) (hc:∀ b q,b<w.heap.size→g.imm b q→w'.cell? ⟨b,q,none⟩=w.cell? ⟨b,q,none⟩):aQ g w (g.push b e) w':=
 ⟨by simp[Gh.push],fun o ho=>by simp[Gh.push]; omega,fun o ho=>by simp[Gh.push]; omega,fun o ho=>by simp[Gh.push]; omega,fun _ _ h=>h,fun b q h=>hc b q (himm b q h) h⟩
theorem b9 {g:Gh} {H:aa} {w:World} (h:Sim g H w) {b:Nat} (hb:own g H b):b<w.heap.size:=by
 obtain⟨o,ob,h1,h2,h3⟩:=hb
 cases ob with
 | cells cs=>
  obtain⟨⟨C,ty,hC,_⟩,_⟩:=h.cells o cs h1
  have h3:g.bk o=b:=h3
  subst h3
  exact(Array.getElem?_eq_some_iff.1 hC).1
 | tok=>
  obtain⟨⟨C,ty,hC,_⟩,_⟩:=h.tok o h1
  have h3:g.bk o=b:=h3
  subst h3
  exact(Array.getElem?_eq_some_iff.1 hC).1
 | dead=>cases h2
 | abs r=>exact((h.abs o r h1).2.2 b h3).1
theorem Sim.apart {g:Gh} {H:aa} {w:World} (h:Sim g H w) {o o1:Nat} {r:Rep} {ob1:Ob} (ho:H[o]?=some (.abs r)) (h1:H[o1]?=some ob1) (h2:ob1.alive=true) (hne:o≠o1) {b:Nat} (hb:g.fp o b):¬ blk g ob1 o1 b:=
 fun k=>hne (h.inj o o1 _ ob1 b ho h1 rfl h2 hb k)
theorem cn {g g':Gh} {o:Nat} (hbk:g'.bk o=g.bk o) (hfp:∀ b,g'.fp o b↔g.fp o b) (ob:Ob) (b:Nat):blk g' ob o b↔blk g ob o b:=by
 cases ob with
 | abs r=>exact hfp b
 | cells cs=>simp only[blk,hbk]
 | tok=>simp only[blk,hbk]
 | dead=>simp only[blk,hbk]
theorem ak {α:Type} (l:List α) (x:α) (o:Nat) (y:α) (h:(l++[x])[o]?=some y):(l[o]?=some y∧o<l.length)∨(o=l.length∧y=x):=by
 by_cases ho:o<l.length
 ·rw[List.getElem?_append_left ho] at h; exact .inl ⟨h,ho⟩
 ·rw[List.getElem?_append_right (Nat.le_of_not_lt ho)] at h
  have:o-l.length=0:=by
   rcases Nat.eq_zero_or_pos (o-l.length) with h0|h0
   ·exact h0
   ·rw[List.getElem?_eq_none (by simp; omega)] at h; cases h
  rw[this] at h; simp at h
  exact .inr ⟨by omega,h.symm⟩
theorem Sim.new {g:Gh} {H:aa} {w:World} (h:Sim g H w) {cs:List PV} {C:Array Value} (ty:TypeId) (hr:aq g w cs C.toList):
  Sim (g.push w.heap.size 0) (H++[.cells cs]) (w.alloc (.cells C ty))∧Ext g H w (g.push w.heap.size 0) (H++[.cells cs]) (w.alloc (.cells C ty))∧
   Rel (g.push w.heap.size 0) (w.alloc (.cells C ty)) (.ptr H.length 0) (.pointer (some ⟨w.heap.size,0,none⟩)):=by
 have hgx:aQ g w (g.push w.heap.size 0) (w.alloc (.cells C ty)):=aQ.push h.imm _ _ (fun b q hb _=>cj w _ b q hb)
 have hbk:∀ o,o<H.length→(g.push w.heap.size 0).bk o=g.bk o:=fun o ho=>hgx.bk o (by rw[h.n]; exact ho)
 have hbn:(g.push w.heap.size 0).bk H.length=w.heap.size:=by simp[Gh.push,h.n]
 have hold:∀ o ob b,H[o]?=some ob→ob.alive=true→blk g ob o b→b<w.heap.size:=fun o ob b h1 h2 h3=>b9 h ⟨o,ob,h1,h2,h3⟩
 have hblk:∀ o ob b,o<H.length→(blk (g.push w.heap.size 0) ob o b↔blk g ob o b):=fun o ob b ho=>cn (hbk o ho) (fun _=>Iff.rfl) ob b
 refine⟨⟨by simp[Gh.push,h.n],?_,?_,?_,?_,?_⟩,⟨hgx,by simp,?_,?_,rfl,rfl,rfl,fun _ _ _ h=> .inl h⟩,?_⟩
 ·intro o o' ob ob' b h1 h2 h3 h4 h5 h6
  rcases ak _ _ _ _ h1 with⟨h1,ho⟩|⟨rfl,rfl⟩<;>rcases ak _ _ _ _ h2 with⟨h2,ho'⟩|⟨rfl,rfl⟩
  ·exact h.inj o o' ob ob' b h1 h2 h3 h4 ((hblk _ _ _ ho).1 h5) ((hblk _ _ _ ho').1 h6)
  ·have h6:_=b:=h6
   rw[hbn] at h6; have:=hold o ob b h1 h3 ((hblk _ _ _ ho).1 h5); omega
  ·have h5:_=b:=h5
   rw[hbn] at h5; have:=hold o' ob' b h2 h4 ((hblk _ _ _ ho').1 h6); omega
  ·rfl
 ·intro o cs' h1
  rcases ak _ _ _ _ h1 with⟨h1,ho⟩|⟨rfl,e⟩
  ·obtain⟨⟨C',ty',h2,h3⟩,h4⟩:=h.cells o cs' h1
   rw[hbk o ho]
   refine⟨⟨C',ty',?_,h3.mono hgx⟩,h4⟩
   rw[aG,if_neg (Nat.ne_of_lt (hold o _ _ h1 rfl rfl))]; exact h2
  ·cases e
   rw[hbn]
   exact⟨⟨C,ty,by rw[aG,if_pos rfl],hr.mono hgx⟩,fun q hq=>Nat.lt_irrefl _ (h.imm _ _ hq)⟩
 ·intro o h1
  rcases ak _ _ _ _ h1 with⟨h1,ho⟩|⟨rfl,e⟩
  ·obtain⟨⟨C',ty',h2,h2'⟩,h4⟩:=h.tok o h1
   rw[hbk o ho,hgx.en o (by rw[h.n]; exact ho),hgx.sz o (by rw[h.n]; exact ho)]
   refine⟨⟨C',ty',?_,h2'⟩,h4⟩
   rw[aG,if_neg (Nat.ne_of_lt (hold o _ _ h1 rfl rfl))]; exact h2
  ·cases e
 ·intro b q hq; have:=h.imm b q hq; simp; omega
 ·intro o r h1
  rcases ak _ _ _ _ h1 with⟨h1,ho⟩|⟨rfl,e⟩
  ·exact h.bR h1 hgx (hbk o ho) (fun _=>Iff.rfl) (fun b hb=>by rw[aG,if_neg (Nat.ne_of_lt ((h.abs o r h1).2.2 b hb).1)]) (fun b q hb=>((h.abs o r h1).2.2 b hb).2 q) (by simp) (fun b q hq=>by have:=h.imm b q hq; simp; omega)
  ·cases e
 ·rintro b hb ⟨o,ob,h1,h2,h3⟩
  rcases ak _ _ _ _ h1 with⟨h1,ho⟩|⟨rfl,rfl⟩
  ·exact⟨o,ob,h1,h2,(hblk _ _ _ ho).1 h3⟩
  ·have h3:_=b:=h3
   rw[hbn] at h3; omega
 ·intro b hb _
  rw[aG,if_neg (by omega)]
 ·have:=Rel.ptr (g:=g.push w.heap.size 0) (w:=w.alloc (.cells C ty)) H.length 0 (by simp[Gh.push,h.n])
  rw[hbn] at this; exact this
def Gh.row (g:Gh) (b n:Nat):Gh:={ g with imm:=fun b' q=>g.imm b' q∨(b'=b∧q<n) }
theorem Sim.newRow {g:Gh} {H:aa} {w:World} (h:Sim g H w) {cs:List PV} {C:Array Value} (ty:TypeId) (hr:aq g w cs C.toList):
  Sim (g.row w.heap.size C.size) H (w.alloc (.cells C ty))∧Ext g H w (g.row w.heap.size C.size) H (w.alloc (.cells C ty))∧
   aM (g.row w.heap.size C.size) (w.alloc (.cells C ty)) ⟨w.heap.size,0,none⟩ cs:=by
 have hgx:aQ g w (g.row w.heap.size C.size) (w.alloc (.cells C ty)):=
  ⟨Nat.le_refl _,fun _ _=>rfl,fun _ _=>rfl,fun _ _=>rfl,fun _ _ h=> .inl h,fun b q hq=>cj w _ b q (h.imm b q hq)⟩
 have hold:∀ o ob b,H[o]?=some ob→ob.alive=true→blk g ob o b→b<w.heap.size:=fun o ob b h1 h2 h3=>b9 h ⟨o,ob,h1,h2,h3⟩
 refine⟨⟨h.n,fun o o' ob ob' b h1 h2 h3 h4 h5 h6=>h.inj o o' ob ob' b h1 h2 h3 h4 ((cn rfl (fun _=>Iff.rfl) _ _).1 h5) ((cn rfl (fun _=>Iff.rfl) _ _).1 h6),?_,?_,?_,?_⟩,
  ⟨hgx,by simp,fun b _ ⟨o,ob,h1,h2,h3⟩=>⟨o,ob,h1,h2,(cn rfl (fun _=>Iff.rfl) _ _).1 h3⟩,?_,rfl,rfl,rfl,fun _ _ hb h=>h.imp id fun k=>absurd hb (by rw[k.1]; exact Nat.lt_irrefl _)⟩,rfl,?_⟩
 ·intro o cs' h1
  obtain⟨⟨C',ty',h2,h3⟩,h4⟩:=h.cells o cs' h1
  have hlt:=hold o _ _ h1 rfl rfl
  refine⟨⟨C',ty',?_,h3.mono hgx⟩,?_⟩
  ·show(w.alloc _).heap[g.bk o]?=_
   rw[aG,if_neg (Nat.ne_of_lt hlt)]; exact h2
  ·rintro q (hq|⟨hq,_⟩)
   ·exact h4 q hq
   ·exact absurd hq (Nat.ne_of_lt hlt)
 ·intro o h1
  obtain⟨⟨C',ty',h2,h2'⟩,h4⟩:=h.tok o h1
  have hlt:=hold o _ _ h1 rfl rfl
  refine⟨⟨C',ty',?_,h2'⟩,?_⟩
  ·show(w.alloc _).heap[g.bk o]?=_
   rw[aG,if_neg (Nat.ne_of_lt hlt)]; exact h2
  ·rintro q hq (hi|⟨hi,_⟩)
   ·exact h4 q hq hi
   ·exact absurd hi (Nat.ne_of_lt hlt)
 ·rintro b q (hq|⟨rfl,_⟩)
  ·have:=h.imm b q hq; simp; omega
  ·simp
 ·intro o r h1
  have h2:=(h.abs o r h1).2.2
  refine h.bR h1 hgx rfl (fun _=>Iff.rfl) (fun b hb=>by rw[aG,if_neg (Nat.ne_of_lt (h2 b hb).1)]) ?_ (by simp) ?_
  ·rintro b q hb (hq|⟨rfl,_⟩)
   ·exact(h2 b hb).2 q hq
   ·exact Nat.lt_irrefl _ (h2 _ hb).1
  ·rintro b q (hq|⟨rfl,_⟩)
   ·have:=h.imm b q hq; simp; omega
   ·simp
 ·intro b hb _
  rw[aG,if_neg (by omega)]
 ·intro q x hx
  obtain⟨v,hv,hrel⟩:=hr.get hx
  rw[Array.getElem?_toList] at hv
  refine⟨.inr ⟨rfl,by have:=(Array.getElem?_eq_some_iff.1 hv).1; simpa using this⟩,v,?_,hrel.mono hgx⟩
  simp only[At,Nat.zero_add]
  rw[World.cell?_alloc_new]; exact hv
theorem Sim.put {g:Gh} {H:aa} {w:World} (h:Sim g H w) {o:Nat} {cs cs':List PV} (ho:H[o]?=some (.cells cs)) {C:Array Value} {ty:TypeId}
  (hr:aq g w cs' C.toList):Sim g (H.set o (.cells cs')) (bX w (g.bk o) (.cells C ty (0,0)))∧Ext g H w g (H.set o (.cells cs')) (bX w (g.bk o) (.cells C ty (0,0))):=by
 have hlt:g.bk o<w.heap.size:=b9 h ⟨o,_,ho,rfl,rfl⟩
 have hol:o<H.length:=(List.getElem?_eq_some_iff.1 ho).1
 have himm:∀ q,¬ g.imm (g.bk o) q:=(h.cells o cs ho).2
 have hgx:aQ g w g (bX w (g.bk o) (.cells C ty (0,0))):=
  ⟨Nat.le_refl _,fun _ _=>rfl,fun _ _=>rfl,fun _ _=>rfl,fun _ _ h=>h,fun b q hq=>gM w _ b q _ (fun e=>himm q (e▸hq))⟩
 have hset:∀(o':Nat) (ob:Ob),(H.set o (.cells cs'))[o']?=some ob→ob.alive=true→∃ ob',H[o']?=some ob'∧ob'.alive=true∧∀ b,blk g ob o' b→blk g ob' o' b:=by
  intro o' ob h1 h2
  rw[List.getElem?_set] at h1
  split at h1
  ·rename_i e; subst e
   cases h1
   exact⟨_,ho,rfl,fun _ h=>h⟩
  ·exact⟨ob,h1,h2,fun _ h=>h⟩
 refine⟨⟨by simp[h.n],?_,?_,?_,?_,?_⟩,⟨hgx,by simp[bx],?_,?_,rfl,rfl,rfl,fun _ _ _ h=> .inl h⟩⟩
 ·intro o1 o2 ob1 ob2 b h1 h2 h3 h4 h5 h6
  obtain⟨ob1',k1,k2,k5⟩:=hset o1 ob1 h1 h3
  obtain⟨ob2',k3,k4,k6⟩:=hset o2 ob2 h2 h4
  exact h.inj o1 o2 ob1' ob2' b k1 k3 k2 k4 (k5 b h5) (k6 b h6)
 ·intro o1 cs1 h1
  rw[List.getElem?_set] at h1
  split at h1
  ·rename_i e; subst e
   cases h1
   exact⟨⟨C,ty,by rw[bu,if_pos rfl,if_pos hlt],hr.mono hgx⟩,himm⟩
  ·rename_i hne
   obtain⟨⟨C1,ty1,h2,h3⟩,h4⟩:=h.cells o1 cs1 h1
   refine⟨⟨C1,ty1,?_,h3.mono hgx⟩,h4⟩
   rw[bu,if_neg]; exact h2
   intro e; exact hne (h.inj o o1 _ _ _ ho h1 rfl rfl e rfl)
 ·intro o1 h1
  rw[List.getElem?_set] at h1
  split at h1
  ·cases h1
  ·rename_i hne
   obtain⟨⟨C1,ty1,h2,h2'⟩,h4⟩:=h.tok o1 h1
   refine⟨⟨C1,ty1,?_,h2'⟩,h4⟩
   rw[bu,if_neg]; exact h2
   intro e; exact hne (h.inj o o1 _ _ _ ho h1 rfl rfl e rfl)
 ·intro b q hq; rw[bx]; exact h.imm b q hq
 ·intro o1 r h1
  rw[List.getElem?_set] at h1
  split at h1
  ·cases h1
  ·rename_i hne
   have h2:=(h.abs o1 r h1).2.2
   refine h.bR h1 hgx rfl (fun _=>Iff.rfl) (fun b hb=>?_) (fun b q hb=>(h2 b hb).2 q) (by simp[bx]) (fun b q hq=>by rw[bx]; exact h.imm b q hq)
   rw[bu,if_neg]
   intro e; exact h.apart h1 ho rfl (Ne.symm hne) hb e
 ·rintro b _ ⟨o1,ob1,h1,h2,h3⟩
  obtain⟨ob',k1,k2,k3⟩:=hset o1 ob1 h1 h2
  exact⟨o1,ob',k1,k2,k3 b h3⟩
 ·intro b _ hb
  rw[bu,if_neg]
  intro e; exact hb ⟨o,_,ho,rfl,e⟩
theorem Sim.freeze {g:Gh} {H:aa} {w:World} (h:Sim g H w) {o:Nat} {cs:List PV} (ho:H[o]?=some (.cells cs)):
  ∃ g',Sim g' (H.set o .dead) w∧Ext g H w g' (H.set o .dead) w∧aM g' w ⟨g.bk o,0,none⟩ cs:=by
 obtain⟨⟨C,ty,hC,hr⟩,himm⟩:=h.cells o cs ho
 have hlt:g.bk o<w.heap.size:=b9 h ⟨o,_,ho,rfl,rfl⟩
 refine⟨g.row (g.bk o) C.size,?_⟩
 have hgx:aQ g w (g.row (g.bk o) C.size) w:=⟨Nat.le_refl _,fun _ _=>rfl,fun _ _=>rfl,fun _ _=>rfl,fun _ _ h=> .inl h,fun _ _ _=>rfl⟩
 have hset:∀(o':Nat) (ob:Ob),(H.set o .dead)[o']?=some ob→ob.alive=true→H[o']?=some ob∧o≠o':=by
  intro o' ob h1 h2
  rw[List.getElem?_set] at h1
  split at h1
  ·split at h1
   ·cases h1; cases h2
   ·cases h1
  ·rename_i e; exact⟨h1,e⟩
 refine⟨⟨by simp; exact h.n,?_,?_,?_,?_,?_⟩,⟨hgx,Nat.le_refl _,?_,fun _ _ _=>rfl,rfl,rfl,rfl,fun _ _ _ h=>h.imp id fun k=>⟨o,_,ho,rfl,k.1.symm⟩⟩,rfl,?_⟩
 ·intro o1 o2 ob1 ob2 b h1 h2 h3 h4 h5 h6
  exact h.inj o1 o2 ob1 ob2 b (hset _ _ h1 h3).1 (hset _ _ h2 h4).1 h3 h4 ((cn rfl (fun _=>Iff.rfl) _ _).1 h5) ((cn rfl (fun _=>Iff.rfl) _ _).1 h6)
 ·intro o1 cs1 h1
  obtain⟨h1,hne⟩:=hset _ _ h1 rfl
  obtain⟨⟨C1,ty1,h2,h3⟩,h4⟩:=h.cells o1 cs1 h1
  refine⟨⟨C1,ty1,h2,h3.mono hgx⟩,?_⟩
  rintro q (hq|⟨hq,_⟩)
  ·exact h4 q hq
  ·exact hne (h.inj o o1 _ _ _ ho h1 rfl rfl hq.symm rfl)
 ·intro o1 h1
  obtain⟨h1,hne⟩:=hset _ _ h1 rfl
  obtain⟨⟨C1,ty1,h2,h2'⟩,h4⟩:=h.tok o1 h1
  refine⟨⟨C1,ty1,h2,h2'⟩,?_⟩
  rintro q hq (hi|⟨hi,_⟩)
  ·exact h4 q hq hi
  ·exact hne (h.inj o o1 _ _ _ ho h1 rfl rfl hi.symm rfl)
 ·rintro b q (hq|⟨rfl,_⟩)
  ·exact h.imm b q hq
  ·exact hlt
 ·intro o1 r h1
  obtain⟨h1,hne⟩:=hset _ _ h1 rfl
  have h2:=(h.abs o1 r h1).2.2
  refine h.bR h1 hgx rfl (fun _=>Iff.rfl) (fun _ _=>rfl) ?_ (Nat.le_refl _) ?_
  ·rintro b q hb (hq|⟨rfl,_⟩)
   ·exact(h2 b hb).2 q hq
   ·exact h.apart h1 ho rfl (Ne.symm hne) hb rfl
  ·rintro b q (hq|⟨rfl,_⟩)
   ·exact h.imm b q hq
   ·exact hlt
 ·rintro b _ ⟨o1,ob1,h1,h2,h3⟩
  exact⟨o1,ob1,(hset _ _ h1 h2).1,h2,(cn rfl (fun _=>Iff.rfl) _ _).1 h3⟩
 ·intro q x hx
  obtain⟨v,hv,hrel⟩:=hr.get hx
  rw[Array.getElem?_toList] at hv
  refine⟨.inr ⟨rfl,by have:=(Array.getElem?_eq_some_iff.1 hv).1; simpa using this⟩,v,?_,hrel.mono hgx⟩
  simp only[At,Nat.zero_add]
  rw[aO hC]; exact hv
def tyA (P:Program) (t:TypeId):Option (Bool×Nat):=
 match P.underlying t,P.info? t with
 | some (.struct _),some i=>some (true,i.size)
 | some (.array _ _),some i=>some (true,i.size)
 | some _,some i=>some (false,i.size)
 | _,_=>none
theorem bQ {P:Program} {t:TypeId} {i:TypeInfo} (h:P.info? t=some i) (w:World):(typeInfo t).run P w = .ok i w:=by
 simp[typeInfo,h]
theorem ah {P:Program} {t:TypeId} {d:TypeDesc} (h:P.underlying t=some d) (w:World):(underlying t).run P w = .ok d w:=by
 simp[underlying,h]
theorem fS {P:Program} {t:TypeId} {b:Bool} {sz:Nat} (h:tyA P t=some (b,sz)):
  ∃ d i,P.underlying t=some d∧P.info? t=some i∧i.size=sz∧(match d with| .struct _| .array _ _=>true|_=>false)=b:=by
 unfold tyA at h
 split at h<;>first|(cases h; done)|skip
 ·rename_i fs i h1 h2; simp only[Option.some.injEq,Prod.mk.injEq] at h; exact⟨_,i,h1,h2,h.2,h.1⟩
 ·rename_i n e i h1 h2; simp only[Option.some.injEq,Prod.mk.injEq] at h; exact⟨_,i,h1,h2,h.2,h.1⟩
 ·rename_i d i hn1 hn2 h1 h2; simp only[Option.some.injEq,Prod.mk.injEq] at h
  refine⟨d,i,h1,h2,h.2,?_⟩
  split
  ·rename_i fs; exact absurd rfl (hn1 _)
  ·rename_i n e; exact absurd rfl (hn2 _ _)
  ·exact h.1
theorem gz {P:Program} {t:TypeId} {b:Bool} {sz:Nat} (h:tyA P t=some (b,sz)) (w:World):(isAgg t).run P w = .ok b w:=by
 obtain⟨d,i,h1,h2,h3,h4⟩:=fS h
 unfold isAgg
 rw[Sem.run_bind,ah h1]
 simp only[Result.andThen_ok]
 rw[← h4]
 cases d<;>rfl
theorem run_sizeOf {P:Program} {t:TypeId} {b:Bool} {sz:Nat} (h:tyA P t=some (b,sz)) (w:World):(sizeOf t).run P w = .ok sz w:=by
 obtain⟨d,i,h1,h2,h3,h4⟩:=fS h
 unfold sizeOf
 rw[Sem.run_bind,bQ h2]
 simp[h3]
def gK (g:Gh) (w:World) (A:Addr) (cs:List PV):Prop:=
 A.spot=none∧∀(q:Nat) (x:PV),cs[q]?=some x→∃ c,w.cell? (At A q)=some c∧Rel g w x c
theorem aM.row {g:Gh} {w:World} {A:Addr} {cs:List PV} (h:aM g w A cs):gK g w A cs:=
 ⟨h.1,fun q x hx=>(h.2 q x hx).2⟩
theorem Sim.rowAt {g:Gh} {H:aa} {w:World} (h:Sim g H w) {o:Nat} {cs:List PV} (ho:H[o]?=some (.cells cs)) (off:Nat):gK g w ⟨g.bk o,off,none⟩ (cs.drop off):=by
 obtain⟨⟨C,ty,hC,hr⟩,_⟩:=h.cells o cs ho
 refine⟨rfl,fun q x hx=>?_⟩
 rw[List.getElem?_drop] at hx
 obtain⟨v,hv,hrel⟩:=hr.get hx
 exact⟨v,by simp only[At]; rw[aO hC]; rw[Array.getElem?_toList] at hv; exact hv,hrel⟩
theorem gK.ku {g:Gh} {w:World} {A:Addr} {cs:List PV} (h:gK g w A cs) (n:Nat) (hn:n≤cs.length):
  ∃ vs:List Value,vs.length=n∧aq g w (cs.take n) vs∧∀(q:Nat) (v:Value),vs[q]?=some v→w.cell? (At A q)=some v:=by
 refine⟨(List.range n).map fun q=>(w.cell? (At A q)).getD default,by simp,⟨by simp[Nat.min_eq_left hn],fun q x v h1 h2=>?_⟩,fun q v hv=>?_⟩
 ·rw[List.getElem?_take] at h1
  split at h1
  ·rename_i hq
   rw[List.getElem?_map,List.getElem?_range hq] at h2
   obtain⟨c,h3,h4⟩:=h.2 q x h1
   simp[h3] at h2; rw[← h2]; exact h4
  ·cases h1
 ·have hq:q<n:=by
   have:=(List.getElem?_eq_some_iff.1 hv).1; simpa using this
  rw[List.getElem?_map,List.getElem?_range hq] at hv
  obtain⟨c,h3,h4⟩:=h.2 q cs[q] (List.getElem?_eq_getElem (by omega))
  simp[h3] at hv; rw[← hv]; exact h3
def b5 (b:Bool) (sz:Nat) (cs:List PV):Option PV:=
 if b=true then(if sz≤cs.length then some (.agg (cs.take sz)) else none) else cs[0]?
theorem load_row {P:Program} {g:Gh} {w:World} {A:Addr} {cs:List PV} (h:gK g w A cs) {t:TypeId} {b:Bool} {sz:Nat} (ht:tyA P t=some (b,sz))
  {x:PV} (hl:b5 b sz cs=some x):∃ v,(loadVar t A).run P w = .ok v w∧Rel g w x v:=by
 unfold loadVar
 rw[Sem.run_bind,gz ht]
 simp only[Result.andThen_ok]
 unfold b5 at hl
 cases b with
 | true=>
  simp only[if_true] at hl ⊢
  split at hl
  ·rename_i hn
   cases hl
   obtain⟨vs,h1,h2,h3⟩:=h.ku sz hn
   refine⟨.agg vs.toArray,?_,Rel.aP.2 ⟨_,rfl,by simpa using h2⟩⟩
   rw[Sem.run_bind,run_sizeOf ht]
   simp only[Result.andThen_ok,Sem.run_bind]
   rw[← h1,run_loadCells P w A h.1 vs h3]
   rfl
  ·cases hl
 | false=>
  simp only[Bool.false_eq_true,if_false] at hl ⊢
  obtain⟨c,h1,h2⟩:=h.2 0 x hl
  refine⟨c,?_,h2⟩
  rw[run_load]
  have:At A 0=A:=by have:=h.1; cases A; simp[At] at *; exact this.symm
  rw[this] at h1
  rw[h1]
def PV.one:PV→Bool
 | .any| .agg _| .tup _=>false
 | _=>true
theorem mN {g:Gh} {w:World} {y:PV} {u:Value} (h:Rel g w y u) (hy:y.one=true):u.oneCell'=true:=by
 cases h<;>first|rfl|(cases hy; done)
theorem b8 {g:Gh} {w:World} {cs:List PV} {vs:List Value} (hr:aq g w cs vs) (h1:cs.all PV.one=true):∀ u∈vs,u.oneCell'=true:=by
 intro u hu
 obtain⟨q,hq,rfl⟩:=List.mem_iff_getElem.1 hu
 have hq':q<cs.length:=by rw[hr.1]; exact hq
 exact mN (hr.2 q cs[q] _ (List.getElem?_eq_getElem hq') (List.getElem?_eq_getElem hq)) (List.all_eq_true.1 h1 _ (List.getElem_mem hq'))
theorem aq.over {g:Gh} {w:World} {cs xs:List PV} {C vs:List Value} (h:aq g w cs C) (hx:aq g w xs vs) (off:Nat):aq g w (over cs off xs) (over C off vs):=by
 unfold AM.over
 rw[hx.1]
 exact((h.take off).append hx).append (h.drop _)
theorem nU {P:Program} {g:Gh} {H:aa} {w:World} (h:Sim g H w) {o off:Nat} {cs xs:List PV} (ho:H[o]?=some (.cells cs)) {v:Value} {t:TypeId} {b:Bool} {sz:Nat}
  (ht:tyA P t=some (b,sz)) (hv:aq g w xs v.cells.toList) (hl:xs.length=sz) (h1:xs.all PV.one=true) (hn:off+sz≤cs.length):
  ∃ w',(storeVar t ⟨g.bk o,off,none⟩ v).run P w = .ok () w'∧Sim g (H.set o (.cells (over cs off xs))) w'∧Ext g H w g (H.set o (.cells (over cs off xs))) w':=by
 obtain⟨⟨C,ty,hC,hr⟩,_⟩:=h.cells o cs ho
 have hsz:v.cells.size=sz:=by have:=hv.1; simp at this; omega
 have hCl:C.size=cs.length:=by have:=hr.1; simp at this; omega
 refine⟨bX w (g.bk o) (.cells (over C.toList off v.cells.toList).toArray ty (0,0)),?_,?_⟩
 ·unfold storeVar
  rw[Sem.run_bind,run_sizeOf ht]
  simp only[Result.andThen_ok,hsz,ne_eq,not_true_eq_false,if_false]
  have:=bF P (b:=g.bk o) (ty:=ty) v.cells.toList w C ⟨g.bk o,off,none⟩ 0 rfl rfl hC (b8 hv h1) (by simp; omega)
  simpa using this
 ·exact h.put ho (by simpa using hr.over hv off)
def pv1:Value→PV
 | .bool b=> .bool b
 | .int k n=> .int k n
 | .string s=> .str s
 | .slice none 0 0=> .list [] .exact
 | .pointer none=> .nilptr
 | .nilFunc=> .nilfn
 | _=> .any
def u6:Value→PV
 | .agg vs=> .agg (vs.toList.map pv1)
 | .tuple vs=> .tup (vs.toList.map pv1)
 | v=>pv1 v
theorem rA (g:Gh) (w:World):Rel g w (.list [] .exact) (.slice none 0 0):=
 Rel.an.2 ⟨none,0,rfl,by simp,by simp,rfl,.inl rfl⟩
theorem mU (g:Gh) (w:World) (v:Value):Rel g w (pv1 v) v:=by
 unfold pv1
 split<;>first|exact .bool _|exact .int _ _|exact .str _|exact rA g w|exact .nilptr|exact .nilfn|exact .any _
theorem dZ (g:Gh) (w:World) (vs:List Value):aq g w (vs.map pv1) vs:=by
 induction vs with
 | nil=>exact .nil
 | cons v vs ih=>exact .cons (mU g w v) ih
theorem pO (g:Gh) (w:World) (v:Value):Rel g w (u6 v) v:=by
 unfold u6
 split
 ·exact Rel.aP.2 ⟨_,rfl,dZ g w _⟩
 ·exact Rel.bJ.2 ⟨_,rfl,dZ g w _⟩
 ·exact mU g w v
abbrev ai:=Nat→Option (List PV)
def bL (g:Gh) (w:World) (gl:ai):Prop:=∀ k cs,gl k=some cs→aM g w ⟨k,0,none⟩ cs
theorem aM.mono {g g':Gh} {w w':World} (hx:aQ g w g' w') {A:Addr} {cs:List PV} (h:aM g w A cs):aM g' w' A cs:=
 ⟨h.1,fun q x hq=>by obtain⟨h1,c,h2,h3⟩:=h.2 q x hq; exact⟨hx.imm _ _ h1,c,(hx.cell _ _ h1).trans h2,h3.mono hx⟩⟩
theorem bL.mono {g g':Gh} {w w':World} (hx:aQ g w g' w') {gl:ai} (h:bL g w gl):bL g' w' gl:=
 fun k cs hk=>(h k cs hk).mono hx
def ev (gl:ai) (e:Env):Operand→PV
 | .tmp t=>e t
 | .const v=>u6 v
 | .global g=>match gl g with|some cs=> .iptr cs|none=> .any
 | .func f=> .fn f []
def dB (g:Gh) (w:World) (n:Nat) (e:Env) (a:Act):Prop:=a.tmps.size=n∧∀ t,Rel g w (e t) (a.tmps.getD t undef)
theorem dB.mono {g g':Gh} {w w':World} (hx:aQ g w g' w') {n:Nat} {e:Env} {a:Act} (h:dB g w n e a):dB g' w' n e a:=
 ⟨h.1,fun t=>(h.2 t).mono hx⟩
theorem dB.ev {g:Gh} {w:World} {gl:ai} (hg:bL g w gl) {n:Nat} {e:Env} {a:Act} (h:dB g w n e a) (x:Operand):Rel g w (ev gl e x) (a.eval x):=by
 cases x with
 | tmp t=>exact h.2 t
 | const v=>exact pO g w v
 | global k=>
  simp only[AM.ev,Act.eval]
  cases hk:gl k with
  | none=>exact .any _
  | some cs=>exact Rel.cU.2 ⟨_,rfl,hg k cs hk⟩
 | func f=>exact Rel.dS.2 ⟨#[],rfl,.nil⟩
def VOk (P:Program) (s:Sem Value) (g:Gh) (H:aa) (w:World) (K:PV→aa→Prop):Prop:=
 ∃ v w' g' H' x,s.run P w = .ok v w'∧Sim g' H' w'∧Ext g H w g' H' w'∧Rel g' w' x v∧K x H'
theorem VOk.same {P:Program} {s:Sem Value} {g:Gh} {H:aa} {w:World} {K:PV→aa→Prop} (h:Sim g H w) {v:Value} {x:PV} (hr:s.run P w = .ok v w) (hx:Rel g w x v) (hk:K x H):VOk P s g H w K:=
 ⟨v,w,g,H,x,hr,h,.refl g H w,hx,hk⟩
theorem VOk.congr {P:Program} {s s':Sem Value} {g:Gh} {H:aa} {w:World} {K:PV→aa→Prop} (h:VOk P s' g H w K) (e:s.run P w=s'.run P w):VOk P s g H w K:=by
 obtain⟨v,w',g',H',x,h1,h2⟩:=h
 exact⟨v,w',g',H',x,e.trans h1,h2⟩
def bU (P:Program) (t:TypeId):Option (List PV):=((P.info? t).bind (·.zero)).map fun v=>v.cells.toList.map pv1
theorem cu {P:Program} {t:TypeId} {cs:List PV} (h:bU P t=some cs):∃ v,(∀ w,(zeroValue t).run P w = .ok v w)∧∀ g w,aq g w cs v.cells.toList:=by
 unfold bU at h
 cases hi:P.info? t with
 | none=>simp[hi] at h
 | some i=>
  cases hz:i.zero with
  | none=>simp[hi,hz] at h
  | some v=>
   simp[hi,hz] at h
   refine⟨v,fun w=>?_,fun g w=>by rw[← h]; exact dZ g w _⟩
   unfold zeroValue
   rw[Sem.run_bind,bQ hi]
   simp[hz]
theorem ni {P:Program} {g:Gh} {H:aa} {w:World} {K:PV→aa→Prop} (h:Sim g H w) {cs:List PV} {v:Value} (t:TypeId) (hr:aq g w cs v.cells.toList)
  (hk:K (.ptr H.length 0) (H++[.cells cs])):VOk P (do pure (.pointer (some (← newVar t v)))) g H w K:=by
 obtain⟨h1,h2,h3⟩:=h.new t hr
 exact⟨_,_,_,_,_,by simp[newVar,newRow],h1,h2,h3,hk⟩
theorem nC {P:Program} {g:Gh} {H:aa} {w:World} {K:PV→aa→Prop} (h:Sim g H w) {t:TypeId} {cs:List PV} (hz:bU P t=some cs)
  (hk:K (.ptr H.length 0) (H++[.cells cs])):VOk P (Instr.alloc t true (.tuple #[])) g H w K:=by
 obtain⟨v,hv,hr⟩:=cu hz
 refine(ni (P:=P) (v:=v) h t (hr g w) hk).congr ?_
 unfold Instr.alloc
 rw[Sem.run_bind,hv]
 simp
theorem rE {P:Program} {g:Gh} {H:aa} {w:World} {K:PV→aa→Prop} (h:Sim g H w) {t:TypeId} {x:PV} {v:Value} {cs:List PV} (hx:Rel g w x v) (hc:x.cells=some cs)
  (hk:K (.ptr H.length 0) (H++[.cells cs])):VOk P (Instr.box t v) g H w K:=
 ni h t (hx.iO hc) hk
def behind (H:aa):PV→Option (List PV)
 | .iptr cs=>some cs
 | .ptr o off=>match H[o]? with
  | some (.cells cs)=>some (cs.drop off)
  | _=>none
 | _=>none
theorem gJ {g:Gh} {H:aa} {w:World} (h:Sim g H w) {x:PV} {v:Value} (hx:Rel g w x v) {cs:List PV} (hb:behind H x=some cs):
  ∃ A,v = .pointer (some A)∧gK g w A cs:=by
 cases hx<;>simp only[behind,reduceCtorEq] at hb
 ·rename_i o off ho
  split at hb
  ·rename_i cs' ho'
   cases hb
   exact⟨_,rfl,h.rowAt ho' off⟩
  ·cases hb
 ·rename_i cs' A cv hs hc hr
  cases hb
  obtain⟨A',e,hi⟩:=Rel.cU.1 (Rel.iptr cs A cv hs hc hr)
  cases e
  exact⟨A,rfl,hi.row⟩
theorem pH {P:Program} {g:Gh} {H:aa} {w:World} {K:PV→aa→Prop} (h:Sim g H w) {t:TypeId} {x:PV} {v:Value} (hx:Rel g w x v) {cs:List PV} (hb:behind H x=some cs)
  {b:Bool} {sz:Nat} (ht:tyA P t=some (b,sz)) {y:PV} (hl:b5 b sz cs=some y) (hk:K y H):VOk P (Instr.loadAt t v) g H w K:=by
 obtain⟨A,rfl,hr⟩:=gJ h hx hb
 obtain⟨u,h1,h2⟩:=load_row hr ht hl
 exact VOk.same h (v:=u) (by simp[Instr.loadAt,Instr.sureAddr,h1]) h2 hk
def lE (P:Program) (s:TypeId) (f:Nat):Option (Nat×Bool×Nat):=
 match P.underlying s with
 | some (.struct fs)=>match fs[f]? with
  | some d=>match tyA P d.type with
   | some (b,sz)=>if sz=0 then none else some (d.offset,b,sz)
   | none=>none
  | none=>none
 | _=>none
theorem jt {P:Program} {s:TypeId} {f off:Nat} {b:Bool} {sz:Nat} (h:lE P s f=some (off,b,sz)):
  ∃ fs d,P.underlying s=some (.struct fs)∧fs[f]?=some d∧tyA P d.type=some (b,sz)∧sz≠0∧d.offset=off:=by
 unfold lE at h
 split at h<;>first|(cases h; done)|skip
 rename_i fs hu
 split at h<;>first|(cases h; done)|skip
 rename_i d hd
 split at h<;>first|(cases h; done)|skip
 rename_i b' sz' ht
 split at h
 ·cases h
 ·simp only[Option.some.injEq,Prod.mk.injEq] at h
  obtain⟨h1,h2,h3⟩:=h
  subst h1; subst h2; subst h3
  exact⟨fs,d,hu,hd,ht,by assumption,rfl⟩
def eF (n:Nat):PV→Option PV
 | .iptr cs=>some (.iptr (cs.drop n))
 | .ptr o off=>some (.ptr o (off+n))
 | _=>none
theorem aM.drop {g:Gh} {w:World} {A:Addr} {cs:List PV} (h:aM g w A cs) (n:Nat):aM g w (At A n) (cs.drop n):=by
 refine⟨rfl,fun q x hq=>?_⟩
 rw[List.getElem?_drop] at hq
 obtain⟨h1,c,h2,h3⟩:=h.2 _ x hq
 refine⟨by simp only[At]; rw[Nat.add_assoc]; exact h1,c,?_,h3⟩
 simp only[At] at h2 ⊢
 rw[Nat.add_assoc]; exact h2
theorem gQ {g:Gh} {w:World} {x y:PV} {v:Value} (hx:Rel g w x v) {n:Nat} (hs:eF n x=some y):∃ A,v = .pointer (some A)∧A.spot=none∧Rel g w y (.pointer (some (At A n))):=by
 cases hx<;>simp only[eF,reduceCtorEq,Option.some.injEq] at hs
 ·rename_i o off ho
  subst hs
  exact⟨_,rfl,rfl,.ptr o (off+n) ho⟩
 ·rename_i cs A cv hsp hc hr
  subst hs
  obtain⟨A',e,hi⟩:=Rel.cU.1 (Rel.iptr cs A cv hsp hc hr)
  cases e
  exact⟨A,rfl,hsp,Rel.cU.2 ⟨_,rfl,hi.drop n⟩⟩
theorem jf {P:Program} {g:Gh} {H:aa} {w:World} {K:PV→aa→Prop} (h:Sim g H w) {s:TypeId} {f off sz:Nat} {b:Bool} (hf:lE P s f=some (off,b,sz))
  {x y:PV} {v:Value} (hx:Rel g w x v) (hs:eF off x=some y) (hk:K y H):VOk P (Instr.fieldAt s v f) g H w K:=by
 obtain⟨fs,d,h1,h2,h3,h4,rfl⟩:=jt hf
 obtain⟨A,rfl,hsp,hy⟩:=gQ hx hs
 refine VOk.same h (v:= .pointer (some (At A d.offset))) ?_ hy hk
 unfold Instr.fieldAt
 rw[Sem.run_bind,ah h1]
 simp only[Result.andThen_ok,h2,Sem.run_bind,Instr.sureAddr,Sem.run_pure]
 unfold fieldPlace
 rw[Sem.run_bind,run_sizeOf h3]
 simp[h4,aU hsp]
def gI (b:Bool) (off sz:Nat) (cs:List PV):Option PV:=
 if b=true then(if off+sz≤cs.length then some (.agg ((cs.drop off).take sz)) else none) else cs[off]?
theorem lz {P:Program} {g:Gh} {w:World} {t:TypeId} {b:Bool} {sz off:Nat} (ht:tyA P t=some (b,sz)) {cs:List PV} {vs:Array Value} (hr:aq g w cs vs.toList)
  {y:PV} (hp:gI b off sz cs=some y):∃ u,(part t vs off).run P w = .ok u w∧Rel g w y u:=by
 unfold part
 rw[Sem.run_bind,gz ht]
 simp only[Result.andThen_ok]
 unfold gI at hp
 cases b with
 | true=>
  simp only[if_true] at hp ⊢
  split at hp
  ·cases hp
   refine⟨.agg (vs.extract off (off+sz)),?_,Rel.aP.2 ⟨_,rfl,?_⟩⟩
   ·rw[Sem.run_bind,run_sizeOf ht]; rfl
   ·have:=(hr.drop off).take sz
    simpa[List.drop_take] using this
  ·cases hp
 | false=>
  simp only[Bool.false_eq_true,if_false] at hp ⊢
  obtain⟨u,hu,hrel⟩:=hr.get hp
  rw[Array.getElem?_toList] at hu
  exact⟨u,by rw[hu]; rfl,hrel⟩
theorem nP {P:Program} {g:Gh} {H:aa} {w:World} {K:PV→aa→Prop} (h:Sim g H w) {s:TypeId} {f off sz:Nat} {b:Bool} (hf:lE P s f=some (off,b,sz))
  {cs:List PV} {v:Value} (hx:Rel g w (.agg cs) v) {y:PV} (hp:gI b off sz cs=some y) (hk:K y H):VOk P (Instr.field s v f) g H w K:=by
 obtain⟨fs,d,h1,h2,h3,h4,rfl⟩:=jt hf
 obtain⟨vs,rfl,hr⟩:=Rel.aP.1 hx
 obtain⟨u,h5,h6⟩:=lz h3 hr hp
 refine VOk.same h (v:=u) ?_ h6 hk
 unfold Instr.field
 rw[Sem.run_bind,ah h1]
 simp only[Result.andThen_ok,h2,Sem.run_bind,asAgg,Sem.run_pure]
 exact h5
def elA (P:Program) (t:TypeId):Option (Option Nat×Bool×Nat×Nat×TypeId):=
 match P.underlying t with
 | some (.slice e)=>match tyA P e,P.info? e with
  | some (b,sz),some i=>some (none,b,sz,i.bytes,e)
  | _,_=>none
 | some (.array n e)=>match tyA P e,P.info? e with
  | some (b,sz),some i=>some (some n,b,sz,i.bytes,e)
  | _,_=>none
 | _=>none
theorem bz {P:Program} {t:TypeId} {b:Bool} {sz by_:Nat} {e:TypeId} (h:elA P t=some (none,b,sz,by_,e)):
  P.underlying t=some (.slice e)∧tyA P e=some (b,sz)∧∃ i,P.info? e=some i∧i.bytes=by_:=by
 unfold elA at h
 split at h
 ·rename_i e' hu
  split at h
  ·rename_i b' sz' i ht hi
   simp only[Option.some.injEq,Prod.mk.injEq,true_and] at h
   obtain⟨rfl,rfl,rfl,rfl⟩:=h
   exact⟨hu,ht,i,hi,rfl⟩
  ·cases h
 ·split at h
  ·simp at h
  ·cases h
 ·cases h
theorem jI {P:Program} {t:TypeId} {n:Nat} {b:Bool} {sz by_:Nat} {e:TypeId} (h:elA P t=some (some n,b,sz,by_,e)):
  P.underlying t=some (.array n e)∧tyA P e=some (b,sz)∧∃ i,P.info? e=some i∧i.bytes=by_:=by
 unfold elA at h
 split at h
 ·split at h
  ·simp at h
  ·cases h
 ·rename_i n' e' hu
  split at h
  ·rename_i b' sz' i ht hi
   simp only[Option.some.injEq,Prod.mk.injEq] at h
   obtain⟨rfl,rfl,rfl,rfl,rfl⟩:=h
   exact⟨hu,ht,i,hi,rfl⟩
  ·cases h
 ·cases h
theorem cQ {es:List (List PV)} {s:Nat} (hu:∀ e∈es,e.length=s) (i:Nat) (hi:i≤es.length):(es.take i).flatten.length=i*s:=by
 induction es generalizing i with
 | nil=>simp at hi; subst hi; simp
 | cons e es ih=>
  cases i with
  | zero=>simp
  | succ i=>
   simp only[List.take_succ_cons,List.flatten_cons,List.length_append]
   rw[hu e (by simp),ih (fun e' h'=>hu e' (by simp[h'])) i (by simpa using hi)]
   rw[Nat.succ_mul]; omega
theorem gE {es:List (List PV)} {s:Nat} (hu:∀ e∈es,e.length=s) (i:Nat) (hi:i≤es.length):es.flatten.drop (i*s)=(es.drop i).flatten:=by
 conv=>lhs; rw[← List.take_append_drop i es,List.flatten_append]
 rw[List.drop_append_of_le_length (by rw[cQ hu i hi]; omega),List.drop_eq_nil_of_le (by rw[cQ hu i hi]; omega)]
 rfl
theorem aM.front {g:Gh} {w:World} {A:Addr} {cs ds:List PV} (h:aM g w A (cs++ds)):aM g w A cs:=
 ⟨h.1,fun q x hq=>h.2 q x (by rw[List.getElem?_append_left (List.getElem?_eq_some_iff.1 hq).1]; exact hq)⟩
theorem nW {g:Gh} {w:World} {es:List (List PV)} {t:Tail} {v:Value} (h:Rel g w (.list es t) v) {i s:Nat} {e:List PV} (he:es[i]?=some e) (hs:e.length=s) (hs0:s≠0):
  ∃ A cap,v = .slice (some A) es.length cap∧A.spot=none∧Rel g w (.iptr e) (.pointer (some (At A (i*s)))):=by
 obtain⟨a,cap,rfl,hu,hl,ht,hc⟩:=Rel.an.1 h
 have hmem:e∈es:=List.mem_of_getElem? he
 have hi:i<es.length:=(List.getElem?_eq_some_iff.1 he).1
 have hu':∀ e'∈es,e'.length=s:=fun e' he'=>by rw[← hs]; exact hu e' he' e hmem
 rcases hc with hf|⟨A,rfl,hr⟩
 ·exfalso
  have:=cQ hu' es.length (Nat.le_refl _)
  rw[List.take_length,hf] at this
  rcases Nat.mul_eq_zero.1 this.symm with h1|h1
  ·rw[h1] at hi; simp at hi
  ·exact hs0 h1
 ·refine⟨A,cap,rfl,hr.1,Rel.cU.2 ⟨_,rfl,?_⟩⟩
  have:=hr.drop (i*s)
  rw[gE hu' i (Nat.le_of_lt hi),List.drop_eq_getElem_cons hi,List.flatten_cons] at this
  have he':es[i]=e:=by rw[List.getElem?_eq_getElem hi] at he; exact Option.some.inj he
  rw[he'] at this
  exact this.front
theorem fi {P:Program} {g:Gh} {H:aa} {w:World} {K:PV→aa→Prop} (h:Sim g H w) {t:TypeId} {b:Bool} {sz by_:Nat} {et:TypeId} (hel:elA P t=some (none,b,sz,by_,et))
  {es:List (List PV)} {tl:Tail} {v u:Value} (hx:Rel g w (.list es tl) v) {k:IntKind} {n:Int} (hi:Rel g w (.int k n) u) (h0:0≤n) {e:List PV} (he:es[n.toNat]?=some e)
  (hs:e.length=sz) (hs0:sz≠0) (hk:K (.iptr e) H):VOk P (Instr.indexAt t v u) g H w K:=by
 obtain⟨h1,h2,_⟩:=bz hel
 obtain⟨A,cap,rfl,hsp,hr⟩:=nW hx he hs hs0
 cases hi
 refine VOk.same h (v:= .pointer (some (At A (n.toNat*sz)))) ?_ hr hk
 have hlt:n.toNat<es.length:=(List.getElem?_eq_some_iff.1 he).1
 unfold Instr.indexAt
 simp only[asIntOf,Sem.run_bind,Sem.run_pure,Result.andThen_ok,ah h1]
 rw[if_pos ⟨h0,by omega⟩]
 simp only[Sem.run_bind,run_sizeOf h2,Result.andThen_ok,aU hsp,Sem.run_pure]
theorem fw {P:Program} {g:Gh} {H:aa} {w:World} {K:PV→aa→Prop} (h:Sim g H w) {t:TypeId} {b:Bool} {sz by_:Nat} {et:TypeId} (hel:elA P t=some (none,b,sz,by_,et))
  {o off len cap:Nat} {v u:Value} (hx:Rel g w (.arr o off len cap) v) {k:IntKind} {n:Int} (hi:Rel g w (.int k n) u) (h0:0≤n) (hn:n<len)
  (hk:K (.ptr o (off+n.toNat*sz)) H):VOk P (Instr.indexAt t v u) g H w K:=by
 obtain⟨h1,h2,_⟩:=bz hel
 cases hx with
 | arr _ _ _ _ ho=>
 cases hi
 refine VOk.same h (v:= .pointer (some (At ⟨g.bk o,off,none⟩ (n.toNat*sz)))) ?_ (.ptr o (off+n.toNat*sz) ho) hk
 unfold Instr.indexAt
 simp only[asIntOf,Sem.run_bind,Sem.run_pure,Result.andThen_ok,ah h1]
 rw[if_pos ⟨h0,by omega⟩]
 simp only[Sem.run_bind,run_sizeOf h2,Result.andThen_ok,Sem.run_pure]
 rw[aU rfl]
theorem eW {P:Program} {g:Gh} {H:aa} {w:World} {K:PV→aa→Prop} (h:Sim g H w) {t:TypeId} {m:Nat} {b:Bool} {sz by_:Nat} {et:TypeId} (hel:elA P t=some (some m,b,sz,by_,et))
  {x y:PV} {v u:Value} (hx:Rel g w x v) {k:IntKind} {n:Int} (hi:Rel g w (.int k n) u) (h0:0≤n) (hn:n<m) (hs:eF (n.toNat*sz) x=some y)
  (hk:K y H):VOk P (Instr.indexAt t v u) g H w K:=by
 obtain⟨h1,h2,_⟩:=jI hel
 obtain⟨A,rfl,hsp,hr⟩:=gQ hx hs
 cases hi
 refine VOk.same h (v:= .pointer (some (At A (n.toNat*sz)))) ?_ hr hk
 unfold Instr.indexAt
 simp only[asIntOf,Sem.run_bind,Sem.run_pure,Result.andThen_ok,ah h1,Instr.sureAddr]
 rw[if_pos ⟨h0,by omega⟩]
 simp only[Sem.run_bind,run_sizeOf h2,Result.andThen_ok,Sem.run_pure,aU hsp]
theorem nE {P:Program} {g:Gh} {H:aa} {w:World} {K:PV→aa→Prop} (h:Sim g H w) {t:TypeId} {m:Nat} {b:Bool} {sz by_:Nat} {et:TypeId} (hel:elA P t=some (some m,b,sz,by_,et))
  {cs:List PV} {y:PV} {v u:Value} (hx:Rel g w (.agg cs) v) {k:IntKind} {n:Int} (hi:Rel g w (.int k n) u) (h0:0≤n) (hn:n<m) (hp:gI b (n.toNat*sz) sz cs=some y)
  (hk:K y H):VOk P (Instr.index t v u) g H w K:=by
 obtain⟨h1,h2,_⟩:=jI hel
 obtain⟨vs,rfl,hr⟩:=Rel.aP.1 hx
 obtain⟨z,h5,h6⟩:=lz h2 hr hp
 cases hi
 refine VOk.same h (v:=z) ?_ h6 hk
 unfold Instr.index
 simp only[asIntOf,Sem.run_bind,Sem.run_pure,Result.andThen_ok,ah h1]
 rw[if_pos ⟨h0,by omega⟩]
 simp only[Sem.run_bind,run_sizeOf h2,Result.andThen_ok]
 exact h5
def sC:PV→PV→Option Bool
 | .int k a,.int k' b=>if k=k' then some (a == b) else none
 | .bool a,.bool b=>some (a == b)
 | .str a,.str b=>some (a == b)
 | _,_=>none
def bc:List PV→List PV→Option Bool
 | [],[]=>some true
 | x::xs,y::ys=>match sC x y with
  | some b=>match bc xs ys with
   | some c=>some (b && c)
   | none=>none
  | none=>none
 | _,_=>none
theorem iS {a b c d:List PV} (h:a.length=c.length) {r:Bool} (he:bc (a++b) (c++d)=some r):∃ r1 r2,bc a c=some r1∧bc b d=some r2∧r=(r1 && r2):=by
 induction a generalizing c r with
 | nil=>
  cases c with
  | nil=>exact⟨true,r,rfl,he,by simp⟩
  | cons y c=>simp at h
 | cons x a ih=>
  cases c with
  | nil=>simp at h
  | cons y c=>
   simp only[List.cons_append,bc] at he ⊢
   split at he
   ·rename_i b1 hb
    split at he
    ·rename_i c1 hc
     obtain⟨r1,r2,h1,h2,h3⟩:=ih (by simpa using h) hc
     simp only[h1]
     exact⟨b1 && r1,r2,rfl,h2,by cases he; rw[h3,Bool.and_assoc]⟩
    ·cases he
   ·cases he
def iJ (P:Program) (rec:TypeId→Option Nat):List Field→Nat→Option Nat
 | [],n=>some n
 | f::fs,n=>if f.name = "_" ∨ f.offset≠n then none else match rec f.type,tyA P f.type with
  | some m,some (_,sz)=>if sz=m then iJ P rec fs (n+m) else none
  | _,_=>none
def eZ (P:Program):Nat→TypeId→Option Nat
 | 0,_=>none
 | d+1,t=>match P.underlying t with
  | some (.int _)=>if tyA P t=some (false,1) then some 1 else none
  | some .bool=>if tyA P t=some (false,1) then some 1 else none
  | some .string=>if tyA P t=some (false,1) then some 1 else none
  | some (.struct fs)=>if P.stoodInHeld t then none else if(tyA P t).map (·.1)=some true then iJ P (eZ P d) fs.toList 0 else none
  | _=>none
def valOf (b:Bool) (vs:List Value):Value:=if b then .agg vs.toArray else vs.headD undef
def kindOf (P:Program) (t:TypeId):PV→Prop
 | .int _ _=>∃ k,P.underlying t=some (.int k)
 | .bool _=>P.underlying t=some .bool
 | .str _=>P.underlying t=some .string
 | _=>True
theorem pX {P:Program} {g:Gh} {w:World} {x y:PV} {v u:Value} (hx:Rel g w x v) (hy:Rel g w y u) {r:Bool} (h:sC x y=some r) {t:TypeId} (d:Nat) (hk:kindOf P t x):
  (Op.equalIn (d+1) t v u).run P w = .ok r w:=by
 cases hx<;>cases hy<;>simp only[sC,reduceCtorEq,Option.some.injEq] at h
 ·subst h; exact run_equalIn_bool' w d t _ _ hk
 ·split at h
  ·rename_i e; subst e; cases h
   obtain⟨k'',hk⟩:=hk
   exact run_equalIn_int w d t _ k'' _ _ hk
  ·cases h
 ·subst h
  rw[run_equalIn_string w d t _ _ hk,beq_toListBytes]
def rV (P:Program) (rec:TypeId→List PV→Bool):List Field→List PV→Bool
 | [],_=>true
 | f::fs,cs=>match tyA P f.type with
  | some (_,sz)=>rec f.type (cs.take sz) && rV P rec fs (cs.drop sz)
  | none=>false
def mz (P:Program):Nat→TypeId→List PV→Bool
 | 0,_,_=>false
 | d+1,t,cs=>match P.underlying t with
  | some (.int _)=>match cs with|[.int _ _]=>true|_=>false
  | some .bool=>match cs with|[.bool _]=>true|_=>false
  | some .string=>match cs with|[.str _]=>true|_=>false
  | some (.struct fs)=>rV P (mz P d) fs.toList cs
  | _=>false
theorem eg {xs ys:List PV} {r:Bool} (h:bc xs ys=some r):xs.length=ys.length:=by
 induction xs generalizing ys r with
 | nil=>cases ys with
  | nil=>rfl
  | cons y ys=>simp[bc] at h
 | cons x xs ih=>cases ys with
  | nil=>simp[bc] at h
  | cons y ys=>
   simp only[bc] at h
   split at h
   ·split at h
    ·rename_i hc; simp[ih hc]
    ·cases h
   ·cases h
theorem n6 {P:Program} {g:Gh} {w:World} {d D:Nat}
  (ih:∀(t:TypeId) (n:Nat) (b:Bool) (sz:Nat),eZ P d t=some n→tyA P t=some (b,sz)→sz=n→∀(xs ys:List PV) (vs us:List Value) (r:Bool),aq g w xs vs→aq g w ys us→xs.length=n→mz P d t xs=true→
   bc xs ys=some r→(Op.equalIn D t (valOf b vs) (valOf b us)).run P w = .ok r w) (V U:Array Value):
  ∀(fs:List Field) (n N:Nat) (xs ys:List PV) (r:Bool),iJ P (eZ P d) fs n=some N→N=V.size→N=U.size→aq g w xs (V.toList.drop n)→aq g w ys (U.toList.drop n)→rV P (mz P d) fs xs=true→
   bc xs ys=some r→(Op.eqFields D V U fs).run P w = .ok r w:=by
 intro fs
 induction fs with
 | nil=>
  intro n N xs ys r hf hN hU hx hy _ he
  simp only[iJ,Option.some.injEq] at hf
  subst hf
  have h0:xs=[]:=by
   have:=hx.1; simp at this; exact List.length_eq_zero_iff.1 (by omega)
  have h1:ys=[]:=by
   have:=hy.1; simp at this; exact List.length_eq_zero_iff.1 (by omega)
  subst h0; subst h1
  simp only[bc,Option.some.injEq] at he
  subst he
  rfl
 | cons f fs ihf=>
  intro n N xs ys r hf hN hU hx hy hfit he
  simp only[iJ] at hf
  split at hf
  ·cases hf
  rename_i hname
  split at hf
  ·rename_i m b sz hrec hty
   split at hf
   ·rename_i hsz
    subst hsz
    have hge:n+sz≤N:=by
     clear ihf hfit he hx hy
     generalize n+sz=q at hf ⊢
     induction fs generalizing q with
     | nil=>simp only[iJ,Option.some.injEq] at hf; omega
     | cons f' fs' ih'=>
      simp only[iJ] at hf
      split at hf
      ·cases hf
      ·split at hf
       ·split at hf
        ·have:=ih' _ hf; omega
        ·cases hf
       ·cases hf
    have hoff:f.offset=n:=by
     rcases Decidable.em (f.offset=n) with e|e
     ·exact e
     ·exact absurd (.inr e) hname
    have hnm:f.name ≠ "_" := fun e=>hname (.inl e)
    have hxl:xs.length=N-n:=by have:=hx.1; simp at this; omega
    have hyl:ys.length=N-n:=by have:=hy.1; simp at this; omega
    have e1:xs=xs.take sz++xs.drop sz:=(List.take_append_drop sz xs).symm
    have e2:ys=ys.take sz++ys.drop sz:=(List.take_append_drop sz ys).symm
    rw[e1,e2] at he
    obtain⟨r1,r2,h1,h2,h3⟩:=iS (by simp; omega) he
    simp only[rV,hty,Bool.and_eq_true] at hfit
    have hpart:∀(A:Array Value),N=A.size→(part f.type A f.offset).run P w = .ok (valOf b ((A.toList.drop n).take sz)) w:=by
     intro A hA
     unfold part
     rw[Sem.run_bind,gz hty]
     simp only[Result.andThen_ok,hoff,valOf]
     cases b with
     | true=>
      simp only[if_true]
      rw[Sem.run_bind,run_sizeOf hty]
      simp only[Result.andThen_ok,Sem.run_pure]
      congr 2
      apply Array.ext'
      simp
     | false=>
      have hs1:sz=1∨sz≠1:=Decidable.em _
      simp only[Bool.false_eq_true,if_false]
      by_cases h0:sz=0
      ·exfalso
       subst h0
       revert hrec hfit
       clear ihf
       cases d with
       | zero=>intro hrec; simp[eZ] at hrec
       | succ d=>
        intro hrec
        simp only[eZ] at hrec
        split at hrec<;>first|(cases hrec; done)|skip
        ·split at hrec<;>simp at hrec
        ·split at hrec<;>simp at hrec
        ·split at hrec<;>simp at hrec
        ·split at hrec
         ·cases hrec
         ·split at hrec
          ·rename_i hagg; rw[hty] at hagg; simp at hagg
          ·cases hrec
      ·have hlt:n<A.size:=by omega
       rw[Array.getElem?_eq_getElem hlt]
       simp only[Sem.run_pure]
       congr 1
       have:(A.toList.drop n).take sz=A[n]::((A.toList.drop (n+1)).take (sz-1)):=by
        rw[List.drop_eq_getElem_cons (by simpa using hlt)]
        obtain⟨k,rfl⟩:∃ k,sz=k+1:=⟨sz-1,by omega⟩
        simp
       rw[this]; rfl
    have hcmp:=ih f.type sz b sz hrec hty rfl (xs.take sz) (ys.take sz) ((V.toList.drop n).take sz) ((U.toList.drop n).take sz) r1 (hx.take sz) (hy.take sz) (by simp; omega) hfit.1 h1
    have hrest:=ihf (n+sz) N (xs.drop sz) (ys.drop sz) r2 hf hN hU (by have:=hx.drop sz; simpa[List.drop_drop] using this) (by have:=hy.drop sz; simpa[List.drop_drop] using this) hfit.2 h2
    unfold Op.eqFields
    rw[if_pos hnm]
    simp only[Sem.run_bind,hpart V hN,hpart U hU,Result.andThen_ok,hcmp]
    cases r1 with
    | true=>simp only[Bool.not_true,Bool.false_eq_true,if_false,hrest]; rw[h3]; simp
    | false=>simp[h3]
   ·cases hf
  ·cases hf
theorem rD {P:Program} {g:Gh} {w:World}:∀(d D:Nat),d≤D→∀(t:TypeId) (n:Nat) (b:Bool) (sz:Nat),eZ P d t=some n→tyA P t=some (b,sz)→sz=n→
  ∀(xs ys:List PV) (vs us:List Value) (r:Bool),aq g w xs vs→aq g w ys us→xs.length=n→mz P d t xs=true→
   bc xs ys=some r→(Op.equalIn D t (valOf b vs) (valOf b us)).run P w = .ok r w:=by
 intro d
 induction d with
 | zero=>intro D _ t n b sz hf; simp[eZ] at hf
 | succ d ih=>
  intro D hD t n b sz hf hty hsz xs ys vs us r hx hy hn hfit he
  obtain⟨D,rfl⟩:∃ k,D=k+1:=⟨D-1,by omega⟩
  have leaf:∀(hb:tyA P t=some (false,1)) (x:PV),xs=[x]→kindOf P t x→
    (Op.equalIn (D+1) t (valOf b vs) (valOf b us)).run P w = .ok r w:=by
   intro hb x hxs hk
   rw[hb] at hty
   simp only[Option.some.injEq,Prod.mk.injEq] at hty
   obtain⟨rfl,rfl⟩:=hty
   subst hxs
   have hyl:=eg he
   obtain⟨y,rfl⟩:∃ y,ys=[y]:=by
    cases ys with
    | nil=>simp at hyl
    | cons y ys=>cases ys with
     | nil=>exact⟨y,rfl⟩
     | cons z zs=>simp at hyl
   obtain⟨v,rfl⟩:∃ v,vs=[v]:=by
    have:=hx.1
    cases vs with
    | nil=>simp at this
    | cons v vs=>cases vs with
     | nil=>exact⟨v,rfl⟩
     | cons z zs=>simp at this
   obtain⟨u,rfl⟩:∃ u,us=[u]:=by
    have:=hy.1
    cases us with
    | nil=>simp at this
    | cons v vs=>cases vs with
     | nil=>exact⟨v,rfl⟩
     | cons z zs=>simp at this
   simp only[valOf,Bool.false_eq_true,if_false,List.headD_cons]
   have hsc:sC x y=some r:=by
    simp only[bc] at he
    split at he
    ·rename_i b1 hb1; simp at he; rw[hb1,he]
    ·cases he
   exact pX (hx.2 0 x v rfl rfl) (hy.2 0 y u rfl rfl) hsc D hk
  have hfit0:=hfit
  simp only[eZ] at hf
  simp only[mz] at hfit
  split at hf
  ·rename_i k hu
   split at hf
   ·rename_i hb
    rw[hu] at hfit
    simp only at hfit
    split at hfit
    ·exact leaf hb _ rfl ⟨k,hu⟩
    ·cases hfit
   ·cases hf
  ·rename_i hu
   split at hf
   ·rename_i hb
    rw[hu] at hfit
    simp only at hfit
    split at hfit
    ·exact leaf hb _ rfl hu
    ·cases hfit
   ·cases hf
  ·rename_i hu
   split at hf
   ·rename_i hb
    rw[hu] at hfit
    simp only at hfit
    split at hfit
    ·exact leaf hb _ rfl hu
    ·cases hfit
   ·cases hf
  ·rename_i fs hu
   rw[hu] at hfit
   simp only at hfit
   split at hf
   ·cases hf
   ·rename_i hst
    split at hf
    ·rename_i hagg
     rw[hty] at hagg
     simp only[Option.map_some,Option.some.injEq] at hagg
     subst hagg
     simp only[valOf,if_true]
     have hfo:P.fieldsOf t=fs:=by simp[Program.fieldsOf,hu]
     rw[run_equalIn_struct w D t _ _ (by rw[hfo]; exact hu) (by simpa using hst),hfo]
     have hvl:n=vs.toArray.size:=by have:=hx.1; simp; omega
     have hul:n=us.toArray.size:=by have:=hy.1; have:=eg he; simp; omega
     exact n6 (fun t n b sz h1 h2 h3=>ih D (by omega) t n b sz h1 h2 h3) vs.toArray us.toArray fs.toList 0 n xs ys r hf hvl hul (by simpa using hx) (by simpa using hy) hfit he
    ·cases hf
  ·cases hf
def ij (op:BinOp) (k:IntKind) (a:Int) (k':IntKind) (b:Int) (K:PV→Prop):Prop:=
 match op with
 | .add=>k=k'∧K (.int k (k.wrap (a+b)))
 | .sub=>k=k'∧K (.int k (k.wrap (a-b)))
 | .mul=>k=k'∧K (.int k (k.wrap (a*b)))
 | .quo=>k=k'∧b≠0∧K (.int k (k.wrap (a.tdiv b)))
 | .rem=>k=k'∧b≠0∧K (.int k (a.tmod b))
 | .and=>k=k'∧K (.int k (k.wrap (BitVec.ofInt k.bits a &&& BitVec.ofInt k.bits b).toNat))
 | .or=>k=k'∧K (.int k (k.wrap (BitVec.ofInt k.bits a ||| BitVec.ofInt k.bits b).toNat))
 | .xor=>k=k'∧K (.int k (k.wrap (BitVec.ofInt k.bits a ^^^ BitVec.ofInt k.bits b).toNat))
 | .andNot=>k=k'∧K (.int k (k.wrap (BitVec.ofInt k.bits a &&& ~~~ BitVec.ofInt k.bits b).toNat))
 | .shl=>0≤b∧K (.int k (k.wrap (a*2 ^ (min b.toNat k.bits))))
 | .shr=>0≤b∧K (.int k (a.fdiv (2 ^ (min b.toNat k.bits))))
 | .eql=>k=k'∧K (.bool (a == b))
 | .neq=>k=k'∧K (.bool (a != b))
 | .lss=>k=k'∧K (.bool (decide (a<b)))
 | .leq=>k=k'∧K (.bool (decide (a≤b)))
 | .gtr=>k=k'∧K (.bool (decide (a>b)))
 | .geq=>k=k'∧K (.bool (decide (a≥b)))
theorem p5 {P:Program} {g:Gh} {w:World} {op:BinOp} {k k':IntKind} {a b:Int} {K:PV→Prop} (h:ij op k a k' b K) (t:TypeId):
  ∃ v z,(binOp op t (.int k a) (.int k' b)).run P w = .ok v w∧Rel g w z v∧K z:=by
 cases op<;>simp only[ij] at h
 case shl=>
  refine⟨_,_,?_,.int _ _,h.2⟩
  simp only[binOp,Op.shift]
  rw[if_neg (by omega)]; rfl
 case shr=>
  refine⟨_,_,?_,.int _ _,h.2⟩
  simp only[binOp,Op.shift]
  rw[if_neg (by omega)]; rfl
 case quo=>
  obtain⟨rfl,hb,hk⟩:=h
  refine⟨_,_,?_,.int _ _,hk⟩
  simp[binOp,Op.intDiv,hb]
 case rem=>
  obtain⟨rfl,hb,hk⟩:=h
  refine⟨_,_,?_,.int _ _,hk⟩
  simp[binOp,Op.intDiv,hb]
 all_goals
  obtain⟨rfl,hk⟩:=h
  first
  | exact⟨_,_,by simp[binOp,Op.intArith,Op.intBits],Rel.int _ _,hk⟩
  | exact⟨_,_,by simp[binOp,Op.intCmp],Rel.bool _,hk⟩
theorem cO {P:Program} {w:World} {t e:TypeId} (ht:P.underlying t=some (.pointer e)) (a:Option Addr):(Op.equal t (.pointer a) (.pointer none)).run P w = .ok a.isNone w:=by
 have h:∀ d,(Op.equalIn (d+1) t (.pointer a) (.pointer none)).run P w = .ok a.isNone w:=by
  intro d
  unfold Op.equalIn
  rw[Sem.run_bind,ah ht]
  cases a<;>rfl
 exact h 9999
theorem lC {P:Program} {w:World} {t e:TypeId} (ht:P.underlying t=some (.slice e)) (a:Option Addr) (n c:Nat):(Op.equal t (.slice a n c) (.slice none 0 0)).run P w = .ok a.isNone w:=by
 have h:∀ d,(Op.equalIn (d+1) t (.slice a n c) (.slice none 0 0)).run P w = .ok a.isNone w:=by
  intro d
  unfold Op.equalIn
  rw[Sem.run_bind,ah ht]
  cases a<;>rfl
 exact h 9999
def gj (P:Program) (op:BinOp) (t:TypeId) (x y:PV) (K:PV→Prop):Prop:=
 match x,y with
 | .int k a,.int k' b=>ij op k a k' b K
 | .str a,.str b=>match op with
  | .eql=>K (.bool (a == b))
  | .neq=>K (.bool (a != b))
  | _=>False
 | .bool a,.bool b=>P.underlying t=some .bool∧match op with
  | .eql=>K (.bool (a == b))
  | .neq=>K (.bool (a != b))
  | _=>False
 | .nilptr,.nilptr=>(∃ e,P.underlying t=some (.pointer e))∧match op with
  | .eql=>K (.bool true)
  | .neq=>K (.bool false)
  | _=>False
 | .ptr _ _,.nilptr=>(∃ e,P.underlying t=some (.pointer e))∧match op with
  | .eql=>K (.bool false)
  | .neq=>K (.bool true)
  | _=>False
 | .iptr _,.nilptr=>(∃ e,P.underlying t=some (.pointer e))∧match op with
  | .eql=>K (.bool false)
  | .neq=>K (.bool true)
  | _=>False
 | .agg xs,.agg ys=>P.eqGuardType P.depth t=false∧eZ P 20 t=some xs.length∧tyA P t=some (true,xs.length)∧mz P 20 t xs=true∧
  match bc xs ys with
  | some r=>(match op with
   | .eql=>K (.bool r)
   | .neq=>K (.bool (!r))
   | _=>False)
  | none=>False
 | _,_=>False
def bT:Operand→Bool
 | .const (.slice none 0 0)=>true
 | _=>false
theorem qn {P:Program} {g:Gh} {w:World} {op:BinOp} {t:TypeId} {x y:PV} {v u:Value} (hx:Rel g w x v) (hy:Rel g w y u) (X Y:Operand) {K:PV→Prop} (h:gj P op t x y K):
  ∃ r z,(do eqGuard op t X Y v u; binOp op t v u:Sem Value).run P w = .ok r w∧Rel g w z r∧K z:=by
 unfold gj at h
 split at h
 ·rename_i k a k' b
  cases hx; cases hy
  obtain⟨v,z,h1,h2,h3⟩:=p5 (P:=P) (g:=g) (w:=w) h t
  refine⟨v,z,?_,h2,h3⟩
  rw[Sem.run_bind]
  have:(eqGuard op t X Y (.int k a) (.int k' b)).run P w = .ok () w:=by cases op<;>simp[eqGuard]
  rw[this]; exact h1
 ·rename_i a b
  cases hx; cases hy
  have hg:(eqGuard op t X Y (.string a) (.string b)).run P w = .ok () w:=by cases op<;>simp[eqGuard]
  split at h
  ·refine⟨_,_,?_,.bool _,h⟩
   rw[Sem.run_bind,hg]
   simp[binOp,Op.stringOp,beq_toListBytes]
  ·refine⟨_,_,?_,.bool _,h⟩
   rw[Sem.run_bind,hg]
   simp[binOp,Op.stringOp,bne,beq_toListBytes]
  ·exact h.elim
 ·rename_i a b
  cases hx; cases hy
  obtain⟨ht,h⟩:=h
  have hg:(eqGuard op t X Y (.bool a) (.bool b)).run P w = .ok () w:=by cases op<;>simp[eqGuard]
  split at h
  ·refine⟨_,_,?_,.bool _,h⟩
   rw[Sem.run_bind,hg]
   simp only[Result.andThen_ok,binOp,Sem.run_bind,Op.equal,Op.maxDepth]
   rw[run_equalIn_bool' w 9999 t a b ht]; rfl
  ·refine⟨_,_,?_,.bool _,h⟩
   rw[Sem.run_bind,hg]
   simp only[Result.andThen_ok,binOp,Sem.run_bind,Op.equal,Op.maxDepth]
   rw[run_equalIn_bool' w 9999 t a b ht]; rfl
  ·exact h.elim
 ·cases hx; cases hy
  obtain⟨⟨e,ht⟩,h⟩:=h
  have hg:(eqGuard op t X Y (.pointer none) (.pointer none)).run P w = .ok () w:=by cases op<;>simp[eqGuard]
  split at h
  ·refine⟨_,_,?_,.bool _,h⟩
   rw[Sem.run_bind,hg]
   simp only[Result.andThen_ok,binOp,Sem.run_bind,cO ht]; rfl
  ·refine⟨_,_,?_,.bool _,h⟩
   rw[Sem.run_bind,hg]
   simp only[Result.andThen_ok,binOp,Sem.run_bind,cO ht]; rfl
  ·exact h.elim
 ·rename_i o off
  cases hx; cases hy
  obtain⟨⟨e,ht⟩,h⟩:=h
  have hg:∀ A,(eqGuard op t X Y (.pointer (some A)) (.pointer none)).run P w = .ok () w:=by intro A; cases op<;>simp[eqGuard]
  split at h
  ·refine⟨_,_,?_,.bool _,h⟩
   rw[Sem.run_bind,hg]
   simp only[Result.andThen_ok,binOp,Sem.run_bind,cO ht]; rfl
  ·refine⟨_,_,?_,.bool _,h⟩
   rw[Sem.run_bind,hg]
   simp only[Result.andThen_ok,binOp,Sem.run_bind,cO ht]; rfl
  ·exact h.elim
 ·rename_i cs
  cases hx; cases hy
  obtain⟨⟨e,ht⟩,h⟩:=h
  have hg:∀ A,(eqGuard op t X Y (.pointer (some A)) (.pointer none)).run P w = .ok () w:=by intro A; cases op<;>simp[eqGuard]
  split at h
  ·refine⟨_,_,?_,.bool _,h⟩
   rw[Sem.run_bind,hg]
   simp only[Result.andThen_ok,binOp,Sem.run_bind,cO ht]; rfl
  ·refine⟨_,_,?_,.bool _,h⟩
   rw[Sem.run_bind,hg]
   simp only[Result.andThen_ok,binOp,Sem.run_bind,cO ht]; rfl
  ·exact h.elim
 ·rename_i xs ys
  obtain⟨vs,rfl,hvs⟩:=Rel.aP.1 hx
  obtain⟨us,rfl,hus⟩:=Rel.aP.1 hy
  obtain⟨hgd,hfl,hty,hfit,h⟩:=h
  have hg:(eqGuard op t X Y (.agg vs) (.agg us)).run P w = .ok () w:=run_eqGuard_agg w op t X Y vs us hgd
  split at h
  ·rename_i r he
   have heq:=rD (P:=P) (g:=g) (w:=w) 20 10000 (by omega) t _ true _ hfl hty rfl xs ys vs.toList us.toList r hvs hus rfl hfit he
   simp only[valOf,if_true,Array.toArray_toList] at heq
   split at h
   ·refine⟨_,_,?_,.bool _,h⟩
    rw[Sem.run_bind,hg]
    simp only[Result.andThen_ok]
    rw[run_eql_struct,heq]; rfl
   ·refine⟨_,_,?_,.bool _,h⟩
    rw[Sem.run_bind,hg]
    simp only[Result.andThen_ok]
    rw[run_neq_struct,heq]; rfl
   ·exact h.elim
  ·exact h.elim
 ·exact h.elim
def pu (P:Program) (op:BinOp) (t:TypeId) (x:PV) (K:PV→Prop):Prop:=
 (∃ e,P.underlying t=some (.slice e))∧match x with
 | .list es _=>(match op with
  | .eql=>∀ b:Bool,(es.flatten≠[]→b=false)→K (.bool b)
  | .neq=>∀ b:Bool,(es.flatten≠[]→b=true)→K (.bool b)
  | _=>False)
 | .arr _ _ _ _=>(match op with
  | .eql=>K (.bool false)
  | .neq=>K (.bool true)
  | _=>False)
 | _=>False
theorem p8 {P:Program} {g:Gh} {w:World} {op:BinOp} {t:TypeId} {x:PV} {v:Value} (hx:Rel g w x v) (X Y:Operand) {K:PV→Prop} (h:pu P op t x K):
  ∃ r z,(do eqGuard op t X Y v (.slice none 0 0); binOp op t v (.slice none 0 0):Sem Value).run P w = .ok r w∧Rel g w z r∧K z:=by
 obtain⟨⟨e,ht⟩,h⟩:=h
 have hg:∀ a n c,(eqGuard op t X Y (.slice a n c) (.slice none 0 0)).run P w = .ok () w:=by intro a n c; cases op<;>simp[eqGuard]
 have heq:∀(a:Option Addr) n c,(Op.equal t (.slice a n c) (.slice none 0 0)).run P w = .ok a.isNone w:=by
  exact fun a n c=>lC ht a n c
 split at h
 ·rename_i es tl
  obtain⟨a,cap,rfl,_,_,_,hc⟩:=Rel.an.1 hx
  have hne:es.flatten≠[]→a.isNone=false:=by
   intro hf
   rcases hc with h0|⟨A,rfl,_⟩
   ·exact absurd h0 hf
   ·rfl
  split at h
  ·refine⟨.bool a.isNone,.bool a.isNone,?_,.bool _,h a.isNone hne⟩
   rw[Sem.run_bind,hg]
   simp only[Result.andThen_ok,binOp,Sem.run_bind,heq]; rfl
  ·refine⟨.bool !a.isNone,.bool !a.isNone,?_,.bool _,h (!a.isNone) (fun hf=>by rw[hne hf]; rfl)⟩
   rw[Sem.run_bind,hg]
   simp only[Result.andThen_ok,binOp,Sem.run_bind,heq]; rfl
  ·exact h.elim
 ·cases hx
  split at h
  ·refine⟨_,_,?_,.bool _,h⟩
   rw[Sem.run_bind,hg]
   simp only[Result.andThen_ok,binOp,Sem.run_bind,heq]; rfl
  ·refine⟨_,_,?_,.bool _,h⟩
   rw[Sem.run_bind,hg]
   simp only[Result.andThen_ok,binOp,Sem.run_bind,heq]; rfl
  ·exact h.elim
 ·exact h.elim
def unA (op:UnOp) (x:PV):Option PV:=
 match op,x with
 | .not,.bool b=>some (.bool !b)
 | .neg,.int k n=>some (.int k (k.wrap (0-n)))
 | _,_=>none
theorem r5 {P:Program} {g:Gh} {w:World} {op:UnOp} {x y:PV} {v:Value} (hx:Rel g w x v) (h:unA op x=some y):∃ r,(Op.unary op v).run P w = .ok r w∧Rel g w y r:=by
 unfold unA at h
 split at h
 ·cases h; cases hx; exact⟨_,rfl,.bool _⟩
 ·cases h; cases hx; exact⟨_,rfl,.int _ _⟩
 ·cases h
def gV (acc:ByteArray):List (List PV)→Option ByteArray
 | []=>some acc
 | [.int .u8 n]::es=>gV (acc.push (UInt8.ofNat n.toNat)) es
 | _=>none
theorem iF {P:Program} {g:Gh} {w:World}:∀(es:List (List PV)) (vs:List Value) (s r:ByteArray),aq g w es.flatten vs→gV s es=some r→vs.length=es.length∧
  Sem.run P (forIn vs.toArray s fun c __s=>match c with
   | Value.int IntKind.u8 n=>(pure (ForInStep.yield (__s.push (UInt8.ofNat n.toNat))):Sem (ForInStep ByteArray))
   | _=>do
    stuck "bytesToString: byte expected"
    pure (ForInStep.yield __s)) w = .ok r w
 | [],vs,s,r,hr,h=>by
  simp only[gV,Option.some.injEq] at h
  subst h
  have:vs=[]:=List.eq_nil_of_length_eq_zero (by have:=hr.1; simpa using this.symm)
  subst this
  simp
 | []::es,vs,s,r,hr,h=>by simp[gV] at h
 | [x]::es,vs,s,r,hr,h=>by
  cases x<;>try (simp[gV] at h; done)
  rename_i k n
  cases k<;>try (simp[gV] at h; done)
  simp only[gV] at h
  cases vs with
  | nil=>have:=hr.1; simp at this
  | cons v vs=>
   have h1:Rel g w (.int .u8 n) v:=hr.2 0 _ v rfl rfl
   cases h1
   have h2:aq g w es.flatten vs:=⟨by have:=hr.1; simpa using this,fun q x u h3 h4=>hr.2 (q+1) x u (by simpa using h3) (by simpa using h4)⟩
   obtain⟨h5,h6⟩:=iF es vs _ r h2 h
   refine⟨by simp[h5],?_⟩
   simp only[List.forIn_toArray,List.forIn_cons,Sem.run_bind] at h6 ⊢
   simpa using h6
 | (x::y::z)::es,vs,s,r,hr,h=>by simp[gV] at h
theorem nK {P:Program} {g:Gh} {w:World} {es:List (List PV)} {t:Tail} {v:Value} {r:ByteArray} (hx:Rel g w (.list es t) v) (h:gV .empty es=some r):(Conv.bytesToString v).run P w = .ok (.string r) w:=by
 obtain⟨a,cap,rfl,hu,hc,ht,hrow⟩:=Rel.an.1 hx
 unfold Conv.bytesToString
 have hnil:es.flatten=[]→es=[]∧r = .empty:=by
  intro h0
  match es,h with
  | [],h=>exact⟨rfl,by simp only[gV,Option.some.injEq] at h; exact h.symm⟩
  | []::_,h=>simp[gV] at h
  | (x::y)::_,_=>simp at h0
 cases a with
 | none=>
  rcases hrow with h0|⟨A,h0,_⟩
  ·obtain⟨_,rfl⟩:=hnil h0
   rfl
  ·cases h0
 | some A=>
  simp only[Sem.run_bind]
  rcases hrow with h0|⟨A',h0,hr⟩
  ·obtain⟨rfl,rfl⟩:=hnil h0
   simp[loadCells,loadCellsFrom]
  ·cases h0
   obtain⟨vs,h1,h2,h3⟩:=hr.row.ku es.flatten.length (Nat.le_refl _)
   rw[List.take_length] at h2
   obtain⟨h4,h5⟩:=iF (P:=P) es vs _ r h2 h
   have h6:=run_loadCells P w A hr.1 vs h3
   rw[h4] at h6
   rw[h6]
   simp only[Result.andThen_ok]
   exact(congrArg (fun z=>Result.andThen z fun a w'=>Sem.run P (pure (Value.string a)) w') h5).trans rfl
def nk (P:Program) (src dst:TypeId) (x:PV):Option PV:=
 match P.underlying src,P.underlying dst,x with
 | some (.int _),some (.int k),.int _ n=>some (.int k (k.wrap n))
 | some .string,some .string,.str s=>some (.str s)
 | some (.slice e),some .string,.list es _=>match P.underlying e,gV .empty es with
  | some (.int .u8),some s=>some (.str s)
  | _,_=>none
 | _,_,_=>none
theorem n7 {P:Program} {g:Gh} {w:World} {src dst:TypeId} {x y:PV} {v:Value} (hx:Rel g w x v) (h:nk P src dst x=some y):∃ r,(convert src dst v).run P w = .ok r w∧Rel g w y r:=by
 unfold nk at h
 split at h
 ·rename_i k0 k k' n h1 h2
  cases h; cases hx
  refine⟨_,?_,.int _ _⟩
  unfold convert
  simp only[Sem.run_bind,ah h1,ah h2,Result.andThen_ok,Conv.intToInt,Sem.run_pure]
 ·rename_i s h1 h2
  cases h; cases hx
  refine⟨_,?_,.str _⟩
  unfold convert
  simp only[Sem.run_bind,ah h1,ah h2,Result.andThen_ok,Sem.run_pure]
 ·rename_i e es tl h1 h2
  split at h
  ·rename_i s h3 h4
   cases h
   refine⟨_,?_,.str _⟩
   have hb:=nK (P:=P) hx h4
   obtain⟨a,cap,rfl,_⟩:=Rel.an.1 hx
   unfold convert
   simp only[Sem.run_bind,ah h1,ah h2,ah h3,Result.andThen_ok]
   exact hb
  ·cases h
 ·cases h
def rK (P:Program) (t:TypeId) (x:PV):Option Int:=
 match P.underlying t,x with
 | some (.slice _),.list es _=>some es.length
 | some (.slice _),.arr _ _ n _=>some n
 | some .string,.str s=>some s.size
 | some (.array n _),_=>some n
 | _,_=>none
theorem o6 {P:Program} {g:Gh} {w:World} {t:TypeId} {ts:Array TypeId} {x:PV} {v:Value} {n:Int} (hx:Rel g w x v) (ht:ts[0]?=some t) (h:rK P t x=some n) (ty:TypeId):
  (Builtin.len_ ts ty #[v]).run P w = .ok (goInt n) w:=by
 unfold Builtin.len_
 simp only[ht]
 unfold rK at h
 split at h
 ·rename_i es tl hu
  cases h
  obtain⟨a,cap,rfl,_⟩:=Rel.an.1 hx
  simp[ah hu]
 ·rename_i hu
  cases h; cases hx
  simp[ah hu]
 ·rename_i hu
  cases h; cases hx
  simp[ah hu]
 ·rename_i hu
  cases h
  simp[ah hu]
 ·cases h
theorem p7 {P:Program} {g:Gh} {w:World} {t e:TypeId} {ts:Array TypeId} {o off len cap:Nat} {v:Value} (hx:Rel g w (.arr o off len cap) v) (ht:ts[0]?=some t) (hu:P.underlying t=some (.slice e)) (ty:TypeId):
  (Builtin.cap_ ts ty #[v]).run P w = .ok (goInt cap) w:=by
 cases hx
 unfold Builtin.cap_
 simp[ht,ah hu]
theorem nA {P:Program} {g:Gh} {w:World} {t e:TypeId} {ts:Array TypeId} {es:List (List PV)} {v:Value} (hx:Rel g w (.list es .exact) v) (ht:ts[0]?=some t) (hu:P.underlying t=some (.slice e)) (ty:TypeId):
  (Builtin.cap_ ts ty #[v]).run P w = .ok (goInt es.length) w:=by
 obtain⟨a,cap,rfl,_,_,htl,_⟩:=Rel.an.1 hx
 have htl:cap=es.length:=htl
 subst htl
 unfold Builtin.cap_
 simp[ht,ah hu]
def bY (f:Int→Int→Int):List PV→Option PV
 | .int k x::ys=>go k x ys
 | _=>none
 where go (k:IntKind) (x:Int):List PV→Option PV
 | []=>some (.int k x)
 | .int _ y::ys=>go k (f x y) ys
 | _=>none
def mnI (x y:Int):Int:=if y<x then y else x
def mxI (x y:Int):Int:=if y>x then y else x
theorem uc {P:Program} {g:Gh} {w:World} (k:IntKind):∀(ys:List PV) (us:List Value) (x:Int) (z:PV),aq g w ys us→bY.go mnI k x ys=some z→
  ∃ r,(us.foldlM Builtin.min2 (.int k x)).run P w = .ok r w∧Rel g w z r:=by
 intro ys
 induction ys with
 | nil=>
  intro us x z h hz
  have:us=[]:=by have:=h.1; simp at this; exact List.length_eq_zero_iff.1 this.symm
  subst this
  simp only[bY.go,Option.some.injEq] at hz
  subst hz
  exact⟨_,rfl,.int _ _⟩
 | cons y ys ih=>
  intro us x z h hz
  cases us with
  | nil=>have:=h.1; simp at this
  | cons u us=>
   have hy:=h.2 0 y u rfl rfl
   cases hy<;>simp only[bY.go,reduceCtorEq] at hz
   obtain⟨r,h1,h2⟩:=ih us _ z ⟨by have:=h.1; simpa using this,fun q a b ha hb=>h.2 (q+1) a b (by simpa using ha) (by simpa using hb)⟩ hz
   refine⟨r,?_,h2⟩
   rw[List.foldlM_cons,Sem.run_bind]
   simp only[Builtin.min2,Sem.run_pure,Result.andThen_ok]
   exact h1
theorem vf {P:Program} {g:Gh} {w:World} (k:IntKind):∀(ys:List PV) (us:List Value) (x:Int) (z:PV),aq g w ys us→bY.go mxI k x ys=some z→
  ∃ r,(us.foldlM Builtin.max2 (.int k x)).run P w = .ok r w∧Rel g w z r:=by
 intro ys
 induction ys with
 | nil=>
  intro us x z h hz
  have:us=[]:=by have:=h.1; simp at this; exact List.length_eq_zero_iff.1 this.symm
  subst this
  simp only[bY.go,Option.some.injEq] at hz
  subst hz
  exact⟨_,rfl,.int _ _⟩
 | cons y ys ih=>
  intro us x z h hz
  cases us with
  | nil=>have:=h.1; simp at this
  | cons u us=>
   have hy:=h.2 0 y u rfl rfl
   cases hy<;>simp only[bY.go,reduceCtorEq] at hz
   obtain⟨r,h1,h2⟩:=ih us _ z ⟨by have:=h.1; simpa using this,fun q a b ha hb=>h.2 (q+1) a b (by simpa using ha) (by simpa using hb)⟩ hz
   refine⟨r,?_,h2⟩
   rw[List.foldlM_cons,Sem.run_bind]
   simp only[Builtin.max2,Sem.run_pure,Result.andThen_ok]
   exact h1
theorem qf {P:Program} {g:Gh} {w:World} {xs:List PV} {vs:Array Value} {z:PV} (h:aq g w xs vs.toList) (hz:bY mnI xs=some z) (ts:Array TypeId) (ty:TypeId):
  ∃ r,(Builtin.min_ ts ty vs).run P w = .ok r w∧Rel g w z r:=by
 unfold bY at hz
 split at hz
 ·rename_i k x ys
  unfold Builtin.min_
  generalize vs.toList=us at h
  cases us with
  | nil=>have:=h.1; simp at this
  | cons u us=>
   have hy:=h.2 0 _ u rfl rfl
   cases hy
   exact uc k ys us x z ⟨by have:=h.1; simpa using this,fun q a b ha hb=>h.2 (q+1) a b (by simpa using ha) (by simpa using hb)⟩ hz
 ·cases hz
theorem q7 {P:Program} {g:Gh} {w:World} {xs:List PV} {vs:Array Value} {z:PV} (h:aq g w xs vs.toList) (hz:bY mxI xs=some z) (ts:Array TypeId) (ty:TypeId):
  ∃ r,(Builtin.max_ ts ty vs).run P w = .ok r w∧Rel g w z r:=by
 unfold bY at hz
 split at hz
 ·rename_i k x ys
  unfold Builtin.max_
  generalize vs.toList=us at h
  cases us with
  | nil=>have:=h.1; simp at this
  | cons u us=>
   have hy:=h.2 0 _ u rfl rfl
   cases hy
   exact vf k ys us x z ⟨by have:=h.1; simpa using this,fun q a b ha hb=>h.2 (q+1) a b (by simpa using ha) (by simpa using hb)⟩ hz
 ·cases hz
def fh (place:Nat→Option (Nat×Nat)) (cells:List PV):List (Nat×PV)→Option (List PV)
 | []=>some cells
 | (i,x)::rest=>match place i,x.cells with
  | some (off,size),some xs=>if xs.length=size∧off+xs.length≤cells.length then fh place (over cells off xs) rest else none
  | _,_=>none
theorem foldl_over (vs:List Value):∀(off j:Nat) (C:Array Value),off+j+vs.length≤C.size→
  ((vs.zipIdx j).foldl (fun cs (x:Value×Nat)=>cs.setIfInBounds (off+x.2) x.1) C).toList=over C.toList (off+j) vs:=by
 induction vs with
 | nil=>intro off j C _; simp[eH]
 | cons v vs ih=>
  intro off j C h
  simp only[List.length_cons] at h
  simp only[List.zipIdx_cons,List.foldl_cons]
  rw[ih off (j+1) _ (by simp; omega),Array.toList_setIfInBounds,← Nat.add_assoc,jC _ _ _ _ (by simp; omega)]
theorem gq {g:Gh} {w:World} (place:Nat→Option (Nat×Nat)):∀(parts:List (Nat×PV)) (vparts:List (Nat×Value)) (cells:List PV) (C:Array Value) (cs:List PV),
  aq g w cells C.toList→vparts.map (·.1)=parts.map (·.1)→aq g w (parts.map (·.2)) (vparts.map (·.2))→fh place cells parts=some cs→
  ∃ C',Instr.fill place C vparts=some C'∧aq g w cs C'.toList:=by
 intro parts
 induction parts with
 | nil=>
  intro vparts cells C cs h h1 _ hf
  have:vparts=[]:=by simpa using h1
  subst this
  cases hf
  exact⟨C,rfl,h⟩
 | cons p parts ih=>
  intro vparts cells C cs h h1 h2 hf
  obtain⟨i,x⟩:=p
  cases vparts with
  | nil=>simp at h1
  | cons q vparts=>
   obtain⟨i',v⟩:=q
   simp only[List.map_cons,List.cons.injEq] at h1 h2
   obtain⟨rfl,h1⟩:=h1
   have hx:Rel g w x v:=h2.2 0 x v rfl rfl
   have h2':aq g w (parts.map (·.2)) (vparts.map (·.2)):=⟨by have:=h2.1; simpa using this,fun q a b ha hb=>h2.2 (q+1) a b (by simpa using ha) (by simpa using hb)⟩
   simp only[fh] at hf
   split at hf
   ·rename_i off size xs hp hc
    split at hf
    ·rename_i hfit
     have hr:=hx.iO hc
     have hvs:v.cells.size=size:=by have:=hr.1; simp at this; omega
     have hCs:C.size=cells.length:=by have:=h.1; simp at this; omega
     obtain⟨C',h3,h4⟩:=ih vparts (over cells off xs) ⟨over C.toList off v.cells.toList⟩ cs (by simpa using h.over hr off) h1 h2' hf
     refine⟨C',?_,h4⟩
     simp only[Instr.fill,hp]
     rw[if_neg (by simp[hvs]; omega)]
     rw[← h3]
     congr 1
     apply Array.ext'
     have:=foldl_over v.cells.toList off 0 C (by simp; omega)
     simp only[Nat.add_zero] at this
     rw[← this,← Array.foldl_toList]
     simp
    ·cases hf
   ·cases hf
def gZ (P:Program):List Field→Option (List (Nat×Nat))
 | []=>some []
 | f::fs=>match tyA P f.type,gZ P fs with
  | some (_,sz),some r=>some ((f.offset,sz)::r)
  | _,_=>none
theorem kZ {P:Program} {w:World}:∀(fs:List Field) (r:List (Nat×Nat)),gZ P fs=some r→(fs.mapM (fun f=>do pure (f.offset,← sizeOf f.type):Field→Sem (Nat×Nat))).run P w = .ok r w:=by
 intro fs
 induction fs with
 | nil=>intro r h; cases h; rfl
 | cons f fs ih=>
  intro r h
  simp only[gZ] at h
  split at h
  ·rename_i b sz r' ht hr
   cases h
   simp only[List.mapM_cons,Sem.run_bind,run_sizeOf ht,Result.andThen_ok,Sem.run_pure,ih r' hr]
  ·cases h
def jV (P:Program) (t:TypeId) (parts:List (Nat×PV)):Option (List PV):=
 match P.underlying t,bU P t with
 | some (.struct fs),some z=>match gZ P fs.toList with
  | some pl=>fh (fun i=>pl[i]?) z parts
  | none=>none
 | some (.array _ e),some z=>match tyA P e with
  | some (_,sz)=>fh (fun i=>some (i*sz,sz)) z parts
  | none=>none
 | _,_=>none
theorem mJ {P:Program} {g:Gh} {w:World} {t:TypeId} {parts:List (Nat×PV)} {vparts:Array (Nat×Value)} {cs:List PV} (h1:vparts.toList.map (·.1)=parts.map (·.1))
  (h2:aq g w (parts.map (·.2)) (vparts.toList.map (·.2))) (h:jV P t parts=some cs):∃ r,(Instr.build t vparts).run P w = .ok r w∧Rel g w (.agg cs) r:=by
 unfold jV at h
 unfold Instr.build
 split at h
 ·rename_i fs z hu hz
  obtain⟨zv,hzr,hzl⟩:=cu hz
  split at h
  ·rename_i pl hpl
   obtain⟨C',h3,h4⟩:=gq (fun i=>pl[i]?) parts vparts.toList z zv.cells cs (hzl g w) h1 h2 h
   refine⟨.agg C',?_,Rel.aP.2 ⟨_,rfl,h4⟩⟩
   rw[Sem.run_bind,hzr]
   simp only[Result.andThen_ok,Sem.run_bind,ah hu]
   rw[Array.mapM_eq_mapM_toList,Sem.run_map,kZ fs.toList pl hpl]
   simp only[Result.andThen_ok]
   have:(fun(i:Nat)=>(pl.toArray)[i]?)=fun(i:Nat)=>pl[i]?:=by funext i; simp
   rw[this,h3]
   rfl
  ·cases h
 ·rename_i n e z hu hz
  obtain⟨zv,hzr,hzl⟩:=cu hz
  split at h
  ·rename_i b sz ht
   obtain⟨C',h3,h4⟩:=gq (fun i=>some (i*sz,sz)) parts vparts.toList z zv.cells cs (hzl g w) h1 h2 h
   refine⟨.agg C',?_,Rel.aP.2 ⟨_,rfl,h4⟩⟩
   rw[Sem.run_bind,hzr]
   simp only[Result.andThen_ok,Sem.run_bind,ah hu,run_sizeOf ht,h3]
   rfl
  ·cases h
 ·cases h
theorem be (zero:Array Value) (n:Nat) (h:zero.size≠0∨n=0):((Array.range (n*zero.size)).map (fun i=>zero[i % zero.size]!)).toList=(List.replicate n zero.toList).flatten:=by
 rcases h with h|h
 ·induction n with
  | zero=>simp
  | succ n ih=>
   rw[List.replicate_succ',List.flatten_append,← ih]
   simp only[Array.toList_map,Array.toList_range,List.flatten_cons,List.flatten_nil,List.append_nil]
   rw[Nat.succ_mul,List.range_add,List.map_append,List.map_map]
   congr 1
   apply List.ext_getElem?
   intro q
   by_cases hq:q<zero.size
   ·rw[List.getElem?_map,List.getElem?_range hq]
    simp only[Option.map_some,Function.comp]
    rw[Nat.mul_add_mod_of_lt hq,Array.getElem?_toList]
    simp[hq]
   ·rw[List.getElem?_eq_none (by simp; omega),List.getElem?_eq_none (by simp; omega)]
 ·subst h; simp
theorem gB {g:Gh} {w:World} {cs:List PV} {vs:List Value} (h:aq g w cs vs) (n:Nat):aq g w (List.replicate n cs).flatten (List.replicate n vs).flatten:=by
 induction n with
 | zero=>exact .nil
 | succ n ih=>simp only[List.replicate_succ,List.flatten_cons]; exact h.append ih
def uni (s:Nat) (es:List (List PV)):Prop:=∀ e∈es,e.length=s
theorem cH {s:Nat} {es:List (List PV)} (h:uni s es):es.flatten.length=es.length*s:=by
 have:=cQ h es.length (Nat.le_refl _)
 rwa [List.take_length] at this
theorem dG {s:Nat} {es:List (List PV)} (h:uni s es):∀ e∈es,∀ e'∈es,e.length=e'.length:=fun e he e' he'=>(h e he).trans (h e' he').symm
theorem lM {s:Nat} {es:List (List PV)} (h:uni s es) {i:Nat} (hi:i<es.length) {xs:List PV} (hx:xs.length=s):(es.set i xs).flatten=over es.flatten (i*s) xs:=by
 have h1:(es.flatten).take (i*s)=(es.take i).flatten:=by
  conv=>lhs; rw[← List.take_append_drop i es,List.flatten_append]
  rw[List.take_append_of_le_length (by rw[cQ h i (Nat.le_of_lt hi)]; omega),List.take_of_length_le (by rw[cQ h i (Nat.le_of_lt hi)]; omega)]
 have h2:(es.flatten).drop (i*s+xs.length)=(es.drop (i+1)).flatten:=by
  rw[hx,← Nat.succ_mul,gE h (i+1) hi]
 unfold over
 rw[h1,h2,List.set_eq_take_append_cons_drop,if_pos hi]
 simp
def gf (s:Nat) (es:List (List PV)):List (Nat×PV)→Option (List (List PV))
 | []=>some es
 | (i,x)::rest=>match x.cells with
  | some xs=>if xs.length=s∧i<es.length then gf s (es.set i xs) rest else none
  | none=>none
theorem lj {s:Nat}:∀(parts:List (Nat×PV)) (es es':List (List PV)),uni s es→gf s es parts=some es'→
  uni s es'∧es'.length=es.length∧fh (fun i=>some (i*s,s)) es.flatten parts=some es'.flatten:=by
 intro parts
 induction parts with
 | nil=>intro es es' h1 h; cases h; exact⟨h1,rfl,rfl⟩
 | cons p parts ih=>
  intro es es' h1 h
  obtain⟨i,x⟩:=p
  simp only[gf] at h
  split at h
  ·rename_i xs hx
   split at h
   ·rename_i hc
    have hu:uni s (es.set i xs):=by
     intro e he
     rcases List.mem_or_eq_of_mem_set he with he|rfl
     ·exact h1 e he
     ·exact hc.1
    obtain⟨h2,h3,h4⟩:=ih _ es' hu h
    refine⟨h2,by simpa using h3,?_⟩
    simp only[fh,hx]
    rw[if_pos ⟨hc.1,by rw[hc.1,cH h1,← Nat.succ_mul]; exact Nat.mul_le_mul_right _ hc.2⟩,← lM h1 hc.2 hc.1]
    exact h4
   ·cases h
  ·cases h
theorem ii {P:Program} {g:Gh} {H:aa} {w:World} {K:PV→aa→Prop} (h:Sim g H w) {t:TypeId} {b:Bool} {sz by_:Nat} {et:TypeId} (hel:elA P t=some (none,b,sz,by_,et))
  {len:Nat} {parts:List (Nat×PV)} {vparts:Array (Nat×Value)} {z:List PV} {es:List (List PV)} (hz:bU P et=some z) (hzs:z.length=sz) (hs0:sz≠0) (hn:len*sz≤16777216)
  (h1:vparts.toList.map (·.1)=parts.map (·.1)) (h2:aq g w (parts.map (·.2)) (vparts.toList.map (·.2))) (he:gf sz (List.replicate len z) parts=some es)
  (hk:K (.list es .exact) H):VOk P (Instr.buildSlice t len vparts) g H w K:=by
 obtain⟨hu,ht,_⟩:=bz hel
 obtain⟨zv,hzr,hzl⟩:=cu hz
 have hzc:zv.cells.size=sz:=by have:=(hzl g w).1; simp at this; omega
 have huni:uni sz (List.replicate len z):=fun e he=>by rw[List.eq_of_mem_replicate he,hzs]
 obtain⟨h3,h4,h5⟩:=lj parts _ es huni he
 have hlen:es.length=len:=by simpa using h4
 have hC:∃ zero:Array Value,(if len*sz=0 then pure #[] else do pure (← zeroValue et).cells:Sem (Array Value)).run P w = .ok zero w∧
   ((Array.range (len*sz)).map (fun i=>zero[i % zero.size]!)).toList=(List.replicate len zv.cells.toList).flatten:=by
  by_cases h0:len*sz=0
  ·have hl0:len=0:=by
    rcases Nat.mul_eq_zero.1 h0 with h|h
    ·exact h
    ·exact absurd h hs0
   subst hl0
   exact⟨#[],by simp,by simp⟩
  ·refine⟨zv.cells,?_,?_⟩
   ·rw[if_neg h0,Sem.run_bind,hzr]; rfl
   ·have:=be zv.cells len (.inl (by omega))
    rwa [hzc] at this ⊢
 obtain⟨zero,hC2,hC1⟩:=hC
 obtain⟨C,hCdef⟩:∃ C:Array Value,(Array.range (len*sz)).map (fun i=>zero[i % zero.size]!)=C:=⟨_,rfl⟩
 rw[hCdef] at hC1
 have hrel:aq g w (List.replicate len z).flatten C.toList:=by rw[hC1]; exact gB (hzl g w) len
 obtain⟨C',h6,h7⟩:=gq (fun i=>some (i*sz,sz)) parts vparts.toList _ C _ hrel h1 h2 h5
 obtain⟨k1,k2,k3⟩:=h.newRow et h7
 refine⟨.slice (some ⟨w.heap.size,0,none⟩) len len,_,_,H,_,?_,k1,k2,?_,hk⟩
 ·unfold Instr.buildSlice
  rw[Sem.run_bind,ah hu]
  simp only[Result.andThen_ok,Sem.run_bind,run_sizeOf ht]
  rw[if_neg (by omega)]
  by_cases h0:len*sz=0
  ·rw[if_pos h0] at hC2 ⊢
   simp only[Sem.run_pure,Result.ok.injEq,and_true] at hC2
   subst hC2
   simp only[Sem.run_bind,Sem.run_pure,Result.andThen_ok]
   rw[hCdef,h6]
   simp only[newRow,Sem.run_bind,run_newObj,Result.andThen_ok,Sem.run_pure]
   rfl
  ·rw[if_neg h0] at hC2 ⊢
   simp only[Sem.run_bind,hzr,Sem.run_pure,Result.andThen_ok,Result.ok.injEq,and_true] at hC2 ⊢
   subst hC2
   rw[hCdef,h6]
   simp only[newRow,Sem.run_bind,run_newObj,Result.andThen_ok,Sem.run_pure]
   rfl
 ·refine Rel.an.2 ⟨some ⟨w.heap.size,0,none⟩,len,by rw[hlen],dG h3,by omega,by simp[dF,hlen],?_⟩
  by_cases hf:es.flatten=[]
  ·exact .inl hf
  ·exact .inr ⟨_,rfl,k3⟩
def bnd (d:Int):Option PV→Option Int
 | none=>some d
 | some (.int _ n)=>some n
 | some _=>none
def dD (tl:Tail) (lo hi mx:Option PV) (h m:Int):Tail:=
 match mx with
 | some _=>if h=m then .exact else .no
 | none=>match hi with
  | some _=>match tl with
   | .exact=>if h=m then .exact else .no
   | _=> .no
  | none=>match lo,tl with
   | none,tl=>tl
   | some _,.exact=> .exact
   | some _,_=> .no
theorem ga {P:Program} {w:World} {k:IntKind} {i:Int} {y:Nat} (h0:0≤i) (h1:i≤y) (code:BoundsCode):(Instr.sliceBound (.int k i) y code).run P w = .ok i.toNat w:=by
 unfold Instr.sliceBound
 simp only[asIntOf,Sem.run_bind,Sem.run_pure,Result.andThen_ok]
 rw[if_pos ⟨h0,h1⟩]
 rfl
inductive OptRel (g:Gh) (w:World):Option PV→Option Value→Prop where
 | none:OptRel g w none none
 | some {x:PV} {v:Value} (h:Rel g w x v):OptRel g w (some x) (some v)
theorem iz {P:Program} {g:Gh} {w:World} {lo hi mx:Option PV} {vl vh vm:Option Value} (hl:OptRel g w lo vl) (hh:OptRel g w hi vh) (hm:OptRel g w mx vm) {len cap:Nat} {l h m:Int}
  (el:bnd 0 lo=some l) (eh:bnd len hi=some h) (em:bnd cap mx=some m) (h0:0≤l) (h1:l≤h) (h2:h≤m) (h3:m≤cap) (hx:hi=none→mx=none):
  (Instr.sliceBounds true len cap vl vh vm).run P w = .ok (l.toNat,h.toNat,m.toNat) w:=by
 have m1:∀(k:IntKind) (f:BoundsCode),(Instr.sliceBound (.int k m) cap f).run P w = .ok m.toNat w:=fun k f=>ga (by omega) h3 f
 have h4:∀(k:IntKind) (f:BoundsCode),(Instr.sliceBound (.int k h) m.toNat f).run P w = .ok h.toNat w:=fun k f=>ga (by omega) (by omega) f
 have l1:∀(k:IntKind) (f:BoundsCode),(Instr.sliceBound (.int k l) h.toNat f).run P w = .ok l.toNat w:=fun k f=>ga (by omega) (by omega) f
 unfold Instr.sliceBounds
 cases hm with
 | none=>
  simp only[bnd,Option.some.injEq] at em
  subst em
  simp only[Int.toNat_natCast] at *
  cases hh with
  | none=>
   simp only[bnd,Option.some.injEq] at eh
   subst eh
   simp only[Int.toNat_natCast] at *
   cases hl with
   | none=>simp only[bnd,Option.some.injEq] at el; subst el; simp
   | some hr=>
    cases hr<;>simp only[bnd,reduceCtorEq,Option.some.injEq] at el
    subst el
    simp[l1]
  | some hr=>
   cases hr<;>simp only[bnd,reduceCtorEq,Option.some.injEq] at eh
   subst eh
   cases hl with
   | none=>simp only[bnd,Option.some.injEq] at el; subst el; simp[h4]
   | some hr=>
    cases hr<;>simp only[bnd,reduceCtorEq,Option.some.injEq] at el
    subst el
    simp[h4,l1]
 | some hr=>
  cases hr<;>simp only[bnd,reduceCtorEq,Option.some.injEq] at em
  subst em
  cases hh with
  | none=>exact absurd (hx rfl) (by simp)
  | some hr=>
   cases hr<;>simp only[bnd,reduceCtorEq,Option.some.injEq] at eh
   subst eh
   cases hl with
   | none=>simp only[bnd,Option.some.injEq] at el; subst el; simp[m1,h4]
   | some hr=>
    cases hr<;>simp only[bnd,reduceCtorEq,Option.some.injEq] at el
    subst el
    simp[m1,h4,l1]
theorem oZ {s:Nat} {es:List (List PV)} (h:uni s es) (n:Nat):uni s (es.take n):=fun e he=>h e (List.mem_of_mem_take he)
theorem qw {s:Nat} {es:List (List PV)} (h:uni s es) (n:Nat):uni s (es.drop n):=fun e he=>h e (List.mem_of_mem_drop he)
theorem iN {P:Program} {g:Gh} {H:aa} {w:World} {K:PV→aa→Prop} (hS:Sim g H w) {t:TypeId} {b:Bool} {sz by_:Nat} {et:TypeId} (hel:elA P t=some (none,b,sz,by_,et))
  {es:List (List PV)} {tl:Tail} {v:Value} (hx:Rel g w (.list es tl) v) {lo hi mx:Option PV} {vl vh vm:Option Value} (hl:OptRel g w lo vl) (hh:OptRel g w hi vh) (hm:OptRel g w mx vm)
  {l h m:Int} (el:bnd 0 lo=some l) (eh:bnd es.length hi=some h) (em:bnd es.length mx=some m) (h0:0≤l) (h1:l≤h) (h2:h≤m) (h3:m≤es.length) (hmx:hi=none→mx=none)
  (hu:uni sz es) (hk:K (.list ((es.take h.toNat).drop l.toNat) (dD tl lo hi mx h m)) H):VOk P (Instr.sliceAt t v vl vh vm) g H w K:=by
 obtain⟨a,cap,rfl,_,hcap,htl,hc⟩:=Rel.an.1 hx
 obtain⟨hut,ht,_⟩:=bz hel
 obtain⟨m',em',hm1,hm2,hm3⟩:∃ m',bnd cap mx=some m'∧h≤m'∧m'≤cap∧(mx≠none→m'=m):=by
  cases mx with
  | none=>exact⟨cap,rfl,by omega,by omega,fun h=>absurd rfl h⟩
  | some y=>
   refine⟨m,?_,h2,by omega,fun _=>rfl⟩
   cases y<;>simp only[bnd,reduceCtorEq] at em ⊢
   exact em
 have hrun:=iz (P:=P) hl hh hm (len:=es.length) (cap:=cap) el eh em' h0 h1 hm1 hm2 hmx
 have hlen:((es.take h.toNat).drop l.toNat).length=h.toNat-l.toNat:=by simp; omega
 refine VOk.same hS (v:= .slice (if m'.toNat=l.toNat then a else a.map (·.add (l.toNat*sz))) (h.toNat-l.toNat) (m'.toNat-l.toNat)) ?_ ?_ hk
 ·unfold Instr.sliceAt
  simp only[Sem.run_bind,ah hut,Result.andThen_ok]
  unfold Instr.slice
  simp only[Sem.run_bind,ah hut,Result.andThen_ok,hrun,run_sizeOf ht,Sem.run_pure]
 ·refine Rel.an.2 ⟨_,_,by rw[hlen],dG (qw (oZ hu _) _),by rw[hlen]; omega,?_,?_⟩
  ·cases mx with
   | some y=>
    have hme:m'=m:=hm3 (by simp)
    simp only[dD]
    by_cases hh':h=m
    ·rw[if_pos hh']
     simp only[dF]
     rw[hlen,hme]; omega
    ·rw[if_neg hh']; trivial
   | none=>
    have hme:m'=cap:=by simp only[bnd,Option.some.injEq] at em'; omega
    cases hi with
    | some y=>
     have hmm:m=es.length:=by simp only[bnd,Option.some.injEq] at em; omega
     cases tl with
     | exact=>
      simp only[dD]
      by_cases hh':h=m
      ·rw[if_pos hh']
       simp only[dF] at htl ⊢
       rw[hlen,hme]; omega
      ·rw[if_neg hh']; trivial
     | no=>trivial
     | tok o=>trivial
    | none=>
     have hhe:h=es.length:=by simp only[bnd,Option.some.injEq] at eh; omega
     cases lo with
     | none=>
      have hle:l=0:=by simp only[bnd,Option.some.injEq] at el; omega
      subst hle; subst hhe; subst hme
      have e1:List.drop (Int.toNat 0) (List.take (Int.toNat ↑es.length) es)=es:=by simp
      rw[e1]
      simp only[dD,Int.toNat_zero,Nat.sub_zero,Nat.zero_mul,Int.toNat_natCast]
      have:(if cap=0 then a else a.map fun x=>x.add 0)=a:=by
       split
       ·rfl
       ·cases a<;>simp[Addr.add]
      rw[this]; exact htl
     | some y=>
      cases tl with
      | exact=>
       simp only[dF,dD] at htl ⊢
       rw[hlen,hme]; omega
      | no=>trivial
      | tok o=>trivial
  ·by_cases hf:((es.take h.toNat).drop l.toNat).flatten=[]
   ·exact .inl hf
   ·refine .inr ?_
    have hne:(es.take h.toNat).drop l.toNat≠[]:=fun e=>hf (by rw[e]; rfl)
    have hlt:l<h:=by
     rcases Int.lt_or_le l h with h|h
     ·exact h
     ·exact absurd (List.eq_nil_of_length_eq_zero (by rw[hlen]; omega)) hne
    rw[if_neg (by omega)]
    have hfe:es.flatten≠[]:=by
     intro e
     apply hf
     have:∀ e'∈es,e'=[]:=by simpa using e
     simp only[List.flatten_eq_nil_iff]
     intro e' he'
     exact this e' (List.mem_of_mem_take (List.mem_of_mem_drop he'))
    rcases hc with h'|⟨A,rfl,hr⟩
    ·exact absurd h' hfe
    ·refine⟨At A (l.toNat*sz),by simp[aU hr.1],?_⟩
     have h4:=hr.drop (l.toNat*sz)
     rw[gE hu l.toNat (by omega)] at h4
     have h5:(es.drop l.toNat).flatten=((es.take h.toNat).drop l.toNat).flatten++(es.drop h.toNat).flatten:=by
      rw[← List.flatten_append]
      congr 1
      rw[← List.take_append_drop (h.toNat-l.toNat) (es.drop l.toNat),List.drop_drop,List.drop_take]
      congr 2
      omega
     rw[h5] at h4
     exact h4.front
theorem jn {P:Program} {g:Gh} {H:aa} {w:World} {K:PV→aa→Prop} (hS:Sim g H w) {t:TypeId} {b:Bool} {sz by_:Nat} {et:TypeId} (hel:elA P t=some (none,b,sz,by_,et))
  {o off len cap:Nat} {v:Value} (hx:Rel g w (.arr o off len cap) v) {lo hi mx:Option PV} {vl vh vm:Option Value} (hl:OptRel g w lo vl) (hh:OptRel g w hi vh) (hm:OptRel g w mx vm)
  {l h m:Int} (el:bnd 0 lo=some l) (eh:bnd len hi=some h) (em:bnd cap mx=some m) (h0:0≤l) (h1:l≤h) (h2:h≤m) (h3:m≤cap) (hmx:hi=none→mx=none)
  (hk:K (.arr o (if m.toNat=l.toNat then off else off+l.toNat*sz) (h.toNat-l.toNat) (m.toNat-l.toNat)) H):VOk P (Instr.sliceAt t v vl vh vm) g H w K:=by
 cases hx with
 | arr _ _ _ _ ho=>
 obtain⟨hut,ht,_⟩:=bz hel
 have hrun:=iz (P:=P) hl hh hm (len:=len) (cap:=cap) el eh em h0 h1 h2 h3 hmx
 refine VOk.same hS (v:= .slice (if m.toNat=l.toNat then some ⟨g.bk o,off,none⟩ else(some ⟨g.bk o,off,none⟩:Option Addr).map (·.add (l.toNat*sz))) (h.toNat-l.toNat) (m.toNat-l.toNat)) ?_ ?_ hk
 ·unfold Instr.sliceAt
  simp only[Sem.run_bind,ah hut,Result.andThen_ok]
  unfold Instr.slice
  simp only[Sem.run_bind,ah hut,Result.andThen_ok,hrun,run_sizeOf ht,Sem.run_pure]
 ·split
  ·exact .arr o off _ _ ho
  ·simp only[Option.map_some]
   rw[aU rfl]
   exact .arr o (off+l.toNat*sz) _ _ ho
theorem Sim.sI {g:Gh} {H:aa} {w:World} (h:Sim g H w) {cs:List PV} {C:Array Value} (ty:TypeId) (hr:aq g w cs (C.toList.take cs.length)):
  Sim (g.row w.heap.size cs.length) H (w.alloc (.cells C ty))∧Ext g H w (g.row w.heap.size cs.length) H (w.alloc (.cells C ty))∧
   aM (g.row w.heap.size cs.length) (w.alloc (.cells C ty)) ⟨w.heap.size,0,none⟩ cs:=by
 have hgx:aQ g w (g.row w.heap.size cs.length) (w.alloc (.cells C ty)):=
  ⟨Nat.le_refl _,fun _ _=>rfl,fun _ _=>rfl,fun _ _=>rfl,fun _ _ h=> .inl h,fun b q hq=>cj w _ b q (h.imm b q hq)⟩
 have hold:∀ o ob b,H[o]?=some ob→ob.alive=true→blk g ob o b→b<w.heap.size:=fun o ob b h1 h2 h3=>b9 h ⟨o,ob,h1,h2,h3⟩
 refine⟨⟨h.n,fun o o' ob ob' b h1 h2 h3 h4 h5 h6=>h.inj o o' ob ob' b h1 h2 h3 h4 ((cn rfl (fun _=>Iff.rfl) _ _).1 h5) ((cn rfl (fun _=>Iff.rfl) _ _).1 h6),?_,?_,?_,?_⟩,
  ⟨hgx,by simp,fun b _ ⟨o,ob,h1,h2,h3⟩=>⟨o,ob,h1,h2,(cn rfl (fun _=>Iff.rfl) _ _).1 h3⟩,?_,rfl,rfl,rfl,fun _ _ hb h=>h.imp id fun k=>absurd hb (by rw[k.1]; exact Nat.lt_irrefl _)⟩,rfl,?_⟩
 ·intro o cs' h1
  obtain⟨⟨C',ty',h2,h3⟩,h4⟩:=h.cells o cs' h1
  have hlt:=hold o _ _ h1 rfl rfl
  refine⟨⟨C',ty',?_,h3.mono hgx⟩,?_⟩
  ·show(w.alloc _).heap[g.bk o]?=_
   rw[aG,if_neg (Nat.ne_of_lt hlt)]; exact h2
  ·rintro q (hq|⟨hq,_⟩)
   ·exact h4 q hq
   ·exact absurd hq (Nat.ne_of_lt hlt)
 ·intro o h1
  obtain⟨⟨C',ty',h2,h2'⟩,h4⟩:=h.tok o h1
  have hlt:=hold o _ _ h1 rfl rfl
  refine⟨⟨C',ty',?_,h2'⟩,?_⟩
  ·show(w.alloc _).heap[g.bk o]?=_
   rw[aG,if_neg (Nat.ne_of_lt hlt)]; exact h2
  ·rintro q hq (hi|⟨hi,_⟩)
   ·exact h4 q hq hi
   ·exact absurd hi (Nat.ne_of_lt hlt)
 ·rintro b q (hq|⟨rfl,_⟩)
  ·have:=h.imm b q hq; simp; omega
  ·simp
 ·intro o r h1
  have h2:=(h.abs o r h1).2.2
  refine h.bR h1 hgx rfl (fun _=>Iff.rfl) (fun b hb=>by rw[aG,if_neg (Nat.ne_of_lt (h2 b hb).1)]) ?_ (by simp) ?_
  ·rintro b q hb (hq|⟨rfl,_⟩)
   ·exact(h2 b hb).2 q hq
   ·exact Nat.lt_irrefl _ (h2 _ hb).1
  ·rintro b q (hq|⟨rfl,_⟩)
   ·have:=h.imm b q hq; simp; omega
   ·simp
 ·intro b hb _
  rw[aG,if_neg (by omega)]
 ·intro q x hx
  have hq:q<cs.length:=(List.getElem?_eq_some_iff.1 hx).1
  obtain⟨v,hv,hrel⟩:=hr.get hx
  rw[List.getElem?_take,if_pos hq,Array.getElem?_toList] at hv
  refine⟨.inr ⟨rfl,by simpa using hq⟩,v,?_,hrel.mono hgx⟩
  simp only[At,Nat.zero_add]
  rw[World.cell?_alloc_new]; exact hv
def Gh.bG (g:Gh) (b lo hi sz:Nat):Gh:=
 { n:=g.n+1,bk:=fun o=>if o=g.n then b else g.bk o,en:=fun o=>if o=g.n then hi else g.en o,sz:=fun o=>if o=g.n then sz else g.sz o,imm:=fun b' q=>g.imm b' q∨(b'=b∧lo≤q∧q<hi),fp:=g.fp }
theorem Sim.vq {g:Gh} {H:aa} {w:World} (h:Sim g H w) {cs:List PV} {C:Array Value} (ty:TypeId) (hr:aq g w cs (C.toList.take cs.length)):
  Sim (g.bG w.heap.size 0 cs.length C.size) (H++[.tok]) (w.alloc (.cells C ty))∧Ext g H w (g.bG w.heap.size 0 cs.length C.size) (H++[.tok]) (w.alloc (.cells C ty))∧
   aM (g.bG w.heap.size 0 cs.length C.size) (w.alloc (.cells C ty)) ⟨w.heap.size,0,none⟩ cs:=by
 have hgx:aQ g w (g.bG w.heap.size 0 cs.length C.size) (w.alloc (.cells C ty)):=
  ⟨by simp[Gh.bG],fun o ho=>by simp[Gh.bG]; omega,fun o ho=>by simp[Gh.bG]; omega,fun o ho=>by simp[Gh.bG]; omega,fun _ _ h=> .inl h,fun b q hq=>cj w _ b q (h.imm b q hq)⟩
 have hold:∀ o ob b,H[o]?=some ob→ob.alive=true→blk g ob o b→b<w.heap.size:=fun o ob b h1 h2 h3=>b9 h ⟨o,ob,h1,h2,h3⟩
 have hbk:∀ o,o<H.length→(g.bG w.heap.size 0 cs.length C.size).bk o=g.bk o:=fun o ho=>hgx.bk o (by rw[h.n]; exact ho)
 have hbn:(g.bG w.heap.size 0 cs.length C.size).bk H.length=w.heap.size:=by simp[Gh.bG,h.n]
 have hen:(g.bG w.heap.size 0 cs.length C.size).en H.length=cs.length:=by simp[Gh.bG,h.n]
 have hszn:(g.bG w.heap.size 0 cs.length C.size).sz H.length=C.size:=by simp[Gh.bG,h.n]
 have hblk:∀ o ob b,o<H.length→(blk (g.bG w.heap.size 0 cs.length C.size) ob o b↔blk g ob o b):=fun o ob b ho=>cn (hbk o ho) (fun _=>Iff.rfl) ob b
 refine⟨⟨by simp[Gh.bG,h.n],?_,?_,?_,?_,?_⟩,⟨hgx,by simp,?_,?_,rfl,rfl,rfl,fun _ _ hb h=>h.imp id fun k=>absurd hb (by rw[k.1]; exact Nat.lt_irrefl _)⟩,rfl,?_⟩
 ·intro o o' ob ob' b h1 h2 h3 h4 h5 h6
  rcases ak _ _ _ _ h1 with⟨h1,ho⟩|⟨rfl,rfl⟩<;>rcases ak _ _ _ _ h2 with⟨h2,ho'⟩|⟨rfl,rfl⟩
  ·exact h.inj o o' ob ob' b h1 h2 h3 h4 ((hblk _ _ _ ho).1 h5) ((hblk _ _ _ ho').1 h6)
  ·have h6:_=b:=h6
   rw[hbn] at h6; have:=hold o ob b h1 h3 ((hblk _ _ _ ho).1 h5); omega
  ·have h5:_=b:=h5
   rw[hbn] at h5; have:=hold o' ob' b h2 h4 ((hblk _ _ _ ho').1 h6); omega
  ·rfl
 ·intro o cs' h1
  rcases ak _ _ _ _ h1 with⟨h1,ho⟩|⟨rfl,e⟩
  ·obtain⟨⟨C',ty',h2,h3⟩,h4⟩:=h.cells o cs' h1
   have hlt:=hold o _ _ h1 rfl rfl
   rw[hbk o ho]
   refine⟨⟨C',ty',?_,h3.mono hgx⟩,?_⟩
   ·rw[aG,if_neg (Nat.ne_of_lt hlt)]; exact h2
   ·rintro q (hq|⟨hq,_⟩)
    ·exact h4 q hq
    ·exact absurd hq (Nat.ne_of_lt hlt)
  ·cases e
 ·intro o h1
  rcases ak _ _ _ _ h1 with⟨h1,ho⟩|⟨rfl,e⟩
  ·obtain⟨⟨C',ty',h2,h2'⟩,h4⟩:=h.tok o h1
   have hlt:=hold o _ _ h1 rfl rfl
   rw[hbk o ho,hgx.en o (by rw[h.n]; exact ho),hgx.sz o (by rw[h.n]; exact ho)]
   refine⟨⟨C',ty',?_,h2'⟩,?_⟩
   ·rw[aG,if_neg (Nat.ne_of_lt hlt)]; exact h2
   ·rintro q hq (hi|⟨hi,_⟩)
    ·exact h4 q hq hi
    ·exact absurd hi (Nat.ne_of_lt hlt)
  ·rw[hbn,hen,hszn]
   refine⟨⟨C,ty,by rw[aG,if_pos rfl],rfl⟩,?_⟩
   rintro q hq (hi|⟨_,_,hi⟩)
   ·exact Nat.lt_irrefl _ (h.imm _ _ hi)
   ·omega
 ·rintro b q (hq|⟨rfl,_⟩)
  ·have:=h.imm b q hq; simp; omega
  ·simp
 ·intro o r h1
  rcases ak _ _ _ _ h1 with⟨h1,ho⟩|⟨rfl,e⟩
  ·have h2:=(h.abs o r h1).2.2
   refine h.bR h1 hgx (hbk o ho) (fun _=>Iff.rfl) (fun b hb=>by rw[aG,if_neg (Nat.ne_of_lt (h2 b hb).1)]) ?_ (by simp) ?_
   ·rintro b q hb (hq|⟨rfl,_⟩)
    ·exact(h2 b hb).2 q hq
    ·exact Nat.lt_irrefl _ (h2 _ hb).1
   ·rintro b q (hq|⟨rfl,_⟩)
    ·have:=h.imm b q hq; simp; omega
    ·simp
  ·cases e
 ·rintro b hb ⟨o,ob,h1,h2,h3⟩
  rcases ak _ _ _ _ h1 with⟨h1,ho⟩|⟨rfl,rfl⟩
  ·exact⟨o,ob,h1,h2,(hblk _ _ _ ho).1 h3⟩
  ·have h3:_=b:=h3
   rw[hbn] at h3; omega
 ·intro b hb _
  rw[aG,if_neg (by omega)]
 ·intro q x hx
  have hq:q<cs.length:=(List.getElem?_eq_some_iff.1 hx).1
  obtain⟨v,hv,hrel⟩:=hr.get hx
  rw[List.getElem?_take,if_pos hq,Array.getElem?_toList] at hv
  refine⟨.inr ⟨rfl,Nat.zero_le _,by simpa using hq⟩,v,?_,hrel.mono hgx⟩
  simp only[At,Nat.zero_add]
  rw[World.cell?_alloc_new]; exact hv
theorem Sim.kill {g:Gh} {H:aa} {w:World} (h:Sim g H w) (o:Nat):Sim g (H.set o .dead) w∧Ext g H w g (H.set o .dead) w:=by
 have hset:∀(o':Nat) (ob:Ob),(H.set o .dead)[o']?=some ob→ob.alive=true→H[o']?=some ob:=by
  intro o' ob h1 h2
  rw[List.getElem?_set] at h1
  (repeat' split at h1)<;>first|exact h1|(cases h1; cases h2; done)|(cases h1; done)
 refine⟨⟨by simp; exact h.n,?_,fun o1 cs1 h1=>h.cells o1 cs1 (hset _ _ h1 rfl),fun o1 h1=>h.tok o1 (hset _ _ h1 rfl),h.imm,fun o1 r h1=>h.abs o1 r (hset _ _ h1 rfl)⟩,
  ⟨.refl g w,Nat.le_refl _,?_,fun _ _ _=>rfl,rfl,rfl,rfl,fun _ _ _ h=> .inl h⟩⟩
 ·intro o1 o2 ob1 ob2 b h1 h2 h3 h4 h5 h6
  exact h.inj o1 o2 ob1 ob2 b (hset _ _ h1 h3) (hset _ _ h2 h4) h3 h4 h5 h6
 ·rintro b _ ⟨o1,ob1,h1,h2,h3⟩
  exact⟨o1,ob1,hset _ _ h1 h2,h2,h3⟩
theorem Sim.uZ {g:Gh} {H:aa} {w:World} (h:Sim g H w) {o:Nat} (ho:H[o]?=some .tok) {C:Array Value} {ty:TypeId} (hC:w.heap[g.bk o]?=some (.cells C ty (0,0)))
  {ys:List PV} {vs:List Value} (hr:aq g w ys vs) (hn:g.en o+vs.length≤C.size):
  let w':=bX w (g.bk o) (.cells (over C.toList (g.en o) vs).toArray ty (0,0))
  let g':=g.bG (g.bk o) (g.en o) (g.en o+ys.length) C.size
  Sim g' (H.set o .dead++[.tok]) w'∧Ext g H w g' (H.set o .dead++[.tok]) w'∧aM g' w' ⟨g.bk o,g.en o,none⟩ ys:=by
 intro w' g'
 have hlt:g.bk o<w.heap.size:=b9 h ⟨o,_,ho,rfl,rfl⟩
 have hol:o<H.length:=(List.getElem?_eq_some_iff.1 ho).1
 obtain⟨_,himm⟩:=h.tok o ho
 have hbl:w'.heap[g.bk o]?=some (.cells (over C.toList (g.en o) vs).toArray ty (0,0)):=by
  show(bX w _ _).heap[g.bk o]?=_
  rw[bu,if_pos rfl,if_pos hlt]
 have hcell:∀ b q,g.imm b q→w'.cell? ⟨b,q,none⟩=w.cell? ⟨b,q,none⟩:=by
  intro b q hq
  by_cases hb:g.bk o=b
  ·subst hb
   have hqe:q<g.en o:=by
    rcases Nat.lt_or_ge q (g.en o) with h|h
    ·exact h
    ·exact absurd hq (himm q h)
   rw[aO hbl,aO hC]
   simp only[List.getElem?_toArray,over,List.append_assoc]
   rw[List.getElem?_append_left (by simp; omega),List.getElem?_take,if_pos hqe,Array.getElem?_toList]
  ·exact gM w _ b q _ hb
 have hgx:aQ g w g' w':=
  ⟨by simp[g',Gh.bG],fun o ho=>by simp[g',Gh.bG]; omega,fun o ho=>by simp[g',Gh.bG]; omega,fun o ho=>by simp[g',Gh.bG]; omega,fun _ _ h=> .inl h,hcell⟩
 have hset:∀(o':Nat) (ob:Ob),(H.set o .dead)[o']?=some ob→ob.alive=true→H[o']?=some ob∧o≠o':=by
  intro o' ob h1 h2
  rw[List.getElem?_set] at h1
  by_cases e:o=o'
  ·rw[if_pos e] at h1
   (repeat' split at h1)<;>(cases h1; cases h2)
  ·rw[if_neg e] at h1; exact⟨h1,e⟩
 have hlen:(H.set o .dead).length=H.length:=by simp
 have hbk:∀ k,k<H.length→g'.bk k=g.bk k:=fun k hk=>hgx.bk k (by rw[h.n]; exact hk)
 have hbn:g'.bk H.length=g.bk o:=by simp[g',Gh.bG,h.n]
 have hen:g'.en H.length=g.en o+ys.length:=by simp[g',Gh.bG,h.n]
 have hszn:g'.sz H.length=C.size:=by simp[g',Gh.bG,h.n]
 have hne:∀ o1 ob1,H[o1]?=some ob1→ob1.alive=true→o≠o1→¬ blk g ob1 o1 (g.bk o):=fun o1 ob1 h1 h2 h3 h4=>h3 (h.inj o o1 _ ob1 _ ho h1 rfl h2 rfl h4)
 have hblk:∀ o ob b,o<H.length→(blk g' ob o b↔blk g ob o b):=fun o ob b ho=>cn (hbk o ho) (fun _=>Iff.rfl) ob b
 refine⟨⟨by simp[g',Gh.bG,h.n],?_,?_,?_,?_,?_⟩,⟨hgx,by simp[w',bx],?_,?_,rfl,rfl,rfl,fun _ _ _ h=>h.imp id fun k=>⟨o,_,ho,rfl,k.1.symm⟩⟩,rfl,?_⟩
 ·intro o1 o2 ob1 ob2 b h1 h2 h3 h4 h5 h6
  rcases ak _ _ _ _ h1 with⟨h1,ho1⟩|⟨rfl,rfl⟩<;>rcases ak _ _ _ _ h2 with⟨h2,ho2⟩|⟨rfl,rfl⟩
  ·rw[hlen] at ho1 ho2
   exact h.inj o1 o2 ob1 ob2 b (hset _ _ h1 h3).1 (hset _ _ h2 h4).1 h3 h4 ((hblk _ _ _ ho1).1 h5) ((hblk _ _ _ ho2).1 h6)
  ·rw[hlen] at ho1 h6
   have h6:_=b:=h6
   rw[hbn] at h6
   have h5:=(hblk _ _ _ ho1).1 h5
   rw[← h6] at h5
   exact absurd h5 (hne o1 ob1 (hset _ _ h1 h3).1 h3 (hset _ _ h1 h3).2)
  ·rw[hlen] at ho2 h5
   have h5:_=b:=h5
   rw[hbn] at h5
   have h6:=(hblk _ _ _ ho2).1 h6
   rw[← h5] at h6
   exact absurd h6 (hne o2 ob2 (hset _ _ h2 h4).1 h4 (hset _ _ h2 h4).2)
  ·rfl
 ·intro o1 cs1 h1
  rcases ak _ _ _ _ h1 with⟨h1,ho1⟩|⟨rfl,e⟩
  ·obtain⟨h1,hno⟩:=hset _ _ h1 rfl
   rw[hlen] at ho1
   obtain⟨⟨C1,ty1,h2,h3⟩,h4⟩:=h.cells o1 cs1 h1
   rw[hbk o1 ho1]
   refine⟨⟨C1,ty1,?_,h3.mono hgx⟩,?_⟩
   ·show(bX w _ _).heap[_]?=_
    rw[bu,if_neg (fun e=>hne o1 _ h1 rfl hno e.symm)]; exact h2
   ·rintro q (hq|⟨hq,_⟩)
    ·exact h4 q hq
    ·exact absurd hq (hne o1 _ h1 rfl hno)
  ·cases e
 ·intro o1 h1
  rcases ak _ _ _ _ h1 with⟨h1,ho1⟩|⟨rfl,e⟩
  ·obtain⟨h1,hno⟩:=hset _ _ h1 rfl
   rw[hlen] at ho1
   obtain⟨⟨C1,ty1,h2,h2'⟩,h4⟩:=h.tok o1 h1
   rw[hbk o1 ho1,hgx.en o1 (by rw[h.n]; exact ho1),hgx.sz o1 (by rw[h.n]; exact ho1)]
   refine⟨⟨C1,ty1,?_,h2'⟩,?_⟩
   ·show(bX w _ _).heap[_]?=_
    rw[bu,if_neg (fun e=>hne o1 _ h1 rfl hno e.symm)]; exact h2
   ·rintro q hq (hi|⟨hi,_⟩)
    ·exact h4 q hq hi
    ·exact absurd hi (hne o1 _ h1 rfl hno)
  ·rw[hlen,hbn,hen,hszn]
   refine⟨⟨_,_,hbl,by simp only[List.size_toArray]; rw[bl (by simpa using hn)]; simp⟩,?_⟩
   rintro q hq (hi|⟨_,_,hi⟩)
   ·exact himm q (by omega) hi
   ·omega
 ·rintro b q (hq|⟨rfl,_⟩)
  ·show b<(bX w _ _).heap.size
   rw[bx]; exact h.imm b q hq
  ·show g.bk o<(bX w _ _).heap.size
   rw[bx]; exact hlt
 ·intro o1 r h1
  rcases ak _ _ _ _ h1 with⟨h1,ho1⟩|⟨rfl,e⟩
  ·obtain⟨h1,hno⟩:=hset _ _ h1 rfl
   rw[hlen] at ho1
   have h2:=(h.abs o1 r h1).2.2
   refine h.bR h1 hgx (hbk o1 ho1) (fun _=>Iff.rfl) (fun b hb=>?_) ?_ (by simp[w',bx]) ?_
   ·show(bX w _ _).heap[_]?=_
    rw[bu,if_neg (fun e=>hne o1 _ h1 rfl hno (by rw[e]; exact hb))]
   ·rintro b q hb (hq|⟨rfl,_⟩)
    ·exact(h2 b hb).2 q hq
    ·exact hne o1 _ h1 rfl hno hb
   ·rintro b q (hq|⟨rfl,_⟩)
    ·show b<(bX w _ _).heap.size
     rw[bx]; exact h.imm b q hq
    ·show g.bk o<(bX w _ _).heap.size
     rw[bx]; exact hlt
  ·cases e
 ·rintro b hb ⟨o1,ob1,h1,h2,h3⟩
  rcases ak _ _ _ _ h1 with⟨h1,ho1⟩|⟨rfl,rfl⟩
  ·rw[hlen] at ho1
   exact⟨o1,ob1,(hset _ _ h1 h2).1,h2,(hblk _ _ _ ho1).1 h3⟩
  ·have h3:_=b:=h3
   rw[hlen,hbn] at h3
   exact⟨o,_,ho,rfl,h3⟩
 ·intro b _ hb
  show(bX w _ _).heap[b]?=_
  rw[bu,if_neg]
  intro e; exact hb ⟨o,_,ho,rfl,e⟩
 ·intro q x hx
  have hq:q<ys.length:=(List.getElem?_eq_some_iff.1 hx).1
  obtain⟨v,hv,hrel⟩:=hr.get hx
  refine⟨.inr ⟨rfl,by simp,by simpa using hq⟩,v,?_,hrel.mono hgx⟩
  simp only[At]
  rw[aO hbl]
  have hvl:q<vs.length:=by rw[← hr.1]; exact hq
  simp only[List.getElem?_toArray,over,List.append_assoc]
  rw[List.getElem?_append_right (by simp; omega)]
  have:g.en o+q-(List.take (g.en o) C.toList).length=q:=by simp; omega
  rw[this,List.getElem?_append_left hvl]; exact hv
def fo (H:aa) (sz:Nat):PV→Option (List PV×Nat)
 | .list ys _=>some (ys.flatten,ys.length)
 | .arr o off len _=>match H[o]? with
  | some (.cells cs)=>if off+len*sz≤cs.length then some ((cs.drop off).take (len*sz),len) else none
  | _=>none
 | _=>none
structure Src (P:Program) (g:Gh) (w:World) (v:Value) (sz n:Nat) (ys:List PV) (vs:List Value):Prop where
 len:(Builtin.lenOf v).run P w = .ok n w
 cells:∀ m,m≤n→∀ w':World,w'.heap=w.heap→(Builtin.firstCells sz m v).run P w' = .ok (vs.take (m*sz)).toArray w'
 rel:aq g w ys vs
 size:ys.length=n*sz
theorem ny {w w':World} (h:w'.heap=w.heap) (a:Addr):w'.cell? a=w.cell? a:=by
 unfold World.cell?; rw[h]
theorem src_row {P:Program} {g:Gh} {w:World} {A:Addr} {cs:List PV} (h:gK g w A cs) {n sz cap:Nat} (hn:cs.length=n*sz):
  ∃ vs,Src P g w (.slice (some A) n cap) sz n cs vs:=by
 obtain⟨vs,h1,h2,h3⟩:=h.ku cs.length (Nat.le_refl _)
 rw[List.take_length] at h2
 refine⟨vs,rfl,fun m hm w' hw=>?_,h2,hn⟩
 simp only[Builtin.firstCells]
 have hl:(vs.take (m*sz)).length=m*sz:=by
  rw[List.length_take,h1,hn]; exact Nat.min_eq_left (Nat.mul_le_mul_right _ hm)
 have:=run_loadCells P w' A h.1 (vs.take (m*sz)) (fun q v hv=>by
  rw[List.getElem?_take] at hv
  split at hv
  ·rw[ny hw]; exact h3 q v hv
  ·cases hv)
 rwa [hl] at this
theorem cD {P:Program} {g:Gh} {H:aa} {w:World} (h:Sim g H w) {x:PV} {v:Value} (hx:Rel g w x v) {sz n:Nat} {ys:List PV} (hs:fo H sz x=some (ys,n)) (hu:ys.length=n*sz):
  ∃ vs,Src P g w v sz n ys vs:=by
 cases hx<;>simp only[fo,reduceCtorEq,Option.some.injEq,Prod.mk.injEq] at hs
 ·rename_i es t a cap cv h1 h2 h3 h4 h5
  obtain⟨rfl,rfl⟩:=hs
  obtain⟨a',cap',e,_,_,_,hc⟩:=Rel.an.1 (Rel.list es t a cap cv h1 h2 h3 h4 h5)
  cases e
  rcases hc with hf|⟨A,rfl,hr⟩
  ·refine⟨[],rfl,fun m hm w' hw=>?_,by rw[hf]; exact .nil,hu⟩
   rw[hf] at hu
   simp only[List.length_nil] at hu
   have hm0:m*sz=0:=by
    rcases Nat.mul_eq_zero.1 hu.symm with h0|h0
    ·have:m=0:=by omega
     rw[this,Nat.zero_mul]
    ·rw[h0,Nat.mul_zero]
   cases a with
   | none=>simp[Builtin.firstCells]
   | some A=>
    simp only[Builtin.firstCells,hm0]
    simp[loadCells,loadCellsFrom]
  ·exact src_row hr.row hu
 ·rename_i o off len cap ho
  split at hs
  ·rename_i cs hcs
   split at hs
   ·rename_i hfit
    simp only[Option.some.injEq,Prod.mk.injEq] at hs
    obtain⟨rfl,rfl⟩:=hs
    have hr:=h.rowAt hcs off
    have hr':gK g w ⟨g.bk o,off,none⟩ ((cs.drop off).take (len*sz)):=⟨rfl,fun q x hq=>hr.2 q x (by
     rw[List.getElem?_take] at hq
     split at hq
     ·exact hq
     ·cases hq)⟩
    exact src_row hr' hu
   ·cases hs
  ·cases hs
structure AppT (P:Program) (ts:Array TypeId) (t e:TypeId) (i:TypeInfo) (z:Value):Prop where
 t0:ts[0]?=some t
 t1:∃ u d,ts[1]?=some u∧P.underlying u=some (.slice d)
 ht:P.underlying t=some (.slice e)
 hi:P.info? e=some i
 hz:i.zero=some z
 hb:i.bytes≠0
theorem cm {P:Program} {g:Gh} {w:World} {ts:Array TypeId} {t e:TypeId} {i:TypeInfo} {z:Value} (h:AppT P ts t e i z) {base:Option Addr} {sLen sCap n:Nat} {x:Value} {ys:List PV} {vs:List Value}
  (hs:Src P g w x i.size n ys vs) (hfit:sLen+n≤sCap) (ty:TypeId):
  (Builtin.append_ ts ty #[.slice base sLen sCap,x]).run P w =
   (match base with
    | some a=>(storeCells (a.add (sLen*i.size)) vs).run P w
    | none=> .ok () w).andThen fun _ w'=> .ok (.slice base (sLen+n) sCap) w':=by
 have hv:vs.take (n*i.size)=vs:=List.take_of_length_le (by have:=hs.rel.1; have:=hs.size; omega)
 have hc:=hs.cells n (Nat.le_refl _) w rfl
 rw[hv] at hc
 obtain⟨u,d,h1,h2⟩:=h.t1
 cases base with
 | none=>simp[Builtin.append_,h.t0,h1,ah h.ht,ah h2,sizeOf,bQ h.hi,hs.len,hfit,hc]
 | some a=>simp[Builtin.append_,h.t0,h1,ah h.ht,ah h2,sizeOf,bQ h.hi,hs.len,hfit,hc]
theorem bI {P:Program} {g:Gh} {w:World} {ts:Array TypeId} {t e:TypeId} {i:TypeInfo} {z:Value} (h:AppT P ts t e i z) {base:Option Addr} {sLen sCap n:Nat} {x:Value} {xs ys:List PV} {us vs:List Value}
  (ho:Src P g w (.slice base sLen sCap) i.size sLen xs us) (hs:Src P g w x i.size n ys vs) (hfit:¬ sLen+n≤sCap) (hb:(sLen+n)*i.bytes≤140737488355328) (ty:TypeId):
  (Builtin.append_ ts ty #[.slice base sLen sCap,x]).run P w =
   .ok (.slice (some ⟨w.heap.size,0,none⟩) (sLen+n) (grownCap w (sLen+n) sCap e))
    (w.drew.alloc (.cells (us.toArray++vs.toArray++Builtin.zeroCells z.cells (grownCap w (sLen+n) sCap e-(sLen+n))) e)):=by
 have hv:vs.take (n*i.size)=vs:=List.take_of_length_le (by have:=hs.rel.1; have:=hs.size; omega)
 have huu:us.take (sLen*i.size)=us:=List.take_of_length_le (by have:=ho.rel.1; have:=ho.size; omega)
 have hc:=hs.cells n (Nat.le_refl _) w.drew rfl
 have hc':=ho.cells sLen (Nat.le_refl _) w.drew rfl
 rw[hv] at hc
 rw[huu] at hc'
 obtain⟨u,d,h1,h2⟩:=h.t1
 have h48:¬ (281474976710656<Builtin.nextslicecap (sLen+n) sCap*i.bytes):=by
  have:=growslice_fits (need:=sLen+n) (old:=sCap) (bytes:=i.bytes) (by omega) hb
  omega
 have hzv:∀ w:World,(zeroValue e).run P w = .ok z w:=by
  intro w
  unfold zeroValue
  rw[Sem.run_bind,bQ h.hi]
  simp[h.hz]
 simp[Builtin.append_,h.t0,h1,ah h.ht,ah h2,sizeOf,bQ h.hi,hs.len,hfit,h.hb,h48,run_choose,Question.forced,hc,hc',hzv,newRow,grownCap]
 congr 2
 apply Array.ext'
 simp[List.append_assoc]
theorem su {P:Program} {ts:Array TypeId} {t u e:TypeId} {b:Bool} {sz by_:Nat} {z:List PV} (h0:ts[0]?=some t) (h1:ts[1]?=some u) (hu:∃ d,P.underlying u=some (.slice d)) (hel:elA P t=some (none,b,sz,by_,e))
  (hz:bU P e=some z) (hb:by_≠0):∃ i zv,AppT P ts t e i zv∧i.size=sz∧i.bytes=by_∧∀ g w,aq g w z zv.cells.toList:=by
 obtain⟨hut,ht,i,hi,rfl⟩:=bz hel
 obtain⟨d,i',_,hi',hsz,_⟩:=fS ht
 rw[hi] at hi'; cases hi'
 unfold bU at hz
 rw[hi] at hz
 cases hzz:i.zero with
 | none=>simp[hzz] at hz
 | some zv=>
  simp[hzz] at hz
  obtain⟨du,hdu⟩:=hu
  exact⟨i,zv,⟨h0,⟨u,_,h1,hdu⟩,hut,hi,hzz,hb⟩,hsz,rfl,fun g w=>by rw[← hz]; exact dZ g w _⟩
def jT (P:Program) (ts:Array TypeId):Option (Nat×Nat×List PV):=
 match ts[0]?,ts[1]? with
 | some t,some u=>match elA P t,P.underlying u with
  | some (none,_,sz,by_,e),some (.slice _)=>match bU P e with
   | some z=>if by_=0∨sz=0∨z.length≠sz then none else some (sz,by_,z)
   | none=>none
  | _,_=>none
 | _,_=>none
theorem dz {P:Program} {ts:Array TypeId} {sz by_:Nat} {z:List PV} (h:jT P ts=some (sz,by_,z)):
  ∃ t e i zv,AppT P ts t e i zv∧i.size=sz∧i.bytes=by_∧(∀ g w,aq g w z zv.cells.toList)∧sz≠0∧by_≠0∧z.length=sz:=by
 unfold jT at h
 split at h
 ·rename_i t u h0 h1
  split at h
  ·rename_i b sz' by' e d hel hu
   split at h
   ·rename_i z' hz
    split at h
    ·cases h
    ·rename_i hc
     simp only[Option.some.injEq,Prod.mk.injEq] at h
     obtain⟨rfl,rfl,rfl⟩:=h
     have c1:by'≠0:=fun e=>hc (.inl e)
     have c2:sz'≠0:=fun e=>hc (.inr (.inl e))
     have c3:z'.length=sz':=by
      rcases Decidable.em (z'.length=sz') with e|e
      ·exact e
      ·exact absurd (.inr (.inr e)) hc
     obtain⟨i,zv,k1,k2,k3,k4⟩:=su h0 h1 ⟨d,hu⟩ hel hz c1
     exact⟨t,e,i,zv,k1,k2,k3,k4,c2,c1,c3⟩
   ·cases h
  ·cases h
 ·cases h
theorem fH {P:Program} {g:Gh} {H:aa} {w:World} (h:Sim g H w) {es:List (List PV)} {t:Tail} {v:Value} (hx:Rel g w (.list es t) v) {sz:Nat} (hu:uni sz es):
  ∃ vs,Src P g w v sz es.length es.flatten vs:=cD h hx rfl (cH hu)
theorem ld (us vs:List Value) (Z:Array Value) (n:Nat) (hn:n=us.length+vs.length):(us.toArray++vs.toArray++Z).toList.take n=us++vs:=by
 have:(us.toArray++vs.toArray++Z).toList=(us++vs)++Z.toList:=by simp
 rw[this,List.take_left' (by simp[hn])]
theorem dV {P:Program} {g:Gh} {H:aa} {w:World} {K:PV→aa→Prop} (h:Sim g H w) {ts:Array TypeId} {sz by_:Nat} {z:List PV} (ha:jT P ts=some (sz,by_,z)) (ty:TypeId)
  {es ys:List (List PV)} {y:PV} {v u:Value} (hx:Rel g w (.list es .exact) v) (hy:Rel g w y u) (hs:fo H sz y=some (ys.flatten,ys.length)) (hue:uni sz es) (huy:uni sz ys)
  (hb:(es.length+ys.length)*by_≤140737488355328) (hk:K (.list (es++ys) .no) H):VOk P (Builtin.append_ ts ty #[v,u]) g H w K:=by
 obtain⟨t,e,i,zv,hT,rfl,rfl,hzl,hs0,hb0,hzs⟩:=dz ha
 obtain⟨a,cap,hv,_,_,htl,hc⟩:=Rel.an.1 hx
 subst hv
 obtain⟨us,ho⟩:=fH (P:=P) h hx hue
 obtain⟨vs,hS⟩:=cD (P:=P) h hy hs (cH huy)
 have hcap:cap=es.length:=htl
 subst hcap
 have hu':uni i.size (es++ys):=by
  intro e he
  rcases List.mem_append.1 he with he|he
  ·exact hue e he
  ·exact huy e he
 by_cases h0:ys.length=0
 ·
  have hy0:ys=[]:=List.length_eq_zero_iff.1 h0
  subst hy0
  have hvs:vs=[]:=by have:=hS.rel.1; simp at this; exact List.length_eq_zero_iff.1 this.symm
  subst hvs
  refine VOk.same h (v:= .slice a es.length es.length) ?_ ?_ hk
  ·rw[cm hT hS (by simp) ty]
   cases a with
   | none=>simp
   | some A=>simp[storeCells]
  ·rw[List.append_nil]
   exact Rel.an.2 ⟨a,_,rfl,dG hue,Nat.le_refl _,trivial,hc⟩
 ·have hfl:(es++ys).flatten.length=us.length+vs.length:=by
   rw[List.flatten_append,List.length_append,ho.rel.1,hS.rel.1]
  have hcells:aq g w.drew (es++ys).flatten ((us.toArray++vs.toArray++Builtin.zeroCells zv.cells (grownCap w (es.length+ys.length) es.length e-(es.length+ys.length))).toList.take (es++ys).flatten.length):=by
   rw[ld _ _ _ _ hfl,List.flatten_append]
   exact(ho.rel.append hS.rel).mono (aQ.drew g w)
  obtain⟨k1,k2,k3⟩:=h.drew.sI e hcells
  refine⟨.slice (some ⟨w.heap.size,0,none⟩) (es.length+ys.length) (grownCap w (es.length+ys.length) es.length e),_,_,H,_,bI hT ho hS (by omega) hb ty,k1,(Ext.drew g H w).trans k2,?_,hk⟩
  refine Rel.an.2 ⟨some ⟨w.heap.size,0,none⟩,grownCap w (es.length+ys.length) es.length e,by rw[List.length_append],dG hu',?_,trivial,.inr ⟨_,rfl,k3⟩⟩
  rw[List.length_append]; exact grownCap_ge _ _ _ _
theorem dX {P:Program} {g:Gh} {H:aa} {w:World} {K:PV→aa→Prop} (h:Sim g H w) {ts:Array TypeId} {sz by_:Nat} {z:List PV} (ha:jT P ts=some (sz,by_,z)) (ty:TypeId)
  {es:List (List PV)} {tl tly:Tail} {v u:Value} (hx:Rel g w (.list es tl) v) (hy:Rel g w (.list [] tly) u) (hue:uni sz es) (hk:K (.list es tl) H):VOk P (Builtin.append_ ts ty #[v,u]) g H w K:=by
 obtain⟨t,e,i,zv,hT,rfl,rfl,hzl,hs0,hb0,hzs⟩:=dz ha
 obtain⟨a,cap,hv,h1,h2,htl,hc⟩:=Rel.an.1 hx
 subst hv
 obtain⟨vs,hS⟩:=cD (P:=P) (sz:=i.size) (ys:=[]) (n:=0) h hy rfl (by simp)
 have hvs:vs=[]:=by have:=hS.rel.1; simp at this; exact List.length_eq_zero_iff.1 this.symm
 subst hvs
 refine VOk.same h (v:= .slice a es.length cap) ?_ (Rel.an.2 ⟨a,cap,rfl,h1,h2,htl,hc⟩) hk
 rw[cm hT hS (by simpa using h2) ty]
 cases a with
 | none=>simp
 | some A=>simp[storeCells]
theorem ee {P:Program} {g:Gh} {H:aa} {w:World} {K:PV→aa→Prop} (h:Sim g H w) {ts:Array TypeId} {sz by_:Nat} {z:List PV} (ha:jT P ts=some (sz,by_,z)) (ty:TypeId)
  {es ys:List (List PV)} {tl:Tail} {y:PV} {v u:Value} (hx:Rel g w (.list es tl) v) (hy:Rel g w y u) (hs:fo H sz y=some (ys.flatten,ys.length)) (hue:uni sz es) (huy:uni sz ys)
  (hy1:ys.flatten.all PV.one=true) (hne:ys≠[]) (hb:(es.length+ys.length)*by_≤140737488355328)
  (htl:match (generalizing:=false) tl with| .exact=>K (.list (es++ys) (.tok H.length)) (H++[.tok])| .tok o=>H[o]?=some .tok∧K (.list (es++ys) (.tok H.length)) (H.set o .dead++[.tok])| .no=>False):
  VOk P (Builtin.append_ ts ty #[v,u]) g H w K:=by
 obtain⟨t,e,i,zv,hT,rfl,rfl,hzl,hs0,hb0,hzs⟩:=dz ha
 obtain⟨a,cap,hv,_,hlc,htok,hc⟩:=Rel.an.1 hx
 subst hv
 obtain⟨us,ho⟩:=fH (P:=P) h hx hue
 obtain⟨vs,hS⟩:=cD (P:=P) h hy hs (cH huy)
 have hyl:0<ys.length:=List.length_pos_iff.2 hne
 have hu':uni i.size (es++ys):=by
  intro e he
  rcases List.mem_append.1 he with he|he
  ·exact hue e he
  ·exact huy e he
 have hfl:(es++ys).flatten.length=us.length+vs.length:=by
  rw[List.flatten_append,List.length_append,ho.rel.1,hS.rel.1]
 have grow:∀(g1:Gh) (H1:aa),Sim g1 H1 w→Ext g H w g1 H1 w→H1.length=H.length→¬ es.length+ys.length≤cap→K (.list (es++ys) (.tok H.length)) (H1++[.tok])→
   VOk P (Builtin.append_ ts ty #[.slice a es.length cap,u]) g H w K:=by
  intro g1 H1 hS1 hE1 hl1 hfit hk
  have hcells:aq g1 w.drew (es++ys).flatten ((us.toArray++vs.toArray++Builtin.zeroCells zv.cells (grownCap w (es.length+ys.length) cap e-(es.length+ys.length))).toList.take (es++ys).flatten.length):=by
   rw[ld _ _ _ _ hfl,List.flatten_append]
   exact((ho.rel.append hS.rel).mono hE1.gx).mono (aQ.drew g1 w)
  obtain⟨k1,k2,k3⟩:=hS1.drew.vq e hcells
  refine⟨.slice (some ⟨w.heap.size,0,none⟩) (es.length+ys.length) (grownCap w (es.length+ys.length) cap e),_,_,_,_,bI hT ho hS hfit hb ty,k1,(hE1.trans (Ext.drew g1 H1 w)).trans k2,?_,hk⟩
  refine Rel.an.2 ⟨some ⟨w.heap.size,0,none⟩,grownCap w (es.length+ys.length) cap e,by rw[List.length_append],dG hu',?_,?_,.inr ⟨_,rfl,k3⟩⟩
  ·rw[List.length_append]; exact grownCap_ge _ _ _ _
  ·have hn1:g1.n=H.length:=by rw[hS1.n,hl1]
   refine⟨by simp[Gh.bG,hn1],_,i.size,rfl,rfl,?_,?_,?_,cH hu',?_⟩
   ·simp[Gh.bG,hn1]
   ·simp[Gh.bG,hn1]
   ·simp; omega
   ·have hzc:zv.cells.size=i.size:=by have:=(hzl g w).1; simp at this; omega
    have h1:=grownCap_ge w (es.length+ys.length) cap e
    have h2:us.length=es.length*i.size:=by rw[← ho.rel.1]; exact ho.size
    have h3:vs.length=ys.length*i.size:=by rw[← hS.rel.1]; exact hS.size
    simp[Gh.bG,hn1,size_zeroCells,hzc,h2,h3]
    rw[← Nat.add_mul,← Nat.add_mul]
    exact Nat.mul_le_mul_right _ (by omega)
 cases tl with
 | no=>exact htl.elim
 | exact=>
  have hcap:cap=es.length:=htok
  exact grow g H h (.refl g H w) rfl (by omega) htl
 | tok o=>
  obtain⟨hot,hk⟩:=htl
  obtain⟨hog,A,s,rfl,hsp,hblk,hend,hl0,hfs,hroom⟩:=htok
  by_cases hfit:es.length+ys.length≤cap
  ·have hss:s=i.size:=by
    have:=cH hue
    rw[this] at hfs
    exact(Nat.eq_of_mul_eq_mul_left hl0 hfs).symm
   subst hss
   obtain⟨⟨C,ty',hC,hCs⟩,_⟩:=h.tok o hot
   have h3:vs.length=ys.length*i.size:=by rw[← hS.rel.1]; exact hS.size
   have hfe:es.flatten.length=es.length*i.size:=cH hue
   have hn:g.en o+vs.length≤C.size:=by
    rw[← hend,hCs,hfe,h3,Nat.add_assoc,← Nat.add_mul]
    exact Nat.le_trans (Nat.add_le_add_left (Nat.mul_le_mul_right _ hfit) _) hroom
   obtain⟨k1,k2,k3⟩:=h.uZ hot hC hS.rel hn
   refine⟨.slice (some A) (es.length+ys.length) cap,_,_,_,_,?_,k1,k2,?_,hk⟩
   ·rw[cm hT hS hfit ty]
    simp only
    have hst:=bF P (b:=g.bk o) (ty:=ty') vs w C (A.add (es.length*i.size)) 0 (by rw[aU hsp]; exact hblk) (by rw[aU hsp]; rfl) hC
     (b8 hS.rel hy1) (by rw[aU hsp]; simp only[At]; omega)
    rw[hst]
    simp only[Result.andThen_ok]
    rw[aU hsp]
    simp only[At,Nat.add_zero]
    rw[← hfe,hend]
   ·have hrow:aM (g.bG (g.bk o) (g.en o) (g.en o+ys.flatten.length) C.size) (bX w (g.bk o) (.cells (over C.toList (g.en o) vs).toArray ty' (0,0))) A es.flatten:=by
     rcases hc with hf|⟨A',e',hr⟩
     ·exact⟨hsp,fun q x hq=>by rw[hf] at hq; simp at hq⟩
     ·cases e'; exact hr.mono k2.gx
    refine Rel.an.2 ⟨some A,cap,by rw[List.length_append],dG hu',by rw[List.length_append]; exact hfit,?_,.inr ⟨A,rfl,hsp,?_⟩⟩
    ·refine⟨by simp[Gh.bG,h.n],A,i.size,rfl,hsp,by simp[Gh.bG,h.n,hblk],?_,by simp; omega,cH hu',?_⟩
     ·simp[Gh.bG,h.n]
      simp at hend
      omega
     ·simp[Gh.bG,h.n,hCs]; exact hroom
    ·intro q x hq
     rw[List.flatten_append] at hq
     by_cases hql:q<es.flatten.length
     ·rw[List.getElem?_append_left hql] at hq
      exact hrow.2 q x hq
     ·rw[List.getElem?_append_right (by omega)] at hq
      obtain⟨j1,c,j2,j3⟩:=k3.2 _ x hq
      have e1:g.en o+(q-es.flatten.length)=A.off+q:=by omega
      simp only[At] at j1 j2 ⊢
      rw[e1] at j1 j2
      rw[hblk]
      exact⟨j1,c,j2,j3⟩
  ·obtain⟨k1,k2⟩:=h.kill o
   exact grow g _ k1 k2 (by simp) hfit hk
theorem bO {g:Gh} {w:World} {z:List PV} {zs:Array Value} (h:aq g w z zs.toList) (n:Nat) (h0:zs.size≠0):aq g w (List.replicate n z).flatten (Builtin.zeroCells zs n).toList:=by
 unfold Builtin.zeroCells
 rw[be zs n (.inl h0)]
 exact gB h n
theorem mW {P:Program} {g:Gh} {H:aa} {w:World} (h:Sim g H w) {o off len cap sz:Nat} {v:Value} {cs:List PV} (hx:Rel g w (.arr o off len cap) v) (ho:H[o]?=some (.cells cs)) (hn:off+len*sz≤cs.length):
  ∃ vs,Src P g w v sz len ((cs.drop off).take (len*sz)) vs:=
 cD h hx (by simp only[fo,ho]; rw[if_pos hn]) (by simp; omega)
theorem eD {P:Program} {g:Gh} {H:aa} {w:World} {K:PV→aa→Prop} (h:Sim g H w) {ts:Array TypeId} {sz by_:Nat} {z:List PV} (ha:jT P ts=some (sz,by_,z)) (ty:TypeId)
  {o off len cap n:Nat} {cs ys:List PV} {y:PV} {v u:Value} (hx:Rel g w (.arr o off len cap) v) (ho:H[o]?=some (.cells cs)) (hlc:len≤cap) (hoc:off+cap*sz≤cs.length)
  (hy:Rel g w y u) (hs:fo H sz y=some (ys,n)) (hyn:ys.length=n*sz) (hy1:ys.all PV.one=true) (hb:(len+n)*by_≤140737488355328)
  (hk1:len+n≤cap→K (.arr o off (len+n) cap) (H.set o (.cells (over cs (off+len*sz) ys))))
  (hk2:cap<len+n→∀ c,len+n≤c→K (.arr H.length 0 (len+n) c) (H++[.cells (((cs.drop off).take (len*sz))++ys++(List.replicate (c-(len+n)) z).flatten)])):
  VOk P (Builtin.append_ ts ty #[v,u]) g H w K:=by
 obtain⟨t,e,i,zv,hT,rfl,rfl,hzl,hs0,hb0,hzs⟩:=dz ha
 have hlz:len*i.size≤cap*i.size:=Nat.mul_le_mul_right _ hlc
 obtain⟨us,hO⟩:=mW (P:=P) (sz:=i.size) h hx ho (by omega)
 obtain⟨vs,hS⟩:=cD (P:=P) h hy hs hyn
 cases hx with
 | arr _ _ _ _ hol=>
 have h3:vs.length=n*i.size:=by rw[← hS.rel.1]; exact hyn
 by_cases hfit:len+n≤cap
 ·obtain⟨⟨C,ty',hC,hr⟩,_⟩:=h.cells o cs ho
  have hCl:C.size=cs.length:=by have:=hr.1; simp at this; omega
  have hle:len*i.size+n*i.size≤cap*i.size:=by rw[← Nat.add_mul]; exact Nat.mul_le_mul_right _ hfit
  obtain⟨k1,k2⟩:=h.put ho (C:=(over C.toList (off+len*i.size) vs).toArray) (ty:=ty') (cs':=over cs (off+len*i.size) ys) (by simpa using hr.over hS.rel _)
  refine⟨.slice (some ⟨g.bk o,off,none⟩) (len+n) cap,_,_,_,_,?_,k1,k2,?_,hk1 hfit⟩
  ·rw[cm hT hS hfit ty]
   simp only
   have hst:=bF P (b:=g.bk o) (ty:=ty') vs w C ((⟨g.bk o,off,none⟩:Addr).add (len*i.size)) 0 (by rw[aU rfl]; rfl) (by rw[aU rfl]; rfl) hC
    (b8 hS.rel hy1) (by rw[aU rfl]; simp only[At]; omega)
   rw[hst]
   simp only[Result.andThen_ok]
   rw[aU rfl]
   simp only[At,Nat.add_zero]
  ·exact(Rel.arr o off (len+n) cap hol)
 ·have hzc:zv.cells.size=i.size:=by have:=(hzl g w).1; simp at this; omega
  obtain⟨k1,k2,k3⟩:=h.drew.new (cs:=((cs.drop off).take (len*i.size))++ys++(List.replicate (grownCap w (len+n) cap e-(len+n)) z).flatten)
   (C:=us.toArray++vs.toArray++Builtin.zeroCells zv.cells (grownCap w (len+n) cap e-(len+n))) e (by
    have h4:=(hO.rel.append hS.rel).append (bO (hzl g w) (grownCap w (len+n) cap e-(len+n)) (by omega))
    have:=h4.mono (aQ.drew g w)
    simpa using this)
  refine⟨_,_,_,_,_,bI hT hO hS hfit hb ty,k1,(Ext.drew g H w).trans k2,?_,hk2 (by omega) _ (grownCap_ge _ _ _ _)⟩
  have:=Rel.arr (g:=g.push w.drew.heap.size 0) (w:=w.drew.alloc (.cells (us.toArray++vs.toArray++Builtin.zeroCells zv.cells (grownCap w (len+n) cap e-(len+n))) e)) H.length 0 (len+n) (grownCap w (len+n) cap e) (by simp[Gh.push,h.n])
  have hbk:(g.push w.drew.heap.size 0).bk H.length=w.heap.size:=by simp[Gh.push,h.n]
  rw[hbk] at this
  exact this
theorem iu {P:Program} {g:Gh} {H:aa} {w:World} {K:PV→aa→Prop} (h:Sim g H w) {ts:Array TypeId} {sz by_:Nat} {z:List PV} (ha:jT P ts=some (sz,by_,z)) (ty:TypeId)
  {n:Nat} {ys:List PV} {y:PV} {v u:Value} (hx:Rel g w (.list [] .exact) v) (hy:Rel g w y u) (hs:fo H sz y=some (ys,n)) (hyn:ys.length=n*sz) (hb:n*by_≤140737488355328) (hn:0<n)
  (hk2:∀ c,n≤c→K (.arr H.length 0 n c) (H++[.cells (ys++(List.replicate (c-n) z).flatten)])):
  VOk P (Builtin.append_ ts ty #[v,u]) g H w K:=by
 obtain⟨t,e,i,zv,hT,rfl,rfl,hzl,hs0,hb0,hzs⟩:=dz ha
 obtain⟨a,cap,hv,_,_,htl,_⟩:=Rel.an.1 hx
 subst hv
 have hcap:cap=0:=htl
 subst hcap
 obtain⟨us,hO⟩:=fH (P:=P) (sz:=i.size) h hx (fun e he=>by simp at he)
 obtain⟨vs,hS⟩:=cD (P:=P) h hy hs hyn
 have hus:us=[]:=by have:=hO.rel.1; simp at this; exact List.length_eq_zero_iff.1 this.symm
 have hzc:zv.cells.size=i.size:=by have:=(hzl g w).1; simp at this; omega
 have hrun:=bI hT hO hS (by simp; omega) (by simpa using hb) ty
 subst hus
 simp only[List.length_nil,Nat.zero_add] at hrun
 obtain⟨k1,k2,k3⟩:=h.drew.new (cs:=ys++(List.replicate (grownCap w n 0 e-n) z).flatten) (C:= #[]++vs.toArray++Builtin.zeroCells zv.cells (grownCap w n 0 e-n)) e (by
  have h4:=hS.rel.append (bO (hzl g w) (grownCap w n 0 e-n) (by omega))
  have:=h4.mono (aQ.drew g w)
  simpa using this)
 refine⟨_,_,_,_,_,hrun,k1,(Ext.drew g H w).trans k2,?_,hk2 _ (grownCap_ge _ _ _ _)⟩
 have:=Rel.arr (g:=g.push w.drew.heap.size 0) (w:=w.drew.alloc (.cells (#[]++vs.toArray++Builtin.zeroCells zv.cells (grownCap w n 0 e-n)) e)) H.length 0 n (grownCap w n 0 e) (by simp[Gh.push,h.n])
 have hbk:(g.push w.drew.heap.size 0).bk H.length=w.heap.size:=by simp[Gh.push,h.n]
 rw[hbk] at this
 exact this
theorem pQ {P:Program} {g:Gh} {H:aa} {w:World} {K:PV→aa→Prop} (h:Sim g H w) {ts:Array TypeId} {t et:TypeId} {b:Bool} {sz by_:Nat} (ht0:ts[0]?=some t) (hel:elA P t=some (none,b,sz,by_,et)) (ty:TypeId)
  {o off len cap n:Nat} {cs ys:List PV} {y:PV} {v u:Value} (hx:Rel g w (.arr o off len cap) v) (ho:H[o]?=some (.cells cs)) (hoc:off+len*sz≤cs.length)
  (hy:Rel g w y u) (hs:fo H sz y=some (ys,n)) (hyn:ys.length=n*sz) (hy1:ys.all PV.one=true)
  (hk:K (.int .i64 (min n len:Nat)) (H.set o (.cells (over cs off (ys.take (min n len*sz)))))):VOk P (Builtin.copy_ ts ty #[v,u]) g H w K:=by
 obtain⟨hut,ht,_⟩:=bz hel
 obtain⟨vs,hS⟩:=cD (P:=P) h hy hs hyn
 cases hx with
 | arr _ _ _ _ hol=>
 obtain⟨⟨C,ty',hC,hr⟩,_⟩:=h.cells o cs ho
 have hCl:C.size=cs.length:=by have:=hr.1; simp at this; omega
 have h3:vs.length=n*sz:=by rw[← hS.rel.1]; exact hyn
 have hm1:min n len*sz≤n*sz:=Nat.mul_le_mul_right _ (Nat.min_le_left _ _)
 have hm2:min n len*sz≤len*sz:=Nat.mul_le_mul_right _ (Nat.min_le_right _ _)
 have hrt:=hS.rel.take (min n len*sz)
 obtain⟨k1,k2⟩:=h.put ho (C:=(over C.toList off (vs.take (min n len*sz))).toArray) (ty:=ty') (cs':=over cs off (ys.take (min n len*sz))) (by simpa using hr.over hrt off)
 refine⟨goInt (min n len:Nat),_,_,_,_,?_,k1,k2,.int _ _,hk⟩
 have hc:=hS.cells (min n len) (Nat.min_le_left _ _) w rfl
 have hst:=bF P (b:=g.bk o) (ty:=ty') (vs.take (min n len*sz)) w C ⟨g.bk o,off,none⟩ 0 rfl rfl hC
  (fun x hx=>b8 hS.rel hy1 x (List.mem_of_mem_take hx)) (by simp; omega)
 unfold Builtin.copy_
 simp only[ht0,List.getElem?_toArray,List.getElem?_cons_zero,List.getElem?_cons_succ,Sem.run_bind,ah hut,Result.andThen_ok,hS.len,run_sizeOf ht,Nat.min_def]
 simp only[Nat.min_def] at hc hst
 rw[hc]
 simp only[Result.andThen_ok]
 rw[hst]
 simp only[Result.andThen_ok,Sem.run_pure,Nat.add_zero]
theorem nL {P:Program} {g:Gh} {H:aa} {w:World} {K:PV→aa→Prop} (h:Sim g H w) {ts:Array TypeId} {t et:TypeId} {b:Bool} {sz by_:Nat} (ht0:ts[0]?=some t) (hel:elA P t=some (none,b,sz,by_,et)) (ty:TypeId)
  {z:List PV} (hz:bU P et=some z) (hzs:z.length=sz) (hz1:z.all PV.one=true) {o off len cap:Nat} {cs:List PV} {v:Value} (hx:Rel g w (.arr o off len cap) v) (ho:H[o]?=some (.cells cs)) (hoc:off+len*sz≤cs.length)
  (hk:K (.tup []) (H.set o (.cells (over cs off (List.replicate len z).flatten)))):VOk P (Builtin.clear_ ts ty #[v]) g H w K:=by
 obtain⟨hut,ht,_⟩:=bz hel
 obtain⟨zv,hzr,hzl⟩:=cu hz
 cases hx with
 | arr _ _ _ _ hol=>
 obtain⟨⟨C,ty',hC,hr⟩,_⟩:=h.cells o cs ho
 have hCl:C.size=cs.length:=by have:=hr.1; simp at this; omega
 have hzc:zv.cells.size=sz:=by have:=(hzl g w).1; simp at this; omega
 have htup:∀ g w,Rel g w (.tup []) (.tuple #[]):=fun g w=>Rel.bJ.2 ⟨#[],rfl,.nil⟩
 cases len with
 | zero=>
  refine VOk.same h (v:= .tuple #[]) ?_ (htup g w) ?_
  ·unfold Builtin.clear_
   simp[ht0,ah hut]
  ·simp only[List.replicate_zero,List.flatten_nil,eH] at hk
   have:H.set o (.cells cs)=H:=by
    apply List.ext_getElem?
    intro q
    rw[List.getElem?_set]
    split
    ·rename_i e; subst e; rw[if_pos (List.getElem?_eq_some_iff.1 ho).1,ho]
    ·rfl
   rwa [this] at hk
 | succ k=>
  by_cases hs0:sz=0
  ·
   subst hs0
   have hz0:z=[]:=List.length_eq_zero_iff.1 hzs
   subst hz0
   have hfl:(List.replicate (k+1) ([]:List PV)).flatten=[]:=by simp
   rw[hfl,eH] at hk
   have:H.set o (.cells cs)=H:=by
    apply List.ext_getElem?
    intro q
    rw[List.getElem?_set]
    split
    ·rename_i e; subst e; rw[if_pos (List.getElem?_eq_some_iff.1 ho).1,ho]
    ·rfl
   rw[this] at hk
   refine VOk.same h (v:= .tuple #[]) ?_ (htup g w) hk
   have hzc':Builtin.zeroCells zv.cells (k+1) = #[]:=by
    unfold Builtin.zeroCells
    rw[hzc]; simp
   unfold Builtin.clear_
   simp[ht0,ah hut,hzr,hzc',storeCells]
  ·have hrz:=bO (hzl g w) (k+1) (by omega)
   have hzl':((List.replicate (k+1) z).flatten).length=(k+1)*sz:=by simp[hzs]
   obtain⟨k1,k2⟩:=h.put ho (C:=(over C.toList off (Builtin.zeroCells zv.cells (k+1)).toList).toArray) (ty:=ty') (cs':=over cs off (List.replicate (k+1) z).flatten) (by simpa using hr.over hrz off)
   refine⟨.tuple #[],_,_,_,_,?_,k1,k2,htup _ _,hk⟩
   have hst:=bF P (b:=g.bk o) (ty:=ty') (Builtin.zeroCells zv.cells (k+1)).toList w C ⟨g.bk o,off,none⟩ 0 rfl rfl hC
    (b8 hrz (by
     rw[List.all_eq_true]
     intro x hx
     obtain⟨l,hl,hxl⟩:=List.mem_flatten.1 hx
     rw[List.eq_of_mem_replicate hl] at hxl
     exact List.all_eq_true.1 hz1 x hxl)) (by rw[← hrz.1,hzl']; simp; omega)
   unfold Builtin.clear_
   simp only[ht0,List.getElem?_toArray,List.getElem?_cons_zero,Sem.run_bind,ah hut,Result.andThen_ok,hzr]
   rw[hst]
   simp
theorem jk {P:Program} {g:Gh} {H:aa} {w:World} {K:PV→aa→Prop} (h:Sim g H w) {t et:TypeId} {b:Bool} {sz by_:Nat} (hel:elA P t=some (none,b,sz,by_,et))
  {z:List PV} (hz:bU P et=some z) (hzs:z.length=sz) (hs0:sz≠0) {k k':IntKind} {l c:Int} {v u:Value} (hx:Rel g w (.int k l) v) (hy:Rel g w (.int k' c) u) (h0:0≤l) (h1:l≤c) (hc:c≤140737488355328) (hb:c*by_≤140737488355328)
  (hk:K (.arr H.length 0 l.toNat c.toNat) (H++[.cells (List.replicate c.toNat z).flatten])):VOk P (Instr.makeSlice t v u) g H w K:=by
 obtain⟨hut,ht,i,hi,hib⟩:=bz hel
 obtain⟨zv,hzr,hzl⟩:=cu hz
 cases hx; cases hy
 have hzc:zv.cells.size=sz:=by have:=(hzl g w).1; simp at this; omega
 have hwrap:∀ n:Int,0≤n→n≤140737488355328→IntKind.i64.wrap n=n:=by
  intro n h0 h1
  simp[IntKind.wrap,IntKind.bits,IntKind.signed]; omega
 have wl:=hwrap l h0 (by omega)
 have wc:=hwrap c (by omega) hc
 obtain⟨C,hC1,hC2⟩:∃ C:Array Value,(∃ zero:Array Value,(if c.toNat*sz=0 then pure #[] else do pure (← zeroValue et).cells:Sem (Array Value)).run P w = .ok zero w∧
   (Array.range (c.toNat*sz)).map (fun i=>zero[i % zero.size]!)=C)∧C.toList=(List.replicate c.toNat zv.cells.toList).flatten:=by
  by_cases hn:c.toNat*sz=0
  ·have hc0:c.toNat=0:=by
    rcases Nat.mul_eq_zero.1 hn with h|h
    ·exact h
    ·exact absurd h hs0
   rw[hc0]
   exact⟨#[],⟨#[],by simp,by simp⟩,by simp⟩
  ·refine⟨_,⟨zv.cells,by rw[if_neg hn,Sem.run_bind,hzr]; rfl,rfl⟩,?_⟩
   have:=be zv.cells c.toNat (.inl (by omega))
   rwa [hzc] at this ⊢
 obtain⟨zero,hz1,hz2⟩:=hC1
 obtain⟨k1,k2,k3⟩:=h.new (cs:=(List.replicate c.toNat z).flatten) (C:=C) et (by rw[hC2]; exact gB (hzl g w) _)
 refine⟨.slice (some ⟨w.heap.size,0,none⟩) l.toNat c.toNat,_,_,_,_,?_,k1,k2,?_,hk⟩
 ·have t1:¬ (i.bytes:Int)*c>281474976710656:=by rw[hib,Int.mul_comm]; omega
  have t2:¬ 281474976710656<(i.bytes:Int)*c:=by omega
  have t3:¬ c<0:=by omega
  have t4:¬ l<0:=by omega
  have t5:¬ c<l:=by omega
  by_cases hn:c.toNat*sz=0
  ·rw[if_pos hn] at hz1
   simp only[Sem.run_pure,Result.ok.injEq,and_true] at hz1
   subst hz1
   simp only[Instr.makeSlice,Sem.run_bind,ah hut,Result.andThen_ok,asInt,asIntOf,Sem.run_pure,bQ hi,wl,wc]
   simp[t2,t3,t4,t5,run_sizeOf ht,hn]
   have hCe:C = #[]:=by rw[← hz2,hn]; simp
   have e0:Array.range 0 = #[]:=rfl
   simp[newRow,hCe,e0]
  ·rw[if_neg hn,Sem.run_bind,hzr] at hz1
   simp only[Result.andThen_ok,Sem.run_pure,Result.ok.injEq,and_true] at hz1
   subst hz1
   simp only[Instr.makeSlice,Sem.run_bind,ah hut,Result.andThen_ok,asInt,asIntOf,Sem.run_pure,bQ hi,wl,wc]
   have t2':¬ (2:Int) ^ 48<(i.bytes:Int)*c:=by omega
   simp only[Bool.or_eq_true,decide_eq_true_eq,gt_iff_lt,t2',t3,t4,t5,or_self,if_false,Sem.run_bind,run_askRoom,Result.andThen_ok,run_sizeOf ht,hn,hzr,Sem.run_pure]
   rw[hz2]
   simp[newRow]
 ·have:=Rel.arr (g:=g.push w.heap.size 0) (w:=w.alloc (.cells C et)) H.length 0 l.toNat c.toNat (by simp[Gh.push,h.n])
  have hbk:(g.push w.heap.size 0).bk H.length=w.heap.size:=by simp[Gh.push,h.n]
  rw[hbk] at this
  exact this
def kS (P:Program) (ts:Array TypeId):Option (Nat×Nat×List PV):=
 match ts[0]?,ts[1]? with
 | some t,some u=>match elA P t,P.underlying u with
  | some (none,_,sz,by_,e),some (.int _)=>match bU P e with
   | some z=>if by_=0∨sz=0∨z.length≠sz then none else some (sz,by_,z)
   | none=>none
  | _,_=>none
 | _,_=>none
theorem jH {P:Program} {ts:Array TypeId} {sz by_:Nat} {z:List PV} (h:kS P ts=some (sz,by_,z)):
  ∃ t u e i zv kd,ts[0]?=some t∧ts[1]?=some u∧P.underlying u=some (.int kd)∧P.underlying t=some (.slice e)∧P.info? e=some i∧i.zero=some zv∧i.size=sz∧i.bytes=by_∧(∀ g w,aq g w z zv.cells.toList)∧sz≠0∧by_≠0∧z.length=sz:=by
 unfold kS at h
 split at h
 ·rename_i t u h0 h1
  split at h
  ·rename_i b sz' by' e d hel hu
   split at h
   ·rename_i z' hz
    split at h
    ·cases h
    ·rename_i hc
     simp only[Option.some.injEq,Prod.mk.injEq] at h
     obtain⟨rfl,rfl,rfl⟩:=h
     have c1:by'≠0:=fun e=>hc (.inl e)
     have c2:sz'≠0:=fun e=>hc (.inr (.inl e))
     have c3:z'.length=sz':=by
      rcases Decidable.em (z'.length=sz') with e|e
      ·exact e
      ·exact absurd (.inr (.inr e)) hc
     obtain⟨hut,ht,i,hi,rfl⟩:=bz hel
     obtain⟨dd,i',_,hi',hsz,_⟩:=fS ht
     rw[hi] at hi'; cases hi'
     unfold bU at hz
     rw[hi] at hz
     cases hzz:i.zero with
     | none=>simp[hzz] at hz
     | some zv=>
      simp[hzz] at hz
      exact⟨t,u,e,i,zv,_,h0,h1,hu,hut,hi,hzz,hsz,rfl,fun g w=>by rw[← hz]; exact dZ g w _,c2,c1,c3⟩
   ·cases h
  ·cases h
 ·cases h
theorem e7 (z:Array Value) (m n:Nat) (h:z.size≠0):Builtin.zeroCells z m++Builtin.zeroCells z n=Builtin.zeroCells z (m+n):=by
 unfold Builtin.zeroCells
 apply Array.ext'
 rw[Array.toList_append,be z m (.inl h),be z n (.inl h),be z (m+n) (.inl h),← List.flatten_append,List.replicate_append_replicate]
theorem dg {P:Program} {g:Gh} {w:World} {ts:Array TypeId} {t u e:TypeId} {i:TypeInfo} {z:Value} {kd k:IntKind} (h0:ts[0]?=some t) (h1:ts[1]?=some u) (hu:P.underlying u=some (.int kd)) (ht:P.underlying t=some (.slice e)) (hi:P.info? e=some i) (hz:i.zero=some z)
  (hib:i.bytes≠0) (his:i.size≠0) {base:Option Addr} {sLen sCap n:Nat} {xs:List PV} {us:List Value}
  (ho:Src P g w (.slice base sLen sCap) i.size sLen xs us) (hn:0<n) (hfit:¬ sLen+n≤sCap) (hb:(sLen+n)*i.bytes≤140737488355328) (ty:TypeId):
  (Builtin.append_ ts ty #[.slice base sLen sCap,.int k n]).run P w =
   .ok (.slice (some ⟨w.heap.size,0,none⟩) (sLen+n) (grownCap w (sLen+n) sCap e))
    (w.drew.alloc (.cells (us.toArray++Builtin.zeroCells z.cells n++Builtin.zeroCells z.cells (grownCap w (sLen+n) sCap e-(sLen+n))) e)):=by
 have huu:us.take (sLen*i.size)=us:=List.take_of_length_le (by have:=ho.rel.1; have:=ho.size; omega)
 have hc':=ho.cells sLen (Nat.le_refl _) w.drew rfl
 rw[huu] at hc'
 have h48:¬ (281474976710656<Builtin.nextslicecap (sLen+n) sCap*i.bytes):=by
  have:=growslice_fits (need:=sLen+n) (old:=sCap) (bytes:=i.bytes) (by omega) hb
  omega
 have hzv:∀ w:World,(zeroValue e).run P w = .ok z w:=by
  intro w
  unfold zeroValue
  rw[Sem.run_bind,bQ hi]
  simp[hz]
 have hb1:sLen+n≤(sLen+n)*i.bytes:=Nat.le_mul_of_pos_right _ (by omega)
 have hn1:n*i.bytes≤(sLen+n)*i.bytes:=Nat.mul_le_mul_right _ (by omega)
 have hw:IntKind.i64.wrap (n:Int)=n:=by
  simp only[IntKind.wrap,IntKind.bits,IntKind.signed]; simp; omega
 have h3:¬ ((281474976710656:Int)<(n:Int)*(i.bytes:Int)):=by
  have:(n:Int)*(i.bytes:Int)=((n*i.bytes:Nat):Int):=by simp
  omega
 have h5:n*i.size≠0:=Nat.mul_ne_zero (by omega) his
 have h7:¬ ((n:Int)<0):=by omega
 simp[Builtin.append_,h0,h1,ah ht,ah hu,sizeOf,bQ hi,asInt,asIntOf,hw,h3,h7,hfit,hib,h48,run_choose,Question.forced,hc',hzv,newRow,grownCap]
 rw[if_neg (by omega),if_neg h5]
theorem gv {P:Program} {g:Gh} {H:aa} {w:World} {K:PV→aa→Prop} (h:Sim g H w) {ts:Array TypeId} {sz by_:Nat} {z:List PV} (ha:kS P ts=some (sz,by_,z)) (ty:TypeId)
  {o off len cap:Nat} {n:Int} {k:IntKind} {cs:List PV} {v u:Value} (hx:Rel g w (.arr o off len cap) v) (ho:H[o]?=some (.cells cs)) (hlc:len≤cap) (hoc:off+cap*sz≤cs.length)
  (hy:Rel g w (.int k n) u) (hn:0≤n) (hg:cap<len+n.toNat) (hb:(len+n.toNat)*by_≤140737488355328)
  (hk:∀ c,len+n.toNat≤c→K (.arr H.length 0 (len+n.toNat) c) (H++[.cells (((cs.drop off).take (len*sz))++(List.replicate (c-len) z).flatten)])):
  VOk P (Builtin.append_ ts ty #[v,u]) g H w K:=by
 obtain⟨t,u',e,i,zv,kd,h0,h1,hu,ht,hi,hz,rfl,rfl,hzl,hs0,hb0,hzs⟩:=jH ha
 have hlz:len*i.size≤cap*i.size:=Nat.mul_le_mul_right _ hlc
 obtain⟨us,hO⟩:=mW (P:=P) (sz:=i.size) h hx ho (by omega)
 cases hx with
 | arr _ _ _ _ hol=>
 cases hy
 have hnn:n=((n.toNat:Nat):Int):=by omega
 generalize n.toNat=m at *
 subst hnn
 have hzc:zv.cells.size=i.size:=by have:=(hzl g w).1; simp at this; omega
 have hge:=grownCap_ge w (len+m) cap e
 have hrun:=dg (P:=P) (k:=k) h0 h1 hu ht hi hz hb0 hs0 hO (by omega) (by omega) hb ty
 rw[Array.append_assoc,e7 _ _ _ (by omega),show m+(grownCap w (len+m) cap e-(len+m))=grownCap w (len+m) cap e-len by omega] at hrun
 obtain⟨k1,k2,k3⟩:=h.drew.new (cs:=((cs.drop off).take (len*i.size))++(List.replicate (grownCap w (len+m) cap e-len) z).flatten)
  (C:=us.toArray++Builtin.zeroCells zv.cells (grownCap w (len+m) cap e-len)) e (by
   have h4:=hO.rel.append (bO (hzl g w) (grownCap w (len+m) cap e-len) (by omega))
   have:=h4.mono (aQ.drew g w)
   simpa using this)
 refine⟨_,_,_,_,_,hrun,k1,(Ext.drew g H w).trans k2,?_,hk _ hge⟩
 have:=Rel.arr (g:=g.push w.drew.heap.size 0) (w:=w.drew.alloc (.cells (us.toArray++Builtin.zeroCells zv.cells (grownCap w (len+m) cap e-len)) e)) H.length 0 (len+m) (grownCap w (len+m) cap e) (by simp[Gh.push,h.n])
 have hbk:(g.push w.drew.heap.size 0).bk H.length=w.heap.size:=by simp[Gh.push,h.n]
 rw[hbk] at this
 exact this
theorem fE {P:Program} {g:Gh} {H:aa} {w:World} {K:PV→aa→Prop} (h:Sim g H w) {ts:Array TypeId} {sz by_:Nat} {z:List PV} (ha:kS P ts=some (sz,by_,z)) (ty:TypeId)
  {n:Int} {k:IntKind} {v u:Value} (hx:Rel g w (.list [] .exact) v) (hy:Rel g w (.int k n) u) (hn:0<n) (hb:n.toNat*by_≤140737488355328)
  (hk:∀ c,n.toNat≤c→K (.arr H.length 0 n.toNat c) (H++[.cells (List.replicate c z).flatten])):
  VOk P (Builtin.append_ ts ty #[v,u]) g H w K:=by
 obtain⟨t,u',e,i,zv,kd,h0,h1,hu,ht,hi,hz,rfl,rfl,hzl,hs0,hb0,hzs⟩:=jH ha
 obtain⟨a,cap,rfl,_,_,hcap,_⟩:=Rel.an.1 hx
 obtain⟨us,hO⟩:=fH (P:=P) h hx (sz:=i.size) (fun _ he=>nomatch he)
 have hcap:cap=0:=hcap
 subst hcap
 cases hy
 have hnn:n=((n.toNat:Nat):Int):=by omega
 generalize n.toNat=m at *
 subst hnn
 have hzc:zv.cells.size=i.size:=by have:=(hzl g w).1; simp at this; omega
 have hge:=grownCap_ge w (0+m) 0 e
 have hrun:=dg (P:=P) (k:=k) h0 h1 hu ht hi hz hb0 hs0 (sLen:=0) (sCap:=0) (n:=m) hO (by omega) (by omega) (by rw[Nat.zero_add]; exact hb) ty
 rw[Array.append_assoc,e7 _ _ _ (by omega),show m+(grownCap w (0+m) 0 e-(0+m))=grownCap w (0+m) 0 e from by omega] at hrun
 obtain⟨k1,k2,k3⟩:=h.drew.new (cs:=(List.replicate (grownCap w (0+m) 0 e) z).flatten)
  (C:=us.toArray++Builtin.zeroCells zv.cells (grownCap w (0+m) 0 e)) e (by
   have h4:=hO.rel.append (bO (hzl g w) (grownCap w (0+m) 0 e) (by omega))
   have:=h4.mono (aQ.drew g w)
   simpa using this)
 rw[Nat.zero_add] at hge hrun k1 k2 k3
 refine⟨_,_,_,_,_,hrun,k1,(Ext.drew g H w).trans k2,?_,hk _ hge⟩
 have:=Rel.arr (g:=g.push w.drew.heap.size 0) (w:=w.drew.alloc (.cells (us.toArray++Builtin.zeroCells zv.cells (grownCap w m 0 e)) e)) H.length 0 m (grownCap w m 0 e) (by simp[Gh.push,h.n])
 have hbk:(g.push w.drew.heap.size 0).bk H.length=w.heap.size:=by simp[Gh.push,h.n]
 rw[hbk] at this
 exact this
def af (P:Program) (gl:ai) (f:FuncId) (args:List PV) (H:aa) (K:PV→aa→Prop):Prop:=
 ∀ g w (vs:Array Value),Sim g H w→bL g w gl→aq g w args vs.toList→
  Calls P f vs w fun e w'=>∃ v g' H' x,e = .returned v∧Sim g' H' w'∧Ext g H w g' H' w'∧Rel g' w' x v∧K x H'
theorem af.mono {P:Program} {gl:ai} {f:FuncId} {args:List PV} {H:aa} {K K':PV→aa→Prop} (h:af P gl f args H K) (hk:∀ x H',K x H'→K' x H'):af P gl f args H K':=
 fun g w vs h1 h2 h3=>(h g w vs h1 h2 h3).mono fun _ _ ⟨v,g',H',x,a,b,c,d,k⟩=>⟨v,g',H',x,a,b,c,d,hk x H' k⟩
def cg (P:Program) (f:FuncId):Bool:=
 match P.funcs[f]? with
 | some fn=>fn.name != "runtime.NumGoroutine" && fn.body.isSome
 | none=>false
def au (P:Program) (b:Builtin) (ts:Array TypeId) (args:List PV) (m:Nat) (H:aa) (K:PV→aa→Prop):Prop:=
 match b with
 | .len=>match ts[0]?,args with
  | some t,[x]=>match rK P t x with
   | some n=>K (.int .i64 n) H
   | none=>False
  | _,_=>False
 | .cap=>match ts[0]?,args with
  | some t,[.arr _ _ _ cap]=>(∃ e,P.underlying t=some (.slice e))∧K (.int .i64 cap) H
  | some t,[.list es .exact]=>(∃ e,P.underlying t=some (.slice e))∧K (.int .i64 es.length) H
  | _,_=>False
 | .min=>match bY mnI args with
  | some z=>K z H
  | none=>False
 | .max=>match bY mxI args with
  | some z=>K z H
  | none=>False
 | .append=>match jT P ts,args with
  | some (sz,by_,z),[.list es tl,y]=>match m with
   | 2=>es=[]∧tl = .exact∧match fo H sz y with
    | some (ys,n)=>ys.length=n*sz∧n*by_≤140737488355328∧0<n∧∀ c,n≤c→K (.arr H.length 0 n c) (H++[.cells (ys++(List.replicate (c-n) z).flatten)])
    | none=>False
   | 10=>tl = .exact∧sz=1∧match fo H sz y with
    | some (ys,n)=>uni sz es∧ys.length=n∧(es.length+n)*by_≤140737488355328∧K (.list (es++ys.map fun x=>[x]) .no) H
    | none=>False
   | m=>match y with
    | .list ys _=>uni sz es∧uni sz ys∧(es.length+ys.length)*by_≤140737488355328∧match m with
     | 1=>ys.flatten.all PV.one=true∧ys≠[]∧match tl with
      | .exact=>K (.list (es++ys) (.tok H.length)) (H++[.tok])
      | .tok o=>H[o]?=some .tok∧K (.list (es++ys) (.tok H.length)) (H.set o .dead++[.tok])
      | .no=>False
     | 4=>ys.flatten.all PV.one=true∧(ys=[]→K (.list es tl) H)∧(ys≠[]→match tl with
      | .exact=>K (.list (es++ys) (.tok H.length)) (H++[.tok])
      | .tok o=>H[o]?=some .tok∧K (.list (es++ys) (.tok H.length)) (H.set o .dead++[.tok])
      | .no=>False)
     | 9=>ys=[]∧K (.list es tl) H
     | _=>tl = .exact∧K (.list (es++ys) .no) H
    | _=>False
  | some (sz,by_,z),[.arr o off len cap,y]=>match H[o]?,fo H sz y with
   | some (.cells cs),some (ys,n)=>len≤cap∧off+cap*sz≤cs.length∧ys.length=n*sz∧ys.all PV.one=true∧(len+n)*by_≤140737488355328∧
    match m with
    | 3=>len+n≤cap∧K (.arr o off (len+n) cap) (H.set o (.cells (over cs (off+len*sz) ys)))
    | _=>(len+n≤cap→K (.arr o off (len+n) cap) (H.set o (.cells (over cs (off+len*sz) ys))))∧
     (cap<len+n→∀ c,len+n≤c→K (.arr H.length 0 (len+n) c) (H++[.cells (((cs.drop off).take (len*sz))++ys++(List.replicate (c-(len+n)) z).flatten)]))
   | _,_=>False
  | none,[.arr o off len cap,.int _ n]=>match kS P ts,H[o]? with
   | some (sz,by_,z),some (.cells cs)=>len≤cap∧off+cap*sz≤cs.length∧0≤n∧cap<len+n.toNat∧(len+n.toNat)*by_≤140737488355328∧m=0∧
    ∀ c,len+n.toNat≤c→K (.arr H.length 0 (len+n.toNat) c) (H++[.cells (((cs.drop off).take (len*sz))++(List.replicate (c-len) z).flatten)])
   | _,_=>False
  | none,[.list es tl,.int _ n]=>match kS P ts with
   | some (_,by_,z)=>es=[]∧tl = .exact∧0<n∧n.toNat*by_≤140737488355328∧m=8∧∀ c,n.toNat≤c→K (.arr H.length 0 n.toNat c) (H++[.cells (List.replicate c z).flatten])
   | none=>False
  | _,_=>False
 | .copy=>match ts[0]?,args with
  | some t,[.arr o off len _,y]=>match elA P t with
   | some (none,_,sz,_,_)=>match H[o]?,fo H sz y with
    | some (.cells cs),some (ys,n)=>off+len*sz≤cs.length∧ys.length=n*sz∧ys.all PV.one=true∧K (.int .i64 (min n len:Nat)) (H.set o (.cells (over cs off (ys.take (min n len*sz)))))
    | _,_=>False
   | _=>False
  | _,_=>False
 | .clear=>match ts[0]?,args with
  | some t,[.arr o off len _]=>match elA P t with
   | some (none,_,sz,_,et)=>match H[o]?,bU P et with
    | some (.cells cs),some z=>z.length=sz∧z.all PV.one=true∧off+len*sz≤cs.length∧K (.tup []) (H.set o (.cells (over cs off (List.replicate len z).flatten)))
    | _,_=>False
   | _=>False
  | _,_=>False
 | _=>False
def oC (P:Program) (f:FuncId) (args:List PV) (H:aa) (K:PV→aa→Prop):Prop:=
 ∀ g w (vs:Array Value),Sim g H w→aq g w args vs.toList→∃ v x,(callFunc f vs).run P w = .ok (.value v) w∧Rel g w x v∧K x H
def a8 (P:Program) (gl:ai) (c:Call) (m:Nat) (ρ:Operand→PV) (H:aa) (K:PV→aa→Prop):Prop:=
 match c.callee with
 | .value f=>match ρ f with
  | .fn k caps=>(cg P k=true∧af P gl k (c.args.toList.map ρ++caps) H K)∨oC P k (c.args.toList.map ρ++caps) H K
  | _=>False
 | .builtin b=>au P b c.argTypes (c.args.toList.map ρ) m H K
 | _=>False
def cA (m o off sz:Nat):Bool:=Nat.blt m 1000 || ((m == 1000+((o*1000+off)*100+sz)) && Nat.blt off 1000 && Nat.blt sz 100)
def kR (m:Nat) (x:PV) (sz:Nat):Bool:=match m == 900 with
 | true=>match x with
  | .iptr _=>true
  | _=>false
 | false=>Nat.blt m 1000 || match x with
  | .ptr o off=>cA m o off sz && Nat.blt 0 sz
  | _=>false
def opw (P:Program) (gl:ai) (op:Op) (m:Nat) (ρ:Operand→PV) (H:aa) (K:PV→aa→Prop):Prop:=
 match op with
 | .move x=>K (ρ x) H
 | .assign x=>K (ρ x) H
 | .pick c a b=>match ρ c with
  | .bool t=>K (if t=true then ρ a else ρ b) H
  | _=>False
 | .alloc t=>match bU P t with
  | some cs=>K (.ptr H.length 0) (H++[.cells cs])
  | none=>False
 | .box _ x=>match (ρ x).cells with
  | some cs=>K (.ptr H.length 0) (H++[.cells cs])
  | none=>False
 | .build t parts=>match jV P t (parts.toList.map fun p=>(p.1,ρ p.2)) with
  | some cs=>K (.agg cs) H
  | none=>False
 | .buildSlice t len parts=>match elA P t with
  | some (none,_,sz,_,et)=>match bU P et with
   | some z=>z.length=sz∧sz≠0∧len*sz≤16777216∧match gf sz (List.replicate len z) (parts.toList.map fun p=>(p.1,ρ p.2)) with
    | some es=>K (.list es .exact) H
    | none=>False
   | none=>False
  | _=>False
 | .load t a=>match behind H (ρ a),tyA P t with
  | some cs,some (b,sz)=>match b5 b sz cs with
   | some y=>kR m (ρ a) sz=true∧K y H
   | none=>False
  | _,_=>False
 | .store t a x=>match ρ a,tyA P t,(ρ x).cells with
  | .ptr o off,some (_,sz),some xs=>match H[o]? with
   | some (.cells cs)=>xs.length=sz∧xs.all PV.one=true∧(off+sz≤cs.length∧cA m o off sz=true)∧K (.tup []) (H.set o (.cells (over cs off xs)))
   | _=>False
  | _,_,_=>False
 | .nilCheck x=>match ρ x with
  | .ptr o off=>K (.ptr o off) H
  | .iptr cs=>K (.iptr cs) H
  | .fn f caps=>K (.fn f caps) H
  | _=>False
 | .binOp op t x y _=>if bT y=true then pu P op t (ρ x) (fun z=>K z H) else gj P op t (ρ x) (ρ y) (fun z=>K z H)
 | .unOp op _ x=>match unA op (ρ x) with
  | some y=>K y H
  | none=>False
 | .convert s d x=>match nk P s d (ρ x) with
  | some y=>K y H
  | none=>False
 | .makeFunc fn first caps=>match fn with
  | .func f=>first = #[]∧K (.fn f (caps.toList.map ρ)) H
  | _=>False
 | .makeSlice t l c=>match elA P t,ρ l,ρ c with
  | some (none,_,sz,by_,et),.int _ l,.int _ c=>match bU P et with
   | some z=>z.length=sz∧sz≠0∧0≤l∧l≤c∧c≤140737488355328∧c*by_≤140737488355328∧K (.arr H.length 0 l.toNat c.toNat) (H++[.cells (List.replicate c.toNat z).flatten])
   | none=>False
  | _,_,_=>False
 | .slice t x lo hi mx=>match elA P t,ρ x with
  | some (none,_,sz,_,_),.list es tl=>match bnd 0 (lo.map ρ),bnd es.length (hi.map ρ),bnd es.length (mx.map ρ) with
   | some l,some h,some m=>0≤l∧l≤h∧h≤m∧m≤es.length∧(hi=none→mx=none)∧uni sz es∧K (.list ((es.take h.toNat).drop l.toNat) (dD tl (lo.map ρ) (hi.map ρ) (mx.map ρ) h m)) H
   | _,_,_=>False
  | some (none,_,sz,_,_),.arr o off len cap=>match bnd 0 (lo.map ρ),bnd len (hi.map ρ),bnd cap (mx.map ρ) with
   | some l,some h,some m=>0≤l∧l≤h∧h≤m∧m≤cap∧(hi=none→mx=none)∧K (.arr o (if m.toNat=l.toNat then off else off+l.toNat*sz) (h.toNat-l.toNat) (m.toNat-l.toNat)) H
   | _,_,_=>False
  | _,_=>False
 | .fieldAddr s x f=>match lE P s f with
  | some (off,_,_)=>match eF off (ρ x) with
   | some y=>K y H
   | none=>False
  | none=>False
 | .field s x f=>match lE P s f,ρ x with
  | some (off,b,sz),.agg cs=>match gI b off sz cs with
   | some y=>K y H
   | none=>False
  | _,_=>False
 | .indexAddr t x i=>match elA P t,ρ i with
  | some (none,_,sz,_,_),.int _ n=>match ρ x with
   | .list es _=>0≤n∧match es[n.toNat]? with
    | some e=>e.length=sz∧sz≠0∧K (.iptr e) H
    | none=>False
   | .arr o off len _=>0≤n∧n<len∧K (.ptr o (off+n.toNat*sz)) H
   | _=>False
  | some (some m,_,sz,_,_),.int _ n=>0≤n∧n<m∧match eF (n.toNat*sz) (ρ x) with
   | some y=>K y H
   | none=>False
  | _,_=>False
 | .index t x i=>match elA P t,ρ x,ρ i with
  | some (some m,b,sz,_,_),.agg cs,.int _ n=>0≤n∧n<m∧match gI b (n.toNat*sz) sz cs with
   | some y=>K y H
   | none=>False
  | _,_,_=>False
 | .extract t i=>match ρ t with
  | .tup vs=>match vs[i]? with
   | some y=>K y H
   | none=>False
  | _=>False
 | .call c=>a8 P gl c m ρ H K
 | _=>False
def NOk (P:Program) (s:Sem Next) (g:Gh) (H:aa) (w:World) (K:PV→aa→Prop):Prop:=
 (∃ v w' g' H' x,s.run P w = .ok (.value v) w'∧Sim g' H' w'∧Ext g H w g' H' w'∧Rel g' w' x v∧K x H')∨
 (∃ w' g' H' ,s.run P w = .ok .skip w'∧Sim g' H' w'∧Ext g H w g' H' w'∧K (.tup []) H')∨
 (∃ f vs,s.run P w = .ok (.enter f vs) w∧Calls P f vs w fun e w'=>∃ v g' H' x,e = .returned v∧Sim g' H' w'∧Ext g H w g' H' w'∧Rel g' w' x v∧K x H')
theorem VOk.next {P:Program} {s:Sem Value} {g:Gh} {H:aa} {w:World} {K:PV→aa→Prop} (h:VOk P s g H w K):NOk P (do pure (.value (← s))) g H w K:=by
 obtain⟨v,w',g',H',x,h1,h2⟩:=h
 exact .inl ⟨v,w',g',H',x,by simp[h1],h2⟩
theorem fP {g:Gh} {w:World} {ρ:Operand→PV} {α:Operand→Value} (hρ:∀ x,Rel g w (ρ x) (α x)) (xs:List Operand):aq g w (xs.map ρ) (xs.map α):=by
 induction xs with
 | nil=>exact .nil
 | cons x xs ih=>exact .cons (hρ x) ih
theorem eJ {g:Gh} {w:World} {ρ:Operand→PV} {α:Operand→Value} (hρ:∀ x,Rel g w (ρ x) (α x)) (x:Option Operand):OptRel g w (x.map ρ) (x.map α):=by
 cases x with
 | none=>exact .none
 | some x=>exact .some (hρ x)
theorem kE {P:Program} {f:FuncId} (h:cg P f=true) (vs:Array Value) (w:World):(callFunc f vs).run P w = .ok (.enter f vs) w:=by
 unfold cg at h
 split at h
 ·rename_i fn hf
  simp only[Bool.and_eq_true,bne_iff_ne,ne_eq] at h
  unfold callFunc
  rw[Sem.run_bind,run_program]
  simp only[Result.andThen_ok,hf]
  have h1:(fn.name == "runtime.NumGoroutine")=false:=by simpa using h.1
  have h2:fn.body.isNone=false:=by
   cases hb:fn.body with
   | none=>rw[hb] at h; simp at h
   | some c=>rfl
  simp[h1,h2]
 ·cases h
theorem aR {P:Program} {w:World} {b:Builtin} {ts:Array TypeId} {ty:TypeId} {cs:Array Bool} {vs:Array Value} {s:Sem Value}
  (h:builtin b ts ty cs vs=(do pure (.value (← s)))) {g:Gh} {H:aa} {K:PV→aa→Prop} (hv:VOk P s g H w K):NOk P (builtin b ts ty cs vs) g H w K:=by
 rw[h]; exact hv.next
theorem dn {xs:List PV} {vs:Array Value} {g:Gh} {w:World} {x y:PV} (h:aq g w xs vs.toList) (e:xs=[x,y]):∃ v u,vs = #[v,u]∧Rel g w x v∧Rel g w y u:=by
 subst e
 obtain⟨vs⟩:=vs
 simp only at h
 match vs,h with
 | [v,u],h=>exact⟨v,u,rfl,h.2 0 x v rfl rfl,h.2 1 y u rfl rfl⟩
 | [],h=>have:=h.1; simp at this
 | [_],h=>have:=h.1; simp at this
 | _::_::_::_,h=>have:=h.1; simp at this
theorem fz {xs:List PV} {vs:Array Value} {g:Gh} {w:World} {x:PV} (h:aq g w xs vs.toList) (e:xs=[x]):∃ v,vs = #[v]∧Rel g w x v:=by
 subst e
 obtain⟨vs⟩:=vs
 simp only at h
 match vs,h with
 | [v],h=>exact⟨v,rfl,h.2 0 x v rfl rfl⟩
 | [],h=>have:=h.1; simp at this
 | _::_::_,h=>have:=h.1; simp at this
theorem ik {P:Program} {g:Gh} {H:aa} {w:World} {K:PV→aa→Prop} (hS:Sim g H w) {b:Builtin} {ts:Array TypeId} {args:List PV} {m:Nat} {vs:Array Value} (hr:aq g w args vs.toList)
  (h:au P b ts args m H K) (ty:TypeId) (cs:Array Bool):NOk P (builtin b ts ty cs vs) g H w K:=by
 unfold au at h
 split at h
 ·
  split at h
  ·rename_i t x ht
   split at h
   ·rename_i n hn
    obtain⟨v,rfl,hv⟩:=fz hr rfl
    exact aR (s:=Builtin.len_ ts ty #[v]) rfl (VOk.same hS (o6 hv ht hn ty) (.int _ _) h)
   ·exact h.elim
  ·exact h.elim
 ·
  split at h
  ·rename_i t o off len cap ht
   obtain⟨⟨e,hu⟩,hk⟩:=h
   obtain⟨v,rfl,hv⟩:=fz hr rfl
   exact aR (s:=Builtin.cap_ ts ty #[v]) rfl (VOk.same hS (p7 hv ht hu ty) (.int _ _) hk)
  ·rename_i t es ht
   obtain⟨⟨e,hu⟩,hk⟩:=h
   obtain⟨v,rfl,hv⟩:=fz hr rfl
   exact aR (s:=Builtin.cap_ ts ty #[v]) rfl (VOk.same hS (nA hv ht hu ty) (.int _ _) hk)
  ·exact h.elim
 ·
  split at h
  ·rename_i z hz
   obtain⟨r,h1,h2⟩:=qf (P:=P) hr hz ts ty
   exact aR (s:=Builtin.min_ ts ty vs) rfl (VOk.same hS h1 h2 h)
  ·exact h.elim
 ·
  split at h
  ·rename_i z hz
   obtain⟨r,h1,h2⟩:=q7 (P:=P) hr hz ts ty
   exact aR (s:=Builtin.max_ ts ty vs) rfl (VOk.same hS h1 h2 h)
  ·exact h.elim
 ·
  split at h
  ·rename_i sz by_ z es tl y ha
   obtain⟨v,u,rfl,hv,hu⟩:=dn hr rfl
   refine aR (s:=Builtin.append_ ts ty #[v,u]) rfl ?_
   split at h
   ·obtain⟨rfl,rfl,h⟩:=h
    split at h
    ·rename_i ys n hs
     exact iu hS ha ty hv hu hs h.1 h.2.1 h.2.2.1 h.2.2.2
    ·exact h.elim
   ·obtain⟨rfl,rfl,h⟩:=h
    split at h
    ·rename_i ys n hs
     obtain⟨h1,h2,h3,hk⟩:=h
     have e1:(ys.map fun x=>[x]).flatten=ys:=by
      clear hs h2 h3 hk
      induction ys with
      | nil=>rfl
      | cons x ys ih=>rw[List.map_cons,List.flatten_cons,ih]; rfl
     refine dV (ys:=ys.map fun x=>[x]) hS ha ty hv hu (by rw[e1,List.length_map,h2]; exact hs) h1 (fun e he=>?_) (by rw[List.length_map,h2]; exact h3) hk
     obtain⟨x,_,rfl⟩:=List.mem_map.1 he
     rfl
    ·exact h.elim
   ·split at h
    ·rename_i ys tly
     obtain⟨h1,h2,h3,h4⟩:=h
     split at h4
     ·obtain⟨h5,h6,h7⟩:=h4
      exact ee hS ha ty hv hu rfl h1 h2 h5 h6 h3 h7
     ·obtain⟨h5,h6,h7⟩:=h4
      by_cases h0:ys=[]
      ·subst h0
       exact dX hS ha ty hv hu h1 (h6 rfl)
      ·exact ee hS ha ty hv hu rfl h1 h2 h5 h0 h3 (h7 h0)
     ·obtain⟨h5,hk⟩:=h4
      subst h5
      exact dX hS ha ty hv hu h1 hk
     ·obtain⟨rfl,hk⟩:=h4
      exact dV hS ha ty hv hu rfl h1 h2 h3 hk
    ·exact h.elim
  ·rename_i sz by_ z o off len cap y ha
   obtain⟨v,u,rfl,hv,hu⟩:=dn hr rfl
   refine aR (s:=Builtin.append_ ts ty #[v,u]) rfl ?_
   split at h
   ·rename_i cs' ys n ho hs
    obtain⟨h1,h2,h3,h4,h5,h6⟩:=h
    split at h6
    ·exact eD hS ha ty hv ho h1 h2 hu hs h3 h4 h5 (fun _=>h6.2) (fun hc=>absurd h6.1 (by omega))
    ·exact eD hS ha ty hv ho h1 h2 hu hs h3 h4 h5 h6.1 h6.2
   ·exact h.elim
  ·rename_i o off len cap kd n ha
   obtain⟨v,u,rfl,hv,hu⟩:=dn hr rfl
   refine aR (s:=Builtin.append_ ts ty #[v,u]) rfl ?_
   split at h
   ·rename_i sz by_ z cs' hz ho
    obtain⟨h1,h2,h3,h4,h5,_,h7⟩:=h
    exact gv hS hz ty hv ho h1 h2 hu h3 h4 h5 h7
   ·exact h.elim
  ·rename_i es tl kd n ha
   obtain⟨v,u,rfl,hv,hu⟩:=dn hr rfl
   refine aR (s:=Builtin.append_ ts ty #[v,u]) rfl ?_
   split at h
   ·rename_i sz by_ z hz
    obtain⟨rfl,rfl,h1,h2,_,h3⟩:=h
    exact fE hS hz ty hv hu h1 h2 h3
   ·exact h.elim
  ·exact h.elim
 ·
  split at h
  ·rename_i t o off len cap y ht
   split at h
   ·rename_i b' sz by_ et hel
    split at h
    ·rename_i cs' ys n ho hs
     obtain⟨v,u,rfl,hv,hu⟩:=dn hr rfl
     exact aR (s:=Builtin.copy_ ts ty #[v,u]) rfl (pQ hS ht hel ty hv ho h.1 hu hs h.2.1 h.2.2.1 h.2.2.2)
    ·exact h.elim
   ·exact h.elim
  ·exact h.elim
 ·
  split at h
  ·rename_i t o off len cap ht
   split at h
   ·rename_i b' sz by_ et hel
    split at h
    ·rename_i cs' z ho hz
     obtain⟨v,rfl,hv⟩:=fz hr rfl
     exact aR (s:=Builtin.clear_ ts ty #[v]) rfl (nL hS ht hel ty hz h.1 h.2.1 hv ho h.2.2.1 h.2.2.2)
    ·exact h.elim
   ·exact h.elim
  ·exact h.elim
 ·exact h.elim
theorem kQ {P:Program} {gl:ai} {g:Gh} {H:aa} {w:World} {K:PV→aa→Prop} (hS:Sim g H w) (hG:bL g w gl) {c:Call} {m:Nat} {ρ:Operand→PV} {α:Operand→Value} (hρ:∀ x,Rel g w (ρ x) (α x))
  (h:a8 P gl c m ρ H K) (ty:TypeId):NOk P (do let d ← resolve α c ty; invoke d.target d.args) g H w K:=by
 unfold a8 at h
 unfold resolve
 split at h
 ·rename_i f hc
  rw[hc]
  split at h
  ·rename_i k caps hf
   have hr:=hρ f
   rw[hf] at hr
   obtain⟨cv,hv,hcr⟩:=Rel.dS.1 hr
   have hargs:aq g w (c.args.toList.map ρ++caps) (c.args.map α++cv).toList:=by
    simp only[Array.toList_append,Array.toList_map]
    exact(fP hρ _).append hcr
   have:(#[]++Array.map α c.args)=Array.map α c.args:=by simp
   rcases h with⟨hcall,hk⟩|h
   ·refine .inr (.inr ⟨k,c.args.map α++cv,?_,hk g w _ hS hG hargs⟩)
    simp only[hv,Deferred.ofValue,Sem.run_bind,Sem.run_pure,Result.andThen_ok,invoke]
    rw[this]
    exact kE hcall _ w
   ·obtain⟨v,x,h1,h2,h3⟩:=h g w _ hS hargs
    refine .inl ⟨v,w,g,H,x,?_,hS,.refl g H w,h2,h3⟩
    simp only[hv,Deferred.ofValue,Sem.run_bind,Sem.run_pure,Result.andThen_ok,invoke]
    rw[this]
    exact h1
  ·exact h.elim
 ·rename_i b hc
  rw[hc]
  have hargs:aq g w (c.args.toList.map ρ) (c.args.map α).toList:=by
   simp only[Array.toList_map]
   exact fP hρ _
  have:=ik (P:=P) hS hargs h ty (c.args.map fun| .const _=>true|_=>false)
  exact this
 ·exact h.elim
theorem jG {g:Gh} {w:World} {ρ:Operand→PV} {α:Operand→Value} (hρ:∀ x,Rel g w (ρ x) (α x)) (parts:Array (Nat×Operand)):
  (parts.map (fun(x:Nat×Operand)=>(x.1,α x.2))).toList.map (·.1)=(parts.toList.map fun p=>(p.1,ρ p.2)).map (·.1)∧
   aq g w ((parts.toList.map fun p=>(p.1,ρ p.2)).map (·.2)) ((parts.map (fun(x:Nat×Operand)=>(x.1,α x.2))).toList.map (·.2)):=by
 constructor
 ·simp
 ·simp only[Array.toList_map,List.map_map]
  have h1:((fun(x:Nat×PV)=>x.2) ∘ fun(p:Nat×Operand)=>(p.1,ρ p.2))=ρ ∘ (·.2):=rfl
  have h2:((fun(x:Nat×Value)=>x.2) ∘ fun(p:Nat×Operand)=>(p.1,α p.2))=α ∘ (·.2):=rfl
  rw[h1,h2,← List.map_map,← List.map_map]
  exact fP hρ _
theorem gW {y:Operand} (h:bT y=true):y = .const (.slice none 0 0):=by
 unfold bT at h
 split at h
 ·rfl
 ·cases h
theorem eL {P:Program} {gl:ai} {g:Gh} {H:aa} {w:World} {K:PV→aa→Prop} (hS:Sim g H w) (hG:bL g w gl) {o:Oper} {m:Nat} {ρ:Operand→PV} {a:Act} (hρ:∀ x,Rel g w (ρ x) (a.eval x))
  (h:opw P gl o.op m ρ H K):NOk P (execOp a.eval o) g H w K:=by
 unfold execOp
 generalize o.op=op at h
 cases op<;>simp only[opw] at h<;>simp only
 case move x=>exact .inl ⟨_,w,g,H,_,rfl,hS,.refl g H w,hρ x,h⟩
 case assign x=>exact .inl ⟨_,w,g,H,_,rfl,hS,.refl g H w,hρ x,h⟩
 case pick c x y=>
  split at h
  ·rename_i t ht
   have hc:=hρ c
   rw[ht] at hc
   generalize hv:a.eval c=v at hc
   cases hc
   refine .inl ⟨if t=true then a.eval x else a.eval y,w,g,H,_,?_,hS,.refl g H w,?_,h⟩
   ·simp[asBool]
   ·cases t
    ·exact hρ y
    ·exact hρ x
  ·exact h.elim
 case alloc t=>
  split at h
  ·rename_i cs hz; exact(nC hS hz h).next
  ·exact h.elim
 case box t x=>
  split at h
  ·rename_i cs hc; exact(rE hS (hρ x) hc h).next
  ·exact h.elim
 case build t parts=>
  split at h
  ·rename_i cs hc
   obtain⟨h1,h2⟩:=jG hρ parts
   obtain⟨r,h3,h4⟩:=mJ (P:=P) h1 h2 hc
   exact(VOk.same hS h3 h4 h).next
  ·exact h.elim
 case buildSlice t len parts=>
  split at h
  ·rename_i b sz by_ et hel
   split at h
   ·rename_i z hz
    obtain⟨hzs,hs0,hn,h⟩:=h
    split at h
    ·rename_i es he
     obtain⟨h1,h2⟩:=jG hρ parts
     exact(ii hS hel hz hzs hs0 hn h1 h2 he h).next
    ·exact h.elim
   ·exact h.elim
  ·exact h.elim
 case load t x=>
  split at h
  ·rename_i cs b sz hb ht
   split at h
   ·rename_i y hl; exact(pH hS (hρ x) hb ht hl h.2).next
   ·exact h.elim
  ·exact h.elim
 case store t x y=>
  split at h
  ·rename_i o' off b sz xs hx ht hc
   split at h
   ·rename_i cs ho
    obtain⟨h1,h2,h3,hk⟩:=h
    have hp:=hρ x
    rw[hx] at hp
    generalize hv:a.eval x=v at hp
    cases hp
    obtain⟨w',k1,k2,k3⟩:=nU (P:=P) hS ho ht ((hρ y).iO hc) h1 h2 h3.1
    refine .inr (.inl ⟨w',g,_,?_,k2,k3,hk⟩)
    simp[Instr.storeAt,Instr.sureAddr,k1]
   ·exact h.elim
  ·exact h.elim
 case nilCheck x=>
  have hr:=hρ x
  split at h
  ·rename_i o' off hx
   rw[hx] at hr
   generalize hv:a.eval x=v at hr
   cases hr
   rename_i ho
   exact .inl ⟨_,w,g,H,_,rfl,hS,.refl g H w,.ptr o' off ho,h⟩
  ·rename_i cs hx
   rw[hx] at hr
   obtain⟨A,hv,hi⟩:=Rel.cU.1 hr
   rw[hv]
   exact .inl ⟨_,w,g,H,_,rfl,hS,.refl g H w,Rel.cU.2 ⟨A,rfl,hi⟩,h⟩
  ·rename_i f caps hx
   rw[hx] at hr
   obtain⟨vs,hv,hi⟩:=Rel.dS.1 hr
   rw[hv]
   exact .inl ⟨_,w,g,H,_,rfl,hS,.refl g H w,Rel.dS.2 ⟨vs,rfl,hi⟩,h⟩
  ·exact h.elim
 case binOp op t x y yt=>
  split at h
  ·rename_i hn
   have hy:=gW hn
   subst hy
   obtain⟨r,z,h1,h2,h3⟩:=p8 (P:=P) (hρ x) x (.const (.slice none 0 0)) h
   exact(VOk.same hS h1 h2 h3).next
  ·obtain⟨r,z,h1,h2,h3⟩:=qn (P:=P) (hρ x) (hρ y) x y h
   exact(VOk.same hS h1 h2 h3).next
 case unOp op t x=>
  split at h
  ·rename_i y hy
   obtain⟨r,h1,h2⟩:=r5 (P:=P) (hρ x) hy
   exact(VOk.same hS h1 h2 h).next
  ·exact h.elim
 case convert s d x=>
  split at h
  ·rename_i y hy
   obtain⟨r,h1,h2⟩:=n7 (P:=P) (hρ x) hy
   exact(VOk.same hS h1 h2 h).next
  ·exact h.elim
 case makeFunc fn first caps=>
  split at h
  ·rename_i f
   obtain⟨rfl,hk⟩:=h
   refine .inl ⟨.func (.func f) #[] (caps.map a.eval),w,g,H,_,by simp[Instr.makeFunc],hS,.refl g H w,Rel.dS.2 ⟨_,rfl,?_⟩,hk⟩
   simp only[Array.toList_map]
   exact fP hρ _
  ·exact h.elim
 case makeSlice t l c=>
  split at h
  ·rename_i b sz by_ et k l' k' c' hel hl hc
   split at h
   ·rename_i z hz
    obtain⟨h1,h2,h3,h4,h5,h6,hk⟩:=h
    have hl':=hρ l
    have hc':=hρ c
    rw[hl] at hl'
    rw[hc] at hc'
    exact(jk hS hel hz h1 h2 hl' hc' h3 h4 h5 h6 hk).next
   ·exact h.elim
  ·exact h.elim
 case slice t x lo hi mx=>
  have hr:=hρ x
  have hmx:(hi=none→mx=none)→(hi.map ρ=none→mx.map ρ=none):=by
   intro hh he
   cases hi with
   | none=>rw[hh rfl]; rfl
   | some y=>cases he
  split at h
  ·rename_i b sz by_ et es tl hel hx
   rw[hx] at hr
   split at h
   ·rename_i l h' m' e1 e2 e3
    obtain⟨h1,h2,h3,h4,h5,h6,hk⟩:=h
    exact(iN hS hel hr (eJ hρ lo) (eJ hρ hi) (eJ hρ mx) e1 e2 e3 h1 h2 h3 h4 (hmx h5) h6 hk).next
   ·exact h.elim
  ·rename_i b sz by_ et o' off len cap hel hx
   rw[hx] at hr
   split at h
   ·rename_i l h' m' e1 e2 e3
    obtain⟨h1,h2,h3,h4,h5,hk⟩:=h
    exact(jn hS hel hr (eJ hρ lo) (eJ hρ hi) (eJ hρ mx) e1 e2 e3 h1 h2 h3 h4 (hmx h5) hk).next
   ·exact h.elim
  ·exact h.elim
 case fieldAddr s x f=>
  split at h
  ·rename_i off b sz hf
   split at h
   ·rename_i y hy; exact(jf hS hf (hρ x) hy h).next
   ·exact h.elim
  ·exact h.elim
 case field s x f=>
  split at h
  ·rename_i off b sz cs hf hx
   have hr:=hρ x
   rw[hx] at hr
   split at h
   ·rename_i y hy; exact(nP hS hf hr hy h).next
   ·exact h.elim
  ·exact h.elim
 case indexAddr t x i=>
  have hri:=hρ i
  have hrx:=hρ x
  split at h
  ·rename_i b sz by_ et k n hel hi
   rw[hi] at hri
   split at h
   ·rename_i es tl hx
    rw[hx] at hrx
    obtain⟨h0,h⟩:=h
    split at h
    ·rename_i e he
     exact(fi hS hel hrx hri h0 he h.1 h.2.1 h.2.2).next
    ·exact h.elim
   ·rename_i o' off len cap hx
    rw[hx] at hrx
    exact(fw hS hel hrx hri h.1 h.2.1 h.2.2).next
   ·exact h.elim
  ·rename_i mm b sz by_ et k n hel hi
   rw[hi] at hri
   obtain⟨h0,h1,h⟩:=h
   split at h
   ·rename_i y hy
    exact(eW hS hel hrx hri h0 h1 hy h).next
   ·exact h.elim
  ·exact h.elim
 case index t x i=>
  have hri:=hρ i
  have hrx:=hρ x
  split at h
  ·rename_i mm b sz by_ et cs k n hel hx hi
   rw[hi] at hri
   rw[hx] at hrx
   obtain⟨h0,h1,h⟩:=h
   split at h
   ·rename_i y hy
    exact(nE hS hel hrx hri h0 h1 hy h).next
   ·exact h.elim
  ·exact h.elim
 case extract t i=>
  split at h
  ·rename_i vs ht
   split at h
   ·rename_i y hy
    have hr:=hρ t
    rw[ht] at hr
    obtain⟨us,hv,hus⟩:=Rel.bJ.1 hr
    obtain⟨u,hu,hrel⟩:=hus.get hy
    rw[Array.getElem?_toList] at hu
    refine(VOk.same hS (v:=u) ?_ hrel h).next
    rw[hv]
    simp[Instr.extract,hu]
   ·exact h.elim
  ·exact h.elim
 case call c=>exact kQ hS hG hρ h o.type
def upd (e:Env) (d:Option Tmp) (x:PV):Env:=
 match d with
 | some t=>fun k=>if k=t then x else e k
 | none=>e
def ji (P:Program) (gl:ai) (hn:Oper→Nat) (ops:Array Oper):List Oper→Env→aa→(Env→aa→Prop)→Prop
 | [],e,H,K=>K e H
 | o::l,e,H,K=>
  match o.guard with
  | none=>opw P gl o.op (hn o) (ev gl e) H fun x H'=>ji P gl hn ops l (upd e o.dst x) H' K
  | some (j,want)=>match (ops[j]?).bind (·.dst) with
   | some d=>match e d with
    | .bool b=>(b=want→opw P gl o.op (hn o) (ev gl e) H fun x H'=>ji P gl hn ops l (upd e o.dst x) H' K)∧(b = !want→ji P gl hn ops l (upd e o.dst (.tup [])) H K)
    | .tup []=>ji P gl hn ops l (upd e o.dst (.tup [])) H K
    | _=>False
   | none=>False
inductive Ex where
 | normal
 | exit (id:Nat)
 | ret
def tM:Exit→Ex→Prop
 | .normal,.normal=>True
 | .exit i,.exit j=>i=j
 | .ret,.ret=>True
 | _,_=>False
def fO (n:Nat) (o:Oper):Bool:=match o.dst with
 | some d=>decide (d<n)
 | none=>true
def bq (n:Nat):Code→Bool
 | .region _ ops _=>ops.toList.all (fO n)
 | .seq a b=>bq n a && bq n b
 | .cond _ a b=>bq n a && bq n b
 | .block _ b=>bq n b
 | .loop b=>bq n b
 | .scope b=>bq n b
 | _=>true
class Dfr where
 ds:List Deferred
instance dfr0:Dfr:=⟨[]⟩
structure St [Dfr] (gl:ai) (n:Nat) (g:Gh) (e:Env) (H:aa) (a:Act) (w:World):Prop where
 sim:Sim g H w
 glob:bL g w gl
 env:dB g w n e a
 dfr:a.defers=Dfr.ds
theorem dB.put {g:Gh} {w:World} {n:Nat} {e:Env} {a:Act} (h:dB g w n e a) {x:PV} {v:Value} (hx:Rel g w x v) (d:Option Tmp) (hd:∀ t,d=some t→t<n):dB g w n (upd e d x) (a.put d v):=by
 cases d with
 | none=>exact h
 | some t=>
  refine⟨by simp[Act.put,h.1],fun k=>?_⟩
  simp only[upd,Act.put]
  by_cases hk:k=t
  ·subst hk
   rw[if_pos rfl]
   have:k<a.tmps.size:=by rw[h.1]; exact hd k rfl
   simp[Array.getD,this]; exact hx
  ·rw[if_neg hk]
   have:=h.2 k
   simp only[Array.getD_eq_getD_getElem?] at this ⊢
   rw[Array.getElem?_setIfInBounds_ne (Ne.symm hk)]
   exact this
def AW [Dfr] (P:Program) (gl:ai) (n:Nat) (c:Code) (Q:Ex→Env→aa→Prop) (e:Env) (H:aa):Prop:=
 bq n c=true→∀ g a w,St gl n g e H a w→
  c.wp P (fun ex a' w'=>∃ ex' g' e' H',tM ex ex'∧St gl n g' e' H' a' w'∧Ext g H w g' H' w'∧Q ex' e' H') a w
theorem St.next [Dfr] {gl:ai} {n:Nat} {g g':Gh} {e:Env} {H H':aa} {a:Act} {w w':World} (h:St gl n g e H a w) (hs:Sim g' H' w') (hx:Ext g H w g' H' w') {x:PV} {v:Value} (hr:Rel g' w' x v) (d:Option Tmp) (hd:∀ t,d=some t→t<n):
  St gl n g' (upd e d x) H' (a.put d v) w':=
 ⟨hs,h.glob.mono hx.gx,(h.env.mono hx.gx).put hr d hd,by cases d<;>exact h.dfr⟩
theorem bK (g:Gh) (w:World):Rel g w (.tup []) undef:=Rel.bJ.2 ⟨#[],rfl,.nil⟩
theorem ol {P:Program} {o:Oper} {a:Act} {w:World} {next next':Act→World→Prop} {Q Q':Exit→Act→World→Prop} (hn:∀ a w,next a w→next' a w) (hq:∀ e a w,Q e a w→Q' e a w)
  (h:o.wp P a w next Q):o.wp P a w next' Q':=by
 unfold Oper.wp Oper.upon at *
 split at h
 ·exact hn _ _ h
 ·exact hn _ _ h
 ·exact hn _ _ h
 ·refine h.mono ?_
  intro e w' hr
  cases e with
  | returned v=>exact hn _ _ hr
  | panicked chain=>exact hq _ _ _ hr
  | outgrown=>obtain⟨a,w,k⟩:=hr; exact⟨a,w,hq _ _ _ k⟩
 ·exact h.mono fun v w' hr=>hn _ _ hr
 ·exact hq _ _ _ h
 ·exact h.elim
theorem bS {P:Program} {ops:Array Oper} {Q Q':Exit→Act→World→Prop} (is:List Nat) (hq:∀ e a w,Q e a w→Q' e a w):∀(a:Act) (w:World),wpOps P ops Q is a w→wpOps P ops Q' is a w:=by
 induction is with
 | nil=>intro a w h; exact hq _ _ _ h
 | cons i is ih=>
  intro a w h
  unfold wpOps at h ⊢
  split at h
  ·exact ih a w h
  ·split at h
   ·rename_i hw
    rw[if_pos hw]
    rcases h with h|⟨h1,a0,w0,h2⟩
    ·exact .inl (ol ih hq h)
    ·exact .inr ⟨h1,a0,w0,hq _ _ _ h2⟩
   ·rename_i hw
    rw[if_neg hw]
    exact ih _ w h
theorem dR [Dfr] {gl:ai} {n:Nat} {g:Gh} {e:Env} {H:aa} {a:Act} {w:World} (hst:St gl n g e H a w) {ops:Array Oper} {j:Nat} {d:Tmp} (hd:(ops[j]?).bind (·.dst)=some d) (hb:e d = .tup []):
  yielded ops a.tmps j=none:=by
 unfold yielded
 rw[hd]
 simp only[Option.bind_some]
 have hr:=hst.env.2 d
 rw[hb] at hr
 rcases Nat.lt_or_ge d a.tmps.size with hlt|hge
 ·rw[Array.getD_eq_getD_getElem?,Array.getElem?_eq_getElem hlt] at hr
  rw[Array.getElem?_eq_getElem hlt]
  simp only[Option.getD_some] at hr
  generalize a.tmps[d]=v at hr
  cases hr; rfl
 ·rw[Array.getElem?_eq_none hge]
theorem lT [Dfr] {P:Program} {gl:ai} {hn:Oper→Nat} {n:Nat} {ops:Array Oper} {K:Env→aa→Prop} (hd:ops.toList.all (fO n)=true):∀(is:List Nat) (l:List Oper) (g:Gh) (e:Env) (H:aa) (a:Act) (w:World),
  is.map (fun i=>ops[i]?)=l.map some→St gl n g e H a w→ji P gl hn ops l e H K→
  wpOps P ops (fun ex a' w'=>∃ g' e' H',ex = .normal∧St gl n g' e' H' a' w'∧Ext g H w g' H' w'∧K e' H') is a w:=by
 intro is
 induction is with
 | nil=>
  intro l g e H a w hl hst h
  have:l=[]:=by simpa using hl
  subst this
  exact⟨g,e,H,rfl,hst,.refl g H w,h⟩
 | cons i is ih=>
  intro l g e H a w hl hst h
  cases l with
  | nil=>simp at hl
  | cons o l=>
   simp only[List.map_cons,List.cons.injEq] at hl
   obtain⟨hi,hl⟩:=hl
   have hmem:o∈ops.toList:=by
    obtain⟨hlt,he⟩:=Array.getElem?_eq_some_iff.1 hi
    rw[← he]; exact Array.getElem_mem_toList hlt
   have hdo:∀ t,o.dst=some t→t<n:=by
    intro t ht
    have:=List.all_eq_true.1 hd o hmem
    simpa[fO,ht] using this
   have step:∀(K':PV→aa→Prop),(∀ x H',K' x H'→ji P gl hn ops l (upd e o.dst x) H' K)→opw P gl o.op (hn o) (ev gl e) H K'→
     o.wp P a w (wpOps P ops (fun ex a' w'=>∃ g' e' H',ex = .normal∧St gl n g' e' H' a' w'∧Ext g H w g' H' w'∧K e' H') is) (fun ex a' w'=>∃ g' e' H',ex = .normal∧St gl n g' e' H' a' w'∧Ext g H w g' H' w'∧K e' H'):=by
    intro K' hK' hop
    have hno:=eL hst.sim hst.glob (o:=o) (a:=a) (fun x=>hst.env.ev hst.glob x) hop
    have cont:∀(g1:Gh) (H1:aa) (w1:World) (x:PV) (v:Value),Sim g1 H1 w1→Ext g H w g1 H1 w1→Rel g1 w1 x v→K' x H1→
      wpOps P ops (fun ex a' w'=>∃ g' e' H',ex = .normal∧St gl n g' e' H' a' w'∧Ext g H w g' H' w'∧K e' H') is (a.put o.dst v) w1:=by
     intro g1 H1 w1 x v h1 h2 h3 h4
     have:=ih l g1 (upd e o.dst x) H1 (a.put o.dst v) w1 hl (hst.next h1 h2 h3 o.dst hdo) (hK' x H1 h4)
     refine bS _ ?_ _ _ this
     rintro ex a' w' ⟨g',e',H',rfl,k1,k2,k3⟩
     exact⟨g',e',H',rfl,k1,h2.trans k2,k3⟩
    unfold Oper.wp
    rcases hno with⟨v,w',g',H',x,h1,h2,h3,h4,h5⟩|⟨w',g',H',h1,h2,h3,h4⟩|⟨f,vs,h1,h2⟩
    ·rw[h1]; exact cont g' H' w' x v h2 h3 h4 h5
    ·rw[h1]; exact cont g' H' w' (.tup []) undef h2 h3 (bK g' w') h4
    ·rw[h1]
     refine h2.mono ?_
     rintro ex w' ⟨v,g',H',x,rfl,k1,k2,k3,k4⟩
     exact cont g' H' w' x v k1 k2 k3 k4
   unfold wpOps
   rw[hi]
   simp only
   unfold ji at h
   split at h
   ·rename_i hg
    have hw:Region.wanted o (yielded ops a.tmps)=true:=by simp[Region.wanted,hg]
    rw[if_pos hw]
    exact .inl (step _ (fun x H' hk=>hk) h)
   ·rename_i j want hg
    split at h
    ·rename_i d hd'
     split at h
     ·rename_i b hb
      have hy:yielded ops a.tmps j=some b:=by
       unfold yielded
       rw[hd']
       simp only[Option.bind_some]
       have hr:=hst.env.2 d
       rw[hb] at hr
       have hlt:d<a.tmps.size:=by
        rcases Nat.lt_or_ge d a.tmps.size with h|h
        ·exact h
        ·exfalso
         rw[Array.getD_eq_getD_getElem?,Array.getElem?_eq_none h] at hr
         simp only[Option.getD_none,undef] at hr
         cases hr
       rw[Array.getD_eq_getD_getElem?,Array.getElem?_eq_getElem hlt] at hr
       rw[Array.getElem?_eq_getElem hlt]
       simp only[Option.getD_some] at hr
       generalize a.tmps[d]=v at hr
       cases hr; rfl
      by_cases hbw:b=want
      ·have hw:Region.wanted o (yielded ops a.tmps)=true:=by simp[Region.wanted,hg,hy,hbw]
       rw[if_pos hw]
       exact .inl (step _ (fun x H' hk=>hk) (h.1 hbw))
      ·have hw:¬ Region.wanted o (yielded ops a.tmps)=true:=by simp[Region.wanted,hg,hy,hbw]
       rw[if_neg hw]
       have hbn:b = !want:=by cases b<;>cases want<;>simp_all
       have:=ih l g (upd e o.dst (.tup [])) H (a.put o.dst undef) w hl (hst.next hst.sim (.refl g H w) (bK g w) o.dst hdo) (h.2 hbn)
       exact this
     ·rename_i hb
      have hy:yielded ops a.tmps j=none:=dR hst hd' hb
      have hw:¬ Region.wanted o (yielded ops a.tmps)=true:=by simp[Region.wanted,hg,hy]
      rw[if_neg hw]
      exact ih l g (upd e o.dst (.tup [])) H (a.put o.dst undef) w hl (hst.next hst.sim (.refl g H w) (bK g w) o.dst hdo) h
     ·exact h.elim
    ·exact h.elim
theorem ed (ops:Array Oper):(List.range ops.size).map (fun i=>ops[i]?)=ops.toList.map some:=by
 apply List.ext_getElem?
 intro q
 by_cases hq:q<ops.size
 ·rw[List.getElem?_map,List.getElem?_range hq,List.getElem?_map]
  simp[hq]
 ·rw[List.getElem?_eq_none (by simp; omega),List.getElem?_eq_none (by simp; omega)]
theorem og [Dfr] {P:Program} {gl:ai} {n:Nat} {id:Nat} {ops:Array Oper} {Q:Ex→Env→aa→Prop} {e:Env} {H:aa} (hn:Oper→Nat) (h:ji P gl hn ops ops.toList e H (Q .normal)):AW P gl n (.region id ops false) Q e H:=by
 intro hd g a w hst
 refine wp_region (bS _ ?_ _ _ (lT (n:=n) hd _ _ g e H a w (ed ops) hst h))
 rintro ex a' w' ⟨g',e',H',rfl,k1,k2,k3⟩
 exact⟨.normal,g',e',H',trivial,k1,k2,k3⟩
theorem AW.mono [Dfr] {P:Program} {gl:ai} {n:Nat} {c:Code} {Q Q':Ex→Env→aa→Prop} {e:Env} {H:aa} (h:AW P gl n c Q e H) (hq:∀ ex e H,Q ex e H→Q' ex e H):AW P gl n c Q' e H:=
 fun hd g a w hst=>wp_mono (h hd g a w hst) fun _ _ _ ⟨ex',g',e',H',k0,k1,k2,k3⟩=>⟨ex',g',e',H',k0,k1,k2,hq _ _ _ k3⟩
theorem rz [Dfr] {P:Program} {gl:ai} {n:Nat} {Q:Ex→Env→aa→Prop} {e:Env} {H:aa} (h:Q .normal e H):AW P gl n .skip Q e H:=
 fun _ g _ w hst=>wp_skip ⟨.normal,g,e,H,trivial,hst,.refl g H w,h⟩
theorem oo [Dfr] {P:Program} {gl:ai} {n l:Nat} {Q:Ex→Env→aa→Prop} {e:Env} {H:aa} (h:Q .normal e H):AW P gl n (.label l) Q e H:=
 fun _ g _ w hst=>wp_label ⟨.normal,g,e,H,trivial,hst,.refl g H w,h⟩
theorem sw [Dfr] {P:Program} {gl:ai} {n id:Nat} {Q:Ex→Env→aa→Prop} {e:Env} {H:aa} (h:Q (.exit id) e H):AW P gl n (.exit id) Q e H:=
 fun _ g _ w hst=>wp_exit ⟨.exit id,g,e,H,rfl,hst,.refl g H w,h⟩
theorem uh [Dfr] {P:Program} {gl:ai} {n:Nat} {Q:Ex→Env→aa→Prop} {e:Env} {H:aa} (h:Q .ret e H):AW P gl n .ret Q e H:=
 fun _ g _ w hst=>wp_ret ⟨.ret,g,e,H,trivial,hst,.refl g H w,h⟩
theorem sE [Dfr] {P:Program} {gl:ai} {n:Nat} {c:Operand} {x y:Code} {Q:Ex→Env→aa→Prop} {e:Env} {H:aa} {b:Bool} (hc:ev gl e c = .bool b) (h1:b=true→AW P gl n x Q e H) (h2:b=false→AW P gl n y Q e H):
  AW P gl n (.cond c x y) Q e H:=by
 intro hd g a w hst
 simp only[bq,Bool.and_eq_true] at hd
 have hr:=hst.env.ev hst.glob c
 rw[hc] at hr
 have hv:a.eval c = .bool b:=by
  generalize a.eval c=v at hr
  cases hr; rfl
 refine wp_cond_split hv (fun hb=>h1 hb hd.1 g a w hst) (fun hb=>h2 hb hd.2 g a w hst)
inductive Kt where
 | fin (Q:Ex→Env→aa→Prop)
 | seq (b:Code) (k:Kt)
 | blk (id:Nat) (k:Kt)
 | lp (I:Nat→Env→aa→Prop) (m:Nat) (k:Kt)
def post [Dfr] (P:Program) (gl:ai) (n:Nat):Kt→Ex→Env→aa→Prop
 | .fin Q=>Q
 | .seq b k=>fun ex e H=>match ex with
  | .normal=>AW P gl n b (post P gl n k) e H
  | ex=>post P gl n k ex e H
 | .blk id k=>fun ex e H=>match ex with
  | .exit i=>if i=id then post P gl n k .normal e H else post P gl n k (.exit i) e H
  | ex=>post P gl n k ex e H
 | .lp I m k=>fun ex e H=>match ex with
  | .normal=>∃ m',m'<m∧I m' e H
  | ex=>post P gl n k ex e H
theorem jg [Dfr] (P:Program) (gl:ai) (n id i:Nat) (k:Kt) (e:Env) (H:aa):post P gl n (.blk id k) (.exit i) e H=if i=id then post P gl n k .normal e H else post P gl n k (.exit i) e H:=rfl
theorem uy [Dfr] {P:Program} {gl:ai} {n:Nat} {x y:Code} {k:Kt} {e:Env} {H:aa} (h:AW P gl n x (post P gl n (.seq y k)) e H):AW P gl n (.seq x y) (post P gl n k) e H:=by
 intro hd g a w hst
 simp only[bq,Bool.and_eq_true] at hd
 refine wp_seq (wp_mono (h hd.1 g a w hst) ?_)
 rintro ex a' w' ⟨ex',g',e',H',k0,k1,k2,k3⟩
 cases ex<;>cases ex'<;>first|exact k0.elim|skip
 ·refine wp_mono (k3 hd.2 g' a' w' k1) ?_
  rintro ex2 a2 w2 ⟨ex3,g3,e3,H3,j0,j1,j2,j3⟩
  exact⟨ex3,g3,e3,H3,j0,j1,k2.trans j2,j3⟩
 ·exact⟨.exit _,g',e',H',k0,k1,k2,k3⟩
 ·exact⟨.ret,g',e',H',k0,k1,k2,k3⟩
theorem oT [Dfr] {P:Program} {gl:ai} {n id:Nat} {x:Code} {k:Kt} {e:Env} {H:aa} (h:AW P gl n x (post P gl n (.blk id k)) e H):AW P gl n (.block id x) (post P gl n k) e H:=by
 intro hd g a w hst
 simp only[bq] at hd
 refine wp_block (wp_mono (h hd g a w hst) ?_)
 rintro ex a' w' ⟨ex',g',e',H',k0,k1,k2,k3⟩
 cases ex<;>cases ex'<;>first|exact k0.elim|skip
 ·exact⟨.normal,g',e',H',trivial,k1,k2,k3⟩
 ·rename_i i j
  simp only[tM] at k0
  subst k0
  simp only[post] at k3
  show(if i=id then _ else _)
  by_cases hi:i=id
  ·rw[if_pos hi] at k3 ⊢
   exact⟨.normal,g',e',H',trivial,k1,k2,k3⟩
  ·rw[if_neg hi] at k3 ⊢
   exact⟨.exit i,g',e',H',rfl,k1,k2,k3⟩
 ·exact⟨.ret,g',e',H',trivial,k1,k2,k3⟩
theorem rT [Dfr] {P:Program} {gl:ai} {n:Nat} {x:Code} {k:Kt} {e:Env} {H:aa} (I:Nat→Env→aa→Prop) (m0:Nat) (h0:I m0 e H)
  (round:∀ m e H,I m e H→AW P gl n x (post P gl n (.lp I m k)) e H):AW P gl n (.loop x) (post P gl n k) e H:=by
 intro hd g a w hst
 simp only[bq] at hd
 refine wp_loop_ghost (fun m a' w'=>∃ g' e' H',St gl n g' e' H' a' w'∧Ext g H w g' H' w'∧I m e' H') m0 ⟨g,e,H,hst,.refl g H w,h0⟩ ?_
 rintro m a1 w1 ⟨g1,e1,H1,hst1,hx1,hI⟩
 refine wp_mono (round m e1 H1 hI hd g1 a1 w1 hst1) ?_
 rintro ex a' w' ⟨ex',g',e',H',k0,k1,k2,k3⟩
 cases ex<;>cases ex'<;>first|exact k0.elim|skip
 ·obtain⟨m',hm,hI'⟩:=k3
  exact⟨m',hm,g',e',H',k1,hx1.trans k2,hI'⟩
 ·exact⟨.exit _,g',e',H',k0,k1,hx1.trans k2,k3⟩
 ·exact⟨.ret,g',e',H',k0,k1,hx1.trans k2,k3⟩
def kT (P:Program) (H:aa) (e:Env):List ResultVar→Option (List PV)
 | []=>some []
 | .tmp t::rs=>match kT P H e rs with
  | some xs=>some (e t::xs)
  | none=>none
 | .cell a t::rs=>match behind H (e a),tyA P t with
  | some cs,some (b,sz)=>match b5 b sz cs,kT P H e rs with
   | some y,some xs=>some (y::xs)
   | _,_=>none
  | _,_=>none
def q5 (P:Program) (rs:List ResultVar) (K:PV→aa→Prop):Ex→Env→aa→Prop
 | .normal,e,H| .ret,e,H=>match kT P H e rs with
  | some [x]=>K x H
  | some xs=>K (.tup xs) H
  | none=>False
 | _,_,_=>False
theorem kN [Dfr] {P:Program} {gl:ai} {n:Nat} {g:Gh} {e:Env} {H:aa} {a:Act} {w:World} (hst:St gl n g e H a w):∀(rs:List ResultVar) (xs:List PV),kT P H e rs=some xs→
  ∃ vs,(rs.mapM (fun(r:ResultVar)=>(match r with
   | .tmp t=>pure (a.tmps.getD t undef)
   | .cell b t=>do loadVar t (← asAddr (a.tmps.getD b undef)):Sem Value))).run P w = .ok vs w∧aq g w xs vs:=by
 intro rs
 induction rs with
 | nil=>intro xs h; cases h; exact⟨[],rfl,.nil⟩
 | cons r rs ih=>
  intro xs h
  cases r with
  | tmp t=>
   simp only[kT] at h
   split at h
   ·rename_i xs' hxs
    cases h
    obtain⟨vs,h1,h2⟩:=ih xs' hxs
    exact⟨a.tmps.getD t undef::vs,by simp only[List.mapM_cons,Sem.run_bind,Sem.run_pure,Result.andThen_ok,h1],.cons (hst.env.2 t) h2⟩
   ·cases h
  | cell b t=>
   simp only[kT] at h
   split at h
   ·rename_i cs bb sz hb ht
    split at h
    ·rename_i y xs' hl hxs
     cases h
     obtain⟨vs,h1,h2⟩:=ih xs' hxs
     obtain⟨A,hA,hrow⟩:=gJ hst.sim (hst.env.2 b) hb
     obtain⟨u,h3,h4⟩:=load_row (P:=P) hrow ht hl
     refine⟨u::vs,?_,.cons h4 h2⟩
     have e1:(do loadVar t (← asAddr (a.tmps.getD b undef)):Sem Value).run P w = .ok u w:=by
      rw[hA,Sem.run_bind]
      exact h3
     rw[List.mapM_cons,Sem.run_bind]
     simp only
     rw[e1]
     simp only[Result.andThen_ok,Sem.run_bind,h1,Sem.run_pure]
    ·cases h
   ·cases h
def lQ (args:List PV):Env:=fun t=>(args[t]?).getD (.tup [])
theorem ru [Dfr] {P:Program} {gl:ai} {n:Nat} {g:Gh} {e:Env} {H:aa} {a:Act} {w:World} {fn:Func} {K:PV→aa→Prop} (hst:St gl n g e H a w)
  (hk:match kT P H e fn.results.toList with|some [x]=>K x H|some xs=>K (.tup xs) H|none=>False):∃ v,(results fn a.tmps).run P w = .ok v w∧∃ x,Rel g w x v∧K x H:=by
 split at hk
 ·rename_i x hx
  obtain⟨us,h1,h2⟩:=kN (P:=P) hst _ _ hx
  obtain⟨u,rfl⟩:∃ u,us=[u]:=by
   have:=h2.1
   match us,this with
   | [u],_=>exact⟨u,rfl⟩
  refine⟨u,?_,x,h2.2 0 x u rfl rfl,hk⟩
  unfold results
  rw[Array.mapM_eq_mapM_toList,Sem.run_bind,Sem.run_map]
  refine Eq.trans (congrArg (fun z:Result (List Value)=>(z.andThen fun a w'=>Result.ok a.toArray w').andThen fun a w'=>Sem.run P (pure (if h:a.size=1 then a[0] else Value.tuple a)) w') h1) ?_
  rfl
 ·rename_i xs hne hx
  obtain⟨us,h1,h2⟩:=kN (P:=P) hst _ _ hx
  refine⟨.tuple us.toArray,?_,.tup xs,Rel.bJ.2 ⟨_,rfl,by simpa using h2⟩,hk⟩
  unfold results
  rw[Array.mapM_eq_mapM_toList,Sem.run_bind,Sem.run_map]
  refine Eq.trans (congrArg (fun z:Result (List Value)=>(z.andThen fun a w'=>Result.ok a.toArray w').andThen fun a w'=>Sem.run P (pure (if h:a.size=1 then a[0] else Value.tuple a)) w') h1) ?_
  simp only[Result.andThen_ok]
  have hne1:us.toArray.size≠1:=by
   intro h
   simp at h
   have hl:=h2.1
   rw[h] at hl
   match xs,hl,hne with
   | [x],_,hne=>exact hne x rfl
  rw[dif_neg hne1]
  rfl
 ·exact hk.elim
theorem qs {gl:ai} {n:Nat} {g:Gh} {args:List PV} {H:aa} {w:World} {vs:Array Value} (hS:Sim g H w) (hG:bL g w gl) (hR:aq g w args vs.toList) (hsz:args.length≤n):
  St gl n g (lQ args) H { tmps:=vs++Array.replicate (n-vs.size) undef,defers:=[] } w:=by
 have hlen:vs.size=args.length:=by have:=hR.1; simp at this; omega
 refine⟨hS,hG,⟨by simp; omega,fun t=>?_⟩,rfl⟩
 simp only[lQ,Array.getD_eq_getD_getElem?]
 by_cases ht:t<args.length
 ·rw[List.getElem?_eq_getElem ht,Array.getElem?_append_left (by omega)]
  simp only[Option.getD_some]
  obtain⟨v,hv,hr⟩:=hR.get (List.getElem?_eq_getElem ht)
  rw[Array.getElem?_toList] at hv
  rw[hv]; exact hr
 ·rw[List.getElem?_eq_none (by omega)]
  simp only[Option.getD_none]
  rw[Array.getElem?_append_right (by omega)]
  have:(Array.replicate (n-vs.size) undef)[t-vs.size]?.getD undef=undef:=by
   rw[Array.getElem?_replicate]; split<;>rfl
  rw[this]; exact bK g w
theorem me {P:Program} {gl:ai} {fn:Func} {c:Code} (hd:bq fn.ntmps c=true) {args:List PV} (hsz:args.length≤fn.ntmps) {H:aa} {K:PV→aa→Prop}
  (h:AW P gl fn.ntmps c (post P gl fn.ntmps (.fin (q5 P fn.results.toList K))) (lQ args) H) {g:Gh} {w:World} {vs:Array Value} (hS:Sim g H w) (hG:bL g w gl) (hR:aq g w args vs.toList):
  c.wp P (bodyPost P fn fun e w'=>∃ v g' H' x,e = .returned v∧Sim g' H' w'∧Ext g H w g' H' w'∧Rel g' w' x v∧K x H') { tmps:=vs++Array.replicate (fn.ntmps-vs.size) undef,defers:=[] } w:=by
 refine wp_mono (h hd g _ w (qs hS hG hR hsz)) ?_
 rintro ex a' w' ⟨ex',g',e',H',k0,k1,k2,k3⟩
 have fin:(match kT P H' e' fn.results.toList with|some [x]=>K x H'|some xs=>K (.tup xs) H'|none=>False)→
   a'.defers=[]∧∃ v,(results fn a'.tmps).run P w' = .ok v w'∧∃ v1 g1 H1 x,Ending.returned v = .returned v1∧Sim g1 H1 w'∧Ext g H w g1 H1 w'∧Rel g1 w' x v1∧K x H1:=by
  intro hk
  obtain⟨v,h1,x,h2,h3⟩:=ru k1 hk
  exact⟨k1.dfr,v,h1,v,g',H',x,rfl,k1.sim,k2,h2,h3⟩
 cases ex<;>cases ex'<;>first|exact k0.elim|skip
 ·exact fin k3
 ·exact k3.elim
 ·exact fin k3
theorem j7 {P:Program} {gl:ai} {f:FuncId} {fn:Func} {c:Code} (hf:P.funcs[f]?=some fn) (hb:fn.body=some c) (hd:bq fn.ntmps c=true) {args:List PV} (hsz:args.length≤fn.ntmps) {H:aa} {K:PV→aa→Prop}
  (h:AW P gl fn.ntmps c (post P gl fn.ntmps (.fin (q5 P fn.results.toList K))) (lQ args) H):af P gl f args H K:=
 fun _ _ _ hS hG hR=>calls_of_wp hf hb (me hd hsz h hS hG hR)
theorem gr {P:Program} {gl:ai} {op:Op} {m:Nat} {ρ ρ':Operand→PV} {H:aa} {K:PV→aa→Prop} (hρ:∀ x∈op.operands,ρ x=ρ' x) (h:opw P gl op m ρ H K):opw P gl op m ρ' H K:=by
 have parts:∀(ps:Array (Nat×Operand)),(∀ x∈(ps.toList.map (·.2)).toArray,ρ x=ρ' x)→(ps.toList.map fun p=>(p.1,ρ p.2))=(ps.toList.map fun p=>(p.1,ρ' p.2)):=by
  intro ps hp
  apply List.map_congr_left
  intro p hpm
  rw[hp p.2 (by simp only[List.mem_toArray,List.mem_map]; exact⟨p,hpm,rfl⟩)]
 cases op<;>simp only[Op.operands] at hρ<;>simp only[opw] at h ⊢
 case move x=>rwa [hρ x (by simp)] at h
 case assign x=>rwa [hρ x (by simp)] at h
 case pick c a b=>rwa [hρ c (by simp),hρ a (by simp),hρ b (by simp)] at h
 case alloc t=>exact h
 case box t x=>rwa [hρ x (by simp)] at h
 case build t ps=>rwa [parts ps hρ] at h
 case buildSlice t l ps=>rwa [parts ps hρ] at h
 case load t x=>rwa [hρ x (by simp)] at h
 case store t x y=>rwa [hρ x (by simp),hρ y (by simp)] at h
 case nilCheck x=>rwa [hρ x (by simp)] at h
 case binOp op t x y yt=>rwa [hρ x (by simp),hρ y (by simp)] at h
 case unOp op t x=>rwa [hρ x (by simp)] at h
 case convert s d x=>rwa [hρ x (by simp)] at h
 case makeFunc fn first caps=>
  have:caps.toList.map ρ=caps.toList.map ρ':=List.map_congr_left fun x hx=>hρ x (by simp at hx; simp[hx])
  rwa [this] at h
 case makeSlice t l c=>rwa [hρ l (by simp),hρ c (by simp)] at h
 case slice t x lo hi mx=>
  have e1:lo.map ρ=lo.map ρ':=by cases lo with
   | none=>rfl
   | some y=>simp only[Option.map_some]; rw[hρ y (by simp)]
  have e2:hi.map ρ=hi.map ρ':=by cases hi with
   | none=>rfl
   | some y=>simp only[Option.map_some]; rw[hρ y (by simp)]
  have e3:mx.map ρ=mx.map ρ':=by cases mx with
   | none=>rfl
   | some y=>simp only[Option.map_some]; rw[hρ y (by simp)]
  rwa [hρ x (by simp),e1,e2,e3] at h
 case fieldAddr s x f=>rwa [hρ x (by simp)] at h
 case field s x f=>rwa [hρ x (by simp)] at h
 case indexAddr t x i=>rwa [hρ x (by simp),hρ i (by simp)] at h
 case index t x i=>rwa [hρ x (by simp),hρ i (by simp)] at h
 case extract t i=>rwa [hρ t (by simp)] at h
 case call c=>
  have ha:c.args.toList.map ρ=c.args.toList.map ρ':=List.map_congr_left fun x hx=>hρ x (by simp at hx; simp[Call.operands,hx])
  unfold a8 at h ⊢
  rw[ha] at h
  split at h
  ·rename_i f hc
   have:ρ f=ρ' f:=hρ f (by simp[Call.operands,hc])
   rwa [this] at h
  ·exact h
  ·exact h.elim
inductive Cl where
 | p|l|r|a|w
 deriving DecidableEq
def cl (m:Nat):Op→Option Cl
 | .move _| .assign _| .pick .. | .build .. | .buildSlice .. | .nilCheck _| .unOp .. | .convert .. | .makeFunc .. | .slice .. | .fieldAddr .. | .field .. | .indexAddr .. | .index .. | .extract .. => some .p
 | .binOp _ _ _ y _=>if bT y then none else some .p
 | .load .. => some .l
 | .alloc _| .box .. => some .a
 | .store .. => some .w
 | .call c=>match c.callee with
  | .value _=>if m=5 then some .r else if m=6 then some .a else if m=7 then some .w else some .p
  | .builtin b=>match b with
   | .len| .cap| .min| .max=>some .p
   | .append=>if m=0 then some .p else if m=1 then some .a else if m=3 then some .w else if m=4 then some .a else if m=9 then some .p else none
   | .copy| .clear=>some .w
   | _=>none
  | _=>none
 | _=>none
def eM:List PV→Bool
 | .list _ _::_=>true
 | _=>false
def jd (P:Program) (gl:ai) (f:FuncId) (args:List PV) (r:PV):Prop:=∀ H,af P gl f args H fun x H'=>x=r∧H'=H
def keeps (H H':aa):Prop:=∀(o:Nat) (cs:List PV),H[o]?=some (.cells cs)→H'[o]?=some (.cells cs)
def fk (P:Program) (gl:ai) (f:FuncId) (args:List PV) (m:Nat) (H:aa) (K:PV→aa→Prop):Prop:=
 if m=6 then ∃ r H',af P gl f args H (fun x H1=>x=r∧H1=H')∧keeps H H'∧K r H'
 else if m=7 then ∃ r H',af P gl f args H (fun x H1=>x=r∧H1=H')∧K r H'
 else ∃ r,(if m=5 then af P gl f args H (fun x H'=>x=r∧H'=H) else jd P gl f args r)∧K r H
def gX (P:Program) (gl:ai) (op:Op) (m:Nat) (ρ:Operand→PV) (H:aa) (K:PV→aa→Prop):Prop:=
 match op with
 | .call c=>match c.callee with
  | .value f=>match ρ f with
   | .fn k caps=>cg P k=true∧fk P gl k (c.args.toList.map ρ++caps) m H K
   | _=>False
  | .builtin b=>(b ≠ .append∨eM (c.args.toList.map ρ)=true∨m=3)∧au P b c.argTypes (c.args.toList.map ρ) m H K
  | _=>False
 | op=>opw P gl op m ρ H K
def fD (P:Program) (gl:ai) (op:Op) (m:Nat) (ρ:Operand→PV) (H:aa) (r:PV) (H':aa):Prop:=
 opw P gl op m ρ H (fun x H1=>x=r∧H1=H')∧match cl m op with
  | some .p=>H'=H∧∀ H2,opw P gl op m ρ H2 (fun x H1=>x=r∧H1=H2)
  | some .l=>H'=H
  | some .r=>H'=H
  | some .a=>keeps H H'
  | some .w=>True
  | none=>False
theorem cX (H:aa) (x:Ob):keeps H (H++[x]):=fun o cs h=>by
 rw[List.getElem?_append_left (List.getElem?_eq_some_iff.1 h).1]; exact h
theorem jw {H:aa} {o:Nat} (ho:H[o]?=some .tok) (x:Ob):keeps H (H.set o .dead++[x]):=fun o' cs h=>by
 have hl:o'<H.length:=(List.getElem?_eq_some_iff.1 h).1
 rw[List.getElem?_append_left (by simpa using hl),List.getElem?_set]
 by_cases e:o=o'
 ·subst e; rw[ho] at h; cases h
 ·rw[if_neg e]; exact h
theorem aB {P:Program} {gl:ai} {op:Op} {m:Nat} {ρ:Operand→PV} {H:aa} {r:PV} (hc:cl m op=some .p) (h:∀ H2,opw P gl op m ρ H2 (fun x H1=>x=r∧H1=H2)):fD P gl op m ρ H r H:=
 ⟨h H,by rw[hc]; exact⟨rfl,h⟩⟩
theorem jA {P:Program} {gl:ai} {op:Op} {m:Nat} {ρ:Operand→PV} {H:aa} {K:PV→aa→Prop} (hcl:(cl m op).isSome=true) (h:gX P gl op m ρ H K):
  ∃ r H',K r H'∧fD P gl op m ρ H r H':=by
 have triv:∀(r:PV) (H:aa),r=r∧H=H:=fun _ _=>⟨rfl,rfl⟩
 cases op<;>simp only[cl,Option.isSome_none,Bool.false_eq_true] at hcl<;>simp only[gX,opw] at h
 case move x=>exact⟨_,H,h,aB rfl (fun H2=>triv _ _)⟩
 case assign x=>exact⟨_,H,h,aB rfl (fun H2=>triv _ _)⟩
 case pick c a b=>
  split at h
  ·rename_i t ht; exact⟨_,H,h,aB rfl (fun H2=>by simp only[opw,ht]; exact⟨trivial,trivial⟩)⟩
  ·exact h.elim
 case alloc t=>
  split at h
  ·rename_i cs hz
   exact⟨_,_,h,by simp only[opw,hz]; exact⟨trivial,trivial⟩,cX H _⟩
  ·exact h.elim
 case box t x=>
  split at h
  ·rename_i cs hz
   exact⟨_,_,h,by simp only[opw,hz]; exact⟨trivial,trivial⟩,cX H _⟩
  ·exact h.elim
 case build t ps=>
  split at h
  ·rename_i cs hz; exact⟨_,H,h,aB rfl (fun H2=>by simp only[opw,hz]; exact⟨trivial,trivial⟩)⟩
  ·exact h.elim
 case buildSlice t l ps=>
  split at h
  ·rename_i b sz by_ et hel
   split at h
   ·rename_i z hz
    obtain⟨h1,h2,h3,h⟩:=h
    split at h
    ·rename_i es he
     exact⟨_,H,h,aB rfl (fun H2=>by simp only[opw,hel,hz,he]; exact⟨h1,h2,h3,⟨trivial,trivial⟩⟩)⟩
    ·exact h.elim
   ·exact h.elim
  ·exact h.elim
 case load t x=>
  split at h
  ·rename_i cs b sz hb ht
   split at h
   ·rename_i y hl
    exact⟨_,H,h.2,by simp only[opw,hb,ht,hl]; exact⟨h.1,trivial,trivial⟩,rfl⟩
   ·exact h.elim
  ·exact h.elim
 case store t x y=>
  split at h
  ·rename_i o off b sz xs hx ht hc
   split at h
   ·rename_i cs ho
    obtain⟨h1,h2,h3,h4⟩:=h
    exact⟨_,_,h4,by simp only[opw,hx,ht,hc,ho]; exact⟨h1,h2,h3,⟨trivial,trivial⟩⟩,trivial⟩
   ·exact h.elim
  ·exact h.elim
 case nilCheck x=>
  split at h
  ·rename_i o off hx; exact⟨_,H,h,aB rfl (fun H2=>by simp only[opw,hx]; exact⟨trivial,trivial⟩)⟩
  ·rename_i cs hx; exact⟨_,H,h,aB rfl (fun H2=>by simp only[opw,hx]; exact⟨trivial,trivial⟩)⟩
  ·rename_i f caps hx; exact⟨_,H,h,aB rfl (fun H2=>by simp only[opw,hx]; exact⟨trivial,trivial⟩)⟩
  ·exact h.elim
 case binOp op t x y yt=>
  have hny:bT y=false:=by
   cases hn:bT y
   ·rfl
   ·rw[hn] at hcl; simp at hcl
  rw[hny] at h
  simp only[Bool.false_eq_true,if_false] at h
  have intdet:∀ {k k':IntKind} {a b:Int} {K:PV→Prop},ij op k a k' b K→∃ r,K r∧∀ K':PV→Prop,K' r→ij op k a k' b K':=by
   intro k k' a b K hk
   cases op<;>simp only[ij] at hk ⊢
   case quo=>exact⟨_,hk.2.2,fun K' hK=>⟨hk.1,hk.2.1,hK⟩⟩
   case rem=>exact⟨_,hk.2.2,fun K' hK=>⟨hk.1,hk.2.1,hK⟩⟩
   all_goals exact⟨_,hk.2,fun K' hK=>⟨hk.1,hK⟩⟩
  have det:∀ {x y:PV} {K:PV→Prop},gj P op t x y K→∃ r,K r∧∀ K':PV→Prop,K' r→gj P op t x y K':=by
   intro x y K hk
   unfold gj at hk
   split at hk
   ·obtain⟨r,h1,h2⟩:=intdet hk
    exact⟨r,h1,fun K' hK=>h2 K' hK⟩
   ·split at hk
    ·exact⟨_,hk,fun K' hK=>hK⟩
    ·exact⟨_,hk,fun K' hK=>hK⟩
    ·exact hk.elim
   ·obtain⟨ht,hk⟩:=hk
    split at hk
    ·exact⟨_,hk,fun K' hK=>⟨ht,hK⟩⟩
    ·exact⟨_,hk,fun K' hK=>⟨ht,hK⟩⟩
    ·exact hk.elim
   ·obtain⟨ht,hk⟩:=hk
    split at hk
    ·exact⟨_,hk,fun K' hK=>⟨ht,hK⟩⟩
    ·exact⟨_,hk,fun K' hK=>⟨ht,hK⟩⟩
    ·exact hk.elim
   ·obtain⟨ht,hk⟩:=hk
    split at hk
    ·exact⟨_,hk,fun K' hK=>⟨ht,hK⟩⟩
    ·exact⟨_,hk,fun K' hK=>⟨ht,hK⟩⟩
    ·exact hk.elim
   ·obtain⟨ht,hk⟩:=hk
    split at hk
    ·exact⟨_,hk,fun K' hK=>⟨ht,hK⟩⟩
    ·exact⟨_,hk,fun K' hK=>⟨ht,hK⟩⟩
    ·exact hk.elim
   ·rename_i xs ys
    obtain⟨h1,h2,h3,h4,hk⟩:=hk
    split at hk
    ·rename_i b hb
     split at hk
     ·exact⟨_,hk,fun K' hK=>by simp only[gj,hb]; exact⟨h1,h2,h3,h4,hK⟩⟩
     ·exact⟨_,hk,fun K' hK=>by simp only[gj,hb]; exact⟨h1,h2,h3,h4,hK⟩⟩
     ·exact hk.elim
    ·exact hk.elim
   ·exact hk.elim
  obtain⟨r,h1,h2⟩:=det h
  exact⟨r,H,h1,aB (by simp[cl,hny]) (fun H2=>by simp only[opw,hny,Bool.false_eq_true,if_false]; exact h2 _ ⟨rfl,trivial⟩)⟩
 case unOp op t x=>
  split at h
  ·rename_i y hy; exact⟨_,H,h,aB rfl (fun H2=>by simp only[opw,hy]; exact⟨trivial,trivial⟩)⟩
  ·exact h.elim
 case convert s d x=>
  split at h
  ·rename_i y hy; exact⟨_,H,h,aB rfl (fun H2=>by simp only[opw,hy]; exact⟨trivial,trivial⟩)⟩
  ·exact h.elim
 case makeFunc fn first caps=>
  split at h
  ·rename_i f
   exact⟨_,H,h.2,aB rfl (fun H2=>by simp only[opw]; exact⟨h.1,⟨trivial,trivial⟩⟩)⟩
  ·exact h.elim
 case slice t x lo hi mx=>
  split at h
  ·rename_i b sz by_ et es tl hel hx
   split at h
   ·rename_i l h' m' e1 e2 e3
    obtain⟨h1,h2,h3,h4,h5,h6,hk⟩:=h
    exact⟨_,H,hk,aB rfl (fun H2=>by simp only[opw,hel,hx,e1,e2,e3]; exact⟨h1,h2,h3,h4,h5,h6,⟨trivial,trivial⟩⟩)⟩
   ·exact h.elim
  ·rename_i b sz by_ et o' off len cap hel hx
   split at h
   ·rename_i l h' m' e1 e2 e3
    obtain⟨h1,h2,h3,h4,h5,hk⟩:=h
    exact⟨_,H,hk,aB rfl (fun H2=>by simp only[opw,hel,hx,e1,e2,e3]; exact⟨h1,h2,h3,h4,h5,⟨trivial,trivial⟩⟩)⟩
   ·exact h.elim
  ·exact h.elim
 case fieldAddr s x f=>
  split at h
  ·rename_i off b sz hf
   split at h
   ·rename_i y hy; exact⟨_,H,h,aB rfl (fun H2=>by simp only[opw,hf,hy]; exact⟨trivial,trivial⟩)⟩
   ·exact h.elim
  ·exact h.elim
 case field s x f=>
  split at h
  ·rename_i off b sz cs hf hx
   split at h
   ·rename_i y hy; exact⟨_,H,h,aB rfl (fun H2=>by simp only[opw,hf,hx,hy]; exact⟨trivial,trivial⟩)⟩
   ·exact h.elim
  ·exact h.elim
 case indexAddr t x i=>
  split at h
  ·rename_i b sz by_ et k n hel hi
   split at h
   ·rename_i es tl hx
    obtain⟨h0,h⟩:=h
    split at h
    ·rename_i e he
     exact⟨_,H,h.2.2,aB rfl (fun H2=>by simp only[opw,hel,hi,hx,he]; exact⟨h0,h.1,h.2.1,⟨trivial,trivial⟩⟩)⟩
    ·exact h.elim
   ·rename_i o' off len cap hx
    exact⟨_,H,h.2.2,aB rfl (fun H2=>by simp only[opw,hel,hi,hx]; exact⟨h.1,h.2.1,⟨trivial,trivial⟩⟩)⟩
   ·exact h.elim
  ·rename_i mm b sz by_ et k n hel hi
   obtain⟨h0,h1,h⟩:=h
   split at h
   ·rename_i y hy; exact⟨_,H,h,aB rfl (fun H2=>by simp only[opw,hel,hi,hy]; exact⟨h0,h1,⟨trivial,trivial⟩⟩)⟩
   ·exact h.elim
  ·exact h.elim
 case index t x i=>
  split at h
  ·rename_i mm b sz by_ et cs k n hel hx hi
   obtain⟨h0,h1,h⟩:=h
   split at h
   ·rename_i y hy; exact⟨_,H,h,aB rfl (fun H2=>by simp only[opw,hel,hx,hi,hy]; exact⟨h0,h1,⟨trivial,trivial⟩⟩)⟩
   ·exact h.elim
  ·exact h.elim
 case extract t i=>
  split at h
  ·rename_i vs ht
   split at h
   ·rename_i y hy; exact⟨_,H,h,aB rfl (fun H2=>by simp only[opw,ht,hy]; exact⟨trivial,trivial⟩)⟩
   ·exact h.elim
  ·exact h.elim
 case call c=>
  split at h
  ·rename_i f hc
   split at h
   ·rename_i k caps hf
    obtain⟨hcall,h⟩:=h
    unfold fk at h
    by_cases h6:m=6
    ·rw[if_pos h6] at h
     obtain⟨r,H',hr,hkp,hk⟩:=h
     refine⟨r,H',hk,?_,?_⟩
     ·simp only[opw,a8,hc,hf]; exact .inl ⟨hcall,hr⟩
     ·simp only[cl,hc]; rw[if_neg (by omega),if_pos h6]; exact hkp
    rw[if_neg h6] at h
    by_cases h7:m=7
    ·rw[if_pos h7] at h
     obtain⟨r,H',hr,hk⟩:=h
     refine⟨r,H',hk,?_,?_⟩
     ·simp only[opw,a8,hc,hf]; exact .inl ⟨hcall,hr⟩
     ·simp only[cl,hc]; rw[if_neg (by omega),if_neg h6,if_pos h7]; trivial
    rw[if_neg h7] at h
    obtain⟨r,hr,hk⟩:=h
    by_cases hm:m=5
    ·rw[if_pos hm] at hr
     refine⟨r,H,hk,?_,?_⟩
     ·simp only[opw,a8,hc,hf]; exact .inl ⟨hcall,hr⟩
     ·simp only[cl,hc]; rw[if_pos hm]; trivial
    ·rw[if_neg hm] at hr
     exact⟨r,H,hk,aB (by simp only[cl,hc]; rw[if_neg hm,if_neg h6,if_neg h7]) (fun H2=>by simp only[opw,a8,hc,hf]; exact .inl ⟨hcall,hr H2⟩)⟩
   ·exact h.elim
  ·rename_i b hc
   obtain⟨hb,h⟩:=h
   simp only[hc] at hcl
   unfold au at h
   split at h
   ·split at h
    ·rename_i t x ht
     split at h
     ·rename_i n hn
      exact⟨_,H,h,aB (by simp only[cl,hc]) (fun H2=>by simp only[opw,a8,au, *]; exact⟨trivial,trivial⟩)⟩
     ·exact h.elim
    ·exact h.elim
   ·split at h
    ·rename_i t o off len cap ht hargs
     exact⟨_,H,h.2,aB (by simp only[cl,hc]) (fun H2=>by simp only[opw,a8,hc,au,ht,hargs]; exact⟨h.1,⟨trivial,trivial⟩⟩)⟩
    ·rename_i t es ht hargs
     exact⟨_,H,h.2,aB (by simp only[cl,hc]) (fun H2=>by simp only[opw,a8,hc,au,ht,hargs]; exact⟨h.1,⟨trivial,trivial⟩⟩)⟩
    ·exact h.elim
   ·split at h
    ·rename_i z hz
     exact⟨_,H,h,aB (by simp only[cl,hc]) (fun H2=>by simp only[opw,a8,hc,au,hz]; exact⟨trivial,trivial⟩)⟩
    ·exact h.elim
   ·split at h
    ·rename_i z hz
     exact⟨_,H,h,aB (by simp only[cl,hc]) (fun H2=>by simp only[opw,a8,hc,au,hz]; exact⟨trivial,trivial⟩)⟩
    ·exact h.elim
   ·
    split at h
    ·rename_i sz by_ z es tl y ha hargs
     simp only at hcl
     split at h
     ·simp at hcl
     ·simp at hcl
     ·rename_i hm2 hm10
      split at h
      ·rename_i ys tly
       obtain⟨h1,h2,h3,h4⟩:=h
       split at h4
       ·obtain⟨h5,h6,h7⟩:=h4
        split at h7
        ·refine⟨_,_,h7,?_,?_⟩
         ·simp only[opw,a8,hc,au,ha,hargs]; exact⟨h1,h2,h3,h5,h6,⟨trivial,trivial⟩⟩
         ·simp only[cl,hc]; exact cX H _
        ·rename_i o
         refine⟨_,_,h7.2,?_,?_⟩
         ·simp only[opw,a8,hc,au,ha,hargs]; exact⟨h1,h2,h3,h5,h6,h7.1,⟨trivial,trivial⟩⟩
         ·simp only[cl,hc]; exact jw h7.1 _
        ·exact h7.elim
       ·obtain⟨h5,h6,h7⟩:=h4
        by_cases h0:ys=[]
        ·subst h0
         refine⟨_,_,h6 rfl,?_,?_⟩
         ·simp only[opw,a8,hc,au,ha,hargs]; exact⟨h1,h2,h3,h5,fun _=>⟨trivial,trivial⟩,fun k=>absurd rfl k⟩
         ·simp only[cl,hc]; exact fun _ _ k=>k
        ·have h7:=h7 h0
         split at h7
         ·refine⟨_,_,h7,?_,?_⟩
          ·simp only[opw,a8,hc,au,ha,hargs]; exact⟨h1,h2,h3,h5,fun k=>absurd k h0,fun _=>⟨trivial,trivial⟩⟩
          ·simp only[cl,hc]; exact cX H _
         ·rename_i o
          refine⟨_,_,h7.2,?_,?_⟩
          ·simp only[opw,a8,hc,au,ha,hargs]; exact⟨h1,h2,h3,h5,fun k=>absurd k h0,fun _=>⟨h7.1,⟨trivial,trivial⟩⟩⟩
          ·simp only[cl,hc]; exact jw h7.1 _
         ·exact h7.elim
       ·obtain⟨h5,hk⟩:=h4
        subst h5
        exact⟨_,H,hk,aB (by simp[cl,hc]) (fun H2=>by simp only[opw,a8,hc,au,ha,hargs]; exact⟨h1,h2,h3,trivial,⟨trivial,trivial⟩⟩)⟩
       ·rename_i hm1 hm4 hm9
        obtain⟨rfl,hk⟩:=h4
        have hm03:m=0∨m=3:=by
         rcases Decidable.em (m=0) with e|e
         ·exact .inl e
         ·rcases Decidable.em (m=3) with e3|e3
          ·exact .inr e3
          ·rw[if_neg e,if_neg hm1,if_neg e3,if_neg hm4,if_neg hm9] at hcl; simp at hcl
        rcases hm03 with hm0|hm0
        case inr=>
         subst hm0
         refine⟨_,H,hk,?_,?_⟩
         ·simp only[opw,a8,hc,au,ha,hargs]; exact⟨h1,h2,h3,trivial,⟨trivial,trivial⟩⟩
         ·simp only[cl,hc]; exact trivial
        subst hm0
        exact⟨_,H,hk,aB (by simp only[cl,hc]; rfl) (fun H2=>by simp only[opw,a8,hc,au,ha,hargs]; exact⟨h1,h2,h3,trivial,⟨trivial,trivial⟩⟩)⟩
      ·exact h.elim
    ·rename_i sz by_ z o off len cap y ha hargs
     have hm3:m=3:=by
      rcases hb with hb|hb|hb
      ·exact absurd rfl hb
      ·rw[hargs] at hb; simp[eM] at hb
      ·exact hb
     subst hm3
     split at h
     ·rename_i cs' ys n ho hs
      obtain⟨h1,h2,h3,h4,h5,h6,h7⟩:=h
      refine⟨_,_,h7,?_,?_⟩
      ·simp only[opw,a8,hc,au,ha,hargs,ho,hs]; exact⟨h1,h2,h3,h4,h5,h6,⟨trivial,trivial⟩⟩
      ·simp only[cl,hc]; exact trivial
     ·exact h.elim
    ·rename_i o off len cap kd n ha hargs
     split at h
     ·obtain⟨_,_,_,_,_,hm,_⟩:=h
      subst hm
      rcases hb with hb|hb|hb
      ·exact absurd rfl hb
      ·rw[hargs] at hb; simp[eM] at hb
      ·cases hb
     ·exact h.elim
    ·rename_i es tl kd n ha hargs
     split at h
     ·obtain⟨_,_,_,_,hm,_⟩:=h
      subst hm
      simp at hcl
     ·exact h.elim
    ·exact h.elim
   ·
    split at h
    ·rename_i t o off len cap y ht hargs
     split at h
     ·rename_i b' sz by_ et hel
      split at h
      ·rename_i cs' ys n ho hs
       obtain⟨h1,h2,h3,h4⟩:=h
       refine⟨_,_,h4,?_,?_⟩
       ·simp only[opw,a8,hc,au,ht,hargs,hel,ho,hs]; exact⟨h1,h2,h3,⟨trivial,trivial⟩⟩
       ·simp only[cl,hc]
      ·exact h.elim
     ·exact h.elim
    ·exact h.elim
   ·
    split at h
    ·rename_i t o off len cap ht hargs
     split at h
     ·rename_i b' sz by_ et hel
      split at h
      ·rename_i cs' z ho hz
       obtain⟨h1,h2,h3,h4⟩:=h
       refine⟨_,_,h4,?_,?_⟩
       ·simp only[opw,a8,hc,au,ht,hargs,hel,ho,hz]; exact⟨h1,h2,h3,⟨trivial,trivial⟩⟩
       ·simp only[cl,hc]
      ·exact h.elim
     ·exact h.elim
    ·exact h.elim
   ·exact h.elim
  ·exact h.elim
end Go.AM
