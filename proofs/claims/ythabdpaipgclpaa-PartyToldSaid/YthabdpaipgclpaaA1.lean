/-
  An abstract machine over values without memory, proved against the model; part 1. A tool for the proofs of this claim; it states nothing of the program.
-/
import Derived.Calls
import Derived.KernelRfl
import Derived.Laws.Sem
import Derived.Laws.World
import Derived.Laws.StructEq
/-! AM, part 1: pure values, their reading in a world, the relation's growth. -/
namespace Go.AM
open Go

/-- What is known of a list's spare room. -/
inductive Tail where
  | no
  | exact
  | tok (o : Nat)

/-- Values without memory: what a list holds stands in it. -/
inductive PV where
  | any
  | bool (b : Bool)
  | int (k : IntKind) (n : Int)
  | str (s : ByteArray)
  | list (es : List (List PV)) (t : Tail)
  | arr (o off len cap : Nat)
  | ptr (o off : Nat)
  | iptr (cs : List PV)
  | nilptr
  | nilfn
  | fn (f : Nat) (caps : List PV)
  | agg (cs : List PV)
  | tup (vs : List PV)

/-- What a whole of blocks stands for: told of the world, of the cells that never change, of its first block, of all its blocks. -/
structure Rep where
  R : World → (Nat → Nat → Prop) → Nat → (Nat → Prop) → Prop
  st : ∀ {w w' : World} {imm imm' : Nat → Nat → Prop} {b : Nat} {F : Nat → Prop}, R w imm b F → (∀ b', F b' → w'.heap[b']? = w.heap[b']?) → (∀ b' q, imm b' q → imm' b' q) →
    (∀ b' q, imm b' q → w'.cell? ⟨b', q, none⟩ = w.cell? ⟨b', q, none⟩) → (∀ b' q, F b' → ¬ imm' b' q) → w.heap.size ≤ w'.heap.size → (∀ b' q, imm' b' q → b' < w'.heap.size) → R w' imm' b F

/-- An object of the call's own: a block of cells; a block whose cells behind a list's end are spare; nothing any more; a whole of blocks, told by what it stands for. -/
inductive Ob where
  | cells (cs : List PV)
  | tok
  | dead
  | abs (r : Rep)

abbrev Heap := List Ob
abbrev Env := Nat → PV

/-- The ghost: which block an object is, where a list's end is, which cells never change. -/
structure Gh where
  n : Nat
  bk : Nat → Nat
  en : Nat → Nat
  sz : Nat → Nat
  imm : Nat → Nat → Prop
  fp : Nat → Nat → Prop

def TailOk (g : Gh) (a : Option Addr) (len flat cap : Nat) : Tail → Prop
  | .no => True
  | .exact => cap = len
  | .tok o => o < g.n ∧ ∃ A s, a = some A ∧ A.spot = none ∧ A.block = g.bk o ∧ A.off + flat = g.en o ∧ 0 < len ∧ flat = len * s ∧ A.off + cap * s ≤ g.sz o

def At (A : Addr) (q : Nat) : Addr := ⟨A.block, A.off + q, none⟩

inductive Rel (g : Gh) (w : World) : PV → Value → Prop where
  | any (v : Value) : Rel g w .any v
  | bool (b : Bool) : Rel g w (.bool b) (.bool b)
  | int (k : IntKind) (n : Int) : Rel g w (.int k n) (.int k n)
  | str (s : ByteArray) : Rel g w (.str s) (.string s)
  | list (es : List (List PV)) (t : Tail) (a : Option Addr) (cap : Nat) (cv : Nat → Value)
      (hu : ∀ e ∈ es, ∀ e' ∈ es, e.length = e'.length) (hl : es.length ≤ cap)
      (ht : TailOk g a es.length es.flatten.length cap t)
      (hc : ∀ q, q < es.flatten.length → ∃ A, a = some A ∧ A.spot = none ∧ g.imm A.block (A.off + q) ∧ w.cell? (At A q) = some (cv q))
      (hr : ∀ q x, es.flatten[q]? = some x → Rel g w x (cv q)) : Rel g w (.list es t) (.slice a es.length cap)
  | arr (o off len cap : Nat) (ho : o < g.n) : Rel g w (.arr o off len cap) (.slice (some ⟨g.bk o, off, none⟩) len cap)
  | ptr (o off : Nat) (ho : o < g.n) : Rel g w (.ptr o off) (.pointer (some ⟨g.bk o, off, none⟩))
  | iptr (cs : List PV) (A : Addr) (cv : Nat → Value) (hs : A.spot = none)
      (hc : ∀ q, q < cs.length → g.imm A.block (A.off + q) ∧ w.cell? (At A q) = some (cv q))
      (hr : ∀ q x, cs[q]? = some x → Rel g w x (cv q)) : Rel g w (.iptr cs) (.pointer (some A))
  | nilptr : Rel g w .nilptr (.pointer none)
  | nilfn : Rel g w .nilfn .nilFunc
  | fn (f : Nat) (caps : List PV) (vs : Array Value) (cv : Nat → Value) (hs : vs.size = caps.length) (hc : ∀ q, q < caps.length → vs[q]? = some (cv q))
      (hr : ∀ q x, caps[q]? = some x → Rel g w x (cv q)) : Rel g w (.fn f caps) (.func (.func f) #[] vs)
  | agg (cs : List PV) (vs : Array Value) (cv : Nat → Value) (hs : vs.size = cs.length) (hc : ∀ q, q < cs.length → vs[q]? = some (cv q))
      (hr : ∀ q x, cs[q]? = some x → Rel g w x (cv q)) : Rel g w (.agg cs) (.agg vs)
  | tup (cs : List PV) (vs : Array Value) (cv : Nat → Value) (hs : vs.size = cs.length) (hc : ∀ q, q < cs.length → vs[q]? = some (cv q))
      (hr : ∀ q x, cs[q]? = some x → Rel g w x (cv q)) : Rel g w (.tup cs) (.tuple vs)

/-- The relation's growth. -/
structure Gext (g : Gh) (w : World) (g' : Gh) (w' : World) : Prop where
  n : g.n ≤ g'.n
  bk : ∀ o, o < g.n → g'.bk o = g.bk o
  en : ∀ o, o < g.n → g'.en o = g.en o
  sz : ∀ o, o < g.n → g'.sz o = g.sz o
  imm : ∀ b q, g.imm b q → g'.imm b q
  cell : ∀ b q, g.imm b q → w'.cell? ⟨b, q, none⟩ = w.cell? ⟨b, q, none⟩

theorem Gext.refl (g : Gh) (w : World) : Gext g w g w := ⟨Nat.le_refl _, fun _ _ => rfl, fun _ _ => rfl, fun _ _ => rfl, fun _ _ h => h, fun _ _ _ => rfl⟩

theorem Gext.trans {g g' g'' : Gh} {w w' w'' : World} (h : Gext g w g' w') (h' : Gext g' w' g'' w'') : Gext g w g'' w'' :=
  ⟨Nat.le_trans h.n h'.n, fun o ho => (h'.bk o (Nat.lt_of_lt_of_le ho h.n)).trans (h.bk o ho), fun o ho => (h'.en o (Nat.lt_of_lt_of_le ho h.n)).trans (h.en o ho),
    fun o ho => (h'.sz o (Nat.lt_of_lt_of_le ho h.n)).trans (h.sz o ho),
    fun b q hi => h'.imm b q (h.imm b q hi), fun b q hi => (h'.cell b q (h.imm b q hi)).trans (h.cell b q hi)⟩

theorem TailOk.mono {g g' : Gh} {w w' : World} (hx : Gext g w g' w') {a : Option Addr} {len flat cap : Nat} {t : Tail} (h : TailOk g a len flat cap t) : TailOk g' a len flat cap t := by
  cases t with
  | no => trivial
  | exact => exact h
  | tok o =>
    obtain ⟨ho, A, s, h1, h2, h3, h4, h5, h6, h7⟩ := h
    exact ⟨Nat.lt_of_lt_of_le ho hx.n, A, s, h1, h2, by rw [hx.bk o ho, h3], by rw [hx.en o ho, h4], h5, h6, by rw [hx.sz o ho]; exact h7⟩

theorem Rel.mono {g g' : Gh} {w w' : World} (hx : Gext g w g' w') {x : PV} {v : Value} (h : Rel g w x v) : Rel g' w' x v := by
  induction h with
  | any v => exact .any v
  | bool b => exact .bool b
  | int k n => exact .int k n
  | str s => exact .str s
  | list es t a cap cv hu hl ht hc hr ih =>
    refine .list es t a cap cv hu hl (ht.mono hx) (fun q hq => ?_) ih
    obtain ⟨A, h1, h2, h3, h4⟩ := hc q hq
    exact ⟨A, h1, h2, hx.imm _ _ h3, (hx.cell _ _ h3).trans h4⟩
  | arr o off len cap ho => rw [← hx.bk o ho]; exact .arr o off len cap (Nat.lt_of_lt_of_le ho hx.n)
  | ptr o off ho => rw [← hx.bk o ho]; exact .ptr o off (Nat.lt_of_lt_of_le ho hx.n)
  | iptr cs A cv hs hc hr ih => exact .iptr cs A cv hs (fun q hq => ⟨hx.imm _ _ (hc q hq).1, (hx.cell _ _ (hc q hq).1).trans (hc q hq).2⟩) ih
  | nilptr => exact .nilptr
  | nilfn => exact .nilfn
  | fn f caps vs cv hs hc hr ih => exact .fn f caps vs cv hs hc ih
  | agg cs vs cv hs hc hr ih => exact .agg cs vs cv hs hc ih
  | tup cs vs cv hs hc hr ih => exact .tup cs vs cv hs hc ih

/-- Cells of a value, as pure values. -/
def PV.cells : PV → Option (List PV)
  | .agg cs => some cs
  | .any | .tup _ => none
  | x => some [x]

/-- pointwise: a row of pure values reads as a row of values -/
def RelL (g : Gh) (w : World) (xs : List PV) (vs : List Value) : Prop := xs.length = vs.length ∧ ∀ (q : Nat) (x : PV) (v : Value), xs[q]? = some x → vs[q]? = some v → Rel g w x v

theorem RelL.mono {g g' : Gh} {w w' : World} (hx : Gext g w g' w') {xs : List PV} {vs : List Value} (h : RelL g w xs vs) : RelL g' w' xs vs :=
  ⟨h.1, fun q x v h1 h2 => (h.2 q x v h1 h2).mono hx⟩

theorem RelL.nil {g : Gh} {w : World} : RelL g w [] [] := ⟨rfl, fun q x v h => by simp at h⟩

theorem RelL.cons {g : Gh} {w : World} {x : PV} {v : Value} {xs : List PV} {vs : List Value} (h : Rel g w x v) (hs : RelL g w xs vs) : RelL g w (x :: xs) (v :: vs) := by
  refine ⟨by simp [hs.1], fun q y u h1 h2 => ?_⟩
  cases q with
  | zero => simp at h1 h2; subst h1; subst h2; exact h
  | succ q => exact hs.2 q y u (by simpa using h1) (by simpa using h2)

theorem RelL.append {g : Gh} {w : World} {xs ys : List PV} {vs us : List Value} (h : RelL g w xs vs) (h' : RelL g w ys us) : RelL g w (xs ++ ys) (vs ++ us) := by
  refine ⟨by simp [h.1, h'.1], fun q y u h1 h2 => ?_⟩
  by_cases hq : q < xs.length
  · rw [List.getElem?_append_left hq] at h1
    rw [List.getElem?_append_left (by rw [← h.1]; exact hq)] at h2
    exact h.2 q y u h1 h2
  · rw [List.getElem?_append_right (Nat.le_of_not_lt hq)] at h1
    rw [List.getElem?_append_right (by rw [← h.1]; exact Nat.le_of_not_lt hq), ← h.1] at h2
    exact h'.2 _ y u h1 h2

theorem RelL.get {g : Gh} {w : World} {xs : List PV} {vs : List Value} (h : RelL g w xs vs) {q : Nat} {x : PV} (hx : xs[q]? = some x) : ∃ v, vs[q]? = some v ∧ Rel g w x v := by
  have hq : q < xs.length := (List.getElem?_eq_some_iff.1 hx).1
  have hv : q < vs.length := by rw [← h.1]; exact hq
  exact ⟨vs[q], List.getElem?_eq_getElem hv, h.2 q x _ hx (List.getElem?_eq_getElem hv)⟩

theorem RelL.take {g : Gh} {w : World} {xs : List PV} {vs : List Value} (h : RelL g w xs vs) (n : Nat) : RelL g w (xs.take n) (vs.take n) := by
  refine ⟨by simp [h.1], fun q x v h1 h2 => ?_⟩
  rw [List.getElem?_take] at h1 h2
  split at h1
  · rename_i hq; rw [if_pos hq] at h2; exact h.2 q x v h1 h2
  · cases h1

theorem RelL.drop {g : Gh} {w : World} {xs : List PV} {vs : List Value} (h : RelL g w xs vs) (n : Nat) : RelL g w (xs.drop n) (vs.drop n) := by
  refine ⟨by simp [h.1], fun q x v h1 h2 => ?_⟩
  rw [List.getElem?_drop] at h1 h2
  exact h.2 _ x v h1 h2

theorem RelL.set {g : Gh} {w : World} {xs : List PV} {vs : List Value} (h : RelL g w xs vs) {x : PV} {v : Value} (hx : Rel g w x v) (n : Nat) : RelL g w (xs.set n x) (vs.set n v) := by
  refine ⟨by simp [h.1], fun q y u h1 h2 => ?_⟩
  rw [List.getElem?_set] at h1 h2
  by_cases hn : n = q
  · simp only [if_pos hn] at h1 h2
    split at h1
    · split at h2
      · cases h1; cases h2; exact hx
      · cases h2
    · cases h1
  · simp only [if_neg hn] at h1 h2
    exact h.2 q y u h1 h2

theorem Rel.agg_iff {g : Gh} {w : World} {cs : List PV} {v : Value} : Rel g w (.agg cs) v ↔ ∃ vs : Array Value, v = .agg vs ∧ RelL g w cs vs.toList := by
  constructor
  · intro h
    cases h with
    | agg _ vs cv hs hc hr =>
      refine ⟨vs, rfl, by simp [hs], fun q x v h1 h2 => ?_⟩
      have hq : q < cs.length := (List.getElem?_eq_some_iff.1 h1).1
      have := hc q hq
      rw [Array.getElem?_toList] at h2
      rw [this] at h2; cases h2
      exact hr q x h1
  · rintro ⟨vs, rfl, h⟩
    refine .agg cs vs (fun q => vs.getD q default) (by have := h.1; simp at this; omega) (fun q hq => ?_) (fun q x hx => ?_)
    · have : q < vs.size := by have := h.1; simp at this; omega
      simp [Array.getD, this]
    · obtain ⟨v, hv, hr⟩ := h.get hx
      rw [Array.getElem?_toList] at hv
      obtain ⟨hlt, he⟩ := Array.getElem?_eq_some_iff.1 hv
      simp only [Array.getD, hlt, dif_pos]
      rw [← he] at hr; exact hr

theorem Rel.tup_iff {g : Gh} {w : World} {cs : List PV} {v : Value} : Rel g w (.tup cs) v ↔ ∃ vs : Array Value, v = .tuple vs ∧ RelL g w cs vs.toList := by
  constructor
  · intro h
    cases h with
    | tup _ vs cv hs hc hr =>
      refine ⟨vs, rfl, by simp [hs], fun q x v h1 h2 => ?_⟩
      have hq : q < cs.length := (List.getElem?_eq_some_iff.1 h1).1
      have := hc q hq
      rw [Array.getElem?_toList] at h2
      rw [this] at h2; cases h2
      exact hr q x h1
  · rintro ⟨vs, rfl, h⟩
    refine .tup cs vs (fun q => vs.getD q default) (by have := h.1; simp at this; omega) (fun q hq => ?_) (fun q x hx => ?_)
    · have : q < vs.size := by have := h.1; simp at this; omega
      simp [Array.getD, this]
    · obtain ⟨v, hv, hr⟩ := h.get hx
      rw [Array.getElem?_toList] at hv
      obtain ⟨hlt, he⟩ := Array.getElem?_eq_some_iff.1 hv
      simp only [Array.getD, hlt, dif_pos]
      rw [← he] at hr; exact hr

theorem Rel.fn_iff {g : Gh} {w : World} {f : Nat} {cs : List PV} {v : Value} : Rel g w (.fn f cs) v ↔ ∃ vs : Array Value, v = .func (.func f) #[] vs ∧ RelL g w cs vs.toList := by
  constructor
  · intro h
    cases h with
    | fn _ _ vs cv hs hc hr =>
      refine ⟨vs, rfl, by simp [hs], fun q x v h1 h2 => ?_⟩
      have hq : q < cs.length := (List.getElem?_eq_some_iff.1 h1).1
      have := hc q hq
      rw [Array.getElem?_toList] at h2
      rw [this] at h2; cases h2
      exact hr q x h1
  · rintro ⟨vs, rfl, h⟩
    refine .fn f cs vs (fun q => vs.getD q default) (by have := h.1; simp at this; omega) (fun q hq => ?_) (fun q x hx => ?_)
    · have : q < vs.size := by have := h.1; simp at this; omega
      simp [Array.getD, this]
    · obtain ⟨v, hv, hr⟩ := h.get hx
      rw [Array.getElem?_toList] at hv
      obtain ⟨hlt, he⟩ := Array.getElem?_eq_some_iff.1 hv
      simp only [Array.getD, hlt, dif_pos]
      rw [← he] at hr; exact hr

/-- a row of cells in memory, at an address, that never changes -/
def ImmRow (g : Gh) (w : World) (A : Addr) (cs : List PV) : Prop :=
  A.spot = none ∧ ∀ (q : Nat) (x : PV), cs[q]? = some x → g.imm A.block (A.off + q) ∧ ∃ c, w.cell? (At A q) = some c ∧ Rel g w x c

theorem Rel.iptr_iff {g : Gh} {w : World} {cs : List PV} {v : Value} : Rel g w (.iptr cs) v ↔ ∃ A, v = .pointer (some A) ∧ ImmRow g w A cs := by
  constructor
  · intro h
    cases h with
    | iptr _ A cv hs hc hr =>
      refine ⟨A, rfl, hs, fun q x hx => ?_⟩
      have hq : q < cs.length := (List.getElem?_eq_some_iff.1 hx).1
      exact ⟨(hc q hq).1, _, (hc q hq).2, hr q x hx⟩
  · rintro ⟨A, rfl, hs, h⟩
    refine .iptr cs A (fun q => (w.cell? (At A q)).getD default) hs (fun q hq => ?_) (fun q x hx => ?_)
    · obtain ⟨h1, c, h2, _⟩ := h q cs[q] (List.getElem?_eq_getElem hq)
      exact ⟨h1, by rw [h2]; rfl⟩
    · obtain ⟨_, c, h2, h3⟩ := h q x hx
      rw [h2]; exact h3

theorem Rel.list_iff {g : Gh} {w : World} {es : List (List PV)} {t : Tail} {v : Value} : Rel g w (.list es t) v ↔
    ∃ a cap, v = .slice a es.length cap ∧ (∀ e ∈ es, ∀ e' ∈ es, e.length = e'.length) ∧ es.length ≤ cap ∧ TailOk g a es.length es.flatten.length cap t ∧
      (es.flatten = [] ∨ ∃ A, a = some A ∧ ImmRow g w A es.flatten) := by
  constructor
  · intro h
    cases h with
    | list _ _ a cap cv hu hl ht hc hr =>
      refine ⟨a, cap, rfl, hu, hl, ht, ?_⟩
      by_cases hf : es.flatten = []
      · exact .inl hf
      · refine .inr ?_
        have h0 : 0 < es.flatten.length := List.length_pos_iff.2 hf
        obtain ⟨A, hA, hs, _, _⟩ := hc 0 h0
        refine ⟨A, hA, hs, fun q x hx => ?_⟩
        have hq : q < es.flatten.length := (List.getElem?_eq_some_iff.1 hx).1
        obtain ⟨A', hA', _, h3, h4⟩ := hc q hq
        rw [hA] at hA'; cases hA'
        exact ⟨h3, _, h4, hr q x hx⟩
  · rintro ⟨a, cap, rfl, hu, hl, ht, hc⟩
    rcases hc with hf | ⟨A, rfl, hs, h⟩
    · exact .list es t a cap (fun _ => default) hu hl ht (fun q hq => by rw [hf] at hq; simp at hq) (fun q x hx => by rw [hf] at hx; simp at hx)
    · refine .list es t (some A) cap (fun q => (w.cell? (At A q)).getD default) hu hl ht (fun q hq => ?_) (fun q x hx => ?_)
      · obtain ⟨h1, c, h2, _⟩ := h q es.flatten[q] (List.getElem?_eq_getElem hq)
        exact ⟨A, rfl, hs, h1, by rw [h2]; rfl⟩
      · obtain ⟨_, c, h2, h3⟩ := h q x hx
        rw [h2]; exact h3

theorem Rel.cells_of {g : Gh} {w : World} {x : PV} {v : Value} {cs : List PV} (h : Rel g w x v) (hc : x.cells = some cs) : RelL g w cs v.cells.toList := by
  cases h <;> simp only [PV.cells, Option.some.injEq, reduceCtorEq] at hc <;> subst hc <;>
    first
    | (refine RelL.cons ?_ RelL.nil; first | exact .bool _ | exact .int _ _ | exact .str _ | exact .nilptr | exact .nilfn | (constructor <;> assumption))
    | skip
  rename_i vs cv hs hc hr
  obtain ⟨vs', e, h'⟩ := Rel.agg_iff.1 (Rel.agg _ vs cv hs hc hr)
  cases e; exact h'

end Go.AM

/-! AM, part 2: objects against blocks; what a step may do to the world. -/
namespace Go.AM
open Go

def Ob.alive : Ob → Bool
  | .dead => false
  | _ => true

/-- the blocks of an object -/
def blk (g : Gh) : Ob → Nat → Nat → Prop
  | .abs _, o, b => g.fp o b
  | .cells _, o, b => g.bk o = b
  | .tok, o, b => g.bk o = b
  | .dead, o, b => g.bk o = b

def own (g : Gh) (H : Heap) (b : Nat) : Prop := ∃ o ob, H[o]? = some ob ∧ ob.alive = true ∧ blk g ob o b

structure Sim (g : Gh) (H : Heap) (w : World) : Prop where
  n : g.n = H.length
  inj : ∀ (o o' : Nat) (ob ob' : Ob) (b : Nat), H[o]? = some ob → H[o']? = some ob' → ob.alive = true → ob'.alive = true → blk g ob o b → blk g ob' o' b → o = o'
  cells : ∀ (o : Nat) (cs : List PV), H[o]? = some (.cells cs) → (∃ C ty, w.heap[g.bk o]? = some (.cells C ty (0, 0)) ∧ RelL g w cs C.toList) ∧ ∀ q, ¬ g.imm (g.bk o) q
  tok : ∀ (o : Nat), H[o]? = some .tok → (∃ C ty, w.heap[g.bk o]? = some (.cells C ty (0, 0)) ∧ C.size = g.sz o) ∧ ∀ q, g.en o ≤ q → ¬ g.imm (g.bk o) q
  imm : ∀ b q, g.imm b q → b < w.heap.size
  abs : ∀ (o : Nat) (r : Rep), H[o]? = some (.abs r) → r.R w g.imm (g.bk o) (g.fp o) ∧ g.fp o (g.bk o) ∧ ∀ b, g.fp o b → b < w.heap.size ∧ ∀ q, ¬ g.imm b q

structure Ext (g : Gh) (H : Heap) (w : World) (g' : Gh) (H' : Heap) (w' : World) : Prop where
  gx : Gext g w g' w'
  size : w.heap.size ≤ w'.heap.size
  ow : ∀ b, b < w.heap.size → own g' H' b → own g H b
  frame : ∀ b, b < w.heap.size → ¬ own g H b → w'.heap[b]? = w.heap[b]?
  os : w'.os = w.os
  tape : w'.tape = w.tape
  output : w'.output = w.output
  im : ∀ b q, b < w.heap.size → g'.imm b q → g.imm b q ∨ own g H b

theorem Ext.refl (g : Gh) (H : Heap) (w : World) : Ext g H w g H w := ⟨.refl g w, Nat.le_refl _, fun _ _ h => h, fun _ _ _ => rfl, rfl, rfl, rfl, fun _ _ _ h => .inl h⟩

theorem Ext.trans {g g' g'' : Gh} {H H' H'' : Heap} {w w' w'' : World} (h : Ext g H w g' H' w') (h' : Ext g' H' w' g'' H'' w'') : Ext g H w g'' H'' w'' :=
  ⟨h.gx.trans h'.gx, Nat.le_trans h.size h'.size, fun b hb ho => h.ow b hb (h'.ow b (Nat.lt_of_lt_of_le hb h.size) ho),
    fun b hb ho => (h'.frame b (Nat.lt_of_lt_of_le hb h.size) (fun k => ho (h.ow b hb k))).trans (h.frame b hb ho),
    h'.os.trans h.os, h'.tape.trans h.tape, h'.output.trans h.output,
    fun b q hb hi => (h'.im b q (Nat.lt_of_lt_of_le hb h.size) hi).elim (h.im b q hb) (fun k => .inr (h.ow b hb k))⟩

/-- a block is laid anew -/
def wput (w : World) (b : Nat) (o : Obj) : World := { w with heap := w.heap.setIfInBounds b o }

theorem wput_size (w : World) (b : Nat) (o : Obj) : (wput w b o).heap.size = w.heap.size := by simp [wput]
theorem wput_get (w : World) (b k : Nat) (o : Obj) : (wput w b o).heap[k]? = if b = k then (if b < w.heap.size then some o else none) else w.heap[k]? := by
  simp [wput, Array.getElem?_setIfInBounds]
theorem wput_put (w : World) (b : Nat) (o o' : Obj) : wput (wput w b o) b o' = wput w b o' := by
  simp [wput]
theorem wput_self {w : World} {b : Nat} {o : Obj} (h : w.heap[b]? = some o) : wput w b o = w := by
  obtain ⟨hb, he⟩ := Array.getElem?_eq_some_iff.1 h
  have : w.heap.setIfInBounds b o = w.heap := by
    apply Array.ext_getElem?
    intro i
    rw [Array.getElem?_setIfInBounds]
    split
    · rename_i hi; subst hi; simp [hb, he]
    · rfl
  simp [wput, this]

theorem cell_of_block {w : World} {b : Nat} {C : Array Value} {ty : TypeId} {fr : Nat × Nat} (h : w.heap[b]? = some (.cells C ty fr)) (q : Nat) : w.cell? ⟨b, q, none⟩ = C[q]? := by
  simp [World.cell?, h]

theorem frozen_of_block {w : World} {b : Nat} {C : Array Value} {ty : TypeId} (h : w.heap[b]? = some (.cells C ty (0, 0))) (q : Nat) : w.frozen? ⟨b, q, none⟩ = false := by
  simp [World.frozen?, h]

theorem cell_put_ne (w : World) (b k q : Nat) (o : Obj) (h : b ≠ k) : (wput w b o).cell? ⟨k, q, none⟩ = w.cell? ⟨k, q, none⟩ := by
  unfold World.cell?
  rw [wput_get, if_neg h]

theorem setCell_put {w : World} {b q : Nat} {C : Array Value} {ty : TypeId} {fr : Nat × Nat} (h : w.heap[b]? = some (.cells C ty fr)) (v : Value) :
    w.setCell ⟨b, q, none⟩ v = wput w b (.cells (C.setIfInBounds q v) ty fr) := by
  obtain ⟨hb, he⟩ := Array.getElem?_eq_some_iff.1 h
  unfold World.setCell wput
  congr 1
  apply Array.ext_getElem?
  intro i
  rw [Array.getElem?_modify, Array.getElem?_setIfInBounds]
  by_cases hi : b = i
  · subst hi
    rw [if_pos rfl, if_pos rfl, if_pos hb, h]
    rfl
  · simp [hi]

theorem addr_add {A : Addr} (h : A.spot = none) (i : Nat) : A.add i = At A i := by
  unfold Addr.add At
  split
  · rename_i hi; subst hi; cases A; simp at h; subst h; rfl
  · rfl

/-- splice: cells laid over a row from a place on -/
def over {α : Type} (C : List α) (off : Nat) (vs : List α) : List α := C.take off ++ vs ++ C.drop (off + vs.length)

theorem over_length {α : Type} {C : List α} {off : Nat} {vs : List α} (h : off + vs.length ≤ C.length) : (over C off vs).length = C.length := by
  simp [over]; omega

theorem over_nil {α : Type} (C : List α) (off : Nat) : over C off [] = C := by simp [over]

theorem over_cons {α : Type} (C : List α) (off : Nat) (v : α) (vs : List α) (h : off < C.length) : over (C.set off v) (off + 1) vs = over C off (v :: vs) := by
  unfold over
  rw [List.take_set, List.drop_set, if_pos (by omega)]
  rw [List.take_add_one]
  rw [List.getElem?_eq_getElem h]
  simp only [Option.toList_some, List.length_cons]
  rw [List.set_append, if_neg (by simp; omega)]
  simp [Nat.min_eq_left (Nat.le_of_lt h), Nat.add_assoc, Nat.add_comm 1]

theorem run_storeCells (P : Program) {b : Nat} {ty : TypeId} (vs : List Value) : ∀ (w : World) (C : Array Value) (A : Addr) (i : Nat), A.block = b → A.spot = none →
    w.heap[b]? = some (.cells C ty (0, 0)) → (∀ v ∈ vs, v.oneCell' = true) → A.off + i + vs.length ≤ C.size →
    (storeCells A vs i).run P w = .ok () (wput w b (.cells (over C.toList (A.off + i) vs).toArray ty (0, 0))) := by
  induction vs with
  | nil =>
    intro w C A i _ _ h _ _
    simp only [storeCells, Sem.run_pure, over_nil]
    rw [Array.toArray_toList, wput_self h]
  | cons v vs ih =>
    intro w C A i hA hs h hv hn
    simp only [List.length_cons] at hn
    have hlt : A.off + i < C.size := by omega
    simp only [storeCells, Sem.run_bind]
    rw [run_store P w _ v .plain (hv v (by simp)), addr_add hs]
    have hAt : At A i = ⟨b, A.off + i, none⟩ := by simp [At, hA]
    rw [hAt, cell_of_block h, frozen_of_block h, Array.getElem?_eq_getElem hlt]
    simp only [Bool.false_eq_true, if_false, Result.andThen_ok]
    rw [setCell_put h]
    rw [ih (wput w b (.cells (C.setIfInBounds (A.off + i) v) ty (0, 0))) (C.setIfInBounds (A.off + i) v) A (i + 1) hA hs
      (by rw [wput_get, if_pos rfl, if_pos (Array.getElem?_eq_some_iff.1 h).1]) (fun u hu => hv u (by simp [hu])) (by simp; omega)]
    rw [wput_put, Array.toList_setIfInBounds, ← Nat.add_assoc, over_cons _ _ _ _ (by simpa using hlt)]

theorem run_loadCellsFrom (P : Program) (w : World) (A : Addr) (hs : A.spot = none) (vs : List Value) : ∀ (i : Nat) (acc : Array Value),
    (∀ (q : Nat) (v : Value), vs[q]? = some v → w.cell? (At A (i + q)) = some v) → (loadCellsFrom A i vs.length acc).run P w = .ok (acc ++ vs.toArray) w := by
  induction vs with
  | nil => intro i acc _; simp [loadCellsFrom]
  | cons v vs ih =>
    intro i acc h
    simp only [List.length_cons, loadCellsFrom, Sem.run_bind, run_load]
    rw [addr_add hs, show At A i = At A (i + 0) from rfl, h 0 v (by simp)]
    simp only [Result.andThen_ok]
    rw [ih (i + 1) (acc.push v) (fun q u hu => by rw [Nat.add_assoc, Nat.add_comm 1]; exact h (q + 1) u (by simpa using hu))]
    simp

theorem run_loadCells (P : Program) (w : World) (A : Addr) (hs : A.spot = none) (vs : List Value)
    (h : ∀ (q : Nat) (v : Value), vs[q]? = some v → w.cell? (At A q) = some v) : (loadCells A vs.length).run P w = .ok vs.toArray w := by
  unfold loadCells
  rw [run_loadCellsFrom P w A hs vs 0 #[] (by simpa using h)]
  simp

/-- kinds of steps -/
theorem Gext.drew (g : Gh) (w : World) : Gext g w g w.drew := ⟨Nat.le_refl _, fun _ _ => rfl, fun _ _ => rfl, fun _ _ => rfl, fun _ _ h => h, fun _ _ _ => rfl⟩
/-- a whole of blocks stands as it did -/
theorem Sim.absKeep {g : Gh} {H : Heap} {w : World} (h : Sim g H w) {o : Nat} {r : Rep} (ho : H[o]? = some (.abs r)) {g' : Gh} {w' : World} (hgx : Gext g w g' w') (hbk : g'.bk o = g.bk o) (hfp : ∀ b, g'.fp o b ↔ g.fp o b)
    (hfr : ∀ b, g.fp o b → w'.heap[b]? = w.heap[b]?) (hni : ∀ b q, g.fp o b → ¬ g'.imm b q) (hsz : w.heap.size ≤ w'.heap.size) (him : ∀ b q, g'.imm b q → b < w'.heap.size) :
    r.R w' g'.imm (g'.bk o) (g'.fp o) ∧ g'.fp o (g'.bk o) ∧ ∀ b, g'.fp o b → b < w'.heap.size ∧ ∀ q, ¬ g'.imm b q := by
  obtain ⟨h1, h2, h3⟩ := h.abs o r ho
  have e : g'.fp o = g.fp o := funext fun b => propext (hfp b)
  rw [hbk, e]
  exact ⟨r.st h1 hfr hgx.imm hgx.cell hni hsz him, h2, fun b hb => ⟨Nat.lt_of_lt_of_le (h3 b hb).1 hsz, fun q => hni b q hb⟩⟩

theorem Sim.drew {g : Gh} {H : Heap} {w : World} (h : Sim g H w) : Sim g H w.drew :=
  ⟨h.n, h.inj, fun o cs ho => ⟨by
    obtain ⟨C, ty, h1, h2⟩ := (h.cells o cs ho).1
    exact ⟨C, ty, h1, h2.mono (Gext.drew g w)⟩, (h.cells o cs ho).2⟩, h.tok, h.imm,
    fun _ _ ho => h.absKeep ho (Gext.drew g w) rfl (fun _ => Iff.rfl) (fun _ _ => rfl) (fun b q hb => (((h.abs _ _ ho).2.2 b hb).2 q)) (Nat.le_refl _) h.imm⟩

theorem Ext.drew (g : Gh) (H : Heap) (w : World) : Ext g H w g H w.drew := ⟨.drew g w, Nat.le_refl _, fun _ _ h => h, fun _ _ _ => rfl, rfl, rfl, rfl, fun _ _ _ h => .inl h⟩

/-- a new object -/
def Gh.push (g : Gh) (b : Nat) (e : Nat) : Gh := { g with n := g.n + 1, bk := fun o => if o = g.n then b else g.bk o, en := fun o => if o = g.n then e else g.en o, sz := fun o => if o = g.n then e else g.sz o }

theorem alloc_get (w : World) (o : Obj) (k : Nat) : (w.alloc o).heap[k]? = if k = w.heap.size then some o else w.heap[k]? := by
  show (w.heap.push o)[k]? = _
  rw [Array.getElem?_push]

theorem alloc_cell_old (w : World) (o : Obj) (b q : Nat) (h : b < w.heap.size) : (w.alloc o).cell? ⟨b, q, none⟩ = w.cell? ⟨b, q, none⟩ :=
  World.cell?_alloc_lt w o ⟨b, q, none⟩ h

theorem Gext.push {g : Gh} {w w' : World} (himm : ∀ b q, g.imm b q → b < w.heap.size) (b e : Nat) (hc : ∀ b q, b < w.heap.size → g.imm b q → w'.cell? ⟨b, q, none⟩ = w.cell? ⟨b, q, none⟩) : Gext g w (g.push b e) w' :=
  ⟨by simp [Gh.push], fun o ho => by simp [Gh.push]; omega, fun o ho => by simp [Gh.push]; omega, fun o ho => by simp [Gh.push]; omega, fun _ _ h => h, fun b q h => hc b q (himm b q h) h⟩

theorem own_lt {g : Gh} {H : Heap} {w : World} (h : Sim g H w) {b : Nat} (hb : own g H b) : b < w.heap.size := by
  obtain ⟨o, ob, h1, h2, h3⟩ := hb
  cases ob with
  | cells cs =>
    obtain ⟨⟨C, ty, hC, _⟩, _⟩ := h.cells o cs h1
    have h3 : g.bk o = b := h3
    subst h3
    exact (Array.getElem?_eq_some_iff.1 hC).1
  | tok =>
    obtain ⟨⟨C, ty, hC, _⟩, _⟩ := h.tok o h1
    have h3 : g.bk o = b := h3
    subst h3
    exact (Array.getElem?_eq_some_iff.1 hC).1
  | dead => cases h2
  | abs r => exact ((h.abs o r h1).2.2 b h3).1

/-- an object's blocks are no other object's -/
theorem Sim.apart {g : Gh} {H : Heap} {w : World} (h : Sim g H w) {o o1 : Nat} {r : Rep} {ob1 : Ob} (ho : H[o]? = some (.abs r)) (h1 : H[o1]? = some ob1) (h2 : ob1.alive = true) (hne : o ≠ o1) {b : Nat} (hb : g.fp o b) : ¬ blk g ob1 o1 b :=
  fun k => hne (h.inj o o1 _ ob1 b ho h1 rfl h2 hb k)

theorem blk_of {g g' : Gh} {o : Nat} (hbk : g'.bk o = g.bk o) (hfp : ∀ b, g'.fp o b ↔ g.fp o b) (ob : Ob) (b : Nat) : blk g' ob o b ↔ blk g ob o b := by
  cases ob with
  | abs r => exact hfp b
  | cells cs => simp only [blk, hbk]
  | tok => simp only [blk, hbk]
  | dead => simp only [blk, hbk]

theorem getElem?_snoc {α : Type} (l : List α) (x : α) (o : Nat) (y : α) (h : (l ++ [x])[o]? = some y) : (l[o]? = some y ∧ o < l.length) ∨ (o = l.length ∧ y = x) := by
  by_cases ho : o < l.length
  · rw [List.getElem?_append_left ho] at h; exact .inl ⟨h, ho⟩
  · rw [List.getElem?_append_right (Nat.le_of_not_lt ho)] at h
    have : o - l.length = 0 := by
      rcases Nat.eq_zero_or_pos (o - l.length) with h0 | h0
      · exact h0
      · rw [List.getElem?_eq_none (by simp; omega)] at h; cases h
    rw [this] at h; simp at h
    exact .inr ⟨by omega, h.symm⟩

/-- a new block, as an object of cells -/
theorem Sim.new {g : Gh} {H : Heap} {w : World} (h : Sim g H w) {cs : List PV} {C : Array Value} (ty : TypeId) (hr : RelL g w cs C.toList) :
    Sim (g.push w.heap.size 0) (H ++ [.cells cs]) (w.alloc (.cells C ty)) ∧ Ext g H w (g.push w.heap.size 0) (H ++ [.cells cs]) (w.alloc (.cells C ty)) ∧
      Rel (g.push w.heap.size 0) (w.alloc (.cells C ty)) (.ptr H.length 0) (.pointer (some ⟨w.heap.size, 0, none⟩)) := by
  have hgx : Gext g w (g.push w.heap.size 0) (w.alloc (.cells C ty)) := Gext.push h.imm _ _ (fun b q hb _ => alloc_cell_old w _ b q hb)
  have hbk : ∀ o, o < H.length → (g.push w.heap.size 0).bk o = g.bk o := fun o ho => hgx.bk o (by rw [h.n]; exact ho)
  have hbn : (g.push w.heap.size 0).bk H.length = w.heap.size := by simp [Gh.push, h.n]
  have hold : ∀ o ob b, H[o]? = some ob → ob.alive = true → blk g ob o b → b < w.heap.size := fun o ob b h1 h2 h3 => own_lt h ⟨o, ob, h1, h2, h3⟩
  have hblk : ∀ o ob b, o < H.length → (blk (g.push w.heap.size 0) ob o b ↔ blk g ob o b) := fun o ob b ho => blk_of (hbk o ho) (fun _ => Iff.rfl) ob b
  refine ⟨⟨by simp [Gh.push, h.n], ?_, ?_, ?_, ?_, ?_⟩, ⟨hgx, by simp, ?_, ?_, rfl, rfl, rfl, fun _ _ _ h => .inl h⟩, ?_⟩
  · intro o o' ob ob' b h1 h2 h3 h4 h5 h6
    rcases getElem?_snoc _ _ _ _ h1 with ⟨h1, ho⟩ | ⟨rfl, rfl⟩ <;> rcases getElem?_snoc _ _ _ _ h2 with ⟨h2, ho'⟩ | ⟨rfl, rfl⟩
    · exact h.inj o o' ob ob' b h1 h2 h3 h4 ((hblk _ _ _ ho).1 h5) ((hblk _ _ _ ho').1 h6)
    · have h6 : _ = b := h6
      rw [hbn] at h6; have := hold o ob b h1 h3 ((hblk _ _ _ ho).1 h5); omega
    · have h5 : _ = b := h5
      rw [hbn] at h5; have := hold o' ob' b h2 h4 ((hblk _ _ _ ho').1 h6); omega
    · rfl
  · intro o cs' h1
    rcases getElem?_snoc _ _ _ _ h1 with ⟨h1, ho⟩ | ⟨rfl, e⟩
    · obtain ⟨⟨C', ty', h2, h3⟩, h4⟩ := h.cells o cs' h1
      rw [hbk o ho]
      refine ⟨⟨C', ty', ?_, h3.mono hgx⟩, h4⟩
      rw [alloc_get, if_neg (Nat.ne_of_lt (hold o _ _ h1 rfl rfl))]; exact h2
    · cases e
      rw [hbn]
      exact ⟨⟨C, ty, by rw [alloc_get, if_pos rfl], hr.mono hgx⟩, fun q hq => Nat.lt_irrefl _ (h.imm _ _ hq)⟩
  · intro o h1
    rcases getElem?_snoc _ _ _ _ h1 with ⟨h1, ho⟩ | ⟨rfl, e⟩
    · obtain ⟨⟨C', ty', h2, h2'⟩, h4⟩ := h.tok o h1
      rw [hbk o ho, hgx.en o (by rw [h.n]; exact ho), hgx.sz o (by rw [h.n]; exact ho)]
      refine ⟨⟨C', ty', ?_, h2'⟩, h4⟩
      rw [alloc_get, if_neg (Nat.ne_of_lt (hold o _ _ h1 rfl rfl))]; exact h2
    · cases e
  · intro b q hq; have := h.imm b q hq; simp; omega
  · intro o r h1
    rcases getElem?_snoc _ _ _ _ h1 with ⟨h1, ho⟩ | ⟨rfl, e⟩
    · exact h.absKeep h1 hgx (hbk o ho) (fun _ => Iff.rfl) (fun b hb => by rw [alloc_get, if_neg (Nat.ne_of_lt ((h.abs o r h1).2.2 b hb).1)]) (fun b q hb => ((h.abs o r h1).2.2 b hb).2 q) (by simp) (fun b q hq => by have := h.imm b q hq; simp; omega)
    · cases e
  · rintro b hb ⟨o, ob, h1, h2, h3⟩
    rcases getElem?_snoc _ _ _ _ h1 with ⟨h1, ho⟩ | ⟨rfl, rfl⟩
    · exact ⟨o, ob, h1, h2, (hblk _ _ _ ho).1 h3⟩
    · have h3 : _ = b := h3
      rw [hbn] at h3; omega
  · intro b hb _
    rw [alloc_get, if_neg (by omega)]
  · have := Rel.ptr (g := g.push w.heap.size 0) (w := w.alloc (.cells C ty)) H.length 0 (by simp [Gh.push, h.n])
    rw [hbn] at this; exact this

/-- a new block whose cells never change: a list -/
def Gh.row (g : Gh) (b n : Nat) : Gh := { g with imm := fun b' q => g.imm b' q ∨ (b' = b ∧ q < n) }

theorem Sim.newRow {g : Gh} {H : Heap} {w : World} (h : Sim g H w) {cs : List PV} {C : Array Value} (ty : TypeId) (hr : RelL g w cs C.toList) :
    Sim (g.row w.heap.size C.size) H (w.alloc (.cells C ty)) ∧ Ext g H w (g.row w.heap.size C.size) H (w.alloc (.cells C ty)) ∧
      ImmRow (g.row w.heap.size C.size) (w.alloc (.cells C ty)) ⟨w.heap.size, 0, none⟩ cs := by
  have hgx : Gext g w (g.row w.heap.size C.size) (w.alloc (.cells C ty)) :=
    ⟨Nat.le_refl _, fun _ _ => rfl, fun _ _ => rfl, fun _ _ => rfl, fun _ _ h => .inl h, fun b q hq => alloc_cell_old w _ b q (h.imm b q hq)⟩
  have hold : ∀ o ob b, H[o]? = some ob → ob.alive = true → blk g ob o b → b < w.heap.size := fun o ob b h1 h2 h3 => own_lt h ⟨o, ob, h1, h2, h3⟩
  refine ⟨⟨h.n, fun o o' ob ob' b h1 h2 h3 h4 h5 h6 => h.inj o o' ob ob' b h1 h2 h3 h4 ((blk_of rfl (fun _ => Iff.rfl) _ _).1 h5) ((blk_of rfl (fun _ => Iff.rfl) _ _).1 h6), ?_, ?_, ?_, ?_⟩,
    ⟨hgx, by simp, fun b _ ⟨o, ob, h1, h2, h3⟩ => ⟨o, ob, h1, h2, (blk_of rfl (fun _ => Iff.rfl) _ _).1 h3⟩, ?_, rfl, rfl, rfl, fun _ _ hb h => h.imp id fun k => absurd hb (by rw [k.1]; exact Nat.lt_irrefl _)⟩, rfl, ?_⟩
  · intro o cs' h1
    obtain ⟨⟨C', ty', h2, h3⟩, h4⟩ := h.cells o cs' h1
    have hlt := hold o _ _ h1 rfl rfl
    refine ⟨⟨C', ty', ?_, h3.mono hgx⟩, ?_⟩
    · show (w.alloc _).heap[g.bk o]? = _
      rw [alloc_get, if_neg (Nat.ne_of_lt hlt)]; exact h2
    · rintro q (hq | ⟨hq, _⟩)
      · exact h4 q hq
      · exact absurd hq (Nat.ne_of_lt hlt)
  · intro o h1
    obtain ⟨⟨C', ty', h2, h2'⟩, h4⟩ := h.tok o h1
    have hlt := hold o _ _ h1 rfl rfl
    refine ⟨⟨C', ty', ?_, h2'⟩, ?_⟩
    · show (w.alloc _).heap[g.bk o]? = _
      rw [alloc_get, if_neg (Nat.ne_of_lt hlt)]; exact h2
    · rintro q hq (hi | ⟨hi, _⟩)
      · exact h4 q hq hi
      · exact absurd hi (Nat.ne_of_lt hlt)
  · rintro b q (hq | ⟨rfl, _⟩)
    · have := h.imm b q hq; simp; omega
    · simp
  · intro o r h1
    have h2 := (h.abs o r h1).2.2
    refine h.absKeep h1 hgx rfl (fun _ => Iff.rfl) (fun b hb => by rw [alloc_get, if_neg (Nat.ne_of_lt (h2 b hb).1)]) ?_ (by simp) ?_
    · rintro b q hb (hq | ⟨rfl, _⟩)
      · exact (h2 b hb).2 q hq
      · exact Nat.lt_irrefl _ (h2 _ hb).1
    · rintro b q (hq | ⟨rfl, _⟩)
      · have := h.imm b q hq; simp; omega
      · simp
  · intro b hb _
    rw [alloc_get, if_neg (by omega)]
  · intro q x hx
    obtain ⟨v, hv, hrel⟩ := hr.get hx
    rw [Array.getElem?_toList] at hv
    refine ⟨.inr ⟨rfl, by have := (Array.getElem?_eq_some_iff.1 hv).1; simpa using this⟩, v, ?_, hrel.mono hgx⟩
    simp only [At, Nat.zero_add]
    rw [World.cell?_alloc_new]; exact hv

/-- an object's cells are laid anew -/
theorem Sim.put {g : Gh} {H : Heap} {w : World} (h : Sim g H w) {o : Nat} {cs cs' : List PV} (ho : H[o]? = some (.cells cs)) {C : Array Value} {ty : TypeId}
    (hr : RelL g w cs' C.toList) : Sim g (H.set o (.cells cs')) (wput w (g.bk o) (.cells C ty (0, 0))) ∧ Ext g H w g (H.set o (.cells cs')) (wput w (g.bk o) (.cells C ty (0, 0))) := by
  have hlt : g.bk o < w.heap.size := own_lt h ⟨o, _, ho, rfl, rfl⟩
  have hol : o < H.length := (List.getElem?_eq_some_iff.1 ho).1
  have himm : ∀ q, ¬ g.imm (g.bk o) q := (h.cells o cs ho).2
  have hgx : Gext g w g (wput w (g.bk o) (.cells C ty (0, 0))) :=
    ⟨Nat.le_refl _, fun _ _ => rfl, fun _ _ => rfl, fun _ _ => rfl, fun _ _ h => h, fun b q hq => cell_put_ne w _ b q _ (fun e => himm q (e ▸ hq))⟩
  have hset : ∀ (o' : Nat) (ob : Ob), (H.set o (.cells cs'))[o']? = some ob → ob.alive = true → ∃ ob', H[o']? = some ob' ∧ ob'.alive = true ∧ ∀ b, blk g ob o' b → blk g ob' o' b := by
    intro o' ob h1 h2
    rw [List.getElem?_set] at h1
    split at h1
    · rename_i e; subst e
      cases h1
      exact ⟨_, ho, rfl, fun _ h => h⟩
    · exact ⟨ob, h1, h2, fun _ h => h⟩
  refine ⟨⟨by simp [h.n], ?_, ?_, ?_, ?_, ?_⟩, ⟨hgx, by simp [wput_size], ?_, ?_, rfl, rfl, rfl, fun _ _ _ h => .inl h⟩⟩
  · intro o1 o2 ob1 ob2 b h1 h2 h3 h4 h5 h6
    obtain ⟨ob1', k1, k2, k5⟩ := hset o1 ob1 h1 h3
    obtain ⟨ob2', k3, k4, k6⟩ := hset o2 ob2 h2 h4
    exact h.inj o1 o2 ob1' ob2' b k1 k3 k2 k4 (k5 b h5) (k6 b h6)
  · intro o1 cs1 h1
    rw [List.getElem?_set] at h1
    split at h1
    · rename_i e; subst e
      cases h1
      exact ⟨⟨C, ty, by rw [wput_get, if_pos rfl, if_pos hlt], hr.mono hgx⟩, himm⟩
    · rename_i hne
      obtain ⟨⟨C1, ty1, h2, h3⟩, h4⟩ := h.cells o1 cs1 h1
      refine ⟨⟨C1, ty1, ?_, h3.mono hgx⟩, h4⟩
      rw [wput_get, if_neg]; exact h2
      intro e; exact hne (h.inj o o1 _ _ _ ho h1 rfl rfl e rfl)
  · intro o1 h1
    rw [List.getElem?_set] at h1
    split at h1
    · cases h1
    · rename_i hne
      obtain ⟨⟨C1, ty1, h2, h2'⟩, h4⟩ := h.tok o1 h1
      refine ⟨⟨C1, ty1, ?_, h2'⟩, h4⟩
      rw [wput_get, if_neg]; exact h2
      intro e; exact hne (h.inj o o1 _ _ _ ho h1 rfl rfl e rfl)
  · intro b q hq; rw [wput_size]; exact h.imm b q hq
  · intro o1 r h1
    rw [List.getElem?_set] at h1
    split at h1
    · cases h1
    · rename_i hne
      have h2 := (h.abs o1 r h1).2.2
      refine h.absKeep h1 hgx rfl (fun _ => Iff.rfl) (fun b hb => ?_) (fun b q hb => (h2 b hb).2 q) (by simp [wput_size]) (fun b q hq => by rw [wput_size]; exact h.imm b q hq)
      rw [wput_get, if_neg]
      intro e; exact h.apart h1 ho rfl (Ne.symm hne) hb e
  · rintro b _ ⟨o1, ob1, h1, h2, h3⟩
    obtain ⟨ob', k1, k2, k3⟩ := hset o1 ob1 h1 h2
    exact ⟨o1, ob', k1, k2, k3 b h3⟩
  · intro b _ hb
    rw [wput_get, if_neg]
    intro e; exact hb ⟨o, _, ho, rfl, e⟩

/-- an object is let go: its cells never change again -/
theorem Sim.freeze {g : Gh} {H : Heap} {w : World} (h : Sim g H w) {o : Nat} {cs : List PV} (ho : H[o]? = some (.cells cs)) :
    ∃ g', Sim g' (H.set o .dead) w ∧ Ext g H w g' (H.set o .dead) w ∧ ImmRow g' w ⟨g.bk o, 0, none⟩ cs := by
  obtain ⟨⟨C, ty, hC, hr⟩, himm⟩ := h.cells o cs ho
  have hlt : g.bk o < w.heap.size := own_lt h ⟨o, _, ho, rfl, rfl⟩
  refine ⟨g.row (g.bk o) C.size, ?_⟩
  have hgx : Gext g w (g.row (g.bk o) C.size) w := ⟨Nat.le_refl _, fun _ _ => rfl, fun _ _ => rfl, fun _ _ => rfl, fun _ _ h => .inl h, fun _ _ _ => rfl⟩
  have hset : ∀ (o' : Nat) (ob : Ob), (H.set o .dead)[o']? = some ob → ob.alive = true → H[o']? = some ob ∧ o ≠ o' := by
    intro o' ob h1 h2
    rw [List.getElem?_set] at h1
    split at h1
    · split at h1
      · cases h1; cases h2
      · cases h1
    · rename_i e; exact ⟨h1, e⟩
  refine ⟨⟨by simp; exact h.n, ?_, ?_, ?_, ?_, ?_⟩, ⟨hgx, Nat.le_refl _, ?_, fun _ _ _ => rfl, rfl, rfl, rfl, fun _ _ _ h => h.imp id fun k => ⟨o, _, ho, rfl, k.1.symm⟩⟩, rfl, ?_⟩
  · intro o1 o2 ob1 ob2 b h1 h2 h3 h4 h5 h6
    exact h.inj o1 o2 ob1 ob2 b (hset _ _ h1 h3).1 (hset _ _ h2 h4).1 h3 h4 ((blk_of rfl (fun _ => Iff.rfl) _ _).1 h5) ((blk_of rfl (fun _ => Iff.rfl) _ _).1 h6)
  · intro o1 cs1 h1
    obtain ⟨h1, hne⟩ := hset _ _ h1 rfl
    obtain ⟨⟨C1, ty1, h2, h3⟩, h4⟩ := h.cells o1 cs1 h1
    refine ⟨⟨C1, ty1, h2, h3.mono hgx⟩, ?_⟩
    rintro q (hq | ⟨hq, _⟩)
    · exact h4 q hq
    · exact hne (h.inj o o1 _ _ _ ho h1 rfl rfl hq.symm rfl)
  · intro o1 h1
    obtain ⟨h1, hne⟩ := hset _ _ h1 rfl
    obtain ⟨⟨C1, ty1, h2, h2'⟩, h4⟩ := h.tok o1 h1
    refine ⟨⟨C1, ty1, h2, h2'⟩, ?_⟩
    rintro q hq (hi | ⟨hi, _⟩)
    · exact h4 q hq hi
    · exact hne (h.inj o o1 _ _ _ ho h1 rfl rfl hi.symm rfl)
  · rintro b q (hq | ⟨rfl, _⟩)
    · exact h.imm b q hq
    · exact hlt
  · intro o1 r h1
    obtain ⟨h1, hne⟩ := hset _ _ h1 rfl
    have h2 := (h.abs o1 r h1).2.2
    refine h.absKeep h1 hgx rfl (fun _ => Iff.rfl) (fun _ _ => rfl) ?_ (Nat.le_refl _) ?_
    · rintro b q hb (hq | ⟨rfl, _⟩)
      · exact (h2 b hb).2 q hq
      · exact h.apart h1 ho rfl (Ne.symm hne) hb rfl
    · rintro b q (hq | ⟨rfl, _⟩)
      · exact h.imm b q hq
      · exact hlt
  · rintro b _ ⟨o1, ob1, h1, h2, h3⟩
    exact ⟨o1, ob1, (hset _ _ h1 h2).1, h2, (blk_of rfl (fun _ => Iff.rfl) _ _).1 h3⟩
  · intro q x hx
    obtain ⟨v, hv, hrel⟩ := hr.get hx
    rw [Array.getElem?_toList] at hv
    refine ⟨.inr ⟨rfl, by have := (Array.getElem?_eq_some_iff.1 hv).1; simpa using this⟩, v, ?_, hrel.mono hgx⟩
    simp only [At, Nat.zero_add]
    rw [cell_of_block hC]; exact hv

end Go.AM

/-! AM, part 3: operations. -/
namespace Go.AM
open Go

/-- is it a struct or an array; its cells -/
def tyA (P : Program) (t : TypeId) : Option (Bool × Nat) :=
  match P.underlying t, P.info? t with
  | some (.struct _), some i => some (true, i.size)
  | some (.array _ _), some i => some (true, i.size)
  | some _, some i => some (false, i.size)
  | _, _ => none

theorem run_info {P : Program} {t : TypeId} {i : TypeInfo} (h : P.info? t = some i) (w : World) : (typeInfo t).run P w = .ok i w := by
  simp [typeInfo, h]
theorem run_under {P : Program} {t : TypeId} {d : TypeDesc} (h : P.underlying t = some d) (w : World) : (underlying t).run P w = .ok d w := by
  simp [underlying, h]

theorem tyA_spec {P : Program} {t : TypeId} {b : Bool} {sz : Nat} (h : tyA P t = some (b, sz)) :
    ∃ d i, P.underlying t = some d ∧ P.info? t = some i ∧ i.size = sz ∧ (match d with | .struct _ | .array _ _ => true | _ => false) = b := by
  unfold tyA at h
  split at h <;> first | (cases h; done) | skip
  · rename_i fs i h1 h2; simp only [Option.some.injEq, Prod.mk.injEq] at h; exact ⟨_, i, h1, h2, h.2, h.1⟩
  · rename_i n e i h1 h2; simp only [Option.some.injEq, Prod.mk.injEq] at h; exact ⟨_, i, h1, h2, h.2, h.1⟩
  · rename_i d i hn1 hn2 h1 h2; simp only [Option.some.injEq, Prod.mk.injEq] at h
    refine ⟨d, i, h1, h2, h.2, ?_⟩
    split
    · rename_i fs; exact absurd rfl (hn1 _)
    · rename_i n e; exact absurd rfl (hn2 _ _)
    · exact h.1

theorem run_isAgg {P : Program} {t : TypeId} {b : Bool} {sz : Nat} (h : tyA P t = some (b, sz)) (w : World) : (isAgg t).run P w = .ok b w := by
  obtain ⟨d, i, h1, h2, h3, h4⟩ := tyA_spec h
  unfold isAgg
  rw [Sem.run_bind, run_under h1]
  simp only [Result.andThen_ok]
  rw [← h4]
  cases d <;> rfl

theorem run_sizeOf {P : Program} {t : TypeId} {b : Bool} {sz : Nat} (h : tyA P t = some (b, sz)) (w : World) : (sizeOf t).run P w = .ok sz w := by
  obtain ⟨d, i, h1, h2, h3, h4⟩ := tyA_spec h
  unfold sizeOf
  rw [Sem.run_bind, run_info h2]
  simp [h3]

/-- cells that can be read from an address on -/
def RowAt (g : Gh) (w : World) (A : Addr) (cs : List PV) : Prop :=
  A.spot = none ∧ ∀ (q : Nat) (x : PV), cs[q]? = some x → ∃ c, w.cell? (At A q) = some c ∧ Rel g w x c

theorem ImmRow.row {g : Gh} {w : World} {A : Addr} {cs : List PV} (h : ImmRow g w A cs) : RowAt g w A cs :=
  ⟨h.1, fun q x hx => (h.2 q x hx).2⟩

theorem Sim.rowAt {g : Gh} {H : Heap} {w : World} (h : Sim g H w) {o : Nat} {cs : List PV} (ho : H[o]? = some (.cells cs)) (off : Nat) : RowAt g w ⟨g.bk o, off, none⟩ (cs.drop off) := by
  obtain ⟨⟨C, ty, hC, hr⟩, _⟩ := h.cells o cs ho
  refine ⟨rfl, fun q x hx => ?_⟩
  rw [List.getElem?_drop] at hx
  obtain ⟨v, hv, hrel⟩ := hr.get hx
  exact ⟨v, by simp only [At]; rw [cell_of_block hC]; rw [Array.getElem?_toList] at hv; exact hv, hrel⟩

theorem RowAt.vals {g : Gh} {w : World} {A : Addr} {cs : List PV} (h : RowAt g w A cs) (n : Nat) (hn : n ≤ cs.length) :
    ∃ vs : List Value, vs.length = n ∧ RelL g w (cs.take n) vs ∧ ∀ (q : Nat) (v : Value), vs[q]? = some v → w.cell? (At A q) = some v := by
  refine ⟨(List.range n).map fun q => (w.cell? (At A q)).getD default, by simp, ⟨by simp [Nat.min_eq_left hn], fun q x v h1 h2 => ?_⟩, fun q v hv => ?_⟩
  · rw [List.getElem?_take] at h1
    split at h1
    · rename_i hq
      rw [List.getElem?_map, List.getElem?_range hq] at h2
      obtain ⟨c, h3, h4⟩ := h.2 q x h1
      simp [h3] at h2; rw [← h2]; exact h4
    · cases h1
  · have hq : q < n := by
      have := (List.getElem?_eq_some_iff.1 hv).1; simpa using this
    rw [List.getElem?_map, List.getElem?_range hq] at hv
    obtain ⟨c, h3, h4⟩ := h.2 q cs[q] (List.getElem?_eq_getElem (by omega))
    simp [h3] at hv; rw [← hv]; exact h3

def loadPV (b : Bool) (sz : Nat) (cs : List PV) : Option PV :=
  if b = true then (if sz ≤ cs.length then some (.agg (cs.take sz)) else none) else cs[0]?

theorem load_row {P : Program} {g : Gh} {w : World} {A : Addr} {cs : List PV} (h : RowAt g w A cs) {t : TypeId} {b : Bool} {sz : Nat} (ht : tyA P t = some (b, sz))
    {x : PV} (hl : loadPV b sz cs = some x) : ∃ v, (loadVar t A).run P w = .ok v w ∧ Rel g w x v := by
  unfold loadVar
  rw [Sem.run_bind, run_isAgg ht]
  simp only [Result.andThen_ok]
  unfold loadPV at hl
  cases b with
  | true =>
    simp only [if_true] at hl ⊢
    split at hl
    · rename_i hn
      cases hl
      obtain ⟨vs, h1, h2, h3⟩ := h.vals sz hn
      refine ⟨.agg vs.toArray, ?_, Rel.agg_iff.2 ⟨_, rfl, by simpa using h2⟩⟩
      rw [Sem.run_bind, run_sizeOf ht]
      simp only [Result.andThen_ok, Sem.run_bind]
      rw [← h1, run_loadCells P w A h.1 vs h3]
      rfl
    · cases hl
  | false =>
    simp only [Bool.false_eq_true, if_false] at hl ⊢
    obtain ⟨c, h1, h2⟩ := h.2 0 x hl
    refine ⟨c, ?_, h2⟩
    rw [run_load]
    have : At A 0 = A := by have := h.1; cases A; simp [At] at *; exact this.symm
    rw [this] at h1
    rw [h1]

/-- a value of one cell -/
def PV.one : PV → Bool
  | .any | .agg _ | .tup _ => false
  | _ => true

theorem one_of_rel {g : Gh} {w : World} {y : PV} {u : Value} (h : Rel g w y u) (hy : y.one = true) : u.oneCell' = true := by
  cases h <;> first | rfl | (cases hy; done)

theorem one_of_cells {g : Gh} {w : World} {cs : List PV} {vs : List Value} (hr : RelL g w cs vs) (h1 : cs.all PV.one = true) : ∀ u ∈ vs, u.oneCell' = true := by
  intro u hu
  obtain ⟨q, hq, rfl⟩ := List.mem_iff_getElem.1 hu
  have hq' : q < cs.length := by rw [hr.1]; exact hq
  exact one_of_rel (hr.2 q cs[q] _ (List.getElem?_eq_getElem hq') (List.getElem?_eq_getElem hq)) (List.all_eq_true.1 h1 _ (List.getElem_mem hq'))

theorem RelL.over {g : Gh} {w : World} {cs xs : List PV} {C vs : List Value} (h : RelL g w cs C) (hx : RelL g w xs vs) (off : Nat) : RelL g w (over cs off xs) (over C off vs) := by
  unfold AM.over
  rw [hx.1]
  exact ((h.take off).append hx).append (h.drop _)

/-- a store into an object -/
theorem store_obj {P : Program} {g : Gh} {H : Heap} {w : World} (h : Sim g H w) {o off : Nat} {cs xs : List PV} (ho : H[o]? = some (.cells cs)) {v : Value} {t : TypeId} {b : Bool} {sz : Nat}
    (ht : tyA P t = some (b, sz)) (hv : RelL g w xs v.cells.toList) (hl : xs.length = sz) (h1 : xs.all PV.one = true) (hn : off + sz ≤ cs.length) :
    ∃ w', (storeVar t ⟨g.bk o, off, none⟩ v).run P w = .ok () w' ∧ Sim g (H.set o (.cells (over cs off xs))) w' ∧ Ext g H w g (H.set o (.cells (over cs off xs))) w' := by
  obtain ⟨⟨C, ty, hC, hr⟩, _⟩ := h.cells o cs ho
  have hsz : v.cells.size = sz := by have := hv.1; simp at this; omega
  have hCl : C.size = cs.length := by have := hr.1; simp at this; omega
  refine ⟨wput w (g.bk o) (.cells (over C.toList off v.cells.toList).toArray ty (0, 0)), ?_, ?_⟩
  · unfold storeVar
    rw [Sem.run_bind, run_sizeOf ht]
    simp only [Result.andThen_ok, hsz, ne_eq, not_true_eq_false, if_false]
    have := run_storeCells P (b := g.bk o) (ty := ty) v.cells.toList w C ⟨g.bk o, off, none⟩ 0 rfl rfl hC (one_of_cells hv h1) (by simp; omega)
    simpa using this
  · exact h.put ho (by simpa using hr.over hv off)

end Go.AM

/-! AM, part 4: operations on pure values: what each comes to. -/
namespace Go.AM
open Go

def pv1 : Value → PV
  | .bool b => .bool b
  | .int k n => .int k n
  | .string s => .str s
  | .slice none 0 0 => .list [] .exact
  | .pointer none => .nilptr
  | .nilFunc => .nilfn
  | _ => .any

def pvOf : Value → PV
  | .agg vs => .agg (vs.toList.map pv1)
  | .tuple vs => .tup (vs.toList.map pv1)
  | v => pv1 v

theorem rel_nil (g : Gh) (w : World) : Rel g w (.list [] .exact) (.slice none 0 0) :=
  Rel.list_iff.2 ⟨none, 0, rfl, by simp, by simp, rfl, .inl rfl⟩

theorem rel_pv1 (g : Gh) (w : World) (v : Value) : Rel g w (pv1 v) v := by
  unfold pv1
  split <;> first | exact .bool _ | exact .int _ _ | exact .str _ | exact rel_nil g w | exact .nilptr | exact .nilfn | exact .any _

theorem relL_pv1 (g : Gh) (w : World) (vs : List Value) : RelL g w (vs.map pv1) vs := by
  induction vs with
  | nil => exact .nil
  | cons v vs ih => exact .cons (rel_pv1 g w v) ih

theorem rel_pvOf (g : Gh) (w : World) (v : Value) : Rel g w (pvOf v) v := by
  unfold pvOf
  split
  · exact Rel.agg_iff.2 ⟨_, rfl, relL_pv1 g w _⟩
  · exact Rel.tup_iff.2 ⟨_, rfl, relL_pv1 g w _⟩
  · exact rel_pv1 g w v

/-- the program-wide variables that are known -/
abbrev Glob := Nat → Option (List PV)
def GlobOk (g : Gh) (w : World) (gl : Glob) : Prop := ∀ k cs, gl k = some cs → ImmRow g w ⟨k, 0, none⟩ cs

theorem ImmRow.mono {g g' : Gh} {w w' : World} (hx : Gext g w g' w') {A : Addr} {cs : List PV} (h : ImmRow g w A cs) : ImmRow g' w' A cs :=
  ⟨h.1, fun q x hq => by obtain ⟨h1, c, h2, h3⟩ := h.2 q x hq; exact ⟨hx.imm _ _ h1, c, (hx.cell _ _ h1).trans h2, h3.mono hx⟩⟩

theorem GlobOk.mono {g g' : Gh} {w w' : World} (hx : Gext g w g' w') {gl : Glob} (h : GlobOk g w gl) : GlobOk g' w' gl :=
  fun k cs hk => (h k cs hk).mono hx

def ev (gl : Glob) (e : Env) : Operand → PV
  | .tmp t => e t
  | .const v => pvOf v
  | .global g => match gl g with | some cs => .iptr cs | none => .any
  | .func f => .fn f []

/-- the frame's slots read as the environment says -/
def EnvRel (g : Gh) (w : World) (n : Nat) (e : Env) (a : Act) : Prop := a.tmps.size = n ∧ ∀ t, Rel g w (e t) (a.tmps.getD t undef)

theorem EnvRel.mono {g g' : Gh} {w w' : World} (hx : Gext g w g' w') {n : Nat} {e : Env} {a : Act} (h : EnvRel g w n e a) : EnvRel g' w' n e a :=
  ⟨h.1, fun t => (h.2 t).mono hx⟩

theorem EnvRel.ev {g : Gh} {w : World} {gl : Glob} (hg : GlobOk g w gl) {n : Nat} {e : Env} {a : Act} (h : EnvRel g w n e a) (x : Operand) : Rel g w (ev gl e x) (a.eval x) := by
  cases x with
  | tmp t => exact h.2 t
  | const v => exact rel_pvOf g w v
  | global k =>
    simp only [AM.ev, Act.eval]
    cases hk : gl k with
    | none => exact .any _
    | some cs => exact Rel.iptr_iff.2 ⟨_, rfl, hg k cs hk⟩
  | func f => exact Rel.fn_iff.2 ⟨#[], rfl, .nil⟩

/-- the value operations' promise -/
def VOk (P : Program) (s : Sem Value) (g : Gh) (H : Heap) (w : World) (K : PV → Heap → Prop) : Prop :=
  ∃ v w' g' H' x, s.run P w = .ok v w' ∧ Sim g' H' w' ∧ Ext g H w g' H' w' ∧ Rel g' w' x v ∧ K x H'

theorem VOk.same {P : Program} {s : Sem Value} {g : Gh} {H : Heap} {w : World} {K : PV → Heap → Prop} (h : Sim g H w) {v : Value} {x : PV} (hr : s.run P w = .ok v w) (hx : Rel g w x v) (hk : K x H) : VOk P s g H w K :=
  ⟨v, w, g, H, x, hr, h, .refl g H w, hx, hk⟩

theorem VOk.congr {P : Program} {s s' : Sem Value} {g : Gh} {H : Heap} {w : World} {K : PV → Heap → Prop} (h : VOk P s' g H w K) (e : s.run P w = s'.run P w) : VOk P s g H w K := by
  obtain ⟨v, w', g', H', x, h1, h2⟩ := h
  exact ⟨v, w', g', H', x, e.trans h1, h2⟩

def zeroA (P : Program) (t : TypeId) : Option (List PV) := ((P.info? t).bind (·.zero)).map fun v => v.cells.toList.map pv1

theorem zeroA_spec {P : Program} {t : TypeId} {cs : List PV} (h : zeroA P t = some cs) : ∃ v, (∀ w, (zeroValue t).run P w = .ok v w) ∧ ∀ g w, RelL g w cs v.cells.toList := by
  unfold zeroA at h
  cases hi : P.info? t with
  | none => simp [hi] at h
  | some i =>
    cases hz : i.zero with
    | none => simp [hi, hz] at h
    | some v =>
      simp [hi, hz] at h
      refine ⟨v, fun w => ?_, fun g w => by rw [← h]; exact relL_pv1 g w _⟩
      unfold zeroValue
      rw [Sem.run_bind, run_info hi]
      simp [hz]

theorem vok_new {P : Program} {g : Gh} {H : Heap} {w : World} {K : PV → Heap → Prop} (h : Sim g H w) {cs : List PV} {v : Value} (t : TypeId) (hr : RelL g w cs v.cells.toList)
    (hk : K (.ptr H.length 0) (H ++ [.cells cs])) : VOk P (do pure (.pointer (some (← newVar t v)))) g H w K := by
  obtain ⟨h1, h2, h3⟩ := h.new t hr
  exact ⟨_, _, _, _, _, by simp [newVar, newRow], h1, h2, h3, hk⟩

theorem vok_alloc {P : Program} {g : Gh} {H : Heap} {w : World} {K : PV → Heap → Prop} (h : Sim g H w) {t : TypeId} {cs : List PV} (hz : zeroA P t = some cs)
    (hk : K (.ptr H.length 0) (H ++ [.cells cs])) : VOk P (Instr.alloc t true (.tuple #[])) g H w K := by
  obtain ⟨v, hv, hr⟩ := zeroA_spec hz
  refine (vok_new (P := P) (v := v) h t (hr g w) hk).congr ?_
  unfold Instr.alloc
  rw [Sem.run_bind, hv]
  simp

theorem vok_box {P : Program} {g : Gh} {H : Heap} {w : World} {K : PV → Heap → Prop} (h : Sim g H w) {t : TypeId} {x : PV} {v : Value} {cs : List PV} (hx : Rel g w x v) (hc : x.cells = some cs)
    (hk : K (.ptr H.length 0) (H ++ [.cells cs])) : VOk P (Instr.box t v) g H w K :=
  vok_new h t (hx.cells_of hc) hk

/-- what lies behind a pointer -/
def behind (H : Heap) : PV → Option (List PV)
  | .iptr cs => some cs
  | .ptr o off => match H[o]? with
    | some (.cells cs) => some (cs.drop off)
    | _ => none
  | _ => none

theorem behind_spec {g : Gh} {H : Heap} {w : World} (h : Sim g H w) {x : PV} {v : Value} (hx : Rel g w x v) {cs : List PV} (hb : behind H x = some cs) :
    ∃ A, v = .pointer (some A) ∧ RowAt g w A cs := by
  cases hx <;> simp only [behind, reduceCtorEq] at hb
  · rename_i o off ho
    split at hb
    · rename_i cs' ho'
      cases hb
      exact ⟨_, rfl, h.rowAt ho' off⟩
    · cases hb
  · rename_i cs' A cv hs hc hr
    cases hb
    obtain ⟨A', e, hi⟩ := Rel.iptr_iff.1 (Rel.iptr cs A cv hs hc hr)
    cases e
    exact ⟨A, rfl, hi.row⟩

theorem vok_load {P : Program} {g : Gh} {H : Heap} {w : World} {K : PV → Heap → Prop} (h : Sim g H w) {t : TypeId} {x : PV} {v : Value} (hx : Rel g w x v) {cs : List PV} (hb : behind H x = some cs)
    {b : Bool} {sz : Nat} (ht : tyA P t = some (b, sz)) {y : PV} (hl : loadPV b sz cs = some y) (hk : K y H) : VOk P (Instr.loadAt t v) g H w K := by
  obtain ⟨A, rfl, hr⟩ := behind_spec h hx hb
  obtain ⟨u, h1, h2⟩ := load_row hr ht hl
  exact VOk.same h (v := u) (by simp [Instr.loadAt, Instr.sureAddr, h1]) h2 hk

/-- a field's place and size -/
def fldA (P : Program) (s : TypeId) (f : Nat) : Option (Nat × Bool × Nat) :=
  match P.underlying s with
  | some (.struct fs) => match fs[f]? with
    | some d => match tyA P d.type with
      | some (b, sz) => if sz = 0 then none else some (d.offset, b, sz)
      | none => none
    | none => none
  | _ => none

theorem fldA_spec {P : Program} {s : TypeId} {f off : Nat} {b : Bool} {sz : Nat} (h : fldA P s f = some (off, b, sz)) :
    ∃ fs d, P.underlying s = some (.struct fs) ∧ fs[f]? = some d ∧ tyA P d.type = some (b, sz) ∧ sz ≠ 0 ∧ d.offset = off := by
  unfold fldA at h
  split at h <;> first | (cases h; done) | skip
  rename_i fs hu
  split at h <;> first | (cases h; done) | skip
  rename_i d hd
  split at h <;> first | (cases h; done) | skip
  rename_i b' sz' ht
  split at h
  · cases h
  · simp only [Option.some.injEq, Prod.mk.injEq] at h
    obtain ⟨h1, h2, h3⟩ := h
    subst h1; subst h2; subst h3
    exact ⟨fs, d, hu, hd, ht, by assumption, rfl⟩

def shiftP (n : Nat) : PV → Option PV
  | .iptr cs => some (.iptr (cs.drop n))
  | .ptr o off => some (.ptr o (off + n))
  | _ => none

theorem ImmRow.drop {g : Gh} {w : World} {A : Addr} {cs : List PV} (h : ImmRow g w A cs) (n : Nat) : ImmRow g w (At A n) (cs.drop n) := by
  refine ⟨rfl, fun q x hq => ?_⟩
  rw [List.getElem?_drop] at hq
  obtain ⟨h1, c, h2, h3⟩ := h.2 _ x hq
  refine ⟨by simp only [At]; rw [Nat.add_assoc]; exact h1, c, ?_, h3⟩
  simp only [At] at h2 ⊢
  rw [Nat.add_assoc]; exact h2

theorem shiftP_spec {g : Gh} {w : World} {x y : PV} {v : Value} (hx : Rel g w x v) {n : Nat} (hs : shiftP n x = some y) : ∃ A, v = .pointer (some A) ∧ A.spot = none ∧ Rel g w y (.pointer (some (At A n))) := by
  cases hx <;> simp only [shiftP, reduceCtorEq, Option.some.injEq] at hs
  · rename_i o off ho
    subst hs
    exact ⟨_, rfl, rfl, .ptr o (off + n) ho⟩
  · rename_i cs A cv hsp hc hr
    subst hs
    obtain ⟨A', e, hi⟩ := Rel.iptr_iff.1 (Rel.iptr cs A cv hsp hc hr)
    cases e
    exact ⟨A, rfl, hsp, Rel.iptr_iff.2 ⟨_, rfl, hi.drop n⟩⟩

theorem vok_fieldAddr {P : Program} {g : Gh} {H : Heap} {w : World} {K : PV → Heap → Prop} (h : Sim g H w) {s : TypeId} {f off sz : Nat} {b : Bool} (hf : fldA P s f = some (off, b, sz))
    {x y : PV} {v : Value} (hx : Rel g w x v) (hs : shiftP off x = some y) (hk : K y H) : VOk P (Instr.fieldAt s v f) g H w K := by
  obtain ⟨fs, d, h1, h2, h3, h4, rfl⟩ := fldA_spec hf
  obtain ⟨A, rfl, hsp, hy⟩ := shiftP_spec hx hs
  refine VOk.same h (v := .pointer (some (At A d.offset))) ?_ hy hk
  unfold Instr.fieldAt
  rw [Sem.run_bind, run_under h1]
  simp only [Result.andThen_ok, h2, Sem.run_bind, Instr.sureAddr, Sem.run_pure]
  unfold fieldPlace
  rw [Sem.run_bind, run_sizeOf h3]
  simp [h4, addr_add hsp]

def partA (b : Bool) (off sz : Nat) (cs : List PV) : Option PV :=
  if b = true then (if off + sz ≤ cs.length then some (.agg ((cs.drop off).take sz)) else none) else cs[off]?

theorem run_part {P : Program} {g : Gh} {w : World} {t : TypeId} {b : Bool} {sz off : Nat} (ht : tyA P t = some (b, sz)) {cs : List PV} {vs : Array Value} (hr : RelL g w cs vs.toList)
    {y : PV} (hp : partA b off sz cs = some y) : ∃ u, (part t vs off).run P w = .ok u w ∧ Rel g w y u := by
  unfold part
  rw [Sem.run_bind, run_isAgg ht]
  simp only [Result.andThen_ok]
  unfold partA at hp
  cases b with
  | true =>
    simp only [if_true] at hp ⊢
    split at hp
    · cases hp
      refine ⟨.agg (vs.extract off (off + sz)), ?_, Rel.agg_iff.2 ⟨_, rfl, ?_⟩⟩
      · rw [Sem.run_bind, run_sizeOf ht]; rfl
      · have := (hr.drop off).take sz
        simpa [List.drop_take] using this
    · cases hp
  | false =>
    simp only [Bool.false_eq_true, if_false] at hp ⊢
    obtain ⟨u, hu, hrel⟩ := hr.get hp
    rw [Array.getElem?_toList] at hu
    exact ⟨u, by rw [hu]; rfl, hrel⟩

theorem vok_field {P : Program} {g : Gh} {H : Heap} {w : World} {K : PV → Heap → Prop} (h : Sim g H w) {s : TypeId} {f off sz : Nat} {b : Bool} (hf : fldA P s f = some (off, b, sz))
    {cs : List PV} {v : Value} (hx : Rel g w (.agg cs) v) {y : PV} (hp : partA b off sz cs = some y) (hk : K y H) : VOk P (Instr.field s v f) g H w K := by
  obtain ⟨fs, d, h1, h2, h3, h4, rfl⟩ := fldA_spec hf
  obtain ⟨vs, rfl, hr⟩ := Rel.agg_iff.1 hx
  obtain ⟨u, h5, h6⟩ := run_part h3 hr hp
  refine VOk.same h (v := u) ?_ h6 hk
  unfold Instr.field
  rw [Sem.run_bind, run_under h1]
  simp only [Result.andThen_ok, h2, Sem.run_bind, asAgg, Sem.run_pure]
  exact h5

/-- an element type's cells and bytes -/
def elA (P : Program) (t : TypeId) : Option (Option Nat × Bool × Nat × Nat × TypeId) :=
  match P.underlying t with
  | some (.slice e) => match tyA P e, P.info? e with
    | some (b, sz), some i => some (none, b, sz, i.bytes, e)
    | _, _ => none
  | some (.array n e) => match tyA P e, P.info? e with
    | some (b, sz), some i => some (some n, b, sz, i.bytes, e)
    | _, _ => none
  | _ => none

theorem elA_slice {P : Program} {t : TypeId} {b : Bool} {sz by_ : Nat} {e : TypeId} (h : elA P t = some (none, b, sz, by_, e)) :
    P.underlying t = some (.slice e) ∧ tyA P e = some (b, sz) ∧ ∃ i, P.info? e = some i ∧ i.bytes = by_ := by
  unfold elA at h
  split at h
  · rename_i e' hu
    split at h
    · rename_i b' sz' i ht hi
      simp only [Option.some.injEq, Prod.mk.injEq, true_and] at h
      obtain ⟨rfl, rfl, rfl, rfl⟩ := h
      exact ⟨hu, ht, i, hi, rfl⟩
    · cases h
  · split at h
    · simp at h
    · cases h
  · cases h

theorem elA_array {P : Program} {t : TypeId} {n : Nat} {b : Bool} {sz by_ : Nat} {e : TypeId} (h : elA P t = some (some n, b, sz, by_, e)) :
    P.underlying t = some (.array n e) ∧ tyA P e = some (b, sz) ∧ ∃ i, P.info? e = some i ∧ i.bytes = by_ := by
  unfold elA at h
  split at h
  · split at h
    · simp at h
    · cases h
  · rename_i n' e' hu
    split at h
    · rename_i b' sz' i ht hi
      simp only [Option.some.injEq, Prod.mk.injEq] at h
      obtain ⟨rfl, rfl, rfl, rfl, rfl⟩ := h
      exact ⟨hu, ht, i, hi, rfl⟩
    · cases h
  · cases h

/-- rows of equal length -/
theorem flat_take {es : List (List PV)} {s : Nat} (hu : ∀ e ∈ es, e.length = s) (i : Nat) (hi : i ≤ es.length) : (es.take i).flatten.length = i * s := by
  induction es generalizing i with
  | nil => simp at hi; subst hi; simp
  | cons e es ih =>
    cases i with
    | zero => simp
    | succ i =>
      simp only [List.take_succ_cons, List.flatten_cons, List.length_append]
      rw [hu e (by simp), ih (fun e' h' => hu e' (by simp [h'])) i (by simpa using hi)]
      rw [Nat.succ_mul]; omega

theorem flat_drop {es : List (List PV)} {s : Nat} (hu : ∀ e ∈ es, e.length = s) (i : Nat) (hi : i ≤ es.length) : es.flatten.drop (i * s) = (es.drop i).flatten := by
  conv => lhs; rw [← List.take_append_drop i es, List.flatten_append]
  rw [List.drop_append_of_le_length (by rw [flat_take hu i hi]; omega), List.drop_eq_nil_of_le (by rw [flat_take hu i hi]; omega)]
  rfl

theorem ImmRow.front {g : Gh} {w : World} {A : Addr} {cs ds : List PV} (h : ImmRow g w A (cs ++ ds)) : ImmRow g w A cs :=
  ⟨h.1, fun q x hq => h.2 q x (by rw [List.getElem?_append_left (List.getElem?_eq_some_iff.1 hq).1]; exact hq)⟩

/-- an element of a list, as memory -/
theorem list_elem {g : Gh} {w : World} {es : List (List PV)} {t : Tail} {v : Value} (h : Rel g w (.list es t) v) {i s : Nat} {e : List PV} (he : es[i]? = some e) (hs : e.length = s) (hs0 : s ≠ 0) :
    ∃ A cap, v = .slice (some A) es.length cap ∧ A.spot = none ∧ Rel g w (.iptr e) (.pointer (some (At A (i * s)))) := by
  obtain ⟨a, cap, rfl, hu, hl, ht, hc⟩ := Rel.list_iff.1 h
  have hmem : e ∈ es := List.mem_of_getElem? he
  have hi : i < es.length := (List.getElem?_eq_some_iff.1 he).1
  have hu' : ∀ e' ∈ es, e'.length = s := fun e' he' => by rw [← hs]; exact hu e' he' e hmem
  rcases hc with hf | ⟨A, rfl, hr⟩
  · exfalso
    have := flat_take hu' es.length (Nat.le_refl _)
    rw [List.take_length, hf] at this
    rcases Nat.mul_eq_zero.1 this.symm with h1 | h1
    · rw [h1] at hi; simp at hi
    · exact hs0 h1
  · refine ⟨A, cap, rfl, hr.1, Rel.iptr_iff.2 ⟨_, rfl, ?_⟩⟩
    have := hr.drop (i * s)
    rw [flat_drop hu' i (Nat.le_of_lt hi), List.drop_eq_getElem_cons hi, List.flatten_cons] at this
    have he' : es[i] = e := by rw [List.getElem?_eq_getElem hi] at he; exact Option.some.inj he
    rw [he'] at this
    exact this.front

def idx (k : Int) (n : Nat) : Option Nat := if 0 ≤ k ∧ k < n then some k.toNat else none

theorem vok_indexAddr_list {P : Program} {g : Gh} {H : Heap} {w : World} {K : PV → Heap → Prop} (h : Sim g H w) {t : TypeId} {b : Bool} {sz by_ : Nat} {et : TypeId} (hel : elA P t = some (none, b, sz, by_, et))
    {es : List (List PV)} {tl : Tail} {v u : Value} (hx : Rel g w (.list es tl) v) {k : IntKind} {n : Int} (hi : Rel g w (.int k n) u) (h0 : 0 ≤ n) {e : List PV} (he : es[n.toNat]? = some e)
    (hs : e.length = sz) (hs0 : sz ≠ 0) (hk : K (.iptr e) H) : VOk P (Instr.indexAt t v u) g H w K := by
  obtain ⟨h1, h2, _⟩ := elA_slice hel
  obtain ⟨A, cap, rfl, hsp, hr⟩ := list_elem hx he hs hs0
  cases hi
  refine VOk.same h (v := .pointer (some (At A (n.toNat * sz)))) ?_ hr hk
  have hlt : n.toNat < es.length := (List.getElem?_eq_some_iff.1 he).1
  unfold Instr.indexAt
  simp only [asIntOf, Sem.run_bind, Sem.run_pure, Result.andThen_ok, run_under h1]
  rw [if_pos ⟨h0, by omega⟩]
  simp only [Sem.run_bind, run_sizeOf h2, Result.andThen_ok, addr_add hsp, Sem.run_pure]

theorem vok_indexAddr_arr {P : Program} {g : Gh} {H : Heap} {w : World} {K : PV → Heap → Prop} (h : Sim g H w) {t : TypeId} {b : Bool} {sz by_ : Nat} {et : TypeId} (hel : elA P t = some (none, b, sz, by_, et))
    {o off len cap : Nat} {v u : Value} (hx : Rel g w (.arr o off len cap) v) {k : IntKind} {n : Int} (hi : Rel g w (.int k n) u) (h0 : 0 ≤ n) (hn : n < len)
    (hk : K (.ptr o (off + n.toNat * sz)) H) : VOk P (Instr.indexAt t v u) g H w K := by
  obtain ⟨h1, h2, _⟩ := elA_slice hel
  cases hx with
  | arr _ _ _ _ ho =>
  cases hi
  refine VOk.same h (v := .pointer (some (At ⟨g.bk o, off, none⟩ (n.toNat * sz)))) ?_ (.ptr o (off + n.toNat * sz) ho) hk
  unfold Instr.indexAt
  simp only [asIntOf, Sem.run_bind, Sem.run_pure, Result.andThen_ok, run_under h1]
  rw [if_pos ⟨h0, by omega⟩]
  simp only [Sem.run_bind, run_sizeOf h2, Result.andThen_ok, Sem.run_pure]
  rw [addr_add rfl]

theorem vok_indexAddr_array {P : Program} {g : Gh} {H : Heap} {w : World} {K : PV → Heap → Prop} (h : Sim g H w) {t : TypeId} {m : Nat} {b : Bool} {sz by_ : Nat} {et : TypeId} (hel : elA P t = some (some m, b, sz, by_, et))
    {x y : PV} {v u : Value} (hx : Rel g w x v) {k : IntKind} {n : Int} (hi : Rel g w (.int k n) u) (h0 : 0 ≤ n) (hn : n < m) (hs : shiftP (n.toNat * sz) x = some y)
    (hk : K y H) : VOk P (Instr.indexAt t v u) g H w K := by
  obtain ⟨h1, h2, _⟩ := elA_array hel
  obtain ⟨A, rfl, hsp, hr⟩ := shiftP_spec hx hs
  cases hi
  refine VOk.same h (v := .pointer (some (At A (n.toNat * sz)))) ?_ hr hk
  unfold Instr.indexAt
  simp only [asIntOf, Sem.run_bind, Sem.run_pure, Result.andThen_ok, run_under h1, Instr.sureAddr]
  rw [if_pos ⟨h0, by omega⟩]
  simp only [Sem.run_bind, run_sizeOf h2, Result.andThen_ok, Sem.run_pure, addr_add hsp]

theorem vok_index {P : Program} {g : Gh} {H : Heap} {w : World} {K : PV → Heap → Prop} (h : Sim g H w) {t : TypeId} {m : Nat} {b : Bool} {sz by_ : Nat} {et : TypeId} (hel : elA P t = some (some m, b, sz, by_, et))
    {cs : List PV} {y : PV} {v u : Value} (hx : Rel g w (.agg cs) v) {k : IntKind} {n : Int} (hi : Rel g w (.int k n) u) (h0 : 0 ≤ n) (hn : n < m) (hp : partA b (n.toNat * sz) sz cs = some y)
    (hk : K y H) : VOk P (Instr.index t v u) g H w K := by
  obtain ⟨h1, h2, _⟩ := elA_array hel
  obtain ⟨vs, rfl, hr⟩ := Rel.agg_iff.1 hx
  obtain ⟨z, h5, h6⟩ := run_part h2 hr hp
  cases hi
  refine VOk.same h (v := z) ?_ h6 hk
  unfold Instr.index
  simp only [asIntOf, Sem.run_bind, Sem.run_pure, Result.andThen_ok, run_under h1]
  rw [if_pos ⟨h0, by omega⟩]
  simp only [Sem.run_bind, run_sizeOf h2, Result.andThen_ok]
  exact h5

end Go.AM

/-! AM, part 5: arithmetic, comparisons, conversions. -/
namespace Go.AM
open Go

def scal : PV → PV → Option Bool
  | .int k a, .int k' b => if k = k' then some (a == b) else none
  | .bool a, .bool b => some (a == b)
  | .str a, .str b => some (a == b)
  | _, _ => none

def eqCells : List PV → List PV → Option Bool
  | [], [] => some true
  | x :: xs, y :: ys => match scal x y with
    | some b => match eqCells xs ys with
      | some c => some (b && c)
      | none => none
    | none => none
  | _, _ => none

theorem eqCells_append {a b c d : List PV} (h : a.length = c.length) {r : Bool} (he : eqCells (a ++ b) (c ++ d) = some r) : ∃ r1 r2, eqCells a c = some r1 ∧ eqCells b d = some r2 ∧ r = (r1 && r2) := by
  induction a generalizing c r with
  | nil =>
    cases c with
    | nil => exact ⟨true, r, rfl, he, by simp⟩
    | cons y c => simp at h
  | cons x a ih =>
    cases c with
    | nil => simp at h
    | cons y c =>
      simp only [List.cons_append, eqCells] at he ⊢
      split at he
      · rename_i b1 hb
        split at he
        · rename_i c1 hc
          obtain ⟨r1, r2, h1, h2, h3⟩ := ih (by simpa using h) hc
          simp only [h1]
          exact ⟨b1 && r1, r2, rfl, h2, by cases he; rw [h3, Bool.and_assoc]⟩
        · cases he
      · cases he

/-- types whose cells are numbers, bools and strings, each named, none left out -/
def flatF (P : Program) (rec : TypeId → Option Nat) : List Field → Nat → Option Nat
  | [], n => some n
  | f :: fs, n => if f.name = "_" ∨ f.offset ≠ n then none else match rec f.type, tyA P f.type with
    | some m, some (_, sz) => if sz = m then flatF P rec fs (n + m) else none
    | _, _ => none

def flatT (P : Program) : Nat → TypeId → Option Nat
  | 0, _ => none
  | d + 1, t => match P.underlying t with
    | some (.int _) => if tyA P t = some (false, 1) then some 1 else none
    | some .bool => if tyA P t = some (false, 1) then some 1 else none
    | some .string => if tyA P t = some (false, 1) then some 1 else none
    | some (.struct fs) => if P.stoodInHeld t then none else if (tyA P t).map (·.1) = some true then flatF P (flatT P d) fs.toList 0 else none
    | _ => none

/-- the value of so many cells -/
def valOf (b : Bool) (vs : List Value) : Value := if b then .agg vs.toArray else vs.headD undef

def kindOf (P : Program) (t : TypeId) : PV → Prop
  | .int _ _ => ∃ k, P.underlying t = some (.int k)
  | .bool _ => P.underlying t = some .bool
  | .str _ => P.underlying t = some .string
  | _ => True

theorem scal_run {P : Program} {g : Gh} {w : World} {x y : PV} {v u : Value} (hx : Rel g w x v) (hy : Rel g w y u) {r : Bool} (h : scal x y = some r) {t : TypeId} (d : Nat) (hk : kindOf P t x) :
    (Op.equalIn (d + 1) t v u).run P w = .ok r w := by
  cases hx <;> cases hy <;> simp only [scal, reduceCtorEq, Option.some.injEq] at h
  · subst h; exact run_equalIn_bool' w d t _ _ hk
  · split at h
    · rename_i e; subst e; cases h
      obtain ⟨k'', hk⟩ := hk
      exact run_equalIn_int w d t _ k'' _ _ hk
    · cases h
  · subst h
    rw [run_equalIn_string w d t _ _ hk, beq_toListBytes]

/-- do the cells fit the type: numbers where numbers are wanted -/
def fitF (P : Program) (rec : TypeId → List PV → Bool) : List Field → List PV → Bool
  | [], _ => true
  | f :: fs, cs => match tyA P f.type with
    | some (_, sz) => rec f.type (cs.take sz) && fitF P rec fs (cs.drop sz)
    | none => false

def fitT (P : Program) : Nat → TypeId → List PV → Bool
  | 0, _, _ => false
  | d + 1, t, cs => match P.underlying t with
    | some (.int _) => match cs with | [.int _ _] => true | _ => false
    | some .bool => match cs with | [.bool _] => true | _ => false
    | some .string => match cs with | [.str _] => true | _ => false
    | some (.struct fs) => fitF P (fitT P d) fs.toList cs
    | _ => false

theorem eqCells_length {xs ys : List PV} {r : Bool} (h : eqCells xs ys = some r) : xs.length = ys.length := by
  induction xs generalizing ys r with
  | nil => cases ys with
    | nil => rfl
    | cons y ys => simp [eqCells] at h
  | cons x xs ih => cases ys with
    | nil => simp [eqCells] at h
    | cons y ys =>
      simp only [eqCells] at h
      split at h
      · split at h
        · rename_i hc; simp [ih hc]
        · cases h
      · cases h

theorem eq_fields {P : Program} {g : Gh} {w : World} {d D : Nat}
    (ih : ∀ (t : TypeId) (n : Nat) (b : Bool) (sz : Nat), flatT P d t = some n → tyA P t = some (b, sz) → sz = n → ∀ (xs ys : List PV) (vs us : List Value) (r : Bool), RelL g w xs vs → RelL g w ys us → xs.length = n → fitT P d t xs = true →
      eqCells xs ys = some r → (Op.equalIn D t (valOf b vs) (valOf b us)).run P w = .ok r w) (V U : Array Value) :
    ∀ (fs : List Field) (n N : Nat) (xs ys : List PV) (r : Bool), flatF P (flatT P d) fs n = some N → N = V.size → N = U.size → RelL g w xs (V.toList.drop n) → RelL g w ys (U.toList.drop n) → fitF P (fitT P d) fs xs = true →
      eqCells xs ys = some r → (Op.eqFields D V U fs).run P w = .ok r w := by
  intro fs
  induction fs with
  | nil =>
    intro n N xs ys r hf hN hU hx hy _ he
    simp only [flatF, Option.some.injEq] at hf
    subst hf
    have h0 : xs = [] := by
      have := hx.1; simp at this; exact List.length_eq_zero_iff.1 (by omega)
    have h1 : ys = [] := by
      have := hy.1; simp at this; exact List.length_eq_zero_iff.1 (by omega)
    subst h0; subst h1
    simp only [eqCells, Option.some.injEq] at he
    subst he
    rfl
  | cons f fs ihf =>
    intro n N xs ys r hf hN hU hx hy hfit he
    simp only [flatF] at hf
    split at hf
    · cases hf
    rename_i hname
    split at hf
    · rename_i m b sz hrec hty
      split at hf
      · rename_i hsz
        subst hsz
        have hge : n + sz ≤ N := by
          clear ihf hfit he hx hy
          generalize n + sz = q at hf ⊢
          induction fs generalizing q with
          | nil => simp only [flatF, Option.some.injEq] at hf; omega
          | cons f' fs' ih' =>
            simp only [flatF] at hf
            split at hf
            · cases hf
            · split at hf
              · split at hf
                · have := ih' _ hf; omega
                · cases hf
              · cases hf
        have hoff : f.offset = n := by
          rcases Decidable.em (f.offset = n) with e | e
          · exact e
          · exact absurd (.inr e) hname
        have hnm : f.name ≠ "_" := fun e => hname (.inl e)
        have hxl : xs.length = N - n := by have := hx.1; simp at this; omega
        have hyl : ys.length = N - n := by have := hy.1; simp at this; omega
        have e1 : xs = xs.take sz ++ xs.drop sz := (List.take_append_drop sz xs).symm
        have e2 : ys = ys.take sz ++ ys.drop sz := (List.take_append_drop sz ys).symm
        rw [e1, e2] at he
        obtain ⟨r1, r2, h1, h2, h3⟩ := eqCells_append (by simp; omega) he
        simp only [fitF, hty, Bool.and_eq_true] at hfit
        have hpart : ∀ (A : Array Value), N = A.size → (part f.type A f.offset).run P w = .ok (valOf b ((A.toList.drop n).take sz)) w := by
          intro A hA
          unfold part
          rw [Sem.run_bind, run_isAgg hty]
          simp only [Result.andThen_ok, hoff, valOf]
          cases b with
          | true =>
            simp only [if_true]
            rw [Sem.run_bind, run_sizeOf hty]
            simp only [Result.andThen_ok, Sem.run_pure]
            congr 2
            apply Array.ext'
            simp
          | false =>
            have hs1 : sz = 1 ∨ sz ≠ 1 := Decidable.em _
            simp only [Bool.false_eq_true, if_false]
            by_cases h0 : sz = 0
            · exfalso
              subst h0
              -- a flat type has a cell
              revert hrec hfit
              clear ihf
              cases d with
              | zero => intro hrec; simp [flatT] at hrec
              | succ d =>
                intro hrec
                simp only [flatT] at hrec
                split at hrec <;> first | (cases hrec; done) | skip
                · split at hrec <;> simp at hrec
                · split at hrec <;> simp at hrec
                · split at hrec <;> simp at hrec
                · split at hrec
                  · cases hrec
                  · split at hrec
                    · rename_i hagg; rw [hty] at hagg; simp at hagg
                    · cases hrec
            · have hlt : n < A.size := by omega
              rw [Array.getElem?_eq_getElem hlt]
              simp only [Sem.run_pure]
              congr 1
              have : (A.toList.drop n).take sz = A[n] :: ((A.toList.drop (n + 1)).take (sz - 1)) := by
                rw [List.drop_eq_getElem_cons (by simpa using hlt)]
                obtain ⟨k, rfl⟩ : ∃ k, sz = k + 1 := ⟨sz - 1, by omega⟩
                simp
              rw [this]; rfl
        have hcmp := ih f.type sz b sz hrec hty rfl (xs.take sz) (ys.take sz) ((V.toList.drop n).take sz) ((U.toList.drop n).take sz) r1 (hx.take sz) (hy.take sz) (by simp; omega) hfit.1 h1
        have hrest := ihf (n + sz) N (xs.drop sz) (ys.drop sz) r2 hf hN hU (by have := hx.drop sz; simpa [List.drop_drop] using this) (by have := hy.drop sz; simpa [List.drop_drop] using this) hfit.2 h2
        unfold Op.eqFields
        rw [if_pos hnm]
        simp only [Sem.run_bind, hpart V hN, hpart U hU, Result.andThen_ok, hcmp]
        cases r1 with
        | true => simp only [Bool.not_true, Bool.false_eq_true, if_false, hrest]; rw [h3]; simp
        | false => simp [h3]
      · cases hf
    · cases hf

theorem eq_flat {P : Program} {g : Gh} {w : World} : ∀ (d D : Nat), d ≤ D → ∀ (t : TypeId) (n : Nat) (b : Bool) (sz : Nat), flatT P d t = some n → tyA P t = some (b, sz) → sz = n →
    ∀ (xs ys : List PV) (vs us : List Value) (r : Bool), RelL g w xs vs → RelL g w ys us → xs.length = n → fitT P d t xs = true →
      eqCells xs ys = some r → (Op.equalIn D t (valOf b vs) (valOf b us)).run P w = .ok r w := by
  intro d
  induction d with
  | zero => intro D _ t n b sz hf; simp [flatT] at hf
  | succ d ih =>
    intro D hD t n b sz hf hty hsz xs ys vs us r hx hy hn hfit he
    obtain ⟨D, rfl⟩ : ∃ k, D = k + 1 := ⟨D - 1, by omega⟩
    have leaf : ∀ (hb : tyA P t = some (false, 1)) (x : PV), xs = [x] → kindOf P t x →
        (Op.equalIn (D + 1) t (valOf b vs) (valOf b us)).run P w = .ok r w := by
      intro hb x hxs hk
      rw [hb] at hty
      simp only [Option.some.injEq, Prod.mk.injEq] at hty
      obtain ⟨rfl, rfl⟩ := hty
      subst hxs
      have hyl := eqCells_length he
      obtain ⟨y, rfl⟩ : ∃ y, ys = [y] := by
        cases ys with
        | nil => simp at hyl
        | cons y ys => cases ys with
          | nil => exact ⟨y, rfl⟩
          | cons z zs => simp at hyl
      obtain ⟨v, rfl⟩ : ∃ v, vs = [v] := by
        have := hx.1
        cases vs with
        | nil => simp at this
        | cons v vs => cases vs with
          | nil => exact ⟨v, rfl⟩
          | cons z zs => simp at this
      obtain ⟨u, rfl⟩ : ∃ u, us = [u] := by
        have := hy.1
        cases us with
        | nil => simp at this
        | cons v vs => cases vs with
          | nil => exact ⟨v, rfl⟩
          | cons z zs => simp at this
      simp only [valOf, Bool.false_eq_true, if_false, List.headD_cons]
      have hsc : scal x y = some r := by
        simp only [eqCells] at he
        split at he
        · rename_i b1 hb1; simp at he; rw [hb1, he]
        · cases he
      exact scal_run (hx.2 0 x v rfl rfl) (hy.2 0 y u rfl rfl) hsc D hk
    have hfit0 := hfit
    simp only [flatT] at hf
    simp only [fitT] at hfit
    split at hf
    · rename_i k hu
      split at hf
      · rename_i hb
        rw [hu] at hfit
        simp only at hfit
        split at hfit
        · exact leaf hb _ rfl ⟨k, hu⟩
        · cases hfit
      · cases hf
    · rename_i hu
      split at hf
      · rename_i hb
        rw [hu] at hfit
        simp only at hfit
        split at hfit
        · exact leaf hb _ rfl hu
        · cases hfit
      · cases hf
    · rename_i hu
      split at hf
      · rename_i hb
        rw [hu] at hfit
        simp only at hfit
        split at hfit
        · exact leaf hb _ rfl hu
        · cases hfit
      · cases hf
    · rename_i fs hu
      rw [hu] at hfit
      simp only at hfit
      split at hf
      · cases hf
      · rename_i hst
        split at hf
        · rename_i hagg
          rw [hty] at hagg
          simp only [Option.map_some, Option.some.injEq] at hagg
          subst hagg
          simp only [valOf, if_true]
          have hfo : P.fieldsOf t = fs := by simp [Program.fieldsOf, hu]
          rw [run_equalIn_struct w D t _ _ (by rw [hfo]; exact hu) (by simpa using hst), hfo]
          have hvl : n = vs.toArray.size := by have := hx.1; simp; omega
          have hul : n = us.toArray.size := by have := hy.1; have := eqCells_length he; simp; omega
          exact eq_fields (fun t n b sz h1 h2 h3 => ih D (by omega) t n b sz h1 h2 h3) vs.toArray us.toArray fs.toList 0 n xs ys r hf hvl hul (by simpa using hx) (by simpa using hy) hfit he
        · cases hf
    · cases hf

end Go.AM

