/-
  An abstract machine over values without memory, proved against the model; part 1. A tool for the proofs of this claim; it states nothing of the program.
-/
import Derived.Calls
import Derived.KernelRfl
/-! AM, part 1: pure values, their reading in a world, the relation's growth. -/
namespace Go.AM
open Go

/-- What is known of a list's spare room. -/
inductive Tail where
  | no
  | exact
  | tok (o : Nat)

/-- Values without memory: what a list holds stands in it. -/
inductive PV where
  | any
  | bool (b : Bool)
  | int (k : IntKind) (n : Int)
  | str (s : ByteArray)
  | list (es : List (List PV)) (t : Tail)
  | arr (o off len cap : Nat)
  | ptr (o off : Nat)
  | iptr (cs : List PV)
  | nilptr
  | nilfn
  | fn (f : Nat) (caps : List PV)
  | agg (cs : List PV)
  | tup (vs : List PV)

/-- What a whole of blocks stands for: told of the world, of the cells that never change, of its first block, of all its blocks. -/
structure Rep where
  R : World → (Nat → Nat → Prop) → Nat → (Nat → Prop) → Prop
  st : ∀ {w w' : World} {imm imm' : Nat → Nat → Prop} {b : Nat} {F : Nat → Prop}, R w imm b F → (∀ b', F b' → w'.heap[b']? = w.heap[b']?) → (∀ b' q, imm b' q → imm' b' q) →
    (∀ b' q, imm b' q → w'.cell? ⟨b', q, none⟩ = w.cell? ⟨b', q, none⟩) → (∀ b' q, F b' → ¬ imm' b' q) → w.heap.size ≤ w'.heap.size → (∀ b' q, imm' b' q → b' < w'.heap.size) → R w' imm' b F

/-- An object of the call's own: a block of cells; a block whose cells behind a list's end are spare; nothing any more; a whole of blocks, told by what it stands for. -/
inductive Ob where
  | cells (cs : List PV)
  | tok
  | dead
  | abs (r : Rep)

abbrev Heap := List Ob
abbrev Env := Nat → PV

/-- The ghost: which block an object is, where a list's end is, which cells never change. -/
structure Gh where
  n : Nat
  bk : Nat → Nat
  en : Nat → Nat
  sz : Nat → Nat
  imm : Nat → Nat → Prop
  fp : Nat → Nat → Prop

def TailOk (g : Gh) (a : Option Addr) (len flat cap : Nat) : Tail → Prop
  | .no => True
  | .exact => cap = len
  | .tok o => o < g.n ∧ ∃ A s, a = some A ∧ A.spot = none ∧ A.block = g.bk o ∧ A.off + flat = g.en o ∧ 0 < len ∧ flat = len * s ∧ A.off + cap * s ≤ g.sz o

def At (A : Addr) (q : Nat) : Addr := ⟨A.block, A.off + q, none⟩

inductive Rel (g : Gh) (w : World) : PV → Value → Prop where
  | any (v : Value) : Rel g w .any v
  | bool (b : Bool) : Rel g w (.bool b) (.bool b)
  | int (k : IntKind) (n : Int) : Rel g w (.int k n) (.int k n)
  | str (s : ByteArray) : Rel g w (.str s) (.string s)
  | list (es : List (List PV)) (t : Tail) (a : Option Addr) (cap : Nat) (cv : Nat → Value)
      (hu : ∀ e ∈ es, ∀ e' ∈ es, e.length = e'.length) (hl : es.length ≤ cap)
      (ht : TailOk g a es.length es.flatten.length cap t)
      (hc : ∀ q, q < es.flatten.length → ∃ A, a = some A ∧ A.spot = none ∧ g.imm A.block (A.off + q) ∧ w.cell? (At A q) = some (cv q))
      (hr : ∀ q x, es.flatten[q]? = some x → Rel g w x (cv q)) : Rel g w (.list es t) (.slice a es.length cap)
  | arr (o off len cap : Nat) (ho : o < g.n) : Rel g w (.arr o off len cap) (.slice (some ⟨g.bk o, off, none⟩) len cap)
  | ptr (o off : Nat) (ho : o < g.n) : Rel g w (.ptr o off) (.pointer (some ⟨g.bk o, off, none⟩))
  | iptr (cs : List PV) (A : Addr) (cv : Nat → Value) (hs : A.spot = none)
      (hc : ∀ q, q < cs.length → g.imm A.block (A.off + q) ∧ w.cell? (At A q) = some (cv q))
      (hr : ∀ q x, cs[q]? = some x → Rel g w x (cv q)) : Rel g w (.iptr cs) (.pointer (some A))
  | nilptr : Rel g w .nilptr (.pointer none)
  | nilfn : Rel g w .nilfn .nilFunc
  | fn (f : Nat) (caps : List PV) (vs : Array Value) (cv : Nat → Value) (hs : vs.size = caps.length) (hc : ∀ q, q < caps.length → vs[q]? = some (cv q))
      (hr : ∀ q x, caps[q]? = some x → Rel g w x (cv q)) : Rel g w (.fn f caps) (.func (.func f) #[] vs)
  | agg (cs : List PV) (vs : Array Value) (cv : Nat → Value) (hs : vs.size = cs.length) (hc : ∀ q, q < cs.length → vs[q]? = some (cv q))
      (hr : ∀ q x, cs[q]? = some x → Rel g w x (cv q)) : Rel g w (.agg cs) (.agg vs)
  | tup (cs : List PV) (vs : Array Value) (cv : Nat → Value) (hs : vs.size = cs.length) (hc : ∀ q, q < cs.length → vs[q]? = some (cv q))
      (hr : ∀ q x, cs[q]? = some x → Rel g w x (cv q)) : Rel g w (.tup cs) (.tuple vs)

/-- The relation's growth. -/
structure Gext (g : Gh) (w : World) (g' : Gh) (w' : World) : Prop where
  n : g.n ≤ g'.n
  bk : ∀ o, o < g.n → g'.bk o = g.bk o
  en : ∀ o, o < g.n → g'.en o = g.en o
  sz : ∀ o, o < g.n → g'.sz o = g.sz o
  imm : ∀ b q, g.imm b q → g'.imm b q
  cell : ∀ b q, g.imm b q → w'.cell? ⟨b, q, none⟩ = w.cell? ⟨b, q, none⟩

theorem Gext.refl (g : Gh) (w : World) : Gext g w g w := ⟨Nat.le_refl _, fun _ _ => rfl, fun _ _ => rfl, fun _ _ => rfl, fun _ _ h => h, fun _ _ _ => rfl⟩

theorem Gext.trans {g g' g'' : Gh} {w w' w'' : World} (h : Gext g w g' w') (h' : Gext g' w' g'' w'') : Gext g w g'' w'' :=
  ⟨Nat.le_trans h.n h'.n, fun o ho => (h'.bk o (Nat.lt_of_lt_of_le ho h.n)).trans (h.bk o ho), fun o ho => (h'.en o (Nat.lt_of_lt_of_le ho h.n)).trans (h.en o ho),
    fun o ho => (h'.sz o (Nat.lt_of_lt_of_le ho h.n)).trans (h.sz o ho),
    fun b q hi => h'.imm b q (h.imm b q hi), fun b q hi => (h'.cell b q (h.imm b q hi)).trans (h.cell b q hi)⟩

theorem TailOk.mono {g g' : Gh} {w w' : World} (hx : Gext g w g' w') {a : Option Addr} {len flat cap : Nat} {t : Tail} (h : TailOk g a len flat cap t) : TailOk g' a len flat cap t := by
  cases t with
  | no => trivial
  | exact => exact h
  | tok o =>
    obtain ⟨ho, A, s, h1, h2, h3, h4, h5, h6, h7⟩ := h
    exact ⟨Nat.lt_of_lt_of_le ho hx.n, A, s, h1, h2, by rw [hx.bk o ho, h3], by rw [hx.en o ho, h4], h5, h6, by rw [hx.sz o ho]; exact h7⟩

theorem Rel.mono {g g' : Gh} {w w' : World} (hx : Gext g w g' w') {x : PV} {v : Value} (h : Rel g w x v) : Rel g' w' x v := by
  induction h with
  | any v => exact .any v
  | bool b => exact .bool b
  | int k n => exact .int k n
  | str s => exact .str s
  | list es t a cap cv hu hl ht hc hr ih =>
    refine .list es t a cap cv hu hl (ht.mono hx) (fun q hq => ?_) ih
    obtain ⟨A, h1, h2, h3, h4⟩ := hc q hq
    exact ⟨A, h1, h2, hx.imm _ _ h3, (hx.cell _ _ h3).trans h4⟩
  | arr o off len cap ho => rw [← hx.bk o ho]; exact .arr o off len cap (Nat.lt_of_lt_of_le ho hx.n)
  | ptr o off ho => rw [← hx.bk o ho]; exact .ptr o off (Nat.lt_of_lt_of_le ho hx.n)
  | iptr cs A cv hs hc hr ih => exact .iptr cs A cv hs (fun q hq => ⟨hx.imm _ _ (hc q hq).1, (hx.cell _ _ (hc q hq).1).trans (hc q hq).2⟩) ih
  | nilptr => exact .nilptr
  | nilfn => exact .nilfn
  | fn f caps vs cv hs hc hr ih => exact .fn f caps vs cv hs hc ih
  | agg cs vs cv hs hc hr ih => exact .agg cs vs cv hs hc ih
  | tup cs vs cv hs hc hr ih => exact .tup cs vs cv hs hc ih

/-- Cells of a value, as pure values. -/
def PV.cells : PV → Option (List PV)
  | .agg cs => some cs
  | .any | .tup _ => none
  | x => some [x]

/-- pointwise: a row of pure values reads as a row of values -/
def RelL (g : Gh) (w : World) (xs : List PV) (vs : List Value) : Prop := xs.length = vs.length ∧ ∀ (q : Nat) (x : PV) (v : Value), xs[q]? = some x → vs[q]? = some v → Rel g w x v

theorem RelL.mono {g g' : Gh} {w w' : World} (hx : Gext g w g' w') {xs : List PV} {vs : List Value} (h : RelL g w xs vs) : RelL g' w' xs vs :=
  ⟨h.1, fun q x v h1 h2 => (h.2 q x v h1 h2).mono hx⟩

theorem RelL.nil {g : Gh} {w : World} : RelL g w [] [] := ⟨rfl, fun q x v h => by simp at h⟩

theorem RelL.cons {g : Gh} {w : World} {x : PV} {v : Value} {xs : List PV} {vs : List Value} (h : Rel g w x v) (hs : RelL g w xs vs) : RelL g w (x :: xs) (v :: vs) := by
  refine ⟨by simp [hs.1], fun q y u h1 h2 => ?_⟩
  cases q with
  | zero => simp at h1 h2; subst h1; subst h2; exact h
  | succ q => exact hs.2 q y u (by simpa using h1) (by simpa using h2)

theorem RelL.append {g : Gh} {w : World} {xs ys : List PV} {vs us : List Value} (h : RelL g w xs vs) (h' : RelL g w ys us) : RelL g w (xs ++ ys) (vs ++ us) := by
  refine ⟨by simp [h.1, h'.1], fun q y u h1 h2 => ?_⟩
  by_cases hq : q < xs.length
  · rw [List.getElem?_append_left hq] at h1
    rw [List.getElem?_append_left (by rw [← h.1]; exact hq)] at h2
    exact h.2 q y u h1 h2
  · rw [List.getElem?_append_right (Nat.le_of_not_lt hq)] at h1
    rw [List.getElem?_append_right (by rw [← h.1]; exact Nat.le_of_not_lt hq), ← h.1] at h2
    exact h'.2 _ y u h1 h2

theorem RelL.get {g : Gh} {w : World} {xs : List PV} {vs : List Value} (h : RelL g w xs vs) {q : Nat} {x : PV} (hx : xs[q]? = some x) : ∃ v, vs[q]? = some v ∧ Rel g w x v := by
  have hq : q < xs.length := (List.getElem?_eq_some_iff.1 hx).1
  have hv : q < vs.length := by rw [← h.1]; exact hq
  exact ⟨vs[q], List.getElem?_eq_getElem hv, h.2 q x _ hx (List.getElem?_eq_getElem hv)⟩

theorem RelL.take {g : Gh} {w : World} {xs : List PV} {vs : List Value} (h : RelL g w xs vs) (n : Nat) : RelL g w (xs.take n) (vs.take n) := by
  refine ⟨by simp [h.1], fun q x v h1 h2 => ?_⟩
  rw [List.getElem?_take] at h1 h2
  split at h1
  · rename_i hq; rw [if_pos hq] at h2; exact h.2 q x v h1 h2
  · cases h1

theorem RelL.drop {g : Gh} {w : World} {xs : List PV} {vs : List Value} (h : RelL g w xs vs) (n : Nat) : RelL g w (xs.drop n) (vs.drop n) := by
  refine ⟨by simp [h.1], fun q x v h1 h2 => ?_⟩
  rw [List.getElem?_drop] at h1 h2
  exact h.2 _ x v h1 h2

theorem RelL.set {g : Gh} {w : World} {xs : List PV} {vs : List Value} (h : RelL g w xs vs) {x : PV} {v : Value} (hx : Rel g w x v) (n : Nat) : RelL g w (xs.set n x) (vs.set n v) := by
  refine ⟨by simp [h.1], fun q y u h1 h2 => ?_⟩
  rw [List.getElem?_set] at h1 h2
  by_cases hn : n = q
  · simp only [if_pos hn] at h1 h2
    split at h1
    · split at h2
      · cases h1; cases h2; exact hx
      · cases h2
    · cases h1
  · simp only [if_neg hn] at h1 h2
    exact h.2 q y u h1 h2

theorem Rel.agg_iff {g : Gh} {w : World} {cs : List PV} {v : Value} : Rel g w (.agg cs) v ↔ ∃ vs : Array Value, v = .agg vs ∧ RelL g w cs vs.toList := by
  constructor
  · intro h
    cases h with
    | agg _ vs cv hs hc hr =>
      refine ⟨vs, rfl, by simp [hs], fun q x v h1 h2 => ?_⟩
      have hq : q < cs.length := (List.getElem?_eq_some_iff.1 h1).1
      have := hc q hq
      rw [Array.getElem?_toList] at h2
      rw [this] at h2; cases h2
      exact hr q x h1
  · rintro ⟨vs, rfl, h⟩
    refine .agg cs vs (fun q => vs.getD q default) (by have := h.1; simp at this; omega) (fun q hq => ?_) (fun q x hx => ?_)
    · have : q < vs.size := by have := h.1; simp at this; omega
      simp [Array.getD, this]
    · obtain ⟨v, hv, hr⟩ := h.get hx
      rw [Array.getElem?_toList] at hv
      obtain ⟨hlt, he⟩ := Array.getElem?_eq_some_iff.1 hv
      simp only [Array.getD, hlt, dif_pos]
      rw [← he] at hr; exact hr

theorem Rel.tup_iff {g : Gh} {w : World} {cs : List PV} {v : Value} : Rel g w (.tup cs) v ↔ ∃ vs : Array Value, v = .tuple vs ∧ RelL g w cs vs.toList := by
  constructor
  · intro h
    cases h with
    | tup _ vs cv hs hc hr =>
      refine ⟨vs, rfl, by simp [hs], fun q x v h1 h2 => ?_⟩
      have hq : q < cs.length := (List.getElem?_eq_some_iff.1 h1).1
      have := hc q hq
      rw [Array.getElem?_toList] at h2
      rw [this] at h2; cases h2
      exact hr q x h1
  · rintro ⟨vs, rfl, h⟩
    refine .tup cs vs (fun q => vs.getD q default) (by have := h.1; simp at this; omega) (fun q hq => ?_) (fun q x hx => ?_)
    · have : q < vs.size := by have := h.1; simp at this; omega
      simp [Array.getD, this]
    · obtain ⟨v, hv, hr⟩ := h.get hx
      rw [Array.getElem?_toList] at hv
      obtain ⟨hlt, he⟩ := Array.getElem?_eq_some_iff.1 hv
      simp only [Array.getD, hlt, dif_pos]
      rw [← he] at hr; exact hr

theorem Rel.fn_iff {g : Gh} {w : World} {f : Nat} {cs : List PV} {v : Value} : Rel g w (.fn f cs) v ↔ ∃ vs : Array Value, v = .func (.func f) #[] vs ∧ RelL g w cs vs.toList := by
  constructor
  · intro h
    cases h with
    | fn _ _ vs cv hs hc hr =>
      refine ⟨vs, rfl, by simp [hs], fun q x v h1 h2 => ?_⟩
      have hq : q < cs.length := (List.getElem?_eq_some_iff.1 h1).1
      have := hc q hq
      rw [Array.getElem?_toList] at h2
      rw [this] at h2; cases h2
      exact hr q x h1
  · rintro ⟨vs, rfl, h⟩
    refine .fn f cs vs (fun q => vs.getD q default) (by have := h.1; simp at this; omega) (fun q hq => ?_) (fun q x hx => ?_)
    · have : q < vs.size := by have := h.1; simp at this; omega
      simp [Array.getD, this]
    · obtain ⟨v, hv, hr⟩ := h.get hx
      rw [Array.getElem?_toList] at hv
      obtain ⟨hlt, he⟩ := Array.getElem?_eq_some_iff.1 hv
      simp only [Array.getD, hlt, dif_pos]
      rw [← he] at hr; exact hr

/-- a row of cells in memory, at an address, that never changes -/
def ImmRow (g : Gh) (w : World) (A : Addr) (cs : List PV) : Prop :=
  A.spot = none ∧ ∀ (q : Nat) (x : PV), cs[q]? = some x → g.imm A.block (A.off + q) ∧ ∃ c, w.cell? (At A q) = some c ∧ Rel g w x c

theorem Rel.iptr_iff {g : Gh} {w : World} {cs : List PV} {v : Value} : Rel g w (.iptr cs) v ↔ ∃ A, v = .pointer (some A) ∧ ImmRow g w A cs := by
  constructor
  · intro h
    cases h with
    | iptr _ A cv hs hc hr =>
      refine ⟨A, rfl, hs, fun q x hx => ?_⟩
      have hq : q < cs.length := (List.getElem?_eq_some_iff.1 hx).1
      exact ⟨(hc q hq).1, _, (hc q hq).2, hr q x hx⟩
  · rintro ⟨A, rfl, hs, h⟩
    refine .iptr cs A (fun q => (w.cell? (At A q)).getD default) hs (fun q hq => ?_) (fun q x hx => ?_)
    · obtain ⟨h1, c, h2, _⟩ := h q cs[q] (List.getElem?_eq_getElem hq)
      exact ⟨h1, by rw [h2]; rfl⟩
    · obtain ⟨_, c, h2, h3⟩ := h q x hx
      rw [h2]; exact h3

theorem Rel.list_iff {g : Gh} {w : World} {es : List (List PV)} {t : Tail} {v : Value} : Rel g w (.list es t) v ↔
    ∃ a cap, v = .slice a es.length cap ∧ (∀ e ∈ es, ∀ e' ∈ es, e.length = e'.length) ∧ es.length ≤ cap ∧ TailOk g a es.length es.flatten.length cap t ∧
      (es.flatten = [] ∨ ∃ A, a = some A ∧ ImmRow g w A es.flatten) := by
  constructor
  · intro h
    cases h with
    | list _ _ a cap cv hu hl ht hc hr =>
      refine ⟨a, cap, rfl, hu, hl, ht, ?_⟩
      by_cases hf : es.flatten = []
      · exact .inl hf
      · refine .inr ?_
        have h0 : 0 < es.flatten.length := List.length_pos_iff.2 hf
        obtain ⟨A, hA, hs, _, _⟩ := hc 0 h0
        refine ⟨A, hA, hs, fun q x hx => ?_⟩
        have hq : q < es.flatten.length := (List.getElem?_eq_some_iff.1 hx).1
        obtain ⟨A', hA', _, h3, h4⟩ := hc q hq
        rw [hA] at hA'; cases hA'
        exact ⟨h3, _, h4, hr q x hx⟩
  · rintro ⟨a, cap, rfl, hu, hl, ht, hc⟩
    rcases hc with hf | ⟨A, rfl, hs, h⟩
    · exact .list es t a cap (fun _ => default) hu hl ht (fun q hq => by rw [hf] at hq; simp at hq) (fun q x hx => by rw [hf] at hx; simp at hx)
    · refine .list es t (some A) cap (fun q => (w.cell? (At A q)).getD default) hu hl ht (fun q hq => ?_) (fun q x hx => ?_)
      · obtain ⟨h1, c, h2, _⟩ := h q es.flatten[q] (List.getElem?_eq_getElem hq)
        exact ⟨A, rfl, hs, h1, by rw [h2]; rfl⟩
      · obtain ⟨_, c, h2, h3⟩ := h q x hx
        rw [h2]; exact h3

theorem Rel.cells_of {g : Gh} {w : World} {x : PV} {v : Value} {cs : List PV} (h : Rel g w x v) (hc : x.cells = some cs) : RelL g w cs v.cells.toList := by
  cases h <;> simp only [PV.cells, Option.some.injEq, reduceCtorEq] at hc <;> subst hc <;>
    first
    | (refine RelL.cons ?_ RelL.nil; first | exact .bool _ | exact .int _ _ | exact .str _ | exact .nilptr | exact .nilfn | (constructor <;> assumption))
    | skip
  rename_i vs cv hs hc hr
  obtain ⟨vs', e, h'⟩ := Rel.agg_iff.1 (Rel.agg _ vs cv hs hc hr)
  cases e; exact h'

end Go.AM
