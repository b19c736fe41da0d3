/-
  An abstract machine over values without memory, proved against the model; part 2. A tool for the proofs of this claim; it states nothing of the program.
-/
import Derived.Test.YtmcincfonnfblaaA1
import Derived.Laws.Sem
import Derived.Laws.World
/-! AM, part 2: objects against blocks; what a step may do to the world. -/
namespace Go.AM
open Go

def Ob.alive : Ob → Bool
  | .dead => false
  | _ => true

/-- the blocks of an object -/
def blk (g : Gh) : Ob → Nat → Nat → Prop
  | .abs _, o, b => g.fp o b
  | .cells _, o, b => g.bk o = b
  | .tok, o, b => g.bk o = b
  | .dead, o, b => g.bk o = b

def own (g : Gh) (H : Heap) (b : Nat) : Prop := ∃ o ob, H[o]? = some ob ∧ ob.alive = true ∧ blk g ob o b

structure Sim (g : Gh) (H : Heap) (w : World) : Prop where
  n : g.n = H.length
  inj : ∀ (o o' : Nat) (ob ob' : Ob) (b : Nat), H[o]? = some ob → H[o']? = some ob' → ob.alive = true → ob'.alive = true → blk g ob o b → blk g ob' o' b → o = o'
  cells : ∀ (o : Nat) (cs : List PV), H[o]? = some (.cells cs) → (∃ C ty, w.heap[g.bk o]? = some (.cells C ty (0, 0)) ∧ RelL g w cs C.toList) ∧ ∀ q, ¬ g.imm (g.bk o) q
  tok : ∀ (o : Nat), H[o]? = some .tok → (∃ C ty, w.heap[g.bk o]? = some (.cells C ty (0, 0)) ∧ C.size = g.sz o) ∧ ∀ q, g.en o ≤ q → ¬ g.imm (g.bk o) q
  imm : ∀ b q, g.imm b q → b < w.heap.size
  abs : ∀ (o : Nat) (r : Rep), H[o]? = some (.abs r) → r.R w g.imm (g.bk o) (g.fp o) ∧ g.fp o (g.bk o) ∧ ∀ b, g.fp o b → b < w.heap.size ∧ ∀ q, ¬ g.imm b q

structure Ext (g : Gh) (H : Heap) (w : World) (g' : Gh) (H' : Heap) (w' : World) : Prop where
  gx : Gext g w g' w'
  size : w.heap.size ≤ w'.heap.size
  ow : ∀ b, b < w.heap.size → own g' H' b → own g H b
  frame : ∀ b, b < w.heap.size → ¬ own g H b → w'.heap[b]? = w.heap[b]?
  os : w'.os = w.os
  tape : w'.tape = w.tape
  output : w'.output = w.output
  im : ∀ b q, b < w.heap.size → g'.imm b q → g.imm b q ∨ own g H b

theorem Ext.refl (g : Gh) (H : Heap) (w : World) : Ext g H w g H w := ⟨.refl g w, Nat.le_refl _, fun _ _ h => h, fun _ _ _ => rfl, rfl, rfl, rfl, fun _ _ _ h => .inl h⟩

theorem Ext.trans {g g' g'' : Gh} {H H' H'' : Heap} {w w' w'' : World} (h : Ext g H w g' H' w') (h' : Ext g' H' w' g'' H'' w'') : Ext g H w g'' H'' w'' :=
  ⟨h.gx.trans h'.gx, Nat.le_trans h.size h'.size, fun b hb ho => h.ow b hb (h'.ow b (Nat.lt_of_lt_of_le hb h.size) ho),
    fun b hb ho => (h'.frame b (Nat.lt_of_lt_of_le hb h.size) (fun k => ho (h.ow b hb k))).trans (h.frame b hb ho),
    h'.os.trans h.os, h'.tape.trans h.tape, h'.output.trans h.output,
    fun b q hb hi => (h'.im b q (Nat.lt_of_lt_of_le hb h.size) hi).elim (h.im b q hb) (fun k => .inr (h.ow b hb k))⟩

/-- a block is laid anew -/
def wput (w : World) (b : Nat) (o : Obj) : World := { w with heap := w.heap.setIfInBounds b o }

theorem wput_size (w : World) (b : Nat) (o : Obj) : (wput w b o).heap.size = w.heap.size := by simp [wput]
theorem wput_get (w : World) (b k : Nat) (o : Obj) : (wput w b o).heap[k]? = if b = k then (if b < w.heap.size then some o else none) else w.heap[k]? := by
  simp [wput, Array.getElem?_setIfInBounds]
theorem wput_put (w : World) (b : Nat) (o o' : Obj) : wput (wput w b o) b o' = wput w b o' := by
  simp [wput]
theorem wput_self {w : World} {b : Nat} {o : Obj} (h : w.heap[b]? = some o) : wput w b o = w := by
  obtain ⟨hb, he⟩ := Array.getElem?_eq_some_iff.1 h
  have : w.heap.setIfInBounds b o = w.heap := by
    apply Array.ext_getElem?
    intro i
    rw [Array.getElem?_setIfInBounds]
    split
    · rename_i hi; subst hi; simp [hb, he]
    · rfl
  simp [wput, this]

theorem cell_of_block {w : World} {b : Nat} {C : Array Value} {ty : TypeId} {fr : Nat × Nat} (h : w.heap[b]? = some (.cells C ty fr)) (q : Nat) : w.cell? ⟨b, q, none⟩ = C[q]? := by
  simp [World.cell?, h]

theorem frozen_of_block {w : World} {b : Nat} {C : Array Value} {ty : TypeId} (h : w.heap[b]? = some (.cells C ty (0, 0))) (q : Nat) : w.frozen? ⟨b, q, none⟩ = false := by
  simp [World.frozen?, h]

theorem cell_put_ne (w : World) (b k q : Nat) (o : Obj) (h : b ≠ k) : (wput w b o).cell? ⟨k, q, none⟩ = w.cell? ⟨k, q, none⟩ := by
  unfold World.cell?
  rw [wput_get, if_neg h]

theorem setCell_put {w : World} {b q : Nat} {C : Array Value} {ty : TypeId} {fr : Nat × Nat} (h : w.heap[b]? = some (.cells C ty fr)) (v : Value) :
    w.setCell ⟨b, q, none⟩ v = wput w b (.cells (C.setIfInBounds q v) ty fr) := by
  obtain ⟨hb, he⟩ := Array.getElem?_eq_some_iff.1 h
  unfold World.setCell wput
  congr 1
  apply Array.ext_getElem?
  intro i
  rw [Array.getElem?_modify, Array.getElem?_setIfInBounds]
  by_cases hi : b = i
  · subst hi
    rw [if_pos rfl, if_pos rfl, if_pos hb, h]
    rfl
  · simp [hi]

theorem addr_add {A : Addr} (h : A.spot = none) (i : Nat) : A.add i = At A i := by
  unfold Addr.add At
  split
  · rename_i hi; subst hi; cases A; simp at h; subst h; rfl
  · rfl

/-- splice: cells laid over a row from a place on -/
def over {α : Type} (C : List α) (off : Nat) (vs : List α) : List α := C.take off ++ vs ++ C.drop (off + vs.length)

theorem over_length {α : Type} {C : List α} {off : Nat} {vs : List α} (h : off + vs.length ≤ C.length) : (over C off vs).length = C.length := by
  simp [over]; omega

theorem over_nil {α : Type} (C : List α) (off : Nat) : over C off [] = C := by simp [over]

theorem over_cons {α : Type} (C : List α) (off : Nat) (v : α) (vs : List α) (h : off < C.length) : over (C.set off v) (off + 1) vs = over C off (v :: vs) := by
  unfold over
  rw [List.take_set, List.drop_set, if_pos (by omega)]
  rw [List.take_add_one]
  rw [List.getElem?_eq_getElem h]
  simp only [Option.toList_some, List.length_cons]
  rw [List.set_append, if_neg (by simp; omega)]
  simp [Nat.min_eq_left (Nat.le_of_lt h), Nat.add_assoc, Nat.add_comm 1]

theorem run_storeCells (P : Program) {b : Nat} {ty : TypeId} (vs : List Value) : ∀ (w : World) (C : Array Value) (A : Addr) (i : Nat), A.block = b → A.spot = none →
    w.heap[b]? = some (.cells C ty (0, 0)) → (∀ v ∈ vs, v.oneCell' = true) → A.off + i + vs.length ≤ C.size →
    (storeCells A vs i).run P w = .ok () (wput w b (.cells (over C.toList (A.off + i) vs).toArray ty (0, 0))) := by
  induction vs with
  | nil =>
    intro w C A i _ _ h _ _
    simp only [storeCells, Sem.run_pure, over_nil]
    rw [Array.toArray_toList, wput_self h]
  | cons v vs ih =>
    intro w C A i hA hs h hv hn
    simp only [List.length_cons] at hn
    have hlt : A.off + i < C.size := by omega
    simp only [storeCells, Sem.run_bind]
    rw [run_store P w _ v .plain (hv v (by simp)), addr_add hs]
    have hAt : At A i = ⟨b, A.off + i, none⟩ := by simp [At, hA]
    rw [hAt, cell_of_block h, frozen_of_block h, Array.getElem?_eq_getElem hlt]
    simp only [Bool.false_eq_true, if_false, Result.andThen_ok]
    rw [setCell_put h]
    rw [ih (wput w b (.cells (C.setIfInBounds (A.off + i) v) ty (0, 0))) (C.setIfInBounds (A.off + i) v) A (i + 1) hA hs
      (by rw [wput_get, if_pos rfl, if_pos (Array.getElem?_eq_some_iff.1 h).1]) (fun u hu => hv u (by simp [hu])) (by simp; omega)]
    rw [wput_put, Array.toList_setIfInBounds, ← Nat.add_assoc, over_cons _ _ _ _ (by simpa using hlt)]

theorem run_loadCellsFrom (P : Program) (w : World) (A : Addr) (hs : A.spot = none) (vs : List Value) : ∀ (i : Nat) (acc : Array Value),
    (∀ (q : Nat) (v : Value), vs[q]? = some v → w.cell? (At A (i + q)) = some v) → (loadCellsFrom A i vs.length acc).run P w = .ok (acc ++ vs.toArray) w := by
  induction vs with
  | nil => intro i acc _; simp [loadCellsFrom]
  | cons v vs ih =>
    intro i acc h
    simp only [List.length_cons, loadCellsFrom, Sem.run_bind, run_load]
    rw [addr_add hs, show At A i = At A (i + 0) from rfl, h 0 v (by simp)]
    simp only [Result.andThen_ok]
    rw [ih (i + 1) (acc.push v) (fun q u hu => by rw [Nat.add_assoc, Nat.add_comm 1]; exact h (q + 1) u (by simpa using hu))]
    simp

theorem run_loadCells (P : Program) (w : World) (A : Addr) (hs : A.spot = none) (vs : List Value)
    (h : ∀ (q : Nat) (v : Value), vs[q]? = some v → w.cell? (At A q) = some v) : (loadCells A vs.length).run P w = .ok vs.toArray w := by
  unfold loadCells
  rw [run_loadCellsFrom P w A hs vs 0 #[] (by simpa using h)]
  simp

/-- kinds of steps -/
theorem Gext.drew (g : Gh) (w : World) : Gext g w g w.drew := ⟨Nat.le_refl _, fun _ _ => rfl, fun _ _ => rfl, fun _ _ => rfl, fun _ _ h => h, fun _ _ _ => rfl⟩
/-- a whole of blocks stands as it did -/
theorem Sim.absKeep {g : Gh} {H : Heap} {w : World} (h : Sim g H w) {o : Nat} {r : Rep} (ho : H[o]? = some (.abs r)) {g' : Gh} {w' : World} (hgx : Gext g w g' w') (hbk : g'.bk o = g.bk o) (hfp : ∀ b, g'.fp o b ↔ g.fp o b)
    (hfr : ∀ b, g.fp o b → w'.heap[b]? = w.heap[b]?) (hni : ∀ b q, g.fp o b → ¬ g'.imm b q) (hsz : w.heap.size ≤ w'.heap.size) (him : ∀ b q, g'.imm b q → b < w'.heap.size) :
    r.R w' g'.imm (g'.bk o) (g'.fp o) ∧ g'.fp o (g'.bk o) ∧ ∀ b, g'.fp o b → b < w'.heap.size ∧ ∀ q, ¬ g'.imm b q := by
  obtain ⟨h1, h2, h3⟩ := h.abs o r ho
  have e : g'.fp o = g.fp o := funext fun b => propext (hfp b)
  rw [hbk, e]
  exact ⟨r.st h1 hfr hgx.imm hgx.cell hni hsz him, h2, fun b hb => ⟨Nat.lt_of_lt_of_le (h3 b hb).1 hsz, fun q => hni b q hb⟩⟩

theorem Sim.drew {g : Gh} {H : Heap} {w : World} (h : Sim g H w) : Sim g H w.drew :=
  ⟨h.n, h.inj, fun o cs ho => ⟨by
    obtain ⟨C, ty, h1, h2⟩ := (h.cells o cs ho).1
    exact ⟨C, ty, h1, h2.mono (Gext.drew g w)⟩, (h.cells o cs ho).2⟩, h.tok, h.imm,
    fun _ _ ho => h.absKeep ho (Gext.drew g w) rfl (fun _ => Iff.rfl) (fun _ _ => rfl) (fun b q hb => (((h.abs _ _ ho).2.2 b hb).2 q)) (Nat.le_refl _) h.imm⟩

theorem Ext.drew (g : Gh) (H : Heap) (w : World) : Ext g H w g H w.drew := ⟨.drew g w, Nat.le_refl _, fun _ _ h => h, fun _ _ _ => rfl, rfl, rfl, rfl, fun _ _ _ h => .inl h⟩

/-- a new object -/
def Gh.push (g : Gh) (b : Nat) (e : Nat) : Gh := { g with n := g.n + 1, bk := fun o => if o = g.n then b else g.bk o, en := fun o => if o = g.n then e else g.en o, sz := fun o => if o = g.n then e else g.sz o }

theorem alloc_get (w : World) (o : Obj) (k : Nat) : (w.alloc o).heap[k]? = if k = w.heap.size then some o else w.heap[k]? := by
  show (w.heap.push o)[k]? = _
  rw [Array.getElem?_push]

theorem alloc_cell_old (w : World) (o : Obj) (b q : Nat) (h : b < w.heap.size) : (w.alloc o).cell? ⟨b, q, none⟩ = w.cell? ⟨b, q, none⟩ :=
  World.cell?_alloc_lt w o ⟨b, q, none⟩ h

theorem Gext.push {g : Gh} {w w' : World} (himm : ∀ b q, g.imm b q → b < w.heap.size) (b e : Nat) (hc : ∀ b q, b < w.heap.size → g.imm b q → w'.cell? ⟨b, q, none⟩ = w.cell? ⟨b, q, none⟩) : Gext g w (g.push b e) w' :=
  ⟨by simp [Gh.push], fun o ho => by simp [Gh.push]; omega, fun o ho => by simp [Gh.push]; omega, fun o ho => by simp [Gh.push]; omega, fun _ _ h => h, fun b q h => hc b q (himm b q h) h⟩

theorem own_lt {g : Gh} {H : Heap} {w : World} (h : Sim g H w) {b : Nat} (hb : own g H b) : b < w.heap.size := by
  obtain ⟨o, ob, h1, h2, h3⟩ := hb
  cases ob with
  | cells cs =>
    obtain ⟨⟨C, ty, hC, _⟩, _⟩ := h.cells o cs h1
    have h3 : g.bk o = b := h3
    subst h3
    exact (Array.getElem?_eq_some_iff.1 hC).1
  | tok =>
    obtain ⟨⟨C, ty, hC, _⟩, _⟩ := h.tok o h1
    have h3 : g.bk o = b := h3
    subst h3
    exact (Array.getElem?_eq_some_iff.1 hC).1
  | dead => cases h2
  | abs r => exact ((h.abs o r h1).2.2 b h3).1

/-- an object's blocks are no other object's -/
theorem Sim.apart {g : Gh} {H : Heap} {w : World} (h : Sim g H w) {o o1 : Nat} {r : Rep} {ob1 : Ob} (ho : H[o]? = some (.abs r)) (h1 : H[o1]? = some ob1) (h2 : ob1.alive = true) (hne : o ≠ o1) {b : Nat} (hb : g.fp o b) : ¬ blk g ob1 o1 b :=
  fun k => hne (h.inj o o1 _ ob1 b ho h1 rfl h2 hb k)

theorem blk_of {g g' : Gh} {o : Nat} (hbk : g'.bk o = g.bk o) (hfp : ∀ b, g'.fp o b ↔ g.fp o b) (ob : Ob) (b : Nat) : blk g' ob o b ↔ blk g ob o b := by
  cases ob with
  | abs r => exact hfp b
  | cells cs => simp only [blk, hbk]
  | tok => simp only [blk, hbk]
  | dead => simp only [blk, hbk]

theorem getElem?_snoc {α : Type} (l : List α) (x : α) (o : Nat) (y : α) (h : (l ++ [x])[o]? = some y) : (l[o]? = some y ∧ o < l.length) ∨ (o = l.length ∧ y = x) := by
  by_cases ho : o < l.length
  · rw [List.getElem?_append_left ho] at h; exact .inl ⟨h, ho⟩
  · rw [List.getElem?_append_right (Nat.le_of_not_lt ho)] at h
    have : o - l.length = 0 := by
      rcases Nat.eq_zero_or_pos (o - l.length) with h0 | h0
      · exact h0
      · rw [List.getElem?_eq_none (by simp; omega)] at h; cases h
    rw [this] at h; simp at h
    exact .inr ⟨by omega, h.symm⟩

/-- a new block, as an object of cells -/
theorem Sim.new {g : Gh} {H : Heap} {w : World} (h : Sim g H w) {cs : List PV} {C : Array Value} (ty : TypeId) (hr : RelL g w cs C.toList) :
    Sim (g.push w.heap.size 0) (H ++ [.cells cs]) (w.alloc (.cells C ty)) ∧ Ext g H w (g.push w.heap.size 0) (H ++ [.cells cs]) (w.alloc (.cells C ty)) ∧
      Rel (g.push w.heap.size 0) (w.alloc (.cells C ty)) (.ptr H.length 0) (.pointer (some ⟨w.heap.size, 0, none⟩)) := by
  have hgx : Gext g w (g.push w.heap.size 0) (w.alloc (.cells C ty)) := Gext.push h.imm _ _ (fun b q hb _ => alloc_cell_old w _ b q hb)
  have hbk : ∀ o, o < H.length → (g.push w.heap.size 0).bk o = g.bk o := fun o ho => hgx.bk o (by rw [h.n]; exact ho)
  have hbn : (g.push w.heap.size 0).bk H.length = w.heap.size := by simp [Gh.push, h.n]
  have hold : ∀ o ob b, H[o]? = some ob → ob.alive = true → blk g ob o b → b < w.heap.size := fun o ob b h1 h2 h3 => own_lt h ⟨o, ob, h1, h2, h3⟩
  have hblk : ∀ o ob b, o < H.length → (blk (g.push w.heap.size 0) ob o b ↔ blk g ob o b) := fun o ob b ho => blk_of (hbk o ho) (fun _ => Iff.rfl) ob b
  refine ⟨⟨by simp [Gh.push, h.n], ?_, ?_, ?_, ?_, ?_⟩, ⟨hgx, by simp, ?_, ?_, rfl, rfl, rfl, fun _ _ _ h => .inl h⟩, ?_⟩
  · intro o o' ob ob' b h1 h2 h3 h4 h5 h6
    rcases getElem?_snoc _ _ _ _ h1 with ⟨h1, ho⟩ | ⟨rfl, rfl⟩ <;> rcases getElem?_snoc _ _ _ _ h2 with ⟨h2, ho'⟩ | ⟨rfl, rfl⟩
    · exact h.inj o o' ob ob' b h1 h2 h3 h4 ((hblk _ _ _ ho).1 h5) ((hblk _ _ _ ho').1 h6)
    · have h6 : _ = b := h6
      rw [hbn] at h6; have := hold o ob b h1 h3 ((hblk _ _ _ ho).1 h5); omega
    · have h5 : _ = b := h5
      rw [hbn] at h5; have := hold o' ob' b h2 h4 ((hblk _ _ _ ho').1 h6); omega
    · rfl
  · intro o cs' h1
    rcases getElem?_snoc _ _ _ _ h1 with ⟨h1, ho⟩ | ⟨rfl, e⟩
    · obtain ⟨⟨C', ty', h2, h3⟩, h4⟩ := h.cells o cs' h1
      rw [hbk o ho]
      refine ⟨⟨C', ty', ?_, h3.mono hgx⟩, h4⟩
      rw [alloc_get, if_neg (Nat.ne_of_lt (hold o _ _ h1 rfl rfl))]; exact h2
    · cases e
      rw [hbn]
      exact ⟨⟨C, ty, by rw [alloc_get, if_pos rfl], hr.mono hgx⟩, fun q hq => Nat.lt_irrefl _ (h.imm _ _ hq)⟩
  · intro o h1
    rcases getElem?_snoc _ _ _ _ h1 with ⟨h1, ho⟩ | ⟨rfl, e⟩
    · obtain ⟨⟨C', ty', h2, h2'⟩, h4⟩ := h.tok o h1
      rw [hbk o ho, hgx.en o (by rw [h.n]; exact ho), hgx.sz o (by rw [h.n]; exact ho)]
      refine ⟨⟨C', ty', ?_, h2'⟩, h4⟩
      rw [alloc_get, if_neg (Nat.ne_of_lt (hold o _ _ h1 rfl rfl))]; exact h2
    · cases e
  · intro b q hq; have := h.imm b q hq; simp; omega
  · intro o r h1
    rcases getElem?_snoc _ _ _ _ h1 with ⟨h1, ho⟩ | ⟨rfl, e⟩
    · exact h.absKeep h1 hgx (hbk o ho) (fun _ => Iff.rfl) (fun b hb => by rw [alloc_get, if_neg (Nat.ne_of_lt ((h.abs o r h1).2.2 b hb).1)]) (fun b q hb => ((h.abs o r h1).2.2 b hb).2 q) (by simp) (fun b q hq => by have := h.imm b q hq; simp; omega)
    · cases e
  · rintro b hb ⟨o, ob, h1, h2, h3⟩
    rcases getElem?_snoc _ _ _ _ h1 with ⟨h1, ho⟩ | ⟨rfl, rfl⟩
    · exact ⟨o, ob, h1, h2, (hblk _ _ _ ho).1 h3⟩
    · have h3 : _ = b := h3
      rw [hbn] at h3; omega
  · intro b hb _
    rw [alloc_get, if_neg (by omega)]
  · have := Rel.ptr (g := g.push w.heap.size 0) (w := w.alloc (.cells C ty)) H.length 0 (by simp [Gh.push, h.n])
    rw [hbn] at this; exact this

/-- a new block whose cells never change: a list -/
def Gh.row (g : Gh) (b n : Nat) : Gh := { g with imm := fun b' q => g.imm b' q ∨ (b' = b ∧ q < n) }

theorem Sim.newRow {g : Gh} {H : Heap} {w : World} (h : Sim g H w) {cs : List PV} {C : Array Value} (ty : TypeId) (hr : RelL g w cs C.toList) :
    Sim (g.row w.heap.size C.size) H (w.alloc (.cells C ty)) ∧ Ext g H w (g.row w.heap.size C.size) H (w.alloc (.cells C ty)) ∧
      ImmRow (g.row w.heap.size C.size) (w.alloc (.cells C ty)) ⟨w.heap.size, 0, none⟩ cs := by
  have hgx : Gext g w (g.row w.heap.size C.size) (w.alloc (.cells C ty)) :=
    ⟨Nat.le_refl _, fun _ _ => rfl, fun _ _ => rfl, fun _ _ => rfl, fun _ _ h => .inl h, fun b q hq => alloc_cell_old w _ b q (h.imm b q hq)⟩
  have hold : ∀ o ob b, H[o]? = some ob → ob.alive = true → blk g ob o b → b < w.heap.size := fun o ob b h1 h2 h3 => own_lt h ⟨o, ob, h1, h2, h3⟩
  refine ⟨⟨h.n, fun o o' ob ob' b h1 h2 h3 h4 h5 h6 => h.inj o o' ob ob' b h1 h2 h3 h4 ((blk_of rfl (fun _ => Iff.rfl) _ _).1 h5) ((blk_of rfl (fun _ => Iff.rfl) _ _).1 h6), ?_, ?_, ?_, ?_⟩,
    ⟨hgx, by simp, fun b _ ⟨o, ob, h1, h2, h3⟩ => ⟨o, ob, h1, h2, (blk_of rfl (fun _ => Iff.rfl) _ _).1 h3⟩, ?_, rfl, rfl, rfl, fun _ _ hb h => h.imp id fun k => absurd hb (by rw [k.1]; exact Nat.lt_irrefl _)⟩, rfl, ?_⟩
  · intro o cs' h1
    obtain ⟨⟨C', ty', h2, h3⟩, h4⟩ := h.cells o cs' h1
    have hlt := hold o _ _ h1 rfl rfl
    refine ⟨⟨C', ty', ?_, h3.mono hgx⟩, ?_⟩
    · show (w.alloc _).heap[g.bk o]? = _
      rw [alloc_get, if_neg (Nat.ne_of_lt hlt)]; exact h2
    · rintro q (hq | ⟨hq, _⟩)
      · exact h4 q hq
      · exact absurd hq (Nat.ne_of_lt hlt)
  · intro o h1
    obtain ⟨⟨C', ty', h2, h2'⟩, h4⟩ := h.tok o h1
    have hlt := hold o _ _ h1 rfl rfl
    refine ⟨⟨C', ty', ?_, h2'⟩, ?_⟩
    · show (w.alloc _).heap[g.bk o]? = _
      rw [alloc_get, if_neg (Nat.ne_of_lt hlt)]; exact h2
    · rintro q hq (hi | ⟨hi, _⟩)
      · exact h4 q hq hi
      · exact absurd hi (Nat.ne_of_lt hlt)
  · rintro b q (hq | ⟨rfl, _⟩)
    · have := h.imm b q hq; simp; omega
    · simp
  · intro o r h1
    have h2 := (h.abs o r h1).2.2
    refine h.absKeep h1 hgx rfl (fun _ => Iff.rfl) (fun b hb => by rw [alloc_get, if_neg (Nat.ne_of_lt (h2 b hb).1)]) ?_ (by simp) ?_
    · rintro b q hb (hq | ⟨rfl, _⟩)
      · exact (h2 b hb).2 q hq
      · exact Nat.lt_irrefl _ (h2 _ hb).1
    · rintro b q (hq | ⟨rfl, _⟩)
      · have := h.imm b q hq; simp; omega
      · simp
  · intro b hb _
    rw [alloc_get, if_neg (by omega)]
  · intro q x hx
    obtain ⟨v, hv, hrel⟩ := hr.get hx
    rw [Array.getElem?_toList] at hv
    refine ⟨.inr ⟨rfl, by have := (Array.getElem?_eq_some_iff.1 hv).1; simpa using this⟩, v, ?_, hrel.mono hgx⟩
    simp only [At, Nat.zero_add]
    rw [World.cell?_alloc_new]; exact hv

/-- an object's cells are laid anew -/
theorem Sim.put {g : Gh} {H : Heap} {w : World} (h : Sim g H w) {o : Nat} {cs cs' : List PV} (ho : H[o]? = some (.cells cs)) {C : Array Value} {ty : TypeId}
    (hr : RelL g w cs' C.toList) : Sim g (H.set o (.cells cs')) (wput w (g.bk o) (.cells C ty (0, 0))) ∧ Ext g H w g (H.set o (.cells cs')) (wput w (g.bk o) (.cells C ty (0, 0))) := by
  have hlt : g.bk o < w.heap.size := own_lt h ⟨o, _, ho, rfl, rfl⟩
  have hol : o < H.length := (List.getElem?_eq_some_iff.1 ho).1
  have himm : ∀ q, ¬ g.imm (g.bk o) q := (h.cells o cs ho).2
  have hgx : Gext g w g (wput w (g.bk o) (.cells C ty (0, 0))) :=
    ⟨Nat.le_refl _, fun _ _ => rfl, fun _ _ => rfl, fun _ _ => rfl, fun _ _ h => h, fun b q hq => cell_put_ne w _ b q _ (fun e => himm q (e ▸ hq))⟩
  have hset : ∀ (o' : Nat) (ob : Ob), (H.set o (.cells cs'))[o']? = some ob → ob.alive = true → ∃ ob', H[o']? = some ob' ∧ ob'.alive = true ∧ ∀ b, blk g ob o' b → blk g ob' o' b := by
    intro o' ob h1 h2
    rw [List.getElem?_set] at h1
    split at h1
    · rename_i e; subst e
      cases h1
      exact ⟨_, ho, rfl, fun _ h => h⟩
    · exact ⟨ob, h1, h2, fun _ h => h⟩
  refine ⟨⟨by simp [h.n], ?_, ?_, ?_, ?_, ?_⟩, ⟨hgx, by simp [wput_size], ?_, ?_, rfl, rfl, rfl, fun _ _ _ h => .inl h⟩⟩
  · intro o1 o2 ob1 ob2 b h1 h2 h3 h4 h5 h6
    obtain ⟨ob1', k1, k2, k5⟩ := hset o1 ob1 h1 h3
    obtain ⟨ob2', k3, k4, k6⟩ := hset o2 ob2 h2 h4
    exact h.inj o1 o2 ob1' ob2' b k1 k3 k2 k4 (k5 b h5) (k6 b h6)
  · intro o1 cs1 h1
    rw [List.getElem?_set] at h1
    split at h1
    · rename_i e; subst e
      cases h1
      exact ⟨⟨C, ty, by rw [wput_get, if_pos rfl, if_pos hlt], hr.mono hgx⟩, himm⟩
    · rename_i hne
      obtain ⟨⟨C1, ty1, h2, h3⟩, h4⟩ := h.cells o1 cs1 h1
      refine ⟨⟨C1, ty1, ?_, h3.mono hgx⟩, h4⟩
      rw [wput_get, if_neg]; exact h2
      intro e; exact hne (h.inj o o1 _ _ _ ho h1 rfl rfl e rfl)
  · intro o1 h1
    rw [List.getElem?_set] at h1
    split at h1
    · cases h1
    · rename_i hne
      obtain ⟨⟨C1, ty1, h2, h2'⟩, h4⟩ := h.tok o1 h1
      refine ⟨⟨C1, ty1, ?_, h2'⟩, h4⟩
      rw [wput_get, if_neg]; exact h2
      intro e; exact hne (h.inj o o1 _ _ _ ho h1 rfl rfl e rfl)
  · intro b q hq; rw [wput_size]; exact h.imm b q hq
  · intro o1 r h1
    rw [List.getElem?_set] at h1
    split at h1
    · cases h1
    · rename_i hne
      have h2 := (h.abs o1 r h1).2.2
      refine h.absKeep h1 hgx rfl (fun _ => Iff.rfl) (fun b hb => ?_) (fun b q hb => (h2 b hb).2 q) (by simp [wput_size]) (fun b q hq => by rw [wput_size]; exact h.imm b q hq)
      rw [wput_get, if_neg]
      intro e; exact h.apart h1 ho rfl (Ne.symm hne) hb e
  · rintro b _ ⟨o1, ob1, h1, h2, h3⟩
    obtain ⟨ob', k1, k2, k3⟩ := hset o1 ob1 h1 h2
    exact ⟨o1, ob', k1, k2, k3 b h3⟩
  · intro b _ hb
    rw [wput_get, if_neg]
    intro e; exact hb ⟨o, _, ho, rfl, e⟩

/-- an object is let go: its cells never change again -/
theorem Sim.freeze {g : Gh} {H : Heap} {w : World} (h : Sim g H w) {o : Nat} {cs : List PV} (ho : H[o]? = some (.cells cs)) :
    ∃ g', Sim g' (H.set o .dead) w ∧ Ext g H w g' (H.set o .dead) w ∧ ImmRow g' w ⟨g.bk o, 0, none⟩ cs := by
  obtain ⟨⟨C, ty, hC, hr⟩, himm⟩ := h.cells o cs ho
  have hlt : g.bk o < w.heap.size := own_lt h ⟨o, _, ho, rfl, rfl⟩
  refine ⟨g.row (g.bk o) C.size, ?_⟩
  have hgx : Gext g w (g.row (g.bk o) C.size) w := ⟨Nat.le_refl _, fun _ _ => rfl, fun _ _ => rfl, fun _ _ => rfl, fun _ _ h => .inl h, fun _ _ _ => rfl⟩
  have hset : ∀ (o' : Nat) (ob : Ob), (H.set o .dead)[o']? = some ob → ob.alive = true → H[o']? = some ob ∧ o ≠ o' := by
    intro o' ob h1 h2
    rw [List.getElem?_set] at h1
    split at h1
    · split at h1
      · cases h1; cases h2
      · cases h1
    · rename_i e; exact ⟨h1, e⟩
  refine ⟨⟨by simp; exact h.n, ?_, ?_, ?_, ?_, ?_⟩, ⟨hgx, Nat.le_refl _, ?_, fun _ _ _ => rfl, rfl, rfl, rfl, fun _ _ _ h => h.imp id fun k => ⟨o, _, ho, rfl, k.1.symm⟩⟩, rfl, ?_⟩
  · intro o1 o2 ob1 ob2 b h1 h2 h3 h4 h5 h6
    exact h.inj o1 o2 ob1 ob2 b (hset _ _ h1 h3).1 (hset _ _ h2 h4).1 h3 h4 ((blk_of rfl (fun _ => Iff.rfl) _ _).1 h5) ((blk_of rfl (fun _ => Iff.rfl) _ _).1 h6)
  · intro o1 cs1 h1
    obtain ⟨h1, hne⟩ := hset _ _ h1 rfl
    obtain ⟨⟨C1, ty1, h2, h3⟩, h4⟩ := h.cells o1 cs1 h1
    refine ⟨⟨C1, ty1, h2, h3.mono hgx⟩, ?_⟩
    rintro q (hq | ⟨hq, _⟩)
    · exact h4 q hq
    · exact hne (h.inj o o1 _ _ _ ho h1 rfl rfl hq.symm rfl)
  · intro o1 h1
    obtain ⟨h1, hne⟩ := hset _ _ h1 rfl
    obtain ⟨⟨C1, ty1, h2, h2'⟩, h4⟩ := h.tok o1 h1
    refine ⟨⟨C1, ty1, h2, h2'⟩, ?_⟩
    rintro q hq (hi | ⟨hi, _⟩)
    · exact h4 q hq hi
    · exact hne (h.inj o o1 _ _ _ ho h1 rfl rfl hi.symm rfl)
  · rintro b q (hq | ⟨rfl, _⟩)
    · exact h.imm b q hq
    · exact hlt
  · intro o1 r h1
    obtain ⟨h1, hne⟩ := hset _ _ h1 rfl
    have h2 := (h.abs o1 r h1).2.2
    refine h.absKeep h1 hgx rfl (fun _ => Iff.rfl) (fun _ _ => rfl) ?_ (Nat.le_refl _) ?_
    · rintro b q hb (hq | ⟨rfl, _⟩)
      · exact (h2 b hb).2 q hq
      · exact h.apart h1 ho rfl (Ne.symm hne) hb rfl
    · rintro b q (hq | ⟨rfl, _⟩)
      · exact h.imm b q hq
      · exact hlt
  · rintro b _ ⟨o1, ob1, h1, h2, h3⟩
    exact ⟨o1, ob1, (hset _ _ h1 h2).1, h2, (blk_of rfl (fun _ => Iff.rfl) _ _).1 h3⟩
  · intro q x hx
    obtain ⟨v, hv, hrel⟩ := hr.get hx
    rw [Array.getElem?_toList] at hv
    refine ⟨.inr ⟨rfl, by have := (Array.getElem?_eq_some_iff.1 hv).1; simpa using this⟩, v, ?_, hrel.mono hgx⟩
    simp only [At, Nat.zero_add]
    rw [cell_of_block hC]; exact hv

end Go.AM
