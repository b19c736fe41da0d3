/-
  An abstract machine over values without memory, proved against the model; part 4. A tool for the proofs of this claim; it states nothing of the program.
-/
import Derived.Test.YtmcincfonnfblaaA3
/-! AM, part 4: operations on pure values: what each comes to. -/
namespace Go.AM
open Go

def pv1 : Value → PV
  | .bool b => .bool b
  | .int k n => .int k n
  | .string s => .str s
  | .slice none 0 0 => .list [] .exact
  | .pointer none => .nilptr
  | .nilFunc => .nilfn
  | _ => .any

def pvOf : Value → PV
  | .agg vs => .agg (vs.toList.map pv1)
  | .tuple vs => .tup (vs.toList.map pv1)
  | v => pv1 v

theorem rel_nil (g : Gh) (w : World) : Rel g w (.list [] .exact) (.slice none 0 0) :=
  Rel.list_iff.2 ⟨none, 0, rfl, by simp, by simp, rfl, .inl rfl⟩

theorem rel_pv1 (g : Gh) (w : World) (v : Value) : Rel g w (pv1 v) v := by
  unfold pv1
  split <;> first | exact .bool _ | exact .int _ _ | exact .str _ | exact rel_nil g w | exact .nilptr | exact .nilfn | exact .any _

theorem relL_pv1 (g : Gh) (w : World) (vs : List Value) : RelL g w (vs.map pv1) vs := by
  induction vs with
  | nil => exact .nil
  | cons v vs ih => exact .cons (rel_pv1 g w v) ih

theorem rel_pvOf (g : Gh) (w : World) (v : Value) : Rel g w (pvOf v) v := by
  unfold pvOf
  split
  · exact Rel.agg_iff.2 ⟨_, rfl, relL_pv1 g w _⟩
  · exact Rel.tup_iff.2 ⟨_, rfl, relL_pv1 g w _⟩
  · exact rel_pv1 g w v

/-- the program-wide variables that are known -/
abbrev Glob := Nat → Option (List PV)
def GlobOk (g : Gh) (w : World) (gl : Glob) : Prop := ∀ k cs, gl k = some cs → ImmRow g w ⟨k, 0, none⟩ cs

theorem ImmRow.mono {g g' : Gh} {w w' : World} (hx : Gext g w g' w') {A : Addr} {cs : List PV} (h : ImmRow g w A cs) : ImmRow g' w' A cs :=
  ⟨h.1, fun q x hq => by obtain ⟨h1, c, h2, h3⟩ := h.2 q x hq; exact ⟨hx.imm _ _ h1, c, (hx.cell _ _ h1).trans h2, h3.mono hx⟩⟩

theorem GlobOk.mono {g g' : Gh} {w w' : World} (hx : Gext g w g' w') {gl : Glob} (h : GlobOk g w gl) : GlobOk g' w' gl :=
  fun k cs hk => (h k cs hk).mono hx

def ev (gl : Glob) (e : Env) : Operand → PV
  | .tmp t => e t
  | .const v => pvOf v
  | .global g => match gl g with | some cs => .iptr cs | none => .any
  | .func f => .fn f []

/-- the frame's slots read as the environment says -/
def EnvRel (g : Gh) (w : World) (n : Nat) (e : Env) (a : Act) : Prop := a.tmps.size = n ∧ ∀ t, Rel g w (e t) (a.tmps.getD t undef)

theorem EnvRel.mono {g g' : Gh} {w w' : World} (hx : Gext g w g' w') {n : Nat} {e : Env} {a : Act} (h : EnvRel g w n e a) : EnvRel g' w' n e a :=
  ⟨h.1, fun t => (h.2 t).mono hx⟩

theorem EnvRel.ev {g : Gh} {w : World} {gl : Glob} (hg : GlobOk g w gl) {n : Nat} {e : Env} {a : Act} (h : EnvRel g w n e a) (x : Operand) : Rel g w (ev gl e x) (a.eval x) := by
  cases x with
  | tmp t => exact h.2 t
  | const v => exact rel_pvOf g w v
  | global k =>
    simp only [AM.ev, Act.eval]
    cases hk : gl k with
    | none => exact .any _
    | some cs => exact Rel.iptr_iff.2 ⟨_, rfl, hg k cs hk⟩
  | func f => exact Rel.fn_iff.2 ⟨#[], rfl, .nil⟩

/-- the value operations' promise -/
def VOk (P : Program) (s : Sem Value) (g : Gh) (H : Heap) (w : World) (K : PV → Heap → Prop) : Prop :=
  ∃ v w' g' H' x, s.run P w = .ok v w' ∧ Sim g' H' w' ∧ Ext g H w g' H' w' ∧ Rel g' w' x v ∧ K x H'

theorem VOk.same {P : Program} {s : Sem Value} {g : Gh} {H : Heap} {w : World} {K : PV → Heap → Prop} (h : Sim g H w) {v : Value} {x : PV} (hr : s.run P w = .ok v w) (hx : Rel g w x v) (hk : K x H) : VOk P s g H w K :=
  ⟨v, w, g, H, x, hr, h, .refl g H w, hx, hk⟩

theorem VOk.congr {P : Program} {s s' : Sem Value} {g : Gh} {H : Heap} {w : World} {K : PV → Heap → Prop} (h : VOk P s' g H w K) (e : s.run P w = s'.run P w) : VOk P s g H w K := by
  obtain ⟨v, w', g', H', x, h1, h2⟩ := h
  exact ⟨v, w', g', H', x, e.trans h1, h2⟩

def zeroA (P : Program) (t : TypeId) : Option (List PV) := ((P.info? t).bind (·.zero)).map fun v => v.cells.toList.map pv1

theorem zeroA_spec {P : Program} {t : TypeId} {cs : List PV} (h : zeroA P t = some cs) : ∃ v, (∀ w, (zeroValue t).run P w = .ok v w) ∧ ∀ g w, RelL g w cs v.cells.toList := by
  unfold zeroA at h
  cases hi : P.info? t with
  | none => simp [hi] at h
  | some i =>
    cases hz : i.zero with
    | none => simp [hi, hz] at h
    | some v =>
      simp [hi, hz] at h
      refine ⟨v, fun w => ?_, fun g w => by rw [← h]; exact relL_pv1 g w _⟩
      unfold zeroValue
      rw [Sem.run_bind, run_info hi]
      simp [hz]

theorem vok_new {P : Program} {g : Gh} {H : Heap} {w : World} {K : PV → Heap → Prop} (h : Sim g H w) {cs : List PV} {v : Value} (t : TypeId) (hr : RelL g w cs v.cells.toList)
    (hk : K (.ptr H.length 0) (H ++ [.cells cs])) : VOk P (do pure (.pointer (some (← newVar t v)))) g H w K := by
  obtain ⟨h1, h2, h3⟩ := h.new t hr
  exact ⟨_, _, _, _, _, by simp [newVar, newRow], h1, h2, h3, hk⟩

theorem vok_alloc {P : Program} {g : Gh} {H : Heap} {w : World} {K : PV → Heap → Prop} (h : Sim g H w) {t : TypeId} {cs : List PV} (hz : zeroA P t = some cs)
    (hk : K (.ptr H.length 0) (H ++ [.cells cs])) : VOk P (Instr.alloc t true (.tuple #[])) g H w K := by
  obtain ⟨v, hv, hr⟩ := zeroA_spec hz
  refine (vok_new (P := P) (v := v) h t (hr g w) hk).congr ?_
  unfold Instr.alloc
  rw [Sem.run_bind, hv]
  simp

theorem vok_box {P : Program} {g : Gh} {H : Heap} {w : World} {K : PV → Heap → Prop} (h : Sim g H w) {t : TypeId} {x : PV} {v : Value} {cs : List PV} (hx : Rel g w x v) (hc : x.cells = some cs)
    (hk : K (.ptr H.length 0) (H ++ [.cells cs])) : VOk P (Instr.box t v) g H w K :=
  vok_new h t (hx.cells_of hc) hk

/-- what lies behind a pointer -/
def behind (H : Heap) : PV → Option (List PV)
  | .iptr cs => some cs
  | .ptr o off => match H[o]? with
    | some (.cells cs) => some (cs.drop off)
    | _ => none
  | _ => none

theorem behind_spec {g : Gh} {H : Heap} {w : World} (h : Sim g H w) {x : PV} {v : Value} (hx : Rel g w x v) {cs : List PV} (hb : behind H x = some cs) :
    ∃ A, v = .pointer (some A) ∧ RowAt g w A cs := by
  cases hx <;> simp only [behind, reduceCtorEq] at hb
  · rename_i o off ho
    split at hb
    · rename_i cs' ho'
      cases hb
      exact ⟨_, rfl, h.rowAt ho' off⟩
    · cases hb
  · rename_i cs' A cv hs hc hr
    cases hb
    obtain ⟨A', e, hi⟩ := Rel.iptr_iff.1 (Rel.iptr cs A cv hs hc hr)
    cases e
    exact ⟨A, rfl, hi.row⟩

theorem vok_load {P : Program} {g : Gh} {H : Heap} {w : World} {K : PV → Heap → Prop} (h : Sim g H w) {t : TypeId} {x : PV} {v : Value} (hx : Rel g w x v) {cs : List PV} (hb : behind H x = some cs)
    {b : Bool} {sz : Nat} (ht : tyA P t = some (b, sz)) {y : PV} (hl : loadPV b sz cs = some y) (hk : K y H) : VOk P (Instr.loadAt t v) g H w K := by
  obtain ⟨A, rfl, hr⟩ := behind_spec h hx hb
  obtain ⟨u, h1, h2⟩ := load_row hr ht hl
  exact VOk.same h (v := u) (by simp [Instr.loadAt, Instr.sureAddr, h1]) h2 hk

/-- a field's place and size -/
def fldA (P : Program) (s : TypeId) (f : Nat) : Option (Nat × Bool × Nat) :=
  match P.underlying s with
  | some (.struct fs) => match fs[f]? with
    | some d => match tyA P d.type with
      | some (b, sz) => if sz = 0 then none else some (d.offset, b, sz)
      | none => none
    | none => none
  | _ => none

theorem fldA_spec {P : Program} {s : TypeId} {f off : Nat} {b : Bool} {sz : Nat} (h : fldA P s f = some (off, b, sz)) :
    ∃ fs d, P.underlying s = some (.struct fs) ∧ fs[f]? = some d ∧ tyA P d.type = some (b, sz) ∧ sz ≠ 0 ∧ d.offset = off := by
  unfold fldA at h
  split at h <;> first | (cases h; done) | skip
  rename_i fs hu
  split at h <;> first | (cases h; done) | skip
  rename_i d hd
  split at h <;> first | (cases h; done) | skip
  rename_i b' sz' ht
  split at h
  · cases h
  · simp only [Option.some.injEq, Prod.mk.injEq] at h
    obtain ⟨h1, h2, h3⟩ := h
    subst h1; subst h2; subst h3
    exact ⟨fs, d, hu, hd, ht, by assumption, rfl⟩

def shiftP (n : Nat) : PV → Option PV
  | .iptr cs => some (.iptr (cs.drop n))
  | .ptr o off => some (.ptr o (off + n))
  | _ => none

theorem ImmRow.drop {g : Gh} {w : World} {A : Addr} {cs : List PV} (h : ImmRow g w A cs) (n : Nat) : ImmRow g w (At A n) (cs.drop n) := by
  refine ⟨rfl, fun q x hq => ?_⟩
  rw [List.getElem?_drop] at hq
  obtain ⟨h1, c, h2, h3⟩ := h.2 _ x hq
  refine ⟨by simp only [At]; rw [Nat.add_assoc]; exact h1, c, ?_, h3⟩
  simp only [At] at h2 ⊢
  rw [Nat.add_assoc]; exact h2

theorem shiftP_spec {g : Gh} {w : World} {x y : PV} {v : Value} (hx : Rel g w x v) {n : Nat} (hs : shiftP n x = some y) : ∃ A, v = .pointer (some A) ∧ A.spot = none ∧ Rel g w y (.pointer (some (At A n))) := by
  cases hx <;> simp only [shiftP, reduceCtorEq, Option.some.injEq] at hs
  · rename_i o off ho
    subst hs
    exact ⟨_, rfl, rfl, .ptr o (off + n) ho⟩
  · rename_i cs A cv hsp hc hr
    subst hs
    obtain ⟨A', e, hi⟩ := Rel.iptr_iff.1 (Rel.iptr cs A cv hsp hc hr)
    cases e
    exact ⟨A, rfl, hsp, Rel.iptr_iff.2 ⟨_, rfl, hi.drop n⟩⟩

theorem vok_fieldAddr {P : Program} {g : Gh} {H : Heap} {w : World} {K : PV → Heap → Prop} (h : Sim g H w) {s : TypeId} {f off sz : Nat} {b : Bool} (hf : fldA P s f = some (off, b, sz))
    {x y : PV} {v : Value} (hx : Rel g w x v) (hs : shiftP off x = some y) (hk : K y H) : VOk P (Instr.fieldAt s v f) g H w K := by
  obtain ⟨fs, d, h1, h2, h3, h4, rfl⟩ := fldA_spec hf
  obtain ⟨A, rfl, hsp, hy⟩ := shiftP_spec hx hs
  refine VOk.same h (v := .pointer (some (At A d.offset))) ?_ hy hk
  unfold Instr.fieldAt
  rw [Sem.run_bind, run_under h1]
  simp only [Result.andThen_ok, h2, Sem.run_bind, Instr.sureAddr, Sem.run_pure]
  unfold fieldPlace
  rw [Sem.run_bind, run_sizeOf h3]
  simp [h4, addr_add hsp]

def partA (b : Bool) (off sz : Nat) (cs : List PV) : Option PV :=
  if b = true then (if off + sz ≤ cs.length then some (.agg ((cs.drop off).take sz)) else none) else cs[off]?

theorem run_part {P : Program} {g : Gh} {w : World} {t : TypeId} {b : Bool} {sz off : Nat} (ht : tyA P t = some (b, sz)) {cs : List PV} {vs : Array Value} (hr : RelL g w cs vs.toList)
    {y : PV} (hp : partA b off sz cs = some y) : ∃ u, (part t vs off).run P w = .ok u w ∧ Rel g w y u := by
  unfold part
  rw [Sem.run_bind, run_isAgg ht]
  simp only [Result.andThen_ok]
  unfold partA at hp
  cases b with
  | true =>
    simp only [if_true] at hp ⊢
    split at hp
    · cases hp
      refine ⟨.agg (vs.extract off (off + sz)), ?_, Rel.agg_iff.2 ⟨_, rfl, ?_⟩⟩
      · rw [Sem.run_bind, run_sizeOf ht]; rfl
      · have := (hr.drop off).take sz
        simpa [List.drop_take] using this
    · cases hp
  | false =>
    simp only [Bool.false_eq_true, if_false] at hp ⊢
    obtain ⟨u, hu, hrel⟩ := hr.get hp
    rw [Array.getElem?_toList] at hu
    exact ⟨u, by rw [hu]; rfl, hrel⟩

theorem vok_field {P : Program} {g : Gh} {H : Heap} {w : World} {K : PV → Heap → Prop} (h : Sim g H w) {s : TypeId} {f off sz : Nat} {b : Bool} (hf : fldA P s f = some (off, b, sz))
    {cs : List PV} {v : Value} (hx : Rel g w (.agg cs) v) {y : PV} (hp : partA b off sz cs = some y) (hk : K y H) : VOk P (Instr.field s v f) g H w K := by
  obtain ⟨fs, d, h1, h2, h3, h4, rfl⟩ := fldA_spec hf
  obtain ⟨vs, rfl, hr⟩ := Rel.agg_iff.1 hx
  obtain ⟨u, h5, h6⟩ := run_part h3 hr hp
  refine VOk.same h (v := u) ?_ h6 hk
  unfold Instr.field
  rw [Sem.run_bind, run_under h1]
  simp only [Result.andThen_ok, h2, Sem.run_bind, asAgg, Sem.run_pure]
  exact h5

/-- an element type's cells and bytes -/
def elA (P : Program) (t : TypeId) : Option (Option Nat × Bool × Nat × Nat × TypeId) :=
  match P.underlying t with
  | some (.slice e) => match tyA P e, P.info? e with
    | some (b, sz), some i => some (none, b, sz, i.bytes, e)
    | _, _ => none
  | some (.array n e) => match tyA P e, P.info? e with
    | some (b, sz), some i => some (some n, b, sz, i.bytes, e)
    | _, _ => none
  | _ => none

theorem elA_slice {P : Program} {t : TypeId} {b : Bool} {sz by_ : Nat} {e : TypeId} (h : elA P t = some (none, b, sz, by_, e)) :
    P.underlying t = some (.slice e) ∧ tyA P e = some (b, sz) ∧ ∃ i, P.info? e = some i ∧ i.bytes = by_ := by
  unfold elA at h
  split at h
  · rename_i e' hu
    split at h
    · rename_i b' sz' i ht hi
      simp only [Option.some.injEq, Prod.mk.injEq, true_and] at h
      obtain ⟨rfl, rfl, rfl, rfl⟩ := h
      exact ⟨hu, ht, i, hi, rfl⟩
    · cases h
  · split at h
    · simp at h
    · cases h
  · cases h

theorem elA_array {P : Program} {t : TypeId} {n : Nat} {b : Bool} {sz by_ : Nat} {e : TypeId} (h : elA P t = some (some n, b, sz, by_, e)) :
    P.underlying t = some (.array n e) ∧ tyA P e = some (b, sz) ∧ ∃ i, P.info? e = some i ∧ i.bytes = by_ := by
  unfold elA at h
  split at h
  · split at h
    · simp at h
    · cases h
  · rename_i n' e' hu
    split at h
    · rename_i b' sz' i ht hi
      simp only [Option.some.injEq, Prod.mk.injEq] at h
      obtain ⟨rfl, rfl, rfl, rfl, rfl⟩ := h
      exact ⟨hu, ht, i, hi, rfl⟩
    · cases h
  · cases h

/-- rows of equal length -/
theorem flat_take {es : List (List PV)} {s : Nat} (hu : ∀ e ∈ es, e.length = s) (i : Nat) (hi : i ≤ es.length) : (es.take i).flatten.length = i * s := by
  induction es generalizing i with
  | nil => simp at hi; subst hi; simp
  | cons e es ih =>
    cases i with
    | zero => simp
    | succ i =>
      simp only [List.take_succ_cons, List.flatten_cons, List.length_append]
      rw [hu e (by simp), ih (fun e' h' => hu e' (by simp [h'])) i (by simpa using hi)]
      rw [Nat.succ_mul]; omega

theorem flat_drop {es : List (List PV)} {s : Nat} (hu : ∀ e ∈ es, e.length = s) (i : Nat) (hi : i ≤ es.length) : es.flatten.drop (i * s) = (es.drop i).flatten := by
  conv => lhs; rw [← List.take_append_drop i es, List.flatten_append]
  rw [List.drop_append_of_le_length (by rw [flat_take hu i hi]; omega), List.drop_eq_nil_of_le (by rw [flat_take hu i hi]; omega)]
  rfl

theorem ImmRow.front {g : Gh} {w : World} {A : Addr} {cs ds : List PV} (h : ImmRow g w A (cs ++ ds)) : ImmRow g w A cs :=
  ⟨h.1, fun q x hq => h.2 q x (by rw [List.getElem?_append_left (List.getElem?_eq_some_iff.1 hq).1]; exact hq)⟩

/-- an element of a list, as memory -/
theorem list_elem {g : Gh} {w : World} {es : List (List PV)} {t : Tail} {v : Value} (h : Rel g w (.list es t) v) {i s : Nat} {e : List PV} (he : es[i]? = some e) (hs : e.length = s) (hs0 : s ≠ 0) :
    ∃ A cap, v = .slice (some A) es.length cap ∧ A.spot = none ∧ Rel g w (.iptr e) (.pointer (some (At A (i * s)))) := by
  obtain ⟨a, cap, rfl, hu, hl, ht, hc⟩ := Rel.list_iff.1 h
  have hmem : e ∈ es := List.mem_of_getElem? he
  have hi : i < es.length := (List.getElem?_eq_some_iff.1 he).1
  have hu' : ∀ e' ∈ es, e'.length = s := fun e' he' => by rw [← hs]; exact hu e' he' e hmem
  rcases hc with hf | ⟨A, rfl, hr⟩
  · exfalso
    have := flat_take hu' es.length (Nat.le_refl _)
    rw [List.take_length, hf] at this
    rcases Nat.mul_eq_zero.1 this.symm with h1 | h1
    · rw [h1] at hi; simp at hi
    · exact hs0 h1
  · refine ⟨A, cap, rfl, hr.1, Rel.iptr_iff.2 ⟨_, rfl, ?_⟩⟩
    have := hr.drop (i * s)
    rw [flat_drop hu' i (Nat.le_of_lt hi), List.drop_eq_getElem_cons hi, List.flatten_cons] at this
    have he' : es[i] = e := by rw [List.getElem?_eq_getElem hi] at he; exact Option.some.inj he
    rw [he'] at this
    exact this.front

def idx (k : Int) (n : Nat) : Option Nat := if 0 ≤ k ∧ k < n then some k.toNat else none

theorem vok_indexAddr_list {P : Program} {g : Gh} {H : Heap} {w : World} {K : PV → Heap → Prop} (h : Sim g H w) {t : TypeId} {b : Bool} {sz by_ : Nat} {et : TypeId} (hel : elA P t = some (none, b, sz, by_, et))
    {es : List (List PV)} {tl : Tail} {v u : Value} (hx : Rel g w (.list es tl) v) {k : IntKind} {n : Int} (hi : Rel g w (.int k n) u) (h0 : 0 ≤ n) {e : List PV} (he : es[n.toNat]? = some e)
    (hs : e.length = sz) (hs0 : sz ≠ 0) (hk : K (.iptr e) H) : VOk P (Instr.indexAt t v u) g H w K := by
  obtain ⟨h1, h2, _⟩ := elA_slice hel
  obtain ⟨A, cap, rfl, hsp, hr⟩ := list_elem hx he hs hs0
  cases hi
  refine VOk.same h (v := .pointer (some (At A (n.toNat * sz)))) ?_ hr hk
  have hlt : n.toNat < es.length := (List.getElem?_eq_some_iff.1 he).1
  unfold Instr.indexAt
  simp only [asIntOf, Sem.run_bind, Sem.run_pure, Result.andThen_ok, run_under h1]
  rw [if_pos ⟨h0, by omega⟩]
  simp only [Sem.run_bind, run_sizeOf h2, Result.andThen_ok, addr_add hsp, Sem.run_pure]

theorem vok_indexAddr_arr {P : Program} {g : Gh} {H : Heap} {w : World} {K : PV → Heap → Prop} (h : Sim g H w) {t : TypeId} {b : Bool} {sz by_ : Nat} {et : TypeId} (hel : elA P t = some (none, b, sz, by_, et))
    {o off len cap : Nat} {v u : Value} (hx : Rel g w (.arr o off len cap) v) {k : IntKind} {n : Int} (hi : Rel g w (.int k n) u) (h0 : 0 ≤ n) (hn : n < len)
    (hk : K (.ptr o (off + n.toNat * sz)) H) : VOk P (Instr.indexAt t v u) g H w K := by
  obtain ⟨h1, h2, _⟩ := elA_slice hel
  cases hx with
  | arr _ _ _ _ ho =>
  cases hi
  refine VOk.same h (v := .pointer (some (At ⟨g.bk o, off, none⟩ (n.toNat * sz)))) ?_ (.ptr o (off + n.toNat * sz) ho) hk
  unfold Instr.indexAt
  simp only [asIntOf, Sem.run_bind, Sem.run_pure, Result.andThen_ok, run_under h1]
  rw [if_pos ⟨h0, by omega⟩]
  simp only [Sem.run_bind, run_sizeOf h2, Result.andThen_ok, Sem.run_pure]
  rw [addr_add rfl]

theorem vok_indexAddr_array {P : Program} {g : Gh} {H : Heap} {w : World} {K : PV → Heap → Prop} (h : Sim g H w) {t : TypeId} {m : Nat} {b : Bool} {sz by_ : Nat} {et : TypeId} (hel : elA P t = some (some m, b, sz, by_, et))
    {x y : PV} {v u : Value} (hx : Rel g w x v) {k : IntKind} {n : Int} (hi : Rel g w (.int k n) u) (h0 : 0 ≤ n) (hn : n < m) (hs : shiftP (n.toNat * sz) x = some y)
    (hk : K y H) : VOk P (Instr.indexAt t v u) g H w K := by
  obtain ⟨h1, h2, _⟩ := elA_array hel
  obtain ⟨A, rfl, hsp, hr⟩ := shiftP_spec hx hs
  cases hi
  refine VOk.same h (v := .pointer (some (At A (n.toNat * sz)))) ?_ hr hk
  unfold Instr.indexAt
  simp only [asIntOf, Sem.run_bind, Sem.run_pure, Result.andThen_ok, run_under h1, Instr.sureAddr]
  rw [if_pos ⟨h0, by omega⟩]
  simp only [Sem.run_bind, run_sizeOf h2, Result.andThen_ok, Sem.run_pure, addr_add hsp]

theorem vok_index {P : Program} {g : Gh} {H : Heap} {w : World} {K : PV → Heap → Prop} (h : Sim g H w) {t : TypeId} {m : Nat} {b : Bool} {sz by_ : Nat} {et : TypeId} (hel : elA P t = some (some m, b, sz, by_, et))
    {cs : List PV} {y : PV} {v u : Value} (hx : Rel g w (.agg cs) v) {k : IntKind} {n : Int} (hi : Rel g w (.int k n) u) (h0 : 0 ≤ n) (hn : n < m) (hp : partA b (n.toNat * sz) sz cs = some y)
    (hk : K y H) : VOk P (Instr.index t v u) g H w K := by
  obtain ⟨h1, h2, _⟩ := elA_array hel
  obtain ⟨vs, rfl, hr⟩ := Rel.agg_iff.1 hx
  obtain ⟨z, h5, h6⟩ := run_part h2 hr hp
  cases hi
  refine VOk.same h (v := z) ?_ h6 hk
  unfold Instr.index
  simp only [asIntOf, Sem.run_bind, Sem.run_pure, Result.andThen_ok, run_under h1]
  rw [if_pos ⟨h0, by omega⟩]
  simp only [Sem.run_bind, run_sizeOf h2, Result.andThen_ok]
  exact h5

end Go.AM
