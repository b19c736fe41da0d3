/-
  An abstract machine over values without memory, proved against the model; part 9. A tool for the proofs of this claim; it states nothing of the program.
-/
import Derived.Test.YtmcincfonnfblaaA8
/-! AM, part 9: append, copy, clear, make as operations. -/
namespace Go.AM
open Go

/-- what is appended or copied: its elements' cells, how many elements -/
def srcA (H : Heap) (sz : Nat) : PV → Option (List PV × Nat)
  | .list ys _ => some (ys.flatten, ys.length)
  | .arr o off len _ => match H[o]? with
    | some (.cells cs) => if off + len * sz ≤ cs.length then some ((cs.drop off).take (len * sz), len) else none
    | _ => none
  | _ => none

/-- a source as the machine has it -/
structure Src (P : Program) (g : Gh) (w : World) (v : Value) (sz n : Nat) (ys : List PV) (vs : List Value) : Prop where
  len : (Builtin.lenOf v).run P w = .ok n w
  cells : ∀ m, m ≤ n → ∀ w' : World, w'.heap = w.heap → (Builtin.firstCells sz m v).run P w' = .ok (vs.take (m * sz)).toArray w'
  rel : RelL g w ys vs
  size : ys.length = n * sz

theorem cell_heap {w w' : World} (h : w'.heap = w.heap) (a : Addr) : w'.cell? a = w.cell? a := by
  unfold World.cell?; rw [h]

theorem src_row {P : Program} {g : Gh} {w : World} {A : Addr} {cs : List PV} (h : RowAt g w A cs) {n sz cap : Nat} (hn : cs.length = n * sz) :
    ∃ vs, Src P g w (.slice (some A) n cap) sz n cs vs := by
  obtain ⟨vs, h1, h2, h3⟩ := h.vals cs.length (Nat.le_refl _)
  rw [List.take_length] at h2
  refine ⟨vs, rfl, fun m hm w' hw => ?_, h2, hn⟩
  simp only [Builtin.firstCells]
  have hl : (vs.take (m * sz)).length = m * sz := by
    rw [List.length_take, h1, hn]; exact Nat.min_eq_left (Nat.mul_le_mul_right _ hm)
  have := run_loadCells P w' A h.1 (vs.take (m * sz)) (fun q v hv => by
    rw [List.getElem?_take] at hv
    split at hv
    · rw [cell_heap hw]; exact h3 q v hv
    · cases hv)
  rwa [hl] at this

theorem src_spec {P : Program} {g : Gh} {H : Heap} {w : World} (h : Sim g H w) {x : PV} {v : Value} (hx : Rel g w x v) {sz n : Nat} {ys : List PV} (hs : srcA H sz x = some (ys, n)) (hu : ys.length = n * sz) :
    ∃ vs, Src P g w v sz n ys vs := by
  cases hx <;> simp only [srcA, reduceCtorEq, Option.some.injEq, Prod.mk.injEq] at hs
  · rename_i es t a cap cv h1 h2 h3 h4 h5
    obtain ⟨rfl, rfl⟩ := hs
    obtain ⟨a', cap', e, _, _, _, hc⟩ := Rel.list_iff.1 (Rel.list es t a cap cv h1 h2 h3 h4 h5)
    cases e
    rcases hc with hf | ⟨A, rfl, hr⟩
    · refine ⟨[], rfl, fun m hm w' hw => ?_, by rw [hf]; exact .nil, hu⟩
      rw [hf] at hu
      simp only [List.length_nil] at hu
      have hm0 : m * sz = 0 := by
        rcases Nat.mul_eq_zero.1 hu.symm with h0 | h0
        · have : m = 0 := by omega
          rw [this, Nat.zero_mul]
        · rw [h0, Nat.mul_zero]
      cases a with
      | none => simp [Builtin.firstCells]
      | some A =>
        simp only [Builtin.firstCells, hm0]
        simp [loadCells, loadCellsFrom]
    · exact src_row hr.row hu
  · rename_i o off len cap ho
    split at hs
    · rename_i cs hcs
      split at hs
      · rename_i hfit
        simp only [Option.some.injEq, Prod.mk.injEq] at hs
        obtain ⟨rfl, rfl⟩ := hs
        have hr := h.rowAt hcs off
        have hr' : RowAt g w ⟨g.bk o, off, none⟩ ((cs.drop off).take (len * sz)) := ⟨rfl, fun q x hq => hr.2 q x (by
          rw [List.getElem?_take] at hq
          split at hq
          · exact hq
          · cases hq)⟩
        exact src_row hr' hu
      · cases hs
    · cases hs

/-- the type facts of an append -/
structure AppT (P : Program) (ts : Array TypeId) (t e : TypeId) (i : TypeInfo) (z : Value) : Prop where
  t0 : ts[0]? = some t
  t1 : ∃ u d, ts[1]? = some u ∧ P.underlying u = some (.slice d)
  ht : P.underlying t = some (.slice e)
  hi : P.info? e = some i
  hz : i.zero = some z
  hb : i.bytes ≠ 0

theorem run_append_fit {P : Program} {g : Gh} {w : World} {ts : Array TypeId} {t e : TypeId} {i : TypeInfo} {z : Value} (h : AppT P ts t e i z) {base : Option Addr} {sLen sCap n : Nat} {x : Value} {ys : List PV} {vs : List Value}
    (hs : Src P g w x i.size n ys vs) (hfit : sLen + n ≤ sCap) (ty : TypeId) :
    (Builtin.append_ ts ty #[.slice base sLen sCap, x]).run P w =
      (match base with
        | some a => (storeCells (a.add (sLen * i.size)) vs).run P w
        | none => .ok () w).andThen fun _ w' => .ok (.slice base (sLen + n) sCap) w' := by
  have hv : vs.take (n * i.size) = vs := List.take_of_length_le (by have := hs.rel.1; have := hs.size; omega)
  have hc := hs.cells n (Nat.le_refl _) w rfl
  rw [hv] at hc
  obtain ⟨u, d, h1, h2⟩ := h.t1
  cases base with
  | none => simp [Builtin.append_, h.t0, h1, run_under h.ht, run_under h2, sizeOf, run_info h.hi, hs.len, hfit, hc]
  | some a => simp [Builtin.append_, h.t0, h1, run_under h.ht, run_under h2, sizeOf, run_info h.hi, hs.len, hfit, hc]

theorem run_append_grow' {P : Program} {g : Gh} {w : World} {ts : Array TypeId} {t e : TypeId} {i : TypeInfo} {z : Value} (h : AppT P ts t e i z) {base : Option Addr} {sLen sCap n : Nat} {x : Value} {xs ys : List PV} {us vs : List Value}
    (ho : Src P g w (.slice base sLen sCap) i.size sLen xs us) (hs : Src P g w x i.size n ys vs) (hfit : ¬ sLen + n ≤ sCap) (hb : (sLen + n) * i.bytes ≤ 140737488355328) (ty : TypeId) :
    (Builtin.append_ ts ty #[.slice base sLen sCap, x]).run P w =
      .ok (.slice (some ⟨w.heap.size, 0, none⟩) (sLen + n) (grownCap w (sLen + n) sCap e))
        (w.drew.alloc (.cells (us.toArray ++ vs.toArray ++ Builtin.zeroCells z.cells (grownCap w (sLen + n) sCap e - (sLen + n))) e)) := by
  have hv : vs.take (n * i.size) = vs := List.take_of_length_le (by have := hs.rel.1; have := hs.size; omega)
  have huu : us.take (sLen * i.size) = us := List.take_of_length_le (by have := ho.rel.1; have := ho.size; omega)
  have hc := hs.cells n (Nat.le_refl _) w.drew rfl
  have hc' := ho.cells sLen (Nat.le_refl _) w.drew rfl
  rw [hv] at hc
  rw [huu] at hc'
  obtain ⟨u, d, h1, h2⟩ := h.t1
  have h48 : ¬ (281474976710656 < Builtin.nextslicecap (sLen + n) sCap * i.bytes) := by
    have := growslice_fits (need := sLen + n) (old := sCap) (bytes := i.bytes) (by omega) hb
    omega
  have hzv : ∀ w : World, (zeroValue e).run P w = .ok z w := by
    intro w
    unfold zeroValue
    rw [Sem.run_bind, run_info h.hi]
    simp [h.hz]
  simp [Builtin.append_, h.t0, h1, run_under h.ht, run_under h2, sizeOf, run_info h.hi, hs.len, hfit, h.hb, h48, run_choose, Question.forced, hc, hc', hzv, newRow, grownCap]
  congr 2
  apply Array.ext'
  simp [List.append_assoc]

theorem appT_of {P : Program} {ts : Array TypeId} {t u e : TypeId} {b : Bool} {sz by_ : Nat} {z : List PV} (h0 : ts[0]? = some t) (h1 : ts[1]? = some u) (hu : ∃ d, P.underlying u = some (.slice d)) (hel : elA P t = some (none, b, sz, by_, e))
    (hz : zeroA P e = some z) (hb : by_ ≠ 0) : ∃ i zv, AppT P ts t e i zv ∧ i.size = sz ∧ i.bytes = by_ ∧ ∀ g w, RelL g w z zv.cells.toList := by
  obtain ⟨hut, ht, i, hi, rfl⟩ := elA_slice hel
  obtain ⟨d, i', _, hi', hsz, _⟩ := tyA_spec ht
  rw [hi] at hi'; cases hi'
  unfold zeroA at hz
  rw [hi] at hz
  cases hzz : i.zero with
  | none => simp [hzz] at hz
  | some zv =>
    simp [hzz] at hz
    obtain ⟨du, hdu⟩ := hu
    exact ⟨i, zv, ⟨h0, ⟨u, _, h1, hdu⟩, hut, hi, hzz, hb⟩, hsz, rfl, fun g w => by rw [← hz]; exact relL_pv1 g w _⟩

/-- the type facts of an append, as they are reckoned -/
def appA (P : Program) (ts : Array TypeId) : Option (Nat × Nat × List PV) :=
  match ts[0]?, ts[1]? with
  | some t, some u => match elA P t, P.underlying u with
    | some (none, _, sz, by_, e), some (.slice _) => match zeroA P e with
      | some z => if by_ = 0 ∨ sz = 0 ∨ z.length ≠ sz then none else some (sz, by_, z)
      | none => none
    | _, _ => none
  | _, _ => none

theorem appA_spec {P : Program} {ts : Array TypeId} {sz by_ : Nat} {z : List PV} (h : appA P ts = some (sz, by_, z)) :
    ∃ t e i zv, AppT P ts t e i zv ∧ i.size = sz ∧ i.bytes = by_ ∧ (∀ g w, RelL g w z zv.cells.toList) ∧ sz ≠ 0 ∧ by_ ≠ 0 ∧ z.length = sz := by
  unfold appA at h
  split at h
  · rename_i t u h0 h1
    split at h
    · rename_i b sz' by' e d hel hu
      split at h
      · rename_i z' hz
        split at h
        · cases h
        · rename_i hc
          simp only [Option.some.injEq, Prod.mk.injEq] at h
          obtain ⟨rfl, rfl, rfl⟩ := h
          have c1 : by' ≠ 0 := fun e => hc (.inl e)
          have c2 : sz' ≠ 0 := fun e => hc (.inr (.inl e))
          have c3 : z'.length = sz' := by
            rcases Decidable.em (z'.length = sz') with e | e
            · exact e
            · exact absurd (.inr (.inr e)) hc
          obtain ⟨i, zv, k1, k2, k3, k4⟩ := appT_of h0 h1 ⟨d, hu⟩ hel hz c1
          exact ⟨t, e, i, zv, k1, k2, k3, k4, c2, c1, c3⟩
      · cases h
    · cases h
  · cases h

/-- a list's own cells, as a source -/
theorem src_self {P : Program} {g : Gh} {H : Heap} {w : World} (h : Sim g H w) {es : List (List PV)} {t : Tail} {v : Value} (hx : Rel g w (.list es t) v) {sz : Nat} (hu : uni sz es) :
    ∃ vs, Src P g w v sz es.length es.flatten vs := src_spec h hx rfl (uni_flat hu)

theorem any_rel (g : Gh) (w : World) (vs : List Value) : RelL g w (List.replicate vs.length .any) vs :=
  ⟨by simp, fun q x v h1 h2 => by
    have : x = .any := by
      have hm := List.mem_of_getElem? h1
      exact List.eq_of_mem_replicate hm
    subst this; exact .any v⟩

theorem take_two (us vs : List Value) (Z : Array Value) (n : Nat) (hn : n = us.length + vs.length) : (us.toArray ++ vs.toArray ++ Z).toList.take n = us ++ vs := by
  have : (us.toArray ++ vs.toArray ++ Z).toList = (us ++ vs) ++ Z.toList := by simp
  rw [this, List.take_left' (by simp [hn])]

/-- append, where the list is full: a new block; its spare room is never used -/
theorem vok_append_full {P : Program} {g : Gh} {H : Heap} {w : World} {K : PV → Heap → Prop} (h : Sim g H w) {ts : Array TypeId} {sz by_ : Nat} {z : List PV} (ha : appA P ts = some (sz, by_, z)) (ty : TypeId)
    {es ys : List (List PV)} {y : PV} {v u : Value} (hx : Rel g w (.list es .exact) v) (hy : Rel g w y u) (hs : srcA H sz y = some (ys.flatten, ys.length)) (hue : uni sz es) (huy : uni sz ys)
    (hb : (es.length + ys.length) * by_ ≤ 140737488355328) (hk : K (.list (es ++ ys) .no) H) : VOk P (Builtin.append_ ts ty #[v, u]) g H w K := by
  obtain ⟨t, e, i, zv, hT, rfl, rfl, hzl, hs0, hb0, hzs⟩ := appA_spec ha
  obtain ⟨a, cap, hv, _, _, htl, hc⟩ := Rel.list_iff.1 hx
  subst hv
  obtain ⟨us, ho⟩ := src_self (P := P) h hx hue
  obtain ⟨vs, hS⟩ := src_spec (P := P) h hy hs (uni_flat huy)
  have hcap : cap = es.length := htl
  subst hcap
  have hu' : uni i.size (es ++ ys) := by
    intro e he
    rcases List.mem_append.1 he with he | he
    · exact hue e he
    · exact huy e he
  by_cases h0 : ys.length = 0
  · -- nothing is appended
    have hy0 : ys = [] := List.length_eq_zero_iff.1 h0
    subst hy0
    have hvs : vs = [] := by have := hS.rel.1; simp at this; exact List.length_eq_zero_iff.1 this.symm
    subst hvs
    refine VOk.same h (v := .slice a es.length es.length) ?_ ?_ hk
    · rw [run_append_fit hT hS (by simp) ty]
      cases a with
      | none => simp
      | some A => simp [storeCells]
    · rw [List.append_nil]
      exact Rel.list_iff.2 ⟨a, _, rfl, uni_eq hue, Nat.le_refl _, trivial, hc⟩
  · have hfl : (es ++ ys).flatten.length = us.length + vs.length := by
      rw [List.flatten_append, List.length_append, ho.rel.1, hS.rel.1]
    have hcells : RelL g w.drew (es ++ ys).flatten ((us.toArray ++ vs.toArray ++ Builtin.zeroCells zv.cells (grownCap w (es.length + ys.length) es.length e - (es.length + ys.length))).toList.take (es ++ ys).flatten.length) := by
      rw [take_two _ _ _ _ hfl, List.flatten_append]
      exact (ho.rel.append hS.rel).mono (Gext.drew g w)
    obtain ⟨k1, k2, k3⟩ := h.drew.newRowK e hcells
    refine ⟨.slice (some ⟨w.heap.size, 0, none⟩) (es.length + ys.length) (grownCap w (es.length + ys.length) es.length e), _, _, H, _, run_append_grow' hT ho hS (by omega) hb ty, k1, (Ext.drew g H w).trans k2, ?_, hk⟩
    refine Rel.list_iff.2 ⟨some ⟨w.heap.size, 0, none⟩, grownCap w (es.length + ys.length) es.length e, by rw [List.length_append], uni_eq hu', ?_, trivial, .inr ⟨_, rfl, k3⟩⟩
    rw [List.length_append]; exact grownCap_ge _ _ _ _

/-- append of nothing: what is there, as it stands -/
theorem vok_append_none {P : Program} {g : Gh} {H : Heap} {w : World} {K : PV → Heap → Prop} (h : Sim g H w) {ts : Array TypeId} {sz by_ : Nat} {z : List PV} (ha : appA P ts = some (sz, by_, z)) (ty : TypeId)
    {es : List (List PV)} {tl tly : Tail} {v u : Value} (hx : Rel g w (.list es tl) v) (hy : Rel g w (.list [] tly) u) (hue : uni sz es) (hk : K (.list es tl) H) : VOk P (Builtin.append_ ts ty #[v, u]) g H w K := by
  obtain ⟨t, e, i, zv, hT, rfl, rfl, hzl, hs0, hb0, hzs⟩ := appA_spec ha
  obtain ⟨a, cap, hv, h1, h2, htl, hc⟩ := Rel.list_iff.1 hx
  subst hv
  obtain ⟨vs, hS⟩ := src_spec (P := P) (sz := i.size) (ys := []) (n := 0) h hy rfl (by simp)
  have hvs : vs = [] := by have := hS.rel.1; simp at this; exact List.length_eq_zero_iff.1 this.symm
  subst hvs
  refine VOk.same h (v := .slice a es.length cap) ?_ (Rel.list_iff.2 ⟨a, cap, rfl, h1, h2, htl, hc⟩) hk
  rw [run_append_fit hT hS (by simpa using h2) ty]
  cases a with
  | none => simp
  | some A => simp [storeCells]

theorem set_snoc_len (H : Heap) (o : Nat) (x : Ob) : (H.set o x).length = H.length := by simp

/-- append behind a list whose spare room is the call's own, or that is full: the spare room behind is the call's own again -/
theorem vok_append_tok {P : Program} {g : Gh} {H : Heap} {w : World} {K : PV → Heap → Prop} (h : Sim g H w) {ts : Array TypeId} {sz by_ : Nat} {z : List PV} (ha : appA P ts = some (sz, by_, z)) (ty : TypeId)
    {es ys : List (List PV)} {tl : Tail} {y : PV} {v u : Value} (hx : Rel g w (.list es tl) v) (hy : Rel g w y u) (hs : srcA H sz y = some (ys.flatten, ys.length)) (hue : uni sz es) (huy : uni sz ys)
    (hy1 : ys.flatten.all PV.one = true) (hne : ys ≠ []) (hb : (es.length + ys.length) * by_ ≤ 140737488355328)
    (htl : match (generalizing := false) tl with | .exact => K (.list (es ++ ys) (.tok H.length)) (H ++ [.tok]) | .tok o => H[o]? = some .tok ∧ K (.list (es ++ ys) (.tok H.length)) (H.set o .dead ++ [.tok]) | .no => False) :
    VOk P (Builtin.append_ ts ty #[v, u]) g H w K := by
  obtain ⟨t, e, i, zv, hT, rfl, rfl, hzl, hs0, hb0, hzs⟩ := appA_spec ha
  obtain ⟨a, cap, hv, _, hlc, htok, hc⟩ := Rel.list_iff.1 hx
  subst hv
  obtain ⟨us, ho⟩ := src_self (P := P) h hx hue
  obtain ⟨vs, hS⟩ := src_spec (P := P) h hy hs (uni_flat huy)
  have hyl : 0 < ys.length := List.length_pos_iff.2 hne
  have hu' : uni i.size (es ++ ys) := by
    intro e he
    rcases List.mem_append.1 he with he | he
    · exact hue e he
    · exact huy e he
  have hfl : (es ++ ys).flatten.length = us.length + vs.length := by
    rw [List.flatten_append, List.length_append, ho.rel.1, hS.rel.1]
  -- the way by a new block
  have grow : ∀ (g1 : Gh) (H1 : Heap), Sim g1 H1 w → Ext g H w g1 H1 w → H1.length = H.length → ¬ es.length + ys.length ≤ cap → K (.list (es ++ ys) (.tok H.length)) (H1 ++ [.tok]) →
      VOk P (Builtin.append_ ts ty #[.slice a es.length cap, u]) g H w K := by
    intro g1 H1 hS1 hE1 hl1 hfit hk
    have hcells : RelL g1 w.drew (es ++ ys).flatten ((us.toArray ++ vs.toArray ++ Builtin.zeroCells zv.cells (grownCap w (es.length + ys.length) cap e - (es.length + ys.length))).toList.take (es ++ ys).flatten.length) := by
      rw [take_two _ _ _ _ hfl, List.flatten_append]
      exact ((ho.rel.append hS.rel).mono hE1.gx).mono (Gext.drew g1 w)
    obtain ⟨k1, k2, k3⟩ := hS1.drew.newTok e hcells
    refine ⟨.slice (some ⟨w.heap.size, 0, none⟩) (es.length + ys.length) (grownCap w (es.length + ys.length) cap e), _, _, _, _, run_append_grow' hT ho hS hfit hb ty, k1, (hE1.trans (Ext.drew g1 H1 w)).trans k2, ?_, hk⟩
    refine Rel.list_iff.2 ⟨some ⟨w.heap.size, 0, none⟩, grownCap w (es.length + ys.length) cap e, by rw [List.length_append], uni_eq hu', ?_, ?_, .inr ⟨_, rfl, k3⟩⟩
    · rw [List.length_append]; exact grownCap_ge _ _ _ _
    · have hn1 : g1.n = H.length := by rw [hS1.n, hl1]
      refine ⟨by simp [Gh.fast, hn1], _, i.size, rfl, rfl, ?_, ?_, ?_, uni_flat hu', ?_⟩
      · simp [Gh.fast, hn1]
      · simp [Gh.fast, hn1]
      · simp; omega
      · have hzc : zv.cells.size = i.size := by have := (hzl g w).1; simp at this; omega
        have h1 := grownCap_ge w (es.length + ys.length) cap e
        have h2 : us.length = es.length * i.size := by rw [← ho.rel.1]; exact ho.size
        have h3 : vs.length = ys.length * i.size := by rw [← hS.rel.1]; exact hS.size
        simp [Gh.fast, hn1, size_zeroCells, hzc, h2, h3]
        rw [← Nat.add_mul, ← Nat.add_mul]
        exact Nat.mul_le_mul_right _ (by omega)
  cases tl with
  | no => exact htl.elim
  | exact =>
    have hcap : cap = es.length := htok
    exact grow g H h (.refl g H w) rfl (by omega) htl
  | tok o =>
    obtain ⟨hot, hk⟩ := htl
    obtain ⟨hog, A, s, rfl, hsp, hblk, hend, hl0, hfs, hroom⟩ := htok
    by_cases hfit : es.length + ys.length ≤ cap
    · have hss : s = i.size := by
        have := uni_flat hue
        rw [this] at hfs
        exact (Nat.eq_of_mul_eq_mul_left hl0 hfs).symm
      subst hss
      obtain ⟨⟨C, ty', hC, hCs⟩, _⟩ := h.tok o hot
      have h3 : vs.length = ys.length * i.size := by rw [← hS.rel.1]; exact hS.size
      have hfe : es.flatten.length = es.length * i.size := uni_flat hue
      have hn : g.en o + vs.length ≤ C.size := by
        rw [← hend, hCs, hfe, h3, Nat.add_assoc, ← Nat.add_mul]
        exact Nat.le_trans (Nat.add_le_add_left (Nat.mul_le_mul_right _ hfit) _) hroom
      obtain ⟨k1, k2, k3⟩ := h.useTok hot hC hS.rel hn
      refine ⟨.slice (some A) (es.length + ys.length) cap, _, _, _, _, ?_, k1, k2, ?_, hk⟩
      · rw [run_append_fit hT hS hfit ty]
        simp only
        have hst := run_storeCells P (b := g.bk o) (ty := ty') vs w C (A.add (es.length * i.size)) 0 (by rw [addr_add hsp]; exact hblk) (by rw [addr_add hsp]; rfl) hC
          (one_of_cells hS.rel hy1) (by rw [addr_add hsp]; simp only [At]; omega)
        rw [hst]
        simp only [Result.andThen_ok]
        rw [addr_add hsp]
        simp only [At, Nat.add_zero]
        rw [← hfe, hend]
      · have hrow : ImmRow (g.fast (g.bk o) (g.en o) (g.en o + ys.flatten.length) C.size) (wput w (g.bk o) (.cells (over C.toList (g.en o) vs).toArray ty' (0, 0))) A es.flatten := by
          rcases hc with hf | ⟨A', e', hr⟩
          · exact ⟨hsp, fun q x hq => by rw [hf] at hq; simp at hq⟩
          · cases e'; exact hr.mono k2.gx
        refine Rel.list_iff.2 ⟨some A, cap, by rw [List.length_append], uni_eq hu', by rw [List.length_append]; exact hfit, ?_, .inr ⟨A, rfl, hsp, ?_⟩⟩
        · refine ⟨by simp [Gh.fast, h.n], A, i.size, rfl, hsp, by simp [Gh.fast, h.n, hblk], ?_, by simp; omega, uni_flat hu', ?_⟩
          · simp [Gh.fast, h.n]
            simp at hend
            omega
          · simp [Gh.fast, h.n, hCs]; exact hroom
        · intro q x hq
          rw [List.flatten_append] at hq
          by_cases hql : q < es.flatten.length
          · rw [List.getElem?_append_left hql] at hq
            exact hrow.2 q x hq
          · rw [List.getElem?_append_right (by omega)] at hq
            obtain ⟨j1, c, j2, j3⟩ := k3.2 _ x hq
            have e1 : g.en o + (q - es.flatten.length) = A.off + q := by omega
            simp only [At] at j1 j2 ⊢
            rw [e1] at j1 j2
            rw [hblk]
            exact ⟨j1, c, j2, j3⟩
    · obtain ⟨k1, k2⟩ := h.kill o
      exact grow g _ k1 k2 (by simp) hfit hk

end Go.AM
