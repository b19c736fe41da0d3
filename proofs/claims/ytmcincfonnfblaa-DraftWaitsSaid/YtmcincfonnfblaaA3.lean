/-
  An abstract machine over values without memory, proved against the model; part 3. A tool for the proofs of this claim; it states nothing of the program.
-/
import Derived.Test.YtmcincfonnfblaaA2
/-! AM, part 3: operations. -/
namespace Go.AM
open Go

/-- is it a struct or an array; its cells -/
def tyA (P : Program) (t : TypeId) : Option (Bool × Nat) :=
  match P.underlying t, P.info? t with
  | some (.struct _), some i => some (true, i.size)
  | some (.array _ _), some i => some (true, i.size)
  | some _, some i => some (false, i.size)
  | _, _ => none

theorem run_info {P : Program} {t : TypeId} {i : TypeInfo} (h : P.info? t = some i) (w : World) : (typeInfo t).run P w = .ok i w := by
  simp [typeInfo, h]
theorem run_under {P : Program} {t : TypeId} {d : TypeDesc} (h : P.underlying t = some d) (w : World) : (underlying t).run P w = .ok d w := by
  simp [underlying, h]

theorem tyA_spec {P : Program} {t : TypeId} {b : Bool} {sz : Nat} (h : tyA P t = some (b, sz)) :
    ∃ d i, P.underlying t = some d ∧ P.info? t = some i ∧ i.size = sz ∧ (match d with | .struct _ | .array _ _ => true | _ => false) = b := by
  unfold tyA at h
  split at h <;> first | (cases h; done) | skip
  · rename_i fs i h1 h2; simp only [Option.some.injEq, Prod.mk.injEq] at h; exact ⟨_, i, h1, h2, h.2, h.1⟩
  · rename_i n e i h1 h2; simp only [Option.some.injEq, Prod.mk.injEq] at h; exact ⟨_, i, h1, h2, h.2, h.1⟩
  · rename_i d i hn1 hn2 h1 h2; simp only [Option.some.injEq, Prod.mk.injEq] at h
    refine ⟨d, i, h1, h2, h.2, ?_⟩
    split
    · rename_i fs; exact absurd rfl (hn1 _)
    · rename_i n e; exact absurd rfl (hn2 _ _)
    · exact h.1

theorem run_isAgg {P : Program} {t : TypeId} {b : Bool} {sz : Nat} (h : tyA P t = some (b, sz)) (w : World) : (isAgg t).run P w = .ok b w := by
  obtain ⟨d, i, h1, h2, h3, h4⟩ := tyA_spec h
  unfold isAgg
  rw [Sem.run_bind, run_under h1]
  simp only [Result.andThen_ok]
  rw [← h4]
  cases d <;> rfl

theorem run_sizeOf {P : Program} {t : TypeId} {b : Bool} {sz : Nat} (h : tyA P t = some (b, sz)) (w : World) : (sizeOf t).run P w = .ok sz w := by
  obtain ⟨d, i, h1, h2, h3, h4⟩ := tyA_spec h
  unfold sizeOf
  rw [Sem.run_bind, run_info h2]
  simp [h3]

/-- cells that can be read from an address on -/
def RowAt (g : Gh) (w : World) (A : Addr) (cs : List PV) : Prop :=
  A.spot = none ∧ ∀ (q : Nat) (x : PV), cs[q]? = some x → ∃ c, w.cell? (At A q) = some c ∧ Rel g w x c

theorem ImmRow.row {g : Gh} {w : World} {A : Addr} {cs : List PV} (h : ImmRow g w A cs) : RowAt g w A cs :=
  ⟨h.1, fun q x hx => (h.2 q x hx).2⟩

theorem Sim.rowAt {g : Gh} {H : Heap} {w : World} (h : Sim g H w) {o : Nat} {cs : List PV} (ho : H[o]? = some (.cells cs)) (off : Nat) : RowAt g w ⟨g.bk o, off, none⟩ (cs.drop off) := by
  obtain ⟨⟨C, ty, hC, hr⟩, _⟩ := h.cells o cs ho
  refine ⟨rfl, fun q x hx => ?_⟩
  rw [List.getElem?_drop] at hx
  obtain ⟨v, hv, hrel⟩ := hr.get hx
  exact ⟨v, by simp only [At]; rw [cell_of_block hC]; rw [Array.getElem?_toList] at hv; exact hv, hrel⟩

theorem RowAt.vals {g : Gh} {w : World} {A : Addr} {cs : List PV} (h : RowAt g w A cs) (n : Nat) (hn : n ≤ cs.length) :
    ∃ vs : List Value, vs.length = n ∧ RelL g w (cs.take n) vs ∧ ∀ (q : Nat) (v : Value), vs[q]? = some v → w.cell? (At A q) = some v := by
  refine ⟨(List.range n).map fun q => (w.cell? (At A q)).getD default, by simp, ⟨by simp [Nat.min_eq_left hn], fun q x v h1 h2 => ?_⟩, fun q v hv => ?_⟩
  · rw [List.getElem?_take] at h1
    split at h1
    · rename_i hq
      rw [List.getElem?_map, List.getElem?_range hq] at h2
      obtain ⟨c, h3, h4⟩ := h.2 q x h1
      simp [h3] at h2; rw [← h2]; exact h4
    · cases h1
  · have hq : q < n := by
      have := (List.getElem?_eq_some_iff.1 hv).1; simpa using this
    rw [List.getElem?_map, List.getElem?_range hq] at hv
    obtain ⟨c, h3, h4⟩ := h.2 q cs[q] (List.getElem?_eq_getElem (by omega))
    simp [h3] at hv; rw [← hv]; exact h3

def loadPV (b : Bool) (sz : Nat) (cs : List PV) : Option PV :=
  if b = true then (if sz ≤ cs.length then some (.agg (cs.take sz)) else none) else cs[0]?

theorem load_row {P : Program} {g : Gh} {w : World} {A : Addr} {cs : List PV} (h : RowAt g w A cs) {t : TypeId} {b : Bool} {sz : Nat} (ht : tyA P t = some (b, sz))
    {x : PV} (hl : loadPV b sz cs = some x) : ∃ v, (loadVar t A).run P w = .ok v w ∧ Rel g w x v := by
  unfold loadVar
  rw [Sem.run_bind, run_isAgg ht]
  simp only [Result.andThen_ok]
  unfold loadPV at hl
  cases b with
  | true =>
    simp only [if_true] at hl ⊢
    split at hl
    · rename_i hn
      cases hl
      obtain ⟨vs, h1, h2, h3⟩ := h.vals sz hn
      refine ⟨.agg vs.toArray, ?_, Rel.agg_iff.2 ⟨_, rfl, by simpa using h2⟩⟩
      rw [Sem.run_bind, run_sizeOf ht]
      simp only [Result.andThen_ok, Sem.run_bind]
      rw [← h1, run_loadCells P w A h.1 vs h3]
      rfl
    · cases hl
  | false =>
    simp only [Bool.false_eq_true, if_false] at hl ⊢
    obtain ⟨c, h1, h2⟩ := h.2 0 x hl
    refine ⟨c, ?_, h2⟩
    rw [run_load]
    have : At A 0 = A := by have := h.1; cases A; simp [At] at *; exact this.symm
    rw [this] at h1
    rw [h1]

/-- a value of one cell -/
def PV.one : PV → Bool
  | .any | .agg _ | .tup _ => false
  | _ => true

theorem one_of_rel {g : Gh} {w : World} {y : PV} {u : Value} (h : Rel g w y u) (hy : y.one = true) : u.oneCell' = true := by
  cases h <;> first | rfl | (cases hy; done)

theorem one_of_cells {g : Gh} {w : World} {cs : List PV} {vs : List Value} (hr : RelL g w cs vs) (h1 : cs.all PV.one = true) : ∀ u ∈ vs, u.oneCell' = true := by
  intro u hu
  obtain ⟨q, hq, rfl⟩ := List.mem_iff_getElem.1 hu
  have hq' : q < cs.length := by rw [hr.1]; exact hq
  exact one_of_rel (hr.2 q cs[q] _ (List.getElem?_eq_getElem hq') (List.getElem?_eq_getElem hq)) (List.all_eq_true.1 h1 _ (List.getElem_mem hq'))

theorem RelL.over {g : Gh} {w : World} {cs xs : List PV} {C vs : List Value} (h : RelL g w cs C) (hx : RelL g w xs vs) (off : Nat) : RelL g w (over cs off xs) (over C off vs) := by
  unfold AM.over
  rw [hx.1]
  exact ((h.take off).append hx).append (h.drop _)

/-- a store into an object -/
theorem store_obj {P : Program} {g : Gh} {H : Heap} {w : World} (h : Sim g H w) {o off : Nat} {cs xs : List PV} (ho : H[o]? = some (.cells cs)) {v : Value} {t : TypeId} {b : Bool} {sz : Nat}
    (ht : tyA P t = some (b, sz)) (hv : RelL g w xs v.cells.toList) (hl : xs.length = sz) (h1 : xs.all PV.one = true) (hn : off + sz ≤ cs.length) :
    ∃ w', (storeVar t ⟨g.bk o, off, none⟩ v).run P w = .ok () w' ∧ Sim g (H.set o (.cells (over cs off xs))) w' ∧ Ext g H w g (H.set o (.cells (over cs off xs))) w' := by
  obtain ⟨⟨C, ty, hC, hr⟩, _⟩ := h.cells o cs ho
  have hsz : v.cells.size = sz := by have := hv.1; simp at this; omega
  have hCl : C.size = cs.length := by have := hr.1; simp at this; omega
  refine ⟨wput w (g.bk o) (.cells (over C.toList off v.cells.toList).toArray ty (0, 0)), ?_, ?_⟩
  · unfold storeVar
    rw [Sem.run_bind, run_sizeOf ht]
    simp only [Result.andThen_ok, hsz, ne_eq, not_true_eq_false, if_false]
    have := run_storeCells P (b := g.bk o) (ty := ty) v.cells.toList w C ⟨g.bk o, off, none⟩ 0 rfl rfl hC (one_of_cells hv h1) (by simp; omega)
    simpa using this
  · exact h.put ho (by simpa using hr.over hv off)

end Go.AM
