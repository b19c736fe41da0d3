/-
  An abstract machine over values without memory, proved against the model; part 3. A tool for the proofs of this claim; it states nothing of the program.
-/
import Derived.Test.YthabdpaipgclpaaA2
import Derived.Laws.MakeOwn
import Derived.Deep.LoopGhost
/-! AM, part 10: rows of the call's own that are written: append, copy, clear, make. -/
namespace Go.AM
open Go

theorem zeroCells_rel {g : Gh} {w : World} {z : List PV} {zs : Array Value} (h : RelL g w z zs.toList) (n : Nat) (h0 : zs.size ≠ 0) : RelL g w (List.replicate n z).flatten (Builtin.zeroCells zs n).toList := by
  unfold Builtin.zeroCells
  rw [range_map_zero zs n (.inl h0)]
  exact relL_flat h n

theorem src_arr {P : Program} {g : Gh} {H : Heap} {w : World} (h : Sim g H w) {o off len cap sz : Nat} {v : Value} {cs : List PV} (hx : Rel g w (.arr o off len cap) v) (ho : H[o]? = some (.cells cs)) (hn : off + len * sz ≤ cs.length) :
    ∃ vs, Src P g w v sz len ((cs.drop off).take (len * sz)) vs :=
  src_spec h hx (by simp only [srcA, ho]; rw [if_pos hn]) (by simp; omega)

/-- append to a row of the call's own, or to nothing: just what the machine does -/
theorem vok_append_arr {P : Program} {g : Gh} {H : Heap} {w : World} {K : PV → Heap → Prop} (h : Sim g H w) {ts : Array TypeId} {sz by_ : Nat} {z : List PV} (ha : appA P ts = some (sz, by_, z)) (ty : TypeId)
    {o off len cap n : Nat} {cs ys : List PV} {y : PV} {v u : Value} (hx : Rel g w (.arr o off len cap) v) (ho : H[o]? = some (.cells cs)) (hlc : len ≤ cap) (hoc : off + cap * sz ≤ cs.length)
    (hy : Rel g w y u) (hs : srcA H sz y = some (ys, n)) (hyn : ys.length = n * sz) (hy1 : ys.all PV.one = true) (hb : (len + n) * by_ ≤ 140737488355328)
    (hk1 : len + n ≤ cap → K (.arr o off (len + n) cap) (H.set o (.cells (over cs (off + len * sz) ys))))
    (hk2 : cap < len + n → ∀ c, len + n ≤ c → K (.arr H.length 0 (len + n) c) (H ++ [.cells (((cs.drop off).take (len * sz)) ++ ys ++ (List.replicate (c - (len + n)) z).flatten)])) :
    VOk P (Builtin.append_ ts ty #[v, u]) g H w K := by
  obtain ⟨t, e, i, zv, hT, rfl, rfl, hzl, hs0, hb0, hzs⟩ := appA_spec ha
  have hlz : len * i.size ≤ cap * i.size := Nat.mul_le_mul_right _ hlc
  obtain ⟨us, hO⟩ := src_arr (P := P) (sz := i.size) h hx ho (by omega)
  obtain ⟨vs, hS⟩ := src_spec (P := P) h hy hs hyn
  cases hx with
  | arr _ _ _ _ hol =>
  have h3 : vs.length = n * i.size := by rw [← hS.rel.1]; exact hyn
  by_cases hfit : len + n ≤ cap
  · obtain ⟨⟨C, ty', hC, hr⟩, _⟩ := h.cells o cs ho
    have hCl : C.size = cs.length := by have := hr.1; simp at this; omega
    have hle : len * i.size + n * i.size ≤ cap * i.size := by rw [← Nat.add_mul]; exact Nat.mul_le_mul_right _ hfit
    obtain ⟨k1, k2⟩ := h.put ho (C := (over C.toList (off + len * i.size) vs).toArray) (ty := ty') (cs' := over cs (off + len * i.size) ys) (by simpa using hr.over hS.rel _)
    refine ⟨.slice (some ⟨g.bk o, off, none⟩) (len + n) cap, _, _, _, _, ?_, k1, k2, ?_, hk1 hfit⟩
    · rw [run_append_fit hT hS hfit ty]
      simp only
      have hst := run_storeCells P (b := g.bk o) (ty := ty') vs w C ((⟨g.bk o, off, none⟩ : Addr).add (len * i.size)) 0 (by rw [addr_add rfl]; rfl) (by rw [addr_add rfl]; rfl) hC
        (one_of_cells hS.rel hy1) (by rw [addr_add rfl]; simp only [At]; omega)
      rw [hst]
      simp only [Result.andThen_ok]
      rw [addr_add rfl]
      simp only [At, Nat.add_zero]
    · exact (Rel.arr o off (len + n) cap hol)
  · have hzc : zv.cells.size = i.size := by have := (hzl g w).1; simp at this; omega
    obtain ⟨k1, k2, k3⟩ := h.drew.new (cs := ((cs.drop off).take (len * i.size)) ++ ys ++ (List.replicate (grownCap w (len + n) cap e - (len + n)) z).flatten)
      (C := us.toArray ++ vs.toArray ++ Builtin.zeroCells zv.cells (grownCap w (len + n) cap e - (len + n))) e (by
        have h4 := (hO.rel.append hS.rel).append (zeroCells_rel (hzl g w) (grownCap w (len + n) cap e - (len + n)) (by omega))
        have := h4.mono (Gext.drew g w)
        simpa using this)
    refine ⟨_, _, _, _, _, run_append_grow' hT hO hS hfit hb ty, k1, (Ext.drew g H w).trans k2, ?_, hk2 (by omega) _ (grownCap_ge _ _ _ _)⟩
    have := Rel.arr (g := g.push w.drew.heap.size 0) (w := w.drew.alloc (.cells (us.toArray ++ vs.toArray ++ Builtin.zeroCells zv.cells (grownCap w (len + n) cap e - (len + n))) e)) H.length 0 (len + n) (grownCap w (len + n) cap e) (by simp [Gh.push, h.n])
    have hbk : (g.push w.drew.heap.size 0).bk H.length = w.heap.size := by simp [Gh.push, h.n]
    rw [hbk] at this
    exact this

/-- append to nothing: a row of the call's own -/
theorem vok_append_new {P : Program} {g : Gh} {H : Heap} {w : World} {K : PV → Heap → Prop} (h : Sim g H w) {ts : Array TypeId} {sz by_ : Nat} {z : List PV} (ha : appA P ts = some (sz, by_, z)) (ty : TypeId)
    {n : Nat} {ys : List PV} {y : PV} {v u : Value} (hx : Rel g w (.list [] .exact) v) (hy : Rel g w y u) (hs : srcA H sz y = some (ys, n)) (hyn : ys.length = n * sz) (hb : n * by_ ≤ 140737488355328) (hn : 0 < n)
    (hk2 : ∀ c, n ≤ c → K (.arr H.length 0 n c) (H ++ [.cells (ys ++ (List.replicate (c - n) z).flatten)])) :
    VOk P (Builtin.append_ ts ty #[v, u]) g H w K := by
  obtain ⟨t, e, i, zv, hT, rfl, rfl, hzl, hs0, hb0, hzs⟩ := appA_spec ha
  obtain ⟨a, cap, hv, _, _, htl, _⟩ := Rel.list_iff.1 hx
  subst hv
  have hcap : cap = 0 := htl
  subst hcap
  obtain ⟨us, hO⟩ := src_self (P := P) (sz := i.size) h hx (fun e he => by simp at he)
  obtain ⟨vs, hS⟩ := src_spec (P := P) h hy hs hyn
  have hus : us = [] := by have := hO.rel.1; simp at this; exact List.length_eq_zero_iff.1 this.symm
  have hzc : zv.cells.size = i.size := by have := (hzl g w).1; simp at this; omega
  have hrun := run_append_grow' hT hO hS (by simp; omega) (by simpa using hb) ty
  subst hus
  simp only [List.length_nil, Nat.zero_add] at hrun
  obtain ⟨k1, k2, k3⟩ := h.drew.new (cs := ys ++ (List.replicate (grownCap w n 0 e - n) z).flatten) (C := #[] ++ vs.toArray ++ Builtin.zeroCells zv.cells (grownCap w n 0 e - n)) e (by
    have h4 := hS.rel.append (zeroCells_rel (hzl g w) (grownCap w n 0 e - n) (by omega))
    have := h4.mono (Gext.drew g w)
    simpa using this)
  refine ⟨_, _, _, _, _, hrun, k1, (Ext.drew g H w).trans k2, ?_, hk2 _ (grownCap_ge _ _ _ _)⟩
  have := Rel.arr (g := g.push w.drew.heap.size 0) (w := w.drew.alloc (.cells (#[] ++ vs.toArray ++ Builtin.zeroCells zv.cells (grownCap w n 0 e - n)) e)) H.length 0 n (grownCap w n 0 e) (by simp [Gh.push, h.n])
  have hbk : (g.push w.drew.heap.size 0).bk H.length = w.heap.size := by simp [Gh.push, h.n]
  rw [hbk] at this
  exact this

/-- copy into a row of the call's own -/
theorem vok_copy {P : Program} {g : Gh} {H : Heap} {w : World} {K : PV → Heap → Prop} (h : Sim g H w) {ts : Array TypeId} {t et : TypeId} {b : Bool} {sz by_ : Nat} (ht0 : ts[0]? = some t) (hel : elA P t = some (none, b, sz, by_, et)) (ty : TypeId)
    {o off len cap n : Nat} {cs ys : List PV} {y : PV} {v u : Value} (hx : Rel g w (.arr o off len cap) v) (ho : H[o]? = some (.cells cs)) (hoc : off + len * sz ≤ cs.length)
    (hy : Rel g w y u) (hs : srcA H sz y = some (ys, n)) (hyn : ys.length = n * sz) (hy1 : ys.all PV.one = true)
    (hk : K (.int .i64 (min n len : Nat)) (H.set o (.cells (over cs off (ys.take (min n len * sz)))))) : VOk P (Builtin.copy_ ts ty #[v, u]) g H w K := by
  obtain ⟨hut, ht, _⟩ := elA_slice hel
  obtain ⟨vs, hS⟩ := src_spec (P := P) h hy hs hyn
  cases hx with
  | arr _ _ _ _ hol =>
  obtain ⟨⟨C, ty', hC, hr⟩, _⟩ := h.cells o cs ho
  have hCl : C.size = cs.length := by have := hr.1; simp at this; omega
  have h3 : vs.length = n * sz := by rw [← hS.rel.1]; exact hyn
  have hm1 : min n len * sz ≤ n * sz := Nat.mul_le_mul_right _ (Nat.min_le_left _ _)
  have hm2 : min n len * sz ≤ len * sz := Nat.mul_le_mul_right _ (Nat.min_le_right _ _)
  have hrt := hS.rel.take (min n len * sz)
  obtain ⟨k1, k2⟩ := h.put ho (C := (over C.toList off (vs.take (min n len * sz))).toArray) (ty := ty') (cs' := over cs off (ys.take (min n len * sz))) (by simpa using hr.over hrt off)
  refine ⟨goInt (min n len : Nat), _, _, _, _, ?_, k1, k2, .int _ _, hk⟩
  have hc := hS.cells (min n len) (Nat.min_le_left _ _) w rfl
  have hst := run_storeCells P (b := g.bk o) (ty := ty') (vs.take (min n len * sz)) w C ⟨g.bk o, off, none⟩ 0 rfl rfl hC
    (fun x hx => one_of_cells hS.rel hy1 x (List.mem_of_mem_take hx)) (by simp; omega)
  unfold Builtin.copy_
  simp only [ht0, List.getElem?_toArray, List.getElem?_cons_zero, List.getElem?_cons_succ, Sem.run_bind, run_under hut, Result.andThen_ok, hS.len, run_sizeOf ht, Nat.min_def]
  simp only [Nat.min_def] at hc hst
  rw [hc]
  simp only [Result.andThen_ok]
  rw [hst]
  simp only [Result.andThen_ok, Sem.run_pure, Nat.add_zero]

/-- clear of a row of the call's own -/
theorem vok_clear {P : Program} {g : Gh} {H : Heap} {w : World} {K : PV → Heap → Prop} (h : Sim g H w) {ts : Array TypeId} {t et : TypeId} {b : Bool} {sz by_ : Nat} (ht0 : ts[0]? = some t) (hel : elA P t = some (none, b, sz, by_, et)) (ty : TypeId)
    {z : List PV} (hz : zeroA P et = some z) (hzs : z.length = sz) (hz1 : z.all PV.one = true) {o off len cap : Nat} {cs : List PV} {v : Value} (hx : Rel g w (.arr o off len cap) v) (ho : H[o]? = some (.cells cs)) (hoc : off + len * sz ≤ cs.length)
    (hk : K (.tup []) (H.set o (.cells (over cs off (List.replicate len z).flatten)))) : VOk P (Builtin.clear_ ts ty #[v]) g H w K := by
  obtain ⟨hut, ht, _⟩ := elA_slice hel
  obtain ⟨zv, hzr, hzl⟩ := zeroA_spec hz
  cases hx with
  | arr _ _ _ _ hol =>
  obtain ⟨⟨C, ty', hC, hr⟩, _⟩ := h.cells o cs ho
  have hCl : C.size = cs.length := by have := hr.1; simp at this; omega
  have hzc : zv.cells.size = sz := by have := (hzl g w).1; simp at this; omega
  have htup : ∀ g w, Rel g w (.tup []) (.tuple #[]) := fun g w => Rel.tup_iff.2 ⟨#[], rfl, .nil⟩
  cases len with
  | zero =>
    refine VOk.same h (v := .tuple #[]) ?_ (htup g w) ?_
    · unfold Builtin.clear_
      simp [ht0, run_under hut]
    · simp only [List.replicate_zero, List.flatten_nil, over_nil] at hk
      have : H.set o (.cells cs) = H := by
        apply List.ext_getElem?
        intro q
        rw [List.getElem?_set]
        split
        · rename_i e; subst e; rw [if_pos (List.getElem?_eq_some_iff.1 ho).1, ho]
        · rfl
      rwa [this] at hk
  | succ k =>
    by_cases hs0 : sz = 0
    · -- elements without cells
      subst hs0
      have hz0 : z = [] := List.length_eq_zero_iff.1 hzs
      subst hz0
      have hfl : (List.replicate (k + 1) ([] : List PV)).flatten = [] := by simp
      rw [hfl, over_nil] at hk
      have : H.set o (.cells cs) = H := by
        apply List.ext_getElem?
        intro q
        rw [List.getElem?_set]
        split
        · rename_i e; subst e; rw [if_pos (List.getElem?_eq_some_iff.1 ho).1, ho]
        · rfl
      rw [this] at hk
      refine VOk.same h (v := .tuple #[]) ?_ (htup g w) hk
      have hzc' : Builtin.zeroCells zv.cells (k + 1) = #[] := by
        unfold Builtin.zeroCells
        rw [hzc]; simp
      unfold Builtin.clear_
      simp [ht0, run_under hut, hzr, hzc', storeCells]
    · have hrz := zeroCells_rel (hzl g w) (k + 1) (by omega)
      have hzl' : ((List.replicate (k + 1) z).flatten).length = (k + 1) * sz := by simp [hzs]
      obtain ⟨k1, k2⟩ := h.put ho (C := (over C.toList off (Builtin.zeroCells zv.cells (k + 1)).toList).toArray) (ty := ty') (cs' := over cs off (List.replicate (k + 1) z).flatten) (by simpa using hr.over hrz off)
      refine ⟨.tuple #[], _, _, _, _, ?_, k1, k2, htup _ _, hk⟩
      have hst := run_storeCells P (b := g.bk o) (ty := ty') (Builtin.zeroCells zv.cells (k + 1)).toList w C ⟨g.bk o, off, none⟩ 0 rfl rfl hC
        (one_of_cells hrz (by
          rw [List.all_eq_true]
          intro x hx
          obtain ⟨l, hl, hxl⟩ := List.mem_flatten.1 hx
          rw [List.eq_of_mem_replicate hl] at hxl
          exact List.all_eq_true.1 hz1 x hxl)) (by rw [← hrz.1, hzl']; simp; omega)
      unfold Builtin.clear_
      simp only [ht0, List.getElem?_toArray, List.getElem?_cons_zero, Sem.run_bind, run_under hut, Result.andThen_ok, hzr]
      rw [hst]
      simp

/-- a row is made -/
theorem vok_makeSlice {P : Program} {g : Gh} {H : Heap} {w : World} {K : PV → Heap → Prop} (h : Sim g H w) {t et : TypeId} {b : Bool} {sz by_ : Nat} (hel : elA P t = some (none, b, sz, by_, et))
    {z : List PV} (hz : zeroA P et = some z) (hzs : z.length = sz) (hs0 : sz ≠ 0) {k k' : IntKind} {l c : Int} {v u : Value} (hx : Rel g w (.int k l) v) (hy : Rel g w (.int k' c) u) (h0 : 0 ≤ l) (h1 : l ≤ c) (hc : c ≤ 140737488355328) (hb : c * by_ ≤ 140737488355328)
    (hk : K (.arr H.length 0 l.toNat c.toNat) (H ++ [.cells (List.replicate c.toNat z).flatten])) : VOk P (Instr.makeSlice t v u) g H w K := by
  obtain ⟨hut, ht, i, hi, hib⟩ := elA_slice hel
  obtain ⟨zv, hzr, hzl⟩ := zeroA_spec hz
  cases hx; cases hy
  have hzc : zv.cells.size = sz := by have := (hzl g w).1; simp at this; omega
  have hwrap : ∀ n : Int, 0 ≤ n → n ≤ 140737488355328 → IntKind.i64.wrap n = n := by
    intro n h0 h1
    simp [IntKind.wrap, IntKind.bits, IntKind.signed]; omega
  have wl := hwrap l h0 (by omega)
  have wc := hwrap c (by omega) hc
  obtain ⟨C, hC1, hC2⟩ : ∃ C : Array Value, (∃ zero : Array Value, (if c.toNat * sz = 0 then pure #[] else do pure (← zeroValue et).cells : Sem (Array Value)).run P w = .ok zero w ∧
      (Array.range (c.toNat * sz)).map (fun i => zero[i % zero.size]!) = C) ∧ C.toList = (List.replicate c.toNat zv.cells.toList).flatten := by
    by_cases hn : c.toNat * sz = 0
    · have hc0 : c.toNat = 0 := by
        rcases Nat.mul_eq_zero.1 hn with h | h
        · exact h
        · exact absurd h hs0
      rw [hc0]
      exact ⟨#[], ⟨#[], by simp, by simp⟩, by simp⟩
    · refine ⟨_, ⟨zv.cells, by rw [if_neg hn, Sem.run_bind, hzr]; rfl, rfl⟩, ?_⟩
      have := range_map_zero zv.cells c.toNat (.inl (by omega))
      rwa [hzc] at this ⊢
  obtain ⟨zero, hz1, hz2⟩ := hC1
  obtain ⟨k1, k2, k3⟩ := h.new (cs := (List.replicate c.toNat z).flatten) (C := C) et (by rw [hC2]; exact relL_flat (hzl g w) _)
  refine ⟨.slice (some ⟨w.heap.size, 0, none⟩) l.toNat c.toNat, _, _, _, _, ?_, k1, k2, ?_, hk⟩
  · have t1 : ¬ (i.bytes : Int) * c > 281474976710656 := by rw [hib, Int.mul_comm]; omega
    have t2 : ¬ 281474976710656 < (i.bytes : Int) * c := by omega
    have t3 : ¬ c < 0 := by omega
    have t4 : ¬ l < 0 := by omega
    have t5 : ¬ c < l := by omega
    by_cases hn : c.toNat * sz = 0
    · rw [if_pos hn] at hz1
      simp only [Sem.run_pure, Result.ok.injEq, and_true] at hz1
      subst hz1
      simp only [Instr.makeSlice, Sem.run_bind, run_under hut, Result.andThen_ok, asInt, asIntOf, Sem.run_pure, run_info hi, wl, wc]
      simp [t2, t3, t4, t5, run_sizeOf ht, hn]
      have hCe : C = #[] := by rw [← hz2, hn]; simp
      have e0 : Array.range 0 = #[] := rfl
      simp [newRow, hCe, e0]
    · rw [if_neg hn, Sem.run_bind, hzr] at hz1
      simp only [Result.andThen_ok, Sem.run_pure, Result.ok.injEq, and_true] at hz1
      subst hz1
      simp only [Instr.makeSlice, Sem.run_bind, run_under hut, Result.andThen_ok, asInt, asIntOf, Sem.run_pure, run_info hi, wl, wc]
      have t2' : ¬ (2 : Int) ^ 48 < (i.bytes : Int) * c := by omega
      simp only [Bool.or_eq_true, decide_eq_true_eq, gt_iff_lt, t2', t3, t4, t5, or_self, if_false, Sem.run_bind, run_askRoom, Result.andThen_ok, run_sizeOf ht, hn, hzr, Sem.run_pure]
      rw [hz2]
      simp [newRow]
  · have := Rel.arr (g := g.push w.heap.size 0) (w := w.alloc (.cells C et)) H.length 0 l.toNat c.toNat (by simp [Gh.push, h.n])
    have hbk : (g.push w.heap.size 0).bk H.length = w.heap.size := by simp [Gh.push, h.n]
    rw [hbk] at this
    exact this

/-- the type facts of an append of so many zeros, as they are reckoned -/
def appZ (P : Program) (ts : Array TypeId) : Option (Nat × Nat × List PV) :=
  match ts[0]?, ts[1]? with
  | some t, some u => match elA P t, P.underlying u with
    | some (none, _, sz, by_, e), some (.int _) => match zeroA P e with
      | some z => if by_ = 0 ∨ sz = 0 ∨ z.length ≠ sz then none else some (sz, by_, z)
      | none => none
    | _, _ => none
  | _, _ => none

theorem appZ_spec {P : Program} {ts : Array TypeId} {sz by_ : Nat} {z : List PV} (h : appZ P ts = some (sz, by_, z)) :
    ∃ t u e i zv kd, ts[0]? = some t ∧ ts[1]? = some u ∧ P.underlying u = some (.int kd) ∧ P.underlying t = some (.slice e) ∧ P.info? e = some i ∧ i.zero = some zv ∧ i.size = sz ∧ i.bytes = by_ ∧ (∀ g w, RelL g w z zv.cells.toList) ∧ sz ≠ 0 ∧ by_ ≠ 0 ∧ z.length = sz := by
  unfold appZ at h
  split at h
  · rename_i t u h0 h1
    split at h
    · rename_i b sz' by' e d hel hu
      split at h
      · rename_i z' hz
        split at h
        · cases h
        · rename_i hc
          simp only [Option.some.injEq, Prod.mk.injEq] at h
          obtain ⟨rfl, rfl, rfl⟩ := h
          have c1 : by' ≠ 0 := fun e => hc (.inl e)
          have c2 : sz' ≠ 0 := fun e => hc (.inr (.inl e))
          have c3 : z'.length = sz' := by
            rcases Decidable.em (z'.length = sz') with e | e
            · exact e
            · exact absurd (.inr (.inr e)) hc
          obtain ⟨hut, ht, i, hi, rfl⟩ := elA_slice hel
          obtain ⟨dd, i', _, hi', hsz, _⟩ := tyA_spec ht
          rw [hi] at hi'; cases hi'
          unfold zeroA at hz
          rw [hi] at hz
          cases hzz : i.zero with
          | none => simp [hzz] at hz
          | some zv =>
            simp [hzz] at hz
            exact ⟨t, u, e, i, zv, _, h0, h1, hu, hut, hi, hzz, hsz, rfl, fun g w => by rw [← hz]; exact relL_pv1 g w _, c2, c1, c3⟩
      · cases h
    · cases h
  · cases h

theorem zeroCells_add (z : Array Value) (m n : Nat) (h : z.size ≠ 0) : Builtin.zeroCells z m ++ Builtin.zeroCells z n = Builtin.zeroCells z (m + n) := by
  unfold Builtin.zeroCells
  apply Array.ext'
  rw [Array.toList_append, range_map_zero z m (.inl h), range_map_zero z n (.inl h), range_map_zero z (m + n) (.inl h), ← List.flatten_append, List.replicate_append_replicate]

theorem run_append_zeros {P : Program} {g : Gh} {w : World} {ts : Array TypeId} {t u e : TypeId} {i : TypeInfo} {z : Value} {kd k : IntKind} (h0 : ts[0]? = some t) (h1 : ts[1]? = some u) (hu : P.underlying u = some (.int kd)) (ht : P.underlying t = some (.slice e)) (hi : P.info? e = some i) (hz : i.zero = some z)
    (hib : i.bytes ≠ 0) (his : i.size ≠ 0) {base : Option Addr} {sLen sCap n : Nat} {xs : List PV} {us : List Value}
    (ho : Src P g w (.slice base sLen sCap) i.size sLen xs us) (hn : 0 < n) (hfit : ¬ sLen + n ≤ sCap) (hb : (sLen + n) * i.bytes ≤ 140737488355328) (ty : TypeId) :
    (Builtin.append_ ts ty #[.slice base sLen sCap, .int k n]).run P w =
      .ok (.slice (some ⟨w.heap.size, 0, none⟩) (sLen + n) (grownCap w (sLen + n) sCap e))
        (w.drew.alloc (.cells (us.toArray ++ Builtin.zeroCells z.cells n ++ Builtin.zeroCells z.cells (grownCap w (sLen + n) sCap e - (sLen + n))) e)) := by
  have huu : us.take (sLen * i.size) = us := List.take_of_length_le (by have := ho.rel.1; have := ho.size; omega)
  have hc' := ho.cells sLen (Nat.le_refl _) w.drew rfl
  rw [huu] at hc'
  have h48 : ¬ (281474976710656 < Builtin.nextslicecap (sLen + n) sCap * i.bytes) := by
    have := growslice_fits (need := sLen + n) (old := sCap) (bytes := i.bytes) (by omega) hb
    omega
  have hzv : ∀ w : World, (zeroValue e).run P w = .ok z w := by
    intro w
    unfold zeroValue
    rw [Sem.run_bind, run_info hi]
    simp [hz]
  have hb1 : sLen + n ≤ (sLen + n) * i.bytes := Nat.le_mul_of_pos_right _ (by omega)
  have hn1 : n * i.bytes ≤ (sLen + n) * i.bytes := Nat.mul_le_mul_right _ (by omega)
  have hw : IntKind.i64.wrap (n : Int) = n := by
    simp only [IntKind.wrap, IntKind.bits, IntKind.signed]; simp; omega
  have h3 : ¬ ((281474976710656 : Int) < (n : Int) * (i.bytes : Int)) := by
    have : (n : Int) * (i.bytes : Int) = ((n * i.bytes : Nat) : Int) := by simp
    omega
  have h5 : n * i.size ≠ 0 := Nat.mul_ne_zero (by omega) his
  have h7 : ¬ ((n : Int) < 0) := by omega
  simp [Builtin.append_, h0, h1, run_under ht, run_under hu, sizeOf, run_info hi, asInt, asIntOf, hw, h3, h7, hfit, hib, h48, run_choose, Question.forced, hc', hzv, newRow, grownCap]
  rw [if_neg (by omega), if_neg h5]

theorem vok_append_zeros {P : Program} {g : Gh} {H : Heap} {w : World} {K : PV → Heap → Prop} (h : Sim g H w) {ts : Array TypeId} {sz by_ : Nat} {z : List PV} (ha : appZ P ts = some (sz, by_, z)) (ty : TypeId)
    {o off len cap : Nat} {n : Int} {k : IntKind} {cs : List PV} {v u : Value} (hx : Rel g w (.arr o off len cap) v) (ho : H[o]? = some (.cells cs)) (hlc : len ≤ cap) (hoc : off + cap * sz ≤ cs.length)
    (hy : Rel g w (.int k n) u) (hn : 0 ≤ n) (hg : cap < len + n.toNat) (hb : (len + n.toNat) * by_ ≤ 140737488355328)
    (hk : ∀ c, len + n.toNat ≤ c → K (.arr H.length 0 (len + n.toNat) c) (H ++ [.cells (((cs.drop off).take (len * sz)) ++ (List.replicate (c - len) z).flatten)])) :
    VOk P (Builtin.append_ ts ty #[v, u]) g H w K := by
  obtain ⟨t, u', e, i, zv, kd, h0, h1, hu, ht, hi, hz, rfl, rfl, hzl, hs0, hb0, hzs⟩ := appZ_spec ha
  have hlz : len * i.size ≤ cap * i.size := Nat.mul_le_mul_right _ hlc
  obtain ⟨us, hO⟩ := src_arr (P := P) (sz := i.size) h hx ho (by omega)
  cases hx with
  | arr _ _ _ _ hol =>
  cases hy
  have hnn : n = ((n.toNat : Nat) : Int) := by omega
  generalize n.toNat = m at *
  subst hnn
  have hzc : zv.cells.size = i.size := by have := (hzl g w).1; simp at this; omega
  have hge := grownCap_ge w (len + m) cap e
  have hrun := run_append_zeros (P := P) (k := k) h0 h1 hu ht hi hz hb0 hs0 hO (by omega) (by omega) hb ty
  rw [Array.append_assoc, zeroCells_add _ _ _ (by omega), show m + (grownCap w (len + m) cap e - (len + m)) = grownCap w (len + m) cap e - len by omega] at hrun
  obtain ⟨k1, k2, k3⟩ := h.drew.new (cs := ((cs.drop off).take (len * i.size)) ++ (List.replicate (grownCap w (len + m) cap e - len) z).flatten)
    (C := us.toArray ++ Builtin.zeroCells zv.cells (grownCap w (len + m) cap e - len)) e (by
      have h4 := hO.rel.append (zeroCells_rel (hzl g w) (grownCap w (len + m) cap e - len) (by omega))
      have := h4.mono (Gext.drew g w)
      simpa using this)
  refine ⟨_, _, _, _, _, hrun, k1, (Ext.drew g H w).trans k2, ?_, hk _ hge⟩
  have := Rel.arr (g := g.push w.drew.heap.size 0) (w := w.drew.alloc (.cells (us.toArray ++ Builtin.zeroCells zv.cells (grownCap w (len + m) cap e - len)) e)) H.length 0 (len + m) (grownCap w (len + m) cap e) (by simp [Gh.push, h.n])
  have hbk : (g.push w.drew.heap.size 0).bk H.length = w.heap.size := by simp [Gh.push, h.n]
  rw [hbk] at this
  exact this

end Go.AM

/-! AM, part 11: each operation by one word. -/
namespace Go.AM
open Go

/-- A call of a function, on pure values. -/
def ACalls (P : Program) (gl : Glob) (f : FuncId) (args : List PV) (H : Heap) (K : PV → Heap → Prop) : Prop :=
  ∀ g w (vs : Array Value), Sim g H w → GlobOk g w gl → RelL g w args vs.toList →
    Calls P f vs w fun e w' => ∃ v g' H' x, e = .returned v ∧ Sim g' H' w' ∧ Ext g H w g' H' w' ∧ Rel g' w' x v ∧ K x H'

theorem ACalls.mono {P : Program} {gl : Glob} {f : FuncId} {args : List PV} {H : Heap} {K K' : PV → Heap → Prop} (h : ACalls P gl f args H K) (hk : ∀ x H', K x H' → K' x H') : ACalls P gl f args H K' :=
  fun g w vs h1 h2 h3 => (h g w vs h1 h2 h3).mono fun _ _ ⟨v, g', H', x, a, b, c, d, k⟩ => ⟨v, g', H', x, a, b, c, d, hk x H' k⟩

/-- may be called: it has a body, and is no door -/
def callable (P : Program) (f : FuncId) : Bool :=
  match P.funcs[f]? with
  | some fn => fn.name != "runtime.NumGoroutine" && fn.body.isSome
  | none => false

def builtinK (P : Program) (b : Builtin) (ts : Array TypeId) (args : List PV) (m : Nat) (H : Heap) (K : PV → Heap → Prop) : Prop :=
  match b with
  | .len => match ts[0]?, args with
    | some t, [x] => match lenA P t x with
      | some n => K (.int .i64 n) H
      | none => False
    | _, _ => False
  | .cap => match ts[0]?, args with
    | some t, [.arr _ _ _ cap] => (∃ e, P.underlying t = some (.slice e)) ∧ K (.int .i64 cap) H
    | _, _ => False
  | .min => match foldMM mnI args with
    | some z => K z H
    | none => False
  | .max => match foldMM mxI args with
    | some z => K z H
    | none => False
  | .append => match appA P ts, args with
    | some (sz, by_, z), [.list es tl, y] => match m with
      | 2 => es = [] ∧ tl = .exact ∧ match srcA H sz y with
        | some (ys, n) => ys.length = n * sz ∧ n * by_ ≤ 140737488355328 ∧ 0 < n ∧ ∀ c, n ≤ c → K (.arr H.length 0 n c) (H ++ [.cells (ys ++ (List.replicate (c - n) z).flatten)])
        | none => False
      | m => match y with
        | .list ys _ => uni sz es ∧ uni sz ys ∧ (es.length + ys.length) * by_ ≤ 140737488355328 ∧ match m with
          | 1 => ys.flatten.all PV.one = true ∧ ys ≠ [] ∧ match tl with
            | .exact => K (.list (es ++ ys) (.tok H.length)) (H ++ [.tok])
            | .tok o => H[o]? = some .tok ∧ K (.list (es ++ ys) (.tok H.length)) (H.set o .dead ++ [.tok])
            | .no => False
          | 4 => ys.flatten.all PV.one = true ∧ (ys = [] → K (.list es tl) H) ∧ (ys ≠ [] → match tl with
            | .exact => K (.list (es ++ ys) (.tok H.length)) (H ++ [.tok])
            | .tok o => H[o]? = some .tok ∧ K (.list (es ++ ys) (.tok H.length)) (H.set o .dead ++ [.tok])
            | .no => False)
          | _ => tl = .exact ∧ K (.list (es ++ ys) .no) H
        | _ => False
    | some (sz, by_, z), [.arr o off len cap, y] => match H[o]?, srcA H sz y with
      | some (.cells cs), some (ys, n) => len ≤ cap ∧ off + cap * sz ≤ cs.length ∧ ys.length = n * sz ∧ ys.all PV.one = true ∧ (len + n) * by_ ≤ 140737488355328 ∧
        match m with
        | 3 => len + n ≤ cap ∧ K (.arr o off (len + n) cap) (H.set o (.cells (over cs (off + len * sz) ys)))
        | _ => (len + n ≤ cap → K (.arr o off (len + n) cap) (H.set o (.cells (over cs (off + len * sz) ys)))) ∧
          (cap < len + n → ∀ c, len + n ≤ c → K (.arr H.length 0 (len + n) c) (H ++ [.cells (((cs.drop off).take (len * sz)) ++ ys ++ (List.replicate (c - (len + n)) z).flatten)]))
      | _, _ => False
    | none, [.arr o off len cap, .int _ n] => match appZ P ts, H[o]? with
      | some (sz, by_, z), some (.cells cs) => len ≤ cap ∧ off + cap * sz ≤ cs.length ∧ 0 ≤ n ∧ cap < len + n.toNat ∧ (len + n.toNat) * by_ ≤ 140737488355328 ∧ m = 0 ∧
        ∀ c, len + n.toNat ≤ c → K (.arr H.length 0 (len + n.toNat) c) (H ++ [.cells (((cs.drop off).take (len * sz)) ++ (List.replicate (c - len) z).flatten)])
      | _, _ => False
    | _, _ => False
  | .copy => match ts[0]?, args with
    | some t, [.arr o off len _, y] => match elA P t with
      | some (none, _, sz, _, _) => match H[o]?, srcA H sz y with
        | some (.cells cs), some (ys, n) => off + len * sz ≤ cs.length ∧ ys.length = n * sz ∧ ys.all PV.one = true ∧ K (.int .i64 (min n len : Nat)) (H.set o (.cells (over cs off (ys.take (min n len * sz)))))
        | _, _ => False
      | _ => False
    | _, _ => False
  | .clear => match ts[0]?, args with
    | some t, [.arr o off len _] => match elA P t with
      | some (none, _, sz, _, et) => match H[o]?, zeroA P et with
        | some (.cells cs), some z => z.length = sz ∧ z.all PV.one = true ∧ off + len * sz ≤ cs.length ∧ K (.tup []) (H.set o (.cells (over cs off (List.replicate len z).flatten)))
        | _, _ => False
      | _ => False
    | _, _ => False
  | _ => False

/-- a function without a body that answers at once and leaves all as it is -/
def ECalls (P : Program) (f : FuncId) (args : List PV) (H : Heap) (K : PV → Heap → Prop) : Prop :=
  ∀ g w (vs : Array Value), Sim g H w → RelL g w args vs.toList → ∃ v x, (callFunc f vs).run P w = .ok (.value v) w ∧ Rel g w x v ∧ K x H

def callK (P : Program) (gl : Glob) (c : Call) (m : Nat) (ρ : Operand → PV) (H : Heap) (K : PV → Heap → Prop) : Prop :=
  match c.callee with
  | .value f => match ρ f with
    | .fn k caps => (callable P k = true ∧ ACalls P gl k (c.args.toList.map ρ ++ caps) H K) ∨ ECalls P k (c.args.toList.map ρ ++ caps) H K
    | _ => False
  | .builtin b => builtinK P b c.argTypes (c.args.toList.map ρ) m H K
  | _ => False

/-- a store's hint (1000 and more): which cells it writes -/
def hintOk (m o off sz : Nat) : Bool := Nat.blt m 1000 || ((m == 1000 + ((o * 1000 + off) * 100 + sz)) && Nat.blt off 1000 && Nat.blt sz 100)

/-- a load's hint: 900: what never changes; 1000 and more: which cells it reads -/
def hintL (m : Nat) (x : PV) (sz : Nat) : Bool := match m == 900 with
  | true => match x with
    | .iptr _ => true
    | _ => false
  | false => Nat.blt m 1000 || match x with
    | .ptr o off => hintOk m o off sz && Nat.blt 0 sz
    | _ => false

/-- one operation: what it asks, and what is handed on -/
def opw (P : Program) (gl : Glob) (op : Op) (m : Nat) (ρ : Operand → PV) (H : Heap) (K : PV → Heap → Prop) : Prop :=
  match op with
  | .move x => K (ρ x) H
  | .assign x => K (ρ x) H
  | .pick c a b => match ρ c with
    | .bool t => K (if t = true then ρ a else ρ b) H
    | _ => False
  | .alloc t => match zeroA P t with
    | some cs => K (.ptr H.length 0) (H ++ [.cells cs])
    | none => False
  | .box _ x => match (ρ x).cells with
    | some cs => K (.ptr H.length 0) (H ++ [.cells cs])
    | none => False
  | .build t parts => match buildA P t (parts.toList.map fun p => (p.1, ρ p.2)) with
    | some cs => K (.agg cs) H
    | none => False
  | .buildSlice t len parts => match elA P t with
    | some (none, _, sz, _, et) => match zeroA P et with
      | some z => z.length = sz ∧ sz ≠ 0 ∧ len * sz ≤ 16777216 ∧ match esFill sz (List.replicate len z) (parts.toList.map fun p => (p.1, ρ p.2)) with
        | some es => K (.list es .exact) H
        | none => False
      | none => False
    | _ => False
  | .load t a => match behind H (ρ a), tyA P t with
    | some cs, some (b, sz) => match loadPV b sz cs with
      | some y => hintL m (ρ a) sz = true ∧ K y H
      | none => False
    | _, _ => False
  | .store t a x => match ρ a, tyA P t, (ρ x).cells with
    | .ptr o off, some (_, sz), some xs => match H[o]? with
      | some (.cells cs) => xs.length = sz ∧ xs.all PV.one = true ∧ (off + sz ≤ cs.length ∧ hintOk m o off sz = true) ∧ K (.tup []) (H.set o (.cells (over cs off xs)))
      | _ => False
    | _, _, _ => False
  | .nilCheck x => match ρ x with
    | .ptr o off => K (.ptr o off) H
    | .iptr cs => K (.iptr cs) H
    | .fn f caps => K (.fn f caps) H
    | _ => False
  | .binOp op t x y _ => if isNilSlice y = true then nilK P op t (ρ x) (fun z => K z H) else binK P op t (ρ x) (ρ y) (fun z => K z H)
  | .unOp op _ x => match unA op (ρ x) with
    | some y => K y H
    | none => False
  | .convert s d x => match convA P s d (ρ x) with
    | some y => K y H
    | none => False
  | .makeFunc fn first caps => match fn with
    | .func f => first = #[] ∧ K (.fn f (caps.toList.map ρ)) H
    | _ => False
  | .makeSlice t l c => match elA P t, ρ l, ρ c with
    | some (none, _, sz, by_, et), .int _ l, .int _ c => match zeroA P et with
      | some z => z.length = sz ∧ sz ≠ 0 ∧ 0 ≤ l ∧ l ≤ c ∧ c ≤ 140737488355328 ∧ c * by_ ≤ 140737488355328 ∧ K (.arr H.length 0 l.toNat c.toNat) (H ++ [.cells (List.replicate c.toNat z).flatten])
      | none => False
    | _, _, _ => False
  | .slice t x lo hi mx => match elA P t, ρ x with
    | some (none, _, sz, _, _), .list es tl => match bnd 0 (lo.map ρ), bnd es.length (hi.map ρ), bnd es.length (mx.map ρ) with
      | some l, some h, some m => 0 ≤ l ∧ l ≤ h ∧ h ≤ m ∧ m ≤ es.length ∧ (hi = none → mx = none) ∧ uni sz es ∧ K (.list ((es.take h.toNat).drop l.toNat) (cutTail tl (lo.map ρ) (hi.map ρ) (mx.map ρ) h m)) H
      | _, _, _ => False
    | some (none, _, sz, _, _), .arr o off len cap => match bnd 0 (lo.map ρ), bnd len (hi.map ρ), bnd cap (mx.map ρ) with
      | some l, some h, some m => 0 ≤ l ∧ l ≤ h ∧ h ≤ m ∧ m ≤ cap ∧ (hi = none → mx = none) ∧ K (.arr o (if m.toNat = l.toNat then off else off + l.toNat * sz) (h.toNat - l.toNat) (m.toNat - l.toNat)) H
      | _, _, _ => False
    | _, _ => False
  | .fieldAddr s x f => match fldA P s f with
    | some (off, _, _) => match shiftP off (ρ x) with
      | some y => K y H
      | none => False
    | none => False
  | .field s x f => match fldA P s f, ρ x with
    | some (off, b, sz), .agg cs => match partA b off sz cs with
      | some y => K y H
      | none => False
    | _, _ => False
  | .indexAddr t x i => match elA P t, ρ i with
    | some (none, _, sz, _, _), .int _ n => match ρ x with
      | .list es _ => 0 ≤ n ∧ match es[n.toNat]? with
        | some e => e.length = sz ∧ sz ≠ 0 ∧ K (.iptr e) H
        | none => False
      | .arr o off len _ => 0 ≤ n ∧ n < len ∧ K (.ptr o (off + n.toNat * sz)) H
      | _ => False
    | some (some m, _, sz, _, _), .int _ n => 0 ≤ n ∧ n < m ∧ match shiftP (n.toNat * sz) (ρ x) with
      | some y => K y H
      | none => False
    | _, _ => False
  | .index t x i => match elA P t, ρ x, ρ i with
    | some (some m, b, sz, _, _), .agg cs, .int _ n => 0 ≤ n ∧ n < m ∧ match partA b (n.toNat * sz) sz cs with
      | some y => K y H
      | none => False
    | _, _, _ => False
  | .extract t i => match ρ t with
    | .tup vs => match vs[i]? with
      | some y => K y H
      | none => False
    | _ => False
  | .call c => callK P gl c m ρ H K
  | _ => False

/-- what an operation comes to in the machine -/
def NOk (P : Program) (s : Sem Next) (g : Gh) (H : Heap) (w : World) (K : PV → Heap → Prop) : Prop :=
  (∃ v w' g' H' x, s.run P w = .ok (.value v) w' ∧ Sim g' H' w' ∧ Ext g H w g' H' w' ∧ Rel g' w' x v ∧ K x H') ∨
  (∃ w' g' H' , s.run P w = .ok .skip w' ∧ Sim g' H' w' ∧ Ext g H w g' H' w' ∧ K (.tup []) H') ∨
  (∃ f vs, s.run P w = .ok (.enter f vs) w ∧ Calls P f vs w fun e w' => ∃ v g' H' x, e = .returned v ∧ Sim g' H' w' ∧ Ext g H w g' H' w' ∧ Rel g' w' x v ∧ K x H')

theorem VOk.next {P : Program} {s : Sem Value} {g : Gh} {H : Heap} {w : World} {K : PV → Heap → Prop} (h : VOk P s g H w K) : NOk P (do pure (.value (← s))) g H w K := by
  obtain ⟨v, w', g', H', x, h1, h2⟩ := h
  exact .inl ⟨v, w', g', H', x, by simp [h1], h2⟩

theorem relL_map {g : Gh} {w : World} {ρ : Operand → PV} {α : Operand → Value} (hρ : ∀ x, Rel g w (ρ x) (α x)) (xs : List Operand) : RelL g w (xs.map ρ) (xs.map α) := by
  induction xs with
  | nil => exact .nil
  | cons x xs ih => exact .cons (hρ x) ih

theorem opt_map {g : Gh} {w : World} {ρ : Operand → PV} {α : Operand → Value} (hρ : ∀ x, Rel g w (ρ x) (α x)) (x : Option Operand) : OptRel g w (x.map ρ) (x.map α) := by
  cases x with
  | none => exact .none
  | some x => exact .some (hρ x)

theorem run_callFunc {P : Program} {f : FuncId} (h : callable P f = true) (vs : Array Value) (w : World) : (callFunc f vs).run P w = .ok (.enter f vs) w := by
  unfold callable at h
  split at h
  · rename_i fn hf
    simp only [Bool.and_eq_true, bne_iff_ne, ne_eq] at h
    unfold callFunc
    rw [Sem.run_bind, run_program]
    simp only [Result.andThen_ok, hf]
    have h1 : (fn.name == "runtime.NumGoroutine") = false := by simpa using h.1
    have h2 : fn.body.isNone = false := by
      cases hb : fn.body with
      | none => rw [hb] at h; simp at h
      | some c => rfl
    simp [h1, h2]
  · cases h

end Go.AM

/-! AM, part 12: each operation's word is true of the machine. -/
namespace Go.AM
open Go

theorem builtin_run {P : Program} {w : World} {b : Builtin} {ts : Array TypeId} {ty : TypeId} {cs : Array Bool} {vs : Array Value} {s : Sem Value}
    (h : builtin b ts ty cs vs = (do pure (.value (← s)))) {g : Gh} {H : Heap} {K : PV → Heap → Prop} (hv : VOk P s g H w K) : NOk P (builtin b ts ty cs vs) g H w K := by
  rw [h]; exact hv.next

theorem list_two {xs : List PV} {vs : Array Value} {g : Gh} {w : World} {x y : PV} (h : RelL g w xs vs.toList) (e : xs = [x, y]) : ∃ v u, vs = #[v, u] ∧ Rel g w x v ∧ Rel g w y u := by
  subst e
  obtain ⟨vs⟩ := vs
  simp only at h
  match vs, h with
  | [v, u], h => exact ⟨v, u, rfl, h.2 0 x v rfl rfl, h.2 1 y u rfl rfl⟩
  | [], h => have := h.1; simp at this
  | [_], h => have := h.1; simp at this
  | _ :: _ :: _ :: _, h => have := h.1; simp at this

theorem list_one {xs : List PV} {vs : Array Value} {g : Gh} {w : World} {x : PV} (h : RelL g w xs vs.toList) (e : xs = [x]) : ∃ v, vs = #[v] ∧ Rel g w x v := by
  subst e
  obtain ⟨vs⟩ := vs
  simp only at h
  match vs, h with
  | [v], h => exact ⟨v, rfl, h.2 0 x v rfl rfl⟩
  | [], h => have := h.1; simp at this
  | _ :: _ :: _, h => have := h.1; simp at this

theorem builtinK_sound {P : Program} {g : Gh} {H : Heap} {w : World} {K : PV → Heap → Prop} (hS : Sim g H w) {b : Builtin} {ts : Array TypeId} {args : List PV} {m : Nat} {vs : Array Value} (hr : RelL g w args vs.toList)
    (h : builtinK P b ts args m H K) (ty : TypeId) (cs : Array Bool) : NOk P (builtin b ts ty cs vs) g H w K := by
  unfold builtinK at h
  split at h
  · -- len
    split at h
    · rename_i t x ht
      split at h
      · rename_i n hn
        obtain ⟨v, rfl, hv⟩ := list_one hr rfl
        exact builtin_run (s := Builtin.len_ ts ty #[v]) rfl (VOk.same hS (lenA_run hv ht hn ty) (.int _ _) h)
      · exact h.elim
    · exact h.elim
  · -- cap
    split at h
    · rename_i t o off len cap ht
      obtain ⟨⟨e, hu⟩, hk⟩ := h
      obtain ⟨v, rfl, hv⟩ := list_one hr rfl
      exact builtin_run (s := Builtin.cap_ ts ty #[v]) rfl (VOk.same hS (capA_run hv ht hu ty) (.int _ _) hk)
    · exact h.elim
  · -- min
    split at h
    · rename_i z hz
      obtain ⟨r, h1, h2⟩ := minA_run (P := P) hr hz ts ty
      exact builtin_run (s := Builtin.min_ ts ty vs) rfl (VOk.same hS h1 h2 h)
    · exact h.elim
  · -- max
    split at h
    · rename_i z hz
      obtain ⟨r, h1, h2⟩ := maxA_run (P := P) hr hz ts ty
      exact builtin_run (s := Builtin.max_ ts ty vs) rfl (VOk.same hS h1 h2 h)
    · exact h.elim
  · -- append
    split at h
    · rename_i sz by_ z es tl y ha
      obtain ⟨v, u, rfl, hv, hu⟩ := list_two hr rfl
      refine builtin_run (s := Builtin.append_ ts ty #[v, u]) rfl ?_
      split at h
      · obtain ⟨rfl, rfl, h⟩ := h
        split at h
        · rename_i ys n hs
          exact vok_append_new hS ha ty hv hu hs h.1 h.2.1 h.2.2.1 h.2.2.2
        · exact h.elim
      · split at h
        · rename_i ys tly
          obtain ⟨h1, h2, h3, h4⟩ := h
          split at h4
          · obtain ⟨h5, h6, h7⟩ := h4
            exact vok_append_tok hS ha ty hv hu rfl h1 h2 h5 h6 h3 h7
          · obtain ⟨h5, h6, h7⟩ := h4
            by_cases h0 : ys = []
            · subst h0
              exact vok_append_none hS ha ty hv hu h1 (h6 rfl)
            · exact vok_append_tok hS ha ty hv hu rfl h1 h2 h5 h0 h3 (h7 h0)
          · obtain ⟨rfl, hk⟩ := h4
            exact vok_append_full hS ha ty hv hu rfl h1 h2 h3 hk
        · exact h.elim
    · rename_i sz by_ z o off len cap y ha
      obtain ⟨v, u, rfl, hv, hu⟩ := list_two hr rfl
      refine builtin_run (s := Builtin.append_ ts ty #[v, u]) rfl ?_
      split at h
      · rename_i cs' ys n ho hs
        obtain ⟨h1, h2, h3, h4, h5, h6⟩ := h
        split at h6
        · exact vok_append_arr hS ha ty hv ho h1 h2 hu hs h3 h4 h5 (fun _ => h6.2) (fun hc => absurd h6.1 (by omega))
        · exact vok_append_arr hS ha ty hv ho h1 h2 hu hs h3 h4 h5 h6.1 h6.2
      · exact h.elim
    · rename_i o off len cap kd n ha
      obtain ⟨v, u, rfl, hv, hu⟩ := list_two hr rfl
      refine builtin_run (s := Builtin.append_ ts ty #[v, u]) rfl ?_
      split at h
      · rename_i sz by_ z cs' hz ho
        obtain ⟨h1, h2, h3, h4, h5, _, h7⟩ := h
        exact vok_append_zeros hS hz ty hv ho h1 h2 hu h3 h4 h5 h7
      · exact h.elim
    · exact h.elim
  · -- copy
    split at h
    · rename_i t o off len cap y ht
      split at h
      · rename_i b' sz by_ et hel
        split at h
        · rename_i cs' ys n ho hs
          obtain ⟨v, u, rfl, hv, hu⟩ := list_two hr rfl
          exact builtin_run (s := Builtin.copy_ ts ty #[v, u]) rfl (vok_copy hS ht hel ty hv ho h.1 hu hs h.2.1 h.2.2.1 h.2.2.2)
        · exact h.elim
      · exact h.elim
    · exact h.elim
  · -- clear
    split at h
    · rename_i t o off len cap ht
      split at h
      · rename_i b' sz by_ et hel
        split at h
        · rename_i cs' z ho hz
          obtain ⟨v, rfl, hv⟩ := list_one hr rfl
          exact builtin_run (s := Builtin.clear_ ts ty #[v]) rfl (vok_clear hS ht hel ty hz h.1 h.2.1 hv ho h.2.2.1 h.2.2.2)
        · exact h.elim
      · exact h.elim
    · exact h.elim
  · exact h.elim

theorem callK_sound {P : Program} {gl : Glob} {g : Gh} {H : Heap} {w : World} {K : PV → Heap → Prop} (hS : Sim g H w) (hG : GlobOk g w gl) {c : Call} {m : Nat} {ρ : Operand → PV} {α : Operand → Value} (hρ : ∀ x, Rel g w (ρ x) (α x))
    (h : callK P gl c m ρ H K) (ty : TypeId) : NOk P (do let d ← resolve α c ty; invoke d.target d.args) g H w K := by
  unfold callK at h
  unfold resolve
  split at h
  · rename_i f hc
    rw [hc]
    split at h
    · rename_i k caps hf
      have hr := hρ f
      rw [hf] at hr
      obtain ⟨cv, hv, hcr⟩ := Rel.fn_iff.1 hr
      have hargs : RelL g w (c.args.toList.map ρ ++ caps) (c.args.map α ++ cv).toList := by
        simp only [Array.toList_append, Array.toList_map]
        exact (relL_map hρ _).append hcr
      have : (#[] ++ Array.map α c.args) = Array.map α c.args := by simp
      rcases h with ⟨hcall, hk⟩ | h
      · refine .inr (.inr ⟨k, c.args.map α ++ cv, ?_, hk g w _ hS hG hargs⟩)
        simp only [hv, Deferred.ofValue, Sem.run_bind, Sem.run_pure, Result.andThen_ok, invoke]
        rw [this]
        exact run_callFunc hcall _ w
      · obtain ⟨v, x, h1, h2, h3⟩ := h g w _ hS hargs
        refine .inl ⟨v, w, g, H, x, ?_, hS, .refl g H w, h2, h3⟩
        simp only [hv, Deferred.ofValue, Sem.run_bind, Sem.run_pure, Result.andThen_ok, invoke]
        rw [this]
        exact h1
    · exact h.elim
  · rename_i b hc
    rw [hc]
    have hargs : RelL g w (c.args.toList.map ρ) (c.args.map α).toList := by
      simp only [Array.toList_map]
      exact relL_map hρ _
    have := builtinK_sound (P := P) hS hargs h ty (c.args.map fun | .const _ => true | _ => false)
    exact this
  · exact h.elim

theorem parts_rel {g : Gh} {w : World} {ρ : Operand → PV} {α : Operand → Value} (hρ : ∀ x, Rel g w (ρ x) (α x)) (parts : Array (Nat × Operand)) :
    (parts.map (fun (x : Nat × Operand) => (x.1, α x.2))).toList.map (·.1) = (parts.toList.map fun p => (p.1, ρ p.2)).map (·.1) ∧
      RelL g w ((parts.toList.map fun p => (p.1, ρ p.2)).map (·.2)) ((parts.map (fun (x : Nat × Operand) => (x.1, α x.2))).toList.map (·.2)) := by
  constructor
  · simp
  · simp only [Array.toList_map, List.map_map]
    have h1 : ((fun (x : Nat × PV) => x.2) ∘ fun (p : Nat × Operand) => (p.1, ρ p.2)) = ρ ∘ (·.2) := rfl
    have h2 : ((fun (x : Nat × Value) => x.2) ∘ fun (p : Nat × Operand) => (p.1, α p.2)) = α ∘ (·.2) := rfl
    rw [h1, h2, ← List.map_map, ← List.map_map]
    exact relL_map hρ _

theorem isNilSlice_spec {y : Operand} (h : isNilSlice y = true) : y = .const (.slice none 0 0) := by
  unfold isNilSlice at h
  split at h
  · rfl
  · cases h

theorem opw_sound {P : Program} {gl : Glob} {g : Gh} {H : Heap} {w : World} {K : PV → Heap → Prop} (hS : Sim g H w) (hG : GlobOk g w gl) {o : Oper} {m : Nat} {ρ : Operand → PV} {a : Act} (hρ : ∀ x, Rel g w (ρ x) (a.eval x))
    (h : opw P gl o.op m ρ H K) : NOk P (execOp a.eval o) g H w K := by
  unfold execOp
  generalize o.op = op at h
  cases op <;> simp only [opw] at h <;> simp only
  case move x => exact .inl ⟨_, w, g, H, _, rfl, hS, .refl g H w, hρ x, h⟩
  case assign x => exact .inl ⟨_, w, g, H, _, rfl, hS, .refl g H w, hρ x, h⟩
  case pick c x y =>
    split at h
    · rename_i t ht
      have hc := hρ c
      rw [ht] at hc
      generalize hv : a.eval c = v at hc
      cases hc
      refine .inl ⟨if t = true then a.eval x else a.eval y, w, g, H, _, ?_, hS, .refl g H w, ?_, h⟩
      · simp [asBool]
      · cases t
        · exact hρ y
        · exact hρ x
    · exact h.elim
  case alloc t =>
    split at h
    · rename_i cs hz; exact (vok_alloc hS hz h).next
    · exact h.elim
  case box t x =>
    split at h
    · rename_i cs hc; exact (vok_box hS (hρ x) hc h).next
    · exact h.elim
  case build t parts =>
    split at h
    · rename_i cs hc
      obtain ⟨h1, h2⟩ := parts_rel hρ parts
      obtain ⟨r, h3, h4⟩ := buildA_run (P := P) h1 h2 hc
      exact (VOk.same hS h3 h4 h).next
    · exact h.elim
  case buildSlice t len parts =>
    split at h
    · rename_i b sz by_ et hel
      split at h
      · rename_i z hz
        obtain ⟨hzs, hs0, hn, h⟩ := h
        split at h
        · rename_i es he
          obtain ⟨h1, h2⟩ := parts_rel hρ parts
          exact (vok_buildSlice hS hel hz hzs hs0 hn h1 h2 he h).next
        · exact h.elim
      · exact h.elim
    · exact h.elim
  case load t x =>
    split at h
    · rename_i cs b sz hb ht
      split at h
      · rename_i y hl; exact (vok_load hS (hρ x) hb ht hl h.2).next
      · exact h.elim
    · exact h.elim
  case store t x y =>
    split at h
    · rename_i o' off b sz xs hx ht hc
      split at h
      · rename_i cs ho
        obtain ⟨h1, h2, h3, hk⟩ := h
        have hp := hρ x
        rw [hx] at hp
        generalize hv : a.eval x = v at hp
        cases hp
        obtain ⟨w', k1, k2, k3⟩ := store_obj (P := P) hS ho ht ((hρ y).cells_of hc) h1 h2 h3.1
        refine .inr (.inl ⟨w', g, _, ?_, k2, k3, hk⟩)
        simp [Instr.storeAt, Instr.sureAddr, k1]
      · exact h.elim
    · exact h.elim
  case nilCheck x =>
    have hr := hρ x
    split at h
    · rename_i o' off hx
      rw [hx] at hr
      generalize hv : a.eval x = v at hr
      cases hr
      rename_i ho
      exact .inl ⟨_, w, g, H, _, rfl, hS, .refl g H w, .ptr o' off ho, h⟩
    · rename_i cs hx
      rw [hx] at hr
      obtain ⟨A, hv, hi⟩ := Rel.iptr_iff.1 hr
      rw [hv]
      exact .inl ⟨_, w, g, H, _, rfl, hS, .refl g H w, Rel.iptr_iff.2 ⟨A, rfl, hi⟩, h⟩
    · rename_i f caps hx
      rw [hx] at hr
      obtain ⟨vs, hv, hi⟩ := Rel.fn_iff.1 hr
      rw [hv]
      exact .inl ⟨_, w, g, H, _, rfl, hS, .refl g H w, Rel.fn_iff.2 ⟨vs, rfl, hi⟩, h⟩
    · exact h.elim
  case binOp op t x y yt =>
    split at h
    · rename_i hn
      have hy := isNilSlice_spec hn
      subst hy
      obtain ⟨r, z, h1, h2, h3⟩ := nilK_run (P := P) (hρ x) x (.const (.slice none 0 0)) h
      exact (VOk.same hS h1 h2 h3).next
    · obtain ⟨r, z, h1, h2, h3⟩ := binK_run (P := P) (hρ x) (hρ y) x y h
      exact (VOk.same hS h1 h2 h3).next
  case unOp op t x =>
    split at h
    · rename_i y hy
      obtain ⟨r, h1, h2⟩ := unA_run (P := P) (hρ x) hy
      exact (VOk.same hS h1 h2 h).next
    · exact h.elim
  case convert s d x =>
    split at h
    · rename_i y hy
      obtain ⟨r, h1, h2⟩ := convA_run (P := P) (hρ x) hy
      exact (VOk.same hS h1 h2 h).next
    · exact h.elim
  case makeFunc fn first caps =>
    split at h
    · rename_i f
      obtain ⟨rfl, hk⟩ := h
      refine .inl ⟨.func (.func f) #[] (caps.map a.eval), w, g, H, _, by simp [Instr.makeFunc], hS, .refl g H w, Rel.fn_iff.2 ⟨_, rfl, ?_⟩, hk⟩
      simp only [Array.toList_map]
      exact relL_map hρ _
    · exact h.elim
  case makeSlice t l c =>
    split at h
    · rename_i b sz by_ et k l' k' c' hel hl hc
      split at h
      · rename_i z hz
        obtain ⟨h1, h2, h3, h4, h5, h6, hk⟩ := h
        have hl' := hρ l
        have hc' := hρ c
        rw [hl] at hl'
        rw [hc] at hc'
        exact (vok_makeSlice hS hel hz h1 h2 hl' hc' h3 h4 h5 h6 hk).next
      · exact h.elim
    · exact h.elim
  case slice t x lo hi mx =>
    have hr := hρ x
    have hmx : (hi = none → mx = none) → (hi.map ρ = none → mx.map ρ = none) := by
      intro hh he
      cases hi with
      | none => rw [hh rfl]; rfl
      | some y => cases he
    split at h
    · rename_i b sz by_ et es tl hel hx
      rw [hx] at hr
      split at h
      · rename_i l h' m' e1 e2 e3
        obtain ⟨h1, h2, h3, h4, h5, h6, hk⟩ := h
        exact (vok_slice_list hS hel hr (opt_map hρ lo) (opt_map hρ hi) (opt_map hρ mx) e1 e2 e3 h1 h2 h3 h4 (hmx h5) h6 hk).next
      · exact h.elim
    · rename_i b sz by_ et o' off len cap hel hx
      rw [hx] at hr
      split at h
      · rename_i l h' m' e1 e2 e3
        obtain ⟨h1, h2, h3, h4, h5, hk⟩ := h
        exact (vok_slice_arr hS hel hr (opt_map hρ lo) (opt_map hρ hi) (opt_map hρ mx) e1 e2 e3 h1 h2 h3 h4 (hmx h5) hk).next
      · exact h.elim
    · exact h.elim
  case fieldAddr s x f =>
    split at h
    · rename_i off b sz hf
      split at h
      · rename_i y hy; exact (vok_fieldAddr hS hf (hρ x) hy h).next
      · exact h.elim
    · exact h.elim
  case field s x f =>
    split at h
    · rename_i off b sz cs hf hx
      have hr := hρ x
      rw [hx] at hr
      split at h
      · rename_i y hy; exact (vok_field hS hf hr hy h).next
      · exact h.elim
    · exact h.elim
  case indexAddr t x i =>
    have hri := hρ i
    have hrx := hρ x
    split at h
    · rename_i b sz by_ et k n hel hi
      rw [hi] at hri
      split at h
      · rename_i es tl hx
        rw [hx] at hrx
        obtain ⟨h0, h⟩ := h
        split at h
        · rename_i e he
          exact (vok_indexAddr_list hS hel hrx hri h0 he h.1 h.2.1 h.2.2).next
        · exact h.elim
      · rename_i o' off len cap hx
        rw [hx] at hrx
        exact (vok_indexAddr_arr hS hel hrx hri h.1 h.2.1 h.2.2).next
      · exact h.elim
    · rename_i mm b sz by_ et k n hel hi
      rw [hi] at hri
      obtain ⟨h0, h1, h⟩ := h
      split at h
      · rename_i y hy
        exact (vok_indexAddr_array hS hel hrx hri h0 h1 hy h).next
      · exact h.elim
    · exact h.elim
  case index t x i =>
    have hri := hρ i
    have hrx := hρ x
    split at h
    · rename_i mm b sz by_ et cs k n hel hx hi
      rw [hi] at hri
      rw [hx] at hrx
      obtain ⟨h0, h1, h⟩ := h
      split at h
      · rename_i y hy
        exact (vok_index hS hel hrx hri h0 h1 hy h).next
      · exact h.elim
    · exact h.elim
  case extract t i =>
    split at h
    · rename_i vs ht
      split at h
      · rename_i y hy
        have hr := hρ t
        rw [ht] at hr
        obtain ⟨us, hv, hus⟩ := Rel.tup_iff.1 hr
        obtain ⟨u, hu, hrel⟩ := hus.get hy
        rw [Array.getElem?_toList] at hu
        refine (VOk.same hS (v := u) ?_ hrel h).next
        rw [hv]
        simp [Instr.extract, hu]
      · exact h.elim
    · exact h.elim
  case call c => exact callK_sound hS hG hρ h o.type

end Go.AM

/-! AM, part 13: regions, code, calls. -/
namespace Go.AM
open Go

def upd (e : Env) (d : Option Tmp) (x : PV) : Env :=
  match d with
  | some t => fun k => if k = t then x else e k
  | none => e

/-- a row of operations -/
def regw (P : Program) (gl : Glob) (hn : Oper → Nat) (ops : Array Oper) : List Oper → Env → Heap → (Env → Heap → Prop) → Prop
  | [], e, H, K => K e H
  | o :: l, e, H, K =>
    match o.guard with
    | none => opw P gl o.op (hn o) (ev gl e) H fun x H' => regw P gl hn ops l (upd e o.dst x) H' K
    | some (j, want) => match (ops[j]?).bind (·.dst) with
      | some d => match e d with
        | .bool b => (b = want → opw P gl o.op (hn o) (ev gl e) H fun x H' => regw P gl hn ops l (upd e o.dst x) H' K) ∧ (b = !want → regw P gl hn ops l (upd e o.dst (.tup [])) H K)
        | .tup [] => regw P gl hn ops l (upd e o.dst (.tup [])) H K
        | _ => False
      | none => False

/-- how it goes on behind an operation -/
def RegK (P : Program) (gl : Glob) (hn : Oper → Nat) (ops : Array Oper) (l : List Oper) (e : Env) (d : Option Tmp) (K : Env → Heap → Prop) : PV → Heap → Prop :=
  fun x H' => regw P gl hn ops l (upd e d x) H' K

theorem regw_nil (P : Program) (gl : Glob) (hn : Oper → Nat) (ops : Array Oper) (e : Env) (H : Heap) (K : Env → Heap → Prop) : regw P gl hn ops [] e H K = K e H := rfl

theorem regw_none (P : Program) (gl : Glob) (hn : Oper → Nat) (ops : Array Oper) (d : Option Tmp) (op : Op) (ty : TypeId) (pos : String) (af : Array Edge) (l : List Oper) (e : Env) (H : Heap) (K : Env → Heap → Prop) :
    regw P gl hn ops (⟨d, op, ty, pos, af, none⟩ :: l) e H K = opw P gl op (hn ⟨d, op, ty, pos, af, none⟩) (ev gl e) H (RegK P gl hn ops l e d K) := rfl

theorem regw_some (P : Program) (gl : Glob) (hn : Oper → Nat) (ops : Array Oper) (d : Option Tmp) (op : Op) (ty : TypeId) (pos : String) (af : Array Edge) (j : Nat) (want : Bool) (l : List Oper) (e : Env) (H : Heap) (K : Env → Heap → Prop) :
    regw P gl hn ops (⟨d, op, ty, pos, af, some (j, want)⟩ :: l) e H K = match (ops[j]?).bind (·.dst) with
      | some t => match e t with
        | .bool b => (b = want → opw P gl op (hn ⟨d, op, ty, pos, af, some (j, want)⟩) (ev gl e) H (RegK P gl hn ops l e d K)) ∧ (b = !want → regw P gl hn ops l (upd e d (.tup [])) H K)
        | .tup [] => regw P gl hn ops l (upd e d (.tup [])) H K
        | _ => False
      | none => False := rfl

theorem RegK_apply (P : Program) (gl : Glob) (hn : Oper → Nat) (ops : Array Oper) (l : List Oper) (e : Env) (d : Option Tmp) (K : Env → Heap → Prop) (x : PV) (H : Heap) :
    RegK P gl hn ops l e d K x H = regw P gl hn ops l (upd e d x) H K := rfl

/-- the ends of a piece of code -/
inductive Ex where
  | normal
  | exit (id : Nat)
  | ret

def exRel : Exit → Ex → Prop
  | .normal, .normal => True
  | .exit i, .exit j => i = j
  | .ret, .ret => True
  | _, _ => False

/-- every operation's slot lies in the frame -/
def dstLt (n : Nat) (o : Oper) : Bool := match o.dst with
  | some d => decide (d < n)
  | none => true

def dstAll (n : Nat) : Code → Bool
  | .region _ ops _ => ops.toList.all (dstLt n)
  | .seq a b => dstAll n a && dstAll n b
  | .cond _ a b => dstAll n a && dstAll n b
  | .block _ b => dstAll n b
  | .loop b => dstAll n b
  | .scope b => dstAll n b
  | _ => true

/-- a state of the machine that reads as an environment and objects -/
structure St (gl : Glob) (n : Nat) (g : Gh) (e : Env) (H : Heap) (a : Act) (w : World) : Prop where
  sim : Sim g H w
  glob : GlobOk g w gl
  env : EnvRel g w n e a
  dfr : a.defers = []

theorem EnvRel.put {g : Gh} {w : World} {n : Nat} {e : Env} {a : Act} (h : EnvRel g w n e a) {x : PV} {v : Value} (hx : Rel g w x v) (d : Option Tmp) (hd : ∀ t, d = some t → t < n) : EnvRel g w n (upd e d x) (a.put d v) := by
  cases d with
  | none => exact h
  | some t =>
    refine ⟨by simp [Act.put, h.1], fun k => ?_⟩
    simp only [upd, Act.put]
    by_cases hk : k = t
    · subst hk
      rw [if_pos rfl]
      have : k < a.tmps.size := by rw [h.1]; exact hd k rfl
      simp [Array.getD, this]; exact hx
    · rw [if_neg hk]
      have := h.2 k
      simp only [Array.getD_eq_getD_getElem?] at this ⊢
      rw [Array.getElem?_setIfInBounds_ne (Ne.symm hk)]
      exact this

/-- a piece of code on pure values -/
def AW (P : Program) (gl : Glob) (n : Nat) (c : Code) (Q : Ex → Env → Heap → Prop) (e : Env) (H : Heap) : Prop :=
  dstAll n c = true → ∀ g a w, St gl n g e H a w →
    c.wp P (fun ex a' w' => ∃ ex' g' e' H', exRel ex ex' ∧ St gl n g' e' H' a' w' ∧ Ext g H w g' H' w' ∧ Q ex' e' H') a w

theorem St.next {gl : Glob} {n : Nat} {g g' : Gh} {e : Env} {H H' : Heap} {a : Act} {w w' : World} (h : St gl n g e H a w) (hs : Sim g' H' w') (hx : Ext g H w g' H' w') {x : PV} {v : Value} (hr : Rel g' w' x v) (d : Option Tmp) (hd : ∀ t, d = some t → t < n) :
    St gl n g' (upd e d x) H' (a.put d v) w' :=
  ⟨hs, h.glob.mono hx.gx, (h.env.mono hx.gx).put hr d hd, by cases d <;> exact h.dfr⟩

theorem undef_rel (g : Gh) (w : World) : Rel g w (.tup []) undef := Rel.tup_iff.2 ⟨#[], rfl, .nil⟩

theorem opWp_mono {P : Program} {o : Oper} {a : Act} {w : World} {next next' : Act → World → Prop} {Q Q' : Exit → Act → World → Prop} (hn : ∀ a w, next a w → next' a w) (hq : ∀ e a w, Q e a w → Q' e a w)
    (h : o.wp P a w next Q) : o.wp P a w next' Q' := by
  unfold Oper.wp Oper.upon at *
  split at h
  · exact hn _ _ h
  · exact hn _ _ h
  · exact hn _ _ h
  · refine h.mono ?_
    intro e w' hr
    cases e with
    | returned v => exact hn _ _ hr
    | panicked chain => exact hq _ _ _ hr
    | outgrown => obtain ⟨a, w, k⟩ := hr; exact ⟨a, w, hq _ _ _ k⟩
  · exact h.mono fun v w' hr => hn _ _ hr
  · exact hq _ _ _ h
  · exact h.elim

theorem wpOps_mono {P : Program} {ops : Array Oper} {Q Q' : Exit → Act → World → Prop} (is : List Nat) (hq : ∀ e a w, Q e a w → Q' e a w) : ∀ (a : Act) (w : World), wpOps P ops Q is a w → wpOps P ops Q' is a w := by
  induction is with
  | nil => intro a w h; exact hq _ _ _ h
  | cons i is ih =>
    intro a w h
    unfold wpOps at h ⊢
    split at h
    · exact ih a w h
    · split at h
      · rename_i hw
        rw [if_pos hw]
        rcases h with h | ⟨h1, a0, w0, h2⟩
        · exact .inl (opWp_mono ih hq h)
        · exact .inr ⟨h1, a0, w0, hq _ _ _ h2⟩
      · rename_i hw
        rw [if_neg hw]
        exact ih _ w h

/-- a row of operations in the machine: by places -/
theorem yielded_none {gl : Glob} {n : Nat} {g : Gh} {e : Env} {H : Heap} {a : Act} {w : World} (hst : St gl n g e H a w) {ops : Array Oper} {j : Nat} {d : Tmp} (hd : (ops[j]?).bind (·.dst) = some d) (hb : e d = .tup []) :
    yielded ops a.tmps j = none := by
  unfold yielded
  rw [hd]
  simp only [Option.bind_some]
  have hr := hst.env.2 d
  rw [hb] at hr
  rcases Nat.lt_or_ge d a.tmps.size with hlt | hge
  · rw [Array.getD_eq_getD_getElem?, Array.getElem?_eq_getElem hlt] at hr
    rw [Array.getElem?_eq_getElem hlt]
    simp only [Option.getD_some] at hr
    generalize a.tmps[d] = v at hr
    cases hr; rfl
  · rw [Array.getElem?_eq_none hge]

theorem regw_sound {P : Program} {gl : Glob} {hn : Oper → Nat} {n : Nat} {ops : Array Oper} {K : Env → Heap → Prop} (hd : ops.toList.all (dstLt n) = true) : ∀ (is : List Nat) (l : List Oper) (g : Gh) (e : Env) (H : Heap) (a : Act) (w : World),
    is.map (fun i => ops[i]?) = l.map some → St gl n g e H a w → regw P gl hn ops l e H K →
    wpOps P ops (fun ex a' w' => ∃ g' e' H', ex = .normal ∧ St gl n g' e' H' a' w' ∧ Ext g H w g' H' w' ∧ K e' H') is a w := by
  intro is
  induction is with
  | nil =>
    intro l g e H a w hl hst h
    have : l = [] := by simpa using hl
    subst this
    exact ⟨g, e, H, rfl, hst, .refl g H w, h⟩
  | cons i is ih =>
    intro l g e H a w hl hst h
    cases l with
    | nil => simp at hl
    | cons o l =>
      simp only [List.map_cons, List.cons.injEq] at hl
      obtain ⟨hi, hl⟩ := hl
      have hmem : o ∈ ops.toList := by
        obtain ⟨hlt, he⟩ := Array.getElem?_eq_some_iff.1 hi
        rw [← he]; exact Array.getElem_mem_toList hlt
      have hdo : ∀ t, o.dst = some t → t < n := by
        intro t ht
        have := List.all_eq_true.1 hd o hmem
        simpa [dstLt, ht] using this
      have step : ∀ (K' : PV → Heap → Prop), (∀ x H', K' x H' → regw P gl hn ops l (upd e o.dst x) H' K) → opw P gl o.op (hn o) (ev gl e) H K' →
          o.wp P a w (wpOps P ops (fun ex a' w' => ∃ g' e' H', ex = .normal ∧ St gl n g' e' H' a' w' ∧ Ext g H w g' H' w' ∧ K e' H') is) (fun ex a' w' => ∃ g' e' H', ex = .normal ∧ St gl n g' e' H' a' w' ∧ Ext g H w g' H' w' ∧ K e' H') := by
        intro K' hK' hop
        have hno := opw_sound hst.sim hst.glob (o := o) (a := a) (fun x => hst.env.ev hst.glob x) hop
        have cont : ∀ (g1 : Gh) (H1 : Heap) (w1 : World) (x : PV) (v : Value), Sim g1 H1 w1 → Ext g H w g1 H1 w1 → Rel g1 w1 x v → K' x H1 →
            wpOps P ops (fun ex a' w' => ∃ g' e' H', ex = .normal ∧ St gl n g' e' H' a' w' ∧ Ext g H w g' H' w' ∧ K e' H') is (a.put o.dst v) w1 := by
          intro g1 H1 w1 x v h1 h2 h3 h4
          have := ih l g1 (upd e o.dst x) H1 (a.put o.dst v) w1 hl (hst.next h1 h2 h3 o.dst hdo) (hK' x H1 h4)
          refine wpOps_mono _ ?_ _ _ this
          rintro ex a' w' ⟨g', e', H', rfl, k1, k2, k3⟩
          exact ⟨g', e', H', rfl, k1, h2.trans k2, k3⟩
        unfold Oper.wp
        rcases hno with ⟨v, w', g', H', x, h1, h2, h3, h4, h5⟩ | ⟨w', g', H', h1, h2, h3, h4⟩ | ⟨f, vs, h1, h2⟩
        · rw [h1]; exact cont g' H' w' x v h2 h3 h4 h5
        · rw [h1]; exact cont g' H' w' (.tup []) undef h2 h3 (undef_rel g' w') h4
        · rw [h1]
          refine h2.mono ?_
          rintro ex w' ⟨v, g', H', x, rfl, k1, k2, k3, k4⟩
          exact cont g' H' w' x v k1 k2 k3 k4
      unfold wpOps
      rw [hi]
      simp only
      unfold regw at h
      split at h
      · rename_i hg
        have hw : Region.wanted o (yielded ops a.tmps) = true := by simp [Region.wanted, hg]
        rw [if_pos hw]
        exact .inl (step _ (fun x H' hk => hk) h)
      · rename_i j want hg
        split at h
        · rename_i d hd'
          split at h
          · rename_i b hb
            have hy : yielded ops a.tmps j = some b := by
              unfold yielded
              rw [hd']
              simp only [Option.bind_some]
              have hr := hst.env.2 d
              rw [hb] at hr
              have hlt : d < a.tmps.size := by
                rcases Nat.lt_or_ge d a.tmps.size with h | h
                · exact h
                · exfalso
                  rw [Array.getD_eq_getD_getElem?, Array.getElem?_eq_none h] at hr
                  simp only [Option.getD_none, undef] at hr
                  cases hr
              rw [Array.getD_eq_getD_getElem?, Array.getElem?_eq_getElem hlt] at hr
              rw [Array.getElem?_eq_getElem hlt]
              simp only [Option.getD_some] at hr
              generalize a.tmps[d] = v at hr
              cases hr; rfl
            by_cases hbw : b = want
            · have hw : Region.wanted o (yielded ops a.tmps) = true := by simp [Region.wanted, hg, hy, hbw]
              rw [if_pos hw]
              exact .inl (step _ (fun x H' hk => hk) (h.1 hbw))
            · have hw : ¬ Region.wanted o (yielded ops a.tmps) = true := by simp [Region.wanted, hg, hy, hbw]
              rw [if_neg hw]
              have hbn : b = !want := by cases b <;> cases want <;> simp_all
              have := ih l g (upd e o.dst (.tup [])) H (a.put o.dst undef) w hl (hst.next hst.sim (.refl g H w) (undef_rel g w) o.dst hdo) (h.2 hbn)
              exact this
          · rename_i hb
            have hy : yielded ops a.tmps j = none := yielded_none hst hd' hb
            have hw : ¬ Region.wanted o (yielded ops a.tmps) = true := by simp [Region.wanted, hg, hy]
            rw [if_neg hw]
            exact ih l g (upd e o.dst (.tup [])) H (a.put o.dst undef) w hl (hst.next hst.sim (.refl g H w) (undef_rel g w) o.dst hdo) h
          · exact h.elim
        · exact h.elim

theorem range_getElem? (ops : Array Oper) : (List.range ops.size).map (fun i => ops[i]?) = ops.toList.map some := by
  apply List.ext_getElem?
  intro q
  by_cases hq : q < ops.size
  · rw [List.getElem?_map, List.getElem?_range hq, List.getElem?_map]
    simp [hq]
  · rw [List.getElem?_eq_none (by simp; omega), List.getElem?_eq_none (by simp; omega)]

theorem aw_region {P : Program} {gl : Glob} {n : Nat} {id : Nat} {ops : Array Oper} {Q : Ex → Env → Heap → Prop} {e : Env} {H : Heap} (hn : Oper → Nat) (h : regw P gl hn ops ops.toList e H (Q .normal)) : AW P gl n (.region id ops false) Q e H := by
  intro hd g a w hst
  refine wp_region (wpOps_mono _ ?_ _ _ (regw_sound (n := n) hd _ _ g e H a w (range_getElem? ops) hst h))
  rintro ex a' w' ⟨g', e', H', rfl, k1, k2, k3⟩
  exact ⟨.normal, g', e', H', trivial, k1, k2, k3⟩

theorem AW.mono {P : Program} {gl : Glob} {n : Nat} {c : Code} {Q Q' : Ex → Env → Heap → Prop} {e : Env} {H : Heap} (h : AW P gl n c Q e H) (hq : ∀ ex e H, Q ex e H → Q' ex e H) : AW P gl n c Q' e H :=
  fun hd g a w hst => wp_mono (h hd g a w hst) fun _ _ _ ⟨ex', g', e', H', k0, k1, k2, k3⟩ => ⟨ex', g', e', H', k0, k1, k2, hq _ _ _ k3⟩

theorem aw_skip {P : Program} {gl : Glob} {n : Nat} {Q : Ex → Env → Heap → Prop} {e : Env} {H : Heap} (h : Q .normal e H) : AW P gl n .skip Q e H :=
  fun _ g _ w hst => wp_skip ⟨.normal, g, e, H, trivial, hst, .refl g H w, h⟩

theorem aw_label {P : Program} {gl : Glob} {n l : Nat} {Q : Ex → Env → Heap → Prop} {e : Env} {H : Heap} (h : Q .normal e H) : AW P gl n (.label l) Q e H :=
  fun _ g _ w hst => wp_label ⟨.normal, g, e, H, trivial, hst, .refl g H w, h⟩

theorem aw_exit {P : Program} {gl : Glob} {n id : Nat} {Q : Ex → Env → Heap → Prop} {e : Env} {H : Heap} (h : Q (.exit id) e H) : AW P gl n (.exit id) Q e H :=
  fun _ g _ w hst => wp_exit ⟨.exit id, g, e, H, rfl, hst, .refl g H w, h⟩

theorem aw_ret {P : Program} {gl : Glob} {n : Nat} {Q : Ex → Env → Heap → Prop} {e : Env} {H : Heap} (h : Q .ret e H) : AW P gl n .ret Q e H :=
  fun _ g _ w hst => wp_ret ⟨.ret, g, e, H, trivial, hst, .refl g H w, h⟩

theorem aw_cond {P : Program} {gl : Glob} {n : Nat} {c : Operand} {x y : Code} {Q : Ex → Env → Heap → Prop} {e : Env} {H : Heap} {b : Bool} (hc : ev gl e c = .bool b) (h1 : b = true → AW P gl n x Q e H) (h2 : b = false → AW P gl n y Q e H) :
    AW P gl n (.cond c x y) Q e H := by
  intro hd g a w hst
  simp only [dstAll, Bool.and_eq_true] at hd
  have hr := hst.env.ev hst.glob c
  rw [hc] at hr
  have hv : a.eval c = .bool b := by
    generalize a.eval c = v at hr
    cases hr; rfl
  refine wp_cond_split hv (fun hb => h1 hb hd.1 g a w hst) (fun hb => h2 hb hd.2 g a w hst)

/-- what comes behind a piece of code -/
inductive Kt where
  | fin (Q : Ex → Env → Heap → Prop)
  | seq (b : Code) (k : Kt)
  | blk (id : Nat) (k : Kt)
  | lp (I : Nat → Env → Heap → Prop) (m : Nat) (k : Kt)

def post (P : Program) (gl : Glob) (n : Nat) : Kt → Ex → Env → Heap → Prop
  | .fin Q => Q
  | .seq b k => fun ex e H => match ex with
    | .normal => AW P gl n b (post P gl n k) e H
    | ex => post P gl n k ex e H
  | .blk id k => fun ex e H => match ex with
    | .exit i => if i = id then post P gl n k .normal e H else post P gl n k (.exit i) e H
    | ex => post P gl n k ex e H
  | .lp I m k => fun ex e H => match ex with
    | .normal => ∃ m', m' < m ∧ I m' e H
    | ex => post P gl n k ex e H

theorem post_seq_normal (P : Program) (gl : Glob) (n : Nat) (b : Code) (k : Kt) (e : Env) (H : Heap) : post P gl n (.seq b k) .normal e H = AW P gl n b (post P gl n k) e H := rfl
theorem post_seq_exit (P : Program) (gl : Glob) (n : Nat) (b : Code) (k : Kt) (i : Nat) (e : Env) (H : Heap) : post P gl n (.seq b k) (.exit i) e H = post P gl n k (.exit i) e H := rfl
theorem post_seq_ret (P : Program) (gl : Glob) (n : Nat) (b : Code) (k : Kt) (e : Env) (H : Heap) : post P gl n (.seq b k) .ret e H = post P gl n k .ret e H := rfl
theorem post_blk_normal (P : Program) (gl : Glob) (n id : Nat) (k : Kt) (e : Env) (H : Heap) : post P gl n (.blk id k) .normal e H = post P gl n k .normal e H := rfl
theorem post_blk_exit (P : Program) (gl : Glob) (n id i : Nat) (k : Kt) (e : Env) (H : Heap) : post P gl n (.blk id k) (.exit i) e H = if i = id then post P gl n k .normal e H else post P gl n k (.exit i) e H := rfl
theorem post_blk_ret (P : Program) (gl : Glob) (n id : Nat) (k : Kt) (e : Env) (H : Heap) : post P gl n (.blk id k) .ret e H = post P gl n k .ret e H := rfl
theorem post_lp_normal (P : Program) (gl : Glob) (n : Nat) (I : Nat → Env → Heap → Prop) (m : Nat) (k : Kt) (e : Env) (H : Heap) : post P gl n (.lp I m k) .normal e H = ∃ m', m' < m ∧ I m' e H := rfl
theorem post_lp_exit (P : Program) (gl : Glob) (n : Nat) (I : Nat → Env → Heap → Prop) (m i : Nat) (k : Kt) (e : Env) (H : Heap) : post P gl n (.lp I m k) (.exit i) e H = post P gl n k (.exit i) e H := rfl
theorem post_lp_ret (P : Program) (gl : Glob) (n : Nat) (I : Nat → Env → Heap → Prop) (m : Nat) (k : Kt) (e : Env) (H : Heap) : post P gl n (.lp I m k) .ret e H = post P gl n k .ret e H := rfl
theorem post_fin (P : Program) (gl : Glob) (n : Nat) (Q : Ex → Env → Heap → Prop) (ex : Ex) (e : Env) (H : Heap) : post P gl n (.fin Q) ex e H = Q ex e H := rfl

theorem aw_seq {P : Program} {gl : Glob} {n : Nat} {x y : Code} {k : Kt} {e : Env} {H : Heap} (h : AW P gl n x (post P gl n (.seq y k)) e H) : AW P gl n (.seq x y) (post P gl n k) e H := by
  intro hd g a w hst
  simp only [dstAll, Bool.and_eq_true] at hd
  refine wp_seq (wp_mono (h hd.1 g a w hst) ?_)
  rintro ex a' w' ⟨ex', g', e', H', k0, k1, k2, k3⟩
  cases ex <;> cases ex' <;> first | exact k0.elim | skip
  · refine wp_mono (k3 hd.2 g' a' w' k1) ?_
    rintro ex2 a2 w2 ⟨ex3, g3, e3, H3, j0, j1, j2, j3⟩
    exact ⟨ex3, g3, e3, H3, j0, j1, k2.trans j2, j3⟩
  · exact ⟨.exit _, g', e', H', k0, k1, k2, k3⟩
  · exact ⟨.ret, g', e', H', k0, k1, k2, k3⟩

theorem aw_block {P : Program} {gl : Glob} {n id : Nat} {x : Code} {k : Kt} {e : Env} {H : Heap} (h : AW P gl n x (post P gl n (.blk id k)) e H) : AW P gl n (.block id x) (post P gl n k) e H := by
  intro hd g a w hst
  simp only [dstAll] at hd
  refine wp_block (wp_mono (h hd g a w hst) ?_)
  rintro ex a' w' ⟨ex', g', e', H', k0, k1, k2, k3⟩
  cases ex <;> cases ex' <;> first | exact k0.elim | skip
  · exact ⟨.normal, g', e', H', trivial, k1, k2, k3⟩
  · rename_i i j
    simp only [exRel] at k0
    subst k0
    simp only [post] at k3
    show (if i = id then _ else _)
    by_cases hi : i = id
    · rw [if_pos hi] at k3 ⊢
      exact ⟨.normal, g', e', H', trivial, k1, k2, k3⟩
    · rw [if_neg hi] at k3 ⊢
      exact ⟨.exit i, g', e', H', rfl, k1, k2, k3⟩
  · exact ⟨.ret, g', e', H', trivial, k1, k2, k3⟩

theorem aw_loop {P : Program} {gl : Glob} {n : Nat} {x : Code} {k : Kt} {e : Env} {H : Heap} (I : Nat → Env → Heap → Prop) (m0 : Nat) (h0 : I m0 e H)
    (round : ∀ m e H, I m e H → AW P gl n x (post P gl n (.lp I m k)) e H) : AW P gl n (.loop x) (post P gl n k) e H := by
  intro hd g a w hst
  simp only [dstAll] at hd
  refine wp_loop_ghost (fun m a' w' => ∃ g' e' H', St gl n g' e' H' a' w' ∧ Ext g H w g' H' w' ∧ I m e' H') m0 ⟨g, e, H, hst, .refl g H w, h0⟩ ?_
  rintro m a1 w1 ⟨g1, e1, H1, hst1, hx1, hI⟩
  refine wp_mono (round m e1 H1 hI hd g1 a1 w1 hst1) ?_
  rintro ex a' w' ⟨ex', g', e', H', k0, k1, k2, k3⟩
  cases ex <;> cases ex' <;> first | exact k0.elim | skip
  · obtain ⟨m', hm, hI'⟩ := k3
    exact ⟨m', hm, g', e', H', k1, hx1.trans k2, hI'⟩
  · exact ⟨.exit _, g', e', H', k0, k1, hx1.trans k2, k3⟩
  · exact ⟨.ret, g', e', H', k0, k1, hx1.trans k2, k3⟩

/-- a cut: what is asked of the code so far, and what goes on behind -/
theorem aw_cut {P : Program} {gl : Glob} {n : Nat} {x : Code} {k : Kt} {e : Env} {H : Heap} (R : Ex → Env → Heap → Prop) (h : AW P gl n x R e H) (hk : ∀ ex e H, R ex e H → post P gl n k ex e H) : AW P gl n x (post P gl n k) e H :=
  h.mono hk

/-- a row of the call's own is let go, and stands as a list -/
theorem aw_freeze {P : Program} {gl : Glob} {n : Nat} {c : Code} {Q : Ex → Env → Heap → Prop} {e : Env} {H : Heap} (t o len cap s : Nat) (cs : List PV) (es : List (List PV)) (ht : e t = .arr o 0 len cap) (ho : H[o]? = some (.cells cs))
    (hu : uni s es) (hl : es.length = len) (hlc : len ≤ cap) (hc : cs.take (len * s) = es.flatten)
    (h : AW P gl n c Q (upd e (some t) (.list es (if len = cap then .exact else .no))) (H.set o .dead)) : AW P gl n c Q e H := by
  intro hd g a w hst
  obtain ⟨g', k1, k2, k3⟩ := hst.sim.freeze ho
  have hr := hst.env.2 t
  rw [ht] at hr
  generalize hv : a.tmps.getD t undef = v at hr
  cases hr
  rename_i hog
  have hrow : ImmRow g' w ⟨g.bk o, 0, none⟩ es.flatten := by
    have : cs = es.flatten ++ cs.drop (len * s) := by rw [← hc, List.take_append_drop]
    rw [this] at k3
    exact k3.front
  have hlist : Rel g' w (.list es (if len = cap then .exact else .no)) (.slice (some ⟨g.bk o, 0, none⟩) len cap) := by
    refine Rel.list_iff.2 ⟨_, _, by rw [hl], uni_eq hu, by omega, ?_, .inr ⟨_, rfl, hrow⟩⟩
    split
    · rename_i e; simp only [TailOk]; omega
    · trivial
  have hst' : St gl n g' (upd e (some t) (.list es (if len = cap then .exact else .no))) (H.set o .dead) a w := by
    refine ⟨k1, hst.glob.mono k2.gx, ⟨hst.env.1, fun q => ?_⟩, hst.dfr⟩
    simp only [upd]
    by_cases hq : q = t
    · subst hq; rw [if_pos rfl, hv]; exact hlist
    · rw [if_neg hq]; exact (hst.env.2 q).mono k2.gx
  refine wp_mono (h hd g' a w hst') ?_
  rintro ex a' w' ⟨ex', g2, e2, H2, j0, j1, j2, j3⟩
  exact ⟨ex', g2, e2, H2, j0, j1, k2.trans j2, j3⟩

/-- results -/
def resA (P : Program) (H : Heap) (e : Env) : List ResultVar → Option (List PV)
  | [] => some []
  | .tmp t :: rs => match resA P H e rs with
    | some xs => some (e t :: xs)
    | none => none
  | .cell a t :: rs => match behind H (e a), tyA P t with
    | some cs, some (b, sz) => match loadPV b sz cs, resA P H e rs with
      | some y, some xs => some (y :: xs)
      | _, _ => none
    | _, _ => none

def resQ (P : Program) (rs : List ResultVar) (K : PV → Heap → Prop) : Ex → Env → Heap → Prop
  | .normal, e, H | .ret, e, H => match resA P H e rs with
    | some [x] => K x H
    | some xs => K (.tup xs) H
    | none => False
  | _, _, _ => False

theorem resA_run {P : Program} {gl : Glob} {n : Nat} {g : Gh} {e : Env} {H : Heap} {a : Act} {w : World} (hst : St gl n g e H a w) : ∀ (rs : List ResultVar) (xs : List PV), resA P H e rs = some xs →
    ∃ vs, (rs.mapM (fun (r : ResultVar) => (match r with
      | .tmp t => pure (a.tmps.getD t undef)
      | .cell b t => do loadVar t (← asAddr (a.tmps.getD b undef)) : Sem Value))).run P w = .ok vs w ∧ RelL g w xs vs := by
  intro rs
  induction rs with
  | nil => intro xs h; cases h; exact ⟨[], rfl, .nil⟩
  | cons r rs ih =>
    intro xs h
    cases r with
    | tmp t =>
      simp only [resA] at h
      split at h
      · rename_i xs' hxs
        cases h
        obtain ⟨vs, h1, h2⟩ := ih xs' hxs
        exact ⟨a.tmps.getD t undef :: vs, by simp only [List.mapM_cons, Sem.run_bind, Sem.run_pure, Result.andThen_ok, h1], .cons (hst.env.2 t) h2⟩
      · cases h
    | cell b t =>
      simp only [resA] at h
      split at h
      · rename_i cs bb sz hb ht
        split at h
        · rename_i y xs' hl hxs
          cases h
          obtain ⟨vs, h1, h2⟩ := ih xs' hxs
          obtain ⟨A, hA, hrow⟩ := behind_spec hst.sim (hst.env.2 b) hb
          obtain ⟨u, h3, h4⟩ := load_row (P := P) hrow ht hl
          refine ⟨u :: vs, ?_, .cons h4 h2⟩
          have e1 : (do loadVar t (← asAddr (a.tmps.getD b undef)) : Sem Value).run P w = .ok u w := by
            rw [hA, Sem.run_bind]
            exact h3
          rw [List.mapM_cons, Sem.run_bind]
          simp only
          rw [e1]
          simp only [Result.andThen_ok, Sem.run_bind, h1, Sem.run_pure]
        · cases h
      · cases h

def env0 (args : List PV) : Env := fun t => (args[t]?).getD (.tup [])

theorem acalls_of_aw {P : Program} {gl : Glob} {f : FuncId} {fn : Func} {c : Code} (hf : P.funcs[f]? = some fn) (hb : fn.body = some c) (hd : dstAll fn.ntmps c = true) {args : List PV} (hsz : args.length ≤ fn.ntmps) {H : Heap} {K : PV → Heap → Prop}
    (h : AW P gl fn.ntmps c (post P gl fn.ntmps (.fin (resQ P fn.results.toList K))) (env0 args) H) : ACalls P gl f args H K := by
  intro g w vs hS hG hR
  refine calls_of_wp hf hb ?_
  have hlen : vs.size = args.length := by have := hR.1; simp at this; omega
  have hst : St gl fn.ntmps g (env0 args) H { tmps := vs ++ Array.replicate (fn.ntmps - vs.size) undef, defers := [] } w := by
    refine ⟨hS, hG, ⟨by simp; omega, fun t => ?_⟩, rfl⟩
    simp only [env0, Array.getD_eq_getD_getElem?]
    by_cases ht : t < args.length
    · rw [List.getElem?_eq_getElem ht, Array.getElem?_append_left (by omega)]
      simp only [Option.getD_some]
      obtain ⟨v, hv, hr⟩ := hR.get (List.getElem?_eq_getElem ht)
      rw [Array.getElem?_toList] at hv
      rw [hv]; exact hr
    · rw [List.getElem?_eq_none (by omega)]
      simp only [Option.getD_none]
      rw [Array.getElem?_append_right (by omega)]
      have : (Array.replicate (fn.ntmps - vs.size) undef)[t - vs.size]?.getD undef = undef := by
        rw [Array.getElem?_replicate]; split <;> rfl
      rw [this]; exact undef_rel g w
  refine wp_mono (h hd g _ w hst) ?_
  rintro ex a' w' ⟨ex', g', e', H', k0, k1, k2, k3⟩
  have fin : (match resA P H' e' fn.results.toList with | some [x] => K x H' | some xs => K (.tup xs) H' | none => False) →
      a'.defers = [] ∧ ∃ v, (results fn a'.tmps).run P w' = .ok v w' ∧ ∃ v1 g1 H1 x, Ending.returned v = .returned v1 ∧ Sim g1 H1 w' ∧ Ext g H w g1 H1 w' ∧ Rel g1 w' x v1 ∧ K x H1 := by
    intro hk
    refine ⟨k1.dfr, ?_⟩
    split at hk
    · rename_i x hx
      obtain ⟨us, h1, h2⟩ := resA_run (P := P) k1 _ _ hx
      obtain ⟨u, rfl⟩ : ∃ u, us = [u] := by
        have := h2.1
        match us, this with
        | [u], _ => exact ⟨u, rfl⟩
      refine ⟨u, ?_, u, g', H', x, rfl, k1.sim, k2, h2.2 0 x u rfl rfl, hk⟩
      unfold results
      rw [Array.mapM_eq_mapM_toList, Sem.run_bind, Sem.run_map]
      refine Eq.trans (congrArg (fun z : Result (List Value) => (z.andThen fun a w' => Result.ok a.toArray w').andThen fun a w' => Sem.run P (pure (if h : a.size = 1 then a[0] else Value.tuple a)) w') h1) ?_
      rfl
    · rename_i xs hne hx
      obtain ⟨us, h1, h2⟩ := resA_run (P := P) k1 _ _ hx
      refine ⟨.tuple us.toArray, ?_, _, g', H', .tup xs, rfl, k1.sim, k2, Rel.tup_iff.2 ⟨_, rfl, by simpa using h2⟩, hk⟩
      unfold results
      rw [Array.mapM_eq_mapM_toList, Sem.run_bind, Sem.run_map]
      refine Eq.trans (congrArg (fun z : Result (List Value) => (z.andThen fun a w' => Result.ok a.toArray w').andThen fun a w' => Sem.run P (pure (if h : a.size = 1 then a[0] else Value.tuple a)) w') h1) ?_
      simp only [Result.andThen_ok]
      have hne1 : us.toArray.size ≠ 1 := by
        intro h
        simp at h
        have hl := h2.1
        rw [h] at hl
        match xs, hl, hne with
        | [x], _, hne => exact hne x rfl
      rw [dif_neg hne1]
      rfl
    · exact hk.elim
  cases ex <;> cases ex' <;> first | exact k0.elim | skip
  · exact fin k3
  · exact k3.elim
  · exact fin k3

end Go.AM

