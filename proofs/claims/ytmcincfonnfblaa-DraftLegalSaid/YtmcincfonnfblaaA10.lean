/-
  An abstract machine over values without memory, proved against the model; part 10. A tool for the proofs of this claim; it states nothing of the program.
-/
import Derived.Test.YtmcincfonnfblaaA9
import Derived.Laws.MakeOwn
/-! AM, part 10: rows of the call's own that are written: append, copy, clear, make. -/
namespace Go.AM
open Go

theorem zeroCells_rel {g : Gh} {w : World} {z : List PV} {zs : Array Value} (h : RelL g w z zs.toList) (n : Nat) (h0 : zs.size ≠ 0) : RelL g w (List.replicate n z).flatten (Builtin.zeroCells zs n).toList := by
  unfold Builtin.zeroCells
  rw [range_map_zero zs n (.inl h0)]
  exact relL_flat h n

theorem src_arr {P : Program} {g : Gh} {H : Heap} {w : World} (h : Sim g H w) {o off len cap sz : Nat} {v : Value} {cs : List PV} (hx : Rel g w (.arr o off len cap) v) (ho : H[o]? = some (.cells cs)) (hn : off + len * sz ≤ cs.length) :
    ∃ vs, Src P g w v sz len ((cs.drop off).take (len * sz)) vs :=
  src_spec h hx (by simp only [srcA, ho]; rw [if_pos hn]) (by simp; omega)

/-- append to a row of the call's own, or to nothing: just what the machine does -/
theorem vok_append_arr {P : Program} {g : Gh} {H : Heap} {w : World} {K : PV → Heap → Prop} (h : Sim g H w) {ts : Array TypeId} {sz by_ : Nat} {z : List PV} (ha : appA P ts = some (sz, by_, z)) (ty : TypeId)
    {o off len cap n : Nat} {cs ys : List PV} {y : PV} {v u : Value} (hx : Rel g w (.arr o off len cap) v) (ho : H[o]? = some (.cells cs)) (hlc : len ≤ cap) (hoc : off + cap * sz ≤ cs.length)
    (hy : Rel g w y u) (hs : srcA H sz y = some (ys, n)) (hyn : ys.length = n * sz) (hy1 : ys.all PV.one = true) (hb : (len + n) * by_ ≤ 140737488355328)
    (hk1 : len + n ≤ cap → K (.arr o off (len + n) cap) (H.set o (.cells (over cs (off + len * sz) ys))))
    (hk2 : cap < len + n → ∀ c, len + n ≤ c → K (.arr H.length 0 (len + n) c) (H ++ [.cells (((cs.drop off).take (len * sz)) ++ ys ++ (List.replicate (c - (len + n)) z).flatten)])) :
    VOk P (Builtin.append_ ts ty #[v, u]) g H w K := by
  obtain ⟨t, e, i, zv, hT, rfl, rfl, hzl, hs0, hb0, hzs⟩ := appA_spec ha
  have hlz : len * i.size ≤ cap * i.size := Nat.mul_le_mul_right _ hlc
  obtain ⟨us, hO⟩ := src_arr (P := P) (sz := i.size) h hx ho (by omega)
  obtain ⟨vs, hS⟩ := src_spec (P := P) h hy hs hyn
  cases hx with
  | arr _ _ _ _ hol =>
  have h3 : vs.length = n * i.size := by rw [← hS.rel.1]; exact hyn
  by_cases hfit : len + n ≤ cap
  · obtain ⟨⟨C, ty', hC, hr⟩, _⟩ := h.cells o cs ho
    have hCl : C.size = cs.length := by have := hr.1; simp at this; omega
    have hle : len * i.size + n * i.size ≤ cap * i.size := by rw [← Nat.add_mul]; exact Nat.mul_le_mul_right _ hfit
    obtain ⟨k1, k2⟩ := h.put ho (C := (over C.toList (off + len * i.size) vs).toArray) (ty := ty') (cs' := over cs (off + len * i.size) ys) (by simpa using hr.over hS.rel _)
    refine ⟨.slice (some ⟨g.bk o, off, none⟩) (len + n) cap, _, _, _, _, ?_, k1, k2, ?_, hk1 hfit⟩
    · rw [run_append_fit hT hS hfit ty]
      simp only
      have hst := run_storeCells P (b := g.bk o) (ty := ty') vs w C ((⟨g.bk o, off, none⟩ : Addr).add (len * i.size)) 0 (by rw [addr_add rfl]; rfl) (by rw [addr_add rfl]; rfl) hC
        (one_of_cells hS.rel hy1) (by rw [addr_add rfl]; simp only [At]; omega)
      rw [hst]
      simp only [Result.andThen_ok]
      rw [addr_add rfl]
      simp only [At, Nat.add_zero]
    · exact (Rel.arr o off (len + n) cap hol)
  · have hzc : zv.cells.size = i.size := by have := (hzl g w).1; simp at this; omega
    obtain ⟨k1, k2, k3⟩ := h.drew.new (cs := ((cs.drop off).take (len * i.size)) ++ ys ++ (List.replicate (grownCap w (len + n) cap e - (len + n)) z).flatten)
      (C := us.toArray ++ vs.toArray ++ Builtin.zeroCells zv.cells (grownCap w (len + n) cap e - (len + n))) e (by
        have h4 := (hO.rel.append hS.rel).append (zeroCells_rel (hzl g w) (grownCap w (len + n) cap e - (len + n)) (by omega))
        have := h4.mono (Gext.drew g w)
        simpa using this)
    refine ⟨_, _, _, _, _, run_append_grow' hT hO hS hfit hb ty, k1, (Ext.drew g H w).trans k2, ?_, hk2 (by omega) _ (grownCap_ge _ _ _ _)⟩
    have := Rel.arr (g := g.push w.drew.heap.size 0) (w := w.drew.alloc (.cells (us.toArray ++ vs.toArray ++ Builtin.zeroCells zv.cells (grownCap w (len + n) cap e - (len + n))) e)) H.length 0 (len + n) (grownCap w (len + n) cap e) (by simp [Gh.push, h.n])
    have hbk : (g.push w.drew.heap.size 0).bk H.length = w.heap.size := by simp [Gh.push, h.n]
    rw [hbk] at this
    exact this

/-- append to nothing: a row of the call's own -/
theorem vok_append_new {P : Program} {g : Gh} {H : Heap} {w : World} {K : PV → Heap → Prop} (h : Sim g H w) {ts : Array TypeId} {sz by_ : Nat} {z : List PV} (ha : appA P ts = some (sz, by_, z)) (ty : TypeId)
    {n : Nat} {ys : List PV} {y : PV} {v u : Value} (hx : Rel g w (.list [] .exact) v) (hy : Rel g w y u) (hs : srcA H sz y = some (ys, n)) (hyn : ys.length = n * sz) (hb : n * by_ ≤ 140737488355328) (hn : 0 < n)
    (hk2 : ∀ c, n ≤ c → K (.arr H.length 0 n c) (H ++ [.cells (ys ++ (List.replicate (c - n) z).flatten)])) :
    VOk P (Builtin.append_ ts ty #[v, u]) g H w K := by
  obtain ⟨t, e, i, zv, hT, rfl, rfl, hzl, hs0, hb0, hzs⟩ := appA_spec ha
  obtain ⟨a, cap, hv, _, _, htl, _⟩ := Rel.list_iff.1 hx
  subst hv
  have hcap : cap = 0 := htl
  subst hcap
  obtain ⟨us, hO⟩ := src_self (P := P) (sz := i.size) h hx (fun e he => by simp at he)
  obtain ⟨vs, hS⟩ := src_spec (P := P) h hy hs hyn
  have hus : us = [] := by have := hO.rel.1; simp at this; exact List.length_eq_zero_iff.1 this.symm
  have hzc : zv.cells.size = i.size := by have := (hzl g w).1; simp at this; omega
  have hrun := run_append_grow' hT hO hS (by simp; omega) (by simpa using hb) ty
  subst hus
  simp only [List.length_nil, Nat.zero_add] at hrun
  obtain ⟨k1, k2, k3⟩ := h.drew.new (cs := ys ++ (List.replicate (grownCap w n 0 e - n) z).flatten) (C := #[] ++ vs.toArray ++ Builtin.zeroCells zv.cells (grownCap w n 0 e - n)) e (by
    have h4 := hS.rel.append (zeroCells_rel (hzl g w) (grownCap w n 0 e - n) (by omega))
    have := h4.mono (Gext.drew g w)
    simpa using this)
  refine ⟨_, _, _, _, _, hrun, k1, (Ext.drew g H w).trans k2, ?_, hk2 _ (grownCap_ge _ _ _ _)⟩
  have := Rel.arr (g := g.push w.drew.heap.size 0) (w := w.drew.alloc (.cells (#[] ++ vs.toArray ++ Builtin.zeroCells zv.cells (grownCap w n 0 e - n)) e)) H.length 0 n (grownCap w n 0 e) (by simp [Gh.push, h.n])
  have hbk : (g.push w.drew.heap.size 0).bk H.length = w.heap.size := by simp [Gh.push, h.n]
  rw [hbk] at this
  exact this

/-- copy into a row of the call's own -/
theorem vok_copy {P : Program} {g : Gh} {H : Heap} {w : World} {K : PV → Heap → Prop} (h : Sim g H w) {ts : Array TypeId} {t et : TypeId} {b : Bool} {sz by_ : Nat} (ht0 : ts[0]? = some t) (hel : elA P t = some (none, b, sz, by_, et)) (ty : TypeId)
    {o off len cap n : Nat} {cs ys : List PV} {y : PV} {v u : Value} (hx : Rel g w (.arr o off len cap) v) (ho : H[o]? = some (.cells cs)) (hoc : off + len * sz ≤ cs.length)
    (hy : Rel g w y u) (hs : srcA H sz y = some (ys, n)) (hyn : ys.length = n * sz) (hy1 : ys.all PV.one = true)
    (hk : K (.int .i64 (min n len : Nat)) (H.set o (.cells (over cs off (ys.take (min n len * sz)))))) : VOk P (Builtin.copy_ ts ty #[v, u]) g H w K := by
  obtain ⟨hut, ht, _⟩ := elA_slice hel
  obtain ⟨vs, hS⟩ := src_spec (P := P) h hy hs hyn
  cases hx with
  | arr _ _ _ _ hol =>
  obtain ⟨⟨C, ty', hC, hr⟩, _⟩ := h.cells o cs ho
  have hCl : C.size = cs.length := by have := hr.1; simp at this; omega
  have h3 : vs.length = n * sz := by rw [← hS.rel.1]; exact hyn
  have hm1 : min n len * sz ≤ n * sz := Nat.mul_le_mul_right _ (Nat.min_le_left _ _)
  have hm2 : min n len * sz ≤ len * sz := Nat.mul_le_mul_right _ (Nat.min_le_right _ _)
  have hrt := hS.rel.take (min n len * sz)
  obtain ⟨k1, k2⟩ := h.put ho (C := (over C.toList off (vs.take (min n len * sz))).toArray) (ty := ty') (cs' := over cs off (ys.take (min n len * sz))) (by simpa using hr.over hrt off)
  refine ⟨goInt (min n len : Nat), _, _, _, _, ?_, k1, k2, .int _ _, hk⟩
  have hc := hS.cells (min n len) (Nat.min_le_left _ _) w rfl
  have hst := run_storeCells P (b := g.bk o) (ty := ty') (vs.take (min n len * sz)) w C ⟨g.bk o, off, none⟩ 0 rfl rfl hC
    (fun x hx => one_of_cells hS.rel hy1 x (List.mem_of_mem_take hx)) (by simp; omega)
  unfold Builtin.copy_
  simp only [ht0, List.getElem?_toArray, List.getElem?_cons_zero, List.getElem?_cons_succ, Sem.run_bind, run_under hut, Result.andThen_ok, hS.len, run_sizeOf ht, Nat.min_def]
  simp only [Nat.min_def] at hc hst
  rw [hc]
  simp only [Result.andThen_ok]
  rw [hst]
  simp only [Result.andThen_ok, Sem.run_pure, Nat.add_zero]

/-- clear of a row of the call's own -/
theorem vok_clear {P : Program} {g : Gh} {H : Heap} {w : World} {K : PV → Heap → Prop} (h : Sim g H w) {ts : Array TypeId} {t et : TypeId} {b : Bool} {sz by_ : Nat} (ht0 : ts[0]? = some t) (hel : elA P t = some (none, b, sz, by_, et)) (ty : TypeId)
    {z : List PV} (hz : zeroA P et = some z) (hzs : z.length = sz) (hz1 : z.all PV.one = true) {o off len cap : Nat} {cs : List PV} {v : Value} (hx : Rel g w (.arr o off len cap) v) (ho : H[o]? = some (.cells cs)) (hoc : off + len * sz ≤ cs.length)
    (hk : K (.tup []) (H.set o (.cells (over cs off (List.replicate len z).flatten)))) : VOk P (Builtin.clear_ ts ty #[v]) g H w K := by
  obtain ⟨hut, ht, _⟩ := elA_slice hel
  obtain ⟨zv, hzr, hzl⟩ := zeroA_spec hz
  cases hx with
  | arr _ _ _ _ hol =>
  obtain ⟨⟨C, ty', hC, hr⟩, _⟩ := h.cells o cs ho
  have hCl : C.size = cs.length := by have := hr.1; simp at this; omega
  have hzc : zv.cells.size = sz := by have := (hzl g w).1; simp at this; omega
  have htup : ∀ g w, Rel g w (.tup []) (.tuple #[]) := fun g w => Rel.tup_iff.2 ⟨#[], rfl, .nil⟩
  cases len with
  | zero =>
    refine VOk.same h (v := .tuple #[]) ?_ (htup g w) ?_
    · unfold Builtin.clear_
      simp [ht0, run_under hut]
    · simp only [List.replicate_zero, List.flatten_nil, over_nil] at hk
      have : H.set o (.cells cs) = H := by
        apply List.ext_getElem?
        intro q
        rw [List.getElem?_set]
        split
        · rename_i e; subst e; rw [if_pos (List.getElem?_eq_some_iff.1 ho).1, ho]
        · rfl
      rwa [this] at hk
  | succ k =>
    by_cases hs0 : sz = 0
    · -- elements without cells
      subst hs0
      have hz0 : z = [] := List.length_eq_zero_iff.1 hzs
      subst hz0
      have hfl : (List.replicate (k + 1) ([] : List PV)).flatten = [] := by simp
      rw [hfl, over_nil] at hk
      have : H.set o (.cells cs) = H := by
        apply List.ext_getElem?
        intro q
        rw [List.getElem?_set]
        split
        · rename_i e; subst e; rw [if_pos (List.getElem?_eq_some_iff.1 ho).1, ho]
        · rfl
      rw [this] at hk
      refine VOk.same h (v := .tuple #[]) ?_ (htup g w) hk
      have hzc' : Builtin.zeroCells zv.cells (k + 1) = #[] := by
        unfold Builtin.zeroCells
        rw [hzc]; simp
      unfold Builtin.clear_
      simp [ht0, run_under hut, hzr, hzc', storeCells]
    · have hrz := zeroCells_rel (hzl g w) (k + 1) (by omega)
      have hzl' : ((List.replicate (k + 1) z).flatten).length = (k + 1) * sz := by simp [hzs]
      obtain ⟨k1, k2⟩ := h.put ho (C := (over C.toList off (Builtin.zeroCells zv.cells (k + 1)).toList).toArray) (ty := ty') (cs' := over cs off (List.replicate (k + 1) z).flatten) (by simpa using hr.over hrz off)
      refine ⟨.tuple #[], _, _, _, _, ?_, k1, k2, htup _ _, hk⟩
      have hst := run_storeCells P (b := g.bk o) (ty := ty') (Builtin.zeroCells zv.cells (k + 1)).toList w C ⟨g.bk o, off, none⟩ 0 rfl rfl hC
        (one_of_cells hrz (by
          rw [List.all_eq_true]
          intro x hx
          obtain ⟨l, hl, hxl⟩ := List.mem_flatten.1 hx
          rw [List.eq_of_mem_replicate hl] at hxl
          exact List.all_eq_true.1 hz1 x hxl)) (by rw [← hrz.1, hzl']; simp; omega)
      unfold Builtin.clear_
      simp only [ht0, List.getElem?_toArray, List.getElem?_cons_zero, Sem.run_bind, run_under hut, Result.andThen_ok, hzr]
      rw [hst]
      simp

/-- a row is made -/
theorem vok_makeSlice {P : Program} {g : Gh} {H : Heap} {w : World} {K : PV → Heap → Prop} (h : Sim g H w) {t et : TypeId} {b : Bool} {sz by_ : Nat} (hel : elA P t = some (none, b, sz, by_, et))
    {z : List PV} (hz : zeroA P et = some z) (hzs : z.length = sz) (hs0 : sz ≠ 0) {k k' : IntKind} {l c : Int} {v u : Value} (hx : Rel g w (.int k l) v) (hy : Rel g w (.int k' c) u) (h0 : 0 ≤ l) (h1 : l ≤ c) (hc : c ≤ 140737488355328) (hb : c * by_ ≤ 140737488355328)
    (hk : K (.arr H.length 0 l.toNat c.toNat) (H ++ [.cells (List.replicate c.toNat z).flatten])) : VOk P (Instr.makeSlice t v u) g H w K := by
  obtain ⟨hut, ht, i, hi, hib⟩ := elA_slice hel
  obtain ⟨zv, hzr, hzl⟩ := zeroA_spec hz
  cases hx; cases hy
  have hzc : zv.cells.size = sz := by have := (hzl g w).1; simp at this; omega
  have hwrap : ∀ n : Int, 0 ≤ n → n ≤ 140737488355328 → IntKind.i64.wrap n = n := by
    intro n h0 h1
    simp [IntKind.wrap, IntKind.bits, IntKind.signed]; omega
  have wl := hwrap l h0 (by omega)
  have wc := hwrap c (by omega) hc
  obtain ⟨C, hC1, hC2⟩ : ∃ C : Array Value, (∃ zero : Array Value, (if c.toNat * sz = 0 then pure #[] else do pure (← zeroValue et).cells : Sem (Array Value)).run P w = .ok zero w ∧
      (Array.range (c.toNat * sz)).map (fun i => zero[i % zero.size]!) = C) ∧ C.toList = (List.replicate c.toNat zv.cells.toList).flatten := by
    by_cases hn : c.toNat * sz = 0
    · have hc0 : c.toNat = 0 := by
        rcases Nat.mul_eq_zero.1 hn with h | h
        · exact h
        · exact absurd h hs0
      rw [hc0]
      exact ⟨#[], ⟨#[], by simp, by simp⟩, by simp⟩
    · refine ⟨_, ⟨zv.cells, by rw [if_neg hn, Sem.run_bind, hzr]; rfl, rfl⟩, ?_⟩
      have := range_map_zero zv.cells c.toNat (.inl (by omega))
      rwa [hzc] at this ⊢
  obtain ⟨zero, hz1, hz2⟩ := hC1
  obtain ⟨k1, k2, k3⟩ := h.new (cs := (List.replicate c.toNat z).flatten) (C := C) et (by rw [hC2]; exact relL_flat (hzl g w) _)
  refine ⟨.slice (some ⟨w.heap.size, 0, none⟩) l.toNat c.toNat, _, _, _, _, ?_, k1, k2, ?_, hk⟩
  · have t1 : ¬ (i.bytes : Int) * c > 281474976710656 := by rw [hib, Int.mul_comm]; omega
    have t2 : ¬ 281474976710656 < (i.bytes : Int) * c := by omega
    have t3 : ¬ c < 0 := by omega
    have t4 : ¬ l < 0 := by omega
    have t5 : ¬ c < l := by omega
    by_cases hn : c.toNat * sz = 0
    · rw [if_pos hn] at hz1
      simp only [Sem.run_pure, Result.ok.injEq, and_true] at hz1
      subst hz1
      simp only [Instr.makeSlice, Sem.run_bind, run_under hut, Result.andThen_ok, asInt, asIntOf, Sem.run_pure, run_info hi, wl, wc]
      simp [t2, t3, t4, t5, run_sizeOf ht, hn]
      have hCe : C = #[] := by rw [← hz2, hn]; simp
      have e0 : Array.range 0 = #[] := rfl
      simp [newRow, hCe, e0]
    · rw [if_neg hn, Sem.run_bind, hzr] at hz1
      simp only [Result.andThen_ok, Sem.run_pure, Result.ok.injEq, and_true] at hz1
      subst hz1
      simp only [Instr.makeSlice, Sem.run_bind, run_under hut, Result.andThen_ok, asInt, asIntOf, Sem.run_pure, run_info hi, wl, wc]
      have t2' : ¬ (2 : Int) ^ 48 < (i.bytes : Int) * c := by omega
      simp only [Bool.or_eq_true, decide_eq_true_eq, gt_iff_lt, t2', t3, t4, t5, or_self, if_false, Sem.run_bind, run_askRoom, Result.andThen_ok, run_sizeOf ht, hn, hzr, Sem.run_pure]
      rw [hz2]
      simp [newRow]
  · have := Rel.arr (g := g.push w.heap.size 0) (w := w.alloc (.cells C et)) H.length 0 l.toNat c.toNat (by simp [Gh.push, h.n])
    have hbk : (g.push w.heap.size 0).bk H.length = w.heap.size := by simp [Gh.push, h.n]
    rw [hbk] at this
    exact this

/-- the type facts of an append of so many zeros, as they are reckoned -/
def appZ (P : Program) (ts : Array TypeId) : Option (Nat × Nat × List PV) :=
  match ts[0]?, ts[1]? with
  | some t, some u => match elA P t, P.underlying u with
    | some (none, _, sz, by_, e), some (.int _) => match zeroA P e with
      | some z => if by_ = 0 ∨ sz = 0 ∨ z.length ≠ sz then none else some (sz, by_, z)
      | none => none
    | _, _ => none
  | _, _ => none

theorem appZ_spec {P : Program} {ts : Array TypeId} {sz by_ : Nat} {z : List PV} (h : appZ P ts = some (sz, by_, z)) :
    ∃ t u e i zv kd, ts[0]? = some t ∧ ts[1]? = some u ∧ P.underlying u = some (.int kd) ∧ P.underlying t = some (.slice e) ∧ P.info? e = some i ∧ i.zero = some zv ∧ i.size = sz ∧ i.bytes = by_ ∧ (∀ g w, RelL g w z zv.cells.toList) ∧ sz ≠ 0 ∧ by_ ≠ 0 ∧ z.length = sz := by
  unfold appZ at h
  split at h
  · rename_i t u h0 h1
    split at h
    · rename_i b sz' by' e d hel hu
      split at h
      · rename_i z' hz
        split at h
        · cases h
        · rename_i hc
          simp only [Option.some.injEq, Prod.mk.injEq] at h
          obtain ⟨rfl, rfl, rfl⟩ := h
          have c1 : by' ≠ 0 := fun e => hc (.inl e)
          have c2 : sz' ≠ 0 := fun e => hc (.inr (.inl e))
          have c3 : z'.length = sz' := by
            rcases Decidable.em (z'.length = sz') with e | e
            · exact e
            · exact absurd (.inr (.inr e)) hc
          obtain ⟨hut, ht, i, hi, rfl⟩ := elA_slice hel
          obtain ⟨dd, i', _, hi', hsz, _⟩ := tyA_spec ht
          rw [hi] at hi'; cases hi'
          unfold zeroA at hz
          rw [hi] at hz
          cases hzz : i.zero with
          | none => simp [hzz] at hz
          | some zv =>
            simp [hzz] at hz
            exact ⟨t, u, e, i, zv, _, h0, h1, hu, hut, hi, hzz, hsz, rfl, fun g w => by rw [← hz]; exact relL_pv1 g w _, c2, c1, c3⟩
      · cases h
    · cases h
  · cases h

theorem zeroCells_add (z : Array Value) (m n : Nat) (h : z.size ≠ 0) : Builtin.zeroCells z m ++ Builtin.zeroCells z n = Builtin.zeroCells z (m + n) := by
  unfold Builtin.zeroCells
  apply Array.ext'
  rw [Array.toList_append, range_map_zero z m (.inl h), range_map_zero z n (.inl h), range_map_zero z (m + n) (.inl h), ← List.flatten_append, List.replicate_append_replicate]

theorem run_append_zeros {P : Program} {g : Gh} {w : World} {ts : Array TypeId} {t u e : TypeId} {i : TypeInfo} {z : Value} {kd k : IntKind} (h0 : ts[0]? = some t) (h1 : ts[1]? = some u) (hu : P.underlying u = some (.int kd)) (ht : P.underlying t = some (.slice e)) (hi : P.info? e = some i) (hz : i.zero = some z)
    (hib : i.bytes ≠ 0) (his : i.size ≠ 0) {base : Option Addr} {sLen sCap n : Nat} {xs : List PV} {us : List Value}
    (ho : Src P g w (.slice base sLen sCap) i.size sLen xs us) (hn : 0 < n) (hfit : ¬ sLen + n ≤ sCap) (hb : (sLen + n) * i.bytes ≤ 140737488355328) (ty : TypeId) :
    (Builtin.append_ ts ty #[.slice base sLen sCap, .int k n]).run P w =
      .ok (.slice (some ⟨w.heap.size, 0, none⟩) (sLen + n) (grownCap w (sLen + n) sCap e))
        (w.drew.alloc (.cells (us.toArray ++ Builtin.zeroCells z.cells n ++ Builtin.zeroCells z.cells (grownCap w (sLen + n) sCap e - (sLen + n))) e)) := by
  have huu : us.take (sLen * i.size) = us := List.take_of_length_le (by have := ho.rel.1; have := ho.size; omega)
  have hc' := ho.cells sLen (Nat.le_refl _) w.drew rfl
  rw [huu] at hc'
  have h48 : ¬ (281474976710656 < Builtin.nextslicecap (sLen + n) sCap * i.bytes) := by
    have := growslice_fits (need := sLen + n) (old := sCap) (bytes := i.bytes) (by omega) hb
    omega
  have hzv : ∀ w : World, (zeroValue e).run P w = .ok z w := by
    intro w
    unfold zeroValue
    rw [Sem.run_bind, run_info hi]
    simp [hz]
  have hb1 : sLen + n ≤ (sLen + n) * i.bytes := Nat.le_mul_of_pos_right _ (by omega)
  have hn1 : n * i.bytes ≤ (sLen + n) * i.bytes := Nat.mul_le_mul_right _ (by omega)
  have hw : IntKind.i64.wrap (n : Int) = n := by
    simp only [IntKind.wrap, IntKind.bits, IntKind.signed]; simp; omega
  have h3 : ¬ ((281474976710656 : Int) < (n : Int) * (i.bytes : Int)) := by
    have : (n : Int) * (i.bytes : Int) = ((n * i.bytes : Nat) : Int) := by simp
    omega
  have h5 : n * i.size ≠ 0 := Nat.mul_ne_zero (by omega) his
  have h7 : ¬ ((n : Int) < 0) := by omega
  simp [Builtin.append_, h0, h1, run_under ht, run_under hu, sizeOf, run_info hi, asInt, asIntOf, hw, h3, h7, hfit, hib, h48, run_choose, Question.forced, hc', hzv, newRow, grownCap]
  rw [if_neg (by omega), if_neg h5]

theorem vok_append_zeros {P : Program} {g : Gh} {H : Heap} {w : World} {K : PV → Heap → Prop} (h : Sim g H w) {ts : Array TypeId} {sz by_ : Nat} {z : List PV} (ha : appZ P ts = some (sz, by_, z)) (ty : TypeId)
    {o off len cap : Nat} {n : Int} {k : IntKind} {cs : List PV} {v u : Value} (hx : Rel g w (.arr o off len cap) v) (ho : H[o]? = some (.cells cs)) (hlc : len ≤ cap) (hoc : off + cap * sz ≤ cs.length)
    (hy : Rel g w (.int k n) u) (hn : 0 ≤ n) (hg : cap < len + n.toNat) (hb : (len + n.toNat) * by_ ≤ 140737488355328)
    (hk : ∀ c, len + n.toNat ≤ c → K (.arr H.length 0 (len + n.toNat) c) (H ++ [.cells (((cs.drop off).take (len * sz)) ++ (List.replicate (c - len) z).flatten)])) :
    VOk P (Builtin.append_ ts ty #[v, u]) g H w K := by
  obtain ⟨t, u', e, i, zv, kd, h0, h1, hu, ht, hi, hz, rfl, rfl, hzl, hs0, hb0, hzs⟩ := appZ_spec ha
  have hlz : len * i.size ≤ cap * i.size := Nat.mul_le_mul_right _ hlc
  obtain ⟨us, hO⟩ := src_arr (P := P) (sz := i.size) h hx ho (by omega)
  cases hx with
  | arr _ _ _ _ hol =>
  cases hy
  have hnn : n = ((n.toNat : Nat) : Int) := by omega
  generalize n.toNat = m at *
  subst hnn
  have hzc : zv.cells.size = i.size := by have := (hzl g w).1; simp at this; omega
  have hge := grownCap_ge w (len + m) cap e
  have hrun := run_append_zeros (P := P) (k := k) h0 h1 hu ht hi hz hb0 hs0 hO (by omega) (by omega) hb ty
  rw [Array.append_assoc, zeroCells_add _ _ _ (by omega), show m + (grownCap w (len + m) cap e - (len + m)) = grownCap w (len + m) cap e - len by omega] at hrun
  obtain ⟨k1, k2, k3⟩ := h.drew.new (cs := ((cs.drop off).take (len * i.size)) ++ (List.replicate (grownCap w (len + m) cap e - len) z).flatten)
    (C := us.toArray ++ Builtin.zeroCells zv.cells (grownCap w (len + m) cap e - len)) e (by
      have h4 := hO.rel.append (zeroCells_rel (hzl g w) (grownCap w (len + m) cap e - len) (by omega))
      have := h4.mono (Gext.drew g w)
      simpa using this)
  refine ⟨_, _, _, _, _, hrun, k1, (Ext.drew g H w).trans k2, ?_, hk _ hge⟩
  have := Rel.arr (g := g.push w.drew.heap.size 0) (w := w.drew.alloc (.cells (us.toArray ++ Builtin.zeroCells zv.cells (grownCap w (len + m) cap e - len)) e)) H.length 0 (len + m) (grownCap w (len + m) cap e) (by simp [Gh.push, h.n])
  have hbk : (g.push w.drew.heap.size 0).bk H.length = w.heap.size := by simp [Gh.push, h.n]
  rw [hbk] at this
  exact this

end Go.AM
