/-
  An abstract machine over values without memory, proved against the model; part 7. A tool for the proofs of this claim; it states nothing of the program.
-/
import Derived.Test.YtmcincfonnfblaaA6
import Derived.Laws.Append
/-! AM, part 7: slices made, cut, appended to, copied. -/
namespace Go.AM
open Go

theorem range_map_zero (zero : Array Value) (n : Nat) (h : zero.size ≠ 0 ∨ n = 0) : ((Array.range (n * zero.size)).map (fun i => zero[i % zero.size]!)).toList = (List.replicate n zero.toList).flatten := by
  rcases h with h | h
  · induction n with
    | zero => simp
    | succ n ih =>
      rw [List.replicate_succ', List.flatten_append, ← ih]
      simp only [Array.toList_map, Array.toList_range, List.flatten_cons, List.flatten_nil, List.append_nil]
      rw [Nat.succ_mul, List.range_add, List.map_append, List.map_map]
      congr 1
      apply List.ext_getElem?
      intro q
      by_cases hq : q < zero.size
      · rw [List.getElem?_map, List.getElem?_range hq]
        simp only [Option.map_some, Function.comp]
        rw [Nat.mul_add_mod_of_lt hq, Array.getElem?_toList]
        simp [hq]
      · rw [List.getElem?_eq_none (by simp; omega), List.getElem?_eq_none (by simp; omega)]
  · subst h; simp

theorem relL_flat {g : Gh} {w : World} {cs : List PV} {vs : List Value} (h : RelL g w cs vs) (n : Nat) : RelL g w (List.replicate n cs).flatten (List.replicate n vs).flatten := by
  induction n with
  | zero => exact .nil
  | succ n ih => simp only [List.replicate_succ, List.flatten_cons]; exact h.append ih

def uni (s : Nat) (es : List (List PV)) : Prop := ∀ e ∈ es, e.length = s

theorem uni_flat {s : Nat} {es : List (List PV)} (h : uni s es) : es.flatten.length = es.length * s := by
  have := flat_take h es.length (Nat.le_refl _)
  rwa [List.take_length] at this

theorem uni_eq {s : Nat} {es : List (List PV)} (h : uni s es) : ∀ e ∈ es, ∀ e' ∈ es, e.length = e'.length := fun e he e' he' => (h e he).trans (h e' he').symm

theorem flatten_set {s : Nat} {es : List (List PV)} (h : uni s es) {i : Nat} (hi : i < es.length) {xs : List PV} (hx : xs.length = s) : (es.set i xs).flatten = over es.flatten (i * s) xs := by
  have h1 : (es.flatten).take (i * s) = (es.take i).flatten := by
    conv => lhs; rw [← List.take_append_drop i es, List.flatten_append]
    rw [List.take_append_of_le_length (by rw [flat_take h i (Nat.le_of_lt hi)]; omega), List.take_of_length_le (by rw [flat_take h i (Nat.le_of_lt hi)]; omega)]
  have h2 : (es.flatten).drop (i * s + xs.length) = (es.drop (i + 1)).flatten := by
    rw [hx, ← Nat.succ_mul, flat_drop h (i + 1) hi]
  unfold over
  rw [h1, h2, List.set_eq_take_append_cons_drop, if_pos hi]
  simp

/-- a slice written out, as a list -/
def esFill (s : Nat) (es : List (List PV)) : List (Nat × PV) → Option (List (List PV))
  | [] => some es
  | (i, x) :: rest => match x.cells with
    | some xs => if xs.length = s ∧ i < es.length then esFill s (es.set i xs) rest else none
    | none => none

theorem esFill_flat {s : Nat} : ∀ (parts : List (Nat × PV)) (es es' : List (List PV)), uni s es → esFill s es parts = some es' →
    uni s es' ∧ es'.length = es.length ∧ fillPV (fun i => some (i * s, s)) es.flatten parts = some es'.flatten := by
  intro parts
  induction parts with
  | nil => intro es es' h1 h; cases h; exact ⟨h1, rfl, rfl⟩
  | cons p parts ih =>
    intro es es' h1 h
    obtain ⟨i, x⟩ := p
    simp only [esFill] at h
    split at h
    · rename_i xs hx
      split at h
      · rename_i hc
        have hu : uni s (es.set i xs) := by
          intro e he
          rcases List.mem_or_eq_of_mem_set he with he | rfl
          · exact h1 e he
          · exact hc.1
        obtain ⟨h2, h3, h4⟩ := ih _ es' hu h
        refine ⟨h2, by simpa using h3, ?_⟩
        simp only [fillPV, hx]
        rw [if_pos ⟨hc.1, by rw [hc.1, uni_flat h1, ← Nat.succ_mul]; exact Nat.mul_le_mul_right _ hc.2⟩, ← flatten_set h1 hc.2 hc.1]
        exact h4
      · cases h
    · cases h

theorem vok_buildSlice {P : Program} {g : Gh} {H : Heap} {w : World} {K : PV → Heap → Prop} (h : Sim g H w) {t : TypeId} {b : Bool} {sz by_ : Nat} {et : TypeId} (hel : elA P t = some (none, b, sz, by_, et))
    {len : Nat} {parts : List (Nat × PV)} {vparts : Array (Nat × Value)} {z : List PV} {es : List (List PV)} (hz : zeroA P et = some z) (hzs : z.length = sz) (hs0 : sz ≠ 0) (hn : len * sz ≤ 16777216)
    (h1 : vparts.toList.map (·.1) = parts.map (·.1)) (h2 : RelL g w (parts.map (·.2)) (vparts.toList.map (·.2))) (he : esFill sz (List.replicate len z) parts = some es)
    (hk : K (.list es .exact) H) : VOk P (Instr.buildSlice t len vparts) g H w K := by
  obtain ⟨hu, ht, _⟩ := elA_slice hel
  obtain ⟨zv, hzr, hzl⟩ := zeroA_spec hz
  have hzc : zv.cells.size = sz := by have := (hzl g w).1; simp at this; omega
  have huni : uni sz (List.replicate len z) := fun e he => by rw [List.eq_of_mem_replicate he, hzs]
  obtain ⟨h3, h4, h5⟩ := esFill_flat parts _ es huni he
  have hlen : es.length = len := by simpa using h4
  -- the zero cells
  have hC : ∃ zero : Array Value, (if len * sz = 0 then pure #[] else do pure (← zeroValue et).cells : Sem (Array Value)).run P w = .ok zero w ∧
      ((Array.range (len * sz)).map (fun i => zero[i % zero.size]!)).toList = (List.replicate len zv.cells.toList).flatten := by
    by_cases h0 : len * sz = 0
    · have hl0 : len = 0 := by
        rcases Nat.mul_eq_zero.1 h0 with h | h
        · exact h
        · exact absurd h hs0
      subst hl0
      exact ⟨#[], by simp, by simp⟩
    · refine ⟨zv.cells, ?_, ?_⟩
      · rw [if_neg h0, Sem.run_bind, hzr]; rfl
      · have := range_map_zero zv.cells len (.inl (by omega))
        rwa [hzc] at this ⊢
  obtain ⟨zero, hC2, hC1⟩ := hC
  obtain ⟨C, hCdef⟩ : ∃ C : Array Value, (Array.range (len * sz)).map (fun i => zero[i % zero.size]!) = C := ⟨_, rfl⟩
  rw [hCdef] at hC1
  have hrel : RelL g w (List.replicate len z).flatten C.toList := by rw [hC1]; exact relL_flat (hzl g w) len
  obtain ⟨C', h6, h7⟩ := fill_spec (fun i => some (i * sz, sz)) parts vparts.toList _ C _ hrel h1 h2 h5
  obtain ⟨k1, k2, k3⟩ := h.newRow et h7
  refine ⟨.slice (some ⟨w.heap.size, 0, none⟩) len len, _, _, H, _, ?_, k1, k2, ?_, hk⟩
  · unfold Instr.buildSlice
    rw [Sem.run_bind, run_under hu]
    simp only [Result.andThen_ok, Sem.run_bind, run_sizeOf ht]
    rw [if_neg (by omega)]
    by_cases h0 : len * sz = 0
    · rw [if_pos h0] at hC2 ⊢
      simp only [Sem.run_pure, Result.ok.injEq, and_true] at hC2
      subst hC2
      simp only [Sem.run_bind, Sem.run_pure, Result.andThen_ok]
      rw [hCdef, h6]
      simp only [newRow, Sem.run_bind, run_newObj, Result.andThen_ok, Sem.run_pure]
      rfl
    · rw [if_neg h0] at hC2 ⊢
      simp only [Sem.run_bind, hzr, Sem.run_pure, Result.andThen_ok, Result.ok.injEq, and_true] at hC2 ⊢
      subst hC2
      rw [hCdef, h6]
      simp only [newRow, Sem.run_bind, run_newObj, Result.andThen_ok, Sem.run_pure]
      rfl
  · refine Rel.list_iff.2 ⟨some ⟨w.heap.size, 0, none⟩, len, by rw [hlen], uni_eq h3, by omega, by simp [TailOk, hlen], ?_⟩
    by_cases hf : es.flatten = []
    · exact .inl hf
    · exact .inr ⟨_, rfl, k3⟩

/-- bounds of a cut -/
def bnd (d : Int) : Option PV → Option Int
  | none => some d
  | some (.int _ n) => some n
  | some _ => none

def cutTail (tl : Tail) (lo hi mx : Option PV) (h m : Int) : Tail :=
  match mx with
  | some _ => if h = m then .exact else .no
  | none => match hi with
    | some _ => .no
    | none => match lo, tl with
      | none, tl => tl
      | some _, .exact => .exact
      | some _, _ => .no

theorem run_bound {P : Program} {w : World} {k : IntKind} {i : Int} {y : Nat} (h0 : 0 ≤ i) (h1 : i ≤ y) (code : BoundsCode) : (Instr.sliceBound (.int k i) y code).run P w = .ok i.toNat w := by
  unfold Instr.sliceBound
  simp only [asIntOf, Sem.run_bind, Sem.run_pure, Result.andThen_ok]
  rw [if_pos ⟨h0, h1⟩]
  rfl

inductive OptRel (g : Gh) (w : World) : Option PV → Option Value → Prop where
  | none : OptRel g w none none
  | some {x : PV} {v : Value} (h : Rel g w x v) : OptRel g w (some x) (some v)

theorem run_bounds {P : Program} {g : Gh} {w : World} {lo hi mx : Option PV} {vl vh vm : Option Value} (hl : OptRel g w lo vl) (hh : OptRel g w hi vh) (hm : OptRel g w mx vm) {len cap : Nat} {l h m : Int}
    (el : bnd 0 lo = some l) (eh : bnd len hi = some h) (em : bnd cap mx = some m) (h0 : 0 ≤ l) (h1 : l ≤ h) (h2 : h ≤ m) (h3 : m ≤ cap) (hx : hi = none → mx = none) :
    (Instr.sliceBounds true len cap vl vh vm).run P w = .ok (l.toNat, h.toNat, m.toNat) w := by
  have m1 : ∀ (k : IntKind) (f : BoundsCode), (Instr.sliceBound (.int k m) cap f).run P w = .ok m.toNat w := fun k f => run_bound (by omega) h3 f
  have h4 : ∀ (k : IntKind) (f : BoundsCode), (Instr.sliceBound (.int k h) m.toNat f).run P w = .ok h.toNat w := fun k f => run_bound (by omega) (by omega) f
  have l1 : ∀ (k : IntKind) (f : BoundsCode), (Instr.sliceBound (.int k l) h.toNat f).run P w = .ok l.toNat w := fun k f => run_bound (by omega) (by omega) f
  unfold Instr.sliceBounds
  cases hm with
  | none =>
    simp only [bnd, Option.some.injEq] at em
    subst em
    simp only [Int.toNat_natCast] at *
    cases hh with
    | none =>
      simp only [bnd, Option.some.injEq] at eh
      subst eh
      simp only [Int.toNat_natCast] at *
      cases hl with
      | none => simp only [bnd, Option.some.injEq] at el; subst el; simp
      | some hr =>
        cases hr <;> simp only [bnd, reduceCtorEq, Option.some.injEq] at el
        subst el
        simp [l1]
    | some hr =>
      cases hr <;> simp only [bnd, reduceCtorEq, Option.some.injEq] at eh
      subst eh
      cases hl with
      | none => simp only [bnd, Option.some.injEq] at el; subst el; simp [h4]
      | some hr =>
        cases hr <;> simp only [bnd, reduceCtorEq, Option.some.injEq] at el
        subst el
        simp [h4, l1]
  | some hr =>
    cases hr <;> simp only [bnd, reduceCtorEq, Option.some.injEq] at em
    subst em
    cases hh with
    | none => exact absurd (hx rfl) (by simp)
    | some hr =>
      cases hr <;> simp only [bnd, reduceCtorEq, Option.some.injEq] at eh
      subst eh
      cases hl with
      | none => simp only [bnd, Option.some.injEq] at el; subst el; simp [m1, h4]
      | some hr =>
        cases hr <;> simp only [bnd, reduceCtorEq, Option.some.injEq] at el
        subst el
        simp [m1, h4, l1]

theorem uni_take {s : Nat} {es : List (List PV)} (h : uni s es) (n : Nat) : uni s (es.take n) := fun e he => h e (List.mem_of_mem_take he)
theorem uni_drop {s : Nat} {es : List (List PV)} (h : uni s es) (n : Nat) : uni s (es.drop n) := fun e he => h e (List.mem_of_mem_drop he)

theorem vok_slice_list {P : Program} {g : Gh} {H : Heap} {w : World} {K : PV → Heap → Prop} (hS : Sim g H w) {t : TypeId} {b : Bool} {sz by_ : Nat} {et : TypeId} (hel : elA P t = some (none, b, sz, by_, et))
    {es : List (List PV)} {tl : Tail} {v : Value} (hx : Rel g w (.list es tl) v) {lo hi mx : Option PV} {vl vh vm : Option Value} (hl : OptRel g w lo vl) (hh : OptRel g w hi vh) (hm : OptRel g w mx vm)
    {l h m : Int} (el : bnd 0 lo = some l) (eh : bnd es.length hi = some h) (em : bnd es.length mx = some m) (h0 : 0 ≤ l) (h1 : l ≤ h) (h2 : h ≤ m) (h3 : m ≤ es.length) (hmx : hi = none → mx = none)
    (hu : uni sz es) (hk : K (.list ((es.take h.toNat).drop l.toNat) (cutTail tl lo hi mx h m)) H) : VOk P (Instr.sliceAt t v vl vh vm) g H w K := by
  obtain ⟨a, cap, rfl, _, hcap, htl, hc⟩ := Rel.list_iff.1 hx
  obtain ⟨hut, ht, _⟩ := elA_slice hel
  -- the true bound behind
  obtain ⟨m', em', hm1, hm2, hm3⟩ : ∃ m', bnd cap mx = some m' ∧ h ≤ m' ∧ m' ≤ cap ∧ (mx ≠ none → m' = m) := by
    cases mx with
    | none => exact ⟨cap, rfl, by omega, by omega, fun h => absurd rfl h⟩
    | some y =>
      refine ⟨m, ?_, h2, by omega, fun _ => rfl⟩
      cases y <;> simp only [bnd, reduceCtorEq] at em ⊢
      exact em
  have hrun := run_bounds (P := P) hl hh hm (len := es.length) (cap := cap) el eh em' h0 h1 hm1 hm2 hmx
  have hlen : ((es.take h.toNat).drop l.toNat).length = h.toNat - l.toNat := by simp; omega
  refine VOk.same hS (v := .slice (if m'.toNat = l.toNat then a else a.map (·.add (l.toNat * sz))) (h.toNat - l.toNat) (m'.toNat - l.toNat)) ?_ ?_ hk
  · unfold Instr.sliceAt
    simp only [Sem.run_bind, run_under hut, Result.andThen_ok]
    unfold Instr.slice
    simp only [Sem.run_bind, run_under hut, Result.andThen_ok, hrun, run_sizeOf ht, Sem.run_pure]
  · refine Rel.list_iff.2 ⟨_, _, by rw [hlen], uni_eq (uni_drop (uni_take hu _) _), by rw [hlen]; omega, ?_, ?_⟩
    · cases mx with
      | some y =>
        have hme : m' = m := hm3 (by simp)
        simp only [cutTail]
        by_cases hh' : h = m
        · rw [if_pos hh']
          simp only [TailOk]
          rw [hlen, hme]; omega
        · rw [if_neg hh']; trivial
      | none =>
        have hme : m' = cap := by simp only [bnd, Option.some.injEq] at em'; omega
        cases hi with
        | some y => trivial
        | none =>
          have hhe : h = es.length := by simp only [bnd, Option.some.injEq] at eh; omega
          cases lo with
          | none =>
            have hle : l = 0 := by simp only [bnd, Option.some.injEq] at el; omega
            subst hle; subst hhe; subst hme
            have e1 : List.drop (Int.toNat 0) (List.take (Int.toNat ↑es.length) es) = es := by simp
            rw [e1]
            simp only [cutTail, Int.toNat_zero, Nat.sub_zero, Nat.zero_mul, Int.toNat_natCast]
            have : (if cap = 0 then a else a.map fun x => x.add 0) = a := by
              split
              · rfl
              · cases a <;> simp [Addr.add]
            rw [this]; exact htl
          | some y =>
            cases tl with
            | exact =>
              simp only [TailOk, cutTail] at htl ⊢
              rw [hlen, hme]; omega
            | no => trivial
            | tok o => trivial
    · by_cases hf : ((es.take h.toNat).drop l.toNat).flatten = []
      · exact .inl hf
      · refine .inr ?_
        have hne : (es.take h.toNat).drop l.toNat ≠ [] := fun e => hf (by rw [e]; rfl)
        have hlt : l < h := by
          rcases Int.lt_or_le l h with h | h
          · exact h
          · exact absurd (List.eq_nil_of_length_eq_zero (by rw [hlen]; omega)) hne
        rw [if_neg (by omega)]
        have hfe : es.flatten ≠ [] := by
          intro e
          apply hf
          have : ∀ e' ∈ es, e' = [] := by simpa using e
          simp only [List.flatten_eq_nil_iff]
          intro e' he'
          exact this e' (List.mem_of_mem_take (List.mem_of_mem_drop he'))
        rcases hc with h' | ⟨A, rfl, hr⟩
        · exact absurd h' hfe
        · refine ⟨At A (l.toNat * sz), by simp [addr_add hr.1], ?_⟩
          have h4 := hr.drop (l.toNat * sz)
          rw [flat_drop hu l.toNat (by omega)] at h4
          have h5 : (es.drop l.toNat).flatten = ((es.take h.toNat).drop l.toNat).flatten ++ (es.drop h.toNat).flatten := by
            rw [← List.flatten_append]
            congr 1
            rw [← List.take_append_drop (h.toNat - l.toNat) (es.drop l.toNat), List.drop_drop, List.drop_take]
            congr 2
            omega
          rw [h5] at h4
          exact h4.front

theorem vok_slice_arr {P : Program} {g : Gh} {H : Heap} {w : World} {K : PV → Heap → Prop} (hS : Sim g H w) {t : TypeId} {b : Bool} {sz by_ : Nat} {et : TypeId} (hel : elA P t = some (none, b, sz, by_, et))
    {o off len cap : Nat} {v : Value} (hx : Rel g w (.arr o off len cap) v) {lo hi mx : Option PV} {vl vh vm : Option Value} (hl : OptRel g w lo vl) (hh : OptRel g w hi vh) (hm : OptRel g w mx vm)
    {l h m : Int} (el : bnd 0 lo = some l) (eh : bnd len hi = some h) (em : bnd cap mx = some m) (h0 : 0 ≤ l) (h1 : l ≤ h) (h2 : h ≤ m) (h3 : m ≤ cap) (hmx : hi = none → mx = none)
    (hk : K (.arr o (if m.toNat = l.toNat then off else off + l.toNat * sz) (h.toNat - l.toNat) (m.toNat - l.toNat)) H) : VOk P (Instr.sliceAt t v vl vh vm) g H w K := by
  cases hx with
  | arr _ _ _ _ ho =>
  obtain ⟨hut, ht, _⟩ := elA_slice hel
  have hrun := run_bounds (P := P) hl hh hm (len := len) (cap := cap) el eh em h0 h1 h2 h3 hmx
  refine VOk.same hS (v := .slice (if m.toNat = l.toNat then some ⟨g.bk o, off, none⟩ else (some ⟨g.bk o, off, none⟩ : Option Addr).map (·.add (l.toNat * sz))) (h.toNat - l.toNat) (m.toNat - l.toNat)) ?_ ?_ hk
  · unfold Instr.sliceAt
    simp only [Sem.run_bind, run_under hut, Result.andThen_ok]
    unfold Instr.slice
    simp only [Sem.run_bind, run_under hut, Result.andThen_ok, hrun, run_sizeOf ht, Sem.run_pure]
  · split
    · exact .arr o off _ _ ho
    · simp only [Option.map_some]
      rw [addr_add rfl]
      exact .arr o (off + l.toNat * sz) _ _ ho

end Go.AM
