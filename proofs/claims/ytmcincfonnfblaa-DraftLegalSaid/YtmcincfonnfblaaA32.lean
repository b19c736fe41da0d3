/-
  An abstract machine over values without memory, proved against the model; part 32. A tool for the proofs of this claim; it states nothing of the program.
-/
import Derived.Test.YtmcincfonnfblaaA31
/-! AM, part 32: objects under other names; a call amid other objects; wholes of blocks. -/
namespace Go.AM
open Go

/-- a value, its objects under other names -/
inductive Ren (ρ : Nat → Nat) (n : Nat) : PV → PV → Prop where
  | low {x : PV} (h : Low 0 x) : Ren ρ n x x
  | arr (o off len cap : Nat) (h : o < n) : Ren ρ n (.arr o off len cap) (.arr (ρ o) off len cap)
  | ptr (o off : Nat) (h : o < n) : Ren ρ n (.ptr o off) (.ptr (ρ o) off)
  | ltok (es : List (List PV)) (o : Nat) (h : o < n) (hl : ∀ x ∈ es.flatten, Low 0 x) : Ren ρ n (.list es (.tok o)) (.list es (.tok (ρ o)))
  | fn (f : Nat) (cs cs' : List PV) (hl : cs.length = cs'.length) (h : ∀ (q : Nat) (x y : PV), cs[q]? = some x → cs'[q]? = some y → Ren ρ n x y) : Ren ρ n (.fn f cs) (.fn f cs')
  | agg (cs cs' : List PV) (hl : cs.length = cs'.length) (h : ∀ (q : Nat) (x y : PV), cs[q]? = some x → cs'[q]? = some y → Ren ρ n x y) : Ren ρ n (.agg cs) (.agg cs')
  | tup (cs cs' : List PV) (hl : cs.length = cs'.length) (h : ∀ (q : Nat) (x y : PV), cs[q]? = some x → cs'[q]? = some y → Ren ρ n x y) : Ren ρ n (.tup cs) (.tup cs')

/-- a row of values under other names -/
inductive RenL (ρ : Nat → Nat) (n : Nat) : List PV → List PV → Prop where
  | nil : RenL ρ n [] []
  | cons {x y : PV} {xs ys : List PV} (h : Ren ρ n x y) (hs : RenL ρ n xs ys) : RenL ρ n (x :: xs) (y :: ys)

theorem RenL.length {ρ : Nat → Nat} {n : Nat} {xs ys : List PV} (h : RenL ρ n xs ys) : xs.length = ys.length := by
  induction h with
  | nil => rfl
  | cons _ _ ih => simp [ih]
theorem RenL.get {ρ : Nat → Nat} {n : Nat} {xs ys : List PV} (h : RenL ρ n xs ys) : ∀ (q : Nat) (x y : PV), xs[q]? = some x → ys[q]? = some y → Ren ρ n x y := by
  induction h with
  | nil => intro q x y h; simp at h
  | cons h _ ih =>
    intro q x y h1 h2
    cases q with
    | zero => simp at h1 h2; subst h1; subst h2; exact h
    | succ q => exact ih q x y (by simpa using h1) (by simpa using h2)
theorem RenL.low {ρ : Nat → Nat} {n : Nat} {xs : List PV} (h : ∀ x ∈ xs, Low 0 x) : RenL ρ n xs xs := by
  induction xs with
  | nil => exact .nil
  | cons x xs ih => exact .cons (.low (h x List.mem_cons_self)) (ih fun y hy => h y (List.mem_cons_of_mem _ hy))
theorem RenL.append {ρ : Nat → Nat} {n : Nat} {xs ys xs' ys' : List PV} (h : RenL ρ n xs ys) (h' : RenL ρ n xs' ys') : RenL ρ n (xs ++ xs') (ys ++ ys') := by
  induction h with
  | nil => exact h'
  | cons h _ ih => exact .cons h ih
theorem Ren.tupL {ρ : Nat → Nat} {n : Nat} {xs ys : List PV} (h : RenL ρ n xs ys) : Ren ρ n (.tup xs) (.tup ys) := .tup xs ys h.length h.get
theorem Ren.aggL {ρ : Nat → Nat} {n : Nat} {xs ys : List PV} (h : RenL ρ n xs ys) : Ren ρ n (.agg xs) (.agg ys) := .agg xs ys h.length h.get
theorem Ren.fnL {ρ : Nat → Nat} {n : Nat} {f : Nat} {xs ys : List PV} (h : RenL ρ n xs ys) : Ren ρ n (.fn f xs) (.fn f ys) := .fn f xs ys h.length h.get

/-- a ghost seen through other names -/
structure Seen (ρ : Nat → Nat) (n : Nat) (g0 g : Gh) : Prop where
  n0 : g0.n = n
  lt : ∀ o, o < n → ρ o < g.n
  bk : ∀ o, o < n → g0.bk o = g.bk (ρ o)
  en : ∀ o, o < n → g0.en o = g.en (ρ o)
  sz : ∀ o, o < n → g0.sz o = g.sz (ρ o)
  imm : g0.imm = g.imm

theorem low_cong {g g' : Gh} {w : World} {x : PV} {v : Value} (h : Rel g w x v) (hl : Low 0 x) (hi : g'.imm = g.imm) : Rel g' w x v :=
  Rel.mono (g := g.cutAt 0) (w := w) ⟨Nat.zero_le _, fun _ h => absurd h (Nat.not_lt_zero _), fun _ h => absurd h (Nat.not_lt_zero _), fun _ h => absurd h (Nat.not_lt_zero _), fun b q h => by rw [hi]; exact h, fun _ _ _ => rfl⟩ (h.cutAt hl)

theorem Ren.to {ρ : Nat → Nat} {n : Nat} {x y : PV} (hr : Ren ρ n x y) {g0 g : Gh} {w : World} (hs : Seen ρ n g0 g) : ∀ {v : Value}, Rel g0 w x v → Rel g w y v := by
  induction hr with
  | low h => intro v hv; exact low_cong hv h hs.imm.symm
  | arr o off len cap h =>
    intro v hv
    cases hv
    rw [hs.bk o h]; exact .arr _ off len cap (hs.lt o h)
  | ptr o off h =>
    intro v hv
    cases hv
    rw [hs.bk o h]; exact .ptr _ off (hs.lt o h)
  | ltok es o h hl =>
    intro v hv
    obtain ⟨a, cap, rfl, h1, h2, h3, h4⟩ := Rel.list_iff.1 hv
    refine Rel.list_iff.2 ⟨a, cap, rfl, h1, h2, ?_, h4.imp id ?_⟩
    · obtain ⟨_, A, s, k2, k3, k4, k5, k6, k7, k8⟩ := h3
      exact ⟨hs.lt o h, A, s, k2, k3, by rw [← hs.bk o h]; exact k4, by rw [← hs.en o h]; exact k5, k6, k7, by rw [← hs.sz o h]; exact k8⟩
    · rintro ⟨A, k1, k2, k3⟩
      refine ⟨A, k1, k2, fun q x hq => ?_⟩
      obtain ⟨j1, c, j2, j3⟩ := k3 q x hq
      exact ⟨by rw [← hs.imm]; exact j1, c, j2, low_cong j3 (hl x (List.mem_iff_getElem?.2 ⟨q, hq⟩)) hs.imm.symm⟩
  | fn f cs cs' hl _ ih =>
    intro v hv
    obtain ⟨vs, rfl, h1⟩ := Rel.fn_iff.1 hv
    refine Rel.fn_iff.2 ⟨vs, rfl, by rw [← hl]; exact h1.1, fun q y u hy hu => ?_⟩
    have hq : q < cs.length := by rw [hl]; exact (List.getElem?_eq_some_iff.1 hy).1
    exact ih q cs[q] y (List.getElem?_eq_getElem hq) hy (h1.2 q _ u (List.getElem?_eq_getElem hq) hu)
  | agg cs cs' hl _ ih =>
    intro v hv
    obtain ⟨vs, rfl, h1⟩ := Rel.agg_iff.1 hv
    refine Rel.agg_iff.2 ⟨vs, rfl, by rw [← hl]; exact h1.1, fun q y u hy hu => ?_⟩
    have hq : q < cs.length := by rw [hl]; exact (List.getElem?_eq_some_iff.1 hy).1
    exact ih q cs[q] y (List.getElem?_eq_getElem hq) hy (h1.2 q _ u (List.getElem?_eq_getElem hq) hu)
  | tup cs cs' hl _ ih =>
    intro v hv
    obtain ⟨vs, rfl, h1⟩ := Rel.tup_iff.1 hv
    refine Rel.tup_iff.2 ⟨vs, rfl, by rw [← hl]; exact h1.1, fun q y u hy hu => ?_⟩
    have hq : q < cs.length := by rw [hl]; exact (List.getElem?_eq_some_iff.1 hy).1
    exact ih q cs[q] y (List.getElem?_eq_getElem hq) hy (h1.2 q _ u (List.getElem?_eq_getElem hq) hu)

theorem Ren.back {ρ : Nat → Nat} {n : Nat} {x y : PV} (hr : Ren ρ n x y) {g0 g : Gh} {w : World} (hs : Seen ρ n g0 g) : ∀ {v : Value}, Rel g w y v → Rel g0 w x v := by
  induction hr with
  | low h => intro v hv; exact low_cong hv h hs.imm
  | arr o off len cap h =>
    intro v hv
    cases hv
    rw [← hs.bk o h]; exact .arr _ off len cap (by rw [hs.n0]; exact h)
  | ptr o off h =>
    intro v hv
    cases hv
    rw [← hs.bk o h]; exact .ptr _ off (by rw [hs.n0]; exact h)
  | ltok es o h hl =>
    intro v hv
    obtain ⟨a, cap, rfl, h1, h2, h3, h4⟩ := Rel.list_iff.1 hv
    refine Rel.list_iff.2 ⟨a, cap, rfl, h1, h2, ?_, h4.imp id ?_⟩
    · obtain ⟨_, A, s, k2, k3, k4, k5, k6, k7, k8⟩ := h3
      exact ⟨by rw [hs.n0]; exact h, A, s, k2, k3, by rw [hs.bk o h]; exact k4, by rw [hs.en o h]; exact k5, k6, k7, by rw [hs.sz o h]; exact k8⟩
    · rintro ⟨A, k1, k2, k3⟩
      refine ⟨A, k1, k2, fun q x hq => ?_⟩
      obtain ⟨j1, c, j2, j3⟩ := k3 q x hq
      exact ⟨by rw [hs.imm]; exact j1, c, j2, low_cong j3 (hl x (List.mem_iff_getElem?.2 ⟨q, hq⟩)) hs.imm⟩
  | fn f cs cs' hl _ ih =>
    intro v hv
    obtain ⟨vs, rfl, h1⟩ := Rel.fn_iff.1 hv
    refine Rel.fn_iff.2 ⟨vs, rfl, by rw [hl]; exact h1.1, fun q y u hy hu => ?_⟩
    have hq : q < cs'.length := by rw [← hl]; exact (List.getElem?_eq_some_iff.1 hy).1
    exact ih q y cs'[q] hy (List.getElem?_eq_getElem hq) (h1.2 q _ u (List.getElem?_eq_getElem hq) hu)
  | agg cs cs' hl _ ih =>
    intro v hv
    obtain ⟨vs, rfl, h1⟩ := Rel.agg_iff.1 hv
    refine Rel.agg_iff.2 ⟨vs, rfl, by rw [hl]; exact h1.1, fun q y u hy hu => ?_⟩
    have hq : q < cs'.length := by rw [← hl]; exact (List.getElem?_eq_some_iff.1 hy).1
    exact ih q y cs'[q] hy (List.getElem?_eq_getElem hq) (h1.2 q _ u (List.getElem?_eq_getElem hq) hu)
  | tup cs cs' hl _ ih =>
    intro v hv
    obtain ⟨vs, rfl, h1⟩ := Rel.tup_iff.1 hv
    refine Rel.tup_iff.2 ⟨vs, rfl, by rw [hl]; exact h1.1, fun q y u hy hu => ?_⟩
    have hq : q < cs'.length := by rw [← hl]; exact (List.getElem?_eq_some_iff.1 hy).1
    exact ih q y cs'[q] hy (List.getElem?_eq_getElem hq) (h1.2 q _ u (List.getElem?_eq_getElem hq) hu)

theorem RenL.to {ρ : Nat → Nat} {n : Nat} {xs ys : List PV} (h : RenL ρ n xs ys) {g0 g : Gh} {w : World} (hs : Seen ρ n g0 g) {vs : List Value} (hr : RelL g0 w xs vs) : RelL g w ys vs := by
  refine ⟨by rw [← h.length]; exact hr.1, fun q y u hy hu => ?_⟩
  have hq : q < xs.length := by rw [h.length]; exact (List.getElem?_eq_some_iff.1 hy).1
  exact (h.get q xs[q] y (List.getElem?_eq_getElem hq) hy).to hs (hr.2 q _ u (List.getElem?_eq_getElem hq) hu)
theorem RenL.back {ρ : Nat → Nat} {n : Nat} {xs ys : List PV} (h : RenL ρ n xs ys) {g0 g : Gh} {w : World} (hs : Seen ρ n g0 g) {vs : List Value} (hr : RelL g w ys vs) : RelL g0 w xs vs := by
  refine ⟨by rw [h.length]; exact hr.1, fun q y u hy hu => ?_⟩
  have hq : q < ys.length := by rw [← h.length]; exact (List.getElem?_eq_some_iff.1 hy).1
  exact (h.get q y ys[q] hy (List.getElem?_eq_getElem hq)).back hs (hr.2 q _ u (List.getElem?_eq_getElem hq) hu)

/-- an object under other names -/
inductive RenOb (ρ : Nat → Nat) (n : Nat) : Ob → Ob → Prop where
  | cells {cs cs' : List PV} (h : RenL ρ n cs cs') : RenOb ρ n (.cells cs) (.cells cs')
  | tok : RenOb ρ n .tok .tok
  | dead (ob : Ob) : RenOb ρ n .dead ob
  | abs (r : Rep) : RenOb ρ n (.abs r) (.abs r)

theorem RenOb.alive {ρ : Nat → Nat} {n : Nat} {a b : Ob} (h : RenOb ρ n a b) (ha : a.alive = true) : b.alive = true := by
  cases h <;> first | rfl | (cases ha; done)

/-- Fewer objects, under other names: X are some of H's. -/
structure Sub (ρ : Nat → Nat) (X H : Heap) : Prop where
  lt : ∀ o, o < X.length → ρ o < H.length
  inj : ∀ o o', o < X.length → o' < X.length → ρ o = ρ o' → o = o'
  ob : ∀ (o : Nat) (a : Ob), X[o]? = some a → ∃ b, H[ρ o]? = some b ∧ RenOb ρ X.length a b

/-- the ghost through the names -/
def Gh.through (g : Gh) (ρ : Nat → Nat) (n : Nat) : Gh := ⟨n, fun o => g.bk (ρ o), fun o => g.en (ρ o), fun o => g.sz (ρ o), g.imm, fun o => g.fp (ρ o)⟩

theorem blk_through (g : Gh) (ρ : Nat → Nat) (n : Nat) {N : Nat} {a b : Ob} (h : RenOb ρ N a b) (ha : a.alive = true) (o k : Nat) : blk (g.through ρ n) a o k ↔ blk g b (ρ o) k := by
  cases h <;> first | exact Iff.rfl | (cases ha; done)

theorem seen_through {g : Gh} {ρ : Nat → Nat} {n : Nat} (h : ∀ o, o < n → ρ o < g.n) : Seen ρ n (g.through ρ n) g := ⟨rfl, h, fun _ _ => rfl, fun _ _ => rfl, fun _ _ => rfl, rfl⟩

theorem Sub.own {ρ : Nat → Nat} {X H : Heap} (h : Sub ρ X H) {g : Gh} {b : Nat} (hb : own (g.through ρ X.length) X b) : own g H b := by
  obtain ⟨o, a, h1, h2, h3⟩ := hb
  obtain ⟨b', k1, k2⟩ := h.ob o a h1
  exact ⟨ρ o, b', k1, k2.alive h2, (blk_through g ρ _ k2 h2 o b).1 h3⟩

theorem Sub.sim {ρ : Nat → Nat} {X H : Heap} (h : Sub ρ X H) {g : Gh} {w : World} (hS : Sim g H w) : Sim (g.through ρ X.length) X w := by
  have hs : Seen ρ X.length (g.through ρ X.length) g := seen_through fun o ho => by rw [hS.n]; exact h.lt o ho
  refine ⟨rfl, fun o o' a a' k h1 h2 h3 h4 h5 h6 => ?_, fun o cs h1 => ?_, fun o h1 => ?_, hS.imm, fun o r h1 => ?_⟩
  · obtain ⟨b, k1, k2⟩ := h.ob o a h1
    obtain ⟨b', k3, k4⟩ := h.ob o' a' h2
    exact h.inj o o' (List.getElem?_eq_some_iff.1 h1).1 (List.getElem?_eq_some_iff.1 h2).1 (hS.inj _ _ b b' k k1 k3 (k2.alive h3) (k4.alive h4) ((blk_through g ρ _ k2 h3 o k).1 h5) ((blk_through g ρ _ k4 h4 o' k).1 h6))
  · obtain ⟨b, k1, k2⟩ := h.ob o _ h1
    cases k2 with
    | cells k2 =>
      obtain ⟨⟨C, ty, e1, e2⟩, e3⟩ := hS.cells _ _ k1
      exact ⟨⟨C, ty, e1, k2.back hs e2⟩, e3⟩
  · obtain ⟨b, k1, k2⟩ := h.ob o _ h1
    cases k2
    exact hS.tok _ k1
  · obtain ⟨b, k1, k2⟩ := h.ob o _ h1
    cases k2
    exact hS.abs _ r k1

/-- WHAT IS LEFT BEHIND A CALL, UNDER OTHER NAMES; the objects that were there keep theirs. -/
theorem acalls_rename {P : Program} {gl : Glob} (_ : GlobLow gl) {f : FuncId} {args : List PV} {H : Heap} {K : PV → Heap → Prop}
    (h : ACalls P gl f args H (fun y H' => ∃ (x : PV) (X : Heap) (ρ : Nat → Nat), Sub ρ X H' ∧ H.length ≤ X.length ∧ (∀ o, o < H.length → ρ o = o) ∧ Ren ρ X.length x y ∧ K x X)) : ACalls P gl f args H K := by
  intro g w vs hS hG hR
  refine (h g w vs hS hG hR).mono ?_
  rintro e w' ⟨v, g', H', y, rfl, hS', hX, hv, x, X, ρ, hsub, hlen, hid, hren, hk⟩
  have hs : Seen ρ X.length (g'.through ρ X.length) g' := seen_through fun o ho => by rw [hS'.n]; exact hsub.lt o ho
  refine ⟨v, g'.through ρ X.length, X, x, rfl, hsub.sim hS', ?_, hren.back hs hv, hk⟩
  have hn : g.n = H.length := hS.n
  refine ⟨⟨by rw [hn]; exact hlen, fun o ho => ?_, fun o ho => ?_, fun o ho => ?_, hX.gx.imm, hX.gx.cell⟩, hX.size, fun b hb ho => hX.ow b hb (hsub.own ho), hX.frame, hX.os, hX.tape, hX.output, hX.im⟩
  · show g'.bk (ρ o) = _; rw [hid o (by omega)]; exact hX.gx.bk o ho
  · show g'.en (ρ o) = _; rw [hid o (by omega)]; exact hX.gx.en o ho
  · show g'.sz (ρ o) = _; rw [hid o (by omega)]; exact hX.gx.sz o ho

/-- the names behind a call amid others: those of old, and the new ones behind all -/
def ρext (ρ : Nat → Nat) (n N : Nat) : Nat → Nat := fun o => if o < n then ρ o else N + (o - n)

/-- how the objects H stand behind a call that looked at X of them alone, which came to X' -/
structure Behind (ρ : Nat → Nat) (X H X' H' : Heap) : Prop where
  len : X.length ≤ X'.length
  lenH : H'.length = H.length + (X'.length - X.length)
  on : ∀ (o : Nat) (a : Ob), X'[o]? = some a → ∃ b, H'[ρext ρ X.length H.length o]? = some b ∧ RenOb (ρext ρ X.length H.length) X'.length a b ∧ (b.alive = true → a.alive = true)
  off : ∀ o, o < H.length → (∀ j, j < X.length → ρ j ≠ o) → H'[o]? = H[o]?

/-- A CALL AMID OTHER OBJECTS: it is enough to look at it where those are that it is handed. -/
theorem acalls_frame {P : Program} {gl : Glob} (hgl : GlobLow gl) {f : FuncId} {args0 args : List PV} {X H : Heap} {K : PV → Heap → Prop} {ρ : Nat → Nat} (hsub : Sub ρ X H) (hargs : RenL ρ X.length args0 args)
    (h : ACalls P gl f args0 X (fun x X' => ∃ y H', Behind ρ X H X' H' ∧ Ren (ρext ρ X.length H.length) X'.length x y ∧ K y H')) : ACalls P gl f args H K := by
  intro g w vs hS hG hR
  have hs : Seen ρ X.length (g.through ρ X.length) g := seen_through fun o ho => by rw [hS.n]; exact hsub.lt o ho
  have hG0 : GlobOk (g.through ρ X.length) w gl := fun k cs hk => by
    refine ⟨(hG k cs hk).1, fun q x hx => ?_⟩
    obtain ⟨h1, c, h2, h3⟩ := (hG k cs hk).2 q x hx
    exact ⟨h1, c, h2, low_cong h3 (hgl k cs hk x (List.mem_iff_getElem?.2 ⟨q, hx⟩)) rfl⟩
  refine (h _ w vs (hsub.sim hS) hG0 (hargs.back hs hR)).mono ?_
  rintro e w' ⟨v, g', X', x, rfl, hS', hX, hv, y, H', hB, hren, hk⟩
  have hn : g.n = H.length := hS.n
  have hn' : g'.n = X'.length := hS'.n
  -- the inverse of the names
  have inv : ∃ σ : Nat → Option Nat, ∀ o, (∀ j, σ o = some j → j < X.length ∧ ρ j = o) ∧ (σ o = none → ∀ j, j < X.length → ρ j ≠ o) := by
    refine ⟨fun o => (List.range X.length).find? fun j => ρ j == o, fun o => ⟨fun j hj => ?_, fun hj j hlt => ?_⟩⟩
    · have h1 := List.find?_some hj
      have h2 := List.mem_of_find?_eq_some hj
      exact ⟨by simpa using h2, by simpa using h1⟩
    · have := List.find?_eq_none.1 hj j (by simpa using hlt)
      simpa using this
  obtain ⟨σ, hσ⟩ := inv
  have hσρ : ∀ j, j < X.length → σ (ρ j) = some j := fun j hj => by
    cases hq : σ (ρ j) with
    | none => exact absurd rfl ((hσ _).2 hq j hj)
    | some i => obtain ⟨h1, h2⟩ := (hσ _).1 i hq; rw [hsub.inj i j h1 hj h2]
  have bk0 : ∀ o, o < X.length → g'.bk o = g.bk (ρ o) := fun o ho => hX.gx.bk o ho
  have en0 : ∀ o, o < X.length → g'.en o = g.en (ρ o) := fun o ho => hX.gx.en o ho
  have sz0 : ∀ o, o < X.length → g'.sz o = g.sz (ρ o) := fun o ho => hX.gx.sz o ho
  let g2 : Gh := ⟨H'.length, fun o => if o < H.length then g.bk o else g'.bk (X.length + (o - H.length)), fun o => if o < H.length then g.en o else g'.en (X.length + (o - H.length)), fun o => if o < H.length then g.sz o else g'.sz (X.length + (o - H.length)), g'.imm,
    fun o => if o < H.length then (match σ o with | some j => g'.fp j | none => g.fp o) else g'.fp (X.length + (o - H.length))⟩
  have ext_lt : ∀ o, o < X.length → ρext ρ X.length H.length o = ρ o ∧ ρ o < H.length := fun o ho => ⟨by simp [ρext, ho], hsub.lt o ho⟩
  have ext_ge : ∀ o, ¬ o < X.length → ρext ρ X.length H.length o = H.length + (o - X.length) := fun o ho => by simp [ρext, ho]
  have hlenX := hB.len
  have hlenH := hB.lenH
  have hs2 : Seen (ρext ρ X.length H.length) X'.length g' g2 := by
    refine ⟨hn', fun o ho => ?_, fun o ho => ?_, fun o ho => ?_, fun o ho => ?_, rfl⟩
    · show _ < H'.length
      by_cases c : o < X.length
      · obtain ⟨e1, e2⟩ := ext_lt o c; rw [e1]; omega
      · rw [ext_ge o c]; omega
    · by_cases c : o < X.length
      · obtain ⟨e1, e2⟩ := ext_lt o c
        show _ = (if _ then _ else _); rw [e1, if_pos e2]; exact bk0 o c
      · show _ = (if _ then _ else _); rw [ext_ge o c, if_neg (by omega)]; congr 1; omega
    · by_cases c : o < X.length
      · obtain ⟨e1, e2⟩ := ext_lt o c
        show _ = (if _ then _ else _); rw [e1, if_pos e2]; exact en0 o c
      · show _ = (if _ then _ else _); rw [ext_ge o c, if_neg (by omega)]; congr 1; omega
    · by_cases c : o < X.length
      · obtain ⟨e1, e2⟩ := ext_lt o c
        show _ = (if _ then _ else _); rw [e1, if_pos e2]; exact sz0 o c
      · show _ = (if _ then _ else _); rw [ext_ge o c, if_neg (by omega)]; congr 1; omega
  have fp2 : ∀ o, o < X'.length → g2.fp (ρext ρ X.length H.length o) = g'.fp o := fun o ho => by
    by_cases c : o < X.length
    · obtain ⟨e1, e2⟩ := ext_lt o c
      show (if _ then _ else _) = _; rw [e1, if_pos e2, hσρ o c]
    · show (if _ then _ else _) = _; rw [ext_ge o c, if_neg (by omega)]; congr 1; omega
  -- each object: one that the call looked at, or another one
  have cases2 : ∀ (o : Nat) (b : Ob), H'[o]? = some b → b.alive = true → (∃ j a, X'[j]? = some a ∧ a.alive = true ∧ o = ρext ρ X.length H.length j ∧ RenOb (ρext ρ X.length H.length) X'.length a b) ∨ (o < H.length ∧ H[o]? = some b ∧ ∀ j, j < X.length → ρ j ≠ o) := by
    intro o b hb hal
    have hol : o < H'.length := (List.getElem?_eq_some_iff.1 hb).1
    have fromX : ∀ j, j < X'.length → o = ρext ρ X.length H.length j → ∃ a, X'[j]? = some a ∧ a.alive = true ∧ RenOb (ρext ρ X.length H.length) X'.length a b := fun j hj ho => by
      obtain ⟨b', k1, k2, k3⟩ := hB.on j _ (List.getElem?_eq_getElem hj)
      rw [← ho, hb] at k1
      cases k1
      exact ⟨_, List.getElem?_eq_getElem hj, k3 hal, k2⟩
    by_cases c : o < H.length
    · cases hq : σ o with
      | some j =>
        obtain ⟨h1, h2⟩ := (hσ o).1 j hq
        have ho : o = ρext ρ X.length H.length j := by rw [(ext_lt j h1).1, h2]
        obtain ⟨a, k1, k2, k3⟩ := fromX j (by omega) ho
        exact .inl ⟨j, a, k1, k2, ho, k3⟩
      | none =>
        have h1 := (hσ o).2 hq
        exact .inr ⟨c, by rw [← hB.off o c h1]; exact hb, h1⟩
    · have ho : o = ρext ρ X.length H.length (X.length + (o - H.length)) := by rw [ext_ge _ (by omega)]; omega
      obtain ⟨a, k1, k2, k3⟩ := fromX _ (by omega) ho
      exact .inl ⟨_, a, k1, k2, ho, k3⟩
  have blkX : ∀ {j : Nat} {a b : Ob} {k : Nat}, X'[j]? = some a → a.alive = true → RenOb (ρext ρ X.length H.length) X'.length a b → (blk g2 b (ρext ρ X.length H.length j) k ↔ blk g' a j k) := by
    intro j a b k h1 h2 h3
    have hj : j < X'.length := (List.getElem?_eq_some_iff.1 h1).1
    cases h3 with
    | cells _ => show _ = k ↔ _ = k; rw [hs2.bk j hj]
    | tok => show _ = k ↔ _ = k; rw [hs2.bk j hj]
    | dead _ => cases h2
    | abs r => show g2.fp _ k ↔ g'.fp j k; rw [fp2 j hj]
  have blkH : ∀ {o : Nat} {b : Ob} {k : Nat}, o < H.length → (∀ j, j < X.length → ρ j ≠ o) → (blk g2 b o k ↔ blk g b o k) := by
    intro o b k h1 h2
    refine blk_of (g := g) (g' := g2) ?_ (fun k => ?_) b k
    · show (if _ then _ else _) = _; rw [if_pos h1]
    · show (if o < H.length then (match σ o with | some j => g'.fp j | none => g.fp o) else _) k ↔ _
      rw [if_pos h1]
      cases hq : σ o with
      | some j => obtain ⟨k1, k2⟩ := (hσ o).1 j hq; exact absurd k2 (h2 j k1)
      | none => exact Iff.rfl
  -- another object's blocks: the call did not look at them
  have apart0 : ∀ {o : Nat} {b : Ob} {k : Nat}, H[o]? = some b → b.alive = true → (∀ j, j < X.length → ρ j ≠ o) → blk g b o k → k < w.heap.size ∧ ¬ own (g.through ρ X.length) X k := by
    intro o b k h1 h2 h3 h4
    refine ⟨own_lt hS ⟨o, b, h1, h2, h4⟩, ?_⟩
    rintro ⟨j, a, k1, k2, k3⟩
    obtain ⟨b', e1, e2⟩ := hsub.ob j a k1
    have := hS.inj (ρ j) o b' b k e1 h1 (e2.alive k2) h2 ((blk_through g ρ _ e2 k2 j k).1 k3) h4
    exact h3 j (List.getElem?_eq_some_iff.1 k1).1 this
  have apart : ∀ {o : Nat} {b : Ob} {k : Nat}, H[o]? = some b → b.alive = true → (∀ j, j < X.length → ρ j ≠ o) → blk g b o k → k < w.heap.size ∧ w'.heap[k]? = w.heap[k]? ∧ (∀ q, ¬ g.imm k q → ¬ g'.imm k q) ∧ ¬ own g' X' k := by
    intro o b k h1 h2 h3 h4
    obtain ⟨hlt, hno⟩ := apart0 h1 h2 h3 h4
    exact ⟨hlt, hX.frame k hlt hno, fun q hq hi => (hX.im k q hlt hi).elim hq hno, fun ho => hno (hX.ow k hlt ho)⟩
  have hgx : Gext g w g2 w' := by
    refine ⟨by show g.n ≤ H'.length; omega, fun o ho => ?_, fun o ho => ?_, fun o ho => ?_, hX.gx.imm, hX.gx.cell⟩
    · show (if _ then _ else _) = _; rw [if_pos (by omega)]
    · show (if _ then _ else _) = _; rw [if_pos (by omega)]
    · show (if _ then _ else _) = _; rw [if_pos (by omega)]
  have hbk2 : ∀ o, o < H.length → g2.bk o = g.bk o := fun o ho => hgx.bk o (by omega)
  refine ⟨v, g2, H', y, rfl, ?_, ?_, hren.to hs2 hv, hk⟩
  · refine ⟨rfl, fun o o' b b' k h1 h2 h3 h4 h5 h6 => ?_, fun o cs h1 => ?_, fun o h1 => ?_, hS'.imm, fun o r h1 => ?_⟩
    · rcases cases2 o b h1 h3 with ⟨j, a, k1, k2, rfl, k3⟩ | ⟨k1, k2, k3⟩ <;> rcases cases2 o' b' h2 h4 with ⟨j', a', m1, m2, rfl, m3⟩ | ⟨m1, m2, m3⟩
      · rw [hS'.inj j j' a a' k k1 m1 k2 m2 ((blkX k1 k2 k3).1 h5) ((blkX m1 m2 m3).1 h6)]
      · exact absurd ⟨j, a, k1, k2, (blkX k1 k2 k3).1 h5⟩ (apart m2 h4 m3 ((blkH m1 m3).1 h6)).2.2.2
      · exact absurd ⟨j', a', m1, m2, (blkX m1 m2 m3).1 h6⟩ (apart k2 h3 k3 ((blkH k1 k3).1 h5)).2.2.2
      · exact hS.inj o o' b b' k k2 m2 h3 h4 ((blkH k1 k3).1 h5) ((blkH m1 m3).1 h6)
    · rcases cases2 o _ h1 rfl with ⟨j, a, k1, k2, rfl, k3⟩ | ⟨k1, k2, k3⟩
      · cases k3 with
        | cells k3 =>
          obtain ⟨⟨C, ty, e1, e2⟩, e3⟩ := hS'.cells j _ k1
          have hj : j < X'.length := (List.getElem?_eq_some_iff.1 k1).1
          rw [← hs2.bk j hj]
          exact ⟨⟨C, ty, e1, k3.to hs2 e2⟩, e3⟩
        | dead _ => cases k2
      · obtain ⟨⟨C, ty, e1, e2⟩, e3⟩ := hS.cells o cs k2
        obtain ⟨_, a2, a3, _⟩ := apart k2 rfl k3 rfl
        rw [hbk2 o k1]
        exact ⟨⟨C, ty, a2.trans e1, e2.mono hgx⟩, fun q => a3 q (e3 q)⟩
    · rcases cases2 o _ h1 rfl with ⟨j, a, k1, k2, rfl, k3⟩ | ⟨k1, k2, k3⟩
      · cases k3 with
        | tok =>
          have hj : j < X'.length := (List.getElem?_eq_some_iff.1 k1).1
          rw [← hs2.bk j hj, ← hs2.en j hj, ← hs2.sz j hj]
          exact hS'.tok j k1
        | dead _ => cases k2
      · obtain ⟨⟨C, ty, e1, e2⟩, e3⟩ := hS.tok o k2
        obtain ⟨_, a2, a3, _⟩ := apart k2 rfl k3 rfl
        rw [hbk2 o k1, hgx.en o (by omega), hgx.sz o (by omega)]
        exact ⟨⟨C, ty, a2.trans e1, e2⟩, fun q hq => a3 q (e3 q hq)⟩
    · rcases cases2 o _ h1 rfl with ⟨j, a, k1, k2, rfl, k3⟩ | ⟨k1, k2, k3⟩
      · cases k3 with
        | abs r =>
          have hj : j < X'.length := (List.getElem?_eq_some_iff.1 k1).1
          rw [← hs2.bk j hj, fp2 j hj]
          exact hS'.abs j r k1
        | dead _ => cases k2
      · have h2 := (hS.abs o r k2).2.2
        have hfp : ∀ b, g2.fp o b ↔ g.fp o b := fun b => blkH (b := .abs r) (k := b) k1 k3
        exact hS.absKeep k2 hgx (hbk2 o k1) hfp (fun b hb => (apart k2 rfl k3 hb).2.1) (fun b q hb => (apart k2 rfl k3 hb).2.2.1 q ((h2 b hb).2 q)) hX.size hS'.imm
  · have ownsub : ∀ b, own (g.through ρ X.length) X b → own g H b := fun b => hsub.own
    refine ⟨hgx, hX.size, fun b hb ho => ?_, fun b hb ho => hX.frame b hb (fun k => ho (ownsub b k)), hX.os, hX.tape, hX.output, fun b q hb hi => (hX.im b q hb hi).imp id (ownsub b)⟩
    obtain ⟨o, b', h1, h2, h3⟩ := ho
    rcases cases2 o b' h1 h2 with ⟨j, a, k1, k2, rfl, k3⟩ | ⟨k1, k2, k3⟩
    · exact ownsub b (hX.ow b hb ⟨j, a, k1, k2, (blkX k1 k2 k3).1 h3⟩)
    · exact ⟨o, b', k2, h2, (blkH k1 k3).1 h3⟩

#print axioms acalls_frame
#print axioms acalls_rename
end Go.AM
