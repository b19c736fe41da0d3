/-
  An abstract machine over values without memory, proved against the model; part 5. A tool for the proofs of this claim; it states nothing of the program.
-/
import Derived.Test.YthabdpaipgclpaaA4
import Derived.Carry
import Derived.ChangeShapes
import Derived.Scope
/-! AM, part 18: from a function's contract over pure values to the row's call. -/
namespace Go.AM
open Go Go.RowKit

/-- an argument of a type -/
def WTa (P : Program) (k : Nat) (t : TypeId) (x : PV) : Prop :=
  match P.underlying t with
  | some (.struct _) | some (.array _ _) => ∃ cs, x = .agg cs ∧ WTp P k t cs
  | _ => WTp P k t [x]

def WTargs (P : Program) (k : Nat) : List TypeId → List PV → Prop
  | [], xs => xs = []
  | t :: ts, xs => ∃ x xs', xs = x :: xs' ∧ WTa P k t x ∧ WTargs P k ts xs'

theorem wta_of {H : Type} {enc : TypeId × Value → H} {P : Program} {W : World} {base b0 : Nat} {r : Reach} {spare : Nat → Bool} {held : Bool} {k : Nat} {t : TypeId} {v : Value} {d : DataW H} {ps : List MemPlace}
    (hf : fine P k t = true) (hval : Value.okWide P W r b0 t v) (h : DataW.Trod enc P W base spare held t v d ps) : ∃ x, Rel (gh0 W) W x v ∧ WTa P k t x := by
  obtain ⟨n, h⟩ := h
  obtain ⟨xs, hx, hw⟩ := rel_of_trod k n t _ _ hf h
  have one : ∀ {v' : Value}, v = v' → v'.cells.toList = [v'] → (∀ y, xs = [y] → WTa P k t y) → ∃ x, Rel (gh0 W) W x v ∧ WTa P k t x := by
    intro v' e hc hwt
    subst e
    rw [hc] at hx
    obtain ⟨y, rfl⟩ := List.length_eq_one_iff.1 hx.1
    exact ⟨y, hx.2 0 y v rfl rfl, hwt y rfl⟩
  cases k with
  | zero => simp [fine] at hf
  | succ k =>
    unfold fine at hf
    unfold Value.okWide at hval
    cases hu : P.underlying t with
    | none => rw [hu] at hf; simp at hf
    | some ty =>
      rw [hu] at hf hval
      have hwta : ∀ y, xs = [y] → (∀ fs, ty ≠ .struct fs) → (∀ n e, ty ≠ .array n e) → WTa P (k + 1) t y := by
        intro y e h1 h2
        subst e
        unfold WTa
        rw [hu]
        cases ty <;> first | exact hw | exact absurd rfl (h1 _) | exact absurd rfl (h2 _ _)
      have agg : ∀ cs, v = .agg cs → (∀ y, WTp P (k + 1) t y → WTa P (k + 1) t (.agg y)) → ∃ x, Rel (gh0 W) W x v ∧ WTa P (k + 1) t x := by
        intro cs e hy
        subst e
        exact ⟨.agg xs, Rel.agg_iff.2 ⟨cs, rfl, hx⟩, hy _ hw⟩
      cases ty with
      | bool =>
        obtain ⟨b, e⟩ := WideShapes.okWide_bool hu (by unfold Value.okWide; rw [hu]; exact hval)
        exact one e rfl fun y hy => hwta y hy (fun _ h => by cases h) (fun _ _ h => by cases h)
      | int kd =>
        obtain ⟨b, e⟩ := WideShapes.okWide_int hu (by unfold Value.okWide; rw [hu]; exact hval)
        exact one e rfl fun y hy => hwta y hy (fun _ h => by cases h) (fun _ _ h => by cases h)
      | string =>
        obtain ⟨b, e⟩ := WideShapes.okWide_string hu (by unfold Value.okWide; rw [hu]; exact hval)
        exact one e rfl fun y hy => hwta y hy (fun _ h => by cases h) (fun _ _ h => by cases h)
      | slice e' =>
        obtain ⟨a, l, c, e⟩ := WideShapes.okWide_slice hu (by unfold Value.okWide; rw [hu]; exact hval)
        exact one e rfl fun y hy => hwta y hy (fun _ h => by cases h) (fun _ _ h => by cases h)
      | struct fs =>
        obtain ⟨cs, e, _⟩ := hval
        exact agg cs e fun y hy => by unfold WTa; rw [hu]; exact ⟨y, rfl, hy⟩
      | array m e' =>
        obtain ⟨cs, e, _⟩ := hval
        exact agg cs e fun y hy => by unfold WTa; rw [hu]; exact ⟨y, rfl, hy⟩
      | _ => simp at hf

theorem args_of {H : Type} {enc : TypeId × Value → H} {P : Program} {W : World} {base b0 : Nat} {r : Reach} {spare : Nat → Bool} {held : Bool} {k : Nat} : ∀ {ts : List TypeId} {vs : List Value} {ds : List (DataW H)} {ps : List MemPlace},
    ts.all (fine P k) = true → (∀ (j : Nat) t v, ts[j]? = some t → vs[j]? = some v → Value.okWide P W r b0 t v) → DataW.TrodAll enc P W base spare held ts vs ds ps →
    ∃ xs, RelL (gh0 W) W xs vs ∧ WTargs P k ts xs
  | [], [], [], _, _, _, _ => ⟨[], .nil, rfl⟩
  | t :: ts, v :: vs, d :: ds, ps, hf, hval, ⟨p, q, h1, h2, _⟩ => by
    simp only [List.all_cons, Bool.and_eq_true] at hf
    obtain ⟨x, hx, hw⟩ := wta_of hf.1 (hval 0 t v rfl rfl) h1
    obtain ⟨xs, e1, e2⟩ := args_of hf.2 (fun j t v ht hv => hval (j + 1) t v (by simpa using ht) (by simpa using hv)) h2
    exact ⟨x :: xs, .cons hx e1, x, xs, rfl, hw, e2⟩
  | [], _ :: _, _, _, _, _, h => h.elim
  | [], [], _ :: _, _, _, _, h => h.elim
  | _ :: _, [], _, _, _, _, h => h.elim
  | _ :: _, _ :: _, [], _, _, _, h => h.elim

theorem below_trodAll {H : Type} {enc : TypeId × Value → H} {P : Program} (hl : laidOutB P = true) {W W' : World} (hb : Below W.heap.size W W') : ∀ {ts : List TypeId} {vs : List Value} {ds : List (DataW H)} {ps : List MemPlace},
    ts.all (fun t => P.readableRec t && decide (t < P.types.size)) = true → DataW.TrodAll enc P W 0 (fun _ => true) true ts vs ds ps → DataW.TrodAll enc P W' 0 (fun b => decide (b < W.heap.size)) true ts vs ds ps
  | [], [], [], _, _, h => h
  | t :: ts, v :: vs, d :: ds, ps, hf, ⟨p, q, h1, h2, h3⟩ => by
    simp only [List.all_cons, Bool.and_eq_true, decide_eq_true_eq] at hf
    refine ⟨p, q, Below.trod hl hf.1.1 hf.1.2 h1 hb ?_, below_trodAll hl hb hf.2 h2, h3⟩
    obtain ⟨m, hm⟩ := h1
    exact DataW.trod_lt m _ _ _ hm
  | [], _ :: _, _, _, _, h => h.elim
  | [], [], _ :: _, _, _, h => h.elim
  | _ :: _, [], _, _, _, h => h.elim
  | _ :: _, _ :: _, [], _, _, h => h.elim

/-- the globals that a row lays: their cells, in a world -/
theorem globOk_of {W : World} {gl : Glob} (h : ∀ k cs, gl k = some cs → ∃ vs : List Value, RelL (gh0 W) W cs vs ∧ ∀ q, q < vs.length → W.cell? ⟨k, q, none⟩ = vs[q]?) : GlobOk (gh0 W) W gl := by
  intro k cs hk
  obtain ⟨vs, h1, h2⟩ := h k cs hk
  refine ⟨rfl, fun q x hx => ?_⟩
  obtain ⟨v, hv, hr⟩ := h1.get hx
  have hq := (List.getElem?_eq_some_iff.1 hv).1
  have hc := h2 q hq
  rw [hv] at hc
  have e : At ⟨k, 0, none⟩ q = ⟨k, q, none⟩ := by simp [At]
  rw [e]
  exact ⟨(cells_lt (A := ⟨k, q, none⟩) hc : k < W.heap.size), v, hc, hr⟩

theorem calls_of_acalls {P : Program} {gl : Glob} {f : FuncId} {xs : List PV} {W : World} {args : Array Value} (hg : GlobOk (gh0 W) W gl) (hr : RelL (gh0 W) W xs args.toList)
    (h : ACalls P gl f xs [] (fun x _ => x = .bool true)) : Calls P f args W fun e W' => e = .returned (.bool true) ∧ Below W.heap.size W W' := by
  refine (h (gh0 W) W args (sim0 W) hg hr).mono ?_
  rintro e W' ⟨v, g', H', x, rfl, _, hx, hv, rfl⟩
  cases hv
  exact ⟨rfl, below_of_ext hx⟩

#print axioms calls_of_acalls
end Go.AM

/-! AM, part 19: what a call made for itself alone is let go. -/
namespace Go.AM
open Go

/-- the value speaks of the first objects alone -/
inductive Low (n : Nat) : PV → Prop where
  | any : Low n .any
  | bool (b : Bool) : Low n (.bool b)
  | int (k : IntKind) (m : Int) : Low n (.int k m)
  | str (s : ByteArray) : Low n (.str s)
  | list (es : List (List PV)) (t : Tail) (ht : ∀ o, t = .tok o → o < n) (h : ∀ x ∈ es.flatten, Low n x) : Low n (.list es t)
  | arr (o off len cap : Nat) (h : o < n) : Low n (.arr o off len cap)
  | ptr (o off : Nat) (h : o < n) : Low n (.ptr o off)
  | iptr (cs : List PV) (h : ∀ x ∈ cs, Low n x) : Low n (.iptr cs)
  | nilptr : Low n .nilptr
  | nilfn : Low n .nilfn
  | fn (f : Nat) (cs : List PV) (h : ∀ x ∈ cs, Low n x) : Low n (.fn f cs)
  | agg (cs : List PV) (h : ∀ x ∈ cs, Low n x) : Low n (.agg cs)
  | tup (cs : List PV) (h : ∀ x ∈ cs, Low n x) : Low n (.tup cs)

theorem Rel.low {g : Gh} {w : World} {x : PV} {v : Value} (h : Rel g w x v) : Low g.n x := by
  induction h with
  | any v => exact .any
  | bool b => exact .bool b
  | int k n => exact .int k n
  | str s => exact .str s
  | list es t a cap cv hu hl ht hc hr ih =>
    refine .list es t (fun o e => by subst e; exact ht.1) fun x hx => ?_
    obtain ⟨q, hq⟩ := List.mem_iff_getElem?.1 hx
    exact ih q x hq
  | arr o off len cap ho => exact .arr o off len cap ho
  | ptr o off ho => exact .ptr o off ho
  | iptr cs A cv hs hc hr ih => exact .iptr cs fun x hx => by obtain ⟨q, hq⟩ := List.mem_iff_getElem?.1 hx; exact ih q x hq
  | nilptr => exact .nilptr
  | nilfn => exact .nilfn
  | fn f caps vs cv hs hc hr ih => exact .fn f caps fun x hx => by obtain ⟨q, hq⟩ := List.mem_iff_getElem?.1 hx; exact ih q x hq
  | agg cs vs cv hs hc hr ih => exact .agg cs fun x hx => by obtain ⟨q, hq⟩ := List.mem_iff_getElem?.1 hx; exact ih q x hq
  | tup cs vs cv hs hc hr ih => exact .tup cs fun x hx => by obtain ⟨q, hq⟩ := List.mem_iff_getElem?.1 hx; exact ih q x hq

def Gh.cutAt (g : Gh) (n : Nat) : Gh := ⟨n, g.bk, g.en, g.sz, g.imm, g.fp⟩

theorem blk_cut (g : Gh) (n : Nat) : blk (g.cutAt n) = blk g := by funext ob o b; cases ob <;> rfl

theorem Rel.cutAt {g : Gh} {w : World} {x : PV} {v : Value} {n : Nat} (h : Rel g w x v) (hl : Low n x) : Rel (g.cutAt n) w x v := by
  induction h with
  | any v => exact .any v
  | bool b => exact .bool b
  | int k n => exact .int k n
  | str s => exact .str s
  | list es t a cap cv hu hle ht hc hr ih =>
    cases hl with
    | list _ _ h1 h2 =>
      refine .list es t a cap cv hu hle ?_ hc fun q x hq => ih q x hq (h2 x (List.mem_iff_getElem?.2 ⟨q, hq⟩))
      cases t with
      | no => trivial
      | exact => exact ht
      | tok o => exact ⟨h1 o rfl, ht.2⟩
  | arr o off len cap ho => cases hl with | arr _ _ _ _ h => exact .arr (g := g.cutAt n) o off len cap h
  | ptr o off ho => cases hl with | ptr _ _ h => exact .ptr (g := g.cutAt n) o off h
  | iptr cs A cv hs hc hr ih => cases hl with | iptr _ h => exact .iptr cs A cv hs hc fun q x hq => ih q x hq (h x (List.mem_iff_getElem?.2 ⟨q, hq⟩))
  | nilptr => exact .nilptr
  | nilfn => exact .nilfn
  | fn f caps vs cv hs hc hr ih => cases hl with | fn _ _ h => exact .fn f caps vs cv hs hc fun q x hq => ih q x hq (h x (List.mem_iff_getElem?.2 ⟨q, hq⟩))
  | agg cs vs cv hs hc hr ih => cases hl with | agg _ h => exact .agg cs vs cv hs hc fun q x hq => ih q x hq (h x (List.mem_iff_getElem?.2 ⟨q, hq⟩))
  | tup cs vs cv hs hc hr ih => cases hl with | tup _ h => exact .tup cs vs cv hs hc fun q x hq => ih q x hq (h x (List.mem_iff_getElem?.2 ⟨q, hq⟩))

theorem get_pre {α : Type} {l r : List α} {o : Nat} {x : α} (h : l[o]? = some x) : (l ++ r)[o]? = some x := by
  rw [List.getElem?_append_left (List.getElem?_eq_some_iff.1 h).1]; exact h

/-- The first objects, as they stand then, stay; the others go. -/
theorem ACalls.forget {P : Program} {gl : Glob} {f : FuncId} {args : List PV} {H : Heap} {K K' : PV → Heap → Prop} (h : ACalls P gl f args H K)
    (hK : ∀ x H', K x H' → ∃ H1 E, H' = H1 ++ E ∧ H1.length = H.length ∧ Low H.length x ∧ (∀ (o : Nat) cs, H1[o]? = some (.cells cs) → H[o]? = some (.cells cs) ∨ ∀ x ∈ cs, Low H.length x) ∧ K' x H1) : ACalls P gl f args H K' := by
  intro g w vs hS hG hR
  refine (h g w vs hS hG hR).mono ?_
  rintro e w' ⟨v, g', H', x, rfl, hS', hX, hr, hk⟩
  obtain ⟨H1, E, rfl, hlen, hlow, hc, hk'⟩ := hK x H' hk
  refine ⟨v, g'.cutAt H.length, H1, x, rfl, ?_, ?_, hr.cutAt hlow, hk'⟩
  · refine ⟨hlen.symm, fun o o' ob ob' b h1 h2 => by rw [blk_cut]; exact hS'.inj o o' ob ob' b (get_pre h1) (get_pre h2), fun o cs h1 => ?_, fun o h1 => hS'.tok o (get_pre h1), hS'.imm, fun o r h1 => hS'.abs o r (get_pre h1)⟩
    obtain ⟨⟨C, ty, e1, e2⟩, e3⟩ := hS'.cells o cs (get_pre h1)
    refine ⟨⟨C, ty, e1, e2.1, fun q y u hy hu => (e2.2 q y u hy hu).cutAt ?_⟩, e3⟩
    rcases hc o cs h1 with h2 | h2
    · obtain ⟨⟨C0, ty0, k1, k2⟩, _⟩ := hS.cells o cs h2
      obtain ⟨u0, _, k3⟩ := k2.get hy
      have := k3.low
      rwa [hS.n] at this
    · exact h2 y (List.mem_iff_getElem?.2 ⟨q, hy⟩)
  · have hn : g.n = H.length := hS.n
    refine ⟨⟨Nat.le_of_eq hn, hX.gx.bk, hX.gx.en, hX.gx.sz, hX.gx.imm, hX.gx.cell⟩, hX.size, fun b hb ho => ?_, hX.frame, hX.os, hX.tape, hX.output, hX.im⟩
    obtain ⟨o, ob, k1, k2, k3⟩ := ho
    rw [blk_cut] at k3
    exact hX.ow b hb ⟨o, ob, get_pre k1, k2, k3⟩

theorem ACalls.same {P : Program} {gl : Glob} {f : FuncId} {args : List PV} {H : Heap} {r : PV} (hr : Low H.length r) (h : ACalls P gl f args H (fun x H' => x = r ∧ ∃ E, H' = H ++ E)) : ACalls P gl f args H (fun x H' => x = r ∧ H' = H) :=
  h.forget fun _ _ ⟨e, E, e1⟩ => ⟨H, E, e1, rfl, e ▸ hr, fun _ _ ho => .inl ho, e, rfl⟩

theorem Low.up {x : PV} {n : Nat} (hx : Low 0 x) : Low n x := by
  induction hx with
  | any => exact .any
  | bool b => exact .bool b
  | int k m => exact .int k m
  | str s => exact .str s
  | list es t ht h ih => exact .list es t (fun o e => absurd (ht o e) (Nat.not_lt_zero _)) ih
  | arr o off len cap h => exact absurd h (Nat.not_lt_zero _)
  | ptr o off h => exact absurd h (Nat.not_lt_zero _)
  | iptr cs h ih => exact .iptr cs ih
  | nilptr => exact .nilptr
  | nilfn => exact .nilfn
  | fn f cs h ih => exact .fn f cs ih
  | agg cs h ih => exact .agg cs ih
  | tup cs h ih => exact .tup cs ih

theorem PCall.of {P : Program} {gl : Glob} {f : FuncId} {args : List PV} {r : PV} (hr : Low 0 r) (h : ∀ H, ACalls P gl f args H (fun x H' => x = r ∧ ∃ E, H' = H ++ E)) : PCall P gl f args r :=
  fun H => (h H).same hr.up

def GlobLow (gl : Glob) : Prop := ∀ k cs, gl k = some cs → ∀ x ∈ cs, Low 0 x

/-- A call that is handed no object leaves all objects as they were: it is enough to look at it where there is none. -/
theorem PCall.alone {P : Program} {gl : Glob} {f : FuncId} {args : List PV} {r : PV} (hgl : GlobLow gl) (ha : ∀ x ∈ args, Low 0 x) (hr : Low 0 r) (h : ACalls P gl f args [] (fun x _ => x = r)) : PCall P gl f args r := by
  intro H g w vs hS hG hR
  have hS0 : Sim (g.cutAt 0) [] w := ⟨rfl, fun o _ _ _ _ h => by simp at h, fun o cs h => by simp at h, fun o h => by simp at h, hS.imm, fun o r h => by simp at h⟩
  have hG0 : GlobOk (g.cutAt 0) w gl := fun k cs hk => by
    refine ⟨(hG k cs hk).1, fun q x hx => ?_⟩
    obtain ⟨h1, c, h2, h3⟩ := (hG k cs hk).2 q x hx
    exact ⟨h1, c, h2, h3.cutAt (hgl k cs hk x (List.mem_iff_getElem?.2 ⟨q, hx⟩))⟩
  have hR0 : RelL (g.cutAt 0) w args vs.toList := ⟨hR.1, fun q x v hx hv => (hR.2 q x v hx hv).cutAt (ha x (List.mem_iff_getElem?.2 ⟨q, hx⟩))⟩
  refine (h _ w vs hS0 hG0 hR0).mono ?_
  rintro e w' ⟨v, g', H', x, rfl, hS', hX, hv, rfl⟩
  have noOwn : ∀ b, ¬ own (g.cutAt 0) [] b := fun b ⟨o, ob, ho, _⟩ => by simp at ho
  let g2 : Gh := ⟨g.n, g.bk, g.en, g.sz, fun b q => g.imm b q ∨ (w.heap.size ≤ b ∧ g'.imm b q), g.fp⟩
  have hb2 : blk g2 = blk g := by funext ob o b; cases ob <;> rfl
  have himm : ∀ b q, g'.imm b q → g2.imm b q := fun b q hi => by
    rcases Nat.lt_or_ge b w.heap.size with hb | hb
    · rcases hX.im b q hb hi with h1 | h1
      · exact .inl h1
      · exact absurd h1 (noOwn b)
    · exact .inr ⟨hb, hi⟩
  have hgx : Gext g w g2 w' := ⟨Nat.le_refl _, fun _ _ => rfl, fun _ _ => rfl, fun _ _ => rfl, fun _ _ h => .inl h, hX.gx.cell⟩
  have hblk : ∀ (o : Nat) (ob : Ob) (b : Nat), H[o]? = some ob → ob.alive = true → blk g ob o b → w'.heap[b]? = w.heap[b]? ∧ b < w.heap.size := fun o ob b ho hal hb => by
    have hlt := own_lt hS ⟨o, ob, ho, hal, hb⟩
    exact ⟨hX.frame _ hlt (noOwn _), hlt⟩
  refine ⟨v, g2, H, x, rfl, ?_, ?_, ?_, rfl, rfl⟩
  · refine ⟨hS.n, by rw [hb2]; exact hS.inj, fun o cs ho => ?_, fun o ho => ?_, fun b q hi => ?_, fun o r ho => ?_⟩
    · obtain ⟨⟨C, ty, h1, h2⟩, h3⟩ := hS.cells o cs ho
      obtain ⟨h4, h5⟩ := hblk o _ _ ho rfl rfl
      refine ⟨⟨C, ty, h4.trans h1, h2.mono hgx⟩, fun q hq => ?_⟩
      rcases hq with hq | hq
      · exact h3 q hq
      · exact absurd h5 (Nat.not_lt.2 hq.1)
    · obtain ⟨⟨C, ty, h1, h2⟩, h3⟩ := hS.tok o ho
      obtain ⟨h4, h5⟩ := hblk o _ _ ho rfl rfl
      refine ⟨⟨C, ty, h4.trans h1, h2⟩, fun q hq hi => ?_⟩
      rcases hi with hi | hi
      · exact h3 q hq hi
      · exact absurd h5 (Nat.not_lt.2 hi.1)
    · rcases hi with hi | hi
      · exact Nat.lt_of_lt_of_le (hS.imm b q hi) hX.size
      · exact hS'.imm b q hi.2
    · have h2 := (hS.abs o r ho).2.2
      refine hS.absKeep ho hgx rfl (fun _ => Iff.rfl) (fun b hb => (hblk o _ b ho rfl hb).1) ?_ hX.size ?_
      · rintro b q hb (hi | hi)
        · exact (h2 b hb).2 q hi
        · exact absurd (h2 b hb).1 (Nat.not_lt.2 hi.1)
      · rintro b q (hi | hi)
        · exact Nat.lt_of_lt_of_le (hS.imm b q hi) hX.size
        · exact hS'.imm b q hi.2
  · exact ⟨hgx, hX.size, fun b _ ⟨o, ob, k1, k2, k3⟩ => ⟨o, ob, k1, k2, by rw [hb2] at k3; exact k3⟩, fun b hb _ => hX.frame b hb (noOwn b), hX.os, hX.tape, hX.output,
      fun b q hb hi => hi.elim .inl fun k => absurd hb (Nat.not_lt.2 k.1)⟩
  · exact Rel.mono (g := g'.cutAt 0) (g' := g2) (w := w') ⟨Nat.zero_le _, fun o ho => absurd ho (Nat.not_lt_zero _), fun o ho => absurd ho (Nat.not_lt_zero _), fun o ho => absurd ho (Nat.not_lt_zero _), himm, fun _ _ _ => rfl⟩ (hv.cutAt hr)

#print axioms PCall.of
#print axioms PCall.alone
end Go.AM

/-! AM, part 20: operations, in a form that comes out by computing. -/
namespace Go.AM
open Go

/-- a branch on a Bool -/
def br (b : Bool) (X Y : Prop) : Prop := match b with
  | true => X
  | false => Y

theorem br_iff {b : Bool} {X Y : Prop} : br b X Y ↔ (b = true → X) ∧ (b = false → Y) := by cases b <;> simp [br]
theorem br_false {b : Bool} {X : Prop} (h : br b X False) : b = true ∧ X := by cases b <;> simp_all [br]
theorem br_mono {b : Bool} {X Y X' Y' : Prop} (h : br b X Y) (hx : X → X') (hy : Y → Y') : br b X' Y' := by cases b; exact hy h; exact hx h

inductive CK where
  | int (k : IntKind)
  | bool
  | str
  | list
  | raw

def cI (xs : List PV) (i : Nat) : Int := match xs[i]? with | some (.int _ n) => n | _ => 0
def cB (xs : List PV) (i : Nat) : Bool := match xs[i]? with | some (.bool b) => b | _ => false
def cS (xs : List PV) (i : Nat) : ByteArray := match xs[i]? with | some (.str s) => s | _ => ByteArray.empty
def cL (xs : List PV) (i : Nat) : List (List PV) := match xs[i]? with | some (.list es _) => es | _ => []
def cT (xs : List PV) (i : Nat) : Tail := match xs[i]? with | some (.list _ t) => t | _ => .no
def cR (xs : List PV) (i : Nat) : PV := match xs[i]? with | some x => x | none => .any

def view1 : CK → List PV → Nat → PV
  | .int k, xs, i => .int k (cI xs i)
  | .bool, xs, i => .bool (cB xs i)
  | .str, xs, i => .str (cS xs i)
  | .list, xs, i => .list (cL xs i) (cT xs i)
  | .raw, xs, i => cR xs i

def fit1 : CK → Option PV → Bool
  | .int k, some (.int k' _) => k == k'
  | .bool, some (.bool _) => true
  | .str, some (.str _) => true
  | .list, some (.list _ _) => true
  | .raw, some _ => true
  | _, _ => false

theorem view1_of {c : CK} {xs : List PV} {i : Nat} (h : fit1 c xs[i]? = true) : xs[i]? = some (view1 c xs i) := by
  cases hx : xs[i]? with
  | none => rw [hx] at h; cases c <;> cases h
  | some x =>
    rw [hx] at h
    cases c with
    | raw => simp only [view1, cR, hx]
    | int k => cases x <;> first | (cases h; done) | (simp only [fit1, beq_iff_eq] at h; subst h; simp only [view1, cI, hx])
    | bool => cases x <;> first | (cases h; done) | simp only [view1, cB, hx]
    | str => cases x <;> first | (cases h; done) | simp only [view1, cS, hx]
    | list => cases x <;> first | (cases h; done) | simp only [view1, cL, cT, hx]

def viewX : List CK → Nat → List PV → List PV
  | [], _, _ => []
  | c :: cs, i, xs => view1 c xs i :: viewX cs (i + 1) xs

def fitX : List CK → Nat → List PV → Bool
  | [], _, _ => true
  | c :: cs, i, xs => fit1 c xs[i]? && fitX cs (i + 1) xs

theorem viewX_of : ∀ (cs : List CK) (i : Nat) (xs : List PV), fitX cs i xs = true → viewX cs i xs = (xs.drop i).take cs.length ∧ (cs ≠ [] → i + cs.length ≤ xs.length)
  | [], i, xs, _ => ⟨by simp [viewX], fun h => absurd rfl h⟩
  | c :: cs, i, xs, h => by
    simp only [fitX, Bool.and_eq_true] at h
    have h1 := view1_of h.1
    have hi : i < xs.length := (List.getElem?_eq_some_iff.1 h1).1
    obtain ⟨h2, h3⟩ := viewX_of cs (i + 1) xs h.2
    have hd : xs.drop i = view1 c xs i :: xs.drop (i + 1) := by
      rw [List.drop_eq_getElem_cons hi]
      congr 1
      exact (List.getElem?_eq_some_iff.1 h1).2
    refine ⟨?_, fun _ => ?_⟩
    · rw [viewX, h2, hd, List.length_cons, List.take_succ_cons]
    · by_cases hc : cs = []
      · subst hc; simp; omega
      · have := h3 hc; simp; omega

/-- the kinds of a type's cells -/
def ckT (P : Program) : Nat → TypeId → List CK
  | 0, t => match tyA P t with
    | some (_, sz) => List.replicate sz .raw
    | none => []
  | k + 1, t => match P.underlying t with
    | some .bool => [.bool]
    | some (.int kd) => [.int kd]
    | some .string => [.str]
    | some (.slice _) => [.list]
    | some (.struct fs) => (fs.toList.map fun f => ckT P k f.type).flatten
    | some (.array n e) => (List.replicate n (ckT P k e)).flatten
    | _ => match tyA P t with
      | some (_, sz) => List.replicate sz .raw
      | none => []

/-- a load: typed (m = 0), or as it stands -/
def loadc (B : Bool → Prop → Prop → Prop) (P : Program) (t : TypeId) (m : Nat) (cs : List PV) (K : PV → Prop) : Prop :=
  match tyA P t with
  | some (b, sz) => match m with
    | 0 => B ((ckT P 6 t).length == sz && (b || sz == 1) && fitX (ckT P 6 t) 0 cs) (K (match b with | true => .agg (viewX (ckT P 6 t) 0 cs) | false => match viewX (ckT P 6 t) 0 cs with | x :: _ => x | [] => .any)) False
    | _ => match loadPV b sz cs with
      | some y => K y
      | none => False
  | none => False

theorem loadc_sound {P : Program} {t : TypeId} {m : Nat} {cs : List PV} {K : PV → Prop} (h : loadc br P t m cs K) : ∃ b sz y, tyA P t = some (b, sz) ∧ loadPV b sz cs = some y ∧ K y := by
  unfold loadc at h
  cases ht : tyA P t with
  | none => rw [ht] at h; exact h.elim
  | some p =>
    obtain ⟨b, sz⟩ := p
    rw [ht] at h
    cases m with
    | zero =>
      simp only at h
      obtain ⟨hc, hk⟩ := br_false h
      simp only [Bool.and_eq_true, beq_iff_eq, Bool.or_eq_true] at hc
      obtain ⟨⟨h1, h2⟩, h3⟩ := hc
      obtain ⟨h4, h5⟩ := viewX_of _ _ _ h3
      refine ⟨b, sz, _, rfl, ?_, hk⟩
      unfold loadPV
      cases b with
      | true =>
        have : sz ≤ cs.length := by
          by_cases hn : ckT P 6 t = []
          · rw [hn] at h1; simp at h1; omega
          · have := h5 hn; omega
        simp only [if_true, if_pos this, h4, List.drop_zero, h1]
      | false =>
        have hs : sz = 1 := by simpa using h2
        subst hs
        have hn : ckT P 6 t ≠ [] := fun e => by rw [e] at h1; simp at h1
        have := h5 hn
        rw [h4, List.drop_zero, h1]
        cases cs with
        | nil => simp [h1] at this
        | cons x cs => rfl
    | succ m =>
      simp only at h
      cases hl : loadPV b sz cs with
      | none => rw [hl] at h; exact h.elim
      | some y => rw [hl] at h; exact ⟨b, sz, y, rfl, hl, h⟩

end Go.AM

/-! AM, part 21: operations that come out by computing, continued. -/
namespace Go.AM
open Go

def isBoolT (P : Program) (t : TypeId) : Bool := match P.underlying t with | some .bool => true | _ => false
def isPtrT (P : Program) (t : TypeId) : Bool := match P.underlying t with | some (.pointer _) => true | _ => false
def isSlT (P : Program) (t : TypeId) : Bool := match P.underlying t with | some (.slice _) => true | _ => false
theorem isBoolT_of {P : Program} {t : TypeId} (h : isBoolT P t = true) : P.underlying t = some .bool := by
  unfold isBoolT at h; split at h
  · assumption
  · cases h
theorem isPtrT_of {P : Program} {t : TypeId} (h : isPtrT P t = true) : ∃ e, P.underlying t = some (.pointer e) := by
  unfold isPtrT at h; split at h
  · rename_i e he; exact ⟨e, he⟩
  · cases h
theorem isSlT_of {P : Program} {t : TypeId} (h : isSlT P t = true) : ∃ e, P.underlying t = some (.slice e) := by
  unfold isSlT at h; split at h
  · rename_i e he; exact ⟨e, he⟩
  · cases h

/-- structs that '==' looks at cell by cell -/
def eqOkT (P : Program) (t : TypeId) (xs : List PV) : Bool :=
  !P.eqGuardType P.depth t && (flatT P 20 t == some xs.length) && (match tyA P t with | some (true, n) => n == xs.length | _ => false) && fitT P 20 t xs

section
variable (B : Bool → Prop → Prop → Prop)

def intc (op : BinOp) (k : IntKind) (a : Int) (k' : IntKind) (b : Int) (K : PV → Prop) : Prop :=
  match op with
  | .add => B (k == k') (K (.int k (k.wrap (a + b)))) False
  | .sub => B (k == k') (K (.int k (k.wrap (a - b)))) False
  | .mul => B (k == k') (K (.int k (k.wrap (a * b)))) False
  | .quo => B (k == k') (B (b != 0) (K (.int k (k.wrap (a.tdiv b)))) False) False
  | .rem => B (k == k') (B (b != 0) (K (.int k (a.tmod b))) False) False
  | .and => B (k == k') (K (.int k (k.wrap (BitVec.ofInt k.bits a &&& BitVec.ofInt k.bits b).toNat))) False
  | .or => B (k == k') (K (.int k (k.wrap (BitVec.ofInt k.bits a ||| BitVec.ofInt k.bits b).toNat))) False
  | .xor => B (k == k') (K (.int k (k.wrap (BitVec.ofInt k.bits a ^^^ BitVec.ofInt k.bits b).toNat))) False
  | .andNot => B (k == k') (K (.int k (k.wrap (BitVec.ofInt k.bits a &&& ~~~ BitVec.ofInt k.bits b).toNat))) False
  | .shl => B (decide (0 ≤ b)) (K (.int k (k.wrap (a * 2 ^ (min b.toNat k.bits))))) False
  | .shr => B (decide (0 ≤ b)) (K (.int k (a.fdiv (2 ^ (min b.toNat k.bits))))) False
  | .eql => B (k == k') (K (.bool (a == b))) False
  | .neq => B (k == k') (K (.bool (a != b))) False
  | .lss => B (k == k') (K (.bool (decide (a < b)))) False
  | .leq => B (k == k') (K (.bool (decide (a ≤ b)))) False
  | .gtr => B (k == k') (K (.bool (decide (a > b)))) False
  | .geq => B (k == k') (K (.bool (decide (a ≥ b)))) False

def binc (P : Program) (op : BinOp) (t : TypeId) (x y : PV) (K : PV → Prop) : Prop :=
  match x, y with
  | .int k a, .int k' b => intc B op k a k' b K
  | .str a, .str b => match op with
    | .eql => K (.bool (a == b))
    | .neq => K (.bool (a != b))
    | _ => False
  | .bool a, .bool b => B (isBoolT P t) (match op with
    | .eql => K (.bool (a == b))
    | .neq => K (.bool (a != b))
    | _ => False) False
  | .nilptr, .nilptr => B (isPtrT P t) (match op with
    | .eql => K (.bool true)
    | .neq => K (.bool false)
    | _ => False) False
  | .ptr _ _, .nilptr => B (isPtrT P t) (match op with
    | .eql => K (.bool false)
    | .neq => K (.bool true)
    | _ => False) False
  | .iptr _, .nilptr => B (isPtrT P t) (match op with
    | .eql => K (.bool false)
    | .neq => K (.bool true)
    | _ => False) False
  | .agg xs, .agg ys => B (eqOkT P t xs) (match eqCells xs ys with
    | some r => (match op with
      | .eql => K (.bool r)
      | .neq => K (.bool (!r))
      | _ => False)
    | none => False) False
  | _, _ => False

def nilc (P : Program) (op : BinOp) (t : TypeId) (x : PV) (K : PV → Prop) : Prop :=
  B (isSlT P t) (match x with
  | .list es _ => (match op with
    | .eql => ∀ b : Bool, (es.flatten ≠ [] → b = false) → K (.bool b)
    | .neq => ∀ b : Bool, (es.flatten ≠ [] → b = true) → K (.bool b)
    | _ => False)
  | .arr _ _ _ _ => (match op with
    | .eql => K (.bool false)
    | .neq => K (.bool true)
    | _ => False)
  | _ => False) False
end

theorem intc_sound {op : BinOp} {k k' : IntKind} {a b : Int} {K : PV → Prop} (h : intc br op k a k' b K) : intK op k a k' b K := by
  cases op <;> simp only [intc] at h <;> simp only [intK]
  case quo =>
    obtain ⟨h1, h2⟩ := br_false h
    obtain ⟨h2, h3⟩ := br_false h2
    exact ⟨by simpa using h1, by simpa using h2, h3⟩
  case rem =>
    obtain ⟨h1, h2⟩ := br_false h
    obtain ⟨h2, h3⟩ := br_false h2
    exact ⟨by simpa using h1, by simpa using h2, h3⟩
  all_goals
    obtain ⟨h1, h2⟩ := br_false h
    exact ⟨by simpa using h1, h2⟩

theorem binc_sound {P : Program} {op : BinOp} {t : TypeId} {x y : PV} {K : PV → Prop} (h : binc br P op t x y K) : binK P op t x y K := by
  unfold binc at h
  split at h
  · exact intc_sound h
  · exact h
  · obtain ⟨h1, h2⟩ := br_false h; exact ⟨isBoolT_of h1, h2⟩
  · obtain ⟨h1, h2⟩ := br_false h; exact ⟨isPtrT_of h1, h2⟩
  · obtain ⟨h1, h2⟩ := br_false h; exact ⟨isPtrT_of h1, h2⟩
  · obtain ⟨h1, h2⟩ := br_false h; exact ⟨isPtrT_of h1, h2⟩
  · rename_i xs ys
    obtain ⟨h1, h2⟩ := br_false h
    simp only [eqOkT, Bool.and_eq_true, beq_iff_eq, Bool.not_eq_true'] at h1
    obtain ⟨⟨⟨e1, e2⟩, e3⟩, e4⟩ := h1
    refine ⟨e1, e2, ?_, e4, h2⟩
    split at e3
    · rename_i n hn; rw [hn]; simp only [beq_iff_eq] at e3; rw [e3]
    · cases e3
  · exact h.elim

theorem nilc_sound {P : Program} {op : BinOp} {t : TypeId} {x : PV} {K : PV → Prop} (h : nilc br P op t x K) : nilK P op t x K := by
  obtain ⟨h1, h2⟩ := br_false h
  exact ⟨isSlT_of h1, h2⟩

/-- an index into a list: what is asked -/
def InL (es : List (List PV)) (sz : Nat) (n : Int) : Prop := 0 ≤ n ∧ n.toNat < es.length ∧ uni sz es ∧ sz ≠ 0

theorem InL.get {es : List (List PV)} {sz : Nat} {n : Int} (h : InL es sz n) : es[n.toNat]? = some (es.getD n.toNat []) ∧ (es.getD n.toNat []).length = sz := by
  have h1 := List.getElem?_eq_getElem h.2.1
  have h2 : es.getD n.toNat [] = es[n.toNat]'h.2.1 := by rw [List.getD_eq_getElem?_getD, h1]; rfl
  rw [h2]
  exact ⟨h1, h.2.2.1 _ (List.getElem_mem _)⟩

/-- a type's size -/
def szT (P : Program) (t : TypeId) : Nat := match tyA P t with
  | some (_, sz) => sz
  | none => 0

/-- one operation, no call -/
def opc (B : Bool → Prop → Prop → Prop) (P : Program) (op : Op) (m : Nat) (ρ : Operand → PV) (H : Heap) (K : PV → Heap → Prop) : Prop :=
  match op with
  | .move x => K (ρ x) H
  | .assign x => K (ρ x) H
  | .pick c a b => match ρ c with
    | .bool t => B t (K (ρ a) H) (K (ρ b) H)
    | _ => False
  | .alloc t => match zeroA P t with
    | some cs => K (.ptr H.length 0) (H ++ [.cells cs])
    | none => False
  | .box _ x => match (ρ x).cells with
    | some cs => K (.ptr H.length 0) (H ++ [.cells cs])
    | none => False
  | .build t parts => match buildA P t (parts.toList.map fun p => (p.1, ρ p.2)) with
    | some cs => K (.agg cs) H
    | none => False
  | .buildSlice t len parts => match elA P t with
    | some (none, _, sz, _, et) => match zeroA P et with
      | some z => B (z.length == sz && sz != 0 && decide (len * sz ≤ 16777216)) (match esFill sz (List.replicate len z) (parts.toList.map fun p => (p.1, ρ p.2)) with
        | some es => K (.list es .exact) H
        | none => False) False
      | none => False
    | _ => False
  | .load t a => match behind H (ρ a) with
    | some cs => loadc B P t (match m with | 900 => 0 | m => m) cs fun y => match m with
      | 0 => K y H
      | _ => B (hintL m (ρ a) (szT P t)) (K y H) False
    | none => False
  | .store t a x => match ρ a, tyA P t, (ρ x).cells with
    | .ptr o off, some (_, sz), some xs => match H[o]? with
      | some (.cells cs) => B (xs.length == sz && xs.all PV.one && decide (off + sz ≤ cs.length) && hintOk m o off sz) (K (.tup []) (H.set o (.cells (over cs off xs)))) False
      | _ => False
    | _, _, _ => False
  | .nilCheck x => match ρ x with
    | .ptr o off => K (.ptr o off) H
    | .iptr cs => K (.iptr cs) H
    | .fn f caps => K (.fn f caps) H
    | _ => False
  | .binOp op t x y _ => match isNilSlice y with
    | true => nilc B P op t (ρ x) (fun z => K z H)
    | false => binc B P op t (ρ x) (ρ y) (fun z => K z H)
  | .unOp op _ x => match unA op (ρ x) with
    | some y => K y H
    | none => False
  | .convert s d x => match convA P s d (ρ x) with
    | some y => K y H
    | none => False
  | .makeFunc fn first caps => match fn with
    | .func f => match first.toList with
      | [] => K (.fn f (caps.toList.map ρ)) H
      | _ => False
    | _ => False
  | .makeSlice t l c => match elA P t, ρ l, ρ c with
    | some (none, _, sz, by_, et), .int _ l, .int _ c => match zeroA P et with
      | some z => B (z.length == sz && sz != 0) (0 ≤ l ∧ l ≤ c ∧ c ≤ 140737488355328 ∧ c * by_ ≤ 140737488355328 ∧ K (.arr H.length 0 l.toNat c.toNat) (H ++ [.cells (List.replicate c.toNat z).flatten])) False
      | none => False
    | _, _, _ => False
  | .slice t x lo hi mx => match elA P t, ρ x with
    | some (none, _, sz, _, _), .list es tl => match bnd 0 (lo.map ρ), bnd es.length (hi.map ρ), bnd es.length (mx.map ρ) with
      | some l, some h, some m => (0 ≤ l ∧ l ≤ h ∧ h ≤ m ∧ m ≤ es.length ∧ uni sz es) ∧ B (hi.isSome || mx.isNone) (K (.list ((es.take h.toNat).drop l.toNat) (cutTail tl (lo.map ρ) (hi.map ρ) (mx.map ρ) h m)) H) False
      | _, _, _ => False
    | some (none, _, sz, _, _), .arr o off len cap => match bnd 0 (lo.map ρ), bnd len (hi.map ρ), bnd cap (mx.map ρ) with
      | some l, some h, some m => (0 ≤ l ∧ l ≤ h ∧ h ≤ m ∧ m ≤ cap) ∧ B (hi.isSome || mx.isNone) (K (.arr o (if m.toNat = l.toNat then off else off + l.toNat * sz) (h.toNat - l.toNat) (m.toNat - l.toNat)) H) False
      | _, _, _ => False
    | _, _ => False
  | .fieldAddr s x f => match fldA P s f with
    | some (off, _, _) => match shiftP off (ρ x) with
      | some y => K y H
      | none => False
    | none => False
  | .field s x f => match fldA P s f, ρ x with
    | some (off, b, sz), .agg cs => match partA b off sz cs with
      | some y => K y H
      | none => False
    | _, _ => False
  | .indexAddr t x i => match elA P t, ρ i with
    | some (none, _, sz, _, _), .int _ n => match ρ x with
      | .list es _ => InL es sz n ∧ K (.iptr (es.getD n.toNat [])) H
      | .arr o off len _ => (0 ≤ n ∧ n < len) ∧ K (.ptr o (off + n.toNat * sz)) H
      | _ => False
    | some (some m, _, sz, _, _), .int _ n => B (decide (0 ≤ n) && decide (n < m)) (match shiftP (n.toNat * sz) (ρ x) with
      | some y => K y H
      | none => False) False
    | _, _ => False
  | .index t x i => match elA P t, ρ x, ρ i with
    | some (some m, b, sz, _, _), .agg cs, .int _ n => B (decide (0 ≤ n) && decide (n < m)) (match partA b (n.toNat * sz) sz cs with
      | some y => K y H
      | none => False) False
    | _, _, _ => False
  | .extract t i => match ρ t with
    | .tup vs => match vs[i]? with
      | some y => K y H
      | none => False
    | _ => False
  | _ => False

theorem opc_sound {P : Program} {gl : Glob} {op : Op} {m : Nat} {ρ : Operand → PV} {H : Heap} {K : PV → Heap → Prop} (h : opc br P op m ρ H K) : opw P gl op m ρ H K ∧ opwD P gl op m ρ H K := by
  have main : ∀ {op : Op}, opc br P op m ρ H K → opw P gl op m ρ H K := by
    intro op h
    cases op <;> try exact h
    case pick c a b =>
      simp only [opc] at h
      simp only [opw]
      split at h
      · rename_i t ht; rw [ht]; simp only
        cases t
        · exact h
        · exact h
      · exact h.elim
    case buildSlice t len parts =>
      simp only [opc] at h
      simp only [opw]
      split at h
      · rename_i he; rw [he]; simp only
        split at h
        · rename_i hz; rw [hz]; simp only
          obtain ⟨h1, h2⟩ := br_false h
          simp only [Bool.and_eq_true, beq_iff_eq, bne_iff_ne, decide_eq_true_eq] at h1
          exact ⟨h1.1.1, h1.1.2, h1.2, h2⟩
        · exact h.elim
      · exact h.elim
    case load t a =>
      simp only [opc] at h
      simp only [opw]
      split at h
      · rename_i cs hb
        obtain ⟨b, sz, y, h1, h2, h3⟩ := loadc_sound h
        have e : szT P t = sz := by unfold szT; rw [h1]
        rw [hb, h1]; simp only [h2]
        split at h3
        · exact ⟨rfl, h3⟩
        · obtain ⟨h4, h5⟩ := br_false h3
          rw [e] at h4
          exact ⟨h4, h5⟩
      · exact h.elim
    case store t a x =>
      simp only [opc] at h
      simp only [opw]
      split at h
      · rename_i h1 h2 h3; rw [h1, h2, h3]; simp only
        split at h
        · rename_i h4; rw [h4]; simp only
          obtain ⟨h5, h6⟩ := br_false h
          simp only [Bool.and_eq_true, beq_iff_eq, decide_eq_true_eq] at h5
          exact ⟨h5.1.1.1, h5.1.1.2, ⟨h5.1.2, h5.2⟩, h6⟩
        · exact h.elim
      · exact h.elim
    case binOp op t x y yt =>
      simp only [opc] at h
      simp only [opw]
      split at h
      · rename_i hn; rw [if_pos hn]; exact nilc_sound h
      · rename_i hn; rw [if_neg (by rw [hn]; exact Bool.false_ne_true)]; exact binc_sound h
    case makeFunc fn first caps =>
      simp only [opc] at h
      simp only [opw]
      split at h
      · split at h
        · rename_i hf; exact ⟨by cases first; simp_all, h⟩
        · exact h.elim
      · exact h.elim
    case makeSlice t l c =>
      simp only [opc] at h
      simp only [opw]
      split at h
      · rename_i h1 h2 h3; rw [h1, h2, h3]; simp only
        split at h
        · rename_i hz; rw [hz]; simp only
          obtain ⟨h5, h6⟩ := br_false h
          simp only [Bool.and_eq_true, beq_iff_eq, bne_iff_ne] at h5
          exact ⟨h5.1, h5.2, h6⟩
        · exact h.elim
      · exact h.elim
    case slice t x lo hi mx =>
      simp only [opc] at h
      simp only [opw]
      have hh : ∀ {X : Prop}, br (hi.isSome || mx.isNone) X False → (hi = none → mx = none) ∧ X := by
        intro X hX
        obtain ⟨h1, h2⟩ := br_false hX
        refine ⟨fun e => ?_, h2⟩
        subst e; simpa using h1
      split at h
      · rename_i h1 h2; rw [h1, h2]; simp only
        split at h
        · rename_i h3 h4 h5; rw [h3, h4, h5]; simp only
          obtain ⟨⟨a1, a2, a3, a4, a5⟩, h7⟩ := h
          obtain ⟨h8, h9⟩ := hh h7
          exact ⟨a1, a2, a3, a4, h8, a5, h9⟩
        · exact h.elim
      · rename_i h1 h2; rw [h1, h2]; simp only
        split at h
        · rename_i h3 h4 h5; rw [h3, h4, h5]; simp only
          obtain ⟨⟨a1, a2, a3, a4⟩, h7⟩ := h
          obtain ⟨h8, h9⟩ := hh h7
          exact ⟨a1, a2, a3, a4, h8, h9⟩
        · exact h.elim
      · exact h.elim
    case indexAddr t x i =>
      simp only [opc] at h
      simp only [opw]
      split at h
      · rename_i h1 h2; rw [h1, h2]; simp only
        split at h
        · rename_i h3; rw [h3]; simp only
          obtain ⟨h4, h5⟩ := h
          obtain ⟨h6, h7⟩ := h4.get
          rw [h6]
          exact ⟨h4.1, h7, h4.2.2.2, h5⟩
        · rename_i h3; rw [h3]; simp only
          exact ⟨h.1.1, h.1.2, h.2⟩
        · exact h.elim
      · rename_i h1 h2; rw [h1, h2]; simp only
        obtain ⟨h5, h6⟩ := br_false h
        simp only [Bool.and_eq_true, decide_eq_true_eq] at h5
        exact ⟨h5.1, h5.2, h6⟩
      · exact h.elim
    case index t x i =>
      simp only [opc] at h
      simp only [opw]
      split at h
      · rename_i h1 h2 h3; rw [h1, h2, h3]; simp only
        obtain ⟨h5, h6⟩ := br_false h
        simp only [Bool.and_eq_true, decide_eq_true_eq] at h5
        exact ⟨h5.1, h5.2, h6⟩
      · exact h.elim
    all_goals exact h.elim
  refine ⟨main h, ?_⟩
  cases op <;> first | exact main h | exact h.elim

end Go.AM

/-! AM, part 22: calls, regions and code that come out by computing. -/
namespace Go.AM
open Go

/-- what is known of a function -/
inductive Sp where
  | pure (s : List PV → (PV → Prop) → Prop)
  | read (s : List PV → Heap → (PV → Prop) → Prop)
  | heap (s : List PV → Heap → (PV → Heap → Prop) → Prop)
  | ext (s : List PV → Heap → (PV → Prop) → Prop)
  | mk (s : List PV → (List (List PV) → Prop) → Prop)
  | chg (s : List PV → Heap → (PV → Heap → Prop) → Prop)

def SpOk (P : Program) (gl : Glob) (f : Nat) : Sp → Prop
  | .pure s => ∀ args K, s args K → ∃ r, PCall P gl f args r ∧ K r
  | .read s => ∀ args H K, s args H K → ∃ r, ACalls P gl f args H (fun x H' => x = r ∧ H' = H) ∧ K r
  | .heap s => ∀ args H K, s args H K → ACalls P gl f args H K
  | .ext s => ∀ args H K, s args H K → ECalls P f args H (fun x _ => K x)
  | .mk s => ∀ args K, s args K → ∃ es, K es ∧ ∀ H, ACalls P gl f args H (fun x H' => (es = [] → x = .list [] .exact ∧ H' = H) ∧ (es ≠ [] → x = .list es (.tok H.length) ∧ H' = H ++ [.tok]))
  | .chg s => ∀ args H K, s args H K → ∃ r H', ACalls P gl f args H (fun x H1 => x = r ∧ H1 = H') ∧ K r H'

abbrev Tab := List (Nat × Sp)
def lookT (f : Nat) : Tab → Option Sp
  | [] => none
  | (g, s) :: T => match g == f with
    | true => some s
    | false => lookT f T

def TabOk (P : Program) (gl : Glob) (T : Tab) : Prop := ∀ f s, lookT f T = some s → SpOk P gl f s
theorem TabOk.nil (P : Program) (gl : Glob) : TabOk P gl [] := fun f s h => by simp [lookT] at h
theorem TabOk.cons {P : Program} {gl : Glob} {f : Nat} {s : Sp} {T : Tab} (h : SpOk P gl f s) (hT : TabOk P gl T) : TabOk P gl ((f, s) :: T) := by
  intro g s' hl
  simp only [lookT] at hl
  split at hl
  · rename_i he
    have : f = g := by simpa using he
    subst this; cases hl; exact h
  · exact hT g s' hl

def AppL (es ys : List (List PV)) (sz by_ : Nat) : Prop := uni sz es ∧ uni sz ys ∧ (es.length + ys.length) * by_ ≤ 140737488355328

/-- a source as it comes out by computing, and what is to be shown for it -/
def srcB (H : Heap) (sz : Nat) : PV → Option (Option Prop × List PV × Nat)
  | .list ys _ => some (none, ys.flatten, ys.length)
  | .arr o off len _ => match H[o]? with
    | some (.cells cs) => some (some (off + len * sz ≤ cs.length), (cs.drop off).take (len * sz), len)
    | _ => none
  | _ => none
def pre (p : Option Prop) (q : Prop) : Prop := match p with
  | none => q
  | some p => p ∧ q
theorem srcB_of {H : Heap} {sz n : Nat} {y : PV} {p : Option Prop} {ys : List PV} {q : Prop} (h : srcB H sz y = some (p, ys, n)) (k : pre p q) : srcA H sz y = some (ys, n) ∧ q := by
  unfold srcB at h
  split at h
  · cases h; exact ⟨rfl, k⟩
  · rename_i o off len cap
    split at h
    · rename_i cs ho
      cases h
      refine ⟨?_, k.2⟩
      simp only [srcA, ho]
      rw [if_pos k.1]
    · cases h
  · cases h

def builtc (B : Bool → Prop → Prop → Prop) (P : Program) (b : Builtin) (ts : Array TypeId) (args : List PV) (m : Nat) (dr : Bool) (H : Heap) (K : PV → Heap → Prop) : Prop :=
  match b with
  | .len => match ts[0]?, args with
    | some t, [x] => match lenA P t x with
      | some n => K (.int .i64 n) H
      | none => False
    | _, _ => False
  | .cap => match ts[0]?, args with
    | some t, [.arr _ _ _ cap] => B (isSlT P t) (K (.int .i64 cap) H) False
    | _, _ => False
  | .min => match foldMM mnI args with
    | some z => K z H
    | none => False
  | .max => match foldMM mxI args with
    | some z => K z H
    | none => False
  | .append => match appA P ts, args with
    | some (sz, by_, z), [.list es tl, y] => match m with
      | 2 => match es, tl, srcB H sz y with
        | [], .exact, some (p, ys, n) => pre p <| ys.length = n * sz ∧ n * by_ ≤ 140737488355328 ∧ 0 < n ∧ ∀ c, n ≤ c → K (.arr H.length 0 n c) (H ++ [.cells (ys ++ (List.replicate (c - n) z).flatten)])
        | _, _, _ => False
      | 1 => match y with
        | .list ys _ => AppL es ys sz by_ ∧ (ys.flatten.all PV.one = true ∧ ys ≠ []) ∧ match tl with
          | .exact => K (.list (es ++ ys) (.tok H.length)) (H ++ [.tok])
          | .tok o => match H[o]? with
            | some .tok => K (.list (es ++ ys) (.tok H.length)) (H.set o .dead ++ [.tok])
            | _ => False
          | .no => False
        | _ => False
      | 4 => match y with
        | .list ys _ => AppL es ys sz by_ ∧ ys.flatten.all PV.one = true ∧ (ys = [] → K (.list es tl) H) ∧ (ys ≠ [] → match tl with
          | .exact => K (.list (es ++ ys) (.tok H.length)) (H ++ [.tok])
          | .tok o => match H[o]? with
            | some .tok => K (.list (es ++ ys) (.tok H.length)) (H.set o .dead ++ [.tok])
            | _ => False
          | .no => False)
        | _ => False
      | 0 => match y, tl with
        | .list ys _, .exact => AppL es ys sz by_ ∧ K (.list (es ++ ys) .no) H
        | _, _ => False
      | _ => False
    | some (sz, by_, z), [.arr o off len cap, y] => match H[o]?, srcB H sz y with
      | some (.cells cs), some (p, ys, n) => pre p <| (len ≤ cap ∧ off + cap * sz ≤ cs.length ∧ ys.length = n * sz ∧ ys.all PV.one = true ∧ (len + n) * by_ ≤ 140737488355328) ∧
        match m with
        | 3 => len + n ≤ cap ∧ K (.arr o off (len + n) cap) (H.set o (.cells (over cs (off + len * sz) ys)))
        | _ => match dr with
          | true => False
          | false => (len + n ≤ cap → K (.arr o off (len + n) cap) (H.set o (.cells (over cs (off + len * sz) ys)))) ∧
            (cap < len + n → ∀ c, len + n ≤ c → K (.arr H.length 0 (len + n) c) (H ++ [.cells (((cs.drop off).take (len * sz)) ++ ys ++ (List.replicate (c - (len + n)) z).flatten)]))
      | _, _ => False
    | none, [.arr o off len cap, .int _ n] => match dr, m, appZ P ts, H[o]? with
      | false, 0, some (sz, by_, z), some (.cells cs) => (len ≤ cap ∧ off + cap * sz ≤ cs.length ∧ 0 ≤ n ∧ cap < len + n.toNat ∧ (len + n.toNat) * by_ ≤ 140737488355328) ∧
        ∀ c, len + n.toNat ≤ c → K (.arr H.length 0 (len + n.toNat) c) (H ++ [.cells (((cs.drop off).take (len * sz)) ++ (List.replicate (c - len) z).flatten)])
      | _, _, _, _ => False
    | _, _ => False
  | .copy => match ts[0]?, args with
    | some t, [.arr o off len _, y] => match elA P t with
      | some (none, _, sz, _, _) => match H[o]?, srcB H sz y with
        | some (.cells cs), some (p, ys, n) => pre p <| (off + len * sz ≤ cs.length ∧ ys.length = n * sz ∧ ys.all PV.one = true) ∧ K (.int .i64 (min n len : Nat)) (H.set o (.cells (over cs off (ys.take (min n len * sz)))))
        | _, _ => False
      | _ => False
    | _, _ => False
  | .clear => match ts[0]?, args with
    | some t, [.arr o off len _] => match elA P t with
      | some (none, _, sz, _, et) => match H[o]?, zeroA P et with
        | some (.cells cs), some z => B (z.length == sz && z.all PV.one) (off + len * sz ≤ cs.length ∧ K (.tup []) (H.set o (.cells (over cs off (List.replicate len z).flatten)))) False
        | _, _ => False
      | _ => False
    | _, _ => False
  | _ => False

theorem builtc_sound {P : Program} {b : Builtin} {ts : Array TypeId} {args : List PV} {m : Nat} {dr : Bool} {H : Heap} {K : PV → Heap → Prop} (h : builtc br P b ts args m dr H K) :
    builtinK P b ts args m H K ∧ (dr = true → b ≠ .append ∨ listFirst args = true ∨ m = 3) := by
  cases b <;> try exact h.elim
  case len => exact ⟨h, fun _ => .inl (fun e => by cases e)⟩
  case min => exact ⟨h, fun _ => .inl (fun e => by cases e)⟩
  case max => exact ⟨h, fun _ => .inl (fun e => by cases e)⟩
  case cap =>
    refine ⟨?_, fun _ => .inl (fun e => by cases e)⟩
    simp only [builtc] at h
    simp only [builtinK]
    split at h
    · rename_i h1; rw [h1]; simp only
      obtain ⟨h2, h3⟩ := br_false h
      exact ⟨isSlT_of h2, h3⟩
    · exact h.elim
  case copy =>
    refine ⟨?_, fun _ => .inl (fun e => by cases e)⟩
    simp only [builtc] at h
    simp only [builtinK]
    split at h
    · rename_i h1; rw [h1]; simp only
      split at h
      · rename_i h2; rw [h2]; simp only
        split at h
        · rename_i h3 h4
          obtain ⟨h5, h⟩ := srcB_of h4 h
          rw [h3, h5]; simp only
          exact ⟨h.1.1, h.1.2.1, h.1.2.2, h.2⟩
        · exact h.elim
      · exact h.elim
    · exact h.elim
  case clear =>
    refine ⟨?_, fun _ => .inl (fun e => by cases e)⟩
    simp only [builtc] at h
    simp only [builtinK]
    split at h
    · rename_i h1; rw [h1]; simp only
      split at h
      · rename_i h2; rw [h2]; simp only
        split at h
        · rename_i h3 h4; rw [h3, h4]; simp only
          obtain ⟨h5, h6⟩ := br_false h
          simp only [Bool.and_eq_true, beq_iff_eq] at h5
          exact ⟨h5.1, h5.2, h6⟩
        · exact h.elim
      · exact h.elim
    · exact h.elim
  case append =>
    simp only [builtc] at h
    simp only [builtinK]
    split at h
    · rename_i h1; rw [h1]; simp only
      refine ⟨?_, fun _ => .inr (.inl rfl)⟩
      split at h
      · split at h
        · rename_i h2; simp only
          refine ⟨trivial, trivial, ?_⟩
          obtain ⟨h5, h⟩ := srcB_of h2 h
          rw [h5]; exact h
        · exact h.elim
      · split at h
        · obtain ⟨⟨a1, a2, a3⟩, ⟨b1, b2⟩, h⟩ := h
          refine ⟨a1, a2, a3, b1, b2, ?_⟩
          split at h
          · exact h
          · split at h
            · rename_i ho; exact ⟨ho, h⟩
            · exact h.elim
          · exact h.elim
        · exact h.elim
      · split at h
        · obtain ⟨⟨a1, a2, a3⟩, b1, b2, h⟩ := h
          refine ⟨a1, a2, a3, b1, b2, fun k => ?_⟩
          have h := h k
          split at h
          · exact h
          · split at h
            · rename_i ho; exact ⟨ho, h⟩
            · exact h.elim
          · exact h.elim
        · exact h.elim
      · split at h
        · obtain ⟨⟨a1, a2, a3⟩, h⟩ := h
          exact ⟨a1, a2, a3, rfl, h⟩
        · exact h.elim
      · exact h.elim
    · rename_i h1; rw [h1]; simp only
      split at h
      · rename_i h3 h4
        obtain ⟨h5, h⟩ := srcB_of h4 h
        rw [h3, h5]; simp only
        obtain ⟨ha, h⟩ := h
        split at h
        · exact ⟨⟨ha.1, ha.2.1, ha.2.2.1, ha.2.2.2.1, ha.2.2.2.2, h⟩, fun _ => .inr (.inr rfl)⟩
        · rename_i hm
          split at h
          · exact h.elim
          · refine ⟨⟨ha.1, ha.2.1, ha.2.2.1, ha.2.2.2.1, ha.2.2.2.2, ?_⟩, fun e => by cases e⟩
            split
            · exact absurd rfl hm
            · exact h
      · exact h.elim
    · rename_i h1; rw [h1]; simp only
      split at h
      · rename_i h2 h3; rw [h2, h3]; simp only
        exact ⟨⟨h.1.1, h.1.2.1, h.1.2.2.1, h.1.2.2.2.1, h.1.2.2.2.2, trivial, h.2⟩, fun e => by cases e⟩
      · exact h.elim
    · exact h.elim

def callc (B : Bool → Prop → Prop → Prop) (P : Program) (T : Tab) (c : Call) (m : Nat) (dr : Bool) (ρ : Operand → PV) (H : Heap) (K : PV → Heap → Prop) : Prop :=
  match c.callee with
  | .value f => match ρ f with
    | .fn k caps => match lookT k T with
      | some (.pure s) => B (callable P k) (s (c.args.toList.map ρ ++ caps) (fun x => K x H)) False
      | some (.read s) => B (callable P k) (match dr, m with
        | false, _ => s (c.args.toList.map ρ ++ caps) H (fun x => K x H)
        | true, 5 => s (c.args.toList.map ρ ++ caps) H (fun x => K x H)
        | true, _ => False) False
      | some (.heap s) => B (callable P k) (match dr with
        | false => s (c.args.toList.map ρ ++ caps) H K
        | true => False) False
      | some (.ext s) => match dr with
        | false => s (c.args.toList.map ρ ++ caps) H (fun x => K x H)
        | true => False
      | some (.mk s) => B (callable P k) (match dr, m with
        | false, _ => s (c.args.toList.map ρ ++ caps) (fun es => (es = [] → K (.list [] .exact) H) ∧ (es ≠ [] → K (.list es (.tok H.length)) (H ++ [.tok])))
        | true, 6 => s (c.args.toList.map ρ ++ caps) (fun es => (es = [] → K (.list [] .exact) H) ∧ (es ≠ [] → K (.list es (.tok H.length)) (H ++ [.tok])))
        | true, _ => False) False
      | some (.chg s) => B (callable P k) (match dr, m with
        | false, _ => s (c.args.toList.map ρ ++ caps) H K
        | true, 7 => s (c.args.toList.map ρ ++ caps) H K
        | true, _ => False) False
      | none => False
    | _ => False
  | .builtin b => builtc B P b c.argTypes (c.args.toList.map ρ) m dr H K
  | _ => False

theorem callc_sound {P : Program} {gl : Glob} {T : Tab} (hT : TabOk P gl T) {c : Call} {m : Nat} {dr : Bool} {ρ : Operand → PV} {H : Heap} {K : PV → Heap → Prop} (h : callc br P T c m dr ρ H K) :
    (dr = false → opw P gl (.call c) m ρ H K) ∧ (dr = true → opwD P gl (.call c) m ρ H K) := by
  unfold callc at h
  have hop : opw P gl (.call c) m ρ H K = callK P gl c m ρ H K := rfl
  rw [hop]
  unfold callK
  simp only [opwD]
  split at h
  · rename_i f hf
    rw [hf]; simp only
    split at h
    · rename_i k caps hk
      rw [hk]; simp only
      split at h
      · rename_i s hs
        obtain ⟨h1, h2⟩ := br_false h
        obtain ⟨r, k1, k2⟩ := hT k _ hs _ _ h2
        refine ⟨fun _ => .inl ⟨h1, (k1 H).mono fun x H' e => by rw [e.1, e.2]; exact k2⟩, fun _ => ⟨h1, ?_⟩⟩
        unfold PCallK
        by_cases h6 : m = 6
        · rw [if_pos h6]; exact ⟨r, H, k1 H, fun _ _ k => k, k2⟩
        rw [if_neg h6]
        by_cases h7 : m = 7
        · rw [if_pos h7]; exact ⟨r, H, k1 H, k2⟩
        rw [if_neg h7]
        refine ⟨r, ?_, k2⟩
        split
        · exact k1 H
        · exact k1
      · rename_i s hs
        obtain ⟨h1, h2⟩ := br_false h
        split at h2
        · obtain ⟨r, k1, k2⟩ := hT k _ hs _ _ _ h2
          exact ⟨fun _ => .inl ⟨h1, k1.mono fun x H' e => by rw [e.1, e.2]; exact k2⟩, fun e => by cases e⟩
        · obtain ⟨r, k1, k2⟩ := hT k _ hs _ _ _ h2
          exact ⟨fun e => (by cases e), fun _ => ⟨h1, by unfold PCallK; rw [if_neg (by decide), if_neg (by decide)]; exact ⟨r, by rw [if_pos rfl]; exact k1, k2⟩⟩⟩
        · exact h2.elim
      · rename_i s hs
        obtain ⟨h1, h2⟩ := br_false h
        split at h2
        · exact ⟨fun _ => .inl ⟨h1, hT k _ hs _ _ _ h2⟩, fun e => by cases e⟩
        · exact h2.elim
      · rename_i s hs
        split at h
        · exact ⟨fun _ => .inr (hT k _ hs _ _ _ h), fun e => by cases e⟩
        · exact h.elim
      · rename_i s hs
        obtain ⟨h1, h2⟩ := br_false h
        have main : ∀ es : List (List PV), ((es = [] → K (.list [] .exact) H) ∧ (es ≠ [] → K (.list es (.tok H.length)) (H ++ [.tok]))) → (∀ H, ACalls P gl k (c.args.toList.map ρ ++ caps) H (fun x H' => (es = [] → x = .list [] .exact ∧ H' = H) ∧ (es ≠ [] → x = .list es (.tok H.length) ∧ H' = H ++ [.tok]))) →
            ∃ r H', ACalls P gl k (c.args.toList.map ρ ++ caps) H (fun x H1 => x = r ∧ H1 = H') ∧ keeps H H' ∧ K r H' := by
          intro es hk ha
          by_cases h0 : es = []
          · exact ⟨_, _, (ha H).mono fun x H' e => e.1 h0, fun _ _ k => k, hk.1 h0⟩
          · exact ⟨_, _, (ha H).mono fun x H' e => e.2 h0, keeps_snoc H _, hk.2 h0⟩
        split at h2
        · obtain ⟨es, k2, k1⟩ := hT k _ hs _ _ h2
          obtain ⟨r, H', a1, _, a2⟩ := main es k2 k1
          exact ⟨fun _ => .inl ⟨h1, a1.mono fun x H1 e => by rw [e.1, e.2]; exact a2⟩, fun e => by cases e⟩
        · obtain ⟨es, k2, k1⟩ := hT k _ hs _ _ h2
          exact ⟨fun e => (by cases e), fun _ => ⟨h1, by unfold PCallK; rw [if_pos rfl]; exact main es k2 k1⟩⟩
        · exact h2.elim
      · rename_i s hs
        obtain ⟨h1, h2⟩ := br_false h
        split at h2
        · obtain ⟨r, H', k1, k2⟩ := hT k _ hs _ _ _ h2
          exact ⟨fun _ => .inl ⟨h1, k1.mono fun x H1 e => by rw [e.1, e.2]; exact k2⟩, fun e => by cases e⟩
        · obtain ⟨r, H', k1, k2⟩ := hT k _ hs _ _ _ h2
          exact ⟨fun e => (by cases e), fun _ => ⟨h1, by unfold PCallK; rw [if_neg (by decide), if_pos rfl]; exact ⟨r, H', k1, k2⟩⟩⟩
        · exact h2.elim
      · exact h.elim
    · exact h.elim
  · rename_i b hb
    rw [hb]; simp only
    obtain ⟨h1, h2⟩ := builtc_sound h
    exact ⟨fun _ => h1, fun e => ⟨h2 e, h1⟩⟩
  · exact h.elim

def regc (B : Bool → Prop → Prop → Prop) (P : Program) (gl : Glob) (T : Tab) (hn : Oper → Nat) (dr : Bool) (ops : Array Oper) : List Oper → Env → Heap → (Env → Heap → Prop) → Prop
  | [], e, H, K => K e H
  | o :: l, e, H, K =>
    match o.guard with
    | none => match o.op with
      | .call c => callc B P T c (hn o) dr (ev gl e) H fun x H' => regc B P gl T hn dr ops l (upd e o.dst x) H' K
      | op => opc B P op (hn o) (ev gl e) H fun x H' => regc B P gl T hn dr ops l (upd e o.dst x) H' K
    | some (j, want) => match (ops[j]?).bind (·.dst) with
      | some d => match e d with
        | .bool b => B (b == want)
            (match o.op with
            | .call c => callc B P T c (hn o) dr (ev gl (upd e (some d) (.bool want))) H fun x H' => regc B P gl T hn dr ops l (upd (upd e (some d) (.bool want)) o.dst x) H' K
            | op => opc B P op (hn o) (ev gl (upd e (some d) (.bool want))) H fun x H' => regc B P gl T hn dr ops l (upd (upd e (some d) (.bool want)) o.dst x) H' K)
            (regc B P gl T hn dr ops l (upd (upd e (some d) (.bool !want)) o.dst (.tup [])) H K)
        | .tup [] => regc B P gl T hn dr ops l (upd e o.dst (.tup [])) H K
        | _ => False
      | none => False

theorem upd_self {e : Env} {d : Nat} {x : PV} (h : e d = x) : upd e (some d) x = e := by
  funext k; simp only [upd]; split
  · rename_i hk; rw [hk, h]
  · rfl

theorem opw_call {P : Program} {gl : Glob} {c : Call} {m : Nat} {ρ : Operand → PV} {H : Heap} {K : PV → Heap → Prop} : opw P gl (.call c) m ρ H K = callK P gl c m ρ H K := rfl

theorem step_sound {P : Program} {gl : Glob} {T : Tab} (hT : TabOk P gl T) {op : Op} {m : Nat} {dr : Bool} {ρ : Operand → PV} {H : Heap} {K : PV → Heap → Prop}
    (h : match op with | .call c => callc br P T c m dr ρ H K | op => opc br P op m ρ H K) : (dr = false → opw P gl op m ρ H K) ∧ (dr = true → opwD P gl op m ρ H K) := by
  cases op <;> first | exact callc_sound hT h | exact ⟨fun _ => (opc_sound h).1, fun _ => (opc_sound h).2⟩

theorem intK_mono {op : BinOp} {k k' : IntKind} {a b : Int} {K K' : PV → Prop} (h : intK op k a k' b K) (hk : ∀ x, K x → K' x) : intK op k a k' b K' := by
  cases op <;> simp only [intK] at h ⊢
  case quo => exact ⟨h.1, h.2.1, hk _ h.2.2⟩
  case rem => exact ⟨h.1, h.2.1, hk _ h.2.2⟩
  all_goals exact ⟨h.1, hk _ h.2⟩

theorem binK_mono {P : Program} {op : BinOp} {t : TypeId} {x y : PV} {K K' : PV → Prop} (h : binK P op t x y K) (hk : ∀ x, K x → K' x) : binK P op t x y K' := by
  unfold binK at h
  split at h
  · exact intK_mono h hk
  · unfold binK
    cases op <;> first | exact h.elim | exact hk _ h
  · refine ⟨h.1, ?_⟩
    have h := h.2
    cases op <;> first | exact h.elim | exact hk _ h
  · refine ⟨h.1, ?_⟩
    have h := h.2
    cases op <;> first | exact h.elim | exact hk _ h
  · refine ⟨h.1, ?_⟩
    have h := h.2
    cases op <;> first | exact h.elim | exact hk _ h
  · refine ⟨h.1, ?_⟩
    have h := h.2
    cases op <;> first | exact h.elim | exact hk _ h
  · rename_i xs ys
    obtain ⟨h1, h2, h3, h4, h5⟩ := h
    refine ⟨h1, h2, h3, h4, ?_⟩
    split at h5
    · rename_i he; (try rw [he]); (try simp only)
      cases op <;> first | exact h5.elim | exact hk _ h5
    · exact h5.elim
  · exact h.elim

theorem nilK_mono {P : Program} {op : BinOp} {t : TypeId} {x : PV} {K K' : PV → Prop} (h : nilK P op t x K) (hk : ∀ x, K x → K' x) : nilK P op t x K' := by
  refine ⟨h.1, ?_⟩
  have h := h.2
  split at h
  · cases op <;> first | exact h.elim | exact fun b hb => hk _ (h b hb)
  · cases op <;> first | exact h.elim | exact hk _ h
  · exact h.elim

theorem builtinK_mono {P : Program} {b : Builtin} {ts : Array TypeId} {args : List PV} {m : Nat} {H : Heap} {K K' : PV → Heap → Prop} (h : builtinK P b ts args m H K) (hk : ∀ x H', K x H' → K' x H') : builtinK P b ts args m H K' := by
  cases b <;> try exact h.elim
  case len =>
    simp only [builtinK] at h ⊢
    split at h
    · rename_i h1; (try rw [h1]); (try simp only)
      split at h
      · rename_i h2; (try rw [h2]); exact hk _ _ h
      · exact h.elim
    · exact h.elim
  case min =>
    simp only [builtinK] at h ⊢
    split at h
    · rename_i h2; (try rw [h2]); exact hk _ _ h
    · exact h.elim
  case max =>
    simp only [builtinK] at h ⊢
    split at h
    · rename_i h2; (try rw [h2]); exact hk _ _ h
    · exact h.elim
  case cap =>
    simp only [builtinK] at h ⊢
    split at h
    · rename_i h1; (try rw [h1]); exact ⟨h.1, hk _ _ h.2⟩
    · exact h.elim
  case copy =>
    simp only [builtinK] at h ⊢
    split at h
    · rename_i h1; (try rw [h1]); (try simp only)
      split at h
      · rename_i h2; (try rw [h2]); (try simp only)
        split at h
        · rename_i h3 h4; (try rw [h3, h4]); exact ⟨h.1, h.2.1, h.2.2.1, hk _ _ h.2.2.2⟩
        · exact h.elim
      · exact h.elim
    · exact h.elim
  case clear =>
    simp only [builtinK] at h ⊢
    split at h
    · rename_i h1; (try rw [h1]); (try simp only)
      split at h
      · rename_i h2; (try rw [h2]); (try simp only)
        split at h
        · rename_i h3 h4; (try rw [h3, h4]); exact ⟨h.1, h.2.1, h.2.2.1, hk _ _ h.2.2.2⟩
        · exact h.elim
      · exact h.elim
    · exact h.elim
  case append =>
    simp only [builtinK] at h ⊢
    split at h
    · rename_i h1; (try rw [h1]); (try simp only)
      split at h
      · obtain ⟨h2, h3, h4⟩ := h
        refine ⟨h2, h3, ?_⟩
        split at h4
        · exact ⟨h4.1, h4.2.1, h4.2.2.1, fun c hc => hk _ _ (h4.2.2.2 c hc)⟩
        · exact h4.elim
      · rename_i hm
        split at h
        · obtain ⟨a1, a2, a3, h⟩ := h
          refine ⟨a1, a2, a3, ?_⟩
          split at h
          · refine ⟨h.1, h.2.1, ?_⟩
            have h := h.2.2
            split at h
            · exact hk _ _ h
            · exact ⟨h.1, hk _ _ h.2⟩
            · exact h.elim
          · refine ⟨h.1, fun k => hk _ _ (h.2.1 k), fun k => ?_⟩
            have h := h.2.2 k
            split at h
            · exact hk _ _ h
            · exact ⟨h.1, hk _ _ h.2⟩
            · exact h.elim
          · exact ⟨h.1, hk _ _ h.2⟩
        · exact h.elim
    · rename_i h1; (try rw [h1]); (try simp only)
      split at h
      · rename_i h3 h4; (try rw [h3, h4])
        refine ⟨h.1, h.2.1, h.2.2.1, h.2.2.2.1, h.2.2.2.2.1, ?_⟩
        have h := h.2.2.2.2.2
        split at h
        · exact ⟨h.1, hk _ _ h.2⟩
        · exact ⟨fun q => hk _ _ (h.1 q), fun q c hc => hk _ _ (h.2 q c hc)⟩
      · exact h.elim
    · rename_i h1; (try rw [h1]); (try simp only)
      split at h
      · rename_i h3 h4; (try rw [h3, h4])
        exact ⟨h.1, h.2.1, h.2.2.1, h.2.2.2.1, h.2.2.2.2.1, h.2.2.2.2.2.1, fun c hc => hk _ _ (h.2.2.2.2.2.2 c hc)⟩
      · exact h.elim
    · exact h.elim

theorem opw_mono {P : Program} {gl : Glob} {op : Op} {m : Nat} {ρ : Operand → PV} {H : Heap} {K K' : PV → Heap → Prop} (h : opw P gl op m ρ H K) (hk : ∀ x H', K x H' → K' x H') : opw P gl op m ρ H K' := by
  cases op <;> try exact h.elim
  case move x => exact hk _ _ h
  case assign x => exact hk _ _ h
  case call c =>
    rw [opw_call] at h ⊢
    unfold callK at h ⊢
    split at h
    · split at h
      · rcases h with h | h
        · exact .inl ⟨h.1, h.2.mono hk⟩
        · refine .inr fun g w vs hS hR => ?_
          obtain ⟨v, x, h1, h2, h3⟩ := h g w vs hS hR
          exact ⟨v, x, h1, h2, hk _ _ h3⟩
      · exact h.elim
    · exact builtinK_mono h hk
    · exact h.elim
  case binOp =>
    simp only [opw] at h ⊢
    split at h
    · rename_i hc; (try rw [if_pos hc]); exact nilK_mono h fun x => hk x H
    · rename_i hc; (try rw [if_neg hc]); exact binK_mono h fun x => hk x H
  case nilCheck x =>
    simp only [opw] at h ⊢
    split at h <;> first | exact h.elim | (rename_i h1; (try rw [h1]); exact hk _ _ h)
  case pick =>
    simp only [opw] at h ⊢
    split at h <;> first | exact h.elim | (rename_i h1; (try rw [h1]); exact hk _ _ h)
  case alloc =>
    simp only [opw] at h ⊢
    split at h <;> first | exact h.elim | (rename_i h1; (try rw [h1]); exact hk _ _ h)
  case box =>
    simp only [opw] at h ⊢
    split at h <;> first | exact h.elim | (rename_i h1; (try rw [h1]); exact hk _ _ h)
  case build =>
    simp only [opw] at h ⊢
    split at h <;> first | exact h.elim | (rename_i h1; (try rw [h1]); exact hk _ _ h)
  case unOp =>
    simp only [opw] at h ⊢
    split at h <;> first | exact h.elim | (rename_i h1; (try rw [h1]); exact hk _ _ h)
  case convert =>
    simp only [opw] at h ⊢
    split at h <;> first | exact h.elim | (rename_i h1; (try rw [h1]); exact hk _ _ h)
  case makeFunc =>
    simp only [opw] at h ⊢
    split at h <;> first | exact h.elim | exact ⟨h.1, hk _ _ h.2⟩
  case buildSlice =>
    simp only [opw] at h ⊢
    split at h
    · rename_i h1; (try rw [h1]); (try simp only)
      split at h
      · rename_i h2; (try rw [h2])
        refine ⟨h.1, h.2.1, h.2.2.1, ?_⟩
        have h := h.2.2.2
        split at h
        · rename_i h3; (try rw [h3]); exact hk _ _ h
        · exact h.elim
      · exact h.elim
    · exact h.elim
  case load =>
    simp only [opw] at h ⊢
    split at h
    · rename_i h1 h2; (try rw [h1, h2]); (try simp only)
      split at h
      · rename_i h3; (try rw [h3]); exact ⟨h.1, hk _ _ h.2⟩
      · exact h.elim
    · exact h.elim
  case store =>
    simp only [opw] at h ⊢
    split at h
    · rename_i h1 h2 h3; (try rw [h1, h2, h3]); (try simp only)
      split at h
      · rename_i h4; (try rw [h4]); exact ⟨h.1, h.2.1, h.2.2.1, hk _ _ h.2.2.2⟩
      · exact h.elim
    · exact h.elim
  case makeSlice =>
    simp only [opw] at h ⊢
    split at h
    · rename_i h1 h2 h3; (try rw [h1, h2, h3]); (try simp only)
      split at h
      · rename_i h4; (try rw [h4]); exact ⟨h.1, h.2.1, h.2.2.1, h.2.2.2.1, h.2.2.2.2.1, h.2.2.2.2.2.1, hk _ _ h.2.2.2.2.2.2⟩
      · exact h.elim
    · exact h.elim
  case slice =>
    simp only [opw] at h ⊢
    split at h
    · rename_i h1 h2; (try rw [h1, h2]); (try simp only)
      split at h
      · rename_i h3 h4 h5; (try rw [h3, h4, h5]); exact ⟨h.1, h.2.1, h.2.2.1, h.2.2.2.1, h.2.2.2.2.1, h.2.2.2.2.2.1, hk _ _ h.2.2.2.2.2.2⟩
      · exact h.elim
    · rename_i h1 h2; (try rw [h1, h2]); (try simp only)
      split at h
      · rename_i h3 h4 h5; (try rw [h3, h4, h5]); exact ⟨h.1, h.2.1, h.2.2.1, h.2.2.2.1, h.2.2.2.2.1, hk _ _ h.2.2.2.2.2⟩
      · exact h.elim
    · exact h.elim
  case fieldAddr =>
    simp only [opw] at h ⊢
    split at h
    · rename_i h1; (try rw [h1]); (try simp only)
      split at h
      · rename_i h2; (try rw [h2]); exact hk _ _ h
      · exact h.elim
    · exact h.elim
  case field =>
    simp only [opw] at h ⊢
    split at h
    · rename_i h1 h2; (try rw [h1, h2]); (try simp only)
      split at h
      · rename_i h3; (try rw [h3]); exact hk _ _ h
      · exact h.elim
    · exact h.elim
  case indexAddr =>
    simp only [opw] at h ⊢
    split at h
    · rename_i h1 h2; (try rw [h1, h2]); (try simp only)
      split at h
      · rename_i h3; (try rw [h3]); refine ⟨h.1, ?_⟩
        have h := h.2
        split at h
        · rename_i h4; (try rw [h4]); exact ⟨h.1, h.2.1, hk _ _ h.2.2⟩
        · exact h.elim
      · rename_i h3; (try rw [h3]); exact ⟨h.1, h.2.1, hk _ _ h.2.2⟩
      · exact h.elim
    · rename_i h1 h2; (try rw [h1, h2]); refine ⟨h.1, h.2.1, ?_⟩
      have h := h.2.2
      split at h
      · rename_i h3; (try rw [h3]); exact hk _ _ h
      · exact h.elim
    · exact h.elim
  case index =>
    simp only [opw] at h ⊢
    split at h
    · rename_i h1 h2 h3; (try rw [h1, h2, h3]); refine ⟨h.1, h.2.1, ?_⟩
      have h := h.2.2
      split at h
      · rename_i h4; (try rw [h4]); exact hk _ _ h
      · exact h.elim
    · exact h.elim
  case extract =>
    simp only [opw] at h ⊢
    split at h
    · rename_i h1; (try rw [h1]); (try simp only)
      split at h
      · rename_i h2; (try rw [h2]); exact hk _ _ h
      · exact h.elim
    · exact h.elim


theorem opwD_eq {P : Program} {gl : Glob} {op : Op} (hc : ∀ c, op ≠ .call c) : opwD P gl op = opw P gl op := by
  cases op <;> first | rfl | exact absurd rfl (hc _)

theorem opwD_mono {P : Program} {gl : Glob} {op : Op} {m : Nat} {ρ : Operand → PV} {H : Heap} {K K' : PV → Heap → Prop} (h : opwD P gl op m ρ H K) (hk : ∀ x H', K x H' → K' x H') : opwD P gl op m ρ H K' := by
  by_cases hc : ∃ c, op = .call c
  · obtain ⟨c, rfl⟩ := hc
    simp only [opwD] at h ⊢
    split at h
    · split at h
      · obtain ⟨h1, h⟩ := h
        refine ⟨h1, ?_⟩
        unfold PCallK at h ⊢
        by_cases h6 : m = 6
        · rw [if_pos h6] at h ⊢
          obtain ⟨r, H', h2, h3, h4⟩ := h
          exact ⟨r, H', h2, h3, hk _ _ h4⟩
        · rw [if_neg h6] at h ⊢
          by_cases h7 : m = 7
          · rw [if_pos h7] at h ⊢
            obtain ⟨r, H', h2, h3⟩ := h
            exact ⟨r, H', h2, hk _ _ h3⟩
          · rw [if_neg h7] at h ⊢
            obtain ⟨r, h2, h3⟩ := h
            exact ⟨r, h2, hk _ _ h3⟩
      · exact h.elim
    · exact ⟨h.1, builtinK_mono h.2 hk⟩
    · exact h.elim
  · have hc : ∀ c, op ≠ .call c := fun c e => hc ⟨c, e⟩
    rw [opwD_eq hc] at h ⊢
    exact opw_mono h hk

theorem regc_sound {P : Program} {gl : Glob} {T : Tab} (hT : TabOk P gl T) {hn : Oper → Nat} {ops : Array Oper} {K : Env → Heap → Prop} : ∀ (l : List Oper) (e : Env) (H : Heap),
    regc br P gl T hn false ops l e H K → regw P gl hn ops l e H K
  | [], e, H, h => h
  | o :: l, e, H, h => by
    have ih := fun e H => regc_sound (gl := gl) hT (hn := hn) (ops := ops) (K := K) l e H
    unfold regc at h
    unfold regw
    split at h
    · rename_i hg
      (try rw [hg])
      exact opw_mono ((step_sound (m := hn o) (dr := false) hT h).1 rfl) fun x H' k => ih _ _ k
    · rename_i j want hg
      (try rw [hg])
      (try simp only)
      split at h
      · rename_i d hd
        (try rw [hd])
        (try simp only)
        split at h
        · rename_i b hb
          (try rw [hb])
          (try simp only)
          obtain ⟨h1, h2⟩ := br_iff.1 h
          constructor
          · intro hw
            subst hw
            have h1 := h1 (by simp)
            rw [upd_self hb] at h1
            exact opw_mono ((step_sound (m := hn o) (dr := false) hT h1).1 rfl) fun x H' k => ih _ _ k
          · intro hw
            have h2 := h2 (by subst hw; cases want <;> rfl)
            rw [hw] at hb
            rw [upd_self hb] at h2
            exact ih _ _ h2
        · rename_i hb
          (try rw [hb])
          exact ih _ _ h
        · exact h.elim
      · exact h.elim

theorem regc_sound_draw {P : Program} {gl : Glob} {T : Tab} (hT : TabOk P gl T) {hn : Oper → Nat} {ops : Array Oper} {K : Env → Heap → Prop} : ∀ (l : List Oper) (e : Env) (H : Heap),
    regc br P gl T hn true ops l e H K → regd P gl hn ops l e H K
  | [], e, H, h => h
  | o :: l, e, H, h => by
    have ih := fun e H => regc_sound_draw (gl := gl) hT (hn := hn) (ops := ops) (K := K) l e H
    unfold regc at h
    unfold regd
    split at h
    · rename_i hg
      (try rw [hg])
      exact opwD_mono ((step_sound (m := hn o) (dr := true) hT h).2 rfl) fun x H' k => ih _ _ k
    · rename_i j want hg
      (try rw [hg])
      (try simp only)
      split at h
      · rename_i d hd
        (try rw [hd])
        (try simp only)
        split at h
        · rename_i b hb
          (try rw [hb])
          (try simp only)
          obtain ⟨h1, h2⟩ := br_iff.1 h
          constructor
          · intro hw
            subst hw
            have h1 := h1 (by simp)
            rw [upd_self hb] at h1
            exact opwD_mono ((step_sound (m := hn o) (dr := true) hT h1).2 rfl) fun x H' k => ih _ _ k
          · intro hw
            have h2 := h2 (by subst hw; cases want <;> rfl)
            rw [hw] at hb
            rw [upd_self hb] at h2
            exact ih _ _ h2
        · rename_i hb
          (try rw [hb])
          exact ih _ _ h
        · exact h.elim
      · exact h.elim

end Go.AM

/-! AM, part 23: code that comes out by computing; loops; functions. -/
namespace Go.AM
open Go

abbrev LSp := Env → Heap → (Ex → Env → Heap → Prop) → Prop
abbrev LTab := List (List Nat × LSp)
def lookL (p : List Nat) : LTab → Option LSp
  | [] => none
  | (q, s) :: L => match p == q with
    | true => some s
    | false => lookL p L

/-- the piece of code at a place -/
def sub : List Nat → Code → Option Code
  | [], c => some c
  | i :: p, .seq x y => match i with
    | 0 => sub p x
    | _ => sub p y
  | i :: p, .cond _ x y => match i with
    | 0 => sub p x
    | _ => sub p y
  | _ :: p, .block _ x => sub p x
  | _ :: p, .loop x => sub p x
  | _ :: p, .scope x => sub p x
  | _, _ => none

/-- the slot that a branch looked at is known behind it -/
def setB (e : Env) (c : Operand) (b : Bool) : Env := match c with
  | .tmp t => upd e (some t) (.bool b)
  | _ => e

def wpc (B : Bool → Prop → Prop → Prop) (P : Program) (gl : Glob) (T : Tab) (L : LTab) (hn : Oper → Nat) : Code → List Nat → Env → Heap → (Ex → Env → Heap → Prop) → Prop
  | .skip, _, e, H, Q => Q .normal e H
  | .label _, _, e, H, Q => Q .normal e H
  | .exit id, _, e, H, Q => Q (.exit id) e H
  | .ret, _, e, H, Q => Q .ret e H
  | .region _ ops d, p, e, H, Q => match lookL p L with
    | some s => s e H Q
    | none => match d with
      | false => regc B P gl T hn false ops ops.toList e H (Q .normal)
      | true => B (okOrder ops hn) (regc B P gl T hn true ops ops.toList e H (Q .normal)) False
  | .seq x y, p, e, H, Q => match lookL p L with
    | some s => s e H Q
    | none => wpc B P gl T L hn x (p ++ [0]) e H fun ex e' H' => match ex with
      | .normal => wpc B P gl T L hn y (p ++ [1]) e' H' Q
      | .exit i => Q (.exit i) e' H'
      | .ret => Q .ret e' H'
  | .cond c x y, p, e, H, Q => match lookL p L with
    | some s => s e H Q
    | none => match ev gl e c with
      | .bool b => B b (wpc B P gl T L hn x (p ++ [0]) (setB e c true) H Q) (wpc B P gl T L hn y (p ++ [1]) (setB e c false) H Q)
      | _ => False
  | .block id x, p, e, H, Q => match lookL p L with
    | some s => s e H Q
    | none => wpc B P gl T L hn x (p ++ [0]) e H fun ex e' H' => match ex with
      | .normal => Q .normal e' H'
      | .exit i => match i == id with
        | true => Q .normal e' H'
        | false => Q (.exit i) e' H'
      | .ret => Q .ret e' H'
  | .loop _, p, e, H, Q => match lookL p L with
    | some s => s e H Q
    | none => False
  | .scope x, p, e, H, Q => wpc B P gl T L hn x (p ++ [0]) e H Q
  | _, _, _, _, _ => False

/-- the pieces are as told -/
def LOk (P : Program) (gl : Glob) (n : Nat) (c : Code) (p : List Nat) (L : LTab) : Prop :=
  ∀ q s x, lookL (p ++ q) L = some s → sub q c = some x → ∀ e H Q, s e H Q → AW P gl n x Q e H

theorem setB_self {gl : Glob} {e : Env} {c : Operand} {b : Bool} (h : ev gl e c = .bool b) : setB e c b = e := by
  unfold setB
  split
  · exact upd_self h
  · rfl

theorem aw_cond' {P : Program} {gl : Glob} {n : Nat} {c : Operand} {x y : Code} {Q : Ex → Env → Heap → Prop} {e : Env} {H : Heap} {b : Bool} (hc : ev gl e c = .bool b) (h1 : b = true → AW P gl n x Q e H) (h2 : b = false → AW P gl n y Q e H) :
    AW P gl n (.cond c x y) Q e H := aw_cond hc h1 h2

theorem aw_scope {P : Program} {gl : Glob} {n : Nat} {x : Code} {Q : Ex → Env → Heap → Prop} {e : Env} {H : Heap} (h : AW P gl n x Q e H) : AW P gl n (.scope x) Q e H := by
  intro hd g a w hst
  simp only [dstAll] at hd
  refine wp_scope_straight (wp_mono (h hd g a w hst) ?_)
  rintro ex a' w' ⟨ex', g', e', H', k0, k1⟩
  cases ex <;> first | (cases ex' <;> exact k0.elim) | exact ⟨ex', g', e', H', k0, k1⟩

theorem wpc_sound {P : Program} {gl : Glob} {n : Nat} {T : Tab} {L : LTab} {hn : Oper → Nat} (hT : TabOk P gl T) : ∀ (c : Code) (p : List Nat), LOk P gl n c p L → ∀ (e : Env) (H : Heap) (Q : Ex → Env → Heap → Prop),
    wpc br P gl T L hn c p e H Q → AW P gl n c Q e H := by
  intro c
  induction c with
  | skip => intro p _ e H Q h; exact aw_skip h
  | label l => intro p _ e H Q h; exact aw_label h
  | exit i => intro p _ e H Q h; exact aw_exit h
  | ret => intro p _ e H Q h; exact aw_ret h
  | region id ops d =>
    intro p hL e H Q h
    simp only [wpc] at h
    split at h
    · rename_i s hs
      exact hL [] s _ (by simpa using hs) rfl e H Q h
    · split at h
      · exact aw_region hn (regc_sound hT _ _ _ h)
      · obtain ⟨h1, h2⟩ := br_false h
        exact aw_region_draw hn h1 (regc_sound_draw hT _ _ _ h2)
  | seq x y ihx ihy =>
    intro p hL e H Q h
    have hx : LOk P gl n x (p ++ [0]) L := fun q s z h1 h2 => hL (0 :: q) s z (by simpa using h1) h2
    have hy : LOk P gl n y (p ++ [1]) L := fun q s z h1 h2 => hL (1 :: q) s z (by simpa using h1) h2
    simp only [wpc] at h
    split at h
    · rename_i s hs
      exact hL [] s _ (by simpa using hs) rfl e H Q h
    refine AW.mono (Q := post P gl n (.fin Q)) (aw_seq (AW.mono (ihx _ hx _ _ _ h) fun ex e' H' k => ?_)) fun ex e H k => k
    cases ex with
    | normal => exact (ihy _ hy _ _ _ k : AW P gl n y Q e' H')
    | exit i => exact k
    | ret => exact k
  | cond c x y ihx ihy =>
    intro p hL e H Q h
    have hx : LOk P gl n x (p ++ [0]) L := fun q s z h1 h2 => hL (0 :: q) s z (by simpa using h1) h2
    have hy : LOk P gl n y (p ++ [1]) L := fun q s z h1 h2 => hL (1 :: q) s z (by simpa using h1) h2
    simp only [wpc] at h
    split at h
    · rename_i s hs
      exact hL [] s _ (by simpa using hs) rfl e H Q h
    split at h
    · rename_i b hb
      obtain ⟨h1, h2⟩ := br_iff.1 h
      refine aw_cond hb (fun k => ?_) (fun k => ?_)
      · have h3 := h1 k
        rw [setB_self (by rw [hb, k])] at h3
        exact ihx _ hx _ _ _ h3
      · have h3 := h2 k
        rw [setB_self (by rw [hb, k])] at h3
        exact ihy _ hy _ _ _ h3
    · exact h.elim
  | block id x ihx =>
    intro p hL e H Q h
    have hx : LOk P gl n x (p ++ [0]) L := fun q s z h1 h2 => hL (0 :: q) s z (by simpa using h1) h2
    simp only [wpc] at h
    split at h
    · rename_i s hs
      exact hL [] s _ (by simpa using hs) rfl e H Q h
    refine AW.mono (Q := post P gl n (.fin Q)) (aw_block (AW.mono (ihx _ hx _ _ _ h) fun ex e' H' k => ?_)) fun ex e H k => k
    cases ex with
    | normal => exact k
    | exit i =>
      rw [post_blk_exit]
      simp only at k
      split at k
      · rename_i hi; rw [if_pos (by simpa using hi)]; exact k
      · rename_i hi; rw [if_neg (by simpa using hi)]; exact k
    | ret => exact k
  | loop x ih =>
    intro p hL e H Q h
    simp only [wpc] at h
    split at h
    · rename_i s hs
      exact hL [] s _ (by simpa using hs) rfl e H Q h
    · exact h.elim
  | scope x ihx =>
    intro p hL e H Q h
    have hx : LOk P gl n x (p ++ [0]) L := fun q s z h1 h2 => hL (0 :: q) s z (by simpa using h1) h2
    exact aw_scope (ihx _ hx _ _ _ h)
  | _ => intro p _ e H Q h; exact h.elim

theorem LOk.nil (P : Program) (gl : Glob) (n : Nat) (c : Code) (p : List Nat) : LOk P gl n c p [] := fun q s x h => by simp [lookL] at h

theorem LOk.cons {P : Program} {gl : Glob} {n : Nat} {c x : Code} {q : List Nat} {s : LSp} {L : LTab} (hs : sub q c = some x) (h : ∀ e H Q, s e H Q → AW P gl n x Q e H) (hL : LOk P gl n c [] L) : LOk P gl n c [] ((q, s) :: L) := by
  intro q' s' x' hl hs' e H Q hq
  simp only [lookL, List.nil_append] at hl
  split at hl
  · rename_i he
    have : q' = q := by simpa using he
    subst this
    cases hl
    rw [hs] at hs'; cases hs'
    exact h e H Q hq
  · exact hL q' s' x' (by simpa using hl) hs' e H Q hq

theorem acalls_of_wpc {P : Program} {gl : Glob} {f : FuncId} {fn : Func} {c : Code} {T : Tab} {L : LTab} (hn : Oper → Nat) (hf : P.funcs[f]? = some fn) (hb : fn.body = some c) (hd : dstAll fn.ntmps c = true) {args : List PV} (hsz : args.length ≤ fn.ntmps) {H : Heap} {K : PV → Heap → Prop}
    (hT : TabOk P gl T) (hL : LOk P gl fn.ntmps c [] L) (h : wpc br P gl T L hn c [] (env0 args) H (resQ P fn.results.toList K)) : ACalls P gl f args H K :=
  acalls_of_aw hf hb hd hsz ((wpc_sound hT c [] hL _ _ _ h).mono fun _ _ _ k => k)

/-- less is known -/
def EnvLe (e e1 : Env) : Prop := ∀ t, e1 t = e t ∨ e1 t = .any

theorem EnvLe.refl (e : Env) : EnvLe e e := fun _ => .inl rfl

theorem St.weaken {gl : Glob} {n : Nat} {g : Gh} {e e1 : Env} {H : Heap} {a : Act} {w : World} (h : St gl n g e H a w) (he : EnvLe e e1) : St gl n g e1 H a w := by
  obtain ⟨h1, h2, h3, h4⟩ := h
  refine ⟨h1, h2, ⟨h3.1, fun t => ?_⟩, h4⟩
  rcases he t with k | k <;> rw [k]
  · exact h3.2 t
  · exact .any _

theorem AW.weaken {P : Program} {gl : Glob} {n : Nat} {c : Code} {Q : Ex → Env → Heap → Prop} {e : Env} {H : Heap} (h : AW P gl n c (fun ex e' H' => ∃ e1, EnvLe e' e1 ∧ Q ex e1 H') e H) : AW P gl n c Q e H := by
  intro hd g a w hst
  refine wp_mono (h hd g a w hst) ?_
  rintro ex a' w' ⟨ex', g', e', H', k0, k1, k2, e1, k3, k4⟩
  exact ⟨ex', g', e1, H', k0, k1.weaken k3, k2, k4⟩

theorem AW.of_le {P : Program} {gl : Glob} {n : Nat} {c : Code} {Q : Ex → Env → Heap → Prop} {e e1 : Env} {H : Heap} (he : EnvLe e e1) (h : AW P gl n c Q e1 H) : AW P gl n c Q e H :=
  fun hd g a w hst => h hd g a w (hst.weaken he)

/-- objects behind the first ones are let go -/
def LowS (e : Env) (H : Heap) : Prop := (∀ t, Low H.length (e t)) ∧ ∀ (o : Nat) cs, H[o]? = some (.cells cs) → ∀ x ∈ cs, Low H.length x

theorem AW.forget {P : Program} {gl : Glob} (hgl : GlobLow gl) {n : Nat} {c : Code} {Q : Ex → Env → Heap → Prop} {e : Env} {H : Heap}
    (h : AW P gl n c (fun ex e' H' => ∃ e1 H1 G, EnvLe e' e1 ∧ H' = H1 ++ G ∧ H.length ≤ H1.length ∧ LowS e1 H1 ∧ Q ex e1 H1) e H) : AW P gl n c Q e H := by
  intro hd g a w hst
  refine wp_mono (h hd g a w hst) ?_
  rintro ex a' w' ⟨ex', g', e', H', k0, k1, k2, e1, H1, G, k3, rfl, hlen, hlow, k4⟩
  have k5 := k1.weaken k3
  refine ⟨ex', g'.cutAt H1.length, e1, H1, k0, ⟨?_, ?_, ⟨k5.env.1, fun t => (k5.env.2 t).cutAt (hlow.1 t)⟩, k5.dfr⟩, ?_, k4⟩
  · have hS' := k5.sim
    refine ⟨rfl, fun o o' ob ob' b h1 h2 => by rw [blk_cut]; exact hS'.inj o o' ob ob' b (get_pre h1) (get_pre h2), fun o cs h1 => ?_, fun o h1 => hS'.tok o (get_pre h1), hS'.imm, fun o r h1 => hS'.abs o r (get_pre h1)⟩
    obtain ⟨⟨C, ty, e1, e2⟩, e3⟩ := hS'.cells o cs (get_pre h1)
    exact ⟨⟨C, ty, e1, e2.1, fun q y u hy hu => (e2.2 q y u hy hu).cutAt (hlow.2 o cs h1 y (List.mem_iff_getElem?.2 ⟨q, hy⟩))⟩, e3⟩
  · intro k cs hk
    refine ⟨(k5.glob k cs hk).1, fun q x hx => ?_⟩
    obtain ⟨h1, c, h2, h3⟩ := (k5.glob k cs hk).2 q x hx
    refine ⟨h1, c, h2, h3.cutAt ?_⟩
    have hz := hgl k cs hk x (List.mem_iff_getElem?.2 ⟨q, hx⟩)
    exact hz.up
  · have hn : g.n = H.length := hst.sim.n
    refine ⟨⟨by rw [hn]; exact hlen, k2.gx.bk, k2.gx.en, k2.gx.sz, k2.gx.imm, k2.gx.cell⟩, k2.size, fun b hb ho => ?_, k2.frame, k2.os, k2.tape, k2.output, k2.im⟩
    obtain ⟨o, ob, j1, j2, j3⟩ := ho
    rw [blk_cut] at j3
    exact k2.ow b hb ⟨o, ob, get_pre j1, j2, j3⟩

/-- a loop: the states at its head, told by a kind of their own -/
theorem aw_loop2 {P : Program} {gl : Glob} {n : Nat} {x : Code} {Q : Ex → Env → Heap → Prop} {e : Env} {H : Heap} {σ : Type} (I : σ → Prop) (E : σ → Env) (Hp : σ → Heap) (m : σ → Nat) (s0 : σ) (h0 : I s0) (he : EnvLe e (E s0)) (hH : H = Hp s0)
    (round : ∀ s, I s → AW P gl n x (fun ex e' H' => match ex with
      | .normal => ∃ s', m s' < m s ∧ I s' ∧ e' = E s' ∧ H' = Hp s'
      | .exit i => Q (.exit i) e' H'
      | .ret => Q .ret e' H') (E s) (Hp s)) : AW P gl n (.loop x) Q e H := by
  subst hH
  refine AW.of_le he ?_
  refine AW.mono (Q := post P gl n (.fin Q)) ?_ fun ex e H k => k
  refine aw_loop (fun k e H => ∃ s, k = m s ∧ I s ∧ e = E s ∧ H = Hp s) (m s0) ⟨s0, rfl, h0, rfl, rfl⟩ ?_
  rintro k e1 H1 ⟨s, rfl, hI, rfl, rfl⟩
  refine (round s hI).mono fun ex e' H' h => ?_
  cases ex with
  | normal =>
    obtain ⟨s', h1, h2, h3, h4⟩ := h
    exact ⟨m s', h1, s', rfl, h2, h3, h4⟩
  | exit i => exact h
  | ret => exact h

#print axioms aw_loop2
#print axioms AW.forget
#print axioms acalls_of_wpc
end Go.AM

