/-
  An abstract machine over values without memory, proved against the model; part 19. A tool for the proofs of this claim; it states nothing of the program.
-/
import Derived.Test.YtmcincfonnfblaaA18
/-! AM, part 19: what a call made for itself alone is let go. -/
namespace Go.AM
open Go

/-- the value speaks of the first objects alone -/
inductive Low (n : Nat) : PV → Prop where
  | any : Low n .any
  | bool (b : Bool) : Low n (.bool b)
  | int (k : IntKind) (m : Int) : Low n (.int k m)
  | str (s : ByteArray) : Low n (.str s)
  | list (es : List (List PV)) (t : Tail) (ht : ∀ o, t = .tok o → o < n) (h : ∀ x ∈ es.flatten, Low n x) : Low n (.list es t)
  | arr (o off len cap : Nat) (h : o < n) : Low n (.arr o off len cap)
  | ptr (o off : Nat) (h : o < n) : Low n (.ptr o off)
  | iptr (cs : List PV) (h : ∀ x ∈ cs, Low n x) : Low n (.iptr cs)
  | nilptr : Low n .nilptr
  | nilfn : Low n .nilfn
  | fn (f : Nat) (cs : List PV) (h : ∀ x ∈ cs, Low n x) : Low n (.fn f cs)
  | agg (cs : List PV) (h : ∀ x ∈ cs, Low n x) : Low n (.agg cs)
  | tup (cs : List PV) (h : ∀ x ∈ cs, Low n x) : Low n (.tup cs)

theorem Rel.low {g : Gh} {w : World} {x : PV} {v : Value} (h : Rel g w x v) : Low g.n x := by
  induction h with
  | any v => exact .any
  | bool b => exact .bool b
  | int k n => exact .int k n
  | str s => exact .str s
  | list es t a cap cv hu hl ht hc hr ih =>
    refine .list es t (fun o e => by subst e; exact ht.1) fun x hx => ?_
    obtain ⟨q, hq⟩ := List.mem_iff_getElem?.1 hx
    exact ih q x hq
  | arr o off len cap ho => exact .arr o off len cap ho
  | ptr o off ho => exact .ptr o off ho
  | iptr cs A cv hs hc hr ih => exact .iptr cs fun x hx => by obtain ⟨q, hq⟩ := List.mem_iff_getElem?.1 hx; exact ih q x hq
  | nilptr => exact .nilptr
  | nilfn => exact .nilfn
  | fn f caps vs cv hs hc hr ih => exact .fn f caps fun x hx => by obtain ⟨q, hq⟩ := List.mem_iff_getElem?.1 hx; exact ih q x hq
  | agg cs vs cv hs hc hr ih => exact .agg cs fun x hx => by obtain ⟨q, hq⟩ := List.mem_iff_getElem?.1 hx; exact ih q x hq
  | tup cs vs cv hs hc hr ih => exact .tup cs fun x hx => by obtain ⟨q, hq⟩ := List.mem_iff_getElem?.1 hx; exact ih q x hq

def Gh.cutAt (g : Gh) (n : Nat) : Gh := ⟨n, g.bk, g.en, g.sz, g.imm, g.fp⟩

theorem blk_cut (g : Gh) (n : Nat) : blk (g.cutAt n) = blk g := by funext ob o b; cases ob <;> rfl

theorem Rel.cutAt {g : Gh} {w : World} {x : PV} {v : Value} {n : Nat} (h : Rel g w x v) (hl : Low n x) : Rel (g.cutAt n) w x v := by
  induction h with
  | any v => exact .any v
  | bool b => exact .bool b
  | int k n => exact .int k n
  | str s => exact .str s
  | list es t a cap cv hu hle ht hc hr ih =>
    cases hl with
    | list _ _ h1 h2 =>
      refine .list es t a cap cv hu hle ?_ hc fun q x hq => ih q x hq (h2 x (List.mem_iff_getElem?.2 ⟨q, hq⟩))
      cases t with
      | no => trivial
      | exact => exact ht
      | tok o => exact ⟨h1 o rfl, ht.2⟩
  | arr o off len cap ho => cases hl with | arr _ _ _ _ h => exact .arr (g := g.cutAt n) o off len cap h
  | ptr o off ho => cases hl with | ptr _ _ h => exact .ptr (g := g.cutAt n) o off h
  | iptr cs A cv hs hc hr ih => cases hl with | iptr _ h => exact .iptr cs A cv hs hc fun q x hq => ih q x hq (h x (List.mem_iff_getElem?.2 ⟨q, hq⟩))
  | nilptr => exact .nilptr
  | nilfn => exact .nilfn
  | fn f caps vs cv hs hc hr ih => cases hl with | fn _ _ h => exact .fn f caps vs cv hs hc fun q x hq => ih q x hq (h x (List.mem_iff_getElem?.2 ⟨q, hq⟩))
  | agg cs vs cv hs hc hr ih => cases hl with | agg _ h => exact .agg cs vs cv hs hc fun q x hq => ih q x hq (h x (List.mem_iff_getElem?.2 ⟨q, hq⟩))
  | tup cs vs cv hs hc hr ih => cases hl with | tup _ h => exact .tup cs vs cv hs hc fun q x hq => ih q x hq (h x (List.mem_iff_getElem?.2 ⟨q, hq⟩))

theorem get_pre {α : Type} {l r : List α} {o : Nat} {x : α} (h : l[o]? = some x) : (l ++ r)[o]? = some x := by
  rw [List.getElem?_append_left (List.getElem?_eq_some_iff.1 h).1]; exact h

/-- The first objects, as they stand then, stay; the others go. -/
theorem ACalls.forget {P : Program} {gl : Glob} {f : FuncId} {args : List PV} {H : Heap} {K K' : PV → Heap → Prop} (h : ACalls P gl f args H K)
    (hK : ∀ x H', K x H' → ∃ H1 E, H' = H1 ++ E ∧ H1.length = H.length ∧ Low H.length x ∧ (∀ (o : Nat) cs, H1[o]? = some (.cells cs) → H[o]? = some (.cells cs) ∨ ∀ x ∈ cs, Low H.length x) ∧ K' x H1) : ACalls P gl f args H K' := by
  intro g w vs hS hG hR
  refine (h g w vs hS hG hR).mono ?_
  rintro e w' ⟨v, g', H', x, rfl, hS', hX, hr, hk⟩
  obtain ⟨H1, E, rfl, hlen, hlow, hc, hk'⟩ := hK x H' hk
  refine ⟨v, g'.cutAt H.length, H1, x, rfl, ?_, ?_, hr.cutAt hlow, hk'⟩
  · refine ⟨hlen.symm, fun o o' ob ob' b h1 h2 => by rw [blk_cut]; exact hS'.inj o o' ob ob' b (get_pre h1) (get_pre h2), fun o cs h1 => ?_, fun o h1 => hS'.tok o (get_pre h1), hS'.imm, fun o r h1 => hS'.abs o r (get_pre h1)⟩
    obtain ⟨⟨C, ty, e1, e2⟩, e3⟩ := hS'.cells o cs (get_pre h1)
    refine ⟨⟨C, ty, e1, e2.1, fun q y u hy hu => (e2.2 q y u hy hu).cutAt ?_⟩, e3⟩
    rcases hc o cs h1 with h2 | h2
    · obtain ⟨⟨C0, ty0, k1, k2⟩, _⟩ := hS.cells o cs h2
      obtain ⟨u0, _, k3⟩ := k2.get hy
      have := k3.low
      rwa [hS.n] at this
    · exact h2 y (List.mem_iff_getElem?.2 ⟨q, hy⟩)
  · have hn : g.n = H.length := hS.n
    refine ⟨⟨Nat.le_of_eq hn, hX.gx.bk, hX.gx.en, hX.gx.sz, hX.gx.imm, hX.gx.cell⟩, hX.size, fun b hb ho => ?_, hX.frame, hX.os, hX.tape, hX.output, hX.im⟩
    obtain ⟨o, ob, k1, k2, k3⟩ := ho
    rw [blk_cut] at k3
    exact hX.ow b hb ⟨o, ob, get_pre k1, k2, k3⟩

theorem ACalls.same {P : Program} {gl : Glob} {f : FuncId} {args : List PV} {H : Heap} {r : PV} (hr : Low H.length r) (h : ACalls P gl f args H (fun x H' => x = r ∧ ∃ E, H' = H ++ E)) : ACalls P gl f args H (fun x H' => x = r ∧ H' = H) :=
  h.forget fun _ _ ⟨e, E, e1⟩ => ⟨H, E, e1, rfl, e ▸ hr, fun _ _ ho => .inl ho, e, rfl⟩

theorem Low.up {x : PV} {n : Nat} (hx : Low 0 x) : Low n x := by
  induction hx with
  | any => exact .any
  | bool b => exact .bool b
  | int k m => exact .int k m
  | str s => exact .str s
  | list es t ht h ih => exact .list es t (fun o e => absurd (ht o e) (Nat.not_lt_zero _)) ih
  | arr o off len cap h => exact absurd h (Nat.not_lt_zero _)
  | ptr o off h => exact absurd h (Nat.not_lt_zero _)
  | iptr cs h ih => exact .iptr cs ih
  | nilptr => exact .nilptr
  | nilfn => exact .nilfn
  | fn f cs h ih => exact .fn f cs ih
  | agg cs h ih => exact .agg cs ih
  | tup cs h ih => exact .tup cs ih

theorem PCall.of {P : Program} {gl : Glob} {f : FuncId} {args : List PV} {r : PV} (hr : Low 0 r) (h : ∀ H, ACalls P gl f args H (fun x H' => x = r ∧ ∃ E, H' = H ++ E)) : PCall P gl f args r :=
  fun H => (h H).same hr.up

def GlobLow (gl : Glob) : Prop := ∀ k cs, gl k = some cs → ∀ x ∈ cs, Low 0 x

/-- A call that is handed no object leaves all objects as they were: it is enough to look at it where there is none. -/
theorem PCall.alone {P : Program} {gl : Glob} {f : FuncId} {args : List PV} {r : PV} (hgl : GlobLow gl) (ha : ∀ x ∈ args, Low 0 x) (hr : Low 0 r) (h : ACalls P gl f args [] (fun x _ => x = r)) : PCall P gl f args r := by
  intro H g w vs hS hG hR
  have hS0 : Sim (g.cutAt 0) [] w := ⟨rfl, fun o _ _ _ _ h => by simp at h, fun o cs h => by simp at h, fun o h => by simp at h, hS.imm, fun o r h => by simp at h⟩
  have hG0 : GlobOk (g.cutAt 0) w gl := fun k cs hk => by
    refine ⟨(hG k cs hk).1, fun q x hx => ?_⟩
    obtain ⟨h1, c, h2, h3⟩ := (hG k cs hk).2 q x hx
    exact ⟨h1, c, h2, h3.cutAt (hgl k cs hk x (List.mem_iff_getElem?.2 ⟨q, hx⟩))⟩
  have hR0 : RelL (g.cutAt 0) w args vs.toList := ⟨hR.1, fun q x v hx hv => (hR.2 q x v hx hv).cutAt (ha x (List.mem_iff_getElem?.2 ⟨q, hx⟩))⟩
  refine (h _ w vs hS0 hG0 hR0).mono ?_
  rintro e w' ⟨v, g', H', x, rfl, hS', hX, hv, rfl⟩
  have noOwn : ∀ b, ¬ own (g.cutAt 0) [] b := fun b ⟨o, ob, ho, _⟩ => by simp at ho
  let g2 : Gh := ⟨g.n, g.bk, g.en, g.sz, fun b q => g.imm b q ∨ (w.heap.size ≤ b ∧ g'.imm b q), g.fp⟩
  have hb2 : blk g2 = blk g := by funext ob o b; cases ob <;> rfl
  have himm : ∀ b q, g'.imm b q → g2.imm b q := fun b q hi => by
    rcases Nat.lt_or_ge b w.heap.size with hb | hb
    · rcases hX.im b q hb hi with h1 | h1
      · exact .inl h1
      · exact absurd h1 (noOwn b)
    · exact .inr ⟨hb, hi⟩
  have hgx : Gext g w g2 w' := ⟨Nat.le_refl _, fun _ _ => rfl, fun _ _ => rfl, fun _ _ => rfl, fun _ _ h => .inl h, hX.gx.cell⟩
  have hblk : ∀ (o : Nat) (ob : Ob) (b : Nat), H[o]? = some ob → ob.alive = true → blk g ob o b → w'.heap[b]? = w.heap[b]? ∧ b < w.heap.size := fun o ob b ho hal hb => by
    have hlt := own_lt hS ⟨o, ob, ho, hal, hb⟩
    exact ⟨hX.frame _ hlt (noOwn _), hlt⟩
  refine ⟨v, g2, H, x, rfl, ?_, ?_, ?_, rfl, rfl⟩
  · refine ⟨hS.n, by rw [hb2]; exact hS.inj, fun o cs ho => ?_, fun o ho => ?_, fun b q hi => ?_, fun o r ho => ?_⟩
    · obtain ⟨⟨C, ty, h1, h2⟩, h3⟩ := hS.cells o cs ho
      obtain ⟨h4, h5⟩ := hblk o _ _ ho rfl rfl
      refine ⟨⟨C, ty, h4.trans h1, h2.mono hgx⟩, fun q hq => ?_⟩
      rcases hq with hq | hq
      · exact h3 q hq
      · exact absurd h5 (Nat.not_lt.2 hq.1)
    · obtain ⟨⟨C, ty, h1, h2⟩, h3⟩ := hS.tok o ho
      obtain ⟨h4, h5⟩ := hblk o _ _ ho rfl rfl
      refine ⟨⟨C, ty, h4.trans h1, h2⟩, fun q hq hi => ?_⟩
      rcases hi with hi | hi
      · exact h3 q hq hi
      · exact absurd h5 (Nat.not_lt.2 hi.1)
    · rcases hi with hi | hi
      · exact Nat.lt_of_lt_of_le (hS.imm b q hi) hX.size
      · exact hS'.imm b q hi.2
    · have h2 := (hS.abs o r ho).2.2
      refine hS.absKeep ho hgx rfl (fun _ => Iff.rfl) (fun b hb => (hblk o _ b ho rfl hb).1) ?_ hX.size ?_
      · rintro b q hb (hi | hi)
        · exact (h2 b hb).2 q hi
        · exact absurd (h2 b hb).1 (Nat.not_lt.2 hi.1)
      · rintro b q (hi | hi)
        · exact Nat.lt_of_lt_of_le (hS.imm b q hi) hX.size
        · exact hS'.imm b q hi.2
  · exact ⟨hgx, hX.size, fun b _ ⟨o, ob, k1, k2, k3⟩ => ⟨o, ob, k1, k2, by rw [hb2] at k3; exact k3⟩, fun b hb _ => hX.frame b hb (noOwn b), hX.os, hX.tape, hX.output,
      fun b q hb hi => hi.elim .inl fun k => absurd hb (Nat.not_lt.2 k.1)⟩
  · exact Rel.mono (g := g'.cutAt 0) (g' := g2) (w := w') ⟨Nat.zero_le _, fun o ho => absurd ho (Nat.not_lt_zero _), fun o ho => absurd ho (Nat.not_lt_zero _), fun o ho => absurd ho (Nat.not_lt_zero _), himm, fun _ _ _ => rfl⟩ (hv.cutAt hr)

#print axioms PCall.of
#print axioms PCall.alone
end Go.AM
