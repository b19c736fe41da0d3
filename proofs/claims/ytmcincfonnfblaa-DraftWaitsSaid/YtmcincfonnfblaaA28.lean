/-
  An abstract machine over values without memory, proved against the model; part 28. A tool for the proofs of this claim; it states nothing of the program.
-/
import Derived.Test.YtmcincfonnfblaaA27
/-! AM, part 28: an answer's spare room is let go. -/
namespace Go.AM
open Go

/-- whatever reads as the one reads as the other -/
def Wk (x x' : PV) : Prop := ∀ (g : Gh) (w : World) (v : Value), Rel g w x v → Rel g w x' v

theorem Wk.refl (x : PV) : Wk x x := fun _ _ _ h => h
theorem Wk.list (es : List (List PV)) (t : Tail) : Wk (.list es t) (.list es .no) := by
  intro g w v h
  obtain ⟨a, cap, rfl, h1, h2, _, h4⟩ := Rel.list_iff.1 h
  exact Rel.list_iff.2 ⟨a, cap, rfl, h1, h2, trivial, h4⟩

inductive WkL : List PV → List PV → Prop where
  | nil : WkL [] []
  | cons {x x' : PV} {xs xs' : List PV} (h : Wk x x') (hs : WkL xs xs') : WkL (x :: xs) (x' :: xs')

theorem WkL.rel {xs xs' : List PV} (h : WkL xs xs') {g : Gh} {w : World} {vs : List Value} (hr : RelL g w xs vs) : RelL g w xs' vs := by
  induction h generalizing vs with
  | nil => exact hr
  | cons h hs ih =>
    cases vs with
    | nil => have := hr.1; simp at this
    | cons v vs =>
      refine .cons (h g w v (hr.2 0 _ _ rfl rfl)) (ih ⟨by have := hr.1; simpa using this, fun q x u h1 h2 => hr.2 (q + 1) x u (by simpa using h1) (by simpa using h2)⟩)

theorem Wk.tup {xs xs' : List PV} (h : WkL xs xs') : Wk (.tup xs) (.tup xs') := by
  intro g w v hr
  obtain ⟨vs, rfl, h1⟩ := Rel.tup_iff.1 hr
  exact Rel.tup_iff.2 ⟨vs, rfl, h.rel h1⟩

theorem Wk.agg {xs xs' : List PV} (h : WkL xs xs') : Wk (.agg xs) (.agg xs') := by
  intro g w v hr
  obtain ⟨vs, rfl, h1⟩ := Rel.agg_iff.1 hr
  exact Rel.agg_iff.2 ⟨vs, rfl, h.rel h1⟩

theorem acalls_weak {P : Program} {gl : Glob} {f : FuncId} {args : List PV} {H : Heap} {K : PV → Heap → Prop} (h : ACalls P gl f args H (fun x H' => ∃ x', Wk x x' ∧ K x' H')) : ACalls P gl f args H K := by
  intro g w vs hS hG hR
  refine (h g w vs hS hG hR).mono ?_
  rintro e w' ⟨v, g', H', x, rfl, hS', hX, hr, x', hw, hk⟩
  exact ⟨v, g', H', x', rfl, hS', hX, hw _ _ _ hr, hk⟩

#print axioms acalls_weak
end Go.AM
