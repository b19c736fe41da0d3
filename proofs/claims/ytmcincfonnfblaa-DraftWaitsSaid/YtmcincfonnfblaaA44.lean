/-
  An abstract machine over values without memory, proved against the model; part 44. A tool for the proofs of this claim; it states nothing of the program.
-/
import Derived.Test.YtmcincfonnfblaaA43
/-! AM, part 44: what is known of slots and objects is weakened ahead of a piece and behind a call; one box of many new objects is held on to. -/
namespace Go.AM
open Go

theorem AW.wkin {P : Program} {gl : Glob} {n : Nat} {c : Code} {Q : Ex → Env → Heap → Prop} {e : Env} {H : Heap} {slots : List Nat} {vs : List PV} (hw : WkL (slots.map e) vs) (h : AW P gl n c Q (envS slots vs) H) : AW P gl n c Q e H := by
  intro hd g a w hst
  have h1 := hst.weaken (envS_le e slots)
  exact h hd g a w ⟨h1.sim, h1.glob, ⟨h1.env.1, fun t => envS_wk hw t _ (h1.env.2 t)⟩, h1.dfr⟩

theorem acalls_heapwk {P : Program} {gl : Glob} {f : FuncId} {args : List PV} {H H1 : Heap} {K : PV → Heap → Prop} (hw : WkH H H1) (h : ACalls P gl f args H1 K) : ACalls P gl f args H K := by
  intro g w vs hS hG hR
  refine (h g w vs (hw.sim hS) hG hR).mono ?_
  rintro e w' ⟨v, g', H', x, rfl, hS', hX, hr, hk⟩
  exact ⟨v, g', H', x, rfl, hS', ⟨hX.gx, hX.size, fun b hb ho => hw.own (hX.ow b hb ho), fun b hb ho => hX.frame b hb fun k => ho (hw.own k), hX.os, hX.tape, hX.output, fun b q hb hi => (hX.im b q hb hi).imp id hw.own⟩, hr, hk⟩

theorem acalls_wkout {P : Program} {gl : Glob} {f : FuncId} {args : List PV} {H : Heap} {K : PV → Heap → Prop} (h : ACalls P gl f args H (fun x H' => ∃ x1 H1, Wk x x1 ∧ WkH H' H1 ∧ K x1 H1)) : ACalls P gl f args H K := by
  intro g w vs hS hG hR
  refine (h g w vs hS hG hR).mono ?_
  rintro e w' ⟨v, g', H', x, rfl, hS', hX, hr, x1, H1, hw, hh, hk⟩
  exact ⟨v, g', H1, x1, rfl, hh.sim hS', ⟨hX.gx, hX.size, fun b hb ho => hX.ow b hb (hh.own ho), hX.frame, hX.os, hX.tape, hX.output, hX.im⟩, hw _ _ _ hr, hk⟩

theorem wkH_set {H : Heap} {q : Nat} {cs cs1 : List PV} (h : H[q]? = some (.cells cs)) (hw : WkL cs cs1) : WkH H (H.set q (.cells cs1)) := by
  refine ⟨by simp, fun o b hb => ?_⟩
  rw [List.getElem?_set] at hb
  by_cases e : q = o
  · subst e
    rw [if_pos rfl] at hb
    split at hb
    · cases hb; exact ⟨_, h, .cells hw⟩
    · cases hb
  · rw [if_neg e] at hb
    exact ⟨b, hb, .refl b⟩

/-- slots, where one name is changed -/
inductive RVb (n0 k : Nat) : List PV → List PV → Prop where
  | nil : RVb n0 k [] []
  | same {x : PV} {xs xs' : List PV} (h : Low 0 x) (hs : RVb n0 k xs' xs) : RVb n0 k (x :: xs') (x :: xs)
  | keep {o off : Nat} {xs xs' : List PV} (h : o < n0) (hs : RVb n0 k xs' xs) : RVb n0 k (.ptr o off :: xs') (.ptr o off :: xs)
  | box {off : Nat} {xs xs' : List PV} (hs : RVb n0 k xs' xs) : RVb n0 k (.ptr k off :: xs') (.ptr n0 off :: xs)

theorem tidy_box {B X : Heap} {k : Nat} {cs cs1 vs' vs : List PV} (hB : ∀ (o : Nat) cs, B[o]? = some (.cells cs) → ∀ x ∈ cs, Low 0 x) (hk : B.length ≤ k) (hX : (B ++ X)[k]? = some (.cells cs)) (hw : WkL cs cs1) (hl : ∀ x ∈ cs1, Low 0 x) (hv : RVb B.length k vs' vs) :
    Tidy B.length vs' (B ++ X) vs (B ++ [.cells cs1]) := by
  have hkl : k < (B ++ X).length := (List.getElem?_eq_some_iff.1 hX).1
  let ρ : Nat → Nat := fun o => if o < B.length then o else k
  have lo : ∀ o, o < B.length → ρ o = o := fun o h => by simp only [ρ, if_pos h]
  have hi : ∀ o, ¬ o < B.length → ρ o = k := fun o h => by simp only [ρ, if_neg h]
  refine ⟨vs', (B ++ X).set k (.cells cs1), ρ, ?_, wkH_set hX hw, ⟨fun o ho => ?_, fun o o' h1 h2 h3 => ?_, fun o a h1 => ?_⟩, by simp, lo, ?_⟩
  · clear hv hX
    induction vs' with
    | nil => exact .nil
    | cons x xs ih => exact .cons (.refl _) ih
  · rw [List.length_set]
    by_cases c : o < B.length
    · rw [lo o c]; rw [List.length_append]; omega
    · rw [hi o c]; exact hkl
  · simp at h1 h2
    by_cases c1 : o < B.length <;> by_cases c2 : o' < B.length
    · rw [lo o c1, lo o' c2] at h3; exact h3
    · rw [lo o c1, hi o' c2] at h3; omega
    · rw [hi o c1, lo o' c2] at h3; omega
    · omega
  · by_cases c : o < B.length
    · rw [List.getElem?_append_left c] at h1
      refine ⟨a, by rw [lo o c, List.getElem?_set_ne (by omega), List.getElem?_append_left c, h1], ?_⟩
      cases a with
      | cells cs' => exact .cells (renL_low (hB o cs' h1))
      | tok => exact .tok
      | dead => exact .dead _
      | abs r => exact .abs r
    · rw [List.getElem?_append_right (by omega)] at h1
      have : o = B.length := by have := (List.getElem?_eq_some_iff.1 h1).1; simp at this; omega
      subst this
      simp at h1
      subst h1
      exact ⟨.cells cs1, by rw [hi _ c, List.getElem?_set_self hkl], .cells (renL_low hl)⟩
  · clear hX
    have hlen : (B ++ [Ob.cells cs1]).length = B.length + 1 := by simp
    rw [hlen]
    generalize hn : B.length = n0 at hv lo hi
    induction hv with
    | nil => exact .nil
    | same h _ ih => exact .cons (.low h) ih
    | @keep o off _ _ h _ ih =>
      refine .cons ?_ ih
      have := Ren.ptr (ρ := ρ) (n := n0 + 1) o off (by omega)
      rwa [lo o h] at this
    | @box off _ _ _ ih =>
      refine .cons ?_ ih
      have := Ren.ptr (ρ := ρ) (n := n0 + 1) n0 off (by omega)
      rwa [hi n0 (by omega)] at this

#print axioms tidy_box
#print axioms acalls_wkout
end Go.AM
