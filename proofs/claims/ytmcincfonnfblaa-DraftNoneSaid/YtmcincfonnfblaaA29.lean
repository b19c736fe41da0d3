/-
  An abstract machine over values without memory, proved against the model; part 29. A tool for the proofs of this claim; it states nothing of the program.
-/
import Derived.Test.YtmcincfonnfblaaA28
/-! AM, part 29: one row that grows in a loop. -/
namespace Go.AM
open Go

/-- the slots, one by one: as they are, or the growing row with its token -/
inductive RVs (n0 k : Nat) : List PV → List PV → Prop where
  | nil : RVs n0 k [] []
  | same {x : PV} {xs xs' : List PV} (h : Low n0 x) (hs : RVs n0 k xs' xs) : RVs n0 k (x :: xs') (x :: xs)
  | row {es : List (List PV)} {xs xs' : List PV} (h : ∀ y ∈ es.flatten, Low n0 y) (hs : RVs n0 k xs' xs) : RVs n0 k (.list es (.tok k) :: xs') (.list es (.tok n0) :: xs)

theorem RVs.len {n0 k : Nat} {xs' xs : List PV} (h : RVs n0 k xs' xs) : xs'.length = xs.length := by
  induction h with
  | nil => rfl
  | same _ _ ih => simp [ih]
  | row _ _ ih => simp [ih]

theorem RVs.get {n0 k : Nat} {xs' xs : List PV} (h : RVs n0 k xs' xs) : ∀ (q : Nat) (x' x : PV), xs'[q]? = some x' → xs[q]? = some x → RelabV n0 (fun _ => k) x' x := by
  induction h with
  | nil => intro q x' x h1; simp at h1
  | same hl _ ih =>
    intro q x' x h1 h2
    cases q with
    | zero => simp at h1 h2; subst h1; subst h2; exact .inl ⟨rfl, hl⟩
    | succ q => exact ih q x' x (by simpa using h1) (by simpa using h2)
  | row hl _ ih =>
    intro q x' x h1 h2
    cases q with
    | zero => simp at h1 h2; subst h1; subst h2; exact .inr ⟨_, n0, rfl, rfl, Nat.le_refl _, hl⟩
    | succ q => exact ih q x' x (by simpa using h1) (by simpa using h2)

theorem RVs.tok {n0 k : Nat} {xs' xs : List PV} (h : RVs n0 k xs' xs) : ∀ (q : Nat) (es : List (List PV)) (o : Nat), xs[q]? = some (.list es (.tok o)) → o < n0 + 1 := by
  induction h with
  | nil => intro q es o h1; simp at h1
  | same hl _ ih =>
    intro q es o h1
    cases q with
    | zero =>
      simp at h1; subst h1
      cases hl with
      | list _ _ ht _ => have := ht o rfl; omega
    | succ q => exact ih q es o (by simpa using h1)
  | row hl _ ih =>
    intro q es o h1
    cases q with
    | zero => simp at h1; obtain ⟨_, h1⟩ := h1; omega
    | succ q => exact ih q es o (by simpa using h1)

/-- behind a round: the objects below stay, the row's new token is numbered n0 again -/
theorem relab_row {n0 k : Nat} {B X : Heap} {vs' vs : List PV} (hB : B.length = n0) (hlow : ∀ (o : Nat) cs, B[o]? = some (.cells cs) → ∀ x ∈ cs, Low n0 x) (hk : n0 ≤ k) (hX : (B ++ X)[k]? = some .tok) (hv : RVs n0 k vs' vs) :
    Relab n0 vs' (B ++ X) vs (B ++ [.tok]) := by
  refine ⟨by simp; omega, fun o ho => ?_, fun _ => k, fun o h1 h2 => ?_, fun o o' h1 h2 h3 h4 _ => ?_, hv.len, hv.get, fun q es o h => ?_⟩
  · have e1 : (B ++ [Ob.tok])[o]? = B[o]? := List.getElem?_append_left (by omega)
    have e2 : (B ++ X)[o]? = B[o]? := List.getElem?_append_left (by omega)
    rw [e1, e2]
    exact ⟨rfl, fun cs hc => hlow o cs hc⟩
  · simp at h2
    have : o = B.length := by omega
    subst this
    exact ⟨hk, by simp, hX⟩
  · simp at h2 h4; omega
  · have := hv.tok q es o h
    simp; omega

/-- behind the first round of a loop that begins with no row -/
theorem low_nil_cells {n0 : Nat} {B : Heap} (h : B.all (fun ob => match ob with | .cells _ => false | _ => true) = true) : ∀ (o : Nat) cs, B[o]? = some (.cells cs) → ∀ x ∈ cs, Low n0 x := by
  intro o cs ho
  have := List.all_eq_true.1 h _ (List.mem_iff_getElem?.2 ⟨o, ho⟩)
  simp at this

#print axioms relab_row
end Go.AM
