/-
  An abstract machine over values without memory, proved against the model; part 41. A tool for the proofs of this claim; it states nothing of the program.
-/
import Derived.Test.YtmcincfonnfblaaA40
/-! AM, part 41: a call that makes a row of the caller's own, with its spare room, whatever there is besides. -/
namespace Go.AM
open Go

theorem renL_low {ρ : Nat → Nat} {n : Nat} : ∀ {xs : List PV}, (∀ x ∈ xs, Low 0 x) → RenL ρ n xs xs
  | [], _ => .nil
  | x :: xs, h => .cons (.low (h x (by simp))) (renL_low fun y hy => h y (by simp [hy]))

theorem mk_of {P : Program} {gl : Glob} (hgl : GlobLow gl) {f : FuncId} {args args' : List PV} {es : List (List PV)} (hw : WkL args args') (ha : ∀ x ∈ args', Low 0 x) (hl : ∀ x ∈ es.flatten, Low 0 x)
    (h : ACalls P gl f args' [] (fun x H' => (es = [] → x = .list [] .exact) ∧ (es ≠ [] → ∃ o, x = .list es (.tok o) ∧ H'[o]? = some .tok))) (H : Heap) :
    ACalls P gl f args H (fun x H' => (es = [] → x = .list [] .exact ∧ H' = H) ∧ (es ≠ [] → x = .list es (.tok H.length) ∧ H' = H ++ [.tok])) := by
  refine acalls_args hw (acalls_frame hgl (X := []) (ρ := fun o => o) ⟨by simp, by simp, by simp⟩ (renL_low ha) (acalls_rename hgl (h.mono ?_)))
  rintro x H' ⟨h1, h2⟩
  by_cases h0 : es = []
  · refine ⟨.list [] .exact, [], fun o => o, ⟨by simp, by simp, by simp⟩, by simp, by simp, ?_, .list [] .exact, H, ⟨by simp, by simp, by simp, fun o _ _ => rfl⟩, ?_, fun _ => ⟨rfl, rfl⟩, fun k => absurd h0 k⟩
    · rw [h1 h0]; exact .low (.list _ _ (by intro o e; cases e) (by simp))
    · exact .low (.list _ _ (by intro o e; cases e) (by simp))
  · obtain ⟨o, rfl, ho⟩ := h2 h0
    have hol : o < H'.length := (List.getElem?_eq_some_iff.1 ho).1
    refine ⟨.list es (.tok 0), [.tok], fun _ => o, ⟨fun _ _ => hol, fun a b ha hb _ => by simp at ha hb; omega, fun j a h1 => ?_⟩, by simp, by simp, .ltok _ 0 (by simp) hl, .list es (.tok H.length), H ++ [.tok], ⟨by simp, by simp, fun j a h1 => ?_, fun o h1 _ => ?_⟩, ?_, fun k => absurd k h0, fun _ => ⟨rfl, rfl⟩⟩
    · have : j = 0 := by have := (List.getElem?_eq_some_iff.1 h1).1; simpa using this
      subst this; cases h1
      exact ⟨_, ho, .tok⟩
    · have : j = 0 := by have := (List.getElem?_eq_some_iff.1 h1).1; simpa using this
      subst this; cases h1
      exact ⟨.tok, by simp [ρext], .tok, fun _ => rfl⟩
    · rw [List.getElem?_append_left h1]
    · have := Ren.ltok (ρ := ρext (fun o => o) ([] : Heap).length H.length) (n := 1) es 0 (by omega) hl
      simpa [ρext] using this

#print axioms mk_of
end Go.AM
