/-
  An abstract machine over values without memory, proved against the model; part 43. A tool for the proofs of this claim; it states nothing of the program.
-/
import Derived.Test.YtmcincfonnfblaaA42
/-! AM, part 43: a loop that lays an element behind a row in some of its rounds. -/
namespace Go.AM
open Go

theorem relab_base {n0 : Nat} {B X : Heap} {vs : List PV} (hB : B.length = n0) (hlow : ∀ (o : Nat) cs, B[o]? = some (.cells cs) → ∀ x ∈ cs, Low n0 x) (hv : ∀ v ∈ vs, Low n0 v) : Relab n0 vs (B ++ X) vs B := by
  refine ⟨by omega, fun o ho => ?_, fun _ => 0, fun o h1 h2 => by omega, fun o o' h1 h2 _ _ _ => by omega, rfl, fun q x' x h1 h2 => ?_, fun q es o h => ?_⟩
  · exact ⟨(List.getElem?_append_left (by omega)).symm, fun cs hc => hlow o cs hc⟩
  · rw [h1] at h2; cases h2
    exact .inl ⟨rfl, hv _ (List.mem_iff_getElem?.2 ⟨q, h1⟩)⟩
  · have := hv _ (List.mem_iff_getElem?.2 ⟨q, h⟩)
    cases this with
    | list _ _ ht _ => rw [hB]; exact ht o rfl

/-- the row's tail and the objects, by what the row holds -/
def tlL {α : Type} (n0 : Nat) : List α → Tail
  | [] => .exact
  | _ :: _ => .tok n0
def hpL {α : Type} (B : Heap) : List α → Heap
  | [] => B
  | _ :: _ => B ++ [.tok]
theorem hpL_len {α : Type} (B : Heap) (l : List α) : B.length ≤ (hpL B l).length := by cases l <;> simp [hpL]
theorem tlL_ne {α : Type} {n0 : Nat} {l : List α} (h : l ≠ []) : tlL n0 l = .tok n0 := by cases l <;> first | exact absurd rfl h | rfl
theorem hpL_ne {α : Type} {B : Heap} {l : List α} (h : l ≠ []) : hpL B l = B ++ [.tok] := by cases l <;> first | exact absurd rfl h | rfl
theorem pad_L {α : Type} (B : Heap) (l : List α) : Pad (hpL B l) (B ++ [.dead]) := by
  cases l with
  | nil => exact pad_dead B
  | cons a l => exact pad_kill B .tok

/-- what a round must bring -/
def growQ {α σ : Type} (f : α → List PV) (acc : σ → List α) (I : σ → Prop) (m : σ → Nat) (Q : Ex → Env → Heap → Prop) (B : Heap) (slots : List Nat) (V : PV → σ → List PV) (s : σ) : Ex → List PV → Heap → Prop := fun ex vs H' => match ex with
  | .normal => ∃ s', m s' < m s ∧ I s' ∧ ((acc s' = [] ∧ ∃ X, H' = B ++ X ∧ vs = V (.list [] .exact) s') ∨ (acc s' ≠ [] ∧ ∃ X k, H' = B ++ X ∧ (B ++ X)[k]? = some .tok ∧ B.length ≤ k ∧ vs = V (.list ((acc s').map f) (.tok k)) s'))
  | .exit j => ∃ vs2 H2, WkL vs vs2 ∧ Pad H' H2 ∧ Q (.exit j) (envS slots vs2) H2
  | .ret => ∃ vs2 H2, WkL vs vs2 ∧ Pad H' H2 ∧ Q .ret (envS slots vs2) H2

theorem aw_growif {α σ : Type} {f : α → List PV} {acc : σ → List α} {I : σ → Prop} {m : σ → Nat} {P : Program} {gl : Glob} (hgl : GlobLow gl) {n : Nat} {Tb : Tab} (hT : TabOk P gl Tb) {L : LTab} {hn : Oper → Nat} {x : Code} (hL : LOk P gl n x [] L) {Q : Ex → Env → Heap → Prop} {e : Env} {H : Heap} (slots : List Nat) (V : PV → σ → List PV) (B : Heap) (s0 : σ)
    (hlow : ∀ (o : Nat) cs, B[o]? = some (.cells cs) → ∀ x ∈ cs, Low B.length x) (hf : ∀ s, I s → ∀ a ∈ acc s, ∀ x ∈ f a, Low B.length x)
    (hrv : ∀ (es : List (List PV)) (s : σ) (k : Nat), I s → (∀ y ∈ es.flatten, Low B.length y) → RVs B.length k (V (.list es (.tok k)) s) (V (.list es (.tok B.length)) s))
    (hv : ∀ s, I s → ∀ v ∈ V (.list [] .exact) s, Low B.length v)
    (h0 : I s0) (ha : acc s0 = []) (he : slots.map e = V (.list [] .exact) s0) (hH : H = B)
    (none : ∀ s, I s → acc s = [] → Holds (wpc br P gl Tb L hn x [] (envS slots (V (.list [] .exact) s)) B (fun ex e' H' => growQ f acc I m Q B slots V s ex (slots.map e') H')))
    (some : ∀ s, I s → acc s ≠ [] → Holds (wpc br P gl Tb L hn x [] (envS slots (V (.list ((acc s).map f) (.tok B.length)) s)) (B ++ [.tok]) (fun ex e' H' => growQ f acc I m Q B slots V s ex (slots.map e') H'))) : AW P gl n (.loop x) Q e H := by
  subst hH
  have key : ∀ s, I s → ∀ ex vs H', growQ f acc I m Q H slots V s ex vs H' → loopP Q H.length slots I (fun s => V (.list ((acc s).map f) (tlL H.length (acc s))) s) (fun s => hpL H (acc s)) m s ex vs H' := by
    intro s hs ex vs H' h
    cases ex with
    | exit j => exact h
    | ret => exact h
    | normal =>
      obtain ⟨s', h1, h2, h3⟩ := h
      refine ⟨s', h1, h2, ?_⟩
      rcases h3 with ⟨h3, X, rfl, rfl⟩ | ⟨h3, X, k, rfl, h5, h6, rfl⟩
      · simp only [h3, List.map_nil, tlL, hpL]
        exact relab_base rfl hlow (hv s' h2)
      · have r := relab_row (X := X) rfl hlow h6 h5 (hrv _ _ _ h2 (low_map fun a ha => hf s' h2 a ha))
        have e1 := tlL_ne (n0 := H.length) h3
        have e2 := hpL_ne (B := H) h3
        rw [← e1, ← e2] at r
        exact r
  refine aw_loop6a hgl (σ := σ) slots I (fun s => V (.list ((acc s).map f) (tlL H.length (acc s))) s) (fun s => hpL H (acc s)) m s0 h0 (by rw [ha]; exact he) (by rw [ha]; rfl) ?_
  intro s hs
  cases hq : acc s with
  | nil => exact (wpc_sound hT x [] hL _ _ _ (none s hs hq).out).mono fun ex e' H' k => key s hs ex _ H' k
  | cons a l =>
    have hne : acc s ≠ [] := by rw [hq]; simp
    have := (wpc_sound hT x [] hL _ _ _ (some s hs hne).out).mono fun ex e' H' k => key s hs ex _ H' k
    rw [hq] at this
    exact this

#print axioms aw_growif
end Go.AM
