/-
  An abstract machine over values without memory, proved against the model; part 37. A tool for the proofs of this claim; it states nothing of the program.
-/
import Derived.Test.YtmcincfonnfblaaA36
/-! AM, part 37: a loop that lays one element a round behind a row. -/
namespace Go.AM
open Go

/-- what a round must bring -/
def growP {α : Type} (f : α → List PV) (T : List α) (Q : Ex → Env → Heap → Prop) (B : Heap) (slots : List Nat) (V : PV → Nat → List PV) (i : Nat) : Ex → List PV → Heap → Prop := fun ex vs H' => match ex with
  | .normal => i < T.length ∧ ∃ X k, H' = B ++ X ∧ (B ++ X)[k]? = some .tok ∧ B.length ≤ k ∧ vs = V (.list ((T.take (i + 1)).map f) (.tok k)) (i + 1)
  | .exit j => ∃ vs2 H2, WkL vs vs2 ∧ Pad H' H2 ∧ Q (.exit j) (envS slots vs2) H2
  | .ret => ∃ vs2 H2, WkL vs vs2 ∧ Pad H' H2 ∧ Q .ret (envS slots vs2) H2

theorem aw_grow {α : Type} {f : α → List PV} {T : List α} {P : Program} {gl : Glob} (hgl : GlobLow gl) {n : Nat} {Tb : Tab} (hT : TabOk P gl Tb) {L : LTab} {hn : Oper → Nat} {x : Code} (hL : LOk P gl n x [] L) {Q : Ex → Env → Heap → Prop} {e : Env} {H : Heap} (slots : List Nat) (V : PV → Nat → List PV) (B : Heap)
    (hlow : ∀ (o : Nat) cs, B[o]? = some (.cells cs) → ∀ x ∈ cs, Low B.length x) (hf : ∀ a ∈ T, ∀ x ∈ f a, Low B.length x)
    (hrv : ∀ (es : List (List PV)) (i k : Nat), (∀ y ∈ es.flatten, Low B.length y) → RVs B.length k (V (.list es (.tok k)) i) (V (.list es (.tok B.length)) i))
    (he : slots.map e = V (.list [] .exact) 0) (hH : H = B)
    (first : Holds (wpc br P gl Tb L hn x [] (envS slots (V (.list [] .exact) 0)) B (fun ex e' H' => growP f T Q B slots V 0 ex (slots.map e') H')))
    (later : ∀ i, 0 < i → i ≤ T.length → Holds (wpc br P gl Tb L hn x [] (envS slots (V (.list ((T.take i).map f) (.tok B.length)) i)) (B ++ [.tok]) (fun ex e' H' => growP f T Q B slots V i ex (slots.map e') H'))) : AW P gl n (.loop x) Q e H := by
  subst hH
  have key : ∀ i, i ≤ T.length → ∀ ex vs H', growP f T Q H slots V i ex vs H' → loopP Q H.length slots (fun i => i ≤ T.length) (fun i => V (.list ((T.take i).map f) (tlG H.length i)) i) (fun i => hpG H i) (fun i => T.length - i) i ex vs H' := by
    intro i hi ex vs H' h
    cases ex with
    | exit j => exact h
    | ret => exact h
    | normal =>
      obtain ⟨hlt, X, k, rfl, h2, h3, rfl⟩ := h
      refine ⟨i + 1, (show T.length - (i + 1) < T.length - i by omega), hlt, ?_⟩
      exact relab_row rfl hlow h3 h2 (hrv _ _ _ (low_map fun a ha => hf a (List.mem_of_mem_take ha)))
  refine aw_loop6a hgl (σ := Nat) slots (fun i => i ≤ T.length) (fun i => V (.list ((T.take i).map f) (tlG H.length i)) i) (fun i => hpG H i) (fun i => T.length - i) 0 (Nat.zero_le _) (by simpa [tlG] using he) rfl ?_
  intro i hi
  cases i with
  | zero => exact (wpc_sound hT x [] hL _ _ _ first.out).mono fun ex e' H' k => key 0 hi ex _ H' k
  | succ i => exact (wpc_sound hT x [] hL _ _ _ (later (i + 1) (Nat.succ_pos i) hi).out).mono fun ex e' H' k => key (i + 1) hi ex _ H' k
end Go.AM
