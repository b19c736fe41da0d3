/-
  An abstract machine over values without memory, proved against the model; part 30. A tool for the proofs of this claim; it states nothing of the program.
-/
import Derived.Test.YtmcincfonnfblaaA29
/-! AM, part 30: what stands at a place of a row, for use by simp. -/
namespace Go.AM
open Go

theorem inL_en1 (k : IntKind) (ns : List Int) (i : Nat) : InL (en1 k ns) 1 (i : Int) = (i < ns.length) := by
  apply propext
  constructor
  · intro h; have := h.2.1; rw [en1_length] at this; simpa using this
  · intro h; exact en1_in k ns i (by omega) (by omega)
theorem inL_en1_int (k : IntKind) (ns : List Int) (i : Int) : InL (en1 k ns) 1 i = (0 ≤ i ∧ i < ns.length) := by
  apply propext
  constructor
  · intro h; refine ⟨h.1, ?_⟩; have h1 := h.1; have := h.2.1; rw [en1_length] at this; omega
  · intro h; exact en1_in k ns i h.1 h.2
theorem fitg_en1 (k : IntKind) (ns : List Int) (i : Nat) : fitX [CK.int k] 0 ((en1 k ns).getD i []) = decide (i < ns.length) := by
  by_cases h : i < ns.length
  · rw [fit_get k ns i h, decide_eq_true h]
  · rw [List.getD_eq_getElem?_getD, List.getElem?_eq_none (by rw [en1_length]; omega), decide_eq_false h]
    simp [fitX, fit1]
theorem toNat_nat (i : Nat) : Int.toNat (i : Int) = i := rfl
theorem decide_natlt (i n : Nat) : decide ((i : Int) < (n : Int)) = decide (i < n) := by simp

/-- a row's end -/
theorem take_snoc {α : Type} {T : List α} {i : Nat} (d : α) (h : i < T.length) : T.take (i + 1) = T.take i ++ [T.getD i d] := by
  rw [List.take_succ_eq_append_getElem h, List.getD_eq_getElem?_getD, List.getElem?_eq_getElem h]; rfl
theorem drop_cons {α : Type} {T : List α} {i : Nat} (d : α) (h : i < T.length) : T.drop i = T.getD i d :: T.drop (i + 1) := by
  rw [List.drop_eq_getElem_cons h, List.getD_eq_getElem?_getD, List.getElem?_eq_getElem h]; rfl
theorem take_all {α : Type} {T : List α} {i : Nat} (h : ¬ i < T.length) : T.take i = T := List.take_of_length_le (by omega)
theorem drop_all {α : Type} {T : List α} {i : Nat} (h : ¬ i < T.length) : T.drop i = [] := List.drop_of_length_le (by omega)
theorem wrap_small {n : Int} (h0 : -9223372036854775808 ≤ n) (h1 : n ≤ 9223372036854775807) : IntKind.wrap .i64 n = n := wrap_i64 h0 h1
theorem wrap_succ {i n : Nat} (h : i < n) (hn : (n : Int) ≤ 4611686018427387904) : IntKind.wrap .i64 ((i : Int) + 1) = ((i + 1 : Nat) : Int) := by
  rw [wrap_i64 (by omega) (by omega)]; rfl

end Go.AM
