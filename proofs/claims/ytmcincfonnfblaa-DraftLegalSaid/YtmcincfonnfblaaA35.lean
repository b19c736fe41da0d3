/-
  An abstract machine over values without memory, proved against the model; part 35. A tool for the proofs of this claim; it states nothing of the program.
-/
import Derived.Test.YtmcincfonnfblaaA34
/-! AM, part 35: words for objects; rows of a kind of their own. -/
namespace Go.AM
open Go

/-- such a whole stands there -/
def AbIs (H : Heap) (o : Nat) (r : Rep) : Prop := H[o]? = some (.abs r)
/-- such cells stand there -/
def CeIs (H : Heap) (o : Nat) (cs : List PV) : Prop := H[o]? = some (.cells cs)

/-- rows out of a kind of their own -/
theorem inL_map {α : Type} {f : α → List PV} {sz : Nat} (hf : ∀ a, (f a).length = sz) (h0 : sz ≠ 0) (l : List α) (i : Nat) : InL (l.map f) sz (i : Int) = (i < l.length) := by
  apply propext
  constructor
  · intro h; have := h.2.1; simpa using this
  · intro h
    refine ⟨by omega, by simpa using h, ?_, h0⟩
    intro e he
    simp only [List.mem_map] at he
    obtain ⟨a, _, rfl⟩ := he
    exact hf a
theorem inL_map_int {α : Type} {f : α → List PV} {sz : Nat} (hf : ∀ a, (f a).length = sz) (h0 : sz ≠ 0) (l : List α) (i : Int) : InL (l.map f) sz i = (0 ≤ i ∧ i < l.length) := by
  apply propext
  constructor
  · intro h; have h1 := h.1; have := h.2.1; simp at this; omega
  · intro h
    refine ⟨h.1, by simp; omega, ?_, h0⟩
    intro e he
    simp only [List.mem_map] at he
    obtain ⟨a, _, rfl⟩ := he
    exact hf a
theorem getD_map {α : Type} {f : α → List PV} {l : List α} {i : Nat} (d : α) (h : i < l.length) : (l.map f).getD i [] = f (l.getD i d) := by
  rw [List.getD_eq_getElem?_getD, List.getElem?_map, List.getElem?_eq_getElem h, List.getD_eq_getElem?_getD, List.getElem?_eq_getElem h]; rfl
theorem uni_map {α : Type} {f : α → List PV} {sz : Nat} (hf : ∀ a, (f a).length = sz) (l : List α) : uni sz (l.map f) := by
  intro e he
  simp only [List.mem_map] at he
  obtain ⟨a, _, rfl⟩ := he
  exact hf a
theorem low_map {α : Type} {f : α → List PV} {n : Nat} {l : List α} (hf : ∀ a ∈ l, ∀ x ∈ f a, Low n x) : ∀ x ∈ (l.map f).flatten, Low n x := by
  intro x hx
  obtain ⟨e, he, hx⟩ := List.mem_flatten.1 hx
  simp only [List.mem_map] at he
  obtain ⟨a, ha, rfl⟩ := he
  exact hf a ha x hx
theorem flat_len {α : Type} {f : α → List PV} {sz : Nat} (hf : ∀ a, (f a).length = sz) : ∀ l : List α, (l.map f).flatten.length = l.length * sz
  | [] => by simp
  | a :: l => by rw [List.map_cons, List.flatten_cons, List.length_append, hf, flat_len hf l, List.length_cons, Nat.succ_mul]; omega

/-- a whole number, said to be one -/
abbrev iI (n : Int) : Int := n
theorem bt (b : Bool) : ((b == true) = true) = (b = true) := by cases b <;> simp
theorem bf (b : Bool) : ((b == false) = true) = (b = false) := by cases b <;> simp
theorem beq_S (a b : ByteArray) : ((a == b) = true) = (a = b) := by
  cases a with | mk a => cases b with | mk b =>
  apply propext
  show (a == b) = true ↔ _
  simp
theorem bne_S (a b : ByteArray) : ((a != b) = true) = (a ≠ b) := by
  rw [bne, Bool.not_eq_true', Bool.eq_false_iff, ne_eq, beq_S]
theorem beq_Sf (a b : ByteArray) : ((a == b) = false) = (a ≠ b) := by
  rw [Bool.eq_false_iff, ne_eq, beq_S]
theorem bne_Sf (a b : ByteArray) : ((a != b) = false) = (a = b) := by
  apply propext
  rw [Bool.eq_false_iff, ne_eq, bne_S]
  exact ⟨fun h => Classical.byContradiction h, fun h k => k h⟩
theorem beq_I (a b : Int) : ((a == b) = true) = (a = b) := by simp
theorem bne_I (a b : Int) : ((a != b) = true) = (a ≠ b) := by simp
theorem beq_If (a b : Int) : ((a == b) = false) = (a ≠ b) := by simp
theorem bne_If (a b : Int) : ((a != b) = false) = (a = b) := by simp
theorem dt (p : Prop) [Decidable p] : (decide p = true) = p := by simp
theorem df (p : Prop) [Decidable p] : (decide p = false) = (¬ p) := by simp

theorem if_or {α : Type} (p q : Prop) [Decidable p] [Decidable q] (x y : α) : (if p ∨ q then x else y) = (if p then x else if q then x else y) := by
  by_cases h : p
  · rw [if_pos (.inl h), if_pos h]
  · by_cases k : q
    · rw [if_pos (.inr k), if_neg h, if_pos k]
    · rw [if_neg (fun e => e.elim h k), if_neg h, if_neg k]

theorem ite_bool {α : Type} (b : Bool) (x y : α) : (if b = true then x else y) = (match b with | true => x | false => y) := by cases b <;> rfl

end Go.AM
