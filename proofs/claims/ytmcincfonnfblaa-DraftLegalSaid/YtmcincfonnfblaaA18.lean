/-
  An abstract machine over values without memory, proved against the model; part 18. A tool for the proofs of this claim; it states nothing of the program.
-/
import Derived.Test.YtmcincfonnfblaaA17
import Derived.Carry
import Derived.ChangeShapes
/-! AM, part 18: from a function's contract over pure values to the row's call. -/
namespace Go.AM
open Go Go.RowKit

/-- an argument of a type -/
def WTa (P : Program) (k : Nat) (t : TypeId) (x : PV) : Prop :=
  match P.underlying t with
  | some (.struct _) | some (.array _ _) => ∃ cs, x = .agg cs ∧ WTp P k t cs
  | _ => WTp P k t [x]

def WTargs (P : Program) (k : Nat) : List TypeId → List PV → Prop
  | [], xs => xs = []
  | t :: ts, xs => ∃ x xs', xs = x :: xs' ∧ WTa P k t x ∧ WTargs P k ts xs'

theorem wta_of {H : Type} {enc : TypeId × Value → H} {P : Program} {W : World} {base b0 : Nat} {r : Reach} {spare : Nat → Bool} {held : Bool} {k : Nat} {t : TypeId} {v : Value} {d : DataW H} {ps : List MemPlace}
    (hf : fine P k t = true) (hval : Value.okWide P W r b0 t v) (h : DataW.Trod enc P W base spare held t v d ps) : ∃ x, Rel (gh0 W) W x v ∧ WTa P k t x := by
  obtain ⟨n, h⟩ := h
  obtain ⟨xs, hx, hw⟩ := rel_of_trod k n t _ _ hf h
  have one : ∀ {v' : Value}, v = v' → v'.cells.toList = [v'] → (∀ y, xs = [y] → WTa P k t y) → ∃ x, Rel (gh0 W) W x v ∧ WTa P k t x := by
    intro v' e hc hwt
    subst e
    rw [hc] at hx
    obtain ⟨y, rfl⟩ := List.length_eq_one_iff.1 hx.1
    exact ⟨y, hx.2 0 y v rfl rfl, hwt y rfl⟩
  cases k with
  | zero => simp [fine] at hf
  | succ k =>
    unfold fine at hf
    unfold Value.okWide at hval
    cases hu : P.underlying t with
    | none => rw [hu] at hf; simp at hf
    | some ty =>
      rw [hu] at hf hval
      have hwta : ∀ y, xs = [y] → (∀ fs, ty ≠ .struct fs) → (∀ n e, ty ≠ .array n e) → WTa P (k + 1) t y := by
        intro y e h1 h2
        subst e
        unfold WTa
        rw [hu]
        cases ty <;> first | exact hw | exact absurd rfl (h1 _) | exact absurd rfl (h2 _ _)
      have agg : ∀ cs, v = .agg cs → (∀ y, WTp P (k + 1) t y → WTa P (k + 1) t (.agg y)) → ∃ x, Rel (gh0 W) W x v ∧ WTa P (k + 1) t x := by
        intro cs e hy
        subst e
        exact ⟨.agg xs, Rel.agg_iff.2 ⟨cs, rfl, hx⟩, hy _ hw⟩
      cases ty with
      | bool =>
        obtain ⟨b, e⟩ := WideShapes.okWide_bool hu (by unfold Value.okWide; rw [hu]; exact hval)
        exact one e rfl fun y hy => hwta y hy (fun _ h => by cases h) (fun _ _ h => by cases h)
      | int kd =>
        obtain ⟨b, e⟩ := WideShapes.okWide_int hu (by unfold Value.okWide; rw [hu]; exact hval)
        exact one e rfl fun y hy => hwta y hy (fun _ h => by cases h) (fun _ _ h => by cases h)
      | string =>
        obtain ⟨b, e⟩ := WideShapes.okWide_string hu (by unfold Value.okWide; rw [hu]; exact hval)
        exact one e rfl fun y hy => hwta y hy (fun _ h => by cases h) (fun _ _ h => by cases h)
      | slice e' =>
        obtain ⟨a, l, c, e⟩ := WideShapes.okWide_slice hu (by unfold Value.okWide; rw [hu]; exact hval)
        exact one e rfl fun y hy => hwta y hy (fun _ h => by cases h) (fun _ _ h => by cases h)
      | struct fs =>
        obtain ⟨cs, e, _⟩ := hval
        exact agg cs e fun y hy => by unfold WTa; rw [hu]; exact ⟨y, rfl, hy⟩
      | array m e' =>
        obtain ⟨cs, e, _⟩ := hval
        exact agg cs e fun y hy => by unfold WTa; rw [hu]; exact ⟨y, rfl, hy⟩
      | _ => simp at hf

theorem args_of {H : Type} {enc : TypeId × Value → H} {P : Program} {W : World} {base b0 : Nat} {r : Reach} {spare : Nat → Bool} {held : Bool} {k : Nat} : ∀ {ts : List TypeId} {vs : List Value} {ds : List (DataW H)} {ps : List MemPlace},
    ts.all (fine P k) = true → (∀ (j : Nat) t v, ts[j]? = some t → vs[j]? = some v → Value.okWide P W r b0 t v) → DataW.TrodAll enc P W base spare held ts vs ds ps →
    ∃ xs, RelL (gh0 W) W xs vs ∧ WTargs P k ts xs
  | [], [], [], _, _, _, _ => ⟨[], .nil, rfl⟩
  | t :: ts, v :: vs, d :: ds, ps, hf, hval, ⟨p, q, h1, h2, _⟩ => by
    simp only [List.all_cons, Bool.and_eq_true] at hf
    obtain ⟨x, hx, hw⟩ := wta_of hf.1 (hval 0 t v rfl rfl) h1
    obtain ⟨xs, e1, e2⟩ := args_of hf.2 (fun j t v ht hv => hval (j + 1) t v (by simpa using ht) (by simpa using hv)) h2
    exact ⟨x :: xs, .cons hx e1, x, xs, rfl, hw, e2⟩
  | [], _ :: _, _, _, _, _, h => h.elim
  | [], [], _ :: _, _, _, _, h => h.elim
  | _ :: _, [], _, _, _, _, h => h.elim
  | _ :: _, _ :: _, [], _, _, _, h => h.elim

theorem below_trodAll {H : Type} {enc : TypeId × Value → H} {P : Program} (hl : laidOutB P = true) {W W' : World} (hb : Below W.heap.size W W') : ∀ {ts : List TypeId} {vs : List Value} {ds : List (DataW H)} {ps : List MemPlace},
    ts.all (fun t => P.readableRec t && decide (t < P.types.size)) = true → DataW.TrodAll enc P W 0 (fun _ => true) true ts vs ds ps → DataW.TrodAll enc P W' 0 (fun b => decide (b < W.heap.size)) true ts vs ds ps
  | [], [], [], _, _, h => h
  | t :: ts, v :: vs, d :: ds, ps, hf, ⟨p, q, h1, h2, h3⟩ => by
    simp only [List.all_cons, Bool.and_eq_true, decide_eq_true_eq] at hf
    refine ⟨p, q, Below.trod hl hf.1.1 hf.1.2 h1 hb ?_, below_trodAll hl hb hf.2 h2, h3⟩
    obtain ⟨m, hm⟩ := h1
    exact DataW.trod_lt m _ _ _ hm
  | [], _ :: _, _, _, _, h => h.elim
  | [], [], _ :: _, _, _, h => h.elim
  | _ :: _, [], _, _, _, h => h.elim
  | _ :: _, _ :: _, [], _, _, h => h.elim

/-- the globals that a row lays: their cells, in a world -/
theorem globOk_of {W : World} {gl : Glob} (h : ∀ k cs, gl k = some cs → ∃ vs : List Value, RelL (gh0 W) W cs vs ∧ ∀ q, q < vs.length → W.cell? ⟨k, q, none⟩ = vs[q]?) : GlobOk (gh0 W) W gl := by
  intro k cs hk
  obtain ⟨vs, h1, h2⟩ := h k cs hk
  refine ⟨rfl, fun q x hx => ?_⟩
  obtain ⟨v, hv, hr⟩ := h1.get hx
  have hq := (List.getElem?_eq_some_iff.1 hv).1
  have hc := h2 q hq
  rw [hv] at hc
  have e : At ⟨k, 0, none⟩ q = ⟨k, q, none⟩ := by simp [At]
  rw [e]
  exact ⟨(cells_lt (A := ⟨k, q, none⟩) hc : k < W.heap.size), v, hc, hr⟩

theorem calls_of_acalls {P : Program} {gl : Glob} {f : FuncId} {xs : List PV} {W : World} {args : Array Value} (hg : GlobOk (gh0 W) W gl) (hr : RelL (gh0 W) W xs args.toList)
    (h : ACalls P gl f xs [] (fun x _ => x = .bool true)) : Calls P f args W fun e W' => e = .returned (.bool true) ∧ Below W.heap.size W W' := by
  refine (h (gh0 W) W args (sim0 W) hg hr).mono ?_
  rintro e W' ⟨v, g', H', x, rfl, _, hx, hv, rfl⟩
  cases hv
  exact ⟨rfl, below_of_ext hx⟩

#print axioms calls_of_acalls
end Go.AM
