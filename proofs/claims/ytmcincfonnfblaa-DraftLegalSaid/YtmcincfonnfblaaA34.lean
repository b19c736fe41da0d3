/-
  An abstract machine over values without memory, proved against the model; part 34. A tool for the proofs of this claim; it states nothing of the program.
-/
import Derived.Test.YtmcincfonnfblaaA33
import Derived.Laws.Externs
/-! AM, part 34: pieces of code by a summary; the library's 'do these overlap'. -/
namespace Go.AM
open Go

/-- the piece of code at a place -/
def atOf (p : List Nat) (c : Code) : Code := (sub p c).getD .skip
theorem at_of {p : List Nat} {c : Code} (h : (sub p c).isSome = true) : sub p c = some (atOf p c) := by
  unfold atOf
  cases hq : sub p c with
  | none => rw [hq] at h; cases h
  | some x => rfl

/-- A PIECE: some slots hold so ahead of it; some are asked behind it -/
theorem aw_piece {P : Program} {gl : Glob} {n : Nat} {T : Tab} (hT : TabOk P gl T) {L : LTab} {hn : Oper → Nat} {x : Code} (hL : LOk P gl n x [] L) {Q : Ex → Env → Heap → Prop} {e : Env} {H X : Heap} {slots outs : List Nat} {vals : List PV}
    (he : SlIs (slots.map e) vals) (hH : HpIs H X) (h : Holds (wpc br P gl T L hn x [] (envS slots vals) X (fun ex e' H' => (fun ex vs H' => Q ex (envS outs vs) H') ex (outs.map e') H'))) : AW P gl n x Q e H := by
  have he : slots.map e = vals := he
  have hH : H = X := hH
  subst hH
  refine AW.of_le (e1 := envS slots vals) (by rw [← he]; exact envS_le e slots) (AW.weaken ((wpc_sound hT x [] hL _ _ _ h.out).mono fun ex e' H' k => ?_))
  exact ⟨envS outs (outs.map e'), envS_le e' outs, k⟩

/-- the library's 'do these overlap': a list, and a row of the call's own -/
def overlaps_s (args : List PV) (H : Heap) (K : PV → Prop) : Prop := match args with
  | [.list es _, .arr o _ _ _] => es.flatten ≠ [] ∧ (match H[o]? with | some (.cells (_ :: _)) => True | _ => False) ∧ K (.bool false)
  | _ => False

theorem overlaps_run {P : Program} {g : Gh} {H : Heap} {w : World} (hS : Sim g H w) {params rs : Array TypeId} {t e : TypeId} {b : Bool} {sz : Nat} (hp : params[0]? = some t) (ht : P.underlying t = some (.slice e)) (he : tyA P e = some (b, sz))
    {es : List (List PV)} {tl : Tail} {o off len cap : Nat} {cs : List PV} {c : PV} (hne : es.flatten ≠ []) (ho : H[o]? = some (.cells (c :: cs))) {v u : Value} (hv : Rel g w (.list es tl) v) (hu : Rel g w (.arr o off len cap) u) :
    (Extern.SlicesOverlaps.overlaps params rs #[v, u]).run P w = .ok (.bool false) w := by
  obtain ⟨a, cap', rfl, _, _, _, hc⟩ := Rel.list_iff.1 hv
  rcases hc with hc | ⟨A, rfl, hA, hrow⟩
  · exact absurd hc hne
  obtain ⟨x0, hx0⟩ : ∃ x, es.flatten[0]? = some x := by
    cases hq : es.flatten with
    | nil => exact absurd hq hne
    | cons x xs => exact ⟨x, rfl⟩
  obtain ⟨hi, c0, hc0, _⟩ := hrow 0 x0 hx0
  cases hu with
  | arr _ _ _ _ hog =>
  obtain ⟨⟨C, ty, hC, hr⟩, hni⟩ := hS.cells o _ ho
  have hblk : A.block ≠ g.bk o := fun e' => hni (A.off + 0) (by rw [← e']; exact hi)
  have hshA : ∃ ty' n, w.shape? A.block = some (ty', n + 1) := by
    unfold World.cell? at hc0
    simp only [At] at hc0
    unfold World.shape?
    split at hc0
    · rename_i C' ty' fr hb'
      have hne : C'.size ≠ 0 := by
        simp only [Option.isSome_none, Bool.false_eq_true, if_false] at hc0
        have := (Array.getElem?_eq_some_iff.1 hc0).1; omega
      refine ⟨ty', C'.size - 1, ?_⟩
      rw [show C'.size - 1 + 1 = C'.size by omega]
    · cases hc0
  obtain ⟨ty', n, hp'⟩ := hshA
  have hshB : w.shape? (g.bk o) = some (ty, C.size) := by unfold World.shape?; rw [hC]
  have hCs : C.size ≠ 0 := by have := hr.1; simp at this; omega
  have hfrB : ∀ q, w.frozen? ⟨g.bk o, q, none⟩ = false := fun q => frozen_of_block hC q
  have hb1 : (A.block == g.bk o) = false := by simpa using hblk
  have hb2 : (A.block != g.bk o) = true := by simpa using hblk
  delta Extern.SlicesOverlaps.overlaps
  conv => lhs; arg 2; whnf
  simp only [hp, Sem.run_bind, run_under ht, Result.andThen_ok, run_sizeOf he]
  by_cases hz : es.length = 0 ∨ len = 0 ∨ sz = 0
  · rw [if_pos hz]; rfl
  · rw [if_neg hz]
    simp only [hb2, hb1, hfrB, Sem.run_bind, run_frozen, Result.andThen_ok, Bool.true_and, Bool.and_false, Bool.false_eq_true, if_false, if_true, Bool.false_and, Sem.run_pure, noView, viewAt, run_shape, hp', hshB, Option.isSome_some, Option.isSome_none, mayBeOne, stringish]
    by_cases hfA : w.frozen? A = true
    · simp [hfA, hCs, hp', hshB, hfrB]
    · simp [hfA, hCs, hp', hshB, hfrB]

theorem overlaps_ok {P : Program} {gl : Glob} {f : FuncId} {fn : Func} {t e : TypeId} {b : Bool} {sz : Nat} (hf : P.funcs[f]? = some fn) (hname : (fn.name == "runtime.NumGoroutine") = false) (hb : fn.body.isNone = true) (hn : Extern.findNext fn = none)
    (hfi : Extern.find fn = some (Extern.SlicesOverlaps.overlaps fn.params fn.resultTypes)) (hp : fn.params[0]? = some t) (ht : P.underlying t = some (.slice e)) (he : tyA P e = some (b, sz)) : SpOk P gl f (.ext overlaps_s) := by
  intro args H K h g w vs hS hR
  unfold overlaps_s at h
  split at h
  · rename_i es tl o off len cap
    obtain ⟨h1, h2, h3⟩ := h
    split at h2
    · rename_i c cs ho
      obtain ⟨v, u, rfl, hv, hu⟩ := list_two hR rfl
      exact ⟨_, _, by rw [run_callFunc_extern hf hname hb hn hfi, overlaps_run hS hp ht he h1 ho hv hu]; rfl, .bool false, h3⟩
    · exact h2.elim
  · exact h.elim

#print axioms overlaps_ok
end Go.AM
