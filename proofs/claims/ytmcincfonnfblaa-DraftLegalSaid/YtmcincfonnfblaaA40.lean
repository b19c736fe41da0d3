/-
  An abstract machine over values without memory, proved against the model; part 40. A tool for the proofs of this claim; it states nothing of the program.
-/
import Derived.Test.YtmcincfonnfblaaA39
/-! AM, part 40: a drawn region's piece, reckoned in two orders. -/
namespace Go.AM
open Go

def opsOf : Code → Array Oper
  | .region _ ops _ => ops
  | _ => #[]
def isDraw : Code → Bool
  | .region _ _ d => d
  | _ => false

/-- what is asked of two orders of one's own -/
def okTwo (ops : Array Oper) (hn : Oper → Nat) (x y : Nat) (is js : List Nat) : Bool :=
  okEdges ops && (ops.toList.all fun o => (cl (hn o) o.op).isSome) && is.isPerm (List.range ops.size) && js.isPerm (List.range ops.size) &&
  decide (is.Pairwise fun a b => is.idxOf a < is.idxOf b) && decide (js.Pairwise fun a b => js.idxOf a < js.idxOf b) && okRank ops hn (fun i => is.idxOf i) x y && okRank ops hn (fun i => js.idxOf i) y x

theorem aw_orders {P : Program} {gl : Glob} {n : Nat} {T : Tab} (hT : TabOk P gl T) {hn : Oper → Nat} {c : Code} {Q : Ex → Env → Heap → Prop} {e : Env} {H X : Heap} {slots outs : List Nat} {vals : List PV} (x y : Nat) (is js : List Nat)
    (hd : isDraw c = true) (hok : okTwo (opsOf c) hn x y is js = true) (he : SlIs (slots.map e) vals) (hH : HpIs H X)
    (hi : Holds (regc br P gl T hn true (opsOf c) (inOrder (opsOf c) is) (envS slots vals) X (fun e' H' => (fun vs H' => Q .normal (envS outs vs) H') (outs.map e') H')))
    (hj : Holds (regc br P gl T hn true (opsOf c) (inOrder (opsOf c) js) (envS slots vals) X (fun e' H' => (fun vs H' => Q .normal (envS outs vs) H') (outs.map e') H'))) : AW P gl n c Q e H := by
  cases c <;> try (simp only [isDraw] at hd; cases hd; done)
  rename_i id ops d
  have hd : d = true := hd
  subst hd
  have he : slots.map e = vals := he
  have hH : H = X := hH
  subst hH
  simp only [okTwo, Bool.and_eq_true, decide_eq_true_eq, List.isPerm_iff] at hok
  obtain ⟨⟨⟨⟨⟨⟨⟨h1, h2⟩, h3⟩, h4⟩, h5⟩, h6⟩, h7⟩, h8⟩ := hok
  refine AW.of_le (e1 := envS slots vals) (by rw [← he]; exact envS_le e slots) (AW.weaken ?_)
  refine (aw_region_draw2 (Q := fun ex e' H' => match ex with | .normal => Q .normal (envS outs (outs.map e')) H' | _ => False) hn x y is js _ _ h1 h2 h3 h4 h5 h6 h7 h8 (regc_sound_draw hT _ _ _ hi.out) (regc_sound_draw hT _ _ _ hj.out)).mono fun ex e' H' k => ?_
  cases ex with
  | normal => exact ⟨envS outs (outs.map e'), envS_le e' outs, k⟩
  | exit i => exact k.elim
  | ret => exact k.elim

#print axioms aw_orders
end Go.AM
