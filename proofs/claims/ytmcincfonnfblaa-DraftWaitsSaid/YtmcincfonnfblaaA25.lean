/-
  An abstract machine over values without memory, proved against the model; part 25. A tool for the proofs of this claim; it states nothing of the program.
-/
import Derived.Test.YtmcincfonnfblaaA24
/-! AM, part 25: what a row lays of a table of whole numbers. -/
namespace Go.AM
open Go

theorem cells_of_ints {H : Type} {enc : TypeId × Value → H} {P : Program} {w : World} {base : Nat} {sp : Nat → Bool} {held : Bool} {fuel n : Nat} {t e : TypeId} {k : IntKind} {cs : List Value} {ns : List Int} {p : List MemPlace}
    (ht : P.underlying t = some (.array n e)) (he : P.underlying e = some (.int k)) (h1 : P.cellsOf e = 1) (hn : P.cellsOf t = n)
    (hd : DataW.trod enc P w base sp held fuel t cs = some (.agg (ns.map fun m => .lit (.int k m)), p)) : cs = ns.map (Value.int k) := by
  obtain ⟨xs, m, rfl, hx, hl, hs, hi⟩ := DataW.trod_array ht hd
  have hxs : xs.map (·.1) = ns.map fun m => .lit (.int k m) := by
    have := congrArg Prod.fst hx
    simpa using this.symm
  have hlen : xs.length = ns.length := by simpa using congrArg List.length hxs
  apply List.ext_getElem?
  intro i
  by_cases hin : i < n
  · have h2 := hi i hin
    rw [h1, Nat.mul_one] at h2
    have hc : i < cs.length := by rw [hl, hn]; exact hin
    have hd1 : (cs.drop i).take 1 = [cs[i]] := by
      rw [List.drop_eq_getElem_cons hc]; rfl
    have hix : i < xs.length := by omega
    rw [hd1, List.getElem?_eq_getElem hix] at h2
    obtain ⟨q, e1, e2, _⟩ := DataW.trod_int he h2
    have e3 : (xs.map (·.1))[i]? = (ns.map fun m => DataW.lit (H := H) (.int k m))[i]? := by rw [hxs]
    rw [List.getElem?_map, List.getElem?_eq_getElem hix, e2, List.getElem?_map, List.getElem?_eq_getElem (by omega)] at e3
    simp only [Option.map_some, Option.some.injEq, DataW.lit.injEq, Lit.int.injEq, true_and] at e3
    rw [List.getElem?_eq_getElem hc, List.getElem?_map, List.getElem?_eq_getElem (by omega), ← e3]
    simp only [List.cons.injEq, and_true] at e1
    rw [e1]; rfl
  · rw [List.getElem?_eq_none (by rw [hl, hn]; omega), List.getElem?_eq_none (by simp; omega)]

/-- one table, laid: its cells in the world -/
theorem table_of_laid {P : Program} {W : World} {name : String} {d : DataW Unit} {L : List (String × DataW Unit)} {ns : List Int} {k : IntKind} {g n : Nat} {t e : TypeId}
    (hg : P.globalNamed name = some g) (htg : (P.globals[g]?).map (·.type) = some t) (ht : P.underlying t = some (.array n e)) (he : P.underlying e = some (.int k)) (h1 : P.cellsOf e = 1) (hn : P.cellsOf t = n)
    (hd : d = .agg (ns.map fun m => .lit (.int k m))) {ps : List MemPlace} (h : DataW.LaidVars P W ((name, d) :: L) ps) :
    (∀ q, q < (ns.map (Value.int k)).length → W.cell? ⟨g, q, none⟩ = (ns.map (Value.int k))[q]?) ∧ ∃ ps', DataW.LaidVars P W L ps' := by
  obtain ⟨g', t', cs, fuel, p, q, hg', ht', hvar, hd', hr, _⟩ := h
  obtain rfl := Option.some.inj (hg.symm.trans hg')
  obtain rfl := Option.some.inj (htg.symm.trans ht')
  subst hd
  have hc := cells_of_ints ht he h1 hn hd'
  refine ⟨fun i hi => ?_, _, hr⟩
  rw [← hc, Array.getElem?_toList]
  exact World.var?_cell hg hvar i

theorem relL_ints {g : Gh} {w : World} (k : IntKind) : ∀ ns : List Int, RelL g w (ns.map (PV.int k)) (ns.map (Value.int k))
  | [] => .nil
  | n :: ns => .cons (.int k n) (relL_ints k ns)

#print axioms table_of_laid
end Go.AM
