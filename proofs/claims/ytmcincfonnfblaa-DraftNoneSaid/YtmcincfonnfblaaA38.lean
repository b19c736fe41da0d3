/-
  An abstract machine over values without memory, proved against the model; part 38. A tool for the proofs of this claim; it states nothing of the program.
-/
import Derived.Test.YtmcincfonnfblaaA37
/-! AM, part 38: a call whose arguments say more than is asked. -/
namespace Go.AM
open Go

theorem acalls_args {P : Program} {gl : Glob} {f : FuncId} {args args' : List PV} {H : Heap} {K : PV → Heap → Prop} (hw : WkL args args') (h : ACalls P gl f args' H K) : ACalls P gl f args H K := by
  intro g w vs hS hG hR
  exact h g w vs hS hG (hw.rel hR)

/-- a pure function's answer, where its arguments say more than it asks -/
theorem spure_w {P : Program} {gl : Glob} (hgl : GlobLow gl) {f : FuncId} {args args' : List PV} {r : PV} {K : PV → Prop} (hw : WkL args args') (ha : ∀ x ∈ args', Low 0 x) (hr : Low 0 r) (h : ACalls P gl f args' [] (fun x _ => x = r)) (hk : K r) : ∃ r, PCall P gl f args r ∧ K r :=
  ⟨r, fun H => acalls_args hw (PCall.alone hgl ha hr h H), hk⟩

#print axioms spure_w
end Go.AM
