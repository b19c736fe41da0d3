/-
  QueueOne's law.
-/
import Derived.Test.YtcmknbanojcbaaaUp
import Derived.Test.YtcmknbanojcbaaaUj
import Derived.Test.YtcmknbanojcbaaaProg
namespace Go.Proofs.Ytcmknbanojcbaaa
open Go Go.AM Go.Proofs
set_option maxRecDepth 10000
theorem one_args (xs : List PV) (h : WTargs Try.prog 6 Try.f8.params.toList xs) : ACalls Try.prog gl 8 xs [] (fun x _ => x = .bool true) := by
  rw [Try.params8] at h
  obtain ⟨x, r, rfl, h1, h3⟩ := h
  obtain rfl := wtargs_nil h3
  obtain ⟨es, rfl, _, g⟩ := wta_list u66 h1
  obtain ⟨ts, rfl, _⟩ := list_of (f := csT) (Q := fun t => Nn t) fun r hr => tk_of (g r hr)
  exact one_law ts
#print axioms one_args
end Go.Proofs.Ytcmknbanojcbaaa
