/-
  QueueAgain's law.
-/
import Derived.Test.YtcmknbanojcbaaaUm
import Derived.Test.YtcmknbanojcbaaaUj
import Derived.Test.YtcmknbanojcbaaaProg
namespace Go.Proofs.Ytcmknbanojcbaaa
open Go Go.AM Go.Proofs
set_option maxRecDepth 10000
theorem again_args (xs : List PV) (h : WTargs Try.prog 6 Try.f10.params.toList xs) : ACalls Try.prog gl 10 xs [] (fun x _ => x = .bool true) := by
  rw [Try.params10] at h
  obtain ⟨x, r, rfl, h1, y, r2, rfl, h2, h3⟩ := h
  obtain rfl := wtargs_nil h3
  obtain ⟨es, rfl, _, g⟩ := wta_list u66 h1
  obtain ⟨ts, rfl, _⟩ := list_of (f := csT) (Q := fun t => Nn t) fun r hr => tk_of (g r hr)
  obtain ⟨c, rfl, _⟩ := wta_int u25 h2
  exact again_law ts c
#print axioms again_args
end Go.Proofs.Ytcmknbanojcbaaa
