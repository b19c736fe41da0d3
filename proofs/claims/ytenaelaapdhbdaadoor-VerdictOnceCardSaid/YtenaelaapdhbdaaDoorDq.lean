/-
  End.
-/
import Derived.Test.YtenaelaapdhbdaaDoorDp
import Derived.Test.YtenaelaapdhbdaaDoorProg
namespace Go.Proofs.YtenaelaapdhbdaaDoor
open Go Go.AM Go.Proofs
theorem qP {α:Type} {l:List α} {k:Nat} {a:α} (h:l[k]?=some a):l.set k a=l:=by
 apply List.ext_getElem?
 intro i
 rw[List.getElem?_set]
 by_cases c:k=i
 ·subst c
  rw[if_pos rfl,if_pos (List.getElem?_eq_some_iff.1 h).1,h]
 ·rw[if_neg c]
end Go.Proofs.YtenaelaapdhbdaaDoor
