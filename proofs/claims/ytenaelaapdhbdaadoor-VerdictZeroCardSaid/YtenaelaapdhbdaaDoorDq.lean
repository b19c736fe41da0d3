/-
  End.
-/
import Derived.Test.YtenaelaapdhbdaaDoorDp
import Derived.Test.YtenaelaapdhbdaaDoorProg
namespace Go.Proofs.YtenaelaapdhbdaaDoor
open Go Go.AM Go.Proofs
end Go.Proofs.YtenaelaapdhbdaaDoor
