/-
  The table's methods.
-/
import Derived.Test.YtenaelaapdhbdaaDoorDq
import Derived.Test.YtenaelaapdhbdaaDoorProg
namespace Go.Proofs.YtenaelaapdhbdaaDoor
open Go Go.AM Go.Proofs
theorem rV (l:List Rr):(pairs l).map Prod.fst=l.flatMap Rr.pl:=by
 unfold pairs
 induction l with
 | nil=>rfl
 | cons r l ih=>rw[List.flatMap_cons,List.map_append,ih,List.flatMap_cons,List.map_map]; congr 1; simp[Function.comp_def]
theorem kJ {c:Mt} {p:Int}:inM c p=true↔p∈c.aa.map Se.pl:=by
 unfold inM isP
 rw[List.any_eq_true,List.mem_map]
 constructor
 ·rintro⟨s,hs,e⟩; exact⟨s,hs,eq_of_beq e⟩
 ·rintro⟨s,hs,e⟩; exact⟨s,hs,by rw[e]; exact beq_self_eq_true p⟩
end Go.Proofs.YtenaelaapdhbdaaDoor
