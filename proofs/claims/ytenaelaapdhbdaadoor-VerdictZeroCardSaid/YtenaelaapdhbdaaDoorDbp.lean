/-
  Reports, in part.
-/
import Derived.Test.YtenaelaapdhbdaaDoorDbn
import Derived.Test.YtenaelaapdhbdaaDoorA4
import Derived.Test.YtenaelaapdhbdaaDoorProg
namespace Go.Proofs.YtenaelaapdhbdaaDoor
open Go Go.AM Go.Proofs
structure Td where
 ins:Int
 id:Int
 r:Int
instance:Inhabited Td:=⟨⟨0,0,0⟩⟩
def tdc (x:Td):List PV:=[.int .u32 x.ins,.int .u32 x.id,.int .i64 x.r]
theorem Gt {n:Nat} (x:Td):∀ y∈tdc x,Low n y:=dK (.int _ _) (.int _ _) (.int _ _)
theorem Lt {ra:List RwI} {mb:Int} {w:List Mt} {ins id r:Int} (h:(bi ra mb w ins id r).e≠0):(bi ra mb w ins id r).ra=ra∧(bi ra mb w ins id r).w=w:=by
 unfold bi at h ⊢
 split
 ·exact⟨rfl,rfl⟩
 split
 ·exact⟨rfl,rfl⟩
 split
 ·exact⟨rfl,rfl⟩
 ·rename_i c1 c2 c3
  rw[if_neg c1,if_neg c2,if_neg c3] at h
  exact absurd rfl h
structure On where
 i:Nat
 ra:List RwI
 w:List Mt
 l:List Int
end Go.Proofs.YtenaelaapdhbdaaDoor
