/-
  Lose, Add.
-/
import Derived.Test.YtenaelaapdhbdaaDoorDo
import Derived.Test.YtenaelaapdhbdaaDoorProg
namespace Go.Proofs.YtenaelaapdhbdaaDoor
open Go Go.AM Go.Proofs
def eqT (t v:Int):Bool:=v == t
structure Midw (ns l:List Int) (cx:Int) (i j:Nat):Prop where
 len:l.length=ns.length
 kept:l.take i=(ns.take j).filter (fun v=> !(eqT cx) v)
 rest:l.drop j=ns.drop j
 le:i≤j
 lt:j≤ns.length
def mtR (r:Rr):Bool:=decide (r.pl.length=0)
structure MidRf (ns l:List Rr) (i j:Nat):Prop where
 len:l.length=ns.length
 kept:l.take i=(ns.take j).filter (fun v=> !mtR v)
 rest:l.drop j=ns.drop j
 le:i≤j
 lt:j≤ns.length
end Go.Proofs.YtenaelaapdhbdaaDoor
