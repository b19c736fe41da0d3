/-
  SeatRuns, in part.
-/
import Derived.Test.YtenaelaapdhbdaaSad
import Derived.Test.YtenaelaapdhbdaaProg
namespace Go.Proofs.Ytenaelaapdhbdaa
open Go Go.AM Go.Proofs
def runM (m:Int) (l:List Ac):List Mt:=l.foldl (fun w a=>stepM w m a) []
theorem runM_succ {m:Int} {l:List Ac} {i:Nat} (h:i<l.length):runM m (l.take (i+1))=stepM (runM m (l.take i)) m (l.getD i default):=by
 unfold runM; rw[take_snoc default h,List.foldl_append]; rfl
theorem runM_ok {m:Int} (h0:0≤m) (hm:m≤1000000) (l:List Ac):MO (runM m l) m:=by
 have:∀(l:List Ac) (w:List Mt),MO w m→MO (l.foldl (fun w a=>stepM w m a) w) m:=by
  intro l
  induction l with
  | nil=>intro w h; exact h
  | cons a l ih=>intro w h; exact ih _ (h.step a)
 exact this l [] (MO.nil h0 hm)
theorem lowH_ro {w:List Mt} {m:Int}:LowH [.abs (rkM (rowsM w) m),.cells [.ptr 0 0]]:=lowH_of (by
 intro ob ho
 simp only[List.mem_cons,List.not_mem_nil,or_false] at ho
 rcases ho with rfl|rfl
 ·trivial
 ·exact low_one (.ptr _ _ (by simp)))
def okAs (l:List Ac):Prop:=∀ a∈l,a.Nn∧smR a.rows
end Go.Proofs.Ytenaelaapdhbdaa
