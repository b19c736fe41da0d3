/-
  A rack of numbers, closed.
-/
import Derived.Test.YtenaelaapdhbdaaDoorDbb
import Derived.Test.YtenaelaapdhbdaaDoorProg
namespace Go.Proofs.YtenaelaapdhbdaaDoor
open Go Go.AM Go.Proofs
theorem Gd (n:Int)  (K:PV→ag→Prop) (h:K (.ptr 0 0) [.cells [.list [] .exact,.int .i64 (mxI 0 n)]]):an Tryd.prog gl 12 [.int .i64 n] [] K:=
 ai (T:=[]) (L:=[]) (fun _=>0) Tryd.func12 (by kernel_rfl) (by kernel_rfl) (by kernel_rfl) (aE.nil _ _) (LOk.nil _ _ _ _ _) (ah (by kernel_rfl) h)
def rB (args:List PV) (H:ag) (K:PV→Prop):Prop:=∃(q:Nat) (l:List RwI) (most t:Int),ak args [.ptr q 0,.int .u32 t]∧bH H q (rkI l most)∧Ok l most∧K (.tup [(let v:=bQ l t; .int .i64 v),.bool (has l t)])
theorem r8:aQ Tryd.prog gl 11 (.read rB):=by
 rintro args H K ⟨q,l,most,t,he,ha,ok,hk⟩
 have he:args=_:=he
 subst he
 refine⟨_,mo ay ha cU (yG _ _) (fun hh h=>?_),hk⟩
 obtain⟨r,h1,h2⟩:=yb _ hh (fun x=>x = .tup [(let v:=bQ l t; .int .i64 v),.bool (has l t)]) ⟨l,most,t,rfl,h,ok,rfl⟩
 exact aP h1 fun x H' e=>⟨e.1.trans h2,e.2▸oe h⟩
def uB (args:List PV) (H:ag) (K:PV→ag→Prop):Prop:=match args with
 | .ptr q 0::rest=>∃(l:List RwI) (most t:Int) (v:Int),ak rest [.int .u32 t,.int .i64 v]∧bH H q (rkI l most)∧Ok l most∧K (.int .i64 (de l most t v).2) (H.set q (.abs (rkI (de l most t v).1 most)))
 | _=>False
theorem rj:aQ Tryd.prog gl 14 (.heap uB):=by
 intro args H K h
 unfold uB at h
 split at h
 ·rename_i q rest
  obtain⟨l,most,t,v,he,ha,ok,hk⟩:=h
  have he:rest=_:=he
  subst he
  refine ju ay ha (by intro y hy; simp only[List.mem_cons,List.not_mem_nil,or_false] at hy; rcases hy with rfl|rfl; exact .int _ _; exact Jd v) (.int _ _) (fun hh h=>?_) hk
  exact HM _ hh _ ⟨l,most,t,v,rfl,h,ok,fun H' h'=>⟨rfl,h'⟩⟩
 ·exact h.elim
def vA (args:List PV) (H:ag) (K:PV→ag→Prop):Prop:=∃ n:Int,ak args [.int .i64 n]∧K (.ptr H.length 0) (H++[.abs (rkI [] (mxI 0 n))])
theorem wT:aQ Tryd.prog gl 12 (.heap vA):=by
 rintro args H K ⟨n,he,hk⟩
 have he:args=_:=he
 subst he
 exact aP (qU ay cU (Gd n _ ⟨rfl,nN⟩)) fun _ _ e=>e.1▸e.2▸hk
end Go.Proofs.YtenaelaapdhbdaaDoor
