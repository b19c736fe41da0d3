/-
  Lists of rows that rise by an id.
-/
import Derived.Test.YtenaelaapdhbdaaDoorDa
namespace Go.Proofs.YtenaelaapdhbdaaDoor
open Go Go.AM Go.Proofs
theorem dA {α:Type} {p:α→Bool} {l:List α} {i:Nat} (d:α) (hi:i≤l.findIdx p) (h:i<l.length) (c:p (l.getD i d)=true):l.findIdx p=i:=by
 rcases Nat.eq_or_lt_of_le hi with e|e
 ·exact e.symm
 ·exfalso
  have:=List.not_of_lt_findIdx e
  rw[bI h] at c
  rw[c] at this
  cases this
theorem dH {α:Type} {p:α→Bool} {l:List α} {i:Nat} (d:α) (hi:i≤l.findIdx p) (h:i<l.length) (c:p (l.getD i d)=false):i<l.findIdx p:=by
 rcases Nat.eq_or_lt_of_le hi with e|e
 ·exfalso
  subst e
  have:=List.findIdx_getElem (p:=p) (xs:=l) (w:=h)
  rw[bI h,this] at c
  cases c
 ·exact e
section
variable {G:Type}
def fiW (w:List (Rw G)) (t:Int):Nat:=w.findIdx fun r=>r.id == t
def oO (w:List (Rw G)) (t:Int):Int:=if fiW w t<w.length then fiW w t else -1
def BS (w:List (Rw G)) (t:Int):Bool:=decide (fiW w t<w.length)
def bM (w:List (Rw G)) (t:Int):List (Rw G):=w.filter fun r=>r.id != t
def m7 (w:List (Rw G)) (m t:Int) (v:G):List (Rw G)×Int:=
 if aF t=true then if BS w t=false∧(w.length:Int)≥m then(w,10) else(bM w t++[⟨t,v⟩],0) else(w,14)
theorem Cm {l:List (Rw G)} {most:Int} (ok:Ok l most) {r s:Rw G} (hr:r∈l) (hs:s∈l) (e:r.id=s.id):r=s:=by
 obtain⟨i,hi,rfl⟩:=List.mem_iff_getElem.1 hr
 obtain⟨j,hj,rfl⟩:=List.mem_iff_getElem.1 hs
 rcases Nat.lt_trichotomy i j with c|c|c
 ·have:=List.pairwise_iff_getElem.1 ok.rise i j hi hj c; omega
 ·subst c; rfl
 ·have:=List.pairwise_iff_getElem.1 ok.rise j i hj hi c; omega
structure Like (l w:List (Rw G)) (most:Int):Prop where
 ok:Ok l most
 perm:l.Perm w
 pos:∀ r∈l,aF r.id=true
end
section
variable {G:Type} [Inhabited G]
theorem eX {l:List (Rw G)} {most t:Int} (ok:Ok l most):has l t=true↔∃ r∈l,r.id=t:=by
 constructor
 ·intro h
  obtain⟨h1,h2⟩:=fP h
  exact⟨_,bj h1,h2⟩
 ·rintro⟨r,hr,rfl⟩
  obtain⟨k,hk,rfl⟩:=List.mem_iff_getElem.1 hr
  cases c:has l l[k].id with
  | true=>rfl
  | false=>
   exfalso
   have lb:=ok.lb l[k].id
   rcases Nat.lt_or_ge k (lbp l l[k].id) with q|q
   ·have:=lb.lo k q; rw[bI hk] at this; omega
   ·have:=lZ ok c k q hk; rw[bI hk] at this; omega
theorem qD {l:List (Rw G)} {most:Int} (ok:Ok l most) {r:Rw G} (hr:r∈l):aD l r.id=r.v:=by
 have h:=(eX ok).2 ⟨r,hr,rfl⟩
 obtain⟨h1,h2⟩:=fP h
 unfold aD
 rw[if_pos h,Cm ok (bj h1) hr h2]
theorem zC {l:List (Rw G)} {most:Int} (ok:Ok l most) (t:Int):oz l t=bM l t:=by
 unfold oz bM
 by_cases c:has l t=true
 ·rw[if_pos c]
  obtain⟨h1,h2⟩:=fP c
  rw[List.eraseIdx_eq_take_drop_succ]
  have hl:l=l.take (lbp l t)++l.getD (lbp l t) default::l.drop (lbp l t+1):=by
   rw[bI h1,← List.drop_eq_getElem_cons h1,List.take_append_drop]
  have ha:∀ r∈l.take (lbp l t),(r.id != t)=true:=by
   intro r hr
   obtain⟨k,hk,rfl⟩:=List.mem_iff_getElem.1 hr
   rw[List.length_take] at hk
   have:=(ok.lb t).lo k (by omega)
   rw[bI (by omega)] at this
   rw[List.getElem_take]
   simp; omega
  have hb:∀ r∈l.drop (lbp l t+1),(r.id != t)=true:=by
   intro r hr
   obtain⟨k,hk,rfl⟩:=List.mem_iff_getElem.1 hr
   rw[List.length_drop] at hk
   have:=ok.get (i:=lbp l t) (j:=lbp l t+1+k) (by omega) (by omega)
   rw[h2,bI (by omega)] at this
   rw[List.getElem_drop]
   simp; omega
  conv=>rhs; rw[hl]
  rw[List.filter_append,List.filter_cons,if_neg (by rw[h2]; simp),List.filter_eq_self.2 ha,List.filter_eq_self.2 hb]
 ·rw[if_neg c,List.filter_eq_self.2]
  intro r hr
  simp only[bne_iff_ne,ne_eq]
  intro e
  exact c ((eX ok).2 ⟨r,hr,e⟩)
end
end Go.Proofs.YtenaelaapdhbdaaDoor
