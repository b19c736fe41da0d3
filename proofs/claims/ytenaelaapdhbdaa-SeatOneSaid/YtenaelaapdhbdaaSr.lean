/-
  The table's methods.
-/
import Derived.Test.YtenaelaapdhbdaaSq
import Derived.Test.YtenaelaapdhbdaaProg
namespace Go.Proofs.Ytenaelaapdhbdaa
open Go Go.AM Go.Proofs
theorem low_tup3 {n:Nat} {a b c:PV} (ha:Low n a) (hb:Low n b) (hc:Low n c):Low n (.tup [a,b,c]):= .tup _ (low_three ha hb hc)
def loseC (c:Mt) (p:Int):Mt:=⟨c.id,c.md,c.ins,keepR (c.rows.map fun r=>lessR r p),c.seats.filter fun s=> !isP p s⟩
def loseM (w:List Mt) (p:Int):List Mt×Int×Int×Int:=
 if hasG Mt.id w (ofM w p)=false then(w,0,0,12) else(putG Mt.id w (loseC (gM w (ofM w p)) p),(gM w (ofM w p)).id,(loseC (gM w (ofM w p)) p).seats.length,0)
theorem dropP_none {l:List Int} {p:Int} (h:p∉l):dropP l p=l:=by
 unfold dropP eqT
 rw[List.filter_eq_self]
 intro a ha
 rw[Bool.not_eq_true',beq_eq_false_iff_ne]
 intro e; subst e; exact h ha
theorem lessR_none {r:Rr} {p:Int} (h:p∉r.pl):lessR r p=r:=by
 unfold lessR; rw[dropP_none h]
theorem map_set {l:List Rr} {j:Nat} (hj:j<l.length) (p:Int) (h:∀ k,k<l.length→k≠j→p∉(l.getD k default).pl):l.set j (lessR (l.getD j default) p)=l.map fun r=>lessR r p:=by
 apply List.ext_getElem?
 intro k
 rw[List.getElem?_set,List.getElem?_map]
 by_cases c:j=k
 ·subst c
  rw[if_pos rfl,if_pos hj,List.getElem?_eq_getElem hj,List.getD_eq_getElem?_getD,List.getElem?_eq_getElem hj]; rfl
 ·rw[if_neg c]
  by_cases hk:k<l.length
  ·have:=h k hk (fun e=>c e.symm)
   rw[List.getD_eq_getElem?_getD,List.getElem?_eq_getElem hk,Option.getD_some] at this
   rw[List.getElem?_eq_getElem hk]
   show some l[k]=some (lessR l[k] p)
   rw[lessR_none this]
  ·rw[List.getElem?_eq_none (by omega)]; rfl
theorem filter_erase {l:List Se} {p:Int} (hn:(l.map Se.pl).Nodup) (h:l.findIdx (isP p)<l.length):l.eraseIdx (l.findIdx (isP p))=l.filter fun s=> !isP p s:=by
 induction l with
 | nil=>simp at h
 | cons a l ih=>
  rw[List.map_cons,List.nodup_cons] at hn
  rw[List.findIdx_cons] at h ⊢
  by_cases c:isP p a=true
  ·rw[c]
   have e:∀ s∈l,isP p s=false:=by
    intro s hs
    cases k:isP p s with
    | false=>rfl
    | true=>
     unfold isP at c k
     rw[beq_iff_eq] at c k
     exact absurd (List.mem_map.2 ⟨s,hs,by rw[k,c]⟩) hn.1
   show l=_
   rw[List.filter_cons_of_neg (by rw[c]; decide)]
   symm
   rw[List.filter_eq_self]
   intro s hs; rw[e s hs]; rfl
  ·have c':isP p a=false:=by simpa using c
   rw[c'] at h ⊢
   show a::l.eraseIdx _=_
   rw[List.filter_cons_of_pos (by rw[c']; rfl),ih hn.2 (by simpa using h)]
theorem pl_pairs (l:List Rr):(pairs l).map Prod.fst=l.flatMap Rr.pl:=by
 unfold pairs
 induction l with
 | nil=>rfl
 | cons r l ih=>rw[List.flatMap_cons,List.map_append,ih,List.flatMap_cons,List.map_map]; congr 1; simp[Function.comp_def]
theorem Mt.Ok.pls {c:Mt} (h:c.Ok):(c.seats.map Se.pl).Perm (c.rows.flatMap Rr.pl):=by
 have:=h.pm.map Prod.fst
 rw[pl_pairs] at this
 unfold pairS at this
 rw[List.map_map] at this
 exact this
theorem Mt.Ok.pnd {c:Mt} (h:c.Ok):(c.rows.flatMap Rr.pl).Nodup:=h.pls.nodup_iff.1 h.nd
theorem inM_mem {c:Mt} {p:Int}:inM c p=true↔p∈c.seats.map Se.pl:=by
 unfold inM isP
 rw[List.any_eq_true,List.mem_map]
 constructor
 ·rintro⟨s,hs,e⟩; exact⟨s,hs,eq_of_beq e⟩
 ·rintro⟨s,hs,e⟩; exact⟨s,hs,by rw[e]; exact beq_self_eq_true p⟩
theorem row_of {c:Mt} (h:c.Ok) {p:Int} (hp:inM c p=true):∃ j,j<c.rows.length∧p∈(c.rows.getD j default).pl∧∀ k,k<c.rows.length→k≠j→p∉(c.rows.getD k default).pl:=by
 have hm:p∈c.rows.flatMap Rr.pl:=h.pls.mem_iff.1 (inM_mem.1 hp)
 obtain⟨r,hr,hpr⟩:=List.mem_flatMap.1 hm
 obtain⟨j,hj,rfl⟩:=List.mem_iff_getElem.1 hr
 refine⟨j,hj,by rw[List.getD_eq_getElem?_getD,List.getElem?_eq_getElem hj]; exact hpr,fun k hk hne hpk=>?_⟩
 rw[List.getD_eq_getElem?_getD,List.getElem?_eq_getElem hk] at hpk
 have hpk:p∈c.rows[k].pl:=hpk
 have hnd:=h.pnd
 unfold List.Nodup at hnd
 rw[List.pairwise_flatMap] at hnd
 have hpw:=hnd.2
 rw[List.pairwise_iff_getElem] at hpw
 rcases Nat.lt_or_gt_of_ne hne with hlt|hgt
 ·exact hpw k j hk hj hlt p hpk p hpr rfl
 ·exact hpw j k hj hk hgt p hpr p hpk rfl
def lose_s (args:List PV) (H:Heap) (K:PV→Heap→Prop):Prop:=∃(q r:Nat) (w:List Mt) (m p:Int),SlIs args [.ptr q 0,.int .u32 p]∧BkIs H q r (rkM (rowsM w) m)∧MO w m∧
 K (.tup [.int .u32 (loseM w p).2.1,.int .i64 (loseM w p).2.2.1,.int .i64 (loseM w p).2.2.2]) (H.set r (.abs (rkM (rowsM (loseM w p).1) m)))
theorem lose_ok:SpOk Try.prog gl 27 (.heap lose_s):=by
 rintro args H K ⟨q,r,w,m,p,he,hb,ro,hk⟩
 have he:args=_:=he
 subst he
 obtain⟨z,hz⟩:∃ z,z=loseM w p:=⟨_,rfl⟩
 rw[← hz] at hk
 refine book_heap gl_low hb low0_int (low_tup3 (.int _ _) (.int _ _) (.int _ _)) (tls1_vc w m p _ ⟨0,1,w,m,p,rfl,⟨rfl,rfl⟩,ro,0,1,w,m,ofM w p,rfl,⟨rfl,rfl⟩,ro,fun h0=>?_,fun h1=>?_⟩) hk
 ·unfold loseM at hz
  rw[if_pos h0] at hz
  rw[hz]; exact⟨rfl,_,rfl⟩
 ·unfold loseM at hz
  rw[if_neg (by rw[h1]; decide)] at hz
  rcases of_spec ro p with⟨_,hin⟩|⟨h2,_⟩
  rotate_left
  ·rw[h1] at h2; cases h2
  obtain⟨c,hcd⟩:∃ c,c=gM w (ofM w p):=⟨_,rfl⟩
  have hok:c.Ok:=by rw[hcd]; exact ro.gmok h1
  have hid:c.id=ofM w p:=by rw[hcd]; exact MO.gmid h1
  rw[← hcd] at hin
  rw[← hcd] at hz ⊢
  obtain⟨k1,k2⟩:=ixS_in hin
  have hsm:=hok.sm
  obtain⟨j,hj,hpj,hoth⟩:=row_of hok hin
  have hjm:c.rows.getD j default∈c.rows:=getD_mem hj
  refine⟨fun e=>by rw[e] at k1; simp at k1,j,hj,hok.ne _ hjm,fun cs J cap J2 hcs hJ hcap hJ2=>?_⟩
  refine⟨c,_,_,p,rfl,hsm.seats,.inr (.inr ⟨⟨4,_,_,rfl,by decide⟩,3,cs,J,rfl,hcs,rfl⟩),c.seats,J,c.seats.findIdx (isP p),rfl,?_,rfl,k1,hsm.seats,hcs,hJ,?_⟩
  ·show _=_
   rw[k2,wI_succ k1 (by have:=hsm.seats; omega)]
  have hel:(c.seats.eraseIdx (c.seats.findIdx (isP p))).length=c.seats.length-1:=by rw[List.length_eraseIdx_of_lt k1]
  have hset:=map_set hj p hoth
  have hle:=dropP_le (c.rows.getD j default).pl p
  refine⟨w,m,p,c,_,J2,c.seats.length-1,cs,cap,j,hsm.rows,hsm.pl,hj,hoth,hcap,hJ2,rfl,rfl,fun J' hJ'=>?_⟩
  refine⟨w,m,p,c,_,J',c.rows,j,cap,lessR (c.rows.getD j default) p,c.seats.length-1,cs,hsm.rows,hj,Nat.le_trans hle hcap,rfl,rfl,fun J3 hJ3=>?_⟩
  have hloss:loseC c p=⟨c.id,c.md,c.ins,keepR (c.rows.set j (lessR (c.rows.getD j default) p)),c.seats.eraseIdx (c.seats.findIdx (isP p))⟩:=by
   unfold loseC; rw[hset,filter_erase hok.nd k1]
  have hkl:=keepR_le (c.rows.set j (lessR (c.rows.getD j default) p))
  rw[List.length_set] at hkl
  have hsl:(loseC c p).seats.length=c.seats.length-1:=by rw[hloss]; exact hel
  refine⟨w,m,p,loseC c p,c.rows.length,cs,[.int .u32 0,.int .i64 0,.int .i64 0,.int .i64 0,.int .i64 0,.int .u64 0]++J,J3,ro,hok.rt,by show hasG Mt.id w c.id=true; rw[hid]; exact h1,by rw[hloss]; exact hkl,by rw[hsl]; omega,rfl,?_,fun G=>?_⟩
  ·show _=_
   rw[hsl,hloss]
  ·rw[hz]; exact⟨rfl,G,rfl⟩
end Go.Proofs.Ytenaelaapdhbdaa
