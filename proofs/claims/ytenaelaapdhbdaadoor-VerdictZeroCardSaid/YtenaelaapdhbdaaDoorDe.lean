/-
  Rows by their ids.
-/
import Derived.Test.YtenaelaapdhbdaaDoorDd
namespace Go.Proofs.YtenaelaapdhbdaaDoor
open Go Go.AM Go.Proofs
section
variable {α:Type}
def dz (k:α→Int) (w:List α):Prop:=w.Pairwise fun a b=>k a<k b
def eT (k:α→Int) (w:List α) (c:α):List α:=w.filter (fun x=>decide (k x<k c))++c::w.filter (fun x=>decide (k c<k x))
def eN (k:α→Int) (w:List α) (t:Int):List α:=w.filter fun x=>k x != t
def bu (k:α→Int) (w:List α) (t:Int):Bool:=w.any fun x=>k x == t
def mZ [Inhabited α] (k:α→Int) (w:List α) (t:Int):α:=(w.find? fun x=>k x == t).getD default
theorem dz.nil (k:α→Int):dz k ([]:List α):=List.Pairwise.nil
theorem dz.drop {k:α→Int} {w:List α} (h:dz k w) (t:Int):dz k (eN k w t):=List.Pairwise.sublist List.filter_sublist h
theorem dz.put {k:α→Int} {w:List α} (h:dz k w) (c:α):dz k (eT k w c):=by
 unfold eT dz
 rw[List.pairwise_append]
 refine⟨List.Pairwise.sublist List.filter_sublist h,List.pairwise_cons.2 ⟨fun a ha=>?_,List.Pairwise.sublist List.filter_sublist h⟩,fun a ha b hb=>?_⟩
 ·have:=(List.mem_filter.1 ha).2; simpa using this
 ·have h1:=(List.mem_filter.1 ha).2
  rcases List.mem_cons.1 hb with rfl|hb
  ·simpa using h1
  ·have h2:=(List.mem_filter.1 hb).2
   simp at h1 h2; omega
theorem dz.ext {k:α→Int} {w v:List α} (hw:dz k w) (hv:dz k v) (h:∀ x,x∈w↔x∈v):w=v:=by
 have nd:∀ {l:List α},dz k l→l.Nodup:=fun ok=>List.Pairwise.imp (fun h e=>by rw[e] at h; exact absurd h (Int.lt_irrefl _)) ok
 refine List.Perm.eq_of_pairwise (fun a b _ _ h1 h2=>?_) hw hv ((List.perm_ext_iff_of_nodup (nd hw) (nd hv)).2 h)
 exact absurd (Int.lt_trans h1 h2) (Int.lt_irrefl _)
theorem dz.inj {k:α→Int} {w:List α} (h:dz k w) {a b:α} (ha:a∈w) (hb:b∈w) (e:k a=k b):a=b:=by
 obtain⟨i,hi,rfl⟩:=List.mem_iff_getElem.1 ha
 obtain⟨j,hj,rfl⟩:=List.mem_iff_getElem.1 hb
 rcases Nat.lt_trichotomy i j with c|c|c
 ·have:=List.pairwise_iff_getElem.1 h i j hi hj c; omega
 ·subst c; rfl
 ·have:=List.pairwise_iff_getElem.1 h j i hj hi c; omega
theorem fy {k:α→Int} {w:List α} {c x:α}:x∈eT k w c↔x=c∨(x∈w∧k x≠k c):=by
 unfold eT
 simp only[List.mem_append,List.mem_filter,List.mem_cons,decide_eq_true_eq]
 constructor
 ·rintro (⟨h1,h2⟩|h|⟨h1,h2⟩)
  ·exact .inr ⟨h1,by omega⟩
  ·exact .inl h
  ·exact .inr ⟨h1,by omega⟩
 ·rintro (h|⟨h1,h2⟩)
  ·exact .inr (.inl h)
  ·rcases Int.lt_or_gt_of_ne h2 with q|q
   ·exact .inl ⟨h1,q⟩
   ·exact .inr (.inr ⟨h1,q⟩)
theorem lT {k:α→Int} {w:List α} {t:Int} {x:α}:x∈eN k w t↔x∈w∧k x≠t:=by
 unfold eN; simp
theorem dk {k:α→Int} {w:List α} {t:Int}:bu k w t=true↔∃ x∈w,k x=t:=by
 unfold bu; simp
theorem fj [Inhabited α] {k:α→Int} {w:List α} {t:Int} (h:bu k w t=true):mZ k w t∈w∧k (mZ k w t)=t:=by
 obtain⟨x,hx,e⟩:=dk.1 h
 unfold mZ
 cases c:w.find? (fun x=>k x == t) with
 | none=>exact absurd (by simpa using e) (List.find?_eq_none.1 c x hx)
 | some y=>exact⟨List.mem_of_find?_eq_some c,by simpa using List.find?_some c⟩
theorem vo [Inhabited α] {k:α→Int} {w:List α} (h:dz k w) {x:α} (hx:x∈w):mZ k w (k x)=x:=by
 obtain⟨h1,h2⟩:=fj (dk.2 ⟨x,hx,rfl⟩)
 exact h.inj h1 hx h2
theorem jb [Inhabited α] {k:α→Int} {w:List α} {t:Int} (h:bu k w t=false):mZ k w t=default:=by
 unfold mZ
 cases c:w.find? (fun x=>k x == t) with
 | none=>rfl
 | some y=>
  have:bu k w t=true:=dk.2 ⟨y,List.mem_of_find?_eq_some c,by simpa using List.find?_some c⟩
  rw[h] at this; cases this
theorem Eb {k:α→Int} {w:List α} (h:dz k w) (c:α):(eT k w c).length=if bu k w (k c)=true then w.length else w.length+1:=by
 have key:∀ w:List α,dz k w→(w.filter (fun x=>decide (k x<k c))).length+(w.filter (fun x=>decide (k c<k x))).length=if bu k w (k c)=true then w.length-1 else w.length:=by
  intro w
  induction w with
  | nil=>intro _; rfl
  | cons a w ih=>
   intro h
   obtain⟨h1,h2⟩:=List.pairwise_cons.1 h
   have ih:=ih h2
   have hh:bu k (a::w) (k c)=(k a == k c || bu k w (k c)):=rfl
   rw[hh]
   rcases Int.lt_trichotomy (k a) (k c) with q|q|q
   ·rw[List.filter_cons_of_pos (by simpa using q),List.filter_cons_of_neg (by simp; omega)]
    have e:(k a == k c)=false:=by simp; omega
    rw[e,Bool.false_or]
    have hne:bu k w (k c)=true→w≠[]:=fun h0 h3=>by subst h3; cases h0
    split at ih
    ·rename_i h3; rw[if_pos h3]; have:=List.length_pos_iff.2 (hne h3); simp only[List.length_cons]; omega
    ·rename_i h3; rw[if_neg h3]; simp only[List.length_cons]; omega
   ·rw[List.filter_cons_of_neg (by simp; omega),List.filter_cons_of_neg (by simp; omega)]
    have e:(k a == k c)=true:=by simpa using q
    have h0:bu k w (k c)=false:=by
     cases c0:bu k w (k c) with
     | false=>rfl
     | true=>obtain⟨x,hx,ex⟩:=dk.1 c0; have:=h1 x hx; omega
    rw[h0,if_neg (by decide)] at ih
    rw[e,Bool.true_or,if_pos rfl,ih]; simp
   ·rw[List.filter_cons_of_neg (by simp; omega),List.filter_cons_of_pos (by simpa using q)]
    have e:(k a == k c)=false:=by simp; omega
    have h0:bu k w (k c)=false:=by
     cases c0:bu k w (k c) with
     | false=>rfl
     | true=>obtain⟨x,hx,ex⟩:=dk.1 c0; have:=h1 x hx; omega
    rw[h0,if_neg (by decide)] at ih
    rw[e,h0]; simp only[Bool.or_self,if_neg (by decide:¬ false=true),List.length_cons]; omega
 have:=key w h
 unfold eT
 rw[List.length_append,List.length_cons]
 split at this
 ·rename_i h3
  rw[if_pos h3]
  obtain⟨x,hx,_⟩:=dk.1 h3
  have:=List.length_pos_of_mem hx; omega
 ·rename_i h3; rw[if_neg h3]; omega
def dB (k:α→Int) (c:α) (s:List α×Bool) (r:α):List α×Bool:=
 let s1:List α×Bool:=if s.2=false∧k r≥k c then(s.1++[c],true) else s
 if k r≠k c then(s1.1++[r],s1.2) else s1
def cP (k:α→Int) (c:α) (b:Bool) (w:List α):List α×Bool:=w.foldl (dB k c) ([],b)
def xg (c:α) (s:List α×Bool):List α:=if s.2=false then s.1++[c] else s.1
theorem pU (k:α→Int) (c:α) (b:Bool) {w:List α} {i:Nat} (d:α) (h:i<w.length):cP k c b (w.take (i+1))=dB k c (cP k c b (w.take i)) (w.getD i d):=by
 unfold cP
 rw[aZ d h,List.foldl_append]; rfl
theorem n5 (k:α→Int) (c:α):∀(w a:List α),w.foldl (dB k c) (a,true)=(a++eN k w (k c),true)
 | [],a=>by simp[eN]
 | r::w,a=>by
  rw[List.foldl_cons]
  have e:dB k c (a,true) r=(if k r≠k c then a++[r] else a,true):=by
   simp only[dB,Bool.true_eq_false,false_and,if_false]
   split<;>rfl
  rw[e,n5 k c w]
  unfold eN
  by_cases h:k r=k c
  ·rw[if_neg (by simpa using h),List.filter_cons_of_neg (by simpa using h)]
  ·rw[if_pos h,List.filter_cons_of_pos (by simpa using h),List.append_assoc]; rfl
theorem mP {k:α→Int} (c:α):∀(w a:List α),dz k w→xg c (w.foldl (dB k c) (a,false))=a++eT k w c
 | [],a,_=>by simp[xg,eT]
 | r::w,a,h=>by
  obtain⟨h1,h2⟩:=List.pairwise_cons.1 h
  rw[List.foldl_cons]
  by_cases q:k r≥k c
  ·have e:dB k c (a,false) r=(a++c::(if k r≠k c then [r] else []),true):=by
    simp only[dB,q,and_true,if_true]
    split<;>simp
   rw[e,n5]
   unfold xg eT eN
   rw[if_neg (by simp)]
   have f1:∀ x∈w,k c<k x:=fun x hx=>by have:=h1 x hx; omega
   have e1:w.filter (fun x=>decide (k x<k c))=[]:=List.filter_eq_nil_iff.2 fun x hx=>by have:=f1 x hx; simp; omega
   have e2:w.filter (fun x=>decide (k c<k x))=w:=List.filter_eq_self.2 fun x hx=>by simpa using f1 x hx
   have e3:w.filter (fun x=>k x != k c)=w:=List.filter_eq_self.2 fun x hx=>by have:=f1 x hx; simp; omega
   rw[List.filter_cons_of_neg (by simp; omega),e1,e3,List.nil_append]
   by_cases p:k r=k c
   ·rw[if_neg (by simpa using p),List.filter_cons_of_neg (by simp; omega),e2]; simp
   ·rw[if_pos p,List.filter_cons_of_pos (by simp; omega),e2]; simp
  ·have e:dB k c (a,false) r=(a++[r],false):=by
    simp only[dB,q,and_false,if_false]
    rw[if_pos (by omega)]
   rw[e,mP c w _ h2]
   unfold eT
   rw[List.filter_cons_of_pos (by simp; omega),List.filter_cons_of_neg (by simp; omega)]; simp
theorem uB {k:α→Int} (c:α) {w:List α} (h:dz k w):xg c (cP k c false w)=eT k w c:=by
 unfold cP; rw[mP c w [] h]; rfl
theorem nK (k:α→Int) (c:α) (b:Bool) (w:List α):(cP k c b w).1.length≤2*w.length:=by
 have:∀(w:List α) (s:List α×Bool),(w.foldl (dB k c) s).1.length≤s.1.length+2*w.length:=by
  intro w
  induction w with
  | nil=>intro s; simp
  | cons r w ih=>
   intro s
   have h1:=ih (dB k c s r)
   have h2:(dB k c s r).1.length≤s.1.length+2:=by unfold dB; (repeat' split)<;>simp
   rw[List.foldl_cons,List.length_cons]; omega
 have h:=this w ([],b)
 simpa[cP] using h
end
theorem Ok.K2 {G:Type} {l:List (Rw G)} {most:Int} (ok:Ok l most):dz Rw.id l:=ok.rise
section
variable {G:Type} [Inhabited G]
theorem qB {l:List (Rw G)} {most:Int} (ok:Ok l most) (t:Int):has l t=bu Rw.id l t:=by
 rw[Bool.eq_iff_iff,eX ok,dk]
theorem gp {l:List (Rw G)} {most t:Int} {v:G} (ok:Ok l most) (hr:aF t=true) (h:has l t=true∨¬ (l.length:Int)≥most) (x:Rw G):x∈(bZ l most t v).1↔x=⟨t,v⟩∨(x∈l∧x.id≠t):=by
 unfold bZ
 rw[if_pos hr]
 by_cases c:has l t=true
 ·rw[if_pos c]
  obtain⟨h1,h2⟩:=fP c
  show x∈l.set (lbp l t) ⟨t,v⟩↔_
  rw[List.mem_iff_getElem]
  constructor
  ·rintro⟨j,hj,rfl⟩
   rw[List.length_set] at hj
   rw[List.getElem_set]
   split
   ·exact .inl rfl
   ·rename_i hne
    refine .inr ⟨List.getElem_mem hj,fun e=>hne ?_⟩
    rw[bI h1] at h2
    rcases Nat.lt_trichotomy (lbp l t) j with q|q|q
    ·have:=List.pairwise_iff_getElem.1 ok.rise _ _ h1 hj q; omega
    ·exact q
    ·have:=List.pairwise_iff_getElem.1 ok.rise _ _ hj h1 q; omega
  ·rintro (rfl|⟨hx,hne⟩)
   ·exact⟨lbp l t,by simpa using h1,by simp⟩
   ·obtain⟨j,hj,rfl⟩:=List.mem_iff_getElem.1 hx
    refine⟨j,by simpa using hj,?_⟩
    rw[List.getElem_set,if_neg]
    rintro rfl
    rw[bI h1] at h2
    exact hne h2
 ·rw[if_neg c,if_neg (h.resolve_left c)]
  show x∈bz l (lbp l t) ⟨t,v⟩↔_
  have hno:∀ y∈l,y.id≠t:=fun y hy e=>c ((eX ok).2 ⟨y,hy,e⟩)
  unfold bz
  have hm:x∈l↔x∈l.take (lbp l t)∨x∈l.drop (lbp l t):=by
   conv=>lhs; rw[← List.take_append_drop (lbp l t) l]
   exact List.mem_append
  rw[List.mem_append,List.mem_cons]
  constructor
  ·rintro (h1|h1|h1)
   ·exact .inr ⟨hm.2 (.inl h1),hno x (hm.2 (.inl h1))⟩
   ·exact .inl h1
   ·exact .inr ⟨hm.2 (.inr h1),hno x (hm.2 (.inr h1))⟩
  ·rintro (h1|⟨h1,_⟩)
   ·exact .inr (.inl h1)
   ·rcases hm.1 h1 with h2|h2
    ·exact .inl h2
    ·exact .inr (.inr h2)
theorem vS {l:List (Rw G)} {most:Int} (ok:Ok l most) (t:Int) (v:G):bZ l most t v=if aF t=true then(if bu Rw.id l t=false∧(l.length:Int)≥most then(l,10) else(eT Rw.id l ⟨t,v⟩,0)) else(l,14):=by
 by_cases hr:aF t=true
 ·rw[if_pos hr]
  by_cases c:bu Rw.id l t=false∧(l.length:Int)≥most
  ·rw[if_pos c]
   unfold bZ
   rw[if_pos hr,qB ok,if_neg (by rw[c.1]; decide),if_pos c.2]
  ·rw[if_neg c]
   have h:has l t=true∨¬ (l.length:Int)≥most:=by
    rw[qB ok]
    cases c0:bu Rw.id l t with
    | true=>exact .inl rfl
    | false=>exact .inr fun h=>c ⟨c0,h⟩
   refine Prod.ext ?_ ?_
   ·refine dz.ext (k:=Rw.id) (ok.put t v).rise (ok.K2.put _) fun x=>?_
    rw[gp ok hr h,fy]
   ·unfold bZ
    rw[if_pos hr]
    by_cases c0:has l t=true
    ·rw[if_pos c0]
    ·rw[if_neg c0,if_neg (h.resolve_left c0)]
 ·rw[if_neg hr]; unfold bZ; rw[if_neg hr]
end
section
variable {α:Type} (k:α→Int)
def rowsOf (w:List α):List (Rw α):=w.map fun x=>⟨k x,x⟩
variable {k}
theorem nJ (w:List α):(rowsOf k w).length=w.length:=List.length_map _
theorem jY {w:List α} {r:Rw α}:r∈rowsOf k w↔r.v∈w∧r.id=k r.v:=by
 unfold rowsOf
 rw[List.mem_map]
 constructor
 ·rintro⟨x,hx,rfl⟩; exact⟨hx,rfl⟩
 ·rintro⟨h1,h2⟩; exact⟨r.v,h1,by cases r; simp only at h2; rw[h2]⟩
theorem dz.ok {w:List α} (h:dz k w) {most:Int} (hl:(w.length:Int)≤most) (hm:most≤1000000):Ok (rowsOf k w) most:=
 ⟨by unfold rowsOf; rw[List.pairwise_map]; exact h,by rw[nJ]; exact hl,hm⟩
theorem dz.rows {w:List α} (h:dz k w):dz Rw.id (rowsOf k w):=by unfold rowsOf dz; rw[List.pairwise_map]; exact h
theorem mK (w:List α) (t:Int):bu Rw.id (rowsOf k w) t=bu k w t:=by
 unfold bu rowsOf; rw[List.any_map]; rfl
end
section
variable {α:Type} [Inhabited α] {k:α→Int}
theorem gv {w:List α} {most:Int} (ok:Ok (rowsOf k w) most) (t:Int):has (rowsOf k w) t=bu k w t:=by
 rw[qB ok,mK]
theorem jT {w:List α} {most:Int} (ok:Ok (rowsOf k w) most) (t:Int):aD (rowsOf k w) t=mZ k w t:=by
 cases c:bu k w t with
 | true=>
  obtain⟨h1,h2⟩:=fj c
  have h3:(⟨k (mZ k w t),mZ k w t⟩:Rw α)∈rowsOf k w:=jY.2 ⟨h1,rfl⟩
  have:=qD ok h3
  simp only[h2] at this
  exact this
 | false=>
  rw[jb c]
  unfold aD
  rw[if_neg (by rw[gv ok,c]; decide)]
theorem o3 {w:List α} {most:Int} (h:dz k w) (ok:Ok (rowsOf k w) most) (c:α):bZ (rowsOf k w) most (k c) c=if aF (k c)=true then(if bu k w (k c)=false∧(w.length:Int)≥most then(rowsOf k w,10) else(rowsOf k (eT k w c),0)) else(rowsOf k w,14):=by
 rw[vS ok,mK,nJ]
 have e:eT Rw.id (rowsOf k w) ⟨k c,c⟩=rowsOf k (eT k w c):=by
  refine dz.ext (k:=Rw.id) (h.rows.put _) (h.put c).rows fun x=>?_
  rw[fy,jY,jY,fy]
  cases x with
  | mk i v=>
   simp only[Rw.mk.injEq]
   constructor
   ·rintro (⟨h1,h2⟩|⟨⟨h1,h2⟩,h3⟩)
    ·exact⟨.inl h2,by rw[h1,h2]⟩
    ·exact⟨.inr ⟨h1,by rw[← h2]; exact h3⟩,h2⟩
   ·rintro⟨h1|⟨h1,h2⟩,h3⟩
    ·exact .inl ⟨by rw[h3,h1],h1⟩
    ·exact .inr ⟨⟨h1,h3⟩,by rw[h3]; exact h2⟩
 rw[e]
theorem tg {w:List α} {most:Int} (ok:Ok (rowsOf k w) most) (t:Int):oz (rowsOf k w) t=rowsOf k (eN k w t):=by
 rw[zC ok]
 unfold bM rowsOf eN
 rw[List.filter_map]; rfl
end
end Go.Proofs.YtenaelaapdhbdaaDoor
