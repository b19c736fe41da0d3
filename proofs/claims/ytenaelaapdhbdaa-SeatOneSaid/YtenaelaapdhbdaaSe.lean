/-
  Rows by their ids: get, put, drop.
-/
import Derived.Test.YtenaelaapdhbdaaSd
namespace Go.Proofs.Ytenaelaapdhbdaa
open Go Go.AM Go.Proofs
section
variable {α:Type}
def Rise (k:α→Int) (w:List α):Prop:=w.Pairwise fun a b=>k a<k b
def putG (k:α→Int) (w:List α) (c:α):List α:=w.filter (fun x=>decide (k x<k c))++c::w.filter (fun x=>decide (k c<k x))
def dropG (k:α→Int) (w:List α) (t:Int):List α:=w.filter fun x=>k x != t
def hasG (k:α→Int) (w:List α) (t:Int):Bool:=w.any fun x=>k x == t
def getG [Inhabited α] (k:α→Int) (w:List α) (t:Int):α:=(w.find? fun x=>k x == t).getD default
theorem Rise.nil (k:α→Int):Rise k ([]:List α):=List.Pairwise.nil
theorem Rise.drop {k:α→Int} {w:List α} (h:Rise k w) (t:Int):Rise k (dropG k w t):=List.Pairwise.sublist List.filter_sublist h
theorem Rise.put {k:α→Int} {w:List α} (h:Rise k w) (c:α):Rise k (putG k w c):=by
 unfold putG Rise
 rw[List.pairwise_append]
 refine⟨List.Pairwise.sublist List.filter_sublist h,List.pairwise_cons.2 ⟨fun a ha=>?_,List.Pairwise.sublist List.filter_sublist h⟩,fun a ha b hb=>?_⟩
 ·have:=(List.mem_filter.1 ha).2; simpa using this
 ·have h1:=(List.mem_filter.1 ha).2
  rcases List.mem_cons.1 hb with rfl|hb
  ·simpa using h1
  ·have h2:=(List.mem_filter.1 hb).2
   simp at h1 h2; omega
theorem Rise.ext {k:α→Int} {w v:List α} (hw:Rise k w) (hv:Rise k v) (h:∀ x,x∈w↔x∈v):w=v:=by
 have nd:∀ {l:List α},Rise k l→l.Nodup:=fun ok=>List.Pairwise.imp (fun h e=>by rw[e] at h; exact absurd h (Int.lt_irrefl _)) ok
 refine List.Perm.eq_of_pairwise (fun a b _ _ h1 h2=>?_) hw hv ((List.perm_ext_iff_of_nodup (nd hw) (nd hv)).2 h)
 exact absurd (Int.lt_trans h1 h2) (Int.lt_irrefl _)
theorem Rise.inj {k:α→Int} {w:List α} (h:Rise k w) {a b:α} (ha:a∈w) (hb:b∈w) (e:k a=k b):a=b:=by
 obtain⟨i,hi,rfl⟩:=List.mem_iff_getElem.1 ha
 obtain⟨j,hj,rfl⟩:=List.mem_iff_getElem.1 hb
 rcases Nat.lt_trichotomy i j with c|c|c
 ·have:=List.pairwise_iff_getElem.1 h i j hi hj c; omega
 ·subst c; rfl
 ·have:=List.pairwise_iff_getElem.1 h j i hj hi c; omega
theorem mem_putG {k:α→Int} {w:List α} {c x:α}:x∈putG k w c↔x=c∨(x∈w∧k x≠k c):=by
 unfold putG
 simp only[List.mem_append,List.mem_filter,List.mem_cons,decide_eq_true_eq]
 constructor
 ·rintro (⟨h1,h2⟩|h|⟨h1,h2⟩)
  ·exact .inr ⟨h1,by omega⟩
  ·exact .inl h
  ·exact .inr ⟨h1,by omega⟩
 ·rintro (h|⟨h1,h2⟩)
  ·exact .inr (.inl h)
  ·rcases Int.lt_or_gt_of_ne h2 with q|q
   ·exact .inl ⟨h1,q⟩
   ·exact .inr (.inr ⟨h1,q⟩)
theorem mem_dropG {k:α→Int} {w:List α} {t:Int} {x:α}:x∈dropG k w t↔x∈w∧k x≠t:=by
 unfold dropG; simp
theorem hasG_iff {k:α→Int} {w:List α} {t:Int}:hasG k w t=true↔∃ x∈w,k x=t:=by
 unfold hasG; simp
theorem getG_mem [Inhabited α] {k:α→Int} {w:List α} {t:Int} (h:hasG k w t=true):getG k w t∈w∧k (getG k w t)=t:=by
 obtain⟨x,hx,e⟩:=hasG_iff.1 h
 unfold getG
 cases c:w.find? (fun x=>k x == t) with
 | none=>exact absurd (by simpa using e) (List.find?_eq_none.1 c x hx)
 | some y=>exact⟨List.mem_of_find?_eq_some c,by simpa using List.find?_some c⟩
theorem getG_of [Inhabited α] {k:α→Int} {w:List α} (h:Rise k w) {x:α} (hx:x∈w):getG k w (k x)=x:=by
 obtain⟨h1,h2⟩:=getG_mem (hasG_iff.2 ⟨x,hx,rfl⟩)
 exact h.inj h1 hx h2
theorem getG_none [Inhabited α] {k:α→Int} {w:List α} {t:Int} (h:hasG k w t=false):getG k w t=default:=by
 unfold getG
 cases c:w.find? (fun x=>k x == t) with
 | none=>rfl
 | some y=>
  have:hasG k w t=true:=hasG_iff.2 ⟨y,List.mem_of_find?_eq_some c,by simpa using List.find?_some c⟩
  rw[h] at this; cases this
theorem putG_len {k:α→Int} {w:List α} (h:Rise k w) (c:α):(putG k w c).length=if hasG k w (k c)=true then w.length else w.length+1:=by
 have key:∀ w:List α,Rise k w→(w.filter (fun x=>decide (k x<k c))).length+(w.filter (fun x=>decide (k c<k x))).length=if hasG k w (k c)=true then w.length-1 else w.length:=by
  intro w
  induction w with
  | nil=>intro _; rfl
  | cons a w ih=>
   intro h
   obtain⟨h1,h2⟩:=List.pairwise_cons.1 h
   have ih:=ih h2
   have hh:hasG k (a::w) (k c)=(k a == k c || hasG k w (k c)):=rfl
   rw[hh]
   rcases Int.lt_trichotomy (k a) (k c) with q|q|q
   ·rw[List.filter_cons_of_pos (by simpa using q),List.filter_cons_of_neg (by simp; omega)]
    have e:(k a == k c)=false:=by simp; omega
    rw[e,Bool.false_or]
    have hne:hasG k w (k c)=true→w≠[]:=fun h0 h3=>by subst h3; cases h0
    split at ih
    ·rename_i h3; rw[if_pos h3]; have:=List.length_pos_iff.2 (hne h3); simp only[List.length_cons]; omega
    ·rename_i h3; rw[if_neg h3]; simp only[List.length_cons]; omega
   ·rw[List.filter_cons_of_neg (by simp; omega),List.filter_cons_of_neg (by simp; omega)]
    have e:(k a == k c)=true:=by simpa using q
    have h0:hasG k w (k c)=false:=by
     cases c0:hasG k w (k c) with
     | false=>rfl
     | true=>obtain⟨x,hx,ex⟩:=hasG_iff.1 c0; have:=h1 x hx; omega
    rw[h0,if_neg (by decide)] at ih
    rw[e,Bool.true_or,if_pos rfl,ih]; simp
   ·rw[List.filter_cons_of_neg (by simp; omega),List.filter_cons_of_pos (by simpa using q)]
    have e:(k a == k c)=false:=by simp; omega
    have h0:hasG k w (k c)=false:=by
     cases c0:hasG k w (k c) with
     | false=>rfl
     | true=>obtain⟨x,hx,ex⟩:=hasG_iff.1 c0; have:=h1 x hx; omega
    rw[h0,if_neg (by decide)] at ih
    rw[e,h0]; simp only[Bool.or_self,if_neg (by decide:¬ false=true),List.length_cons]; omega
 have:=key w h
 unfold putG
 rw[List.length_append,List.length_cons]
 split at this
 ·rename_i h3
  rw[if_pos h3]
  obtain⟨x,hx,_⟩:=hasG_iff.1 h3
  have:=List.length_pos_of_mem hx; omega
 ·rename_i h3; rw[if_neg h3]; omega
def putF (k:α→Int) (c:α) (s:List α×Bool) (r:α):List α×Bool:=
 let s1:List α×Bool:=if s.2=false∧k r≥k c then(s.1++[c],true) else s
 if k r≠k c then(s1.1++[r],s1.2) else s1
def putA (k:α→Int) (c:α) (b:Bool) (w:List α):List α×Bool:=w.foldl (putF k c) ([],b)
def putE (c:α) (s:List α×Bool):List α:=if s.2=false then s.1++[c] else s.1
theorem putA_succ (k:α→Int) (c:α) (b:Bool) {w:List α} {i:Nat} (d:α) (h:i<w.length):putA k c b (w.take (i+1))=putF k c (putA k c b (w.take i)) (w.getD i d):=by
 unfold putA
 rw[take_snoc d h,List.foldl_append]; rfl
theorem foldl_true (k:α→Int) (c:α):∀(w a:List α),w.foldl (putF k c) (a,true)=(a++dropG k w (k c),true)
 | [],a=>by simp[dropG]
 | r::w,a=>by
  rw[List.foldl_cons]
  have e:putF k c (a,true) r=(if k r≠k c then a++[r] else a,true):=by
   simp only[putF,Bool.true_eq_false,false_and,if_false]
   split<;>rfl
  rw[e,foldl_true k c w]
  unfold dropG
  by_cases h:k r=k c
  ·rw[if_neg (by simpa using h),List.filter_cons_of_neg (by simpa using h)]
  ·rw[if_pos h,List.filter_cons_of_pos (by simpa using h),List.append_assoc]; rfl
theorem foldl_false {k:α→Int} (c:α):∀(w a:List α),Rise k w→putE c (w.foldl (putF k c) (a,false))=a++putG k w c
 | [],a,_=>by simp[putE,putG]
 | r::w,a,h=>by
  obtain⟨h1,h2⟩:=List.pairwise_cons.1 h
  rw[List.foldl_cons]
  by_cases q:k r≥k c
  ·have e:putF k c (a,false) r=(a++c::(if k r≠k c then [r] else []),true):=by
    simp only[putF,q,and_true,if_true]
    split<;>simp
   rw[e,foldl_true]
   unfold putE putG dropG
   rw[if_neg (by simp)]
   have f1:∀ x∈w,k c<k x:=fun x hx=>by have:=h1 x hx; omega
   have e1:w.filter (fun x=>decide (k x<k c))=[]:=List.filter_eq_nil_iff.2 fun x hx=>by have:=f1 x hx; simp; omega
   have e2:w.filter (fun x=>decide (k c<k x))=w:=List.filter_eq_self.2 fun x hx=>by simpa using f1 x hx
   have e3:w.filter (fun x=>k x != k c)=w:=List.filter_eq_self.2 fun x hx=>by have:=f1 x hx; simp; omega
   rw[List.filter_cons_of_neg (by simp; omega),e1,e3,List.nil_append]
   by_cases p:k r=k c
   ·rw[if_neg (by simpa using p),List.filter_cons_of_neg (by simp; omega),e2]; simp
   ·rw[if_pos p,List.filter_cons_of_pos (by simp; omega),e2]; simp
  ·have e:putF k c (a,false) r=(a++[r],false):=by
    simp only[putF,q,and_false,if_false]
    rw[if_pos (by omega)]
   rw[e,foldl_false c w _ h2]
   unfold putG
   rw[List.filter_cons_of_pos (by simp; omega),List.filter_cons_of_neg (by simp; omega)]; simp
theorem putA_false {k:α→Int} (c:α) {w:List α} (h:Rise k w):putE c (putA k c false w)=putG k w c:=by
 unfold putA; rw[foldl_false c w [] h]; rfl
theorem putA_len (k:α→Int) (c:α) (b:Bool) (w:List α):(putA k c b w).1.length≤2*w.length:=by
 have:∀(w:List α) (s:List α×Bool),(w.foldl (putF k c) s).1.length≤s.1.length+2*w.length:=by
  intro w
  induction w with
  | nil=>intro s; simp
  | cons r w ih=>
   intro s
   have h1:=ih (putF k c s r)
   have h2:(putF k c s r).1.length≤s.1.length+2:=by unfold putF; (repeat' split)<;>simp
   rw[List.foldl_cons,List.length_cons]; omega
 have h:=this w ([],b)
 simpa[putA] using h
end
theorem Ok.riseG {G:Type} {l:List (Rw G)} {most:Int} (ok:Ok l most):Rise Rw.id l:=ok.rise
section
variable {G:Type} [Inhabited G]
theorem has_eqG {l:List (Rw G)} {most:Int} (ok:Ok l most) (t:Int):has l t=hasG Rw.id l t:=by
 rw[Bool.eq_iff_iff,has_iff ok,hasG_iff]
theorem mem_putL {l:List (Rw G)} {most t:Int} {v:G} (ok:Ok l most) (hr:rightS t=true) (h:has l t=true∨¬ (l.length:Int)≥most) (x:Rw G):x∈(putL l most t v).1↔x=⟨t,v⟩∨(x∈l∧x.id≠t):=by
 unfold putL
 rw[if_pos hr]
 by_cases c:has l t=true
 ·rw[if_pos c]
  obtain⟨h1,h2⟩:=has_lt c
  show x∈l.set (lbp l t) ⟨t,v⟩↔_
  rw[List.mem_iff_getElem]
  constructor
  ·rintro⟨j,hj,rfl⟩
   rw[List.length_set] at hj
   rw[List.getElem_set]
   split
   ·exact .inl rfl
   ·rename_i hne
    refine .inr ⟨List.getElem_mem hj,fun e=>hne ?_⟩
    rw[getD_eq' h1] at h2
    rcases Nat.lt_trichotomy (lbp l t) j with q|q|q
    ·have:=List.pairwise_iff_getElem.1 ok.rise _ _ h1 hj q; omega
    ·exact q
    ·have:=List.pairwise_iff_getElem.1 ok.rise _ _ hj h1 q; omega
  ·rintro (rfl|⟨hx,hne⟩)
   ·exact⟨lbp l t,by simpa using h1,by simp⟩
   ·obtain⟨j,hj,rfl⟩:=List.mem_iff_getElem.1 hx
    refine⟨j,by simpa using hj,?_⟩
    rw[List.getElem_set,if_neg]
    rintro rfl
    rw[getD_eq' h1] at h2
    exact hne h2
 ·rw[if_neg c,if_neg (h.resolve_left c)]
  show x∈insAt l (lbp l t) ⟨t,v⟩↔_
  have hno:∀ y∈l,y.id≠t:=fun y hy e=>c ((has_iff ok).2 ⟨y,hy,e⟩)
  unfold insAt
  have hm:x∈l↔x∈l.take (lbp l t)∨x∈l.drop (lbp l t):=by
   conv=>lhs; rw[← List.take_append_drop (lbp l t) l]
   exact List.mem_append
  rw[List.mem_append,List.mem_cons]
  constructor
  ·rintro (h1|h1|h1)
   ·exact .inr ⟨hm.2 (.inl h1),hno x (hm.2 (.inl h1))⟩
   ·exact .inl h1
   ·exact .inr ⟨hm.2 (.inr h1),hno x (hm.2 (.inr h1))⟩
  ·rintro (h1|⟨h1,_⟩)
   ·exact .inr (.inl h1)
   ·rcases hm.1 h1 with h2|h2
    ·exact .inl h2
    ·exact .inr (.inr h2)
theorem putL_eq {l:List (Rw G)} {most:Int} (ok:Ok l most) (t:Int) (v:G):putL l most t v=if rightS t=true then(if hasG Rw.id l t=false∧(l.length:Int)≥most then(l,10) else(putG Rw.id l ⟨t,v⟩,0)) else(l,14):=by
 by_cases hr:rightS t=true
 ·rw[if_pos hr]
  by_cases c:hasG Rw.id l t=false∧(l.length:Int)≥most
  ·rw[if_pos c]
   unfold putL
   rw[if_pos hr,has_eqG ok,if_neg (by rw[c.1]; decide),if_pos c.2]
  ·rw[if_neg c]
   have h:has l t=true∨¬ (l.length:Int)≥most:=by
    rw[has_eqG ok]
    cases c0:hasG Rw.id l t with
    | true=>exact .inl rfl
    | false=>exact .inr fun h=>c ⟨c0,h⟩
   refine Prod.ext ?_ ?_
   ·refine Rise.ext (k:=Rw.id) (ok.put t v).rise (ok.riseG.put _) fun x=>?_
    rw[mem_putL ok hr h,mem_putG]
   ·unfold putL
    rw[if_pos hr]
    by_cases c0:has l t=true
    ·rw[if_pos c0]
    ·rw[if_neg c0,if_neg (h.resolve_left c0)]
 ·rw[if_neg hr]; unfold putL; rw[if_neg hr]
end
section
variable {α:Type} (k:α→Int)
def rowsOf (w:List α):List (Rw α):=w.map fun x=>⟨k x,x⟩
variable {k}
theorem rowsOf_len (w:List α):(rowsOf k w).length=w.length:=List.length_map _
theorem mem_rowsOf {w:List α} {r:Rw α}:r∈rowsOf k w↔r.v∈w∧r.id=k r.v:=by
 unfold rowsOf
 rw[List.mem_map]
 constructor
 ·rintro⟨x,hx,rfl⟩; exact⟨hx,rfl⟩
 ·rintro⟨h1,h2⟩; exact⟨r.v,h1,by cases r; simp only at h2; rw[h2]⟩
theorem Rise.ok {w:List α} (h:Rise k w) {most:Int} (hl:(w.length:Int)≤most) (hm:most≤1000000):Ok (rowsOf k w) most:=
 ⟨by unfold rowsOf; rw[List.pairwise_map]; exact h,by rw[rowsOf_len]; exact hl,hm⟩
theorem Rise.rows {w:List α} (h:Rise k w):Rise Rw.id (rowsOf k w):=by unfold rowsOf Rise; rw[List.pairwise_map]; exact h
theorem rowsOf_hasG (w:List α) (t:Int):hasG Rw.id (rowsOf k w) t=hasG k w t:=by
 unfold hasG rowsOf; rw[List.any_map]; rfl
end
section
variable {α:Type} [Inhabited α] {k:α→Int}
theorem rowsOf_has {w:List α} {most:Int} (ok:Ok (rowsOf k w) most) (t:Int):has (rowsOf k w) t=hasG k w t:=by
 rw[has_eqG ok,rowsOf_hasG]
theorem rowsOf_get {w:List α} {most:Int} (ok:Ok (rowsOf k w) most) (t:Int):getR (rowsOf k w) t=getG k w t:=by
 cases c:hasG k w t with
 | true=>
  obtain⟨h1,h2⟩:=getG_mem c
  have h3:(⟨k (getG k w t),getG k w t⟩:Rw α)∈rowsOf k w:=mem_rowsOf.2 ⟨h1,rfl⟩
  have:=get_of ok h3
  simp only[h2] at this
  exact this
 | false=>
  rw[getG_none c]
  unfold getR
  rw[if_neg (by rw[rowsOf_has ok,c]; decide)]
theorem rowsOf_put {w:List α} {most:Int} (h:Rise k w) (ok:Ok (rowsOf k w) most) (c:α):putL (rowsOf k w) most (k c) c=if rightS (k c)=true then(if hasG k w (k c)=false∧(w.length:Int)≥most then(rowsOf k w,10) else(rowsOf k (putG k w c),0)) else(rowsOf k w,14):=by
 rw[putL_eq ok,rowsOf_hasG,rowsOf_len]
 have e:putG Rw.id (rowsOf k w) ⟨k c,c⟩=rowsOf k (putG k w c):=by
  refine Rise.ext (k:=Rw.id) (h.rows.put _) (h.put c).rows fun x=>?_
  rw[mem_putG,mem_rowsOf,mem_rowsOf,mem_putG]
  cases x with
  | mk i v=>
   simp only[Rw.mk.injEq]
   constructor
   ·rintro (⟨h1,h2⟩|⟨⟨h1,h2⟩,h3⟩)
    ·exact⟨.inl h2,by rw[h1,h2]⟩
    ·exact⟨.inr ⟨h1,by rw[← h2]; exact h3⟩,h2⟩
   ·rintro⟨h1|⟨h1,h2⟩,h3⟩
    ·exact .inl ⟨by rw[h3,h1],h1⟩
    ·exact .inr ⟨⟨h1,h3⟩,by rw[h3]; exact h2⟩
 rw[e]
theorem rowsOf_drop {w:List α} {most:Int} (ok:Ok (rowsOf k w) most) (t:Int):dropL (rowsOf k w) t=rowsOf k (dropG k w t):=by
 rw[dropL_eq ok]
 unfold dropW rowsOf dropG
 rw[List.filter_map]; rfl
end
end Go.Proofs.Ytenaelaapdhbdaa
