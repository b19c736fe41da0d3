/-
  SeatOne's plain law.
-/
import Derived.Test.YtenaelaapdhbdaaSae
import Derived.Test.YtenaelaapdhbdaaProg
namespace Go.Proofs.Ytenaelaapdhbdaa
open Go Go.AM Go.Proofs
def plM (c:Mt):List Int:=c.rows.flatMap Rr.pl
theorem map_fst_pairs (l:List Rr):(pairs l).map Prod.fst=l.flatMap Rr.pl:=by
 induction l with
 | nil=>rfl
 | cons r l ih=>show((r.pl.map fun p=>(p,r.tm))++pairs l).map Prod.fst=r.pl++l.flatMap Rr.pl; rw[List.map_append,ih,List.map_map]; congr 1; exact(List.map_congr_left fun _ _=>rfl).trans (List.map_id _)
theorem map_fst_pairS (l:List Se):(pairS l).map Prod.fst=l.map Se.pl:=by unfold pairS; rw[List.map_map]; rfl
theorem pl_pm {c:Mt} (h:c.Ok):(c.seats.map Se.pl).Perm (plM c):=by
 have:=h.pm.map Prod.fst
 rwa [map_fst_pairs,map_fst_pairS] at this
theorem pl_nd {c:Mt} (h:c.Ok):(plM c).Nodup:=(pl_pm h).nodup_iff.1 h.nd
theorem pl_in {c:Mt} (h:c.Ok) {p:Int}:p∈plM c↔inM c p=true:=by rw[inM_mem]; exact(pl_pm h).mem_iff.symm
theorem pl_len (c:Mt):(plM c).length=tot c.rows:=by unfold plM tot; rw[List.length_flatMap]
theorem seats_tot {c:Mt} (h:c.Ok):c.seats.length=tot c.rows:=by rw[← pl_len,← (pl_pm h).length_eq,List.length_map]
theorem tot8 {c:Mt} (h:c.Ok):tot c.rows≤8:=by rw[tot_taken h.tm]; have:=h.t1; have:=h.t2; omega
theorem taken_pairs (l:List Rr) (t:Int):((pairs l).filter fun x=>x.2 == t).length=taken l t:=by
 induction l with
 | nil=>rfl
 | cons r l ih=>
  show(((r.pl.map fun p=>(p,r.tm))++pairs l).filter fun x=>x.2 == t).length=_
  rw[List.filter_append,List.length_append,ih]
  unfold taken
  by_cases c:(r.tm == t)=true
  ·rw[List.filter_cons_of_pos (p:=fun r:Rr=>r.tm == t) c,List.map_cons,List.sum_cons,List.filter_eq_self.2,List.length_map]
   intro x hx
   obtain⟨p,_,rfl⟩:=List.mem_map.1 hx
   exact c
  ·rw[List.filter_cons_of_neg (p:=fun r:Rr=>r.tm == t) c,List.filter_eq_nil_iff.2,List.length_nil,Nat.zero_add]
   intro x hx
   obtain⟨p,_,rfl⟩:=List.mem_map.1 hx
   exact c
theorem team_len {c:Mt} (h:c.Ok) (k:Int):(teamS c.seats k).length=taken c.rows k:=by
 rw[← taken_pairs,← (h.pm.filter fun x=>x.2 == k).length_eq]
 unfold teamS pairS
 rw[List.filter_map,List.length_map,List.length_map]
 rfl
theorem team_fit {c:Mt} (h:c.Ok):(teamS c.seats 1).length≤4∧(teamS c.seats 2).length≤4∧(teamS c.seats 1).length+(teamS c.seats 2).length=c.seats.length:=by
 rw[team_len h,team_len h,seats_tot h,tot_taken h.tm]
 exact⟨h.t1,h.t2,rfl⟩
theorem of_in {w:List Mt} {m:Int} (ro:MO w m) {c:Mt} (hc:c∈w) {p:Int} (hp:inM c p=true):ofM w p=c.id∧gM w c.id=c:=by
 have hg:gM w c.id=c:=getG_of ro.rise hc
 rcases of_spec ro p with⟨h1,h2⟩|⟨_,_,h3⟩
 ·have e:=ro.one _ hc _ (getG_mem h1).1 p hp h2
  exact⟨by rw[e]; exact(MO.gmid h1).symm,hg⟩
 ·rw[h3 c hc] at hp; cases hp
theorem find_in {c:Mt} (h:c.Ok) {r:Rr} (hr:r∈c.rows) {p:Int} (hp:p∈r.pl):inM c p=true∧(findM c p).pl=p∧(findM c p).tm=r.tm:=by
 have hin:inM c p=true:=(pl_in h).1 (List.mem_flatMap.2 ⟨r,hr,hp⟩)
 obtain⟨h1,_⟩:=ixS_in hin
 have hf:findM c p=c.seats.getD (c.seats.findIdx (isP p)) default:=by unfold findM; rw[if_pos hin]
 obtain⟨s,hs⟩:∃ s,s=findM c p:=⟨_,rfl⟩
 rw[← hs] at hf ⊢
 have hm:s∈c.seats:=by rw[hf]; exact getD_mem h1
 have hpl:s.pl=p:=by
  have:=List.findIdx_getElem (w:=h1)
  rw[hf,List.getD_eq_getElem?_getD,List.getElem?_eq_getElem h1]
  exact eq_of_beq this
 refine⟨hin,hpl,?_⟩
 have m1:(p,s.tm)∈pairs c.rows:=h.pm.subset (List.mem_map.2 ⟨s,hm,by rw[hpl]⟩)
 have m2:(p,r.tm)∈pairs c.rows:=List.mem_flatMap.2 ⟨r,hr,List.mem_map.2 ⟨p,hp,rfl⟩⟩
 have nd:((pairs c.rows).map Prod.fst).Nodup:=by rw[map_fst_pairs]; exact pl_nd h
 clear hs hf
 generalize pairs c.rows=l at m1 m2 nd
 induction l with
 | nil=>cases m1
 | cons a l ih=>
  rw[List.map_cons,List.nodup_cons] at nd
  rcases List.mem_cons.1 m1 with e1|e1<;>rcases List.mem_cons.1 m2 with e2|e2
  ·have e3:=e1.trans e2.symm; exact congrArg Prod.snd e3
  ·rw[← e1] at nd; exact absurd (List.mem_map.2 ⟨_,e2,rfl⟩) nd.1
  ·rw[← e2] at nd; exact absurd (List.mem_map.2 ⟨_,e1,rfl⟩) nd.1
  ·exact ih e1 e2 nd.2
theorem all_nd {w:List Mt} {m:Int} (ro:MO w m):(w.flatMap plM).Nodup:=by
 refine List.pairwise_flatMap.2 ⟨fun c hc=>pl_nd (ro.cs c hc),?_⟩
 have:=ro.rise
 have h1:w.Pairwise fun a b=>a.id≠b.id:=List.Pairwise.imp (fun h=>by omega) this
 refine h1.imp_of_mem fun {a b} ha hb hne x hx y hy e=>?_
 subst e
 exact hne (by rw[ro.one a ha b hb x ((pl_in (ro.cs a ha)).1 hx) ((pl_in (ro.cs b hb)).1 hy)])
theorem all_len {w:List Mt} {m:Int} (ro:MO w m):(w.flatMap plM).length≤8*w.length:=by
 have:∀ l:List Mt,(∀ c∈l,c.Ok)→(l.flatMap plM).length≤8*l.length:=by
  intro l
  induction l with
  | nil=>intro _; exact Nat.zero_le _
  | cons c l ih=>
   intro h
   have h1:=ih fun x hx=>h x (List.mem_cons_of_mem _ hx)
   have h2:=tot8 (h c (List.mem_cons_self ..))
   show(plM c++l.flatMap plM).length≤_
   rw[List.length_append,pl_len,List.length_cons]; omega
 exact this w ro.cs
theorem flat_succ {α:Type} [Inhabited α] {g:α→List Int} {l:List α} {k:Nat} (h:k<l.length):(l.take (k+1)).flatMap g=(l.take k).flatMap g++g (l.getD k default):=by
 rw[take_snoc default h,List.flatMap_append,List.flatMap_cons,List.flatMap_nil,List.append_nil]
theorem nd_pre {α:Type} [Inhabited α] {g:α→List Int} {l:List α} {k:Nat} {b:List Int} (h:k<l.length) (hn:(b++l.flatMap g).Nodup):((b++(l.take k).flatMap g)++g (l.getD k default)).Nodup:=by
 rw[List.append_assoc,← flat_succ h]
 rw[show l.flatMap g=(l.take (k+1)).flatMap g++(l.drop (k+1)).flatMap g by rw[← List.flatMap_append,List.take_append_drop],← List.append_assoc] at hn
 exact(List.nodup_append.1 hn).1
theorem nd_new {l b:List Int} {x:Nat} (h:x<l.length) (hn:(b++l).Nodup):memB (b++l.take x) (l.getD x 0)=false:=by
 have:¬ memB (b++l.take x) (l.getD x 0)=true:=by
  rw[memB_iff]
  intro hm
  have e:l=l.take x++(l.getD x 0::l.drop (x+1)):=by
   have:=List.take_append_drop x l
   rw[List.drop_eq_getElem_cons h] at this
   rw[List.getD_eq_getElem?_getD,List.getElem?_eq_getElem h]
   exact this.symm
  rw[e,← List.append_assoc] at hn
  exact(List.nodup_append.1 hn).2.2 _ hm _ (List.mem_cons_self ..) rfl
 simpa using this
theorem nu_lt {c:Mt} (h:c.Ok) {j:Nat} (h0:1≤j) (hj:j<c.seats.length):(c.seats.getD (j-1) default).nu<(c.seats.getD j default).nu:=by
 have:=List.pairwise_iff_getElem.1 h.sn (j-1) j (by omega) hj (by omega)
 rwa [List.getD_eq_getElem?_getD,List.getD_eq_getElem?_getD,List.getElem?_eq_getElem hj,List.getElem?_eq_getElem (show j-1<c.seats.length by omega)]
end Go.Proofs.Ytenaelaapdhbdaa
