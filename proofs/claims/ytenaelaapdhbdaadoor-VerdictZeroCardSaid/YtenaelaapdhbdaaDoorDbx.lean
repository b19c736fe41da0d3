/-
  What a report does to the ratings.
-/
import Derived.Test.YtenaelaapdhbdaaDoorDbv
import Derived.Test.YtenaelaapdhbdaaDoorProg
namespace Go.Proofs.YtenaelaapdhbdaaDoor
open Go Go.AM Go.Proofs
namespace Elo
def jm:List Int→List Int→Int
 | x::xs,a::bs=>(x-a)+jm xs bs
 | _,_=>0
def jD (xs:List Int):Bool:=xs.any fun v=>v == 0 || v == 10000
def lR (p m:Int):Nat→Int
 | 0=>0
 | k+1=>lR p m k+shr p m k
theorem s6 {p:Int} {m:Nat} (hp:0≤p) (hm:0<m):∀ k,k≤m→lR p m k=k*(p / m)+mnI k (p-p / m*m)
 | 0,_=>by
  have:=(ga hp (show(1:Int)≤m by omega)).2.2.2.1
  simp[lR,mnI]; omega
 | k+1,h=>by
  have h1:p-p / m*m<m:=by
   have:=Int.lt_ediv_add_one_mul_self p (show(0:Int)<m by omega)
   rw[Int.add_mul] at this; omega
  have ih:=s6 hp hm k (by omega)
  have e:shr p m k=if(k:Int)<p-p / m*m then p / m+1 else p / m:=by unfold shr; rw[if_neg (by omega),if_neg (by omega)]; rfl
  simp only[lR]
  rw[ih,e]
  have e2:((k+1:Nat):Int)*(p / m)=k*(p / m)+p / m:=by rw[Int.natCast_add,Int.add_mul]; simp
  rw[e2]
  unfold mnI
  (repeat' split)<;>omega
theorem zK {p:Int} {m:Nat} (hm:0<m):lR p m m=p:=by
 have key:∀ q:Int,0≤q→lR q m m=q:=fun q hq=>by
  have h1:q-q / m*m<m:=by
   have:=Int.lt_ediv_add_one_mul_self q (show(0:Int)<m by omega)
   rw[Int.add_mul] at this; omega
  rw[s6 hq hm m (Nat.le_refl _)]
  have:mnI (m:Int) (q-q / m*m)=q-q / m*m:=by unfold mnI; split<;>omega
  rw[this,Int.mul_comm]; omega
 by_cases hp:0≤p
 ·exact key p hp
 ·have h1:=key (-p) (by omega)
  have h2:∀ k,lR (-p) m k = -(lR p m k):=by
   intro k
   induction k with
   | zero=>rfl
   | succ k ih=>simp only[lR,ih,FV]; omega
  rw[h2] at h1; omega
theorem xj {a b:List Int} {r:Int} (h:(upd a b r).2.2=0):(1≤a.length∧a.length≤4)∧(1≤b.length∧b.length≤4)∧di a=true∧di b=true∧(0≤r∧r≤2)∧
  upd a b r=(shd a (stk (fk a) (fk b) (mnI a.length b.length) r),shd b (-(stk (fk a) (fk b) (mnI a.length b.length) r)),0):=by
 have e:=h
 unfold upd at e
 by_cases c:a.length<1∨b.length<1∨a.length>4∨b.length>4
 ·rw[if_pos c] at e; simp at e
 ·rw[if_neg c] at e
  by_cases d:di a=false∨di b=false∨r<0∨r>2
  ·rw[if_pos d] at e; simp at e
  ·refine⟨by omega,by omega,?_,?_,by omega,?_⟩
   ·cases hq:di a
    ·exact absurd (.inl hq) d
    ·rfl
   ·cases hq:di b
    ·exact absurd (.inr (.inl hq)) d
    ·rfl
   ·unfold upd; rw[if_neg c,if_neg d]
theorem Af (a:List Int) (p:Int):Rt (shd a p):=by
 have:∀(l:List Int) (n k:Int),Rt (jB n p k l):=by
  intro l
  induction l with
  | nil=>intro n k r h; simp[jB] at h
  | cons r l ih=>
   intro n k q h
   simp only[jB,List.mem_cons] at h
   rcases h with rfl|h
   ·exact cV _
   ·exact ih n _ q h
 exact this a _ _
theorem xJ {n:Int} (h:within n≠0) (h2:within n≠10000):within n=n:=by
 unfold within mnI mxI at *; (repeat' split at h)<;>(repeat' split)<;>omega
theorem rI (p:Int) (n:Nat):∀(l:List Int) (k:Nat),jD (jB n p k l)=false→jm (jB n p k l) l=lR p n (k+l.length)-lR p n k
 | [],k,_=>by simp[jB,jm]
 | r::l,k,h=>by
  simp only[jB,jD,List.any_cons,Bool.or_eq_false_iff,beq_eq_false_iff_ne] at h
  have h2:=rI p n l (k+1) h.2
  have e:=xJ h.1.1 h.1.2
  simp only[jB,jm,e]
  have e3:((k+1:Nat):Int)=(k:Int)+1:=by omega
  rw[e3] at h2
  rw[h2,List.length_cons,show k+(l.length+1)=k+1+l.length by omega]
  simp only[lR]; omega
theorem tj {a:List Int} {p:Int} (h:1≤a.length) (he:jD (shd a p)=false):jm (shd a p) a=p:=by
 have:=rI p a.length a 0 he
 unfold shd
 rw[show((0:Nat):Int)=0 from rfl] at this
 rw[this,Nat.zero_add,zK (by omega)]; simp[lR]
end Elo
def sm (g:Int→Int):List Int→Int
 | []=>0
 | q::l=>g q+sm g l
theorem B6 (a b:Int→Int):∀ l,sm (fun q=>a q+b q) l=sm a l+sm b l
 | []=>rfl
 | q::l=>by simp only[sm,B6 a b l]; omega
theorem td {a b:Int→Int}:∀ {l:List Int},(∀ q∈l,a q=b q)→sm a l=sm b l
 | [],_=>rfl
 | q::l,h=>by simp only[sm]; rw[h q (by simp),td fun x hx=>h x (by simp[hx])]
theorem nh {a:Int→Int}:∀ {l:List Int},(∀ q∈l,a q=0)→sm a l=0
 | [],_=>rfl
 | q::l,h=>by simp only[sm]; rw[h q (by simp),nh fun x hx=>h x (by simp[hx])]; rfl
theorem Ba {a:Int→Int} {p:Int}:∀ {l:List Int},l.Nodup→p∈l→(∀ q,q≠p→a q=0)→sm a l=a p
 | q::l,hn,hp,h=>by
  rw[List.nodup_cons] at hn
  simp only[sm]
  by_cases c:q=p
  ·subst c
   rw[nh fun x hx=>h x fun e=>hn.1 (e▸hx)]; omega
  ·rw[h q c,Ba hn.2 ((List.mem_cons.1 hp).resolve_left fun e=>c e.symm) h]; omega
def RiA (ra:List RwI):Prop:=∀ r∈ra,aF r.id=true
theorem RiA.has {ra:List RwI} {m:Int} (h:RiA ra) (ok:Ok ra m) {t:Int} (ht:has ra t=true):aF t=true:=by
 obtain⟨r,h1,rfl⟩:=(eX ok).1 ht
 exact h r h1
theorem RiA.put {ra:List RwI} {m:Int} (h:RiA ra) (ok:Ok ra m) (t v:Int):RiA (bZ ra m t v).1:=by
 rw[vS ok]
 by_cases c:aF t=true
 ·rw[if_pos c]
  split
  ·exact h
  ·intro r hr
   rcases fy.1 hr with rfl|⟨h1,_⟩
   ·exact c
   ·exact h r h1
 ·rw[if_neg c]; exact h
theorem RiA.Lo {ra:List RwI} {m:Int} (h:RiA ra) (ok:Ok ra m) (xs:List (Int×Int)):RiA (b8 ra m xs):=by
 unfold b8
 induction xs generalizing ra with
 | nil=>exact h
 | cons x xs ih=>exact ih (h.put ok _ _) (ok.put _ _)
theorem vu {ra:List RwI} {m t v:Int} (ok:Ok ra m) (hr:aF t=true) (ht:has ra t=true) (q:Int):has (bZ ra m t v).1 q=has ra q:=by
 rw[Bool.eq_iff_iff,eX (ok.put t v),eX ok]
 constructor
 ·rintro⟨r,h1,rfl⟩
  rcases (gp ok hr (.inl ht) r).1 h1 with rfl|⟨h2,_⟩
  ·exact(eX ok).1 ht
  ·exact⟨r,h2,rfl⟩
 ·rintro⟨r,h1,rfl⟩
  by_cases c:r.id=t
  ·exact⟨⟨t,v⟩,(gp ok hr (.inl ht) _).2 (.inl rfl),c.symm⟩
  ·exact⟨r,(gp ok hr (.inl ht) r).2 (.inr ⟨h1,c⟩),rfl⟩
theorem EV {ra:List RwI} {m t v:Int} (ok:Ok ra m) (hr:aF t=true) (ht:has ra t=true) (q:Int):aD (bZ ra m t v).1 q=if q=t then v else aD ra q:=by
 by_cases c:q=t
 ·rw[if_pos c,c]
  exact qD (ok.put t v) ((gp ok hr (.inl ht) (⟨t,v⟩:RwI)).2 (.inl rfl))
 ·rw[if_neg c]
  by_cases k:has ra q=true
  ·obtain⟨r,h1,rfl⟩:=(eX ok).1 k
   rw[qD (ok.put t v) ((gp ok hr (.inl ht) r).2 (.inr ⟨h1,c⟩)),qD ok h1]
  ·have k2:¬ has (bZ ra m t v).1 q=true:=by rw[vu ok hr ht]; exact k
   unfold aD
   rw[if_neg k,if_neg k2]
theorem FA {ra:List RwI} {m t v:Int} (hr:aF t=true) (ht:has ra t=true):(bZ ra m t v).1.length=ra.length:=by
 unfold bZ
 rw[if_pos hr,if_pos ht,List.length_set]
structure Puts (ra ra2:List RwI) (xs:List (Int×Int)):Prop where
 len:ra2.length=ra.length
 out:∀ q,q∉xs.map Prod.fst→aD ra2 q=aD ra q
 put:∀ x∈xs,aD ra2 x.1=x.2
 sum:∀ I:List Int,I.Nodup→(∀ x∈xs,x.1∈I)→sm (fun q=>aD ra2 q-aD ra q) I=(xs.map fun x=>x.2-aD ra x.1).sum
theorem wA {m:Int}:∀(xs:List (Int×Int)) {ra:List RwI},Ok ra m→RiA ra→(∀ x∈xs,has ra x.1=true)→(xs.map Prod.fst).Nodup→Puts ra (b8 ra m xs) xs
 | [],ra,_,_,_,_=>⟨rfl,fun _ _=>rfl,(fun _ h=>nomatch h),fun I _ _=>nh fun q _=>by show aD ra q-aD ra q=0; omega⟩
 | x::xs,ra,ok,hr,hh,hn=>by
  have h0:=hh x (by simp)
  have r0:=hr.has ok h0
  rw[List.map_cons,List.nodup_cons] at hn
  have ih:=wA xs (ok.put x.1 x.2) (hr.put ok x.1 x.2) (fun y hy=>by rw[vu ok r0 h0]; exact hh y (by simp[hy])) hn.2
  have e:b8 ra m (x::xs)=b8 (bZ ra m x.1 x.2).1 m xs:=rfl
  rw[e]
  obtain⟨l2,hl2⟩:∃ l2,l2=b8 (bZ ra m x.1 x.2).1 m xs:=⟨_,rfl⟩
  rw[← hl2] at ih ⊢
  have g:=EV (v:=x.2) ok r0 h0
  refine⟨ih.len.trans (FA r0 h0),fun q hq=>?_,fun y hy=>?_,fun I hI hx=>?_⟩
  ·rw[List.map_cons,List.mem_cons,not_or] at hq
   rw[ih.out q hq.2,g,if_neg hq.1]
  ·rcases List.mem_cons.1 hy with rfl|hy
   ·rw[ih.out _ hn.1,g,if_pos rfl]
   ·exact ih.put y hy
  ·have e1:sm (fun q=>aD l2 q-aD ra q) I=sm (fun q=>aD l2 q-aD (bZ ra m x.1 x.2).1 q) I+sm (fun q=>aD (bZ ra m x.1 x.2).1 q-aD ra q) I:=by
    rw[← B6]; exact td fun q _=>by omega
   rw[e1,ih.sum I hI fun y hy=>hx y (by simp[hy]),Ba hI (hx x (by simp)) fun q hq=>by rw[g,if_neg hq]; omega]
   rw[g,if_pos rfl,List.map_cons,List.sum_cons]
   have e2:(xs.map fun y=>y.2-aD (bZ ra m x.1 x.2).1 y.1)=xs.map fun y=>y.2-aD ra y.1:=by
    refine List.map_congr_left fun y hy=>?_
    rw[g,if_neg]
    intro e; exact hn.1 (e▸List.mem_map_of_mem hy)
   rw[e2]; omega
theorem CG {α:Type} {g:α→Int}:∀ {l:List α},(l.map g).Nodup→∀ {a b:α},a∈l→b∈l→g a=g b→a=b
 | x::l,h,a,b,ha,hb,e=>by
  rw[List.map_cons,List.nodup_cons] at h
  rcases List.mem_cons.1 ha with e1|ha2<;>rcases List.mem_cons.1 hb with e2|hb2
  ·rw[e1,e2]
  ·rw[e1] at e; exact absurd (e▸List.mem_map_of_mem hb2) h.1
  ·rw[e2] at e; exact absurd (e▸List.mem_map_of_mem ha2) h.1
  ·exact CG h.2 ha2 hb2 e
theorem wg {l:List Se} {k:Int} {s:Se} (h:s∈cg l k):s∈l∧s.tm=k:=by
 obtain⟨h1,h2⟩:=List.mem_filter.1 h
 refine⟨h1,?_⟩
 unfold jo at h2
 simp only[Bool.and_eq_true,beq_iff_eq] at h2
 exact h2.1
theorem Er {l:List Se} (h:(l.map Se.pl).Nodup):((cg l 1).map Se.pl++(cg l 2).map Se.pl).Nodup:=by
 rw[List.nodup_append]
 have sub:∀ k,((cg l k).map Se.pl).Nodup:=fun k=>List.Nodup.sublist (List.Sublist.map Se.pl List.filter_sublist) h
 refine⟨sub 1,sub 2,fun a ha b hb e=>?_⟩
 subst e
 obtain⟨s,hs,e1⟩:=List.mem_map.1 ha
 obtain⟨t,ht,e2⟩:=List.mem_map.1 hb
 obtain⟨s1,s2⟩:=wg hs
 obtain⟨t1,t2⟩:=wg ht
 have:=CG h s1 t1 (e1.trans e2.symm)
 rw[this,t2] at s2; cases s2
theorem vQ (ra:List RwI):∀(ps ns:List Int),((ps.zip ns).map fun x=>x.2-aD ra x.1).sum=Elo.jm ns (ps.map (aD ra))
 | [],ns=>by cases ns<;>rfl
 | _::_,[]=>rfl
 | p::ps,n::ns=>by
  rw[List.zip_cons_cons,List.map_cons,List.sum_cons,List.map_cons,vQ ra ps ns]; rfl
theorem sr:∀ {a b:List Int} (c d:List Int),a.length=b.length→Elo.jm (a++c) (b++d)=Elo.jm a b+Elo.jm c d
 | [],[],c,d,_=>by show Elo.jm c d=0+Elo.jm c d; omega
 | x::a,y::b,c,d,h=>by
  have:=sr (a:=a) (b:=b) c d (by simpa using h)
  simp only[List.cons_append,Elo.jm]; omega
 | [],_::_,_,_,h=>by simp at h
 | _::_,[],_,_,h=>by simp at h
def tH (z:Int):Prop:=0≤z∧z≤10000
structure Jd (ra:List RwI) (v:Vd):Prop where
 nd:v.ps.Nodup
 al:hasAll ra v.ps=true
 ln:v.new.length=v.ps.length
 sm:v.new.any (fun z=>z == 0 || z == 10000)=true∨Elo.jm v.new (v.ps.map (aD ra))=0
 same:v.new=v.ps.map (aD ra)∨((∀ z∈v.new,tH z)∧∀ p∈v.ps,tH (aD ra p))
theorem pV:∀ l:List Int,Elo.jm l l=0
 | []=>rfl
 | x::l=>by simp only[Elo.jm,pV l]; omega
theorem zG {ra:List RwI} {l:List Se} {k:Int} (h:¬ (bn ra l k).2.2≠0):(∀ s∈cg l k,has ra s.pl=true)∧bn ra l k=((cg l k).map Se.pl,((cg l k).map Se.pl).map (aD ra),0):=by
 unfold bn at h ⊢
 by_cases c:(cg l k).all (fun s=>has ra s.pl)=true
 ·rw[if_pos c]
  refine⟨List.all_eq_true.1 c,?_⟩
  rw[List.map_map]; rfl
 ·rw[if_neg c] at h; exact absurd (show ¬ (12:Int)=0 by decide) h
theorem CQ {ra:List RwI} {c:Mt} {r:Int} (hn:(c.aa.map Se.pl).Nodup) (h:(bE ra c r).2=0):Jd ra (bE ra c r).1:=by
 unfold bE at h ⊢
 by_cases c1:r<0∨3≤r
 ·rw[if_pos c1] at h; exact absurd h (show ¬ (2:Int)=0 by decide)
 rw[if_neg c1] at h ⊢
 by_cases c2:(bn ra c.aa 1).2.2≠0
 ·rw[if_pos c2] at h; exact absurd h c2
 rw[if_neg c2] at h ⊢
 by_cases c3:(bn ra c.aa 2).2.2≠0
 ·rw[if_pos c3] at h; exact absurd h c3
 rw[if_neg c3] at h ⊢
 obtain⟨a1,e1⟩:=zG c2
 obtain⟨a2,e2⟩:=zG c3
 have nd:=Er hn
 rw[e1,e2] at h ⊢
 obtain⟨p1,hp1⟩:∃ p1,p1=(cg c.aa 1).map Se.pl:=⟨_,rfl⟩
 obtain⟨p2,hp2⟩:∃ p2,p2=(cg c.aa 2).map Se.pl:=⟨_,rfl⟩
 have al:hasAll ra (p1++p2)=true:=by
  unfold hasAll
  rw[List.all_eq_true]
  intro p hp
  rcases List.mem_append.1 hp with k|k
  ·rw[hp1] at k; obtain⟨s,hs,rfl⟩:=List.mem_map.1 k; exact a1 s hs
  ·rw[hp2] at k; obtain⟨s,hs,rfl⟩:=List.mem_map.1 k; exact a2 s hs
 rw[← hp1,← hp2] at nd h ⊢
 simp only at h ⊢
 by_cases c4:0<(p1.map (aD ra)).length∧0<(p2.map (aD ra)).length
 ·rw[if_pos c4] at h ⊢
  by_cases c5:(Elo.upd (p1.map (aD ra)) (p2.map (aD ra)) r).2.2≠0
  ·rw[if_pos c5] at h; exact absurd h c5
  rw[if_neg c5]
  obtain⟨⟨h1,_⟩,⟨h3,_⟩,h5,h6,_,hu⟩:=Elo.xj (Decidable.not_not.1 c5)
  rw[hu]
  dsimp only
  generalize Elo.stk (Elo.fk (p1.map (aD ra))) (Elo.fk (p2.map (aD ra))) (mnI (p1.map (aD ra)).length (p2.map (aD ra)).length) r=n
  refine⟨nd,al,?_,?_,.inr ⟨fun z hz=>?_,fun p hp=>?_⟩⟩
  ·simp only[List.length_append,Elo.eW,List.length_map]
  ·show(Elo.shd _ n++Elo.shd _ (-n)).any _=true∨Elo.jm (Elo.shd _ n++Elo.shd _ (-n)) _=0
   by_cases e:(Elo.jD (Elo.shd (p1.map (aD ra)) n) || Elo.jD (Elo.shd (p2.map (aD ra)) (-n)))=true
   ·left; rw[List.any_append]; exact e
   ·right
    have e:(Elo.jD (Elo.shd (p1.map (aD ra)) n) || Elo.jD (Elo.shd (p2.map (aD ra)) (-n)))=false:=by simpa using e
    rw[Bool.or_eq_false_iff] at e
    rw[List.map_append,sr _ _ (Elo.eW _ _),Elo.tj h1 e.1,Elo.tj h3 e.2]; omega
  ·rcases List.mem_append.1 hz with k|k
   ·exact Elo.Af _ _ z k
   ·exact Elo.Af _ _ z k
  ·rcases List.mem_append.1 hp with k|k
   ·exact Elo.gX h5 _ (List.mem_map_of_mem k)
   ·exact Elo.gX h6 _ (List.mem_map_of_mem k)
 ·rw[if_neg c4]
  refine⟨nd,al,?_,.inr ?_,.inl (by rw[List.map_append])⟩
  ·simp only[List.length_append,List.length_map]
  ·simp only[List.map_append]; exact pV _
structure Zd (ra:List RwI) (p:Rp):Prop where
 len:p.ra.length=ra.length
 ch:∀ s∈ra,aD p.ra s.id≠aD ra s.id→p.e=0∧cf p.v.ps s.id=true∧tH (aD p.ra s.id)∧tH (aD ra s.id)
 sum:p.v.ps.any (kN p.ra)=true∨sm (fun q=>aD p.ra q-aD ra q) (ra.map Rw.id)=0
theorem nA {ra:List RwI} {p:Rp} (h:p.ra=ra):Zd ra p:=by
 refine⟨by rw[h],fun s _ c=>absurd (by rw[h]) c,.inr (nh fun q _=>by rw[h]; omega)⟩
theorem zip_fst:∀ {ps ns:List Int},ns.length=ps.length→(ps.zip ns).map Prod.fst=ps
 | [],_,_=>rfl
 | p::ps,n::ns,h=>by rw[List.zip_cons_cons,List.map_cons,zip_fst (by simpa using h)]
 | _::_,[],h=>by simp at h
theorem vI:∀ {ps ns:List Int} {z:Int},ns.length=ps.length→z∈ns→∃ p∈ps,(p,z)∈ps.zip ns
 | [],[],_,_,h=>nomatch h
 | p::ps,n::ns,z,h,hz=>by
  rcases List.mem_cons.1 hz with rfl|hz
  ·exact⟨p,by simp,by simp⟩
  ·obtain⟨q,h1,h2⟩:=vI (by simpa using h) hz
   exact⟨q,by simp[h1],by simp[h2]⟩
 | _::_,[],_,h,_=>by simp at h
 | [],_::_,_,h,_=>by simp at h
theorem sb:∀ {ps ns:List Int} {p:Int},ns.length=ps.length→p∈ps→∃ z∈ns,(p,z)∈ps.zip ns
 | [],[],_,_,h=>nomatch h
 | p::ps,n::ns,z,h,hz=>by
  rcases List.mem_cons.1 hz with rfl|hz
  ·exact⟨n,by simp,by simp⟩
  ·obtain⟨q,h1,h2⟩:=sb (by simpa using h) hz
   exact⟨q,by simp[h1],by simp[h2]⟩
 | _::_,[],_,h,_=>by simp at h
 | [],_::_,_,h,_=>by simp at h
theorem r7 {g:Int→Int}:∀ {ps:List Int} {x:Int×Int},x∈ps.zip (ps.map g)→x.2=g x.1
 | p::ps,x,h=>by
  rw[List.map_cons,List.zip_cons_cons] at h
  rcases List.mem_cons.1 h with rfl|h
  ·rfl
  ·exact r7 h
theorem Ko {ra:List RwI} {m:Int} {w:List Mt} {k:Int} (ok:Ok ra m) (ri:RiA ra) (ro:MO w k) (ins id r:Int):Zd ra (bi ra m w ins id r):=by
 by_cases c:(bi ra m w ins id r).e=0
 ·unfold bi at c ⊢
  by_cases c1:bu Mt.id w id=false
  ·rw[if_pos c1]; exact nA rfl
  rw[if_neg c1] at c ⊢
  by_cases c2:(gM w id).ins≠ins
  ·rw[if_pos c2]; exact nA rfl
  rw[if_neg c2] at c ⊢
  by_cases c3:(bE ra (gM w id) r).2≠0
  ·rw[if_pos c3]; exact nA rfl
  rw[if_neg c3]
  have jd:=CQ (ro.Ap (eq_true_of_ne_false c1)).nd (Decidable.not_not.1 c3)
  obtain⟨v,hv⟩:∃ v,v=(bE ra (gM w id) r).1:=⟨_,rfl⟩
  rw[← hv] at jd ⊢
  have e:(cX ra m v).1=b8 ra m (v.ps.zip v.new):=by unfold cX; rw[if_neg (by simp[jd.ln]),if_pos jd.al]
  have hh:∀ p∈v.ps,has ra p=true:=List.all_eq_true.1 jd.al
  have mz:∀ x∈v.ps.zip v.new,x.1∈v.ps:=fun x hx=>by rw[← zip_fst jd.ln]; exact List.mem_map_of_mem hx
  have pu:=wA (v.ps.zip v.new) ok ri (fun x hx=>hh _ (mz x hx)) (by rw[zip_fst jd.ln]; exact jd.nd)
  rw[← e] at pu
  obtain⟨l2,hl2⟩:∃ l2,l2=(cX ra m v).1:=⟨_,rfl⟩
  rw[← hl2] at pu ⊢
  have nd:(ra.map Rw.id).Nodup:=by
   have:=ok.rise
   unfold List.Nodup
   rw[List.pairwise_map]
   exact this.imp fun h e=>by omega
  refine⟨pu.len,fun s hs hne=>?_,?_⟩
  ·have hm:s.id∈v.ps:=by
    refine Classical.byContradiction fun k=>hne ?_
    exact pu.out _ (by rw[zip_fst jd.ln]; exact k)
   obtain⟨z,h1,h2⟩:=sb jd.ln hm
   have h3:aD l2 s.id=z:=pu.put _ h2
   refine⟨rfl,kp.2 hm,?_⟩
   rcases jd.same with k|⟨k1,k2⟩
   ·rw[k] at h2
    exact absurd (h3.trans (r7 h2)) hne
   ·exact⟨by show tH (aD l2 s.id); rw[h3]; exact k1 z h1,k2 _ hm⟩
  ·have hs:=pu.sum (ra.map Rw.id) nd fun x hx=>by
    obtain⟨y,h1,h2⟩:=(eX ok).1 (hh _ (mz x hx))
    rw[← h2]; exact List.mem_map_of_mem h1
   rw[vQ] at hs
   rcases jd.sm with k|k
   ·left
    obtain⟨z,hz,e0⟩:=List.any_eq_true.1 k
    obtain⟨p,h1,h2⟩:=vI jd.ln hz
    have h3:aD l2 p=z:=pu.put _ h2
    refine List.any_eq_true.2 ⟨p,h1,?_⟩
    unfold kN; rw[h3]; exact e0
   ·right; exact hs.trans k
 ·exact nA (Lt c).1
theorem wx {ra r0:List RwI}:∀(l:List RwI) (acc:Int),(∀ s∈l,aD ra s.id≠aD r0 s.id→tH (aD ra s.id)∧tH (aD r0 s.id))→ -1000000000000≤acc-10000*(l.length:Int)∧acc+10000*(l.length:Int)≤1000000000000→l.foldl (me ra r0) acc=acc+sm (fun q=>aD ra q-aD r0 q) (l.map Rw.id)
 | [],acc,_,_=>by show acc=acc+0; omega
 | s::l,acc,h,hb=>by
  rw[List.length_cons] at hb
  rw[List.foldl_cons,List.map_cons]
  have h1:=h s (by simp)
  have key:me ra r0 acc s=acc+(aD ra s.id-aD r0 s.id)∧ -10000≤aD ra s.id-aD r0 s.id∧aD ra s.id-aD r0 s.id≤10000:=by
   unfold me
   by_cases c:aD ra s.id=aD r0 s.id
   ·rw[if_pos c,c]; omega
   ·rw[if_neg c]
    obtain⟨⟨h2,h3⟩,h4,h5⟩:=h1 c
    rw[a8 (n:=aD ra s.id-aD r0 s.id) (by omega) (by omega),a8 (by omega) (by omega)]
    omega
  rw[wx l _ (fun x hx=>h x (by simp[hx])) (by omega),key.1]
  simp only[sm]; omega
end Go.Proofs.YtenaelaapdhbdaaDoor
