/-
  A right book stays right.
-/
import Derived.Test.YtenaelaapdhbdaaDoorDr
import Derived.Test.YtenaelaapdhbdaaDoorProg
namespace Go.Proofs.YtenaelaapdhbdaaDoor
open Go Go.AM Go.Proofs
theorem gA {α:Type} (l:List α) (k:Nat) (a:α):(bz l k a).Perm (a::l):=by
 unfold bz
 refine List.perm_middle.trans ?_
 rw[List.take_append_drop]
structure SO (l:List Se):Prop where
 sn:l.Pairwise fun a b=>a.nu<b.nu
 lo:∀ s∈l,0≤s.nu
theorem SO.nil:SO []:=⟨List.Pairwise.nil,fun _ h=>nomatch h⟩
theorem SO.ge {l:List Se} (h:SO l):∀ i,i<l.length→(i:Int)≤(l.getD i default).nu:=by
 intro i
 induction i with
 | zero=>intro hi; exact h.lo _ (bj hi)
 | succ i ih=>
  intro hi
  have h1:=ih (by omega)
  have h2:=List.pairwise_iff_getElem.1 h.sn i (i+1) (by omega) hi (by omega)
  rw[List.getD_eq_getElem?_getD,List.getElem?_eq_getElem (by omega),Option.getD_some] at h1
  rw[List.getD_eq_getElem?_getD,List.getElem?_eq_getElem hi,Option.getD_some]
  omega
theorem SO.sit {l:List Se} (h:SO l) (p t:Int):SO (fQ l p t):=by
 have hg:=ew l
 refine⟨?_,fun s hs=>?_⟩
 ·unfold fQ bz
  rw[List.pairwise_append]
  refine⟨h.sn.sublist (List.take_sublist _ _),List.pairwise_cons.2 ⟨fun a ha=>?_,h.sn.sublist (List.drop_sublist _ _)⟩,fun a ha b hb=>?_⟩
  ·obtain⟨k,hk,rfl⟩:=List.mem_iff_getElem.1 ha
   rw[List.length_drop] at hk
   rw[List.getElem_drop]
   show(cO l:Int)<_
   have h1:=h.ge (cO l) (by omega)
   have h2:=qO (l:=l) (by omega)
   rw[List.getD_eq_getElem?_getD,List.getElem?_eq_getElem (by omega),Option.getD_some] at h1 h2
   rcases Nat.eq_zero_or_pos k with rfl|hp
   ·simp only[Nat.add_zero]; omega
   ·have:=List.pairwise_iff_getElem.1 h.sn (cO l) (cO l+k) (by omega) (by omega) (by omega)
    omega
  ·obtain⟨k,hk,rfl⟩:=List.mem_iff_getElem.1 ha
   rw[List.length_take] at hk
   have h1:=nq (l:=l) (m:=k) (by omega)
   rw[List.getD_eq_getElem?_getD,List.getElem?_eq_getElem (by omega),Option.getD_some] at h1
   rw[List.getElem_take]
   rcases List.mem_cons.1 hb with rfl|hb
   ·rw[h1]; show(k:Int)<(cO l:Int); omega
   ·obtain⟨m,hm,rfl⟩:=List.mem_iff_getElem.1 hb
    rw[List.length_drop] at hm
    rw[List.getElem_drop]
    exact List.pairwise_iff_getElem.1 h.sn k (cO l+m) (by omega) (by omega) (by omega)
 ·have:=(gA l (cO l) (fx l p t)).mem_iff.1 hs
  rcases List.mem_cons.1 this with rfl|hs
  ·show(0:Int)≤(cO l:Int); omega
  ·exact h.lo s hs
theorem IZ {l:List Se} {b:Int} (h:∀ s∈l,s.nu<b) (hb:(l.length:Int)<b) (p t:Int):∀ s∈fQ l p t,s.nu<b:=by
 intro s hs
 have:=(gA l (cO l) (fx l p t)).mem_iff.1 hs
 rcases List.mem_cons.1 this with rfl|hs
 ·have:=ew l
  show(cO l:Int)<b; omega
 ·exact h s hs
theorem ng (ps:List Int) (t:Int):∀ c:Mt,SO c.aa→SO (cF c ps t).aa:=by
 induction ps with
 | nil=>intro c h; exact h
 | cons p ps ih=>intro c h; exact ih (fE c p t) (h.sit p t)
theorem Fl {b:Int} (ps:List Int) (t:Int):∀ c:Mt,(∀ s∈c.aa,s.nu<b)→((c.aa.length+ps.length:Nat):Int)≤b→∀ s∈(cF c ps t).aa,s.nu<b:=by
 induction ps with
 | nil=>intro c h _; exact h
 | cons p ps ih=>
  intro c h hb
  simp only[List.length_cons] at hb
  refine ih (fE c p t) (IZ h (by omega) p t) ?_
  show((_:Nat):Int)≤b
  have:(fE c p t).aa.length=c.aa.length+1:=nU _ _ _
  rw[this]; omega
theorem gN (l:List Rr):∀ c:Mt,SO c.aa→SO (aA c l).aa:=by
 induction l with
 | nil=>intro c h; exact h
 | cons r l ih=>intro c h; exact ih (fc c r) (ng r.pl r.tm c h)
theorem nY {b:Int} (l:List Rr):∀ c:Mt,(∀ s∈c.aa,s.nu<b)→((c.aa.length+tot l:Nat):Int)≤b→∀ s∈(aA c l).aa,s.nu<b:=by
 induction l with
 | nil=>intro c h _; exact h
 | cons r l ih=>
  intro c h hb
  have ht:tot (r::l)=r.pl.length+tot l:=by unfold tot; simp
  rw[ht] at hb
  refine ih (fc c r) (Fl r.pl r.tm c h (by omega)) ?_
  have:(fc c r).aa.length=c.aa.length+r.pl.length:=eU _ _ _
  rw[this]; omega
theorem GA (ps:List Int) (t:Int):∀ c:Mt,(eL (cF c ps t).aa).Perm (eL c.aa++ps.map fun p=>(p,t)):=by
 induction ps with
 | nil=>intro c; rw[List.map_nil,List.append_nil]; exact List.Perm.refl _
 | cons p ps ih=>
  intro c
  refine(ih (fE c p t)).trans ?_
  have h1:(eL (fE c p t).aa).Perm ((p,t)::eL c.aa):=(gA c.aa (cO c.aa) (fx c.aa p t)).map _
  refine(h1.append_right _).trans ?_
  rw[List.map_cons]
  exact List.perm_middle.symm
theorem jU (l:List Rr):∀ c:Mt,(eL (aA c l).aa).Perm (eL c.aa++pairs l):=by
 induction l with
 | nil=>intro c; unfold pairs; rw[List.flatMap_nil,List.append_nil]; exact List.Perm.refl _
 | cons r l ih=>
  intro c
  refine(ih (fc c r)).trans ?_
  have h1:(eL (fc c r).aa).Perm (eL c.aa++r.pl.map fun p=>(p,r.tm)):=GA r.pl r.tm c
  refine(h1.append_right _).trans ?_
  unfold pairs
  rw[List.flatMap_cons,List.append_assoc]
theorem sy (w:List Mt):∀(l:List Rr) (s:WS),wsR w s l=wsP w s (l.flatMap Rr.pl)
 | [],_=>rfl
 | r::l,s=>by
  rw[List.flatMap_cons]
  unfold wsP
  rw[List.foldl_append]
  exact sy w l (wsP w s r.pl)
theorem BX (w:List Mt):∀(l:List Int) (s:WS),(wsP w s l).ex=false→s.ex=false∧l.Nodup∧∀ p∈l,p∉s.ps∧ofM w p=0
 | [],s,h=>⟨h,List.nodup_nil,fun _ h=>nomatch h⟩
 | p::l,s,h=>by
  obtain⟨h1,h2,h3⟩:=BX w l (ws1 w s p) h
  unfold ws1 at h1 h3
  simp only[Bool.or_eq_false_iff] at h1
  obtain⟨⟨h4,h5⟩,h6⟩:=h1
  have h5:p∉s.ps:=fun e=>by rw[kp.2 e] at h5; cases h5
  have h6:ofM w p=0:=by simpa using h6
  refine⟨h4,List.nodup_cons.2 ⟨fun e=>?_,h2⟩,fun x hx=>?_⟩
  ·exact(h3 p e).1 (by simp)
  ·rcases List.mem_cons.1 hx with rfl|hx
   ·exact⟨h5,h6⟩
   ·exact⟨fun e=>(h3 x hx).1 (by simp[e]),(h3 x hx).2⟩
theorem HP {w:List Mt} {l:List Rr} (h:(wsR w ws0 l).ex=false):(l.flatMap Rr.pl).Nodup∧∀ p∈l.flatMap Rr.pl,ofM w p=0:=by
 rw[sy] at h
 obtain⟨_,h2,h3⟩:=BX w _ _ h
 exact⟨h2,fun p hp=>(h3 p hp).2⟩
theorem E1 {w:List Mt} {m:Int} (ro:MO w m) {p:Int} (h:ofM w p=0):∀ c∈w,inM c p=false:=by
 rcases vw ro p with⟨h1,_⟩|⟨_,_,h3⟩
 ·rw[h,ro.La] at h1; cases h1
 ·exact h3
theorem max_le {a b:Nat} (h:¬ mxI (a:Int) (b:Int)>4):a≤4∧b≤4:=by
 unfold mxI at h
 split at h<;>omega
theorem Ky {b l:List Rr} (h:szW b l=false):l≠[]∧(∀ r∈l,(r.tm=1∨r.tm=2)∧r.pl≠[]∧r.pl.length≤4)∧taken (b++l) 1≤4∧taken (b++l) 2≤4:=by
 unfold szW at h
 simp only[Bool.or_eq_false_iff] at h
 obtain⟨⟨h1,h2⟩,h3⟩:=h
 refine⟨fun e=>by subst e; simp at h1,fun r hr=>?_,max_le (of_decide_eq_false h3)⟩
 rw[List.any_eq_false] at h2
 have:=h2 r hr
 unfold bV at this
 simp only[Bool.or_eq_true,Bool.and_eq_true,bne_iff_ne,decide_eq_true_eq,not_or,not_and] at this
 obtain⟨⟨h4,h5⟩,h6⟩:=this
 refine⟨?_,fun e=>by rw[e] at h5; simp at h5,by omega⟩
 by_cases c:r.tm=1
 ·exact .inl c
 ·exact .inr (Classical.byContradiction fun k=>h4 c k)
theorem vZ {w:List Mt} {c:Mt} {l:List Rr} (hid:aF c.id=true) (hc:(c.rows=[]∧c.aa=[])∨c.Ok) (hz:szW c.rows l=false) (hx:(wsR w ws0 l).ex=false) (hn:∀ p,ofM w p=0→inM c p=false):(aA c l).Ok:=by
 obtain⟨_,z2,z3,z4⟩:=Ky hz
 obtain⟨x1,x2⟩:=HP hx
 have hso:SO c.aa:=by
  rcases hc with⟨_,e⟩|h
  ·rw[e]; exact SO.nil
  ·exact⟨h.sn,fun s hs=>(h.lo s hs).1⟩
 have hlo:∀ s∈c.aa,s.nu<8:=by
  rcases hc with⟨_,e⟩|h
  ·rw[e]; exact fun _ h=>nomatch h
  ·exact fun s hs=>(h.lo s hs).2
 have hpm:(eL c.aa).Perm (pairs c.rows):=by
  rcases hc with⟨e1,e2⟩|h
  ·rw[e1,e2]; exact List.Perm.refl _
  ·exact h.pm
 have hnd:(c.aa.map Se.pl).Nodup:=by
  rcases hc with⟨_,e⟩|h
  ·rw[e]; exact List.nodup_nil
  ·exact h.nd
 have htm:∀ r∈c.rows++l,r.tm=1∨r.tm=2:=by
  intro r hr
  rcases List.mem_append.1 hr with hr|hr
  ·rcases hc with⟨e,_⟩|h
   ·rw[e] at hr; cases hr
   ·exact h.tm r hr
  ·exact(z2 r hr).1
 have hne:∀ r∈c.rows++l,r.pl≠[]:=by
  intro r hr
  rcases List.mem_append.1 hr with hr|hr
  ·rcases hc with⟨e,_⟩|h
   ·rw[e] at hr; cases hr
   ·exact h.ne r hr
  ·exact(z2 r hr).2.1
 have htot:=lJ htm
 have hsl:c.aa.length=tot c.rows:=by
  have:=hpm.length_eq
  rw[p9] at this
  unfold eL at this
  rwa [List.length_map] at this
 rw[nx] at htot
 have hso2:=gN l c hso
 have hpm2:(eL (aA c l).aa).Perm (pairs (c.rows++l)):=by
  refine(jU l c).trans ?_
  unfold pairs
  rw[List.flatMap_append]
  exact hpm.append_right _
 refine⟨by rw[gR]; exact hid,hso2.sn,fun s hs=>⟨hso2.lo s hs,nY l c hlo (by omega) s hs⟩,by rw[cQ]; exact htm,by rw[cQ]; exact hne,by rw[cQ]; exact hpm2,?_,by rw[cQ]; exact z3,by rw[cQ]; exact z4⟩
 have h1:((aA c l).aa.map Se.pl).Perm (c.aa.map Se.pl++l.flatMap Rr.pl):=by
  have:=(jU l c).map Prod.fst
  rw[List.map_append,rV] at this
  unfold eL at this
  rw[List.map_map,List.map_map] at this
  exact this
 rw[h1.nodup_iff,List.nodup_append]
 refine⟨hnd,x1,fun a ha b hb e=>?_⟩
 subst e
 have:=hn a (x2 a hb)
 rw[kJ.2 ha] at this
 cases this
theorem ED {c:Mt} {l:List Rr} {p:Int} (h:inM (aA c l) p=true):inM c p=true∨p∈l.flatMap Rr.pl:=by
 have h1:((aA c l).aa.map Se.pl).Perm (c.aa.map Se.pl++l.flatMap Rr.pl):=by
  have:=(jU l c).map Prod.fst
  rw[List.map_append,rV] at this
  unfold eL at this
  rw[List.map_map,List.map_map] at this
  exact this
 have:=h1.mem_iff.1 (kJ.1 h)
 rcases List.mem_append.1 this with k|k
 ·exact .inl (kJ.2 k)
 ·exact .inr k
theorem MO.nil {m:Int} (h0:0≤m) (hm:m≤1000000):MO [] m:=⟨dz.nil _,h0,hm,(fun _ h=>nomatch h),(fun _ h=>nomatch h)⟩
theorem MO.put {w:List Mt} {m:Int} (ro:MO w m) {c:Mt} (hc:c.Ok) (hf:bu Mt.id w c.id=true∨(w.length:Int)<m) (hone:∀ b∈w,b.id≠c.id→∀ p,inM c p=true→inM b p=false):MO (eT Mt.id w c) m:=by
 refine⟨ro.rise.put c,?_,ro.big,fun a ha=>?_,fun a ha b hb p hpa hpb=>?_⟩
 ·rw[Eb ro.rise]
  split
  ·exact ro.full
  ·rename_i h
   rcases hf with h'|h'
   ·exact absurd h' h
   ·omega
 ·rcases fy.1 ha with rfl|⟨ha,_⟩
  ·exact hc
  ·exact ro.cs a ha
 ·rcases fy.1 ha with e1|⟨ha,hna⟩<;>rcases fy.1 hb with e2|⟨hb,hnb⟩
  ·rw[e1,e2]
  ·rw[e1] at hpa
   have:=hone b hb hnb p hpa; rw[hpb] at this; cases this
  ·rw[e2] at hpb
   have:=hone a ha hna p hpb; rw[hpa] at this; cases this
  ·exact ro.one a ha b hb p hpa hpb
theorem uE {c:Mt} (h:c.aa=[]) (p:Int):inM c p=false:=by unfold inM; rw[h]; rfl
theorem MO.make {w:List Mt} {m:Int} (ro:MO w m) (id md ins:Int) (l:List Rr):MO (dn w m id md ins l).1 m:=by
 unfold dn
 split
 ·exact ro
 split
 ·exact ro
 split
 ·exact ro
 split
 ·exact ro
 split
 ·exact ro
 rename_i h1 h2 h3 h4 h5
 have hid:aF id=true:=by
  cases c:aF id with
  | true=>rfl
  | false=>exact absurd (.inr c) h1
 have hx:(wsR w ws0 l).ex=false:=by simpa using h3
 refine ro.put (vZ (w:=w) (c:=mk0 id md ins) hid (.inl ⟨rfl,rfl⟩) (show szW [] l=false by simpa using h2) hx fun p _=>uE rfl p) (.inr (by omega)) fun b hb _ p hp=>?_
 rcases ED hp with k|k
 ·rw[uE rfl] at k; cases k
 ·exact E1 ro ((HP hx).2 p k) b hb
theorem kI {l:List Se} {k:Nat} (st un no:Int) {β:Type} (g:Se→β) (hg:∀ s:Se,g (jq s st un no)=g s):(l.set k (jq (l.getD k default) st un no)).map g=l.map g:=by
 apply List.ext_getElem?
 intro i
 rw[List.getElem?_map,List.getElem?_map,List.getElem?_set]
 by_cases c:k=i
 ·subst c
  rw[if_pos rfl]
  by_cases hk:k<l.length
  ·rw[if_pos hk,List.getElem?_eq_getElem hk,List.getD_eq_getElem?_getD,List.getElem?_eq_getElem hk]
   show some (g _)=some (g _)
   rw[hg]; rfl
  ·rw[if_neg hk,List.getElem?_eq_none (by omega)]
 ·rw[if_neg c]
theorem I3 {l l':List Se} (h:l'.map Se.nu=l.map Se.nu) (hp:l.Pairwise fun a b=>a.nu<b.nu):l'.Pairwise fun a b=>a.nu<b.nu:=by
 have h1:(l.map Se.nu).Pairwise (fun a b=>a<b):=List.pairwise_map.2 hp
 rw[← h] at h1
 exact List.pairwise_map.1 h1
theorem Cn (c:Mt) (p st un no x:Int):inM (gU c p st un no) x=inM c x:=by
 have h:((gU c p st un no).aa.map Se.pl)=c.aa.map Se.pl:=kI st un no Se.pl fun _=>rfl
 rw[Bool.eq_iff_iff,kJ,kJ,h]
theorem Ci {c:Mt} (h:c.Ok) (p st un no:Int):(gU c p st un no).Ok:=by
 have e1:((gU c p st un no).aa.map Se.pl)=c.aa.map Se.pl:=kI st un no Se.pl fun _=>rfl
 have e2:((gU c p st un no).aa.map Se.nu)=c.aa.map Se.nu:=kI st un no Se.nu fun _=>rfl
 have e3:eL (gU c p st un no).aa=eL c.aa:=kI st un no (fun s=>(s.pl,s.tm)) fun _=>rfl
 refine⟨h.rt,I3 e2 h.sn,fun s hs=>?_,h.tm,h.ne,by rw[e3]; exact h.pm,by rw[e1]; exact h.nd,h.t1,h.t2⟩
 have:s.nu∈(gU c p st un no).aa.map Se.nu:=List.mem_map.2 ⟨s,hs,rfl⟩
 rw[e2] at this
 obtain⟨s',hs',e⟩:=List.mem_map.1 this
 rw[← e]; exact h.lo s' hs'
theorem MO.set {w:List Mt} {m:Int} (ro:MO w m) (p st un no:Int):MO (dL w p st un no).1 m:=by
 unfold dL
 split
 ·exact ro
 split
 ·exact ro
 rename_i h1 h2
 have hh:bu Mt.id w (ofM w p)=true:=by simpa using h1
 have hm:gM w (ofM w p)∈w:=(fj hh).1
 refine ro.put (Ci (ro.Ap hh) p st un no) (.inl ?_) fun b hb hne x hx=>?_
 ·show bu Mt.id w (gM w (ofM w p)).id=true
  rw[MO.Jp hh]; exact hh
 ·rw[Cn] at hx
  cases c:inM b x with
  | false=>rfl
  | true=>exact absurd (congrArg Mt.id (ro.one b hb _ hm x c hx)) hne
theorem MO.drop {w:List Mt} {m:Int} (ro:MO w m) (t:Int):MO (eN Mt.id w t) m:=by
 refine⟨ro.rise.drop t,?_,ro.big,fun c hc=>ro.cs c (lT.1 hc).1,fun a ha b hb p hpa hpb=>ro.one a (lT.1 ha).1 b (lT.1 hb).1 p hpa hpb⟩
 have:=ro.full
 have:(eN Mt.id w t).length≤w.length:=List.length_filter_le _ _
 omega
end Go.Proofs.YtenaelaapdhbdaaDoor
