/-
  A right book stays right.
-/
import Derived.Test.YtenaelaapdhbdaaSr
import Derived.Test.YtenaelaapdhbdaaProg
namespace Go.Proofs.Ytenaelaapdhbdaa
open Go Go.AM Go.Proofs
theorem insAt_perm {α:Type} (l:List α) (k:Nat) (a:α):(insAt l k a).Perm (a::l):=by
 unfold insAt
 refine List.perm_middle.trans ?_
 rw[List.take_append_drop]
structure SO (l:List Se):Prop where
 sn:l.Pairwise fun a b=>a.nu<b.nu
 lo:∀ s∈l,0≤s.nu
theorem SO.nil:SO []:=⟨List.Pairwise.nil,fun _ h=>nomatch h⟩
theorem SO.ge {l:List Se} (h:SO l):∀ i,i<l.length→(i:Int)≤(l.getD i default).nu:=by
 intro i
 induction i with
 | zero=>intro hi; exact h.lo _ (getD_mem hi)
 | succ i ih=>
  intro hi
  have h1:=ih (by omega)
  have h2:=List.pairwise_iff_getElem.1 h.sn i (i+1) (by omega) hi (by omega)
  rw[List.getD_eq_getElem?_getD,List.getElem?_eq_getElem (by omega),Option.getD_some] at h1
  rw[List.getD_eq_getElem?_getD,List.getElem?_eq_getElem hi,Option.getD_some]
  omega
theorem SO.sit {l:List Se} (h:SO l) (p t:Int):SO (sitS l p t):=by
 have hg:=gapS_le l
 refine⟨?_,fun s hs=>?_⟩
 ·unfold sitS insAt
  rw[List.pairwise_append]
  refine⟨h.sn.sublist (List.take_sublist _ _),List.pairwise_cons.2 ⟨fun a ha=>?_,h.sn.sublist (List.drop_sublist _ _)⟩,fun a ha b hb=>?_⟩
  ·obtain⟨k,hk,rfl⟩:=List.mem_iff_getElem.1 ha
   rw[List.length_drop] at hk
   rw[List.getElem_drop]
   show(gapS l:Int)<_
   have h1:=h.ge (gapS l) (by omega)
   have h2:=gapS_hi (l:=l) (by omega)
   rw[List.getD_eq_getElem?_getD,List.getElem?_eq_getElem (by omega),Option.getD_some] at h1 h2
   rcases Nat.eq_zero_or_pos k with rfl|hp
   ·simp only[Nat.add_zero]; omega
   ·have:=List.pairwise_iff_getElem.1 h.sn (gapS l) (gapS l+k) (by omega) (by omega) (by omega)
    omega
  ·obtain⟨k,hk,rfl⟩:=List.mem_iff_getElem.1 ha
   rw[List.length_take] at hk
   have h1:=gapS_lo (l:=l) (m:=k) (by omega)
   rw[List.getD_eq_getElem?_getD,List.getElem?_eq_getElem (by omega),Option.getD_some] at h1
   rw[List.getElem_take]
   rcases List.mem_cons.1 hb with rfl|hb
   ·rw[h1]; show(k:Int)<(gapS l:Int); omega
   ·obtain⟨m,hm,rfl⟩:=List.mem_iff_getElem.1 hb
    rw[List.length_drop] at hm
    rw[List.getElem_drop]
    exact List.pairwise_iff_getElem.1 h.sn k (gapS l+m) (by omega) (by omega) (by omega)
 ·have:=(insAt_perm l (gapS l) (sitE l p t)).mem_iff.1 hs
  rcases List.mem_cons.1 this with rfl|hs
  ·show(0:Int)≤(gapS l:Int); omega
  ·exact h.lo s hs
theorem sit_bd {l:List Se} {b:Int} (h:∀ s∈l,s.nu<b) (hb:(l.length:Int)<b) (p t:Int):∀ s∈sitS l p t,s.nu<b:=by
 intro s hs
 have:=(insAt_perm l (gapS l) (sitE l p t)).mem_iff.1 hs
 rcases List.mem_cons.1 this with rfl|hs
 ·have:=gapS_le l
  show(gapS l:Int)<b; omega
 ·exact h s hs
theorem sits_so (ps:List Int) (t:Int):∀ c:Mt,SO c.seats→SO (sits c ps t).seats:=by
 induction ps with
 | nil=>intro c h; exact h
 | cons p ps ih=>intro c h; exact ih (sitM c p t) (h.sit p t)
theorem sits_bd {b:Int} (ps:List Int) (t:Int):∀ c:Mt,(∀ s∈c.seats,s.nu<b)→((c.seats.length+ps.length:Nat):Int)≤b→∀ s∈(sits c ps t).seats,s.nu<b:=by
 induction ps with
 | nil=>intro c h _; exact h
 | cons p ps ih=>
  intro c h hb
  simp only[List.length_cons] at hb
  refine ih (sitM c p t) (sit_bd h (by omega) p t) ?_
  show((_:Nat):Int)≤b
  have:(sitM c p t).seats.length=c.seats.length+1:=sitS_len _ _ _
  rw[this]; omega
theorem seatAll_so (l:List Rr):∀ c:Mt,SO c.seats→SO (seatAll c l).seats:=by
 induction l with
 | nil=>intro c h; exact h
 | cons r l ih=>intro c h; exact ih (seatR c r) (sits_so r.pl r.tm c h)
theorem seatAll_bd {b:Int} (l:List Rr):∀ c:Mt,(∀ s∈c.seats,s.nu<b)→((c.seats.length+tot l:Nat):Int)≤b→∀ s∈(seatAll c l).seats,s.nu<b:=by
 induction l with
 | nil=>intro c h _; exact h
 | cons r l ih=>
  intro c h hb
  have ht:tot (r::l)=r.pl.length+tot l:=by unfold tot; simp
  rw[ht] at hb
  refine ih (seatR c r) (sits_bd r.pl r.tm c h (by omega)) ?_
  have:(seatR c r).seats.length=c.seats.length+r.pl.length:=sits_seats _ _ _
  rw[this]; omega
theorem sits_pm (ps:List Int) (t:Int):∀ c:Mt,(pairS (sits c ps t).seats).Perm (pairS c.seats++ps.map fun p=>(p,t)):=by
 induction ps with
 | nil=>intro c; rw[List.map_nil,List.append_nil]; exact List.Perm.refl _
 | cons p ps ih=>
  intro c
  refine(ih (sitM c p t)).trans ?_
  have h1:(pairS (sitM c p t).seats).Perm ((p,t)::pairS c.seats):=(insAt_perm c.seats (gapS c.seats) (sitE c.seats p t)).map _
  refine(h1.append_right _).trans ?_
  rw[List.map_cons]
  exact List.perm_middle.symm
theorem seatAll_pm (l:List Rr):∀ c:Mt,(pairS (seatAll c l).seats).Perm (pairS c.seats++pairs l):=by
 induction l with
 | nil=>intro c; unfold pairs; rw[List.flatMap_nil,List.append_nil]; exact List.Perm.refl _
 | cons r l ih=>
  intro c
  refine(ih (seatR c r)).trans ?_
  have h1:(pairS (seatR c r).seats).Perm (pairS c.seats++r.pl.map fun p=>(p,r.tm)):=sits_pm r.pl r.tm c
  refine(h1.append_right _).trans ?_
  unfold pairs
  rw[List.flatMap_cons,List.append_assoc]
theorem wsR_flat (w:List Mt):∀(l:List Rr) (s:WS),wsR w s l=wsP w s (l.flatMap Rr.pl)
 | [],_=>rfl
 | r::l,s=>by
  rw[List.flatMap_cons]
  unfold wsP
  rw[List.foldl_append]
  exact wsR_flat w l (wsP w s r.pl)
theorem wsP_ex (w:List Mt):∀(l:List Int) (s:WS),(wsP w s l).ex=false→s.ex=false∧l.Nodup∧∀ p∈l,p∉s.ps∧ofM w p=0
 | [],s,h=>⟨h,List.nodup_nil,fun _ h=>nomatch h⟩
 | p::l,s,h=>by
  obtain⟨h1,h2,h3⟩:=wsP_ex w l (ws1 w s p) h
  unfold ws1 at h1 h3
  simp only[Bool.or_eq_false_iff] at h1
  obtain⟨⟨h4,h5⟩,h6⟩:=h1
  have h5:p∉s.ps:=fun e=>by rw[memB_iff.2 e] at h5; cases h5
  have h6:ofM w p=0:=by simpa using h6
  refine⟨h4,List.nodup_cons.2 ⟨fun e=>?_,h2⟩,fun x hx=>?_⟩
  ·exact(h3 p e).1 (by simp)
  ·rcases List.mem_cons.1 hx with rfl|hx
   ·exact⟨h5,h6⟩
   ·exact⟨fun e=>(h3 x hx).1 (by simp[e]),(h3 x hx).2⟩
theorem ex_ok {w:List Mt} {l:List Rr} (h:(wsR w ws0 l).ex=false):(l.flatMap Rr.pl).Nodup∧∀ p∈l.flatMap Rr.pl,ofM w p=0:=by
 rw[wsR_flat] at h
 obtain⟨_,h2,h3⟩:=wsP_ex w _ _ h
 exact⟨h2,fun p hp=>(h3 p hp).2⟩
theorem of_zero {w:List Mt} {m:Int} (ro:MO w m) {p:Int} (h:ofM w p=0):∀ c∈w,inM c p=false:=by
 rcases of_spec ro p with⟨h1,_⟩|⟨_,_,h3⟩
 ·rw[h,ro.has0] at h1; cases h1
 ·exact h3
theorem max_le {a b:Nat} (h:¬ mxI (a:Int) (b:Int)>4):a≤4∧b≤4:=by
 unfold mxI at h
 split at h<;>omega
theorem sz_ok {b l:List Rr} (h:szW b l=false):l≠[]∧(∀ r∈l,(r.tm=1∨r.tm=2)∧r.pl≠[]∧r.pl.length≤4)∧taken (b++l) 1≤4∧taken (b++l) 2≤4:=by
 unfold szW at h
 simp only[Bool.or_eq_false_iff] at h
 obtain⟨⟨h1,h2⟩,h3⟩:=h
 refine⟨fun e=>by subst e; simp at h1,fun r hr=>?_,max_le (of_decide_eq_false h3)⟩
 rw[List.any_eq_false] at h2
 have:=h2 r hr
 unfold badR at this
 simp only[Bool.or_eq_true,Bool.and_eq_true,bne_iff_ne,decide_eq_true_eq,not_or,not_and] at this
 obtain⟨⟨h4,h5⟩,h6⟩:=this
 refine⟨?_,fun e=>by rw[e] at h5; simp at h5,by omega⟩
 by_cases c:r.tm=1
 ·exact .inl c
 ·exact .inr (Classical.byContradiction fun k=>h4 c k)
theorem ok_seat {w:List Mt} {c:Mt} {l:List Rr} (hid:rightS c.id=true) (hc:(c.rows=[]∧c.seats=[])∨c.Ok) (hz:szW c.rows l=false) (hx:(wsR w ws0 l).ex=false) (hn:∀ p,ofM w p=0→inM c p=false):(seatAll c l).Ok:=by
 obtain⟨_,z2,z3,z4⟩:=sz_ok hz
 obtain⟨x1,x2⟩:=ex_ok hx
 have hso:SO c.seats:=by
  rcases hc with⟨_,e⟩|h
  ·rw[e]; exact SO.nil
  ·exact⟨h.sn,fun s hs=>(h.lo s hs).1⟩
 have hlo:∀ s∈c.seats,s.nu<8:=by
  rcases hc with⟨_,e⟩|h
  ·rw[e]; exact fun _ h=>nomatch h
  ·exact fun s hs=>(h.lo s hs).2
 have hpm:(pairS c.seats).Perm (pairs c.rows):=by
  rcases hc with⟨e1,e2⟩|h
  ·rw[e1,e2]; exact List.Perm.refl _
  ·exact h.pm
 have hnd:(c.seats.map Se.pl).Nodup:=by
  rcases hc with⟨_,e⟩|h
  ·rw[e]; exact List.nodup_nil
  ·exact h.nd
 have htm:∀ r∈c.rows++l,r.tm=1∨r.tm=2:=by
  intro r hr
  rcases List.mem_append.1 hr with hr|hr
  ·rcases hc with⟨e,_⟩|h
   ·rw[e] at hr; cases hr
   ·exact h.tm r hr
  ·exact(z2 r hr).1
 have hne:∀ r∈c.rows++l,r.pl≠[]:=by
  intro r hr
  rcases List.mem_append.1 hr with hr|hr
  ·rcases hc with⟨e,_⟩|h
   ·rw[e] at hr; cases hr
   ·exact h.ne r hr
  ·exact(z2 r hr).2.1
 have htot:=tot_taken htm
 have hsl:c.seats.length=tot c.rows:=by
  have:=hpm.length_eq
  rw[tot_pairs] at this
  unfold pairS at this
  rwa [List.length_map] at this
 rw[tot_app] at htot
 have hso2:=seatAll_so l c hso
 have hpm2:(pairS (seatAll c l).seats).Perm (pairs (c.rows++l)):=by
  refine(seatAll_pm l c).trans ?_
  unfold pairs
  rw[List.flatMap_append]
  exact hpm.append_right _
 refine⟨by rw[seatAll_id]; exact hid,hso2.sn,fun s hs=>⟨hso2.lo s hs,seatAll_bd l c hlo (by omega) s hs⟩,by rw[seatAll_rows]; exact htm,by rw[seatAll_rows]; exact hne,by rw[seatAll_rows]; exact hpm2,?_,by rw[seatAll_rows]; exact z3,by rw[seatAll_rows]; exact z4⟩
 have h1:((seatAll c l).seats.map Se.pl).Perm (c.seats.map Se.pl++l.flatMap Rr.pl):=by
  have:=(seatAll_pm l c).map Prod.fst
  rw[List.map_append,pl_pairs] at this
  unfold pairS at this
  rw[List.map_map,List.map_map] at this
  exact this
 rw[h1.nodup_iff,List.nodup_append]
 refine⟨hnd,x1,fun a ha b hb e=>?_⟩
 subst e
 have:=hn a (x2 a hb)
 rw[inM_mem.2 ha] at this
 cases this
theorem in_seat {c:Mt} {l:List Rr} {p:Int} (h:inM (seatAll c l) p=true):inM c p=true∨p∈l.flatMap Rr.pl:=by
 have h1:((seatAll c l).seats.map Se.pl).Perm (c.seats.map Se.pl++l.flatMap Rr.pl):=by
  have:=(seatAll_pm l c).map Prod.fst
  rw[List.map_append,pl_pairs] at this
  unfold pairS at this
  rw[List.map_map,List.map_map] at this
  exact this
 have:=h1.mem_iff.1 (inM_mem.1 h)
 rcases List.mem_append.1 this with k|k
 ·exact .inl (inM_mem.2 k)
 ·exact .inr k
theorem MO.nil {m:Int} (h0:0≤m) (hm:m≤1000000):MO [] m:=⟨Rise.nil _,h0,hm,(fun _ h=>nomatch h),(fun _ h=>nomatch h)⟩
theorem MO.put {w:List Mt} {m:Int} (ro:MO w m) {c:Mt} (hc:c.Ok) (hf:hasG Mt.id w c.id=true∨(w.length:Int)<m) (hone:∀ b∈w,b.id≠c.id→∀ p,inM c p=true→inM b p=false):MO (putG Mt.id w c) m:=by
 refine⟨ro.rise.put c,?_,ro.big,fun a ha=>?_,fun a ha b hb p hpa hpb=>?_⟩
 ·rw[putG_len ro.rise]
  split
  ·exact ro.full
  ·rename_i h
   rcases hf with h'|h'
   ·exact absurd h' h
   ·omega
 ·rcases mem_putG.1 ha with rfl|⟨ha,_⟩
  ·exact hc
  ·exact ro.cs a ha
 ·rcases mem_putG.1 ha with e1|⟨ha,hna⟩<;>rcases mem_putG.1 hb with e2|⟨hb,hnb⟩
  ·rw[e1,e2]
  ·rw[e1] at hpa
   have:=hone b hb hnb p hpa; rw[hpb] at this; cases this
  ·rw[e2] at hpb
   have:=hone a ha hna p hpb; rw[hpa] at this; cases this
  ·exact ro.one a ha b hb p hpa hpb
theorem in_nil {c:Mt} (h:c.seats=[]) (p:Int):inM c p=false:=by unfold inM; rw[h]; rfl
theorem MO.make {w:List Mt} {m:Int} (ro:MO w m) (id md ins:Int) (l:List Rr):MO (makeM w m id md ins l).1 m:=by
 unfold makeM
 split
 ·exact ro
 split
 ·exact ro
 split
 ·exact ro
 split
 ·exact ro
 split
 ·exact ro
 rename_i h1 h2 h3 h4 h5
 have hid:rightS id=true:=by
  cases c:rightS id with
  | true=>rfl
  | false=>exact absurd (.inr c) h1
 have hx:(wsR w ws0 l).ex=false:=by simpa using h3
 refine ro.put (ok_seat (w:=w) (c:=mk0 id md ins) hid (.inl ⟨rfl,rfl⟩) (show szW [] l=false by simpa using h2) hx fun p _=>in_nil rfl p) (.inr (by omega)) fun b hb _ p hp=>?_
 rcases in_seat hp with k|k
 ·rw[in_nil rfl] at k; cases k
 ·exact of_zero ro ((ex_ok hx).2 p k) b hb
theorem MO.add {w:List Mt} {m:Int} (ro:MO w m) (id:Int) (l:List Rr):MO (addMt w id l).1 m:=by
 unfold addMt
 split
 ·exact ro
 split
 ·exact ro
 split
 ·exact ro
 split
 ·exact ro
 rename_i h1 h2 h3 h4
 have hh:hasG Mt.id w id=true:=by simpa using h1
 have hx:(wsR w ws0 l).ex=false:=by simpa using h4
 have hm:gM w id∈w:=(getG_mem hh).1
 have hid:=MO.gmid hh
 refine ro.put (ok_seat (w:=w) (ro.gmok hh).rt (.inr (ro.gmok hh)) (by simpa using h3) hx fun p hp=>of_zero ro hp _ hm) (.inl (by rw[seatAll_id,hid]; exact hh)) fun b hb hne p hp=>?_
 rw[seatAll_id] at hne
 rcases in_seat hp with k|k
 ·cases c:inM b p with
  | false=>rfl
  | true=>exact absurd (congrArg Mt.id (ro.one b hb _ hm p c k)) hne
 ·exact of_zero ro ((ex_ok hx).2 p k) b hb
theorem set_keep {l:List Se} {k:Nat} (st un no:Int) {β:Type} (g:Se→β) (hg:∀ s:Se,g (putSt s st un no)=g s):(l.set k (putSt (l.getD k default) st un no)).map g=l.map g:=by
 apply List.ext_getElem?
 intro i
 rw[List.getElem?_map,List.getElem?_map,List.getElem?_set]
 by_cases c:k=i
 ·subst c
  rw[if_pos rfl]
  by_cases hk:k<l.length
  ·rw[if_pos hk,List.getElem?_eq_getElem hk,List.getD_eq_getElem?_getD,List.getElem?_eq_getElem hk]
   show some (g _)=some (g _)
   rw[hg]; rfl
  ·rw[if_neg hk,List.getElem?_eq_none (by omega)]
 ·rw[if_neg c]
theorem pw_map {l l':List Se} (h:l'.map Se.nu=l.map Se.nu) (hp:l.Pairwise fun a b=>a.nu<b.nu):l'.Pairwise fun a b=>a.nu<b.nu:=by
 have h1:(l.map Se.nu).Pairwise (fun a b=>a<b):=List.pairwise_map.2 hp
 rw[← h] at h1
 exact List.pairwise_map.1 h1
theorem setSt_in (c:Mt) (p st un no x:Int):inM (setSt c p st un no) x=inM c x:=by
 have h:((setSt c p st un no).seats.map Se.pl)=c.seats.map Se.pl:=set_keep st un no Se.pl fun _=>rfl
 rw[Bool.eq_iff_iff,inM_mem,inM_mem,h]
theorem setSt_ok {c:Mt} (h:c.Ok) (p st un no:Int):(setSt c p st un no).Ok:=by
 have e1:((setSt c p st un no).seats.map Se.pl)=c.seats.map Se.pl:=set_keep st un no Se.pl fun _=>rfl
 have e2:((setSt c p st un no).seats.map Se.nu)=c.seats.map Se.nu:=set_keep st un no Se.nu fun _=>rfl
 have e3:pairS (setSt c p st un no).seats=pairS c.seats:=set_keep st un no (fun s=>(s.pl,s.tm)) fun _=>rfl
 refine⟨h.rt,pw_map e2 h.sn,fun s hs=>?_,h.tm,h.ne,by rw[e3]; exact h.pm,by rw[e1]; exact h.nd,h.t1,h.t2⟩
 have:s.nu∈(setSt c p st un no).seats.map Se.nu:=List.mem_map.2 ⟨s,hs,rfl⟩
 rw[e2] at this
 obtain⟨s',hs',e⟩:=List.mem_map.1 this
 rw[← e]; exact h.lo s' hs'
theorem MO.set {w:List Mt} {m:Int} (ro:MO w m) (p st un no:Int):MO (setMt w p st un no).1 m:=by
 unfold setMt
 split
 ·exact ro
 split
 ·exact ro
 rename_i h1 h2
 have hh:hasG Mt.id w (ofM w p)=true:=by simpa using h1
 have hm:gM w (ofM w p)∈w:=(getG_mem hh).1
 refine ro.put (setSt_ok (ro.gmok hh) p st un no) (.inl ?_) fun b hb hne x hx=>?_
 ·show hasG Mt.id w (gM w (ofM w p)).id=true
  rw[MO.gmid hh]; exact hh
 ·rw[setSt_in] at hx
  cases c:inM b x with
  | false=>rfl
  | true=>exact absurd (congrArg Mt.id (ro.one b hb _ hm x c hx)) hne
theorem pairs_keep (l:List Rr) (p:Int):pairs (keepR (l.map fun r=>lessR r p))=(pairs l).filter fun x=>x.1 != p:=by
 induction l with
 | nil=>rfl
 | cons r l ih=>
  have e:(pairs (r::l)).filter (fun x=>x.1 != p)=((dropP r.pl p).map fun q=>(q,r.tm))++(pairs l).filter (fun x=>x.1 != p):=by
   unfold pairs
   rw[List.flatMap_cons,List.filter_append,List.filter_map]
   rfl
  rw[e,← ih,List.map_cons]
  unfold keepR
  by_cases c:(dropP r.pl p).length=0
  ·rw[List.filter_cons_of_neg (by show ¬ (!decide ((dropP r.pl p).length=0))=true; rw[decide_eq_true c]; decide),List.length_eq_zero_iff.1 c]
   rfl
  ·rw[List.filter_cons_of_pos (by show(!decide ((dropP r.pl p).length=0))=true; rw[decide_eq_false c]; rfl)]
   unfold pairs
   rw[List.flatMap_cons]
   rfl
theorem taken_keep (l:List Rr) (p t:Int):taken (keepR (l.map fun r=>lessR r p)) t≤taken l t:=by
 induction l with
 | nil=>exact Nat.le_refl _
 | cons r l ih=>
  have hle:=dropP_le r.pl p
  have e:∀(x:Rr) (k:List Rr),taken (x::k) t=(if x.tm=t then x.pl.length else 0)+taken k t:=by
   intro x k
   unfold taken
   by_cases c:x.tm=t
   ·rw[if_pos c,List.filter_cons_of_pos (by simpa using c)]; simp
   ·rw[if_neg c,List.filter_cons_of_neg (by simpa using c)]; simp
  rw[e,List.map_cons]
  unfold keepR at ih ⊢
  rw[List.filter_cons]
  split
  ·rw[e]
   have:(lessR r p).tm=r.tm:=rfl
   have:(lessR r p).pl.length=(dropP r.pl p).length:=rfl
   split<;>rename_i h1<;>split<;>omega
  ·omega
theorem loseC_ok {c:Mt} (h:c.Ok) (p:Int):(loseC c p).Ok:=by
 have hk:∀ r∈keepR (c.rows.map fun r=>lessR r p),∃ r'∈c.rows,r.tm=r'.tm∧r.pl≠[]:=by
  intro r hr
  unfold keepR at hr
  rw[List.mem_filter] at hr
  obtain⟨h1,h2⟩:=hr
  obtain⟨r',h3,rfl⟩:=List.mem_map.1 h1
  refine⟨r',h3,rfl,fun e=>?_⟩
  unfold mtR at h2
  rw[e] at h2
  simp at h2
 refine⟨h.rt,h.sn.sublist List.filter_sublist,fun s hs=>h.lo s ((List.mem_filter.1 hs).1),fun r hr=>?_,fun r hr=>?_,?_,h.nd.sublist (List.filter_sublist.map _),Nat.le_trans (taken_keep _ _ _) h.t1,Nat.le_trans (taken_keep _ _ _) h.t2⟩
 ·obtain⟨r',h1,h2,_⟩:=hk r hr
  rw[h2]; exact h.tm r' h1
 ·exact(hk r hr).choose_spec.2.2
 ·show(pairS (c.seats.filter fun s=> !isP p s)).Perm (pairs (keepR (c.rows.map fun r=>lessR r p)))
  rw[pairs_keep]
  have:=h.pm.filter fun x=>x.1 != p
  refine List.Perm.trans (List.Perm.of_eq ?_) this
  unfold pairS
  rw[List.filter_map]
  congr 1
theorem loseC_in {c:Mt} {p x:Int} (h:inM (loseC c p) x=true):inM c x=true∧x≠p:=by
 have h1:=inM_mem.1 h
 obtain⟨s,hs,e⟩:=List.mem_map.1 h1
 have hs:s∈c.seats.filter fun s=> !isP p s:=hs
 rw[List.mem_filter] at hs
 refine⟨inM_mem.2 (List.mem_map.2 ⟨s,hs.1,e⟩),fun e2=>?_⟩
 have:=hs.2
 unfold isP at this
 rw[e,e2] at this
 simp at this
theorem MO.lose {w:List Mt} {m:Int} (ro:MO w m) (p:Int):MO (loseM w p).1 m:=by
 unfold loseM
 split
 ·exact ro
 rename_i h1
 have hh:hasG Mt.id w (ofM w p)=true:=by simpa using h1
 have hm:gM w (ofM w p)∈w:=(getG_mem hh).1
 refine ro.put (loseC_ok (ro.gmok hh) p) (.inl ?_) fun b hb hne x hx=>?_
 ·show hasG Mt.id w (gM w (ofM w p)).id=true
  rw[MO.gmid hh]; exact hh
 ·have hx:=(loseC_in hx).1
  cases c:inM b x with
  | false=>rfl
  | true=>exact absurd (congrArg Mt.id (ro.one b hb _ hm x c hx)) hne
theorem MO.drop {w:List Mt} {m:Int} (ro:MO w m) (t:Int):MO (dropG Mt.id w t) m:=by
 refine⟨ro.rise.drop t,?_,ro.big,fun c hc=>ro.cs c (mem_dropG.1 hc).1,fun a ha b hb p hpa hpb=>ro.one a (mem_dropG.1 ha).1 b (mem_dropG.1 hb).1 p hpa hpb⟩
 have:=ro.full
 have:(dropG Mt.id w t).length≤w.length:=List.length_filter_le _ _
 omega
end Go.Proofs.Ytenaelaapdhbdaa
