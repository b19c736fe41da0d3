/-
  A right book stays right.
-/
import Derived.Test.YtenaelaapdhbdaaDoorDr
import Derived.Test.YtenaelaapdhbdaaDoorProg
namespace Go.Proofs.YtenaelaapdhbdaaDoor
open Go Go.AM Go.Proofs
theorem g9 {α:Type} (l:List α) (k:Nat) (a:α):(bG l k a).Perm (a::l):=by
 unfold bG
 refine List.perm_middle.trans ?_
 rw[List.take_append_drop]
structure SO (l:List Se):Prop where
 sn:l.Pairwise fun a b=>a.nu<b.nu
 lo:∀ s∈l,0≤s.nu
theorem SO.nil:SO []:=⟨List.Pairwise.nil,fun _ h=>nomatch h⟩
theorem SO.ge {l:List Se} (h:SO l):∀ i,i<l.length→(i:Int)≤(l.getD i default).nu:=by
 intro i
 induction i with
 | zero=>intro hi; exact h.lo _ (aI hi)
 | succ i ih=>
  intro hi
  have h1:=ih (by omega)
  have h2:=List.pairwise_iff_getElem.1 h.sn i (i+1) (by omega) hi (by omega)
  rw[List.getD_eq_getElem?_getD,List.getElem?_eq_getElem (by omega),Option.getD_some] at h1
  rw[List.getD_eq_getElem?_getD,List.getElem?_eq_getElem hi,Option.getD_some]
  omega
theorem SO.sit {l:List Se} (h:SO l) (p t:Int):SO (gp l p t):=by
 have hg:=eU l
 refine⟨?_,fun s hs=>?_⟩
 ·unfold gp bG
  rw[List.pairwise_append]
  refine⟨h.sn.sublist (List.take_sublist _ _),List.pairwise_cons.2 ⟨fun a ha=>?_,h.sn.sublist (List.drop_sublist _ _)⟩,fun a ha b hb=>?_⟩
  ·obtain⟨k,hk,rfl⟩:=List.mem_iff_getElem.1 ha
   rw[List.length_drop] at hk
   rw[List.getElem_drop]
   show(cW l:Int)<_
   have h1:=h.ge (cW l) (by omega)
   have h2:=sC (l:=l) (by omega)
   rw[List.getD_eq_getElem?_getD,List.getElem?_eq_getElem (by omega),Option.getD_some] at h1 h2
   rcases Nat.eq_zero_or_pos k with rfl|hp
   ·simp only[Nat.add_zero]; omega
   ·have:=List.pairwise_iff_getElem.1 h.sn (cW l) (cW l+k) (by omega) (by omega) (by omega)
    omega
  ·obtain⟨k,hk,rfl⟩:=List.mem_iff_getElem.1 ha
   rw[List.length_take] at hk
   have h1:=nT (l:=l) (m:=k) (by omega)
   rw[List.getD_eq_getElem?_getD,List.getElem?_eq_getElem (by omega),Option.getD_some] at h1
   rw[List.getElem_take]
   rcases List.mem_cons.1 hb with rfl|hb
   ·rw[h1]; show(k:Int)<(cW l:Int); omega
   ·obtain⟨m,hm,rfl⟩:=List.mem_iff_getElem.1 hb
    rw[List.length_drop] at hm
    rw[List.getElem_drop]
    exact List.pairwise_iff_getElem.1 h.sn k (cW l+m) (by omega) (by omega) (by omega)
 ·have:=(g9 l (cW l) (fO l p t)).mem_iff.1 hs
  rcases List.mem_cons.1 this with rfl|hs
  ·show(0:Int)≤(cW l:Int); omega
  ·exact h.lo s hs
theorem Lg {l:List Se} {b:Int} (h:∀ s∈l,s.nu<b) (hb:(l.length:Int)<b) (p t:Int):∀ s∈gp l p t,s.nu<b:=by
 intro s hs
 have:=(g9 l (cW l) (fO l p t)).mem_iff.1 hs
 rcases List.mem_cons.1 this with rfl|hs
 ·have:=eU l
  show(cW l:Int)<b; omega
 ·exact h s hs
theorem nS (ps:List Int) (t:Int):∀ c:Mt,SO c.aa→SO (cC c ps t).aa:=by
 induction ps with
 | nil=>intro c h; exact h
 | cons p ps ih=>intro c h; exact ih (fG c p t) (h.sit p t)
theorem HB {b:Int} (ps:List Int) (t:Int):∀ c:Mt,(∀ s∈c.aa,s.nu<b)→((c.aa.length+ps.length:Nat):Int)≤b→∀ s∈(cC c ps t).aa,s.nu<b:=by
 induction ps with
 | nil=>intro c h _; exact h
 | cons p ps ih=>
  intro c h hb
  simp only[List.length_cons] at hb
  refine ih (fG c p t) (Lg h (by omega) p t) ?_
  show((_:Nat):Int)≤b
  have:(fG c p t).aa.length=c.aa.length+1:=oD _ _ _
  rw[this]; omega
theorem gP (l:List Rr):∀ c:Mt,SO c.aa→SO (aB c l).aa:=by
 induction l with
 | nil=>intro c h; exact h
 | cons r l ih=>intro c h; exact ih (fh c r) (nS r.pl r.tm c h)
theorem p4 {b:Int} (l:List Rr):∀ c:Mt,(∀ s∈c.aa,s.nu<b)→((c.aa.length+tot l:Nat):Int)≤b→∀ s∈(aB c l).aa,s.nu<b:=by
 induction l with
 | nil=>intro c h _; exact h
 | cons r l ih=>
  intro c h hb
  have ht:tot (r::l)=r.pl.length+tot l:=by unfold tot; simp
  rw[ht] at hb
  refine ih (fh c r) (HB r.pl r.tm c h (by omega)) ?_
  have:(fh c r).aa.length=c.aa.length+r.pl.length:=fq _ _ _
  rw[this]; omega
theorem F0 (ps:List Int) (t:Int):∀ c:Mt,(ff (cC c ps t).aa).Perm (ff c.aa++ps.map fun p=>(p,t)):=by
 induction ps with
 | nil=>intro c; rw[List.map_nil,List.append_nil]; exact List.Perm.refl _
 | cons p ps ih=>
  intro c
  refine(ih (fG c p t)).trans ?_
  have h1:(ff (fG c p t).aa).Perm ((p,t)::ff c.aa):=(g9 c.aa (cW c.aa) (fO c.aa p t)).map _
  refine(h1.append_right _).trans ?_
  rw[List.map_cons]
  exact List.perm_middle.symm
theorem jX (l:List Rr):∀ c:Mt,(ff (aB c l).aa).Perm (ff c.aa++pairs l):=by
 induction l with
 | nil=>intro c; unfold pairs; rw[List.flatMap_nil,List.append_nil]; exact List.Perm.refl _
 | cons r l ih=>
  intro c
  refine(ih (fh c r)).trans ?_
  have h1:(ff (fh c r).aa).Perm (ff c.aa++r.pl.map fun p=>(p,r.tm)):=F0 r.pl r.tm c
  refine(h1.append_right _).trans ?_
  unfold pairs
  rw[List.flatMap_cons,List.append_assoc]
theorem tc (w:List Mt):∀(l:List Rr) (s:WS),wsR w s l=wsP w s (l.flatMap Rr.pl)
 | [],_=>rfl
 | r::l,s=>by
  rw[List.flatMap_cons]
  unfold wsP
  rw[List.foldl_append]
  exact tc w l (wsP w s r.pl)
theorem E8 (w:List Mt):∀(l:List Int) (s:WS),(wsP w s l).ex=false→s.ex=false∧l.Nodup∧∀ p∈l,p∉s.ps∧ofM w p=0
 | [],s,h=>⟨h,List.nodup_nil,fun _ h=>nomatch h⟩
 | p::l,s,h=>by
  obtain⟨h1,h2,h3⟩:=E8 w l (ws1 w s p) h
  unfold ws1 at h1 h3
  simp only[Bool.or_eq_false_iff] at h1
  obtain⟨⟨h4,h5⟩,h6⟩:=h1
  have h5:p∉s.ps:=fun e=>by rw[iG.2 e] at h5; cases h5
  have h6:ofM w p=0:=by simpa using h6
  refine⟨h4,List.nodup_cons.2 ⟨fun e=>?_,h2⟩,fun x hx=>?_⟩
  ·exact(h3 p e).1 (by simp)
  ·rcases List.mem_cons.1 hx with rfl|hx
   ·exact⟨h5,h6⟩
   ·exact⟨fun e=>(h3 x hx).1 (by simp[e]),(h3 x hx).2⟩
theorem IX {w:List Mt} {l:List Rr} (h:(wsR w ws0 l).ex=false):(l.flatMap Rr.pl).Nodup∧∀ p∈l.flatMap Rr.pl,ofM w p=0:=by
 rw[tc] at h
 obtain⟨_,h2,h3⟩:=E8 w _ _ h
 exact⟨h2,fun p hp=>(h3 p hp).2⟩
theorem GM {w:List Mt} {m:Int} (ro:MO w m) {p:Int} (h:ofM w p=0):∀ c∈w,inM c p=false:=by
 rcases xA ro p with⟨h1,_⟩|⟨_,_,h3⟩
 ·rw[h,ro.LR] at h1; cases h1
 ·exact h3
theorem max_le {a b:Nat} (h:¬ mxI (a:Int) (b:Int)>4):a≤4∧b≤4:=by
 unfold mxI at h
 split at h<;>omega
theorem Mm {b l:List Rr} (h:szW b l=false):l≠[]∧(∀ r∈l,(r.tm=1∨r.tm=2)∧r.pl≠[]∧r.pl.length≤4)∧taken (b++l) 1≤4∧taken (b++l) 2≤4:=by
 unfold szW at h
 simp only[Bool.or_eq_false_iff] at h
 obtain⟨⟨h1,h2⟩,h3⟩:=h
 refine⟨fun e=>by subst e; simp at h1,fun r hr=>?_,max_le (of_decide_eq_false h3)⟩
 rw[List.any_eq_false] at h2
 have:=h2 r hr
 unfold cj at this
 simp only[Bool.or_eq_true,Bool.and_eq_true,bne_iff_ne,decide_eq_true_eq,not_or,not_and] at this
 obtain⟨⟨h4,h5⟩,h6⟩:=this
 refine⟨?_,fun e=>by rw[e] at h5; simp at h5,by omega⟩
 by_cases c:r.tm=1
 ·exact .inl c
 ·exact .inr (Classical.byContradiction fun k=>h4 c k)
theorem yj {w:List Mt} {c:Mt} {l:List Rr} (hid:aG c.id=true) (hc:(c.rows=[]∧c.aa=[])∨c.Ok) (hz:szW c.rows l=false) (hx:(wsR w ws0 l).ex=false) (hn:∀ p,ofM w p=0→inM c p=false):(aB c l).Ok:=by
 obtain⟨_,z2,z3,z4⟩:=Mm hz
 obtain⟨x1,x2⟩:=IX hx
 have hso:SO c.aa:=by
  rcases hc with⟨_,e⟩|h
  ·rw[e]; exact SO.nil
  ·exact⟨h.sn,fun s hs=>(h.lo s hs).1⟩
 have hlo:∀ s∈c.aa,s.nu<8:=by
  rcases hc with⟨_,e⟩|h
  ·rw[e]; exact fun _ h=>nomatch h
  ·exact fun s hs=>(h.lo s hs).2
 have hpm:(ff c.aa).Perm (pairs c.rows):=by
  rcases hc with⟨e1,e2⟩|h
  ·rw[e1,e2]; exact List.Perm.refl _
  ·exact h.pm
 have hnd:(c.aa.map Se.pl).Nodup:=by
  rcases hc with⟨_,e⟩|h
  ·rw[e]; exact List.nodup_nil
  ·exact h.nd
 have htm:∀ r∈c.rows++l,r.tm=1∨r.tm=2:=by
  intro r hr
  rcases List.mem_append.1 hr with hr|hr
  ·rcases hc with⟨e,_⟩|h
   ·rw[e] at hr; cases hr
   ·exact h.tm r hr
  ·exact(z2 r hr).1
 have hne:∀ r∈c.rows++l,r.pl≠[]:=by
  intro r hr
  rcases List.mem_append.1 hr with hr|hr
  ·rcases hc with⟨e,_⟩|h
   ·rw[e] at hr; cases hr
   ·exact h.ne r hr
  ·exact(z2 r hr).2.1
 have htot:=mB htm
 have hsl:c.aa.length=tot c.rows:=by
  have:=hpm.length_eq
  rw[qN] at this
  unfold ff at this
  rwa [List.length_map] at this
 rw[n8] at htot
 have hso2:=gP l c hso
 have hpm2:(ff (aB c l).aa).Perm (pairs (c.rows++l)):=by
  refine(jX l c).trans ?_
  unfold pairs
  rw[List.flatMap_append]
  exact hpm.append_right _
 refine⟨by rw[fP]; exact hid,hso2.sn,fun s hs=>⟨hso2.lo s hs,p4 l c hlo (by omega) s hs⟩,by rw[cZ]; exact htm,by rw[cZ]; exact hne,by rw[cZ]; exact hpm2,?_,by rw[cZ]; exact z3,by rw[cZ]; exact z4⟩
 have h1:((aB c l).aa.map Se.pl).Perm (c.aa.map Se.pl++l.flatMap Rr.pl):=by
  have:=(jX l c).map Prod.fst
  rw[List.map_append,tO] at this
  unfold ff at this
  rw[List.map_map,List.map_map] at this
  exact this
 rw[h1.nodup_iff,List.nodup_append]
 refine⟨hnd,x1,fun a ha b hb e=>?_⟩
 subst e
 have:=hn a (x2 a hb)
 rw[lH.2 ha] at this
 cases this
theorem FF {c:Mt} {l:List Rr} {p:Int} (h:inM (aB c l) p=true):inM c p=true∨p∈l.flatMap Rr.pl:=by
 have h1:((aB c l).aa.map Se.pl).Perm (c.aa.map Se.pl++l.flatMap Rr.pl):=by
  have:=(jX l c).map Prod.fst
  rw[List.map_append,tO] at this
  unfold ff at this
  rw[List.map_map,List.map_map] at this
  exact this
 have:=h1.mem_iff.1 (lH.1 h)
 rcases List.mem_append.1 this with k|k
 ·exact .inl (lH.2 k)
 ·exact .inr k
theorem MO.nil {m:Int} (h0:0≤m) (hm:m≤1000000):MO [] m:=⟨dG.nil _,h0,hm,(fun _ h=>nomatch h),(fun _ h=>nomatch h)⟩
theorem MO.put {w:List Mt} {m:Int} (ro:MO w m) {c:Mt} (hc:c.Ok) (hf:aX Mt.id w c.id=true∨(w.length:Int)<m) (hone:∀ b∈w,b.id≠c.id→∀ p,inM c p=true→inM b p=false):MO (eX Mt.id w c) m:=by
 refine⟨ro.rise.put c,?_,ro.big,fun a ha=>?_,fun a ha b hb p hpa hpb=>?_⟩
 ·rw[CV ro.rise]
  split
  ·exact ro.full
  ·rename_i h
   rcases hf with h'|h'
   ·exact absurd h' h
   ·omega
 ·rcases gr.1 ha with rfl|⟨ha,_⟩
  ·exact hc
  ·exact ro.cs a ha
 ·rcases gr.1 ha with e1|⟨ha,hna⟩<;>rcases gr.1 hb with e2|⟨hb,hnb⟩
  ·rw[e1,e2]
  ·rw[e1] at hpa
   have:=hone b hb hnb p hpa; rw[hpb] at this; cases this
  ·rw[e2] at hpb
   have:=hone a ha hna p hpb; rw[hpa] at this; cases this
  ·exact ro.one a ha b hb p hpa hpb
theorem v7 {c:Mt} (h:c.aa=[]) (p:Int):inM c p=false:=by unfold inM; rw[h]; rfl
theorem MO.make {w:List Mt} {m:Int} (ro:MO w m) (id md ins:Int) (l:List Rr):MO (cX w m id md ins l).1 m:=by
 unfold cX
 split
 ·exact ro
 split
 ·exact ro
 split
 ·exact ro
 split
 ·exact ro
 split
 ·exact ro
 rename_i h1 h2 h3 h4 h5
 have hid:aG id=true:=by
  cases c:aG id with
  | true=>rfl
  | false=>exact absurd (.inr c) h1
 have hx:(wsR w ws0 l).ex=false:=by simpa using h3
 refine ro.put (yj (w:=w) (c:=mk0 id md ins) hid (.inl ⟨rfl,rfl⟩) (show szW [] l=false by simpa using h2) hx fun p _=>v7 rfl p) (.inr (by omega)) fun b hb _ p hp=>?_
 rcases FF hp with k|k
 ·rw[v7 rfl] at k; cases k
 ·exact GM ro ((IX hx).2 p k) b hb
theorem ld {l:List Se} {k:Nat} (st un no:Int) {β:Type} (g:Se→β) (hg:∀ s:Se,g (jT s st un no)=g s):(l.set k (jT (l.getD k default) st un no)).map g=l.map g:=by
 apply List.ext_getElem?
 intro i
 rw[List.getElem?_map,List.getElem?_map,List.getElem?_set]
 by_cases c:k=i
 ·subst c
  rw[if_pos rfl]
  by_cases hk:k<l.length
  ·rw[if_pos hk,List.getElem?_eq_getElem hk,List.getD_eq_getElem?_getD,List.getElem?_eq_getElem hk]
   show some (g _)=some (g _)
   rw[hg]; rfl
  ·rw[if_neg hk,List.getElem?_eq_none (by omega)]
 ·rw[if_neg c]
theorem J1 {l l':List Se} (h:l'.map Se.nu=l.map Se.nu) (hp:l.Pairwise fun a b=>a.nu<b.nu):l'.Pairwise fun a b=>a.nu<b.nu:=by
 have h1:(l.map Se.nu).Pairwise (fun a b=>a<b):=List.pairwise_map.2 hp
 rw[← h] at h1
 exact List.pairwise_map.1 h1
theorem Eh (c:Mt) (p st un no x:Int):inM (iu c p st un no) x=inM c x:=by
 have h:((iu c p st un no).aa.map Se.pl)=c.aa.map Se.pl:=ld st un no Se.pl fun _=>rfl
 rw[Bool.eq_iff_iff,lH,lH,h]
theorem An {c:Mt} (h:c.Ok) (p st un no:Int):(iu c p st un no).Ok:=by
 have e1:((iu c p st un no).aa.map Se.pl)=c.aa.map Se.pl:=ld st un no Se.pl fun _=>rfl
 have e2:((iu c p st un no).aa.map Se.nu)=c.aa.map Se.nu:=ld st un no Se.nu fun _=>rfl
 have e3:ff (iu c p st un no).aa=ff c.aa:=ld st un no (fun s=>(s.pl,s.tm)) fun _=>rfl
 refine⟨h.rt,J1 e2 h.sn,fun s hs=>?_,h.tm,h.ne,by rw[e3]; exact h.pm,by rw[e1]; exact h.nd,h.t1,h.t2⟩
 have:s.nu∈(iu c p st un no).aa.map Se.nu:=List.mem_map.2 ⟨s,hs,rfl⟩
 rw[e2] at this
 obtain⟨s',hs',e⟩:=List.mem_map.1 this
 rw[← e]; exact h.lo s' hs'
theorem MO.set {w:List Mt} {m:Int} (ro:MO w m) (p st un no:Int):MO (dB w p st un no).1 m:=by
 unfold dB
 split
 ·exact ro
 split
 ·exact ro
 rename_i h1 h2
 have hh:aX Mt.id w (ofM w p)=true:=by simpa using h1
 have hm:gM w (ofM w p)∈w:=(eg hh).1
 refine ro.put (An (ro.FQ hh) p st un no) (.inl ?_) fun b hb hne x hx=>?_
 ·show aX Mt.id w (gM w (ofM w p)).id=true
  rw[MO.HK hh]; exact hh
 ·rw[Eh] at hx
  cases c:inM b x with
  | false=>rfl
  | true=>exact absurd (congrArg Mt.id (ro.one b hb _ hm x c hx)) hne
theorem MO.drop {w:List Mt} {m:Int} (ro:MO w m) (t:Int):MO (dN Mt.id w t) m:=by
 refine⟨ro.rise.drop t,?_,ro.big,fun c hc=>ro.cs c (mP.1 hc).1,fun a ha b hb p hpa hpb=>ro.one a (mP.1 ha).1 b (mP.1 hb).1 p hpa hpb⟩
 have:=ro.full
 have:(dN Mt.id w t).length≤w.length:=List.length_filter_le _ _
 omega
end Go.Proofs.YtenaelaapdhbdaaDoor
