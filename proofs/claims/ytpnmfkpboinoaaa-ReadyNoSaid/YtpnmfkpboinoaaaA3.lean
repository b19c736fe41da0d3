/-
  An abstract machine over values without memory, proved against the model, part 3: a tool for this claim; it states nothing of the program.
-/
import Derived.Test.YtpnmfkpboinoaaaA2
import Derived.Defers
namespace Go.AM
open Go
def kI (ops:Array Oper) (hn:Oper→Nat) (oc oa:Oper):Bool:=
 (match cl (hn oa) oa.op with|some .p=>true|_=>false) && (match oa.dst with|some d=> !(looks ops oc).contains d && oc.dst != some d|none=>true) && (match oc.dst with|some d=> !(looks ops oa).contains d|none=>true)
def oR (ops:Array Oper) (hn:Oper→Nat) (c:Nat) (A B:List Nat):Bool:=
 let anc:=cY ops.toList
 let L:=A++c::B
 dK ops && (ops.toList.all fun o=>(cl (hn o) o.op).isSome) && L.isPerm (List.range ops.size) && decide (L.Pairwise fun a b=>L.idxOf a<L.idxOf b) &&
 ((A++B).all fun i=>(A++B).all fun j=> !Nat.blt (L.idxOf j) (L.idxOf i) || (match ops[j]?,ops[i]? with|some oj,some oi=>indep ops hn oj oi || (anc.getD i []).contains j|_,_=>true)) &&
 (B.all fun b=>(anc.getD b []).contains c) &&
 (match ops[c]? with
  | some oc=>oc.guard.isNone && (A.all fun a=>(anc.getD c []).contains a || (match ops[a]? with|some oa=>kI ops hn oc oa|none=>false))
  | none=>false)
theorem gN {P:Program} {gl:ai} {hn:Oper→Nat} {ops:Array Oper}:∀ {is js:List Nat} {e e2:Env} {H H2:aa},Chain P gl hn ops (is++js) e H e2 H2→∃ e1 H1,Chain P gl hn ops is e H e1 H1∧Chain P gl hn ops js e1 H1 e2 H2
 | [],js,e,e2,H,H2,h=>⟨e,H,.nil e H,h⟩
 | i::is,js,e,e2,H,H2,h=>by
  cases h with
  | cons ho h1 hs=>
   obtain⟨e1,H1,k1,k2⟩:=gN hs
   exact⟨e1,H1,.cons ho h1 k1,k2⟩
theorem l8 {P:Program} {gl:ai} {hn:Oper→Nat} {ops:Array Oper} {is js:List Nat} {e e1 e2:Env} {H H1 H2:aa} (h:Chain P gl hn ops is e H e1 H1) (h':Chain P gl hn ops js e1 H1 e2 H2):Chain P gl hn ops (is++js) e H e2 H2:=by
 induction h with
 | nil=>exact h'
 | cons ho h1 _ ih=>exact .cons ho h1 (ih h')
theorem so {P:Program} {gl:ai} {hn:Oper→Nat} {ops:Array Oper} {o:Oper} {e e1:Env} {H H1:aa} (hc:cl (hn o) o.op=some .p) (h:SD P gl hn ops o e H e1 H1):H1=H∧∀ H2,SD P gl hn ops o e H2 e1 H2:=by
 rcases h with⟨r,rfl,hs,hg⟩|⟨rfl,rfl,h⟩
 ·have h2:=hs.2
  rw[hc] at h2
  exact⟨h2.1,fun H2=> .inl ⟨r,rfl,⟨h2.2 H2,by rw[hc]; exact⟨rfl,h2.2⟩⟩,hg⟩⟩
 ·exact⟨rfl,fun H2=> .inr ⟨rfl,rfl,h⟩⟩
theorem uO {P:Program} {gl:ai} {hn:Oper→Nat} {ops:Array Oper} {o:Oper} {e e1:Env} {H H1:aa} (h:SD P gl hn ops o e H e1 H1):∃ r,e1=upd e o.dst r:=by
 rcases h with⟨r,rfl,_⟩|⟨rfl,_⟩
 ·exact⟨r,rfl⟩
 ·exact⟨_,rfl⟩
theorem gG {P:Program} {gl:ai} {hn:Oper→Nat} {ops:Array Oper} {oc:Oper}:∀ {is:List Nat} {e e2:Env} {H H2:aa},(∀ i∈is,∀ oa,ops[i]?=some oa→kI ops hn oc oa=true)→Chain P gl hn ops is e H e2 H2→
  H2=H∧(∀ y∈oc.op.operands,ev gl e2 y=ev gl e y)∧∀ x H',Chain P gl hn ops is (upd e oc.dst x) H' (upd e2 oc.dst x) H'
 | [],e,e2,H,H2,_,h=>by cases h; exact⟨rfl,fun _ _=>rfl,fun x H'=> .nil _ _⟩
 | i::is,e,e2,H,H2,hp,h=>by
  cases h with
  | cons ho h1 hs=>
   rename_i o e1 H1
   have ha:=hp i (by simp) o ho
   simp only[kI,Bool.and_eq_true] at ha
   obtain⟨⟨a1,a2⟩,a3⟩:=ha
   have hc:cl (hn o) o.op=some .p:=by split at a1; assumption; cases a1
   obtain⟨rfl,hall⟩:=so hc h1
   obtain⟨k1,k2,k3⟩:=gG (fun j hj=>hp j (by simp[hj])) hs
   refine⟨k1,fun y hy=>?_,fun x H'=> .cons ho ?_ (k3 x H')⟩
   ·rw[k2 y hy]
    obtain⟨r,rfl⟩:=uO h1
    exact hM (ops:=ops) (o:=oc) (fun t ht=>by rw[ht] at a2; simp only[Bool.and_eq_true] at a2; simpa using a2.1) y hy
   ·exact m9 (fun t ht=>by rw[ht] at a3; simpa using a3) (fun t ht e=>by
     rw[e] at a2
     simp only[Bool.and_eq_true,bne_iff_ne,ne_eq] at a2
     exact a2.2 ht) (hall H')
theorem lP [Dfr] {P:Program} {gl:ai} {hn:Oper→Nat} {n:Nat} {ops:Array Oper} (hd:ops.toList.all (fO n)=true) {Q:Exit→Act→World→Prop} {js:List Nat} {e2:Env} {H2:aa}:∀(is:List Nat) (g:Gh) (e:Env) (H:aa) (a:Act) (w:World),
  St gl n g e H a w→Chain P gl hn ops is e H e2 H2→(∀ g' a' w',St gl n g' e2 H2 a' w'→Ext g H w g' H2 w'→wpOps P ops Q js a' w')→
  wpOps P ops Q (is++js) a w:=by
 intro is
 induction is with
 | nil=>
  intro g e H a w hst h hk
  cases h
  exact hk g a w hst (.refl _ _ _)
 | cons i is ih=>
  intro g e H a w hst h hk
  cases h with
  | cons ho h1 hs=>
   rename_i o e1 H1
   have hmem:o∈ops.toList:=by
    obtain⟨hlt,he⟩:=Array.getElem?_eq_some_iff.1 ho
    rw[← he]; exact Array.getElem_mem_toList hlt
   have hdo:∀ t,o.dst=some t→t<n:=by
    intro t ht
    have:=List.all_eq_true.1 hd o hmem
    simpa[fO,ht] using this
   rw[List.cons_append]
   unfold wpOps
   rw[ho]
   simp only
   rcases h1 with⟨r,rfl,hst1,hg⟩|⟨rfl,rfl,j,want,d,hg,hdd,hb⟩
   ·have hw:Region.wanted o (yielded ops a.tmps)=true:=by
     unfold Region.wanted
     split at hg
     ·rename_i hgn; rw[hgn]
     ·rename_i j want hgs
      obtain⟨d,hdd,hb⟩:=hg
      rw[hgs]
      simp[dM hst hdd hb]
    rw[if_pos hw]
    left
    have hno:=eL hst.sim hst.glob (o:=o) (a:=a) (fun x=>hst.env.ev hst.glob x) hst1.1
    have cont:∀(g1:Gh) (H1':aa) (w1:World) (x:PV) (v:Value),Sim g1 H1' w1→Ext g H w g1 H1' w1→Rel g1 w1 x v→(x=r∧H1'=H1)→
      wpOps P ops Q (is++js) (a.put o.dst v) w1:=by
     rintro g1 H1' w1 x v k1 k2 k3 ⟨rfl,rfl⟩
     exact ih g1 (upd e o.dst x) H1' (a.put o.dst v) w1 (hst.next k1 k2 k3 o.dst hdo) hs fun g' a' w' j1 j2=>hk g' a' w' j1 (k2.trans j2)
    unfold Oper.wp
    rcases hno with⟨v,w',g',H',x,h1,h2,h3,h4,h5⟩|⟨w',g',H',h1,h2,h3,h4⟩|⟨f,vs,h1,h2⟩
    ·rw[h1]; exact cont g' H' w' x v h2 h3 h4 h5
    ·rw[h1]; exact cont g' H' w' (.tup []) undef h2 h3 (bK g' w') h4
    ·rw[h1]
     refine h2.mono ?_
     rintro ex w' ⟨v,g',H',x,rfl,k1,k2,k3,k4⟩
     exact cont g' H' w' x v k1 k2 k3 k4
   ·have hw:¬ Region.wanted o (yielded ops a.tmps)=true:=by
     unfold Region.wanted
     rw[hg]
     rcases hb with hb|hb
     ·simp[dM hst hdd hb]
     ·simp[dR hst hdd hb]
    rw[if_neg hw]
    exact ih g (upd e o.dst (.tup [])) _ (a.put o.dst undef) w (hst.next hst.sim (.refl _ _ _) (bK g w) o.dst hdo) hs hk
theorem sX [Dfr] {P:Program} {gl:ai} {m:Nat} {n:Nat} {ops:Array Oper} (hd:ops.toList.all (fO n)=true) {Q:Exit→Act→World→Prop} {js:List Nat} {c:Nat} {o:Oper} (ho:ops[c]?=some o) (hg:o.guard=none)
  {g:Gh} {e:Env} {H:aa} {a:Act} {w:World} (hst:St gl n g e H a w) {K:PV→aa→Prop} (h:opw P gl o.op m (ev gl e) H K)
  (hk:∀ x H' g' a' w',K x H'→St gl n g' (upd e o.dst x) H' a' w'→Ext g H w g' H' w'→wpOps P ops Q js a' w'):wpOps P ops Q (c::js) a w:=by
 have hmem:o∈ops.toList:=by
  obtain⟨hlt,he⟩:=Array.getElem?_eq_some_iff.1 ho
  rw[← he]; exact Array.getElem_mem_toList hlt
 have hdo:∀ t,o.dst=some t→t<n:=by
  intro t ht
  have:=List.all_eq_true.1 hd o hmem
  simpa[fO,ht] using this
 unfold wpOps
 rw[ho]
 simp only
 rw[if_pos (by unfold Region.wanted; rw[hg])]
 left
 have hno:=eL hst.sim hst.glob (o:=o) (a:=a) (fun x=>hst.env.ev hst.glob x) h
 have cont:∀(g1:Gh) (H1':aa) (w1:World) (x:PV) (v:Value),Sim g1 H1' w1→Ext g H w g1 H1' w1→Rel g1 w1 x v→K x H1'→wpOps P ops Q js (a.put o.dst v) w1:=
  fun g1 H1' w1 x v k1 k2 k3 k4=>hk x H1' g1 _ w1 k4 (hst.next k1 k2 k3 o.dst hdo) k2
 unfold Oper.wp
 rcases hno with⟨v,w',g',H',x,h1,h2,h3,h4,h5⟩|⟨w',g',H',h1,h2,h3,h4⟩|⟨f,vs,h1,h2⟩
 ·rw[h1]; exact cont g' H' w' x v h2 h3 h4 h5
 ·rw[h1]; exact cont g' H' w' (.tup []) undef h2 h3 (bK g' w') h4
 ·rw[h1]
  refine h2.mono ?_
  rintro ex w' ⟨v,g',H',x,rfl,k1,k2,k3,k4⟩
  exact cont g' H' w' x v k1 k2 k3 k4
def vD (B:Bool→Prop→Prop→Prop) (P:Program) (gl:ai) (T:Tab) (hn:Oper→Nat) (ops:Array Oper) (c:Nat) (A Bs:List Nat) (e:Env) (H:aa) (Q:Env→aa→Prop):Prop:=
 dY B P gl T hn true ops (bH ops A) e H fun e1 H1=>match ops[c]? with
  | some o=>match o.op with
   | .call cc=>jR B P T cc (hn o) false (ev gl e1) H1 fun x H'=>dY B P gl T hn true ops (bH ops Bs) (upd e1 o.dst x) H' Q
   | _=>False
  | none=>False
theorem tX [Dfr] {P:Program} {gl:ai} {n:Nat} {T:Tab} (hT:aV P gl T) {hn:Oper→Nat} {id:Nat} {ops:Array Oper} {Q:Ex→Env→aa→Prop} {e:Env} {H:aa} (c:Nat) (A B:List Nat)
  (hok:oR ops hn c A B=true) (h:vD br P gl T hn ops c A B e H (Q .normal)):AW P gl n (.region id ops true) Q e H:=by
 intro hd g a w hst
 simp only[oR,Bool.and_eq_true,decide_eq_true_eq] at hok
 obtain⟨⟨⟨⟨⟨⟨h1,h2⟩,h3⟩,h4⟩,h5⟩,h6⟩,h7⟩:=hok
 have hcl:∀ o∈ops.toList,(cl (hn o) o.op).isSome=true:=List.all_eq_true.1 h2
 have hperm:(A++c::B).Perm (List.range ops.size):=List.isPerm_iff.1 h3
 have ndL:(A++c::B).Nodup:=hperm.nodup_iff.2 List.nodup_range
 have hlt:∀ i∈A++c::B,i<ops.size:=fun i hi=>by simpa using hperm.subset hi
 generalize hrk:(fun i=>(A++c::B).idxOf i)=rk at *
 have h4':(A++c::B).Pairwise (fun a b=>rk a<rk b):=by rw[← hrk]; exact h4
 cases hoc:ops[c]? with
 | none=>rw[hoc] at h7; cases h7
 | some oc=>
 rw[hoc] at h7
 simp only[Bool.and_eq_true] at h7
 obtain⟨h7,h8⟩:=h7
 have hgd:oc.guard=none:=by simpa using h7
 have hr:=aY hT (bH ops A) e H h
 obtain⟨eA,HA,chA,hK⟩:=c6 hcl A (bH ops A) e H (cE fun i hi=>hlt i (by simp[hi])) hr
 rw[hoc] at hK
 simp only at hK
 cases hop:oc.op<;>rw[hop] at hK<;>try (exact hK.elim)
 rename_i cc
 simp only at hK
 have hcall:opw P gl oc.op (hn oc) (ev gl eA) HA (fun x H'=>∃ e2 H2,Chain P gl hn ops B (upd eA oc.dst x) H' e2 H2∧Q .normal e2 H2):=by
  rw[hop]
  refine fu ((gL hT hK).1 rfl) fun x H' hx=>?_
  exact c6 hcl B (bH ops B) _ _ (cE fun i hi=>hlt i (by simp[hi])) (aY hT _ _ _ hx)
 refine wp_region_draw fun t=>?_
 have hst':St gl n g e H a w.drew:=⟨hst.sim.drew,hst.glob.mono (aQ.drew g w),hst.env.mono (aQ.drew g w),hst.dfr⟩
 obtain⟨hp,hanc⟩:=j8 h1 (P.follows .mixedOrders) t
 generalize Region.schedule (P.follows .mixedOrders) ops t=σ at hp hanc
 have hσ:σ.Perm (A++c::B):=hp.trans hperm.symm
 have ndσ:σ.Nodup:=hσ.nodup_iff.2 ndL
 have hcσ:c∈σ:=hσ.symm.subset (by simp)
 obtain⟨σ1,σ2,rfl⟩:=List.append_of_mem hcσ
 obtain⟨an1,an2,an3⟩:=List.pairwise_append.1 hanc
 obtain⟨an4,an5⟩:=List.pairwise_cons.1 an2
 obtain⟨nd1,nd2,nd3⟩:=List.pairwise_append.1 ndσ
 obtain⟨nd4,nd5⟩:=List.pairwise_cons.1 nd2
 have hcA:c∉A:=fun hc=>(List.pairwise_append.1 ndL).2.2 c hc c (by simp) rfl
 have hs1:∀ i∈σ1,i∈A:=by
  intro i hi
  have hm:i∈A++c::B:=hσ.subset (by simp[hi])
  rcases List.mem_append.1 hm with hm|hm
  ·exact hm
  ·rcases List.mem_cons.1 hm with rfl|hm
   ·exact absurd rfl (nd3 i hi i (by simp))
   ·exfalso
    have k1:=List.all_eq_true.1 h6 i hm
    have k2:=an3 i hi c (by simp)
    rw[k1] at k2; cases k2
 have hpair:∀ i j,i∈A++B→j∈A++B→((cY ops.toList).getD i []).contains j=false→rk j<rk i→∀ oj oi,ops[j]?=some oj→ops[i]?=some oi→indep ops hn oj oi=true:=by
  intro i j hi hj hno hlt2 oj oi hoj hoi
  have k:=List.all_eq_true.1 (List.all_eq_true.1 h5 i hi) j hj
  rw[hoj,hoi] at k
  have hbl:Nat.blt ((A++c::B).idxOf j) ((A++c::B).idxOf i)=true:=by
   rw[Nat.blt_eq]
   rw[← hrk] at hlt2
   exact hlt2
  rw[hbl,hno] at k
  simpa using k
 let p:Nat→Bool:=fun i=>decide (i∈σ2)
 have hP:(A.filter p).Perm (A.filter p):=List.Perm.refl _
 have ndA:A.Nodup:=(List.pairwise_append.1 ndL).1
 have hperm1:(σ1++A.filter p).Perm A:=by
  refine(List.perm_ext_iff_of_nodup ?_ ndA).2 fun x=>?_
  ·refine List.pairwise_append.2 ⟨nd1,List.Pairwise.filter _ ndA,fun x hx y hy=>?_⟩
   have:=(List.mem_filter.1 hy).2
   exact nd3 x hx y (by simp[p] at this; simp[this])
  ·rw[List.mem_append,List.mem_filter]
   constructor
   ·rintro (hx|⟨hx,_⟩)
    ·exact hs1 x hx
    ·exact hx
   ·intro hx
    have hm:x∈σ1++c::σ2:=hσ.symm.subset (by simp[hx])
    rcases List.mem_append.1 hm with hm|hm
    ·exact .inl hm
    ·rcases List.mem_cons.1 hm with hm|hm
     ·exact absurd (hm▸hx) hcA
     ·exact .inr ⟨hx,by simp[p,hm]⟩
 have hperm2:σ2.Perm (A.filter p++B):=by
  have k1:(σ1++c::σ2).Perm (σ1++(A.filter p++c::B)):=by
   rw[← List.append_assoc]
   exact hσ.trans (List.Perm.append_right _ hperm1.symm)
  have k2:=(List.perm_append_left_iff σ1).1 k1
  exact(List.perm_cons c).1 (k2.trans List.perm_middle)
 have sA:A.Pairwise (fun a b=>rk a<rk b):=(List.pairwise_append.1 h4').1
 have sPB:(A.filter p++B).Pairwise (fun a b=>rk a<rk b):=h4'.sublist (List.Sublist.append List.filter_sublist (List.sublist_cons_self c B))
 have inAB:∀ i∈σ2,i∈A++B:=fun i hi=>by
  have:=hperm2.subset hi
  rcases List.mem_append.1 this with h|h
  ·exact List.mem_append_left _ (List.mem_filter.1 h).1
  ·exact List.mem_append_right _ h
 have R1:(σ1++A.filter p).Pairwise (lH rk ops hn):=by
  refine List.pairwise_append.2 ⟨?_,?_,?_⟩
  ·refine List.Pairwise.imp_of_mem (fun {i j} hi hj hno=>?_) an1
   exact fun hr=>hpair i j (List.mem_append_left _ (hs1 i hi)) (List.mem_append_left _ (hs1 j hj)) hno hr
  ·refine List.Pairwise.imp (fun {i j} hij hr=>?_) (sA.sublist List.filter_sublist)
   exact absurd hr (Nat.not_lt.2 (Nat.le_of_lt hij))
  ·intro i hi j hj hr
   have hj2:j∈σ2:=by have:=(List.mem_filter.1 hj).2; simpa[p] using this
   exact hpair i j (List.mem_append_left _ (hs1 i hi)) (List.mem_append_left _ (List.mem_filter.1 hj).1) (an3 i hi j (by simp[hj2])) hr
 have R2:σ2.Pairwise (lH rk ops hn):=by
  refine List.Pairwise.imp_of_mem (fun {i j} hi hj hno=>?_) an5
  exact fun hr=>hpair i j (inAB i hi) (inAB j hj) hno hr
 have ch1:=c7 rk (σ1++A.filter p) A e H eA HA sA hperm1 R1 chA
 obtain⟨e1,H1,c1,c2⟩:=gN ch1
 have hap:∀ i∈A.filter p,∀ oa,ops[i]?=some oa→kI ops hn oc oa=true:=by
  intro i hi oa hoa
  have hi2:i∈σ2:=by have:=(List.mem_filter.1 hi).2; simpa[p] using this
  have k:=List.all_eq_true.1 h8 i (List.mem_filter.1 hi).1
  rw[an4 i hi2,hoa] at k
  simpa using k
 obtain⟨rfl,hev,hch⟩:=gG hap c2
 have hcall1:=gr (ρ':=ev gl e1) hev hcall
 refine lP hd σ1 g e H a w.drew hst' c1 fun g1 a1 w1 s1 x1=>?_
 refine sX hd hoc hgd s1 hcall1 fun x H' g2 a2 w2 hx s2 x2=>?_
 obtain⟨e2,H2,cB,hq⟩:=hx
 have ch2:=c7 rk σ2 (A.filter p++B) _ _ _ _ sPB hperm2 R2 (l8 (hch x H') cB)
 have:=c8 hd σ2 g2 _ _ a2 w2 s2 ch2
 refine bS _ ?_ _ _ this
 rintro ex a' w' ⟨g',rfl,k1,k2⟩
 exact⟨.normal,g',e2,H2,trivial,k1,(Ext.drew g H w).trans (x1.trans (x2.trans k2)),hq⟩
def ul (B:Bool→Prop→Prop→Prop) (P:Program) (gl:ai) (T:Tab) (hn:Oper→Nat) (cd:Code) (c:Nat) (A Bs:List Nat):LSp:=fun e H Q=>vD B P gl T hn (opsOf cd) c A Bs e H (Q .normal)
theorem mY [Dfr] {P:Program} {gl:ai} {n:Nat} {T:Tab} (hT:aV P gl T) {hn:Oper→Nat} {cd:Code} (hd:kB cd=true) {c:Nat} {A B:List Nat} (hok:oR (opsOf cd) hn c A B=true):
  ∀ e H Q,ul br P gl T hn cd c A B e H Q→AW P gl n cd Q e H:=by
 intro e H Q h
 cases cd<;>try (simp only[kB] at hd; cases hd; done)
 rename_i id ops d
 have hd:d=true:=hd
 subst hd
 exact tX hT c A B hok h
theorem lN {P:Program} {gl:ai} (hgl:az gl) {f:FuncId} {args:List PV} {H:aa} {R:Rep} (hargs:∀ x∈args,Low 0 x)
  (h:af P gl f args [] (fun x H'=>x = .ptr 1 0∧H'=[.abs R,.cells [.ptr 0 0]])):af P gl f args H (fun x H'=>x = .ptr (H.length+1) 0∧H'=H++[.abs R,.cells [.ptr H.length 0]]):=by
 have hsub:Sub (fun _=>0) [] H:=⟨fun o h=>absurd h (Nat.not_lt_zero _),fun o _ h=>absurd h (Nat.not_lt_zero _),fun o a h=>by simp at h⟩
 refine aD hgl hsub (aJ.low hargs) (aA h fun x H' e=>?_)
 obtain⟨rfl,rfl⟩:=e
 refine⟨.ptr (H.length+1) 0,H++[.abs R,.cells [.ptr H.length 0]],⟨Nat.zero_le _,by simp,fun o a ho'=>?_,fun o hl _=>?_⟩,?_,rfl,rfl⟩
 ·have k1:=(List.getElem?_eq_some_iff.1 ho').1
  simp at k1
  have:o=0∨o=1:=by omega
  rcases this with rfl|rfl
  ·cases ho'
   exact⟨.abs R,by simp[aF],.abs _,fun _=>rfl⟩
  ·cases ho'
   refine⟨.cells [.ptr H.length 0],by simp[aF],.cells (.cons ?_ .nil),fun _=>rfl⟩
   have:=Ren.ptr (ρ:=aF (fun _=>0) ([]:aa).length H.length) (n:=2) 0 0 (by decide)
   simpa[aF] using this
 ·rw[List.getElem?_append_left hl]
 ·have:=Ren.ptr (ρ:=aF (fun _=>0) ([]:aa).length H.length) (n:=[Ob.abs R,Ob.cells [.ptr 0 0]].length) 1 0 (by simp)
  simpa[aF] using this
theorem fC {n:Nat} {a b:PV} (ha:Low n a) (hb:Low n b):∀ x∈[a,b],Low n x:=by
 intro x hx; simp only[List.mem_cons,List.not_mem_nil,or_false] at hx; rcases hx with rfl|rfl<;>assumption
theorem jB {n:Nat} {a b c:PV} (ha:Low n a) (hb:Low n b) (hc:Low n c):∀ x∈[a,b,c],Low n x:=by
 intro x hx; simp only[List.mem_cons,List.not_mem_nil,or_false] at hx; rcases hx with rfl|rfl|rfl<;>assumption
theorem iD {n:Nat} {a b c d:PV} (ha:Low n a) (hb:Low n b) (hc:Low n c) (hd:Low n d):∀ x∈[a,b,c,d],Low n x:=by
 intro x hx; simp only[List.mem_cons,List.not_mem_nil,or_false] at hx; rcases hx with rfl|rfl|rfl|rfl<;>assumption
theorem ci {n:Nat} {a:PV} (ha:Low n a):∀ x∈[a],Low n x:=by
 intro x hx; rcases List.mem_singleton.1 hx with rfl; assumption
theorem pe {n:Nat}:∀ x∈([]:List PV),Low n x:=fun _ h=>nomatch h
theorem ic {α:Type} {f:α→List PV} {sz by_:Nat} (hf:∀ a,(f a).length=sz) (l:List α) (a:α) (hb:(l.length+1)*by_≤140737488355328):fU (l.map f) [f a] sz by_:=
 ⟨fN hf l,(by intro e he; rcases List.mem_singleton.1 he with rfl; exact hf a),by rw[List.length_map]; exact hb⟩
theorem one_row {α:Type} {f:α→List PV} (h1:∀ a,∀ y∈f a,y.one=true) (a:α):(f a).all PV.one=true∧[f a]≠[]:=⟨List.all_eq_true.2 (h1 a),List.cons_ne_nil _ _⟩
theorem jy {α σ:Type} {f:α→List PV} {acc:σ→List α} {I:σ→Prop} {m:σ→Nat} {Q:Ex→Env→aa→Prop} {B:aa} {slots:List Nat} {V:PV→σ→List PV} {s:σ} (s':σ) {L:List α} {vs:List PV} {H':aa} (h1:m s'<m s) (h2:I s') (hacc:acc s'=L) (hne:L≠[])
  (X:aa) (k:Nat) (hX:H'=B++X) (hk:(B++X)[k]?=some .tok) (hle:B.length≤k) (hv:vs=V (.list (L.map f) (.tok k)) s'):lG f acc I m Q B slots V s .normal vs H':=
 ⟨s',h1,h2,.inr ⟨by rw[hacc]; exact hne,X,k,hX,hk,hle,by rw[hacc]; exact hv⟩⟩
theorem lY {α σ:Type} {f:α→List PV} {acc:σ→List α} {I:σ→Prop} {m:σ→Nat} {Q:Ex→Env→aa→Prop} {B:aa} {slots:List Nat} {V:PV→σ→List PV} {s:σ} {j:Nat} {vs:List PV} {H':aa} (h:Q (.exit j) (aj slots vs) H'):lG f acc I m Q B slots V s (.exit j) vs H':=
 ⟨vs,H',.refl _,.refl _,h⟩
theorem gO {α:Type} {p:α→Bool} {l:List α} {i:Nat} (d:α) (h:i<l.length):(l.take (i+1)).filter p=(l.take i).filter p++(if p (l.getD i d)=true then [l.getD i d] else []):=by
 rw[nO d h,List.filter_append]
 congr 1
 by_cases c:p (l.getD i d)=true
 ·rw[if_pos c,List.filter_cons_of_pos c]; rfl
 ·rw[if_neg c,List.filter_cons_of_neg c]; rfl
theorem mT {α:Type} (l:List α) (a:α):l++[a]≠[]:=by simp
theorem ou {α:Type} {f:α→List PV} {n:Nat} (hf:∀ a,∀ x∈f a,Low n x) (l:List α):Low n (.list (l.map f) .no):=bh NT.no (fx fun a _=>hf a)
theorem mb {n:Nat}:∀(o:Nat) cs,([]:aa)[o]?=some (.cells cs)→∀ x∈cs,Low n x:=fun o cs h=>by simp at h
def vE (B:aa):Prop:=∀(o:Nat) cs,B[o]?=some (.cells cs)→∀ x∈cs,Low B.length x
theorem rI {B:aa} (h:∀ ob∈B,match ob with| .cells cs=>∀ x∈cs,Low B.length x|_=>True):vE B:=by
 intro o cs ho
 have:=h _ (List.mem_of_getElem? ho)
 exact this
def fI (H:aa) (q:Nat):Option Nat:=match H[q]? with
 | some (.cells [.ptr r 0])=>some r
 | _=>none
theorem lU {H:aa} {q r:Nat} (h:fI H q=some r):H[q]?=some (.cells [.ptr r 0]):=by
 unfold fI at h
 split at h
 ·cases h; assumption
 ·cases h
theorem dh {H:aa} {q r:Nat} {R:Rep} (h:fI H q=some r) (ha:bB H r R):cr H q r R:=⟨lU h,ha⟩
theorem over_row {α:Type} {f:α→List PV} {sz:Nat} (h:∀ a,(f a).length=sz) {l:List α} {J:List PV} {k:Nat} {a:α} (d:α) (hk:k<l.length):over ((l.map f).flatten++J) (k*sz) (f a)=((l.set k a).map f).flatten++J:=by
 have e1:(l.map f).flatten++J=((l.take k).map f).flatten++f (l.getD k d)++(((l.drop (k+1)).map f).flatten++J):=by
  rw[cZ l k,List.drop_eq_getElem_cons hk,List.map_cons,List.flatten_cons,List.getD_eq_getElem?_getD,List.getElem?_eq_getElem hk]
  simp
 rw[bP e1 (by rw[aS h,List.length_take,Nat.min_eq_left (by omega)]) (by rw[h,h]),List.set_eq_take_append_cons_drop,if_pos hk]
 simp
def u1 (n:Int):List PV:=[.int .u32 n]
theorem cK (n:Int):(u1 n).length=1:=rfl
theorem kM {k:Nat} (n:Int):∀ y∈u1 n,Low k y:=ci (.int _ _)
theorem kA (n:Int):∀ y∈u1 n,y.one=true:=by intro y hy; rcases List.mem_singleton.1 hy with rfl; rfl
theorem je (l:List Int) (i:Nat):InL (l.map u1) 1 (i:Int)=(i<l.length):=rW cK (by decide) l i
theorem fY (l:List Int):(l.map u1).flatten.length=l.length:=by rw[aS cK,Nat.mul_one]
theorem mZ {n:Nat} (l:List Int) {J:List PV} (h:∀ y∈J,Low n y):∀ y∈(l.map u1).flatten++J,Low n y:=kW (fun a _=>kM a) h
theorem rM {P:Program} {gl:ai} (hgl:az gl) {f:FuncId} {args args':List PV} {es:List (List PV)} {pre rest:List PV} (hw:WkL args args') (ha:∀ x∈args',Low 0 x) (hl:∀ x∈es.flatten,Low 0 x) (hpre:∀ x∈pre,Low 0 x) (hrest:∀ x∈rest,Low 0 x)
  (h:af P gl f args' [] (fun x H'=>(es=[]→x = .agg (pre ++ .list [] .exact::rest))∧(es≠[]→∃ o,x = .agg (pre ++ .list es (.tok o)::rest)∧H'[o]?=some .tok))) (H:aa):
  af P gl f args H (fun x H'=>(es=[]→x = .agg (pre ++ .list [] .exact::rest)∧H'=H)∧(es≠[]→x = .agg (pre ++ .list es (.tok H.length)::rest)∧H'=H++[.tok])):=by
 by_cases he:es=[]
 ·subst he
  have h1:af P gl f args' [] (fun x _=>x = .agg (pre ++ .list [] .exact::rest)):=aA h fun x H' e=>e.1 rfl
  obtain⟨r,h2,rfl⟩:=g7 (K:=fun r=>r=PV.agg (pre ++ .list [] .exact::rest)) hgl hw ha (.agg _ (by
   intro x hx
   rcases List.mem_append.1 hx with hx|hx
   ·exact hpre x hx
   ·rcases List.mem_cons.1 hx with rfl|hx
    ·exact bh NT.exact (by simp)
    ·exact hrest x hx)) h1 rfl
  exact aA (h2 H) fun x H' e=>⟨fun _=>e,fun hn=>absurd rfl hn⟩
 ·refine bV hw (aD hgl (X:=[]) (ρ:=fun o=>o) ⟨fun o ho=>absurd ho (Nat.not_lt_zero _),fun o _ ho=>absurd ho (Nat.not_lt_zero _),fun o a ho=>by simp at ho⟩ (aJ.low ha) (bN hgl (aA h fun x H' e=>?_)))
  obtain⟨o,rfl,ho⟩:=e.2 he
  have hol:=(List.getElem?_eq_some_iff.1 ho).1
  have hren:∀ {ρ:Nat→Nat} {n:Nat} (k:Nat) (hk:k<n),aJ ρ n (pre ++ .list es (.tok k)::rest) (pre ++ .list es (.tok (ρ k))::rest):=by
   intro ρ n k hk
   exact(aJ.low hpre).append (.cons (.ltok es k hk hl) (aJ.low hrest))
  refine⟨.agg (pre ++ .list es (.tok 0)::rest),[.tok],fun _=>o,⟨fun _ _=>hol,fun a b h1 h2 _=>by simp at h1 h2; omega,fun a ob h1=>?_⟩,Nat.zero_le _,fun a ha=>absurd ha (Nat.not_lt_zero _),?_,?_⟩
  ·have k1:=(List.getElem?_eq_some_iff.1 h1).1
   simp at k1
   subst k1
   cases h1
   exact⟨.tok,ho,.tok⟩
  ·exact .rH (hren (ρ:=fun _=>o) 0 (by simp))
  ·refine⟨.agg (pre ++ .list es (.tok H.length)::rest),H++[.tok],⟨Nat.zero_le _,by simp,fun a ob h1=>?_,fun a h1 _=>?_⟩,?_,fun hn=>absurd hn he,fun _=>⟨rfl,rfl⟩⟩
   ·have k1:=(List.getElem?_eq_some_iff.1 h1).1
    simp at k1
    subst k1
    cases h1
    exact⟨.tok,by simp[aF],.tok,fun h=>h⟩
   ·rw[List.getElem?_append_left h1]
   ·have:=Ren.rH (hren (ρ:=aF (fun o=>o) ([]:aa).length H.length) (n:=[Ob.tok].length) 0 (by simp))
    simpa[aF] using this
theorem px {P:Program} {gl:ai} (hgl:az gl) {f:FuncId} {rest:List PV} {H:aa} {q r:Nat} {R:Rep} {es:List (List PV)} (V:PV→PV) (ho:cr H q r R) (hrest:∀ x∈rest,Low 0 x)
  (hren:∀(ρ:Nat→Nat) (n k:Nat),k<n→Ren ρ n (V (.list es (.tok k))) (V (.list es (.tok (ρ k)))))
  (h:af P gl f (.ptr 0 0::rest) [.cells [.ptr 1 0],.abs R] (fun x H'=>∃ o G,x=V (.list es (.tok o))∧H' = .cells [.ptr 1 0] :: .abs R::G∧H'[o]?=some .tok)):
  af P gl f (.ptr q 0::rest) H (fun x H'=>x=V (.list es (.tok H.length))∧H'=H++[.tok]):=by
 have hq:=(List.getElem?_eq_some_iff.1 ho.1).1
 have hr:=(List.getElem?_eq_some_iff.1 ho.2).1
 have h1:af P gl f (.ptr 0 0::rest) [.cells [.ptr 1 0],.abs R] (fun x H'=>x=V (.list es (.tok 2))∧H'=[.cells [.ptr 1 0],.abs R,.tok]):=by
  refine bN hgl (aA h fun x H' e=>?_)
  obtain⟨o,G,rfl,rfl,hot⟩:=e
  have ho2:2≤o:=by
   rcases o with _|_|o
   ·cases hot
   ·cases hot
   ·omega
  have hol:=(List.getElem?_eq_some_iff.1 hot).1
  let ρ:Nat→Nat:=fun k=>if k=2 then o else k
  refine⟨V (.list es (.tok 2)),[.cells [.ptr 1 0],.abs R,.tok],ρ,⟨fun k hk=>?_,fun a b ha hb e=>?_,fun k a hk=>?_⟩,by simp,fun k hk=>?_,?_,rfl,rfl⟩
  ·simp at hk
   simp only[ρ]
   split
   ·exact hol
   ·simp at hol ⊢; omega
  ·simp at ha hb
   simp only[ρ] at e
   split at e<;>split at e<;>omega
  ·have k1:=(List.getElem?_eq_some_iff.1 hk).1
   simp at k1
   have:k=0∨k=1∨k=2:=by omega
   rcases this with rfl|rfl|rfl
   ·cases hk
    refine⟨_,rfl,.cells (.cons ?_ .nil)⟩
    have:=Ren.ptr (ρ:=ρ) (n:=3) 1 0 (by decide)
    exact this
   ·cases hk
    exact⟨_,rfl,.abs _⟩
   ·cases hk
    exact⟨.tok,hot,.tok⟩
  ·simp at hk
   simp only[ρ]; rw[if_neg (by omega)]
  ·have:=hren ρ 3 2 (by decide)
   exact this
 refine aD hgl (fq ho) (.cons (.ptr (ρ:=fun o=>if o=0 then q else r) 0 0 (by simp)) (aJ.low hrest)) (aA h1 fun x H' e=>?_)
 obtain⟨rfl,rfl⟩:=e
 have hsub:=fq ho
 let ρ:Nat→Nat:=aF (fun o=>if o=0 then q else r) 2 H.length
 have e0:ρ 0=q:=by simp[ρ,aF]
 have e1:ρ 1=r:=by simp[ρ,aF]
 have e2:ρ 2=H.length:=by simp[ρ,aF]
 refine⟨V (.list es (.tok H.length)),H++[.tok],⟨by simp,by simp,fun o a ho'=>?_,fun o hl hn=>?_⟩,?_,rfl,rfl⟩
 ·have k1:=(List.getElem?_eq_some_iff.1 ho').1
  simp at k1
  have:o=0∨o=1∨o=2:=by omega
  rcases this with rfl|rfl|rfl
  ·cases ho'
   refine⟨.cells [.ptr r 0],?_,.cells (.cons ?_ .nil),fun _=>rfl⟩
   ·show(H++[Ob.tok])[ρ 0]?=_
    rw[e0,List.getElem?_append_left hq]; exact ho.1
   ·have:=Ren.ptr (ρ:=ρ) (n:=3) 1 0 (by decide)
    rw[e1] at this
    exact this
  ·cases ho'
   refine⟨.abs R,?_,.abs _,fun _=>rfl⟩
   show(H++[Ob.tok])[ρ 1]?=_
   rw[e1,List.getElem?_append_left hr]; exact ho.2
  ·cases ho'
   refine⟨.tok,?_,.tok,fun _=>rfl⟩
   show(H++[Ob.tok])[ρ 2]?=_
   rw[e2]; simp
 ·rw[List.getElem?_append_left hl]
 ·have:=hren ρ 3 2 (by decide)
  rw[e2] at this
  exact this
inductive RA (k k':Nat):PV→PV→Prop where
 | low {x:PV} (h:Low 0 x):RA k k' x x
 | arr (off len cap:Nat):RA k k' (.arr k off len cap) (.arr k' off len cap)
 | agg (cs cs':List PV) (hl:cs.length=cs'.length) (h:∀(q:Nat) (x y:PV),cs[q]?=some x→cs'[q]?=some y→RA k k' x y):RA k k' (.agg cs) (.agg cs')
 | tup (cs cs':List PV) (hl:cs.length=cs'.length) (h:∀(q:Nat) (x y:PV),cs[q]?=some x→cs'[q]?=some y→RA k k' x y):RA k k' (.tup cs) (.tup cs')
inductive RAL (k k':Nat):List PV→List PV→Prop where
 | nil:RAL k k' [] []
 | cons {x y:PV} {xs ys:List PV} (h:RA k k' x y) (hs:RAL k k' xs ys):RAL k k' (x::xs) (y::ys)
theorem RA.ren {k k':Nat} {x y:PV} (hr:RA k k' x y) {ρ:Nat→Nat} {n:Nat} (hk:k<n) (hρ:ρ k=k'):Ren ρ n x y:=by
 induction hr with
 | low h=>exact .low h
 | arr off len cap=>rw[← hρ]; exact .arr _ _ _ _ hk
 | agg cs cs' hl _ ih=>exact .agg _ _ hl ih
 | tup cs cs' hl _ ih=>exact .tup _ _ hl ih
inductive RF (o:Nat) (es:List (List PV)):PV→PV→Prop where
 | low {x:PV} (h:Low 0 x):RF o es x x
 | arr (cap:Nat) (hc:es.length≤cap):RF o es (.arr o 0 es.length cap) (.list es .no)
 | agg (cs cs':List PV) (hl:cs.length=cs'.length) (h:∀(q:Nat) (x y:PV),cs[q]?=some x→cs'[q]?=some y→RF o es x y):RF o es (.agg cs) (.agg cs')
 | tup (cs cs':List PV) (hl:cs.length=cs'.length) (h:∀(q:Nat) (x y:PV),cs[q]?=some x→cs'[q]?=some y→RF o es x y):RF o es (.tup cs) (.tup cs')
inductive RFL (o:Nat) (es:List (List PV)):List PV→List PV→Prop where
 | nil:RFL o es [] []
 | cons {x y:PV} {xs ys:List PV} (h:RF o es x y) (hs:RFL o es xs ys):RFL o es (x::xs) (y::ys)
inductive Sf (o:Nat) (H:aa):PV→PV→Prop where
 | int (k:IntKind) (n:Int):Sf o H (.int k n) (.int k n)
 | bool (b:Bool):Sf o H (.bool b) (.bool b)
 | nil (t:Tail) (ht:NT t):Sf o H (.list [] t) (.list [] t)
 | tok (k:IntKind) (ns:List Int) (p:Nat) (hp:H[p]?=some .tok) (hne:p≠o):Sf o H (.list (en1 k ns) (.tok p)) (.list (en1 k ns) (.tok p))
 | ptr (q off:Nat):Sf o H (.ptr q off) (.ptr q off)
 | arr (q off len cap:Nat):Sf o H (.arr q off len cap) (.arr q off len cap)
 | any (x:PV):Sf o H x .any
inductive SfL (o:Nat) (H:aa):List PV→List PV→Prop where
 | nil:SfL o H [] []
 | cons {x y:PV} {xs ys:List PV} (h:Sf o H x y) (hs:SfL o H xs ys):SfL o H (x::xs) (y::ys)
theorem SfL.length {o:Nat} {H:aa} {xs ys:List PV} (h:SfL o H xs ys):xs.length=ys.length:=by
 induction h with
 | nil=>rfl
 | cons _ _ ih=>simp[ih]
theorem SfL.get {o:Nat} {H:aa} {xs ys:List PV} (h:SfL o H xs ys):∀(q:Nat) (x y:PV),xs[q]?=some x→ys[q]?=some y→Sf o H x y:=by
 induction h with
 | nil=>intro q x y h; simp at h
 | cons h _ ih=>
  intro q x y h1 h2
  cases q with
  | zero=>simp at h1 h2; subst h1; subst h2; exact h
  | succ q=>exact ih q x y (by simpa using h1) (by simpa using h2)
def Gh.less (g:Gh) (b0:Nat):Gh:={ g with imm:=fun b q=>g.imm b q∧b≠b0 }
theorem Sf.to {o:Nat} {H:aa} {x y:PV} (h:Sf o H x y) {g:Gh} {w:World} (hS:Sim g H w) (ho:H[o]?=some .tok):∀ {v:Value},Rel g w x v→Rel (g.less (g.bk o)) w y v:=by
 cases h with
 | int k n=>intro v hv; cases hv; exact .int _ _
 | bool b=>intro v hv; cases hv; exact .bool _
 | nil t ht=>
  intro v hv
  obtain⟨a,cap,rfl,h1,h2,h3,_⟩:=Rel.an.1 hv
  refine Rel.an.2 ⟨a,cap,rfl,h1,h2,?_,.inl rfl⟩
  cases t with
  | no=>trivial
  | exact=>exact h3
  | tok p=>exact absurd rfl (ht p)
 | tok k ns p hp hne=>
  intro v hv
  obtain⟨a,cap,rfl,h1,h2,h3,h4⟩:=Rel.an.1 hv
  obtain⟨k1,A,s,k2,k3,k4,k5,k6,k7,k8⟩:=h3
  refine Rel.an.2 ⟨a,cap,rfl,h1,h2,⟨k1,A,s,k2,k3,k4,k5,k6,k7,k8⟩,h4.imp id ?_⟩
  rintro⟨A',e1,e2,e3⟩
  refine⟨A',e1,e2,fun q x hq=>?_⟩
  obtain⟨j1,c,j2,j3⟩:=e3 q x hq
  rw[k2] at e1
  cases e1
  refine⟨⟨j1,fun e=>hne ?_⟩,c,j2,?_⟩
  ·exact hS.inj p o _ _ (g.bk o) hp ho rfl rfl (show g.bk p=g.bk o by rw[← k4]; exact e) rfl
  ·have:=List.mem_iff_getElem?.2 ⟨q,hq⟩
   rw[dk] at this
   obtain⟨m,_,rfl⟩:=List.mem_map.1 this
   cases j3; exact .int _ _
 | ptr q off=>intro v hv; cases hv with|ptr _ _ hq=>exact .ptr (g:=g.less (g.bk o)) q off hq
 | arr q off len cap=>intro v hv; cases hv with|arr _ _ _ _ hq=>exact .arr (g:=g.less (g.bk o)) q off len cap hq
 | any x=>intro v _; exact .any v
theorem SfL.to {o:Nat} {H:aa} {xs ys:List PV} (h:SfL o H xs ys) {g:Gh} {w:World} (hS:Sim g H w) (ho:H[o]?=some .tok) {vs:List Value} (hr:aq g w xs vs):aq (g.less (g.bk o)) w ys vs:=by
 refine⟨by rw[← h.length]; exact hr.1,fun q y u hy hu=>?_⟩
 have hq:q<xs.length:=by rw[h.length]; exact(List.getElem?_eq_some_iff.1 hy).1
 exact(h.get q xs[q] y (List.getElem?_eq_getElem hq) hy).to hS ho (hr.2 q _ u (List.getElem?_eq_getElem hq) hu)
structure Thaw [Dfr] (o p:Nat) (k:IntKind) (ns:List Int) (pre post pre2 post2:List PV) (H':aa):Prop where
 ne:ns≠[]
 tok:H'[o]?=some .tok
 at_:H'[p]?=some (.cells (pre ++ .list (en1 k ns) (.tok o)::post))
 pre_:SfL o H' pre pre2
 post_:SfL o H' post post2
structure iH (o p:Nat) (H' H2:aa) (cs C:List PV):Prop where
 len:H2.length=H'.length
 row:H2[o]?=some (.cells C)
 hold:H2[p]?=some (.cells cs)
 rest:∀(i:Nat) (b:Ob),i≠o→i≠p→H2[i]?=some b→b = .dead∨(b = .tok∧H'[i]?=some .tok)∨∃ c c2,b = .cells c2∧H'[i]?=some (.cells c)∧SfL o H' c c2
theorem iH.alive [Dfr] {o p:Nat} {H' H2:aa} {cs C:List PV} (h:iH o p H' H2 cs C) {k:IntKind} {ns:List Int} {pre post pre2 post2:List PV} (t:Thaw o p k ns pre post pre2 post2 H') {i:Nat} {b:Ob} (hb:H2[i]?=some b) (ha:b.alive=true):
  ∃ a,H'[i]?=some a∧a.alive=true∧(∀ g:Gh,∀ x,blk g b i x↔g.bk i=x)∧(∀ g:Gh,∀ x,blk g a i x↔g.bk i=x):=by
 by_cases e1:i=o
 ·subst e1
  rw[h.row] at hb; cases hb
  exact⟨_,t.tok,rfl,fun _ _=>Iff.rfl,fun _ _=>Iff.rfl⟩
 by_cases e2:i=p
 ·subst e2
  rw[h.hold] at hb; cases hb
  exact⟨_,t.at_,rfl,fun _ _=>Iff.rfl,fun _ _=>Iff.rfl⟩
 rcases h.rest i b e1 e2 hb with rfl|⟨rfl,k1⟩|⟨c,c2,rfl,k1,_⟩
 ·cases ha
 ·exact⟨_,k1,rfl,fun _ _=>Iff.rfl,fun _ _=>Iff.rfl⟩
 ·exact⟨_,k1,rfl,fun _ _=>Iff.rfl,fun _ _=>Iff.rfl⟩
theorem kv {o:Nat} {H:aa} {g:Gh} {w:World} (hS:Sim g H w) (ho:H[o]?=some .tok):∀ {ts:List Nat} {vs vs2:List PV},SfL o H vs vs2→∀ t v,Rel g w (aj ts vs t) v→Rel (g.less (g.bk o)) w (aj ts vs2 t) v
 | [],_,_,_,t,v,_=>by unfold aj; exact .any v
 | k::ts,_,_,.nil,t,v,_=>by unfold aj; exact .any v
 | k::ts,_,_,.cons h hs,t,v,hr=>by
  simp only[aj] at hr ⊢
  cases hk:t == k with
  | true=>rw[hk] at hr; exact h.to hS ho hr
  | false=>rw[hk] at hr; exact kv hS ho hs t v hr
theorem ix {g:Gh} {w:World} {xs ys:List PV} {vs:List Value} (h:aq g w (xs++ys) vs):aq g w xs (vs.take xs.length)∧aq g w ys (vs.drop xs.length):=by
 have h1:=h.take xs.length
 have h2:=h.drop xs.length
 rw[List.take_left'] at h1
 rw[List.drop_left'] at h2
 ·exact⟨h1,h2⟩
 ·rfl
 ·rfl
theorem AW.vN [Dfr] {P:Program} {gl:ai} {n:Nat} {c:Code} {Q:Ex→Env→aa→Prop} {e:Env} {H:aa} (slots:List Nat)
  (hH:∀(o:Nat) (r:Rep),H[o]?≠some (.abs r))
  (h:AW P gl n c (fun ex e' H'=>∃(o p:Nat) (k:IntKind) (ns:List Int) (pre post pre2 post2:List PV),Thaw o p k ns pre post pre2 post2 H'∧H.length≤o∧(∀ q,q<H.length→∃ cs,H'[q]?=some (.cells cs))∧
   ∀(off cap:Nat) (A B:List PV),(∀ x∈A,x = .any)→(∀ x∈B,x = .any)→A.length=off→ns.length≤cap→∃ vs H2,SfL o H' (slots.map e') vs∧iH o p H' H2 (pre2 ++ .arr o off ns.length cap::post2) (A++(ns.map (PV.int k)++B))∧Q ex (aj slots vs) H2) e H):AW P gl n c Q e H:=by
 intro hd g a w hst
 refine wp_mono (h hd g a w hst) ?_
 rintro ex a' w' ⟨ex',g',e',H',k0,k1,hX,o,p,k,ns,pre,post,pre2,post2,th,hlo,hkeep,hk⟩
 have k1:=k1.weaken (cf e' slots)
 have hS:=k1.sim
 have fresh:w.heap.size≤g'.bk o:=by
  refine Nat.le_of_not_lt fun hlt=>?_
  obtain⟨q,ob,h1,h2,h3⟩:=hX.ow _ hlt ⟨o,.tok,th.tok,rfl,rfl⟩
  have hq:q<H.length:=(List.getElem?_eq_some_iff.1 h1).1
  obtain⟨cs,h4⟩:=hkeep q hq
  have h5:g.bk q=g'.bk o:=by
   cases ob with
   | abs r=>exact absurd h1 (hH q r)
   | cells _=>exact h3
   | tok=>exact h3
   | dead=>exact h3
  have h6:=hX.gx.bk q (by rw[hst.sim.n]; exact hq)
  have:=hS.inj q o _ _ (g'.bk o) h4 th.tok rfl rfl (h6.trans h5) rfl
  omega
 obtain⟨⟨C,ty,hC,hsz⟩,himm⟩:=hS.tok o th.tok
 obtain⟨⟨Cp,typ,hCp,hrel⟩,himp⟩:=hS.cells p _ th.at_
 have hne:p≠o:=by rintro rfl; have:=th.tok; rw[th.at_] at this; cases this
 obtain⟨hr1,hr2⟩:=ix hrel
 obtain⟨v0,hv0,hvr⟩:=hr2.get (q:=0) (x:= .list (en1 k ns) (.tok o)) rfl
 obtain⟨ad,cap,rfl,_,hcap,⟨_,A,s,rfl,hspot,hblk,hen,_,hfl,hle⟩,hrow⟩:=Rel.an.1 hvr
 have hl1:(en1 k ns).flatten.length=ns.length:=by rw[dk,List.length_map]
 rw[bE] at hcap hfl
 rw[hl1] at hen hfl
 have hnp:0<ns.length:=List.length_pos_iff.2 th.ne
 have hs1:s=1:=by
  have:=Nat.eq_of_mul_eq_mul_left hnp (show ns.length*s=ns.length*1 by omega)
  exact this
 subst hs1
 have hrow':aM g' w' A (en1 k ns).flatten:=by
  rcases hrow with h0|⟨A',e1,h0⟩
  ·rw[h0] at hl1; simp at hl1; omega
  ·cases e1; exact h0
 have hcell:∀ q,q<ns.length→∃ m,ns[q]?=some m∧C[A.off+q]?=some (.int k m):=by
  intro q hq
  have h1:(en1 k ns).flatten[q]?=some (.int k ns[q]):=by rw[dk,List.getElem?_map,List.getElem?_eq_getElem hq]; rfl
  obtain⟨_,cv,h2,h3⟩:=hrow'.2 q _ h1
  cases h3
  refine⟨ns[q],List.getElem?_eq_getElem hq,?_⟩
  have:w'.cell? (At A q)=C[A.off+q]?:=by
   unfold At
   rw[hblk]
   exact aO hC _
  rw[← this]; exact h2
 have hbound:A.off+cap≤C.size:=by rw[hsz]; omega
 obtain⟨vs,H2,hvs,htd,hQ⟩:=hk A.off cap (List.replicate A.off .any) (List.replicate (C.size-A.off-ns.length) .any) (fun x hx=>(List.mem_replicate.1 hx).2) (fun x hx=>(List.mem_replicate.1 hx).2) List.length_replicate hcap
 let g2:Gh:=g'.less (g'.bk o)
 have hgx:aQ g w g2 w':=⟨hX.gx.n,hX.gx.bk,hX.gx.en,hX.gx.sz,fun b q hi=>⟨hX.gx.imm b q hi,fun e=>by have:=hst.sim.imm b q hi; omega⟩,hX.gx.cell⟩
 have hown:∀ b,own g2 H2 b→own g' H' b:=by
  rintro b ⟨i,ob,h1,h2,h3⟩
  obtain⟨x,k2,k3,k4,k5⟩:=htd.alive th h1 h2
  exact⟨i,x,k2,k3,(k5 g' b).2 ((k4 g2 b).1 h3)⟩
 have hintrel:aq g2 w' (List.replicate A.off .any++(ns.map (PV.int k)++List.replicate (C.size-A.off-ns.length) .any)) C.toList:=by
  refine⟨by simp; omega,fun q x v hx hv=>?_⟩
  by_cases c1:q<A.off
  ·rw[List.getElem?_append_left (by simpa using c1),List.getElem?_replicate,if_pos c1] at hx
   cases hx; exact .any v
  ·rw[List.getElem?_append_right (by simp; omega),List.length_replicate] at hx
   by_cases c2:q-A.off<ns.length
   ·rw[List.getElem?_append_left (by simpa using c2),List.getElem?_map] at hx
    obtain⟨m,h1,h2⟩:=hcell (q-A.off) c2
    rw[h1] at hx
    cases hx
    rw[show A.off+(q-A.off)=q by omega] at h2
    rw[Array.getElem?_toList,h2] at hv
    cases hv
    exact .int _ _
   ·rw[List.getElem?_append_right (by simp; omega),List.getElem?_replicate] at hx
    split at hx
    ·cases hx; exact .any v
    ·cases hx
 have hholdrel:aq g2 w' (pre2 ++ .arr o A.off ns.length cap::post2) Cp.toList:=by
  have e1:Cp.toList=Cp.toList.take pre.length++Cp.toList.drop pre.length:=(List.take_append_drop _ _).symm
  obtain⟨h3,h4⟩:=ix (xs:=[.list (en1 k ns) (.tok o)]) (ys:=post) hr2
  have e2:(Cp.toList.drop pre.length) = .slice (some A) (en1 k ns).length cap::(Cp.toList.drop pre.length).drop 1:=by
   cases hz:Cp.toList.drop pre.length with
   | nil=>rw[hz] at hv0; cases hv0
   | cons a l=>rw[hz] at hv0; cases hv0; rfl
  rw[e1,e2]
  refine(th.pre_.to hS th.tok hr1).append (.cons ?_ (th.post_.to hS th.tok h4))
  rw[bE]
  have hA:A=⟨g2.bk o,A.off,none⟩:=by
   obtain⟨ab,ao,asp⟩:=A
   simp only at hspot hblk
   subst hspot; subst hblk; rfl
  have:=Rel.arr (g:=g2) (w:=w') o A.off ns.length cap (by rw[show g2.n=H'.length from hS.n]; exact(List.getElem?_eq_some_iff.1 th.tok).1)
  rw[← hA] at this
  exact this
 refine⟨ex',g2,aj slots vs,H2,k0,⟨⟨by rw[htd.len]; exact hS.n,fun i j oi oj b h1 h2 h3 h4 h5 h6=>?_,fun i cs h1=>?_,fun i h1=>?_,fun b q hi=>hS.imm b q hi.1,fun i r h1=>?_⟩,hst.glob.mono hgx,⟨k1.env.1,fun t=>kv hS th.tok hvs t _ (k1.env.2 t)⟩,k1.dfr⟩,?_,hQ⟩
 ·obtain⟨x1,e1,e2,e3,e4⟩:=htd.alive th h1 h3
  obtain⟨x2,f1,f2,f3,f4⟩:=htd.alive th h2 h4
  exact hS.inj i j x1 x2 b e1 f1 e2 f2 ((e4 g' b).2 ((e3 g2 b).1 h5)) ((f4 g' b).2 ((f3 g2 b).1 h6))
 ·by_cases e1:i=o
  ·subst e1
   rw[htd.row] at h1; cases h1
   exact⟨⟨C,ty,hC,hintrel⟩,fun q hi=>hi.2 rfl⟩
  by_cases e2:i=p
  ·subst e2
   rw[htd.hold] at h1; cases h1
   exact⟨⟨Cp,typ,hCp,hholdrel⟩,fun q hi=>himp q hi.1⟩
  rcases htd.rest i _ e1 e2 h1 with h2|⟨h2,_⟩|⟨c1,c2,h2,h3,h4⟩
  ·cases h2
  ·cases h2
  ·cases h2
   obtain⟨⟨C1,ty1,f1,f2⟩,f3⟩:=hS.cells i c1 h3
   exact⟨⟨C1,ty1,f1,h4.to hS th.tok f2⟩,fun q hi=>f3 q hi.1⟩
 ·by_cases e1:i=o
  ·subst e1; rw[htd.row] at h1; cases h1
  by_cases e2:i=p
  ·subst e2; rw[htd.hold] at h1; cases h1
  rcases htd.rest i _ e1 e2 h1 with h2|⟨_,h3⟩|⟨c1,c2,h2,_,_⟩
  ·cases h2
  ·obtain⟨f1,f2⟩:=hS.tok i h3
   exact⟨f1,fun q hq hi=>f2 q hq hi.1⟩
  ·cases h2
 ·by_cases e1:i=o
  ·subst e1; rw[htd.row] at h1; cases h1
  by_cases e2:i=p
  ·subst e2; rw[htd.hold] at h1; cases h1
  rcases htd.rest i _ e1 e2 h1 with h2|⟨h2,_⟩|⟨c1,c2,h2,_,_⟩<;>cases h2
 ·exact⟨hgx,hX.size,fun b hb ho=>hX.ow b hb (hown b ho),hX.frame,hX.os,hX.tape,hX.output,fun b q hb hi=>hX.im b q hb hi.1⟩
theorem jc {P:Program} {gl:ai} (hgl:az gl) {f:FuncId} {rest:List PV} {H:aa} {q r:Nat} {R:Rep} {K:PV→aa→Prop} (V:PV→PV) (ho:cr H q r R) (hrest:∀ x∈rest,Low 0 x)
  (hV:∀(k k' off len cap:Nat),RA k k' (V (.arr k off len cap)) (V (.arr k' off len cap)))
  (h:af P gl f (.ptr 0 0::rest) [.cells [.ptr 1 0],.abs R] (fun x H'=>∃(k off len cap:Nat) (cs:List PV) (R':Rep) (G:aa),x=V (.arr k off len cap)∧H' = .cells [.ptr 1 0] :: .abs R'::G∧2≤k∧H'[k]?=some (.cells cs)∧(∀ x∈cs,Low 0 x)∧K (V (.arr H.length off len cap)) (H.set r (.abs R')++[.cells cs]))):af P gl f (.ptr q 0::rest) H K:=by
 have hq:=(List.getElem?_eq_some_iff.1 ho.1).1
 have hr:=(List.getElem?_eq_some_iff.1 ho.2).1
 have hne:q≠r:=fun e=>by have h1:=ho.1; rw[e,ho.2] at h1; cases h1
 have h1:af P gl f (.ptr 0 0::rest) [.cells [.ptr 1 0],.abs R] (fun x H'=>∃(off len cap:Nat) (cs:List PV) (R':Rep),x=V (.arr 2 off len cap)∧H'=[.cells [.ptr 1 0],.abs R',.cells cs]∧(∀ x∈cs,Low 0 x)∧K (V (.arr H.length off len cap)) (H.set r (.abs R')++[.cells cs])):=by
  refine bN hgl (aA h fun x H' e=>?_)
  obtain⟨o,off,len,cap,cs,R',G,rfl,rfl,ho2,hot,hcs,hk⟩:=e
  have hol:=(List.getElem?_eq_some_iff.1 hot).1
  let ρ:Nat→Nat:=fun k=>if k=2 then o else k
  refine⟨V (.arr 2 off len cap),[.cells [.ptr 1 0],.abs R',.cells cs],ρ,⟨fun k hk=>?_,fun a b ha hb e=>?_,fun k a hk=>?_⟩,by simp,fun k hk=>?_,(hV 2 o off len cap).ren (by simp) (by simp[ρ]),off,len,cap,cs,R',rfl,rfl,hcs,hk⟩
  ·simp at hk
   simp only[ρ]
   split
   ·exact hol
   ·simp at hol ⊢; omega
  ·simp at ha hb
   simp only[ρ] at e
   split at e<;>split at e<;>omega
  ·have k1:=(List.getElem?_eq_some_iff.1 hk).1
   simp at k1
   have:k=0∨k=1∨k=2:=by omega
   rcases this with rfl|rfl|rfl
   ·cases hk
    refine⟨_,rfl,.cells (.cons ?_ .nil)⟩
    have:=Ren.ptr (ρ:=ρ) (n:=3) 1 0 (by decide)
    exact this
   ·cases hk
    exact⟨_,rfl,.abs _⟩
   ·cases hk
    exact⟨.cells cs,hot,.cells (aJ.low hcs)⟩
  ·simp at hk
   simp only[ρ]; rw[if_neg (by omega)]
 refine aD hgl (fq ho) (.cons (.ptr (ρ:=fun o=>if o=0 then q else r) 0 0 (by simp)) (aJ.low hrest)) (aA h1 fun x H' e=>?_)
 obtain⟨off,len,cap,cs,R',rfl,rfl,hcs,hk⟩:=e
 let ρ:Nat→Nat:=aF (fun o=>if o=0 then q else r) 2 H.length
 have e0:ρ 0=q:=by simp[ρ,aF]
 have e1:ρ 1=r:=by simp[ρ,aF]
 have e2:ρ 2=H.length:=by simp[ρ,aF]
 refine⟨V (.arr H.length off len cap),H.set r (.abs R')++[.cells cs],⟨by simp,by simp,fun o a ho'=>?_,fun o hl hn=>?_⟩,(hV 2 H.length off len cap).ren (by simp) e2,hk⟩
 ·have k1:=(List.getElem?_eq_some_iff.1 ho').1
  simp at k1
  have:o=0∨o=1∨o=2:=by omega
  rcases this with rfl|rfl|rfl
  ·cases ho'
   refine⟨.cells [.ptr r 0],?_,.cells (.cons ?_ .nil),fun _=>rfl⟩
   ·show(H.set r _++[_])[ρ 0]?=_
    rw[e0,List.getElem?_append_left (by simpa using hq),List.getElem?_set_ne (Ne.symm hne)]; exact ho.1
   ·have:=Ren.ptr (ρ:=ρ) (n:=3) 1 0 (by decide)
    rw[e1] at this
    exact this
  ·cases ho'
   refine⟨.abs R',?_,.abs _,fun _=>rfl⟩
   show(H.set r _++[_])[ρ 1]?=_
   rw[e1,List.getElem?_append_left (by simpa using hr),List.getElem?_set_self hr]
  ·cases ho'
   refine⟨.cells cs,?_,.cells (aJ.low hcs),fun _=>rfl⟩
   show(H.set r _++[_])[ρ 2]?=_
   rw[e2]; simp
 ·rw[List.getElem?_append_left (by simpa using hl),List.getElem?_set_ne]
  have:=hn 1 (by simp)
  simpa using this
inductive Ld (H:aa):PV→PV→Prop where
 | low {x:PV} (h:Low 0 x):Ld H x x
 | any (x:PV):Ld H x .any
 | name (o off len cap:Nat) (h:o<H.length):Ld H (.arr o off len cap) (.arr o off len cap)
 | arr (o off cap sz:Nat) (A B:List PV) (es:List (List PV)) (ho:H[o]?=some (.cells (A++(es.flatten++B)))) (hA:A.length=off) (hu:uni sz es) (hl:es.length≤cap) (hlow:∀ x∈es.flatten,Low 0 x):Ld H (.arr o off es.length cap) (.list es .no)
 | agg (cs cs':List PV) (hl:cs.length=cs'.length) (h:∀(q:Nat) (x y:PV),cs[q]?=some x→cs'[q]?=some y→Ld H x y):Ld H (.agg cs) (.agg cs')
inductive LdL (H:aa):List PV→List PV→Prop where
 | nil:LdL H [] []
 | cons {x y:PV} {xs ys:List PV} (h:Ld H x y) (hs:LdL H xs ys):LdL H (x::xs) (y::ys)
theorem LdL.length {H:aa} {xs ys:List PV} (h:LdL H xs ys):xs.length=ys.length:=by
 induction h with
 | nil=>rfl
 | cons _ _ ih=>simp[ih]
theorem LdL.get {H:aa} {xs ys:List PV} (h:LdL H xs ys):∀(q:Nat) (x y:PV),xs[q]?=some x→ys[q]?=some y→Ld H x y:=by
 induction h with
 | nil=>intro q x y h; simp at h
 | cons h _ ih=>
  intro q x y h1 h2
  cases q with
  | zero=>simp at h1 h2; subst h1; subst h2; exact h
  | succ q=>exact ih q x y (by simpa using h1) (by simpa using h2)
def Gh.jl (g:Gh) (H:aa):Gh:=⟨H.length,g.bk,g.en,g.sz,fun b q=>g.imm b q∨∃ o cs,H[o]?=some (.cells cs)∧b=g.bk o,g.fp⟩
theorem iB {g:Gh} {H:aa} {w:World} {x:PV} {v:Value} (h:Rel g w x v) (hl:Low 0 x):Rel (g.jl H) w x v:=
 Rel.mono (g:=g.cutAt 0) (g':=g.jl H) (w:=w) (w':=w) ⟨Nat.zero_le _,fun _ h=>absurd h (Nat.not_lt_zero _),fun _ h=>absurd h (Nat.not_lt_zero _),fun _ h=>absurd h (Nat.not_lt_zero _),fun b q (h:g.imm b q)=>Or.inl h,fun _ _ _=>rfl⟩ (h.cutAt hl)
theorem Ld.to {H:aa} {x y:PV} (hr:Ld H x y) {g:Gh} {w:World} (hS:Sim g H w):∀ {v:Value},Rel g w x v→Rel (g.jl H) w y v:=by
 induction hr with
 | low h=>intro v hv; exact iB hv h
 | any x=>intro v _; exact .any v
 | name o off len cap h=>intro v hv; cases hv; exact .arr (g:=g.jl H) o off len cap h
 | arr o off cap sz A B es ho hA hu hl hlow=>
  intro v hv
  cases hv
  refine Rel.an.2 ⟨_,cap,rfl,dG hu,hl,trivial,.inr ⟨_,rfl,rfl,fun q x hq=>⟨.inr ⟨o,_,ho,rfl⟩,?_⟩⟩⟩
  obtain⟨⟨C,ty,e1,e2⟩,_⟩:=hS.cells o _ ho
  have hql:=(List.getElem?_eq_some_iff.1 hq).1
  have hx:(A++(es.flatten++B))[off+q]?=some x:=by
   rw[List.getElem?_append_right (by omega),show off+q-A.length=q by omega,List.getElem?_append_left hql]; exact hq
  obtain⟨c,h1,h2⟩:=e2.get hx
  refine⟨c,?_,iB h2 (hlow x (List.mem_iff_getElem?.2 ⟨q,hq⟩))⟩
  simp only[At]
  rw[aO e1,← Array.getElem?_toList]; exact h1
 | agg cs cs' hl _ ih=>
  intro v hv
  obtain⟨vs,rfl,h1⟩:=Rel.aP.1 hv
  refine Rel.aP.2 ⟨vs,rfl,by rw[← hl]; exact h1.1,fun q y u hy hu=>?_⟩
  have hq:q<cs.length:=by rw[hl]; exact(List.getElem?_eq_some_iff.1 hy).1
  exact ih q cs[q] y (List.getElem?_eq_getElem hq) hy (h1.2 q _ u (List.getElem?_eq_getElem hq) hu)
inductive Flat:PV→Prop where
 | int (k:IntKind) (n:Int):Flat (.int k n)
 | bool (b:Bool):Flat (.bool b)
theorem Flat.rel {x:PV} (h:Flat x) {g g':Gh} {w:World} {v:Value} (hv:Rel g w x v):Rel g' w x v:=by
 cases h with
 | int k n=>cases hv; exact .int _ _
 | bool b=>cases hv; exact .bool _
def gF (H:aa):aa:=H.map fun _=> .dead
theorem dx {H:aa} {o:Nat} {b:Ob} (h:(gF H)[o]?=some b):b = .dead:=by
 simp only[gF,List.getElem?_map] at h
 cases hx:H[o]? with
 | none=>rw[hx] at h; cases h
 | some a=>rw[hx] at h; cases h; rfl
theorem k9 {P:Program} {gl:ai} (hgl:az gl) {f:FuncId} {args args':List PV} {H:aa} {r:PV} (hr:Flat r) (hl:LdL H args args') (hp:af P gl f args' (gF H) (fun x H'=>x=r∧H'=gF H)):af P gl f args H (fun x H'=>x=r∧H'=H):=by
 intro g w vs hS hG hR
 have hS0:Sim (g.jl H) (gF H) w:=by
  refine⟨by simp[gF,Gh.jl],fun o o' ob ob' b h1 _ h3=>(by rw[dx h1] at h3; cases h3),fun o cs h1=>(by cases dx h1),fun o h1=>(by cases dx h1),?_,fun o r h1=>(by cases dx h1)⟩
  rintro b q (h1|⟨o,cs,h1,rfl⟩)
  ·exact hS.imm b q h1
  ·exact b9 hS ⟨o,_,h1,rfl,rfl⟩
 have hG0:bL (g.jl H) w gl:=fun k cs hk=>by
  refine⟨(hG k cs hk).1,fun q x hx=>?_⟩
  obtain⟨h1,c,h2,h3⟩:=(hG k cs hk).2 q x hx
  exact⟨.inl h1,c,h2,iB h3 (hgl k cs hk x (List.mem_iff_getElem?.2 ⟨q,hx⟩))⟩
 have hR0:aq (g.jl H) w args' vs.toList:=by
  refine⟨by rw[← hl.length]; exact hR.1,fun q y u hy hu=>?_⟩
  have hq:q<args.length:=by rw[hl.length]; exact(List.getElem?_eq_some_iff.1 hy).1
  exact(hl.get q args[q] y (List.getElem?_eq_getElem hq) hy).to hS (hR.2 q _ u (List.getElem?_eq_getElem hq) hu)
 refine(hp (g.jl H) w vs hS0 hG0 hR0).mono ?_
 rintro e w' ⟨v,g1,H1,x,rfl,hS1,hX,hv,rfl,rfl⟩
 have hno:∀ b,¬ own (g.jl H) (gF H) b:=by
  rintro b ⟨o,ob,h1,h2,_⟩; rw[dx h1] at h2; cases h2
 have hfr:∀ b,b<w.heap.size→w'.heap[b]?=w.heap[b]?:=fun b hb=>hX.frame b hb (hno b)
 have hgx:aQ g w g w':=⟨Nat.le_refl _,fun _ _=>rfl,fun _ _=>rfl,fun _ _=>rfl,fun _ _ h=>h,fun b q h=>hX.gx.cell b q (.inl h)⟩
 refine⟨v,g,H,_,rfl,⟨hS.n,hS.inj,fun o cs h1=>?_,fun o h1=>?_,fun b q h1=>Nat.lt_of_lt_of_le (hS.imm b q h1) hX.size,fun o r h1=>?_⟩,⟨hgx,hX.size,fun b _ h=>h,fun b hb _=>hfr b hb,hX.os,hX.tape,hX.output,fun b q _ h=> .inl h⟩,hr.rel hv,rfl,rfl⟩
 ·obtain⟨⟨C,ty,e1,e2⟩,e3⟩:=hS.cells o cs h1
  exact⟨⟨C,ty,(hfr _ (b9 hS ⟨o,_,h1,rfl,rfl⟩)).trans e1,e2.mono hgx⟩,e3⟩
 ·obtain⟨⟨C,ty,e1,e2⟩,e3⟩:=hS.tok o h1
  exact⟨⟨C,ty,(hfr _ (b9 hS ⟨o,_,h1,rfl,rfl⟩)).trans e1,e2⟩,e3⟩
 ·have h2:=(hS.abs o r h1).2.2
  exact hS.bR h1 hgx rfl (fun _=>Iff.rfl) (fun b hb=>hfr b (h2 b hb).1) (fun b q hb=>(h2 b hb).2 q) hX.size (fun b q h=>Nat.lt_of_lt_of_le (hS.imm b q h) hX.size)
inductive Fz (o off:Nat) (es:List (List PV)):PV→PV→Prop where
 | refl (x:PV):Fz o off es x x
 | any (x:PV):Fz o off es x .any
 | arr (cap:Nat) (h:es.length≤cap):Fz o off es (.arr o off es.length cap) (.list es .no)
 | exact:Fz o off es (.arr o off es.length es.length) (.list es .exact)
 | agg (cs cs':List PV) (hl:cs.length=cs'.length) (h:∀(q:Nat) (x y:PV),cs[q]?=some x→cs'[q]?=some y→Fz o off es x y):Fz o off es (.agg cs) (.agg cs')
 | tup (cs cs':List PV) (hl:cs.length=cs'.length) (h:∀(q:Nat) (x y:PV),cs[q]?=some x→cs'[q]?=some y→Fz o off es x y):Fz o off es (.tup cs) (.tup cs')
inductive FzL (o off:Nat) (es:List (List PV)):List PV→List PV→Prop where
 | nil:FzL o off es [] []
 | cons {x y:PV} {xs ys:List PV} (h:Fz o off es x y) (hs:FzL o off es xs ys):FzL o off es (x::xs) (y::ys)
theorem FzL.length {o off:Nat} {es:List (List PV)} {xs ys:List PV} (h:FzL o off es xs ys):xs.length=ys.length:=by
 induction h with
 | nil=>rfl
 | cons _ _ ih=>simp[ih]
theorem FzL.get {o off:Nat} {es:List (List PV)} {xs ys:List PV} (h:FzL o off es xs ys):∀(q:Nat) (x y:PV),xs[q]?=some x→ys[q]?=some y→Fz o off es x y:=by
 induction h with
 | nil=>intro q x y h; simp at h
 | cons h _ ih=>
  intro q x y h1 h2
  cases q with
  | zero=>simp at h1 h2; subst h1; subst h2; exact h
  | succ q=>exact ih q x y (by simpa using h1) (by simpa using h2)
theorem Fz.to {o off:Nat} {es:List (List PV)} {x y:PV} (hr:Fz o off es x y) {g g':Gh} {w:World} (hx:aQ g w g' w) {sz:Nat} (hu:uni sz es) (hi:aM g' w ⟨g.bk o,off,none⟩ es.flatten):∀ {v:Value},Rel g w x v→Rel g' w y v:=by
 induction hr with
 | refl x=>intro v hv; exact hv.mono hx
 | any x=>intro v _; exact .any v
 | arr cap hc=>
  intro v hv
  cases hv
  exact Rel.an.2 ⟨_,cap,rfl,dG hu,hc,trivial,.inr ⟨_,rfl,hi⟩⟩
 | exact=>
  intro v hv
  cases hv
  exact Rel.an.2 ⟨_,_,rfl,dG hu,Nat.le_refl _,rfl,.inr ⟨_,rfl,hi⟩⟩
 | agg cs cs' hl _ ih=>
  intro v hv
  obtain⟨vs,rfl,h1⟩:=Rel.aP.1 hv
  refine Rel.aP.2 ⟨vs,rfl,by rw[← hl]; exact h1.1,fun q y u hy hu=>?_⟩
  have hq:q<cs.length:=by rw[hl]; exact(List.getElem?_eq_some_iff.1 hy).1
  exact ih q cs[q] y (List.getElem?_eq_getElem hq) hy (h1.2 q _ u (List.getElem?_eq_getElem hq) hu)
 | tup cs cs' hl _ ih=>
  intro v hv
  obtain⟨vs,rfl,h1⟩:=Rel.bJ.1 hv
  refine Rel.bJ.2 ⟨vs,rfl,by rw[← hl]; exact h1.1,fun q y u hy hu=>?_⟩
  have hq:q<cs.length:=by rw[hl]; exact(List.getElem?_eq_some_iff.1 hy).1
  exact ih q cs[q] y (List.getElem?_eq_getElem hq) hy (h1.2 q _ u (List.getElem?_eq_getElem hq) hu)
theorem FzL.to {o off:Nat} {es:List (List PV)} {xs ys:List PV} (h:FzL o off es xs ys) {g g':Gh} {w:World} (hx:aQ g w g' w) {sz:Nat} (hu:uni sz es) (hi:aM g' w ⟨g.bk o,off,none⟩ es.flatten) {vs:List Value} (hr:aq g w xs vs):aq g' w ys vs:=by
 refine⟨by rw[← h.length]; exact hr.1,fun q y u hy hu'=>?_⟩
 have hq:q<xs.length:=by rw[h.length]; exact(List.getElem?_eq_some_iff.1 hy).1
 exact(h.get q xs[q] y (List.getElem?_eq_getElem hq) hy).to hx hu hi (hr.2 q _ u (List.getElem?_eq_getElem hq) hu')
def FzH (o off:Nat) (es:List (List PV)) (H H2:aa):Prop:=H2.length=H.length∧∀(i:Nat) (b:Ob),H2[i]?=some b→b = .dead∨(i≠o∧H[i]?=some b)∨∃ c c2,b = .cells c2∧i≠o∧H[i]?=some (.cells c)∧FzL o off es c c2
theorem lR {g:Gh} {w:World} {b:Nat} {A B:List PV} {cs:List PV} {off:Nat} (h:aM g w ⟨b,0,none⟩ (A++(cs++B))) (hA:A.length=off):aM g w ⟨b,off,none⟩ cs:=by
 refine⟨rfl,fun q x hq=>?_⟩
 have hql:=(List.getElem?_eq_some_iff.1 hq).1
 have hx:(A++(cs++B))[off+q]?=some x:=by
  rw[List.getElem?_append_right (by omega),show off+q-A.length=q by omega,List.getElem?_append_left hql]; exact hq
 obtain⟨h1,c,h2,h3⟩:=h.2 _ _ hx
 simp only[At,Nat.zero_add] at h1 h2 ⊢
 exact⟨h1,c,h2,h3⟩
theorem Sim.s5 {g:Gh} {H:aa} {w:World} (h:Sim g H w) {o off sz:Nat} {A B:List PV} {es:List (List PV)} (ho:H[o]?=some (.cells (A++(es.flatten++B)))) (hA:A.length=off) (hu:uni sz es) {H2:aa} (hH:FzH o off es H H2):
  ∃ g',Sim g' H2 w∧Ext g H w g' H2 w∧aQ g w g' w∧aM g' w ⟨g.bk o,off,none⟩ es.flatten:=by
 obtain⟨g',k1,k2,k3⟩:=h.freeze ho
 have hi:=lR k3 hA
 have get:∀ {i:Nat} {b:Ob},H2[i]?=some b→b.alive=true→(∃ a,(H.set o .dead)[i]?=some a∧a.alive=true∧H[i]?=some a∧∀ x,blk g' b i x↔blk g' a i x):=by
  intro i b h1 h2
  rcases hH.2 i b h1 with rfl|⟨hne,h3⟩|⟨c,c2,rfl,hne,h3,_⟩
  ·cases h2
  ·exact⟨b,by rw[List.getElem?_set_ne (Ne.symm hne)]; exact h3,h2,h3,fun _=>Iff.rfl⟩
  ·exact⟨_,by rw[List.getElem?_set_ne (Ne.symm hne)]; exact h3,rfl,h3,fun _=>Iff.rfl⟩
 refine⟨g',⟨?_,fun i j oi oj b h1 h2 h3 h4 h5 h6=>?_,fun i cs h1=>?_,fun i h1=>?_,k1.imm,fun i r h1=>?_⟩,⟨k2.gx,k2.size,fun b hb ho'=>?_,k2.frame,k2.os,k2.tape,k2.output,k2.im⟩,k2.gx,hi⟩
 ·rw[hH.1]; have:=k1.n; simpa using this
 ·obtain⟨a1,e1,e2,_,e3⟩:=get h1 h3
  obtain⟨a2,f1,f2,_,f3⟩:=get h2 h4
  exact k1.inj i j a1 a2 b e1 f1 e2 f2 ((e3 b).1 h5) ((f3 b).1 h6)
 ·rcases hH.2 i _ h1 with h2|⟨hne,h3⟩|⟨c,c2,h2,hne,h3,h4⟩
  ·cases h2
  ·exact k1.cells i cs (by rw[List.getElem?_set_ne (Ne.symm hne)]; exact h3)
  ·cases h2
   obtain⟨⟨C,ty,e1,e2⟩,_⟩:=h.cells i c h3
   obtain⟨⟨C',ty',e1',e2'⟩,e3⟩:=k1.cells i c (by rw[List.getElem?_set_ne (Ne.symm hne)]; exact h3)
   have hb:g'.bk i=g.bk i:=k2.gx.bk i (by rw[h.n]; exact(List.getElem?_eq_some_iff.1 h3).1)
   exact⟨⟨C,ty,by rw[hb]; exact e1,h4.to k2.gx hu hi e2⟩,e3⟩
 ·rcases hH.2 i _ h1 with h2|⟨hne,h3⟩|⟨c,c2,h2,_⟩
  ·cases h2
  ·exact k1.tok i (by rw[List.getElem?_set_ne (Ne.symm hne)]; exact h3)
  ·cases h2
 ·rcases hH.2 i _ h1 with h2|⟨hne,h3⟩|⟨c,c2,h2,_⟩
  ·cases h2
  ·exact k1.abs i r (by rw[List.getElem?_set_ne (Ne.symm hne)]; exact h3)
  ·cases h2
 ·obtain⟨i,ob,h1,h2,h3⟩:=ho'
  obtain⟨a,e1,e2,e3,e4⟩:=get h1 h2
  exact k2.ow b hb ⟨i,a,e1,e2,(e4 b).1 h3⟩
theorem ej {P:Program} {gl:ai} {f:FuncId} {args:List PV} {H:aa} {K:PV→aa→Prop}
  (h:af P gl f args H (fun x H'=>∃(o off sz:Nat) (A B:List PV) (es:List (List PV)) (y:PV) (H2:aa),H'[o]?=some (.cells (A++(es.flatten++B)))∧A.length=off∧uni sz es∧FzH o off es H' H2∧Fz o off es x y∧K y H2)):af P gl f args H K:=by
 intro g w vs hS hG hR
 refine(h g w vs hS hG hR).mono ?_
 rintro e w' ⟨v,g',H',x,rfl,hS',hX,hr,o,off,sz,A,B,es,y,H2,ho,hA,hu,hH,hf,hk⟩
 obtain⟨g2,k1,k2,k3,k4⟩:=hS'.s5 ho hA hu hH
 exact⟨v,g2,H2,y,rfl,k1,hX.trans k2,hf.to k3 hu k4 hr,hk⟩
structure ShutH (ρ:Nat→Nat) (hh:aa) (q:Nat) (I:aa→Prop) (H H2:aa):Prop where
 sub:Sub ρ hh H
 root:gS hh
 it:I hh
 notok:m7 hh
 zero:ρ 0=q
 len:H2.length=H.length
 at_:H2[q]?=some (.abs (whole I))
 off:∀(o:Nat) (b:Ob),o≠q→H2[o]?=some b→b.alive=true→H[o]?=some b∧∀ k,k<hh.length→ρ k≠o
inductive Nm (ρ:Nat→Nat) (n:Nat):PV→PV→Prop where
 | low {x:PV} (h:Low 0 x):Nm ρ n x x
 | arr (o off len cap:Nat) (h:o<n):Nm ρ n (.arr o off len cap) (.arr (ρ o) off len cap)
inductive NmL (ρ:Nat→Nat) (n:Nat):List PV→List PV→Prop where
 | nil:NmL ρ n [] []
 | cons {x y:PV} {xs ys:List PV} (h:Nm ρ n x y) (hs:NmL ρ n xs ys):NmL ρ n (x::xs) (y::ys)
def oP (q N:Nat):Nat→Nat:=fun k=>if k=0 then q else N+(k-1)
structure OpenH (q:Nat) (hh H H2:aa):Prop where
 len:H2.length=H.length+(hh.length-1)
 off:∀ o,o<H.length→o≠q→H2[o]?=H[o]?
 on:∀(k:Nat) (a:Ob),hh[k]?=some a→a = .dead∧H2[oP q H.length k]?=some .dead∨∃ cs cs',a = .cells cs∧H2[oP q H.length k]?=some (.cells cs')∧NmL (oP q H.length) hh.length cs cs'
theorem jL {ρ ρ':Nat→Nat} {n:Nat} (e:∀ k,k<n→ρ k=ρ' k) {x y:PV} (h:Ren ρ n x y):Ren ρ' n x y:=by
 induction h with
 | low h=>exact .low h
 | arr o off len cap h=>rw[e o h]; exact .arr _ _ _ _ h
 | ptr o off h=>rw[e o h]; exact .ptr _ _ h
 | ltok es o h hl=>rw[e o h]; exact .ltok _ _ h hl
 | fn f cs cs' hl _ ih=>exact .fn f cs cs' hl ih
 | agg cs cs' hl _ ih=>exact .agg cs cs' hl ih
 | tup cs cs' hl _ ih=>exact .tup cs cs' hl ih
def e8 (o N:Nat):Nat→Nat:=fun k=>if k=0 then o else N
theorem iT {P:Program} {gl:ai} (hgl:az gl) {f:FuncId} {args0 args cs:List PV} {H:aa} {o:Nat} {K:PV→aa→Prop} (hc:fe H o cs) (hcs:∀ x∈cs,Low 0 x) (ha:aJ (fun _=>o) 1 args0 args)
  (h:af P gl f args0 [.cells cs] (fun x X'=>(∃ cs' x',X'=[.cells cs']∧(∀ x∈cs',Low 0 x)∧Ren (e8 o H.length) 1 x x'∧K x' (H.set o (.cells cs')))∨
   (∃ cs' cs2 x',X'=[.cells cs',.cells cs2]∧(∀ x∈cs',Low 0 x)∧(∀ x∈cs2,Low 0 x)∧Ren (e8 o H.length) 2 x x'∧K x' (H.set o (.cells cs')++[.cells cs2])))):af P gl f args H K:=by
 have hol:=(List.getElem?_eq_some_iff.1 hc).1
 have hsub:Sub (fun _=>o) [.cells cs] H:=by
  refine⟨fun _ _=>hol,fun a b h1 h2 _=>by simp at h1 h2; omega,fun j a hj=>?_⟩
  have e1:=(List.getElem?_eq_some_iff.1 hj).1
  have:j=0:=by simpa using e1
  subst this; cases hj
  exact⟨_,hc,.cells (aJ.low hcs)⟩
 have e:∀ n,n≤2→∀ k,k<n→e8 o H.length k=aF (fun _=>o) [Ob.cells cs].length H.length k:=by
  intro n hn k hk
  unfold aF e8
  by_cases c:k=0
  ·subst c; simp
  ·rw[if_neg c,if_neg (by simp; omega)]
   have:k=1:=by omega
   subst this; simp
 refine aD hgl hsub ha (aA h fun x X' hh=>?_)
 rcases hh with⟨cs',x',rfl,h1,h2,h3⟩|⟨cs',cs2,x',rfl,h1,h2,h3,h4⟩
 ·refine⟨x',H.set o (.cells cs'),⟨Nat.le_refl _,by simp,fun j a hj=>?_,fun o' h5 h6=>?_⟩,jL (e 1 (by decide)) h2,h3⟩
  ·have e1:=(List.getElem?_eq_some_iff.1 hj).1
   have:j=0:=by simpa using e1
   subst this; cases hj
   exact⟨.cells cs',by rw[← e 1 (by decide) 0 (by decide)]; simp[e8,hol],.cells (aJ.low h1),fun _=>rfl⟩
  ·have:=h6 0 (by simp)
   rw[List.getElem?_set_ne this]
 ·refine⟨x',H.set o (.cells cs')++[.cells cs2],⟨by simp,by simp,fun j a hj=>?_,fun o' h5 h6=>?_⟩,jL (e 2 (by decide)) h3,h4⟩
  ·have e1:=(List.getElem?_eq_some_iff.1 hj).1
   simp at e1
   have:j=0∨j=1:=by omega
   rcases this with rfl|rfl
   ·cases hj
    exact⟨.cells cs',by rw[← e 2 (by decide) 0 (by decide),List.getElem?_append_left (by simp[e8,hol])]; simp[e8,hol],.cells (aJ.low h1),fun _=>rfl⟩
   ·cases hj
    exact⟨.cells cs2,by rw[← e 2 (by decide) 1 (by decide),List.getElem?_append_right (by simp[e8])]; simp[e8],.cells (aJ.low h2),fun _=>rfl⟩
  ·have:=h6 0 (by simp)
   rw[List.getElem?_append_left (by simpa using h5),List.getElem?_set_ne this]
structure Shape (N:Nat) (V:Nat→PV) (G:Nat→aa):Prop where
 len:∀ b,(G b).length=N
 v:∀(ρ:Nat→Nat) (n b b':Nat),b+N≤n→(∀ k,k<N→ρ (b+k)=b'+k)→Ren ρ n (V b) (V b')
 g:∀(ρ:Nat→Nat) (n b b':Nat),b+N≤n→(∀ k,k<N→ρ (b+k)=b'+k)→∀(k:Nat) (a:Ob),(G b)[k]?=some a→∃ a',(G b')[k]?=some a'∧cW ρ n a a'∧(a'.alive=true→a.alive=true)
def gk (q a t:Nat):Nat→Nat:=fun o=>if o=0 then q else if o=1 then a else t
inductive SrT (o:Nat) (H:aa) (k:IntKind) (ns:List Int) (off cap t0:Nat):List Nat→List PV→List PV→Prop where
 | here {ts:List Nat} {xs ys:List PV} (hs:SfL o H xs ys):SrT o H k ns off cap t0 (t0::ts) (.list (en1 k ns) (.tok o)::xs) (.arr o off ns.length cap::ys)
 | cons {t:Nat} {ts:List Nat} {x y:PV} {xs ys:List PV} (h:Sf o H x y) (hs:SrT o H k ns off cap t0 ts xs ys):SrT o H k ns off cap t0 (t::ts) (x::xs) (y::ys)
theorem sy {o off cap t0:Nat} {k:IntKind} {ns:List Int} {H:aa} {g:Gh} {w:World} (hS:Sim g H w) (ho:H[o]?=some .tok) {ts:List Nat} {vs vs2:List PV} (h:SrT o H k ns off cap t0 ts vs vs2):
  ∀ t v,Rel g w (aj ts vs t) v→(t=t0∧aj ts vs2 t = .arr o off ns.length cap)∨Rel (g.less (g.bk o)) w (aj ts vs2 t) v:=by
 induction h with
 | here hs=>
  intro t v hr
  simp only[aj] at hr ⊢
  cases hk:t == t0 with
  | true=>exact .inl ⟨by simpa using hk,rfl⟩
  | false=>rw[hk] at hr; exact .inr (kv hS ho hs t v hr)
 | @cons t1 ts x y xs ys h hs ih=>
  intro t v hr
  simp only[aj] at hr ⊢
  cases hk:t == t1 with
  | true=>rw[hk] at hr; exact .inr (h.to hS ho hr)
  | false=>rw[hk] at hr; exact ih t v hr
structure kn (o:Nat) (H' H2:aa) (C:List PV):Prop where
 len:H2.length=H'.length
 row:H2[o]?=some (.cells C)
 rest:∀(i:Nat) (b:Ob),i≠o→H2[i]?=some b→b = .dead∨(b = .tok∧H'[i]?=some .tok)∨∃ c c2,b = .cells c2∧H'[i]?=some (.cells c)∧SfL o H' c c2
theorem kn.alive {o:Nat} {H' H2:aa} {C:List PV} (h:kn o H' H2 C) (ht:H'[o]?=some .tok) {i:Nat} {b:Ob} (hb:H2[i]?=some b) (ha:b.alive=true):
  ∃ a,H'[i]?=some a∧a.alive=true∧(∀ g:Gh,∀ x,blk g b i x↔g.bk i=x)∧(∀ g:Gh,∀ x,blk g a i x↔g.bk i=x):=by
 by_cases e1:i=o
 ·subst e1
  rw[h.row] at hb; cases hb
  exact⟨_,ht,rfl,fun _ _=>Iff.rfl,fun _ _=>Iff.rfl⟩
 rcases h.rest i b e1 hb with rfl|⟨rfl,k1⟩|⟨c,c2,rfl,k1,_⟩
 ·cases ha
 ·exact⟨_,k1,rfl,fun _ _=>Iff.rfl,fun _ _=>Iff.rfl⟩
 ·exact⟨_,k1,rfl,fun _ _=>Iff.rfl,fun _ _=>Iff.rfl⟩
theorem AW.vw [Dfr] {P:Program} {gl:ai} {n:Nat} {c:Code} {Q:Ex→Env→aa→Prop} {e:Env} {H:aa} (slots:List Nat)
  (hH:∀(o:Nat) (r:Rep),H[o]?≠some (.abs r))
  (h:AW P gl n c (fun ex e' H'=>∃(o t0:Nat) (k:IntKind) (ns:List Int),ns≠[]∧H'[o]?=some .tok∧e' t0 = .list (en1 k ns) (.tok o)∧H.length≤o∧(∀ q,q<H.length→∃ cs,H'[q]?=some (.cells cs))∧
   ∀(off cap:Nat) (A B:List PV),(∀ x∈A,x = .any)→(∀ x∈B,x = .any)→A.length=off→ns.length≤cap→∃ vs H2,SrT o H' k ns off cap t0 slots (slots.map e') vs∧kn o H' H2 (A++(ns.map (PV.int k)++B))∧Q ex (aj slots vs) H2) e H):AW P gl n c Q e H:=by
 intro hd g a w hst
 refine wp_mono (h hd g a w hst) ?_
 rintro ex a' w' ⟨ex',g',e',H',k0,k1o,hX,o,t0,k,ns,hnn,htok,het,hlo,hkeep,hk⟩
 have k1:=k1o.weaken (cf e' slots)
 have hS:=k1.sim
 have fresh:w.heap.size≤g'.bk o:=by
  refine Nat.le_of_not_lt fun hlt=>?_
  obtain⟨q,ob,h1,h2,h3⟩:=hX.ow _ hlt ⟨o,.tok,htok,rfl,rfl⟩
  have hq:q<H.length:=(List.getElem?_eq_some_iff.1 h1).1
  obtain⟨cs,h4⟩:=hkeep q hq
  have h5:g.bk q=g'.bk o:=by
   cases ob with
   | abs r=>exact absurd h1 (hH q r)
   | cells _=>exact h3
   | tok=>exact h3
   | dead=>exact h3
  have h6:=hX.gx.bk q (by rw[hst.sim.n]; exact hq)
  have:=hS.inj q o _ _ (g'.bk o) h4 htok rfl rfl (h6.trans h5) rfl
  omega
 obtain⟨⟨C,ty,hC,hsz⟩,himm⟩:=hS.tok o htok
 have hvr:=k1o.env.2 t0
 rw[het] at hvr
 obtain⟨ad,cap,hval,_,hcap,⟨_,A,s,rfl,hspot,hblk,hen,_,hfl,hle⟩,hrow⟩:=Rel.an.1 hvr
 have hl1:(en1 k ns).flatten.length=ns.length:=by rw[dk,List.length_map]
 rw[bE] at hcap hfl
 rw[hl1] at hen hfl
 have hnp:0<ns.length:=List.length_pos_iff.2 hnn
 have hs1:s=1:=by
  have:=Nat.eq_of_mul_eq_mul_left hnp (show ns.length*s=ns.length*1 by omega)
  exact this
 subst hs1
 have hrow':aM g' w' A (en1 k ns).flatten:=by
  rcases hrow with h0|⟨A',e1,h0⟩
  ·rw[h0] at hl1; simp at hl1; omega
  ·cases e1; exact h0
 have hcell:∀ q,q<ns.length→∃ m,ns[q]?=some m∧C[A.off+q]?=some (.int k m):=by
  intro q hq
  have h1:(en1 k ns).flatten[q]?=some (.int k ns[q]):=by rw[dk,List.getElem?_map,List.getElem?_eq_getElem hq]; rfl
  obtain⟨_,cv,h2,h3⟩:=hrow'.2 q _ h1
  cases h3
  refine⟨ns[q],List.getElem?_eq_getElem hq,?_⟩
  have:w'.cell? (At A q)=C[A.off+q]?:=by
   unfold At
   rw[hblk]
   exact aO hC _
  rw[← this]; exact h2
 obtain⟨vs,H2,hvs,htd,hQ⟩:=hk A.off cap (List.replicate A.off .any) (List.replicate (C.size-A.off-ns.length) .any) (fun x hx=>(List.mem_replicate.1 hx).2) (fun x hx=>(List.mem_replicate.1 hx).2) List.length_replicate hcap
 have hbound:A.off+cap≤C.size:=by rw[hsz]; omega
 let g2:Gh:=g'.less (g'.bk o)
 have hgx:aQ g w g2 w':=⟨hX.gx.n,hX.gx.bk,hX.gx.en,hX.gx.sz,fun b q hi=>⟨hX.gx.imm b q hi,fun e=>by have:=hst.sim.imm b q hi; omega⟩,hX.gx.cell⟩
 have hown:∀ b,own g2 H2 b→own g' H' b:=by
  rintro b ⟨i,ob,h1,h2,h3⟩
  obtain⟨x,k2,k3,k4,k5⟩:=htd.alive htok h1 h2
  exact⟨i,x,k2,k3,(k5 g' b).2 ((k4 g2 b).1 h3)⟩
 have hintrel:aq g2 w' (List.replicate A.off .any++(ns.map (PV.int k)++List.replicate (C.size-A.off-ns.length) .any)) C.toList:=by
  refine⟨by simp; omega,fun q x v hx hv=>?_⟩
  by_cases c1:q<A.off
  ·rw[List.getElem?_append_left (by simpa using c1),List.getElem?_replicate,if_pos c1] at hx
   cases hx; exact .any v
  ·rw[List.getElem?_append_right (by simp; omega),List.length_replicate] at hx
   by_cases c2:q-A.off<ns.length
   ·rw[List.getElem?_append_left (by simpa using c2),List.getElem?_map] at hx
    obtain⟨m,h1,h2⟩:=hcell (q-A.off) c2
    rw[h1] at hx
    cases hx
    rw[show A.off+(q-A.off)=q by omega] at h2
    rw[Array.getElem?_toList,h2] at hv
    cases hv
    exact .int _ _
   ·rw[List.getElem?_append_right (by simp; omega),List.getElem?_replicate] at hx
    split at hx
    ·cases hx; exact .any v
    ·cases hx
 refine⟨ex',g2,aj slots vs,H2,k0,⟨⟨by rw[htd.len]; exact hS.n,fun i j oi oj b h1 h2 h3 h4 h5 h6=>?_,fun i cs h1=>?_,fun i h1=>?_,fun b q hi=>hS.imm b q hi.1,fun i r h1=>?_⟩,hst.glob.mono hgx,⟨k1.env.1,fun t=>?_⟩,k1.dfr⟩,?_,hQ⟩
 ·obtain⟨x1,e1,e2,e3,e4⟩:=htd.alive htok h1 h3
  obtain⟨x2,f1,f2,f3,f4⟩:=htd.alive htok h2 h4
  exact hS.inj i j x1 x2 b e1 f1 e2 f2 ((e4 g' b).2 ((e3 g2 b).1 h5)) ((f4 g' b).2 ((f3 g2 b).1 h6))
 ·by_cases e1:i=o
  ·subst e1
   rw[htd.row] at h1; cases h1
   exact⟨⟨C,ty,hC,hintrel⟩,fun q hi=>hi.2 rfl⟩
  rcases htd.rest i _ e1 h1 with h2|⟨h2,_⟩|⟨c1,c2,h2,h3,h4⟩
  ·cases h2
  ·cases h2
  ·cases h2
   obtain⟨⟨C1,ty1,f1,f2⟩,f3⟩:=hS.cells i c1 h3
   exact⟨⟨C1,ty1,f1,h4.to hS htok f2⟩,fun q hi=>f3 q hi.1⟩
 ·by_cases e1:i=o
  ·subst e1; rw[htd.row] at h1; cases h1
  rcases htd.rest i _ e1 h1 with h2|⟨_,h3⟩|⟨c1,c2,h2,_,_⟩
  ·cases h2
  ·obtain⟨f1,f2⟩:=hS.tok i h3
   exact⟨f1,fun q hq hi=>f2 q hq hi.1⟩
  ·cases h2
 ·by_cases e1:i=o
  ·subst e1; rw[htd.row] at h1; cases h1
  rcases htd.rest i _ e1 h1 with h2|⟨h2,_⟩|⟨c1,c2,h2,_,_⟩<;>cases h2
 ·rcases sy hS htok hvs t _ (k1.env.2 t) with⟨rfl,h2⟩|h2
  ·rw[h2,hval,bE]
   have hA:A=⟨g2.bk o,A.off,none⟩:=by
    obtain⟨ab,ao,asp⟩:=A
    simp only at hspot hblk
    subst hspot; subst hblk; rfl
   have:=Rel.arr (g:=g2) (w:=w') o A.off ns.length cap (by rw[show g2.n=H'.length from hS.n]; exact(List.getElem?_eq_some_iff.1 htok).1)
   rw[← hA] at this
   exact this
  ·exact h2
 ·exact⟨hgx,hX.size,fun b hb ho=>hX.ow b hb (hown b ho),hX.frame,hX.os,hX.tape,hX.output,fun b q hb hi=>hX.im b q hb hi.1⟩
theorem sM {P:Program} {gl:ai} (hgl:az gl) {f:FuncId} {args args':List PV} {K:PV→aa→Prop} {H:aa} (V:PV→PV) (hw:WkL args args') (ha:∀ x∈args',Low 0 x) (hV:∀(k k' off len cap:Nat),RA k k' (V (.arr k off len cap)) (V (.arr k' off len cap)))
  (h:af P gl f args' [] (fun x H'=>∃(k off len cap:Nat) (cs:List PV),x=V (.arr k off len cap)∧H'[k]?=some (.cells cs)∧(∀ x∈cs,Low 0 x)∧K (V (.arr H.length off len cap)) (H++[.cells cs]))):af P gl f args H K:=by
 refine bV hw (aD hgl (X:=[]) (ρ:=fun o=>o) ⟨fun o ho=>absurd ho (Nat.not_lt_zero _),fun o _ ho=>absurd ho (Nat.not_lt_zero _),fun o a ho=>by simp at ho⟩ (aJ.low ha) (bN hgl (aA h fun x H' e=>?_)))
 obtain⟨k,off,len,cap,cs,rfl,ho,hcs,hk⟩:=e
 have hol:=(List.getElem?_eq_some_iff.1 ho).1
 refine⟨V (.arr 0 off len cap),[.cells cs],fun _=>k,⟨fun _ _=>hol,fun a b h1 h2 _=>by simp at h1 h2; omega,fun a ob h1=>?_⟩,Nat.zero_le _,fun a ha=>absurd ha (Nat.not_lt_zero _),?_,?_⟩
 ·have k1:=(List.getElem?_eq_some_iff.1 h1).1
  simp at k1
  subst k1
  cases h1
  exact⟨.cells cs,ho,.cells (aJ.low hcs)⟩
 ·exact(hV 0 k off len cap).ren (by simp) rfl
 ·refine⟨V (.arr H.length off len cap),H++[.cells cs],⟨Nat.zero_le _,by simp,fun a ob h1=>?_,fun a h1 _=>?_⟩,?_,hk⟩
  ·have k1:=(List.getElem?_eq_some_iff.1 h1).1
   simp at k1
   subst k1
   cases h1
   exact⟨.cells cs,by simp[aF],.cells (aJ.low hcs),fun h=>h⟩
  ·rw[List.getElem?_append_left h1]
  ·exact(hV 0 H.length off len cap).ren (by simp) (by simp[aF])
end Go.AM
