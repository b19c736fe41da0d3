/-
  An abstract machine over values without memory, proved against the model; part 39. A tool for the proofs of this claim; it states nothing of the program.
-/
import Derived.Test.YtmcincfonnfblaaA38
/-! AM, part 39: a region whose order is drawn, held against an order of one's own; two such orders, where two operations do not go past one another. -/
namespace Go.AM
open Go

/-- the order of a row that has been drawn, held against a rank -/
def RespK (rk : Nat → Nat) (ops : Array Oper) (hn : Oper → Nat) (i j : Nat) : Prop := rk j < rk i → ∀ oj oi, ops[j]? = some oj → ops[i]? = some oi → indep ops hn oj oi = true

theorem perm_chain2 {P : Program} {gl : Glob} {hn : Oper → Nat} {ops : Array Oper} (rk : Nat → Nat) : ∀ (σ L : List Nat) (e : Env) (H : Heap) (e2 : Env) (H2 : Heap),
    L.Pairwise (fun a b => rk a < rk b) → σ.Perm L → σ.Pairwise (RespK rk ops hn) → Chain P gl hn ops L e H e2 H2 → Chain P gl hn ops σ e H e2 H2 := by
  intro σ
  induction σ with
  | nil =>
    intro L e H e2 H2 _ hp _ h
    have : L = [] := List.Perm.eq_nil hp.symm
    subst this; exact h
  | cons i σ ih =>
    intro L e H e2 H2 hL hp hR h
    have hi : i ∈ L := hp.subset (by simp)
    obtain ⟨A, B, rfl⟩ := List.append_of_mem hi
    have hb := bubble A e H e2 H2 (fun k hk ok oi h1 h2 => by
      have hlt : rk k < rk i := (List.pairwise_append.1 hL).2.2 k hk i (by simp)
      have hkσ : k ∈ σ := by
        have : k ∈ i :: σ := hp.symm.subset (by simp [hk])
        rcases List.mem_cons.1 this with e | h
        · subst e; omega
        · exact h
      exact (List.pairwise_cons.1 hR).1 k hkσ hlt ok oi h1 h2) h
    cases hb with
    | cons ho h1 hs =>
      refine .cons ho h1 (ih (A ++ B) _ _ _ _ ?_ ?_ (List.pairwise_cons.1 hR).2 hs)
      · exact hL.sublist (by simp)
      · exact (List.perm_cons i).1 (hp.trans (List.perm_middle))

/-- what is asked of the edges -/
def okEdges (ops : Array Oper) : Bool :=
  backEdges ops && rankB .any ops (ranks .any ops) && (!Region.departs ops || rankB .text ops (ranks .text ops)) && (!Region.departs ops || rankB .gc ops (ranks .gc ops))

/-- each two that hang together stand as the rank says, but for 'y' ahead of 'x' -/
def okRank (ops : Array Oper) (hn : Oper → Nat) (rk : Nat → Nat) (x y : Nat) : Bool :=
  let anc := ancB ops.toList
  (List.range ops.size).all fun i => (List.range ops.size).all fun j => !Nat.blt (rk j) (rk i) || (match ops[j]?, ops[i]? with
    | some oj, some oi => indep ops hn oj oi || (anc.getD i []).contains j || (i == y && j == x)
    | _, _ => true)

/-- does 'y' stand ahead of 'x'? -/
def ahead (l : List Nat) (y x : Nat) : Prop := ∃ p q : Nat, p < q ∧ l[p]? = some y ∧ l[q]? = some x

theorem schedule_rank {ops : Array Oper} {hn : Oper → Nat} (h : okEdges ops = true) (mixed : Bool) (t : Nat) :
    (Region.schedule mixed ops t).Perm (List.range ops.size) ∧ ∀ rk x y, okRank ops hn rk x y = true → ¬ ahead (Region.schedule mixed ops t) y x → (Region.schedule mixed ops t).Pairwise (RespK rk ops hn) := by
  simp only [okEdges, Bool.and_eq_true] at h
  obtain ⟨⟨⟨hb, hra⟩, hrt⟩, hrg⟩ := h
  have main : ∀ md t, rankB md ops (ranks md ops) = true → (Region.linearise md ops t).Perm (List.range ops.size) ∧ ∀ rk x y, okRank ops hn rk x y = true → ¬ ahead (Region.linearise md ops t) y x → (Region.linearise md ops t).Pairwise (RespK rk ops hn) := by
    intro md t hrk
    unfold Region.linearise
    obtain ⟨k1, k2, k3, k4⟩ := lin_go (md := md) hrk ops.size t (Array.replicate ops.size false) [] (by simp) (fun i hi => by simp [Array.getD, hi]) (by simp) (by simp) (fun p i o hp => by simp at hp) (by simp)
    generalize Region.linearise.go md ops ops.size t (Array.replicate ops.size false) [] = l at k1 k2 k3 k4
    refine ⟨?_, ?_⟩
    · refine (List.perm_ext_iff_of_nodup k1 List.nodup_range).2 fun a => ⟨fun ha => by simpa using k2 a ha, fun ha => ?_⟩
      rcases Classical.em (a ∈ l) with h | h
      · exact h
      · exfalso
        have h1 : (a :: l).Nodup := List.nodup_cons.2 ⟨h, k1⟩
        have h2 : (a :: l) ⊆ List.range ops.size := by
          intro x hx
          rcases List.mem_cons.1 hx with rfl | hx
          · exact ha
          · simpa using k2 x hx
        have := List.Nodup.length_le_of_subset h1 h2
        simp at this
        omega
    · intro rk x y hd hah
      rw [List.pairwise_iff_getElem]
      intro p q hp hq hpq hlt oj oi hoj hoi
      have hiq := k2 _ (List.getElem_mem hp)
      have hjq := k2 _ (List.getElem_mem hq)
      have hc := List.all_eq_true.1 hd (l[p]) (by simpa using hiq)
      have hc := List.all_eq_true.1 hc (l[q]) (by simpa using hjq)
      rw [hoj, hoi] at hc
      have hbl : Nat.blt (rk l[q]) (rk l[p]) = true := by rw [Nat.blt_eq]; exact hlt
      rw [hbl] at hc
      simp only [Bool.not_true, Bool.false_or, Bool.or_eq_true, Bool.and_eq_true, beq_iff_eq] at hc
      rcases hc with (hc | hc) | ⟨e1, e2⟩
      · exact hc
      · exfalso
        have := closed_anc hb k3 k2 p l[p] (List.getElem?_eq_getElem hp) l[q] (by simpa using hc)
        obtain ⟨r, hr⟩ := List.mem_iff_getElem?.1 this
        have hrp : r < p := by
          have := (List.getElem?_eq_some_iff.1 hr).1
          simp at this; omega
        rw [List.getElem?_take, if_pos hrp] at hr
        have hrl : r < l.length := by omega
        rw [List.getElem?_eq_getElem hrl] at hr
        have := (List.getElem_inj k1).1 (Option.some.inj hr)
        omega
      · exact absurd ⟨p, q, hpq, by rw [List.getElem?_eq_getElem hp, e1], by rw [List.getElem?_eq_getElem hq, e2]⟩ hah
  unfold Region.schedule
  split
  · exact main _ _ hra
  · rename_i hdep
    have hdp : Region.departs ops = true := by
      revert hdep
      cases mixed <;> cases Region.departs ops <;> simp
    rw [hdp] at hrt hrg
    simp only [Bool.not_true, Bool.false_or] at hrt hrg
    split
    · exact main _ _ hrt
    · exact main _ _ hrg

/-- operations, in an order of one's own -/
def inOrder (ops : Array Oper) (is : List Nat) : List Oper := is.filterMap fun i => ops[i]?

theorem inOrder_map {ops : Array Oper} : ∀ {is : List Nat}, (∀ i ∈ is, i < ops.size) → is.map (fun i => ops[i]?) = (inOrder ops is).map some
  | [], _ => rfl
  | i :: is, h => by
    have h0 := h i (by simp)
    have ih := inOrder_map (is := is) fun j hj => h j (by simp [hj])
    unfold inOrder at ih ⊢
    rw [List.map_cons, ih, List.filterMap_cons]
    simp [Array.getElem?_eq_getElem h0]

theorem aw_region_draw2 {P : Program} {gl : Glob} {n : Nat} {id : Nat} {ops : Array Oper} {Q : Ex → Env → Heap → Prop} {e : Env} {H : Heap} (hn : Oper → Nat) (x y : Nat) (is js : List Nat) (ri rj : Nat → Nat)
    (he : okEdges ops = true) (hcl : (ops.toList.all fun o => (cl (hn o) o.op).isSome) = true) (pi : is.Perm (List.range ops.size)) (pj : js.Perm (List.range ops.size))
    (si : is.Pairwise (fun a b => ri a < ri b)) (sj : js.Pairwise (fun a b => rj a < rj b)) (oi : okRank ops hn ri x y = true) (oj : okRank ops hn rj y x = true)
    (hi : regd P gl hn ops (inOrder ops is) e H (Q .normal)) (hj : regd P gl hn ops (inOrder ops js) e H (Q .normal)) :
    AW P gl n (.region id ops true) Q e H := by
  intro hd g a w hst
  have hcl : ∀ o ∈ ops.toList, (cl (hn o) o.op).isSome = true := List.all_eq_true.1 hcl
  have mi : ∀ i ∈ is, i < ops.size := fun i hi => by simpa using pi.subset hi
  have mj : ∀ i ∈ js, i < ops.size := fun i hi => by simpa using pj.subset hi
  refine wp_region_draw fun t => ?_
  have hst' : St gl n g e H a w.drew := ⟨hst.sim.drew, hst.glob.mono (Gext.drew g w), hst.env.mono (Gext.drew g w), hst.dfr⟩
  obtain ⟨hp, hr⟩ := schedule_rank (hn := hn) he (P.follows .mixedOrders) t
  by_cases hah : ahead (Region.schedule (P.follows .mixedOrders) ops t) y x
  · have hno : ¬ ahead (Region.schedule (P.follows .mixedOrders) ops t) x y := by
      rintro ⟨p, q, hpq, h1, h2⟩
      obtain ⟨p', q', hpq', h1', h2'⟩ := hah
      have nd : (Region.schedule (P.follows .mixedOrders) ops t).Nodup := hp.nodup_iff.2 List.nodup_range
      have e1 : p = q' := by
        have a1 := (List.getElem?_eq_some_iff.1 h1); have a2 := (List.getElem?_eq_some_iff.1 h2')
        exact (List.getElem_inj nd).1 (a1.2.trans a2.2.symm)
      have e2 : q = p' := by
        have a1 := (List.getElem?_eq_some_iff.1 h2); have a2 := (List.getElem?_eq_some_iff.1 h1')
        exact (List.getElem_inj nd).1 (a1.2.trans a2.2.symm)
      omega
    obtain ⟨e2, H2, hch, hq⟩ := regd_chain hcl js _ e H (inOrder_map mj) hj
    have hch' := perm_chain2 rj _ js _ _ _ _ sj (hp.trans pj.symm) (hr rj y x oj hno) hch
    refine wpOps_mono _ ?_ _ _ (chain_sound hd _ g e H a w.drew hst' hch')
    rintro ex a' w' ⟨g', rfl, k1, k2⟩
    exact ⟨.normal, g', e2, H2, trivial, k1, (Ext.drew g H w).trans k2, hq⟩
  · obtain ⟨e2, H2, hch, hq⟩ := regd_chain hcl is _ e H (inOrder_map mi) hi
    have hch' := perm_chain2 ri _ is _ _ _ _ si (hp.trans pi.symm) (hr ri x y oi hah) hch
    refine wpOps_mono _ ?_ _ _ (chain_sound hd _ g e H a w.drew hst' hch')
    rintro ex a' w' ⟨g', rfl, k1, k2⟩
    exact ⟨.normal, g', e2, H2, trivial, k1, (Ext.drew g H w).trans k2, hq⟩

#print axioms aw_region_draw2
end Go.AM
