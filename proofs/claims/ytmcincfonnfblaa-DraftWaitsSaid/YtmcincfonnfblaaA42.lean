/-
  An abstract machine over values without memory, proved against the model; part 42. A tool for the proofs of this claim; it states nothing of the program.
-/
import Derived.Test.YtmcincfonnfblaaA41
/-! AM, part 42: behind a piece of code objects get other names, some are let go, what is known of them is weakened; a drawn region in a family of orders. -/
namespace Go.AM
open Go

inductive WkO : Ob → Ob → Prop where
  | refl (x : Ob) : WkO x x
  | cells {cs cs' : List PV} (h : WkL cs cs') : WkO (.cells cs) (.cells cs')

structure WkH (H H1 : Heap) : Prop where
  len : H1.length = H.length
  ob : ∀ (o : Nat) (b : Ob), H1[o]? = some b → ∃ a, H[o]? = some a ∧ WkO a b

theorem WkH.refl (H : Heap) : WkH H H := ⟨rfl, fun _ b h => ⟨b, h, .refl b⟩⟩

theorem WkO.alive {a b : Ob} (h : WkO a b) (hb : b.alive = true) : a.alive = true := by cases h <;> first | exact hb | rfl
theorem WkO.blk {a b : Ob} (h : WkO a b) (g : Gh) (o k : Nat) : blk g b o k ↔ blk g a o k := by cases h <;> exact Iff.rfl

theorem WkH.sim {H H1 : Heap} (h : WkH H H1) {g : Gh} {w : World} (hS : Sim g H w) : Sim g H1 w := by
  refine ⟨by rw [h.len]; exact hS.n, fun o o' a a' k h1 h2 h3 h4 h5 h6 => ?_, fun o cs h1 => ?_, fun o h1 => ?_, hS.imm, fun o r h1 => ?_⟩
  · obtain ⟨b, k1, k2⟩ := h.ob o a h1
    obtain ⟨b', k3, k4⟩ := h.ob o' a' h2
    exact hS.inj o o' b b' k k1 k3 (k2.alive h3) (k4.alive h4) ((k2.blk g o k).1 h5) ((k4.blk g o' k).1 h6)
  · obtain ⟨b, k1, k2⟩ := h.ob o _ h1
    cases k2 with
    | refl => exact hS.cells o cs k1
    | cells hw =>
      obtain ⟨⟨C, ty, e1, e2⟩, e3⟩ := hS.cells o _ k1
      exact ⟨⟨C, ty, e1, hw.rel e2⟩, e3⟩
  · obtain ⟨b, k1, k2⟩ := h.ob o _ h1
    cases k2 with
    | refl => exact hS.tok o k1
  · obtain ⟨b, k1, k2⟩ := h.ob o _ h1
    cases k2 with
    | refl => exact hS.abs o r k1

theorem WkH.own {H H1 : Heap} (h : WkH H H1) {g : Gh} {b : Nat} (hb : own g H1 b) : own g H b := by
  obtain ⟨o, a, h1, h2, h3⟩ := hb
  obtain ⟨b', k1, k2⟩ := h.ob o a h1
  exact ⟨o, b', k1, k2.alive h2, (k2.blk g o b).1 h3⟩

/-- slots and objects, and what is held on to of them -/
def Tidy (n0 : Nat) (vs' : List PV) (H' : Heap) (vs : List PV) (H : Heap) : Prop :=
  ∃ (vs1 : List PV) (H1 : Heap) (ρ : Nat → Nat), WkL vs' vs1 ∧ WkH H' H1 ∧ Sub ρ H H1 ∧ n0 ≤ H.length ∧ (∀ o, o < n0 → ρ o = o) ∧ RenL ρ H.length vs vs1

theorem envS_ren {ρ : Nat → Nat} {n : Nat} {g0 g : Gh} {w : World} (hs : Seen ρ n g0 g) : ∀ {ts : List Nat} {vs vs1 : List PV}, RenL ρ n vs vs1 → ∀ t v, Rel g w (envS ts vs1 t) v → Rel g0 w (envS ts vs t) v
  | [], _, _, _, t, v, _ => by unfold envS; exact .any v
  | k :: ts, _, _, .nil, t, v, _ => by unfold envS; exact .any v
  | k :: ts, _, _, .cons h hs', t, v, hr => by
    simp only [envS] at hr ⊢
    cases hk : t == k with
    | true => rw [hk] at hr; exact h.back hs hr
    | false => rw [hk] at hr; exact envS_ren hs hs' t v hr

theorem St.tidy {gl : Glob} (hgl : GlobLow gl) {n : Nat} {g0 g : Gh} {H0 H' H : Heap} {w0 w : World} {slots : List Nat} {vs' vs : List PV} {a : Act} (hst : St gl n g (envS slots vs') H' a w) (hx : Ext g0 H0 w0 g H' w) (hn : g0.n = H0.length)
    (hr : Tidy H0.length vs' H' vs H) : ∃ g3, St gl n g3 (envS slots vs) H a w ∧ Ext g0 H0 w0 g3 H w := by
  obtain ⟨vs1, H1, ρ, hw, hh, hsub, hlen, hid, hren⟩ := hr
  have hS1 := hh.sim hst.sim
  have hs : Seen ρ H.length (g.through ρ H.length) g := seen_through fun o ho => by rw [hS1.n]; exact hsub.lt o ho
  refine ⟨g.through ρ H.length, ⟨hsub.sim hS1, fun k cs hk => ?_, ⟨hst.env.1, fun t => envS_ren hs hren t _ (envS_wk hw t _ (hst.env.2 t))⟩, hst.dfr⟩, ?_⟩
  · refine ⟨(hst.glob k cs hk).1, fun q x hq => ?_⟩
    obtain ⟨h1, c, h2, h3⟩ := (hst.glob k cs hk).2 q x hq
    exact ⟨h1, c, h2, low_cong h3 (hgl k cs hk x (List.mem_iff_getElem?.2 ⟨q, hq⟩)) rfl⟩
  · refine ⟨⟨by rw [hn]; exact hlen, fun o ho => ?_, fun o ho => ?_, fun o ho => ?_, hx.gx.imm, hx.gx.cell⟩, hx.size, fun b hb ho => hx.ow b hb (hh.own (hsub.own ho)), hx.frame, hx.os, hx.tape, hx.output, hx.im⟩
    · show g.bk (ρ o) = _; rw [hid o (by omega)]; exact hx.gx.bk o ho
    · show g.en (ρ o) = _; rw [hid o (by omega)]; exact hx.gx.en o ho
    · show g.sz (ρ o) = _; rw [hid o (by omega)]; exact hx.gx.sz o ho

theorem AW.tidy {P : Program} {gl : Glob} (hgl : GlobLow gl) {n : Nat} {c : Code} {Q : Ex → Env → Heap → Prop} {e : Env} {H : Heap} {slots : List Nat}
    (h : AW P gl n c (fun ex e' H' => ∃ vs H2, Tidy H.length (slots.map e') H' vs H2 ∧ Q ex (envS slots vs) H2) e H) : AW P gl n c Q e H := by
  intro hd g a w hst
  refine wp_mono (h hd g a w hst) ?_
  rintro ex a' w' ⟨ex', g', e', H', k0, k1, k2, vs, H2, k3, k4⟩
  obtain ⟨g3, j1, j2⟩ := (k1.weaken (envS_le e' slots)).tidy hgl k2 hst.sim.n k3
  exact ⟨ex', g3, _, H2, k0, j1, j2, k4⟩

/-- which of the rows are drawn, where some stand ahead of others -/
def covers (anc : Nat → Nat → Bool) : Nat → List (List Nat) → List Nat → Bool
  | 0, F, M => M.isEmpty && F.contains []
  | k + 1, F, M => M.all fun m => (M.any fun b => b != m && anc m b) || covers anc k (F.filterMap fun p => match p with | x :: q => if x == m then some q else none | [] => none) (M.erase m)

theorem covers_mem {anc : Nat → Nat → Bool} : ∀ (k : Nat) (F : List (List Nat)) (M p : List Nat), M.length = k → covers anc k F M = true → p.Perm M → p.Nodup → p.Pairwise (fun a b => anc a b = false) → p ∈ F
  | 0, F, M, p, hk, h, hp, _, _ => by
    have hM : M = [] := List.eq_nil_of_length_eq_zero hk
    subst hM
    have : p = [] := List.Perm.eq_nil hp
    subst this
    simp only [covers, Bool.and_eq_true, List.contains_eq_mem, decide_eq_true_eq] at h
    exact h.2
  | k + 1, F, M, p, hk, h, hp, hnd, hpw => by
    cases p with
    | nil => have := hp.length_eq; simp at this; omega
    | cons m q =>
      have hm : m ∈ M := hp.subset (by simp)
      rw [covers, List.all_eq_true] at h
      have h1 := h m hm
      rw [Bool.or_eq_true] at h1
      have hno : ¬ (M.any fun b => b != m && anc m b) = true := by
        intro e
        obtain ⟨b, hb, hc⟩ := List.any_eq_true.1 e
        rw [Bool.and_eq_true, bne_iff_ne] at hc
        have : b ∈ m :: q := hp.symm.subset hb
        rcases List.mem_cons.1 this with e' | hb'
        · exact hc.1 e'
        · have := (List.pairwise_cons.1 hpw).1 b hb'
          rw [hc.2] at this; cases this
      have h2 := h1.resolve_left hno
      have hq := covers_mem k _ (M.erase m) q (by rw [List.length_erase_of_mem hm]; omega) h2 ((List.perm_cons m).1 (hp.trans (List.perm_cons_erase hm))) (List.nodup_cons.1 hnd).2 (List.pairwise_cons.1 hpw).2
      obtain ⟨p', hp', he⟩ := List.mem_filterMap.1 hq
      cases p' with
      | nil => cases he
      | cons x q' =>
        simp only at he
        by_cases hx : (x == m) = true
        · rw [if_pos hx] at he
          cases he
          rw [eq_of_beq hx] at hp'; exact hp'
        · rw [if_neg hx] at he; cases he

/-- what is asked of one order of a family: what it changes stands among the named ones -/
def okRankM (ops : Array Oper) (hn : Oper → Nat) (rk : Nat → Nat) (M : List Nat) : Bool :=
  let anc := ancB ops.toList
  (List.range ops.size).all fun i => (List.range ops.size).all fun j => !Nat.blt (rk j) (rk i) || (match ops[j]?, ops[i]? with
    | some oj, some oi => indep ops hn oj oi || (anc.getD i []).contains j || (M.contains i && M.contains j)
    | _, _ => true)

/-- what is asked of a family of orders -/
def okFam (ops : Array Oper) (hn : Oper → Nat) (M : List Nat) (F : List (List Nat)) : Bool :=
  let anc := ancB ops.toList
  okEdges ops && (ops.toList.all fun o => (cl (hn o) o.op).isSome) && decide M.Nodup && (M.all fun m => Nat.blt m ops.size) &&
  (F.all fun is => is.isPerm (List.range ops.size) && decide (is.Pairwise fun a b => is.idxOf a < is.idxOf b) && okRankM ops hn (fun i => is.idxOf i) M) &&
  covers (fun a b => (anc.getD a []).contains b) M.length (F.map fun is => is.filter M.contains) M

theorem schedule_anc {ops : Array Oper} (h : okEdges ops = true) (mixed : Bool) (t : Nat) :
    (Region.schedule mixed ops t).Perm (List.range ops.size) ∧ (Region.schedule mixed ops t).Pairwise (fun a b => ((ancB ops.toList).getD a []).contains b = false) := by
  simp only [okEdges, Bool.and_eq_true] at h
  obtain ⟨⟨⟨hb, hra⟩, hrt⟩, hrg⟩ := h
  have main : ∀ md t, rankB md ops (ranks md ops) = true → (Region.linearise md ops t).Perm (List.range ops.size) ∧ (Region.linearise md ops t).Pairwise (fun a b => ((ancB ops.toList).getD a []).contains b = false) := by
    intro md t hrk
    unfold Region.linearise
    obtain ⟨k1, k2, k3, k4⟩ := lin_go (md := md) hrk ops.size t (Array.replicate ops.size false) [] (by simp) (fun i hi => by simp [Array.getD, hi]) (by simp) (by simp) (fun p i o hp => by simp at hp) (by simp)
    generalize Region.linearise.go md ops ops.size t (Array.replicate ops.size false) [] = l at k1 k2 k3 k4
    refine ⟨?_, ?_⟩
    · refine (List.perm_ext_iff_of_nodup k1 List.nodup_range).2 fun a => ⟨fun ha => by simpa using k2 a ha, fun ha => ?_⟩
      rcases Classical.em (a ∈ l) with h | h
      · exact h
      · exfalso
        have h1 : (a :: l).Nodup := List.nodup_cons.2 ⟨h, k1⟩
        have h2 : (a :: l) ⊆ List.range ops.size := by
          intro x hx
          rcases List.mem_cons.1 hx with rfl | hx
          · exact ha
          · simpa using k2 x hx
        have := List.Nodup.length_le_of_subset h1 h2
        simp at this
        omega
    · rw [List.pairwise_iff_getElem]
      intro p q hp hq hpq
      cases hc : ((ancB ops.toList).getD l[p] []).contains l[q] with
      | false => rfl
      | true =>
        exfalso
        have := closed_anc hb k3 k2 p l[p] (List.getElem?_eq_getElem hp) l[q] (by simpa using hc)
        obtain ⟨r, hr⟩ := List.mem_iff_getElem?.1 this
        have hrp : r < p := by
          have := (List.getElem?_eq_some_iff.1 hr).1
          simp at this; omega
        rw [List.getElem?_take, if_pos hrp] at hr
        have hrl : r < l.length := by omega
        rw [List.getElem?_eq_getElem hrl] at hr
        have := (List.getElem_inj k1).1 (Option.some.inj hr)
        omega
  unfold Region.schedule
  split
  · exact main _ _ hra
  · rename_i hdep
    have hdp : Region.departs ops = true := by
      revert hdep
      cases mixed <;> cases Region.departs ops <;> simp
    rw [hdp] at hrt hrg
    simp only [Bool.not_true, Bool.false_or] at hrt hrg
    split
    · exact main _ _ hrt
    · exact main _ _ hrg

theorem aw_family {P : Program} {gl : Glob} {n : Nat} {T : Tab} (hT : TabOk P gl T) {hn : Oper → Nat} {c : Code} {Q : Ex → Env → Heap → Prop} {e : Env} {H X : Heap} {slots outs : List Nat} {vals : List PV} (M : List Nat) (F : List (List Nat))
    (hd : isDraw c = true) (hok : okFam (opsOf c) hn M F = true) (he : SlIs (slots.map e) vals) (hH : HpIs H X)
    (hF : ∀ is ∈ F, Holds (regc br P gl T hn true (opsOf c) (inOrder (opsOf c) is) (envS slots vals) X (fun e' H' => (fun vs H' => Q .normal (envS outs vs) H') (outs.map e') H'))) : AW P gl n c Q e H := by
  cases c <;> try (simp only [isDraw] at hd; cases hd; done)
  rename_i id ops d
  have hd : d = true := hd
  subst hd
  have he : slots.map e = vals := he
  have hH : H = X := hH
  subst hH
  have hok : okFam ops hn M F = true := hok
  have hF : ∀ is ∈ F, Holds (regc br P gl T hn true ops (inOrder ops is) (envS slots vals) H (fun e' H' => (fun vs H' => Q .normal (envS outs vs) H') (outs.map e') H')) := hF
  simp only [okFam, Bool.and_eq_true, decide_eq_true_eq] at hok
  obtain ⟨⟨⟨⟨⟨h1, h2⟩, h3⟩, h4⟩, h5⟩, h6⟩ := hok
  have hcl : ∀ o ∈ ops.toList, (cl (hn o) o.op).isSome = true := List.all_eq_true.1 h2
  refine AW.of_le (e1 := envS slots vals) (by rw [← he]; exact envS_le e slots) (AW.weaken ?_)
  suffices hs : AW P gl n (.region id ops true) (fun ex e' H' => match ex with | .normal => Q .normal (envS outs (outs.map e')) H' | _ => False) (envS slots vals) H from
    hs.mono fun ex e' H' k => by
      cases ex with
      | normal => exact ⟨envS outs (outs.map e'), envS_le e' outs, k⟩
      | exit i => exact k.elim
      | ret => exact k.elim
  intro hd g a w hst
  refine wp_region_draw fun t => ?_
  have hst' : St gl n g (envS slots vals) H a w.drew := ⟨hst.sim.drew, hst.glob.mono (Gext.drew g w), hst.env.mono (Gext.drew g w), hst.dfr⟩
  obtain ⟨hp, hr⟩ := schedule_anc h1 (P.follows .mixedOrders) t
  generalize Region.schedule (P.follows .mixedOrders) ops t = σ at hp hr
  have nd : σ.Nodup := hp.nodup_iff.2 List.nodup_range
  have hM : ∀ m ∈ M, m < ops.size := fun m hm => by have := List.all_eq_true.1 h4 m hm; rwa [Nat.blt_eq] at this
  have hperm : (σ.filter M.contains).Perm M := by
    refine (List.perm_ext_iff_of_nodup (nd.filter _) h3).2 fun a => ⟨fun ha => ?_, fun ha => ?_⟩
    · have := (List.mem_filter.1 ha).2; simpa using this
    · exact List.mem_filter.2 ⟨hp.symm.subset (by simpa using hM a ha), by simpa using ha⟩
  have hmem := covers_mem M.length _ M (σ.filter M.contains) rfl h6 hperm (nd.filter _) (hr.sublist List.filter_sublist)
  obtain ⟨is, his, hisp⟩ := List.mem_map.1 hmem
  have h5' := List.all_eq_true.1 h5 is his
  simp only [Bool.and_eq_true, decide_eq_true_eq, List.isPerm_iff] at h5'
  obtain ⟨⟨pi, si⟩, oi⟩ := h5'
  have mi : ∀ i ∈ is, i < ops.size := fun i hi => by simpa using pi.subset hi
  obtain ⟨e2, H2, hch, hq⟩ := regd_chain hcl is _ _ H (inOrder_map mi) (regc_sound_draw hT _ _ _ (hF is his).out)
  have hresp : σ.Pairwise (RespK (fun i => is.idxOf i) ops hn) := by
    rw [List.pairwise_iff_forall_sublist]
    intro i j hij hlt oj oi' hoj hoi
    have hi : i < ops.size := by
      have : i ∈ σ := hij.subset (by simp)
      simpa using hp.subset this
    have hj : j < ops.size := by
      have : j ∈ σ := hij.subset (by simp)
      simpa using hp.subset this
    have hc := List.all_eq_true.1 oi i (by simpa using hi)
    have hc := List.all_eq_true.1 hc j (by simpa using hj)
    rw [hoj, hoi] at hc
    have hbl : Nat.blt (is.idxOf j) (is.idxOf i) = true := by rw [Nat.blt_eq]; exact hlt
    rw [hbl] at hc
    simp only [Bool.not_true, Bool.false_or, Bool.or_eq_true, Bool.and_eq_true] at hc
    rcases hc with (hc | hc) | ⟨e1, e2⟩
    · exact hc
    · have := (List.pairwise_iff_forall_sublist.1 hr) hij
      rw [hc] at this; cases this
    · exfalso
      have hf := hij.filter M.contains
      rw [List.filter_cons_of_pos e1, List.filter_cons_of_pos e2, List.filter_nil, ← hisp] at hf
      have := (List.pairwise_iff_forall_sublist.1 si) (hf.trans List.filter_sublist)
      simp only at hlt
      omega
  have hch' := perm_chain2 (fun i => is.idxOf i) _ is _ _ _ _ si (hp.trans pi.symm) hresp hch
  refine wpOps_mono _ ?_ _ _ (chain_sound hd _ g _ H a w.drew hst' hch')
  rintro ex a' w' ⟨g', rfl, k1, k2⟩
  exact ⟨.normal, g', e2, H2, trivial, k1, (Ext.drew g H w).trans k2, hq⟩

#print axioms AW.tidy
#print axioms aw_family
end Go.AM
