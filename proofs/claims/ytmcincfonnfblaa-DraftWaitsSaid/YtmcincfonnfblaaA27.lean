/-
  An abstract machine over values without memory, proved against the model; part 27. A tool for the proofs of this claim; it states nothing of the program.
-/
import Derived.Test.YtmcincfonnfblaaA26
/-! AM, part 27: a loop that makes rows by append: the tokens of its own are numbered anew at its head. -/
namespace Go.AM
open Go

/-- a value, its token numbered anew -/
def RelabV (n0 : Nat) (ρ : Nat → Nat) (x' x : PV) : Prop :=
  (x' = x ∧ Low n0 x) ∨ ∃ es o, x = .list es (.tok o) ∧ x' = .list es (.tok (ρ o)) ∧ n0 ≤ o ∧ ∀ y ∈ es.flatten, Low n0 y

/-- what stands at a round's end, and what it is at the head again -/
structure Relab (n0 : Nat) (vs' : List PV) (H' : Heap) (vs : List PV) (H : Heap) : Prop where
  len : n0 ≤ H.length
  base : ∀ o, o < n0 → H[o]? = H'[o]? ∧ ∀ cs, H[o]? = some (.cells cs) → ∀ x ∈ cs, Low n0 x
  ex : ∃ ρ : Nat → Nat, (∀ o, n0 ≤ o → o < H.length → n0 ≤ ρ o ∧ H[o]? = some .tok ∧ H'[ρ o]? = some .tok) ∧ (∀ o o', n0 ≤ o → o < H.length → n0 ≤ o' → o' < H.length → ρ o = ρ o' → o = o') ∧
    vs'.length = vs.length ∧ (∀ (q : Nat) (x' x : PV), vs'[q]? = some x' → vs[q]? = some x → RelabV n0 ρ x' x) ∧ ∀ (q : Nat) (es : List (List PV)) (o : Nat), vs[q]? = some (PV.list es (.tok o)) → o < H.length

theorem St.relab {gl : Glob} (hgl : GlobLow gl) {n : Nat} {g0 g : Gh} {H0 H' H : Heap} {w0 w : World} {slots : List Nat} {vs' vs : List PV} {a : Act} (hst : St gl n g (envS slots vs') H' a w) (hx : Ext g0 H0 w0 g H' w) (hn : g0.n = H0.length)
    (hr : Relab H0.length vs' H' vs H) : ∃ g3, St gl n g3 (envS slots vs) H a w ∧ Ext g0 H0 w0 g3 H w := by
  obtain ⟨hlen, hbase, ρ, hρ, hinj, hvl, hv, hvt⟩ := hr
  have hS := hst.sim
  have hn0 : H0.length ≤ g.n := by rw [← hn]; exact hx.gx.n
  let τ : Nat → Nat := fun o => if o < H0.length then o else ρ o
  have hτ : ∀ (o : Nat) ob, H[o]? = some ob → H'[τ o]? = some ob := by
    intro o ob ho
    by_cases h : o < H0.length
    · simp only [τ, if_pos h]; rw [← (hbase o h).1]; exact ho
    · have hlt := (List.getElem?_eq_some_iff.1 ho).1
      obtain ⟨_, h2, h3⟩ := hρ o (by omega) hlt
      simp only [τ, if_neg h]
      rw [h2] at ho; cases ho; exact h3
  let g3 : Gh := ⟨H.length, fun o => g.bk (τ o), fun o => g.en (τ o), fun o => g.sz (τ o), g.imm, fun o => g.fp (τ o)⟩
  have hb3 : ∀ ob o b, blk g3 ob o b = blk g ob (τ o) b := fun ob o b => by cases ob <;> rfl
  have hτ0 : ∀ o, o < H0.length → τ o = o := fun o h => by simp only [τ, if_pos h]
  have gx0 : Gext (g.cutAt H0.length) w g3 w :=
    ⟨hlen, fun o ho => by show g.bk (τ o) = _; rw [hτ0 o ho]; rfl, fun o ho => by show g.en (τ o) = _; rw [hτ0 o ho]; rfl, fun o ho => by show g.sz (τ o) = _; rw [hτ0 o ho]; rfl, fun _ _ h => h, fun _ _ _ => rfl⟩
  have up : ∀ {x : PV} {v : Value}, Rel g w x v → Low H0.length x → Rel g3 w x v := fun h hl => (h.cutAt hl).mono gx0
  refine ⟨g3, ⟨?_, ?_, ⟨hst.env.1, fun t => ?_⟩, hst.dfr⟩, ?_⟩
  · refine ⟨rfl, fun o o' ob ob' b h1 h2 h3 h4 h5 h6 => ?_, fun o cs h1 => ?_, fun o h1 => ?_, hS.imm, fun o r h1 => hS.abs (τ o) r (hτ o _ h1)⟩
    · rw [hb3] at h5 h6
      have e := hS.inj (τ o) (τ o') ob ob' b (hτ o ob h1) (hτ o' ob' h2) h3 h4 h5 h6
      have l1 := (List.getElem?_eq_some_iff.1 h1).1
      have l2 := (List.getElem?_eq_some_iff.1 h2).1
      by_cases c1 : o < H0.length <;> by_cases c2 : o' < H0.length <;> simp only [τ, c1, c2, if_true, if_false] at e
      · exact e
      · have := (hρ o' (by omega) l2).1; omega
      · have := (hρ o (by omega) l1).1; omega
      · exact hinj o o' (by omega) l1 (by omega) l2 e
    · have c1 : o < H0.length := by
        rcases Nat.lt_or_ge o H0.length with h | h
        · exact h
        · have l1 := (List.getElem?_eq_some_iff.1 h1).1
          rw [(hρ o h l1).2.1] at h1; cases h1
      have h2 := hτ o _ h1
      obtain ⟨⟨C, ty, e1, e2⟩, e3⟩ := hS.cells (τ o) cs h2
      exact ⟨⟨C, ty, e1, e2.1, fun q y u hy hu => up (e2.2 q y u hy hu) ((hbase o c1).2 cs h1 y (List.mem_iff_getElem?.2 ⟨q, hy⟩))⟩, e3⟩
    · exact hS.tok (τ o) (hτ o _ h1)
  · intro k cs hk
    refine ⟨(hst.glob k cs hk).1, fun q x hq => ?_⟩
    obtain ⟨h1, c, h2, h3⟩ := (hst.glob k cs hk).2 q x hq
    exact ⟨h1, c, h2, up h3 (hgl k cs hk x (List.mem_iff_getElem?.2 ⟨q, hq⟩)).up⟩
  · -- the slots
    have key : ∀ (ts : List Nat) (us' us : List PV), us'.length = us.length → (∀ (q : Nat) (x' x : PV), us'[q]? = some x' → us[q]? = some x → RelabV H0.length ρ x' x) → (∀ (q : Nat) (es : List (List PV)) (o : Nat), us[q]? = some (PV.list es (.tok o)) → o < H.length) →
        (∀ v, Rel g w (envS ts us' t) v → Rel g3 w (envS ts us t) v) := by
      intro ts
      induction ts with
      | nil => intro us' us _ _ _ v h; unfold envS at h ⊢; exact .any v
      | cons k ts ih =>
        intro us' us hl hu ht v h
        cases us' with
        | nil =>
          cases us with
          | nil => unfold envS; exact .any v
          | cons _ _ => simp at hl
        | cons x' us' =>
          cases us with
          | nil => simp at hl
          | cons x us =>
            simp only [envS] at h ⊢
            cases hk : t == k with
            | true =>
              rw [hk] at h
              simp only at h ⊢
              rcases hu 0 x' x rfl rfl with ⟨rfl, hlow⟩ | ⟨es, o, rfl, rfl, ho, hlow⟩
              · exact up h hlow
              · have hol := ht 0 es o rfl
                obtain ⟨a', cap, rfl, h1, h2, h3, h4⟩ := Rel.list_iff.1 h
                refine Rel.list_iff.2 ⟨a', cap, rfl, h1, h2, ?_, ?_⟩
                · obtain ⟨k1, A, s, k2, k3, k4, k5, k6, k7, k8⟩ := h3
                  have e : τ o = ρ o := by simp only [τ]; rw [if_neg (by omega)]
                  refine ⟨hol, A, s, k2, k3, ?_, ?_, k6, k7, ?_⟩
                  · show _ = g.bk (τ o); rw [e]; exact k4
                  · show _ = g.en (τ o); rw [e]; exact k5
                  · show _ ≤ g.sz (τ o); rw [e]; exact k8
                · refine h4.imp id ?_
                  rintro ⟨A, k1, k2, k3⟩
                  refine ⟨A, k1, k2, fun q x hq => ?_⟩
                  obtain ⟨j1, c, j2, j3⟩ := k3 q x hq
                  exact ⟨j1, c, j2, up j3 (hlow x (List.mem_iff_getElem?.2 ⟨q, hq⟩))⟩
            | false =>
              rw [hk] at h
              simp only at h ⊢
              exact ih us' us (by simpa using hl) (fun q y' y h1 h2 => hu (q + 1) y' y (by simpa using h1) (by simpa using h2)) (fun q es o h1 => ht (q + 1) es o (by simpa using h1)) v h
    exact key slots vs' vs hvl hv hvt _ (hst.env.2 t)
  · refine ⟨⟨by rw [hn]; exact hlen, fun o ho => ?_, fun o ho => ?_, fun o ho => ?_, hx.gx.imm, hx.gx.cell⟩, hx.size, fun b hb ho => ?_, hx.frame, hx.os, hx.tape, hx.output, hx.im⟩
    · show g.bk (τ o) = _; rw [hτ0 o (by rw [← hn]; exact ho)]; exact hx.gx.bk o ho
    · show g.en (τ o) = _; rw [hτ0 o (by rw [← hn]; exact ho)]; exact hx.gx.en o ho
    · show g.sz (τ o) = _; rw [hτ0 o (by rw [← hn]; exact ho)]; exact hx.gx.sz o ho
    · obtain ⟨o, ob, k1, k2, k3⟩ := ho
      rw [hb3] at k3
      exact hx.ow b hb ⟨τ o, ob, hτ o ob k1, k2, k3⟩

/-- what a round of such a loop must bring -/
def loopT {σ : Type} (Q : Ex → Env → Heap → Prop) (n0 : Nat) (slots : List Nat) (I : σ → Prop) (V : σ → List PV) (Hp : σ → Heap) (m : σ → Nat) (s : σ) : Ex → List PV → Heap → Prop := fun ex vs H' => match ex with
  | .normal => ∃ s', m s' < m s ∧ I s' ∧ Relab n0 vs H' (V s') (Hp s')
  | .exit i => Q (.exit i) (envS slots vs) H'
  | .ret => Q .ret (envS slots vs) H'

theorem aw_loop5 {P : Program} {gl : Glob} (hgl : GlobLow gl) {n : Nat} {T : Tab} (hT : TabOk P gl T) {L : LTab} {hn : Oper → Nat} {x : Code} (hL : LOk P gl n x [] L) {Q : Ex → Env → Heap → Prop} {e : Env} {H : Heap} {σ : Type} (slots : List Nat) (I : σ → Prop) (V : σ → List PV) (Hp : σ → Heap) (m : σ → Nat) (s0 : σ)
    (h0 : I s0) (he : slots.map e = V s0) (hH : H = Hp s0)
    (round : ∀ s, I s → Holds (wpc br P gl T L hn x [] (envS slots (V s)) (Hp s) (fun ex e' H' => loopT Q H.length slots I V Hp m s ex (slots.map e') H'))) : AW P gl n (.loop x) Q e H := by
  intro hd g a w hst
  simp only [dstAll] at hd
  have hng : g.n = H.length := hst.sim.n
  refine wp_loop_ghost (fun k a' w' => ∃ g' s, k = m s ∧ I s ∧ St gl n g' (envS slots (V s)) (Hp s) a' w' ∧ Ext g H w g' (Hp s) w') (m s0) ⟨g, s0, rfl, h0, by rw [← hH, ← he]; exact hst.weaken (envS_le e slots), by rw [← hH]; exact .refl g H w⟩ ?_
  rintro k a1 w1 ⟨g1, s, rfl, hI, hst1, hx1⟩
  refine wp_mono (wpc_sound hT x [] hL _ _ _ (round s hI).out hd g1 a1 w1 hst1) ?_
  rintro ex a' w' ⟨ex', g', e', H', k0, k1, k2, k3⟩
  have k1' := k1.weaken (envS_le e' slots)
  cases ex <;> cases ex' <;> first | exact k0.elim | skip
  · obtain ⟨s', hm, hI', hr⟩ := k3
    obtain ⟨g3, j1, j2⟩ := k1'.relab hgl (hx1.trans k2) hng hr
    exact ⟨m s', hm, g3, s', rfl, hI', j1, j2⟩
  · exact ⟨.exit _, g', _, H', k0, k1', hx1.trans k2, k3⟩
  · exact ⟨.ret, g', _, H', k0, k1', hx1.trans k2, k3⟩

#print axioms aw_loop5
end Go.AM
