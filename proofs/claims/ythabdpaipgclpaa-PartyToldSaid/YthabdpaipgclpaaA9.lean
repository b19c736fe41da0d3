/-
  An abstract machine over values without memory, proved against the model; part 9. A tool for the proofs of this claim; it states nothing of the program.
-/
import Derived.Test.YthabdpaipgclpaaA8
/-! AM, part 61: a piece of code amid other objects; a book's method that answers with objects of the caller's own. -/
namespace Go.AM
open Go
theorem envS_to {ρ : Nat → Nat} {n : Nat} {g0 g : Gh} {w : World} (hs : Seen ρ n g0 g) : ∀ {ts : List Nat} {vs vs1 : List PV}, RenL ρ n vs vs1 → ∀ t v, Rel g0 w (envS ts vs t) v → Rel g w (envS ts vs1 t) v
  | [], _, _, _, t, v, _ => by unfold envS; exact .any v
  | k :: ts, _, _, .nil, t, v, _ => by unfold envS; exact .any v
  | k :: ts, _, _, .cons h hs', t, v, hr => by
    simp only [envS] at hr ⊢
    cases hk : t == k with
    | true => rw [hk] at hr; exact h.to hs hr
    | false => rw [hk] at hr; exact envS_to hs hs' t v hr
/-- A PIECE AMID OTHER OBJECTS: it is enough to look at it where those are that it touches. -/
theorem AW.frame {P : Program} {gl : Glob} (hgl : GlobLow gl) {n : Nat} {c : Code} {Q : Ex → Env → Heap → Prop} {e : Env} {X H : Heap} {ρ : Nat → Nat} {slots outs : List Nat} {vals0 vals : List PV} (hsub : Sub ρ X H) (he : slots.map e = vals) (hv0 : RenL ρ X.length vals0 vals)
    (h : AW P gl n c (fun ex e' X' => ∃ vs H', Behind ρ X H X' H' ∧ RenL (ρext ρ X.length H.length) X'.length (outs.map e') vs ∧ Q ex (envS outs vs) H') (envS slots vals0) X) : AW P gl n c Q e H := by
  intro hd g a w hst
  have hS := hst.sim
  have hs : Seen ρ X.length (g.through ρ X.length) g := seen_through fun o ho => by rw [hS.n]; exact hsub.lt o ho
  have hG0 : GlobOk (g.through ρ X.length) w gl := fun k cs hk => by
    refine ⟨(hst.glob k cs hk).1, fun q x hx => ?_⟩
    obtain ⟨h1, c, h2, h3⟩ := (hst.glob k cs hk).2 q x hx
    exact ⟨h1, c, h2, low_cong h3 (hgl k cs hk x (List.mem_iff_getElem?.2 ⟨q, hx⟩)) rfl⟩
  have hw := hst.weaken (envS_le e slots)
  rw [he] at hw
  refine wp_mono (h hd (g.through ρ X.length) a w ⟨hsub.sim hS, hG0, ⟨hw.env.1, fun t => envS_ren hs hv0 t _ (hw.env.2 t)⟩, hst.dfr⟩) ?_
  rintro ex a' w' ⟨ex', g', e', X', k0, k1, hX, vs, H', hB, hren, hk⟩
  have k1 := k1.weaken (envS_le e' outs)
  have hS' := k1.sim
  have hn : g.n = H.length := hS.n
  have hn' : g'.n = X'.length := hS'.n
  -- the inverse of the names
  have inv : ∃ σ : Nat → Option Nat, ∀ o, (∀ j, σ o = some j → j < X.length ∧ ρ j = o) ∧ (σ o = none → ∀ j, j < X.length → ρ j ≠ o) := by
    refine ⟨fun o => (List.range X.length).find? fun j => ρ j == o, fun o => ⟨fun j hj => ?_, fun hj j hlt => ?_⟩⟩
    · have h1 := List.find?_some hj
      have h2 := List.mem_of_find?_eq_some hj
      exact ⟨by simpa using h2, by simpa using h1⟩
    · have := List.find?_eq_none.1 hj j (by simpa using hlt)
      simpa using this
  obtain ⟨σ, hσ⟩ := inv
  have hσρ : ∀ j, j < X.length → σ (ρ j) = some j := fun j hj => by
    cases hq : σ (ρ j) with
    | none => exact absurd rfl ((hσ _).2 hq j hj)
    | some i => obtain ⟨h1, h2⟩ := (hσ _).1 i hq; rw [hsub.inj i j h1 hj h2]
  have bk0 : ∀ o, o < X.length → g'.bk o = g.bk (ρ o) := fun o ho => hX.gx.bk o ho
  have en0 : ∀ o, o < X.length → g'.en o = g.en (ρ o) := fun o ho => hX.gx.en o ho
  have sz0 : ∀ o, o < X.length → g'.sz o = g.sz (ρ o) := fun o ho => hX.gx.sz o ho
  let g2 : Gh := ⟨H'.length, fun o => if o < H.length then g.bk o else g'.bk (X.length + (o - H.length)), fun o => if o < H.length then g.en o else g'.en (X.length + (o - H.length)), fun o => if o < H.length then g.sz o else g'.sz (X.length + (o - H.length)), g'.imm,
    fun o => if o < H.length then (match σ o with | some j => g'.fp j | none => g.fp o) else g'.fp (X.length + (o - H.length))⟩
  have ext_lt : ∀ o, o < X.length → ρext ρ X.length H.length o = ρ o ∧ ρ o < H.length := fun o ho => ⟨by simp [ρext, ho], hsub.lt o ho⟩
  have ext_ge : ∀ o, ¬ o < X.length → ρext ρ X.length H.length o = H.length + (o - X.length) := fun o ho => by simp [ρext, ho]
  have hlenX := hB.len
  have hlenH := hB.lenH
  have hs2 : Seen (ρext ρ X.length H.length) X'.length g' g2 := by
    refine ⟨hn', fun o ho => ?_, fun o ho => ?_, fun o ho => ?_, fun o ho => ?_, rfl⟩
    · show _ < H'.length
      by_cases c : o < X.length
      · obtain ⟨e1, e2⟩ := ext_lt o c; rw [e1]; omega
      · rw [ext_ge o c]; omega
    · by_cases c : o < X.length
      · obtain ⟨e1, e2⟩ := ext_lt o c
        show _ = (if _ then _ else _); rw [e1, if_pos e2]; exact bk0 o c
      · show _ = (if _ then _ else _); rw [ext_ge o c, if_neg (by omega)]; congr 1; omega
    · by_cases c : o < X.length
      · obtain ⟨e1, e2⟩ := ext_lt o c
        show _ = (if _ then _ else _); rw [e1, if_pos e2]; exact en0 o c
      · show _ = (if _ then _ else _); rw [ext_ge o c, if_neg (by omega)]; congr 1; omega
    · by_cases c : o < X.length
      · obtain ⟨e1, e2⟩ := ext_lt o c
        show _ = (if _ then _ else _); rw [e1, if_pos e2]; exact sz0 o c
      · show _ = (if _ then _ else _); rw [ext_ge o c, if_neg (by omega)]; congr 1; omega
  have fp2 : ∀ o, o < X'.length → g2.fp (ρext ρ X.length H.length o) = g'.fp o := fun o ho => by
    by_cases c : o < X.length
    · obtain ⟨e1, e2⟩ := ext_lt o c
      show (if _ then _ else _) = _; rw [e1, if_pos e2, hσρ o c]
    · show (if _ then _ else _) = _; rw [ext_ge o c, if_neg (by omega)]; congr 1; omega
  -- each object: one that the call looked at, or another one
  have cases2 : ∀ (o : Nat) (b : Ob), H'[o]? = some b → b.alive = true → (∃ j a, X'[j]? = some a ∧ a.alive = true ∧ o = ρext ρ X.length H.length j ∧ RenOb (ρext ρ X.length H.length) X'.length a b) ∨ (o < H.length ∧ H[o]? = some b ∧ ∀ j, j < X.length → ρ j ≠ o) := by
    intro o b hb hal
    have hol : o < H'.length := (List.getElem?_eq_some_iff.1 hb).1
    have fromX : ∀ j, j < X'.length → o = ρext ρ X.length H.length j → ∃ a, X'[j]? = some a ∧ a.alive = true ∧ RenOb (ρext ρ X.length H.length) X'.length a b := fun j hj ho => by
      obtain ⟨b', k1, k2, k3⟩ := hB.on j _ (List.getElem?_eq_getElem hj)
      rw [← ho, hb] at k1
      cases k1
      exact ⟨_, List.getElem?_eq_getElem hj, k3 hal, k2⟩
    by_cases c : o < H.length
    · cases hq : σ o with
      | some j =>
        obtain ⟨h1, h2⟩ := (hσ o).1 j hq
        have ho : o = ρext ρ X.length H.length j := by rw [(ext_lt j h1).1, h2]
        obtain ⟨a, k1, k2, k3⟩ := fromX j (by omega) ho
        exact .inl ⟨j, a, k1, k2, ho, k3⟩
      | none =>
        have h1 := (hσ o).2 hq
        exact .inr ⟨c, by rw [← hB.off o c h1]; exact hb, h1⟩
    · have ho : o = ρext ρ X.length H.length (X.length + (o - H.length)) := by rw [ext_ge _ (by omega)]; omega
      obtain ⟨a, k1, k2, k3⟩ := fromX _ (by omega) ho
      exact .inl ⟨_, a, k1, k2, ho, k3⟩
  have blkX : ∀ {j : Nat} {a b : Ob} {k : Nat}, X'[j]? = some a → a.alive = true → RenOb (ρext ρ X.length H.length) X'.length a b → (blk g2 b (ρext ρ X.length H.length j) k ↔ blk g' a j k) := by
    intro j a b k h1 h2 h3
    have hj : j < X'.length := (List.getElem?_eq_some_iff.1 h1).1
    cases h3 with
    | cells _ => show _ = k ↔ _ = k; rw [hs2.bk j hj]
    | tok => show _ = k ↔ _ = k; rw [hs2.bk j hj]
    | dead _ => cases h2
    | abs r => show g2.fp _ k ↔ g'.fp j k; rw [fp2 j hj]
  have blkH : ∀ {o : Nat} {b : Ob} {k : Nat}, o < H.length → (∀ j, j < X.length → ρ j ≠ o) → (blk g2 b o k ↔ blk g b o k) := by
    intro o b k h1 h2
    refine blk_of (g := g) (g' := g2) ?_ (fun k => ?_) b k
    · show (if _ then _ else _) = _; rw [if_pos h1]
    · show (if o < H.length then (match σ o with | some j => g'.fp j | none => g.fp o) else _) k ↔ _
      rw [if_pos h1]
      cases hq : σ o with
      | some j => obtain ⟨k1, k2⟩ := (hσ o).1 j hq; exact absurd k2 (h2 j k1)
      | none => exact Iff.rfl
  -- another object's blocks: the call did not look at them
  have apart0 : ∀ {o : Nat} {b : Ob} {k : Nat}, H[o]? = some b → b.alive = true → (∀ j, j < X.length → ρ j ≠ o) → blk g b o k → k < w.heap.size ∧ ¬ own (g.through ρ X.length) X k := by
    intro o b k h1 h2 h3 h4
    refine ⟨own_lt hS ⟨o, b, h1, h2, h4⟩, ?_⟩
    rintro ⟨j, a, k1, k2, k3⟩
    obtain ⟨b', e1, e2⟩ := hsub.ob j a k1
    have := hS.inj (ρ j) o b' b k e1 h1 (e2.alive k2) h2 ((blk_through g ρ _ e2 k2 j k).1 k3) h4
    exact h3 j (List.getElem?_eq_some_iff.1 k1).1 this
  have apart : ∀ {o : Nat} {b : Ob} {k : Nat}, H[o]? = some b → b.alive = true → (∀ j, j < X.length → ρ j ≠ o) → blk g b o k → k < w.heap.size ∧ w'.heap[k]? = w.heap[k]? ∧ (∀ q, ¬ g.imm k q → ¬ g'.imm k q) ∧ ¬ own g' X' k := by
    intro o b k h1 h2 h3 h4
    obtain ⟨hlt, hno⟩ := apart0 h1 h2 h3 h4
    exact ⟨hlt, hX.frame k hlt hno, fun q hq hi => (hX.im k q hlt hi).elim hq hno, fun ho => hno (hX.ow k hlt ho)⟩
  have hgx : Gext g w g2 w' := by
    refine ⟨by show g.n ≤ H'.length; omega, fun o ho => ?_, fun o ho => ?_, fun o ho => ?_, hX.gx.imm, hX.gx.cell⟩
    · show (if _ then _ else _) = _; rw [if_pos (by omega)]
    · show (if _ then _ else _) = _; rw [if_pos (by omega)]
    · show (if _ then _ else _) = _; rw [if_pos (by omega)]
  have hbk2 : ∀ o, o < H.length → g2.bk o = g.bk o := fun o ho => hgx.bk o (by omega)
  refine ⟨ex', g2, envS outs vs, H', k0, ⟨?_, hst.glob.mono hgx, ⟨k1.env.1, fun t => envS_to hs2 hren t _ (k1.env.2 t)⟩, k1.dfr⟩, ?_, hk⟩
  · refine ⟨rfl, fun o o' b b' k h1 h2 h3 h4 h5 h6 => ?_, fun o cs h1 => ?_, fun o h1 => ?_, hS'.imm, fun o r h1 => ?_⟩
    · rcases cases2 o b h1 h3 with ⟨j, a, k1, k2, rfl, k3⟩ | ⟨k1, k2, k3⟩ <;> rcases cases2 o' b' h2 h4 with ⟨j', a', m1, m2, rfl, m3⟩ | ⟨m1, m2, m3⟩
      · rw [hS'.inj j j' a a' k k1 m1 k2 m2 ((blkX k1 k2 k3).1 h5) ((blkX m1 m2 m3).1 h6)]
      · exact absurd ⟨j, a, k1, k2, (blkX k1 k2 k3).1 h5⟩ (apart m2 h4 m3 ((blkH m1 m3).1 h6)).2.2.2
      · exact absurd ⟨j', a', m1, m2, (blkX m1 m2 m3).1 h6⟩ (apart k2 h3 k3 ((blkH k1 k3).1 h5)).2.2.2
      · exact hS.inj o o' b b' k k2 m2 h3 h4 ((blkH k1 k3).1 h5) ((blkH m1 m3).1 h6)
    · rcases cases2 o _ h1 rfl with ⟨j, a, k1, k2, rfl, k3⟩ | ⟨k1, k2, k3⟩
      · cases k3 with
        | cells k3 =>
          obtain ⟨⟨C, ty, e1, e2⟩, e3⟩ := hS'.cells j _ k1
          have hj : j < X'.length := (List.getElem?_eq_some_iff.1 k1).1
          rw [← hs2.bk j hj]
          exact ⟨⟨C, ty, e1, k3.to hs2 e2⟩, e3⟩
        | dead _ => cases k2
      · obtain ⟨⟨C, ty, e1, e2⟩, e3⟩ := hS.cells o cs k2
        obtain ⟨_, a2, a3, _⟩ := apart k2 rfl k3 rfl
        rw [hbk2 o k1]
        exact ⟨⟨C, ty, a2.trans e1, e2.mono hgx⟩, fun q => a3 q (e3 q)⟩
    · rcases cases2 o _ h1 rfl with ⟨j, a, k1, k2, rfl, k3⟩ | ⟨k1, k2, k3⟩
      · cases k3 with
        | tok =>
          have hj : j < X'.length := (List.getElem?_eq_some_iff.1 k1).1
          rw [← hs2.bk j hj, ← hs2.en j hj, ← hs2.sz j hj]
          exact hS'.tok j k1
        | dead _ => cases k2
      · obtain ⟨⟨C, ty, e1, e2⟩, e3⟩ := hS.tok o k2
        obtain ⟨_, a2, a3, _⟩ := apart k2 rfl k3 rfl
        rw [hbk2 o k1, hgx.en o (by omega), hgx.sz o (by omega)]
        exact ⟨⟨C, ty, a2.trans e1, e2⟩, fun q hq => a3 q (e3 q hq)⟩
    · rcases cases2 o _ h1 rfl with ⟨j, a, k1, k2, rfl, k3⟩ | ⟨k1, k2, k3⟩
      · cases k3 with
        | abs r =>
          have hj : j < X'.length := (List.getElem?_eq_some_iff.1 k1).1
          rw [← hs2.bk j hj, fp2 j hj]
          exact hS'.abs j r k1
        | dead _ => cases k2
      · have h2 := (hS.abs o r k2).2.2
        have hfp : ∀ b, g2.fp o b ↔ g.fp o b := fun b => blkH (b := .abs r) (k := b) k1 k3
        exact hS.absKeep k2 hgx (hbk2 o k1) hfp (fun b hb => (apart k2 rfl k3 hb).2.1) (fun b q hb => (apart k2 rfl k3 hb).2.2.1 q ((h2 b hb).2 q)) hX.size hS'.imm
  · have ownsub : ∀ b, own (g.through ρ X.length) X b → own g H b := fun b => hsub.own
    refine ⟨hgx, hX.size, fun b hb ho => ?_, fun b hb ho => hX.frame b hb (fun k => ho (ownsub b k)), hX.os, hX.tape, hX.output, fun b q hb hi => (hX.im b q hb hi).imp id (ownsub b)⟩
    obtain ⟨o, b', h1, h2, h3⟩ := ho
    rcases cases2 o b' h1 h2 with ⟨j, a, k1, k2, rfl, k3⟩ | ⟨k1, k2, k3⟩
    · exact ownsub b (hX.ow b hb ⟨j, a, k1, k2, (blkX k1 k2 k3).1 h3⟩)
    · exact ⟨o, b', k2, h2, (blkH k1 k3).1 h3⟩
#print axioms AW.frame
/-- a book's method that answers with an object of the caller's own -/
theorem book_new {P : Program} {gl : Glob} (hgl : GlobLow gl) {f : FuncId} {rest : List PV} {H : Heap} {q r : Nat} {R : Rep} {K : PV → Heap → Prop} (V : PV → PV) (ho : BkIs H q r R) (hrest : ∀ x ∈ rest, Low 0 x)
    (hV : ∀ (k k' off len cap : Nat), RA k k' (V (.arr k off len cap)) (V (.arr k' off len cap)))
    (h : ACalls P gl f (.ptr 0 0 :: rest) [.cells [.ptr 1 0], .abs R] (fun x H' => ∃ (k off len cap : Nat) (cs : List PV) (R' : Rep) (G : Heap), x = V (.arr k off len cap) ∧ H' = .cells [.ptr 1 0] :: .abs R' :: G ∧ 2 ≤ k ∧ H'[k]? = some (.cells cs) ∧ (∀ x ∈ cs, Low 0 x) ∧ K (V (.arr H.length off len cap)) (H.set r (.abs R') ++ [.cells cs]))) : ACalls P gl f (.ptr q 0 :: rest) H K := by
  have hq := (List.getElem?_eq_some_iff.1 ho.1).1
  have hr := (List.getElem?_eq_some_iff.1 ho.2).1
  have hne : q ≠ r := fun e => by have h1 := ho.1; rw [e, ho.2] at h1; cases h1
  have h1 : ACalls P gl f (.ptr 0 0 :: rest) [.cells [.ptr 1 0], .abs R] (fun x H' => ∃ (off len cap : Nat) (cs : List PV) (R' : Rep), x = V (.arr 2 off len cap) ∧ H' = [.cells [.ptr 1 0], .abs R', .cells cs] ∧ (∀ x ∈ cs, Low 0 x) ∧ K (V (.arr H.length off len cap)) (H.set r (.abs R') ++ [.cells cs])) := by
    refine acalls_rename hgl (acalls_to h fun x H' e => ?_)
    obtain ⟨o, off, len, cap, cs, R', G, rfl, rfl, ho2, hot, hcs, hk⟩ := e
    have hol := (List.getElem?_eq_some_iff.1 hot).1
    let ρ : Nat → Nat := fun k => if k = 2 then o else k
    refine ⟨V (.arr 2 off len cap), [.cells [.ptr 1 0], .abs R', .cells cs], ρ, ⟨fun k hk => ?_, fun a b ha hb e => ?_, fun k a hk => ?_⟩, by simp, fun k hk => ?_, (hV 2 o off len cap).ren (by simp) (by simp [ρ]), off, len, cap, cs, R', rfl, rfl, hcs, hk⟩
    · simp at hk
      simp only [ρ]
      split
      · exact hol
      · simp at hol ⊢; omega
    · simp at ha hb
      simp only [ρ] at e
      split at e <;> split at e <;> omega
    · have k1 := (List.getElem?_eq_some_iff.1 hk).1
      simp at k1
      have : k = 0 ∨ k = 1 ∨ k = 2 := by omega
      rcases this with rfl | rfl | rfl
      · cases hk
        refine ⟨_, rfl, .cells (.cons ?_ .nil)⟩
        have := Ren.ptr (ρ := ρ) (n := 3) 1 0 (by decide)
        exact this
      · cases hk
        exact ⟨_, rfl, .abs _⟩
      · cases hk
        exact ⟨.cells cs, hot, .cells (RenL.low hcs)⟩
    · simp at hk
      simp only [ρ]; rw [if_neg (by omega)]
  refine acalls_frame hgl (book_sub ho) (.cons (.ptr (ρ := fun o => if o = 0 then q else r) 0 0 (by simp)) (RenL.low hrest)) (acalls_to h1 fun x H' e => ?_)
  obtain ⟨off, len, cap, cs, R', rfl, rfl, hcs, hk⟩ := e
  let ρ : Nat → Nat := ρext (fun o => if o = 0 then q else r) 2 H.length
  have e0 : ρ 0 = q := by simp [ρ, ρext]
  have e1 : ρ 1 = r := by simp [ρ, ρext]
  have e2 : ρ 2 = H.length := by simp [ρ, ρext]
  refine ⟨V (.arr H.length off len cap), H.set r (.abs R') ++ [.cells cs], ⟨by simp, by simp, fun o a ho' => ?_, fun o hl hn => ?_⟩, (hV 2 H.length off len cap).ren (by simp) e2, hk⟩
  · have k1 := (List.getElem?_eq_some_iff.1 ho').1
    simp at k1
    have : o = 0 ∨ o = 1 ∨ o = 2 := by omega
    rcases this with rfl | rfl | rfl
    · cases ho'
      refine ⟨.cells [.ptr r 0], ?_, .cells (.cons ?_ .nil), fun _ => rfl⟩
      · show (H.set r _ ++ [_])[ρ 0]? = _
        rw [e0, List.getElem?_append_left (by simpa using hq), List.getElem?_set_ne (Ne.symm hne)]; exact ho.1
      · have := Ren.ptr (ρ := ρ) (n := 3) 1 0 (by decide)
        rw [e1] at this
        exact this
    · cases ho'
      refine ⟨.abs R', ?_, .abs _, fun _ => rfl⟩
      show (H.set r _ ++ [_])[ρ 1]? = _
      rw [e1, List.getElem?_append_left (by simpa using hr), List.getElem?_set_self hr]
    · cases ho'
      refine ⟨.cells cs, ?_, .cells (RenL.low hcs), fun _ => rfl⟩
      show (H.set r _ ++ [_])[ρ 2]? = _
      rw [e2]; simp
  · rw [List.getElem?_append_left (by simpa using hl), List.getElem?_set_ne]
    have := hn 1 (by simp)
    simpa using this
#print axioms book_new
end Go.AM

/-! AM, part 62: pieces behind objects that they do not touch; a book's method that answers with two objects of the caller's own. -/
namespace Go.AM
open Go
theorem sub_shift {pre X : Heap} (h : ∀ (o : Nat) cs, X[o]? = some (.cells cs) → ∀ x ∈ cs, Low 0 x) : Sub (fun o => o + pre.length) X (pre ++ X) := by
  refine ⟨fun o ho => by simp; omega, fun o o' _ _ e => by have e : o + pre.length = o' + pre.length := e; omega, fun o a ho => ⟨a, ?_, ?_⟩⟩
  · rw [List.getElem?_append_right (by omega), Nat.add_sub_cancel]; exact ho
  · cases a with
    | cells cs => exact .cells (RenL.low (h o cs ho))
    | tok => exact .tok
    | dead => exact .dead _
    | abs r => exact .abs _
theorem behind_shift {pre X X' Y' : Heap} (hl : X.length ≤ X'.length) (hy : Y'.length = X'.length)
    (hr : ∀ (o : Nat) (a : Ob), X'[o]? = some a → ∃ b, Y'[o]? = some b ∧ RenOb (fun o => o + pre.length) X'.length a b ∧ (b.alive = true → a.alive = true)) : Behind (fun o => o + pre.length) X (pre ++ X) X' (pre ++ Y') := by
  have e : ρext (fun o => o + pre.length) X.length (pre ++ X).length = fun o => o + pre.length := by
    funext o
    unfold ρext
    split
    · rfl
    · rw [List.length_append]; omega
  refine ⟨hl, by simp [hy]; omega, fun o a ho => ?_, fun o h1 h2 => ?_⟩
  · rw [e]
    obtain ⟨b, k1, k2, k3⟩ := hr o a ho
    refine ⟨b, ?_, k2, k3⟩
    show (pre ++ Y')[o + pre.length]? = _
    rw [List.getElem?_append_right (by omega), Nat.add_sub_cancel]; exact k1
  · have hlt : o < pre.length := by
      refine Nat.lt_of_not_le fun hge => h2 (o - pre.length) ?_ (by show o - pre.length + pre.length = o; omega)
      rw [List.length_append] at h1; omega
    rw [List.getElem?_append_left hlt, List.getElem?_append_left hlt]
theorem ρext_shift {pre X : Heap} : ρext (fun o => o + pre.length) X.length (pre ++ X).length = fun o => o + pre.length := by
  funext o
  unfold ρext
  split
  · rfl
  · rw [List.length_append]; omega

theorem book_new2 {P : Program} {gl : Glob} (hgl : GlobLow gl) {f : FuncId} {rest : List PV} {H : Heap} {q r : Nat} {R : Rep} {K : PV → Heap → Prop} (V : PV → PV → PV) (ho : BkIs H q r R) (hrest : ∀ x ∈ rest, Low 0 x)
    (hV : ∀ (ρ : Nat → Nat) (n k k2 off len cap off2 len2 cap2 : Nat), k < n → k2 < n → Ren ρ n (V (.arr k off len cap) (.arr k2 off2 len2 cap2)) (V (.arr (ρ k) off len cap) (.arr (ρ k2) off2 len2 cap2)))
    (h : ACalls P gl f (.ptr 0 0 :: rest) [.cells [.ptr 1 0], .abs R] (fun x H' => ∃ (k k2 off len cap off2 len2 cap2 : Nat) (cs cs2 : List PV) (R' : Rep) (G : Heap), x = V (.arr k off len cap) (.arr k2 off2 len2 cap2) ∧ H' = .cells [.ptr 1 0] :: .abs R' :: G ∧ 2 ≤ k ∧ 2 ≤ k2 ∧ k ≠ k2 ∧ H'[k]? = some (.cells cs) ∧ H'[k2]? = some (.cells cs2) ∧ (∀ x ∈ cs, Low 0 x) ∧ (∀ x ∈ cs2, Low 0 x) ∧
      K (V (.arr H.length off len cap) (.arr (H.length + 1) off2 len2 cap2)) (H.set r (.abs R') ++ [.cells cs, .cells cs2]))) : ACalls P gl f (.ptr q 0 :: rest) H K := by
  have hq := (List.getElem?_eq_some_iff.1 ho.1).1
  have hr := (List.getElem?_eq_some_iff.1 ho.2).1
  have hne : q ≠ r := fun e => by have h1 := ho.1; rw [e, ho.2] at h1; cases h1
  have h1 : ACalls P gl f (.ptr 0 0 :: rest) [.cells [.ptr 1 0], .abs R] (fun x H' => ∃ (off len cap off2 len2 cap2 : Nat) (cs cs2 : List PV) (R' : Rep), x = V (.arr 2 off len cap) (.arr 3 off2 len2 cap2) ∧ H' = [.cells [.ptr 1 0], .abs R', .cells cs, .cells cs2] ∧ (∀ x ∈ cs, Low 0 x) ∧ (∀ x ∈ cs2, Low 0 x) ∧ K (V (.arr H.length off len cap) (.arr (H.length + 1) off2 len2 cap2)) (H.set r (.abs R') ++ [.cells cs, .cells cs2])) := by
    refine acalls_rename hgl (acalls_to h fun x H' e => ?_)
    obtain ⟨o, o2, off, len, cap, off2, len2, cap2, cs, cs2, R', G, rfl, rfl, ho2, ho3, hoo, hot, hot2, hcs, hcs2, hk⟩ := e
    have hol := (List.getElem?_eq_some_iff.1 hot).1
    have hol2 := (List.getElem?_eq_some_iff.1 hot2).1
    let ρ : Nat → Nat := fun k => if k = 2 then o else if k = 3 then o2 else k
    refine ⟨V (.arr 2 off len cap) (.arr 3 off2 len2 cap2), [.cells [.ptr 1 0], .abs R', .cells cs, .cells cs2], ρ, ⟨fun k hk => ?_, fun a b ha hb e => ?_, fun k a hk => ?_⟩, by simp, fun k hk => ?_, hV ρ 4 2 3 off len cap off2 len2 cap2 (by decide) (by decide), off, len, cap, off2, len2, cap2, cs, cs2, R', rfl, rfl, hcs, hcs2, hk⟩
    · simp at hk
      simp only [ρ]
      split
      · exact hol
      · split
        · exact hol2
        · simp at hol ⊢; omega
    · simp at ha hb
      simp only [ρ] at e
      split at e <;> split at e <;> (try split at e) <;> (try split at e) <;> omega
    · have k1 := (List.getElem?_eq_some_iff.1 hk).1
      simp at k1
      have : k = 0 ∨ k = 1 ∨ k = 2 ∨ k = 3 := by omega
      rcases this with rfl | rfl | rfl | rfl
      · cases hk
        refine ⟨_, rfl, .cells (.cons ?_ .nil)⟩
        have := Ren.ptr (ρ := ρ) (n := 4) 1 0 (by decide)
        exact this
      · cases hk
        exact ⟨_, rfl, .abs _⟩
      · cases hk
        exact ⟨.cells cs, hot, .cells (RenL.low hcs)⟩
      · cases hk
        exact ⟨.cells cs2, hot2, .cells (RenL.low hcs2)⟩
    · simp at hk
      simp only [ρ]; rw [if_neg (by omega), if_neg (by omega)]
  refine acalls_frame hgl (book_sub ho) (.cons (.ptr (ρ := fun o => if o = 0 then q else r) 0 0 (by simp)) (RenL.low hrest)) (acalls_to h1 fun x H' e => ?_)
  obtain ⟨off, len, cap, off2, len2, cap2, cs, cs2, R', rfl, rfl, hcs, hcs2, hk⟩ := e
  let ρ : Nat → Nat := ρext (fun o => if o = 0 then q else r) 2 H.length
  have e0 : ρ 0 = q := by simp [ρ, ρext]
  have e1 : ρ 1 = r := by simp [ρ, ρext]
  have e2 : ρ 2 = H.length := by simp [ρ, ρext]
  have e3 : ρ 3 = H.length + 1 := by simp [ρ, ρext]
  have hre := hV ρ 4 2 3 off len cap off2 len2 cap2 (by decide) (by decide)
  rw [e2, e3] at hre
  refine ⟨V (.arr H.length off len cap) (.arr (H.length + 1) off2 len2 cap2), H.set r (.abs R') ++ [.cells cs, .cells cs2], ⟨by simp, by simp, fun o a ho' => ?_, fun o hl hn => ?_⟩, hre, hk⟩
  · have k1 := (List.getElem?_eq_some_iff.1 ho').1
    simp at k1
    have : o = 0 ∨ o = 1 ∨ o = 2 ∨ o = 3 := by omega
    rcases this with rfl | rfl | rfl | rfl
    · cases ho'
      refine ⟨.cells [.ptr r 0], ?_, .cells (.cons ?_ .nil), fun _ => rfl⟩
      · show (H.set r _ ++ _)[ρ 0]? = _
        rw [e0, List.getElem?_append_left (by simpa using hq), List.getElem?_set_ne (Ne.symm hne)]; exact ho.1
      · have := Ren.ptr (ρ := ρ) (n := 4) 1 0 (by decide)
        rw [e1] at this
        exact this
    · cases ho'
      refine ⟨.abs R', ?_, .abs _, fun _ => rfl⟩
      show (H.set r _ ++ _)[ρ 1]? = _
      rw [e1, List.getElem?_append_left (by simpa using hr), List.getElem?_set_self hr]
    · cases ho'
      refine ⟨.cells cs, ?_, .cells (RenL.low hcs), fun _ => rfl⟩
      show (H.set r _ ++ _)[ρ 2]? = _
      rw [e2]; simp
    · cases ho'
      refine ⟨.cells cs2, ?_, .cells (RenL.low hcs2), fun _ => rfl⟩
      show (H.set r _ ++ _)[ρ 3]? = _
      rw [e3, List.getElem?_append_right (by simp)]; simp
  · rw [List.getElem?_append_left (by simpa using hl), List.getElem?_set_ne]
    have := hn 1 (by simp)
    simpa using this
#print axioms book_new2
#print axioms behind_shift
end Go.AM

/-! AM, part 63: names that stand for nothing are laid behind a call's objects. -/
namespace Go.AM
open Go
theorem acalls_pad {P : Program} {gl : Glob} {f : FuncId} {args : List PV} {H : Heap} {K : PV → Heap → Prop} (h : ACalls P gl f args H (fun x H' => ∃ H2, Pad H' H2 ∧ K x H2)) : ACalls P gl f args H K := by
  intro g w vs hS hG hR
  refine (h g w vs hS hG hR).mono ?_
  rintro e w' ⟨v, g1, H', x, rfl, hS', hx, hv, H2, hp, hk⟩
  let g' : Gh := ⟨H2.length, g1.bk, g1.en, g1.sz, g1.imm, g1.fp⟩
  have hb : blk g' = blk g1 := by funext ob o b; cases ob <;> rfl
  have hn : g1.n = H'.length := hS'.n
  have hgx : Gext g1 w' g' w' := ⟨by show g1.n ≤ H2.length; rw [hn]; exact hp.len, fun _ _ => rfl, fun _ _ => rfl, fun _ _ => rfl, fun _ _ h => h, fun _ _ _ => rfl⟩
  refine ⟨v, g', H2, x, rfl, ⟨rfl, fun o o' ob ob' b h1 h2 h3 h4 => by rw [hb]; exact hS'.inj o o' ob ob' b (hp.ob _ _ h1 h3) (hp.ob _ _ h2 h4) h3 h4, fun o cs h1 => ?_, fun o h1 => hS'.tok o (hp.ob _ _ h1 rfl), hS'.imm, fun o r h1 => hS'.abs o r (hp.ob _ _ h1 rfl)⟩, ?_, hv.mono hgx, hk⟩
  · obtain ⟨⟨C, ty, e1, e2⟩, e3⟩ := hS'.cells o cs (hp.ob _ _ h1 rfl)
    exact ⟨⟨C, ty, e1, e2.mono hgx⟩, e3⟩
  · refine ⟨hx.gx.trans hgx, hx.size, fun b hb' ho => ?_, hx.frame, hx.os, hx.tape, hx.output, hx.im⟩
    obtain ⟨o, ob, h1, h2, h3⟩ := ho
    rw [hb] at h3
    exact hx.ow b hb' ⟨o, ob, hp.ob _ _ h1 h2, h2, h3⟩
/-- one name, two names -/
theorem acalls_pad1 {P : Program} {gl : Glob} {f : FuncId} {args : List PV} {H : Heap} {K : PV → Heap → Prop} (h : ACalls P gl f args H (fun x H' => K x (H' ++ [.dead]))) : ACalls P gl f args H K :=
  acalls_pad (acalls_to h fun _ _ hk => ⟨_, pad_dead _, hk⟩)
theorem acalls_pad2 {P : Program} {gl : Glob} {f : FuncId} {args : List PV} {H : Heap} {K : PV → Heap → Prop} (h : ACalls P gl f args H (fun x H' => K x (H' ++ [.dead, .dead]))) : ACalls P gl f args H K :=
  acalls_pad1 (acalls_pad1 (acalls_to h fun _ H' hk => by rw [List.append_assoc]; exact hk))
#print axioms acalls_pad
end Go.AM

