/-
  An abstract machine over values without memory, proved against the model; part 36. A tool for the proofs of this claim; it states nothing of the program.
-/
import Derived.Test.YtmcincfonnfblaaA35
/-! AM, part 36: a loop that makes rows, whose end is told alike however often it went round. -/
namespace Go.AM
open Go

/-- objects are let go, and names that stand for nothing are laid behind -/
structure Pad (H H2 : Heap) : Prop where
  len : H.length ≤ H2.length
  ob : ∀ (o : Nat) (ob : Ob), H2[o]? = some ob → ob.alive = true → H[o]? = some ob

theorem Pad.refl (H : Heap) : Pad H H := ⟨Nat.le_refl _, fun _ _ h _ => h⟩

theorem pad_dead (H : Heap) : Pad H (H ++ [.dead]) := by
  refine ⟨by simp, fun o ob h ha => ?_⟩
  rcases getElem?_snoc _ _ _ _ h with ⟨h1, _⟩ | ⟨_, rfl⟩
  · exact h1
  · cases ha
theorem pad_kill (H : Heap) (x : Ob) : Pad (H ++ [x]) (H ++ [.dead]) := by
  refine ⟨by simp, fun o ob h ha => ?_⟩
  rcases getElem?_snoc _ _ _ _ h with ⟨h1, h2⟩ | ⟨_, rfl⟩
  · rw [List.getElem?_append_left h2]; exact h1
  · cases ha

theorem St.pad {gl : Glob} {n : Nat} {g g0 : Gh} {e : Env} {H H0 H2 : Heap} {a : Act} {w w0 : World} (hst : St gl n g e H a w) (hx : Ext g0 H0 w0 g H w) (hp : Pad H H2) : ∃ g', St gl n g' e H2 a w ∧ Ext g0 H0 w0 g' H2 w := by
  let g' : Gh := ⟨H2.length, g.bk, g.en, g.sz, g.imm, g.fp⟩
  have hb : blk g' = blk g := by funext ob o b; cases ob <;> rfl
  have hn : g.n = H.length := hst.sim.n
  have hgx : Gext g w g' w := ⟨by show g.n ≤ H2.length; rw [hn]; exact hp.len, fun _ _ => rfl, fun _ _ => rfl, fun _ _ => rfl, fun _ _ h => h, fun _ _ _ => rfl⟩
  have hS := hst.sim
  refine ⟨g', ⟨⟨rfl, fun o o' ob ob' b h1 h2 h3 h4 => by rw [hb]; exact hS.inj o o' ob ob' b (hp.ob _ _ h1 h3) (hp.ob _ _ h2 h4) h3 h4, fun o cs h1 => ?_, fun o h1 => hS.tok o (hp.ob _ _ h1 rfl), hS.imm, fun o r h1 => hS.abs o r (hp.ob _ _ h1 rfl)⟩, hst.glob.mono hgx, hst.env.mono hgx, hst.dfr⟩, ?_⟩
  · obtain ⟨⟨C, ty, e1, e2⟩, e3⟩ := hS.cells o cs (hp.ob _ _ h1 rfl)
    exact ⟨⟨C, ty, e1, e2.mono hgx⟩, e3⟩
  · refine ⟨hx.gx.trans hgx, hx.size, fun b hb' ho => ?_, hx.frame, hx.os, hx.tape, hx.output, hx.im⟩
    obtain ⟨o, ob, h1, h2, h3⟩ := ho
    rw [hb] at h3
    exact hx.ow b hb' ⟨o, ob, hp.ob _ _ h1 h2, h2, h3⟩

theorem envS_wk {g : Gh} {w : World} : ∀ {ts : List Nat} {vs vs2 : List PV}, WkL vs vs2 → ∀ t v, Rel g w (envS ts vs t) v → Rel g w (envS ts vs2 t) v
  | [], _, _, _, t, v, _ => by unfold envS; exact .any v
  | k :: ts, _, _, .nil, t, v, _ => by unfold envS; exact .any v
  | k :: ts, _, _, .cons h hs, t, v, hr => by
    simp only [envS] at hr ⊢
    cases hk : t == k with
    | true => rw [hk] at hr; exact h g w v hr
    | false => rw [hk] at hr; exact envS_wk hs t v hr

/-- what a round of such a loop must bring -/
def loopP {σ : Type} (Q : Ex → Env → Heap → Prop) (n0 : Nat) (slots : List Nat) (I : σ → Prop) (V : σ → List PV) (Hp : σ → Heap) (m : σ → Nat) (s : σ) : Ex → List PV → Heap → Prop := fun ex vs H' => match ex with
  | .normal => ∃ s', m s' < m s ∧ I s' ∧ Relab n0 vs H' (V s') (Hp s')
  | .exit i => ∃ vs2 H2, WkL vs vs2 ∧ Pad H' H2 ∧ Q (.exit i) (envS slots vs2) H2
  | .ret => ∃ vs2 H2, WkL vs vs2 ∧ Pad H' H2 ∧ Q .ret (envS slots vs2) H2

theorem aw_loop6a {P : Program} {gl : Glob} (hgl : GlobLow gl) {n : Nat} {x : Code} {Q : Ex → Env → Heap → Prop} {e : Env} {H : Heap} {σ : Type} (slots : List Nat) (I : σ → Prop) (V : σ → List PV) (Hp : σ → Heap) (m : σ → Nat) (s0 : σ)
    (h0 : I s0) (he : slots.map e = V s0) (hH : H = Hp s0)
    (round : ∀ s, I s → AW P gl n x (fun ex e' H' => loopP Q H.length slots I V Hp m s ex (slots.map e') H') (envS slots (V s)) (Hp s)) : AW P gl n (.loop x) Q e H := by
  intro hd g a w hst
  simp only [dstAll] at hd
  have hng : g.n = H.length := hst.sim.n
  refine wp_loop_ghost (fun k a' w' => ∃ g' s, k = m s ∧ I s ∧ St gl n g' (envS slots (V s)) (Hp s) a' w' ∧ Ext g H w g' (Hp s) w') (m s0) ⟨g, s0, rfl, h0, by rw [← hH, ← he]; exact hst.weaken (envS_le e slots), by rw [← hH]; exact .refl g H w⟩ ?_
  rintro k a1 w1 ⟨g1, s, rfl, hI, hst1, hx1⟩
  refine wp_mono (round s hI hd g1 a1 w1 hst1) ?_
  rintro ex a' w' ⟨ex', g', e', H', k0, k1, k2, k3⟩
  have k1' := k1.weaken (envS_le e' slots)
  have wk : ∀ {vs2 : List PV} {H2 : Heap}, WkL (slots.map e') vs2 → Pad H' H2 → ∃ g3, St gl n g3 (envS slots vs2) H2 a' w' ∧ Ext g H w g3 H2 w' := fun h1 h2 => by
    have k4 : St gl n g' (envS slots _) H' a' w' := ⟨k1'.sim, k1'.glob, ⟨k1'.env.1, fun t => envS_wk h1 t _ (k1'.env.2 t)⟩, k1'.dfr⟩
    exact k4.pad (hx1.trans k2) h2
  cases ex <;> cases ex' <;> first | exact k0.elim | skip
  · obtain ⟨s', hm, hI', hr⟩ := k3
    obtain ⟨g3, j1, j2⟩ := k1'.relab hgl (hx1.trans k2) hng hr
    exact ⟨m s', hm, g3, s', rfl, hI', j1, j2⟩
  · obtain ⟨vs2, H2, j1, j2, j3⟩ := k3
    obtain ⟨g3, j4, j5⟩ := wk j1 j2
    exact ⟨.exit _, g3, _, H2, k0, j4, j5, j3⟩
  · obtain ⟨vs2, H2, j1, j2, j3⟩ := k3
    obtain ⟨g3, j4, j5⟩ := wk j1 j2
    exact ⟨.ret, g3, _, H2, k0, j4, j5, j3⟩

theorem aw_loop6 {P : Program} {gl : Glob} (hgl : GlobLow gl) {n : Nat} {T : Tab} (hT : TabOk P gl T) {L : LTab} {hn : Oper → Nat} {x : Code} (hL : LOk P gl n x [] L) {Q : Ex → Env → Heap → Prop} {e : Env} {H : Heap} {σ : Type} (slots : List Nat) (I : σ → Prop) (V : σ → List PV) (Hp : σ → Heap) (m : σ → Nat) (s0 : σ)
    (h0 : I s0) (he : slots.map e = V s0) (hH : H = Hp s0)
    (round : ∀ s, I s → Holds (wpc br P gl T L hn x [] (envS slots (V s)) (Hp s) (fun ex e' H' => loopP Q H.length slots I V Hp m s ex (slots.map e') H'))) : AW P gl n (.loop x) Q e H :=
  aw_loop6a hgl slots I V Hp m s0 h0 he hH fun s hI => wpc_sound hT x [] hL _ _ _ (round s hI).out

/-- the growing row's tail and objects, behind so many rounds -/
def tlG (n0 : Nat) : Nat → Tail
  | 0 => .exact
  | _ + 1 => .tok n0
def hpG (B : Heap) : Nat → Heap
  | 0 => B
  | _ + 1 => B ++ [.tok]
theorem hpG_len (B : Heap) (i : Nat) : B.length ≤ (hpG B i).length := by cases i <;> simp [hpG]
theorem pad_G (B : Heap) (i : Nat) : Pad (hpG B i) (B ++ [.dead]) := by
  cases i with
  | zero => exact pad_dead B
  | succ i => exact pad_kill B .tok
theorem wk_G (es : List (List PV)) (n0 i : Nat) : Wk (.list es (tlG n0 i)) (.list es .no) := .list es _

#print axioms aw_loop6
end Go.AM
