/-
  An abstract machine over values without memory, proved against the model; part 23. A tool for the proofs of this claim; it states nothing of the program.
-/
import Derived.Test.YtmcincfonnfblaaA22
import Derived.Scope
/-! AM, part 23: code that comes out by computing; loops; functions. -/
namespace Go.AM
open Go

abbrev LSp := Env → Heap → (Ex → Env → Heap → Prop) → Prop
abbrev LTab := List (List Nat × LSp)
def lookL (p : List Nat) : LTab → Option LSp
  | [] => none
  | (q, s) :: L => match p == q with
    | true => some s
    | false => lookL p L

/-- the piece of code at a place -/
def sub : List Nat → Code → Option Code
  | [], c => some c
  | i :: p, .seq x y => match i with
    | 0 => sub p x
    | _ => sub p y
  | i :: p, .cond _ x y => match i with
    | 0 => sub p x
    | _ => sub p y
  | _ :: p, .block _ x => sub p x
  | _ :: p, .loop x => sub p x
  | _ :: p, .scope x => sub p x
  | _, _ => none

/-- the slot that a branch looked at is known behind it -/
def setB (e : Env) (c : Operand) (b : Bool) : Env := match c with
  | .tmp t => upd e (some t) (.bool b)
  | _ => e

def wpc (B : Bool → Prop → Prop → Prop) (P : Program) (gl : Glob) (T : Tab) (L : LTab) (hn : Oper → Nat) : Code → List Nat → Env → Heap → (Ex → Env → Heap → Prop) → Prop
  | .skip, _, e, H, Q => Q .normal e H
  | .label _, _, e, H, Q => Q .normal e H
  | .exit id, _, e, H, Q => Q (.exit id) e H
  | .ret, _, e, H, Q => Q .ret e H
  | .region _ ops d, p, e, H, Q => match lookL p L with
    | some s => s e H Q
    | none => match d with
      | false => regc B P gl T hn false ops ops.toList e H (Q .normal)
      | true => B (okOrder ops hn) (regc B P gl T hn true ops ops.toList e H (Q .normal)) False
  | .seq x y, p, e, H, Q => match lookL p L with
    | some s => s e H Q
    | none => wpc B P gl T L hn x (p ++ [0]) e H fun ex e' H' => match ex with
      | .normal => wpc B P gl T L hn y (p ++ [1]) e' H' Q
      | .exit i => Q (.exit i) e' H'
      | .ret => Q .ret e' H'
  | .cond c x y, p, e, H, Q => match lookL p L with
    | some s => s e H Q
    | none => match ev gl e c with
      | .bool b => B b (wpc B P gl T L hn x (p ++ [0]) (setB e c true) H Q) (wpc B P gl T L hn y (p ++ [1]) (setB e c false) H Q)
      | _ => False
  | .block id x, p, e, H, Q => match lookL p L with
    | some s => s e H Q
    | none => wpc B P gl T L hn x (p ++ [0]) e H fun ex e' H' => match ex with
      | .normal => Q .normal e' H'
      | .exit i => match i == id with
        | true => Q .normal e' H'
        | false => Q (.exit i) e' H'
      | .ret => Q .ret e' H'
  | .loop _, p, e, H, Q => match lookL p L with
    | some s => s e H Q
    | none => False
  | .scope x, p, e, H, Q => wpc B P gl T L hn x (p ++ [0]) e H Q
  | _, _, _, _, _ => False

/-- the pieces are as told -/
def LOk (P : Program) (gl : Glob) (n : Nat) (c : Code) (p : List Nat) (L : LTab) : Prop :=
  ∀ q s x, lookL (p ++ q) L = some s → sub q c = some x → ∀ e H Q, s e H Q → AW P gl n x Q e H

theorem setB_self {gl : Glob} {e : Env} {c : Operand} {b : Bool} (h : ev gl e c = .bool b) : setB e c b = e := by
  unfold setB
  split
  · exact upd_self h
  · rfl

theorem aw_cond' {P : Program} {gl : Glob} {n : Nat} {c : Operand} {x y : Code} {Q : Ex → Env → Heap → Prop} {e : Env} {H : Heap} {b : Bool} (hc : ev gl e c = .bool b) (h1 : b = true → AW P gl n x Q e H) (h2 : b = false → AW P gl n y Q e H) :
    AW P gl n (.cond c x y) Q e H := aw_cond hc h1 h2

theorem aw_scope {P : Program} {gl : Glob} {n : Nat} {x : Code} {Q : Ex → Env → Heap → Prop} {e : Env} {H : Heap} (h : AW P gl n x Q e H) : AW P gl n (.scope x) Q e H := by
  intro hd g a w hst
  simp only [dstAll] at hd
  refine wp_scope_straight (wp_mono (h hd g a w hst) ?_)
  rintro ex a' w' ⟨ex', g', e', H', k0, k1⟩
  cases ex <;> first | (cases ex' <;> exact k0.elim) | exact ⟨ex', g', e', H', k0, k1⟩

theorem wpc_sound {P : Program} {gl : Glob} {n : Nat} {T : Tab} {L : LTab} {hn : Oper → Nat} (hT : TabOk P gl T) : ∀ (c : Code) (p : List Nat), LOk P gl n c p L → ∀ (e : Env) (H : Heap) (Q : Ex → Env → Heap → Prop),
    wpc br P gl T L hn c p e H Q → AW P gl n c Q e H := by
  intro c
  induction c with
  | skip => intro p _ e H Q h; exact aw_skip h
  | label l => intro p _ e H Q h; exact aw_label h
  | exit i => intro p _ e H Q h; exact aw_exit h
  | ret => intro p _ e H Q h; exact aw_ret h
  | region id ops d =>
    intro p hL e H Q h
    simp only [wpc] at h
    split at h
    · rename_i s hs
      exact hL [] s _ (by simpa using hs) rfl e H Q h
    · split at h
      · exact aw_region hn (regc_sound hT _ _ _ h)
      · obtain ⟨h1, h2⟩ := br_false h
        exact aw_region_draw hn h1 (regc_sound_draw hT _ _ _ h2)
  | seq x y ihx ihy =>
    intro p hL e H Q h
    have hx : LOk P gl n x (p ++ [0]) L := fun q s z h1 h2 => hL (0 :: q) s z (by simpa using h1) h2
    have hy : LOk P gl n y (p ++ [1]) L := fun q s z h1 h2 => hL (1 :: q) s z (by simpa using h1) h2
    simp only [wpc] at h
    split at h
    · rename_i s hs
      exact hL [] s _ (by simpa using hs) rfl e H Q h
    refine AW.mono (Q := post P gl n (.fin Q)) (aw_seq (AW.mono (ihx _ hx _ _ _ h) fun ex e' H' k => ?_)) fun ex e H k => k
    cases ex with
    | normal => exact (ihy _ hy _ _ _ k : AW P gl n y Q e' H')
    | exit i => exact k
    | ret => exact k
  | cond c x y ihx ihy =>
    intro p hL e H Q h
    have hx : LOk P gl n x (p ++ [0]) L := fun q s z h1 h2 => hL (0 :: q) s z (by simpa using h1) h2
    have hy : LOk P gl n y (p ++ [1]) L := fun q s z h1 h2 => hL (1 :: q) s z (by simpa using h1) h2
    simp only [wpc] at h
    split at h
    · rename_i s hs
      exact hL [] s _ (by simpa using hs) rfl e H Q h
    split at h
    · rename_i b hb
      obtain ⟨h1, h2⟩ := br_iff.1 h
      refine aw_cond hb (fun k => ?_) (fun k => ?_)
      · have h3 := h1 k
        rw [setB_self (by rw [hb, k])] at h3
        exact ihx _ hx _ _ _ h3
      · have h3 := h2 k
        rw [setB_self (by rw [hb, k])] at h3
        exact ihy _ hy _ _ _ h3
    · exact h.elim
  | block id x ihx =>
    intro p hL e H Q h
    have hx : LOk P gl n x (p ++ [0]) L := fun q s z h1 h2 => hL (0 :: q) s z (by simpa using h1) h2
    simp only [wpc] at h
    split at h
    · rename_i s hs
      exact hL [] s _ (by simpa using hs) rfl e H Q h
    refine AW.mono (Q := post P gl n (.fin Q)) (aw_block (AW.mono (ihx _ hx _ _ _ h) fun ex e' H' k => ?_)) fun ex e H k => k
    cases ex with
    | normal => exact k
    | exit i =>
      rw [post_blk_exit]
      simp only at k
      split at k
      · rename_i hi; rw [if_pos (by simpa using hi)]; exact k
      · rename_i hi; rw [if_neg (by simpa using hi)]; exact k
    | ret => exact k
  | loop x ih =>
    intro p hL e H Q h
    simp only [wpc] at h
    split at h
    · rename_i s hs
      exact hL [] s _ (by simpa using hs) rfl e H Q h
    · exact h.elim
  | scope x ihx =>
    intro p hL e H Q h
    have hx : LOk P gl n x (p ++ [0]) L := fun q s z h1 h2 => hL (0 :: q) s z (by simpa using h1) h2
    exact aw_scope (ihx _ hx _ _ _ h)
  | _ => intro p _ e H Q h; exact h.elim

theorem LOk.nil (P : Program) (gl : Glob) (n : Nat) (c : Code) (p : List Nat) : LOk P gl n c p [] := fun q s x h => by simp [lookL] at h

theorem LOk.cons {P : Program} {gl : Glob} {n : Nat} {c x : Code} {q : List Nat} {s : LSp} {L : LTab} (hs : sub q c = some x) (h : ∀ e H Q, s e H Q → AW P gl n x Q e H) (hL : LOk P gl n c [] L) : LOk P gl n c [] ((q, s) :: L) := by
  intro q' s' x' hl hs' e H Q hq
  simp only [lookL, List.nil_append] at hl
  split at hl
  · rename_i he
    have : q' = q := by simpa using he
    subst this
    cases hl
    rw [hs] at hs'; cases hs'
    exact h e H Q hq
  · exact hL q' s' x' (by simpa using hl) hs' e H Q hq

theorem acalls_of_wpc {P : Program} {gl : Glob} {f : FuncId} {fn : Func} {c : Code} {T : Tab} {L : LTab} (hn : Oper → Nat) (hf : P.funcs[f]? = some fn) (hb : fn.body = some c) (hd : dstAll fn.ntmps c = true) {args : List PV} (hsz : args.length ≤ fn.ntmps) {H : Heap} {K : PV → Heap → Prop}
    (hT : TabOk P gl T) (hL : LOk P gl fn.ntmps c [] L) (h : wpc br P gl T L hn c [] (env0 args) H (resQ P fn.results.toList K)) : ACalls P gl f args H K :=
  acalls_of_aw hf hb hd hsz ((wpc_sound hT c [] hL _ _ _ h).mono fun _ _ _ k => k)

/-- less is known -/
def EnvLe (e e1 : Env) : Prop := ∀ t, e1 t = e t ∨ e1 t = .any

theorem EnvLe.refl (e : Env) : EnvLe e e := fun _ => .inl rfl

theorem St.weaken {gl : Glob} {n : Nat} {g : Gh} {e e1 : Env} {H : Heap} {a : Act} {w : World} (h : St gl n g e H a w) (he : EnvLe e e1) : St gl n g e1 H a w := by
  obtain ⟨h1, h2, h3, h4⟩ := h
  refine ⟨h1, h2, ⟨h3.1, fun t => ?_⟩, h4⟩
  rcases he t with k | k <;> rw [k]
  · exact h3.2 t
  · exact .any _

theorem AW.weaken {P : Program} {gl : Glob} {n : Nat} {c : Code} {Q : Ex → Env → Heap → Prop} {e : Env} {H : Heap} (h : AW P gl n c (fun ex e' H' => ∃ e1, EnvLe e' e1 ∧ Q ex e1 H') e H) : AW P gl n c Q e H := by
  intro hd g a w hst
  refine wp_mono (h hd g a w hst) ?_
  rintro ex a' w' ⟨ex', g', e', H', k0, k1, k2, e1, k3, k4⟩
  exact ⟨ex', g', e1, H', k0, k1.weaken k3, k2, k4⟩

theorem AW.of_le {P : Program} {gl : Glob} {n : Nat} {c : Code} {Q : Ex → Env → Heap → Prop} {e e1 : Env} {H : Heap} (he : EnvLe e e1) (h : AW P gl n c Q e1 H) : AW P gl n c Q e H :=
  fun hd g a w hst => h hd g a w (hst.weaken he)

/-- objects behind the first ones are let go -/
def LowS (e : Env) (H : Heap) : Prop := (∀ t, Low H.length (e t)) ∧ ∀ (o : Nat) cs, H[o]? = some (.cells cs) → ∀ x ∈ cs, Low H.length x

theorem AW.forget {P : Program} {gl : Glob} (hgl : GlobLow gl) {n : Nat} {c : Code} {Q : Ex → Env → Heap → Prop} {e : Env} {H : Heap}
    (h : AW P gl n c (fun ex e' H' => ∃ e1 H1 G, EnvLe e' e1 ∧ H' = H1 ++ G ∧ H.length ≤ H1.length ∧ LowS e1 H1 ∧ Q ex e1 H1) e H) : AW P gl n c Q e H := by
  intro hd g a w hst
  refine wp_mono (h hd g a w hst) ?_
  rintro ex a' w' ⟨ex', g', e', H', k0, k1, k2, e1, H1, G, k3, rfl, hlen, hlow, k4⟩
  have k5 := k1.weaken k3
  refine ⟨ex', g'.cutAt H1.length, e1, H1, k0, ⟨?_, ?_, ⟨k5.env.1, fun t => (k5.env.2 t).cutAt (hlow.1 t)⟩, k5.dfr⟩, ?_, k4⟩
  · have hS' := k5.sim
    refine ⟨rfl, fun o o' ob ob' b h1 h2 => by rw [blk_cut]; exact hS'.inj o o' ob ob' b (get_pre h1) (get_pre h2), fun o cs h1 => ?_, fun o h1 => hS'.tok o (get_pre h1), hS'.imm, fun o r h1 => hS'.abs o r (get_pre h1)⟩
    obtain ⟨⟨C, ty, e1, e2⟩, e3⟩ := hS'.cells o cs (get_pre h1)
    exact ⟨⟨C, ty, e1, e2.1, fun q y u hy hu => (e2.2 q y u hy hu).cutAt (hlow.2 o cs h1 y (List.mem_iff_getElem?.2 ⟨q, hy⟩))⟩, e3⟩
  · intro k cs hk
    refine ⟨(k5.glob k cs hk).1, fun q x hx => ?_⟩
    obtain ⟨h1, c, h2, h3⟩ := (k5.glob k cs hk).2 q x hx
    refine ⟨h1, c, h2, h3.cutAt ?_⟩
    have hz := hgl k cs hk x (List.mem_iff_getElem?.2 ⟨q, hx⟩)
    exact hz.up
  · have hn : g.n = H.length := hst.sim.n
    refine ⟨⟨by rw [hn]; exact hlen, k2.gx.bk, k2.gx.en, k2.gx.sz, k2.gx.imm, k2.gx.cell⟩, k2.size, fun b hb ho => ?_, k2.frame, k2.os, k2.tape, k2.output, k2.im⟩
    obtain ⟨o, ob, j1, j2, j3⟩ := ho
    rw [blk_cut] at j3
    exact k2.ow b hb ⟨o, ob, get_pre j1, j2, j3⟩

/-- a loop: the states at its head, told by a kind of their own -/
theorem aw_loop2 {P : Program} {gl : Glob} {n : Nat} {x : Code} {Q : Ex → Env → Heap → Prop} {e : Env} {H : Heap} {σ : Type} (I : σ → Prop) (E : σ → Env) (Hp : σ → Heap) (m : σ → Nat) (s0 : σ) (h0 : I s0) (he : EnvLe e (E s0)) (hH : H = Hp s0)
    (round : ∀ s, I s → AW P gl n x (fun ex e' H' => match ex with
      | .normal => ∃ s', m s' < m s ∧ I s' ∧ e' = E s' ∧ H' = Hp s'
      | .exit i => Q (.exit i) e' H'
      | .ret => Q .ret e' H') (E s) (Hp s)) : AW P gl n (.loop x) Q e H := by
  subst hH
  refine AW.of_le he ?_
  refine AW.mono (Q := post P gl n (.fin Q)) ?_ fun ex e H k => k
  refine aw_loop (fun k e H => ∃ s, k = m s ∧ I s ∧ e = E s ∧ H = Hp s) (m s0) ⟨s0, rfl, h0, rfl, rfl⟩ ?_
  rintro k e1 H1 ⟨s, rfl, hI, rfl, rfl⟩
  refine (round s hI).mono fun ex e' H' h => ?_
  cases ex with
  | normal =>
    obtain ⟨s', h1, h2, h3, h4⟩ := h
    exact ⟨m s', h1, s', rfl, h2, h3, h4⟩
  | exit i => exact h
  | ret => exact h

#print axioms aw_loop2
#print axioms AW.forget
#print axioms acalls_of_wpc
end Go.AM
