/-
  An abstract machine over values without memory, proved against the model; part 13. A tool for the proofs of this claim; it states nothing of the program.
-/
import Derived.Test.YtmcincfonnfblaaA12
/-! AM, part 13: regions, code, calls. -/
namespace Go.AM
open Go

def upd (e : Env) (d : Option Tmp) (x : PV) : Env :=
  match d with
  | some t => fun k => if k = t then x else e k
  | none => e

/-- a row of operations -/
def regw (P : Program) (gl : Glob) (hn : Oper → Nat) (ops : Array Oper) : List Oper → Env → Heap → (Env → Heap → Prop) → Prop
  | [], e, H, K => K e H
  | o :: l, e, H, K =>
    match o.guard with
    | none => opw P gl o.op (hn o) (ev gl e) H fun x H' => regw P gl hn ops l (upd e o.dst x) H' K
    | some (j, want) => match (ops[j]?).bind (·.dst) with
      | some d => match e d with
        | .bool b => (b = want → opw P gl o.op (hn o) (ev gl e) H fun x H' => regw P gl hn ops l (upd e o.dst x) H' K) ∧ (b = !want → regw P gl hn ops l (upd e o.dst (.tup [])) H K)
        | .tup [] => regw P gl hn ops l (upd e o.dst (.tup [])) H K
        | _ => False
      | none => False

/-- how it goes on behind an operation -/
def RegK (P : Program) (gl : Glob) (hn : Oper → Nat) (ops : Array Oper) (l : List Oper) (e : Env) (d : Option Tmp) (K : Env → Heap → Prop) : PV → Heap → Prop :=
  fun x H' => regw P gl hn ops l (upd e d x) H' K

theorem regw_nil (P : Program) (gl : Glob) (hn : Oper → Nat) (ops : Array Oper) (e : Env) (H : Heap) (K : Env → Heap → Prop) : regw P gl hn ops [] e H K = K e H := rfl

theorem regw_none (P : Program) (gl : Glob) (hn : Oper → Nat) (ops : Array Oper) (d : Option Tmp) (op : Op) (ty : TypeId) (pos : String) (af : Array Edge) (l : List Oper) (e : Env) (H : Heap) (K : Env → Heap → Prop) :
    regw P gl hn ops (⟨d, op, ty, pos, af, none⟩ :: l) e H K = opw P gl op (hn ⟨d, op, ty, pos, af, none⟩) (ev gl e) H (RegK P gl hn ops l e d K) := rfl

theorem regw_some (P : Program) (gl : Glob) (hn : Oper → Nat) (ops : Array Oper) (d : Option Tmp) (op : Op) (ty : TypeId) (pos : String) (af : Array Edge) (j : Nat) (want : Bool) (l : List Oper) (e : Env) (H : Heap) (K : Env → Heap → Prop) :
    regw P gl hn ops (⟨d, op, ty, pos, af, some (j, want)⟩ :: l) e H K = match (ops[j]?).bind (·.dst) with
      | some t => match e t with
        | .bool b => (b = want → opw P gl op (hn ⟨d, op, ty, pos, af, some (j, want)⟩) (ev gl e) H (RegK P gl hn ops l e d K)) ∧ (b = !want → regw P gl hn ops l (upd e d (.tup [])) H K)
        | .tup [] => regw P gl hn ops l (upd e d (.tup [])) H K
        | _ => False
      | none => False := rfl

theorem RegK_apply (P : Program) (gl : Glob) (hn : Oper → Nat) (ops : Array Oper) (l : List Oper) (e : Env) (d : Option Tmp) (K : Env → Heap → Prop) (x : PV) (H : Heap) :
    RegK P gl hn ops l e d K x H = regw P gl hn ops l (upd e d x) H K := rfl

/-- the ends of a piece of code -/
inductive Ex where
  | normal
  | exit (id : Nat)
  | ret

def exRel : Exit → Ex → Prop
  | .normal, .normal => True
  | .exit i, .exit j => i = j
  | .ret, .ret => True
  | _, _ => False

/-- every operation's slot lies in the frame -/
def dstLt (n : Nat) (o : Oper) : Bool := match o.dst with
  | some d => decide (d < n)
  | none => true

def dstAll (n : Nat) : Code → Bool
  | .region _ ops _ => ops.toList.all (dstLt n)
  | .seq a b => dstAll n a && dstAll n b
  | .cond _ a b => dstAll n a && dstAll n b
  | .block _ b => dstAll n b
  | .loop b => dstAll n b
  | .scope b => dstAll n b
  | _ => true

/-- a state of the machine that reads as an environment and objects -/
structure St (gl : Glob) (n : Nat) (g : Gh) (e : Env) (H : Heap) (a : Act) (w : World) : Prop where
  sim : Sim g H w
  glob : GlobOk g w gl
  env : EnvRel g w n e a
  dfr : a.defers = []

theorem EnvRel.put {g : Gh} {w : World} {n : Nat} {e : Env} {a : Act} (h : EnvRel g w n e a) {x : PV} {v : Value} (hx : Rel g w x v) (d : Option Tmp) (hd : ∀ t, d = some t → t < n) : EnvRel g w n (upd e d x) (a.put d v) := by
  cases d with
  | none => exact h
  | some t =>
    refine ⟨by simp [Act.put, h.1], fun k => ?_⟩
    simp only [upd, Act.put]
    by_cases hk : k = t
    · subst hk
      rw [if_pos rfl]
      have : k < a.tmps.size := by rw [h.1]; exact hd k rfl
      simp [Array.getD, this]; exact hx
    · rw [if_neg hk]
      have := h.2 k
      simp only [Array.getD_eq_getD_getElem?] at this ⊢
      rw [Array.getElem?_setIfInBounds_ne (Ne.symm hk)]
      exact this

/-- a piece of code on pure values -/
def AW (P : Program) (gl : Glob) (n : Nat) (c : Code) (Q : Ex → Env → Heap → Prop) (e : Env) (H : Heap) : Prop :=
  dstAll n c = true → ∀ g a w, St gl n g e H a w →
    c.wp P (fun ex a' w' => ∃ ex' g' e' H', exRel ex ex' ∧ St gl n g' e' H' a' w' ∧ Ext g H w g' H' w' ∧ Q ex' e' H') a w

theorem St.next {gl : Glob} {n : Nat} {g g' : Gh} {e : Env} {H H' : Heap} {a : Act} {w w' : World} (h : St gl n g e H a w) (hs : Sim g' H' w') (hx : Ext g H w g' H' w') {x : PV} {v : Value} (hr : Rel g' w' x v) (d : Option Tmp) (hd : ∀ t, d = some t → t < n) :
    St gl n g' (upd e d x) H' (a.put d v) w' :=
  ⟨hs, h.glob.mono hx.gx, (h.env.mono hx.gx).put hr d hd, by cases d <;> exact h.dfr⟩

theorem undef_rel (g : Gh) (w : World) : Rel g w (.tup []) undef := Rel.tup_iff.2 ⟨#[], rfl, .nil⟩

theorem opWp_mono {P : Program} {o : Oper} {a : Act} {w : World} {next next' : Act → World → Prop} {Q Q' : Exit → Act → World → Prop} (hn : ∀ a w, next a w → next' a w) (hq : ∀ e a w, Q e a w → Q' e a w)
    (h : o.wp P a w next Q) : o.wp P a w next' Q' := by
  unfold Oper.wp Oper.upon at *
  split at h
  · exact hn _ _ h
  · exact hn _ _ h
  · exact hn _ _ h
  · refine h.mono ?_
    intro e w' hr
    cases e with
    | returned v => exact hn _ _ hr
    | panicked chain => exact hq _ _ _ hr
    | outgrown => obtain ⟨a, w, k⟩ := hr; exact ⟨a, w, hq _ _ _ k⟩
  · exact h.mono fun v w' hr => hn _ _ hr
  · exact hq _ _ _ h
  · exact h.elim

theorem wpOps_mono {P : Program} {ops : Array Oper} {Q Q' : Exit → Act → World → Prop} (is : List Nat) (hq : ∀ e a w, Q e a w → Q' e a w) : ∀ (a : Act) (w : World), wpOps P ops Q is a w → wpOps P ops Q' is a w := by
  induction is with
  | nil => intro a w h; exact hq _ _ _ h
  | cons i is ih =>
    intro a w h
    unfold wpOps at h ⊢
    split at h
    · exact ih a w h
    · split at h
      · rename_i hw
        rw [if_pos hw]
        rcases h with h | ⟨h1, a0, w0, h2⟩
        · exact .inl (opWp_mono ih hq h)
        · exact .inr ⟨h1, a0, w0, hq _ _ _ h2⟩
      · rename_i hw
        rw [if_neg hw]
        exact ih _ w h

/-- a row of operations in the machine: by places -/
theorem yielded_none {gl : Glob} {n : Nat} {g : Gh} {e : Env} {H : Heap} {a : Act} {w : World} (hst : St gl n g e H a w) {ops : Array Oper} {j : Nat} {d : Tmp} (hd : (ops[j]?).bind (·.dst) = some d) (hb : e d = .tup []) :
    yielded ops a.tmps j = none := by
  unfold yielded
  rw [hd]
  simp only [Option.bind_some]
  have hr := hst.env.2 d
  rw [hb] at hr
  rcases Nat.lt_or_ge d a.tmps.size with hlt | hge
  · rw [Array.getD_eq_getD_getElem?, Array.getElem?_eq_getElem hlt] at hr
    rw [Array.getElem?_eq_getElem hlt]
    simp only [Option.getD_some] at hr
    generalize a.tmps[d] = v at hr
    cases hr; rfl
  · rw [Array.getElem?_eq_none hge]

theorem regw_sound {P : Program} {gl : Glob} {hn : Oper → Nat} {n : Nat} {ops : Array Oper} {K : Env → Heap → Prop} (hd : ops.toList.all (dstLt n) = true) : ∀ (is : List Nat) (l : List Oper) (g : Gh) (e : Env) (H : Heap) (a : Act) (w : World),
    is.map (fun i => ops[i]?) = l.map some → St gl n g e H a w → regw P gl hn ops l e H K →
    wpOps P ops (fun ex a' w' => ∃ g' e' H', ex = .normal ∧ St gl n g' e' H' a' w' ∧ Ext g H w g' H' w' ∧ K e' H') is a w := by
  intro is
  induction is with
  | nil =>
    intro l g e H a w hl hst h
    have : l = [] := by simpa using hl
    subst this
    exact ⟨g, e, H, rfl, hst, .refl g H w, h⟩
  | cons i is ih =>
    intro l g e H a w hl hst h
    cases l with
    | nil => simp at hl
    | cons o l =>
      simp only [List.map_cons, List.cons.injEq] at hl
      obtain ⟨hi, hl⟩ := hl
      have hmem : o ∈ ops.toList := by
        obtain ⟨hlt, he⟩ := Array.getElem?_eq_some_iff.1 hi
        rw [← he]; exact Array.getElem_mem_toList hlt
      have hdo : ∀ t, o.dst = some t → t < n := by
        intro t ht
        have := List.all_eq_true.1 hd o hmem
        simpa [dstLt, ht] using this
      have step : ∀ (K' : PV → Heap → Prop), (∀ x H', K' x H' → regw P gl hn ops l (upd e o.dst x) H' K) → opw P gl o.op (hn o) (ev gl e) H K' →
          o.wp P a w (wpOps P ops (fun ex a' w' => ∃ g' e' H', ex = .normal ∧ St gl n g' e' H' a' w' ∧ Ext g H w g' H' w' ∧ K e' H') is) (fun ex a' w' => ∃ g' e' H', ex = .normal ∧ St gl n g' e' H' a' w' ∧ Ext g H w g' H' w' ∧ K e' H') := by
        intro K' hK' hop
        have hno := opw_sound hst.sim hst.glob (o := o) (a := a) (fun x => hst.env.ev hst.glob x) hop
        have cont : ∀ (g1 : Gh) (H1 : Heap) (w1 : World) (x : PV) (v : Value), Sim g1 H1 w1 → Ext g H w g1 H1 w1 → Rel g1 w1 x v → K' x H1 →
            wpOps P ops (fun ex a' w' => ∃ g' e' H', ex = .normal ∧ St gl n g' e' H' a' w' ∧ Ext g H w g' H' w' ∧ K e' H') is (a.put o.dst v) w1 := by
          intro g1 H1 w1 x v h1 h2 h3 h4
          have := ih l g1 (upd e o.dst x) H1 (a.put o.dst v) w1 hl (hst.next h1 h2 h3 o.dst hdo) (hK' x H1 h4)
          refine wpOps_mono _ ?_ _ _ this
          rintro ex a' w' ⟨g', e', H', rfl, k1, k2, k3⟩
          exact ⟨g', e', H', rfl, k1, h2.trans k2, k3⟩
        unfold Oper.wp
        rcases hno with ⟨v, w', g', H', x, h1, h2, h3, h4, h5⟩ | ⟨w', g', H', h1, h2, h3, h4⟩ | ⟨f, vs, h1, h2⟩
        · rw [h1]; exact cont g' H' w' x v h2 h3 h4 h5
        · rw [h1]; exact cont g' H' w' (.tup []) undef h2 h3 (undef_rel g' w') h4
        · rw [h1]
          refine h2.mono ?_
          rintro ex w' ⟨v, g', H', x, rfl, k1, k2, k3, k4⟩
          exact cont g' H' w' x v k1 k2 k3 k4
      unfold wpOps
      rw [hi]
      simp only
      unfold regw at h
      split at h
      · rename_i hg
        have hw : Region.wanted o (yielded ops a.tmps) = true := by simp [Region.wanted, hg]
        rw [if_pos hw]
        exact .inl (step _ (fun x H' hk => hk) h)
      · rename_i j want hg
        split at h
        · rename_i d hd'
          split at h
          · rename_i b hb
            have hy : yielded ops a.tmps j = some b := by
              unfold yielded
              rw [hd']
              simp only [Option.bind_some]
              have hr := hst.env.2 d
              rw [hb] at hr
              have hlt : d < a.tmps.size := by
                rcases Nat.lt_or_ge d a.tmps.size with h | h
                · exact h
                · exfalso
                  rw [Array.getD_eq_getD_getElem?, Array.getElem?_eq_none h] at hr
                  simp only [Option.getD_none, undef] at hr
                  cases hr
              rw [Array.getD_eq_getD_getElem?, Array.getElem?_eq_getElem hlt] at hr
              rw [Array.getElem?_eq_getElem hlt]
              simp only [Option.getD_some] at hr
              generalize a.tmps[d] = v at hr
              cases hr; rfl
            by_cases hbw : b = want
            · have hw : Region.wanted o (yielded ops a.tmps) = true := by simp [Region.wanted, hg, hy, hbw]
              rw [if_pos hw]
              exact .inl (step _ (fun x H' hk => hk) (h.1 hbw))
            · have hw : ¬ Region.wanted o (yielded ops a.tmps) = true := by simp [Region.wanted, hg, hy, hbw]
              rw [if_neg hw]
              have hbn : b = !want := by cases b <;> cases want <;> simp_all
              have := ih l g (upd e o.dst (.tup [])) H (a.put o.dst undef) w hl (hst.next hst.sim (.refl g H w) (undef_rel g w) o.dst hdo) (h.2 hbn)
              exact this
          · rename_i hb
            have hy : yielded ops a.tmps j = none := yielded_none hst hd' hb
            have hw : ¬ Region.wanted o (yielded ops a.tmps) = true := by simp [Region.wanted, hg, hy]
            rw [if_neg hw]
            exact ih l g (upd e o.dst (.tup [])) H (a.put o.dst undef) w hl (hst.next hst.sim (.refl g H w) (undef_rel g w) o.dst hdo) h
          · exact h.elim
        · exact h.elim

theorem range_getElem? (ops : Array Oper) : (List.range ops.size).map (fun i => ops[i]?) = ops.toList.map some := by
  apply List.ext_getElem?
  intro q
  by_cases hq : q < ops.size
  · rw [List.getElem?_map, List.getElem?_range hq, List.getElem?_map]
    simp [hq]
  · rw [List.getElem?_eq_none (by simp; omega), List.getElem?_eq_none (by simp; omega)]

theorem aw_region {P : Program} {gl : Glob} {n : Nat} {id : Nat} {ops : Array Oper} {Q : Ex → Env → Heap → Prop} {e : Env} {H : Heap} (hn : Oper → Nat) (h : regw P gl hn ops ops.toList e H (Q .normal)) : AW P gl n (.region id ops false) Q e H := by
  intro hd g a w hst
  refine wp_region (wpOps_mono _ ?_ _ _ (regw_sound (n := n) hd _ _ g e H a w (range_getElem? ops) hst h))
  rintro ex a' w' ⟨g', e', H', rfl, k1, k2, k3⟩
  exact ⟨.normal, g', e', H', trivial, k1, k2, k3⟩

theorem AW.mono {P : Program} {gl : Glob} {n : Nat} {c : Code} {Q Q' : Ex → Env → Heap → Prop} {e : Env} {H : Heap} (h : AW P gl n c Q e H) (hq : ∀ ex e H, Q ex e H → Q' ex e H) : AW P gl n c Q' e H :=
  fun hd g a w hst => wp_mono (h hd g a w hst) fun _ _ _ ⟨ex', g', e', H', k0, k1, k2, k3⟩ => ⟨ex', g', e', H', k0, k1, k2, hq _ _ _ k3⟩

theorem aw_skip {P : Program} {gl : Glob} {n : Nat} {Q : Ex → Env → Heap → Prop} {e : Env} {H : Heap} (h : Q .normal e H) : AW P gl n .skip Q e H :=
  fun _ g _ w hst => wp_skip ⟨.normal, g, e, H, trivial, hst, .refl g H w, h⟩

theorem aw_label {P : Program} {gl : Glob} {n l : Nat} {Q : Ex → Env → Heap → Prop} {e : Env} {H : Heap} (h : Q .normal e H) : AW P gl n (.label l) Q e H :=
  fun _ g _ w hst => wp_label ⟨.normal, g, e, H, trivial, hst, .refl g H w, h⟩

theorem aw_exit {P : Program} {gl : Glob} {n id : Nat} {Q : Ex → Env → Heap → Prop} {e : Env} {H : Heap} (h : Q (.exit id) e H) : AW P gl n (.exit id) Q e H :=
  fun _ g _ w hst => wp_exit ⟨.exit id, g, e, H, rfl, hst, .refl g H w, h⟩

theorem aw_ret {P : Program} {gl : Glob} {n : Nat} {Q : Ex → Env → Heap → Prop} {e : Env} {H : Heap} (h : Q .ret e H) : AW P gl n .ret Q e H :=
  fun _ g _ w hst => wp_ret ⟨.ret, g, e, H, trivial, hst, .refl g H w, h⟩

theorem aw_cond {P : Program} {gl : Glob} {n : Nat} {c : Operand} {x y : Code} {Q : Ex → Env → Heap → Prop} {e : Env} {H : Heap} {b : Bool} (hc : ev gl e c = .bool b) (h1 : b = true → AW P gl n x Q e H) (h2 : b = false → AW P gl n y Q e H) :
    AW P gl n (.cond c x y) Q e H := by
  intro hd g a w hst
  simp only [dstAll, Bool.and_eq_true] at hd
  have hr := hst.env.ev hst.glob c
  rw [hc] at hr
  have hv : a.eval c = .bool b := by
    generalize a.eval c = v at hr
    cases hr; rfl
  refine wp_cond_split hv (fun hb => h1 hb hd.1 g a w hst) (fun hb => h2 hb hd.2 g a w hst)

/-- what comes behind a piece of code -/
inductive Kt where
  | fin (Q : Ex → Env → Heap → Prop)
  | seq (b : Code) (k : Kt)
  | blk (id : Nat) (k : Kt)
  | lp (I : Nat → Env → Heap → Prop) (m : Nat) (k : Kt)

def post (P : Program) (gl : Glob) (n : Nat) : Kt → Ex → Env → Heap → Prop
  | .fin Q => Q
  | .seq b k => fun ex e H => match ex with
    | .normal => AW P gl n b (post P gl n k) e H
    | ex => post P gl n k ex e H
  | .blk id k => fun ex e H => match ex with
    | .exit i => if i = id then post P gl n k .normal e H else post P gl n k (.exit i) e H
    | ex => post P gl n k ex e H
  | .lp I m k => fun ex e H => match ex with
    | .normal => ∃ m', m' < m ∧ I m' e H
    | ex => post P gl n k ex e H

theorem post_seq_normal (P : Program) (gl : Glob) (n : Nat) (b : Code) (k : Kt) (e : Env) (H : Heap) : post P gl n (.seq b k) .normal e H = AW P gl n b (post P gl n k) e H := rfl
theorem post_seq_exit (P : Program) (gl : Glob) (n : Nat) (b : Code) (k : Kt) (i : Nat) (e : Env) (H : Heap) : post P gl n (.seq b k) (.exit i) e H = post P gl n k (.exit i) e H := rfl
theorem post_seq_ret (P : Program) (gl : Glob) (n : Nat) (b : Code) (k : Kt) (e : Env) (H : Heap) : post P gl n (.seq b k) .ret e H = post P gl n k .ret e H := rfl
theorem post_blk_normal (P : Program) (gl : Glob) (n id : Nat) (k : Kt) (e : Env) (H : Heap) : post P gl n (.blk id k) .normal e H = post P gl n k .normal e H := rfl
theorem post_blk_exit (P : Program) (gl : Glob) (n id i : Nat) (k : Kt) (e : Env) (H : Heap) : post P gl n (.blk id k) (.exit i) e H = if i = id then post P gl n k .normal e H else post P gl n k (.exit i) e H := rfl
theorem post_blk_ret (P : Program) (gl : Glob) (n id : Nat) (k : Kt) (e : Env) (H : Heap) : post P gl n (.blk id k) .ret e H = post P gl n k .ret e H := rfl
theorem post_lp_normal (P : Program) (gl : Glob) (n : Nat) (I : Nat → Env → Heap → Prop) (m : Nat) (k : Kt) (e : Env) (H : Heap) : post P gl n (.lp I m k) .normal e H = ∃ m', m' < m ∧ I m' e H := rfl
theorem post_lp_exit (P : Program) (gl : Glob) (n : Nat) (I : Nat → Env → Heap → Prop) (m i : Nat) (k : Kt) (e : Env) (H : Heap) : post P gl n (.lp I m k) (.exit i) e H = post P gl n k (.exit i) e H := rfl
theorem post_lp_ret (P : Program) (gl : Glob) (n : Nat) (I : Nat → Env → Heap → Prop) (m : Nat) (k : Kt) (e : Env) (H : Heap) : post P gl n (.lp I m k) .ret e H = post P gl n k .ret e H := rfl
theorem post_fin (P : Program) (gl : Glob) (n : Nat) (Q : Ex → Env → Heap → Prop) (ex : Ex) (e : Env) (H : Heap) : post P gl n (.fin Q) ex e H = Q ex e H := rfl

theorem aw_seq {P : Program} {gl : Glob} {n : Nat} {x y : Code} {k : Kt} {e : Env} {H : Heap} (h : AW P gl n x (post P gl n (.seq y k)) e H) : AW P gl n (.seq x y) (post P gl n k) e H := by
  intro hd g a w hst
  simp only [dstAll, Bool.and_eq_true] at hd
  refine wp_seq (wp_mono (h hd.1 g a w hst) ?_)
  rintro ex a' w' ⟨ex', g', e', H', k0, k1, k2, k3⟩
  cases ex <;> cases ex' <;> first | exact k0.elim | skip
  · refine wp_mono (k3 hd.2 g' a' w' k1) ?_
    rintro ex2 a2 w2 ⟨ex3, g3, e3, H3, j0, j1, j2, j3⟩
    exact ⟨ex3, g3, e3, H3, j0, j1, k2.trans j2, j3⟩
  · exact ⟨.exit _, g', e', H', k0, k1, k2, k3⟩
  · exact ⟨.ret, g', e', H', k0, k1, k2, k3⟩

theorem aw_block {P : Program} {gl : Glob} {n id : Nat} {x : Code} {k : Kt} {e : Env} {H : Heap} (h : AW P gl n x (post P gl n (.blk id k)) e H) : AW P gl n (.block id x) (post P gl n k) e H := by
  intro hd g a w hst
  simp only [dstAll] at hd
  refine wp_block (wp_mono (h hd g a w hst) ?_)
  rintro ex a' w' ⟨ex', g', e', H', k0, k1, k2, k3⟩
  cases ex <;> cases ex' <;> first | exact k0.elim | skip
  · exact ⟨.normal, g', e', H', trivial, k1, k2, k3⟩
  · rename_i i j
    simp only [exRel] at k0
    subst k0
    simp only [post] at k3
    show (if i = id then _ else _)
    by_cases hi : i = id
    · rw [if_pos hi] at k3 ⊢
      exact ⟨.normal, g', e', H', trivial, k1, k2, k3⟩
    · rw [if_neg hi] at k3 ⊢
      exact ⟨.exit i, g', e', H', rfl, k1, k2, k3⟩
  · exact ⟨.ret, g', e', H', trivial, k1, k2, k3⟩

theorem aw_loop {P : Program} {gl : Glob} {n : Nat} {x : Code} {k : Kt} {e : Env} {H : Heap} (I : Nat → Env → Heap → Prop) (m0 : Nat) (h0 : I m0 e H)
    (round : ∀ m e H, I m e H → AW P gl n x (post P gl n (.lp I m k)) e H) : AW P gl n (.loop x) (post P gl n k) e H := by
  intro hd g a w hst
  simp only [dstAll] at hd
  refine wp_loop_ghost (fun m a' w' => ∃ g' e' H', St gl n g' e' H' a' w' ∧ Ext g H w g' H' w' ∧ I m e' H') m0 ⟨g, e, H, hst, .refl g H w, h0⟩ ?_
  rintro m a1 w1 ⟨g1, e1, H1, hst1, hx1, hI⟩
  refine wp_mono (round m e1 H1 hI hd g1 a1 w1 hst1) ?_
  rintro ex a' w' ⟨ex', g', e', H', k0, k1, k2, k3⟩
  cases ex <;> cases ex' <;> first | exact k0.elim | skip
  · obtain ⟨m', hm, hI'⟩ := k3
    exact ⟨m', hm, g', e', H', k1, hx1.trans k2, hI'⟩
  · exact ⟨.exit _, g', e', H', k0, k1, hx1.trans k2, k3⟩
  · exact ⟨.ret, g', e', H', k0, k1, hx1.trans k2, k3⟩

/-- a cut: what is asked of the code so far, and what goes on behind -/
theorem aw_cut {P : Program} {gl : Glob} {n : Nat} {x : Code} {k : Kt} {e : Env} {H : Heap} (R : Ex → Env → Heap → Prop) (h : AW P gl n x R e H) (hk : ∀ ex e H, R ex e H → post P gl n k ex e H) : AW P gl n x (post P gl n k) e H :=
  h.mono hk

/-- a row of the call's own is let go, and stands as a list -/
theorem aw_freeze {P : Program} {gl : Glob} {n : Nat} {c : Code} {Q : Ex → Env → Heap → Prop} {e : Env} {H : Heap} (t o len cap s : Nat) (cs : List PV) (es : List (List PV)) (ht : e t = .arr o 0 len cap) (ho : H[o]? = some (.cells cs))
    (hu : uni s es) (hl : es.length = len) (hlc : len ≤ cap) (hc : cs.take (len * s) = es.flatten)
    (h : AW P gl n c Q (upd e (some t) (.list es (if len = cap then .exact else .no))) (H.set o .dead)) : AW P gl n c Q e H := by
  intro hd g a w hst
  obtain ⟨g', k1, k2, k3⟩ := hst.sim.freeze ho
  have hr := hst.env.2 t
  rw [ht] at hr
  generalize hv : a.tmps.getD t undef = v at hr
  cases hr
  rename_i hog
  have hrow : ImmRow g' w ⟨g.bk o, 0, none⟩ es.flatten := by
    have : cs = es.flatten ++ cs.drop (len * s) := by rw [← hc, List.take_append_drop]
    rw [this] at k3
    exact k3.front
  have hlist : Rel g' w (.list es (if len = cap then .exact else .no)) (.slice (some ⟨g.bk o, 0, none⟩) len cap) := by
    refine Rel.list_iff.2 ⟨_, _, by rw [hl], uni_eq hu, by omega, ?_, .inr ⟨_, rfl, hrow⟩⟩
    split
    · rename_i e; simp only [TailOk]; omega
    · trivial
  have hst' : St gl n g' (upd e (some t) (.list es (if len = cap then .exact else .no))) (H.set o .dead) a w := by
    refine ⟨k1, hst.glob.mono k2.gx, ⟨hst.env.1, fun q => ?_⟩, hst.dfr⟩
    simp only [upd]
    by_cases hq : q = t
    · subst hq; rw [if_pos rfl, hv]; exact hlist
    · rw [if_neg hq]; exact (hst.env.2 q).mono k2.gx
  refine wp_mono (h hd g' a w hst') ?_
  rintro ex a' w' ⟨ex', g2, e2, H2, j0, j1, j2, j3⟩
  exact ⟨ex', g2, e2, H2, j0, j1, k2.trans j2, j3⟩

/-- results -/
def resA (P : Program) (H : Heap) (e : Env) : List ResultVar → Option (List PV)
  | [] => some []
  | .tmp t :: rs => match resA P H e rs with
    | some xs => some (e t :: xs)
    | none => none
  | .cell a t :: rs => match behind H (e a), tyA P t with
    | some cs, some (b, sz) => match loadPV b sz cs, resA P H e rs with
      | some y, some xs => some (y :: xs)
      | _, _ => none
    | _, _ => none

def resQ (P : Program) (rs : List ResultVar) (K : PV → Heap → Prop) : Ex → Env → Heap → Prop
  | .normal, e, H | .ret, e, H => match resA P H e rs with
    | some [x] => K x H
    | some xs => K (.tup xs) H
    | none => False
  | _, _, _ => False

theorem resA_run {P : Program} {gl : Glob} {n : Nat} {g : Gh} {e : Env} {H : Heap} {a : Act} {w : World} (hst : St gl n g e H a w) : ∀ (rs : List ResultVar) (xs : List PV), resA P H e rs = some xs →
    ∃ vs, (rs.mapM (fun (r : ResultVar) => (match r with
      | .tmp t => pure (a.tmps.getD t undef)
      | .cell b t => do loadVar t (← asAddr (a.tmps.getD b undef)) : Sem Value))).run P w = .ok vs w ∧ RelL g w xs vs := by
  intro rs
  induction rs with
  | nil => intro xs h; cases h; exact ⟨[], rfl, .nil⟩
  | cons r rs ih =>
    intro xs h
    cases r with
    | tmp t =>
      simp only [resA] at h
      split at h
      · rename_i xs' hxs
        cases h
        obtain ⟨vs, h1, h2⟩ := ih xs' hxs
        exact ⟨a.tmps.getD t undef :: vs, by simp only [List.mapM_cons, Sem.run_bind, Sem.run_pure, Result.andThen_ok, h1], .cons (hst.env.2 t) h2⟩
      · cases h
    | cell b t =>
      simp only [resA] at h
      split at h
      · rename_i cs bb sz hb ht
        split at h
        · rename_i y xs' hl hxs
          cases h
          obtain ⟨vs, h1, h2⟩ := ih xs' hxs
          obtain ⟨A, hA, hrow⟩ := behind_spec hst.sim (hst.env.2 b) hb
          obtain ⟨u, h3, h4⟩ := load_row (P := P) hrow ht hl
          refine ⟨u :: vs, ?_, .cons h4 h2⟩
          have e1 : (do loadVar t (← asAddr (a.tmps.getD b undef)) : Sem Value).run P w = .ok u w := by
            rw [hA, Sem.run_bind]
            exact h3
          rw [List.mapM_cons, Sem.run_bind]
          simp only
          rw [e1]
          simp only [Result.andThen_ok, Sem.run_bind, h1, Sem.run_pure]
        · cases h
      · cases h

def env0 (args : List PV) : Env := fun t => (args[t]?).getD (.tup [])

theorem acalls_of_aw {P : Program} {gl : Glob} {f : FuncId} {fn : Func} {c : Code} (hf : P.funcs[f]? = some fn) (hb : fn.body = some c) (hd : dstAll fn.ntmps c = true) {args : List PV} (hsz : args.length ≤ fn.ntmps) {H : Heap} {K : PV → Heap → Prop}
    (h : AW P gl fn.ntmps c (post P gl fn.ntmps (.fin (resQ P fn.results.toList K))) (env0 args) H) : ACalls P gl f args H K := by
  intro g w vs hS hG hR
  refine calls_of_wp hf hb ?_
  have hlen : vs.size = args.length := by have := hR.1; simp at this; omega
  have hst : St gl fn.ntmps g (env0 args) H { tmps := vs ++ Array.replicate (fn.ntmps - vs.size) undef, defers := [] } w := by
    refine ⟨hS, hG, ⟨by simp; omega, fun t => ?_⟩, rfl⟩
    simp only [env0, Array.getD_eq_getD_getElem?]
    by_cases ht : t < args.length
    · rw [List.getElem?_eq_getElem ht, Array.getElem?_append_left (by omega)]
      simp only [Option.getD_some]
      obtain ⟨v, hv, hr⟩ := hR.get (List.getElem?_eq_getElem ht)
      rw [Array.getElem?_toList] at hv
      rw [hv]; exact hr
    · rw [List.getElem?_eq_none (by omega)]
      simp only [Option.getD_none]
      rw [Array.getElem?_append_right (by omega)]
      have : (Array.replicate (fn.ntmps - vs.size) undef)[t - vs.size]?.getD undef = undef := by
        rw [Array.getElem?_replicate]; split <;> rfl
      rw [this]; exact undef_rel g w
  refine wp_mono (h hd g _ w hst) ?_
  rintro ex a' w' ⟨ex', g', e', H', k0, k1, k2, k3⟩
  have fin : (match resA P H' e' fn.results.toList with | some [x] => K x H' | some xs => K (.tup xs) H' | none => False) →
      a'.defers = [] ∧ ∃ v, (results fn a'.tmps).run P w' = .ok v w' ∧ ∃ v1 g1 H1 x, Ending.returned v = .returned v1 ∧ Sim g1 H1 w' ∧ Ext g H w g1 H1 w' ∧ Rel g1 w' x v1 ∧ K x H1 := by
    intro hk
    refine ⟨k1.dfr, ?_⟩
    split at hk
    · rename_i x hx
      obtain ⟨us, h1, h2⟩ := resA_run (P := P) k1 _ _ hx
      obtain ⟨u, rfl⟩ : ∃ u, us = [u] := by
        have := h2.1
        match us, this with
        | [u], _ => exact ⟨u, rfl⟩
      refine ⟨u, ?_, u, g', H', x, rfl, k1.sim, k2, h2.2 0 x u rfl rfl, hk⟩
      unfold results
      rw [Array.mapM_eq_mapM_toList, Sem.run_bind, Sem.run_map]
      refine Eq.trans (congrArg (fun z : Result (List Value) => (z.andThen fun a w' => Result.ok a.toArray w').andThen fun a w' => Sem.run P (pure (if h : a.size = 1 then a[0] else Value.tuple a)) w') h1) ?_
      rfl
    · rename_i xs hne hx
      obtain ⟨us, h1, h2⟩ := resA_run (P := P) k1 _ _ hx
      refine ⟨.tuple us.toArray, ?_, _, g', H', .tup xs, rfl, k1.sim, k2, Rel.tup_iff.2 ⟨_, rfl, by simpa using h2⟩, hk⟩
      unfold results
      rw [Array.mapM_eq_mapM_toList, Sem.run_bind, Sem.run_map]
      refine Eq.trans (congrArg (fun z : Result (List Value) => (z.andThen fun a w' => Result.ok a.toArray w').andThen fun a w' => Sem.run P (pure (if h : a.size = 1 then a[0] else Value.tuple a)) w') h1) ?_
      simp only [Result.andThen_ok]
      have hne1 : us.toArray.size ≠ 1 := by
        intro h
        simp at h
        have hl := h2.1
        rw [h] at hl
        match xs, hl, hne with
        | [x], _, hne => exact hne x rfl
      rw [dif_neg hne1]
      rfl
    · exact hk.elim
  cases ex <;> cases ex' <;> first | exact k0.elim | skip
  · exact fin k3
  · exact k3.elim
  · exact fin k3

end Go.AM
