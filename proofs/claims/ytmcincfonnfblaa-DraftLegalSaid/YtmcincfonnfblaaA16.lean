/-
  An abstract machine over values without memory, proved against the model; part 16. A tool for the proofs of this claim; it states nothing of the program.
-/
import Derived.Test.YtmcincfonnfblaaA15
/-! AM, part 16: a region whose order is drawn. -/
namespace Go.AM
open Go

def regd (P : Program) (gl : Glob) (hn : Oper → Nat) (ops : Array Oper) : List Oper → Env → Heap → (Env → Heap → Prop) → Prop
  | [], e, H, K => K e H
  | o :: l, e, H, K =>
    match o.guard with
    | none => opwD P gl o.op (hn o) (ev gl e) H fun x H' => regd P gl hn ops l (upd e o.dst x) H' K
    | some (j, want) => match (ops[j]?).bind (·.dst) with
      | some d => match e d with
        | .bool b => (b = want → opwD P gl o.op (hn o) (ev gl e) H fun x H' => regd P gl hn ops l (upd e o.dst x) H' K) ∧ (b = !want → regd P gl hn ops l (upd e o.dst (.tup [])) H K)
        | .tup [] => regd P gl hn ops l (upd e o.dst (.tup [])) H K
        | _ => False
      | none => False

def RegDK (P : Program) (gl : Glob) (hn : Oper → Nat) (ops : Array Oper) (l : List Oper) (e : Env) (d : Option Tmp) (K : Env → Heap → Prop) : PV → Heap → Prop :=
  fun x H' => regd P gl hn ops l (upd e d x) H' K

theorem regd_nil (P : Program) (gl : Glob) (hn : Oper → Nat) (ops : Array Oper) (e : Env) (H : Heap) (K : Env → Heap → Prop) : regd P gl hn ops [] e H K = K e H := rfl

theorem regd_none (P : Program) (gl : Glob) (hn : Oper → Nat) (ops : Array Oper) (d : Option Tmp) (op : Op) (ty : TypeId) (pos : String) (af : Array Edge) (l : List Oper) (e : Env) (H : Heap) (K : Env → Heap → Prop) :
    regd P gl hn ops (⟨d, op, ty, pos, af, none⟩ :: l) e H K = opwD P gl op (hn ⟨d, op, ty, pos, af, none⟩) (ev gl e) H (RegDK P gl hn ops l e d K) := rfl

theorem regd_some (P : Program) (gl : Glob) (hn : Oper → Nat) (ops : Array Oper) (d : Option Tmp) (op : Op) (ty : TypeId) (pos : String) (af : Array Edge) (j : Nat) (want : Bool) (l : List Oper) (e : Env) (H : Heap) (K : Env → Heap → Prop) :
    regd P gl hn ops (⟨d, op, ty, pos, af, some (j, want)⟩ :: l) e H K = match (ops[j]?).bind (·.dst) with
      | some t => match e t with
        | .bool b => (b = want → opwD P gl op (hn ⟨d, op, ty, pos, af, some (j, want)⟩) (ev gl e) H (RegDK P gl hn ops l e d K)) ∧ (b = !want → regd P gl hn ops l (upd e d (.tup [])) H K)
        | .tup [] => regd P gl hn ops l (upd e d (.tup [])) H K
        | _ => False
      | none => False := rfl

theorem RegDK_apply (P : Program) (gl : Glob) (hn : Oper → Nat) (ops : Array Oper) (l : List Oper) (e : Env) (d : Option Tmp) (K : Env → Heap → Prop) (x : PV) (H : Heap) :
    RegDK P gl hn ops l e d K x H = regd P gl hn ops l (upd e d x) H K := rfl

theorem regd_chain {P : Program} {gl : Glob} {hn : Oper → Nat} {ops : Array Oper} {K : Env → Heap → Prop} (hc : ∀ o ∈ ops.toList, (cl (hn o) o.op).isSome = true) : ∀ (is : List Nat) (l : List Oper) (e : Env) (H : Heap),
    is.map (fun i => ops[i]?) = l.map some → regd P gl hn ops l e H K → ∃ e2 H2, Chain P gl hn ops is e H e2 H2 ∧ K e2 H2 := by
  intro is
  induction is with
  | nil =>
    intro l e H hl h
    have : l = [] := by simpa using hl
    subst this
    exact ⟨e, H, .nil e H, h⟩
  | cons i is ih =>
    intro l e H hl h
    cases l with
    | nil => simp at hl
    | cons o l =>
      simp only [List.map_cons, List.cons.injEq] at hl
      obtain ⟨hi, hl⟩ := hl
      have hmem : o ∈ ops.toList := by
        obtain ⟨hlt, he⟩ := Array.getElem?_eq_some_iff.1 hi
        rw [← he]; exact Array.getElem_mem_toList hlt
      unfold regd at h
      split at h
      · rename_i hg
        obtain ⟨r, H', hk, hs⟩ := opwD_step (hc o hmem) h
        obtain ⟨e2, H2, h1, h2⟩ := ih l _ _ hl hk
        exact ⟨e2, H2, .cons hi (.inl ⟨r, rfl, hs, by rw [hg]; trivial⟩) h1, h2⟩
      · rename_i j want hg
        split at h
        · rename_i d hd
          split at h
          · rename_i b hb
            by_cases hbw : b = want
            · obtain ⟨r, H', hk, hs⟩ := opwD_step (hc o hmem) (h.1 hbw)
              obtain ⟨e2, H2, h1, h2⟩ := ih l _ _ hl hk
              exact ⟨e2, H2, .cons hi (.inl ⟨r, rfl, hs, by rw [hg]; exact ⟨d, hd, by rw [hb, hbw]⟩⟩) h1, h2⟩
            · have hbn : b = !want := by revert hbw; cases b <;> cases want <;> simp
              obtain ⟨e2, H2, h1, h2⟩ := ih l _ _ hl (h.2 hbn)
              exact ⟨e2, H2, .cons hi (.inr ⟨rfl, rfl, j, want, d, hg, hd, .inl (by rw [hb, hbn])⟩) h1, h2⟩
          · rename_i hb
            obtain ⟨e2, H2, h1, h2⟩ := ih l _ _ hl h
            exact ⟨e2, H2, .cons hi (.inr ⟨rfl, rfl, j, want, d, hg, hd, .inr hb⟩) h1, h2⟩
          · exact h.elim
        · exact h.elim

theorem yielded_of {gl : Glob} {n : Nat} {g : Gh} {e : Env} {H : Heap} {a : Act} {w : World} (hst : St gl n g e H a w) {ops : Array Oper} {j : Nat} {d : Tmp} {b : Bool} (hd : (ops[j]?).bind (·.dst) = some d) (hb : e d = .bool b) :
    yielded ops a.tmps j = some b := by
  unfold yielded
  rw [hd]
  simp only [Option.bind_some]
  have hr := hst.env.2 d
  rw [hb] at hr
  have hlt : d < a.tmps.size := by
    rcases Nat.lt_or_ge d a.tmps.size with h | h
    · exact h
    · exfalso
      rw [Array.getD_eq_getD_getElem?, Array.getElem?_eq_none h] at hr
      simp only [Option.getD_none, undef] at hr
      cases hr
  rw [Array.getD_eq_getD_getElem?, Array.getElem?_eq_getElem hlt] at hr
  rw [Array.getElem?_eq_getElem hlt]
  simp only [Option.getD_some] at hr
  generalize a.tmps[d] = v at hr
  cases hr; rfl

theorem chain_sound {P : Program} {gl : Glob} {hn : Oper → Nat} {n : Nat} {ops : Array Oper} (hd : ops.toList.all (dstLt n) = true) {e2 : Env} {H2 : Heap} : ∀ (is : List Nat) (g : Gh) (e : Env) (H : Heap) (a : Act) (w : World),
    St gl n g e H a w → Chain P gl hn ops is e H e2 H2 →
    wpOps P ops (fun ex a' w' => ∃ g', ex = .normal ∧ St gl n g' e2 H2 a' w' ∧ Ext g H w g' H2 w') is a w := by
  intro is
  induction is with
  | nil =>
    intro g e H a w hst h
    cases h
    exact ⟨g, rfl, hst, .refl _ _ _⟩
  | cons i is ih =>
    intro g e H a w hst h
    cases h with
    | cons ho h1 hs =>
      rename_i o e1 H1
      have hmem : o ∈ ops.toList := by
        obtain ⟨hlt, he⟩ := Array.getElem?_eq_some_iff.1 ho
        rw [← he]; exact Array.getElem_mem_toList hlt
      have hdo : ∀ t, o.dst = some t → t < n := by
        intro t ht
        have := List.all_eq_true.1 hd o hmem
        simpa [dstLt, ht] using this
      unfold wpOps
      rw [ho]
      simp only
      rcases h1 with ⟨r, rfl, hst1, hg⟩ | ⟨rfl, rfl, j, want, d, hg, hdd, hb⟩
      · have hw : Region.wanted o (yielded ops a.tmps) = true := by
          unfold Region.wanted
          split at hg
          · rename_i hgn; rw [hgn]
          · rename_i j want hgs
            obtain ⟨d, hdd, hb⟩ := hg
            rw [hgs]
            simp [yielded_of hst hdd hb]
        rw [if_pos hw]
        left
        have hno := opw_sound hst.sim hst.glob (o := o) (a := a) (fun x => hst.env.ev hst.glob x) hst1.1
        have cont : ∀ (g1 : Gh) (H1' : Heap) (w1 : World) (x : PV) (v : Value), Sim g1 H1' w1 → Ext g H w g1 H1' w1 → Rel g1 w1 x v → (x = r ∧ H1' = H1) →
            wpOps P ops (fun ex a' w' => ∃ g', ex = .normal ∧ St gl n g' e2 H2 a' w' ∧ Ext g H w g' H2 w') is (a.put o.dst v) w1 := by
          rintro g1 H1' w1 x v k1 k2 k3 ⟨rfl, rfl⟩
          have := ih g1 (upd e o.dst x) H1' (a.put o.dst v) w1 (hst.next k1 k2 k3 o.dst hdo) hs
          refine wpOps_mono _ ?_ _ _ this
          rintro ex a' w' ⟨g', rfl, j1, j2⟩
          exact ⟨g', rfl, j1, k2.trans j2⟩
        unfold Oper.wp
        rcases hno with ⟨v, w', g', H', x, h1, h2, h3, h4, h5⟩ | ⟨w', g', H', h1, h2, h3, h4⟩ | ⟨f, vs, h1, h2⟩
        · rw [h1]; exact cont g' H' w' x v h2 h3 h4 h5
        · rw [h1]; exact cont g' H' w' (.tup []) undef h2 h3 (undef_rel g' w') h4
        · rw [h1]
          refine h2.mono ?_
          rintro ex w' ⟨v, g', H', x, rfl, k1, k2, k3, k4⟩
          exact cont g' H' w' x v k1 k2 k3 k4
      · have hw : ¬ Region.wanted o (yielded ops a.tmps) = true := by
          unfold Region.wanted
          rw [hg]
          rcases hb with hb | hb
          · simp [yielded_of hst hdd hb]
          · simp [yielded_none hst hdd hb]
        rw [if_neg hw]
        exact ih g (upd e o.dst (.tup [])) _ (a.put o.dst undef) w (hst.next hst.sim (.refl _ _ _) (undef_rel g w) o.dst hdo) hs

theorem aw_region_draw {P : Program} {gl : Glob} {n : Nat} {id : Nat} {ops : Array Oper} {Q : Ex → Env → Heap → Prop} {e : Env} {H : Heap} (hn : Oper → Nat) (hok : okOrder ops hn = true) (h : regd P gl hn ops ops.toList e H (Q .normal)) :
    AW P gl n (.region id ops true) Q e H := by
  intro hd g a w hst
  have hcl : ∀ o ∈ ops.toList, (cl (hn o) o.op).isSome = true := by
    have := hok
    simp only [okOrder, Bool.and_eq_true] at this
    exact List.all_eq_true.1 this.1.2
  obtain ⟨e2, H2, hch, hq⟩ := regd_chain hcl _ _ e H (range_getElem? ops) h
  refine wp_region_draw fun t => ?_
  obtain ⟨hp, hr⟩ := schedule_ok hok (P.follows .mixedOrders) t
  have hch' := perm_chain _ _ _ _ _ _ List.pairwise_lt_range hp hr hch
  have hst' : St gl n g e H a w.drew := ⟨hst.sim.drew, hst.glob.mono (Gext.drew g w), hst.env.mono (Gext.drew g w), hst.dfr⟩
  refine wpOps_mono _ ?_ _ _ (chain_sound hd _ g e H a w.drew hst' hch')
  rintro ex a' w' ⟨g', rfl, k1, k2⟩
  exact ⟨.normal, g', e2, H2, trivial, k1, (Ext.drew g H w).trans k2, hq⟩

end Go.AM
