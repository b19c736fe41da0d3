/-
  Lists of rows that rise by an id.
-/
import Derived.Test.YthabdpaipgclpaaRa
namespace Go.Proofs.Ythabdpaipgclpaa
open Go Go.AM Go.Proofs
-- the document's rack, plainly: rows as they came; and what it has in common with a rack whose rows rise
theorem fidx_stop {α : Type} {p : α → Bool} {l : List α} {i : Nat} (d : α) (hi : i ≤ l.findIdx p) (h : i < l.length) (c : p (l.getD i d) = true) : l.findIdx p = i := by
  rcases Nat.eq_or_lt_of_le hi with e | e
  · exact e.symm
  · exfalso
    have := List.not_of_lt_findIdx e
    rw [getD_eq' h] at c
    rw [c] at this
    cases this
theorem fidx_step {α : Type} {p : α → Bool} {l : List α} {i : Nat} (d : α) (hi : i ≤ l.findIdx p) (h : i < l.length) (c : p (l.getD i d) = false) : i < l.findIdx p := by
  rcases Nat.eq_or_lt_of_le hi with e | e
  · exfalso
    subst e
    have := List.findIdx_getElem (p := p) (xs := l) (w := h)
    rw [getD_eq' h, this] at c
    cases c
  · exact e
section
variable {G : Type}
def fiW (w : List (Rw G)) (t : Int) : Nat := w.findIdx fun r => r.id == t
def findS (w : List (Rw G)) (t : Int) : Int := if fiW w t < w.length then fiW w t else -1
def hasW (w : List (Rw G)) (t : Int) : Bool := decide (fiW w t < w.length)
def dropW (w : List (Rw G)) (t : Int) : List (Rw G) := w.filter fun r => r.id != t
def putW (w : List (Rw G)) (m t : Int) (v : G) : List (Rw G) × Int :=
  if rightS t = true then if hasW w t = false ∧ (w.length : Int) ≥ m then (w, 10) else (dropW w t ++ [⟨t, v⟩], 0) else (w, 14)
def addW (w : List (Rw G)) (m t : Int) (v : G) : List (Rw G) × Int := if rightS t = true ∧ hasW w t = true then (w, 11) else putW w m t v
def stepW (t b : Int) (r : Rw G) : Int := if r.id > t then (if b = 0 then r.id else if r.id < b then r.id else b) else b
def nextW (w : List (Rw G)) (t : Int) : Int := w.foldl (stepW t) 0
theorem rise_inj {l : List (Rw G)} {most : Int} (ok : Ok l most) {r s : Rw G} (hr : r ∈ l) (hs : s ∈ l) (e : r.id = s.id) : r = s := by
  obtain ⟨i, hi, rfl⟩ := List.mem_iff_getElem.1 hr
  obtain ⟨j, hj, rfl⟩ := List.mem_iff_getElem.1 hs
  rcases Nat.lt_trichotomy i j with c | c | c
  · have := List.pairwise_iff_getElem.1 ok.rise i j hi hj c; omega
  · subst c; rfl
  · have := List.pairwise_iff_getElem.1 ok.rise j i hj hi c; omega
theorem hasW_iff {w : List (Rw G)} {t : Int} : hasW w t = true ↔ ∃ r ∈ w, r.id = t := by
  unfold hasW fiW
  rw [decide_eq_true_eq, List.findIdx_lt_length]
  simp
/-- the one rack is as the other one -/
structure Like (l w : List (Rw G)) (most : Int) : Prop where
  ok : Ok l most
  perm : l.Perm w
  pos : ∀ r ∈ l, rightS r.id = true
theorem Like.self {l w : List (Rw G)} {most : Int} (h : Like l w most) : Like l l most := ⟨h.ok, .refl _, h.pos⟩
theorem Like.len {l w : List (Rw G)} {most : Int} (h : Like l w most) : w.length = l.length := h.perm.length_eq.symm
/-- the least id above another one -/
def IsNext (w : List (Rw G)) (t c : Int) : Prop := (c = 0 ∧ ∀ r ∈ w, r.id ≤ t) ∨ (t < c ∧ (∃ r ∈ w, r.id = c) ∧ ∀ s ∈ w, t < s.id → c ≤ s.id)
theorem IsNext.uniq {l w : List (Rw G)} {t c c' : Int} (h : IsNext l t c) (h' : IsNext w t c') (e : ∀ r, r ∈ l ↔ r ∈ w) : c = c' := by
  rcases h with ⟨rfl, h1⟩ | ⟨h1, ⟨r, h2, h3⟩, h4⟩ <;> rcases h' with ⟨rfl, k1⟩ | ⟨k1, ⟨s, k2, k3⟩, k4⟩
  · rfl
  · have := h1 s ((e s).2 k2); omega
  · have := k1 r ((e r).1 h2); omega
  · have := h4 s ((e s).2 k2) (by omega)
    have := k4 r ((e r).1 h2) (by omega)
    omega
theorem rightS_pos {t : Int} (h : rightS t = true) : 1 ≤ t := by unfold rightS at h; have := of_decide_eq_true h; omega
theorem foldl_next (t : Int) : ∀ (w : List (Rw G)) (b : Int), (∀ r ∈ w, 1 ≤ r.id) →
    (w.foldl (stepW t) b = 0 ∧ b = 0 ∧ ∀ r ∈ w, r.id ≤ t) ∨ (w.foldl (stepW t) b ≠ 0 ∧ (w.foldl (stepW t) b = b ∨ (t < w.foldl (stepW t) b ∧ ∃ r ∈ w, r.id = w.foldl (stepW t) b)) ∧ (b ≠ 0 → w.foldl (stepW t) b ≤ b) ∧ ∀ s ∈ w, t < s.id → w.foldl (stepW t) b ≤ s.id)
  | [], b, _ => by
    by_cases hb : b = 0
    · exact .inl ⟨hb, hb, fun _ h => nomatch h⟩
    · exact .inr ⟨hb, .inl rfl, fun _ => Int.le_refl _, fun _ h => nomatch h⟩
  | r :: w, b, hp => by
    have h1 := hp r (by simp)
    have hs : (stepW t b r = b ∨ stepW t b r = r.id) ∧ (stepW t b r ≠ b → t < r.id) ∧ (b ≠ 0 → stepW t b r ≤ b) ∧ (t < r.id → stepW t b r ≤ r.id ∧ stepW t b r ≠ 0) := by
      unfold stepW
      by_cases c1 : r.id > t
      · rw [if_pos c1]
        by_cases c2 : b = 0
        · rw [if_pos c2]; omega
        · rw [if_neg c2]
          by_cases c3 : r.id < b
          · rw [if_pos c3]; omega
          · rw [if_neg c3]; omega
      · rw [if_neg c1]; omega
    have ih := foldl_next t w (stepW t b r) (fun s hs => hp s (by simp [hs]))
    rw [List.foldl_cons]
    generalize List.foldl (stepW t) (stepW t b r) w = c at ih
    generalize stepW t b r = s' at hs ih
    obtain ⟨a1, a2, a3, a4⟩ := hs
    rcases ih with ⟨h2, h3, h4⟩ | ⟨h2, h3, h4, h5⟩
    · refine .inl ⟨h2, by omega, fun q hq => ?_⟩
      rcases List.mem_cons.1 hq with rfl | hq
      · omega
      · exact h4 q hq
    · refine .inr ⟨h2, ?_, fun hb => by clear h3 h5; omega, fun q hq htq => ?_⟩
      · rcases h3 with h3 | ⟨h3, q, h6, h7⟩
        · by_cases c : s' = b
          · exact .inl (h3.trans c)
          · have e : s' = r.id := a1.resolve_left c
            exact .inr ⟨by rw [h3, e]; exact a2 c, r, by simp, by rw [h3, e]⟩
        · exact .inr ⟨h3, q, by simp [h6], h7⟩
      · rcases List.mem_cons.1 hq with rfl | hq
        · have := a4 htq; omega
        · exact h5 q hq htq
theorem nextW_is {w : List (Rw G)} (hp : ∀ r ∈ w, 1 ≤ r.id) (t : Int) : IsNext w t (nextW w t) := by
  rcases foldl_next t w 0 hp with ⟨h1, _, h2⟩ | ⟨h1, h2, _, h3⟩
  · exact .inl ⟨h1, h2⟩
  · rcases h2 with h2 | ⟨h2, h4⟩
    · exact absurd h2 h1
    · exact .inr ⟨h2, h4, h3⟩
end
section
variable {G : Type} [Inhabited G]
def getW (w : List (Rw G)) (t : Int) : G := if fiW w t < w.length then (w.getD (fiW w t) default).v else default
theorem has_iff {l : List (Rw G)} {most t : Int} (ok : Ok l most) : has l t = true ↔ ∃ r ∈ l, r.id = t := by
  constructor
  · intro h
    obtain ⟨h1, h2⟩ := has_lt h
    exact ⟨_, getD_mem h1, h2⟩
  · rintro ⟨r, hr, rfl⟩
    obtain ⟨k, hk, rfl⟩ := List.mem_iff_getElem.1 hr
    cases c : has l l[k].id with
    | true => rfl
    | false =>
      exfalso
      have lb := ok.lb l[k].id
      rcases Nat.lt_or_ge k (lbp l l[k].id) with q | q
      · have := lb.lo k q; rw [getD_eq' hk] at this; omega
      · have := has_false ok c k q hk; rw [getD_eq' hk] at this; omega
theorem get_of {l : List (Rw G)} {most : Int} (ok : Ok l most) {r : Rw G} (hr : r ∈ l) : getR l r.id = r.v := by
  have h := (has_iff ok).2 ⟨r, hr, rfl⟩
  obtain ⟨h1, h2⟩ := has_lt h
  unfold getR
  rw [if_pos h, rise_inj ok (getD_mem h1) hr h2]
theorem getW_mem {w : List (Rw G)} {t : Int} (h : fiW w t < w.length) : (w.getD (fiW w t) default) ∈ w ∧ (w.getD (fiW w t) default).id = t := by
  refine ⟨getD_mem h, ?_⟩
  have := List.findIdx_getElem (p := fun r : Rw G => r.id == t) (xs := w) (w := h)
  rw [getD_eq' h]
  exact eq_of_beq this

theorem Like.hasE {l w : List (Rw G)} {most : Int} (h : Like l w most) (t : Int) : hasW w t = has l t := by
  rw [Bool.eq_iff_iff, hasW_iff, has_iff h.ok]
  exact ⟨fun ⟨r, hr, e⟩ => ⟨r, h.perm.mem_iff.2 hr, e⟩, fun ⟨r, hr, e⟩ => ⟨r, h.perm.mem_iff.1 hr, e⟩⟩
theorem Like.getE {l w : List (Rw G)} {most : Int} (h : Like l w most) (t : Int) : getW w t = getR l t := by
  unfold getW
  by_cases c : fiW w t < w.length
  · rw [if_pos c]
    obtain ⟨h1, h2⟩ := getW_mem c
    have := get_of h.ok (h.perm.mem_iff.2 h1)
    rw [h2] at this
    exact this.symm
  · rw [if_neg c]
    have h1 : has l t = false := by rw [← h.hasE t]; exact decide_eq_false c
    unfold getR
    rw [if_neg (by simp [h1])]
theorem dropL_eq {l : List (Rw G)} {most : Int} (ok : Ok l most) (t : Int) : dropL l t = dropW l t := by
  unfold dropL dropW
  by_cases c : has l t = true
  · rw [if_pos c]
    obtain ⟨h1, h2⟩ := has_lt c
    rw [List.eraseIdx_eq_take_drop_succ]
    have hl : l = l.take (lbp l t) ++ l.getD (lbp l t) default :: l.drop (lbp l t + 1) := by
      rw [getD_eq' h1, ← List.drop_eq_getElem_cons h1, List.take_append_drop]
    have ha : ∀ r ∈ l.take (lbp l t), (r.id != t) = true := by
      intro r hr
      obtain ⟨k, hk, rfl⟩ := List.mem_iff_getElem.1 hr
      rw [List.length_take] at hk
      have := (ok.lb t).lo k (by omega)
      rw [getD_eq' (by omega)] at this
      rw [List.getElem_take]
      simp; omega
    have hb : ∀ r ∈ l.drop (lbp l t + 1), (r.id != t) = true := by
      intro r hr
      obtain ⟨k, hk, rfl⟩ := List.mem_iff_getElem.1 hr
      rw [List.length_drop] at hk
      have := ok.get (i := lbp l t) (j := lbp l t + 1 + k) (by omega) (by omega)
      rw [h2, getD_eq' (by omega)] at this
      rw [List.getElem_drop]
      simp; omega
    conv => rhs; rw [hl]
    rw [List.filter_append, List.filter_cons, if_neg (by rw [h2]; simp), List.filter_eq_self.2 ha, List.filter_eq_self.2 hb]
  · rw [if_neg c, List.filter_eq_self.2]
    intro r hr
    simp only [bne_iff_ne, ne_eq]
    intro e
    exact c ((has_iff ok).2 ⟨r, hr, e⟩)
theorem Like.drop {l w : List (Rw G)} {most : Int} (h : Like l w most) (t : Int) : Like (dropL l t) (dropW w t) most := by
  refine ⟨h.ok.drop t, ?_, ?_⟩
  · rw [dropL_eq h.ok]; exact h.perm.filter _
  · rw [dropL_eq h.ok]
    intro r hr
    exact h.pos r (List.mem_filter.1 hr).1
theorem Like.put {l w : List (Rw G)} {most : Int} (h : Like l w most) (t : Int) (v : G) : Like (putL l most t v).1 (putW w most t v).1 most ∧ (putW w most t v).2 = (putL l most t v).2 := by
  have hok := h.ok.put t v
  unfold putW
  unfold putL at hok ⊢
  by_cases c : rightS t = true
  · rw [if_pos c, if_pos c]
    rw [if_pos c] at hok
    have hw := h.hasE t
    by_cases c2 : has l t = true
    · rw [if_pos c2, if_neg (by rw [hw, c2]; simp)]
      rw [if_pos c2] at hok
      obtain ⟨h1, h2⟩ := has_lt c2
      have hp : (l.set (lbp l t) ⟨t, v⟩).Perm (dropW w t ++ [⟨t, v⟩]) := by
        rw [List.set_eq_take_append_cons_drop, if_pos h1]
        refine List.perm_middle.trans ?_
        have e1 := dropL_eq h.ok t
        unfold dropL at e1
        rw [if_pos c2, List.eraseIdx_eq_take_drop_succ] at e1
        rw [e1]
        refine (List.Perm.cons _ (h.perm.filter _)).trans ?_
        exact (List.perm_append_singleton _ _).symm
      refine ⟨⟨hok, hp, fun r hr => ?_⟩, rfl⟩
      rcases List.mem_or_eq_of_mem_set hr with q | rfl
      · exact h.pos r q
      · exact c
    · rw [if_neg c2]
      rw [if_neg c2] at hok
      have c2' : has l t = false := by simpa using c2
      by_cases c3 : (l.length : Int) ≥ most
      · rw [if_pos c3, if_pos ⟨by rw [hw, c2'], by rw [h.len]; exact c3⟩]
        exact ⟨h, rfl⟩
      · rw [if_neg c3, if_neg (by rw [h.len]; exact fun q => c3 q.2)]
        rw [if_neg c3] at hok
        have hd : dropW l t = l := by
          have e1 := dropL_eq h.ok t
          unfold dropL at e1
          rw [if_neg c2] at e1
          exact e1.symm
        have hp : (insAt l (lbp l t) ⟨t, v⟩).Perm (dropW w t ++ [⟨t, v⟩]) := by
          unfold insAt
          refine List.perm_middle.trans ?_
          rw [List.take_append_drop]
          refine List.Perm.trans ?_ (List.perm_append_singleton _ _).symm
          refine List.Perm.cons _ ?_
          have := h.perm.filter (fun r => r.id != t)
          unfold dropW at hd
          rw [hd] at this
          exact this
        refine ⟨⟨hok, hp, fun r hr => ?_⟩, rfl⟩
        unfold insAt at hr
        rcases List.mem_append.1 hr with q | q
        · exact h.pos r (List.mem_of_mem_take q)
        · rcases List.mem_cons.1 q with rfl | q
          · exact c
          · exact h.pos r (List.mem_of_mem_drop q)
  · rw [if_neg c, if_neg c]; exact ⟨h, rfl⟩
theorem Like.add {l w : List (Rw G)} {most : Int} (h : Like l w most) (t : Int) (v : G) : Like (addL l most t v).1 (addW w most t v).1 most ∧ (addW w most t v).2 = (addL l most t v).2 := by
  unfold addL addW
  by_cases c : has l t = true
  · have hr : rightS t = true := by
      obtain ⟨r, h1, h2⟩ := (has_iff h.ok).1 c
      rw [← h2]; exact h.pos r h1
    rw [if_pos c, if_pos ⟨hr, by rw [h.hasE, c]⟩]
    exact ⟨h, rfl⟩
  · rw [if_neg c, if_neg (by rw [h.hasE]; exact fun q => c q.2)]
    exact h.put t v
theorem nextK_split {l : List (Rw G)} {most : Int} (ok : Ok l most) (t : Int) : nextK l t ≤ l.length ∧ (∀ k, k < nextK l t → (l.getD k default).id ≤ t) ∧ ∀ k, nextK l t ≤ k → k < l.length → t < (l.getD k default).id := by
  have lb := ok.lb t
  unfold nextK
  by_cases c : has l t = true
  · obtain ⟨h1, h2⟩ := has_lt c
    rw [if_pos c]
    refine ⟨h1, fun k hk => ?_, fun k hk hkl => ?_⟩
    · rcases Nat.eq_or_lt_of_le (Nat.le_of_lt_succ hk) with rfl | q
      · omega
      · have := lb.lo k q; omega
    · have := ok.get (show lbp l t < k by omega) hkl; omega
  · rw [if_neg c]
    exact ⟨lbp_le l t, fun k hk => by have := lb.lo k hk; omega, has_false ok (by simpa using c)⟩
theorem nextI_is {l : List (Rw G)} {most : Int} (ok : Ok l most) (t : Int) : IsNext l t (nextI l t) := by
  obtain ⟨h1, h2, h3⟩ := nextK_split ok t
  unfold nextI
  by_cases c : nextK l t = l.length
  · rw [if_pos c]
    refine .inl ⟨rfl, fun r hr => ?_⟩
    obtain ⟨k, hk, rfl⟩ := List.mem_iff_getElem.1 hr
    have := h2 k (by omega)
    rwa [getD_eq' hk] at this
  · rw [if_neg c]
    refine .inr ⟨h3 _ (Nat.le_refl _) (by omega), ⟨_, getD_mem (by omega), rfl⟩, fun s hs hts => ?_⟩
    obtain ⟨k, hk, rfl⟩ := List.mem_iff_getElem.1 hs
    rcases Nat.lt_trichotomy k (nextK l t) with q | q | q
    · have := h2 k q; rw [getD_eq' hk] at this; omega
    · subst q; rw [getD_eq' hk]; omega
    · have := ok.get q hk; rw [getD_eq' hk] at this; omega
theorem Like.next {l w : List (Rw G)} {most : Int} (h : Like l w most) (t : Int) : nextW w t = nextI l t ∧ (nextW w t != 0) = nextB l t := by
  have hp : ∀ r ∈ w, 1 ≤ r.id := fun r hr => rightS_pos (h.pos r (h.perm.mem_iff.2 hr))
  have e := (nextW_is hp t).uniq (nextI_is h.ok t) (fun r => (h.perm.mem_iff).symm)
  refine ⟨e, ?_⟩
  rw [e]
  unfold nextI nextB
  obtain ⟨h1, h2, h3⟩ := nextK_split h.ok t
  by_cases c : nextK l t = l.length
  · rw [if_pos c, decide_eq_false (by simpa using c)]; rfl
  · rw [if_neg c, decide_eq_true c]
    have := rightS_pos (h.pos _ (getD_mem (d := default) (show nextK l t < l.length by omega)))
    exact bne_iff_ne.2 (by omega)
/-- where one goes from one id to the next one -/
def idAt (l : List (Rw G)) (k : Nat) : Int := if k < l.length then (l.getD k default).id else 0
theorem Like.at0 {l w : List (Rw G)} {most : Int} (h : Like l w most) : nextW w 0 = idAt l 0 := by
  have hp : ∀ r ∈ w, 1 ≤ r.id := fun r hr => rightS_pos (h.pos r (h.perm.mem_iff.2 hr))
  have key : IsNext l 0 (idAt l 0) := by
    unfold idAt
    by_cases c : 0 < l.length
    · rw [if_pos c]
      refine .inr ⟨rightS_pos (h.pos _ (getD_mem c)), ⟨_, getD_mem c, rfl⟩, fun s hs _ => ?_⟩
      obtain ⟨k, hk, rfl⟩ := List.mem_iff_getElem.1 hs
      rcases Nat.eq_zero_or_pos k with rfl | q
      · rw [getD_eq' hk]; omega
      · have := h.ok.get q hk; rw [getD_eq' hk] at this; omega
    · rw [if_neg c]
      refine .inl ⟨rfl, fun r hr => ?_⟩
      rw [List.eq_nil_of_length_eq_zero (l := l) (by omega)] at hr
      cases hr
  exact (nextW_is hp 0).uniq key (fun r => (h.perm.mem_iff).symm)
theorem Like.atS {l w : List (Rw G)} {most : Int} (h : Like l w most) {k : Nat} (hk : k < l.length) : nextW w (idAt l k) = idAt l (k + 1) := by
  have hp : ∀ r ∈ w, 1 ≤ r.id := fun r hr => rightS_pos (h.pos r (h.perm.mem_iff.2 hr))
  have key : IsNext l (idAt l k) (idAt l (k + 1)) := by
    unfold idAt
    rw [if_pos hk]
    by_cases c : k + 1 < l.length
    · rw [if_pos c]
      refine .inr ⟨h.ok.get (Nat.lt_succ_self k) c, ⟨_, getD_mem c, rfl⟩, fun s hs q => ?_⟩
      obtain ⟨j, hj, rfl⟩ := List.mem_iff_getElem.1 hs
      rw [← getD_eq' (d := default) hj] at q ⊢
      rcases Nat.lt_trichotomy j (k + 1) with q2 | q2 | q2
      · exfalso
        rcases Nat.eq_or_lt_of_le (Nat.le_of_lt_succ q2) with rfl | q3
        · omega
        · have := h.ok.get q3 hk; omega
      · subst q2; omega
      · have := h.ok.get q2 hj; omega
    · rw [if_neg c]
      refine .inl ⟨rfl, fun r hr => ?_⟩
      obtain ⟨j, hj, rfl⟩ := List.mem_iff_getElem.1 hr
      rw [← getD_eq' (d := default) hj]
      rcases Nat.eq_or_lt_of_le (show j ≤ k by omega) with rfl | q3
      · omega
      · have := h.ok.get q3 hk; omega
  exact (nextW_is hp _).uniq key (fun r => (h.perm.mem_iff).symm)
theorem idAt_pos {l w : List (Rw G)} {most : Int} (h : Like l w most) (k : Nat) : (idAt l k != 0) = decide (k < l.length) := by
  unfold idAt
  by_cases c : k < l.length
  · rw [if_pos c, decide_eq_true c]
    have := rightS_pos (h.pos _ (getD_mem (d := default) c))
    exact bne_iff_ne.2 (by omega)
  · rw [if_neg c, decide_eq_false c]; rfl
theorem gap_ids {l : List (Rw G)} {k : Nat} (h : k < gap l) : k < l.length ∧ (l.getD k default).id = (k : Int) + 1 := by
  have hl : k < l.length := Nat.lt_of_lt_of_le h (gap_le l)
  refine ⟨hl, ?_⟩
  have h1 := List.not_of_lt_findIdx h
  have h2 := of_decide_eq_false h1
  rw [List.getElem_zipIdx] at h2
  rw [getD_eq' hl]
  have h3 := Classical.not_not.1 h2
  simpa using h3
theorem Like.putS {l : List (Rw G)} {most : Int} (h : Like l l most) (t : Int) (v : G) : Like (putL l most t v).1 (putL l most t v).1 most := (h.put t v).1.self
theorem Like.addS {l : List (Rw G)} {most : Int} (h : Like l l most) (t : Int) (v : G) : Like (addL l most t v).1 (addL l most t v).1 most := (h.add t v).1.self
theorem Like.dropS {l : List (Rw G)} {most : Int} (h : Like l l most) (t : Int) : Like (dropL l t) (dropL l t) most := (h.drop t).self
theorem putL_len (l : List (Rw G)) (most t : Int) (v : G) : (putL l most t v).1.length ≤ l.length + 1 := by
  unfold putL
  split
  · split
    · show (l.set _ _).length ≤ _; rw [List.length_set]; omega
    · split
      · show l.length ≤ _; omega
      · show (insAt l _ _).length ≤ _; rw [insAt_length (lbp_le l t)]; omega
  · show l.length ≤ _; omega
theorem dropL_len (l : List (Rw G)) (t : Int) : (dropL l t).length ≤ l.length := by
  unfold dropL
  split
  · exact List.length_eraseIdx_le l _
  · omega
theorem Like.gapH {l w : List (Rw G)} {most : Int} (h : Like l w most) {k : Nat} (hk : k ≤ gap l) : has l ((k : Int) + 1) = decide (k < gap l) := by
  by_cases c : k < gap l
  · rw [decide_eq_true c]
    obtain ⟨h1, h2⟩ := gap_ids c
    exact (has_iff h.ok).2 ⟨_, getD_mem h1, h2⟩
  · rw [decide_eq_false c]
    have hkg : k = gap l := by omega
    cases q : has l ((k : Int) + 1) with
    | false => rfl
    | true =>
      exfalso
      obtain ⟨r, hr, hid⟩ := (has_iff h.ok).1 q
      obtain ⟨j, hj, rfl⟩ := List.mem_iff_getElem.1 hr
      rw [← getD_eq' (d := default) hj] at hid
      rcases Nat.lt_trichotomy j k with q2 | q2 | q2
      · have := (gap_ids (show j < gap l by omega)).2; omega
      · subst q2
        have := gap_step hk hj hid
        omega
      · have h1 := h.ok.get q2 hj
        have h2 : (k : Int) + 1 ≤ (l.getD k default).id := by
          rcases Nat.eq_zero_or_pos k with rfl | hp
          · have := rightS_pos (h.pos _ (getD_mem (d := default) (show 0 < l.length by omega))); simpa using this
          · have h3 := (gap_ids (show k - 1 < gap l by omega)).2
            have h4 := h.ok.get (show k - 1 < k by omega) (show k < l.length by omega)
            omega
        omega
theorem Like.free {l w : List (Rw G)} {most : Int} (h : Like l w most) {k : Nat} (hk : k ≤ gap l) : decide (findS w ((k : Int) + 1) ≥ 0) = decide (k < gap l) := by
  have e : decide (findS w ((k : Int) + 1) ≥ 0) = has l ((k : Int) + 1) := by
    rw [← h.hasE]
    unfold findS hasW
    by_cases c : fiW w ((k : Int) + 1) < w.length
    · rw [if_pos c, decide_eq_true c]; simp
    · rw [if_neg c, decide_eq_false c]; rfl
  rw [e]
  exact h.gapH hk
end
end Go.Proofs.Ythabdpaipgclpaa
