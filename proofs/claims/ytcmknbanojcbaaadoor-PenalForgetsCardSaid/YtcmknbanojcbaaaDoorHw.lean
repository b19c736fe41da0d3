/-
  The plain law of books of marks.
-/
import Derived.Test.YtcmknbanojcbaaaDoorHj
import Derived.Test.YtcmknbanojcbaaaDoorHq
namespace Go.Proofs.YtcmknbanojcbaaaDoor
open Go Go.AM Go.Proofs
-- the plain law of books of marks
abbrev mk0 : Mk := ⟨0, 0, 0⟩
theorem mk0_ok : mk0.ok := by unfold mk0 Mk.ok R64; simp
theorem mxI_ok {a b : Int} (ha : R64 a) (hb : R64 b) : R64 (mxI a b) := (mn_mx ha hb).2.1
theorem tadd_ok64 (a b : Int) : R64 (tadd a b) := by
  unfold tadd R64
  split
  · omega
  · exact wrap_i64_range _
theorem hit_okR {m : Mk} {now : Int} (hm : m.ok) (hn : R64 now) : (hit m now).ok := by
  obtain ⟨h1, h6, _⟩ := hit_lvl m now
  refine ⟨?_, hn, ?_⟩
  · show R64 (mnI _ _)
    unfold R64; omega
  · exact mxI_ok (at_ok_range hm hn).2.2 (tadd_ok64 _ _)
structure BOk (l : List RwM) (most : Int) : Prop where
  ok : Ok l most
  mks : ∀ r ∈ l, r.v.ok
theorem BOk.none {most : Int} (h0 : 0 ≤ most) (h : most ≤ 1000000) : BOk [] most := ⟨.none h0 h, fun _ h => nomatch h⟩
theorem BOk.get {l : List RwM} {most : Int} (h : BOk l most) (t : Int) : (getR l t).ok := by
  unfold getR
  cases c : has l t with
  | true =>
    obtain ⟨h1, _⟩ := has_lt c
    rw [if_pos rfl]
    exact h.mks _ (getD_mem h1)
  | false => rw [if_neg (by decide)]; exact mk0_ok
theorem BOk.put {l : List RwM} {most : Int} (h : BOk l most) (t : Int) {m : Mk} (hm : m.ok) : BOk (putL l most t m).1 most := by
  refine ⟨h.ok.put t m, fun r hr => ?_⟩
  rw [putL_eq h.ok] at hr
  split at hr
  · split at hr
    · exact h.mks r hr
    · rcases mem_putG.1 hr with rfl | ⟨h1, _⟩
      · exact hm
      · exact h.mks r h1
  · exact h.mks r hr
theorem BOk.drop {l : List RwM} {most : Int} (h : BOk l most) (t : Int) : BOk (dropL l t) most := by
  refine ⟨h.ok.drop t, fun r hr => ?_⟩
  rw [dropL_eq h.ok] at hr
  exact h.mks r (List.mem_filter.1 hr).1
-- a hit
def bhit (l : List RwM) (most t now : Int) : List RwM × Mk × Int :=
  ((putL l most t (hit (getR l t) now)).1, if (putL l most t (hit (getR l t) now)).2 = 0 then hit (getR l t) now else mk0, (putL l most t (hit (getR l t) now)).2)
def rhitW (l : List RwM) (most t now : Int) : List RwM × Mk × Int :=
  if rightS t = true then (if hasG Rw.id l t = false ∧ (l.length : Int) ≥ most then (l, mk0, 10) else (putG Rw.id l ⟨t, rhit (getR l t) now⟩, rhit (getR l t) now, 0)) else (l, mk0, 14)
theorem bhit_eq {l : List RwM} {most t now : Int} (h : BOk l most) (hn : R64 now) : rhitW l most t now = bhit l most t now := by
  unfold rhitW bhit
  rw [rhit_eq (h.get t) hn, putL_eq h.ok]
  by_cases c : rightS t = true
  · rw [if_pos c, if_pos c]
    by_cases c2 : hasG Rw.id l t = false ∧ (l.length : Int) ≥ most
    · rw [if_pos c2, if_pos c2]; rfl
    · rw [if_neg c2, if_neg c2]; rfl
  · rw [if_neg c, if_neg c]; rfl
theorem BOk.hit {l : List RwM} {most : Int} (h : BOk l most) (t : Int) {now : Int} (hn : R64 now) : BOk (bhit l most t now).1 most := h.put t (hit_okR (h.get t) hn)
-- a sweep
def isZ (m : Mk) : Bool := m.l == 0 && (m.s == 0 && (m.u == 0 && true))
def keepM (now : Int) (r : RwM) : Bool := !isZ (at_ r.v now)
def swL (l : List RwM) (now : Int) : List RwM := l.filter (keepM now)
def swP (l : List RwM) (now : Int) (i : Nat) : List RwM := (l.take i).filter (keepM now) ++ l.drop i
theorem swP_zero (l : List RwM) (now : Int) : swP l now 0 = l := by simp [swP]
theorem swP_all (l : List RwM) (now : Int) : swP l now l.length = swL l now := by simp [swP, swL]
theorem swP_mem {l : List RwM} {now : Int} {i : Nat} {r : RwM} (h : r ∈ swP l now i) : r ∈ l := by
  unfold swP at h
  rcases List.mem_append.1 h with h | h
  · exact List.mem_of_mem_take (List.mem_filter.1 h).1
  · exact List.mem_of_mem_drop h
theorem swP_ok {l : List RwM} {most : Int} (h : BOk l most) (now : Int) (i : Nat) : BOk (swP l now i) most := by
  have hs : (swP l now i).Sublist l := by
    unfold swP
    conv => rhs; rw [← List.take_append_drop i l]
    exact List.Sublist.append List.filter_sublist (List.Sublist.refl _)
  refine ⟨⟨h.ok.rise.sublist hs, ?_, h.ok.big⟩, fun r hr => h.mks r (swP_mem hr)⟩
  have := hs.length_le
  have := h.ok.full
  omega
theorem swP_get {l : List RwM} {most : Int} (h : BOk l most) (now : Int) {i : Nat} (hi : i < l.length) : getR (swP l now i) (l.getD i default).id = (l.getD i default).v := by
  refine get_of (swP_ok h now i).ok ?_
  unfold swP
  rw [drop_cons default hi]
  simp
theorem swP_step {l : List RwM} {most : Int} (h : BOk l most) (now : Int) {i : Nat} (hi : i < l.length) :
    swP l now (i + 1) = if keepM now (l.getD i default) = true then swP l now i else dropL (swP l now i) (l.getD i default).id := by
  have e1 : swP l now (i + 1) = (l.take i).filter (keepM now) ++ ((if keepM now (l.getD i default) = true then [l.getD i default] else []) ++ l.drop (i + 1)) := by
    unfold swP
    rw [take_snoc default hi, List.filter_append, List.append_assoc]
    congr 2
    by_cases c : keepM now (l.getD i default) = true
    · rw [if_pos c, List.filter_cons_of_pos c]; rfl
    · rw [if_neg c, List.filter_cons_of_neg c]; rfl
  have e2 : swP l now i = (l.take i).filter (keepM now) ++ (l.getD i default :: l.drop (i + 1)) := by unfold swP; rw [drop_cons default hi]
  rw [e1]
  by_cases c : keepM now (l.getD i default) = true
  · rw [if_pos c, if_pos c, e2]; rfl
  · rw [if_neg c, if_neg c, dropL_eq (swP_ok h now i).ok, e2]
    unfold dropW
    rw [List.filter_append, List.filter_cons_of_neg (by simp)]
    congr 1
    · refine (List.filter_eq_self.2 fun r hr => ?_).symm
      obtain ⟨k, hk, rfl⟩ := List.mem_iff_getElem.1 (List.mem_filter.1 hr).1
      rw [List.length_take] at hk
      have := h.ok.get (i := k) (j := i) (by omega) hi
      rw [getD_eq' (by omega)] at this
      rw [List.getElem_take, bne_iff_ne]
      omega
    · rw [List.nil_append]
      refine (List.filter_eq_self.2 fun r hr => ?_).symm
      obtain ⟨k, hk, rfl⟩ := List.mem_iff_getElem.1 hr
      rw [List.length_drop] at hk
      have := h.ok.get (i := i) (j := i + 1 + k) (by omega) (by omega)
      rw [getD_eq' (k := i + 1 + k) (by omega)] at this
      rw [List.getElem_drop, bne_iff_ne]
      omega
/-- how many are taken away -/
def swN (l : List RwM) (now : Int) (i : Nat) : Nat := i - ((l.take i).filter (keepM now)).length
theorem swN_step {l : List RwM} {now : Int} {i : Nat} (hi : i < l.length) : swN l now (i + 1) = if keepM now (l.getD i default) = true then swN l now i else swN l now i + 1 := by
  unfold swN
  have h1 := List.length_filter_le (keepM now) (l.take i)
  rw [List.length_take] at h1
  rw [take_snoc default hi, List.filter_append, List.length_append]
  by_cases c : keepM now (l.getD i default) = true
  · rw [if_pos c, List.filter_cons_of_pos c]; simp
  · rw [if_neg c, List.filter_cons_of_neg c]; simp; omega
theorem swN_le (l : List RwM) (now : Int) (i : Nat) : swN l now i ≤ i := by unfold swN; omega
theorem swN_all (l : List RwM) (now : Int) : swN l now l.length = l.length - (swL l now).length := by unfold swN swL; rw [List.take_length]
theorem BOk.sweep {l : List RwM} {most : Int} (h : BOk l most) (now : Int) : BOk (swL l now) most := by rw [← swP_all]; exact swP_ok h now _
theorem swL_len (l : List RwM) (now : Int) : (swL l now).length ≤ l.length := List.length_filter_le _ _
-- in the end all is forgotten
structure Fgt (l : List RwM) (p now : Int) (many : Nat) : Prop where
  bok : BOk l 3
  one : l = [] ∨ ∃ m : Mk, l = [⟨p, m⟩] ∧ m.s ≤ now ∧ m.u ≤ now + 86400 ∧ m.l ≤ 6
  len : l.length = if many = 0 then 0 else 1
theorem Fgt.nil (p : Int) : Fgt [] p 0 0 := ⟨.none (by decide) (by decide), .inl rfl, rfl⟩
theorem putL_one {p : Int} {m m' : Mk} : putL [(⟨p, m⟩ : RwM)] 3 p m' = if rightS p = true then ([⟨p, m'⟩], 0) else ([⟨p, m⟩], 14) := by
  have h1 : lbp [(⟨p, m⟩ : RwM)] p = 0 := by simp [lbp]
  have h2 : has [(⟨p, m⟩ : RwM)] p = true := by unfold has hitP; rw [h1]; simp
  unfold putL
  rw [h2, h1]; rfl
theorem putL_none {p : Int} {m' : Mk} : putL ([] : List RwM) 3 p m' = if rightS p = true then ([⟨p, m'⟩], 0) else ([], 14) := by
  unfold putL
  rw [has_nil]; rfl
theorem hit_sE (m : Mk) (now : Int) : (hit m now).s = now := rfl
theorem hit_lE (m : Mk) (now : Int) : (hit m now).l ≤ 6 := (hit_lvl m now).2.1
theorem hit_uE {m : Mk} {now b : Int} (hm : m.ok) (h0 : 0 ≤ now) (hn : now ≤ 1000000000000) (hb : b ≤ now + 86400) (hu : m.u ≤ b) : (hit m now).u ≤ now + 86400 := by
  have hR : R64 now := ⟨by omega, by omega⟩
  obtain ⟨h1, h6, _⟩ := hit_lvl m now
  have hr := rung_range h1 h6
  show mxI _ _ ≤ _
  have h3 : tadd now (rung (mnI (wI ((at_ m now).l + 1)) 6)) ≤ now + 86400 := by
    rw [tadd_eq hR (by omega) (by omega)]
    split <;> omega
  have h4 : (at_ m now).u ≤ now + 86400 := by
    rw [at_eq hm hR]
    split
    · show (if m.u ≤ now then (0 : Int) else m.u) ≤ _
      split <;> omega
    · show m.u ≤ _; omega
  unfold mxI
  split <;> assumption
theorem Fgt.hit {l : List RwM} {p now now' : Int} {many : Nat} (h : Fgt l p now many) (h0 : 0 ≤ now') (hle : now ≤ now') (hn : now' ≤ 1000000000000) :
    Fgt (bhit l 3 p now').1 p now' (if (bhit l 3 p now').2.2 = 0 then many + 1 else many) := by
  have hR : R64 now' := ⟨by omega, by omega⟩
  have hb := h.bok.hit p hR
  obtain ⟨bok, one, len⟩ := h
  refine ⟨hb, ?_, ?_⟩
  · unfold bhit
    simp only
    rcases one with rfl | ⟨m, rfl, h1, h2, h3⟩
    · rw [putL_none]
      split
      · exact .inr ⟨_, rfl, Int.le_of_eq (hit_sE _ _), hit_uE (b := 0) (bok.get p) h0 hn (by omega) (by show (0 : Int) ≤ 0; omega), hit_lE _ _⟩
      · exact .inl rfl
    · have hg : getR [(⟨p, m⟩ : RwM)] p = m := get_of bok.ok (r := ⟨p, m⟩) (by simp)
      rw [putL_one, hg]
      split
      · exact .inr ⟨_, rfl, Int.le_of_eq (hit_sE _ _), hit_uE (b := now + 86400) (bok.mks ⟨p, m⟩ (by simp)) h0 hn (by omega) h2, hit_lE _ _⟩
      · exact .inr ⟨m, rfl, by omega, by omega, h3⟩
  · unfold bhit
    simp only
    rcases one with rfl | ⟨m, rfl, h1, h2, h3⟩
    · rw [putL_none]
      split
      · rw [if_pos rfl, if_neg (by omega)]; rfl
      · rw [if_neg (show ¬ ((([], 14) : List RwM × Int).2 = 0) by decide)]; exact len
    · rw [putL_one]
      have hm : many ≠ 0 := fun e => by rw [if_pos e] at len; simp at len
      split
      · rw [if_pos rfl, if_neg (by omega)]; rfl
      · rw [if_neg (show ¬ ((([⟨p, m⟩], 14) : List RwM × Int).2 = 0) from (by decide : ¬ (14 : Int) = 0)), if_neg hm]; rfl
theorem at_zero {now : Int} (h0 : 0 ≤ now) (hn : now ≤ 1000000000000) {m : Mk} (hm : m.ok) (h1 : m.s + 60000 ≤ now) (h2 : m.u ≤ now) : at_ m now = mk0 := by
  rw [at_eq hm ⟨by omega, by omega⟩, if_pos, if_pos h2]
  have : lv m.l ≤ 6 := (lv_range m.l).2
  unfold tt
  rw [if_neg (by omega)]
  omega
theorem at_mk0 {now : Int} (hn : R64 now) : at_ mk0 now = mk0 := by
  rw [at_eq mk0_ok hn, if_pos]
  · show (⟨0, 0, if (0 : Int) ≤ now then 0 else 0⟩ : Mk) = _
    rw [ite_self]
  · have := tt_nonneg mk0.s now
    show tt mk0.s now ≥ lv 0
    have : lv 0 = 0 := by decide
    omega
theorem Fgt.swept {l : List RwM} {p now later : Int} {many : Nat} (h : Fgt l p now many) (h0 : 0 ≤ now) (h1 : now + 86400 ≤ later) (hn : later ≤ 1000000000000) : swL l later = [] := by
  obtain ⟨bok, one, _⟩ := h
  rcases one with rfl | ⟨m, rfl, h2, h3, _⟩
  · rfl
  · unfold swL
    rw [List.filter_eq_nil_iff]
    intro r hr
    rcases List.mem_singleton.1 hr with rfl
    unfold keepM
    rw [show at_ (⟨p, m⟩ : RwM).v later = mk0 from at_zero (by omega) hn (bok.mks ⟨p, m⟩ (by simp)) (show m.s + 60000 ≤ later by omega) (show m.u ≤ later by omega)]
    decide
end Go.Proofs.YtcmknbanojcbaaaDoor
