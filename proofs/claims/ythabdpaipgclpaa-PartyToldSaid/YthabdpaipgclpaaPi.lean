/-
  The document's parties, in part.
-/
import Derived.Test.YthabdpaipgclpaaPh
import Derived.Test.YthabdpaipgclpaaProg
namespace Go.Proofs.Ythabdpaipgclpaa
open Go Go.AM Go.Proofs
structure SmP (w : List Pt) : Prop where
  len : w.length ≤ 100000
  ms : ∀ c ∈ w, c.ms.length ≤ 1000000
  iv : ∀ c ∈ w, c.iv.length ≤ 1000000
theorem low_ptl {n : Nat} (l : List Pt) : Low n (.list (l.map ptc) .no) := low_rows low_ptc l
theorem qwo_ok : SpOk Try.prog gl 84 (.pure wo_s) := by
  rintro args K ⟨l, tl, t, he, h, hk⟩
  have he : args = _ := he
  subst he
  exact spure_w gl_low (.cons (.list _ _) (.cons (.refl _) .nil)) (low_two (low_us l) (.int _ _)) (low_us _) (qwo1_vc l t (fun x => x = .list ((woS l t).map u1) .no) ⟨l, t, h, trivial, rfl, rfl, rfl⟩) hk
theorem getP_find (w : List Pt) (t : Int) : (w.findIdx (fun c => c.id == t) < w.length → hasG Pt.id w t = true ∧ getG Pt.id w t = w.getD (w.findIdx (fun c => c.id == t)) default) ∧ (w.findIdx (fun c => c.id == t) = w.length → hasG Pt.id w t = false ∧ getG Pt.id w t = default) := by
  constructor
  · intro h
    refine ⟨?_, ?_⟩
    · rw [List.findIdx_lt_length] at h
      obtain ⟨x, hx, e⟩ := h
      exact hasG_iff.2 ⟨x, hx, eq_of_beq e⟩
    · unfold getG
      rw [List.find?_eq_getElem?_findIdx, List.getElem?_eq_getElem h, List.getD_eq_getElem?_getD, List.getElem?_eq_getElem h]
  · intro h
    have h0 : hasG Pt.id w t = false := by
      refine eq_false_of_ne_true fun k => ?_
      obtain ⟨x, hx, e⟩ := hasG_iff.1 k
      have : w.findIdx (fun c => c.id == t) < w.length := List.findIdx_lt_length.2 ⟨x, hx, by simpa using e⟩
      omega
    exact ⟨h0, getG_none h0⟩
def qget_s (args : List PV) (K : PV → Prop) : Prop := ∃ (w : List Pt) (tl : Tail) (t : Int), SlIs args [.list (w.map ptc) tl, .int .u32 t] ∧ w.length ≤ 1000000 ∧ K (.tup [(gP w t).pv, .bool (hP w t)])
theorem qget_ok : SpOk Try.prog gl 82 (.pure qget_s) := by
  rintro args K ⟨w, tl, t, he, hl, hk⟩
  have he : args = _ := he
  subst he
  obtain ⟨g1, g2⟩ := getP_find w t
  refine spure_w gl_low (.cons (.list _ _) (.cons (.refl _) .nil)) (low_two (low_ptl w) (.int _ _)) (.tup _ (low_two (Pt.low _) (.bool _))) (acalls_weak (qget1_vc w t (fun x => ∃ x1, Wk x x1 ∧ x1 = .tup [(gP w t).pv, .bool (hP w t)]) ⟨w, t, hl, trivial, rfl, rfl, fun h => ?_, fun h => ?_⟩)) hk
  · obtain ⟨e1, e2⟩ := g1 h
    rw [show hP w t = true from e1, show gP w t = _ from e2]
    exact ⟨_, .refl _, rfl⟩
  · obtain ⟨e1, e2⟩ := g2 h
    rw [show hP w t = false from e1, show gP w t = _ from e2]
    exact ⟨_, wk_ptt (c := pt0) (t1 := .exact) (t2 := .exact), rfl⟩
def qof_s (args : List PV) (K : PV → Prop) : Prop := ∃ (w : List Pt) (tl : Tail) (t : Int), SlIs args [.list (w.map ptc) tl, .int .u32 t] ∧ SmP w ∧ K (.int .u32 (ofP w t))
theorem qof_ok : SpOk Try.prog gl 31 (.pure qof_s) := by
  rintro args K ⟨w, tl, t, he, hl, hk⟩
  have he : args = _ := he
  subst he
  have := hl.len
  refine spure_w gl_low (.cons (.list _ _) (.cons (.refl _) .nil)) (low_two (low_ptl w) (.int _ _)) (.int _ _) (qof1_vc w t (fun x => x = .int .u32 (ofP w t)) ⟨w, t, by omega, hl.ms, rfl, rfl, fun h => ?_, fun h => ?_⟩) hk
  · unfold ofP; rw [if_pos h]
  · unfold ofP; rw [if_neg (by omega)]
def qids_s (args : List PV) (K : PV → Prop) : Prop := ∃ (w : List Pt) (tl : Tail), SlIs args [.list (w.map ptc) tl] ∧ w.length ≤ 1000000 ∧ K (.list ((w.map Pt.id).map u1) .no)
theorem qids_ok : SpOk Try.prog gl 66 (.pure qids_s) := by
  rintro args K ⟨w, tl, he, hl, hk⟩
  have he : args = _ := he
  subst he
  exact spure_w gl_low (.cons (.list _ _) .nil) (low_one (low_ptl w)) (low_us _) (qids1_vc w (fun x => x = .list ((w.map Pt.id).map u1) .no) ⟨w, hl, trivial, rfl, rfl, by rw [List.map_map]; rfl⟩) hk
def qsame_s (args : List PV) (K : PV → Prop) : Prop := ∃ (a : Pt) (t1 t2 t3 t4 : Tail), SlIs args [.agg [.int .u32 a.id, .int .u32 a.ld, .list (en1 .u32 a.ms) t1, .list (en1 .u32 a.iv) t2], .agg [.int .u32 a.id, .int .u32 a.ld, .list (en1 .u32 a.ms) t3, .list (en1 .u32 a.iv) t4]] ∧ a.Sm ∧ K (.bool true)
theorem qsame_ok : SpOk Try.prog gl 67 (.pure qsame_s) := by
  rintro args K ⟨a, t1, t2, t3, t4, he, h, hk⟩
  have he : args = _ := he
  subst he
  refine spure_w gl_low (.cons wk_pt (.cons wk_pt .nil)) (low_two a.low a.low) (.bool _) (qsame1_vc a a (fun x => x = .bool true) ?_) hk
  simp only [br_if]
  rw [if_pos (by simp), if_pos (by simp)]
  refine ⟨a.ms, a.ms, .no, .no, rfl, h.ms, ?_⟩
  rw [if_pos (by simp)]
  exact ⟨a.iv, a.iv, .no, .no, rfl, h.iv, by simp⟩
theorem fin7 {r : List Pt} {es : List (List PV)} {t : Tail} {ov b : Bool} (h : es = r.map ptc) (hb : ov = b) : ∃ x1, Wk (.tup [.list es t, .bool ov]) x1 ∧ x1 = .tup [.list (r.map ptc) .no, .bool b] := by
  subst h; subst hb; exact ⟨_, .tup (.cons (.list _ _) (.cons (.refl _) .nil)), rfl⟩
theorem inu0 {l : List Int} (h : 0 < l.length) : InL (l.map u1) 1 (0 : Int) := by
  have := inL_u1 l 0
  rw [show ((0 : Nat) : Int) = 0 from rfl] at this
  rw [this]; exact h
def qput_s (args : List PV) (K : PV → Prop) : Prop := ∃ (l : List Pt) (tl : Tail) (c : Pt) (t1 t2 : Tail), SlIs args [.list (l.map ptc) tl, .agg [.int .u32 c.id, .int .u32 c.ld, .list (en1 .u32 c.ms) t1, .list (en1 .u32 c.iv) t2]] ∧ l.length ≤ 100000 ∧ c.Sm ∧ Rise Pt.id l ∧ K (.tup [.list ((keepS l c).1.map ptc) .no, .bool (keepS l c).2])
theorem qput_ok : SpOk Try.prog gl 83 (.pure qput_s) := by
  rintro args K ⟨l, tl, c, t1, t2, he, hl, h, hr, hk⟩
  have he : args = _ := he
  subst he
  refine spure_w gl_low (.cons (.list _ _) (.cons wk_pt .nil)) (low_two (low_ptl l) c.low) (.tup _ (low_two (low_ptl _) (.bool _))) (acalls_weak (qput1_vc l c (fun x => ∃ x1, Wk x x1 ∧ x1 = .tup [.list ((keepS l c).1.map ptc) .no, .bool (keepS l c).2]) ?_)) hk
  have h1 := h.ms
  have h2 := h.iv
  simp only [br_if, List.length_map, dt, bf, bt]
  rw [w_small (by omega) (by omega)]
  by_cases o : ovP c = true
  · have hs : keepS l c = (dropG Pt.id l c.id, true) := by unfold keepS; rw [if_pos o]
    rw [hs]
    have o' := of_decide_eq_true o
    by_cases c1 : c.ms.length = 0
    · have z : (((c.ms.length : Nat) : Int) == 0) = true := by rw [c1]; rfl
      rw [z]
      by_cases c2 : c.iv.length < 2
      · rw [if_neg (by simp; omega), if_neg (by omega)]
        refine ⟨l, c, true, true, by omega, trivial, rfl, rfl, fun h1 => ?_, fun h1 => ?_⟩
        · rw [putA_true] at h1 ⊢
          rw [if_neg (by simp)]
          exact fin7 (by show _ = _; rw [show dropG Pt.id l c.id = [] from h1]; rfl) rfl
        · rw [putA_true] at h1 ⊢
          rw [if_neg (by simp)]
          exact fin7 rfl rfl
      · rw [if_pos (by simp; omega), if_neg (by omega)]
        refine ⟨l, c, true, true, by omega, trivial, rfl, rfl, fun h1 => ?_, fun h1 => ?_⟩
        · rw [putA_true] at h1 ⊢
          rw [if_neg (by simp)]
          exact fin7 (by show _ = _; rw [show dropG Pt.id l c.id = [] from h1]; rfl) rfl
        · rw [putA_true] at h1 ⊢
          rw [if_neg (by simp)]
          exact fin7 rfl rfl
    · have hm : 0 < c.ms.length := by omega
      rw [if_neg (by simp; omega), if_pos (by omega)]
      refine ⟨c.ms, .no, c.ld, rfl, h.ms, ?_⟩
      by_cases c4 : memB c.ms c.ld = true
      · rw [if_neg (by rw [c4]; decide)]
        refine ⟨l, c, true, true, by omega, trivial, rfl, rfl, fun h1 => ?_, fun h1 => ?_⟩
        · rw [putA_true] at h1 ⊢
          rw [if_neg (by simp)]
          exact fin7 (by show _ = _; rw [show dropG Pt.id l c.id = [] from h1]; rfl) rfl
        · rw [putA_true] at h1 ⊢
          rw [if_neg (by simp)]
          exact fin7 rfl rfl
      · rw [if_pos (by rw [eq_false_of_ne_true c4]; rfl)]
        refine ⟨inu0 hm, ?_⟩
        rw [getD_map 0 hm, if_pos (by rfl)]
        refine ⟨l, ⟨c.id, c.ms.getD 0 0, c.ms, c.iv⟩, true, true, by omega, trivial, rfl, rfl, fun h1 => ?_, fun h1 => ?_⟩
        · rw [putA_true] at h1 ⊢
          rw [if_neg (by simp)]
          exact fin7 (by show _ = _; rw [show dropG Pt.id l c.id = [] from h1]; rfl) rfl
        · rw [putA_true] at h1 ⊢
          rw [if_neg (by simp)]
          exact fin7 rfl rfl
  · have hs : keepS l c = (putG Pt.id l (fixP c), false) := by unfold keepS; rw [if_neg o]
    have o' := of_decide_eq_false (eq_false_of_ne_true o)
    have hm : 0 < c.ms.length := by omega
    rw [hs]
    have z : (((c.ms.length : Nat) : Int) == 0) = false := by rw [beq_eq_false_iff_ne]; omega
    have e := putA_false (fixP c) hr
    unfold putE at e
    have hq := putA_len Pt.id (fixP c) false l
    rw [z, if_pos (by simp; omega), if_pos (by omega)]
    refine ⟨c.ms, .no, c.ld, rfl, h.ms, ?_⟩
    by_cases c4 : memB c.ms c.ld = true
    · rw [if_neg (by rw [c4]; decide)]
      have hf : fixP c = c := by unfold fixP; rw [if_pos c4]
      rw [hf] at e hq ⊢
      refine ⟨l, c, false, false, by omega, trivial, rfl, rfl, fun h1 => ?_, fun h1 => ?_⟩
      · by_cases h2 : (putA Pt.id c false l).2 = false
        · rw [if_pos h2, h1] at e
          rw [if_pos (by rw [h2]; rfl)]
          exact ⟨appL_map (l := []) (by_ := 56) ptc_len c (by show (0 + 1) * 56 ≤ _; decide), one_row one_ptc c, fin7 (by rw [← e]; rfl) rfl⟩
        · rw [if_neg h2, h1] at e
          rw [if_neg (by simpa using h2)]
          exact fin7 (by rw [← e]; rfl) rfl
      · by_cases h2 : (putA Pt.id c false l).2 = false
        · rw [if_pos h2] at e
          rw [if_pos (by rw [h2]; rfl)]
          exact ⟨appL_map ptc_len _ c (by omega), one_row one_ptc c, fin7 (by rw [← e, List.map_append]; rfl) rfl⟩
        · rw [if_neg h2] at e
          rw [if_neg (by simpa using h2)]
          exact fin7 (by rw [← e]) rfl
    · rw [if_pos (by rw [eq_false_of_ne_true c4]; rfl)]
      refine ⟨inu0 hm, ?_⟩
      rw [getD_map 0 hm, if_pos (by rfl)]
      have hf : fixP c = ⟨c.id, c.ms.getD 0 0, c.ms, c.iv⟩ := by unfold fixP; rw [if_neg c4]
      rw [hf] at e hq ⊢
      refine ⟨l, ⟨c.id, c.ms.getD 0 0, c.ms, c.iv⟩, false, false, by omega, trivial, rfl, rfl, fun h1 => ?_, fun h1 => ?_⟩
      · by_cases h2 : (putA Pt.id ⟨c.id, c.ms.getD 0 0, c.ms, c.iv⟩ false l).2 = false
        · rw [if_pos h2, h1] at e
          rw [if_pos (by rw [h2]; rfl)]
          exact ⟨appL_map (l := []) (by_ := 56) ptc_len ⟨c.id, c.ms.getD 0 0, c.ms, c.iv⟩ (by show (0 + 1) * 56 ≤ _; decide), one_row one_ptc ⟨c.id, c.ms.getD 0 0, c.ms, c.iv⟩, fin7 (by rw [← e]; rfl) rfl⟩
        · rw [if_neg h2, h1] at e
          rw [if_neg (by simpa using h2)]
          exact fin7 (by rw [← e]; rfl) rfl
      · by_cases h2 : (putA Pt.id ⟨c.id, c.ms.getD 0 0, c.ms, c.iv⟩ false l).2 = false
        · rw [if_pos h2] at e
          rw [if_pos (by rw [h2]; rfl)]
          exact ⟨appL_map ptc_len _ ⟨c.id, c.ms.getD 0 0, c.ms, c.iv⟩ (by omega), one_row one_ptc ⟨c.id, c.ms.getD 0 0, c.ms, c.iv⟩, fin7 (by rw [← e, List.map_append]; rfl) rfl⟩
        · rw [if_neg h2] at e
          rw [if_neg (by simpa using h2)]
          exact fin7 (by rw [← e]) rfl
end Go.Proofs.Ythabdpaipgclpaa
