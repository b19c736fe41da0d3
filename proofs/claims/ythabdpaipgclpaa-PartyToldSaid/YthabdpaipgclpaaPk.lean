/-
  The document's parties, closed.
-/
import Derived.Test.YthabdpaipgclpaaPj
import Derived.Test.YthabdpaipgclpaaProg
namespace Go.Proofs.Ythabdpaipgclpaa
open Go Go.AM Go.Proofs
theorem PO.smp {w : List Pt} {m : Int} (h : PO w m) (hm : m ≤ 100000) : SmP w := ⟨by have := h.full; omega, fun c hc => (h.sm c hc).ms, fun c hc => (h.sm c hc).iv⟩
theorem en1_nil {l : List Int} (h : en1 .u32 l = []) : l = [] := by cases l with | nil => rfl | cons a l => cases h
theorem app_us {l : List Int} (h : l.length ≤ 1000000) : AppL [] (en1 .u32 l) 1 4 := ⟨(fun _ h => nomatch h), uni_map u1_len _, by simp only [en1_length, List.length_nil, Nat.zero_add]; omega⟩
theorem all_us (l : List Int) : List.all (List.flatten (en1 .u32 l)) PV.one = true := by
  rw [List.all_eq_true]
  intro x hx
  obtain ⟨r, hr, hx⟩ := List.mem_flatten.1 hx
  obtain ⟨a, _, rfl⟩ := List.mem_map.1 hr
  rcases List.mem_singleton.1 hx with rfl
  rfl
def qled_s (args : List PV) (K : PV → Prop) : Prop := ∃ (w : List Pt) (m : Int) (tl : Tail) (a p : Int), SlIs args [.list (w.map ptc) tl, .int .u32 a, .int .u32 p] ∧ PO w m ∧ m ≤ 100000 ∧ K (.tup [(gP w (ofP w a)).pv, .int .i64 (ledE w a p)])
theorem qled_ok : SpOk Try.prog gl 85 (.pure qled_s) := by
  rintro args K ⟨w, m, tl, a, p, he, ro, hm, hk⟩
  have he : args = _ := he
  subst he
  have hwl := ro.len
  have sm := ro.smp hm
  refine spure_w gl_low (.cons (.list _ _) (.cons (.refl _) (.cons (.refl _) .nil))) (low_three (low_ptl w) (.int _ _) (.int _ _)) (.tup _ (low_two (Pt.low _) (.int _ _))) (qled1_vc w a p (fun x => x = .tup [(gP w (ofP w a)).pv, .int .i64 (ledE w a p)]) ?_) hk
  refine ⟨w, .no, a, rfl, sm, w, .no, ofP w a, rfl, hwl, ?_⟩
  obtain ⟨z, hz⟩ : ∃ z, z = ledE w a p := ⟨_, rfl⟩
  simp only [← hz, br_if]
  unfold ledE at hz
  by_cases c1 : hP w (ofP w a) = true
  · rw [if_neg (by rw [c1]; decide)]; rw [if_pos c1] at hz
    by_cases c2 : (gP w (ofP w a)).ld = a
    · rw [if_neg (by simp [c2])]; rw [if_pos c2] at hz
      by_cases c3 : a = p
      · rw [if_pos (by simpa using c3)]; rw [if_pos c3] at hz; subst hz; rfl
      · rw [if_neg (by simpa using c3)]; rw [if_neg c3] at hz; subst hz; rfl
    · rw [if_pos (by simpa using c2)]; rw [if_neg c2] at hz; subst hz; rfl
  · rw [if_pos (by rw [eq_false_of_ne_true c1]; rfl)]; rw [if_neg c1] at hz; subst hz; rfl
def qref_s (args : List PV) (K : PV → Prop) : Prop := ∃ (w : List Pt) (m : Int) (tl : Tail) (t p : Int), SlIs args [.list (w.map ptc) tl, .int .u32 t, .int .u32 p] ∧ PO w m ∧ m ≤ 100000 ∧ K (.tup [.list ((refS w t p).1.map ptc) .no, .bool (refS w t p).2.1, .int .i64 (refS w t p).2.2])
theorem qref_ok : SpOk Try.prog gl 62 (.pure qref_s) := by
  rintro args K ⟨w, m, tl, t, p, he, ro, hm, hk⟩
  have he : args = _ := he
  subst he
  have hwl := ro.len
  have sm := ro.smp hm
  refine spure_w gl_low (.cons (.list _ _) (.cons (.refl _) (.cons (.refl _) .nil))) (low_three (low_ptl w) (.int _ _) (.int _ _)) (.tup _ (low_three (low_ptl _) (.bool _) (.int _ _))) (qref1_vc w t p (fun x => x = .tup [.list ((refS w t p).1.map ptc) .no, .bool (refS w t p).2.1, .int .i64 (refS w t p).2.2]) ?_) hk
  refine ⟨w, .no, t, rfl, hwl, ?_⟩
  obtain ⟨z, hz⟩ : ∃ z, z = refS w t p := ⟨_, rfl⟩
  simp only [← hz, br_if]
  unfold refS at hz
  by_cases c1 : hP w t = true
  · have k := ro.into c1
    have h4 := k.ok.n4
    rw [if_pos (by rw [c1]; rfl)]
    refine ⟨(gP w t).iv, .no, p, rfl, k.ok.sm.iv, ?_⟩
    by_cases c2 : memB (gP w t).iv p = true
    · rw [if_neg (by rw [c2]; decide)]; rw [if_pos ⟨c1, c2⟩] at hz; subst hz
      have hw := woS_len (gP w t).iv p
      exact ⟨(gP w t).iv, .no, p, rfl, k.ok.sm.iv, w, .no, refC (gP w t) p, .no, .no, rfl, sm.len, ⟨k.ok.sm.ms, by show (woS (gP w t).iv p).length ≤ _; omega⟩, ro.rise, rfl⟩
    · rw [if_pos (by rw [eq_false_of_ne_true c2]; rfl)]; rw [if_neg (fun h => c2 h.2)] at hz; subst hz; rfl
  · rw [if_neg (by rw [eq_false_of_ne_true c1]; decide)]; rw [if_neg (fun h => c1 h.1)] at hz; subst hz; rfl
def qleave_s (args : List PV) (K : PV → Prop) : Prop := ∃ (w : List Pt) (m : Int) (tl : Tail) (p : Int), SlIs args [.list (w.map ptc) tl, .int .u32 p] ∧ PO w m ∧ m ≤ 100000 ∧ K (.tup [.list ((leaveS w p).1.map ptc) .no, .int .u32 (leaveS w p).2.1, .bool (leaveS w p).2.2.1, .int .i64 (leaveS w p).2.2.2])
theorem qleave_ok : SpOk Try.prog gl 63 (.pure qleave_s) := by
  rintro args K ⟨w, m, tl, p, he, ro, hm, hk⟩
  have he : args = _ := he
  subst he
  have hwl := ro.len
  have sm := ro.smp hm
  refine spure_w gl_low (.cons (.list _ _) (.cons (.refl _) .nil)) (low_two (low_ptl w) (.int _ _)) (.tup _ (low_four (low_ptl _) (.int _ _) (.bool _) (.int _ _))) (qleave1_vc w p (fun x => x = .tup [.list ((leaveS w p).1.map ptc) .no, .int .u32 (leaveS w p).2.1, .bool (leaveS w p).2.2.1, .int .i64 (leaveS w p).2.2.2]) ?_) hk
  refine ⟨w, .no, p, rfl, sm, w, .no, ofP w p, rfl, hwl, ?_⟩
  obtain ⟨z, hz⟩ : ∃ z, z = leaveS w p := ⟨_, rfl⟩
  simp only [← hz, br_if]
  unfold leaveS at hz
  by_cases c1 : hP w (ofP w p) = true
  · have k := ro.into c1
    have h4 := k.ok.n4
    have hw := woS_len (gP w (ofP w p)).ms p
    rw [if_neg (by rw [c1]; decide)]; rw [if_pos c1] at hz; subst hz
    exact ⟨(gP w (ofP w p)).ms, .no, p, rfl, k.ok.sm.ms, w, .no, leaveC (gP w (ofP w p)) p, .no, .no, rfl, sm.len, ⟨by show (woS (gP w (ofP w p)).ms p).length ≤ _; omega, k.ok.sm.iv⟩, ro.rise, rfl⟩
  · rw [if_pos (by rw [eq_false_of_ne_true c1]; rfl)]; rw [if_neg c1] at hz; subst hz; rfl
def qjoin_s (args : List PV) (K : PV → Prop) : Prop := ∃ (w : List Pt) (m : Int) (tl : Tail) (t p : Int), SlIs args [.list (w.map ptc) tl, .int .u32 t, .int .u32 p] ∧ PO w m ∧ m ≤ 100000 ∧ K (.tup [.list ((joinS w t p).1.map ptc) .no, .int .i64 (joinS w t p).2])
theorem qjoin_ok : SpOk Try.prog gl 61 (.pure qjoin_s) := by
  rintro args K ⟨w, m, tl, t, p, he, ro, hm, hk⟩
  have he : args = _ := he
  subst he
  have hwl := ro.len
  have sm := ro.smp hm
  refine spure_w gl_low (.cons (.list _ _) (.cons (.refl _) (.cons (.refl _) .nil))) (low_three (low_ptl w) (.int _ _) (.int _ _)) (.tup _ (low_two (low_ptl _) (.int _ _))) (qjoin1_vc w t p (fun x => x = .tup [.list ((joinS w t p).1.map ptc) .no, .int .i64 (joinS w t p).2]) ?_) hk
  refine ⟨w, .no, t, rfl, hwl, ?_⟩
  obtain ⟨z, hz⟩ : ∃ z, z = joinS w t p := ⟨_, rfl⟩
  simp only [← hz, br_if]
  unfold joinS at hz
  by_cases c1 : hP w t = true
  · have k := ro.into c1
    have h4 := k.ok.n4
    have h1 := k.ok.n1
    rw [if_pos (by rw [c1]; rfl)]
    refine ⟨(gP w t).iv, .no, p, rfl, k.ok.sm.iv, ?_⟩
    by_cases c2 : memB (gP w t).iv p = true
    · rw [if_neg (by rw [c2]; decide)]; rw [if_pos ⟨c1, c2⟩] at hz
      refine ⟨w, .no, p, rfl, sm, ?_⟩
      by_cases c3 : ofP w p = 0
      · rw [if_neg (by simpa using c3)]; rw [if_pos c3] at hz; subst hz
        have hw := woS_len (gP w t).iv p
        refine ⟨(gP w t).iv, .no, p, rfl, k.ok.sm.iv, app_us k.ok.sm.ms, all_us _, fun c0 => ?_, fun c0 => ⟨appL_map u1_len (gP w t).ms p (by omega), one_row one_u1 p, w, .no, joinC (gP w t) p, .tok 2, .no, (by show _ = _; unfold joinC; simp only [en1_snoc] <;> rfl), sm.len, ⟨by show ((gP w t).ms ++ [p]).length ≤ _; rw [List.length_append, List.length_singleton]; omega, by show (woS (gP w t).iv p).length ≤ _; omega⟩, ro.rise, rfl⟩⟩
        have c0 := en1_nil c0
        rw [c0] at h1; exact absurd h1 (by decide)
      · rw [if_pos (by simpa using c3)]; rw [if_neg c3] at hz; subst hz; rfl
    · rw [if_pos (by rw [eq_false_of_ne_true c2]; rfl)]; rw [if_neg (fun h => c2 h.2)] at hz; subst hz; rfl
  · rw [if_neg (by rw [eq_false_of_ne_true c1]; decide)]; rw [if_neg (fun h => c1 h.1)] at hz; subst hz; rfl
def qinv_s (args : List PV) (K : PV → Prop) : Prop := ∃ (w : List Pt) (m : Int) (tl : Tail) (a p : Int), SlIs args [.list (w.map ptc) tl, .int .i64 m, .int .u32 a, .int .u32 p] ∧ PO w m ∧ m ≤ 100000 ∧ 0 ≤ a ∧ 0 ≤ p ∧ K (.tup [.list ((invS w m a p).1.map ptc) .no, .int .u32 (invS w m a p).2.1, .int .i64 (invS w m a p).2.2])
theorem qinv_ok : SpOk Try.prog gl 60 (.pure qinv_s) := by
  rintro args K ⟨w, m, tl, a, p, he, ro, hm, ha, hp, hk⟩
  have he : args = _ := he
  subst he
  have hwl := ro.len
  have sm := ro.smp hm
  refine spure_w gl_low (.cons (.list _ _) (.cons (.refl _) (.cons (.refl _) (.cons (.refl _) .nil)))) (low_four (low_ptl w) (.int _ _) (.int _ _) (.int _ _)) (.tup _ (low_three (low_ptl _) (.int _ _) (.int _ _))) (qinv1_vc w m a p (fun x => x = .tup [.list ((invS w m a p).1.map ptc) .no, .int .u32 (invS w m a p).2.1, .int .i64 (invS w m a p).2.2]) ?_) hk
  refine ⟨a, ha, rfl, ?_⟩
  obtain ⟨z, hz⟩ : ∃ z, z = invS w m a p := ⟨_, rfl⟩
  simp only [← hz, br_if, dt, List.length_map]
  unfold invS at hz
  by_cases r1 : rightS a = true
  · rw [if_pos (show ((!rightS a) == false) = true by rw [r1]; rfl)]
    refine ⟨p, hp, rfl, ?_⟩
    by_cases r2 : rightS p = true
    · rw [if_neg (show ¬ (!rightS p) = true by rw [r2]; decide)]; rw [if_pos ⟨r1, r2⟩] at hz
      by_cases r3 : a = p
      · rw [if_pos (by simpa using r3)]; rw [if_pos r3] at hz; subst hz; rfl
      · rw [if_neg (by simpa using r3)]; rw [if_neg r3] at hz
        refine ⟨w, .no, a, rfl, sm, w, .no, ofP w a, rfl, hwl, ?_⟩
        by_cases c1 : hP w (ofP w a) = true
        · have k := ro.into c1
          have h4 := k.ok.n4
          rw [if_pos c1] at hz; rw [if_pos c1]
          by_cases c4 : (gP w (ofP w a)).ld = a
          · rw [if_neg (by simpa using c4)]; rw [if_pos c4] at hz
            refine ⟨(gP w (ofP w a)).ms, .no, p, rfl, k.ok.sm.ms, ?_⟩
            by_cases c5 : memB (gP w (ofP w a)).ms p = true
            · rw [if_neg (by rw [c5]; decide)]; rw [if_pos (.inl c5)] at hz; subst hz; rfl
            · rw [if_pos (by rw [eq_false_of_ne_true c5]; rfl)]
              refine ⟨(gP w (ofP w a)).iv, .no, p, rfl, k.ok.sm.iv, ?_⟩
              by_cases c6 : memB (gP w (ofP w a)).iv p = true
              · rw [if_pos c6]; rw [if_pos (.inr c6)] at hz; subst hz; rfl
              · rw [if_neg c6]; rw [if_neg (fun h => h.elim c5 c6)] at hz
                simp only [en1_length]
                by_cases c7 : (gP w (ofP w a)).ms.length + (gP w (ofP w a)).iv.length ≥ 4
                · rw [if_pos (by rw [w_small (by omega) (by omega)]; omega)]; rw [if_pos c7] at hz; subst hz; rfl
                · rw [if_neg (by rw [w_small (by omega) (by omega)]; omega)]; rw [if_neg c7] at hz; subst hz
                  refine ⟨app_us k.ok.sm.iv, all_us _, fun c0 => ?_, fun c0 => ⟨appL_map u1_len (gP w (ofP w a)).iv p (by omega), one_row one_u1 p, w, .no, invC (gP w (ofP w a)) p, .no, .tok 2, (by show _ = _; unfold invC; simp only [en1_snoc] <;> rfl), sm.len, ⟨k.ok.sm.ms, by show ((gP w (ofP w a)).iv ++ [p]).length ≤ _; rw [List.length_append, List.length_singleton]; omega⟩, ro.rise, rfl⟩⟩
                  have c0 := en1_nil c0
                  exact ⟨appL_map (l := []) (by_ := 4) u1_len p (by show (0 + 1) * 4 ≤ _; decide), one_row one_u1 p, w, .no, invC (gP w (ofP w a)) p, .no, .tok 1, (by show _ = _; unfold invC; simp only [en1_snoc, c0] <;> rfl), sm.len, ⟨k.ok.sm.ms, by show ((gP w (ofP w a)).iv ++ [p]).length ≤ _; rw [List.length_append, List.length_singleton]; omega⟩, ro.rise, rfl⟩
          · rw [if_pos (by simpa using c4)]; rw [if_neg c4] at hz; subst hz; rfl
        · rw [if_neg c1] at hz; rw [if_neg c1]
          by_cases c4 : (w.length : Int) ≥ m
          · rw [if_pos c4]; rw [if_pos c4] at hz; subst hz; rfl
          · rw [if_neg c4]; rw [if_neg c4] at hz; subst hz
            refine ⟨w, m, a, p, gP w (ofP w a), ro, rfl, rfl, ⟨(fun _ h => nomatch h), (fun _ h => nomatch h), by decide⟩, rfl, fun _ => ?_, fun h => absurd rfl h⟩
            exact ⟨appL_map (l := []) (by_ := 4) u1_len p (by show (0 + 1) * 4 ≤ _; decide), one_row one_u1 p, w, .no, ⟨freeP w, a, [a], [p]⟩, .exact, .tok 1, rfl, sm.len, ⟨(show (1 : Nat) ≤ 1000000 by decide), (show (1 : Nat) ≤ 1000000 by decide)⟩, ro.rise, rfl⟩
    · rw [if_pos (show (!rightS p) = true by rw [eq_false_of_ne_true r2]; rfl)]; rw [if_neg (fun h => r2 h.2)] at hz; subst hz; rfl
  · rw [if_neg (show ¬ ((!rightS a) == false) = true by rw [eq_false_of_ne_true r1]; decide)]; rw [if_neg (fun h => r1 h.1)] at hz; subst hz; rfl
def TYK : Tab := (85, .pure qled_s) :: TY0
theorem TYK_ok : TabOk Try.prog gl TYK := .cons qled_ok TY0_ok
theorem qkick1_vc (w : List Pt) (a p : Int)  (K : PV → Prop) (h : ∃ (w_1 : List Pt), ∃ (m : Int), ∃ (tl : Tail), ∃ (a_1 : Int), ∃ (p_1 : Int), SlIs [PV.list (List.map ptc w) Tail.no, PV.int IntKind.u32 a, PV.int IntKind.u32 p] [PV.list (List.map ptc w_1) tl, PV.int IntKind.u32 a_1, PV.int IntKind.u32 p_1] ∧ PO w_1 m ∧ m ≤ 100000 ∧ br (ledE w_1 a_1 p_1 != 0) (K (PV.tup [PV.list (List.map ptc w) Tail.no, PV.bool false, PV.int IntKind.i64 (ledE w_1 a_1 p_1)])) (∃ (l : List Int), ∃ (tl : Tail), ∃ (t : Int), SlIs [PV.list (en1 IntKind.u32 (Pt.ms (gP w_1 (ofP w_1 a_1)))) Tail.no, PV.int IntKind.u32 p] [PV.list (List.map u1 l) tl, PV.int IntKind.u32 t] ∧ List.length l ≤ 1000000 ∧ br ((!memB l t) == true) (∃ (l : List Int), ∃ (tl : Tail), ∃ (t : Int), SlIs [PV.list (en1 IntKind.u32 (Pt.iv (gP w_1 (ofP w_1 a_1)))) Tail.no, PV.int IntKind.u32 p] [PV.list (List.map u1 l) tl, PV.int IntKind.u32 t] ∧ List.length l ≤ 1000000 ∧ br (!memB l t) (K (PV.tup [PV.list (List.map ptc w) Tail.no, PV.bool false, PV.int IntKind.i64 13])) (∃ (l : List Int), ∃ (tl : Tail), ∃ (t : Int), SlIs [PV.list (en1 IntKind.u32 (Pt.ms (gP w_1 (ofP w_1 a_1)))) Tail.no, PV.int IntKind.u32 p] [PV.list (List.map u1 l) tl, PV.int IntKind.u32 t] ∧ List.length l ≤ 1000000 ∧ ∃ (l_1 : List Int), ∃ (tl : Tail), ∃ (t_1 : Int), SlIs [PV.list (en1 IntKind.u32 (Pt.iv (gP w_1 (ofP w_1 a_1)))) Tail.no, PV.int IntKind.u32 p] [PV.list (List.map u1 l_1) tl, PV.int IntKind.u32 t_1] ∧ List.length l_1 ≤ 1000000 ∧ ∃ (l_2 : List Pt), ∃ (tl : Tail), ∃ (c : Pt), ∃ (t1 : Tail), ∃ (t2 : Tail), SlIs [PV.list (List.map ptc w) Tail.no, PV.agg [PV.int IntKind.u32 (Pt.id (gP w_1 (ofP w_1 a_1))), PV.int IntKind.u32 (Pt.ld (gP w_1 (ofP w_1 a_1))), PV.list (List.map u1 (woS l t)) Tail.no, PV.list (List.map u1 (woS l_1 t_1)) Tail.no]] [PV.list (List.map ptc l_2) tl, PV.agg [PV.int IntKind.u32 (Pt.id c), PV.int IntKind.u32 (Pt.ld c), PV.list (en1 IntKind.u32 (Pt.ms c)) t1, PV.list (en1 IntKind.u32 (Pt.iv c)) t2]] ∧ List.length l_2 ≤ 100000 ∧ Pt.Sm c ∧ Rise Pt.id l_2 ∧ K (PV.tup [PV.list (List.map ptc (Prod.fst (keepS l_2 c))) Tail.no, PV.bool (Prod.snd (keepS l_2 c)), PV.int IntKind.i64 0]))) (∃ (l : List Int), ∃ (tl : Tail), ∃ (t : Int), SlIs [PV.list (en1 IntKind.u32 (Pt.ms (gP w_1 (ofP w_1 a_1)))) Tail.no, PV.int IntKind.u32 p] [PV.list (List.map u1 l) tl, PV.int IntKind.u32 t] ∧ List.length l ≤ 1000000 ∧ ∃ (l_1 : List Int), ∃ (tl : Tail), ∃ (t_1 : Int), SlIs [PV.list (en1 IntKind.u32 (Pt.iv (gP w_1 (ofP w_1 a_1)))) Tail.no, PV.int IntKind.u32 p] [PV.list (List.map u1 l_1) tl, PV.int IntKind.u32 t_1] ∧ List.length l_1 ≤ 1000000 ∧ ∃ (l_2 : List Pt), ∃ (tl : Tail), ∃ (c : Pt), ∃ (t1 : Tail), ∃ (t2 : Tail), SlIs [PV.list (List.map ptc w) Tail.no, PV.agg [PV.int IntKind.u32 (Pt.id (gP w_1 (ofP w_1 a_1))), PV.int IntKind.u32 (Pt.ld (gP w_1 (ofP w_1 a_1))), PV.list (List.map u1 (woS l t)) Tail.no, PV.list (List.map u1 (woS l_1 t_1)) Tail.no]] [PV.list (List.map ptc l_2) tl, PV.agg [PV.int IntKind.u32 (Pt.id c), PV.int IntKind.u32 (Pt.ld c), PV.list (en1 IntKind.u32 (Pt.ms c)) t1, PV.list (en1 IntKind.u32 (Pt.iv c)) t2]] ∧ List.length l_2 ≤ 100000 ∧ Pt.Sm c ∧ Rise Pt.id l_2 ∧ K (PV.tup [PV.list (List.map ptc (Prod.fst (keepS l_2 c))) Tail.no, PV.bool (Prod.snd (keepS l_2 c)), PV.int IntKind.i64 0])))) : ACalls Try.prog gl 64 [.list (w.map ptc) .no, .int .u32 a, .int .u32 p] [] (fun x _ => K x) :=
  acalls_of_wpc2 (T := TYK) (L := []) (fun o => match o.dst with | some 37 => 1201 | some 41 => 1301 | some _ => 0 | none => match o.op with | .store _ (.tmp 44) _ => 1201 | .store _ (.tmp 45) _ => 1301 | _ => 0) Try.func64 (by kernel_rfl) (by kernel_rfl) (by kernel_rfl) (TYK_ok) (LOk.nil _ _ _ _ _) (holds_of_eq (by kernel_rfl) h)
theorem qlead1_vc (w : List Pt) (a p : Int)  (K : PV → Prop) (h : ∃ (w_1 : List Pt), ∃ (m : Int), ∃ (tl : Tail), ∃ (a_1 : Int), ∃ (p_1 : Int), SlIs [PV.list (List.map ptc w) Tail.no, PV.int IntKind.u32 a, PV.int IntKind.u32 p] [PV.list (List.map ptc w_1) tl, PV.int IntKind.u32 a_1, PV.int IntKind.u32 p_1] ∧ PO w_1 m ∧ m ≤ 100000 ∧ br (ledE w_1 a_1 p_1 != 0) (K (PV.tup [PV.list (List.map ptc w) Tail.no, PV.int IntKind.i64 (ledE w_1 a_1 p_1)])) (∃ (l : List Int), ∃ (tl : Tail), ∃ (t : Int), SlIs [PV.list (en1 IntKind.u32 (Pt.ms (gP w_1 (ofP w_1 a_1)))) Tail.no, PV.int IntKind.u32 p] [PV.list (List.map u1 l) tl, PV.int IntKind.u32 t] ∧ List.length l ≤ 1000000 ∧ br (!memB l t) (K (PV.tup [PV.list (List.map ptc w) Tail.no, PV.int IntKind.i64 13])) (∃ (l : List Pt), ∃ (tl : Tail), ∃ (c : Pt), ∃ (t1 : Tail), ∃ (t2 : Tail), SlIs [PV.list (List.map ptc w) Tail.no, PV.agg [PV.int IntKind.u32 (Pt.id (gP w_1 (ofP w_1 a_1))), PV.int IntKind.u32 p, PV.list (en1 IntKind.u32 (Pt.ms (gP w_1 (ofP w_1 a_1)))) Tail.no, PV.list (en1 IntKind.u32 (Pt.iv (gP w_1 (ofP w_1 a_1)))) Tail.no]] [PV.list (List.map ptc l) tl, PV.agg [PV.int IntKind.u32 (Pt.id c), PV.int IntKind.u32 (Pt.ld c), PV.list (en1 IntKind.u32 (Pt.ms c)) t1, PV.list (en1 IntKind.u32 (Pt.iv c)) t2]] ∧ List.length l ≤ 100000 ∧ Pt.Sm c ∧ Rise Pt.id l ∧ K (PV.tup [PV.list (List.map ptc (Prod.fst (keepS l c))) Tail.no, PV.int IntKind.i64 0])))) : ACalls Try.prog gl 65 [.list (w.map ptc) .no, .int .u32 a, .int .u32 p] [] (fun x _ => K x) :=
  acalls_of_wpc2 (T := TYK) (L := []) (fun _ => 0) Try.func65 (by kernel_rfl) (by kernel_rfl) (by kernel_rfl) (TYK_ok) (LOk.nil _ _ _ _ _) (holds_of_eq (by kernel_rfl) h)
def qkick_s (args : List PV) (K : PV → Prop) : Prop := ∃ (w : List Pt) (m : Int) (tl : Tail) (a p : Int), SlIs args [.list (w.map ptc) tl, .int .u32 a, .int .u32 p] ∧ PO w m ∧ m ≤ 100000 ∧ K (.tup [.list ((kickS w a p).1.map ptc) .no, .bool (kickS w a p).2.1, .int .i64 (kickS w a p).2.2])
theorem qkick_ok : SpOk Try.prog gl 64 (.pure qkick_s) := by
  rintro args K ⟨w, m, tl, a, p, he, ro, hm, hk⟩
  have he : args = _ := he
  subst he
  have hwl := ro.len
  have sm := ro.smp hm
  refine spure_w gl_low (.cons (.list _ _) (.cons (.refl _) (.cons (.refl _) .nil))) (low_three (low_ptl w) (.int _ _) (.int _ _)) (.tup _ (low_three (low_ptl _) (.bool _) (.int _ _))) (qkick1_vc w a p (fun x => x = .tup [.list ((kickS w a p).1.map ptc) .no, .bool (kickS w a p).2.1, .int .i64 (kickS w a p).2.2]) ?_) hk
  refine ⟨w, m, .no, a, p, rfl, ro, hm, ?_⟩
  obtain ⟨z, hz⟩ : ∃ z, z = kickS w a p := ⟨_, rfl⟩
  simp only [← hz, br_if]
  unfold kickS at hz
  by_cases c0 : ledE w a p = 0
  · have c1 : hP w (ofP w a) = true := Classical.byContradiction fun h => by unfold ledE at c0; rw [if_neg h] at c0; exact absurd c0 (by decide)
    have k := ro.into c1
    have h4 := k.ok.n4
    have hw1 := woS_len (gP w (ofP w a)).ms p
    have hw2 := woS_len (gP w (ofP w a)).iv p
    rw [if_neg (by rw [c0]; decide)]; rw [if_pos c0] at hz
    refine ⟨(gP w (ofP w a)).ms, .no, p, rfl, k.ok.sm.ms, ?_⟩
    by_cases c2 : memB (gP w (ofP w a)).ms p = true
    · rw [if_pos (.inl c2)] at hz; subst hz
      rw [if_neg (by rw [c2]; decide)]
      exact ⟨(gP w (ofP w a)).ms, .no, p, rfl, k.ok.sm.ms, (gP w (ofP w a)).iv, .no, p, rfl, k.ok.sm.iv, w, .no, kickC (gP w (ofP w a)) p, .no, .no, rfl, sm.len, ⟨by show (woS (gP w (ofP w a)).ms p).length ≤ _; omega, by show (woS (gP w (ofP w a)).iv p).length ≤ _; omega⟩, ro.rise, rfl⟩
    · rw [if_pos (by rw [eq_false_of_ne_true c2]; rfl)]
      refine ⟨(gP w (ofP w a)).iv, .no, p, rfl, k.ok.sm.iv, ?_⟩
      by_cases c3 : memB (gP w (ofP w a)).iv p = true
      · rw [if_pos (.inr c3)] at hz; subst hz
        rw [if_neg (by rw [c3]; decide)]
        exact ⟨(gP w (ofP w a)).ms, .no, p, rfl, k.ok.sm.ms, (gP w (ofP w a)).iv, .no, p, rfl, k.ok.sm.iv, w, .no, kickC (gP w (ofP w a)) p, .no, .no, rfl, sm.len, ⟨by show (woS (gP w (ofP w a)).ms p).length ≤ _; omega, by show (woS (gP w (ofP w a)).iv p).length ≤ _; omega⟩, ro.rise, rfl⟩
      · rw [if_neg (fun h => h.elim c2 c3)] at hz; subst hz
        rw [if_pos (by rw [eq_false_of_ne_true c3]; rfl)]
  · rw [if_pos (by simpa using c0)]; rw [if_neg c0] at hz; subst hz; rfl
def qlead_s (args : List PV) (K : PV → Prop) : Prop := ∃ (w : List Pt) (m : Int) (tl : Tail) (a p : Int), SlIs args [.list (w.map ptc) tl, .int .u32 a, .int .u32 p] ∧ PO w m ∧ m ≤ 100000 ∧ K (.tup [.list ((leadS w a p).1.map ptc) .no, .int .i64 (leadS w a p).2])
theorem qlead_ok : SpOk Try.prog gl 65 (.pure qlead_s) := by
  rintro args K ⟨w, m, tl, a, p, he, ro, hm, hk⟩
  have he : args = _ := he
  subst he
  have hwl := ro.len
  have sm := ro.smp hm
  refine spure_w gl_low (.cons (.list _ _) (.cons (.refl _) (.cons (.refl _) .nil))) (low_three (low_ptl w) (.int _ _) (.int _ _)) (.tup _ (low_two (low_ptl _) (.int _ _))) (qlead1_vc w a p (fun x => x = .tup [.list ((leadS w a p).1.map ptc) .no, .int .i64 (leadS w a p).2]) ?_) hk
  refine ⟨w, m, .no, a, p, rfl, ro, hm, ?_⟩
  obtain ⟨z, hz⟩ : ∃ z, z = leadS w a p := ⟨_, rfl⟩
  simp only [← hz, br_if]
  unfold leadS at hz
  by_cases c0 : ledE w a p = 0
  · have c1 : hP w (ofP w a) = true := Classical.byContradiction fun h => by unfold ledE at c0; rw [if_neg h] at c0; exact absurd c0 (by decide)
    have k := ro.into c1
    have h4 := k.ok.n4
    have hw1 := woS_len (gP w (ofP w a)).ms p
    have hw2 := woS_len (gP w (ofP w a)).iv p
    rw [if_neg (by rw [c0]; decide)]; rw [if_pos c0] at hz
    refine ⟨(gP w (ofP w a)).ms, .no, p, rfl, k.ok.sm.ms, ?_⟩
    by_cases c2 : memB (gP w (ofP w a)).ms p = true
    · rw [if_pos c2] at hz; subst hz
      rw [if_neg (by rw [c2]; decide)]
      exact ⟨w, .no, leadC (gP w (ofP w a)) p, .no, .no, rfl, sm.len, ⟨k.ok.sm.ms, k.ok.sm.iv⟩, ro.rise, rfl⟩
    · rw [if_neg c2] at hz; subst hz
      rw [if_pos (by rw [eq_false_of_ne_true c2]; rfl)]
  · rw [if_pos (by simpa using c0)]; rw [if_neg c0] at hz; subst hz; rfl
end Go.Proofs.Ythabdpaipgclpaa
