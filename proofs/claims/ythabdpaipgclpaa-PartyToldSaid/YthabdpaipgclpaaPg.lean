/-
  Books of parties: Invite, Kick, Lead.
-/
import Derived.Test.YthabdpaipgclpaaPf
import Derived.Test.YthabdpaipgclpaaProg
namespace Go.Proofs.Ythabdpaipgclpaa
open Go Go.AM Go.Proofs
def TPK : Tab := (74, .read led_s) :: (72, .heap keep_s) :: (73, .pure wo_s) :: TP0
theorem TPK_ok : TabOk Try.prog gl TPK := .cons led_ok (.cons keep_ok (.cons wo_ok TP0_ok))
theorem kick1_vc (w : List Pt) (m a p : Int)  (K : PV → Heap → Prop) (h : ∃ (q : Nat), ∃ (r : Nat), ∃ (w_1 : List Pt), ∃ (m_1 : Int), ∃ (a_1 : Int), ∃ (p_1 : Int), SlIs [PV.ptr 0 0, PV.int IntKind.u32 a, PV.int IntKind.u32 p] [PV.ptr q 0, PV.int IntKind.u32 a_1, PV.int IntKind.u32 p_1] ∧ BkIs [Ob.cells [PV.ptr 1 0], Ob.abs (rkP (rowsP w) m)] q r (rkP (rowsP w_1) m_1) ∧ PO w_1 m_1 ∧ br (ledE w_1 a_1 p_1 != 0) (K (PV.tup [PV.bool false, PV.int IntKind.i64 (ledE w_1 a_1 p_1)]) [Ob.cells [PV.ptr 1 0], Ob.abs (rkP (rowsP w) m), Ob.cells [PV.int IntKind.u32 (Pt.id (gP w_1 (ofP w_1 a_1))), PV.int IntKind.u32 (Pt.ld (gP w_1 (ofP w_1 a_1))), PV.list (en1 IntKind.u32 (Pt.ms (gP w_1 (ofP w_1 a_1)))) Tail.no, PV.list (en1 IntKind.u32 (Pt.iv (gP w_1 (ofP w_1 a_1)))) Tail.no]]) (∃ (l : List Int), ∃ (tl : Tail), ∃ (t : Int), SlIs [PV.list (en1 IntKind.u32 (Pt.ms (gP w_1 (ofP w_1 a_1)))) Tail.no, PV.int IntKind.u32 p] [PV.list (List.map u1 l) tl, PV.int IntKind.u32 t] ∧ List.length l ≤ 1000000 ∧ br ((!memB l t) == true) (∃ (l : List Int), ∃ (tl : Tail), ∃ (t : Int), SlIs [PV.list (en1 IntKind.u32 (Pt.iv (gP w_1 (ofP w_1 a_1)))) Tail.no, PV.int IntKind.u32 p] [PV.list (List.map u1 l) tl, PV.int IntKind.u32 t] ∧ List.length l ≤ 1000000 ∧ br (!memB l t) (K (PV.tup [PV.bool false, PV.int IntKind.i64 13]) [Ob.cells [PV.ptr 1 0], Ob.abs (rkP (rowsP w) m), Ob.cells [PV.int IntKind.u32 (Pt.id (gP w_1 (ofP w_1 a_1))), PV.int IntKind.u32 (Pt.ld (gP w_1 (ofP w_1 a_1))), PV.list (en1 IntKind.u32 (Pt.ms (gP w_1 (ofP w_1 a_1)))) Tail.no, PV.list (en1 IntKind.u32 (Pt.iv (gP w_1 (ofP w_1 a_1)))) Tail.no]]) (∃ (l : List Int), ∃ (tl : Tail), ∃ (t : Int), SlIs [PV.list (en1 IntKind.u32 (Pt.ms (gP w_1 (ofP w_1 a_1)))) Tail.no, PV.int IntKind.u32 p] [PV.list (List.map u1 l) tl, PV.int IntKind.u32 t] ∧ List.length l ≤ 1000000 ∧ ∃ (l_1 : List Int), ∃ (tl : Tail), ∃ (t_1 : Int), SlIs [PV.list (en1 IntKind.u32 (Pt.iv (gP w_1 (ofP w_1 a_1)))) Tail.no, PV.int IntKind.u32 p] [PV.list (List.map u1 l_1) tl, PV.int IntKind.u32 t_1] ∧ List.length l_1 ≤ 1000000 ∧ ∃ (w_2 : List Pt), ∃ (m_2 : Int), ∃ (c : Pt), ∃ (t1 : Tail), ∃ (t2 : Tail), SlIs [PV.agg [PV.int IntKind.u32 (Pt.id (gP w_1 (ofP w_1 a_1))), PV.int IntKind.u32 (Pt.ld (gP w_1 (ofP w_1 a_1))), PV.list (List.map u1 (woS l t)) Tail.no, PV.list (List.map u1 (woS l_1 t_1)) Tail.no]] [PV.agg [PV.int IntKind.u32 (Pt.id c), PV.int IntKind.u32 (Pt.ld c), PV.list (en1 IntKind.u32 (Pt.ms c)) t1, PV.list (en1 IntKind.u32 (Pt.iv c)) t2]] ∧ AbIs [Ob.cells [PV.ptr 1 0], Ob.abs (rkP (rowsP w) m), Ob.cells [PV.int IntKind.u32 (Pt.id (gP w_1 (ofP w_1 a_1))), PV.int IntKind.u32 (Pt.ld (gP w_1 (ofP w_1 a_1))), PV.list (List.map u1 (woS l t)) Tail.no, PV.list (List.map u1 (woS l_1 t_1)) Tail.no]] 1 (rkP (rowsP w_2) m_2) ∧ PO w_2 m_2 ∧ Pt.Sm c ∧ rightS (Pt.id c) = true ∧ (hasG Pt.id w_2 (Pt.id c) = true ∨ (↑(List.length w_2) : Int) < m_2) ∧ K (PV.tup [PV.bool (Prod.snd (keepS w_2 c)), PV.int IntKind.i64 0]) [Ob.cells [PV.ptr 1 0], Ob.abs (rkP (rowsP (Prod.fst (keepS w_2 c))) m_2), Ob.cells [PV.int IntKind.u32 (Pt.id (gP w_1 (ofP w_1 a_1))), PV.int IntKind.u32 (Pt.ld (gP w_1 (ofP w_1 a_1))), PV.list (List.map u1 (woS l t)) Tail.no, PV.list (List.map u1 (woS l_1 t_1)) Tail.no]])) (∃ (l : List Int), ∃ (tl : Tail), ∃ (t : Int), SlIs [PV.list (en1 IntKind.u32 (Pt.ms (gP w_1 (ofP w_1 a_1)))) Tail.no, PV.int IntKind.u32 p] [PV.list (List.map u1 l) tl, PV.int IntKind.u32 t] ∧ List.length l ≤ 1000000 ∧ ∃ (l_1 : List Int), ∃ (tl : Tail), ∃ (t_1 : Int), SlIs [PV.list (en1 IntKind.u32 (Pt.iv (gP w_1 (ofP w_1 a_1)))) Tail.no, PV.int IntKind.u32 p] [PV.list (List.map u1 l_1) tl, PV.int IntKind.u32 t_1] ∧ List.length l_1 ≤ 1000000 ∧ ∃ (w_2 : List Pt), ∃ (m_2 : Int), ∃ (c : Pt), ∃ (t1 : Tail), ∃ (t2 : Tail), SlIs [PV.agg [PV.int IntKind.u32 (Pt.id (gP w_1 (ofP w_1 a_1))), PV.int IntKind.u32 (Pt.ld (gP w_1 (ofP w_1 a_1))), PV.list (List.map u1 (woS l t)) Tail.no, PV.list (List.map u1 (woS l_1 t_1)) Tail.no]] [PV.agg [PV.int IntKind.u32 (Pt.id c), PV.int IntKind.u32 (Pt.ld c), PV.list (en1 IntKind.u32 (Pt.ms c)) t1, PV.list (en1 IntKind.u32 (Pt.iv c)) t2]] ∧ AbIs [Ob.cells [PV.ptr 1 0], Ob.abs (rkP (rowsP w) m), Ob.cells [PV.int IntKind.u32 (Pt.id (gP w_1 (ofP w_1 a_1))), PV.int IntKind.u32 (Pt.ld (gP w_1 (ofP w_1 a_1))), PV.list (List.map u1 (woS l t)) Tail.no, PV.list (List.map u1 (woS l_1 t_1)) Tail.no]] 1 (rkP (rowsP w_2) m_2) ∧ PO w_2 m_2 ∧ Pt.Sm c ∧ rightS (Pt.id c) = true ∧ (hasG Pt.id w_2 (Pt.id c) = true ∨ (↑(List.length w_2) : Int) < m_2) ∧ K (PV.tup [PV.bool (Prod.snd (keepS w_2 c)), PV.int IntKind.i64 0]) [Ob.cells [PV.ptr 1 0], Ob.abs (rkP (rowsP (Prod.fst (keepS w_2 c))) m_2), Ob.cells [PV.int IntKind.u32 (Pt.id (gP w_1 (ofP w_1 a_1))), PV.int IntKind.u32 (Pt.ld (gP w_1 (ofP w_1 a_1))), PV.list (List.map u1 (woS l t)) Tail.no, PV.list (List.map u1 (woS l_1 t_1)) Tail.no]]))) : ACalls Try.prog gl 39 [.ptr 0 0, .int .u32 a, .int .u32 p] [.cells [.ptr 1 0], .abs (rkP (rowsP w) m)] K :=
  acalls_of_wpc2 (T := TPK) (L := []) (fun o => match o.dst with | some 35 => 201201 | some 39 => 201301 | some _ => 0 | none => match o.op with | .store _ (.tmp 42) _ => 201201 | .store _ (.tmp 43) _ => 201301 | _ => 0) Try.func39 (by kernel_rfl) (by kernel_rfl) (by kernel_rfl) (TPK_ok) (LOk.nil _ _ _ _ _) (holds_of_eq (by kernel_rfl) h)
theorem lead1_vc (w : List Pt) (m a p : Int)  (K : PV → Heap → Prop) (h : ∃ (q : Nat), ∃ (r : Nat), ∃ (w_1 : List Pt), ∃ (m_1 : Int), ∃ (a_1 : Int), ∃ (p_1 : Int), SlIs [PV.ptr 0 0, PV.int IntKind.u32 a, PV.int IntKind.u32 p] [PV.ptr q 0, PV.int IntKind.u32 a_1, PV.int IntKind.u32 p_1] ∧ BkIs [Ob.cells [PV.ptr 1 0], Ob.abs (rkP (rowsP w) m)] q r (rkP (rowsP w_1) m_1) ∧ PO w_1 m_1 ∧ br (ledE w_1 a_1 p_1 != 0) (K (PV.int IntKind.i64 (ledE w_1 a_1 p_1)) [Ob.cells [PV.ptr 1 0], Ob.abs (rkP (rowsP w) m), Ob.cells [PV.int IntKind.u32 (Pt.id (gP w_1 (ofP w_1 a_1))), PV.int IntKind.u32 (Pt.ld (gP w_1 (ofP w_1 a_1))), PV.list (en1 IntKind.u32 (Pt.ms (gP w_1 (ofP w_1 a_1)))) Tail.no, PV.list (en1 IntKind.u32 (Pt.iv (gP w_1 (ofP w_1 a_1)))) Tail.no]]) (∃ (l : List Int), ∃ (tl : Tail), ∃ (t : Int), SlIs [PV.list (en1 IntKind.u32 (Pt.ms (gP w_1 (ofP w_1 a_1)))) Tail.no, PV.int IntKind.u32 p] [PV.list (List.map u1 l) tl, PV.int IntKind.u32 t] ∧ List.length l ≤ 1000000 ∧ br (!memB l t) (K (PV.int IntKind.i64 13) [Ob.cells [PV.ptr 1 0], Ob.abs (rkP (rowsP w) m), Ob.cells [PV.int IntKind.u32 (Pt.id (gP w_1 (ofP w_1 a_1))), PV.int IntKind.u32 (Pt.ld (gP w_1 (ofP w_1 a_1))), PV.list (en1 IntKind.u32 (Pt.ms (gP w_1 (ofP w_1 a_1)))) Tail.no, PV.list (en1 IntKind.u32 (Pt.iv (gP w_1 (ofP w_1 a_1)))) Tail.no]]) (∃ (w_2 : List Pt), ∃ (m_2 : Int), ∃ (c : Pt), ∃ (t1 : Tail), ∃ (t2 : Tail), SlIs [PV.agg [PV.int IntKind.u32 (Pt.id (gP w_1 (ofP w_1 a_1))), PV.int IntKind.u32 p, PV.list (en1 IntKind.u32 (Pt.ms (gP w_1 (ofP w_1 a_1)))) Tail.no, PV.list (en1 IntKind.u32 (Pt.iv (gP w_1 (ofP w_1 a_1)))) Tail.no]] [PV.agg [PV.int IntKind.u32 (Pt.id c), PV.int IntKind.u32 (Pt.ld c), PV.list (en1 IntKind.u32 (Pt.ms c)) t1, PV.list (en1 IntKind.u32 (Pt.iv c)) t2]] ∧ AbIs [Ob.cells [PV.ptr 1 0], Ob.abs (rkP (rowsP w) m), Ob.cells [PV.int IntKind.u32 (Pt.id (gP w_1 (ofP w_1 a_1))), PV.int IntKind.u32 p, PV.list (en1 IntKind.u32 (Pt.ms (gP w_1 (ofP w_1 a_1)))) Tail.no, PV.list (en1 IntKind.u32 (Pt.iv (gP w_1 (ofP w_1 a_1)))) Tail.no]] 1 (rkP (rowsP w_2) m_2) ∧ PO w_2 m_2 ∧ Pt.Sm c ∧ rightS (Pt.id c) = true ∧ (hasG Pt.id w_2 (Pt.id c) = true ∨ (↑(List.length w_2) : Int) < m_2) ∧ K (PV.int IntKind.i64 0) [Ob.cells [PV.ptr 1 0], Ob.abs (rkP (rowsP (Prod.fst (keepS w_2 c))) m_2), Ob.cells [PV.int IntKind.u32 (Pt.id (gP w_1 (ofP w_1 a_1))), PV.int IntKind.u32 p, PV.list (en1 IntKind.u32 (Pt.ms (gP w_1 (ofP w_1 a_1)))) Tail.no, PV.list (en1 IntKind.u32 (Pt.iv (gP w_1 (ofP w_1 a_1)))) Tail.no]]))) : ACalls Try.prog gl 41 [.ptr 0 0, .int .u32 a, .int .u32 p] [.cells [.ptr 1 0], .abs (rkP (rowsP w) m)] K :=
  acalls_of_wpc2 (T := TPK) (L := []) (fun _ => 0) Try.func41 (by kernel_rfl) (by kernel_rfl) (by kernel_rfl) (TPK_ok) (LOk.nil _ _ _ _ _) (holds_of_eq (by kernel_rfl) h)
def kick_s (args : List PV) (H : Heap) (K : PV → Heap → Prop) : Prop := match args with
  | .ptr q 0 :: rest => match bookR H q with
    | some r => ∃ (w : List Pt) (m : Int) (a p : Int), SlIs rest [.int .u32 a, .int .u32 p] ∧ AbIs H r (rkP (rowsP w) m) ∧ PO w m ∧ K (.tup [.bool (kickS w a p).2.1, .int .i64 (kickS w a p).2.2]) (H.set r (.abs (rkP (rowsP ((kickS w a p).1)) m)))
    | none => False
  | _ => False
theorem kick_ok : SpOk Try.prog gl 39 (.heap kick_s) := by
  intro args H K h
  unfold kick_s at h
  split at h
  · rename_i q rest
    split at h <;> try (exact h.elim)
    rename_i r hr
    obtain ⟨w, m, a, p, he, ha, ro, hk⟩ := h
    have hb := bookR_is hr ha
    have he : rest = _ := he
    subst he
    refine book_heap (R' := rkP (rowsP ((kickS w a p).1)) m) gl_low hb (low_two (.int _ _) (.int _ _)) (.tup _ (low_two (.bool _) (.int _ _))) (kick1_vc w m a p _ ?_) hk
    refine ⟨0, 1, w, m, a, p, rfl, ⟨rfl, rfl⟩, ro, ?_⟩
    unfold kickS
    rw [br_if]
    by_cases c0 : ledE w a p = 0
    · have c1 : hP w (ofP w a) = true := Classical.byContradiction fun h => by unfold ledE at c0; rw [if_neg h] at c0; exact absurd c0 (by decide)
      have k := ro.into c1
      have h4 := k.ok.n4
      have hw1 := woS_len (gP w (ofP w a)).ms p
      have hw2 := woS_len (gP w (ofP w a)).iv p
      rw [if_neg (by rw [c0]; decide), if_pos c0]
      refine ⟨(gP w (ofP w a)).ms, .no, p, rfl, k.ok.sm.ms, ?_⟩
      rw [br_if]
      by_cases c2 : memB (gP w (ofP w a)).ms p = true
      · rw [c2, if_neg (by decide), if_pos (.inl rfl)]
        exact ⟨(gP w (ofP w a)).ms, .no, p, rfl, k.ok.sm.ms, (gP w (ofP w a)).iv, .no, p, rfl, k.ok.sm.iv, w, m, kickC (gP w (ofP w a)) p, .no, .no, rfl, rfl, ro, ⟨by show (woS (gP w (ofP w a)).ms p).length ≤ _; omega, by show (woS (gP w (ofP w a)).iv p).length ≤ _; omega⟩, k.ok.rt, .inl k.has, rfl, _, rfl⟩
      · have c2' : memB (gP w (ofP w a)).ms p = false := eq_false_of_ne_true c2
        rw [c2', if_pos (by decide)]
        refine ⟨(gP w (ofP w a)).iv, .no, p, rfl, k.ok.sm.iv, ?_⟩
        rw [br_if]
        by_cases c3 : memB (gP w (ofP w a)).iv p = true
        · rw [c3, if_neg (by decide), if_pos (.inr rfl)]
          exact ⟨(gP w (ofP w a)).ms, .no, p, rfl, k.ok.sm.ms, (gP w (ofP w a)).iv, .no, p, rfl, k.ok.sm.iv, w, m, kickC (gP w (ofP w a)) p, .no, .no, rfl, rfl, ro, ⟨by show (woS (gP w (ofP w a)).ms p).length ≤ _; omega, by show (woS (gP w (ofP w a)).iv p).length ≤ _; omega⟩, k.ok.rt, .inl k.has, rfl, _, rfl⟩
        · rw [eq_false_of_ne_true c3, if_pos (by decide), if_neg (by simp)]
          exact ⟨rfl, _, rfl⟩
    · rw [if_pos (by simpa using c0), if_neg c0]; exact ⟨rfl, _, rfl⟩
  · exact h.elim
def lead_s (args : List PV) (H : Heap) (K : PV → Heap → Prop) : Prop := match args with
  | .ptr q 0 :: rest => match bookR H q with
    | some r => ∃ (w : List Pt) (m : Int) (a p : Int), SlIs rest [.int .u32 a, .int .u32 p] ∧ AbIs H r (rkP (rowsP w) m) ∧ PO w m ∧ K (.int .i64 (leadS w a p).2) (H.set r (.abs (rkP (rowsP ((leadS w a p).1)) m)))
    | none => False
  | _ => False
theorem lead_ok : SpOk Try.prog gl 41 (.heap lead_s) := by
  intro args H K h
  unfold lead_s at h
  split at h
  · rename_i q rest
    split at h <;> try (exact h.elim)
    rename_i r hr
    obtain ⟨w, m, a, p, he, ha, ro, hk⟩ := h
    have hb := bookR_is hr ha
    have he : rest = _ := he
    subst he
    refine book_heap (R' := rkP (rowsP ((leadS w a p).1)) m) gl_low hb (low_two (.int _ _) (.int _ _)) (.int _ _) (lead1_vc w m a p _ ?_) hk
    refine ⟨0, 1, w, m, a, p, rfl, ⟨rfl, rfl⟩, ro, ?_⟩
    unfold leadS
    rw [br_if]
    by_cases c0 : ledE w a p = 0
    · have c1 : hP w (ofP w a) = true := Classical.byContradiction fun h => by unfold ledE at c0; rw [if_neg h] at c0; exact absurd c0 (by decide)
      have k := ro.into c1
      have h4 := k.ok.n4
      have hw1 := woS_len (gP w (ofP w a)).ms p
      have hw2 := woS_len (gP w (ofP w a)).iv p
      rw [if_neg (by rw [c0]; decide), if_pos c0]
      refine ⟨(gP w (ofP w a)).ms, .no, p, rfl, k.ok.sm.ms, ?_⟩
      rw [br_if]
      by_cases c2 : memB (gP w (ofP w a)).ms p = true
      · rw [c2, if_neg (by decide), if_pos rfl]
        exact ⟨w, m, leadC (gP w (ofP w a)) p, .no, .no, rfl, rfl, ro, ⟨k.ok.sm.ms, k.ok.sm.iv⟩, k.ok.rt, .inl k.has, rfl, _, rfl⟩
      · rw [eq_false_of_ne_true c2, if_pos (by decide), if_neg (by decide)]
        exact ⟨rfl, _, rfl⟩
    · rw [if_pos (by simpa using c0), if_neg c0]; exact ⟨rfl, _, rfl⟩
  · exact h.elim
def inv_s (args : List PV) (H : Heap) (K : PV → Heap → Prop) : Prop := match args with
  | .ptr q 0 :: rest => match bookR H q with
    | some r => ∃ (w : List Pt) (m : Int) (a p : Int), SlIs rest [.int .u32 a, .int .u32 p] ∧ AbIs H r (rkP (rowsP w) m) ∧ PO w m ∧ K (.tup [.int .u32 (invS w m a p).2.1, .int .i64 (invS w m a p).2.2]) (H.set r (.abs (rkP (rowsP ((invS w m a p).1)) m)))
    | none => False
  | _ => False
theorem inv_ok : SpOk Try.prog gl 36 (.heap inv_s) := by
  intro args H K h
  unfold inv_s at h
  split at h
  · rename_i q rest
    split at h <;> try (exact h.elim)
    rename_i r hr
    obtain ⟨w, m, a, p, he, ha, ro, hk⟩ := h
    have hb := bookR_is hr ha
    have he : rest = _ := he
    subst he
    refine book_heap (R' := rkP (rowsP ((invS w m a p).1)) m) gl_low hb (low_two (.int _ _) (.int _ _)) (.tup _ (low_two (.int _ _) (.int _ _))) (inv1_vc w m a p _ ?_) hk
    have hlen := ro.len
    obtain ⟨z, hz⟩ : ∃ z, z = invS w m a p := ⟨_, rfl⟩
    simp only [← hz, br_if]
    unfold invS at hz
    by_cases r1 : rightS a = true
    · rw [if_pos (show ((!rightS a) == false) = true by rw [r1]; rfl)]
      by_cases r2 : rightS p = true
      · rw [if_neg (show ¬ (!rightS p) = true by rw [r2]; decide)]; rw [if_pos ⟨r1, r2⟩] at hz
        by_cases r3 : a = p
        · rw [if_pos (by simpa using r3)]; rw [if_pos r3] at hz; subst hz; exact ⟨rfl, _, rfl⟩
        · rw [if_neg (by simpa using r3)]; rw [if_neg r3] at hz
          refine ⟨0, 1, w, m, a, rfl, ⟨rfl, rfl⟩, ro, 0, 1, w, m, ofP w a, rfl, ⟨rfl, rfl⟩, ro, fun c0 => ?_, fun c0 => ?_⟩
          · by_cases c1 : hP w (ofP w a) = true
            · have k := ro.into c1
              have h4 := k.ok.n4
              have c0' : (gP w (ofP w a)).iv = [] := c0
              have c8 : (gP w (ofP w a)).iv.length = 0 := by rw [c0']; rfl
              have c1' : hasG Pt.id w (ofP w a) = true := c1
              rw [if_pos c1] at hz; rw [if_neg (by rw [c1']; decide), if_neg (by rw [c1']; decide)]
              have e8 : (getG Pt.id w (ofP w a)).ms.length = (gP w (ofP w a)).ms.length := rfl
              have e9 : (getG Pt.id w (ofP w a)).iv.length = (gP w (ofP w a)).iv.length := rfl
              simp only [en1_length, dt]
              by_cases c4 : (gP w (ofP w a)).ld = a
              · rw [if_neg (by simpa using c4)]; rw [if_pos c4] at hz
                refine ⟨(gP w (ofP w a)).ms, .no, p, rfl, k.ok.sm.ms, ?_⟩
                by_cases c5 : memB (gP w (ofP w a)).ms p = true
                · rw [if_neg (by rw [c5]; decide)]; rw [if_pos (.inl c5)] at hz; subst hz; exact ⟨rfl, _, rfl⟩
                · rw [if_pos (by rw [eq_false_of_ne_true c5]; rfl)]
                  refine ⟨([] : List Int), .exact, p, rfl, (by simp), ?_⟩
                  by_cases c6 : memB ([] : List Int) p = true
                  · rw [if_pos c6]; rw [if_pos (.inr ((fun h : memB ([] : List Int) p = true => show memB (gP w (ofP w a)).iv p = true by rw [c0']; exact h) c6))] at hz; subst hz; exact ⟨rfl, _, rfl⟩
                  · rw [if_neg c6]; rw [if_neg (fun h => h.elim c5 (fun h => c6 ((fun h : memB (gP w (ofP w a)).iv p = true => show memB ([] : List Int) p = true by rw [c0'] at h; exact h) h)))] at hz
                    by_cases c7 : (gP w (ofP w a)).ms.length + (gP w (ofP w a)).iv.length ≥ 4
                    · rw [if_pos (by rw [w_small (by omega) (by omega)]; omega)]; rw [if_pos c7] at hz; subst hz; exact ⟨rfl, _, rfl⟩
                    · rw [if_neg (by rw [w_small (by omega) (by omega)]; omega)]; rw [if_neg c7] at hz; subst hz
                      refine ⟨appL_map (l := []) (by_ := 4) u1_len p (by show (0 + 1) * 4 ≤ _; decide), one_row one_u1 p, ?_⟩
                      exact ⟨w, m, invC (gP w (ofP w a)) p, .no, .tok 3, (by show _ = _; unfold invC; simp only [en1_snoc, c0'] <;> rfl), rfl, ro, ⟨k.ok.sm.ms, by show ((gP w (ofP w a)).iv ++ [p]).length ≤ _; rw [List.length_append]; simp; omega⟩, k.ok.rt, .inl k.has, rfl, _, rfl⟩
              · rw [if_pos (by simpa using c4)]; rw [if_neg c4] at hz; subst hz; exact ⟨rfl, _, rfl⟩
            · have c1' : hasG Pt.id w (ofP w a) = false := eq_false_of_ne_true c1
              rw [if_neg c1] at hz; rw [if_pos (by rw [c1']; rfl)]
              refine ⟨1, rowsP w, m, rfl, rfl, ro.ok, ?_⟩
              have hrl : (rowsP w).length = w.length := List.length_map _
              by_cases c4 : (w.length : Int) ≥ m
              · have hf : freeL (rowsP w) m = 0 := by unfold freeL; rw [if_pos (by rw [hrl]; exact c4)]
                rw [if_pos (by rw [hf]; rfl)]; rw [if_pos c4] at hz; subst hz
                exact ⟨rfl, _, rfl⟩
              · have hf : freeL (rowsP w) m = freeP w := by unfold freeL; rw [if_neg (by rw [hrl]; exact c4)]; rfl
                have hg : gap (rowsP w) ≤ (rowsP w).length := by
                  unfold gap
                  have := List.findIdx_le_length (p := fun r : RwP × Nat => decide (r.1.id ≠ (r.2 : Int) + 1)) (xs := (rowsP w).zipIdx)
                  rwa [List.length_zipIdx] at this
                have hfr : rightS (freeP w) = true := by unfold freeP rightS; exact decide_eq_true (by omega)
                have hf0 : freeP w ≠ 0 := by unfold freeP; omega
                rw [if_neg (by rw [hf]; simpa using hf0), if_pos (by rw [c1']; rfl)]; rw [if_neg c4] at hz; subst hz
                refine ⟨1, rowsP w, m, rfl, rfl, ro.ok, appL_map (l := []) (by_ := 4) u1_len p (by show (0 + 1) * 4 ≤ _; decide), one_row one_u1 p, w, m, ⟨freeP w, a, [a], [p]⟩, .exact, .tok 3, (by rw [hf]; rfl), rfl, ro, ⟨(show (1 : Nat) ≤ 1000000 by decide), (show (1 : Nat) ≤ 1000000 by decide)⟩, hfr, .inr (by omega), (by rw [hf]), _, rfl⟩
          · have c1 : hP w (ofP w a) = true := Classical.byContradiction fun h => c0 (by rw [getG_none (eq_false_of_ne_true h)]; rfl)
            have k := ro.into c1
            have h4 := k.ok.n4
            have c1' : hasG Pt.id w (ofP w a) = true := c1
            rw [if_pos c1] at hz; rw [if_neg (by rw [c1']; decide), if_neg (by rw [c1']; decide)]
            have e8 : (getG Pt.id w (ofP w a)).ms.length = (gP w (ofP w a)).ms.length := rfl
            have e9 : (getG Pt.id w (ofP w a)).iv.length = (gP w (ofP w a)).iv.length := rfl
            simp only [en1_length, dt]
            by_cases c4 : (gP w (ofP w a)).ld = a
            · rw [if_neg (by simpa using c4)]; rw [if_pos c4] at hz
              refine ⟨(gP w (ofP w a)).ms, .no, p, rfl, k.ok.sm.ms, ?_⟩
              by_cases c5 : memB (gP w (ofP w a)).ms p = true
              · rw [if_neg (by rw [c5]; decide)]; rw [if_pos (.inl c5)] at hz; subst hz; exact ⟨rfl, _, rfl⟩
              · rw [if_pos (by rw [eq_false_of_ne_true c5]; rfl)]
                refine ⟨(gP w (ofP w a)).iv, .tok 2, p, rfl, k.ok.sm.iv, ?_⟩
                by_cases c6 : memB (gP w (ofP w a)).iv p = true
                · rw [if_pos c6]; rw [if_pos (.inr ((fun h : memB (gP w (ofP w a)).iv p = true => h) c6))] at hz; subst hz; exact ⟨rfl, _, rfl⟩
                · rw [if_neg c6]; rw [if_neg (fun h => h.elim c5 (fun h => c6 ((fun h : memB (gP w (ofP w a)).iv p = true => h) h)))] at hz
                  by_cases c7 : (gP w (ofP w a)).ms.length + (gP w (ofP w a)).iv.length ≥ 4
                  · rw [if_pos (by rw [w_small (by omega) (by omega)]; omega)]; rw [if_pos c7] at hz; subst hz; exact ⟨rfl, _, rfl⟩
                  · rw [if_neg (by rw [w_small (by omega) (by omega)]; omega)]; rw [if_neg c7] at hz; subst hz
                    refine ⟨appL_map u1_len (gP w (ofP w a)).iv p (by omega), one_row one_u1 p, ?_⟩
                    exact ⟨w, m, invC (gP w (ofP w a)) p, .no, .tok 4, (by show _ = _; unfold invC; simp only [en1_snoc] <;> rfl), rfl, ro, ⟨k.ok.sm.ms, by show ((gP w (ofP w a)).iv ++ [p]).length ≤ _; rw [List.length_append]; simp; omega⟩, k.ok.rt, .inl k.has, rfl, _, rfl⟩
            · rw [if_pos (by simpa using c4)]; rw [if_neg c4] at hz; subst hz; exact ⟨rfl, _, rfl⟩
      · rw [if_pos (show (!rightS p) = true by rw [eq_false_of_ne_true r2]; rfl)]; rw [if_neg (fun h => r2 h.2)] at hz; subst hz; exact ⟨rfl, _, rfl⟩
    · rw [if_neg (show ¬ ((!rightS a) == false) = true by rw [eq_false_of_ne_true r1]; decide)]; rw [if_neg (fun h => r1 h.1)] at hz; subst hz; exact ⟨rfl, _, rfl⟩
  · exact h.elim
end Go.Proofs.Ythabdpaipgclpaa
