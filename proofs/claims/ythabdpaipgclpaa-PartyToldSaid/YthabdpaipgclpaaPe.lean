/-
  Books of parties: keep.
-/
import Derived.Test.YthabdpaipgclpaaPd
import Derived.Test.YthabdpaipgclpaaProg
namespace Go.Proofs.Ythabdpaipgclpaa
open Go Go.AM Go.Proofs
def ovP (c : Pt) : Bool := decide (c.ms.length = 0 ∨ (c.ms.length = 1 ∧ c.iv.length = 0))
def fixP (c : Pt) : Pt := if memB c.ms c.ld = true then c else ⟨c.id, c.ms.getD 0 0, c.ms, c.iv⟩
def keepS (w : List Pt) (c : Pt) : List Pt × Bool := if ovP c = true then (dropG Pt.id w c.id, true) else (putG Pt.id w (fixP c), false)
theorem keep1_vc (w : List Pt) (m : Int) (c : Pt)  (K : PV → Heap → Prop) (h : br (((↑(List.length (en1 IntKind.u32 (Pt.ms c))) : Int) == 0) == false) (br (((↑(List.length (en1 IntKind.u32 (Pt.ms c))) : Int) == 1) == true) (br ((↑(List.length (en1 IntKind.u32 (Pt.iv c))) : Int) == 0) (∃ (l : List RwP), ∃ (most : Int), ∃ (t : Int), SlIs [PV.int IntKind.u32 (Pt.id c)] [PV.int IntKind.u32 t] ∧ AbIs [Ob.cells [PV.ptr 1 0], Ob.abs (rkP (rowsP w) m), Ob.cells [PV.int IntKind.u32 (Pt.id c), PV.int IntKind.u32 (Pt.ld c), PV.list (en1 IntKind.u32 (Pt.ms c)) Tail.no, PV.list (en1 IntKind.u32 (Pt.iv c)) Tail.no]] 1 (rkP l most) ∧ Ok l most ∧ K (PV.bool true) [Ob.cells [PV.ptr 1 0], Ob.abs (rkP (dropL l t) most), Ob.cells [PV.int IntKind.u32 (Pt.id c), PV.int IntKind.u32 (Pt.ld c), PV.list (en1 IntKind.u32 (Pt.ms c)) Tail.no, PV.list (en1 IntKind.u32 (Pt.iv c)) Tail.no]]) (∃ (l : List Int), ∃ (tl : Tail), ∃ (t : Int), SlIs [PV.list (en1 IntKind.u32 (Pt.ms c)) Tail.no, PV.int IntKind.u32 (Pt.ld c)] [PV.list (List.map u1 l) tl, PV.int IntKind.u32 t] ∧ List.length l ≤ 1000000 ∧ br (!memB l t) (InL (en1 IntKind.u32 (Pt.ms c)) 1 0 ∧ br (true && fitX [CK.int IntKind.u32] 0 (List.getD (en1 IntKind.u32 (Pt.ms c)) 0 [])) (∃ (l : List RwP), ∃ (most : Int), ∃ (t : Int), ∃ (v : Pt), ∃ (t1 : Tail), ∃ (t2 : Tail), SlIs [PV.int IntKind.u32 (Pt.id c), PV.agg [PV.int IntKind.u32 (Pt.id c), PV.int IntKind.u32 (cI (List.getD (en1 IntKind.u32 (Pt.ms c)) 0 []) 0), PV.list (en1 IntKind.u32 (Pt.ms c)) Tail.no, PV.list (en1 IntKind.u32 (Pt.iv c)) Tail.no]] [PV.int IntKind.u32 t, PV.agg [PV.int IntKind.u32 (Pt.id v), PV.int IntKind.u32 (Pt.ld v), PV.list (en1 IntKind.u32 (Pt.ms v)) t1, PV.list (en1 IntKind.u32 (Pt.iv v)) t2]] ∧ AbIs [Ob.cells [PV.ptr 1 0], Ob.abs (rkP (rowsP w) m), Ob.cells [PV.int IntKind.u32 (Pt.id c), PV.int IntKind.u32 (cI (List.getD (en1 IntKind.u32 (Pt.ms c)) 0 []) 0), PV.list (en1 IntKind.u32 (Pt.ms c)) Tail.no, PV.list (en1 IntKind.u32 (Pt.iv c)) Tail.no]] 1 (rkP l most) ∧ Ok l most ∧ K (PV.bool false) [Ob.cells [PV.ptr 1 0], Ob.abs (rkP (Prod.fst (putL l most t v)) most), Ob.cells [PV.int IntKind.u32 (Pt.id c), PV.int IntKind.u32 (cI (List.getD (en1 IntKind.u32 (Pt.ms c)) 0 []) 0), PV.list (en1 IntKind.u32 (Pt.ms c)) Tail.no, PV.list (en1 IntKind.u32 (Pt.iv c)) Tail.no]]) False) (∃ (l : List RwP), ∃ (most : Int), ∃ (t : Int), ∃ (v : Pt), ∃ (t1 : Tail), ∃ (t2 : Tail), SlIs [PV.int IntKind.u32 (Pt.id c), PV.agg [PV.int IntKind.u32 (Pt.id c), PV.int IntKind.u32 (Pt.ld c), PV.list (en1 IntKind.u32 (Pt.ms c)) Tail.no, PV.list (en1 IntKind.u32 (Pt.iv c)) Tail.no]] [PV.int IntKind.u32 t, PV.agg [PV.int IntKind.u32 (Pt.id v), PV.int IntKind.u32 (Pt.ld v), PV.list (en1 IntKind.u32 (Pt.ms v)) t1, PV.list (en1 IntKind.u32 (Pt.iv v)) t2]] ∧ AbIs [Ob.cells [PV.ptr 1 0], Ob.abs (rkP (rowsP w) m), Ob.cells [PV.int IntKind.u32 (Pt.id c), PV.int IntKind.u32 (Pt.ld c), PV.list (en1 IntKind.u32 (Pt.ms c)) Tail.no, PV.list (en1 IntKind.u32 (Pt.iv c)) Tail.no]] 1 (rkP l most) ∧ Ok l most ∧ K (PV.bool false) [Ob.cells [PV.ptr 1 0], Ob.abs (rkP (Prod.fst (putL l most t v)) most), Ob.cells [PV.int IntKind.u32 (Pt.id c), PV.int IntKind.u32 (Pt.ld c), PV.list (en1 IntKind.u32 (Pt.ms c)) Tail.no, PV.list (en1 IntKind.u32 (Pt.iv c)) Tail.no]]))) (∃ (l : List Int), ∃ (tl : Tail), ∃ (t : Int), SlIs [PV.list (en1 IntKind.u32 (Pt.ms c)) Tail.no, PV.int IntKind.u32 (Pt.ld c)] [PV.list (List.map u1 l) tl, PV.int IntKind.u32 t] ∧ List.length l ≤ 1000000 ∧ br (!memB l t) (InL (en1 IntKind.u32 (Pt.ms c)) 1 0 ∧ br (true && fitX [CK.int IntKind.u32] 0 (List.getD (en1 IntKind.u32 (Pt.ms c)) 0 [])) (∃ (l : List RwP), ∃ (most : Int), ∃ (t : Int), ∃ (v : Pt), ∃ (t1 : Tail), ∃ (t2 : Tail), SlIs [PV.int IntKind.u32 (Pt.id c), PV.agg [PV.int IntKind.u32 (Pt.id c), PV.int IntKind.u32 (cI (List.getD (en1 IntKind.u32 (Pt.ms c)) 0 []) 0), PV.list (en1 IntKind.u32 (Pt.ms c)) Tail.no, PV.list (en1 IntKind.u32 (Pt.iv c)) Tail.no]] [PV.int IntKind.u32 t, PV.agg [PV.int IntKind.u32 (Pt.id v), PV.int IntKind.u32 (Pt.ld v), PV.list (en1 IntKind.u32 (Pt.ms v)) t1, PV.list (en1 IntKind.u32 (Pt.iv v)) t2]] ∧ AbIs [Ob.cells [PV.ptr 1 0], Ob.abs (rkP (rowsP w) m), Ob.cells [PV.int IntKind.u32 (Pt.id c), PV.int IntKind.u32 (cI (List.getD (en1 IntKind.u32 (Pt.ms c)) 0 []) 0), PV.list (en1 IntKind.u32 (Pt.ms c)) Tail.no, PV.list (en1 IntKind.u32 (Pt.iv c)) Tail.no]] 1 (rkP l most) ∧ Ok l most ∧ K (PV.bool false) [Ob.cells [PV.ptr 1 0], Ob.abs (rkP (Prod.fst (putL l most t v)) most), Ob.cells [PV.int IntKind.u32 (Pt.id c), PV.int IntKind.u32 (cI (List.getD (en1 IntKind.u32 (Pt.ms c)) 0 []) 0), PV.list (en1 IntKind.u32 (Pt.ms c)) Tail.no, PV.list (en1 IntKind.u32 (Pt.iv c)) Tail.no]]) False) (∃ (l : List RwP), ∃ (most : Int), ∃ (t : Int), ∃ (v : Pt), ∃ (t1 : Tail), ∃ (t2 : Tail), SlIs [PV.int IntKind.u32 (Pt.id c), PV.agg [PV.int IntKind.u32 (Pt.id c), PV.int IntKind.u32 (Pt.ld c), PV.list (en1 IntKind.u32 (Pt.ms c)) Tail.no, PV.list (en1 IntKind.u32 (Pt.iv c)) Tail.no]] [PV.int IntKind.u32 t, PV.agg [PV.int IntKind.u32 (Pt.id v), PV.int IntKind.u32 (Pt.ld v), PV.list (en1 IntKind.u32 (Pt.ms v)) t1, PV.list (en1 IntKind.u32 (Pt.iv v)) t2]] ∧ AbIs [Ob.cells [PV.ptr 1 0], Ob.abs (rkP (rowsP w) m), Ob.cells [PV.int IntKind.u32 (Pt.id c), PV.int IntKind.u32 (Pt.ld c), PV.list (en1 IntKind.u32 (Pt.ms c)) Tail.no, PV.list (en1 IntKind.u32 (Pt.iv c)) Tail.no]] 1 (rkP l most) ∧ Ok l most ∧ K (PV.bool false) [Ob.cells [PV.ptr 1 0], Ob.abs (rkP (Prod.fst (putL l most t v)) most), Ob.cells [PV.int IntKind.u32 (Pt.id c), PV.int IntKind.u32 (Pt.ld c), PV.list (en1 IntKind.u32 (Pt.ms c)) Tail.no, PV.list (en1 IntKind.u32 (Pt.iv c)) Tail.no]]))) (∃ (l : List RwP), ∃ (most : Int), ∃ (t : Int), SlIs [PV.int IntKind.u32 (Pt.id c)] [PV.int IntKind.u32 t] ∧ AbIs [Ob.cells [PV.ptr 1 0], Ob.abs (rkP (rowsP w) m), Ob.cells [PV.int IntKind.u32 (Pt.id c), PV.int IntKind.u32 (Pt.ld c), PV.list (en1 IntKind.u32 (Pt.ms c)) Tail.no, PV.list (en1 IntKind.u32 (Pt.iv c)) Tail.no]] 1 (rkP l most) ∧ Ok l most ∧ K (PV.bool true) [Ob.cells [PV.ptr 1 0], Ob.abs (rkP (dropL l t) most), Ob.cells [PV.int IntKind.u32 (Pt.id c), PV.int IntKind.u32 (Pt.ld c), PV.list (en1 IntKind.u32 (Pt.ms c)) Tail.no, PV.list (en1 IntKind.u32 (Pt.iv c)) Tail.no]])) : ACalls Try.prog gl 72 [.ptr 0 0, c.pv] [.cells [.ptr 1 0], .abs (rkP (rowsP w) m)] K :=
  acalls_of_wpc2 (T := TP0) (L := []) (fun o => match o.dst with | some 28 => 7 | some 48 => 7 | _ => 0) Try.func72 (by kernel_rfl) (by kernel_rfl) (by kernel_rfl) (TP0_ok) (LOk.nil _ _ _ _ _) (holds_of_eq (by kernel_rfl) h)
theorem newB1_vc (n : Int)  (K : PV → Heap → Prop) (h : ∃ (n_1 : Int), SlIs [PV.int IntKind.i64 n] [PV.int IntKind.i64 n_1] ∧ K (PV.ptr 1 0) [Ob.abs (rkP [] (mxI 0 n_1)), Ob.cells [PV.ptr 0 0]]) : ACalls Try.prog gl 27 [.int .i64 n] [] K :=
  acalls_of_wpc2 (T := TP0) (L := []) (fun _ => 0) Try.func27 (by kernel_rfl) (by kernel_rfl) (by kernel_rfl) (TP0_ok) (LOk.nil _ _ _ _ _) (holds_of_eq (by kernel_rfl) h)
theorem keep_put {w : List Pt} {m : Int} {c : Pt} (ro : PO w m) (hr : rightS c.id = true) (hh : hasG Pt.id w c.id = true ∨ (w.length : Int) < m) : putL (rowsP w) m c.id c = (rowsP (putG Pt.id w c), 0) := by
  rw [show putL (rowsP w) m c.id c = _ from rowsOf_put ro.rise ro.ok c, if_pos hr, if_neg]
  rintro ⟨h1, h2⟩
  rcases hh with h | h
  · rw [h] at h1; cases h1
  · omega
theorem ieq {a b : Int} : ((a == b) = true) = (a = b) := propext beq_iff_eq
theorem ine {a b : Int} : (((a == b) == false) = true) = (a ≠ b) := by
  refine propext ⟨fun h e => ?_, fun h => ?_⟩
  · rw [beq_iff_eq.2 e] at h; cases h
  · rw [beq_eq_false_iff_ne.2 h]; rfl
theorem ieqt {a b : Int} : (((a == b) == true) = true) = (a = b) := by
  refine propext ⟨fun h => ?_, fun h => ?_⟩
  · by_cases e : a = b
    · exact e
    · rw [beq_eq_false_iff_ne.2 e] at h; cases h
  · rw [beq_iff_eq.2 h]; rfl
theorem fixP_id (c : Pt) : (fixP c).id = c.id := by unfold fixP; split <;> rfl
theorem inl0 {l : List Int} (h : 0 < l.length) : InL (en1 .u32 l) 1 (0 : Int) := en1_in .u32 l 0 (by omega) (by omega)
theorem droS {w : List Pt} {m : Int} (ro : PO w m) (t : Int) : dropL (rowsP w) t = rowsP (dropG Pt.id w t) := rowsOf_drop ro.ok t
def keep_s (args : List PV) (H : Heap) (K : PV → Heap → Prop) : Prop := match args with
  | .ptr q 0 :: rest => match bookR H q with
    | some r => ∃ (w : List Pt) (m : Int) (c : Pt) (t1 t2 : Tail), SlIs rest [.agg [.int .u32 c.id, .int .u32 c.ld, .list (en1 .u32 c.ms) t1, .list (en1 .u32 c.iv) t2]] ∧ AbIs H r (rkP (rowsP w) m) ∧ PO w m ∧ c.Sm ∧ rightS c.id = true ∧ (hasG Pt.id w c.id = true ∨ (w.length : Int) < m) ∧ K (.bool (keepS w c).2) (H.set r (.abs (rkP (rowsP (keepS w c).1) m)))
    | none => False
  | _ => False
theorem keep_ok : SpOk Try.prog gl 72 (.heap keep_s) := by
  intro args H K h
  unfold keep_s at h
  split at h
  · rename_i q rest
    split at h <;> try (exact h.elim)
    rename_i r hr
    obtain ⟨w, m, c, t1, t2, he, ha, ro, h, hrt, hh, hk⟩ := h
    have hb := bookR_is hr ha
    have he : rest = _ := he
    subst he
    refine acalls_args (.cons (.refl _) (.cons wk_pt .nil)) ?_
    refine book_heap (R' := rkP (rowsP (keepS w c).1) m) gl_low hb (low_one c.low) (.bool _) (keep1_vc w m c _ ?_) hk
    simp only [br_if, en1_length, ieq, ine, ieqt]
    by_cases o : ovP c = true
    · have hs : keepS w c = (dropG Pt.id w c.id, true) := by unfold keepS; rw [if_pos o]
      rw [hs]
      have o' := of_decide_eq_true o
      by_cases c1 : c.ms.length = 0
      · rw [if_neg (by omega)]
        exact ⟨rowsP w, m, c.id, rfl, rfl, ro.ok, rfl, by rw [droS ro]; exact ⟨_, rfl⟩⟩
      · rw [if_pos (by omega), if_pos (by omega), if_pos (by omega)]
        exact ⟨rowsP w, m, c.id, rfl, rfl, ro.ok, rfl, by rw [droS ro]; exact ⟨_, rfl⟩⟩
    · have hs : keepS w c = (putG Pt.id w (fixP c), false) := by unfold keepS; rw [if_neg o]
      rw [hs]
      have o' := of_decide_eq_false (eq_false_of_ne_true o)
      have hp := keep_put (c := fixP c) ro (by rw [fixP_id]; exact hrt) (by rw [fixP_id]; exact hh)
      have hm : 0 < c.ms.length := by omega
      rw [if_pos (by omega)]
      by_cases c1 : c.ms.length = 1
      · rw [if_pos (by omega), if_neg (by omega)]
        refine ⟨c.ms, .no, c.ld, rfl, h.ms, ?_⟩
        by_cases c4 : memB c.ms c.ld = true
        · have hf : fixP c = c := by unfold fixP; rw [if_pos c4]
          rw [if_neg (by rw [c4]; decide)]
          rw [hf] at hp ⊢
          exact ⟨rowsP w, m, c.id, c, .no, .no, rfl, rfl, ro.ok, rfl, by rw [hp]; exact ⟨_, rfl⟩⟩
        · have hf : fixP c = ⟨c.id, c.ms.getD 0 0, c.ms, c.iv⟩ := by unfold fixP; rw [if_neg c4]
          rw [if_pos (by rw [eq_false_of_ne_true c4]; rfl)]
          rw [hf] at hp ⊢
          refine ⟨inl0 hm, ?_⟩
          rw [en1_get _ _ _ hm, if_pos (by rfl)]
          exact ⟨rowsP w, m, c.id, ⟨c.id, c.ms.getD 0 0, c.ms, c.iv⟩, .no, .no, rfl, rfl, ro.ok, rfl, by rw [hp]; exact ⟨_, rfl⟩⟩
      · rw [if_neg (by omega)]
        refine ⟨c.ms, .no, c.ld, rfl, h.ms, ?_⟩
        by_cases c4 : memB c.ms c.ld = true
        · have hf : fixP c = c := by unfold fixP; rw [if_pos c4]
          rw [if_neg (by rw [c4]; decide)]
          rw [hf] at hp ⊢
          exact ⟨rowsP w, m, c.id, c, .no, .no, rfl, rfl, ro.ok, rfl, by rw [hp]; exact ⟨_, rfl⟩⟩
        · have hf : fixP c = ⟨c.id, c.ms.getD 0 0, c.ms, c.iv⟩ := by unfold fixP; rw [if_neg c4]
          rw [if_pos (by rw [eq_false_of_ne_true c4]; rfl)]
          rw [hf] at hp ⊢
          refine ⟨inl0 hm, ?_⟩
          rw [en1_get _ _ _ hm, if_pos (by rfl)]
          exact ⟨rowsP w, m, c.id, ⟨c.id, c.ms.getD 0 0, c.ms, c.iv⟩, .no, .no, rfl, rfl, ro.ok, rfl, by rw [hp]; exact ⟨_, rfl⟩⟩
  · exact h.elim
def newB_s (args : List PV) (H : Heap) (K : PV → Heap → Prop) : Prop := ∃ n : Int, SlIs args [.int .i64 n] ∧ K (.ptr (H.length + 1) 0) (H ++ [.abs (rkP (rowsP []) (mxI 0 n)), .cells [.ptr H.length 0]])
theorem newB_ok : SpOk Try.prog gl 27 (.heap newB_s) := by
  rintro args H K ⟨n, he, hk⟩
  have he : args = _ := he
  subst he
  exact acalls_to (book_make2 gl_low (low_one (.int _ _)) (newB1_vc n _ ⟨n, rfl, rfl, rfl⟩)) fun _ _ e => e.1 ▸ e.2 ▸ hk
theorem keepC_ok : SpOk Try.prog gl 72 (.chg keep_s) := by
  intro args H K h
  unfold keep_s at h
  split at h
  · rename_i q rest
    split at h <;> try (exact h.elim)
    rename_i r hr
    obtain ⟨w, m, c, t1, t2, he, ha, ro, h, hrt, hh, hk⟩ := h
    refine ⟨_, _, keep_ok _ H (fun x H1 => x = _ ∧ H1 = _) ?_, hk⟩
    unfold keep_s
    simp only [hr]
    exact ⟨w, m, c, t1, t2, he, ha, ro, h, hrt, hh, ⟨rfl, rfl⟩⟩
  · exact h.elim
end Go.Proofs.Ythabdpaipgclpaa
