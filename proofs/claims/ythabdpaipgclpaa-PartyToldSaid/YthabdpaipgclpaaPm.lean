/-
  A book like the document's.
-/
import Derived.Test.YthabdpaipgclpaaPl
import Derived.Test.YthabdpaipgclpaaProg
namespace Go.Proofs.Ythabdpaipgclpaa
open Go Go.AM Go.Proofs
theorem pown1_vc (c : Pt)  (K : PV → Prop) (h : K (PV.agg [PV.int IntKind.u32 (Pt.id c), PV.int IntKind.u32 (Pt.ld c), PV.list (en1 IntKind.u32 (Pt.ms c)) Tail.no, PV.list (en1 IntKind.u32 (Pt.iv c)) Tail.no])) : ACalls Try.prog gl 68 [c.pv] [] (fun x _ => K x) :=
  acalls_of_wpc2 (T := []) (L := []) (fun _ => 0) Try.func68 (by kernel_rfl) (by kernel_rfl) (by kernel_rfl) (TabOk.nil _ _) (LOk.nil _ _ _ _ _) (holds_of_eq (by kernel_rfl) h)
def pown_s (args : List PV) (K : PV → Prop) : Prop := ∃ (c : Pt) (t1 t2 : Tail), SlIs args [.agg [.int .u32 c.id, .int .u32 c.ld, .list (en1 .u32 c.ms) t1, .list (en1 .u32 c.iv) t2]] ∧ K c.pv
theorem pown_ok : SpOk Try.prog gl 68 (.pure pown_s) := by
  rintro args K ⟨c, t1, t2, he, hk⟩
  have he : args = _ := he
  subst he
  exact spure_w gl_low (.cons wk_pt .nil) (low_one c.low) c.low (pown1_vc c (fun x => x = c.pv) rfl) hk
def TLK : Tab := (68, .pure pown_s) :: (67, .pure qsame_s) :: (32, .read ptyR_s) :: (34, .read pids_s) :: (66, .pure qids_s) :: (24, .pure same_s) :: TP0
theorem TLK_ok : TabOk Try.prog gl TLK := .cons pown_ok (.cons qsame_ok (.cons ptyR_ok (.cons pids_ok (.cons qids_ok (.cons same_ok TP0_ok)))))
theorem lik_vc (w : List Pt) (m : Int) (i : Nat) (R : Ex → List PV → Heap → Prop) (h : br (decide ((↑i : Int) < (↑(List.length (List.map ptc w)) : Int))) (InL (List.map ptc w) 4 (↑i : Int) ∧ br (true && fitX [CK.int IntKind.u32] 0 (List.drop 0 (List.getD (List.map ptc w) (Int.toNat (↑i : Int)) []))) (∃ (q : Nat), ∃ (r : Nat), ∃ (w_1 : List Pt), ∃ (m_1 : Int), ∃ (t : Int), SlIs [PV.ptr 0 0, PV.int IntKind.u32 (cI (List.drop 0 (List.getD (List.map ptc w) (Int.toNat (↑i : Int)) [])) 0)] [PV.ptr q 0, PV.int IntKind.u32 t] ∧ BkIs [Ob.cells [PV.ptr 1 0], Ob.abs (rkP (rowsP w) m)] q r (rkP (rowsP w_1) m_1) ∧ PO w_1 m_1 ∧ br ((!hasG Pt.id w_1 t) == false) (∃ (c : Pt), ∃ (t1 : Tail), ∃ (t2 : Tail), SlIs [PV.agg [PV.int IntKind.u32 (Pt.id (getG Pt.id w_1 t)), PV.int IntKind.u32 (Pt.ld (getG Pt.id w_1 t)), PV.list (en1 IntKind.u32 (Pt.ms (getG Pt.id w_1 t))) Tail.no, PV.list (en1 IntKind.u32 (Pt.iv (getG Pt.id w_1 t))) Tail.no]] [PV.agg [PV.int IntKind.u32 (Pt.id c), PV.int IntKind.u32 (Pt.ld c), PV.list (en1 IntKind.u32 (Pt.ms c)) t1, PV.list (en1 IntKind.u32 (Pt.iv c)) t2]] ∧ InL (List.map ptc w) 4 (↑i : Int) ∧ br (true && fitX [CK.int IntKind.u32, CK.int IntKind.u32, CK.list, CK.list] 0 (List.getD (List.map ptc w) (Int.toNat (↑i : Int)) [])) (∃ (a : Pt), ∃ (t1 : Tail), ∃ (t2 : Tail), ∃ (t3 : Tail), ∃ (t4 : Tail), SlIs [PV.agg [PV.int IntKind.u32 (Pt.id c), PV.int IntKind.u32 (Pt.ld c), PV.list (en1 IntKind.u32 (Pt.ms c)) Tail.no, PV.list (en1 IntKind.u32 (Pt.iv c)) Tail.no], PV.agg [PV.int IntKind.u32 (cI (List.getD (List.map ptc w) (Int.toNat (↑i : Int)) []) 0), PV.int IntKind.u32 (cI (List.getD (List.map ptc w) (Int.toNat (↑i : Int)) []) 1), PV.list (cL (List.getD (List.map ptc w) (Int.toNat (↑i : Int)) []) 2) (cT (List.getD (List.map ptc w) (Int.toNat (↑i : Int)) []) 2), PV.list (cL (List.getD (List.map ptc w) (Int.toNat (↑i : Int)) []) 3) (cT (List.getD (List.map ptc w) (Int.toNat (↑i : Int)) []) 3)]] [PV.agg [PV.int IntKind.u32 (Pt.id a), PV.int IntKind.u32 (Pt.ld a), PV.list (en1 IntKind.u32 (Pt.ms a)) t1, PV.list (en1 IntKind.u32 (Pt.iv a)) t2], PV.agg [PV.int IntKind.u32 (Pt.id a), PV.int IntKind.u32 (Pt.ld a), PV.list (en1 IntKind.u32 (Pt.ms a)) t3, PV.list (en1 IntKind.u32 (Pt.iv a)) t4]] ∧ Pt.Sm a ∧ R Ex.normal [PV.ptr 0 0, PV.list (List.map ptc w) Tail.no, PV.bool false, PV.int IntKind.i64 (wI ((↑i : Int) + 1))] [Ob.cells [PV.ptr 1 0], Ob.abs (rkP (rowsP w) m), Ob.cells [PV.int IntKind.u32 (Pt.id (getG Pt.id w_1 t)), PV.int IntKind.u32 (Pt.ld (getG Pt.id w_1 t)), PV.list (en1 IntKind.u32 (Pt.ms (getG Pt.id w_1 t))) Tail.no, PV.list (en1 IntKind.u32 (Pt.iv (getG Pt.id w_1 t))) Tail.no]]) False) (R Ex.ret [PV.ptr 0 0, PV.list (List.map ptc w) Tail.no, PV.bool false, PV.int IntKind.i64 (↑i : Int)] [Ob.cells [PV.ptr 1 0], Ob.abs (rkP (rowsP w) m), Ob.cells [PV.int IntKind.u32 (Pt.id (getG Pt.id w_1 t)), PV.int IntKind.u32 (Pt.ld (getG Pt.id w_1 t)), PV.list (en1 IntKind.u32 (Pt.ms (getG Pt.id w_1 t))) Tail.no, PV.list (en1 IntKind.u32 (Pt.iv (getG Pt.id w_1 t))) Tail.no]])) False) (R (Ex.exit 0) [PV.ptr 0 0, PV.list (List.map ptc w) Tail.no, PV.bool false, PV.int IntKind.i64 (↑i : Int)] [Ob.cells [PV.ptr 1 0], Ob.abs (rkP (rowsP w) m)])) : Holds (wpc br Try.prog gl TLK [] (fun _ => 0) (subOf [1, 1, 0, 1, 0] (bodyOf Try.f29)) [] (envS [0, 1, 4, 5] [.ptr 0 0, .list (w.map ptc) .no, .bool false, .int .i64 i]) [.cells [.ptr 1 0], .abs (rkP (rowsP w) m)] (fun ex e H => R ex (List.map e [0, 1, 4, 5]) H)) := holds_of_eq (by kernel_rfl) h
theorem lik_low (w : List Pt) (i : Int) : ∀ v ∈ [PV.ptr 0 0, .list (w.map ptc) .no, .bool false, .int .i64 i], Low 2 v := by
  intro v hv
  simp only [List.mem_cons, List.not_mem_nil, or_false] at hv
  rcases hv with rfl | rfl | rfl | rfl
  · exact .ptr _ _ (by decide)
  · exact low_ptl w
  · exact .bool _
  · exact .int _ _
theorem inL_pt (l : List Pt) (i : Nat) : InL (l.map ptc) 4 (i : Int) = (i < l.length) := inL_map ptc_len (by decide) l i
def lik_l : LSp := fun e H Q => ∃ (w : List Pt) (m : Int), PO w m ∧ SlIs (List.map e [0, 1, 4, 5]) [.ptr 0 0, .list (w.map ptc) .no, .bool false, .int .i64 0] ∧ HpIs H [.cells [.ptr 1 0], .abs (rkP (rowsP w) m)] ∧
  Q (.exit 0) (envS [0, 1, 4, 5] [.ptr 0 0, .list (w.map ptc) .no, .bool false, .int .i64 w.length]) [.cells [.ptr 1 0], .abs (rkP (rowsP w) m)]
theorem lik_l_ok : ∀ e H Q, lik_l e H Q → AW Try.prog gl Try.f29.ntmps (.loop (subOf [1, 1, 0, 1, 0] (bodyOf Try.f29))) Q e H := by
  rintro e H Q ⟨w, m, ro, he, hH, hQ⟩
  have hlen := ro.len
  refine aw_loop4 (hn := fun _ => 0) gl_low TLK_ok (.nil _ _ _ _ _) (σ := Nat) [0, 1, 4, 5] (fun i => i ≤ w.length) (fun i => [.ptr 0 0, .list (w.map ptc) .no, .bool false, .int .i64 i]) (fun _ => [.cells [.ptr 1 0], .abs (rkP (rowsP w) m)]) (fun i => w.length - i) 0 (Nat.zero_le _) he hH ?_
  intro i hi
  have hi' : i ≤ w.length := hi
  refine lik_vc w m i _ ?_
  simp only [br_if, dt, List.length_map, inL_pt, toNat_nat, List.drop_zero]
  by_cases h : i < w.length
  · rw [if_pos (by omega)]
    simp only [getD_map default h]
    refine ⟨h, ?_⟩
    rw [if_pos (by rfl)]
    obtain ⟨c, hc⟩ : ∃ c, c = w.getD i default := ⟨_, rfl⟩
    have hcm : c ∈ w := by rw [hc]; exact getD_mem h
    have c0 : cI (ptc c) 0 = c.id := rfl
    simp only [← hc, c0]
    have hg : getG Pt.id w c.id = c := getG_of ro.rise hcm
    have hh : hasG Pt.id w c.id = true := hasG_iff.2 ⟨c, hcm, rfl⟩
    refine ⟨0, 1, w, m, c.id, rfl, ⟨rfl, rfl⟩, ro, ?_⟩
    rw [hg, hh]
    rw [if_pos (by rfl)]
    refine ⟨c, .no, .no, rfl, h, ?_⟩
    rw [if_pos (by rfl)]
    exact ⟨c, .no, .no, .no, .no, rfl, ro.sm c hcm, i + 1, (show w.length - (i + 1) < w.length - i by omega), h, by rw [wI_succ h (by omega)], [_], rfl, Nat.le_refl _, .inr ⟨lik_low w _, lowH_book _⟩⟩
  · rw [if_neg (by omega)]
    have : i = w.length := by omega
    subst this
    exact hQ
theorem like1_vc (w : List Pt) (m : Int)  (K : PV → Heap → Prop) (h : ∃ (q : Nat), ∃ (r : Nat), ∃ (w_1 : List Pt), ∃ (m_1 : Int), SlIs [PV.ptr 0 0] [PV.ptr q 0] ∧ BkIs [Ob.cells [PV.ptr 1 0], Ob.abs (rkP (rowsP w) m)] q r (rkP (rowsP w_1) m_1) ∧ PO w_1 m_1 ∧ ∃ (w_2 : List Pt), ∃ (tl : Tail), SlIs [PV.list (List.map ptc w) Tail.no] [PV.list (List.map ptc w_2) tl] ∧ List.length w_2 ≤ 1000000 ∧ ∃ (a : List Int), ∃ (b : List Int), ∃ (t : Tail), ∃ (t' : Tail), SlIs [PV.list (List.map u1 (List.map Pt.id w_1)) Tail.no, PV.list (List.map u1 (List.map Pt.id w_2)) Tail.no] [PV.list (en1 IntKind.u32 a) t, PV.list (en1 IntKind.u32 b) t'] ∧ List.length a ≤ 1000000 ∧ br (!decide (a = b)) (K (PV.bool false) [Ob.cells [PV.ptr 1 0], Ob.abs (rkP (rowsP w) m)]) (∃ (w_3 : List Pt), ∃ (m_2 : Int), PO w_3 m_2 ∧ SlIs [PV.ptr 0 0, PV.list (List.map ptc w) Tail.no, PV.bool false, PV.int IntKind.i64 0] [PV.ptr 0 0, PV.list (List.map ptc w_3) Tail.no, PV.bool false, PV.int IntKind.i64 0] ∧ HpIs [Ob.cells [PV.ptr 1 0], Ob.abs (rkP (rowsP w) m)] [Ob.cells [PV.ptr 1 0], Ob.abs (rkP (rowsP w_3) m_2)] ∧ K (PV.bool true) [Ob.cells [PV.ptr 1 0], Ob.abs (rkP (rowsP w_3) m_2)])) : ACalls Try.prog gl 29 [.ptr 0 0, .list (w.map ptc) .no] [.cells [.ptr 1 0], .abs (rkP (rowsP w) m)] K :=
  acalls_of_wpc2 (T := TLK) (L := [([1, 1, 0, 1, 0], lik_l)]) (fun _ => 0) Try.func29 (by kernel_rfl) (by kernel_rfl) (by kernel_rfl) (TLK_ok) (.cons (sub_of (by kernel_rfl)) lik_l_ok (.nil _ _ _ _ _)) (holds_of_eq (by kernel_rfl) h)
def like_s (args : List PV) (H : Heap) (K : PV → Prop) : Prop := ∃ (q r : Nat) (w : List Pt) (m : Int) (tl : Tail), SlIs args [.ptr q 0, .list (w.map ptc) tl] ∧ BkIs H q r (rkP (rowsP w) m) ∧ PO w m ∧ K (.bool true)
def TAW : Tab := (27, .heap newB_s) :: (30, .read pof_s) :: TD13
theorem TAW_ok : TabOk Try.prog gl TAW := .cons newB_ok (.cons pof_ok TD13_ok)
theorem pawk1_vc   (K : PV → Prop) (h : ∃ (n : Int), SlIs [PV.int IntKind.i64 3] [PV.int IntKind.i64 n] ∧ ∃ (w : List Pt), ∃ (m : Int), ∃ (a : Int), ∃ (p : Int), SlIs [PV.int IntKind.u32 1, PV.int IntKind.u32 2] [PV.int IntKind.u32 a, PV.int IntKind.u32 p] ∧ AbIs [Ob.abs (rkP [] (mxI 0 n)), Ob.cells [PV.ptr 0 0]] 0 (rkP (rowsP w) m) ∧ PO w m ∧ ∃ (w_1 : List Pt), ∃ (m_1 : Int), ∃ (t : Int), ∃ (p_1 : Int), SlIs [PV.int IntKind.u32 1, PV.int IntKind.u32 2] [PV.int IntKind.u32 t, PV.int IntKind.u32 p_1] ∧ AbIs [Ob.abs (rkP (rowsP (Prod.fst (invS w m a p))) m), Ob.cells [PV.ptr 0 0]] 0 (rkP (rowsP w_1) m_1) ∧ PO w_1 m_1 ∧ ∃ (w_2 : List Pt), ∃ (m_2 : Int), ∃ (p_2 : Int), SlIs [PV.int IntKind.u32 1] [PV.int IntKind.u32 p_2] ∧ AbIs [Ob.abs (rkP (rowsP (Prod.fst (joinS w_1 t p_1))) m_1), Ob.cells [PV.ptr 0 0]] 0 (rkP (rowsP w_2) m_2) ∧ PO w_2 m_2 ∧ br ((Prod.fst (Prod.snd (invS w m a p)) == 1) == true) (br ((Prod.snd (Prod.snd (invS w m a p)) == 0) == true) (br ((Prod.snd (joinS w_1 t p_1) == 0) == true) (br ((Prod.fst (Prod.snd (leaveS w_2 p_2)) == 1) == true) (br (Prod.fst (Prod.snd (Prod.snd (leaveS w_2 p_2))) == true) (br ((Prod.snd (Prod.snd (Prod.snd (leaveS w_2 p_2))) == 0) == true) (∃ (q : Nat), ∃ (r : Nat), ∃ (w : List Pt), ∃ (m : Int), ∃ (p : Int), SlIs [PV.ptr 1 0, PV.int IntKind.u32 2] [PV.ptr q 0, PV.int IntKind.u32 p] ∧ BkIs [Ob.abs (rkP (rowsP (Prod.fst (leaveS w_2 p_2))) m_2), Ob.cells [PV.ptr 0 0]] q r (rkP (rowsP w) m) ∧ PO w m ∧ K (PV.bool (ofP w p == 0))) (K (PV.bool false))) (K (PV.bool false))) (K (PV.bool false))) (K (PV.bool false))) (K (PV.bool false))) (K (PV.bool false))) : ACalls Try.prog gl 33 [] [] (fun x _ => K x) :=
  acalls_of_wpc2 (T := TAW) (L := []) (fun _ => 0) Try.func33 (by kernel_rfl) (by kernel_rfl) (by kernel_rfl) (TAW_ok) (LOk.nil _ _ _ _ _) (holds_of_eq (by kernel_rfl) h)
end Go.Proofs.Ythabdpaipgclpaa
