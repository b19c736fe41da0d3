/-
  PartyRefuses' law.
-/
import Derived.Test.YthabdpaipgclpaaPn
import Derived.Test.YthabdpaipgclpaaProg
namespace Go.Proofs.Ythabdpaipgclpaa
open Go Go.AM Go.Proofs
theorem joinC_ok : SpOk Try.prog gl 40 (.chg join_s) := by
  intro args H K h
  unfold join_s at h
  split at h
  · rename_i q rest
    split at h <;> try (exact h.elim)
    rename_i r hr
    obtain ⟨w, m, t, p, he, ha, ro, hk⟩ := h
    refine ⟨_, _, join_ok _ H (fun x H1 => x = _ ∧ H1 = _) ?_, hk⟩
    unfold join_s
    simp only [hr]
    exact ⟨w, m, t, p, he, ha, ro, ⟨rfl, rfl⟩⟩
  · exact h.elim
def TPZ : Tab := (40, .chg join_s) :: (41, .heap lead_s) :: (24, .pure same_s) :: TPX
theorem TPZ_ok : TabOk Try.prog gl TPZ := .cons joinC_ok (.cons lead_ok (.cons same_ok TPX_ok))
theorem pfs_red (w : List Pt) (acs : List Pa) (z : Pa) (i : Nat) (R : Ex → List PV → Heap → Prop) : (br (decide ((↑i : Int) < (↑(List.length (List.map Pa.cs acs)) : Int))) (InL (List.map Pa.cs acs) 3 (↑i : Int) ∧ br (true && fitX [CK.int IntKind.u8, CK.int IntKind.u32, CK.int IntKind.u32] 0 (List.getD (List.map Pa.cs acs) (Int.toNat (↑i : Int)) [])) (∃ (w_1 : List Pt), ∃ (l : List Pt), ∃ (m : Int), ∃ (a : Pa), ∃ (tl : Tail), SlIs [PV.list (List.map ptc w) Tail.no, PV.int IntKind.i64 2, PV.agg [PV.int IntKind.u8 (cI (List.getD (List.map Pa.cs acs) (Int.toNat (↑i : Int)) []) 0), PV.int IntKind.u32 (cI (List.getD (List.map Pa.cs acs) (Int.toNat (↑i : Int)) []) 1), PV.int IntKind.u32 (cI (List.getD (List.map Pa.cs acs) (Int.toNat (↑i : Int)) []) 2)]] [PV.list (List.map ptc l) tl, PV.int IntKind.i64 m, PV.agg [PV.int IntKind.u8 (Pa.d a), PV.int IntKind.u32 (Pa.a a), PV.int IntKind.u32 (Pa.b a)]] ∧ AbIs [Ob.cells [PV.int IntKind.u8 (Pa.d z), PV.int IntKind.u32 (Pa.a z), PV.int IntKind.u32 (Pa.b z)], Ob.abs (rkP (rowsP w) 2), Ob.cells [PV.ptr 1 0]] 1 (rkP (rowsP w_1) m) ∧ PO w_1 m ∧ PO l m ∧ m ≤ 100000 ∧ Pa.ok a ∧ R Ex.normal [PV.list (List.map Pa.cs acs) Tail.no, PV.ptr 0 0, PV.bool false, PV.ptr 2 0, PV.list (List.map ptc (Prod.fst (actS l m a))) Tail.no, PV.int IntKind.i64 (wI ((↑i : Int) + 1))] [Ob.cells [PV.int IntKind.u8 (Pa.d z), PV.int IntKind.u32 (Pa.a z), PV.int IntKind.u32 (Pa.b z)], Ob.abs (rkP (rowsP (Prod.fst (actS w_1 m a))) m), Ob.cells [PV.ptr 1 0]]) False) (R (Ex.exit 0) [PV.list (List.map Pa.cs acs) Tail.no, PV.ptr 0 0, PV.bool false, PV.ptr 2 0, PV.list (List.map ptc w) Tail.no, PV.int IntKind.i64 (↑i : Int)] [Ob.cells [PV.int IntKind.u8 (Pa.d z), PV.int IntKind.u32 (Pa.a z), PV.int IntKind.u32 (Pa.b z)], Ob.abs (rkP (rowsP w) 2), Ob.cells [PV.ptr 1 0]])) = wpc br Try.prog gl TPZ [] (fun _ => 0) (subOf [1, 1, 1, 1, 0, 1, 0] (bodyOf Try.f10)) [] (envS [0, 3, 4, 5, 6, 7] [.list (acs.map Pa.cs) .no, .ptr 0 0, .bool false, .ptr 2 0, .list (w.map ptc) .no, .int .i64 i]) [.cells z.cs, .abs (rkP (rowsP w) 2), .cells [.ptr 1 0]] (fun ex e H => R ex (List.map e [0, 3, 4, 5, 6, 7]) H) := by kernel_rfl
theorem pfs_vc (w : List Pt) (acs : List Pa) (z : Pa) (i : Nat) (R : Ex → List PV → Heap → Prop) (h : br (decide ((↑i : Int) < (↑(List.length (List.map Pa.cs acs)) : Int))) (InL (List.map Pa.cs acs) 3 (↑i : Int) ∧ br (true && fitX [CK.int IntKind.u8, CK.int IntKind.u32, CK.int IntKind.u32] 0 (List.getD (List.map Pa.cs acs) (Int.toNat (↑i : Int)) [])) (∃ (w_1 : List Pt), ∃ (l : List Pt), ∃ (m : Int), ∃ (a : Pa), ∃ (tl : Tail), SlIs [PV.list (List.map ptc w) Tail.no, PV.int IntKind.i64 2, PV.agg [PV.int IntKind.u8 (cI (List.getD (List.map Pa.cs acs) (Int.toNat (↑i : Int)) []) 0), PV.int IntKind.u32 (cI (List.getD (List.map Pa.cs acs) (Int.toNat (↑i : Int)) []) 1), PV.int IntKind.u32 (cI (List.getD (List.map Pa.cs acs) (Int.toNat (↑i : Int)) []) 2)]] [PV.list (List.map ptc l) tl, PV.int IntKind.i64 m, PV.agg [PV.int IntKind.u8 (Pa.d a), PV.int IntKind.u32 (Pa.a a), PV.int IntKind.u32 (Pa.b a)]] ∧ AbIs [Ob.cells [PV.int IntKind.u8 (Pa.d z), PV.int IntKind.u32 (Pa.a z), PV.int IntKind.u32 (Pa.b z)], Ob.abs (rkP (rowsP w) 2), Ob.cells [PV.ptr 1 0]] 1 (rkP (rowsP w_1) m) ∧ PO w_1 m ∧ PO l m ∧ m ≤ 100000 ∧ Pa.ok a ∧ R Ex.normal [PV.list (List.map Pa.cs acs) Tail.no, PV.ptr 0 0, PV.bool false, PV.ptr 2 0, PV.list (List.map ptc (Prod.fst (actS l m a))) Tail.no, PV.int IntKind.i64 (wI ((↑i : Int) + 1))] [Ob.cells [PV.int IntKind.u8 (Pa.d z), PV.int IntKind.u32 (Pa.a z), PV.int IntKind.u32 (Pa.b z)], Ob.abs (rkP (rowsP (Prod.fst (actS w_1 m a))) m), Ob.cells [PV.ptr 1 0]]) False) (R (Ex.exit 0) [PV.list (List.map Pa.cs acs) Tail.no, PV.ptr 0 0, PV.bool false, PV.ptr 2 0, PV.list (List.map ptc w) Tail.no, PV.int IntKind.i64 (↑i : Int)] [Ob.cells [PV.int IntKind.u8 (Pa.d z), PV.int IntKind.u32 (Pa.a z), PV.int IntKind.u32 (Pa.b z)], Ob.abs (rkP (rowsP w) 2), Ob.cells [PV.ptr 1 0]])) : Holds (wpc br Try.prog gl TPZ [] (fun _ => 0) (subOf [1, 1, 1, 1, 0, 1, 0] (bodyOf Try.f10)) [] (envS [0, 3, 4, 5, 6, 7] [.list (acs.map Pa.cs) .no, .ptr 0 0, .bool false, .ptr 2 0, .list (w.map ptc) .no, .int .i64 i]) [.cells z.cs, .abs (rkP (rowsP w) 2), .cells [.ptr 1 0]] (fun ex e H => R ex (List.map e [0, 3, 4, 5, 6, 7]) H)) := holds_of_eq (pfs_red w acs z i R) h
theorem pfs_low (acs : List Pa) (w : List Pt) (i : Int) : ∀ v ∈ [PV.list (acs.map Pa.cs) .no, .ptr 0 0, .bool false, .ptr 2 0, .list (w.map ptc) .no, .int .i64 i], Low 3 v := by
  intro v hv
  simp only [List.mem_cons, List.not_mem_nil, or_false] at hv
  rcases hv with rfl | rfl | rfl | rfl | rfl | rfl
  · exact low_pal acs
  · exact .ptr _ _ (by decide)
  · exact .bool _
  · exact .ptr _ _ (by decide)
  · exact low_ptl w
  · exact .int _ _
theorem pfs_hlow (z : Pa) (R : Rep) : LowH [.cells z.cs, .abs R, .cells [.ptr 1 0]] := by
  refine lowH_of fun ob ho => ?_
  simp only [List.mem_cons, List.not_mem_nil, or_false] at ho
  rcases ho with rfl | rfl | rfl
  · exact low_pa z
  · trivial
  · exact low_one (.ptr _ _ (by simp))
def pfs_l : LSp := fun e H Q => ∃ (acs : List Pa) (z : Pa), acs.length ≤ 60 ∧ (∀ a ∈ acs, a.ok) ∧ SlIs (List.map e [0, 3, 4, 5, 6, 7]) [.list (acs.map Pa.cs) .no, .ptr 0 0, .bool false, .ptr 2 0, .list [] .exact, .int .i64 0] ∧ HpIs H [.cells z.cs, .abs (rkP (rowsP []) 2), .cells [.ptr 1 0]] ∧
  ∀ (w : List Pt), PO w 2 → Q (.exit 0) (envS [0, 3, 4, 5, 6, 7] [.list (acs.map Pa.cs) .no, .ptr 0 0, .bool false, .ptr 2 0, .list (w.map ptc) .no, .int .i64 acs.length]) [.cells z.cs, .abs (rkP (rowsP w) 2), .cells [.ptr 1 0]]
theorem pfs_l_ok : ∀ e H Q, pfs_l e H Q → AW Try.prog gl Try.f10.ntmps (.loop (subOf [1, 1, 1, 1, 0, 1, 0] (bodyOf Try.f10))) Q e H := by
  rintro e H Q ⟨acs, z, hl, hok, he, hH, hQ⟩
  have he : List.map e [0, 3, 4, 5, 6, 7] = _ := he
  refine AW.wkin (slots := [0, 3, 4, 5, 6, 7]) (vs := [.list (acs.map Pa.cs) .no, .ptr 0 0, .bool false, .ptr 2 0, .list [] .no, .int .i64 0]) (by rw [he]; exact .cons (.refl _) (.cons (.refl _) (.cons (.refl _) (.cons (.refl _) (.cons (.list _ _) (.cons (.refl _) .nil)))))) ?_
  refine aw_loop4 (hn := fun _ => 0) gl_low TPZ_ok (.nil _ _ _ _ _) (σ := Nat × List Pt) [0, 3, 4, 5, 6, 7] (fun s => s.1 ≤ acs.length ∧ PO s.2 2)
    (fun s => [.list (acs.map Pa.cs) .no, .ptr 0 0, .bool false, .ptr 2 0, .list (s.2.map ptc) .no, .int .i64 s.1]) (fun s => [.cells z.cs, .abs (rkP (rowsP s.2) 2), .cells [.ptr 1 0]]) (fun s => acs.length - s.1) (0, []) ⟨Nat.zero_le _, .nil (by decide) (by decide)⟩ rfl hH ?_
  rintro ⟨i, w⟩ ⟨hi, ro⟩
  have hi : i ≤ acs.length := hi
  have ro : PO w 2 := ro
  refine pfs_vc w acs z i _ ?_
  simp only [br_if, dt, List.length_map, inL_pa, toNat_nat]
  by_cases h : i < acs.length
  · rw [if_pos (by omega)]
    simp only [getD_map default h]
    refine ⟨h, ?_⟩
    rw [if_pos (by rfl)]
    obtain ⟨a, ha⟩ : ∃ a, a = acs.getD i default := ⟨_, rfl⟩
    have haok : a.ok := hok a (by rw [ha]; exact getD_mem h)
    have c0 : cI a.cs 0 = a.d := rfl
    have c1 : cI a.cs 1 = a.a := rfl
    have c2 : cI a.cs 2 = a.b := rfl
    simp only [← ha, c0, c1, c2]
    exact ⟨w, w, 2, a, .no, rfl, rfl, ro, ro, by omega, haok, (i + 1, (actS w 2 a).1), (show acs.length - (i + 1) < acs.length - i by omega), ⟨h, ro.act a⟩, by rw [wI_succ h (by omega)], [], rfl, Nat.le_refl _, .inr ⟨pfs_low acs _ _, pfs_hlow z _⟩⟩
  · rw [if_neg (by omega)]
    have : i = acs.length := by omega
    subst this
    exact hQ w ro
theorem pfs1_red (acs : List Pa) (z : Pa) (K : PV → Prop) : (br (decide ((↑(List.length (List.map Pa.cs acs)) : Int) > 60)) (K (PV.bool true)) (∃ (n : Int), SlIs [PV.int IntKind.i64 2] [PV.int IntKind.i64 n] ∧ ∃ (acs_1 : List Pa), ∃ (z_1 : Pa), List.length acs_1 ≤ 60 ∧ (∀ (a : Pa), a ∈ acs_1 → Pa.ok a) ∧ SlIs [PV.list (List.map Pa.cs acs) Tail.no, PV.ptr 0 0, PV.bool false, PV.ptr 2 0, PV.list [] Tail.exact, PV.int IntKind.i64 0] [PV.list (List.map Pa.cs acs_1) Tail.no, PV.ptr 0 0, PV.bool false, PV.ptr 2 0, PV.list [] Tail.exact, PV.int IntKind.i64 0] ∧ HpIs [Ob.cells [PV.int IntKind.u8 (Pa.d z), PV.int IntKind.u32 (Pa.a z), PV.int IntKind.u32 (Pa.b z)], Ob.abs (rkP [] (mxI 0 n)), Ob.cells [PV.ptr 1 0]] [Ob.cells [PV.int IntKind.u8 (Pa.d z_1), PV.int IntKind.u32 (Pa.a z_1), PV.int IntKind.u32 (Pa.b z_1)], Ob.abs (rkP [] 2), Ob.cells [PV.ptr 1 0]] ∧ ∀ (w : List Pt), PO w 2 → ∃ (q : Nat), ∃ (r : Nat), ∃ (w_1 : List Pt), ∃ (m : Int), SlIs [PV.ptr 2 0] [PV.ptr q 0] ∧ BkIs [Ob.cells [PV.int IntKind.u8 (Pa.d z_1), PV.int IntKind.u32 (Pa.a z_1), PV.int IntKind.u32 (Pa.b z_1)], Ob.abs (rkP (rowsP w) 2), Ob.cells [PV.ptr 1 0]] q r (rkP (rowsP w_1) m) ∧ PO w_1 m ∧ ∃ (w_2 : List Pt), ∃ (m : Int), ∃ (a : Int), ∃ (p : Int), SlIs [PV.int IntKind.u32 (Pa.a z_1), PV.int IntKind.u32 (Pa.b z_1)] [PV.int IntKind.u32 a, PV.int IntKind.u32 p] ∧ AbIs [Ob.cells [PV.int IntKind.u8 (Pa.d z_1), PV.int IntKind.u32 (Pa.a z_1), PV.int IntKind.u32 (Pa.b z_1)], Ob.abs (rkP (rowsP w) 2), Ob.cells [PV.ptr 1 0]] 1 (rkP (rowsP w_2) m) ∧ PO w_2 m ∧ br ((Prod.snd (leadS w_2 a p) != 0) == true) (∃ (q : Nat), ∃ (r : Nat), ∃ (w_3 : List Pt), ∃ (m_1 : Int), ∃ (tl : Tail), SlIs [PV.ptr 2 0, PV.list (List.map ptc w) Tail.no] [PV.ptr q 0, PV.list (List.map ptc w_3) tl] ∧ BkIs [Ob.cells [PV.int IntKind.u8 (Pa.d z_1), PV.int IntKind.u32 (Pa.a z_1), PV.int IntKind.u32 (Pa.b z_1)], Ob.abs (rkP (rowsP (Prod.fst (leadS w_2 a p))) m), Ob.cells [PV.ptr 1 0]] q r (rkP (rowsP w_3) m_1) ∧ PO w_3 m_1 ∧ ∃ (q : Nat), ∃ (r : Nat), ∃ (w_4 : List Pt), ∃ (m_2 : Int), SlIs [PV.ptr 2 0] [PV.ptr q 0] ∧ BkIs [Ob.cells [PV.int IntKind.u8 (Pa.d z_1), PV.int IntKind.u32 (Pa.a z_1), PV.int IntKind.u32 (Pa.b z_1)], Ob.abs (rkP (rowsP (Prod.fst (leadS w_2 a p))) m), Ob.cells [PV.ptr 1 0]] q r (rkP (rowsP w_4) m_2) ∧ PO w_4 m_2 ∧ ∃ (a_1 : List Int), ∃ (b : List Int), ∃ (t : Tail), ∃ (t' : Tail), SlIs [PV.list (List.map u1 (List.map Pt.id w_1)) Tail.no, PV.list (List.map u1 (List.map Pt.id w_4)) Tail.no] [PV.list (en1 IntKind.u32 a_1) t, PV.list (en1 IntKind.u32 b) t'] ∧ List.length a_1 ≤ 1000000 ∧ br (!decide (a_1 = b)) (K (PV.bool false)) (br (Prod.snd (leadS w_2 a p) == 0) (∃ (q : Nat), ∃ (r : Nat), ∃ (w : List Pt), ∃ (m_3 : Int), ∃ (p_1 : Int), SlIs [PV.ptr 2 0, PV.int IntKind.u32 (Pa.a z_1)] [PV.ptr q 0, PV.int IntKind.u32 p_1] ∧ BkIs [Ob.cells [PV.int IntKind.u8 (Pa.d z_1), PV.int IntKind.u32 (Pa.a z_1), PV.int IntKind.u32 (Pa.b z_1)], Ob.abs (rkP (rowsP (Prod.fst (leadS w_2 a p))) m), Ob.cells [PV.ptr 1 0]] q r (rkP (rowsP w) m_3) ∧ PO w m_3 ∧ ∃ (q : Nat), ∃ (r : Nat), ∃ (w_5 : List Pt), ∃ (m_4 : Int), ∃ (t : Int), SlIs [PV.ptr 2 0, PV.int IntKind.u32 (ofP w p_1)] [PV.ptr q 0, PV.int IntKind.u32 t] ∧ BkIs [Ob.cells [PV.int IntKind.u8 (Pa.d z_1), PV.int IntKind.u32 (Pa.a z_1), PV.int IntKind.u32 (Pa.b z_1)], Ob.abs (rkP (rowsP (Prod.fst (leadS w_2 a p))) m), Ob.cells [PV.ptr 1 0]] q r (rkP (rowsP w_5) m_4) ∧ PO w_5 m_4 ∧ br ((Pt.ld (getG Pt.id w_5 t) == Pa.b z_1) == true) (∃ (w : List Pt), ∃ (m_5 : Int), ∃ (a_2 : Int), ∃ (p_2 : Int), SlIs [PV.int IntKind.u32 (Pa.a z_1), PV.int IntKind.u32 (Pa.b z_1)] [PV.int IntKind.u32 a_2, PV.int IntKind.u32 p_2] ∧ AbIs [Ob.cells [PV.int IntKind.u8 (Pa.d z_1), PV.int IntKind.u32 (Pa.a z_1), PV.int IntKind.u32 (Pa.b z_1)], Ob.abs (rkP (rowsP (Prod.fst (leadS w_2 a p))) m), Ob.cells [PV.ptr 1 0], Ob.cells [PV.int IntKind.u32 (Pt.id (getG Pt.id w_5 t)), PV.int IntKind.u32 (Pt.ld (getG Pt.id w_5 t)), PV.list (en1 IntKind.u32 (Pt.ms (getG Pt.id w_5 t))) Tail.no, PV.list (en1 IntKind.u32 (Pt.iv (getG Pt.id w_5 t))) Tail.no]] 1 (rkP (rowsP w) m_5) ∧ PO w m_5 ∧ br ((Prod.snd (leadS w a_2 p_2) == 18) == true) (SlIs [] [] ∧ K (PV.bool true)) (K (PV.bool false))) (K (PV.bool false))) (∃ (w_5 : List Pt), ∃ (m_3 : Int), ∃ (t : Int), ∃ (p_1 : Int), SlIs [PV.int IntKind.u32 (Pa.b z_1), PV.int IntKind.u32 (Pa.a z_1)] [PV.int IntKind.u32 t, PV.int IntKind.u32 p_1] ∧ AbIs [Ob.cells [PV.int IntKind.u8 (Pa.d z_1), PV.int IntKind.u32 (Pa.a z_1), PV.int IntKind.u32 (Pa.b z_1)], Ob.abs (rkP (rowsP (Prod.fst (leadS w_2 a p))) m), Ob.cells [PV.ptr 1 0]] 1 (rkP (rowsP w_5) m_3) ∧ PO w_5 m_3 ∧ br (Prod.snd (joinS w_5 t p_1) != 0) (∃ (q : Nat), ∃ (r : Nat), ∃ (w_6 : List Pt), ∃ (m : Int), ∃ (tl : Tail), SlIs [PV.ptr 2 0, PV.list (List.map ptc w) Tail.no] [PV.ptr q 0, PV.list (List.map ptc w_6) tl] ∧ BkIs [Ob.cells [PV.int IntKind.u8 (Pa.d z_1), PV.int IntKind.u32 (Pa.a z_1), PV.int IntKind.u32 (Pa.b z_1)], Ob.abs (rkP (rowsP (Prod.fst (joinS w_5 t p_1))) m_3), Ob.cells [PV.ptr 1 0]] q r (rkP (rowsP w_6) m) ∧ PO w_6 m ∧ SlIs [] [] ∧ K (PV.bool true)) (∃ (q : Nat), ∃ (r : Nat), ∃ (w : List Pt), ∃ (m : Int), ∃ (p : Int), SlIs [PV.ptr 2 0, PV.int IntKind.u32 (Pa.a z_1)] [PV.ptr q 0, PV.int IntKind.u32 p] ∧ BkIs [Ob.cells [PV.int IntKind.u8 (Pa.d z_1), PV.int IntKind.u32 (Pa.a z_1), PV.int IntKind.u32 (Pa.b z_1)], Ob.abs (rkP (rowsP (Prod.fst (joinS w_5 t p_1))) m_3), Ob.cells [PV.ptr 1 0]] q r (rkP (rowsP w) m) ∧ PO w m ∧ br ((ofP w p == Pa.b z_1) == true) (∃ (w : List Pt), ∃ (m : Int), ∃ (t_1 : Int), ∃ (p : Int), SlIs [PV.int IntKind.u32 (Pa.b z_1), PV.int IntKind.u32 (Pa.a z_1)] [PV.int IntKind.u32 t_1, PV.int IntKind.u32 p] ∧ AbIs [Ob.cells [PV.int IntKind.u8 (Pa.d z_1), PV.int IntKind.u32 (Pa.a z_1), PV.int IntKind.u32 (Pa.b z_1)], Ob.abs (rkP (rowsP (Prod.fst (joinS w_5 t p_1))) m_3), Ob.cells [PV.ptr 1 0]] 1 (rkP (rowsP w) m) ∧ PO w m ∧ br ((Prod.snd (joinS w t_1 p) == 12) == true) (SlIs [] [] ∧ K (PV.bool true)) (K (PV.bool false))) (K (PV.bool false)))))) (br (Prod.snd (leadS w_2 a p) == 0) (∃ (q : Nat), ∃ (r : Nat), ∃ (w : List Pt), ∃ (m_1 : Int), ∃ (p_1 : Int), SlIs [PV.ptr 2 0, PV.int IntKind.u32 (Pa.a z_1)] [PV.ptr q 0, PV.int IntKind.u32 p_1] ∧ BkIs [Ob.cells [PV.int IntKind.u8 (Pa.d z_1), PV.int IntKind.u32 (Pa.a z_1), PV.int IntKind.u32 (Pa.b z_1)], Ob.abs (rkP (rowsP (Prod.fst (leadS w_2 a p))) m), Ob.cells [PV.ptr 1 0]] q r (rkP (rowsP w) m_1) ∧ PO w m_1 ∧ ∃ (q : Nat), ∃ (r : Nat), ∃ (w_3 : List Pt), ∃ (m_2 : Int), ∃ (t : Int), SlIs [PV.ptr 2 0, PV.int IntKind.u32 (ofP w p_1)] [PV.ptr q 0, PV.int IntKind.u32 t] ∧ BkIs [Ob.cells [PV.int IntKind.u8 (Pa.d z_1), PV.int IntKind.u32 (Pa.a z_1), PV.int IntKind.u32 (Pa.b z_1)], Ob.abs (rkP (rowsP (Prod.fst (leadS w_2 a p))) m), Ob.cells [PV.ptr 1 0]] q r (rkP (rowsP w_3) m_2) ∧ PO w_3 m_2 ∧ br ((Pt.ld (getG Pt.id w_3 t) == Pa.b z_1) == true) (∃ (w : List Pt), ∃ (m_3 : Int), ∃ (a_1 : Int), ∃ (p_2 : Int), SlIs [PV.int IntKind.u32 (Pa.a z_1), PV.int IntKind.u32 (Pa.b z_1)] [PV.int IntKind.u32 a_1, PV.int IntKind.u32 p_2] ∧ AbIs [Ob.cells [PV.int IntKind.u8 (Pa.d z_1), PV.int IntKind.u32 (Pa.a z_1), PV.int IntKind.u32 (Pa.b z_1)], Ob.abs (rkP (rowsP (Prod.fst (leadS w_2 a p))) m), Ob.cells [PV.ptr 1 0], Ob.cells [PV.int IntKind.u32 (Pt.id (getG Pt.id w_3 t)), PV.int IntKind.u32 (Pt.ld (getG Pt.id w_3 t)), PV.list (en1 IntKind.u32 (Pt.ms (getG Pt.id w_3 t))) Tail.no, PV.list (en1 IntKind.u32 (Pt.iv (getG Pt.id w_3 t))) Tail.no]] 1 (rkP (rowsP w) m_3) ∧ PO w m_3 ∧ br ((Prod.snd (leadS w a_1 p_2) == 18) == true) (SlIs [] [] ∧ K (PV.bool true)) (K (PV.bool false))) (K (PV.bool false))) (∃ (w_3 : List Pt), ∃ (m_1 : Int), ∃ (t : Int), ∃ (p_1 : Int), SlIs [PV.int IntKind.u32 (Pa.b z_1), PV.int IntKind.u32 (Pa.a z_1)] [PV.int IntKind.u32 t, PV.int IntKind.u32 p_1] ∧ AbIs [Ob.cells [PV.int IntKind.u8 (Pa.d z_1), PV.int IntKind.u32 (Pa.a z_1), PV.int IntKind.u32 (Pa.b z_1)], Ob.abs (rkP (rowsP (Prod.fst (leadS w_2 a p))) m), Ob.cells [PV.ptr 1 0]] 1 (rkP (rowsP w_3) m_1) ∧ PO w_3 m_1 ∧ br (Prod.snd (joinS w_3 t p_1) != 0) (∃ (q : Nat), ∃ (r : Nat), ∃ (w_4 : List Pt), ∃ (m : Int), ∃ (tl : Tail), SlIs [PV.ptr 2 0, PV.list (List.map ptc w) Tail.no] [PV.ptr q 0, PV.list (List.map ptc w_4) tl] ∧ BkIs [Ob.cells [PV.int IntKind.u8 (Pa.d z_1), PV.int IntKind.u32 (Pa.a z_1), PV.int IntKind.u32 (Pa.b z_1)], Ob.abs (rkP (rowsP (Prod.fst (joinS w_3 t p_1))) m_1), Ob.cells [PV.ptr 1 0]] q r (rkP (rowsP w_4) m) ∧ PO w_4 m ∧ SlIs [] [] ∧ K (PV.bool true)) (∃ (q : Nat), ∃ (r : Nat), ∃ (w : List Pt), ∃ (m : Int), ∃ (p : Int), SlIs [PV.ptr 2 0, PV.int IntKind.u32 (Pa.a z_1)] [PV.ptr q 0, PV.int IntKind.u32 p] ∧ BkIs [Ob.cells [PV.int IntKind.u8 (Pa.d z_1), PV.int IntKind.u32 (Pa.a z_1), PV.int IntKind.u32 (Pa.b z_1)], Ob.abs (rkP (rowsP (Prod.fst (joinS w_3 t p_1))) m_1), Ob.cells [PV.ptr 1 0]] q r (rkP (rowsP w) m) ∧ PO w m ∧ br ((ofP w p == Pa.b z_1) == true) (∃ (w : List Pt), ∃ (m : Int), ∃ (t_1 : Int), ∃ (p : Int), SlIs [PV.int IntKind.u32 (Pa.b z_1), PV.int IntKind.u32 (Pa.a z_1)] [PV.int IntKind.u32 t_1, PV.int IntKind.u32 p] ∧ AbIs [Ob.cells [PV.int IntKind.u8 (Pa.d z_1), PV.int IntKind.u32 (Pa.a z_1), PV.int IntKind.u32 (Pa.b z_1)], Ob.abs (rkP (rowsP (Prod.fst (joinS w_3 t p_1))) m_1), Ob.cells [PV.ptr 1 0]] 1 (rkP (rowsP w) m) ∧ PO w m ∧ br ((Prod.snd (joinS w t_1 p) == 12) == true) (SlIs [] [] ∧ K (PV.bool true)) (K (PV.bool false))) (K (PV.bool false))))))) = wpc br Try.prog gl TPZ [([1, 1, 1, 1, 0, 1, 0], pfs_l)] (fun o => match o.dst with | some 101 => 5 | some 111 => 7 | _ => 0) (bodyOf Try.f10) [] (env0 [.list (acs.map Pa.cs) .no, .agg z.cs]) [] (resQ Try.prog Try.f10.results.toList (fun x _ => K x)) := by kernel_rfl
theorem pfs1_vc (acs : List Pa) (z : Pa)  (K : PV → Prop) (h : br (decide ((↑(List.length (List.map Pa.cs acs)) : Int) > 60)) (K (PV.bool true)) (∃ (n : Int), SlIs [PV.int IntKind.i64 2] [PV.int IntKind.i64 n] ∧ ∃ (acs_1 : List Pa), ∃ (z_1 : Pa), List.length acs_1 ≤ 60 ∧ (∀ (a : Pa), a ∈ acs_1 → Pa.ok a) ∧ SlIs [PV.list (List.map Pa.cs acs) Tail.no, PV.ptr 0 0, PV.bool false, PV.ptr 2 0, PV.list [] Tail.exact, PV.int IntKind.i64 0] [PV.list (List.map Pa.cs acs_1) Tail.no, PV.ptr 0 0, PV.bool false, PV.ptr 2 0, PV.list [] Tail.exact, PV.int IntKind.i64 0] ∧ HpIs [Ob.cells [PV.int IntKind.u8 (Pa.d z), PV.int IntKind.u32 (Pa.a z), PV.int IntKind.u32 (Pa.b z)], Ob.abs (rkP [] (mxI 0 n)), Ob.cells [PV.ptr 1 0]] [Ob.cells [PV.int IntKind.u8 (Pa.d z_1), PV.int IntKind.u32 (Pa.a z_1), PV.int IntKind.u32 (Pa.b z_1)], Ob.abs (rkP [] 2), Ob.cells [PV.ptr 1 0]] ∧ ∀ (w : List Pt), PO w 2 → ∃ (q : Nat), ∃ (r : Nat), ∃ (w_1 : List Pt), ∃ (m : Int), SlIs [PV.ptr 2 0] [PV.ptr q 0] ∧ BkIs [Ob.cells [PV.int IntKind.u8 (Pa.d z_1), PV.int IntKind.u32 (Pa.a z_1), PV.int IntKind.u32 (Pa.b z_1)], Ob.abs (rkP (rowsP w) 2), Ob.cells [PV.ptr 1 0]] q r (rkP (rowsP w_1) m) ∧ PO w_1 m ∧ ∃ (w_2 : List Pt), ∃ (m : Int), ∃ (a : Int), ∃ (p : Int), SlIs [PV.int IntKind.u32 (Pa.a z_1), PV.int IntKind.u32 (Pa.b z_1)] [PV.int IntKind.u32 a, PV.int IntKind.u32 p] ∧ AbIs [Ob.cells [PV.int IntKind.u8 (Pa.d z_1), PV.int IntKind.u32 (Pa.a z_1), PV.int IntKind.u32 (Pa.b z_1)], Ob.abs (rkP (rowsP w) 2), Ob.cells [PV.ptr 1 0]] 1 (rkP (rowsP w_2) m) ∧ PO w_2 m ∧ br ((Prod.snd (leadS w_2 a p) != 0) == true) (∃ (q : Nat), ∃ (r : Nat), ∃ (w_3 : List Pt), ∃ (m_1 : Int), ∃ (tl : Tail), SlIs [PV.ptr 2 0, PV.list (List.map ptc w) Tail.no] [PV.ptr q 0, PV.list (List.map ptc w_3) tl] ∧ BkIs [Ob.cells [PV.int IntKind.u8 (Pa.d z_1), PV.int IntKind.u32 (Pa.a z_1), PV.int IntKind.u32 (Pa.b z_1)], Ob.abs (rkP (rowsP (Prod.fst (leadS w_2 a p))) m), Ob.cells [PV.ptr 1 0]] q r (rkP (rowsP w_3) m_1) ∧ PO w_3 m_1 ∧ ∃ (q : Nat), ∃ (r : Nat), ∃ (w_4 : List Pt), ∃ (m_2 : Int), SlIs [PV.ptr 2 0] [PV.ptr q 0] ∧ BkIs [Ob.cells [PV.int IntKind.u8 (Pa.d z_1), PV.int IntKind.u32 (Pa.a z_1), PV.int IntKind.u32 (Pa.b z_1)], Ob.abs (rkP (rowsP (Prod.fst (leadS w_2 a p))) m), Ob.cells [PV.ptr 1 0]] q r (rkP (rowsP w_4) m_2) ∧ PO w_4 m_2 ∧ ∃ (a_1 : List Int), ∃ (b : List Int), ∃ (t : Tail), ∃ (t' : Tail), SlIs [PV.list (List.map u1 (List.map Pt.id w_1)) Tail.no, PV.list (List.map u1 (List.map Pt.id w_4)) Tail.no] [PV.list (en1 IntKind.u32 a_1) t, PV.list (en1 IntKind.u32 b) t'] ∧ List.length a_1 ≤ 1000000 ∧ br (!decide (a_1 = b)) (K (PV.bool false)) (br (Prod.snd (leadS w_2 a p) == 0) (∃ (q : Nat), ∃ (r : Nat), ∃ (w : List Pt), ∃ (m_3 : Int), ∃ (p_1 : Int), SlIs [PV.ptr 2 0, PV.int IntKind.u32 (Pa.a z_1)] [PV.ptr q 0, PV.int IntKind.u32 p_1] ∧ BkIs [Ob.cells [PV.int IntKind.u8 (Pa.d z_1), PV.int IntKind.u32 (Pa.a z_1), PV.int IntKind.u32 (Pa.b z_1)], Ob.abs (rkP (rowsP (Prod.fst (leadS w_2 a p))) m), Ob.cells [PV.ptr 1 0]] q r (rkP (rowsP w) m_3) ∧ PO w m_3 ∧ ∃ (q : Nat), ∃ (r : Nat), ∃ (w_5 : List Pt), ∃ (m_4 : Int), ∃ (t : Int), SlIs [PV.ptr 2 0, PV.int IntKind.u32 (ofP w p_1)] [PV.ptr q 0, PV.int IntKind.u32 t] ∧ BkIs [Ob.cells [PV.int IntKind.u8 (Pa.d z_1), PV.int IntKind.u32 (Pa.a z_1), PV.int IntKind.u32 (Pa.b z_1)], Ob.abs (rkP (rowsP (Prod.fst (leadS w_2 a p))) m), Ob.cells [PV.ptr 1 0]] q r (rkP (rowsP w_5) m_4) ∧ PO w_5 m_4 ∧ br ((Pt.ld (getG Pt.id w_5 t) == Pa.b z_1) == true) (∃ (w : List Pt), ∃ (m_5 : Int), ∃ (a_2 : Int), ∃ (p_2 : Int), SlIs [PV.int IntKind.u32 (Pa.a z_1), PV.int IntKind.u32 (Pa.b z_1)] [PV.int IntKind.u32 a_2, PV.int IntKind.u32 p_2] ∧ AbIs [Ob.cells [PV.int IntKind.u8 (Pa.d z_1), PV.int IntKind.u32 (Pa.a z_1), PV.int IntKind.u32 (Pa.b z_1)], Ob.abs (rkP (rowsP (Prod.fst (leadS w_2 a p))) m), Ob.cells [PV.ptr 1 0], Ob.cells [PV.int IntKind.u32 (Pt.id (getG Pt.id w_5 t)), PV.int IntKind.u32 (Pt.ld (getG Pt.id w_5 t)), PV.list (en1 IntKind.u32 (Pt.ms (getG Pt.id w_5 t))) Tail.no, PV.list (en1 IntKind.u32 (Pt.iv (getG Pt.id w_5 t))) Tail.no]] 1 (rkP (rowsP w) m_5) ∧ PO w m_5 ∧ br ((Prod.snd (leadS w a_2 p_2) == 18) == true) (SlIs [] [] ∧ K (PV.bool true)) (K (PV.bool false))) (K (PV.bool false))) (∃ (w_5 : List Pt), ∃ (m_3 : Int), ∃ (t : Int), ∃ (p_1 : Int), SlIs [PV.int IntKind.u32 (Pa.b z_1), PV.int IntKind.u32 (Pa.a z_1)] [PV.int IntKind.u32 t, PV.int IntKind.u32 p_1] ∧ AbIs [Ob.cells [PV.int IntKind.u8 (Pa.d z_1), PV.int IntKind.u32 (Pa.a z_1), PV.int IntKind.u32 (Pa.b z_1)], Ob.abs (rkP (rowsP (Prod.fst (leadS w_2 a p))) m), Ob.cells [PV.ptr 1 0]] 1 (rkP (rowsP w_5) m_3) ∧ PO w_5 m_3 ∧ br (Prod.snd (joinS w_5 t p_1) != 0) (∃ (q : Nat), ∃ (r : Nat), ∃ (w_6 : List Pt), ∃ (m : Int), ∃ (tl : Tail), SlIs [PV.ptr 2 0, PV.list (List.map ptc w) Tail.no] [PV.ptr q 0, PV.list (List.map ptc w_6) tl] ∧ BkIs [Ob.cells [PV.int IntKind.u8 (Pa.d z_1), PV.int IntKind.u32 (Pa.a z_1), PV.int IntKind.u32 (Pa.b z_1)], Ob.abs (rkP (rowsP (Prod.fst (joinS w_5 t p_1))) m_3), Ob.cells [PV.ptr 1 0]] q r (rkP (rowsP w_6) m) ∧ PO w_6 m ∧ SlIs [] [] ∧ K (PV.bool true)) (∃ (q : Nat), ∃ (r : Nat), ∃ (w : List Pt), ∃ (m : Int), ∃ (p : Int), SlIs [PV.ptr 2 0, PV.int IntKind.u32 (Pa.a z_1)] [PV.ptr q 0, PV.int IntKind.u32 p] ∧ BkIs [Ob.cells [PV.int IntKind.u8 (Pa.d z_1), PV.int IntKind.u32 (Pa.a z_1), PV.int IntKind.u32 (Pa.b z_1)], Ob.abs (rkP (rowsP (Prod.fst (joinS w_5 t p_1))) m_3), Ob.cells [PV.ptr 1 0]] q r (rkP (rowsP w) m) ∧ PO w m ∧ br ((ofP w p == Pa.b z_1) == true) (∃ (w : List Pt), ∃ (m : Int), ∃ (t_1 : Int), ∃ (p : Int), SlIs [PV.int IntKind.u32 (Pa.b z_1), PV.int IntKind.u32 (Pa.a z_1)] [PV.int IntKind.u32 t_1, PV.int IntKind.u32 p] ∧ AbIs [Ob.cells [PV.int IntKind.u8 (Pa.d z_1), PV.int IntKind.u32 (Pa.a z_1), PV.int IntKind.u32 (Pa.b z_1)], Ob.abs (rkP (rowsP (Prod.fst (joinS w_5 t p_1))) m_3), Ob.cells [PV.ptr 1 0]] 1 (rkP (rowsP w) m) ∧ PO w m ∧ br ((Prod.snd (joinS w t_1 p) == 12) == true) (SlIs [] [] ∧ K (PV.bool true)) (K (PV.bool false))) (K (PV.bool false)))))) (br (Prod.snd (leadS w_2 a p) == 0) (∃ (q : Nat), ∃ (r : Nat), ∃ (w : List Pt), ∃ (m_1 : Int), ∃ (p_1 : Int), SlIs [PV.ptr 2 0, PV.int IntKind.u32 (Pa.a z_1)] [PV.ptr q 0, PV.int IntKind.u32 p_1] ∧ BkIs [Ob.cells [PV.int IntKind.u8 (Pa.d z_1), PV.int IntKind.u32 (Pa.a z_1), PV.int IntKind.u32 (Pa.b z_1)], Ob.abs (rkP (rowsP (Prod.fst (leadS w_2 a p))) m), Ob.cells [PV.ptr 1 0]] q r (rkP (rowsP w) m_1) ∧ PO w m_1 ∧ ∃ (q : Nat), ∃ (r : Nat), ∃ (w_3 : List Pt), ∃ (m_2 : Int), ∃ (t : Int), SlIs [PV.ptr 2 0, PV.int IntKind.u32 (ofP w p_1)] [PV.ptr q 0, PV.int IntKind.u32 t] ∧ BkIs [Ob.cells [PV.int IntKind.u8 (Pa.d z_1), PV.int IntKind.u32 (Pa.a z_1), PV.int IntKind.u32 (Pa.b z_1)], Ob.abs (rkP (rowsP (Prod.fst (leadS w_2 a p))) m), Ob.cells [PV.ptr 1 0]] q r (rkP (rowsP w_3) m_2) ∧ PO w_3 m_2 ∧ br ((Pt.ld (getG Pt.id w_3 t) == Pa.b z_1) == true) (∃ (w : List Pt), ∃ (m_3 : Int), ∃ (a_1 : Int), ∃ (p_2 : Int), SlIs [PV.int IntKind.u32 (Pa.a z_1), PV.int IntKind.u32 (Pa.b z_1)] [PV.int IntKind.u32 a_1, PV.int IntKind.u32 p_2] ∧ AbIs [Ob.cells [PV.int IntKind.u8 (Pa.d z_1), PV.int IntKind.u32 (Pa.a z_1), PV.int IntKind.u32 (Pa.b z_1)], Ob.abs (rkP (rowsP (Prod.fst (leadS w_2 a p))) m), Ob.cells [PV.ptr 1 0], Ob.cells [PV.int IntKind.u32 (Pt.id (getG Pt.id w_3 t)), PV.int IntKind.u32 (Pt.ld (getG Pt.id w_3 t)), PV.list (en1 IntKind.u32 (Pt.ms (getG Pt.id w_3 t))) Tail.no, PV.list (en1 IntKind.u32 (Pt.iv (getG Pt.id w_3 t))) Tail.no]] 1 (rkP (rowsP w) m_3) ∧ PO w m_3 ∧ br ((Prod.snd (leadS w a_1 p_2) == 18) == true) (SlIs [] [] ∧ K (PV.bool true)) (K (PV.bool false))) (K (PV.bool false))) (∃ (w_3 : List Pt), ∃ (m_1 : Int), ∃ (t : Int), ∃ (p_1 : Int), SlIs [PV.int IntKind.u32 (Pa.b z_1), PV.int IntKind.u32 (Pa.a z_1)] [PV.int IntKind.u32 t, PV.int IntKind.u32 p_1] ∧ AbIs [Ob.cells [PV.int IntKind.u8 (Pa.d z_1), PV.int IntKind.u32 (Pa.a z_1), PV.int IntKind.u32 (Pa.b z_1)], Ob.abs (rkP (rowsP (Prod.fst (leadS w_2 a p))) m), Ob.cells [PV.ptr 1 0]] 1 (rkP (rowsP w_3) m_1) ∧ PO w_3 m_1 ∧ br (Prod.snd (joinS w_3 t p_1) != 0) (∃ (q : Nat), ∃ (r : Nat), ∃ (w_4 : List Pt), ∃ (m : Int), ∃ (tl : Tail), SlIs [PV.ptr 2 0, PV.list (List.map ptc w) Tail.no] [PV.ptr q 0, PV.list (List.map ptc w_4) tl] ∧ BkIs [Ob.cells [PV.int IntKind.u8 (Pa.d z_1), PV.int IntKind.u32 (Pa.a z_1), PV.int IntKind.u32 (Pa.b z_1)], Ob.abs (rkP (rowsP (Prod.fst (joinS w_3 t p_1))) m_1), Ob.cells [PV.ptr 1 0]] q r (rkP (rowsP w_4) m) ∧ PO w_4 m ∧ SlIs [] [] ∧ K (PV.bool true)) (∃ (q : Nat), ∃ (r : Nat), ∃ (w : List Pt), ∃ (m : Int), ∃ (p : Int), SlIs [PV.ptr 2 0, PV.int IntKind.u32 (Pa.a z_1)] [PV.ptr q 0, PV.int IntKind.u32 p] ∧ BkIs [Ob.cells [PV.int IntKind.u8 (Pa.d z_1), PV.int IntKind.u32 (Pa.a z_1), PV.int IntKind.u32 (Pa.b z_1)], Ob.abs (rkP (rowsP (Prod.fst (joinS w_3 t p_1))) m_1), Ob.cells [PV.ptr 1 0]] q r (rkP (rowsP w) m) ∧ PO w m ∧ br ((ofP w p == Pa.b z_1) == true) (∃ (w : List Pt), ∃ (m : Int), ∃ (t_1 : Int), ∃ (p : Int), SlIs [PV.int IntKind.u32 (Pa.b z_1), PV.int IntKind.u32 (Pa.a z_1)] [PV.int IntKind.u32 t_1, PV.int IntKind.u32 p] ∧ AbIs [Ob.cells [PV.int IntKind.u8 (Pa.d z_1), PV.int IntKind.u32 (Pa.a z_1), PV.int IntKind.u32 (Pa.b z_1)], Ob.abs (rkP (rowsP (Prod.fst (joinS w_3 t p_1))) m_1), Ob.cells [PV.ptr 1 0]] 1 (rkP (rowsP w) m) ∧ PO w m ∧ br ((Prod.snd (joinS w t_1 p) == 12) == true) (SlIs [] [] ∧ K (PV.bool true)) (K (PV.bool false))) (K (PV.bool false))))))) : ACalls Try.prog gl 10 [.list (acs.map Pa.cs) .no, .agg z.cs] [] (fun x _ => K x) :=
  acalls_of_wpc2 (T := TPZ) (L := [([1, 1, 1, 1, 0, 1, 0], pfs_l)]) (fun o => match o.dst with | some 101 => 5 | some 111 => 7 | _ => 0) Try.func10 (by kernel_rfl) (by kernel_rfl) (by kernel_rfl) (TPZ_ok) (.cons (sub_of (by kernel_rfl)) pfs_l_ok (.nil _ _ _ _ _)) (holds_of_eq (pfs1_red acs z K) h)
theorem lead_ne {w : List Pt} {a p : Int} (h : (leadS w a p).2 ≠ 0) : (leadS w a p).1 = w := by
  unfold leadS at h ⊢
  split
  · rename_i c0
    rw [if_pos c0] at h
    split
    · rename_i c1
      rw [if_pos c1] at h
      exact absurd rfl h
    · rfl
  · rfl
theorem join_ne {w : List Pt} {t p : Int} (h : (joinS w t p).2 ≠ 0) : (joinS w t p).1 = w := by
  unfold joinS at h ⊢
  split
  · rename_i c0
    rw [if_pos c0] at h
    split
    · rename_i c1
      rw [if_pos c1] at h
      exact absurd rfl h
    · rfl
  · rfl
theorem keep_in {w : List Pt} {c : Pt} (h1 : 1 ≤ c.ms.length) (h2 : 2 ≤ c.ms.length + c.iv.length) (hl : c.ld ∈ c.ms) : c ∈ (keepS w c).1 := by
  have o : ovP c = false := decide_eq_false (by omega)
  have hf : fixP c = c := by unfold fixP; rw [if_pos (memB_iff.2 hl)]
  unfold keepS
  rw [if_neg (by rw [o]; decide), hf]
  exact mem_putG.2 (.inl rfl)
theorem of_in {w : List Pt} {m : Int} (ro : PO w m) {a : Int} (h : hP w (ofP w a) = true) : a ∈ (gP w (ofP w a)).ms := by
  by_cases c : w.findIdx (fun c => memB c.ms a) < w.length
  · have hm : memB (w.getD (w.findIdx (fun c => memB c.ms a)) default).ms a = true := by
      rw [getD_eq' c]; exact List.findIdx_getElem (p := fun c : Pt => memB c.ms a) (xs := w) (w := c)
    have e := of_mem ro (getD_mem c) (memB_iff.1 hm)
    rw [e, show gP w _ = _ from getG_of ro.rise (getD_mem c)]
    exact memB_iff.1 hm
  · have e : ofP w a = 0 := by unfold ofP; rw [if_neg c]
    rw [e, show hP w 0 = false from no_zero ro] at h
    cases h
theorem lead_eq {w : List Pt} {m a p : Int} (ro : PO w m) (h : (leadS w a p).2 = 0) : (gP (leadS w a p).1 (ofP (leadS w a p).1 a)).ld = p ∧ (leadS (leadS w a p).1 a p).2 = 18 := by
  have ro2 := ro.lead a p
  by_cases c0 : ledE w a p = 0
  · have c1 := led_has c0
    have k := ro.into c1
    have hap : a ≠ p := fun e => by
      unfold ledE at c0
      rw [if_pos c1] at c0
      by_cases q : (gP w (ofP w a)).ld = a
      · rw [if_pos q, if_pos e] at c0; exact absurd c0 (by decide)
      · rw [if_neg q] at c0; exact absurd c0 (by decide)
    by_cases c2 : memB (gP w (ofP w a)).ms p = true
    · have hl : leadS w a p = ((keepS w (leadC (gP w (ofP w a)) p)).1, 0) := by unfold leadS; rw [if_pos c0, if_pos c2]
      rw [hl] at ro2 ⊢
      obtain ⟨w2, hw2⟩ : ∃ w2, w2 = (keepS w (leadC (gP w (ofP w a)) p)).1 := ⟨_, rfl⟩
      have hin : leadC (gP w (ofP w a)) p ∈ w2 := by rw [hw2]; exact keep_in k.ok.n1 k.ok.n2 (memB_iff.1 c2)
      simp only [← hw2] at ro2 ⊢
      have ho : ofP w2 a = (gP w (ofP w a)).id := of_mem (b := leadC (gP w (ofP w a)) p) ro2 hin (of_in ro c1)
      have hg : gP w2 (gP w (ofP w a)).id = leadC (gP w (ofP w a)) p := getG_of ro2.rise hin
      have hh : hP w2 (gP w (ofP w a)).id = true := hasG_iff.2 ⟨_, hin, rfl⟩
      have e1 : (gP w2 (ofP w2 a)).ld = p := by rw [ho, hg]; rfl
      refine ⟨e1, ?_⟩
      have hE : ledE w2 a p = 18 := by
        unfold ledE
        rw [ho, if_pos hh, if_neg (by rw [hg]; exact fun e => hap e.symm)]
      unfold leadS
      rw [hE, if_neg (by decide)]
    · have hl : leadS w a p = (w, 13) := by unfold leadS; rw [if_pos c0, if_neg c2]
      rw [hl] at h
      exact absurd (show (13 : Int) = 0 from h) (by decide)
  · have hl : leadS w a p = (w, ledE w a p) := by unfold leadS; rw [if_neg c0]
    rw [hl] at h
    exact absurd h c0
theorem join_eq {w : List Pt} {m t p : Int} (ro : PO w m) (h : (joinS w t p).2 = 0) : ofP (joinS w t p).1 p = t ∧ (joinS (joinS w t p).1 t p).2 = 12 := by
  have ro2 := ro.join t p
  by_cases c : hP w t = true ∧ memB (gP w t).iv p = true
  · have k := ro.into c.1
    by_cases c3 : ofP w p = 0
    · have hl : joinS w t p = ((keepS w (joinC (gP w t) p)).1, 0) := by unfold joinS; rw [if_pos c, if_pos c3]
      rw [hl] at ro2 ⊢
      obtain ⟨w2, hw2⟩ : ∃ w2, w2 = (keepS w (joinC (gP w t) p)).1 := ⟨_, rfl⟩
      have h1 := k.ok.n1
      have hid : (gP w t).id = t := (getG_mem c.1).2
      have hin : joinC (gP w t) p ∈ w2 := by
        rw [hw2]
        refine keep_in ?_ ?_ (List.mem_append.2 (.inl k.ok.ld))
        · show 1 ≤ ((gP w t).ms ++ [p]).length; rw [List.length_append]; omega
        · show 2 ≤ ((gP w t).ms ++ [p]).length + (woS (gP w t).iv p).length; rw [List.length_append, List.length_singleton]; omega
      simp only [← hw2] at ro2 ⊢
      have ho : ofP w2 p = t := by rw [of_mem ro2 hin (List.mem_append.2 (.inr (List.mem_singleton.2 rfl)))]; exact hid
      have hg : gP w2 t = joinC (gP w t) p := by
        have := getG_of ro2.rise hin
        rwa [show (joinC (gP w t) p).id = t from hid] at this
      refine ⟨ho, ?_⟩
      unfold joinS
      rw [if_neg]
      rintro ⟨_, q⟩
      rw [hg] at q
      exact (mem_woS.1 (memB_iff.1 q)).2 rfl
    · have hl : joinS w t p = (w, 19) := by unfold joinS; rw [if_pos c, if_neg c3]
      rw [hl] at h
      exact absurd (show (19 : Int) = 0 from h) (by decide)
  · have hl : joinS w t p = (w, 12) := by unfold joinS; rw [if_neg c]
    rw [hl] at h
    exact absurd (show (12 : Int) = 0 from h) (by decide)
theorem bne0 {a : Int} : ((a != 0) = true) = (a ≠ 0) := propext bne_iff_ne
theorem bne0t {a : Int} : (((a != 0) == true) = true) = (a ≠ 0) := by
  rw [show ((a != 0) == true) = (a != 0) from by cases (a != 0) <;> rfl]; exact bne0
theorem pfs_law (acs : List Pa) (z : Pa) (hok : ∀ a ∈ acs, a.ok) : ACalls Try.prog gl 10 [.list (acs.map Pa.cs) .no, .agg z.cs] [] (fun x _ => x = .bool true) := by
  refine pfs1_vc acs z _ ?_
  simp only [br_if, dt, List.length_map, bne0, bne0t, ieq, ieqt]
  by_cases c : acs.length ≤ 60
  · rw [if_neg (by omega)]
    refine ⟨2, rfl, acs, z, c, hok, rfl, rfl, fun w ro => ⟨2, 1, w, 2, rfl, ⟨rfl, rfl⟩, ro, w, 2, z.a, z.b, rfl, rfl, ro, ?_⟩⟩
    by_cases e0 : (leadS w z.a z.b).2 = 0
    · obtain ⟨k1, k2⟩ := lead_eq ro e0
      have ro2 := ro.lead z.a z.b
      rw [if_neg (by simpa using e0), if_pos e0]
      refine ⟨2, 1, (leadS w z.a z.b).1, 2, z.a, rfl, ⟨rfl, rfl⟩, ro2, 2, 1, (leadS w z.a z.b).1, 2, ofP (leadS w z.a z.b).1 z.a, rfl, ⟨rfl, rfl⟩, ro2, ?_⟩
      rw [if_pos k1]
      refine ⟨(leadS w z.a z.b).1, 2, z.a, z.b, rfl, rfl, ro2, ?_⟩
      rw [if_pos k2]
      exact ⟨rfl, trivial⟩
    · have hne := lead_ne e0
      have ro2 := ro.lead z.a z.b
      rw [if_pos e0]
      simp only [hne]
      refine ⟨2, 1, w, 2, .no, rfl, ⟨rfl, rfl⟩, ro, 2, 1, w, 2, rfl, ⟨rfl, rfl⟩, ro, w.map Pt.id, w.map Pt.id, .no, .no, rfl, by rw [List.length_map]; exact ro.len, ?_⟩
      rw [if_neg (by simp), if_neg e0]
      refine ⟨w, 2, z.b, z.a, rfl, rfl, ro, ?_⟩
      by_cases f0 : (joinS w z.b z.a).2 = 0
      · obtain ⟨k1, k2⟩ := join_eq ro f0
        have ro3 := ro.join z.b z.a
        rw [if_neg (by simpa using f0)]
        refine ⟨2, 1, (joinS w z.b z.a).1, 2, z.a, rfl, ⟨rfl, rfl⟩, ro3, ?_⟩
        rw [if_pos k1]
        refine ⟨(joinS w z.b z.a).1, 2, z.b, z.a, rfl, rfl, ro3, ?_⟩
        rw [if_pos k2]
        exact ⟨rfl, trivial⟩
      · have hne2 := join_ne f0
        rw [if_pos f0]
        simp only [hne2]
        exact ⟨2, 1, w, 2, .no, rfl, ⟨rfl, rfl⟩, ro, rfl, trivial⟩
  · rw [if_pos (by omega)]; trivial
#print axioms pfs_law
set_option maxRecDepth 10000
theorem pfs_args (xs : List PV) (h : WTargs Try.prog 6 Try.f10.params.toList xs) : ACalls Try.prog gl 10 xs [] (fun x _ => x = .bool true) := by
  rw [Try.params10] at h
  obtain ⟨x, r, rfl, h1, y, r2, rfl, h2, h3⟩ := h
  obtain rfl := wtargs_nil h3
  obtain ⟨es, rfl, _, g⟩ := wta_list u58 h1
  obtain ⟨l, rfl, hl⟩ := list_of (f := Pa.cs) fun r hr => pa_of (g r hr)
  obtain ⟨cs, rfl, g2⟩ := wta_struct Try.underlying63 h2
  have g2 : WFs (WTp Try.prog 5) [5, 24, 24] cs := g2
  obtain ⟨z, rfl, _⟩ := paf_of g2
  exact pfs_law l z hl
end Go.Proofs.Ythabdpaipgclpaa
