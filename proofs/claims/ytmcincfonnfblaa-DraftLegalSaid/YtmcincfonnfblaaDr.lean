/-
  The laws DraftTeams, DraftFinds and DraftFits answer true at whatever arguments.
-/
import Derived.Test.YtmcincfonnfblaaDq
import Derived.Test.YtmcincfonnfblaaProg
namespace Go.Proofs.Ytmcincfonnfblaa
open Go Go.AM Go.Proofs
theorem awakeF_red  (K : PV → Prop) : (∃ (m : Mo), ∃ (n : Int), ∃ (l : List Ti), ∃ (u : Tail), SlIs [PV.agg [PV.int IntKind.i64 1, PV.int IntKind.i64 100, PV.int IntKind.i64 0, PV.int IntKind.i64 100, PV.int IntKind.i64 1], PV.int IntKind.i64 0, PV.list [[PV.int IntKind.u32 0, PV.int IntKind.i64 0, PV.list [[PV.int IntKind.u32 1]] Tail.exact, PV.int IntKind.i64 1500, PV.int IntKind.i64 0], [PV.int IntKind.u32 0, PV.int IntKind.i64 0, PV.list [[PV.int IntKind.u32 1]] Tail.exact, PV.int IntKind.i64 1700, PV.int IntKind.i64 0], [PV.int IntKind.u32 0, PV.int IntKind.i64 0, PV.list [[PV.int IntKind.u32 1]] Tail.exact, PV.int IntKind.i64 1550, PV.int IntKind.i64 0]] Tail.exact] [PV.agg [PV.int IntKind.i64 (Mo.K m), PV.int IntKind.i64 (Mo.Base m), PV.int IntKind.i64 (Mo.Step m), PV.int IntKind.i64 (Mo.Cap m), PV.int IntKind.i64 (Mo.Every m)], PV.int IntKind.i64 n, PV.list (List.map Ti.cs l) u] ∧ in64 n ∧ LsOk l ∧ br (Option.isSome (findS m n l) == true) (∃ (x : List Int), ∃ (y : List Int), ∃ (u : Tail), ∃ (v : Tail), SlIs [PV.list (List.map pcs (tmA (findS m n l))) Tail.no, PV.list [[PV.int IntKind.i64 0]] Tail.exact] [PV.list (en1 IntKind.i64 x) u, PV.list (en1 IntKind.i64 y) v] ∧ List.length x ≤ 1000 ∧ br (decide (x = y) == true) (∃ (x : List Int), ∃ (y : List Int), ∃ (u : Tail), ∃ (v : Tail), SlIs [PV.list (List.map pcs (tmB (findS m n l))) Tail.no, PV.list [[PV.int IntKind.i64 2]] Tail.exact] [PV.list (en1 IntKind.i64 x) u, PV.list (en1 IntKind.i64 y) v] ∧ List.length x ≤ 1000 ∧ K (PV.bool (decide (x = y)))) (K (PV.bool false))) (K (PV.bool false))) = wpc br Try.prog gl TD [] (fun _ => 0) (bodyOf Try.f15) [] (env0 []) [] (resQ Try.prog Try.f15.results.toList (fun x _ => K x)) := by kernel_rfl
theorem awakeF_vc   (K : PV → Prop) (h : ∃ (m : Mo), ∃ (n : Int), ∃ (l : List Ti), ∃ (u : Tail), SlIs [PV.agg [PV.int IntKind.i64 1, PV.int IntKind.i64 100, PV.int IntKind.i64 0, PV.int IntKind.i64 100, PV.int IntKind.i64 1], PV.int IntKind.i64 0, PV.list [[PV.int IntKind.u32 0, PV.int IntKind.i64 0, PV.list [[PV.int IntKind.u32 1]] Tail.exact, PV.int IntKind.i64 1500, PV.int IntKind.i64 0], [PV.int IntKind.u32 0, PV.int IntKind.i64 0, PV.list [[PV.int IntKind.u32 1]] Tail.exact, PV.int IntKind.i64 1700, PV.int IntKind.i64 0], [PV.int IntKind.u32 0, PV.int IntKind.i64 0, PV.list [[PV.int IntKind.u32 1]] Tail.exact, PV.int IntKind.i64 1550, PV.int IntKind.i64 0]] Tail.exact] [PV.agg [PV.int IntKind.i64 (Mo.K m), PV.int IntKind.i64 (Mo.Base m), PV.int IntKind.i64 (Mo.Step m), PV.int IntKind.i64 (Mo.Cap m), PV.int IntKind.i64 (Mo.Every m)], PV.int IntKind.i64 n, PV.list (List.map Ti.cs l) u] ∧ in64 n ∧ LsOk l ∧ br (Option.isSome (findS m n l) == true) (∃ (x : List Int), ∃ (y : List Int), ∃ (u : Tail), ∃ (v : Tail), SlIs [PV.list (List.map pcs (tmA (findS m n l))) Tail.no, PV.list [[PV.int IntKind.i64 0]] Tail.exact] [PV.list (en1 IntKind.i64 x) u, PV.list (en1 IntKind.i64 y) v] ∧ List.length x ≤ 1000 ∧ br (decide (x = y) == true) (∃ (x : List Int), ∃ (y : List Int), ∃ (u : Tail), ∃ (v : Tail), SlIs [PV.list (List.map pcs (tmB (findS m n l))) Tail.no, PV.list [[PV.int IntKind.i64 2]] Tail.exact] [PV.list (en1 IntKind.i64 x) u, PV.list (en1 IntKind.i64 y) v] ∧ List.length x ≤ 1000 ∧ K (PV.bool (decide (x = y)))) (K (PV.bool false))) (K (PV.bool false))) : ACalls Try.prog gl 15 [] [] (fun x _ => K x) :=
  acalls_of_wpc2 (T := TD) (L := []) (fun _ => 0) Try.func15 (by kernel_rfl) (by kernel_rfl) (by kernel_rfl) (TD_ok) (LOk.nil _ _ _ _ _) (holds_of_eq (awakeF_red K) h)
def true_s (args : List PV) (K : PV → Prop) : Prop := match args with
  | [] => K (.bool true)
  | _ => False
def awL : List Ti := [⟨0, 0, [1], .exact, 1500, 0⟩, ⟨0, 0, [1], .exact, 1700, 0⟩, ⟨0, 0, [1], .exact, 1550, 0⟩]
theorem aw_find : findS ⟨1, 100, 0, 100, 1⟩ 0 awL = some ([0], [2]) := by decide
theorem pl_en1 (l : List Nat) : l.map pcs = en1 .i64 (l.map fun k : Nat => (k : Int)) := by
  induction l with
  | nil => rfl
  | cons a l ih => rw [List.map_cons, List.map_cons, ih]; rfl
theorem ls_aw : LsOk awL := ⟨by decide, fun x hx => by
  simp only [awL, List.mem_cons, List.not_mem_nil, or_false] at hx
  rcases hx with rfl | rfl | rfl <;> exact ⟨NT.exact, by decide, by unfold in64; decide⟩⟩
theorem awake_ok : SpOk Try.prog gl 15 (.pure true_s) := by
  intro args K h
  unfold true_s at h
  split at h
  · refine spure gl_low (by simp) (.bool true) (awakeF_vc (fun x => x = .bool true) ?_) h
    refine ⟨⟨1, 100, 0, 100, 1⟩, 0, awL, .exact, rfl, by unfold in64; omega, ls_aw, ?_⟩
    rw [aw_find]
    simp only [br_if, bt, dt]
    rw [if_pos (by rfl)]
    refine ⟨[0], [0], .no, .exact, rfl, by decide, ?_⟩
    rw [if_pos rfl]
    exact ⟨[2], [2], .no, .exact, rfl, by decide, by rw [decide_eq_true rfl]⟩
  · exact h.elim
def TV : Tab := (15, .pure true_s) :: TD
theorem TV_ok : TabOk Try.prog gl TV := .cons awake_ok TD_ok
theorem dfl_red (m : Mo) (n : Int) (l : List Ti) (i : Nat) (R : Ex → List PV → Heap → Prop) : (br (decide ((↑i : Int) < (↑(List.length (List.map Ti.cs l)) : Int))) (InL (List.map Ti.cs l) 5 (↑i : Int) ∧ br (true && fitX [CK.int IntKind.i64] 0 (List.drop 4 (List.getD (List.map Ti.cs l) (Int.toNat (↑i : Int)) []))) (in64 n ∧ in64 (cI (List.drop 4 (List.getD (List.map Ti.cs l) (Int.toNat (↑i : Int)) [])) 0) ∧ InL (List.map Ti.cs l) 5 (↑i : Int) ∧ br (true && fitX [CK.int IntKind.i64] 0 (List.drop 4 (List.getD (List.map Ti.cs l) (Int.toNat (↑i : Int)) []))) (in64 n ∧ in64 (cI (List.drop 4 (List.getD (List.map Ti.cs l) (Int.toNat (↑i : Int)) [])) 0) ∧ br (waitS n (cI (List.drop 4 (List.getD (List.map Ti.cs l) (Int.toNat (↑i : Int)) [])) 0) != waitS n (cI (List.drop 4 (List.getD (List.map Ti.cs l) (Int.toNat (↑i : Int)) [])) 0)) (R Ex.ret [PV.int IntKind.i64 n, PV.list (List.map Ti.cs l) Tail.no, PV.ptr 0 0, PV.bool false, PV.int IntKind.i64 (↑i : Int)] [Ob.cells [PV.int IntKind.i64 (Mo.K m), PV.int IntKind.i64 (Mo.Base m), PV.int IntKind.i64 (Mo.Step m), PV.int IntKind.i64 (Mo.Cap m), PV.int IntKind.i64 (Mo.Every m)]]) (R Ex.normal [PV.int IntKind.i64 n, PV.list (List.map Ti.cs l) Tail.no, PV.ptr 0 0, PV.bool false, PV.int IntKind.i64 (wI ((↑i : Int) + 1))] [Ob.cells [PV.int IntKind.i64 (Mo.K m), PV.int IntKind.i64 (Mo.Base m), PV.int IntKind.i64 (Mo.Step m), PV.int IntKind.i64 (Mo.Cap m), PV.int IntKind.i64 (Mo.Every m)]])) False) False) (R (Ex.exit 0) [PV.int IntKind.i64 n, PV.list (List.map Ti.cs l) Tail.no, PV.ptr 0 0, PV.bool false, PV.int IntKind.i64 (↑i : Int)] [Ob.cells [PV.int IntKind.i64 (Mo.K m), PV.int IntKind.i64 (Mo.Base m), PV.int IntKind.i64 (Mo.Step m), PV.int IntKind.i64 (Mo.Cap m), PV.int IntKind.i64 (Mo.Every m)]])) = wpc br Try.prog gl TV [] (fun _ => 0) (subOf [1, 1, 0, 1, 0] (bodyOf Try.f6)) [] (envS [1, 2, 3, 6, 7] [.int .i64 n, .list (l.map Ti.cs) .no, .ptr 0 0, .bool false, .int .i64 i]) [.cells m.cs] (fun ex e H => R ex (List.map e [1, 2, 3, 6, 7]) H) := by kernel_rfl
theorem dfl_vc (m : Mo) (n : Int) (l : List Ti) (i : Nat) (R : Ex → List PV → Heap → Prop) (h : br (decide ((↑i : Int) < (↑(List.length (List.map Ti.cs l)) : Int))) (InL (List.map Ti.cs l) 5 (↑i : Int) ∧ br (true && fitX [CK.int IntKind.i64] 0 (List.drop 4 (List.getD (List.map Ti.cs l) (Int.toNat (↑i : Int)) []))) (in64 n ∧ in64 (cI (List.drop 4 (List.getD (List.map Ti.cs l) (Int.toNat (↑i : Int)) [])) 0) ∧ InL (List.map Ti.cs l) 5 (↑i : Int) ∧ br (true && fitX [CK.int IntKind.i64] 0 (List.drop 4 (List.getD (List.map Ti.cs l) (Int.toNat (↑i : Int)) []))) (in64 n ∧ in64 (cI (List.drop 4 (List.getD (List.map Ti.cs l) (Int.toNat (↑i : Int)) [])) 0) ∧ br (waitS n (cI (List.drop 4 (List.getD (List.map Ti.cs l) (Int.toNat (↑i : Int)) [])) 0) != waitS n (cI (List.drop 4 (List.getD (List.map Ti.cs l) (Int.toNat (↑i : Int)) [])) 0)) (R Ex.ret [PV.int IntKind.i64 n, PV.list (List.map Ti.cs l) Tail.no, PV.ptr 0 0, PV.bool false, PV.int IntKind.i64 (↑i : Int)] [Ob.cells [PV.int IntKind.i64 (Mo.K m), PV.int IntKind.i64 (Mo.Base m), PV.int IntKind.i64 (Mo.Step m), PV.int IntKind.i64 (Mo.Cap m), PV.int IntKind.i64 (Mo.Every m)]]) (R Ex.normal [PV.int IntKind.i64 n, PV.list (List.map Ti.cs l) Tail.no, PV.ptr 0 0, PV.bool false, PV.int IntKind.i64 (wI ((↑i : Int) + 1))] [Ob.cells [PV.int IntKind.i64 (Mo.K m), PV.int IntKind.i64 (Mo.Base m), PV.int IntKind.i64 (Mo.Step m), PV.int IntKind.i64 (Mo.Cap m), PV.int IntKind.i64 (Mo.Every m)]])) False) False) (R (Ex.exit 0) [PV.int IntKind.i64 n, PV.list (List.map Ti.cs l) Tail.no, PV.ptr 0 0, PV.bool false, PV.int IntKind.i64 (↑i : Int)] [Ob.cells [PV.int IntKind.i64 (Mo.K m), PV.int IntKind.i64 (Mo.Base m), PV.int IntKind.i64 (Mo.Step m), PV.int IntKind.i64 (Mo.Cap m), PV.int IntKind.i64 (Mo.Every m)]])) : Holds (wpc br Try.prog gl TV [] (fun _ => 0) (subOf [1, 1, 0, 1, 0] (bodyOf Try.f6)) [] (envS [1, 2, 3, 6, 7] [.int .i64 n, .list (l.map Ti.cs) .no, .ptr 0 0, .bool false, .int .i64 i]) [.cells m.cs] (fun ex e H => R ex (List.map e [1, 2, 3, 6, 7]) H)) := holds_of_eq (dfl_red m n l i R) h
theorem lTeams_red (m : Mo) (l : List Ti) (K : PV → Prop) : (br (decide ((↑(List.length (List.map Ti.cs l)) : Int) > 20) == false) (∃ (l_1 : List Ti), ∃ (u : Tail), SlIs [PV.list (List.map Ti.cs l) Tail.no] [PV.list (List.map Ti.cs l_1) u] ∧ List.length l_1 ≤ 20 ∧ (∀ (t : Ti), t ∈ l_1 → NT (Ti.Pt t)) ∧ br (!smallS l_1) (K (PV.bool true)) (∃ (m_1 : Mo), SlIs [PV.agg [PV.int IntKind.i64 (Mo.K m), PV.int IntKind.i64 (Mo.Base m), PV.int IntKind.i64 (Mo.Step m), PV.int IntKind.i64 (Mo.Cap m), PV.int IntKind.i64 (Mo.Every m)]] [PV.agg [PV.int IntKind.i64 (Mo.K m_1), PV.int IntKind.i64 (Mo.Base m_1), PV.int IntKind.i64 (Mo.Step m_1), PV.int IntKind.i64 (Mo.Cap m_1), PV.int IntKind.i64 (Mo.Every m_1)]] ∧ ∃ (l_2 : List Ti), ∃ (u : Tail), SlIs [PV.list (List.map Ti.cs l) Tail.no] [PV.list (List.map Ti.cs l_2) u] ∧ PtNo l_2 ∧ ∃ (m_2 : Mo), ∃ (l_3 : List Ti), ∃ (u : Tail), SlIs [PV.agg [PV.int IntKind.i64 (Mo.K m_1), PV.int IntKind.i64 (Mo.Base m_1), PV.int IntKind.i64 (Mo.Step m_1), PV.int IntKind.i64 (Mo.Cap m_1), PV.int IntKind.i64 (Mo.Every m_1)], PV.list (List.map Ti.cs l_2) Tail.no] [PV.agg [PV.int IntKind.i64 (Mo.K m_2), PV.int IntKind.i64 (Mo.Base m_2), PV.int IntKind.i64 (Mo.Step m_2), PV.int IntKind.i64 (Mo.Cap m_2), PV.int IntKind.i64 (Mo.Every m_2)], PV.list (List.map Ti.cs l_3) u] ∧ LsOk l_3 ∧ ∃ (m_3 : Mo), ∃ (l_4 : List Ti), ∃ (u : Tail), SlIs [PV.agg [PV.int IntKind.i64 (Mo.K m), PV.int IntKind.i64 (Mo.Base m), PV.int IntKind.i64 (Mo.Step m), PV.int IntKind.i64 (Mo.Cap m), PV.int IntKind.i64 (Mo.Every m)], PV.list (List.map Ti.cs l) Tail.no] [PV.agg [PV.int IntKind.i64 (Mo.K m_3), PV.int IntKind.i64 (Mo.Base m_3), PV.int IntKind.i64 (Mo.Step m_3), PV.int IntKind.i64 (Mo.Cap m_3), PV.int IntKind.i64 (Mo.Every m_3)], PV.list (List.map Ti.cs l_4) u] ∧ LsOk l_4 ∧ br ((Option.isSome (teamsS m_2 l_3) == Option.isSome (teamsS m_3 l_4)) == true) (∃ (x : List Int), ∃ (y : List Int), ∃ (u : Tail), ∃ (v : Tail), SlIs [PV.list (List.map pcs (tmA (teamsS m_2 l_3))) Tail.no, PV.list (List.map pcs (tmA (teamsS m_3 l_4))) Tail.no] [PV.list (en1 IntKind.i64 x) u, PV.list (en1 IntKind.i64 y) v] ∧ List.length x ≤ 1000 ∧ br (decide (x = y) == true) (∃ (x : List Int), ∃ (y : List Int), ∃ (u : Tail), ∃ (v : Tail), SlIs [PV.list (List.map pcs (tmB (teamsS m_2 l_3))) Tail.no, PV.list (List.map pcs (tmB (teamsS m_3 l_4))) Tail.no] [PV.list (en1 IntKind.i64 x) u, PV.list (en1 IntKind.i64 y) v] ∧ List.length x ≤ 1000 ∧ br (decide (x = y) == true) (K (PV.bool true)) (K (PV.bool false))) (K (PV.bool false))) (K (PV.bool false)))) (K (PV.bool true))) = wpc br Try.prog gl TV [] (fun _ => 0) (bodyOf Try.f3) [] (env0 [m.pv, .list (l.map Ti.cs) .no]) [] (resQ Try.prog Try.f3.results.toList (fun x _ => K x)) := by kernel_rfl
theorem lTeams_vc (m : Mo) (l : List Ti)  (K : PV → Prop) (h : br (decide ((↑(List.length (List.map Ti.cs l)) : Int) > 20) == false) (∃ (l_1 : List Ti), ∃ (u : Tail), SlIs [PV.list (List.map Ti.cs l) Tail.no] [PV.list (List.map Ti.cs l_1) u] ∧ List.length l_1 ≤ 20 ∧ (∀ (t : Ti), t ∈ l_1 → NT (Ti.Pt t)) ∧ br (!smallS l_1) (K (PV.bool true)) (∃ (m_1 : Mo), SlIs [PV.agg [PV.int IntKind.i64 (Mo.K m), PV.int IntKind.i64 (Mo.Base m), PV.int IntKind.i64 (Mo.Step m), PV.int IntKind.i64 (Mo.Cap m), PV.int IntKind.i64 (Mo.Every m)]] [PV.agg [PV.int IntKind.i64 (Mo.K m_1), PV.int IntKind.i64 (Mo.Base m_1), PV.int IntKind.i64 (Mo.Step m_1), PV.int IntKind.i64 (Mo.Cap m_1), PV.int IntKind.i64 (Mo.Every m_1)]] ∧ ∃ (l_2 : List Ti), ∃ (u : Tail), SlIs [PV.list (List.map Ti.cs l) Tail.no] [PV.list (List.map Ti.cs l_2) u] ∧ PtNo l_2 ∧ ∃ (m_2 : Mo), ∃ (l_3 : List Ti), ∃ (u : Tail), SlIs [PV.agg [PV.int IntKind.i64 (Mo.K m_1), PV.int IntKind.i64 (Mo.Base m_1), PV.int IntKind.i64 (Mo.Step m_1), PV.int IntKind.i64 (Mo.Cap m_1), PV.int IntKind.i64 (Mo.Every m_1)], PV.list (List.map Ti.cs l_2) Tail.no] [PV.agg [PV.int IntKind.i64 (Mo.K m_2), PV.int IntKind.i64 (Mo.Base m_2), PV.int IntKind.i64 (Mo.Step m_2), PV.int IntKind.i64 (Mo.Cap m_2), PV.int IntKind.i64 (Mo.Every m_2)], PV.list (List.map Ti.cs l_3) u] ∧ LsOk l_3 ∧ ∃ (m_3 : Mo), ∃ (l_4 : List Ti), ∃ (u : Tail), SlIs [PV.agg [PV.int IntKind.i64 (Mo.K m), PV.int IntKind.i64 (Mo.Base m), PV.int IntKind.i64 (Mo.Step m), PV.int IntKind.i64 (Mo.Cap m), PV.int IntKind.i64 (Mo.Every m)], PV.list (List.map Ti.cs l) Tail.no] [PV.agg [PV.int IntKind.i64 (Mo.K m_3), PV.int IntKind.i64 (Mo.Base m_3), PV.int IntKind.i64 (Mo.Step m_3), PV.int IntKind.i64 (Mo.Cap m_3), PV.int IntKind.i64 (Mo.Every m_3)], PV.list (List.map Ti.cs l_4) u] ∧ LsOk l_4 ∧ br ((Option.isSome (teamsS m_2 l_3) == Option.isSome (teamsS m_3 l_4)) == true) (∃ (x : List Int), ∃ (y : List Int), ∃ (u : Tail), ∃ (v : Tail), SlIs [PV.list (List.map pcs (tmA (teamsS m_2 l_3))) Tail.no, PV.list (List.map pcs (tmA (teamsS m_3 l_4))) Tail.no] [PV.list (en1 IntKind.i64 x) u, PV.list (en1 IntKind.i64 y) v] ∧ List.length x ≤ 1000 ∧ br (decide (x = y) == true) (∃ (x : List Int), ∃ (y : List Int), ∃ (u : Tail), ∃ (v : Tail), SlIs [PV.list (List.map pcs (tmB (teamsS m_2 l_3))) Tail.no, PV.list (List.map pcs (tmB (teamsS m_3 l_4))) Tail.no] [PV.list (en1 IntKind.i64 x) u, PV.list (en1 IntKind.i64 y) v] ∧ List.length x ≤ 1000 ∧ br (decide (x = y) == true) (K (PV.bool true)) (K (PV.bool false))) (K (PV.bool false))) (K (PV.bool false)))) (K (PV.bool true))) : ACalls Try.prog gl 3 [m.pv, .list (l.map Ti.cs) .no] [] (fun x _ => K x) :=
  acalls_of_wpc2 (T := TV) (L := []) (fun _ => 0) Try.func3 (by kernel_rfl) (by kernel_rfl) (by kernel_rfl) (TV_ok) (LOk.nil _ _ _ _ _) (holds_of_eq (lTeams_red m l K) h)
theorem lFinds_red (m : Mo) (n : Int) (l : List Ti) (K : PV → Prop) : (br (decide ((↑(List.length (List.map Ti.cs l)) : Int) > 20) == false) (∃ (l_1 : List Ti), ∃ (u : Tail), SlIs [PV.list (List.map Ti.cs l) Tail.no] [PV.list (List.map Ti.cs l_1) u] ∧ List.length l_1 ≤ 20 ∧ (∀ (t : Ti), t ∈ l_1 → NT (Ti.Pt t)) ∧ br (!smallS l_1) (K (PV.bool true)) (∃ (m_1 : Mo), SlIs [PV.agg [PV.int IntKind.i64 (Mo.K m), PV.int IntKind.i64 (Mo.Base m), PV.int IntKind.i64 (Mo.Step m), PV.int IntKind.i64 (Mo.Cap m), PV.int IntKind.i64 (Mo.Every m)]] [PV.agg [PV.int IntKind.i64 (Mo.K m_1), PV.int IntKind.i64 (Mo.Base m_1), PV.int IntKind.i64 (Mo.Step m_1), PV.int IntKind.i64 (Mo.Cap m_1), PV.int IntKind.i64 (Mo.Every m_1)]] ∧ ∃ (l_2 : List Ti), ∃ (u : Tail), SlIs [PV.list (List.map Ti.cs l) Tail.no] [PV.list (List.map Ti.cs l_2) u] ∧ PtNo l_2 ∧ ∃ (m_2 : Mo), ∃ (n_1 : Int), ∃ (l_3 : List Ti), ∃ (u : Tail), SlIs [PV.agg [PV.int IntKind.i64 (Mo.K m_1), PV.int IntKind.i64 (Mo.Base m_1), PV.int IntKind.i64 (Mo.Step m_1), PV.int IntKind.i64 (Mo.Cap m_1), PV.int IntKind.i64 (Mo.Every m_1)], PV.int IntKind.i64 n, PV.list (List.map Ti.cs l_2) Tail.no] [PV.agg [PV.int IntKind.i64 (Mo.K m_2), PV.int IntKind.i64 (Mo.Base m_2), PV.int IntKind.i64 (Mo.Step m_2), PV.int IntKind.i64 (Mo.Cap m_2), PV.int IntKind.i64 (Mo.Every m_2)], PV.int IntKind.i64 n_1, PV.list (List.map Ti.cs l_3) u] ∧ in64 n_1 ∧ LsOk l_3 ∧ ∃ (m_3 : Mo), ∃ (n_2 : Int), ∃ (l_4 : List Ti), ∃ (u : Tail), SlIs [PV.agg [PV.int IntKind.i64 (Mo.K m), PV.int IntKind.i64 (Mo.Base m), PV.int IntKind.i64 (Mo.Step m), PV.int IntKind.i64 (Mo.Cap m), PV.int IntKind.i64 (Mo.Every m)], PV.int IntKind.i64 n, PV.list (List.map Ti.cs l) Tail.no] [PV.agg [PV.int IntKind.i64 (Mo.K m_3), PV.int IntKind.i64 (Mo.Base m_3), PV.int IntKind.i64 (Mo.Step m_3), PV.int IntKind.i64 (Mo.Cap m_3), PV.int IntKind.i64 (Mo.Every m_3)], PV.int IntKind.i64 n_2, PV.list (List.map Ti.cs l_4) u] ∧ in64 n_2 ∧ LsOk l_4 ∧ br ((Option.isSome (findS m_2 n_1 l_3) == Option.isSome (findS m_3 n_2 l_4)) == true) (∃ (x : List Int), ∃ (y : List Int), ∃ (u : Tail), ∃ (v : Tail), SlIs [PV.list (List.map pcs (tmA (findS m_2 n_1 l_3))) Tail.no, PV.list (List.map pcs (tmA (findS m_3 n_2 l_4))) Tail.no] [PV.list (en1 IntKind.i64 x) u, PV.list (en1 IntKind.i64 y) v] ∧ List.length x ≤ 1000 ∧ br (decide (x = y) == true) (∃ (x : List Int), ∃ (y : List Int), ∃ (u : Tail), ∃ (v : Tail), SlIs [PV.list (List.map pcs (tmB (findS m_2 n_1 l_3))) Tail.no, PV.list (List.map pcs (tmB (findS m_3 n_2 l_4))) Tail.no] [PV.list (en1 IntKind.i64 x) u, PV.list (en1 IntKind.i64 y) v] ∧ List.length x ≤ 1000 ∧ br (decide (x = y) == true) (K (PV.bool true)) (K (PV.bool false))) (K (PV.bool false))) (K (PV.bool false)))) (K (PV.bool true))) = wpc br Try.prog gl TV [] (fun _ => 0) (bodyOf Try.f4) [] (env0 [m.pv, .int .i64 n, .list (l.map Ti.cs) .no]) [] (resQ Try.prog Try.f4.results.toList (fun x _ => K x)) := by kernel_rfl
theorem lFinds_vc (m : Mo) (n : Int) (l : List Ti)  (K : PV → Prop) (h : br (decide ((↑(List.length (List.map Ti.cs l)) : Int) > 20) == false) (∃ (l_1 : List Ti), ∃ (u : Tail), SlIs [PV.list (List.map Ti.cs l) Tail.no] [PV.list (List.map Ti.cs l_1) u] ∧ List.length l_1 ≤ 20 ∧ (∀ (t : Ti), t ∈ l_1 → NT (Ti.Pt t)) ∧ br (!smallS l_1) (K (PV.bool true)) (∃ (m_1 : Mo), SlIs [PV.agg [PV.int IntKind.i64 (Mo.K m), PV.int IntKind.i64 (Mo.Base m), PV.int IntKind.i64 (Mo.Step m), PV.int IntKind.i64 (Mo.Cap m), PV.int IntKind.i64 (Mo.Every m)]] [PV.agg [PV.int IntKind.i64 (Mo.K m_1), PV.int IntKind.i64 (Mo.Base m_1), PV.int IntKind.i64 (Mo.Step m_1), PV.int IntKind.i64 (Mo.Cap m_1), PV.int IntKind.i64 (Mo.Every m_1)]] ∧ ∃ (l_2 : List Ti), ∃ (u : Tail), SlIs [PV.list (List.map Ti.cs l) Tail.no] [PV.list (List.map Ti.cs l_2) u] ∧ PtNo l_2 ∧ ∃ (m_2 : Mo), ∃ (n_1 : Int), ∃ (l_3 : List Ti), ∃ (u : Tail), SlIs [PV.agg [PV.int IntKind.i64 (Mo.K m_1), PV.int IntKind.i64 (Mo.Base m_1), PV.int IntKind.i64 (Mo.Step m_1), PV.int IntKind.i64 (Mo.Cap m_1), PV.int IntKind.i64 (Mo.Every m_1)], PV.int IntKind.i64 n, PV.list (List.map Ti.cs l_2) Tail.no] [PV.agg [PV.int IntKind.i64 (Mo.K m_2), PV.int IntKind.i64 (Mo.Base m_2), PV.int IntKind.i64 (Mo.Step m_2), PV.int IntKind.i64 (Mo.Cap m_2), PV.int IntKind.i64 (Mo.Every m_2)], PV.int IntKind.i64 n_1, PV.list (List.map Ti.cs l_3) u] ∧ in64 n_1 ∧ LsOk l_3 ∧ ∃ (m_3 : Mo), ∃ (n_2 : Int), ∃ (l_4 : List Ti), ∃ (u : Tail), SlIs [PV.agg [PV.int IntKind.i64 (Mo.K m), PV.int IntKind.i64 (Mo.Base m), PV.int IntKind.i64 (Mo.Step m), PV.int IntKind.i64 (Mo.Cap m), PV.int IntKind.i64 (Mo.Every m)], PV.int IntKind.i64 n, PV.list (List.map Ti.cs l) Tail.no] [PV.agg [PV.int IntKind.i64 (Mo.K m_3), PV.int IntKind.i64 (Mo.Base m_3), PV.int IntKind.i64 (Mo.Step m_3), PV.int IntKind.i64 (Mo.Cap m_3), PV.int IntKind.i64 (Mo.Every m_3)], PV.int IntKind.i64 n_2, PV.list (List.map Ti.cs l_4) u] ∧ in64 n_2 ∧ LsOk l_4 ∧ br ((Option.isSome (findS m_2 n_1 l_3) == Option.isSome (findS m_3 n_2 l_4)) == true) (∃ (x : List Int), ∃ (y : List Int), ∃ (u : Tail), ∃ (v : Tail), SlIs [PV.list (List.map pcs (tmA (findS m_2 n_1 l_3))) Tail.no, PV.list (List.map pcs (tmA (findS m_3 n_2 l_4))) Tail.no] [PV.list (en1 IntKind.i64 x) u, PV.list (en1 IntKind.i64 y) v] ∧ List.length x ≤ 1000 ∧ br (decide (x = y) == true) (∃ (x : List Int), ∃ (y : List Int), ∃ (u : Tail), ∃ (v : Tail), SlIs [PV.list (List.map pcs (tmB (findS m_2 n_1 l_3))) Tail.no, PV.list (List.map pcs (tmB (findS m_3 n_2 l_4))) Tail.no] [PV.list (en1 IntKind.i64 x) u, PV.list (en1 IntKind.i64 y) v] ∧ List.length x ≤ 1000 ∧ br (decide (x = y) == true) (K (PV.bool true)) (K (PV.bool false))) (K (PV.bool false))) (K (PV.bool false)))) (K (PV.bool true))) : ACalls Try.prog gl 4 [m.pv, .int .i64 n, .list (l.map Ti.cs) .no] [] (fun x _ => K x) :=
  acalls_of_wpc2 (T := TV) (L := []) (fun _ => 0) Try.func4 (by kernel_rfl) (by kernel_rfl) (by kernel_rfl) (TV_ok) (LOk.nil _ _ _ _ _) (holds_of_eq (lFinds_red m n l K) h)
def LnOk (l : List Ti) : Prop := ∀ t ∈ l, t.Pt = .no ∧ in64 t.Since
def df_l : LSp := fun e H Q => ∃ (m : Mo) (n : Int) (l : List Ti), in64 n ∧ LsOk l ∧ SlIs (List.map e [1, 2, 3, 6, 7]) [.int .i64 n, .list (l.map Ti.cs) .no, .ptr 0 0, .bool false, .int .i64 0] ∧ HpIs H [.cells m.cs] ∧
  Q (.exit 0) (envS [1, 2, 3, 6, 7] [.int .i64 n, .list (l.map Ti.cs) .no, .ptr 0 0, .bool false, .int .i64 l.length]) [.cells m.cs]
theorem df_l_ok : ∀ e H Q, df_l e H Q → AW Try.prog gl Try.f6.ntmps (.loop (subOf [1, 1, 0, 1, 0] (bodyOf Try.f6))) Q e H := by
  rintro e H Q ⟨m, n, l, hn, hl, he, hH, hQ⟩
  have hlen := hl.1
  refine aw_loop4 (hn := fun _ => 0) gl_low TV_ok (.nil _ _ _ _ _) (σ := Nat) [1, 2, 3, 6, 7] (fun i => i ≤ l.length)
    (fun i => [.int .i64 n, .list (l.map Ti.cs) .no, .ptr 0 0, .bool false, .int .i64 i]) (fun _ => [.cells m.cs]) (fun i => l.length - i) 0 (Nat.zero_le _) he hH ?_
  intro i h1
  refine dfl_vc m n l i _ ?_
  simp only [br_if, dt, List.length_map, toNat_nat, inL_ti]
  by_cases h : i < l.length
  · rw [if_pos (by omega)]
    simp only [getD_map Ti.zero h, ti_f, ti_d]
    have hm := hl.mem h
    refine ⟨h, ?_⟩
    rw [if_pos (by rfl : (true && true) = true)]
    refine ⟨hn, hm.2.2, h, ?_⟩
    rw [if_pos (by rfl : (true && true) = true)]
    refine ⟨hn, hm.2.2, ?_⟩
    rw [if_neg (by rw [bne_I]; exact fun k => k rfl)]
    exact ⟨i + 1, (show l.length - (i + 1) < l.length - i by omega), h, by rw [wI_succ h (by omega)], [], rfl, Nat.le_refl _, .inl rfl⟩
  · rw [if_neg (by omega)]
    have : i = l.length := by omega
    subst this
    exact hQ
theorem nt_of {l : List Ti} (h : LnOk l) : ∀ t ∈ l, NT t.Pt := fun t ht => by rw [(h t ht).1]; exact NT.no
theorem small_of {l : List Ti} (h : LnOk l) (hs : smallS l = true) (hl : l.length ≤ 20) : PtNo l ∧ LsOk l := by
  have h1 : ∀ t ∈ l, t.Ps.length ≤ 10 := fun t ht => by have := List.all_eq_true.1 hs t ht; simpa using this
  exact ⟨⟨fun t ht => ⟨(h t ht).1, h1 t ht⟩, hl⟩, ⟨by omega, fun t ht => ⟨nt_of h t ht, by have := h1 t ht; omega, (h t ht).2⟩⟩⟩
theorem low_l {n : Nat} {l : List Ti} (h : LnOk l) : Low n (.list (l.map Ti.cs) .no) := low_list NT.no (low_map fun a ha => low_ti (nt_of h a ha))
theorem teams_law (m : Mo) (l : List Ti) (h : LnOk l) {K : PV → Prop} (hk : K (.bool true)) : ACalls Try.prog gl 3 [m.pv, .list (l.map Ti.cs) .no] [] (fun x _ => K x) := by
  refine lTeams_vc m l K ?_
  simp only [br_if, bf, df, dt, bt, List.length_map]
  by_cases c : (l.length : Int) > 20
  · rw [if_neg (fun q => q c)]; exact hk
  rw [if_pos c]
  refine ⟨l, .no, rfl, by omega, nt_of h, ?_⟩
  by_cases hs : smallS l = true
  · rw [if_neg (by rw [hs]; decide)]
    obtain ⟨hp, hl⟩ := small_of h hs (by omega)
    have ht := tm_small m l
    refine ⟨m, rfl, l, .no, rfl, hp, m, l, .no, rfl, hl, m, l, .no, rfl, hl, ?_⟩
    rw [if_pos (by rw [beq_self_eq_true])]
    refine ⟨_, _, .no, .no, by rw [pl_en1]; rfl, by rw [List.length_map]; omega, ?_⟩
    rw [if_pos rfl]
    refine ⟨_, _, .no, .no, by rw [pl_en1]; rfl, by rw [List.length_map]; omega, ?_⟩
    rw [if_pos rfl]
    exact hk
  · rw [if_pos (by rw [Bool.eq_false_iff.2 hs]; rfl)]; exact hk
theorem find_eq {m : Mo} {n : Int} {l : List Ti} (ok : okM m) (h16 : l.length ≤ 16) : findS m n l = ((lexB l.length).find? (lgB ⟨m, n, l⟩)).bind fun bs => tmS ⟨m, n, l⟩ (plB true 0 bs) := by
  unfold findS
  rw [if_pos ⟨ok, h16⟩, walkS, walkN_eq (pn := pnL l) (tm := tmS ⟨m, n, l⟩) (K := m.K) (fun k => Int.natCast_nonneg _) (fun ps h => (tmS_sz h).2) l.length 0 [] 0 rfl List.Pairwise.nil]
  simp only [List.nil_append]
  rfl
/-- what is found -/
theorem find_what {m : Mo} {n : Int} {l : List Ti} {r : List Nat × List Nat} (h : findS m n l = some r) : okM m ∧ l.length ≤ 16 ∧ ∃ bs, (lexB l.length).find? (lgB ⟨m, n, l⟩) = some bs ∧ bs.length = l.length ∧ lgB ⟨m, n, l⟩ bs = true ∧
    ∃ r0, teamsS m (takenL l (plB true 0 bs)) = some r0 ∧ r = (overL (plB true 0 bs) r0.1, overL (plB true 0 bs) r0.2) := by
  by_cases c : okM m ∧ l.length ≤ 16
  · refine ⟨c.1, c.2, ?_⟩
    rw [find_eq c.1 c.2] at h
    cases hf : (lexB l.length).find? (lgB ⟨m, n, l⟩) with
    | none => rw [hf] at h; cases h
    | some bs =>
      rw [hf] at h
      refine ⟨bs, rfl, lexB_len.1 (List.mem_of_find?_eq_some hf), List.find?_some hf, ?_⟩
      have h : tmS ⟨m, n, l⟩ (plB true 0 bs) = some r := h
      unfold tmS at h
      cases ht : teamsS m (takenL l (plB true 0 bs)) with
      | none => rw [ht] at h; cases h
      | some r0 => rw [ht] at h; exact ⟨r0, rfl, (Option.some.inj h).symm⟩
  · rw [find_no c] at h; cases h
theorem find_small (m : Mo) (n : Int) (l : List Ti) : (tmA (findS m n l)).length ≤ 100 ∧ (tmB (findS m n l)).length ≤ 100 := by
  cases h : findS m n l with
  | none => exact ⟨Nat.zero_le _, Nat.zero_le _⟩
  | some r =>
    obtain ⟨_, _, bs, _, _, _, r0, h0, rfl⟩ := find_what h
    have ht := tm_small m (takenL l (plB true 0 bs))
    rw [h0] at ht
    exact ⟨by show (overL (plB true 0 bs) r0.1).length ≤ 100; unfold overL; rw [List.length_map]; exact ht.1.1, by show (overL (plB true 0 bs) r0.2).length ≤ 100; unfold overL; rw [List.length_map]; exact ht.2.1⟩
theorem finds_law (m : Mo) (n : Int) (l : List Ti) (hn : in64 n) (h : LnOk l) {K : PV → Prop} (hk : K (.bool true)) : ACalls Try.prog gl 4 [m.pv, .int .i64 n, .list (l.map Ti.cs) .no] [] (fun x _ => K x) := by
  refine lFinds_vc m n l K ?_
  simp only [br_if, bf, df, dt, bt, List.length_map]
  by_cases c : (l.length : Int) > 20
  · rw [if_neg (fun q => q c)]; exact hk
  rw [if_pos c]
  refine ⟨l, .no, rfl, by omega, nt_of h, ?_⟩
  by_cases hs : smallS l = true
  · rw [if_neg (by rw [hs]; decide)]
    obtain ⟨hp, hl⟩ := small_of h hs (by omega)
    have ht := find_small m n l
    refine ⟨m, rfl, l, .no, rfl, hp, m, n, l, .no, rfl, hn, hl, m, n, l, .no, rfl, hn, hl, ?_⟩
    rw [if_pos (by rw [beq_self_eq_true])]
    refine ⟨_, _, .no, .no, by rw [pl_en1]; rfl, by rw [List.length_map]; omega, ?_⟩
    rw [if_pos rfl]
    refine ⟨_, _, .no, .no, by rw [pl_en1]; rfl, by rw [List.length_map]; omega, ?_⟩
    rw [if_pos rfl]
    exact hk
  · rw [if_pos (by rw [Bool.eq_false_iff.2 hs]; rfl)]; exact hk
theorem lFits_red (m : Mo) (n : Int) (l : List Ti) (K : PV → Prop) : (br (decide ((↑(List.length (List.map Ti.cs l)) : Int) > 20) == false) (∃ (l_1 : List Ti), ∃ (u : Tail), SlIs [PV.list (List.map Ti.cs l) Tail.no] [PV.list (List.map Ti.cs l_1) u] ∧ List.length l_1 ≤ 20 ∧ (∀ (t : Ti), t ∈ l_1 → NT (Ti.Pt t)) ∧ br (!smallS l_1) (K (PV.bool true)) (∃ (m_1 : Mo), ∃ (n_1 : Int), ∃ (l_2 : List Ti), in64 n_1 ∧ LsOk l_2 ∧ SlIs [PV.int IntKind.i64 n, PV.list (List.map Ti.cs l) Tail.no, PV.ptr 0 0, PV.bool false, PV.int IntKind.i64 0] [PV.int IntKind.i64 n_1, PV.list (List.map Ti.cs l_2) Tail.no, PV.ptr 0 0, PV.bool false, PV.int IntKind.i64 0] ∧ HpIs [Ob.cells [PV.int IntKind.i64 (Mo.K m), PV.int IntKind.i64 (Mo.Base m), PV.int IntKind.i64 (Mo.Step m), PV.int IntKind.i64 (Mo.Cap m), PV.int IntKind.i64 (Mo.Every m)]] [Ob.cells [PV.int IntKind.i64 (Mo.K m_1), PV.int IntKind.i64 (Mo.Base m_1), PV.int IntKind.i64 (Mo.Step m_1), PV.int IntKind.i64 (Mo.Cap m_1), PV.int IntKind.i64 (Mo.Every m_1)]] ∧ ∃ (m : Mo), SlIs [PV.agg [PV.int IntKind.i64 (Mo.K m_1), PV.int IntKind.i64 (Mo.Base m_1), PV.int IntKind.i64 (Mo.Step m_1), PV.int IntKind.i64 (Mo.Cap m_1), PV.int IntKind.i64 (Mo.Every m_1)]] [PV.agg [PV.int IntKind.i64 (Mo.K m), PV.int IntKind.i64 (Mo.Base m), PV.int IntKind.i64 (Mo.Step m), PV.int IntKind.i64 (Mo.Cap m), PV.int IntKind.i64 (Mo.Every m)]] ∧ ∃ (l : List Ti), ∃ (u : Tail), SlIs [PV.list (List.map Ti.cs l_2) Tail.no] [PV.list (List.map Ti.cs l) u] ∧ PtNo l ∧ ∃ (m_2 : Mo), ∃ (n : Int), ∃ (l_3 : List Ti), ∃ (u : Tail), SlIs [PV.agg [PV.int IntKind.i64 (Mo.K m), PV.int IntKind.i64 (Mo.Base m), PV.int IntKind.i64 (Mo.Step m), PV.int IntKind.i64 (Mo.Cap m), PV.int IntKind.i64 (Mo.Every m)], PV.int IntKind.i64 n_1, PV.list (List.map Ti.cs l) Tail.no] [PV.agg [PV.int IntKind.i64 (Mo.K m_2), PV.int IntKind.i64 (Mo.Base m_2), PV.int IntKind.i64 (Mo.Step m_2), PV.int IntKind.i64 (Mo.Cap m_2), PV.int IntKind.i64 (Mo.Every m_2)], PV.int IntKind.i64 n, PV.list (List.map Ti.cs l_3) u] ∧ in64 n ∧ LsOk l_3 ∧ ∃ (m : Mo), ∃ (n_2 : Int), ∃ (l : List Ti), ∃ (u : Tail), SlIs [PV.agg [PV.int IntKind.i64 (Mo.K m_1), PV.int IntKind.i64 (Mo.Base m_1), PV.int IntKind.i64 (Mo.Step m_1), PV.int IntKind.i64 (Mo.Cap m_1), PV.int IntKind.i64 (Mo.Every m_1)], PV.int IntKind.i64 n_1, PV.list (List.map Ti.cs l_2) Tail.no] [PV.agg [PV.int IntKind.i64 (Mo.K m), PV.int IntKind.i64 (Mo.Base m), PV.int IntKind.i64 (Mo.Step m), PV.int IntKind.i64 (Mo.Cap m), PV.int IntKind.i64 (Mo.Every m)], PV.int IntKind.i64 n_2, PV.list (List.map Ti.cs l) u] ∧ in64 n_2 ∧ LsOk l ∧ br ((fitsS m_2 n l_3 == fitsS m n_2 l) == true) (K (PV.bool true)) (K (PV.bool false)))) (K (PV.bool true))) = wpc br Try.prog gl TV [([1, 1, 0, 1, 0], df_l)] (fun _ => 0) (bodyOf Try.f6) [] (env0 [m.pv, .int .i64 n, .list (l.map Ti.cs) .no]) [] (resQ Try.prog Try.f6.results.toList (fun x _ => K x)) := by kernel_rfl
theorem lFits_vc (m : Mo) (n : Int) (l : List Ti)  (K : PV → Prop) (h : br (decide ((↑(List.length (List.map Ti.cs l)) : Int) > 20) == false) (∃ (l_1 : List Ti), ∃ (u : Tail), SlIs [PV.list (List.map Ti.cs l) Tail.no] [PV.list (List.map Ti.cs l_1) u] ∧ List.length l_1 ≤ 20 ∧ (∀ (t : Ti), t ∈ l_1 → NT (Ti.Pt t)) ∧ br (!smallS l_1) (K (PV.bool true)) (∃ (m_1 : Mo), ∃ (n_1 : Int), ∃ (l_2 : List Ti), in64 n_1 ∧ LsOk l_2 ∧ SlIs [PV.int IntKind.i64 n, PV.list (List.map Ti.cs l) Tail.no, PV.ptr 0 0, PV.bool false, PV.int IntKind.i64 0] [PV.int IntKind.i64 n_1, PV.list (List.map Ti.cs l_2) Tail.no, PV.ptr 0 0, PV.bool false, PV.int IntKind.i64 0] ∧ HpIs [Ob.cells [PV.int IntKind.i64 (Mo.K m), PV.int IntKind.i64 (Mo.Base m), PV.int IntKind.i64 (Mo.Step m), PV.int IntKind.i64 (Mo.Cap m), PV.int IntKind.i64 (Mo.Every m)]] [Ob.cells [PV.int IntKind.i64 (Mo.K m_1), PV.int IntKind.i64 (Mo.Base m_1), PV.int IntKind.i64 (Mo.Step m_1), PV.int IntKind.i64 (Mo.Cap m_1), PV.int IntKind.i64 (Mo.Every m_1)]] ∧ ∃ (m : Mo), SlIs [PV.agg [PV.int IntKind.i64 (Mo.K m_1), PV.int IntKind.i64 (Mo.Base m_1), PV.int IntKind.i64 (Mo.Step m_1), PV.int IntKind.i64 (Mo.Cap m_1), PV.int IntKind.i64 (Mo.Every m_1)]] [PV.agg [PV.int IntKind.i64 (Mo.K m), PV.int IntKind.i64 (Mo.Base m), PV.int IntKind.i64 (Mo.Step m), PV.int IntKind.i64 (Mo.Cap m), PV.int IntKind.i64 (Mo.Every m)]] ∧ ∃ (l : List Ti), ∃ (u : Tail), SlIs [PV.list (List.map Ti.cs l_2) Tail.no] [PV.list (List.map Ti.cs l) u] ∧ PtNo l ∧ ∃ (m_2 : Mo), ∃ (n : Int), ∃ (l_3 : List Ti), ∃ (u : Tail), SlIs [PV.agg [PV.int IntKind.i64 (Mo.K m), PV.int IntKind.i64 (Mo.Base m), PV.int IntKind.i64 (Mo.Step m), PV.int IntKind.i64 (Mo.Cap m), PV.int IntKind.i64 (Mo.Every m)], PV.int IntKind.i64 n_1, PV.list (List.map Ti.cs l) Tail.no] [PV.agg [PV.int IntKind.i64 (Mo.K m_2), PV.int IntKind.i64 (Mo.Base m_2), PV.int IntKind.i64 (Mo.Step m_2), PV.int IntKind.i64 (Mo.Cap m_2), PV.int IntKind.i64 (Mo.Every m_2)], PV.int IntKind.i64 n, PV.list (List.map Ti.cs l_3) u] ∧ in64 n ∧ LsOk l_3 ∧ ∃ (m : Mo), ∃ (n_2 : Int), ∃ (l : List Ti), ∃ (u : Tail), SlIs [PV.agg [PV.int IntKind.i64 (Mo.K m_1), PV.int IntKind.i64 (Mo.Base m_1), PV.int IntKind.i64 (Mo.Step m_1), PV.int IntKind.i64 (Mo.Cap m_1), PV.int IntKind.i64 (Mo.Every m_1)], PV.int IntKind.i64 n_1, PV.list (List.map Ti.cs l_2) Tail.no] [PV.agg [PV.int IntKind.i64 (Mo.K m), PV.int IntKind.i64 (Mo.Base m), PV.int IntKind.i64 (Mo.Step m), PV.int IntKind.i64 (Mo.Cap m), PV.int IntKind.i64 (Mo.Every m)], PV.int IntKind.i64 n_2, PV.list (List.map Ti.cs l) u] ∧ in64 n_2 ∧ LsOk l ∧ br ((fitsS m_2 n l_3 == fitsS m n_2 l) == true) (K (PV.bool true)) (K (PV.bool false)))) (K (PV.bool true))) : ACalls Try.prog gl 6 [m.pv, .int .i64 n, .list (l.map Ti.cs) .no] [] (fun x _ => K x) :=
  acalls_of_wpc2 (T := TV) (L := [([1, 1, 0, 1, 0], df_l)]) (fun _ => 0) Try.func6 (by kernel_rfl) (by kernel_rfl) (by kernel_rfl) (TV_ok) (.cons (sub_of (by kernel_rfl)) df_l_ok (.nil _ _ _ _ _)) (holds_of_eq (lFits_red m n l K) h)
theorem fits_law (m : Mo) (n : Int) (l : List Ti) (hn : in64 n) (h : LnOk l) {K : PV → Prop} (hk : K (.bool true)) : ACalls Try.prog gl 6 [m.pv, .int .i64 n, .list (l.map Ti.cs) .no] [] (fun x _ => K x) := by
  refine lFits_vc m n l K ?_
  simp only [br_if, bf, df, bt, List.length_map]
  by_cases c : (l.length : Int) > 20
  · rw [if_neg (fun q => q c)]; exact hk
  rw [if_pos c]
  refine ⟨l, .no, rfl, by omega, nt_of h, ?_⟩
  by_cases hs : smallS l = true
  · rw [if_neg (by rw [hs]; decide)]
    obtain ⟨hp, hl⟩ := small_of h hs (by omega)
    refine ⟨m, n, l, hn, hl, rfl, rfl, m, rfl, l, .no, rfl, hp, m, n, l, .no, rfl, hn, hl, m, n, l, .no, rfl, hn, hl, ?_⟩
    rw [if_pos (by rw [beq_self_eq_true])]
    exact hk
  · rw [if_pos (by rw [Bool.eq_false_iff.2 hs]; rfl)]; exact hk
-- the laws at whatever arguments read
theorem u2 : Try.prog.underlying 2 = some (.int .i64) := by kernel_rfl
theorem u3 : Try.prog.underlying 3 = some (.int .i64) := by kernel_rfl
theorem u24 : Try.prog.underlying 24 = some (.slice 48) := by kernel_rfl
theorem u45 : Try.prog.underlying 45 = some (.int .u32) := by kernel_rfl
theorem u46 : Try.prog.underlying 46 = some (.slice 45) := by kernel_rfl
theorem mo_of {k : Nat} {cs : List PV} (h : WTp Try.prog (k + 2) 23 cs) : ∃ m : Mo, cs = m.cs ∧ True := by
  have g : WFs (WTp Try.prog (k + 1)) [3, 3, 3, 3, 2] cs := wtp_struct Try.underlying23 h
  obtain ⟨a, r, rfl, h1, b, r2, rfl, h2, c, r3, rfl, h3, d, r4, rfl, h4, e, r5, rfl, h5, h6⟩ := g
  obtain ⟨a, rfl, _⟩ := wtp_int u3 h1
  obtain ⟨b, rfl, _⟩ := wtp_int u3 h2
  obtain ⟨c, rfl, _⟩ := wtp_int u3 h3
  obtain ⟨d, rfl, _⟩ := wtp_int u3 h4
  obtain ⟨e, rfl, _⟩ := wtp_int u2 h5
  obtain rfl := wfs_nil h6
  exact ⟨⟨a, b, c, d, e⟩, rfl, trivial⟩
theorem moa_of {x : PV} (h : WTa Try.prog 6 23 x) : ∃ m : Mo, x = m.pv := by
  unfold WTa at h
  rw [Try.underlying23] at h
  obtain ⟨cs, rfl, h1⟩ := h
  obtain ⟨m, rfl, _⟩ := mo_of h1
  exact ⟨m, rfl⟩
theorem ps_of {k : Nat} {cs : List PV} (h : WTp Try.prog (k + 2) 46 cs) : ∃ ns : List Int, cs = [.list (en1 .u32 ns) .no] := by
  obtain ⟨es, rfl, _, g⟩ := wtp_list u46 h
  obtain ⟨ns, rfl, _⟩ := wtp_ints u45 g
  exact ⟨ns, rfl⟩
theorem ti_of {k : Nat} {cs : List PV} (h : WTp Try.prog (k + 4) 48 cs) : ∃ t : Ti, cs = t.cs ∧ (t.Pt = .no ∧ in64 t.Since) := by
  have g : WFs (WTp Try.prog (k + 3)) [45, 3, 46, 3, 2] cs := wtp_struct Try.underlying48 h
  obtain ⟨a, r, rfl, h1, b, r2, rfl, h2, c, r3, rfl, h3, d, r4, rfl, h4, e, r5, rfl, h5, h6⟩ := g
  obtain ⟨a, rfl, _⟩ := wtp_int u45 h1
  obtain ⟨b, rfl, _⟩ := wtp_int u3 h2
  obtain ⟨c, rfl⟩ := ps_of h3
  obtain ⟨d, rfl, _⟩ := wtp_int u3 h4
  obtain ⟨e, rfl, h7, h8⟩ := wtp_int u2 h5
  obtain rfl := wfs_nil h6
  exact ⟨⟨a, b, c, .no, d, e⟩, rfl, rfl, h7, h8⟩
theorem tis_of {x : PV} (h : WTa Try.prog 6 24 x) : ∃ l : List Ti, x = .list (l.map Ti.cs) .no ∧ LnOk l := by
  obtain ⟨es, rfl, _, g⟩ := wta_list u24 h
  obtain ⟨l, rfl, hl⟩ := list_of (f := Ti.cs) fun r hr => ti_of (g r hr)
  exact ⟨l, rfl, hl⟩
theorem teams_args (xs : List PV) (h : WTargs Try.prog 6 Try.f3.params.toList xs) : ACalls Try.prog gl 3 xs [] (fun x _ => x = .bool true) := by
  rw [Try.params3] at h
  obtain ⟨x, r, rfl, h1, y, r2, rfl, h2, h3⟩ := h
  obtain rfl := wtargs_nil h3
  obtain ⟨m, rfl⟩ := moa_of h1
  obtain ⟨l, rfl, hl⟩ := tis_of h2
  exact teams_law m l hl (K := fun x => x = .bool true) rfl
theorem finds_args (xs : List PV) (h : WTargs Try.prog 6 Try.f4.params.toList xs) : ACalls Try.prog gl 4 xs [] (fun x _ => x = .bool true) := by
  rw [Try.params4] at h
  obtain ⟨x, r, rfl, h1, y, r2, rfl, h2, z, r3, rfl, h3, h4⟩ := h
  obtain rfl := wtargs_nil h4
  obtain ⟨m, rfl⟩ := moa_of h1
  obtain ⟨n, rfl, hn⟩ := wta_int u2 h2
  obtain ⟨l, rfl, hl⟩ := tis_of h3
  exact finds_law m n l hn hl (K := fun x => x = .bool true) rfl
theorem fits_args (xs : List PV) (h : WTargs Try.prog 6 Try.f6.params.toList xs) : ACalls Try.prog gl 6 xs [] (fun x _ => x = .bool true) := by
  rw [Try.params6] at h
  obtain ⟨x, r, rfl, h1, y, r2, rfl, h2, z, r3, rfl, h3, h4⟩ := h
  obtain rfl := wtargs_nil h4
  obtain ⟨m, rfl⟩ := moa_of h1
  obtain ⟨n, rfl, hn⟩ := wta_int u2 h2
  obtain ⟨l, rfl, hl⟩ := tis_of h3
  exact fits_law m n l hn hl (K := fun x => x = .bool true) rfl
end Go.Proofs.Ytmcincfonnfblaa
