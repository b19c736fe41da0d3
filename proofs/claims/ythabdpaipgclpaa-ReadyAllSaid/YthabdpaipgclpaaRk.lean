/-
  The document's checks, closed.
-/
import Derived.Test.YthabdpaipgclpaaRj
import Derived.Test.YthabdpaipgclpaaProg
namespace Go.Proofs.Ythabdpaipgclpaa
open Go Go.AM Go.Proofs
def TQ0 : Tab := [(35, .pure has_s), (79, .pure rrt_s), (56, .pure rmis_s), (21, .pure rget_s), (23, .pure rof_s), (54, .pure rclo_s), (80, .pure rput_s)]
theorem TQ0_ok : TabOk Try.prog gl TQ0 := .cons has_ok (.cons rrt_ok (.cons rmis_ok (.cons rget_ok (.cons rof_ok (.cons rclo_ok (.cons rput_ok (.nil _ _)))))))
theorem ropl_red (w : List Ck) (m id un : Int) (pl : List Int) (b c : Bool) (i : Nat) (R : Ex → List PV → Heap → Prop) : (br (decide ((↑i : Int) < (↑(List.length (List.map u1 pl)) : Int))) (br (b == true) (InL (List.map u1 pl) 1 (↑i : Int) ∧ br (true && fitX [CK.int IntKind.u32] 0 (List.getD (List.map u1 pl) (Int.toNat (↑i : Int)) [])) (∃ (t : Int), 0 ≤ t ∧ SlIs [PV.int IntKind.u32 (cI (List.getD (List.map u1 pl) (Int.toNat (↑i : Int)) []) 0)] [PV.int IntKind.u32 t] ∧ br (c == false) (InL (List.map u1 pl) 1 (↑i : Int) ∧ br (true && fitX [CK.int IntKind.u32] 0 (List.getD (List.map u1 pl) (Int.toNat (↑i : Int)) [])) (∃ (w_1 : List Ck), ∃ (tl : Tail), ∃ (t_1 : Int), SlIs [PV.list (List.map ckc w) Tail.no, PV.int IntKind.u32 (cI (List.getD (List.map u1 pl) (Int.toNat (↑i : Int)) []) 0)] [PV.list (List.map ckc w_1) tl, PV.int IntKind.u32 t_1] ∧ SmL w_1 ∧ br ((ofS w_1 t_1 != 0) == false) ((0 ≤ wI ((↑i : Int) + 1) ∧ wI ((↑i : Int) + 1) ≤ (↑(List.length (List.map u1 pl)) : Int) ∧ (↑(List.length (List.map u1 pl)) : Int) ≤ (↑(List.length (List.map u1 pl)) : Int) ∧ (↑(List.length (List.map u1 pl)) : Int) ≤ (↑(List.length (List.map u1 pl)) : Int) ∧ uni 1 (List.map u1 pl)) ∧ InL (List.map u1 pl) 1 (↑i : Int) ∧ br (true && fitX [CK.int IntKind.u32] 0 (List.getD (List.map u1 pl) (Int.toNat (↑i : Int)) [])) (∃ (l : List Int), ∃ (tl : Tail), ∃ (t_2 : Int), SlIs [PV.list (List.drop (Int.toNat (wI ((↑i : Int) + 1))) (List.take (Int.toNat (↑(List.length (List.map u1 pl)) : Int)) (List.map u1 pl))) Tail.no, PV.int IntKind.u32 (cI (List.getD (List.map u1 pl) (Int.toNat (↑i : Int)) []) 0)] [PV.list (List.map u1 l) tl, PV.int IntKind.u32 t_2] ∧ List.length l ≤ 1000000 ∧ R Ex.normal [PV.list (List.map ckc w) Tail.no, PV.int IntKind.i64 m, PV.int IntKind.u32 id, PV.int IntKind.i64 un, PV.list (List.map u1 pl) Tail.no, PV.bool (rightS t), PV.bool (memB l t_2), PV.int IntKind.i64 (wI ((↑i : Int) + 1))] []) False) (R Ex.normal [PV.list (List.map ckc w) Tail.no, PV.int IntKind.i64 m, PV.int IntKind.u32 id, PV.int IntKind.i64 un, PV.list (List.map u1 pl) Tail.no, PV.bool (rightS t), PV.bool true, PV.int IntKind.i64 (wI ((↑i : Int) + 1))] [])) False) (R Ex.normal [PV.list (List.map ckc w) Tail.no, PV.int IntKind.i64 m, PV.int IntKind.u32 id, PV.int IntKind.i64 un, PV.list (List.map u1 pl) Tail.no, PV.bool (rightS t), PV.bool true, PV.int IntKind.i64 (wI ((↑i : Int) + 1))] [])) False) (br (c == false) (InL (List.map u1 pl) 1 (↑i : Int) ∧ br (true && fitX [CK.int IntKind.u32] 0 (List.getD (List.map u1 pl) (Int.toNat (↑i : Int)) [])) (∃ (w_1 : List Ck), ∃ (tl : Tail), ∃ (t : Int), SlIs [PV.list (List.map ckc w) Tail.no, PV.int IntKind.u32 (cI (List.getD (List.map u1 pl) (Int.toNat (↑i : Int)) []) 0)] [PV.list (List.map ckc w_1) tl, PV.int IntKind.u32 t] ∧ SmL w_1 ∧ br ((ofS w_1 t != 0) == false) ((0 ≤ wI ((↑i : Int) + 1) ∧ wI ((↑i : Int) + 1) ≤ (↑(List.length (List.map u1 pl)) : Int) ∧ (↑(List.length (List.map u1 pl)) : Int) ≤ (↑(List.length (List.map u1 pl)) : Int) ∧ (↑(List.length (List.map u1 pl)) : Int) ≤ (↑(List.length (List.map u1 pl)) : Int) ∧ uni 1 (List.map u1 pl)) ∧ InL (List.map u1 pl) 1 (↑i : Int) ∧ br (true && fitX [CK.int IntKind.u32] 0 (List.getD (List.map u1 pl) (Int.toNat (↑i : Int)) [])) (∃ (l : List Int), ∃ (tl : Tail), ∃ (t : Int), SlIs [PV.list (List.drop (Int.toNat (wI ((↑i : Int) + 1))) (List.take (Int.toNat (↑(List.length (List.map u1 pl)) : Int)) (List.map u1 pl))) Tail.no, PV.int IntKind.u32 (cI (List.getD (List.map u1 pl) (Int.toNat (↑i : Int)) []) 0)] [PV.list (List.map u1 l) tl, PV.int IntKind.u32 t] ∧ List.length l ≤ 1000000 ∧ R Ex.normal [PV.list (List.map ckc w) Tail.no, PV.int IntKind.i64 m, PV.int IntKind.u32 id, PV.int IntKind.i64 un, PV.list (List.map u1 pl) Tail.no, PV.bool false, PV.bool (memB l t), PV.int IntKind.i64 (wI ((↑i : Int) + 1))] []) False) (R Ex.normal [PV.list (List.map ckc w) Tail.no, PV.int IntKind.i64 m, PV.int IntKind.u32 id, PV.int IntKind.i64 un, PV.list (List.map u1 pl) Tail.no, PV.bool false, PV.bool true, PV.int IntKind.i64 (wI ((↑i : Int) + 1))] [])) False) (R Ex.normal [PV.list (List.map ckc w) Tail.no, PV.int IntKind.i64 m, PV.int IntKind.u32 id, PV.int IntKind.i64 un, PV.list (List.map u1 pl) Tail.no, PV.bool false, PV.bool true, PV.int IntKind.i64 (wI ((↑i : Int) + 1))] []))) (R (Ex.exit 0) [PV.list (List.map ckc w) Tail.no, PV.int IntKind.i64 m, PV.int IntKind.u32 id, PV.int IntKind.i64 un, PV.list (List.map u1 pl) Tail.no, PV.bool b, PV.bool c, PV.int IntKind.i64 (↑i : Int)] [])) = wpc br Try.prog gl TQ0 [] (fun _ => 0) (subOf [1, 1, 0, 1, 0] (bodyOf Try.f52)) [] (envS [0, 1, 2, 3, 4, 12, 13, 14] [.list (w.map ckc) .no, .int .i64 m, .int .u32 id, .int .i64 un, .list (pl.map u1) .no, .bool b, .bool c, .int .i64 i]) [] (fun ex e H => R ex (List.map e [0, 1, 2, 3, 4, 12, 13, 14]) H) := by kernel_rfl
theorem ropl_vc (w : List Ck) (m id un : Int) (pl : List Int) (b c : Bool) (i : Nat) (R : Ex → List PV → Heap → Prop) (h : br (decide ((↑i : Int) < (↑(List.length (List.map u1 pl)) : Int))) (br (b == true) (InL (List.map u1 pl) 1 (↑i : Int) ∧ br (true && fitX [CK.int IntKind.u32] 0 (List.getD (List.map u1 pl) (Int.toNat (↑i : Int)) [])) (∃ (t : Int), 0 ≤ t ∧ SlIs [PV.int IntKind.u32 (cI (List.getD (List.map u1 pl) (Int.toNat (↑i : Int)) []) 0)] [PV.int IntKind.u32 t] ∧ br (c == false) (InL (List.map u1 pl) 1 (↑i : Int) ∧ br (true && fitX [CK.int IntKind.u32] 0 (List.getD (List.map u1 pl) (Int.toNat (↑i : Int)) [])) (∃ (w_1 : List Ck), ∃ (tl : Tail), ∃ (t_1 : Int), SlIs [PV.list (List.map ckc w) Tail.no, PV.int IntKind.u32 (cI (List.getD (List.map u1 pl) (Int.toNat (↑i : Int)) []) 0)] [PV.list (List.map ckc w_1) tl, PV.int IntKind.u32 t_1] ∧ SmL w_1 ∧ br ((ofS w_1 t_1 != 0) == false) ((0 ≤ wI ((↑i : Int) + 1) ∧ wI ((↑i : Int) + 1) ≤ (↑(List.length (List.map u1 pl)) : Int) ∧ (↑(List.length (List.map u1 pl)) : Int) ≤ (↑(List.length (List.map u1 pl)) : Int) ∧ (↑(List.length (List.map u1 pl)) : Int) ≤ (↑(List.length (List.map u1 pl)) : Int) ∧ uni 1 (List.map u1 pl)) ∧ InL (List.map u1 pl) 1 (↑i : Int) ∧ br (true && fitX [CK.int IntKind.u32] 0 (List.getD (List.map u1 pl) (Int.toNat (↑i : Int)) [])) (∃ (l : List Int), ∃ (tl : Tail), ∃ (t_2 : Int), SlIs [PV.list (List.drop (Int.toNat (wI ((↑i : Int) + 1))) (List.take (Int.toNat (↑(List.length (List.map u1 pl)) : Int)) (List.map u1 pl))) Tail.no, PV.int IntKind.u32 (cI (List.getD (List.map u1 pl) (Int.toNat (↑i : Int)) []) 0)] [PV.list (List.map u1 l) tl, PV.int IntKind.u32 t_2] ∧ List.length l ≤ 1000000 ∧ R Ex.normal [PV.list (List.map ckc w) Tail.no, PV.int IntKind.i64 m, PV.int IntKind.u32 id, PV.int IntKind.i64 un, PV.list (List.map u1 pl) Tail.no, PV.bool (rightS t), PV.bool (memB l t_2), PV.int IntKind.i64 (wI ((↑i : Int) + 1))] []) False) (R Ex.normal [PV.list (List.map ckc w) Tail.no, PV.int IntKind.i64 m, PV.int IntKind.u32 id, PV.int IntKind.i64 un, PV.list (List.map u1 pl) Tail.no, PV.bool (rightS t), PV.bool true, PV.int IntKind.i64 (wI ((↑i : Int) + 1))] [])) False) (R Ex.normal [PV.list (List.map ckc w) Tail.no, PV.int IntKind.i64 m, PV.int IntKind.u32 id, PV.int IntKind.i64 un, PV.list (List.map u1 pl) Tail.no, PV.bool (rightS t), PV.bool true, PV.int IntKind.i64 (wI ((↑i : Int) + 1))] [])) False) (br (c == false) (InL (List.map u1 pl) 1 (↑i : Int) ∧ br (true && fitX [CK.int IntKind.u32] 0 (List.getD (List.map u1 pl) (Int.toNat (↑i : Int)) [])) (∃ (w_1 : List Ck), ∃ (tl : Tail), ∃ (t : Int), SlIs [PV.list (List.map ckc w) Tail.no, PV.int IntKind.u32 (cI (List.getD (List.map u1 pl) (Int.toNat (↑i : Int)) []) 0)] [PV.list (List.map ckc w_1) tl, PV.int IntKind.u32 t] ∧ SmL w_1 ∧ br ((ofS w_1 t != 0) == false) ((0 ≤ wI ((↑i : Int) + 1) ∧ wI ((↑i : Int) + 1) ≤ (↑(List.length (List.map u1 pl)) : Int) ∧ (↑(List.length (List.map u1 pl)) : Int) ≤ (↑(List.length (List.map u1 pl)) : Int) ∧ (↑(List.length (List.map u1 pl)) : Int) ≤ (↑(List.length (List.map u1 pl)) : Int) ∧ uni 1 (List.map u1 pl)) ∧ InL (List.map u1 pl) 1 (↑i : Int) ∧ br (true && fitX [CK.int IntKind.u32] 0 (List.getD (List.map u1 pl) (Int.toNat (↑i : Int)) [])) (∃ (l : List Int), ∃ (tl : Tail), ∃ (t : Int), SlIs [PV.list (List.drop (Int.toNat (wI ((↑i : Int) + 1))) (List.take (Int.toNat (↑(List.length (List.map u1 pl)) : Int)) (List.map u1 pl))) Tail.no, PV.int IntKind.u32 (cI (List.getD (List.map u1 pl) (Int.toNat (↑i : Int)) []) 0)] [PV.list (List.map u1 l) tl, PV.int IntKind.u32 t] ∧ List.length l ≤ 1000000 ∧ R Ex.normal [PV.list (List.map ckc w) Tail.no, PV.int IntKind.i64 m, PV.int IntKind.u32 id, PV.int IntKind.i64 un, PV.list (List.map u1 pl) Tail.no, PV.bool false, PV.bool (memB l t), PV.int IntKind.i64 (wI ((↑i : Int) + 1))] []) False) (R Ex.normal [PV.list (List.map ckc w) Tail.no, PV.int IntKind.i64 m, PV.int IntKind.u32 id, PV.int IntKind.i64 un, PV.list (List.map u1 pl) Tail.no, PV.bool false, PV.bool true, PV.int IntKind.i64 (wI ((↑i : Int) + 1))] [])) False) (R Ex.normal [PV.list (List.map ckc w) Tail.no, PV.int IntKind.i64 m, PV.int IntKind.u32 id, PV.int IntKind.i64 un, PV.list (List.map u1 pl) Tail.no, PV.bool false, PV.bool true, PV.int IntKind.i64 (wI ((↑i : Int) + 1))] []))) (R (Ex.exit 0) [PV.list (List.map ckc w) Tail.no, PV.int IntKind.i64 m, PV.int IntKind.u32 id, PV.int IntKind.i64 un, PV.list (List.map u1 pl) Tail.no, PV.bool b, PV.bool c, PV.int IntKind.i64 (↑i : Int)] [])) : Holds (wpc br Try.prog gl TQ0 [] (fun _ => 0) (subOf [1, 1, 0, 1, 0] (bodyOf Try.f52)) [] (envS [0, 1, 2, 3, 4, 12, 13, 14] [.list (w.map ckc) .no, .int .i64 m, .int .u32 id, .int .i64 un, .list (pl.map u1) .no, .bool b, .bool c, .int .i64 i]) [] (fun ex e H => R ex (List.map e [0, 1, 2, 3, 4, 12, 13, 14]) H)) := holds_of_eq (ropl_red w m id un pl b c i R) h
theorem racc1_red (w : List Ck) (p : Int) (K : PV → Prop) : (∃ (w_1 : List Ck), ∃ (tl : Tail), ∃ (t : Int), SlIs [PV.list (List.map ckc w) Tail.no, PV.int IntKind.u32 p] [PV.list (List.map ckc w_1) tl, PV.int IntKind.u32 t] ∧ SmL w_1 ∧ ∃ (w_2 : List Ck), ∃ (tl : Tail), ∃ (t_1 : Int), SlIs [PV.list (List.map ckc w) Tail.no, PV.int IntKind.u32 (ofS w_1 t)] [PV.list (List.map ckc w_2) tl, PV.int IntKind.u32 t_1] ∧ List.length w_2 ≤ 1000000 ∧ br (!hasG Ck.id w_2 t_1) (K (PV.tup [PV.list (List.map ckc w) Tail.no, PV.agg [PV.int IntKind.u32 0, PV.list [] Tail.exact, PV.list [] Tail.exact, PV.int IntKind.i64 0], PV.bool false, PV.int IntKind.i64 12])) (∃ (l : List Int), ∃ (tl : Tail), ∃ (t : Int), SlIs [PV.list (en1 IntKind.u32 (Ck.ys (getG Ck.id w_2 t_1))) Tail.no, PV.int IntKind.u32 p] [PV.list (List.map u1 l) tl, PV.int IntKind.u32 t] ∧ List.length l ≤ 1000000 ∧ br (memB l t) (K (PV.tup [PV.list (List.map ckc w) Tail.no, PV.agg [PV.int IntKind.u32 0, PV.list [] Tail.exact, PV.list [] Tail.exact, PV.int IntKind.i64 0], PV.bool false, PV.int IntKind.i64 11])) (AppL [] (en1 IntKind.u32 (Ck.ys (getG Ck.id w_2 t_1))) 1 4 ∧ List.all (List.flatten (en1 IntKind.u32 (Ck.ys (getG Ck.id w_2 t_1)))) PV.one = true ∧ (en1 IntKind.u32 (Ck.ys (getG Ck.id w_2 t_1)) = [] → AppL [] [[PV.int IntKind.u32 p]] 1 4 ∧ (List.all [PV.int IntKind.u32 p] PV.one = true ∧ [[PV.int IntKind.u32 p]] ≠ []) ∧ ∃ (c : Ck), ∃ (t1 : Tail), ∃ (t2 : Tail), SlIs [PV.agg [PV.int IntKind.u32 (Ck.id (getG Ck.id w_2 t_1)), PV.list (en1 IntKind.u32 (Ck.pl (getG Ck.id w_2 t_1))) Tail.no, PV.list [[PV.int IntKind.u32 p]] (Tail.tok 2), PV.int IntKind.i64 (Ck.un (getG Ck.id w_2 t_1))]] [PV.agg [PV.int IntKind.u32 (Ck.id c), PV.list (en1 IntKind.u32 (Ck.pl c)) t1, PV.list (en1 IntKind.u32 (Ck.ys c)) t2, PV.int IntKind.i64 (Ck.un c)]] ∧ Ck.Sm c ∧ br ((↑(List.length (List.map u1 (misS c))) : Int) == 0) (∃ (w_3 : List Ck), ∃ (tl : Tail), ∃ (t : Int), SlIs [PV.list (List.map ckc w) Tail.no, PV.int IntKind.u32 (Ck.id (getG Ck.id w_2 t_1))] [PV.list (List.map ckc w_3) tl, PV.int IntKind.u32 t] ∧ List.length w_3 ≤ 1000000 ∧ K (PV.tup [PV.list (List.map ckc (dropG Ck.id w_3 t)) Tail.no, PV.agg [PV.int IntKind.u32 (Ck.id (getG Ck.id w_2 t_1)), PV.list (en1 IntKind.u32 (Ck.pl (getG Ck.id w_2 t_1))) Tail.no, PV.list [[PV.int IntKind.u32 p]] (Tail.tok 2), PV.int IntKind.i64 (Ck.un (getG Ck.id w_2 t_1))], PV.bool true, PV.int IntKind.i64 0])) (∃ (w_3 : List Ck), ∃ (tl : Tail), ∃ (c : Ck), ∃ (t1 : Tail), ∃ (t2 : Tail), SlIs [PV.list (List.map ckc w) Tail.no, PV.agg [PV.int IntKind.u32 (Ck.id (getG Ck.id w_2 t_1)), PV.list (en1 IntKind.u32 (Ck.pl (getG Ck.id w_2 t_1))) Tail.no, PV.list [[PV.int IntKind.u32 p]] (Tail.tok 2), PV.int IntKind.i64 (Ck.un (getG Ck.id w_2 t_1))]] [PV.list (List.map ckc w_3) tl, PV.agg [PV.int IntKind.u32 (Ck.id c), PV.list (en1 IntKind.u32 (Ck.pl c)) t1, PV.list (en1 IntKind.u32 (Ck.ys c)) t2, PV.int IntKind.i64 (Ck.un c)]] ∧ List.length w_3 ≤ 100000 ∧ Rise Ck.id w_3 ∧ K (PV.tup [PV.list (List.map ckc (putG Ck.id w_3 c)) Tail.no, PV.agg [PV.int IntKind.u32 (Ck.id (getG Ck.id w_2 t_1)), PV.list (en1 IntKind.u32 (Ck.pl (getG Ck.id w_2 t_1))) Tail.no, PV.list [[PV.int IntKind.u32 p]] (Tail.tok 2), PV.int IntKind.i64 (Ck.un (getG Ck.id w_2 t_1))], PV.bool false, PV.int IntKind.i64 0]))) ∧ (en1 IntKind.u32 (Ck.ys (getG Ck.id w_2 t_1)) ≠ [] → AppL ([] ++ en1 IntKind.u32 (Ck.ys (getG Ck.id w_2 t_1))) [[PV.int IntKind.u32 p]] 1 4 ∧ (List.all [PV.int IntKind.u32 p] PV.one = true ∧ [[PV.int IntKind.u32 p]] ≠ []) ∧ ∃ (c : Ck), ∃ (t1 : Tail), ∃ (t2 : Tail), SlIs [PV.agg [PV.int IntKind.u32 (Ck.id (getG Ck.id w_2 t_1)), PV.list (en1 IntKind.u32 (Ck.pl (getG Ck.id w_2 t_1))) Tail.no, PV.list ([] ++ en1 IntKind.u32 (Ck.ys (getG Ck.id w_2 t_1)) ++ [[PV.int IntKind.u32 p]]) (Tail.tok 3), PV.int IntKind.i64 (Ck.un (getG Ck.id w_2 t_1))]] [PV.agg [PV.int IntKind.u32 (Ck.id c), PV.list (en1 IntKind.u32 (Ck.pl c)) t1, PV.list (en1 IntKind.u32 (Ck.ys c)) t2, PV.int IntKind.i64 (Ck.un c)]] ∧ Ck.Sm c ∧ br ((↑(List.length (List.map u1 (misS c))) : Int) == 0) (∃ (w_3 : List Ck), ∃ (tl : Tail), ∃ (t : Int), SlIs [PV.list (List.map ckc w) Tail.no, PV.int IntKind.u32 (Ck.id (getG Ck.id w_2 t_1))] [PV.list (List.map ckc w_3) tl, PV.int IntKind.u32 t] ∧ List.length w_3 ≤ 1000000 ∧ K (PV.tup [PV.list (List.map ckc (dropG Ck.id w_3 t)) Tail.no, PV.agg [PV.int IntKind.u32 (Ck.id (getG Ck.id w_2 t_1)), PV.list (en1 IntKind.u32 (Ck.pl (getG Ck.id w_2 t_1))) Tail.no, PV.list ([] ++ en1 IntKind.u32 (Ck.ys (getG Ck.id w_2 t_1)) ++ [[PV.int IntKind.u32 p]]) (Tail.tok 3), PV.int IntKind.i64 (Ck.un (getG Ck.id w_2 t_1))], PV.bool true, PV.int IntKind.i64 0])) (∃ (w_3 : List Ck), ∃ (tl : Tail), ∃ (c : Ck), ∃ (t1 : Tail), ∃ (t2 : Tail), SlIs [PV.list (List.map ckc w) Tail.no, PV.agg [PV.int IntKind.u32 (Ck.id (getG Ck.id w_2 t_1)), PV.list (en1 IntKind.u32 (Ck.pl (getG Ck.id w_2 t_1))) Tail.no, PV.list ([] ++ en1 IntKind.u32 (Ck.ys (getG Ck.id w_2 t_1)) ++ [[PV.int IntKind.u32 p]]) (Tail.tok 3), PV.int IntKind.i64 (Ck.un (getG Ck.id w_2 t_1))]] [PV.list (List.map ckc w_3) tl, PV.agg [PV.int IntKind.u32 (Ck.id c), PV.list (en1 IntKind.u32 (Ck.pl c)) t1, PV.list (en1 IntKind.u32 (Ck.ys c)) t2, PV.int IntKind.i64 (Ck.un c)]] ∧ List.length w_3 ≤ 100000 ∧ Rise Ck.id w_3 ∧ K (PV.tup [PV.list (List.map ckc (putG Ck.id w_3 c)) Tail.no, PV.agg [PV.int IntKind.u32 (Ck.id (getG Ck.id w_2 t_1)), PV.list (en1 IntKind.u32 (Ck.pl (getG Ck.id w_2 t_1))) Tail.no, PV.list ([] ++ en1 IntKind.u32 (Ck.ys (getG Ck.id w_2 t_1)) ++ [[PV.int IntKind.u32 p]]) (Tail.tok 3), PV.int IntKind.i64 (Ck.un (getG Ck.id w_2 t_1))], PV.bool false, PV.int IntKind.i64 0])))))) = wpc br Try.prog gl TQ0 [] (fun o => match o.dst with | some 31 => 4 | some 34 => 1 | some 42 => 101001 | some 44 => 101004 | some 46 => 101004 | some 48 => 101004 | some _ => 0 | none => match o.op with | .store _ (.tmp 5) (.tmp 44) => 1004 | .store _ (.tmp 5) (.tmp 48) => 1004 | _ => 0) (bodyOf Try.f53) [] (env0 [.list (w.map ckc) .no, .int .u32 p]) [] (resQ Try.prog Try.f53.results.toList (fun x _ => K x)) := by kernel_rfl
theorem racc1_vc (w : List Ck) (p : Int)  (K : PV → Prop) (h : ∃ (w_1 : List Ck), ∃ (tl : Tail), ∃ (t : Int), SlIs [PV.list (List.map ckc w) Tail.no, PV.int IntKind.u32 p] [PV.list (List.map ckc w_1) tl, PV.int IntKind.u32 t] ∧ SmL w_1 ∧ ∃ (w_2 : List Ck), ∃ (tl : Tail), ∃ (t_1 : Int), SlIs [PV.list (List.map ckc w) Tail.no, PV.int IntKind.u32 (ofS w_1 t)] [PV.list (List.map ckc w_2) tl, PV.int IntKind.u32 t_1] ∧ List.length w_2 ≤ 1000000 ∧ br (!hasG Ck.id w_2 t_1) (K (PV.tup [PV.list (List.map ckc w) Tail.no, PV.agg [PV.int IntKind.u32 0, PV.list [] Tail.exact, PV.list [] Tail.exact, PV.int IntKind.i64 0], PV.bool false, PV.int IntKind.i64 12])) (∃ (l : List Int), ∃ (tl : Tail), ∃ (t : Int), SlIs [PV.list (en1 IntKind.u32 (Ck.ys (getG Ck.id w_2 t_1))) Tail.no, PV.int IntKind.u32 p] [PV.list (List.map u1 l) tl, PV.int IntKind.u32 t] ∧ List.length l ≤ 1000000 ∧ br (memB l t) (K (PV.tup [PV.list (List.map ckc w) Tail.no, PV.agg [PV.int IntKind.u32 0, PV.list [] Tail.exact, PV.list [] Tail.exact, PV.int IntKind.i64 0], PV.bool false, PV.int IntKind.i64 11])) (AppL [] (en1 IntKind.u32 (Ck.ys (getG Ck.id w_2 t_1))) 1 4 ∧ List.all (List.flatten (en1 IntKind.u32 (Ck.ys (getG Ck.id w_2 t_1)))) PV.one = true ∧ (en1 IntKind.u32 (Ck.ys (getG Ck.id w_2 t_1)) = [] → AppL [] [[PV.int IntKind.u32 p]] 1 4 ∧ (List.all [PV.int IntKind.u32 p] PV.one = true ∧ [[PV.int IntKind.u32 p]] ≠ []) ∧ ∃ (c : Ck), ∃ (t1 : Tail), ∃ (t2 : Tail), SlIs [PV.agg [PV.int IntKind.u32 (Ck.id (getG Ck.id w_2 t_1)), PV.list (en1 IntKind.u32 (Ck.pl (getG Ck.id w_2 t_1))) Tail.no, PV.list [[PV.int IntKind.u32 p]] (Tail.tok 2), PV.int IntKind.i64 (Ck.un (getG Ck.id w_2 t_1))]] [PV.agg [PV.int IntKind.u32 (Ck.id c), PV.list (en1 IntKind.u32 (Ck.pl c)) t1, PV.list (en1 IntKind.u32 (Ck.ys c)) t2, PV.int IntKind.i64 (Ck.un c)]] ∧ Ck.Sm c ∧ br ((↑(List.length (List.map u1 (misS c))) : Int) == 0) (∃ (w_3 : List Ck), ∃ (tl : Tail), ∃ (t : Int), SlIs [PV.list (List.map ckc w) Tail.no, PV.int IntKind.u32 (Ck.id (getG Ck.id w_2 t_1))] [PV.list (List.map ckc w_3) tl, PV.int IntKind.u32 t] ∧ List.length w_3 ≤ 1000000 ∧ K (PV.tup [PV.list (List.map ckc (dropG Ck.id w_3 t)) Tail.no, PV.agg [PV.int IntKind.u32 (Ck.id (getG Ck.id w_2 t_1)), PV.list (en1 IntKind.u32 (Ck.pl (getG Ck.id w_2 t_1))) Tail.no, PV.list [[PV.int IntKind.u32 p]] (Tail.tok 2), PV.int IntKind.i64 (Ck.un (getG Ck.id w_2 t_1))], PV.bool true, PV.int IntKind.i64 0])) (∃ (w_3 : List Ck), ∃ (tl : Tail), ∃ (c : Ck), ∃ (t1 : Tail), ∃ (t2 : Tail), SlIs [PV.list (List.map ckc w) Tail.no, PV.agg [PV.int IntKind.u32 (Ck.id (getG Ck.id w_2 t_1)), PV.list (en1 IntKind.u32 (Ck.pl (getG Ck.id w_2 t_1))) Tail.no, PV.list [[PV.int IntKind.u32 p]] (Tail.tok 2), PV.int IntKind.i64 (Ck.un (getG Ck.id w_2 t_1))]] [PV.list (List.map ckc w_3) tl, PV.agg [PV.int IntKind.u32 (Ck.id c), PV.list (en1 IntKind.u32 (Ck.pl c)) t1, PV.list (en1 IntKind.u32 (Ck.ys c)) t2, PV.int IntKind.i64 (Ck.un c)]] ∧ List.length w_3 ≤ 100000 ∧ Rise Ck.id w_3 ∧ K (PV.tup [PV.list (List.map ckc (putG Ck.id w_3 c)) Tail.no, PV.agg [PV.int IntKind.u32 (Ck.id (getG Ck.id w_2 t_1)), PV.list (en1 IntKind.u32 (Ck.pl (getG Ck.id w_2 t_1))) Tail.no, PV.list [[PV.int IntKind.u32 p]] (Tail.tok 2), PV.int IntKind.i64 (Ck.un (getG Ck.id w_2 t_1))], PV.bool false, PV.int IntKind.i64 0]))) ∧ (en1 IntKind.u32 (Ck.ys (getG Ck.id w_2 t_1)) ≠ [] → AppL ([] ++ en1 IntKind.u32 (Ck.ys (getG Ck.id w_2 t_1))) [[PV.int IntKind.u32 p]] 1 4 ∧ (List.all [PV.int IntKind.u32 p] PV.one = true ∧ [[PV.int IntKind.u32 p]] ≠ []) ∧ ∃ (c : Ck), ∃ (t1 : Tail), ∃ (t2 : Tail), SlIs [PV.agg [PV.int IntKind.u32 (Ck.id (getG Ck.id w_2 t_1)), PV.list (en1 IntKind.u32 (Ck.pl (getG Ck.id w_2 t_1))) Tail.no, PV.list ([] ++ en1 IntKind.u32 (Ck.ys (getG Ck.id w_2 t_1)) ++ [[PV.int IntKind.u32 p]]) (Tail.tok 3), PV.int IntKind.i64 (Ck.un (getG Ck.id w_2 t_1))]] [PV.agg [PV.int IntKind.u32 (Ck.id c), PV.list (en1 IntKind.u32 (Ck.pl c)) t1, PV.list (en1 IntKind.u32 (Ck.ys c)) t2, PV.int IntKind.i64 (Ck.un c)]] ∧ Ck.Sm c ∧ br ((↑(List.length (List.map u1 (misS c))) : Int) == 0) (∃ (w_3 : List Ck), ∃ (tl : Tail), ∃ (t : Int), SlIs [PV.list (List.map ckc w) Tail.no, PV.int IntKind.u32 (Ck.id (getG Ck.id w_2 t_1))] [PV.list (List.map ckc w_3) tl, PV.int IntKind.u32 t] ∧ List.length w_3 ≤ 1000000 ∧ K (PV.tup [PV.list (List.map ckc (dropG Ck.id w_3 t)) Tail.no, PV.agg [PV.int IntKind.u32 (Ck.id (getG Ck.id w_2 t_1)), PV.list (en1 IntKind.u32 (Ck.pl (getG Ck.id w_2 t_1))) Tail.no, PV.list ([] ++ en1 IntKind.u32 (Ck.ys (getG Ck.id w_2 t_1)) ++ [[PV.int IntKind.u32 p]]) (Tail.tok 3), PV.int IntKind.i64 (Ck.un (getG Ck.id w_2 t_1))], PV.bool true, PV.int IntKind.i64 0])) (∃ (w_3 : List Ck), ∃ (tl : Tail), ∃ (c : Ck), ∃ (t1 : Tail), ∃ (t2 : Tail), SlIs [PV.list (List.map ckc w) Tail.no, PV.agg [PV.int IntKind.u32 (Ck.id (getG Ck.id w_2 t_1)), PV.list (en1 IntKind.u32 (Ck.pl (getG Ck.id w_2 t_1))) Tail.no, PV.list ([] ++ en1 IntKind.u32 (Ck.ys (getG Ck.id w_2 t_1)) ++ [[PV.int IntKind.u32 p]]) (Tail.tok 3), PV.int IntKind.i64 (Ck.un (getG Ck.id w_2 t_1))]] [PV.list (List.map ckc w_3) tl, PV.agg [PV.int IntKind.u32 (Ck.id c), PV.list (en1 IntKind.u32 (Ck.pl c)) t1, PV.list (en1 IntKind.u32 (Ck.ys c)) t2, PV.int IntKind.i64 (Ck.un c)]] ∧ List.length w_3 ≤ 100000 ∧ Rise Ck.id w_3 ∧ K (PV.tup [PV.list (List.map ckc (putG Ck.id w_3 c)) Tail.no, PV.agg [PV.int IntKind.u32 (Ck.id (getG Ck.id w_2 t_1)), PV.list (en1 IntKind.u32 (Ck.pl (getG Ck.id w_2 t_1))) Tail.no, PV.list ([] ++ en1 IntKind.u32 (Ck.ys (getG Ck.id w_2 t_1)) ++ [[PV.int IntKind.u32 p]]) (Tail.tok 3), PV.int IntKind.i64 (Ck.un (getG Ck.id w_2 t_1))], PV.bool false, PV.int IntKind.i64 0])))))) : ACalls Try.prog gl 53 [.list (w.map ckc) .no, .int .u32 p] [] (fun x _ => K x) :=
  acalls_of_wpc2 (T := TQ0) (L := []) (fun o => match o.dst with | some 31 => 4 | some 34 => 1 | some 42 => 101001 | some 44 => 101004 | some 46 => 101004 | some 48 => 101004 | some _ => 0 | none => match o.op with | .store _ (.tmp 5) (.tmp 44) => 1004 | .store _ (.tmp 5) (.tmp 48) => 1004 | _ => 0) Try.func53 (by kernel_rfl) (by kernel_rfl) (by kernel_rfl) (TQ0_ok) (LOk.nil _ _ _ _ _) (holds_of_eq (racc1_red w p K) h)
theorem RO.sml {w : List Ck} {m : Int} (h : RO w m) (hm : m ≤ 100000) : SmL w := ⟨by have := h.full; omega, fun c hc => (h.sm c hc).pl, fun c hc => (h.sm c hc).ys⟩
def rdP (w : List Ck) (pl : List Int) (k : Nat) : Bool := ofS w (pl.getD k 0) != 0 || memB (pl.drop (k + 1)) (pl.getD k 0)
def rdT (w : List Ck) (pl : List Int) (i : Nat) : Bool := (List.range i).any (rdP w pl)
def rrT (id : Int) (pl : List Int) (i : Nat) : Bool := rightS id && (pl.take i).all rightS
theorem rdT_succ (w : List Ck) (pl : List Int) (i : Nat) : rdT w pl (i + 1) = (rdT w pl i || rdP w pl i) := by
  unfold rdT; rw [List.range_succ, List.any_append]; simp
theorem rrT_succ (id : Int) {pl : List Int} {i : Nat} (h : i < pl.length) : rrT id pl (i + 1) = (rrT id pl i && rightS (pl.getD i 0)) := by
  unfold rrT; rw [take_snoc 0 h, List.all_append]; simp [Bool.and_assoc]
def ropl_l : LSp := fun e H Q => ∃ (w : List Ck) (m id un : Int) (pl : List Int), SmL w ∧ pl.length ≤ 100000 ∧ (∀ x ∈ pl, 0 ≤ x) ∧ SlIs (List.map e [0, 1, 2, 3, 4, 12, 13, 14]) [.list (w.map ckc) .no, .int .i64 m, .int .u32 id, .int .i64 un, .list (pl.map u1) .no, .bool (rightS id), .bool false, .int .i64 0] ∧ HpIs H [] ∧
  Q (.exit 0) (envS [0, 1, 2, 3, 4, 12, 13, 14] [.list (w.map ckc) .no, .int .i64 m, .int .u32 id, .int .i64 un, .list (pl.map u1) .no, .bool (rrT id pl pl.length), .bool (rdT w pl pl.length), .int .i64 pl.length]) []
theorem ropl_l_ok : ∀ e H Q, ropl_l e H Q → AW Try.prog gl Try.f52.ntmps (.loop (subOf [1, 1, 0, 1, 0] (bodyOf Try.f52))) Q e H := by
  rintro e H Q ⟨w, m, id, un, pl, sm, hl, h0, he, hH, hQ⟩
  refine aw_loop4 (hn := fun _ => 0) gl_low TQ0_ok (.nil _ _ _ _ _) (σ := Nat) [0, 1, 2, 3, 4, 12, 13, 14] (fun i => i ≤ pl.length) (fun i => [.list (w.map ckc) .no, .int .i64 m, .int .u32 id, .int .i64 un, .list (pl.map u1) .no, .bool (rrT id pl i), .bool (rdT w pl i), .int .i64 i]) (fun _ => []) (fun i => pl.length - i) 0 (Nat.zero_le _) (by rw [he]; simp [rrT, rdT]) hH ?_
  intro i hi
  have hi' : i ≤ pl.length := hi
  obtain ⟨b, hb⟩ : ∃ b, b = rrT id pl i := ⟨_, rfl⟩
  obtain ⟨c, hc⟩ : ∃ c, c = rdT w pl i := ⟨_, rfl⟩
  simp only [← hb, ← hc]
  refine ropl_vc w m id un pl b c i _ ?_
  simp only [br_if, dt, bt, bf, inL_u1, toNat_nat, List.length_map]
  by_cases h : i < pl.length
  · rw [if_pos (by omega)]
    simp only [getD_map 0 h]
    have hv : cI (u1 (pl.getD i 0)) 0 = pl.getD i 0 := rfl
    simp only [hv]
    have hx0 : 0 ≤ pl.getD i 0 := h0 _ (getD_mem h)
    have s1 := rrT_succ id h
    have s2 := rdT_succ w pl i
    rw [← hb] at s1
    rw [← hc] at s2
    have hwi := wI_succ h (by omega)
    have fin : ∀ (b' c' : Bool), b' = rrT id pl (i + 1) → c' = rdT w pl (i + 1) → loopR Q [0, 1, 2, 3, 4, 12, 13, 14] (fun i => i ≤ pl.length) (fun i => [.list (w.map ckc) .no, .int .i64 m, .int .u32 id, .int .i64 un, .list (pl.map u1) .no, .bool (rrT id pl i), .bool (rdT w pl i), .int .i64 i]) (fun _ => []) (fun i => pl.length - i) i .normal [.list (w.map ckc) .no, .int .i64 m, .int .u32 id, .int .i64 un, .list (pl.map u1) .no, .bool b', .bool c', .int .i64 (wI ((i : Int) + 1))] [] := by
      rintro b' c' rfl rfl
      exact ⟨i + 1, (show pl.length - (i + 1) < pl.length - i by omega), h, by rw [hwi], [], rfl, Nat.le_refl _, .inl rfl⟩
    have step : ∀ b' : Bool, b' = rrT id pl (i + 1) → (if c = false then i < pl.length ∧ (if (true && fitX [CK.int IntKind.u32] 0 (u1 (pl.getD i 0))) = true then (∃ (w_1 : List Ck) (tl : Tail) (t_1 : Int), SlIs [.list (w.map ckc) .no, .int .u32 (pl.getD i 0)] [.list (w_1.map ckc) tl, .int .u32 t_1] ∧ SmL w_1 ∧ (if (ofS w_1 t_1 != 0) = false then ((0 ≤ wI ((i : Int) + 1) ∧ wI ((i : Int) + 1) ≤ (pl.length : Int) ∧ (pl.length : Int) ≤ (pl.length : Int) ∧ (pl.length : Int) ≤ (pl.length : Int) ∧ uni 1 (pl.map u1)) ∧ i < pl.length ∧ (if (true && fitX [CK.int IntKind.u32] 0 (u1 (pl.getD i 0))) = true then (∃ (l : List Int) (tl : Tail) (t_2 : Int), SlIs [.list (List.drop (Int.toNat (wI ((i : Int) + 1))) (List.take pl.length (pl.map u1))) .no, .int .u32 (pl.getD i 0)] [.list (l.map u1) tl, .int .u32 t_2] ∧ l.length ≤ 1000000 ∧ loopR Q [0, 1, 2, 3, 4, 12, 13, 14] (fun i => i ≤ pl.length) (fun i => [.list (w.map ckc) .no, .int .i64 m, .int .u32 id, .int .i64 un, .list (pl.map u1) .no, .bool (rrT id pl i), .bool (rdT w pl i), .int .i64 i]) (fun _ => []) (fun i => pl.length - i) i .normal [.list (w.map ckc) .no, .int .i64 m, .int .u32 id, .int .i64 un, .list (pl.map u1) .no, .bool b', .bool (memB l t_2), .int .i64 (wI ((i : Int) + 1))] []) else False)) else loopR Q [0, 1, 2, 3, 4, 12, 13, 14] (fun i => i ≤ pl.length) (fun i => [.list (w.map ckc) .no, .int .i64 m, .int .u32 id, .int .i64 un, .list (pl.map u1) .no, .bool (rrT id pl i), .bool (rdT w pl i), .int .i64 i]) (fun _ => []) (fun i => pl.length - i) i .normal [.list (w.map ckc) .no, .int .i64 m, .int .u32 id, .int .i64 un, .list (pl.map u1) .no, .bool b', .bool true, .int .i64 (wI ((i : Int) + 1))] [])) else False) else loopR Q [0, 1, 2, 3, 4, 12, 13, 14] (fun i => i ≤ pl.length) (fun i => [.list (w.map ckc) .no, .int .i64 m, .int .u32 id, .int .i64 un, .list (pl.map u1) .no, .bool (rrT id pl i), .bool (rdT w pl i), .int .i64 i]) (fun _ => []) (fun i => pl.length - i) i .normal [.list (w.map ckc) .no, .int .i64 m, .int .u32 id, .int .i64 un, .list (pl.map u1) .no, .bool b', .bool true, .int .i64 (wI ((i : Int) + 1))] []) := by
      intro b' hb'
      by_cases k1 : c = false
      · rw [if_pos k1]
        refine ⟨h, ?_⟩
        rw [if_pos (by rfl)]
        refine ⟨w, .no, pl.getD i 0, rfl, sm, ?_⟩
        by_cases k2 : (ofS w (pl.getD i 0) != 0) = false
        · rw [if_pos k2]
          refine ⟨⟨by rw [hwi]; omega, by rw [hwi]; omega, by omega, by omega, uni_map u1_len _⟩, h, ?_⟩
          rw [if_pos (by rfl)]
          refine ⟨pl.drop (i + 1), .no, pl.getD i 0, (by show _ = _; rw [hwi, toNat_nat, ← List.map_take, ← List.map_drop, List.take_length]), by rw [List.length_drop]; omega, fin _ _ hb' ?_⟩
          rw [s2, k1]; unfold rdP; rw [k2]; rfl
        · rw [if_neg k2]
          refine fin _ _ hb' ?_
          have k2' : (ofS w (pl.getD i 0) != 0) = true := by simpa using k2
          rw [s2]; unfold rdP; rw [k2']; simp
      · rw [if_neg k1]
        refine fin _ _ hb' ?_
        have k1' : c = true := by simpa using k1
        rw [s2, k1']; rfl
    by_cases k0 : b = true
    · rw [if_pos k0]
      refine ⟨h, ?_⟩
      rw [if_pos (by rfl)]
      refine ⟨_, hx0, rfl, ?_⟩
      exact step _ (by rw [s1, k0]; rfl)
    · rw [if_neg k0]
      have k0' : b = false := eq_false_of_ne_true k0
      rw [k0'] at s1
      exact step false (by rw [s1]; rfl)
  · rw [if_neg (by omega)]
    have : i = pl.length := by omega
    subst this
    rw [hb, hc]
    exact hQ
theorem ropen1_red (w : List Ck) (m id un : Int) (pl : List Int) (K : PV → Prop) : (∃ (t : Int), 0 ≤ t ∧ SlIs [PV.int IntKind.u32 id] [PV.int IntKind.u32 t] ∧ ∃ (w_1 : List Ck), ∃ (m_1 : Int), ∃ (id_1 : Int), ∃ (un_1 : Int), ∃ (pl_1 : List Int), SmL w_1 ∧ List.length pl_1 ≤ 100000 ∧ (∀ (x : Int), x ∈ pl_1 → 0 ≤ x) ∧ SlIs [PV.list (List.map ckc w) Tail.no, PV.int IntKind.i64 m, PV.int IntKind.u32 id, PV.int IntKind.i64 un, PV.list (List.map u1 pl) Tail.no, PV.bool (rightS t), PV.bool false, PV.int IntKind.i64 0] [PV.list (List.map ckc w_1) Tail.no, PV.int IntKind.i64 m_1, PV.int IntKind.u32 id_1, PV.int IntKind.i64 un_1, PV.list (List.map u1 pl_1) Tail.no, PV.bool (rightS id_1), PV.bool false, PV.int IntKind.i64 0] ∧ HpIs [] [] ∧ br (!rrT id_1 pl_1 (List.length pl_1)) (K (PV.tup [PV.list (List.map ckc w_1) Tail.no, PV.int IntKind.i64 14])) (br (decide ((↑(List.length (List.map u1 pl_1)) : Int) < 1) == false) (br (decide ((↑(List.length (List.map u1 pl_1)) : Int) > 8)) (K (PV.tup [PV.list (List.map ckc w_1) Tail.no, PV.int IntKind.i64 21])) (∃ (w : List Ck), ∃ (tl : Tail), ∃ (t : Int), SlIs [PV.list (List.map ckc w_1) Tail.no, PV.int IntKind.u32 id_1] [PV.list (List.map ckc w) tl, PV.int IntKind.u32 t] ∧ List.length w ≤ 1000000 ∧ br (hasG Ck.id w t == false) (br (rdT w_1 pl_1 (List.length pl_1)) (K (PV.tup [PV.list (List.map ckc w_1) Tail.no, PV.int IntKind.i64 11])) (br (decide ((↑(List.length (List.map ckc w_1)) : Int) ≥ m_1)) (K (PV.tup [PV.list (List.map ckc w_1) Tail.no, PV.int IntKind.i64 10])) (AppL [] (List.map u1 pl_1) 1 4 ∧ ∃ (w : List Ck), ∃ (tl : Tail), ∃ (c : Ck), ∃ (t1 : Tail), ∃ (t2 : Tail), SlIs [PV.list (List.map ckc w_1) Tail.no, PV.agg [PV.int IntKind.u32 id_1, PV.list ([] ++ List.map u1 pl_1) Tail.no, PV.list [] Tail.exact, PV.int IntKind.i64 un_1]] [PV.list (List.map ckc w) tl, PV.agg [PV.int IntKind.u32 (Ck.id c), PV.list (en1 IntKind.u32 (Ck.pl c)) t1, PV.list (en1 IntKind.u32 (Ck.ys c)) t2, PV.int IntKind.i64 (Ck.un c)]] ∧ List.length w ≤ 100000 ∧ Rise Ck.id w ∧ K (PV.tup [PV.list (List.map ckc (putG Ck.id w c)) Tail.no, PV.int IntKind.i64 0])))) (K (PV.tup [PV.list (List.map ckc w_1) Tail.no, PV.int IntKind.i64 11])))) (K (PV.tup [PV.list (List.map ckc w_1) Tail.no, PV.int IntKind.i64 21])))) = wpc br Try.prog gl TQ0 [([1, 1, 0, 1, 0], ropl_l)] (fun _ => 0) (bodyOf Try.f52) [] (env0 [.list (w.map ckc) .no, .int .i64 m, .int .u32 id, .int .i64 un, .list (pl.map u1) .no]) [] (resQ Try.prog Try.f52.results.toList (fun x _ => K x)) := by kernel_rfl
theorem ropen1_vc (w : List Ck) (m id un : Int) (pl : List Int)  (K : PV → Prop) (h : ∃ (t : Int), 0 ≤ t ∧ SlIs [PV.int IntKind.u32 id] [PV.int IntKind.u32 t] ∧ ∃ (w_1 : List Ck), ∃ (m_1 : Int), ∃ (id_1 : Int), ∃ (un_1 : Int), ∃ (pl_1 : List Int), SmL w_1 ∧ List.length pl_1 ≤ 100000 ∧ (∀ (x : Int), x ∈ pl_1 → 0 ≤ x) ∧ SlIs [PV.list (List.map ckc w) Tail.no, PV.int IntKind.i64 m, PV.int IntKind.u32 id, PV.int IntKind.i64 un, PV.list (List.map u1 pl) Tail.no, PV.bool (rightS t), PV.bool false, PV.int IntKind.i64 0] [PV.list (List.map ckc w_1) Tail.no, PV.int IntKind.i64 m_1, PV.int IntKind.u32 id_1, PV.int IntKind.i64 un_1, PV.list (List.map u1 pl_1) Tail.no, PV.bool (rightS id_1), PV.bool false, PV.int IntKind.i64 0] ∧ HpIs [] [] ∧ br (!rrT id_1 pl_1 (List.length pl_1)) (K (PV.tup [PV.list (List.map ckc w_1) Tail.no, PV.int IntKind.i64 14])) (br (decide ((↑(List.length (List.map u1 pl_1)) : Int) < 1) == false) (br (decide ((↑(List.length (List.map u1 pl_1)) : Int) > 8)) (K (PV.tup [PV.list (List.map ckc w_1) Tail.no, PV.int IntKind.i64 21])) (∃ (w : List Ck), ∃ (tl : Tail), ∃ (t : Int), SlIs [PV.list (List.map ckc w_1) Tail.no, PV.int IntKind.u32 id_1] [PV.list (List.map ckc w) tl, PV.int IntKind.u32 t] ∧ List.length w ≤ 1000000 ∧ br (hasG Ck.id w t == false) (br (rdT w_1 pl_1 (List.length pl_1)) (K (PV.tup [PV.list (List.map ckc w_1) Tail.no, PV.int IntKind.i64 11])) (br (decide ((↑(List.length (List.map ckc w_1)) : Int) ≥ m_1)) (K (PV.tup [PV.list (List.map ckc w_1) Tail.no, PV.int IntKind.i64 10])) (AppL [] (List.map u1 pl_1) 1 4 ∧ ∃ (w : List Ck), ∃ (tl : Tail), ∃ (c : Ck), ∃ (t1 : Tail), ∃ (t2 : Tail), SlIs [PV.list (List.map ckc w_1) Tail.no, PV.agg [PV.int IntKind.u32 id_1, PV.list ([] ++ List.map u1 pl_1) Tail.no, PV.list [] Tail.exact, PV.int IntKind.i64 un_1]] [PV.list (List.map ckc w) tl, PV.agg [PV.int IntKind.u32 (Ck.id c), PV.list (en1 IntKind.u32 (Ck.pl c)) t1, PV.list (en1 IntKind.u32 (Ck.ys c)) t2, PV.int IntKind.i64 (Ck.un c)]] ∧ List.length w ≤ 100000 ∧ Rise Ck.id w ∧ K (PV.tup [PV.list (List.map ckc (putG Ck.id w c)) Tail.no, PV.int IntKind.i64 0])))) (K (PV.tup [PV.list (List.map ckc w_1) Tail.no, PV.int IntKind.i64 11])))) (K (PV.tup [PV.list (List.map ckc w_1) Tail.no, PV.int IntKind.i64 21])))) : ACalls Try.prog gl 52 [.list (w.map ckc) .no, .int .i64 m, .int .u32 id, .int .i64 un, .list (pl.map u1) .no] [] (fun x _ => K x) :=
  acalls_of_wpc2 (T := TQ0) (L := [([1, 1, 0, 1, 0], ropl_l)]) (fun _ => 0) Try.func52 (by kernel_rfl) (by kernel_rfl) (by kernel_rfl) (TQ0_ok) (.cons (sub_of (by kernel_rfl)) ropl_l_ok (.nil _ _ _ _ _)) (holds_of_eq (ropen1_red w m id un pl K) h)
-- they answer alike
theorem dup_iff {l : List Int} : (∃ k, k < l.length ∧ l.getD k 0 ∈ l.take k) ↔ (∃ k, k < l.length ∧ l.getD k 0 ∈ l.drop (k + 1)) := by
  constructor
  · rintro ⟨k, hk, h⟩
    obtain ⟨j, hj, e⟩ := List.mem_iff_getElem.1 h
    rw [List.length_take] at hj
    rw [List.getElem_take] at e
    refine ⟨j, by omega, ?_⟩
    rw [getD_eq' (show j < l.length by omega), e, getD_eq' hk]
    refine List.mem_iff_getElem.2 ⟨k - (j + 1), by rw [List.length_drop]; omega, ?_⟩
    rw [List.getElem_drop]
    congr 1; omega
  · rintro ⟨k, hk, h⟩
    obtain ⟨j, hj, e⟩ := List.mem_iff_getElem.1 h
    rw [List.length_drop] at hj
    rw [List.getElem_drop] at e
    refine ⟨k + 1 + j, by omega, ?_⟩
    rw [getD_eq' (show k + 1 + j < l.length by omega), e, getD_eq' hk]
    refine List.mem_iff_getElem.2 ⟨k, by rw [List.length_take]; omega, ?_⟩
    rw [List.getElem_take]
theorem dbl_eq (w : List Ck) (pl : List Int) : rdT w pl pl.length = dblS w pl := by
  unfold rdT dblS
  rw [Bool.eq_iff_iff, List.any_eq_true, List.any_eq_true]
  have h1 : ∀ k, rdP w pl k = true ↔ (ofS w (pl.getD k 0) ≠ 0 ∨ pl.getD k 0 ∈ pl.drop (k + 1)) := fun k => by
    unfold rdP; rw [Bool.or_eq_true, memB_iff, bne_iff_ne]
  have h2 : ∀ k, dP w pl k = true ↔ (pl.getD k 0 ∈ pl.take k ∨ ofS w (pl.getD k 0) ≠ 0) := fun k => by
    unfold dP; rw [Bool.or_eq_true, memB_iff, bne_iff_ne]
  simp only [h1, h2, List.mem_range]
  have hd := dup_iff (l := pl)
  constructor
  · rintro ⟨k, hk, h | h⟩
    · exact ⟨k, hk, .inr h⟩
    · obtain ⟨j, hj, h⟩ := hd.2 ⟨k, hk, h⟩
      exact ⟨j, hj, .inl h⟩
  · rintro ⟨k, hk, h | h⟩
    · obtain ⟨j, hj, h⟩ := hd.1 ⟨k, hk, h⟩
      exact ⟨j, hj, .inr h⟩
    · exact ⟨k, hk, .inl h⟩
theorem rr_eq (id : Int) (pl : List Int) : rrT id pl pl.length = (id :: pl).all rightS := by unfold rrT; rw [List.take_length]; rfl
def ropen_s (args : List PV) (K : PV → Prop) : Prop := ∃ (w : List Ck) (m id un : Int) (pl : List Int) (tl t2 : Tail), SlIs args [.list (w.map ckc) tl, .int .i64 m, .int .u32 id, .int .i64 un, .list (pl.map u1) t2] ∧ RO w m ∧ m ≤ 100000 ∧ pl.length ≤ 100000 ∧ 0 ≤ id ∧ (∀ x ∈ pl, 0 ≤ x) ∧ K (.tup [.list ((openS w m id un pl).1.map ckc) .no, .int .i64 (openS w m id un pl).2])
theorem ropen_ok : SpOk Try.prog gl 52 (.pure ropen_s) := by
  rintro args K ⟨w, m, id, un, pl, tl, t2, he, ro, hm, hpl, h0, hx, hk⟩
  have he : args = _ := he
  subst he
  have sm := ro.sml hm
  have hwl := ro.len
  refine spure_w gl_low (.cons (.list _ _) (.cons (.refl _) (.cons (.refl _) (.cons (.refl _) (.cons (.list _ _) .nil))))) (by
    intro y hy
    simp only [List.mem_cons, List.not_mem_nil, or_false] at hy
    rcases hy with rfl | rfl | rfl | rfl | rfl
    · exact low_ckl w
    · exact .int _ _
    · exact .int _ _
    · exact .int _ _
    · exact low_us pl) (.tup _ (low_two (low_ckl _) (.int _ _))) (ropen1_vc w m id un pl (fun x => x = .tup [.list ((openS w m id un pl).1.map ckc) .no, .int .i64 (openS w m id un pl).2]) ⟨id, h0, rfl, w, m, id, un, pl, sm, hpl, hx, rfl, rfl, ?_⟩) hk
  rw [rr_eq, dbl_eq]
  unfold openS
  simp only [br_if, dt, bf, List.length_map]
  by_cases c : (id :: pl).all rightS = true
  · rw [if_neg (by rw [c]; decide), if_pos c]
    by_cases c1 : pl.length < 1 ∨ 8 < pl.length
    · rw [if_pos c1]
      by_cases c2 : pl.length < 1
      · rw [if_neg (by simp; omega)]
      · rw [if_pos (by simp; omega), if_pos (by omega)]
    · rw [if_neg c1, if_pos (by simp; omega), if_neg (by omega)]
      refine ⟨w, .no, id, rfl, hwl, ?_⟩
      by_cases c3 : hasG Ck.id w id = true
      · rw [if_neg (by rw [c3]; decide), if_pos (.inl c3)]
      · rw [if_pos (eq_false_of_ne_true c3)]
        by_cases c4 : dblS w pl = true
        · rw [if_pos c4, if_pos (.inr c4)]
        · rw [if_neg c4, if_neg (show ¬ (hasG Ck.id w id = true ∨ dblS w pl = true) from fun h => h.elim c3 c4)]
          by_cases c5 : (w.length : Int) ≥ m
          · rw [if_pos c5, if_pos c5]
          · rw [if_neg c5, if_neg c5]
            exact ⟨⟨(fun _ h => nomatch h), uni_map u1_len _, by simp; omega⟩, w, .no, ⟨id, pl, [], un⟩, .no, .exact, rfl, sm.len, ro.rise, rfl⟩
  · rw [if_pos (by rw [eq_false_of_ne_true c]; rfl), if_neg c]
theorem acc_in {w : List Ck} {m : Int} (ro : RO w m) {p : Int} (h : hasG Ck.id w (ofS w p) = true) : accC w p ∈ w ∧ p ∈ (accC w p).pl := by
  have hm := getG_mem h
  refine ⟨hm.1, ?_⟩
  unfold ofS at hm h
  unfold accC ofS
  by_cases c : w.findIdx (fun c => memB c.pl p) < w.length
  · rw [if_pos c] at hm ⊢
    have h1 : w.getD (w.findIdx (fun c => memB c.pl p)) default ∈ w := getD_mem c
    rw [getG_of ro.rise h1]
    have := List.findIdx_getElem (p := fun c : Ck => memB c.pl p) (xs := w) (w := c)
    rw [getD_eq' c]
    exact memB_iff.1 this
  · rw [if_neg c] at hm
    have := (ro.cs _ hm.1).rt
    rw [hm.2] at this
    exact absurd this (by decide)
theorem mis_iff {c : Ck} {p : Int} (ok : c.Ok) (hp : p ∈ c.pl) (hn : ¬ memB c.ys p = true) : (misS ⟨c.id, c.pl, c.ys ++ [p], c.un⟩).length = 0 ↔ (c.ys ++ [p]).length = c.pl.length := by
  have hn' : p ∉ c.ys := fun h => hn (memB_iff.2 h)
  have nd : (c.ys ++ [p]).Nodup := by
    rw [List.nodup_append]
    exact ⟨ok.yn, by simp, fun a ha b hb => by rcases List.mem_singleton.1 hb with rfl; exact fun e => hn' (e ▸ ha)⟩
  have sub : ∀ x ∈ c.ys ++ [p], x ∈ c.pl := fun x hx => by
    rcases List.mem_append.1 hx with hx | hx
    · exact ok.sub x hx
    · rcases List.mem_singleton.1 hx with rfl; exact hp
  have h1 : (misS ⟨c.id, c.pl, c.ys ++ [p], c.un⟩).length = 0 ↔ ∀ x ∈ c.pl, x ∈ c.ys ++ [p] := by
    rw [List.length_eq_zero_iff]
    unfold misS
    rw [List.filter_eq_nil_iff]
    simp only [Bool.not_eq_true', Bool.not_eq_false, memB_iff]
  rw [h1]
  constructor
  · intro h
    have a := List.Nodup.length_le_of_subset ok.nd h
    have b := List.Nodup.length_le_of_subset nd sub
    omega
  · intro h x hx
    refine Classical.byContradiction fun hc => ?_
    have := List.Nodup.length_le_of_subset (List.nodup_cons.2 ⟨hc, nd⟩) (fun y hy => by
      rcases List.mem_cons.1 hy with rfl | hy
      · exact hx
      · exact sub y hy : (x :: (c.ys ++ [p])) ⊆ c.pl)
    rw [List.length_cons] at this
    omega
def racc_s (args : List PV) (K : PV → Prop) : Prop := ∃ (w : List Ck) (m p : Int) (tl : Tail), SlIs args [.list (w.map ckc) tl, .int .u32 p] ∧ RO w m ∧ m ≤ 100000 ∧ K (.tup [.list ((accS w p).1.map ckc) .no, (accS w p).2.1.pv, .bool (accS w p).2.2.1, .int .i64 (accS w p).2.2.2])
theorem wk_ck4 {L : List (List PV)} {c : Ck} {b : Bool} {n : Int} {t t1 t2 : Tail} : Wk (.tup [.list L t, .agg [.int .u32 c.id, .list (en1 .u32 c.pl) t1, .list (en1 .u32 c.ys) t2, .int .i64 c.un], .bool b, .int .i64 n]) (.tup [.list L .no, c.pv, .bool b, .int .i64 n]) := .tup (.cons (.list _ _) (.cons wk_ck (.cons (.refl _) (.cons (.refl _) .nil))))
theorem racc_ok : SpOk Try.prog gl 53 (.pure racc_s) := by
  rintro args K ⟨w, m, p, tl, he, ro, hm, hk⟩
  have he : args = _ := he
  subst he
  have sm := ro.sml hm
  have hwl := ro.len
  refine spure_w gl_low (.cons (.list _ _) (.cons (.refl _) .nil)) (low_two (low_ckl w) (.int _ _)) (.tup _ (low_four (low_ckl _) (Ck.low _) (.bool _) (.int _ _))) (acalls_weak (racc1_vc w p (fun x => ∃ x1, Wk x x1 ∧ x1 = .tup [.list ((accS w p).1.map ckc) .no, (accS w p).2.1.pv, .bool (accS w p).2.2.1, .int .i64 (accS w p).2.2.2]) ⟨w, .no, p, rfl, sm, w, .no, ofS w p, rfl, hwl, ?_⟩)) hk
  obtain ⟨c, hc⟩ : ∃ c, c = getG Ck.id w (ofS w p) := ⟨_, rfl⟩
  have hn : accN w p = ⟨c.id, c.pl, c.ys ++ [p], c.un⟩ := by rw [hc]; rfl
  have hcc : accC w p = c := hc.symm
  unfold accS
  rw [hn, hcc, ← hc]
  simp only [br_if]
  by_cases c1 : hasG Ck.id w (ofS w p) = true
  · rw [if_neg (by rw [c1]; decide), if_pos c1]
    obtain ⟨hcm, hp⟩ := acc_in ro c1
    rw [hcc] at hcm hp
    have ck := ro.cs c hcm
    have hle := ck.le
    have h8 := ck.n8
    refine ⟨c.ys, .no, p, rfl, by omega, ?_⟩
    by_cases c3 : memB c.ys p = true
    · rw [if_pos c3, if_pos c3]
      exact ⟨_, wk_ck4 (c := ck0) (t1 := .exact) (t2 := .exact), rfl⟩
    · rw [if_neg c3, if_neg c3]
      have hmi := mis_iff ck hp c3
      have hsm : (⟨c.id, c.pl, c.ys ++ [p], c.un⟩ : Ck).Sm := ⟨by show c.pl.length ≤ _; omega, by show (c.ys ++ [p]).length ≤ _; rw [List.length_append, List.length_singleton]; omega⟩
      have e4 : en1 .u32 (c.ys ++ [p]) = en1 .u32 c.ys ++ [[PV.int .u32 p]] := (en1_append _ _ _).symm
      have hone := one_row one_u1 p
      have hall : ((en1 .u32 c.ys).flatten).all PV.one = true := List.all_eq_true.2 (by intro y hy; obtain ⟨c', h2, h3⟩ := List.mem_flatten.1 hy; obtain ⟨a, _, rfl⟩ := List.mem_map.1 h2; exact one_u1 a y h3)
      have ew := fun (L : List (List PV)) (b : Bool) (t : Tail) => wk_ck4 (L := L) (c := ⟨c.id, c.pl, c.ys ++ [p], c.un⟩) (b := b) (n := 0) (t := .no) (t1 := .no) (t2 := t)
      simp only [e4] at ew
      refine ⟨⟨(fun _ h => nomatch h), uni_map u1_len _, by simp [en1_length]; omega⟩, hall, fun c0 => ?_, fun c0 => ?_⟩
      · have c0' : c.ys = [] := us_nil c0
        rw [c0'] at e4 hmi hsm ⊢
        simp only [c0'] at ew
        refine ⟨appL_map (l := []) u1_len p (by show (0 + 1) * 4 ≤ _; decide), hone, ⟨c.id, c.pl, [p], c.un⟩, .no, _, rfl, hsm, ?_⟩
        rw [List.length_map]
        by_cases c2 : (misS ⟨c.id, c.pl, [p], c.un⟩).length = 0
        · rw [if_pos (by simpa using c2), if_pos (by have := hmi.1 c2; show (([] ++ [p] : List Int).length : Int) = _; rw [this])]
          exact ⟨w, .no, c.id, rfl, hwl, _, ew _ true _, rfl⟩
        · have k2 : ¬ (([] ++ [p] : List Int).length : Int) = c.pl.length := by
            intro k
            refine c2 (hmi.2 ?_)
            show (1 : Nat) = _
            have k' : (1 : Int) = c.pl.length := k
            omega
          rw [if_neg (by simpa using c2), if_neg k2]
          exact ⟨w, .no, ⟨c.id, c.pl, [p], c.un⟩, .no, _, rfl, sm.len, ro.rise, _, ew _ false _, rfl⟩
      · refine ⟨appL_map u1_len c.ys p (by omega), hone, ⟨c.id, c.pl, c.ys ++ [p], c.un⟩, .no, _, (by show _ = _; simp only [e4]; rfl), hsm, ?_⟩
        rw [List.length_map]
        by_cases c2 : (misS ⟨c.id, c.pl, c.ys ++ [p], c.un⟩).length = 0
        · rw [if_pos (by simpa using c2), if_pos (by have := hmi.1 c2; show ((c.ys ++ [p]).length : Int) = _; rw [this])]
          exact ⟨w, .no, c.id, rfl, hwl, _, ew _ true _, rfl⟩
        · rw [if_neg (by simpa using c2), if_neg (by intro k; exact c2 (hmi.2 (by exact_mod_cast k)))]
          exact ⟨w, .no, ⟨c.id, c.pl, c.ys ++ [p], c.un⟩, .no, _, (by show _ = _; simp only [e4]; rfl), sm.len, ro.rise, _, ew _ false _, rfl⟩
  · rw [if_pos (by rw [eq_false_of_ne_true c1]; rfl), if_neg c1]
    exact ⟨_, wk_ck4 (c := ck0) (t1 := .exact) (t2 := .exact), rfl⟩
end Go.Proofs.Ythabdpaipgclpaa
