/-
  The laws RackBound and RackNil, step by step.
-/
import Derived.Test.YtcmknbanojcbaaaKw
import Derived.Test.YtcmknbanojcbaaaProg
namespace Go.Proofs.Ytcmknbanojcbaaa
open Go Go.AM Go.Proofs
theorem bnd_red (l : List RwI) (m n : Int) (ids : List Int) (i : Nat) (R : Ex → List PV → Heap → Prop) : (br (decide ((↑i : Int) < (↑(List.length (en1 IntKind.u32 ids)) : Int))) (∃ (q : Nat), ∃ (l_1 : List RwI), ∃ (most : Int), SlIs [PV.ptr 0 0] [PV.ptr q 0] ∧ AbIs [Ob.abs (rkI l m)] q (rkI l_1 most) ∧ Ok l_1 most ∧ InL (en1 IntKind.u32 ids) 1 (↑i : Int) ∧ br (true && fitX [CK.int IntKind.u32] 0 (List.getD (en1 IntKind.u32 ids) (Int.toNat (↑i : Int)) [])) (∃ (l_2 : List RwI), ∃ (most : Int), ∃ (t : Int), ∃ (v : Int), SlIs [PV.int IntKind.u32 (cI (List.getD (en1 IntKind.u32 ids) (Int.toNat (↑i : Int)) []) 0), PV.int IntKind.i64 (↑i : Int)] [PV.int IntKind.u32 t, PV.int IntKind.i64 v] ∧ AbIs [Ob.abs (rkI l m)] 0 (rkI l_2 most) ∧ Ok l_2 most ∧ ∃ (q : Nat), ∃ (l : List RwI), ∃ (most_1 : Int), SlIs [PV.ptr 0 0] [PV.ptr q 0] ∧ AbIs [Ob.abs (rkI (Prod.fst (addL l_2 most t v)) most)] q (rkI l most_1) ∧ Ok l most_1 ∧ br ((Prod.snd (addL l_2 most t v) != 0) == true) (∃ (a : List Int), ∃ (b : List Int), ∃ (t_1 : Tail), ∃ (t' : Tail), SlIs [PV.list (idsL l_1) Tail.no, PV.list (idsL l) Tail.no] [PV.list (en1 IntKind.u32 a) t_1, PV.list (en1 IntKind.u32 b) t'] ∧ List.length a ≤ 1000000 ∧ br ((!decide (a = b)) == false) (br ((Prod.snd (addL l_2 most t v) == 0) == true) (br (((↑(List.length (idsL l)) : Int) != wI ((↑(List.length (idsL l_1)) : Int) + 1)) == false) (br (decide ((↑(List.length (idsL l)) : Int) > wI n) == false) (∃ (q : Nat), ∃ (l_3 : List RwI), ∃ (most_2 : Int), SlIs [PV.ptr 0 0] [PV.ptr q 0] ∧ AbIs [Ob.abs (rkI (Prod.fst (addL l_2 most t v)) most)] q (rkI l_3 most_2) ∧ br ((↑(List.length l_3) : Int) != (↑(List.length (idsL l)) : Int)) (R Ex.ret [PV.int IntKind.u8 n, PV.list (en1 IntKind.u32 ids) Tail.no, PV.bool false, PV.ptr 0 0, PV.int IntKind.i64 (↑i : Int)] [Ob.abs (rkI (Prod.fst (addL l_2 most t v)) most)]) (∃ (q : Nat), ∃ (l_4 : List RwI), ∃ (most_3 : Int), SlIs [PV.ptr 0 0] [PV.ptr q 0] ∧ AbIs [Ob.abs (rkI (Prod.fst (addL l_2 most t v)) most)] q (rkI l_4 most_3) ∧ Ok l_4 most_3 ∧ br ((freeL l_4 most_3 == 0) != ((↑(List.length (idsL l)) : Int) == wI n)) (R Ex.ret [PV.int IntKind.u8 n, PV.list (en1 IntKind.u32 ids) Tail.no, PV.bool false, PV.ptr 0 0, PV.int IntKind.i64 (↑i : Int)] [Ob.abs (rkI (Prod.fst (addL l_2 most t v)) most)]) (R Ex.normal [PV.int IntKind.u8 n, PV.list (en1 IntKind.u32 ids) Tail.no, PV.bool false, PV.ptr 0 0, PV.int IntKind.i64 (wI ((↑i : Int) + 1))] [Ob.abs (rkI (Prod.fst (addL l_2 most t v)) most)]))) (R Ex.ret [PV.int IntKind.u8 n, PV.list (en1 IntKind.u32 ids) Tail.no, PV.bool false, PV.ptr 0 0, PV.int IntKind.i64 (↑i : Int)] [Ob.abs (rkI (Prod.fst (addL l_2 most t v)) most)])) (R Ex.ret [PV.int IntKind.u8 n, PV.list (en1 IntKind.u32 ids) Tail.no, PV.bool false, PV.ptr 0 0, PV.int IntKind.i64 (↑i : Int)] [Ob.abs (rkI (Prod.fst (addL l_2 most t v)) most)])) (br (decide ((↑(List.length (idsL l)) : Int) > wI n) == false) (∃ (q : Nat), ∃ (l_3 : List RwI), ∃ (most_2 : Int), SlIs [PV.ptr 0 0] [PV.ptr q 0] ∧ AbIs [Ob.abs (rkI (Prod.fst (addL l_2 most t v)) most)] q (rkI l_3 most_2) ∧ br ((↑(List.length l_3) : Int) != (↑(List.length (idsL l)) : Int)) (R Ex.ret [PV.int IntKind.u8 n, PV.list (en1 IntKind.u32 ids) Tail.no, PV.bool false, PV.ptr 0 0, PV.int IntKind.i64 (↑i : Int)] [Ob.abs (rkI (Prod.fst (addL l_2 most t v)) most)]) (∃ (q : Nat), ∃ (l_4 : List RwI), ∃ (most_3 : Int), SlIs [PV.ptr 0 0] [PV.ptr q 0] ∧ AbIs [Ob.abs (rkI (Prod.fst (addL l_2 most t v)) most)] q (rkI l_4 most_3) ∧ Ok l_4 most_3 ∧ br ((freeL l_4 most_3 == 0) != ((↑(List.length (idsL l)) : Int) == wI n)) (R Ex.ret [PV.int IntKind.u8 n, PV.list (en1 IntKind.u32 ids) Tail.no, PV.bool false, PV.ptr 0 0, PV.int IntKind.i64 (↑i : Int)] [Ob.abs (rkI (Prod.fst (addL l_2 most t v)) most)]) (R Ex.normal [PV.int IntKind.u8 n, PV.list (en1 IntKind.u32 ids) Tail.no, PV.bool false, PV.ptr 0 0, PV.int IntKind.i64 (wI ((↑i : Int) + 1))] [Ob.abs (rkI (Prod.fst (addL l_2 most t v)) most)]))) (R Ex.ret [PV.int IntKind.u8 n, PV.list (en1 IntKind.u32 ids) Tail.no, PV.bool false, PV.ptr 0 0, PV.int IntKind.i64 (↑i : Int)] [Ob.abs (rkI (Prod.fst (addL l_2 most t v)) most)]))) (R Ex.ret [PV.int IntKind.u8 n, PV.list (en1 IntKind.u32 ids) Tail.no, PV.bool false, PV.ptr 0 0, PV.int IntKind.i64 (↑i : Int)] [Ob.abs (rkI (Prod.fst (addL l_2 most t v)) most)])) (br ((Prod.snd (addL l_2 most t v) == 0) == true) (br (((↑(List.length (idsL l)) : Int) != wI ((↑(List.length (idsL l_1)) : Int) + 1)) == false) (br (decide ((↑(List.length (idsL l)) : Int) > wI n) == false) (∃ (q : Nat), ∃ (l_3 : List RwI), ∃ (most_2 : Int), SlIs [PV.ptr 0 0] [PV.ptr q 0] ∧ AbIs [Ob.abs (rkI (Prod.fst (addL l_2 most t v)) most)] q (rkI l_3 most_2) ∧ br ((↑(List.length l_3) : Int) != (↑(List.length (idsL l)) : Int)) (R Ex.ret [PV.int IntKind.u8 n, PV.list (en1 IntKind.u32 ids) Tail.no, PV.bool false, PV.ptr 0 0, PV.int IntKind.i64 (↑i : Int)] [Ob.abs (rkI (Prod.fst (addL l_2 most t v)) most)]) (∃ (q : Nat), ∃ (l_4 : List RwI), ∃ (most_3 : Int), SlIs [PV.ptr 0 0] [PV.ptr q 0] ∧ AbIs [Ob.abs (rkI (Prod.fst (addL l_2 most t v)) most)] q (rkI l_4 most_3) ∧ Ok l_4 most_3 ∧ br ((freeL l_4 most_3 == 0) != ((↑(List.length (idsL l)) : Int) == wI n)) (R Ex.ret [PV.int IntKind.u8 n, PV.list (en1 IntKind.u32 ids) Tail.no, PV.bool false, PV.ptr 0 0, PV.int IntKind.i64 (↑i : Int)] [Ob.abs (rkI (Prod.fst (addL l_2 most t v)) most)]) (R Ex.normal [PV.int IntKind.u8 n, PV.list (en1 IntKind.u32 ids) Tail.no, PV.bool false, PV.ptr 0 0, PV.int IntKind.i64 (wI ((↑i : Int) + 1))] [Ob.abs (rkI (Prod.fst (addL l_2 most t v)) most)]))) (R Ex.ret [PV.int IntKind.u8 n, PV.list (en1 IntKind.u32 ids) Tail.no, PV.bool false, PV.ptr 0 0, PV.int IntKind.i64 (↑i : Int)] [Ob.abs (rkI (Prod.fst (addL l_2 most t v)) most)])) (R Ex.ret [PV.int IntKind.u8 n, PV.list (en1 IntKind.u32 ids) Tail.no, PV.bool false, PV.ptr 0 0, PV.int IntKind.i64 (↑i : Int)] [Ob.abs (rkI (Prod.fst (addL l_2 most t v)) most)])) (br (decide ((↑(List.length (idsL l)) : Int) > wI n) == false) (∃ (q : Nat), ∃ (l_3 : List RwI), ∃ (most_2 : Int), SlIs [PV.ptr 0 0] [PV.ptr q 0] ∧ AbIs [Ob.abs (rkI (Prod.fst (addL l_2 most t v)) most)] q (rkI l_3 most_2) ∧ br ((↑(List.length l_3) : Int) != (↑(List.length (idsL l)) : Int)) (R Ex.ret [PV.int IntKind.u8 n, PV.list (en1 IntKind.u32 ids) Tail.no, PV.bool false, PV.ptr 0 0, PV.int IntKind.i64 (↑i : Int)] [Ob.abs (rkI (Prod.fst (addL l_2 most t v)) most)]) (∃ (q : Nat), ∃ (l_4 : List RwI), ∃ (most_3 : Int), SlIs [PV.ptr 0 0] [PV.ptr q 0] ∧ AbIs [Ob.abs (rkI (Prod.fst (addL l_2 most t v)) most)] q (rkI l_4 most_3) ∧ Ok l_4 most_3 ∧ br ((freeL l_4 most_3 == 0) != ((↑(List.length (idsL l)) : Int) == wI n)) (R Ex.ret [PV.int IntKind.u8 n, PV.list (en1 IntKind.u32 ids) Tail.no, PV.bool false, PV.ptr 0 0, PV.int IntKind.i64 (↑i : Int)] [Ob.abs (rkI (Prod.fst (addL l_2 most t v)) most)]) (R Ex.normal [PV.int IntKind.u8 n, PV.list (en1 IntKind.u32 ids) Tail.no, PV.bool false, PV.ptr 0 0, PV.int IntKind.i64 (wI ((↑i : Int) + 1))] [Ob.abs (rkI (Prod.fst (addL l_2 most t v)) most)]))) (R Ex.ret [PV.int IntKind.u8 n, PV.list (en1 IntKind.u32 ids) Tail.no, PV.bool false, PV.ptr 0 0, PV.int IntKind.i64 (↑i : Int)] [Ob.abs (rkI (Prod.fst (addL l_2 most t v)) most)])))) False) (R (Ex.exit 0) [PV.int IntKind.u8 n, PV.list (en1 IntKind.u32 ids) Tail.no, PV.bool false, PV.ptr 0 0, PV.int IntKind.i64 (↑i : Int)] [Ob.abs (rkI l m)])) = wpc br Try.prog gl TR7 [] (fun _ => 0) (subOf [1, 1, 1, 0, 1, 0] (bodyOf Try.f4)) [] (envS [0, 1, 4, 5, 6] [.int .u8 n, .list (en1 .u32 ids) .no, .bool false, .ptr 0 0, .int .i64 i]) [.abs (rkI l m)] (fun ex e H => R ex (List.map e [0, 1, 4, 5, 6]) H) := by kernel_rfl
theorem bnd_vc (l : List RwI) (m n : Int) (ids : List Int) (i : Nat) (R : Ex → List PV → Heap → Prop) (h : br (decide ((↑i : Int) < (↑(List.length (en1 IntKind.u32 ids)) : Int))) (∃ (q : Nat), ∃ (l_1 : List RwI), ∃ (most : Int), SlIs [PV.ptr 0 0] [PV.ptr q 0] ∧ AbIs [Ob.abs (rkI l m)] q (rkI l_1 most) ∧ Ok l_1 most ∧ InL (en1 IntKind.u32 ids) 1 (↑i : Int) ∧ br (true && fitX [CK.int IntKind.u32] 0 (List.getD (en1 IntKind.u32 ids) (Int.toNat (↑i : Int)) [])) (∃ (l_2 : List RwI), ∃ (most : Int), ∃ (t : Int), ∃ (v : Int), SlIs [PV.int IntKind.u32 (cI (List.getD (en1 IntKind.u32 ids) (Int.toNat (↑i : Int)) []) 0), PV.int IntKind.i64 (↑i : Int)] [PV.int IntKind.u32 t, PV.int IntKind.i64 v] ∧ AbIs [Ob.abs (rkI l m)] 0 (rkI l_2 most) ∧ Ok l_2 most ∧ ∃ (q : Nat), ∃ (l : List RwI), ∃ (most_1 : Int), SlIs [PV.ptr 0 0] [PV.ptr q 0] ∧ AbIs [Ob.abs (rkI (Prod.fst (addL l_2 most t v)) most)] q (rkI l most_1) ∧ Ok l most_1 ∧ br ((Prod.snd (addL l_2 most t v) != 0) == true) (∃ (a : List Int), ∃ (b : List Int), ∃ (t_1 : Tail), ∃ (t' : Tail), SlIs [PV.list (idsL l_1) Tail.no, PV.list (idsL l) Tail.no] [PV.list (en1 IntKind.u32 a) t_1, PV.list (en1 IntKind.u32 b) t'] ∧ List.length a ≤ 1000000 ∧ br ((!decide (a = b)) == false) (br ((Prod.snd (addL l_2 most t v) == 0) == true) (br (((↑(List.length (idsL l)) : Int) != wI ((↑(List.length (idsL l_1)) : Int) + 1)) == false) (br (decide ((↑(List.length (idsL l)) : Int) > wI n) == false) (∃ (q : Nat), ∃ (l_3 : List RwI), ∃ (most_2 : Int), SlIs [PV.ptr 0 0] [PV.ptr q 0] ∧ AbIs [Ob.abs (rkI (Prod.fst (addL l_2 most t v)) most)] q (rkI l_3 most_2) ∧ br ((↑(List.length l_3) : Int) != (↑(List.length (idsL l)) : Int)) (R Ex.ret [PV.int IntKind.u8 n, PV.list (en1 IntKind.u32 ids) Tail.no, PV.bool false, PV.ptr 0 0, PV.int IntKind.i64 (↑i : Int)] [Ob.abs (rkI (Prod.fst (addL l_2 most t v)) most)]) (∃ (q : Nat), ∃ (l_4 : List RwI), ∃ (most_3 : Int), SlIs [PV.ptr 0 0] [PV.ptr q 0] ∧ AbIs [Ob.abs (rkI (Prod.fst (addL l_2 most t v)) most)] q (rkI l_4 most_3) ∧ Ok l_4 most_3 ∧ br ((freeL l_4 most_3 == 0) != ((↑(List.length (idsL l)) : Int) == wI n)) (R Ex.ret [PV.int IntKind.u8 n, PV.list (en1 IntKind.u32 ids) Tail.no, PV.bool false, PV.ptr 0 0, PV.int IntKind.i64 (↑i : Int)] [Ob.abs (rkI (Prod.fst (addL l_2 most t v)) most)]) (R Ex.normal [PV.int IntKind.u8 n, PV.list (en1 IntKind.u32 ids) Tail.no, PV.bool false, PV.ptr 0 0, PV.int IntKind.i64 (wI ((↑i : Int) + 1))] [Ob.abs (rkI (Prod.fst (addL l_2 most t v)) most)]))) (R Ex.ret [PV.int IntKind.u8 n, PV.list (en1 IntKind.u32 ids) Tail.no, PV.bool false, PV.ptr 0 0, PV.int IntKind.i64 (↑i : Int)] [Ob.abs (rkI (Prod.fst (addL l_2 most t v)) most)])) (R Ex.ret [PV.int IntKind.u8 n, PV.list (en1 IntKind.u32 ids) Tail.no, PV.bool false, PV.ptr 0 0, PV.int IntKind.i64 (↑i : Int)] [Ob.abs (rkI (Prod.fst (addL l_2 most t v)) most)])) (br (decide ((↑(List.length (idsL l)) : Int) > wI n) == false) (∃ (q : Nat), ∃ (l_3 : List RwI), ∃ (most_2 : Int), SlIs [PV.ptr 0 0] [PV.ptr q 0] ∧ AbIs [Ob.abs (rkI (Prod.fst (addL l_2 most t v)) most)] q (rkI l_3 most_2) ∧ br ((↑(List.length l_3) : Int) != (↑(List.length (idsL l)) : Int)) (R Ex.ret [PV.int IntKind.u8 n, PV.list (en1 IntKind.u32 ids) Tail.no, PV.bool false, PV.ptr 0 0, PV.int IntKind.i64 (↑i : Int)] [Ob.abs (rkI (Prod.fst (addL l_2 most t v)) most)]) (∃ (q : Nat), ∃ (l_4 : List RwI), ∃ (most_3 : Int), SlIs [PV.ptr 0 0] [PV.ptr q 0] ∧ AbIs [Ob.abs (rkI (Prod.fst (addL l_2 most t v)) most)] q (rkI l_4 most_3) ∧ Ok l_4 most_3 ∧ br ((freeL l_4 most_3 == 0) != ((↑(List.length (idsL l)) : Int) == wI n)) (R Ex.ret [PV.int IntKind.u8 n, PV.list (en1 IntKind.u32 ids) Tail.no, PV.bool false, PV.ptr 0 0, PV.int IntKind.i64 (↑i : Int)] [Ob.abs (rkI (Prod.fst (addL l_2 most t v)) most)]) (R Ex.normal [PV.int IntKind.u8 n, PV.list (en1 IntKind.u32 ids) Tail.no, PV.bool false, PV.ptr 0 0, PV.int IntKind.i64 (wI ((↑i : Int) + 1))] [Ob.abs (rkI (Prod.fst (addL l_2 most t v)) most)]))) (R Ex.ret [PV.int IntKind.u8 n, PV.list (en1 IntKind.u32 ids) Tail.no, PV.bool false, PV.ptr 0 0, PV.int IntKind.i64 (↑i : Int)] [Ob.abs (rkI (Prod.fst (addL l_2 most t v)) most)]))) (R Ex.ret [PV.int IntKind.u8 n, PV.list (en1 IntKind.u32 ids) Tail.no, PV.bool false, PV.ptr 0 0, PV.int IntKind.i64 (↑i : Int)] [Ob.abs (rkI (Prod.fst (addL l_2 most t v)) most)])) (br ((Prod.snd (addL l_2 most t v) == 0) == true) (br (((↑(List.length (idsL l)) : Int) != wI ((↑(List.length (idsL l_1)) : Int) + 1)) == false) (br (decide ((↑(List.length (idsL l)) : Int) > wI n) == false) (∃ (q : Nat), ∃ (l_3 : List RwI), ∃ (most_2 : Int), SlIs [PV.ptr 0 0] [PV.ptr q 0] ∧ AbIs [Ob.abs (rkI (Prod.fst (addL l_2 most t v)) most)] q (rkI l_3 most_2) ∧ br ((↑(List.length l_3) : Int) != (↑(List.length (idsL l)) : Int)) (R Ex.ret [PV.int IntKind.u8 n, PV.list (en1 IntKind.u32 ids) Tail.no, PV.bool false, PV.ptr 0 0, PV.int IntKind.i64 (↑i : Int)] [Ob.abs (rkI (Prod.fst (addL l_2 most t v)) most)]) (∃ (q : Nat), ∃ (l_4 : List RwI), ∃ (most_3 : Int), SlIs [PV.ptr 0 0] [PV.ptr q 0] ∧ AbIs [Ob.abs (rkI (Prod.fst (addL l_2 most t v)) most)] q (rkI l_4 most_3) ∧ Ok l_4 most_3 ∧ br ((freeL l_4 most_3 == 0) != ((↑(List.length (idsL l)) : Int) == wI n)) (R Ex.ret [PV.int IntKind.u8 n, PV.list (en1 IntKind.u32 ids) Tail.no, PV.bool false, PV.ptr 0 0, PV.int IntKind.i64 (↑i : Int)] [Ob.abs (rkI (Prod.fst (addL l_2 most t v)) most)]) (R Ex.normal [PV.int IntKind.u8 n, PV.list (en1 IntKind.u32 ids) Tail.no, PV.bool false, PV.ptr 0 0, PV.int IntKind.i64 (wI ((↑i : Int) + 1))] [Ob.abs (rkI (Prod.fst (addL l_2 most t v)) most)]))) (R Ex.ret [PV.int IntKind.u8 n, PV.list (en1 IntKind.u32 ids) Tail.no, PV.bool false, PV.ptr 0 0, PV.int IntKind.i64 (↑i : Int)] [Ob.abs (rkI (Prod.fst (addL l_2 most t v)) most)])) (R Ex.ret [PV.int IntKind.u8 n, PV.list (en1 IntKind.u32 ids) Tail.no, PV.bool false, PV.ptr 0 0, PV.int IntKind.i64 (↑i : Int)] [Ob.abs (rkI (Prod.fst (addL l_2 most t v)) most)])) (br (decide ((↑(List.length (idsL l)) : Int) > wI n) == false) (∃ (q : Nat), ∃ (l_3 : List RwI), ∃ (most_2 : Int), SlIs [PV.ptr 0 0] [PV.ptr q 0] ∧ AbIs [Ob.abs (rkI (Prod.fst (addL l_2 most t v)) most)] q (rkI l_3 most_2) ∧ br ((↑(List.length l_3) : Int) != (↑(List.length (idsL l)) : Int)) (R Ex.ret [PV.int IntKind.u8 n, PV.list (en1 IntKind.u32 ids) Tail.no, PV.bool false, PV.ptr 0 0, PV.int IntKind.i64 (↑i : Int)] [Ob.abs (rkI (Prod.fst (addL l_2 most t v)) most)]) (∃ (q : Nat), ∃ (l_4 : List RwI), ∃ (most_3 : Int), SlIs [PV.ptr 0 0] [PV.ptr q 0] ∧ AbIs [Ob.abs (rkI (Prod.fst (addL l_2 most t v)) most)] q (rkI l_4 most_3) ∧ Ok l_4 most_3 ∧ br ((freeL l_4 most_3 == 0) != ((↑(List.length (idsL l)) : Int) == wI n)) (R Ex.ret [PV.int IntKind.u8 n, PV.list (en1 IntKind.u32 ids) Tail.no, PV.bool false, PV.ptr 0 0, PV.int IntKind.i64 (↑i : Int)] [Ob.abs (rkI (Prod.fst (addL l_2 most t v)) most)]) (R Ex.normal [PV.int IntKind.u8 n, PV.list (en1 IntKind.u32 ids) Tail.no, PV.bool false, PV.ptr 0 0, PV.int IntKind.i64 (wI ((↑i : Int) + 1))] [Ob.abs (rkI (Prod.fst (addL l_2 most t v)) most)]))) (R Ex.ret [PV.int IntKind.u8 n, PV.list (en1 IntKind.u32 ids) Tail.no, PV.bool false, PV.ptr 0 0, PV.int IntKind.i64 (↑i : Int)] [Ob.abs (rkI (Prod.fst (addL l_2 most t v)) most)])))) False) (R (Ex.exit 0) [PV.int IntKind.u8 n, PV.list (en1 IntKind.u32 ids) Tail.no, PV.bool false, PV.ptr 0 0, PV.int IntKind.i64 (↑i : Int)] [Ob.abs (rkI l m)])) : Holds (wpc br Try.prog gl TR7 [] (fun _ => 0) (subOf [1, 1, 1, 0, 1, 0] (bodyOf Try.f4)) [] (envS [0, 1, 4, 5, 6] [.int .u8 n, .list (en1 .u32 ids) .no, .bool false, .ptr 0 0, .int .i64 i]) [.abs (rkI l m)] (fun ex e H => R ex (List.map e [0, 1, 4, 5, 6]) H)) := holds_of_eq (bnd_red l m n ids i R) h
theorem zlow : Low 0 (.tup [.int .i64 0, .bool false]) := low_tup2 0 false
theorem zlow2 : Low 0 (.tup [.int .u32 0, .bool false]) := .tup _ (by intro y hy; simp only [List.mem_cons, List.not_mem_nil, or_false] at hy; rcases hy with rfl | rfl; exact .int _ _; exact .bool _)
theorem zargs (t v : Int) : (∀ x ∈ [PV.nilptr], Low 0 x) ∧ (∀ x ∈ [PV.nilptr, .int .u32 t], Low 0 x) ∧ ∀ x ∈ [PV.nilptr, .int .u32 t, .int .i64 v], Low 0 x := by
  refine ⟨fun x hx => ?_, fun x hx => ?_, fun x hx => ?_⟩ <;>
  · simp only [List.mem_cons, List.not_mem_nil, or_false] at hx
    first | (rcases hx with rfl | rfl | rfl <;> first | exact .nilptr | exact .int _ _) | (rcases hx with rfl | rfl <;> first | exact .nilptr | exact .int _ _) | (rcases hx with rfl; exact .nilptr)
def TZ0 : Tab := []
theorem TZ0_ok : TabOk Try.prog gl TZ0 := .nil _ _
theorem zget_red (t : Int) (K : PV → Prop) : (K (PV.tup [PV.int IntKind.i64 0, PV.bool false])) = wpc br Try.prog gl TZ0 [] (fun _ => 0) (bodyOf Try.f29) [] (env0 [.nilptr, .int .u32 t]) [] (resQ Try.prog Try.f29.results.toList (fun x _ => K x)) := by kernel_rfl
theorem zget_vc (t : Int)  (K : PV → Prop) (h : K (PV.tup [PV.int IntKind.i64 0, PV.bool false])) : ACalls Try.prog gl 29 [.nilptr, .int .u32 t] [] (fun x _ => K x) :=
  acalls_of_wpc2 (T := TZ0) (L := []) (fun _ => 0) Try.func29 (by kernel_rfl) (by kernel_rfl) (by kernel_rfl) (TZ0_ok) (LOk.nil _ _ _ _ _) (holds_of_eq (zget_red t K) h)
def zget_s (args : List PV) (K : PV → Prop) : Prop := ∃ (t : Int), SlIs args [.nilptr, .int .u32 t] ∧ K (.tup [.int .i64 0, .bool false])
theorem zget_ok : SpOk Try.prog gl 29 (.pure zget_s) := by
  rintro args K ⟨t, he, hk⟩
  have he : args = _ := he
  subst he
  exact spure gl_low (zargs t 0).2.1 (zlow) (zget_vc t (fun x => x = .tup [.int .i64 0, .bool false]) rfl) hk
def TZ1 : Tab := (29, .pure zget_s) :: TZ0
theorem TZ1_ok : TabOk Try.prog gl TZ1 := .cons zget_ok TZ0_ok
theorem zdrop_red (t : Int) (K : PV → Prop) : (∃ (t_1 : Int), SlIs [PV.nilptr, PV.int IntKind.u32 t] [PV.nilptr, PV.int IntKind.u32 t_1] ∧ K (PV.tup [PV.int IntKind.i64 0, PV.bool false])) = wpc br Try.prog gl TZ1 [] (fun _ => 0) (bodyOf Try.f34) [] (env0 [.nilptr, .int .u32 t]) [] (resQ Try.prog Try.f34.results.toList (fun x _ => K x)) := by kernel_rfl
theorem zdrop_vc (t : Int)  (K : PV → Prop) (h : ∃ (t_1 : Int), SlIs [PV.nilptr, PV.int IntKind.u32 t] [PV.nilptr, PV.int IntKind.u32 t_1] ∧ K (PV.tup [PV.int IntKind.i64 0, PV.bool false])) : ACalls Try.prog gl 34 [.nilptr, .int .u32 t] [] (fun x _ => K x) :=
  acalls_of_wpc2 (T := TZ1) (L := []) (fun _ => 0) Try.func34 (by kernel_rfl) (by kernel_rfl) (by kernel_rfl) (TZ1_ok) (LOk.nil _ _ _ _ _) (holds_of_eq (zdrop_red t K) h)
def zdrop_s (args : List PV) (K : PV → Prop) : Prop := ∃ (t : Int), SlIs args [.nilptr, .int .u32 t] ∧ K (.tup [.int .i64 0, .bool false])
theorem zdrop_ok : SpOk Try.prog gl 34 (.pure zdrop_s) := by
  rintro args K ⟨t, he, hk⟩
  have he : args = _ := he
  subst he
  exact spure gl_low (zargs t 0).2.1 (zlow) (zdrop_vc t (fun x => x = .tup [.int .i64 0, .bool false]) ⟨t, rfl, rfl⟩) hk
def TZ2 : Tab := (34, .pure zdrop_s) :: TZ1
theorem TZ2_ok : TabOk Try.prog gl TZ2 := .cons zdrop_ok TZ1_ok
theorem znext_red (t : Int) (K : PV → Prop) : (K (PV.tup [PV.int IntKind.u32 0, PV.bool false])) = wpc br Try.prog gl TZ2 [] (fun _ => 0) (bodyOf Try.f36) [] (env0 [.nilptr, .int .u32 t]) [] (resQ Try.prog Try.f36.results.toList (fun x _ => K x)) := by kernel_rfl
theorem znext_vc (t : Int)  (K : PV → Prop) (h : K (PV.tup [PV.int IntKind.u32 0, PV.bool false])) : ACalls Try.prog gl 36 [.nilptr, .int .u32 t] [] (fun x _ => K x) :=
  acalls_of_wpc2 (T := TZ2) (L := []) (fun _ => 0) Try.func36 (by kernel_rfl) (by kernel_rfl) (by kernel_rfl) (TZ2_ok) (LOk.nil _ _ _ _ _) (holds_of_eq (znext_red t K) h)
def znext_s (args : List PV) (K : PV → Prop) : Prop := ∃ (t : Int), SlIs args [.nilptr, .int .u32 t] ∧ K (.tup [.int .u32 0, .bool false])
theorem znext_ok : SpOk Try.prog gl 36 (.pure znext_s) := by
  rintro args K ⟨t, he, hk⟩
  have he : args = _ := he
  subst he
  exact spure gl_low (zargs t 0).2.1 (zlow2) (znext_vc t (fun x => x = .tup [.int .u32 0, .bool false]) rfl) hk
def TZ3 : Tab := (36, .pure znext_s) :: TZ2
theorem TZ3_ok : TabOk Try.prog gl TZ3 := .cons znext_ok TZ2_ok
theorem zput_red (t v : Int) (K : PV → Prop) : (K (PV.int IntKind.i64 10)) = wpc br Try.prog gl TZ3 [] (fun _ => 0) (bodyOf Try.f31) [] (env0 [.nilptr, .int .u32 t, .int .i64 v]) [] (resQ Try.prog Try.f31.results.toList (fun x _ => K x)) := by kernel_rfl
theorem zput_vc (t v : Int)  (K : PV → Prop) (h : K (PV.int IntKind.i64 10)) : ACalls Try.prog gl 31 [.nilptr, .int .u32 t, .int .i64 v] [] (fun x _ => K x) :=
  acalls_of_wpc2 (T := TZ3) (L := []) (fun _ => 0) Try.func31 (by kernel_rfl) (by kernel_rfl) (by kernel_rfl) (TZ3_ok) (LOk.nil _ _ _ _ _) (holds_of_eq (zput_red t v K) h)
def zput_s (args : List PV) (K : PV → Prop) : Prop := ∃ (t v : Int), SlIs args [.nilptr, .int .u32 t, .int .i64 v] ∧ K (.int .i64 10)
theorem zput_ok : SpOk Try.prog gl 31 (.pure zput_s) := by
  rintro args K ⟨t, v, he, hk⟩
  have he : args = _ := he
  subst he
  exact spure gl_low (zargs t v).2.2 (.int _ _) (zput_vc t v (fun x => x = .int .i64 10) rfl) hk
def TZ4 : Tab := (31, .pure zput_s) :: TZ3
theorem TZ4_ok : TabOk Try.prog gl TZ4 := .cons zput_ok TZ3_ok
theorem zfree_red  (K : PV → Prop) : (K (PV.int IntKind.u32 0)) = wpc br Try.prog gl TZ4 [] (fun _ => 0) (bodyOf Try.f22) [] (env0 [.nilptr]) [] (resQ Try.prog Try.f22.results.toList (fun x _ => K x)) := by kernel_rfl
theorem zfree_vc   (K : PV → Prop) (h : K (PV.int IntKind.u32 0)) : ACalls Try.prog gl 22 [.nilptr] [] (fun x _ => K x) :=
  acalls_of_wpc2 (T := TZ4) (L := []) (fun _ => 0) Try.func22 (by kernel_rfl) (by kernel_rfl) (by kernel_rfl) (TZ4_ok) (LOk.nil _ _ _ _ _) (holds_of_eq (zfree_red K) h)
def zfree_s (args : List PV) (K : PV → Prop) : Prop := SlIs args [.nilptr] ∧ K (.int .u32 0)
theorem zfree_ok : SpOk Try.prog gl 22 (.pure zfree_s) := by
  rintro args K ⟨he, hk⟩
  have he : args = _ := he
  subst he
  exact spure gl_low (zargs 0 0).1 (.int _ _) (zfree_vc (fun x => x = .int .u32 0) rfl) hk
def TZ5 : Tab := (22, .pure zfree_s) :: TZ4
theorem TZ5_ok : TabOk Try.prog gl TZ5 := .cons zfree_ok TZ4_ok
theorem zids_red  (K : PV → Prop) : (K (PV.list [] Tail.exact)) = wpc br Try.prog gl TZ5 [] (fun _ => 0) (bodyOf Try.f19) [] (env0 [.nilptr]) [] (resQ Try.prog Try.f19.results.toList (fun x _ => K x)) := by kernel_rfl
theorem zids_vc   (K : PV → Prop) (h : K (PV.list [] Tail.exact)) : ACalls Try.prog gl 19 [.nilptr] [] (fun x _ => K x) :=
  acalls_of_wpc2 (T := TZ5) (L := []) (fun _ => 0) Try.func19 (by kernel_rfl) (by kernel_rfl) (by kernel_rfl) (TZ5_ok) (LOk.nil _ _ _ _ _) (holds_of_eq (zids_red K) h)
def zids_s (args : List PV) (K : PV → Prop) : Prop := SlIs args [.nilptr] ∧ K (.list [] .exact)
theorem zids_ok : SpOk Try.prog gl 19 (.pure zids_s) := by
  rintro args K ⟨he, hk⟩
  have he : args = _ := he
  subst he
  exact spure gl_low (zargs 0 0).1 (low_list NT.exact (by simp)) (zids_vc (fun x => x = .list [] .exact) rfl) hk
def TZ6 : Tab := (19, .pure zids_s) :: TZ5
theorem TZ6_ok : TabOk Try.prog gl TZ6 := .cons zids_ok TZ5_ok
theorem zlen_red  (K : PV → Prop) : (K (PV.int IntKind.i64 0)) = wpc br Try.prog gl TZ6 [] (fun _ => 0) (bodyOf Try.f21) [] (env0 [.nilptr]) [] (resQ Try.prog Try.f21.results.toList (fun x _ => K x)) := by kernel_rfl
theorem zlen_vc   (K : PV → Prop) (h : K (PV.int IntKind.i64 0)) : ACalls Try.prog gl 21 [.nilptr] [] (fun x _ => K x) :=
  acalls_of_wpc2 (T := TZ6) (L := []) (fun _ => 0) Try.func21 (by kernel_rfl) (by kernel_rfl) (by kernel_rfl) (TZ6_ok) (LOk.nil _ _ _ _ _) (holds_of_eq (zlen_red K) h)
def zlen_s (args : List PV) (K : PV → Prop) : Prop := SlIs args [.nilptr] ∧ K (.int .i64 0)
theorem zlen_ok : SpOk Try.prog gl 21 (.pure zlen_s) := by
  rintro args K ⟨he, hk⟩
  have he : args = _ := he
  subst he
  exact spure gl_low (zargs 0 0).1 (.int _ _) (zlen_vc (fun x => x = .int .i64 0) rfl) hk
def TZ7 : Tab := (21, .pure zlen_s) :: TZ6
theorem TZ7_ok : TabOk Try.prog gl TZ7 := .cons zlen_ok TZ6_ok
theorem zmost_red  (K : PV → Prop) : (K (PV.int IntKind.i64 0)) = wpc br Try.prog gl TZ7 [] (fun _ => 0) (bodyOf Try.f40) [] (env0 [.nilptr]) [] (resQ Try.prog Try.f40.results.toList (fun x _ => K x)) := by kernel_rfl
theorem zmost_vc   (K : PV → Prop) (h : K (PV.int IntKind.i64 0)) : ACalls Try.prog gl 40 [.nilptr] [] (fun x _ => K x) :=
  acalls_of_wpc2 (T := TZ7) (L := []) (fun _ => 0) Try.func40 (by kernel_rfl) (by kernel_rfl) (by kernel_rfl) (TZ7_ok) (LOk.nil _ _ _ _ _) (holds_of_eq (zmost_red K) h)
def zmost_s (args : List PV) (K : PV → Prop) : Prop := SlIs args [.nilptr] ∧ K (.int .i64 0)
theorem zmost_ok : SpOk Try.prog gl 40 (.pure zmost_s) := by
  rintro args K ⟨he, hk⟩
  have he : args = _ := he
  subst he
  exact spure gl_low (zargs 0 0).1 (.int _ _) (zmost_vc (fun x => x = .int .i64 0) rfl) hk
def TZ8 : Tab := (40, .pure zmost_s) :: TZ7
theorem TZ8_ok : TabOk Try.prog gl TZ8 := .cons zmost_ok TZ7_ok
theorem zadd_red (t v : Int) (K : PV → Prop) : (∃ (t_1 : Int), SlIs [PV.nilptr, PV.int IntKind.u32 t] [PV.nilptr, PV.int IntKind.u32 t_1] ∧ ∃ (t_2 : Int), ∃ (v_1 : Int), SlIs [PV.nilptr, PV.int IntKind.u32 t, PV.int IntKind.i64 v] [PV.nilptr, PV.int IntKind.u32 t_2, PV.int IntKind.i64 v_1] ∧ K (PV.int IntKind.i64 10)) = wpc br Try.prog gl TZ8 [] (fun _ => 0) (bodyOf Try.f20) [] (env0 [.nilptr, .int .u32 t, .int .i64 v]) [] (resQ Try.prog Try.f20.results.toList (fun x _ => K x)) := by kernel_rfl
theorem zadd_vc (t v : Int)  (K : PV → Prop) (h : ∃ (t_1 : Int), SlIs [PV.nilptr, PV.int IntKind.u32 t] [PV.nilptr, PV.int IntKind.u32 t_1] ∧ ∃ (t_2 : Int), ∃ (v_1 : Int), SlIs [PV.nilptr, PV.int IntKind.u32 t, PV.int IntKind.i64 v] [PV.nilptr, PV.int IntKind.u32 t_2, PV.int IntKind.i64 v_1] ∧ K (PV.int IntKind.i64 10)) : ACalls Try.prog gl 20 [.nilptr, .int .u32 t, .int .i64 v] [] (fun x _ => K x) :=
  acalls_of_wpc2 (T := TZ8) (L := []) (fun _ => 0) Try.func20 (by kernel_rfl) (by kernel_rfl) (by kernel_rfl) (TZ8_ok) (LOk.nil _ _ _ _ _) (holds_of_eq (zadd_red t v K) h)
def zadd_s (args : List PV) (K : PV → Prop) : Prop := ∃ (t v : Int), SlIs args [.nilptr, .int .u32 t, .int .i64 v] ∧ K (.int .i64 10)
theorem zadd_ok : SpOk Try.prog gl 20 (.pure zadd_s) := by
  rintro args K ⟨t, v, he, hk⟩
  have he : args = _ := he
  subst he
  exact spure gl_low (zargs t v).2.2 (.int _ _) (zadd_vc t v (fun x => x = .int .i64 10) ⟨t, rfl, t, v, rfl, rfl⟩) hk
def TZ9 : Tab := (20, .pure zadd_s) :: TZ8
theorem TZ9_ok : TabOk Try.prog gl TZ9 := .cons zadd_ok TZ8_ok
def TN7 : Tab := (17, .pure awake_s) :: TZ9
theorem TN7_ok : TabOk Try.prog gl TN7 := .cons awake_ok TZ9_ok
theorem nil1_red (t v : Int) (K : PV → Prop) : (∃ (t_1 : Int), SlIs [PV.nilptr, PV.int IntKind.u32 t] [PV.nilptr, PV.int IntKind.u32 t_1] ∧ ∃ (t_2 : Int), SlIs [PV.nilptr, PV.int IntKind.u32 t] [PV.nilptr, PV.int IntKind.u32 t_2] ∧ ∃ (t_3 : Int), SlIs [PV.nilptr, PV.int IntKind.u32 t] [PV.nilptr, PV.int IntKind.u32 t_3] ∧ ∃ (t_4 : Int), ∃ (v_1 : Int), SlIs [PV.nilptr, PV.int IntKind.u32 t, PV.int IntKind.i64 v] [PV.nilptr, PV.int IntKind.u32 t_4, PV.int IntKind.i64 v_1] ∧ ∃ (t_5 : Int), ∃ (v_2 : Int), SlIs [PV.nilptr, PV.int IntKind.u32 t, PV.int IntKind.i64 v] [PV.nilptr, PV.int IntKind.u32 t_5, PV.int IntKind.i64 v_2] ∧ SlIs [PV.nilptr] [PV.nilptr] ∧ SlIs [PV.nilptr] [PV.nilptr] ∧ SlIs [PV.nilptr] [PV.nilptr] ∧ SlIs [PV.nilptr] [PV.nilptr] ∧ K (PV.bool true)) = wpc br Try.prog gl TN7 [] (fun _ => 0) (bodyOf Try.f7) [] (env0 [.int .u32 t, .int .i64 v]) [] (resQ Try.prog Try.f7.results.toList (fun x _ => K x)) := by kernel_rfl
theorem nil1_vc (t v : Int)  (K : PV → Prop) (h : ∃ (t_1 : Int), SlIs [PV.nilptr, PV.int IntKind.u32 t] [PV.nilptr, PV.int IntKind.u32 t_1] ∧ ∃ (t_2 : Int), SlIs [PV.nilptr, PV.int IntKind.u32 t] [PV.nilptr, PV.int IntKind.u32 t_2] ∧ ∃ (t_3 : Int), SlIs [PV.nilptr, PV.int IntKind.u32 t] [PV.nilptr, PV.int IntKind.u32 t_3] ∧ ∃ (t_4 : Int), ∃ (v_1 : Int), SlIs [PV.nilptr, PV.int IntKind.u32 t, PV.int IntKind.i64 v] [PV.nilptr, PV.int IntKind.u32 t_4, PV.int IntKind.i64 v_1] ∧ ∃ (t_5 : Int), ∃ (v_2 : Int), SlIs [PV.nilptr, PV.int IntKind.u32 t, PV.int IntKind.i64 v] [PV.nilptr, PV.int IntKind.u32 t_5, PV.int IntKind.i64 v_2] ∧ SlIs [PV.nilptr] [PV.nilptr] ∧ SlIs [PV.nilptr] [PV.nilptr] ∧ SlIs [PV.nilptr] [PV.nilptr] ∧ SlIs [PV.nilptr] [PV.nilptr] ∧ K (PV.bool true)) : ACalls Try.prog gl 7 [.int .u32 t, .int .i64 v] [] (fun x _ => K x) :=
  acalls_of_wpc2 (T := TN7) (L := []) (fun _ => 0) Try.func7 (by kernel_rfl) (by kernel_rfl) (by kernel_rfl) (TN7_ok) (LOk.nil _ _ _ _ _) (holds_of_eq (nil1_red t v K) h)
theorem nil_ok (t v : Int) : ACalls Try.prog gl 7 [.int .u32 t, .int .i64 v] [] (fun x _ => x = .bool true) :=
  nil1_vc t v _ ⟨t, rfl, t, rfl, t, rfl, t, v, rfl, t, v, rfl, rfl, rfl, rfl, rfl, rfl⟩
theorem add_cases {l : List RwI} {m t v : Int} : ((addL l m t v).2 ≠ 0 ∧ (addL l m t v).1 = l) ∨ ((addL l m t v).2 = 0 ∧ (addL l m t v).1.length = l.length + 1) := by
  unfold addL putL
  by_cases c : has l t = true
  · rw [if_pos c]; exact .inl ⟨show (11 : Int) ≠ 0 by decide, rfl⟩
  · rw [if_neg c, if_neg c]
    by_cases c2 : rightS t = true
    · rw [if_pos c2]
      by_cases c3 : (l.length : Int) ≥ m
      · rw [if_pos c3]; exact .inl ⟨show (10 : Int) ≠ 0 by decide, rfl⟩
      · rw [if_neg c3]; exact .inr ⟨rfl, insAt_length (lbp_le l t)⟩
    · rw [if_neg c2]; exact .inl ⟨show (14 : Int) ≠ 0 by decide, rfl⟩
theorem bnd_free {l : List RwI} {n : Int} (ok : Ok l n) : (freeL l n == 0) = ((l.length : Int) == n) := by
  have := ok.full
  unfold freeL
  split
  · rw [Bool.eq_iff_iff]; simp; omega
  · rw [Bool.eq_iff_iff]; simp; omega
def bnd_l : LSp := fun e H Q => ∃ (n : Int) (ids : List Int), ids.length ≤ 60 ∧ 0 ≤ n ∧ n ≤ 40 ∧ SlIs (List.map e [0, 1, 4, 5, 6]) [.int .u8 n, .list (en1 .u32 ids) .no, .bool false, .ptr 0 0, .int .i64 0] ∧ HpIs H [.abs (rkI [] n)] ∧
  ∀ (l : List RwI), Q (.exit 0) (envS [0, 1, 4, 5, 6] [.int .u8 n, .list (en1 .u32 ids) .no, .bool false, .ptr 0 0, .int .i64 ids.length]) [.abs (rkI l n)]
theorem bnd_l_ok : ∀ e H Q, bnd_l e H Q → AW Try.prog gl Try.f4.ntmps (.loop (subOf [1, 1, 1, 0, 1, 0] (bodyOf Try.f4))) Q e H := by
  rintro e H Q ⟨n, ids, hlen, hn0, hn, he, hH, hQ⟩
  refine aw_loop4 (hn := fun _ => 0) gl_low TR7_ok (.nil _ _ _ _ _) (σ := Nat × List RwI) [0, 1, 4, 5, 6] (fun s => s.1 ≤ ids.length ∧ Ok s.2 n)
    (fun s => [.int .u8 n, .list (en1 .u32 ids) .no, .bool false, .ptr 0 0, .int .i64 s.1]) (fun s => [.abs (rkI s.2 n)]) (fun s => ids.length - s.1) (0, []) ⟨Nat.zero_le _, .none hn0 (by omega)⟩ he hH ?_
  rintro ⟨i, l⟩ ⟨hi, ok⟩
  have hi' : i ≤ ids.length := hi
  have ok' : Ok l n := ok
  refine bnd_vc l n n ids i _ ?_
  simp only [br_if, dt, bt, bf, en1_length, toNat_nat]
  by_cases h : i < ids.length
  · rw [if_pos (by omega)]
    refine ⟨0, l, n, rfl, rfl, ok', en1_in _ _ _ (by omega) (by omega), ?_⟩
    rw [en1_get _ _ _ h, if_pos (by rfl)]
    obtain ⟨t, ht⟩ : ∃ t, t = ids.getD i 0 := ⟨_, rfl⟩
    rw [← ht]
    have okA := ok'.add t (i : Int)
    have hw : wI n = n := w_small (by omega) (by omega)
    refine ⟨l, n, t, i, rfl, rfl, ok', 0, (addL l n t i).1, n, rfl, rfl, okA, ?_⟩
    have hlA := okA.len
    have hfA := okA.full
    have hl0 := ok'.len
    rw [hw]
    rcases add_cases (l := l) (m := n) (t := t) (v := (i : Int)) with ⟨c1, c2⟩ | ⟨c1, c2⟩
    · rw [if_pos (by simpa using c1)]
      refine ⟨l.map Rw.id, (addL l n t i).1.map Rw.id, .no, .no, by rw [ids_en1, ids_en1]; rfl, by rw [List.length_map]; exact hl0, ?_⟩
      rw [if_pos (by simp [c2]), if_neg (by simpa using c1), if_pos (by simp [idsL]; omega)]
      refine ⟨0, _, n, rfl, rfl, ?_⟩
      rw [if_neg (by simp [idsL])]
      refine ⟨0, _, n, rfl, rfl, okA, ?_⟩
      rw [if_neg (by rw [bnd_free okA]; simp [idsL])]
      exact ⟨(i + 1, _), (show ids.length - (i + 1) < ids.length - i by omega), ⟨h, okA⟩, by rw [wI_succ h (by omega)], [], rfl, Nat.le_refl _, .inl rfl⟩
    · rw [if_neg (by simpa using c1), if_pos (by simpa using c1)]
      have hw2 : wI ((idsL l).length + 1 : Int) = (idsL l).length + 1 := w_small (by omega) (by simp [idsL]; omega)
      rw [hw2, if_pos (by simp [idsL, c2]), if_pos (by simp [idsL]; omega)]
      refine ⟨0, _, n, rfl, rfl, ?_⟩
      rw [if_neg (by simp [idsL])]
      refine ⟨0, _, n, rfl, rfl, okA, ?_⟩
      rw [if_neg (by rw [bnd_free okA]; simp [idsL])]
      exact ⟨(i + 1, _), (show ids.length - (i + 1) < ids.length - i by omega), ⟨h, okA⟩, by rw [wI_succ h (by omega)], [], rfl, Nat.le_refl _, .inl rfl⟩
  · rw [if_neg (by omega)]
    have : i = ids.length := by omega
    subst this
    exact hQ l
theorem bound1_red (n : Int) (ids : List Int) (K : PV → Prop) : (br (decide ((↑(List.length (en1 IntKind.u32 ids)) : Int) > 60) == false) (br (decide (n > 40)) (K (PV.bool true)) (∃ (n_1 : Int), SlIs [PV.int IntKind.i64 (wI n)] [PV.int IntKind.i64 n_1] ∧ ∃ (n_2 : Int), ∃ (ids_1 : List Int), List.length ids_1 ≤ 60 ∧ 0 ≤ n_2 ∧ n_2 ≤ 40 ∧ SlIs [PV.int IntKind.u8 n, PV.list (en1 IntKind.u32 ids) Tail.no, PV.bool false, PV.ptr 0 0, PV.int IntKind.i64 0] [PV.int IntKind.u8 n_2, PV.list (en1 IntKind.u32 ids_1) Tail.no, PV.bool false, PV.ptr 0 0, PV.int IntKind.i64 0] ∧ HpIs [Ob.abs (rkI [] (mxI 0 n_1))] [Ob.abs (rkI [] n_2)] ∧ ∀ (_ : List RwI), K (PV.bool true))) (K (PV.bool true))) = wpc br Try.prog gl TR7 [([1, 1, 1, 0, 1, 0], bnd_l)] (fun _ => 0) (bodyOf Try.f4) [] (env0 [.int .u8 n, .list (en1 .u32 ids) .no]) [] (resQ Try.prog Try.f4.results.toList (fun x _ => K x)) := by kernel_rfl
theorem bound1_vc (n : Int) (ids : List Int)  (K : PV → Prop) (h : br (decide ((↑(List.length (en1 IntKind.u32 ids)) : Int) > 60) == false) (br (decide (n > 40)) (K (PV.bool true)) (∃ (n_1 : Int), SlIs [PV.int IntKind.i64 (wI n)] [PV.int IntKind.i64 n_1] ∧ ∃ (n_2 : Int), ∃ (ids_1 : List Int), List.length ids_1 ≤ 60 ∧ 0 ≤ n_2 ∧ n_2 ≤ 40 ∧ SlIs [PV.int IntKind.u8 n, PV.list (en1 IntKind.u32 ids) Tail.no, PV.bool false, PV.ptr 0 0, PV.int IntKind.i64 0] [PV.int IntKind.u8 n_2, PV.list (en1 IntKind.u32 ids_1) Tail.no, PV.bool false, PV.ptr 0 0, PV.int IntKind.i64 0] ∧ HpIs [Ob.abs (rkI [] (mxI 0 n_1))] [Ob.abs (rkI [] n_2)] ∧ ∀ (_ : List RwI), K (PV.bool true))) (K (PV.bool true))) : ACalls Try.prog gl 4 [.int .u8 n, .list (en1 .u32 ids) .no] [] (fun x _ => K x) :=
  acalls_of_wpc2 (T := TR7) (L := [([1, 1, 1, 0, 1, 0], bnd_l)]) (fun _ => 0) Try.func4 (by kernel_rfl) (by kernel_rfl) (by kernel_rfl) (TR7_ok) (.cons (sub_of (by kernel_rfl)) bnd_l_ok (.nil _ _ _ _ _)) (holds_of_eq (bound1_red n ids K) h)
theorem bound_ok (n : Int) (ids : List Int) (h0 : 0 ≤ n) : ACalls Try.prog gl 4 [.int .u8 n, .list (en1 .u32 ids) .no] [] (fun x _ => x = .bool true) := by
  refine bound1_vc n ids _ ?_
  simp only [br_if, bf, en1_length]
  by_cases c : ids.length ≤ 60
  · rw [if_pos (by simp; omega)]
    by_cases c2 : n ≤ 40
    · rw [if_neg (by simp; omega)]
      have hw : wI n = n := w_small (by omega) (by omega)
      have hm : mxI 0 n = n := by unfold mxI; split <;> omega
      refine ⟨n, by rw [hw]; rfl, n, ids, c, h0, c2, rfl, by rw [hm]; rfl, fun _ => ?_⟩
      trivial
    · rw [if_pos (by simp; omega)]
      trivial
  · rw [if_neg (by simp; omega)]
    trivial
theorem u22 : Try.prog.underlying 22 = some (.slice 25) := by kernel_rfl
theorem bound_in {P : Program} (u5 : P.underlying 5 = some (.int .u8)) (u25 : P.underlying 25 = some (.int .u32)) (u22 : P.underlying 22 = some (.slice 25))
    {xs : List PV} (h : WTargs P 6 [5, 22] xs) : ∃ (n : Int) (ids : List Int), xs = [.int .u8 n, .list (en1 .u32 ids) .no] ∧ 0 ≤ n := by
  obtain ⟨x, r, rfl, h1, y, r2, rfl, h2, h3⟩ := h
  obtain rfl := wtargs_nil h3
  obtain ⟨n, rfl, h4, _⟩ := wta_int u5 h1
  obtain ⟨ids, rfl, _⟩ := wta_ints u22 u25 h2
  exact ⟨n, ids, rfl, h4⟩
theorem bound_args (xs : List PV) (h : WTargs Try.prog 6 Try.f4.params.toList xs) : ACalls Try.prog gl 4 xs [] (fun x _ => x = .bool true) := by
  rw [Try.params4] at h
  obtain ⟨n, ids, rfl, h0⟩ := bound_in u5 u25 u22 h
  exact bound_ok n ids h0
theorem nil_in {P : Program} (u25 : P.underlying 25 = some (.int .u32)) (u3 : P.underlying 3 = some (.int .i64)) {xs : List PV} (h : WTargs P 6 [25, 3] xs) : ∃ (t v : Int), xs = [.int .u32 t, .int .i64 v] := by
  obtain ⟨x, r, rfl, h1, y, r2, rfl, h2, h3⟩ := h
  obtain rfl := wtargs_nil h3
  obtain ⟨n, rfl, _⟩ := wta_int u25 h1
  obtain ⟨m, rfl, _⟩ := wta_int u3 h2
  exact ⟨n, m, rfl⟩
theorem nil_args (xs : List PV) (h : WTargs Try.prog 6 Try.f7.params.toList xs) : ACalls Try.prog gl 7 xs [] (fun x _ => x = .bool true) := by
  rw [Try.params7] at h
  obtain ⟨t, v, rfl⟩ := nil_in u25 u3 h
  exact nil_ok t v
end Go.Proofs.Ytcmknbanojcbaaa
