/-
  The law RackOrder, step by step.
-/
import Derived.Test.YtcmknbanojcbaaaKw
import Derived.Test.YtcmknbanojcbaaaKt
import Derived.Test.YtcmknbanojcbaaaProg
namespace Go.Proofs.Ytcmknbanojcbaaa
open Go Go.AM Go.Proofs
def TO7 : Tab := TMS [(17, .pure awake_s), (16, .pure right_s), (14, .pure same_s)]
theorem TO7_ok : TabOk Try.prog gl TO7 := TMS_ok (.cons awake_ok (.cons right_ok (.cons same_ok (.nil _ _))))
theorem oA_red (l k : List RwS) (m t : Int) (a : List Int) (i : Nat) (R : Ex → List PV → Heap → Prop) : (br (decide ((↑i : Int) < (↑(List.length a) : Int))) (InL (en1 IntKind.u32 a) 1 (↑i : Int) ∧ br (true && fitX [CK.int IntKind.u32] 0 (List.getD (en1 IntKind.u32 a) (Int.toNat (↑i : Int)) [])) (br ((↑(List.length a) : Int) != 0) (InL (en1 IntKind.u32 a) 1 (Int.tmod (wI ((↑i : Int) + wI t)) (↑(List.length a) : Int)) ∧ br (true && fitX [CK.int IntKind.u32] 0 (List.getD (en1 IntKind.u32 a) (Int.toNat (Int.tmod (wI ((↑i : Int) + wI t)) (↑(List.length a) : Int))) [])) (∃ (l_1 : List RwS), ∃ (most : Int), ∃ (t_1 : Int), ∃ (v : ByteArray), SlIs [PV.int IntKind.u32 (cI (List.getD (en1 IntKind.u32 a) (Int.toNat (↑i : Int)) []) 0), PV.str (ByteArray.push (ByteArray.push ByteArray.empty (UInt8.ofNat (Int.toNat (IntKind.wrap IntKind.u8 (cI (List.getD (en1 IntKind.u32 a) (Int.toNat (↑i : Int)) []) 0))))) (UInt8.ofNat (Int.toNat (IntKind.wrap IntKind.u8 (Int.fdiv (cI (List.getD (en1 IntKind.u32 a) (Int.toNat (↑i : Int)) []) 0) 256)))))] [PV.int IntKind.u32 t_1, PV.str v] ∧ AbIs [Ob.abs (rkS l m), Ob.abs (rkS k m)] 0 (rkS l_1 most) ∧ Ok l_1 most ∧ ∃ (l : List RwS), ∃ (most_1 : Int), ∃ (t_2 : Int), ∃ (v_1 : ByteArray), SlIs [PV.int IntKind.u32 (cI (List.getD (en1 IntKind.u32 a) (Int.toNat (Int.tmod (wI ((↑i : Int) + wI t)) (↑(List.length a) : Int))) []) 0), PV.str (ByteArray.push (ByteArray.push ByteArray.empty (UInt8.ofNat (Int.toNat (IntKind.wrap IntKind.u8 (cI (List.getD (en1 IntKind.u32 a) (Int.toNat (Int.tmod (wI ((↑i : Int) + wI t)) (↑(List.length a) : Int))) []) 0))))) (UInt8.ofNat (Int.toNat (IntKind.wrap IntKind.u8 (Int.fdiv (cI (List.getD (en1 IntKind.u32 a) (Int.toNat (Int.tmod (wI ((↑i : Int) + wI t)) (↑(List.length a) : Int))) []) 0) 256)))))] [PV.int IntKind.u32 t_2, PV.str v_1] ∧ AbIs [Ob.abs (rkS (Prod.fst (putL l_1 most t_1 v)) most), Ob.abs (rkS k m)] 1 (rkS l most_1) ∧ Ok l most_1 ∧ R Ex.normal [PV.list (en1 IntKind.u32 a) Tail.no, PV.int IntKind.u8 t, PV.bool false, PV.ptr 0 0, PV.ptr 1 0, PV.int IntKind.i64 (↑(List.length a) : Int), PV.int IntKind.i64 (wI ((↑i : Int) + 1))] [Ob.abs (rkS (Prod.fst (putL l_1 most t_1 v)) most), Ob.abs (rkS (Prod.fst (putL l most_1 t_2 v_1)) most_1)]) False) False) False) (R (Ex.exit 0) [PV.list (en1 IntKind.u32 a) Tail.no, PV.int IntKind.u8 t, PV.bool false, PV.ptr 0 0, PV.ptr 1 0, PV.int IntKind.i64 (↑(List.length a) : Int), PV.int IntKind.i64 (↑i : Int)] [Ob.abs (rkS l m), Ob.abs (rkS k m)])) = wpc br Try.prog gl TO7 [] (fun _ => 0) (subOf [1, 1, 1, 1, 0, 1, 0] (bodyOf Try.f3)) [] (envS [0, 1, 4, 5, 6, 7, 8] [.list (en1 .u32 a) .no, .int .u8 t, .bool false, .ptr 0 0, .ptr 1 0, .int .i64 a.length, .int .i64 i]) [.abs (rkS l m), .abs (rkS k m)] (fun ex e H => R ex (List.map e [0, 1, 4, 5, 6, 7, 8]) H) := by kernel_rfl
theorem oA_vc (l k : List RwS) (m t : Int) (a : List Int) (i : Nat) (R : Ex → List PV → Heap → Prop) (h : br (decide ((↑i : Int) < (↑(List.length a) : Int))) (InL (en1 IntKind.u32 a) 1 (↑i : Int) ∧ br (true && fitX [CK.int IntKind.u32] 0 (List.getD (en1 IntKind.u32 a) (Int.toNat (↑i : Int)) [])) (br ((↑(List.length a) : Int) != 0) (InL (en1 IntKind.u32 a) 1 (Int.tmod (wI ((↑i : Int) + wI t)) (↑(List.length a) : Int)) ∧ br (true && fitX [CK.int IntKind.u32] 0 (List.getD (en1 IntKind.u32 a) (Int.toNat (Int.tmod (wI ((↑i : Int) + wI t)) (↑(List.length a) : Int))) [])) (∃ (l_1 : List RwS), ∃ (most : Int), ∃ (t_1 : Int), ∃ (v : ByteArray), SlIs [PV.int IntKind.u32 (cI (List.getD (en1 IntKind.u32 a) (Int.toNat (↑i : Int)) []) 0), PV.str (ByteArray.push (ByteArray.push ByteArray.empty (UInt8.ofNat (Int.toNat (IntKind.wrap IntKind.u8 (cI (List.getD (en1 IntKind.u32 a) (Int.toNat (↑i : Int)) []) 0))))) (UInt8.ofNat (Int.toNat (IntKind.wrap IntKind.u8 (Int.fdiv (cI (List.getD (en1 IntKind.u32 a) (Int.toNat (↑i : Int)) []) 0) 256)))))] [PV.int IntKind.u32 t_1, PV.str v] ∧ AbIs [Ob.abs (rkS l m), Ob.abs (rkS k m)] 0 (rkS l_1 most) ∧ Ok l_1 most ∧ ∃ (l : List RwS), ∃ (most_1 : Int), ∃ (t_2 : Int), ∃ (v_1 : ByteArray), SlIs [PV.int IntKind.u32 (cI (List.getD (en1 IntKind.u32 a) (Int.toNat (Int.tmod (wI ((↑i : Int) + wI t)) (↑(List.length a) : Int))) []) 0), PV.str (ByteArray.push (ByteArray.push ByteArray.empty (UInt8.ofNat (Int.toNat (IntKind.wrap IntKind.u8 (cI (List.getD (en1 IntKind.u32 a) (Int.toNat (Int.tmod (wI ((↑i : Int) + wI t)) (↑(List.length a) : Int))) []) 0))))) (UInt8.ofNat (Int.toNat (IntKind.wrap IntKind.u8 (Int.fdiv (cI (List.getD (en1 IntKind.u32 a) (Int.toNat (Int.tmod (wI ((↑i : Int) + wI t)) (↑(List.length a) : Int))) []) 0) 256)))))] [PV.int IntKind.u32 t_2, PV.str v_1] ∧ AbIs [Ob.abs (rkS (Prod.fst (putL l_1 most t_1 v)) most), Ob.abs (rkS k m)] 1 (rkS l most_1) ∧ Ok l most_1 ∧ R Ex.normal [PV.list (en1 IntKind.u32 a) Tail.no, PV.int IntKind.u8 t, PV.bool false, PV.ptr 0 0, PV.ptr 1 0, PV.int IntKind.i64 (↑(List.length a) : Int), PV.int IntKind.i64 (wI ((↑i : Int) + 1))] [Ob.abs (rkS (Prod.fst (putL l_1 most t_1 v)) most), Ob.abs (rkS (Prod.fst (putL l most_1 t_2 v_1)) most_1)]) False) False) False) (R (Ex.exit 0) [PV.list (en1 IntKind.u32 a) Tail.no, PV.int IntKind.u8 t, PV.bool false, PV.ptr 0 0, PV.ptr 1 0, PV.int IntKind.i64 (↑(List.length a) : Int), PV.int IntKind.i64 (↑i : Int)] [Ob.abs (rkS l m), Ob.abs (rkS k m)])) : Holds (wpc br Try.prog gl TO7 [] (fun _ => 0) (subOf [1, 1, 1, 1, 0, 1, 0] (bodyOf Try.f3)) [] (envS [0, 1, 4, 5, 6, 7, 8] [.list (en1 .u32 a) .no, .int .u8 t, .bool false, .ptr 0 0, .ptr 1 0, .int .i64 a.length, .int .i64 i]) [.abs (rkS l m), .abs (rkS k m)] (fun ex e H => R ex (List.map e [0, 1, 4, 5, 6, 7, 8]) H)) := holds_of_eq (oA_red l k m t a i R) h
theorem oB_red (l k : List RwS) (m : Int) (i : Nat) (R : Ex → List PV → Heap → Prop) : (br (decide ((↑i : Int) < (↑(List.length (en1 IntKind.u32 (List.map Rw.id l))) : Int))) (InL (en1 IntKind.u32 (List.map Rw.id l)) 1 (↑i : Int) ∧ br (true && fitX [CK.int IntKind.u32] 0 (List.getD (en1 IntKind.u32 (List.map Rw.id l)) (Int.toNat (↑i : Int)) [])) (∃ (q : Nat), ∃ (l_1 : List RwS), ∃ (most : Int), ∃ (t : Int), SlIs [PV.ptr 0 0, PV.int IntKind.u32 (cI (List.getD (en1 IntKind.u32 (List.map Rw.id l)) (Int.toNat (↑i : Int)) []) 0)] [PV.ptr q 0, PV.int IntKind.u32 t] ∧ AbIs [Ob.abs (rkS l m), Ob.abs (rkS k m)] q (rkS l_1 most) ∧ Ok l_1 most ∧ InL (en1 IntKind.u32 (List.map Rw.id l)) 1 (↑i : Int) ∧ br (true && fitX [CK.int IntKind.u32] 0 (List.getD (en1 IntKind.u32 (List.map Rw.id l)) (Int.toNat (↑i : Int)) [])) (∃ (q : Nat), ∃ (l_2 : List RwS), ∃ (most : Int), ∃ (t_1 : Int), SlIs [PV.ptr 1 0, PV.int IntKind.u32 (cI (List.getD (en1 IntKind.u32 (List.map Rw.id l)) (Int.toNat (↑i : Int)) []) 0)] [PV.ptr q 0, PV.int IntKind.u32 t_1] ∧ AbIs [Ob.abs (rkS l m), Ob.abs (rkS k m)] q (rkS l_2 most) ∧ Ok l_2 most ∧ br ((!has l_1 t) == false) (br ((!has l_2 t_1) == false) (br ((getR l_1 t != getR l_2 t_1) == false) (InL (en1 IntKind.u32 (List.map Rw.id l)) 1 (↑i : Int) ∧ br (true && fitX [CK.int IntKind.u32] 0 (List.getD (en1 IntKind.u32 (List.map Rw.id l)) (Int.toNat (↑i : Int)) [])) (InL (en1 IntKind.u32 (List.map Rw.id l)) 1 (↑i : Int) ∧ br (true && fitX [CK.int IntKind.u32] 0 (List.getD (en1 IntKind.u32 (List.map Rw.id l)) (Int.toNat (↑i : Int)) [])) (br ((getR l_1 t != ByteArray.push (ByteArray.push ByteArray.empty (UInt8.ofNat (Int.toNat (IntKind.wrap IntKind.u8 (cI (List.getD (en1 IntKind.u32 (List.map Rw.id l)) (Int.toNat (↑i : Int)) []) 0))))) (UInt8.ofNat (Int.toNat (IntKind.wrap IntKind.u8 (Int.fdiv (cI (List.getD (en1 IntKind.u32 (List.map Rw.id l)) (Int.toNat (↑i : Int)) []) 0) 256))))) == false) (InL (en1 IntKind.u32 (List.map Rw.id l)) 1 (↑i : Int) ∧ br (true && fitX [CK.int IntKind.u32] 0 (List.getD (en1 IntKind.u32 (List.map Rw.id l)) (Int.toNat (↑i : Int)) [])) (br ((!rightS (cI (List.getD (en1 IntKind.u32 (List.map Rw.id l)) (Int.toNat (↑i : Int)) []) 0)) == false) (br (decide ((↑i : Int) > 0) == true) (InL (en1 IntKind.u32 (List.map Rw.id l)) 1 (wI ((↑i : Int) - 1)) ∧ br (true && fitX [CK.int IntKind.u32] 0 (List.getD (en1 IntKind.u32 (List.map Rw.id l)) (Int.toNat (wI ((↑i : Int) - 1))) [])) (InL (en1 IntKind.u32 (List.map Rw.id l)) 1 (↑i : Int) ∧ br (true && fitX [CK.int IntKind.u32] 0 (List.getD (en1 IntKind.u32 (List.map Rw.id l)) (Int.toNat (↑i : Int)) [])) (br (decide (cI (List.getD (en1 IntKind.u32 (List.map Rw.id l)) (Int.toNat (wI ((↑i : Int) - 1))) []) 0 ≥ cI (List.getD (en1 IntKind.u32 (List.map Rw.id l)) (Int.toNat (↑i : Int)) []) 0)) (R Ex.ret [PV.bool false, PV.ptr 0 0, PV.ptr 1 0, PV.list (en1 IntKind.u32 (List.map Rw.id l)) Tail.no, PV.int IntKind.i64 (↑i : Int)] [Ob.abs (rkS l m), Ob.abs (rkS k m)]) (R Ex.normal [PV.bool false, PV.ptr 0 0, PV.ptr 1 0, PV.list (en1 IntKind.u32 (List.map Rw.id l)) Tail.no, PV.int IntKind.i64 (wI ((↑i : Int) + 1))] [Ob.abs (rkS l m), Ob.abs (rkS k m)])) False) False) (R Ex.normal [PV.bool false, PV.ptr 0 0, PV.ptr 1 0, PV.list (en1 IntKind.u32 (List.map Rw.id l)) Tail.no, PV.int IntKind.i64 (wI ((↑i : Int) + 1))] [Ob.abs (rkS l m), Ob.abs (rkS k m)])) (R Ex.ret [PV.bool false, PV.ptr 0 0, PV.ptr 1 0, PV.list (en1 IntKind.u32 (List.map Rw.id l)) Tail.no, PV.int IntKind.i64 (↑i : Int)] [Ob.abs (rkS l m), Ob.abs (rkS k m)])) False) (R Ex.ret [PV.bool false, PV.ptr 0 0, PV.ptr 1 0, PV.list (en1 IntKind.u32 (List.map Rw.id l)) Tail.no, PV.int IntKind.i64 (↑i : Int)] [Ob.abs (rkS l m), Ob.abs (rkS k m)])) False) False) (R Ex.ret [PV.bool false, PV.ptr 0 0, PV.ptr 1 0, PV.list (en1 IntKind.u32 (List.map Rw.id l)) Tail.no, PV.int IntKind.i64 (↑i : Int)] [Ob.abs (rkS l m), Ob.abs (rkS k m)])) (R Ex.ret [PV.bool false, PV.ptr 0 0, PV.ptr 1 0, PV.list (en1 IntKind.u32 (List.map Rw.id l)) Tail.no, PV.int IntKind.i64 (↑i : Int)] [Ob.abs (rkS l m), Ob.abs (rkS k m)])) (R Ex.ret [PV.bool false, PV.ptr 0 0, PV.ptr 1 0, PV.list (en1 IntKind.u32 (List.map Rw.id l)) Tail.no, PV.int IntKind.i64 (↑i : Int)] [Ob.abs (rkS l m), Ob.abs (rkS k m)])) False) False) (R (Ex.exit 2) [PV.bool false, PV.ptr 0 0, PV.ptr 1 0, PV.list (en1 IntKind.u32 (List.map Rw.id l)) Tail.no, PV.int IntKind.i64 (↑i : Int)] [Ob.abs (rkS l m), Ob.abs (rkS k m)])) = wpc br Try.prog gl TO7 [] (fun _ => 0) (subOf [1, 1, 1, 1, 1, 1, 1, 0, 1, 0] (bodyOf Try.f3)) [] (envS [4, 5, 6, 11, 12] [.bool false, .ptr 0 0, .ptr 1 0, .list (en1 .u32 (l.map Rw.id)) .no, .int .i64 i]) [.abs (rkS l m), .abs (rkS k m)] (fun ex e H => R ex (List.map e [4, 5, 6, 11, 12]) H) := by kernel_rfl
theorem oB_vc (l k : List RwS) (m : Int) (i : Nat) (R : Ex → List PV → Heap → Prop) (h : br (decide ((↑i : Int) < (↑(List.length (en1 IntKind.u32 (List.map Rw.id l))) : Int))) (InL (en1 IntKind.u32 (List.map Rw.id l)) 1 (↑i : Int) ∧ br (true && fitX [CK.int IntKind.u32] 0 (List.getD (en1 IntKind.u32 (List.map Rw.id l)) (Int.toNat (↑i : Int)) [])) (∃ (q : Nat), ∃ (l_1 : List RwS), ∃ (most : Int), ∃ (t : Int), SlIs [PV.ptr 0 0, PV.int IntKind.u32 (cI (List.getD (en1 IntKind.u32 (List.map Rw.id l)) (Int.toNat (↑i : Int)) []) 0)] [PV.ptr q 0, PV.int IntKind.u32 t] ∧ AbIs [Ob.abs (rkS l m), Ob.abs (rkS k m)] q (rkS l_1 most) ∧ Ok l_1 most ∧ InL (en1 IntKind.u32 (List.map Rw.id l)) 1 (↑i : Int) ∧ br (true && fitX [CK.int IntKind.u32] 0 (List.getD (en1 IntKind.u32 (List.map Rw.id l)) (Int.toNat (↑i : Int)) [])) (∃ (q : Nat), ∃ (l_2 : List RwS), ∃ (most : Int), ∃ (t_1 : Int), SlIs [PV.ptr 1 0, PV.int IntKind.u32 (cI (List.getD (en1 IntKind.u32 (List.map Rw.id l)) (Int.toNat (↑i : Int)) []) 0)] [PV.ptr q 0, PV.int IntKind.u32 t_1] ∧ AbIs [Ob.abs (rkS l m), Ob.abs (rkS k m)] q (rkS l_2 most) ∧ Ok l_2 most ∧ br ((!has l_1 t) == false) (br ((!has l_2 t_1) == false) (br ((getR l_1 t != getR l_2 t_1) == false) (InL (en1 IntKind.u32 (List.map Rw.id l)) 1 (↑i : Int) ∧ br (true && fitX [CK.int IntKind.u32] 0 (List.getD (en1 IntKind.u32 (List.map Rw.id l)) (Int.toNat (↑i : Int)) [])) (InL (en1 IntKind.u32 (List.map Rw.id l)) 1 (↑i : Int) ∧ br (true && fitX [CK.int IntKind.u32] 0 (List.getD (en1 IntKind.u32 (List.map Rw.id l)) (Int.toNat (↑i : Int)) [])) (br ((getR l_1 t != ByteArray.push (ByteArray.push ByteArray.empty (UInt8.ofNat (Int.toNat (IntKind.wrap IntKind.u8 (cI (List.getD (en1 IntKind.u32 (List.map Rw.id l)) (Int.toNat (↑i : Int)) []) 0))))) (UInt8.ofNat (Int.toNat (IntKind.wrap IntKind.u8 (Int.fdiv (cI (List.getD (en1 IntKind.u32 (List.map Rw.id l)) (Int.toNat (↑i : Int)) []) 0) 256))))) == false) (InL (en1 IntKind.u32 (List.map Rw.id l)) 1 (↑i : Int) ∧ br (true && fitX [CK.int IntKind.u32] 0 (List.getD (en1 IntKind.u32 (List.map Rw.id l)) (Int.toNat (↑i : Int)) [])) (br ((!rightS (cI (List.getD (en1 IntKind.u32 (List.map Rw.id l)) (Int.toNat (↑i : Int)) []) 0)) == false) (br (decide ((↑i : Int) > 0) == true) (InL (en1 IntKind.u32 (List.map Rw.id l)) 1 (wI ((↑i : Int) - 1)) ∧ br (true && fitX [CK.int IntKind.u32] 0 (List.getD (en1 IntKind.u32 (List.map Rw.id l)) (Int.toNat (wI ((↑i : Int) - 1))) [])) (InL (en1 IntKind.u32 (List.map Rw.id l)) 1 (↑i : Int) ∧ br (true && fitX [CK.int IntKind.u32] 0 (List.getD (en1 IntKind.u32 (List.map Rw.id l)) (Int.toNat (↑i : Int)) [])) (br (decide (cI (List.getD (en1 IntKind.u32 (List.map Rw.id l)) (Int.toNat (wI ((↑i : Int) - 1))) []) 0 ≥ cI (List.getD (en1 IntKind.u32 (List.map Rw.id l)) (Int.toNat (↑i : Int)) []) 0)) (R Ex.ret [PV.bool false, PV.ptr 0 0, PV.ptr 1 0, PV.list (en1 IntKind.u32 (List.map Rw.id l)) Tail.no, PV.int IntKind.i64 (↑i : Int)] [Ob.abs (rkS l m), Ob.abs (rkS k m)]) (R Ex.normal [PV.bool false, PV.ptr 0 0, PV.ptr 1 0, PV.list (en1 IntKind.u32 (List.map Rw.id l)) Tail.no, PV.int IntKind.i64 (wI ((↑i : Int) + 1))] [Ob.abs (rkS l m), Ob.abs (rkS k m)])) False) False) (R Ex.normal [PV.bool false, PV.ptr 0 0, PV.ptr 1 0, PV.list (en1 IntKind.u32 (List.map Rw.id l)) Tail.no, PV.int IntKind.i64 (wI ((↑i : Int) + 1))] [Ob.abs (rkS l m), Ob.abs (rkS k m)])) (R Ex.ret [PV.bool false, PV.ptr 0 0, PV.ptr 1 0, PV.list (en1 IntKind.u32 (List.map Rw.id l)) Tail.no, PV.int IntKind.i64 (↑i : Int)] [Ob.abs (rkS l m), Ob.abs (rkS k m)])) False) (R Ex.ret [PV.bool false, PV.ptr 0 0, PV.ptr 1 0, PV.list (en1 IntKind.u32 (List.map Rw.id l)) Tail.no, PV.int IntKind.i64 (↑i : Int)] [Ob.abs (rkS l m), Ob.abs (rkS k m)])) False) False) (R Ex.ret [PV.bool false, PV.ptr 0 0, PV.ptr 1 0, PV.list (en1 IntKind.u32 (List.map Rw.id l)) Tail.no, PV.int IntKind.i64 (↑i : Int)] [Ob.abs (rkS l m), Ob.abs (rkS k m)])) (R Ex.ret [PV.bool false, PV.ptr 0 0, PV.ptr 1 0, PV.list (en1 IntKind.u32 (List.map Rw.id l)) Tail.no, PV.int IntKind.i64 (↑i : Int)] [Ob.abs (rkS l m), Ob.abs (rkS k m)])) (R Ex.ret [PV.bool false, PV.ptr 0 0, PV.ptr 1 0, PV.list (en1 IntKind.u32 (List.map Rw.id l)) Tail.no, PV.int IntKind.i64 (↑i : Int)] [Ob.abs (rkS l m), Ob.abs (rkS k m)])) False) False) (R (Ex.exit 2) [PV.bool false, PV.ptr 0 0, PV.ptr 1 0, PV.list (en1 IntKind.u32 (List.map Rw.id l)) Tail.no, PV.int IntKind.i64 (↑i : Int)] [Ob.abs (rkS l m), Ob.abs (rkS k m)])) : Holds (wpc br Try.prog gl TO7 [] (fun _ => 0) (subOf [1, 1, 1, 1, 1, 1, 1, 0, 1, 0] (bodyOf Try.f3)) [] (envS [4, 5, 6, 11, 12] [.bool false, .ptr 0 0, .ptr 1 0, .list (en1 .u32 (l.map Rw.id)) .no, .int .i64 i]) [.abs (rkS l m), .abs (rkS k m)] (fun ex e H => R ex (List.map e [4, 5, 6, 11, 12]) H)) := holds_of_eq (oB_red l k m i R) h
theorem ba_beq (a : ByteArray) : (a == a) = true := by
  cases a with
  | mk d => exact beq_self_eq_true d
theorem ba_bne (a : ByteArray) : (a != a) = false := by
  unfold bne; rw [ba_beq]; rfl
def enc (x : Int) : ByteArray := ByteArray.push (ByteArray.push ByteArray.empty (UInt8.ofNat (Int.toNat (IntKind.wrap IntKind.u8 x)))) (UInt8.ofNat (Int.toNat (IntKind.wrap IntKind.u8 (Int.fdiv x 256))))
theorem rise_ext {l k : List RwS} {m n : Int} (hl : Ok l m) (hk : Ok k n) (h : ∀ r, r ∈ l ↔ r ∈ k) : l = k := by
  have nd : ∀ {l : List RwS} {m : Int}, Ok l m → l.Nodup := fun ok => ok.rise.imp fun h e => by rw [e] at h; exact absurd h (Int.lt_irrefl _)
  refine List.Perm.eq_of_pairwise (fun a b _ _ h1 h2 => ?_) hl.rise hk.rise ((List.perm_ext_iff_of_nodup (nd hl) (nd hk)).2 h)
  exact absurd (Int.lt_trans h1 h2) (Int.lt_irrefl _)
/-- what stands in a rack behind so many ids that were put -/
structure Fil (l : List RwS) (xs : List Int) : Prop where
  lk : Like l l 40
  len : l.length ≤ xs.length
  v : ∀ r ∈ l, r.v = enc r.id
  mem : ∀ x, (∃ r ∈ l, r.id = x) ↔ (rightS x = true ∧ x ∈ xs)
theorem Fil.nil : Fil [] [] := ⟨⟨.none (by decide) (by decide), .refl _, fun _ h => nomatch h⟩, Nat.le_refl _, (fun _ h => nomatch h), fun x => by simp⟩
theorem Fil.put {l : List RwS} {xs : List Int} (h : Fil l xs) (hx : xs.length < 40) (x : Int) : Fil (putL l 40 x (enc x)).1 (xs ++ [x]) := by
  have hlen := putL_len l 40 x (enc x)
  have hl := h.len
  obtain ⟨hp, _⟩ := h.lk.put x (enc x)
  have hmem : ∀ r, r ∈ (putL l 40 x (enc x)).1 ↔ r ∈ (putW l 40 x (enc x)).1 := fun r => hp.perm.mem_iff
  have hw : ∀ r, r ∈ (putW l 40 x (enc x)).1 ↔ if rightS x = true then (r ∈ l ∧ r.id ≠ x) ∨ r = ⟨x, enc x⟩ else r ∈ l := by
    intro r
    unfold putW
    by_cases c : rightS x = true
    · rw [if_pos c, if_pos c, if_neg (by omega)]
      simp [dropW]
    · rw [if_neg c, if_neg c]
  refine ⟨hp.self, by rw [List.length_append]; simp; omega, fun r hr => ?_, fun y => ?_⟩
  · have := (hw r).1 ((hmem r).1 hr)
    split at this
    · rcases this with ⟨h1, _⟩ | rfl
      · exact h.v r h1
      · rfl
    · exact h.v r this
  · constructor
    · rintro ⟨r, hr, rfl⟩
      refine ⟨hp.pos r hr, ?_⟩
      have := (hw r).1 ((hmem r).1 hr)
      split at this
      · rcases this with ⟨h1, _⟩ | rfl
        · exact List.mem_append_left _ ((h.mem r.id).1 ⟨r, h1, rfl⟩).2
        · simp
      · exact List.mem_append_left _ ((h.mem r.id).1 ⟨r, this, rfl⟩).2
    · rintro ⟨h1, h2⟩
      rcases List.mem_append.1 h2 with h2 | h2
      · obtain ⟨r, h3, h4⟩ := (h.mem y).2 ⟨h1, h2⟩
        by_cases c : y = x
        · subst c
          exact ⟨⟨y, enc y⟩, (hmem _).2 ((hw _).2 (by rw [if_pos h1]; exact .inr rfl)), rfl⟩
        · refine ⟨r, (hmem _).2 ((hw _).2 ?_), h4⟩
          split
          · exact .inl ⟨h3, by rw [h4]; exact c⟩
          · exact h3
      · rcases List.mem_singleton.1 h2 with rfl
        exact ⟨⟨y, enc y⟩, (hmem _).2 ((hw _).2 (by rw [if_pos h1]; exact .inr rfl)), rfl⟩
theorem Fil.ext {l k : List RwS} {xs ys : List Int} (h : Fil l xs) (h' : Fil k ys) (e : ∀ x, x ∈ xs ↔ x ∈ ys) : l = k := by
  have half : ∀ {l k : List RwS} {xs ys : List Int}, Fil l xs → Fil k ys → (∀ x, x ∈ xs ↔ x ∈ ys) → ∀ r, r ∈ l → r ∈ k := by
    intro l k xs ys h h' e r hr
    obtain ⟨h1, h2⟩ := (h.mem r.id).1 ⟨r, hr, rfl⟩
    obtain ⟨s, h3, h4⟩ := (h'.mem r.id).2 ⟨h1, (e _).1 h2⟩
    have h5 := h.v r hr
    have h6 := h'.v s h3
    rw [h4, ← h5] at h6
    have : s = r := by cases s; cases r; simp only at h4 h6; rw [h4, h6]
    exact this ▸ h3
  exact rise_ext h.lk.ok h'.lk.ok fun r => ⟨half h h' e r, half h' h (fun x => (e x).symm) r⟩
def rotA (a : List Int) (t i : Nat) : List Int := (List.range i).map fun j => a.getD ((j + t) % a.length) 0
theorem rotA_succ (a : List Int) (t i : Nat) : rotA a t (i + 1) = rotA a t i ++ [a.getD ((i + t) % a.length) 0] := by
  unfold rotA; rw [List.range_succ, List.map_append]; rfl
theorem rotA_mem (a : List Int) (t : Nat) (x : Int) : x ∈ a ↔ x ∈ rotA a t a.length := by
  unfold rotA
  constructor
  · intro h
    obtain ⟨j, hj, rfl⟩ := List.mem_iff_getElem.1 h
    refine List.mem_map.2 ⟨(j + (a.length - t % a.length)) % a.length, List.mem_range.2 (Nat.mod_lt _ (by omega)), ?_⟩
    have hlt := Nat.mod_lt t (show a.length > 0 by omega)
    have e : ((j + (a.length - t % a.length)) % a.length + t) % a.length = j := by
      rw [Nat.mod_add_mod]
      have h1 := Nat.div_add_mod t a.length
      have h2 : j + (a.length - t % a.length) + t = j + a.length * (t / a.length + 1) := by rw [Nat.mul_add]; omega
      rw [h2, Nat.add_mul_mod_self_left, Nat.mod_eq_of_lt hj]
    rw [e, getD_eq' hj]
  · intro h
    obtain ⟨j, hj, rfl⟩ := List.mem_map.1 h
    have hj := List.mem_range.1 hj
    exact getD_mem (Nat.mod_lt _ (by omega))
def oA_l : LSp := fun e H Q => ∃ (t : Nat) (a : List Int), a.length ≤ 40 ∧ t ≤ 255 ∧ SlIs (List.map e [0, 1, 4, 5, 6, 7, 8]) [.list (en1 .u32 a) .no, .int .u8 t, .bool false, .ptr 0 0, .ptr 1 0, .int .i64 a.length, .int .i64 0] ∧ HpIs H [.abs (rkS [] 40), .abs (rkS [] 40)] ∧
  ∀ (l : List RwS), Fil l a → Q (.exit 0) (envS [0, 1, 4, 5, 6, 7, 8] [.list (en1 .u32 a) .no, .int .u8 t, .bool false, .ptr 0 0, .ptr 1 0, .int .i64 a.length, .int .i64 a.length]) [.abs (rkS l 40), .abs (rkS l 40)]
theorem oA_l_ok : ∀ e H Q, oA_l e H Q → AW Try.prog gl Try.f3.ntmps (.loop (subOf [1, 1, 1, 1, 0, 1, 0] (bodyOf Try.f3))) Q e H := by
  rintro e H Q ⟨t, a, ha, ht, he, hH, hQ⟩
  refine aw_loop4 (hn := fun _ => 0) gl_low TO7_ok (.nil _ _ _ _ _) (σ := Nat × List RwS × List RwS) [0, 1, 4, 5, 6, 7, 8] (fun s => s.1 ≤ a.length ∧ Fil s.2.1 (a.take s.1) ∧ Fil s.2.2 (rotA a t s.1))
    (fun s => [.list (en1 .u32 a) .no, .int .u8 t, .bool false, .ptr 0 0, .ptr 1 0, .int .i64 a.length, .int .i64 s.1]) (fun s => [.abs (rkS s.2.1 40), .abs (rkS s.2.2 40)]) (fun s => a.length - s.1) (0, [], []) ⟨Nat.zero_le _, .nil, .nil⟩ he hH ?_
  rintro ⟨i, l, k⟩ ⟨hi, h1, h2⟩
  have hi' : i ≤ a.length := hi
  have h1' : Fil l (a.take i) := h1
  have h2' : Fil k (rotA a t i) := h2
  refine oA_vc l k 40 t a i _ ?_
  simp only [br_if, dt, toNat_nat]
  by_cases h : i < a.length
  · rw [if_pos (by omega)]
    refine ⟨en1_in _ _ _ (by omega) (by omega), ?_⟩
    rw [en1_get _ _ _ h, if_pos (by rfl), if_pos (by simp; intro h0; rw [h0] at h; exact absurd h (Nat.not_lt_zero _))]
    have e1 : Int.tmod (wI ((i : Int) + wI (t : Int))) (a.length : Int) = (((i + t) % a.length : Nat) : Int) := by
      rw [w_small (n := (t : Int)) (by omega) (by omega), w_small (by omega) (by omega), Int.tmod_eq_emod_of_nonneg (by omega)]; rfl
    have hj : (i + t) % a.length < a.length := Nat.mod_lt _ (by omega)
    rw [e1, toNat_nat, en1_get _ _ _ hj]
    refine ⟨en1_in _ _ _ (by omega) (by omega), ?_⟩
    rw [if_pos (by rfl)]
    refine ⟨l, 40, a.getD i 0, enc (a.getD i 0), rfl, rfl, h1'.lk.ok, k, 40, a.getD ((i + t) % a.length) 0, enc (a.getD ((i + t) % a.length) 0), rfl, rfl, h2'.lk.ok, ?_⟩
    refine ⟨(i + 1, _, _), (show a.length - (i + 1) < a.length - i by omega), ⟨h, ?_, ?_⟩, by rw [wI_succ h (by omega)], [], rfl, Nat.le_refl _, .inl rfl⟩
    · show Fil _ (a.take (i + 1))
      rw [take_snoc 0 h]
      exact h1'.put (by rw [List.length_take]; omega) _
    · show Fil _ (rotA a t (i + 1))
      rw [rotA_succ]
      exact h2'.put (by unfold rotA; rw [List.length_map, List.length_range]; omega) _
  · rw [if_neg (by omega)]
    have : i = a.length := by omega
    subst this
    rw [List.take_length] at h1'
    have e := h1'.ext h2' (fun x => rotA_mem a t x)
    subst e
    exact hQ l h1'
def oB_l : LSp := fun e H Q => ∃ (l : List RwS) (xs : List Int), Fil l xs ∧ SlIs (List.map e [4, 5, 6, 11, 12]) [.bool false, .ptr 0 0, .ptr 1 0, .list (en1 .u32 (l.map Rw.id)) .no, .int .i64 0] ∧ HpIs H [.abs (rkS l 40), .abs (rkS l 40)] ∧
  Q (.exit 2) (envS [4, 5, 6, 11, 12] [.bool false, .ptr 0 0, .ptr 1 0, .list (en1 .u32 (l.map Rw.id)) .no, .int .i64 l.length]) [.abs (rkS l 40), .abs (rkS l 40)]
theorem oB_l_ok : ∀ e H Q, oB_l e H Q → AW Try.prog gl Try.f3.ntmps (.loop (subOf [1, 1, 1, 1, 1, 1, 1, 0, 1, 0] (bodyOf Try.f3))) Q e H := by
  rintro e H Q ⟨l, xs, fl, he, hH, hQ⟩
  have ok := fl.lk.ok
  have hll := ok.len
  refine aw_loop4 (hn := fun _ => 0) gl_low TO7_ok (.nil _ _ _ _ _) (σ := Nat) [4, 5, 6, 11, 12] (fun i => i ≤ l.length)
    (fun i => [.bool false, .ptr 0 0, .ptr 1 0, .list (en1 .u32 (l.map Rw.id)) .no, .int .i64 i]) (fun _ => [.abs (rkS l 40), .abs (rkS l 40)]) (fun i => l.length - i) 0 (Nat.zero_le _) he hH ?_
  intro i hi
  have hi' : i ≤ l.length := hi
  refine oB_vc l l 40 i _ ?_
  simp only [br_if, dt, bt, bf, toNat_nat, en1_length, List.length_map]
  have idg : ∀ j, j < l.length → (en1 .u32 (l.map Rw.id)).getD j [] = [.int .u32 (l.getD j default).id] := fun j hj => by
    rw [en1_get _ _ _ (by rw [List.length_map]; exact hj), getD_eq' (by rw [List.length_map]; exact hj), getD_eq' hj, List.getElem_map]
  have inl : ∀ j : Nat, j < l.length → InL (en1 .u32 (l.map Rw.id)) 1 (j : Int) := fun j hj => en1_in _ _ _ (by omega) (by rw [List.length_map]; omega)
  by_cases h : i < l.length
  · rw [if_pos (by omega), idg i h]
    obtain ⟨r, hr⟩ : ∃ r, r = l.getD i default := ⟨_, rfl⟩
    have hm : r ∈ l := hr ▸ getD_mem h
    rw [← hr]
    have hh : has l r.id = true := (has_iff ok).2 ⟨r, hm, rfl⟩
    have hg : getR l r.id = enc r.id := (get_of ok hm).trans (fl.v r hm)
    have hrt := fl.lk.pos r hm
    refine ⟨inl i h, ?_⟩
    rw [if_pos (by rfl)]
    refine ⟨0, l, 40, r.id, rfl, rfl, ok, inl i h, ?_⟩
    rw [if_pos (by rfl)]
    refine ⟨1, l, 40, r.id, rfl, rfl, ok, ?_⟩
    rw [hh, if_pos (by decide), if_pos (by decide), if_pos (by rw [ba_bne])]
    refine ⟨inl i h, ?_⟩
    rw [if_pos (by rfl)]
    refine ⟨inl i h, ?_⟩
    rw [if_pos (by rfl), hg]
    have hid : cI [PV.int .u32 r.id] 0 = r.id := rfl
    rw [hid]
    rw [if_pos (by unfold enc; rw [ba_bne])]
    refine ⟨inl i h, ?_⟩
    rw [if_pos (by rfl), hrt, if_pos (by decide)]
    have fin : loopR Q [4, 5, 6, 11, 12] (fun i => i ≤ l.length) (fun i => [.bool false, .ptr 0 0, .ptr 1 0, .list (en1 .u32 (l.map Rw.id)) .no, .int .i64 i]) (fun _ => [.abs (rkS l 40), .abs (rkS l 40)]) (fun i => l.length - i) i .normal [.bool false, .ptr 0 0, .ptr 1 0, .list (en1 .u32 (l.map Rw.id)) .no, .int .i64 (wI ((i : Int) + 1))] [.abs (rkS l 40), .abs (rkS l 40)] :=
      ⟨i + 1, (show l.length - (i + 1) < l.length - i by omega), h, by rw [wI_succ h (by omega)], [], rfl, Nat.le_refl _, .inl rfl⟩
    by_cases c : 0 < i
    · rw [if_pos (by omega)]
      have e1 : wI ((i : Int) - 1) = ((i - 1 : Nat) : Int) := by rw [w_small (by omega) (by omega)]; omega
      rw [e1, toNat_nat, idg (i - 1) (by omega)]
      refine ⟨inl (i - 1) (by omega), ?_⟩
      rw [if_pos (by rfl)]
      refine ⟨inl i h, ?_⟩
      have hlt := ok.get (show i - 1 < i by omega) h
      rw [← hr] at hlt
      have hid2 : cI [PV.int .u32 (l.getD (i - 1) default).id] 0 = (l.getD (i - 1) default).id := rfl
      rw [if_pos (by rfl), hid2, if_neg (by omega)]
      exact fin
    · rw [if_neg (by omega)]
      exact fin
  · rw [if_neg (by omega)]
    have : i = l.length := by omega
    subst this
    exact hQ
theorem order1_red (a : List Int) (t : Nat) (K : PV → Prop) : (br (decide ((↑(List.length (en1 IntKind.u32 a)) : Int) > 40)) (K (PV.bool true)) (∃ (n : Int), SlIs [PV.int IntKind.i64 40] [PV.int IntKind.i64 n] ∧ ∃ (n_1 : Int), SlIs [PV.int IntKind.i64 40] [PV.int IntKind.i64 n_1] ∧ ∃ (t_1 : Nat), ∃ (a_1 : List Int), List.length a_1 ≤ 40 ∧ t_1 ≤ 255 ∧ SlIs [PV.list (en1 IntKind.u32 a) Tail.no, PV.int IntKind.u8 (↑t : Int), PV.bool false, PV.ptr 0 0, PV.ptr 1 0, PV.int IntKind.i64 (↑(List.length (en1 IntKind.u32 a)) : Int), PV.int IntKind.i64 0] [PV.list (en1 IntKind.u32 a_1) Tail.no, PV.int IntKind.u8 (↑t_1 : Int), PV.bool false, PV.ptr 0 0, PV.ptr 1 0, PV.int IntKind.i64 (↑(List.length a_1) : Int), PV.int IntKind.i64 0] ∧ HpIs [Ob.abs (rkS [] (mxI 0 n)), Ob.abs (rkS [] (mxI 0 n_1))] [Ob.abs (rkS [] 40), Ob.abs (rkS [] 40)] ∧ ∀ (l : List RwS), Fil l a_1 → ∃ (q : Nat), ∃ (l_1 : List RwS), ∃ (most : Int), SlIs [PV.ptr 0 0] [PV.ptr q 0] ∧ AbIs [Ob.abs (rkS l 40), Ob.abs (rkS l 40)] q (rkS l_1 most) ∧ Ok l_1 most ∧ ∃ (q : Nat), ∃ (l_2 : List RwS), ∃ (most : Int), SlIs [PV.ptr 1 0] [PV.ptr q 0] ∧ AbIs [Ob.abs (rkS l 40), Ob.abs (rkS l 40)] q (rkS l_2 most) ∧ Ok l_2 most ∧ ∃ (a : List Int), ∃ (b : List Int), ∃ (t : Tail), ∃ (t' : Tail), SlIs [PV.list (idsL l_1) Tail.no, PV.list (idsL l_2) Tail.no] [PV.list (en1 IntKind.u32 a) t, PV.list (en1 IntKind.u32 b) t'] ∧ List.length a ≤ 1000000 ∧ br (!decide (a = b)) (K (PV.bool false)) (∃ (l_3 : List RwS), ∃ (xs : List Int), Fil l_3 xs ∧ SlIs [PV.bool false, PV.ptr 0 0, PV.ptr 1 0, PV.list (idsL l_1) Tail.no, PV.int IntKind.i64 0] [PV.bool false, PV.ptr 0 0, PV.ptr 1 0, PV.list (en1 IntKind.u32 (List.map Rw.id l_3)) Tail.no, PV.int IntKind.i64 0] ∧ HpIs [Ob.abs (rkS l 40), Ob.abs (rkS l 40)] [Ob.abs (rkS l_3 40), Ob.abs (rkS l_3 40)] ∧ K (PV.bool true)))) = wpc br Try.prog gl TO7 [([1, 1, 1, 1, 0, 1, 0], oA_l), ([1, 1, 1, 1, 1, 1, 1, 0, 1, 0], oB_l)] (fun _ => 0) (bodyOf Try.f3) [] (env0 [.list (en1 .u32 a) .no, .int .u8 t]) [] (resQ Try.prog Try.f3.results.toList (fun x _ => K x)) := by kernel_rfl
theorem order1_vc (a : List Int) (t : Nat)  (K : PV → Prop) (h : br (decide ((↑(List.length (en1 IntKind.u32 a)) : Int) > 40)) (K (PV.bool true)) (∃ (n : Int), SlIs [PV.int IntKind.i64 40] [PV.int IntKind.i64 n] ∧ ∃ (n_1 : Int), SlIs [PV.int IntKind.i64 40] [PV.int IntKind.i64 n_1] ∧ ∃ (t_1 : Nat), ∃ (a_1 : List Int), List.length a_1 ≤ 40 ∧ t_1 ≤ 255 ∧ SlIs [PV.list (en1 IntKind.u32 a) Tail.no, PV.int IntKind.u8 (↑t : Int), PV.bool false, PV.ptr 0 0, PV.ptr 1 0, PV.int IntKind.i64 (↑(List.length (en1 IntKind.u32 a)) : Int), PV.int IntKind.i64 0] [PV.list (en1 IntKind.u32 a_1) Tail.no, PV.int IntKind.u8 (↑t_1 : Int), PV.bool false, PV.ptr 0 0, PV.ptr 1 0, PV.int IntKind.i64 (↑(List.length a_1) : Int), PV.int IntKind.i64 0] ∧ HpIs [Ob.abs (rkS [] (mxI 0 n)), Ob.abs (rkS [] (mxI 0 n_1))] [Ob.abs (rkS [] 40), Ob.abs (rkS [] 40)] ∧ ∀ (l : List RwS), Fil l a_1 → ∃ (q : Nat), ∃ (l_1 : List RwS), ∃ (most : Int), SlIs [PV.ptr 0 0] [PV.ptr q 0] ∧ AbIs [Ob.abs (rkS l 40), Ob.abs (rkS l 40)] q (rkS l_1 most) ∧ Ok l_1 most ∧ ∃ (q : Nat), ∃ (l_2 : List RwS), ∃ (most : Int), SlIs [PV.ptr 1 0] [PV.ptr q 0] ∧ AbIs [Ob.abs (rkS l 40), Ob.abs (rkS l 40)] q (rkS l_2 most) ∧ Ok l_2 most ∧ ∃ (a : List Int), ∃ (b : List Int), ∃ (t : Tail), ∃ (t' : Tail), SlIs [PV.list (idsL l_1) Tail.no, PV.list (idsL l_2) Tail.no] [PV.list (en1 IntKind.u32 a) t, PV.list (en1 IntKind.u32 b) t'] ∧ List.length a ≤ 1000000 ∧ br (!decide (a = b)) (K (PV.bool false)) (∃ (l_3 : List RwS), ∃ (xs : List Int), Fil l_3 xs ∧ SlIs [PV.bool false, PV.ptr 0 0, PV.ptr 1 0, PV.list (idsL l_1) Tail.no, PV.int IntKind.i64 0] [PV.bool false, PV.ptr 0 0, PV.ptr 1 0, PV.list (en1 IntKind.u32 (List.map Rw.id l_3)) Tail.no, PV.int IntKind.i64 0] ∧ HpIs [Ob.abs (rkS l 40), Ob.abs (rkS l 40)] [Ob.abs (rkS l_3 40), Ob.abs (rkS l_3 40)] ∧ K (PV.bool true)))) : ACalls Try.prog gl 3 [.list (en1 .u32 a) .no, .int .u8 t] [] (fun x _ => K x) :=
  acalls_of_wpc2 (T := TO7) (L := [([1, 1, 1, 1, 0, 1, 0], oA_l), ([1, 1, 1, 1, 1, 1, 1, 0, 1, 0], oB_l)]) (fun _ => 0) Try.func3 (by kernel_rfl) (by kernel_rfl) (by kernel_rfl) (TO7_ok) (.cons (sub_of (by kernel_rfl)) oA_l_ok (.cons (sub_of (by kernel_rfl)) oB_l_ok (.nil _ _ _ _ _))) (holds_of_eq (order1_red a t K) h)
theorem ids_en1S (l : List RwS) : idsL l = en1 .u32 (l.map Rw.id) := by simp [idsL, en1, Function.comp_def]
theorem order_ok (a : List Int) (t : Nat) (ht : t ≤ 255) : ACalls Try.prog gl 3 [.list (en1 .u32 a) .no, .int .u8 t] [] (fun x _ => x = .bool true) := by
  refine order1_vc a t _ ?_
  simp only [br_if, en1_length]
  by_cases c : a.length ≤ 40
  · rw [if_neg (by simp; omega)]
    refine ⟨40, rfl, 40, rfl, t, a, c, ht, rfl, rfl, fun l fl => ?_⟩
    have ok := fl.lk.ok
    refine ⟨0, l, 40, rfl, rfl, ok, 1, l, 40, rfl, rfl, ok, l.map Rw.id, l.map Rw.id, .no, .no, by rw [ids_en1S]; rfl, by rw [List.length_map]; exact ok.len, ?_⟩
    rw [if_neg (by simp)]
    exact ⟨l, a, fl, by rw [ids_en1S]; rfl, rfl, trivial⟩
  · rw [if_pos (by simp; omega)]
    trivial
theorem order_in {P : Program} (u5 : P.underlying 5 = some (.int .u8)) (u25 : P.underlying 25 = some (.int .u32)) (u22 : P.underlying 22 = some (.slice 25)) {xs : List PV} (h : WTargs P 6 [22, 5] xs) : ∃ (a : List Int) (t : Nat), xs = [.list (en1 .u32 a) .no, .int .u8 t] ∧ t ≤ 255 := by
  obtain ⟨x, r, rfl, h1, y, r2, rfl, h2, h3⟩ := h
  obtain rfl := wtargs_nil h3
  obtain ⟨a, rfl, _⟩ := wta_ints u22 u25 h1
  obtain ⟨t, rfl, h4, h5⟩ := wta_int u5 h2
  have h4' : 0 ≤ t := h4
  have h5' : t ≤ 255 := h5
  obtain ⟨n, rfl⟩ := Int.eq_ofNat_of_zero_le h4'
  exact ⟨a, n, rfl, by omega⟩
theorem u22o : Try.prog.underlying 22 = some (.slice 25) := by kernel_rfl
theorem order_args (xs : List PV) (h : WTargs Try.prog 6 Try.f3.params.toList xs) : ACalls Try.prog gl 3 xs [] (fun x _ => x = .bool true) := by
  rw [Try.params3] at h
  obtain ⟨a, t, rfl, ht⟩ := order_in u5 u25 u22o h
  exact order_ok a t ht
end Go.Proofs.Ytcmknbanojcbaaa
