/-
  The document's rack, step by step.
-/
import Derived.Test.YtcmknbanojcbaaaKj
import Derived.Test.YtcmknbanojcbaaaKp
import Derived.Test.YtcmknbanojcbaaaA7
import Derived.Test.YtcmknbanojcbaaaProg
namespace Go.Proofs.Ytcmknbanojcbaaa
open Go Go.AM Go.Proofs
theorem rright_red (t : Int) (K : PV → Prop) : (br ((t != 0) == true) (K (PV.bool (decide (t ≤ 2147483647)))) (K (PV.bool false))) = wpc br Try.prog gl [] [] (fun _ => 0) (bodyOf Try.f39) [] (env0 [.int .u32 t]) [] (resQ Try.prog Try.f39.results.toList (fun x _ => K x)) := by kernel_rfl
theorem rright_vc (t : Int)  (K : PV → Prop) (h : br ((t != 0) == true) (K (PV.bool (decide (t ≤ 2147483647)))) (K (PV.bool false))) : ACalls Try.prog gl 39 [.int .u32 t] [] (fun x _ => K x) :=
  acalls_of_wpc2 (T := []) (L := []) (fun _ => 0) Try.func39 (by kernel_rfl) (by kernel_rfl) (by kernel_rfl) (TabOk.nil _ _) (LOk.nil _ _ _ _ _) (holds_of_eq (rright_red t K) h)
theorem find_red (w : List RwI) (m : Int) (t : Int) (i : Nat) (R : Ex → List PV → Heap → Prop) : (br (decide ((↑i : Int) < (↑(List.length (List.map csI w)) : Int))) (InL (List.map csI w) 2 (↑i : Int) ∧ br (true && fitX [CK.int IntKind.u32] 0 (List.drop 0 (List.getD (List.map csI w) (Int.toNat (↑i : Int)) []))) (br (cI (List.drop 0 (List.getD (List.map csI w) (Int.toNat (↑i : Int)) [])) 0 == t) (R Ex.ret [PV.int IntKind.u32 t, PV.ptr 0 0, PV.int IntKind.i64 (↑i : Int), PV.int IntKind.i64 (↑i : Int)] [Ob.cells [PV.list (List.map csI w) Tail.no, PV.int IntKind.i64 m]]) (R Ex.normal [PV.int IntKind.u32 t, PV.ptr 0 0, PV.int IntKind.i64 0, PV.int IntKind.i64 (wI ((↑i : Int) + 1))] [Ob.cells [PV.list (List.map csI w) Tail.no, PV.int IntKind.i64 m]])) False) (R (Ex.exit 0) [PV.int IntKind.u32 t, PV.ptr 0 0, PV.int IntKind.i64 0, PV.int IntKind.i64 (↑i : Int)] [Ob.cells [PV.list (List.map csI w) Tail.no, PV.int IntKind.i64 m]])) = wpc br Try.prog gl [] [] (fun _ => 0) (subOf [1, 0, 1, 0] (bodyOf Try.f64)) [] (envS [1, 2, 4, 5] [.int .u32 t, .ptr 0 0, .int .i64 0, .int .i64 i]) [.cells [.list (w.map csI) .no, .int .i64 m]] (fun ex e H => R ex (List.map e [1, 2, 4, 5]) H) := by kernel_rfl
theorem find_vc (w : List RwI) (m : Int) (t : Int) (i : Nat) (R : Ex → List PV → Heap → Prop) (h : br (decide ((↑i : Int) < (↑(List.length (List.map csI w)) : Int))) (InL (List.map csI w) 2 (↑i : Int) ∧ br (true && fitX [CK.int IntKind.u32] 0 (List.drop 0 (List.getD (List.map csI w) (Int.toNat (↑i : Int)) []))) (br (cI (List.drop 0 (List.getD (List.map csI w) (Int.toNat (↑i : Int)) [])) 0 == t) (R Ex.ret [PV.int IntKind.u32 t, PV.ptr 0 0, PV.int IntKind.i64 (↑i : Int), PV.int IntKind.i64 (↑i : Int)] [Ob.cells [PV.list (List.map csI w) Tail.no, PV.int IntKind.i64 m]]) (R Ex.normal [PV.int IntKind.u32 t, PV.ptr 0 0, PV.int IntKind.i64 0, PV.int IntKind.i64 (wI ((↑i : Int) + 1))] [Ob.cells [PV.list (List.map csI w) Tail.no, PV.int IntKind.i64 m]])) False) (R (Ex.exit 0) [PV.int IntKind.u32 t, PV.ptr 0 0, PV.int IntKind.i64 0, PV.int IntKind.i64 (↑i : Int)] [Ob.cells [PV.list (List.map csI w) Tail.no, PV.int IntKind.i64 m]])) : Holds (wpc br Try.prog gl [] [] (fun _ => 0) (subOf [1, 0, 1, 0] (bodyOf Try.f64)) [] (envS [1, 2, 4, 5] [.int .u32 t, .ptr 0 0, .int .i64 0, .int .i64 i]) [.cells [.list (w.map csI) .no, .int .i64 m]] (fun ex e H => R ex (List.map e [1, 2, 4, 5]) H)) := holds_of_eq (find_red w m t i R) h
theorem same_red (a b : List (List PV)) (i : Nat) (R : Ex → List PV → Heap → Prop) : (br (decide ((↑i : Int) < (↑(List.length a) : Int))) (InL a 1 (↑i : Int) ∧ br (true && fitX [CK.int IntKind.u32] 0 (List.getD a (Int.toNat (↑i : Int)) [])) (InL b 1 (↑i : Int) ∧ br (true && fitX [CK.int IntKind.u32] 0 (List.getD b (Int.toNat (↑i : Int)) [])) (br (cI (List.getD a (Int.toNat (↑i : Int)) []) 0 != cI (List.getD b (Int.toNat (↑i : Int)) []) 0) (R Ex.ret [PV.list a Tail.no, PV.list b Tail.no, PV.bool false, PV.int IntKind.i64 (↑i : Int)] []) (R Ex.normal [PV.list a Tail.no, PV.list b Tail.no, PV.bool false, PV.int IntKind.i64 (wI ((↑i : Int) + 1))] [])) False) False) (R (Ex.exit 0) [PV.list a Tail.no, PV.list b Tail.no, PV.bool false, PV.int IntKind.i64 (↑i : Int)] [])) = wpc br Try.prog gl [] [] (fun _ => 0) (subOf [1, 1, 0, 1, 0] (bodyOf Try.f14)) [] (envS [0, 1, 4, 5] [.list a .no, .list b .no, .bool false, .int .i64 i]) [] (fun ex e H => R ex (List.map e [0, 1, 4, 5]) H) := by kernel_rfl
theorem same_vc (a b : List (List PV)) (i : Nat) (R : Ex → List PV → Heap → Prop) (h : br (decide ((↑i : Int) < (↑(List.length a) : Int))) (InL a 1 (↑i : Int) ∧ br (true && fitX [CK.int IntKind.u32] 0 (List.getD a (Int.toNat (↑i : Int)) [])) (InL b 1 (↑i : Int) ∧ br (true && fitX [CK.int IntKind.u32] 0 (List.getD b (Int.toNat (↑i : Int)) [])) (br (cI (List.getD a (Int.toNat (↑i : Int)) []) 0 != cI (List.getD b (Int.toNat (↑i : Int)) []) 0) (R Ex.ret [PV.list a Tail.no, PV.list b Tail.no, PV.bool false, PV.int IntKind.i64 (↑i : Int)] []) (R Ex.normal [PV.list a Tail.no, PV.list b Tail.no, PV.bool false, PV.int IntKind.i64 (wI ((↑i : Int) + 1))] [])) False) False) (R (Ex.exit 0) [PV.list a Tail.no, PV.list b Tail.no, PV.bool false, PV.int IntKind.i64 (↑i : Int)] [])) : Holds (wpc br Try.prog gl [] [] (fun _ => 0) (subOf [1, 1, 0, 1, 0] (bodyOf Try.f14)) [] (envS [0, 1, 4, 5] [.list a .no, .list b .no, .bool false, .int .i64 i]) [] (fun ex e H => R ex (List.map e [0, 1, 4, 5]) H)) := holds_of_eq (same_red a b i R) h
theorem rnext_red (w : List RwI) (m : Int) (t b : Int) (i : Nat) (R : Ex → List PV → Heap → Prop) : (br (decide ((↑i : Int) < (↑(List.length (List.map csI w)) : Int))) (InL (List.map csI w) 2 (↑i : Int) ∧ br (true && fitX [CK.int IntKind.u32] 0 (List.drop 0 (List.getD (List.map csI w) (Int.toNat (↑i : Int)) []))) (br (decide (cI (List.drop 0 (List.getD (List.map csI w) (Int.toNat (↑i : Int)) [])) 0 > t) == true) (br ((b == 0) == false) (br (decide (cI (List.drop 0 (List.getD (List.map csI w) (Int.toNat (↑i : Int)) [])) 0 < b)) (R Ex.normal [PV.int IntKind.u32 t, PV.ptr 0 0, PV.int IntKind.u32 0, PV.bool false, PV.int IntKind.u32 (cI (List.drop 0 (List.getD (List.map csI w) (Int.toNat (↑i : Int)) [])) 0), PV.int IntKind.i64 (wI ((↑i : Int) + 1))] [Ob.cells [PV.list (List.map csI w) Tail.no, PV.int IntKind.i64 m]]) (R Ex.normal [PV.int IntKind.u32 t, PV.ptr 0 0, PV.int IntKind.u32 0, PV.bool false, PV.int IntKind.u32 b, PV.int IntKind.i64 (wI ((↑i : Int) + 1))] [Ob.cells [PV.list (List.map csI w) Tail.no, PV.int IntKind.i64 m]])) (R Ex.normal [PV.int IntKind.u32 t, PV.ptr 0 0, PV.int IntKind.u32 0, PV.bool false, PV.int IntKind.u32 (cI (List.drop 0 (List.getD (List.map csI w) (Int.toNat (↑i : Int)) [])) 0), PV.int IntKind.i64 (wI ((↑i : Int) + 1))] [Ob.cells [PV.list (List.map csI w) Tail.no, PV.int IntKind.i64 m]])) (R Ex.normal [PV.int IntKind.u32 t, PV.ptr 0 0, PV.int IntKind.u32 0, PV.bool false, PV.int IntKind.u32 b, PV.int IntKind.i64 (wI ((↑i : Int) + 1))] [Ob.cells [PV.list (List.map csI w) Tail.no, PV.int IntKind.i64 m]])) False) (R (Ex.exit 0) [PV.int IntKind.u32 t, PV.ptr 0 0, PV.int IntKind.u32 0, PV.bool false, PV.int IntKind.u32 b, PV.int IntKind.i64 (↑i : Int)] [Ob.cells [PV.list (List.map csI w) Tail.no, PV.int IntKind.i64 m]])) = wpc br Try.prog gl [] [] (fun _ => 0) (subOf [1, 1, 0, 1, 0] (bodyOf Try.f37)) [] (envS [1, 2, 4, 5, 6, 7] [.int .u32 t, .ptr 0 0, .int .u32 0, .bool false, .int .u32 b, .int .i64 i]) [.cells [.list (w.map csI) .no, .int .i64 m]] (fun ex e H => R ex (List.map e [1, 2, 4, 5, 6, 7]) H) := by kernel_rfl
theorem rnext_vc (w : List RwI) (m : Int) (t b : Int) (i : Nat) (R : Ex → List PV → Heap → Prop) (h : br (decide ((↑i : Int) < (↑(List.length (List.map csI w)) : Int))) (InL (List.map csI w) 2 (↑i : Int) ∧ br (true && fitX [CK.int IntKind.u32] 0 (List.drop 0 (List.getD (List.map csI w) (Int.toNat (↑i : Int)) []))) (br (decide (cI (List.drop 0 (List.getD (List.map csI w) (Int.toNat (↑i : Int)) [])) 0 > t) == true) (br ((b == 0) == false) (br (decide (cI (List.drop 0 (List.getD (List.map csI w) (Int.toNat (↑i : Int)) [])) 0 < b)) (R Ex.normal [PV.int IntKind.u32 t, PV.ptr 0 0, PV.int IntKind.u32 0, PV.bool false, PV.int IntKind.u32 (cI (List.drop 0 (List.getD (List.map csI w) (Int.toNat (↑i : Int)) [])) 0), PV.int IntKind.i64 (wI ((↑i : Int) + 1))] [Ob.cells [PV.list (List.map csI w) Tail.no, PV.int IntKind.i64 m]]) (R Ex.normal [PV.int IntKind.u32 t, PV.ptr 0 0, PV.int IntKind.u32 0, PV.bool false, PV.int IntKind.u32 b, PV.int IntKind.i64 (wI ((↑i : Int) + 1))] [Ob.cells [PV.list (List.map csI w) Tail.no, PV.int IntKind.i64 m]])) (R Ex.normal [PV.int IntKind.u32 t, PV.ptr 0 0, PV.int IntKind.u32 0, PV.bool false, PV.int IntKind.u32 (cI (List.drop 0 (List.getD (List.map csI w) (Int.toNat (↑i : Int)) [])) 0), PV.int IntKind.i64 (wI ((↑i : Int) + 1))] [Ob.cells [PV.list (List.map csI w) Tail.no, PV.int IntKind.i64 m]])) (R Ex.normal [PV.int IntKind.u32 t, PV.ptr 0 0, PV.int IntKind.u32 0, PV.bool false, PV.int IntKind.u32 b, PV.int IntKind.i64 (wI ((↑i : Int) + 1))] [Ob.cells [PV.list (List.map csI w) Tail.no, PV.int IntKind.i64 m]])) False) (R (Ex.exit 0) [PV.int IntKind.u32 t, PV.ptr 0 0, PV.int IntKind.u32 0, PV.bool false, PV.int IntKind.u32 b, PV.int IntKind.i64 (↑i : Int)] [Ob.cells [PV.list (List.map csI w) Tail.no, PV.int IntKind.i64 m]])) : Holds (wpc br Try.prog gl [] [] (fun _ => 0) (subOf [1, 1, 0, 1, 0] (bodyOf Try.f37)) [] (envS [1, 2, 4, 5, 6, 7] [.int .u32 t, .ptr 0 0, .int .u32 0, .bool false, .int .u32 b, .int .i64 i]) [.cells [.list (w.map csI) .no, .int .i64 m]] (fun ex e H => R ex (List.map e [1, 2, 4, 5, 6, 7]) H)) := holds_of_eq (rnext_red w m t b i R) h
theorem rdrA_red (w : List RwI) (m : Int) (t : Int) (i : Nat) (R : Ex → List PV → Heap → Prop) : (br (decide ((↑i : Int) < (↑(List.length (List.map csI w)) : Int))) (InL (List.map csI w) 2 (↑i : Int) ∧ br (true && fitX [CK.int IntKind.u32] 0 (List.drop 0 (List.getD (List.map csI w) (Int.toNat (↑i : Int)) []))) (br (cI (List.drop 0 (List.getD (List.map csI w) (Int.toNat (↑i : Int)) [])) 0 != t) (InL (List.map csI w) 2 (↑i : Int) ∧ br (true && fitX [CK.int IntKind.u32, CK.int IntKind.i64] 0 (List.getD (List.map csI w) (Int.toNat (↑i : Int)) [])) (AppL [] [[PV.int IntKind.u32 (cI (List.getD (List.map csI w) (Int.toNat (↑i : Int)) []) 0), PV.int IntKind.i64 (cI (List.getD (List.map csI w) (Int.toNat (↑i : Int)) []) 1)]] 2 16 ∧ (List.all [PV.int IntKind.u32 (cI (List.getD (List.map csI w) (Int.toNat (↑i : Int)) []) 0), PV.int IntKind.i64 (cI (List.getD (List.map csI w) (Int.toNat (↑i : Int)) []) 1)] PV.one = true ∧ [[PV.int IntKind.u32 (cI (List.getD (List.map csI w) (Int.toNat (↑i : Int)) []) 0), PV.int IntKind.i64 (cI (List.getD (List.map csI w) (Int.toNat (↑i : Int)) []) 1)]] ≠ []) ∧ R Ex.normal [PV.int IntKind.u32 t, PV.ptr 0 0, PV.ptr 1 0, PV.ptr 2 0, PV.int IntKind.i64 (wI ((↑i : Int) + 1))] [Ob.cells [PV.list (List.map csI w) Tail.no, PV.int IntKind.i64 m], Ob.cells [PV.list [] Tail.exact, PV.int IntKind.i64 0], Ob.cells [PV.list [[PV.int IntKind.u32 (cI (List.getD (List.map csI w) (Int.toNat (↑i : Int)) []) 0), PV.int IntKind.i64 (cI (List.getD (List.map csI w) (Int.toNat (↑i : Int)) []) 1)]] (Tail.tok 3), PV.int IntKind.i64 m], Ob.tok]) False) (R Ex.normal [PV.int IntKind.u32 t, PV.ptr 0 0, PV.ptr 1 0, PV.ptr 2 0, PV.int IntKind.i64 (wI ((↑i : Int) + 1))] [Ob.cells [PV.list (List.map csI w) Tail.no, PV.int IntKind.i64 m], Ob.cells [PV.list [] Tail.exact, PV.int IntKind.i64 0], Ob.cells [PV.list [] Tail.exact, PV.int IntKind.i64 m]])) False) (R (Ex.exit 0) [PV.int IntKind.u32 t, PV.ptr 0 0, PV.ptr 1 0, PV.ptr 2 0, PV.int IntKind.i64 (↑i : Int)] [Ob.cells [PV.list (List.map csI w) Tail.no, PV.int IntKind.i64 m], Ob.cells [PV.list [] Tail.exact, PV.int IntKind.i64 0], Ob.cells [PV.list [] Tail.exact, PV.int IntKind.i64 m]])) = wpc br Try.prog gl [] [] (fun o => match o.op with | .load t _ => (match t with | 49 => 1 | _ => 0) | _ => match o.dst with | some 33 => 1 | _ => 0) (subOf [1, 1, 0, 1, 0] (bodyOf Try.f35)) [] (envS [1, 2, 4, 5, 6] [.int .u32 t, .ptr 0 0, .ptr 1 0, .ptr 2 0, .int .i64 i]) [.cells [.list (w.map csI) .no, .int .i64 m], .cells [.list [] .exact, .int .i64 0], .cells [.list [] .exact, .int .i64 m]] (fun ex e H => R ex (List.map e [1, 2, 4, 5, 6]) H) := by kernel_rfl
theorem rdrA_vc (w : List RwI) (m : Int) (t : Int) (i : Nat) (R : Ex → List PV → Heap → Prop) (h : br (decide ((↑i : Int) < (↑(List.length (List.map csI w)) : Int))) (InL (List.map csI w) 2 (↑i : Int) ∧ br (true && fitX [CK.int IntKind.u32] 0 (List.drop 0 (List.getD (List.map csI w) (Int.toNat (↑i : Int)) []))) (br (cI (List.drop 0 (List.getD (List.map csI w) (Int.toNat (↑i : Int)) [])) 0 != t) (InL (List.map csI w) 2 (↑i : Int) ∧ br (true && fitX [CK.int IntKind.u32, CK.int IntKind.i64] 0 (List.getD (List.map csI w) (Int.toNat (↑i : Int)) [])) (AppL [] [[PV.int IntKind.u32 (cI (List.getD (List.map csI w) (Int.toNat (↑i : Int)) []) 0), PV.int IntKind.i64 (cI (List.getD (List.map csI w) (Int.toNat (↑i : Int)) []) 1)]] 2 16 ∧ (List.all [PV.int IntKind.u32 (cI (List.getD (List.map csI w) (Int.toNat (↑i : Int)) []) 0), PV.int IntKind.i64 (cI (List.getD (List.map csI w) (Int.toNat (↑i : Int)) []) 1)] PV.one = true ∧ [[PV.int IntKind.u32 (cI (List.getD (List.map csI w) (Int.toNat (↑i : Int)) []) 0), PV.int IntKind.i64 (cI (List.getD (List.map csI w) (Int.toNat (↑i : Int)) []) 1)]] ≠ []) ∧ R Ex.normal [PV.int IntKind.u32 t, PV.ptr 0 0, PV.ptr 1 0, PV.ptr 2 0, PV.int IntKind.i64 (wI ((↑i : Int) + 1))] [Ob.cells [PV.list (List.map csI w) Tail.no, PV.int IntKind.i64 m], Ob.cells [PV.list [] Tail.exact, PV.int IntKind.i64 0], Ob.cells [PV.list [[PV.int IntKind.u32 (cI (List.getD (List.map csI w) (Int.toNat (↑i : Int)) []) 0), PV.int IntKind.i64 (cI (List.getD (List.map csI w) (Int.toNat (↑i : Int)) []) 1)]] (Tail.tok 3), PV.int IntKind.i64 m], Ob.tok]) False) (R Ex.normal [PV.int IntKind.u32 t, PV.ptr 0 0, PV.ptr 1 0, PV.ptr 2 0, PV.int IntKind.i64 (wI ((↑i : Int) + 1))] [Ob.cells [PV.list (List.map csI w) Tail.no, PV.int IntKind.i64 m], Ob.cells [PV.list [] Tail.exact, PV.int IntKind.i64 0], Ob.cells [PV.list [] Tail.exact, PV.int IntKind.i64 m]])) False) (R (Ex.exit 0) [PV.int IntKind.u32 t, PV.ptr 0 0, PV.ptr 1 0, PV.ptr 2 0, PV.int IntKind.i64 (↑i : Int)] [Ob.cells [PV.list (List.map csI w) Tail.no, PV.int IntKind.i64 m], Ob.cells [PV.list [] Tail.exact, PV.int IntKind.i64 0], Ob.cells [PV.list [] Tail.exact, PV.int IntKind.i64 m]])) : Holds (wpc br Try.prog gl [] [] (fun o => match o.op with | .load t _ => (match t with | 49 => 1 | _ => 0) | _ => match o.dst with | some 33 => 1 | _ => 0) (subOf [1, 1, 0, 1, 0] (bodyOf Try.f35)) [] (envS [1, 2, 4, 5, 6] [.int .u32 t, .ptr 0 0, .ptr 1 0, .ptr 2 0, .int .i64 i]) [.cells [.list (w.map csI) .no, .int .i64 m], .cells [.list [] .exact, .int .i64 0], .cells [.list [] .exact, .int .i64 m]] (fun ex e H => R ex (List.map e [1, 2, 4, 5, 6]) H)) := holds_of_eq (rdrA_red w m t i R) h
theorem rdrB_red (w : List RwI) (m : Int) (t : Int) (es : List (List PV)) (i : Nat) (R : Ex → List PV → Heap → Prop) : (br (decide ((↑i : Int) < (↑(List.length (List.map csI w)) : Int))) (InL (List.map csI w) 2 (↑i : Int) ∧ br (true && fitX [CK.int IntKind.u32] 0 (List.drop 0 (List.getD (List.map csI w) (Int.toNat (↑i : Int)) []))) (br (cI (List.drop 0 (List.getD (List.map csI w) (Int.toNat (↑i : Int)) [])) 0 != t) (InL (List.map csI w) 2 (↑i : Int) ∧ br (true && fitX [CK.int IntKind.u32, CK.int IntKind.i64] 0 (List.getD (List.map csI w) (Int.toNat (↑i : Int)) [])) (AppL es [[PV.int IntKind.u32 (cI (List.getD (List.map csI w) (Int.toNat (↑i : Int)) []) 0), PV.int IntKind.i64 (cI (List.getD (List.map csI w) (Int.toNat (↑i : Int)) []) 1)]] 2 16 ∧ (List.all [PV.int IntKind.u32 (cI (List.getD (List.map csI w) (Int.toNat (↑i : Int)) []) 0), PV.int IntKind.i64 (cI (List.getD (List.map csI w) (Int.toNat (↑i : Int)) []) 1)] PV.one = true ∧ [[PV.int IntKind.u32 (cI (List.getD (List.map csI w) (Int.toNat (↑i : Int)) []) 0), PV.int IntKind.i64 (cI (List.getD (List.map csI w) (Int.toNat (↑i : Int)) []) 1)]] ≠ []) ∧ R Ex.normal [PV.int IntKind.u32 t, PV.ptr 0 0, PV.ptr 1 0, PV.ptr 2 0, PV.int IntKind.i64 (wI ((↑i : Int) + 1))] [Ob.cells [PV.list (List.map csI w) Tail.no, PV.int IntKind.i64 m], Ob.cells [PV.list [] Tail.exact, PV.int IntKind.i64 0], Ob.cells [PV.list (es ++ [[PV.int IntKind.u32 (cI (List.getD (List.map csI w) (Int.toNat (↑i : Int)) []) 0), PV.int IntKind.i64 (cI (List.getD (List.map csI w) (Int.toNat (↑i : Int)) []) 1)]]) (Tail.tok 4), PV.int IntKind.i64 m], Ob.dead, Ob.tok]) False) (R Ex.normal [PV.int IntKind.u32 t, PV.ptr 0 0, PV.ptr 1 0, PV.ptr 2 0, PV.int IntKind.i64 (wI ((↑i : Int) + 1))] [Ob.cells [PV.list (List.map csI w) Tail.no, PV.int IntKind.i64 m], Ob.cells [PV.list [] Tail.exact, PV.int IntKind.i64 0], Ob.cells [PV.list es (Tail.tok 3), PV.int IntKind.i64 m], Ob.tok])) False) (R (Ex.exit 0) [PV.int IntKind.u32 t, PV.ptr 0 0, PV.ptr 1 0, PV.ptr 2 0, PV.int IntKind.i64 (↑i : Int)] [Ob.cells [PV.list (List.map csI w) Tail.no, PV.int IntKind.i64 m], Ob.cells [PV.list [] Tail.exact, PV.int IntKind.i64 0], Ob.cells [PV.list es (Tail.tok 3), PV.int IntKind.i64 m], Ob.tok])) = wpc br Try.prog gl [] [] (fun o => match o.op with | .load t _ => (match t with | 49 => 1 | _ => 0) | _ => match o.dst with | some 33 => 1 | _ => 0) (subOf [1, 1, 0, 1, 0] (bodyOf Try.f35)) [] (envS [1, 2, 4, 5, 6] [.int .u32 t, .ptr 0 0, .ptr 1 0, .ptr 2 0, .int .i64 i]) [.cells [.list (w.map csI) .no, .int .i64 m], .cells [.list [] .exact, .int .i64 0], .cells [.list es (.tok 3), .int .i64 m], .tok] (fun ex e H => R ex (List.map e [1, 2, 4, 5, 6]) H) := by kernel_rfl
theorem rdrB_vc (w : List RwI) (m : Int) (t : Int) (es : List (List PV)) (i : Nat) (R : Ex → List PV → Heap → Prop) (h : br (decide ((↑i : Int) < (↑(List.length (List.map csI w)) : Int))) (InL (List.map csI w) 2 (↑i : Int) ∧ br (true && fitX [CK.int IntKind.u32] 0 (List.drop 0 (List.getD (List.map csI w) (Int.toNat (↑i : Int)) []))) (br (cI (List.drop 0 (List.getD (List.map csI w) (Int.toNat (↑i : Int)) [])) 0 != t) (InL (List.map csI w) 2 (↑i : Int) ∧ br (true && fitX [CK.int IntKind.u32, CK.int IntKind.i64] 0 (List.getD (List.map csI w) (Int.toNat (↑i : Int)) [])) (AppL es [[PV.int IntKind.u32 (cI (List.getD (List.map csI w) (Int.toNat (↑i : Int)) []) 0), PV.int IntKind.i64 (cI (List.getD (List.map csI w) (Int.toNat (↑i : Int)) []) 1)]] 2 16 ∧ (List.all [PV.int IntKind.u32 (cI (List.getD (List.map csI w) (Int.toNat (↑i : Int)) []) 0), PV.int IntKind.i64 (cI (List.getD (List.map csI w) (Int.toNat (↑i : Int)) []) 1)] PV.one = true ∧ [[PV.int IntKind.u32 (cI (List.getD (List.map csI w) (Int.toNat (↑i : Int)) []) 0), PV.int IntKind.i64 (cI (List.getD (List.map csI w) (Int.toNat (↑i : Int)) []) 1)]] ≠ []) ∧ R Ex.normal [PV.int IntKind.u32 t, PV.ptr 0 0, PV.ptr 1 0, PV.ptr 2 0, PV.int IntKind.i64 (wI ((↑i : Int) + 1))] [Ob.cells [PV.list (List.map csI w) Tail.no, PV.int IntKind.i64 m], Ob.cells [PV.list [] Tail.exact, PV.int IntKind.i64 0], Ob.cells [PV.list (es ++ [[PV.int IntKind.u32 (cI (List.getD (List.map csI w) (Int.toNat (↑i : Int)) []) 0), PV.int IntKind.i64 (cI (List.getD (List.map csI w) (Int.toNat (↑i : Int)) []) 1)]]) (Tail.tok 4), PV.int IntKind.i64 m], Ob.dead, Ob.tok]) False) (R Ex.normal [PV.int IntKind.u32 t, PV.ptr 0 0, PV.ptr 1 0, PV.ptr 2 0, PV.int IntKind.i64 (wI ((↑i : Int) + 1))] [Ob.cells [PV.list (List.map csI w) Tail.no, PV.int IntKind.i64 m], Ob.cells [PV.list [] Tail.exact, PV.int IntKind.i64 0], Ob.cells [PV.list es (Tail.tok 3), PV.int IntKind.i64 m], Ob.tok])) False) (R (Ex.exit 0) [PV.int IntKind.u32 t, PV.ptr 0 0, PV.ptr 1 0, PV.ptr 2 0, PV.int IntKind.i64 (↑i : Int)] [Ob.cells [PV.list (List.map csI w) Tail.no, PV.int IntKind.i64 m], Ob.cells [PV.list [] Tail.exact, PV.int IntKind.i64 0], Ob.cells [PV.list es (Tail.tok 3), PV.int IntKind.i64 m], Ob.tok])) : Holds (wpc br Try.prog gl [] [] (fun o => match o.op with | .load t _ => (match t with | 49 => 1 | _ => 0) | _ => match o.dst with | some 33 => 1 | _ => 0) (subOf [1, 1, 0, 1, 0] (bodyOf Try.f35)) [] (envS [1, 2, 4, 5, 6] [.int .u32 t, .ptr 0 0, .ptr 1 0, .ptr 2 0, .int .i64 i]) [.cells [.list (w.map csI) .no, .int .i64 m], .cells [.list [] .exact, .int .i64 0], .cells [.list es (.tok 3), .int .i64 m], .tok] (fun ex e H => R ex (List.map e [1, 2, 4, 5, 6]) H)) := holds_of_eq (rdrB_red w m t es i R) h
-- the document's rack: rows as they came
theorem ids_en1 (l : List RwI) : idsL l = en1 .u32 (l.map Rw.id) := by simp [idsL, en1, Function.comp_def]
theorem inL_rw (w : List RwI) (i : Nat) : InL (w.map csI) 2 (i : Int) = (i < w.length) := inL_map csI_len (by decide) w i
theorem low_ws {n : Nat} (w : List RwI) : ∀ x ∈ (w.map csI).flatten, Low n x := low_map fun a _ => low_csI a
theorem uni_ws (w : List RwI) : uni 2 (w.map csI) := by
  intro e he
  obtain ⟨a, _, rfl⟩ := List.mem_map.1 he
  rfl
theorem low_box {n : Nat} (w : List RwI) (m : Int) : ∀ x ∈ [PV.list (w.map csI) .no, .int .i64 m], Low n x := by
  intro x hx
  simp only [List.mem_cons, List.not_mem_nil, or_false] at hx
  rcases hx with rfl | rfl
  · exact low_list NT.no (low_ws w)
  · exact .int _ _
theorem low_rkv (w : List RwI) (m : Int) : Low 0 (.agg [.list (w.map csI) .no, .int .i64 m]) := .agg _ (low_box w m)
theorem fiW_le (w : List RwI) (t : Int) : fiW w t ≤ w.length := List.findIdx_le_length
def rrt_s (args : List PV) (K : PV → Prop) : Prop := ∃ t : Int, 0 ≤ t ∧ SlIs args [.int .u32 t] ∧ K (.bool (rightS t))
theorem rrt_ok : SpOk Try.prog gl 39 (.pure rrt_s) := by
  rintro args K ⟨t, h0, he, hk⟩
  have he : args = _ := he
  subst he
  refine spure gl_low (by simp [low_int]) (.bool _) (rright_vc t (fun x => x = .bool (rightS t)) ?_) hk
  simp only [br_if, bt]
  unfold rightS
  by_cases c : t = 0
  · subst c; rw [if_neg (by decide)]; rfl
  · rw [if_pos (by simpa using c)]; congr 1; apply decide_eq_decide.2; omega
def find_l : LSp := fun e H Q => ∃ (w : List RwI) (m t : Int), w.length ≤ 1000000 ∧ SlIs (List.map e [1, 2, 4, 5]) [.int .u32 t, .ptr 0 0, .int .i64 0, .int .i64 0] ∧ HpIs H [.cells [.list (w.map csI) .no, .int .i64 m]] ∧
  (fiW w t < w.length → Q .ret (envS [1, 2, 4, 5] [.int .u32 t, .ptr 0 0, .int .i64 (fiW w t), .int .i64 (fiW w t)]) [.cells [.list (w.map csI) .no, .int .i64 m]]) ∧
  (fiW w t = w.length → Q (.exit 0) (envS [1, 2, 4, 5] [.int .u32 t, .ptr 0 0, .int .i64 0, .int .i64 w.length]) [.cells [.list (w.map csI) .no, .int .i64 m]])
theorem find_l_ok : ∀ e H Q, find_l e H Q → AW Try.prog gl Try.f64.ntmps (.loop (subOf [1, 0, 1, 0] (bodyOf Try.f64))) Q e H := by
  rintro e H Q ⟨w, m, t, hl, he, hH, hr, hx⟩
  have hle := fiW_le w t
  refine aw_loop4 (hn := fun _ => 0) gl_low (.nil _ _) (.nil _ _ _ _ _) (σ := Nat) [1, 2, 4, 5] (fun i => i ≤ fiW w t)
    (fun i => [.int .u32 t, .ptr 0 0, .int .i64 0, .int .i64 i]) (fun _ => [.cells [.list (w.map csI) .no, .int .i64 m]]) (fun i => w.length - i) 0 (Nat.zero_le _) he hH ?_
  intro i hi
  refine find_vc w m t i _ ?_
  simp only [br_if, dt, List.length_map]
  by_cases h : i < w.length
  · rw [if_pos (by omega), inL_rw, toNat_nat, getD_map default h]
    refine ⟨h, ?_⟩
    rw [if_pos (by rfl), List.drop_zero]
    have hc : cI (csI (w.getD i default)) 0 = (w.getD i default).id := rfl
    rw [hc]
    by_cases c : ((w.getD i default).id == t) = true
    · rw [if_pos c]
      have hge : fiW w t = i := fidx_stop default hi h c
      rw [hge] at hr
      exact hr h
    · rw [if_neg c]
      have hlt : i < fiW w t := fidx_step default hi h (by simpa using c)
      exact ⟨i + 1, (show w.length - (i + 1) < w.length - i by omega), hlt, by rw [wI_succ h (by omega)], [], rfl, Nat.le_refl _, .inl rfl⟩
  · rw [if_neg (by omega)]
    have hi' : i ≤ fiW w t := hi
    have : i = w.length := by omega
    subst this
    exact hx (by omega)
theorem find1_red (w : List RwI) (m : Int) (t : Int) (K : PV → Prop) : (∃ (w_1 : List RwI), ∃ (m_1 : Int), ∃ (t_1 : Int), List.length w_1 ≤ 1000000 ∧ SlIs [PV.int IntKind.u32 t, PV.ptr 0 0, PV.int IntKind.i64 0, PV.int IntKind.i64 0] [PV.int IntKind.u32 t_1, PV.ptr 0 0, PV.int IntKind.i64 0, PV.int IntKind.i64 0] ∧ HpIs [Ob.cells [PV.list (List.map csI w) Tail.no, PV.int IntKind.i64 m]] [Ob.cells [PV.list (List.map csI w_1) Tail.no, PV.int IntKind.i64 m_1]] ∧ (fiW w_1 t_1 < List.length w_1 → K (PV.int IntKind.i64 (↑(fiW w_1 t_1) : Int))) ∧ (fiW w_1 t_1 = List.length w_1 → K (PV.int IntKind.i64 (-1)))) = wpc br Try.prog gl [] [([1, 0, 1, 0], find_l)] (fun _ => 0) (bodyOf Try.f64) [] (env0 [.agg [.list (w.map csI) .no, .int .i64 m], .int .u32 t]) [] (resQ Try.prog Try.f64.results.toList (fun x _ => K x)) := by kernel_rfl
theorem find1_vc (w : List RwI) (m : Int) (t : Int)  (K : PV → Prop) (h : ∃ (w_1 : List RwI), ∃ (m_1 : Int), ∃ (t_1 : Int), List.length w_1 ≤ 1000000 ∧ SlIs [PV.int IntKind.u32 t, PV.ptr 0 0, PV.int IntKind.i64 0, PV.int IntKind.i64 0] [PV.int IntKind.u32 t_1, PV.ptr 0 0, PV.int IntKind.i64 0, PV.int IntKind.i64 0] ∧ HpIs [Ob.cells [PV.list (List.map csI w) Tail.no, PV.int IntKind.i64 m]] [Ob.cells [PV.list (List.map csI w_1) Tail.no, PV.int IntKind.i64 m_1]] ∧ (fiW w_1 t_1 < List.length w_1 → K (PV.int IntKind.i64 (↑(fiW w_1 t_1) : Int))) ∧ (fiW w_1 t_1 = List.length w_1 → K (PV.int IntKind.i64 (-1)))) : ACalls Try.prog gl 64 [.agg [.list (w.map csI) .no, .int .i64 m], .int .u32 t] [] (fun x _ => K x) :=
  acalls_of_wpc2 (T := []) (L := [([1, 0, 1, 0], find_l)]) (fun _ => 0) Try.func64 (by kernel_rfl) (by kernel_rfl) (by kernel_rfl) (TabOk.nil _ _) (.cons (sub_of (by kernel_rfl)) find_l_ok (.nil _ _ _ _ _)) (holds_of_eq (find1_red w m t K) h)
def find_s (args : List PV) (K : PV → Prop) : Prop := ∃ (w : List RwI) (m t : Int), SlIs args [.agg [.list (w.map csI) .no, .int .i64 m], .int .u32 t] ∧ w.length ≤ 1000000 ∧ K (.int .i64 (findS w t))
theorem find_ok : SpOk Try.prog gl 64 (.pure find_s) := by
  rintro args K ⟨w, m, t, he, hl, hk⟩
  have he : args = _ := he
  subst he
  have hle := fiW_le w t
  refine spure gl_low (by intro x hx; simp only [List.mem_cons, List.not_mem_nil, or_false] at hx; rcases hx with rfl | rfl; exact low_rkv w m; exact .int _ _) (.int _ _) (find1_vc w m t (fun x => x = .int .i64 (findS w t)) ⟨w, m, t, hl, rfl, rfl, fun h => ?_, fun h => ?_⟩) hk
  · unfold findS; rw [if_pos h]
  · unfold findS; rw [if_neg (by omega)]
def same_l : LSp := fun e H Q => ∃ (a b : List Int), a.length ≤ 1000000 ∧ a.length = b.length ∧ SlIs (List.map e [0, 1, 4, 5]) [.list (en1 .u32 a) .no, .list (en1 .u32 b) .no, .bool false, .int .i64 0] ∧ HpIs H [] ∧
  (a = b → Q (.exit 0) (envS [0, 1, 4, 5] [.list (en1 .u32 a) .no, .list (en1 .u32 b) .no, .bool false, .int .i64 a.length]) []) ∧
  (a ≠ b → ∀ i : Int, Q .ret (envS [0, 1, 4, 5] [.list (en1 .u32 a) .no, .list (en1 .u32 b) .no, .bool false, .int .i64 i]) [])
theorem same_l_ok : ∀ e H Q, same_l e H Q → AW Try.prog gl Try.f14.ntmps (.loop (subOf [1, 1, 0, 1, 0] (bodyOf Try.f14))) Q e H := by
  rintro e H Q ⟨a, b, hl, hab, he, hH, hx, hr⟩
  refine aw_loop4 (hn := fun _ => 0) gl_low (.nil _ _) (.nil _ _ _ _ _) (σ := Nat) [0, 1, 4, 5] (fun i => i ≤ a.length ∧ ∀ k, k < i → a.getD k 0 = b.getD k 0)
    (fun i => [.list (en1 .u32 a) .no, .list (en1 .u32 b) .no, .bool false, .int .i64 i]) (fun _ => []) (fun i => a.length - i) 0 ⟨Nat.zero_le _, fun k hk => absurd hk (Nat.not_lt_zero _)⟩ he hH ?_
  rintro i ⟨hi, hk⟩
  refine same_vc _ _ i _ ?_
  simp only [br_if, dt, en1_length, toNat_nat]
  by_cases h : i < a.length
  · rw [if_pos (by omega), en1_get _ _ _ h, en1_get _ _ _ (by omega)]
    refine ⟨en1_in _ _ _ (by omega) (by omega), ?_⟩
    rw [if_pos (by rfl)]
    refine ⟨en1_in _ _ _ (by omega) (by omega), ?_⟩
    rw [if_pos (by rfl)]
    have e1 : cI [PV.int .u32 (a.getD i 0)] 0 = a.getD i 0 := rfl
    have e2 : cI [PV.int .u32 (b.getD i 0)] 0 = b.getD i 0 := rfl
    rw [e1, e2]
    by_cases c : a.getD i 0 = b.getD i 0
    · rw [if_neg (by simpa using c)]
      refine ⟨i + 1, (show a.length - (i + 1) < a.length - i by omega), ⟨h, fun k hk' => ?_⟩, by rw [wI_succ h (by omega)], [], rfl, Nat.le_refl _, .inl rfl⟩
      rcases Nat.eq_or_lt_of_le (Nat.le_of_lt_succ hk') with rfl | q
      · exact c
      · exact hk k q
    · rw [if_pos (by simpa using c)]
      exact hr (fun e => c (by rw [e])) i
  · rw [if_neg (by omega)]
    have : i = a.length := by omega
    subst this
    refine hx (List.ext_getElem hab fun k h1 h2 => ?_)
    have := hk k h1
    rwa [getD_eq' h1, getD_eq' h2] at this
theorem same1_red (a b : List Int) (K : PV → Prop) : (br ((↑(List.length (en1 IntKind.u32 a)) : Int) != (↑(List.length (en1 IntKind.u32 b)) : Int)) (K (PV.bool false)) (∃ (a_1 : List Int), ∃ (b_1 : List Int), List.length a_1 ≤ 1000000 ∧ List.length a_1 = List.length b_1 ∧ SlIs [PV.list (en1 IntKind.u32 a) Tail.no, PV.list (en1 IntKind.u32 b) Tail.no, PV.bool false, PV.int IntKind.i64 0] [PV.list (en1 IntKind.u32 a_1) Tail.no, PV.list (en1 IntKind.u32 b_1) Tail.no, PV.bool false, PV.int IntKind.i64 0] ∧ HpIs [] [] ∧ (a_1 = b_1 → K (PV.bool true)) ∧ (a_1 ≠ b_1 → ∀ (_ : Int), K (PV.bool false)))) = wpc br Try.prog gl [] [([1, 1, 0, 1, 0], same_l)] (fun _ => 0) (bodyOf Try.f14) [] (env0 [.list (en1 .u32 a) .no, .list (en1 .u32 b) .no]) [] (resQ Try.prog Try.f14.results.toList (fun x _ => K x)) := by kernel_rfl
theorem same1_vc (a b : List Int)  (K : PV → Prop) (h : br ((↑(List.length (en1 IntKind.u32 a)) : Int) != (↑(List.length (en1 IntKind.u32 b)) : Int)) (K (PV.bool false)) (∃ (a_1 : List Int), ∃ (b_1 : List Int), List.length a_1 ≤ 1000000 ∧ List.length a_1 = List.length b_1 ∧ SlIs [PV.list (en1 IntKind.u32 a) Tail.no, PV.list (en1 IntKind.u32 b) Tail.no, PV.bool false, PV.int IntKind.i64 0] [PV.list (en1 IntKind.u32 a_1) Tail.no, PV.list (en1 IntKind.u32 b_1) Tail.no, PV.bool false, PV.int IntKind.i64 0] ∧ HpIs [] [] ∧ (a_1 = b_1 → K (PV.bool true)) ∧ (a_1 ≠ b_1 → ∀ (_ : Int), K (PV.bool false)))) : ACalls Try.prog gl 14 [.list (en1 .u32 a) .no, .list (en1 .u32 b) .no] [] (fun x _ => K x) :=
  acalls_of_wpc2 (T := []) (L := [([1, 1, 0, 1, 0], same_l)]) (fun _ => 0) Try.func14 (by kernel_rfl) (by kernel_rfl) (by kernel_rfl) (TabOk.nil _ _) (.cons (sub_of (by kernel_rfl)) same_l_ok (.nil _ _ _ _ _)) (holds_of_eq (same1_red a b K) h)
def same_s (args : List PV) (K : PV → Prop) : Prop := ∃ (a b : List Int) (t t' : Tail), SlIs args [.list (en1 .u32 a) t, .list (en1 .u32 b) t'] ∧ a.length ≤ 1000000 ∧ K (.bool (decide (a = b)))
theorem same_ok : SpOk Try.prog gl 14 (.pure same_s) := by
  rintro args K ⟨a, b, t, t', he, hl, hk⟩
  have he : args = _ := he
  subst he
  refine spure_w gl_low (.cons (.list _ _) (.cons (.list _ _) .nil)) (by intro x hx; simp only [List.mem_cons, List.not_mem_nil, or_false] at hx; rcases hx with rfl | rfl <;> exact low_list1 NT.no) (.bool _) (same1_vc a b (fun x => x = .bool (decide (a = b))) ?_) hk
  simp only [br_if, en1_length]
  by_cases c : a.length = b.length
  · rw [if_neg (by simp [c])]
    exact ⟨a, b, hl, c, rfl, rfl, fun e => by rw [decide_eq_true e], fun e _ => by rw [decide_eq_false e]⟩
  · rw [if_pos (by simp; omega)]
    rw [decide_eq_false (fun e => c (by rw [e]))]
def rnext_l : LSp := fun e H Q => ∃ (w : List RwI) (m t : Int), w.length ≤ 1000000 ∧ SlIs (List.map e [1, 2, 4, 5, 6, 7]) [.int .u32 t, .ptr 0 0, .int .u32 0, .bool false, .int .u32 0, .int .i64 0] ∧ HpIs H [.cells [.list (w.map csI) .no, .int .i64 m]] ∧
  Q (.exit 0) (envS [1, 2, 4, 5, 6, 7] [.int .u32 t, .ptr 0 0, .int .u32 0, .bool false, .int .u32 (nextW w t), .int .i64 w.length]) [.cells [.list (w.map csI) .no, .int .i64 m]]
theorem rnext_l_ok : ∀ e H Q, rnext_l e H Q → AW Try.prog gl Try.f37.ntmps (.loop (subOf [1, 1, 0, 1, 0] (bodyOf Try.f37))) Q e H := by
  rintro e H Q ⟨w, m, t, hl, he, hH, hx⟩
  refine aw_loop4 (hn := fun _ => 0) gl_low (.nil _ _) (.nil _ _ _ _ _) (σ := Nat) [1, 2, 4, 5, 6, 7] (fun i => i ≤ w.length)
    (fun i => [.int .u32 t, .ptr 0 0, .int .u32 0, .bool false, .int .u32 (nextW (w.take i) t), .int .i64 i]) (fun _ => [.cells [.list (w.map csI) .no, .int .i64 m]]) (fun i => w.length - i) 0 (Nat.zero_le _) he hH ?_
  intro i hi
  refine rnext_vc w m t _ i _ ?_
  simp only [br_if, dt, bt, bf, List.length_map]
  by_cases h : i < w.length
  · rw [if_pos (by omega), inL_rw, toNat_nat, getD_map default h]
    refine ⟨h, ?_⟩
    rw [if_pos (by rfl), List.drop_zero]
    have hc : cI (csI (w.getD i default)) 0 = (w.getD i default).id := rfl
    rw [hc]
    have hs : nextW (w.take (i + 1)) t = stepW t (nextW (w.take i) t) (w.getD i default) := by
      unfold nextW; rw [take_snoc default h, List.foldl_append]; rfl
    have fin : ∀ b, b = nextW (w.take (i + 1)) t → loopR Q [1, 2, 4, 5, 6, 7] (fun i => i ≤ w.length) (fun i => [.int .u32 t, .ptr 0 0, .int .u32 0, .bool false, .int .u32 (nextW (w.take i) t), .int .i64 i]) (fun _ => [.cells [.list (w.map csI) .no, .int .i64 m]]) (fun i => w.length - i) i .normal [.int .u32 t, .ptr 0 0, .int .u32 0, .bool false, .int .u32 b, .int .i64 (wI ((i : Int) + 1))] [.cells [.list (w.map csI) .no, .int .i64 m]] := by
      rintro b rfl
      exact ⟨i + 1, (show w.length - (i + 1) < w.length - i by omega), h, by rw [wI_succ h (by omega)], [], rfl, Nat.le_refl _, .inl rfl⟩
    rw [hs] at fin
    unfold stepW at fin
    by_cases c : (w.getD i default).id > t
    · rw [if_pos c] at fin
      rw [if_pos c]
      by_cases c2 : nextW (w.take i) t = 0
      · rw [if_pos c2] at fin
        rw [if_neg (by simpa using c2)]
        exact fin _ rfl
      · rw [if_neg c2] at fin
        rw [if_pos (by simpa using c2)]
        by_cases c3 : (w.getD i default).id < nextW (w.take i) t
        · rw [if_pos c3] at fin
          rw [if_pos c3]
          exact fin _ rfl
        · rw [if_neg c3] at fin
          rw [if_neg c3]
          exact fin _ rfl
    · rw [if_neg c] at fin
      rw [if_neg c]
      exact fin _ rfl
  · rw [if_neg (by omega)]
    have hi' : i ≤ w.length := hi
    have : i = w.length := by omega
    subst this
    rw [List.take_length]
    exact hx
theorem rnext1_red (w : List RwI) (m : Int) (t : Int) (K : PV → Prop) : (∃ (w_1 : List RwI), ∃ (m_1 : Int), ∃ (t_1 : Int), List.length w_1 ≤ 1000000 ∧ SlIs [PV.int IntKind.u32 t, PV.ptr 0 0, PV.int IntKind.u32 0, PV.bool false, PV.int IntKind.u32 0, PV.int IntKind.i64 0] [PV.int IntKind.u32 t_1, PV.ptr 0 0, PV.int IntKind.u32 0, PV.bool false, PV.int IntKind.u32 0, PV.int IntKind.i64 0] ∧ HpIs [Ob.cells [PV.list (List.map csI w) Tail.no, PV.int IntKind.i64 m]] [Ob.cells [PV.list (List.map csI w_1) Tail.no, PV.int IntKind.i64 m_1]] ∧ K (PV.tup [PV.int IntKind.u32 (nextW w_1 t_1), PV.bool (nextW w_1 t_1 != 0)])) = wpc br Try.prog gl [] [([1, 1, 0, 1, 0], rnext_l)] (fun _ => 0) (bodyOf Try.f37) [] (env0 [.agg [.list (w.map csI) .no, .int .i64 m], .int .u32 t]) [] (resQ Try.prog Try.f37.results.toList (fun x _ => K x)) := by kernel_rfl
theorem rnext1_vc (w : List RwI) (m : Int) (t : Int)  (K : PV → Prop) (h : ∃ (w_1 : List RwI), ∃ (m_1 : Int), ∃ (t_1 : Int), List.length w_1 ≤ 1000000 ∧ SlIs [PV.int IntKind.u32 t, PV.ptr 0 0, PV.int IntKind.u32 0, PV.bool false, PV.int IntKind.u32 0, PV.int IntKind.i64 0] [PV.int IntKind.u32 t_1, PV.ptr 0 0, PV.int IntKind.u32 0, PV.bool false, PV.int IntKind.u32 0, PV.int IntKind.i64 0] ∧ HpIs [Ob.cells [PV.list (List.map csI w) Tail.no, PV.int IntKind.i64 m]] [Ob.cells [PV.list (List.map csI w_1) Tail.no, PV.int IntKind.i64 m_1]] ∧ K (PV.tup [PV.int IntKind.u32 (nextW w_1 t_1), PV.bool (nextW w_1 t_1 != 0)])) : ACalls Try.prog gl 37 [.agg [.list (w.map csI) .no, .int .i64 m], .int .u32 t] [] (fun x _ => K x) :=
  acalls_of_wpc2 (T := []) (L := [([1, 1, 0, 1, 0], rnext_l)]) (fun _ => 0) Try.func37 (by kernel_rfl) (by kernel_rfl) (by kernel_rfl) (TabOk.nil _ _) (.cons (sub_of (by kernel_rfl)) rnext_l_ok (.nil _ _ _ _ _)) (holds_of_eq (rnext1_red w m t K) h)
def rnext_s (args : List PV) (K : PV → Prop) : Prop := ∃ (w : List RwI) (m t : Int), SlIs args [.agg [.list (w.map csI) .no, .int .i64 m], .int .u32 t] ∧ w.length ≤ 1000000 ∧ K (.tup [.int .u32 (nextW w t), .bool (nextW w t != 0)])
theorem rnext_ok : SpOk Try.prog gl 37 (.pure rnext_s) := by
  rintro args K ⟨w, m, t, he, hl, hk⟩
  have he : args = _ := he
  subst he
  exact spure gl_low (by intro x hx; simp only [List.mem_cons, List.not_mem_nil, or_false] at hx; rcases hx with rfl | rfl; exact low_rkv w m; exact .int _ _) (.tup _ (by intro y hy; simp only [List.mem_cons, List.not_mem_nil, or_false] at hy; rcases hy with rfl | rfl; exact .int _ _; exact .bool _)) (rnext1_vc w m t (fun x => x = .tup [.int .u32 (nextW w t), .bool (nextW w t != 0)]) ⟨w, m, t, hl, rfl, rfl, rfl⟩) hk
def hpD (w : List RwI) (m : Int) (acc : List RwI) : Heap := match acc with
  | [] => [.cells [.list (w.map csI) .no, .int .i64 m], .cells [.list [] .exact, .int .i64 0], .cells [.list [] .exact, .int .i64 m]]
  | a :: acc => [.cells [.list (w.map csI) .no, .int .i64 m], .cells [.list [] .exact, .int .i64 0], .cells [.list ((a :: acc).map csI) (.tok 3), .int .i64 m], .tok]
def rdr_l : LSp := fun e H Q => ∃ (w : List RwI) (m t : Int), w.length ≤ 1000000 ∧ SlIs (List.map e [1, 2, 4, 5, 6]) [.int .u32 t, .ptr 0 0, .ptr 1 0, .ptr 2 0, .int .i64 0] ∧ HpIs H [.cells [.list (w.map csI) .no, .int .i64 m], .cells [.list [] .exact, .int .i64 0], .cells [.list [] .exact, .int .i64 m]] ∧
  (dropW w t = [] → Q (.exit 0) (envS [1, 2, 4, 5, 6] [.int .u32 t, .ptr 0 0, .ptr 1 0, .ptr 2 0, .int .i64 w.length]) [.cells [.list (w.map csI) .no, .int .i64 m], .cells [.list [] .exact, .int .i64 0], .cells [.list [] .exact, .int .i64 m]]) ∧
  (dropW w t ≠ [] → Q (.exit 0) (envS [1, 2, 4, 5, 6] [.int .u32 t, .ptr 0 0, .ptr 1 0, .ptr 2 0, .int .i64 w.length]) [.cells [.list (w.map csI) .no, .int .i64 m], .cells [.list [] .exact, .int .i64 0], .cells [.list ((dropW w t).map csI) (.tok 3), .int .i64 m], .tok])
theorem low_bx0 {n : Nat} (m : Int) : ∀ x ∈ [PV.list [] .exact, .int .i64 m], Low n x := by
  intro x hx
  simp only [List.mem_cons, List.not_mem_nil, or_false] at hx
  rcases hx with rfl | rfl
  · exact low_list NT.exact (fun _ h => nomatch h)
  · exact .int _ _
theorem ren_hpD {ρ : Nat → Nat} {n : Nat} {es : List RwI} {m : Int} {k : Nat} (h3 : ρ 3 = k) (hn : 3 < n) : RenOb ρ n (.cells [.list (es.map csI) (.tok 3), .int .i64 m]) (.cells [.list (es.map csI) (.tok k), .int .i64 m]) := by
  subst h3
  exact .cells (.cons (.ltok _ 3 hn (low_ws es)) (RenL.low low0_int))
theorem ren_sl {ρ : Nat → Nat} {n : Nat} {t i : Int} (h0 : ρ 0 = 0) (h1 : ρ 1 = 1) (h2 : ρ 2 = 2) (hn : 2 < n) : RenL ρ n [.int .u32 t, .ptr 0 0, .ptr 1 0, .ptr 2 0, .int .i64 i] [.int .u32 t, .ptr 0 0, .ptr 1 0, .ptr 2 0, .int .i64 i] := by
  have a0 := Ren.ptr (ρ := ρ) (n := n) 0 0 (by omega)
  have a1 := Ren.ptr (ρ := ρ) (n := n) 1 0 (by omega)
  have a2 := Ren.ptr (ρ := ρ) (n := n) 2 0 (by omega)
  rw [h0] at a0
  rw [h1] at a1
  rw [h2] at a2
  exact .cons (.low (.int _ _)) (.cons a0 (.cons a1 (.cons a2 (.cons (.low (.int _ _)) .nil))))
theorem tidyA (w : List RwI) (m t i : Int) : Tidy 3 [.int .u32 t, .ptr 0 0, .ptr 1 0, .ptr 2 0, .int .i64 i] [.cells [.list (w.map csI) .no, .int .i64 m], .cells [.list [] .exact, .int .i64 0], .cells [.list [] .exact, .int .i64 m]] [.int .u32 t, .ptr 0 0, .ptr 1 0, .ptr 2 0, .int .i64 i] [.cells [.list (w.map csI) .no, .int .i64 m], .cells [.list [] .exact, .int .i64 0], .cells [.list [] .exact, .int .i64 m]] :=
  tidy_list [0, 1, 2] (.refl _) (.cons rfl (ren_low (low_box w m)) (.cons rfl (ren_low (low_bx0 _)) (.cons rfl (ren_low (low_bx0 _)) .nil))) (by decide) (Nat.le_refl _) (by decide) (ren_sl rfl rfl rfl (by simp))
theorem tidyB (w es : List RwI) (m t i : Int) (k : Nat) (hk : 3 ≤ k) {er : List (List PV)} (hee : er = es.map csI) {X : Heap} (hX : ([.cells [.list (w.map csI) .no, .int .i64 m], .cells [.list [] .exact, .int .i64 0], .cells [.list er (.tok k), .int .i64 m]] ++ X : Heap)[k]? = some .tok) :
    Tidy 3 [.int .u32 t, .ptr 0 0, .ptr 1 0, .ptr 2 0, .int .i64 i] ([.cells [.list (w.map csI) .no, .int .i64 m], .cells [.list [] .exact, .int .i64 0], .cells [.list er (.tok k), .int .i64 m]] ++ X) [.int .u32 t, .ptr 0 0, .ptr 1 0, .ptr 2 0, .int .i64 i] [.cells [.list (w.map csI) .no, .int .i64 m], .cells [.list [] .exact, .int .i64 0], .cells [.list (es.map csI) (.tok 3), .int .i64 m], .tok] := by
  subst hee
  exact tidy_list [0, 1, 2, k] (.refl _) (.cons rfl (ren_low (low_box w m)) (.cons rfl (ren_low (low_bx0 _)) (.cons rfl (ren_hpD rfl (by simp)) (.cons hX .tok .nil)))) (by simp; omega) (by simp) (by intro o ho; rcases (show o = 0 ∨ o = 1 ∨ o = 2 by omega) with rfl | rfl | rfl <;> rfl) (ren_sl rfl rfl rfl (by simp))
theorem rdr_l_ok : ∀ e H Q, rdr_l e H Q → AW Try.prog gl Try.f35.ntmps (.loop (subOf [1, 1, 0, 1, 0] (bodyOf Try.f35))) Q e H := by
  rintro e H Q ⟨w, m, t, hl, he, hH, hx0, hx1⟩
  have hH2 : H = _ := hH
  subst hH2
  refine aw_loop7 (hn := fun o => match o.op with | .load t _ => (match t with | 49 => 1 | _ => 0) | _ => match o.dst with | some 33 => 1 | _ => 0) gl_low (.nil _ _) (.nil _ _ _ _ _) (σ := Nat) [1, 2, 4, 5, 6] (fun i => i ≤ w.length)
    (fun i => [.int .u32 t, .ptr 0 0, .ptr 1 0, .ptr 2 0, .int .i64 i]) (fun i => hpD w m (dropW (w.take i) t)) (fun i => w.length - i) 0 (Nat.zero_le _) he rfl ?_
  intro i hi
  have hi' : i ≤ w.length := hi
  have hstep : ∀ h : i < w.length, dropW (w.take (i + 1)) t = if ((w.getD i default).id != t) = true then dropW (w.take i) t ++ [w.getD i default] else dropW (w.take i) t := by
    intro h
    unfold dropW
    rw [take_snoc default h, List.filter_append, List.filter_cons]
    split <;> simp
  have hc : cI (csI (w.getD i default)) 0 = (w.getD i default).id := rfl
  have hlen : (dropW (w.take i) t).length ≤ 1000000 := Nat.le_trans (List.length_filter_le _ _) (by rw [List.length_take]; omega)
  cases hacc : dropW (w.take i) t with
  | nil =>
    rw [hacc] at hstep
    refine rdrA_vc w m t i _ ?_
    simp only [br_if, dt, List.length_map]
    by_cases h : i < w.length
    · rw [if_pos (by omega), inL_rw, toNat_nat, getD_map default h]
      refine ⟨h, ?_⟩
      rw [if_pos (by rfl), List.drop_zero, hc]
      have hs := hstep h
      by_cases c : ((w.getD i default).id != t) = true
      · rw [if_pos c] at hs
        rw [if_pos c]
        refine ⟨h, ?_⟩
        rw [if_pos (by rfl)]
        refine ⟨⟨(by intro e he; simp at he), (by intro e he; simp at he; subst he; rfl), by simp⟩, ⟨by rfl, by simp⟩, i + 1, (show w.length - (i + 1) < w.length - i by omega), h, ?_⟩
        show Tidy 3 _ _ [PV.int .u32 t, .ptr 0 0, .ptr 1 0, .ptr 2 0, .int .i64 ((i + 1 : Nat) : Int)] (hpD w m (dropW (w.take (i + 1)) t))
        rw [hs, wI_succ h (by omega)]
        exact tidyB w [w.getD i default] m t _ 3 (Nat.le_refl _) rfl (X := [.tok]) rfl
      · rw [if_neg c] at hs
        rw [if_neg c]
        refine ⟨i + 1, (show w.length - (i + 1) < w.length - i by omega), h, ?_⟩
        show Tidy 3 _ _ [PV.int .u32 t, .ptr 0 0, .ptr 1 0, .ptr 2 0, .int .i64 ((i + 1 : Nat) : Int)] (hpD w m (dropW (w.take (i + 1)) t))
        rw [hs, wI_succ h (by omega)]
        exact tidyA w m t _
    · rw [if_neg (by omega)]
      have : i = w.length := by omega
      subst this
      rw [List.take_length] at hacc
      exact ⟨_, _, tidyA w m t _, hx0 hacc⟩
  | cons a acc =>
    rw [hacc] at hstep hlen
    refine rdrB_vc w m t ((a :: acc).map csI) i _ ?_
    simp only [br_if, dt, List.length_map]
    by_cases h : i < w.length
    · rw [if_pos (by omega), inL_rw, toNat_nat, getD_map default h]
      refine ⟨h, ?_⟩
      rw [if_pos (by rfl), List.drop_zero, hc]
      have hs := hstep h
      by_cases c : ((w.getD i default).id != t) = true
      · rw [if_pos c] at hs
        rw [if_pos c]
        refine ⟨h, ?_⟩
        rw [if_pos (by rfl)]
        refine ⟨⟨uni_ws _, (by intro e he; simp at he; subst he; rfl), by rw [List.length_map, List.length_singleton]; omega⟩, ⟨by rfl, by simp⟩, i + 1, (show w.length - (i + 1) < w.length - i by omega), h, ?_⟩
        show Tidy 3 _ _ [PV.int .u32 t, .ptr 0 0, .ptr 1 0, .ptr 2 0, .int .i64 ((i + 1 : Nat) : Int)] (hpD w m (dropW (w.take (i + 1)) t))
        rw [hs, wI_succ h (by omega)]
        exact tidyB w (a :: acc ++ [w.getD i default]) m t _ 4 (by decide) (by rw [List.map_append]; rfl) (X := [.dead, .tok]) rfl
      · rw [if_neg c] at hs
        rw [if_neg c]
        refine ⟨i + 1, (show w.length - (i + 1) < w.length - i by omega), h, ?_⟩
        show Tidy 3 _ _ [PV.int .u32 t, .ptr 0 0, .ptr 1 0, .ptr 2 0, .int .i64 ((i + 1 : Nat) : Int)] (hpD w m (dropW (w.take (i + 1)) t))
        rw [hs, wI_succ h (by omega)]
        exact tidyB w (a :: acc) m t _ 3 (Nat.le_refl _) rfl (X := [.tok]) rfl
    · rw [if_neg (by omega)]
      have : i = w.length := by omega
      subst this
      rw [List.take_length] at hacc
      rw [hacc] at hx1
      exact ⟨_, _, tidyB w (a :: acc) m t _ 3 (Nat.le_refl _) rfl (X := [.tok]) rfl, hx1 (List.cons_ne_nil _ _)⟩
theorem rdrop1_red (w : List RwI) (m : Int) (t : Int) (K : PV → Heap → Prop) : (∃ (w_1 : List RwI), ∃ (m_1 : Int), ∃ (t_1 : Int), List.length w_1 ≤ 1000000 ∧ SlIs [PV.int IntKind.u32 t, PV.ptr 0 0, PV.ptr 1 0, PV.ptr 2 0, PV.int IntKind.i64 0] [PV.int IntKind.u32 t_1, PV.ptr 0 0, PV.ptr 1 0, PV.ptr 2 0, PV.int IntKind.i64 0] ∧ HpIs [Ob.cells [PV.list (List.map csI w) Tail.no, PV.int IntKind.i64 m], Ob.cells [PV.list [] Tail.exact, PV.int IntKind.i64 0], Ob.cells [PV.list [] Tail.exact, PV.int IntKind.i64 m]] [Ob.cells [PV.list (List.map csI w_1) Tail.no, PV.int IntKind.i64 m_1], Ob.cells [PV.list [] Tail.exact, PV.int IntKind.i64 0], Ob.cells [PV.list [] Tail.exact, PV.int IntKind.i64 m_1]] ∧ (dropW w_1 t_1 = [] → K (PV.agg [PV.list [] Tail.exact, PV.int IntKind.i64 m_1]) [Ob.cells [PV.list (List.map csI w_1) Tail.no, PV.int IntKind.i64 m_1], Ob.cells [PV.list [] Tail.exact, PV.int IntKind.i64 m_1], Ob.cells [PV.list [] Tail.exact, PV.int IntKind.i64 m_1]]) ∧ (dropW w_1 t_1 ≠ [] → K (PV.agg [PV.list (List.map csI (dropW w_1 t_1)) (Tail.tok 3), PV.int IntKind.i64 m_1]) [Ob.cells [PV.list (List.map csI w_1) Tail.no, PV.int IntKind.i64 m_1], Ob.cells [PV.list (List.map csI (dropW w_1 t_1)) (Tail.tok 3), PV.int IntKind.i64 m_1], Ob.cells [PV.list (List.map csI (dropW w_1 t_1)) (Tail.tok 3), PV.int IntKind.i64 m_1], Ob.tok])) = wpc br Try.prog gl [] [([1, 1, 0, 1, 0], rdr_l)] (fun o => match o.op with | .load t _ => (match t with | 49 => 1 | _ => 0) | _ => match o.dst with | some 33 => 1 | _ => 0) (bodyOf Try.f35) [] (env0 [.agg [.list (w.map csI) .no, .int .i64 m], .int .u32 t]) [] (resQ Try.prog Try.f35.results.toList K) := by kernel_rfl
theorem rdrop1_vc (w : List RwI) (m : Int) (t : Int)  (K : PV → Heap → Prop) (h : ∃ (w_1 : List RwI), ∃ (m_1 : Int), ∃ (t_1 : Int), List.length w_1 ≤ 1000000 ∧ SlIs [PV.int IntKind.u32 t, PV.ptr 0 0, PV.ptr 1 0, PV.ptr 2 0, PV.int IntKind.i64 0] [PV.int IntKind.u32 t_1, PV.ptr 0 0, PV.ptr 1 0, PV.ptr 2 0, PV.int IntKind.i64 0] ∧ HpIs [Ob.cells [PV.list (List.map csI w) Tail.no, PV.int IntKind.i64 m], Ob.cells [PV.list [] Tail.exact, PV.int IntKind.i64 0], Ob.cells [PV.list [] Tail.exact, PV.int IntKind.i64 m]] [Ob.cells [PV.list (List.map csI w_1) Tail.no, PV.int IntKind.i64 m_1], Ob.cells [PV.list [] Tail.exact, PV.int IntKind.i64 0], Ob.cells [PV.list [] Tail.exact, PV.int IntKind.i64 m_1]] ∧ (dropW w_1 t_1 = [] → K (PV.agg [PV.list [] Tail.exact, PV.int IntKind.i64 m_1]) [Ob.cells [PV.list (List.map csI w_1) Tail.no, PV.int IntKind.i64 m_1], Ob.cells [PV.list [] Tail.exact, PV.int IntKind.i64 m_1], Ob.cells [PV.list [] Tail.exact, PV.int IntKind.i64 m_1]]) ∧ (dropW w_1 t_1 ≠ [] → K (PV.agg [PV.list (List.map csI (dropW w_1 t_1)) (Tail.tok 3), PV.int IntKind.i64 m_1]) [Ob.cells [PV.list (List.map csI w_1) Tail.no, PV.int IntKind.i64 m_1], Ob.cells [PV.list (List.map csI (dropW w_1 t_1)) (Tail.tok 3), PV.int IntKind.i64 m_1], Ob.cells [PV.list (List.map csI (dropW w_1 t_1)) (Tail.tok 3), PV.int IntKind.i64 m_1], Ob.tok])) : ACalls Try.prog gl 35 [.agg [.list (w.map csI) .no, .int .i64 m], .int .u32 t] [] K :=
  acalls_of_wpc2 (T := []) (L := [([1, 1, 0, 1, 0], rdr_l)]) (fun o => match o.op with | .load t _ => (match t with | 49 => 1 | _ => 0) | _ => match o.dst with | some 33 => 1 | _ => 0) Try.func35 (by kernel_rfl) (by kernel_rfl) (by kernel_rfl) (TabOk.nil _ _) (.cons (sub_of (by kernel_rfl)) rdr_l_ok (.nil _ _ _ _ _)) (holds_of_eq (rdrop1_red w m t K) h)
theorem low_rargs (w : List RwI) (m t : Int) : ∀ x ∈ [PV.agg [.list (w.map csI) .no, .int .i64 m], .int .u32 t], Low 0 x := by
  intro x hx
  simp only [List.mem_cons, List.not_mem_nil, or_false] at hx
  rcases hx with rfl | rfl
  · exact low_rkv w m
  · exact .int _ _
theorem wk_agg {x y : PV} {xs : List PV} (h : Wk x y) : Wk (.agg (x :: xs)) (.agg (y :: xs)) := .agg (.cons h (.refl _))
def rdrop_s (args : List PV) (H : Heap) (K : PV → Heap → Prop) : Prop := ∃ (w : List RwI) (m t : Int), SlIs args [.agg [.list (w.map csI) .no, .int .i64 m], .int .u32 t] ∧ w.length ≤ 1000000 ∧
  (dropW w t = [] → K (.agg [.list [] .exact, .int .i64 m]) H) ∧ (dropW w t ≠ [] → K (.agg [.list ((dropW w t).map csI) (.tok H.length), .int .i64 m]) (H ++ [.tok]))
theorem rdrop_ok : SpOk Try.prog gl 35 (.heap rdrop_s) := by
  rintro args H K ⟨w, m, t, he, hl, hk0, hk1⟩
  have he : args = _ := he
  subst he
  refine acalls_to (mk_agg gl_low (es := (dropW w t).map csI) (rest := [.int .i64 m]) (.refl _) (low_rargs w m t) (low_ws _) low0_int ?_ H) ?_
  · refine rdrop1_vc w m t _ ⟨w, m, t, hl, rfl, rfl, fun h => ⟨fun _ => rfl, fun k => absurd (by rw [h]; rfl) k⟩, fun h => ⟨fun k => absurd (List.map_eq_nil_iff.1 k) h, fun _ => ⟨3, rfl, rfl⟩⟩⟩
  · rintro x H' ⟨h0, h1⟩
    by_cases c : dropW w t = []
    · obtain ⟨rfl, rfl⟩ := h0 (by rw [c]; rfl)
      exact hk0 c
    · obtain ⟨rfl, rfl⟩ := h1 (fun k => c (List.map_eq_nil_iff.1 k))
      exact hk1 c
def rdropP_s (args : List PV) (K : PV → Prop) : Prop := ∃ (w : List RwI) (m t : Int), SlIs args [.agg [.list (w.map csI) .no, .int .i64 m], .int .u32 t] ∧ w.length ≤ 1000000 ∧ K (.agg [.list ((dropW w t).map csI) .no, .int .i64 m])
theorem rdropP_ok : SpOk Try.prog gl 35 (.pure rdropP_s) := by
  rintro args K ⟨w, m, t, he, hl, hk⟩
  have he : args = _ := he
  subst he
  refine spure gl_low (low_rargs w m t) (low_rkv _ m) (acalls_wkout (rdrop1_vc w m t _ ⟨w, m, t, hl, rfl, rfl, fun h => ?_, fun h => ?_⟩)) hk
  · exact ⟨.agg [.list [] .no, .int .i64 m], _, wk_agg (.list _ _), .refl _, by rw [h]; rfl⟩
  · exact ⟨_, _, wk_agg (.list _ _), .refl _, rfl⟩
def TR : Tab := [(64, .pure find_s), (39, .pure rrt_s), (35, .heap rdrop_s)]
theorem TR_ok : TabOk Try.prog gl TR := .cons find_ok (.cons rrt_ok (.cons rdrop_ok (.nil _ _)))
theorem rget1_red (w : List RwI) (m : Int) (t : Int) (K : PV → Prop) : (∃ (w_1 : List RwI), ∃ (m_1 : Int), ∃ (t_1 : Int), SlIs [PV.agg [PV.list (List.map csI w) Tail.no, PV.int IntKind.i64 m], PV.int IntKind.u32 t] [PV.agg [PV.list (List.map csI w_1) Tail.no, PV.int IntKind.i64 m_1], PV.int IntKind.u32 t_1] ∧ List.length w_1 ≤ 1000000 ∧ br (decide (findS w_1 t_1 < 0)) (K (PV.tup [PV.int IntKind.i64 0, PV.bool false])) (InL (List.map csI w) 2 (findS w_1 t_1) ∧ br (true && fitX [CK.int IntKind.i64] 0 (List.drop 1 (List.getD (List.map csI w) (Int.toNat (findS w_1 t_1)) []))) (K (PV.tup [PV.int IntKind.i64 (cI (List.drop 1 (List.getD (List.map csI w) (Int.toNat (findS w_1 t_1)) [])) 0), PV.bool true])) False)) = wpc br Try.prog gl TR [] (fun _ => 0) (bodyOf Try.f30) [] (env0 [.agg [.list (w.map csI) .no, .int .i64 m], .int .u32 t]) [] (resQ Try.prog Try.f30.results.toList (fun x _ => K x)) := by kernel_rfl
theorem rget1_vc (w : List RwI) (m : Int) (t : Int)  (K : PV → Prop) (h : ∃ (w_1 : List RwI), ∃ (m_1 : Int), ∃ (t_1 : Int), SlIs [PV.agg [PV.list (List.map csI w) Tail.no, PV.int IntKind.i64 m], PV.int IntKind.u32 t] [PV.agg [PV.list (List.map csI w_1) Tail.no, PV.int IntKind.i64 m_1], PV.int IntKind.u32 t_1] ∧ List.length w_1 ≤ 1000000 ∧ br (decide (findS w_1 t_1 < 0)) (K (PV.tup [PV.int IntKind.i64 0, PV.bool false])) (InL (List.map csI w) 2 (findS w_1 t_1) ∧ br (true && fitX [CK.int IntKind.i64] 0 (List.drop 1 (List.getD (List.map csI w) (Int.toNat (findS w_1 t_1)) []))) (K (PV.tup [PV.int IntKind.i64 (cI (List.drop 1 (List.getD (List.map csI w) (Int.toNat (findS w_1 t_1)) [])) 0), PV.bool true])) False)) : ACalls Try.prog gl 30 [.agg [.list (w.map csI) .no, .int .i64 m], .int .u32 t] [] (fun x _ => K x) :=
  acalls_of_wpc2 (T := TR) (L := []) (fun _ => 0) Try.func30 (by kernel_rfl) (by kernel_rfl) (by kernel_rfl) (TR_ok) (LOk.nil _ _ _ _ _) (holds_of_eq (rget1_red w m t K) h)
theorem rput1_red (w : List RwI) (m : Int) (t v : Int) (K : PV → Prop) : (∃ (t_1 : Int), 0 ≤ t_1 ∧ SlIs [PV.int IntKind.u32 t] [PV.int IntKind.u32 t_1] ∧ br (!rightS t_1) (K (PV.tup [PV.agg [PV.list (List.map csI w) Tail.no, PV.int IntKind.i64 m], PV.int IntKind.i64 14])) (∃ (w_1 : List RwI), ∃ (m_1 : Int), ∃ (t_2 : Int), SlIs [PV.agg [PV.list (List.map csI w) Tail.no, PV.int IntKind.i64 m], PV.int IntKind.u32 t] [PV.agg [PV.list (List.map csI w_1) Tail.no, PV.int IntKind.i64 m_1], PV.int IntKind.u32 t_2] ∧ List.length w_1 ≤ 1000000 ∧ br (decide (findS w_1 t_2 < 0) == true) (br (decide ((↑(List.length (List.map csI w)) : Int) ≥ m)) (K (PV.tup [PV.agg [PV.list (List.map csI w) Tail.no, PV.int IntKind.i64 m], PV.int IntKind.i64 10])) (∃ (w_2 : List RwI), ∃ (m_2 : Int), ∃ (t_3 : Int), SlIs [PV.agg [PV.list (List.map csI w) Tail.no, PV.int IntKind.i64 m], PV.int IntKind.u32 t] [PV.agg [PV.list (List.map csI w_2) Tail.no, PV.int IntKind.i64 m_2], PV.int IntKind.u32 t_3] ∧ List.length w_2 ≤ 1000000 ∧ (dropW w_2 t_3 = [] → AppL [] [[PV.int IntKind.u32 t, PV.int IntKind.i64 v]] 2 16 ∧ (List.all [PV.int IntKind.u32 t, PV.int IntKind.i64 v] PV.one = true ∧ [[PV.int IntKind.u32 t, PV.int IntKind.i64 v]] ≠ []) ∧ K (PV.tup [PV.agg [PV.list [[PV.int IntKind.u32 t, PV.int IntKind.i64 v]] (Tail.tok 3), PV.int IntKind.i64 m_2], PV.int IntKind.i64 0])) ∧ (dropW w_2 t_3 ≠ [] → AppL (List.map csI (dropW w_2 t_3)) [[PV.int IntKind.u32 t, PV.int IntKind.i64 v]] 2 16 ∧ (List.all [PV.int IntKind.u32 t, PV.int IntKind.i64 v] PV.one = true ∧ [[PV.int IntKind.u32 t, PV.int IntKind.i64 v]] ≠ []) ∧ K (PV.tup [PV.agg [PV.list (List.map csI (dropW w_2 t_3) ++ [[PV.int IntKind.u32 t, PV.int IntKind.i64 v]]) (Tail.tok 4), PV.int IntKind.i64 m_2], PV.int IntKind.i64 0])))) (∃ (w_2 : List RwI), ∃ (m_2 : Int), ∃ (t_3 : Int), SlIs [PV.agg [PV.list (List.map csI w) Tail.no, PV.int IntKind.i64 m], PV.int IntKind.u32 t] [PV.agg [PV.list (List.map csI w_2) Tail.no, PV.int IntKind.i64 m_2], PV.int IntKind.u32 t_3] ∧ List.length w_2 ≤ 1000000 ∧ (dropW w_2 t_3 = [] → AppL [] [[PV.int IntKind.u32 t, PV.int IntKind.i64 v]] 2 16 ∧ (List.all [PV.int IntKind.u32 t, PV.int IntKind.i64 v] PV.one = true ∧ [[PV.int IntKind.u32 t, PV.int IntKind.i64 v]] ≠ []) ∧ K (PV.tup [PV.agg [PV.list [[PV.int IntKind.u32 t, PV.int IntKind.i64 v]] (Tail.tok 3), PV.int IntKind.i64 m_2], PV.int IntKind.i64 0])) ∧ (dropW w_2 t_3 ≠ [] → AppL (List.map csI (dropW w_2 t_3)) [[PV.int IntKind.u32 t, PV.int IntKind.i64 v]] 2 16 ∧ (List.all [PV.int IntKind.u32 t, PV.int IntKind.i64 v] PV.one = true ∧ [[PV.int IntKind.u32 t, PV.int IntKind.i64 v]] ≠ []) ∧ K (PV.tup [PV.agg [PV.list (List.map csI (dropW w_2 t_3) ++ [[PV.int IntKind.u32 t, PV.int IntKind.i64 v]]) (Tail.tok 4), PV.int IntKind.i64 m_2], PV.int IntKind.i64 0]))))) = wpc br Try.prog gl TR [] (fun o => match o.op with | .load t _ => (match t with | 49 => 1 | _ => 0) | _ => match o.dst with | some 35 => 1 | _ => 0) (bodyOf Try.f32) [] (env0 [.agg [.list (w.map csI) .no, .int .i64 m], .int .u32 t, .int .i64 v]) [] (resQ Try.prog Try.f32.results.toList (fun x _ => K x)) := by kernel_rfl
theorem rput1_vc (w : List RwI) (m : Int) (t v : Int)  (K : PV → Prop) (h : ∃ (t_1 : Int), 0 ≤ t_1 ∧ SlIs [PV.int IntKind.u32 t] [PV.int IntKind.u32 t_1] ∧ br (!rightS t_1) (K (PV.tup [PV.agg [PV.list (List.map csI w) Tail.no, PV.int IntKind.i64 m], PV.int IntKind.i64 14])) (∃ (w_1 : List RwI), ∃ (m_1 : Int), ∃ (t_2 : Int), SlIs [PV.agg [PV.list (List.map csI w) Tail.no, PV.int IntKind.i64 m], PV.int IntKind.u32 t] [PV.agg [PV.list (List.map csI w_1) Tail.no, PV.int IntKind.i64 m_1], PV.int IntKind.u32 t_2] ∧ List.length w_1 ≤ 1000000 ∧ br (decide (findS w_1 t_2 < 0) == true) (br (decide ((↑(List.length (List.map csI w)) : Int) ≥ m)) (K (PV.tup [PV.agg [PV.list (List.map csI w) Tail.no, PV.int IntKind.i64 m], PV.int IntKind.i64 10])) (∃ (w_2 : List RwI), ∃ (m_2 : Int), ∃ (t_3 : Int), SlIs [PV.agg [PV.list (List.map csI w) Tail.no, PV.int IntKind.i64 m], PV.int IntKind.u32 t] [PV.agg [PV.list (List.map csI w_2) Tail.no, PV.int IntKind.i64 m_2], PV.int IntKind.u32 t_3] ∧ List.length w_2 ≤ 1000000 ∧ (dropW w_2 t_3 = [] → AppL [] [[PV.int IntKind.u32 t, PV.int IntKind.i64 v]] 2 16 ∧ (List.all [PV.int IntKind.u32 t, PV.int IntKind.i64 v] PV.one = true ∧ [[PV.int IntKind.u32 t, PV.int IntKind.i64 v]] ≠ []) ∧ K (PV.tup [PV.agg [PV.list [[PV.int IntKind.u32 t, PV.int IntKind.i64 v]] (Tail.tok 3), PV.int IntKind.i64 m_2], PV.int IntKind.i64 0])) ∧ (dropW w_2 t_3 ≠ [] → AppL (List.map csI (dropW w_2 t_3)) [[PV.int IntKind.u32 t, PV.int IntKind.i64 v]] 2 16 ∧ (List.all [PV.int IntKind.u32 t, PV.int IntKind.i64 v] PV.one = true ∧ [[PV.int IntKind.u32 t, PV.int IntKind.i64 v]] ≠ []) ∧ K (PV.tup [PV.agg [PV.list (List.map csI (dropW w_2 t_3) ++ [[PV.int IntKind.u32 t, PV.int IntKind.i64 v]]) (Tail.tok 4), PV.int IntKind.i64 m_2], PV.int IntKind.i64 0])))) (∃ (w_2 : List RwI), ∃ (m_2 : Int), ∃ (t_3 : Int), SlIs [PV.agg [PV.list (List.map csI w) Tail.no, PV.int IntKind.i64 m], PV.int IntKind.u32 t] [PV.agg [PV.list (List.map csI w_2) Tail.no, PV.int IntKind.i64 m_2], PV.int IntKind.u32 t_3] ∧ List.length w_2 ≤ 1000000 ∧ (dropW w_2 t_3 = [] → AppL [] [[PV.int IntKind.u32 t, PV.int IntKind.i64 v]] 2 16 ∧ (List.all [PV.int IntKind.u32 t, PV.int IntKind.i64 v] PV.one = true ∧ [[PV.int IntKind.u32 t, PV.int IntKind.i64 v]] ≠ []) ∧ K (PV.tup [PV.agg [PV.list [[PV.int IntKind.u32 t, PV.int IntKind.i64 v]] (Tail.tok 3), PV.int IntKind.i64 m_2], PV.int IntKind.i64 0])) ∧ (dropW w_2 t_3 ≠ [] → AppL (List.map csI (dropW w_2 t_3)) [[PV.int IntKind.u32 t, PV.int IntKind.i64 v]] 2 16 ∧ (List.all [PV.int IntKind.u32 t, PV.int IntKind.i64 v] PV.one = true ∧ [[PV.int IntKind.u32 t, PV.int IntKind.i64 v]] ≠ []) ∧ K (PV.tup [PV.agg [PV.list (List.map csI (dropW w_2 t_3) ++ [[PV.int IntKind.u32 t, PV.int IntKind.i64 v]]) (Tail.tok 4), PV.int IntKind.i64 m_2], PV.int IntKind.i64 0]))))) : ACalls Try.prog gl 32 [.agg [.list (w.map csI) .no, .int .i64 m], .int .u32 t, .int .i64 v] [] (fun x _ => K x) :=
  acalls_of_wpc2 (T := TR) (L := []) (fun o => match o.op with | .load t _ => (match t with | 49 => 1 | _ => 0) | _ => match o.dst with | some 35 => 1 | _ => 0) Try.func32 (by kernel_rfl) (by kernel_rfl) (by kernel_rfl) (TR_ok) (LOk.nil _ _ _ _ _) (holds_of_eq (rput1_red w m t v K) h)
theorem findS_neg (w : List RwI) (t : Int) : decide (findS w t < 0) = !hasW w t := by
  unfold findS hasW
  by_cases c : fiW w t < w.length
  · rw [if_pos c, decide_eq_true c, decide_eq_false (by omega)]; rfl
  · rw [if_neg c, decide_eq_false c]; rfl
theorem low_tup2 (v : Int) (b : Bool) : Low 0 (.tup [.int .i64 v, .bool b]) := .tup _ (by intro y hy; simp only [List.mem_cons, List.not_mem_nil, or_false] at hy; rcases hy with rfl | rfl; exact .int _ _; exact .bool _)
def rget_s (args : List PV) (K : PV → Prop) : Prop := ∃ (w : List RwI) (m t : Int), SlIs args [.agg [.list (w.map csI) .no, .int .i64 m], .int .u32 t] ∧ w.length ≤ 1000000 ∧ K (.tup [.int .i64 (getW w t), .bool (hasW w t)])
theorem rget_ok : SpOk Try.prog gl 30 (.pure rget_s) := by
  rintro args K ⟨w, m, t, he, hl, hk⟩
  have he : args = _ := he
  subst he
  refine spure gl_low (low_rargs w m t) (low_tup2 _ _) (rget1_vc w m t (fun x => x = .tup [.int .i64 (getW w t), .bool (hasW w t)]) ⟨w, m, t, rfl, hl, ?_⟩) hk
  rw [br_if, findS_neg]
  unfold getW
  by_cases c : fiW w t < w.length
  · have hh : hasW w t = true := decide_eq_true c
    rw [hh, if_neg (by decide), if_pos c]
    have e : findS w t = (fiW w t : Int) := by unfold findS; rw [if_pos c]
    rw [e, inL_rw, toNat_nat, getD_map default c]
    refine ⟨c, ?_⟩
    rw [br_if, if_pos (by rfl)]
    rfl
  · have hh : hasW w t = false := decide_eq_false c
    rw [hh, if_pos (by decide), if_neg c]
    rfl
theorem low_rret (w : List RwI) (m n : Int) : Low 0 (.tup [.agg [.list (w.map csI) .no, .int .i64 m], .int .i64 n]) := .tup _ (by
  intro y hy
  simp only [List.mem_cons, List.not_mem_nil, or_false] at hy
  rcases hy with rfl | rfl
  · exact low_rkv w m
  · exact .int _ _)
def rput_s (args : List PV) (K : PV → Prop) : Prop := ∃ (w : List RwI) (m t v : Int), SlIs args [.agg [.list (w.map csI) .no, .int .i64 m], .int .u32 t, .int .i64 v] ∧ w.length ≤ 1000000 ∧ 0 ≤ t ∧ K (.tup [.agg [.list ((putW w m t v).1.map csI) .no, .int .i64 m], .int .i64 (putW w m t v).2])
theorem wk_ret {rows : List (List PV)} {tl : Tail} {m n : Int} : Wk (.tup [.agg [.list rows tl, .int .i64 m], .int .i64 n]) (.tup [.agg [.list rows .no, .int .i64 m], .int .i64 n]) := .tup (.cons (wk_agg (.list _ _)) (.refl _))
theorem dropW_len (w : List RwI) (t : Int) : (dropW w t).length ≤ w.length := List.length_filter_le _ _
theorem low_rargs3 (w : List RwI) (m t v : Int) : ∀ x ∈ [PV.agg [.list (w.map csI) .no, .int .i64 m], .int .u32 t, .int .i64 v], Low 0 x := by
  intro x hx
  simp only [List.mem_cons, List.not_mem_nil, or_false] at hx
  rcases hx with rfl | rfl | rfl
  · exact low_rkv w m
  · exact .int _ _
  · exact .int _ _
theorem rput_ok : SpOk Try.prog gl 32 (.pure rput_s) := by
  rintro args K ⟨w, m, t, v, he, hl, h0, hk⟩
  have he : args = _ := he
  subst he
  refine spure gl_low (low_rargs3 w m t v) (low_rret _ _ _) (acalls_wkout (acalls_to (rput1_vc w m t v (fun x => Wk x (.tup [.agg [.list ((putW w m t v).1.map csI) .no, .int .i64 m], .int .i64 (putW w m t v).2])) ⟨t, h0, rfl, ?_⟩) fun x H' h => ⟨_, H', h, .refl _, rfl⟩)) hk
  unfold putW
  rw [br_if]
  by_cases c : rightS t = true
  · rw [if_neg (by simp [c]), if_pos c]
    refine ⟨w, m, t, rfl, hl, ?_⟩
    simp only [br_if, bt, findS_neg, List.length_map]
    have fin : ∀ rs : List RwI × Int, rs = (dropW w t ++ [⟨t, v⟩], 0) → ∃ (w_2 : List RwI), ∃ (m_2 : Int), ∃ (t_3 : Int), SlIs [PV.agg [PV.list (List.map csI w) Tail.no, PV.int IntKind.i64 m], PV.int IntKind.u32 t] [PV.agg [PV.list (List.map csI w_2) Tail.no, PV.int IntKind.i64 m_2], PV.int IntKind.u32 t_3] ∧ List.length w_2 ≤ 1000000 ∧ (dropW w_2 t_3 = [] → AppL [] [[PV.int IntKind.u32 t, PV.int IntKind.i64 v]] 2 16 ∧ (List.all [PV.int IntKind.u32 t, PV.int IntKind.i64 v] PV.one = true ∧ [[PV.int IntKind.u32 t, PV.int IntKind.i64 v]] ≠ []) ∧ Wk (PV.tup [PV.agg [PV.list [[PV.int IntKind.u32 t, PV.int IntKind.i64 v]] (Tail.tok 3), PV.int IntKind.i64 m_2], PV.int IntKind.i64 0]) (.tup [.agg [.list (rs.1.map csI) .no, .int .i64 m], .int .i64 rs.2])) ∧ (dropW w_2 t_3 ≠ [] → AppL (List.map csI (dropW w_2 t_3)) [[PV.int IntKind.u32 t, PV.int IntKind.i64 v]] 2 16 ∧ (List.all [PV.int IntKind.u32 t, PV.int IntKind.i64 v] PV.one = true ∧ [[PV.int IntKind.u32 t, PV.int IntKind.i64 v]] ≠ []) ∧ Wk (PV.tup [PV.agg [PV.list (List.map csI (dropW w_2 t_3) ++ [[PV.int IntKind.u32 t, PV.int IntKind.i64 v]]) (Tail.tok 4), PV.int IntKind.i64 m_2], PV.int IntKind.i64 0]) (.tup [.agg [.list (rs.1.map csI) .no, .int .i64 m], .int .i64 rs.2])) := by
      rintro rs rfl
      refine ⟨w, m, t, rfl, hl, fun h => ⟨⟨(by intro e he; simp at he), (by intro e he; simp at he; subst he; rfl), by simp⟩, ⟨rfl, by simp⟩, ?_⟩, fun _ => ⟨⟨uni_ws _, (by intro e he; simp at he; subst he; rfl), ?_⟩, ⟨rfl, by simp⟩, ?_⟩⟩
      · rw [h]; exact wk_ret
      · have := dropW_len w t; rw [List.length_map, List.length_singleton]; omega
      · rw [List.map_append]; exact wk_ret
    by_cases c2 : hasW w t = true
    · rw [if_neg (by simp [c2]), if_neg (by simp [c2])]
      exact fin _ rfl
    · have c2' : hasW w t = false := by simpa using c2
      rw [if_pos (by simp [c2'])]
      by_cases c3 : (w.length : Int) ≥ m
      · rw [if_pos (decide_eq_true c3), if_pos ⟨c2', c3⟩]
        exact .refl _
      · rw [if_neg (by simpa using c3), if_neg (fun h => c3 h.2)]
        exact fin _ rfl
  · rw [if_pos (by simpa using c), if_neg c]
    exact .refl _
def TR2 : Tab := [(64, .pure find_s), (39, .pure rrt_s), (32, .pure rput_s), (37, .pure rnext_s)]
theorem TR2_ok : TabOk Try.prog gl TR2 := .cons find_ok (.cons rrt_ok (.cons rput_ok (.cons rnext_ok (.nil _ _))))
theorem radd1_red (w : List RwI) (m : Int) (t v : Int) (K : PV → Prop) : (∃ (t_1 : Int), 0 ≤ t_1 ∧ SlIs [PV.int IntKind.u32 t] [PV.int IntKind.u32 t_1] ∧ br (rightS t_1 == true) (∃ (w_1 : List RwI), ∃ (m_1 : Int), ∃ (t_2 : Int), SlIs [PV.agg [PV.list (List.map csI w) Tail.no, PV.int IntKind.i64 m], PV.int IntKind.u32 t] [PV.agg [PV.list (List.map csI w_1) Tail.no, PV.int IntKind.i64 m_1], PV.int IntKind.u32 t_2] ∧ List.length w_1 ≤ 1000000 ∧ br (decide (findS w_1 t_2 ≥ 0)) (K (PV.tup [PV.agg [PV.list (List.map csI w) Tail.no, PV.int IntKind.i64 m], PV.int IntKind.i64 11])) (∃ (w_2 : List RwI), ∃ (m_2 : Int), ∃ (t_3 : Int), ∃ (v_1 : Int), SlIs [PV.agg [PV.list (List.map csI w) Tail.no, PV.int IntKind.i64 m], PV.int IntKind.u32 t, PV.int IntKind.i64 v] [PV.agg [PV.list (List.map csI w_2) Tail.no, PV.int IntKind.i64 m_2], PV.int IntKind.u32 t_3, PV.int IntKind.i64 v_1] ∧ List.length w_2 ≤ 1000000 ∧ 0 ≤ t_3 ∧ K (PV.tup [PV.agg [PV.list (List.map csI (Prod.fst (putW w_2 m_2 t_3 v_1))) Tail.no, PV.int IntKind.i64 m_2], PV.int IntKind.i64 (Prod.snd (putW w_2 m_2 t_3 v_1))]))) (∃ (w_1 : List RwI), ∃ (m_1 : Int), ∃ (t_2 : Int), ∃ (v_1 : Int), SlIs [PV.agg [PV.list (List.map csI w) Tail.no, PV.int IntKind.i64 m], PV.int IntKind.u32 t, PV.int IntKind.i64 v] [PV.agg [PV.list (List.map csI w_1) Tail.no, PV.int IntKind.i64 m_1], PV.int IntKind.u32 t_2, PV.int IntKind.i64 v_1] ∧ List.length w_1 ≤ 1000000 ∧ 0 ≤ t_2 ∧ K (PV.tup [PV.agg [PV.list (List.map csI (Prod.fst (putW w_1 m_1 t_2 v_1))) Tail.no, PV.int IntKind.i64 m_1], PV.int IntKind.i64 (Prod.snd (putW w_1 m_1 t_2 v_1))]))) = wpc br Try.prog gl TR2 [] (fun _ => 0) (bodyOf Try.f33) [] (env0 [.agg [.list (w.map csI) .no, .int .i64 m], .int .u32 t, .int .i64 v]) [] (resQ Try.prog Try.f33.results.toList (fun x _ => K x)) := by kernel_rfl
theorem radd1_vc (w : List RwI) (m : Int) (t v : Int)  (K : PV → Prop) (h : ∃ (t_1 : Int), 0 ≤ t_1 ∧ SlIs [PV.int IntKind.u32 t] [PV.int IntKind.u32 t_1] ∧ br (rightS t_1 == true) (∃ (w_1 : List RwI), ∃ (m_1 : Int), ∃ (t_2 : Int), SlIs [PV.agg [PV.list (List.map csI w) Tail.no, PV.int IntKind.i64 m], PV.int IntKind.u32 t] [PV.agg [PV.list (List.map csI w_1) Tail.no, PV.int IntKind.i64 m_1], PV.int IntKind.u32 t_2] ∧ List.length w_1 ≤ 1000000 ∧ br (decide (findS w_1 t_2 ≥ 0)) (K (PV.tup [PV.agg [PV.list (List.map csI w) Tail.no, PV.int IntKind.i64 m], PV.int IntKind.i64 11])) (∃ (w_2 : List RwI), ∃ (m_2 : Int), ∃ (t_3 : Int), ∃ (v_1 : Int), SlIs [PV.agg [PV.list (List.map csI w) Tail.no, PV.int IntKind.i64 m], PV.int IntKind.u32 t, PV.int IntKind.i64 v] [PV.agg [PV.list (List.map csI w_2) Tail.no, PV.int IntKind.i64 m_2], PV.int IntKind.u32 t_3, PV.int IntKind.i64 v_1] ∧ List.length w_2 ≤ 1000000 ∧ 0 ≤ t_3 ∧ K (PV.tup [PV.agg [PV.list (List.map csI (Prod.fst (putW w_2 m_2 t_3 v_1))) Tail.no, PV.int IntKind.i64 m_2], PV.int IntKind.i64 (Prod.snd (putW w_2 m_2 t_3 v_1))]))) (∃ (w_1 : List RwI), ∃ (m_1 : Int), ∃ (t_2 : Int), ∃ (v_1 : Int), SlIs [PV.agg [PV.list (List.map csI w) Tail.no, PV.int IntKind.i64 m], PV.int IntKind.u32 t, PV.int IntKind.i64 v] [PV.agg [PV.list (List.map csI w_1) Tail.no, PV.int IntKind.i64 m_1], PV.int IntKind.u32 t_2, PV.int IntKind.i64 v_1] ∧ List.length w_1 ≤ 1000000 ∧ 0 ≤ t_2 ∧ K (PV.tup [PV.agg [PV.list (List.map csI (Prod.fst (putW w_1 m_1 t_2 v_1))) Tail.no, PV.int IntKind.i64 m_1], PV.int IntKind.i64 (Prod.snd (putW w_1 m_1 t_2 v_1))]))) : ACalls Try.prog gl 33 [.agg [.list (w.map csI) .no, .int .i64 m], .int .u32 t, .int .i64 v] [] (fun x _ => K x) :=
  acalls_of_wpc2 (T := TR2) (L := []) (fun _ => 0) Try.func33 (by kernel_rfl) (by kernel_rfl) (by kernel_rfl) (TR2_ok) (LOk.nil _ _ _ _ _) (holds_of_eq (radd1_red w m t v K) h)
theorem ridsA_red (w : List RwI) (m : Int) (x : Int) (b : Bool) (R : Ex → List PV → Heap → Prop) : (br b (AppL [] [[PV.int IntKind.u32 x]] 1 4 ∧ (List.all [PV.int IntKind.u32 x] PV.one = true ∧ [[PV.int IntKind.u32 x]] ≠ []) ∧ ∃ (w_1 : List RwI), ∃ (m_1 : Int), ∃ (t : Int), SlIs [PV.agg [PV.list (List.map csI w) Tail.no, PV.int IntKind.i64 m], PV.int IntKind.u32 x] [PV.agg [PV.list (List.map csI w_1) Tail.no, PV.int IntKind.i64 m_1], PV.int IntKind.u32 t] ∧ List.length w_1 ≤ 1000000 ∧ R Ex.normal [PV.ptr 0 0, PV.list [[PV.int IntKind.u32 x]] (Tail.tok 1), PV.int IntKind.u32 (nextW w_1 t), PV.bool (nextW w_1 t != 0)] [Ob.cells [PV.list (List.map csI w) Tail.no, PV.int IntKind.i64 m], Ob.tok]) (R (Ex.exit 0) [PV.ptr 0 0, PV.list [] Tail.exact, PV.int IntKind.u32 x, PV.bool b] [Ob.cells [PV.list (List.map csI w) Tail.no, PV.int IntKind.i64 m]])) = wpc br Try.prog gl TR2 [] (fun o => match o.dst with | some 15 => 1 | _ => 0) (subOf [1, 1, 1, 0, 0] (bodyOf Try.f67)) [] (envS [1, 3, 4, 5] [.ptr 0 0, .list [] .exact, .int .u32 x, .bool b]) [.cells [.list (w.map csI) .no, .int .i64 m]] (fun ex e H => R ex (List.map e [1, 3, 4, 5]) H) := by kernel_rfl
theorem ridsA_vc (w : List RwI) (m : Int) (x : Int) (b : Bool) (R : Ex → List PV → Heap → Prop) (h : br b (AppL [] [[PV.int IntKind.u32 x]] 1 4 ∧ (List.all [PV.int IntKind.u32 x] PV.one = true ∧ [[PV.int IntKind.u32 x]] ≠ []) ∧ ∃ (w_1 : List RwI), ∃ (m_1 : Int), ∃ (t : Int), SlIs [PV.agg [PV.list (List.map csI w) Tail.no, PV.int IntKind.i64 m], PV.int IntKind.u32 x] [PV.agg [PV.list (List.map csI w_1) Tail.no, PV.int IntKind.i64 m_1], PV.int IntKind.u32 t] ∧ List.length w_1 ≤ 1000000 ∧ R Ex.normal [PV.ptr 0 0, PV.list [[PV.int IntKind.u32 x]] (Tail.tok 1), PV.int IntKind.u32 (nextW w_1 t), PV.bool (nextW w_1 t != 0)] [Ob.cells [PV.list (List.map csI w) Tail.no, PV.int IntKind.i64 m], Ob.tok]) (R (Ex.exit 0) [PV.ptr 0 0, PV.list [] Tail.exact, PV.int IntKind.u32 x, PV.bool b] [Ob.cells [PV.list (List.map csI w) Tail.no, PV.int IntKind.i64 m]])) : Holds (wpc br Try.prog gl TR2 [] (fun o => match o.dst with | some 15 => 1 | _ => 0) (subOf [1, 1, 1, 0, 0] (bodyOf Try.f67)) [] (envS [1, 3, 4, 5] [.ptr 0 0, .list [] .exact, .int .u32 x, .bool b]) [.cells [.list (w.map csI) .no, .int .i64 m]] (fun ex e H => R ex (List.map e [1, 3, 4, 5]) H)) := holds_of_eq (ridsA_red w m x b R) h
theorem ridsB_red (w : List RwI) (m : Int) (es : List (List PV)) (x : Int) (b : Bool) (R : Ex → List PV → Heap → Prop) : (br b (AppL es [[PV.int IntKind.u32 x]] 1 4 ∧ (List.all [PV.int IntKind.u32 x] PV.one = true ∧ [[PV.int IntKind.u32 x]] ≠ []) ∧ ∃ (w_1 : List RwI), ∃ (m_1 : Int), ∃ (t : Int), SlIs [PV.agg [PV.list (List.map csI w) Tail.no, PV.int IntKind.i64 m], PV.int IntKind.u32 x] [PV.agg [PV.list (List.map csI w_1) Tail.no, PV.int IntKind.i64 m_1], PV.int IntKind.u32 t] ∧ List.length w_1 ≤ 1000000 ∧ R Ex.normal [PV.ptr 0 0, PV.list (es ++ [[PV.int IntKind.u32 x]]) (Tail.tok 2), PV.int IntKind.u32 (nextW w_1 t), PV.bool (nextW w_1 t != 0)] [Ob.cells [PV.list (List.map csI w) Tail.no, PV.int IntKind.i64 m], Ob.dead, Ob.tok]) (R (Ex.exit 0) [PV.ptr 0 0, PV.list es (Tail.tok 1), PV.int IntKind.u32 x, PV.bool b] [Ob.cells [PV.list (List.map csI w) Tail.no, PV.int IntKind.i64 m], Ob.tok])) = wpc br Try.prog gl TR2 [] (fun o => match o.dst with | some 15 => 1 | _ => 0) (subOf [1, 1, 1, 0, 0] (bodyOf Try.f67)) [] (envS [1, 3, 4, 5] [.ptr 0 0, .list es (.tok 1), .int .u32 x, .bool b]) [.cells [.list (w.map csI) .no, .int .i64 m], .tok] (fun ex e H => R ex (List.map e [1, 3, 4, 5]) H) := by kernel_rfl
theorem ridsB_vc (w : List RwI) (m : Int) (es : List (List PV)) (x : Int) (b : Bool) (R : Ex → List PV → Heap → Prop) (h : br b (AppL es [[PV.int IntKind.u32 x]] 1 4 ∧ (List.all [PV.int IntKind.u32 x] PV.one = true ∧ [[PV.int IntKind.u32 x]] ≠ []) ∧ ∃ (w_1 : List RwI), ∃ (m_1 : Int), ∃ (t : Int), SlIs [PV.agg [PV.list (List.map csI w) Tail.no, PV.int IntKind.i64 m], PV.int IntKind.u32 x] [PV.agg [PV.list (List.map csI w_1) Tail.no, PV.int IntKind.i64 m_1], PV.int IntKind.u32 t] ∧ List.length w_1 ≤ 1000000 ∧ R Ex.normal [PV.ptr 0 0, PV.list (es ++ [[PV.int IntKind.u32 x]]) (Tail.tok 2), PV.int IntKind.u32 (nextW w_1 t), PV.bool (nextW w_1 t != 0)] [Ob.cells [PV.list (List.map csI w) Tail.no, PV.int IntKind.i64 m], Ob.dead, Ob.tok]) (R (Ex.exit 0) [PV.ptr 0 0, PV.list es (Tail.tok 1), PV.int IntKind.u32 x, PV.bool b] [Ob.cells [PV.list (List.map csI w) Tail.no, PV.int IntKind.i64 m], Ob.tok])) : Holds (wpc br Try.prog gl TR2 [] (fun o => match o.dst with | some 15 => 1 | _ => 0) (subOf [1, 1, 1, 0, 0] (bodyOf Try.f67)) [] (envS [1, 3, 4, 5] [.ptr 0 0, .list es (.tok 1), .int .u32 x, .bool b]) [.cells [.list (w.map csI) .no, .int .i64 m], .tok] (fun ex e H => R ex (List.map e [1, 3, 4, 5]) H)) := holds_of_eq (ridsB_red w m es x b R) h
theorem rfree_red (w : List RwI) (m : Int) (i : Int) (R : Ex → List PV → Heap → Prop) : (∃ (w_1 : List RwI), ∃ (m_1 : Int), ∃ (t : Int), SlIs [PV.agg [PV.list (List.map csI w) Tail.no, PV.int IntKind.i64 m], PV.int IntKind.u32 i] [PV.agg [PV.list (List.map csI w_1) Tail.no, PV.int IntKind.i64 m_1], PV.int IntKind.u32 t] ∧ List.length w_1 ≤ 1000000 ∧ br (decide (findS w_1 t ≥ 0)) (R Ex.normal [PV.ptr 0 0, PV.int IntKind.u32 0, PV.int IntKind.u32 (IntKind.wrap IntKind.u32 (i + 1))] [Ob.cells [PV.list (List.map csI w) Tail.no, PV.int IntKind.i64 m]]) (R (Ex.exit 0) [PV.ptr 0 0, PV.int IntKind.u32 0, PV.int IntKind.u32 i] [Ob.cells [PV.list (List.map csI w) Tail.no, PV.int IntKind.i64 m]])) = wpc br Try.prog gl TR2 [] (fun _ => 0) (subOf [1, 1, 1, 0, 0] (bodyOf Try.f68)) [] (envS [1, 2, 3] [.ptr 0 0, .int .u32 0, .int .u32 i]) [.cells [.list (w.map csI) .no, .int .i64 m]] (fun ex e H => R ex (List.map e [1, 2, 3]) H) := by kernel_rfl
theorem rfree_vc (w : List RwI) (m : Int) (i : Int) (R : Ex → List PV → Heap → Prop) (h : ∃ (w_1 : List RwI), ∃ (m_1 : Int), ∃ (t : Int), SlIs [PV.agg [PV.list (List.map csI w) Tail.no, PV.int IntKind.i64 m], PV.int IntKind.u32 i] [PV.agg [PV.list (List.map csI w_1) Tail.no, PV.int IntKind.i64 m_1], PV.int IntKind.u32 t] ∧ List.length w_1 ≤ 1000000 ∧ br (decide (findS w_1 t ≥ 0)) (R Ex.normal [PV.ptr 0 0, PV.int IntKind.u32 0, PV.int IntKind.u32 (IntKind.wrap IntKind.u32 (i + 1))] [Ob.cells [PV.list (List.map csI w) Tail.no, PV.int IntKind.i64 m]]) (R (Ex.exit 0) [PV.ptr 0 0, PV.int IntKind.u32 0, PV.int IntKind.u32 i] [Ob.cells [PV.list (List.map csI w) Tail.no, PV.int IntKind.i64 m]])) : Holds (wpc br Try.prog gl TR2 [] (fun _ => 0) (subOf [1, 1, 1, 0, 0] (bodyOf Try.f68)) [] (envS [1, 2, 3] [.ptr 0 0, .int .u32 0, .int .u32 i]) [.cells [.list (w.map csI) .no, .int .i64 m]] (fun ex e H => R ex (List.map e [1, 2, 3]) H)) := holds_of_eq (rfree_red w m i R) h
def radd_s (args : List PV) (K : PV → Prop) : Prop := ∃ (w : List RwI) (m t v : Int), SlIs args [.agg [.list (w.map csI) .no, .int .i64 m], .int .u32 t, .int .i64 v] ∧ w.length ≤ 1000000 ∧ 0 ≤ t ∧ K (.tup [.agg [.list ((addW w m t v).1.map csI) .no, .int .i64 m], .int .i64 (addW w m t v).2])
theorem findS_ge (w : List RwI) (t : Int) : decide (findS w t ≥ 0) = hasW w t := by
  unfold findS hasW
  by_cases c : fiW w t < w.length
  · rw [if_pos c, decide_eq_true c, decide_eq_true (by omega)]
  · rw [if_neg c, decide_eq_false c]; rfl
theorem radd_ok : SpOk Try.prog gl 33 (.pure radd_s) := by
  rintro args K ⟨w, m, t, v, he, hl, h0, hk⟩
  have he : args = _ := he
  subst he
  refine spure gl_low (low_rargs3 w m t v) (low_rret _ _ _) (radd1_vc w m t v (fun x => x = (.tup [.agg [.list ((addW w m t v).1.map csI) .no, .int .i64 m], .int .i64 (addW w m t v).2])) ⟨t, h0, rfl, ?_⟩) hk
  unfold addW
  simp only [br_if, bt, findS_ge]
  by_cases c : rightS t = true
  · rw [if_pos c]
    refine ⟨w, m, t, rfl, hl, ?_⟩
    by_cases c2 : hasW w t = true
    · rw [if_pos c2, if_pos ⟨c, c2⟩]
    · rw [if_neg c2, if_neg (fun h => c2 h.2)]
      exact ⟨w, m, t, v, rfl, hl, h0, rfl⟩
  · rw [if_neg c, if_neg (fun h => c h.1)]
    exact ⟨w, m, t, v, rfl, hl, h0, rfl⟩
theorem ids_take1 {l : List RwI} {i : Nat} (h : i < l.length) : (l.take (i + 1)).map (fun r : RwI => [PV.int .u32 r.id]) = (l.take i).map (fun r : RwI => [PV.int .u32 r.id]) ++ [[.int .u32 (idAt l i)]] := by
  have := idsI_take h
  unfold idsL at this
  rw [this]
  unfold idAt
  rw [if_pos h]
theorem like_len {l w : List RwI} {most : Int} (h : Like l w most) : w.length ≤ 1000000 := by rw [h.len]; exact h.ok.len
def rids_l : LSp := fun e H Q => ∃ (l w : List RwI) (m most : Int), Like l w most ∧ SlIs (List.map e [1, 3, 4, 5]) [.ptr 0 0, .list [] .exact, .int .u32 (nextW w 0), .bool (nextW w 0 != 0)] ∧ HpIs H [.cells [.list (w.map csI) .no, .int .i64 m]] ∧
  Q (.exit 0) (envS [1, 3, 4, 5] [.ptr 0 0, .list (idsL l) .no, .int .u32 0, .bool false]) [.cells [.list (w.map csI) .no, .int .i64 m], .dead]
theorem rids_l_ok : ∀ e H Q, rids_l e H Q → AW Try.prog gl Try.f67.ntmps (.loop (subOf [1, 1, 1, 0, 0] (bodyOf Try.f67))) Q e H := by
  rintro e H Q ⟨l, w, m, most, lk, he, hH, hQ⟩
  have hH2 : H = _ := hH
  have hwl := like_len lk
  have hll := lk.ok.len
  have hnx : ∀ k, k < l.length → nextW w (idAt l k) = idAt l (k + 1) := fun k hk => lk.atS hk
  refine aw_grow (f := fun r : RwI => [PV.int .u32 r.id]) (T := l) (hn := fun o => match o.dst with | some 15 => 1 | _ => 0) gl_low TR2_ok (.nil _ _ _ _ _) [1, 3, 4, 5] (fun r i => [.ptr 0 0, r, .int .u32 (idAt l i), .bool (decide (i < l.length))]) [.cells [.list (w.map csI) .no, .int .i64 m]]
    (by intro o cs ho; have : o = 0 := by { have := (List.getElem?_eq_some_iff.1 ho).1; simp at this; omega }
        subst this; cases ho; exact low_box w m) (fun b _ x hx => by rcases List.mem_singleton.1 hx with rfl; exact .int _ _)
    (fun es i k h => .same (.ptr _ _ (by simp)) (.row h (.same (.int _ _) (.same (.bool _) .nil)))) (by rw [he, ← lk.at0, ← idAt_pos lk, lk.at0]) hH2 ?_ ?_
  · refine ridsA_vc w m _ _ _ ?_
    simp only [br_if]
    by_cases h : 0 < l.length
    · rw [if_pos (decide_eq_true h)]
      refine ⟨⟨(by intro e he; simp at he), (by intro e he; simp at he; subst he; rfl), by simp⟩, ⟨by rfl, by simp⟩, w, m, idAt l 0, rfl, hwl, h, _, 1, rfl, rfl, by simp, ?_⟩
      rw [hnx 0 h, idAt_pos lk, ids_take1 h]; rfl
    · rw [if_neg (by simpa using h)]
      have hm : l = [] := List.eq_nil_of_length_eq_zero (by omega)
      subst hm
      exact ⟨_, _, .cons (.refl _) (.cons (.list _ _) (.cons (.refl _) (.cons (.refl _) .nil))), pad_dead _, hQ⟩
  · intro i h0 hi
    refine ridsB_vc w m _ _ _ _ ?_
    simp only [br_if]
    by_cases h : i < l.length
    · rw [if_pos (decide_eq_true h)]
      refine ⟨⟨(by intro e he; obtain ⟨a, _, rfl⟩ := List.mem_map.1 he; rfl), (by intro e he; simp at he; subst he; rfl), by simp only [List.length_map, List.length_take, List.length_cons, List.length_nil]; omega⟩, ⟨by rfl, by simp⟩, w, m, idAt l i, rfl, hwl, h, _, 2, rfl, rfl, by simp, ?_⟩
      rw [hnx i h, idAt_pos lk, ids_take1 h]
    · rw [if_neg (by simpa using h)]
      have hm : i = l.length := by omega
      subst hm
      rw [List.take_length]
      have e1 : idAt l l.length = 0 := by unfold idAt; rw [if_neg (Nat.lt_irrefl _)]
      rw [e1, decide_eq_false (Nat.lt_irrefl _)]
      exact ⟨_, _, .cons (.refl _) (.cons (.list _ _) (.cons (.refl _) (.cons (.refl _) .nil))), pad_kill [.cells [.list (w.map csI) .no, .int .i64 m]] .tok, hQ⟩
def rfree_l : LSp := fun e H Q => ∃ (l w : List RwI) (m most : Int), Like l w most ∧ SlIs (List.map e [1, 2, 3]) [.ptr 0 0, .int .u32 0, .int .u32 1] ∧ HpIs H [.cells [.list (w.map csI) .no, .int .i64 m]] ∧
  Q (.exit 0) (envS [1, 2, 3] [.ptr 0 0, .int .u32 0, .int .u32 ((gap l : Int) + 1)]) [.cells [.list (w.map csI) .no, .int .i64 m]]
theorem rfree_l_ok : ∀ e H Q, rfree_l e H Q → AW Try.prog gl Try.f68.ntmps (.loop (subOf [1, 1, 1, 0, 0] (bodyOf Try.f68))) Q e H := by
  rintro e H Q ⟨l, w, m, most, lk, he, hH, hQ⟩
  have hwl := like_len lk
  have hll := lk.ok.len
  have hgl := gap_le l
  refine aw_loop4 (hn := fun _ => 0) gl_low TR2_ok (.nil _ _ _ _ _) (σ := Nat) [1, 2, 3] (fun i => i ≤ gap l)
    (fun i => [.ptr 0 0, .int .u32 0, .int .u32 ((i : Int) + 1)]) (fun _ => [.cells [.list (w.map csI) .no, .int .i64 m]]) (fun i => l.length - i) 0 (Nat.zero_le _) he hH ?_
  intro i hi
  have hi' : i ≤ gap l := hi
  refine rfree_vc w m _ _ ⟨w, m, (i : Int) + 1, rfl, hwl, ?_⟩
  rw [br_if, lk.free hi]
  by_cases c : i < gap l
  · rw [if_pos (decide_eq_true c)]
    refine ⟨i + 1, (show l.length - (i + 1) < l.length - i by omega), c, ?_, [], rfl, Nat.le_refl _, .inl rfl⟩
    rw [wrap_u32 (by omega) (by omega)]; rfl
  · rw [if_neg (by simpa using c)]
    have : i = gap l := by omega
    subst this
    exact hQ
theorem rids1_red (w : List RwI) (m : Int) (K : PV → Prop) : (∃ (w_1 : List RwI), ∃ (m_1 : Int), ∃ (t : Int), SlIs [PV.agg [PV.list (List.map csI w) Tail.no, PV.int IntKind.i64 m], PV.int IntKind.u32 0] [PV.agg [PV.list (List.map csI w_1) Tail.no, PV.int IntKind.i64 m_1], PV.int IntKind.u32 t] ∧ List.length w_1 ≤ 1000000 ∧ ∃ (l : List RwI), ∃ (w_2 : List RwI), ∃ (m_2 : Int), ∃ (most : Int), Like l w_2 most ∧ SlIs [PV.ptr 0 0, PV.list [] Tail.exact, PV.int IntKind.u32 (nextW w_1 t), PV.bool (nextW w_1 t != 0)] [PV.ptr 0 0, PV.list [] Tail.exact, PV.int IntKind.u32 (nextW w_2 0), PV.bool (nextW w_2 0 != 0)] ∧ HpIs [Ob.cells [PV.list (List.map csI w) Tail.no, PV.int IntKind.i64 m]] [Ob.cells [PV.list (List.map csI w_2) Tail.no, PV.int IntKind.i64 m_2]] ∧ K (PV.list (idsL l) Tail.no)) = wpc br Try.prog gl TR2 [([1, 1, 1, 0, 0], rids_l)] (fun o => match o.dst with | some 15 => 1 | _ => 0) (bodyOf Try.f67) [] (env0 [.agg [.list (w.map csI) .no, .int .i64 m]]) [] (resQ Try.prog Try.f67.results.toList (fun x _ => K x)) := by kernel_rfl
theorem rids1_vc (w : List RwI) (m : Int)  (K : PV → Prop) (h : ∃ (w_1 : List RwI), ∃ (m_1 : Int), ∃ (t : Int), SlIs [PV.agg [PV.list (List.map csI w) Tail.no, PV.int IntKind.i64 m], PV.int IntKind.u32 0] [PV.agg [PV.list (List.map csI w_1) Tail.no, PV.int IntKind.i64 m_1], PV.int IntKind.u32 t] ∧ List.length w_1 ≤ 1000000 ∧ ∃ (l : List RwI), ∃ (w_2 : List RwI), ∃ (m_2 : Int), ∃ (most : Int), Like l w_2 most ∧ SlIs [PV.ptr 0 0, PV.list [] Tail.exact, PV.int IntKind.u32 (nextW w_1 t), PV.bool (nextW w_1 t != 0)] [PV.ptr 0 0, PV.list [] Tail.exact, PV.int IntKind.u32 (nextW w_2 0), PV.bool (nextW w_2 0 != 0)] ∧ HpIs [Ob.cells [PV.list (List.map csI w) Tail.no, PV.int IntKind.i64 m]] [Ob.cells [PV.list (List.map csI w_2) Tail.no, PV.int IntKind.i64 m_2]] ∧ K (PV.list (idsL l) Tail.no)) : ACalls Try.prog gl 67 [.agg [.list (w.map csI) .no, .int .i64 m]] [] (fun x _ => K x) :=
  acalls_of_wpc2 (T := TR2) (L := [([1, 1, 1, 0, 0], rids_l)]) (fun o => match o.dst with | some 15 => 1 | _ => 0) Try.func67 (by kernel_rfl) (by kernel_rfl) (by kernel_rfl) (TR2_ok) (.cons (sub_of (by kernel_rfl)) rids_l_ok (.nil _ _ _ _ _)) (holds_of_eq (rids1_red w m K) h)
theorem rfree1_red (w : List RwI) (m : Int) (K : PV → Prop) : (br (decide ((↑(List.length (List.map csI w)) : Int) ≥ m)) (K (PV.int IntKind.u32 0)) (∃ (l : List RwI), ∃ (w_1 : List RwI), ∃ (m_1 : Int), ∃ (most : Int), Like l w_1 most ∧ SlIs [PV.ptr 0 0, PV.int IntKind.u32 0, PV.int IntKind.u32 1] [PV.ptr 0 0, PV.int IntKind.u32 0, PV.int IntKind.u32 1] ∧ HpIs [Ob.cells [PV.list (List.map csI w) Tail.no, PV.int IntKind.i64 m]] [Ob.cells [PV.list (List.map csI w_1) Tail.no, PV.int IntKind.i64 m_1]] ∧ K (PV.int IntKind.u32 ((↑(gap l) : Int) + 1)))) = wpc br Try.prog gl TR2 [([1, 1, 1, 0, 0], rfree_l)] (fun _ => 0) (bodyOf Try.f68) [] (env0 [.agg [.list (w.map csI) .no, .int .i64 m]]) [] (resQ Try.prog Try.f68.results.toList (fun x _ => K x)) := by kernel_rfl
theorem rfree1_vc (w : List RwI) (m : Int)  (K : PV → Prop) (h : br (decide ((↑(List.length (List.map csI w)) : Int) ≥ m)) (K (PV.int IntKind.u32 0)) (∃ (l : List RwI), ∃ (w_1 : List RwI), ∃ (m_1 : Int), ∃ (most : Int), Like l w_1 most ∧ SlIs [PV.ptr 0 0, PV.int IntKind.u32 0, PV.int IntKind.u32 1] [PV.ptr 0 0, PV.int IntKind.u32 0, PV.int IntKind.u32 1] ∧ HpIs [Ob.cells [PV.list (List.map csI w) Tail.no, PV.int IntKind.i64 m]] [Ob.cells [PV.list (List.map csI w_1) Tail.no, PV.int IntKind.i64 m_1]] ∧ K (PV.int IntKind.u32 ((↑(gap l) : Int) + 1)))) : ACalls Try.prog gl 68 [.agg [.list (w.map csI) .no, .int .i64 m]] [] (fun x _ => K x) :=
  acalls_of_wpc2 (T := TR2) (L := [([1, 1, 1, 0, 0], rfree_l)]) (fun _ => 0) Try.func68 (by kernel_rfl) (by kernel_rfl) (by kernel_rfl) (TR2_ok) (.cons (sub_of (by kernel_rfl)) rfree_l_ok (.nil _ _ _ _ _)) (holds_of_eq (rfree1_red w m K) h)
theorem low_rargs1 (w : List RwI) (m : Int) : ∀ x ∈ [PV.agg [.list (w.map csI) .no, .int .i64 m]], Low 0 x := by
  intro x hx
  rcases List.mem_singleton.1 hx with rfl
  exact low_rkv w m
def rids_s (args : List PV) (K : PV → Prop) : Prop := ∃ (l w : List RwI) (m most : Int), SlIs args [.agg [.list (w.map csI) .no, .int .i64 m]] ∧ Like l w most ∧ K (.list (idsL l) .no)
theorem rids_ok : SpOk Try.prog gl 67 (.pure rids_s) := by
  rintro args K ⟨l, w, m, most, he, lk, hk⟩
  have he : args = _ := he
  subst he
  exact spure gl_low (low_rargs1 w m) (low_idsI l) (rids1_vc w m (fun x => x = .list (idsL l) .no) ⟨w, m, 0, rfl, like_len lk, l, w, m, most, lk, rfl, rfl, rfl⟩) hk
def rfree_s (args : List PV) (K : PV → Prop) : Prop := ∃ (l w : List RwI) (m : Int), SlIs args [.agg [.list (w.map csI) .no, .int .i64 m]] ∧ Like l w m ∧ K (.int .u32 (freeL l m))
theorem rfree_ok : SpOk Try.prog gl 68 (.pure rfree_s) := by
  rintro args K ⟨l, w, m, he, lk, hk⟩
  have he : args = _ := he
  subst he
  refine spure gl_low (low_rargs1 w m) (.int _ _) (rfree1_vc w m (fun x => x = .int .u32 (freeL l m)) ?_) hk
  unfold freeL
  rw [br_if, List.length_map, lk.len]
  by_cases c : (l.length : Int) ≥ m
  · rw [if_pos (decide_eq_true c), if_pos c]
  · rw [if_neg (by simpa using c), if_neg c]
    exact ⟨l, w, m, m, lk, rfl, rfl, rfl⟩
def TW : Tab := [(30, .pure rget_s), (32, .pure rput_s), (33, .pure radd_s), (35, .pure rdropP_s), (37, .pure rnext_s), (67, .pure rids_s), (68, .pure rfree_s), (14, .pure same_s), (39, .pure rrt_s)]
theorem TW_ok : TabOk Try.prog gl TW := .cons rget_ok (.cons rput_ok (.cons radd_ok (.cons rdropP_ok (.cons rnext_ok (.cons rids_ok (.cons rfree_ok (.cons same_ok (.cons rrt_ok (.nil _ _)))))))))
end Go.Proofs.Ytcmknbanojcbaaa
