/-
  The rack of whole numbers: all its methods, amid other objects.
-/
import Derived.Test.YtcmknbanojcbaaaKi
import Derived.Test.YtcmknbanojcbaaaProg
namespace Go.Proofs.Ytcmknbanojcbaaa
open Go Go.AM Go.Proofs
def TDI : Tab := (66, .heap delI_s) :: TGI
theorem TDI_ok : TabOk Try.prog gl TDI := .cons delI_ok TGI_ok
theorem droAI_red (l : List RwI) (J : List PV) (cap : Nat) (most : Int) (t : Int) (K : PV → Heap → Prop) : (∃ (l_1 : List RwI), ∃ (most_1 : Int), ∃ (t_1 : Int), SlIs [PV.ptr 0 0, PV.int IntKind.u32 t] [PV.ptr 0 0, PV.int IntKind.u32 t_1] ∧ EXI l_1 most_1 [Ob.cells [PV.arr 1 0 (List.length l) cap, PV.int IntKind.i64 most], Ob.cells (flI l ++ J)] ∧ Ok l_1 most_1 ∧ br (has l_1 t_1) (∃ (l_2 : List RwI), ∃ (most_2 : Int), ∃ (t_2 : Int), SlIs [PV.ptr 0 0, PV.int IntKind.u32 t] [PV.ptr 0 0, PV.int IntKind.u32 t_2] ∧ EXI l_2 most_2 [Ob.cells [PV.arr 1 0 (List.length l) cap, PV.int IntKind.i64 most], Ob.cells (flI l ++ J)] ∧ Ok l_2 most_2 ∧ ∃ (l_3 : List RwI), ∃ (J_1 : List PV), ∃ (cap_1 : Nat), ∃ (most_3 : Int), ∃ (p : Nat), SlIs [PV.arr 1 0 (List.length l) cap, PV.int IntKind.i64 (↑(lbp l_2 t_2) : Int), PV.int IntKind.i64 (wI ((↑(lbp l_2 t_2) : Int) + 1))] [PV.arr 1 0 (List.length l_3) cap_1, PV.int IntKind.i64 (↑p : Int), PV.int IntKind.i64 (↑(p + 1) : Int)] ∧ HpIs [Ob.cells [PV.arr 1 0 (List.length l) cap, PV.int IntKind.i64 most], Ob.cells (flI l ++ J)] [Ob.cells [PV.arr 1 0 (List.length l_3) cap_1, PV.int IntKind.i64 most_3], Ob.cells (flI l_3 ++ J_1)] ∧ p < List.length l_3 ∧ List.length l_3 ≤ 1000000 ∧ List.length l_3 ≤ cap_1 ∧ Room J_1 ((cap_1 - List.length l_3) * 2) ∧ K (PV.tup [PV.int IntKind.i64 (getR l_1 t_1), PV.bool (has l_1 t_1)]) [Ob.cells [PV.arr 1 0 (List.length l_3 - 1) cap_1, PV.int IntKind.i64 most_3], Ob.cells (flI (List.eraseIdx l_3 p) ++ ([PV.int IntKind.u32 0, PV.int IntKind.i64 0] ++ J_1))]) (K (PV.tup [PV.int IntKind.i64 (getR l_1 t_1), PV.bool (has l_1 t_1)]) [Ob.cells [PV.arr 1 0 (List.length l) cap, PV.int IntKind.i64 most], Ob.cells (flI l ++ J)])) = wpc br Try.prog gl TDI [] (fun o => match o.op with | .load t _ => (match t with | 109 => 1 | _ => 0) | _ => 0) (bodyOf Try.f34) [] (env0 [.ptr 0 0, .int .u32 t]) [.cells [.arr 1 0 l.length cap, .int .i64 most], .cells (flI l ++ J)] (resQ Try.prog Try.f34.results.toList K) := by kernel_rfl
theorem droAI_vc (l : List RwI) (J : List PV) (cap : Nat) (most : Int) (t : Int)  (K : PV → Heap → Prop) (h : ∃ (l_1 : List RwI), ∃ (most_1 : Int), ∃ (t_1 : Int), SlIs [PV.ptr 0 0, PV.int IntKind.u32 t] [PV.ptr 0 0, PV.int IntKind.u32 t_1] ∧ EXI l_1 most_1 [Ob.cells [PV.arr 1 0 (List.length l) cap, PV.int IntKind.i64 most], Ob.cells (flI l ++ J)] ∧ Ok l_1 most_1 ∧ br (has l_1 t_1) (∃ (l_2 : List RwI), ∃ (most_2 : Int), ∃ (t_2 : Int), SlIs [PV.ptr 0 0, PV.int IntKind.u32 t] [PV.ptr 0 0, PV.int IntKind.u32 t_2] ∧ EXI l_2 most_2 [Ob.cells [PV.arr 1 0 (List.length l) cap, PV.int IntKind.i64 most], Ob.cells (flI l ++ J)] ∧ Ok l_2 most_2 ∧ ∃ (l_3 : List RwI), ∃ (J_1 : List PV), ∃ (cap_1 : Nat), ∃ (most_3 : Int), ∃ (p : Nat), SlIs [PV.arr 1 0 (List.length l) cap, PV.int IntKind.i64 (↑(lbp l_2 t_2) : Int), PV.int IntKind.i64 (wI ((↑(lbp l_2 t_2) : Int) + 1))] [PV.arr 1 0 (List.length l_3) cap_1, PV.int IntKind.i64 (↑p : Int), PV.int IntKind.i64 (↑(p + 1) : Int)] ∧ HpIs [Ob.cells [PV.arr 1 0 (List.length l) cap, PV.int IntKind.i64 most], Ob.cells (flI l ++ J)] [Ob.cells [PV.arr 1 0 (List.length l_3) cap_1, PV.int IntKind.i64 most_3], Ob.cells (flI l_3 ++ J_1)] ∧ p < List.length l_3 ∧ List.length l_3 ≤ 1000000 ∧ List.length l_3 ≤ cap_1 ∧ Room J_1 ((cap_1 - List.length l_3) * 2) ∧ K (PV.tup [PV.int IntKind.i64 (getR l_1 t_1), PV.bool (has l_1 t_1)]) [Ob.cells [PV.arr 1 0 (List.length l_3 - 1) cap_1, PV.int IntKind.i64 most_3], Ob.cells (flI (List.eraseIdx l_3 p) ++ ([PV.int IntKind.u32 0, PV.int IntKind.i64 0] ++ J_1))]) (K (PV.tup [PV.int IntKind.i64 (getR l_1 t_1), PV.bool (has l_1 t_1)]) [Ob.cells [PV.arr 1 0 (List.length l) cap, PV.int IntKind.i64 most], Ob.cells (flI l ++ J)])) : ACalls Try.prog gl 34 [.ptr 0 0, .int .u32 t] [.cells [.arr 1 0 l.length cap, .int .i64 most], .cells (flI l ++ J)] K :=
  acalls_of_wpc2 (T := TDI) (L := []) (fun o => match o.op with | .load t _ => (match t with | 109 => 1 | _ => 0) | _ => 0) Try.func34 (by kernel_rfl) (by kernel_rfl) (by kernel_rfl) (TDI_ok) (LOk.nil _ _ _ _ _) (holds_of_eq (droAI_red l J cap most t K) h)
theorem droNI_red (most t : Int) (K : PV → Heap → Prop) : (∃ (l : List RwI), ∃ (most_1 : Int), ∃ (t_1 : Int), SlIs [PV.ptr 0 0, PV.int IntKind.u32 t] [PV.ptr 0 0, PV.int IntKind.u32 t_1] ∧ EXI l most_1 [Ob.cells [PV.list [] Tail.exact, PV.int IntKind.i64 most]] ∧ Ok l most_1 ∧ br (has l t_1) (∃ (l_1 : List RwI), ∃ (most_2 : Int), ∃ (t_2 : Int), SlIs [PV.ptr 0 0, PV.int IntKind.u32 t] [PV.ptr 0 0, PV.int IntKind.u32 t_2] ∧ EXI l_1 most_2 [Ob.cells [PV.list [] Tail.exact, PV.int IntKind.i64 most]] ∧ Ok l_1 most_2 ∧ ∃ (l_2 : List RwI), ∃ (J : List PV), ∃ (cap : Nat), ∃ (most_3 : Int), ∃ (p : Nat), SlIs [PV.list [] Tail.exact, PV.int IntKind.i64 (↑(lbp l_1 t_2) : Int), PV.int IntKind.i64 (wI ((↑(lbp l_1 t_2) : Int) + 1))] [PV.arr 1 0 (List.length l_2) cap, PV.int IntKind.i64 (↑p : Int), PV.int IntKind.i64 (↑(p + 1) : Int)] ∧ HpIs [Ob.cells [PV.list [] Tail.exact, PV.int IntKind.i64 most]] [Ob.cells [PV.arr 1 0 (List.length l_2) cap, PV.int IntKind.i64 most_3], Ob.cells (flI l_2 ++ J)] ∧ p < List.length l_2 ∧ List.length l_2 ≤ 1000000 ∧ List.length l_2 ≤ cap ∧ Room J ((cap - List.length l_2) * 2) ∧ K (PV.tup [PV.int IntKind.i64 (getR l t_1), PV.bool (has l t_1)]) [Ob.cells [PV.arr 1 0 (List.length l_2 - 1) cap, PV.int IntKind.i64 most_3], Ob.cells (flI (List.eraseIdx l_2 p) ++ ([PV.int IntKind.u32 0, PV.int IntKind.i64 0] ++ J))]) (K (PV.tup [PV.int IntKind.i64 (getR l t_1), PV.bool (has l t_1)]) [Ob.cells [PV.list [] Tail.exact, PV.int IntKind.i64 most]])) = wpc br Try.prog gl TDI [] (fun o => match o.op with | .load t _ => (match t with | 109 => 1 | _ => 0) | _ => 0) (bodyOf Try.f34) [] (env0 [.ptr 0 0, .int .u32 t]) [.cells [.list [] .exact, .int .i64 most]] (resQ Try.prog Try.f34.results.toList K) := by kernel_rfl
theorem droNI_vc (most t : Int)  (K : PV → Heap → Prop) (h : ∃ (l : List RwI), ∃ (most_1 : Int), ∃ (t_1 : Int), SlIs [PV.ptr 0 0, PV.int IntKind.u32 t] [PV.ptr 0 0, PV.int IntKind.u32 t_1] ∧ EXI l most_1 [Ob.cells [PV.list [] Tail.exact, PV.int IntKind.i64 most]] ∧ Ok l most_1 ∧ br (has l t_1) (∃ (l_1 : List RwI), ∃ (most_2 : Int), ∃ (t_2 : Int), SlIs [PV.ptr 0 0, PV.int IntKind.u32 t] [PV.ptr 0 0, PV.int IntKind.u32 t_2] ∧ EXI l_1 most_2 [Ob.cells [PV.list [] Tail.exact, PV.int IntKind.i64 most]] ∧ Ok l_1 most_2 ∧ ∃ (l_2 : List RwI), ∃ (J : List PV), ∃ (cap : Nat), ∃ (most_3 : Int), ∃ (p : Nat), SlIs [PV.list [] Tail.exact, PV.int IntKind.i64 (↑(lbp l_1 t_2) : Int), PV.int IntKind.i64 (wI ((↑(lbp l_1 t_2) : Int) + 1))] [PV.arr 1 0 (List.length l_2) cap, PV.int IntKind.i64 (↑p : Int), PV.int IntKind.i64 (↑(p + 1) : Int)] ∧ HpIs [Ob.cells [PV.list [] Tail.exact, PV.int IntKind.i64 most]] [Ob.cells [PV.arr 1 0 (List.length l_2) cap, PV.int IntKind.i64 most_3], Ob.cells (flI l_2 ++ J)] ∧ p < List.length l_2 ∧ List.length l_2 ≤ 1000000 ∧ List.length l_2 ≤ cap ∧ Room J ((cap - List.length l_2) * 2) ∧ K (PV.tup [PV.int IntKind.i64 (getR l t_1), PV.bool (has l t_1)]) [Ob.cells [PV.arr 1 0 (List.length l_2 - 1) cap, PV.int IntKind.i64 most_3], Ob.cells (flI (List.eraseIdx l_2 p) ++ ([PV.int IntKind.u32 0, PV.int IntKind.i64 0] ++ J))]) (K (PV.tup [PV.int IntKind.i64 (getR l t_1), PV.bool (has l t_1)]) [Ob.cells [PV.list [] Tail.exact, PV.int IntKind.i64 most]])) : ACalls Try.prog gl 34 [.ptr 0 0, .int .u32 t] [.cells [.list [] .exact, .int .i64 most]] K :=
  acalls_of_wpc2 (T := TDI) (L := []) (fun o => match o.op with | .load t _ => (match t with | 109 => 1 | _ => 0) | _ => 0) Try.func34 (by kernel_rfl) (by kernel_rfl) (by kernel_rfl) (TDI_ok) (LOk.nil _ _ _ _ _) (holds_of_eq (droNI_red most t K) h)
theorem nexAI_red (l : List RwI) (J : List PV) (cap : Nat) (most : Int) (t : Int) (K : PV → Heap → Prop) : (∃ (l_1 : List RwI), ∃ (most_1 : Int), ∃ (t_1 : Int), SlIs [PV.ptr 0 0, PV.int IntKind.u32 t] [PV.ptr 0 0, PV.int IntKind.u32 t_1] ∧ EXI l_1 most_1 [Ob.cells [PV.arr 1 0 (List.length l) cap, PV.int IntKind.i64 most], Ob.cells (flI l ++ J)] ∧ Ok l_1 most_1 ∧ br (has l_1 t_1) (br (wI ((↑(lbp l_1 t_1) : Int) + 1) == (↑(List.length l) : Int)) (K (PV.tup [PV.int IntKind.u32 0, PV.bool false]) [Ob.cells [PV.arr 1 0 (List.length l) cap, PV.int IntKind.i64 most], Ob.cells (flI l ++ J)]) ((0 ≤ wI ((↑(lbp l_1 t_1) : Int) + 1) ∧ wI ((↑(lbp l_1 t_1) : Int) + 1) < (↑(List.length l) : Int)) ∧ br (true && fitX [CK.int IntKind.u32] 0 (List.drop (0 + Int.toNat (wI ((↑(lbp l_1 t_1) : Int) + 1)) * 2 + 0) (flI l ++ J))) (K (PV.tup [PV.int IntKind.u32 (cI (List.drop (0 + Int.toNat (wI ((↑(lbp l_1 t_1) : Int) + 1)) * 2 + 0) (flI l ++ J)) 0), PV.bool true]) [Ob.cells [PV.arr 1 0 (List.length l) cap, PV.int IntKind.i64 most], Ob.cells (flI l ++ J)]) False)) (br ((↑(lbp l_1 t_1) : Int) == (↑(List.length l) : Int)) (K (PV.tup [PV.int IntKind.u32 0, PV.bool false]) [Ob.cells [PV.arr 1 0 (List.length l) cap, PV.int IntKind.i64 most], Ob.cells (flI l ++ J)]) ((0 ≤ (↑(lbp l_1 t_1) : Int) ∧ (↑(lbp l_1 t_1) : Int) < (↑(List.length l) : Int)) ∧ br (true && fitX [CK.int IntKind.u32] 0 (List.drop (0 + Int.toNat (↑(lbp l_1 t_1) : Int) * 2 + 0) (flI l ++ J))) (K (PV.tup [PV.int IntKind.u32 (cI (List.drop (0 + Int.toNat (↑(lbp l_1 t_1) : Int) * 2 + 0) (flI l ++ J)) 0), PV.bool true]) [Ob.cells [PV.arr 1 0 (List.length l) cap, PV.int IntKind.i64 most], Ob.cells (flI l ++ J)]) False))) = wpc br Try.prog gl TAI [] (fun o => match o.op with | .load t _ => (match t with | 109 => 1 | _ => 0) | _ => 0) (bodyOf Try.f36) [] (env0 [.ptr 0 0, .int .u32 t]) [.cells [.arr 1 0 l.length cap, .int .i64 most], .cells (flI l ++ J)] (resQ Try.prog Try.f36.results.toList K) := by kernel_rfl
theorem nexAI_vc (l : List RwI) (J : List PV) (cap : Nat) (most : Int) (t : Int)  (K : PV → Heap → Prop) (h : ∃ (l_1 : List RwI), ∃ (most_1 : Int), ∃ (t_1 : Int), SlIs [PV.ptr 0 0, PV.int IntKind.u32 t] [PV.ptr 0 0, PV.int IntKind.u32 t_1] ∧ EXI l_1 most_1 [Ob.cells [PV.arr 1 0 (List.length l) cap, PV.int IntKind.i64 most], Ob.cells (flI l ++ J)] ∧ Ok l_1 most_1 ∧ br (has l_1 t_1) (br (wI ((↑(lbp l_1 t_1) : Int) + 1) == (↑(List.length l) : Int)) (K (PV.tup [PV.int IntKind.u32 0, PV.bool false]) [Ob.cells [PV.arr 1 0 (List.length l) cap, PV.int IntKind.i64 most], Ob.cells (flI l ++ J)]) ((0 ≤ wI ((↑(lbp l_1 t_1) : Int) + 1) ∧ wI ((↑(lbp l_1 t_1) : Int) + 1) < (↑(List.length l) : Int)) ∧ br (true && fitX [CK.int IntKind.u32] 0 (List.drop (0 + Int.toNat (wI ((↑(lbp l_1 t_1) : Int) + 1)) * 2 + 0) (flI l ++ J))) (K (PV.tup [PV.int IntKind.u32 (cI (List.drop (0 + Int.toNat (wI ((↑(lbp l_1 t_1) : Int) + 1)) * 2 + 0) (flI l ++ J)) 0), PV.bool true]) [Ob.cells [PV.arr 1 0 (List.length l) cap, PV.int IntKind.i64 most], Ob.cells (flI l ++ J)]) False)) (br ((↑(lbp l_1 t_1) : Int) == (↑(List.length l) : Int)) (K (PV.tup [PV.int IntKind.u32 0, PV.bool false]) [Ob.cells [PV.arr 1 0 (List.length l) cap, PV.int IntKind.i64 most], Ob.cells (flI l ++ J)]) ((0 ≤ (↑(lbp l_1 t_1) : Int) ∧ (↑(lbp l_1 t_1) : Int) < (↑(List.length l) : Int)) ∧ br (true && fitX [CK.int IntKind.u32] 0 (List.drop (0 + Int.toNat (↑(lbp l_1 t_1) : Int) * 2 + 0) (flI l ++ J))) (K (PV.tup [PV.int IntKind.u32 (cI (List.drop (0 + Int.toNat (↑(lbp l_1 t_1) : Int) * 2 + 0) (flI l ++ J)) 0), PV.bool true]) [Ob.cells [PV.arr 1 0 (List.length l) cap, PV.int IntKind.i64 most], Ob.cells (flI l ++ J)]) False))) : ACalls Try.prog gl 36 [.ptr 0 0, .int .u32 t] [.cells [.arr 1 0 l.length cap, .int .i64 most], .cells (flI l ++ J)] K :=
  acalls_of_wpc2 (T := TAI) (L := []) (fun o => match o.op with | .load t _ => (match t with | 109 => 1 | _ => 0) | _ => 0) Try.func36 (by kernel_rfl) (by kernel_rfl) (by kernel_rfl) (TAI_ok) (LOk.nil _ _ _ _ _) (holds_of_eq (nexAI_red l J cap most t K) h)
theorem nexNI_red (most t : Int) (K : PV → Heap → Prop) : (∃ (l : List RwI), ∃ (most_1 : Int), ∃ (t_1 : Int), SlIs [PV.ptr 0 0, PV.int IntKind.u32 t] [PV.ptr 0 0, PV.int IntKind.u32 t_1] ∧ EXI l most_1 [Ob.cells [PV.list [] Tail.exact, PV.int IntKind.i64 most]] ∧ Ok l most_1 ∧ br (has l t_1) (br (wI ((↑(lbp l t_1) : Int) + 1) == 0) (K (PV.tup [PV.int IntKind.u32 0, PV.bool false]) [Ob.cells [PV.list [] Tail.exact, PV.int IntKind.i64 most]]) (InL [] 2 (wI ((↑(lbp l t_1) : Int) + 1)) ∧ False)) (br ((↑(lbp l t_1) : Int) == 0) (K (PV.tup [PV.int IntKind.u32 0, PV.bool false]) [Ob.cells [PV.list [] Tail.exact, PV.int IntKind.i64 most]]) (InL [] 2 (↑(lbp l t_1) : Int) ∧ False))) = wpc br Try.prog gl TAI [] (fun o => match o.op with | .load t _ => (match t with | 109 => 1 | _ => 0) | _ => 0) (bodyOf Try.f36) [] (env0 [.ptr 0 0, .int .u32 t]) [.cells [.list [] .exact, .int .i64 most]] (resQ Try.prog Try.f36.results.toList K) := by kernel_rfl
theorem nexNI_vc (most t : Int)  (K : PV → Heap → Prop) (h : ∃ (l : List RwI), ∃ (most_1 : Int), ∃ (t_1 : Int), SlIs [PV.ptr 0 0, PV.int IntKind.u32 t] [PV.ptr 0 0, PV.int IntKind.u32 t_1] ∧ EXI l most_1 [Ob.cells [PV.list [] Tail.exact, PV.int IntKind.i64 most]] ∧ Ok l most_1 ∧ br (has l t_1) (br (wI ((↑(lbp l t_1) : Int) + 1) == 0) (K (PV.tup [PV.int IntKind.u32 0, PV.bool false]) [Ob.cells [PV.list [] Tail.exact, PV.int IntKind.i64 most]]) (InL [] 2 (wI ((↑(lbp l t_1) : Int) + 1)) ∧ False)) (br ((↑(lbp l t_1) : Int) == 0) (K (PV.tup [PV.int IntKind.u32 0, PV.bool false]) [Ob.cells [PV.list [] Tail.exact, PV.int IntKind.i64 most]]) (InL [] 2 (↑(lbp l t_1) : Int) ∧ False))) : ACalls Try.prog gl 36 [.ptr 0 0, .int .u32 t] [.cells [.list [] .exact, .int .i64 most]] K :=
  acalls_of_wpc2 (T := TAI) (L := []) (fun o => match o.op with | .load t _ => (match t with | 109 => 1 | _ => 0) | _ => 0) Try.func36 (by kernel_rfl) (by kernel_rfl) (by kernel_rfl) (TAI_ok) (LOk.nil _ _ _ _ _) (holds_of_eq (nexNI_red most t K) h)
theorem lenAI_red (l : List RwI) (J : List PV) (cap : Nat) (most : Int) (K : PV → Heap → Prop) : (K (PV.int IntKind.i64 (↑(List.length l) : Int)) [Ob.cells [PV.arr 1 0 (List.length l) cap, PV.int IntKind.i64 most], Ob.cells (flI l ++ J)]) = wpc br Try.prog gl [] [] (fun o => match o.op with | .load t _ => (match t with | 109 => 1 | _ => 0) | _ => 0) (bodyOf Try.f21) [] (env0 [.ptr 0 0]) [.cells [.arr 1 0 l.length cap, .int .i64 most], .cells (flI l ++ J)] (resQ Try.prog Try.f21.results.toList K) := by kernel_rfl
theorem lenAI_vc (l : List RwI) (J : List PV) (cap : Nat) (most : Int)  (K : PV → Heap → Prop) (h : K (PV.int IntKind.i64 (↑(List.length l) : Int)) [Ob.cells [PV.arr 1 0 (List.length l) cap, PV.int IntKind.i64 most], Ob.cells (flI l ++ J)]) : ACalls Try.prog gl 21 [.ptr 0 0] [.cells [.arr 1 0 l.length cap, .int .i64 most], .cells (flI l ++ J)] K :=
  acalls_of_wpc2 (T := []) (L := []) (fun o => match o.op with | .load t _ => (match t with | 109 => 1 | _ => 0) | _ => 0) Try.func21 (by kernel_rfl) (by kernel_rfl) (by kernel_rfl) (TabOk.nil _ _) (LOk.nil _ _ _ _ _) (holds_of_eq (lenAI_red l J cap most K) h)
theorem lenNI_red (most : Int) (K : PV → Heap → Prop) : (K (PV.int IntKind.i64 0) [Ob.cells [PV.list [] Tail.exact, PV.int IntKind.i64 most]]) = wpc br Try.prog gl [] [] (fun o => match o.op with | .load t _ => (match t with | 109 => 1 | _ => 0) | _ => 0) (bodyOf Try.f21) [] (env0 [.ptr 0 0]) [.cells [.list [] .exact, .int .i64 most]] (resQ Try.prog Try.f21.results.toList K) := by kernel_rfl
theorem lenNI_vc (most : Int)  (K : PV → Heap → Prop) (h : K (PV.int IntKind.i64 0) [Ob.cells [PV.list [] Tail.exact, PV.int IntKind.i64 most]]) : ACalls Try.prog gl 21 [.ptr 0 0] [.cells [.list [] .exact, .int .i64 most]] K :=
  acalls_of_wpc2 (T := []) (L := []) (fun o => match o.op with | .load t _ => (match t with | 109 => 1 | _ => 0) | _ => 0) Try.func21 (by kernel_rfl) (by kernel_rfl) (by kernel_rfl) (TabOk.nil _ _) (LOk.nil _ _ _ _ _) (holds_of_eq (lenNI_red most K) h)
theorem mosAI_red (l : List RwI) (J : List PV) (cap : Nat) (most : Int) (K : PV → Heap → Prop) : (K (PV.int IntKind.i64 most) [Ob.cells [PV.arr 1 0 (List.length l) cap, PV.int IntKind.i64 most], Ob.cells (flI l ++ J)]) = wpc br Try.prog gl [] [] (fun o => match o.op with | .load t _ => (match t with | 109 => 1 | _ => 0) | _ => 0) (bodyOf Try.f40) [] (env0 [.ptr 0 0]) [.cells [.arr 1 0 l.length cap, .int .i64 most], .cells (flI l ++ J)] (resQ Try.prog Try.f40.results.toList K) := by kernel_rfl
theorem mosAI_vc (l : List RwI) (J : List PV) (cap : Nat) (most : Int)  (K : PV → Heap → Prop) (h : K (PV.int IntKind.i64 most) [Ob.cells [PV.arr 1 0 (List.length l) cap, PV.int IntKind.i64 most], Ob.cells (flI l ++ J)]) : ACalls Try.prog gl 40 [.ptr 0 0] [.cells [.arr 1 0 l.length cap, .int .i64 most], .cells (flI l ++ J)] K :=
  acalls_of_wpc2 (T := []) (L := []) (fun o => match o.op with | .load t _ => (match t with | 109 => 1 | _ => 0) | _ => 0) Try.func40 (by kernel_rfl) (by kernel_rfl) (by kernel_rfl) (TabOk.nil _ _) (LOk.nil _ _ _ _ _) (holds_of_eq (mosAI_red l J cap most K) h)
theorem mosNI_red (most : Int) (K : PV → Heap → Prop) : (K (PV.int IntKind.i64 most) [Ob.cells [PV.list [] Tail.exact, PV.int IntKind.i64 most]]) = wpc br Try.prog gl [] [] (fun o => match o.op with | .load t _ => (match t with | 109 => 1 | _ => 0) | _ => 0) (bodyOf Try.f40) [] (env0 [.ptr 0 0]) [.cells [.list [] .exact, .int .i64 most]] (resQ Try.prog Try.f40.results.toList K) := by kernel_rfl
theorem mosNI_vc (most : Int)  (K : PV → Heap → Prop) (h : K (PV.int IntKind.i64 most) [Ob.cells [PV.list [] Tail.exact, PV.int IntKind.i64 most]]) : ACalls Try.prog gl 40 [.ptr 0 0] [.cells [.list [] .exact, .int .i64 most]] K :=
  acalls_of_wpc2 (T := []) (L := []) (fun o => match o.op with | .load t _ => (match t with | 109 => 1 | _ => 0) | _ => 0) Try.func40 (by kernel_rfl) (by kernel_rfl) (by kernel_rfl) (TabOk.nil _ _) (LOk.nil _ _ _ _ _) (holds_of_eq (mosNI_red most K) h)
theorem newI_red (n : Int) (K : PV → Heap → Prop) : (K (PV.ptr 0 0) [Ob.cells [PV.list [] Tail.exact, PV.int IntKind.i64 (mxI 0 n)]]) = wpc br Try.prog gl [] [] (fun _ => 0) (bodyOf Try.f18) [] (env0 [.int .i64 n]) [] (resQ Try.prog Try.f18.results.toList K) := by kernel_rfl
theorem newI_vc (n : Int)  (K : PV → Heap → Prop) (h : K (PV.ptr 0 0) [Ob.cells [PV.list [] Tail.exact, PV.int IntKind.i64 (mxI 0 n)]]) : ACalls Try.prog gl 18 [.int .i64 n] [] K :=
  acalls_of_wpc2 (T := []) (L := []) (fun _ => 0) Try.func18 (by kernel_rfl) (by kernel_rfl) (by kernel_rfl) (TabOk.nil _ _) (LOk.nil _ _ _ _ _) (holds_of_eq (newI_red n K) h)
theorem freAI_red (l : List RwI) (J : List PV) (cap : Nat) (most : Int) (i : Nat) (R : Ex → List PV → Heap → Prop) : (br (decide ((↑i : Int) < (↑(List.length l) : Int))) ((0 ≤ (↑i : Int) ∧ (↑i : Int) < (↑(List.length l) : Int)) ∧ br (true && fitX [CK.int IntKind.u32, CK.int IntKind.i64] 0 (List.drop (0 + Int.toNat (↑i : Int) * 2) (flI l ++ J))) (br (cI (List.drop (0 + Int.toNat (↑i : Int) * 2) (flI l ++ J)) 0 != IntKind.wrap IntKind.u32 (IntKind.wrap IntKind.u32 (↑i : Int) + 1)) (R Ex.ret [PV.ptr 0 0, PV.int IntKind.u32 (IntKind.wrap IntKind.u32 (IntKind.wrap IntKind.u32 (↑i : Int) + 1)), PV.arr 1 0 (List.length l) cap, PV.int IntKind.i64 (↑(List.length l) : Int), PV.int IntKind.i64 (↑i : Int)] [Ob.cells [PV.arr 1 0 (List.length l) cap, PV.int IntKind.i64 most], Ob.cells (flI l ++ J), Ob.cells [PV.int IntKind.u32 (cI (List.drop (0 + Int.toNat (↑i : Int) * 2) (flI l ++ J)) 0), PV.int IntKind.i64 (cI (List.drop (0 + Int.toNat (↑i : Int) * 2) (flI l ++ J)) 1)]]) (R Ex.normal [PV.ptr 0 0, PV.int IntKind.u32 0, PV.arr 1 0 (List.length l) cap, PV.int IntKind.i64 (↑(List.length l) : Int), PV.int IntKind.i64 (wI ((↑i : Int) + 1))] [Ob.cells [PV.arr 1 0 (List.length l) cap, PV.int IntKind.i64 most], Ob.cells (flI l ++ J), Ob.cells [PV.int IntKind.u32 (cI (List.drop (0 + Int.toNat (↑i : Int) * 2) (flI l ++ J)) 0), PV.int IntKind.i64 (cI (List.drop (0 + Int.toNat (↑i : Int) * 2) (flI l ++ J)) 1)]])) False) (R (Ex.exit 0) [PV.ptr 0 0, PV.int IntKind.u32 0, PV.arr 1 0 (List.length l) cap, PV.int IntKind.i64 (↑(List.length l) : Int), PV.int IntKind.i64 (↑i : Int)] [Ob.cells [PV.arr 1 0 (List.length l) cap, PV.int IntKind.i64 most], Ob.cells (flI l ++ J)])) = wpc br Try.prog gl [] [] (fun o => match o.op with | .load t _ => (match t with | 109 => 1 | _ => 0) | _ => 0) (subOf [1, 1, 0, 1, 0] (bodyOf Try.f22)) [] (envS [0, 2, 22, 23, 24] [.ptr 0 0, .int .u32 0, .arr 1 0 l.length cap, .int .i64 l.length, .int .i64 i]) [.cells [.arr 1 0 l.length cap, .int .i64 most], .cells (flI l ++ J)] (fun ex e H => R ex (List.map e [0, 2, 22, 23, 24]) H) := by kernel_rfl
theorem freAI_vc (l : List RwI) (J : List PV) (cap : Nat) (most : Int) (i : Nat) (R : Ex → List PV → Heap → Prop) (h : br (decide ((↑i : Int) < (↑(List.length l) : Int))) ((0 ≤ (↑i : Int) ∧ (↑i : Int) < (↑(List.length l) : Int)) ∧ br (true && fitX [CK.int IntKind.u32, CK.int IntKind.i64] 0 (List.drop (0 + Int.toNat (↑i : Int) * 2) (flI l ++ J))) (br (cI (List.drop (0 + Int.toNat (↑i : Int) * 2) (flI l ++ J)) 0 != IntKind.wrap IntKind.u32 (IntKind.wrap IntKind.u32 (↑i : Int) + 1)) (R Ex.ret [PV.ptr 0 0, PV.int IntKind.u32 (IntKind.wrap IntKind.u32 (IntKind.wrap IntKind.u32 (↑i : Int) + 1)), PV.arr 1 0 (List.length l) cap, PV.int IntKind.i64 (↑(List.length l) : Int), PV.int IntKind.i64 (↑i : Int)] [Ob.cells [PV.arr 1 0 (List.length l) cap, PV.int IntKind.i64 most], Ob.cells (flI l ++ J), Ob.cells [PV.int IntKind.u32 (cI (List.drop (0 + Int.toNat (↑i : Int) * 2) (flI l ++ J)) 0), PV.int IntKind.i64 (cI (List.drop (0 + Int.toNat (↑i : Int) * 2) (flI l ++ J)) 1)]]) (R Ex.normal [PV.ptr 0 0, PV.int IntKind.u32 0, PV.arr 1 0 (List.length l) cap, PV.int IntKind.i64 (↑(List.length l) : Int), PV.int IntKind.i64 (wI ((↑i : Int) + 1))] [Ob.cells [PV.arr 1 0 (List.length l) cap, PV.int IntKind.i64 most], Ob.cells (flI l ++ J), Ob.cells [PV.int IntKind.u32 (cI (List.drop (0 + Int.toNat (↑i : Int) * 2) (flI l ++ J)) 0), PV.int IntKind.i64 (cI (List.drop (0 + Int.toNat (↑i : Int) * 2) (flI l ++ J)) 1)]])) False) (R (Ex.exit 0) [PV.ptr 0 0, PV.int IntKind.u32 0, PV.arr 1 0 (List.length l) cap, PV.int IntKind.i64 (↑(List.length l) : Int), PV.int IntKind.i64 (↑i : Int)] [Ob.cells [PV.arr 1 0 (List.length l) cap, PV.int IntKind.i64 most], Ob.cells (flI l ++ J)])) : Holds (wpc br Try.prog gl [] [] (fun o => match o.op with | .load t _ => (match t with | 109 => 1 | _ => 0) | _ => 0) (subOf [1, 1, 0, 1, 0] (bodyOf Try.f22)) [] (envS [0, 2, 22, 23, 24] [.ptr 0 0, .int .u32 0, .arr 1 0 l.length cap, .int .i64 l.length, .int .i64 i]) [.cells [.arr 1 0 l.length cap, .int .i64 most], .cells (flI l ++ J)] (fun ex e H => R ex (List.map e [0, 2, 22, 23, 24]) H)) := holds_of_eq (freAI_red l J cap most i R) h
theorem freNI_red (most : Int) (R : Ex → List PV → Heap → Prop) : (R (Ex.exit 0) [PV.ptr 0 0, PV.int IntKind.u32 0, PV.list [] Tail.exact, PV.int IntKind.i64 0, PV.int IntKind.i64 0] [Ob.cells [PV.list [] Tail.exact, PV.int IntKind.i64 most]]) = wpc br Try.prog gl [] [] (fun o => match o.op with | .load t _ => (match t with | 109 => 1 | _ => 0) | _ => 0) (subOf [1, 1, 0, 1, 0] (bodyOf Try.f22)) [] (envS [0, 2, 22, 23, 24] [.ptr 0 0, .int .u32 0, .list [] .exact, .int .i64 0, .int .i64 0]) [.cells [.list [] .exact, .int .i64 most]] (fun ex e H => R ex (List.map e [0, 2, 22, 23, 24]) H) := by kernel_rfl
theorem freNI_vc (most : Int) (R : Ex → List PV → Heap → Prop) (h : R (Ex.exit 0) [PV.ptr 0 0, PV.int IntKind.u32 0, PV.list [] Tail.exact, PV.int IntKind.i64 0, PV.int IntKind.i64 0] [Ob.cells [PV.list [] Tail.exact, PV.int IntKind.i64 most]]) : Holds (wpc br Try.prog gl [] [] (fun o => match o.op with | .load t _ => (match t with | 109 => 1 | _ => 0) | _ => 0) (subOf [1, 1, 0, 1, 0] (bodyOf Try.f22)) [] (envS [0, 2, 22, 23, 24] [.ptr 0 0, .int .u32 0, .list [] .exact, .int .i64 0, .int .i64 0]) [.cells [.list [] .exact, .int .i64 most]] (fun ex e H => R ex (List.map e [0, 2, 22, 23, 24]) H)) := holds_of_eq (freNI_red most R) h
theorem idsAI_red (l : List RwI) (J : List PV) (cap : Nat) (most : Int) (R : Ex → List PV → Heap → Prop) : (br (decide (0 < (↑(List.length l) : Int))) ((iI 0 ≤ 0 ∧ 0 < (↑(List.length l) : Int)) ∧ br (true && fitX [CK.int IntKind.u32, CK.int IntKind.i64] 0 (List.drop 0 (flI l ++ J))) (AppL [] [[PV.int IntKind.u32 (cI (List.drop 0 (flI l ++ J)) 0)]] 1 4 ∧ (List.all [PV.int IntKind.u32 (cI (List.drop 0 (flI l ++ J)) 0)] PV.one = true ∧ [[PV.int IntKind.u32 (cI (List.drop 0 (flI l ++ J)) 0)]] ≠ []) ∧ R Ex.normal [PV.ptr 0 0, PV.list [[PV.int IntKind.u32 (cI (List.drop 0 (flI l ++ J)) 0)]] (Tail.tok 3), PV.arr 1 0 (List.length l) cap, PV.int IntKind.i64 (↑(List.length l) : Int), PV.int IntKind.i64 1] [Ob.cells [PV.arr 1 0 (List.length l) cap, PV.int IntKind.i64 most], Ob.cells (flI l ++ J), Ob.cells [PV.int IntKind.u32 (cI (List.drop 0 (flI l ++ J)) 0), PV.int IntKind.i64 (cI (List.drop 0 (flI l ++ J)) 1)], Ob.tok]) False) (R (Ex.exit 0) [PV.ptr 0 0, PV.list [] Tail.exact, PV.arr 1 0 (List.length l) cap, PV.int IntKind.i64 (↑(List.length l) : Int), PV.int IntKind.i64 0] [Ob.cells [PV.arr 1 0 (List.length l) cap, PV.int IntKind.i64 most], Ob.cells (flI l ++ J)])) = wpc br Try.prog gl [] [] (fun o => match o.op with | .load t _ => (match t with | 109 => 1 | _ => 0) | _ => match o.dst with | some 21 => 1 | _ => 0) (subOf [1, 1, 0, 1, 0, 1, 0] (bodyOf Try.f19)) [] (envS [0, 3, 11, 12, 13] [.ptr 0 0, .list [] .exact, .arr 1 0 l.length cap, .int .i64 l.length, .int .i64 0]) [.cells [.arr 1 0 l.length cap, .int .i64 most], .cells (flI l ++ J)] (fun ex e H => R ex (List.map e [0, 3, 11, 12, 13]) H) := by kernel_rfl
theorem idsAI_vc (l : List RwI) (J : List PV) (cap : Nat) (most : Int) (R : Ex → List PV → Heap → Prop) (h : br (decide (0 < (↑(List.length l) : Int))) ((iI 0 ≤ 0 ∧ 0 < (↑(List.length l) : Int)) ∧ br (true && fitX [CK.int IntKind.u32, CK.int IntKind.i64] 0 (List.drop 0 (flI l ++ J))) (AppL [] [[PV.int IntKind.u32 (cI (List.drop 0 (flI l ++ J)) 0)]] 1 4 ∧ (List.all [PV.int IntKind.u32 (cI (List.drop 0 (flI l ++ J)) 0)] PV.one = true ∧ [[PV.int IntKind.u32 (cI (List.drop 0 (flI l ++ J)) 0)]] ≠ []) ∧ R Ex.normal [PV.ptr 0 0, PV.list [[PV.int IntKind.u32 (cI (List.drop 0 (flI l ++ J)) 0)]] (Tail.tok 3), PV.arr 1 0 (List.length l) cap, PV.int IntKind.i64 (↑(List.length l) : Int), PV.int IntKind.i64 1] [Ob.cells [PV.arr 1 0 (List.length l) cap, PV.int IntKind.i64 most], Ob.cells (flI l ++ J), Ob.cells [PV.int IntKind.u32 (cI (List.drop 0 (flI l ++ J)) 0), PV.int IntKind.i64 (cI (List.drop 0 (flI l ++ J)) 1)], Ob.tok]) False) (R (Ex.exit 0) [PV.ptr 0 0, PV.list [] Tail.exact, PV.arr 1 0 (List.length l) cap, PV.int IntKind.i64 (↑(List.length l) : Int), PV.int IntKind.i64 0] [Ob.cells [PV.arr 1 0 (List.length l) cap, PV.int IntKind.i64 most], Ob.cells (flI l ++ J)])) : Holds (wpc br Try.prog gl [] [] (fun o => match o.op with | .load t _ => (match t with | 109 => 1 | _ => 0) | _ => match o.dst with | some 21 => 1 | _ => 0) (subOf [1, 1, 0, 1, 0, 1, 0] (bodyOf Try.f19)) [] (envS [0, 3, 11, 12, 13] [.ptr 0 0, .list [] .exact, .arr 1 0 l.length cap, .int .i64 l.length, .int .i64 0]) [.cells [.arr 1 0 l.length cap, .int .i64 most], .cells (flI l ++ J)] (fun ex e H => R ex (List.map e [0, 3, 11, 12, 13]) H)) := holds_of_eq (idsAI_red l J cap most R) h
theorem idsBI_red (l : List RwI) (J : List PV) (cap : Nat) (most : Int) (es : List (List PV)) (i : Nat) (R : Ex → List PV → Heap → Prop) : (br (decide ((↑i : Int) < (↑(List.length l) : Int))) ((0 ≤ (↑i : Int) ∧ (↑i : Int) < (↑(List.length l) : Int)) ∧ br (true && fitX [CK.int IntKind.u32, CK.int IntKind.i64] 0 (List.drop (0 + Int.toNat (↑i : Int) * 2) (flI l ++ J))) (AppL es [[PV.int IntKind.u32 (cI (List.drop (0 + Int.toNat (↑i : Int) * 2) (flI l ++ J)) 0)]] 1 4 ∧ (List.all [PV.int IntKind.u32 (cI (List.drop (0 + Int.toNat (↑i : Int) * 2) (flI l ++ J)) 0)] PV.one = true ∧ [[PV.int IntKind.u32 (cI (List.drop (0 + Int.toNat (↑i : Int) * 2) (flI l ++ J)) 0)]] ≠ []) ∧ R Ex.normal [PV.ptr 0 0, PV.list (es ++ [[PV.int IntKind.u32 (cI (List.drop (0 + Int.toNat (↑i : Int) * 2) (flI l ++ J)) 0)]]) (Tail.tok 4), PV.arr 1 0 (List.length l) cap, PV.int IntKind.i64 (↑(List.length l) : Int), PV.int IntKind.i64 (wI ((↑i : Int) + 1))] [Ob.cells [PV.arr 1 0 (List.length l) cap, PV.int IntKind.i64 most], Ob.cells (flI l ++ J), Ob.dead, Ob.cells [PV.int IntKind.u32 (cI (List.drop (0 + Int.toNat (↑i : Int) * 2) (flI l ++ J)) 0), PV.int IntKind.i64 (cI (List.drop (0 + Int.toNat (↑i : Int) * 2) (flI l ++ J)) 1)], Ob.tok]) False) (R (Ex.exit 0) [PV.ptr 0 0, PV.list es (Tail.tok 2), PV.arr 1 0 (List.length l) cap, PV.int IntKind.i64 (↑(List.length l) : Int), PV.int IntKind.i64 (↑i : Int)] [Ob.cells [PV.arr 1 0 (List.length l) cap, PV.int IntKind.i64 most], Ob.cells (flI l ++ J), Ob.tok])) = wpc br Try.prog gl [] [] (fun o => match o.op with | .load t _ => (match t with | 109 => 1 | _ => 0) | _ => match o.dst with | some 21 => 1 | _ => 0) (subOf [1, 1, 0, 1, 0, 1, 0] (bodyOf Try.f19)) [] (envS [0, 3, 11, 12, 13] [.ptr 0 0, .list es (.tok 2), .arr 1 0 l.length cap, .int .i64 l.length, .int .i64 i]) [.cells [.arr 1 0 l.length cap, .int .i64 most], .cells (flI l ++ J), .tok] (fun ex e H => R ex (List.map e [0, 3, 11, 12, 13]) H) := by kernel_rfl
theorem idsBI_vc (l : List RwI) (J : List PV) (cap : Nat) (most : Int) (es : List (List PV)) (i : Nat) (R : Ex → List PV → Heap → Prop) (h : br (decide ((↑i : Int) < (↑(List.length l) : Int))) ((0 ≤ (↑i : Int) ∧ (↑i : Int) < (↑(List.length l) : Int)) ∧ br (true && fitX [CK.int IntKind.u32, CK.int IntKind.i64] 0 (List.drop (0 + Int.toNat (↑i : Int) * 2) (flI l ++ J))) (AppL es [[PV.int IntKind.u32 (cI (List.drop (0 + Int.toNat (↑i : Int) * 2) (flI l ++ J)) 0)]] 1 4 ∧ (List.all [PV.int IntKind.u32 (cI (List.drop (0 + Int.toNat (↑i : Int) * 2) (flI l ++ J)) 0)] PV.one = true ∧ [[PV.int IntKind.u32 (cI (List.drop (0 + Int.toNat (↑i : Int) * 2) (flI l ++ J)) 0)]] ≠ []) ∧ R Ex.normal [PV.ptr 0 0, PV.list (es ++ [[PV.int IntKind.u32 (cI (List.drop (0 + Int.toNat (↑i : Int) * 2) (flI l ++ J)) 0)]]) (Tail.tok 4), PV.arr 1 0 (List.length l) cap, PV.int IntKind.i64 (↑(List.length l) : Int), PV.int IntKind.i64 (wI ((↑i : Int) + 1))] [Ob.cells [PV.arr 1 0 (List.length l) cap, PV.int IntKind.i64 most], Ob.cells (flI l ++ J), Ob.dead, Ob.cells [PV.int IntKind.u32 (cI (List.drop (0 + Int.toNat (↑i : Int) * 2) (flI l ++ J)) 0), PV.int IntKind.i64 (cI (List.drop (0 + Int.toNat (↑i : Int) * 2) (flI l ++ J)) 1)], Ob.tok]) False) (R (Ex.exit 0) [PV.ptr 0 0, PV.list es (Tail.tok 2), PV.arr 1 0 (List.length l) cap, PV.int IntKind.i64 (↑(List.length l) : Int), PV.int IntKind.i64 (↑i : Int)] [Ob.cells [PV.arr 1 0 (List.length l) cap, PV.int IntKind.i64 most], Ob.cells (flI l ++ J), Ob.tok])) : Holds (wpc br Try.prog gl [] [] (fun o => match o.op with | .load t _ => (match t with | 109 => 1 | _ => 0) | _ => match o.dst with | some 21 => 1 | _ => 0) (subOf [1, 1, 0, 1, 0, 1, 0] (bodyOf Try.f19)) [] (envS [0, 3, 11, 12, 13] [.ptr 0 0, .list es (.tok 2), .arr 1 0 l.length cap, .int .i64 l.length, .int .i64 i]) [.cells [.arr 1 0 l.length cap, .int .i64 most], .cells (flI l ++ J), .tok] (fun ex e H => R ex (List.map e [0, 3, 11, 12, 13]) H)) := holds_of_eq (idsBI_red l J cap most es i R) h
theorem idsNI_red (most : Int) (R : Ex → List PV → Heap → Prop) : (R (Ex.exit 0) [PV.ptr 0 0, PV.list [] Tail.exact, PV.list [] Tail.exact, PV.int IntKind.i64 0, PV.int IntKind.i64 0] [Ob.cells [PV.list [] Tail.exact, PV.int IntKind.i64 most]]) = wpc br Try.prog gl [] [] (fun o => match o.op with | .load t _ => (match t with | 109 => 1 | _ => 0) | _ => 0) (subOf [1, 1, 0, 1, 0, 1, 0] (bodyOf Try.f19)) [] (envS [0, 3, 11, 12, 13] [.ptr 0 0, .list [] .exact, .list [] .exact, .int .i64 0, .int .i64 0]) [.cells [.list [] .exact, .int .i64 most]] (fun ex e H => R ex (List.map e [0, 3, 11, 12, 13]) H) := by kernel_rfl
theorem idsNI_vc (most : Int) (R : Ex → List PV → Heap → Prop) (h : R (Ex.exit 0) [PV.ptr 0 0, PV.list [] Tail.exact, PV.list [] Tail.exact, PV.int IntKind.i64 0, PV.int IntKind.i64 0] [Ob.cells [PV.list [] Tail.exact, PV.int IntKind.i64 most]]) : Holds (wpc br Try.prog gl [] [] (fun o => match o.op with | .load t _ => (match t with | 109 => 1 | _ => 0) | _ => 0) (subOf [1, 1, 0, 1, 0, 1, 0] (bodyOf Try.f19)) [] (envS [0, 3, 11, 12, 13] [.ptr 0 0, .list [] .exact, .list [] .exact, .int .i64 0, .int .i64 0]) [.cells [.list [] .exact, .int .i64 most]] (fun ex e H => R ex (List.map e [0, 3, 11, 12, 13]) H)) := holds_of_eq (idsNI_red most R) h
def freI_l : LSp := fun e H Q => ∃ (l : List RwI) (J : List PV) (cap : Nat) (most : Int), l.length ≤ 1000000 ∧ (∀ y ∈ J, Low 2 y) ∧ SlIs (List.map e [0, 2, 22, 23, 24]) [.ptr 0 0, .int .u32 0, .arr 1 0 l.length cap, .int .i64 l.length, .int .i64 0] ∧ HpIs H (hpAI l J cap most) ∧
  (gap l < l.length → ∀ (ob : Ob), Q .ret (envS [0, 2, 22, 23, 24] [.ptr 0 0, .int .u32 ((gap l : Int) + 1), .arr 1 0 l.length cap, .int .i64 l.length, .int .i64 (gap l)]) (hpAI l J cap most ++ [ob])) ∧
  (gap l = l.length → Q (.exit 0) (envS [0, 2, 22, 23, 24] [.ptr 0 0, .int .u32 0, .arr 1 0 l.length cap, .int .i64 l.length, .int .i64 l.length]) (hpAI l J cap most))
theorem freI_l_ok : ∀ e H Q, freI_l e H Q → AW Try.prog gl Try.f22.ntmps (.loop (subOf [1, 1, 0, 1, 0] (bodyOf Try.f22))) Q e H := by
  rintro e H Q ⟨l, J, cap, most, hl, hJ, he, hH, hr, hx⟩
  have hgl := gap_le l
  refine aw_loop4 (hn := fun o => match o.op with | .load t _ => (match t with | 109 => 1 | _ => 0) | _ => 0) gl_low (.nil _ _) (.nil _ _ _ _ _) (σ := Nat) [0, 2, 22, 23, 24] (fun i => i ≤ gap l)
    (fun i => [.ptr 0 0, .int .u32 0, .arr 1 0 l.length cap, .int .i64 l.length, .int .i64 i]) (fun _ => hpAI l J cap most) (fun i => l.length - i) 0 (Nat.zero_le _) he hH ?_
  intro i hi
  refine freAI_vc l J cap most i _ ?_
  simp only [br_if, dt]
  by_cases h : i < l.length
  · rw [if_pos (by omega)]
    simp only [toNat_nat, Nat.zero_add]
    rw [flI_at J h]
    refine ⟨⟨by omega, by omega⟩, ?_⟩
    rw [if_pos (by rfl)]
    have e1 : IntKind.wrap .u32 (IntKind.wrap .u32 (i : Int) + 1) = (i : Int) + 1 := by rw [wrap_u32 (n := (i : Int)) (by omega) (by omega), wrap_u32 (by omega) (by omega)]
    rw [e1]
    have hc : cI (csI (l.getD i default) ++ (flI (List.drop (i + 1) l) ++ J)) 0 = (l.getD i default).id := rfl
    rw [hc]
    by_cases c : (l.getD i default).id = (i : Int) + 1
    · rw [if_neg (by simpa using c)]
      have hlt : i < gap l := gap_step hi h c
      exact ⟨i + 1, (show l.length - (i + 1) < l.length - i by omega), hlt, by rw [wI_succ h (by omega)], [_], rfl, Nat.le_refl _, .inr ⟨by
        intro v hv
        simp only [List.mem_cons, List.not_mem_nil, or_false] at hv
        rcases hv with rfl | rfl | rfl | rfl | rfl <;> first | exact .int _ _ | exact .ptr _ _ (by simp [hpAI]) | exact .arr _ _ _ _ (by simp [hpAI]), hpAI_low hJ⟩⟩
    · rw [if_pos (by simpa using c)]
      have hge : gap l = i := gap_stop hi h c
      subst hge
      exact hr h _
  · rw [if_neg (by omega)]
    have hge : gap l = l.length := by omega
    have : i = l.length := by omega
    subst this
    exact hx hge
def frnI_l : LSp := fun e H Q => ∃ (most : Int), SlIs (List.map e [0, 2, 22, 23, 24]) [.ptr 0 0, .int .u32 0, .list [] .exact, .int .i64 0, .int .i64 0] ∧ HpIs H (hpNI most) ∧
  Q (.exit 0) (envS [0, 2, 22, 23, 24] [.ptr 0 0, .int .u32 0, .list [] .exact, .int .i64 0, .int .i64 0]) (hpNI most)
theorem frnI_l_ok : ∀ e H Q, frnI_l e H Q → AW Try.prog gl Try.f22.ntmps (.loop (subOf [1, 1, 0, 1, 0] (bodyOf Try.f22))) Q e H := by
  rintro e H Q ⟨most, he, hH, hQ⟩
  refine aw_loop4 (hn := fun o => match o.op with | .load t _ => (match t with | 109 => 1 | _ => 0) | _ => 0) gl_low (.nil _ _) (.nil _ _ _ _ _) (σ := Unit) [0, 2, 22, 23, 24] (fun _ => True)
    (fun _ => [.ptr 0 0, .int .u32 0, .list [] .exact, .int .i64 0, .int .i64 0]) (fun _ => hpNI most) (fun _ => 0) () trivial he hH ?_
  intro _ _
  exact freNI_vc most _ hQ
theorem uniI (l : List RwI) : uni 1 (idsL l) := by
  intro e he
  obtain ⟨a, _, rfl⟩ := List.mem_map.1 he
  rfl
theorem idsI_take {l : List RwI} {i : Nat} (h : i < l.length) : idsL (l.take (i + 1)) = idsL (l.take i) ++ [[.int .u32 (l.getD i default).id]] := by
  unfold idsL
  rw [← List.take_append_getElem h, List.map_append, getD_eq' h]; rfl
def idsI_l : LSp := fun e H Q => ∃ (l : List RwI) (J : List PV) (cap : Nat) (most : Int), l.length ≤ 1000000 ∧ (∀ y ∈ J, Low 2 y) ∧ SlIs (List.map e [0, 3, 11, 12, 13]) [.ptr 0 0, .list [] .exact, .arr 1 0 l.length cap, .int .i64 l.length, .int .i64 0] ∧ HpIs H (hpAI l J cap most) ∧
  Q (.exit 0) (envS [0, 3, 11, 12, 13] [.ptr 0 0, .list (idsL l) .no, .arr 1 0 l.length cap, .int .i64 l.length, .int .i64 l.length]) (hpAI l J cap most ++ [.dead])
theorem idsI_l_ok : ∀ e H Q, idsI_l e H Q → AW Try.prog gl Try.f19.ntmps (.loop (subOf [1, 1, 0, 1, 0, 1, 0] (bodyOf Try.f19))) Q e H := by
  rintro e H Q ⟨l, J, cap, most, hl, hJ, he, hH, hQ⟩
  have hH2 : H = hpAI l J cap most := hH
  refine aw_grow (f := fun r : RwI => [PV.int .u32 r.id]) (T := l) (hn := fun o => match o.op with | .load t _ => (match t with | 109 => 1 | _ => 0) | _ => match o.dst with | some 21 => 1 | _ => 0) gl_low (.nil _ _) (.nil _ _ _ _ _) [0, 3, 11, 12, 13] (fun r i => [.ptr 0 0, r, .arr 1 0 l.length cap, .int .i64 l.length, .int .i64 i]) (hpAI l J cap most)
    (hpAI_low hJ) (fun b _ x hx => by rcases List.mem_singleton.1 hx with rfl; exact .int _ _)
    (fun es i k h => .same (.ptr _ _ (by simp [hpAI])) (.row h (.same (.arr _ _ _ _ (by simp [hpAI])) (.same (.int _ _) (.same (.int _ _) .nil))))) he hH2 ?_ ?_
  · refine idsAI_vc l J cap most _ ?_
    simp only [br_if, dt]
    by_cases h : 0 < l.length
    · rw [if_pos (by omega)]
      refine ⟨⟨by decide, by omega⟩, ?_⟩
      have e0 := flI_at J h
      rw [Nat.zero_mul] at e0
      rw [e0, if_pos (by rfl)]
      refine ⟨⟨(by intro e he; simp at he), (by intro e he; simp at he; subst he; rfl), by simp⟩, ⟨by rfl, by simp⟩, h, _, 3, rfl, rfl, by simp [hpAI], ?_⟩
      have := idsI_take h
      unfold idsL at this
      rw [this]; rfl
    · rw [if_neg (by omega)]
      have hm : l = [] := List.eq_nil_of_length_eq_zero (by omega)
      subst hm
      exact ⟨_, _, .cons (.refl _) (.cons (.list _ _) (.cons (.refl _) (.cons (.refl _) (.cons (.refl _) .nil)))), pad_dead _, hQ⟩
  · intro i h0 hi
    refine idsBI_vc l J cap most (idsL (l.take i)) i _ ?_
    simp only [br_if, dt, toNat_nat, Nat.zero_add]
    by_cases h : i < l.length
    · rw [if_pos (by omega)]
      refine ⟨⟨by omega, by omega⟩, ?_⟩
      rw [flI_at J h, if_pos (by rfl)]
      refine ⟨⟨uniI _, (by intro e he; simp at he; subst he; rfl), by simp only [idsL, List.length_map, List.length_take, List.length_cons, List.length_nil]; omega⟩, ⟨by rfl, by simp⟩, h, _, 4, rfl, rfl, by simp [hpAI], ?_⟩
      have := idsI_take h
      unfold idsL at this
      rw [this, wI_succ h (by omega)]; rfl
    · rw [if_neg (by omega)]
      have hm : i = l.length := by omega
      subst hm
      rw [List.take_length]
      exact ⟨_, _, .cons (.refl _) (.cons (.list _ _) (.cons (.refl _) (.cons (.refl _) (.cons (.refl _) .nil)))), pad_kill (hpAI l J cap most) .tok, hQ⟩
def idnI_l : LSp := fun e H Q => ∃ (most : Int), SlIs (List.map e [0, 3, 11, 12, 13]) [.ptr 0 0, .list [] .exact, .list [] .exact, .int .i64 0, .int .i64 0] ∧ HpIs H (hpNI most) ∧
  Q (.exit 0) (envS [0, 3, 11, 12, 13] [.ptr 0 0, .list [] .exact, .list [] .exact, .int .i64 0, .int .i64 0]) (hpNI most)
theorem idnI_l_ok : ∀ e H Q, idnI_l e H Q → AW Try.prog gl Try.f19.ntmps (.loop (subOf [1, 1, 0, 1, 0, 1, 0] (bodyOf Try.f19))) Q e H := by
  rintro e H Q ⟨most, he, hH, hQ⟩
  refine aw_loop4 (hn := fun o => match o.op with | .load t _ => (match t with | 109 => 1 | _ => 0) | _ => 0) gl_low (.nil _ _) (.nil _ _ _ _ _) (σ := Unit) [0, 3, 11, 12, 13] (fun _ => True)
    (fun _ => [.ptr 0 0, .list [] .exact, .list [] .exact, .int .i64 0, .int .i64 0]) (fun _ => hpNI most) (fun _ => 0) () trivial he hH ?_
  intro _ _
  exact idsNI_vc most _ hQ
theorem feeAI_red (l : List RwI) (J : List PV) (cap : Nat) (most : Int) (K : PV → Heap → Prop) : (br (decide ((↑(List.length l) : Int) ≥ most)) (K (PV.int IntKind.u32 0) [Ob.cells [PV.arr 1 0 (List.length l) cap, PV.int IntKind.i64 most], Ob.cells (flI l ++ J)]) (∃ (l_1 : List RwI), ∃ (J_1 : List PV), ∃ (cap_1 : Nat), ∃ (most_1 : Int), List.length l_1 ≤ 1000000 ∧ (∀ (y : PV), y ∈ J_1 → Low 2 y) ∧ SlIs [PV.ptr 0 0, PV.int IntKind.u32 0, PV.arr 1 0 (List.length l) cap, PV.int IntKind.i64 (↑(List.length l) : Int), PV.int IntKind.i64 0] [PV.ptr 0 0, PV.int IntKind.u32 0, PV.arr 1 0 (List.length l_1) cap_1, PV.int IntKind.i64 (↑(List.length l_1) : Int), PV.int IntKind.i64 0] ∧ HpIs [Ob.cells [PV.arr 1 0 (List.length l) cap, PV.int IntKind.i64 most], Ob.cells (flI l ++ J)] [Ob.cells [PV.arr 1 0 (List.length l_1) cap_1, PV.int IntKind.i64 most_1], Ob.cells (flI l_1 ++ J_1)] ∧ (gap l_1 < List.length l_1 → ∀ (ob : Ob), K (PV.int IntKind.u32 ((↑(gap l_1) : Int) + 1)) [Ob.cells [PV.arr 1 0 (List.length l_1) cap_1, PV.int IntKind.i64 most_1], Ob.cells (flI l_1 ++ J_1), ob]) ∧ (gap l_1 = List.length l_1 → K (PV.int IntKind.u32 (IntKind.wrap IntKind.u32 (IntKind.wrap IntKind.u32 (↑(List.length l_1) : Int) + 1))) [Ob.cells [PV.arr 1 0 (List.length l_1) cap_1, PV.int IntKind.i64 most_1], Ob.cells (flI l_1 ++ J_1)]))) = wpc br Try.prog gl [] [([1, 1, 0, 1, 0], freI_l)] (fun o => match o.op with | .load t _ => (match t with | 109 => 1 | _ => 0) | _ => 0) (bodyOf Try.f22) [] (env0 [.ptr 0 0]) [.cells [.arr 1 0 l.length cap, .int .i64 most], .cells (flI l ++ J)] (resQ Try.prog Try.f22.results.toList K) := by kernel_rfl
theorem feeAI_vc (l : List RwI) (J : List PV) (cap : Nat) (most : Int)  (K : PV → Heap → Prop) (h : br (decide ((↑(List.length l) : Int) ≥ most)) (K (PV.int IntKind.u32 0) [Ob.cells [PV.arr 1 0 (List.length l) cap, PV.int IntKind.i64 most], Ob.cells (flI l ++ J)]) (∃ (l_1 : List RwI), ∃ (J_1 : List PV), ∃ (cap_1 : Nat), ∃ (most_1 : Int), List.length l_1 ≤ 1000000 ∧ (∀ (y : PV), y ∈ J_1 → Low 2 y) ∧ SlIs [PV.ptr 0 0, PV.int IntKind.u32 0, PV.arr 1 0 (List.length l) cap, PV.int IntKind.i64 (↑(List.length l) : Int), PV.int IntKind.i64 0] [PV.ptr 0 0, PV.int IntKind.u32 0, PV.arr 1 0 (List.length l_1) cap_1, PV.int IntKind.i64 (↑(List.length l_1) : Int), PV.int IntKind.i64 0] ∧ HpIs [Ob.cells [PV.arr 1 0 (List.length l) cap, PV.int IntKind.i64 most], Ob.cells (flI l ++ J)] [Ob.cells [PV.arr 1 0 (List.length l_1) cap_1, PV.int IntKind.i64 most_1], Ob.cells (flI l_1 ++ J_1)] ∧ (gap l_1 < List.length l_1 → ∀ (ob : Ob), K (PV.int IntKind.u32 ((↑(gap l_1) : Int) + 1)) [Ob.cells [PV.arr 1 0 (List.length l_1) cap_1, PV.int IntKind.i64 most_1], Ob.cells (flI l_1 ++ J_1), ob]) ∧ (gap l_1 = List.length l_1 → K (PV.int IntKind.u32 (IntKind.wrap IntKind.u32 (IntKind.wrap IntKind.u32 (↑(List.length l_1) : Int) + 1))) [Ob.cells [PV.arr 1 0 (List.length l_1) cap_1, PV.int IntKind.i64 most_1], Ob.cells (flI l_1 ++ J_1)]))) : ACalls Try.prog gl 22 [.ptr 0 0] [.cells [.arr 1 0 l.length cap, .int .i64 most], .cells (flI l ++ J)] K :=
  acalls_of_wpc2 (T := []) (L := [([1, 1, 0, 1, 0], freI_l)]) (fun o => match o.op with | .load t _ => (match t with | 109 => 1 | _ => 0) | _ => 0) Try.func22 (by kernel_rfl) (by kernel_rfl) (by kernel_rfl) (TabOk.nil _ _) (.cons (sub_of (by kernel_rfl)) freI_l_ok (.nil _ _ _ _ _)) (holds_of_eq (feeAI_red l J cap most K) h)
theorem ideAI_red (l : List RwI) (J : List PV) (cap : Nat) (most : Int) (K : PV → Heap → Prop) : (∃ (l_1 : List RwI), ∃ (J_1 : List PV), ∃ (cap_1 : Nat), ∃ (most_1 : Int), List.length l_1 ≤ 1000000 ∧ (∀ (y : PV), y ∈ J_1 → Low 2 y) ∧ SlIs [PV.ptr 0 0, PV.list [] Tail.exact, PV.arr 1 0 (List.length l) cap, PV.int IntKind.i64 (↑(List.length l) : Int), PV.int IntKind.i64 0] [PV.ptr 0 0, PV.list [] Tail.exact, PV.arr 1 0 (List.length l_1) cap_1, PV.int IntKind.i64 (↑(List.length l_1) : Int), PV.int IntKind.i64 0] ∧ HpIs [Ob.cells [PV.arr 1 0 (List.length l) cap, PV.int IntKind.i64 most], Ob.cells (flI l ++ J)] [Ob.cells [PV.arr 1 0 (List.length l_1) cap_1, PV.int IntKind.i64 most_1], Ob.cells (flI l_1 ++ J_1)] ∧ K (PV.list (idsL l_1) Tail.no) [Ob.cells [PV.arr 1 0 (List.length l_1) cap_1, PV.int IntKind.i64 most_1], Ob.cells (flI l_1 ++ J_1), Ob.dead]) = wpc br Try.prog gl [] [([1, 1, 0, 1, 0, 1, 0], idsI_l)] (fun o => match o.op with | .load t _ => (match t with | 109 => 1 | _ => 0) | _ => 0) (bodyOf Try.f19) [] (env0 [.ptr 0 0]) [.cells [.arr 1 0 l.length cap, .int .i64 most], .cells (flI l ++ J)] (resQ Try.prog Try.f19.results.toList K) := by kernel_rfl
theorem ideAI_vc (l : List RwI) (J : List PV) (cap : Nat) (most : Int)  (K : PV → Heap → Prop) (h : ∃ (l_1 : List RwI), ∃ (J_1 : List PV), ∃ (cap_1 : Nat), ∃ (most_1 : Int), List.length l_1 ≤ 1000000 ∧ (∀ (y : PV), y ∈ J_1 → Low 2 y) ∧ SlIs [PV.ptr 0 0, PV.list [] Tail.exact, PV.arr 1 0 (List.length l) cap, PV.int IntKind.i64 (↑(List.length l) : Int), PV.int IntKind.i64 0] [PV.ptr 0 0, PV.list [] Tail.exact, PV.arr 1 0 (List.length l_1) cap_1, PV.int IntKind.i64 (↑(List.length l_1) : Int), PV.int IntKind.i64 0] ∧ HpIs [Ob.cells [PV.arr 1 0 (List.length l) cap, PV.int IntKind.i64 most], Ob.cells (flI l ++ J)] [Ob.cells [PV.arr 1 0 (List.length l_1) cap_1, PV.int IntKind.i64 most_1], Ob.cells (flI l_1 ++ J_1)] ∧ K (PV.list (idsL l_1) Tail.no) [Ob.cells [PV.arr 1 0 (List.length l_1) cap_1, PV.int IntKind.i64 most_1], Ob.cells (flI l_1 ++ J_1), Ob.dead]) : ACalls Try.prog gl 19 [.ptr 0 0] [.cells [.arr 1 0 l.length cap, .int .i64 most], .cells (flI l ++ J)] K :=
  acalls_of_wpc2 (T := []) (L := [([1, 1, 0, 1, 0, 1, 0], idsI_l)]) (fun o => match o.op with | .load t _ => (match t with | 109 => 1 | _ => 0) | _ => 0) Try.func19 (by kernel_rfl) (by kernel_rfl) (by kernel_rfl) (TabOk.nil _ _) (.cons (sub_of (by kernel_rfl)) idsI_l_ok (.nil _ _ _ _ _)) (holds_of_eq (ideAI_red l J cap most K) h)
theorem feeNI_red (most : Int) (K : PV → Heap → Prop) : (br (decide (0 ≥ most)) (K (PV.int IntKind.u32 0) [Ob.cells [PV.list [] Tail.exact, PV.int IntKind.i64 most]]) (∃ (most_1 : Int), SlIs [PV.ptr 0 0, PV.int IntKind.u32 0, PV.list [] Tail.exact, PV.int IntKind.i64 0, PV.int IntKind.i64 0] [PV.ptr 0 0, PV.int IntKind.u32 0, PV.list [] Tail.exact, PV.int IntKind.i64 0, PV.int IntKind.i64 0] ∧ HpIs [Ob.cells [PV.list [] Tail.exact, PV.int IntKind.i64 most]] [Ob.cells [PV.list [] Tail.exact, PV.int IntKind.i64 most_1]] ∧ K (PV.int IntKind.u32 1) [Ob.cells [PV.list [] Tail.exact, PV.int IntKind.i64 most_1]])) = wpc br Try.prog gl [] [([1, 1, 0, 1, 0], frnI_l)] (fun o => match o.op with | .load t _ => (match t with | 109 => 1 | _ => 0) | _ => 0) (bodyOf Try.f22) [] (env0 [.ptr 0 0]) [.cells [.list [] .exact, .int .i64 most]] (resQ Try.prog Try.f22.results.toList K) := by kernel_rfl
theorem feeNI_vc (most : Int)  (K : PV → Heap → Prop) (h : br (decide (0 ≥ most)) (K (PV.int IntKind.u32 0) [Ob.cells [PV.list [] Tail.exact, PV.int IntKind.i64 most]]) (∃ (most_1 : Int), SlIs [PV.ptr 0 0, PV.int IntKind.u32 0, PV.list [] Tail.exact, PV.int IntKind.i64 0, PV.int IntKind.i64 0] [PV.ptr 0 0, PV.int IntKind.u32 0, PV.list [] Tail.exact, PV.int IntKind.i64 0, PV.int IntKind.i64 0] ∧ HpIs [Ob.cells [PV.list [] Tail.exact, PV.int IntKind.i64 most]] [Ob.cells [PV.list [] Tail.exact, PV.int IntKind.i64 most_1]] ∧ K (PV.int IntKind.u32 1) [Ob.cells [PV.list [] Tail.exact, PV.int IntKind.i64 most_1]])) : ACalls Try.prog gl 22 [.ptr 0 0] [.cells [.list [] .exact, .int .i64 most]] K :=
  acalls_of_wpc2 (T := []) (L := [([1, 1, 0, 1, 0], frnI_l)]) (fun o => match o.op with | .load t _ => (match t with | 109 => 1 | _ => 0) | _ => 0) Try.func22 (by kernel_rfl) (by kernel_rfl) (by kernel_rfl) (TabOk.nil _ _) (.cons (sub_of (by kernel_rfl)) frnI_l_ok (.nil _ _ _ _ _)) (holds_of_eq (feeNI_red most K) h)
theorem ideNI_red (most : Int) (K : PV → Heap → Prop) : (∃ (most_1 : Int), SlIs [PV.ptr 0 0, PV.list [] Tail.exact, PV.list [] Tail.exact, PV.int IntKind.i64 0, PV.int IntKind.i64 0] [PV.ptr 0 0, PV.list [] Tail.exact, PV.list [] Tail.exact, PV.int IntKind.i64 0, PV.int IntKind.i64 0] ∧ HpIs [Ob.cells [PV.list [] Tail.exact, PV.int IntKind.i64 most]] [Ob.cells [PV.list [] Tail.exact, PV.int IntKind.i64 most_1]] ∧ K (PV.list [] Tail.exact) [Ob.cells [PV.list [] Tail.exact, PV.int IntKind.i64 most_1]]) = wpc br Try.prog gl [] [([1, 1, 0, 1, 0, 1, 0], idnI_l)] (fun o => match o.op with | .load t _ => (match t with | 109 => 1 | _ => 0) | _ => 0) (bodyOf Try.f19) [] (env0 [.ptr 0 0]) [.cells [.list [] .exact, .int .i64 most]] (resQ Try.prog Try.f19.results.toList K) := by kernel_rfl
theorem ideNI_vc (most : Int)  (K : PV → Heap → Prop) (h : ∃ (most_1 : Int), SlIs [PV.ptr 0 0, PV.list [] Tail.exact, PV.list [] Tail.exact, PV.int IntKind.i64 0, PV.int IntKind.i64 0] [PV.ptr 0 0, PV.list [] Tail.exact, PV.list [] Tail.exact, PV.int IntKind.i64 0, PV.int IntKind.i64 0] ∧ HpIs [Ob.cells [PV.list [] Tail.exact, PV.int IntKind.i64 most]] [Ob.cells [PV.list [] Tail.exact, PV.int IntKind.i64 most_1]] ∧ K (PV.list [] Tail.exact) [Ob.cells [PV.list [] Tail.exact, PV.int IntKind.i64 most_1]]) : ACalls Try.prog gl 19 [.ptr 0 0] [.cells [.list [] .exact, .int .i64 most]] K :=
  acalls_of_wpc2 (T := []) (L := [([1, 1, 0, 1, 0, 1, 0], idnI_l)]) (fun o => match o.op with | .load t _ => (match t with | 109 => 1 | _ => 0) | _ => 0) Try.func19 (by kernel_rfl) (by kernel_rfl) (by kernel_rfl) (TabOk.nil _ _) (.cons (sub_of (by kernel_rfl)) idnI_l_ok (.nil _ _ _ _ _)) (holds_of_eq (ideNI_red most K) h)
theorem drEI {l : List RwI} {most t : Int} {hh : Heap} (hH : EXI l most hh) (ok : Ok l most) : ACalls Try.prog gl 34 [.ptr 0 0, .int .u32 t] hh (fun x H' => x = .tup [(let v := getR l t; .int .i64 v), .bool (has l t)] ∧ RestOf (EXI (dropL l t) most) H') := by
  have hfull := ok.len
  rcases hH with ⟨J, cap, rfl, hc, hJ⟩ | ⟨rfl, rfl⟩
  · refine droAI_vc l J cap most t _ ⟨l, most, t, rfl, EXI_A hc hJ, ok, ?_⟩
    simp only [br_if]
    unfold dropL
    by_cases c : has l t = true
    · obtain ⟨c1, c2⟩ := has_lt c
      rw [if_pos c, if_pos c]
      refine ⟨l, most, t, rfl, EXI_A hc hJ, ok, l, J, cap, most, lbp l t, (by show _ = _; rw [wI_succ c1 (by omega)]), rfl, c1, ok.len, hc, hJ, by first | rfl | trivial, ?_⟩
      have hle : l.length - 1 = (l.eraseIdx (lbp l t)).length := by rw [List.length_eraseIdx_of_lt c1]
      rw [hle]
      exact left_AI (k := 0) rfl (by omega) (((zrI_room 1).app hJ |> fun h => by
        simp only [List.replicate, List.flatten_cons, List.flatten_nil, List.append_nil] at h
        exact h.cast (by omega)))
    · rw [if_neg c, if_neg c]
      exact ⟨by first | rfl | trivial, left_EXI (EXI_A hc hJ)⟩
  · refine droNI_vc most t _ ⟨[], most, t, rfl, EXI_N, ok, ?_⟩
    exact ⟨rfl, left_NI⟩
theorem nexEI {l : List RwI} {most t : Int} {hh : Heap} (hH : EXI l most hh) (ok : Ok l most) : ACalls Try.prog gl 36 [.ptr 0 0, .int .u32 t] hh (fun x H' => x = .tup [.int .u32 (nextI l t), .bool (nextB l t)] ∧ RestOf (EXI l most) H') := by
  have hfull := ok.len
  have hlb := lbp_le l t
  rcases hH with ⟨J, cap, rfl, hc, hJ⟩ | ⟨rfl, rfl⟩
  · refine nexAI_vc l J cap most t _ ⟨l, most, t, rfl, EXI_A hc hJ, ok, ?_⟩
    have hend := left_EXI (EXI_A (most := most) hc hJ)
    have key : ∀ k : Nat, k = nextK l t → k ≤ l.length → (if ((k : Int) == (l.length : Int)) = true then (PV.tup [.int .u32 0, .bool false] = .tup [.int .u32 (nextI l t), .bool (nextB l t)] ∧ RestOf (EXI l most) (hpAI l J cap most))
        else ((0 ≤ (k : Int) ∧ (k : Int) < (l.length : Int)) ∧ if (true && fitX [CK.int .u32] 0 (List.drop (0 + Int.toNat (k : Int) * 2 + 0) (flI l ++ J))) = true then (PV.tup [.int .u32 (cI (List.drop (0 + Int.toNat (k : Int) * 2 + 0) (flI l ++ J)) 0), .bool true] = .tup [.int .u32 (nextI l t), .bool (nextB l t)] ∧ RestOf (EXI l most) (hpAI l J cap most)) else False)) := by
      intro k hk hkl
      unfold nextI nextB
      rw [← hk]
      by_cases h : k = l.length
      · rw [if_pos (by simp [h]), if_pos h, decide_eq_false (by simpa using h)]
        exact ⟨rfl, hend⟩
      · rw [if_neg (by simp; omega), if_neg h, decide_eq_true h]
        simp only [toNat_nat, Nat.zero_add, Nat.add_zero]
        rw [flI_at J (by omega)]
        refine ⟨⟨by omega, by omega⟩, ?_⟩
        rw [if_pos (by rfl)]
        exact ⟨rfl, hend⟩
    simp only [br_if]
    by_cases c : has l t = true
    · obtain ⟨c1, c2⟩ := has_lt c
      rw [if_pos c, wI_succ c1 (by omega)]
      exact key _ (by unfold nextK; rw [if_pos c]) c1
    · rw [if_neg c]
      exact key _ (by unfold nextK; rw [if_neg c]) hlb
  · exact nexNI_vc most t _ ⟨[], most, t, rfl, EXI_N, ok, rfl, left_NI⟩
theorem lenEI {l : List RwI} {most : Int} {hh : Heap} (hH : EXI l most hh) : ACalls Try.prog gl 21 [.ptr 0 0] hh (fun x H' => x = .int .i64 l.length ∧ RestOf (EXI l most) H') := by
  rcases hH with ⟨J, cap, rfl, hc, hJ⟩ | ⟨rfl, rfl⟩
  · exact lenAI_vc l J cap most _ ⟨rfl, left_EXI (EXI_A hc hJ)⟩
  · exact lenNI_vc most _ ⟨rfl, left_NI⟩
theorem mosEI {l : List RwI} {most : Int} {hh : Heap} (hH : EXI l most hh) : ACalls Try.prog gl 40 [.ptr 0 0] hh (fun x H' => x = .int .i64 most ∧ RestOf (EXI l most) H') := by
  rcases hH with ⟨J, cap, rfl, hc, hJ⟩ | ⟨rfl, rfl⟩
  · exact mosAI_vc l J cap most _ ⟨rfl, left_EXI (EXI_A hc hJ)⟩
  · exact mosNI_vc most _ ⟨rfl, left_NI⟩
theorem freEI {l : List RwI} {most : Int} {hh : Heap} (hH : EXI l most hh) (ok : Ok l most) : ACalls Try.prog gl 22 [.ptr 0 0] hh (fun x H' => x = .int .u32 (freeL l most) ∧ RestOf (EXI l most) H') := by
  have hfull := ok.len
  unfold freeL
  rcases hH with ⟨J, cap, rfl, hc, hJ⟩ | ⟨rfl, rfl⟩
  · refine feeAI_vc l J cap most _ ?_
    simp only [br_if]
    by_cases c : (l.length : Int) ≥ most
    · rw [if_pos (decide_eq_true c), if_pos c]
      exact ⟨rfl, left_EXI (EXI_A hc hJ)⟩
    · rw [if_neg (by simpa using c), if_neg c]
      refine ⟨l, J, cap, most, ok.len, low2 hJ, rfl, rfl, fun _ ob => ⟨by trivial, left_AI (k := 0) rfl hc hJ⟩, fun hg => ⟨?_, left_AI (k := 0) rfl hc hJ⟩⟩
      rw [wrap_u32 (n := (l.length : Int)) (by omega) (by omega), wrap_u32 (by omega) (by omega), hg]
  · refine feeNI_vc most _ ?_
    simp only [br_if]
    by_cases c : 0 ≥ most
    · rw [if_pos (decide_eq_true c), if_pos (by simpa using c)]
      exact ⟨rfl, left_NI⟩
    · rw [if_neg (by simpa using c), if_neg (by simpa using c)]
      exact ⟨most, rfl, rfl, by trivial, left_NI⟩
theorem idsEI {l : List RwI} {most : Int} {hh : Heap} (hH : EXI l most hh) (ok : Ok l most) : ACalls Try.prog gl 19 [.ptr 0 0] hh (fun x H' => x = .list (idsL l) .no ∧ RestOf (EXI l most) H') := by
  rcases hH with ⟨J, cap, rfl, hc, hJ⟩ | ⟨rfl, rfl⟩
  · exact ideAI_vc l J cap most _ ⟨l, J, cap, most, ok.len, low2 hJ, rfl, rfl, rfl, left_AI (k := 0) rfl hc hJ⟩
  · exact acalls_wkout (ideNI_vc most _ ⟨most, rfl, rfl, _, _, .list _ _, .refl _, rfl, left_NI⟩)
-- amid other objects
theorem lowvI (v : Int) : Low 0 (.int .i64 v) := by first | exact .int _ _ | exact .str _ | (refine .agg _ ?_; intro y hy; simp only [List.mem_cons, List.not_mem_nil, or_false] at hy; rcases hy with rfl <;> first | exact .int _ _ | exact .str _)
theorem low_tupvI (v : Int) (b : Bool) : Low 0 (.tup [.int .i64 v, .bool b]) := .tup _ (by intro y hy; simp only [List.mem_cons, List.not_mem_nil, or_false] at hy; rcases hy with rfl | rfl; exact lowvI v; exact .bool _)
def getI_s (args : List PV) (H : Heap) (K : PV → Prop) : Prop := ∃ (q : Nat) (l : List RwI) (most t : Int), SlIs args [.ptr q 0, .int .u32 t] ∧ AbIs H q (rkI l most) ∧ Ok l most ∧ K (.tup [(let v := getR l t; .int .i64 v), .bool (has l t)])
theorem getI_ok : SpOk Try.prog gl 29 (.read getI_s) := by
  rintro args H K ⟨q, l, most, t, he, ha, ok, hk⟩
  have he : args = _ := he
  subst he
  refine ⟨_, meth_read gl_low ha low0_int (low_tupvI _ _) (fun hh h => ?_), hk⟩
  obtain ⟨r, h1, h2⟩ := geEI_ok _ hh (fun x => x = .tup [(let v := getR l t; .int .i64 v), .bool (has l t)]) ⟨l, most, t, rfl, h, ok, rfl⟩
  exact acalls_to h1 fun x H' e => ⟨e.1.trans h2, e.2 ▸ left_EXI h⟩
def putI_s (args : List PV) (H : Heap) (K : PV → Heap → Prop) : Prop := match args with
  | .ptr q 0 :: rest => ∃ (l : List RwI) (most t : Int) (v : Int), SlIs rest [.int .u32 t, .int .i64 v] ∧ AbIs H q (rkI l most) ∧ Ok l most ∧ K (.int .i64 (putL l most t v).2) (H.set q (.abs (rkI (putL l most t v).1 most)))
  | _ => False
theorem putI_ok : SpOk Try.prog gl 31 (.heap putI_s) := by
  intro args H K h
  unfold putI_s at h
  split at h
  · rename_i q rest
    obtain ⟨l, most, t, v, he, ha, ok, hk⟩ := h
    have he : rest = _ := he
    subst he
    refine meth_heap gl_low ha (by intro y hy; simp only [List.mem_cons, List.not_mem_nil, or_false] at hy; rcases hy with rfl | rfl; exact .int _ _; exact lowvI v) (.int _ _) (fun hh h => ?_) hk
    exact puEI_ok _ hh _ ⟨l, most, t, v, rfl, h, ok, fun H' h' => ⟨rfl, h'⟩⟩
  · exact h.elim
def newI_s (args : List PV) (H : Heap) (K : PV → Heap → Prop) : Prop := ∃ n : Int, SlIs args [.int .i64 n] ∧ K (.ptr H.length 0) (H ++ [.abs (rkI [] (mxI 0 n))])
theorem newI_ok : SpOk Try.prog gl 18 (.heap newI_s) := by
  rintro args H K ⟨n, he, hk⟩
  have he : args = _ := he
  subst he
  exact acalls_to (make_left gl_low low0_int (newI_vc n _ ⟨rfl, left_NI⟩)) fun _ _ e => e.1 ▸ e.2 ▸ hk
def nexI_s (args : List PV) (H : Heap) (K : PV → Prop) : Prop := ∃ (q : Nat) (l : List RwI) (most t : Int), SlIs args [.ptr q 0, .int .u32 t] ∧ AbIs H q (rkI l most) ∧ Ok l most ∧ K (.tup [.int .u32 (nextI l t), .bool (nextB l t)])
theorem nexI_ok : SpOk Try.prog gl 36 (.read nexI_s) := by
  rintro args H K ⟨q, l, most, t, he, ha, ok, hk⟩
  have he : args = _ := he
  subst he
  exact ⟨_, meth_read gl_low ha low0_int (.tup _ (by intro y hy; simp only [List.mem_cons, List.not_mem_nil, or_false] at hy; rcases hy with rfl | rfl; exact .int _ _; exact .bool _)) (fun hh h => nexEI h ok), hk⟩
def lenI_s (args : List PV) (H : Heap) (K : PV → Prop) : Prop := ∃ (q : Nat) (l : List RwI) (most : Int), SlIs args [.ptr q 0] ∧ AbIs H q (rkI l most) ∧ K (.int .i64 l.length)
theorem lenI_ok : SpOk Try.prog gl 21 (.read lenI_s) := by
  rintro args H K ⟨q, l, most, he, ha, hk⟩
  have he : args = _ := he
  subst he
  exact ⟨_, meth_read gl_low ha low0_nil (.int _ _) (fun hh h => lenEI h), hk⟩
def mosI_s (args : List PV) (H : Heap) (K : PV → Prop) : Prop := ∃ (q : Nat) (l : List RwI) (most : Int), SlIs args [.ptr q 0] ∧ AbIs H q (rkI l most) ∧ K (.int .i64 most)
theorem mosI_ok : SpOk Try.prog gl 40 (.read mosI_s) := by
  rintro args H K ⟨q, l, most, he, ha, hk⟩
  have he : args = _ := he
  subst he
  exact ⟨_, meth_read gl_low ha low0_nil (.int _ _) (fun hh h => mosEI h), hk⟩
def freI_s (args : List PV) (H : Heap) (K : PV → Prop) : Prop := ∃ (q : Nat) (l : List RwI) (most : Int), SlIs args [.ptr q 0] ∧ AbIs H q (rkI l most) ∧ Ok l most ∧ K (.int .u32 (freeL l most))
theorem freI_ok : SpOk Try.prog gl 22 (.read freI_s) := by
  rintro args H K ⟨q, l, most, he, ha, ok, hk⟩
  have he : args = _ := he
  subst he
  exact ⟨_, meth_read gl_low ha low0_nil (.int _ _) (fun hh h => freEI h ok), hk⟩
def idsI_s (args : List PV) (H : Heap) (K : PV → Prop) : Prop := ∃ (q : Nat) (l : List RwI) (most : Int), SlIs args [.ptr q 0] ∧ AbIs H q (rkI l most) ∧ Ok l most ∧ K (.list (idsL l) .no)
theorem low_idsI (l : List RwI) : Low 0 (.list (idsL l) .no) := low_list NT.no (by
  intro x hx
  obtain ⟨c, h1, h2⟩ := List.mem_flatten.1 hx
  obtain ⟨r, _, rfl⟩ := List.mem_map.1 h1
  rcases List.mem_singleton.1 h2 with rfl
  exact .int _ _)
theorem idsI_ok : SpOk Try.prog gl 19 (.read idsI_s) := by
  rintro args H K ⟨q, l, most, he, ha, ok, hk⟩
  have he : args = _ := he
  subst he
  exact ⟨_, meth_read gl_low ha low0_nil (low_idsI l) (fun hh h => idsEI h ok), hk⟩
def droI_s (args : List PV) (H : Heap) (K : PV → Heap → Prop) : Prop := match args with
  | .ptr q 0 :: rest => ∃ (l : List RwI) (most t : Int), SlIs rest [.int .u32 t] ∧ AbIs H q (rkI l most) ∧ Ok l most ∧ K (.tup [(let v := getR l t; .int .i64 v), .bool (has l t)]) (H.set q (.abs (rkI (dropL l t) most)))
  | _ => False
theorem droI_ok : SpOk Try.prog gl 34 (.heap droI_s) := by
  intro args H K h
  unfold droI_s at h
  split at h
  · rename_i q rest
    obtain ⟨l, most, t, he, ha, ok, hk⟩ := h
    have he : rest = _ := he
    subst he
    exact meth_heap gl_low ha low0_int (low_tupvI _ _) (fun hh h => drEI h ok) hk
  · exact h.elim
def TQI : Tab := [(29, .read getI_s), (31, .heap putI_s)]
theorem TQI_ok : TabOk Try.prog gl TQI := .cons getI_ok (.cons putI_ok (.nil _ _))
theorem addI_red (H : Heap) (q : Nat) (t : Int) (v : Int) (K : PV → Heap → Prop) : (∃ (q_1 : Nat), ∃ (l : List RwI), ∃ (most : Int), ∃ (t_1 : Int), SlIs [PV.ptr q 0, PV.int IntKind.u32 t] [PV.ptr q_1 0, PV.int IntKind.u32 t_1] ∧ AbIs H q_1 (rkI l most) ∧ Ok l most ∧ br (has l t_1) (K (PV.int IntKind.i64 11) H) (∃ (l : List RwI), ∃ (most : Int), ∃ (t_2 : Int), ∃ (v_1 : Int), SlIs [PV.int IntKind.u32 t, PV.int IntKind.i64 v] [PV.int IntKind.u32 t_2, PV.int IntKind.i64 v_1] ∧ AbIs H q (rkI l most) ∧ Ok l most ∧ K (PV.int IntKind.i64 (Prod.snd (putL l most t_2 v_1))) (List.set H q (Ob.abs (rkI (Prod.fst (putL l most t_2 v_1)) most))))) = wpc br Try.prog gl TQI [] (fun _ => 0) (bodyOf Try.f20) [] (env0 [.ptr q 0, .int .u32 t, .int .i64 v]) H (resQ Try.prog Try.f20.results.toList K) := by kernel_rfl
theorem addI_vc (H : Heap) (q : Nat) (t : Int) (v : Int)  (K : PV → Heap → Prop) (h : ∃ (q_1 : Nat), ∃ (l : List RwI), ∃ (most : Int), ∃ (t_1 : Int), SlIs [PV.ptr q 0, PV.int IntKind.u32 t] [PV.ptr q_1 0, PV.int IntKind.u32 t_1] ∧ AbIs H q_1 (rkI l most) ∧ Ok l most ∧ br (has l t_1) (K (PV.int IntKind.i64 11) H) (∃ (l : List RwI), ∃ (most : Int), ∃ (t_2 : Int), ∃ (v_1 : Int), SlIs [PV.int IntKind.u32 t, PV.int IntKind.i64 v] [PV.int IntKind.u32 t_2, PV.int IntKind.i64 v_1] ∧ AbIs H q (rkI l most) ∧ Ok l most ∧ K (PV.int IntKind.i64 (Prod.snd (putL l most t_2 v_1))) (List.set H q (Ob.abs (rkI (Prod.fst (putL l most t_2 v_1)) most))))) : ACalls Try.prog gl 20 [.ptr q 0, .int .u32 t, .int .i64 v] H K :=
  acalls_of_wpc2 (T := TQI) (L := []) (fun _ => 0) Try.func20 (by kernel_rfl) (by kernel_rfl) (by kernel_rfl) (TQI_ok) (LOk.nil _ _ _ _ _) (holds_of_eq (addI_red H q t v K) h)
def addI_s (args : List PV) (H : Heap) (K : PV → Heap → Prop) : Prop := match args with
  | .ptr q 0 :: rest => ∃ (l : List RwI) (most t : Int) (v : Int), SlIs rest [.int .u32 t, .int .i64 v] ∧ AbIs H q (rkI l most) ∧ Ok l most ∧ K (.int .i64 (addL l most t v).2) (H.set q (.abs (rkI (addL l most t v).1 most)))
  | _ => False
theorem addI_ok : SpOk Try.prog gl 20 (.heap addI_s) := by
  intro args H K h
  unfold addI_s at h
  split at h
  · rename_i q rest
    obtain ⟨l, most, t, v, he, ha, ok, hk⟩ := h
    have he : rest = _ := he
    subst he
    refine addI_vc H q t v K ⟨q, l, most, t, rfl, ha, ok, ?_⟩
    unfold addL at hk
    rw [br_if]
    by_cases c : has l t = true
    · rw [if_pos c]
      rw [if_pos c, set_same ha] at hk
      exact hk
    · rw [if_neg c]
      rw [if_neg c] at hk
      exact ⟨l, most, t, v, rfl, ha, ok, hk⟩
  · exact h.elim
/-- all methods of a rack, ahead of others -/
def TMI (T : Tab) : Tab := (29, .read getI_s) :: (31, .heap putI_s) :: (20, .heap addI_s) :: (34, .heap droI_s) :: (36, .read nexI_s) :: (22, .read freI_s) :: (19, .read idsI_s) :: (21, .read lenI_s) :: (40, .read mosI_s) :: (18, .heap newI_s) :: T
theorem TMI_ok {T : Tab} (h : TabOk Try.prog gl T) : TabOk Try.prog gl (TMI T) := (.cons getI_ok (.cons putI_ok (.cons addI_ok (.cons droI_ok (.cons nexI_ok (.cons freI_ok (.cons idsI_ok (.cons lenI_ok (.cons mosI_ok (.cons newI_ok h))))))))))
end Go.Proofs.Ytcmknbanojcbaaa
