/-
  The rack of bytes: its methods, amid other objects.
-/
import Derived.Test.YtcmknbanojcbaaaKb
import Derived.Test.YtcmknbanojcbaaaProg
namespace Go.Proofs.Ytcmknbanojcbaaa
open Go Go.AM Go.Proofs
def TDB : Tab := (62, .heap delB_s) :: TGB
theorem TDB_ok : TabOk Try.prog gl TDB := .cons delB_ok TGB_ok
theorem droAB_red (l : List RwB) (J : List PV) (cap : Nat) (most : Int) (t : Int) (K : PV → Heap → Prop) : (∃ (l_1 : List RwB), ∃ (most_1 : Int), ∃ (t_1 : Int), SlIs [PV.ptr 0 0, PV.int IntKind.u32 t] [PV.ptr 0 0, PV.int IntKind.u32 t_1] ∧ EXB l_1 most_1 [Ob.cells [PV.arr 1 0 (List.length l) cap, PV.int IntKind.i64 most], Ob.cells (flB l ++ J)] ∧ Ok l_1 most_1 ∧ br (has l_1 t_1) (∃ (l_2 : List RwB), ∃ (most_2 : Int), ∃ (t_2 : Int), SlIs [PV.ptr 0 0, PV.int IntKind.u32 t] [PV.ptr 0 0, PV.int IntKind.u32 t_2] ∧ EXB l_2 most_2 [Ob.cells [PV.arr 1 0 (List.length l) cap, PV.int IntKind.i64 most], Ob.cells (flB l ++ J)] ∧ Ok l_2 most_2 ∧ ∃ (l_3 : List RwB), ∃ (J_1 : List PV), ∃ (cap_1 : Nat), ∃ (most_3 : Int), ∃ (p : Nat), SlIs [PV.arr 1 0 (List.length l) cap, PV.int IntKind.i64 (↑(lbp l_2 t_2) : Int), PV.int IntKind.i64 (wI ((↑(lbp l_2 t_2) : Int) + 1))] [PV.arr 1 0 (List.length l_3) cap_1, PV.int IntKind.i64 (↑p : Int), PV.int IntKind.i64 (↑(p + 1) : Int)] ∧ HpIs [Ob.cells [PV.arr 1 0 (List.length l) cap, PV.int IntKind.i64 most], Ob.cells (flB l ++ J)] [Ob.cells [PV.arr 1 0 (List.length l_3) cap_1, PV.int IntKind.i64 most_3], Ob.cells (flB l_3 ++ J_1)] ∧ p < List.length l_3 ∧ List.length l_3 ≤ 1000000 ∧ List.length l_3 ≤ cap_1 ∧ Room J_1 ((cap_1 - List.length l_3) * 2) ∧ K (PV.tup [PV.int IntKind.u8 (getR l_1 t_1), PV.bool (has l_1 t_1)]) [Ob.cells [PV.arr 1 0 (List.length l_3 - 1) cap_1, PV.int IntKind.i64 most_3], Ob.cells (flB (List.eraseIdx l_3 p) ++ ([PV.int IntKind.u32 0, PV.int IntKind.u8 0] ++ J_1))]) (K (PV.tup [PV.int IntKind.u8 (getR l_1 t_1), PV.bool (has l_1 t_1)]) [Ob.cells [PV.arr 1 0 (List.length l) cap, PV.int IntKind.i64 most], Ob.cells (flB l ++ J)])) = wpc br Try.prog gl TDB [] (fun o => match o.op with | .load t _ => (match t with | 114 => 1 | _ => 0) | _ => 0) (bodyOf Try.f25) [] (env0 [.ptr 0 0, .int .u32 t]) [.cells [.arr 1 0 l.length cap, .int .i64 most], .cells (flB l ++ J)] (resQ Try.prog Try.f25.results.toList K) := by kernel_rfl
theorem droAB_vc (l : List RwB) (J : List PV) (cap : Nat) (most : Int) (t : Int)  (K : PV → Heap → Prop) (h : ∃ (l_1 : List RwB), ∃ (most_1 : Int), ∃ (t_1 : Int), SlIs [PV.ptr 0 0, PV.int IntKind.u32 t] [PV.ptr 0 0, PV.int IntKind.u32 t_1] ∧ EXB l_1 most_1 [Ob.cells [PV.arr 1 0 (List.length l) cap, PV.int IntKind.i64 most], Ob.cells (flB l ++ J)] ∧ Ok l_1 most_1 ∧ br (has l_1 t_1) (∃ (l_2 : List RwB), ∃ (most_2 : Int), ∃ (t_2 : Int), SlIs [PV.ptr 0 0, PV.int IntKind.u32 t] [PV.ptr 0 0, PV.int IntKind.u32 t_2] ∧ EXB l_2 most_2 [Ob.cells [PV.arr 1 0 (List.length l) cap, PV.int IntKind.i64 most], Ob.cells (flB l ++ J)] ∧ Ok l_2 most_2 ∧ ∃ (l_3 : List RwB), ∃ (J_1 : List PV), ∃ (cap_1 : Nat), ∃ (most_3 : Int), ∃ (p : Nat), SlIs [PV.arr 1 0 (List.length l) cap, PV.int IntKind.i64 (↑(lbp l_2 t_2) : Int), PV.int IntKind.i64 (wI ((↑(lbp l_2 t_2) : Int) + 1))] [PV.arr 1 0 (List.length l_3) cap_1, PV.int IntKind.i64 (↑p : Int), PV.int IntKind.i64 (↑(p + 1) : Int)] ∧ HpIs [Ob.cells [PV.arr 1 0 (List.length l) cap, PV.int IntKind.i64 most], Ob.cells (flB l ++ J)] [Ob.cells [PV.arr 1 0 (List.length l_3) cap_1, PV.int IntKind.i64 most_3], Ob.cells (flB l_3 ++ J_1)] ∧ p < List.length l_3 ∧ List.length l_3 ≤ 1000000 ∧ List.length l_3 ≤ cap_1 ∧ Room J_1 ((cap_1 - List.length l_3) * 2) ∧ K (PV.tup [PV.int IntKind.u8 (getR l_1 t_1), PV.bool (has l_1 t_1)]) [Ob.cells [PV.arr 1 0 (List.length l_3 - 1) cap_1, PV.int IntKind.i64 most_3], Ob.cells (flB (List.eraseIdx l_3 p) ++ ([PV.int IntKind.u32 0, PV.int IntKind.u8 0] ++ J_1))]) (K (PV.tup [PV.int IntKind.u8 (getR l_1 t_1), PV.bool (has l_1 t_1)]) [Ob.cells [PV.arr 1 0 (List.length l) cap, PV.int IntKind.i64 most], Ob.cells (flB l ++ J)])) : ACalls Try.prog gl 25 [.ptr 0 0, .int .u32 t] [.cells [.arr 1 0 l.length cap, .int .i64 most], .cells (flB l ++ J)] K :=
  acalls_of_wpc2 (T := TDB) (L := []) (fun o => match o.op with | .load t _ => (match t with | 114 => 1 | _ => 0) | _ => 0) Try.func25 (by kernel_rfl) (by kernel_rfl) (by kernel_rfl) (TDB_ok) (LOk.nil _ _ _ _ _) (holds_of_eq (droAB_red l J cap most t K) h)
theorem droNB_red (most t : Int) (K : PV → Heap → Prop) : (∃ (l : List RwB), ∃ (most_1 : Int), ∃ (t_1 : Int), SlIs [PV.ptr 0 0, PV.int IntKind.u32 t] [PV.ptr 0 0, PV.int IntKind.u32 t_1] ∧ EXB l most_1 [Ob.cells [PV.list [] Tail.exact, PV.int IntKind.i64 most]] ∧ Ok l most_1 ∧ br (has l t_1) (∃ (l_1 : List RwB), ∃ (most_2 : Int), ∃ (t_2 : Int), SlIs [PV.ptr 0 0, PV.int IntKind.u32 t] [PV.ptr 0 0, PV.int IntKind.u32 t_2] ∧ EXB l_1 most_2 [Ob.cells [PV.list [] Tail.exact, PV.int IntKind.i64 most]] ∧ Ok l_1 most_2 ∧ ∃ (l_2 : List RwB), ∃ (J : List PV), ∃ (cap : Nat), ∃ (most_3 : Int), ∃ (p : Nat), SlIs [PV.list [] Tail.exact, PV.int IntKind.i64 (↑(lbp l_1 t_2) : Int), PV.int IntKind.i64 (wI ((↑(lbp l_1 t_2) : Int) + 1))] [PV.arr 1 0 (List.length l_2) cap, PV.int IntKind.i64 (↑p : Int), PV.int IntKind.i64 (↑(p + 1) : Int)] ∧ HpIs [Ob.cells [PV.list [] Tail.exact, PV.int IntKind.i64 most]] [Ob.cells [PV.arr 1 0 (List.length l_2) cap, PV.int IntKind.i64 most_3], Ob.cells (flB l_2 ++ J)] ∧ p < List.length l_2 ∧ List.length l_2 ≤ 1000000 ∧ List.length l_2 ≤ cap ∧ Room J ((cap - List.length l_2) * 2) ∧ K (PV.tup [PV.int IntKind.u8 (getR l t_1), PV.bool (has l t_1)]) [Ob.cells [PV.arr 1 0 (List.length l_2 - 1) cap, PV.int IntKind.i64 most_3], Ob.cells (flB (List.eraseIdx l_2 p) ++ ([PV.int IntKind.u32 0, PV.int IntKind.u8 0] ++ J))]) (K (PV.tup [PV.int IntKind.u8 (getR l t_1), PV.bool (has l t_1)]) [Ob.cells [PV.list [] Tail.exact, PV.int IntKind.i64 most]])) = wpc br Try.prog gl TDB [] (fun o => match o.op with | .load t _ => (match t with | 114 => 1 | _ => 0) | _ => 0) (bodyOf Try.f25) [] (env0 [.ptr 0 0, .int .u32 t]) [.cells [.list [] .exact, .int .i64 most]] (resQ Try.prog Try.f25.results.toList K) := by kernel_rfl
theorem droNB_vc (most t : Int)  (K : PV → Heap → Prop) (h : ∃ (l : List RwB), ∃ (most_1 : Int), ∃ (t_1 : Int), SlIs [PV.ptr 0 0, PV.int IntKind.u32 t] [PV.ptr 0 0, PV.int IntKind.u32 t_1] ∧ EXB l most_1 [Ob.cells [PV.list [] Tail.exact, PV.int IntKind.i64 most]] ∧ Ok l most_1 ∧ br (has l t_1) (∃ (l_1 : List RwB), ∃ (most_2 : Int), ∃ (t_2 : Int), SlIs [PV.ptr 0 0, PV.int IntKind.u32 t] [PV.ptr 0 0, PV.int IntKind.u32 t_2] ∧ EXB l_1 most_2 [Ob.cells [PV.list [] Tail.exact, PV.int IntKind.i64 most]] ∧ Ok l_1 most_2 ∧ ∃ (l_2 : List RwB), ∃ (J : List PV), ∃ (cap : Nat), ∃ (most_3 : Int), ∃ (p : Nat), SlIs [PV.list [] Tail.exact, PV.int IntKind.i64 (↑(lbp l_1 t_2) : Int), PV.int IntKind.i64 (wI ((↑(lbp l_1 t_2) : Int) + 1))] [PV.arr 1 0 (List.length l_2) cap, PV.int IntKind.i64 (↑p : Int), PV.int IntKind.i64 (↑(p + 1) : Int)] ∧ HpIs [Ob.cells [PV.list [] Tail.exact, PV.int IntKind.i64 most]] [Ob.cells [PV.arr 1 0 (List.length l_2) cap, PV.int IntKind.i64 most_3], Ob.cells (flB l_2 ++ J)] ∧ p < List.length l_2 ∧ List.length l_2 ≤ 1000000 ∧ List.length l_2 ≤ cap ∧ Room J ((cap - List.length l_2) * 2) ∧ K (PV.tup [PV.int IntKind.u8 (getR l t_1), PV.bool (has l t_1)]) [Ob.cells [PV.arr 1 0 (List.length l_2 - 1) cap, PV.int IntKind.i64 most_3], Ob.cells (flB (List.eraseIdx l_2 p) ++ ([PV.int IntKind.u32 0, PV.int IntKind.u8 0] ++ J))]) (K (PV.tup [PV.int IntKind.u8 (getR l t_1), PV.bool (has l t_1)]) [Ob.cells [PV.list [] Tail.exact, PV.int IntKind.i64 most]])) : ACalls Try.prog gl 25 [.ptr 0 0, .int .u32 t] [.cells [.list [] .exact, .int .i64 most]] K :=
  acalls_of_wpc2 (T := TDB) (L := []) (fun o => match o.op with | .load t _ => (match t with | 114 => 1 | _ => 0) | _ => 0) Try.func25 (by kernel_rfl) (by kernel_rfl) (by kernel_rfl) (TDB_ok) (LOk.nil _ _ _ _ _) (holds_of_eq (droNB_red most t K) h)
theorem newB_red (n : Int) (K : PV → Heap → Prop) : (K (PV.ptr 0 0) [Ob.cells [PV.list [] Tail.exact, PV.int IntKind.i64 (mxI 0 n)]]) = wpc br Try.prog gl [] [] (fun _ => 0) (bodyOf Try.f23) [] (env0 [.int .i64 n]) [] (resQ Try.prog Try.f23.results.toList K) := by kernel_rfl
theorem newB_vc (n : Int)  (K : PV → Heap → Prop) (h : K (PV.ptr 0 0) [Ob.cells [PV.list [] Tail.exact, PV.int IntKind.i64 (mxI 0 n)]]) : ACalls Try.prog gl 23 [.int .i64 n] [] K :=
  acalls_of_wpc2 (T := []) (L := []) (fun _ => 0) Try.func23 (by kernel_rfl) (by kernel_rfl) (by kernel_rfl) (TabOk.nil _ _) (LOk.nil _ _ _ _ _) (holds_of_eq (newB_red n K) h)
theorem freAB_red (l : List RwB) (J : List PV) (cap : Nat) (most : Int) (i : Nat) (R : Ex → List PV → Heap → Prop) : (br (decide ((↑i : Int) < (↑(List.length l) : Int))) ((0 ≤ (↑i : Int) ∧ (↑i : Int) < (↑(List.length l) : Int)) ∧ br (true && fitX [CK.int IntKind.u32, CK.int IntKind.u8] 0 (List.drop (0 + Int.toNat (↑i : Int) * 2) (flB l ++ J))) (br (cI (List.drop (0 + Int.toNat (↑i : Int) * 2) (flB l ++ J)) 0 != IntKind.wrap IntKind.u32 (IntKind.wrap IntKind.u32 (↑i : Int) + 1)) (R Ex.ret [PV.ptr 0 0, PV.int IntKind.u32 (IntKind.wrap IntKind.u32 (IntKind.wrap IntKind.u32 (↑i : Int) + 1)), PV.arr 1 0 (List.length l) cap, PV.int IntKind.i64 (↑(List.length l) : Int), PV.int IntKind.i64 (↑i : Int)] [Ob.cells [PV.arr 1 0 (List.length l) cap, PV.int IntKind.i64 most], Ob.cells (flB l ++ J), Ob.cells [PV.int IntKind.u32 (cI (List.drop (0 + Int.toNat (↑i : Int) * 2) (flB l ++ J)) 0), PV.int IntKind.u8 (cI (List.drop (0 + Int.toNat (↑i : Int) * 2) (flB l ++ J)) 1)]]) (R Ex.normal [PV.ptr 0 0, PV.int IntKind.u32 0, PV.arr 1 0 (List.length l) cap, PV.int IntKind.i64 (↑(List.length l) : Int), PV.int IntKind.i64 (wI ((↑i : Int) + 1))] [Ob.cells [PV.arr 1 0 (List.length l) cap, PV.int IntKind.i64 most], Ob.cells (flB l ++ J), Ob.cells [PV.int IntKind.u32 (cI (List.drop (0 + Int.toNat (↑i : Int) * 2) (flB l ++ J)) 0), PV.int IntKind.u8 (cI (List.drop (0 + Int.toNat (↑i : Int) * 2) (flB l ++ J)) 1)]])) False) (R (Ex.exit 0) [PV.ptr 0 0, PV.int IntKind.u32 0, PV.arr 1 0 (List.length l) cap, PV.int IntKind.i64 (↑(List.length l) : Int), PV.int IntKind.i64 (↑i : Int)] [Ob.cells [PV.arr 1 0 (List.length l) cap, PV.int IntKind.i64 most], Ob.cells (flB l ++ J)])) = wpc br Try.prog gl [] [] (fun o => match o.op with | .load t _ => (match t with | 114 => 1 | _ => 0) | _ => 0) (subOf [1, 1, 0, 1, 0] (bodyOf Try.f26)) [] (envS [0, 2, 22, 23, 24] [.ptr 0 0, .int .u32 0, .arr 1 0 l.length cap, .int .i64 l.length, .int .i64 i]) [.cells [.arr 1 0 l.length cap, .int .i64 most], .cells (flB l ++ J)] (fun ex e H => R ex (List.map e [0, 2, 22, 23, 24]) H) := by kernel_rfl
theorem freAB_vc (l : List RwB) (J : List PV) (cap : Nat) (most : Int) (i : Nat) (R : Ex → List PV → Heap → Prop) (h : br (decide ((↑i : Int) < (↑(List.length l) : Int))) ((0 ≤ (↑i : Int) ∧ (↑i : Int) < (↑(List.length l) : Int)) ∧ br (true && fitX [CK.int IntKind.u32, CK.int IntKind.u8] 0 (List.drop (0 + Int.toNat (↑i : Int) * 2) (flB l ++ J))) (br (cI (List.drop (0 + Int.toNat (↑i : Int) * 2) (flB l ++ J)) 0 != IntKind.wrap IntKind.u32 (IntKind.wrap IntKind.u32 (↑i : Int) + 1)) (R Ex.ret [PV.ptr 0 0, PV.int IntKind.u32 (IntKind.wrap IntKind.u32 (IntKind.wrap IntKind.u32 (↑i : Int) + 1)), PV.arr 1 0 (List.length l) cap, PV.int IntKind.i64 (↑(List.length l) : Int), PV.int IntKind.i64 (↑i : Int)] [Ob.cells [PV.arr 1 0 (List.length l) cap, PV.int IntKind.i64 most], Ob.cells (flB l ++ J), Ob.cells [PV.int IntKind.u32 (cI (List.drop (0 + Int.toNat (↑i : Int) * 2) (flB l ++ J)) 0), PV.int IntKind.u8 (cI (List.drop (0 + Int.toNat (↑i : Int) * 2) (flB l ++ J)) 1)]]) (R Ex.normal [PV.ptr 0 0, PV.int IntKind.u32 0, PV.arr 1 0 (List.length l) cap, PV.int IntKind.i64 (↑(List.length l) : Int), PV.int IntKind.i64 (wI ((↑i : Int) + 1))] [Ob.cells [PV.arr 1 0 (List.length l) cap, PV.int IntKind.i64 most], Ob.cells (flB l ++ J), Ob.cells [PV.int IntKind.u32 (cI (List.drop (0 + Int.toNat (↑i : Int) * 2) (flB l ++ J)) 0), PV.int IntKind.u8 (cI (List.drop (0 + Int.toNat (↑i : Int) * 2) (flB l ++ J)) 1)]])) False) (R (Ex.exit 0) [PV.ptr 0 0, PV.int IntKind.u32 0, PV.arr 1 0 (List.length l) cap, PV.int IntKind.i64 (↑(List.length l) : Int), PV.int IntKind.i64 (↑i : Int)] [Ob.cells [PV.arr 1 0 (List.length l) cap, PV.int IntKind.i64 most], Ob.cells (flB l ++ J)])) : Holds (wpc br Try.prog gl [] [] (fun o => match o.op with | .load t _ => (match t with | 114 => 1 | _ => 0) | _ => 0) (subOf [1, 1, 0, 1, 0] (bodyOf Try.f26)) [] (envS [0, 2, 22, 23, 24] [.ptr 0 0, .int .u32 0, .arr 1 0 l.length cap, .int .i64 l.length, .int .i64 i]) [.cells [.arr 1 0 l.length cap, .int .i64 most], .cells (flB l ++ J)] (fun ex e H => R ex (List.map e [0, 2, 22, 23, 24]) H)) := holds_of_eq (freAB_red l J cap most i R) h
theorem freNB_red (most : Int) (R : Ex → List PV → Heap → Prop) : (R (Ex.exit 0) [PV.ptr 0 0, PV.int IntKind.u32 0, PV.list [] Tail.exact, PV.int IntKind.i64 0, PV.int IntKind.i64 0] [Ob.cells [PV.list [] Tail.exact, PV.int IntKind.i64 most]]) = wpc br Try.prog gl [] [] (fun o => match o.op with | .load t _ => (match t with | 114 => 1 | _ => 0) | _ => 0) (subOf [1, 1, 0, 1, 0] (bodyOf Try.f26)) [] (envS [0, 2, 22, 23, 24] [.ptr 0 0, .int .u32 0, .list [] .exact, .int .i64 0, .int .i64 0]) [.cells [.list [] .exact, .int .i64 most]] (fun ex e H => R ex (List.map e [0, 2, 22, 23, 24]) H) := by kernel_rfl
theorem freNB_vc (most : Int) (R : Ex → List PV → Heap → Prop) (h : R (Ex.exit 0) [PV.ptr 0 0, PV.int IntKind.u32 0, PV.list [] Tail.exact, PV.int IntKind.i64 0, PV.int IntKind.i64 0] [Ob.cells [PV.list [] Tail.exact, PV.int IntKind.i64 most]]) : Holds (wpc br Try.prog gl [] [] (fun o => match o.op with | .load t _ => (match t with | 114 => 1 | _ => 0) | _ => 0) (subOf [1, 1, 0, 1, 0] (bodyOf Try.f26)) [] (envS [0, 2, 22, 23, 24] [.ptr 0 0, .int .u32 0, .list [] .exact, .int .i64 0, .int .i64 0]) [.cells [.list [] .exact, .int .i64 most]] (fun ex e H => R ex (List.map e [0, 2, 22, 23, 24]) H)) := holds_of_eq (freNB_red most R) h
def freB_l : LSp := fun e H Q => ∃ (l : List RwB) (J : List PV) (cap : Nat) (most : Int), l.length ≤ 1000000 ∧ (∀ y ∈ J, Low 2 y) ∧ SlIs (List.map e [0, 2, 22, 23, 24]) [.ptr 0 0, .int .u32 0, .arr 1 0 l.length cap, .int .i64 l.length, .int .i64 0] ∧ HpIs H (hpAB l J cap most) ∧
  (gap l < l.length → ∀ (ob : Ob), Q .ret (envS [0, 2, 22, 23, 24] [.ptr 0 0, .int .u32 ((gap l : Int) + 1), .arr 1 0 l.length cap, .int .i64 l.length, .int .i64 (gap l)]) (hpAB l J cap most ++ [ob])) ∧
  (gap l = l.length → Q (.exit 0) (envS [0, 2, 22, 23, 24] [.ptr 0 0, .int .u32 0, .arr 1 0 l.length cap, .int .i64 l.length, .int .i64 l.length]) (hpAB l J cap most))
theorem freB_l_ok : ∀ e H Q, freB_l e H Q → AW Try.prog gl Try.f26.ntmps (.loop (subOf [1, 1, 0, 1, 0] (bodyOf Try.f26))) Q e H := by
  rintro e H Q ⟨l, J, cap, most, hl, hJ, he, hH, hr, hx⟩
  have hgl := gap_le l
  refine aw_loop4 (hn := fun o => match o.op with | .load t _ => (match t with | 114 => 1 | _ => 0) | _ => 0) gl_low (.nil _ _) (.nil _ _ _ _ _) (σ := Nat) [0, 2, 22, 23, 24] (fun i => i ≤ gap l)
    (fun i => [.ptr 0 0, .int .u32 0, .arr 1 0 l.length cap, .int .i64 l.length, .int .i64 i]) (fun _ => hpAB l J cap most) (fun i => l.length - i) 0 (Nat.zero_le _) he hH ?_
  intro i hi
  refine freAB_vc l J cap most i _ ?_
  simp only [br_if, dt]
  by_cases h : i < l.length
  · rw [if_pos (by omega)]
    simp only [toNat_nat, Nat.zero_add]
    rw [flB_at J h]
    refine ⟨⟨by omega, by omega⟩, ?_⟩
    rw [if_pos (by rfl)]
    have e1 : IntKind.wrap .u32 (IntKind.wrap .u32 (i : Int) + 1) = (i : Int) + 1 := by rw [wrap_u32 (n := (i : Int)) (by omega) (by omega), wrap_u32 (by omega) (by omega)]
    rw [e1]
    have hc : cI (csB (l.getD i default) ++ (flB (List.drop (i + 1) l) ++ J)) 0 = (l.getD i default).id := rfl
    rw [hc]
    by_cases c : (l.getD i default).id = (i : Int) + 1
    · rw [if_neg (by simpa using c)]
      have hlt : i < gap l := gap_step hi h c
      exact ⟨i + 1, (show l.length - (i + 1) < l.length - i by omega), hlt, by rw [wI_succ h (by omega)], [_], rfl, Nat.le_refl _, .inr ⟨by
        intro v hv
        simp only [List.mem_cons, List.not_mem_nil, or_false] at hv
        rcases hv with rfl | rfl | rfl | rfl | rfl <;> first | exact .int _ _ | exact .ptr _ _ (by simp [hpAB]) | exact .arr _ _ _ _ (by simp [hpAB]), hpAB_low hJ⟩⟩
    · rw [if_pos (by simpa using c)]
      have hge : gap l = i := gap_stop hi h c
      subst hge
      exact hr h _
  · rw [if_neg (by omega)]
    have hge : gap l = l.length := by omega
    have : i = l.length := by omega
    subst this
    exact hx hge
def frnB_l : LSp := fun e H Q => ∃ (most : Int), SlIs (List.map e [0, 2, 22, 23, 24]) [.ptr 0 0, .int .u32 0, .list [] .exact, .int .i64 0, .int .i64 0] ∧ HpIs H (hpNB most) ∧
  Q (.exit 0) (envS [0, 2, 22, 23, 24] [.ptr 0 0, .int .u32 0, .list [] .exact, .int .i64 0, .int .i64 0]) (hpNB most)
theorem frnB_l_ok : ∀ e H Q, frnB_l e H Q → AW Try.prog gl Try.f26.ntmps (.loop (subOf [1, 1, 0, 1, 0] (bodyOf Try.f26))) Q e H := by
  rintro e H Q ⟨most, he, hH, hQ⟩
  refine aw_loop4 (hn := fun o => match o.op with | .load t _ => (match t with | 114 => 1 | _ => 0) | _ => 0) gl_low (.nil _ _) (.nil _ _ _ _ _) (σ := Unit) [0, 2, 22, 23, 24] (fun _ => True)
    (fun _ => [.ptr 0 0, .int .u32 0, .list [] .exact, .int .i64 0, .int .i64 0]) (fun _ => hpNB most) (fun _ => 0) () trivial he hH ?_
  intro _ _
  exact freNB_vc most _ hQ
theorem feeAB_red (l : List RwB) (J : List PV) (cap : Nat) (most : Int) (K : PV → Heap → Prop) : (br (decide ((↑(List.length l) : Int) ≥ most)) (K (PV.int IntKind.u32 0) [Ob.cells [PV.arr 1 0 (List.length l) cap, PV.int IntKind.i64 most], Ob.cells (flB l ++ J)]) (∃ (l_1 : List RwB), ∃ (J_1 : List PV), ∃ (cap_1 : Nat), ∃ (most_1 : Int), List.length l_1 ≤ 1000000 ∧ (∀ (y : PV), y ∈ J_1 → Low 2 y) ∧ SlIs [PV.ptr 0 0, PV.int IntKind.u32 0, PV.arr 1 0 (List.length l) cap, PV.int IntKind.i64 (↑(List.length l) : Int), PV.int IntKind.i64 0] [PV.ptr 0 0, PV.int IntKind.u32 0, PV.arr 1 0 (List.length l_1) cap_1, PV.int IntKind.i64 (↑(List.length l_1) : Int), PV.int IntKind.i64 0] ∧ HpIs [Ob.cells [PV.arr 1 0 (List.length l) cap, PV.int IntKind.i64 most], Ob.cells (flB l ++ J)] [Ob.cells [PV.arr 1 0 (List.length l_1) cap_1, PV.int IntKind.i64 most_1], Ob.cells (flB l_1 ++ J_1)] ∧ (gap l_1 < List.length l_1 → ∀ (ob : Ob), K (PV.int IntKind.u32 ((↑(gap l_1) : Int) + 1)) [Ob.cells [PV.arr 1 0 (List.length l_1) cap_1, PV.int IntKind.i64 most_1], Ob.cells (flB l_1 ++ J_1), ob]) ∧ (gap l_1 = List.length l_1 → K (PV.int IntKind.u32 (IntKind.wrap IntKind.u32 (IntKind.wrap IntKind.u32 (↑(List.length l_1) : Int) + 1))) [Ob.cells [PV.arr 1 0 (List.length l_1) cap_1, PV.int IntKind.i64 most_1], Ob.cells (flB l_1 ++ J_1)]))) = wpc br Try.prog gl [] [([1, 1, 0, 1, 0], freB_l)] (fun o => match o.op with | .load t _ => (match t with | 114 => 1 | _ => 0) | _ => 0) (bodyOf Try.f26) [] (env0 [.ptr 0 0]) [.cells [.arr 1 0 l.length cap, .int .i64 most], .cells (flB l ++ J)] (resQ Try.prog Try.f26.results.toList K) := by kernel_rfl
theorem feeAB_vc (l : List RwB) (J : List PV) (cap : Nat) (most : Int)  (K : PV → Heap → Prop) (h : br (decide ((↑(List.length l) : Int) ≥ most)) (K (PV.int IntKind.u32 0) [Ob.cells [PV.arr 1 0 (List.length l) cap, PV.int IntKind.i64 most], Ob.cells (flB l ++ J)]) (∃ (l_1 : List RwB), ∃ (J_1 : List PV), ∃ (cap_1 : Nat), ∃ (most_1 : Int), List.length l_1 ≤ 1000000 ∧ (∀ (y : PV), y ∈ J_1 → Low 2 y) ∧ SlIs [PV.ptr 0 0, PV.int IntKind.u32 0, PV.arr 1 0 (List.length l) cap, PV.int IntKind.i64 (↑(List.length l) : Int), PV.int IntKind.i64 0] [PV.ptr 0 0, PV.int IntKind.u32 0, PV.arr 1 0 (List.length l_1) cap_1, PV.int IntKind.i64 (↑(List.length l_1) : Int), PV.int IntKind.i64 0] ∧ HpIs [Ob.cells [PV.arr 1 0 (List.length l) cap, PV.int IntKind.i64 most], Ob.cells (flB l ++ J)] [Ob.cells [PV.arr 1 0 (List.length l_1) cap_1, PV.int IntKind.i64 most_1], Ob.cells (flB l_1 ++ J_1)] ∧ (gap l_1 < List.length l_1 → ∀ (ob : Ob), K (PV.int IntKind.u32 ((↑(gap l_1) : Int) + 1)) [Ob.cells [PV.arr 1 0 (List.length l_1) cap_1, PV.int IntKind.i64 most_1], Ob.cells (flB l_1 ++ J_1), ob]) ∧ (gap l_1 = List.length l_1 → K (PV.int IntKind.u32 (IntKind.wrap IntKind.u32 (IntKind.wrap IntKind.u32 (↑(List.length l_1) : Int) + 1))) [Ob.cells [PV.arr 1 0 (List.length l_1) cap_1, PV.int IntKind.i64 most_1], Ob.cells (flB l_1 ++ J_1)]))) : ACalls Try.prog gl 26 [.ptr 0 0] [.cells [.arr 1 0 l.length cap, .int .i64 most], .cells (flB l ++ J)] K :=
  acalls_of_wpc2 (T := []) (L := [([1, 1, 0, 1, 0], freB_l)]) (fun o => match o.op with | .load t _ => (match t with | 114 => 1 | _ => 0) | _ => 0) Try.func26 (by kernel_rfl) (by kernel_rfl) (by kernel_rfl) (TabOk.nil _ _) (.cons (sub_of (by kernel_rfl)) freB_l_ok (.nil _ _ _ _ _)) (holds_of_eq (feeAB_red l J cap most K) h)
theorem feeNB_red (most : Int) (K : PV → Heap → Prop) : (br (decide (0 ≥ most)) (K (PV.int IntKind.u32 0) [Ob.cells [PV.list [] Tail.exact, PV.int IntKind.i64 most]]) (∃ (most_1 : Int), SlIs [PV.ptr 0 0, PV.int IntKind.u32 0, PV.list [] Tail.exact, PV.int IntKind.i64 0, PV.int IntKind.i64 0] [PV.ptr 0 0, PV.int IntKind.u32 0, PV.list [] Tail.exact, PV.int IntKind.i64 0, PV.int IntKind.i64 0] ∧ HpIs [Ob.cells [PV.list [] Tail.exact, PV.int IntKind.i64 most]] [Ob.cells [PV.list [] Tail.exact, PV.int IntKind.i64 most_1]] ∧ K (PV.int IntKind.u32 1) [Ob.cells [PV.list [] Tail.exact, PV.int IntKind.i64 most_1]])) = wpc br Try.prog gl [] [([1, 1, 0, 1, 0], frnB_l)] (fun o => match o.op with | .load t _ => (match t with | 114 => 1 | _ => 0) | _ => 0) (bodyOf Try.f26) [] (env0 [.ptr 0 0]) [.cells [.list [] .exact, .int .i64 most]] (resQ Try.prog Try.f26.results.toList K) := by kernel_rfl
theorem feeNB_vc (most : Int)  (K : PV → Heap → Prop) (h : br (decide (0 ≥ most)) (K (PV.int IntKind.u32 0) [Ob.cells [PV.list [] Tail.exact, PV.int IntKind.i64 most]]) (∃ (most_1 : Int), SlIs [PV.ptr 0 0, PV.int IntKind.u32 0, PV.list [] Tail.exact, PV.int IntKind.i64 0, PV.int IntKind.i64 0] [PV.ptr 0 0, PV.int IntKind.u32 0, PV.list [] Tail.exact, PV.int IntKind.i64 0, PV.int IntKind.i64 0] ∧ HpIs [Ob.cells [PV.list [] Tail.exact, PV.int IntKind.i64 most]] [Ob.cells [PV.list [] Tail.exact, PV.int IntKind.i64 most_1]] ∧ K (PV.int IntKind.u32 1) [Ob.cells [PV.list [] Tail.exact, PV.int IntKind.i64 most_1]])) : ACalls Try.prog gl 26 [.ptr 0 0] [.cells [.list [] .exact, .int .i64 most]] K :=
  acalls_of_wpc2 (T := []) (L := [([1, 1, 0, 1, 0], frnB_l)]) (fun o => match o.op with | .load t _ => (match t with | 114 => 1 | _ => 0) | _ => 0) Try.func26 (by kernel_rfl) (by kernel_rfl) (by kernel_rfl) (TabOk.nil _ _) (.cons (sub_of (by kernel_rfl)) frnB_l_ok (.nil _ _ _ _ _)) (holds_of_eq (feeNB_red most K) h)
theorem drEB {l : List RwB} {most t : Int} {hh : Heap} (hH : EXB l most hh) (ok : Ok l most) : ACalls Try.prog gl 25 [.ptr 0 0, .int .u32 t] hh (fun x H' => x = .tup [(let v := getR l t; .int .u8 v), .bool (has l t)] ∧ RestOf (EXB (dropL l t) most) H') := by
  have hfull := ok.len
  rcases hH with ⟨J, cap, rfl, hc, hJ⟩ | ⟨rfl, rfl⟩
  · refine droAB_vc l J cap most t _ ⟨l, most, t, rfl, EXB_A hc hJ, ok, ?_⟩
    simp only [br_if]
    unfold dropL
    by_cases c : has l t = true
    · obtain ⟨c1, c2⟩ := has_lt c
      rw [if_pos c, if_pos c]
      refine ⟨l, most, t, rfl, EXB_A hc hJ, ok, l, J, cap, most, lbp l t, (by show _ = _; rw [wI_succ c1 (by omega)]), rfl, c1, ok.len, hc, hJ, by first | rfl | trivial, ?_⟩
      have hle : l.length - 1 = (l.eraseIdx (lbp l t)).length := by rw [List.length_eraseIdx_of_lt c1]
      rw [hle]
      exact left_AB (k := 0) rfl (by omega) (((zrB_room 1).app hJ |> fun h => by
        simp only [List.replicate, List.flatten_cons, List.flatten_nil, List.append_nil] at h
        exact h.cast (by omega)))
    · rw [if_neg c, if_neg c]
      exact ⟨by first | rfl | trivial, left_EXB (EXB_A hc hJ)⟩
  · refine droNB_vc most t _ ⟨[], most, t, rfl, EXB_N, ok, ?_⟩
    exact ⟨rfl, left_NB⟩
theorem freEB {l : List RwB} {most : Int} {hh : Heap} (hH : EXB l most hh) (ok : Ok l most) : ACalls Try.prog gl 26 [.ptr 0 0] hh (fun x H' => x = .int .u32 (freeL l most) ∧ RestOf (EXB l most) H') := by
  have hfull := ok.len
  unfold freeL
  rcases hH with ⟨J, cap, rfl, hc, hJ⟩ | ⟨rfl, rfl⟩
  · refine feeAB_vc l J cap most _ ?_
    simp only [br_if]
    by_cases c : (l.length : Int) ≥ most
    · rw [if_pos (decide_eq_true c), if_pos c]
      exact ⟨rfl, left_EXB (EXB_A hc hJ)⟩
    · rw [if_neg (by simpa using c), if_neg c]
      refine ⟨l, J, cap, most, ok.len, low2 hJ, rfl, rfl, fun _ ob => ⟨by trivial, left_AB (k := 0) rfl hc hJ⟩, fun hg => ⟨?_, left_AB (k := 0) rfl hc hJ⟩⟩
      rw [wrap_u32 (n := (l.length : Int)) (by omega) (by omega), wrap_u32 (by omega) (by omega), hg]
  · refine feeNB_vc most _ ?_
    simp only [br_if]
    by_cases c : 0 ≥ most
    · rw [if_pos (decide_eq_true c), if_pos (by simpa using c)]
      exact ⟨rfl, left_NB⟩
    · rw [if_neg (by simpa using c), if_neg (by simpa using c)]
      exact ⟨most, rfl, rfl, by trivial, left_NB⟩
-- amid other objects
theorem lowvB (v : Int) : Low 0 (.int .u8 v) := by first | exact .int _ _ | exact .str _ | (refine .agg _ ?_; intro y hy; simp only [List.mem_cons, List.not_mem_nil, or_false] at hy; rcases hy with rfl <;> first | exact .int _ _ | exact .str _)
theorem low_tupvB (v : Int) (b : Bool) : Low 0 (.tup [.int .u8 v, .bool b]) := .tup _ (by intro y hy; simp only [List.mem_cons, List.not_mem_nil, or_false] at hy; rcases hy with rfl | rfl; exact lowvB v; exact .bool _)
def getB_s (args : List PV) (H : Heap) (K : PV → Prop) : Prop := ∃ (q : Nat) (l : List RwB) (most t : Int), SlIs args [.ptr q 0, .int .u32 t] ∧ AbIs H q (rkB l most) ∧ Ok l most ∧ K (.tup [(let v := getR l t; .int .u8 v), .bool (has l t)])
theorem getB_ok : SpOk Try.prog gl 27 (.read getB_s) := by
  rintro args H K ⟨q, l, most, t, he, ha, ok, hk⟩
  have he : args = _ := he
  subst he
  refine ⟨_, meth_read gl_low ha low0_int (low_tupvB _ _) (fun hh h => ?_), hk⟩
  obtain ⟨r, h1, h2⟩ := geEB_ok _ hh (fun x => x = .tup [(let v := getR l t; .int .u8 v), .bool (has l t)]) ⟨l, most, t, rfl, h, ok, rfl⟩
  exact acalls_to h1 fun x H' e => ⟨e.1.trans h2, e.2 ▸ left_EXB h⟩
def putB_s (args : List PV) (H : Heap) (K : PV → Heap → Prop) : Prop := match args with
  | .ptr q 0 :: rest => ∃ (l : List RwB) (most t : Int) (v : Int), SlIs rest [.int .u32 t, .int .u8 v] ∧ AbIs H q (rkB l most) ∧ Ok l most ∧ K (.int .i64 (putL l most t v).2) (H.set q (.abs (rkB (putL l most t v).1 most)))
  | _ => False
theorem putB_ok : SpOk Try.prog gl 24 (.heap putB_s) := by
  intro args H K h
  unfold putB_s at h
  split at h
  · rename_i q rest
    obtain ⟨l, most, t, v, he, ha, ok, hk⟩ := h
    have he : rest = _ := he
    subst he
    refine meth_heap gl_low ha (by intro y hy; simp only [List.mem_cons, List.not_mem_nil, or_false] at hy; rcases hy with rfl | rfl; exact .int _ _; exact lowvB v) (.int _ _) (fun hh h => ?_) hk
    exact puEB_ok _ hh _ ⟨l, most, t, v, rfl, h, ok, fun H' h' => ⟨rfl, h'⟩⟩
  · exact h.elim
def newB_s (args : List PV) (H : Heap) (K : PV → Heap → Prop) : Prop := ∃ n : Int, SlIs args [.int .i64 n] ∧ K (.ptr H.length 0) (H ++ [.abs (rkB [] (mxI 0 n))])
theorem newB_ok : SpOk Try.prog gl 23 (.heap newB_s) := by
  rintro args H K ⟨n, he, hk⟩
  have he : args = _ := he
  subst he
  exact acalls_to (make_left gl_low low0_int (newB_vc n _ ⟨rfl, left_NB⟩)) fun _ _ e => e.1 ▸ e.2 ▸ hk
def freB_s (args : List PV) (H : Heap) (K : PV → Prop) : Prop := ∃ (q : Nat) (l : List RwB) (most : Int), SlIs args [.ptr q 0] ∧ AbIs H q (rkB l most) ∧ Ok l most ∧ K (.int .u32 (freeL l most))
theorem freB_ok : SpOk Try.prog gl 26 (.read freB_s) := by
  rintro args H K ⟨q, l, most, he, ha, ok, hk⟩
  have he : args = _ := he
  subst he
  exact ⟨_, meth_read gl_low ha low0_nil (.int _ _) (fun hh h => freEB h ok), hk⟩
def droB_s (args : List PV) (H : Heap) (K : PV → Heap → Prop) : Prop := match args with
  | .ptr q 0 :: rest => ∃ (l : List RwB) (most t : Int), SlIs rest [.int .u32 t] ∧ AbIs H q (rkB l most) ∧ Ok l most ∧ K (.tup [(let v := getR l t; .int .u8 v), .bool (has l t)]) (H.set q (.abs (rkB (dropL l t) most)))
  | _ => False
theorem droB_ok : SpOk Try.prog gl 25 (.heap droB_s) := by
  intro args H K h
  unfold droB_s at h
  split at h
  · rename_i q rest
    obtain ⟨l, most, t, he, ha, ok, hk⟩ := h
    have he : rest = _ := he
    subst he
    exact meth_heap gl_low ha low0_int (low_tupvB _ _) (fun hh h => drEB h ok) hk
  · exact h.elim
def TQB : Tab := [(27, .read getB_s), (24, .heap putB_s)]
theorem TQB_ok : TabOk Try.prog gl TQB := .cons getB_ok (.cons putB_ok (.nil _ _))
theorem addB_red (H : Heap) (q : Nat) (t : Int) (v : Int) (K : PV → Heap → Prop) : (∃ (q_1 : Nat), ∃ (l : List RwB), ∃ (most : Int), ∃ (t_1 : Int), SlIs [PV.ptr q 0, PV.int IntKind.u32 t] [PV.ptr q_1 0, PV.int IntKind.u32 t_1] ∧ AbIs H q_1 (rkB l most) ∧ Ok l most ∧ br (has l t_1) (K (PV.int IntKind.i64 11) H) (∃ (l : List RwB), ∃ (most : Int), ∃ (t_2 : Int), ∃ (v_1 : Int), SlIs [PV.int IntKind.u32 t, PV.int IntKind.u8 v] [PV.int IntKind.u32 t_2, PV.int IntKind.u8 v_1] ∧ AbIs H q (rkB l most) ∧ Ok l most ∧ K (PV.int IntKind.i64 (Prod.snd (putL l most t_2 v_1))) (List.set H q (Ob.abs (rkB (Prod.fst (putL l most t_2 v_1)) most))))) = wpc br Try.prog gl TQB [] (fun _ => 0) (bodyOf Try.f28) [] (env0 [.ptr q 0, .int .u32 t, .int .u8 v]) H (resQ Try.prog Try.f28.results.toList K) := by kernel_rfl
theorem addB_vc (H : Heap) (q : Nat) (t : Int) (v : Int)  (K : PV → Heap → Prop) (h : ∃ (q_1 : Nat), ∃ (l : List RwB), ∃ (most : Int), ∃ (t_1 : Int), SlIs [PV.ptr q 0, PV.int IntKind.u32 t] [PV.ptr q_1 0, PV.int IntKind.u32 t_1] ∧ AbIs H q_1 (rkB l most) ∧ Ok l most ∧ br (has l t_1) (K (PV.int IntKind.i64 11) H) (∃ (l : List RwB), ∃ (most : Int), ∃ (t_2 : Int), ∃ (v_1 : Int), SlIs [PV.int IntKind.u32 t, PV.int IntKind.u8 v] [PV.int IntKind.u32 t_2, PV.int IntKind.u8 v_1] ∧ AbIs H q (rkB l most) ∧ Ok l most ∧ K (PV.int IntKind.i64 (Prod.snd (putL l most t_2 v_1))) (List.set H q (Ob.abs (rkB (Prod.fst (putL l most t_2 v_1)) most))))) : ACalls Try.prog gl 28 [.ptr q 0, .int .u32 t, .int .u8 v] H K :=
  acalls_of_wpc2 (T := TQB) (L := []) (fun _ => 0) Try.func28 (by kernel_rfl) (by kernel_rfl) (by kernel_rfl) (TQB_ok) (LOk.nil _ _ _ _ _) (holds_of_eq (addB_red H q t v K) h)
def addB_s (args : List PV) (H : Heap) (K : PV → Heap → Prop) : Prop := match args with
  | .ptr q 0 :: rest => ∃ (l : List RwB) (most t : Int) (v : Int), SlIs rest [.int .u32 t, .int .u8 v] ∧ AbIs H q (rkB l most) ∧ Ok l most ∧ K (.int .i64 (addL l most t v).2) (H.set q (.abs (rkB (addL l most t v).1 most)))
  | _ => False
theorem addB_ok : SpOk Try.prog gl 28 (.heap addB_s) := by
  intro args H K h
  unfold addB_s at h
  split at h
  · rename_i q rest
    obtain ⟨l, most, t, v, he, ha, ok, hk⟩ := h
    have he : rest = _ := he
    subst he
    refine addB_vc H q t v K ⟨q, l, most, t, rfl, ha, ok, ?_⟩
    unfold addL at hk
    rw [br_if]
    by_cases c : has l t = true
    · rw [if_pos c]
      rw [if_pos c, set_same ha] at hk
      exact hk
    · rw [if_neg c]
      rw [if_neg c] at hk
      exact ⟨l, most, t, v, rfl, ha, ok, hk⟩
  · exact h.elim
/-- all methods of a rack, ahead of others -/
def TMB (T : Tab) : Tab := (27, .read getB_s) :: (24, .heap putB_s) :: (28, .heap addB_s) :: (25, .heap droB_s) :: (26, .read freB_s) :: (23, .heap newB_s) :: T
theorem TMB_ok {T : Tab} (h : TabOk Try.prog gl T) : TabOk Try.prog gl (TMB T) := (.cons getB_ok (.cons putB_ok (.cons addB_ok (.cons droB_ok (.cons freB_ok (.cons newB_ok h))))))
end Go.Proofs.Ytcmknbanojcbaaa
