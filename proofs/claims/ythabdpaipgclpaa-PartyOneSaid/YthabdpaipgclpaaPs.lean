/-
  PartyOne's law.
-/
import Derived.Test.YthabdpaipgclpaaPn
import Derived.Test.YthabdpaipgclpaaProg
namespace Go.Proofs.Ythabdpaipgclpaa
open Go Go.AM Go.Proofs
theorem o3A_vc (acs : List Pa) (w : List Pt) (c : Pt) (ids : List Int) (i k j : Nat) (R : Ex → List PV → Heap → Prop) (h : br (decide ((↑j : Int) < (↑(List.length (en1 IntKind.u32 (Pt.ms c))) : Int))) (InL (en1 IntKind.u32 (Pt.ms c)) 1 (↑j : Int) ∧ br (true && fitX [CK.int IntKind.u32] 0 (List.getD (en1 IntKind.u32 (Pt.ms c)) (Int.toNat (↑j : Int)) [])) (∃ (l : List Int), ∃ (tl : Tail), ∃ (t : Int), SlIs [PV.list [] Tail.exact, PV.int IntKind.u32 (cI (List.getD (en1 IntKind.u32 (Pt.ms c)) (Int.toNat (↑j : Int)) []) 0)] [PV.list (List.map u1 l) tl, PV.int IntKind.u32 t] ∧ List.length l ≤ 1000000 ∧ br (memB l t == false) (InL (en1 IntKind.u32 (Pt.ms c)) 1 (↑j : Int) ∧ br (true && fitX [CK.int IntKind.u32] 0 (List.getD (en1 IntKind.u32 (Pt.ms c)) (Int.toNat (↑j : Int)) [])) (∃ (l : List Int), ∃ (tl : Tail), ∃ (t : Int), SlIs [PV.list (en1 IntKind.u32 (Pt.iv c)) Tail.no, PV.int IntKind.u32 (cI (List.getD (en1 IntKind.u32 (Pt.ms c)) (Int.toNat (↑j : Int)) []) 0)] [PV.list (List.map u1 l) tl, PV.int IntKind.u32 t] ∧ List.length l ≤ 1000000 ∧ br (memB l t == false) (InL (en1 IntKind.u32 (Pt.ms c)) 1 (↑j : Int) ∧ br (true && fitX [CK.int IntKind.u32] 0 (List.getD (en1 IntKind.u32 (Pt.ms c)) (Int.toNat (↑j : Int)) [])) (∃ (q : Nat), ∃ (r : Nat), ∃ (w_1 : List Pt), ∃ (m : Int), ∃ (p : Int), SlIs [PV.ptr 1 0, PV.int IntKind.u32 (cI (List.getD (en1 IntKind.u32 (Pt.ms c)) (Int.toNat (↑j : Int)) []) 0)] [PV.ptr q 0, PV.int IntKind.u32 p] ∧ BkIs [Ob.abs (rkP (rowsP w) 5), Ob.cells [PV.ptr 0 0], Ob.cells [PV.int IntKind.u32 (Pt.id c), PV.int IntKind.u32 (Pt.ld c), PV.list (en1 IntKind.u32 (Pt.ms c)) Tail.no, PV.list (en1 IntKind.u32 (Pt.iv c)) Tail.no]] q r (rkP (rowsP w_1) m) ∧ PO w_1 m ∧ InL (List.map u1 ids) 1 (↑k : Int) ∧ br (true && fitX [CK.int IntKind.u32] 0 (List.getD (List.map u1 ids) (Int.toNat (↑k : Int)) [])) (br (ofP w_1 p != cI (List.getD (List.map u1 ids) (Int.toNat (↑k : Int)) []) 0) (R Ex.ret [PV.list (List.map Pa.cs acs) Tail.no, PV.bool false, PV.ptr 1 0, PV.list [] Tail.exact, PV.int IntKind.i64 (↑i : Int), PV.list (List.map u1 ids) Tail.no, PV.list [] Tail.exact, PV.int IntKind.i64 (↑k : Int), PV.ptr 2 0, PV.int IntKind.i64 (↑j : Int)] [Ob.abs (rkP (rowsP w) 5), Ob.cells [PV.ptr 0 0], Ob.cells [PV.int IntKind.u32 (Pt.id c), PV.int IntKind.u32 (Pt.ld c), PV.list (en1 IntKind.u32 (Pt.ms c)) Tail.no, PV.list (en1 IntKind.u32 (Pt.iv c)) Tail.no]]) (InL (en1 IntKind.u32 (Pt.ms c)) 1 (↑j : Int) ∧ br (true && fitX [CK.int IntKind.u32] 0 (List.getD (en1 IntKind.u32 (Pt.ms c)) (Int.toNat (↑j : Int)) [])) (AppL [] [[PV.int IntKind.u32 (cI (List.getD (en1 IntKind.u32 (Pt.ms c)) (Int.toNat (↑j : Int)) []) 0)]] 1 4 ∧ (List.all [PV.int IntKind.u32 (cI (List.getD (en1 IntKind.u32 (Pt.ms c)) (Int.toNat (↑j : Int)) []) 0)] PV.one = true ∧ [[PV.int IntKind.u32 (cI (List.getD (en1 IntKind.u32 (Pt.ms c)) (Int.toNat (↑j : Int)) []) 0)]] ≠ []) ∧ R Ex.normal [PV.list (List.map Pa.cs acs) Tail.no, PV.bool false, PV.ptr 1 0, PV.list [] Tail.exact, PV.int IntKind.i64 (↑i : Int), PV.list (List.map u1 ids) Tail.no, PV.list [[PV.int IntKind.u32 (cI (List.getD (en1 IntKind.u32 (Pt.ms c)) (Int.toNat (↑j : Int)) []) 0)]] (Tail.tok 3), PV.int IntKind.i64 (↑k : Int), PV.ptr 2 0, PV.int IntKind.i64 (wI ((↑j : Int) + 1))] [Ob.abs (rkP (rowsP w) 5), Ob.cells [PV.ptr 0 0], Ob.cells [PV.int IntKind.u32 (Pt.id c), PV.int IntKind.u32 (Pt.ld c), PV.list (en1 IntKind.u32 (Pt.ms c)) Tail.no, PV.list (en1 IntKind.u32 (Pt.iv c)) Tail.no], Ob.tok]) False)) False) False) (R Ex.ret [PV.list (List.map Pa.cs acs) Tail.no, PV.bool false, PV.ptr 1 0, PV.list [] Tail.exact, PV.int IntKind.i64 (↑i : Int), PV.list (List.map u1 ids) Tail.no, PV.list [] Tail.exact, PV.int IntKind.i64 (↑k : Int), PV.ptr 2 0, PV.int IntKind.i64 (↑j : Int)] [Ob.abs (rkP (rowsP w) 5), Ob.cells [PV.ptr 0 0], Ob.cells [PV.int IntKind.u32 (Pt.id c), PV.int IntKind.u32 (Pt.ld c), PV.list (en1 IntKind.u32 (Pt.ms c)) Tail.no, PV.list (en1 IntKind.u32 (Pt.iv c)) Tail.no]])) False) (R Ex.ret [PV.list (List.map Pa.cs acs) Tail.no, PV.bool false, PV.ptr 1 0, PV.list [] Tail.exact, PV.int IntKind.i64 (↑i : Int), PV.list (List.map u1 ids) Tail.no, PV.list [] Tail.exact, PV.int IntKind.i64 (↑k : Int), PV.ptr 2 0, PV.int IntKind.i64 (↑j : Int)] [Ob.abs (rkP (rowsP w) 5), Ob.cells [PV.ptr 0 0], Ob.cells [PV.int IntKind.u32 (Pt.id c), PV.int IntKind.u32 (Pt.ld c), PV.list (en1 IntKind.u32 (Pt.ms c)) Tail.no, PV.list (en1 IntKind.u32 (Pt.iv c)) Tail.no]])) False) (R (Ex.exit 4) [PV.list (List.map Pa.cs acs) Tail.no, PV.bool false, PV.ptr 1 0, PV.list [] Tail.exact, PV.int IntKind.i64 (↑i : Int), PV.list (List.map u1 ids) Tail.no, PV.list [] Tail.exact, PV.int IntKind.i64 (↑k : Int), PV.ptr 2 0, PV.int IntKind.i64 (↑j : Int)] [Ob.abs (rkP (rowsP w) 5), Ob.cells [PV.ptr 0 0], Ob.cells [PV.int IntKind.u32 (Pt.id c), PV.int IntKind.u32 (Pt.ld c), PV.list (en1 IntKind.u32 (Pt.ms c)) Tail.no, PV.list (en1 IntKind.u32 (Pt.iv c)) Tail.no]])) : Holds (wpc br Try.prog gl TPX [] (fun o => match o.dst with | some 136 => 1 | some 122 => 5 | _ => 0) (subOf [1, 1, 1, 1, 0, 1, 0, 0, 1, 0, 0, 1, 1, 1, 0, 1, 0, 0, 1, 0, 0, 1, 1, 1, 0] (bodyOf Try.f8)) [] (envS [0, 2, 3, 4, 5, 6, 7, 8, 9, 11] [.list (acs.map Pa.cs) .no, .bool false, .ptr 1 0, .list [] .exact, .int .i64 i, .list (ids.map u1) .no, .list [] .exact, .int .i64 k, .ptr 2 0, .int .i64 j]) [.abs (rkP (rowsP w) 5), .cells [.ptr 0 0], .cells c.cells] (fun ex e H => R ex (List.map e [0, 2, 3, 4, 5, 6, 7, 8, 9, 11]) H)) := holds_of_eq (by kernel_rfl) h
theorem o3B_vc (acs : List Pa) (w : List Pt) (c : Pt) (ids : List Int) (i k j : Nat) (es : List Int) (R : Ex → List PV → Heap → Prop) (h : br (decide ((↑j : Int) < (↑(List.length (en1 IntKind.u32 (Pt.ms c))) : Int))) (InL (en1 IntKind.u32 (Pt.ms c)) 1 (↑j : Int) ∧ br (true && fitX [CK.int IntKind.u32] 0 (List.getD (en1 IntKind.u32 (Pt.ms c)) (Int.toNat (↑j : Int)) [])) (∃ (l : List Int), ∃ (tl : Tail), ∃ (t : Int), SlIs [PV.list (List.map u1 es) (Tail.tok 3), PV.int IntKind.u32 (cI (List.getD (en1 IntKind.u32 (Pt.ms c)) (Int.toNat (↑j : Int)) []) 0)] [PV.list (List.map u1 l) tl, PV.int IntKind.u32 t] ∧ List.length l ≤ 1000000 ∧ br (memB l t == false) (InL (en1 IntKind.u32 (Pt.ms c)) 1 (↑j : Int) ∧ br (true && fitX [CK.int IntKind.u32] 0 (List.getD (en1 IntKind.u32 (Pt.ms c)) (Int.toNat (↑j : Int)) [])) (∃ (l : List Int), ∃ (tl : Tail), ∃ (t : Int), SlIs [PV.list (en1 IntKind.u32 (Pt.iv c)) Tail.no, PV.int IntKind.u32 (cI (List.getD (en1 IntKind.u32 (Pt.ms c)) (Int.toNat (↑j : Int)) []) 0)] [PV.list (List.map u1 l) tl, PV.int IntKind.u32 t] ∧ List.length l ≤ 1000000 ∧ br (memB l t == false) (InL (en1 IntKind.u32 (Pt.ms c)) 1 (↑j : Int) ∧ br (true && fitX [CK.int IntKind.u32] 0 (List.getD (en1 IntKind.u32 (Pt.ms c)) (Int.toNat (↑j : Int)) [])) (∃ (q : Nat), ∃ (r : Nat), ∃ (w_1 : List Pt), ∃ (m : Int), ∃ (p : Int), SlIs [PV.ptr 1 0, PV.int IntKind.u32 (cI (List.getD (en1 IntKind.u32 (Pt.ms c)) (Int.toNat (↑j : Int)) []) 0)] [PV.ptr q 0, PV.int IntKind.u32 p] ∧ BkIs [Ob.abs (rkP (rowsP w) 5), Ob.cells [PV.ptr 0 0], Ob.cells [PV.int IntKind.u32 (Pt.id c), PV.int IntKind.u32 (Pt.ld c), PV.list (en1 IntKind.u32 (Pt.ms c)) Tail.no, PV.list (en1 IntKind.u32 (Pt.iv c)) Tail.no], Ob.tok] q r (rkP (rowsP w_1) m) ∧ PO w_1 m ∧ InL (List.map u1 ids) 1 (↑k : Int) ∧ br (true && fitX [CK.int IntKind.u32] 0 (List.getD (List.map u1 ids) (Int.toNat (↑k : Int)) [])) (br (ofP w_1 p != cI (List.getD (List.map u1 ids) (Int.toNat (↑k : Int)) []) 0) (R Ex.ret [PV.list (List.map Pa.cs acs) Tail.no, PV.bool false, PV.ptr 1 0, PV.list [] Tail.exact, PV.int IntKind.i64 (↑i : Int), PV.list (List.map u1 ids) Tail.no, PV.list (List.map u1 es) (Tail.tok 3), PV.int IntKind.i64 (↑k : Int), PV.ptr 2 0, PV.int IntKind.i64 (↑j : Int)] [Ob.abs (rkP (rowsP w) 5), Ob.cells [PV.ptr 0 0], Ob.cells [PV.int IntKind.u32 (Pt.id c), PV.int IntKind.u32 (Pt.ld c), PV.list (en1 IntKind.u32 (Pt.ms c)) Tail.no, PV.list (en1 IntKind.u32 (Pt.iv c)) Tail.no], Ob.tok]) (InL (en1 IntKind.u32 (Pt.ms c)) 1 (↑j : Int) ∧ br (true && fitX [CK.int IntKind.u32] 0 (List.getD (en1 IntKind.u32 (Pt.ms c)) (Int.toNat (↑j : Int)) [])) (AppL (List.map u1 es) [[PV.int IntKind.u32 (cI (List.getD (en1 IntKind.u32 (Pt.ms c)) (Int.toNat (↑j : Int)) []) 0)]] 1 4 ∧ (List.all [PV.int IntKind.u32 (cI (List.getD (en1 IntKind.u32 (Pt.ms c)) (Int.toNat (↑j : Int)) []) 0)] PV.one = true ∧ [[PV.int IntKind.u32 (cI (List.getD (en1 IntKind.u32 (Pt.ms c)) (Int.toNat (↑j : Int)) []) 0)]] ≠ []) ∧ R Ex.normal [PV.list (List.map Pa.cs acs) Tail.no, PV.bool false, PV.ptr 1 0, PV.list [] Tail.exact, PV.int IntKind.i64 (↑i : Int), PV.list (List.map u1 ids) Tail.no, PV.list (List.map u1 es ++ [[PV.int IntKind.u32 (cI (List.getD (en1 IntKind.u32 (Pt.ms c)) (Int.toNat (↑j : Int)) []) 0)]]) (Tail.tok 4), PV.int IntKind.i64 (↑k : Int), PV.ptr 2 0, PV.int IntKind.i64 (wI ((↑j : Int) + 1))] [Ob.abs (rkP (rowsP w) 5), Ob.cells [PV.ptr 0 0], Ob.cells [PV.int IntKind.u32 (Pt.id c), PV.int IntKind.u32 (Pt.ld c), PV.list (en1 IntKind.u32 (Pt.ms c)) Tail.no, PV.list (en1 IntKind.u32 (Pt.iv c)) Tail.no], Ob.dead, Ob.tok]) False)) False) False) (R Ex.ret [PV.list (List.map Pa.cs acs) Tail.no, PV.bool false, PV.ptr 1 0, PV.list [] Tail.exact, PV.int IntKind.i64 (↑i : Int), PV.list (List.map u1 ids) Tail.no, PV.list (List.map u1 es) (Tail.tok 3), PV.int IntKind.i64 (↑k : Int), PV.ptr 2 0, PV.int IntKind.i64 (↑j : Int)] [Ob.abs (rkP (rowsP w) 5), Ob.cells [PV.ptr 0 0], Ob.cells [PV.int IntKind.u32 (Pt.id c), PV.int IntKind.u32 (Pt.ld c), PV.list (en1 IntKind.u32 (Pt.ms c)) Tail.no, PV.list (en1 IntKind.u32 (Pt.iv c)) Tail.no], Ob.tok])) False) (R Ex.ret [PV.list (List.map Pa.cs acs) Tail.no, PV.bool false, PV.ptr 1 0, PV.list [] Tail.exact, PV.int IntKind.i64 (↑i : Int), PV.list (List.map u1 ids) Tail.no, PV.list (List.map u1 es) (Tail.tok 3), PV.int IntKind.i64 (↑k : Int), PV.ptr 2 0, PV.int IntKind.i64 (↑j : Int)] [Ob.abs (rkP (rowsP w) 5), Ob.cells [PV.ptr 0 0], Ob.cells [PV.int IntKind.u32 (Pt.id c), PV.int IntKind.u32 (Pt.ld c), PV.list (en1 IntKind.u32 (Pt.ms c)) Tail.no, PV.list (en1 IntKind.u32 (Pt.iv c)) Tail.no], Ob.tok])) False) (R (Ex.exit 4) [PV.list (List.map Pa.cs acs) Tail.no, PV.bool false, PV.ptr 1 0, PV.list [] Tail.exact, PV.int IntKind.i64 (↑i : Int), PV.list (List.map u1 ids) Tail.no, PV.list (List.map u1 es) (Tail.tok 3), PV.int IntKind.i64 (↑k : Int), PV.ptr 2 0, PV.int IntKind.i64 (↑j : Int)] [Ob.abs (rkP (rowsP w) 5), Ob.cells [PV.ptr 0 0], Ob.cells [PV.int IntKind.u32 (Pt.id c), PV.int IntKind.u32 (Pt.ld c), PV.list (en1 IntKind.u32 (Pt.ms c)) Tail.no, PV.list (en1 IntKind.u32 (Pt.iv c)) Tail.no], Ob.tok])) : Holds (wpc br Try.prog gl TPX [] (fun o => match o.dst with | some 136 => 1 | some 122 => 5 | _ => 0) (subOf [1, 1, 1, 1, 0, 1, 0, 0, 1, 0, 0, 1, 1, 1, 0, 1, 0, 0, 1, 0, 0, 1, 1, 1, 0] (bodyOf Try.f8)) [] (envS [0, 2, 3, 4, 5, 6, 7, 8, 9, 11] [.list (acs.map Pa.cs) .no, .bool false, .ptr 1 0, .list [] .exact, .int .i64 i, .list (ids.map u1) .no, .list (es.map u1) (.tok 3), .int .i64 k, .ptr 2 0, .int .i64 j]) [.abs (rkP (rowsP w) 5), .cells [.ptr 0 0], .cells c.cells, .tok] (fun ex e H => R ex (List.map e [0, 2, 3, 4, 5, 6, 7, 8, 9, 11]) H)) := holds_of_eq (by kernel_rfl) h
theorem o3C_vc (acs : List Pa) (w : List Pt) (c : Pt) (ids : List Int) (i k j : Nat) (es : List Int) (R : Ex → List PV → Heap → Prop) (h : br (decide ((↑j : Int) < (↑(List.length (en1 IntKind.u32 (Pt.ms c))) : Int))) (InL (en1 IntKind.u32 (Pt.ms c)) 1 (↑j : Int) ∧ br (true && fitX [CK.int IntKind.u32] 0 (List.getD (en1 IntKind.u32 (Pt.ms c)) (Int.toNat (↑j : Int)) [])) (∃ (l : List Int), ∃ (tl : Tail), ∃ (t : Int), SlIs [PV.list (List.map u1 es) (Tail.tok 2), PV.int IntKind.u32 (cI (List.getD (en1 IntKind.u32 (Pt.ms c)) (Int.toNat (↑j : Int)) []) 0)] [PV.list (List.map u1 l) tl, PV.int IntKind.u32 t] ∧ List.length l ≤ 1000000 ∧ br (memB l t == false) (InL (en1 IntKind.u32 (Pt.ms c)) 1 (↑j : Int) ∧ br (true && fitX [CK.int IntKind.u32] 0 (List.getD (en1 IntKind.u32 (Pt.ms c)) (Int.toNat (↑j : Int)) [])) (∃ (l : List Int), ∃ (tl : Tail), ∃ (t : Int), SlIs [PV.list (en1 IntKind.u32 (Pt.iv c)) Tail.no, PV.int IntKind.u32 (cI (List.getD (en1 IntKind.u32 (Pt.ms c)) (Int.toNat (↑j : Int)) []) 0)] [PV.list (List.map u1 l) tl, PV.int IntKind.u32 t] ∧ List.length l ≤ 1000000 ∧ br (memB l t == false) (InL (en1 IntKind.u32 (Pt.ms c)) 1 (↑j : Int) ∧ br (true && fitX [CK.int IntKind.u32] 0 (List.getD (en1 IntKind.u32 (Pt.ms c)) (Int.toNat (↑j : Int)) [])) (∃ (q : Nat), ∃ (r : Nat), ∃ (w_1 : List Pt), ∃ (m : Int), ∃ (p : Int), SlIs [PV.ptr 1 0, PV.int IntKind.u32 (cI (List.getD (en1 IntKind.u32 (Pt.ms c)) (Int.toNat (↑j : Int)) []) 0)] [PV.ptr q 0, PV.int IntKind.u32 p] ∧ BkIs [Ob.abs (rkP (rowsP w) 5), Ob.cells [PV.ptr 0 0], Ob.tok, Ob.cells [PV.int IntKind.u32 (Pt.id c), PV.int IntKind.u32 (Pt.ld c), PV.list (en1 IntKind.u32 (Pt.ms c)) Tail.no, PV.list (en1 IntKind.u32 (Pt.iv c)) Tail.no]] q r (rkP (rowsP w_1) m) ∧ PO w_1 m ∧ InL (List.map u1 ids) 1 (↑k : Int) ∧ br (true && fitX [CK.int IntKind.u32] 0 (List.getD (List.map u1 ids) (Int.toNat (↑k : Int)) [])) (br (ofP w_1 p != cI (List.getD (List.map u1 ids) (Int.toNat (↑k : Int)) []) 0) (R Ex.ret [PV.list (List.map Pa.cs acs) Tail.no, PV.bool false, PV.ptr 1 0, PV.list [] Tail.exact, PV.int IntKind.i64 (↑i : Int), PV.list (List.map u1 ids) Tail.no, PV.list (List.map u1 es) (Tail.tok 2), PV.int IntKind.i64 (↑k : Int), PV.ptr 3 0, PV.int IntKind.i64 (↑j : Int)] [Ob.abs (rkP (rowsP w) 5), Ob.cells [PV.ptr 0 0], Ob.tok, Ob.cells [PV.int IntKind.u32 (Pt.id c), PV.int IntKind.u32 (Pt.ld c), PV.list (en1 IntKind.u32 (Pt.ms c)) Tail.no, PV.list (en1 IntKind.u32 (Pt.iv c)) Tail.no]]) (InL (en1 IntKind.u32 (Pt.ms c)) 1 (↑j : Int) ∧ br (true && fitX [CK.int IntKind.u32] 0 (List.getD (en1 IntKind.u32 (Pt.ms c)) (Int.toNat (↑j : Int)) [])) (AppL (List.map u1 es) [[PV.int IntKind.u32 (cI (List.getD (en1 IntKind.u32 (Pt.ms c)) (Int.toNat (↑j : Int)) []) 0)]] 1 4 ∧ (List.all [PV.int IntKind.u32 (cI (List.getD (en1 IntKind.u32 (Pt.ms c)) (Int.toNat (↑j : Int)) []) 0)] PV.one = true ∧ [[PV.int IntKind.u32 (cI (List.getD (en1 IntKind.u32 (Pt.ms c)) (Int.toNat (↑j : Int)) []) 0)]] ≠ []) ∧ R Ex.normal [PV.list (List.map Pa.cs acs) Tail.no, PV.bool false, PV.ptr 1 0, PV.list [] Tail.exact, PV.int IntKind.i64 (↑i : Int), PV.list (List.map u1 ids) Tail.no, PV.list (List.map u1 es ++ [[PV.int IntKind.u32 (cI (List.getD (en1 IntKind.u32 (Pt.ms c)) (Int.toNat (↑j : Int)) []) 0)]]) (Tail.tok 4), PV.int IntKind.i64 (↑k : Int), PV.ptr 3 0, PV.int IntKind.i64 (wI ((↑j : Int) + 1))] [Ob.abs (rkP (rowsP w) 5), Ob.cells [PV.ptr 0 0], Ob.dead, Ob.cells [PV.int IntKind.u32 (Pt.id c), PV.int IntKind.u32 (Pt.ld c), PV.list (en1 IntKind.u32 (Pt.ms c)) Tail.no, PV.list (en1 IntKind.u32 (Pt.iv c)) Tail.no], Ob.tok]) False)) False) False) (R Ex.ret [PV.list (List.map Pa.cs acs) Tail.no, PV.bool false, PV.ptr 1 0, PV.list [] Tail.exact, PV.int IntKind.i64 (↑i : Int), PV.list (List.map u1 ids) Tail.no, PV.list (List.map u1 es) (Tail.tok 2), PV.int IntKind.i64 (↑k : Int), PV.ptr 3 0, PV.int IntKind.i64 (↑j : Int)] [Ob.abs (rkP (rowsP w) 5), Ob.cells [PV.ptr 0 0], Ob.tok, Ob.cells [PV.int IntKind.u32 (Pt.id c), PV.int IntKind.u32 (Pt.ld c), PV.list (en1 IntKind.u32 (Pt.ms c)) Tail.no, PV.list (en1 IntKind.u32 (Pt.iv c)) Tail.no]])) False) (R Ex.ret [PV.list (List.map Pa.cs acs) Tail.no, PV.bool false, PV.ptr 1 0, PV.list [] Tail.exact, PV.int IntKind.i64 (↑i : Int), PV.list (List.map u1 ids) Tail.no, PV.list (List.map u1 es) (Tail.tok 2), PV.int IntKind.i64 (↑k : Int), PV.ptr 3 0, PV.int IntKind.i64 (↑j : Int)] [Ob.abs (rkP (rowsP w) 5), Ob.cells [PV.ptr 0 0], Ob.tok, Ob.cells [PV.int IntKind.u32 (Pt.id c), PV.int IntKind.u32 (Pt.ld c), PV.list (en1 IntKind.u32 (Pt.ms c)) Tail.no, PV.list (en1 IntKind.u32 (Pt.iv c)) Tail.no]])) False) (R (Ex.exit 4) [PV.list (List.map Pa.cs acs) Tail.no, PV.bool false, PV.ptr 1 0, PV.list [] Tail.exact, PV.int IntKind.i64 (↑i : Int), PV.list (List.map u1 ids) Tail.no, PV.list (List.map u1 es) (Tail.tok 2), PV.int IntKind.i64 (↑k : Int), PV.ptr 3 0, PV.int IntKind.i64 (↑j : Int)] [Ob.abs (rkP (rowsP w) 5), Ob.cells [PV.ptr 0 0], Ob.tok, Ob.cells [PV.int IntKind.u32 (Pt.id c), PV.int IntKind.u32 (Pt.ld c), PV.list (en1 IntKind.u32 (Pt.ms c)) Tail.no, PV.list (en1 IntKind.u32 (Pt.iv c)) Tail.no]])) : Holds (wpc br Try.prog gl TPX [] (fun o => match o.dst with | some 136 => 1 | some 122 => 5 | _ => 0) (subOf [1, 1, 1, 1, 0, 1, 0, 0, 1, 0, 0, 1, 1, 1, 0, 1, 0, 0, 1, 0, 0, 1, 1, 1, 0] (bodyOf Try.f8)) [] (envS [0, 2, 3, 4, 5, 6, 7, 8, 9, 11] [.list (acs.map Pa.cs) .no, .bool false, .ptr 1 0, .list [] .exact, .int .i64 i, .list (ids.map u1) .no, .list (es.map u1) (.tok 2), .int .i64 k, .ptr 3 0, .int .i64 j]) [.abs (rkP (rowsP w) 5), .cells [.ptr 0 0], .tok, .cells c.cells] (fun ex e H => R ex (List.map e [0, 2, 3, 4, 5, 6, 7, 8, 9, 11]) H)) := holds_of_eq (by kernel_rfl) h
theorem o3D_vc (acs : List Pa) (w : List Pt) (c : Pt) (ids : List Int) (i k j : Nat) (es : List Int) (R : Ex → List PV → Heap → Prop) (h : br (decide ((↑j : Int) < (↑(List.length (en1 IntKind.u32 (Pt.ms c))) : Int))) (InL (en1 IntKind.u32 (Pt.ms c)) 1 (↑j : Int) ∧ br (true && fitX [CK.int IntKind.u32] 0 (List.getD (en1 IntKind.u32 (Pt.ms c)) (Int.toNat (↑j : Int)) [])) (∃ (l : List Int), ∃ (tl : Tail), ∃ (t : Int), SlIs [PV.list (List.map u1 es) (Tail.tok 4), PV.int IntKind.u32 (cI (List.getD (en1 IntKind.u32 (Pt.ms c)) (Int.toNat (↑j : Int)) []) 0)] [PV.list (List.map u1 l) tl, PV.int IntKind.u32 t] ∧ List.length l ≤ 1000000 ∧ br (memB l t == false) (InL (en1 IntKind.u32 (Pt.ms c)) 1 (↑j : Int) ∧ br (true && fitX [CK.int IntKind.u32] 0 (List.getD (en1 IntKind.u32 (Pt.ms c)) (Int.toNat (↑j : Int)) [])) (∃ (l : List Int), ∃ (tl : Tail), ∃ (t : Int), SlIs [PV.list (en1 IntKind.u32 (Pt.iv c)) Tail.no, PV.int IntKind.u32 (cI (List.getD (en1 IntKind.u32 (Pt.ms c)) (Int.toNat (↑j : Int)) []) 0)] [PV.list (List.map u1 l) tl, PV.int IntKind.u32 t] ∧ List.length l ≤ 1000000 ∧ br (memB l t == false) (InL (en1 IntKind.u32 (Pt.ms c)) 1 (↑j : Int) ∧ br (true && fitX [CK.int IntKind.u32] 0 (List.getD (en1 IntKind.u32 (Pt.ms c)) (Int.toNat (↑j : Int)) [])) (∃ (q : Nat), ∃ (r : Nat), ∃ (w_1 : List Pt), ∃ (m : Int), ∃ (p : Int), SlIs [PV.ptr 1 0, PV.int IntKind.u32 (cI (List.getD (en1 IntKind.u32 (Pt.ms c)) (Int.toNat (↑j : Int)) []) 0)] [PV.ptr q 0, PV.int IntKind.u32 p] ∧ BkIs [Ob.abs (rkP (rowsP w) 5), Ob.cells [PV.ptr 0 0], Ob.dead, Ob.cells [PV.int IntKind.u32 (Pt.id c), PV.int IntKind.u32 (Pt.ld c), PV.list (en1 IntKind.u32 (Pt.ms c)) Tail.no, PV.list (en1 IntKind.u32 (Pt.iv c)) Tail.no], Ob.tok] q r (rkP (rowsP w_1) m) ∧ PO w_1 m ∧ InL (List.map u1 ids) 1 (↑k : Int) ∧ br (true && fitX [CK.int IntKind.u32] 0 (List.getD (List.map u1 ids) (Int.toNat (↑k : Int)) [])) (br (ofP w_1 p != cI (List.getD (List.map u1 ids) (Int.toNat (↑k : Int)) []) 0) (R Ex.ret [PV.list (List.map Pa.cs acs) Tail.no, PV.bool false, PV.ptr 1 0, PV.list [] Tail.exact, PV.int IntKind.i64 (↑i : Int), PV.list (List.map u1 ids) Tail.no, PV.list (List.map u1 es) (Tail.tok 4), PV.int IntKind.i64 (↑k : Int), PV.ptr 3 0, PV.int IntKind.i64 (↑j : Int)] [Ob.abs (rkP (rowsP w) 5), Ob.cells [PV.ptr 0 0], Ob.dead, Ob.cells [PV.int IntKind.u32 (Pt.id c), PV.int IntKind.u32 (Pt.ld c), PV.list (en1 IntKind.u32 (Pt.ms c)) Tail.no, PV.list (en1 IntKind.u32 (Pt.iv c)) Tail.no], Ob.tok]) (InL (en1 IntKind.u32 (Pt.ms c)) 1 (↑j : Int) ∧ br (true && fitX [CK.int IntKind.u32] 0 (List.getD (en1 IntKind.u32 (Pt.ms c)) (Int.toNat (↑j : Int)) [])) (AppL (List.map u1 es) [[PV.int IntKind.u32 (cI (List.getD (en1 IntKind.u32 (Pt.ms c)) (Int.toNat (↑j : Int)) []) 0)]] 1 4 ∧ (List.all [PV.int IntKind.u32 (cI (List.getD (en1 IntKind.u32 (Pt.ms c)) (Int.toNat (↑j : Int)) []) 0)] PV.one = true ∧ [[PV.int IntKind.u32 (cI (List.getD (en1 IntKind.u32 (Pt.ms c)) (Int.toNat (↑j : Int)) []) 0)]] ≠ []) ∧ R Ex.normal [PV.list (List.map Pa.cs acs) Tail.no, PV.bool false, PV.ptr 1 0, PV.list [] Tail.exact, PV.int IntKind.i64 (↑i : Int), PV.list (List.map u1 ids) Tail.no, PV.list (List.map u1 es ++ [[PV.int IntKind.u32 (cI (List.getD (en1 IntKind.u32 (Pt.ms c)) (Int.toNat (↑j : Int)) []) 0)]]) (Tail.tok 5), PV.int IntKind.i64 (↑k : Int), PV.ptr 3 0, PV.int IntKind.i64 (wI ((↑j : Int) + 1))] [Ob.abs (rkP (rowsP w) 5), Ob.cells [PV.ptr 0 0], Ob.dead, Ob.cells [PV.int IntKind.u32 (Pt.id c), PV.int IntKind.u32 (Pt.ld c), PV.list (en1 IntKind.u32 (Pt.ms c)) Tail.no, PV.list (en1 IntKind.u32 (Pt.iv c)) Tail.no], Ob.dead, Ob.tok]) False)) False) False) (R Ex.ret [PV.list (List.map Pa.cs acs) Tail.no, PV.bool false, PV.ptr 1 0, PV.list [] Tail.exact, PV.int IntKind.i64 (↑i : Int), PV.list (List.map u1 ids) Tail.no, PV.list (List.map u1 es) (Tail.tok 4), PV.int IntKind.i64 (↑k : Int), PV.ptr 3 0, PV.int IntKind.i64 (↑j : Int)] [Ob.abs (rkP (rowsP w) 5), Ob.cells [PV.ptr 0 0], Ob.dead, Ob.cells [PV.int IntKind.u32 (Pt.id c), PV.int IntKind.u32 (Pt.ld c), PV.list (en1 IntKind.u32 (Pt.ms c)) Tail.no, PV.list (en1 IntKind.u32 (Pt.iv c)) Tail.no], Ob.tok])) False) (R Ex.ret [PV.list (List.map Pa.cs acs) Tail.no, PV.bool false, PV.ptr 1 0, PV.list [] Tail.exact, PV.int IntKind.i64 (↑i : Int), PV.list (List.map u1 ids) Tail.no, PV.list (List.map u1 es) (Tail.tok 4), PV.int IntKind.i64 (↑k : Int), PV.ptr 3 0, PV.int IntKind.i64 (↑j : Int)] [Ob.abs (rkP (rowsP w) 5), Ob.cells [PV.ptr 0 0], Ob.dead, Ob.cells [PV.int IntKind.u32 (Pt.id c), PV.int IntKind.u32 (Pt.ld c), PV.list (en1 IntKind.u32 (Pt.ms c)) Tail.no, PV.list (en1 IntKind.u32 (Pt.iv c)) Tail.no], Ob.tok])) False) (R (Ex.exit 4) [PV.list (List.map Pa.cs acs) Tail.no, PV.bool false, PV.ptr 1 0, PV.list [] Tail.exact, PV.int IntKind.i64 (↑i : Int), PV.list (List.map u1 ids) Tail.no, PV.list (List.map u1 es) (Tail.tok 4), PV.int IntKind.i64 (↑k : Int), PV.ptr 3 0, PV.int IntKind.i64 (↑j : Int)] [Ob.abs (rkP (rowsP w) 5), Ob.cells [PV.ptr 0 0], Ob.dead, Ob.cells [PV.int IntKind.u32 (Pt.id c), PV.int IntKind.u32 (Pt.ld c), PV.list (en1 IntKind.u32 (Pt.ms c)) Tail.no, PV.list (en1 IntKind.u32 (Pt.iv c)) Tail.no], Ob.tok])) : Holds (wpc br Try.prog gl TPX [] (fun o => match o.dst with | some 136 => 1 | some 122 => 5 | _ => 0) (subOf [1, 1, 1, 1, 0, 1, 0, 0, 1, 0, 0, 1, 1, 1, 0, 1, 0, 0, 1, 0, 0, 1, 1, 1, 0] (bodyOf Try.f8)) [] (envS [0, 2, 3, 4, 5, 6, 7, 8, 9, 11] [.list (acs.map Pa.cs) .no, .bool false, .ptr 1 0, .list [] .exact, .int .i64 i, .list (ids.map u1) .no, .list (es.map u1) (.tok 4), .int .i64 k, .ptr 3 0, .int .i64 j]) [.abs (rkP (rowsP w) 5), .cells [.ptr 0 0], .dead, .cells c.cells, .tok] (fun ex e H => R ex (List.map e [0, 2, 3, 4, 5, 6, 7, 8, 9, 11]) H)) := holds_of_eq (by kernel_rfl) h
def o3a_l : LSp := fun e H Q => ∃ (acs : List Pa) (w : List Pt) (c : Pt) (ids : List Int) (i k : Nat), PO w 5 ∧ c ∈ w ∧ k < ids.length ∧ ids.getD k 0 = c.id ∧ SlIs (List.map e [0, 2, 3, 4, 5, 6, 7, 8, 9, 11]) [.list (acs.map Pa.cs) .no, .bool false, .ptr 1 0, .list [] .exact, .int .i64 i, .list (ids.map u1) .no, .list [] .exact, .int .i64 k, .ptr 2 0, .int .i64 0] ∧ HpIs H [.abs (rkP (rowsP w) 5), .cells [.ptr 0 0], .cells c.cells] ∧
  Q (.exit 4) (envS [0, 2, 3, 4, 5, 6, 7, 8, 9, 11] [.list (acs.map Pa.cs) .no, .bool false, .ptr 1 0, .list [] .exact, .int .i64 i, .list (ids.map u1) .no, .list (c.ms.map u1) (.tok 3), .int .i64 k, .ptr 2 0, .int .i64 c.ms.length]) [.abs (rkP (rowsP w) 5), .cells [.ptr 0 0], .cells c.cells, .tok]
theorem take_fresh {l : List Int} (h : l.Nodup) {j : Nat} (hj : j < l.length) : l.getD j 0 ∉ l.take j := fun q => by
  obtain ⟨t, ht, e⟩ := List.mem_iff_getElem.1 q
  rw [List.length_take] at ht
  rw [List.getElem_take] at e
  have hp := List.pairwise_iff_getElem.1 (show List.Pairwise (fun a b => a ≠ b) l from h)
  refine hp t j (by omega) hj (by omega) ?_
  rw [e, getD_eq' hj]
theorem o3a_l_ok : ∀ e H Q, o3a_l e H Q → AW Try.prog gl Try.f8.ntmps (.loop (subOf [1, 1, 1, 1, 0, 1, 0, 0, 1, 0, 0, 1, 1, 1, 0, 1, 0, 0, 1, 0, 0, 1, 1, 1, 0] (bodyOf Try.f8))) Q e H := by
  rintro e H Q ⟨acs, w, c, ids, i, k, ro, hc, hk, hid, he, hH, hQ⟩
  have hH2 : H = [.abs (rkP (rowsP w) 5), .cells [.ptr 0 0], .cells c.cells] := hH
  have ok := ro.cs c hc
  have h1 := ok.n1
  have h4 := ok.n4
  have hfresh : ∀ j, j < c.ms.length → c.ms.getD j 0 ∉ c.ms.take j := fun j hj => take_fresh ok.mn hj
  refine aw_growif (f := u1) (acc := fun j => c.ms.take j) (I := fun j => j ≤ c.ms.length) (m := fun j => c.ms.length - j) (hn := fun o => match o.dst with | some 136 => 1 | some 122 => 5 | _ => 0) gl_low TPX_ok (.nil _ _ _ _ _) [0, 2, 3, 4, 5, 6, 7, 8, 9, 11] (fun r j => [.list (acs.map Pa.cs) .no, .bool false, .ptr 1 0, .list [] .exact, .int .i64 i, .list (ids.map u1) .no, r, .int .i64 k, .ptr 2 0, .int .i64 j]) [.abs (rkP (rowsP w) 5), .cells [.ptr 0 0], .cells c.cells] (0 : Nat)
    (lowH_of (by
      intro ob ho
      simp only [List.mem_cons, List.not_mem_nil, or_false] at ho
      rcases ho with rfl | rfl | rfl
      · trivial
      · exact low_one (.ptr _ _ (by simp))
      · exact low_pt c)) (fun _ _ a _ => low_u1 a) (fun es j kk _ h => .same (low_pal acs) (.same (.bool _) (.same (.ptr _ _ (by simp)) (.same (low_list NT.exact (by simp)) (.same (.int _ _) (.same (low_us ids) (.row h (.same (.int _ _) (.same (.ptr _ _ (by simp)) (.same (.int _ _) (.nil))))))))))) (fun j _ w hw => by
      simp only [List.mem_cons, List.not_mem_nil, or_false] at hw
      rcases hw with rfl | rfl | rfl | rfl | rfl | rfl | rfl | rfl | rfl | rfl
      · exact low_pal acs
      · exact .bool _
      · exact .ptr _ _ (by simp)
      · exact low_list NT.exact (by simp)
      · exact .int _ _
      · exact low_us ids
      · exact low_list NT.exact (by simp)
      · exact .int _ _
      · exact .ptr _ _ (by simp)
      · exact .int _ _) (Nat.zero_le _) (by rfl) he hH2 ?_ ?_
  · intro j hj ha
    have hj' : j ≤ c.ms.length := hj
    have h : j < c.ms.length := by
      refine Classical.byContradiction fun q => ?_
      have e2 : j = c.ms.length := by omega
      rw [e2, List.take_length] at ha
      rw [ha] at h1; exact absurd h1 (by decide)
    have hs := take_snoc 0 h
    refine o3A_vc acs w c ids i k j _ ?_
    simp only [br_if, dt, en1_length, toNat_nat]
    rw [if_pos (by omega)]
    refine ⟨en1_in _ _ _ (by omega) (by omega), ?_⟩
    rw [en1_get _ _ _ h, if_pos (by rfl)]
    obtain ⟨x, hx⟩ : ∃ x, x = c.ms.getD j 0 := ⟨_, rfl⟩
    have hxm : x ∈ c.ms := by rw [hx]; exact getD_mem h
    have cx : cI [PV.int .u32 x] 0 = x := rfl
    simp only [← hx, cx]
    refine ⟨[], _, x, rfl, (by simp), ?_⟩
    rw [if_pos (show (memB ([]) x == false) = true by rw [show memB ([]) x = false from eq_false_of_ne_true fun q => absurd (memB_iff.1 q) List.not_mem_nil]; rfl)]
    refine ⟨en1_in _ _ _ (by omega) (by omega), ?_⟩
    rw [if_pos (by rfl)]
    refine ⟨c.iv, .no, x, rfl, ok.sm.iv, ?_⟩
    rw [if_pos (show (memB c.iv x == false) = true by rw [show memB c.iv x = false from eq_false_of_ne_true fun q => ok.dj x hxm (memB_iff.1 q)]; rfl)]
    refine ⟨en1_in _ _ _ (by omega) (by omega), ?_⟩
    rw [if_pos (by rfl)]
    refine ⟨1, 0, w, 5, x, rfl, ⟨rfl, rfl⟩, ro, (by rw [inL_u1]; exact hk), ?_⟩
    rw [getD_map 0 hk, if_pos (by rfl)]
    rw [if_neg (show ¬ (ofP w x != cI (u1 (ids.getD k 0)) 0) = true by rw [of_mem ro hc hxm, hid]; simp [cI, u1])]
    refine ⟨en1_in _ _ _ (by omega) (by omega), ?_⟩
    rw [if_pos (by rfl)]
    refine ⟨appL_map (l := []) (by_ := 4) u1_len x (by show (0 + 1) * 4 ≤ _; decide), one_row one_u1 x, ?_⟩
    exact growQ_add (j + 1) (show c.ms.length - (j + 1) < c.ms.length - j by omega) h hs (ne_snoc _ _) [.tok] 3 rfl rfl (by simp) (by rw [wI_succ h (by omega)]; rw [ha, hx]; rfl)
  · intro j hj ha
    have hj' : j ≤ c.ms.length := hj
    refine o3B_vc acs w c ids i k j (c.ms.take j) _ ?_
    simp only [br_if, dt, en1_length, toNat_nat]
    by_cases h : j < c.ms.length
    · have hs := take_snoc 0 h
      have hfr := hfresh j h
      rw [if_pos (by omega)]
      refine ⟨en1_in _ _ _ (by omega) (by omega), ?_⟩
      rw [en1_get _ _ _ h, if_pos (by rfl)]
      obtain ⟨x, hx⟩ : ∃ x, x = c.ms.getD j 0 := ⟨_, rfl⟩
      have hxm : x ∈ c.ms := by rw [hx]; exact getD_mem h
      have cx : cI [PV.int .u32 x] 0 = x := rfl
      simp only [← hx, cx]
      refine ⟨c.ms.take j, _, x, rfl, (by rw [List.length_take]; omega), ?_⟩
      rw [if_pos (show (memB (c.ms.take j) x == false) = true by rw [show memB (c.ms.take j) x = false from eq_false_of_ne_true fun q => hfr (by rw [← hx]; exact memB_iff.1 q)]; rfl)]
      refine ⟨en1_in _ _ _ (by omega) (by omega), ?_⟩
      rw [if_pos (by rfl)]
      refine ⟨c.iv, .no, x, rfl, ok.sm.iv, ?_⟩
      rw [if_pos (show (memB c.iv x == false) = true by rw [show memB c.iv x = false from eq_false_of_ne_true fun q => ok.dj x hxm (memB_iff.1 q)]; rfl)]
      refine ⟨en1_in _ _ _ (by omega) (by omega), ?_⟩
      rw [if_pos (by rfl)]
      refine ⟨1, 0, w, 5, x, rfl, ⟨rfl, rfl⟩, ro, (by rw [inL_u1]; exact hk), ?_⟩
      rw [getD_map 0 hk, if_pos (by rfl)]
      rw [if_neg (show ¬ (ofP w x != cI (u1 (ids.getD k 0)) 0) = true by rw [of_mem ro hc hxm, hid]; simp [cI, u1])]
      refine ⟨en1_in _ _ _ (by omega) (by omega), ?_⟩
      rw [if_pos (by rfl)]
      refine ⟨appL_map u1_len (c.ms.take j) x (by rw [List.length_take]; omega), one_row one_u1 x, ?_⟩
      exact growQ_add (j + 1) (show c.ms.length - (j + 1) < c.ms.length - j by omega) h hs (ne_snoc _ _) [.dead, .tok] 4 rfl rfl (by simp) (by rw [wI_succ h (by omega)]; rw [List.map_append, hx]; rfl)
    · rw [if_neg (by omega)]
      have e2 : j = c.ms.length := by omega
      subst e2
      rw [List.take_length]
      exact growQ_exit hQ
def o3b_l : LSp := fun e H Q => ∃ (acs : List Pa) (w : List Pt) (c : Pt) (ids : List Int) (i k : Nat) (met : List Int), PO w 5 ∧ c ∈ w ∧ k < ids.length ∧ ids.getD k 0 = c.id ∧ (∀ x ∈ c.ms, x ∉ met) ∧ met.length ≤ 1000 ∧ SlIs (List.map e [0, 2, 3, 4, 5, 6, 7, 8, 9, 11]) [.list (acs.map Pa.cs) .no, .bool false, .ptr 1 0, .list [] .exact, .int .i64 i, .list (ids.map u1) .no, .list (met.map u1) (.tok 2), .int .i64 k, .ptr 3 0, .int .i64 0] ∧ HpIs H [.abs (rkP (rowsP w) 5), .cells [.ptr 0 0], .tok, .cells c.cells] ∧
  Q (.exit 4) (envS [0, 2, 3, 4, 5, 6, 7, 8, 9, 11] [.list (acs.map Pa.cs) .no, .bool false, .ptr 1 0, .list [] .exact, .int .i64 i, .list (ids.map u1) .no, .list ((met ++ c.ms).map u1) (.tok 4), .int .i64 k, .ptr 3 0, .int .i64 c.ms.length]) [.abs (rkP (rowsP w) 5), .cells [.ptr 0 0], .dead, .cells c.cells, .tok]
def o3V (acs : List Pa) (ids : List Int) (i k : Nat) (met ms : List Int) : Nat → List PV
  | 0 => [.list (acs.map Pa.cs) .no, .bool false, .ptr 1 0, .list [] .exact, .int .i64 i, .list (ids.map u1) .no, .list (met.map u1) (.tok 2), .int .i64 k, .ptr 3 0, .int .i64 0]
  | j + 1 => [.list (acs.map Pa.cs) .no, .bool false, .ptr 1 0, .list [] .exact, .int .i64 i, .list (ids.map u1) .no, .list ((met ++ ms.take (j + 1)).map u1) (.tok 4), .int .i64 k, .ptr 3 0, .int .i64 ((j + 1 : Nat) : Int)]
def o3H (w : List Pt) (c : Pt) : Nat → Heap
  | 0 => [.abs (rkP (rowsP w) 5), .cells [.ptr 0 0], .tok, .cells c.cells]
  | _ + 1 => [.abs (rkP (rowsP w) 5), .cells [.ptr 0 0], .dead, .cells c.cells, .tok]
theorem o3B_low (w : List Pt) (c : Pt) : ∀ (o : Nat) cs, ([.abs (rkP (rowsP w) 5), .cells [.ptr 0 0], .dead, .cells c.cells] : Heap)[o]? = some (.cells cs) → ∀ x ∈ cs, Low 4 x := lowH_of (B := [.abs (rkP (rowsP w) 5), .cells [.ptr 0 0], .dead, .cells c.cells]) (by
  intro ob ho
  simp only [List.mem_cons, List.not_mem_nil, or_false] at ho
  rcases ho with rfl | rfl | rfl | rfl
  · trivial
  · exact low_one (.ptr _ _ (by simp))
  · trivial
  · exact low_pt c)
set_option maxRecDepth 20000 in
theorem o3b_l_ok : ∀ e H Q, o3b_l e H Q → AW Try.prog gl Try.f8.ntmps (.loop (subOf [1, 1, 1, 1, 0, 1, 0, 0, 1, 0, 0, 1, 1, 1, 0, 1, 0, 0, 1, 0, 0, 1, 1, 1, 0] (bodyOf Try.f8))) Q e H := by
  rintro e H Q ⟨acs, w, c, ids, i, k, met, ro, hc, hk, hid, hmet, hml, he, hH, hQ⟩
  have hH2 : H = [.abs (rkP (rowsP w) 5), .cells [.ptr 0 0], .tok, .cells c.cells] := hH
  have ok := ro.cs c hc
  have h1 := ok.n1
  have h4 := ok.n4
  subst hH2
  have hfresh : ∀ j, j < c.ms.length → c.ms.getD j 0 ∉ met ++ c.ms.take j := fun j hj q => by
    rcases List.mem_append.1 q with q | q
    · exact hmet _ (getD_mem hj) q
    · exact take_fresh ok.mn hj q
  have low : ∀ (kk : Nat) (es : List Int) (j : Int), RVs 4 kk [PV.list (acs.map Pa.cs) .no, .bool false, .ptr 1 0, .list [] .exact, .int .i64 i, .list (ids.map u1) .no, .list (es.map u1) (.tok kk), .int .i64 k, .ptr 3 0, .int .i64 j] [PV.list (acs.map Pa.cs) .no, .bool false, .ptr 1 0, .list [] .exact, .int .i64 i, .list (ids.map u1) .no, .list (es.map u1) (.tok 4), .int .i64 k, .ptr 3 0, .int .i64 j] := fun kk es j => by
    have h : ∀ y ∈ (es.map u1).flatten, Low 4 y := low_map fun a _ => low_u1 a
    exact .same (low_pal acs) (.same (.bool _) (.same (.ptr _ _ (by decide)) (.same (low_list NT.exact (by simp)) (.same (.int _ _) (.same (low_us ids) (.row h (.same (.int _ _) (.same (.ptr _ _ (by decide)) (.same (.int _ _) (.nil))))))))))
  refine aw_loop6a gl_low (σ := Nat) [0, 2, 3, 4, 5, 6, 7, 8, 9, 11] (fun j => j ≤ c.ms.length) (o3V acs ids i k met c.ms) (o3H w c) (fun j => c.ms.length - j) 0 (Nat.zero_le _) he rfl ?_
  intro j hj
  have hj' : j ≤ c.ms.length := hj
  cases j with
  | zero =>
    refine (wpc_sound TPX_ok _ [] (.nil _ _ _ _ _) _ _ _ (o3C_vc acs w c ids i k 0 met (loopP Q 4 [0, 2, 3, 4, 5, 6, 7, 8, 9, 11] (fun j => j ≤ c.ms.length) (o3V acs ids i k met c.ms) (o3H w c) (fun j => c.ms.length - j) 0) ?_).out)
    have h : 0 < c.ms.length := by omega
    have hfr := hfresh 0 h
    rw [List.take_zero, List.append_nil] at hfr
    have hs := take_snoc 0 h
    simp only [br_if, dt, en1_length, toNat_nat]
    rw [if_pos (by omega)]
    refine ⟨en1_in _ _ _ (by omega) (by omega), ?_⟩
    rw [en1_get _ _ _ h, if_pos (by rfl)]
    obtain ⟨x, hx⟩ : ∃ x, x = c.ms.getD 0 0 := ⟨_, rfl⟩
    have hxm : x ∈ c.ms := by rw [hx]; exact getD_mem h
    have cx : cI [PV.int .u32 x] 0 = x := rfl
    simp only [← hx, cx]
    refine ⟨met, _, x, rfl, (by omega), ?_⟩
    rw [if_pos (show (memB (met) x == false) = true by rw [show memB (met) x = false from eq_false_of_ne_true fun q => hfr (by rw [← hx]; exact memB_iff.1 q)]; rfl)]
    refine ⟨en1_in _ _ _ (by omega) (by omega), ?_⟩
    rw [if_pos (by rfl)]
    refine ⟨c.iv, .no, x, rfl, ok.sm.iv, ?_⟩
    rw [if_pos (show (memB c.iv x == false) = true by rw [show memB c.iv x = false from eq_false_of_ne_true fun q => ok.dj x hxm (memB_iff.1 q)]; rfl)]
    refine ⟨en1_in _ _ _ (by omega) (by omega), ?_⟩
    rw [if_pos (by rfl)]
    refine ⟨1, 0, w, 5, x, rfl, ⟨rfl, rfl⟩, ro, (by rw [inL_u1]; exact hk), ?_⟩
    rw [getD_map 0 hk, if_pos (by rfl)]
    rw [if_neg (show ¬ (ofP w x != cI (u1 (ids.getD k 0)) 0) = true by rw [of_mem ro hc hxm, hid]; simp [cI, u1])]
    refine ⟨en1_in _ _ _ (by omega) (by omega), ?_⟩
    rw [if_pos (by rfl)]
    refine ⟨appL_map u1_len met x (by omega), one_row one_u1 x, ?_⟩
    have ev : met.map u1 ++ [[PV.int .u32 x]] = (met ++ c.ms.take (0 + 1)).map u1 := by
      rw [hs, List.take_zero, List.nil_append, List.map_append, ← hx]; rfl
    rw [wI_succ h (by omega), ev]
    exact ⟨1, (show c.ms.length - 1 < c.ms.length - 0 by omega), (show 1 ≤ c.ms.length by omega), relab_row (X := [.tok]) rfl (o3B_low w c) (Nat.le_refl _) rfl (low 4 _ _)⟩
  | succ j' =>
    refine (wpc_sound TPX_ok _ [] (.nil _ _ _ _ _) _ _ _ (o3D_vc acs w c ids i k (j' + 1) (met ++ c.ms.take (j' + 1)) (loopP Q 4 [0, 2, 3, 4, 5, 6, 7, 8, 9, 11] (fun j => j ≤ c.ms.length) (o3V acs ids i k met c.ms) (o3H w c) (fun j => c.ms.length - j) (j' + 1)) ?_).out)
    obtain ⟨j, hjd⟩ : ∃ j : Nat, j = j' + 1 := ⟨_, rfl⟩
    rw [← hjd] at hj' ⊢
    simp only [br_if, dt, en1_length, toNat_nat]
    by_cases h : j < c.ms.length
    · have hfr := hfresh j h
      have hs := take_snoc 0 h
      rw [if_pos (by omega)]
      refine ⟨en1_in _ _ _ (by omega) (by omega), ?_⟩
      rw [en1_get _ _ _ h, if_pos (by rfl)]
      obtain ⟨x, hx⟩ : ∃ x, x = c.ms.getD j 0 := ⟨_, rfl⟩
      have hxm : x ∈ c.ms := by rw [hx]; exact getD_mem h
      have cx : cI [PV.int .u32 x] 0 = x := rfl
      simp only [← hx, cx]
      refine ⟨met ++ c.ms.take j, _, x, rfl, (by rw [List.length_append, List.length_take]; omega), ?_⟩
      rw [if_pos (show (memB (met ++ c.ms.take j) x == false) = true by rw [show memB (met ++ c.ms.take j) x = false from eq_false_of_ne_true fun q => hfr (by rw [← hx]; exact memB_iff.1 q)]; rfl)]
      refine ⟨en1_in _ _ _ (by omega) (by omega), ?_⟩
      rw [if_pos (by rfl)]
      refine ⟨c.iv, .no, x, rfl, ok.sm.iv, ?_⟩
      rw [if_pos (show (memB c.iv x == false) = true by rw [show memB c.iv x = false from eq_false_of_ne_true fun q => ok.dj x hxm (memB_iff.1 q)]; rfl)]
      refine ⟨en1_in _ _ _ (by omega) (by omega), ?_⟩
      rw [if_pos (by rfl)]
      refine ⟨1, 0, w, 5, x, rfl, ⟨rfl, rfl⟩, ro, (by rw [inL_u1]; exact hk), ?_⟩
      rw [getD_map 0 hk, if_pos (by rfl)]
      rw [if_neg (show ¬ (ofP w x != cI (u1 (ids.getD k 0)) 0) = true by rw [of_mem ro hc hxm, hid]; simp [cI, u1])]
      refine ⟨en1_in _ _ _ (by omega) (by omega), ?_⟩
      rw [if_pos (by rfl)]
      refine ⟨appL_map u1_len (met ++ c.ms.take j) x (by rw [List.length_append, List.length_take]; omega), one_row one_u1 x, ?_⟩
      have ev : (met ++ c.ms.take j).map u1 ++ [[PV.int .u32 x]] = (met ++ c.ms.take (j + 1)).map u1 := by
        rw [hs, List.map_append, List.map_append, List.map_append, ← hx, List.append_assoc]; rfl
      rw [wI_succ h (by omega), ev]
      exact ⟨j + 1, (show c.ms.length - (j + 1) < c.ms.length - j by omega), h, relab_row (X := [.dead, .tok]) rfl (o3B_low w c) (show 4 ≤ 5 by decide) rfl (low 5 _ _)⟩
    · rw [if_neg (by omega)]
      have e2 : j = c.ms.length := by omega
      rw [e2, List.take_length]
      exact ⟨_, _, .refl _, .refl _, hQ⟩
def o3_l : LSp := fun e H Q => o3a_l e H Q ∨ o3b_l e H Q
theorem o3_l_ok : ∀ e H Q, o3_l e H Q → AW Try.prog gl Try.f8.ntmps (.loop (subOf [1, 1, 1, 1, 0, 1, 0, 0, 1, 0, 0, 1, 1, 1, 0, 1, 0, 0, 1, 0, 0, 1, 1, 1, 0] (bodyOf Try.f8))) Q e H := fun e H Q h => h.elim (o3a_l_ok e H Q) (o3b_l_ok e H Q)
theorem o3_l_ok2 : ∀ e H Q, o3_l e H Q → AW Try.prog gl Try.f8.ntmps (.loop (subOf [1, 0, 0, 1, 1, 1, 0] (subOf [1, 1, 1, 1, 0, 1, 0, 0, 1, 0, 0, 1, 1, 1, 0, 1, 0] (bodyOf Try.f8)))) Q e H := by
  rw [show subOf [1, 0, 0, 1, 1, 1, 0] (subOf [1, 1, 1, 1, 0, 1, 0, 0, 1, 0, 0, 1, 1, 1, 0, 1, 0] (bodyOf Try.f8)) = subOf [1, 1, 1, 1, 0, 1, 0, 0, 1, 0, 0, 1, 1, 1, 0, 1, 0, 0, 1, 0, 0, 1, 1, 1, 0] (bodyOf Try.f8) from by kernel_rfl]; exact o3_l_ok
theorem o2A_vc (acs : List Pa) (w : List Pt) (ids : List Int) (i k : Nat) (R : Ex → List PV → Heap → Prop) (h : br (decide ((↑k : Int) < (↑(List.length (List.map u1 ids)) : Int))) (InL (List.map u1 ids) 1 (↑k : Int) ∧ br (true && fitX [CK.int IntKind.u32] 0 (List.getD (List.map u1 ids) (Int.toNat (↑k : Int)) [])) (∃ (q : Nat), ∃ (r : Nat), ∃ (w_1 : List Pt), ∃ (m : Int), ∃ (t : Int), SlIs [PV.ptr 1 0, PV.int IntKind.u32 (cI (List.getD (List.map u1 ids) (Int.toNat (↑k : Int)) []) 0)] [PV.ptr q 0, PV.int IntKind.u32 t] ∧ BkIs [Ob.abs (rkP (rowsP w) 5), Ob.cells [PV.ptr 0 0]] q r (rkP (rowsP w_1) m) ∧ PO w_1 m ∧ br ((!hasG Pt.id w_1 t) == false) (InL (List.map u1 ids) 1 (↑k : Int) ∧ br (true && fitX [CK.int IntKind.u32] 0 (List.getD (List.map u1 ids) (Int.toNat (↑k : Int)) [])) (br ((Pt.id (getG Pt.id w_1 t) != cI (List.getD (List.map u1 ids) (Int.toNat (↑k : Int)) []) 0) == false) (br (decide ((↑(List.length (en1 IntKind.u32 (Pt.ms (getG Pt.id w_1 t)))) : Int) < 1) == false) (br (decide (wI ((↑(List.length (en1 IntKind.u32 (Pt.ms (getG Pt.id w_1 t)))) : Int) + (↑(List.length (en1 IntKind.u32 (Pt.iv (getG Pt.id w_1 t)))) : Int)) < 2) == false) (br (decide (wI ((↑(List.length (en1 IntKind.u32 (Pt.ms (getG Pt.id w_1 t)))) : Int) + (↑(List.length (en1 IntKind.u32 (Pt.iv (getG Pt.id w_1 t)))) : Int)) > 4) == false) (∃ (l : List Int), ∃ (tl : Tail), ∃ (t_1 : Int), SlIs [PV.list (en1 IntKind.u32 (Pt.ms (getG Pt.id w_1 t))) Tail.no, PV.int IntKind.u32 (Pt.ld (getG Pt.id w_1 t))] [PV.list (List.map u1 l) tl, PV.int IntKind.u32 t_1] ∧ List.length l ≤ 1000000 ∧ br (!memB l t_1) (R Ex.ret [PV.list (List.map Pa.cs acs) Tail.no, PV.bool false, PV.ptr 1 0, PV.list [] Tail.exact, PV.int IntKind.i64 (↑i : Int), PV.list (List.map u1 ids) Tail.no, PV.list [] Tail.exact, PV.int IntKind.i64 (↑k : Int)] [Ob.abs (rkP (rowsP w) 5), Ob.cells [PV.ptr 0 0], Ob.cells [PV.int IntKind.u32 (Pt.id (getG Pt.id w_1 t)), PV.int IntKind.u32 (Pt.ld (getG Pt.id w_1 t)), PV.list (en1 IntKind.u32 (Pt.ms (getG Pt.id w_1 t))) Tail.no, PV.list (en1 IntKind.u32 (Pt.iv (getG Pt.id w_1 t))) Tail.no]]) ((∃ (acs_1 : List Pa), ∃ (w_2 : List Pt), ∃ (c : Pt), ∃ (ids_1 : List Int), ∃ (i_1 : Nat), ∃ (k_1 : Nat), PO w_2 5 ∧ c ∈ w_2 ∧ k_1 < List.length ids_1 ∧ List.getD ids_1 k_1 0 = Pt.id c ∧ SlIs [PV.list (List.map Pa.cs acs) Tail.no, PV.bool false, PV.ptr 1 0, PV.list [] Tail.exact, PV.int IntKind.i64 (↑i : Int), PV.list (List.map u1 ids) Tail.no, PV.list [] Tail.exact, PV.int IntKind.i64 (↑k : Int), PV.ptr 2 0, PV.int IntKind.i64 0] [PV.list (List.map Pa.cs acs_1) Tail.no, PV.bool false, PV.ptr 1 0, PV.list [] Tail.exact, PV.int IntKind.i64 (↑i_1 : Int), PV.list (List.map u1 ids_1) Tail.no, PV.list [] Tail.exact, PV.int IntKind.i64 (↑k_1 : Int), PV.ptr 2 0, PV.int IntKind.i64 0] ∧ HpIs [Ob.abs (rkP (rowsP w) 5), Ob.cells [PV.ptr 0 0], Ob.cells [PV.int IntKind.u32 (Pt.id (getG Pt.id w_1 t)), PV.int IntKind.u32 (Pt.ld (getG Pt.id w_1 t)), PV.list (en1 IntKind.u32 (Pt.ms (getG Pt.id w_1 t))) Tail.no, PV.list (en1 IntKind.u32 (Pt.iv (getG Pt.id w_1 t))) Tail.no]] [Ob.abs (rkP (rowsP w_2) 5), Ob.cells [PV.ptr 0 0], Ob.cells [PV.int IntKind.u32 (Pt.id c), PV.int IntKind.u32 (Pt.ld c), PV.list (en1 IntKind.u32 (Pt.ms c)) Tail.no, PV.list (en1 IntKind.u32 (Pt.iv c)) Tail.no]] ∧ R Ex.normal [PV.list (List.map Pa.cs acs_1) Tail.no, PV.bool false, PV.ptr 1 0, PV.list [] Tail.exact, PV.int IntKind.i64 (↑i_1 : Int), PV.list (List.map u1 ids_1) Tail.no, PV.list (List.map u1 (Pt.ms c)) (Tail.tok 3), PV.int IntKind.i64 (wI ((↑k_1 : Int) + 1))] [Ob.abs (rkP (rowsP w_2) 5), Ob.cells [PV.ptr 0 0], Ob.cells [PV.int IntKind.u32 (Pt.id c), PV.int IntKind.u32 (Pt.ld c), PV.list (en1 IntKind.u32 (Pt.ms c)) Tail.no, PV.list (en1 IntKind.u32 (Pt.iv c)) Tail.no], Ob.tok]) ∨ ∃ (acs_1 : List Pa), ∃ (w_2 : List Pt), ∃ (c : Pt), ∃ (ids_1 : List Int), ∃ (i_1 : Nat), ∃ (k_1 : Nat), ∃ (met : List Int), PO w_2 5 ∧ c ∈ w_2 ∧ k_1 < List.length ids_1 ∧ List.getD ids_1 k_1 0 = Pt.id c ∧ (∀ (x : Int), x ∈ Pt.ms c → ¬x ∈ met) ∧ List.length met ≤ 1000 ∧ SlIs [PV.list (List.map Pa.cs acs) Tail.no, PV.bool false, PV.ptr 1 0, PV.list [] Tail.exact, PV.int IntKind.i64 (↑i : Int), PV.list (List.map u1 ids) Tail.no, PV.list [] Tail.exact, PV.int IntKind.i64 (↑k : Int), PV.ptr 2 0, PV.int IntKind.i64 0] [PV.list (List.map Pa.cs acs_1) Tail.no, PV.bool false, PV.ptr 1 0, PV.list [] Tail.exact, PV.int IntKind.i64 (↑i_1 : Int), PV.list (List.map u1 ids_1) Tail.no, PV.list (List.map u1 met) (Tail.tok 2), PV.int IntKind.i64 (↑k_1 : Int), PV.ptr 3 0, PV.int IntKind.i64 0] ∧ HpIs [Ob.abs (rkP (rowsP w) 5), Ob.cells [PV.ptr 0 0], Ob.cells [PV.int IntKind.u32 (Pt.id (getG Pt.id w_1 t)), PV.int IntKind.u32 (Pt.ld (getG Pt.id w_1 t)), PV.list (en1 IntKind.u32 (Pt.ms (getG Pt.id w_1 t))) Tail.no, PV.list (en1 IntKind.u32 (Pt.iv (getG Pt.id w_1 t))) Tail.no]] [Ob.abs (rkP (rowsP w_2) 5), Ob.cells [PV.ptr 0 0], Ob.tok, Ob.cells [PV.int IntKind.u32 (Pt.id c), PV.int IntKind.u32 (Pt.ld c), PV.list (en1 IntKind.u32 (Pt.ms c)) Tail.no, PV.list (en1 IntKind.u32 (Pt.iv c)) Tail.no]] ∧ R Ex.normal [PV.list (List.map Pa.cs acs_1) Tail.no, PV.bool false, PV.ptr 1 0, PV.list [] Tail.exact, PV.int IntKind.i64 (↑i_1 : Int), PV.list (List.map u1 ids_1) Tail.no, PV.list (List.map u1 (met ++ Pt.ms c)) (Tail.tok 4), PV.int IntKind.i64 (wI ((↑k_1 : Int) + 1))] [Ob.abs (rkP (rowsP w_2) 5), Ob.cells [PV.ptr 0 0], Ob.dead, Ob.cells [PV.int IntKind.u32 (Pt.id c), PV.int IntKind.u32 (Pt.ld c), PV.list (en1 IntKind.u32 (Pt.ms c)) Tail.no, PV.list (en1 IntKind.u32 (Pt.iv c)) Tail.no], Ob.tok])) (R Ex.ret [PV.list (List.map Pa.cs acs) Tail.no, PV.bool false, PV.ptr 1 0, PV.list [] Tail.exact, PV.int IntKind.i64 (↑i : Int), PV.list (List.map u1 ids) Tail.no, PV.list [] Tail.exact, PV.int IntKind.i64 (↑k : Int)] [Ob.abs (rkP (rowsP w) 5), Ob.cells [PV.ptr 0 0], Ob.cells [PV.int IntKind.u32 (Pt.id (getG Pt.id w_1 t)), PV.int IntKind.u32 (Pt.ld (getG Pt.id w_1 t)), PV.list (en1 IntKind.u32 (Pt.ms (getG Pt.id w_1 t))) Tail.no, PV.list (en1 IntKind.u32 (Pt.iv (getG Pt.id w_1 t))) Tail.no]])) (R Ex.ret [PV.list (List.map Pa.cs acs) Tail.no, PV.bool false, PV.ptr 1 0, PV.list [] Tail.exact, PV.int IntKind.i64 (↑i : Int), PV.list (List.map u1 ids) Tail.no, PV.list [] Tail.exact, PV.int IntKind.i64 (↑k : Int)] [Ob.abs (rkP (rowsP w) 5), Ob.cells [PV.ptr 0 0], Ob.cells [PV.int IntKind.u32 (Pt.id (getG Pt.id w_1 t)), PV.int IntKind.u32 (Pt.ld (getG Pt.id w_1 t)), PV.list (en1 IntKind.u32 (Pt.ms (getG Pt.id w_1 t))) Tail.no, PV.list (en1 IntKind.u32 (Pt.iv (getG Pt.id w_1 t))) Tail.no]])) (R Ex.ret [PV.list (List.map Pa.cs acs) Tail.no, PV.bool false, PV.ptr 1 0, PV.list [] Tail.exact, PV.int IntKind.i64 (↑i : Int), PV.list (List.map u1 ids) Tail.no, PV.list [] Tail.exact, PV.int IntKind.i64 (↑k : Int)] [Ob.abs (rkP (rowsP w) 5), Ob.cells [PV.ptr 0 0], Ob.cells [PV.int IntKind.u32 (Pt.id (getG Pt.id w_1 t)), PV.int IntKind.u32 (Pt.ld (getG Pt.id w_1 t)), PV.list (en1 IntKind.u32 (Pt.ms (getG Pt.id w_1 t))) Tail.no, PV.list (en1 IntKind.u32 (Pt.iv (getG Pt.id w_1 t))) Tail.no]])) (R Ex.ret [PV.list (List.map Pa.cs acs) Tail.no, PV.bool false, PV.ptr 1 0, PV.list [] Tail.exact, PV.int IntKind.i64 (↑i : Int), PV.list (List.map u1 ids) Tail.no, PV.list [] Tail.exact, PV.int IntKind.i64 (↑k : Int)] [Ob.abs (rkP (rowsP w) 5), Ob.cells [PV.ptr 0 0], Ob.cells [PV.int IntKind.u32 (Pt.id (getG Pt.id w_1 t)), PV.int IntKind.u32 (Pt.ld (getG Pt.id w_1 t)), PV.list (en1 IntKind.u32 (Pt.ms (getG Pt.id w_1 t))) Tail.no, PV.list (en1 IntKind.u32 (Pt.iv (getG Pt.id w_1 t))) Tail.no]])) False) (R Ex.ret [PV.list (List.map Pa.cs acs) Tail.no, PV.bool false, PV.ptr 1 0, PV.list [] Tail.exact, PV.int IntKind.i64 (↑i : Int), PV.list (List.map u1 ids) Tail.no, PV.list [] Tail.exact, PV.int IntKind.i64 (↑k : Int)] [Ob.abs (rkP (rowsP w) 5), Ob.cells [PV.ptr 0 0], Ob.cells [PV.int IntKind.u32 (Pt.id (getG Pt.id w_1 t)), PV.int IntKind.u32 (Pt.ld (getG Pt.id w_1 t)), PV.list (en1 IntKind.u32 (Pt.ms (getG Pt.id w_1 t))) Tail.no, PV.list (en1 IntKind.u32 (Pt.iv (getG Pt.id w_1 t))) Tail.no]])) False) (R (Ex.exit 2) [PV.list (List.map Pa.cs acs) Tail.no, PV.bool false, PV.ptr 1 0, PV.list [] Tail.exact, PV.int IntKind.i64 (↑i : Int), PV.list (List.map u1 ids) Tail.no, PV.list [] Tail.exact, PV.int IntKind.i64 (↑k : Int)] [Ob.abs (rkP (rowsP w) 5), Ob.cells [PV.ptr 0 0]])) : Holds (wpc br Try.prog gl TPX [([1, 0, 0, 1, 1, 1, 0], o3_l)] (fun _ => 0) (subOf [1, 1, 1, 1, 0, 1, 0, 0, 1, 0, 0, 1, 1, 1, 0, 1, 0] (bodyOf Try.f8)) [] (envS [0, 2, 3, 4, 5, 6, 7, 8] [.list (acs.map Pa.cs) .no, .bool false, .ptr 1 0, .list [] .exact, .int .i64 i, .list (ids.map u1) .no, .list [] .exact, .int .i64 k]) [.abs (rkP (rowsP w) 5), .cells [.ptr 0 0]] (fun ex e H => R ex (List.map e [0, 2, 3, 4, 5, 6, 7, 8]) H)) := holds_of_eq (by kernel_rfl) h
theorem o2B_vc (acs : List Pa) (w : List Pt) (ids : List Int) (i k : Nat) (es : List Int) (R : Ex → List PV → Heap → Prop) (h : br (decide ((↑k : Int) < (↑(List.length (List.map u1 ids)) : Int))) (InL (List.map u1 ids) 1 (↑k : Int) ∧ br (true && fitX [CK.int IntKind.u32] 0 (List.getD (List.map u1 ids) (Int.toNat (↑k : Int)) [])) (∃ (q : Nat), ∃ (r : Nat), ∃ (w_1 : List Pt), ∃ (m : Int), ∃ (t : Int), SlIs [PV.ptr 1 0, PV.int IntKind.u32 (cI (List.getD (List.map u1 ids) (Int.toNat (↑k : Int)) []) 0)] [PV.ptr q 0, PV.int IntKind.u32 t] ∧ BkIs [Ob.abs (rkP (rowsP w) 5), Ob.cells [PV.ptr 0 0], Ob.tok] q r (rkP (rowsP w_1) m) ∧ PO w_1 m ∧ br ((!hasG Pt.id w_1 t) == false) (InL (List.map u1 ids) 1 (↑k : Int) ∧ br (true && fitX [CK.int IntKind.u32] 0 (List.getD (List.map u1 ids) (Int.toNat (↑k : Int)) [])) (br ((Pt.id (getG Pt.id w_1 t) != cI (List.getD (List.map u1 ids) (Int.toNat (↑k : Int)) []) 0) == false) (br (decide ((↑(List.length (en1 IntKind.u32 (Pt.ms (getG Pt.id w_1 t)))) : Int) < 1) == false) (br (decide (wI ((↑(List.length (en1 IntKind.u32 (Pt.ms (getG Pt.id w_1 t)))) : Int) + (↑(List.length (en1 IntKind.u32 (Pt.iv (getG Pt.id w_1 t)))) : Int)) < 2) == false) (br (decide (wI ((↑(List.length (en1 IntKind.u32 (Pt.ms (getG Pt.id w_1 t)))) : Int) + (↑(List.length (en1 IntKind.u32 (Pt.iv (getG Pt.id w_1 t)))) : Int)) > 4) == false) (∃ (l : List Int), ∃ (tl : Tail), ∃ (t_1 : Int), SlIs [PV.list (en1 IntKind.u32 (Pt.ms (getG Pt.id w_1 t))) Tail.no, PV.int IntKind.u32 (Pt.ld (getG Pt.id w_1 t))] [PV.list (List.map u1 l) tl, PV.int IntKind.u32 t_1] ∧ List.length l ≤ 1000000 ∧ br (!memB l t_1) (R Ex.ret [PV.list (List.map Pa.cs acs) Tail.no, PV.bool false, PV.ptr 1 0, PV.list [] Tail.exact, PV.int IntKind.i64 (↑i : Int), PV.list (List.map u1 ids) Tail.no, PV.list (List.map u1 es) (Tail.tok 2), PV.int IntKind.i64 (↑k : Int)] [Ob.abs (rkP (rowsP w) 5), Ob.cells [PV.ptr 0 0], Ob.tok, Ob.cells [PV.int IntKind.u32 (Pt.id (getG Pt.id w_1 t)), PV.int IntKind.u32 (Pt.ld (getG Pt.id w_1 t)), PV.list (en1 IntKind.u32 (Pt.ms (getG Pt.id w_1 t))) Tail.no, PV.list (en1 IntKind.u32 (Pt.iv (getG Pt.id w_1 t))) Tail.no]]) ((∃ (acs_1 : List Pa), ∃ (w_2 : List Pt), ∃ (c : Pt), ∃ (ids_1 : List Int), ∃ (i_1 : Nat), ∃ (k_1 : Nat), PO w_2 5 ∧ c ∈ w_2 ∧ k_1 < List.length ids_1 ∧ List.getD ids_1 k_1 0 = Pt.id c ∧ SlIs [PV.list (List.map Pa.cs acs) Tail.no, PV.bool false, PV.ptr 1 0, PV.list [] Tail.exact, PV.int IntKind.i64 (↑i : Int), PV.list (List.map u1 ids) Tail.no, PV.list (List.map u1 es) (Tail.tok 2), PV.int IntKind.i64 (↑k : Int), PV.ptr 3 0, PV.int IntKind.i64 0] [PV.list (List.map Pa.cs acs_1) Tail.no, PV.bool false, PV.ptr 1 0, PV.list [] Tail.exact, PV.int IntKind.i64 (↑i_1 : Int), PV.list (List.map u1 ids_1) Tail.no, PV.list [] Tail.exact, PV.int IntKind.i64 (↑k_1 : Int), PV.ptr 2 0, PV.int IntKind.i64 0] ∧ HpIs [Ob.abs (rkP (rowsP w) 5), Ob.cells [PV.ptr 0 0], Ob.tok, Ob.cells [PV.int IntKind.u32 (Pt.id (getG Pt.id w_1 t)), PV.int IntKind.u32 (Pt.ld (getG Pt.id w_1 t)), PV.list (en1 IntKind.u32 (Pt.ms (getG Pt.id w_1 t))) Tail.no, PV.list (en1 IntKind.u32 (Pt.iv (getG Pt.id w_1 t))) Tail.no]] [Ob.abs (rkP (rowsP w_2) 5), Ob.cells [PV.ptr 0 0], Ob.cells [PV.int IntKind.u32 (Pt.id c), PV.int IntKind.u32 (Pt.ld c), PV.list (en1 IntKind.u32 (Pt.ms c)) Tail.no, PV.list (en1 IntKind.u32 (Pt.iv c)) Tail.no]] ∧ R Ex.normal [PV.list (List.map Pa.cs acs_1) Tail.no, PV.bool false, PV.ptr 1 0, PV.list [] Tail.exact, PV.int IntKind.i64 (↑i_1 : Int), PV.list (List.map u1 ids_1) Tail.no, PV.list (List.map u1 (Pt.ms c)) (Tail.tok 3), PV.int IntKind.i64 (wI ((↑k_1 : Int) + 1))] [Ob.abs (rkP (rowsP w_2) 5), Ob.cells [PV.ptr 0 0], Ob.cells [PV.int IntKind.u32 (Pt.id c), PV.int IntKind.u32 (Pt.ld c), PV.list (en1 IntKind.u32 (Pt.ms c)) Tail.no, PV.list (en1 IntKind.u32 (Pt.iv c)) Tail.no], Ob.tok]) ∨ ∃ (acs_1 : List Pa), ∃ (w_2 : List Pt), ∃ (c : Pt), ∃ (ids_1 : List Int), ∃ (i_1 : Nat), ∃ (k_1 : Nat), ∃ (met : List Int), PO w_2 5 ∧ c ∈ w_2 ∧ k_1 < List.length ids_1 ∧ List.getD ids_1 k_1 0 = Pt.id c ∧ (∀ (x : Int), x ∈ Pt.ms c → ¬x ∈ met) ∧ List.length met ≤ 1000 ∧ SlIs [PV.list (List.map Pa.cs acs) Tail.no, PV.bool false, PV.ptr 1 0, PV.list [] Tail.exact, PV.int IntKind.i64 (↑i : Int), PV.list (List.map u1 ids) Tail.no, PV.list (List.map u1 es) (Tail.tok 2), PV.int IntKind.i64 (↑k : Int), PV.ptr 3 0, PV.int IntKind.i64 0] [PV.list (List.map Pa.cs acs_1) Tail.no, PV.bool false, PV.ptr 1 0, PV.list [] Tail.exact, PV.int IntKind.i64 (↑i_1 : Int), PV.list (List.map u1 ids_1) Tail.no, PV.list (List.map u1 met) (Tail.tok 2), PV.int IntKind.i64 (↑k_1 : Int), PV.ptr 3 0, PV.int IntKind.i64 0] ∧ HpIs [Ob.abs (rkP (rowsP w) 5), Ob.cells [PV.ptr 0 0], Ob.tok, Ob.cells [PV.int IntKind.u32 (Pt.id (getG Pt.id w_1 t)), PV.int IntKind.u32 (Pt.ld (getG Pt.id w_1 t)), PV.list (en1 IntKind.u32 (Pt.ms (getG Pt.id w_1 t))) Tail.no, PV.list (en1 IntKind.u32 (Pt.iv (getG Pt.id w_1 t))) Tail.no]] [Ob.abs (rkP (rowsP w_2) 5), Ob.cells [PV.ptr 0 0], Ob.tok, Ob.cells [PV.int IntKind.u32 (Pt.id c), PV.int IntKind.u32 (Pt.ld c), PV.list (en1 IntKind.u32 (Pt.ms c)) Tail.no, PV.list (en1 IntKind.u32 (Pt.iv c)) Tail.no]] ∧ R Ex.normal [PV.list (List.map Pa.cs acs_1) Tail.no, PV.bool false, PV.ptr 1 0, PV.list [] Tail.exact, PV.int IntKind.i64 (↑i_1 : Int), PV.list (List.map u1 ids_1) Tail.no, PV.list (List.map u1 (met ++ Pt.ms c)) (Tail.tok 4), PV.int IntKind.i64 (wI ((↑k_1 : Int) + 1))] [Ob.abs (rkP (rowsP w_2) 5), Ob.cells [PV.ptr 0 0], Ob.dead, Ob.cells [PV.int IntKind.u32 (Pt.id c), PV.int IntKind.u32 (Pt.ld c), PV.list (en1 IntKind.u32 (Pt.ms c)) Tail.no, PV.list (en1 IntKind.u32 (Pt.iv c)) Tail.no], Ob.tok])) (R Ex.ret [PV.list (List.map Pa.cs acs) Tail.no, PV.bool false, PV.ptr 1 0, PV.list [] Tail.exact, PV.int IntKind.i64 (↑i : Int), PV.list (List.map u1 ids) Tail.no, PV.list (List.map u1 es) (Tail.tok 2), PV.int IntKind.i64 (↑k : Int)] [Ob.abs (rkP (rowsP w) 5), Ob.cells [PV.ptr 0 0], Ob.tok, Ob.cells [PV.int IntKind.u32 (Pt.id (getG Pt.id w_1 t)), PV.int IntKind.u32 (Pt.ld (getG Pt.id w_1 t)), PV.list (en1 IntKind.u32 (Pt.ms (getG Pt.id w_1 t))) Tail.no, PV.list (en1 IntKind.u32 (Pt.iv (getG Pt.id w_1 t))) Tail.no]])) (R Ex.ret [PV.list (List.map Pa.cs acs) Tail.no, PV.bool false, PV.ptr 1 0, PV.list [] Tail.exact, PV.int IntKind.i64 (↑i : Int), PV.list (List.map u1 ids) Tail.no, PV.list (List.map u1 es) (Tail.tok 2), PV.int IntKind.i64 (↑k : Int)] [Ob.abs (rkP (rowsP w) 5), Ob.cells [PV.ptr 0 0], Ob.tok, Ob.cells [PV.int IntKind.u32 (Pt.id (getG Pt.id w_1 t)), PV.int IntKind.u32 (Pt.ld (getG Pt.id w_1 t)), PV.list (en1 IntKind.u32 (Pt.ms (getG Pt.id w_1 t))) Tail.no, PV.list (en1 IntKind.u32 (Pt.iv (getG Pt.id w_1 t))) Tail.no]])) (R Ex.ret [PV.list (List.map Pa.cs acs) Tail.no, PV.bool false, PV.ptr 1 0, PV.list [] Tail.exact, PV.int IntKind.i64 (↑i : Int), PV.list (List.map u1 ids) Tail.no, PV.list (List.map u1 es) (Tail.tok 2), PV.int IntKind.i64 (↑k : Int)] [Ob.abs (rkP (rowsP w) 5), Ob.cells [PV.ptr 0 0], Ob.tok, Ob.cells [PV.int IntKind.u32 (Pt.id (getG Pt.id w_1 t)), PV.int IntKind.u32 (Pt.ld (getG Pt.id w_1 t)), PV.list (en1 IntKind.u32 (Pt.ms (getG Pt.id w_1 t))) Tail.no, PV.list (en1 IntKind.u32 (Pt.iv (getG Pt.id w_1 t))) Tail.no]])) (R Ex.ret [PV.list (List.map Pa.cs acs) Tail.no, PV.bool false, PV.ptr 1 0, PV.list [] Tail.exact, PV.int IntKind.i64 (↑i : Int), PV.list (List.map u1 ids) Tail.no, PV.list (List.map u1 es) (Tail.tok 2), PV.int IntKind.i64 (↑k : Int)] [Ob.abs (rkP (rowsP w) 5), Ob.cells [PV.ptr 0 0], Ob.tok, Ob.cells [PV.int IntKind.u32 (Pt.id (getG Pt.id w_1 t)), PV.int IntKind.u32 (Pt.ld (getG Pt.id w_1 t)), PV.list (en1 IntKind.u32 (Pt.ms (getG Pt.id w_1 t))) Tail.no, PV.list (en1 IntKind.u32 (Pt.iv (getG Pt.id w_1 t))) Tail.no]])) False) (R Ex.ret [PV.list (List.map Pa.cs acs) Tail.no, PV.bool false, PV.ptr 1 0, PV.list [] Tail.exact, PV.int IntKind.i64 (↑i : Int), PV.list (List.map u1 ids) Tail.no, PV.list (List.map u1 es) (Tail.tok 2), PV.int IntKind.i64 (↑k : Int)] [Ob.abs (rkP (rowsP w) 5), Ob.cells [PV.ptr 0 0], Ob.tok, Ob.cells [PV.int IntKind.u32 (Pt.id (getG Pt.id w_1 t)), PV.int IntKind.u32 (Pt.ld (getG Pt.id w_1 t)), PV.list (en1 IntKind.u32 (Pt.ms (getG Pt.id w_1 t))) Tail.no, PV.list (en1 IntKind.u32 (Pt.iv (getG Pt.id w_1 t))) Tail.no]])) False) (R (Ex.exit 2) [PV.list (List.map Pa.cs acs) Tail.no, PV.bool false, PV.ptr 1 0, PV.list [] Tail.exact, PV.int IntKind.i64 (↑i : Int), PV.list (List.map u1 ids) Tail.no, PV.list (List.map u1 es) (Tail.tok 2), PV.int IntKind.i64 (↑k : Int)] [Ob.abs (rkP (rowsP w) 5), Ob.cells [PV.ptr 0 0], Ob.tok])) : Holds (wpc br Try.prog gl TPX [([1, 0, 0, 1, 1, 1, 0], o3_l)] (fun _ => 0) (subOf [1, 1, 1, 1, 0, 1, 0, 0, 1, 0, 0, 1, 1, 1, 0, 1, 0] (bodyOf Try.f8)) [] (envS [0, 2, 3, 4, 5, 6, 7, 8] [.list (acs.map Pa.cs) .no, .bool false, .ptr 1 0, .list [] .exact, .int .i64 i, .list (ids.map u1) .no, .list (es.map u1) (.tok 2), .int .i64 k]) [.abs (rkP (rowsP w) 5), .cells [.ptr 0 0], .tok] (fun ex e H => R ex (List.map e [0, 2, 3, 4, 5, 6, 7, 8]) H)) := holds_of_eq (by kernel_rfl) h
def accM (w : List Pt) (k : Nat) : List Int := ((w.take k).map Pt.ms).flatten
theorem accM_succ {w : List Pt} {k : Nat} (h : k < w.length) : accM w (k + 1) = accM w k ++ (w.getD k default).ms := by
  unfold accM; rw [take_snoc default h, List.map_append, List.flatten_append]; simp
theorem accM_fresh {w : List Pt} {m : Int} (ro : PO w m) {k : Nat} (h : k < w.length) {x : Int} (hx : x ∈ (w.getD k default).ms) : x ∉ accM w k := fun q => by
  obtain ⟨l, hl, hxl⟩ := List.mem_flatten.1 q
  obtain ⟨a, ha, rfl⟩ := List.mem_map.1 hl
  have e := ro.one a (List.mem_of_mem_take ha) _ (getD_mem h) x hxl hx
  obtain ⟨t, ht, e2⟩ := List.mem_iff_getElem.1 ha
  rw [List.length_take] at ht
  rw [List.getElem_take] at e2
  have hp := List.pairwise_iff_getElem.1 (show List.Pairwise (fun a b => Pt.id a < Pt.id b) w from ro.rise) t k (by omega) h (by omega)
  rw [e2, e, getD_eq' h] at hp
  omega
theorem accM_len {w : List Pt} {m : Int} (ro : PO w m) : ∀ k, (accM w k).length ≤ 4 * k := by
  intro k
  induction k with
  | zero => simp [accM]
  | succ k ih =>
    by_cases h : k < w.length
    · rw [accM_succ h, List.length_append]
      have := (ro.cs _ (getD_mem (d := default) h)).n4
      omega
    · have e : accM w (k + 1) = accM w k := by unfold accM; rw [List.take_of_length_le (by omega), List.take_of_length_le (by omega)]
      rw [e]; omega
def o2_l : LSp := fun e H Q => ∃ (acs : List Pa) (w : List Pt) (i : Nat), PO w 5 ∧ SlIs (List.map e [0, 2, 3, 4, 5, 6, 7, 8]) [.list (acs.map Pa.cs) .no, .bool false, .ptr 1 0, .list [] .exact, .int .i64 i, .list ((w.map Pt.id).map u1) .no, .list [] .exact, .int .i64 0] ∧ HpIs H [.abs (rkP (rowsP w) 5), .cells [.ptr 0 0]] ∧ Q (.exit 2) (envS [0, 2, 3, 4, 5, 6, 7, 8] [.list (acs.map Pa.cs) .no, .bool false, .ptr 1 0, .list [] .exact, .int .i64 i, .list ((w.map Pt.id).map u1) .no, .list ((accM w w.length).map u1) .no, .int .i64 w.length]) [.abs (rkP (rowsP w) 5), .cells [.ptr 0 0], .dead]
theorem o2_l_ok : ∀ e H Q, o2_l e H Q → AW Try.prog gl Try.f8.ntmps (.loop (subOf [1, 1, 1, 1, 0, 1, 0, 0, 1, 0, 0, 1, 1, 1, 0, 1, 0] (bodyOf Try.f8))) Q e H := by
  rintro e H Q ⟨acs, w, i, ro, he, hH, hQ⟩
  have hH2 : H = [.abs (rkP (rowsP w) 5), .cells [.ptr 0 0]] := hH
  have hw5 : w.length ≤ 5 := by have := ro.full; omega
  refine aw_growif (f := u1) (acc := accM w) (I := fun k => k ≤ w.length) (m := fun k => w.length - k) (hn := fun _ => 0) gl_low TPX_ok (.cons (sub_of (by kernel_rfl)) o3_l_ok2 (.nil _ _ _ _ _)) [0, 2, 3, 4, 5, 6, 7, 8] (fun r k => [.list (acs.map Pa.cs) .no, .bool false, .ptr 1 0, .list [] .exact, .int .i64 i, .list ((w.map Pt.id).map u1) .no, r, .int .i64 k]) [.abs (rkP (rowsP w) 5), .cells [.ptr 0 0]] (0 : Nat)
    (runs_hlow _) (fun _ _ a _ => low_u1 a) (fun es k kk _ h => .same (low_pal acs) (.same (.bool _) (.same (.ptr _ _ (by simp)) (.same (low_list NT.exact (by simp)) (.same (.int _ _) (.same (low_us _) (.row h (.same (.int _ _) (.nil))))))))) (fun k _ v hw => by
      simp only [List.mem_cons, List.not_mem_nil, or_false] at hw
      rcases hw with rfl | rfl | rfl | rfl | rfl | rfl | rfl | rfl
      · exact low_pal acs
      · exact .bool _
      · exact .ptr _ _ (by simp)
      · exact low_list NT.exact (by simp)
      · exact .int _ _
      · exact low_us _
      · exact low_list NT.exact (by simp)
      · exact .int _ _) (Nat.zero_le _) (by rfl) he hH2 ?_ ?_
  · intro k hk ha
    have hk' : k ≤ w.length := hk
    refine o2A_vc acs w (w.map Pt.id) i k _ ?_
    simp only [br_if, dt, en1_length, toNat_nat, List.length_map]
    by_cases h : k < w.length
    · rw [if_pos (by omega)]
      obtain ⟨c, hcd⟩ : ∃ c, c = w.getD k default := ⟨_, rfl⟩
      have hc : c ∈ w := by rw [hcd]; exact getD_mem h
      have ok := ro.cs c hc
      have n1 := ok.n1
      have n2 := ok.n2
      have n4 := ok.n4
      have hid : (w.map Pt.id).getD k 0 = c.id := by rw [hcd, List.getD_eq_getElem?_getD, List.getElem?_map, List.getElem?_eq_getElem h, getD_eq' h]; rfl
      have hkl : k < (w.map Pt.id).length := by rw [List.length_map]; exact h
      have hrow : ((w.map Pt.id).map u1).getD k [] = u1 c.id := by rw [getD_map 0 hkl, hid]
      have cid : cI (u1 c.id) 0 = c.id := rfl
      have hg : getG Pt.id w c.id = c := getG_of ro.rise hc
      have hh : hasG Pt.id w c.id = true := hasG_iff.2 ⟨c, hc, rfl⟩
      have hs := accM_succ h
      rw [← hcd] at hs
      have hfr : ∀ x ∈ c.ms, x ∉ accM w k := fun x hx => accM_fresh ro h (by rw [← hcd]; exact hx)
      have hln := accM_len ro k
      simp only [hrow, cid]
      refine ⟨by rw [inL_u1]; exact hkl, ?_⟩
      rw [if_pos (by rfl)]
      refine ⟨1, 0, w, 5, c.id, rfl, ⟨rfl, rfl⟩, ro, ?_⟩
      simp only [hg, hh]
      rw [if_pos (by rfl)]
      refine ⟨by rw [inL_u1]; exact hkl, ?_⟩
      rw [if_pos (by rfl), if_pos (by simp), if_pos (show (decide ((c.ms.length : Int) < 1) == false) = true by rw [decide_eq_false (by omega)]; rfl), w_small (by omega) (by omega), if_pos (show (decide ((c.ms.length : Int) + c.iv.length < 2) == false) = true by rw [decide_eq_false (by omega)]; rfl), if_pos (show (decide ((c.ms.length : Int) + c.iv.length > 4) == false) = true by rw [decide_eq_false (by omega)]; rfl)]
      refine ⟨c.ms, .no, c.ld, rfl, ok.sm.ms, ?_⟩
      rw [if_neg (show ¬ (!memB c.ms c.ld) = true by rw [memB_iff.2 ok.ld]; decide)]
      exact .inl ⟨acs, w, c, w.map Pt.id, i, k, ro, hc, hkl, hid, rfl, rfl, growQ_add (k + 1) (show w.length - (k + 1) < w.length - k by omega) h hs (by intro q; have q2 := (List.append_eq_nil_iff.1 q).2; rw [q2] at n1; exact absurd n1 (by decide)) [.cells c.cells, .tok] 3 rfl rfl (by simp) (by rw [wI_succ h (by omega), ha]; rfl)⟩
    · rw [if_neg (by omega)]
      have e2 : k = w.length := by omega
      subst e2
      rw [ha] at hQ
      exact growQ_end (.cons (.refl _) (.cons (.refl _) (.cons (.refl _) (.cons (.refl _) (.cons (.refl _) (.cons (.refl _) (.cons (.list _ _) (.cons (.refl _) (.nil))))))))) (pad_dead _) hQ
  · intro k hk ha
    have hk' : k ≤ w.length := hk
    refine o2B_vc acs w (w.map Pt.id) i k (accM w k) _ ?_
    simp only [br_if, dt, en1_length, toNat_nat, List.length_map]
    by_cases h : k < w.length
    · rw [if_pos (by omega)]
      obtain ⟨c, hcd⟩ : ∃ c, c = w.getD k default := ⟨_, rfl⟩
      have hc : c ∈ w := by rw [hcd]; exact getD_mem h
      have ok := ro.cs c hc
      have n1 := ok.n1
      have n2 := ok.n2
      have n4 := ok.n4
      have hid : (w.map Pt.id).getD k 0 = c.id := by rw [hcd, List.getD_eq_getElem?_getD, List.getElem?_map, List.getElem?_eq_getElem h, getD_eq' h]; rfl
      have hkl : k < (w.map Pt.id).length := by rw [List.length_map]; exact h
      have hrow : ((w.map Pt.id).map u1).getD k [] = u1 c.id := by rw [getD_map 0 hkl, hid]
      have cid : cI (u1 c.id) 0 = c.id := rfl
      have hg : getG Pt.id w c.id = c := getG_of ro.rise hc
      have hh : hasG Pt.id w c.id = true := hasG_iff.2 ⟨c, hc, rfl⟩
      have hs := accM_succ h
      rw [← hcd] at hs
      have hfr : ∀ x ∈ c.ms, x ∉ accM w k := fun x hx => accM_fresh ro h (by rw [← hcd]; exact hx)
      have hln := accM_len ro k
      simp only [hrow, cid]
      refine ⟨by rw [inL_u1]; exact hkl, ?_⟩
      rw [if_pos (by rfl)]
      refine ⟨1, 0, w, 5, c.id, rfl, ⟨rfl, rfl⟩, ro, ?_⟩
      simp only [hg, hh]
      rw [if_pos (by rfl)]
      refine ⟨by rw [inL_u1]; exact hkl, ?_⟩
      rw [if_pos (by rfl), if_pos (by simp), if_pos (show (decide ((c.ms.length : Int) < 1) == false) = true by rw [decide_eq_false (by omega)]; rfl), w_small (by omega) (by omega), if_pos (show (decide ((c.ms.length : Int) + c.iv.length < 2) == false) = true by rw [decide_eq_false (by omega)]; rfl), if_pos (show (decide ((c.ms.length : Int) + c.iv.length > 4) == false) = true by rw [decide_eq_false (by omega)]; rfl)]
      refine ⟨c.ms, .no, c.ld, rfl, ok.sm.ms, ?_⟩
      rw [if_neg (show ¬ (!memB c.ms c.ld) = true by rw [memB_iff.2 ok.ld]; decide)]
      exact .inr ⟨acs, w, c, w.map Pt.id, i, k, accM w k, ro, hc, hkl, hid, hfr, by omega, rfl, rfl, growQ_add (k + 1) (show w.length - (k + 1) < w.length - k by omega) h hs (by intro q; have q2 := (List.append_eq_nil_iff.1 q).2; rw [q2] at n1; exact absurd n1 (by decide)) [.dead, .cells c.cells, .tok] 4 rfl rfl (by simp) (by rw [wI_succ h (by omega)])⟩
    · rw [if_neg (by omega)]
      have e2 : k = w.length := by omega
      subst e2
      exact growQ_end (.cons (.refl _) (.cons (.refl _) (.cons (.refl _) (.cons (.refl _) (.cons (.refl _) (.cons (.refl _) (.cons (.list _ _) (.cons (.refl _) (.nil))))))))) (pad_kill [.abs (rkP (rowsP w) 5), .cells [.ptr 0 0]] .tok) hQ
theorem o1_vc (acs : List Pa) (w : List Pt) (i : Nat) (R : Ex → List PV → Heap → Prop) (h : br (decide ((↑i : Int) < (↑(List.length (List.map Pa.cs acs)) : Int))) (InL (List.map Pa.cs acs) 3 (↑i : Int) ∧ br (true && fitX [CK.int IntKind.u8, CK.int IntKind.u32, CK.int IntKind.u32] 0 (List.getD (List.map Pa.cs acs) (Int.toNat (↑i : Int)) [])) (∃ (w_1 : List Pt), ∃ (l : List Pt), ∃ (m : Int), ∃ (a : Pa), ∃ (tl : Tail), SlIs [PV.list [] Tail.exact, PV.int IntKind.i64 5, PV.agg [PV.int IntKind.u8 (cI (List.getD (List.map Pa.cs acs) (Int.toNat (↑i : Int)) []) 0), PV.int IntKind.u32 (cI (List.getD (List.map Pa.cs acs) (Int.toNat (↑i : Int)) []) 1), PV.int IntKind.u32 (cI (List.getD (List.map Pa.cs acs) (Int.toNat (↑i : Int)) []) 2)]] [PV.list (List.map ptc l) tl, PV.int IntKind.i64 m, PV.agg [PV.int IntKind.u8 (Pa.d a), PV.int IntKind.u32 (Pa.a a), PV.int IntKind.u32 (Pa.b a)]] ∧ AbIs [Ob.abs (rkP (rowsP w) 5), Ob.cells [PV.ptr 0 0]] 0 (rkP (rowsP w_1) m) ∧ PO w_1 m ∧ PO l m ∧ m ≤ 100000 ∧ Pa.ok a ∧ ∃ (q : Nat), ∃ (r : Nat), ∃ (w : List Pt), ∃ (m_1 : Int), SlIs [PV.ptr 1 0] [PV.ptr q 0] ∧ BkIs [Ob.abs (rkP (rowsP (Prod.fst (actS w_1 m a))) m), Ob.cells [PV.ptr 0 0]] q r (rkP (rowsP w) m_1) ∧ PO w m_1 ∧ ∃ (acs_1 : List Pa), ∃ (w_2 : List Pt), ∃ (i_1 : Nat), PO w_2 5 ∧ SlIs [PV.list (List.map Pa.cs acs) Tail.no, PV.bool false, PV.ptr 1 0, PV.list [] Tail.exact, PV.int IntKind.i64 (↑i : Int), PV.list (List.map u1 (List.map Pt.id w)) Tail.no, PV.list [] Tail.exact, PV.int IntKind.i64 0] [PV.list (List.map Pa.cs acs_1) Tail.no, PV.bool false, PV.ptr 1 0, PV.list [] Tail.exact, PV.int IntKind.i64 (↑i_1 : Int), PV.list (List.map u1 (List.map Pt.id w_2)) Tail.no, PV.list [] Tail.exact, PV.int IntKind.i64 0] ∧ HpIs [Ob.abs (rkP (rowsP (Prod.fst (actS w_1 m a))) m), Ob.cells [PV.ptr 0 0]] [Ob.abs (rkP (rowsP w_2) 5), Ob.cells [PV.ptr 0 0]] ∧ br (decide ((↑(List.length (List.map u1 (List.map Pt.id w_2))) : Int) > 5)) (R Ex.ret [PV.list (List.map Pa.cs acs_1) Tail.no, PV.bool false, PV.ptr 1 0, PV.list [] Tail.exact, PV.int IntKind.i64 (↑i_1 : Int)] [Ob.abs (rkP (rowsP w_2) 5), Ob.cells [PV.ptr 0 0], Ob.dead]) (R Ex.normal [PV.list (List.map Pa.cs acs_1) Tail.no, PV.bool false, PV.ptr 1 0, PV.list [] Tail.exact, PV.int IntKind.i64 (wI ((↑i_1 : Int) + 1))] [Ob.abs (rkP (rowsP w_2) 5), Ob.cells [PV.ptr 0 0], Ob.dead])) False) (R (Ex.exit 0) [PV.list (List.map Pa.cs acs) Tail.no, PV.bool false, PV.ptr 1 0, PV.list [] Tail.exact, PV.int IntKind.i64 (↑i : Int)] [Ob.abs (rkP (rowsP w) 5), Ob.cells [PV.ptr 0 0]])) : Holds (wpc br Try.prog gl TPX [([1, 0, 0, 1, 1, 1, 0, 1, 0], o2_l)] (fun _ => 0) (subOf [1, 1, 1, 1, 0, 1, 0] (bodyOf Try.f8)) [] (envS [0, 2, 3, 4, 5] [.list (acs.map Pa.cs) .no, .bool false, .ptr 1 0, .list [] .exact, .int .i64 i]) [.abs (rkP (rowsP w) 5), .cells [.ptr 0 0]] (fun ex e H => R ex (List.map e [0, 2, 3, 4, 5]) H)) := holds_of_eq (by kernel_rfl) h
theorem o2_l_ok2 : ∀ e H Q, o2_l e H Q → AW Try.prog gl Try.f8.ntmps (.loop (subOf [1, 0, 0, 1, 1, 1, 0, 1, 0] (subOf [1, 1, 1, 1, 0, 1, 0] (bodyOf Try.f8)))) Q e H := by
  rw [show subOf [1, 0, 0, 1, 1, 1, 0, 1, 0] (subOf [1, 1, 1, 1, 0, 1, 0] (bodyOf Try.f8)) = subOf [1, 1, 1, 1, 0, 1, 0, 0, 1, 0, 0, 1, 1, 1, 0, 1, 0] (bodyOf Try.f8) from by kernel_rfl]; exact o2_l_ok
theorem o1_low (acs : List Pa) (i : Int) : ∀ v ∈ [PV.list (acs.map Pa.cs) .no, .bool false, .ptr 1 0, .list [] .exact, .int .i64 i], Low 2 v := by
  intro v hv
  simp only [List.mem_cons, List.not_mem_nil, or_false] at hv
  rcases hv with rfl | rfl | rfl | rfl | rfl
  · exact low_pal acs
  · exact .bool _
  · exact .ptr _ _ (by decide)
  · exact low_list NT.exact (by simp)
  · exact .int _ _
def o1_l : LSp := fun e H Q => ∃ (acs : List Pa), acs.length ≤ 80 ∧ (∀ a ∈ acs, a.ok) ∧ SlIs (List.map e [0, 2, 3, 4, 5]) [.list (acs.map Pa.cs) .no, .bool false, .ptr 1 0, .list [] .exact, .int .i64 0] ∧ HpIs H [.abs (rkP (rowsP []) 5), .cells [.ptr 0 0]] ∧
  ∀ (w : List Pt), Q (.exit 0) (envS [0, 2, 3, 4, 5] [.list (acs.map Pa.cs) .no, .bool false, .ptr 1 0, .list [] .exact, .int .i64 acs.length]) [.abs (rkP (rowsP w) 5), .cells [.ptr 0 0]]
theorem o1_l_ok : ∀ e H Q, o1_l e H Q → AW Try.prog gl Try.f8.ntmps (.loop (subOf [1, 1, 1, 1, 0, 1, 0] (bodyOf Try.f8))) Q e H := by
  rintro e H Q ⟨acs, hl, hok, he, hH, hQ⟩
  refine aw_loop4 (hn := fun _ => 0) gl_low TPX_ok (.cons (sub_of (by kernel_rfl)) o2_l_ok2 (.nil _ _ _ _ _)) (σ := Nat × List Pt) [0, 2, 3, 4, 5] (fun s => s.1 ≤ acs.length ∧ PO s.2 5)
    (fun s => [.list (acs.map Pa.cs) .no, .bool false, .ptr 1 0, .list [] .exact, .int .i64 s.1]) (fun s => [.abs (rkP (rowsP s.2) 5), .cells [.ptr 0 0]]) (fun s => acs.length - s.1) (0, []) ⟨Nat.zero_le _, .nil (by decide) (by decide)⟩ he hH ?_
  rintro ⟨i, w⟩ ⟨hi, ro⟩
  have hi : i ≤ acs.length := hi
  have ro : PO w 5 := ro
  refine o1_vc acs w i _ ?_
  simp only [br_if, dt, List.length_map, inL_pa, toNat_nat]
  by_cases h : i < acs.length
  · rw [if_pos (by omega)]
    simp only [getD_map default h]
    refine ⟨h, ?_⟩
    rw [if_pos (by rfl)]
    obtain ⟨a, ha⟩ : ∃ a, a = acs.getD i default := ⟨_, rfl⟩
    have haok : a.ok := hok a (by rw [ha]; exact getD_mem h)
    have c0 : cI a.cs 0 = a.d := rfl
    have c1 : cI a.cs 1 = a.a := rfl
    have c2 : cI a.cs 2 = a.b := rfl
    simp only [← ha, c0, c1, c2]
    have ro2 := ro.act a
    have hf := ro2.full
    refine ⟨w, [], 5, a, .exact, rfl, rfl, ro, .nil (by decide) (by decide), by decide, haok, 1, 0, (actS w 5 a).1, 5, rfl, ⟨rfl, rfl⟩, ro2, acs, (actS w 5 a).1, i, ro2, rfl, rfl, ?_⟩
    rw [if_neg (by omega)]
    exact ⟨(i + 1, (actS w 5 a).1), (show acs.length - (i + 1) < acs.length - i by omega), ⟨h, ro2⟩, by rw [wI_succ h (by omega)], [_], rfl, Nat.le_refl _, .inr ⟨o1_low acs _, runs_hlow _⟩⟩
  · rw [if_neg (by omega)]
    have : i = acs.length := by omega
    subst this
    exact hQ w
theorem one1_vc (acs : List Pa)  (K : PV → Prop) (h : br (decide ((↑(List.length (List.map Pa.cs acs)) : Int) > 80)) (K (PV.bool true)) (∃ (n : Int), SlIs [PV.int IntKind.i64 5] [PV.int IntKind.i64 n] ∧ ∃ (acs_1 : List Pa), List.length acs_1 ≤ 80 ∧ (∀ (a : Pa), a ∈ acs_1 → Pa.ok a) ∧ SlIs [PV.list (List.map Pa.cs acs) Tail.no, PV.bool false, PV.ptr 1 0, PV.list [] Tail.exact, PV.int IntKind.i64 0] [PV.list (List.map Pa.cs acs_1) Tail.no, PV.bool false, PV.ptr 1 0, PV.list [] Tail.exact, PV.int IntKind.i64 0] ∧ HpIs [Ob.abs (rkP [] (mxI 0 n)), Ob.cells [PV.ptr 0 0]] [Ob.abs (rkP [] 5), Ob.cells [PV.ptr 0 0]] ∧ ∀ (_ : List Pt), SlIs [] [] ∧ K (PV.bool true))) : ACalls Try.prog gl 8 [.list (acs.map Pa.cs) .no] [] (fun x _ => K x) :=
  acalls_of_wpc2 (T := TPX) (L := [([1, 1, 1, 1, 0, 1, 0], o1_l)]) (fun _ => 0) Try.func8 (by kernel_rfl) (by kernel_rfl) (by kernel_rfl) (TPX_ok) (.cons (sub_of (by kernel_rfl)) o1_l_ok (.nil _ _ _ _ _)) (holds_of_eq (by kernel_rfl) h)
theorem one_law (acs : List Pa) (hok : ∀ a ∈ acs, a.ok) : ACalls Try.prog gl 8 [.list (acs.map Pa.cs) .no] [] (fun x _ => x = .bool true) := by
  refine one1_vc acs _ ?_
  simp only [br_if, dt, List.length_map]
  by_cases c : acs.length ≤ 80
  · rw [if_neg (by omega)]
    exact ⟨5, rfl, acs, c, hok, rfl, rfl, fun _ => ⟨rfl, trivial⟩⟩
  · rw [if_pos (by omega)]; trivial
#print axioms one_law
set_option maxRecDepth 10000
theorem one_args (xs : List PV) (h : WTargs Try.prog 6 Try.f8.params.toList xs) : ACalls Try.prog gl 8 xs [] (fun x _ => x = .bool true) := by
  rw [Try.params8] at h
  obtain ⟨x, r, rfl, h1, h3⟩ := h
  obtain rfl := wtargs_nil h3
  obtain ⟨es, rfl, _, g⟩ := wta_list u58 h1
  obtain ⟨l, rfl, hl⟩ := list_of (f := Pa.cs) fun r hr => pa_of (g r hr)
  exact one_law l hl
end Go.Proofs.Ythabdpaipgclpaa
