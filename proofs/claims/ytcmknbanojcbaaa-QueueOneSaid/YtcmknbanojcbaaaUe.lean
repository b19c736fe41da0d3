/-
  Queues as one whole, amid other objects.
-/
import Derived.Test.YtcmknbanojcbaaaUd
import Derived.Test.YtcmknbanojcbaaaProg
namespace Go.Proofs.Ytcmknbanojcbaaa
open Go Go.AM Go.Proofs
structure Mo where
  K : Int
  Base : Int
  Step : Int
  Cap : Int
  Every : Int
def Mo.cs (m : Mo) : List PV := [.int .i64 m.K, .int .i64 m.Base, .int .i64 m.Step, .int .i64 m.Cap, .int .i64 m.Every]
instance moInh : Inhabited Mo := ⟨⟨0, 0, 0, 0, 0⟩⟩
theorem mo_len (m : Mo) : (Mo.cs m).length = 5 := rfl
theorem low_mo {n : Nat} (m : Mo) : ∀ y ∈ Mo.cs m, Low n y := by
  intro y hy
  simp only [Mo.cs, List.mem_cons, List.not_mem_nil, or_false] at hy
  rcases hy with rfl | rfl | rfl | rfl | rfl <;> exact .int _ _
theorem one_mo (m : Mo) : ∀ y ∈ Mo.cs m, y.one = true := by
  intro y hy
  simp only [Mo.cs, List.mem_cons, List.not_mem_nil, or_false] at hy
  rcases hy with rfl | rfl | rfl | rfl | rfl <;> rfl
theorem inL_mo (w : List Mo) (i : Nat) : InL (w.map Mo.cs) 5 (i : Int) = (i < w.length) := inL_map mo_len (by decide) w i
theorem uni_mo (w : List Mo) : uni 5 (w.map Mo.cs) := by
  intro e he
  obtain ⟨a, _, rfl⟩ := List.mem_map.1 he
  rfl
def S0 : ByteArray := ByteArray.mk #[]
def N_tilt : ByteArray := ByteArray.mk #[116, 105, 108, 116]
theorem clom_vc (ms : List Mo)  (K : PV → Heap → Prop) (h : ∀ (b : Bool), (List.flatten (List.map Mo.cs ms) ≠ [] → b = false) → br b (K (PV.list [] Tail.exact) []) (AppL [] (List.map Mo.cs ms) 5 40 ∧ List.all (List.flatten (List.map Mo.cs ms)) PV.one = true ∧ (List.map Mo.cs ms = [] → K (PV.list [] Tail.exact) []) ∧ (List.map Mo.cs ms ≠ [] → K (PV.list ([] ++ List.map Mo.cs ms) (Tail.tok 0)) [Ob.tok]))) : ACalls Try.prog gl 69 [.list (ms.map Mo.cs) .no] [] K :=
  acalls_of_wpc2 (T := []) (L := []) (fun o => match o.dst with | some 7 => 4 | _ => 0) Try.func69 (by kernel_rfl) (by kernel_rfl) (by kernel_rfl) (TabOk.nil _ _) (LOk.nil _ _ _ _ _) (holds_of_eq (by kernel_rfl) h)
theorem newA_vc (key : ByteArray) (f0 f1 f2 f3 f4 f5 f6 f7 f8 f9 f10 f11 : Int) (ms : List Mo) (i : Nat) (R : Ex → List PV → Heap → Prop) (h : br (decide ((↑i : Int) < (↑(List.length ms) : Int))) (InL (List.map Mo.cs ms) 5 (↑i : Int) ∧ br (true && fitX [CK.int IntKind.i64, CK.int IntKind.i64, CK.int IntKind.i64, CK.int IntKind.i64, CK.int IntKind.i64] 0 (List.getD (List.map Mo.cs ms) (Int.toNat (↑i : Int)) [])) (AppL [] [[PV.int IntKind.i64 (cI (List.getD (List.map Mo.cs ms) (Int.toNat (↑i : Int)) []) 0)]] 1 8 ∧ (List.all [PV.int IntKind.i64 (cI (List.getD (List.map Mo.cs ms) (Int.toNat (↑i : Int)) []) 0)] PV.one = true ∧ [[PV.int IntKind.i64 (cI (List.getD (List.map Mo.cs ms) (Int.toNat (↑i : Int)) []) 0)]] ≠ []) ∧ R Ex.normal [PV.ptr 1 0, PV.list (List.map Mo.cs ms) Tail.no, PV.int IntKind.i64 (↑(List.length ms) : Int), PV.int IntKind.i64 (wI ((↑i : Int) + 1))] [Ob.cells [PV.str key, PV.int IntKind.i64 f0, PV.int IntKind.i64 f1, PV.int IntKind.i64 f2, PV.int IntKind.i64 f3, PV.int IntKind.i64 f4, PV.int IntKind.i64 f5, PV.int IntKind.i64 f6, PV.int IntKind.i64 f7, PV.int IntKind.i64 f8, PV.int IntKind.i64 f9, PV.int IntKind.i64 f10, PV.int IntKind.i64 f11, PV.list (List.map Mo.cs ms) Tail.no], Ob.cells [PV.list [] Tail.exact, PV.list [[PV.int IntKind.i64 (cI (List.getD (List.map Mo.cs ms) (Int.toNat (↑i : Int)) []) 0)]] (Tail.tok 3)], Ob.cells [PV.int IntKind.i64 (cI (List.getD (List.map Mo.cs ms) (Int.toNat (↑i : Int)) []) 0), PV.int IntKind.i64 (cI (List.getD (List.map Mo.cs ms) (Int.toNat (↑i : Int)) []) 1), PV.int IntKind.i64 (cI (List.getD (List.map Mo.cs ms) (Int.toNat (↑i : Int)) []) 2), PV.int IntKind.i64 (cI (List.getD (List.map Mo.cs ms) (Int.toNat (↑i : Int)) []) 3), PV.int IntKind.i64 (cI (List.getD (List.map Mo.cs ms) (Int.toNat (↑i : Int)) []) 4)], Ob.tok]) False) (R (Ex.exit 0) [PV.ptr 1 0, PV.list (List.map Mo.cs ms) Tail.no, PV.int IntKind.i64 (↑(List.length ms) : Int), PV.int IntKind.i64 (↑i : Int)] [Ob.cells [PV.str key, PV.int IntKind.i64 f0, PV.int IntKind.i64 f1, PV.int IntKind.i64 f2, PV.int IntKind.i64 f3, PV.int IntKind.i64 f4, PV.int IntKind.i64 f5, PV.int IntKind.i64 f6, PV.int IntKind.i64 f7, PV.int IntKind.i64 f8, PV.int IntKind.i64 f9, PV.int IntKind.i64 f10, PV.int IntKind.i64 f11, PV.list (List.map Mo.cs ms) Tail.no], Ob.cells [PV.list [] Tail.exact, PV.list [] Tail.exact]])) : Holds (wpc br Try.prog gl [] [] (fun o => match o.dst with | some 19 => 101101 | some 21 => 201001 | some 23 => 1 | some _ => 0 | none => match o.op with | .store _ (.tmp 25) _ => 101101 | _ => 0) (subOf [1, 1, 0, 1, 0] (bodyOf Try.f41)) [] (envS [3, 9, 10, 11] [.ptr 1 0, .list (ms.map Mo.cs) .no, .int .i64 ms.length, .int .i64 i]) [.cells [.str key, .int .i64 f0, .int .i64 f1, .int .i64 f2, .int .i64 f3, .int .i64 f4, .int .i64 f5, .int .i64 f6, .int .i64 f7, .int .i64 f8, .int .i64 f9, .int .i64 f10, .int .i64 f11, .list (ms.map Mo.cs) .no], .cells [.list [] .exact, .list [] .exact]] (fun ex e H => R ex (List.map e [3, 9, 10, 11]) H)) := holds_of_eq (by kernel_rfl) h
theorem newB_vc (key : ByteArray) (f0 f1 f2 f3 f4 f5 f6 f7 f8 f9 f10 f11 : Int) (ms : List Mo) (es : List (List PV)) (i : Nat) (R : Ex → List PV → Heap → Prop) (h : br (decide ((↑i : Int) < (↑(List.length ms) : Int))) (InL (List.map Mo.cs ms) 5 (↑i : Int) ∧ br (true && fitX [CK.int IntKind.i64, CK.int IntKind.i64, CK.int IntKind.i64, CK.int IntKind.i64, CK.int IntKind.i64] 0 (List.getD (List.map Mo.cs ms) (Int.toNat (↑i : Int)) [])) (AppL es [[PV.int IntKind.i64 (cI (List.getD (List.map Mo.cs ms) (Int.toNat (↑i : Int)) []) 0)]] 1 8 ∧ (List.all [PV.int IntKind.i64 (cI (List.getD (List.map Mo.cs ms) (Int.toNat (↑i : Int)) []) 0)] PV.one = true ∧ [[PV.int IntKind.i64 (cI (List.getD (List.map Mo.cs ms) (Int.toNat (↑i : Int)) []) 0)]] ≠ []) ∧ R Ex.normal [PV.ptr 1 0, PV.list (List.map Mo.cs ms) Tail.no, PV.int IntKind.i64 (↑(List.length ms) : Int), PV.int IntKind.i64 (wI ((↑i : Int) + 1))] [Ob.cells [PV.str key, PV.int IntKind.i64 f0, PV.int IntKind.i64 f1, PV.int IntKind.i64 f2, PV.int IntKind.i64 f3, PV.int IntKind.i64 f4, PV.int IntKind.i64 f5, PV.int IntKind.i64 f6, PV.int IntKind.i64 f7, PV.int IntKind.i64 f8, PV.int IntKind.i64 f9, PV.int IntKind.i64 f10, PV.int IntKind.i64 f11, PV.list (List.map Mo.cs ms) Tail.no], Ob.cells [PV.list [] Tail.exact, PV.list (es ++ [[PV.int IntKind.i64 (cI (List.getD (List.map Mo.cs ms) (Int.toNat (↑i : Int)) []) 0)]]) (Tail.tok 4)], Ob.dead, Ob.cells [PV.int IntKind.i64 (cI (List.getD (List.map Mo.cs ms) (Int.toNat (↑i : Int)) []) 0), PV.int IntKind.i64 (cI (List.getD (List.map Mo.cs ms) (Int.toNat (↑i : Int)) []) 1), PV.int IntKind.i64 (cI (List.getD (List.map Mo.cs ms) (Int.toNat (↑i : Int)) []) 2), PV.int IntKind.i64 (cI (List.getD (List.map Mo.cs ms) (Int.toNat (↑i : Int)) []) 3), PV.int IntKind.i64 (cI (List.getD (List.map Mo.cs ms) (Int.toNat (↑i : Int)) []) 4)], Ob.tok]) False) (R (Ex.exit 0) [PV.ptr 1 0, PV.list (List.map Mo.cs ms) Tail.no, PV.int IntKind.i64 (↑(List.length ms) : Int), PV.int IntKind.i64 (↑i : Int)] [Ob.cells [PV.str key, PV.int IntKind.i64 f0, PV.int IntKind.i64 f1, PV.int IntKind.i64 f2, PV.int IntKind.i64 f3, PV.int IntKind.i64 f4, PV.int IntKind.i64 f5, PV.int IntKind.i64 f6, PV.int IntKind.i64 f7, PV.int IntKind.i64 f8, PV.int IntKind.i64 f9, PV.int IntKind.i64 f10, PV.int IntKind.i64 f11, PV.list (List.map Mo.cs ms) Tail.no], Ob.cells [PV.list [] Tail.exact, PV.list es (Tail.tok 2)], Ob.tok])) : Holds (wpc br Try.prog gl [] [] (fun o => match o.dst with | some 19 => 101101 | some 21 => 301001 | some 23 => 1 | some _ => 0 | none => match o.op with | .store _ (.tmp 25) _ => 101101 | _ => 0) (subOf [1, 1, 0, 1, 0] (bodyOf Try.f41)) [] (envS [3, 9, 10, 11] [.ptr 1 0, .list (ms.map Mo.cs) .no, .int .i64 ms.length, .int .i64 i]) [.cells [.str key, .int .i64 f0, .int .i64 f1, .int .i64 f2, .int .i64 f3, .int .i64 f4, .int .i64 f5, .int .i64 f6, .int .i64 f7, .int .i64 f8, .int .i64 f9, .int .i64 f10, .int .i64 f11, .list (ms.map Mo.cs) .no], .cells [.list [] .exact, .list es (.tok 2)], .tok] (fun ex e H => R ex (List.map e [3, 9, 10, 11]) H)) := holds_of_eq (by kernel_rfl) h
theorem cfgA_vc (ms : List Mo) (i : Nat) (R : Ex → List PV → Heap → Prop) (h : br (decide ((↑i : Int) < (↑(List.length (List.map Mo.cs ms)) : Int))) (InL (List.map Mo.cs ms) 5 (↑i : Int) ∧ br (true && fitX [CK.int IntKind.i64] 0 (List.drop 0 (List.getD (List.map Mo.cs ms) (Int.toNat (↑i : Int)) []))) (InL (List.map Mo.cs ms) 5 (↑i : Int) ∧ br (true && fitX [CK.int IntKind.i64] 0 (List.drop 1 (List.getD (List.map Mo.cs ms) (Int.toNat (↑i : Int)) []))) (InL (List.map Mo.cs ms) 5 (↑i : Int) ∧ br (true && fitX [CK.int IntKind.i64] 0 (List.drop 2 (List.getD (List.map Mo.cs ms) (Int.toNat (↑i : Int)) []))) (InL (List.map Mo.cs ms) 5 (↑i : Int) ∧ br (true && fitX [CK.int IntKind.i64] 0 (List.drop 3 (List.getD (List.map Mo.cs ms) (Int.toNat (↑i : Int)) []))) (InL (List.map Mo.cs ms) 5 (↑i : Int) ∧ br (true && fitX [CK.int IntKind.i64] 0 (List.drop 4 (List.getD (List.map Mo.cs ms) (Int.toNat (↑i : Int)) []))) (AppL [] [[PV.int IntKind.i64 (cI (List.drop 0 (List.getD (List.map Mo.cs ms) (Int.toNat (↑i : Int)) [])) 0), PV.int IntKind.i64 (cI (List.drop 1 (List.getD (List.map Mo.cs ms) (Int.toNat (↑i : Int)) [])) 0), PV.int IntKind.i64 (cI (List.drop 2 (List.getD (List.map Mo.cs ms) (Int.toNat (↑i : Int)) [])) 0), PV.int IntKind.i64 (cI (List.drop 3 (List.getD (List.map Mo.cs ms) (Int.toNat (↑i : Int)) [])) 0), PV.int IntKind.i64 (cI (List.drop 4 (List.getD (List.map Mo.cs ms) (Int.toNat (↑i : Int)) [])) 0)]] 5 40 ∧ (List.all [PV.int IntKind.i64 (cI (List.drop 0 (List.getD (List.map Mo.cs ms) (Int.toNat (↑i : Int)) [])) 0), PV.int IntKind.i64 (cI (List.drop 1 (List.getD (List.map Mo.cs ms) (Int.toNat (↑i : Int)) [])) 0), PV.int IntKind.i64 (cI (List.drop 2 (List.getD (List.map Mo.cs ms) (Int.toNat (↑i : Int)) [])) 0), PV.int IntKind.i64 (cI (List.drop 3 (List.getD (List.map Mo.cs ms) (Int.toNat (↑i : Int)) [])) 0), PV.int IntKind.i64 (cI (List.drop 4 (List.getD (List.map Mo.cs ms) (Int.toNat (↑i : Int)) [])) 0)] PV.one = true ∧ [[PV.int IntKind.i64 (cI (List.drop 0 (List.getD (List.map Mo.cs ms) (Int.toNat (↑i : Int)) [])) 0), PV.int IntKind.i64 (cI (List.drop 1 (List.getD (List.map Mo.cs ms) (Int.toNat (↑i : Int)) [])) 0), PV.int IntKind.i64 (cI (List.drop 2 (List.getD (List.map Mo.cs ms) (Int.toNat (↑i : Int)) [])) 0), PV.int IntKind.i64 (cI (List.drop 3 (List.getD (List.map Mo.cs ms) (Int.toNat (↑i : Int)) [])) 0), PV.int IntKind.i64 (cI (List.drop 4 (List.getD (List.map Mo.cs ms) (Int.toNat (↑i : Int)) [])) 0)]] ≠ []) ∧ R Ex.normal [PV.list (List.map Mo.cs ms) Tail.no, PV.ptr 0 0, PV.ptr 1 0, PV.int IntKind.i64 (wI ((↑i : Int) + 1))] [Ob.cells [PV.str S0, PV.int IntKind.i64 0, PV.int IntKind.i64 0, PV.int IntKind.i64 0, PV.int IntKind.i64 0, PV.int IntKind.i64 0, PV.int IntKind.i64 0, PV.int IntKind.i64 0, PV.int IntKind.i64 0, PV.int IntKind.i64 0, PV.int IntKind.i64 0, PV.int IntKind.i64 0, PV.int IntKind.i64 0, PV.list [] Tail.exact], Ob.cells [PV.str S0, PV.int IntKind.i64 0, PV.int IntKind.i64 0, PV.int IntKind.i64 0, PV.int IntKind.i64 0, PV.int IntKind.i64 0, PV.int IntKind.i64 0, PV.int IntKind.i64 0, PV.int IntKind.i64 0, PV.int IntKind.i64 0, PV.int IntKind.i64 0, PV.int IntKind.i64 0, PV.int IntKind.i64 0, PV.list [[PV.int IntKind.i64 (cI (List.drop 0 (List.getD (List.map Mo.cs ms) (Int.toNat (↑i : Int)) [])) 0), PV.int IntKind.i64 (cI (List.drop 1 (List.getD (List.map Mo.cs ms) (Int.toNat (↑i : Int)) [])) 0), PV.int IntKind.i64 (cI (List.drop 2 (List.getD (List.map Mo.cs ms) (Int.toNat (↑i : Int)) [])) 0), PV.int IntKind.i64 (cI (List.drop 3 (List.getD (List.map Mo.cs ms) (Int.toNat (↑i : Int)) [])) 0), PV.int IntKind.i64 (cI (List.drop 4 (List.getD (List.map Mo.cs ms) (Int.toNat (↑i : Int)) [])) 0)]] (Tail.tok 2)], Ob.tok]) False) False) False) False) False) (R (Ex.exit 0) [PV.list (List.map Mo.cs ms) Tail.no, PV.ptr 0 0, PV.ptr 1 0, PV.int IntKind.i64 (↑i : Int)] [Ob.cells [PV.str S0, PV.int IntKind.i64 0, PV.int IntKind.i64 0, PV.int IntKind.i64 0, PV.int IntKind.i64 0, PV.int IntKind.i64 0, PV.int IntKind.i64 0, PV.int IntKind.i64 0, PV.int IntKind.i64 0, PV.int IntKind.i64 0, PV.int IntKind.i64 0, PV.int IntKind.i64 0, PV.int IntKind.i64 0, PV.list [] Tail.exact], Ob.cells [PV.str S0, PV.int IntKind.i64 0, PV.int IntKind.i64 0, PV.int IntKind.i64 0, PV.int IntKind.i64 0, PV.int IntKind.i64 0, PV.int IntKind.i64 0, PV.int IntKind.i64 0, PV.int IntKind.i64 0, PV.int IntKind.i64 0, PV.int IntKind.i64 0, PV.int IntKind.i64 0, PV.int IntKind.i64 0, PV.list [] Tail.exact]])) : Holds (wpc br Try.prog gl [] [] (fun o => match o.dst with | some 12 => 102301 | some 40 => 1 | some _ => 0 | none => match o.op with | .store _ (.tmp 41) _ => 102301 | _ => 0) (subOf [1, 1, 0, 1, 0] (bodyOf Try.f49)) [] (envS [0, 2, 3, 4] [.list (ms.map Mo.cs) .no, .ptr 0 0, .ptr 1 0, .int .i64 i]) [.cells [.str S0, .int .i64 0, .int .i64 0, .int .i64 0, .int .i64 0, .int .i64 0, .int .i64 0, .int .i64 0, .int .i64 0, .int .i64 0, .int .i64 0, .int .i64 0, .int .i64 0, .list [] .exact], .cells [.str S0, .int .i64 0, .int .i64 0, .int .i64 0, .int .i64 0, .int .i64 0, .int .i64 0, .int .i64 0, .int .i64 0, .int .i64 0, .int .i64 0, .int .i64 0, .int .i64 0, .list [] .exact]] (fun ex e H => R ex (List.map e [0, 2, 3, 4]) H)) := holds_of_eq (by kernel_rfl) h
theorem cfgB_vc (ms : List Mo) (es : List (List PV)) (i : Nat) (R : Ex → List PV → Heap → Prop) (h : br (decide ((↑i : Int) < (↑(List.length (List.map Mo.cs ms)) : Int))) (InL (List.map Mo.cs ms) 5 (↑i : Int) ∧ br (true && fitX [CK.int IntKind.i64] 0 (List.drop 0 (List.getD (List.map Mo.cs ms) (Int.toNat (↑i : Int)) []))) (InL (List.map Mo.cs ms) 5 (↑i : Int) ∧ br (true && fitX [CK.int IntKind.i64] 0 (List.drop 1 (List.getD (List.map Mo.cs ms) (Int.toNat (↑i : Int)) []))) (InL (List.map Mo.cs ms) 5 (↑i : Int) ∧ br (true && fitX [CK.int IntKind.i64] 0 (List.drop 2 (List.getD (List.map Mo.cs ms) (Int.toNat (↑i : Int)) []))) (InL (List.map Mo.cs ms) 5 (↑i : Int) ∧ br (true && fitX [CK.int IntKind.i64] 0 (List.drop 3 (List.getD (List.map Mo.cs ms) (Int.toNat (↑i : Int)) []))) (InL (List.map Mo.cs ms) 5 (↑i : Int) ∧ br (true && fitX [CK.int IntKind.i64] 0 (List.drop 4 (List.getD (List.map Mo.cs ms) (Int.toNat (↑i : Int)) []))) (AppL es [[PV.int IntKind.i64 (cI (List.drop 0 (List.getD (List.map Mo.cs ms) (Int.toNat (↑i : Int)) [])) 0), PV.int IntKind.i64 (cI (List.drop 1 (List.getD (List.map Mo.cs ms) (Int.toNat (↑i : Int)) [])) 0), PV.int IntKind.i64 (cI (List.drop 2 (List.getD (List.map Mo.cs ms) (Int.toNat (↑i : Int)) [])) 0), PV.int IntKind.i64 (cI (List.drop 3 (List.getD (List.map Mo.cs ms) (Int.toNat (↑i : Int)) [])) 0), PV.int IntKind.i64 (cI (List.drop 4 (List.getD (List.map Mo.cs ms) (Int.toNat (↑i : Int)) [])) 0)]] 5 40 ∧ (List.all [PV.int IntKind.i64 (cI (List.drop 0 (List.getD (List.map Mo.cs ms) (Int.toNat (↑i : Int)) [])) 0), PV.int IntKind.i64 (cI (List.drop 1 (List.getD (List.map Mo.cs ms) (Int.toNat (↑i : Int)) [])) 0), PV.int IntKind.i64 (cI (List.drop 2 (List.getD (List.map Mo.cs ms) (Int.toNat (↑i : Int)) [])) 0), PV.int IntKind.i64 (cI (List.drop 3 (List.getD (List.map Mo.cs ms) (Int.toNat (↑i : Int)) [])) 0), PV.int IntKind.i64 (cI (List.drop 4 (List.getD (List.map Mo.cs ms) (Int.toNat (↑i : Int)) [])) 0)] PV.one = true ∧ [[PV.int IntKind.i64 (cI (List.drop 0 (List.getD (List.map Mo.cs ms) (Int.toNat (↑i : Int)) [])) 0), PV.int IntKind.i64 (cI (List.drop 1 (List.getD (List.map Mo.cs ms) (Int.toNat (↑i : Int)) [])) 0), PV.int IntKind.i64 (cI (List.drop 2 (List.getD (List.map Mo.cs ms) (Int.toNat (↑i : Int)) [])) 0), PV.int IntKind.i64 (cI (List.drop 3 (List.getD (List.map Mo.cs ms) (Int.toNat (↑i : Int)) [])) 0), PV.int IntKind.i64 (cI (List.drop 4 (List.getD (List.map Mo.cs ms) (Int.toNat (↑i : Int)) [])) 0)]] ≠ []) ∧ R Ex.normal [PV.list (List.map Mo.cs ms) Tail.no, PV.ptr 0 0, PV.ptr 1 0, PV.int IntKind.i64 (wI ((↑i : Int) + 1))] [Ob.cells [PV.str S0, PV.int IntKind.i64 0, PV.int IntKind.i64 0, PV.int IntKind.i64 0, PV.int IntKind.i64 0, PV.int IntKind.i64 0, PV.int IntKind.i64 0, PV.int IntKind.i64 0, PV.int IntKind.i64 0, PV.int IntKind.i64 0, PV.int IntKind.i64 0, PV.int IntKind.i64 0, PV.int IntKind.i64 0, PV.list [] Tail.exact], Ob.cells [PV.str S0, PV.int IntKind.i64 0, PV.int IntKind.i64 0, PV.int IntKind.i64 0, PV.int IntKind.i64 0, PV.int IntKind.i64 0, PV.int IntKind.i64 0, PV.int IntKind.i64 0, PV.int IntKind.i64 0, PV.int IntKind.i64 0, PV.int IntKind.i64 0, PV.int IntKind.i64 0, PV.int IntKind.i64 0, PV.list (es ++ [[PV.int IntKind.i64 (cI (List.drop 0 (List.getD (List.map Mo.cs ms) (Int.toNat (↑i : Int)) [])) 0), PV.int IntKind.i64 (cI (List.drop 1 (List.getD (List.map Mo.cs ms) (Int.toNat (↑i : Int)) [])) 0), PV.int IntKind.i64 (cI (List.drop 2 (List.getD (List.map Mo.cs ms) (Int.toNat (↑i : Int)) [])) 0), PV.int IntKind.i64 (cI (List.drop 3 (List.getD (List.map Mo.cs ms) (Int.toNat (↑i : Int)) [])) 0), PV.int IntKind.i64 (cI (List.drop 4 (List.getD (List.map Mo.cs ms) (Int.toNat (↑i : Int)) [])) 0)]]) (Tail.tok 3)], Ob.dead, Ob.tok]) False) False) False) False) False) (R (Ex.exit 0) [PV.list (List.map Mo.cs ms) Tail.no, PV.ptr 0 0, PV.ptr 1 0, PV.int IntKind.i64 (↑i : Int)] [Ob.cells [PV.str S0, PV.int IntKind.i64 0, PV.int IntKind.i64 0, PV.int IntKind.i64 0, PV.int IntKind.i64 0, PV.int IntKind.i64 0, PV.int IntKind.i64 0, PV.int IntKind.i64 0, PV.int IntKind.i64 0, PV.int IntKind.i64 0, PV.int IntKind.i64 0, PV.int IntKind.i64 0, PV.int IntKind.i64 0, PV.list [] Tail.exact], Ob.cells [PV.str S0, PV.int IntKind.i64 0, PV.int IntKind.i64 0, PV.int IntKind.i64 0, PV.int IntKind.i64 0, PV.int IntKind.i64 0, PV.int IntKind.i64 0, PV.int IntKind.i64 0, PV.int IntKind.i64 0, PV.int IntKind.i64 0, PV.int IntKind.i64 0, PV.int IntKind.i64 0, PV.int IntKind.i64 0, PV.list es (Tail.tok 2)], Ob.tok])) : Holds (wpc br Try.prog gl [] [] (fun o => match o.dst with | some 12 => 102301 | some 40 => 1 | some _ => 0 | none => match o.op with | .store _ (.tmp 41) _ => 102301 | _ => 0) (subOf [1, 1, 0, 1, 0] (bodyOf Try.f49)) [] (envS [0, 2, 3, 4] [.list (ms.map Mo.cs) .no, .ptr 0 0, .ptr 1 0, .int .i64 i]) [.cells [.str S0, .int .i64 0, .int .i64 0, .int .i64 0, .int .i64 0, .int .i64 0, .int .i64 0, .int .i64 0, .int .i64 0, .int .i64 0, .int .i64 0, .int .i64 0, .int .i64 0, .list [] .exact], .cells [.str S0, .int .i64 0, .int .i64 0, .int .i64 0, .int .i64 0, .int .i64 0, .int .i64 0, .int .i64 0, .int .i64 0, .int .i64 0, .int .i64 0, .int .i64 0, .int .i64 0, .list es (.tok 2)], .tok] (fun ex e H => R ex (List.map e [0, 2, 3, 4]) H)) := holds_of_eq (by kernel_rfl) h
def CfgIs (f0 f1 f2 f3 f4 f5 f6 f7 f8 f9 f10 f11 : Int) (key : ByteArray) (ms : List Mo) : List PV := [.str key, .int .i64 f0, .int .i64 f1, .int .i64 f2, .int .i64 f3, .int .i64 f4, .int .i64 f5, .int .i64 f6, .int .i64 f7, .int .i64 f8, .int .i64 f9, .int .i64 f10, .int .i64 f11, .list (ms.map Mo.cs) .no]
theorem low_ints12 {n : Nat} {key : ByteArray} {f0 f1 f2 f3 f4 f5 f6 f7 f8 f9 f10 f11 : Int} {r : PV} (hr : Low n r) : ∀ x ∈ [.str key, .int .i64 f0, .int .i64 f1, .int .i64 f2, .int .i64 f3, .int .i64 f4, .int .i64 f5, .int .i64 f6, .int .i64 f7, .int .i64 f8, .int .i64 f9, .int .i64 f10, .int .i64 f11, r], Low n x := by
  intro x hx
  simp only [List.mem_cons, List.not_mem_nil, or_false] at hx
  rcases hx with rfl | rfl | rfl | rfl | rfl | rfl | rfl | rfl | rfl | rfl | rfl | rfl | rfl | rfl <;> first | exact .str _ | exact .int _ _ | exact hr
theorem low_mos {n : Nat} (ms : List Mo) : Low n (.list (ms.map Mo.cs) .no) := low_rows low_mo ms
def kOf (m : Mo) : Int := m.K
theorem take_k {ms : List Mo} {i : Nat} (h : i < ms.length) : ((ms.take (i + 1)).map kOf).map i1 = ((ms.take i).map kOf).map i1 ++ [[PV.int .i64 (ms.getD i default).K]] := by
  rw [take_snoc default h, List.map_append, List.map_append]; rfl
theorem ks_len (ms : List Mo) (i : Nat) (h : i ≤ ms.length) : (((ms.take i).map kOf).map i1).length = i := by simp; omega
theorem uni_i1 (l : List Int) : uni 1 (l.map i1) := by
  intro e he
  obtain ⟨a, _, rfl⟩ := List.mem_map.1 he
  rfl
theorem low_fi1 (l : List Int) : ∀ x ∈ (l.map i1).flatten, Low 0 x := low_map fun a _ => low_i1 a
def hpNew (c : List PV) (ms : List Mo) : Nat → Heap
  | 0 => [.cells c, .cells [.list [] .exact, .list [] .exact]]
  | i + 1 => [.cells c, .cells [.list [] .exact, .list (((ms.take (i + 1)).map kOf).map i1) (.tok 2)], .tok]
theorem tidy_new {c : List PV} {es : List (List PV)} {X : Heap} {k : Nat} {v1 v2 v3 : PV} (hc : ∀ x ∈ c, Low 0 x) (hes : ∀ x ∈ es.flatten, Low 0 x) (h1 : Low 0 v1) (h2 : Low 0 v2) (h3 : Low 0 v3) (hk : 2 ≤ k) (hX : (.cells c :: .cells [.list [] .exact, .list es (.tok k)] :: X : Heap)[k]? = some .tok) :
    Tidy 2 [.ptr 1 0, v1, v2, v3] (.cells c :: .cells [.list [] .exact, .list es (.tok k)] :: X) [.ptr 1 0, v1, v2, v3] [.cells c, .cells [.list [] .exact, .list es (.tok 2)], .tok] := by
  refine tidy_list [0, 1, k] (WkL.refl _) (.cons rfl (ren_low hc) (.cons rfl (.cells (.cons (.low (low_list NT.exact (fun _ h => nomatch h))) (.cons ?_ .nil))) (.cons hX .tok .nil))) (by simp; omega) (by simp) (fun o ho => ?_) (.cons ?_ (RenL.low (low_three h1 h2 h3)))
  · exact .ltok es 2 (by simp) hes
  · rcases o with _ | _ | o
    · rfl
    · rfl
    · omega
  · exact .ptr 1 0 (by simp)
theorem tidy_wk2 {c cs cs1 : List PV} {X : Heap} {vs : List PV} (hc : ∀ x ∈ c, Low 0 x) (hw : WkL cs cs1) (hcs : ∀ x ∈ cs1, Low 0 x) (hv : ∀ v ∈ vs, Lid 2 v) : Tidy 2 vs (.cells c :: .cells cs :: X) vs [.cells c, .cells cs1] :=
  tidy_wk (B := [.cells c, .cells cs1]) (B' := [.cells c, .cells cs]) (X := X) (lidH_two (fun x hx => .low (hc x hx)) (fun x hx => .low (hcs x hx))) (WkL.refl _) (wkH_set (H := .cells c :: .cells cs :: X) (q := 1) rfl hw) hv (by simp)
def new_l : LSp := fun e H Q => ∃ (c : List PV) (key : ByteArray) (f0 f1 f2 f3 f4 f5 f6 f7 f8 f9 f10 f11 : Int) (ms : List Mo), c = [.str key, .int .i64 f0, .int .i64 f1, .int .i64 f2, .int .i64 f3, .int .i64 f4, .int .i64 f5, .int .i64 f6, .int .i64 f7, .int .i64 f8, .int .i64 f9, .int .i64 f10, .int .i64 f11, .list (ms.map Mo.cs) .no] ∧ ms.length ≤ 1000000 ∧ SlIs (List.map e [3, 9, 10, 11]) [.ptr 1 0, .list (ms.map Mo.cs) .no, .int .i64 ms.length, .int .i64 0] ∧ HpIs H [.cells c, .cells [.list [] .exact, .list [] .exact]] ∧
  Q (.exit 0) (envS [3, 9, 10, 11] [.ptr 1 0, .list (ms.map Mo.cs) .no, .int .i64 ms.length, .int .i64 ms.length]) [.cells c, .cells [.list [] .exact, .list ((ms.map kOf).map i1) .no]]
theorem new_l_ok : ∀ e H Q, new_l e H Q → AW Try.prog gl Try.f41.ntmps (.loop (subOf [1, 1, 0, 1, 0] (bodyOf Try.f41))) Q e H := by
  rintro e H Q ⟨c, key, f0, f1, f2, f3, f4, f5, f6, f7, f8, f9, f10, f11, ms, rfl, hl, he, hH, hQ⟩
  have hH : H = _ := hH
  subst hH
  have hc : ∀ x ∈ [.str key, .int .i64 f0, .int .i64 f1, .int .i64 f2, .int .i64 f3, .int .i64 f4, .int .i64 f5, .int .i64 f6, .int .i64 f7, .int .i64 f8, .int .i64 f9, .int .i64 f10, .int .i64 f11, .list (ms.map Mo.cs) .no], Low 0 x := low_ints12 (low_mos ms)
  refine aw_loop9 gl_low (σ := Nat) [3, 9, 10, 11] (fun i => i ≤ ms.length) (fun i => [.ptr 1 0, .list (ms.map Mo.cs) .no, .int .i64 ms.length, .int .i64 i]) (hpNew [.str key, .int .i64 f0, .int .i64 f1, .int .i64 f2, .int .i64 f3, .int .i64 f4, .int .i64 f5, .int .i64 f6, .int .i64 f7, .int .i64 f8, .int .i64 f9, .int .i64 f10, .int .i64 f11, .list (ms.map Mo.cs) .no] ms) (fun i => ms.length - i) 0 (Nat.zero_le _) he rfl ?_
  intro i hi
  have hi : i ≤ ms.length := hi
  have hend : ∀ {r : PV} {X : Heap}, i = ms.length → Wk r (.list ((ms.map kOf).map i1) .no) → loopY Q 2 [3, 9, 10, 11] (fun i => i ≤ ms.length) (fun i => [.ptr 1 0, .list (ms.map Mo.cs) .no, .int .i64 ms.length, .int .i64 (i : Nat)]) (hpNew [.str key, .int .i64 f0, .int .i64 f1, .int .i64 f2, .int .i64 f3, .int .i64 f4, .int .i64 f5, .int .i64 f6, .int .i64 f7, .int .i64 f8, .int .i64 f9, .int .i64 f10, .int .i64 f11, .list (ms.map Mo.cs) .no] ms) (fun i => ms.length - i) i (.exit 0) [.ptr 1 0, .list (ms.map Mo.cs) .no, .int .i64 ms.length, .int .i64 i] (.cells [.str key, .int .i64 f0, .int .i64 f1, .int .i64 f2, .int .i64 f3, .int .i64 f4, .int .i64 f5, .int .i64 f6, .int .i64 f7, .int .i64 f8, .int .i64 f9, .int .i64 f10, .int .i64 f11, .list (ms.map Mo.cs) .no] :: .cells [.list [] .exact, r] :: X) := by
    intro r X hi hw
    subst hi
    exact ⟨_, _, tidy_wk2 hc (.cons (.refl _) (.cons hw .nil)) (low_two (low_list NT.exact (fun _ h => nomatch h)) (low_rows low_i1 _)) (by
      intro v hv
      simp only [List.mem_cons, List.not_mem_nil, or_false] at hv
      rcases hv with rfl | rfl | rfl | rfl
      · exact .ptr _ _ (by decide)
      · exact .low (low_mos ms)
      · exact .low (.int _ _)
      · exact .low (.int _ _)), hQ⟩
  cases i with
  | zero =>
    refine wpc_sound (T := []) (L := []) (hn := fun o => match o.dst with | some 19 => 101101 | some 21 => 201001 | some 23 => 1 | some _ => 0 | none => match o.op with | .store _ (.tmp 25) _ => 101101 | _ => 0) (.nil _ _) _ [] (.nil _ _ _ _ _) _ _ _ (newA_vc key f0 f1 f2 f3 f4 f5 f6 f7 f8 f9 f10 f11 ms 0 (loopY Q 2 [3, 9, 10, 11] (fun i => i ≤ ms.length) (fun i => [.ptr 1 0, .list (ms.map Mo.cs) .no, .int .i64 ms.length, .int .i64 (i : Nat)]) (hpNew [.str key, .int .i64 f0, .int .i64 f1, .int .i64 f2, .int .i64 f3, .int .i64 f4, .int .i64 f5, .int .i64 f6, .int .i64 f7, .int .i64 f8, .int .i64 f9, .int .i64 f10, .int .i64 f11, .list (ms.map Mo.cs) .no] ms) (fun i => ms.length - i) 0) ?_).out
    simp only [br_if, dt, inL_mo, toNat_nat]
    by_cases h : 0 < ms.length
    · rw [if_pos (by omega), getD_map default h]
      refine ⟨h, ?_⟩
      rw [if_pos (by rfl)]
      refine ⟨⟨(fun _ h => nomatch h), uni_i1 [(ms.getD 0 default).K], by simp⟩, ⟨rfl, by simp⟩, 1, (show ms.length - 1 < ms.length - 0 by omega), h, ?_⟩
      have e := take_k h
      show Tidy 2 _ _ _ [.cells _, .cells [.list [] .exact, .list (((ms.take (0 + 1)).map kOf).map i1) (.tok 2)], .tok]
      rw [e, wI_succ h (by omega)]
      exact tidy_new hc (low_fi1 [(ms.getD 0 default).K]) (low_mos ms) (.int _ _) (.int _ _) (by decide) rfl
    · rw [if_neg (by omega)]
      have hm : ms = [] := List.eq_nil_of_length_eq_zero (by omega)
      refine hend (by omega) ?_
      rw [hm]; exact .list _ _
  | succ i =>
    refine wpc_sound (T := []) (L := []) (hn := fun o => match o.dst with | some 19 => 101101 | some 21 => 301001 | some 23 => 1 | some _ => 0 | none => match o.op with | .store _ (.tmp 25) _ => 101101 | _ => 0) (.nil _ _) _ [] (.nil _ _ _ _ _) _ _ _ (newB_vc key f0 f1 f2 f3 f4 f5 f6 f7 f8 f9 f10 f11 ms (((ms.take (i + 1)).map kOf).map i1) (i + 1) (loopY Q 2 [3, 9, 10, 11] (fun i => i ≤ ms.length) (fun i => [.ptr 1 0, .list (ms.map Mo.cs) .no, .int .i64 ms.length, .int .i64 (i : Nat)]) (hpNew [.str key, .int .i64 f0, .int .i64 f1, .int .i64 f2, .int .i64 f3, .int .i64 f4, .int .i64 f5, .int .i64 f6, .int .i64 f7, .int .i64 f8, .int .i64 f9, .int .i64 f10, .int .i64 f11, .list (ms.map Mo.cs) .no] ms) (fun i => ms.length - i) (i + 1)) ?_).out
    simp only [br_if, dt, inL_mo, toNat_nat]
    by_cases h : i + 1 < ms.length
    · rw [if_pos (by omega), getD_map default h]
      refine ⟨h, ?_⟩
      rw [if_pos (by rfl)]
      have hle := ks_len ms (i + 1) hi
      refine ⟨⟨uni_i1 _, uni_i1 [(ms.getD (i + 1) default).K], by rw [hle]; simp; omega⟩, ⟨rfl, by simp⟩, i + 2, (show ms.length - (i + 2) < ms.length - (i + 1) by omega), h, ?_⟩
      have e := take_k h
      show Tidy 2 _ _ _ [.cells _, .cells [.list [] .exact, .list (((ms.take (i + 1 + 1)).map kOf).map i1) (.tok 2)], .tok]
      rw [e, wI_succ h (by omega)]
      refine tidy_new hc ?_ (low_mos ms) (.int _ _) (.int _ _) (by decide) rfl
      rw [List.flatten_append]
      intro x hx
      rcases List.mem_append.1 hx with hx | hx
      · exact low_fi1 _ x hx
      · exact low_fi1 [(ms.getD (i + 1) default).K] x hx
    · rw [if_neg (by omega)]
      have hm : i + 1 = ms.length := by omega
      refine hend hm ?_
      rw [hm, List.take_length]; exact .list _ _
theorem new1_vc (key : ByteArray) (f0 f1 f2 f3 f4 f5 f6 f7 f8 f9 f10 f11 : Int) (ms : List Mo)  (K : PV → Heap → Prop) (h : ∃ (c : List PV), ∃ (key_1 : ByteArray), ∃ (f0_1 : Int), ∃ (f1_1 : Int), ∃ (f2_1 : Int), ∃ (f3_1 : Int), ∃ (f4_1 : Int), ∃ (f5_1 : Int), ∃ (f6_1 : Int), ∃ (f7_1 : Int), ∃ (f8_1 : Int), ∃ (f9_1 : Int), ∃ (f10_1 : Int), ∃ (f11_1 : Int), ∃ (ms_1 : List Mo), c = [PV.str key_1, PV.int IntKind.i64 f0_1, PV.int IntKind.i64 f1_1, PV.int IntKind.i64 f2_1, PV.int IntKind.i64 f3_1, PV.int IntKind.i64 f4_1, PV.int IntKind.i64 f5_1, PV.int IntKind.i64 f6_1, PV.int IntKind.i64 f7_1, PV.int IntKind.i64 f8_1, PV.int IntKind.i64 f9_1, PV.int IntKind.i64 f10_1, PV.int IntKind.i64 f11_1, PV.list (List.map Mo.cs ms_1) Tail.no] ∧ List.length ms_1 ≤ 1000000 ∧ SlIs [PV.ptr 1 0, PV.list (List.map Mo.cs ms) Tail.no, PV.int IntKind.i64 (↑(List.length (List.map Mo.cs ms)) : Int), PV.int IntKind.i64 0] [PV.ptr 1 0, PV.list (List.map Mo.cs ms_1) Tail.no, PV.int IntKind.i64 (↑(List.length ms_1) : Int), PV.int IntKind.i64 0] ∧ HpIs [Ob.cells [PV.str key, PV.int IntKind.i64 f0, PV.int IntKind.i64 f1, PV.int IntKind.i64 f2, PV.int IntKind.i64 f3, PV.int IntKind.i64 f4, PV.int IntKind.i64 f5, PV.int IntKind.i64 f6, PV.int IntKind.i64 f7, PV.int IntKind.i64 f8, PV.int IntKind.i64 f9, PV.int IntKind.i64 f10, PV.int IntKind.i64 f11, PV.list (List.map Mo.cs ms) Tail.no], Ob.cells [PV.list [] Tail.exact, PV.list [] Tail.exact]] [Ob.cells c, Ob.cells [PV.list [] Tail.exact, PV.list [] Tail.exact]] ∧ K (PV.ptr 1 0) [Ob.cells c, Ob.cells [PV.list [] Tail.exact, PV.list (List.map i1 (List.map kOf ms_1)) Tail.no]]) : ACalls Try.prog gl 41 [.agg [.str key, .int .i64 f0, .int .i64 f1, .int .i64 f2, .int .i64 f3, .int .i64 f4, .int .i64 f5, .int .i64 f6, .int .i64 f7, .int .i64 f8, .int .i64 f9, .int .i64 f10, .int .i64 f11, .list (ms.map Mo.cs) .no]] [] K :=
  acalls_of_wpc2 (T := []) (L := [([1, 1, 0, 1, 0], new_l)]) (fun _ => 0) Try.func41 (by kernel_rfl) (by kernel_rfl) (by kernel_rfl) (TabOk.nil _ _) (.cons (sub_of (by kernel_rfl)) new_l_ok (.nil _ _ _ _ _)) (holds_of_eq (by kernel_rfl) h)
def zeroC : List PV := [.str S0, .int .i64 0, .int .i64 0, .int .i64 0, .int .i64 0, .int .i64 0, .int .i64 0, .int .i64 0, .int .i64 0, .int .i64 0, .int .i64 0, .int .i64 0, .int .i64 0]
theorem zeroC_low {n : Nat} : ∀ x ∈ zeroC, Low n x := by
  intro x hx
  simp only [zeroC, List.mem_cons, List.not_mem_nil, or_false] at hx
  rcases hx with rfl | rfl | rfl | rfl | rfl | rfl | rfl | rfl | rfl | rfl | rfl | rfl | rfl <;> first | exact .str _ | exact .int _ _
theorem zeroC_low1 {n : Nat} {r : PV} (h : Low n r) : ∀ x ∈ zeroC ++ [r], Low n x := by
  intro x hx
  rcases List.mem_append.1 hx with hx | hx
  · exact zeroC_low x hx
  · rcases List.mem_singleton.1 hx with rfl; exact h
theorem tidy_cfg {es : List (List PV)} {X : Heap} {k : Nat} {v1 v2 : PV} (hes : ∀ x ∈ es.flatten, Low 0 x) (h1 : Low 0 v1) (h2 : Low 0 v2) (hk : 2 ≤ k) (hX : (.cells (zeroC ++ [.list [] .exact]) :: .cells (zeroC ++ [.list es (.tok k)]) :: X : Heap)[k]? = some .tok) :
    Tidy 2 [v1, .ptr 0 0, .ptr 1 0, v2] (.cells (zeroC ++ [.list [] .exact]) :: .cells (zeroC ++ [.list es (.tok k)]) :: X) [v1, .ptr 0 0, .ptr 1 0, v2] [.cells (zeroC ++ [.list [] .exact]), .cells (zeroC ++ [.list es (.tok 2)]), .tok] := by
  refine tidy_list [0, 1, k] (WkL.refl _) (.cons rfl (ren_low (zeroC_low1 (low_list NT.exact (fun _ h => nomatch h)))) (.cons rfl (.cells ((RenL.low zeroC_low).append (.cons ?_ .nil))) (.cons hX .tok .nil))) (by simp; omega) (by simp) (fun o ho => ?_) (.cons (.low h1) (.cons ?_ (.cons ?_ (.cons (.low h2) .nil))))
  · exact .ltok es 2 (by simp) hes
  · rcases o with _ | _ | o
    · rfl
    · rfl
    · omega
  · exact .ptr 0 0 (by simp)
  · exact .ptr 1 0 (by simp)
def hpCfg (ms : List Mo) : Nat → Heap
  | 0 => [.cells (zeroC ++ [.list [] .exact]), .cells (zeroC ++ [.list [] .exact])]
  | i + 1 => [.cells (zeroC ++ [.list [] .exact]), .cells (zeroC ++ [.list ((ms.take (i + 1)).map Mo.cs) (.tok 2)]), .tok]
theorem take_mo {ms : List Mo} {i : Nat} (h : i < ms.length) : (ms.take (i + 1)).map Mo.cs = (ms.take i).map Mo.cs ++ [Mo.cs (ms.getD i default)] := by
  rw [take_snoc default h, List.map_append]; rfl
theorem low_fmo (l : List Mo) : ∀ x ∈ (l.map Mo.cs).flatten, Low 0 x := low_map fun a _ => low_mo a
def cfg_l : LSp := fun e H Q => ∃ (ms : List Mo), ms.length ≤ 1000000 ∧ SlIs (List.map e [0, 2, 3, 4]) [.list (ms.map Mo.cs) .no, .ptr 0 0, .ptr 1 0, .int .i64 0] ∧ HpIs H [.cells [.str S0, .int .i64 0, .int .i64 0, .int .i64 0, .int .i64 0, .int .i64 0, .int .i64 0, .int .i64 0, .int .i64 0, .int .i64 0, .int .i64 0, .int .i64 0, .int .i64 0, .list [] .exact], .cells [.str S0, .int .i64 0, .int .i64 0, .int .i64 0, .int .i64 0, .int .i64 0, .int .i64 0, .int .i64 0, .int .i64 0, .int .i64 0, .int .i64 0, .int .i64 0, .int .i64 0, .list [] .exact]] ∧
  Q (.exit 0) (envS [0, 2, 3, 4] [.list (ms.map Mo.cs) .no, .ptr 0 0, .ptr 1 0, .int .i64 ms.length]) [.cells [.str S0, .int .i64 0, .int .i64 0, .int .i64 0, .int .i64 0, .int .i64 0, .int .i64 0, .int .i64 0, .int .i64 0, .int .i64 0, .int .i64 0, .int .i64 0, .int .i64 0, .list [] .exact], .cells [.str S0, .int .i64 0, .int .i64 0, .int .i64 0, .int .i64 0, .int .i64 0, .int .i64 0, .int .i64 0, .int .i64 0, .int .i64 0, .int .i64 0, .int .i64 0, .int .i64 0, .list (ms.map Mo.cs) .no]]
set_option maxRecDepth 20000 in
theorem cfg_l_ok : ∀ e H Q, cfg_l e H Q → AW Try.prog gl Try.f49.ntmps (.loop (subOf [1, 1, 0, 1, 0] (bodyOf Try.f49))) Q e H := by
  rintro e H Q ⟨ms, hl, he, hH, hQ⟩
  have hH : H = [.cells (zeroC ++ [.list [] .exact]), .cells (zeroC ++ [.list [] .exact])] := hH
  subst hH
  refine aw_loop9 gl_low (σ := Nat) [0, 2, 3, 4] (fun i => i ≤ ms.length) (fun i => [.list (ms.map Mo.cs) .no, .ptr 0 0, .ptr 1 0, .int .i64 i]) (hpCfg ms) (fun i => ms.length - i) 0 (Nat.zero_le _) he rfl ?_
  intro i hi
  have hi : i ≤ ms.length := hi
  have hend : ∀ {r : PV} {X : Heap}, i = ms.length → Wk r (.list (ms.map Mo.cs) .no) → loopY Q 2 [0, 2, 3, 4] (fun i => i ≤ ms.length) (fun i => [.list (ms.map Mo.cs) .no, .ptr 0 0, .ptr 1 0, .int .i64 (i : Nat)]) (hpCfg ms) (fun i => ms.length - i) i (.exit 0) [.list (ms.map Mo.cs) .no, .ptr 0 0, .ptr 1 0, .int .i64 i] (.cells (zeroC ++ [.list [] .exact]) :: .cells (zeroC ++ [r]) :: X) := by
    intro r X hi hw
    subst hi
    have hww : ∀ (l : List PV), WkL (l ++ [r]) (l ++ [.list (ms.map Mo.cs) .no]) := by
      intro l
      induction l with
      | nil => exact .cons hw .nil
      | cons a l ih => exact .cons (.refl _) ih
    exact ⟨_, _, tidy_wk2 (zeroC_low1 (low_list NT.exact (fun _ h => nomatch h))) (hww zeroC) (zeroC_low1 (low_mos ms)) (by
      intro v hv
      simp only [List.mem_cons, List.not_mem_nil, or_false] at hv
      rcases hv with rfl | rfl | rfl | rfl
      · exact .low (low_mos ms)
      · exact .ptr _ _ (by decide)
      · exact .ptr _ _ (by decide)
      · exact .low (.int _ _)), hQ⟩
  have five : ∀ k, k < ms.length → (InL (ms.map Mo.cs) 5 (k : Int)) ∧ (ms.map Mo.cs).getD k [] = (ms.getD k default).cs := fun k h => ⟨by rw [inL_mo]; exact h, getD_map default h⟩
  cases i with
  | zero =>
    refine wpc_sound (T := []) (L := []) (hn := fun o => match o.dst with | some 12 => 102301 | some 40 => 1 | some _ => 0 | none => match o.op with | .store _ (.tmp 41) _ => 102301 | _ => 0) (.nil _ _) _ [] (.nil _ _ _ _ _) _ _ _ (cfgA_vc ms 0 (loopY Q 2 [0, 2, 3, 4] (fun i => i ≤ ms.length) (fun i => [.list (ms.map Mo.cs) .no, .ptr 0 0, .ptr 1 0, .int .i64 (i : Nat)]) (hpCfg ms) (fun i => ms.length - i) 0) ?_).out
    simp only [br_if, dt, toNat_nat, List.length_map]
    by_cases h : 0 < ms.length
    · obtain ⟨h1, h2⟩ := five 0 h
      rw [if_pos (by omega), h2]
      repeat (first | refine ⟨h1, ?_⟩ | rw [if_pos (by rfl)])
      refine ⟨⟨(fun _ h => nomatch h), uni_mo [ms.getD 0 default], by simp⟩, one_row one_mo (ms.getD 0 default), 1, (show ms.length - 1 < ms.length - 0 by omega), h, ?_⟩
      have e := take_mo h
      show Tidy 2 _ _ _ [.cells (zeroC ++ [.list [] .exact]), .cells (zeroC ++ [.list ((ms.take (0 + 1)).map Mo.cs) (.tok 2)]), .tok]
      rw [e, wI_succ h (by omega)]
      exact tidy_cfg (low_fmo [ms.getD 0 default]) (low_mos ms) (.int _ _) (by decide) rfl
    · rw [if_neg (by omega)]
      have hm : ms = [] := List.eq_nil_of_length_eq_zero (by omega)
      refine hend (by omega) ?_
      rw [hm]; exact .list _ _
  | succ i =>
    refine wpc_sound (T := []) (L := []) (hn := fun o => match o.dst with | some 12 => 102301 | some 40 => 1 | some _ => 0 | none => match o.op with | .store _ (.tmp 41) _ => 102301 | _ => 0) (.nil _ _) _ [] (.nil _ _ _ _ _) _ _ _ (cfgB_vc ms ((ms.take (i + 1)).map Mo.cs) (i + 1) (loopY Q 2 [0, 2, 3, 4] (fun i => i ≤ ms.length) (fun i => [.list (ms.map Mo.cs) .no, .ptr 0 0, .ptr 1 0, .int .i64 (i : Nat)]) (hpCfg ms) (fun i => ms.length - i) (i + 1)) ?_).out
    simp only [br_if, dt, toNat_nat, List.length_map]
    by_cases h : i + 1 < ms.length
    · obtain ⟨h1, h2⟩ := five (i + 1) h
      rw [if_pos (by omega), h2]
      repeat (first | refine ⟨h1, ?_⟩ | rw [if_pos (by rfl)])
      refine ⟨⟨uni_mo _, uni_mo [ms.getD (i + 1) default], by simp only [List.length_map, List.length_take, List.length_cons, List.length_nil]; omega⟩, one_row one_mo (ms.getD (i + 1) default), i + 2, (show ms.length - (i + 2) < ms.length - (i + 1) by omega), h, ?_⟩
      have e := take_mo h
      show Tidy 2 _ _ _ [.cells (zeroC ++ [.list [] .exact]), .cells (zeroC ++ [.list ((ms.take (i + 1 + 1)).map Mo.cs) (.tok 2)]), .tok]
      rw [e, wI_succ h (by omega)]
      refine tidy_cfg ?_ (low_mos ms) (.int _ _) (by decide) rfl
      rw [List.flatten_append]
      intro x hx
      rcases List.mem_append.1 hx with hx | hx
      · exact low_fmo _ x hx
      · exact low_fmo [ms.getD (i + 1) default] x hx
    · rw [if_neg (by omega)]
      have hm : i + 1 = ms.length := by omega
      refine hend hm ?_
      rw [hm, List.take_length]; exact .list _ _
theorem cfg1_vc (ms : List Mo)  (K : PV → Heap → Prop) (h : ∃ (ms_1 : List Mo), List.length ms_1 ≤ 1000000 ∧ SlIs [PV.list (List.map Mo.cs ms) Tail.no, PV.ptr 0 0, PV.ptr 1 0, PV.int IntKind.i64 0] [PV.list (List.map Mo.cs ms_1) Tail.no, PV.ptr 0 0, PV.ptr 1 0, PV.int IntKind.i64 0] ∧ HpIs [Ob.cells [PV.str S0, PV.int IntKind.i64 0, PV.int IntKind.i64 0, PV.int IntKind.i64 0, PV.int IntKind.i64 0, PV.int IntKind.i64 0, PV.int IntKind.i64 0, PV.int IntKind.i64 0, PV.int IntKind.i64 0, PV.int IntKind.i64 0, PV.int IntKind.i64 0, PV.int IntKind.i64 0, PV.int IntKind.i64 0, PV.list [] Tail.exact], Ob.cells [PV.str S0, PV.int IntKind.i64 0, PV.int IntKind.i64 0, PV.int IntKind.i64 0, PV.int IntKind.i64 0, PV.int IntKind.i64 0, PV.int IntKind.i64 0, PV.int IntKind.i64 0, PV.int IntKind.i64 0, PV.int IntKind.i64 0, PV.int IntKind.i64 0, PV.int IntKind.i64 0, PV.int IntKind.i64 0, PV.list [] Tail.exact]] [Ob.cells [PV.str S0, PV.int IntKind.i64 0, PV.int IntKind.i64 0, PV.int IntKind.i64 0, PV.int IntKind.i64 0, PV.int IntKind.i64 0, PV.int IntKind.i64 0, PV.int IntKind.i64 0, PV.int IntKind.i64 0, PV.int IntKind.i64 0, PV.int IntKind.i64 0, PV.int IntKind.i64 0, PV.int IntKind.i64 0, PV.list [] Tail.exact], Ob.cells [PV.str S0, PV.int IntKind.i64 0, PV.int IntKind.i64 0, PV.int IntKind.i64 0, PV.int IntKind.i64 0, PV.int IntKind.i64 0, PV.int IntKind.i64 0, PV.int IntKind.i64 0, PV.int IntKind.i64 0, PV.int IntKind.i64 0, PV.int IntKind.i64 0, PV.int IntKind.i64 0, PV.int IntKind.i64 0, PV.list [] Tail.exact]] ∧ K (PV.agg [PV.str S0, PV.int IntKind.i64 0, PV.int IntKind.i64 0, PV.int IntKind.i64 0, PV.int IntKind.i64 0, PV.int IntKind.i64 0, PV.int IntKind.i64 0, PV.int IntKind.i64 0, PV.int IntKind.i64 0, PV.int IntKind.i64 0, PV.int IntKind.i64 0, PV.int IntKind.i64 0, PV.int IntKind.i64 0, PV.list (List.map Mo.cs ms_1) Tail.no]) [Ob.cells [PV.str S0, PV.int IntKind.i64 0, PV.int IntKind.i64 0, PV.int IntKind.i64 0, PV.int IntKind.i64 0, PV.int IntKind.i64 0, PV.int IntKind.i64 0, PV.int IntKind.i64 0, PV.int IntKind.i64 0, PV.int IntKind.i64 0, PV.int IntKind.i64 0, PV.int IntKind.i64 0, PV.int IntKind.i64 0, PV.list (List.map Mo.cs ms_1) Tail.no], Ob.cells [PV.str S0, PV.int IntKind.i64 0, PV.int IntKind.i64 0, PV.int IntKind.i64 0, PV.int IntKind.i64 0, PV.int IntKind.i64 0, PV.int IntKind.i64 0, PV.int IntKind.i64 0, PV.int IntKind.i64 0, PV.int IntKind.i64 0, PV.int IntKind.i64 0, PV.int IntKind.i64 0, PV.int IntKind.i64 0, PV.list (List.map Mo.cs ms_1) Tail.no]]) : ACalls Try.prog gl 49 [.list (ms.map Mo.cs) .no] [] K :=
  acalls_of_wpc2 (T := []) (L := [([1, 1, 0, 1, 0], cfg_l)]) (fun _ => 0) Try.func49 (by kernel_rfl) (by kernel_rfl) (by kernel_rfl) (TabOk.nil _ _) (.cons (sub_of (by kernel_rfl)) cfg_l_ok (.nil _ _ _ _ _)) (holds_of_eq (by kernel_rfl) h)
theorem mos_nil {ms : List Mo} (h : (ms.map Mo.cs).flatten = []) : ms = [] := by
  cases ms with
  | nil => rfl
  | cons a l => simp [Mo.cs] at h
def clom_s (args : List PV) (K : PV → Prop) : Prop := ∃ (ms : List Mo) (tl : Tail), SlIs args [.list (ms.map Mo.cs) tl] ∧ ms.length ≤ 1000000 ∧ K (.list (ms.map Mo.cs) .no)
theorem clom_ok : SpOk Try.prog gl 69 (.pure clom_s) := by
  rintro args K ⟨ms, tl, he, hl, hk⟩
  have he : args = _ := he
  subst he
  refine spure_w gl_low (.cons (.list _ _) .nil) (low_one (low_mos ms)) (low_mos ms) (acalls_weak (clom_vc ms _ ?_)) hk
  intro b hb
  rw [br_if]
  cases b with
  | true =>
    rw [if_pos rfl]
    have hn : ms = [] := mos_nil (Classical.byContradiction fun h => absurd (hb h) (by decide))
    subst hn
    exact ⟨_, .list _ _, rfl⟩
  | false =>
    rw [if_neg (by decide)]
    refine ⟨⟨(fun _ h => nomatch h), uni_mo ms, by simp; omega⟩, List.all_eq_true.2 fun y hy => ?_, fun h => ⟨_, .list _ _, by rw [h]⟩, fun h => ⟨_, .list _ _, rfl⟩⟩
    obtain ⟨c, h2, h3⟩ := List.mem_flatten.1 hy
    obtain ⟨a, _, rfl⟩ := List.mem_map.1 h2
    exact one_mo a y h3
def TUS : Tab := [(69, .pure clom_s)]
theorem TUS_ok : TabOk Try.prog gl TUS := .cons clom_ok (.nil _ _)
theorem us1_vc (ms : List Mo)  (K : PV → Heap → Prop) (h : ∃ (ms_1 : List Mo), ∃ (tl : Tail), SlIs [PV.list (List.map Mo.cs ms) Tail.no] [PV.list (List.map Mo.cs ms_1) tl] ∧ List.length ms_1 ≤ 1000000 ∧ K (PV.agg [PV.str N_tilt, PV.int IntKind.i64 16, PV.int IntKind.i64 16, PV.int IntKind.i64 8, PV.int IntKind.i64 4, PV.int IntKind.i64 100, PV.int IntKind.i64 50, PV.int IntKind.i64 20, PV.int IntKind.i64 10, PV.int IntKind.i64 15, PV.int IntKind.i64 30, PV.int IntKind.i64 20, PV.int IntKind.i64 8192, PV.list (List.map Mo.cs ms_1) Tail.no]) [Ob.cells [PV.str N_tilt, PV.int IntKind.i64 16, PV.int IntKind.i64 16, PV.int IntKind.i64 8, PV.int IntKind.i64 4, PV.int IntKind.i64 100, PV.int IntKind.i64 50, PV.int IntKind.i64 20, PV.int IntKind.i64 10, PV.int IntKind.i64 15, PV.int IntKind.i64 30, PV.int IntKind.i64 20, PV.int IntKind.i64 8192, PV.list (List.map Mo.cs ms_1) Tail.no]]) : ACalls Try.prog gl 42 [.list (ms.map Mo.cs) .no] [] K :=
  acalls_of_wpc2 (T := TUS) (L := []) (fun _ => 0) Try.func42 (by kernel_rfl) (by kernel_rfl) (by kernel_rfl) (TUS_ok) (LOk.nil _ _ _ _ _) (holds_of_eq (by kernel_rfl) h)
def us_s (args : List PV) (K : PV → Prop) : Prop := ∃ (ms : List Mo) (tl : Tail), SlIs args [.list (ms.map Mo.cs) tl] ∧ ms.length ≤ 1000000 ∧ K (.agg [.str N_tilt, .int .i64 16, .int .i64 16, .int .i64 8, .int .i64 4, .int .i64 100, .int .i64 50, .int .i64 20, .int .i64 10, .int .i64 15, .int .i64 30, .int .i64 20, .int .i64 8192, .list (ms.map Mo.cs) .no])
theorem us_ok : SpOk Try.prog gl 42 (.pure us_s) := by
  rintro args K ⟨ms, tl, he, hl, hk⟩
  have he : args = _ := he
  subst he
  exact spure_w gl_low (.cons (.list _ _) .nil) (low_one (low_mos ms)) (.agg _ (low_ints12 (low_mos ms))) (us1_vc ms (fun x _ => x = .agg [.str N_tilt, .int .i64 16, .int .i64 16, .int .i64 8, .int .i64 4, .int .i64 100, .int .i64 50, .int .i64 20, .int .i64 10, .int .i64 15, .int .i64 30, .int .i64 20, .int .i64 8192, .list (ms.map Mo.cs) .no]) ⟨ms, .no, rfl, hl, rfl⟩) hk
def cfg_s (args : List PV) (K : PV → Prop) : Prop := ∃ (ms : List Mo) (tl : Tail), SlIs args [.list (ms.map Mo.cs) tl] ∧ ms.length ≤ 1000000 ∧ K (.agg [.str S0, .int .i64 0, .int .i64 0, .int .i64 0, .int .i64 0, .int .i64 0, .int .i64 0, .int .i64 0, .int .i64 0, .int .i64 0, .int .i64 0, .int .i64 0, .int .i64 0, .list (ms.map Mo.cs) .no])
theorem cfg_ok : SpOk Try.prog gl 49 (.pure cfg_s) := by
  rintro args K ⟨ms, tl, he, hl, hk⟩
  have he : args = _ := he
  subst he
  exact spure_w gl_low (.cons (.list _ _) .nil) (low_one (low_mos ms)) (.agg _ (low_ints12 (low_mos ms))) (cfg1_vc ms (fun x _ => x = .agg [.str S0, .int .i64 0, .int .i64 0, .int .i64 0, .int .i64 0, .int .i64 0, .int .i64 0, .int .i64 0, .int .i64 0, .int .i64 0, .int .i64 0, .int .i64 0, .int .i64 0, .list (ms.map Mo.cs) .no]) ⟨ms, hl, rfl, rfl, rfl⟩) hk
-- the queue as one whole, amid other objects
def new_s (args : List PV) (H : Heap) (K : PV → Heap → Prop) : Prop := ∃ (key : ByteArray) (f0 f1 f2 f3 f4 f5 f6 f7 f8 f9 f10 f11 : Int) (ms : List Mo), SlIs args [.agg [.str key, .int .i64 f0, .int .i64 f1, .int .i64 f2, .int .i64 f3, .int .i64 f4, .int .i64 f5, .int .i64 f6, .int .i64 f7, .int .i64 f8, .int .i64 f9, .int .i64 f10, .int .i64 f11, .list (ms.map Mo.cs) .no]] ∧ ms.length ≤ 1000000 ∧ K (.ptr H.length 0) (H ++ [.abs (rkT [] (ms.map kOf))])
theorem new_ok : SpOk Try.prog gl 41 (.heap new_s) := by
  rintro args H K ⟨key, f0, f1, f2, f3, f4, f5, f6, f7, f8, f9, f10, f11, ms, he, hl, hk⟩
  have he : args = _ := he
  subst he
  have h0 : ACalls Try.prog gl 41 [.agg [.str key, .int .i64 f0, .int .i64 f1, .int .i64 f2, .int .i64 f3, .int .i64 f4, .int .i64 f5, .int .i64 f6, .int .i64 f7, .int .i64 f8, .int .i64 f9, .int .i64 f10, .int .i64 f11, .list (ms.map Mo.cs) .no]] [] (fun x H' => x = .ptr 1 0 ∧ ∃ c, H' = [.cells c, .cells [.list [] .exact, .list ((ms.map kOf).map i1) .no]]) :=
    new1_vc key f0 f1 f2 f3 f4 f5 f6 f7 f8 f9 f10 f11 ms _ ⟨_, key, f0, f1, f2, f3, f4, f5, f6, f7, f8, f9, f10, f11, ms, rfl, hl, (by show _ = _; simp only [List.length_map]), rfl, rfl, _, rfl⟩
  refine acalls_to (make_left gl_low (I' := EXQ [] (ms.map kOf)) (low_one (.agg _ (low_ints12 (low_mos ms)))) (acalls_rename gl_low (acalls_to h0 fun x H' e => ?_))) fun _ _ e => e.1 ▸ e.2 ▸ hk
  obtain ⟨rfl, c, rfl⟩ := e
  refine ⟨.ptr 0 0, [.cells [.list [] .exact, .list ((ms.map kOf).map i1) .no]], fun _ => 1, ⟨fun o _ => by simp, fun a b h1 h2 _ => by simp at h1 h2; omega, fun a ob h1 => ?_⟩, Nat.zero_le _, fun o ho => absurd ho (Nat.not_lt_zero _), .ptr (ρ := fun _ => 1) 0 0 (by simp), rfl, left_NT⟩
  have k1 := (List.getElem?_eq_some_iff.1 h1).1
  simp at k1
  subst k1
  cases h1
  exact ⟨_, rfl, ren_low (low_two (low_list NT.exact (fun _ h => nomatch h)) (low_rows low_i1 _))⟩
theorem exq_left {l : List Tk} {sz : List Int} {X : Heap} (h : EXQ l sz X) : RestOf (EXQ l sz) X := left_EXQ h
def get_s (args : List PV) (H : Heap) (K : PV → Prop) : Prop := ∃ (q : Nat) (l : List Tk) (sz : List Int) (c : Int), SlIs args [.ptr q 0, .int .u32 c] ∧ AbIs H q (rkT l sz) ∧ Sml l ∧ K (.tup [.agg [.int .u32 (getQ l c).id, .int .i64 (getQ l c).md, .list ((getQ l c).pl.map u1) .no, .int .i64 (getQ l c).rt, .int .i64 (getQ l c).si], .bool (hasQ l c)])
theorem get_ok : SpOk Try.prog gl 55 (.read get_s) := by
  rintro args H K ⟨q, l, sz, c, he, ha, s, hk⟩
  have he : args = _ := he
  subst he
  exact ⟨_, meth_read gl_low ha low0_int (low_gq l c) (fun hh h => acalls_to (lift_get h s) fun x H' e => ⟨e.1, e.2 ▸ exq_left h⟩), hk⟩
def of_s (args : List PV) (H : Heap) (K : PV → Prop) : Prop := ∃ (q : Nat) (l : List Tk) (sz : List Int) (c : Int), SlIs args [.ptr q 0, .int .u32 c] ∧ AbIs H q (rkT l sz) ∧ Sml l ∧ K (.int .u32 (ofQ l c))
theorem of_ok : SpOk Try.prog gl 46 (.read of_s) := by
  rintro args H K ⟨q, l, sz, c, he, ha, s, hk⟩
  have he : args = _ := he
  subst he
  exact ⟨_, meth_read gl_low ha low0_int (.int _ _) (fun hh h => acalls_to (lift_of h s) fun x H' e => ⟨e.1, e.2 ▸ exq_left h⟩), hk⟩
def len_s (args : List PV) (H : Heap) (K : PV → Prop) : Prop := ∃ (q : Nat) (l : List Tk) (sz : List Int), SlIs args [.ptr q 0] ∧ AbIs H q (rkT l sz) ∧ K (.int .i64 l.length)
theorem len_ok : SpOk Try.prog gl 47 (.read len_s) := by
  rintro args H K ⟨q, l, sz, he, ha, hk⟩
  have he : args = _ := he
  subst he
  exact ⟨_, meth_read gl_low ha low0_nil (.int _ _) (fun hh h => acalls_to (lift_len h) fun x H' e => ⟨e.1, e.2 ▸ exq_left h⟩), hk⟩
def mode_s (args : List PV) (H : Heap) (K : PV → Prop) : Prop := ∃ (q : Nat) (l : List Tk) (sz : List Int) (m : Int), SlIs args [.ptr q 0, .int .i64 m] ∧ AbIs H q (rkT l sz) ∧ Sml l ∧ K (.list ((modeL l m).map csT) .no)
theorem mode_ok : SpOk Try.prog gl 45 (.read mode_s) := by
  rintro args H K ⟨q, l, sz, m, he, ha, s, hk⟩
  have he : args = _ := he
  subst he
  exact ⟨_, meth_read gl_low ha low0_int (low_mode _) (fun hh h => acalls_to (lift_mode h s) fun x H' e => ⟨e.1, e.2 ▸ exq_left h⟩), hk⟩
def put_s (args : List PV) (H : Heap) (K : PV → Heap → Prop) : Prop := match args with
  | .ptr q 0 :: rest => ∃ (l : List Tk) (sz : List Int) (t : Tk) (tl : Tail), SlIs rest [.agg [.int .u32 t.id, .int .i64 t.md, .list (t.pl.map u1) tl, .int .i64 t.rt, .int .i64 t.si]] ∧ AbIs H q (rkT l sz) ∧ Sml l ∧ LbT l t (lbT l t) ∧ t.pl.length ≤ 1000000 ∧ K (.int .i64 (errQ sz l t)) (H.set q (.abs (rkT (putQ sz l t) sz)))
  | _ => False
theorem putW_ok : SpOk Try.prog gl 43 (.heap put_s) := by
  intro args H K h
  unfold put_s at h
  split at h
  · rename_i q rest
    obtain ⟨l, sz, t, tl, he, ha, s, hp, ht, hk⟩ := h
    have he : rest = _ := he
    subst he
    refine acalls_args (.cons (.refl _) (.cons (wk_tk (t := t)) .nil)) ?_
    exact meth_heap gl_low ha (low_one t.low) (.int _ _) (fun hh h => put_ok h s hp ht) hk
  · exact h.elim
def drop_s (args : List PV) (H : Heap) (K : PV → Heap → Prop) : Prop := match args with
  | .ptr q 0 :: rest => ∃ (l : List Tk) (sz : List Int) (c : Int), SlIs rest [.int .u32 c] ∧ AbIs H q (rkT l sz) ∧ Sml l ∧ K (.tup [.agg [.int .u32 (getQ l c).id, .int .i64 (getQ l c).md, .list ((getQ l c).pl.map u1) .no, .int .i64 (getQ l c).rt, .int .i64 (getQ l c).si], .bool (hasQ l c)]) (H.set q (.abs (rkT (dropQ l c) sz)))
  | _ => False
theorem dropW_ok : SpOk Try.prog gl 50 (.heap drop_s) := by
  intro args H K h
  unfold drop_s at h
  split at h
  · rename_i q rest
    obtain ⟨l, sz, c, he, ha, s, hk⟩ := h
    have he : rest = _ := he
    subst he
    exact meth_heap gl_low ha low0_int (low_gq l c) (fun hh h => drop_ok h s) hk
  · exact h.elim
/-- a ticket that is told is one's own -/
def getA_s (args : List PV) (H : Heap) (K : PV → Heap → Prop) : Prop := ∃ (q : Nat) (l : List Tk) (sz : List Int) (c : Int), SlIs args [.ptr q 0, .int .u32 c] ∧ AbIs H q (rkT l sz) ∧ Sml l ∧
  (hasQ l c = false → K (.tup [.agg [.int .u32 0, .int .i64 0, .list [] .no, .int .i64 0, .int .i64 0], .bool false]) H) ∧
  (hasQ l c = true → K (.tup [.agg [.int .u32 (getQ l c).id, .int .i64 (getQ l c).md, .arr H.length 0 (getQ l c).pl.length (getQ l c).pl.length, .int .i64 (getQ l c).rt, .int .i64 (getQ l c).si], .bool true]) (H ++ [.cells ((getQ l c).pl.map u1).flatten]))
theorem getA_ok : SpOk Try.prog gl 55 (.heap getA_s) := by
  rintro args H K ⟨q, l, sz, c, he, ha, s, hk0, hk1⟩
  have he : args = _ := he
  subst he
  cases hh : hasQ l c with
  | false =>
    obtain ⟨r, h1, h2⟩ := get_ok [.ptr q 0, .int .u32 c] H (fun x => x = .tup [.agg [.int .u32 0, .int .i64 0, .list [] .no, .int .i64 0, .int .i64 0], .bool false]) ⟨q, l, sz, c, rfl, ha, s, by rw [getQ_none (fun k => by unfold hasQ at hh; rw [decide_eq_true k] at hh; cases hh), hh]; rfl⟩
    exact acalls_to h1 fun x H' e => by rw [e.1, e.2, h2]; exact hk0 hh
  | true =>
    have k : l.findIdx (byId c) < l.length := of_decide_eq_true hh
    refine meth_new gl_low (I := EXQ l sz) (I' := EXQ l sz) (fun a => .tup [tkA (getQ l c) a, .bool true]) ha low0_int (fun k k' len cap => RA.tupL (.cons (ra_tk _ _ _ _ _) (.cons (.low (.bool _)) .nil))) fun X hX => ?_
    rcases hX with ⟨J, cap, rfl, hc, hJ⟩ | ⟨rfl, rfl⟩
    · refine geAA_vc l J cap sz c _ ⟨l, sz, hpQ l J cap sz, [_, _], 2, c, rfl, .inl ⟨J, cap, rfl, hc, hJ⟩, rfl, rfl, s.len, s.pl, ?_⟩
      simp only [br_if, dt]
      rw [if_neg (fun e => (ixNeg.1 e) k), ixPos k]
      simp only [toNat_nat, Nat.zero_add]
      rw [flT_at J k]
      refine ⟨⟨by omega, by omega⟩, ?_⟩
      rw [if_pos (by rfl)]
      refine ⟨getQ l c, .no, rfl, s.get _, 4, _, _, ((getQ l c).pl.map u1).flatten, rfl, low_map fun a _ => low_u1 a, ⟨hpQ l J cap sz, fun o => if o = 2 then 4 else o, ⟨fun o ho => ?_, fun o o' h1 h2 e => ?_, fun o a ho => ?_⟩, rfl, rfl, hpQ_lid (by simp [hpQ]) hJ.low, .inl ⟨J, cap, rfl, hc, hJ⟩, root_of⟩, ?_⟩
      · simp [hpQ] at ho ⊢
        split <;> omega
      · simp [hpQ] at h1 h2
        split at e <;> split at e <;> omega
      · have k1 := (List.getElem?_eq_some_iff.1 ho).1
        simp [hpQ] at k1
        have : o = 0 ∨ o = 1 ∨ o = 2 := by omega
        rcases this with rfl | rfl | rfl
        · cases ho
          refine ⟨_, rfl, .cells (.cons ?_ (.cons (.low (low_rows low_i1 sz)) .nil))⟩
          exact .arr (ρ := fun o => if o = 2 then 4 else o) 1 0 l.length cap (by simp [hpQ])
        · cases ho
          exact ⟨_, rfl, ren_low (flT_low l hJ.low)⟩
        · cases ho
          exact ⟨_, rfl, ren_low (low_map fun a _ => low_u1 a)⟩
      · have := hk1 hh
        show K _ (H.set q (.abs (rkT l sz)) ++ _)
        rw [set_same ha]
        exact this
    · exact absurd k (by simp)
end Go.Proofs.Ytcmknbanojcbaaa
