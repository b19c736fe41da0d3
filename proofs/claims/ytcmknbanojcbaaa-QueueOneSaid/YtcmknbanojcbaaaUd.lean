/-
  Queues: Put, Drop at their objects.
-/
import Derived.Test.YtcmknbanojcbaaaUc
import Derived.Test.YtcmknbanojcbaaaProg
namespace Go.Proofs.Ytcmknbanojcbaaa
open Go Go.AM Go.Proofs
def bsA_s (args : List PV) (H : Heap) (K : PV → Prop) : Prop := ∃ (l : List Tk) (J : List PV) (cap : Nat) (sz : List Int) (t : Tk) (p : Nat) (Z : Heap), SlIs args [.arr 1 0 l.length cap, .agg [.int .u32 t.id, .int .i64 t.md, .list (t.pl.map u1) .no, .int .i64 t.rt, .int .i64 t.si], .fn 74 []] ∧ HpIs H (hpQ l J cap sz ++ Z) ∧ (∀ y ∈ J, Low 0 y) ∧ l.length ≤ 1000000 ∧ LbT l t p ∧ K (.tup [.int .i64 p, .bool (hitT l t p)])
theorem bsA_ok : SpOk Try.prog gl 73 (.read bsA_s) := fun args H K h => bsT_ok args H K (.inl h)
def bsN_s (args : List PV) (H : Heap) (K : PV → Prop) : Prop := ∃ (sz : List Int) (t : Tk) (Z : Heap), SlIs args [.list [] .exact, .agg [.int .u32 t.id, .int .i64 t.md, .list (t.pl.map u1) .no, .int .i64 t.rt, .int .i64 t.si], .fn 74 []] ∧ HpIs H (hpE sz ++ Z) ∧ K (.tup [.int .i64 0, .bool false])
theorem bsN_ok : SpOk Try.prog gl 73 (.read bsN_s) := fun args H K h => bsT_ok args H K (.inr h)
def inA_s (args : List PV) (H : Heap) (K : PV → Heap → Prop) : Prop :=
  ∃ (G : Heap) (l : List Tk) (J : List PV) (cap : Nat) (sz : List Int) (r : Tk) (p : Nat), SlIs args [.arr 1 0 l.length cap, .int .i64 p, .list [csT r] .exact] ∧ HpIs H (hpQ l J cap sz ++ G) ∧ p ≤ l.length ∧ l.length ≤ 1000000 ∧ l.length ≤ cap ∧ Room J ((cap - l.length) * 5) ∧
    (∀ (J' : List PV), l.length + 1 ≤ cap → Room J' ((cap - (l.length + 1)) * 5) → K (.arr 1 0 (l.length + 1) cap) ([.cells [.arr 1 0 l.length cap, .list (sz.map i1) .no], .cells (flT (insAt l p r) ++ J')] ++ G)) ∧
    (∀ (c : Nat), l.length + 1 ≤ c → ∀ (J' : List PV), Room J' ((c - (l.length + 1)) * 5) → K (.arr (2 + G.length) 0 (l.length + 1) c) ([.cells [.arr 1 0 l.length cap, .list (sz.map i1) .no], .cells (flT l ++ J)] ++ G ++ [.cells (flT (insAt l p r) ++ J')]))
theorem inA_ok : SpOk Try.prog gl 75 (.heap inA_s) := fun args H K h => insTT_ok args H K (.inl h)
def inN_s (args : List PV) (H : Heap) (K : PV → Heap → Prop) : Prop :=
  ∃ (G : Heap) (sz : List Int) (r : Tk), SlIs args [.list [] .exact, .int .i64 0, .list [csT r] .exact] ∧ HpIs H (hpE sz ++ G) ∧
    ∀ (c : Nat), 1 ≤ c → ∀ (J' : List PV), Room J' ((c - 1) * 5) → K (.arr (1 + G.length) 0 1 c) ([.cells [.list [] .exact, .list (sz.map i1) .no]] ++ G ++ [.cells (csT r ++ J')])
theorem inN_ok : SpOk Try.prog gl 75 (.heap inN_s) := fun args H K h => insTT_ok args H K (.inr h)
def TPQ0 : Tab := [(55, .read getT_s), (16, .pure right_s), (70, .pure cfu_s), (72, .read dblT_s), (45, .read modeT_s), (76, .pure own_s)]
theorem TPQ0_ok : TabOk Try.prog gl TPQ0 := .cons getT_ok (.cons right_ok (.cons cfu_ok (.cons dblT_ok (.cons modeT_ok (.cons own_ok (.nil _ _))))))
def TPA : Tab := (73, .read bsA_s) :: (75, .heap inA_s) :: TPQ0
theorem TPA_ok : TabOk Try.prog gl TPA := .cons bsA_ok (.cons inA_ok TPQ0_ok)
def TPN : Tab := (73, .read bsN_s) :: (75, .heap inN_s) :: TPQ0
theorem TPN_ok : TabOk Try.prog gl TPN := .cons bsN_ok (.cons inN_ok TPQ0_ok)
def TDQ : Tab := [(77, .read atD_s), (81, .heap delTT_s)]
theorem TDQ_ok : TabOk Try.prog gl TDQ := .cons atD_ok (.cons delTT_ok (.nil _ _))
theorem putA_vc (l : List Tk) (J : List PV) (cap : Nat) (sz : List Int) (t : Tk)  (K : PV → Heap → Prop) (h : ∃ (l_1 : List Tk), ∃ (sz_1 : List Int), ∃ (X : Heap), ∃ (Z : Heap), ∃ (c : Int), SlIs [PV.ptr 0 0, PV.int IntKind.u32 (Tk.id t)] [PV.ptr 0 0, PV.int IntKind.u32 c] ∧ EXQ l_1 sz_1 X ∧ HpIs [Ob.cells [PV.arr 1 0 (List.length l) cap, PV.list (List.map i1 sz) Tail.no], Ob.cells (flT l ++ J), Ob.cells [PV.int IntKind.u32 (Tk.id t), PV.int IntKind.i64 (Tk.md t), PV.list (List.map u1 (Tk.pl t)) Tail.no, PV.int IntKind.i64 (Tk.rt t), PV.int IntKind.i64 (Tk.si t)]] (X ++ Z) ∧ Sml l_1 ∧ br ((!rightS (Tk.id t)) == false) (∃ (l_2 : List Int), SlIs [PV.list (List.map u1 (Tk.pl t)) Tail.no, PV.fn 71 []] [PV.list (List.map u1 l_2) Tail.no, PV.fn 71 []] ∧ List.length l_2 ≤ 1000000 ∧ br (badP l_2) (K (PV.int IntKind.i64 14) [Ob.cells [PV.arr 1 0 (List.length l) cap, PV.list (List.map i1 sz) Tail.no], Ob.cells (flT l ++ J), Ob.cells [PV.int IntKind.u32 (Tk.id t), PV.int IntKind.i64 (Tk.md t), PV.list (List.map u1 (Tk.pl t)) Tail.no, PV.int IntKind.i64 (Tk.rt t), PV.int IntKind.i64 (Tk.si t)], Ob.cells [PV.int IntKind.u32 (Tk.id (getQ l_1 c)), PV.int IntKind.i64 (Tk.md (getQ l_1 c)), PV.list (List.map u1 (Tk.pl (getQ l_1 c))) Tail.no, PV.int IntKind.i64 (Tk.rt (getQ l_1 c)), PV.int IntKind.i64 (Tk.si (getQ l_1 c))]]) (br (decide (Tk.md t < 0) == false) (br (decide (Tk.md t ≥ (↑(List.length (List.map i1 sz)) : Int))) (K (PV.int IntKind.i64 20) [Ob.cells [PV.arr 1 0 (List.length l) cap, PV.list (List.map i1 sz) Tail.no], Ob.cells (flT l ++ J), Ob.cells [PV.int IntKind.u32 (Tk.id t), PV.int IntKind.i64 (Tk.md t), PV.list (List.map u1 (Tk.pl t)) Tail.no, PV.int IntKind.i64 (Tk.rt t), PV.int IntKind.i64 (Tk.si t)], Ob.cells [PV.int IntKind.u32 (Tk.id (getQ l_1 c)), PV.int IntKind.i64 (Tk.md (getQ l_1 c)), PV.list (List.map u1 (Tk.pl (getQ l_1 c))) Tail.no, PV.int IntKind.i64 (Tk.rt (getQ l_1 c)), PV.int IntKind.i64 (Tk.si (getQ l_1 c))]]) (br (((↑(List.length (List.map u1 (Tk.pl t))) : Int) == 0) == false) (InL (List.map i1 sz) 1 (Tk.md t) ∧ br (true && fitX [CK.int IntKind.i64] 0 (List.getD (List.map i1 sz) (Int.toNat (Tk.md t)) [])) (br (decide ((↑(List.length (List.map u1 (Tk.pl t))) : Int) > cI (List.getD (List.map i1 sz) (Int.toNat (Tk.md t)) []) 0)) (K (PV.int IntKind.i64 21) [Ob.cells [PV.arr 1 0 (List.length l) cap, PV.list (List.map i1 sz) Tail.no], Ob.cells (flT l ++ J), Ob.cells [PV.int IntKind.u32 (Tk.id t), PV.int IntKind.i64 (Tk.md t), PV.list (List.map u1 (Tk.pl t)) Tail.no, PV.int IntKind.i64 (Tk.rt t), PV.int IntKind.i64 (Tk.si t)], Ob.cells [PV.int IntKind.u32 (Tk.id (getQ l_1 c)), PV.int IntKind.i64 (Tk.md (getQ l_1 c)), PV.list (List.map u1 (Tk.pl (getQ l_1 c))) Tail.no, PV.int IntKind.i64 (Tk.rt (getQ l_1 c)), PV.int IntKind.i64 (Tk.si (getQ l_1 c))]]) (br (decide (Tk.rt t < 0) == false) (br (decide (Tk.rt t > 10000)) (K (PV.int IntKind.i64 2) [Ob.cells [PV.arr 1 0 (List.length l) cap, PV.list (List.map i1 sz) Tail.no], Ob.cells (flT l ++ J), Ob.cells [PV.int IntKind.u32 (Tk.id t), PV.int IntKind.i64 (Tk.md t), PV.list (List.map u1 (Tk.pl t)) Tail.no, PV.int IntKind.i64 (Tk.rt t), PV.int IntKind.i64 (Tk.si t)], Ob.cells [PV.int IntKind.u32 (Tk.id (getQ l_1 c)), PV.int IntKind.i64 (Tk.md (getQ l_1 c)), PV.list (List.map u1 (Tk.pl (getQ l_1 c))) Tail.no, PV.int IntKind.i64 (Tk.rt (getQ l_1 c)), PV.int IntKind.i64 (Tk.si (getQ l_1 c))]]) (br (hasQ l_1 c == false) (∃ (l_3 : List Tk), ∃ (sz_2 : List Int), ∃ (X : Heap), ∃ (Z : Heap), ∃ (pl : List Int), SlIs [PV.ptr 0 0, PV.list (List.map u1 (Tk.pl t)) Tail.no] [PV.ptr 0 0, PV.list (List.map u1 pl) Tail.no] ∧ EXQ l_3 sz_2 X ∧ HpIs [Ob.cells [PV.arr 1 0 (List.length l) cap, PV.list (List.map i1 sz) Tail.no], Ob.cells (flT l ++ J), Ob.cells [PV.int IntKind.u32 (Tk.id t), PV.int IntKind.i64 (Tk.md t), PV.list (List.map u1 (Tk.pl t)) Tail.no, PV.int IntKind.i64 (Tk.rt t), PV.int IntKind.i64 (Tk.si t)], Ob.cells [PV.int IntKind.u32 (Tk.id (getQ l_1 c)), PV.int IntKind.i64 (Tk.md (getQ l_1 c)), PV.list (List.map u1 (Tk.pl (getQ l_1 c))) Tail.no, PV.int IntKind.i64 (Tk.rt (getQ l_1 c)), PV.int IntKind.i64 (Tk.si (getQ l_1 c))]] (X ++ Z) ∧ Sml l_3 ∧ List.length pl ≤ 1000000 ∧ br (dblQ l_3 pl) (K (PV.int IntKind.i64 11) [Ob.cells [PV.arr 1 0 (List.length l) cap, PV.list (List.map i1 sz) Tail.no], Ob.cells (flT l ++ J), Ob.cells [PV.int IntKind.u32 (Tk.id t), PV.int IntKind.i64 (Tk.md t), PV.list (List.map u1 (Tk.pl t)) Tail.no, PV.int IntKind.i64 (Tk.rt t), PV.int IntKind.i64 (Tk.si t)], Ob.cells [PV.int IntKind.u32 (Tk.id (getQ l_1 c)), PV.int IntKind.i64 (Tk.md (getQ l_1 c)), PV.list (List.map u1 (Tk.pl (getQ l_1 c))) Tail.no, PV.int IntKind.i64 (Tk.rt (getQ l_1 c)), PV.int IntKind.i64 (Tk.si (getQ l_1 c))]]) (∃ (l_4 : List Tk), ∃ (sz_3 : List Int), ∃ (X : Heap), ∃ (Z : Heap), ∃ (m : Int), SlIs [PV.ptr 0 0, PV.int IntKind.i64 (Tk.md t)] [PV.ptr 0 0, PV.int IntKind.i64 m] ∧ EXQ l_4 sz_3 X ∧ HpIs [Ob.cells [PV.arr 1 0 (List.length l) cap, PV.list (List.map i1 sz) Tail.no], Ob.cells (flT l ++ J), Ob.cells [PV.int IntKind.u32 (Tk.id t), PV.int IntKind.i64 (Tk.md t), PV.list (List.map u1 (Tk.pl t)) Tail.no, PV.int IntKind.i64 (Tk.rt t), PV.int IntKind.i64 (Tk.si t)], Ob.cells [PV.int IntKind.u32 (Tk.id (getQ l_1 c)), PV.int IntKind.i64 (Tk.md (getQ l_1 c)), PV.list (List.map u1 (Tk.pl (getQ l_1 c))) Tail.no, PV.int IntKind.i64 (Tk.rt (getQ l_1 c)), PV.int IntKind.i64 (Tk.si (getQ l_1 c))]] (X ++ Z) ∧ Sml l_4 ∧ br (decide ((↑(List.length (List.map csT (modeL l_4 m))) : Int) ≥ 16)) (K (PV.int IntKind.i64 10) [Ob.cells [PV.arr 1 0 (List.length l) cap, PV.list (List.map i1 sz) Tail.no], Ob.cells (flT l ++ J), Ob.cells [PV.int IntKind.u32 (Tk.id t), PV.int IntKind.i64 (Tk.md t), PV.list (List.map u1 (Tk.pl t)) Tail.no, PV.int IntKind.i64 (Tk.rt t), PV.int IntKind.i64 (Tk.si t)], Ob.cells [PV.int IntKind.u32 (Tk.id (getQ l_1 c)), PV.int IntKind.i64 (Tk.md (getQ l_1 c)), PV.list (List.map u1 (Tk.pl (getQ l_1 c))) Tail.no, PV.int IntKind.i64 (Tk.rt (getQ l_1 c)), PV.int IntKind.i64 (Tk.si (getQ l_1 c))]]) (∃ (l_5 : List Tk), ∃ (J_1 : List PV), ∃ (cap_1 : Nat), ∃ (sz_4 : List Int), ∃ (t_1 : Tk), ∃ (p : Nat), ∃ (Z : Heap), SlIs [PV.arr 1 0 (List.length l) cap, PV.agg [PV.int IntKind.u32 (Tk.id t), PV.int IntKind.i64 (Tk.md t), PV.list (List.map u1 (Tk.pl t)) Tail.no, PV.int IntKind.i64 (Tk.rt t), PV.int IntKind.i64 (Tk.si t)], PV.fn 74 []] [PV.arr 1 0 (List.length l_5) cap_1, PV.agg [PV.int IntKind.u32 (Tk.id t_1), PV.int IntKind.i64 (Tk.md t_1), PV.list (List.map u1 (Tk.pl t_1)) Tail.no, PV.int IntKind.i64 (Tk.rt t_1), PV.int IntKind.i64 (Tk.si t_1)], PV.fn 74 []] ∧ HpIs [Ob.cells [PV.arr 1 0 (List.length l) cap, PV.list (List.map i1 sz) Tail.no], Ob.cells (flT l ++ J), Ob.cells [PV.int IntKind.u32 (Tk.id t), PV.int IntKind.i64 (Tk.md t), PV.list (List.map u1 (Tk.pl t)) Tail.no, PV.int IntKind.i64 (Tk.rt t), PV.int IntKind.i64 (Tk.si t)], Ob.cells [PV.int IntKind.u32 (Tk.id (getQ l_1 c)), PV.int IntKind.i64 (Tk.md (getQ l_1 c)), PV.list (List.map u1 (Tk.pl (getQ l_1 c))) Tail.no, PV.int IntKind.i64 (Tk.rt (getQ l_1 c)), PV.int IntKind.i64 (Tk.si (getQ l_1 c))]] ([Ob.cells [PV.arr 1 0 (List.length l_5) cap_1, PV.list (List.map i1 sz_4) Tail.no], Ob.cells (flT l_5 ++ J_1)] ++ Z) ∧ (∀ (y : PV), y ∈ J_1 → Low 0 y) ∧ List.length l_5 ≤ 1000000 ∧ LbT l_5 t_1 p ∧ ∃ (t_2 : Tk), ∃ (tl : Tail), SlIs [PV.agg [PV.int IntKind.u32 (Tk.id t), PV.int IntKind.i64 (Tk.md t), PV.list (List.map u1 (Tk.pl t)) Tail.no, PV.int IntKind.i64 (Tk.rt t), PV.int IntKind.i64 (Tk.si t)]] [PV.agg [PV.int IntKind.u32 (Tk.id t_2), PV.int IntKind.i64 (Tk.md t_2), PV.list (List.map u1 (Tk.pl t_2)) tl, PV.int IntKind.i64 (Tk.rt t_2), PV.int IntKind.i64 (Tk.si t_2)]] ∧ List.length (Tk.pl t_2) ≤ 1000000 ∧ ∃ (G : Heap), ∃ (l_6 : List Tk), ∃ (J_2 : List PV), ∃ (cap_2 : Nat), ∃ (sz_5 : List Int), ∃ (r : Tk), ∃ (p_1 : Nat), SlIs [PV.arr 1 0 (List.length l) cap, PV.int IntKind.i64 (↑p : Int), PV.list [[PV.int IntKind.u32 (Tk.id t_2), PV.int IntKind.i64 (Tk.md t_2), PV.list (List.map u1 (Tk.pl t_2)) Tail.no, PV.int IntKind.i64 (Tk.rt t_2), PV.int IntKind.i64 (Tk.si t_2)]] Tail.exact] [PV.arr 1 0 (List.length l_6) cap_2, PV.int IntKind.i64 (↑p_1 : Int), PV.list [[PV.int IntKind.u32 (Tk.id r), PV.int IntKind.i64 (Tk.md r), PV.list (List.map u1 (Tk.pl r)) Tail.no, PV.int IntKind.i64 (Tk.rt r), PV.int IntKind.i64 (Tk.si r)]] Tail.exact] ∧ HpIs [Ob.cells [PV.arr 1 0 (List.length l) cap, PV.list (List.map i1 sz) Tail.no], Ob.cells (flT l ++ J), Ob.cells [PV.int IntKind.u32 (Tk.id t), PV.int IntKind.i64 (Tk.md t), PV.list (List.map u1 (Tk.pl t)) Tail.no, PV.int IntKind.i64 (Tk.rt t), PV.int IntKind.i64 (Tk.si t)], Ob.cells [PV.int IntKind.u32 (Tk.id (getQ l_1 c)), PV.int IntKind.i64 (Tk.md (getQ l_1 c)), PV.list (List.map u1 (Tk.pl (getQ l_1 c))) Tail.no, PV.int IntKind.i64 (Tk.rt (getQ l_1 c)), PV.int IntKind.i64 (Tk.si (getQ l_1 c))]] ([Ob.cells [PV.arr 1 0 (List.length l_6) cap_2, PV.list (List.map i1 sz_5) Tail.no], Ob.cells (flT l_6 ++ J_2)] ++ G) ∧ p_1 ≤ List.length l_6 ∧ List.length l_6 ≤ 1000000 ∧ List.length l_6 ≤ cap_2 ∧ Room J_2 ((cap_2 - List.length l_6) * 5) ∧ (∀ (J' : List PV), List.length l_6 + 1 ≤ cap_2 → Room J' ((cap_2 - (List.length l_6 + 1)) * 5) → K (PV.int IntKind.i64 0) (List.set ([Ob.cells [PV.arr 1 0 (List.length l_6) cap_2, PV.list (List.map i1 sz_5) Tail.no], Ob.cells (flT (insAt l_6 p_1 r) ++ J')] ++ G) 0 (Ob.cells [PV.arr 1 0 (List.length l_6 + 1) cap_2, PV.list (List.map i1 sz_5) Tail.no]))) ∧ ∀ (c : Nat), List.length l_6 + 1 ≤ c → ∀ (J' : List PV), Room J' ((c - (List.length l_6 + 1)) * 5) → K (PV.int IntKind.i64 0) (List.set ([Ob.cells [PV.arr 1 0 (List.length l_6) cap_2, PV.list (List.map i1 sz_5) Tail.no], Ob.cells (flT l_6 ++ J_2)] ++ G ++ [Ob.cells (flT (insAt l_6 p_1 r) ++ J')]) 0 (Ob.cells [PV.arr (2 + List.length G) 0 (List.length l_6 + 1) c, PV.list (List.map i1 sz_5) Tail.no]))))) (K (PV.int IntKind.i64 11) [Ob.cells [PV.arr 1 0 (List.length l) cap, PV.list (List.map i1 sz) Tail.no], Ob.cells (flT l ++ J), Ob.cells [PV.int IntKind.u32 (Tk.id t), PV.int IntKind.i64 (Tk.md t), PV.list (List.map u1 (Tk.pl t)) Tail.no, PV.int IntKind.i64 (Tk.rt t), PV.int IntKind.i64 (Tk.si t)], Ob.cells [PV.int IntKind.u32 (Tk.id (getQ l_1 c)), PV.int IntKind.i64 (Tk.md (getQ l_1 c)), PV.list (List.map u1 (Tk.pl (getQ l_1 c))) Tail.no, PV.int IntKind.i64 (Tk.rt (getQ l_1 c)), PV.int IntKind.i64 (Tk.si (getQ l_1 c))]]))) (K (PV.int IntKind.i64 2) [Ob.cells [PV.arr 1 0 (List.length l) cap, PV.list (List.map i1 sz) Tail.no], Ob.cells (flT l ++ J), Ob.cells [PV.int IntKind.u32 (Tk.id t), PV.int IntKind.i64 (Tk.md t), PV.list (List.map u1 (Tk.pl t)) Tail.no, PV.int IntKind.i64 (Tk.rt t), PV.int IntKind.i64 (Tk.si t)], Ob.cells [PV.int IntKind.u32 (Tk.id (getQ l_1 c)), PV.int IntKind.i64 (Tk.md (getQ l_1 c)), PV.list (List.map u1 (Tk.pl (getQ l_1 c))) Tail.no, PV.int IntKind.i64 (Tk.rt (getQ l_1 c)), PV.int IntKind.i64 (Tk.si (getQ l_1 c))]]))) False) (K (PV.int IntKind.i64 21) [Ob.cells [PV.arr 1 0 (List.length l) cap, PV.list (List.map i1 sz) Tail.no], Ob.cells (flT l ++ J), Ob.cells [PV.int IntKind.u32 (Tk.id t), PV.int IntKind.i64 (Tk.md t), PV.list (List.map u1 (Tk.pl t)) Tail.no, PV.int IntKind.i64 (Tk.rt t), PV.int IntKind.i64 (Tk.si t)], Ob.cells [PV.int IntKind.u32 (Tk.id (getQ l_1 c)), PV.int IntKind.i64 (Tk.md (getQ l_1 c)), PV.list (List.map u1 (Tk.pl (getQ l_1 c))) Tail.no, PV.int IntKind.i64 (Tk.rt (getQ l_1 c)), PV.int IntKind.i64 (Tk.si (getQ l_1 c))]]))) (K (PV.int IntKind.i64 20) [Ob.cells [PV.arr 1 0 (List.length l) cap, PV.list (List.map i1 sz) Tail.no], Ob.cells (flT l ++ J), Ob.cells [PV.int IntKind.u32 (Tk.id t), PV.int IntKind.i64 (Tk.md t), PV.list (List.map u1 (Tk.pl t)) Tail.no, PV.int IntKind.i64 (Tk.rt t), PV.int IntKind.i64 (Tk.si t)], Ob.cells [PV.int IntKind.u32 (Tk.id (getQ l_1 c)), PV.int IntKind.i64 (Tk.md (getQ l_1 c)), PV.list (List.map u1 (Tk.pl (getQ l_1 c))) Tail.no, PV.int IntKind.i64 (Tk.rt (getQ l_1 c)), PV.int IntKind.i64 (Tk.si (getQ l_1 c))]]))) (K (PV.int IntKind.i64 14) [Ob.cells [PV.arr 1 0 (List.length l) cap, PV.list (List.map i1 sz) Tail.no], Ob.cells (flT l ++ J), Ob.cells [PV.int IntKind.u32 (Tk.id t), PV.int IntKind.i64 (Tk.md t), PV.list (List.map u1 (Tk.pl t)) Tail.no, PV.int IntKind.i64 (Tk.rt t), PV.int IntKind.i64 (Tk.si t)], Ob.cells [PV.int IntKind.u32 (Tk.id (getQ l_1 c)), PV.int IntKind.i64 (Tk.md (getQ l_1 c)), PV.list (List.map u1 (Tk.pl (getQ l_1 c))) Tail.no, PV.int IntKind.i64 (Tk.rt (getQ l_1 c)), PV.int IntKind.i64 (Tk.si (getQ l_1 c))]])) : ACalls Try.prog gl 43 [.ptr 0 0, t.pv] [.cells [.arr 1 0 l.length cap, .list (sz.map i1) .no], .cells (flT l ++ J)] K :=
  acalls_of_wpc2 (T := TPA) (L := [([1, 1, 1, 1, 1, 0], oneL br Try.prog gl TPA (fun o => match o.op with | .load t _ => (match t with | 82 => 1 | _ => 0) | _ => match o.dst with | some 91 => 5 | _ => 0) (atOf [1, 1, 1, 1, 1, 0] (bodyOf Try.f43)) 9 [0, 1, 2, 3, 4, 5, 6, 7, 8, 10, 11] [12])]) (fun o => match o.op with | .load t _ => (match t with | 82 => 1 | _ => 0) | _ => match o.dst with | some 91 => 5 | _ => 0) Try.func43 (by kernel_rfl) (by kernel_rfl) (by kernel_rfl) (TPA_ok) (.cons (show sub [1, 1, 1, 1, 1, 0] (bodyOf Try.f43) = some (atOf [1, 1, 1, 1, 1, 0] (bodyOf Try.f43)) from by kernel_rfl) (oneL_ok TPA_ok (by kernel_rfl) (by kernel_rfl)) (.nil _ _ _ _ _)) (holds_of_eq (by kernel_rfl) h)
theorem putN_vc (sz : List Int) (t : Tk)  (K : PV → Heap → Prop) (h : ∃ (l : List Tk), ∃ (sz_1 : List Int), ∃ (X : Heap), ∃ (Z : Heap), ∃ (c : Int), SlIs [PV.ptr 0 0, PV.int IntKind.u32 (Tk.id t)] [PV.ptr 0 0, PV.int IntKind.u32 c] ∧ EXQ l sz_1 X ∧ HpIs [Ob.cells [PV.list [] Tail.exact, PV.list (List.map i1 sz) Tail.no], Ob.cells [PV.int IntKind.u32 (Tk.id t), PV.int IntKind.i64 (Tk.md t), PV.list (List.map u1 (Tk.pl t)) Tail.no, PV.int IntKind.i64 (Tk.rt t), PV.int IntKind.i64 (Tk.si t)]] (X ++ Z) ∧ Sml l ∧ br ((!rightS (Tk.id t)) == false) (∃ (l_1 : List Int), SlIs [PV.list (List.map u1 (Tk.pl t)) Tail.no, PV.fn 71 []] [PV.list (List.map u1 l_1) Tail.no, PV.fn 71 []] ∧ List.length l_1 ≤ 1000000 ∧ br (badP l_1) (K (PV.int IntKind.i64 14) [Ob.cells [PV.list [] Tail.exact, PV.list (List.map i1 sz) Tail.no], Ob.cells [PV.int IntKind.u32 (Tk.id t), PV.int IntKind.i64 (Tk.md t), PV.list (List.map u1 (Tk.pl t)) Tail.no, PV.int IntKind.i64 (Tk.rt t), PV.int IntKind.i64 (Tk.si t)], Ob.cells [PV.int IntKind.u32 (Tk.id (getQ l c)), PV.int IntKind.i64 (Tk.md (getQ l c)), PV.list (List.map u1 (Tk.pl (getQ l c))) Tail.no, PV.int IntKind.i64 (Tk.rt (getQ l c)), PV.int IntKind.i64 (Tk.si (getQ l c))]]) (br (decide (Tk.md t < 0) == false) (br (decide (Tk.md t ≥ (↑(List.length (List.map i1 sz)) : Int))) (K (PV.int IntKind.i64 20) [Ob.cells [PV.list [] Tail.exact, PV.list (List.map i1 sz) Tail.no], Ob.cells [PV.int IntKind.u32 (Tk.id t), PV.int IntKind.i64 (Tk.md t), PV.list (List.map u1 (Tk.pl t)) Tail.no, PV.int IntKind.i64 (Tk.rt t), PV.int IntKind.i64 (Tk.si t)], Ob.cells [PV.int IntKind.u32 (Tk.id (getQ l c)), PV.int IntKind.i64 (Tk.md (getQ l c)), PV.list (List.map u1 (Tk.pl (getQ l c))) Tail.no, PV.int IntKind.i64 (Tk.rt (getQ l c)), PV.int IntKind.i64 (Tk.si (getQ l c))]]) (br (((↑(List.length (List.map u1 (Tk.pl t))) : Int) == 0) == false) (InL (List.map i1 sz) 1 (Tk.md t) ∧ br (true && fitX [CK.int IntKind.i64] 0 (List.getD (List.map i1 sz) (Int.toNat (Tk.md t)) [])) (br (decide ((↑(List.length (List.map u1 (Tk.pl t))) : Int) > cI (List.getD (List.map i1 sz) (Int.toNat (Tk.md t)) []) 0)) (K (PV.int IntKind.i64 21) [Ob.cells [PV.list [] Tail.exact, PV.list (List.map i1 sz) Tail.no], Ob.cells [PV.int IntKind.u32 (Tk.id t), PV.int IntKind.i64 (Tk.md t), PV.list (List.map u1 (Tk.pl t)) Tail.no, PV.int IntKind.i64 (Tk.rt t), PV.int IntKind.i64 (Tk.si t)], Ob.cells [PV.int IntKind.u32 (Tk.id (getQ l c)), PV.int IntKind.i64 (Tk.md (getQ l c)), PV.list (List.map u1 (Tk.pl (getQ l c))) Tail.no, PV.int IntKind.i64 (Tk.rt (getQ l c)), PV.int IntKind.i64 (Tk.si (getQ l c))]]) (br (decide (Tk.rt t < 0) == false) (br (decide (Tk.rt t > 10000)) (K (PV.int IntKind.i64 2) [Ob.cells [PV.list [] Tail.exact, PV.list (List.map i1 sz) Tail.no], Ob.cells [PV.int IntKind.u32 (Tk.id t), PV.int IntKind.i64 (Tk.md t), PV.list (List.map u1 (Tk.pl t)) Tail.no, PV.int IntKind.i64 (Tk.rt t), PV.int IntKind.i64 (Tk.si t)], Ob.cells [PV.int IntKind.u32 (Tk.id (getQ l c)), PV.int IntKind.i64 (Tk.md (getQ l c)), PV.list (List.map u1 (Tk.pl (getQ l c))) Tail.no, PV.int IntKind.i64 (Tk.rt (getQ l c)), PV.int IntKind.i64 (Tk.si (getQ l c))]]) (br (hasQ l c == false) (∃ (l_2 : List Tk), ∃ (sz_2 : List Int), ∃ (X : Heap), ∃ (Z : Heap), ∃ (pl : List Int), SlIs [PV.ptr 0 0, PV.list (List.map u1 (Tk.pl t)) Tail.no] [PV.ptr 0 0, PV.list (List.map u1 pl) Tail.no] ∧ EXQ l_2 sz_2 X ∧ HpIs [Ob.cells [PV.list [] Tail.exact, PV.list (List.map i1 sz) Tail.no], Ob.cells [PV.int IntKind.u32 (Tk.id t), PV.int IntKind.i64 (Tk.md t), PV.list (List.map u1 (Tk.pl t)) Tail.no, PV.int IntKind.i64 (Tk.rt t), PV.int IntKind.i64 (Tk.si t)], Ob.cells [PV.int IntKind.u32 (Tk.id (getQ l c)), PV.int IntKind.i64 (Tk.md (getQ l c)), PV.list (List.map u1 (Tk.pl (getQ l c))) Tail.no, PV.int IntKind.i64 (Tk.rt (getQ l c)), PV.int IntKind.i64 (Tk.si (getQ l c))]] (X ++ Z) ∧ Sml l_2 ∧ List.length pl ≤ 1000000 ∧ br (dblQ l_2 pl) (K (PV.int IntKind.i64 11) [Ob.cells [PV.list [] Tail.exact, PV.list (List.map i1 sz) Tail.no], Ob.cells [PV.int IntKind.u32 (Tk.id t), PV.int IntKind.i64 (Tk.md t), PV.list (List.map u1 (Tk.pl t)) Tail.no, PV.int IntKind.i64 (Tk.rt t), PV.int IntKind.i64 (Tk.si t)], Ob.cells [PV.int IntKind.u32 (Tk.id (getQ l c)), PV.int IntKind.i64 (Tk.md (getQ l c)), PV.list (List.map u1 (Tk.pl (getQ l c))) Tail.no, PV.int IntKind.i64 (Tk.rt (getQ l c)), PV.int IntKind.i64 (Tk.si (getQ l c))]]) (∃ (l_3 : List Tk), ∃ (sz_3 : List Int), ∃ (X : Heap), ∃ (Z : Heap), ∃ (m : Int), SlIs [PV.ptr 0 0, PV.int IntKind.i64 (Tk.md t)] [PV.ptr 0 0, PV.int IntKind.i64 m] ∧ EXQ l_3 sz_3 X ∧ HpIs [Ob.cells [PV.list [] Tail.exact, PV.list (List.map i1 sz) Tail.no], Ob.cells [PV.int IntKind.u32 (Tk.id t), PV.int IntKind.i64 (Tk.md t), PV.list (List.map u1 (Tk.pl t)) Tail.no, PV.int IntKind.i64 (Tk.rt t), PV.int IntKind.i64 (Tk.si t)], Ob.cells [PV.int IntKind.u32 (Tk.id (getQ l c)), PV.int IntKind.i64 (Tk.md (getQ l c)), PV.list (List.map u1 (Tk.pl (getQ l c))) Tail.no, PV.int IntKind.i64 (Tk.rt (getQ l c)), PV.int IntKind.i64 (Tk.si (getQ l c))]] (X ++ Z) ∧ Sml l_3 ∧ br (decide ((↑(List.length (List.map csT (modeL l_3 m))) : Int) ≥ 16)) (K (PV.int IntKind.i64 10) [Ob.cells [PV.list [] Tail.exact, PV.list (List.map i1 sz) Tail.no], Ob.cells [PV.int IntKind.u32 (Tk.id t), PV.int IntKind.i64 (Tk.md t), PV.list (List.map u1 (Tk.pl t)) Tail.no, PV.int IntKind.i64 (Tk.rt t), PV.int IntKind.i64 (Tk.si t)], Ob.cells [PV.int IntKind.u32 (Tk.id (getQ l c)), PV.int IntKind.i64 (Tk.md (getQ l c)), PV.list (List.map u1 (Tk.pl (getQ l c))) Tail.no, PV.int IntKind.i64 (Tk.rt (getQ l c)), PV.int IntKind.i64 (Tk.si (getQ l c))]]) (∃ (sz_4 : List Int), ∃ (t_1 : Tk), ∃ (Z : Heap), SlIs [PV.list [] Tail.exact, PV.agg [PV.int IntKind.u32 (Tk.id t), PV.int IntKind.i64 (Tk.md t), PV.list (List.map u1 (Tk.pl t)) Tail.no, PV.int IntKind.i64 (Tk.rt t), PV.int IntKind.i64 (Tk.si t)], PV.fn 74 []] [PV.list [] Tail.exact, PV.agg [PV.int IntKind.u32 (Tk.id t_1), PV.int IntKind.i64 (Tk.md t_1), PV.list (List.map u1 (Tk.pl t_1)) Tail.no, PV.int IntKind.i64 (Tk.rt t_1), PV.int IntKind.i64 (Tk.si t_1)], PV.fn 74 []] ∧ HpIs [Ob.cells [PV.list [] Tail.exact, PV.list (List.map i1 sz) Tail.no], Ob.cells [PV.int IntKind.u32 (Tk.id t), PV.int IntKind.i64 (Tk.md t), PV.list (List.map u1 (Tk.pl t)) Tail.no, PV.int IntKind.i64 (Tk.rt t), PV.int IntKind.i64 (Tk.si t)], Ob.cells [PV.int IntKind.u32 (Tk.id (getQ l c)), PV.int IntKind.i64 (Tk.md (getQ l c)), PV.list (List.map u1 (Tk.pl (getQ l c))) Tail.no, PV.int IntKind.i64 (Tk.rt (getQ l c)), PV.int IntKind.i64 (Tk.si (getQ l c))]] ([Ob.cells [PV.list [] Tail.exact, PV.list (List.map i1 sz_4) Tail.no]] ++ Z) ∧ ∃ (t_2 : Tk), ∃ (tl : Tail), SlIs [PV.agg [PV.int IntKind.u32 (Tk.id t), PV.int IntKind.i64 (Tk.md t), PV.list (List.map u1 (Tk.pl t)) Tail.no, PV.int IntKind.i64 (Tk.rt t), PV.int IntKind.i64 (Tk.si t)]] [PV.agg [PV.int IntKind.u32 (Tk.id t_2), PV.int IntKind.i64 (Tk.md t_2), PV.list (List.map u1 (Tk.pl t_2)) tl, PV.int IntKind.i64 (Tk.rt t_2), PV.int IntKind.i64 (Tk.si t_2)]] ∧ List.length (Tk.pl t_2) ≤ 1000000 ∧ ∃ (G : Heap), ∃ (sz_5 : List Int), ∃ (r : Tk), SlIs [PV.list [] Tail.exact, PV.int IntKind.i64 0, PV.list [[PV.int IntKind.u32 (Tk.id t_2), PV.int IntKind.i64 (Tk.md t_2), PV.list (List.map u1 (Tk.pl t_2)) Tail.no, PV.int IntKind.i64 (Tk.rt t_2), PV.int IntKind.i64 (Tk.si t_2)]] Tail.exact] [PV.list [] Tail.exact, PV.int IntKind.i64 0, PV.list [[PV.int IntKind.u32 (Tk.id r), PV.int IntKind.i64 (Tk.md r), PV.list (List.map u1 (Tk.pl r)) Tail.no, PV.int IntKind.i64 (Tk.rt r), PV.int IntKind.i64 (Tk.si r)]] Tail.exact] ∧ HpIs [Ob.cells [PV.list [] Tail.exact, PV.list (List.map i1 sz) Tail.no], Ob.cells [PV.int IntKind.u32 (Tk.id t), PV.int IntKind.i64 (Tk.md t), PV.list (List.map u1 (Tk.pl t)) Tail.no, PV.int IntKind.i64 (Tk.rt t), PV.int IntKind.i64 (Tk.si t)], Ob.cells [PV.int IntKind.u32 (Tk.id (getQ l c)), PV.int IntKind.i64 (Tk.md (getQ l c)), PV.list (List.map u1 (Tk.pl (getQ l c))) Tail.no, PV.int IntKind.i64 (Tk.rt (getQ l c)), PV.int IntKind.i64 (Tk.si (getQ l c))]] ([Ob.cells [PV.list [] Tail.exact, PV.list (List.map i1 sz_5) Tail.no]] ++ G) ∧ ∀ (c : Nat), 1 ≤ c → ∀ (J' : List PV), Room J' ((c - 1) * 5) → K (PV.int IntKind.i64 0) (List.set ([Ob.cells [PV.list [] Tail.exact, PV.list (List.map i1 sz_5) Tail.no]] ++ G ++ [Ob.cells ([PV.int IntKind.u32 (Tk.id r), PV.int IntKind.i64 (Tk.md r), PV.list (List.map u1 (Tk.pl r)) Tail.no, PV.int IntKind.i64 (Tk.rt r), PV.int IntKind.i64 (Tk.si r)] ++ J')]) 0 (Ob.cells [PV.arr (1 + List.length G) 0 1 c, PV.list (List.map i1 sz_5) Tail.no]))))) (K (PV.int IntKind.i64 11) [Ob.cells [PV.list [] Tail.exact, PV.list (List.map i1 sz) Tail.no], Ob.cells [PV.int IntKind.u32 (Tk.id t), PV.int IntKind.i64 (Tk.md t), PV.list (List.map u1 (Tk.pl t)) Tail.no, PV.int IntKind.i64 (Tk.rt t), PV.int IntKind.i64 (Tk.si t)], Ob.cells [PV.int IntKind.u32 (Tk.id (getQ l c)), PV.int IntKind.i64 (Tk.md (getQ l c)), PV.list (List.map u1 (Tk.pl (getQ l c))) Tail.no, PV.int IntKind.i64 (Tk.rt (getQ l c)), PV.int IntKind.i64 (Tk.si (getQ l c))]]))) (K (PV.int IntKind.i64 2) [Ob.cells [PV.list [] Tail.exact, PV.list (List.map i1 sz) Tail.no], Ob.cells [PV.int IntKind.u32 (Tk.id t), PV.int IntKind.i64 (Tk.md t), PV.list (List.map u1 (Tk.pl t)) Tail.no, PV.int IntKind.i64 (Tk.rt t), PV.int IntKind.i64 (Tk.si t)], Ob.cells [PV.int IntKind.u32 (Tk.id (getQ l c)), PV.int IntKind.i64 (Tk.md (getQ l c)), PV.list (List.map u1 (Tk.pl (getQ l c))) Tail.no, PV.int IntKind.i64 (Tk.rt (getQ l c)), PV.int IntKind.i64 (Tk.si (getQ l c))]]))) False) (K (PV.int IntKind.i64 21) [Ob.cells [PV.list [] Tail.exact, PV.list (List.map i1 sz) Tail.no], Ob.cells [PV.int IntKind.u32 (Tk.id t), PV.int IntKind.i64 (Tk.md t), PV.list (List.map u1 (Tk.pl t)) Tail.no, PV.int IntKind.i64 (Tk.rt t), PV.int IntKind.i64 (Tk.si t)], Ob.cells [PV.int IntKind.u32 (Tk.id (getQ l c)), PV.int IntKind.i64 (Tk.md (getQ l c)), PV.list (List.map u1 (Tk.pl (getQ l c))) Tail.no, PV.int IntKind.i64 (Tk.rt (getQ l c)), PV.int IntKind.i64 (Tk.si (getQ l c))]]))) (K (PV.int IntKind.i64 20) [Ob.cells [PV.list [] Tail.exact, PV.list (List.map i1 sz) Tail.no], Ob.cells [PV.int IntKind.u32 (Tk.id t), PV.int IntKind.i64 (Tk.md t), PV.list (List.map u1 (Tk.pl t)) Tail.no, PV.int IntKind.i64 (Tk.rt t), PV.int IntKind.i64 (Tk.si t)], Ob.cells [PV.int IntKind.u32 (Tk.id (getQ l c)), PV.int IntKind.i64 (Tk.md (getQ l c)), PV.list (List.map u1 (Tk.pl (getQ l c))) Tail.no, PV.int IntKind.i64 (Tk.rt (getQ l c)), PV.int IntKind.i64 (Tk.si (getQ l c))]]))) (K (PV.int IntKind.i64 14) [Ob.cells [PV.list [] Tail.exact, PV.list (List.map i1 sz) Tail.no], Ob.cells [PV.int IntKind.u32 (Tk.id t), PV.int IntKind.i64 (Tk.md t), PV.list (List.map u1 (Tk.pl t)) Tail.no, PV.int IntKind.i64 (Tk.rt t), PV.int IntKind.i64 (Tk.si t)], Ob.cells [PV.int IntKind.u32 (Tk.id (getQ l c)), PV.int IntKind.i64 (Tk.md (getQ l c)), PV.list (List.map u1 (Tk.pl (getQ l c))) Tail.no, PV.int IntKind.i64 (Tk.rt (getQ l c)), PV.int IntKind.i64 (Tk.si (getQ l c))]])) : ACalls Try.prog gl 43 [.ptr 0 0, t.pv] [.cells [.list [] .exact, .list (sz.map i1) .no]] K :=
  acalls_of_wpc2 (T := TPN) (L := [([1, 1, 1, 1, 1, 0], oneL br Try.prog gl TPN (fun o => match o.op with | .load t _ => (match t with | 82 => 1 | _ => 0) | _ => match o.dst with | some 91 => 5 | _ => 0) (atOf [1, 1, 1, 1, 1, 0] (bodyOf Try.f43)) 9 [0, 1, 2, 3, 4, 5, 6, 7, 8, 10, 11] [12])]) (fun o => match o.op with | .load t _ => (match t with | 82 => 1 | _ => 0) | _ => match o.dst with | some 91 => 5 | _ => 0) Try.func43 (by kernel_rfl) (by kernel_rfl) (by kernel_rfl) (TPN_ok) (.cons (show sub [1, 1, 1, 1, 1, 0] (bodyOf Try.f43) = some (atOf [1, 1, 1, 1, 1, 0] (bodyOf Try.f43)) from by kernel_rfl) (oneL_ok TPN_ok (by kernel_rfl) (by kernel_rfl)) (.nil _ _ _ _ _)) (holds_of_eq (by kernel_rfl) h)
theorem droA_vc (l : List Tk) (J : List PV) (cap : Nat) (sz : List Int) (c : Int)  (K : PV → Heap → Prop) (h : ∃ (l_1 : List Tk), ∃ (sz_1 : List Int), ∃ (X : Heap), ∃ (Z : Heap), ∃ (b : Nat), ∃ (c_1 : Int), SlIs [PV.ptr 0 0, PV.fn 80 [PV.ptr 2 0]] [PV.ptr 0 0, PV.fn 80 [PV.ptr b 0]] ∧ EXQ l_1 sz_1 X ∧ HpIs [Ob.cells [PV.arr 1 0 (List.length l) cap, PV.list (List.map i1 sz) Tail.no], Ob.cells (flT l ++ J), Ob.cells [PV.int IntKind.u32 c], Ob.cells [PV.int IntKind.u32 0, PV.int IntKind.i64 0, PV.list [] Tail.exact, PV.int IntKind.i64 0, PV.int IntKind.i64 0]] (X ++ Z) ∧ CeIs [Ob.cells [PV.arr 1 0 (List.length l) cap, PV.list (List.map i1 sz) Tail.no], Ob.cells (flT l ++ J), Ob.cells [PV.int IntKind.u32 c], Ob.cells [PV.int IntKind.u32 0, PV.int IntKind.i64 0, PV.list [] Tail.exact, PV.int IntKind.i64 0, PV.int IntKind.i64 0]] b [PV.int IntKind.u32 c_1] ∧ List.length l_1 ≤ 1000000 ∧ (∀ (t : Tk), t ∈ l_1 → List.length (Tk.pl t) ≤ 1000000) ∧ br (decide (ixQ l_1 (byId c_1) < 0)) (K (PV.tup [PV.agg [PV.int IntKind.u32 0, PV.int IntKind.i64 0, PV.list [] Tail.exact, PV.int IntKind.i64 0, PV.int IntKind.i64 0], PV.bool false]) [Ob.cells [PV.arr 1 0 (List.length l) cap, PV.list (List.map i1 sz) Tail.no], Ob.cells (flT l ++ J), Ob.cells [PV.int IntKind.u32 c], Ob.cells [PV.int IntKind.u32 0, PV.int IntKind.i64 0, PV.list [] Tail.exact, PV.int IntKind.i64 0, PV.int IntKind.i64 0]]) ((0 ≤ ixQ l_1 (byId c_1) ∧ ixQ l_1 (byId c_1) < (↑(List.length l) : Int)) ∧ br (true && fitX [CK.int IntKind.u32, CK.int IntKind.i64, CK.list, CK.int IntKind.i64, CK.int IntKind.i64] 0 (List.drop (0 + Int.toNat (ixQ l_1 (byId c_1)) * 5) (flT l ++ J))) (∃ (Z : Heap), ∃ (l_2 : List Tk), ∃ (J_1 : List PV), ∃ (cap_1 : Nat), ∃ (sz_2 : List Int), ∃ (p : Nat), SlIs [PV.arr 1 0 (List.length l) cap, PV.int IntKind.i64 (ixQ l_1 (byId c_1)), PV.int IntKind.i64 (wI (ixQ l_1 (byId c_1) + 1))] [PV.arr 1 0 (List.length l_2) cap_1, PV.int IntKind.i64 (↑p : Int), PV.int IntKind.i64 (↑(p + 1) : Int)] ∧ HpIs [Ob.cells [PV.arr 1 0 (List.length l) cap, PV.list (List.map i1 sz) Tail.no], Ob.cells (flT l ++ J), Ob.cells [PV.int IntKind.u32 c], Ob.cells [PV.int IntKind.u32 0, PV.int IntKind.i64 0, PV.list [] Tail.exact, PV.int IntKind.i64 0, PV.int IntKind.i64 0], Ob.cells [PV.int IntKind.u32 (cI (List.drop (0 + Int.toNat (ixQ l_1 (byId c_1)) * 5) (flT l ++ J)) 0), PV.int IntKind.i64 (cI (List.drop (0 + Int.toNat (ixQ l_1 (byId c_1)) * 5) (flT l ++ J)) 1), PV.list (cL (List.drop (0 + Int.toNat (ixQ l_1 (byId c_1)) * 5) (flT l ++ J)) 2) (cT (List.drop (0 + Int.toNat (ixQ l_1 (byId c_1)) * 5) (flT l ++ J)) 2), PV.int IntKind.i64 (cI (List.drop (0 + Int.toNat (ixQ l_1 (byId c_1)) * 5) (flT l ++ J)) 3), PV.int IntKind.i64 (cI (List.drop (0 + Int.toNat (ixQ l_1 (byId c_1)) * 5) (flT l ++ J)) 4)]] ([Ob.cells [PV.arr 1 0 (List.length l_2) cap_1, PV.list (List.map i1 sz_2) Tail.no], Ob.cells (flT l_2 ++ J_1)] ++ Z) ∧ p < List.length l_2 ∧ List.length l_2 ≤ 1000000 ∧ List.length l_2 ≤ cap_1 ∧ Room J_1 ((cap_1 - List.length l_2) * 5) ∧ K (PV.tup [PV.agg [PV.int IntKind.u32 (cI (List.drop (0 + Int.toNat (ixQ l_1 (byId c_1)) * 5) (flT l ++ J)) 0), PV.int IntKind.i64 (cI (List.drop (0 + Int.toNat (ixQ l_1 (byId c_1)) * 5) (flT l ++ J)) 1), PV.list (cL (List.drop (0 + Int.toNat (ixQ l_1 (byId c_1)) * 5) (flT l ++ J)) 2) (cT (List.drop (0 + Int.toNat (ixQ l_1 (byId c_1)) * 5) (flT l ++ J)) 2), PV.int IntKind.i64 (cI (List.drop (0 + Int.toNat (ixQ l_1 (byId c_1)) * 5) (flT l ++ J)) 3), PV.int IntKind.i64 (cI (List.drop (0 + Int.toNat (ixQ l_1 (byId c_1)) * 5) (flT l ++ J)) 4)], PV.bool true]) [Ob.cells [PV.arr 1 0 (List.length l_2 - 1) cap_1, PV.list (List.map i1 sz_2) Tail.no], Ob.cells (flT (List.eraseIdx l_2 p) ++ ([PV.int IntKind.u32 0, PV.int IntKind.i64 0, PV.list [] Tail.exact, PV.int IntKind.i64 0, PV.int IntKind.i64 0] ++ J_1)), Ob.cells [PV.int IntKind.u32 c], Ob.cells [PV.int IntKind.u32 (cI (List.drop (0 + Int.toNat (ixQ l_1 (byId c_1)) * 5) (flT l ++ J)) 0), PV.int IntKind.i64 (cI (List.drop (0 + Int.toNat (ixQ l_1 (byId c_1)) * 5) (flT l ++ J)) 1), PV.list (cL (List.drop (0 + Int.toNat (ixQ l_1 (byId c_1)) * 5) (flT l ++ J)) 2) (cT (List.drop (0 + Int.toNat (ixQ l_1 (byId c_1)) * 5) (flT l ++ J)) 2), PV.int IntKind.i64 (cI (List.drop (0 + Int.toNat (ixQ l_1 (byId c_1)) * 5) (flT l ++ J)) 3), PV.int IntKind.i64 (cI (List.drop (0 + Int.toNat (ixQ l_1 (byId c_1)) * 5) (flT l ++ J)) 4)], Ob.cells [PV.int IntKind.u32 (cI (List.drop (0 + Int.toNat (ixQ l_1 (byId c_1)) * 5) (flT l ++ J)) 0), PV.int IntKind.i64 (cI (List.drop (0 + Int.toNat (ixQ l_1 (byId c_1)) * 5) (flT l ++ J)) 1), PV.list (cL (List.drop (0 + Int.toNat (ixQ l_1 (byId c_1)) * 5) (flT l ++ J)) 2) (cT (List.drop (0 + Int.toNat (ixQ l_1 (byId c_1)) * 5) (flT l ++ J)) 2), PV.int IntKind.i64 (cI (List.drop (0 + Int.toNat (ixQ l_1 (byId c_1)) * 5) (flT l ++ J)) 3), PV.int IntKind.i64 (cI (List.drop (0 + Int.toNat (ixQ l_1 (byId c_1)) * 5) (flT l ++ J)) 4)]]) False)) : ACalls Try.prog gl 50 [.ptr 0 0, .int .u32 c] [.cells [.arr 1 0 l.length cap, .list (sz.map i1) .no], .cells (flT l ++ J)] K :=
  acalls_of_wpc2 (T := TDQ) (L := []) (fun o => match o.op with | .load t _ => (match t with | 82 => 1 | _ => 0) | _ => 0) Try.func50 (by kernel_rfl) (by kernel_rfl) (by kernel_rfl) (TDQ_ok) (LOk.nil _ _ _ _ _) (holds_of_eq (by kernel_rfl) h)
theorem droN_vc (sz : List Int) (c : Int)  (K : PV → Heap → Prop) (h : ∃ (l : List Tk), ∃ (sz_1 : List Int), ∃ (X : Heap), ∃ (Z : Heap), ∃ (b : Nat), ∃ (c_1 : Int), SlIs [PV.ptr 0 0, PV.fn 80 [PV.ptr 1 0]] [PV.ptr 0 0, PV.fn 80 [PV.ptr b 0]] ∧ EXQ l sz_1 X ∧ HpIs [Ob.cells [PV.list [] Tail.exact, PV.list (List.map i1 sz) Tail.no], Ob.cells [PV.int IntKind.u32 c], Ob.cells [PV.int IntKind.u32 0, PV.int IntKind.i64 0, PV.list [] Tail.exact, PV.int IntKind.i64 0, PV.int IntKind.i64 0]] (X ++ Z) ∧ CeIs [Ob.cells [PV.list [] Tail.exact, PV.list (List.map i1 sz) Tail.no], Ob.cells [PV.int IntKind.u32 c], Ob.cells [PV.int IntKind.u32 0, PV.int IntKind.i64 0, PV.list [] Tail.exact, PV.int IntKind.i64 0, PV.int IntKind.i64 0]] b [PV.int IntKind.u32 c_1] ∧ List.length l ≤ 1000000 ∧ (∀ (t : Tk), t ∈ l → List.length (Tk.pl t) ≤ 1000000) ∧ br (decide (ixQ l (byId c_1) < 0)) (K (PV.tup [PV.agg [PV.int IntKind.u32 0, PV.int IntKind.i64 0, PV.list [] Tail.exact, PV.int IntKind.i64 0, PV.int IntKind.i64 0], PV.bool false]) [Ob.cells [PV.list [] Tail.exact, PV.list (List.map i1 sz) Tail.no], Ob.cells [PV.int IntKind.u32 c], Ob.cells [PV.int IntKind.u32 0, PV.int IntKind.i64 0, PV.list [] Tail.exact, PV.int IntKind.i64 0, PV.int IntKind.i64 0]]) (InL [] 5 (ixQ l (byId c_1)) ∧ False)) : ACalls Try.prog gl 50 [.ptr 0 0, .int .u32 c] [.cells [.list [] .exact, .list (sz.map i1) .no]] K :=
  acalls_of_wpc2 (T := TDQ) (L := []) (fun o => match o.op with | .load t _ => (match t with | 82 => 1 | _ => 0) | _ => 0) Try.func50 (by kernel_rfl) (by kernel_rfl) (by kernel_rfl) (TDQ_ok) (LOk.nil _ _ _ _ _) (holds_of_eq (by kernel_rfl) h)
def errQ (sz : List Int) (l : List Tk) (t : Tk) : Int :=
  if rightS t.id = true ∧ badP t.pl = false then
    if 0 ≤ t.md ∧ t.md < sz.length then
      if t.pl ≠ [] ∧ (t.pl.length : Int) ≤ sz.getD t.md.toNat 0 then
        if 0 ≤ t.rt ∧ t.rt ≤ 10000 then
          if hasQ l t.id = false ∧ dblQ l t.pl = false then
            if (modeL l t.md).length < 16 then 0 else 10
          else 11
        else 2
      else 21
    else 20
  else 14
def lbT (l : List Tk) (t : Tk) : Nat := l.findIdx fun r => decide (¬ ordS r t < 0)
def putQ (sz : List Int) (l : List Tk) (t : Tk) : List Tk := if errQ sz l t = 0 then insAt l (lbT l t) t else l
def dropQ (l : List Tk) (c : Int) : List Tk := if hasQ l c = true then l.eraseIdx (l.findIdx (byId c)) else l
theorem putQ_bad {sz : List Int} {l : List Tk} {t : Tk} {n : Int} (h : errQ sz l t = n) (hn : n ≠ 0) : putQ sz l t = l := by
  unfold putQ; rw [if_neg (by rw [h]; exact hn)]
theorem lbT_nil (t : Tk) : lbT [] t = 0 := rfl
theorem i1_at {l : List Int} {n : Int} (h0 : 0 ≤ n) (h : n < l.length) : (l.map i1).getD n.toNat [] = i1 (l.getD n.toNat 0) := getD_map 0 (by omega)
theorem i1_in {l : List Int} {n : Int} (h0 : 0 ≤ n) (h : n < l.length) : InL (l.map i1) 1 n := by
  have := inL_i1 l n.toNat
  rw [show ((n.toNat : Nat) : Int) = n by omega] at this
  rw [this]; omega
theorem put_ok {l : List Tk} {sz : List Int} {t : Tk} {X : Heap} (h : EXQ l sz X) (s : Sml l) (hp : LbT l t (lbT l t)) (ht : t.pl.length ≤ 1000000) : ACalls Try.prog gl 43 [.ptr 0 0, t.pv] X (fun x H' => x = .int .i64 (errQ sz l t) ∧ RestOf (EXQ (putQ sz l t) sz) H') := by
  have hsl := s.len
  have d1 : (t.md < 0) ↔ ¬ 0 ≤ t.md := by omega
  have d2 : ((t.pl.length : Int) == 0) = decide (t.pl = []) := by
    rw [Bool.eq_iff_iff, beq_iff_eq, decide_eq_true_eq, ← List.length_eq_zero_iff]; omega
  rcases h with ⟨J, cap, rfl, hc, hJ⟩ | ⟨rfl, rfl⟩
  · have bad : ∀ {n : Int} {T : Heap}, errQ sz l t = n → n ≠ 0 → T[0]? = some (.cells (flT l ++ J)) → (PV.int .i64 n = .int .i64 (errQ sz l t) ∧ RestOf (EXQ (putQ sz l t) sz) (.cells [.arr 1 0 l.length cap, .list (sz.map i1) .no] :: T)) := fun h1 h2 h3 => ⟨by rw [h1], by rw [putQ_bad h1 h2]; exact left_AT (k := 0) h3 hc hJ⟩
    refine putA_vc l J cap sz t _ ⟨l, sz, hpQ l J cap sz, [_], t.id, rfl, .inl ⟨J, cap, rfl, hc, hJ⟩, rfl, s, ?_⟩
    simp only [br_if, List.length_map, dt, d2]
    by_cases c1 : rightS t.id = true
    rotate_left
    · rw [if_neg (by simp [c1])]
      exact bad (by unfold errQ; rw [if_neg (fun k => c1 k.1)]) (by decide) rfl
    rw [if_pos (by simp [c1])]
    refine ⟨t.pl, rfl, ht, ?_⟩
    by_cases c2 : badP t.pl = true
    · rw [if_pos c2]
      exact bad (by unfold errQ; rw [if_neg (fun k => by rw [c2] at k; exact absurd k.2 (by decide))]) (by decide) rfl
    rw [if_neg c2]
    have c2' : badP t.pl = false := by simpa using c2
    have e1 : errQ sz l t = errQ sz l t := rfl
    conv at e1 => rhs; unfold errQ
    rw [if_pos ⟨c1, c2'⟩] at e1
    by_cases c3 : 0 ≤ t.md
    rotate_left
    · rw [if_neg (by simp; omega)]
      exact bad (by rw [e1, if_neg (fun k => c3 k.1)]) (by decide) rfl
    rw [if_pos (by simp; omega)]
    by_cases c4 : t.md < sz.length
    rotate_left
    · rw [if_pos (by omega)]
      exact bad (by rw [e1, if_neg (fun k => c4 k.2)]) (by decide) rfl
    rw [if_neg (by omega)]
    rw [if_pos ⟨c3, c4⟩] at e1
    by_cases c5 : t.pl = []
    · rw [if_neg (by simp [c5])]
      exact bad (by rw [e1, if_neg (fun k => k.1 c5)]) (by decide) rfl
    rw [if_pos (by simp [c5]), i1_at c3 c4]
    refine ⟨i1_in c3 c4, ?_⟩
    rw [if_pos (by rfl)]
    have hci : cI (i1 (sz.getD t.md.toNat 0)) 0 = sz.getD t.md.toNat 0 := rfl
    rw [hci]
    by_cases c6 : (t.pl.length : Int) ≤ sz.getD t.md.toNat 0
    rotate_left
    · rw [if_pos (by omega)]
      exact bad (by rw [e1, if_neg (fun k => c6 k.2)]) (by decide) rfl
    rw [if_neg (by omega)]
    rw [if_pos ⟨c5, c6⟩] at e1
    by_cases c7 : 0 ≤ t.rt
    rotate_left
    · rw [if_neg (by simp; omega)]
      exact bad (by rw [e1, if_neg (fun k => c7 k.1)]) (by decide) rfl
    rw [if_pos (by simp; omega)]
    by_cases c8 : t.rt ≤ 10000
    rotate_left
    · rw [if_pos (by omega)]
      exact bad (by rw [e1, if_neg (fun k => c8 k.2)]) (by decide) rfl
    rw [if_neg (by omega)]
    rw [if_pos ⟨c7, c8⟩] at e1
    by_cases c9 : hasQ l t.id = true
    · rw [if_neg (by simp [c9])]
      exact bad (by rw [e1, if_neg (fun k => by rw [c9] at k; exact absurd k.1 (by decide))]) (by decide) rfl
    have c9' : hasQ l t.id = false := by simpa using c9
    rw [if_pos (by simp [c9'])]
    refine ⟨l, sz, hpQ l J cap sz, [_, _], t.pl, rfl, .inl ⟨J, cap, rfl, hc, hJ⟩, rfl, s, ht, ?_⟩
    by_cases c10 : dblQ l t.pl = true
    · rw [if_pos c10]
      exact bad (by rw [e1, if_neg (fun k => by rw [c10] at k; exact absurd k.2 (by decide))]) (by decide) rfl
    have c10' : dblQ l t.pl = false := by simpa using c10
    rw [if_neg c10]
    rw [if_pos ⟨c9', c10'⟩] at e1
    refine ⟨l, sz, hpQ l J cap sz, [_, _], t.md, rfl, .inl ⟨J, cap, rfl, hc, hJ⟩, rfl, s, ?_⟩
    by_cases c11 : (modeL l t.md).length < 16
    rotate_left
    · rw [if_pos (by omega)]
      exact bad (by rw [e1, if_neg c11]) (by decide) rfl
    rw [if_neg (by omega)]
    rw [if_pos c11] at e1
    refine ⟨l, J, cap, sz, t, lbT l t, [_, _], rfl, rfl, hJ.low, hsl, hp, t, .no, rfl, ht, ?_⟩
    have hq : putQ sz l t = insAt l (lbT l t) t := by unfold putQ; rw [if_pos e1]
    have hi : (insAt l (lbT l t) t).length = l.length + 1 := insAt_length hp.le
    refine ⟨[_, _], l, J, cap, sz, t, lbT l t, rfl, rfl, hp.le, hsl, hc, hJ, fun J' h1 h2 => ⟨by rw [e1], ?_⟩, fun c h1 J' h2 => ⟨by rw [e1], ?_⟩⟩
    · rw [hq, ← hi]
      exact left_AT (k := 0) rfl (by rw [hi]; exact h1) (by rw [hi]; exact h2)
    · have := left_AT (l := insAt l (lbT l t) t) (J := J') (cap := c) (sz := sz) (k := 3) (T := [.cells (flT l ++ J), .cells t.cells, .cells (getQ l t.id).cells, .cells (flT (insAt l (lbT l t) t) ++ J')]) rfl (by rw [hi]; exact h1) (by rw [hi]; exact h2)
      rw [hi] at this
      rw [hq]
      exact this
  · have bad : ∀ {n : Int} {T : Heap}, errQ sz [] t = n → n ≠ 0 → (PV.int .i64 n = .int .i64 (errQ sz [] t) ∧ RestOf (EXQ (putQ sz [] t) sz) (.cells [.list [] .exact, .list (sz.map i1) .no] :: T)) := fun h1 h2 => ⟨by rw [h1], by rw [putQ_bad h1 h2]; exact left_NT⟩
    refine putN_vc sz t _ ⟨[], sz, hpE sz, [_], t.id, rfl, .inr ⟨rfl, rfl⟩, rfl, s, ?_⟩
    simp only [br_if, List.length_map, dt, d2]
    by_cases c1 : rightS t.id = true
    rotate_left
    · rw [if_neg (by simp [c1])]
      exact bad (by unfold errQ; rw [if_neg (fun k => c1 k.1)]) (by decide)
    rw [if_pos (by simp [c1])]
    refine ⟨t.pl, rfl, ht, ?_⟩
    by_cases c2 : badP t.pl = true
    · rw [if_pos c2]
      exact bad (by unfold errQ; rw [if_neg (fun k => by rw [c2] at k; exact absurd k.2 (by decide))]) (by decide)
    rw [if_neg c2]
    have c2' : badP t.pl = false := by simpa using c2
    have e1 : errQ sz [] t = errQ sz [] t := rfl
    conv at e1 => rhs; unfold errQ
    rw [if_pos ⟨c1, c2'⟩] at e1
    by_cases c3 : 0 ≤ t.md
    rotate_left
    · rw [if_neg (by simp; omega)]
      exact bad (by rw [e1, if_neg (fun k => c3 k.1)]) (by decide)
    rw [if_pos (by simp; omega)]
    by_cases c4 : t.md < sz.length
    rotate_left
    · rw [if_pos (by omega)]
      exact bad (by rw [e1, if_neg (fun k => c4 k.2)]) (by decide)
    rw [if_neg (by omega)]
    rw [if_pos ⟨c3, c4⟩] at e1
    by_cases c5 : t.pl = []
    · rw [if_neg (by simp [c5])]
      exact bad (by rw [e1, if_neg (fun k => k.1 c5)]) (by decide)
    rw [if_pos (by simp [c5]), i1_at c3 c4]
    refine ⟨i1_in c3 c4, ?_⟩
    rw [if_pos (by rfl)]
    have hci : cI (i1 (sz.getD t.md.toNat 0)) 0 = sz.getD t.md.toNat 0 := rfl
    rw [hci]
    by_cases c6 : (t.pl.length : Int) ≤ sz.getD t.md.toNat 0
    rotate_left
    · rw [if_pos (by omega)]
      exact bad (by rw [e1, if_neg (fun k => c6 k.2)]) (by decide)
    rw [if_neg (by omega)]
    rw [if_pos ⟨c5, c6⟩] at e1
    by_cases c7 : 0 ≤ t.rt
    rotate_left
    · rw [if_neg (by simp; omega)]
      exact bad (by rw [e1, if_neg (fun k => c7 k.1)]) (by decide)
    rw [if_pos (by simp; omega)]
    by_cases c8 : t.rt ≤ 10000
    rotate_left
    · rw [if_pos (by omega)]
      exact bad (by rw [e1, if_neg (fun k => c8 k.2)]) (by decide)
    rw [if_neg (by omega)]
    rw [if_pos ⟨c7, c8⟩] at e1
    have c9' : hasQ [] t.id = false := rfl
    rw [if_pos (by simp [c9'])]
    refine ⟨[], sz, hpE sz, [_, _], t.pl, rfl, .inr ⟨rfl, rfl⟩, rfl, s, ht, ?_⟩
    by_cases c10 : dblQ [] t.pl = true
    · rw [if_pos c10]
      exact bad (by rw [e1, if_neg (fun k => by rw [c10] at k; exact absurd k.2 (by decide))]) (by decide)
    have c10' : dblQ [] t.pl = false := by simpa using c10
    rw [if_neg c10]
    rw [if_pos ⟨c9', c10'⟩, if_pos (show (modeL [] t.md).length < 16 from (show (0 : Nat) < 16 by decide))] at e1
    refine ⟨[], sz, hpE sz, [_, _], t.md, rfl, .inr ⟨rfl, rfl⟩, rfl, s, ?_⟩
    rw [if_neg (show ¬ ((modeL [] t.md).length : Int) ≥ 16 from (show ¬ ((0 : Nat) : Int) ≥ 16 by decide))]
    refine ⟨sz, t, [_, _], rfl, rfl, t, .no, rfl, ht, ?_⟩
    have hq : putQ sz [] t = [t] := by unfold putQ; rw [if_pos e1]; rfl
    refine ⟨[_, _], sz, t, rfl, rfl, fun c h1 J' h2 => ⟨by rw [e1], ?_⟩⟩
    rw [hq]
    exact left_AT (l := [t]) (J := J') (cap := c) (sz := sz) (k := 2) (T := [.cells t.cells, .cells (getQ [] t.id).cells, .cells (t.cells ++ J')]) rfl h1 h2
theorem drop_ok {l : List Tk} {sz : List Int} {c : Int} {X : Heap} (h : EXQ l sz X) (s : Sml l) : ACalls Try.prog gl 50 [.ptr 0 0, .int .u32 c] X (fun x H' => x = .tup [(getQ l c).pv, .bool (hasQ l c)] ∧ RestOf (EXQ (dropQ l c) sz) H') := by
  have hsl := s.len
  refine acalls_weak ?_
  unfold dropQ
  rcases h with ⟨J, cap, rfl, hc, hJ⟩ | ⟨rfl, rfl⟩
  · refine droA_vc l J cap sz c _ ⟨l, sz, hpQ l J cap sz, [_, _], 2, c, rfl, .inl ⟨J, cap, rfl, hc, hJ⟩, rfl, rfl, s.len, s.pl, ?_⟩
    simp only [br_if, dt]
    by_cases k : l.findIdx (byId c) < l.length
    · have hh : hasQ l c = true := decide_eq_true k
      rw [if_neg (fun e => (ixNeg.1 e) k), ixPos k, if_pos hh]
      simp only [toNat_nat, Nat.zero_add]
      rw [flT_at J k]
      refine ⟨⟨by omega, by omega⟩, ?_⟩
      rw [if_pos (by rfl)]
      refine ⟨[_, _, _], l, J, cap, sz, l.findIdx (byId c), (by show _ = _; rw [wI_succ k (by omega)]), rfl, k, hsl, hc, hJ, _, .refl _, by rw [hh]; rfl, ?_⟩
      have hle : l.length - 1 = (l.eraseIdx (l.findIdx (byId c))).length := by rw [List.length_eraseIdx_of_lt k]
      rw [hle]
      exact left_AT (k := 0) rfl (by omega) (((zrT_room 1).app hJ |> fun h => by
        simp only [List.replicate, List.flatten_cons, List.flatten_nil, List.append_nil] at h
        exact h.cast (by omega)))
    · have hh : hasQ l c = false := decide_eq_false k
      rw [if_pos (ixNeg.2 k), if_neg (by rw [hh]; decide)]
      refine ⟨_, wk_zero, by rw [hh, getQ_none k], left_AT (k := 0) rfl hc hJ⟩
  · refine droN_vc sz c _ ⟨[], sz, hpE sz, [_, _], 1, c, rfl, .inr ⟨rfl, rfl⟩, rfl, rfl, s.len, s.pl, ?_⟩
    simp only [br_if, dt]
    rw [if_pos (ixNeg.2 (by simp))]
    exact ⟨_, wk_zero, rfl, left_NT⟩
end Go.Proofs.Ytcmknbanojcbaaa
