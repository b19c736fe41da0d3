/-
  Books of parties, in part.
-/
import Derived.Test.YthabdpaipgclpaaPb
import Derived.Test.YthabdpaipgclpaaQa
import Derived.Test.YthabdpaipgclpaaProg
namespace Go.Proofs.Ythabdpaipgclpaa
open Go Go.AM Go.Proofs
theorem wo11_vc (ob : Ob) (t p : Int)  (K : PV → Heap → Prop) (h : K (PV.bool (p == t)) [Ob.cells [PV.int IntKind.u32 t], ob]) : ACalls Try.prog gl 89 [.int .u32 p, .ptr 0 0] [.cells [.int .u32 t], ob] K :=
  acalls_of_wpc2 (T := []) (L := []) (fun _ => 0) Try.func89 (by kernel_rfl) (by kernel_rfl) (by kernel_rfl) (TabOk.nil _ _) (LOk.nil _ _ _ _ _) (holds_of_eq (by kernel_rfl) h)
def eqT (t v : Int) : Bool := v == t
def wo1_s (args : List PV) (H : Heap) (K : PV → Prop) : Prop := ∃ (t : Int) (ob : Ob) (p : Int), SlIs args [.int .u32 p, .ptr 0 0] ∧ HpIs H [.cells [.int .u32 t], ob] ∧ K (.bool (eqT t p))
theorem wo1_ok : SpOk Try.prog gl 89 (.read wo1_s) := by
  rintro args H K ⟨t, ob, p, he, hH, hk⟩
  have he : args = _ := he
  have hH : H = _ := hH
  subst he
  subst hH
  exact ⟨_, wo11_vc ob t p _ ⟨rfl, rfl⟩, hk⟩
def TW1 : Tab := [(89, .read wo1_s)]
theorem TW1_ok : TabOk Try.prog gl TW1 := .cons wo1_ok (.nil _ _)
theorem ifw_vc (cx : Int) (l : List Int) (J : List PV) (cap : Nat) (i : Nat) (R : Ex → List PV → Heap → Prop) (h : br (decide ((↑i : Int) < (↑(List.length l) : Int))) ((0 ≤ (↑i : Int) ∧ (↑i : Int) < (↑(List.length l) : Int)) ∧ br (true && fitX [CK.int IntKind.u32] 0 (List.drop (0 + Int.toNat (↑i : Int) * 1) (List.flatten (List.map u1 l) ++ J))) (∃ (t : Int), ∃ (ob : Ob), ∃ (p : Int), SlIs [PV.int IntKind.u32 (cI (List.drop (0 + Int.toNat (↑i : Int) * 1) (List.flatten (List.map u1 l) ++ J)) 0), PV.ptr 0 0] [PV.int IntKind.u32 p, PV.ptr 0 0] ∧ HpIs [Ob.cells [PV.int IntKind.u32 cx], Ob.cells (List.flatten (List.map u1 l) ++ J)] [Ob.cells [PV.int IntKind.u32 t], ob] ∧ br (eqT t p) (R Ex.ret [PV.arr 1 0 (List.length l) cap, PV.fn 89 [PV.ptr 0 0], PV.int IntKind.i64 (↑i : Int), PV.int IntKind.i64 (↑(List.length l) : Int), PV.int IntKind.i64 (↑i : Int)] [Ob.cells [PV.int IntKind.u32 cx], Ob.cells (List.flatten (List.map u1 l) ++ J)]) (R Ex.normal [PV.arr 1 0 (List.length l) cap, PV.fn 89 [PV.ptr 0 0], PV.int IntKind.i64 0, PV.int IntKind.i64 (↑(List.length l) : Int), PV.int IntKind.i64 (wI ((↑i : Int) + 1))] [Ob.cells [PV.int IntKind.u32 cx], Ob.cells (List.flatten (List.map u1 l) ++ J)])) False) (R (Ex.exit 0) [PV.arr 1 0 (List.length l) cap, PV.fn 89 [PV.ptr 0 0], PV.int IntKind.i64 0, PV.int IntKind.i64 (↑(List.length l) : Int), PV.int IntKind.i64 (↑i : Int)] [Ob.cells [PV.int IntKind.u32 cx], Ob.cells (List.flatten (List.map u1 l) ++ J)])) : Holds (wpc br Try.prog gl TW1 [] (fun _ => 0) (subOf [1, 0, 1, 0] (bodyOf Try.f81)) [] (envS [0, 1, 4, 7, 8] [.arr 1 0 l.length cap, .fn 89 [.ptr 0 0], .int .i64 0, .int .i64 l.length, .int .i64 i]) [.cells [.int .u32 cx], .cells ((l.map u1).flatten ++ J)] (fun ex e H => R ex (List.map e [0, 1, 4, 7, 8]) H)) := holds_of_eq (by kernel_rfl) h
def ifw_l : LSp := fun e H Q => ∃ (cx : Int) (l : List Int) (J : List PV) (cap : Nat), l.length ≤ 1000000 ∧ SlIs (List.map e [0, 1, 4, 7, 8]) [.arr 1 0 l.length cap, .fn 89 [.ptr 0 0], .int .i64 0, .int .i64 l.length, .int .i64 0] ∧ HpIs H [.cells [.int .u32 cx], .cells ((l.map u1).flatten ++ J)] ∧
  (l.findIdx (eqT cx) < l.length → Q .ret (envS [0, 1, 4, 7, 8] [.arr 1 0 l.length cap, .fn 89 [.ptr 0 0], .int .i64 (l.findIdx (eqT cx)), .int .i64 l.length, .int .i64 (l.findIdx (eqT cx))]) [.cells [.int .u32 cx], .cells ((l.map u1).flatten ++ J)]) ∧
  (l.findIdx (eqT cx) = l.length → Q (.exit 0) (envS [0, 1, 4, 7, 8] [.arr 1 0 l.length cap, .fn 89 [.ptr 0 0], .int .i64 0, .int .i64 l.length, .int .i64 l.length]) [.cells [.int .u32 cx], .cells ((l.map u1).flatten ++ J)])
theorem ifw_l_ok : ∀ e H Q, ifw_l e H Q → AW Try.prog gl Try.f81.ntmps (.loop (subOf [1, 0, 1, 0] (bodyOf Try.f81))) Q e H := by
  rintro e H Q ⟨cx, l, J, cap, hl, he, hH, hQ1, hQ2⟩
  have hfl : l.findIdx (eqT cx) ≤ l.length := List.findIdx_le_length
  refine aw_loop4 (hn := fun _ => 0) gl_low TW1_ok (.nil _ _ _ _ _) (σ := Nat) [0, 1, 4, 7, 8] (fun i => i ≤ l.findIdx (eqT cx)) (fun i => [.arr 1 0 l.length cap, .fn 89 [.ptr 0 0], .int .i64 0, .int .i64 l.length, .int .i64 i]) (fun _ => [.cells [.int .u32 cx], .cells ((l.map u1).flatten ++ J)]) (fun i => l.length - i) 0 (Nat.zero_le _) he hH ?_
  intro i hi
  have hi' : i ≤ l.findIdx (eqT cx) := hi
  refine ifw_vc cx l J cap i _ ?_
  simp only [br_if, dt]
  by_cases h : i < l.length
  · rw [if_pos (by omega)]
    simp only [toNat_nat, Nat.zero_add]
    rw [cells_at u1_len J 0 h]
    refine ⟨⟨by omega, by omega⟩, ?_⟩
    rw [if_pos (by rfl)]
    have hv : cI (u1 (l.getD i 0) ++ (((l.drop (i + 1)).map u1).flatten ++ J)) 0 = l.getD i 0 := rfl
    rw [hv]
    obtain ⟨v, hvd⟩ : ∃ v, v = l.getD i 0 := ⟨_, rfl⟩
    rw [← hvd]
    refine ⟨cx, _, v, rfl, rfl, ?_⟩
    by_cases c : (eqT cx) v = true
    · have hge : l.findIdx (eqT cx) = i := fidx_stop 0 hi' h (by rw [← hvd]; exact c)
      rw [hge] at hQ1
      rw [if_pos (by exact c)]
      exact hQ1 h
    · have hlt : i < l.findIdx (eqT cx) := fidx_step 0 hi' h (by rw [← hvd]; simpa using c)
      rw [if_neg (by exact c)]
      exact ⟨i + 1, (show l.length - (i + 1) < l.length - i by omega), hlt, by rw [wI_succ h (by omega)], [], rfl, Nat.le_refl _, .inl rfl⟩
  · rw [if_neg (by omega)]
    have : i = l.length := by omega
    subst this
    exact hQ2 (by omega)
theorem ifw1_vc (cx : Int) (l : List Int) (J : List PV) (cap : Nat)  (K : PV → Heap → Prop) (h : ∃ (cx_1 : Int), ∃ (l_1 : List Int), ∃ (J_1 : List PV), ∃ (cap_1 : Nat), List.length l_1 ≤ 1000000 ∧ SlIs [PV.arr 1 0 (List.length l) cap, PV.fn 89 [PV.ptr 0 0], PV.int IntKind.i64 0, PV.int IntKind.i64 (↑(List.length l) : Int), PV.int IntKind.i64 0] [PV.arr 1 0 (List.length l_1) cap_1, PV.fn 89 [PV.ptr 0 0], PV.int IntKind.i64 0, PV.int IntKind.i64 (↑(List.length l_1) : Int), PV.int IntKind.i64 0] ∧ HpIs [Ob.cells [PV.int IntKind.u32 cx], Ob.cells (List.flatten (List.map u1 l) ++ J)] [Ob.cells [PV.int IntKind.u32 cx_1], Ob.cells (List.flatten (List.map u1 l_1) ++ J_1)] ∧ (List.findIdx (eqT cx_1) l_1 < List.length l_1 → K (PV.int IntKind.i64 (↑(List.findIdx (eqT cx_1) l_1) : Int)) [Ob.cells [PV.int IntKind.u32 cx_1], Ob.cells (List.flatten (List.map u1 l_1) ++ J_1)]) ∧ (List.findIdx (eqT cx_1) l_1 = List.length l_1 → K (PV.int IntKind.i64 (-1)) [Ob.cells [PV.int IntKind.u32 cx_1], Ob.cells (List.flatten (List.map u1 l_1) ++ J_1)])) : ACalls Try.prog gl 81 [.arr 1 0 l.length cap, .fn 89 [.ptr 0 0]] [.cells [.int .u32 cx], .cells ((l.map u1).flatten ++ J)] K :=
  acalls_of_wpc2 (T := TW1) (L := [([1, 0, 1, 0], ifw_l)]) (fun _ => 0) Try.func81 (by kernel_rfl) (by kernel_rfl) (by kernel_rfl) (TW1_ok) (.cons (sub_of (by kernel_rfl)) ifw_l_ok (.nil _ _ _ _ _)) (holds_of_eq (by kernel_rfl) h)
def ifw_s (args : List PV) (H : Heap) (K : PV → Prop) : Prop := ∃ (cx : Int) (l : List Int) (J : List PV) (cap : Nat), SlIs args [.arr 1 0 l.length cap, .fn 89 [.ptr 0 0]] ∧ HpIs H [.cells [.int .u32 cx], .cells ((l.map u1).flatten ++ J)] ∧ l.length ≤ 1000000 ∧ K (.int .i64 (if l.findIdx (eqT cx) < l.length then (l.findIdx (eqT cx) : Int) else -1))
theorem ifw_ok : SpOk Try.prog gl 81 (.read ifw_s) := by
  rintro args H K ⟨cx, l, J, cap, he, hH, hl, hk⟩
  have he : args = _ := he
  have hH : H = _ := hH
  subst he
  subst hH
  exact ⟨_, ifw1_vc cx l J cap _ ⟨cx, l, J, cap, hl, rfl, rfl, fun h => ⟨by rw [if_pos h], rfl⟩, fun h => ⟨by rw [if_neg (by omega)], rfl⟩⟩, hk⟩
def TDFw : Tab := (81, .read ifw_s) :: TW1
theorem TDFw_ok : TabOk Try.prog gl TDFw := .cons ifw_ok TW1_ok
theorem dlw_vc (cx : Int) (l : List Int) (J : List PV) (cap : Nat) (i j : Nat) (R : Ex → List PV → Heap → Prop) (h : br (decide ((↑j : Int) < (↑(List.length l) : Int))) ((0 ≤ (↑j : Int) ∧ (↑j : Int) < (↑(List.length l) : Int)) ∧ br (true && fitX [CK.int IntKind.u32] 0 (List.drop (0 + Int.toNat (↑j : Int) * 1) (List.flatten (List.map u1 l) ++ J))) (∃ (t : Int), ∃ (ob : Ob), ∃ (p : Int), SlIs [PV.int IntKind.u32 (cI (List.drop (0 + Int.toNat (↑j : Int) * 1) (List.flatten (List.map u1 l) ++ J)) 0), PV.ptr 0 0] [PV.int IntKind.u32 p, PV.ptr 0 0] ∧ HpIs [Ob.cells [PV.int IntKind.u32 cx], Ob.cells (List.flatten (List.map u1 l) ++ J)] [Ob.cells [PV.int IntKind.u32 t], ob] ∧ br (!eqT t p) ((0 ≤ (↑i : Int) ∧ (↑i : Int) < (↑(List.length l) : Int)) ∧ br (1 == 1 && List.all [PV.int IntKind.u32 (cI (List.drop (0 + Int.toNat (↑j : Int) * 1) (List.flatten (List.map u1 l) ++ J)) 0)] PV.one && decide (0 + Int.toNat (↑i : Int) * 1 + 1 ≤ List.length (List.flatten (List.map u1 l) ++ J)) && hintOk 0 1 (0 + Int.toNat (↑i : Int) * 1) 1) (R Ex.normal [PV.arr 1 0 (List.length l) cap, PV.fn 89 [PV.ptr 0 0], PV.int IntKind.i64 (wI ((↑i : Int) + 1)), PV.int IntKind.i64 (wI ((↑j : Int) + 1))] [Ob.cells [PV.int IntKind.u32 cx], Ob.cells (over (List.flatten (List.map u1 l) ++ J) (0 + Int.toNat (↑i : Int) * 1) [PV.int IntKind.u32 (cI (List.drop (0 + Int.toNat (↑j : Int) * 1) (List.flatten (List.map u1 l) ++ J)) 0)])]) False) (R Ex.normal [PV.arr 1 0 (List.length l) cap, PV.fn 89 [PV.ptr 0 0], PV.int IntKind.i64 (↑i : Int), PV.int IntKind.i64 (wI ((↑j : Int) + 1))] [Ob.cells [PV.int IntKind.u32 cx], Ob.cells (List.flatten (List.map u1 l) ++ J)])) False) (R (Ex.exit 0) [PV.arr 1 0 (List.length l) cap, PV.fn 89 [PV.ptr 0 0], PV.int IntKind.i64 (↑i : Int), PV.int IntKind.i64 (↑j : Int)] [Ob.cells [PV.int IntKind.u32 cx], Ob.cells (List.flatten (List.map u1 l) ++ J)])) : Holds (wpc br Try.prog gl TDFw [] (fun _ => 0) (subOf [1, 1, 1, 0, 1, 0] (bodyOf Try.f57)) [] (envS [0, 1, 5, 6] [.arr 1 0 l.length cap, .fn 89 [.ptr 0 0], .int .i64 i, .int .i64 j]) [.cells [.int .u32 cx], .cells ((l.map u1).flatten ++ J)] (fun ex e H => R ex (List.map e [0, 1, 5, 6]) H)) := holds_of_eq (by kernel_rfl) h
/-- what stands in the row when so many have been looked at -/
structure Midw (ns l : List Int) (cx : Int) (i j : Nat) : Prop where
  len : l.length = ns.length
  kept : l.take i = (ns.take j).filter (fun v => !(eqT cx) v)
  rest : l.drop j = ns.drop j
  le : i ≤ j
  lt : j ≤ ns.length
theorem Midw.num {ns l : List Int} {cx : Int} {i j : Nat} (h : Midw ns l cx i j) : i = ((ns.take j).filter (fun v => !(eqT cx) v)).length := by
  have := congrArg List.length h.kept
  rw [List.length_take] at this
  have := h.len; have := h.le; have := h.lt; omega
theorem Midw.at {ns l : List Int} {cx : Int} {i j : Nat} (h : Midw ns l cx i j) : l.getD j 0 = ns.getD j 0 := by
  have := congrArg (fun w => w.getD 0 0) h.rest
  simpa using this
theorem Midw.skip {ns l : List Int} {cx : Int} {i j : Nat} (h : Midw ns l cx i j) (hj : j < ns.length) (c : (eqT cx) (ns.getD j 0) = true) : Midw ns l cx i (j + 1) := by
  refine ⟨h.len, ?_, ?_, by have := h.le; omega, hj⟩
  · rw [h.kept, filter_take 0 hj, if_neg (by rw [c]; decide), List.append_nil]
  · have := congrArg (List.drop 1) h.rest
    rwa [List.drop_drop, List.drop_drop] at this
theorem Midw.keep {ns l : List Int} {cx : Int} {i j : Nat} (h : Midw ns l cx i j) (hj : j < ns.length) (c : (eqT cx) (ns.getD j 0) = false) : Midw ns (l.set i (ns.getD j 0)) cx (i + 1) (j + 1) := by
  have h1 := h.len
  have h2 := h.le
  refine ⟨by rw [List.length_set]; exact h1, ?_, ?_, by omega, hj⟩
  · rw [filter_take 0 hj, if_pos (by rw [c]; decide), ← h.kept, List.take_add_one, List.take_set_of_le (Nat.le_refl _), List.getElem?_set_self (by omega)]
    rfl
  · rw [List.drop_set_of_lt (by omega)]
    have := congrArg (List.drop 1) h.rest
    rwa [List.drop_drop, List.drop_drop] at this
def dlw_l : LSp := fun e H Q => ∃ (cx : Int) (ns : List Int) (J : List PV) (cap i : Nat), ns.length ≤ 1000000 ∧ Midw ns ns cx i (i + 1) ∧ (∀ y ∈ J, Low 2 y) ∧ (∀ y ∈ ([.int .u32 cx] : List PV), Low 2 y) ∧ SlIs (List.map e [0, 1, 5, 6]) [.arr 1 0 ns.length cap, .fn 89 [.ptr 0 0], .int .i64 i, .int .i64 ((i + 1 : Nat) : Int)] ∧ HpIs H [.cells [.int .u32 cx], .cells ((ns.map u1).flatten ++ J)] ∧
  ∀ (l : List Int) (k : Nat), Midw ns l cx k ns.length → Q (.exit 0) (envS [0, 1, 5, 6] [.arr 1 0 ns.length cap, .fn 89 [.ptr 0 0], .int .i64 k, .int .i64 ns.length]) [.cells [.int .u32 cx], .cells ((l.map u1).flatten ++ J)]
theorem dlw_l_ok : ∀ e H Q, dlw_l e H Q → AW Try.prog gl Try.f57.ntmps (.loop (subOf [1, 1, 1, 0, 1, 0] (bodyOf Try.f57))) Q e H := by
  rintro e H Q ⟨cx, ns, J, cap, i0, hl, mid, hJ, hbx, he, hH, hQ⟩
  refine aw_loop4 (hn := fun _ => 0) gl_low TDFw_ok (.nil _ _ _ _ _) (σ := Nat × Nat × List Int) [0, 1, 5, 6] (fun s => Midw ns s.2.2 cx s.1 s.2.1)
    (fun s => [.arr 1 0 ns.length cap, .fn 89 [.ptr 0 0], .int .i64 s.1, .int .i64 s.2.1]) (fun s => [.cells [.int .u32 cx], .cells ((s.2.2.map u1).flatten ++ J)]) (fun s => ns.length - s.2.1) (i0, i0 + 1, ns) mid he hH ?_
  rintro ⟨i, j, l⟩ mid
  have mid : Midw ns l cx i j := mid
  have hlen := mid.len
  have hle := mid.le
  have hjn := mid.lt
  simp only [← hlen]
  refine dlw_vc cx l J cap i j _ ?_
  simp only [br_if, dt]
  by_cases h : j < l.length
  · have hj : j < ns.length := by omega
    rw [if_pos (by omega)]
    simp only [toNat_nat, Nat.zero_add]
    rw [cells_at u1_len J 0 h]
    refine ⟨⟨by omega, by omega⟩, ?_⟩
    rw [if_pos (by rfl)]
    have hv : cI (u1 (l.getD j 0) ++ (((l.drop (j + 1)).map u1).flatten ++ J)) 0 = l.getD j 0 := rfl
    rw [hv, mid.at]
    obtain ⟨v, hvd⟩ : ∃ v, v = ns.getD j 0 := ⟨_, rfl⟩
    rw [← hvd]
    refine ⟨cx, _, v, rfl, rfl, ?_⟩
    have hrow := over_row u1_len (J := J) (a := v) (k := i) 0 (show i < l.length by omega)
    by_cases c : (eqT cx) v = true
    · rw [if_neg (by rw [show _ = true from c]; decide)]
      exact ⟨(i, j + 1, l), (show l.length - (j + 1) < l.length - j by omega), mid.skip hj (by rw [← hvd]; exact c), by dsimp only; rw [wI_succ h (by omega), hlen], [], rfl, Nat.le_refl _, .inl rfl⟩
    · have c' : (eqT cx) v = false := by simpa using c
      rw [if_pos (by rw [show _ = false from c']; decide)]
      refine ⟨⟨by omega, by omega⟩, ?_⟩
      rw [if_pos (by rw [decide_eq_true (by rw [List.length_append, flat_u1]; omega)]; rfl)]
      have hm := mid.keep hj (by rw [← hvd]; exact c')
      rw [← hvd] at hm
      refine ⟨(i + 1, j + 1, l.set i v), (show l.length - (j + 1) < l.length - j by omega), hm, by dsimp only; rw [wI_succ h (by omega), wI_succ (n := ns.length) (show i < ns.length by omega) (by omega), hlen], [], ?_, Nat.le_refl _, .inl rfl⟩
      dsimp only
      rw [List.append_nil, ← hrow]; rfl
  · rw [if_neg (by omega)]
    have : j = ns.length := by omega
    subst this
    rw [hlen]
    exact hQ l i mid
theorem dlw1_vc (cx : Int) (l : List Int) (J : List PV) (cap : Nat)  (K : PV → Heap → Prop) (h : ∃ (cx_1 : Int), ∃ (l_1 : List Int), ∃ (J_1 : List PV), ∃ (cap_1 : Nat), SlIs [PV.arr 1 0 (List.length l) cap, PV.fn 89 [PV.ptr 0 0]] [PV.arr 1 0 (List.length l_1) cap_1, PV.fn 89 [PV.ptr 0 0]] ∧ HpIs [Ob.cells [PV.int IntKind.u32 cx], Ob.cells (List.flatten (List.map u1 l) ++ J)] [Ob.cells [PV.int IntKind.u32 cx_1], Ob.cells (List.flatten (List.map u1 l_1) ++ J_1)] ∧ List.length l_1 ≤ 1000000 ∧ br ((if List.findIdx (eqT cx_1) l_1 < List.length l_1 then (↑(List.findIdx (eqT cx_1) l_1) : Int) else -1) == -1) (K (PV.arr 1 0 (List.length l) cap) [Ob.cells [PV.int IntKind.u32 cx], Ob.cells (List.flatten (List.map u1 l) ++ J)]) (∃ (cx_2 : Int), ∃ (ns : List Int), ∃ (J_2 : List PV), ∃ (cap_2 : Nat), ∃ (i : Nat), List.length ns ≤ 1000000 ∧ Midw ns ns cx_2 i (i + 1) ∧ (∀ (y : PV), y ∈ J_2 → Low 2 y) ∧ (∀ (y : PV), y ∈ [PV.int IntKind.u32 cx_2] → Low 2 y) ∧ SlIs [PV.arr 1 0 (List.length l) cap, PV.fn 89 [PV.ptr 0 0], PV.int IntKind.i64 (if List.findIdx (eqT cx_1) l_1 < List.length l_1 then (↑(List.findIdx (eqT cx_1) l_1) : Int) else -1), PV.int IntKind.i64 (wI ((if List.findIdx (eqT cx_1) l_1 < List.length l_1 then (↑(List.findIdx (eqT cx_1) l_1) : Int) else -1) + 1))] [PV.arr 1 0 (List.length ns) cap_2, PV.fn 89 [PV.ptr 0 0], PV.int IntKind.i64 (↑i : Int), PV.int IntKind.i64 (↑(i + 1) : Int)] ∧ HpIs [Ob.cells [PV.int IntKind.u32 cx], Ob.cells (List.flatten (List.map u1 l) ++ J)] [Ob.cells [PV.int IntKind.u32 cx_2], Ob.cells (List.flatten (List.map u1 ns) ++ J_2)] ∧ ∀ (l : List Int), ∀ (k : Nat), Midw ns l cx_2 k (List.length ns) → (0 ≤ (↑k : Int) ∧ (↑k : Int) ≤ (↑(List.length ns) : Int) ∧ (↑(List.length ns) : Int) ≤ (↑cap_2 : Int) ∧ (↑cap_2 : Int) ≤ (↑cap_2 : Int)) ∧ (if Int.toNat (↑cap_2 : Int) = Int.toNat (↑k : Int) then 0 else 0 + Int.toNat (↑k : Int) * 1) + (Int.toNat (↑(List.length ns) : Int) - Int.toNat (↑k : Int)) * 1 ≤ List.length (List.flatten (List.map u1 l) ++ J_2) ∧ (iI 0 ≤ 0 ∧ 0 ≤ (↑k : Int) ∧ (↑k : Int) ≤ (↑cap_2 : Int) ∧ (↑cap_2 : Int) ≤ (↑cap_2 : Int)) ∧ K (PV.arr 1 (if Int.toNat (↑cap_2 : Int) = 0 then 0 else 0) (Int.toNat (↑k : Int) - 0) (Int.toNat (↑cap_2 : Int) - 0)) [Ob.cells [PV.int IntKind.u32 cx_2], Ob.cells (over (List.flatten (List.map u1 l) ++ J_2) (if Int.toNat (↑cap_2 : Int) = Int.toNat (↑k : Int) then 0 else 0 + Int.toNat (↑k : Int) * 1) (List.flatten (List.replicate (Int.toNat (↑(List.length ns) : Int) - Int.toNat (↑k : Int)) [PV.int IntKind.u32 0])))])) : ACalls Try.prog gl 57 [.arr 1 0 l.length cap, .fn 89 [.ptr 0 0]] [.cells [.int .u32 cx], .cells ((l.map u1).flatten ++ J)] K :=
  acalls_of_wpc2 (T := TDFw) (L := [([1, 1, 1, 0, 1, 0], dlw_l)]) (fun _ => 0) Try.func57 (by kernel_rfl) (by kernel_rfl) (by kernel_rfl) (TDFw_ok) (.cons (sub_of (by kernel_rfl)) dlw_l_ok (.nil _ _ _ _ _)) (holds_of_eq (by kernel_rfl) h)
theorem inw_vc (cx : Int) (R : Ex → List PV → Heap → Prop) (h : R (Ex.exit 0) [PV.list [] Tail.no, PV.fn 89 [PV.ptr 0 0], PV.int IntKind.i64 0, PV.int IntKind.i64 0, PV.int IntKind.i64 0] [Ob.cells [PV.int IntKind.u32 cx]]) : Holds (wpc br Try.prog gl TW1 [] (fun _ => 0) (subOf [1, 0, 1, 0] (bodyOf Try.f81)) [] (envS [0, 1, 4, 7, 8] [.list [] .no, .fn 89 [.ptr 0 0], .int .i64 0, .int .i64 0, .int .i64 0]) [.cells [.int .u32 cx]] (fun ex e H => R ex (List.map e [0, 1, 4, 7, 8]) H)) := holds_of_eq (by kernel_rfl) h
def inw_l : LSp := fun e H Q => ∃ (cx : Int), SlIs (List.map e [0, 1, 4, 7, 8]) [.list [] .no, .fn 89 [.ptr 0 0], .int .i64 0, .int .i64 0, .int .i64 0] ∧ HpIs H [.cells [.int .u32 cx]] ∧ Q (.exit 0) (envS [0, 1, 4, 7, 8] [.list [] .no, .fn 89 [.ptr 0 0], .int .i64 0, .int .i64 0, .int .i64 0]) [.cells [.int .u32 cx]]
theorem inw_l_ok : ∀ e H Q, inw_l e H Q → AW Try.prog gl Try.f81.ntmps (.loop (subOf [1, 0, 1, 0] (bodyOf Try.f81))) Q e H := by
  rintro e H Q ⟨cx, he, hH, hQ⟩
  refine aw_loop4 (hn := fun _ => 0) gl_low TW1_ok (.nil _ _ _ _ _) (σ := Unit) [0, 1, 4, 7, 8] (fun _ => True) (fun _ => [.list [] .no, .fn 89 [.ptr 0 0], .int .i64 0, .int .i64 0, .int .i64 0]) (fun _ => [.cells [.int .u32 cx]]) (fun _ => 0) () trivial he hH ?_
  intro _ _
  exact inw_vc cx _ hQ
theorem inw1_vc (cx : Int)  (K : PV → Heap → Prop) (h : ∃ (cx_1 : Int), SlIs [PV.list [] Tail.no, PV.fn 89 [PV.ptr 0 0], PV.int IntKind.i64 0, PV.int IntKind.i64 0, PV.int IntKind.i64 0] [PV.list [] Tail.no, PV.fn 89 [PV.ptr 0 0], PV.int IntKind.i64 0, PV.int IntKind.i64 0, PV.int IntKind.i64 0] ∧ HpIs [Ob.cells [PV.int IntKind.u32 cx]] [Ob.cells [PV.int IntKind.u32 cx_1]] ∧ K (PV.int IntKind.i64 (-1)) [Ob.cells [PV.int IntKind.u32 cx_1]]) : ACalls Try.prog gl 81 [.list [] .no, .fn 89 [.ptr 0 0]] [.cells [.int .u32 cx]] K :=
  acalls_of_wpc2 (T := TW1) (L := [([1, 0, 1, 0], inw_l)]) (fun _ => 0) Try.func81 (by kernel_rfl) (by kernel_rfl) (by kernel_rfl) (TW1_ok) (.cons (sub_of (by kernel_rfl)) inw_l_ok (.nil _ _ _ _ _)) (holds_of_eq (by kernel_rfl) h)
def inw_s (args : List PV) (H : Heap) (K : PV → Prop) : Prop := ∃ (cx : Int), SlIs args [.list [] .no, .fn 89 [.ptr 0 0]] ∧ HpIs H [.cells [.int .u32 cx]] ∧ K (.int .i64 (-1))
theorem inw_ok : SpOk Try.prog gl 81 (.read inw_s) := by
  rintro args H K ⟨cx, he, hH, hk⟩
  have he : args = _ := he
  have hH : H = _ := hH
  subst he
  subst hH
  exact ⟨_, inw1_vc cx _ ⟨cx, rfl, rfl, rfl, rfl⟩, hk⟩
def TINw : Tab := (81, .read inw_s) :: TW1
theorem TINw_ok : TabOk Try.prog gl TINw := .cons inw_ok TW1_ok
theorem dnw1_vc (cx : Int)  (K : PV → Heap → Prop) (h : ∃ (cx_1 : Int), SlIs [PV.list [] Tail.no, PV.fn 89 [PV.ptr 0 0]] [PV.list [] Tail.no, PV.fn 89 [PV.ptr 0 0]] ∧ HpIs [Ob.cells [PV.int IntKind.u32 cx]] [Ob.cells [PV.int IntKind.u32 cx_1]] ∧ K (PV.list [] Tail.no) [Ob.cells [PV.int IntKind.u32 cx]]) : ACalls Try.prog gl 57 [.list [] .no, .fn 89 [.ptr 0 0]] [.cells [.int .u32 cx]] K :=
  acalls_of_wpc2 (T := TINw) (L := [([1, 1, 1, 0, 1, 0], dlw_l)]) (fun _ => 0) Try.func57 (by kernel_rfl) (by kernel_rfl) (by kernel_rfl) (TINw_ok) (.cons (sub_of (by kernel_rfl)) dlw_l_ok (.nil _ _ _ _ _)) (holds_of_eq (by kernel_rfl) h)
theorem fsplitw {p : Int → Bool} : ∀ (l : List Int), (l.findIdx p < l.length → l.take (l.findIdx p) = (l.take (l.findIdx p + 1)).filter (fun v => !p v)) ∧ (l.findIdx p = l.length → l.filter (fun v => !p v) = l)
  | [] => ⟨fun h => absurd h (by simp), fun _ => rfl⟩
  | a :: l => by
    obtain ⟨h1, h2⟩ := fsplitw l
    by_cases c : p a = true
    · have e : (a :: l).findIdx p = 0 := by rw [List.findIdx_cons, c]; rfl
      rw [e]
      exact ⟨fun _ => by simp [c], fun h => by simp at h⟩
    · have c' : p a = false := by simpa using c
      have e : (a :: l).findIdx p = l.findIdx p + 1 := by rw [List.findIdx_cons, c']; rfl
      rw [e]
      refine ⟨fun h => ?_, fun h => ?_⟩
      · rw [List.take_succ_cons, List.take_succ_cons, List.filter_cons_of_pos (by simp [c']), ← h1 (by simpa using h)]
      · rw [List.filter_cons_of_pos (by simp [c']), h2 (by simpa using h)]
theorem zfillw {l : List Int} {J : List PV} {k n : Nat} (hn : l.length = n) (hk : k ≤ n) : over ((l.map u1).flatten ++ J) k (List.flatten (List.replicate (n - k) [PV.int .u32 0])) = ((l.take k).map u1).flatten ++ ((List.flatten (List.replicate (n - k) [PV.int .u32 0])) ++ J) := by
  have hz := (zeros_u32 (n - k)).len
  have e1 : (l.map u1).flatten ++ J = ((l.take k).map u1).flatten ++ ((l.drop k).map u1).flatten ++ J := by rw [← rows_parts]
  rw [over_mid e1 (by rw [flat_u1, List.length_take]; omega) (by rw [flat_u1, List.length_drop, hz]; omega), List.append_assoc]
def delw_s (args : List PV) (H : Heap) (K : PV → Heap → Prop) : Prop :=
  (∃ (cx : Int) (l : List Int) (J : List PV) (cap : Nat), SlIs args [.arr 1 0 l.length cap, .fn 89 [.ptr 0 0]] ∧ HpIs H [.cells [.int .u32 cx], .cells ((l.map u1).flatten ++ J)] ∧ l.length ≤ 1000000 ∧ l.length ≤ cap ∧ Room J (cap - l.length) ∧ (∀ y ∈ ([.int .u32 cx] : List PV), Low 2 y) ∧
    ∀ (J' : List PV), Room J' (cap - (l.filter (fun v => !(eqT cx) v)).length) → K (.arr 1 0 (l.filter (fun v => !(eqT cx) v)).length cap) [.cells [.int .u32 cx], .cells (((l.filter (fun v => !(eqT cx) v)).map u1).flatten ++ J')]) ∨
  (∃ (cx : Int), SlIs args [.list [] .no, .fn 89 [.ptr 0 0]] ∧ HpIs H [.cells [.int .u32 cx]] ∧ K (.list [] .no) [.cells [.int .u32 cx]])
theorem delw_ok : SpOk Try.prog gl 57 (.heap delw_s) := by
  rintro args H K (⟨cx, l, J, cap, he, hH, hl, hc, hJ, hbx, hk⟩ | ⟨cx, he, hH, hk⟩)
  · have he : args = _ := he
    have hH : H = _ := hH
    subst he
    subst hH
    obtain ⟨s1, s2⟩ := fsplitw (p := (eqT cx)) l
    have hfl : l.findIdx (eqT cx) ≤ l.length := List.findIdx_le_length
    refine dlw1_vc cx l J cap K ⟨cx, l, J, cap, rfl, rfl, hl, ?_⟩
    rw [br_if]
    by_cases h : l.findIdx (eqT cx) < l.length
    · rw [if_pos h, if_neg (by rw [beq_iff_eq]; omega)]
      refine ⟨cx, l, J, cap, l.findIdx (eqT cx), hl, ⟨rfl, s1 h, rfl, by omega, h⟩, fun y hy => (hJ.low y hy).up, hbx, ?_, rfl, fun l' k mid => ?_⟩
      · show _ = _
        rw [wI_succ h (by omega)]
      · have hlen := mid.len
        have hle := mid.le
        have hkept := mid.kept
        rw [List.take_length] at hkept
        have hnum := mid.num
        rw [List.take_length] at hnum
        simp only [toNat_nat, Nat.sub_zero, Nat.zero_add, Nat.mul_one, ite_self]
        have hif : (if cap = k then 0 else k) + (l.length - k) ≤ ((l'.map u1).flatten ++ J).length := by
          rw [List.length_append, flat_u1, hJ.len]; split <;> omega
        have hov : over ((l'.map u1).flatten ++ J) (if cap = k then 0 else k) (List.flatten (List.replicate (l.length - k) [PV.int .u32 0])) = ((l'.take k).map u1).flatten ++ ((List.flatten (List.replicate (l.length - k) [PV.int .u32 0])) ++ J) := by
          split
          · have e : l.length - k = 0 := by omega
            rw [e, show List.flatten (List.replicate 0 [PV.int IntKind.u32 0]) = [] from rfl, over_nil, List.take_of_length_le (by omega), List.nil_append]
          · exact zfillw hlen hle
        refine ⟨⟨by omega, by omega, by omega, by omega⟩, hif, ⟨by decide, by omega, by omega, by omega⟩, ?_⟩
        rw [hov, hkept, hnum]
        exact hk _ (((zeros_u32 _).app hJ).cast (by omega))
    · rw [if_neg h, if_pos (by rfl)]
      have e := s2 (by omega)
      rw [e] at hk
      exact hk J hJ
  · have he : args = _ := he
    have hH : H = _ := hH
    subst he
    subst hH
    exact dnw1_vc cx K ⟨cx, rfl, rfl, hk⟩
def TWD : Tab := [(47, .heap cloA_s), (57, .heap delw_s)]
theorem TWD_ok : TabOk Try.prog gl TWD := .cons cloA_ok (.cons delw_ok (.nil _ _))
theorem wo2_vc (l : List Int) (t : Int)  (K : PV → Heap → Prop) (h : ∃ (l_1 : List Int), ∃ (tl : Tail), SlIs [PV.list (List.map u1 l) Tail.no] [PV.list (List.map u1 l_1) tl] ∧ List.length l_1 ≤ 1000000 ∧ (l_1 = [] → (∃ (cx : Int), ∃ (l : List Int), ∃ (J : List PV), ∃ (cap : Nat), SlIs [PV.list [] Tail.no, PV.fn 89 [PV.ptr 0 0]] [PV.arr 1 0 (List.length l) cap, PV.fn 89 [PV.ptr 0 0]] ∧ HpIs [Ob.cells [PV.int IntKind.u32 t]] [Ob.cells [PV.int IntKind.u32 cx], Ob.cells (List.flatten (List.map u1 l) ++ J)] ∧ List.length l ≤ 1000000 ∧ List.length l ≤ cap ∧ Room J (cap - List.length l) ∧ (∀ (y : PV), y ∈ [PV.int IntKind.u32 cx] → Low 2 y) ∧ ∀ (J' : List PV), Room J' (cap - List.length (List.filter (fun (v : Int) => !eqT cx v) l)) → K (PV.arr 1 0 (List.length (List.filter (fun (v : Int) => !eqT cx v) l)) cap) [Ob.cells [PV.int IntKind.u32 cx], Ob.cells (List.flatten (List.map u1 (List.filter (fun (v : Int) => !eqT cx v) l)) ++ J')]) ∨ ∃ (cx : Int), SlIs [PV.list [] Tail.no, PV.fn 89 [PV.ptr 0 0]] [PV.list [] Tail.no, PV.fn 89 [PV.ptr 0 0]] ∧ HpIs [Ob.cells [PV.int IntKind.u32 t]] [Ob.cells [PV.int IntKind.u32 cx]] ∧ K (PV.list [] Tail.no) [Ob.cells [PV.int IntKind.u32 cx]]) ∧ (l_1 ≠ [] → ∀ (cap : Nat), List.length l_1 ≤ cap → ∀ (J : List PV), Room J (cap - List.length l_1) → (∃ (cx : Int), ∃ (l : List Int), ∃ (J_1 : List PV), ∃ (cap_1 : Nat), SlIs [PV.arr 1 0 (List.length l_1) cap, PV.fn 89 [PV.ptr 0 0]] [PV.arr 1 0 (List.length l) cap_1, PV.fn 89 [PV.ptr 0 0]] ∧ HpIs [Ob.cells [PV.int IntKind.u32 t], Ob.cells (List.flatten (List.map u1 l_1) ++ J)] [Ob.cells [PV.int IntKind.u32 cx], Ob.cells (List.flatten (List.map u1 l) ++ J_1)] ∧ List.length l ≤ 1000000 ∧ List.length l ≤ cap_1 ∧ Room J_1 (cap_1 - List.length l) ∧ (∀ (y : PV), y ∈ [PV.int IntKind.u32 cx] → Low 2 y) ∧ ∀ (J' : List PV), Room J' (cap_1 - List.length (List.filter (fun (v : Int) => !eqT cx v) l)) → K (PV.arr 1 0 (List.length (List.filter (fun (v : Int) => !eqT cx v) l)) cap_1) [Ob.cells [PV.int IntKind.u32 cx], Ob.cells (List.flatten (List.map u1 (List.filter (fun (v : Int) => !eqT cx v) l)) ++ J')]) ∨ ∃ (cx : Int), SlIs [PV.arr 1 0 (List.length l_1) cap, PV.fn 89 [PV.ptr 0 0]] [PV.list [] Tail.no, PV.fn 89 [PV.ptr 0 0]] ∧ HpIs [Ob.cells [PV.int IntKind.u32 t], Ob.cells (List.flatten (List.map u1 l_1) ++ J)] [Ob.cells [PV.int IntKind.u32 cx]] ∧ K (PV.list [] Tail.no) [Ob.cells [PV.int IntKind.u32 cx]])) : ACalls Try.prog gl 73 [.list (l.map u1) .no, .int .u32 t] [] K :=
  acalls_of_wpc2 (T := TWD) (L := []) (fun _ => 0) Try.func73 (by kernel_rfl) (by kernel_rfl) (by kernel_rfl) (TWD_ok) (LOk.nil _ _ _ _ _) (holds_of_eq (by kernel_rfl) h)
def woS (l : List Int) (t : Int) : List Int := l.filter (fun v => !eqT t v)
theorem woS_len (l : List Int) (t : Int) : (woS l t).length ≤ l.length := List.length_filter_le _ _
theorem mem_woS {l : List Int} {t x : Int} : x ∈ woS l t ↔ x ∈ l ∧ x ≠ t := by
  unfold woS eqT; rw [List.mem_filter]; simp
theorem woS_nodup {l : List Int} (h : l.Nodup) (t : Int) : (woS l t).Nodup := List.Pairwise.sublist List.filter_sublist h
theorem wo2_ok {l : List Int} (t : Int) (h : l.length ≤ 1000000) : ACalls Try.prog gl 73 [.list (l.map u1) .no, .int .u32 t] [] (fun x _ => x = .list ((woS l t).map u1) .no) := by
  by_cases e : l = []
  · refine acalls_to (wo2_vc l t (fun x _ => x = .list [] .no) ⟨l, .no, rfl, h, fun _ => ?_, fun hn => absurd e hn⟩) fun x H' k => ?_
    · exact .inr ⟨t, rfl, rfl, rfl⟩
    · rw [k]; unfold woS; rw [e]; rfl
  · refine acalls_freeze (wo2_vc l t _ ⟨l, .no, rfl, h, fun hn => absurd hn e, fun _ cap hc J hJ => ?_⟩)
    refine .inl ⟨t, l, J, cap, rfl, rfl, h, hc, hJ, low_one (.int _ _), fun J' hJ' => ?_⟩
    have hle := woS_len l t
    exact ⟨1, (woS l t).length, cap, 1, _, J', (woS l t).map u1, rfl, rfl, uni_map u1_len _, List.length_map _, by omega, rfl, rfl⟩
def wo_s (args : List PV) (K : PV → Prop) : Prop := ∃ (l : List Int) (tl : Tail) (t : Int), SlIs args [.list (l.map u1) tl, .int .u32 t] ∧ l.length ≤ 1000000 ∧ K (.list ((woS l t).map u1) .no)
theorem wo_ok : SpOk Try.prog gl 73 (.pure wo_s) := by
  rintro args K ⟨l, tl, t, he, h, hk⟩
  have he : args = _ := he
  subst he
  exact spure_w gl_low (.cons (.list _ _) (.cons (.refl _) .nil)) (low_two (low_us l) (.int _ _)) (low_us _) (wo2_ok t h) hk
-- the plain book: parties that rise by their ids
abbrev rowsP (w : List Pt) : List RwP := rowsOf Pt.id w
structure Pt.Sm (c : Pt) : Prop where
  ms : c.ms.length ≤ 1000000
  iv : c.iv.length ≤ 1000000
structure Pt.Ok (c : Pt) : Prop where
  rt : rightS c.id = true
  n1 : 1 ≤ c.ms.length
  n2 : 2 ≤ c.ms.length + c.iv.length
  n4 : c.ms.length + c.iv.length ≤ 4
  ld : c.ld ∈ c.ms
  mn : c.ms.Nodup
  vn : c.iv.Nodup
  dj : ∀ x ∈ c.ms, x ∉ c.iv
theorem Pt.Ok.sm {c : Pt} (h : c.Ok) : c.Sm := ⟨by have := h.n4; omega, by have := h.n4; omega⟩
structure PO (w : List Pt) (m : Int) : Prop where
  rise : Rise Pt.id w
  full : (w.length : Int) ≤ m
  big : m ≤ 1000000
  cs : ∀ c ∈ w, c.Ok
  one : ∀ a ∈ w, ∀ b ∈ w, ∀ x ∈ a.ms, x ∈ b.ms → a = b
theorem PO.sm {w : List Pt} {m : Int} (h : PO w m) (c : Pt) (hc : c ∈ w) : c.Sm := (h.cs c hc).sm
theorem PO.ok {w : List Pt} {m : Int} (h : PO w m) : Ok (rowsP w) m := h.rise.ok h.full h.big
theorem PO.len {w : List Pt} {m : Int} (h : PO w m) : w.length ≤ 1000000 := by have := h.full; have := h.big; omega
abbrev pt0 : Pt := ⟨0, 0, [], []⟩
theorem pt0_sm : pt0.Sm := ⟨(show (0 : Nat) ≤ 1000000 by decide), (show (0 : Nat) ≤ 1000000 by decide)⟩
theorem PO.getsm {w : List Pt} {m : Int} (h : PO w m) (t : Int) : (getG Pt.id w t).Sm := by
  cases c : hasG Pt.id w t with
  | true => exact h.sm _ (getG_mem c).1
  | false => rw [getG_none c]; exact pt0_sm
theorem low_pt {n : Nat} (c : Pt) : ∀ y ∈ c.cells, Low n y := low_four (.int _ _) (.int _ _) (low_list1 NT.no) (low_list1 NT.no)
theorem Pt.low (c : Pt) {n : Nat} : Low n c.pv := .agg _ (low_pt c)
theorem wk_pt {c : Pt} {t1 t2 : Tail} : Wk (.agg [.int .u32 c.id, .int .u32 c.ld, .list (en1 .u32 c.ms) t1, .list (en1 .u32 c.iv) t2]) c.pv := .agg (.cons (.refl _) (.cons (.refl _) (.cons (.list _ _) (.cons (.list _ _) .nil))))
theorem wk_ptt {c : Pt} {b : Bool} {t1 t2 : Tail} : Wk (.tup [.agg [.int .u32 c.id, .int .u32 c.ld, .list (en1 .u32 c.ms) t1, .list (en1 .u32 c.iv) t2], .bool b]) (.tup [c.pv, .bool b]) := .tup (.cons wk_pt (.cons (.refl _) .nil))
def ofP (w : List Pt) (p : Int) : Int := if w.findIdx (fun c => memB c.ms p) < w.length then (w.getD (w.findIdx (fun c => memB c.ms p)) default).id else 0
def TP0 : Tab := TMP [(48, .pure con_s)]
theorem TP0_ok : TabOk Try.prog gl TP0 := TMP_ok (.cons con_ok (.nil _ _))
theorem idsP (w : List Pt) : idsL (rowsP w) = (w.map Pt.id).map u1 := by simp [idsL, rowsOf, u1, Function.comp_def]
theorem pids1_vc (l : List RwP) (m : Int)  (K : PV → Heap → Prop) (h : ∃ (q : Nat), ∃ (l_1 : List RwP), ∃ (most : Int), SlIs [PV.ptr 1 0] [PV.ptr q 0] ∧ AbIs [Ob.cells [PV.ptr 1 0], Ob.abs (rkP l m)] q (rkP l_1 most) ∧ Ok l_1 most ∧ K (PV.list (idsL l_1) Tail.no) [Ob.cells [PV.ptr 1 0], Ob.abs (rkP l m)]) : ACalls Try.prog gl 34 [.ptr 0 0] [.cells [.ptr 1 0], .abs (rkP l m)] K :=
  acalls_of_wpc2 (T := TP0) (L := []) (fun _ => 0) Try.func34 (by kernel_rfl) (by kernel_rfl) (by kernel_rfl) (TP0_ok) (LOk.nil _ _ _ _ _) (holds_of_eq (by kernel_rfl) h)
def pids_s (args : List PV) (H : Heap) (K : PV → Prop) : Prop := ∃ (q r : Nat) (w : List Pt) (m : Int), SlIs args [.ptr q 0] ∧ BkIs H q r (rkP (rowsP w) m) ∧ PO w m ∧ K (.list ((w.map Pt.id).map u1) .no)
theorem pids_ok : SpOk Try.prog gl 34 (.read pids_s) := by
  rintro args H K ⟨q, r, w, m, he, hb, ro, hk⟩
  have he : args = _ := he
  subst he
  refine ⟨_, book_read gl_low hb low_zero (low_us _) (pids1_vc (rowsP w) m _ ⟨1, rowsP w, m, rfl, rfl, ro.ok, ?_⟩), hk⟩
  exact ⟨by rw [idsP], _, rfl⟩
def TP1 : Tab := (34, .read pids_s) :: TP0
theorem TP1_ok : TabOk Try.prog gl TP1 := .cons pids_ok TP0_ok
theorem pof_vc (w : List Pt) (m p : Int) (i : Nat) (R : Ex → List PV → Heap → Prop) (h : br (decide ((↑i : Int) < (↑(List.length w) : Int))) (InL (List.map u1 (List.map Pt.id w)) 1 (↑i : Int) ∧ br (true && fitX [CK.int IntKind.u32] 0 (List.getD (List.map u1 (List.map Pt.id w)) (Int.toNat (↑i : Int)) [])) (∃ (q : Nat), ∃ (l : List RwP), ∃ (most : Int), ∃ (t : Int), SlIs [PV.ptr 1 0, PV.int IntKind.u32 (cI (List.getD (List.map u1 (List.map Pt.id w)) (Int.toNat (↑i : Int)) []) 0)] [PV.ptr q 0, PV.int IntKind.u32 t] ∧ AbIs [Ob.cells [PV.ptr 1 0], Ob.abs (rkP (rowsP w) m)] q (rkP l most) ∧ Ok l most ∧ ∃ (l_1 : List Int), ∃ (tl : Tail), ∃ (t_1 : Int), SlIs [PV.list (en1 IntKind.u32 (Pt.ms (getR l t))) Tail.no, PV.int IntKind.u32 p] [PV.list (List.map u1 l_1) tl, PV.int IntKind.u32 t_1] ∧ List.length l_1 ≤ 1000000 ∧ br (memB l_1 t_1) (R Ex.ret [PV.ptr 0 0, PV.int IntKind.u32 p, PV.int IntKind.u32 (cI (List.getD (List.map u1 (List.map Pt.id w)) (Int.toNat (↑i : Int)) []) 0), PV.list (List.map u1 (List.map Pt.id w)) Tail.no, PV.int IntKind.i64 (↑(List.length w) : Int), PV.int IntKind.i64 (↑i : Int)] [Ob.cells [PV.ptr 1 0], Ob.abs (rkP (rowsP w) m), Ob.cells [PV.int IntKind.u32 (Pt.id (getR l t)), PV.int IntKind.u32 (Pt.ld (getR l t)), PV.list (en1 IntKind.u32 (Pt.ms (getR l t))) Tail.no, PV.list (en1 IntKind.u32 (Pt.iv (getR l t))) Tail.no]]) (R Ex.normal [PV.ptr 0 0, PV.int IntKind.u32 p, PV.int IntKind.u32 0, PV.list (List.map u1 (List.map Pt.id w)) Tail.no, PV.int IntKind.i64 (↑(List.length w) : Int), PV.int IntKind.i64 (wI ((↑i : Int) + 1))] [Ob.cells [PV.ptr 1 0], Ob.abs (rkP (rowsP w) m), Ob.cells [PV.int IntKind.u32 (Pt.id (getR l t)), PV.int IntKind.u32 (Pt.ld (getR l t)), PV.list (en1 IntKind.u32 (Pt.ms (getR l t))) Tail.no, PV.list (en1 IntKind.u32 (Pt.iv (getR l t))) Tail.no]])) False) (R (Ex.exit 0) [PV.ptr 0 0, PV.int IntKind.u32 p, PV.int IntKind.u32 0, PV.list (List.map u1 (List.map Pt.id w)) Tail.no, PV.int IntKind.i64 (↑(List.length w) : Int), PV.int IntKind.i64 (↑i : Int)] [Ob.cells [PV.ptr 1 0], Ob.abs (rkP (rowsP w) m)])) : Holds (wpc br Try.prog gl TP1 [] (fun _ => 0) (subOf [1, 0, 1, 0] (bodyOf Try.f30)) [] (envS [0, 1, 4, 10, 11, 12] [.ptr 0 0, .int .u32 p, .int .u32 0, .list ((w.map Pt.id).map u1) .no, .int .i64 w.length, .int .i64 i]) [.cells [.ptr 1 0], .abs (rkP (rowsP w) m)] (fun ex e H => R ex (List.map e [0, 1, 4, 10, 11, 12]) H)) := holds_of_eq (by kernel_rfl) h
theorem pids_at {w : List Pt} {i : Nat} (h : i < w.length) : ((w.map Pt.id).map u1).getD i [] = u1 (w.getD i default).id := by
  rw [List.map_map, getD_map default h]; rfl
theorem pids_in (w : List Pt) (i : Nat) : InL ((w.map Pt.id).map u1) 1 (i : Int) = (i < w.length) := by rw [inL_u1, List.length_map]
def pof_l : LSp := fun e H Q => ∃ (w : List Pt) (m p : Int), PO w m ∧ SlIs (List.map e [0, 1, 4, 10, 11, 12]) [.ptr 0 0, .int .u32 p, .int .u32 0, .list ((w.map Pt.id).map u1) .no, .int .i64 w.length, .int .i64 0] ∧ HpIs H [.cells [.ptr 1 0], .abs (rkP (rowsP w) m)] ∧
  (w.findIdx (fun c => memB c.ms p) < w.length → ∀ G, Q .ret (envS [0, 1, 4, 10, 11, 12] [.ptr 0 0, .int .u32 p, .int .u32 (ofP w p), .list ((w.map Pt.id).map u1) .no, .int .i64 w.length, .int .i64 (w.findIdx (fun c => memB c.ms p))]) ([.cells [.ptr 1 0], .abs (rkP (rowsP w) m)] ++ G)) ∧
  (w.findIdx (fun c => memB c.ms p) = w.length → Q (.exit 0) (envS [0, 1, 4, 10, 11, 12] [.ptr 0 0, .int .u32 p, .int .u32 0, .list ((w.map Pt.id).map u1) .no, .int .i64 w.length, .int .i64 w.length]) [.cells [.ptr 1 0], .abs (rkP (rowsP w) m)])
theorem pof_l_ok : ∀ e H Q, pof_l e H Q → AW Try.prog gl Try.f30.ntmps (.loop (subOf [1, 0, 1, 0] (bodyOf Try.f30))) Q e H := by
  rintro e H Q ⟨w, m, p, ro, he, hH, hQ1, hQ2⟩
  have hfl : w.findIdx (fun c => memB c.ms p) ≤ w.length := List.findIdx_le_length
  have hlen := ro.len
  refine aw_loop4 (hn := fun _ => 0) gl_low TP1_ok (.nil _ _ _ _ _) (σ := Nat) [0, 1, 4, 10, 11, 12] (fun i => i ≤ w.findIdx (fun c => memB c.ms p)) (fun i => [.ptr 0 0, .int .u32 p, .int .u32 0, .list ((w.map Pt.id).map u1) .no, .int .i64 w.length, .int .i64 i]) (fun _ => [.cells [.ptr 1 0], .abs (rkP (rowsP w) m)]) (fun i => w.length - i) 0 (Nat.zero_le _) he hH ?_
  intro i hi
  have hi' : i ≤ w.findIdx (fun c => memB c.ms p) := hi
  refine pof_vc w m p i _ ?_
  simp only [br_if, dt, pids_in, toNat_nat]
  by_cases h : i < w.length
  · rw [if_pos (by omega), pids_at h]
    refine ⟨h, ?_⟩
    rw [if_pos (by rfl)]
    obtain ⟨c, hcd⟩ : ∃ c, c = w.getD i default := ⟨_, rfl⟩
    have hcm : c ∈ w := by rw [hcd]; exact getD_mem h
    have hid : cI (u1 (w.getD i default).id) 0 = c.id := by rw [← hcd]; rfl
    rw [hid]
    have hg : getR (rowsP w) c.id = c := by rw [rowsOf_get ro.ok]; exact getG_of ro.rise hcm
    refine ⟨1, rowsP w, m, c.id, rfl, rfl, ro.ok, ?_⟩
    rw [hg]
    refine ⟨c.ms, .no, p, rfl, (ro.sm c hcm).ms, ?_⟩
    by_cases k : memB c.ms p = true
    · have hge : w.findIdx (fun c => memB c.ms p) = i := fidx_stop default hi' h (by rw [← hcd]; exact k)
      rw [if_pos k]
      have := hQ1 (by omega)
      unfold ofP at this
      rw [hge, if_pos h, ← hcd] at this
      exact this [_]
    · have hlt : i < w.findIdx (fun c => memB c.ms p) := fidx_step default hi' h (by rw [← hcd]; simpa using k)
      rw [if_neg k]
      exact ⟨i + 1, (show w.length - (i + 1) < w.length - i by omega), hlt, by rw [wI_succ h (by omega)], [_], rfl, Nat.le_refl _, .inr ⟨by
        intro v hv
        simp only [List.mem_cons, List.not_mem_nil, or_false] at hv
        rcases hv with rfl | rfl | rfl | rfl | rfl | rfl
        · exact .ptr _ _ (by simp)
        · exact .int _ _
        · exact .int _ _
        · exact low_us _
        · exact .int _ _
        · exact .int _ _, lowH_book _⟩⟩
  · rw [if_neg (by omega)]
    have : i = w.length := by omega
    subst this
    exact hQ2 (by omega)
theorem pof1_vc (w : List Pt) (m p : Int)  (K : PV → Heap → Prop) (h : ∃ (q : Nat), ∃ (r : Nat), ∃ (w_1 : List Pt), ∃ (m_1 : Int), SlIs [PV.ptr 0 0] [PV.ptr q 0] ∧ BkIs [Ob.cells [PV.ptr 1 0], Ob.abs (rkP (rowsP w) m)] q r (rkP (rowsP w_1) m_1) ∧ PO w_1 m_1 ∧ ∃ (w_2 : List Pt), ∃ (m_2 : Int), ∃ (p_1 : Int), PO w_2 m_2 ∧ SlIs [PV.ptr 0 0, PV.int IntKind.u32 p, PV.int IntKind.u32 0, PV.list (List.map u1 (List.map Pt.id w_1)) Tail.no, PV.int IntKind.i64 (↑(List.length (List.map u1 (List.map Pt.id w_1))) : Int), PV.int IntKind.i64 0] [PV.ptr 0 0, PV.int IntKind.u32 p_1, PV.int IntKind.u32 0, PV.list (List.map u1 (List.map Pt.id w_2)) Tail.no, PV.int IntKind.i64 (↑(List.length w_2) : Int), PV.int IntKind.i64 0] ∧ HpIs [Ob.cells [PV.ptr 1 0], Ob.abs (rkP (rowsP w) m)] [Ob.cells [PV.ptr 1 0], Ob.abs (rkP (rowsP w_2) m_2)] ∧ (List.findIdx (fun (c : Pt) => memB (Pt.ms c) p_1) w_2 < List.length w_2 → ∀ (G : List Ob), K (PV.int IntKind.u32 (ofP w_2 p_1)) ([Ob.cells [PV.ptr 1 0], Ob.abs (rkP (rowsP w_2) m_2)] ++ G)) ∧ (List.findIdx (fun (c : Pt) => memB (Pt.ms c) p_1) w_2 = List.length w_2 → K (PV.int IntKind.u32 0) [Ob.cells [PV.ptr 1 0], Ob.abs (rkP (rowsP w_2) m_2)])) : ACalls Try.prog gl 30 [.ptr 0 0, .int .u32 p] [.cells [.ptr 1 0], .abs (rkP (rowsP w) m)] K :=
  acalls_of_wpc2 (T := TP1) (L := [([1, 0, 1, 0], pof_l)]) (fun _ => 0) Try.func30 (by kernel_rfl) (by kernel_rfl) (by kernel_rfl) (TP1_ok) (.cons (sub_of (by kernel_rfl)) pof_l_ok (.nil _ _ _ _ _)) (holds_of_eq (by kernel_rfl) h)
def pof_s (args : List PV) (H : Heap) (K : PV → Prop) : Prop := ∃ (q r : Nat) (w : List Pt) (m p : Int), SlIs args [.ptr q 0, .int .u32 p] ∧ BkIs H q r (rkP (rowsP w) m) ∧ PO w m ∧ K (.int .u32 (ofP w p))
theorem pof_ok : SpOk Try.prog gl 30 (.read pof_s) := by
  rintro args H K ⟨q, r, w, m, p, he, hb, ro, hk⟩
  have he : args = _ := he
  subst he
  refine ⟨_, book_read gl_low hb low0_int (.int _ _) (pof1_vc w m p _ ⟨0, 1, w, m, rfl, ⟨rfl, rfl⟩, ro, w, m, p, ro, (by show _ = _; simp only [List.length_map]), rfl, fun h G => ?_, fun h => ?_⟩), hk⟩
  · exact ⟨rfl, _, rfl⟩
  · refine ⟨?_, [], rfl⟩
    unfold ofP
    rw [if_neg (by omega)]
end Go.Proofs.Ythabdpaipgclpaa
