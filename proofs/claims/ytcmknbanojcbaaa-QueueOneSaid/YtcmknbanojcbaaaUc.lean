/-
  Rows of tickets: searched, put into, taken out of.
-/
import Derived.Test.YtcmknbanojcbaaaUb
import Derived.Test.YtcmknbanojcbaaaProg
namespace Go.Proofs.Ytcmknbanojcbaaa
open Go Go.AM Go.Proofs
structure LbT (l : List Tk) (t : Tk) (p : Nat) : Prop where
  le : p ≤ l.length
  lo : ∀ k, k < p → ordS (l.getD k default) t < 0
  hi : ∀ k, p ≤ k → k < l.length → ¬ ordS (l.getD k default) t < 0
def hitT (l : List Tk) (t : Tk) (p : Nat) : Bool := decide (p < l.length ∧ ordS (l.getD p default) t = 0)
def TBS : Tab := [(74, .pure ord_s)]
theorem TBS_ok : TabOk Try.prog gl TBS := .cons ord_ok (.nil _ _)
theorem bsl_vc (l : List Tk) (J : List PV) (cap : Nat) (sz : List Int) (t : Tk) (i j : Nat) (R : Ex → List PV → Heap → Prop) (h : br (decide ((↑i : Int) < (↑j : Int))) ((0 ≤ wI (Int.fdiv (IntKind.wrap IntKind.u64 (wI ((↑i : Int) + (↑j : Int)))) 2) ∧ wI (Int.fdiv (IntKind.wrap IntKind.u64 (wI ((↑i : Int) + (↑j : Int)))) 2) < (↑(List.length l) : Int)) ∧ br (true && fitX [CK.int IntKind.u32, CK.int IntKind.i64, CK.list, CK.int IntKind.i64, CK.int IntKind.i64] 0 (List.drop (0 + Int.toNat (wI (Int.fdiv (IntKind.wrap IntKind.u64 (wI ((↑i : Int) + (↑j : Int)))) 2)) * 5) (flT l ++ J))) (∃ (a : Tk), ∃ (b : Tk), SlIs [PV.agg [PV.int IntKind.u32 (cI (List.drop (0 + Int.toNat (wI (Int.fdiv (IntKind.wrap IntKind.u64 (wI ((↑i : Int) + (↑j : Int)))) 2)) * 5) (flT l ++ J)) 0), PV.int IntKind.i64 (cI (List.drop (0 + Int.toNat (wI (Int.fdiv (IntKind.wrap IntKind.u64 (wI ((↑i : Int) + (↑j : Int)))) 2)) * 5) (flT l ++ J)) 1), PV.list (cL (List.drop (0 + Int.toNat (wI (Int.fdiv (IntKind.wrap IntKind.u64 (wI ((↑i : Int) + (↑j : Int)))) 2)) * 5) (flT l ++ J)) 2) (cT (List.drop (0 + Int.toNat (wI (Int.fdiv (IntKind.wrap IntKind.u64 (wI ((↑i : Int) + (↑j : Int)))) 2)) * 5) (flT l ++ J)) 2), PV.int IntKind.i64 (cI (List.drop (0 + Int.toNat (wI (Int.fdiv (IntKind.wrap IntKind.u64 (wI ((↑i : Int) + (↑j : Int)))) 2)) * 5) (flT l ++ J)) 3), PV.int IntKind.i64 (cI (List.drop (0 + Int.toNat (wI (Int.fdiv (IntKind.wrap IntKind.u64 (wI ((↑i : Int) + (↑j : Int)))) 2)) * 5) (flT l ++ J)) 4)], PV.agg [PV.int IntKind.u32 (Tk.id t), PV.int IntKind.i64 (Tk.md t), PV.list (List.map u1 (Tk.pl t)) Tail.no, PV.int IntKind.i64 (Tk.rt t), PV.int IntKind.i64 (Tk.si t)]] [PV.agg [PV.int IntKind.u32 (Tk.id a), PV.int IntKind.i64 (Tk.md a), PV.list (List.map u1 (Tk.pl a)) Tail.no, PV.int IntKind.i64 (Tk.rt a), PV.int IntKind.i64 (Tk.si a)], PV.agg [PV.int IntKind.u32 (Tk.id b), PV.int IntKind.i64 (Tk.md b), PV.list (List.map u1 (Tk.pl b)) Tail.no, PV.int IntKind.i64 (Tk.rt b), PV.int IntKind.i64 (Tk.si b)]] ∧ br (decide (ordS a b < 0)) (R Ex.normal [PV.arr 1 0 (List.length l) cap, PV.fn 74 [], PV.ptr 2 0, PV.int IntKind.i64 (↑(List.length l) : Int), PV.int IntKind.i64 (wI (wI (Int.fdiv (IntKind.wrap IntKind.u64 (wI ((↑i : Int) + (↑j : Int)))) 2) + 1)), PV.int IntKind.i64 (↑j : Int)] [Ob.cells [PV.arr 1 0 (List.length l) cap, PV.list (List.map i1 sz) Tail.no], Ob.cells (flT l ++ J), Ob.cells [PV.int IntKind.u32 (Tk.id t), PV.int IntKind.i64 (Tk.md t), PV.list (List.map u1 (Tk.pl t)) Tail.no, PV.int IntKind.i64 (Tk.rt t), PV.int IntKind.i64 (Tk.si t)]]) (R Ex.normal [PV.arr 1 0 (List.length l) cap, PV.fn 74 [], PV.ptr 2 0, PV.int IntKind.i64 (↑(List.length l) : Int), PV.int IntKind.i64 (↑i : Int), PV.int IntKind.i64 (wI (Int.fdiv (IntKind.wrap IntKind.u64 (wI ((↑i : Int) + (↑j : Int)))) 2))] [Ob.cells [PV.arr 1 0 (List.length l) cap, PV.list (List.map i1 sz) Tail.no], Ob.cells (flT l ++ J), Ob.cells [PV.int IntKind.u32 (Tk.id t), PV.int IntKind.i64 (Tk.md t), PV.list (List.map u1 (Tk.pl t)) Tail.no, PV.int IntKind.i64 (Tk.rt t), PV.int IntKind.i64 (Tk.si t)]])) False) (R (Ex.exit 0) [PV.arr 1 0 (List.length l) cap, PV.fn 74 [], PV.ptr 2 0, PV.int IntKind.i64 (↑(List.length l) : Int), PV.int IntKind.i64 (↑i : Int), PV.int IntKind.i64 (↑j : Int)] [Ob.cells [PV.arr 1 0 (List.length l) cap, PV.list (List.map i1 sz) Tail.no], Ob.cells (flT l ++ J), Ob.cells [PV.int IntKind.u32 (Tk.id t), PV.int IntKind.i64 (Tk.md t), PV.list (List.map u1 (Tk.pl t)) Tail.no, PV.int IntKind.i64 (Tk.rt t), PV.int IntKind.i64 (Tk.si t)]])) : Holds (wpc br Try.prog gl TBS [] (fun _ => 0) (subOf [1, 1, 1, 0, 0] (bodyOf Try.f73)) [] (envS [0, 2, 4, 8, 9, 10] [.arr 1 0 l.length cap, .fn 74 [], .ptr 2 0, .int .i64 l.length, .int .i64 i, .int .i64 j]) [.cells [.arr 1 0 l.length cap, .list (sz.map i1) .no], .cells (flT l ++ J), .cells t.cells] (fun ex e H => R ex (List.map e [0, 2, 4, 8, 9, 10]) H)) := holds_of_eq (by kernel_rfl) h
theorem bsm_vc (H : Heap) (R : Ex → List PV → Heap → Prop) (h : R (Ex.exit 0) [PV.list [] Tail.exact, PV.fn 74 [], PV.ptr 1 0, PV.int IntKind.i64 0, PV.int IntKind.i64 0, PV.int IntKind.i64 0] H) : Holds (wpc br Try.prog gl TBS [] (fun _ => 0) (subOf [1, 1, 1, 0, 0] (bodyOf Try.f73)) [] (envS [0, 2, 4, 8, 9, 10] [.list [] .exact, .fn 74 [], .ptr 1 0, .int .i64 0, .int .i64 0, .int .i64 0]) H (fun ex e H => R ex (List.map e [0, 2, 4, 8, 9, 10]) H)) := holds_of_eq (by kernel_rfl) h
def bs_l : LSp := fun e H Q =>
  (∃ (l : List Tk) (J : List PV) (cap : Nat) (sz : List Int) (t : Tk) (p : Nat), LbT l t p ∧ l.length ≤ 1000000 ∧ SlIs (List.map e [0, 2, 4, 8, 9, 10]) [.arr 1 0 l.length cap, .fn 74 [], .ptr 2 0, .int .i64 l.length, .int .i64 0, .int .i64 l.length] ∧ HpIs H (hpQ l J cap sz ++ [.cells t.cells]) ∧
    Q (.exit 0) (envS [0, 2, 4, 8, 9, 10] [.arr 1 0 l.length cap, .fn 74 [], .ptr 2 0, .int .i64 l.length, .int .i64 p, .int .i64 p]) (hpQ l J cap sz ++ [.cells t.cells])) ∨
  (SlIs (List.map e [0, 2, 4, 8, 9, 10]) [.list [] .exact, .fn 74 [], .ptr 1 0, .int .i64 0, .int .i64 0, .int .i64 0] ∧ Q (.exit 0) (envS [0, 2, 4, 8, 9, 10] [.list [] .exact, .fn 74 [], .ptr 1 0, .int .i64 0, .int .i64 0, .int .i64 0]) H)
theorem bs_l_ok : ∀ e H Q, bs_l e H Q → AW Try.prog gl Try.f73.ntmps (.loop (subOf [1, 1, 1, 0, 0] (bodyOf Try.f73))) Q e H := by
  rintro e H Q (⟨l, J, cap, sz, t, p, hp, hl, he, hH, hQ⟩ | ⟨he, hQ⟩)
  · refine aw_loop4 (hn := fun _ => 0) gl_low TBS_ok (.nil _ _ _ _ _) (σ := Nat × Nat) [0, 2, 4, 8, 9, 10] (fun s => s.1 ≤ p ∧ p ≤ s.2 ∧ s.2 ≤ l.length)
      (fun s => [.arr 1 0 l.length cap, .fn 74 [], .ptr 2 0, .int .i64 l.length, .int .i64 s.1, .int .i64 s.2]) (fun _ => hpQ l J cap sz ++ [Ob.cells t.cells]) (fun s => s.2 - s.1) (0, l.length) ⟨Nat.zero_le _, hp.le, Nat.le_refl _⟩ he hH ?_
    rintro ⟨i, j⟩ ⟨h1, h2, h3⟩
    simp only at h1 h2 h3
    refine bsl_vc l J cap sz t i j _ ?_
    simp only [br_if, dt]
    by_cases h : i < j
    · rw [if_pos (by omega)]
      obtain ⟨k, hk⟩ : ∃ k, k = (i + j) / 2 := ⟨_, rfl⟩
      have e1 : wI (Int.fdiv (IntKind.wrap .u64 (wI ((i : Int) + j))) 2) = (k : Int) := by
        rw [w_small (n := (i : Int) + j) (by omega) (by omega), wrap_u64 (by omega) (by omega), Int.fdiv_eq_ediv_of_nonneg _ (by decide), w_small (by omega) (by omega)]
        omega
      simp only [e1, toNat_nat, Nat.zero_add]
      have hkl : k < l.length := by omega
      rw [flT_at J hkl]
      refine ⟨⟨by omega, by omega⟩, ?_⟩
      rw [if_pos (by rfl)]
      refine ⟨l.getD k default, t, rfl, ?_⟩
      by_cases c : ordS (l.getD k default) t < 0
      · rw [if_pos c]
        have hkp : k < p := by
          rcases Nat.lt_or_ge k p with q | q
          · exact q
          · exact absurd c (hp.hi k q hkl)
        exact ⟨(k + 1, j), (show j - (k + 1) < j - i by omega), ⟨hkp, h2, h3⟩, by rw [wI_succ hkl (by omega)], [], rfl, Nat.le_refl _, .inl rfl⟩
      · rw [if_neg c]
        have hkp : p ≤ k := by
          rcases Nat.lt_or_ge k p with q | q
          · exact absurd (hp.lo k q) c
          · exact q
        exact ⟨(i, k), (show k - i < j - i by omega), ⟨h1, hkp, by omega⟩, rfl, [], rfl, Nat.le_refl _, .inl rfl⟩
    · rw [if_neg (by omega)]
      have e1 : i = p := by omega
      have e2 : j = p := by omega
      subst e1
      subst e2
      exact hQ
  · refine aw_loop4 (hn := fun _ => 0) gl_low TBS_ok (.nil _ _ _ _ _) (σ := Unit) [0, 2, 4, 8, 9, 10] (fun _ => True)
      (fun _ => [.list [] .exact, .fn 74 [], .ptr 1 0, .int .i64 0, .int .i64 0, .int .i64 0]) (fun _ => H) (fun _ => 0) () trivial he rfl ?_
    intro _ _
    exact bsm_vc H _ hQ
theorem bsfA_vc (l : List Tk) (J : List PV) (cap : Nat) (sz : List Int) (t : Tk)  (K : PV → Heap → Prop) (h : (∃ (l_1 : List Tk), ∃ (J_1 : List PV), ∃ (cap_1 : Nat), ∃ (sz_1 : List Int), ∃ (t_1 : Tk), ∃ (p : Nat), LbT l_1 t_1 p ∧ List.length l_1 ≤ 1000000 ∧ SlIs [PV.arr 1 0 (List.length l) cap, PV.fn 74 [], PV.ptr 2 0, PV.int IntKind.i64 (↑(List.length l) : Int), PV.int IntKind.i64 0, PV.int IntKind.i64 (↑(List.length l) : Int)] [PV.arr 1 0 (List.length l_1) cap_1, PV.fn 74 [], PV.ptr 2 0, PV.int IntKind.i64 (↑(List.length l_1) : Int), PV.int IntKind.i64 0, PV.int IntKind.i64 (↑(List.length l_1) : Int)] ∧ HpIs [Ob.cells [PV.arr 1 0 (List.length l) cap, PV.list (List.map i1 sz) Tail.no], Ob.cells (flT l ++ J), Ob.cells [PV.int IntKind.u32 (Tk.id t), PV.int IntKind.i64 (Tk.md t), PV.list (List.map u1 (Tk.pl t)) Tail.no, PV.int IntKind.i64 (Tk.rt t), PV.int IntKind.i64 (Tk.si t)]] [Ob.cells [PV.arr 1 0 (List.length l_1) cap_1, PV.list (List.map i1 sz_1) Tail.no], Ob.cells (flT l_1 ++ J_1), Ob.cells [PV.int IntKind.u32 (Tk.id t_1), PV.int IntKind.i64 (Tk.md t_1), PV.list (List.map u1 (Tk.pl t_1)) Tail.no, PV.int IntKind.i64 (Tk.rt t_1), PV.int IntKind.i64 (Tk.si t_1)]] ∧ br (decide ((↑p : Int) < (↑(List.length l_1) : Int)) == true) ((0 ≤ (↑p : Int) ∧ (↑p : Int) < (↑(List.length l_1) : Int)) ∧ br (true && fitX [CK.int IntKind.u32, CK.int IntKind.i64, CK.list, CK.int IntKind.i64, CK.int IntKind.i64] 0 (List.drop (0 + Int.toNat (↑p : Int) * 5) (flT l_1 ++ J_1))) (∃ (a : Tk), ∃ (b : Tk), SlIs [PV.agg [PV.int IntKind.u32 (cI (List.drop (0 + Int.toNat (↑p : Int) * 5) (flT l_1 ++ J_1)) 0), PV.int IntKind.i64 (cI (List.drop (0 + Int.toNat (↑p : Int) * 5) (flT l_1 ++ J_1)) 1), PV.list (cL (List.drop (0 + Int.toNat (↑p : Int) * 5) (flT l_1 ++ J_1)) 2) (cT (List.drop (0 + Int.toNat (↑p : Int) * 5) (flT l_1 ++ J_1)) 2), PV.int IntKind.i64 (cI (List.drop (0 + Int.toNat (↑p : Int) * 5) (flT l_1 ++ J_1)) 3), PV.int IntKind.i64 (cI (List.drop (0 + Int.toNat (↑p : Int) * 5) (flT l_1 ++ J_1)) 4)], PV.agg [PV.int IntKind.u32 (Tk.id t_1), PV.int IntKind.i64 (Tk.md t_1), PV.list (List.map u1 (Tk.pl t_1)) Tail.no, PV.int IntKind.i64 (Tk.rt t_1), PV.int IntKind.i64 (Tk.si t_1)]] [PV.agg [PV.int IntKind.u32 (Tk.id a), PV.int IntKind.i64 (Tk.md a), PV.list (List.map u1 (Tk.pl a)) Tail.no, PV.int IntKind.i64 (Tk.rt a), PV.int IntKind.i64 (Tk.si a)], PV.agg [PV.int IntKind.u32 (Tk.id b), PV.int IntKind.i64 (Tk.md b), PV.list (List.map u1 (Tk.pl b)) Tail.no, PV.int IntKind.i64 (Tk.rt b), PV.int IntKind.i64 (Tk.si b)]] ∧ K (PV.tup [PV.int IntKind.i64 (↑p : Int), PV.bool (ordS a b == 0)]) [Ob.cells [PV.arr 1 0 (List.length l_1) cap_1, PV.list (List.map i1 sz_1) Tail.no], Ob.cells (flT l_1 ++ J_1), Ob.cells [PV.int IntKind.u32 (Tk.id t_1), PV.int IntKind.i64 (Tk.md t_1), PV.list (List.map u1 (Tk.pl t_1)) Tail.no, PV.int IntKind.i64 (Tk.rt t_1), PV.int IntKind.i64 (Tk.si t_1)]]) False) (K (PV.tup [PV.int IntKind.i64 (↑p : Int), PV.bool false]) [Ob.cells [PV.arr 1 0 (List.length l_1) cap_1, PV.list (List.map i1 sz_1) Tail.no], Ob.cells (flT l_1 ++ J_1), Ob.cells [PV.int IntKind.u32 (Tk.id t_1), PV.int IntKind.i64 (Tk.md t_1), PV.list (List.map u1 (Tk.pl t_1)) Tail.no, PV.int IntKind.i64 (Tk.rt t_1), PV.int IntKind.i64 (Tk.si t_1)]])) ∨ SlIs [PV.arr 1 0 (List.length l) cap, PV.fn 74 [], PV.ptr 2 0, PV.int IntKind.i64 (↑(List.length l) : Int), PV.int IntKind.i64 0, PV.int IntKind.i64 (↑(List.length l) : Int)] [PV.list [] Tail.exact, PV.fn 74 [], PV.ptr 1 0, PV.int IntKind.i64 0, PV.int IntKind.i64 0, PV.int IntKind.i64 0] ∧ K (PV.tup [PV.int IntKind.i64 0, PV.bool false]) [Ob.cells [PV.arr 1 0 (List.length l) cap, PV.list (List.map i1 sz) Tail.no], Ob.cells (flT l ++ J), Ob.cells [PV.int IntKind.u32 (Tk.id t), PV.int IntKind.i64 (Tk.md t), PV.list (List.map u1 (Tk.pl t)) Tail.no, PV.int IntKind.i64 (Tk.rt t), PV.int IntKind.i64 (Tk.si t)]]) : ACalls Try.prog gl 73 [.arr 1 0 l.length cap, t.pv, .fn 74 []] [.cells [.arr 1 0 l.length cap, .list (sz.map i1) .no], .cells (flT l ++ J)] K :=
  acalls_of_wpc2 (T := TBS) (L := [([1, 1, 1, 0, 0], bs_l)]) (fun _ => 0) Try.func73 (by kernel_rfl) (by kernel_rfl) (by kernel_rfl) (TBS_ok) (.cons (sub_of (by kernel_rfl)) bs_l_ok (.nil _ _ _ _ _)) (holds_of_eq (by kernel_rfl) h)
theorem bsfN_vc (sz : List Int) (t : Tk)  (K : PV → Heap → Prop) (h : (∃ (l : List Tk), ∃ (J : List PV), ∃ (cap : Nat), ∃ (sz_1 : List Int), ∃ (t_1 : Tk), ∃ (p : Nat), LbT l t_1 p ∧ List.length l ≤ 1000000 ∧ SlIs [PV.list [] Tail.exact, PV.fn 74 [], PV.ptr 1 0, PV.int IntKind.i64 0, PV.int IntKind.i64 0, PV.int IntKind.i64 0] [PV.arr 1 0 (List.length l) cap, PV.fn 74 [], PV.ptr 2 0, PV.int IntKind.i64 (↑(List.length l) : Int), PV.int IntKind.i64 0, PV.int IntKind.i64 (↑(List.length l) : Int)] ∧ HpIs [Ob.cells [PV.list [] Tail.exact, PV.list (List.map i1 sz) Tail.no], Ob.cells [PV.int IntKind.u32 (Tk.id t), PV.int IntKind.i64 (Tk.md t), PV.list (List.map u1 (Tk.pl t)) Tail.no, PV.int IntKind.i64 (Tk.rt t), PV.int IntKind.i64 (Tk.si t)]] [Ob.cells [PV.arr 1 0 (List.length l) cap, PV.list (List.map i1 sz_1) Tail.no], Ob.cells (flT l ++ J), Ob.cells [PV.int IntKind.u32 (Tk.id t_1), PV.int IntKind.i64 (Tk.md t_1), PV.list (List.map u1 (Tk.pl t_1)) Tail.no, PV.int IntKind.i64 (Tk.rt t_1), PV.int IntKind.i64 (Tk.si t_1)]] ∧ br (decide ((↑p : Int) < (↑(List.length l) : Int)) == true) ((0 ≤ (↑p : Int) ∧ (↑p : Int) < (↑(List.length l) : Int)) ∧ br (true && fitX [CK.int IntKind.u32, CK.int IntKind.i64, CK.list, CK.int IntKind.i64, CK.int IntKind.i64] 0 (List.drop (0 + Int.toNat (↑p : Int) * 5) (flT l ++ J))) (∃ (a : Tk), ∃ (b : Tk), SlIs [PV.agg [PV.int IntKind.u32 (cI (List.drop (0 + Int.toNat (↑p : Int) * 5) (flT l ++ J)) 0), PV.int IntKind.i64 (cI (List.drop (0 + Int.toNat (↑p : Int) * 5) (flT l ++ J)) 1), PV.list (cL (List.drop (0 + Int.toNat (↑p : Int) * 5) (flT l ++ J)) 2) (cT (List.drop (0 + Int.toNat (↑p : Int) * 5) (flT l ++ J)) 2), PV.int IntKind.i64 (cI (List.drop (0 + Int.toNat (↑p : Int) * 5) (flT l ++ J)) 3), PV.int IntKind.i64 (cI (List.drop (0 + Int.toNat (↑p : Int) * 5) (flT l ++ J)) 4)], PV.agg [PV.int IntKind.u32 (Tk.id t_1), PV.int IntKind.i64 (Tk.md t_1), PV.list (List.map u1 (Tk.pl t_1)) Tail.no, PV.int IntKind.i64 (Tk.rt t_1), PV.int IntKind.i64 (Tk.si t_1)]] [PV.agg [PV.int IntKind.u32 (Tk.id a), PV.int IntKind.i64 (Tk.md a), PV.list (List.map u1 (Tk.pl a)) Tail.no, PV.int IntKind.i64 (Tk.rt a), PV.int IntKind.i64 (Tk.si a)], PV.agg [PV.int IntKind.u32 (Tk.id b), PV.int IntKind.i64 (Tk.md b), PV.list (List.map u1 (Tk.pl b)) Tail.no, PV.int IntKind.i64 (Tk.rt b), PV.int IntKind.i64 (Tk.si b)]] ∧ K (PV.tup [PV.int IntKind.i64 (↑p : Int), PV.bool (ordS a b == 0)]) [Ob.cells [PV.arr 1 0 (List.length l) cap, PV.list (List.map i1 sz_1) Tail.no], Ob.cells (flT l ++ J), Ob.cells [PV.int IntKind.u32 (Tk.id t_1), PV.int IntKind.i64 (Tk.md t_1), PV.list (List.map u1 (Tk.pl t_1)) Tail.no, PV.int IntKind.i64 (Tk.rt t_1), PV.int IntKind.i64 (Tk.si t_1)]]) False) (K (PV.tup [PV.int IntKind.i64 (↑p : Int), PV.bool false]) [Ob.cells [PV.arr 1 0 (List.length l) cap, PV.list (List.map i1 sz_1) Tail.no], Ob.cells (flT l ++ J), Ob.cells [PV.int IntKind.u32 (Tk.id t_1), PV.int IntKind.i64 (Tk.md t_1), PV.list (List.map u1 (Tk.pl t_1)) Tail.no, PV.int IntKind.i64 (Tk.rt t_1), PV.int IntKind.i64 (Tk.si t_1)]])) ∨ SlIs [PV.list [] Tail.exact, PV.fn 74 [], PV.ptr 1 0, PV.int IntKind.i64 0, PV.int IntKind.i64 0, PV.int IntKind.i64 0] [PV.list [] Tail.exact, PV.fn 74 [], PV.ptr 1 0, PV.int IntKind.i64 0, PV.int IntKind.i64 0, PV.int IntKind.i64 0] ∧ K (PV.tup [PV.int IntKind.i64 0, PV.bool false]) [Ob.cells [PV.list [] Tail.exact, PV.list (List.map i1 sz) Tail.no], Ob.cells [PV.int IntKind.u32 (Tk.id t), PV.int IntKind.i64 (Tk.md t), PV.list (List.map u1 (Tk.pl t)) Tail.no, PV.int IntKind.i64 (Tk.rt t), PV.int IntKind.i64 (Tk.si t)]]) : ACalls Try.prog gl 73 [.list [] .exact, t.pv, .fn 74 []] [.cells [.list [] .exact, .list (sz.map i1) .no]] K :=
  acalls_of_wpc2 (T := TBS) (L := [([1, 1, 1, 0, 0], bs_l)]) (fun _ => 0) Try.func73 (by kernel_rfl) (by kernel_rfl) (by kernel_rfl) (TBS_ok) (.cons (sub_of (by kernel_rfl)) bs_l_ok (.nil _ _ _ _ _)) (holds_of_eq (by kernel_rfl) h)
def bsT_s (args : List PV) (H : Heap) (K : PV → Prop) : Prop :=
  (∃ (l : List Tk) (J : List PV) (cap : Nat) (sz : List Int) (t : Tk) (p : Nat) (Z : Heap), SlIs args [.arr 1 0 l.length cap, .agg [.int .u32 t.id, .int .i64 t.md, .list (t.pl.map u1) .no, .int .i64 t.rt, .int .i64 t.si], .fn 74 []] ∧ HpIs H (hpQ l J cap sz ++ Z) ∧ (∀ y ∈ J, Low 0 y) ∧ l.length ≤ 1000000 ∧ LbT l t p ∧ K (.tup [.int .i64 p, .bool (hitT l t p)])) ∨
  (∃ (sz : List Int) (t : Tk) (Z : Heap), SlIs args [.list [] .exact, .agg [.int .u32 t.id, .int .i64 t.md, .list (t.pl.map u1) .no, .int .i64 t.rt, .int .i64 t.si], .fn 74 []] ∧ HpIs H (hpE sz ++ Z) ∧ K (.tup [.int .i64 0, .bool false]))
theorem low_ib (n : Int) (b : Bool) : Low 0 (.tup [.int .i64 n, .bool b]) := .tup _ (low_two (.int _ _) (.bool _))
theorem bsT_ok : SpOk Try.prog gl 73 (.read bsT_s) := by
  rintro args H K (⟨l, J, cap, sz, t, p, Z, he, hH, hJ, hl, hp, hk⟩ | ⟨sz, t, Z, he, hH, hk⟩)
  · have he : args = _ := he
    have hH : H = _ := hH
    subst he
    subst hH
    refine ⟨_, read_tail gl_low (r := .tup [.int .i64 p, .bool (hitT l t p)]) (by intro y hy; simp only [List.mem_cons, List.not_mem_nil, or_false] at hy; rcases hy with rfl | rfl | rfl; exact .arr _ _ _ _ (by simp [hpQ]); exact .low t.low; exact .low (low_fn0 _)) (hpQ_lid (by simp [hpQ]) hJ) (low_ib _ _) (ACalls.same (low_ib _ _).up ?_), hk⟩
    refine bsfA_vc l J cap sz t _ (.inl ⟨l, J, cap, sz, t, p, hp, hl, rfl, rfl, ?_⟩)
    simp only [br_if, bt, dt]
    by_cases c : p < l.length
    · rw [if_pos (by omega)]
      simp only [toNat_nat, Nat.zero_add]
      rw [flT_at J c]
      refine ⟨⟨by omega, by omega⟩, ?_⟩
      rw [if_pos (by rfl)]
      refine ⟨l.getD p default, t, rfl, ?_, [_], rfl⟩
      unfold hitT
      have e : (ordS (l.getD p default) t == 0) = decide (p < l.length ∧ ordS (l.getD p default) t = 0) := by
        rw [Bool.eq_iff_iff, beq_iff_eq, decide_eq_true_eq]
        exact ⟨fun h => ⟨c, h⟩, fun h => h.2⟩
      rw [e]
    · rw [if_neg (by omega)]
      unfold hitT
      rw [decide_eq_false (fun h => c h.1)]
      exact ⟨rfl, [_], rfl⟩
  · have he : args = _ := he
    have hH : H = _ := hH
    subst he
    subst hH
    refine ⟨_, read_tail gl_low (r := .tup [.int .i64 0, .bool false]) (by intro y hy; simp only [List.mem_cons, List.not_mem_nil, or_false] at hy; rcases hy with rfl | rfl | rfl; exact .low (low_list NT.exact (fun _ h => nomatch h)); exact .low t.low; exact .low (low_fn0 _)) hpE_lid (low_ib _ _) (ACalls.same (low_ib _ _).up ?_), hk⟩
    exact bsfN_vc sz t _ (.inr ⟨rfl, rfl, [_], rfl⟩)
theorem ovlT_ok : SpOk Try.prog gl 102 (.ext overlaps_s) :=
  overlaps_ok (t := 82) (e := 80) (b := true) (sz := 5) Try.func102 (by kernel_rfl) (by kernel_rfl) (by kernel_rfl) (by kernel_rfl) (by kernel_rfl) (by kernel_rfl) (by kernel_rfl)
def TIT : Tab := [(102, .ext overlaps_s)]
theorem TIT_ok : TabOk Try.prog gl TIT := .cons ovlT_ok (.nil _ _)
theorem insAT_vc (l : List Tk) (J : List PV) (cap : Nat) (sz : List Int) (r : Tk) (p : Nat)  (K : PV → Heap → Prop) (h : (0 ≤ (↑p : Int) ∧ (↑p : Int) ≤ (↑(List.length l) : Int) ∧ (↑(List.length l) : Int) ≤ (↑cap : Int) ∧ (↑cap : Int) ≤ (↑cap : Int)) ∧ br ((↑p : Int) == (↑(List.length l) : Int)) ((List.length l ≤ cap ∧ 0 + cap * 5 ≤ List.length (flT l ++ J) ∧ 5 = 5 ∧ List.all [PV.int IntKind.u32 (Tk.id r), PV.int IntKind.i64 (Tk.md r), PV.list (List.map u1 (Tk.pl r)) Tail.no, PV.int IntKind.i64 (Tk.rt r), PV.int IntKind.i64 (Tk.si r)] PV.one = true ∧ (List.length l + 1) * 56 ≤ 140737488355328) ∧ (List.length l + 1 ≤ cap → K (PV.arr 1 0 (List.length l + 1) cap) [Ob.cells [PV.arr 1 0 (List.length l) cap, PV.list (List.map i1 sz) Tail.no], Ob.cells (over (flT l ++ J) (0 + List.length l * 5) [PV.int IntKind.u32 (Tk.id r), PV.int IntKind.i64 (Tk.md r), PV.list (List.map u1 (Tk.pl r)) Tail.no, PV.int IntKind.i64 (Tk.rt r), PV.int IntKind.i64 (Tk.si r)])]) ∧ (cap < List.length l + 1 → ∀ (c : Nat), List.length l + 1 ≤ c → K (PV.arr 2 0 (List.length l + 1) c) [Ob.cells [PV.arr 1 0 (List.length l) cap, PV.list (List.map i1 sz) Tail.no], Ob.cells (flT l ++ J), Ob.cells (List.take (List.length l * 5) (List.drop 0 (flT l ++ J)) ++ [PV.int IntKind.u32 (Tk.id r), PV.int IntKind.i64 (Tk.md r), PV.list (List.map u1 (Tk.pl r)) Tail.no, PV.int IntKind.i64 (Tk.rt r), PV.int IntKind.i64 (Tk.si r)] ++ List.flatten (List.replicate (c - (List.length l + 1)) [PV.int IntKind.u32 0, PV.int IntKind.i64 0, PV.list [] Tail.exact, PV.int IntKind.i64 0, PV.int IntKind.i64 0]))])) (br (decide (wI ((↑(List.length l) : Int) + (↑1 : Int)) > (↑cap : Int))) ((iI 0 ≤ 0 ∧ 0 ≤ (↑p : Int) ∧ (↑p : Int) ≤ (↑cap : Int) ∧ (↑cap : Int) ≤ (↑cap : Int)) ∧ (Int.toNat (↑p : Int) - 0 ≤ Int.toNat (↑cap : Int) - 0 ∧ (if Int.toNat (↑cap : Int) = 0 then 0 else 0) + (Int.toNat (↑cap : Int) - 0) * 5 ≤ List.length (flT l ++ J) ∧ 0 ≤ wI (wI ((↑(List.length l) : Int) + (↑1 : Int)) - (↑p : Int)) ∧ Int.toNat (↑cap : Int) - 0 < Int.toNat (↑p : Int) - 0 + Int.toNat (wI (wI ((↑(List.length l) : Int) + (↑1 : Int)) - (↑p : Int))) ∧ (Int.toNat (↑p : Int) - 0 + Int.toNat (wI (wI ((↑(List.length l) : Int) + (↑1 : Int)) - (↑p : Int)))) * 56 ≤ 140737488355328) ∧ ∀ (c : Nat), Int.toNat (↑p : Int) - 0 + Int.toNat (wI (wI ((↑(List.length l) : Int) + (↑1 : Int)) - (↑p : Int))) ≤ c → (0 ≤ (↑p : Int) ∧ (↑p : Int) ≤ (↑(Int.toNat (↑p : Int) - 0 + Int.toNat (wI (wI ((↑(List.length l) : Int) + (↑1 : Int)) - (↑p : Int)))) : Int) ∧ (↑(Int.toNat (↑p : Int) - 0 + Int.toNat (wI (wI ((↑(List.length l) : Int) + (↑1 : Int)) - (↑p : Int)))) : Int) ≤ (↑c : Int) ∧ (↑c : Int) ≤ (↑c : Int)) ∧ ((if Int.toNat (↑c : Int) = Int.toNat (↑p : Int) then 0 else 0 + Int.toNat (↑p : Int) * 5) + (Int.toNat (↑(Int.toNat (↑p : Int) - 0 + Int.toNat (wI (wI ((↑(List.length l) : Int) + (↑1 : Int)) - (↑p : Int)))) : Int) - Int.toNat (↑p : Int)) * 5 ≤ List.length (List.take ((Int.toNat (↑p : Int) - 0) * 5) (List.drop (if Int.toNat (↑cap : Int) = 0 then 0 else 0) (flT l ++ J)) ++ List.flatten (List.replicate (c - (Int.toNat (↑p : Int) - 0)) [PV.int IntKind.u32 0, PV.int IntKind.i64 0, PV.list [] Tail.exact, PV.int IntKind.i64 0, PV.int IntKind.i64 0])) ∧ 5 = 5 ∧ List.all [PV.int IntKind.u32 (Tk.id r), PV.int IntKind.i64 (Tk.md r), PV.list (List.map u1 (Tk.pl r)) Tail.no, PV.int IntKind.i64 (Tk.rt r), PV.int IntKind.i64 (Tk.si r)] PV.one = true) ∧ (0 ≤ wI ((↑p : Int) + (↑1 : Int)) ∧ wI ((↑p : Int) + (↑1 : Int)) ≤ (↑(Int.toNat (↑p : Int) - 0 + Int.toNat (wI (wI ((↑(List.length l) : Int) + (↑1 : Int)) - (↑p : Int)))) : Int) ∧ (↑(Int.toNat (↑p : Int) - 0 + Int.toNat (wI (wI ((↑(List.length l) : Int) + (↑1 : Int)) - (↑p : Int)))) : Int) ≤ (↑c : Int) ∧ (↑c : Int) ≤ (↑c : Int)) ∧ (0 ≤ (↑p : Int) ∧ (↑p : Int) ≤ (↑(List.length l) : Int) ∧ (↑(List.length l) : Int) ≤ (↑cap : Int) ∧ (↑cap : Int) ≤ (↑cap : Int)) ∧ (if Int.toNat (↑cap : Int) = Int.toNat (↑p : Int) then 0 else 0 + Int.toNat (↑p : Int) * 5) + (Int.toNat (↑(List.length l) : Int) - Int.toNat (↑p : Int)) * 5 ≤ List.length (flT l ++ J) ∧ ((if Int.toNat (↑c : Int) = Int.toNat (wI ((↑p : Int) + (↑1 : Int))) then 0 else 0 + Int.toNat (wI ((↑p : Int) + (↑1 : Int))) * 5) + (Int.toNat (↑(Int.toNat (↑p : Int) - 0 + Int.toNat (wI (wI ((↑(List.length l) : Int) + (↑1 : Int)) - (↑p : Int)))) : Int) - Int.toNat (wI ((↑p : Int) + (↑1 : Int)))) * 5 ≤ List.length (over (List.take ((Int.toNat (↑p : Int) - 0) * 5) (List.drop (if Int.toNat (↑cap : Int) = 0 then 0 else 0) (flT l ++ J)) ++ List.flatten (List.replicate (c - (Int.toNat (↑p : Int) - 0)) [PV.int IntKind.u32 0, PV.int IntKind.i64 0, PV.list [] Tail.exact, PV.int IntKind.i64 0, PV.int IntKind.i64 0])) (if Int.toNat (↑c : Int) = Int.toNat (↑p : Int) then 0 else 0 + Int.toNat (↑p : Int) * 5) (List.take (min 1 (Int.toNat (↑(Int.toNat (↑p : Int) - 0 + Int.toNat (wI (wI ((↑(List.length l) : Int) + (↑1 : Int)) - (↑p : Int)))) : Int) - Int.toNat (↑p : Int)) * 5) [PV.int IntKind.u32 (Tk.id r), PV.int IntKind.i64 (Tk.md r), PV.list (List.map u1 (Tk.pl r)) Tail.no, PV.int IntKind.i64 (Tk.rt r), PV.int IntKind.i64 (Tk.si r)])) ∧ List.length (List.take ((Int.toNat (↑(List.length l) : Int) - Int.toNat (↑p : Int)) * 5) (List.drop (if Int.toNat (↑cap : Int) = Int.toNat (↑p : Int) then 0 else 0 + Int.toNat (↑p : Int) * 5) (flT l ++ J))) = (Int.toNat (↑(List.length l) : Int) - Int.toNat (↑p : Int)) * 5 ∧ List.all (List.take ((Int.toNat (↑(List.length l) : Int) - Int.toNat (↑p : Int)) * 5) (List.drop (if Int.toNat (↑cap : Int) = Int.toNat (↑p : Int) then 0 else 0 + Int.toNat (↑p : Int) * 5) (flT l ++ J))) PV.one = true) ∧ K (PV.arr 2 0 (Int.toNat (↑p : Int) - 0 + Int.toNat (wI (wI ((↑(List.length l) : Int) + (↑1 : Int)) - (↑p : Int)))) c) [Ob.cells [PV.arr 1 0 (List.length l) cap, PV.list (List.map i1 sz) Tail.no], Ob.cells (flT l ++ J), Ob.cells (over (over (List.take ((Int.toNat (↑p : Int) - 0) * 5) (List.drop (if Int.toNat (↑cap : Int) = 0 then 0 else 0) (flT l ++ J)) ++ List.flatten (List.replicate (c - (Int.toNat (↑p : Int) - 0)) [PV.int IntKind.u32 0, PV.int IntKind.i64 0, PV.list [] Tail.exact, PV.int IntKind.i64 0, PV.int IntKind.i64 0])) (if Int.toNat (↑c : Int) = Int.toNat (↑p : Int) then 0 else 0 + Int.toNat (↑p : Int) * 5) (List.take (min 1 (Int.toNat (↑(Int.toNat (↑p : Int) - 0 + Int.toNat (wI (wI ((↑(List.length l) : Int) + (↑1 : Int)) - (↑p : Int)))) : Int) - Int.toNat (↑p : Int)) * 5) [PV.int IntKind.u32 (Tk.id r), PV.int IntKind.i64 (Tk.md r), PV.list (List.map u1 (Tk.pl r)) Tail.no, PV.int IntKind.i64 (Tk.rt r), PV.int IntKind.i64 (Tk.si r)])) (if Int.toNat (↑c : Int) = Int.toNat (wI ((↑p : Int) + (↑1 : Int))) then 0 else 0 + Int.toNat (wI ((↑p : Int) + (↑1 : Int))) * 5) (List.take (min (Int.toNat (↑(List.length l) : Int) - Int.toNat (↑p : Int)) (Int.toNat (↑(Int.toNat (↑p : Int) - 0 + Int.toNat (wI (wI ((↑(List.length l) : Int) + (↑1 : Int)) - (↑p : Int)))) : Int) - Int.toNat (wI ((↑p : Int) + (↑1 : Int)))) * 5) (List.take ((Int.toNat (↑(List.length l) : Int) - Int.toNat (↑p : Int)) * 5) (List.drop (if Int.toNat (↑cap : Int) = Int.toNat (↑p : Int) then 0 else 0 + Int.toNat (↑p : Int) * 5) (flT l ++ J)))))]) ((iI 0 ≤ 0 ∧ 0 ≤ wI ((↑(List.length l) : Int) + (↑1 : Int)) ∧ wI ((↑(List.length l) : Int) + (↑1 : Int)) ≤ (↑cap : Int) ∧ (↑cap : Int) ≤ (↑cap : Int)) ∧ (0 ≤ wI ((↑p : Int) + (↑1 : Int)) ∧ wI ((↑p : Int) + (↑1 : Int)) ≤ (↑(Int.toNat (wI ((↑(List.length l) : Int) + (↑1 : Int))) - 0) : Int) ∧ (↑(Int.toNat (wI ((↑(List.length l) : Int) + (↑1 : Int))) - 0) : Int) ≤ (↑(Int.toNat (↑cap : Int) - 0) : Int) ∧ (↑(Int.toNat (↑cap : Int) - 0) : Int) ≤ (↑(Int.toNat (↑cap : Int) - 0) : Int)) ∧ [PV.int IntKind.u32 (Tk.id r), PV.int IntKind.i64 (Tk.md r), PV.list (List.map u1 (Tk.pl r)) Tail.no, PV.int IntKind.i64 (Tk.rt r), PV.int IntKind.i64 (Tk.si r)] ≠ [] ∧ (flT l ++ J = [] → False) ∧ (0 ≤ wI ((↑p : Int) + (↑1 : Int)) ∧ wI ((↑p : Int) + (↑1 : Int)) ≤ (↑(Int.toNat (wI ((↑(List.length l) : Int) + (↑1 : Int))) - 0) : Int) ∧ (↑(Int.toNat (wI ((↑(List.length l) : Int) + (↑1 : Int))) - 0) : Int) ≤ (↑(Int.toNat (↑cap : Int) - 0) : Int) ∧ (↑(Int.toNat (↑cap : Int) - 0) : Int) ≤ (↑(Int.toNat (↑cap : Int) - 0) : Int)) ∧ (0 ≤ (↑p : Int) ∧ (↑p : Int) ≤ (↑(Int.toNat (wI ((↑(List.length l) : Int) + (↑1 : Int))) - 0) : Int) ∧ (↑(Int.toNat (wI ((↑(List.length l) : Int) + (↑1 : Int))) - 0) : Int) ≤ (↑(Int.toNat (↑cap : Int) - 0) : Int) ∧ (↑(Int.toNat (↑cap : Int) - 0) : Int) ≤ (↑(Int.toNat (↑cap : Int) - 0) : Int)) ∧ (if Int.toNat (↑(Int.toNat (↑cap : Int) - 0) : Int) = Int.toNat (↑p : Int) then if Int.toNat (↑cap : Int) = 0 then 0 else 0 else (if Int.toNat (↑cap : Int) = 0 then 0 else 0) + Int.toNat (↑p : Int) * 5) + (Int.toNat (↑(Int.toNat (wI ((↑(List.length l) : Int) + (↑1 : Int))) - 0) : Int) - Int.toNat (↑p : Int)) * 5 ≤ List.length (flT l ++ J) ∧ ((if Int.toNat (↑(Int.toNat (↑cap : Int) - 0) : Int) = Int.toNat (wI ((↑p : Int) + (↑1 : Int))) then if Int.toNat (↑cap : Int) = 0 then 0 else 0 else (if Int.toNat (↑cap : Int) = 0 then 0 else 0) + Int.toNat (wI ((↑p : Int) + (↑1 : Int))) * 5) + (Int.toNat (↑(Int.toNat (wI ((↑(List.length l) : Int) + (↑1 : Int))) - 0) : Int) - Int.toNat (wI ((↑p : Int) + (↑1 : Int)))) * 5 ≤ List.length (flT l ++ J) ∧ List.length (List.take ((Int.toNat (↑(Int.toNat (wI ((↑(List.length l) : Int) + (↑1 : Int))) - 0) : Int) - Int.toNat (↑p : Int)) * 5) (List.drop (if Int.toNat (↑(Int.toNat (↑cap : Int) - 0) : Int) = Int.toNat (↑p : Int) then if Int.toNat (↑cap : Int) = 0 then 0 else 0 else (if Int.toNat (↑cap : Int) = 0 then 0 else 0) + Int.toNat (↑p : Int) * 5) (flT l ++ J))) = (Int.toNat (↑(Int.toNat (wI ((↑(List.length l) : Int) + (↑1 : Int))) - 0) : Int) - Int.toNat (↑p : Int)) * 5 ∧ List.all (List.take ((Int.toNat (↑(Int.toNat (wI ((↑(List.length l) : Int) + (↑1 : Int))) - 0) : Int) - Int.toNat (↑p : Int)) * 5) (List.drop (if Int.toNat (↑(Int.toNat (↑cap : Int) - 0) : Int) = Int.toNat (↑p : Int) then if Int.toNat (↑cap : Int) = 0 then 0 else 0 else (if Int.toNat (↑cap : Int) = 0 then 0 else 0) + Int.toNat (↑p : Int) * 5) (flT l ++ J))) PV.one = true) ∧ (0 ≤ (↑p : Int) ∧ (↑p : Int) ≤ (↑(Int.toNat (wI ((↑(List.length l) : Int) + (↑1 : Int))) - 0) : Int) ∧ (↑(Int.toNat (wI ((↑(List.length l) : Int) + (↑1 : Int))) - 0) : Int) ≤ (↑(Int.toNat (↑cap : Int) - 0) : Int) ∧ (↑(Int.toNat (↑cap : Int) - 0) : Int) ≤ (↑(Int.toNat (↑cap : Int) - 0) : Int)) ∧ ((if Int.toNat (↑(Int.toNat (↑cap : Int) - 0) : Int) = Int.toNat (↑p : Int) then if Int.toNat (↑cap : Int) = 0 then 0 else 0 else (if Int.toNat (↑cap : Int) = 0 then 0 else 0) + Int.toNat (↑p : Int) * 5) + (Int.toNat (↑(Int.toNat (wI ((↑(List.length l) : Int) + (↑1 : Int))) - 0) : Int) - Int.toNat (↑p : Int)) * 5 ≤ List.length (over (flT l ++ J) (if Int.toNat (↑(Int.toNat (↑cap : Int) - 0) : Int) = Int.toNat (wI ((↑p : Int) + (↑1 : Int))) then if Int.toNat (↑cap : Int) = 0 then 0 else 0 else (if Int.toNat (↑cap : Int) = 0 then 0 else 0) + Int.toNat (wI ((↑p : Int) + (↑1 : Int))) * 5) (List.take (min (Int.toNat (↑(Int.toNat (wI ((↑(List.length l) : Int) + (↑1 : Int))) - 0) : Int) - Int.toNat (↑p : Int)) (Int.toNat (↑(Int.toNat (wI ((↑(List.length l) : Int) + (↑1 : Int))) - 0) : Int) - Int.toNat (wI ((↑p : Int) + (↑1 : Int)))) * 5) (List.take ((Int.toNat (↑(Int.toNat (wI ((↑(List.length l) : Int) + (↑1 : Int))) - 0) : Int) - Int.toNat (↑p : Int)) * 5) (List.drop (if Int.toNat (↑(Int.toNat (↑cap : Int) - 0) : Int) = Int.toNat (↑p : Int) then if Int.toNat (↑cap : Int) = 0 then 0 else 0 else (if Int.toNat (↑cap : Int) = 0 then 0 else 0) + Int.toNat (↑p : Int) * 5) (flT l ++ J))))) ∧ 5 = 5 ∧ List.all [PV.int IntKind.u32 (Tk.id r), PV.int IntKind.i64 (Tk.md r), PV.list (List.map u1 (Tk.pl r)) Tail.no, PV.int IntKind.i64 (Tk.rt r), PV.int IntKind.i64 (Tk.si r)] PV.one = true) ∧ K (PV.arr 1 (if Int.toNat (↑cap : Int) = 0 then 0 else 0) (Int.toNat (wI ((↑(List.length l) : Int) + (↑1 : Int))) - 0) (Int.toNat (↑cap : Int) - 0)) [Ob.cells [PV.arr 1 0 (List.length l) cap, PV.list (List.map i1 sz) Tail.no], Ob.cells (over (over (flT l ++ J) (if Int.toNat (↑(Int.toNat (↑cap : Int) - 0) : Int) = Int.toNat (wI ((↑p : Int) + (↑1 : Int))) then if Int.toNat (↑cap : Int) = 0 then 0 else 0 else (if Int.toNat (↑cap : Int) = 0 then 0 else 0) + Int.toNat (wI ((↑p : Int) + (↑1 : Int))) * 5) (List.take (min (Int.toNat (↑(Int.toNat (wI ((↑(List.length l) : Int) + (↑1 : Int))) - 0) : Int) - Int.toNat (↑p : Int)) (Int.toNat (↑(Int.toNat (wI ((↑(List.length l) : Int) + (↑1 : Int))) - 0) : Int) - Int.toNat (wI ((↑p : Int) + (↑1 : Int)))) * 5) (List.take ((Int.toNat (↑(Int.toNat (wI ((↑(List.length l) : Int) + (↑1 : Int))) - 0) : Int) - Int.toNat (↑p : Int)) * 5) (List.drop (if Int.toNat (↑(Int.toNat (↑cap : Int) - 0) : Int) = Int.toNat (↑p : Int) then if Int.toNat (↑cap : Int) = 0 then 0 else 0 else (if Int.toNat (↑cap : Int) = 0 then 0 else 0) + Int.toNat (↑p : Int) * 5) (flT l ++ J))))) (if Int.toNat (↑(Int.toNat (↑cap : Int) - 0) : Int) = Int.toNat (↑p : Int) then if Int.toNat (↑cap : Int) = 0 then 0 else 0 else (if Int.toNat (↑cap : Int) = 0 then 0 else 0) + Int.toNat (↑p : Int) * 5) (List.take (min 1 (Int.toNat (↑(Int.toNat (wI ((↑(List.length l) : Int) + (↑1 : Int))) - 0) : Int) - Int.toNat (↑p : Int)) * 5) [PV.int IntKind.u32 (Tk.id r), PV.int IntKind.i64 (Tk.md r), PV.list (List.map u1 (Tk.pl r)) Tail.no, PV.int IntKind.i64 (Tk.rt r), PV.int IntKind.i64 (Tk.si r)]))]))) : ACalls Try.prog gl 75 [.arr 1 0 l.length cap, .int .i64 p, .list [csT r] .exact] [.cells [.arr 1 0 l.length cap, .list (sz.map i1) .no], .cells (flT l ++ J)] K :=
  acalls_of_wpc2 (T := TIT) (L := []) (fun o => match o.op with | .load t _ => (match t with | 82 => 1 | _ => 0) | _ => match o.dst with | some 25 => 2 | _ => 0) Try.func75 (by kernel_rfl) (by kernel_rfl) (by kernel_rfl) (TIT_ok) (LOk.nil _ _ _ _ _) (holds_of_eq (by kernel_rfl) h)
theorem insNT_vc (sz : List Int) (r : Tk)  (K : PV → Heap → Prop) (h : (iI 0 ≤ 0 ∧ iI 0 ≤ 0 ∧ iI 0 ≤ 0 ∧ iI 0 ≤ 0 ∧ uni 5 []) ∧ 5 = 5 ∧ 56 ≤ 140737488355328 ∧ 0 < 1 ∧ ∀ (c : Nat), 1 ≤ c → K (PV.arr 1 0 1 c) [Ob.cells [PV.list [] Tail.exact, PV.list (List.map i1 sz) Tail.no], Ob.cells ([PV.int IntKind.u32 (Tk.id r), PV.int IntKind.i64 (Tk.md r), PV.list (List.map u1 (Tk.pl r)) Tail.no, PV.int IntKind.i64 (Tk.rt r), PV.int IntKind.i64 (Tk.si r)] ++ List.flatten (List.replicate (c - 1) [PV.int IntKind.u32 0, PV.int IntKind.i64 0, PV.list [] Tail.exact, PV.int IntKind.i64 0, PV.int IntKind.i64 0]))]) : ACalls Try.prog gl 75 [.list [] .exact, .int .i64 0, .list [csT r] .exact] [.cells [.list [] .exact, .list (sz.map i1) .no]] K :=
  acalls_of_wpc2 (T := TIT) (L := []) (fun o => match o.op with | .load t _ => (match t with | 82 => 1 | _ => 0) | _ => match o.dst with | some 25 => 2 | _ => 0) Try.func75 (by kernel_rfl) (by kernel_rfl) (by kernel_rfl) (TIT_ok) (LOk.nil _ _ _ _ _) (holds_of_eq (by kernel_rfl) h)
def insT_s (args : List PV) (H : Heap) (K : PV → Heap → Prop) : Prop :=
  (∃ (l : List Tk) (J : List PV) (cap : Nat) (sz : List Int) (r : Tk) (p : Nat), SlIs args [.arr 1 0 l.length cap, .int .i64 p, .list [csT r] .exact] ∧ HpIs H (hpQ l J cap sz) ∧ p ≤ l.length ∧ l.length ≤ 1000000 ∧ l.length ≤ cap ∧ Room J ((cap - l.length) * 5) ∧
    (∀ (J' : List PV), l.length + 1 ≤ cap → Room J' ((cap - (l.length + 1)) * 5) → K (.arr 1 0 (l.length + 1) cap) [.cells [.arr 1 0 l.length cap, .list (sz.map i1) .no], .cells (flT (insAt l p r) ++ J')]) ∧
    (∀ (c : Nat), l.length + 1 ≤ c → ∀ (J' : List PV), Room J' ((c - (l.length + 1)) * 5) → K (.arr 2 0 (l.length + 1) c) [.cells [.arr 1 0 l.length cap, .list (sz.map i1) .no], .cells (flT l ++ J), .cells (flT (insAt l p r) ++ J')])) ∨
  (∃ (sz : List Int) (r : Tk), SlIs args [.list [] .exact, .int .i64 0, .list [csT r] .exact] ∧ HpIs H (hpE sz) ∧
    ∀ (c : Nat), 1 ≤ c → ∀ (J' : List PV), Room J' ((c - 1) * 5) → K (.arr 1 0 1 c) [.cells [.list [] .exact, .list (sz.map i1) .no], .cells (csT r ++ J')])
def zrT : List PV := [.int .u32 0, .int .i64 0, .list [] .exact, .int .i64 0, .int .i64 0]
theorem zrT_room (n : Nat) : Room (List.replicate n zrT).flatten (n * 5) :=
  Room.zeros (z := zrT) (by intro y hy; simp only [zrT, List.mem_cons, List.not_mem_nil, or_false] at hy; rcases hy with rfl | rfl | rfl | rfl | rfl <;> rfl) (by intro y hy; simp only [zrT, List.mem_cons, List.not_mem_nil, or_false] at hy; rcases hy with rfl | rfl | rfl | rfl | rfl <;> first | exact .int _ _ | exact .str _ | exact low_list NT.exact (fun _ h => nomatch h)) n
theorem insT_ok : SpOk Try.prog gl 75 (.heap insT_s) := by
  rintro args H K (⟨l, J, cap, sz, r, p, he, hH, hp, hl, hc, hJ, hk1, hk2⟩ | ⟨sz, r, he, hH, hk⟩)
  · have he : args = _ := he
    have hH : H = _ := hH
    subst he
    subst hH
    have hlen : (flT l ++ J).length = cap * 5 := by rw [List.length_append, flT_len, hJ.len, ← Nat.add_mul]; congr 1; omega
    have hone : (flT l ++ J).all PV.one = true := List.all_eq_true.2 (flT_one l hJ.one)
    refine insAT_vc l J cap sz r p K ?_
    refine ⟨⟨by omega, by omega, by omega, by omega⟩, ?_⟩
    rw [br_if]
    by_cases c1 : p = l.length
    · rw [if_pos (by simp [c1])]
      subst c1
      refine ⟨⟨hc, by rw [hlen]; omega, rfl, rfl, by omega⟩, fun h => ?_, fun h c hcc => ?_⟩
      · have := hk1 (J.drop 5) h (hJ.drop.cast (by omega))
        rw [← ins_end csT_len r (by rw [hJ.len]; omega)] at this
        rw [Nat.zero_add]
        exact this
      · have := hk2 c hcc _ (zrT_room (c - (l.length + 1)))
        rw [insAt_end] at this
        rw [List.drop_zero, rows_take csT_len J l l.length (Nat.le_refl _), List.take_length]
        simp only [flT, List.map_append, List.flatten_append, List.map_cons, List.map_nil, List.flatten_cons, List.flatten_nil, List.append_nil] at this
        exact this
    · rw [if_neg (by simp; omega), br_if]
      have e1 : wI ((l.length : Int) + 1) = ((l.length + 1 : Nat) : Int) := by rw [w_small (by omega) (by omega)]; rfl
      have e2 : wI (((l.length + 1 : Nat) : Int) - (p : Int)) = ((l.length + 1 - p : Nat) : Int) := by rw [w_small (by omega) (by omega)]; omega
      have e3 : wI ((p : Int) + 1) = ((p + 1 : Nat) : Int) := by rw [w_small (by omega) (by omega)]; rfl
      have e4 : p + (l.length + 1 - p) = l.length + 1 := by omega
      simp only [e1, e2, e3, e4, toNat_nat, Nat.sub_zero, Nat.zero_add, List.drop_zero, ite_self]
      have t1 : List.take (p * 5) (flT l ++ J) = flT (l.take p) := rows_take csT_len J l p hp
      have t2 : List.take ((l.length - p) * 5) (List.drop (p * 5) (flT l ++ J)) = flT (l.drop p) := by
        rw [rows_drop csT_len J l p hp, List.take_left']
        rw [flT_len, List.length_drop]
      have t3 : min 1 (l.length + 1 - p) = 1 := by omega
      have t5 : (flT (l.drop p)).length = (l.length - p) * 5 := by rw [flT_len, List.length_drop]
      have t6 : (flT (l.drop p)).all PV.one = true := by
        have := flT_one (l.drop p) (J := []) (fun _ h => nomatch h)
        rw [List.append_nil] at this
        exact List.all_eq_true.2 this
      have t7 : (flT (l.take p)).length = p * 5 := by rw [flT_len, List.length_take, Nat.min_eq_left hp]
      by_cases c2 : cap < l.length + 1
      · rw [if_pos (decide_eq_true (by omega))]
        have n3 : ¬ cap = p := by omega
        refine ⟨⟨by decide, by omega, by omega, by omega⟩, ⟨by omega, by omega, by omega, by omega, by omega⟩, fun c hcc => ?_⟩
        have t4 : min (l.length - p) (l.length + 1 - (p + 1)) = l.length - p := by omega
        have n1 : ¬ c = p := by omega
        have n2 : ¬ c = p + 1 := by omega
        have hZ := zrT_room (c - p)
        have t9 : (flT (l.take p) ++ (List.replicate (c - p) zrT).flatten).length = c * 5 := by rw [List.length_append, t7, hZ.len, ← Nat.add_mul]; congr 1; omega
        simp only [if_neg n1, if_neg n2, if_neg n3, t1, t2, t3, t4, t5, t6]
        refine ⟨⟨by omega, by omega, by omega, by omega⟩, ⟨Nat.le_trans (show _ ≤ c * 5 by omega) (Nat.le_of_eq t9.symm), trivial, rfl⟩, ⟨by omega, by omega, by omega, by omega⟩, ⟨by omega, by omega, by omega, by omega⟩, by omega, ⟨?_, trivial, trivial⟩, ?_⟩
        · have t10 : (over (flT (l.take p) ++ (List.replicate (c - p) zrT).flatten) (p * 5) (csT r)).length = c * 5 := by rw [over_length (by rw [t9, csT_len]; omega), t9]
          exact Nat.le_trans (show _ ≤ c * 5 by omega) (Nat.le_of_eq t10.symm)
        · have := hk2 c (by omega) _ ((hZ.drop (k := (l.length + 1 - p) * 5)).cast (by omega))
          rw [← ins_grow csT_len r hp (by rw [hZ.len]; omega)] at this
          rw [List.take_of_length_le (Nat.le_of_eq t5)]
          exact this
      · rw [if_neg (by simp; omega)]
        have n3 : ¬ cap = p := by omega
        have n4 : ¬ cap = p + 1 := by omega
        have t9 : min (l.length + 1 - p) (l.length + 1 - (p + 1)) = l.length - p := by omega
        have t10 : List.take ((l.length - p) * 5) (List.take ((l.length + 1 - p) * 5) (List.drop (p * 5) (flT l ++ J))) = List.take ((l.length - p) * 5) (List.drop (p * 5) (flT l ++ J)) := by rw [List.take_take, Nat.min_eq_left (by omega)]
        simp only [if_neg n3, if_neg n4, t3, t9, t10]
        have t11 : (List.take ((l.length + 1 - p) * 5) (List.drop (p * 5) (flT l ++ J))).length = (l.length + 1 - p) * 5 := by rw [List.length_take, List.length_drop, hlen]; omega
        have t12 : (List.take ((l.length + 1 - p) * 5) (List.drop (p * 5) (flT l ++ J))).all PV.one = true := List.all_eq_true.2 fun y hy => List.all_eq_true.1 hone y (List.mem_of_mem_drop (List.mem_of_mem_take hy))
        have t13 : (over (flT l ++ J) ((p + 1) * 5) (List.take ((l.length - p) * 5) (List.drop (p * 5) (flT l ++ J)))).length = cap * 5 := by rw [over_length (by rw [t2, t5, hlen]; omega), hlen]
        refine ⟨⟨by decide, by omega, by omega, by omega⟩, ⟨by omega, by omega, by omega, by omega⟩, List.cons_ne_nil _ _, fun h => ?_, ⟨by omega, by omega, by omega, by omega⟩, ⟨by omega, by omega, by omega, by omega⟩, by omega, ⟨by omega, t11, t12⟩, ⟨by omega, by omega, by omega, by omega⟩, ⟨by omega, trivial, rfl⟩, ?_⟩
        · rw [h] at hlen; simp only [List.length_nil] at hlen; omega
        · have := hk1 (J.drop 5) (by omega) (hJ.drop.cast (by omega))
          rw [← ins_mid csT_len r (by omega) (by rw [hJ.len]; omega)] at this
          exact this
  · have he : args = _ := he
    have hH : H = _ := hH
    subst he
    subst hH
    exact insNT_vc sz r K ⟨⟨by decide, by decide, by decide, by decide, fun _ h => nomatch h⟩, rfl, by decide, by decide, fun c hc => hk c hc _ (zrT_room (c - 1))⟩
theorem delT_vc (l : List Tk) (J : List PV) (cap : Nat) (sz : List Int) (p : Nat)  (K : PV → Heap → Prop) (h : (0 ≤ (↑p : Int) ∧ (↑p : Int) ≤ (↑(p + 1) : Int) ∧ (↑(p + 1) : Int) ≤ (↑(List.length l) : Int) ∧ (↑(List.length l) : Int) ≤ (↑cap : Int)) ∧ br ((↑p : Int) == (↑(p + 1) : Int)) (K (PV.arr 1 0 (List.length l) cap) [Ob.cells [PV.arr 1 0 (List.length l) cap, PV.list (List.map i1 sz) Tail.no], Ob.cells (flT l ++ J)]) ((iI 0 ≤ 0 ∧ 0 ≤ (↑p : Int) ∧ (↑p : Int) ≤ (↑cap : Int) ∧ (↑cap : Int) ≤ (↑cap : Int)) ∧ (0 ≤ (↑(p + 1) : Int) ∧ (↑(p + 1) : Int) ≤ (↑(List.length l) : Int) ∧ (↑(List.length l) : Int) ≤ (↑cap : Int) ∧ (↑cap : Int) ≤ (↑cap : Int)) ∧ (if Int.toNat (↑cap : Int) = Int.toNat (↑(p + 1) : Int) then 0 else 0 + Int.toNat (↑(p + 1) : Int) * 5) + (Int.toNat (↑(List.length l) : Int) - Int.toNat (↑(p + 1) : Int)) * 5 ≤ List.length (flT l ++ J) ∧ (Int.toNat (↑p : Int) - 0 ≤ Int.toNat (↑cap : Int) - 0 ∧ (if Int.toNat (↑cap : Int) = 0 then 0 else 0) + (Int.toNat (↑cap : Int) - 0) * 5 ≤ List.length (flT l ++ J) ∧ List.length (List.take ((Int.toNat (↑(List.length l) : Int) - Int.toNat (↑(p + 1) : Int)) * 5) (List.drop (if Int.toNat (↑cap : Int) = Int.toNat (↑(p + 1) : Int) then 0 else 0 + Int.toNat (↑(p + 1) : Int) * 5) (flT l ++ J))) = (Int.toNat (↑(List.length l) : Int) - Int.toNat (↑(p + 1) : Int)) * 5 ∧ List.all (List.take ((Int.toNat (↑(List.length l) : Int) - Int.toNat (↑(p + 1) : Int)) * 5) (List.drop (if Int.toNat (↑cap : Int) = Int.toNat (↑(p + 1) : Int) then 0 else 0 + Int.toNat (↑(p + 1) : Int) * 5) (flT l ++ J))) PV.one = true ∧ (Int.toNat (↑p : Int) - 0 + (Int.toNat (↑(List.length l) : Int) - Int.toNat (↑(p + 1) : Int))) * 56 ≤ 140737488355328) ∧ Int.toNat (↑p : Int) - 0 + (Int.toNat (↑(List.length l) : Int) - Int.toNat (↑(p + 1) : Int)) ≤ Int.toNat (↑cap : Int) - 0 ∧ (0 ≤ (↑(Int.toNat (↑p : Int) - 0 + (Int.toNat (↑(List.length l) : Int) - Int.toNat (↑(p + 1) : Int))) : Int) ∧ (↑(Int.toNat (↑p : Int) - 0 + (Int.toNat (↑(List.length l) : Int) - Int.toNat (↑(p + 1) : Int))) : Int) ≤ (↑(List.length l) : Int) ∧ (↑(List.length l) : Int) ≤ (↑(Int.toNat (↑cap : Int) - 0) : Int) ∧ (↑(Int.toNat (↑cap : Int) - 0) : Int) ≤ (↑(Int.toNat (↑cap : Int) - 0) : Int)) ∧ (if Int.toNat (↑(Int.toNat (↑cap : Int) - 0) : Int) = Int.toNat (↑(Int.toNat (↑p : Int) - 0 + (Int.toNat (↑(List.length l) : Int) - Int.toNat (↑(p + 1) : Int))) : Int) then if Int.toNat (↑cap : Int) = 0 then 0 else 0 else (if Int.toNat (↑cap : Int) = 0 then 0 else 0) + Int.toNat (↑(Int.toNat (↑p : Int) - 0 + (Int.toNat (↑(List.length l) : Int) - Int.toNat (↑(p + 1) : Int))) : Int) * 5) + (Int.toNat (↑(List.length l) : Int) - Int.toNat (↑(Int.toNat (↑p : Int) - 0 + (Int.toNat (↑(List.length l) : Int) - Int.toNat (↑(p + 1) : Int))) : Int)) * 5 ≤ List.length (over (flT l ++ J) ((if Int.toNat (↑cap : Int) = 0 then 0 else 0) + (Int.toNat (↑p : Int) - 0) * 5) (List.take ((Int.toNat (↑(List.length l) : Int) - Int.toNat (↑(p + 1) : Int)) * 5) (List.drop (if Int.toNat (↑cap : Int) = Int.toNat (↑(p + 1) : Int) then 0 else 0 + Int.toNat (↑(p + 1) : Int) * 5) (flT l ++ J)))) ∧ K (PV.arr 1 (if Int.toNat (↑cap : Int) = 0 then 0 else 0) (Int.toNat (↑p : Int) - 0 + (Int.toNat (↑(List.length l) : Int) - Int.toNat (↑(p + 1) : Int))) (Int.toNat (↑cap : Int) - 0)) [Ob.cells [PV.arr 1 0 (List.length l) cap, PV.list (List.map i1 sz) Tail.no], Ob.cells (over (over (flT l ++ J) ((if Int.toNat (↑cap : Int) = 0 then 0 else 0) + (Int.toNat (↑p : Int) - 0) * 5) (List.take ((Int.toNat (↑(List.length l) : Int) - Int.toNat (↑(p + 1) : Int)) * 5) (List.drop (if Int.toNat (↑cap : Int) = Int.toNat (↑(p + 1) : Int) then 0 else 0 + Int.toNat (↑(p + 1) : Int) * 5) (flT l ++ J)))) (if Int.toNat (↑(Int.toNat (↑cap : Int) - 0) : Int) = Int.toNat (↑(Int.toNat (↑p : Int) - 0 + (Int.toNat (↑(List.length l) : Int) - Int.toNat (↑(p + 1) : Int))) : Int) then if Int.toNat (↑cap : Int) = 0 then 0 else 0 else (if Int.toNat (↑cap : Int) = 0 then 0 else 0) + Int.toNat (↑(Int.toNat (↑p : Int) - 0 + (Int.toNat (↑(List.length l) : Int) - Int.toNat (↑(p + 1) : Int))) : Int) * 5) (List.flatten (List.replicate (Int.toNat (↑(List.length l) : Int) - Int.toNat (↑(Int.toNat (↑p : Int) - 0 + (Int.toNat (↑(List.length l) : Int) - Int.toNat (↑(p + 1) : Int))) : Int)) [PV.int IntKind.u32 0, PV.int IntKind.i64 0, PV.list [] Tail.exact, PV.int IntKind.i64 0, PV.int IntKind.i64 0])))])) : ACalls Try.prog gl 81 [.arr 1 0 l.length cap, .int .i64 p, .int .i64 ((p + 1 : Nat) : Int)] [.cells [.arr 1 0 l.length cap, .list (sz.map i1) .no], .cells (flT l ++ J)] K :=
  acalls_of_wpc2 (T := []) (L := []) (fun o => match o.op with | .load t _ => (match t with | 82 => 1 | _ => 0) | _ => match o.dst with | some 26 => 3 | _ => 0) Try.func81 (by kernel_rfl) (by kernel_rfl) (by kernel_rfl) (TabOk.nil _ _) (LOk.nil _ _ _ _ _) (holds_of_eq (by kernel_rfl) h)
def insTT_s (args : List PV) (H : Heap) (K : PV → Heap → Prop) : Prop :=
  (∃ (G : Heap) (l : List Tk) (J : List PV) (cap : Nat) (sz : List Int) (r : Tk) (p : Nat), SlIs args [.arr 1 0 l.length cap, .int .i64 p, .list [csT r] .exact] ∧ HpIs H (hpQ l J cap sz ++ G) ∧ p ≤ l.length ∧ l.length ≤ 1000000 ∧ l.length ≤ cap ∧ Room J ((cap - l.length) * 5) ∧
    (∀ (J' : List PV), l.length + 1 ≤ cap → Room J' ((cap - (l.length + 1)) * 5) → K (.arr 1 0 (l.length + 1) cap) ([.cells [.arr 1 0 l.length cap, .list (sz.map i1) .no], .cells (flT (insAt l p r) ++ J')] ++ G)) ∧
    (∀ (c : Nat), l.length + 1 ≤ c → ∀ (J' : List PV), Room J' ((c - (l.length + 1)) * 5) → K (.arr (2 + G.length) 0 (l.length + 1) c) ([.cells [.arr 1 0 l.length cap, .list (sz.map i1) .no], .cells (flT l ++ J)] ++ G ++ [.cells (flT (insAt l p r) ++ J')]))) ∨
  (∃ (G : Heap) (sz : List Int) (r : Tk), SlIs args [.list [] .exact, .int .i64 0, .list [csT r] .exact] ∧ HpIs H (hpE sz ++ G) ∧
    ∀ (c : Nat), 1 ≤ c → ∀ (J' : List PV), Room J' ((c - 1) * 5) → K (.arr (1 + G.length) 0 1 c) ([.cells [.list [] .exact, .list (sz.map i1) .no]] ++ G ++ [.cells (csT r ++ J')]))
theorem insTT_ok : SpOk Try.prog gl 75 (.heap insTT_s) := by
  rintro args H K (⟨G, l, J, cap, sz, r, p, he, hH, hp, hl, hc, hJ, hk1, hk2⟩ | ⟨G, sz, r, he, hH, hk⟩)
  · have he : args = _ := he
    have hH : H = _ := hH
    subst he
    subst hH
    refine acalls_tail gl_low (by intro y hy; simp only [List.mem_cons, List.not_mem_nil, or_false] at hy; rcases hy with rfl | rfl | rfl; exact .arr _ _ _ _ (by simp [hpQ]); (first | exact .low (.int _ _) | exact .low (low_rows low_i1 _)); exact .low (low_list NT.exact (by intro y hy; simp at hy; exact low_csT r y hy))) (hpQ_lid (by simp [hpQ]) hJ.low) ?_
    refine insT_ok _ _ _ (.inl ⟨l, J, cap, sz, r, p, rfl, rfl, hp, hl, hc, hJ, fun J' h1 h2 => ?_, fun c h1 J' h2 => ?_⟩)
    · exact ⟨_, _, tail_same rfl (lidH_two (fun y hy => by simp only [List.mem_cons, List.not_mem_nil, or_false] at hy; rcases hy with rfl | rfl; exact .arr _ _ _ _ (by simp [hpQ]); (first | exact .low (.int _ _) | exact .low (low_rows low_i1 _))) (fun y hy => .low (flT_low _ h2.low y hy))), Lid.ren (.arr _ _ _ _ (by simp)) (fun o ho => ρext_tail (by simpa [hpQ] using ho)), hk1 J' h1 h2⟩
    · exact ⟨_, _, tail_more (X' := [.cells [.arr 1 0 l.length cap, .list (sz.map i1) .no], .cells (flT l ++ J)]) rfl (hpQ_lid (by simp [hpQ]) hJ.low) (flT_low _ h2.low), new_tail (X := hpQ l J cap sz) (X' := [.cells [.arr 1 0 l.length cap, .list (sz.map i1) .no], .cells (flT l ++ J)]) rfl, hk2 c h1 J' h2⟩
  · have he : args = _ := he
    have hH : H = _ := hH
    subst he
    subst hH
    refine acalls_tail gl_low (by intro y hy; simp only [List.mem_cons, List.not_mem_nil, or_false] at hy; rcases hy with rfl | rfl | rfl; exact .low (low_list NT.exact (fun _ h => nomatch h)); (first | exact .low (.int _ _) | exact .low (low_rows low_i1 _)); exact .low (low_list NT.exact (by intro y hy; simp at hy; exact low_csT r y hy))) hpE_lid ?_
    refine insT_ok _ _ _ (.inr ⟨sz, r, rfl, rfl, fun c hc J' h2 => ?_⟩)
    exact ⟨_, _, tail_more (X' := [.cells [.list [] .exact, .list (sz.map i1) .no]]) rfl hpE_lid (by intro y hy; rcases List.mem_append.1 hy with hy | hy; exact low_csT r y hy; exact h2.low y hy), new_tail (X := hpE sz) (X' := [.cells [.list [] .exact, .list (sz.map i1) .no]]) rfl, hk c hc J' h2⟩
/-- what is left is a rack -/
def rkT (l : List Tk) (sz : List Int) : Rep := whole (EXQ l sz)
theorem left_AT {l : List Tk} {J : List PV} {cap : Nat} {sz : List Int} {T : Heap} {k : Nat} (hk : T[k]? = some (.cells (flT l ++ J))) (h : l.length ≤ cap) (hJ : Room J ((cap - l.length) * 5)) : RestOf (EXQ l sz) (.cells [.arr (k + 1) 0 l.length cap, .list (sz.map i1) .no] :: T) :=
  ⟨hpQ l J cap sz, _, sub_two hk (fun y hy => by rcases List.mem_singleton.1 hy with rfl; first | exact .int _ _ | exact low_rows low_i1 _) (flT_low l hJ.low), rfl, .inl ⟨J, cap, rfl, h, hJ⟩, root_of⟩
theorem left_NT {sz : List Int} {T : Heap} : RestOf (EXQ [] sz) (.cells [.list [] .exact, .list (sz.map i1) .no] :: T) :=
  ⟨hpE sz, _, sub_one T (fun y hy => by simp only [List.mem_cons, List.not_mem_nil, or_false] at hy; rcases hy with rfl | rfl; exact low_list NT.exact (fun _ h => nomatch h); exact low_rows low_i1 _), rfl, .inr ⟨rfl, rfl⟩, root_of⟩
theorem left_EXQ {l : List Tk} {sz : List Int} {H : Heap} (h : EXQ l sz H) : RestOf (EXQ l sz) H := by
  rcases h with ⟨J, cap, rfl, hc, hJ⟩ | ⟨rfl, rfl⟩
  · exact left_AT (k := 0) rfl hc hJ
  · exact left_NT
def delT_s (args : List PV) (H : Heap) (K : PV → Heap → Prop) : Prop :=
  ∃ (l : List Tk) (J : List PV) (cap : Nat) (sz : List Int) (p : Nat), SlIs args [.arr 1 0 l.length cap, .int .i64 p, .int .i64 ((p + 1 : Nat) : Int)] ∧ HpIs H (hpQ l J cap sz) ∧ p < l.length ∧ l.length ≤ 1000000 ∧ l.length ≤ cap ∧ Room J ((cap - l.length) * 5) ∧
    K (.arr 1 0 (l.length - 1) cap) [.cells [.arr 1 0 l.length cap, .list (sz.map i1) .no], .cells (flT (l.eraseIdx p) ++ (zrT ++ J))]
theorem delT_ok : SpOk Try.prog gl 81 (.heap delT_s) := by
  rintro args H K ⟨l, J, cap, sz, p, he, hH, hp, hl, hc, hJ, hk⟩
  have he : args = _ := he
  have hH : H = _ := hH
  subst he
  subst hH
  have hlen : (flT l ++ J).length = cap * 5 := by rw [List.length_append, flT_len, hJ.len, ← Nat.add_mul]; congr 1; omega
  have hone : (flT l ++ J).all PV.one = true := List.all_eq_true.2 (flT_one l hJ.one)
  refine delT_vc l J cap sz p K ?_
  refine ⟨⟨by omega, by omega, by omega, by omega⟩, ?_⟩
  rw [br_if, if_neg (by simp; omega)]
  have e4 : p + (l.length - (p + 1)) = l.length - 1 := by omega
  have e5 : l.length - (l.length - 1) = 1 := by omega
  simp only [toNat_nat, Nat.sub_zero, Nat.zero_add, ite_self, e4, e5]
  have n1 : ¬ cap = l.length - 1 := by omega
  have t11 : (List.take ((l.length - (p + 1)) * 5) (List.drop (if cap = p + 1 then 0 else (p + 1) * 5) (flT l ++ J))) = List.take ((l.length - (p + 1)) * 5) (List.drop ((p + 1) * 5) (flT l ++ J)) := by
    split
    · rw [show l.length - (p + 1) = 0 by omega, Nat.zero_mul, List.take_zero, List.take_zero]
    · rfl
  have t12 : (List.take ((l.length - (p + 1)) * 5) (List.drop ((p + 1) * 5) (flT l ++ J))).length = (l.length - (p + 1)) * 5 := by rw [List.length_take, List.length_drop, hlen]; omega
  have t13 : (List.take ((l.length - (p + 1)) * 5) (List.drop ((p + 1) * 5) (flT l ++ J))).all PV.one = true := List.all_eq_true.2 fun y hy => List.all_eq_true.1 hone y (List.mem_of_mem_drop (List.mem_of_mem_take hy))
  simp only [t11, if_neg n1, del_rows csT_len hp]
  have hle : l.length - 1 = (l.eraseIdx p).length := by rw [List.length_eraseIdx_of_lt hp]
  refine ⟨⟨by decide, by omega, by omega, by omega⟩, ⟨by omega, by omega, by omega, by omega⟩, by split <;> omega, ⟨by omega, by omega, t12, t13, by omega⟩, by omega, ⟨by omega, by omega, by omega, by omega⟩, ?_, ?_⟩
  · simp only [List.length_append, rows_len csT_len, ← hle, csT_len, hJ.len]; omega
  · rw [hle]
    rw [hle] at hk
    rw [← del_clear (z := zrT) csT_len (l.getLast (List.ne_nil_of_length_pos (by omega))) rfl] at hk
    exact hk
def delTT_s (args : List PV) (H : Heap) (K : PV → Heap → Prop) : Prop :=
  ∃ (Z : Heap) (l : List Tk) (J : List PV) (cap : Nat) (sz : List Int) (p : Nat), SlIs args [.arr 1 0 l.length cap, .int .i64 p, .int .i64 ((p + 1 : Nat) : Int)] ∧ HpIs H (hpQ l J cap sz ++ Z) ∧ p < l.length ∧ l.length ≤ 1000000 ∧ l.length ≤ cap ∧ Room J ((cap - l.length) * 5) ∧
    K (.arr 1 0 (l.length - 1) cap) ([.cells [.arr 1 0 l.length cap, .list (sz.map i1) .no], .cells (flT (l.eraseIdx p) ++ (zrT ++ J))] ++ H.drop 2)
theorem delTT_ok : SpOk Try.prog gl 81 (.heap delTT_s) := by
  rintro args H K ⟨Z, l, J, cap, sz, p, he, hH, hp, hl, hc, hJ, hk⟩
  have he : args = _ := he
  have hH : H = _ := hH
  subst he
  subst hH
  refine acalls_tail gl_low (by intro y hy; simp only [List.mem_cons, List.not_mem_nil, or_false] at hy; rcases hy with rfl | rfl | rfl; exact .arr _ _ _ _ (by simp [hpQ]); (first | exact .low (.int _ _) | exact .low (low_rows low_i1 _)); (first | exact .low (.int _ _) | exact .low (low_rows low_i1 _))) (hpQ_lid (by simp [hpQ]) hJ.low) ?_
  refine delT_ok _ _ _ ⟨l, J, cap, sz, p, rfl, rfl, hp, hl, hc, hJ, ?_⟩
  have hz := (zrT_room 1).low
  simp only [List.replicate, List.flatten_cons, List.flatten_nil, List.append_nil] at hz
  exact ⟨_, _, tail_same rfl (lidH_two (fun y hy => by simp only [List.mem_cons, List.not_mem_nil, or_false] at hy; rcases hy with rfl | rfl; exact .arr _ _ _ _ (by simp [hpQ]); (first | exact .low (.int _ _) | exact .low (low_rows low_i1 _))) (fun y hy => .low (flT_low _ (fun y hy => by rcases List.mem_append.1 hy with hy | hy; exact hz y hy; exact hJ.low y hy) y hy))), Lid.ren (.arr _ _ _ _ (by simp)) (fun o ho => ρext_tail (by simpa [hpQ] using ho)), hk⟩
end Go.Proofs.Ytcmknbanojcbaaa
