/-
  Layer 13: a rack of parties.
-/
import Derived.Test.YthabdpaipgclpaaRa
import Derived.Test.YthabdpaipgclpaaProg
namespace Go.Proofs.Ythabdpaipgclpaa
open Go Go.AM Go.Proofs
-- a party
structure Pt where
  id : Int
  ld : Int
  ms : List Int
  iv : List Int
def Pt.cells (c : Pt) : List PV := [.int .u32 c.id, .int .u32 c.ld, .list (en1 .u32 c.ms) .no, .list (en1 .u32 c.iv) .no]
def Pt.pv (c : Pt) : PV := .agg [.int .u32 c.id, .int .u32 c.ld, .list (en1 .u32 c.ms) .no, .list (en1 .u32 c.iv) .no]
instance ptInh : Inhabited Pt := ⟨⟨0, 0, [], []⟩⟩
abbrev RwP := Rw Pt
def csP (r : RwP) : List PV := [.int .u32 r.id, .int .u32 r.v.id, .int .u32 r.v.ld, .list (en1 .u32 r.v.ms) .no, .list (en1 .u32 r.v.iv) .no]
theorem csP_len (r : RwP) : (csP r).length = 5 := rfl
theorem low_csP {n : Nat} (r : RwP) : ∀ y ∈ csP r, Low n y := by
  intro y hy
  simp only [csP, List.mem_cons, List.not_mem_nil, or_false] at hy
  rcases hy with rfl | rfl | rfl | rfl | rfl <;> first | exact .int _ _ | exact .str _ | exact low_list1 NT.no
theorem lowvP (v : Pt) : Low 0 (Pt.pv v) := by first | exact .int _ _ | exact .str _ | (refine .agg _ ?_; intro y hy; simp only [List.mem_cons, List.not_mem_nil, or_false] at hy; rcases hy with rfl | rfl | rfl | rfl <;> first | exact .int _ _ | exact .str _ | exact low_list1 NT.no)
theorem low_tupvP (v : Pt) (b : Bool) : Low 0 (.tup [Pt.pv v, .bool b]) := .tup _ (by intro y hy; simp only [List.mem_cons, List.not_mem_nil, or_false] at hy; rcases hy with rfl | rfl; exact lowvP v; exact .bool _)
theorem one_csP (r : RwP) : ∀ y ∈ csP r, y.one = true := by
  intro y hy
  simp only [csP, List.mem_cons, List.not_mem_nil, or_false] at hy
  rcases hy with rfl | rfl | rfl | rfl | rfl <;> rfl
abbrev flP (l : List RwP) : List PV := (l.map csP).flatten
theorem flP_len (l : List RwP) : (flP l).length = l.length * 5 := rows_len csP_len l
theorem flP_at {l : List RwP} {k : Nat} (J : List PV) (h : k < l.length) : List.drop (k * 5) (flP l ++ J) = csP (l.getD k default) ++ (flP (l.drop (k + 1)) ++ J) := cells_at csP_len J default h
theorem flP_low {n : Nat} (l : List RwP) {J : List PV} (h : ∀ y ∈ J, Low n y) : ∀ y ∈ flP l ++ J, Low n y := low_flat (fun a _ => low_csP a) h
theorem flP_one (l : List RwP) {J : List PV} (h : ∀ y ∈ J, y.one = true) : ∀ y ∈ flP l ++ J, y.one = true := by
  intro y hy
  rcases List.mem_append.1 hy with h1 | h1
  · obtain ⟨c, h2, h3⟩ := List.mem_flatten.1 h1
    obtain ⟨a, _, rfl⟩ := List.mem_map.1 h2
    exact one_csP a y h3
  · exact h y h1
/-- a rack's objects: with rows; without -/
def hpAP (l : List RwP) (J : List PV) (cap : Nat) (most : Int) : Heap := [.cells [.arr 1 0 l.length cap, .int .i64 most], .cells (flP l ++ J)]
def hpNP (most : Int) : Heap := [.cells [.list [] .exact, .int .i64 most]]
/-- the objects of a rack -/
def EXP (l : List RwP) (most : Int) (H : Heap) : Prop :=
  (∃ (J : List PV) (cap : Nat), H = hpAP l J cap most ∧ l.length ≤ cap ∧ Room J ((cap - l.length) * 5)) ∨ (l = [] ∧ H = hpNP most)
theorem cmpP_vc (r : RwP) (t : Int)  (K : PV → Prop) (h : K (PV.int IntKind.i64 (cmpS (Rw.id r) t))) : ACalls Try.prog gl 96 [.agg (csP r), .int .u32 t] [] (fun x _ => K x) :=
  acalls_of_wpc2 (T := TK) (L := []) (fun _ => 0) Try.func96 (by kernel_rfl) (by kernel_rfl) (by kernel_rfl) (TK_ok) (LOk.nil _ _ _ _ _) (holds_of_eq (by kernel_rfl) h)
def cmpP_s (args : List PV) (K : PV → Prop) : Prop := ∃ (r : RwP) (t : Int), SlIs args [.agg (csP r), .int .u32 t] ∧ K (.int .i64 (cmpS r.id t))
theorem cmpP_ok : SpOk Try.prog gl 96 (.pure cmpP_s) := by
  rintro args K ⟨r, t, he, hk⟩
  have he : args = _ := he
  subst he
  exact spure gl_low (by intro y hy; simp only [List.mem_cons, List.not_mem_nil, or_false] at hy; rcases hy with rfl | rfl; exact .agg _ (low_csP r); exact .int _ _) (.int _ _) (cmpP_vc r t (fun y => y = .int .i64 (cmpS r.id t)) rfl) hk
def TCP : Tab := (96, .pure cmpP_s) :: TK
theorem TCP_ok : TabOk Try.prog gl TCP := .cons cmpP_ok TK_ok
theorem bslP_vc (l : List RwP) (J : List PV) (cap : Nat) (most : Int) (t : Int) (i j : Nat) (R : Ex → List PV → Heap → Prop) (h : br (decide ((↑i : Int) < (↑j : Int))) ((0 ≤ wI (Int.fdiv (IntKind.wrap IntKind.u64 (wI ((↑i : Int) + (↑j : Int)))) 2) ∧ wI (Int.fdiv (IntKind.wrap IntKind.u64 (wI ((↑i : Int) + (↑j : Int)))) 2) < (↑(List.length l) : Int)) ∧ br (true && fitX [CK.int IntKind.u32, CK.int IntKind.u32, CK.int IntKind.u32, CK.list, CK.list] 0 (List.drop (0 + Int.toNat (wI (Int.fdiv (IntKind.wrap IntKind.u64 (wI ((↑i : Int) + (↑j : Int)))) 2)) * 5) (flP l ++ J))) (∃ (r : RwP), ∃ (t_1 : Int), SlIs [PV.agg [PV.int IntKind.u32 (cI (List.drop (0 + Int.toNat (wI (Int.fdiv (IntKind.wrap IntKind.u64 (wI ((↑i : Int) + (↑j : Int)))) 2)) * 5) (flP l ++ J)) 0), PV.int IntKind.u32 (cI (List.drop (0 + Int.toNat (wI (Int.fdiv (IntKind.wrap IntKind.u64 (wI ((↑i : Int) + (↑j : Int)))) 2)) * 5) (flP l ++ J)) 1), PV.int IntKind.u32 (cI (List.drop (0 + Int.toNat (wI (Int.fdiv (IntKind.wrap IntKind.u64 (wI ((↑i : Int) + (↑j : Int)))) 2)) * 5) (flP l ++ J)) 2), PV.list (cL (List.drop (0 + Int.toNat (wI (Int.fdiv (IntKind.wrap IntKind.u64 (wI ((↑i : Int) + (↑j : Int)))) 2)) * 5) (flP l ++ J)) 3) (cT (List.drop (0 + Int.toNat (wI (Int.fdiv (IntKind.wrap IntKind.u64 (wI ((↑i : Int) + (↑j : Int)))) 2)) * 5) (flP l ++ J)) 3), PV.list (cL (List.drop (0 + Int.toNat (wI (Int.fdiv (IntKind.wrap IntKind.u64 (wI ((↑i : Int) + (↑j : Int)))) 2)) * 5) (flP l ++ J)) 4) (cT (List.drop (0 + Int.toNat (wI (Int.fdiv (IntKind.wrap IntKind.u64 (wI ((↑i : Int) + (↑j : Int)))) 2)) * 5) (flP l ++ J)) 4)], PV.int IntKind.u32 t] [PV.agg [PV.int IntKind.u32 (Rw.id r), PV.int IntKind.u32 (Pt.id (Rw.v r)), PV.int IntKind.u32 (Pt.ld (Rw.v r)), PV.list (en1 IntKind.u32 (Pt.ms (Rw.v r))) Tail.no, PV.list (en1 IntKind.u32 (Pt.iv (Rw.v r))) Tail.no], PV.int IntKind.u32 t_1] ∧ br (decide (cmpS (Rw.id r) t_1 < 0)) (R Ex.normal [PV.arr 1 0 (List.length l) cap, PV.int IntKind.u32 t, PV.fn 96 [], PV.int IntKind.i64 (↑(List.length l) : Int), PV.int IntKind.i64 (wI (wI (Int.fdiv (IntKind.wrap IntKind.u64 (wI ((↑i : Int) + (↑j : Int)))) 2) + 1)), PV.int IntKind.i64 (↑j : Int)] [Ob.cells [PV.arr 1 0 (List.length l) cap, PV.int IntKind.i64 most], Ob.cells (flP l ++ J)]) (R Ex.normal [PV.arr 1 0 (List.length l) cap, PV.int IntKind.u32 t, PV.fn 96 [], PV.int IntKind.i64 (↑(List.length l) : Int), PV.int IntKind.i64 (↑i : Int), PV.int IntKind.i64 (wI (Int.fdiv (IntKind.wrap IntKind.u64 (wI ((↑i : Int) + (↑j : Int)))) 2))] [Ob.cells [PV.arr 1 0 (List.length l) cap, PV.int IntKind.i64 most], Ob.cells (flP l ++ J)])) False) (R (Ex.exit 0) [PV.arr 1 0 (List.length l) cap, PV.int IntKind.u32 t, PV.fn 96 [], PV.int IntKind.i64 (↑(List.length l) : Int), PV.int IntKind.i64 (↑i : Int), PV.int IntKind.i64 (↑j : Int)] [Ob.cells [PV.arr 1 0 (List.length l) cap, PV.int IntKind.i64 most], Ob.cells (flP l ++ J)])) : Holds (wpc br Try.prog gl TCP [] (fun _ => 0) (subOf [1, 1, 1, 0, 0] (bodyOf Try.f95)) [] (envS [0, 1, 2, 8, 9, 10] [.arr 1 0 l.length cap, .int .u32 t, .fn 96 [], .int .i64 l.length, .int .i64 i, .int .i64 j]) [.cells [.arr 1 0 l.length cap, .int .i64 most], .cells (flP l ++ J)] (fun ex e H => R ex (List.map e [0, 1, 2, 8, 9, 10]) H)) := holds_of_eq (by kernel_rfl) h
theorem bsmP_vc (most t : Int) (R : Ex → List PV → Heap → Prop) (h : R (Ex.exit 0) [PV.list [] Tail.exact, PV.int IntKind.u32 t, PV.fn 96 [], PV.int IntKind.i64 0, PV.int IntKind.i64 0, PV.int IntKind.i64 0] [Ob.cells [PV.list [] Tail.exact, PV.int IntKind.i64 most]]) : Holds (wpc br Try.prog gl TCP [] (fun _ => 0) (subOf [1, 1, 1, 0, 0] (bodyOf Try.f95)) [] (envS [0, 1, 2, 8, 9, 10] [.list [] .exact, .int .u32 t, .fn 96 [], .int .i64 0, .int .i64 0, .int .i64 0]) [.cells [.list [] .exact, .int .i64 most]] (fun ex e H => R ex (List.map e [0, 1, 2, 8, 9, 10]) H)) := holds_of_eq (by kernel_rfl) h
def bsP_l : LSp := fun e H Q => ∃ (l : List RwP) (J : List PV) (cap : Nat) (most t : Int) (p : Nat), Lb l t p ∧ l.length ≤ 1000000 ∧ SlIs (List.map e [0, 1, 2, 8, 9, 10]) [.arr 1 0 l.length cap, .int .u32 t, .fn 96 [], .int .i64 l.length, .int .i64 0, .int .i64 l.length] ∧ HpIs H (hpAP l J cap most) ∧
  Q (.exit 0) (envS [0, 1, 2, 8, 9, 10] [.arr 1 0 l.length cap, .int .u32 t, .fn 96 [], .int .i64 l.length, .int .i64 p, .int .i64 p]) (hpAP l J cap most)
theorem bsP_l_ok : ∀ e H Q, bsP_l e H Q → AW Try.prog gl Try.f95.ntmps (.loop (subOf [1, 1, 1, 0, 0] (bodyOf Try.f95))) Q e H := by
  rintro e H Q ⟨l, J, cap, most, t, p, hp, hl, he, hH, hQ⟩
  refine aw_loop4 (hn := fun _ => 0) gl_low TCP_ok (.nil _ _ _ _ _) (σ := Nat × Nat) [0, 1, 2, 8, 9, 10] (fun s => s.1 ≤ p ∧ p ≤ s.2 ∧ s.2 ≤ l.length)
    (fun s => [.arr 1 0 l.length cap, .int .u32 t, .fn 96 [], .int .i64 l.length, .int .i64 s.1, .int .i64 s.2]) (fun _ => hpAP l J cap most) (fun s => s.2 - s.1) (0, l.length) ⟨Nat.zero_le _, hp.le, Nat.le_refl _⟩ he hH ?_
  rintro ⟨i, j⟩ ⟨h1, h2, h3⟩
  simp only at h1 h2 h3
  refine bslP_vc l J cap most t i j _ ?_
  simp only [br_if, dt]
  by_cases h : i < j
  · rw [if_pos (by omega)]
    obtain ⟨k, hk⟩ : ∃ k, k = (i + j) / 2 := ⟨_, rfl⟩
    have e1 : wI (Int.fdiv (IntKind.wrap .u64 (wI ((i : Int) + j))) 2) = (k : Int) := by
      rw [w_small (n := (i : Int) + j) (by omega) (by omega), wrap_u64 (by omega) (by omega), Int.fdiv_eq_ediv_of_nonneg _ (by decide), w_small (by omega) (by omega)]
      omega
    simp only [e1, toNat_nat, Nat.zero_add]
    have hkl : k < l.length := by omega
    rw [flP_at J hkl]
    refine ⟨⟨by omega, by omega⟩, ?_⟩
    rw [if_pos (by rfl)]
    refine ⟨l.getD k default, t, rfl, ?_⟩
    by_cases c : cmpS (l.getD k default).id t < 0
    · rw [if_pos c]
      have hc : (l.getD k default).id < t := by unfold cmpS at c; split at c; assumption; split at c <;> omega
      have hkp : k < p := by
        rcases Nat.lt_or_ge k p with q | q
        · exact q
        · have := hp.hi k q hkl; omega
      exact ⟨(k + 1, j), (show j - (k + 1) < j - i by omega), ⟨hkp, h2, h3⟩, by rw [wI_succ hkl (by omega)], [], rfl, Nat.le_refl _, .inl rfl⟩
    · rw [if_neg c]
      have hc : t ≤ (l.getD k default).id := by unfold cmpS at c; split at c <;> omega
      have hkp : p ≤ k := by
        rcases Nat.lt_or_ge k p with q | q
        · have := hp.lo k q; omega
        · exact q
      exact ⟨(i, k), (show k - i < j - i by omega), ⟨h1, hkp, by omega⟩, rfl, [], rfl, Nat.le_refl _, .inl rfl⟩
  · rw [if_neg (by omega)]
    have e1 : i = p := by omega
    have e2 : j = p := by omega
    subst e1
    subst e2
    exact hQ
def bnP_l : LSp := fun e H Q => ∃ (most t : Int), SlIs (List.map e [0, 1, 2, 8, 9, 10]) [.list [] .exact, .int .u32 t, .fn 96 [], .int .i64 0, .int .i64 0, .int .i64 0] ∧ HpIs H (hpNP most) ∧
  Q (.exit 0) (envS [0, 1, 2, 8, 9, 10] [.list [] .exact, .int .u32 t, .fn 96 [], .int .i64 0, .int .i64 0, .int .i64 0]) (hpNP most)
theorem bnP_l_ok : ∀ e H Q, bnP_l e H Q → AW Try.prog gl Try.f95.ntmps (.loop (subOf [1, 1, 1, 0, 0] (bodyOf Try.f95))) Q e H := by
  rintro e H Q ⟨most, t, he, hH, hQ⟩
  refine aw_loop4 (hn := fun _ => 0) gl_low TCP_ok (.nil _ _ _ _ _) (σ := Unit) [0, 1, 2, 8, 9, 10] (fun _ => True)
    (fun _ => [.list [] .exact, .int .u32 t, .fn 96 [], .int .i64 0, .int .i64 0, .int .i64 0]) (fun _ => hpNP most) (fun _ => 0) () trivial he hH ?_
  intro _ _
  exact bsmP_vc most t _ hQ
theorem bsfP_vc (l : List RwP) (J : List PV) (cap : Nat) (most : Int) (t : Int)  (K : PV → Heap → Prop) (h : ∃ (l_1 : List RwP), ∃ (J_1 : List PV), ∃ (cap_1 : Nat), ∃ (most_1 : Int), ∃ (t_1 : Int), ∃ (p : Nat), Lb l_1 t_1 p ∧ List.length l_1 ≤ 1000000 ∧ SlIs [PV.arr 1 0 (List.length l) cap, PV.int IntKind.u32 t, PV.fn 96 [], PV.int IntKind.i64 (↑(List.length l) : Int), PV.int IntKind.i64 0, PV.int IntKind.i64 (↑(List.length l) : Int)] [PV.arr 1 0 (List.length l_1) cap_1, PV.int IntKind.u32 t_1, PV.fn 96 [], PV.int IntKind.i64 (↑(List.length l_1) : Int), PV.int IntKind.i64 0, PV.int IntKind.i64 (↑(List.length l_1) : Int)] ∧ HpIs [Ob.cells [PV.arr 1 0 (List.length l) cap, PV.int IntKind.i64 most], Ob.cells (flP l ++ J)] [Ob.cells [PV.arr 1 0 (List.length l_1) cap_1, PV.int IntKind.i64 most_1], Ob.cells (flP l_1 ++ J_1)] ∧ br (decide ((↑p : Int) < (↑(List.length l_1) : Int)) == true) ((0 ≤ (↑p : Int) ∧ (↑p : Int) < (↑(List.length l_1) : Int)) ∧ br (true && fitX [CK.int IntKind.u32, CK.int IntKind.u32, CK.int IntKind.u32, CK.list, CK.list] 0 (List.drop (0 + Int.toNat (↑p : Int) * 5) (flP l_1 ++ J_1))) (∃ (r : RwP), ∃ (t : Int), SlIs [PV.agg [PV.int IntKind.u32 (cI (List.drop (0 + Int.toNat (↑p : Int) * 5) (flP l_1 ++ J_1)) 0), PV.int IntKind.u32 (cI (List.drop (0 + Int.toNat (↑p : Int) * 5) (flP l_1 ++ J_1)) 1), PV.int IntKind.u32 (cI (List.drop (0 + Int.toNat (↑p : Int) * 5) (flP l_1 ++ J_1)) 2), PV.list (cL (List.drop (0 + Int.toNat (↑p : Int) * 5) (flP l_1 ++ J_1)) 3) (cT (List.drop (0 + Int.toNat (↑p : Int) * 5) (flP l_1 ++ J_1)) 3), PV.list (cL (List.drop (0 + Int.toNat (↑p : Int) * 5) (flP l_1 ++ J_1)) 4) (cT (List.drop (0 + Int.toNat (↑p : Int) * 5) (flP l_1 ++ J_1)) 4)], PV.int IntKind.u32 t_1] [PV.agg [PV.int IntKind.u32 (Rw.id r), PV.int IntKind.u32 (Pt.id (Rw.v r)), PV.int IntKind.u32 (Pt.ld (Rw.v r)), PV.list (en1 IntKind.u32 (Pt.ms (Rw.v r))) Tail.no, PV.list (en1 IntKind.u32 (Pt.iv (Rw.v r))) Tail.no], PV.int IntKind.u32 t] ∧ K (PV.tup [PV.int IntKind.i64 (↑p : Int), PV.bool (cmpS (Rw.id r) t == 0)]) [Ob.cells [PV.arr 1 0 (List.length l_1) cap_1, PV.int IntKind.i64 most_1], Ob.cells (flP l_1 ++ J_1)]) False) (K (PV.tup [PV.int IntKind.i64 (↑p : Int), PV.bool false]) [Ob.cells [PV.arr 1 0 (List.length l_1) cap_1, PV.int IntKind.i64 most_1], Ob.cells (flP l_1 ++ J_1)])) : ACalls Try.prog gl 95 [.arr 1 0 l.length cap, .int .u32 t, .fn 96 []] [.cells [.arr 1 0 l.length cap, .int .i64 most], .cells (flP l ++ J)] K :=
  acalls_of_wpc2 (T := TCP) (L := [([1, 1, 1, 0, 0], bsP_l)]) (fun _ => 0) Try.func95 (by kernel_rfl) (by kernel_rfl) (by kernel_rfl) (TCP_ok) (.cons (sub_of (by kernel_rfl)) bsP_l_ok (.nil _ _ _ _ _)) (holds_of_eq (by kernel_rfl) h)
theorem bsnP_vc (most t : Int)  (K : PV → Heap → Prop) (h : ∃ (most_1 : Int), ∃ (t_1 : Int), SlIs [PV.list [] Tail.exact, PV.int IntKind.u32 t, PV.fn 96 [], PV.int IntKind.i64 0, PV.int IntKind.i64 0, PV.int IntKind.i64 0] [PV.list [] Tail.exact, PV.int IntKind.u32 t_1, PV.fn 96 [], PV.int IntKind.i64 0, PV.int IntKind.i64 0, PV.int IntKind.i64 0] ∧ HpIs [Ob.cells [PV.list [] Tail.exact, PV.int IntKind.i64 most]] [Ob.cells [PV.list [] Tail.exact, PV.int IntKind.i64 most_1]] ∧ K (PV.tup [PV.int IntKind.i64 0, PV.bool false]) [Ob.cells [PV.list [] Tail.exact, PV.int IntKind.i64 most_1]]) : ACalls Try.prog gl 95 [.list [] .exact, .int .u32 t, .fn 96 []] [.cells [.list [] .exact, .int .i64 most]] K :=
  acalls_of_wpc2 (T := TCP) (L := [([1, 1, 1, 0, 0], bnP_l)]) (fun _ => 0) Try.func95 (by kernel_rfl) (by kernel_rfl) (by kernel_rfl) (TCP_ok) (.cons (sub_of (by kernel_rfl)) bnP_l_ok (.nil _ _ _ _ _)) (holds_of_eq (by kernel_rfl) h)
def bsP_s (args : List PV) (H : Heap) (K : PV → Prop) : Prop :=
  (∃ (l : List RwP) (J : List PV) (cap : Nat) (most t : Int), SlIs args [.arr 1 0 l.length cap, .int .u32 t, .fn 96 []] ∧ HpIs H (hpAP l J cap most) ∧ Ok l most ∧ K (.tup [.int .i64 (lbp l t), .bool (has l t)])) ∨
  (∃ (most t : Int), SlIs args [.list [] .exact, .int .u32 t, .fn 96 []] ∧ HpIs H (hpNP most) ∧ K (.tup [.int .i64 0, .bool false]))
theorem bsP_ok : SpOk Try.prog gl 95 (.read bsP_s) := by
  rintro args H K (⟨l, J, cap, most, t, he, hH, ok, hk⟩ | ⟨most, t, he, hH, hk⟩)
  · have he : args = _ := he
    have hH : H = _ := hH
    subst he
    subst hH
    obtain ⟨p, hpe⟩ : ∃ p, p = lbp l t := ⟨_, rfl⟩
    have hp : Lb l t p := hpe ▸ ok.lb t
    unfold has at hk
    rw [← hpe] at hk
    refine ⟨_, bsfP_vc l J cap most t _ ⟨l, J, cap, most, t, p, hp, ok.len, rfl, rfl, ?_⟩, hk⟩
    simp only [br_if, bt, dt]
    by_cases c : p < l.length
    · rw [if_pos (by omega)]
      simp only [toNat_nat, Nat.zero_add]
      rw [flP_at J c]
      refine ⟨⟨by omega, by omega⟩, ?_⟩
      rw [if_pos (by rfl)]
      refine ⟨l.getD p default, t, rfl, ?_, rfl⟩
      unfold hitP
      have e : ((cmpS (l.getD p default).id t) == 0) = decide (p < l.length ∧ (l.getD p default).id = t) := by
        rw [Bool.eq_iff_iff, beq_iff_eq, decide_eq_true_eq]
        unfold cmpS
        constructor
        · intro h; refine ⟨c, ?_⟩; split at h; omega; split at h <;> omega
        · rintro ⟨_, h⟩; rw [if_neg (by omega), if_neg (by omega)]
      rw [e]
    · rw [if_neg (by omega)]
      unfold hitP
      rw [decide_eq_false (fun h => c h.1)]
      exact ⟨rfl, rfl⟩
  · have he : args = _ := he
    have hH : H = _ := hH
    subst he
    subst hH
    exact ⟨_, bsnP_vc most t _ ⟨most, t, rfl, rfl, rfl, rfl⟩, hk⟩
def TBP : Tab := (95, .read bsP_s) :: TCP
theorem TBP_ok : TabOk Try.prog gl TBP := .cons bsP_ok TCP_ok
theorem atAP_vc (l : List RwP) (J : List PV) (cap : Nat) (most : Int) (t : Int)  (K : PV → Heap → Prop) (h : (∃ (l_1 : List RwP), ∃ (J_1 : List PV), ∃ (cap_1 : Nat), ∃ (most_1 : Int), ∃ (t_1 : Int), SlIs [PV.arr 1 0 (List.length l) cap, PV.int IntKind.u32 t, PV.fn 96 []] [PV.arr 1 0 (List.length l_1) cap_1, PV.int IntKind.u32 t_1, PV.fn 96 []] ∧ HpIs [Ob.cells [PV.arr 1 0 (List.length l) cap, PV.int IntKind.i64 most], Ob.cells (flP l ++ J)] [Ob.cells [PV.arr 1 0 (List.length l_1) cap_1, PV.int IntKind.i64 most_1], Ob.cells (flP l_1 ++ J_1)] ∧ Ok l_1 most_1 ∧ K (PV.tup [PV.int IntKind.i64 (↑(lbp l_1 t_1) : Int), PV.bool (has l_1 t_1)]) [Ob.cells [PV.arr 1 0 (List.length l) cap, PV.int IntKind.i64 most], Ob.cells (flP l ++ J)]) ∨ ∃ (most_1 : Int), ∃ (t_1 : Int), SlIs [PV.arr 1 0 (List.length l) cap, PV.int IntKind.u32 t, PV.fn 96 []] [PV.list [] Tail.exact, PV.int IntKind.u32 t_1, PV.fn 96 []] ∧ HpIs [Ob.cells [PV.arr 1 0 (List.length l) cap, PV.int IntKind.i64 most], Ob.cells (flP l ++ J)] [Ob.cells [PV.list [] Tail.exact, PV.int IntKind.i64 most_1]] ∧ K (PV.tup [PV.int IntKind.i64 0, PV.bool false]) [Ob.cells [PV.arr 1 0 (List.length l) cap, PV.int IntKind.i64 most], Ob.cells (flP l ++ J)]) : ACalls Try.prog gl 86 [.ptr 0 0, .int .u32 t] [.cells [.arr 1 0 l.length cap, .int .i64 most], .cells (flP l ++ J)] K :=
  acalls_of_wpc2 (T := TBP) (L := []) (fun o => match o.op with | .load t _ => (match t with | 138 => 1 | _ => 0) | _ => 0) Try.func86 (by kernel_rfl) (by kernel_rfl) (by kernel_rfl) (TBP_ok) (LOk.nil _ _ _ _ _) (holds_of_eq (by kernel_rfl) h)
theorem atNP_vc (most t : Int)  (K : PV → Heap → Prop) (h : (∃ (l : List RwP), ∃ (J : List PV), ∃ (cap : Nat), ∃ (most_1 : Int), ∃ (t_1 : Int), SlIs [PV.list [] Tail.exact, PV.int IntKind.u32 t, PV.fn 96 []] [PV.arr 1 0 (List.length l) cap, PV.int IntKind.u32 t_1, PV.fn 96 []] ∧ HpIs [Ob.cells [PV.list [] Tail.exact, PV.int IntKind.i64 most]] [Ob.cells [PV.arr 1 0 (List.length l) cap, PV.int IntKind.i64 most_1], Ob.cells (flP l ++ J)] ∧ Ok l most_1 ∧ K (PV.tup [PV.int IntKind.i64 (↑(lbp l t_1) : Int), PV.bool (has l t_1)]) [Ob.cells [PV.list [] Tail.exact, PV.int IntKind.i64 most]]) ∨ ∃ (most_1 : Int), ∃ (t_1 : Int), SlIs [PV.list [] Tail.exact, PV.int IntKind.u32 t, PV.fn 96 []] [PV.list [] Tail.exact, PV.int IntKind.u32 t_1, PV.fn 96 []] ∧ HpIs [Ob.cells [PV.list [] Tail.exact, PV.int IntKind.i64 most]] [Ob.cells [PV.list [] Tail.exact, PV.int IntKind.i64 most_1]] ∧ K (PV.tup [PV.int IntKind.i64 0, PV.bool false]) [Ob.cells [PV.list [] Tail.exact, PV.int IntKind.i64 most]]) : ACalls Try.prog gl 86 [.ptr 0 0, .int .u32 t] [.cells [.list [] .exact, .int .i64 most]] K :=
  acalls_of_wpc2 (T := TBP) (L := []) (fun o => match o.op with | .load t _ => (match t with | 138 => 1 | _ => 0) | _ => 0) Try.func86 (by kernel_rfl) (by kernel_rfl) (by kernel_rfl) (TBP_ok) (LOk.nil _ _ _ _ _) (holds_of_eq (by kernel_rfl) h)
def atP_s (args : List PV) (H : Heap) (K : PV → Prop) : Prop :=
  ∃ (l : List RwP) (most t : Int), SlIs args [.ptr 0 0, .int .u32 t] ∧ EXP l most H ∧ Ok l most ∧ K (.tup [.int .i64 (lbp l t), .bool (has l t)])
theorem atP_ok : SpOk Try.prog gl 86 (.read atP_s) := by
  rintro args H K ⟨l, most, t, he, hH, ok, hk⟩
  have he : args = _ := he
  subst he
  rcases hH with ⟨J, cap, rfl, _, _⟩ | ⟨rfl, rfl⟩
  · exact ⟨_, atAP_vc l J cap most t _ (.inl ⟨l, J, cap, most, t, rfl, rfl, ok, rfl, rfl⟩), hk⟩
  · exact ⟨_, atNP_vc most t _ (.inr ⟨most, t, rfl, rfl, rfl, rfl⟩), hk⟩
def TAP : Tab := (86, .read atP_s) :: TBP
theorem TAP_ok : TabOk Try.prog gl TAP := .cons atP_ok TBP_ok
theorem EXP_A {l : List RwP} {J : List PV} {cap : Nat} {most : Int} (h : l.length ≤ cap) (hJ : Room J ((cap - l.length) * 5)) : EXP l most [.cells [.arr 1 0 l.length cap, .int .i64 most], .cells (flP l ++ J)] := .inl ⟨J, cap, rfl, h, hJ⟩
theorem EXP_N {most : Int} : EXP [] most [.cells [.list [] .exact, .int .i64 most]] := .inr ⟨rfl, rfl⟩
-- the same, where objects lie behind
def EXTP (l : List RwP) (most : Int) (H : Heap) : Prop := ∃ X G : Heap, H = X ++ G ∧ EXP l most X
theorem hpAP_lid {l : List RwP} {J : List PV} {cap : Nat} {most : Int} {n : Nat} (hn : 2 ≤ n) (h : ∀ y ∈ J, Low 0 y) : LidH n (hpAP l J cap most) :=
  lidH_two (fun y hy => by simp only [List.mem_cons, List.not_mem_nil, or_false] at hy; rcases hy with rfl | rfl; exact .arr _ _ _ _ (by omega); exact .low (.int _ _)) (fun y hy => .low (flP_low l h y hy))
theorem hpNP_lid {most : Int} {n : Nat} : LidH n (hpNP most) :=
  lidH_one (fun y hy => by simp only [List.mem_cons, List.not_mem_nil, or_false] at hy; rcases hy with rfl | rfl; exact .low (low_list NT.exact (fun _ h => nomatch h)); exact .low (.int _ _))
def atTP_s (args : List PV) (H : Heap) (K : PV → Prop) : Prop :=
  ∃ (l : List RwP) (most t : Int), SlIs args [.ptr 0 0, .int .u32 t] ∧ EXTP l most H ∧ Ok l most ∧ K (.tup [.int .i64 (lbp l t), .bool (has l t)])
theorem atTP_ok : SpOk Try.prog gl 86 (.read atTP_s) := by
  rintro args H K ⟨l, most, t, he, ⟨X, G, rfl, hX⟩, ok, hk⟩
  have he : args = _ := he
  subst he
  obtain ⟨r, h1, rfl⟩ := atP_ok _ X (fun x => x = .tup [.int .i64 (lbp l t), .bool (has l t)]) ⟨l, most, t, rfl, hX, ok, rfl⟩
  have hlow : Low 0 (.tup [.int .i64 (lbp l t), .bool (has l t)]) := .tup _ (by intro y hy; simp only [List.mem_cons, List.not_mem_nil, or_false] at hy; rcases hy with rfl | rfl; exact .int _ _; exact .bool _)
  refine ⟨_, ?_, hk⟩
  rcases hX with ⟨J, cap, rfl, hc, hJ⟩ | ⟨rfl, rfl⟩
  · exact read_tail gl_low (by intro y hy; simp only [List.mem_cons, List.not_mem_nil, or_false] at hy; rcases hy with rfl | rfl; exact .ptr _ _ (by simp [hpAP]); exact .low (.int _ _)) (hpAP_lid (by simp [hpAP]) hJ.low) hlow h1
  · exact read_tail gl_low (by intro y hy; simp only [List.mem_cons, List.not_mem_nil, or_false] at hy; rcases hy with rfl | rfl; exact .ptr _ _ (by simp [hpNP]); exact .low (.int _ _)) hpNP_lid hlow h1
def TATP : Tab := (86, .read atTP_s) :: TAP
theorem TATP_ok : TabOk Try.prog gl TATP := .cons atTP_ok TAP_ok
theorem getAP_vc (l : List RwP) (J : List PV) (cap : Nat) (most : Int) (t : Int)  (K : PV → Heap → Prop) (h : ∃ (l_1 : List RwP), ∃ (most_1 : Int), ∃ (t_1 : Int), SlIs [PV.ptr 0 0, PV.int IntKind.u32 t] [PV.ptr 0 0, PV.int IntKind.u32 t_1] ∧ EXTP l_1 most_1 [Ob.cells [PV.arr 1 0 (List.length l) cap, PV.int IntKind.i64 most], Ob.cells (flP l ++ J), Ob.cells [PV.int IntKind.u32 0, PV.int IntKind.u32 0, PV.list [] Tail.exact, PV.list [] Tail.exact]] ∧ Ok l_1 most_1 ∧ br (has l_1 t_1) ((0 ≤ (↑(lbp l_1 t_1) : Int) ∧ (↑(lbp l_1 t_1) : Int) < (↑(List.length l) : Int)) ∧ br (true && fitX [CK.int IntKind.u32, CK.int IntKind.u32, CK.list, CK.list] 0 (List.drop (0 + Int.toNat (↑(lbp l_1 t_1) : Int) * 5 + 1) (flP l ++ J))) (K (PV.tup [PV.agg [PV.int IntKind.u32 (cI (List.drop (0 + Int.toNat (↑(lbp l_1 t_1) : Int) * 5 + 1) (flP l ++ J)) 0), PV.int IntKind.u32 (cI (List.drop (0 + Int.toNat (↑(lbp l_1 t_1) : Int) * 5 + 1) (flP l ++ J)) 1), PV.list (cL (List.drop (0 + Int.toNat (↑(lbp l_1 t_1) : Int) * 5 + 1) (flP l ++ J)) 2) (cT (List.drop (0 + Int.toNat (↑(lbp l_1 t_1) : Int) * 5 + 1) (flP l ++ J)) 2), PV.list (cL (List.drop (0 + Int.toNat (↑(lbp l_1 t_1) : Int) * 5 + 1) (flP l ++ J)) 3) (cT (List.drop (0 + Int.toNat (↑(lbp l_1 t_1) : Int) * 5 + 1) (flP l ++ J)) 3)], PV.bool (has l_1 t_1)]) [Ob.cells [PV.arr 1 0 (List.length l) cap, PV.int IntKind.i64 most], Ob.cells (flP l ++ J), Ob.cells [PV.int IntKind.u32 (cI (List.drop (0 + Int.toNat (↑(lbp l_1 t_1) : Int) * 5 + 1) (flP l ++ J)) 0), PV.int IntKind.u32 (cI (List.drop (0 + Int.toNat (↑(lbp l_1 t_1) : Int) * 5 + 1) (flP l ++ J)) 1), PV.list (cL (List.drop (0 + Int.toNat (↑(lbp l_1 t_1) : Int) * 5 + 1) (flP l ++ J)) 2) (cT (List.drop (0 + Int.toNat (↑(lbp l_1 t_1) : Int) * 5 + 1) (flP l ++ J)) 2), PV.list (cL (List.drop (0 + Int.toNat (↑(lbp l_1 t_1) : Int) * 5 + 1) (flP l ++ J)) 3) (cT (List.drop (0 + Int.toNat (↑(lbp l_1 t_1) : Int) * 5 + 1) (flP l ++ J)) 3)]]) False) (K (PV.tup [PV.agg [PV.int IntKind.u32 0, PV.int IntKind.u32 0, PV.list [] Tail.exact, PV.list [] Tail.exact], PV.bool (has l_1 t_1)]) [Ob.cells [PV.arr 1 0 (List.length l) cap, PV.int IntKind.i64 most], Ob.cells (flP l ++ J), Ob.cells [PV.int IntKind.u32 0, PV.int IntKind.u32 0, PV.list [] Tail.exact, PV.list [] Tail.exact]])) : ACalls Try.prog gl 69 [.ptr 0 0, .int .u32 t] [.cells [.arr 1 0 l.length cap, .int .i64 most], .cells (flP l ++ J)] K :=
  acalls_of_wpc2 (T := TATP) (L := []) (fun o => match o.op with | .load t _ => (match t with | 138 => 1 | _ => 0) | _ => 0) Try.func69 (by kernel_rfl) (by kernel_rfl) (by kernel_rfl) (TATP_ok) (LOk.nil _ _ _ _ _) (holds_of_eq (by kernel_rfl) h)
theorem getNP_vc (most t : Int)  (K : PV → Heap → Prop) (h : ∃ (l : List RwP), ∃ (most_1 : Int), ∃ (t_1 : Int), SlIs [PV.ptr 0 0, PV.int IntKind.u32 t] [PV.ptr 0 0, PV.int IntKind.u32 t_1] ∧ EXTP l most_1 [Ob.cells [PV.list [] Tail.exact, PV.int IntKind.i64 most], Ob.cells [PV.int IntKind.u32 0, PV.int IntKind.u32 0, PV.list [] Tail.exact, PV.list [] Tail.exact]] ∧ Ok l most_1 ∧ br (has l t_1) (InL [] 5 (↑(lbp l t_1) : Int) ∧ False) (K (PV.tup [PV.agg [PV.int IntKind.u32 0, PV.int IntKind.u32 0, PV.list [] Tail.exact, PV.list [] Tail.exact], PV.bool (has l t_1)]) [Ob.cells [PV.list [] Tail.exact, PV.int IntKind.i64 most], Ob.cells [PV.int IntKind.u32 0, PV.int IntKind.u32 0, PV.list [] Tail.exact, PV.list [] Tail.exact]])) : ACalls Try.prog gl 69 [.ptr 0 0, .int .u32 t] [.cells [.list [] .exact, .int .i64 most]] K :=
  acalls_of_wpc2 (T := TATP) (L := []) (fun o => match o.op with | .load t _ => (match t with | 138 => 1 | _ => 0) | _ => 0) Try.func69 (by kernel_rfl) (by kernel_rfl) (by kernel_rfl) (TATP_ok) (LOk.nil _ _ _ _ _) (holds_of_eq (by kernel_rfl) h)
def geEP_s (args : List PV) (H : Heap) (K : PV → Prop) : Prop :=
  ∃ (l : List RwP) (most t : Int), SlIs args [.ptr 0 0, .int .u32 t] ∧ EXP l most H ∧ Ok l most ∧ K (.tup [(let v := getR l t; Pt.pv v), .bool (has l t)])
theorem geEP_ok : SpOk Try.prog gl 69 (.read geEP_s) := by
  rintro args H K ⟨l, most, t, he, hH, ok, hk⟩
  have he : args = _ := he
  subst he
  refine ⟨_, ACalls.same (low_tupvP _ _).up (acalls_weak ?_), hk⟩
  rcases hH with ⟨J, cap, rfl, hc, hJ⟩ | ⟨rfl, rfl⟩
  · refine getAP_vc l J cap most t _ ⟨l, most, t, rfl, ⟨_, [_], rfl, EXP_A hc hJ⟩, ok, ?_⟩
    simp only [br_if]
    unfold getR
    cases c : has l t with
    | true =>
      obtain ⟨c1, c2⟩ := has_lt c
      rw [if_pos rfl, if_pos rfl]
      simp only [toNat_nat, Nat.zero_add]
      rw [← List.drop_drop, flP_at J c1]
      exact ⟨⟨by omega, by omega⟩, by first | exact ⟨_, .tup (.cons (.agg (.cons (.refl _) (.cons (.refl _) (.cons (.list _ _) (.cons (.list _ _) .nil))))) (.cons (.refl _) .nil)), rfl, [_], rfl⟩ | (rw [if_pos (by rfl)]; exact ⟨_, .tup (.cons (.agg (.cons (.refl _) (.cons (.refl _) (.cons (.list _ _) (.cons (.list _ _) .nil))))) (.cons (.refl _) .nil)), rfl, [_], rfl⟩)⟩
    | false => rw [if_neg (by decide), if_neg (by decide)]; exact ⟨_, .tup (.cons (.agg (.cons (.refl _) (.cons (.refl _) (.cons (.list _ _) (.cons (.list _ _) .nil))))) (.cons (.refl _) .nil)), rfl, [_], rfl⟩
  · refine getNP_vc most t _ ⟨[], most, t, rfl, ⟨_, [_], rfl, EXP_N⟩, ok, ?_⟩
    exact ⟨_, .tup (.cons (.agg (.cons (.refl _) (.cons (.refl _) (.cons (.list _ _) (.cons (.list _ _) .nil))))) (.cons (.refl _) .nil)), rfl, [_], rfl⟩
def TGP : Tab := (69, .read geEP_s) :: TAP
theorem TGP_ok : TabOk Try.prog gl TGP := .cons geEP_ok TAP_ok
def geTP_s (args : List PV) (H : Heap) (K : PV → Prop) : Prop :=
  ∃ (l : List RwP) (most t : Int), SlIs args [.ptr 0 0, .int .u32 t] ∧ EXTP l most H ∧ Ok l most ∧ K (.tup [(let v := getR l t; Pt.pv v), .bool (has l t)])
theorem geTP_ok : SpOk Try.prog gl 69 (.read geTP_s) := by
  rintro args H K ⟨l, most, t, he, ⟨X, G, rfl, hX⟩, ok, hk⟩
  have he : args = _ := he
  subst he
  obtain ⟨r, h1, rfl⟩ := geEP_ok _ X (fun x => x = .tup [(let v := getR l t; Pt.pv v), .bool (has l t)]) ⟨l, most, t, rfl, hX, ok, rfl⟩
  refine ⟨_, ?_, hk⟩
  rcases hX with ⟨J, cap, rfl, hc, hJ⟩ | ⟨rfl, rfl⟩
  · exact read_tail gl_low (by intro y hy; simp only [List.mem_cons, List.not_mem_nil, or_false] at hy; rcases hy with rfl | rfl; exact .ptr _ _ (by simp [hpAP]); exact .low (.int _ _)) (hpAP_lid (by simp [hpAP]) hJ.low) (low_tupvP _ _) h1
  · exact read_tail gl_low (by intro y hy; simp only [List.mem_cons, List.not_mem_nil, or_false] at hy; rcases hy with rfl | rfl; exact .ptr _ _ (by simp [hpNP]); exact .low (.int _ _)) hpNP_lid (low_tupvP _ _) h1
theorem ovlP_ok : SpOk Try.prog gl 101 (.ext overlaps_s) :=
  overlaps_ok (t := 138) (e := 147) (b := true) (sz := 5) Try.func101 (by kernel_rfl) (by kernel_rfl) (by kernel_rfl) (by kernel_rfl) (by kernel_rfl) (by kernel_rfl) (by kernel_rfl)
def TIP : Tab := (101, .ext overlaps_s) :: TGP
theorem TIP_ok : TabOk Try.prog gl TIP := .cons ovlP_ok TGP_ok
theorem insAP_vc (l : List RwP) (J : List PV) (cap : Nat) (most : Int) (r : RwP) (p : Nat)  (K : PV → Heap → Prop) (h : (0 ≤ (↑p : Int) ∧ (↑p : Int) ≤ (↑(List.length l) : Int) ∧ (↑(List.length l) : Int) ≤ (↑cap : Int) ∧ (↑cap : Int) ≤ (↑cap : Int)) ∧ br ((↑p : Int) == (↑(List.length l) : Int)) ((List.length l ≤ cap ∧ 0 + cap * 5 ≤ List.length (flP l ++ J) ∧ 5 = 5 ∧ List.all [PV.int IntKind.u32 (Rw.id r), PV.int IntKind.u32 (Pt.id (Rw.v r)), PV.int IntKind.u32 (Pt.ld (Rw.v r)), PV.list (en1 IntKind.u32 (Pt.ms (Rw.v r))) Tail.no, PV.list (en1 IntKind.u32 (Pt.iv (Rw.v r))) Tail.no] PV.one = true ∧ (List.length l + 1) * 64 ≤ 140737488355328) ∧ (List.length l + 1 ≤ cap → K (PV.arr 1 0 (List.length l + 1) cap) [Ob.cells [PV.arr 1 0 (List.length l) cap, PV.int IntKind.i64 most], Ob.cells (over (flP l ++ J) (0 + List.length l * 5) [PV.int IntKind.u32 (Rw.id r), PV.int IntKind.u32 (Pt.id (Rw.v r)), PV.int IntKind.u32 (Pt.ld (Rw.v r)), PV.list (en1 IntKind.u32 (Pt.ms (Rw.v r))) Tail.no, PV.list (en1 IntKind.u32 (Pt.iv (Rw.v r))) Tail.no])]) ∧ (cap < List.length l + 1 → ∀ (c : Nat), List.length l + 1 ≤ c → K (PV.arr 2 0 (List.length l + 1) c) [Ob.cells [PV.arr 1 0 (List.length l) cap, PV.int IntKind.i64 most], Ob.cells (flP l ++ J), Ob.cells (List.take (List.length l * 5) (List.drop 0 (flP l ++ J)) ++ [PV.int IntKind.u32 (Rw.id r), PV.int IntKind.u32 (Pt.id (Rw.v r)), PV.int IntKind.u32 (Pt.ld (Rw.v r)), PV.list (en1 IntKind.u32 (Pt.ms (Rw.v r))) Tail.no, PV.list (en1 IntKind.u32 (Pt.iv (Rw.v r))) Tail.no] ++ List.flatten (List.replicate (c - (List.length l + 1)) [PV.int IntKind.u32 0, PV.int IntKind.u32 0, PV.int IntKind.u32 0, PV.list [] Tail.exact, PV.list [] Tail.exact]))])) (br (decide (wI ((↑(List.length l) : Int) + (↑1 : Int)) > (↑cap : Int))) ((iI 0 ≤ 0 ∧ 0 ≤ (↑p : Int) ∧ (↑p : Int) ≤ (↑cap : Int) ∧ (↑cap : Int) ≤ (↑cap : Int)) ∧ (Int.toNat (↑p : Int) - 0 ≤ Int.toNat (↑cap : Int) - 0 ∧ (if Int.toNat (↑cap : Int) = 0 then 0 else 0) + (Int.toNat (↑cap : Int) - 0) * 5 ≤ List.length (flP l ++ J) ∧ 0 ≤ wI (wI ((↑(List.length l) : Int) + (↑1 : Int)) - (↑p : Int)) ∧ Int.toNat (↑cap : Int) - 0 < Int.toNat (↑p : Int) - 0 + Int.toNat (wI (wI ((↑(List.length l) : Int) + (↑1 : Int)) - (↑p : Int))) ∧ (Int.toNat (↑p : Int) - 0 + Int.toNat (wI (wI ((↑(List.length l) : Int) + (↑1 : Int)) - (↑p : Int)))) * 64 ≤ 140737488355328) ∧ ∀ (c : Nat), Int.toNat (↑p : Int) - 0 + Int.toNat (wI (wI ((↑(List.length l) : Int) + (↑1 : Int)) - (↑p : Int))) ≤ c → (0 ≤ (↑p : Int) ∧ (↑p : Int) ≤ (↑(Int.toNat (↑p : Int) - 0 + Int.toNat (wI (wI ((↑(List.length l) : Int) + (↑1 : Int)) - (↑p : Int)))) : Int) ∧ (↑(Int.toNat (↑p : Int) - 0 + Int.toNat (wI (wI ((↑(List.length l) : Int) + (↑1 : Int)) - (↑p : Int)))) : Int) ≤ (↑c : Int) ∧ (↑c : Int) ≤ (↑c : Int)) ∧ ((if Int.toNat (↑c : Int) = Int.toNat (↑p : Int) then 0 else 0 + Int.toNat (↑p : Int) * 5) + (Int.toNat (↑(Int.toNat (↑p : Int) - 0 + Int.toNat (wI (wI ((↑(List.length l) : Int) + (↑1 : Int)) - (↑p : Int)))) : Int) - Int.toNat (↑p : Int)) * 5 ≤ List.length (List.take ((Int.toNat (↑p : Int) - 0) * 5) (List.drop (if Int.toNat (↑cap : Int) = 0 then 0 else 0) (flP l ++ J)) ++ List.flatten (List.replicate (c - (Int.toNat (↑p : Int) - 0)) [PV.int IntKind.u32 0, PV.int IntKind.u32 0, PV.int IntKind.u32 0, PV.list [] Tail.exact, PV.list [] Tail.exact])) ∧ 5 = 5 ∧ List.all [PV.int IntKind.u32 (Rw.id r), PV.int IntKind.u32 (Pt.id (Rw.v r)), PV.int IntKind.u32 (Pt.ld (Rw.v r)), PV.list (en1 IntKind.u32 (Pt.ms (Rw.v r))) Tail.no, PV.list (en1 IntKind.u32 (Pt.iv (Rw.v r))) Tail.no] PV.one = true) ∧ (0 ≤ wI ((↑p : Int) + (↑1 : Int)) ∧ wI ((↑p : Int) + (↑1 : Int)) ≤ (↑(Int.toNat (↑p : Int) - 0 + Int.toNat (wI (wI ((↑(List.length l) : Int) + (↑1 : Int)) - (↑p : Int)))) : Int) ∧ (↑(Int.toNat (↑p : Int) - 0 + Int.toNat (wI (wI ((↑(List.length l) : Int) + (↑1 : Int)) - (↑p : Int)))) : Int) ≤ (↑c : Int) ∧ (↑c : Int) ≤ (↑c : Int)) ∧ (0 ≤ (↑p : Int) ∧ (↑p : Int) ≤ (↑(List.length l) : Int) ∧ (↑(List.length l) : Int) ≤ (↑cap : Int) ∧ (↑cap : Int) ≤ (↑cap : Int)) ∧ (if Int.toNat (↑cap : Int) = Int.toNat (↑p : Int) then 0 else 0 + Int.toNat (↑p : Int) * 5) + (Int.toNat (↑(List.length l) : Int) - Int.toNat (↑p : Int)) * 5 ≤ List.length (flP l ++ J) ∧ ((if Int.toNat (↑c : Int) = Int.toNat (wI ((↑p : Int) + (↑1 : Int))) then 0 else 0 + Int.toNat (wI ((↑p : Int) + (↑1 : Int))) * 5) + (Int.toNat (↑(Int.toNat (↑p : Int) - 0 + Int.toNat (wI (wI ((↑(List.length l) : Int) + (↑1 : Int)) - (↑p : Int)))) : Int) - Int.toNat (wI ((↑p : Int) + (↑1 : Int)))) * 5 ≤ List.length (over (List.take ((Int.toNat (↑p : Int) - 0) * 5) (List.drop (if Int.toNat (↑cap : Int) = 0 then 0 else 0) (flP l ++ J)) ++ List.flatten (List.replicate (c - (Int.toNat (↑p : Int) - 0)) [PV.int IntKind.u32 0, PV.int IntKind.u32 0, PV.int IntKind.u32 0, PV.list [] Tail.exact, PV.list [] Tail.exact])) (if Int.toNat (↑c : Int) = Int.toNat (↑p : Int) then 0 else 0 + Int.toNat (↑p : Int) * 5) (List.take (min 1 (Int.toNat (↑(Int.toNat (↑p : Int) - 0 + Int.toNat (wI (wI ((↑(List.length l) : Int) + (↑1 : Int)) - (↑p : Int)))) : Int) - Int.toNat (↑p : Int)) * 5) [PV.int IntKind.u32 (Rw.id r), PV.int IntKind.u32 (Pt.id (Rw.v r)), PV.int IntKind.u32 (Pt.ld (Rw.v r)), PV.list (en1 IntKind.u32 (Pt.ms (Rw.v r))) Tail.no, PV.list (en1 IntKind.u32 (Pt.iv (Rw.v r))) Tail.no])) ∧ List.length (List.take ((Int.toNat (↑(List.length l) : Int) - Int.toNat (↑p : Int)) * 5) (List.drop (if Int.toNat (↑cap : Int) = Int.toNat (↑p : Int) then 0 else 0 + Int.toNat (↑p : Int) * 5) (flP l ++ J))) = (Int.toNat (↑(List.length l) : Int) - Int.toNat (↑p : Int)) * 5 ∧ List.all (List.take ((Int.toNat (↑(List.length l) : Int) - Int.toNat (↑p : Int)) * 5) (List.drop (if Int.toNat (↑cap : Int) = Int.toNat (↑p : Int) then 0 else 0 + Int.toNat (↑p : Int) * 5) (flP l ++ J))) PV.one = true) ∧ K (PV.arr 2 0 (Int.toNat (↑p : Int) - 0 + Int.toNat (wI (wI ((↑(List.length l) : Int) + (↑1 : Int)) - (↑p : Int)))) c) [Ob.cells [PV.arr 1 0 (List.length l) cap, PV.int IntKind.i64 most], Ob.cells (flP l ++ J), Ob.cells (over (over (List.take ((Int.toNat (↑p : Int) - 0) * 5) (List.drop (if Int.toNat (↑cap : Int) = 0 then 0 else 0) (flP l ++ J)) ++ List.flatten (List.replicate (c - (Int.toNat (↑p : Int) - 0)) [PV.int IntKind.u32 0, PV.int IntKind.u32 0, PV.int IntKind.u32 0, PV.list [] Tail.exact, PV.list [] Tail.exact])) (if Int.toNat (↑c : Int) = Int.toNat (↑p : Int) then 0 else 0 + Int.toNat (↑p : Int) * 5) (List.take (min 1 (Int.toNat (↑(Int.toNat (↑p : Int) - 0 + Int.toNat (wI (wI ((↑(List.length l) : Int) + (↑1 : Int)) - (↑p : Int)))) : Int) - Int.toNat (↑p : Int)) * 5) [PV.int IntKind.u32 (Rw.id r), PV.int IntKind.u32 (Pt.id (Rw.v r)), PV.int IntKind.u32 (Pt.ld (Rw.v r)), PV.list (en1 IntKind.u32 (Pt.ms (Rw.v r))) Tail.no, PV.list (en1 IntKind.u32 (Pt.iv (Rw.v r))) Tail.no])) (if Int.toNat (↑c : Int) = Int.toNat (wI ((↑p : Int) + (↑1 : Int))) then 0 else 0 + Int.toNat (wI ((↑p : Int) + (↑1 : Int))) * 5) (List.take (min (Int.toNat (↑(List.length l) : Int) - Int.toNat (↑p : Int)) (Int.toNat (↑(Int.toNat (↑p : Int) - 0 + Int.toNat (wI (wI ((↑(List.length l) : Int) + (↑1 : Int)) - (↑p : Int)))) : Int) - Int.toNat (wI ((↑p : Int) + (↑1 : Int)))) * 5) (List.take ((Int.toNat (↑(List.length l) : Int) - Int.toNat (↑p : Int)) * 5) (List.drop (if Int.toNat (↑cap : Int) = Int.toNat (↑p : Int) then 0 else 0 + Int.toNat (↑p : Int) * 5) (flP l ++ J)))))]) ((iI 0 ≤ 0 ∧ 0 ≤ wI ((↑(List.length l) : Int) + (↑1 : Int)) ∧ wI ((↑(List.length l) : Int) + (↑1 : Int)) ≤ (↑cap : Int) ∧ (↑cap : Int) ≤ (↑cap : Int)) ∧ (0 ≤ wI ((↑p : Int) + (↑1 : Int)) ∧ wI ((↑p : Int) + (↑1 : Int)) ≤ (↑(Int.toNat (wI ((↑(List.length l) : Int) + (↑1 : Int))) - 0) : Int) ∧ (↑(Int.toNat (wI ((↑(List.length l) : Int) + (↑1 : Int))) - 0) : Int) ≤ (↑(Int.toNat (↑cap : Int) - 0) : Int) ∧ (↑(Int.toNat (↑cap : Int) - 0) : Int) ≤ (↑(Int.toNat (↑cap : Int) - 0) : Int)) ∧ [PV.int IntKind.u32 (Rw.id r), PV.int IntKind.u32 (Pt.id (Rw.v r)), PV.int IntKind.u32 (Pt.ld (Rw.v r)), PV.list (en1 IntKind.u32 (Pt.ms (Rw.v r))) Tail.no, PV.list (en1 IntKind.u32 (Pt.iv (Rw.v r))) Tail.no] ≠ [] ∧ (flP l ++ J = [] → False) ∧ (0 ≤ wI ((↑p : Int) + (↑1 : Int)) ∧ wI ((↑p : Int) + (↑1 : Int)) ≤ (↑(Int.toNat (wI ((↑(List.length l) : Int) + (↑1 : Int))) - 0) : Int) ∧ (↑(Int.toNat (wI ((↑(List.length l) : Int) + (↑1 : Int))) - 0) : Int) ≤ (↑(Int.toNat (↑cap : Int) - 0) : Int) ∧ (↑(Int.toNat (↑cap : Int) - 0) : Int) ≤ (↑(Int.toNat (↑cap : Int) - 0) : Int)) ∧ (0 ≤ (↑p : Int) ∧ (↑p : Int) ≤ (↑(Int.toNat (wI ((↑(List.length l) : Int) + (↑1 : Int))) - 0) : Int) ∧ (↑(Int.toNat (wI ((↑(List.length l) : Int) + (↑1 : Int))) - 0) : Int) ≤ (↑(Int.toNat (↑cap : Int) - 0) : Int) ∧ (↑(Int.toNat (↑cap : Int) - 0) : Int) ≤ (↑(Int.toNat (↑cap : Int) - 0) : Int)) ∧ (if Int.toNat (↑(Int.toNat (↑cap : Int) - 0) : Int) = Int.toNat (↑p : Int) then if Int.toNat (↑cap : Int) = 0 then 0 else 0 else (if Int.toNat (↑cap : Int) = 0 then 0 else 0) + Int.toNat (↑p : Int) * 5) + (Int.toNat (↑(Int.toNat (wI ((↑(List.length l) : Int) + (↑1 : Int))) - 0) : Int) - Int.toNat (↑p : Int)) * 5 ≤ List.length (flP l ++ J) ∧ ((if Int.toNat (↑(Int.toNat (↑cap : Int) - 0) : Int) = Int.toNat (wI ((↑p : Int) + (↑1 : Int))) then if Int.toNat (↑cap : Int) = 0 then 0 else 0 else (if Int.toNat (↑cap : Int) = 0 then 0 else 0) + Int.toNat (wI ((↑p : Int) + (↑1 : Int))) * 5) + (Int.toNat (↑(Int.toNat (wI ((↑(List.length l) : Int) + (↑1 : Int))) - 0) : Int) - Int.toNat (wI ((↑p : Int) + (↑1 : Int)))) * 5 ≤ List.length (flP l ++ J) ∧ List.length (List.take ((Int.toNat (↑(Int.toNat (wI ((↑(List.length l) : Int) + (↑1 : Int))) - 0) : Int) - Int.toNat (↑p : Int)) * 5) (List.drop (if Int.toNat (↑(Int.toNat (↑cap : Int) - 0) : Int) = Int.toNat (↑p : Int) then if Int.toNat (↑cap : Int) = 0 then 0 else 0 else (if Int.toNat (↑cap : Int) = 0 then 0 else 0) + Int.toNat (↑p : Int) * 5) (flP l ++ J))) = (Int.toNat (↑(Int.toNat (wI ((↑(List.length l) : Int) + (↑1 : Int))) - 0) : Int) - Int.toNat (↑p : Int)) * 5 ∧ List.all (List.take ((Int.toNat (↑(Int.toNat (wI ((↑(List.length l) : Int) + (↑1 : Int))) - 0) : Int) - Int.toNat (↑p : Int)) * 5) (List.drop (if Int.toNat (↑(Int.toNat (↑cap : Int) - 0) : Int) = Int.toNat (↑p : Int) then if Int.toNat (↑cap : Int) = 0 then 0 else 0 else (if Int.toNat (↑cap : Int) = 0 then 0 else 0) + Int.toNat (↑p : Int) * 5) (flP l ++ J))) PV.one = true) ∧ (0 ≤ (↑p : Int) ∧ (↑p : Int) ≤ (↑(Int.toNat (wI ((↑(List.length l) : Int) + (↑1 : Int))) - 0) : Int) ∧ (↑(Int.toNat (wI ((↑(List.length l) : Int) + (↑1 : Int))) - 0) : Int) ≤ (↑(Int.toNat (↑cap : Int) - 0) : Int) ∧ (↑(Int.toNat (↑cap : Int) - 0) : Int) ≤ (↑(Int.toNat (↑cap : Int) - 0) : Int)) ∧ ((if Int.toNat (↑(Int.toNat (↑cap : Int) - 0) : Int) = Int.toNat (↑p : Int) then if Int.toNat (↑cap : Int) = 0 then 0 else 0 else (if Int.toNat (↑cap : Int) = 0 then 0 else 0) + Int.toNat (↑p : Int) * 5) + (Int.toNat (↑(Int.toNat (wI ((↑(List.length l) : Int) + (↑1 : Int))) - 0) : Int) - Int.toNat (↑p : Int)) * 5 ≤ List.length (over (flP l ++ J) (if Int.toNat (↑(Int.toNat (↑cap : Int) - 0) : Int) = Int.toNat (wI ((↑p : Int) + (↑1 : Int))) then if Int.toNat (↑cap : Int) = 0 then 0 else 0 else (if Int.toNat (↑cap : Int) = 0 then 0 else 0) + Int.toNat (wI ((↑p : Int) + (↑1 : Int))) * 5) (List.take (min (Int.toNat (↑(Int.toNat (wI ((↑(List.length l) : Int) + (↑1 : Int))) - 0) : Int) - Int.toNat (↑p : Int)) (Int.toNat (↑(Int.toNat (wI ((↑(List.length l) : Int) + (↑1 : Int))) - 0) : Int) - Int.toNat (wI ((↑p : Int) + (↑1 : Int)))) * 5) (List.take ((Int.toNat (↑(Int.toNat (wI ((↑(List.length l) : Int) + (↑1 : Int))) - 0) : Int) - Int.toNat (↑p : Int)) * 5) (List.drop (if Int.toNat (↑(Int.toNat (↑cap : Int) - 0) : Int) = Int.toNat (↑p : Int) then if Int.toNat (↑cap : Int) = 0 then 0 else 0 else (if Int.toNat (↑cap : Int) = 0 then 0 else 0) + Int.toNat (↑p : Int) * 5) (flP l ++ J))))) ∧ 5 = 5 ∧ List.all [PV.int IntKind.u32 (Rw.id r), PV.int IntKind.u32 (Pt.id (Rw.v r)), PV.int IntKind.u32 (Pt.ld (Rw.v r)), PV.list (en1 IntKind.u32 (Pt.ms (Rw.v r))) Tail.no, PV.list (en1 IntKind.u32 (Pt.iv (Rw.v r))) Tail.no] PV.one = true) ∧ K (PV.arr 1 (if Int.toNat (↑cap : Int) = 0 then 0 else 0) (Int.toNat (wI ((↑(List.length l) : Int) + (↑1 : Int))) - 0) (Int.toNat (↑cap : Int) - 0)) [Ob.cells [PV.arr 1 0 (List.length l) cap, PV.int IntKind.i64 most], Ob.cells (over (over (flP l ++ J) (if Int.toNat (↑(Int.toNat (↑cap : Int) - 0) : Int) = Int.toNat (wI ((↑p : Int) + (↑1 : Int))) then if Int.toNat (↑cap : Int) = 0 then 0 else 0 else (if Int.toNat (↑cap : Int) = 0 then 0 else 0) + Int.toNat (wI ((↑p : Int) + (↑1 : Int))) * 5) (List.take (min (Int.toNat (↑(Int.toNat (wI ((↑(List.length l) : Int) + (↑1 : Int))) - 0) : Int) - Int.toNat (↑p : Int)) (Int.toNat (↑(Int.toNat (wI ((↑(List.length l) : Int) + (↑1 : Int))) - 0) : Int) - Int.toNat (wI ((↑p : Int) + (↑1 : Int)))) * 5) (List.take ((Int.toNat (↑(Int.toNat (wI ((↑(List.length l) : Int) + (↑1 : Int))) - 0) : Int) - Int.toNat (↑p : Int)) * 5) (List.drop (if Int.toNat (↑(Int.toNat (↑cap : Int) - 0) : Int) = Int.toNat (↑p : Int) then if Int.toNat (↑cap : Int) = 0 then 0 else 0 else (if Int.toNat (↑cap : Int) = 0 then 0 else 0) + Int.toNat (↑p : Int) * 5) (flP l ++ J))))) (if Int.toNat (↑(Int.toNat (↑cap : Int) - 0) : Int) = Int.toNat (↑p : Int) then if Int.toNat (↑cap : Int) = 0 then 0 else 0 else (if Int.toNat (↑cap : Int) = 0 then 0 else 0) + Int.toNat (↑p : Int) * 5) (List.take (min 1 (Int.toNat (↑(Int.toNat (wI ((↑(List.length l) : Int) + (↑1 : Int))) - 0) : Int) - Int.toNat (↑p : Int)) * 5) [PV.int IntKind.u32 (Rw.id r), PV.int IntKind.u32 (Pt.id (Rw.v r)), PV.int IntKind.u32 (Pt.ld (Rw.v r)), PV.list (en1 IntKind.u32 (Pt.ms (Rw.v r))) Tail.no, PV.list (en1 IntKind.u32 (Pt.iv (Rw.v r))) Tail.no]))]))) : ACalls Try.prog gl 98 [.arr 1 0 l.length cap, .int .i64 p, .list [csP r] .exact] [.cells [.arr 1 0 l.length cap, .int .i64 most], .cells (flP l ++ J)] K :=
  acalls_of_wpc2 (T := TIP) (L := []) (fun o => match o.op with | .load t _ => (match t with | 138 => 1 | _ => 0) | _ => match o.dst with | some 25 => 2 | _ => 0) Try.func98 (by kernel_rfl) (by kernel_rfl) (by kernel_rfl) (TIP_ok) (LOk.nil _ _ _ _ _) (holds_of_eq (by kernel_rfl) h)
theorem insNP_vc (most : Int) (r : RwP)  (K : PV → Heap → Prop) (h : (iI 0 ≤ 0 ∧ iI 0 ≤ 0 ∧ iI 0 ≤ 0 ∧ iI 0 ≤ 0 ∧ uni 5 []) ∧ 5 = 5 ∧ 64 ≤ 140737488355328 ∧ 0 < 1 ∧ ∀ (c : Nat), 1 ≤ c → K (PV.arr 1 0 1 c) [Ob.cells [PV.list [] Tail.exact, PV.int IntKind.i64 most], Ob.cells ([PV.int IntKind.u32 (Rw.id r), PV.int IntKind.u32 (Pt.id (Rw.v r)), PV.int IntKind.u32 (Pt.ld (Rw.v r)), PV.list (en1 IntKind.u32 (Pt.ms (Rw.v r))) Tail.no, PV.list (en1 IntKind.u32 (Pt.iv (Rw.v r))) Tail.no] ++ List.flatten (List.replicate (c - 1) [PV.int IntKind.u32 0, PV.int IntKind.u32 0, PV.int IntKind.u32 0, PV.list [] Tail.exact, PV.list [] Tail.exact]))]) : ACalls Try.prog gl 98 [.list [] .exact, .int .i64 0, .list [csP r] .exact] [.cells [.list [] .exact, .int .i64 most]] K :=
  acalls_of_wpc2 (T := TIP) (L := []) (fun o => match o.op with | .load t _ => (match t with | 138 => 1 | _ => 0) | _ => match o.dst with | some 25 => 2 | _ => 0) Try.func98 (by kernel_rfl) (by kernel_rfl) (by kernel_rfl) (TIP_ok) (LOk.nil _ _ _ _ _) (holds_of_eq (by kernel_rfl) h)
def insP_s (args : List PV) (H : Heap) (K : PV → Heap → Prop) : Prop :=
  (∃ (l : List RwP) (J : List PV) (cap : Nat) (most : Int) (r : RwP) (p : Nat), SlIs args [.arr 1 0 l.length cap, .int .i64 p, .list [csP r] .exact] ∧ HpIs H (hpAP l J cap most) ∧ p ≤ l.length ∧ l.length ≤ 1000000 ∧ l.length ≤ cap ∧ Room J ((cap - l.length) * 5) ∧
    (∀ (J' : List PV), l.length + 1 ≤ cap → Room J' ((cap - (l.length + 1)) * 5) → K (.arr 1 0 (l.length + 1) cap) [.cells [.arr 1 0 l.length cap, .int .i64 most], .cells (flP (insAt l p r) ++ J')]) ∧
    (∀ (c : Nat), l.length + 1 ≤ c → ∀ (J' : List PV), Room J' ((c - (l.length + 1)) * 5) → K (.arr 2 0 (l.length + 1) c) [.cells [.arr 1 0 l.length cap, .int .i64 most], .cells (flP l ++ J), .cells (flP (insAt l p r) ++ J')])) ∨
  (∃ (most : Int) (r : RwP), SlIs args [.list [] .exact, .int .i64 0, .list [csP r] .exact] ∧ HpIs H (hpNP most) ∧
    ∀ (c : Nat), 1 ≤ c → ∀ (J' : List PV), Room J' ((c - 1) * 5) → K (.arr 1 0 1 c) [.cells [.list [] .exact, .int .i64 most], .cells (csP r ++ J')])
def zrP : List PV := [.int .u32 0, .int .u32 0, .int .u32 0, .list [] .exact, .list [] .exact]
theorem zrP_room (n : Nat) : Room (List.replicate n zrP).flatten (n * 5) :=
  Room.zeros (z := zrP) (by intro y hy; simp only [zrP, List.mem_cons, List.not_mem_nil, or_false] at hy; rcases hy with rfl | rfl | rfl | rfl | rfl <;> rfl) (by intro y hy; simp only [zrP, List.mem_cons, List.not_mem_nil, or_false] at hy; rcases hy with rfl | rfl | rfl | rfl | rfl <;> first | exact .int _ _ | exact .str _ | exact low_list NT.exact (fun _ h => nomatch h)) n
theorem insP_ok : SpOk Try.prog gl 98 (.heap insP_s) := by
  rintro args H K (⟨l, J, cap, most, r, p, he, hH, hp, hl, hc, hJ, hk1, hk2⟩ | ⟨most, r, he, hH, hk⟩)
  · have he : args = _ := he
    have hH : H = _ := hH
    subst he
    subst hH
    have hlen : (flP l ++ J).length = cap * 5 := by rw [List.length_append, flP_len, hJ.len, ← Nat.add_mul]; congr 1; omega
    have hone : (flP l ++ J).all PV.one = true := List.all_eq_true.2 (flP_one l hJ.one)
    refine insAP_vc l J cap most r p K ?_
    refine ⟨⟨by omega, by omega, by omega, by omega⟩, ?_⟩
    rw [br_if]
    by_cases c1 : p = l.length
    · rw [if_pos (by simp [c1])]
      subst c1
      refine ⟨⟨hc, by rw [hlen]; omega, rfl, rfl, by omega⟩, fun h => ?_, fun h c hcc => ?_⟩
      · have := hk1 (J.drop 5) h (hJ.drop.cast (by omega))
        rw [← ins_end csP_len r (by rw [hJ.len]; omega)] at this
        rw [Nat.zero_add]
        exact this
      · have := hk2 c hcc _ (zrP_room (c - (l.length + 1)))
        rw [insAt_end] at this
        rw [List.drop_zero, rows_take csP_len J l l.length (Nat.le_refl _), List.take_length]
        simp only [flP, List.map_append, List.flatten_append, List.map_cons, List.map_nil, List.flatten_cons, List.flatten_nil, List.append_nil] at this
        exact this
    · rw [if_neg (by simp; omega), br_if]
      have e1 : wI ((l.length : Int) + 1) = ((l.length + 1 : Nat) : Int) := by rw [w_small (by omega) (by omega)]; rfl
      have e2 : wI (((l.length + 1 : Nat) : Int) - (p : Int)) = ((l.length + 1 - p : Nat) : Int) := by rw [w_small (by omega) (by omega)]; omega
      have e3 : wI ((p : Int) + 1) = ((p + 1 : Nat) : Int) := by rw [w_small (by omega) (by omega)]; rfl
      have e4 : p + (l.length + 1 - p) = l.length + 1 := by omega
      simp only [e1, e2, e3, e4, toNat_nat, Nat.sub_zero, Nat.zero_add, List.drop_zero, ite_self]
      have t1 : List.take (p * 5) (flP l ++ J) = flP (l.take p) := rows_take csP_len J l p hp
      have t2 : List.take ((l.length - p) * 5) (List.drop (p * 5) (flP l ++ J)) = flP (l.drop p) := by
        rw [rows_drop csP_len J l p hp, List.take_left']
        rw [flP_len, List.length_drop]
      have t3 : min 1 (l.length + 1 - p) = 1 := by omega
      have t5 : (flP (l.drop p)).length = (l.length - p) * 5 := by rw [flP_len, List.length_drop]
      have t6 : (flP (l.drop p)).all PV.one = true := by
        have := flP_one (l.drop p) (J := []) (fun _ h => nomatch h)
        rw [List.append_nil] at this
        exact List.all_eq_true.2 this
      have t7 : (flP (l.take p)).length = p * 5 := by rw [flP_len, List.length_take, Nat.min_eq_left hp]
      by_cases c2 : cap < l.length + 1
      · rw [if_pos (decide_eq_true (by omega))]
        have n3 : ¬ cap = p := by omega
        refine ⟨⟨by decide, by omega, by omega, by omega⟩, ⟨by omega, by omega, by omega, by omega, by omega⟩, fun c hcc => ?_⟩
        have t4 : min (l.length - p) (l.length + 1 - (p + 1)) = l.length - p := by omega
        have n1 : ¬ c = p := by omega
        have n2 : ¬ c = p + 1 := by omega
        have hZ := zrP_room (c - p)
        have t9 : (flP (l.take p) ++ (List.replicate (c - p) zrP).flatten).length = c * 5 := by rw [List.length_append, t7, hZ.len, ← Nat.add_mul]; congr 1; omega
        simp only [if_neg n1, if_neg n2, if_neg n3, t1, t2, t3, t4, t5, t6]
        refine ⟨⟨by omega, by omega, by omega, by omega⟩, ⟨Nat.le_trans (show _ ≤ c * 5 by omega) (Nat.le_of_eq t9.symm), trivial, rfl⟩, ⟨by omega, by omega, by omega, by omega⟩, ⟨by omega, by omega, by omega, by omega⟩, by omega, ⟨?_, trivial, trivial⟩, ?_⟩
        · have t10 : (over (flP (l.take p) ++ (List.replicate (c - p) zrP).flatten) (p * 5) (csP r)).length = c * 5 := by rw [over_length (by rw [t9, csP_len]; omega), t9]
          exact Nat.le_trans (show _ ≤ c * 5 by omega) (Nat.le_of_eq t10.symm)
        · have := hk2 c (by omega) _ ((hZ.drop (k := (l.length + 1 - p) * 5)).cast (by omega))
          rw [← ins_grow csP_len r hp (by rw [hZ.len]; omega)] at this
          rw [List.take_of_length_le (Nat.le_of_eq t5)]
          exact this
      · rw [if_neg (by simp; omega)]
        have n3 : ¬ cap = p := by omega
        have n4 : ¬ cap = p + 1 := by omega
        have t9 : min (l.length + 1 - p) (l.length + 1 - (p + 1)) = l.length - p := by omega
        have t10 : List.take ((l.length - p) * 5) (List.take ((l.length + 1 - p) * 5) (List.drop (p * 5) (flP l ++ J))) = List.take ((l.length - p) * 5) (List.drop (p * 5) (flP l ++ J)) := by rw [List.take_take, Nat.min_eq_left (by omega)]
        simp only [if_neg n3, if_neg n4, t3, t9, t10]
        have t11 : (List.take ((l.length + 1 - p) * 5) (List.drop (p * 5) (flP l ++ J))).length = (l.length + 1 - p) * 5 := by rw [List.length_take, List.length_drop, hlen]; omega
        have t12 : (List.take ((l.length + 1 - p) * 5) (List.drop (p * 5) (flP l ++ J))).all PV.one = true := List.all_eq_true.2 fun y hy => List.all_eq_true.1 hone y (List.mem_of_mem_drop (List.mem_of_mem_take hy))
        have t13 : (over (flP l ++ J) ((p + 1) * 5) (List.take ((l.length - p) * 5) (List.drop (p * 5) (flP l ++ J)))).length = cap * 5 := by rw [over_length (by rw [t2, t5, hlen]; omega), hlen]
        refine ⟨⟨by decide, by omega, by omega, by omega⟩, ⟨by omega, by omega, by omega, by omega⟩, List.cons_ne_nil _ _, fun h => ?_, ⟨by omega, by omega, by omega, by omega⟩, ⟨by omega, by omega, by omega, by omega⟩, by omega, ⟨by omega, t11, t12⟩, ⟨by omega, by omega, by omega, by omega⟩, ⟨by omega, trivial, rfl⟩, ?_⟩
        · rw [h] at hlen; simp only [List.length_nil] at hlen; omega
        · have := hk1 (J.drop 5) (by omega) (hJ.drop.cast (by omega))
          rw [← ins_mid csP_len r (by omega) (by rw [hJ.len]; omega)] at this
          exact this
  · have he : args = _ := he
    have hH : H = _ := hH
    subst he
    subst hH
    exact insNP_vc most r K ⟨⟨by decide, by decide, by decide, by decide, fun _ h => nomatch h⟩, rfl, by decide, by decide, fun c hc => hk c hc _ (zrP_room (c - 1))⟩
theorem delP_vc (l : List RwP) (J : List PV) (cap : Nat) (most : Int) (p : Nat)  (K : PV → Heap → Prop) (h : (0 ≤ (↑p : Int) ∧ (↑p : Int) ≤ (↑(p + 1) : Int) ∧ (↑(p + 1) : Int) ≤ (↑(List.length l) : Int) ∧ (↑(List.length l) : Int) ≤ (↑cap : Int)) ∧ br ((↑p : Int) == (↑(p + 1) : Int)) (K (PV.arr 1 0 (List.length l) cap) [Ob.cells [PV.arr 1 0 (List.length l) cap, PV.int IntKind.i64 most], Ob.cells (flP l ++ J)]) ((iI 0 ≤ 0 ∧ 0 ≤ (↑p : Int) ∧ (↑p : Int) ≤ (↑cap : Int) ∧ (↑cap : Int) ≤ (↑cap : Int)) ∧ (0 ≤ (↑(p + 1) : Int) ∧ (↑(p + 1) : Int) ≤ (↑(List.length l) : Int) ∧ (↑(List.length l) : Int) ≤ (↑cap : Int) ∧ (↑cap : Int) ≤ (↑cap : Int)) ∧ (if Int.toNat (↑cap : Int) = Int.toNat (↑(p + 1) : Int) then 0 else 0 + Int.toNat (↑(p + 1) : Int) * 5) + (Int.toNat (↑(List.length l) : Int) - Int.toNat (↑(p + 1) : Int)) * 5 ≤ List.length (flP l ++ J) ∧ (Int.toNat (↑p : Int) - 0 ≤ Int.toNat (↑cap : Int) - 0 ∧ (if Int.toNat (↑cap : Int) = 0 then 0 else 0) + (Int.toNat (↑cap : Int) - 0) * 5 ≤ List.length (flP l ++ J) ∧ List.length (List.take ((Int.toNat (↑(List.length l) : Int) - Int.toNat (↑(p + 1) : Int)) * 5) (List.drop (if Int.toNat (↑cap : Int) = Int.toNat (↑(p + 1) : Int) then 0 else 0 + Int.toNat (↑(p + 1) : Int) * 5) (flP l ++ J))) = (Int.toNat (↑(List.length l) : Int) - Int.toNat (↑(p + 1) : Int)) * 5 ∧ List.all (List.take ((Int.toNat (↑(List.length l) : Int) - Int.toNat (↑(p + 1) : Int)) * 5) (List.drop (if Int.toNat (↑cap : Int) = Int.toNat (↑(p + 1) : Int) then 0 else 0 + Int.toNat (↑(p + 1) : Int) * 5) (flP l ++ J))) PV.one = true ∧ (Int.toNat (↑p : Int) - 0 + (Int.toNat (↑(List.length l) : Int) - Int.toNat (↑(p + 1) : Int))) * 64 ≤ 140737488355328) ∧ Int.toNat (↑p : Int) - 0 + (Int.toNat (↑(List.length l) : Int) - Int.toNat (↑(p + 1) : Int)) ≤ Int.toNat (↑cap : Int) - 0 ∧ (0 ≤ (↑(Int.toNat (↑p : Int) - 0 + (Int.toNat (↑(List.length l) : Int) - Int.toNat (↑(p + 1) : Int))) : Int) ∧ (↑(Int.toNat (↑p : Int) - 0 + (Int.toNat (↑(List.length l) : Int) - Int.toNat (↑(p + 1) : Int))) : Int) ≤ (↑(List.length l) : Int) ∧ (↑(List.length l) : Int) ≤ (↑(Int.toNat (↑cap : Int) - 0) : Int) ∧ (↑(Int.toNat (↑cap : Int) - 0) : Int) ≤ (↑(Int.toNat (↑cap : Int) - 0) : Int)) ∧ (if Int.toNat (↑(Int.toNat (↑cap : Int) - 0) : Int) = Int.toNat (↑(Int.toNat (↑p : Int) - 0 + (Int.toNat (↑(List.length l) : Int) - Int.toNat (↑(p + 1) : Int))) : Int) then if Int.toNat (↑cap : Int) = 0 then 0 else 0 else (if Int.toNat (↑cap : Int) = 0 then 0 else 0) + Int.toNat (↑(Int.toNat (↑p : Int) - 0 + (Int.toNat (↑(List.length l) : Int) - Int.toNat (↑(p + 1) : Int))) : Int) * 5) + (Int.toNat (↑(List.length l) : Int) - Int.toNat (↑(Int.toNat (↑p : Int) - 0 + (Int.toNat (↑(List.length l) : Int) - Int.toNat (↑(p + 1) : Int))) : Int)) * 5 ≤ List.length (over (flP l ++ J) ((if Int.toNat (↑cap : Int) = 0 then 0 else 0) + (Int.toNat (↑p : Int) - 0) * 5) (List.take ((Int.toNat (↑(List.length l) : Int) - Int.toNat (↑(p + 1) : Int)) * 5) (List.drop (if Int.toNat (↑cap : Int) = Int.toNat (↑(p + 1) : Int) then 0 else 0 + Int.toNat (↑(p + 1) : Int) * 5) (flP l ++ J)))) ∧ K (PV.arr 1 (if Int.toNat (↑cap : Int) = 0 then 0 else 0) (Int.toNat (↑p : Int) - 0 + (Int.toNat (↑(List.length l) : Int) - Int.toNat (↑(p + 1) : Int))) (Int.toNat (↑cap : Int) - 0)) [Ob.cells [PV.arr 1 0 (List.length l) cap, PV.int IntKind.i64 most], Ob.cells (over (over (flP l ++ J) ((if Int.toNat (↑cap : Int) = 0 then 0 else 0) + (Int.toNat (↑p : Int) - 0) * 5) (List.take ((Int.toNat (↑(List.length l) : Int) - Int.toNat (↑(p + 1) : Int)) * 5) (List.drop (if Int.toNat (↑cap : Int) = Int.toNat (↑(p + 1) : Int) then 0 else 0 + Int.toNat (↑(p + 1) : Int) * 5) (flP l ++ J)))) (if Int.toNat (↑(Int.toNat (↑cap : Int) - 0) : Int) = Int.toNat (↑(Int.toNat (↑p : Int) - 0 + (Int.toNat (↑(List.length l) : Int) - Int.toNat (↑(p + 1) : Int))) : Int) then if Int.toNat (↑cap : Int) = 0 then 0 else 0 else (if Int.toNat (↑cap : Int) = 0 then 0 else 0) + Int.toNat (↑(Int.toNat (↑p : Int) - 0 + (Int.toNat (↑(List.length l) : Int) - Int.toNat (↑(p + 1) : Int))) : Int) * 5) (List.flatten (List.replicate (Int.toNat (↑(List.length l) : Int) - Int.toNat (↑(Int.toNat (↑p : Int) - 0 + (Int.toNat (↑(List.length l) : Int) - Int.toNat (↑(p + 1) : Int))) : Int)) [PV.int IntKind.u32 0, PV.int IntKind.u32 0, PV.int IntKind.u32 0, PV.list [] Tail.exact, PV.list [] Tail.exact])))])) : ACalls Try.prog gl 97 [.arr 1 0 l.length cap, .int .i64 p, .int .i64 ((p + 1 : Nat) : Int)] [.cells [.arr 1 0 l.length cap, .int .i64 most], .cells (flP l ++ J)] K :=
  acalls_of_wpc2 (T := []) (L := []) (fun o => match o.op with | .load t _ => (match t with | 138 => 1 | _ => 0) | _ => match o.dst with | some 26 => 3 | _ => 0) Try.func97 (by kernel_rfl) (by kernel_rfl) (by kernel_rfl) (TabOk.nil _ _) (LOk.nil _ _ _ _ _) (holds_of_eq (by kernel_rfl) h)
def insTP_s (args : List PV) (H : Heap) (K : PV → Heap → Prop) : Prop :=
  (∃ (G : Heap) (l : List RwP) (J : List PV) (cap : Nat) (most : Int) (r : RwP) (p : Nat), SlIs args [.arr 1 0 l.length cap, .int .i64 p, .list [csP r] .exact] ∧ HpIs H (hpAP l J cap most ++ G) ∧ p ≤ l.length ∧ l.length ≤ 1000000 ∧ l.length ≤ cap ∧ Room J ((cap - l.length) * 5) ∧
    (∀ (J' : List PV), l.length + 1 ≤ cap → Room J' ((cap - (l.length + 1)) * 5) → K (.arr 1 0 (l.length + 1) cap) ([.cells [.arr 1 0 l.length cap, .int .i64 most], .cells (flP (insAt l p r) ++ J')] ++ G)) ∧
    (∀ (c : Nat), l.length + 1 ≤ c → ∀ (J' : List PV), Room J' ((c - (l.length + 1)) * 5) → K (.arr (2 + G.length) 0 (l.length + 1) c) ([.cells [.arr 1 0 l.length cap, .int .i64 most], .cells (flP l ++ J)] ++ G ++ [.cells (flP (insAt l p r) ++ J')]))) ∨
  (∃ (G : Heap) (most : Int) (r : RwP), SlIs args [.list [] .exact, .int .i64 0, .list [csP r] .exact] ∧ HpIs H (hpNP most ++ G) ∧
    ∀ (c : Nat), 1 ≤ c → ∀ (J' : List PV), Room J' ((c - 1) * 5) → K (.arr (1 + G.length) 0 1 c) ([.cells [.list [] .exact, .int .i64 most]] ++ G ++ [.cells (csP r ++ J')]))
theorem insTP_ok : SpOk Try.prog gl 98 (.heap insTP_s) := by
  rintro args H K (⟨G, l, J, cap, most, r, p, he, hH, hp, hl, hc, hJ, hk1, hk2⟩ | ⟨G, most, r, he, hH, hk⟩)
  · have he : args = _ := he
    have hH : H = _ := hH
    subst he
    subst hH
    refine acalls_tail gl_low (by intro y hy; simp only [List.mem_cons, List.not_mem_nil, or_false] at hy; rcases hy with rfl | rfl | rfl; exact .arr _ _ _ _ (by simp [hpAP]); exact .low (.int _ _); exact .low (low_list NT.exact (by intro y hy; simp at hy; exact low_csP r y hy))) (hpAP_lid (by simp [hpAP]) hJ.low) ?_
    refine insP_ok _ _ _ (.inl ⟨l, J, cap, most, r, p, rfl, rfl, hp, hl, hc, hJ, fun J' h1 h2 => ?_, fun c h1 J' h2 => ?_⟩)
    · exact ⟨_, _, tail_same rfl (lidH_two (fun y hy => by simp only [List.mem_cons, List.not_mem_nil, or_false] at hy; rcases hy with rfl | rfl; exact .arr _ _ _ _ (by simp [hpAP]); exact .low (.int _ _)) (fun y hy => .low (flP_low _ h2.low y hy))), Lid.ren (.arr _ _ _ _ (by simp)) (fun o ho => ρext_tail (by simpa [hpAP] using ho)), hk1 J' h1 h2⟩
    · exact ⟨_, _, tail_more (X' := [.cells [.arr 1 0 l.length cap, .int .i64 most], .cells (flP l ++ J)]) rfl (hpAP_lid (by simp [hpAP]) hJ.low) (flP_low _ h2.low), new_tail (X := hpAP l J cap most) (X' := [.cells [.arr 1 0 l.length cap, .int .i64 most], .cells (flP l ++ J)]) rfl, hk2 c h1 J' h2⟩
  · have he : args = _ := he
    have hH : H = _ := hH
    subst he
    subst hH
    refine acalls_tail gl_low (by intro y hy; simp only [List.mem_cons, List.not_mem_nil, or_false] at hy; rcases hy with rfl | rfl | rfl; exact .low (low_list NT.exact (fun _ h => nomatch h)); exact .low (.int _ _); exact .low (low_list NT.exact (by intro y hy; simp at hy; exact low_csP r y hy))) hpNP_lid ?_
    refine insP_ok _ _ _ (.inr ⟨most, r, rfl, rfl, fun c hc J' h2 => ?_⟩)
    exact ⟨_, _, tail_more (X' := [.cells [.list [] .exact, .int .i64 most]]) rfl hpNP_lid (by intro y hy; rcases List.mem_append.1 hy with hy | hy; exact low_csP r y hy; exact h2.low y hy), new_tail (X := hpNP most) (X' := [.cells [.list [] .exact, .int .i64 most]]) rfl, hk c hc J' h2⟩
def TPP : Tab := (98, .heap insTP_s) :: (86, .read atTP_s) :: TGP
theorem TPP_ok : TabOk Try.prog gl TPP := .cons insTP_ok (.cons atTP_ok TGP_ok)
theorem putAP_vc (l : List RwP) (J : List PV) (cap : Nat) (most : Int) (t : Int) (v : Pt)  (K : PV → Heap → Prop) (h : br (!rightS t) (K (PV.int IntKind.i64 14) [Ob.cells [PV.arr 1 0 (List.length l) cap, PV.int IntKind.i64 most], Ob.cells (flP l ++ J), Ob.cells [PV.int IntKind.u32 (Pt.id v), PV.int IntKind.u32 (Pt.ld v), PV.list (en1 IntKind.u32 (Pt.ms v)) Tail.no, PV.list (en1 IntKind.u32 (Pt.iv v)) Tail.no]]) (∃ (l_1 : List RwP), ∃ (most_1 : Int), ∃ (t_1 : Int), SlIs [PV.ptr 0 0, PV.int IntKind.u32 t] [PV.ptr 0 0, PV.int IntKind.u32 t_1] ∧ EXTP l_1 most_1 [Ob.cells [PV.arr 1 0 (List.length l) cap, PV.int IntKind.i64 most], Ob.cells (flP l ++ J), Ob.cells [PV.int IntKind.u32 (Pt.id v), PV.int IntKind.u32 (Pt.ld v), PV.list (en1 IntKind.u32 (Pt.ms v)) Tail.no, PV.list (en1 IntKind.u32 (Pt.iv v)) Tail.no]] ∧ Ok l_1 most_1 ∧ br (has l_1 t_1) ((0 ≤ (↑(lbp l_1 t_1) : Int) ∧ (↑(lbp l_1 t_1) : Int) < (↑(List.length l) : Int)) ∧ br (4 == 4 && List.all [PV.int IntKind.u32 (Pt.id v), PV.int IntKind.u32 (Pt.ld v), PV.list (en1 IntKind.u32 (Pt.ms v)) Tail.no, PV.list (en1 IntKind.u32 (Pt.iv v)) Tail.no] PV.one && decide (0 + Int.toNat (↑(lbp l_1 t_1) : Int) * 5 + 1 + 4 ≤ List.length (flP l ++ J)) && hintOk 0 1 (0 + Int.toNat (↑(lbp l_1 t_1) : Int) * 5 + 1) 4) (K (PV.int IntKind.i64 0) [Ob.cells [PV.arr 1 0 (List.length l) cap, PV.int IntKind.i64 most], Ob.cells (over (flP l ++ J) (0 + Int.toNat (↑(lbp l_1 t_1) : Int) * 5 + 1) [PV.int IntKind.u32 (Pt.id v), PV.int IntKind.u32 (Pt.ld v), PV.list (en1 IntKind.u32 (Pt.ms v)) Tail.no, PV.list (en1 IntKind.u32 (Pt.iv v)) Tail.no]), Ob.cells [PV.int IntKind.u32 (Pt.id v), PV.int IntKind.u32 (Pt.ld v), PV.list (en1 IntKind.u32 (Pt.ms v)) Tail.no, PV.list (en1 IntKind.u32 (Pt.iv v)) Tail.no]]) False) (br (decide ((↑(List.length l) : Int) ≥ most)) (K (PV.int IntKind.i64 10) [Ob.cells [PV.arr 1 0 (List.length l) cap, PV.int IntKind.i64 most], Ob.cells (flP l ++ J), Ob.cells [PV.int IntKind.u32 (Pt.id v), PV.int IntKind.u32 (Pt.ld v), PV.list (en1 IntKind.u32 (Pt.ms v)) Tail.no, PV.list (en1 IntKind.u32 (Pt.iv v)) Tail.no]]) ((∃ (G : Heap), ∃ (l_2 : List RwP), ∃ (J_1 : List PV), ∃ (cap_1 : Nat), ∃ (most_2 : Int), ∃ (r : RwP), ∃ (p : Nat), SlIs [PV.arr 1 0 (List.length l) cap, PV.int IntKind.i64 (↑(lbp l_1 t_1) : Int), PV.list [[PV.int IntKind.u32 t, PV.int IntKind.u32 (Pt.id v), PV.int IntKind.u32 (Pt.ld v), PV.list (en1 IntKind.u32 (Pt.ms v)) Tail.no, PV.list (en1 IntKind.u32 (Pt.iv v)) Tail.no]] Tail.exact] [PV.arr 1 0 (List.length l_2) cap_1, PV.int IntKind.i64 (↑p : Int), PV.list [[PV.int IntKind.u32 (Rw.id r), PV.int IntKind.u32 (Pt.id (Rw.v r)), PV.int IntKind.u32 (Pt.ld (Rw.v r)), PV.list (en1 IntKind.u32 (Pt.ms (Rw.v r))) Tail.no, PV.list (en1 IntKind.u32 (Pt.iv (Rw.v r))) Tail.no]] Tail.exact] ∧ HpIs [Ob.cells [PV.arr 1 0 (List.length l) cap, PV.int IntKind.i64 most], Ob.cells (flP l ++ J), Ob.cells [PV.int IntKind.u32 (Pt.id v), PV.int IntKind.u32 (Pt.ld v), PV.list (en1 IntKind.u32 (Pt.ms v)) Tail.no, PV.list (en1 IntKind.u32 (Pt.iv v)) Tail.no]] ([Ob.cells [PV.arr 1 0 (List.length l_2) cap_1, PV.int IntKind.i64 most_2], Ob.cells (flP l_2 ++ J_1)] ++ G) ∧ p ≤ List.length l_2 ∧ List.length l_2 ≤ 1000000 ∧ List.length l_2 ≤ cap_1 ∧ Room J_1 ((cap_1 - List.length l_2) * 5) ∧ (∀ (J' : List PV), List.length l_2 + 1 ≤ cap_1 → Room J' ((cap_1 - (List.length l_2 + 1)) * 5) → K (PV.int IntKind.i64 0) (List.set ([Ob.cells [PV.arr 1 0 (List.length l_2) cap_1, PV.int IntKind.i64 most_2], Ob.cells (flP (insAt l_2 p r) ++ J')] ++ G) 0 (Ob.cells [PV.arr 1 0 (List.length l_2 + 1) cap_1, PV.int IntKind.i64 most_2]))) ∧ ∀ (c : Nat), List.length l_2 + 1 ≤ c → ∀ (J' : List PV), Room J' ((c - (List.length l_2 + 1)) * 5) → K (PV.int IntKind.i64 0) (List.set ([Ob.cells [PV.arr 1 0 (List.length l_2) cap_1, PV.int IntKind.i64 most_2], Ob.cells (flP l_2 ++ J_1)] ++ G ++ [Ob.cells (flP (insAt l_2 p r) ++ J')]) 0 (Ob.cells [PV.arr (2 + List.length G) 0 (List.length l_2 + 1) c, PV.int IntKind.i64 most_2]))) ∨ ∃ (G : Heap), ∃ (most_2 : Int), ∃ (r : RwP), SlIs [PV.arr 1 0 (List.length l) cap, PV.int IntKind.i64 (↑(lbp l_1 t_1) : Int), PV.list [[PV.int IntKind.u32 t, PV.int IntKind.u32 (Pt.id v), PV.int IntKind.u32 (Pt.ld v), PV.list (en1 IntKind.u32 (Pt.ms v)) Tail.no, PV.list (en1 IntKind.u32 (Pt.iv v)) Tail.no]] Tail.exact] [PV.list [] Tail.exact, PV.int IntKind.i64 0, PV.list [[PV.int IntKind.u32 (Rw.id r), PV.int IntKind.u32 (Pt.id (Rw.v r)), PV.int IntKind.u32 (Pt.ld (Rw.v r)), PV.list (en1 IntKind.u32 (Pt.ms (Rw.v r))) Tail.no, PV.list (en1 IntKind.u32 (Pt.iv (Rw.v r))) Tail.no]] Tail.exact] ∧ HpIs [Ob.cells [PV.arr 1 0 (List.length l) cap, PV.int IntKind.i64 most], Ob.cells (flP l ++ J), Ob.cells [PV.int IntKind.u32 (Pt.id v), PV.int IntKind.u32 (Pt.ld v), PV.list (en1 IntKind.u32 (Pt.ms v)) Tail.no, PV.list (en1 IntKind.u32 (Pt.iv v)) Tail.no]] ([Ob.cells [PV.list [] Tail.exact, PV.int IntKind.i64 most_2]] ++ G) ∧ ∀ (c : Nat), 1 ≤ c → ∀ (J' : List PV), Room J' ((c - 1) * 5) → K (PV.int IntKind.i64 0) (List.set ([Ob.cells [PV.list [] Tail.exact, PV.int IntKind.i64 most_2]] ++ G ++ [Ob.cells ([PV.int IntKind.u32 (Rw.id r), PV.int IntKind.u32 (Pt.id (Rw.v r)), PV.int IntKind.u32 (Pt.ld (Rw.v r)), PV.list (en1 IntKind.u32 (Pt.ms (Rw.v r))) Tail.no, PV.list (en1 IntKind.u32 (Pt.iv (Rw.v r))) Tail.no] ++ J')]) 0 (Ob.cells [PV.arr (1 + List.length G) 0 1 c, PV.int IntKind.i64 most_2])))))) : ACalls Try.prog gl 88 [.ptr 0 0, .int .u32 t, Pt.pv v] [.cells [.arr 1 0 l.length cap, .int .i64 most], .cells (flP l ++ J)] K :=
  acalls_of_wpc2 (T := TPP) (L := [([1, 1, 1, 1, 0, 0, 1, 1, 1, 1], oneL br Try.prog gl TPP (fun o => match o.op with | .load t _ => (match t with | 138 => 1 | _ => 0) | _ => 0) (atOf [1, 1, 1, 1, 0, 0, 1, 1, 1, 1] (bodyOf Try.f88)) 10 [0, 1, 2, 3, 4, 5, 6, 7, 8, 9, 11, 12] [13])]) (fun o => match o.op with | .load t _ => (match t with | 138 => 1 | _ => 0) | _ => 0) Try.func88 (by kernel_rfl) (by kernel_rfl) (by kernel_rfl) (TPP_ok) (.cons (show sub [1, 1, 1, 1, 0, 0, 1, 1, 1, 1] (bodyOf Try.f88) = some (atOf [1, 1, 1, 1, 0, 0, 1, 1, 1, 1] (bodyOf Try.f88)) from by kernel_rfl) (oneL_ok TPP_ok (by kernel_rfl) (by kernel_rfl)) (.nil _ _ _ _ _)) (holds_of_eq (by kernel_rfl) h)
theorem putNP_vc (most t : Int) (v : Pt)  (K : PV → Heap → Prop) (h : br (!rightS t) (K (PV.int IntKind.i64 14) [Ob.cells [PV.list [] Tail.exact, PV.int IntKind.i64 most], Ob.cells [PV.int IntKind.u32 (Pt.id v), PV.int IntKind.u32 (Pt.ld v), PV.list (en1 IntKind.u32 (Pt.ms v)) Tail.no, PV.list (en1 IntKind.u32 (Pt.iv v)) Tail.no]]) (∃ (l : List RwP), ∃ (most_1 : Int), ∃ (t_1 : Int), SlIs [PV.ptr 0 0, PV.int IntKind.u32 t] [PV.ptr 0 0, PV.int IntKind.u32 t_1] ∧ EXTP l most_1 [Ob.cells [PV.list [] Tail.exact, PV.int IntKind.i64 most], Ob.cells [PV.int IntKind.u32 (Pt.id v), PV.int IntKind.u32 (Pt.ld v), PV.list (en1 IntKind.u32 (Pt.ms v)) Tail.no, PV.list (en1 IntKind.u32 (Pt.iv v)) Tail.no]] ∧ Ok l most_1 ∧ br (has l t_1) (InL [] 5 (↑(lbp l t_1) : Int) ∧ False) (br (decide (0 ≥ most)) (K (PV.int IntKind.i64 10) [Ob.cells [PV.list [] Tail.exact, PV.int IntKind.i64 most], Ob.cells [PV.int IntKind.u32 (Pt.id v), PV.int IntKind.u32 (Pt.ld v), PV.list (en1 IntKind.u32 (Pt.ms v)) Tail.no, PV.list (en1 IntKind.u32 (Pt.iv v)) Tail.no]]) ((∃ (G : Heap), ∃ (l_1 : List RwP), ∃ (J : List PV), ∃ (cap : Nat), ∃ (most_2 : Int), ∃ (r : RwP), ∃ (p : Nat), SlIs [PV.list [] Tail.exact, PV.int IntKind.i64 (↑(lbp l t_1) : Int), PV.list [[PV.int IntKind.u32 t, PV.int IntKind.u32 (Pt.id v), PV.int IntKind.u32 (Pt.ld v), PV.list (en1 IntKind.u32 (Pt.ms v)) Tail.no, PV.list (en1 IntKind.u32 (Pt.iv v)) Tail.no]] Tail.exact] [PV.arr 1 0 (List.length l_1) cap, PV.int IntKind.i64 (↑p : Int), PV.list [[PV.int IntKind.u32 (Rw.id r), PV.int IntKind.u32 (Pt.id (Rw.v r)), PV.int IntKind.u32 (Pt.ld (Rw.v r)), PV.list (en1 IntKind.u32 (Pt.ms (Rw.v r))) Tail.no, PV.list (en1 IntKind.u32 (Pt.iv (Rw.v r))) Tail.no]] Tail.exact] ∧ HpIs [Ob.cells [PV.list [] Tail.exact, PV.int IntKind.i64 most], Ob.cells [PV.int IntKind.u32 (Pt.id v), PV.int IntKind.u32 (Pt.ld v), PV.list (en1 IntKind.u32 (Pt.ms v)) Tail.no, PV.list (en1 IntKind.u32 (Pt.iv v)) Tail.no]] ([Ob.cells [PV.arr 1 0 (List.length l_1) cap, PV.int IntKind.i64 most_2], Ob.cells (flP l_1 ++ J)] ++ G) ∧ p ≤ List.length l_1 ∧ List.length l_1 ≤ 1000000 ∧ List.length l_1 ≤ cap ∧ Room J ((cap - List.length l_1) * 5) ∧ (∀ (J' : List PV), List.length l_1 + 1 ≤ cap → Room J' ((cap - (List.length l_1 + 1)) * 5) → K (PV.int IntKind.i64 0) (List.set ([Ob.cells [PV.arr 1 0 (List.length l_1) cap, PV.int IntKind.i64 most_2], Ob.cells (flP (insAt l_1 p r) ++ J')] ++ G) 0 (Ob.cells [PV.arr 1 0 (List.length l_1 + 1) cap, PV.int IntKind.i64 most_2]))) ∧ ∀ (c : Nat), List.length l_1 + 1 ≤ c → ∀ (J' : List PV), Room J' ((c - (List.length l_1 + 1)) * 5) → K (PV.int IntKind.i64 0) (List.set ([Ob.cells [PV.arr 1 0 (List.length l_1) cap, PV.int IntKind.i64 most_2], Ob.cells (flP l_1 ++ J)] ++ G ++ [Ob.cells (flP (insAt l_1 p r) ++ J')]) 0 (Ob.cells [PV.arr (2 + List.length G) 0 (List.length l_1 + 1) c, PV.int IntKind.i64 most_2]))) ∨ ∃ (G : Heap), ∃ (most_2 : Int), ∃ (r : RwP), SlIs [PV.list [] Tail.exact, PV.int IntKind.i64 (↑(lbp l t_1) : Int), PV.list [[PV.int IntKind.u32 t, PV.int IntKind.u32 (Pt.id v), PV.int IntKind.u32 (Pt.ld v), PV.list (en1 IntKind.u32 (Pt.ms v)) Tail.no, PV.list (en1 IntKind.u32 (Pt.iv v)) Tail.no]] Tail.exact] [PV.list [] Tail.exact, PV.int IntKind.i64 0, PV.list [[PV.int IntKind.u32 (Rw.id r), PV.int IntKind.u32 (Pt.id (Rw.v r)), PV.int IntKind.u32 (Pt.ld (Rw.v r)), PV.list (en1 IntKind.u32 (Pt.ms (Rw.v r))) Tail.no, PV.list (en1 IntKind.u32 (Pt.iv (Rw.v r))) Tail.no]] Tail.exact] ∧ HpIs [Ob.cells [PV.list [] Tail.exact, PV.int IntKind.i64 most], Ob.cells [PV.int IntKind.u32 (Pt.id v), PV.int IntKind.u32 (Pt.ld v), PV.list (en1 IntKind.u32 (Pt.ms v)) Tail.no, PV.list (en1 IntKind.u32 (Pt.iv v)) Tail.no]] ([Ob.cells [PV.list [] Tail.exact, PV.int IntKind.i64 most_2]] ++ G) ∧ ∀ (c : Nat), 1 ≤ c → ∀ (J' : List PV), Room J' ((c - 1) * 5) → K (PV.int IntKind.i64 0) (List.set ([Ob.cells [PV.list [] Tail.exact, PV.int IntKind.i64 most_2]] ++ G ++ [Ob.cells ([PV.int IntKind.u32 (Rw.id r), PV.int IntKind.u32 (Pt.id (Rw.v r)), PV.int IntKind.u32 (Pt.ld (Rw.v r)), PV.list (en1 IntKind.u32 (Pt.ms (Rw.v r))) Tail.no, PV.list (en1 IntKind.u32 (Pt.iv (Rw.v r))) Tail.no] ++ J')]) 0 (Ob.cells [PV.arr (1 + List.length G) 0 1 c, PV.int IntKind.i64 most_2])))))) : ACalls Try.prog gl 88 [.ptr 0 0, .int .u32 t, Pt.pv v] [.cells [.list [] .exact, .int .i64 most]] K :=
  acalls_of_wpc2 (T := TPP) (L := [([1, 1, 1, 1, 0, 0, 1, 1, 1, 1], oneL br Try.prog gl TPP (fun o => match o.op with | .load t _ => (match t with | 138 => 1 | _ => 0) | _ => 0) (atOf [1, 1, 1, 1, 0, 0, 1, 1, 1, 1] (bodyOf Try.f88)) 10 [0, 1, 2, 3, 4, 5, 6, 7, 8, 9, 11, 12] [13])]) (fun o => match o.op with | .load t _ => (match t with | 138 => 1 | _ => 0) | _ => 0) Try.func88 (by kernel_rfl) (by kernel_rfl) (by kernel_rfl) (TPP_ok) (.cons (show sub [1, 1, 1, 1, 0, 0, 1, 1, 1, 1] (bodyOf Try.f88) = some (atOf [1, 1, 1, 1, 0, 0, 1, 1, 1, 1] (bodyOf Try.f88)) from by kernel_rfl) (oneL_ok TPP_ok (by kernel_rfl) (by kernel_rfl)) (.nil _ _ _ _ _)) (holds_of_eq (by kernel_rfl) h)
theorem hpAP_low {l : List RwP} {J : List PV} {cap : Nat} {most : Int} (h : ∀ y ∈ J, Low 2 y) : ∀ (o : Nat) cs, (hpAP l J cap most)[o]? = some (.cells cs) → ∀ x ∈ cs, Low (hpAP l J cap most).length x := by
  intro o cs ho x hx
  have e1 := (List.getElem?_eq_some_iff.1 ho).1
  simp [hpAP] at e1
  rcases Nat.eq_zero_or_pos o with rfl | h0
  · cases ho
    simp only [List.mem_cons, List.not_mem_nil, or_false] at hx
    rcases hx with rfl | rfl
    · exact .arr _ _ _ _ (by simp [hpAP])
    · exact .int _ _
  · have : o = 1 := by omega
    subst this
    cases ho
    exact flP_low l h x hx
/-- what is left is a rack -/
def rkP (l : List RwP) (most : Int) : Rep := whole (EXP l most)
theorem left_AP {l : List RwP} {J : List PV} {cap : Nat} {most : Int} {T : Heap} {k : Nat} (hk : T[k]? = some (.cells (flP l ++ J))) (h : l.length ≤ cap) (hJ : Room J ((cap - l.length) * 5)) : RestOf (EXP l most) (.cells [.arr (k + 1) 0 l.length cap, .int .i64 most] :: T) :=
  ⟨hpAP l J cap most, _, sub_two hk (fun y hy => by rcases List.mem_singleton.1 hy with rfl; exact .int _ _) (flP_low l hJ.low), rfl, .inl ⟨J, cap, rfl, h, hJ⟩, root_of⟩
theorem left_NP {most : Int} {T : Heap} : RestOf (EXP [] most) (.cells [.list [] .exact, .int .i64 most] :: T) :=
  ⟨hpNP most, _, sub_one T (fun y hy => by simp only [List.mem_cons, List.not_mem_nil, or_false] at hy; rcases hy with rfl | rfl; exact low_list NT.exact (fun _ h => nomatch h); exact .int _ _), rfl, .inr ⟨rfl, rfl⟩, root_of⟩
theorem left_EXP {l : List RwP} {most : Int} {H : Heap} (h : EXP l most H) : RestOf (EXP l most) H := by
  rcases h with ⟨J, cap, rfl, hc, hJ⟩ | ⟨rfl, rfl⟩
  · exact left_AP (k := 0) rfl hc hJ
  · exact left_NP
def delP_s (args : List PV) (H : Heap) (K : PV → Heap → Prop) : Prop :=
  ∃ (l : List RwP) (J : List PV) (cap : Nat) (most : Int) (p : Nat), SlIs args [.arr 1 0 l.length cap, .int .i64 p, .int .i64 ((p + 1 : Nat) : Int)] ∧ HpIs H (hpAP l J cap most) ∧ p < l.length ∧ l.length ≤ 1000000 ∧ l.length ≤ cap ∧ Room J ((cap - l.length) * 5) ∧
    K (.arr 1 0 (l.length - 1) cap) [.cells [.arr 1 0 l.length cap, .int .i64 most], .cells (flP (l.eraseIdx p) ++ (zrP ++ J))]
theorem delP_ok : SpOk Try.prog gl 97 (.heap delP_s) := by
  rintro args H K ⟨l, J, cap, most, p, he, hH, hp, hl, hc, hJ, hk⟩
  have he : args = _ := he
  have hH : H = _ := hH
  subst he
  subst hH
  have hlen : (flP l ++ J).length = cap * 5 := by rw [List.length_append, flP_len, hJ.len, ← Nat.add_mul]; congr 1; omega
  have hone : (flP l ++ J).all PV.one = true := List.all_eq_true.2 (flP_one l hJ.one)
  refine delP_vc l J cap most p K ?_
  refine ⟨⟨by omega, by omega, by omega, by omega⟩, ?_⟩
  rw [br_if, if_neg (by simp; omega)]
  have e4 : p + (l.length - (p + 1)) = l.length - 1 := by omega
  have e5 : l.length - (l.length - 1) = 1 := by omega
  simp only [toNat_nat, Nat.sub_zero, Nat.zero_add, ite_self, e4, e5]
  have n1 : ¬ cap = l.length - 1 := by omega
  have t11 : (List.take ((l.length - (p + 1)) * 5) (List.drop (if cap = p + 1 then 0 else (p + 1) * 5) (flP l ++ J))) = List.take ((l.length - (p + 1)) * 5) (List.drop ((p + 1) * 5) (flP l ++ J)) := by
    split
    · rw [show l.length - (p + 1) = 0 by omega, Nat.zero_mul, List.take_zero, List.take_zero]
    · rfl
  have t12 : (List.take ((l.length - (p + 1)) * 5) (List.drop ((p + 1) * 5) (flP l ++ J))).length = (l.length - (p + 1)) * 5 := by rw [List.length_take, List.length_drop, hlen]; omega
  have t13 : (List.take ((l.length - (p + 1)) * 5) (List.drop ((p + 1) * 5) (flP l ++ J))).all PV.one = true := List.all_eq_true.2 fun y hy => List.all_eq_true.1 hone y (List.mem_of_mem_drop (List.mem_of_mem_take hy))
  simp only [t11, if_neg n1, del_rows csP_len hp]
  have hle : l.length - 1 = (l.eraseIdx p).length := by rw [List.length_eraseIdx_of_lt hp]
  refine ⟨⟨by decide, by omega, by omega, by omega⟩, ⟨by omega, by omega, by omega, by omega⟩, by split <;> omega, ⟨by omega, by omega, t12, t13, by omega⟩, by omega, ⟨by omega, by omega, by omega, by omega⟩, ?_, ?_⟩
  · simp only [List.length_append, rows_len csP_len, ← hle, csP_len, hJ.len]; omega
  · rw [hle]
    rw [hle] at hk
    rw [← del_clear (z := zrP) csP_len (l.getLast (List.ne_nil_of_length_pos (by omega))) rfl] at hk
    exact hk
theorem setP {l : List RwP} {J : List PV} {p : Nat} {t : Int} {v : Pt} (hp : p < l.length) (ht : (l.getD p default).id = t) : over (flP l ++ J) (p * 5 + 1) (let r : RwP := ⟨t, v⟩; [.int .u32 r.v.id, .int .u32 r.v.ld, .list (en1 .u32 r.v.ms) .no, .list (en1 .u32 r.v.iv) .no]) = flP (l.set p ⟨t, v⟩) ++ J := by
  have e1 : flP l ++ J = (flP (l.take p) ++ [.int .u32 t]) ++ (let r : RwP := l.getD p default; [.int .u32 r.v.id, .int .u32 r.v.ld, .list (en1 .u32 r.v.ms) .no, .list (en1 .u32 r.v.iv) .no]) ++ (flP (l.drop (p + 1)) ++ J) := by
    unfold flP
    rw [rows_parts l p, List.drop_eq_getElem_cons hp, List.map_cons, List.flatten_cons, ← ht, getD_eq' hp]
    simp [csP]
  rw [over_mid e1 (by rw [List.length_append, rows_len csP_len, List.length_take, Nat.min_eq_left (by omega)]; rfl) (by rfl), List.set_eq_take_append_cons_drop, if_pos hp]
  simp [flP, csP]
def puEP_s (args : List PV) (H : Heap) (K : PV → Heap → Prop) : Prop :=
  ∃ (l : List RwP) (most t : Int) (v : Pt), SlIs args [.ptr 0 0, .int .u32 t, Pt.pv v] ∧ EXP l most H ∧ Ok l most ∧ ∀ (H' : Heap), RestOf (EXP (putL l most t v).1 most) H' → K (.int .i64 (putL l most t v).2) H'
theorem puEP_ok : SpOk Try.prog gl 88 (.heap puEP_s) := by
  rintro args H K ⟨l, most, t, v, he, hH, ok, hk⟩
  have he : args = _ := he
  subst he
  unfold putL at hk
  rcases hH with ⟨J, cap, rfl, hc, hJ⟩ | ⟨rfl, rfl⟩
  · have hlen : (flP l ++ J).length = cap * 5 := by rw [List.length_append, flP_len, hJ.len, ← Nat.add_mul]; congr 1; omega
    refine putAP_vc l J cap most t v K ?_
    rw [br_if]
    by_cases c : rightS t = true
    · rw [if_neg (by simp [c])]
      rw [if_pos c] at hk
      refine ⟨l, most, t, rfl, ⟨_, [_], rfl, EXP_A hc hJ⟩, ok, ?_⟩
      simp only [br_if]
      by_cases c2 : has l t = true
      · rw [if_pos c2]
        rw [if_pos c2] at hk
        obtain ⟨h1, h2⟩ := has_lt c2
        refine ⟨⟨by omega, by omega⟩, ?_⟩
        simp only [toNat_nat, Nat.zero_add]
        rw [if_pos (by rw [decide_eq_true (by rw [hlen]; omega)]; rfl)]
        have h3 := left_AP (most := most) (l := l.set (lbp l t) ⟨t, v⟩) (J := J) (cap := cap) (k := 0) (T := [.cells (flP (l.set (lbp l t) ⟨t, v⟩) ++ J), .cells [.int .u32 v.id, .int .u32 v.ld, .list (en1 .u32 v.ms) .no, .list (en1 .u32 v.iv) .no]]) rfl (by simpa using hc) (by simpa using hJ)
        rw [List.length_set, ← setP h1 h2] at h3
        exact hk _ h3
      · rw [if_neg c2]
        rw [if_neg c2] at hk
        by_cases c3 : (l.length : Int) ≥ most
        · rw [if_pos (decide_eq_true c3)]
          rw [if_pos c3] at hk
          exact hk _ (left_AP (k := 0) rfl hc hJ)
        · rw [if_neg (by simpa using c3)]
          rw [if_neg c3] at hk
          have hi : (insAt l (lbp l t) ⟨t, v⟩).length = l.length + 1 := insAt_length (lbp_le l t)
          refine .inl ⟨[.cells [.int .u32 v.id, .int .u32 v.ld, .list (en1 .u32 v.ms) .no, .list (en1 .u32 v.iv) .no]], l, J, cap, most, ⟨t, v⟩, lbp l t, rfl, rfl, lbp_le l t, ok.len, hc, hJ, fun J' h1 h2 => ?_, fun c h1 J' h2 => ?_⟩
          · rw [← hi]
            exact hk _ (left_AP (k := 0) rfl (by rw [hi]; exact h1) (by rw [hi]; exact h2))
          · have := hk _ (left_AP (l := insAt l (lbp l t) ⟨t, v⟩) (J := J') (cap := c) (most := most) (k := 2) (T := [.cells (flP l ++ J), .cells [.int .u32 v.id, .int .u32 v.ld, .list (en1 .u32 v.ms) .no, .list (en1 .u32 v.iv) .no], .cells (flP (insAt l (lbp l t) ⟨t, v⟩) ++ J')]) rfl (by rw [hi]; exact h1) (by rw [hi]; exact h2))
            rw [hi] at this
            exact this
    · rw [if_pos (by simpa using c)]
      rw [if_neg c] at hk
      exact hk _ (left_AP (k := 0) rfl hc hJ)
  · refine putNP_vc most t v K ?_
    rw [br_if]
    by_cases c : rightS t = true
    · rw [if_neg (by simp [c])]
      rw [if_pos c, has_nil, if_neg (by decide)] at hk
      refine ⟨[], most, t, rfl, ⟨_, [_], rfl, EXP_N⟩, ok, ?_⟩
      rw [has_nil]
      simp only [br_if]
      rw [if_neg (by decide)]
      by_cases c3 : 0 ≥ most
      · rw [if_pos (decide_eq_true c3)]
        rw [if_pos (by simpa using c3)] at hk
        exact hk _ left_NP
      · rw [if_neg (by simpa using c3)]
        rw [if_neg (by simpa using c3)] at hk
        refine .inr ⟨[.cells [.int .u32 v.id, .int .u32 v.ld, .list (en1 .u32 v.ms) .no, .list (en1 .u32 v.iv) .no]], most, ⟨t, v⟩, rfl, rfl, fun c hc J' hJ => ?_⟩
        exact hk _ (left_AP (l := [⟨t, v⟩]) (k := 1) rfl hc hJ)
    · rw [if_pos (by simpa using c)]
      rw [if_neg c] at hk
      exact hk _ left_NP
end Go.Proofs.Ythabdpaipgclpaa
