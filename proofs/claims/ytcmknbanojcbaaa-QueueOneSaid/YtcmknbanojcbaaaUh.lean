/-
  The document's queue: Put.
-/
import Derived.Test.YtcmknbanojcbaaaUg
import Derived.Test.YtcmknbanojcbaaaProg
namespace Go.Proofs.Ytcmknbanojcbaaa
open Go Go.AM Go.Proofs
def TR7 : Tab := [(39, .pure rrt_s)]
theorem TR7_ok : TabOk Try.prog gl TR7 := .cons rrt_ok (.nil _ _)
def TRH : Tab := [(57, .pure rof_s), (83, .pure has_s)]
theorem TRH_ok : TabOk Try.prog gl TRH := .cons rof_ok (.cons has_ok (.nil _ _))
theorem rp1_vc (l : List Tk) (ms : List Mo) (t : Tk) (b : Bool) (i : Nat) (R : Ex → List PV → Heap → Prop) (h : br (decide ((↑i : Int) < (↑(List.length (List.map u1 (Tk.pl t))) : Int))) (br (b == true) (InL (List.map u1 (Tk.pl t)) 1 (↑i : Int) ∧ br (true && fitX [CK.int IntKind.u32] 0 (List.getD (List.map u1 (Tk.pl t)) (Int.toNat (↑i : Int)) [])) (∃ (t_1 : Int), 0 ≤ t_1 ∧ SlIs [PV.int IntKind.u32 (cI (List.getD (List.map u1 (Tk.pl t)) (Int.toNat (↑i : Int)) []) 0)] [PV.int IntKind.u32 t_1] ∧ R Ex.normal [PV.list (List.map csT l) Tail.no, PV.list (List.map Mo.cs ms) Tail.no, PV.ptr 0 0, PV.bool (rightS t_1), PV.int IntKind.i64 (wI ((↑i : Int) + 1))] [Ob.cells [PV.int IntKind.u32 (Tk.id t), PV.int IntKind.i64 (Tk.md t), PV.list (List.map u1 (Tk.pl t)) Tail.no, PV.int IntKind.i64 (Tk.rt t), PV.int IntKind.i64 (Tk.si t)]]) False) (R Ex.normal [PV.list (List.map csT l) Tail.no, PV.list (List.map Mo.cs ms) Tail.no, PV.ptr 0 0, PV.bool false, PV.int IntKind.i64 (wI ((↑i : Int) + 1))] [Ob.cells [PV.int IntKind.u32 (Tk.id t), PV.int IntKind.i64 (Tk.md t), PV.list (List.map u1 (Tk.pl t)) Tail.no, PV.int IntKind.i64 (Tk.rt t), PV.int IntKind.i64 (Tk.si t)]])) (R (Ex.exit 0) [PV.list (List.map csT l) Tail.no, PV.list (List.map Mo.cs ms) Tail.no, PV.ptr 0 0, PV.bool b, PV.int IntKind.i64 (↑i : Int)] [Ob.cells [PV.int IntKind.u32 (Tk.id t), PV.int IntKind.i64 (Tk.md t), PV.list (List.map u1 (Tk.pl t)) Tail.no, PV.int IntKind.i64 (Tk.rt t), PV.int IntKind.i64 (Tk.si t)]])) : Holds (wpc br Try.prog gl TR7 [] (fun _ => 0) (subOf [1, 1, 0, 1, 0] (bodyOf Try.f54)) [] (envS [0, 1, 5, 8, 9] [.list (l.map csT) .no, .list (ms.map Mo.cs) .no, .ptr 0 0, .bool b, .int .i64 i]) [.cells t.cells] (fun ex e H => R ex (List.map e [0, 1, 5, 8, 9]) H)) := holds_of_eq (by kernel_rfl) h
theorem rp2_vc (l : List Tk) (t g : Tk) (b : Bool) (i : Nat) (R : Ex → List PV → Heap → Prop) (h : br (decide ((↑i : Int) < (↑(List.length (List.map u1 (Tk.pl t))) : Int))) (br (b == false) (InL (List.map u1 (Tk.pl t)) 1 (↑i : Int) ∧ br (true && fitX [CK.int IntKind.u32] 0 (List.getD (List.map u1 (Tk.pl t)) (Int.toNat (↑i : Int)) [])) (∃ (l_1 : List Tk), ∃ (tl : Tail), ∃ (c : Int), SlIs [PV.list (List.map csT l) Tail.no, PV.int IntKind.u32 (cI (List.getD (List.map u1 (Tk.pl t)) (Int.toNat (↑i : Int)) []) 0)] [PV.list (List.map csT l_1) tl, PV.int IntKind.u32 c] ∧ Sml l_1 ∧ br ((ofQ l_1 c != 0) == false) ((0 ≤ wI ((↑i : Int) + 1) ∧ wI ((↑i : Int) + 1) ≤ (↑(List.length (List.map u1 (Tk.pl t))) : Int) ∧ (↑(List.length (List.map u1 (Tk.pl t))) : Int) ≤ (↑(List.length (List.map u1 (Tk.pl t))) : Int) ∧ (↑(List.length (List.map u1 (Tk.pl t))) : Int) ≤ (↑(List.length (List.map u1 (Tk.pl t))) : Int) ∧ uni 1 (List.map u1 (Tk.pl t))) ∧ InL (List.map u1 (Tk.pl t)) 1 (↑i : Int) ∧ br (true && fitX [CK.int IntKind.u32] 0 (List.getD (List.map u1 (Tk.pl t)) (Int.toNat (↑i : Int)) [])) (∃ (l_2 : List Int), ∃ (tl : Tail), ∃ (t_1 : Int), SlIs [PV.list (List.drop (Int.toNat (wI ((↑i : Int) + 1))) (List.take (Int.toNat (↑(List.length (List.map u1 (Tk.pl t))) : Int)) (List.map u1 (Tk.pl t)))) Tail.no, PV.int IntKind.u32 (cI (List.getD (List.map u1 (Tk.pl t)) (Int.toNat (↑i : Int)) []) 0)] [PV.list (List.map u1 l_2) tl, PV.int IntKind.u32 t_1] ∧ List.length l_2 ≤ 1000000 ∧ R Ex.normal [PV.list (List.map csT l) Tail.no, PV.ptr 0 0, PV.bool (memB l_2 t_1), PV.int IntKind.i64 (wI ((↑i : Int) + 1))] [Ob.cells [PV.int IntKind.u32 (Tk.id t), PV.int IntKind.i64 (Tk.md t), PV.list (List.map u1 (Tk.pl t)) Tail.no, PV.int IntKind.i64 (Tk.rt t), PV.int IntKind.i64 (Tk.si t)], Ob.cells [PV.int IntKind.u32 (Tk.id g), PV.int IntKind.i64 (Tk.md g), PV.list (List.map u1 (Tk.pl g)) Tail.no, PV.int IntKind.i64 (Tk.rt g), PV.int IntKind.i64 (Tk.si g)]]) False) (R Ex.normal [PV.list (List.map csT l) Tail.no, PV.ptr 0 0, PV.bool true, PV.int IntKind.i64 (wI ((↑i : Int) + 1))] [Ob.cells [PV.int IntKind.u32 (Tk.id t), PV.int IntKind.i64 (Tk.md t), PV.list (List.map u1 (Tk.pl t)) Tail.no, PV.int IntKind.i64 (Tk.rt t), PV.int IntKind.i64 (Tk.si t)], Ob.cells [PV.int IntKind.u32 (Tk.id g), PV.int IntKind.i64 (Tk.md g), PV.list (List.map u1 (Tk.pl g)) Tail.no, PV.int IntKind.i64 (Tk.rt g), PV.int IntKind.i64 (Tk.si g)]])) False) (R Ex.normal [PV.list (List.map csT l) Tail.no, PV.ptr 0 0, PV.bool true, PV.int IntKind.i64 (wI ((↑i : Int) + 1))] [Ob.cells [PV.int IntKind.u32 (Tk.id t), PV.int IntKind.i64 (Tk.md t), PV.list (List.map u1 (Tk.pl t)) Tail.no, PV.int IntKind.i64 (Tk.rt t), PV.int IntKind.i64 (Tk.si t)], Ob.cells [PV.int IntKind.u32 (Tk.id g), PV.int IntKind.i64 (Tk.md g), PV.list (List.map u1 (Tk.pl g)) Tail.no, PV.int IntKind.i64 (Tk.rt g), PV.int IntKind.i64 (Tk.si g)]])) (R (Ex.exit 2) [PV.list (List.map csT l) Tail.no, PV.ptr 0 0, PV.bool b, PV.int IntKind.i64 (↑i : Int)] [Ob.cells [PV.int IntKind.u32 (Tk.id t), PV.int IntKind.i64 (Tk.md t), PV.list (List.map u1 (Tk.pl t)) Tail.no, PV.int IntKind.i64 (Tk.rt t), PV.int IntKind.i64 (Tk.si t)], Ob.cells [PV.int IntKind.u32 (Tk.id g), PV.int IntKind.i64 (Tk.md g), PV.list (List.map u1 (Tk.pl g)) Tail.no, PV.int IntKind.i64 (Tk.rt g), PV.int IntKind.i64 (Tk.si g)]])) : Holds (wpc br Try.prog gl TRH [] (fun _ => 0) (subOf [1, 1, 1, 1, 1, 1, 1, 1, 0, 1, 0] (bodyOf Try.f54)) [] (envS [0, 5, 11, 12] [.list (l.map csT) .no, .ptr 0 0, .bool b, .int .i64 i]) [.cells t.cells, .cells g.cells] (fun ex e H => R ex (List.map e [0, 5, 11, 12]) H)) := holds_of_eq (by kernel_rfl) h
def rgI (t : Tk) (i : Nat) : Bool := rightS t.id && (t.pl.take i).all rightS
theorem rgI_succ {t : Tk} {i : Nat} (h : i < t.pl.length) : rgI t (i + 1) = (rgI t i && rightS (t.pl.getD i 0)) := by
  unfold rgI
  rw [take_snoc 0 h, List.all_append]
  simp [Bool.and_assoc]
theorem rgI_end (t : Tk) : rgI t t.pl.length = (rightS t.id && !badP t.pl) := by
  unfold rgI badP
  rw [List.take_length]
  congr 1
  rw [← List.not_all_eq_any_not]; simp
structure Nn (t : Tk) : Prop where
  id : 0 ≤ t.id
  pl : ∀ p ∈ t.pl, 0 ≤ p
def rp1_l : LSp := fun e H Q => ∃ (l : List Tk) (ms : List Mo) (t : Tk), Nn t ∧ t.pl.length ≤ 1000000 ∧ SlIs (List.map e [0, 1, 5, 8, 9]) [.list (l.map csT) .no, .list (ms.map Mo.cs) .no, .ptr 0 0, .bool (rightS t.id), .int .i64 0] ∧ HpIs H [.cells t.cells] ∧
  Q (.exit 0) (envS [0, 1, 5, 8, 9] [.list (l.map csT) .no, .list (ms.map Mo.cs) .no, .ptr 0 0, .bool (rightS t.id && !badP t.pl), .int .i64 t.pl.length]) [.cells t.cells]
theorem rp1_l_ok : ∀ e H Q, rp1_l e H Q → AW Try.prog gl Try.f54.ntmps (.loop (subOf [1, 1, 0, 1, 0] (bodyOf Try.f54))) Q e H := by
  rintro e H Q ⟨l, ms, t, nn, ht, he, hH, hQ⟩
  refine aw_loop4 (hn := fun _ => 0) gl_low TR7_ok (.nil _ _ _ _ _) (σ := Nat) [0, 1, 5, 8, 9] (fun i => i ≤ t.pl.length) (fun i => [.list (l.map csT) .no, .list (ms.map Mo.cs) .no, .ptr 0 0, .bool (rgI t i), .int .i64 i]) (fun _ => [.cells t.cells]) (fun i => t.pl.length - i) 0 (Nat.zero_le _) (by rw [show rgI t 0 = rightS t.id from by simp [rgI]]; exact he) hH ?_
  intro i hi
  have hi : i ≤ t.pl.length := hi
  refine rp1_vc l ms t (rgI t i) i _ ?_
  simp only [br_if, dt, toNat_nat, List.length_map]
  by_cases h : i < t.pl.length
  · rw [if_pos (by omega)]
    have next : ∀ {b : Bool}, b = rgI t (i + 1) → ∃ s' : Nat, t.pl.length - s' < t.pl.length - i ∧ s' ≤ t.pl.length ∧ [PV.list (l.map csT) .no, .list (ms.map Mo.cs) .no, .ptr 0 0, .bool b, .int .i64 (wI ((i : Int) + 1))] = [PV.list (l.map csT) .no, .list (ms.map Mo.cs) .no, .ptr 0 0, .bool (rgI t s'), .int .i64 (s' : Int)] := by
      rintro b rfl
      exact ⟨i + 1, by omega, h, by rw [wI_succ h (by omega)]⟩
    by_cases c : rgI t i = true
    · rw [if_pos (by simp [c]), inL_u1, getD_map 0 h]
      refine ⟨h, ?_⟩
      rw [if_pos (by rfl)]
      refine ⟨t.pl.getD i 0, nn.pl _ (getD_mem h), rfl, ?_⟩
      obtain ⟨s', a1, a2, a3⟩ := next (b := rightS (t.pl.getD i 0)) (by rw [rgI_succ h, c, Bool.true_and])
      exact ⟨s', a1, a2, a3, [], rfl, Nat.le_refl _, .inl rfl⟩
    · have c' : rgI t i = false := by simpa using c
      rw [if_neg (by rw [c']; decide)]
      obtain ⟨s', a1, a2, a3⟩ := next (b := false) (by rw [rgI_succ h, c', Bool.false_and])
      exact ⟨s', a1, a2, a3, [], rfl, Nat.le_refl _, .inl rfl⟩
  · rw [if_neg (by omega)]
    have : i = t.pl.length := by omega
    subst this
    rw [rgI_end]
    exact hQ
def thI (l : List Tk) (t : Tk) (i : Nat) : Bool := hasQ l t.id || decide (∃ k, k < i ∧ (ofQ l (t.pl.getD k 0) != 0 || memB (t.pl.drop (k + 1)) (t.pl.getD k 0)) = true)
theorem thI_zero (l : List Tk) (t : Tk) : thI l t 0 = hasQ l t.id := by
  unfold thI
  rw [decide_eq_false (fun ⟨k, h, _⟩ => absurd h (Nat.not_lt_zero _)), Bool.or_false]
theorem thI_succ (l : List Tk) (t : Tk) (i : Nat) : thI l t (i + 1) = (thI l t i || (ofQ l (t.pl.getD i 0) != 0 || memB (t.pl.drop (i + 1)) (t.pl.getD i 0))) := by
  unfold thI
  rw [Bool.or_assoc]
  congr 1
  rw [Bool.eq_iff_iff, decide_eq_true_eq, Bool.or_eq_true, decide_eq_true_eq]
  constructor
  · rintro ⟨k, h1, h2⟩
    rcases Nat.eq_or_lt_of_le (Nat.le_of_lt_succ h1) with rfl | q
    · exact .inr h2
    · exact .inl ⟨k, q, h2⟩
  · rintro (⟨k, h1, h2⟩ | h)
    · exact ⟨k, by omega, h2⟩
    · exact ⟨i, Nat.lt_succ_self _, h⟩
theorem thI_end (l : List Tk) (t : Tk) : thI l t t.pl.length = (hasQ l t.id || dblW l t.pl) := rfl
def rp2_l : LSp := fun e H Q => ∃ (l : List Tk) (t g : Tk), Sml l ∧ t.pl.length ≤ 1000000 ∧ SlIs (List.map e [0, 5, 11, 12]) [.list (l.map csT) .no, .ptr 0 0, .bool (hasQ l t.id), .int .i64 0] ∧ HpIs H [.cells t.cells, .cells g.cells] ∧
  Q (.exit 2) (envS [0, 5, 11, 12] [.list (l.map csT) .no, .ptr 0 0, .bool (hasQ l t.id || dblW l t.pl), .int .i64 t.pl.length]) [.cells t.cells, .cells g.cells]
theorem rp2_l_ok : ∀ e H Q, rp2_l e H Q → AW Try.prog gl Try.f54.ntmps (.loop (subOf [1, 1, 1, 1, 1, 1, 1, 1, 0, 1, 0] (bodyOf Try.f54))) Q e H := by
  rintro e H Q ⟨l, t, g, s, ht, he, hH, hQ⟩
  refine aw_loop4 (hn := fun _ => 0) gl_low TRH_ok (.nil _ _ _ _ _) (σ := Nat) [0, 5, 11, 12] (fun i => i ≤ t.pl.length) (fun i => [.list (l.map csT) .no, .ptr 0 0, .bool (thI l t i), .int .i64 i]) (fun _ => [.cells t.cells, .cells g.cells]) (fun i => t.pl.length - i) 0 (Nat.zero_le _) (by rw [thI_zero]; exact he) hH ?_
  intro i hi
  have hi : i ≤ t.pl.length := hi
  refine rp2_vc l t g (thI l t i) i _ ?_
  simp only [br_if, dt, toNat_nat, List.length_map]
  by_cases h : i < t.pl.length
  · rw [if_pos (by omega)]
    have e1 : wI ((i : Int) + 1) = ((i + 1 : Nat) : Int) := wI_succ h (by omega)
    have next : ∀ {b : Bool}, b = thI l t (i + 1) → ∃ s' : Nat, t.pl.length - s' < t.pl.length - i ∧ s' ≤ t.pl.length ∧ [PV.list (l.map csT) .no, .ptr 0 0, .bool b, .int .i64 (wI ((i : Int) + 1))] = [PV.list (l.map csT) .no, .ptr 0 0, .bool (thI l t s'), .int .i64 (s' : Int)] := by
      rintro b rfl
      exact ⟨i + 1, by omega, h, by rw [e1]⟩
    have done : thI l t (i + 1) = true → ∃ s' : Nat, t.pl.length - s' < t.pl.length - i ∧ s' ≤ t.pl.length ∧ [PV.list (l.map csT) .no, .ptr 0 0, .bool true, .int .i64 (wI ((i : Int) + 1))] = [PV.list (l.map csT) .no, .ptr 0 0, .bool (thI l t s'), .int .i64 (s' : Int)] := fun k => next k.symm
    by_cases c : thI l t i = true
    · rw [if_neg (by rw [c]; decide)]
      obtain ⟨s', a1, a2, a3⟩ := done (by rw [thI_succ, c, Bool.true_or])
      exact ⟨s', a1, a2, a3, [], rfl, Nat.le_refl _, .inl rfl⟩
    · have c' : thI l t i = false := by simpa using c
      rw [if_pos (by rw [c']; rfl), inL_u1, getD_map 0 h]
      refine ⟨h, ?_⟩
      rw [if_pos (by rfl)]
      refine ⟨l, .no, t.pl.getD i 0, rfl, s, ?_⟩
      by_cases d : (ofQ l (t.pl.getD i 0) != 0) = true
      · rw [if_neg (by rw [d]; decide)]
        obtain ⟨s', a1, a2, a3⟩ := done (by rw [thI_succ, d, Bool.true_or, Bool.or_true])
        exact ⟨s', a1, a2, a3, [], rfl, Nat.le_refl _, .inl rfl⟩
      · have d' : (ofQ l (t.pl.getD i 0) != 0) = false := by simpa using d
        rw [if_pos (by rw [d']; rfl), e1, toNat_nat]
        refine ⟨⟨by omega, by omega, by omega, by omega, uni_u1 _⟩, h, ?_⟩
        rw [if_pos (by rfl)]
        refine ⟨t.pl.drop (i + 1), .no, t.pl.getD i 0, by rw [List.take_of_length_le (by simp), ← List.map_drop]; rfl, by rw [List.length_drop]; omega, ?_⟩
        obtain ⟨s', a1, a2, a3⟩ := next (b := memB (t.pl.drop (i + 1)) (t.pl.getD i 0)) (by rw [thI_succ, c', d', Bool.false_or, Bool.false_or])
        rw [e1] at a3
        exact ⟨s', a1, a2, a3, [], rfl, Nat.le_refl _, .inl rfl⟩
  · rw [if_neg (by omega)]
    have : i = t.pl.length := by omega
    subst this
    rw [thI_end]
    exact hQ
theorem rp3_vc (l : List Tk) (t : Tk) (x0 : Ob) (R : List PV → Heap → Prop) (h : AppL [] (List.map csT l) 5 56 ∧ List.all (List.flatten (List.map csT l)) PV.one = true ∧ (List.map csT l = [] → AppL [] [[PV.int IntKind.u32 (Tk.id t), PV.int IntKind.i64 (Tk.md t), PV.list (List.map u1 (Tk.pl t)) Tail.no, PV.int IntKind.i64 (Tk.rt t), PV.int IntKind.i64 (Tk.si t)]] 5 56 ∧ (List.all [PV.int IntKind.u32 (Tk.id t), PV.int IntKind.i64 (Tk.md t), PV.list (List.map u1 (Tk.pl t)) Tail.no, PV.int IntKind.i64 (Tk.rt t), PV.int IntKind.i64 (Tk.si t)] PV.one = true ∧ [[PV.int IntKind.u32 (Tk.id t), PV.int IntKind.i64 (Tk.md t), PV.list (List.map u1 (Tk.pl t)) Tail.no, PV.int IntKind.i64 (Tk.rt t), PV.int IntKind.i64 (Tk.si t)]] ≠ []) ∧ R [PV.list [[PV.int IntKind.u32 (Tk.id t), PV.int IntKind.i64 (Tk.md t), PV.list (List.map u1 (Tk.pl t)) Tail.no, PV.int IntKind.i64 (Tk.rt t), PV.int IntKind.i64 (Tk.si t)]] (Tail.tok 2), PV.int IntKind.i64 0] [Ob.cells [PV.int IntKind.u32 (Tk.id t), PV.int IntKind.i64 (Tk.md t), PV.list (List.map u1 (Tk.pl t)) Tail.no, PV.int IntKind.i64 (Tk.rt t), PV.int IntKind.i64 (Tk.si t)], x0, Ob.tok]) ∧ (List.map csT l ≠ [] → AppL ([] ++ List.map csT l) [[PV.int IntKind.u32 (Tk.id t), PV.int IntKind.i64 (Tk.md t), PV.list (List.map u1 (Tk.pl t)) Tail.no, PV.int IntKind.i64 (Tk.rt t), PV.int IntKind.i64 (Tk.si t)]] 5 56 ∧ (List.all [PV.int IntKind.u32 (Tk.id t), PV.int IntKind.i64 (Tk.md t), PV.list (List.map u1 (Tk.pl t)) Tail.no, PV.int IntKind.i64 (Tk.rt t), PV.int IntKind.i64 (Tk.si t)] PV.one = true ∧ [[PV.int IntKind.u32 (Tk.id t), PV.int IntKind.i64 (Tk.md t), PV.list (List.map u1 (Tk.pl t)) Tail.no, PV.int IntKind.i64 (Tk.rt t), PV.int IntKind.i64 (Tk.si t)]] ≠ []) ∧ R [PV.list ([] ++ List.map csT l ++ [[PV.int IntKind.u32 (Tk.id t), PV.int IntKind.i64 (Tk.md t), PV.list (List.map u1 (Tk.pl t)) Tail.no, PV.int IntKind.i64 (Tk.rt t), PV.int IntKind.i64 (Tk.si t)]]) (Tail.tok 3), PV.int IntKind.i64 0] [Ob.cells [PV.int IntKind.u32 (Tk.id t), PV.int IntKind.i64 (Tk.md t), PV.list (List.map u1 (Tk.pl t)) Tail.no, PV.int IntKind.i64 (Tk.rt t), PV.int IntKind.i64 (Tk.si t)], x0, Ob.dead, Ob.tok])) : Holds (regc br Try.prog gl [] (fun o => match o.dst with | some 121 => 4 | some 124 => 1 | _ => 0) true (opsOf (atOf [1, 1, 1, 1, 1, 1, 1, 1, 1, 1, 1, 0] (bodyOf Try.f54))) (inOrder (opsOf (atOf [1, 1, 1, 1, 1, 1, 1, 1, 1, 1, 1, 0] (bodyOf Try.f54))) [0, 1, 3, 4, 2, 5, 6, 7]) (envS [0, 5] [.list (l.map csT) .no, .ptr 0 0]) [.cells t.cells, x0] (fun e H => R (List.map e [6, 7]) H)) := holds_of_eq (by kernel_rfl) h
def rp3_l : LSp := fun e H Q => ∃ (l : List Tk) (t : Tk) (x0 : Ob), l.length ≤ 1000000 ∧ SlIs (List.map e [0, 5]) [.list (l.map csT) .no, .ptr 0 0] ∧ HpIs H [.cells t.cells, x0] ∧
  ∀ (tl : Tail) (X : Heap), Q .normal (envS [6, 7] [.list ((l ++ [t]).map csT) tl, .int .i64 0]) X
theorem rp3_draw : isDraw (atOf [1, 1, 1, 1, 1, 1, 1, 1, 1, 1, 1, 0] (bodyOf Try.f54)) = true := by kernel_rfl
theorem rp3_fam : okFam (opsOf (atOf [1, 1, 1, 1, 1, 1, 1, 1, 1, 1, 1, 0] (bodyOf Try.f54))) (fun o => match o.dst with | some 121 => 4 | some 124 => 1 | _ => 0) [2, 5] [[0, 1, 3, 4, 2, 5, 6, 7]] = true := by kernel_rfl
theorem rp3_l_ok : ∀ e H Q, rp3_l e H Q → AW Try.prog gl Try.f54.ntmps (atOf [1, 1, 1, 1, 1, 1, 1, 1, 1, 1, 1, 0] (bodyOf Try.f54)) Q e H := by
  rintro e H Q ⟨l, t, x0, hl, he, hH, hQ⟩
  refine aw_family (T := []) (slots := [0, 5]) (outs := [6, 7]) (.nil _ _) [2, 5] [[0, 1, 3, 4, 2, 5, 6, 7]] rp3_draw rp3_fam he hH ?_
  intro is his
  rw [List.mem_singleton] at his
  subst his
  refine rp3_vc l t x0 (fun vs H' => Q .normal (envS [6, 7] vs) H') ?_
  refine ⟨appL_two (a := []) (b := l) (by simp; omega), all_one l, fun e0 => ?_, fun e0 => ?_⟩
  · have e3 : l = [] := List.map_eq_nil_iff.1 e0
    refine ⟨appL_two (a := []) (b := [t]) (by simp), ⟨all_one [t], by simp⟩, ?_⟩
    have := hQ (.tok 2) [.cells t.cells, x0, .tok]
    rw [e3] at this
    exact this
  · refine ⟨appL_two (a := l) (b := [t]) (by simp; omega), ⟨all_one [t], by simp⟩, ?_⟩
    have := hQ (.tok 3) [.cells t.cells, x0, .dead, .tok]
    rw [List.map_append] at this
    exact this
def TRP : Tab := [(51, .pure rget_s), (84, .pure rmode_s), (39, .pure rrt_s)]
theorem TRP_ok : TabOk Try.prog gl TRP := .cons rget_ok (.cons rmode_ok (.cons rrt_ok (.nil _ _)))
theorem rput1_vc (l : List Tk) (ms : List Mo) (t : Tk)  (K : PV → Prop) (h : ∃ (t_1 : Int), 0 ≤ t_1 ∧ SlIs [PV.int IntKind.u32 (Tk.id t)] [PV.int IntKind.u32 t_1] ∧ ∃ (l_1 : List Tk), ∃ (ms_1 : List Mo), ∃ (t_2 : Tk), Nn t_2 ∧ List.length (Tk.pl t_2) ≤ 1000000 ∧ SlIs [PV.list (List.map csT l) Tail.no, PV.list (List.map Mo.cs ms) Tail.no, PV.ptr 0 0, PV.bool (rightS t_1), PV.int IntKind.i64 0] [PV.list (List.map csT l_1) Tail.no, PV.list (List.map Mo.cs ms_1) Tail.no, PV.ptr 0 0, PV.bool (rightS (Tk.id t_2)), PV.int IntKind.i64 0] ∧ HpIs [Ob.cells [PV.int IntKind.u32 (Tk.id t), PV.int IntKind.i64 (Tk.md t), PV.list (List.map u1 (Tk.pl t)) Tail.no, PV.int IntKind.i64 (Tk.rt t), PV.int IntKind.i64 (Tk.si t)]] [Ob.cells [PV.int IntKind.u32 (Tk.id t_2), PV.int IntKind.i64 (Tk.md t_2), PV.list (List.map u1 (Tk.pl t_2)) Tail.no, PV.int IntKind.i64 (Tk.rt t_2), PV.int IntKind.i64 (Tk.si t_2)]] ∧ br (!(rightS (Tk.id t_2) && !badP (Tk.pl t_2))) (K (PV.tup [PV.list (List.map csT l_1) Tail.no, PV.int IntKind.i64 14])) (br (decide (Tk.md t_2 < 0) == false) (br (decide (Tk.md t_2 ≥ (↑(List.length (List.map Mo.cs ms_1)) : Int))) (K (PV.tup [PV.list (List.map csT l_1) Tail.no, PV.int IntKind.i64 20])) (br (((↑(List.length (List.map u1 (Tk.pl t_2))) : Int) == 0) == false) (InL (List.map Mo.cs ms_1) 5 (Tk.md t_2) ∧ br (true && fitX [CK.int IntKind.i64] 0 (List.drop 0 (List.getD (List.map Mo.cs ms_1) (Int.toNat (Tk.md t_2)) []))) (br (decide ((↑(List.length (List.map u1 (Tk.pl t_2))) : Int) > cI (List.drop 0 (List.getD (List.map Mo.cs ms_1) (Int.toNat (Tk.md t_2)) [])) 0)) (K (PV.tup [PV.list (List.map csT l_1) Tail.no, PV.int IntKind.i64 21])) (br (decide (Tk.rt t_2 < 0) == false) (br (decide (Tk.rt t_2 > 10000)) (K (PV.tup [PV.list (List.map csT l_1) Tail.no, PV.int IntKind.i64 2])) (∃ (l : List Tk), ∃ (tl : Tail), ∃ (c : Int), SlIs [PV.list (List.map csT l_1) Tail.no, PV.int IntKind.u32 (Tk.id t_2)] [PV.list (List.map csT l) tl, PV.int IntKind.u32 c] ∧ List.length l ≤ 1000000 ∧ ∃ (l_2 : List Tk), ∃ (t : Tk), ∃ (g : Tk), Sml l_2 ∧ List.length (Tk.pl t) ≤ 1000000 ∧ SlIs [PV.list (List.map csT l_1) Tail.no, PV.ptr 0 0, PV.bool (hasQ l c), PV.int IntKind.i64 0] [PV.list (List.map csT l_2) Tail.no, PV.ptr 0 0, PV.bool (hasQ l_2 (Tk.id t)), PV.int IntKind.i64 0] ∧ HpIs [Ob.cells [PV.int IntKind.u32 (Tk.id t_2), PV.int IntKind.i64 (Tk.md t_2), PV.list (List.map u1 (Tk.pl t_2)) Tail.no, PV.int IntKind.i64 (Tk.rt t_2), PV.int IntKind.i64 (Tk.si t_2)], Ob.cells [PV.int IntKind.u32 (Tk.id (getQ l c)), PV.int IntKind.i64 (Tk.md (getQ l c)), PV.list (List.map u1 (Tk.pl (getQ l c))) Tail.no, PV.int IntKind.i64 (Tk.rt (getQ l c)), PV.int IntKind.i64 (Tk.si (getQ l c))]] [Ob.cells [PV.int IntKind.u32 (Tk.id t), PV.int IntKind.i64 (Tk.md t), PV.list (List.map u1 (Tk.pl t)) Tail.no, PV.int IntKind.i64 (Tk.rt t), PV.int IntKind.i64 (Tk.si t)], Ob.cells [PV.int IntKind.u32 (Tk.id g), PV.int IntKind.i64 (Tk.md g), PV.list (List.map u1 (Tk.pl g)) Tail.no, PV.int IntKind.i64 (Tk.rt g), PV.int IntKind.i64 (Tk.si g)]] ∧ br (hasQ l_2 (Tk.id t) || dblW l_2 (Tk.pl t)) (K (PV.tup [PV.list (List.map csT l_2) Tail.no, PV.int IntKind.i64 11])) (∃ (l : List Tk), ∃ (tl : Tail), ∃ (m : Int), SlIs [PV.list (List.map csT l_2) Tail.no, PV.int IntKind.i64 (Tk.md t)] [PV.list (List.map csT l) tl, PV.int IntKind.i64 m] ∧ List.length l ≤ 1000000 ∧ br (decide ((↑(List.length (List.map csT (modeW l m))) : Int) ≥ 16)) (K (PV.tup [PV.list (List.map csT l_2) Tail.no, PV.int IntKind.i64 10])) (∃ (l : List Tk), ∃ (t_3 : Tk), ∃ (x0 : Ob), List.length l ≤ 1000000 ∧ SlIs [PV.list (List.map csT l_2) Tail.no, PV.ptr 0 0] [PV.list (List.map csT l) Tail.no, PV.ptr 0 0] ∧ HpIs [Ob.cells [PV.int IntKind.u32 (Tk.id t), PV.int IntKind.i64 (Tk.md t), PV.list (List.map u1 (Tk.pl t)) Tail.no, PV.int IntKind.i64 (Tk.rt t), PV.int IntKind.i64 (Tk.si t)], Ob.cells [PV.int IntKind.u32 (Tk.id g), PV.int IntKind.i64 (Tk.md g), PV.list (List.map u1 (Tk.pl g)) Tail.no, PV.int IntKind.i64 (Tk.rt g), PV.int IntKind.i64 (Tk.si g)]] [Ob.cells [PV.int IntKind.u32 (Tk.id t_3), PV.int IntKind.i64 (Tk.md t_3), PV.list (List.map u1 (Tk.pl t_3)) Tail.no, PV.int IntKind.i64 (Tk.rt t_3), PV.int IntKind.i64 (Tk.si t_3)], x0] ∧ ∀ (tl : Tail), ∀ (_ : Heap), K (PV.tup [PV.list (List.map csT (l ++ [t_3])) tl, PV.int IntKind.i64 0]))))) (K (PV.tup [PV.list (List.map csT l_1) Tail.no, PV.int IntKind.i64 2])))) False) (K (PV.tup [PV.list (List.map csT l_1) Tail.no, PV.int IntKind.i64 21])))) (K (PV.tup [PV.list (List.map csT l_1) Tail.no, PV.int IntKind.i64 20])))) : ACalls Try.prog gl 54 [.list (l.map csT) .no, .list (ms.map Mo.cs) .no, t.pv] [] (fun x _ => K x) :=
  acalls_of_wpc2 (T := TRP) (L := [([1, 1, 0, 1, 0], rp1_l), ([1, 1, 1, 1, 1, 1, 1, 1, 0, 1, 0], rp2_l), ([1, 1, 1, 1, 1, 1, 1, 1, 1, 1, 1, 0], rp3_l)]) (fun _ => 0) Try.func54 (by kernel_rfl) (by kernel_rfl) (by kernel_rfl) (TRP_ok) (.cons (sub_of (by kernel_rfl)) rp1_l_ok (.cons (sub_of (by kernel_rfl)) rp2_l_ok (.cons (show sub [1, 1, 1, 1, 1, 1, 1, 1, 1, 1, 1, 0] (bodyOf Try.f54) = some (atOf [1, 1, 1, 1, 1, 1, 1, 1, 1, 1, 1, 0] (bodyOf Try.f54)) from by kernel_rfl) rp3_l_ok (.nil _ _ _ _ _)))) (holds_of_eq (by kernel_rfl) h)
theorem k_at {ms : List Mo} {n : Int} (h0 : 0 ≤ n) (h : n < ms.length) : (ms.map Mo.cs).getD n.toNat [] = (ms.getD n.toNat default).cs ∧ (ms.map kOf).getD n.toNat 0 = (ms.getD n.toNat default).K :=
  ⟨getD_map default (by omega), by rw [getD_eq' (by rw [List.length_map]; omega), List.getElem_map, getD_eq' (by omega)]; rfl⟩
theorem k_in {ms : List Mo} {n : Int} (h0 : 0 ≤ n) (h : n < ms.length) : InL (ms.map Mo.cs) 5 n := by
  have := inL_mo ms n.toNat
  rw [show ((n.toNat : Nat) : Int) = n by omega] at this
  rw [this]; omega
def rput_s (args : List PV) (K : PV → Prop) : Prop := ∃ (l : List Tk) (tl1 : Tail) (ms : List Mo) (tl2 : Tail) (t : Tk) (tl3 : Tail), SlIs args [.list (l.map csT) tl1, .list (ms.map Mo.cs) tl2, .agg [.int .u32 t.id, .int .i64 t.md, .list (t.pl.map u1) tl3, .int .i64 t.rt, .int .i64 t.si]] ∧ Sml l ∧ Nn t ∧ t.pl.length ≤ 1000000 ∧
  K (.tup [.list ((putR (ms.map kOf) l t).map csT) .no, .int .i64 (errR (ms.map kOf) l t)])
theorem rput_ok : SpOk Try.prog gl 54 (.pure rput_s) := by
  rintro args K ⟨l, tl1, ms, tl2, t, tl3, he, s, nn, ht, hk⟩
  have he : args = _ := he
  subst he
  refine spure_w gl_low (.cons (.list _ _) (.cons (.list _ _) (.cons (wk_tk (t := t)) .nil))) (low_three (low_ts l) (low_mos ms) t.low) (r := .tup [.list ((putR (ms.map kOf) l t).map csT) .no, .int .i64 (errR (ms.map kOf) l t)]) (.tup _ (low_two (low_ts _) (.int _ _))) (acalls_weak ?_) hk
  obtain ⟨sz, hsz⟩ : ∃ sz, sz = ms.map kOf := ⟨_, rfl⟩
  have hl : sz.length = ms.length := by rw [hsz, List.length_map]
  rw [← hsz]
  have bad : ∀ {n : Int}, errR sz l t = n → n ≠ 0 → ∃ y, Wk (.tup [.list (l.map csT) .no, .int .i64 n]) y ∧ y = .tup [.list ((putR sz l t).map csT) .no, .int .i64 (errR sz l t)] := fun h1 h2 => ⟨_, .refl _, by unfold putR; rw [h1, if_neg h2]⟩
  have d2 : ((t.pl.length : Int) == 0) = decide (t.pl = []) := by
    rw [Bool.eq_iff_iff, beq_iff_eq, decide_eq_true_eq, ← List.length_eq_zero_iff]; omega
  refine rput1_vc l ms t _ ⟨t.id, nn.id, rfl, l, ms, t, nn, ht, rfl, rfl, ?_⟩
  simp only [br_if, List.length_map, dt, d2]
  by_cases c1 : rightS t.id = true
  rotate_left
  · rw [if_pos (by simp [c1])]
    exact bad (by unfold errR; rw [if_neg (fun k => c1 k.1)]) (by decide)
  by_cases c2 : badP t.pl = true
  · rw [if_pos (by simp [c2])]
    exact bad (by unfold errR; rw [if_neg (fun k => by rw [c2] at k; exact absurd k.2 (by decide))]) (by decide)
  have c2' : badP t.pl = false := by simpa using c2
  rw [if_neg (by simp [c1, c2'])]
  have e1 : errR sz l t = errR sz l t := rfl
  conv at e1 => rhs; unfold errR
  rw [if_pos ⟨c1, c2'⟩, hl] at e1
  by_cases c3 : 0 ≤ t.md
  rotate_left
  · rw [if_neg (by simp; omega)]
    exact bad (by rw [e1, if_neg (fun k => c3 k.1)]) (by decide)
  rw [if_pos (by simp; omega)]
  by_cases c4 : t.md < ms.length
  rotate_left
  · rw [if_pos (by omega)]
    exact bad (by rw [e1, if_neg (fun k => c4 k.2)]) (by decide)
  rw [if_neg (by omega)]
  rw [if_pos ⟨c3, c4⟩] at e1
  obtain ⟨k1, k2⟩ := k_at c3 c4
  rw [hsz, k2, ← hsz] at e1
  by_cases c5 : t.pl = []
  · rw [if_neg (by simp [c5])]
    exact bad (by rw [e1, if_neg (fun k => k.1 c5)]) (by decide)
  rw [if_pos (by simp [c5]), k1]
  refine ⟨k_in c3 c4, ?_⟩
  rw [if_pos (by rfl)]
  have hci : cI (List.drop 0 (ms.getD t.md.toNat default).cs) 0 = (ms.getD t.md.toNat default).K := rfl
  rw [hci]
  by_cases c6 : (t.pl.length : Int) ≤ (ms.getD t.md.toNat default).K
  rotate_left
  · rw [if_pos (by omega)]
    exact bad (by rw [e1, if_neg (fun k => c6 k.2)]) (by decide)
  rw [if_neg (by omega)]
  rw [if_pos ⟨c5, c6⟩] at e1
  by_cases c7 : 0 ≤ t.rt
  rotate_left
  · rw [if_neg (by simp; omega)]
    exact bad (by rw [e1, if_neg (fun k => c7 k.1)]) (by decide)
  rw [if_pos (by simp; omega)]
  by_cases c8 : t.rt ≤ 10000
  rotate_left
  · rw [if_pos (by omega)]
    exact bad (by rw [e1, if_neg (fun k => c8 k.2)]) (by decide)
  rw [if_neg (by omega)]
  rw [if_pos ⟨c7, c8⟩] at e1
  refine ⟨l, .no, t.id, rfl, s.len, l, t, getQ l t.id, s, ht, rfl, rfl, ?_⟩
  by_cases c9 : hasQ l t.id = true
  · rw [if_pos (by simp [c9])]
    exact bad (by rw [e1, if_neg (fun k => by rw [c9] at k; exact absurd k.1 (by decide))]) (by decide)
  have c9' : hasQ l t.id = false := by simpa using c9
  by_cases c10 : dblW l t.pl = true
  · rw [if_pos (by simp [c10])]
    exact bad (by rw [e1, if_neg (fun k => by rw [c10] at k; exact absurd k.2 (by decide))]) (by decide)
  have c10' : dblW l t.pl = false := by simpa using c10
  rw [if_neg (by simp [c9', c10'])]
  rw [if_pos ⟨c9', c10'⟩] at e1
  refine ⟨l, .no, t.md, rfl, s.len, ?_⟩
  by_cases c11 : (modeW l t.md).length < 16
  rotate_left
  · rw [if_pos (by omega)]
    exact bad (by rw [e1, if_neg c11]) (by decide)
  rw [if_neg (by omega)]
  rw [if_pos c11] at e1
  refine ⟨l, t, .cells (getQ l t.id).cells, s.len, rfl, rfl, fun tl X => ⟨_, .tup (.cons (.list _ _) (.cons (.refl _) .nil)), ?_⟩⟩
  unfold putR
  rw [e1, if_pos rfl]
-- like
theorem lk_refl : True := trivial
def TLS : Tab := [(52, .pure lsame_s)]
theorem TLS_ok : TabOk Try.prog gl TLS := .cons lsame_ok (.nil _ _)
def TLM : Tab := [(45, .read mode_s), (84, .pure rmode_s), (47, .read len_s)]
theorem TLM_ok : TabOk Try.prog gl TLM := .cons mode_ok (.cons rmode_ok (.cons len_ok (.nil _ _)))
theorem lk2_vc (H : Heap) (q : Nat) (w W : List Tk) (n m : Int) (i : Nat) (R : Ex → List PV → Heap → Prop) (h : br (decide ((↑i : Int) < (↑(List.length (List.map csT w)) : Int))) (InL (List.map csT w) 5 (↑i : Int) ∧ br (true && fitX [CK.int IntKind.u32, CK.int IntKind.i64, CK.list, CK.int IntKind.i64, CK.int IntKind.i64] 0 (List.getD (List.map csT w) (Int.toNat (↑i : Int)) [])) (InL (List.map csT w) 5 (↑i : Int) ∧ br (true && fitX [CK.int IntKind.u32, CK.int IntKind.i64, CK.list, CK.int IntKind.i64, CK.int IntKind.i64] 0 (List.getD (List.map csT w) (Int.toNat (↑i : Int)) [])) (∃ (a : Tk), ∃ (b : Tk), ∃ (t1 : Tail), ∃ (t2 : Tail), SlIs [PV.agg [PV.int IntKind.u32 (cI (List.getD (List.map csT w) (Int.toNat (↑i : Int)) []) 0), PV.int IntKind.i64 (cI (List.getD (List.map csT w) (Int.toNat (↑i : Int)) []) 1), PV.list (cL (List.getD (List.map csT w) (Int.toNat (↑i : Int)) []) 2) (cT (List.getD (List.map csT w) (Int.toNat (↑i : Int)) []) 2), PV.int IntKind.i64 (cI (List.getD (List.map csT w) (Int.toNat (↑i : Int)) []) 3), PV.int IntKind.i64 (cI (List.getD (List.map csT w) (Int.toNat (↑i : Int)) []) 4)], PV.agg [PV.int IntKind.u32 (cI (List.getD (List.map csT w) (Int.toNat (↑i : Int)) []) 0), PV.int IntKind.i64 (cI (List.getD (List.map csT w) (Int.toNat (↑i : Int)) []) 1), PV.list (cL (List.getD (List.map csT w) (Int.toNat (↑i : Int)) []) 2) (cT (List.getD (List.map csT w) (Int.toNat (↑i : Int)) []) 2), PV.int IntKind.i64 (cI (List.getD (List.map csT w) (Int.toNat (↑i : Int)) []) 3), PV.int IntKind.i64 (cI (List.getD (List.map csT w) (Int.toNat (↑i : Int)) []) 4)]] [PV.agg [PV.int IntKind.u32 (Tk.id a), PV.int IntKind.i64 (Tk.md a), PV.list (List.map u1 (Tk.pl a)) t1, PV.int IntKind.i64 (Tk.rt a), PV.int IntKind.i64 (Tk.si a)], PV.agg [PV.int IntKind.u32 (Tk.id b), PV.int IntKind.i64 (Tk.md b), PV.list (List.map u1 (Tk.pl b)) t2, PV.int IntKind.i64 (Tk.rt b), PV.int IntKind.i64 (Tk.si b)]] ∧ List.length (Tk.pl a) ≤ 1000000 ∧ br (!decide (a = b)) (R Ex.ret [PV.ptr q 0, PV.list (List.map csT W) Tail.no, PV.int IntKind.i64 n, PV.int IntKind.i64 m, PV.list (List.map csT w) Tail.no, PV.list (List.map csT w) Tail.no, PV.int IntKind.i64 (↑i : Int)] H) (R Ex.normal [PV.ptr q 0, PV.list (List.map csT W) Tail.no, PV.int IntKind.i64 n, PV.int IntKind.i64 m, PV.list (List.map csT w) Tail.no, PV.list (List.map csT w) Tail.no, PV.int IntKind.i64 (wI ((↑i : Int) + 1))] H)) False) False) (R (Ex.exit 2) [PV.ptr q 0, PV.list (List.map csT W) Tail.no, PV.int IntKind.i64 n, PV.int IntKind.i64 m, PV.list (List.map csT w) Tail.no, PV.list (List.map csT w) Tail.no, PV.int IntKind.i64 (↑i : Int)] H)) : Holds (wpc br Try.prog gl TLS [] (fun _ => 0) (subOf [1, 0, 1, 0, 0, 1, 0, 0, 1, 1, 1, 0] (bodyOf Try.f56)) [] (envS [0, 1, 2, 7, 8, 9, 10] [.ptr q 0, .list (W.map csT) .no, .int .i64 n, .int .i64 m, .list (w.map csT) .no, .list (w.map csT) .no, .int .i64 i]) H (fun ex e H => R ex (List.map e [0, 1, 2, 7, 8, 9, 10]) H)) := holds_of_eq (by kernel_rfl) h
def lk2_l : LSp := fun e H Q => ∃ (q : Nat) (w W : List Tk) (n m : Int), Sml w ∧ SlIs (List.map e [0, 1, 2, 7, 8, 9, 10]) [.ptr q 0, .list (W.map csT) .no, .int .i64 n, .int .i64 m, .list (w.map csT) .no, .list (w.map csT) .no, .int .i64 0] ∧ Q (.exit 2) (envS [0, 1, 2, 7, 8, 9, 10] [.ptr q 0, .list (W.map csT) .no, .int .i64 n, .int .i64 m, .list (w.map csT) .no, .list (w.map csT) .no, .int .i64 w.length]) H
theorem lk2_l_ok : ∀ e H Q, lk2_l e H Q → AW Try.prog gl Try.f56.ntmps (.loop (subOf [1, 0, 1, 0, 0, 1, 0, 0, 1, 1, 1, 0] (bodyOf Try.f56))) Q e H := by
  rintro e H Q ⟨q, w, W, n, m, s, he, hQ⟩
  have hwl := s.len
  refine aw_loop4 (hn := fun _ => 0) gl_low TLS_ok (.nil _ _ _ _ _) (σ := Nat) [0, 1, 2, 7, 8, 9, 10] (fun i => i ≤ w.length) (fun i => [.ptr q 0, .list (W.map csT) .no, .int .i64 n, .int .i64 m, .list (w.map csT) .no, .list (w.map csT) .no, .int .i64 i]) (fun _ => H) (fun i => w.length - i) 0 (Nat.zero_le _) he rfl ?_
  intro i hi
  have hi : i ≤ w.length := hi
  refine lk2_vc H q w W n m i _ ?_
  simp only [br_if, dt, toNat_nat, List.length_map]
  by_cases h : i < w.length
  · rw [if_pos (by omega), inL_csT, getD_map default h]
    refine ⟨h, ?_⟩
    rw [if_pos (by rfl)]
    refine ⟨h, ?_⟩
    rw [if_pos (by rfl)]
    refine ⟨w.getD i default, w.getD i default, .no, .no, rfl, s.get i, ?_⟩
    rw [if_neg (by simp)]
    exact ⟨i + 1, (show w.length - (i + 1) < w.length - i by omega), h, by rw [wI_succ h (by omega)], [], (List.append_nil _).symm, Nat.le_refl _, .inl rfl⟩
  · rw [if_neg (by omega)]
    have : i = w.length := by omega
    subst this
    exact hQ
theorem lk2_l_ok2 : ∀ e H Q, lk2_l e H Q → AW Try.prog gl Try.f56.ntmps (.loop (subOf [1, 0, 0, 1, 1, 1, 0] (subOf [1, 0, 1, 0] (bodyOf Try.f56)))) Q e H := by
  rw [show subOf [1, 0, 0, 1, 1, 1, 0] (subOf [1, 0, 1, 0] (bodyOf Try.f56)) = subOf [1, 0, 1, 0, 0, 1, 0, 0, 1, 1, 1, 0] (bodyOf Try.f56) from by kernel_rfl]; exact lk2_l_ok
theorem lk1_vc (H : Heap) (q : Nat) (W : List Tk) (n m : Int) (R : Ex → List PV → Heap → Prop) (h : br (decide (m ≤ n)) (∃ (q_1 : Nat), ∃ (l : List Tk), ∃ (sz : List Int), ∃ (m_1 : Int), SlIs [PV.ptr q 0, PV.int IntKind.i64 m] [PV.ptr q_1 0, PV.int IntKind.i64 m_1] ∧ AbIs H q_1 (rkT l sz) ∧ Sml l ∧ ∃ (l_1 : List Tk), ∃ (tl : Tail), ∃ (m_2 : Int), SlIs [PV.list (List.map csT W) Tail.no, PV.int IntKind.i64 m] [PV.list (List.map csT l_1) tl, PV.int IntKind.i64 m_2] ∧ List.length l_1 ≤ 1000000 ∧ br ((↑(List.length (List.map csT (modeL l m_1))) : Int) != (↑(List.length (List.map csT (modeW l_1 m_2))) : Int)) (R Ex.ret [PV.ptr q 0, PV.list (List.map csT W) Tail.no, PV.int IntKind.i64 n, PV.int IntKind.i64 m] H) (∃ (q_2 : Nat), ∃ (w : List Tk), ∃ (W_1 : List Tk), ∃ (n_1 : Int), ∃ (m_3 : Int), Sml w ∧ SlIs [PV.ptr q 0, PV.list (List.map csT W) Tail.no, PV.int IntKind.i64 n, PV.int IntKind.i64 m, PV.list (List.map csT (modeL l m_1)) Tail.no, PV.list (List.map csT (modeW l_1 m_2)) Tail.no, PV.int IntKind.i64 0] [PV.ptr q_2 0, PV.list (List.map csT W_1) Tail.no, PV.int IntKind.i64 n_1, PV.int IntKind.i64 m_3, PV.list (List.map csT w) Tail.no, PV.list (List.map csT w) Tail.no, PV.int IntKind.i64 0] ∧ R Ex.normal [PV.ptr q_2 0, PV.list (List.map csT W_1) Tail.no, PV.int IntKind.i64 n_1, PV.int IntKind.i64 (wI (m_3 + 1))] H)) (R (Ex.exit 0) [PV.ptr q 0, PV.list (List.map csT W) Tail.no, PV.int IntKind.i64 n, PV.int IntKind.i64 m] H)) : Holds (wpc br Try.prog gl TLM [([1, 0, 0, 1, 1, 1, 0], lk2_l)] (fun _ => 0) (subOf [1, 0, 1, 0] (bodyOf Try.f56)) [] (envS [0, 1, 2, 7] [.ptr q 0, .list (W.map csT) .no, .int .i64 n, .int .i64 m]) H (fun ex e H => R ex (List.map e [0, 1, 2, 7]) H)) := holds_of_eq (by kernel_rfl) h
def lk1_l : LSp := fun e H Q => ∃ (q : Nat) (l W : List Tk) (sz : List Int) (n : Int), AbIs H q (rkT l sz) ∧ Sml l ∧ W.length ≤ 1000000 ∧ (∀ m, modeL l m = modeW W m) ∧ 0 ≤ n ∧ n ≤ 1000 ∧ SlIs (List.map e [0, 1, 2, 7]) [.ptr q 0, .list (W.map csT) .no, .int .i64 n, .int .i64 (-1)] ∧ (∀ m : Int, Q (.exit 0) (envS [0, 1, 2, 7] [.ptr q 0, .list (W.map csT) .no, .int .i64 n, .int .i64 m]) H)
theorem lk1_l_ok : ∀ e H Q, lk1_l e H Q → AW Try.prog gl Try.f56.ntmps (.loop (subOf [1, 0, 1, 0] (bodyOf Try.f56))) Q e H := by
  rintro e H Q ⟨q, l, W, sz, n, ha, s, hW, hm, h0, hn, he, hQ⟩
  refine aw_loop4 (hn := fun _ => 0) gl_low TLM_ok (.cons (sub_of (by kernel_rfl)) lk2_l_ok2 (.nil _ _ _ _ _)) (σ := Int) [0, 1, 2, 7] (fun m => -1 ≤ m ∧ m ≤ n + 1) (fun m => [.ptr q 0, .list (W.map csT) .no, .int .i64 n, .int .i64 m]) (fun _ => H) (fun m => (n + 1 - m).toNat) (-1) ⟨Int.le_refl _, by omega⟩ he rfl ?_
  rintro m ⟨h1, h2⟩
  refine lk1_vc H q W n m _ ?_
  simp only [br_if]
  by_cases c : m ≤ n
  · rw [if_pos (by simpa using c)]
    refine ⟨q, l, sz, m, rfl, ha, s, W, .no, m, rfl, hW, ?_⟩
    rw [hm m]
    rw [if_neg (by simp)]
    refine ⟨q, modeW W m, W, n, m, ⟨?_, fun t ht => ?_⟩, rfl, m + 1, (show (n + 1 - (m + 1)).toNat < (n + 1 - m).toNat by omega), ⟨by omega, by omega⟩, ?_, [], (List.append_nil _).symm, Nat.le_refl _, .inl rfl⟩
    · rw [← hm m]; have := List.length_filter_le (fun t : Tk => t.md == m) l; have := s.len; unfold modeL; omega
    · rw [← hm m] at ht
      exact s.pl t (List.mem_filter.1 ht).1
    · rw [w_small (by omega) (by omega)]
  · rw [if_neg (by simpa using c)]
    exact hQ m
theorem lk_vc (H : Heap) (q : Nat) (W : List Tk) (n : Int)  (K : PV → Heap → Prop) (h : ∃ (q_1 : Nat), ∃ (l : List Tk), ∃ (W_1 : List Tk), ∃ (sz : List Int), ∃ (n_1 : Int), AbIs H q_1 (rkT l sz) ∧ Sml l ∧ List.length W_1 ≤ 1000000 ∧ (∀ (m : Int), modeL l m = modeW W_1 m) ∧ 0 ≤ n_1 ∧ n_1 ≤ 1000 ∧ SlIs [PV.ptr q 0, PV.list (List.map csT W) Tail.no, PV.int IntKind.i64 n, PV.int IntKind.i64 (-1)] [PV.ptr q_1 0, PV.list (List.map csT W_1) Tail.no, PV.int IntKind.i64 n_1, PV.int IntKind.i64 (-1)] ∧ ∀ (_ : Int), ∃ (q : Nat), ∃ (l : List Tk), ∃ (sz : List Int), SlIs [PV.ptr q_1 0] [PV.ptr q 0] ∧ AbIs H q (rkT l sz) ∧ K (PV.bool ((↑(List.length l) : Int) == (↑(List.length (List.map csT W_1)) : Int))) H) : ACalls Try.prog gl 56 [.ptr q 0, .list (W.map csT) .no, .int .i64 n] H K :=
  acalls_of_wpc2 (T := TLM) (L := [([1, 0, 1, 0], lk1_l)]) (fun _ => 0) Try.func56 (by kernel_rfl) (by kernel_rfl) (by kernel_rfl) (TLM_ok) (.cons (sub_of (by kernel_rfl)) lk1_l_ok (.nil _ _ _ _ _)) (holds_of_eq (by kernel_rfl) h)
def like_s (args : List PV) (H : Heap) (K : PV → Prop) : Prop := ∃ (q : Nat) (l W : List Tk) (tl : Tail) (sz : List Int) (n : Int), SlIs args [.ptr q 0, .list (W.map csT) tl, .int .i64 n] ∧ AbIs H q (rkT l sz) ∧ Sml l ∧ W.length = l.length ∧ (∀ m, modeL l m = modeW W m) ∧ 0 ≤ n ∧ n ≤ 1000 ∧ K (.bool true)
theorem like_ok : SpOk Try.prog gl 56 (.read like_s) := by
  rintro args H K ⟨q, l, W, tl, sz, n, he, ha, s, hl, hm, h0, hn, hk⟩
  have he : args = _ := he
  subst he
  have hsl := s.len
  refine ⟨_, acalls_args (.cons (.refl _) (.cons (.list _ _) (.cons (.refl _) .nil))) (lk_vc H q W n _ ⟨q, l, W, sz, n, ha, s, by omega, hm, h0, hn, rfl, fun m => ⟨q, l, sz, rfl, ha, ?_, rfl⟩⟩), hk⟩
  rw [List.length_map, hl]; simp
end Go.Proofs.Ytcmknbanojcbaaa
