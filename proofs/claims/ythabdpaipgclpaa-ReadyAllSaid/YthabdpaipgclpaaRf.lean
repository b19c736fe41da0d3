/-
  Slices of numbers.
-/
import Derived.Test.YthabdpaipgclpaaRc
import Derived.Test.YthabdpaipgclpaaRe
import Derived.Test.YthabdpaipgclpaaA8
import Derived.Test.YthabdpaipgclpaaProg
namespace Go.Proofs.Ythabdpaipgclpaa
open Go Go.AM Go.Proofs
theorem rright_red (t : Int) (K : PV → Prop) : (br ((t != 0) == true) (K (PV.bool (decide (t ≤ 2147483647)))) (K (PV.bool false))) = wpc br Try.prog gl [] [] (fun _ => 0) (bodyOf Try.f79) [] (env0 [.int .u32 t]) [] (resQ Try.prog Try.f79.results.toList (fun x _ => K x)) := by kernel_rfl
theorem rright_vc (t : Int)  (K : PV → Prop) (h : br ((t != 0) == true) (K (PV.bool (decide (t ≤ 2147483647)))) (K (PV.bool false))) : ACalls Try.prog gl 79 [.int .u32 t] [] (fun x _ => K x) :=
  acalls_of_wpc2 (T := []) (L := []) (fun _ => 0) Try.func79 (by kernel_rfl) (by kernel_rfl) (by kernel_rfl) (TabOk.nil _ _) (LOk.nil _ _ _ _ _) (holds_of_eq (rright_red t K) h)
def rrt_s (args : List PV) (K : PV → Prop) : Prop := ∃ t : Int, 0 ≤ t ∧ SlIs args [.int .u32 t] ∧ K (.bool (rightS t))
theorem rrt_ok : SpOk Try.prog gl 79 (.pure rrt_s) := by
  rintro args K ⟨t, h0, he, hk⟩
  have he : args = _ := he
  subst he
  refine spure gl_low (by simp [low_int]) (.bool _) (rright_vc t (fun x => x = .bool (rightS t)) ?_) hk
  simp only [br_if, bt]
  unfold rightS
  by_cases c : t = 0
  · subst c; rw [if_neg (by decide)]; rfl
  · rw [if_pos (by simpa using c)]; congr 1; apply decide_eq_decide.2; omega
theorem same_red (a b : List (List PV)) (i : Nat) (R : Ex → List PV → Heap → Prop) : (br (decide ((↑i : Int) < (↑(List.length a) : Int))) (InL a 1 (↑i : Int) ∧ br (true && fitX [CK.int IntKind.u32] 0 (List.getD a (Int.toNat (↑i : Int)) [])) (InL b 1 (↑i : Int) ∧ br (true && fitX [CK.int IntKind.u32] 0 (List.getD b (Int.toNat (↑i : Int)) [])) (br (cI (List.getD a (Int.toNat (↑i : Int)) []) 0 != cI (List.getD b (Int.toNat (↑i : Int)) []) 0) (R Ex.ret [PV.list a Tail.no, PV.list b Tail.no, PV.bool false, PV.int IntKind.i64 (↑i : Int)] []) (R Ex.normal [PV.list a Tail.no, PV.list b Tail.no, PV.bool false, PV.int IntKind.i64 (wI ((↑i : Int) + 1))] [])) False) False) (R (Ex.exit 0) [PV.list a Tail.no, PV.list b Tail.no, PV.bool false, PV.int IntKind.i64 (↑i : Int)] [])) = wpc br Try.prog gl [] [] (fun _ => 0) (subOf [1, 1, 0, 1, 0] (bodyOf Try.f24)) [] (envS [0, 1, 4, 5] [.list a .no, .list b .no, .bool false, .int .i64 i]) [] (fun ex e H => R ex (List.map e [0, 1, 4, 5]) H) := by kernel_rfl
theorem same_vc (a b : List (List PV)) (i : Nat) (R : Ex → List PV → Heap → Prop) (h : br (decide ((↑i : Int) < (↑(List.length a) : Int))) (InL a 1 (↑i : Int) ∧ br (true && fitX [CK.int IntKind.u32] 0 (List.getD a (Int.toNat (↑i : Int)) [])) (InL b 1 (↑i : Int) ∧ br (true && fitX [CK.int IntKind.u32] 0 (List.getD b (Int.toNat (↑i : Int)) [])) (br (cI (List.getD a (Int.toNat (↑i : Int)) []) 0 != cI (List.getD b (Int.toNat (↑i : Int)) []) 0) (R Ex.ret [PV.list a Tail.no, PV.list b Tail.no, PV.bool false, PV.int IntKind.i64 (↑i : Int)] []) (R Ex.normal [PV.list a Tail.no, PV.list b Tail.no, PV.bool false, PV.int IntKind.i64 (wI ((↑i : Int) + 1))] [])) False) False) (R (Ex.exit 0) [PV.list a Tail.no, PV.list b Tail.no, PV.bool false, PV.int IntKind.i64 (↑i : Int)] [])) : Holds (wpc br Try.prog gl [] [] (fun _ => 0) (subOf [1, 1, 0, 1, 0] (bodyOf Try.f24)) [] (envS [0, 1, 4, 5] [.list a .no, .list b .no, .bool false, .int .i64 i]) [] (fun ex e H => R ex (List.map e [0, 1, 4, 5]) H)) := holds_of_eq (same_red a b i R) h
theorem low_list1 {ns : List Int} {k : IntKind} {t : Tail} (ht : NT t) {n : Nat} : Low n (.list (en1 k ns) t) := low_list ht (low_en1 k ns)
def same_l : LSp := fun e H Q => ∃ (a b : List Int), a.length ≤ 1000000 ∧ a.length = b.length ∧ SlIs (List.map e [0, 1, 4, 5]) [.list (en1 .u32 a) .no, .list (en1 .u32 b) .no, .bool false, .int .i64 0] ∧ HpIs H [] ∧
  (a = b → Q (.exit 0) (envS [0, 1, 4, 5] [.list (en1 .u32 a) .no, .list (en1 .u32 b) .no, .bool false, .int .i64 a.length]) []) ∧
  (a ≠ b → ∀ i : Int, Q .ret (envS [0, 1, 4, 5] [.list (en1 .u32 a) .no, .list (en1 .u32 b) .no, .bool false, .int .i64 i]) [])
theorem same_l_ok : ∀ e H Q, same_l e H Q → AW Try.prog gl Try.f24.ntmps (.loop (subOf [1, 1, 0, 1, 0] (bodyOf Try.f24))) Q e H := by
  rintro e H Q ⟨a, b, hl, hab, he, hH, hx, hr⟩
  refine aw_loop4 (hn := fun _ => 0) gl_low (.nil _ _) (.nil _ _ _ _ _) (σ := Nat) [0, 1, 4, 5] (fun i => i ≤ a.length ∧ ∀ k, k < i → a.getD k 0 = b.getD k 0)
    (fun i => [.list (en1 .u32 a) .no, .list (en1 .u32 b) .no, .bool false, .int .i64 i]) (fun _ => []) (fun i => a.length - i) 0 ⟨Nat.zero_le _, fun k hk => absurd hk (Nat.not_lt_zero _)⟩ he hH ?_
  rintro i ⟨hi, hk⟩
  refine same_vc _ _ i _ ?_
  simp only [br_if, dt, en1_length, toNat_nat]
  by_cases h : i < a.length
  · rw [if_pos (by omega), en1_get _ _ _ h, en1_get _ _ _ (by omega)]
    refine ⟨en1_in _ _ _ (by omega) (by omega), ?_⟩
    rw [if_pos (by rfl)]
    refine ⟨en1_in _ _ _ (by omega) (by omega), ?_⟩
    rw [if_pos (by rfl)]
    have e1 : cI [PV.int .u32 (a.getD i 0)] 0 = a.getD i 0 := rfl
    have e2 : cI [PV.int .u32 (b.getD i 0)] 0 = b.getD i 0 := rfl
    rw [e1, e2]
    by_cases c : a.getD i 0 = b.getD i 0
    · rw [if_neg (by simpa using c)]
      refine ⟨i + 1, (show a.length - (i + 1) < a.length - i by omega), ⟨h, fun k hk' => ?_⟩, by rw [wI_succ h (by omega)], [], rfl, Nat.le_refl _, .inl rfl⟩
      rcases Nat.eq_or_lt_of_le (Nat.le_of_lt_succ hk') with rfl | q
      · exact c
      · exact hk k q
    · rw [if_pos (by simpa using c)]
      exact hr (fun e => c (by rw [e])) i
  · rw [if_neg (by omega)]
    have : i = a.length := by omega
    subst this
    refine hx (List.ext_getElem hab fun k h1 h2 => ?_)
    have := hk k h1
    rwa [getD_eq' h1, getD_eq' h2] at this
theorem same1_red (a b : List Int) (K : PV → Prop) : (br ((↑(List.length (en1 IntKind.u32 a)) : Int) != (↑(List.length (en1 IntKind.u32 b)) : Int)) (K (PV.bool false)) (∃ (a_1 : List Int), ∃ (b_1 : List Int), List.length a_1 ≤ 1000000 ∧ List.length a_1 = List.length b_1 ∧ SlIs [PV.list (en1 IntKind.u32 a) Tail.no, PV.list (en1 IntKind.u32 b) Tail.no, PV.bool false, PV.int IntKind.i64 0] [PV.list (en1 IntKind.u32 a_1) Tail.no, PV.list (en1 IntKind.u32 b_1) Tail.no, PV.bool false, PV.int IntKind.i64 0] ∧ HpIs [] [] ∧ (a_1 = b_1 → K (PV.bool true)) ∧ (a_1 ≠ b_1 → ∀ (_ : Int), K (PV.bool false)))) = wpc br Try.prog gl [] [([1, 1, 0, 1, 0], same_l)] (fun _ => 0) (bodyOf Try.f24) [] (env0 [.list (en1 .u32 a) .no, .list (en1 .u32 b) .no]) [] (resQ Try.prog Try.f24.results.toList (fun x _ => K x)) := by kernel_rfl
theorem same1_vc (a b : List Int)  (K : PV → Prop) (h : br ((↑(List.length (en1 IntKind.u32 a)) : Int) != (↑(List.length (en1 IntKind.u32 b)) : Int)) (K (PV.bool false)) (∃ (a_1 : List Int), ∃ (b_1 : List Int), List.length a_1 ≤ 1000000 ∧ List.length a_1 = List.length b_1 ∧ SlIs [PV.list (en1 IntKind.u32 a) Tail.no, PV.list (en1 IntKind.u32 b) Tail.no, PV.bool false, PV.int IntKind.i64 0] [PV.list (en1 IntKind.u32 a_1) Tail.no, PV.list (en1 IntKind.u32 b_1) Tail.no, PV.bool false, PV.int IntKind.i64 0] ∧ HpIs [] [] ∧ (a_1 = b_1 → K (PV.bool true)) ∧ (a_1 ≠ b_1 → ∀ (_ : Int), K (PV.bool false)))) : ACalls Try.prog gl 24 [.list (en1 .u32 a) .no, .list (en1 .u32 b) .no] [] (fun x _ => K x) :=
  acalls_of_wpc2 (T := []) (L := [([1, 1, 0, 1, 0], same_l)]) (fun _ => 0) Try.func24 (by kernel_rfl) (by kernel_rfl) (by kernel_rfl) (TabOk.nil _ _) (.cons (sub_of (by kernel_rfl)) same_l_ok (.nil _ _ _ _ _)) (holds_of_eq (same1_red a b K) h)
def same_s (args : List PV) (K : PV → Prop) : Prop := ∃ (a b : List Int) (t t' : Tail), SlIs args [.list (en1 .u32 a) t, .list (en1 .u32 b) t'] ∧ a.length ≤ 1000000 ∧ K (.bool (decide (a = b)))
theorem same_ok : SpOk Try.prog gl 24 (.pure same_s) := by
  rintro args K ⟨a, b, t, t', he, hl, hk⟩
  have he : args = _ := he
  subst he
  refine spure_w gl_low (.cons (.list _ _) (.cons (.list _ _) .nil)) (low_two (low_list1 NT.no) (low_list1 NT.no)) (.bool _) (same1_vc a b (fun x => x = .bool (decide (a = b))) ?_) hk
  simp only [br_if, en1_length]
  by_cases c : a.length = b.length
  · rw [if_neg (by simp [c])]
    exact ⟨a, b, hl, c, rfl, rfl, fun e => by rw [decide_eq_true e], fun e _ => by rw [decide_eq_false e]⟩
  · rw [if_pos (by simp; omega)]
    rw [decide_eq_false (fun e => c (by rw [e]))]
theorem idx_red (l : List (Int)) (t : Int) (i : Nat) (R : Ex → List PV → Heap → Prop) : (br (decide ((↑i : Int) < (↑(List.length l) : Int))) (InL (List.map u1 l) 1 (↑i : Int) ∧ br (true && fitX [CK.int IntKind.u32] 0 (List.getD (List.map u1 l) (Int.toNat (↑i : Int)) [])) (br (t == cI (List.getD (List.map u1 l) (Int.toNat (↑i : Int)) []) 0) (R Ex.ret [PV.list (List.map u1 l) Tail.no, PV.int IntKind.u32 t, PV.int IntKind.i64 (↑i : Int), PV.int IntKind.i64 (↑(List.length l) : Int), PV.int IntKind.i64 (↑i : Int)] []) (R Ex.normal [PV.list (List.map u1 l) Tail.no, PV.int IntKind.u32 t, PV.int IntKind.i64 0, PV.int IntKind.i64 (↑(List.length l) : Int), PV.int IntKind.i64 (wI ((↑i : Int) + 1))] [])) False) (R (Ex.exit 0) [PV.list (List.map u1 l) Tail.no, PV.int IntKind.u32 t, PV.int IntKind.i64 0, PV.int IntKind.i64 (↑(List.length l) : Int), PV.int IntKind.i64 (↑i : Int)] [])) = wpc br Try.prog gl [] [] (fun _ => 0) (subOf [1, 0, 1, 0] (bodyOf Try.f77)) [] (envS [0, 1, 4, 7, 8] [.list (l.map u1) .no, .int .u32 t, .int .i64 0, .int .i64 l.length, .int .i64 i]) [] (fun ex e H => R ex (List.map e [0, 1, 4, 7, 8]) H) := by kernel_rfl
theorem idx_vc (l : List (Int)) (t : Int) (i : Nat) (R : Ex → List PV → Heap → Prop) (h : br (decide ((↑i : Int) < (↑(List.length l) : Int))) (InL (List.map u1 l) 1 (↑i : Int) ∧ br (true && fitX [CK.int IntKind.u32] 0 (List.getD (List.map u1 l) (Int.toNat (↑i : Int)) [])) (br (t == cI (List.getD (List.map u1 l) (Int.toNat (↑i : Int)) []) 0) (R Ex.ret [PV.list (List.map u1 l) Tail.no, PV.int IntKind.u32 t, PV.int IntKind.i64 (↑i : Int), PV.int IntKind.i64 (↑(List.length l) : Int), PV.int IntKind.i64 (↑i : Int)] []) (R Ex.normal [PV.list (List.map u1 l) Tail.no, PV.int IntKind.u32 t, PV.int IntKind.i64 0, PV.int IntKind.i64 (↑(List.length l) : Int), PV.int IntKind.i64 (wI ((↑i : Int) + 1))] [])) False) (R (Ex.exit 0) [PV.list (List.map u1 l) Tail.no, PV.int IntKind.u32 t, PV.int IntKind.i64 0, PV.int IntKind.i64 (↑(List.length l) : Int), PV.int IntKind.i64 (↑i : Int)] [])) : Holds (wpc br Try.prog gl [] [] (fun _ => 0) (subOf [1, 0, 1, 0] (bodyOf Try.f77)) [] (envS [0, 1, 4, 7, 8] [.list (l.map u1) .no, .int .u32 t, .int .i64 0, .int .i64 l.length, .int .i64 i]) [] (fun ex e H => R ex (List.map e [0, 1, 4, 7, 8]) H)) := holds_of_eq (idx_red l t i R) h
def idx_l : LSp := fun e H Q => ∃ (l : List (Int)) (t : Int), l.length ≤ 1000000 ∧ (True) ∧ SlIs (List.map e [0, 1, 4, 7, 8]) [.list (l.map u1) .no, .int .u32 t, .int .i64 0, .int .i64 l.length, .int .i64 0] ∧ HpIs H [] ∧
  (l.findIdx (fun x => t == x) < l.length → Q .ret (envS [0, 1, 4, 7, 8] [.list (l.map u1) .no, .int .u32 t, .int .i64 (l.findIdx (fun x => t == x)), .int .i64 l.length, .int .i64 (l.findIdx (fun x => t == x))]) []) ∧ (l.findIdx (fun x => t == x) = l.length → Q (.exit 0) (envS [0, 1, 4, 7, 8] [.list (l.map u1) .no, .int .u32 t, .int .i64 0, .int .i64 l.length, .int .i64 l.length]) [])
theorem idx_l_ok : ∀ e H Q, idx_l e H Q → AW Try.prog gl Try.f77.ntmps (.loop (subOf [1, 0, 1, 0] (bodyOf Try.f77))) Q e H := by
  rintro e H Q ⟨l, t, hl, _, he, hH, hQ1, hQ2⟩
  have hfl : l.findIdx (fun x => t == x) ≤ l.length := List.findIdx_le_length
  refine aw_loop4 (hn := fun _ => 0) gl_low (.nil _ _) (.nil _ _ _ _ _) (σ := Nat) [0, 1, 4, 7, 8] (fun i => i ≤ l.findIdx (fun x => t == x)) (fun i => [.list (l.map u1) .no, .int .u32 t, .int .i64 0, .int .i64 l.length, .int .i64 i]) (fun _ => []) (fun i => l.length - i) 0 (Nat.zero_le _) he hH ?_
  intro i hi
  have hi' : i ≤ l.findIdx (fun x => t == x) := hi
  refine idx_vc l t i _ ?_
  simp only [br_if, dt, toNat_nat, inL_u1]
  by_cases h : i < l.length
  · rw [if_pos (by omega)]
    simp only [getD_map 0 h]
    repeat (first | refine ⟨h, ?_⟩ | rw [if_pos (by rfl)])
    by_cases c : (fun x => t == x) (l.getD i 0) = true
    · have hge : l.findIdx (fun x => t == x) = i := fidx_stop 0 hi' h c
      rw [hge] at hQ1
      rw [if_pos (by exact c)]
      repeat (first | refine ⟨h, ?_⟩ | rw [if_pos (by rfl)])
      exact hQ1 h
    · have hlt : i < l.findIdx (fun x => t == x) := fidx_step 0 hi' h (by simpa using c)
      rw [if_neg (by exact c)]
      exact ⟨i + 1, (show l.length - (i + 1) < l.length - i by omega), hlt, by rw [wI_succ h (by omega)], [], rfl, Nat.le_refl _, .inl rfl⟩
  · rw [if_neg (by omega)]
    have : i = l.length := by omega
    subst this
    exact hQ2 (by omega)
theorem idx1_red (l : List Int) (t : Int) (K : PV → Prop) : (∃ (l_1 : List Int), ∃ (t_1 : Int), List.length l_1 ≤ 1000000 ∧ True ∧ SlIs [PV.list (List.map u1 l) Tail.no, PV.int IntKind.u32 t, PV.int IntKind.i64 0, PV.int IntKind.i64 (↑(List.length (List.map u1 l)) : Int), PV.int IntKind.i64 0] [PV.list (List.map u1 l_1) Tail.no, PV.int IntKind.u32 t_1, PV.int IntKind.i64 0, PV.int IntKind.i64 (↑(List.length l_1) : Int), PV.int IntKind.i64 0] ∧ HpIs [] [] ∧ (List.findIdx (fun (x : Int) => t_1 == x) l_1 < List.length l_1 → K (PV.int IntKind.i64 (↑(List.findIdx (fun (x : Int) => t_1 == x) l_1) : Int))) ∧ (List.findIdx (fun (x : Int) => t_1 == x) l_1 = List.length l_1 → K (PV.int IntKind.i64 (-1)))) = wpc br Try.prog gl [] [([1, 0, 1, 0], idx_l)] (fun _ => 0) (bodyOf Try.f77) [] (env0 [.list (l.map u1) .no, .int .u32 t]) [] (resQ Try.prog Try.f77.results.toList (fun x _ => K x)) := by kernel_rfl
theorem idx1_vc (l : List Int) (t : Int)  (K : PV → Prop) (h : ∃ (l_1 : List Int), ∃ (t_1 : Int), List.length l_1 ≤ 1000000 ∧ True ∧ SlIs [PV.list (List.map u1 l) Tail.no, PV.int IntKind.u32 t, PV.int IntKind.i64 0, PV.int IntKind.i64 (↑(List.length (List.map u1 l)) : Int), PV.int IntKind.i64 0] [PV.list (List.map u1 l_1) Tail.no, PV.int IntKind.u32 t_1, PV.int IntKind.i64 0, PV.int IntKind.i64 (↑(List.length l_1) : Int), PV.int IntKind.i64 0] ∧ HpIs [] [] ∧ (List.findIdx (fun (x : Int) => t_1 == x) l_1 < List.length l_1 → K (PV.int IntKind.i64 (↑(List.findIdx (fun (x : Int) => t_1 == x) l_1) : Int))) ∧ (List.findIdx (fun (x : Int) => t_1 == x) l_1 = List.length l_1 → K (PV.int IntKind.i64 (-1)))) : ACalls Try.prog gl 77 [.list (l.map u1) .no, .int .u32 t] [] (fun x _ => K x) :=
  acalls_of_wpc2 (T := []) (L := [([1, 0, 1, 0], idx_l)]) (fun _ => 0) Try.func77 (by kernel_rfl) (by kernel_rfl) (by kernel_rfl) (TabOk.nil _ _) (.cons (sub_of (by kernel_rfl)) idx_l_ok (.nil _ _ _ _ _)) (holds_of_eq (idx1_red l t K) h)
def idxI (l : List Int) (t : Int) : Int := if l.findIdx (fun x => t == x) < l.length then (l.findIdx (fun x => t == x) : Int) else -1
def idx_s (args : List PV) (K : PV → Prop) : Prop := ∃ (l : List Int) (t : Int), SlIs args [.list (l.map u1) .no, .int .u32 t] ∧ l.length ≤ 1000000 ∧ K (.int .i64 (idxI l t))
theorem low_us {n : Nat} (l : List Int) : Low n (.list (l.map u1) .no) := low_rows low_u1 l
theorem idx_ok : SpOk Try.prog gl 77 (.pure idx_s) := by
  rintro args K ⟨l, t, he, hl, hk⟩
  have he : args = _ := he
  subst he
  refine spure gl_low (low_two (low_us l) (.int _ _)) (.int _ _) (idx1_vc l t (fun x => x = .int .i64 (idxI l t)) ⟨l, t, hl, trivial, (by show _ = _; simp only [List.length_map]), rfl, fun h => ?_, fun h => ?_⟩) hk
  · unfold idxI; rw [if_pos h]
  · unfold idxI; rw [if_neg (by omega)]
def TI1 : Tab := [(77, .pure idx_s)]
theorem TI1_ok : TabOk Try.prog gl TI1 := .cons idx_ok (.nil _ _)
theorem con1_red (l : List Int) (t : Int) (K : PV → Prop) : (∃ (l_1 : List Int), ∃ (t_1 : Int), SlIs [PV.list (List.map u1 l) Tail.no, PV.int IntKind.u32 t] [PV.list (List.map u1 l_1) Tail.no, PV.int IntKind.u32 t_1] ∧ List.length l_1 ≤ 1000000 ∧ K (PV.bool (decide (idxI l_1 t_1 ≥ 0)))) = wpc br Try.prog gl TI1 [] (fun _ => 0) (bodyOf Try.f48) [] (env0 [.list (l.map u1) .no, .int .u32 t]) [] (resQ Try.prog Try.f48.results.toList (fun x _ => K x)) := by kernel_rfl
theorem con1_vc (l : List Int) (t : Int)  (K : PV → Prop) (h : ∃ (l_1 : List Int), ∃ (t_1 : Int), SlIs [PV.list (List.map u1 l) Tail.no, PV.int IntKind.u32 t] [PV.list (List.map u1 l_1) Tail.no, PV.int IntKind.u32 t_1] ∧ List.length l_1 ≤ 1000000 ∧ K (PV.bool (decide (idxI l_1 t_1 ≥ 0)))) : ACalls Try.prog gl 48 [.list (l.map u1) .no, .int .u32 t] [] (fun x _ => K x) :=
  acalls_of_wpc2 (T := TI1) (L := []) (fun _ => 0) Try.func48 (by kernel_rfl) (by kernel_rfl) (by kernel_rfl) (TI1_ok) (LOk.nil _ _ _ _ _) (holds_of_eq (con1_red l t K) h)
def memB (l : List Int) (t : Int) : Bool := decide (t ∈ l)
theorem memB_iff {l : List Int} {t : Int} : memB l t = true ↔ t ∈ l := by unfold memB; rw [decide_eq_true_eq]
theorem idxI_mem (l : List Int) (t : Int) : decide (idxI l t ≥ 0) = memB l t := by
  unfold idxI memB
  have h : l.findIdx (fun x => t == x) < l.length ↔ t ∈ l := by
    rw [List.findIdx_lt_length]
    constructor
    · rintro ⟨x, hx, e⟩; rw [eq_of_beq e]; exact hx
    · intro h; exact ⟨t, h, by simp⟩
  by_cases c : l.findIdx (fun x => t == x) < l.length
  · rw [if_pos c, decide_eq_true (h.1 c), decide_eq_true (by omega)]
  · rw [if_neg c, decide_eq_false (fun k => c (h.2 k)), decide_eq_false (by omega)]
def con_s (args : List PV) (K : PV → Prop) : Prop := ∃ (l : List Int) (tl : Tail) (t : Int), SlIs args [.list (l.map u1) tl, .int .u32 t] ∧ l.length ≤ 1000000 ∧ K (.bool (memB l t))
theorem con_ok : SpOk Try.prog gl 48 (.pure con_s) := by
  rintro args K ⟨l, tl, t, he, hl, hk⟩
  have he : args = _ := he
  subst he
  exact spure_w gl_low (.cons (.list _ _) (.cons (.refl _) .nil)) (low_two (low_us l) (.int _ _)) (.bool _) (con1_vc l t (fun x => x = .bool (memB l t)) ⟨l, t, rfl, hl, by rw [idxI_mem]⟩) hk
theorem clo4_red (l : List Int) (K : PV → Heap → Prop) : (∀ (b : Bool), (List.flatten (List.map u1 l) ≠ [] → b = false) → br b (K (PV.list [] Tail.exact) []) (AppL [] (List.map u1 l) 1 4 ∧ List.all (List.flatten (List.map u1 l)) PV.one = true ∧ (List.map u1 l = [] → K (PV.list [] Tail.exact) []) ∧ (List.map u1 l ≠ [] → K (PV.list ([] ++ List.map u1 l) (Tail.tok 0)) [Ob.tok]))) = wpc br Try.prog gl [] [] (fun o => match o.dst with | some 7 => 4 | _ => 0) (bodyOf Try.f47) [] (env0 [.list (l.map u1) .no]) [] (resQ Try.prog Try.f47.results.toList K) := by kernel_rfl
theorem clo4_vc (l : List Int)  (K : PV → Heap → Prop) (h : ∀ (b : Bool), (List.flatten (List.map u1 l) ≠ [] → b = false) → br b (K (PV.list [] Tail.exact) []) (AppL [] (List.map u1 l) 1 4 ∧ List.all (List.flatten (List.map u1 l)) PV.one = true ∧ (List.map u1 l = [] → K (PV.list [] Tail.exact) []) ∧ (List.map u1 l ≠ [] → K (PV.list ([] ++ List.map u1 l) (Tail.tok 0)) [Ob.tok]))) : ACalls Try.prog gl 47 [.list (l.map u1) .no] [] K :=
  acalls_of_wpc2 (T := []) (L := []) (fun o => match o.dst with | some 7 => 4 | _ => 0) Try.func47 (by kernel_rfl) (by kernel_rfl) (by kernel_rfl) (TabOk.nil _ _) (LOk.nil _ _ _ _ _) (holds_of_eq (clo4_red l K) h)
theorem clo0_red (H : Heap) (K : PV → Heap → Prop) : (∀ (b : Bool), (([] : List PV) ≠ [] → b = false) → br b (K (PV.list [] Tail.exact) H) (AppL [] [] 1 4 ∧ K (PV.list [] Tail.no) H)) = wpc br Try.prog gl [] [] (fun _ => 0) (bodyOf Try.f47) [] (env0 [.list [] .no]) H (resQ Try.prog Try.f47.results.toList K) := by kernel_rfl
theorem clo0_vc (H : Heap)  (K : PV → Heap → Prop) (h : ∀ (b : Bool), (([] : List PV) ≠ [] → b = false) → br b (K (PV.list [] Tail.exact) H) (AppL [] [] 1 4 ∧ K (PV.list [] Tail.no) H)) : ACalls Try.prog gl 47 [.list [] .no] H K :=
  acalls_of_wpc2 (T := []) (L := []) (fun _ => 0) Try.func47 (by kernel_rfl) (by kernel_rfl) (by kernel_rfl) (TabOk.nil _ _) (LOk.nil _ _ _ _ _) (holds_of_eq (clo0_red H K) h)
theorem clo2_red (H : Heap) (l : List Int) (K : PV → Heap → Prop) : (∀ (b : Bool), (List.flatten (List.map u1 l) ≠ [] → b = false) → br b (K (PV.list [] Tail.exact) H) (List.length (List.flatten (List.map u1 l)) = List.length (List.map u1 l) * 1 ∧ List.length (List.map u1 l) * 4 ≤ 140737488355328 ∧ 0 < List.length (List.map u1 l) ∧ ∀ (c : Nat), List.length (List.map u1 l) ≤ c → K (PV.arr (List.length H) 0 (List.length (List.map u1 l)) c) (H ++ [Ob.cells (List.flatten (List.map u1 l) ++ List.flatten (List.replicate (c - List.length (List.map u1 l)) [PV.int IntKind.u32 0]))]))) = wpc br Try.prog gl [] [] (fun o => match o.dst with | some 7 => 2 | _ => 0) (bodyOf Try.f47) [] (env0 [.list (l.map u1) .no]) H (resQ Try.prog Try.f47.results.toList K) := by kernel_rfl
theorem clo2_vc (H : Heap) (l : List Int)  (K : PV → Heap → Prop) (h : ∀ (b : Bool), (List.flatten (List.map u1 l) ≠ [] → b = false) → br b (K (PV.list [] Tail.exact) H) (List.length (List.flatten (List.map u1 l)) = List.length (List.map u1 l) * 1 ∧ List.length (List.map u1 l) * 4 ≤ 140737488355328 ∧ 0 < List.length (List.map u1 l) ∧ ∀ (c : Nat), List.length (List.map u1 l) ≤ c → K (PV.arr (List.length H) 0 (List.length (List.map u1 l)) c) (H ++ [Ob.cells (List.flatten (List.map u1 l) ++ List.flatten (List.replicate (c - List.length (List.map u1 l)) [PV.int IntKind.u32 0]))]))) : ACalls Try.prog gl 47 [.list (l.map u1) .no] H K :=
  acalls_of_wpc2 (T := []) (L := []) (fun o => match o.dst with | some 7 => 2 | _ => 0) Try.func47 (by kernel_rfl) (by kernel_rfl) (by kernel_rfl) (TabOk.nil _ _) (LOk.nil _ _ _ _ _) (holds_of_eq (clo2_red H l K) h)
theorem u1_ne {l : List Int} (h : l ≠ []) : (l.map u1).flatten ≠ [] := by
  cases l with
  | nil => exact absurd rfl h
  | cons a l => simp [u1]
theorem map_u1_nil {l : List Int} : l.map u1 = [] ↔ l = [] := List.map_eq_nil_iff
/-- a clone: a row of the caller's own, with its spare room -/
def clo_s (args : List PV) (K : List (List PV) → Prop) : Prop := ∃ (l : List Int) (tl : Tail), SlIs args [.list (l.map u1) tl] ∧ l.length ≤ 1000000 ∧ K (l.map u1)
theorem clo_ok : SpOk Try.prog gl 47 (.mk clo_s) := by
  rintro args K ⟨l, tl, he, hl, hk⟩
  have he : args = _ := he
  subst he
  refine ⟨l.map u1, hk, mk_of gl_low (.cons (.list _ _) .nil) (low_one (low_us l)) (by have := low_fu1 (n := 0) l (J := []) (fun _ h => nomatch h); simpa using this) (clo4_vc l _ ?_)⟩
  intro b hb
  rw [br_if]
  cases b with
  | true =>
    rw [if_pos rfl]
    have hn : l = [] := Classical.byContradiction fun h => absurd (hb (u1_ne h)) (by decide)
    subst hn
    exact ⟨fun _ => rfl, fun h => absurd rfl h⟩
  | false =>
    rw [if_neg (by decide)]
    refine ⟨⟨(fun _ h => nomatch h), uni_map u1_len l, by simp; omega⟩, ?_, fun h => ?_, fun h => ?_⟩
    · exact List.all_eq_true.2 (by have := flat_u1 l; intro y hy; obtain ⟨c, h2, h3⟩ := List.mem_flatten.1 hy; obtain ⟨a, _, rfl⟩ := List.mem_map.1 h2; exact one_u1 a y h3)
    · exact ⟨fun _ => rfl, fun h2 => absurd h h2⟩
    · exact ⟨fun h2 => absurd h2 h, fun _ => ⟨0, rfl, rfl⟩⟩
/-- a clone: an object of the caller's own -/
def cloA_s (args : List PV) (H : Heap) (K : PV → Heap → Prop) : Prop := ∃ (l : List Int) (tl : Tail), SlIs args [.list (l.map u1) tl] ∧ l.length ≤ 1000000 ∧ (l = [] → K (.list [] .no) H) ∧
  (l ≠ [] → ∀ (cap : Nat), l.length ≤ cap → ∀ (J : List PV), Room J (cap - l.length) → K (.arr H.length 0 l.length cap) (H ++ [.cells ((l.map u1).flatten ++ J)]))
theorem zeros_u32 (n : Nat) : Room (List.replicate n [PV.int .u32 0]).flatten n := (Room.zeros (z := [PV.int .u32 0]) (by intro y hy; rcases List.mem_singleton.1 hy with rfl; rfl) (low_one (.int _ _)) n).cast (by simp)
theorem cloA_ok : SpOk Try.prog gl 47 (.heap cloA_s) := by
  rintro args H K ⟨l, tl, he, hl, h0, h1⟩
  have he : args = _ := he
  subst he
  refine acalls_args (.cons (.list _ _) .nil) ?_
  by_cases c : l = []
  · subst c
    refine acalls_weak (clo0_vc H _ ?_)
    intro b _
    rw [br_if]
    split
    · exact ⟨_, .list _ _, h0 rfl⟩
    · exact ⟨⟨(fun _ h => nomatch h), (fun _ h => nomatch h), by simp⟩, _, .refl _, h0 rfl⟩
  · refine clo2_vc H l _ ?_
    intro b hb
    rw [br_if, hb (u1_ne c), if_neg (by decide)]
    have hp := List.length_pos_iff.2 c
    refine ⟨by rw [flat_u1, List.length_map, Nat.mul_one], by rw [List.length_map]; omega, by rw [List.length_map]; exact hp, fun cap hc => ?_⟩
    rw [List.length_map] at hc ⊢
    exact h1 c cap hc _ (zeros_u32 _)
def TC0 : Tab := [(48, .pure con_s)]
theorem TC0_ok : TabOk Try.prog gl TC0 := .cons con_ok (.nil _ _)
theorem en1_map (l : List Int) : en1 .u32 l = l.map u1 := rfl
theorem low_ck {n : Nat} (c : Ck) : ∀ y ∈ c.cells, Low n y := low_four (.int _ _) (low_list1 NT.no) (low_list1 NT.no) (.int _ _)
theorem Ck.low (c : Ck) {n : Nat} : Low n c.pv := .agg _ (low_ck c)
theorem mis11_red (c : Ck) (ob : Ob) (p : Int) (K : PV → Heap → Prop) : (∃ (l : List Int), ∃ (tl : Tail), ∃ (t : Int), SlIs [PV.list (en1 IntKind.u32 (Ck.ys c)) Tail.no, PV.int IntKind.u32 p] [PV.list (List.map u1 l) tl, PV.int IntKind.u32 t] ∧ List.length l ≤ 1000000 ∧ K (PV.bool (memB l t)) [Ob.cells [PV.int IntKind.u32 (Ck.id c), PV.list (en1 IntKind.u32 (Ck.pl c)) Tail.no, PV.list (en1 IntKind.u32 (Ck.ys c)) Tail.no, PV.int IntKind.i64 (Ck.un c)], ob]) = wpc br Try.prog gl TC0 [] (fun _ => 0) (bodyOf Try.f58) [] (env0 [.int .u32 p, .ptr 0 0]) [.cells c.cells, ob] (resQ Try.prog Try.f58.results.toList K) := by kernel_rfl
theorem mis11_vc (c : Ck) (ob : Ob) (p : Int)  (K : PV → Heap → Prop) (h : ∃ (l : List Int), ∃ (tl : Tail), ∃ (t : Int), SlIs [PV.list (en1 IntKind.u32 (Ck.ys c)) Tail.no, PV.int IntKind.u32 p] [PV.list (List.map u1 l) tl, PV.int IntKind.u32 t] ∧ List.length l ≤ 1000000 ∧ K (PV.bool (memB l t)) [Ob.cells [PV.int IntKind.u32 (Ck.id c), PV.list (en1 IntKind.u32 (Ck.pl c)) Tail.no, PV.list (en1 IntKind.u32 (Ck.ys c)) Tail.no, PV.int IntKind.i64 (Ck.un c)], ob]) : ACalls Try.prog gl 58 [.int .u32 p, .ptr 0 0] [.cells c.cells, ob] K :=
  acalls_of_wpc2 (T := TC0) (L := []) (fun _ => 0) Try.func58 (by kernel_rfl) (by kernel_rfl) (by kernel_rfl) (TC0_ok) (LOk.nil _ _ _ _ _) (holds_of_eq (mis11_red c ob p K) h)
def mis1_s (args : List PV) (H : Heap) (K : PV → Prop) : Prop := ∃ (c : Ck) (ob : Ob) (p : Int), SlIs args [.int .u32 p, .ptr 0 0] ∧ HpIs H [.cells c.cells, ob] ∧ c.ys.length ≤ 1000000 ∧ K (.bool (memB c.ys p))
theorem mis1_ok : SpOk Try.prog gl 58 (.read mis1_s) := by
  rintro args H K ⟨c, ob, p, he, hH, hl, hk⟩
  have he : args = _ := he
  have hH : H = _ := hH
  subst he
  subst hH
  exact ⟨_, mis11_vc c ob p _ ⟨c.ys, _, p, rfl, hl, rfl, rfl⟩, hk⟩
def TM0 : Tab := (58, .read mis1_s) :: TC0
theorem TM0_ok : TabOk Try.prog gl TM0 := .cons mis1_ok TC0_ok
structure Cs where
  c : Ck
  h : c.ys.length ≤ 1000000
theorem ifm_red (cx : Cs) (l : List Int) (J : List PV) (cap : Nat) (i : Nat) (R : Ex → List PV → Heap → Prop) : (br (decide ((↑i : Int) < (↑(List.length l) : Int))) ((0 ≤ (↑i : Int) ∧ (↑i : Int) < (↑(List.length l) : Int)) ∧ br (true && fitX [CK.int IntKind.u32] 0 (List.drop (0 + Int.toNat (↑i : Int) * 1) (List.flatten (List.map u1 l) ++ J))) (∃ (c : Ck), ∃ (ob : Ob), ∃ (p : Int), SlIs [PV.int IntKind.u32 (cI (List.drop (0 + Int.toNat (↑i : Int) * 1) (List.flatten (List.map u1 l) ++ J)) 0), PV.ptr 0 0] [PV.int IntKind.u32 p, PV.ptr 0 0] ∧ HpIs [Ob.cells [PV.int IntKind.u32 (Ck.id (Cs.c cx)), PV.list (en1 IntKind.u32 (Ck.pl (Cs.c cx))) Tail.no, PV.list (en1 IntKind.u32 (Ck.ys (Cs.c cx))) Tail.no, PV.int IntKind.i64 (Ck.un (Cs.c cx))], Ob.cells (List.flatten (List.map u1 l) ++ J)] [Ob.cells [PV.int IntKind.u32 (Ck.id c), PV.list (en1 IntKind.u32 (Ck.pl c)) Tail.no, PV.list (en1 IntKind.u32 (Ck.ys c)) Tail.no, PV.int IntKind.i64 (Ck.un c)], ob] ∧ List.length (Ck.ys c) ≤ 1000000 ∧ br (memB (Ck.ys c) p) (R Ex.ret [PV.arr 1 0 (List.length l) cap, PV.fn 58 [PV.ptr 0 0], PV.int IntKind.i64 (↑i : Int), PV.int IntKind.i64 (↑(List.length l) : Int), PV.int IntKind.i64 (↑i : Int)] [Ob.cells [PV.int IntKind.u32 (Ck.id (Cs.c cx)), PV.list (en1 IntKind.u32 (Ck.pl (Cs.c cx))) Tail.no, PV.list (en1 IntKind.u32 (Ck.ys (Cs.c cx))) Tail.no, PV.int IntKind.i64 (Ck.un (Cs.c cx))], Ob.cells (List.flatten (List.map u1 l) ++ J)]) (R Ex.normal [PV.arr 1 0 (List.length l) cap, PV.fn 58 [PV.ptr 0 0], PV.int IntKind.i64 0, PV.int IntKind.i64 (↑(List.length l) : Int), PV.int IntKind.i64 (wI ((↑i : Int) + 1))] [Ob.cells [PV.int IntKind.u32 (Ck.id (Cs.c cx)), PV.list (en1 IntKind.u32 (Ck.pl (Cs.c cx))) Tail.no, PV.list (en1 IntKind.u32 (Ck.ys (Cs.c cx))) Tail.no, PV.int IntKind.i64 (Ck.un (Cs.c cx))], Ob.cells (List.flatten (List.map u1 l) ++ J)])) False) (R (Ex.exit 0) [PV.arr 1 0 (List.length l) cap, PV.fn 58 [PV.ptr 0 0], PV.int IntKind.i64 0, PV.int IntKind.i64 (↑(List.length l) : Int), PV.int IntKind.i64 (↑i : Int)] [Ob.cells [PV.int IntKind.u32 (Ck.id (Cs.c cx)), PV.list (en1 IntKind.u32 (Ck.pl (Cs.c cx))) Tail.no, PV.list (en1 IntKind.u32 (Ck.ys (Cs.c cx))) Tail.no, PV.int IntKind.i64 (Ck.un (Cs.c cx))], Ob.cells (List.flatten (List.map u1 l) ++ J)])) = wpc br Try.prog gl TM0 [] (fun _ => 0) (subOf [1, 0, 1, 0] (bodyOf Try.f81)) [] (envS [0, 1, 4, 7, 8] [.arr 1 0 l.length cap, .fn 58 [.ptr 0 0], .int .i64 0, .int .i64 l.length, .int .i64 i]) [.cells cx.c.cells, .cells ((l.map u1).flatten ++ J)] (fun ex e H => R ex (List.map e [0, 1, 4, 7, 8]) H) := by kernel_rfl
theorem ifm_vc (cx : Cs) (l : List Int) (J : List PV) (cap : Nat) (i : Nat) (R : Ex → List PV → Heap → Prop) (h : br (decide ((↑i : Int) < (↑(List.length l) : Int))) ((0 ≤ (↑i : Int) ∧ (↑i : Int) < (↑(List.length l) : Int)) ∧ br (true && fitX [CK.int IntKind.u32] 0 (List.drop (0 + Int.toNat (↑i : Int) * 1) (List.flatten (List.map u1 l) ++ J))) (∃ (c : Ck), ∃ (ob : Ob), ∃ (p : Int), SlIs [PV.int IntKind.u32 (cI (List.drop (0 + Int.toNat (↑i : Int) * 1) (List.flatten (List.map u1 l) ++ J)) 0), PV.ptr 0 0] [PV.int IntKind.u32 p, PV.ptr 0 0] ∧ HpIs [Ob.cells [PV.int IntKind.u32 (Ck.id (Cs.c cx)), PV.list (en1 IntKind.u32 (Ck.pl (Cs.c cx))) Tail.no, PV.list (en1 IntKind.u32 (Ck.ys (Cs.c cx))) Tail.no, PV.int IntKind.i64 (Ck.un (Cs.c cx))], Ob.cells (List.flatten (List.map u1 l) ++ J)] [Ob.cells [PV.int IntKind.u32 (Ck.id c), PV.list (en1 IntKind.u32 (Ck.pl c)) Tail.no, PV.list (en1 IntKind.u32 (Ck.ys c)) Tail.no, PV.int IntKind.i64 (Ck.un c)], ob] ∧ List.length (Ck.ys c) ≤ 1000000 ∧ br (memB (Ck.ys c) p) (R Ex.ret [PV.arr 1 0 (List.length l) cap, PV.fn 58 [PV.ptr 0 0], PV.int IntKind.i64 (↑i : Int), PV.int IntKind.i64 (↑(List.length l) : Int), PV.int IntKind.i64 (↑i : Int)] [Ob.cells [PV.int IntKind.u32 (Ck.id (Cs.c cx)), PV.list (en1 IntKind.u32 (Ck.pl (Cs.c cx))) Tail.no, PV.list (en1 IntKind.u32 (Ck.ys (Cs.c cx))) Tail.no, PV.int IntKind.i64 (Ck.un (Cs.c cx))], Ob.cells (List.flatten (List.map u1 l) ++ J)]) (R Ex.normal [PV.arr 1 0 (List.length l) cap, PV.fn 58 [PV.ptr 0 0], PV.int IntKind.i64 0, PV.int IntKind.i64 (↑(List.length l) : Int), PV.int IntKind.i64 (wI ((↑i : Int) + 1))] [Ob.cells [PV.int IntKind.u32 (Ck.id (Cs.c cx)), PV.list (en1 IntKind.u32 (Ck.pl (Cs.c cx))) Tail.no, PV.list (en1 IntKind.u32 (Ck.ys (Cs.c cx))) Tail.no, PV.int IntKind.i64 (Ck.un (Cs.c cx))], Ob.cells (List.flatten (List.map u1 l) ++ J)])) False) (R (Ex.exit 0) [PV.arr 1 0 (List.length l) cap, PV.fn 58 [PV.ptr 0 0], PV.int IntKind.i64 0, PV.int IntKind.i64 (↑(List.length l) : Int), PV.int IntKind.i64 (↑i : Int)] [Ob.cells [PV.int IntKind.u32 (Ck.id (Cs.c cx)), PV.list (en1 IntKind.u32 (Ck.pl (Cs.c cx))) Tail.no, PV.list (en1 IntKind.u32 (Ck.ys (Cs.c cx))) Tail.no, PV.int IntKind.i64 (Ck.un (Cs.c cx))], Ob.cells (List.flatten (List.map u1 l) ++ J)])) : Holds (wpc br Try.prog gl TM0 [] (fun _ => 0) (subOf [1, 0, 1, 0] (bodyOf Try.f81)) [] (envS [0, 1, 4, 7, 8] [.arr 1 0 l.length cap, .fn 58 [.ptr 0 0], .int .i64 0, .int .i64 l.length, .int .i64 i]) [.cells cx.c.cells, .cells ((l.map u1).flatten ++ J)] (fun ex e H => R ex (List.map e [0, 1, 4, 7, 8]) H)) := holds_of_eq (ifm_red cx l J cap i R) h
def ifm_l : LSp := fun e H Q => ∃ (cx : Cs) (l : List Int) (J : List PV) (cap : Nat), l.length ≤ 1000000 ∧ SlIs (List.map e [0, 1, 4, 7, 8]) [.arr 1 0 l.length cap, .fn 58 [.ptr 0 0], .int .i64 0, .int .i64 l.length, .int .i64 0] ∧ HpIs H [.cells cx.c.cells, .cells ((l.map u1).flatten ++ J)] ∧
  (l.findIdx (memB cx.c.ys) < l.length → Q .ret (envS [0, 1, 4, 7, 8] [.arr 1 0 l.length cap, .fn 58 [.ptr 0 0], .int .i64 (l.findIdx (memB cx.c.ys)), .int .i64 l.length, .int .i64 (l.findIdx (memB cx.c.ys))]) [.cells cx.c.cells, .cells ((l.map u1).flatten ++ J)]) ∧
  (l.findIdx (memB cx.c.ys) = l.length → Q (.exit 0) (envS [0, 1, 4, 7, 8] [.arr 1 0 l.length cap, .fn 58 [.ptr 0 0], .int .i64 0, .int .i64 l.length, .int .i64 l.length]) [.cells cx.c.cells, .cells ((l.map u1).flatten ++ J)])
theorem ifm_l_ok : ∀ e H Q, ifm_l e H Q → AW Try.prog gl Try.f81.ntmps (.loop (subOf [1, 0, 1, 0] (bodyOf Try.f81))) Q e H := by
  rintro e H Q ⟨cx, l, J, cap, hl, he, hH, hQ1, hQ2⟩
  have hfl : l.findIdx (memB cx.c.ys) ≤ l.length := List.findIdx_le_length
  refine aw_loop4 (hn := fun _ => 0) gl_low TM0_ok (.nil _ _ _ _ _) (σ := Nat) [0, 1, 4, 7, 8] (fun i => i ≤ l.findIdx (memB cx.c.ys)) (fun i => [.arr 1 0 l.length cap, .fn 58 [.ptr 0 0], .int .i64 0, .int .i64 l.length, .int .i64 i]) (fun _ => [.cells cx.c.cells, .cells ((l.map u1).flatten ++ J)]) (fun i => l.length - i) 0 (Nat.zero_le _) he hH ?_
  intro i hi
  have hi' : i ≤ l.findIdx (memB cx.c.ys) := hi
  refine ifm_vc cx l J cap i _ ?_
  simp only [br_if, dt]
  by_cases h : i < l.length
  · rw [if_pos (by omega)]
    simp only [toNat_nat, Nat.zero_add]
    rw [cells_at u1_len J 0 h]
    refine ⟨⟨by omega, by omega⟩, ?_⟩
    rw [if_pos (by rfl)]
    have hv : cI (u1 (l.getD i 0) ++ (((l.drop (i + 1)).map u1).flatten ++ J)) 0 = l.getD i 0 := rfl
    rw [hv]
    obtain ⟨v, hvd⟩ : ∃ v, v = l.getD i 0 := ⟨_, rfl⟩
    rw [← hvd]
    refine ⟨cx.c, _, v, rfl, rfl, cx.h, ?_⟩
    by_cases c : (memB cx.c.ys) v = true
    · have hge : l.findIdx (memB cx.c.ys) = i := fidx_stop 0 hi' h (by rw [← hvd]; exact c)
      rw [hge] at hQ1
      rw [if_pos (by exact c)]
      exact hQ1 h
    · have hlt : i < l.findIdx (memB cx.c.ys) := fidx_step 0 hi' h (by rw [← hvd]; simpa using c)
      rw [if_neg (by exact c)]
      exact ⟨i + 1, (show l.length - (i + 1) < l.length - i by omega), hlt, by rw [wI_succ h (by omega)], [], rfl, Nat.le_refl _, .inl rfl⟩
  · rw [if_neg (by omega)]
    have : i = l.length := by omega
    subst this
    exact hQ2 (by omega)
theorem ifm1_red (cx : Cs) (l : List Int) (J : List PV) (cap : Nat) (K : PV → Heap → Prop) : (∃ (cx_1 : Cs), ∃ (l_1 : List Int), ∃ (J_1 : List PV), ∃ (cap_1 : Nat), List.length l_1 ≤ 1000000 ∧ SlIs [PV.arr 1 0 (List.length l) cap, PV.fn 58 [PV.ptr 0 0], PV.int IntKind.i64 0, PV.int IntKind.i64 (↑(List.length l) : Int), PV.int IntKind.i64 0] [PV.arr 1 0 (List.length l_1) cap_1, PV.fn 58 [PV.ptr 0 0], PV.int IntKind.i64 0, PV.int IntKind.i64 (↑(List.length l_1) : Int), PV.int IntKind.i64 0] ∧ HpIs [Ob.cells [PV.int IntKind.u32 (Ck.id (Cs.c cx)), PV.list (en1 IntKind.u32 (Ck.pl (Cs.c cx))) Tail.no, PV.list (en1 IntKind.u32 (Ck.ys (Cs.c cx))) Tail.no, PV.int IntKind.i64 (Ck.un (Cs.c cx))], Ob.cells (List.flatten (List.map u1 l) ++ J)] [Ob.cells [PV.int IntKind.u32 (Ck.id (Cs.c cx_1)), PV.list (en1 IntKind.u32 (Ck.pl (Cs.c cx_1))) Tail.no, PV.list (en1 IntKind.u32 (Ck.ys (Cs.c cx_1))) Tail.no, PV.int IntKind.i64 (Ck.un (Cs.c cx_1))], Ob.cells (List.flatten (List.map u1 l_1) ++ J_1)] ∧ (List.findIdx (memB (Ck.ys (Cs.c cx_1))) l_1 < List.length l_1 → K (PV.int IntKind.i64 (↑(List.findIdx (memB (Ck.ys (Cs.c cx_1))) l_1) : Int)) [Ob.cells [PV.int IntKind.u32 (Ck.id (Cs.c cx_1)), PV.list (en1 IntKind.u32 (Ck.pl (Cs.c cx_1))) Tail.no, PV.list (en1 IntKind.u32 (Ck.ys (Cs.c cx_1))) Tail.no, PV.int IntKind.i64 (Ck.un (Cs.c cx_1))], Ob.cells (List.flatten (List.map u1 l_1) ++ J_1)]) ∧ (List.findIdx (memB (Ck.ys (Cs.c cx_1))) l_1 = List.length l_1 → K (PV.int IntKind.i64 (-1)) [Ob.cells [PV.int IntKind.u32 (Ck.id (Cs.c cx_1)), PV.list (en1 IntKind.u32 (Ck.pl (Cs.c cx_1))) Tail.no, PV.list (en1 IntKind.u32 (Ck.ys (Cs.c cx_1))) Tail.no, PV.int IntKind.i64 (Ck.un (Cs.c cx_1))], Ob.cells (List.flatten (List.map u1 l_1) ++ J_1)])) = wpc br Try.prog gl TM0 [([1, 0, 1, 0], ifm_l)] (fun _ => 0) (bodyOf Try.f81) [] (env0 [.arr 1 0 l.length cap, .fn 58 [.ptr 0 0]]) [.cells cx.c.cells, .cells ((l.map u1).flatten ++ J)] (resQ Try.prog Try.f81.results.toList K) := by kernel_rfl
theorem ifm1_vc (cx : Cs) (l : List Int) (J : List PV) (cap : Nat)  (K : PV → Heap → Prop) (h : ∃ (cx_1 : Cs), ∃ (l_1 : List Int), ∃ (J_1 : List PV), ∃ (cap_1 : Nat), List.length l_1 ≤ 1000000 ∧ SlIs [PV.arr 1 0 (List.length l) cap, PV.fn 58 [PV.ptr 0 0], PV.int IntKind.i64 0, PV.int IntKind.i64 (↑(List.length l) : Int), PV.int IntKind.i64 0] [PV.arr 1 0 (List.length l_1) cap_1, PV.fn 58 [PV.ptr 0 0], PV.int IntKind.i64 0, PV.int IntKind.i64 (↑(List.length l_1) : Int), PV.int IntKind.i64 0] ∧ HpIs [Ob.cells [PV.int IntKind.u32 (Ck.id (Cs.c cx)), PV.list (en1 IntKind.u32 (Ck.pl (Cs.c cx))) Tail.no, PV.list (en1 IntKind.u32 (Ck.ys (Cs.c cx))) Tail.no, PV.int IntKind.i64 (Ck.un (Cs.c cx))], Ob.cells (List.flatten (List.map u1 l) ++ J)] [Ob.cells [PV.int IntKind.u32 (Ck.id (Cs.c cx_1)), PV.list (en1 IntKind.u32 (Ck.pl (Cs.c cx_1))) Tail.no, PV.list (en1 IntKind.u32 (Ck.ys (Cs.c cx_1))) Tail.no, PV.int IntKind.i64 (Ck.un (Cs.c cx_1))], Ob.cells (List.flatten (List.map u1 l_1) ++ J_1)] ∧ (List.findIdx (memB (Ck.ys (Cs.c cx_1))) l_1 < List.length l_1 → K (PV.int IntKind.i64 (↑(List.findIdx (memB (Ck.ys (Cs.c cx_1))) l_1) : Int)) [Ob.cells [PV.int IntKind.u32 (Ck.id (Cs.c cx_1)), PV.list (en1 IntKind.u32 (Ck.pl (Cs.c cx_1))) Tail.no, PV.list (en1 IntKind.u32 (Ck.ys (Cs.c cx_1))) Tail.no, PV.int IntKind.i64 (Ck.un (Cs.c cx_1))], Ob.cells (List.flatten (List.map u1 l_1) ++ J_1)]) ∧ (List.findIdx (memB (Ck.ys (Cs.c cx_1))) l_1 = List.length l_1 → K (PV.int IntKind.i64 (-1)) [Ob.cells [PV.int IntKind.u32 (Ck.id (Cs.c cx_1)), PV.list (en1 IntKind.u32 (Ck.pl (Cs.c cx_1))) Tail.no, PV.list (en1 IntKind.u32 (Ck.ys (Cs.c cx_1))) Tail.no, PV.int IntKind.i64 (Ck.un (Cs.c cx_1))], Ob.cells (List.flatten (List.map u1 l_1) ++ J_1)])) : ACalls Try.prog gl 81 [.arr 1 0 l.length cap, .fn 58 [.ptr 0 0]] [.cells cx.c.cells, .cells ((l.map u1).flatten ++ J)] K :=
  acalls_of_wpc2 (T := TM0) (L := [([1, 0, 1, 0], ifm_l)]) (fun _ => 0) Try.func81 (by kernel_rfl) (by kernel_rfl) (by kernel_rfl) (TM0_ok) (.cons (sub_of (by kernel_rfl)) ifm_l_ok (.nil _ _ _ _ _)) (holds_of_eq (ifm1_red cx l J cap K) h)
def ifm_s (args : List PV) (H : Heap) (K : PV → Prop) : Prop := ∃ (cx : Cs) (l : List Int) (J : List PV) (cap : Nat), SlIs args [.arr 1 0 l.length cap, .fn 58 [.ptr 0 0]] ∧ HpIs H [.cells cx.c.cells, .cells ((l.map u1).flatten ++ J)] ∧ l.length ≤ 1000000 ∧ K (.int .i64 (if l.findIdx (memB cx.c.ys) < l.length then (l.findIdx (memB cx.c.ys) : Int) else -1))
theorem ifm_ok : SpOk Try.prog gl 81 (.read ifm_s) := by
  rintro args H K ⟨cx, l, J, cap, he, hH, hl, hk⟩
  have he : args = _ := he
  have hH : H = _ := hH
  subst he
  subst hH
  exact ⟨_, ifm1_vc cx l J cap _ ⟨cx, l, J, cap, hl, rfl, rfl, fun h => ⟨by rw [if_pos h], rfl⟩, fun h => ⟨by rw [if_neg (by omega)], rfl⟩⟩, hk⟩
def TDFm : Tab := (81, .read ifm_s) :: TM0
theorem TDFm_ok : TabOk Try.prog gl TDFm := .cons ifm_ok TM0_ok
theorem dlm_red (cx : Cs) (l : List Int) (J : List PV) (cap : Nat) (i j : Nat) (R : Ex → List PV → Heap → Prop) : (br (decide ((↑j : Int) < (↑(List.length l) : Int))) ((0 ≤ (↑j : Int) ∧ (↑j : Int) < (↑(List.length l) : Int)) ∧ br (true && fitX [CK.int IntKind.u32] 0 (List.drop (0 + Int.toNat (↑j : Int) * 1) (List.flatten (List.map u1 l) ++ J))) (∃ (c : Ck), ∃ (ob : Ob), ∃ (p : Int), SlIs [PV.int IntKind.u32 (cI (List.drop (0 + Int.toNat (↑j : Int) * 1) (List.flatten (List.map u1 l) ++ J)) 0), PV.ptr 0 0] [PV.int IntKind.u32 p, PV.ptr 0 0] ∧ HpIs [Ob.cells [PV.int IntKind.u32 (Ck.id (Cs.c cx)), PV.list (en1 IntKind.u32 (Ck.pl (Cs.c cx))) Tail.no, PV.list (en1 IntKind.u32 (Ck.ys (Cs.c cx))) Tail.no, PV.int IntKind.i64 (Ck.un (Cs.c cx))], Ob.cells (List.flatten (List.map u1 l) ++ J)] [Ob.cells [PV.int IntKind.u32 (Ck.id c), PV.list (en1 IntKind.u32 (Ck.pl c)) Tail.no, PV.list (en1 IntKind.u32 (Ck.ys c)) Tail.no, PV.int IntKind.i64 (Ck.un c)], ob] ∧ List.length (Ck.ys c) ≤ 1000000 ∧ br (!memB (Ck.ys c) p) ((0 ≤ (↑i : Int) ∧ (↑i : Int) < (↑(List.length l) : Int)) ∧ br (1 == 1 && List.all [PV.int IntKind.u32 (cI (List.drop (0 + Int.toNat (↑j : Int) * 1) (List.flatten (List.map u1 l) ++ J)) 0)] PV.one && decide (0 + Int.toNat (↑i : Int) * 1 + 1 ≤ List.length (List.flatten (List.map u1 l) ++ J)) && hintOk 0 1 (0 + Int.toNat (↑i : Int) * 1) 1) (R Ex.normal [PV.arr 1 0 (List.length l) cap, PV.fn 58 [PV.ptr 0 0], PV.int IntKind.i64 (wI ((↑i : Int) + 1)), PV.int IntKind.i64 (wI ((↑j : Int) + 1))] [Ob.cells [PV.int IntKind.u32 (Ck.id (Cs.c cx)), PV.list (en1 IntKind.u32 (Ck.pl (Cs.c cx))) Tail.no, PV.list (en1 IntKind.u32 (Ck.ys (Cs.c cx))) Tail.no, PV.int IntKind.i64 (Ck.un (Cs.c cx))], Ob.cells (over (List.flatten (List.map u1 l) ++ J) (0 + Int.toNat (↑i : Int) * 1) [PV.int IntKind.u32 (cI (List.drop (0 + Int.toNat (↑j : Int) * 1) (List.flatten (List.map u1 l) ++ J)) 0)])]) False) (R Ex.normal [PV.arr 1 0 (List.length l) cap, PV.fn 58 [PV.ptr 0 0], PV.int IntKind.i64 (↑i : Int), PV.int IntKind.i64 (wI ((↑j : Int) + 1))] [Ob.cells [PV.int IntKind.u32 (Ck.id (Cs.c cx)), PV.list (en1 IntKind.u32 (Ck.pl (Cs.c cx))) Tail.no, PV.list (en1 IntKind.u32 (Ck.ys (Cs.c cx))) Tail.no, PV.int IntKind.i64 (Ck.un (Cs.c cx))], Ob.cells (List.flatten (List.map u1 l) ++ J)])) False) (R (Ex.exit 0) [PV.arr 1 0 (List.length l) cap, PV.fn 58 [PV.ptr 0 0], PV.int IntKind.i64 (↑i : Int), PV.int IntKind.i64 (↑j : Int)] [Ob.cells [PV.int IntKind.u32 (Ck.id (Cs.c cx)), PV.list (en1 IntKind.u32 (Ck.pl (Cs.c cx))) Tail.no, PV.list (en1 IntKind.u32 (Ck.ys (Cs.c cx))) Tail.no, PV.int IntKind.i64 (Ck.un (Cs.c cx))], Ob.cells (List.flatten (List.map u1 l) ++ J)])) = wpc br Try.prog gl TDFm [] (fun _ => 0) (subOf [1, 1, 1, 0, 1, 0] (bodyOf Try.f57)) [] (envS [0, 1, 5, 6] [.arr 1 0 l.length cap, .fn 58 [.ptr 0 0], .int .i64 i, .int .i64 j]) [.cells cx.c.cells, .cells ((l.map u1).flatten ++ J)] (fun ex e H => R ex (List.map e [0, 1, 5, 6]) H) := by kernel_rfl
theorem dlm_vc (cx : Cs) (l : List Int) (J : List PV) (cap : Nat) (i j : Nat) (R : Ex → List PV → Heap → Prop) (h : br (decide ((↑j : Int) < (↑(List.length l) : Int))) ((0 ≤ (↑j : Int) ∧ (↑j : Int) < (↑(List.length l) : Int)) ∧ br (true && fitX [CK.int IntKind.u32] 0 (List.drop (0 + Int.toNat (↑j : Int) * 1) (List.flatten (List.map u1 l) ++ J))) (∃ (c : Ck), ∃ (ob : Ob), ∃ (p : Int), SlIs [PV.int IntKind.u32 (cI (List.drop (0 + Int.toNat (↑j : Int) * 1) (List.flatten (List.map u1 l) ++ J)) 0), PV.ptr 0 0] [PV.int IntKind.u32 p, PV.ptr 0 0] ∧ HpIs [Ob.cells [PV.int IntKind.u32 (Ck.id (Cs.c cx)), PV.list (en1 IntKind.u32 (Ck.pl (Cs.c cx))) Tail.no, PV.list (en1 IntKind.u32 (Ck.ys (Cs.c cx))) Tail.no, PV.int IntKind.i64 (Ck.un (Cs.c cx))], Ob.cells (List.flatten (List.map u1 l) ++ J)] [Ob.cells [PV.int IntKind.u32 (Ck.id c), PV.list (en1 IntKind.u32 (Ck.pl c)) Tail.no, PV.list (en1 IntKind.u32 (Ck.ys c)) Tail.no, PV.int IntKind.i64 (Ck.un c)], ob] ∧ List.length (Ck.ys c) ≤ 1000000 ∧ br (!memB (Ck.ys c) p) ((0 ≤ (↑i : Int) ∧ (↑i : Int) < (↑(List.length l) : Int)) ∧ br (1 == 1 && List.all [PV.int IntKind.u32 (cI (List.drop (0 + Int.toNat (↑j : Int) * 1) (List.flatten (List.map u1 l) ++ J)) 0)] PV.one && decide (0 + Int.toNat (↑i : Int) * 1 + 1 ≤ List.length (List.flatten (List.map u1 l) ++ J)) && hintOk 0 1 (0 + Int.toNat (↑i : Int) * 1) 1) (R Ex.normal [PV.arr 1 0 (List.length l) cap, PV.fn 58 [PV.ptr 0 0], PV.int IntKind.i64 (wI ((↑i : Int) + 1)), PV.int IntKind.i64 (wI ((↑j : Int) + 1))] [Ob.cells [PV.int IntKind.u32 (Ck.id (Cs.c cx)), PV.list (en1 IntKind.u32 (Ck.pl (Cs.c cx))) Tail.no, PV.list (en1 IntKind.u32 (Ck.ys (Cs.c cx))) Tail.no, PV.int IntKind.i64 (Ck.un (Cs.c cx))], Ob.cells (over (List.flatten (List.map u1 l) ++ J) (0 + Int.toNat (↑i : Int) * 1) [PV.int IntKind.u32 (cI (List.drop (0 + Int.toNat (↑j : Int) * 1) (List.flatten (List.map u1 l) ++ J)) 0)])]) False) (R Ex.normal [PV.arr 1 0 (List.length l) cap, PV.fn 58 [PV.ptr 0 0], PV.int IntKind.i64 (↑i : Int), PV.int IntKind.i64 (wI ((↑j : Int) + 1))] [Ob.cells [PV.int IntKind.u32 (Ck.id (Cs.c cx)), PV.list (en1 IntKind.u32 (Ck.pl (Cs.c cx))) Tail.no, PV.list (en1 IntKind.u32 (Ck.ys (Cs.c cx))) Tail.no, PV.int IntKind.i64 (Ck.un (Cs.c cx))], Ob.cells (List.flatten (List.map u1 l) ++ J)])) False) (R (Ex.exit 0) [PV.arr 1 0 (List.length l) cap, PV.fn 58 [PV.ptr 0 0], PV.int IntKind.i64 (↑i : Int), PV.int IntKind.i64 (↑j : Int)] [Ob.cells [PV.int IntKind.u32 (Ck.id (Cs.c cx)), PV.list (en1 IntKind.u32 (Ck.pl (Cs.c cx))) Tail.no, PV.list (en1 IntKind.u32 (Ck.ys (Cs.c cx))) Tail.no, PV.int IntKind.i64 (Ck.un (Cs.c cx))], Ob.cells (List.flatten (List.map u1 l) ++ J)])) : Holds (wpc br Try.prog gl TDFm [] (fun _ => 0) (subOf [1, 1, 1, 0, 1, 0] (bodyOf Try.f57)) [] (envS [0, 1, 5, 6] [.arr 1 0 l.length cap, .fn 58 [.ptr 0 0], .int .i64 i, .int .i64 j]) [.cells cx.c.cells, .cells ((l.map u1).flatten ++ J)] (fun ex e H => R ex (List.map e [0, 1, 5, 6]) H)) := holds_of_eq (dlm_red cx l J cap i j R) h
/-- what stands in the row when so many have been looked at -/
structure Midm (ns l : List Int) (cx : Cs) (i j : Nat) : Prop where
  len : l.length = ns.length
  kept : l.take i = (ns.take j).filter (fun v => !(memB cx.c.ys) v)
  rest : l.drop j = ns.drop j
  le : i ≤ j
  lt : j ≤ ns.length
theorem Midm.num {ns l : List Int} {cx : Cs} {i j : Nat} (h : Midm ns l cx i j) : i = ((ns.take j).filter (fun v => !(memB cx.c.ys) v)).length := by
  have := congrArg List.length h.kept
  rw [List.length_take] at this
  have := h.len; have := h.le; have := h.lt; omega
theorem Midm.at {ns l : List Int} {cx : Cs} {i j : Nat} (h : Midm ns l cx i j) : l.getD j 0 = ns.getD j 0 := by
  have := congrArg (fun w => w.getD 0 0) h.rest
  simpa using this
theorem Midm.skip {ns l : List Int} {cx : Cs} {i j : Nat} (h : Midm ns l cx i j) (hj : j < ns.length) (c : (memB cx.c.ys) (ns.getD j 0) = true) : Midm ns l cx i (j + 1) := by
  refine ⟨h.len, ?_, ?_, by have := h.le; omega, hj⟩
  · rw [h.kept, filter_take 0 hj, if_neg (by rw [c]; decide), List.append_nil]
  · have := congrArg (List.drop 1) h.rest
    rwa [List.drop_drop, List.drop_drop] at this
theorem Midm.keep {ns l : List Int} {cx : Cs} {i j : Nat} (h : Midm ns l cx i j) (hj : j < ns.length) (c : (memB cx.c.ys) (ns.getD j 0) = false) : Midm ns (l.set i (ns.getD j 0)) cx (i + 1) (j + 1) := by
  have h1 := h.len
  have h2 := h.le
  refine ⟨by rw [List.length_set]; exact h1, ?_, ?_, by omega, hj⟩
  · rw [filter_take 0 hj, if_pos (by rw [c]; decide), ← h.kept, List.take_add_one, List.take_set_of_le (Nat.le_refl _), List.getElem?_set_self (by omega)]
    rfl
  · rw [List.drop_set_of_lt (by omega)]
    have := congrArg (List.drop 1) h.rest
    rwa [List.drop_drop, List.drop_drop] at this
def dlm_l : LSp := fun e H Q => ∃ (cx : Cs) (ns : List Int) (J : List PV) (cap i : Nat), ns.length ≤ 1000000 ∧ Midm ns ns cx i (i + 1) ∧ (∀ y ∈ J, Low 2 y) ∧ (∀ y ∈ (cx.c.cells : List PV), Low 2 y) ∧ SlIs (List.map e [0, 1, 5, 6]) [.arr 1 0 ns.length cap, .fn 58 [.ptr 0 0], .int .i64 i, .int .i64 ((i + 1 : Nat) : Int)] ∧ HpIs H [.cells cx.c.cells, .cells ((ns.map u1).flatten ++ J)] ∧
  ∀ (l : List Int) (k : Nat), Midm ns l cx k ns.length → Q (.exit 0) (envS [0, 1, 5, 6] [.arr 1 0 ns.length cap, .fn 58 [.ptr 0 0], .int .i64 k, .int .i64 ns.length]) [.cells cx.c.cells, .cells ((l.map u1).flatten ++ J)]
theorem dlm_l_ok : ∀ e H Q, dlm_l e H Q → AW Try.prog gl Try.f57.ntmps (.loop (subOf [1, 1, 1, 0, 1, 0] (bodyOf Try.f57))) Q e H := by
  rintro e H Q ⟨cx, ns, J, cap, i0, hl, mid, hJ, hbx, he, hH, hQ⟩
  refine aw_loop4 (hn := fun _ => 0) gl_low TDFm_ok (.nil _ _ _ _ _) (σ := Nat × Nat × List Int) [0, 1, 5, 6] (fun s => Midm ns s.2.2 cx s.1 s.2.1)
    (fun s => [.arr 1 0 ns.length cap, .fn 58 [.ptr 0 0], .int .i64 s.1, .int .i64 s.2.1]) (fun s => [.cells cx.c.cells, .cells ((s.2.2.map u1).flatten ++ J)]) (fun s => ns.length - s.2.1) (i0, i0 + 1, ns) mid he hH ?_
  rintro ⟨i, j, l⟩ mid
  have mid : Midm ns l cx i j := mid
  have hlen := mid.len
  have hle := mid.le
  have hjn := mid.lt
  simp only [← hlen]
  refine dlm_vc cx l J cap i j _ ?_
  simp only [br_if, dt]
  by_cases h : j < l.length
  · have hj : j < ns.length := by omega
    rw [if_pos (by omega)]
    simp only [toNat_nat, Nat.zero_add]
    rw [cells_at u1_len J 0 h]
    refine ⟨⟨by omega, by omega⟩, ?_⟩
    rw [if_pos (by rfl)]
    have hv : cI (u1 (l.getD j 0) ++ (((l.drop (j + 1)).map u1).flatten ++ J)) 0 = l.getD j 0 := rfl
    rw [hv, mid.at]
    obtain ⟨v, hvd⟩ : ∃ v, v = ns.getD j 0 := ⟨_, rfl⟩
    rw [← hvd]
    refine ⟨cx.c, _, v, rfl, rfl, cx.h, ?_⟩
    have hrow := over_row u1_len (J := J) (a := v) (k := i) 0 (show i < l.length by omega)
    by_cases c : (memB cx.c.ys) v = true
    · rw [if_neg (by rw [show _ = true from c]; decide)]
      exact ⟨(i, j + 1, l), (show l.length - (j + 1) < l.length - j by omega), mid.skip hj (by rw [← hvd]; exact c), by dsimp only; rw [wI_succ h (by omega), hlen], [], rfl, Nat.le_refl _, .inl rfl⟩
    · have c' : (memB cx.c.ys) v = false := by simpa using c
      rw [if_pos (by rw [show _ = false from c']; decide)]
      refine ⟨⟨by omega, by omega⟩, ?_⟩
      rw [if_pos (by rw [decide_eq_true (by rw [List.length_append, flat_u1]; omega)]; rfl)]
      have hm := mid.keep hj (by rw [← hvd]; exact c')
      rw [← hvd] at hm
      refine ⟨(i + 1, j + 1, l.set i v), (show l.length - (j + 1) < l.length - j by omega), hm, by dsimp only; rw [wI_succ h (by omega), wI_succ (n := ns.length) (show i < ns.length by omega) (by omega), hlen], [], ?_, Nat.le_refl _, .inl rfl⟩
      dsimp only
      rw [List.append_nil, ← hrow]; rfl
  · rw [if_neg (by omega)]
    have : j = ns.length := by omega
    subst this
    rw [hlen]
    exact hQ l i mid
theorem dlm1_red (cx : Cs) (l : List Int) (J : List PV) (cap : Nat) (K : PV → Heap → Prop) : (∃ (cx_1 : Cs), ∃ (l_1 : List Int), ∃ (J_1 : List PV), ∃ (cap_1 : Nat), SlIs [PV.arr 1 0 (List.length l) cap, PV.fn 58 [PV.ptr 0 0]] [PV.arr 1 0 (List.length l_1) cap_1, PV.fn 58 [PV.ptr 0 0]] ∧ HpIs [Ob.cells [PV.int IntKind.u32 (Ck.id (Cs.c cx)), PV.list (en1 IntKind.u32 (Ck.pl (Cs.c cx))) Tail.no, PV.list (en1 IntKind.u32 (Ck.ys (Cs.c cx))) Tail.no, PV.int IntKind.i64 (Ck.un (Cs.c cx))], Ob.cells (List.flatten (List.map u1 l) ++ J)] [Ob.cells [PV.int IntKind.u32 (Ck.id (Cs.c cx_1)), PV.list (en1 IntKind.u32 (Ck.pl (Cs.c cx_1))) Tail.no, PV.list (en1 IntKind.u32 (Ck.ys (Cs.c cx_1))) Tail.no, PV.int IntKind.i64 (Ck.un (Cs.c cx_1))], Ob.cells (List.flatten (List.map u1 l_1) ++ J_1)] ∧ List.length l_1 ≤ 1000000 ∧ br ((if List.findIdx (memB (Ck.ys (Cs.c cx_1))) l_1 < List.length l_1 then (↑(List.findIdx (memB (Ck.ys (Cs.c cx_1))) l_1) : Int) else -1) == -1) (K (PV.arr 1 0 (List.length l) cap) [Ob.cells [PV.int IntKind.u32 (Ck.id (Cs.c cx)), PV.list (en1 IntKind.u32 (Ck.pl (Cs.c cx))) Tail.no, PV.list (en1 IntKind.u32 (Ck.ys (Cs.c cx))) Tail.no, PV.int IntKind.i64 (Ck.un (Cs.c cx))], Ob.cells (List.flatten (List.map u1 l) ++ J)]) (∃ (cx_2 : Cs), ∃ (ns : List Int), ∃ (J_2 : List PV), ∃ (cap_2 : Nat), ∃ (i : Nat), List.length ns ≤ 1000000 ∧ Midm ns ns cx_2 i (i + 1) ∧ (∀ (y : PV), y ∈ J_2 → Low 2 y) ∧ (∀ (y : PV), y ∈ [PV.int IntKind.u32 (Ck.id (Cs.c cx_2)), PV.list (en1 IntKind.u32 (Ck.pl (Cs.c cx_2))) Tail.no, PV.list (en1 IntKind.u32 (Ck.ys (Cs.c cx_2))) Tail.no, PV.int IntKind.i64 (Ck.un (Cs.c cx_2))] → Low 2 y) ∧ SlIs [PV.arr 1 0 (List.length l) cap, PV.fn 58 [PV.ptr 0 0], PV.int IntKind.i64 (if List.findIdx (memB (Ck.ys (Cs.c cx_1))) l_1 < List.length l_1 then (↑(List.findIdx (memB (Ck.ys (Cs.c cx_1))) l_1) : Int) else -1), PV.int IntKind.i64 (wI ((if List.findIdx (memB (Ck.ys (Cs.c cx_1))) l_1 < List.length l_1 then (↑(List.findIdx (memB (Ck.ys (Cs.c cx_1))) l_1) : Int) else -1) + 1))] [PV.arr 1 0 (List.length ns) cap_2, PV.fn 58 [PV.ptr 0 0], PV.int IntKind.i64 (↑i : Int), PV.int IntKind.i64 (↑(i + 1) : Int)] ∧ HpIs [Ob.cells [PV.int IntKind.u32 (Ck.id (Cs.c cx)), PV.list (en1 IntKind.u32 (Ck.pl (Cs.c cx))) Tail.no, PV.list (en1 IntKind.u32 (Ck.ys (Cs.c cx))) Tail.no, PV.int IntKind.i64 (Ck.un (Cs.c cx))], Ob.cells (List.flatten (List.map u1 l) ++ J)] [Ob.cells [PV.int IntKind.u32 (Ck.id (Cs.c cx_2)), PV.list (en1 IntKind.u32 (Ck.pl (Cs.c cx_2))) Tail.no, PV.list (en1 IntKind.u32 (Ck.ys (Cs.c cx_2))) Tail.no, PV.int IntKind.i64 (Ck.un (Cs.c cx_2))], Ob.cells (List.flatten (List.map u1 ns) ++ J_2)] ∧ ∀ (l : List Int) (k : Nat), Midm ns l cx_2 k (List.length ns) → (0 ≤ (↑k : Int) ∧ (↑k : Int) ≤ (↑(List.length ns) : Int) ∧ (↑(List.length ns) : Int) ≤ (↑cap_2 : Int) ∧ (↑cap_2 : Int) ≤ (↑cap_2 : Int)) ∧ (if Int.toNat (↑cap_2 : Int) = Int.toNat (↑k : Int) then 0 else 0 + Int.toNat (↑k : Int) * 1) + (Int.toNat (↑(List.length ns) : Int) - Int.toNat (↑k : Int)) * 1 ≤ List.length (List.flatten (List.map u1 l) ++ J_2) ∧ (iI 0 ≤ 0 ∧ 0 ≤ (↑k : Int) ∧ (↑k : Int) ≤ (↑cap_2 : Int) ∧ (↑cap_2 : Int) ≤ (↑cap_2 : Int)) ∧ K (PV.arr 1 (if Int.toNat (↑cap_2 : Int) = 0 then 0 else 0) (Int.toNat (↑k : Int) - 0) (Int.toNat (↑cap_2 : Int) - 0)) [Ob.cells [PV.int IntKind.u32 (Ck.id (Cs.c cx_2)), PV.list (en1 IntKind.u32 (Ck.pl (Cs.c cx_2))) Tail.no, PV.list (en1 IntKind.u32 (Ck.ys (Cs.c cx_2))) Tail.no, PV.int IntKind.i64 (Ck.un (Cs.c cx_2))], Ob.cells (over (List.flatten (List.map u1 l) ++ J_2) (if Int.toNat (↑cap_2 : Int) = Int.toNat (↑k : Int) then 0 else 0 + Int.toNat (↑k : Int) * 1) (List.flatten (List.replicate (Int.toNat (↑(List.length ns) : Int) - Int.toNat (↑k : Int)) [PV.int IntKind.u32 0])))])) = wpc br Try.prog gl TDFm [([1, 1, 1, 0, 1, 0], dlm_l)] (fun _ => 0) (bodyOf Try.f57) [] (env0 [.arr 1 0 l.length cap, .fn 58 [.ptr 0 0]]) [.cells cx.c.cells, .cells ((l.map u1).flatten ++ J)] (resQ Try.prog Try.f57.results.toList K) := by kernel_rfl
theorem dlm1_vc (cx : Cs) (l : List Int) (J : List PV) (cap : Nat)  (K : PV → Heap → Prop) (h : ∃ (cx_1 : Cs), ∃ (l_1 : List Int), ∃ (J_1 : List PV), ∃ (cap_1 : Nat), SlIs [PV.arr 1 0 (List.length l) cap, PV.fn 58 [PV.ptr 0 0]] [PV.arr 1 0 (List.length l_1) cap_1, PV.fn 58 [PV.ptr 0 0]] ∧ HpIs [Ob.cells [PV.int IntKind.u32 (Ck.id (Cs.c cx)), PV.list (en1 IntKind.u32 (Ck.pl (Cs.c cx))) Tail.no, PV.list (en1 IntKind.u32 (Ck.ys (Cs.c cx))) Tail.no, PV.int IntKind.i64 (Ck.un (Cs.c cx))], Ob.cells (List.flatten (List.map u1 l) ++ J)] [Ob.cells [PV.int IntKind.u32 (Ck.id (Cs.c cx_1)), PV.list (en1 IntKind.u32 (Ck.pl (Cs.c cx_1))) Tail.no, PV.list (en1 IntKind.u32 (Ck.ys (Cs.c cx_1))) Tail.no, PV.int IntKind.i64 (Ck.un (Cs.c cx_1))], Ob.cells (List.flatten (List.map u1 l_1) ++ J_1)] ∧ List.length l_1 ≤ 1000000 ∧ br ((if List.findIdx (memB (Ck.ys (Cs.c cx_1))) l_1 < List.length l_1 then (↑(List.findIdx (memB (Ck.ys (Cs.c cx_1))) l_1) : Int) else -1) == -1) (K (PV.arr 1 0 (List.length l) cap) [Ob.cells [PV.int IntKind.u32 (Ck.id (Cs.c cx)), PV.list (en1 IntKind.u32 (Ck.pl (Cs.c cx))) Tail.no, PV.list (en1 IntKind.u32 (Ck.ys (Cs.c cx))) Tail.no, PV.int IntKind.i64 (Ck.un (Cs.c cx))], Ob.cells (List.flatten (List.map u1 l) ++ J)]) (∃ (cx_2 : Cs), ∃ (ns : List Int), ∃ (J_2 : List PV), ∃ (cap_2 : Nat), ∃ (i : Nat), List.length ns ≤ 1000000 ∧ Midm ns ns cx_2 i (i + 1) ∧ (∀ (y : PV), y ∈ J_2 → Low 2 y) ∧ (∀ (y : PV), y ∈ [PV.int IntKind.u32 (Ck.id (Cs.c cx_2)), PV.list (en1 IntKind.u32 (Ck.pl (Cs.c cx_2))) Tail.no, PV.list (en1 IntKind.u32 (Ck.ys (Cs.c cx_2))) Tail.no, PV.int IntKind.i64 (Ck.un (Cs.c cx_2))] → Low 2 y) ∧ SlIs [PV.arr 1 0 (List.length l) cap, PV.fn 58 [PV.ptr 0 0], PV.int IntKind.i64 (if List.findIdx (memB (Ck.ys (Cs.c cx_1))) l_1 < List.length l_1 then (↑(List.findIdx (memB (Ck.ys (Cs.c cx_1))) l_1) : Int) else -1), PV.int IntKind.i64 (wI ((if List.findIdx (memB (Ck.ys (Cs.c cx_1))) l_1 < List.length l_1 then (↑(List.findIdx (memB (Ck.ys (Cs.c cx_1))) l_1) : Int) else -1) + 1))] [PV.arr 1 0 (List.length ns) cap_2, PV.fn 58 [PV.ptr 0 0], PV.int IntKind.i64 (↑i : Int), PV.int IntKind.i64 (↑(i + 1) : Int)] ∧ HpIs [Ob.cells [PV.int IntKind.u32 (Ck.id (Cs.c cx)), PV.list (en1 IntKind.u32 (Ck.pl (Cs.c cx))) Tail.no, PV.list (en1 IntKind.u32 (Ck.ys (Cs.c cx))) Tail.no, PV.int IntKind.i64 (Ck.un (Cs.c cx))], Ob.cells (List.flatten (List.map u1 l) ++ J)] [Ob.cells [PV.int IntKind.u32 (Ck.id (Cs.c cx_2)), PV.list (en1 IntKind.u32 (Ck.pl (Cs.c cx_2))) Tail.no, PV.list (en1 IntKind.u32 (Ck.ys (Cs.c cx_2))) Tail.no, PV.int IntKind.i64 (Ck.un (Cs.c cx_2))], Ob.cells (List.flatten (List.map u1 ns) ++ J_2)] ∧ ∀ (l : List Int) (k : Nat), Midm ns l cx_2 k (List.length ns) → (0 ≤ (↑k : Int) ∧ (↑k : Int) ≤ (↑(List.length ns) : Int) ∧ (↑(List.length ns) : Int) ≤ (↑cap_2 : Int) ∧ (↑cap_2 : Int) ≤ (↑cap_2 : Int)) ∧ (if Int.toNat (↑cap_2 : Int) = Int.toNat (↑k : Int) then 0 else 0 + Int.toNat (↑k : Int) * 1) + (Int.toNat (↑(List.length ns) : Int) - Int.toNat (↑k : Int)) * 1 ≤ List.length (List.flatten (List.map u1 l) ++ J_2) ∧ (iI 0 ≤ 0 ∧ 0 ≤ (↑k : Int) ∧ (↑k : Int) ≤ (↑cap_2 : Int) ∧ (↑cap_2 : Int) ≤ (↑cap_2 : Int)) ∧ K (PV.arr 1 (if Int.toNat (↑cap_2 : Int) = 0 then 0 else 0) (Int.toNat (↑k : Int) - 0) (Int.toNat (↑cap_2 : Int) - 0)) [Ob.cells [PV.int IntKind.u32 (Ck.id (Cs.c cx_2)), PV.list (en1 IntKind.u32 (Ck.pl (Cs.c cx_2))) Tail.no, PV.list (en1 IntKind.u32 (Ck.ys (Cs.c cx_2))) Tail.no, PV.int IntKind.i64 (Ck.un (Cs.c cx_2))], Ob.cells (over (List.flatten (List.map u1 l) ++ J_2) (if Int.toNat (↑cap_2 : Int) = Int.toNat (↑k : Int) then 0 else 0 + Int.toNat (↑k : Int) * 1) (List.flatten (List.replicate (Int.toNat (↑(List.length ns) : Int) - Int.toNat (↑k : Int)) [PV.int IntKind.u32 0])))])) : ACalls Try.prog gl 57 [.arr 1 0 l.length cap, .fn 58 [.ptr 0 0]] [.cells cx.c.cells, .cells ((l.map u1).flatten ++ J)] K :=
  acalls_of_wpc2 (T := TDFm) (L := [([1, 1, 1, 0, 1, 0], dlm_l)]) (fun _ => 0) Try.func57 (by kernel_rfl) (by kernel_rfl) (by kernel_rfl) (TDFm_ok) (.cons (sub_of (by kernel_rfl)) dlm_l_ok (.nil _ _ _ _ _)) (holds_of_eq (dlm1_red cx l J cap K) h)
theorem inm_red (cx : Cs) (R : Ex → List PV → Heap → Prop) : (R (Ex.exit 0) [PV.list [] Tail.no, PV.fn 58 [PV.ptr 0 0], PV.int IntKind.i64 0, PV.int IntKind.i64 0, PV.int IntKind.i64 0] [Ob.cells [PV.int IntKind.u32 (Ck.id (Cs.c cx)), PV.list (en1 IntKind.u32 (Ck.pl (Cs.c cx))) Tail.no, PV.list (en1 IntKind.u32 (Ck.ys (Cs.c cx))) Tail.no, PV.int IntKind.i64 (Ck.un (Cs.c cx))]]) = wpc br Try.prog gl TM0 [] (fun _ => 0) (subOf [1, 0, 1, 0] (bodyOf Try.f81)) [] (envS [0, 1, 4, 7, 8] [.list [] .no, .fn 58 [.ptr 0 0], .int .i64 0, .int .i64 0, .int .i64 0]) [.cells cx.c.cells] (fun ex e H => R ex (List.map e [0, 1, 4, 7, 8]) H) := by kernel_rfl
theorem inm_vc (cx : Cs) (R : Ex → List PV → Heap → Prop) (h : R (Ex.exit 0) [PV.list [] Tail.no, PV.fn 58 [PV.ptr 0 0], PV.int IntKind.i64 0, PV.int IntKind.i64 0, PV.int IntKind.i64 0] [Ob.cells [PV.int IntKind.u32 (Ck.id (Cs.c cx)), PV.list (en1 IntKind.u32 (Ck.pl (Cs.c cx))) Tail.no, PV.list (en1 IntKind.u32 (Ck.ys (Cs.c cx))) Tail.no, PV.int IntKind.i64 (Ck.un (Cs.c cx))]]) : Holds (wpc br Try.prog gl TM0 [] (fun _ => 0) (subOf [1, 0, 1, 0] (bodyOf Try.f81)) [] (envS [0, 1, 4, 7, 8] [.list [] .no, .fn 58 [.ptr 0 0], .int .i64 0, .int .i64 0, .int .i64 0]) [.cells cx.c.cells] (fun ex e H => R ex (List.map e [0, 1, 4, 7, 8]) H)) := holds_of_eq (inm_red cx R) h
def inm_l : LSp := fun e H Q => ∃ (cx : Cs), SlIs (List.map e [0, 1, 4, 7, 8]) [.list [] .no, .fn 58 [.ptr 0 0], .int .i64 0, .int .i64 0, .int .i64 0] ∧ HpIs H [.cells cx.c.cells] ∧ Q (.exit 0) (envS [0, 1, 4, 7, 8] [.list [] .no, .fn 58 [.ptr 0 0], .int .i64 0, .int .i64 0, .int .i64 0]) [.cells cx.c.cells]
theorem inm_l_ok : ∀ e H Q, inm_l e H Q → AW Try.prog gl Try.f81.ntmps (.loop (subOf [1, 0, 1, 0] (bodyOf Try.f81))) Q e H := by
  rintro e H Q ⟨cx, he, hH, hQ⟩
  refine aw_loop4 (hn := fun _ => 0) gl_low TM0_ok (.nil _ _ _ _ _) (σ := Unit) [0, 1, 4, 7, 8] (fun _ => True) (fun _ => [.list [] .no, .fn 58 [.ptr 0 0], .int .i64 0, .int .i64 0, .int .i64 0]) (fun _ => [.cells cx.c.cells]) (fun _ => 0) () trivial he hH ?_
  intro _ _
  exact inm_vc cx _ hQ
theorem inm1_red (cx : Cs) (K : PV → Heap → Prop) : (∃ (cx_1 : Cs), SlIs [PV.list [] Tail.no, PV.fn 58 [PV.ptr 0 0], PV.int IntKind.i64 0, PV.int IntKind.i64 0, PV.int IntKind.i64 0] [PV.list [] Tail.no, PV.fn 58 [PV.ptr 0 0], PV.int IntKind.i64 0, PV.int IntKind.i64 0, PV.int IntKind.i64 0] ∧ HpIs [Ob.cells [PV.int IntKind.u32 (Ck.id (Cs.c cx)), PV.list (en1 IntKind.u32 (Ck.pl (Cs.c cx))) Tail.no, PV.list (en1 IntKind.u32 (Ck.ys (Cs.c cx))) Tail.no, PV.int IntKind.i64 (Ck.un (Cs.c cx))]] [Ob.cells [PV.int IntKind.u32 (Ck.id (Cs.c cx_1)), PV.list (en1 IntKind.u32 (Ck.pl (Cs.c cx_1))) Tail.no, PV.list (en1 IntKind.u32 (Ck.ys (Cs.c cx_1))) Tail.no, PV.int IntKind.i64 (Ck.un (Cs.c cx_1))]] ∧ K (PV.int IntKind.i64 (-1)) [Ob.cells [PV.int IntKind.u32 (Ck.id (Cs.c cx_1)), PV.list (en1 IntKind.u32 (Ck.pl (Cs.c cx_1))) Tail.no, PV.list (en1 IntKind.u32 (Ck.ys (Cs.c cx_1))) Tail.no, PV.int IntKind.i64 (Ck.un (Cs.c cx_1))]]) = wpc br Try.prog gl TM0 [([1, 0, 1, 0], inm_l)] (fun _ => 0) (bodyOf Try.f81) [] (env0 [.list [] .no, .fn 58 [.ptr 0 0]]) [.cells cx.c.cells] (resQ Try.prog Try.f81.results.toList K) := by kernel_rfl
theorem inm1_vc (cx : Cs)  (K : PV → Heap → Prop) (h : ∃ (cx_1 : Cs), SlIs [PV.list [] Tail.no, PV.fn 58 [PV.ptr 0 0], PV.int IntKind.i64 0, PV.int IntKind.i64 0, PV.int IntKind.i64 0] [PV.list [] Tail.no, PV.fn 58 [PV.ptr 0 0], PV.int IntKind.i64 0, PV.int IntKind.i64 0, PV.int IntKind.i64 0] ∧ HpIs [Ob.cells [PV.int IntKind.u32 (Ck.id (Cs.c cx)), PV.list (en1 IntKind.u32 (Ck.pl (Cs.c cx))) Tail.no, PV.list (en1 IntKind.u32 (Ck.ys (Cs.c cx))) Tail.no, PV.int IntKind.i64 (Ck.un (Cs.c cx))]] [Ob.cells [PV.int IntKind.u32 (Ck.id (Cs.c cx_1)), PV.list (en1 IntKind.u32 (Ck.pl (Cs.c cx_1))) Tail.no, PV.list (en1 IntKind.u32 (Ck.ys (Cs.c cx_1))) Tail.no, PV.int IntKind.i64 (Ck.un (Cs.c cx_1))]] ∧ K (PV.int IntKind.i64 (-1)) [Ob.cells [PV.int IntKind.u32 (Ck.id (Cs.c cx_1)), PV.list (en1 IntKind.u32 (Ck.pl (Cs.c cx_1))) Tail.no, PV.list (en1 IntKind.u32 (Ck.ys (Cs.c cx_1))) Tail.no, PV.int IntKind.i64 (Ck.un (Cs.c cx_1))]]) : ACalls Try.prog gl 81 [.list [] .no, .fn 58 [.ptr 0 0]] [.cells cx.c.cells] K :=
  acalls_of_wpc2 (T := TM0) (L := [([1, 0, 1, 0], inm_l)]) (fun _ => 0) Try.func81 (by kernel_rfl) (by kernel_rfl) (by kernel_rfl) (TM0_ok) (.cons (sub_of (by kernel_rfl)) inm_l_ok (.nil _ _ _ _ _)) (holds_of_eq (inm1_red cx K) h)
def inm_s (args : List PV) (H : Heap) (K : PV → Prop) : Prop := ∃ (cx : Cs), SlIs args [.list [] .no, .fn 58 [.ptr 0 0]] ∧ HpIs H [.cells cx.c.cells] ∧ K (.int .i64 (-1))
theorem inm_ok : SpOk Try.prog gl 81 (.read inm_s) := by
  rintro args H K ⟨cx, he, hH, hk⟩
  have he : args = _ := he
  have hH : H = _ := hH
  subst he
  subst hH
  exact ⟨_, inm1_vc cx _ ⟨cx, rfl, rfl, rfl, rfl⟩, hk⟩
def TINm : Tab := (81, .read inm_s) :: TM0
theorem TINm_ok : TabOk Try.prog gl TINm := .cons inm_ok TM0_ok
theorem dnm1_red (cx : Cs) (K : PV → Heap → Prop) : (∃ (cx_1 : Cs), SlIs [PV.list [] Tail.no, PV.fn 58 [PV.ptr 0 0]] [PV.list [] Tail.no, PV.fn 58 [PV.ptr 0 0]] ∧ HpIs [Ob.cells [PV.int IntKind.u32 (Ck.id (Cs.c cx)), PV.list (en1 IntKind.u32 (Ck.pl (Cs.c cx))) Tail.no, PV.list (en1 IntKind.u32 (Ck.ys (Cs.c cx))) Tail.no, PV.int IntKind.i64 (Ck.un (Cs.c cx))]] [Ob.cells [PV.int IntKind.u32 (Ck.id (Cs.c cx_1)), PV.list (en1 IntKind.u32 (Ck.pl (Cs.c cx_1))) Tail.no, PV.list (en1 IntKind.u32 (Ck.ys (Cs.c cx_1))) Tail.no, PV.int IntKind.i64 (Ck.un (Cs.c cx_1))]] ∧ K (PV.list [] Tail.no) [Ob.cells [PV.int IntKind.u32 (Ck.id (Cs.c cx)), PV.list (en1 IntKind.u32 (Ck.pl (Cs.c cx))) Tail.no, PV.list (en1 IntKind.u32 (Ck.ys (Cs.c cx))) Tail.no, PV.int IntKind.i64 (Ck.un (Cs.c cx))]]) = wpc br Try.prog gl TINm [([1, 1, 1, 0, 1, 0], dlm_l)] (fun _ => 0) (bodyOf Try.f57) [] (env0 [.list [] .no, .fn 58 [.ptr 0 0]]) [.cells cx.c.cells] (resQ Try.prog Try.f57.results.toList K) := by kernel_rfl
theorem dnm1_vc (cx : Cs)  (K : PV → Heap → Prop) (h : ∃ (cx_1 : Cs), SlIs [PV.list [] Tail.no, PV.fn 58 [PV.ptr 0 0]] [PV.list [] Tail.no, PV.fn 58 [PV.ptr 0 0]] ∧ HpIs [Ob.cells [PV.int IntKind.u32 (Ck.id (Cs.c cx)), PV.list (en1 IntKind.u32 (Ck.pl (Cs.c cx))) Tail.no, PV.list (en1 IntKind.u32 (Ck.ys (Cs.c cx))) Tail.no, PV.int IntKind.i64 (Ck.un (Cs.c cx))]] [Ob.cells [PV.int IntKind.u32 (Ck.id (Cs.c cx_1)), PV.list (en1 IntKind.u32 (Ck.pl (Cs.c cx_1))) Tail.no, PV.list (en1 IntKind.u32 (Ck.ys (Cs.c cx_1))) Tail.no, PV.int IntKind.i64 (Ck.un (Cs.c cx_1))]] ∧ K (PV.list [] Tail.no) [Ob.cells [PV.int IntKind.u32 (Ck.id (Cs.c cx)), PV.list (en1 IntKind.u32 (Ck.pl (Cs.c cx))) Tail.no, PV.list (en1 IntKind.u32 (Ck.ys (Cs.c cx))) Tail.no, PV.int IntKind.i64 (Ck.un (Cs.c cx))]]) : ACalls Try.prog gl 57 [.list [] .no, .fn 58 [.ptr 0 0]] [.cells cx.c.cells] K :=
  acalls_of_wpc2 (T := TINm) (L := [([1, 1, 1, 0, 1, 0], dlm_l)]) (fun _ => 0) Try.func57 (by kernel_rfl) (by kernel_rfl) (by kernel_rfl) (TINm_ok) (.cons (sub_of (by kernel_rfl)) dlm_l_ok (.nil _ _ _ _ _)) (holds_of_eq (dnm1_red cx K) h)
theorem fsplit {p : Int → Bool} : ∀ (l : List Int), (l.findIdx p < l.length → l.take (l.findIdx p) = (l.take (l.findIdx p + 1)).filter (fun v => !p v)) ∧ (l.findIdx p = l.length → l.filter (fun v => !p v) = l)
  | [] => ⟨fun h => absurd h (by simp), fun _ => rfl⟩
  | a :: l => by
    obtain ⟨h1, h2⟩ := fsplit l
    by_cases c : p a = true
    · have e : (a :: l).findIdx p = 0 := by rw [List.findIdx_cons, c]; rfl
      rw [e]
      exact ⟨fun _ => by simp [c], fun h => by simp at h⟩
    · have c' : p a = false := by simpa using c
      have e : (a :: l).findIdx p = l.findIdx p + 1 := by rw [List.findIdx_cons, c']; rfl
      rw [e]
      refine ⟨fun h => ?_, fun h => ?_⟩
      · rw [List.take_succ_cons, List.take_succ_cons, List.filter_cons_of_pos (by simp [c']), ← h1 (by simpa using h)]
      · rw [List.filter_cons_of_pos (by simp [c']), h2 (by simpa using h)]
theorem zfill {l : List Int} {J : List PV} {k n : Nat} (hn : l.length = n) (hk : k ≤ n) : over ((l.map u1).flatten ++ J) k (List.flatten (List.replicate (n - k) [PV.int .u32 0])) = ((l.take k).map u1).flatten ++ ((List.flatten (List.replicate (n - k) [PV.int .u32 0])) ++ J) := by
  have hz := (zeros_u32 (n - k)).len
  have e1 : (l.map u1).flatten ++ J = ((l.take k).map u1).flatten ++ ((l.drop k).map u1).flatten ++ J := by rw [← rows_parts]
  rw [over_mid e1 (by rw [flat_u1, List.length_take]; omega) (by rw [flat_u1, List.length_drop, hz]; omega), List.append_assoc]
def delm_s (args : List PV) (H : Heap) (K : PV → Heap → Prop) : Prop :=
  (∃ (cx : Cs) (l : List Int) (J : List PV) (cap : Nat), SlIs args [.arr 1 0 l.length cap, .fn 58 [.ptr 0 0]] ∧ HpIs H [.cells cx.c.cells, .cells ((l.map u1).flatten ++ J)] ∧ l.length ≤ 1000000 ∧ l.length ≤ cap ∧ Room J (cap - l.length) ∧ (∀ y ∈ (cx.c.cells : List PV), Low 2 y) ∧
    ∀ (J' : List PV), Room J' (cap - (l.filter (fun v => !(memB cx.c.ys) v)).length) → K (.arr 1 0 (l.filter (fun v => !(memB cx.c.ys) v)).length cap) [.cells cx.c.cells, .cells (((l.filter (fun v => !(memB cx.c.ys) v)).map u1).flatten ++ J')]) ∨
  (∃ (cx : Cs), SlIs args [.list [] .no, .fn 58 [.ptr 0 0]] ∧ HpIs H [.cells cx.c.cells] ∧ K (.list [] .no) [.cells cx.c.cells])
theorem delm_ok : SpOk Try.prog gl 57 (.heap delm_s) := by
  rintro args H K (⟨cx, l, J, cap, he, hH, hl, hc, hJ, hbx, hk⟩ | ⟨cx, he, hH, hk⟩)
  · have he : args = _ := he
    have hH : H = _ := hH
    subst he
    subst hH
    obtain ⟨s1, s2⟩ := fsplit (p := (memB cx.c.ys)) l
    have hfl : l.findIdx (memB cx.c.ys) ≤ l.length := List.findIdx_le_length
    refine dlm1_vc cx l J cap K ⟨cx, l, J, cap, rfl, rfl, hl, ?_⟩
    rw [br_if]
    by_cases h : l.findIdx (memB cx.c.ys) < l.length
    · rw [if_pos h, if_neg (by rw [beq_iff_eq]; omega)]
      refine ⟨cx, l, J, cap, l.findIdx (memB cx.c.ys), hl, ⟨rfl, s1 h, rfl, by omega, h⟩, fun y hy => (hJ.low y hy).up, hbx, ?_, rfl, fun l' k mid => ?_⟩
      · show _ = _
        rw [wI_succ h (by omega)]
      · have hlen := mid.len
        have hle := mid.le
        have hkept := mid.kept
        rw [List.take_length] at hkept
        have hnum := mid.num
        rw [List.take_length] at hnum
        simp only [toNat_nat, Nat.sub_zero, Nat.zero_add, Nat.mul_one, ite_self]
        have hif : (if cap = k then 0 else k) + (l.length - k) ≤ ((l'.map u1).flatten ++ J).length := by
          rw [List.length_append, flat_u1, hJ.len]; split <;> omega
        have hov : over ((l'.map u1).flatten ++ J) (if cap = k then 0 else k) (List.flatten (List.replicate (l.length - k) [PV.int .u32 0])) = ((l'.take k).map u1).flatten ++ ((List.flatten (List.replicate (l.length - k) [PV.int .u32 0])) ++ J) := by
          split
          · have e : l.length - k = 0 := by omega
            rw [e, show List.flatten (List.replicate 0 [PV.int IntKind.u32 0]) = [] from rfl, over_nil, List.take_of_length_le (by omega), List.nil_append]
          · exact zfill hlen hle
        refine ⟨⟨by omega, by omega, by omega, by omega⟩, hif, ⟨by decide, by omega, by omega, by omega⟩, ?_⟩
        rw [hov, hkept, hnum]
        exact hk _ (((zeros_u32 _).app hJ).cast (by omega))
    · rw [if_neg h, if_pos (by rfl)]
      have e := s2 (by omega)
      rw [e] at hk
      exact hk J hJ
  · have he : args = _ := he
    have hH : H = _ := hH
    subst he
    subst hH
    exact dnm1_vc cx K ⟨cx, rfl, rfl, hk⟩
end Go.Proofs.Ythabdpaipgclpaa
