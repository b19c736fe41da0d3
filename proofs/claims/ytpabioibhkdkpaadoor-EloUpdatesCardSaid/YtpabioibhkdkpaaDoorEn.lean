/-
  The functions of layer 15 and its reference, each by its condition, and the laws over values without memory.
-/
import Derived.Test.YtpabioibhkdkpaaDoorA31
import Derived.Test.YtpabioibhkdkpaaDoorProg
namespace Go.Proofs.YtpabioibhkdkpaaDoor
open Go Go.AM Go.Proofs
def scs : List Int := [500, 1000, 0]
def exps : List Int := [500, 571, 640, 703, 760, 808, 849, 882, 909, 930, 947, 960, 969, 977, 983, 987, 990]
def gl : Glob := fun k => match k with
  | 0 => some [.int .i64 500, .int .i64 571, .int .i64 640, .int .i64 703, .int .i64 760, .int .i64 808, .int .i64 849, .int .i64 882, .int .i64 909, .int .i64 930, .int .i64 947, .int .i64 960, .int .i64 969, .int .i64 977, .int .i64 983, .int .i64 987, .int .i64 990]
  | 1 => some [.int .i64 500, .int .i64 1000, .int .i64 0]
  | _ => none
theorem gl_low : GlobLow gl := by
  intro k cs hk x hx
  unfold gl at hk
  split at hk
  · cases hk; simp at hx; rcases hx with rfl | rfl | rfl | rfl | rfl | rfl | rfl | rfl | rfl | rfl | rfl | rfl | rfl | rfl | rfl | rfl | rfl <;> exact .int _ _
  · cases hk; simp at hx; rcases hx with rfl | rfl | rfl <;> exact .int _ _
  · cases hk
abbrev wI (n : Int) : Int := IntKind.wrap .i64 n
def within (n : Int) : Int := mnI (mxI n 0) 10000
def rating (n : Int) : Int := if n < 0 then 0 else if n > 10000 then 10000 else n
def within_s (args : List PV) (K : PV → Prop) : Prop := match args with
  | [.int .i64 n] => K (.int .i64 (within n))
  | _ => False
theorem within_red (n : Int) (K : PV → Prop) : (K (PV.int IntKind.i64 (mnI (mxI n 0) 10000))) = wpc br Tryd.prog gl [] [] (fun _ => 0) (bodyOf Tryd.f23) [] (env0 [.int .i64 n]) [] (resQ Tryd.prog Tryd.f23.results.toList (fun x _ => K x)) := by kernel_rfl
theorem within_vc (n : Int) (K : PV → Prop) (h : K (PV.int IntKind.i64 (mnI (mxI n 0) 10000))) : ACalls Tryd.prog gl 23 [.int .i64 n] [] (fun x _ => K x) :=
  acalls_of_wpc2 (T := []) (L := []) (fun _ => 0) Tryd.func23 (by kernel_rfl) (by kernel_rfl) (by kernel_rfl) (TabOk.nil _ _) (LOk.nil _ _ _ _ _) (holds_of_eq (within_red n K) h)
theorem within_ok : SpOk Tryd.prog gl 23 (.pure within_s) := by
  intro args K h
  unfold within_s at h
  split at h
  · rename_i n
    refine spure gl_low (by simp [low_int]) (.int _ _) (within_vc n _ ?_) h
    rfl
  · exact h.elim
def rating_s (args : List PV) (K : PV → Prop) : Prop := match args with
  | [.int .i64 n] => K (.int .i64 (rating n))
  | _ => False
theorem rating_red (n : Int) (K : PV → Prop) : (br (decide (n < 0)) (K (PV.int IntKind.i64 0)) (br (decide (n > 10000)) (K (PV.int IntKind.i64 10000)) (K (PV.int IntKind.i64 n)))) = wpc br Tryd.prog gl [] [] (fun _ => 0) (bodyOf Tryd.f24) [] (env0 [.int .i64 n]) [] (resQ Tryd.prog Tryd.f24.results.toList (fun x _ => K x)) := by kernel_rfl
theorem rating_vc (n : Int) (K : PV → Prop) (h : br (decide (n < 0)) (K (PV.int IntKind.i64 0)) (br (decide (n > 10000)) (K (PV.int IntKind.i64 10000)) (K (PV.int IntKind.i64 n)))) : ACalls Tryd.prog gl 24 [.int .i64 n] [] (fun x _ => K x) :=
  acalls_of_wpc2 (T := []) (L := []) (fun _ => 0) Tryd.func24 (by kernel_rfl) (by kernel_rfl) (by kernel_rfl) (TabOk.nil _ _) (LOk.nil _ _ _ _ _) (holds_of_eq (rating_red n K) h)
theorem rating_ok : SpOk Tryd.prog gl 24 (.pure rating_s) := by
  intro args K h
  unfold rating_s at h
  split at h
  · rename_i n
    refine spure gl_low (by simp [low_int]) (.int _ _) (rating_vc n _ ?_) h
    simp only [br_if, decide_eq_true_eq, rating]
    (repeat' split) <;> rfl
  · exact h.elim
def T1 : Tab := [(23, .pure within_s), (24, .pure rating_s)]
theorem T1_ok : TabOk Tryd.prog gl T1 := .cons within_ok (.cons rating_ok (.nil _ _))
-- what is expected
def ex0 (d : Int) : Int := exps.getD (mnI (d / 50) 16).toNat 0
def expd (a b : Int) : Int := if within a < within b then 1000 - ex0 (within b - within a) else ex0 (within a - within b)
theorem within_range (n : Int) : 0 ≤ within n ∧ within n ≤ 10000 := by unfold within mnI mxI; (repeat' split) <;> omega
theorem rating_eq (n : Int) : rating n = within n := by unfold rating within mnI mxI; (repeat' split) <;> omega
theorem within_within (n : Int) : within (within n) = within n := by
  have h := within_range n
  generalize within n = m at *
  unfold within mnI mxI; (repeat' split) <;> omega
theorem exps_range : ∀ (k : Nat), k < 17 → 500 ≤ exps.getD k 0 ∧ exps.getD k 0 ≤ 990 := by decide
theorem ex0_range {d : Int} (h : 0 ≤ d) : 500 ≤ ex0 d ∧ ex0 d ≤ 990 := by
  unfold ex0
  have h2 : 0 ≤ mnI (d / 50) 16 ∧ mnI (d / 50) 16 ≤ 16 := by unfold mnI; split <;> omega
  exact exps_range _ (by omega)
theorem expd_range (a b : Int) : 10 ≤ expd a b ∧ expd a b ≤ 990 := by
  unfold expd
  split
  · have := ex0_range (d := within b - within a) (by omega); omega
  · have := ex0_range (d := within a - within b) (by omega); omega
theorem quo50 {d : Int} (h0 : 0 ≤ d) (h1 : d ≤ 10000) : wI (Int.tdiv (wI d) 50) = d / 50 := by
  have e : wI d = d := wrap_i64 (by omega) (by omega)
  rw [e, Int.tdiv_eq_ediv_of_nonneg h0]
  exact wrap_i64 (by omega) (by omega)
def exp0_s (args : List PV) (K : PV → Prop) : Prop := match args with
  | [.int .i64 a, .int .i64 b] => ¬ within a < within b ∧ K (.int .i64 (expd a b))
  | _ => False
theorem exp0_red (a b : Int) (K : PV → Prop) : (br (decide (within a < within b)) False (br (decide (0 ≤ mnI (wI (Int.tdiv (wI (within a - within b)) 50)) 16) && decide (mnI (wI (Int.tdiv (wI (within a - within b)) 50)) 16 < 17)) (br (true && fitX [CK.int IntKind.i64] 0 (List.drop (Int.toNat (mnI (wI (Int.tdiv (wI (within a - within b)) 50)) 16) * 1) (List.map (PV.int IntKind.i64) exps))) (K (PV.int IntKind.i64 (cI (List.drop (Int.toNat (mnI (wI (Int.tdiv (wI (within a - within b)) 50)) 16) * 1) (List.map (PV.int IntKind.i64) exps)) 0))) False) False)) = wpc br Tryd.prog gl T1 [] (fun _ => 0) (bodyOf Tryd.f10) [] (env0 [.int .i64 a, .int .i64 b]) [] (resQ Tryd.prog Tryd.f10.results.toList (fun x _ => K x)) := by kernel_rfl
theorem exp0_vc (a b : Int) (K : PV → Prop) (h : br (decide (within a < within b)) False (br (decide (0 ≤ mnI (wI (Int.tdiv (wI (within a - within b)) 50)) 16) && decide (mnI (wI (Int.tdiv (wI (within a - within b)) 50)) 16 < 17)) (br (true && fitX [CK.int IntKind.i64] 0 (List.drop (Int.toNat (mnI (wI (Int.tdiv (wI (within a - within b)) 50)) 16) * 1) (List.map (PV.int IntKind.i64) exps))) (K (PV.int IntKind.i64 (cI (List.drop (Int.toNat (mnI (wI (Int.tdiv (wI (within a - within b)) 50)) 16) * 1) (List.map (PV.int IntKind.i64) exps)) 0))) False) False)) : ACalls Tryd.prog gl 10 [.int .i64 a, .int .i64 b] [] (fun x _ => K x) :=
  acalls_of_wpc2 (T := T1) (L := []) (fun _ => 0) Tryd.func10 (by kernel_rfl) (by kernel_rfl) (by kernel_rfl) (T1_ok) (LOk.nil _ _ _ _ _) (holds_of_eq (exp0_red a b K) h)
theorem exp0_ok : SpOk Tryd.prog gl 10 (.pure exp0_s) := by
  intro args K h
  unfold exp0_s at h
  split at h
  · rename_i a b
    obtain ⟨hp, h⟩ := h
    refine spure gl_low (by simp [low_int]) (.int _ _) (exp0_vc a b _ ?_) h
    have h1 := within_range a
    have h2 := within_range b
    have h3 : 0 ≤ mnI ((within a - within b) / 50) 16 ∧ mnI ((within a - within b) / 50) 16 ≤ 16 := by unfold mnI; split <;> omega
    simp only [br_if, decide_eq_true_eq, hp, if_false, quo50 (d := within a - within b) (by omega) (by omega), Nat.mul_one, cI_drop]
    rw [fit_drop _ _ _ (by simp [exps]; omega), if_pos (by simp; omega)]
    simp only [Bool.and_self, if_true, expd, hp, if_false, ex0]
  · exact h.elim
def T1b : Tab := (10, .pure exp0_s) :: T1
theorem T1b_ok : TabOk Tryd.prog gl T1b := .cons exp0_ok T1_ok
def exp_s (args : List PV) (K : PV → Prop) : Prop := match args with
  | [.int .i64 a, .int .i64 b] => K (.int .i64 (expd a b))
  | _ => False
theorem exp1_red (a b : Int) (K : PV → Prop) : (br (decide (within a < within b)) (¬within (within b) < within (within a) ∧ K (PV.int IntKind.i64 (wI (1000 - expd (within b) (within a))))) (br (decide (0 ≤ mnI (wI (Int.tdiv (wI (within a - within b)) 50)) 16) && decide (mnI (wI (Int.tdiv (wI (within a - within b)) 50)) 16 < 17)) (br (true && fitX [CK.int IntKind.i64] 0 (List.drop (Int.toNat (mnI (wI (Int.tdiv (wI (within a - within b)) 50)) 16) * 1) (List.map (PV.int IntKind.i64) exps))) (K (PV.int IntKind.i64 (cI (List.drop (Int.toNat (mnI (wI (Int.tdiv (wI (within a - within b)) 50)) 16) * 1) (List.map (PV.int IntKind.i64) exps)) 0))) False) False)) = wpc br Tryd.prog gl T1b [] (fun _ => 0) (bodyOf Tryd.f10) [] (env0 [.int .i64 a, .int .i64 b]) [] (resQ Tryd.prog Tryd.f10.results.toList (fun x _ => K x)) := by kernel_rfl
theorem exp1_vc (a b : Int) (K : PV → Prop) (h : br (decide (within a < within b)) (¬within (within b) < within (within a) ∧ K (PV.int IntKind.i64 (wI (1000 - expd (within b) (within a))))) (br (decide (0 ≤ mnI (wI (Int.tdiv (wI (within a - within b)) 50)) 16) && decide (mnI (wI (Int.tdiv (wI (within a - within b)) 50)) 16 < 17)) (br (true && fitX [CK.int IntKind.i64] 0 (List.drop (Int.toNat (mnI (wI (Int.tdiv (wI (within a - within b)) 50)) 16) * 1) (List.map (PV.int IntKind.i64) exps))) (K (PV.int IntKind.i64 (cI (List.drop (Int.toNat (mnI (wI (Int.tdiv (wI (within a - within b)) 50)) 16) * 1) (List.map (PV.int IntKind.i64) exps)) 0))) False) False)) : ACalls Tryd.prog gl 10 [.int .i64 a, .int .i64 b] [] (fun x _ => K x) :=
  acalls_of_wpc2 (T := T1b) (L := []) (fun _ => 0) Tryd.func10 (by kernel_rfl) (by kernel_rfl) (by kernel_rfl) (T1b_ok) (LOk.nil _ _ _ _ _) (holds_of_eq (exp1_red a b K) h)
theorem rexp_red (a b : Int) (K : PV → Prop) : (br (decide (wI (rating a - rating b) < 0)) (br (decide (wI (Int.tdiv (wI (0 - wI (rating a - rating b))) 50) > 16)) (br (decide (rating a < rating b)) (InL (en1 IntKind.i64 exps) 1 16 ∧ K (PV.int IntKind.i64 (wI (1000 - 990)))) (InL (en1 IntKind.i64 exps) 1 16 ∧ K (PV.int IntKind.i64 990))) (br (decide (rating a < rating b)) (InL (en1 IntKind.i64 exps) 1 (wI (Int.tdiv (wI (0 - wI (rating a - rating b))) 50)) ∧ br (true && fitX [CK.int IntKind.i64] 0 (List.getD (en1 IntKind.i64 exps) (Int.toNat (wI (Int.tdiv (wI (0 - wI (rating a - rating b))) 50))) [])) (K (PV.int IntKind.i64 (wI (1000 - cI (List.getD (en1 IntKind.i64 exps) (Int.toNat (wI (Int.tdiv (wI (0 - wI (rating a - rating b))) 50))) []) 0)))) False) (InL (en1 IntKind.i64 exps) 1 (wI (Int.tdiv (wI (0 - wI (rating a - rating b))) 50)) ∧ br (true && fitX [CK.int IntKind.i64] 0 (List.getD (en1 IntKind.i64 exps) (Int.toNat (wI (Int.tdiv (wI (0 - wI (rating a - rating b))) 50))) [])) (K (PV.int IntKind.i64 (cI (List.getD (en1 IntKind.i64 exps) (Int.toNat (wI (Int.tdiv (wI (0 - wI (rating a - rating b))) 50))) []) 0))) False))) (br (decide (wI (Int.tdiv (wI (rating a - rating b)) 50) > 16)) (br (decide (rating a < rating b)) (InL (en1 IntKind.i64 exps) 1 16 ∧ K (PV.int IntKind.i64 (wI (1000 - 990)))) (InL (en1 IntKind.i64 exps) 1 16 ∧ K (PV.int IntKind.i64 990))) (br (decide (rating a < rating b)) (InL (en1 IntKind.i64 exps) 1 (wI (Int.tdiv (wI (rating a - rating b)) 50)) ∧ br (true && fitX [CK.int IntKind.i64] 0 (List.getD (en1 IntKind.i64 exps) (Int.toNat (wI (Int.tdiv (wI (rating a - rating b)) 50))) [])) (K (PV.int IntKind.i64 (wI (1000 - cI (List.getD (en1 IntKind.i64 exps) (Int.toNat (wI (Int.tdiv (wI (rating a - rating b)) 50))) []) 0)))) False) (InL (en1 IntKind.i64 exps) 1 (wI (Int.tdiv (wI (rating a - rating b)) 50)) ∧ br (true && fitX [CK.int IntKind.i64] 0 (List.getD (en1 IntKind.i64 exps) (Int.toNat (wI (Int.tdiv (wI (rating a - rating b)) 50))) [])) (K (PV.int IntKind.i64 (cI (List.getD (en1 IntKind.i64 exps) (Int.toNat (wI (Int.tdiv (wI (rating a - rating b)) 50))) []) 0))) False)))) = wpc br Tryd.prog gl T1 [] (fun _ => 0) (bodyOf Tryd.f11) [] (env0 [.int .i64 a, .int .i64 b]) [] (resQ Tryd.prog Tryd.f11.results.toList (fun x _ => K x)) := by kernel_rfl
theorem rexp_vc (a b : Int) (K : PV → Prop) (h : br (decide (wI (rating a - rating b) < 0)) (br (decide (wI (Int.tdiv (wI (0 - wI (rating a - rating b))) 50) > 16)) (br (decide (rating a < rating b)) (InL (en1 IntKind.i64 exps) 1 16 ∧ K (PV.int IntKind.i64 (wI (1000 - 990)))) (InL (en1 IntKind.i64 exps) 1 16 ∧ K (PV.int IntKind.i64 990))) (br (decide (rating a < rating b)) (InL (en1 IntKind.i64 exps) 1 (wI (Int.tdiv (wI (0 - wI (rating a - rating b))) 50)) ∧ br (true && fitX [CK.int IntKind.i64] 0 (List.getD (en1 IntKind.i64 exps) (Int.toNat (wI (Int.tdiv (wI (0 - wI (rating a - rating b))) 50))) [])) (K (PV.int IntKind.i64 (wI (1000 - cI (List.getD (en1 IntKind.i64 exps) (Int.toNat (wI (Int.tdiv (wI (0 - wI (rating a - rating b))) 50))) []) 0)))) False) (InL (en1 IntKind.i64 exps) 1 (wI (Int.tdiv (wI (0 - wI (rating a - rating b))) 50)) ∧ br (true && fitX [CK.int IntKind.i64] 0 (List.getD (en1 IntKind.i64 exps) (Int.toNat (wI (Int.tdiv (wI (0 - wI (rating a - rating b))) 50))) [])) (K (PV.int IntKind.i64 (cI (List.getD (en1 IntKind.i64 exps) (Int.toNat (wI (Int.tdiv (wI (0 - wI (rating a - rating b))) 50))) []) 0))) False))) (br (decide (wI (Int.tdiv (wI (rating a - rating b)) 50) > 16)) (br (decide (rating a < rating b)) (InL (en1 IntKind.i64 exps) 1 16 ∧ K (PV.int IntKind.i64 (wI (1000 - 990)))) (InL (en1 IntKind.i64 exps) 1 16 ∧ K (PV.int IntKind.i64 990))) (br (decide (rating a < rating b)) (InL (en1 IntKind.i64 exps) 1 (wI (Int.tdiv (wI (rating a - rating b)) 50)) ∧ br (true && fitX [CK.int IntKind.i64] 0 (List.getD (en1 IntKind.i64 exps) (Int.toNat (wI (Int.tdiv (wI (rating a - rating b)) 50))) [])) (K (PV.int IntKind.i64 (wI (1000 - cI (List.getD (en1 IntKind.i64 exps) (Int.toNat (wI (Int.tdiv (wI (rating a - rating b)) 50))) []) 0)))) False) (InL (en1 IntKind.i64 exps) 1 (wI (Int.tdiv (wI (rating a - rating b)) 50)) ∧ br (true && fitX [CK.int IntKind.i64] 0 (List.getD (en1 IntKind.i64 exps) (Int.toNat (wI (Int.tdiv (wI (rating a - rating b)) 50))) [])) (K (PV.int IntKind.i64 (cI (List.getD (en1 IntKind.i64 exps) (Int.toNat (wI (Int.tdiv (wI (rating a - rating b)) 50))) []) 0))) False)))) : ACalls Tryd.prog gl 11 [.int .i64 a, .int .i64 b] [] (fun x _ => K x) :=
  acalls_of_wpc2 (T := T1) (L := []) (fun _ => 0) Tryd.func11 (by kernel_rfl) (by kernel_rfl) (by kernel_rfl) (T1_ok) (LOk.nil _ _ _ _ _) (holds_of_eq (rexp_red a b K) h)
theorem exp_ok : SpOk Tryd.prog gl 10 (.pure exp_s) := by
  intro args K h
  unfold exp_s at h
  split at h
  · rename_i a b
    refine spure gl_low (by simp [low_int]) (.int _ _) (exp1_vc a b _ ?_) h
    have h1 := within_range a
    have h2 := within_range b
    simp only [br_if, decide_eq_true_eq, within_within]
    by_cases hp : within a < within b
    · simp only [hp, if_true]
      have h4 := ex0_range (d := within b - within a) (by omega)
      have e2 : expd (within b) (within a) = ex0 (within b - within a) := by unfold expd; rw [within_within, within_within, if_neg (by omega)]
      have e1 : expd a b = 1000 - ex0 (within b - within a) := by unfold expd; rw [if_pos hp]
      rw [e2, e1]
      exact ⟨by omega, congrArg (PV.int _) (wrap_i64 (by omega) (by omega))⟩
    · have h3 : 0 ≤ mnI ((within a - within b) / 50) 16 ∧ mnI ((within a - within b) / 50) 16 ≤ 16 := by unfold mnI; split <;> omega
      simp only [hp, if_false, quo50 (d := within a - within b) (by omega) (by omega), Nat.mul_one, cI_drop]
      rw [fit_drop _ _ _ (by simp [exps]; omega), if_pos (by simp; omega)]
      simp only [Bool.and_self, if_true, expd, hp, if_false, ex0]
  · exact h.elim
theorem rexp_ok : SpOk Tryd.prog gl 11 (.pure exp_s) := by
  intro args K h
  unfold exp_s at h
  split at h
  · rename_i a b
    refine spure gl_low (by simp [low_int]) (.int _ _) (rexp_vc a b _ ?_) h
    have h1 := within_range a
    have h2 := within_range b
    simp only [br_if, decide_eq_true_eq, rating_eq]
    have e0 : ∀ d : Int, -10000 ≤ d → d ≤ 10000 → wI d = d := fun d h h' => wrap_i64 (by omega) (by omega)
    have e9 : wI (1000 - 990) = 10 := rfl
    by_cases hp : within a < within b
    · have e1 : wI (within a - within b) = within a - within b := e0 _ (by omega) (by omega)
      have e2 : wI (0 - (within a - within b)) = within b - within a := by rw [e0 _ (by omega) (by omega)]; omega
      have e4 : wI (Int.tdiv (within b - within a) 50) = (within b - within a) / 50 := by
        rw [Int.tdiv_eq_ediv_of_nonneg (by omega)]; exact e0 _ (by omega) (by omega)
      have hx := ex0_range (d := within b - within a) (by omega)
      have e5 : expd a b = 1000 - ex0 (within b - within a) := by unfold expd; rw [if_pos hp]
      simp only [e1, e2, e4, hp, if_true, show within a - within b < 0 by omega, e5, cI_get, e9]
      by_cases hk : (within b - within a) / 50 > 16
      · have e6 : mnI ((within b - within a) / 50) 16 = 16 := by unfold mnI; rw [if_pos (by omega)]
        simp only [hk, if_true, ex0, e6]
        exact ⟨en1_in _ _ _ (by omega) (by simp [exps]), rfl⟩
      · have e6 : mnI ((within b - within a) / 50) 16 = (within b - within a) / 50 := by unfold mnI; rw [if_neg (by omega)]
        simp only [hk, if_false]
        have e7 : ex0 (within b - within a) = exps.getD ((within b - within a) / 50).toNat 0 := by unfold ex0; rw [e6]
        rw [fit_get _ _ _ (by simp [exps]; omega), ← e7]
        exact ⟨en1_in _ _ _ (by omega) (by simp [exps]; omega), by simp only [Bool.and_self, if_true]; rw [e0 _ (by omega) (by omega)]⟩
    · have e1 : wI (within a - within b) = within a - within b := e0 _ (by omega) (by omega)
      have e4 : wI (Int.tdiv (within a - within b) 50) = (within a - within b) / 50 := by
        rw [Int.tdiv_eq_ediv_of_nonneg (by omega)]; exact e0 _ (by omega) (by omega)
      have e5 : expd a b = ex0 (within a - within b) := by unfold expd; rw [if_neg hp]
      simp only [e1, e4, hp, if_false, show ¬ within a - within b < 0 by omega, e5, cI_get]
      by_cases hk : (within a - within b) / 50 > 16
      · have e6 : mnI ((within a - within b) / 50) 16 = 16 := by unfold mnI; rw [if_pos (by omega)]
        simp only [hk, if_true, ex0, e6]
        exact ⟨en1_in _ _ _ (by omega) (by simp [exps]), rfl⟩
      · have e6 : mnI ((within a - within b) / 50) 16 = (within a - within b) / 50 := by unfold mnI; rw [if_neg (by omega)]
        simp only [hk, if_false]
        have e7 : ex0 (within a - within b) = exps.getD ((within a - within b) / 50).toNat 0 := by unfold ex0; rw [e6]
        rw [fit_get _ _ _ (by simp [exps]; omega), ← e7]
        exact ⟨en1_in _ _ _ (by omega) (by simp [exps]; omega), by simp only [Bool.and_self, if_true]⟩
  · exact h.elim
def T2 : Tab := (10, .pure exp_s) :: (11, .pure exp_s) :: T1
theorem T2_ok : TabOk Tryd.prog gl T2 := .cons exp_ok (.cons rexp_ok T1_ok)
-- what is at stake
def q1000 (n : Int) : Int := if n < 0 then -((-n) / 1000) else n / 1000
theorem tdiv_q (n : Int) : n.tdiv 1000 = q1000 n := by
  unfold q1000
  split
  · have h : n = -(-n) := by omega
    rw [h, Int.neg_tdiv, Int.tdiv_eq_ediv_of_nonneg (by omega)]; congr 2; omega
  · rw [Int.tdiv_eq_ediv_of_nonneg (by omega)]
def sc (r : Int) : Int := if r = 0 then 500 else if r = 1 then 1000 else 0
def clm (m : Int) : Int := mnI (mxI m 0) 4
def stk (a b m r : Int) : Int := if r < 0 ∨ r > 2 then 0 else q1000 (32 * clm m * (sc r - expd a b))
theorem clm_cases (m : Int) : clm m = 0 ∨ clm m = 1 ∨ clm m = 2 ∨ clm m = 3 ∨ clm m = 4 := by unfold clm mnI mxI; (repeat' split) <;> omega
theorem w_small {n : Int} (h0 : -9223372036854775808 ≤ n) (h1 : n ≤ 9223372036854775807) : wI n = n := wrap_i64 h0 h1
theorem stk_wrap (m r x : Int) (hx : 10 ≤ x ∧ x ≤ 990) : wI (32 * clm m) = 32 * clm m ∧ wI (sc r - x) = sc r - x ∧ wI (32 * clm m * (sc r - x)) = 32 * clm m * (sc r - x) ∧ -128000 ≤ 32 * clm m * (sc r - x) ∧ 32 * clm m * (sc r - x) ≤ 128000 := by
  have hs : 0 ≤ sc r ∧ sc r ≤ 1000 := by unfold sc; (repeat' split) <;> omega
  have hb : -128000 ≤ 32 * clm m * (sc r - x) ∧ 32 * clm m * (sc r - x) ≤ 128000 := by
    rcases clm_cases m with h | h | h | h | h <;> rw [h] <;> omega
  refine ⟨w_small ?_ ?_, w_small ?_ ?_, w_small ?_ ?_, hb.1, hb.2⟩ <;> rcases clm_cases m with h | h | h | h | h <;> omega
theorem q1000_range {n : Int} (h0 : -128000 ≤ n) (h1 : n ≤ 128000) : -128 ≤ q1000 n ∧ q1000 n ≤ 128 := by unfold q1000; split <;> omega
theorem stk_range (a b m r : Int) : -128 ≤ stk a b m r ∧ stk a b m r ≤ 128 := by
  unfold stk
  split
  · omega
  · obtain ⟨_, _, _, h1, h2⟩ := stk_wrap m r (expd a b) (expd_range a b)
    exact q1000_range h1 h2
def stk_s (args : List PV) (K : PV → Prop) : Prop := match args with
  | [.int .i64 a, .int .i64 b, .int .i64 m, .int .i64 r] => K (.int .i64 (stk a b m r))
  | _ => False
theorem stake_red (a b m r : Int) (K : PV → Prop) : (br (decide (r < 0) == false) (br (decide (r > 2)) (K (PV.int IntKind.i64 0)) (br (decide (0 ≤ r) && decide (r < 3)) (br (true && fitX [CK.int IntKind.i64] 0 (List.drop (Int.toNat r * 1) (List.map (PV.int IntKind.i64) scs))) (K (PV.int IntKind.i64 (wI (Int.tdiv (wI (wI (32 * mnI (mxI m 0) 4) * wI (cI (List.drop (Int.toNat r * 1) (List.map (PV.int IntKind.i64) scs)) 0 - expd a b))) 1000)))) False) False)) (K (PV.int IntKind.i64 0))) = wpc br Tryd.prog gl T2 [] (fun _ => 0) (bodyOf Tryd.f14) [] (env0 [.int .i64 a, .int .i64 b, .int .i64 m, .int .i64 r]) [] (resQ Tryd.prog Tryd.f14.results.toList (fun x _ => K x)) := by kernel_rfl
theorem stake_vc (a b m r : Int) (K : PV → Prop) (h : br (decide (r < 0) == false) (br (decide (r > 2)) (K (PV.int IntKind.i64 0)) (br (decide (0 ≤ r) && decide (r < 3)) (br (true && fitX [CK.int IntKind.i64] 0 (List.drop (Int.toNat r * 1) (List.map (PV.int IntKind.i64) scs))) (K (PV.int IntKind.i64 (wI (Int.tdiv (wI (wI (32 * mnI (mxI m 0) 4) * wI (cI (List.drop (Int.toNat r * 1) (List.map (PV.int IntKind.i64) scs)) 0 - expd a b))) 1000)))) False) False)) (K (PV.int IntKind.i64 0))) : ACalls Tryd.prog gl 14 [.int .i64 a, .int .i64 b, .int .i64 m, .int .i64 r] [] (fun x _ => K x) :=
  acalls_of_wpc2 (T := T2) (L := []) (fun _ => 0) Tryd.func14 (by kernel_rfl) (by kernel_rfl) (by kernel_rfl) (T2_ok) (LOk.nil _ _ _ _ _) (holds_of_eq (stake_red a b m r K) h)
theorem rstake_red (a b m r : Int) (K : PV → Prop) : (br (decide (m < 0)) (br (r == 0) (br (decide (wI (0 * wI (500 - expd a b)) < 0)) (K (PV.int IntKind.i64 (wI (0 - wI (Int.tdiv (wI (0 - wI (0 * wI (500 - expd a b)))) 1000))))) (K (PV.int IntKind.i64 (wI (Int.tdiv (wI (0 * wI (500 - expd a b))) 1000))))) (br (r == 1) (br (decide (wI (0 * wI (1000 - expd a b)) < 0)) (K (PV.int IntKind.i64 (wI (0 - wI (Int.tdiv (wI (0 - wI (0 * wI (1000 - expd a b)))) 1000))))) (K (PV.int IntKind.i64 (wI (Int.tdiv (wI (0 * wI (1000 - expd a b))) 1000))))) (br (r == 2) (br (decide (wI (0 * wI (0 - expd a b)) < 0)) (K (PV.int IntKind.i64 (wI (0 - wI (Int.tdiv (wI (0 - wI (0 * wI (0 - expd a b)))) 1000))))) (K (PV.int IntKind.i64 (wI (Int.tdiv (wI (0 * wI (0 - expd a b))) 1000))))) (K (PV.int IntKind.i64 0))))) (br (decide (m > 4)) (br (r == 0) (br (decide (wI (128 * wI (500 - expd a b)) < 0)) (K (PV.int IntKind.i64 (wI (0 - wI (Int.tdiv (wI (0 - wI (128 * wI (500 - expd a b)))) 1000))))) (K (PV.int IntKind.i64 (wI (Int.tdiv (wI (128 * wI (500 - expd a b))) 1000))))) (br (r == 1) (br (decide (wI (128 * wI (1000 - expd a b)) < 0)) (K (PV.int IntKind.i64 (wI (0 - wI (Int.tdiv (wI (0 - wI (128 * wI (1000 - expd a b)))) 1000))))) (K (PV.int IntKind.i64 (wI (Int.tdiv (wI (128 * wI (1000 - expd a b))) 1000))))) (br (r == 2) (br (decide (wI (128 * wI (0 - expd a b)) < 0)) (K (PV.int IntKind.i64 (wI (0 - wI (Int.tdiv (wI (0 - wI (128 * wI (0 - expd a b)))) 1000))))) (K (PV.int IntKind.i64 (wI (Int.tdiv (wI (128 * wI (0 - expd a b))) 1000))))) (K (PV.int IntKind.i64 0))))) (br (r == 0) (br (decide (wI (wI (32 * m) * wI (500 - expd a b)) < 0)) (K (PV.int IntKind.i64 (wI (0 - wI (Int.tdiv (wI (0 - wI (wI (32 * m) * wI (500 - expd a b)))) 1000))))) (K (PV.int IntKind.i64 (wI (Int.tdiv (wI (wI (32 * m) * wI (500 - expd a b))) 1000))))) (br (r == 1) (br (decide (wI (wI (32 * m) * wI (1000 - expd a b)) < 0)) (K (PV.int IntKind.i64 (wI (0 - wI (Int.tdiv (wI (0 - wI (wI (32 * m) * wI (1000 - expd a b)))) 1000))))) (K (PV.int IntKind.i64 (wI (Int.tdiv (wI (wI (32 * m) * wI (1000 - expd a b))) 1000))))) (br (r == 2) (br (decide (wI (wI (32 * m) * wI (0 - expd a b)) < 0)) (K (PV.int IntKind.i64 (wI (0 - wI (Int.tdiv (wI (0 - wI (wI (32 * m) * wI (0 - expd a b)))) 1000))))) (K (PV.int IntKind.i64 (wI (Int.tdiv (wI (wI (32 * m) * wI (0 - expd a b))) 1000))))) (K (PV.int IntKind.i64 0))))))) = wpc br Tryd.prog gl T2 [] (fun _ => 0) (bodyOf Tryd.f15) [] (env0 [.int .i64 a, .int .i64 b, .int .i64 m, .int .i64 r]) [] (resQ Tryd.prog Tryd.f15.results.toList (fun x _ => K x)) := by kernel_rfl
theorem rstake_vc (a b m r : Int) (K : PV → Prop) (h : br (decide (m < 0)) (br (r == 0) (br (decide (wI (0 * wI (500 - expd a b)) < 0)) (K (PV.int IntKind.i64 (wI (0 - wI (Int.tdiv (wI (0 - wI (0 * wI (500 - expd a b)))) 1000))))) (K (PV.int IntKind.i64 (wI (Int.tdiv (wI (0 * wI (500 - expd a b))) 1000))))) (br (r == 1) (br (decide (wI (0 * wI (1000 - expd a b)) < 0)) (K (PV.int IntKind.i64 (wI (0 - wI (Int.tdiv (wI (0 - wI (0 * wI (1000 - expd a b)))) 1000))))) (K (PV.int IntKind.i64 (wI (Int.tdiv (wI (0 * wI (1000 - expd a b))) 1000))))) (br (r == 2) (br (decide (wI (0 * wI (0 - expd a b)) < 0)) (K (PV.int IntKind.i64 (wI (0 - wI (Int.tdiv (wI (0 - wI (0 * wI (0 - expd a b)))) 1000))))) (K (PV.int IntKind.i64 (wI (Int.tdiv (wI (0 * wI (0 - expd a b))) 1000))))) (K (PV.int IntKind.i64 0))))) (br (decide (m > 4)) (br (r == 0) (br (decide (wI (128 * wI (500 - expd a b)) < 0)) (K (PV.int IntKind.i64 (wI (0 - wI (Int.tdiv (wI (0 - wI (128 * wI (500 - expd a b)))) 1000))))) (K (PV.int IntKind.i64 (wI (Int.tdiv (wI (128 * wI (500 - expd a b))) 1000))))) (br (r == 1) (br (decide (wI (128 * wI (1000 - expd a b)) < 0)) (K (PV.int IntKind.i64 (wI (0 - wI (Int.tdiv (wI (0 - wI (128 * wI (1000 - expd a b)))) 1000))))) (K (PV.int IntKind.i64 (wI (Int.tdiv (wI (128 * wI (1000 - expd a b))) 1000))))) (br (r == 2) (br (decide (wI (128 * wI (0 - expd a b)) < 0)) (K (PV.int IntKind.i64 (wI (0 - wI (Int.tdiv (wI (0 - wI (128 * wI (0 - expd a b)))) 1000))))) (K (PV.int IntKind.i64 (wI (Int.tdiv (wI (128 * wI (0 - expd a b))) 1000))))) (K (PV.int IntKind.i64 0))))) (br (r == 0) (br (decide (wI (wI (32 * m) * wI (500 - expd a b)) < 0)) (K (PV.int IntKind.i64 (wI (0 - wI (Int.tdiv (wI (0 - wI (wI (32 * m) * wI (500 - expd a b)))) 1000))))) (K (PV.int IntKind.i64 (wI (Int.tdiv (wI (wI (32 * m) * wI (500 - expd a b))) 1000))))) (br (r == 1) (br (decide (wI (wI (32 * m) * wI (1000 - expd a b)) < 0)) (K (PV.int IntKind.i64 (wI (0 - wI (Int.tdiv (wI (0 - wI (wI (32 * m) * wI (1000 - expd a b)))) 1000))))) (K (PV.int IntKind.i64 (wI (Int.tdiv (wI (wI (32 * m) * wI (1000 - expd a b))) 1000))))) (br (r == 2) (br (decide (wI (wI (32 * m) * wI (0 - expd a b)) < 0)) (K (PV.int IntKind.i64 (wI (0 - wI (Int.tdiv (wI (0 - wI (wI (32 * m) * wI (0 - expd a b)))) 1000))))) (K (PV.int IntKind.i64 (wI (Int.tdiv (wI (wI (32 * m) * wI (0 - expd a b))) 1000))))) (K (PV.int IntKind.i64 0))))))) : ACalls Tryd.prog gl 15 [.int .i64 a, .int .i64 b, .int .i64 m, .int .i64 r] [] (fun x _ => K x) :=
  acalls_of_wpc2 (T := T2) (L := []) (fun _ => 0) Tryd.func15 (by kernel_rfl) (by kernel_rfl) (by kernel_rfl) (T2_ok) (LOk.nil _ _ _ _ _) (holds_of_eq (rstake_red a b m r K) h)
theorem scs_sc {r : Int} (h0 : 0 ≤ r) (h2 : r ≤ 2) : scs.getD (Int.toNat r) 0 = sc r := by
  have : r = 0 ∨ r = 1 ∨ r = 2 := by omega
  rcases this with rfl | rfl | rfl <;> rfl
theorem stake_ok : SpOk Tryd.prog gl 14 (.pure stk_s) := by
  intro args K h
  unfold stk_s at h
  split at h
  · rename_i a b m r
    refine spure gl_low (by simp [low_int]) (.int _ _) (stake_vc a b m r _ ?_) h
    obtain ⟨e1, e2, e3, h1, h2⟩ := stk_wrap m r (expd a b) (expd_range a b)
    have hq := q1000_range h1 h2
    simp only [br_if, decide_eq_true_eq, Nat.mul_one, cI_drop]
    by_cases c1 : r < 0
    · simp [c1, stk]
    · by_cases c2 : r > 2
      · simp [c1, c2, stk]
      · rw [fit_drop _ _ _ (by simp [scs]; omega), scs_sc (by omega) (by omega)]
        have e4 : mnI (mxI m 0) 4 = clm m := rfl
        rw [e4, e1, e2, e3, tdiv_q, w_small (by omega) (by omega)]
        have e5 : stk a b m r = q1000 (32 * clm m * (sc r - expd a b)) := by unfold stk; rw [if_neg (by omega)]
        simp [c1, c2, e5]; omega
  · exact h.elim
theorem rst_q {n : Int} (h0 : -128000 ≤ n) (h1 : n ≤ 128000) : (n < 0 → wI (0 - wI (Int.tdiv (wI (0 - n)) 1000)) = q1000 n) ∧ (¬ n < 0 → wI (Int.tdiv n 1000) = q1000 n) := by
  have hq := q1000_range h0 h1
  constructor
  · intro h
    rw [w_small (n := 0 - n) (by omega) (by omega), tdiv_q]
    have e : q1000 n = - q1000 (0 - n) := by unfold q1000; rw [if_pos h, if_neg (by omega)]; congr 2; omega
    have hq2 := q1000_range (n := 0 - n) (by omega) (by omega)
    rw [w_small (n := q1000 (0 - n)) (by omega) (by omega), w_small (by omega) (by omega)]; omega
  · intro h; rw [tdiv_q]; exact w_small (by omega) (by omega)
theorem rst_all {mm x s : Int} (hx : 10 ≤ x ∧ x ≤ 990) (hs : 0 ≤ s ∧ s ≤ 1000) (hm : 0 ≤ mm ∧ mm ≤ 4) : wI (32 * mm) = 32 * mm ∧ wI (s - x) = s - x ∧ wI (32 * mm * (s - x)) = 32 * mm * (s - x) ∧ -128000 ≤ 32 * mm * (s - x) ∧ 32 * mm * (s - x) ≤ 128000 := by
  have h : mm = 0 ∨ mm = 1 ∨ mm = 2 ∨ mm = 3 ∨ mm = 4 := by omega
  have hb : -128000 ≤ 32 * mm * (s - x) ∧ 32 * mm * (s - x) ≤ 128000 := by
    rcases h with h | h | h | h | h <;> rw [h] <;> omega
  exact ⟨w_small (by omega) (by omega), w_small (by omega) (by omega), w_small (by omega) (by omega), hb.1, hb.2⟩
theorem rstake_ok : SpOk Tryd.prog gl 15 (.pure stk_s) := by
  intro args K h
  unfold stk_s at h
  split at h
  · rename_i a b m r
    refine spure gl_low (by simp [low_int]) (.int _ _) (rstake_vc a b m r _ ?_) h
    have hx := expd_range a b
    generalize hxx : expd a b = x at *
    have key : ∀ (mm s : Int), 0 ≤ mm ∧ mm ≤ 4 → 0 ≤ s ∧ s ≤ 1000 → mm = clm m → s = sc r → 0 ≤ r ∧ r ≤ 2 → ∀ n, n = 32 * mm * (s - x) →
        (if n < 0 then PV.int IntKind.i64 (wI (0 - wI (Int.tdiv (wI (0 - n)) 1000))) = PV.int IntKind.i64 (stk a b m r) else PV.int IntKind.i64 (wI (Int.tdiv n 1000)) = PV.int IntKind.i64 (stk a b m r)) := by
      rintro mm s hm hs hmm hss hr n rfl
      obtain ⟨_, _, _, g1, g2⟩ := rst_all hx hs hm
      have e5 : stk a b m r = q1000 (32 * mm * (s - x)) := by unfold stk; rw [if_neg (by omega), hxx, hmm, hss]
      rw [e5]
      split
      · rename_i hn; rw [(rst_q g1 g2).1 hn]
      · rename_i hn; rw [(rst_q g1 g2).2 hn]
    have w0 : ∀ s : Int, 0 ≤ s ∧ s ≤ 1000 → wI (s - x) = s - x := fun s hs => w_small (by omega) (by omega)
    have w1 : ∀ s : Int, wI (0 * s) = 0 := fun s => by rw [Int.zero_mul]; rfl
    have w2 : ∀ s : Int, 0 ≤ s ∧ s ≤ 1000 → wI (128 * (s - x)) = 32 * 4 * (s - x) := fun s hs => by rw [w_small (by omega) (by omega)]; omega
    have w5 : wI (0 - x) = 0 - x := w0 0 (by omega)
    simp only [br_if, decide_eq_true_eq, beq_iff_eq, w1, w0 500 (by omega), w0 1000 (by omega), w5, w2 500 (by omega), w2 1000 (by omega), w2 0 (by omega)]
    by_cases c0 : m < 0
    · have hc : clm m = 0 := by unfold clm mnI mxI; (repeat' split) <;> omega
      simp only [c0, if_true]
      by_cases r0 : r = 0
      · subst r0; simp only [if_true]; exact key 0 500 (by omega) (by omega) hc.symm rfl (by omega) 0 (by omega)
      · by_cases r1 : r = 1
        · subst r1; simp only [if_true, show ¬ (1 : Int) = 0 by decide, if_false]; exact key 0 1000 (by omega) (by omega) hc.symm rfl (by omega) 0 (by omega)
        · by_cases r2 : r = 2
          · subst r2; simp only [if_true, show ¬ (2 : Int) = 0 by decide, show ¬ (2 : Int) = 1 by decide, if_false]; exact key 0 0 (by omega) (by omega) hc.symm rfl (by omega) 0 (by omega)
          · simp only [r0, r1, r2, if_false]; unfold stk; rw [if_pos (by omega)]
    · by_cases c4 : m > 4
      · have hc : clm m = 4 := by unfold clm mnI mxI; (repeat' split) <;> omega
        simp only [c0, c4, if_true, if_false]
        by_cases r0 : r = 0
        · subst r0; simp only [if_true]; exact key 4 500 (by omega) (by omega) hc.symm rfl (by omega) _ rfl
        · by_cases r1 : r = 1
          · subst r1; simp only [if_true, show ¬ (1 : Int) = 0 by decide, if_false]; exact key 4 1000 (by omega) (by omega) hc.symm rfl (by omega) _ rfl
          · by_cases r2 : r = 2
            · subst r2; simp only [if_true, show ¬ (2 : Int) = 0 by decide, show ¬ (2 : Int) = 1 by decide, if_false]; exact key 4 0 (by omega) (by omega) hc.symm rfl (by omega) _ rfl
            · simp only [r0, r1, r2, if_false]; unfold stk; rw [if_pos (by omega)]
      · have hc : clm m = m := by unfold clm mnI mxI; (repeat' split) <;> omega
        have w3 : wI (32 * m) = 32 * m := w_small (by omega) (by omega)
        simp only [c0, c4, if_false, w3]
        by_cases r0 : r = 0
        · subst r0; simp only [if_true]
          rw [(rst_all hx (by omega : 0 ≤ (500 : Int) ∧ (500 : Int) ≤ 1000) (by omega : 0 ≤ m ∧ m ≤ 4)).2.2.1]
          exact key m 500 (by omega) (by omega) hc.symm rfl (by omega) _ rfl
        · by_cases r1 : r = 1
          · subst r1; simp only [if_true, show ¬ (1 : Int) = 0 by decide, if_false]
            rw [(rst_all hx (by omega : 0 ≤ (1000 : Int) ∧ (1000 : Int) ≤ 1000) (by omega : 0 ≤ m ∧ m ≤ 4)).2.2.1]
            exact key m 1000 (by omega) (by omega) hc.symm rfl (by omega) _ rfl
          · by_cases r2 : r = 2
            · subst r2; simp only [if_true, show ¬ (2 : Int) = 0 by decide, show ¬ (2 : Int) = 1 by decide, if_false]
              rw [(rst_all hx (by omega : 0 ≤ (0 : Int) ∧ (0 : Int) ≤ 1000) (by omega : 0 ≤ m ∧ m ≤ 4)).2.2.1]
              exact key m 0 (by omega) (by omega) hc.symm rfl (by omega) _ rfl
            · simp only [r0, r1, r2, if_false]; unfold stk; rw [if_pos (by omega)]
  · exact h.elim
-- shares
def shp (p m k : Int) : Int := if k < p - p / m * m then p / m + 1 else p / m
def shr (p m k : Int) : Int := if k < 0 ∨ k ≥ m then 0 else if p < 0 then -(shp (-p) m k) else shp p m k
def P41 (p : Int) : Prop := -2199023255552 ≤ p ∧ p ≤ 2199023255552
theorem div_facts {p m : Int} (hp : 0 ≤ p) (hm : 1 ≤ m) : 0 ≤ p / m ∧ p / m ≤ p ∧ 0 ≤ p / m * m ∧ p / m * m ≤ p ∧ p.tdiv m = p / m ∧ p.tmod m = p - p / m * m := by
  have h1 : 0 ≤ p / m := Int.ediv_nonneg hp (by omega)
  have h2 : p / m * m ≤ p := Int.ediv_mul_le p (by omega)
  refine ⟨h1, Int.ediv_le_self m hp, Int.mul_nonneg h1 (by omega), h2, Int.tdiv_eq_ediv_of_nonneg hp, ?_⟩
  rw [Int.tmod_eq_emod_of_nonneg hp, Int.emod_def, Int.mul_comm m]
theorem div_neg {p m : Int} (hp : p < 0) (hm : 1 ≤ m) : p.tdiv m = -((-p) / m) ∧ p.tmod m = -((-p) - (-p) / m * m) := by
  obtain ⟨_, _, _, _, h5, h6⟩ := div_facts (p := -p) (m := m) (by omega) hm
  rw [Int.neg_tdiv] at h5
  rw [Int.neg_tmod] at h6
  constructor <;> omega
theorem shp_range {p m k : Int} (hp : 0 ≤ p) (hm : 1 ≤ m) : 0 ≤ shp p m k ∧ shp p m k ≤ p + 1 := by
  obtain ⟨h1, h2, _, _, _, _⟩ := div_facts hp hm
  unfold shp; split <;> omega
theorem shr_range {p m k : Int} (hp : P41 p) : -2199023255553 ≤ shr p m k ∧ shr p m k ≤ 2199023255553 := by
  unfold P41 at hp
  unfold shr
  split
  · omega
  · split
    · have := shp_range (p := -p) (m := m) (k := k) (by omega) (by omega); omega
    · have := shp_range (p := p) (m := m) (k := k) (by omega) (by omega); omega
def shr_s (args : List PV) (K : PV → Prop) : Prop := match args with
  | [.int .i64 p, .int .i64 m, .int .i64 k] => P41 p ∧ K (.int .i64 (shr p m k))
  | _ => False
def shr0_s (args : List PV) (K : PV → Prop) : Prop := match args with
  | [.int .i64 p, .int .i64 m, .int .i64 k] => (P41 p ∧ 0 ≤ p) ∧ K (.int .i64 (shr p m k))
  | _ => False
theorem share_red (p m k : Int) (K : PV → Prop) : (br (decide (k < 0) == false) (br (decide (k ≥ m)) (K (PV.int IntKind.i64 0)) (br (m != 0) (br (m != 0) (br (decide (Int.tmod p m > k)) (K (PV.int IntKind.i64 (wI (wI (Int.tdiv p m) + 1)))) (br (decide (wI (0 - Int.tmod p m) > k)) (K (PV.int IntKind.i64 (wI (wI (Int.tdiv p m) - 1)))) (K (PV.int IntKind.i64 (wI (Int.tdiv p m)))))) False) False)) (K (PV.int IntKind.i64 0))) = wpc br Tryd.prog gl T1 [] (fun _ => 0) (bodyOf Tryd.f17) [] (env0 [.int .i64 p, .int .i64 m, .int .i64 k]) [] (resQ Tryd.prog Tryd.f17.results.toList (fun x _ => K x)) := by kernel_rfl
theorem share_vc (p m k : Int) (K : PV → Prop) (h : br (decide (k < 0) == false) (br (decide (k ≥ m)) (K (PV.int IntKind.i64 0)) (br (m != 0) (br (m != 0) (br (decide (Int.tmod p m > k)) (K (PV.int IntKind.i64 (wI (wI (Int.tdiv p m) + 1)))) (br (decide (wI (0 - Int.tmod p m) > k)) (K (PV.int IntKind.i64 (wI (wI (Int.tdiv p m) - 1)))) (K (PV.int IntKind.i64 (wI (Int.tdiv p m)))))) False) False)) (K (PV.int IntKind.i64 0))) : ACalls Tryd.prog gl 17 [.int .i64 p, .int .i64 m, .int .i64 k] [] (fun x _ => K x) :=
  acalls_of_wpc2 (T := T1) (L := []) (fun _ => 0) Tryd.func17 (by kernel_rfl) (by kernel_rfl) (by kernel_rfl) (T1_ok) (LOk.nil _ _ _ _ _) (holds_of_eq (share_red p m k K) h)
theorem rshare0_red (p m k : Int) (K : PV → Prop) : (br (decide (k < 0) == false) (br (decide (k ≥ m)) (K (PV.int IntKind.i64 0)) (br (decide (p < 0)) False (br (m != 0) (br (decide (k < wI (p - wI (wI (Int.tdiv p m) * m)))) (K (PV.int IntKind.i64 (wI (wI (Int.tdiv p m) + 1)))) (K (PV.int IntKind.i64 (wI (Int.tdiv p m))))) False))) (K (PV.int IntKind.i64 0))) = wpc br Tryd.prog gl T1 [] (fun _ => 0) (bodyOf Tryd.f18) [] (env0 [.int .i64 p, .int .i64 m, .int .i64 k]) [] (resQ Tryd.prog Tryd.f18.results.toList (fun x _ => K x)) := by kernel_rfl
theorem rshare0_vc (p m k : Int) (K : PV → Prop) (h : br (decide (k < 0) == false) (br (decide (k ≥ m)) (K (PV.int IntKind.i64 0)) (br (decide (p < 0)) False (br (m != 0) (br (decide (k < wI (p - wI (wI (Int.tdiv p m) * m)))) (K (PV.int IntKind.i64 (wI (wI (Int.tdiv p m) + 1)))) (K (PV.int IntKind.i64 (wI (Int.tdiv p m))))) False))) (K (PV.int IntKind.i64 0))) : ACalls Tryd.prog gl 18 [.int .i64 p, .int .i64 m, .int .i64 k] [] (fun x _ => K x) :=
  acalls_of_wpc2 (T := T1) (L := []) (fun _ => 0) Tryd.func18 (by kernel_rfl) (by kernel_rfl) (by kernel_rfl) (T1_ok) (LOk.nil _ _ _ _ _) (holds_of_eq (rshare0_red p m k K) h)
theorem share_ok : SpOk Tryd.prog gl 17 (.pure shr_s) := by
  intro args K h
  unfold shr_s at h
  split at h
  · rename_i p m k
    obtain ⟨hp, h⟩ := h
    refine spure gl_low (by simp [low_int]) (.int _ _) (share_vc p m k _ ?_) h
    unfold P41 at hp
    simp only [br_if, decide_eq_true_eq, beq_iff_eq, bne_iff_ne]
    by_cases c1 : k < 0
    · simp [c1, shr]
    · by_cases c2 : k ≥ m
      · simp [c1, c2, shr]
      · have hm : m ≠ 0 := by omega
        simp only [c1, c2, hm, decide_false, if_true, if_false, ne_eq, not_false_eq_true]
        have e0 : shr p m k = if p < 0 then -(shp (-p) m k) else shp p m k := by unfold shr; rw [if_neg (by omega)]
        rw [e0]
        by_cases hn : p < 0
        · obtain ⟨h1, h2, h3, h4, _, _⟩ := div_facts (p := -p) (m := m) (by omega) (by omega)
          obtain ⟨h5, h6⟩ := div_neg (p := p) (m := m) hn (by omega)
          have e2 : shp (-p) m k = if k < -p - (-p) / m * m then (-p) / m + 1 else (-p) / m := rfl
          rw [h5, h6, if_pos hn, e2]
          generalize (-p) / m * m = q at *
          generalize (-p) / m = d at *
          have e1 : wI (0 - -(-p - q)) = -p - q := by rw [w_small (by omega) (by omega)]; omega
          have e3 : wI (-d) = -d := w_small (by omega) (by omega)
          have e4 : wI (-d - 1) = -d - 1 := w_small (by omega) (by omega)
          rw [e1, if_neg (by omega), e3, e4]
          by_cases c : k < -p - q
          · rw [if_pos c]; simp only [c, if_true]; congr 1; omega
          · rw [if_neg c]; simp only [show ¬ -p - q > k by omega, if_false]
        · obtain ⟨h1, h2, h3, h4, h5, h6⟩ := div_facts (p := p) (m := m) (by omega) (by omega)
          have e2 : shp p m k = if k < p - p / m * m then p / m + 1 else p / m := rfl
          rw [h5, h6, if_neg hn, e2]
          generalize p / m * m = q at *
          generalize p / m = d at *
          have e3 : wI d = d := w_small (by omega) (by omega)
          have e4 : wI (d + 1) = d + 1 := w_small (by omega) (by omega)
          have e1 : wI (0 - (p - q)) = -(p - q) := by rw [w_small (by omega) (by omega)]; omega
          rw [e1, e3, e4]
          by_cases c : k < p - q
          · simp [c]
          · simp [show ¬ k < p - q by omega, show ¬ k < -(p - q) by omega]
  · exact h.elim
theorem rshare_pos {p m k : Int} (hp : P41 p) (h0 : 0 ≤ p) (K : PV → Prop) (hk : K (.int .i64 (shr p m k))) (c1 : ¬ k < 0) (c2 : ¬ k ≥ m) :
    (if k < wI (p - wI (wI (Int.tdiv p m) * m)) then K (PV.int IntKind.i64 (wI (wI (Int.tdiv p m) + 1))) else K (PV.int IntKind.i64 (wI (Int.tdiv p m)))) := by
  unfold P41 at hp
  obtain ⟨h1, h2, h3, h4, h5, h6⟩ := div_facts (p := p) (m := m) (by omega) (by omega)
  have e2 : shr p m k = if k < p - p / m * m then p / m + 1 else p / m := by unfold shr; rw [if_neg (by omega), if_neg (by omega)]; rfl
  rw [e2] at hk
  have e3 : wI (p / m) = p / m := w_small (by omega) (by omega)
  have e5 : wI (p / m * m) = p / m * m := w_small (by omega) (by omega)
  have e6 : wI (p - p / m * m) = p - p / m * m := w_small (by omega) (by omega)
  have e4 : wI (p / m + 1) = p / m + 1 := w_small (by omega) (by omega)
  rw [h5, e3, e5, e6, e4]
  by_cases c : k < p - p / m * m
  · rw [if_pos c] at hk ⊢; exact hk
  · rw [if_neg c] at hk ⊢; exact hk
theorem rshare0_ok : SpOk Tryd.prog gl 18 (.pure shr0_s) := by
  intro args K h
  unfold shr0_s at h
  split at h
  · rename_i p m k
    obtain ⟨⟨hp, h0⟩, h⟩ := h
    refine spure gl_low (by simp [low_int]) (.int _ _) (rshare0_vc p m k _ ?_) h
    simp only [br_if, decide_eq_true_eq, beq_iff_eq, bne_iff_ne]
    by_cases c1 : k < 0
    · simp [c1, shr]
    · by_cases c2 : k ≥ m
      · simp [c1, c2, shr]
      · have hm : m ≠ 0 := by omega
        have hn : ¬ p < 0 := by omega
        simp only [c1, c2, hm, hn, decide_false, if_true, if_false, ne_eq, not_false_eq_true]
        exact rshare_pos hp h0 (fun x => x = .int .i64 (shr p m k)) rfl c1 c2
  · exact h.elim
def T1c : Tab := (18, .pure shr0_s) :: T1
theorem T1c_ok : TabOk Tryd.prog gl T1c := .cons rshare0_ok T1_ok
theorem rshare1_red (p m k : Int) (K : PV → Prop) : (br (decide (k < 0) == false) (br (decide (k ≥ m)) (K (PV.int IntKind.i64 0)) (br (decide (p < 0)) ((P41 (wI (0 - p)) ∧ 0 ≤ wI (0 - p)) ∧ K (PV.int IntKind.i64 (wI (0 - shr (wI (0 - p)) m k)))) (br (m != 0) (br (decide (k < wI (p - wI (wI (Int.tdiv p m) * m)))) (K (PV.int IntKind.i64 (wI (wI (Int.tdiv p m) + 1)))) (K (PV.int IntKind.i64 (wI (Int.tdiv p m))))) False))) (K (PV.int IntKind.i64 0))) = wpc br Tryd.prog gl T1c [] (fun _ => 0) (bodyOf Tryd.f18) [] (env0 [.int .i64 p, .int .i64 m, .int .i64 k]) [] (resQ Tryd.prog Tryd.f18.results.toList (fun x _ => K x)) := by kernel_rfl
theorem rshare1_vc (p m k : Int) (K : PV → Prop) (h : br (decide (k < 0) == false) (br (decide (k ≥ m)) (K (PV.int IntKind.i64 0)) (br (decide (p < 0)) ((P41 (wI (0 - p)) ∧ 0 ≤ wI (0 - p)) ∧ K (PV.int IntKind.i64 (wI (0 - shr (wI (0 - p)) m k)))) (br (m != 0) (br (decide (k < wI (p - wI (wI (Int.tdiv p m) * m)))) (K (PV.int IntKind.i64 (wI (wI (Int.tdiv p m) + 1)))) (K (PV.int IntKind.i64 (wI (Int.tdiv p m))))) False))) (K (PV.int IntKind.i64 0))) : ACalls Tryd.prog gl 18 [.int .i64 p, .int .i64 m, .int .i64 k] [] (fun x _ => K x) :=
  acalls_of_wpc2 (T := T1c) (L := []) (fun _ => 0) Tryd.func18 (by kernel_rfl) (by kernel_rfl) (by kernel_rfl) (T1c_ok) (LOk.nil _ _ _ _ _) (holds_of_eq (rshare1_red p m k K) h)
theorem rshare_ok : SpOk Tryd.prog gl 18 (.pure shr_s) := by
  intro args K h
  unfold shr_s at h
  split at h
  · rename_i p m k
    obtain ⟨hp, h⟩ := h
    refine spure gl_low (by simp [low_int]) (.int _ _) (rshare1_vc p m k _ ?_) h
    have hp' := hp
    unfold P41 at hp'
    simp only [br_if, decide_eq_true_eq, beq_iff_eq, bne_iff_ne]
    by_cases c1 : k < 0
    · simp [c1, shr]
    · by_cases c2 : k ≥ m
      · simp [c1, c2, shr]
      · have hm : m ≠ 0 := by omega
        simp only [c1, c2, hm, decide_false, if_true, if_false, ne_eq, not_false_eq_true]
        by_cases hn : p < 0
        · have e : wI (0 - p) = -p := by rw [w_small (by omega) (by omega)]; omega
          have hr := shp_range (p := -p) (m := m) (k := k) (by omega) (by omega)
          have e1 : shr (-p) m k = shp (-p) m k := by unfold shr; rw [if_neg (by omega), if_neg (by omega)]
          have e2 : shr p m k = -(shp (-p) m k) := by unfold shr; rw [if_neg (by omega), if_pos hn]
          simp only [hn, if_true, e, e1, e2]
          refine ⟨⟨⟨by omega, by omega⟩, by omega⟩, ?_⟩
          congr 1
          rw [w_small (by omega) (by omega)]; omega
        · simp only [hn, if_false]
          exact rshare_pos hp (by omega) (fun x => x = .int .i64 (shr p m k)) rfl c1 c2
  · exact h.elim
def T3 : Tab := (14, .pure stk_s) :: (15, .pure stk_s) :: (17, .pure shr_s) :: (18, .pure shr_s) :: T2
theorem T3_ok : TabOk Tryd.prog gl T3 := .cons stake_ok (.cons rstake_ok (.cons share_ok (.cons rshare_ok T2_ok)))
-- means
def LenOk (ns : List Int) : Prop := (ns.length : Int) ≤ 4611686018427387904
def sumW : Int → List Int → Int
  | acc, [] => acc
  | acc, r :: l => sumW (wI (acc + within r)) l
def mean (ns : List Int) : Int := if ns.length = 0 then 0 else wI ((sumW 0 ns).tdiv ns.length)
theorem drop_get {ns : List Int} {i : Nat} (h : i < ns.length) : ns.drop i = ns.getD i 0 :: ns.drop (i + 1) := by
  rw [List.drop_eq_getElem_cons h, List.getD_eq_getElem?_getD, List.getElem?_eq_getElem h]; rfl
theorem sumW_step {ns : List Int} {i : Nat} (acc : Int) (h : i < ns.length) : sumW acc (ns.drop i) = sumW (wI (acc + within (ns.getD i 0))) (ns.drop (i + 1)) := by
  rw [drop_get h]; rfl
theorem toNat_cast (i : Nat) : Int.toNat (i : Int) = i := rfl
theorem wI_succ {i n : Nat} (h : i < n) (hn : (n : Int) ≤ 4611686018427387904) : wI ((i : Int) + 1) = ((i + 1 : Nat) : Int) := by
  rw [w_small (by omega) (by omega)]; rfl
def mean_l : LSp := fun e H Q => ∃ (ns : List Int) (t : Tail), LenOk ns ∧ SlIs (List.map e [0, 3, 9, 10, 11]) [.list (en1 .i64 ns) t, .int .i64 0, .list (en1 .i64 ns) t, .int .i64 (en1 .i64 ns).length, .int .i64 0] ∧ HpIs H [] ∧
  Q (.exit 0) (envS [0, 3, 9, 10, 11] [.list (en1 .i64 ns) t, .int .i64 (sumW 0 ns), .list (en1 .i64 ns) t, .int .i64 (en1 .i64 ns).length, .int .i64 ns.length]) []
def rmean_l : LSp := fun e H Q => ∃ (ns : List Int) (t : Tail), LenOk ns ∧ SlIs (List.map e [0, 3, 4]) [.list (en1 .i64 ns) t, .int .i64 0, .int .i64 0] ∧ HpIs H [] ∧
  Q (.exit 0) (envS [0, 3, 4] [.list (en1 .i64 ns) t, .int .i64 (sumW 0 ns), .int .i64 ns.length]) []
def mean_s (args : List PV) (K : PV → Prop) : Prop := match args with
  | [.list es t] => ∃ ns, es = en1 .i64 ns ∧ LenOk ns ∧ NT t ∧ K (.int .i64 (mean ns))
  | _ => False
theorem meanl_red (ns : List Int) (t : Tail) (acc : Int) (i : Nat) (R : Ex → List PV → Heap → Prop) : (br (decide ((↑i : Int) < (↑(List.length (en1 IntKind.i64 ns)) : Int))) (InL (en1 IntKind.i64 ns) 1 (↑i : Int) ∧ br (true && fitX [CK.int IntKind.i64] 0 (List.getD (en1 IntKind.i64 ns) (Int.toNat (↑i : Int)) [])) (R Ex.normal [PV.list (en1 IntKind.i64 ns) t, PV.int IntKind.i64 (wI (acc + within (cI (List.getD (en1 IntKind.i64 ns) (Int.toNat (↑i : Int)) []) 0))), PV.list (en1 IntKind.i64 ns) t, PV.int IntKind.i64 (↑(List.length (en1 IntKind.i64 ns)) : Int), PV.int IntKind.i64 (wI ((↑i : Int) + 1))] []) False) (R (Ex.exit 0) [PV.list (en1 IntKind.i64 ns) t, PV.int IntKind.i64 acc, PV.list (en1 IntKind.i64 ns) t, PV.int IntKind.i64 (↑(List.length (en1 IntKind.i64 ns)) : Int), PV.int IntKind.i64 (↑i : Int)] [])) = wpc br Tryd.prog gl T3 [] (fun _ => 0) (subOf [1, 1, 1, 0, 1, 0] (bodyOf Tryd.f12)) [] (envS [0, 3, 9, 10, 11] [.list (en1 .i64 ns) t, .int .i64 acc, .list (en1 .i64 ns) t, .int .i64 (en1 .i64 ns).length, .int .i64 i]) [] (fun ex e H => R ex (List.map e [0, 3, 9, 10, 11]) H) := by kernel_rfl
theorem meanl_vc (ns : List Int) (t : Tail) (acc : Int) (i : Nat) (R : Ex → List PV → Heap → Prop) (h : br (decide ((↑i : Int) < (↑(List.length (en1 IntKind.i64 ns)) : Int))) (InL (en1 IntKind.i64 ns) 1 (↑i : Int) ∧ br (true && fitX [CK.int IntKind.i64] 0 (List.getD (en1 IntKind.i64 ns) (Int.toNat (↑i : Int)) [])) (R Ex.normal [PV.list (en1 IntKind.i64 ns) t, PV.int IntKind.i64 (wI (acc + within (cI (List.getD (en1 IntKind.i64 ns) (Int.toNat (↑i : Int)) []) 0))), PV.list (en1 IntKind.i64 ns) t, PV.int IntKind.i64 (↑(List.length (en1 IntKind.i64 ns)) : Int), PV.int IntKind.i64 (wI ((↑i : Int) + 1))] []) False) (R (Ex.exit 0) [PV.list (en1 IntKind.i64 ns) t, PV.int IntKind.i64 acc, PV.list (en1 IntKind.i64 ns) t, PV.int IntKind.i64 (↑(List.length (en1 IntKind.i64 ns)) : Int), PV.int IntKind.i64 (↑i : Int)] [])) : Holds (wpc br Tryd.prog gl T3 [] (fun _ => 0) (subOf [1, 1, 1, 0, 1, 0] (bodyOf Tryd.f12)) [] (envS [0, 3, 9, 10, 11] [.list (en1 .i64 ns) t, .int .i64 acc, .list (en1 .i64 ns) t, .int .i64 (en1 .i64 ns).length, .int .i64 i]) [] (fun ex e H => R ex (List.map e [0, 3, 9, 10, 11]) H)) := holds_of_eq (meanl_red ns t acc i R) h
theorem rmeanl_red (ns : List Int) (t : Tail) (acc : Int) (i : Nat) (R : Ex → List PV → Heap → Prop) : (br (decide ((↑i : Int) < (↑(List.length (en1 IntKind.i64 ns)) : Int))) (InL (en1 IntKind.i64 ns) 1 (↑i : Int) ∧ br (true && fitX [CK.int IntKind.i64] 0 (List.getD (en1 IntKind.i64 ns) (Int.toNat (↑i : Int)) [])) (R Ex.normal [PV.list (en1 IntKind.i64 ns) t, PV.int IntKind.i64 (wI (acc + rating (cI (List.getD (en1 IntKind.i64 ns) (Int.toNat (↑i : Int)) []) 0))), PV.int IntKind.i64 (wI ((↑i : Int) + 1))] []) False) (R (Ex.exit 0) [PV.list (en1 IntKind.i64 ns) t, PV.int IntKind.i64 acc, PV.int IntKind.i64 (↑i : Int)] [])) = wpc br Tryd.prog gl T3 [] (fun _ => 0) (subOf [1, 1, 1, 0, 1, 0] (bodyOf Tryd.f13)) [] (envS [0, 3, 4] [.list (en1 .i64 ns) t, .int .i64 acc, .int .i64 i]) [] (fun ex e H => R ex (List.map e [0, 3, 4]) H) := by kernel_rfl
theorem rmeanl_vc (ns : List Int) (t : Tail) (acc : Int) (i : Nat) (R : Ex → List PV → Heap → Prop) (h : br (decide ((↑i : Int) < (↑(List.length (en1 IntKind.i64 ns)) : Int))) (InL (en1 IntKind.i64 ns) 1 (↑i : Int) ∧ br (true && fitX [CK.int IntKind.i64] 0 (List.getD (en1 IntKind.i64 ns) (Int.toNat (↑i : Int)) [])) (R Ex.normal [PV.list (en1 IntKind.i64 ns) t, PV.int IntKind.i64 (wI (acc + rating (cI (List.getD (en1 IntKind.i64 ns) (Int.toNat (↑i : Int)) []) 0))), PV.int IntKind.i64 (wI ((↑i : Int) + 1))] []) False) (R (Ex.exit 0) [PV.list (en1 IntKind.i64 ns) t, PV.int IntKind.i64 acc, PV.int IntKind.i64 (↑i : Int)] [])) : Holds (wpc br Tryd.prog gl T3 [] (fun _ => 0) (subOf [1, 1, 1, 0, 1, 0] (bodyOf Tryd.f13)) [] (envS [0, 3, 4] [.list (en1 .i64 ns) t, .int .i64 acc, .int .i64 i]) [] (fun ex e H => R ex (List.map e [0, 3, 4]) H)) := holds_of_eq (rmeanl_red ns t acc i R) h
theorem mean_l_ok : ∀ e H Q, mean_l e H Q → AW Tryd.prog gl Tryd.f12.ntmps (.loop (subOf [1, 1, 1, 0, 1, 0] (bodyOf Tryd.f12))) Q e H := by
  rintro e H Q ⟨ns, t, hl, he, hH, hQ⟩
  refine aw_loop4 (hn := fun _ => 0) gl_low T3_ok (.nil _ _ _ _ _) (σ := Nat × Int) [0, 3, 9, 10, 11] (fun p => p.1 ≤ ns.length ∧ sumW p.2 (ns.drop p.1) = sumW 0 ns) (fun p => [.list (en1 .i64 ns) t, .int .i64 p.2, .list (en1 .i64 ns) t, .int .i64 (en1 .i64 ns).length, .int .i64 p.1])
    (fun _ => []) (fun p => ns.length - p.1) (0, 0) ⟨Nat.zero_le _, rfl⟩ he hH ?_
  rintro ⟨i, acc⟩ ⟨h1, h2⟩
  simp only at h1 h2
  refine meanl_vc ns t acc i _ ?_
  simp only [br_if, decide_eq_true_eq, en1_length, toNat_cast, cI_get]
  by_cases c : i < ns.length
  · rw [if_pos (by omega), fit_get _ _ _ c]
    refine ⟨en1_in _ _ _ (by omega) (by omega), ?_⟩
    simp only [Bool.and_self, if_true]
    refine ⟨(i + 1, wI (acc + within (ns.getD i 0))), by simp only; omega, ⟨by simp only; omega, by rw [← h2, sumW_step acc c]⟩, ?_, [], rfl, Nat.le_refl _, .inl rfl⟩
    rw [wI_succ c hl]
  · rw [if_neg (by omega)]
    have e : i = ns.length := by omega
    subst e
    rw [List.drop_length] at h2
    have h2 : acc = sumW 0 ns := h2
    subst h2
    rw [en1_length] at hQ
    exact hQ
theorem rmean_l_ok : ∀ e H Q, rmean_l e H Q → AW Tryd.prog gl Tryd.f13.ntmps (.loop (subOf [1, 1, 1, 0, 1, 0] (bodyOf Tryd.f13))) Q e H := by
  rintro e H Q ⟨ns, t, hl, he, hH, hQ⟩
  refine aw_loop4 (hn := fun _ => 0) gl_low T3_ok (.nil _ _ _ _ _) (σ := Nat × Int) [0, 3, 4] (fun p => p.1 ≤ ns.length ∧ sumW p.2 (ns.drop p.1) = sumW 0 ns) (fun p => [.list (en1 .i64 ns) t, .int .i64 p.2, .int .i64 p.1])
    (fun _ => []) (fun p => ns.length - p.1) (0, 0) ⟨Nat.zero_le _, rfl⟩ he hH ?_
  rintro ⟨i, acc⟩ ⟨h1, h2⟩
  simp only at h1 h2
  refine rmeanl_vc ns t acc i _ ?_
  simp only [br_if, decide_eq_true_eq, en1_length, toNat_cast, cI_get, rating_eq]
  by_cases c : i < ns.length
  · rw [if_pos (by omega), fit_get _ _ _ c]
    refine ⟨en1_in _ _ _ (by omega) (by omega), ?_⟩
    simp only [Bool.and_self, if_true]
    refine ⟨(i + 1, wI (acc + within (ns.getD i 0))), by simp only; omega, ⟨by simp only; omega, by rw [← h2, sumW_step acc c]⟩, ?_, [], rfl, Nat.le_refl _, .inl rfl⟩
    rw [wI_succ c hl]
  · rw [if_neg (by omega)]
    have e : i = ns.length := by omega
    subst e
    rw [List.drop_length] at h2
    have h2 : acc = sumW 0 ns := h2
    subst h2
    exact hQ
theorem mean_red (ns : List Int) (t : Tail) (K : PV → Prop) : (br ((↑(List.length (en1 IntKind.i64 ns)) : Int) == 0) (K (PV.int IntKind.i64 0)) (∃ (ns_1 : List Int), ∃ (t_1 : Tail), LenOk ns_1 ∧ SlIs [PV.list (en1 IntKind.i64 ns) t, PV.int IntKind.i64 0, PV.list (en1 IntKind.i64 ns) t, PV.int IntKind.i64 (↑(List.length (en1 IntKind.i64 ns)) : Int), PV.int IntKind.i64 0] [PV.list (en1 IntKind.i64 ns_1) t_1, PV.int IntKind.i64 0, PV.list (en1 IntKind.i64 ns_1) t_1, PV.int IntKind.i64 (↑(List.length (en1 IntKind.i64 ns_1)) : Int), PV.int IntKind.i64 0] ∧ HpIs [] [] ∧ br ((↑(List.length (en1 IntKind.i64 ns_1)) : Int) != 0) (K (PV.int IntKind.i64 (wI (Int.tdiv (sumW 0 ns_1) (↑(List.length (en1 IntKind.i64 ns_1)) : Int))))) False)) = wpc br Tryd.prog gl T3 [([1, 1, 1, 0, 1, 0], mean_l)] (fun _ => 0) (bodyOf Tryd.f12) [] (env0 [.list (en1 .i64 ns) t]) [] (resQ Tryd.prog Tryd.f12.results.toList (fun x _ => K x)) := by kernel_rfl
theorem mean_vc (ns : List Int) (t : Tail) (K : PV → Prop) (h : br ((↑(List.length (en1 IntKind.i64 ns)) : Int) == 0) (K (PV.int IntKind.i64 0)) (∃ (ns_1 : List Int), ∃ (t_1 : Tail), LenOk ns_1 ∧ SlIs [PV.list (en1 IntKind.i64 ns) t, PV.int IntKind.i64 0, PV.list (en1 IntKind.i64 ns) t, PV.int IntKind.i64 (↑(List.length (en1 IntKind.i64 ns)) : Int), PV.int IntKind.i64 0] [PV.list (en1 IntKind.i64 ns_1) t_1, PV.int IntKind.i64 0, PV.list (en1 IntKind.i64 ns_1) t_1, PV.int IntKind.i64 (↑(List.length (en1 IntKind.i64 ns_1)) : Int), PV.int IntKind.i64 0] ∧ HpIs [] [] ∧ br ((↑(List.length (en1 IntKind.i64 ns_1)) : Int) != 0) (K (PV.int IntKind.i64 (wI (Int.tdiv (sumW 0 ns_1) (↑(List.length (en1 IntKind.i64 ns_1)) : Int))))) False)) : ACalls Tryd.prog gl 12 [.list (en1 .i64 ns) t] [] (fun x _ => K x) :=
  acalls_of_wpc2 (T := T3) (L := [([1, 1, 1, 0, 1, 0], mean_l)]) (fun _ => 0) Tryd.func12 (by kernel_rfl) (by kernel_rfl) (by kernel_rfl) (T3_ok) (.cons (sub_of (by kernel_rfl)) mean_l_ok (.nil _ _ _ _ _)) (holds_of_eq (mean_red ns t K) h)
theorem rmean_red (ns : List Int) (t : Tail) (K : PV → Prop) : (br ((↑(List.length (en1 IntKind.i64 ns)) : Int) == 0) (K (PV.int IntKind.i64 0)) (∃ (ns_1 : List Int), ∃ (t_1 : Tail), LenOk ns_1 ∧ SlIs [PV.list (en1 IntKind.i64 ns) t, PV.int IntKind.i64 0, PV.int IntKind.i64 0] [PV.list (en1 IntKind.i64 ns_1) t_1, PV.int IntKind.i64 0, PV.int IntKind.i64 0] ∧ HpIs [] [] ∧ br ((↑(List.length (en1 IntKind.i64 ns_1)) : Int) != 0) (K (PV.int IntKind.i64 (wI (Int.tdiv (sumW 0 ns_1) (↑(List.length (en1 IntKind.i64 ns_1)) : Int))))) False)) = wpc br Tryd.prog gl T3 [([1, 1, 1, 0, 1, 0], rmean_l)] (fun _ => 0) (bodyOf Tryd.f13) [] (env0 [.list (en1 .i64 ns) t]) [] (resQ Tryd.prog Tryd.f13.results.toList (fun x _ => K x)) := by kernel_rfl
theorem rmean_vc (ns : List Int) (t : Tail) (K : PV → Prop) (h : br ((↑(List.length (en1 IntKind.i64 ns)) : Int) == 0) (K (PV.int IntKind.i64 0)) (∃ (ns_1 : List Int), ∃ (t_1 : Tail), LenOk ns_1 ∧ SlIs [PV.list (en1 IntKind.i64 ns) t, PV.int IntKind.i64 0, PV.int IntKind.i64 0] [PV.list (en1 IntKind.i64 ns_1) t_1, PV.int IntKind.i64 0, PV.int IntKind.i64 0] ∧ HpIs [] [] ∧ br ((↑(List.length (en1 IntKind.i64 ns_1)) : Int) != 0) (K (PV.int IntKind.i64 (wI (Int.tdiv (sumW 0 ns_1) (↑(List.length (en1 IntKind.i64 ns_1)) : Int))))) False)) : ACalls Tryd.prog gl 13 [.list (en1 .i64 ns) t] [] (fun x _ => K x) :=
  acalls_of_wpc2 (T := T3) (L := [([1, 1, 1, 0, 1, 0], rmean_l)]) (fun _ => 0) Tryd.func13 (by kernel_rfl) (by kernel_rfl) (by kernel_rfl) (T3_ok) (.cons (sub_of (by kernel_rfl)) rmean_l_ok (.nil _ _ _ _ _)) (holds_of_eq (rmean_red ns t K) h)
theorem mean_ok : SpOk Tryd.prog gl 12 (.pure mean_s) := by
  intro args K h
  unfold mean_s at h
  split at h
  · rename_i es t
    obtain ⟨ns, rfl, hl, ht, h⟩ := h
    refine spure gl_low (by simp [low_list1 ht]) (.int _ _) (mean_vc ns t _ ?_) h
    simp only [br_if, beq_iff_eq, bne_iff_ne, en1_length, mean]
    by_cases c : ns.length = 0
    · simp [c]
    · rw [if_neg (by omega), if_neg c]
      refine ⟨ns, t, hl, rfl, rfl, ?_⟩
      rw [if_pos (by omega)]
  · exact h.elim
theorem rmean_ok : SpOk Tryd.prog gl 13 (.pure mean_s) := by
  intro args K h
  unfold mean_s at h
  split at h
  · rename_i es t
    obtain ⟨ns, rfl, hl, ht, h⟩ := h
    refine spure gl_low (by simp [low_list1 ht]) (.int _ _) (rmean_vc ns t _ ?_) h
    simp only [br_if, beq_iff_eq, bne_iff_ne, en1_length, mean]
    by_cases c : ns.length = 0
    · simp [c]
    · rw [if_neg (by omega), if_neg c]
      refine ⟨ns, t, hl, rfl, rfl, ?_⟩
      rw [if_pos (by omega)]
  · exact h.elim
def T4 : Tab := (12, .pure mean_s) :: (13, .pure mean_s) :: T3
theorem T4_ok : TabOk Tryd.prog gl T4 := .cons mean_ok (.cons rmean_ok T3_ok)
-- what is wrong with a team
def okAll : List Int → Bool
  | [] => true
  | r :: l => (r == within r) && okAll l
def wrong_l : LSp := fun e H Q => ∃ (ns : List Int) (t : Tail), LenOk ns ∧ SlIs (List.map e [2, 5, 6, 7]) [.int .i64 0, .list (en1 .i64 ns) t, .int .i64 (en1 .i64 ns).length, .int .i64 0] ∧ HpIs H [] ∧
  (okAll ns = true → Q (.exit 0) (envS [2, 5, 6, 7] [.int .i64 0, .list (en1 .i64 ns) t, .int .i64 (en1 .i64 ns).length, .int .i64 ns.length]) []) ∧
  (okAll ns = false → ∀ i : Int, Q .ret (envS [2, 5, 6, 7] [.int .i64 2, .list (en1 .i64 ns) t, .int .i64 (en1 .i64 ns).length, .int .i64 i]) [])
def wrong (ns : List Int) : Int := if okAll ns = true then 0 else 2
def wrong_s (args : List PV) (K : PV → Prop) : Prop := match args with
  | [.list es t] => ∃ ns, es = en1 .i64 ns ∧ LenOk ns ∧ NT t ∧ K (.int .i64 (wrong ns))
  | _ => False
theorem wrongl_red (ns : List Int) (t : Tail) (i : Nat) (R : Ex → List PV → Heap → Prop) : (br (decide ((↑i : Int) < (↑(List.length (en1 IntKind.i64 ns)) : Int))) (InL (en1 IntKind.i64 ns) 1 (↑i : Int) ∧ br (true && fitX [CK.int IntKind.i64] 0 (List.getD (en1 IntKind.i64 ns) (Int.toNat (↑i : Int)) [])) (br (cI (List.getD (en1 IntKind.i64 ns) (Int.toNat (↑i : Int)) []) 0 != within (cI (List.getD (en1 IntKind.i64 ns) (Int.toNat (↑i : Int)) []) 0)) (R Ex.ret [PV.int IntKind.i64 2, PV.list (en1 IntKind.i64 ns) t, PV.int IntKind.i64 (↑(List.length (en1 IntKind.i64 ns)) : Int), PV.int IntKind.i64 (↑i : Int)] []) (R Ex.normal [PV.int IntKind.i64 0, PV.list (en1 IntKind.i64 ns) t, PV.int IntKind.i64 (↑(List.length (en1 IntKind.i64 ns)) : Int), PV.int IntKind.i64 (wI ((↑i : Int) + 1))] [])) False) (R (Ex.exit 0) [PV.int IntKind.i64 0, PV.list (en1 IntKind.i64 ns) t, PV.int IntKind.i64 (↑(List.length (en1 IntKind.i64 ns)) : Int), PV.int IntKind.i64 (↑i : Int)] [])) = wpc br Tryd.prog gl T4 [] (fun _ => 0) (subOf [1, 0, 1, 0] (bodyOf Tryd.f25)) [] (envS [2, 5, 6, 7] [.int .i64 0, .list (en1 .i64 ns) t, .int .i64 (en1 .i64 ns).length, .int .i64 i]) [] (fun ex e H => R ex (List.map e [2, 5, 6, 7]) H) := by kernel_rfl
theorem wrongl_vc (ns : List Int) (t : Tail) (i : Nat) (R : Ex → List PV → Heap → Prop) (h : br (decide ((↑i : Int) < (↑(List.length (en1 IntKind.i64 ns)) : Int))) (InL (en1 IntKind.i64 ns) 1 (↑i : Int) ∧ br (true && fitX [CK.int IntKind.i64] 0 (List.getD (en1 IntKind.i64 ns) (Int.toNat (↑i : Int)) [])) (br (cI (List.getD (en1 IntKind.i64 ns) (Int.toNat (↑i : Int)) []) 0 != within (cI (List.getD (en1 IntKind.i64 ns) (Int.toNat (↑i : Int)) []) 0)) (R Ex.ret [PV.int IntKind.i64 2, PV.list (en1 IntKind.i64 ns) t, PV.int IntKind.i64 (↑(List.length (en1 IntKind.i64 ns)) : Int), PV.int IntKind.i64 (↑i : Int)] []) (R Ex.normal [PV.int IntKind.i64 0, PV.list (en1 IntKind.i64 ns) t, PV.int IntKind.i64 (↑(List.length (en1 IntKind.i64 ns)) : Int), PV.int IntKind.i64 (wI ((↑i : Int) + 1))] [])) False) (R (Ex.exit 0) [PV.int IntKind.i64 0, PV.list (en1 IntKind.i64 ns) t, PV.int IntKind.i64 (↑(List.length (en1 IntKind.i64 ns)) : Int), PV.int IntKind.i64 (↑i : Int)] [])) : Holds (wpc br Tryd.prog gl T4 [] (fun _ => 0) (subOf [1, 0, 1, 0] (bodyOf Tryd.f25)) [] (envS [2, 5, 6, 7] [.int .i64 0, .list (en1 .i64 ns) t, .int .i64 (en1 .i64 ns).length, .int .i64 i]) [] (fun ex e H => R ex (List.map e [2, 5, 6, 7]) H)) := holds_of_eq (wrongl_red ns t i R) h
theorem okAll_step {ns : List Int} {i : Nat} (h : i < ns.length) : okAll (ns.drop i) = ((ns.getD i 0 == within (ns.getD i 0)) && okAll (ns.drop (i + 1))) := by rw [drop_get h]; rfl
theorem wrong_l_ok : ∀ e H Q, wrong_l e H Q → AW Tryd.prog gl Tryd.f25.ntmps (.loop (subOf [1, 0, 1, 0] (bodyOf Tryd.f25))) Q e H := by
  rintro e H Q ⟨ns, t, hl, he, hH, hQ, hR⟩
  refine aw_loop4 (hn := fun _ => 0) gl_low T4_ok (.nil _ _ _ _ _) (σ := Nat) [2, 5, 6, 7] (fun i => i ≤ ns.length ∧ okAll (ns.drop i) = okAll ns) (fun i => [.int .i64 0, .list (en1 .i64 ns) t, .int .i64 (en1 .i64 ns).length, .int .i64 i])
    (fun _ => []) (fun i => ns.length - i) 0 ⟨Nat.zero_le _, rfl⟩ he hH ?_
  rintro i ⟨h1, h2⟩
  refine wrongl_vc ns t i _ ?_
  simp only [br_if, decide_eq_true_eq, en1_length, toNat_cast, cI_get, bne_iff_ne]
  by_cases c : i < ns.length
  · rw [if_pos (by omega), fit_get _ _ _ c]
    refine ⟨en1_in _ _ _ (by omega) (by omega), ?_⟩
    simp only [Bool.and_self, if_true]
    rw [okAll_step c] at h2
    by_cases d : ns.getD i 0 = within (ns.getD i 0)
    · rw [if_neg (fun k => k d)]
      rw [show (ns.getD i 0 == within (ns.getD i 0)) = true by simpa using d, Bool.true_and] at h2
      refine ⟨i + 1, (by omega : ns.length - (i + 1) < ns.length - i), ⟨by omega, h2⟩, ?_, [], rfl, Nat.le_refl _, .inl rfl⟩
      rw [wI_succ c hl]
    · rw [if_pos d]
      rw [show (ns.getD i 0 == within (ns.getD i 0)) = false by simpa using d, Bool.false_and] at h2
      have := hR h2.symm i
      rw [en1_length] at this
      exact this
  · rw [if_neg (by omega)]
    have e : i = ns.length := by omega
    subst e
    rw [List.drop_length] at h2
    have := hQ h2.symm
    rw [en1_length] at this
    exact this
theorem wrong_red (ns : List Int) (t : Tail) (K : PV → Prop) : (∃ (ns_1 : List Int), ∃ (t_1 : Tail), LenOk ns_1 ∧ SlIs [PV.int IntKind.i64 0, PV.list (en1 IntKind.i64 ns) t, PV.int IntKind.i64 (↑(List.length (en1 IntKind.i64 ns)) : Int), PV.int IntKind.i64 0] [PV.int IntKind.i64 0, PV.list (en1 IntKind.i64 ns_1) t_1, PV.int IntKind.i64 (↑(List.length (en1 IntKind.i64 ns_1)) : Int), PV.int IntKind.i64 0] ∧ HpIs [] [] ∧ (okAll ns_1 = true → K (PV.int IntKind.i64 0)) ∧ (okAll ns_1 = false → ∀ (_ : Int), K (PV.int IntKind.i64 2))) = wpc br Tryd.prog gl T4 [([1, 0, 1, 0], wrong_l)] (fun _ => 0) (bodyOf Tryd.f25) [] (env0 [.list (en1 .i64 ns) t]) [] (resQ Tryd.prog Tryd.f25.results.toList (fun x _ => K x)) := by kernel_rfl
theorem wrong_vc (ns : List Int) (t : Tail) (K : PV → Prop) (h : ∃ (ns_1 : List Int), ∃ (t_1 : Tail), LenOk ns_1 ∧ SlIs [PV.int IntKind.i64 0, PV.list (en1 IntKind.i64 ns) t, PV.int IntKind.i64 (↑(List.length (en1 IntKind.i64 ns)) : Int), PV.int IntKind.i64 0] [PV.int IntKind.i64 0, PV.list (en1 IntKind.i64 ns_1) t_1, PV.int IntKind.i64 (↑(List.length (en1 IntKind.i64 ns_1)) : Int), PV.int IntKind.i64 0] ∧ HpIs [] [] ∧ (okAll ns_1 = true → K (PV.int IntKind.i64 0)) ∧ (okAll ns_1 = false → ∀ (_ : Int), K (PV.int IntKind.i64 2))) : ACalls Tryd.prog gl 25 [.list (en1 .i64 ns) t] [] (fun x _ => K x) :=
  acalls_of_wpc2 (T := T4) (L := [([1, 0, 1, 0], wrong_l)]) (fun _ => 0) Tryd.func25 (by kernel_rfl) (by kernel_rfl) (by kernel_rfl) (T4_ok) (.cons (sub_of (by kernel_rfl)) wrong_l_ok (.nil _ _ _ _ _)) (holds_of_eq (wrong_red ns t K) h)
theorem wrong_ok : SpOk Tryd.prog gl 25 (.pure wrong_s) := by
  intro args K h
  unfold wrong_s at h
  split at h
  · rename_i es t
    obtain ⟨ns, rfl, hl, ht, h⟩ := h
    refine spure gl_low (by simp [low_list1 ht]) (.int _ _) (wrong_vc ns t _ ?_) h
    refine ⟨ns, t, hl, rfl, rfl, fun k => ?_, fun k i => ?_⟩
    · unfold wrong; rw [if_pos k]
    · unfold wrong; rw [if_neg (by rw [k]; decide)]
  · exact h.elim

-- are two rows alike?
def same_l : LSp := fun e H Q => ∃ (xs ys : List Int) (t u : Tail), LenOk xs ∧ xs.length = ys.length ∧ SlIs (List.map e [0, 1, 4, 5]) [.list (en1 .i64 xs) t, .list (en1 .i64 ys) u, .bool false, .int .i64 0] ∧ HpIs H [] ∧
  (xs = ys → Q (.exit 0) (envS [0, 1, 4, 5] [.list (en1 .i64 xs) t, .list (en1 .i64 ys) u, .bool false, .int .i64 xs.length]) []) ∧
  (xs ≠ ys → ∀ i : Int, Q .ret (envS [0, 1, 4, 5] [.list (en1 .i64 xs) t, .list (en1 .i64 ys) u, .bool false, .int .i64 i]) [])
def same_s (args : List PV) (K : PV → Prop) : Prop := match args with
  | [.list es t, .list fs u] => ∃ xs ys, es = en1 .i64 xs ∧ fs = en1 .i64 ys ∧ LenOk xs ∧ LenOk ys ∧ NT t ∧ NT u ∧ K (.bool (xs == ys))
  | _ => False
theorem samel_red (xs ys : List Int) (t u : Tail) (i : Nat) (R : Ex → List PV → Heap → Prop) : (br (decide ((↑i : Int) < (↑(List.length (en1 IntKind.i64 xs)) : Int))) (InL (en1 IntKind.i64 xs) 1 (↑i : Int) ∧ br (true && fitX [CK.int IntKind.i64] 0 (List.getD (en1 IntKind.i64 xs) (Int.toNat (↑i : Int)) [])) (InL (en1 IntKind.i64 ys) 1 (↑i : Int) ∧ br (true && fitX [CK.int IntKind.i64] 0 (List.getD (en1 IntKind.i64 ys) (Int.toNat (↑i : Int)) [])) (br (cI (List.getD (en1 IntKind.i64 xs) (Int.toNat (↑i : Int)) []) 0 != cI (List.getD (en1 IntKind.i64 ys) (Int.toNat (↑i : Int)) []) 0) (R Ex.ret [PV.list (en1 IntKind.i64 xs) t, PV.list (en1 IntKind.i64 ys) u, PV.bool false, PV.int IntKind.i64 (↑i : Int)] []) (R Ex.normal [PV.list (en1 IntKind.i64 xs) t, PV.list (en1 IntKind.i64 ys) u, PV.bool false, PV.int IntKind.i64 (wI ((↑i : Int) + 1))] [])) False) False) (R (Ex.exit 0) [PV.list (en1 IntKind.i64 xs) t, PV.list (en1 IntKind.i64 ys) u, PV.bool false, PV.int IntKind.i64 (↑i : Int)] [])) = wpc br Tryd.prog gl T4 [] (fun _ => 0) (subOf [1, 1, 0, 1, 0] (bodyOf Tryd.f21)) [] (envS [0, 1, 4, 5] [.list (en1 .i64 xs) t, .list (en1 .i64 ys) u, .bool false, .int .i64 i]) [] (fun ex e H => R ex (List.map e [0, 1, 4, 5]) H) := by kernel_rfl
theorem samel_vc (xs ys : List Int) (t u : Tail) (i : Nat) (R : Ex → List PV → Heap → Prop) (h : br (decide ((↑i : Int) < (↑(List.length (en1 IntKind.i64 xs)) : Int))) (InL (en1 IntKind.i64 xs) 1 (↑i : Int) ∧ br (true && fitX [CK.int IntKind.i64] 0 (List.getD (en1 IntKind.i64 xs) (Int.toNat (↑i : Int)) [])) (InL (en1 IntKind.i64 ys) 1 (↑i : Int) ∧ br (true && fitX [CK.int IntKind.i64] 0 (List.getD (en1 IntKind.i64 ys) (Int.toNat (↑i : Int)) [])) (br (cI (List.getD (en1 IntKind.i64 xs) (Int.toNat (↑i : Int)) []) 0 != cI (List.getD (en1 IntKind.i64 ys) (Int.toNat (↑i : Int)) []) 0) (R Ex.ret [PV.list (en1 IntKind.i64 xs) t, PV.list (en1 IntKind.i64 ys) u, PV.bool false, PV.int IntKind.i64 (↑i : Int)] []) (R Ex.normal [PV.list (en1 IntKind.i64 xs) t, PV.list (en1 IntKind.i64 ys) u, PV.bool false, PV.int IntKind.i64 (wI ((↑i : Int) + 1))] [])) False) False) (R (Ex.exit 0) [PV.list (en1 IntKind.i64 xs) t, PV.list (en1 IntKind.i64 ys) u, PV.bool false, PV.int IntKind.i64 (↑i : Int)] [])) : Holds (wpc br Tryd.prog gl T4 [] (fun _ => 0) (subOf [1, 1, 0, 1, 0] (bodyOf Tryd.f21)) [] (envS [0, 1, 4, 5] [.list (en1 .i64 xs) t, .list (en1 .i64 ys) u, .bool false, .int .i64 i]) [] (fun ex e H => R ex (List.map e [0, 1, 4, 5]) H)) := holds_of_eq (samel_red xs ys t u i R) h
theorem same_l_ok : ∀ e H Q, same_l e H Q → AW Tryd.prog gl Tryd.f21.ntmps (.loop (subOf [1, 1, 0, 1, 0] (bodyOf Tryd.f21))) Q e H := by
  rintro e H Q ⟨xs, ys, t, u, hl, hlen, he, hH, hQ, hR⟩
  refine aw_loop4 (hn := fun _ => 0) gl_low T4_ok (.nil _ _ _ _ _) (σ := Nat) [0, 1, 4, 5] (fun i => i ≤ xs.length ∧ (xs.drop i = ys.drop i ↔ xs = ys)) (fun i => [.list (en1 .i64 xs) t, .list (en1 .i64 ys) u, .bool false, .int .i64 i])
    (fun _ => []) (fun i => xs.length - i) 0 ⟨Nat.zero_le _, by simp⟩ he hH ?_
  rintro i ⟨h1, h2⟩
  refine samel_vc xs ys t u i _ ?_
  simp only [br_if, decide_eq_true_eq, en1_length, toNat_cast, cI_get, bne_iff_ne]
  by_cases c : i < xs.length
  · have c' : i < ys.length := by omega
    rw [if_pos (by omega), fit_get _ _ _ c, fit_get _ _ _ c']
    simp only [Bool.and_self, if_true]
    rw [drop_get c, drop_get c'] at h2
    refine ⟨en1_in _ _ _ (by omega) (by omega), en1_in _ _ _ (by omega) (by omega), ?_⟩
    by_cases d : xs.getD i 0 = ys.getD i 0
    · rw [if_neg (fun k => k d)]
      refine ⟨i + 1, (by omega : xs.length - (i + 1) < xs.length - i), ⟨by omega, by rw [← h2, d]; simp⟩, ?_, [], rfl, Nat.le_refl _, .inl rfl⟩
      rw [wI_succ c hl]
    · rw [if_pos d]
      exact hR (fun k => d (by rw [k])) i
  · rw [if_neg (by omega)]
    have e : i = xs.length := by omega
    subst e
    rw [List.drop_length, hlen, List.drop_length] at h2
    have hxy := h2.1 rfl
    exact hQ hxy
theorem same_red (xs ys : List Int) (t u : Tail) (K : PV → Prop) : (br ((↑(List.length (en1 IntKind.i64 xs)) : Int) != (↑(List.length (en1 IntKind.i64 ys)) : Int)) (K (PV.bool false)) (∃ (xs_1 : List Int), ∃ (ys_1 : List Int), ∃ (t_1 : Tail), ∃ (u_1 : Tail), LenOk xs_1 ∧ List.length xs_1 = List.length ys_1 ∧ SlIs [PV.list (en1 IntKind.i64 xs) t, PV.list (en1 IntKind.i64 ys) u, PV.bool false, PV.int IntKind.i64 0] [PV.list (en1 IntKind.i64 xs_1) t_1, PV.list (en1 IntKind.i64 ys_1) u_1, PV.bool false, PV.int IntKind.i64 0] ∧ HpIs [] [] ∧ (xs_1 = ys_1 → K (PV.bool true)) ∧ (xs_1 ≠ ys_1 → ∀ (_ : Int), K (PV.bool false)))) = wpc br Tryd.prog gl T4 [([1, 1, 0, 1, 0], same_l)] (fun _ => 0) (bodyOf Tryd.f21) [] (env0 [.list (en1 .i64 xs) t, .list (en1 .i64 ys) u]) [] (resQ Tryd.prog Tryd.f21.results.toList (fun x _ => K x)) := by kernel_rfl
theorem same_vc (xs ys : List Int) (t u : Tail) (K : PV → Prop) (h : br ((↑(List.length (en1 IntKind.i64 xs)) : Int) != (↑(List.length (en1 IntKind.i64 ys)) : Int)) (K (PV.bool false)) (∃ (xs_1 : List Int), ∃ (ys_1 : List Int), ∃ (t_1 : Tail), ∃ (u_1 : Tail), LenOk xs_1 ∧ List.length xs_1 = List.length ys_1 ∧ SlIs [PV.list (en1 IntKind.i64 xs) t, PV.list (en1 IntKind.i64 ys) u, PV.bool false, PV.int IntKind.i64 0] [PV.list (en1 IntKind.i64 xs_1) t_1, PV.list (en1 IntKind.i64 ys_1) u_1, PV.bool false, PV.int IntKind.i64 0] ∧ HpIs [] [] ∧ (xs_1 = ys_1 → K (PV.bool true)) ∧ (xs_1 ≠ ys_1 → ∀ (_ : Int), K (PV.bool false)))) : ACalls Tryd.prog gl 21 [.list (en1 .i64 xs) t, .list (en1 .i64 ys) u] [] (fun x _ => K x) :=
  acalls_of_wpc2 (T := T4) (L := [([1, 1, 0, 1, 0], same_l)]) (fun _ => 0) Tryd.func21 (by kernel_rfl) (by kernel_rfl) (by kernel_rfl) (T4_ok) (.cons (sub_of (by kernel_rfl)) same_l_ok (.nil _ _ _ _ _)) (holds_of_eq (same_red xs ys t u K) h)
theorem same_ok : SpOk Tryd.prog gl 21 (.pure same_s) := by
  intro args K h
  unfold same_s at h
  split at h
  · rename_i es t fs u
    obtain ⟨xs, ys, rfl, rfl, hl, hl2, ht, hu, h⟩ := h
    refine spure gl_low (by simp [low_list1 ht, low_list1 hu]) (.bool _) (same_vc xs ys t u _ ?_) h
    simp only [br_if, bne_iff_ne, en1_length]
    by_cases c : xs.length = ys.length
    · rw [if_neg (by omega)]
      refine ⟨xs, ys, t, u, hl, c, rfl, rfl, fun k => ?_, fun k i => ?_⟩
      · rw [show (xs == ys) = true by simpa using k]
      · rw [show (xs == ys) = false by simpa using k]
    · rw [if_pos (by omega)]
      rw [show (xs == ys) = false by simp; intro k; exact c (by rw [k])]
  · exact h.elim
def T5 : Tab := (25, .pure wrong_s) :: (21, .pure same_s) :: T4
theorem T5_ok : TabOk Tryd.prog gl T5 := .cons wrong_ok (.cons same_ok T4_ok)
-- a team's ratings with points
def shdF (n : Int) (p : Int) : Int → List Int → List Int
  | _, [] => []
  | k, r :: l => within (r + shr p n k) :: shdF n p (k + 1) l
def shd (ns : List Int) (p : Int) : List Int := shdF ns.length p 0 ns
theorem shdF_length (n p : Int) : ∀ (k : Int) (l : List Int), (shdF n p k l).length = l.length
  | _, [] => rfl
  | k, r :: l => by simp only [shdF, List.length_cons, shdF_length n p (k + 1) l]
theorem shdF_get (n p : Int) : ∀ (l : List Int) (k : Int) (i : Nat), i < l.length → (shdF n p k l).getD i 0 = within (l.getD i 0 + shr p n (k + i))
  | [], _, _, h => by simp at h
  | r :: l, k, 0, _ => by simp [shdF]
  | r :: l, k, i + 1, h => by
    have := shdF_get n p l (k + 1) i (by simpa using h)
    simp only [shdF, List.getD_cons_succ, this]
    congr 3; omega
def Ten (ns : List Int) : Prop := ns.length ≤ 1000
def Rt (ns : List Int) : Prop := ∀ r ∈ ns, 0 ≤ r ∧ r ≤ 10000
def shared_l : LSp := fun e H Q => ∃ (ns : List Int) (t : Tail) (p : Int), Ten ns ∧ P41 p ∧ Rt ns ∧ SlIs (List.map e [0, 1, 5, 11, 12, 13]) [.list (en1 .i64 ns) t, .int .i64 p, .arr 0 0 ns.length ns.length, .list (en1 .i64 ns) t, .int .i64 ns.length, .int .i64 0] ∧ HpIs H [.cells ((List.replicate ns.length (0 : Int)).map (PV.int .i64))] ∧
  Q (.exit 0) (envS [0, 1, 5, 11, 12, 13] [.list (en1 .i64 ns) t, .int .i64 p, .arr 0 0 ns.length ns.length, .list (en1 .i64 ns) t, .int .i64 ns.length, .int .i64 ns.length]) [.cells ((shd ns p).map (PV.int .i64))]
theorem sharedl_red (ns xs : List Int) (t : Tail) (p : Int) (i : Nat) (R : Ex → List PV → Heap → Prop) : (br (decide ((↑i : Int) < (↑(List.length ns) : Int))) (InL (en1 IntKind.i64 ns) 1 (↑i : Int) ∧ br (true && fitX [CK.int IntKind.i64] 0 (List.getD (en1 IntKind.i64 ns) (Int.toNat (↑i : Int)) [])) (P41 p ∧ (0 ≤ (↑i : Int) ∧ (↑i : Int) < (↑(List.length ns) : Int)) ∧ br (1 == 1 && List.all [PV.int IntKind.i64 (within (wI (cI (List.getD (en1 IntKind.i64 ns) (Int.toNat (↑i : Int)) []) 0 + shr p (↑(List.length (en1 IntKind.i64 ns)) : Int) (↑i : Int))))] PV.one && decide (0 + Int.toNat (↑i : Int) * 1 + 1 ≤ List.length (List.map (PV.int IntKind.i64) xs))) (R Ex.normal [PV.list (en1 IntKind.i64 ns) t, PV.int IntKind.i64 p, PV.arr 0 0 (List.length ns) (List.length ns), PV.list (en1 IntKind.i64 ns) t, PV.int IntKind.i64 (↑(List.length ns) : Int), PV.int IntKind.i64 (wI ((↑i : Int) + 1))] [Ob.cells (over (List.map (PV.int IntKind.i64) xs) (0 + Int.toNat (↑i : Int) * 1) [PV.int IntKind.i64 (within (wI (cI (List.getD (en1 IntKind.i64 ns) (Int.toNat (↑i : Int)) []) 0 + shr p (↑(List.length (en1 IntKind.i64 ns)) : Int) (↑i : Int))))])]) False) False) (R (Ex.exit 0) [PV.list (en1 IntKind.i64 ns) t, PV.int IntKind.i64 p, PV.arr 0 0 (List.length ns) (List.length ns), PV.list (en1 IntKind.i64 ns) t, PV.int IntKind.i64 (↑(List.length ns) : Int), PV.int IntKind.i64 (↑i : Int)] [Ob.cells (List.map (PV.int IntKind.i64) xs)])) = wpc br Tryd.prog gl T5 [] (fun _ => 0) (subOf [1, 1, 0, 1, 0] (bodyOf Tryd.f26)) [] (envS [0, 1, 5, 11, 12, 13] [.list (en1 .i64 ns) t, .int .i64 p, .arr 0 0 ns.length ns.length, .list (en1 .i64 ns) t, .int .i64 ns.length, .int .i64 i]) [.cells (xs.map (PV.int .i64))] (fun ex e H => R ex (List.map e [0, 1, 5, 11, 12, 13]) H) := by kernel_rfl
theorem sharedl_vc (ns xs : List Int) (t : Tail) (p : Int) (i : Nat) (R : Ex → List PV → Heap → Prop) (h : br (decide ((↑i : Int) < (↑(List.length ns) : Int))) (InL (en1 IntKind.i64 ns) 1 (↑i : Int) ∧ br (true && fitX [CK.int IntKind.i64] 0 (List.getD (en1 IntKind.i64 ns) (Int.toNat (↑i : Int)) [])) (P41 p ∧ (0 ≤ (↑i : Int) ∧ (↑i : Int) < (↑(List.length ns) : Int)) ∧ br (1 == 1 && List.all [PV.int IntKind.i64 (within (wI (cI (List.getD (en1 IntKind.i64 ns) (Int.toNat (↑i : Int)) []) 0 + shr p (↑(List.length (en1 IntKind.i64 ns)) : Int) (↑i : Int))))] PV.one && decide (0 + Int.toNat (↑i : Int) * 1 + 1 ≤ List.length (List.map (PV.int IntKind.i64) xs))) (R Ex.normal [PV.list (en1 IntKind.i64 ns) t, PV.int IntKind.i64 p, PV.arr 0 0 (List.length ns) (List.length ns), PV.list (en1 IntKind.i64 ns) t, PV.int IntKind.i64 (↑(List.length ns) : Int), PV.int IntKind.i64 (wI ((↑i : Int) + 1))] [Ob.cells (over (List.map (PV.int IntKind.i64) xs) (0 + Int.toNat (↑i : Int) * 1) [PV.int IntKind.i64 (within (wI (cI (List.getD (en1 IntKind.i64 ns) (Int.toNat (↑i : Int)) []) 0 + shr p (↑(List.length (en1 IntKind.i64 ns)) : Int) (↑i : Int))))])]) False) False) (R (Ex.exit 0) [PV.list (en1 IntKind.i64 ns) t, PV.int IntKind.i64 p, PV.arr 0 0 (List.length ns) (List.length ns), PV.list (en1 IntKind.i64 ns) t, PV.int IntKind.i64 (↑(List.length ns) : Int), PV.int IntKind.i64 (↑i : Int)] [Ob.cells (List.map (PV.int IntKind.i64) xs)])) : Holds (wpc br Tryd.prog gl T5 [] (fun _ => 0) (subOf [1, 1, 0, 1, 0] (bodyOf Tryd.f26)) [] (envS [0, 1, 5, 11, 12, 13] [.list (en1 .i64 ns) t, .int .i64 p, .arr 0 0 ns.length ns.length, .list (en1 .i64 ns) t, .int .i64 ns.length, .int .i64 i]) [.cells (xs.map (PV.int .i64))] (fun ex e H => R ex (List.map e [0, 1, 5, 11, 12, 13]) H)) := holds_of_eq (sharedl_red ns xs t p i R) h
theorem Rt.get {ns : List Int} (h : Rt ns) (i : Nat) : 0 ≤ ns.getD i 0 ∧ ns.getD i 0 ≤ 10000 := by
  rw [List.getD_eq_getElem?_getD]
  cases hq : ns[i]? with
  | none => simp
  | some r => exact h r (List.mem_iff_getElem?.2 ⟨i, hq⟩)
theorem shd_get {ns : List Int} {p : Int} {i : Nat} (h : i < ns.length) : (shd ns p).getD i 0 = within (ns.getD i 0 + shr p ns.length i) := by
  unfold shd; rw [shdF_get _ _ _ _ _ h]; congr 3; omega
theorem shd_length (ns : List Int) (p : Int) : (shd ns p).length = ns.length := shdF_length _ _ _ _
theorem take_set {xs T : List Int} {i : Nat} {v : Int} (hx : i < xs.length) (hT : i < T.length) (h : xs.take i = T.take i) (hv : T.getD i 0 = v) : (xs.set i v).take (i + 1) = T.take (i + 1) := by
  rw [List.take_succ_eq_append_getElem (by simpa using hx), List.take_succ_eq_append_getElem hT, List.take_set_of_le (Nat.le_refl _), h]
  congr 1
  rw [List.getElem_set_self]
  rw [List.getD_eq_getElem?_getD, List.getElem?_eq_getElem hT] at hv
  simp only [Option.getD_some] at hv
  rw [hv]
theorem shared_l_ok : ∀ e H Q, shared_l e H Q → AW Tryd.prog gl Tryd.f26.ntmps (.loop (subOf [1, 1, 0, 1, 0] (bodyOf Tryd.f26))) Q e H := by
  rintro e H Q ⟨ns, t, p, hl, hp, hr, he, hH, hQ⟩
  have hten : ns.length ≤ 1000 := hl
  refine aw_loop4 (hn := fun _ => 0) gl_low T5_ok (.nil _ _ _ _ _) (σ := Nat × List Int) [0, 1, 5, 11, 12, 13] (fun s => s.1 ≤ ns.length ∧ s.2.length = ns.length ∧ s.2.take s.1 = (shd ns p).take s.1)
    (fun s => [.list (en1 .i64 ns) t, .int .i64 p, .arr 0 0 ns.length ns.length, .list (en1 .i64 ns) t, .int .i64 ns.length, .int .i64 s.1])
    (fun s => [.cells (s.2.map (PV.int .i64))]) (fun s => ns.length - s.1) (0, List.replicate ns.length 0) ⟨Nat.zero_le _, by simp, by simp⟩ he hH ?_
  rintro ⟨i, xs⟩ ⟨h1, h2, h3⟩
  simp only at h1 h2 h3
  refine sharedl_vc ns xs t p i _ ?_
  have hsr := shr_range (p := p) (m := ns.length) (k := i) hp
  have hg := hr.get i
  have hs0 : ns.getD i 0 + shr p ns.length i ≤ 9223372036854775807 := by omega
  simp only [br_if, decide_eq_true_eq, en1_length, toNat_cast, cI_get, Nat.mul_one, Nat.zero_add, ints_len]
  by_cases c : i < ns.length
  · rw [if_pos (by omega), fit_get _ _ _ c, w_small (n := ns.getD i 0 + shr p ns.length i) (by omega) (by omega)]
    refine ⟨en1_in _ _ _ (by omega) (by omega), ?_⟩
    rw [if_pos (by rfl : (true && true) = true)]
    refine ⟨hp, ⟨by omega, by omega⟩, ?_⟩
    rw [if_pos (by simp [PV.one]; omega), over_ints _ _ _ _ (by omega)]
    refine ⟨(i + 1, xs.set i (within (ns.getD i 0 + shr p ns.length i))), (by simp only; omega), ⟨by simp only; omega, by simpa using h2, ?_⟩, ?_, [], rfl, Nat.le_refl _, .inl rfl⟩
    · exact take_set (by omega) (by rw [shd_length]; omega) h3 (shd_get c)
    · rw [wI_succ c (by omega)]
  · rw [if_neg (by omega)]
    have e : i = ns.length := by omega
    subst e
    rw [← h2, List.take_length, h2, ← shd_length ns p, List.take_length] at h3
    subst h3
    exact hQ
theorem shared_red (ns : List Int) (t : Tail) (p : Int) (K : PV → Heap → Prop) : (0 ≤ (↑(List.length (en1 IntKind.i64 ns)) : Int) ∧ (↑(List.length (en1 IntKind.i64 ns)) : Int) ≤ (↑(List.length (en1 IntKind.i64 ns)) : Int) ∧ (↑(List.length (en1 IntKind.i64 ns)) : Int) ≤ 140737488355328 ∧ (↑(List.length (en1 IntKind.i64 ns)) : Int) * 8 ≤ 140737488355328 ∧ ∃ (ns_1 : List Int), ∃ (t_1 : Tail), ∃ (p_1 : Int), Ten ns_1 ∧ P41 p_1 ∧ Rt ns_1 ∧ SlIs [PV.list (en1 IntKind.i64 ns) t, PV.int IntKind.i64 p, PV.arr 0 0 (Int.toNat (↑(List.length (en1 IntKind.i64 ns)) : Int)) (Int.toNat (↑(List.length (en1 IntKind.i64 ns)) : Int)), PV.list (en1 IntKind.i64 ns) t, PV.int IntKind.i64 (↑(List.length (en1 IntKind.i64 ns)) : Int), PV.int IntKind.i64 0] [PV.list (en1 IntKind.i64 ns_1) t_1, PV.int IntKind.i64 p_1, PV.arr 0 0 (List.length ns_1) (List.length ns_1), PV.list (en1 IntKind.i64 ns_1) t_1, PV.int IntKind.i64 (↑(List.length ns_1) : Int), PV.int IntKind.i64 0] ∧ HpIs [Ob.cells (List.flatten (List.replicate (Int.toNat (↑(List.length (en1 IntKind.i64 ns)) : Int)) [PV.int IntKind.i64 0]))] [Ob.cells (List.map (PV.int IntKind.i64) (List.replicate (List.length ns_1) 0))] ∧ K (PV.arr 0 0 (List.length ns_1) (List.length ns_1)) [Ob.cells (List.map (PV.int IntKind.i64) (shd ns_1 p_1))]) = wpc br Tryd.prog gl T5 [([1, 1, 0, 1, 0], shared_l)] (fun _ => 0) (bodyOf Tryd.f26) [] (env0 [.list (en1 .i64 ns) t, .int .i64 p]) [] (resQ Tryd.prog Tryd.f26.results.toList K) := by kernel_rfl
theorem shared_vc (ns : List Int) (t : Tail) (p : Int) (K : PV → Heap → Prop) (h : 0 ≤ (↑(List.length (en1 IntKind.i64 ns)) : Int) ∧ (↑(List.length (en1 IntKind.i64 ns)) : Int) ≤ (↑(List.length (en1 IntKind.i64 ns)) : Int) ∧ (↑(List.length (en1 IntKind.i64 ns)) : Int) ≤ 140737488355328 ∧ (↑(List.length (en1 IntKind.i64 ns)) : Int) * 8 ≤ 140737488355328 ∧ ∃ (ns_1 : List Int), ∃ (t_1 : Tail), ∃ (p_1 : Int), Ten ns_1 ∧ P41 p_1 ∧ Rt ns_1 ∧ SlIs [PV.list (en1 IntKind.i64 ns) t, PV.int IntKind.i64 p, PV.arr 0 0 (Int.toNat (↑(List.length (en1 IntKind.i64 ns)) : Int)) (Int.toNat (↑(List.length (en1 IntKind.i64 ns)) : Int)), PV.list (en1 IntKind.i64 ns) t, PV.int IntKind.i64 (↑(List.length (en1 IntKind.i64 ns)) : Int), PV.int IntKind.i64 0] [PV.list (en1 IntKind.i64 ns_1) t_1, PV.int IntKind.i64 p_1, PV.arr 0 0 (List.length ns_1) (List.length ns_1), PV.list (en1 IntKind.i64 ns_1) t_1, PV.int IntKind.i64 (↑(List.length ns_1) : Int), PV.int IntKind.i64 0] ∧ HpIs [Ob.cells (List.flatten (List.replicate (Int.toNat (↑(List.length (en1 IntKind.i64 ns)) : Int)) [PV.int IntKind.i64 0]))] [Ob.cells (List.map (PV.int IntKind.i64) (List.replicate (List.length ns_1) 0))] ∧ K (PV.arr 0 0 (List.length ns_1) (List.length ns_1)) [Ob.cells (List.map (PV.int IntKind.i64) (shd ns_1 p_1))]) : ACalls Tryd.prog gl 26 [.list (en1 .i64 ns) t, .int .i64 p] [] K :=
  acalls_of_wpc2 (T := T5) (L := [([1, 1, 0, 1, 0], shared_l)]) (fun _ => 0) Tryd.func26 (by kernel_rfl) (by kernel_rfl) (by kernel_rfl) (T5_ok) (.cons (sub_of (by kernel_rfl)) shared_l_ok (.nil _ _ _ _ _)) (holds_of_eq (shared_red ns t p K) h)
def shared_s (args : List PV) (K : PV → Prop) : Prop := match args with
  | [.list es t, .int .i64 p] => ∃ ns, es = en1 .i64 ns ∧ Ten ns ∧ P41 p ∧ Rt ns ∧ NT t ∧ K (.list (en1 .i64 (shd ns p)) .no)
  | _ => False
theorem shared_ok : SpOk Tryd.prog gl 26 (.pure shared_s) := by
  intro args K h
  unfold shared_s at h
  split at h
  · rename_i es t p
    obtain ⟨ns, rfl, hl, hp, hr, ht, h⟩ := h
    have hten : ns.length ≤ 1000 := hl
    refine spure gl_low (by simp [low_list1 ht, low_int]) (low_list1 NT.no) (acalls_freeze (K := fun x => x = .list (en1 .i64 (shd ns p)) .no) (shared_vc ns t p _ ?_)) h
    simp only [en1_length]
    refine ⟨by omega, by omega, by omega, by omega, ns, t, p, hl, hp, hr, rfl, ?_, ?_⟩
    · show _ = _
      rw [toNat_cast, flat_rep]
    · exact ⟨0, ns.length, ns.length, 1, _, [], en1 .i64 (shd ns p), rfl, rfl, en1_uni _ _, by rw [en1_length, shd_length], Nat.le_refl _, by rw [en1_flat, List.append_nil], rfl⟩
  · exact h.elim
def T6 : Tab := (26, .pure shared_s) :: T5
theorem T6_ok : TabOk Tryd.prog gl T6 := .cons shared_ok T5_ok
def hnU : Oper → Nat := fun o => match o.dst with | some 37 | some 39 | some 98 | some 118 => 1 | _ => 0
-- the ratings behind a result
def upd (a b : List Int) (r : Int) : List Int × List Int × Int :=
  if a.length < 1 ∨ b.length < 1 ∨ a.length > 4 ∨ b.length > 4 then ([], [], 21)
  else if okAll a = false ∨ okAll b = false ∨ r < 0 ∨ r > 2 then ([], [], 2)
  else (shd a (stk (mean a) (mean b) (mnI a.length b.length) r), shd b (-(stk (mean a) (mean b) (mnI a.length b.length) r)), 0)
def updPV (a b : List Int) (r : Int) : PV := .tup [.list (en1 .i64 (upd a b r).1) .no, .list (en1 .i64 (upd a b r).2.1) .no, .int .i64 (upd a b r).2.2]
def upd_s (args : List PV) (K : PV → Prop) : Prop := match args with
  | [.list es t, .list fs u, .int .i64 r] => ∃ a b, es = en1 .i64 a ∧ fs = en1 .i64 b ∧ LenOk a ∧ LenOk b ∧ NT t ∧ NT u ∧ K (updPV a b r)
  | _ => False
theorem okAll_rt : ∀ {ns : List Int}, okAll ns = true → Rt ns
  | [], _ => fun r h => by simp at h
  | r :: l, h => by
    simp only [okAll, Bool.and_eq_true, beq_iff_eq] at h
    intro q hq
    rcases List.mem_cons.1 hq with rfl | hq
    · have := within_range q; omega
    · exact okAll_rt h.2 q hq
theorem update_red (a b : List Int) (t u : Tail) (r : Int) (K : PV → Prop) : (br (decide (mnI (↑(List.length (en1 IntKind.i64 a)) : Int) (↑(List.length (en1 IntKind.i64 b)) : Int) < 1) == false) (br (decide (mxI (↑(List.length (en1 IntKind.i64 a)) : Int) (↑(List.length (en1 IntKind.i64 b)) : Int) > 4)) (K (PV.tup [PV.list [] Tail.exact, PV.list [] Tail.exact, PV.int IntKind.i64 21])) (∃ (ns : List Int), en1 IntKind.i64 a = en1 IntKind.i64 ns ∧ LenOk ns ∧ NT t ∧ br ((wrong ns != 0) == false) (∃ (ns : List Int), en1 IntKind.i64 b = en1 IntKind.i64 ns ∧ LenOk ns ∧ NT u ∧ br ((wrong ns != 0) == false) (br (decide (r < 0) == false) (br (decide (r > 2)) (K (PV.tup [PV.list [] Tail.exact, PV.list [] Tail.exact, PV.int IntKind.i64 2])) (∃ (ns : List Int), en1 IntKind.i64 a = en1 IntKind.i64 ns ∧ LenOk ns ∧ NT t ∧ ∃ (ns_1 : List Int), en1 IntKind.i64 b = en1 IntKind.i64 ns_1 ∧ LenOk ns_1 ∧ NT u ∧ ∃ (ns_2 : List Int), en1 IntKind.i64 a = en1 IntKind.i64 ns_2 ∧ Ten ns_2 ∧ P41 (stk (mean ns) (mean ns_1) (mnI (↑(List.length (en1 IntKind.i64 a)) : Int) (↑(List.length (en1 IntKind.i64 b)) : Int)) r) ∧ Rt ns_2 ∧ NT t ∧ ∃ (ns_3 : List Int), en1 IntKind.i64 b = en1 IntKind.i64 ns_3 ∧ Ten ns_3 ∧ P41 (wI (0 - stk (mean ns) (mean ns_1) (mnI (↑(List.length (en1 IntKind.i64 a)) : Int) (↑(List.length (en1 IntKind.i64 b)) : Int)) r)) ∧ Rt ns_3 ∧ NT u ∧ K (PV.tup [PV.list (en1 IntKind.i64 (shd ns_2 (stk (mean ns) (mean ns_1) (mnI (↑(List.length (en1 IntKind.i64 a)) : Int) (↑(List.length (en1 IntKind.i64 b)) : Int)) r))) Tail.no, PV.list (en1 IntKind.i64 (shd ns_3 (wI (0 - stk (mean ns) (mean ns_1) (mnI (↑(List.length (en1 IntKind.i64 a)) : Int) (↑(List.length (en1 IntKind.i64 b)) : Int)) r)))) Tail.no, PV.int IntKind.i64 0]))) (K (PV.tup [PV.list [] Tail.exact, PV.list [] Tail.exact, PV.int IntKind.i64 2]))) (K (PV.tup [PV.list [] Tail.exact, PV.list [] Tail.exact, PV.int IntKind.i64 2]))) (K (PV.tup [PV.list [] Tail.exact, PV.list [] Tail.exact, PV.int IntKind.i64 2])))) (K (PV.tup [PV.list [] Tail.exact, PV.list [] Tail.exact, PV.int IntKind.i64 21]))) = wpc br Tryd.prog gl T6 [] (fun _ => 0) (bodyOf Tryd.f19) [] (env0 [.list (en1 .i64 a) t, .list (en1 .i64 b) u, .int .i64 r]) [] (resQ Tryd.prog Tryd.f19.results.toList (fun x _ => K x)) := by kernel_rfl
theorem update_vc (a b : List Int) (t u : Tail) (r : Int) (K : PV → Prop) (h : br (decide (mnI (↑(List.length (en1 IntKind.i64 a)) : Int) (↑(List.length (en1 IntKind.i64 b)) : Int) < 1) == false) (br (decide (mxI (↑(List.length (en1 IntKind.i64 a)) : Int) (↑(List.length (en1 IntKind.i64 b)) : Int) > 4)) (K (PV.tup [PV.list [] Tail.exact, PV.list [] Tail.exact, PV.int IntKind.i64 21])) (∃ (ns : List Int), en1 IntKind.i64 a = en1 IntKind.i64 ns ∧ LenOk ns ∧ NT t ∧ br ((wrong ns != 0) == false) (∃ (ns : List Int), en1 IntKind.i64 b = en1 IntKind.i64 ns ∧ LenOk ns ∧ NT u ∧ br ((wrong ns != 0) == false) (br (decide (r < 0) == false) (br (decide (r > 2)) (K (PV.tup [PV.list [] Tail.exact, PV.list [] Tail.exact, PV.int IntKind.i64 2])) (∃ (ns : List Int), en1 IntKind.i64 a = en1 IntKind.i64 ns ∧ LenOk ns ∧ NT t ∧ ∃ (ns_1 : List Int), en1 IntKind.i64 b = en1 IntKind.i64 ns_1 ∧ LenOk ns_1 ∧ NT u ∧ ∃ (ns_2 : List Int), en1 IntKind.i64 a = en1 IntKind.i64 ns_2 ∧ Ten ns_2 ∧ P41 (stk (mean ns) (mean ns_1) (mnI (↑(List.length (en1 IntKind.i64 a)) : Int) (↑(List.length (en1 IntKind.i64 b)) : Int)) r) ∧ Rt ns_2 ∧ NT t ∧ ∃ (ns_3 : List Int), en1 IntKind.i64 b = en1 IntKind.i64 ns_3 ∧ Ten ns_3 ∧ P41 (wI (0 - stk (mean ns) (mean ns_1) (mnI (↑(List.length (en1 IntKind.i64 a)) : Int) (↑(List.length (en1 IntKind.i64 b)) : Int)) r)) ∧ Rt ns_3 ∧ NT u ∧ K (PV.tup [PV.list (en1 IntKind.i64 (shd ns_2 (stk (mean ns) (mean ns_1) (mnI (↑(List.length (en1 IntKind.i64 a)) : Int) (↑(List.length (en1 IntKind.i64 b)) : Int)) r))) Tail.no, PV.list (en1 IntKind.i64 (shd ns_3 (wI (0 - stk (mean ns) (mean ns_1) (mnI (↑(List.length (en1 IntKind.i64 a)) : Int) (↑(List.length (en1 IntKind.i64 b)) : Int)) r)))) Tail.no, PV.int IntKind.i64 0]))) (K (PV.tup [PV.list [] Tail.exact, PV.list [] Tail.exact, PV.int IntKind.i64 2]))) (K (PV.tup [PV.list [] Tail.exact, PV.list [] Tail.exact, PV.int IntKind.i64 2]))) (K (PV.tup [PV.list [] Tail.exact, PV.list [] Tail.exact, PV.int IntKind.i64 2])))) (K (PV.tup [PV.list [] Tail.exact, PV.list [] Tail.exact, PV.int IntKind.i64 21]))) : ACalls Tryd.prog gl 19 [.list (en1 .i64 a) t, .list (en1 .i64 b) u, .int .i64 r] [] (fun x _ => K x) :=
  acalls_of_wpc2 (T := T6) (L := []) (fun _ => 0) Tryd.func19 (by kernel_rfl) (by kernel_rfl) (by kernel_rfl) (T6_ok) (LOk.nil _ _ _ _ _) (holds_of_eq (update_red a b t u r K) h)
theorem update_ok : SpOk Tryd.prog gl 19 (.pure upd_s) := by
  intro args K h
  unfold upd_s at h
  split at h
  · rename_i es t fs u r
    obtain ⟨a, b, rfl, rfl, ha, hb, ht, hu, h⟩ := h
    have hlow : Low 0 (updPV a b r) := .tup _ (by simp [low_int, low_list1 NT.no])
    refine spure gl_low (by simp [low_list1 ht, low_list1 hu, low_int]) hlow (acalls_weak (K := fun x _ => x = updPV a b r) (update_vc a b t u r (fun x => ∃ x', Wk x x' ∧ x' = updPV a b r) ?_)) h
    have nilw : ∀ e : Int, Wk (.tup [.list [] .exact, .list [] .exact, .int .i64 e]) (.tup [.list (en1 .i64 []) .no, .list (en1 .i64 []) .no, .int .i64 e]) := fun e =>
      .tup (.cons (.list _ _) (.cons (.list _ _) (.cons (.refl _) .nil)))
    have bad : ∀ e : Int, upd a b r = ([], [], e) → ∃ x', Wk (.tup [.list [] .exact, .list [] .exact, .int .i64 e]) x' ∧ x' = updPV a b r := fun e he => ⟨_, nilw e, by unfold updPV; rw [he]⟩
    simp only [br_if, en1_length]
    by_cases c1 : mnI (a.length : Int) b.length < 1
    · rw [if_neg (by simp [c1])]
      exact bad 21 (by unfold upd; rw [if_pos (by unfold mnI at c1; split at c1 <;> omega)])
    · rw [if_pos (by simp; omega)]
      by_cases c2 : mxI (a.length : Int) b.length > 4
      · rw [if_pos (by simpa using c2)]
        exact bad 21 (by unfold upd; rw [if_pos (by unfold mxI at c2; split at c2 <;> omega)])
      · rw [if_neg (by simpa using c2)]
        have hlens : ¬ (a.length < 1 ∨ b.length < 1 ∨ a.length > 4 ∨ b.length > 4) := by
          unfold mnI at c1; unfold mxI at c2
          split at c1 <;> split at c2 <;> omega
        have b2 : (okAll a = false ∨ okAll b = false ∨ r < 0 ∨ r > 2) → upd a b r = ([], [], 2) := fun hc => by unfold upd; rw [if_neg hlens, if_pos hc]
        refine ⟨a, rfl, ha, ht, ?_⟩
        by_cases w1 : okAll a = true
        · rw [if_pos (by simp [wrong, w1])]
          refine ⟨b, rfl, hb, hu, ?_⟩
          by_cases w2 : okAll b = true
          · rw [if_pos (by simp [wrong, w2])]
            by_cases r1 : r < 0
            · rw [if_neg (by simp [r1])]; exact bad 2 (b2 (.inr (.inr (.inl r1))))
            · rw [if_pos (by simp; omega)]
              by_cases r2 : r > 2
              · rw [if_pos (by simpa using r2)]; exact bad 2 (b2 (.inr (.inr (.inr r2))))
              · rw [if_neg (by simpa using r2)]
                have hr := stk_range (mean a) (mean b) (mnI a.length b.length) r
                have e0 : wI (0 - stk (mean a) (mean b) (mnI a.length b.length) r) = -(stk (mean a) (mean b) (mnI a.length b.length) r) := by rw [w_small (by omega) (by omega)]; omega
                have e1 : upd a b r = (shd a (stk (mean a) (mean b) (mnI a.length b.length) r), shd b (-(stk (mean a) (mean b) (mnI a.length b.length) r)), 0) := by
                  unfold upd; rw [if_neg hlens, if_neg (by simp [w1, w2]; omega)]
                refine ⟨a, rfl, ha, ht, b, rfl, hb, hu, a, rfl, (by unfold Ten; omega), ⟨by omega, by omega⟩, okAll_rt w1, ht, b, rfl, (by unfold Ten; omega), ?_, okAll_rt w2, hu, _, .refl _, ?_⟩
                · rw [e0]; exact ⟨by omega, by omega⟩
                · rw [e0]; unfold updPV; rw [e1]
          · rw [if_neg (by simp [wrong, w2])]
            exact bad 2 (b2 (.inr (.inl (by simpa using w2))))
        · rw [if_neg (by simp [wrong, w1])]
          exact bad 2 (b2 (.inl (by simpa using w1)))
  · exact h.elim
theorem up1_red (a b l : List Int) (t u : Tail) (r : Int) (i : Nat) (R : Ex → List PV → Heap → Prop) : (br (decide ((↑i : Int) < (↑(List.length (en1 IntKind.i64 l)) : Int))) (InL (en1 IntKind.i64 l) 1 (↑i : Int) ∧ br (true && fitX [CK.int IntKind.i64] 0 (List.getD (en1 IntKind.i64 l) (Int.toNat (↑i : Int)) [])) (br (decide (cI (List.getD (en1 IntKind.i64 l) (Int.toNat (↑i : Int)) []) 0 < 0) == false) (InL (en1 IntKind.i64 l) 1 (↑i : Int) ∧ br (true && fitX [CK.int IntKind.i64] 0 (List.getD (en1 IntKind.i64 l) (Int.toNat (↑i : Int)) [])) (br (decide (cI (List.getD (en1 IntKind.i64 l) (Int.toNat (↑i : Int)) []) 0 > 10000)) (R Ex.ret [PV.list (en1 IntKind.i64 a) t, PV.list (en1 IntKind.i64 b) u, PV.int IntKind.i64 r, PV.list [] Tail.exact, PV.list [] Tail.exact, PV.int IntKind.i64 2, PV.list (en1 IntKind.i64 l) (Tail.tok 1), PV.int IntKind.i64 (↑i : Int)] [Ob.dead, Ob.tok]) (R Ex.normal [PV.list (en1 IntKind.i64 a) t, PV.list (en1 IntKind.i64 b) u, PV.int IntKind.i64 r, PV.list [] Tail.exact, PV.list [] Tail.exact, PV.int IntKind.i64 0, PV.list (en1 IntKind.i64 l) (Tail.tok 1), PV.int IntKind.i64 (wI ((↑i : Int) + 1))] [Ob.dead, Ob.tok])) False) (R Ex.ret [PV.list (en1 IntKind.i64 a) t, PV.list (en1 IntKind.i64 b) u, PV.int IntKind.i64 r, PV.list [] Tail.exact, PV.list [] Tail.exact, PV.int IntKind.i64 2, PV.list (en1 IntKind.i64 l) (Tail.tok 1), PV.int IntKind.i64 (↑i : Int)] [Ob.dead, Ob.tok])) False) (R (Ex.exit 0) [PV.list (en1 IntKind.i64 a) t, PV.list (en1 IntKind.i64 b) u, PV.int IntKind.i64 r, PV.list [] Tail.exact, PV.list [] Tail.exact, PV.int IntKind.i64 0, PV.list (en1 IntKind.i64 l) (Tail.tok 1), PV.int IntKind.i64 (↑i : Int)] [Ob.dead, Ob.tok])) = wpc br Tryd.prog gl T6 [] (hnU) (subOf [1, 1, 1, 0, 1, 0] (bodyOf Tryd.f20)) [] (envS [0, 1, 2, 6, 7, 8, 9, 10] [.list (en1 .i64 a) t, .list (en1 .i64 b) u, .int .i64 r, .list [] .exact, .list [] .exact, .int .i64 0, .list (en1 .i64 l) (.tok 1), .int .i64 i]) [.dead, .tok] (fun ex e H => R ex (List.map e [0, 1, 2, 6, 7, 8, 9, 10]) H) := by kernel_rfl
theorem up1_vc (a b l : List Int) (t u : Tail) (r : Int) (i : Nat) (R : Ex → List PV → Heap → Prop) (h : br (decide ((↑i : Int) < (↑(List.length (en1 IntKind.i64 l)) : Int))) (InL (en1 IntKind.i64 l) 1 (↑i : Int) ∧ br (true && fitX [CK.int IntKind.i64] 0 (List.getD (en1 IntKind.i64 l) (Int.toNat (↑i : Int)) [])) (br (decide (cI (List.getD (en1 IntKind.i64 l) (Int.toNat (↑i : Int)) []) 0 < 0) == false) (InL (en1 IntKind.i64 l) 1 (↑i : Int) ∧ br (true && fitX [CK.int IntKind.i64] 0 (List.getD (en1 IntKind.i64 l) (Int.toNat (↑i : Int)) [])) (br (decide (cI (List.getD (en1 IntKind.i64 l) (Int.toNat (↑i : Int)) []) 0 > 10000)) (R Ex.ret [PV.list (en1 IntKind.i64 a) t, PV.list (en1 IntKind.i64 b) u, PV.int IntKind.i64 r, PV.list [] Tail.exact, PV.list [] Tail.exact, PV.int IntKind.i64 2, PV.list (en1 IntKind.i64 l) (Tail.tok 1), PV.int IntKind.i64 (↑i : Int)] [Ob.dead, Ob.tok]) (R Ex.normal [PV.list (en1 IntKind.i64 a) t, PV.list (en1 IntKind.i64 b) u, PV.int IntKind.i64 r, PV.list [] Tail.exact, PV.list [] Tail.exact, PV.int IntKind.i64 0, PV.list (en1 IntKind.i64 l) (Tail.tok 1), PV.int IntKind.i64 (wI ((↑i : Int) + 1))] [Ob.dead, Ob.tok])) False) (R Ex.ret [PV.list (en1 IntKind.i64 a) t, PV.list (en1 IntKind.i64 b) u, PV.int IntKind.i64 r, PV.list [] Tail.exact, PV.list [] Tail.exact, PV.int IntKind.i64 2, PV.list (en1 IntKind.i64 l) (Tail.tok 1), PV.int IntKind.i64 (↑i : Int)] [Ob.dead, Ob.tok])) False) (R (Ex.exit 0) [PV.list (en1 IntKind.i64 a) t, PV.list (en1 IntKind.i64 b) u, PV.int IntKind.i64 r, PV.list [] Tail.exact, PV.list [] Tail.exact, PV.int IntKind.i64 0, PV.list (en1 IntKind.i64 l) (Tail.tok 1), PV.int IntKind.i64 (↑i : Int)] [Ob.dead, Ob.tok])) : Holds (wpc br Tryd.prog gl T6 [] (hnU) (subOf [1, 1, 1, 0, 1, 0] (bodyOf Tryd.f20)) [] (envS [0, 1, 2, 6, 7, 8, 9, 10] [.list (en1 .i64 a) t, .list (en1 .i64 b) u, .int .i64 r, .list [] .exact, .list [] .exact, .int .i64 0, .list (en1 .i64 l) (.tok 1), .int .i64 i]) [.dead, .tok] (fun ex e H => R ex (List.map e [0, 1, 2, 6, 7, 8, 9, 10]) H)) := holds_of_eq (up1_red a b l t u r i R) h
theorem up2a_red (a b : List Int) (t u : Tail) (n : Int) (R : Ex → List PV → Heap → Prop) : (br (decide (0 < (↑(List.length (en1 IntKind.i64 a)) : Int))) (InL (en1 IntKind.i64 a) 1 0 ∧ br (true && fitX [CK.int IntKind.i64] 0 (List.getD (en1 IntKind.i64 a) 0 [])) (P41 n ∧ AppL [] [[PV.int IntKind.i64 (rating (wI (cI (List.getD (en1 IntKind.i64 a) 0 []) 0 + shr n (↑(List.length (en1 IntKind.i64 a)) : Int) 0)))]] 1 8 ∧ (List.all [PV.int IntKind.i64 (rating (wI (cI (List.getD (en1 IntKind.i64 a) 0 []) 0 + shr n (↑(List.length (en1 IntKind.i64 a)) : Int) 0)))] PV.one = true ∧ [[PV.int IntKind.i64 (rating (wI (cI (List.getD (en1 IntKind.i64 a) 0 []) 0 + shr n (↑(List.length (en1 IntKind.i64 a)) : Int) 0)))]] ≠ []) ∧ R Ex.normal [PV.list (en1 IntKind.i64 a) t, PV.list (en1 IntKind.i64 b) u, PV.int IntKind.i64 n, PV.list [[PV.int IntKind.i64 (rating (wI (cI (List.getD (en1 IntKind.i64 a) 0 []) 0 + shr n (↑(List.length (en1 IntKind.i64 a)) : Int) 0)))]] (Tail.tok 2), PV.list [] Tail.exact, PV.int IntKind.i64 1] [Ob.dead, Ob.tok, Ob.tok]) False) (R (Ex.exit 2) [PV.list (en1 IntKind.i64 a) t, PV.list (en1 IntKind.i64 b) u, PV.int IntKind.i64 n, PV.list [] Tail.exact, PV.list [] Tail.exact, PV.int IntKind.i64 0] [Ob.dead, Ob.tok])) = wpc br Tryd.prog gl T6 [] (hnU) (subOf [1, 1, 1, 1, 1, 1, 1, 1, 1, 0, 1, 0] (bodyOf Tryd.f20)) [] (envS [0, 1, 12, 13, 14, 15] [.list (en1 .i64 a) t, .list (en1 .i64 b) u, .int .i64 n, .list [] .exact, .list [] .exact, .int .i64 0]) [.dead, .tok] (fun ex e H => R ex (List.map e [0, 1, 12, 13, 14, 15]) H) := by kernel_rfl
theorem up2a_vc (a b : List Int) (t u : Tail) (n : Int) (R : Ex → List PV → Heap → Prop) (h : br (decide (0 < (↑(List.length (en1 IntKind.i64 a)) : Int))) (InL (en1 IntKind.i64 a) 1 0 ∧ br (true && fitX [CK.int IntKind.i64] 0 (List.getD (en1 IntKind.i64 a) 0 [])) (P41 n ∧ AppL [] [[PV.int IntKind.i64 (rating (wI (cI (List.getD (en1 IntKind.i64 a) 0 []) 0 + shr n (↑(List.length (en1 IntKind.i64 a)) : Int) 0)))]] 1 8 ∧ (List.all [PV.int IntKind.i64 (rating (wI (cI (List.getD (en1 IntKind.i64 a) 0 []) 0 + shr n (↑(List.length (en1 IntKind.i64 a)) : Int) 0)))] PV.one = true ∧ [[PV.int IntKind.i64 (rating (wI (cI (List.getD (en1 IntKind.i64 a) 0 []) 0 + shr n (↑(List.length (en1 IntKind.i64 a)) : Int) 0)))]] ≠ []) ∧ R Ex.normal [PV.list (en1 IntKind.i64 a) t, PV.list (en1 IntKind.i64 b) u, PV.int IntKind.i64 n, PV.list [[PV.int IntKind.i64 (rating (wI (cI (List.getD (en1 IntKind.i64 a) 0 []) 0 + shr n (↑(List.length (en1 IntKind.i64 a)) : Int) 0)))]] (Tail.tok 2), PV.list [] Tail.exact, PV.int IntKind.i64 1] [Ob.dead, Ob.tok, Ob.tok]) False) (R (Ex.exit 2) [PV.list (en1 IntKind.i64 a) t, PV.list (en1 IntKind.i64 b) u, PV.int IntKind.i64 n, PV.list [] Tail.exact, PV.list [] Tail.exact, PV.int IntKind.i64 0] [Ob.dead, Ob.tok])) : Holds (wpc br Tryd.prog gl T6 [] (hnU) (subOf [1, 1, 1, 1, 1, 1, 1, 1, 1, 0, 1, 0] (bodyOf Tryd.f20)) [] (envS [0, 1, 12, 13, 14, 15] [.list (en1 .i64 a) t, .list (en1 .i64 b) u, .int .i64 n, .list [] .exact, .list [] .exact, .int .i64 0]) [.dead, .tok] (fun ex e H => R ex (List.map e [0, 1, 12, 13, 14, 15]) H)) := holds_of_eq (up2a_red a b t u n R) h
theorem up2b_red (a b x : List Int) (t u : Tail) (n : Int) (i : Nat) (R : Ex → List PV → Heap → Prop) : (br (decide ((↑i : Int) < (↑(List.length (en1 IntKind.i64 a)) : Int))) (InL (en1 IntKind.i64 a) 1 (↑i : Int) ∧ br (true && fitX [CK.int IntKind.i64] 0 (List.getD (en1 IntKind.i64 a) (Int.toNat (↑i : Int)) [])) (P41 n ∧ AppL (en1 IntKind.i64 x) [[PV.int IntKind.i64 (rating (wI (cI (List.getD (en1 IntKind.i64 a) (Int.toNat (↑i : Int)) []) 0 + shr n (↑(List.length (en1 IntKind.i64 a)) : Int) (↑i : Int))))]] 1 8 ∧ (List.all [PV.int IntKind.i64 (rating (wI (cI (List.getD (en1 IntKind.i64 a) (Int.toNat (↑i : Int)) []) 0 + shr n (↑(List.length (en1 IntKind.i64 a)) : Int) (↑i : Int))))] PV.one = true ∧ [[PV.int IntKind.i64 (rating (wI (cI (List.getD (en1 IntKind.i64 a) (Int.toNat (↑i : Int)) []) 0 + shr n (↑(List.length (en1 IntKind.i64 a)) : Int) (↑i : Int))))]] ≠ []) ∧ R Ex.normal [PV.list (en1 IntKind.i64 a) t, PV.list (en1 IntKind.i64 b) u, PV.int IntKind.i64 n, PV.list (en1 IntKind.i64 x ++ [[PV.int IntKind.i64 (rating (wI (cI (List.getD (en1 IntKind.i64 a) (Int.toNat (↑i : Int)) []) 0 + shr n (↑(List.length (en1 IntKind.i64 a)) : Int) (↑i : Int))))]]) (Tail.tok 3), PV.list [] Tail.exact, PV.int IntKind.i64 (wI ((↑i : Int) + 1))] [Ob.dead, Ob.tok, Ob.dead, Ob.tok]) False) (R (Ex.exit 2) [PV.list (en1 IntKind.i64 a) t, PV.list (en1 IntKind.i64 b) u, PV.int IntKind.i64 n, PV.list (en1 IntKind.i64 x) (Tail.tok 2), PV.list [] Tail.exact, PV.int IntKind.i64 (↑i : Int)] [Ob.dead, Ob.tok, Ob.tok])) = wpc br Tryd.prog gl T6 [] (hnU) (subOf [1, 1, 1, 1, 1, 1, 1, 1, 1, 0, 1, 0] (bodyOf Tryd.f20)) [] (envS [0, 1, 12, 13, 14, 15] [.list (en1 .i64 a) t, .list (en1 .i64 b) u, .int .i64 n, .list (en1 .i64 x) (.tok 2), .list [] .exact, .int .i64 i]) [.dead, .tok, .tok] (fun ex e H => R ex (List.map e [0, 1, 12, 13, 14, 15]) H) := by kernel_rfl
theorem up2b_vc (a b x : List Int) (t u : Tail) (n : Int) (i : Nat) (R : Ex → List PV → Heap → Prop) (h : br (decide ((↑i : Int) < (↑(List.length (en1 IntKind.i64 a)) : Int))) (InL (en1 IntKind.i64 a) 1 (↑i : Int) ∧ br (true && fitX [CK.int IntKind.i64] 0 (List.getD (en1 IntKind.i64 a) (Int.toNat (↑i : Int)) [])) (P41 n ∧ AppL (en1 IntKind.i64 x) [[PV.int IntKind.i64 (rating (wI (cI (List.getD (en1 IntKind.i64 a) (Int.toNat (↑i : Int)) []) 0 + shr n (↑(List.length (en1 IntKind.i64 a)) : Int) (↑i : Int))))]] 1 8 ∧ (List.all [PV.int IntKind.i64 (rating (wI (cI (List.getD (en1 IntKind.i64 a) (Int.toNat (↑i : Int)) []) 0 + shr n (↑(List.length (en1 IntKind.i64 a)) : Int) (↑i : Int))))] PV.one = true ∧ [[PV.int IntKind.i64 (rating (wI (cI (List.getD (en1 IntKind.i64 a) (Int.toNat (↑i : Int)) []) 0 + shr n (↑(List.length (en1 IntKind.i64 a)) : Int) (↑i : Int))))]] ≠ []) ∧ R Ex.normal [PV.list (en1 IntKind.i64 a) t, PV.list (en1 IntKind.i64 b) u, PV.int IntKind.i64 n, PV.list (en1 IntKind.i64 x ++ [[PV.int IntKind.i64 (rating (wI (cI (List.getD (en1 IntKind.i64 a) (Int.toNat (↑i : Int)) []) 0 + shr n (↑(List.length (en1 IntKind.i64 a)) : Int) (↑i : Int))))]]) (Tail.tok 3), PV.list [] Tail.exact, PV.int IntKind.i64 (wI ((↑i : Int) + 1))] [Ob.dead, Ob.tok, Ob.dead, Ob.tok]) False) (R (Ex.exit 2) [PV.list (en1 IntKind.i64 a) t, PV.list (en1 IntKind.i64 b) u, PV.int IntKind.i64 n, PV.list (en1 IntKind.i64 x) (Tail.tok 2), PV.list [] Tail.exact, PV.int IntKind.i64 (↑i : Int)] [Ob.dead, Ob.tok, Ob.tok])) : Holds (wpc br Tryd.prog gl T6 [] (hnU) (subOf [1, 1, 1, 1, 1, 1, 1, 1, 1, 0, 1, 0] (bodyOf Tryd.f20)) [] (envS [0, 1, 12, 13, 14, 15] [.list (en1 .i64 a) t, .list (en1 .i64 b) u, .int .i64 n, .list (en1 .i64 x) (.tok 2), .list [] .exact, .int .i64 i]) [.dead, .tok, .tok] (fun ex e H => R ex (List.map e [0, 1, 12, 13, 14, 15]) H)) := holds_of_eq (up2b_red a b x t u n i R) h
theorem up3a_red (b x : List Int) (u : Tail) (n : Int) (R : Ex → List PV → Heap → Prop) : (br (decide (0 < (↑(List.length (en1 IntKind.i64 b)) : Int))) (InL (en1 IntKind.i64 b) 1 0 ∧ br (true && fitX [CK.int IntKind.i64] 0 (List.getD (en1 IntKind.i64 b) 0 [])) (P41 n ∧ AppL [] [[PV.int IntKind.i64 (rating (wI (cI (List.getD (en1 IntKind.i64 b) 0 []) 0 - shr n (↑(List.length (en1 IntKind.i64 b)) : Int) 0)))]] 1 8 ∧ (List.all [PV.int IntKind.i64 (rating (wI (cI (List.getD (en1 IntKind.i64 b) 0 []) 0 - shr n (↑(List.length (en1 IntKind.i64 b)) : Int) 0)))] PV.one = true ∧ [[PV.int IntKind.i64 (rating (wI (cI (List.getD (en1 IntKind.i64 b) 0 []) 0 - shr n (↑(List.length (en1 IntKind.i64 b)) : Int) 0)))]] ≠ []) ∧ R Ex.normal [PV.list (en1 IntKind.i64 b) u, PV.int IntKind.i64 n, PV.list (en1 IntKind.i64 x) (Tail.tok 2), PV.list [[PV.int IntKind.i64 (rating (wI (cI (List.getD (en1 IntKind.i64 b) 0 []) 0 - shr n (↑(List.length (en1 IntKind.i64 b)) : Int) 0)))]] (Tail.tok 3), PV.int IntKind.i64 1] [Ob.dead, Ob.tok, Ob.tok, Ob.tok]) False) (R (Ex.exit 4) [PV.list (en1 IntKind.i64 b) u, PV.int IntKind.i64 n, PV.list (en1 IntKind.i64 x) (Tail.tok 2), PV.list [] Tail.exact, PV.int IntKind.i64 0] [Ob.dead, Ob.tok, Ob.tok])) = wpc br Tryd.prog gl T6 [] (hnU) (subOf [1, 1, 1, 1, 1, 1, 1, 1, 1, 1, 0, 1, 0] (bodyOf Tryd.f20)) [] (envS [1, 12, 13, 14, 16] [.list (en1 .i64 b) u, .int .i64 n, .list (en1 .i64 x) (.tok 2), .list [] .exact, .int .i64 0]) [.dead, .tok, .tok] (fun ex e H => R ex (List.map e [1, 12, 13, 14, 16]) H) := by kernel_rfl
theorem up3a_vc (b x : List Int) (u : Tail) (n : Int) (R : Ex → List PV → Heap → Prop) (h : br (decide (0 < (↑(List.length (en1 IntKind.i64 b)) : Int))) (InL (en1 IntKind.i64 b) 1 0 ∧ br (true && fitX [CK.int IntKind.i64] 0 (List.getD (en1 IntKind.i64 b) 0 [])) (P41 n ∧ AppL [] [[PV.int IntKind.i64 (rating (wI (cI (List.getD (en1 IntKind.i64 b) 0 []) 0 - shr n (↑(List.length (en1 IntKind.i64 b)) : Int) 0)))]] 1 8 ∧ (List.all [PV.int IntKind.i64 (rating (wI (cI (List.getD (en1 IntKind.i64 b) 0 []) 0 - shr n (↑(List.length (en1 IntKind.i64 b)) : Int) 0)))] PV.one = true ∧ [[PV.int IntKind.i64 (rating (wI (cI (List.getD (en1 IntKind.i64 b) 0 []) 0 - shr n (↑(List.length (en1 IntKind.i64 b)) : Int) 0)))]] ≠ []) ∧ R Ex.normal [PV.list (en1 IntKind.i64 b) u, PV.int IntKind.i64 n, PV.list (en1 IntKind.i64 x) (Tail.tok 2), PV.list [[PV.int IntKind.i64 (rating (wI (cI (List.getD (en1 IntKind.i64 b) 0 []) 0 - shr n (↑(List.length (en1 IntKind.i64 b)) : Int) 0)))]] (Tail.tok 3), PV.int IntKind.i64 1] [Ob.dead, Ob.tok, Ob.tok, Ob.tok]) False) (R (Ex.exit 4) [PV.list (en1 IntKind.i64 b) u, PV.int IntKind.i64 n, PV.list (en1 IntKind.i64 x) (Tail.tok 2), PV.list [] Tail.exact, PV.int IntKind.i64 0] [Ob.dead, Ob.tok, Ob.tok])) : Holds (wpc br Tryd.prog gl T6 [] (hnU) (subOf [1, 1, 1, 1, 1, 1, 1, 1, 1, 1, 0, 1, 0] (bodyOf Tryd.f20)) [] (envS [1, 12, 13, 14, 16] [.list (en1 .i64 b) u, .int .i64 n, .list (en1 .i64 x) (.tok 2), .list [] .exact, .int .i64 0]) [.dead, .tok, .tok] (fun ex e H => R ex (List.map e [1, 12, 13, 14, 16]) H)) := holds_of_eq (up3a_red b x u n R) h
theorem up3b_red (b x y : List Int) (u : Tail) (n : Int) (i : Nat) (R : Ex → List PV → Heap → Prop) : (br (decide ((↑i : Int) < (↑(List.length (en1 IntKind.i64 b)) : Int))) (InL (en1 IntKind.i64 b) 1 (↑i : Int) ∧ br (true && fitX [CK.int IntKind.i64] 0 (List.getD (en1 IntKind.i64 b) (Int.toNat (↑i : Int)) [])) (P41 n ∧ AppL (en1 IntKind.i64 y) [[PV.int IntKind.i64 (rating (wI (cI (List.getD (en1 IntKind.i64 b) (Int.toNat (↑i : Int)) []) 0 - shr n (↑(List.length (en1 IntKind.i64 b)) : Int) (↑i : Int))))]] 1 8 ∧ (List.all [PV.int IntKind.i64 (rating (wI (cI (List.getD (en1 IntKind.i64 b) (Int.toNat (↑i : Int)) []) 0 - shr n (↑(List.length (en1 IntKind.i64 b)) : Int) (↑i : Int))))] PV.one = true ∧ [[PV.int IntKind.i64 (rating (wI (cI (List.getD (en1 IntKind.i64 b) (Int.toNat (↑i : Int)) []) 0 - shr n (↑(List.length (en1 IntKind.i64 b)) : Int) (↑i : Int))))]] ≠ []) ∧ R Ex.normal [PV.list (en1 IntKind.i64 b) u, PV.int IntKind.i64 n, PV.list (en1 IntKind.i64 x) (Tail.tok 2), PV.list (en1 IntKind.i64 y ++ [[PV.int IntKind.i64 (rating (wI (cI (List.getD (en1 IntKind.i64 b) (Int.toNat (↑i : Int)) []) 0 - shr n (↑(List.length (en1 IntKind.i64 b)) : Int) (↑i : Int))))]]) (Tail.tok 4), PV.int IntKind.i64 (wI ((↑i : Int) + 1))] [Ob.dead, Ob.tok, Ob.tok, Ob.dead, Ob.tok]) False) (R (Ex.exit 4) [PV.list (en1 IntKind.i64 b) u, PV.int IntKind.i64 n, PV.list (en1 IntKind.i64 x) (Tail.tok 2), PV.list (en1 IntKind.i64 y) (Tail.tok 3), PV.int IntKind.i64 (↑i : Int)] [Ob.dead, Ob.tok, Ob.tok, Ob.tok])) = wpc br Tryd.prog gl T6 [] (hnU) (subOf [1, 1, 1, 1, 1, 1, 1, 1, 1, 1, 0, 1, 0] (bodyOf Tryd.f20)) [] (envS [1, 12, 13, 14, 16] [.list (en1 .i64 b) u, .int .i64 n, .list (en1 .i64 x) (.tok 2), .list (en1 .i64 y) (.tok 3), .int .i64 i]) [.dead, .tok, .tok, .tok] (fun ex e H => R ex (List.map e [1, 12, 13, 14, 16]) H) := by kernel_rfl
theorem up3b_vc (b x y : List Int) (u : Tail) (n : Int) (i : Nat) (R : Ex → List PV → Heap → Prop) (h : br (decide ((↑i : Int) < (↑(List.length (en1 IntKind.i64 b)) : Int))) (InL (en1 IntKind.i64 b) 1 (↑i : Int) ∧ br (true && fitX [CK.int IntKind.i64] 0 (List.getD (en1 IntKind.i64 b) (Int.toNat (↑i : Int)) [])) (P41 n ∧ AppL (en1 IntKind.i64 y) [[PV.int IntKind.i64 (rating (wI (cI (List.getD (en1 IntKind.i64 b) (Int.toNat (↑i : Int)) []) 0 - shr n (↑(List.length (en1 IntKind.i64 b)) : Int) (↑i : Int))))]] 1 8 ∧ (List.all [PV.int IntKind.i64 (rating (wI (cI (List.getD (en1 IntKind.i64 b) (Int.toNat (↑i : Int)) []) 0 - shr n (↑(List.length (en1 IntKind.i64 b)) : Int) (↑i : Int))))] PV.one = true ∧ [[PV.int IntKind.i64 (rating (wI (cI (List.getD (en1 IntKind.i64 b) (Int.toNat (↑i : Int)) []) 0 - shr n (↑(List.length (en1 IntKind.i64 b)) : Int) (↑i : Int))))]] ≠ []) ∧ R Ex.normal [PV.list (en1 IntKind.i64 b) u, PV.int IntKind.i64 n, PV.list (en1 IntKind.i64 x) (Tail.tok 2), PV.list (en1 IntKind.i64 y ++ [[PV.int IntKind.i64 (rating (wI (cI (List.getD (en1 IntKind.i64 b) (Int.toNat (↑i : Int)) []) 0 - shr n (↑(List.length (en1 IntKind.i64 b)) : Int) (↑i : Int))))]]) (Tail.tok 4), PV.int IntKind.i64 (wI ((↑i : Int) + 1))] [Ob.dead, Ob.tok, Ob.tok, Ob.dead, Ob.tok]) False) (R (Ex.exit 4) [PV.list (en1 IntKind.i64 b) u, PV.int IntKind.i64 n, PV.list (en1 IntKind.i64 x) (Tail.tok 2), PV.list (en1 IntKind.i64 y) (Tail.tok 3), PV.int IntKind.i64 (↑i : Int)] [Ob.dead, Ob.tok, Ob.tok, Ob.tok])) : Holds (wpc br Tryd.prog gl T6 [] (hnU) (subOf [1, 1, 1, 1, 1, 1, 1, 1, 1, 1, 0, 1, 0] (bodyOf Tryd.f20)) [] (envS [1, 12, 13, 14, 16] [.list (en1 .i64 b) u, .int .i64 n, .list (en1 .i64 x) (.tok 2), .list (en1 .i64 y) (.tok 3), .int .i64 i]) [.dead, .tok, .tok, .tok] (fun ex e H => R ex (List.map e [1, 12, 13, 14, 16]) H)) := holds_of_eq (up3b_red b x y u n i R) h
theorem okAll_step2 {ns : List Int} {i : Nat} (h : i < ns.length) : okAll (ns.drop i) = ((ns.getD i 0 == within (ns.getD i 0)) && okAll (ns.drop (i + 1))) := by rw [drop_get h]; rfl
theorem within_fix {n : Int} : n = within n ↔ ¬ n < 0 ∧ ¬ n > 10000 := by
  unfold within mnI mxI; (repeat' split) <;> omega
def up1_l : LSp := fun e H Q => ∃ (a b l : List Int) (t u : Tail) (r : Int), LenOk l ∧ SlIs (List.map e [0, 1, 2, 6, 7, 8, 9, 10]) [.list (en1 .i64 a) t, .list (en1 .i64 b) u, .int .i64 r, .list [] .exact, .list [] .exact, .int .i64 0, .list (en1 .i64 l) (.tok 1), .int .i64 0] ∧ HpIs H [.dead, .tok] ∧
  (okAll l = true → Q (.exit 0) (envS [0, 1, 2, 6, 7, 8, 9, 10] [.list (en1 .i64 a) t, .list (en1 .i64 b) u, .int .i64 r, .list [] .exact, .list [] .exact, .int .i64 0, .list (en1 .i64 l) (.tok 1), .int .i64 l.length]) [.dead, .tok]) ∧
  (okAll l = false → ∀ i : Int, Q .ret (envS [0, 1, 2, 6, 7, 8, 9, 10] [.list (en1 .i64 a) t, .list (en1 .i64 b) u, .int .i64 r, .list [] .exact, .list [] .exact, .int .i64 2, .list (en1 .i64 l) (.tok 1), .int .i64 i]) [.dead, .tok])
theorem up1_l_ok : ∀ e H Q, up1_l e H Q → AW Tryd.prog gl Tryd.f20.ntmps (.loop (subOf [1, 1, 1, 0, 1, 0] (bodyOf Tryd.f20))) Q e H := by
  rintro e H Q ⟨a, b, l, t, u, r, hl, he, hH, hQ, hR⟩
  refine aw_loop4 (hn := hnU) gl_low T6_ok (.nil _ _ _ _ _) (σ := Nat) [0, 1, 2, 6, 7, 8, 9, 10] (fun i => i ≤ l.length ∧ okAll (l.drop i) = okAll l) (fun i => [.list (en1 .i64 a) t, .list (en1 .i64 b) u, .int .i64 r, .list [] .exact, .list [] .exact, .int .i64 0, .list (en1 .i64 l) (.tok 1), .int .i64 i])
    (fun _ => [.dead, .tok]) (fun i => l.length - i) 0 ⟨Nat.zero_le _, rfl⟩ he hH ?_
  rintro i ⟨h1, h2⟩
  refine up1_vc a b l t u r i _ ?_
  simp only [br_if, en1_length, toNat_cast, cI_get]
  by_cases c : i < l.length
  · rw [if_pos (by simp; omega), fit_get _ _ _ c]
    have hin := en1_in .i64 l i (by omega) (by omega)
    refine ⟨hin, ?_⟩
    rw [if_pos (by rfl : (true && true) = true)]
    rw [okAll_step2 c] at h2
    generalize l.getD i 0 = v at h2 ⊢
    by_cases d1 : v < 0
    · rw [if_neg (by simp [d1])]
      rw [show (v == within v) = false by simp; rw [within_fix]; omega, Bool.false_and] at h2
      exact hR h2.symm i
    · rw [if_pos (by simp; omega)]
      refine ⟨hin, ?_⟩
      rw [if_pos (by rfl : (true && true) = true)]
      by_cases d2 : v > 10000
      · rw [if_pos (by simp; omega)]
        rw [show (v == within v) = false by simp; rw [within_fix]; omega, Bool.false_and] at h2
        exact hR h2.symm i
      · rw [if_neg (by simp; omega)]
        rw [show (v == within v) = true by simp; rw [within_fix]; omega, Bool.true_and] at h2
        refine ⟨i + 1, (by omega : l.length - (i + 1) < l.length - i), ⟨by omega, h2⟩, ?_, [], rfl, Nat.le_refl _, .inl rfl⟩
        rw [wI_succ c hl]
  · rw [if_neg (by simp; omega)]
    have e : i = l.length := by omega
    subst e
    rw [List.drop_length] at h2
    exact hQ h2.symm
-- the growing rows
def tlU (n0 : Nat) (i : Nat) : Tail := match i with
  | 0 => .exact
  | _ + 1 => .tok n0
def hpU (B : Heap) (i : Nat) : Heap := match i with
  | 0 => B
  | _ + 1 => B ++ [.tok]
theorem take_succ_getD {T : List Int} {i : Nat} (h : i < T.length) : T.take (i + 1) = T.take i ++ [T.getD i 0] := by
  rw [List.take_succ_eq_append_getElem h, List.getD_eq_getElem?_getD, List.getElem?_eq_getElem h]; rfl
theorem en1_snoc (x : List Int) (v : Int) : en1 .i64 x ++ [[PV.int .i64 v]] = en1 .i64 (x ++ [v]) := by simp [en1]
theorem appL1 (x : List Int) (v : Int) (h : x.length ≤ 1000) : AppL (en1 .i64 x) [[PV.int .i64 v]] 1 8 := by
  refine ⟨en1_uni _ _, by intro e he; simp at he; subst he; rfl, ?_⟩
  rw [en1_length]; simp; omega
def up2_l : LSp := fun e H Q => ∃ (a b : List Int) (t u : Tail) (n : Int), Ten a ∧ a ≠ [] ∧ P41 n ∧ Rt a ∧ NT t ∧ NT u ∧ SlIs (List.map e [0, 1, 12, 13, 14, 15]) [.list (en1 .i64 a) t, .list (en1 .i64 b) u, .int .i64 n, .list [] .exact, .list [] .exact, .int .i64 0] ∧ HpIs H [.dead, .tok] ∧
  Q (.exit 2) (envS [0, 1, 12, 13, 14, 15] [.list (en1 .i64 a) t, .list (en1 .i64 b) u, .int .i64 n, .list (en1 .i64 (shd a n)) (.tok 2), .list [] .exact, .int .i64 a.length]) [.dead, .tok, .tok]
theorem up2_l_ok : ∀ e H Q, up2_l e H Q → AW Tryd.prog gl Tryd.f20.ntmps (.loop (subOf [1, 1, 1, 1, 1, 1, 1, 1, 1, 0, 1, 0] (bodyOf Tryd.f20))) Q e H := by
  rintro e H Q ⟨a, b, t, u, n, hl, hne, hp, hr, ht, hu, he, hH, hQ⟩
  have hten : a.length ≤ 1000 := hl
  have hpos : 0 < a.length := List.length_pos_iff.2 hne
  have hH2 : H = [.dead, .tok] := hH
  refine aw_loop5 (hn := hnU) gl_low T6_ok (.nil _ _ _ _ _) (σ := Nat × List Int) [0, 1, 12, 13, 14, 15] (fun s => s.1 ≤ a.length ∧ s.2 = (shd a n).take s.1) (fun s => [.list (en1 .i64 a) t, .list (en1 .i64 b) u, .int .i64 n, .list (en1 .i64 s.2) (tlU 2 s.1), .list [] .exact, .int .i64 s.1])
    (fun s => hpU [.dead, .tok] s.1) (fun s => a.length - s.1) (0, []) ⟨Nat.zero_le _, by simp⟩ he hH ?_
  rw [hH2]
  have hv : ∀ i, i < a.length → rating (wI (a.getD i 0 + shr n a.length i)) = (shd a n).getD i 0 := fun i hi => by
    have hg := hr.get i
    have hs := shr_range (p := n) (m := a.length) (k := i) hp
    rw [rating_eq, shd_get hi, w_small (by omega) (by omega)]
  have lows : ∀ {x : PV} {xs xs' : List PV}, RVs 2 2 xs' xs → RVs 2 2 xs' xs := fun h => h
  rintro ⟨i, x⟩ ⟨h1, h2⟩
  simp only at h1 h2
  cases i with
  | zero =>
    have hx : x = [] := by simpa using h2
    subst hx
    refine up2a_vc a b t u n _ ?_
    simp only [br_if, en1_length, cI_get]
    rw [if_pos (by simpa using hpos), fit_get _ _ _ hpos, if_pos (by rfl : (true && true) = true), show shr n (a.length : Int) 0 = shr n (a.length : Int) ((0 : Nat) : Int) from rfl, hv 0 hpos]
    refine ⟨en1_in _ _ _ (by omega) (by omega), hp, appL1 [] _ (by simp), ⟨by simp [PV.one], by simp⟩, ?_⟩
    refine ⟨(1, [(shd a n).getD 0 0]), by simp only; omega, ⟨by simp only; omega, ?_⟩, ?_⟩
    · have := take_succ_getD (T := shd a n) (i := 0) (by rw [shd_length]; omega)
      simpa using this.symm
    · exact relab_row (n0 := 2) (B := [.dead, .tok]) (X := [.tok]) (k := 2) rfl (low_nil_cells rfl) (Nat.le_refl _) rfl
        (.same (low_list1 ht) (.same (low_list1 hu) (.same (.int _ _) (.row (low_en1 .i64 [(shd a n).getD 0 0]) (.same (low_list1 (ns := []) (k := .i64) NT.exact) (.same (.int _ _) .nil))))))
  | succ i =>
    refine up2b_vc a b x t u n (i + 1) _ ?_
    simp only [br_if, en1_length, cI_get, toNat_cast]
    by_cases c : i + 1 < a.length
    · rw [if_pos (by simp; omega), fit_get _ _ _ c, if_pos (by rfl : (true && true) = true), hv (i + 1) c]
      have hxl : x.length ≤ 1000 := by rw [h2]; simp; omega
      refine ⟨en1_in _ _ _ (by omega) (by omega), hp, appL1 _ _ hxl, ⟨by simp [PV.one], by simp⟩, ?_⟩
      refine ⟨(i + 2, x ++ [(shd a n).getD (i + 1) 0]), by simp only; omega, ⟨by simp only; omega, ?_⟩, ?_⟩
      · rw [h2]; exact (take_succ_getD (by rw [shd_length]; omega)).symm
      · rw [en1_snoc, wI_succ c (by omega)]
        exact relab_row (n0 := 2) (B := [.dead, .tok]) (X := [.dead, .tok]) (k := 3) rfl (low_nil_cells rfl) (by omega) rfl
          (.same (low_list1 ht) (.same (low_list1 hu) (.same (.int _ _) (.row (low_en1 .i64 _) (.same (low_list1 (ns := []) (k := .i64) NT.exact) (.same (.int _ _) .nil))))))
    · rw [if_neg (by simp; omega)]
      have e : i + 1 = a.length := by omega
      rw [e, ← shd_length a n, List.take_length] at h2
      subst h2
      have e2 : (((i + 1 : Nat)) : Int) = (a.length : Int) := by rw [e]
      show Q _ _ _
      rw [← e2] at hQ
      exact hQ
theorem shp_zero (m k : Int) (hk : ¬ k < 0) : shp 0 m k = 0 := by unfold shp; simp [hk]
theorem shr_neg (p m k : Int) : shr (-p) m k = -(shr p m k) := by
  unfold shr
  by_cases c : k < 0 ∨ k ≥ m
  · rw [if_pos c, if_pos c]; rfl
  · rw [if_neg c, if_neg c]
    by_cases h : p < 0
    · rw [if_pos h, if_neg (by omega)]; omega
    · by_cases h0 : p = 0
      · subst h0; simp [shp_zero m k (by omega)]
      · rw [if_neg h, if_pos (by omega), Int.neg_neg]
theorem P41.neg {p : Int} (h : P41 p) : P41 (-p) := by unfold P41 at *; omega
theorem low_tok {n0 o : Nat} {ns : List Int} (h : o < n0) : Low n0 (.list (en1 .i64 ns) (.tok o)) := .list _ _ (fun o' e => by cases e; exact h) (low_en1 .i64 ns)
def up3_l : LSp := fun e H Q => ∃ (b x : List Int) (u : Tail) (n : Int), Ten b ∧ b ≠ [] ∧ P41 n ∧ Rt b ∧ NT u ∧ SlIs (List.map e [1, 12, 13, 14, 16]) [.list (en1 .i64 b) u, .int .i64 n, .list (en1 .i64 x) (.tok 2), .list [] .exact, .int .i64 0] ∧ HpIs H [.dead, .tok, .tok] ∧
  Q (.exit 4) (envS [1, 12, 13, 14, 16] [.list (en1 .i64 b) u, .int .i64 n, .list (en1 .i64 x) (.tok 2), .list (en1 .i64 (shd b (-n))) (.tok 3), .int .i64 b.length]) [.dead, .tok, .tok, .tok]
theorem up3_l_ok : ∀ e H Q, up3_l e H Q → AW Tryd.prog gl Tryd.f20.ntmps (.loop (subOf [1, 1, 1, 1, 1, 1, 1, 1, 1, 1, 0, 1, 0] (bodyOf Tryd.f20))) Q e H := by
  rintro e H Q ⟨b, x, u, n, hl, hne, hp, hr, hu, he, hH, hQ⟩
  have hten : b.length ≤ 1000 := hl
  have hpos : 0 < b.length := List.length_pos_iff.2 hne
  have hH2 : H = [.dead, .tok, .tok] := hH
  refine aw_loop5 (hn := hnU) gl_low T6_ok (.nil _ _ _ _ _) (σ := Nat × List Int) [1, 12, 13, 14, 16] (fun s => s.1 ≤ b.length ∧ s.2 = (shd b (-n)).take s.1) (fun s => [.list (en1 .i64 b) u, .int .i64 n, .list (en1 .i64 x) (.tok 2), .list (en1 .i64 s.2) (tlU 3 s.1), .int .i64 s.1])
    (fun s => hpU [.dead, .tok, .tok] s.1) (fun s => b.length - s.1) (0, []) ⟨Nat.zero_le _, by simp⟩ he hH ?_
  rw [hH2]
  have hv : ∀ i, i < b.length → rating (wI (b.getD i 0 - shr n b.length i)) = (shd b (-n)).getD i 0 := fun i hi => by
    have hg := hr.get i
    have hs := shr_range (p := n) (m := b.length) (k := i) hp
    rw [rating_eq, shd_get hi, shr_neg, w_small (by omega) (by omega)]; rfl
  rintro ⟨i, y⟩ ⟨h1, h2⟩
  simp only at h1 h2
  cases i with
  | zero =>
    have hy : y = [] := by simpa using h2
    subst hy
    refine up3a_vc b x u n _ ?_
    simp only [br_if, en1_length, cI_get]
    rw [if_pos (by simpa using hpos), fit_get _ _ _ hpos, if_pos (by rfl : (true && true) = true), show shr n (b.length : Int) 0 = shr n (b.length : Int) ((0 : Nat) : Int) from rfl, hv 0 hpos]
    refine ⟨en1_in _ _ _ (by omega) (by omega), hp, appL1 [] _ (by simp), ⟨by simp [PV.one], by simp⟩, ?_⟩
    refine ⟨(1, [(shd b (-n)).getD 0 0]), by simp only; omega, ⟨by simp only; omega, ?_⟩, ?_⟩
    · have := take_succ_getD (T := shd b (-n)) (i := 0) (by rw [shd_length]; omega)
      simpa using this.symm
    · exact relab_row (n0 := 3) (B := [.dead, .tok, .tok]) (X := [.tok]) (k := 3) rfl (low_nil_cells rfl) (Nat.le_refl _) rfl
        (.same (low_list1 hu) (.same (.int _ _) (.same (low_tok (by omega)) (.row (low_en1 .i64 [(shd b (-n)).getD 0 0]) (.same (.int _ _) .nil)))))
  | succ i =>
    refine up3b_vc b x y u n (i + 1) _ ?_
    simp only [br_if, en1_length, cI_get, toNat_cast]
    by_cases c : i + 1 < b.length
    · rw [if_pos (by simp; omega), fit_get _ _ _ c, if_pos (by rfl : (true && true) = true), hv (i + 1) c]
      have hxl : y.length ≤ 1000 := by rw [h2]; simp; omega
      refine ⟨en1_in _ _ _ (by omega) (by omega), hp, appL1 _ _ hxl, ⟨by simp [PV.one], by simp⟩, ?_⟩
      refine ⟨(i + 2, y ++ [(shd b (-n)).getD (i + 1) 0]), by simp only; omega, ⟨by simp only; omega, ?_⟩, ?_⟩
      · rw [h2]; exact (take_succ_getD (by rw [shd_length]; omega)).symm
      · rw [en1_snoc, wI_succ c (by omega)]
        exact relab_row (n0 := 3) (B := [.dead, .tok, .tok]) (X := [.dead, .tok]) (k := 4) rfl (low_nil_cells rfl) (by omega) rfl
          (.same (low_list1 hu) (.same (.int _ _) (.same (low_tok (by omega)) (.row (low_en1 .i64 _) (.same (.int _ _) .nil)))))
    · rw [if_neg (by simp; omega)]
      have e : i + 1 = b.length := by omega
      rw [e, ← shd_length b (-n), List.take_length] at h2
      subst h2
      have e2 : (((i + 1 : Nat)) : Int) = (b.length : Int) := by rw [e]
      show Q _ _ _
      rw [← e2] at hQ
      exact hQ
theorem rupdate_red (a b : List Int) (t u : Tail) (r : Int) (K : PV → Prop) : (br (decide ((↑(List.length (en1 IntKind.i64 a)) : Int) < 1) == false) (br (decide ((↑(List.length (en1 IntKind.i64 a)) : Int) > 4) == false) (br (decide ((↑(List.length (en1 IntKind.i64 b)) : Int) < 1) == false) (br (decide ((↑(List.length (en1 IntKind.i64 b)) : Int) > 4)) (K (PV.tup [PV.list [] Tail.exact, PV.list [] Tail.exact, PV.int IntKind.i64 21])) (AppL [] (en1 IntKind.i64 a) 1 8 ∧ (List.all (List.flatten (en1 IntKind.i64 a)) PV.one = true ∧ en1 IntKind.i64 a ≠ []) ∧ AppL ([] ++ en1 IntKind.i64 a) (en1 IntKind.i64 b) 1 8 ∧ (List.all (List.flatten (en1 IntKind.i64 b)) PV.one = true ∧ en1 IntKind.i64 b ≠ []) ∧ ∃ (a_1 : List Int), ∃ (b_1 : List Int), ∃ (l : List Int), ∃ (t_1 : Tail), ∃ (u_1 : Tail), ∃ (r_1 : Int), LenOk l ∧ SlIs [PV.list (en1 IntKind.i64 a) t, PV.list (en1 IntKind.i64 b) u, PV.int IntKind.i64 r, PV.list [] Tail.exact, PV.list [] Tail.exact, PV.int IntKind.i64 0, PV.list ([] ++ en1 IntKind.i64 a ++ en1 IntKind.i64 b) (Tail.tok 1), PV.int IntKind.i64 0] [PV.list (en1 IntKind.i64 a_1) t_1, PV.list (en1 IntKind.i64 b_1) u_1, PV.int IntKind.i64 r_1, PV.list [] Tail.exact, PV.list [] Tail.exact, PV.int IntKind.i64 0, PV.list (en1 IntKind.i64 l) (Tail.tok 1), PV.int IntKind.i64 0] ∧ HpIs [Ob.dead, Ob.tok] [Ob.dead, Ob.tok] ∧ (okAll l = true → br (decide (r_1 < 0) == false) (br (decide (r_1 > 2)) (K (PV.tup [PV.list [] Tail.exact, PV.list [] Tail.exact, PV.int IntKind.i64 2])) (br (decide ((↑(List.length (en1 IntKind.i64 b_1)) : Int) < (↑(List.length (en1 IntKind.i64 a_1)) : Int))) (∃ (ns : List Int), en1 IntKind.i64 a_1 = en1 IntKind.i64 ns ∧ LenOk ns ∧ NT t_1 ∧ ∃ (ns_1 : List Int), en1 IntKind.i64 b_1 = en1 IntKind.i64 ns_1 ∧ LenOk ns_1 ∧ NT u_1 ∧ ∃ (a : List Int), ∃ (b : List Int), ∃ (t : Tail), ∃ (u : Tail), ∃ (n : Int), Ten a ∧ a ≠ [] ∧ P41 n ∧ Rt a ∧ NT t ∧ NT u ∧ SlIs [PV.list (en1 IntKind.i64 a_1) t_1, PV.list (en1 IntKind.i64 b_1) u_1, PV.int IntKind.i64 (stk (mean ns) (mean ns_1) (↑(List.length (en1 IntKind.i64 b_1)) : Int) r_1), PV.list [] Tail.exact, PV.list [] Tail.exact, PV.int IntKind.i64 0] [PV.list (en1 IntKind.i64 a) t, PV.list (en1 IntKind.i64 b) u, PV.int IntKind.i64 n, PV.list [] Tail.exact, PV.list [] Tail.exact, PV.int IntKind.i64 0] ∧ HpIs [Ob.dead, Ob.tok] [Ob.dead, Ob.tok] ∧ ∃ (b_2 : List Int), ∃ (x : List Int), ∃ (u_2 : Tail), ∃ (n_1 : Int), Ten b_2 ∧ b_2 ≠ [] ∧ P41 n_1 ∧ Rt b_2 ∧ NT u_2 ∧ SlIs [PV.list (en1 IntKind.i64 b) u, PV.int IntKind.i64 n, PV.list (en1 IntKind.i64 (shd a n)) (Tail.tok 2), PV.list [] Tail.exact, PV.int IntKind.i64 0] [PV.list (en1 IntKind.i64 b_2) u_2, PV.int IntKind.i64 n_1, PV.list (en1 IntKind.i64 x) (Tail.tok 2), PV.list [] Tail.exact, PV.int IntKind.i64 0] ∧ HpIs [Ob.dead, Ob.tok, Ob.tok] [Ob.dead, Ob.tok, Ob.tok] ∧ K (PV.tup [PV.list (en1 IntKind.i64 x) (Tail.tok 2), PV.list (en1 IntKind.i64 (shd b_2 (-n_1))) (Tail.tok 3), PV.int IntKind.i64 0])) (∃ (ns : List Int), en1 IntKind.i64 a_1 = en1 IntKind.i64 ns ∧ LenOk ns ∧ NT t_1 ∧ ∃ (ns_1 : List Int), en1 IntKind.i64 b_1 = en1 IntKind.i64 ns_1 ∧ LenOk ns_1 ∧ NT u_1 ∧ ∃ (a : List Int), ∃ (b : List Int), ∃ (t : Tail), ∃ (u : Tail), ∃ (n : Int), Ten a ∧ a ≠ [] ∧ P41 n ∧ Rt a ∧ NT t ∧ NT u ∧ SlIs [PV.list (en1 IntKind.i64 a_1) t_1, PV.list (en1 IntKind.i64 b_1) u_1, PV.int IntKind.i64 (stk (mean ns) (mean ns_1) (↑(List.length (en1 IntKind.i64 a_1)) : Int) r_1), PV.list [] Tail.exact, PV.list [] Tail.exact, PV.int IntKind.i64 0] [PV.list (en1 IntKind.i64 a) t, PV.list (en1 IntKind.i64 b) u, PV.int IntKind.i64 n, PV.list [] Tail.exact, PV.list [] Tail.exact, PV.int IntKind.i64 0] ∧ HpIs [Ob.dead, Ob.tok] [Ob.dead, Ob.tok] ∧ ∃ (b_2 : List Int), ∃ (x : List Int), ∃ (u_2 : Tail), ∃ (n_1 : Int), Ten b_2 ∧ b_2 ≠ [] ∧ P41 n_1 ∧ Rt b_2 ∧ NT u_2 ∧ SlIs [PV.list (en1 IntKind.i64 b) u, PV.int IntKind.i64 n, PV.list (en1 IntKind.i64 (shd a n)) (Tail.tok 2), PV.list [] Tail.exact, PV.int IntKind.i64 0] [PV.list (en1 IntKind.i64 b_2) u_2, PV.int IntKind.i64 n_1, PV.list (en1 IntKind.i64 x) (Tail.tok 2), PV.list [] Tail.exact, PV.int IntKind.i64 0] ∧ HpIs [Ob.dead, Ob.tok, Ob.tok] [Ob.dead, Ob.tok, Ob.tok] ∧ K (PV.tup [PV.list (en1 IntKind.i64 x) (Tail.tok 2), PV.list (en1 IntKind.i64 (shd b_2 (-n_1))) (Tail.tok 3), PV.int IntKind.i64 0])))) (K (PV.tup [PV.list [] Tail.exact, PV.list [] Tail.exact, PV.int IntKind.i64 2]))) ∧ (okAll l = false → ∀ (_ : Int), K (PV.tup [PV.list [] Tail.exact, PV.list [] Tail.exact, PV.int IntKind.i64 2])))) (K (PV.tup [PV.list [] Tail.exact, PV.list [] Tail.exact, PV.int IntKind.i64 21]))) (K (PV.tup [PV.list [] Tail.exact, PV.list [] Tail.exact, PV.int IntKind.i64 21]))) (K (PV.tup [PV.list [] Tail.exact, PV.list [] Tail.exact, PV.int IntKind.i64 21]))) = wpc br Tryd.prog gl T6 [([1, 1, 1, 0, 1, 0], up1_l), ([1, 1, 1, 1, 1, 1, 1, 1, 1, 0, 1, 0], up2_l), ([1, 1, 1, 1, 1, 1, 1, 1, 1, 1, 0, 1, 0], up3_l)] (hnU) (bodyOf Tryd.f20) [] (env0 [.list (en1 .i64 a) t, .list (en1 .i64 b) u, .int .i64 r]) [] (resQ Tryd.prog Tryd.f20.results.toList (fun x _ => K x)) := by kernel_rfl
theorem rupdate_vc (a b : List Int) (t u : Tail) (r : Int) (K : PV → Prop) (h : br (decide ((↑(List.length (en1 IntKind.i64 a)) : Int) < 1) == false) (br (decide ((↑(List.length (en1 IntKind.i64 a)) : Int) > 4) == false) (br (decide ((↑(List.length (en1 IntKind.i64 b)) : Int) < 1) == false) (br (decide ((↑(List.length (en1 IntKind.i64 b)) : Int) > 4)) (K (PV.tup [PV.list [] Tail.exact, PV.list [] Tail.exact, PV.int IntKind.i64 21])) (AppL [] (en1 IntKind.i64 a) 1 8 ∧ (List.all (List.flatten (en1 IntKind.i64 a)) PV.one = true ∧ en1 IntKind.i64 a ≠ []) ∧ AppL ([] ++ en1 IntKind.i64 a) (en1 IntKind.i64 b) 1 8 ∧ (List.all (List.flatten (en1 IntKind.i64 b)) PV.one = true ∧ en1 IntKind.i64 b ≠ []) ∧ ∃ (a_1 : List Int), ∃ (b_1 : List Int), ∃ (l : List Int), ∃ (t_1 : Tail), ∃ (u_1 : Tail), ∃ (r_1 : Int), LenOk l ∧ SlIs [PV.list (en1 IntKind.i64 a) t, PV.list (en1 IntKind.i64 b) u, PV.int IntKind.i64 r, PV.list [] Tail.exact, PV.list [] Tail.exact, PV.int IntKind.i64 0, PV.list ([] ++ en1 IntKind.i64 a ++ en1 IntKind.i64 b) (Tail.tok 1), PV.int IntKind.i64 0] [PV.list (en1 IntKind.i64 a_1) t_1, PV.list (en1 IntKind.i64 b_1) u_1, PV.int IntKind.i64 r_1, PV.list [] Tail.exact, PV.list [] Tail.exact, PV.int IntKind.i64 0, PV.list (en1 IntKind.i64 l) (Tail.tok 1), PV.int IntKind.i64 0] ∧ HpIs [Ob.dead, Ob.tok] [Ob.dead, Ob.tok] ∧ (okAll l = true → br (decide (r_1 < 0) == false) (br (decide (r_1 > 2)) (K (PV.tup [PV.list [] Tail.exact, PV.list [] Tail.exact, PV.int IntKind.i64 2])) (br (decide ((↑(List.length (en1 IntKind.i64 b_1)) : Int) < (↑(List.length (en1 IntKind.i64 a_1)) : Int))) (∃ (ns : List Int), en1 IntKind.i64 a_1 = en1 IntKind.i64 ns ∧ LenOk ns ∧ NT t_1 ∧ ∃ (ns_1 : List Int), en1 IntKind.i64 b_1 = en1 IntKind.i64 ns_1 ∧ LenOk ns_1 ∧ NT u_1 ∧ ∃ (a : List Int), ∃ (b : List Int), ∃ (t : Tail), ∃ (u : Tail), ∃ (n : Int), Ten a ∧ a ≠ [] ∧ P41 n ∧ Rt a ∧ NT t ∧ NT u ∧ SlIs [PV.list (en1 IntKind.i64 a_1) t_1, PV.list (en1 IntKind.i64 b_1) u_1, PV.int IntKind.i64 (stk (mean ns) (mean ns_1) (↑(List.length (en1 IntKind.i64 b_1)) : Int) r_1), PV.list [] Tail.exact, PV.list [] Tail.exact, PV.int IntKind.i64 0] [PV.list (en1 IntKind.i64 a) t, PV.list (en1 IntKind.i64 b) u, PV.int IntKind.i64 n, PV.list [] Tail.exact, PV.list [] Tail.exact, PV.int IntKind.i64 0] ∧ HpIs [Ob.dead, Ob.tok] [Ob.dead, Ob.tok] ∧ ∃ (b_2 : List Int), ∃ (x : List Int), ∃ (u_2 : Tail), ∃ (n_1 : Int), Ten b_2 ∧ b_2 ≠ [] ∧ P41 n_1 ∧ Rt b_2 ∧ NT u_2 ∧ SlIs [PV.list (en1 IntKind.i64 b) u, PV.int IntKind.i64 n, PV.list (en1 IntKind.i64 (shd a n)) (Tail.tok 2), PV.list [] Tail.exact, PV.int IntKind.i64 0] [PV.list (en1 IntKind.i64 b_2) u_2, PV.int IntKind.i64 n_1, PV.list (en1 IntKind.i64 x) (Tail.tok 2), PV.list [] Tail.exact, PV.int IntKind.i64 0] ∧ HpIs [Ob.dead, Ob.tok, Ob.tok] [Ob.dead, Ob.tok, Ob.tok] ∧ K (PV.tup [PV.list (en1 IntKind.i64 x) (Tail.tok 2), PV.list (en1 IntKind.i64 (shd b_2 (-n_1))) (Tail.tok 3), PV.int IntKind.i64 0])) (∃ (ns : List Int), en1 IntKind.i64 a_1 = en1 IntKind.i64 ns ∧ LenOk ns ∧ NT t_1 ∧ ∃ (ns_1 : List Int), en1 IntKind.i64 b_1 = en1 IntKind.i64 ns_1 ∧ LenOk ns_1 ∧ NT u_1 ∧ ∃ (a : List Int), ∃ (b : List Int), ∃ (t : Tail), ∃ (u : Tail), ∃ (n : Int), Ten a ∧ a ≠ [] ∧ P41 n ∧ Rt a ∧ NT t ∧ NT u ∧ SlIs [PV.list (en1 IntKind.i64 a_1) t_1, PV.list (en1 IntKind.i64 b_1) u_1, PV.int IntKind.i64 (stk (mean ns) (mean ns_1) (↑(List.length (en1 IntKind.i64 a_1)) : Int) r_1), PV.list [] Tail.exact, PV.list [] Tail.exact, PV.int IntKind.i64 0] [PV.list (en1 IntKind.i64 a) t, PV.list (en1 IntKind.i64 b) u, PV.int IntKind.i64 n, PV.list [] Tail.exact, PV.list [] Tail.exact, PV.int IntKind.i64 0] ∧ HpIs [Ob.dead, Ob.tok] [Ob.dead, Ob.tok] ∧ ∃ (b_2 : List Int), ∃ (x : List Int), ∃ (u_2 : Tail), ∃ (n_1 : Int), Ten b_2 ∧ b_2 ≠ [] ∧ P41 n_1 ∧ Rt b_2 ∧ NT u_2 ∧ SlIs [PV.list (en1 IntKind.i64 b) u, PV.int IntKind.i64 n, PV.list (en1 IntKind.i64 (shd a n)) (Tail.tok 2), PV.list [] Tail.exact, PV.int IntKind.i64 0] [PV.list (en1 IntKind.i64 b_2) u_2, PV.int IntKind.i64 n_1, PV.list (en1 IntKind.i64 x) (Tail.tok 2), PV.list [] Tail.exact, PV.int IntKind.i64 0] ∧ HpIs [Ob.dead, Ob.tok, Ob.tok] [Ob.dead, Ob.tok, Ob.tok] ∧ K (PV.tup [PV.list (en1 IntKind.i64 x) (Tail.tok 2), PV.list (en1 IntKind.i64 (shd b_2 (-n_1))) (Tail.tok 3), PV.int IntKind.i64 0])))) (K (PV.tup [PV.list [] Tail.exact, PV.list [] Tail.exact, PV.int IntKind.i64 2]))) ∧ (okAll l = false → ∀ (_ : Int), K (PV.tup [PV.list [] Tail.exact, PV.list [] Tail.exact, PV.int IntKind.i64 2])))) (K (PV.tup [PV.list [] Tail.exact, PV.list [] Tail.exact, PV.int IntKind.i64 21]))) (K (PV.tup [PV.list [] Tail.exact, PV.list [] Tail.exact, PV.int IntKind.i64 21]))) (K (PV.tup [PV.list [] Tail.exact, PV.list [] Tail.exact, PV.int IntKind.i64 21]))) : ACalls Tryd.prog gl 20 [.list (en1 .i64 a) t, .list (en1 .i64 b) u, .int .i64 r] [] (fun x _ => K x) :=
  acalls_of_wpc2 (T := T6) (L := [([1, 1, 1, 0, 1, 0], up1_l), ([1, 1, 1, 1, 1, 1, 1, 1, 1, 0, 1, 0], up2_l), ([1, 1, 1, 1, 1, 1, 1, 1, 1, 1, 0, 1, 0], up3_l)]) (hnU) Tryd.func20 (by kernel_rfl) (by kernel_rfl) (by kernel_rfl) (T6_ok) (.cons (sub_of (by kernel_rfl)) up1_l_ok (.cons (sub_of (by kernel_rfl)) up2_l_ok (.cons (sub_of (by kernel_rfl)) up3_l_ok (.nil _ _ _ _ _)))) (holds_of_eq (rupdate_red a b t u r K) h)
theorem okAll_append : ∀ (a b : List Int), okAll (a ++ b) = (okAll a && okAll b)
  | [], b => by simp [okAll]
  | r :: a, b => by simp only [List.cons_append, okAll, okAll_append a b, Bool.and_assoc]
theorem all_one (ns : List Int) : List.all (List.flatten (en1 .i64 ns)) PV.one = true := by
  rw [en1_flat, List.all_eq_true]
  intro x hx
  simp only [List.mem_map] at hx
  obtain ⟨n, _, rfl⟩ := hx; rfl
theorem en1_ne {ns : List Int} (h : ns ≠ []) : en1 .i64 ns ≠ [] := by
  cases ns with
  | nil => exact absurd rfl h
  | cons _ _ => simp [en1]
theorem rupdate_ok : SpOk Tryd.prog gl 20 (.pure upd_s) := by
  intro args K h
  unfold upd_s at h
  split at h
  · rename_i es t fs u r
    obtain ⟨a, b, rfl, rfl, ha, hb, ht, hu, h⟩ := h
    have hlow : Low 0 (updPV a b r) := .tup _ (by simp [low_int, low_list1 NT.no])
    refine spure gl_low (by simp [low_list1 ht, low_list1 hu, low_int]) hlow (acalls_weak (K := fun x _ => x = updPV a b r) (rupdate_vc a b t u r (fun x => ∃ x', Wk x x' ∧ x' = updPV a b r) ?_)) h
    have nilw : ∀ e : Int, Wk (.tup [.list [] .exact, .list [] .exact, .int .i64 e]) (.tup [.list (en1 .i64 []) .no, .list (en1 .i64 []) .no, .int .i64 e]) := fun e =>
      .tup (.cons (.list _ _) (.cons (.list _ _) (.cons (.refl _) .nil)))
    have bad : ∀ e : Int, upd a b r = ([], [], e) → ∃ x', Wk (.tup [.list [] .exact, .list [] .exact, .int .i64 e]) x' ∧ x' = updPV a b r := fun e he => ⟨_, nilw e, by unfold updPV; rw [he]⟩
    simp only [br_if, en1_length]
    have b1 : (a.length < 1 ∨ b.length < 1 ∨ a.length > 4 ∨ b.length > 4) → upd a b r = ([], [], 21) := fun hc => by unfold upd; rw [if_pos hc]
    by_cases c1 : (a.length : Int) < 1
    · rw [if_neg (by simp [c1])]; exact bad 21 (b1 (by omega))
    rw [if_pos (by simp; omega)]
    by_cases c2 : (a.length : Int) > 4
    · rw [if_neg (by simp [c2])]; exact bad 21 (b1 (by omega))
    rw [if_pos (by simp; omega)]
    by_cases c3 : (b.length : Int) < 1
    · rw [if_neg (by simp [c3])]; exact bad 21 (b1 (by omega))
    rw [if_pos (by simp; omega)]
    by_cases c4 : (b.length : Int) > 4
    · rw [if_pos (by simpa using c4)]; exact bad 21 (b1 (by omega))
    rw [if_neg (by simpa using c4)]
    have hlens : ¬ (a.length < 1 ∨ b.length < 1 ∨ a.length > 4 ∨ b.length > 4) := by omega
    have b2 : (okAll a = false ∨ okAll b = false ∨ r < 0 ∨ r > 2) → upd a b r = ([], [], 2) := fun hc => by unfold upd; rw [if_neg hlens, if_pos hc]
    have hae : a ≠ [] := fun e => by subst e; simp at c1
    have hbe : b ≠ [] := fun e => by subst e; simp at c3
    refine ⟨⟨by intro e he; simp at he, en1_uni _ _, by rw [en1_length]; simp; omega⟩, ⟨all_one a, en1_ne hae⟩, ⟨by rw [List.nil_append]; exact en1_uni _ _, en1_uni _ _, by rw [List.nil_append, en1_length, en1_length]; omega⟩, ⟨all_one b, en1_ne hbe⟩, a, b, a ++ b, t, u, r, ?_, ?_, rfl, ?_, ?_⟩
    · unfold LenOk; simp; omega
    · show _ = _
      rw [List.nil_append, en1_append]
    · intro hok
      rw [okAll_append, Bool.and_eq_true] at hok
      by_cases r1 : r < 0
      · rw [if_neg (by simp [r1])]; exact bad 2 (b2 (.inr (.inr (.inl r1))))
      rw [if_pos (by simp; omega)]
      by_cases r2 : r > 2
      · rw [if_pos (by simpa using r2)]; exact bad 2 (b2 (.inr (.inr (.inr r2))))
      rw [if_neg (by simpa using r2)]
      have fin : ∀ mm : Int, mm = mnI (a.length : Int) b.length → ∃ x', Wk (.tup [.list (en1 .i64 (shd a (stk (mean a) (mean b) mm r))) (.tok 2), .list (en1 .i64 (shd b (-(stk (mean a) (mean b) mm r)))) (.tok 3), .int .i64 0]) x' ∧ x' = updPV a b r := by
        rintro mm rfl
        refine ⟨_, .tup (.cons (.list _ _) (.cons (.list _ _) (.cons (.refl _) .nil))), ?_⟩
        unfold updPV upd
        rw [if_neg hlens, if_neg (by simp [hok.1, hok.2]; omega)]
      have hr : ∀ mm, P41 (stk (mean a) (mean b) mm r) := fun mm => by have := stk_range (mean a) (mean b) mm r; exact ⟨by omega, by omega⟩
      by_cases d : (b.length : Int) < a.length
      · rw [if_pos (by simpa using d)]
        exact ⟨a, rfl, ha, ht, b, rfl, hb, hu, a, b, t, u, _, (by unfold Ten; omega), hae, hr _, okAll_rt hok.1, ht, hu, rfl, rfl, b, _, u, _, (by unfold Ten; omega), hbe, hr _, okAll_rt hok.2, hu, rfl, rfl, fin _ (by unfold mnI; rw [if_pos d])⟩
      · rw [if_neg (by simpa using d)]
        exact ⟨a, rfl, ha, ht, b, rfl, hb, hu, a, b, t, u, _, (by unfold Ten; omega), hae, hr _, okAll_rt hok.1, ht, hu, rfl, rfl, b, _, u, _, (by unfold Ten; omega), hbe, hr _, okAll_rt hok.2, hu, rfl, rfl, fin _ (by unfold mnI; rw [if_neg d])⟩
    · intro hok i
      rw [okAll_append] at hok
      refine bad 2 (b2 ?_)
      cases h1 : okAll a
      · exact .inl rfl
      · rw [h1, Bool.true_and] at hok; exact .inr (.inl hok)
  · exact h.elim
def T7 : Tab := (19, .pure upd_s) :: (20, .pure upd_s) :: T6
theorem T7_ok : TabOk Tryd.prog gl T7 := .cons update_ok (.cons rupdate_ok T6_ok)
def right_s (args : List PV) (K : PV → Prop) : Prop := match args with
  | [.list es t, .list fs u, .int .i64 r] => ∃ a b, es = en1 .i64 a ∧ fs = en1 .i64 b ∧ LenOk a ∧ LenOk b ∧ NT t ∧ NT u ∧ K (.bool ((upd a b r).2.2 == 0))
  | _ => False
theorem right_red (a b : List Int) (t u : Tail) (r : Int) (K : PV → Prop) : (∃ (a_1 : List Int), ∃ (b_1 : List Int), en1 IntKind.i64 a = en1 IntKind.i64 a_1 ∧ en1 IntKind.i64 b = en1 IntKind.i64 b_1 ∧ LenOk a_1 ∧ LenOk b_1 ∧ NT t ∧ NT u ∧ K (PV.bool (Prod.snd (Prod.snd (upd a_1 b_1 r)) == 0))) = wpc br Tryd.prog gl T7 [] (fun _ => 0) (bodyOf Tryd.f22) [] (env0 [.list (en1 .i64 a) t, .list (en1 .i64 b) u, .int .i64 r]) [] (resQ Tryd.prog Tryd.f22.results.toList (fun x _ => K x)) := by kernel_rfl
theorem right_vc (a b : List Int) (t u : Tail) (r : Int) (K : PV → Prop) (h : ∃ (a_1 : List Int), ∃ (b_1 : List Int), en1 IntKind.i64 a = en1 IntKind.i64 a_1 ∧ en1 IntKind.i64 b = en1 IntKind.i64 b_1 ∧ LenOk a_1 ∧ LenOk b_1 ∧ NT t ∧ NT u ∧ K (PV.bool (Prod.snd (Prod.snd (upd a_1 b_1 r)) == 0))) : ACalls Tryd.prog gl 22 [.list (en1 .i64 a) t, .list (en1 .i64 b) u, .int .i64 r] [] (fun x _ => K x) :=
  acalls_of_wpc2 (T := T7) (L := []) (fun _ => 0) Tryd.func22 (by kernel_rfl) (by kernel_rfl) (by kernel_rfl) (T7_ok) (LOk.nil _ _ _ _ _) (holds_of_eq (right_red a b t u r K) h)
theorem right_ok : SpOk Tryd.prog gl 22 (.pure right_s) := by
  intro args K h
  unfold right_s at h
  split at h
  · rename_i es t fs u r
    obtain ⟨a, b, rfl, rfl, ha, hb, ht, hu, h⟩ := h
    refine spure gl_low (by simp [low_list1 ht, low_list1 hu, low_int]) (.bool _) (right_vc a b t u r _ ?_) h
    exact ⟨a, b, rfl, rfl, ha, hb, ht, hu, rfl⟩
  · exact h.elim
theorem awake_red  (K : PV → Prop) : (∃ (a : List Int), ∃ (b : List Int), [[PV.int IntKind.i64 1500]] = en1 IntKind.i64 a ∧ [[PV.int IntKind.i64 1500]] = en1 IntKind.i64 b ∧ LenOk a ∧ LenOk b ∧ NT Tail.exact ∧ NT Tail.exact ∧ br ((Prod.snd (Prod.snd (upd a b 1)) == 0) == true) (∃ (xs : List Int), ∃ (ys : List Int), en1 IntKind.i64 (Prod.fst (upd a b 1)) = en1 IntKind.i64 xs ∧ [[PV.int IntKind.i64 1516]] = en1 IntKind.i64 ys ∧ LenOk xs ∧ LenOk ys ∧ NT Tail.no ∧ NT Tail.exact ∧ br ((xs == ys) == true) (∃ (xs : List Int), ∃ (ys : List Int), en1 IntKind.i64 (Prod.fst (Prod.snd (upd a b 1))) = en1 IntKind.i64 xs ∧ [[PV.int IntKind.i64 1484]] = en1 IntKind.i64 ys ∧ LenOk xs ∧ LenOk ys ∧ NT Tail.no ∧ NT Tail.exact ∧ br ((xs == ys) == true) (P41 (-7) ∧ P41 (-7) ∧ K (PV.bool true)) (K (PV.bool false))) (K (PV.bool false))) (K (PV.bool false))) = wpc br Tryd.prog gl T7 [] (fun _ => 0) (bodyOf Tryd.f16) [] (env0 []) [] (resQ Tryd.prog Tryd.f16.results.toList (fun x _ => K x)) := by kernel_rfl
theorem awake_vc  (K : PV → Prop) (h : ∃ (a : List Int), ∃ (b : List Int), [[PV.int IntKind.i64 1500]] = en1 IntKind.i64 a ∧ [[PV.int IntKind.i64 1500]] = en1 IntKind.i64 b ∧ LenOk a ∧ LenOk b ∧ NT Tail.exact ∧ NT Tail.exact ∧ br ((Prod.snd (Prod.snd (upd a b 1)) == 0) == true) (∃ (xs : List Int), ∃ (ys : List Int), en1 IntKind.i64 (Prod.fst (upd a b 1)) = en1 IntKind.i64 xs ∧ [[PV.int IntKind.i64 1516]] = en1 IntKind.i64 ys ∧ LenOk xs ∧ LenOk ys ∧ NT Tail.no ∧ NT Tail.exact ∧ br ((xs == ys) == true) (∃ (xs : List Int), ∃ (ys : List Int), en1 IntKind.i64 (Prod.fst (Prod.snd (upd a b 1))) = en1 IntKind.i64 xs ∧ [[PV.int IntKind.i64 1484]] = en1 IntKind.i64 ys ∧ LenOk xs ∧ LenOk ys ∧ NT Tail.no ∧ NT Tail.exact ∧ br ((xs == ys) == true) (P41 (-7) ∧ P41 (-7) ∧ K (PV.bool true)) (K (PV.bool false))) (K (PV.bool false))) (K (PV.bool false))) : ACalls Tryd.prog gl 16 [] [] (fun x _ => K x) :=
  acalls_of_wpc2 (T := T7) (L := []) (fun _ => 0) Tryd.func16 (by kernel_rfl) (by kernel_rfl) (by kernel_rfl) (T7_ok) (LOk.nil _ _ _ _ _) (holds_of_eq (awake_red K) h)
def awake_s (args : List PV) (K : PV → Prop) : Prop := match args with
  | [] => K (.bool true)
  | _ => False
theorem upd_1500 : upd [1500] [1500] 1 = ([1516], [1484], 0) := by decide
theorem awake_ok : SpOk Tryd.prog gl 16 (.pure awake_s) := by
  intro args K h
  unfold awake_s at h
  split at h
  · refine spure gl_low (by simp) (.bool true) (awake_vc _ ?_) h
    refine ⟨[1500], [1500], rfl, rfl, by unfold LenOk; decide, by unfold LenOk; decide, NT.exact, NT.exact, ?_⟩
    rw [upd_1500]
    exact ⟨[1516], [1516], rfl, rfl, by unfold LenOk; decide, by unfold LenOk; decide, NT.no, NT.exact, [1484], [1484], rfl, rfl, by unfold LenOk; decide, by unfold LenOk; decide, NT.no, NT.exact, by unfold P41; decide, by unfold P41; decide, rfl⟩
  · exact h.elim
def T8 : Tab := (16, .pure awake_s) :: (22, .pure right_s) :: T7
theorem T8_ok : TabOk Tryd.prog gl T8 := .cons awake_ok (.cons right_ok T7_ok)
theorem expects_red (a b m r : Int) (l : List Int) (K : PV → Prop) : (br (decide ((↑(List.length (en1 IntKind.i64 l)) : Int) > 40)) (K (PV.bool true)) (br ((expd a b == expd a b) == true) (∃ (ns : List Int), en1 IntKind.i64 l = en1 IntKind.i64 ns ∧ LenOk ns ∧ NT Tail.no ∧ ∃ (ns_1 : List Int), en1 IntKind.i64 l = en1 IntKind.i64 ns_1 ∧ LenOk ns_1 ∧ NT Tail.no ∧ br ((mean ns == mean ns_1) == true) (br ((stk a b m r == stk a b m r) == true) (K (PV.bool true)) (K (PV.bool false))) (K (PV.bool false))) (K (PV.bool false)))) = wpc br Tryd.prog gl T8 [] (fun _ => 0) (bodyOf Tryd.f3) [] (env0 [.agg [.int .i64 a, .int .i64 b], .agg [.int .i64 m, .int .i64 r], .list (en1 .i64 l) .no]) [] (resQ Tryd.prog Tryd.f3.results.toList (fun x _ => K x)) := by kernel_rfl
theorem expects_vc (a b m r : Int) (l : List Int) (K : PV → Prop) (h : br (decide ((↑(List.length (en1 IntKind.i64 l)) : Int) > 40)) (K (PV.bool true)) (br ((expd a b == expd a b) == true) (∃ (ns : List Int), en1 IntKind.i64 l = en1 IntKind.i64 ns ∧ LenOk ns ∧ NT Tail.no ∧ ∃ (ns_1 : List Int), en1 IntKind.i64 l = en1 IntKind.i64 ns_1 ∧ LenOk ns_1 ∧ NT Tail.no ∧ br ((mean ns == mean ns_1) == true) (br ((stk a b m r == stk a b m r) == true) (K (PV.bool true)) (K (PV.bool false))) (K (PV.bool false))) (K (PV.bool false)))) : ACalls Tryd.prog gl 3 [.agg [.int .i64 a, .int .i64 b], .agg [.int .i64 m, .int .i64 r], .list (en1 .i64 l) .no] [] (fun x _ => K x) :=
  acalls_of_wpc2 (T := T8) (L := []) (fun _ => 0) Tryd.func3 (by kernel_rfl) (by kernel_rfl) (by kernel_rfl) (T8_ok) (LOk.nil _ _ _ _ _) (holds_of_eq (expects_red a b m r l K) h)
theorem shares_red (p m k : Int) (K : PV → Prop) : (br (decide (p < -1099511627776) == false) (br (decide (p > 1099511627776)) (K (PV.bool true)) (P41 p ∧ P41 p ∧ br ((shr p m k == shr p m k) == true) (K (PV.bool true)) (K (PV.bool false)))) (K (PV.bool true))) = wpc br Tryd.prog gl T8 [] (fun _ => 0) (bodyOf Tryd.f4) [] (env0 [.int .i64 p, .int .i64 m, .int .i64 k]) [] (resQ Tryd.prog Tryd.f4.results.toList (fun x _ => K x)) := by kernel_rfl
theorem shares_vc (p m k : Int) (K : PV → Prop) (h : br (decide (p < -1099511627776) == false) (br (decide (p > 1099511627776)) (K (PV.bool true)) (P41 p ∧ P41 p ∧ br ((shr p m k == shr p m k) == true) (K (PV.bool true)) (K (PV.bool false)))) (K (PV.bool true))) : ACalls Tryd.prog gl 4 [.int .i64 p, .int .i64 m, .int .i64 k] [] (fun x _ => K x) :=
  acalls_of_wpc2 (T := T8) (L := []) (fun _ => 0) Tryd.func4 (by kernel_rfl) (by kernel_rfl) (by kernel_rfl) (T8_ok) (LOk.nil _ _ _ _ _) (holds_of_eq (shares_red p m k K) h)
theorem updates_red (a b : List Int) (r : Int) (K : PV → Prop) : (br (decide ((↑(List.length (en1 IntKind.i64 a)) : Int) > 10) == false) (br (decide ((↑(List.length (en1 IntKind.i64 b)) : Int) > 10)) (K (PV.bool true)) (∃ (a_1 : List Int), ∃ (b_1 : List Int), en1 IntKind.i64 a = en1 IntKind.i64 a_1 ∧ en1 IntKind.i64 b = en1 IntKind.i64 b_1 ∧ LenOk a_1 ∧ LenOk b_1 ∧ NT Tail.no ∧ NT Tail.no ∧ ∃ (a_2 : List Int), ∃ (b_2 : List Int), en1 IntKind.i64 a = en1 IntKind.i64 a_2 ∧ en1 IntKind.i64 b = en1 IntKind.i64 b_2 ∧ LenOk a_2 ∧ LenOk b_2 ∧ NT Tail.no ∧ NT Tail.no ∧ ∃ (xs : List Int), ∃ (ys : List Int), en1 IntKind.i64 (Prod.fst (upd a_1 b_1 r)) = en1 IntKind.i64 xs ∧ en1 IntKind.i64 (Prod.fst (upd a_2 b_2 r)) = en1 IntKind.i64 ys ∧ LenOk xs ∧ LenOk ys ∧ NT Tail.no ∧ NT Tail.no ∧ br ((xs == ys) == true) (∃ (xs : List Int), ∃ (ys : List Int), en1 IntKind.i64 (Prod.fst (Prod.snd (upd a_1 b_1 r))) = en1 IntKind.i64 xs ∧ en1 IntKind.i64 (Prod.fst (Prod.snd (upd a_2 b_2 r))) = en1 IntKind.i64 ys ∧ LenOk xs ∧ LenOk ys ∧ NT Tail.no ∧ NT Tail.no ∧ br ((xs == ys) == true) (br ((Prod.snd (Prod.snd (upd a_1 b_1 r)) == Prod.snd (Prod.snd (upd a_2 b_2 r))) == true) (K (PV.bool true)) (K (PV.bool false))) (K (PV.bool false))) (K (PV.bool false)))) (K (PV.bool true))) = wpc br Tryd.prog gl T8 [] (fun _ => 0) (bodyOf Tryd.f5) [] (env0 [.list (en1 .i64 a) .no, .list (en1 .i64 b) .no, .int .i64 r]) [] (resQ Tryd.prog Tryd.f5.results.toList (fun x _ => K x)) := by kernel_rfl
theorem updates_vc (a b : List Int) (r : Int) (K : PV → Prop) (h : br (decide ((↑(List.length (en1 IntKind.i64 a)) : Int) > 10) == false) (br (decide ((↑(List.length (en1 IntKind.i64 b)) : Int) > 10)) (K (PV.bool true)) (∃ (a_1 : List Int), ∃ (b_1 : List Int), en1 IntKind.i64 a = en1 IntKind.i64 a_1 ∧ en1 IntKind.i64 b = en1 IntKind.i64 b_1 ∧ LenOk a_1 ∧ LenOk b_1 ∧ NT Tail.no ∧ NT Tail.no ∧ ∃ (a_2 : List Int), ∃ (b_2 : List Int), en1 IntKind.i64 a = en1 IntKind.i64 a_2 ∧ en1 IntKind.i64 b = en1 IntKind.i64 b_2 ∧ LenOk a_2 ∧ LenOk b_2 ∧ NT Tail.no ∧ NT Tail.no ∧ ∃ (xs : List Int), ∃ (ys : List Int), en1 IntKind.i64 (Prod.fst (upd a_1 b_1 r)) = en1 IntKind.i64 xs ∧ en1 IntKind.i64 (Prod.fst (upd a_2 b_2 r)) = en1 IntKind.i64 ys ∧ LenOk xs ∧ LenOk ys ∧ NT Tail.no ∧ NT Tail.no ∧ br ((xs == ys) == true) (∃ (xs : List Int), ∃ (ys : List Int), en1 IntKind.i64 (Prod.fst (Prod.snd (upd a_1 b_1 r))) = en1 IntKind.i64 xs ∧ en1 IntKind.i64 (Prod.fst (Prod.snd (upd a_2 b_2 r))) = en1 IntKind.i64 ys ∧ LenOk xs ∧ LenOk ys ∧ NT Tail.no ∧ NT Tail.no ∧ br ((xs == ys) == true) (br ((Prod.snd (Prod.snd (upd a_1 b_1 r)) == Prod.snd (Prod.snd (upd a_2 b_2 r))) == true) (K (PV.bool true)) (K (PV.bool false))) (K (PV.bool false))) (K (PV.bool false)))) (K (PV.bool true))) : ACalls Tryd.prog gl 5 [.list (en1 .i64 a) .no, .list (en1 .i64 b) .no, .int .i64 r] [] (fun x _ => K x) :=
  acalls_of_wpc2 (T := T8) (L := []) (fun _ => 0) Tryd.func5 (by kernel_rfl) (by kernel_rfl) (by kernel_rfl) (T8_ok) (LOk.nil _ _ _ _ _) (holds_of_eq (updates_red a b r K) h)
theorem turned_red (a b : List Int) (r : Int) (K : PV → Prop) : (br (decide ((↑(List.length (en1 IntKind.i64 a)) : Int) > 10) == false) (br (decide ((↑(List.length (en1 IntKind.i64 b)) : Int) > 10)) (K (PV.bool true)) (br (r == 1) (∃ (a_1 : List Int), ∃ (b_1 : List Int), en1 IntKind.i64 a = en1 IntKind.i64 a_1 ∧ en1 IntKind.i64 b = en1 IntKind.i64 b_1 ∧ LenOk a_1 ∧ LenOk b_1 ∧ NT Tail.no ∧ NT Tail.no ∧ ∃ (a_2 : List Int), ∃ (b_2 : List Int), en1 IntKind.i64 b = en1 IntKind.i64 a_2 ∧ en1 IntKind.i64 a = en1 IntKind.i64 b_2 ∧ LenOk a_2 ∧ LenOk b_2 ∧ NT Tail.no ∧ NT Tail.no ∧ br ((Prod.snd (Prod.snd (upd a_1 b_1 r)) == Prod.snd (Prod.snd (upd a_2 b_2 2))) == true) (∃ (xs : List Int), ∃ (ys : List Int), en1 IntKind.i64 (Prod.fst (upd a_1 b_1 r)) = en1 IntKind.i64 xs ∧ en1 IntKind.i64 (Prod.fst (Prod.snd (upd a_2 b_2 2))) = en1 IntKind.i64 ys ∧ LenOk xs ∧ LenOk ys ∧ NT Tail.no ∧ NT Tail.no ∧ br ((xs == ys) == true) (∃ (xs : List Int), ∃ (ys : List Int), en1 IntKind.i64 (Prod.fst (Prod.snd (upd a_1 b_1 r))) = en1 IntKind.i64 xs ∧ en1 IntKind.i64 (Prod.fst (upd a_2 b_2 2)) = en1 IntKind.i64 ys ∧ LenOk xs ∧ LenOk ys ∧ NT Tail.no ∧ NT Tail.no ∧ br ((xs == ys) == true) (K (PV.bool true)) (K (PV.bool false))) (K (PV.bool false))) (K (PV.bool false))) (br (r == 2) (∃ (a_1 : List Int), ∃ (b_1 : List Int), en1 IntKind.i64 a = en1 IntKind.i64 a_1 ∧ en1 IntKind.i64 b = en1 IntKind.i64 b_1 ∧ LenOk a_1 ∧ LenOk b_1 ∧ NT Tail.no ∧ NT Tail.no ∧ ∃ (a_2 : List Int), ∃ (b_2 : List Int), en1 IntKind.i64 b = en1 IntKind.i64 a_2 ∧ en1 IntKind.i64 a = en1 IntKind.i64 b_2 ∧ LenOk a_2 ∧ LenOk b_2 ∧ NT Tail.no ∧ NT Tail.no ∧ br ((Prod.snd (Prod.snd (upd a_1 b_1 r)) == Prod.snd (Prod.snd (upd a_2 b_2 1))) == true) (∃ (xs : List Int), ∃ (ys : List Int), en1 IntKind.i64 (Prod.fst (upd a_1 b_1 r)) = en1 IntKind.i64 xs ∧ en1 IntKind.i64 (Prod.fst (Prod.snd (upd a_2 b_2 1))) = en1 IntKind.i64 ys ∧ LenOk xs ∧ LenOk ys ∧ NT Tail.no ∧ NT Tail.no ∧ br ((xs == ys) == true) (∃ (xs : List Int), ∃ (ys : List Int), en1 IntKind.i64 (Prod.fst (Prod.snd (upd a_1 b_1 r))) = en1 IntKind.i64 xs ∧ en1 IntKind.i64 (Prod.fst (upd a_2 b_2 1)) = en1 IntKind.i64 ys ∧ LenOk xs ∧ LenOk ys ∧ NT Tail.no ∧ NT Tail.no ∧ br ((xs == ys) == true) (K (PV.bool true)) (K (PV.bool false))) (K (PV.bool false))) (K (PV.bool false))) (∃ (a_1 : List Int), ∃ (b_1 : List Int), en1 IntKind.i64 a = en1 IntKind.i64 a_1 ∧ en1 IntKind.i64 b = en1 IntKind.i64 b_1 ∧ LenOk a_1 ∧ LenOk b_1 ∧ NT Tail.no ∧ NT Tail.no ∧ ∃ (a_2 : List Int), ∃ (b_2 : List Int), en1 IntKind.i64 b = en1 IntKind.i64 a_2 ∧ en1 IntKind.i64 a = en1 IntKind.i64 b_2 ∧ LenOk a_2 ∧ LenOk b_2 ∧ NT Tail.no ∧ NT Tail.no ∧ br ((Prod.snd (Prod.snd (upd a_1 b_1 r)) == Prod.snd (Prod.snd (upd a_2 b_2 r))) == true) (∃ (xs : List Int), ∃ (ys : List Int), en1 IntKind.i64 (Prod.fst (upd a_1 b_1 r)) = en1 IntKind.i64 xs ∧ en1 IntKind.i64 (Prod.fst (Prod.snd (upd a_2 b_2 r))) = en1 IntKind.i64 ys ∧ LenOk xs ∧ LenOk ys ∧ NT Tail.no ∧ NT Tail.no ∧ br ((xs == ys) == true) (∃ (xs : List Int), ∃ (ys : List Int), en1 IntKind.i64 (Prod.fst (Prod.snd (upd a_1 b_1 r))) = en1 IntKind.i64 xs ∧ en1 IntKind.i64 (Prod.fst (upd a_2 b_2 r)) = en1 IntKind.i64 ys ∧ LenOk xs ∧ LenOk ys ∧ NT Tail.no ∧ NT Tail.no ∧ br ((xs == ys) == true) (K (PV.bool true)) (K (PV.bool false))) (K (PV.bool false))) (K (PV.bool false)))))) (K (PV.bool true))) = wpc br Tryd.prog gl T8 [] (fun _ => 0) (bodyOf Tryd.f8) [] (env0 [.list (en1 .i64 a) .no, .list (en1 .i64 b) .no, .int .i64 r]) [] (resQ Tryd.prog Tryd.f8.results.toList (fun x _ => K x)) := by kernel_rfl
theorem turned_vc (a b : List Int) (r : Int) (K : PV → Prop) (h : br (decide ((↑(List.length (en1 IntKind.i64 a)) : Int) > 10) == false) (br (decide ((↑(List.length (en1 IntKind.i64 b)) : Int) > 10)) (K (PV.bool true)) (br (r == 1) (∃ (a_1 : List Int), ∃ (b_1 : List Int), en1 IntKind.i64 a = en1 IntKind.i64 a_1 ∧ en1 IntKind.i64 b = en1 IntKind.i64 b_1 ∧ LenOk a_1 ∧ LenOk b_1 ∧ NT Tail.no ∧ NT Tail.no ∧ ∃ (a_2 : List Int), ∃ (b_2 : List Int), en1 IntKind.i64 b = en1 IntKind.i64 a_2 ∧ en1 IntKind.i64 a = en1 IntKind.i64 b_2 ∧ LenOk a_2 ∧ LenOk b_2 ∧ NT Tail.no ∧ NT Tail.no ∧ br ((Prod.snd (Prod.snd (upd a_1 b_1 r)) == Prod.snd (Prod.snd (upd a_2 b_2 2))) == true) (∃ (xs : List Int), ∃ (ys : List Int), en1 IntKind.i64 (Prod.fst (upd a_1 b_1 r)) = en1 IntKind.i64 xs ∧ en1 IntKind.i64 (Prod.fst (Prod.snd (upd a_2 b_2 2))) = en1 IntKind.i64 ys ∧ LenOk xs ∧ LenOk ys ∧ NT Tail.no ∧ NT Tail.no ∧ br ((xs == ys) == true) (∃ (xs : List Int), ∃ (ys : List Int), en1 IntKind.i64 (Prod.fst (Prod.snd (upd a_1 b_1 r))) = en1 IntKind.i64 xs ∧ en1 IntKind.i64 (Prod.fst (upd a_2 b_2 2)) = en1 IntKind.i64 ys ∧ LenOk xs ∧ LenOk ys ∧ NT Tail.no ∧ NT Tail.no ∧ br ((xs == ys) == true) (K (PV.bool true)) (K (PV.bool false))) (K (PV.bool false))) (K (PV.bool false))) (br (r == 2) (∃ (a_1 : List Int), ∃ (b_1 : List Int), en1 IntKind.i64 a = en1 IntKind.i64 a_1 ∧ en1 IntKind.i64 b = en1 IntKind.i64 b_1 ∧ LenOk a_1 ∧ LenOk b_1 ∧ NT Tail.no ∧ NT Tail.no ∧ ∃ (a_2 : List Int), ∃ (b_2 : List Int), en1 IntKind.i64 b = en1 IntKind.i64 a_2 ∧ en1 IntKind.i64 a = en1 IntKind.i64 b_2 ∧ LenOk a_2 ∧ LenOk b_2 ∧ NT Tail.no ∧ NT Tail.no ∧ br ((Prod.snd (Prod.snd (upd a_1 b_1 r)) == Prod.snd (Prod.snd (upd a_2 b_2 1))) == true) (∃ (xs : List Int), ∃ (ys : List Int), en1 IntKind.i64 (Prod.fst (upd a_1 b_1 r)) = en1 IntKind.i64 xs ∧ en1 IntKind.i64 (Prod.fst (Prod.snd (upd a_2 b_2 1))) = en1 IntKind.i64 ys ∧ LenOk xs ∧ LenOk ys ∧ NT Tail.no ∧ NT Tail.no ∧ br ((xs == ys) == true) (∃ (xs : List Int), ∃ (ys : List Int), en1 IntKind.i64 (Prod.fst (Prod.snd (upd a_1 b_1 r))) = en1 IntKind.i64 xs ∧ en1 IntKind.i64 (Prod.fst (upd a_2 b_2 1)) = en1 IntKind.i64 ys ∧ LenOk xs ∧ LenOk ys ∧ NT Tail.no ∧ NT Tail.no ∧ br ((xs == ys) == true) (K (PV.bool true)) (K (PV.bool false))) (K (PV.bool false))) (K (PV.bool false))) (∃ (a_1 : List Int), ∃ (b_1 : List Int), en1 IntKind.i64 a = en1 IntKind.i64 a_1 ∧ en1 IntKind.i64 b = en1 IntKind.i64 b_1 ∧ LenOk a_1 ∧ LenOk b_1 ∧ NT Tail.no ∧ NT Tail.no ∧ ∃ (a_2 : List Int), ∃ (b_2 : List Int), en1 IntKind.i64 b = en1 IntKind.i64 a_2 ∧ en1 IntKind.i64 a = en1 IntKind.i64 b_2 ∧ LenOk a_2 ∧ LenOk b_2 ∧ NT Tail.no ∧ NT Tail.no ∧ br ((Prod.snd (Prod.snd (upd a_1 b_1 r)) == Prod.snd (Prod.snd (upd a_2 b_2 r))) == true) (∃ (xs : List Int), ∃ (ys : List Int), en1 IntKind.i64 (Prod.fst (upd a_1 b_1 r)) = en1 IntKind.i64 xs ∧ en1 IntKind.i64 (Prod.fst (Prod.snd (upd a_2 b_2 r))) = en1 IntKind.i64 ys ∧ LenOk xs ∧ LenOk ys ∧ NT Tail.no ∧ NT Tail.no ∧ br ((xs == ys) == true) (∃ (xs : List Int), ∃ (ys : List Int), en1 IntKind.i64 (Prod.fst (Prod.snd (upd a_1 b_1 r))) = en1 IntKind.i64 xs ∧ en1 IntKind.i64 (Prod.fst (upd a_2 b_2 r)) = en1 IntKind.i64 ys ∧ LenOk xs ∧ LenOk ys ∧ NT Tail.no ∧ NT Tail.no ∧ br ((xs == ys) == true) (K (PV.bool true)) (K (PV.bool false))) (K (PV.bool false))) (K (PV.bool false)))))) (K (PV.bool true))) : ACalls Tryd.prog gl 8 [.list (en1 .i64 a) .no, .list (en1 .i64 b) .no, .int .i64 r] [] (fun x _ => K x) :=
  acalls_of_wpc2 (T := T8) (L := []) (fun _ => 0) Tryd.func8 (by kernel_rfl) (by kernel_rfl) (by kernel_rfl) (T8_ok) (LOk.nil _ _ _ _ _) (holds_of_eq (turned_red a b r K) h)
-- THE LAWS
theorem expects_law (a b m r : Int) (l : List Int) : ACalls Tryd.prog gl 3 [.agg [.int .i64 a, .int .i64 b], .agg [.int .i64 m, .int .i64 r], .list (en1 .i64 l) .no] [] (fun x _ => x = .bool true) := by
  refine expects_vc a b m r l (fun x => x = .bool true) ?_
  simp only [br_if, en1_length, beq_self_eq_true, if_true]
  by_cases c : (l.length : Int) > 40
  · rw [if_pos (by simpa using c)]; trivial
  · rw [if_neg (by simpa using c)]
    have hl : LenOk l := by unfold LenOk; omega
    refine ⟨l, rfl, hl, NT.no, l, rfl, hl, NT.no, ?_⟩
    simp
theorem shares_law (p m k : Int) : ACalls Tryd.prog gl 4 [.int .i64 p, .int .i64 m, .int .i64 k] [] (fun x _ => x = .bool true) := by
  refine shares_vc p m k (fun x => x = .bool true) ?_
  simp only [br_if, beq_self_eq_true, if_true]
  by_cases c : p < -1099511627776
  · rw [if_neg (by simp [c])]; trivial
  · rw [if_pos (by simp; omega)]
    by_cases d : p > 1099511627776
    · rw [if_pos (by simpa using d)]; trivial
    · rw [if_neg (by simpa using d)]
      exact ⟨⟨by omega, by omega⟩, ⟨by omega, by omega⟩, trivial⟩
theorem upd_len (a b : List Int) (r : Int) : LenOk (upd a b r).1 ∧ LenOk (upd a b r).2.1 := by
  unfold upd
  by_cases c : a.length < 1 ∨ b.length < 1 ∨ a.length > 4 ∨ b.length > 4
  · rw [if_pos c]; exact ⟨by unfold LenOk; simp, by unfold LenOk; simp⟩
  · rw [if_neg c]
    split
    · exact ⟨by unfold LenOk; simp, by unfold LenOk; simp⟩
    · exact ⟨by unfold LenOk; simp only [shd_length]; omega, by unfold LenOk; simp only [shd_length]; omega⟩
theorem updates_law (a b : List Int) (r : Int) : ACalls Tryd.prog gl 5 [.list (en1 .i64 a) .no, .list (en1 .i64 b) .no, .int .i64 r] [] (fun x _ => x = .bool true) := by
  refine updates_vc a b r (fun x => x = .bool true) ?_
  simp only [br_if, en1_length]
  by_cases c : (a.length : Int) > 10
  · rw [if_neg (by simp [c])]; trivial
  · rw [if_pos (by simp; omega)]
    by_cases d : (b.length : Int) > 10
    · rw [if_pos (by simpa using d)]; trivial
    · rw [if_neg (by simpa using d)]
      have ha : LenOk a := by unfold LenOk; omega
      have hb : LenOk b := by unfold LenOk; omega
      obtain ⟨h1, h2⟩ := upd_len a b r
      refine ⟨a, b, rfl, rfl, ha, hb, NT.no, NT.no, a, b, rfl, rfl, ha, hb, NT.no, NT.no, _, _, rfl, rfl, h1, h1, NT.no, NT.no, ?_⟩
      rw [if_pos (by simp)]
      refine ⟨_, _, rfl, rfl, h2, h2, NT.no, NT.no, ?_⟩
      simp
-- the other way round
def turn (r : Int) : Int := if r = 1 then 2 else if r = 2 then 1 else r
theorem ex0_zero : ex0 0 = 500 := rfl
theorem expd_turn (a b : Int) : expd b a = 1000 - expd a b := by
  unfold expd
  by_cases h : within a < within b
  · rw [if_pos h, if_neg (by omega)]; omega
  · by_cases h2 : within b < within a
    · rw [if_neg h, if_pos h2]
    · have e : within a = within b := by omega
      rw [if_neg h, if_neg h2, e, Int.sub_self, ex0_zero]; rfl
theorem q1000_neg (n : Int) : q1000 (-n) = -(q1000 n) := by
  unfold q1000
  by_cases h : n < 0
  · rw [if_pos h, if_neg (by omega)]; omega
  · by_cases h0 : n = 0
    · subst h0; rfl
    · rw [if_neg h, if_pos (by omega), Int.neg_neg]
theorem stk_turn (a b m r : Int) : stk b a m (turn r) = -(stk a b m r) := by
  unfold stk
  by_cases c : r < 0 ∨ r > 2
  · rw [if_pos c, if_pos (by unfold turn; (repeat' split) <;> omega)]; rfl
  · rw [if_neg c, if_neg (by unfold turn; (repeat' split) <;> omega), expd_turn a b, ← q1000_neg]
    have hs : sc (turn r) = 1000 - sc r := by
      have : r = 0 ∨ r = 1 ∨ r = 2 := by omega
      rcases this with rfl | rfl | rfl <;> rfl
    rw [hs]
    congr 1
    rcases clm_cases m with h | h | h | h | h <;> rw [h] <;> omega
theorem mnI_comm (a b : Int) : mnI a b = mnI b a := by unfold mnI; (repeat' split) <;> omega
theorem upd_turn (a b : List Int) (r : Int) : upd b a (turn r) = ((upd a b r).2.1, (upd a b r).1, (upd a b r).2.2) := by
  unfold upd
  by_cases c : a.length < 1 ∨ b.length < 1 ∨ a.length > 4 ∨ b.length > 4
  · rw [if_pos c, if_pos (by omega)]
  · rw [if_neg c, if_neg (by omega)]
    have ht : (turn r < 0 ∨ turn r > 2) ↔ (r < 0 ∨ r > 2) := by unfold turn; (repeat' split) <;> omega
    by_cases d : okAll a = false ∨ okAll b = false ∨ r < 0 ∨ r > 2
    · rw [if_pos d, if_pos (by rcases d with d | d | d; exact .inr (.inl d); exact .inl d; exact .inr (.inr (ht.2 d)))]
    · rw [if_neg d, if_neg (fun k => d (by rcases k with k | k | k; exact .inr (.inl k); exact .inl k; exact .inr (.inr (ht.1 k))))]
      rw [stk_turn, mnI_comm b.length a.length, Int.neg_neg]
theorem turned_law (a b : List Int) (r : Int) : ACalls Tryd.prog gl 8 [.list (en1 .i64 a) .no, .list (en1 .i64 b) .no, .int .i64 r] [] (fun x _ => x = .bool true) := by
  refine turned_vc a b r (fun x => x = .bool true) ?_
  simp only [br_if, en1_length]
  by_cases c : (a.length : Int) > 10
  · rw [if_neg (by simp [c])]; trivial
  rw [if_pos (by simp; omega)]
  by_cases d : (b.length : Int) > 10
  · rw [if_pos (by simpa using d)]; trivial
  rw [if_neg (by simpa using d)]
  have ha : LenOk a := by unfold LenOk; omega
  have hb : LenOk b := by unfold LenOk; omega
  obtain ⟨h1, h2⟩ := upd_len a b r
  obtain ⟨h3, h4⟩ := upd_len b a (turn r)
  have key := upd_turn a b r
  by_cases r1 : r = 1
  · rw [if_pos (by simpa using r1)]
    have e : turn r = 2 := by unfold turn; rw [if_pos r1]
    rw [e] at key h3 h4
    refine ⟨a, b, rfl, rfl, ha, hb, NT.no, NT.no, b, a, rfl, rfl, hb, ha, NT.no, NT.no, ?_⟩
    rw [if_pos (by rw [key]; simp)]
    refine ⟨_, _, rfl, rfl, h1, h4, NT.no, NT.no, ?_⟩
    rw [if_pos (by rw [key]; simp)]
    refine ⟨_, _, rfl, rfl, h2, h3, NT.no, NT.no, ?_⟩
    rw [if_pos (by rw [key]; simp)]; trivial
  · rw [if_neg (by simpa using r1)]
    by_cases r2 : r = 2
    · rw [if_pos (by simpa using r2)]
      have e : turn r = 1 := by unfold turn; rw [if_neg r1, if_pos r2]
      rw [e] at key h3 h4
      refine ⟨a, b, rfl, rfl, ha, hb, NT.no, NT.no, b, a, rfl, rfl, hb, ha, NT.no, NT.no, ?_⟩
      rw [if_pos (by rw [key]; simp)]
      refine ⟨_, _, rfl, rfl, h1, h4, NT.no, NT.no, ?_⟩
      rw [if_pos (by rw [key]; simp)]
      refine ⟨_, _, rfl, rfl, h2, h3, NT.no, NT.no, ?_⟩
      rw [if_pos (by rw [key]; simp)]; trivial
    · rw [if_neg (by simpa using r2)]
      have e : turn r = r := by unfold turn; rw [if_neg r1, if_neg r2]
      rw [e] at key h3 h4
      refine ⟨a, b, rfl, rfl, ha, hb, NT.no, NT.no, b, a, rfl, rfl, hb, ha, NT.no, NT.no, ?_⟩
      rw [if_pos (by rw [key]; simp)]
      refine ⟨_, _, rfl, rfl, h1, h4, NT.no, NT.no, ?_⟩
      rw [if_pos (by rw [key]; simp)]
      refine ⟨_, _, rfl, rfl, h2, h3, NT.no, NT.no, ?_⟩
      rw [if_pos (by rw [key]; simp)]; trivial
-- WHAT THE ONE TEAM WINS THE OTHER ONE LOSES
def dsum : List Int → List Int → Int
  | x :: xs, a :: bs => (x - a) + dsum xs bs
  | _, _ => 0
def anyEnd (xs : List Int) : Bool := xs.any fun v => v == 0 || v == 10000
theorem dsum_snoc : ∀ (xs bs : List Int) (x a : Int), xs.length = bs.length → dsum (xs ++ [x]) (bs ++ [a]) = dsum xs bs + (x - a)
  | [], [], x, a, _ => by simp [dsum]
  | x' :: xs, a' :: bs, x, a, h => by
    have := dsum_snoc xs bs x a (by simpa using h)
    simp only [List.cons_append, dsum, this]; omega
  | [], _ :: _, _, _, h => by simp at h
  | _ :: _, [], _, _, h => by simp at h
theorem dsum_range : ∀ (xs bs : List Int), Rt xs → Rt bs → -(10000 * (xs.length : Int)) ≤ dsum xs bs ∧ dsum xs bs ≤ 10000 * (xs.length : Int)
  | [], _, _, _ => by simp [dsum]
  | x :: xs, [], _, _ => by simp only [dsum, List.length_cons]; omega
  | x :: xs, a :: bs, hx, ha => by
    have h1 := dsum_range xs bs (fun r h => hx r (List.mem_cons_of_mem _ h)) (fun r h => ha r (List.mem_cons_of_mem _ h))
    have h2 := hx x List.mem_cons_self
    have h3 := ha a List.mem_cons_self
    simp only [dsum, List.length_cons]; omega
theorem anyEnd_snoc (xs : List Int) (x : Int) : anyEnd (xs ++ [x]) = (anyEnd xs || (x == 0 || x == 10000)) := by simp [anyEnd]
theorem Rt.take {ns : List Int} (h : Rt ns) (i : Nat) : Rt (ns.take i) := fun r hr => h r (List.mem_of_mem_take hr)
def zero1_l : LSp := fun e H Q => ∃ (a b x y : List Int), Ten a ∧ x.length = a.length ∧ Rt a ∧ Rt x ∧ SlIs (List.map e [0, 1, 6, 7, 8, 10, 11, 12]) [.list (en1 .i64 a) .no, .list (en1 .i64 b) .no, .bool false, .list (en1 .i64 x) .no, .list (en1 .i64 y) .no, .int .i64 0, .bool false, .int .i64 0] ∧ HpIs H [] ∧
  Q (.exit 0) (envS [0, 1, 6, 7, 8, 10, 11, 12] [.list (en1 .i64 a) .no, .list (en1 .i64 b) .no, .bool false, .list (en1 .i64 x) .no, .list (en1 .i64 y) .no, .int .i64 (dsum x a), .bool (anyEnd x), .int .i64 a.length]) []
theorem zero1_red (a b x y : List Int) (s : Int) (d : Bool) (i : Nat) (R : Ex → List PV → Heap → Prop) : (br (decide ((↑i : Int) < (↑(List.length (en1 IntKind.i64 a)) : Int))) (InL (en1 IntKind.i64 x) 1 (↑i : Int) ∧ br (true && fitX [CK.int IntKind.i64] 0 (List.getD (en1 IntKind.i64 x) (Int.toNat (↑i : Int)) [])) (InL (en1 IntKind.i64 a) 1 (↑i : Int) ∧ br (true && fitX [CK.int IntKind.i64] 0 (List.getD (en1 IntKind.i64 a) (Int.toNat (↑i : Int)) [])) (br (d == false) (InL (en1 IntKind.i64 x) 1 (↑i : Int) ∧ br (true && fitX [CK.int IntKind.i64] 0 (List.getD (en1 IntKind.i64 x) (Int.toNat (↑i : Int)) [])) (br ((cI (List.getD (en1 IntKind.i64 x) (Int.toNat (↑i : Int)) []) 0 == 0) == false) (InL (en1 IntKind.i64 x) 1 (↑i : Int) ∧ br (true && fitX [CK.int IntKind.i64] 0 (List.getD (en1 IntKind.i64 x) (Int.toNat (↑i : Int)) [])) (InL (en1 IntKind.i64 x) 1 (↑i : Int) ∧ br (true && fitX [CK.int IntKind.i64] 0 (List.getD (en1 IntKind.i64 x) (Int.toNat (↑i : Int)) [])) (br (decide (cI (List.getD (en1 IntKind.i64 x) (Int.toNat (↑i : Int)) []) 0 < 0) == false) (InL (en1 IntKind.i64 x) 1 (↑i : Int) ∧ br (true && fitX [CK.int IntKind.i64] 0 (List.getD (en1 IntKind.i64 x) (Int.toNat (↑i : Int)) [])) (br (decide (cI (List.getD (en1 IntKind.i64 x) (Int.toNat (↑i : Int)) []) 0 > 10000)) (R Ex.ret [PV.list (en1 IntKind.i64 a) Tail.no, PV.list (en1 IntKind.i64 b) Tail.no, PV.bool false, PV.list (en1 IntKind.i64 x) Tail.no, PV.list (en1 IntKind.i64 y) Tail.no, PV.int IntKind.i64 (wI (s + wI (cI (List.getD (en1 IntKind.i64 x) (Int.toNat (↑i : Int)) []) 0 - cI (List.getD (en1 IntKind.i64 a) (Int.toNat (↑i : Int)) []) 0))), PV.bool (cI (List.getD (en1 IntKind.i64 x) (Int.toNat (↑i : Int)) []) 0 == 10000), PV.int IntKind.i64 (↑i : Int)] []) (R Ex.normal [PV.list (en1 IntKind.i64 a) Tail.no, PV.list (en1 IntKind.i64 b) Tail.no, PV.bool false, PV.list (en1 IntKind.i64 x) Tail.no, PV.list (en1 IntKind.i64 y) Tail.no, PV.int IntKind.i64 (wI (s + wI (cI (List.getD (en1 IntKind.i64 x) (Int.toNat (↑i : Int)) []) 0 - cI (List.getD (en1 IntKind.i64 a) (Int.toNat (↑i : Int)) []) 0))), PV.bool (cI (List.getD (en1 IntKind.i64 x) (Int.toNat (↑i : Int)) []) 0 == 10000), PV.int IntKind.i64 (wI ((↑i : Int) + 1))] [])) False) (R Ex.ret [PV.list (en1 IntKind.i64 a) Tail.no, PV.list (en1 IntKind.i64 b) Tail.no, PV.bool false, PV.list (en1 IntKind.i64 x) Tail.no, PV.list (en1 IntKind.i64 y) Tail.no, PV.int IntKind.i64 (wI (s + wI (cI (List.getD (en1 IntKind.i64 x) (Int.toNat (↑i : Int)) []) 0 - cI (List.getD (en1 IntKind.i64 a) (Int.toNat (↑i : Int)) []) 0))), PV.bool (cI (List.getD (en1 IntKind.i64 x) (Int.toNat (↑i : Int)) []) 0 == 10000), PV.int IntKind.i64 (↑i : Int)] [])) False) False) (InL (en1 IntKind.i64 x) 1 (↑i : Int) ∧ br (true && fitX [CK.int IntKind.i64] 0 (List.getD (en1 IntKind.i64 x) (Int.toNat (↑i : Int)) [])) (br (decide (cI (List.getD (en1 IntKind.i64 x) (Int.toNat (↑i : Int)) []) 0 < 0) == false) (InL (en1 IntKind.i64 x) 1 (↑i : Int) ∧ br (true && fitX [CK.int IntKind.i64] 0 (List.getD (en1 IntKind.i64 x) (Int.toNat (↑i : Int)) [])) (br (decide (cI (List.getD (en1 IntKind.i64 x) (Int.toNat (↑i : Int)) []) 0 > 10000)) (R Ex.ret [PV.list (en1 IntKind.i64 a) Tail.no, PV.list (en1 IntKind.i64 b) Tail.no, PV.bool false, PV.list (en1 IntKind.i64 x) Tail.no, PV.list (en1 IntKind.i64 y) Tail.no, PV.int IntKind.i64 (wI (s + wI (cI (List.getD (en1 IntKind.i64 x) (Int.toNat (↑i : Int)) []) 0 - cI (List.getD (en1 IntKind.i64 a) (Int.toNat (↑i : Int)) []) 0))), PV.bool true, PV.int IntKind.i64 (↑i : Int)] []) (R Ex.normal [PV.list (en1 IntKind.i64 a) Tail.no, PV.list (en1 IntKind.i64 b) Tail.no, PV.bool false, PV.list (en1 IntKind.i64 x) Tail.no, PV.list (en1 IntKind.i64 y) Tail.no, PV.int IntKind.i64 (wI (s + wI (cI (List.getD (en1 IntKind.i64 x) (Int.toNat (↑i : Int)) []) 0 - cI (List.getD (en1 IntKind.i64 a) (Int.toNat (↑i : Int)) []) 0))), PV.bool true, PV.int IntKind.i64 (wI ((↑i : Int) + 1))] [])) False) (R Ex.ret [PV.list (en1 IntKind.i64 a) Tail.no, PV.list (en1 IntKind.i64 b) Tail.no, PV.bool false, PV.list (en1 IntKind.i64 x) Tail.no, PV.list (en1 IntKind.i64 y) Tail.no, PV.int IntKind.i64 (wI (s + wI (cI (List.getD (en1 IntKind.i64 x) (Int.toNat (↑i : Int)) []) 0 - cI (List.getD (en1 IntKind.i64 a) (Int.toNat (↑i : Int)) []) 0))), PV.bool true, PV.int IntKind.i64 (↑i : Int)] [])) False)) False) (InL (en1 IntKind.i64 x) 1 (↑i : Int) ∧ br (true && fitX [CK.int IntKind.i64] 0 (List.getD (en1 IntKind.i64 x) (Int.toNat (↑i : Int)) [])) (br (decide (cI (List.getD (en1 IntKind.i64 x) (Int.toNat (↑i : Int)) []) 0 < 0) == false) (InL (en1 IntKind.i64 x) 1 (↑i : Int) ∧ br (true && fitX [CK.int IntKind.i64] 0 (List.getD (en1 IntKind.i64 x) (Int.toNat (↑i : Int)) [])) (br (decide (cI (List.getD (en1 IntKind.i64 x) (Int.toNat (↑i : Int)) []) 0 > 10000)) (R Ex.ret [PV.list (en1 IntKind.i64 a) Tail.no, PV.list (en1 IntKind.i64 b) Tail.no, PV.bool false, PV.list (en1 IntKind.i64 x) Tail.no, PV.list (en1 IntKind.i64 y) Tail.no, PV.int IntKind.i64 (wI (s + wI (cI (List.getD (en1 IntKind.i64 x) (Int.toNat (↑i : Int)) []) 0 - cI (List.getD (en1 IntKind.i64 a) (Int.toNat (↑i : Int)) []) 0))), PV.bool true, PV.int IntKind.i64 (↑i : Int)] []) (R Ex.normal [PV.list (en1 IntKind.i64 a) Tail.no, PV.list (en1 IntKind.i64 b) Tail.no, PV.bool false, PV.list (en1 IntKind.i64 x) Tail.no, PV.list (en1 IntKind.i64 y) Tail.no, PV.int IntKind.i64 (wI (s + wI (cI (List.getD (en1 IntKind.i64 x) (Int.toNat (↑i : Int)) []) 0 - cI (List.getD (en1 IntKind.i64 a) (Int.toNat (↑i : Int)) []) 0))), PV.bool true, PV.int IntKind.i64 (wI ((↑i : Int) + 1))] [])) False) (R Ex.ret [PV.list (en1 IntKind.i64 a) Tail.no, PV.list (en1 IntKind.i64 b) Tail.no, PV.bool false, PV.list (en1 IntKind.i64 x) Tail.no, PV.list (en1 IntKind.i64 y) Tail.no, PV.int IntKind.i64 (wI (s + wI (cI (List.getD (en1 IntKind.i64 x) (Int.toNat (↑i : Int)) []) 0 - cI (List.getD (en1 IntKind.i64 a) (Int.toNat (↑i : Int)) []) 0))), PV.bool true, PV.int IntKind.i64 (↑i : Int)] [])) False)) False) False) (R (Ex.exit 0) [PV.list (en1 IntKind.i64 a) Tail.no, PV.list (en1 IntKind.i64 b) Tail.no, PV.bool false, PV.list (en1 IntKind.i64 x) Tail.no, PV.list (en1 IntKind.i64 y) Tail.no, PV.int IntKind.i64 s, PV.bool d, PV.int IntKind.i64 (↑i : Int)] [])) = wpc br Tryd.prog gl T8 [] (fun _ => 0) (subOf [1, 1, 1, 1, 1, 0, 1, 0] (bodyOf Tryd.f6)) [] (envS [0, 1, 6, 7, 8, 10, 11, 12] [.list (en1 .i64 a) .no, .list (en1 .i64 b) .no, .bool false, .list (en1 .i64 x) .no, .list (en1 .i64 y) .no, .int .i64 s, .bool d, .int .i64 i]) [] (fun ex e H => R ex (List.map e [0, 1, 6, 7, 8, 10, 11, 12]) H) := by kernel_rfl
theorem zero1_vc (a b x y : List Int) (s : Int) (d : Bool) (i : Nat) (R : Ex → List PV → Heap → Prop) (h : br (decide ((↑i : Int) < (↑(List.length (en1 IntKind.i64 a)) : Int))) (InL (en1 IntKind.i64 x) 1 (↑i : Int) ∧ br (true && fitX [CK.int IntKind.i64] 0 (List.getD (en1 IntKind.i64 x) (Int.toNat (↑i : Int)) [])) (InL (en1 IntKind.i64 a) 1 (↑i : Int) ∧ br (true && fitX [CK.int IntKind.i64] 0 (List.getD (en1 IntKind.i64 a) (Int.toNat (↑i : Int)) [])) (br (d == false) (InL (en1 IntKind.i64 x) 1 (↑i : Int) ∧ br (true && fitX [CK.int IntKind.i64] 0 (List.getD (en1 IntKind.i64 x) (Int.toNat (↑i : Int)) [])) (br ((cI (List.getD (en1 IntKind.i64 x) (Int.toNat (↑i : Int)) []) 0 == 0) == false) (InL (en1 IntKind.i64 x) 1 (↑i : Int) ∧ br (true && fitX [CK.int IntKind.i64] 0 (List.getD (en1 IntKind.i64 x) (Int.toNat (↑i : Int)) [])) (InL (en1 IntKind.i64 x) 1 (↑i : Int) ∧ br (true && fitX [CK.int IntKind.i64] 0 (List.getD (en1 IntKind.i64 x) (Int.toNat (↑i : Int)) [])) (br (decide (cI (List.getD (en1 IntKind.i64 x) (Int.toNat (↑i : Int)) []) 0 < 0) == false) (InL (en1 IntKind.i64 x) 1 (↑i : Int) ∧ br (true && fitX [CK.int IntKind.i64] 0 (List.getD (en1 IntKind.i64 x) (Int.toNat (↑i : Int)) [])) (br (decide (cI (List.getD (en1 IntKind.i64 x) (Int.toNat (↑i : Int)) []) 0 > 10000)) (R Ex.ret [PV.list (en1 IntKind.i64 a) Tail.no, PV.list (en1 IntKind.i64 b) Tail.no, PV.bool false, PV.list (en1 IntKind.i64 x) Tail.no, PV.list (en1 IntKind.i64 y) Tail.no, PV.int IntKind.i64 (wI (s + wI (cI (List.getD (en1 IntKind.i64 x) (Int.toNat (↑i : Int)) []) 0 - cI (List.getD (en1 IntKind.i64 a) (Int.toNat (↑i : Int)) []) 0))), PV.bool (cI (List.getD (en1 IntKind.i64 x) (Int.toNat (↑i : Int)) []) 0 == 10000), PV.int IntKind.i64 (↑i : Int)] []) (R Ex.normal [PV.list (en1 IntKind.i64 a) Tail.no, PV.list (en1 IntKind.i64 b) Tail.no, PV.bool false, PV.list (en1 IntKind.i64 x) Tail.no, PV.list (en1 IntKind.i64 y) Tail.no, PV.int IntKind.i64 (wI (s + wI (cI (List.getD (en1 IntKind.i64 x) (Int.toNat (↑i : Int)) []) 0 - cI (List.getD (en1 IntKind.i64 a) (Int.toNat (↑i : Int)) []) 0))), PV.bool (cI (List.getD (en1 IntKind.i64 x) (Int.toNat (↑i : Int)) []) 0 == 10000), PV.int IntKind.i64 (wI ((↑i : Int) + 1))] [])) False) (R Ex.ret [PV.list (en1 IntKind.i64 a) Tail.no, PV.list (en1 IntKind.i64 b) Tail.no, PV.bool false, PV.list (en1 IntKind.i64 x) Tail.no, PV.list (en1 IntKind.i64 y) Tail.no, PV.int IntKind.i64 (wI (s + wI (cI (List.getD (en1 IntKind.i64 x) (Int.toNat (↑i : Int)) []) 0 - cI (List.getD (en1 IntKind.i64 a) (Int.toNat (↑i : Int)) []) 0))), PV.bool (cI (List.getD (en1 IntKind.i64 x) (Int.toNat (↑i : Int)) []) 0 == 10000), PV.int IntKind.i64 (↑i : Int)] [])) False) False) (InL (en1 IntKind.i64 x) 1 (↑i : Int) ∧ br (true && fitX [CK.int IntKind.i64] 0 (List.getD (en1 IntKind.i64 x) (Int.toNat (↑i : Int)) [])) (br (decide (cI (List.getD (en1 IntKind.i64 x) (Int.toNat (↑i : Int)) []) 0 < 0) == false) (InL (en1 IntKind.i64 x) 1 (↑i : Int) ∧ br (true && fitX [CK.int IntKind.i64] 0 (List.getD (en1 IntKind.i64 x) (Int.toNat (↑i : Int)) [])) (br (decide (cI (List.getD (en1 IntKind.i64 x) (Int.toNat (↑i : Int)) []) 0 > 10000)) (R Ex.ret [PV.list (en1 IntKind.i64 a) Tail.no, PV.list (en1 IntKind.i64 b) Tail.no, PV.bool false, PV.list (en1 IntKind.i64 x) Tail.no, PV.list (en1 IntKind.i64 y) Tail.no, PV.int IntKind.i64 (wI (s + wI (cI (List.getD (en1 IntKind.i64 x) (Int.toNat (↑i : Int)) []) 0 - cI (List.getD (en1 IntKind.i64 a) (Int.toNat (↑i : Int)) []) 0))), PV.bool true, PV.int IntKind.i64 (↑i : Int)] []) (R Ex.normal [PV.list (en1 IntKind.i64 a) Tail.no, PV.list (en1 IntKind.i64 b) Tail.no, PV.bool false, PV.list (en1 IntKind.i64 x) Tail.no, PV.list (en1 IntKind.i64 y) Tail.no, PV.int IntKind.i64 (wI (s + wI (cI (List.getD (en1 IntKind.i64 x) (Int.toNat (↑i : Int)) []) 0 - cI (List.getD (en1 IntKind.i64 a) (Int.toNat (↑i : Int)) []) 0))), PV.bool true, PV.int IntKind.i64 (wI ((↑i : Int) + 1))] [])) False) (R Ex.ret [PV.list (en1 IntKind.i64 a) Tail.no, PV.list (en1 IntKind.i64 b) Tail.no, PV.bool false, PV.list (en1 IntKind.i64 x) Tail.no, PV.list (en1 IntKind.i64 y) Tail.no, PV.int IntKind.i64 (wI (s + wI (cI (List.getD (en1 IntKind.i64 x) (Int.toNat (↑i : Int)) []) 0 - cI (List.getD (en1 IntKind.i64 a) (Int.toNat (↑i : Int)) []) 0))), PV.bool true, PV.int IntKind.i64 (↑i : Int)] [])) False)) False) (InL (en1 IntKind.i64 x) 1 (↑i : Int) ∧ br (true && fitX [CK.int IntKind.i64] 0 (List.getD (en1 IntKind.i64 x) (Int.toNat (↑i : Int)) [])) (br (decide (cI (List.getD (en1 IntKind.i64 x) (Int.toNat (↑i : Int)) []) 0 < 0) == false) (InL (en1 IntKind.i64 x) 1 (↑i : Int) ∧ br (true && fitX [CK.int IntKind.i64] 0 (List.getD (en1 IntKind.i64 x) (Int.toNat (↑i : Int)) [])) (br (decide (cI (List.getD (en1 IntKind.i64 x) (Int.toNat (↑i : Int)) []) 0 > 10000)) (R Ex.ret [PV.list (en1 IntKind.i64 a) Tail.no, PV.list (en1 IntKind.i64 b) Tail.no, PV.bool false, PV.list (en1 IntKind.i64 x) Tail.no, PV.list (en1 IntKind.i64 y) Tail.no, PV.int IntKind.i64 (wI (s + wI (cI (List.getD (en1 IntKind.i64 x) (Int.toNat (↑i : Int)) []) 0 - cI (List.getD (en1 IntKind.i64 a) (Int.toNat (↑i : Int)) []) 0))), PV.bool true, PV.int IntKind.i64 (↑i : Int)] []) (R Ex.normal [PV.list (en1 IntKind.i64 a) Tail.no, PV.list (en1 IntKind.i64 b) Tail.no, PV.bool false, PV.list (en1 IntKind.i64 x) Tail.no, PV.list (en1 IntKind.i64 y) Tail.no, PV.int IntKind.i64 (wI (s + wI (cI (List.getD (en1 IntKind.i64 x) (Int.toNat (↑i : Int)) []) 0 - cI (List.getD (en1 IntKind.i64 a) (Int.toNat (↑i : Int)) []) 0))), PV.bool true, PV.int IntKind.i64 (wI ((↑i : Int) + 1))] [])) False) (R Ex.ret [PV.list (en1 IntKind.i64 a) Tail.no, PV.list (en1 IntKind.i64 b) Tail.no, PV.bool false, PV.list (en1 IntKind.i64 x) Tail.no, PV.list (en1 IntKind.i64 y) Tail.no, PV.int IntKind.i64 (wI (s + wI (cI (List.getD (en1 IntKind.i64 x) (Int.toNat (↑i : Int)) []) 0 - cI (List.getD (en1 IntKind.i64 a) (Int.toNat (↑i : Int)) []) 0))), PV.bool true, PV.int IntKind.i64 (↑i : Int)] [])) False)) False) False) (R (Ex.exit 0) [PV.list (en1 IntKind.i64 a) Tail.no, PV.list (en1 IntKind.i64 b) Tail.no, PV.bool false, PV.list (en1 IntKind.i64 x) Tail.no, PV.list (en1 IntKind.i64 y) Tail.no, PV.int IntKind.i64 s, PV.bool d, PV.int IntKind.i64 (↑i : Int)] [])) : Holds (wpc br Tryd.prog gl T8 [] (fun _ => 0) (subOf [1, 1, 1, 1, 1, 0, 1, 0] (bodyOf Tryd.f6)) [] (envS [0, 1, 6, 7, 8, 10, 11, 12] [.list (en1 .i64 a) .no, .list (en1 .i64 b) .no, .bool false, .list (en1 .i64 x) .no, .list (en1 .i64 y) .no, .int .i64 s, .bool d, .int .i64 i]) [] (fun ex e H => R ex (List.map e [0, 1, 6, 7, 8, 10, 11, 12]) H)) := holds_of_eq (zero1_red a b x y s d i R) h
theorem zero2_red (b y : List Int) (s : Int) (d : Bool) (i : Nat) (R : Ex → List PV → Heap → Prop) : (br (decide ((↑i : Int) < (↑(List.length (en1 IntKind.i64 b)) : Int))) (InL (en1 IntKind.i64 y) 1 (↑i : Int) ∧ br (true && fitX [CK.int IntKind.i64] 0 (List.getD (en1 IntKind.i64 y) (Int.toNat (↑i : Int)) [])) (InL (en1 IntKind.i64 b) 1 (↑i : Int) ∧ br (true && fitX [CK.int IntKind.i64] 0 (List.getD (en1 IntKind.i64 b) (Int.toNat (↑i : Int)) [])) (br (d == false) (InL (en1 IntKind.i64 y) 1 (↑i : Int) ∧ br (true && fitX [CK.int IntKind.i64] 0 (List.getD (en1 IntKind.i64 y) (Int.toNat (↑i : Int)) [])) (br ((cI (List.getD (en1 IntKind.i64 y) (Int.toNat (↑i : Int)) []) 0 == 0) == false) (InL (en1 IntKind.i64 y) 1 (↑i : Int) ∧ br (true && fitX [CK.int IntKind.i64] 0 (List.getD (en1 IntKind.i64 y) (Int.toNat (↑i : Int)) [])) (InL (en1 IntKind.i64 y) 1 (↑i : Int) ∧ br (true && fitX [CK.int IntKind.i64] 0 (List.getD (en1 IntKind.i64 y) (Int.toNat (↑i : Int)) [])) (br (decide (cI (List.getD (en1 IntKind.i64 y) (Int.toNat (↑i : Int)) []) 0 < 0) == false) (InL (en1 IntKind.i64 y) 1 (↑i : Int) ∧ br (true && fitX [CK.int IntKind.i64] 0 (List.getD (en1 IntKind.i64 y) (Int.toNat (↑i : Int)) [])) (br (decide (cI (List.getD (en1 IntKind.i64 y) (Int.toNat (↑i : Int)) []) 0 > 10000)) (R Ex.ret [PV.list (en1 IntKind.i64 b) Tail.no, PV.bool false, PV.list (en1 IntKind.i64 y) Tail.no, PV.int IntKind.i64 (wI (s + wI (cI (List.getD (en1 IntKind.i64 y) (Int.toNat (↑i : Int)) []) 0 - cI (List.getD (en1 IntKind.i64 b) (Int.toNat (↑i : Int)) []) 0))), PV.bool (cI (List.getD (en1 IntKind.i64 y) (Int.toNat (↑i : Int)) []) 0 == 10000), PV.int IntKind.i64 (↑i : Int)] []) (R Ex.normal [PV.list (en1 IntKind.i64 b) Tail.no, PV.bool false, PV.list (en1 IntKind.i64 y) Tail.no, PV.int IntKind.i64 (wI (s + wI (cI (List.getD (en1 IntKind.i64 y) (Int.toNat (↑i : Int)) []) 0 - cI (List.getD (en1 IntKind.i64 b) (Int.toNat (↑i : Int)) []) 0))), PV.bool (cI (List.getD (en1 IntKind.i64 y) (Int.toNat (↑i : Int)) []) 0 == 10000), PV.int IntKind.i64 (wI ((↑i : Int) + 1))] [])) False) (R Ex.ret [PV.list (en1 IntKind.i64 b) Tail.no, PV.bool false, PV.list (en1 IntKind.i64 y) Tail.no, PV.int IntKind.i64 (wI (s + wI (cI (List.getD (en1 IntKind.i64 y) (Int.toNat (↑i : Int)) []) 0 - cI (List.getD (en1 IntKind.i64 b) (Int.toNat (↑i : Int)) []) 0))), PV.bool (cI (List.getD (en1 IntKind.i64 y) (Int.toNat (↑i : Int)) []) 0 == 10000), PV.int IntKind.i64 (↑i : Int)] [])) False) False) (InL (en1 IntKind.i64 y) 1 (↑i : Int) ∧ br (true && fitX [CK.int IntKind.i64] 0 (List.getD (en1 IntKind.i64 y) (Int.toNat (↑i : Int)) [])) (br (decide (cI (List.getD (en1 IntKind.i64 y) (Int.toNat (↑i : Int)) []) 0 < 0) == false) (InL (en1 IntKind.i64 y) 1 (↑i : Int) ∧ br (true && fitX [CK.int IntKind.i64] 0 (List.getD (en1 IntKind.i64 y) (Int.toNat (↑i : Int)) [])) (br (decide (cI (List.getD (en1 IntKind.i64 y) (Int.toNat (↑i : Int)) []) 0 > 10000)) (R Ex.ret [PV.list (en1 IntKind.i64 b) Tail.no, PV.bool false, PV.list (en1 IntKind.i64 y) Tail.no, PV.int IntKind.i64 (wI (s + wI (cI (List.getD (en1 IntKind.i64 y) (Int.toNat (↑i : Int)) []) 0 - cI (List.getD (en1 IntKind.i64 b) (Int.toNat (↑i : Int)) []) 0))), PV.bool true, PV.int IntKind.i64 (↑i : Int)] []) (R Ex.normal [PV.list (en1 IntKind.i64 b) Tail.no, PV.bool false, PV.list (en1 IntKind.i64 y) Tail.no, PV.int IntKind.i64 (wI (s + wI (cI (List.getD (en1 IntKind.i64 y) (Int.toNat (↑i : Int)) []) 0 - cI (List.getD (en1 IntKind.i64 b) (Int.toNat (↑i : Int)) []) 0))), PV.bool true, PV.int IntKind.i64 (wI ((↑i : Int) + 1))] [])) False) (R Ex.ret [PV.list (en1 IntKind.i64 b) Tail.no, PV.bool false, PV.list (en1 IntKind.i64 y) Tail.no, PV.int IntKind.i64 (wI (s + wI (cI (List.getD (en1 IntKind.i64 y) (Int.toNat (↑i : Int)) []) 0 - cI (List.getD (en1 IntKind.i64 b) (Int.toNat (↑i : Int)) []) 0))), PV.bool true, PV.int IntKind.i64 (↑i : Int)] [])) False)) False) (InL (en1 IntKind.i64 y) 1 (↑i : Int) ∧ br (true && fitX [CK.int IntKind.i64] 0 (List.getD (en1 IntKind.i64 y) (Int.toNat (↑i : Int)) [])) (br (decide (cI (List.getD (en1 IntKind.i64 y) (Int.toNat (↑i : Int)) []) 0 < 0) == false) (InL (en1 IntKind.i64 y) 1 (↑i : Int) ∧ br (true && fitX [CK.int IntKind.i64] 0 (List.getD (en1 IntKind.i64 y) (Int.toNat (↑i : Int)) [])) (br (decide (cI (List.getD (en1 IntKind.i64 y) (Int.toNat (↑i : Int)) []) 0 > 10000)) (R Ex.ret [PV.list (en1 IntKind.i64 b) Tail.no, PV.bool false, PV.list (en1 IntKind.i64 y) Tail.no, PV.int IntKind.i64 (wI (s + wI (cI (List.getD (en1 IntKind.i64 y) (Int.toNat (↑i : Int)) []) 0 - cI (List.getD (en1 IntKind.i64 b) (Int.toNat (↑i : Int)) []) 0))), PV.bool true, PV.int IntKind.i64 (↑i : Int)] []) (R Ex.normal [PV.list (en1 IntKind.i64 b) Tail.no, PV.bool false, PV.list (en1 IntKind.i64 y) Tail.no, PV.int IntKind.i64 (wI (s + wI (cI (List.getD (en1 IntKind.i64 y) (Int.toNat (↑i : Int)) []) 0 - cI (List.getD (en1 IntKind.i64 b) (Int.toNat (↑i : Int)) []) 0))), PV.bool true, PV.int IntKind.i64 (wI ((↑i : Int) + 1))] [])) False) (R Ex.ret [PV.list (en1 IntKind.i64 b) Tail.no, PV.bool false, PV.list (en1 IntKind.i64 y) Tail.no, PV.int IntKind.i64 (wI (s + wI (cI (List.getD (en1 IntKind.i64 y) (Int.toNat (↑i : Int)) []) 0 - cI (List.getD (en1 IntKind.i64 b) (Int.toNat (↑i : Int)) []) 0))), PV.bool true, PV.int IntKind.i64 (↑i : Int)] [])) False)) False) False) (R (Ex.exit 2) [PV.list (en1 IntKind.i64 b) Tail.no, PV.bool false, PV.list (en1 IntKind.i64 y) Tail.no, PV.int IntKind.i64 s, PV.bool d, PV.int IntKind.i64 (↑i : Int)] [])) = wpc br Tryd.prog gl T8 [] (fun _ => 0) (subOf [1, 1, 1, 1, 1, 1, 0, 1, 0] (bodyOf Tryd.f6)) [] (envS [1, 6, 8, 10, 11, 13] [.list (en1 .i64 b) .no, .bool false, .list (en1 .i64 y) .no, .int .i64 s, .bool d, .int .i64 i]) [] (fun ex e H => R ex (List.map e [1, 6, 8, 10, 11, 13]) H) := by kernel_rfl
theorem zero2_vc (b y : List Int) (s : Int) (d : Bool) (i : Nat) (R : Ex → List PV → Heap → Prop) (h : br (decide ((↑i : Int) < (↑(List.length (en1 IntKind.i64 b)) : Int))) (InL (en1 IntKind.i64 y) 1 (↑i : Int) ∧ br (true && fitX [CK.int IntKind.i64] 0 (List.getD (en1 IntKind.i64 y) (Int.toNat (↑i : Int)) [])) (InL (en1 IntKind.i64 b) 1 (↑i : Int) ∧ br (true && fitX [CK.int IntKind.i64] 0 (List.getD (en1 IntKind.i64 b) (Int.toNat (↑i : Int)) [])) (br (d == false) (InL (en1 IntKind.i64 y) 1 (↑i : Int) ∧ br (true && fitX [CK.int IntKind.i64] 0 (List.getD (en1 IntKind.i64 y) (Int.toNat (↑i : Int)) [])) (br ((cI (List.getD (en1 IntKind.i64 y) (Int.toNat (↑i : Int)) []) 0 == 0) == false) (InL (en1 IntKind.i64 y) 1 (↑i : Int) ∧ br (true && fitX [CK.int IntKind.i64] 0 (List.getD (en1 IntKind.i64 y) (Int.toNat (↑i : Int)) [])) (InL (en1 IntKind.i64 y) 1 (↑i : Int) ∧ br (true && fitX [CK.int IntKind.i64] 0 (List.getD (en1 IntKind.i64 y) (Int.toNat (↑i : Int)) [])) (br (decide (cI (List.getD (en1 IntKind.i64 y) (Int.toNat (↑i : Int)) []) 0 < 0) == false) (InL (en1 IntKind.i64 y) 1 (↑i : Int) ∧ br (true && fitX [CK.int IntKind.i64] 0 (List.getD (en1 IntKind.i64 y) (Int.toNat (↑i : Int)) [])) (br (decide (cI (List.getD (en1 IntKind.i64 y) (Int.toNat (↑i : Int)) []) 0 > 10000)) (R Ex.ret [PV.list (en1 IntKind.i64 b) Tail.no, PV.bool false, PV.list (en1 IntKind.i64 y) Tail.no, PV.int IntKind.i64 (wI (s + wI (cI (List.getD (en1 IntKind.i64 y) (Int.toNat (↑i : Int)) []) 0 - cI (List.getD (en1 IntKind.i64 b) (Int.toNat (↑i : Int)) []) 0))), PV.bool (cI (List.getD (en1 IntKind.i64 y) (Int.toNat (↑i : Int)) []) 0 == 10000), PV.int IntKind.i64 (↑i : Int)] []) (R Ex.normal [PV.list (en1 IntKind.i64 b) Tail.no, PV.bool false, PV.list (en1 IntKind.i64 y) Tail.no, PV.int IntKind.i64 (wI (s + wI (cI (List.getD (en1 IntKind.i64 y) (Int.toNat (↑i : Int)) []) 0 - cI (List.getD (en1 IntKind.i64 b) (Int.toNat (↑i : Int)) []) 0))), PV.bool (cI (List.getD (en1 IntKind.i64 y) (Int.toNat (↑i : Int)) []) 0 == 10000), PV.int IntKind.i64 (wI ((↑i : Int) + 1))] [])) False) (R Ex.ret [PV.list (en1 IntKind.i64 b) Tail.no, PV.bool false, PV.list (en1 IntKind.i64 y) Tail.no, PV.int IntKind.i64 (wI (s + wI (cI (List.getD (en1 IntKind.i64 y) (Int.toNat (↑i : Int)) []) 0 - cI (List.getD (en1 IntKind.i64 b) (Int.toNat (↑i : Int)) []) 0))), PV.bool (cI (List.getD (en1 IntKind.i64 y) (Int.toNat (↑i : Int)) []) 0 == 10000), PV.int IntKind.i64 (↑i : Int)] [])) False) False) (InL (en1 IntKind.i64 y) 1 (↑i : Int) ∧ br (true && fitX [CK.int IntKind.i64] 0 (List.getD (en1 IntKind.i64 y) (Int.toNat (↑i : Int)) [])) (br (decide (cI (List.getD (en1 IntKind.i64 y) (Int.toNat (↑i : Int)) []) 0 < 0) == false) (InL (en1 IntKind.i64 y) 1 (↑i : Int) ∧ br (true && fitX [CK.int IntKind.i64] 0 (List.getD (en1 IntKind.i64 y) (Int.toNat (↑i : Int)) [])) (br (decide (cI (List.getD (en1 IntKind.i64 y) (Int.toNat (↑i : Int)) []) 0 > 10000)) (R Ex.ret [PV.list (en1 IntKind.i64 b) Tail.no, PV.bool false, PV.list (en1 IntKind.i64 y) Tail.no, PV.int IntKind.i64 (wI (s + wI (cI (List.getD (en1 IntKind.i64 y) (Int.toNat (↑i : Int)) []) 0 - cI (List.getD (en1 IntKind.i64 b) (Int.toNat (↑i : Int)) []) 0))), PV.bool true, PV.int IntKind.i64 (↑i : Int)] []) (R Ex.normal [PV.list (en1 IntKind.i64 b) Tail.no, PV.bool false, PV.list (en1 IntKind.i64 y) Tail.no, PV.int IntKind.i64 (wI (s + wI (cI (List.getD (en1 IntKind.i64 y) (Int.toNat (↑i : Int)) []) 0 - cI (List.getD (en1 IntKind.i64 b) (Int.toNat (↑i : Int)) []) 0))), PV.bool true, PV.int IntKind.i64 (wI ((↑i : Int) + 1))] [])) False) (R Ex.ret [PV.list (en1 IntKind.i64 b) Tail.no, PV.bool false, PV.list (en1 IntKind.i64 y) Tail.no, PV.int IntKind.i64 (wI (s + wI (cI (List.getD (en1 IntKind.i64 y) (Int.toNat (↑i : Int)) []) 0 - cI (List.getD (en1 IntKind.i64 b) (Int.toNat (↑i : Int)) []) 0))), PV.bool true, PV.int IntKind.i64 (↑i : Int)] [])) False)) False) (InL (en1 IntKind.i64 y) 1 (↑i : Int) ∧ br (true && fitX [CK.int IntKind.i64] 0 (List.getD (en1 IntKind.i64 y) (Int.toNat (↑i : Int)) [])) (br (decide (cI (List.getD (en1 IntKind.i64 y) (Int.toNat (↑i : Int)) []) 0 < 0) == false) (InL (en1 IntKind.i64 y) 1 (↑i : Int) ∧ br (true && fitX [CK.int IntKind.i64] 0 (List.getD (en1 IntKind.i64 y) (Int.toNat (↑i : Int)) [])) (br (decide (cI (List.getD (en1 IntKind.i64 y) (Int.toNat (↑i : Int)) []) 0 > 10000)) (R Ex.ret [PV.list (en1 IntKind.i64 b) Tail.no, PV.bool false, PV.list (en1 IntKind.i64 y) Tail.no, PV.int IntKind.i64 (wI (s + wI (cI (List.getD (en1 IntKind.i64 y) (Int.toNat (↑i : Int)) []) 0 - cI (List.getD (en1 IntKind.i64 b) (Int.toNat (↑i : Int)) []) 0))), PV.bool true, PV.int IntKind.i64 (↑i : Int)] []) (R Ex.normal [PV.list (en1 IntKind.i64 b) Tail.no, PV.bool false, PV.list (en1 IntKind.i64 y) Tail.no, PV.int IntKind.i64 (wI (s + wI (cI (List.getD (en1 IntKind.i64 y) (Int.toNat (↑i : Int)) []) 0 - cI (List.getD (en1 IntKind.i64 b) (Int.toNat (↑i : Int)) []) 0))), PV.bool true, PV.int IntKind.i64 (wI ((↑i : Int) + 1))] [])) False) (R Ex.ret [PV.list (en1 IntKind.i64 b) Tail.no, PV.bool false, PV.list (en1 IntKind.i64 y) Tail.no, PV.int IntKind.i64 (wI (s + wI (cI (List.getD (en1 IntKind.i64 y) (Int.toNat (↑i : Int)) []) 0 - cI (List.getD (en1 IntKind.i64 b) (Int.toNat (↑i : Int)) []) 0))), PV.bool true, PV.int IntKind.i64 (↑i : Int)] [])) False)) False) False) (R (Ex.exit 2) [PV.list (en1 IntKind.i64 b) Tail.no, PV.bool false, PV.list (en1 IntKind.i64 y) Tail.no, PV.int IntKind.i64 s, PV.bool d, PV.int IntKind.i64 (↑i : Int)] [])) : Holds (wpc br Tryd.prog gl T8 [] (fun _ => 0) (subOf [1, 1, 1, 1, 1, 1, 0, 1, 0] (bodyOf Tryd.f6)) [] (envS [1, 6, 8, 10, 11, 13] [.list (en1 .i64 b) .no, .bool false, .list (en1 .i64 y) .no, .int .i64 s, .bool d, .int .i64 i]) [] (fun ex e H => R ex (List.map e [1, 6, 8, 10, 11, 13]) H)) := holds_of_eq (zero2_red b y s d i R) h
theorem take_step {xs bs : List Int} {i : Nat} (h : i < xs.length) (hl : xs.length = bs.length) : dsum (xs.take (i + 1)) (bs.take (i + 1)) = dsum (xs.take i) (bs.take i) + (xs.getD i 0 - bs.getD i 0) := by
  rw [take_snoc 0 h, take_snoc 0 (show i < bs.length by omega), dsum_snoc _ _ _ _ (by simp [hl])]
theorem dsum_take_range {xs bs : List Int} (i : Nat) (hx : Rt xs) (ha : Rt bs) (h : xs.length ≤ 1000) : -10000000 ≤ dsum (xs.take i) (bs.take i) ∧ dsum (xs.take i) (bs.take i) ≤ 10000000 := by
  have := dsum_range (xs.take i) (bs.take i) (hx.take i) (ha.take i)
  have h2 : (xs.take i).length ≤ 1000 := by simp; omega
  omega
theorem anyEnd_step {xs : List Int} {i : Nat} (h : i < xs.length) : anyEnd (xs.take (i + 1)) = (anyEnd (xs.take i) || (xs.getD i 0 == 0 || xs.getD i 0 == 10000)) := by
  rw [take_snoc 0 h, anyEnd_snoc]
theorem zero1_l_ok : ∀ e H Q, zero1_l e H Q → AW Tryd.prog gl Tryd.f6.ntmps (.loop (subOf [1, 1, 1, 1, 1, 0, 1, 0] (bodyOf Tryd.f6))) Q e H := by
  rintro e H Q ⟨a, b, x, y, hl, hlen, hra, hrx, he, hH, hQ⟩
  have hten : a.length ≤ 1000 := hl
  refine aw_loop4 (hn := fun _ => 0) gl_low T8_ok (.nil _ _ _ _ _) (σ := Nat × Int × Bool) [0, 1, 6, 7, 8, 10, 11, 12] (fun s => s.1 ≤ a.length ∧ s.2.1 = dsum (x.take s.1) (a.take s.1) ∧ s.2.2 = anyEnd (x.take s.1))
    (fun s => [.list (en1 .i64 a) .no, .list (en1 .i64 b) .no, .bool false, .list (en1 .i64 x) .no, .list (en1 .i64 y) .no, .int .i64 s.2.1, .bool s.2.2, .int .i64 s.1])
    (fun _ => []) (fun s => a.length - s.1) (0, 0, false) ⟨Nat.zero_le _, rfl, rfl⟩ he hH ?_
  rintro ⟨i, s, d⟩ ⟨h1, h2, h3⟩
  simp only at h1 h2 h3
  refine zero1_vc a b x y s d i _ ?_
  by_cases c : i < a.length
  · have cx : i < x.length := by omega
    have hr := hrx.get i
    have hg := hra.get i
    have hd := dsum_take_range i hrx hra (by omega)
    simp only [br_if, en1_length, toNat_nat, cI_get, inL_en1, fitg_en1, c, cx, decide_natlt, decide_true, Bool.and_self, if_true, true_and, show ¬ x.getD i 0 < 0 by omega, show ¬ x.getD i 0 > 10000 by omega, decide_false, beq_self_eq_true, Bool.false_eq_true, if_false]
    have e1 : wI (s + wI (x.getD i 0 - a.getD i 0)) = dsum (x.take (i + 1)) (a.take (i + 1)) := by
      rw [take_step cx hlen, w_small (n := x.getD i 0 - a.getD i 0) (by omega) (by omega), h2, w_small (by omega) (by omega)]
    rw [e1, wI_succ c (by omega)]
    have e2 := anyEnd_step cx
    have fin : ∀ d', d' = anyEnd (x.take (i + 1)) → loopR Q [0, 1, 6, 7, 8, 10, 11, 12] (fun s : Nat × Int × Bool => s.1 ≤ a.length ∧ s.2.1 = dsum (x.take s.1) (a.take s.1) ∧ s.2.2 = anyEnd (x.take s.1))
      (fun s => [.list (en1 .i64 a) .no, .list (en1 .i64 b) .no, .bool false, .list (en1 .i64 x) .no, .list (en1 .i64 y) .no, .int .i64 s.2.1, .bool s.2.2, .int .i64 s.1]) (fun _ => []) (fun s => a.length - s.1) (i, s, d) .normal
      [.list (en1 .i64 a) .no, .list (en1 .i64 b) .no, .bool false, .list (en1 .i64 x) .no, .list (en1 .i64 y) .no, .int .i64 (dsum (x.take (i + 1)) (a.take (i + 1))), .bool d', .int .i64 ((i + 1 : Nat) : Int)] [] := fun d' hd' =>
      ⟨(i + 1, _, d'), (by simp only; omega), ⟨by simp only; omega, rfl, hd'⟩, rfl, [], rfl, Nat.le_refl _, .inl rfl⟩
    cases d with
    | true => simp only [show ((true == false) = true) = False by simp, if_false]; exact fin true (by rw [e2, ← h3]; rfl)
    | false =>
      simp only [show ((false == false) = true) = True by simp, if_true]
      rw [← h3, Bool.false_or] at e2
      by_cases z : x.getD i 0 = 0
      · rw [z, if_neg (by decide)]
        exact fin true (by rw [e2, z]; rfl)
      · rw [if_pos (by simpa using z)]
        exact fin _ (by rw [e2, show (x.getD i 0 == 0) = false from by simpa using z]; rfl)
  · have ei : i = a.length := by omega
    simp only [br_if, en1_length, decide_natlt, c, decide_false, Bool.false_eq_true, if_false]
    rw [List.take_of_length_le (by omega), List.take_of_length_le (by omega)] at h2
    rw [List.take_of_length_le (by omega)] at h3
    subst h2; subst h3; subst ei
    exact hQ
def zero2_l : LSp := fun e H Q => ∃ (b y : List Int) (s0 : Int) (d0 : Bool), Ten b ∧ y.length = b.length ∧ Rt b ∧ Rt y ∧ (-10000000 ≤ s0 ∧ s0 ≤ 10000000) ∧ SlIs (List.map e [1, 6, 8, 10, 11, 13]) [.list (en1 .i64 b) .no, .bool false, .list (en1 .i64 y) .no, .int .i64 s0, .bool d0, .int .i64 0] ∧ HpIs H [] ∧
  Q (.exit 2) (envS [1, 6, 8, 10, 11, 13] [.list (en1 .i64 b) .no, .bool false, .list (en1 .i64 y) .no, .int .i64 (s0 + dsum y b), .bool (d0 || anyEnd y), .int .i64 b.length]) []
theorem zero2_l_ok : ∀ e H Q, zero2_l e H Q → AW Tryd.prog gl Tryd.f6.ntmps (.loop (subOf [1, 1, 1, 1, 1, 1, 0, 1, 0] (bodyOf Tryd.f6))) Q e H := by
  rintro e H Q ⟨a, x, s0, d0, hl, hlen, hra, hrx, hs0, he, hH, hQ⟩
  have hten : a.length ≤ 1000 := hl
  refine aw_loop4 (hn := fun _ => 0) gl_low T8_ok (.nil _ _ _ _ _) (σ := Nat × Int × Bool) [1, 6, 8, 10, 11, 13] (fun s => s.1 ≤ a.length ∧ s.2.1 = s0 + dsum (x.take s.1) (a.take s.1) ∧ s.2.2 = (d0 || anyEnd (x.take s.1)))
    (fun s => [.list (en1 .i64 a) .no, .bool false, .list (en1 .i64 x) .no, .int .i64 s.2.1, .bool s.2.2, .int .i64 s.1])
    (fun _ => []) (fun s => a.length - s.1) (0, s0, d0) ⟨Nat.zero_le _, by simp [dsum], by simp [anyEnd]⟩ he hH ?_
  rintro ⟨i, s, d⟩ ⟨h1, h2, h3⟩
  simp only at h1 h2 h3
  refine zero2_vc a x s d i _ ?_
  by_cases c : i < a.length
  · have cx : i < x.length := by omega
    have hr := hrx.get i
    have hg := hra.get i
    have hd := dsum_take_range i hrx hra (by omega)
    simp only [br_if, en1_length, toNat_nat, cI_get, inL_en1, fitg_en1, c, cx, decide_natlt, decide_true, Bool.and_self, if_true, true_and, show ¬ x.getD i 0 < 0 by omega, show ¬ x.getD i 0 > 10000 by omega, decide_false, beq_self_eq_true, Bool.false_eq_true, if_false]
    have e1 : wI (s + wI (x.getD i 0 - a.getD i 0)) = s0 + dsum (x.take (i + 1)) (a.take (i + 1)) := by
      rw [take_step cx hlen, w_small (n := x.getD i 0 - a.getD i 0) (by omega) (by omega), h2, w_small (by omega) (by omega)]; omega
    rw [e1, wI_succ c (by omega)]
    have e2 : (d0 || anyEnd (x.take (i + 1))) = (d || (x.getD i 0 == 0 || x.getD i 0 == 10000)) := by rw [anyEnd_step cx, h3, Bool.or_assoc]
    have fin : ∀ d', d' = (d0 || anyEnd (x.take (i + 1))) → loopR Q [1, 6, 8, 10, 11, 13] (fun s : Nat × Int × Bool => s.1 ≤ a.length ∧ s.2.1 = s0 + dsum (x.take s.1) (a.take s.1) ∧ s.2.2 = (d0 || anyEnd (x.take s.1)))
      (fun s => [.list (en1 .i64 a) .no, .bool false, .list (en1 .i64 x) .no, .int .i64 s.2.1, .bool s.2.2, .int .i64 s.1]) (fun _ => []) (fun s => a.length - s.1) (i, s, d) .normal
      [.list (en1 .i64 a) .no, .bool false, .list (en1 .i64 x) .no, .int .i64 (s0 + dsum (x.take (i + 1)) (a.take (i + 1))), .bool d', .int .i64 ((i + 1 : Nat) : Int)] [] := fun d' hd' =>
      ⟨(i + 1, _, d'), (by simp only; omega), ⟨by simp only; omega, rfl, hd'⟩, rfl, [], rfl, Nat.le_refl _, .inl rfl⟩
    cases d with
    | true => simp only [show ((true == false) = true) = False by simp, if_false]; exact fin true (by rw [e2]; rfl)
    | false =>
      simp only [show ((false == false) = true) = True by simp, if_true]
      rw [Bool.false_or] at e2
      by_cases z : x.getD i 0 = 0
      · rw [z, if_neg (by decide)]
        exact fin true (by rw [e2, z]; rfl)
      · rw [if_pos (by simpa using z)]
        exact fin _ (by rw [e2, show (x.getD i 0 == 0) = false from by simpa using z]; rfl)
  · have ei : i = a.length := by omega
    simp only [br_if, en1_length, decide_natlt, c, decide_false, Bool.false_eq_true, if_false]
    rw [List.take_of_length_le (by omega), List.take_of_length_le (by omega)] at h2
    rw [List.take_of_length_le (by omega)] at h3
    subst h2; subst h3; subst ei
    exact hQ
theorem wins1_red (a b x y : List Int) (up dn : Bool) (i : Nat) (R : Ex → List PV → Heap → Prop) : (br (decide ((↑i : Int) < (↑(List.length (en1 IntKind.i64 a)) : Int))) (br (up == true) (InL (en1 IntKind.i64 x) 1 (↑i : Int) ∧ br (true && fitX [CK.int IntKind.i64] 0 (List.getD (en1 IntKind.i64 x) (Int.toNat (↑i : Int)) [])) (InL (en1 IntKind.i64 a) 1 (↑i : Int) ∧ br (true && fitX [CK.int IntKind.i64] 0 (List.getD (en1 IntKind.i64 a) (Int.toNat (↑i : Int)) [])) (br (decide (cI (List.getD (en1 IntKind.i64 x) (Int.toNat (↑i : Int)) []) 0 < cI (List.getD (en1 IntKind.i64 a) (Int.toNat (↑i : Int)) []) 0) == false) (br (dn == true) (InL (en1 IntKind.i64 x) 1 (↑i : Int) ∧ br (true && fitX [CK.int IntKind.i64] 0 (List.getD (en1 IntKind.i64 x) (Int.toNat (↑i : Int)) [])) (InL (en1 IntKind.i64 a) 1 (↑i : Int) ∧ br (true && fitX [CK.int IntKind.i64] 0 (List.getD (en1 IntKind.i64 a) (Int.toNat (↑i : Int)) [])) (br (decide (cI (List.getD (en1 IntKind.i64 x) (Int.toNat (↑i : Int)) []) 0 > cI (List.getD (en1 IntKind.i64 a) (Int.toNat (↑i : Int)) []) 0)) (R Ex.ret [PV.list (en1 IntKind.i64 a) Tail.no, PV.list (en1 IntKind.i64 b) Tail.no, PV.bool false, PV.list (en1 IntKind.i64 x) Tail.no, PV.list (en1 IntKind.i64 y) Tail.no, PV.bool up, PV.bool dn, PV.int IntKind.i64 (↑i : Int)] []) (R Ex.normal [PV.list (en1 IntKind.i64 a) Tail.no, PV.list (en1 IntKind.i64 b) Tail.no, PV.bool false, PV.list (en1 IntKind.i64 x) Tail.no, PV.list (en1 IntKind.i64 y) Tail.no, PV.bool up, PV.bool dn, PV.int IntKind.i64 (wI ((↑i : Int) + 1))] [])) False) False) (R Ex.normal [PV.list (en1 IntKind.i64 a) Tail.no, PV.list (en1 IntKind.i64 b) Tail.no, PV.bool false, PV.list (en1 IntKind.i64 x) Tail.no, PV.list (en1 IntKind.i64 y) Tail.no, PV.bool up, PV.bool dn, PV.int IntKind.i64 (wI ((↑i : Int) + 1))] [])) (R Ex.ret [PV.list (en1 IntKind.i64 a) Tail.no, PV.list (en1 IntKind.i64 b) Tail.no, PV.bool false, PV.list (en1 IntKind.i64 x) Tail.no, PV.list (en1 IntKind.i64 y) Tail.no, PV.bool up, PV.bool dn, PV.int IntKind.i64 (↑i : Int)] [])) False) False) (br (dn == true) (InL (en1 IntKind.i64 x) 1 (↑i : Int) ∧ br (true && fitX [CK.int IntKind.i64] 0 (List.getD (en1 IntKind.i64 x) (Int.toNat (↑i : Int)) [])) (InL (en1 IntKind.i64 a) 1 (↑i : Int) ∧ br (true && fitX [CK.int IntKind.i64] 0 (List.getD (en1 IntKind.i64 a) (Int.toNat (↑i : Int)) [])) (br (decide (cI (List.getD (en1 IntKind.i64 x) (Int.toNat (↑i : Int)) []) 0 > cI (List.getD (en1 IntKind.i64 a) (Int.toNat (↑i : Int)) []) 0)) (R Ex.ret [PV.list (en1 IntKind.i64 a) Tail.no, PV.list (en1 IntKind.i64 b) Tail.no, PV.bool false, PV.list (en1 IntKind.i64 x) Tail.no, PV.list (en1 IntKind.i64 y) Tail.no, PV.bool up, PV.bool dn, PV.int IntKind.i64 (↑i : Int)] []) (R Ex.normal [PV.list (en1 IntKind.i64 a) Tail.no, PV.list (en1 IntKind.i64 b) Tail.no, PV.bool false, PV.list (en1 IntKind.i64 x) Tail.no, PV.list (en1 IntKind.i64 y) Tail.no, PV.bool up, PV.bool dn, PV.int IntKind.i64 (wI ((↑i : Int) + 1))] [])) False) False) (R Ex.normal [PV.list (en1 IntKind.i64 a) Tail.no, PV.list (en1 IntKind.i64 b) Tail.no, PV.bool false, PV.list (en1 IntKind.i64 x) Tail.no, PV.list (en1 IntKind.i64 y) Tail.no, PV.bool up, PV.bool dn, PV.int IntKind.i64 (wI ((↑i : Int) + 1))] []))) (R (Ex.exit 0) [PV.list (en1 IntKind.i64 a) Tail.no, PV.list (en1 IntKind.i64 b) Tail.no, PV.bool false, PV.list (en1 IntKind.i64 x) Tail.no, PV.list (en1 IntKind.i64 y) Tail.no, PV.bool up, PV.bool dn, PV.int IntKind.i64 (↑i : Int)] [])) = wpc br Tryd.prog gl T8 [] (fun _ => 0) (subOf [1, 1, 1, 1, 1, 1, 0, 1, 0] (bodyOf Tryd.f7)) [] (envS [0, 1, 6, 7, 8, 10, 11, 12] [.list (en1 .i64 a) .no, .list (en1 .i64 b) .no, .bool false, .list (en1 .i64 x) .no, .list (en1 .i64 y) .no, .bool up, .bool dn, .int .i64 i]) [] (fun ex e H => R ex (List.map e [0, 1, 6, 7, 8, 10, 11, 12]) H) := by kernel_rfl
theorem wins1_vc (a b x y : List Int) (up dn : Bool) (i : Nat) (R : Ex → List PV → Heap → Prop) (h : br (decide ((↑i : Int) < (↑(List.length (en1 IntKind.i64 a)) : Int))) (br (up == true) (InL (en1 IntKind.i64 x) 1 (↑i : Int) ∧ br (true && fitX [CK.int IntKind.i64] 0 (List.getD (en1 IntKind.i64 x) (Int.toNat (↑i : Int)) [])) (InL (en1 IntKind.i64 a) 1 (↑i : Int) ∧ br (true && fitX [CK.int IntKind.i64] 0 (List.getD (en1 IntKind.i64 a) (Int.toNat (↑i : Int)) [])) (br (decide (cI (List.getD (en1 IntKind.i64 x) (Int.toNat (↑i : Int)) []) 0 < cI (List.getD (en1 IntKind.i64 a) (Int.toNat (↑i : Int)) []) 0) == false) (br (dn == true) (InL (en1 IntKind.i64 x) 1 (↑i : Int) ∧ br (true && fitX [CK.int IntKind.i64] 0 (List.getD (en1 IntKind.i64 x) (Int.toNat (↑i : Int)) [])) (InL (en1 IntKind.i64 a) 1 (↑i : Int) ∧ br (true && fitX [CK.int IntKind.i64] 0 (List.getD (en1 IntKind.i64 a) (Int.toNat (↑i : Int)) [])) (br (decide (cI (List.getD (en1 IntKind.i64 x) (Int.toNat (↑i : Int)) []) 0 > cI (List.getD (en1 IntKind.i64 a) (Int.toNat (↑i : Int)) []) 0)) (R Ex.ret [PV.list (en1 IntKind.i64 a) Tail.no, PV.list (en1 IntKind.i64 b) Tail.no, PV.bool false, PV.list (en1 IntKind.i64 x) Tail.no, PV.list (en1 IntKind.i64 y) Tail.no, PV.bool up, PV.bool dn, PV.int IntKind.i64 (↑i : Int)] []) (R Ex.normal [PV.list (en1 IntKind.i64 a) Tail.no, PV.list (en1 IntKind.i64 b) Tail.no, PV.bool false, PV.list (en1 IntKind.i64 x) Tail.no, PV.list (en1 IntKind.i64 y) Tail.no, PV.bool up, PV.bool dn, PV.int IntKind.i64 (wI ((↑i : Int) + 1))] [])) False) False) (R Ex.normal [PV.list (en1 IntKind.i64 a) Tail.no, PV.list (en1 IntKind.i64 b) Tail.no, PV.bool false, PV.list (en1 IntKind.i64 x) Tail.no, PV.list (en1 IntKind.i64 y) Tail.no, PV.bool up, PV.bool dn, PV.int IntKind.i64 (wI ((↑i : Int) + 1))] [])) (R Ex.ret [PV.list (en1 IntKind.i64 a) Tail.no, PV.list (en1 IntKind.i64 b) Tail.no, PV.bool false, PV.list (en1 IntKind.i64 x) Tail.no, PV.list (en1 IntKind.i64 y) Tail.no, PV.bool up, PV.bool dn, PV.int IntKind.i64 (↑i : Int)] [])) False) False) (br (dn == true) (InL (en1 IntKind.i64 x) 1 (↑i : Int) ∧ br (true && fitX [CK.int IntKind.i64] 0 (List.getD (en1 IntKind.i64 x) (Int.toNat (↑i : Int)) [])) (InL (en1 IntKind.i64 a) 1 (↑i : Int) ∧ br (true && fitX [CK.int IntKind.i64] 0 (List.getD (en1 IntKind.i64 a) (Int.toNat (↑i : Int)) [])) (br (decide (cI (List.getD (en1 IntKind.i64 x) (Int.toNat (↑i : Int)) []) 0 > cI (List.getD (en1 IntKind.i64 a) (Int.toNat (↑i : Int)) []) 0)) (R Ex.ret [PV.list (en1 IntKind.i64 a) Tail.no, PV.list (en1 IntKind.i64 b) Tail.no, PV.bool false, PV.list (en1 IntKind.i64 x) Tail.no, PV.list (en1 IntKind.i64 y) Tail.no, PV.bool up, PV.bool dn, PV.int IntKind.i64 (↑i : Int)] []) (R Ex.normal [PV.list (en1 IntKind.i64 a) Tail.no, PV.list (en1 IntKind.i64 b) Tail.no, PV.bool false, PV.list (en1 IntKind.i64 x) Tail.no, PV.list (en1 IntKind.i64 y) Tail.no, PV.bool up, PV.bool dn, PV.int IntKind.i64 (wI ((↑i : Int) + 1))] [])) False) False) (R Ex.normal [PV.list (en1 IntKind.i64 a) Tail.no, PV.list (en1 IntKind.i64 b) Tail.no, PV.bool false, PV.list (en1 IntKind.i64 x) Tail.no, PV.list (en1 IntKind.i64 y) Tail.no, PV.bool up, PV.bool dn, PV.int IntKind.i64 (wI ((↑i : Int) + 1))] []))) (R (Ex.exit 0) [PV.list (en1 IntKind.i64 a) Tail.no, PV.list (en1 IntKind.i64 b) Tail.no, PV.bool false, PV.list (en1 IntKind.i64 x) Tail.no, PV.list (en1 IntKind.i64 y) Tail.no, PV.bool up, PV.bool dn, PV.int IntKind.i64 (↑i : Int)] [])) : Holds (wpc br Tryd.prog gl T8 [] (fun _ => 0) (subOf [1, 1, 1, 1, 1, 1, 0, 1, 0] (bodyOf Tryd.f7)) [] (envS [0, 1, 6, 7, 8, 10, 11, 12] [.list (en1 .i64 a) .no, .list (en1 .i64 b) .no, .bool false, .list (en1 .i64 x) .no, .list (en1 .i64 y) .no, .bool up, .bool dn, .int .i64 i]) [] (fun ex e H => R ex (List.map e [0, 1, 6, 7, 8, 10, 11, 12]) H)) := holds_of_eq (wins1_red a b x y up dn i R) h
theorem wins2_red (b y : List Int) (up dn : Bool) (i : Nat) (R : Ex → List PV → Heap → Prop) : (br (decide ((↑i : Int) < (↑(List.length (en1 IntKind.i64 b)) : Int))) (br (up == true) (InL (en1 IntKind.i64 y) 1 (↑i : Int) ∧ br (true && fitX [CK.int IntKind.i64] 0 (List.getD (en1 IntKind.i64 y) (Int.toNat (↑i : Int)) [])) (InL (en1 IntKind.i64 b) 1 (↑i : Int) ∧ br (true && fitX [CK.int IntKind.i64] 0 (List.getD (en1 IntKind.i64 b) (Int.toNat (↑i : Int)) [])) (br (decide (cI (List.getD (en1 IntKind.i64 y) (Int.toNat (↑i : Int)) []) 0 > cI (List.getD (en1 IntKind.i64 b) (Int.toNat (↑i : Int)) []) 0) == false) (br (dn == true) (InL (en1 IntKind.i64 y) 1 (↑i : Int) ∧ br (true && fitX [CK.int IntKind.i64] 0 (List.getD (en1 IntKind.i64 y) (Int.toNat (↑i : Int)) [])) (InL (en1 IntKind.i64 b) 1 (↑i : Int) ∧ br (true && fitX [CK.int IntKind.i64] 0 (List.getD (en1 IntKind.i64 b) (Int.toNat (↑i : Int)) [])) (br (decide (cI (List.getD (en1 IntKind.i64 y) (Int.toNat (↑i : Int)) []) 0 < cI (List.getD (en1 IntKind.i64 b) (Int.toNat (↑i : Int)) []) 0)) (R Ex.ret [PV.list (en1 IntKind.i64 b) Tail.no, PV.bool false, PV.list (en1 IntKind.i64 y) Tail.no, PV.bool up, PV.bool dn, PV.int IntKind.i64 (↑i : Int)] []) (R Ex.normal [PV.list (en1 IntKind.i64 b) Tail.no, PV.bool false, PV.list (en1 IntKind.i64 y) Tail.no, PV.bool up, PV.bool dn, PV.int IntKind.i64 (wI ((↑i : Int) + 1))] [])) False) False) (R Ex.normal [PV.list (en1 IntKind.i64 b) Tail.no, PV.bool false, PV.list (en1 IntKind.i64 y) Tail.no, PV.bool up, PV.bool dn, PV.int IntKind.i64 (wI ((↑i : Int) + 1))] [])) (R Ex.ret [PV.list (en1 IntKind.i64 b) Tail.no, PV.bool false, PV.list (en1 IntKind.i64 y) Tail.no, PV.bool up, PV.bool dn, PV.int IntKind.i64 (↑i : Int)] [])) False) False) (br (dn == true) (InL (en1 IntKind.i64 y) 1 (↑i : Int) ∧ br (true && fitX [CK.int IntKind.i64] 0 (List.getD (en1 IntKind.i64 y) (Int.toNat (↑i : Int)) [])) (InL (en1 IntKind.i64 b) 1 (↑i : Int) ∧ br (true && fitX [CK.int IntKind.i64] 0 (List.getD (en1 IntKind.i64 b) (Int.toNat (↑i : Int)) [])) (br (decide (cI (List.getD (en1 IntKind.i64 y) (Int.toNat (↑i : Int)) []) 0 < cI (List.getD (en1 IntKind.i64 b) (Int.toNat (↑i : Int)) []) 0)) (R Ex.ret [PV.list (en1 IntKind.i64 b) Tail.no, PV.bool false, PV.list (en1 IntKind.i64 y) Tail.no, PV.bool up, PV.bool dn, PV.int IntKind.i64 (↑i : Int)] []) (R Ex.normal [PV.list (en1 IntKind.i64 b) Tail.no, PV.bool false, PV.list (en1 IntKind.i64 y) Tail.no, PV.bool up, PV.bool dn, PV.int IntKind.i64 (wI ((↑i : Int) + 1))] [])) False) False) (R Ex.normal [PV.list (en1 IntKind.i64 b) Tail.no, PV.bool false, PV.list (en1 IntKind.i64 y) Tail.no, PV.bool up, PV.bool dn, PV.int IntKind.i64 (wI ((↑i : Int) + 1))] []))) (R (Ex.exit 2) [PV.list (en1 IntKind.i64 b) Tail.no, PV.bool false, PV.list (en1 IntKind.i64 y) Tail.no, PV.bool up, PV.bool dn, PV.int IntKind.i64 (↑i : Int)] [])) = wpc br Tryd.prog gl T8 [] (fun _ => 0) (subOf [1, 1, 1, 1, 1, 1, 1, 0, 1, 0] (bodyOf Tryd.f7)) [] (envS [1, 6, 8, 10, 11, 13] [.list (en1 .i64 b) .no, .bool false, .list (en1 .i64 y) .no, .bool up, .bool dn, .int .i64 i]) [] (fun ex e H => R ex (List.map e [1, 6, 8, 10, 11, 13]) H) := by kernel_rfl
theorem wins2_vc (b y : List Int) (up dn : Bool) (i : Nat) (R : Ex → List PV → Heap → Prop) (h : br (decide ((↑i : Int) < (↑(List.length (en1 IntKind.i64 b)) : Int))) (br (up == true) (InL (en1 IntKind.i64 y) 1 (↑i : Int) ∧ br (true && fitX [CK.int IntKind.i64] 0 (List.getD (en1 IntKind.i64 y) (Int.toNat (↑i : Int)) [])) (InL (en1 IntKind.i64 b) 1 (↑i : Int) ∧ br (true && fitX [CK.int IntKind.i64] 0 (List.getD (en1 IntKind.i64 b) (Int.toNat (↑i : Int)) [])) (br (decide (cI (List.getD (en1 IntKind.i64 y) (Int.toNat (↑i : Int)) []) 0 > cI (List.getD (en1 IntKind.i64 b) (Int.toNat (↑i : Int)) []) 0) == false) (br (dn == true) (InL (en1 IntKind.i64 y) 1 (↑i : Int) ∧ br (true && fitX [CK.int IntKind.i64] 0 (List.getD (en1 IntKind.i64 y) (Int.toNat (↑i : Int)) [])) (InL (en1 IntKind.i64 b) 1 (↑i : Int) ∧ br (true && fitX [CK.int IntKind.i64] 0 (List.getD (en1 IntKind.i64 b) (Int.toNat (↑i : Int)) [])) (br (decide (cI (List.getD (en1 IntKind.i64 y) (Int.toNat (↑i : Int)) []) 0 < cI (List.getD (en1 IntKind.i64 b) (Int.toNat (↑i : Int)) []) 0)) (R Ex.ret [PV.list (en1 IntKind.i64 b) Tail.no, PV.bool false, PV.list (en1 IntKind.i64 y) Tail.no, PV.bool up, PV.bool dn, PV.int IntKind.i64 (↑i : Int)] []) (R Ex.normal [PV.list (en1 IntKind.i64 b) Tail.no, PV.bool false, PV.list (en1 IntKind.i64 y) Tail.no, PV.bool up, PV.bool dn, PV.int IntKind.i64 (wI ((↑i : Int) + 1))] [])) False) False) (R Ex.normal [PV.list (en1 IntKind.i64 b) Tail.no, PV.bool false, PV.list (en1 IntKind.i64 y) Tail.no, PV.bool up, PV.bool dn, PV.int IntKind.i64 (wI ((↑i : Int) + 1))] [])) (R Ex.ret [PV.list (en1 IntKind.i64 b) Tail.no, PV.bool false, PV.list (en1 IntKind.i64 y) Tail.no, PV.bool up, PV.bool dn, PV.int IntKind.i64 (↑i : Int)] [])) False) False) (br (dn == true) (InL (en1 IntKind.i64 y) 1 (↑i : Int) ∧ br (true && fitX [CK.int IntKind.i64] 0 (List.getD (en1 IntKind.i64 y) (Int.toNat (↑i : Int)) [])) (InL (en1 IntKind.i64 b) 1 (↑i : Int) ∧ br (true && fitX [CK.int IntKind.i64] 0 (List.getD (en1 IntKind.i64 b) (Int.toNat (↑i : Int)) [])) (br (decide (cI (List.getD (en1 IntKind.i64 y) (Int.toNat (↑i : Int)) []) 0 < cI (List.getD (en1 IntKind.i64 b) (Int.toNat (↑i : Int)) []) 0)) (R Ex.ret [PV.list (en1 IntKind.i64 b) Tail.no, PV.bool false, PV.list (en1 IntKind.i64 y) Tail.no, PV.bool up, PV.bool dn, PV.int IntKind.i64 (↑i : Int)] []) (R Ex.normal [PV.list (en1 IntKind.i64 b) Tail.no, PV.bool false, PV.list (en1 IntKind.i64 y) Tail.no, PV.bool up, PV.bool dn, PV.int IntKind.i64 (wI ((↑i : Int) + 1))] [])) False) False) (R Ex.normal [PV.list (en1 IntKind.i64 b) Tail.no, PV.bool false, PV.list (en1 IntKind.i64 y) Tail.no, PV.bool up, PV.bool dn, PV.int IntKind.i64 (wI ((↑i : Int) + 1))] []))) (R (Ex.exit 2) [PV.list (en1 IntKind.i64 b) Tail.no, PV.bool false, PV.list (en1 IntKind.i64 y) Tail.no, PV.bool up, PV.bool dn, PV.int IntKind.i64 (↑i : Int)] [])) : Holds (wpc br Tryd.prog gl T8 [] (fun _ => 0) (subOf [1, 1, 1, 1, 1, 1, 1, 0, 1, 0] (bodyOf Tryd.f7)) [] (envS [1, 6, 8, 10, 11, 13] [.list (en1 .i64 b) .no, .bool false, .list (en1 .i64 y) .no, .bool up, .bool dn, .int .i64 i]) [] (fun ex e H => R ex (List.map e [1, 6, 8, 10, 11, 13]) H)) := holds_of_eq (wins2_red b y up dn i R) h
theorem more1_red (X : Heap) (p n s : Int) (k : Nat) (R : Ex → List PV → Heap → Prop) : (br (decide ((↑k : Int) < n)) (P41 (wI p) ∧ P41 (wI p) ∧ br (decide (wI (shr (wI p) n (↑k : Int) - shr (wI p) n 0) > 1) == false) (br (decide (wI (shr (wI p) n 0 - shr (wI p) n (↑k : Int)) > 1)) (R Ex.ret [PV.int IntKind.i32 p, PV.bool false, PV.int IntKind.i64 n, PV.int IntKind.i64 s, PV.int IntKind.i64 (↑k : Int)] X) (R Ex.normal [PV.int IntKind.i32 p, PV.bool false, PV.int IntKind.i64 n, PV.int IntKind.i64 (wI (s + shr (wI p) n (↑k : Int))), PV.int IntKind.i64 (wI ((↑k : Int) + 1))] X)) (R Ex.ret [PV.int IntKind.i32 p, PV.bool false, PV.int IntKind.i64 n, PV.int IntKind.i64 s, PV.int IntKind.i64 (↑k : Int)] X)) (R (Ex.exit 0) [PV.int IntKind.i32 p, PV.bool false, PV.int IntKind.i64 n, PV.int IntKind.i64 s, PV.int IntKind.i64 (↑k : Int)] X)) = wpc br Tryd.prog gl T8 [] (fun _ => 0) (subOf [1, 1, 1, 1, 1, 1, 0, 1, 0] (bodyOf Tryd.f9)) [] (envS [2, 6, 10, 13, 14] [.int .i32 p, .bool false, .int .i64 n, .int .i64 s, .int .i64 k]) X (fun ex e H => R ex (List.map e [2, 6, 10, 13, 14]) H) := by kernel_rfl
theorem more1_vc (X : Heap) (p n s : Int) (k : Nat) (R : Ex → List PV → Heap → Prop) (h : br (decide ((↑k : Int) < n)) (P41 (wI p) ∧ P41 (wI p) ∧ br (decide (wI (shr (wI p) n (↑k : Int) - shr (wI p) n 0) > 1) == false) (br (decide (wI (shr (wI p) n 0 - shr (wI p) n (↑k : Int)) > 1)) (R Ex.ret [PV.int IntKind.i32 p, PV.bool false, PV.int IntKind.i64 n, PV.int IntKind.i64 s, PV.int IntKind.i64 (↑k : Int)] X) (R Ex.normal [PV.int IntKind.i32 p, PV.bool false, PV.int IntKind.i64 n, PV.int IntKind.i64 (wI (s + shr (wI p) n (↑k : Int))), PV.int IntKind.i64 (wI ((↑k : Int) + 1))] X)) (R Ex.ret [PV.int IntKind.i32 p, PV.bool false, PV.int IntKind.i64 n, PV.int IntKind.i64 s, PV.int IntKind.i64 (↑k : Int)] X)) (R (Ex.exit 0) [PV.int IntKind.i32 p, PV.bool false, PV.int IntKind.i64 n, PV.int IntKind.i64 s, PV.int IntKind.i64 (↑k : Int)] X)) : Holds (wpc br Tryd.prog gl T8 [] (fun _ => 0) (subOf [1, 1, 1, 1, 1, 1, 0, 1, 0] (bodyOf Tryd.f9)) [] (envS [2, 6, 10, 13, 14] [.int .i32 p, .bool false, .int .i64 n, .int .i64 s, .int .i64 k]) X (fun ex e H => R ex (List.map e [2, 6, 10, 13, 14]) H)) := holds_of_eq (more1_red X p n s k R) h
def wins1_l : LSp := fun e H Q => ∃ (a b x y : List Int) (up dn : Bool), Ten a ∧ x.length = a.length ∧ (∀ i, i < a.length → (up = true → a.getD i 0 ≤ x.getD i 0) ∧ (dn = true → x.getD i 0 ≤ a.getD i 0)) ∧ SlIs (List.map e [0, 1, 6, 7, 8, 10, 11, 12]) [.list (en1 .i64 a) .no, .list (en1 .i64 b) .no, .bool false, .list (en1 .i64 x) .no, .list (en1 .i64 y) .no, .bool up, .bool dn, .int .i64 0] ∧ HpIs H [] ∧
  Q (.exit 0) (envS [0, 1, 6, 7, 8, 10, 11, 12] [.list (en1 .i64 a) .no, .list (en1 .i64 b) .no, .bool false, .list (en1 .i64 x) .no, .list (en1 .i64 y) .no, .bool up, .bool dn, .int .i64 a.length]) []
theorem wins1_l_ok : ∀ e H Q, wins1_l e H Q → AW Tryd.prog gl Tryd.f7.ntmps (.loop (subOf [1, 1, 1, 1, 1, 1, 0, 1, 0] (bodyOf Tryd.f7))) Q e H := by
  rintro e H Q ⟨a, b, x, y, up, dn, hl, hlen, hud, he, hH, hQ⟩
  have hten : a.length ≤ 1000 := hl
  refine aw_loop4 (hn := fun _ => 0) gl_low T8_ok (.nil _ _ _ _ _) (σ := Nat) [0, 1, 6, 7, 8, 10, 11, 12] (fun i => i ≤ a.length)
    (fun i => [.list (en1 .i64 a) .no, .list (en1 .i64 b) .no, .bool false, .list (en1 .i64 x) .no, .list (en1 .i64 y) .no, .bool up, .bool dn, .int .i64 i])
    (fun _ => []) (fun i => a.length - i) 0 (Nat.zero_le _) he hH ?_
  intro i h1
  refine wins1_vc a b x y up dn i _ ?_
  by_cases c : i < a.length
  · have cx : i < x.length := by omega
    obtain ⟨k1, k2⟩ := hud i c
    have fin : loopR Q [0, 1, 6, 7, 8, 10, 11, 12] (fun i => i ≤ a.length)
      (fun i => [.list (en1 .i64 a) .no, .list (en1 .i64 b) .no, .bool false, .list (en1 .i64 x) .no, .list (en1 .i64 y) .no, .bool up, .bool dn, .int .i64 i])
      (fun _ => []) (fun i => a.length - i) i .normal [.list (en1 .i64 a) .no, .list (en1 .i64 b) .no, .bool false, .list (en1 .i64 x) .no, .list (en1 .i64 y) .no, .bool up, .bool dn, .int .i64 (wI (i + 1))] [] :=
      ⟨i + 1, (show a.length - (i + 1) < a.length - i by omega), (by omega), by rw [wI_succ c (by omega)], [], rfl, Nat.le_refl _, .inl rfl⟩
    simp only [br_if, en1_length, toNat_nat, cI_get, inL_en1, fitg_en1, c, cx, decide_natlt, decide_true, Bool.and_self, if_true, true_and]
    cases up <;> cases dn <;> simp only [beq_self_eq_true, if_true, show (false == true) = false from rfl, Bool.false_eq_true, if_false]
    · exact fin
    · have := k2 rfl
      rw [if_neg (by rw [decide_eq_true_eq]; omega)]; exact fin
    · have := k1 rfl
      rw [if_pos (by rw [decide_eq_false (by omega)]; rfl)]; exact fin
    · have := k2 rfl
      have := k1 rfl
      rw [if_pos (by rw [decide_eq_false (by omega)]; rfl), if_neg (by rw [decide_eq_true_eq]; omega)]; exact fin
  · have ei : i = a.length := by omega
    simp only [br_if, en1_length, decide_natlt, c, decide_false, Bool.false_eq_true, if_false]
    subst ei
    exact hQ
def wins2_l : LSp := fun e H Q => ∃ (a x : List Int) (up dn : Bool), Ten a ∧ x.length = a.length ∧ (∀ i, i < a.length → (up = true → x.getD i 0 ≤ a.getD i 0) ∧ (dn = true → a.getD i 0 ≤ x.getD i 0)) ∧ SlIs (List.map e [1, 6, 8, 10, 11, 13]) [.list (en1 .i64 a) .no, .bool false, .list (en1 .i64 x) .no, .bool up, .bool dn, .int .i64 0] ∧ HpIs H [] ∧
  Q (.exit 2) (envS [1, 6, 8, 10, 11, 13] [.list (en1 .i64 a) .no, .bool false, .list (en1 .i64 x) .no, .bool up, .bool dn, .int .i64 a.length]) []
theorem wins2_l_ok : ∀ e H Q, wins2_l e H Q → AW Tryd.prog gl Tryd.f7.ntmps (.loop (subOf [1, 1, 1, 1, 1, 1, 1, 0, 1, 0] (bodyOf Tryd.f7))) Q e H := by
  rintro e H Q ⟨a, x, up, dn, hl, hlen, hud, he, hH, hQ⟩
  have hten : a.length ≤ 1000 := hl
  refine aw_loop4 (hn := fun _ => 0) gl_low T8_ok (.nil _ _ _ _ _) (σ := Nat) [1, 6, 8, 10, 11, 13] (fun i => i ≤ a.length)
    (fun i => [.list (en1 .i64 a) .no, .bool false, .list (en1 .i64 x) .no, .bool up, .bool dn, .int .i64 i])
    (fun _ => []) (fun i => a.length - i) 0 (Nat.zero_le _) he hH ?_
  intro i h1
  refine wins2_vc a x up dn i _ ?_
  by_cases c : i < a.length
  · have cx : i < x.length := by omega
    obtain ⟨k1, k2⟩ := hud i c
    have fin : loopR Q [1, 6, 8, 10, 11, 13] (fun i => i ≤ a.length)
      (fun i => [.list (en1 .i64 a) .no, .bool false, .list (en1 .i64 x) .no, .bool up, .bool dn, .int .i64 i])
      (fun _ => []) (fun i => a.length - i) i .normal [.list (en1 .i64 a) .no, .bool false, .list (en1 .i64 x) .no, .bool up, .bool dn, .int .i64 (wI (i + 1))] [] :=
      ⟨i + 1, (show a.length - (i + 1) < a.length - i by omega), (by omega), by rw [wI_succ c (by omega)], [], rfl, Nat.le_refl _, .inl rfl⟩
    simp only [br_if, en1_length, toNat_nat, cI_get, inL_en1, fitg_en1, c, cx, decide_natlt, decide_true, Bool.and_self, if_true, true_and]
    cases up <;> cases dn <;> simp only [beq_self_eq_true, if_true, show (false == true) = false from rfl, Bool.false_eq_true, if_false]
    · exact fin
    · have := k2 rfl
      rw [if_neg (by rw [decide_eq_true_eq]; omega)]; exact fin
    · have := k1 rfl
      rw [if_pos (by rw [decide_eq_false (by omega)]; rfl)]; exact fin
    · have := k2 rfl
      have := k1 rfl
      rw [if_pos (by rw [decide_eq_false (by omega)]; rfl), if_neg (by rw [decide_eq_true_eq]; omega)]; exact fin
  · have ei : i = a.length := by omega
    simp only [br_if, en1_length, decide_natlt, c, decide_false, Bool.false_eq_true, if_false]
    subst ei
    exact hQ
-- what is shared comes to the whole
def ssum (p m : Int) : Nat → Int
  | 0 => 0
  | k + 1 => ssum p m k + shr p m k
theorem ssum_pos {p : Int} {m : Nat} (hp : 0 ≤ p) (hm : 0 < m) : ∀ k, k ≤ m → ssum p m k = k * (p / m) + mnI k (p - p / m * m)
  | 0, _ => by
    have := (div_facts hp (show (1 : Int) ≤ m by omega)).2.2.2.1
    simp [ssum, mnI]; omega
  | k + 1, h => by
    have h1 : p - p / m * m < m := by
      have := Int.lt_ediv_add_one_mul_self p (show (0 : Int) < m by omega)
      rw [Int.add_mul] at this; omega
    have ih := ssum_pos hp hm k (by omega)
    have e : shr p m k = if (k : Int) < p - p / m * m then p / m + 1 else p / m := by unfold shr; rw [if_neg (by omega), if_neg (by omega)]; rfl
    simp only [ssum]
    rw [ih, e]
    have e2 : ((k + 1 : Nat) : Int) * (p / m) = k * (p / m) + p / m := by rw [Int.natCast_add, Int.add_mul]; simp
    rw [e2]
    unfold mnI
    (repeat' split) <;> omega
theorem ssum_all {p : Int} {m : Nat} (hm : 0 < m) : ssum p m m = p := by
  have key : ∀ q : Int, 0 ≤ q → ssum q m m = q := fun q hq => by
    have h1 : q - q / m * m < m := by
      have := Int.lt_ediv_add_one_mul_self q (show (0 : Int) < m by omega)
      rw [Int.add_mul] at this; omega
    rw [ssum_pos hq hm m (Nat.le_refl _)]
    have : mnI (m : Int) (q - q / m * m) = q - q / m * m := by unfold mnI; split <;> omega
    rw [this, Int.mul_comm]; omega
  by_cases hp : 0 ≤ p
  · exact key p hp
  · have h1 := key (-p) (by omega)
    have h2 : ∀ k, ssum (-p) m k = -(ssum p m k) := by
      intro k
      induction k with
      | zero => rfl
      | succ k ih => simp only [ssum, ih, shr_neg]; omega
    rw [h2] at h1; omega
theorem ssum_range {p m : Int} (hp : P41 p) : ∀ k : Nat, -(2199023255553 * (k : Int)) ≤ ssum p m k ∧ ssum p m k ≤ 2199023255553 * (k : Int)
  | 0 => by simp [ssum]
  | k + 1 => by
    have h1 := ssum_range (m := m) hp k
    have h2 := shr_range (m := m) (k := k) hp
    simp only [ssum]; omega
theorem shr_near {p m : Int} (k : Nat) (h : (k : Int) < m) : -1 ≤ shr p m k - shr p m 0 ∧ shr p m k - shr p m 0 ≤ 1 := by
  have sp : ∀ q : Int, -1 ≤ shp q m k - shp q m 0 ∧ shp q m k - shp q m 0 ≤ 1 := fun q => by
    unfold shp; (repeat' split) <;> omega
  have e : ∀ j : Int, 0 ≤ j → j < m → shr p m j = if p < 0 then -(shp (-p) m j) else shp p m j := fun j h1 h2 => by
    unfold shr; rw [if_neg (by omega)]
  rw [e k (by omega) h, e 0 (by omega) (by omega)]
  have h1 := sp p
  have h2 := sp (-p)
  by_cases hp : p < 0
  · rw [if_pos hp, if_pos hp]; omega
  · rw [if_neg hp, if_neg hp]; omega
def more1_l : LSp := fun e H Q => ∃ (X : Heap) (p : Int) (n : Nat), (-2147483648 ≤ p ∧ p ≤ 2147483647) ∧ n ≤ 9 ∧ SlIs (List.map e [2, 6, 10, 13, 14]) [.int .i32 p, .bool false, .int .i64 n, .int .i64 0, .int .i64 0] ∧ HpIs H X ∧
  Q (.exit 0) (envS [2, 6, 10, 13, 14] [.int .i32 p, .bool false, .int .i64 n, .int .i64 (ssum p n n), .int .i64 n]) X
theorem more1_l_ok : ∀ e H Q, more1_l e H Q → AW Tryd.prog gl Tryd.f9.ntmps (.loop (subOf [1, 1, 1, 1, 1, 1, 0, 1, 0] (bodyOf Tryd.f9))) Q e H := by
  rintro e H Q ⟨X, p, n, hp, hn, he, hH, hQ⟩
  have hp41 : P41 p := ⟨by omega, by omega⟩
  refine aw_loop4 (hn := fun _ => 0) gl_low T8_ok (.nil _ _ _ _ _) (σ := Nat × Int) [2, 6, 10, 13, 14] (fun s => s.1 ≤ n ∧ s.2 = ssum p n s.1)
    (fun s => [.int .i32 p, .bool false, .int .i64 n, .int .i64 s.2, .int .i64 s.1]) (fun _ => X) (fun s => n - s.1) (0, 0) ⟨Nat.zero_le _, rfl⟩ he hH ?_
  rintro ⟨k, s⟩ ⟨h1, h2⟩
  simp only at h1 h2
  refine more1_vc X p n s k _ ?_
  have ew : wI p = p := w_small (by omega) (by omega)
  have hnr := shr_near (p := p) (m := n) k
  have r1 := shr_range (m := n) (k := k) hp41
  have r0 := shr_range (m := n) (k := 0) hp41
  have rs := ssum_range (m := n) hp41 k
  simp only [br_if, ew, hp41, true_and, decide_natlt]
  by_cases c : k < n
  · have hnr := hnr (by omega)
    rw [if_pos (by simpa using c), w_small (n := shr p n k - shr p n 0) (by omega) (by omega), w_small (n := shr p n 0 - shr p n k) (by omega) (by omega), if_pos (by simp; omega), if_neg (by simp; omega)]
    refine ⟨(k + 1, ssum p n (k + 1)), (by simp only; omega), ⟨by simp only; omega, rfl⟩, ?_, [], by simp, Nat.le_refl _, .inl rfl⟩
    rw [wI_succ c (by omega), h2, w_small (by omega) (by omega)]; rfl
  · have ek : k = n := by omega
    rw [if_neg (by simpa using c)]
    subst h2; subst ek
    exact hQ
theorem zero_red (a b : List Int) (r : Int) (K : PV → Prop) : (br (decide ((↑(List.length (en1 IntKind.i64 a)) : Int) > 10) == false) (br (decide ((↑(List.length (en1 IntKind.i64 b)) : Int) > 10) == false) (∃ (a_1 : List Int), ∃ (b_1 : List Int), en1 IntKind.i64 a = en1 IntKind.i64 a_1 ∧ en1 IntKind.i64 b = en1 IntKind.i64 b_1 ∧ LenOk a_1 ∧ LenOk b_1 ∧ NT Tail.no ∧ NT Tail.no ∧ br (!Prod.snd (Prod.snd (upd a_1 b_1 r)) == 0) (K (PV.bool true)) (∃ (a_2 : List Int), ∃ (b_2 : List Int), en1 IntKind.i64 a = en1 IntKind.i64 a_2 ∧ en1 IntKind.i64 b = en1 IntKind.i64 b_2 ∧ LenOk a_2 ∧ LenOk b_2 ∧ NT Tail.no ∧ NT Tail.no ∧ br ((Prod.snd (Prod.snd (upd a_2 b_2 r)) != 0) == false) (br (((↑(List.length (en1 IntKind.i64 (Prod.fst (upd a_2 b_2 r)))) : Int) != (↑(List.length (en1 IntKind.i64 a)) : Int)) == false) (br ((↑(List.length (en1 IntKind.i64 (Prod.fst (Prod.snd (upd a_2 b_2 r))))) : Int) != (↑(List.length (en1 IntKind.i64 b)) : Int)) (K (PV.bool false)) (∃ (a_3 : List Int), ∃ (b_3 : List Int), ∃ (x : List Int), ∃ (y : List Int), Ten a_3 ∧ List.length x = List.length a_3 ∧ Rt a_3 ∧ Rt x ∧ SlIs [PV.list (en1 IntKind.i64 a) Tail.no, PV.list (en1 IntKind.i64 b) Tail.no, PV.bool false, PV.list (en1 IntKind.i64 (Prod.fst (upd a_2 b_2 r))) Tail.no, PV.list (en1 IntKind.i64 (Prod.fst (Prod.snd (upd a_2 b_2 r)))) Tail.no, PV.int IntKind.i64 0, PV.bool false, PV.int IntKind.i64 0] [PV.list (en1 IntKind.i64 a_3) Tail.no, PV.list (en1 IntKind.i64 b_3) Tail.no, PV.bool false, PV.list (en1 IntKind.i64 x) Tail.no, PV.list (en1 IntKind.i64 y) Tail.no, PV.int IntKind.i64 0, PV.bool false, PV.int IntKind.i64 0] ∧ HpIs [] [] ∧ ∃ (b : List Int), ∃ (y_1 : List Int), ∃ (s0 : Int), ∃ (d0 : Bool), Ten b ∧ List.length y_1 = List.length b ∧ Rt b ∧ Rt y_1 ∧ (-10000000 ≤ s0 ∧ s0 ≤ 10000000) ∧ SlIs [PV.list (en1 IntKind.i64 b_3) Tail.no, PV.bool false, PV.list (en1 IntKind.i64 y) Tail.no, PV.int IntKind.i64 (dsum x a_3), PV.bool (anyEnd x), PV.int IntKind.i64 0] [PV.list (en1 IntKind.i64 b) Tail.no, PV.bool false, PV.list (en1 IntKind.i64 y_1) Tail.no, PV.int IntKind.i64 s0, PV.bool d0, PV.int IntKind.i64 0] ∧ HpIs [] [] ∧ br ((d0 || anyEnd y_1) == false) (br ((s0 + dsum y_1 b == 0) == true) (K (PV.bool true)) (K (PV.bool false))) (K (PV.bool true)))) (K (PV.bool false))) (K (PV.bool false)))) (K (PV.bool true))) (K (PV.bool true))) = wpc br Tryd.prog gl T8 [([1, 1, 1, 1, 1, 0, 1, 0], zero1_l), ([1, 1, 1, 1, 1, 1, 0, 1, 0], zero2_l)] (fun _ => 0) (bodyOf Tryd.f6) [] (env0 [.list (en1 .i64 a) .no, .list (en1 .i64 b) .no, .int .i64 r]) [] (resQ Tryd.prog Tryd.f6.results.toList (fun x _ => K x)) := by kernel_rfl
theorem zero_vc (a b : List Int) (r : Int) (K : PV → Prop) (h : br (decide ((↑(List.length (en1 IntKind.i64 a)) : Int) > 10) == false) (br (decide ((↑(List.length (en1 IntKind.i64 b)) : Int) > 10) == false) (∃ (a_1 : List Int), ∃ (b_1 : List Int), en1 IntKind.i64 a = en1 IntKind.i64 a_1 ∧ en1 IntKind.i64 b = en1 IntKind.i64 b_1 ∧ LenOk a_1 ∧ LenOk b_1 ∧ NT Tail.no ∧ NT Tail.no ∧ br (!Prod.snd (Prod.snd (upd a_1 b_1 r)) == 0) (K (PV.bool true)) (∃ (a_2 : List Int), ∃ (b_2 : List Int), en1 IntKind.i64 a = en1 IntKind.i64 a_2 ∧ en1 IntKind.i64 b = en1 IntKind.i64 b_2 ∧ LenOk a_2 ∧ LenOk b_2 ∧ NT Tail.no ∧ NT Tail.no ∧ br ((Prod.snd (Prod.snd (upd a_2 b_2 r)) != 0) == false) (br (((↑(List.length (en1 IntKind.i64 (Prod.fst (upd a_2 b_2 r)))) : Int) != (↑(List.length (en1 IntKind.i64 a)) : Int)) == false) (br ((↑(List.length (en1 IntKind.i64 (Prod.fst (Prod.snd (upd a_2 b_2 r))))) : Int) != (↑(List.length (en1 IntKind.i64 b)) : Int)) (K (PV.bool false)) (∃ (a_3 : List Int), ∃ (b_3 : List Int), ∃ (x : List Int), ∃ (y : List Int), Ten a_3 ∧ List.length x = List.length a_3 ∧ Rt a_3 ∧ Rt x ∧ SlIs [PV.list (en1 IntKind.i64 a) Tail.no, PV.list (en1 IntKind.i64 b) Tail.no, PV.bool false, PV.list (en1 IntKind.i64 (Prod.fst (upd a_2 b_2 r))) Tail.no, PV.list (en1 IntKind.i64 (Prod.fst (Prod.snd (upd a_2 b_2 r)))) Tail.no, PV.int IntKind.i64 0, PV.bool false, PV.int IntKind.i64 0] [PV.list (en1 IntKind.i64 a_3) Tail.no, PV.list (en1 IntKind.i64 b_3) Tail.no, PV.bool false, PV.list (en1 IntKind.i64 x) Tail.no, PV.list (en1 IntKind.i64 y) Tail.no, PV.int IntKind.i64 0, PV.bool false, PV.int IntKind.i64 0] ∧ HpIs [] [] ∧ ∃ (b : List Int), ∃ (y_1 : List Int), ∃ (s0 : Int), ∃ (d0 : Bool), Ten b ∧ List.length y_1 = List.length b ∧ Rt b ∧ Rt y_1 ∧ (-10000000 ≤ s0 ∧ s0 ≤ 10000000) ∧ SlIs [PV.list (en1 IntKind.i64 b_3) Tail.no, PV.bool false, PV.list (en1 IntKind.i64 y) Tail.no, PV.int IntKind.i64 (dsum x a_3), PV.bool (anyEnd x), PV.int IntKind.i64 0] [PV.list (en1 IntKind.i64 b) Tail.no, PV.bool false, PV.list (en1 IntKind.i64 y_1) Tail.no, PV.int IntKind.i64 s0, PV.bool d0, PV.int IntKind.i64 0] ∧ HpIs [] [] ∧ br ((d0 || anyEnd y_1) == false) (br ((s0 + dsum y_1 b == 0) == true) (K (PV.bool true)) (K (PV.bool false))) (K (PV.bool true)))) (K (PV.bool false))) (K (PV.bool false)))) (K (PV.bool true))) (K (PV.bool true))) : ACalls Tryd.prog gl 6 [.list (en1 .i64 a) .no, .list (en1 .i64 b) .no, .int .i64 r] [] (fun x _ => K x) :=
  acalls_of_wpc2 (T := T8) (L := [([1, 1, 1, 1, 1, 0, 1, 0], zero1_l), ([1, 1, 1, 1, 1, 1, 0, 1, 0], zero2_l)]) (fun _ => 0) Tryd.func6 (by kernel_rfl) (by kernel_rfl) (by kernel_rfl) (T8_ok) (.cons (sub_of (by kernel_rfl)) zero1_l_ok (.cons (sub_of (by kernel_rfl)) zero2_l_ok (.nil _ _ _ _ _))) (holds_of_eq (zero_red a b r K) h)
theorem wins_red (a b : List Int) (r : Int) (K : PV → Prop) : (br (decide ((↑(List.length (en1 IntKind.i64 a)) : Int) > 10) == false) (br (decide ((↑(List.length (en1 IntKind.i64 b)) : Int) > 10) == false) (∃ (a_1 : List Int), ∃ (b_1 : List Int), en1 IntKind.i64 a = en1 IntKind.i64 a_1 ∧ en1 IntKind.i64 b = en1 IntKind.i64 b_1 ∧ LenOk a_1 ∧ LenOk b_1 ∧ NT Tail.no ∧ NT Tail.no ∧ br (!Prod.snd (Prod.snd (upd a_1 b_1 r)) == 0) (K (PV.bool true)) (∃ (a_2 : List Int), ∃ (b_2 : List Int), en1 IntKind.i64 a = en1 IntKind.i64 a_2 ∧ en1 IntKind.i64 b = en1 IntKind.i64 b_2 ∧ LenOk a_2 ∧ LenOk b_2 ∧ NT Tail.no ∧ NT Tail.no ∧ br ((Prod.snd (Prod.snd (upd a_2 b_2 r)) != 0) == false) (br (((↑(List.length (en1 IntKind.i64 (Prod.fst (upd a_2 b_2 r)))) : Int) != (↑(List.length (en1 IntKind.i64 a)) : Int)) == false) (br ((↑(List.length (en1 IntKind.i64 (Prod.fst (Prod.snd (upd a_2 b_2 r))))) : Int) != (↑(List.length (en1 IntKind.i64 b)) : Int)) (K (PV.bool false)) (br ((r == 1) == false) (br ((r == 0) == true) (∃ (ns : List Int), en1 IntKind.i64 a = en1 IntKind.i64 ns ∧ LenOk ns ∧ NT Tail.no ∧ ∃ (ns_1 : List Int), en1 IntKind.i64 b = en1 IntKind.i64 ns_1 ∧ LenOk ns_1 ∧ NT Tail.no ∧ br ((r == 2) == false) (br ((r == 0) == true) (∃ (ns_2 : List Int), en1 IntKind.i64 a = en1 IntKind.i64 ns_2 ∧ LenOk ns_2 ∧ NT Tail.no ∧ ∃ (ns_3 : List Int), en1 IntKind.i64 b = en1 IntKind.i64 ns_3 ∧ LenOk ns_3 ∧ NT Tail.no ∧ ∃ (a_3 : List Int), ∃ (b_3 : List Int), ∃ (x : List Int), ∃ (y : List Int), ∃ (up : Bool), ∃ (dn : Bool), Ten a_3 ∧ List.length x = List.length a_3 ∧ (∀ (i : Nat), i < List.length a_3 → (up = true → List.getD a_3 i 0 ≤ List.getD x i 0) ∧ (dn = true → List.getD x i 0 ≤ List.getD a_3 i 0)) ∧ SlIs [PV.list (en1 IntKind.i64 a) Tail.no, PV.list (en1 IntKind.i64 b) Tail.no, PV.bool false, PV.list (en1 IntKind.i64 (Prod.fst (upd a_2 b_2 r))) Tail.no, PV.list (en1 IntKind.i64 (Prod.fst (Prod.snd (upd a_2 b_2 r)))) Tail.no, PV.bool (decide (mean ns ≤ mean ns_1)), PV.bool (decide (mean ns_2 ≥ mean ns_3)), PV.int IntKind.i64 0] [PV.list (en1 IntKind.i64 a_3) Tail.no, PV.list (en1 IntKind.i64 b_3) Tail.no, PV.bool false, PV.list (en1 IntKind.i64 x) Tail.no, PV.list (en1 IntKind.i64 y) Tail.no, PV.bool up, PV.bool dn, PV.int IntKind.i64 0] ∧ HpIs [] [] ∧ ∃ (a : List Int), ∃ (x : List Int), ∃ (up_1 : Bool), ∃ (dn_1 : Bool), Ten a ∧ List.length x = List.length a ∧ (∀ (i : Nat), i < List.length a → (up_1 = true → List.getD x i 0 ≤ List.getD a i 0) ∧ (dn_1 = true → List.getD a i 0 ≤ List.getD x i 0)) ∧ SlIs [PV.list (en1 IntKind.i64 b_3) Tail.no, PV.bool false, PV.list (en1 IntKind.i64 y) Tail.no, PV.bool up, PV.bool dn, PV.int IntKind.i64 0] [PV.list (en1 IntKind.i64 a) Tail.no, PV.bool false, PV.list (en1 IntKind.i64 x) Tail.no, PV.bool up_1, PV.bool dn_1, PV.int IntKind.i64 0] ∧ HpIs [] [] ∧ K (PV.bool true)) (∃ (a_3 : List Int), ∃ (b_3 : List Int), ∃ (x : List Int), ∃ (y : List Int), ∃ (up : Bool), ∃ (dn : Bool), Ten a_3 ∧ List.length x = List.length a_3 ∧ (∀ (i : Nat), i < List.length a_3 → (up = true → List.getD a_3 i 0 ≤ List.getD x i 0) ∧ (dn = true → List.getD x i 0 ≤ List.getD a_3 i 0)) ∧ SlIs [PV.list (en1 IntKind.i64 a) Tail.no, PV.list (en1 IntKind.i64 b) Tail.no, PV.bool false, PV.list (en1 IntKind.i64 (Prod.fst (upd a_2 b_2 r))) Tail.no, PV.list (en1 IntKind.i64 (Prod.fst (Prod.snd (upd a_2 b_2 r)))) Tail.no, PV.bool (decide (mean ns ≤ mean ns_1)), PV.bool false, PV.int IntKind.i64 0] [PV.list (en1 IntKind.i64 a_3) Tail.no, PV.list (en1 IntKind.i64 b_3) Tail.no, PV.bool false, PV.list (en1 IntKind.i64 x) Tail.no, PV.list (en1 IntKind.i64 y) Tail.no, PV.bool up, PV.bool dn, PV.int IntKind.i64 0] ∧ HpIs [] [] ∧ ∃ (a : List Int), ∃ (x : List Int), ∃ (up_1 : Bool), ∃ (dn_1 : Bool), Ten a ∧ List.length x = List.length a ∧ (∀ (i : Nat), i < List.length a → (up_1 = true → List.getD x i 0 ≤ List.getD a i 0) ∧ (dn_1 = true → List.getD a i 0 ≤ List.getD x i 0)) ∧ SlIs [PV.list (en1 IntKind.i64 b_3) Tail.no, PV.bool false, PV.list (en1 IntKind.i64 y) Tail.no, PV.bool up, PV.bool dn, PV.int IntKind.i64 0] [PV.list (en1 IntKind.i64 a) Tail.no, PV.bool false, PV.list (en1 IntKind.i64 x) Tail.no, PV.bool up_1, PV.bool dn_1, PV.int IntKind.i64 0] ∧ HpIs [] [] ∧ K (PV.bool true))) (∃ (a_3 : List Int), ∃ (b_3 : List Int), ∃ (x : List Int), ∃ (y : List Int), ∃ (up : Bool), ∃ (dn : Bool), Ten a_3 ∧ List.length x = List.length a_3 ∧ (∀ (i : Nat), i < List.length a_3 → (up = true → List.getD a_3 i 0 ≤ List.getD x i 0) ∧ (dn = true → List.getD x i 0 ≤ List.getD a_3 i 0)) ∧ SlIs [PV.list (en1 IntKind.i64 a) Tail.no, PV.list (en1 IntKind.i64 b) Tail.no, PV.bool false, PV.list (en1 IntKind.i64 (Prod.fst (upd a_2 b_2 r))) Tail.no, PV.list (en1 IntKind.i64 (Prod.fst (Prod.snd (upd a_2 b_2 r)))) Tail.no, PV.bool (decide (mean ns ≤ mean ns_1)), PV.bool true, PV.int IntKind.i64 0] [PV.list (en1 IntKind.i64 a_3) Tail.no, PV.list (en1 IntKind.i64 b_3) Tail.no, PV.bool false, PV.list (en1 IntKind.i64 x) Tail.no, PV.list (en1 IntKind.i64 y) Tail.no, PV.bool up, PV.bool dn, PV.int IntKind.i64 0] ∧ HpIs [] [] ∧ ∃ (a : List Int), ∃ (x : List Int), ∃ (up_1 : Bool), ∃ (dn_1 : Bool), Ten a ∧ List.length x = List.length a ∧ (∀ (i : Nat), i < List.length a → (up_1 = true → List.getD x i 0 ≤ List.getD a i 0) ∧ (dn_1 = true → List.getD a i 0 ≤ List.getD x i 0)) ∧ SlIs [PV.list (en1 IntKind.i64 b_3) Tail.no, PV.bool false, PV.list (en1 IntKind.i64 y) Tail.no, PV.bool up, PV.bool dn, PV.int IntKind.i64 0] [PV.list (en1 IntKind.i64 a) Tail.no, PV.bool false, PV.list (en1 IntKind.i64 x) Tail.no, PV.bool up_1, PV.bool dn_1, PV.int IntKind.i64 0] ∧ HpIs [] [] ∧ K (PV.bool true))) (br ((r == 2) == false) (br ((r == 0) == true) (∃ (ns : List Int), en1 IntKind.i64 a = en1 IntKind.i64 ns ∧ LenOk ns ∧ NT Tail.no ∧ ∃ (ns_1 : List Int), en1 IntKind.i64 b = en1 IntKind.i64 ns_1 ∧ LenOk ns_1 ∧ NT Tail.no ∧ ∃ (a_3 : List Int), ∃ (b_3 : List Int), ∃ (x : List Int), ∃ (y : List Int), ∃ (up : Bool), ∃ (dn : Bool), Ten a_3 ∧ List.length x = List.length a_3 ∧ (∀ (i : Nat), i < List.length a_3 → (up = true → List.getD a_3 i 0 ≤ List.getD x i 0) ∧ (dn = true → List.getD x i 0 ≤ List.getD a_3 i 0)) ∧ SlIs [PV.list (en1 IntKind.i64 a) Tail.no, PV.list (en1 IntKind.i64 b) Tail.no, PV.bool false, PV.list (en1 IntKind.i64 (Prod.fst (upd a_2 b_2 r))) Tail.no, PV.list (en1 IntKind.i64 (Prod.fst (Prod.snd (upd a_2 b_2 r)))) Tail.no, PV.bool false, PV.bool (decide (mean ns ≥ mean ns_1)), PV.int IntKind.i64 0] [PV.list (en1 IntKind.i64 a_3) Tail.no, PV.list (en1 IntKind.i64 b_3) Tail.no, PV.bool false, PV.list (en1 IntKind.i64 x) Tail.no, PV.list (en1 IntKind.i64 y) Tail.no, PV.bool up, PV.bool dn, PV.int IntKind.i64 0] ∧ HpIs [] [] ∧ ∃ (a : List Int), ∃ (x : List Int), ∃ (up_1 : Bool), ∃ (dn_1 : Bool), Ten a ∧ List.length x = List.length a ∧ (∀ (i : Nat), i < List.length a → (up_1 = true → List.getD x i 0 ≤ List.getD a i 0) ∧ (dn_1 = true → List.getD a i 0 ≤ List.getD x i 0)) ∧ SlIs [PV.list (en1 IntKind.i64 b_3) Tail.no, PV.bool false, PV.list (en1 IntKind.i64 y) Tail.no, PV.bool up, PV.bool dn, PV.int IntKind.i64 0] [PV.list (en1 IntKind.i64 a) Tail.no, PV.bool false, PV.list (en1 IntKind.i64 x) Tail.no, PV.bool up_1, PV.bool dn_1, PV.int IntKind.i64 0] ∧ HpIs [] [] ∧ K (PV.bool true)) (∃ (a_3 : List Int), ∃ (b_3 : List Int), ∃ (x : List Int), ∃ (y : List Int), ∃ (up : Bool), ∃ (dn : Bool), Ten a_3 ∧ List.length x = List.length a_3 ∧ (∀ (i : Nat), i < List.length a_3 → (up = true → List.getD a_3 i 0 ≤ List.getD x i 0) ∧ (dn = true → List.getD x i 0 ≤ List.getD a_3 i 0)) ∧ SlIs [PV.list (en1 IntKind.i64 a) Tail.no, PV.list (en1 IntKind.i64 b) Tail.no, PV.bool false, PV.list (en1 IntKind.i64 (Prod.fst (upd a_2 b_2 r))) Tail.no, PV.list (en1 IntKind.i64 (Prod.fst (Prod.snd (upd a_2 b_2 r)))) Tail.no, PV.bool false, PV.bool false, PV.int IntKind.i64 0] [PV.list (en1 IntKind.i64 a_3) Tail.no, PV.list (en1 IntKind.i64 b_3) Tail.no, PV.bool false, PV.list (en1 IntKind.i64 x) Tail.no, PV.list (en1 IntKind.i64 y) Tail.no, PV.bool up, PV.bool dn, PV.int IntKind.i64 0] ∧ HpIs [] [] ∧ ∃ (a : List Int), ∃ (x : List Int), ∃ (up_1 : Bool), ∃ (dn_1 : Bool), Ten a ∧ List.length x = List.length a ∧ (∀ (i : Nat), i < List.length a → (up_1 = true → List.getD x i 0 ≤ List.getD a i 0) ∧ (dn_1 = true → List.getD a i 0 ≤ List.getD x i 0)) ∧ SlIs [PV.list (en1 IntKind.i64 b_3) Tail.no, PV.bool false, PV.list (en1 IntKind.i64 y) Tail.no, PV.bool up, PV.bool dn, PV.int IntKind.i64 0] [PV.list (en1 IntKind.i64 a) Tail.no, PV.bool false, PV.list (en1 IntKind.i64 x) Tail.no, PV.bool up_1, PV.bool dn_1, PV.int IntKind.i64 0] ∧ HpIs [] [] ∧ K (PV.bool true))) (∃ (a_3 : List Int), ∃ (b_3 : List Int), ∃ (x : List Int), ∃ (y : List Int), ∃ (up : Bool), ∃ (dn : Bool), Ten a_3 ∧ List.length x = List.length a_3 ∧ (∀ (i : Nat), i < List.length a_3 → (up = true → List.getD a_3 i 0 ≤ List.getD x i 0) ∧ (dn = true → List.getD x i 0 ≤ List.getD a_3 i 0)) ∧ SlIs [PV.list (en1 IntKind.i64 a) Tail.no, PV.list (en1 IntKind.i64 b) Tail.no, PV.bool false, PV.list (en1 IntKind.i64 (Prod.fst (upd a_2 b_2 r))) Tail.no, PV.list (en1 IntKind.i64 (Prod.fst (Prod.snd (upd a_2 b_2 r)))) Tail.no, PV.bool false, PV.bool true, PV.int IntKind.i64 0] [PV.list (en1 IntKind.i64 a_3) Tail.no, PV.list (en1 IntKind.i64 b_3) Tail.no, PV.bool false, PV.list (en1 IntKind.i64 x) Tail.no, PV.list (en1 IntKind.i64 y) Tail.no, PV.bool up, PV.bool dn, PV.int IntKind.i64 0] ∧ HpIs [] [] ∧ ∃ (a : List Int), ∃ (x : List Int), ∃ (up_1 : Bool), ∃ (dn_1 : Bool), Ten a ∧ List.length x = List.length a ∧ (∀ (i : Nat), i < List.length a → (up_1 = true → List.getD x i 0 ≤ List.getD a i 0) ∧ (dn_1 = true → List.getD a i 0 ≤ List.getD x i 0)) ∧ SlIs [PV.list (en1 IntKind.i64 b_3) Tail.no, PV.bool false, PV.list (en1 IntKind.i64 y) Tail.no, PV.bool up, PV.bool dn, PV.int IntKind.i64 0] [PV.list (en1 IntKind.i64 a) Tail.no, PV.bool false, PV.list (en1 IntKind.i64 x) Tail.no, PV.bool up_1, PV.bool dn_1, PV.int IntKind.i64 0] ∧ HpIs [] [] ∧ K (PV.bool true)))) (br ((r == 2) == false) (br ((r == 0) == true) (∃ (ns : List Int), en1 IntKind.i64 a = en1 IntKind.i64 ns ∧ LenOk ns ∧ NT Tail.no ∧ ∃ (ns_1 : List Int), en1 IntKind.i64 b = en1 IntKind.i64 ns_1 ∧ LenOk ns_1 ∧ NT Tail.no ∧ ∃ (a_3 : List Int), ∃ (b_3 : List Int), ∃ (x : List Int), ∃ (y : List Int), ∃ (up : Bool), ∃ (dn : Bool), Ten a_3 ∧ List.length x = List.length a_3 ∧ (∀ (i : Nat), i < List.length a_3 → (up = true → List.getD a_3 i 0 ≤ List.getD x i 0) ∧ (dn = true → List.getD x i 0 ≤ List.getD a_3 i 0)) ∧ SlIs [PV.list (en1 IntKind.i64 a) Tail.no, PV.list (en1 IntKind.i64 b) Tail.no, PV.bool false, PV.list (en1 IntKind.i64 (Prod.fst (upd a_2 b_2 r))) Tail.no, PV.list (en1 IntKind.i64 (Prod.fst (Prod.snd (upd a_2 b_2 r)))) Tail.no, PV.bool true, PV.bool (decide (mean ns ≥ mean ns_1)), PV.int IntKind.i64 0] [PV.list (en1 IntKind.i64 a_3) Tail.no, PV.list (en1 IntKind.i64 b_3) Tail.no, PV.bool false, PV.list (en1 IntKind.i64 x) Tail.no, PV.list (en1 IntKind.i64 y) Tail.no, PV.bool up, PV.bool dn, PV.int IntKind.i64 0] ∧ HpIs [] [] ∧ ∃ (a : List Int), ∃ (x : List Int), ∃ (up_1 : Bool), ∃ (dn_1 : Bool), Ten a ∧ List.length x = List.length a ∧ (∀ (i : Nat), i < List.length a → (up_1 = true → List.getD x i 0 ≤ List.getD a i 0) ∧ (dn_1 = true → List.getD a i 0 ≤ List.getD x i 0)) ∧ SlIs [PV.list (en1 IntKind.i64 b_3) Tail.no, PV.bool false, PV.list (en1 IntKind.i64 y) Tail.no, PV.bool up, PV.bool dn, PV.int IntKind.i64 0] [PV.list (en1 IntKind.i64 a) Tail.no, PV.bool false, PV.list (en1 IntKind.i64 x) Tail.no, PV.bool up_1, PV.bool dn_1, PV.int IntKind.i64 0] ∧ HpIs [] [] ∧ K (PV.bool true)) (∃ (a_3 : List Int), ∃ (b_3 : List Int), ∃ (x : List Int), ∃ (y : List Int), ∃ (up : Bool), ∃ (dn : Bool), Ten a_3 ∧ List.length x = List.length a_3 ∧ (∀ (i : Nat), i < List.length a_3 → (up = true → List.getD a_3 i 0 ≤ List.getD x i 0) ∧ (dn = true → List.getD x i 0 ≤ List.getD a_3 i 0)) ∧ SlIs [PV.list (en1 IntKind.i64 a) Tail.no, PV.list (en1 IntKind.i64 b) Tail.no, PV.bool false, PV.list (en1 IntKind.i64 (Prod.fst (upd a_2 b_2 r))) Tail.no, PV.list (en1 IntKind.i64 (Prod.fst (Prod.snd (upd a_2 b_2 r)))) Tail.no, PV.bool true, PV.bool false, PV.int IntKind.i64 0] [PV.list (en1 IntKind.i64 a_3) Tail.no, PV.list (en1 IntKind.i64 b_3) Tail.no, PV.bool false, PV.list (en1 IntKind.i64 x) Tail.no, PV.list (en1 IntKind.i64 y) Tail.no, PV.bool up, PV.bool dn, PV.int IntKind.i64 0] ∧ HpIs [] [] ∧ ∃ (a : List Int), ∃ (x : List Int), ∃ (up_1 : Bool), ∃ (dn_1 : Bool), Ten a ∧ List.length x = List.length a ∧ (∀ (i : Nat), i < List.length a → (up_1 = true → List.getD x i 0 ≤ List.getD a i 0) ∧ (dn_1 = true → List.getD a i 0 ≤ List.getD x i 0)) ∧ SlIs [PV.list (en1 IntKind.i64 b_3) Tail.no, PV.bool false, PV.list (en1 IntKind.i64 y) Tail.no, PV.bool up, PV.bool dn, PV.int IntKind.i64 0] [PV.list (en1 IntKind.i64 a) Tail.no, PV.bool false, PV.list (en1 IntKind.i64 x) Tail.no, PV.bool up_1, PV.bool dn_1, PV.int IntKind.i64 0] ∧ HpIs [] [] ∧ K (PV.bool true))) (∃ (a_3 : List Int), ∃ (b_3 : List Int), ∃ (x : List Int), ∃ (y : List Int), ∃ (up : Bool), ∃ (dn : Bool), Ten a_3 ∧ List.length x = List.length a_3 ∧ (∀ (i : Nat), i < List.length a_3 → (up = true → List.getD a_3 i 0 ≤ List.getD x i 0) ∧ (dn = true → List.getD x i 0 ≤ List.getD a_3 i 0)) ∧ SlIs [PV.list (en1 IntKind.i64 a) Tail.no, PV.list (en1 IntKind.i64 b) Tail.no, PV.bool false, PV.list (en1 IntKind.i64 (Prod.fst (upd a_2 b_2 r))) Tail.no, PV.list (en1 IntKind.i64 (Prod.fst (Prod.snd (upd a_2 b_2 r)))) Tail.no, PV.bool true, PV.bool true, PV.int IntKind.i64 0] [PV.list (en1 IntKind.i64 a_3) Tail.no, PV.list (en1 IntKind.i64 b_3) Tail.no, PV.bool false, PV.list (en1 IntKind.i64 x) Tail.no, PV.list (en1 IntKind.i64 y) Tail.no, PV.bool up, PV.bool dn, PV.int IntKind.i64 0] ∧ HpIs [] [] ∧ ∃ (a : List Int), ∃ (x : List Int), ∃ (up_1 : Bool), ∃ (dn_1 : Bool), Ten a ∧ List.length x = List.length a ∧ (∀ (i : Nat), i < List.length a → (up_1 = true → List.getD x i 0 ≤ List.getD a i 0) ∧ (dn_1 = true → List.getD a i 0 ≤ List.getD x i 0)) ∧ SlIs [PV.list (en1 IntKind.i64 b_3) Tail.no, PV.bool false, PV.list (en1 IntKind.i64 y) Tail.no, PV.bool up, PV.bool dn, PV.int IntKind.i64 0] [PV.list (en1 IntKind.i64 a) Tail.no, PV.bool false, PV.list (en1 IntKind.i64 x) Tail.no, PV.bool up_1, PV.bool dn_1, PV.int IntKind.i64 0] ∧ HpIs [] [] ∧ K (PV.bool true))))) (K (PV.bool false))) (K (PV.bool false)))) (K (PV.bool true))) (K (PV.bool true))) = wpc br Tryd.prog gl T8 [([1, 1, 1, 1, 1, 1, 0, 1, 0], wins1_l), ([1, 1, 1, 1, 1, 1, 1, 0, 1, 0], wins2_l)] (fun _ => 0) (bodyOf Tryd.f7) [] (env0 [.list (en1 .i64 a) .no, .list (en1 .i64 b) .no, .int .i64 r]) [] (resQ Tryd.prog Tryd.f7.results.toList (fun x _ => K x)) := by kernel_rfl
theorem wins_vc (a b : List Int) (r : Int) (K : PV → Prop) (h : br (decide ((↑(List.length (en1 IntKind.i64 a)) : Int) > 10) == false) (br (decide ((↑(List.length (en1 IntKind.i64 b)) : Int) > 10) == false) (∃ (a_1 : List Int), ∃ (b_1 : List Int), en1 IntKind.i64 a = en1 IntKind.i64 a_1 ∧ en1 IntKind.i64 b = en1 IntKind.i64 b_1 ∧ LenOk a_1 ∧ LenOk b_1 ∧ NT Tail.no ∧ NT Tail.no ∧ br (!Prod.snd (Prod.snd (upd a_1 b_1 r)) == 0) (K (PV.bool true)) (∃ (a_2 : List Int), ∃ (b_2 : List Int), en1 IntKind.i64 a = en1 IntKind.i64 a_2 ∧ en1 IntKind.i64 b = en1 IntKind.i64 b_2 ∧ LenOk a_2 ∧ LenOk b_2 ∧ NT Tail.no ∧ NT Tail.no ∧ br ((Prod.snd (Prod.snd (upd a_2 b_2 r)) != 0) == false) (br (((↑(List.length (en1 IntKind.i64 (Prod.fst (upd a_2 b_2 r)))) : Int) != (↑(List.length (en1 IntKind.i64 a)) : Int)) == false) (br ((↑(List.length (en1 IntKind.i64 (Prod.fst (Prod.snd (upd a_2 b_2 r))))) : Int) != (↑(List.length (en1 IntKind.i64 b)) : Int)) (K (PV.bool false)) (br ((r == 1) == false) (br ((r == 0) == true) (∃ (ns : List Int), en1 IntKind.i64 a = en1 IntKind.i64 ns ∧ LenOk ns ∧ NT Tail.no ∧ ∃ (ns_1 : List Int), en1 IntKind.i64 b = en1 IntKind.i64 ns_1 ∧ LenOk ns_1 ∧ NT Tail.no ∧ br ((r == 2) == false) (br ((r == 0) == true) (∃ (ns_2 : List Int), en1 IntKind.i64 a = en1 IntKind.i64 ns_2 ∧ LenOk ns_2 ∧ NT Tail.no ∧ ∃ (ns_3 : List Int), en1 IntKind.i64 b = en1 IntKind.i64 ns_3 ∧ LenOk ns_3 ∧ NT Tail.no ∧ ∃ (a_3 : List Int), ∃ (b_3 : List Int), ∃ (x : List Int), ∃ (y : List Int), ∃ (up : Bool), ∃ (dn : Bool), Ten a_3 ∧ List.length x = List.length a_3 ∧ (∀ (i : Nat), i < List.length a_3 → (up = true → List.getD a_3 i 0 ≤ List.getD x i 0) ∧ (dn = true → List.getD x i 0 ≤ List.getD a_3 i 0)) ∧ SlIs [PV.list (en1 IntKind.i64 a) Tail.no, PV.list (en1 IntKind.i64 b) Tail.no, PV.bool false, PV.list (en1 IntKind.i64 (Prod.fst (upd a_2 b_2 r))) Tail.no, PV.list (en1 IntKind.i64 (Prod.fst (Prod.snd (upd a_2 b_2 r)))) Tail.no, PV.bool (decide (mean ns ≤ mean ns_1)), PV.bool (decide (mean ns_2 ≥ mean ns_3)), PV.int IntKind.i64 0] [PV.list (en1 IntKind.i64 a_3) Tail.no, PV.list (en1 IntKind.i64 b_3) Tail.no, PV.bool false, PV.list (en1 IntKind.i64 x) Tail.no, PV.list (en1 IntKind.i64 y) Tail.no, PV.bool up, PV.bool dn, PV.int IntKind.i64 0] ∧ HpIs [] [] ∧ ∃ (a : List Int), ∃ (x : List Int), ∃ (up_1 : Bool), ∃ (dn_1 : Bool), Ten a ∧ List.length x = List.length a ∧ (∀ (i : Nat), i < List.length a → (up_1 = true → List.getD x i 0 ≤ List.getD a i 0) ∧ (dn_1 = true → List.getD a i 0 ≤ List.getD x i 0)) ∧ SlIs [PV.list (en1 IntKind.i64 b_3) Tail.no, PV.bool false, PV.list (en1 IntKind.i64 y) Tail.no, PV.bool up, PV.bool dn, PV.int IntKind.i64 0] [PV.list (en1 IntKind.i64 a) Tail.no, PV.bool false, PV.list (en1 IntKind.i64 x) Tail.no, PV.bool up_1, PV.bool dn_1, PV.int IntKind.i64 0] ∧ HpIs [] [] ∧ K (PV.bool true)) (∃ (a_3 : List Int), ∃ (b_3 : List Int), ∃ (x : List Int), ∃ (y : List Int), ∃ (up : Bool), ∃ (dn : Bool), Ten a_3 ∧ List.length x = List.length a_3 ∧ (∀ (i : Nat), i < List.length a_3 → (up = true → List.getD a_3 i 0 ≤ List.getD x i 0) ∧ (dn = true → List.getD x i 0 ≤ List.getD a_3 i 0)) ∧ SlIs [PV.list (en1 IntKind.i64 a) Tail.no, PV.list (en1 IntKind.i64 b) Tail.no, PV.bool false, PV.list (en1 IntKind.i64 (Prod.fst (upd a_2 b_2 r))) Tail.no, PV.list (en1 IntKind.i64 (Prod.fst (Prod.snd (upd a_2 b_2 r)))) Tail.no, PV.bool (decide (mean ns ≤ mean ns_1)), PV.bool false, PV.int IntKind.i64 0] [PV.list (en1 IntKind.i64 a_3) Tail.no, PV.list (en1 IntKind.i64 b_3) Tail.no, PV.bool false, PV.list (en1 IntKind.i64 x) Tail.no, PV.list (en1 IntKind.i64 y) Tail.no, PV.bool up, PV.bool dn, PV.int IntKind.i64 0] ∧ HpIs [] [] ∧ ∃ (a : List Int), ∃ (x : List Int), ∃ (up_1 : Bool), ∃ (dn_1 : Bool), Ten a ∧ List.length x = List.length a ∧ (∀ (i : Nat), i < List.length a → (up_1 = true → List.getD x i 0 ≤ List.getD a i 0) ∧ (dn_1 = true → List.getD a i 0 ≤ List.getD x i 0)) ∧ SlIs [PV.list (en1 IntKind.i64 b_3) Tail.no, PV.bool false, PV.list (en1 IntKind.i64 y) Tail.no, PV.bool up, PV.bool dn, PV.int IntKind.i64 0] [PV.list (en1 IntKind.i64 a) Tail.no, PV.bool false, PV.list (en1 IntKind.i64 x) Tail.no, PV.bool up_1, PV.bool dn_1, PV.int IntKind.i64 0] ∧ HpIs [] [] ∧ K (PV.bool true))) (∃ (a_3 : List Int), ∃ (b_3 : List Int), ∃ (x : List Int), ∃ (y : List Int), ∃ (up : Bool), ∃ (dn : Bool), Ten a_3 ∧ List.length x = List.length a_3 ∧ (∀ (i : Nat), i < List.length a_3 → (up = true → List.getD a_3 i 0 ≤ List.getD x i 0) ∧ (dn = true → List.getD x i 0 ≤ List.getD a_3 i 0)) ∧ SlIs [PV.list (en1 IntKind.i64 a) Tail.no, PV.list (en1 IntKind.i64 b) Tail.no, PV.bool false, PV.list (en1 IntKind.i64 (Prod.fst (upd a_2 b_2 r))) Tail.no, PV.list (en1 IntKind.i64 (Prod.fst (Prod.snd (upd a_2 b_2 r)))) Tail.no, PV.bool (decide (mean ns ≤ mean ns_1)), PV.bool true, PV.int IntKind.i64 0] [PV.list (en1 IntKind.i64 a_3) Tail.no, PV.list (en1 IntKind.i64 b_3) Tail.no, PV.bool false, PV.list (en1 IntKind.i64 x) Tail.no, PV.list (en1 IntKind.i64 y) Tail.no, PV.bool up, PV.bool dn, PV.int IntKind.i64 0] ∧ HpIs [] [] ∧ ∃ (a : List Int), ∃ (x : List Int), ∃ (up_1 : Bool), ∃ (dn_1 : Bool), Ten a ∧ List.length x = List.length a ∧ (∀ (i : Nat), i < List.length a → (up_1 = true → List.getD x i 0 ≤ List.getD a i 0) ∧ (dn_1 = true → List.getD a i 0 ≤ List.getD x i 0)) ∧ SlIs [PV.list (en1 IntKind.i64 b_3) Tail.no, PV.bool false, PV.list (en1 IntKind.i64 y) Tail.no, PV.bool up, PV.bool dn, PV.int IntKind.i64 0] [PV.list (en1 IntKind.i64 a) Tail.no, PV.bool false, PV.list (en1 IntKind.i64 x) Tail.no, PV.bool up_1, PV.bool dn_1, PV.int IntKind.i64 0] ∧ HpIs [] [] ∧ K (PV.bool true))) (br ((r == 2) == false) (br ((r == 0) == true) (∃ (ns : List Int), en1 IntKind.i64 a = en1 IntKind.i64 ns ∧ LenOk ns ∧ NT Tail.no ∧ ∃ (ns_1 : List Int), en1 IntKind.i64 b = en1 IntKind.i64 ns_1 ∧ LenOk ns_1 ∧ NT Tail.no ∧ ∃ (a_3 : List Int), ∃ (b_3 : List Int), ∃ (x : List Int), ∃ (y : List Int), ∃ (up : Bool), ∃ (dn : Bool), Ten a_3 ∧ List.length x = List.length a_3 ∧ (∀ (i : Nat), i < List.length a_3 → (up = true → List.getD a_3 i 0 ≤ List.getD x i 0) ∧ (dn = true → List.getD x i 0 ≤ List.getD a_3 i 0)) ∧ SlIs [PV.list (en1 IntKind.i64 a) Tail.no, PV.list (en1 IntKind.i64 b) Tail.no, PV.bool false, PV.list (en1 IntKind.i64 (Prod.fst (upd a_2 b_2 r))) Tail.no, PV.list (en1 IntKind.i64 (Prod.fst (Prod.snd (upd a_2 b_2 r)))) Tail.no, PV.bool false, PV.bool (decide (mean ns ≥ mean ns_1)), PV.int IntKind.i64 0] [PV.list (en1 IntKind.i64 a_3) Tail.no, PV.list (en1 IntKind.i64 b_3) Tail.no, PV.bool false, PV.list (en1 IntKind.i64 x) Tail.no, PV.list (en1 IntKind.i64 y) Tail.no, PV.bool up, PV.bool dn, PV.int IntKind.i64 0] ∧ HpIs [] [] ∧ ∃ (a : List Int), ∃ (x : List Int), ∃ (up_1 : Bool), ∃ (dn_1 : Bool), Ten a ∧ List.length x = List.length a ∧ (∀ (i : Nat), i < List.length a → (up_1 = true → List.getD x i 0 ≤ List.getD a i 0) ∧ (dn_1 = true → List.getD a i 0 ≤ List.getD x i 0)) ∧ SlIs [PV.list (en1 IntKind.i64 b_3) Tail.no, PV.bool false, PV.list (en1 IntKind.i64 y) Tail.no, PV.bool up, PV.bool dn, PV.int IntKind.i64 0] [PV.list (en1 IntKind.i64 a) Tail.no, PV.bool false, PV.list (en1 IntKind.i64 x) Tail.no, PV.bool up_1, PV.bool dn_1, PV.int IntKind.i64 0] ∧ HpIs [] [] ∧ K (PV.bool true)) (∃ (a_3 : List Int), ∃ (b_3 : List Int), ∃ (x : List Int), ∃ (y : List Int), ∃ (up : Bool), ∃ (dn : Bool), Ten a_3 ∧ List.length x = List.length a_3 ∧ (∀ (i : Nat), i < List.length a_3 → (up = true → List.getD a_3 i 0 ≤ List.getD x i 0) ∧ (dn = true → List.getD x i 0 ≤ List.getD a_3 i 0)) ∧ SlIs [PV.list (en1 IntKind.i64 a) Tail.no, PV.list (en1 IntKind.i64 b) Tail.no, PV.bool false, PV.list (en1 IntKind.i64 (Prod.fst (upd a_2 b_2 r))) Tail.no, PV.list (en1 IntKind.i64 (Prod.fst (Prod.snd (upd a_2 b_2 r)))) Tail.no, PV.bool false, PV.bool false, PV.int IntKind.i64 0] [PV.list (en1 IntKind.i64 a_3) Tail.no, PV.list (en1 IntKind.i64 b_3) Tail.no, PV.bool false, PV.list (en1 IntKind.i64 x) Tail.no, PV.list (en1 IntKind.i64 y) Tail.no, PV.bool up, PV.bool dn, PV.int IntKind.i64 0] ∧ HpIs [] [] ∧ ∃ (a : List Int), ∃ (x : List Int), ∃ (up_1 : Bool), ∃ (dn_1 : Bool), Ten a ∧ List.length x = List.length a ∧ (∀ (i : Nat), i < List.length a → (up_1 = true → List.getD x i 0 ≤ List.getD a i 0) ∧ (dn_1 = true → List.getD a i 0 ≤ List.getD x i 0)) ∧ SlIs [PV.list (en1 IntKind.i64 b_3) Tail.no, PV.bool false, PV.list (en1 IntKind.i64 y) Tail.no, PV.bool up, PV.bool dn, PV.int IntKind.i64 0] [PV.list (en1 IntKind.i64 a) Tail.no, PV.bool false, PV.list (en1 IntKind.i64 x) Tail.no, PV.bool up_1, PV.bool dn_1, PV.int IntKind.i64 0] ∧ HpIs [] [] ∧ K (PV.bool true))) (∃ (a_3 : List Int), ∃ (b_3 : List Int), ∃ (x : List Int), ∃ (y : List Int), ∃ (up : Bool), ∃ (dn : Bool), Ten a_3 ∧ List.length x = List.length a_3 ∧ (∀ (i : Nat), i < List.length a_3 → (up = true → List.getD a_3 i 0 ≤ List.getD x i 0) ∧ (dn = true → List.getD x i 0 ≤ List.getD a_3 i 0)) ∧ SlIs [PV.list (en1 IntKind.i64 a) Tail.no, PV.list (en1 IntKind.i64 b) Tail.no, PV.bool false, PV.list (en1 IntKind.i64 (Prod.fst (upd a_2 b_2 r))) Tail.no, PV.list (en1 IntKind.i64 (Prod.fst (Prod.snd (upd a_2 b_2 r)))) Tail.no, PV.bool false, PV.bool true, PV.int IntKind.i64 0] [PV.list (en1 IntKind.i64 a_3) Tail.no, PV.list (en1 IntKind.i64 b_3) Tail.no, PV.bool false, PV.list (en1 IntKind.i64 x) Tail.no, PV.list (en1 IntKind.i64 y) Tail.no, PV.bool up, PV.bool dn, PV.int IntKind.i64 0] ∧ HpIs [] [] ∧ ∃ (a : List Int), ∃ (x : List Int), ∃ (up_1 : Bool), ∃ (dn_1 : Bool), Ten a ∧ List.length x = List.length a ∧ (∀ (i : Nat), i < List.length a → (up_1 = true → List.getD x i 0 ≤ List.getD a i 0) ∧ (dn_1 = true → List.getD a i 0 ≤ List.getD x i 0)) ∧ SlIs [PV.list (en1 IntKind.i64 b_3) Tail.no, PV.bool false, PV.list (en1 IntKind.i64 y) Tail.no, PV.bool up, PV.bool dn, PV.int IntKind.i64 0] [PV.list (en1 IntKind.i64 a) Tail.no, PV.bool false, PV.list (en1 IntKind.i64 x) Tail.no, PV.bool up_1, PV.bool dn_1, PV.int IntKind.i64 0] ∧ HpIs [] [] ∧ K (PV.bool true)))) (br ((r == 2) == false) (br ((r == 0) == true) (∃ (ns : List Int), en1 IntKind.i64 a = en1 IntKind.i64 ns ∧ LenOk ns ∧ NT Tail.no ∧ ∃ (ns_1 : List Int), en1 IntKind.i64 b = en1 IntKind.i64 ns_1 ∧ LenOk ns_1 ∧ NT Tail.no ∧ ∃ (a_3 : List Int), ∃ (b_3 : List Int), ∃ (x : List Int), ∃ (y : List Int), ∃ (up : Bool), ∃ (dn : Bool), Ten a_3 ∧ List.length x = List.length a_3 ∧ (∀ (i : Nat), i < List.length a_3 → (up = true → List.getD a_3 i 0 ≤ List.getD x i 0) ∧ (dn = true → List.getD x i 0 ≤ List.getD a_3 i 0)) ∧ SlIs [PV.list (en1 IntKind.i64 a) Tail.no, PV.list (en1 IntKind.i64 b) Tail.no, PV.bool false, PV.list (en1 IntKind.i64 (Prod.fst (upd a_2 b_2 r))) Tail.no, PV.list (en1 IntKind.i64 (Prod.fst (Prod.snd (upd a_2 b_2 r)))) Tail.no, PV.bool true, PV.bool (decide (mean ns ≥ mean ns_1)), PV.int IntKind.i64 0] [PV.list (en1 IntKind.i64 a_3) Tail.no, PV.list (en1 IntKind.i64 b_3) Tail.no, PV.bool false, PV.list (en1 IntKind.i64 x) Tail.no, PV.list (en1 IntKind.i64 y) Tail.no, PV.bool up, PV.bool dn, PV.int IntKind.i64 0] ∧ HpIs [] [] ∧ ∃ (a : List Int), ∃ (x : List Int), ∃ (up_1 : Bool), ∃ (dn_1 : Bool), Ten a ∧ List.length x = List.length a ∧ (∀ (i : Nat), i < List.length a → (up_1 = true → List.getD x i 0 ≤ List.getD a i 0) ∧ (dn_1 = true → List.getD a i 0 ≤ List.getD x i 0)) ∧ SlIs [PV.list (en1 IntKind.i64 b_3) Tail.no, PV.bool false, PV.list (en1 IntKind.i64 y) Tail.no, PV.bool up, PV.bool dn, PV.int IntKind.i64 0] [PV.list (en1 IntKind.i64 a) Tail.no, PV.bool false, PV.list (en1 IntKind.i64 x) Tail.no, PV.bool up_1, PV.bool dn_1, PV.int IntKind.i64 0] ∧ HpIs [] [] ∧ K (PV.bool true)) (∃ (a_3 : List Int), ∃ (b_3 : List Int), ∃ (x : List Int), ∃ (y : List Int), ∃ (up : Bool), ∃ (dn : Bool), Ten a_3 ∧ List.length x = List.length a_3 ∧ (∀ (i : Nat), i < List.length a_3 → (up = true → List.getD a_3 i 0 ≤ List.getD x i 0) ∧ (dn = true → List.getD x i 0 ≤ List.getD a_3 i 0)) ∧ SlIs [PV.list (en1 IntKind.i64 a) Tail.no, PV.list (en1 IntKind.i64 b) Tail.no, PV.bool false, PV.list (en1 IntKind.i64 (Prod.fst (upd a_2 b_2 r))) Tail.no, PV.list (en1 IntKind.i64 (Prod.fst (Prod.snd (upd a_2 b_2 r)))) Tail.no, PV.bool true, PV.bool false, PV.int IntKind.i64 0] [PV.list (en1 IntKind.i64 a_3) Tail.no, PV.list (en1 IntKind.i64 b_3) Tail.no, PV.bool false, PV.list (en1 IntKind.i64 x) Tail.no, PV.list (en1 IntKind.i64 y) Tail.no, PV.bool up, PV.bool dn, PV.int IntKind.i64 0] ∧ HpIs [] [] ∧ ∃ (a : List Int), ∃ (x : List Int), ∃ (up_1 : Bool), ∃ (dn_1 : Bool), Ten a ∧ List.length x = List.length a ∧ (∀ (i : Nat), i < List.length a → (up_1 = true → List.getD x i 0 ≤ List.getD a i 0) ∧ (dn_1 = true → List.getD a i 0 ≤ List.getD x i 0)) ∧ SlIs [PV.list (en1 IntKind.i64 b_3) Tail.no, PV.bool false, PV.list (en1 IntKind.i64 y) Tail.no, PV.bool up, PV.bool dn, PV.int IntKind.i64 0] [PV.list (en1 IntKind.i64 a) Tail.no, PV.bool false, PV.list (en1 IntKind.i64 x) Tail.no, PV.bool up_1, PV.bool dn_1, PV.int IntKind.i64 0] ∧ HpIs [] [] ∧ K (PV.bool true))) (∃ (a_3 : List Int), ∃ (b_3 : List Int), ∃ (x : List Int), ∃ (y : List Int), ∃ (up : Bool), ∃ (dn : Bool), Ten a_3 ∧ List.length x = List.length a_3 ∧ (∀ (i : Nat), i < List.length a_3 → (up = true → List.getD a_3 i 0 ≤ List.getD x i 0) ∧ (dn = true → List.getD x i 0 ≤ List.getD a_3 i 0)) ∧ SlIs [PV.list (en1 IntKind.i64 a) Tail.no, PV.list (en1 IntKind.i64 b) Tail.no, PV.bool false, PV.list (en1 IntKind.i64 (Prod.fst (upd a_2 b_2 r))) Tail.no, PV.list (en1 IntKind.i64 (Prod.fst (Prod.snd (upd a_2 b_2 r)))) Tail.no, PV.bool true, PV.bool true, PV.int IntKind.i64 0] [PV.list (en1 IntKind.i64 a_3) Tail.no, PV.list (en1 IntKind.i64 b_3) Tail.no, PV.bool false, PV.list (en1 IntKind.i64 x) Tail.no, PV.list (en1 IntKind.i64 y) Tail.no, PV.bool up, PV.bool dn, PV.int IntKind.i64 0] ∧ HpIs [] [] ∧ ∃ (a : List Int), ∃ (x : List Int), ∃ (up_1 : Bool), ∃ (dn_1 : Bool), Ten a ∧ List.length x = List.length a ∧ (∀ (i : Nat), i < List.length a → (up_1 = true → List.getD x i 0 ≤ List.getD a i 0) ∧ (dn_1 = true → List.getD a i 0 ≤ List.getD x i 0)) ∧ SlIs [PV.list (en1 IntKind.i64 b_3) Tail.no, PV.bool false, PV.list (en1 IntKind.i64 y) Tail.no, PV.bool up, PV.bool dn, PV.int IntKind.i64 0] [PV.list (en1 IntKind.i64 a) Tail.no, PV.bool false, PV.list (en1 IntKind.i64 x) Tail.no, PV.bool up_1, PV.bool dn_1, PV.int IntKind.i64 0] ∧ HpIs [] [] ∧ K (PV.bool true))))) (K (PV.bool false))) (K (PV.bool false)))) (K (PV.bool true))) (K (PV.bool true))) : ACalls Tryd.prog gl 7 [.list (en1 .i64 a) .no, .list (en1 .i64 b) .no, .int .i64 r] [] (fun x _ => K x) :=
  acalls_of_wpc2 (T := T8) (L := [([1, 1, 1, 1, 1, 1, 0, 1, 0], wins1_l), ([1, 1, 1, 1, 1, 1, 1, 0, 1, 0], wins2_l)]) (fun _ => 0) Tryd.func7 (by kernel_rfl) (by kernel_rfl) (by kernel_rfl) (T8_ok) (.cons (sub_of (by kernel_rfl)) wins1_l_ok (.cons (sub_of (by kernel_rfl)) wins2_l_ok (.nil _ _ _ _ _))) (holds_of_eq (wins_red a b r K) h)
theorem more_red (a b c n p : Int) (K : PV → Prop) : (br (decide (stk (mnI a c) b (wI (Int.tmod n 9)) 1 < stk (mxI a c) b (wI (Int.tmod n 9)) 1) == false) (br (wI (stk a b (wI (Int.tmod n 9)) 1 + stk b a (wI (Int.tmod n 9)) 2) != 0) (K (PV.bool false)) (∃ (X : Heap), ∃ (p_1 : Int), ∃ (n_1 : Nat), (-2147483648 ≤ p_1 ∧ p_1 ≤ 2147483647) ∧ n_1 ≤ 9 ∧ SlIs [PV.int IntKind.i32 p, PV.bool false, PV.int IntKind.i64 (wI (Int.tmod n 9)), PV.int IntKind.i64 0, PV.int IntKind.i64 0] [PV.int IntKind.i32 p_1, PV.bool false, PV.int IntKind.i64 (↑n_1 : Int), PV.int IntKind.i64 0, PV.int IntKind.i64 0] ∧ HpIs [Ob.cells [PV.int IntKind.i64 a, PV.int IntKind.i64 b, PV.int IntKind.i64 c]] X ∧ br (((↑n_1 : Int) == 0) == false) (br ((ssum p_1 (↑n_1 : Int) n_1 == wI p_1) == true) (P41 (wI p_1) ∧ br ((shr (wI p_1) (↑n_1 : Int) (↑n_1 : Int) == 0) == true) (K (PV.bool true)) (K (PV.bool false))) (K (PV.bool false))) (P41 (wI p_1) ∧ br ((shr (wI p_1) (↑n_1 : Int) (↑n_1 : Int) == 0) == true) (K (PV.bool true)) (K (PV.bool false))))) (K (PV.bool false))) = wpc br Tryd.prog gl T8 [([1, 1, 1, 1, 1, 1, 0, 1, 0], more1_l)] (fun _ => 0) (bodyOf Tryd.f9) [] (env0 [.agg [.int .i64 a, .int .i64 b, .int .i64 c], .int .u8 n, .int .i32 p]) [] (resQ Tryd.prog Tryd.f9.results.toList (fun x _ => K x)) := by kernel_rfl
theorem more_vc (a b c n p : Int) (K : PV → Prop) (h : br (decide (stk (mnI a c) b (wI (Int.tmod n 9)) 1 < stk (mxI a c) b (wI (Int.tmod n 9)) 1) == false) (br (wI (stk a b (wI (Int.tmod n 9)) 1 + stk b a (wI (Int.tmod n 9)) 2) != 0) (K (PV.bool false)) (∃ (X : Heap), ∃ (p_1 : Int), ∃ (n_1 : Nat), (-2147483648 ≤ p_1 ∧ p_1 ≤ 2147483647) ∧ n_1 ≤ 9 ∧ SlIs [PV.int IntKind.i32 p, PV.bool false, PV.int IntKind.i64 (wI (Int.tmod n 9)), PV.int IntKind.i64 0, PV.int IntKind.i64 0] [PV.int IntKind.i32 p_1, PV.bool false, PV.int IntKind.i64 (↑n_1 : Int), PV.int IntKind.i64 0, PV.int IntKind.i64 0] ∧ HpIs [Ob.cells [PV.int IntKind.i64 a, PV.int IntKind.i64 b, PV.int IntKind.i64 c]] X ∧ br (((↑n_1 : Int) == 0) == false) (br ((ssum p_1 (↑n_1 : Int) n_1 == wI p_1) == true) (P41 (wI p_1) ∧ br ((shr (wI p_1) (↑n_1 : Int) (↑n_1 : Int) == 0) == true) (K (PV.bool true)) (K (PV.bool false))) (K (PV.bool false))) (P41 (wI p_1) ∧ br ((shr (wI p_1) (↑n_1 : Int) (↑n_1 : Int) == 0) == true) (K (PV.bool true)) (K (PV.bool false))))) (K (PV.bool false))) : ACalls Tryd.prog gl 9 [.agg [.int .i64 a, .int .i64 b, .int .i64 c], .int .u8 n, .int .i32 p] [] (fun x _ => K x) :=
  acalls_of_wpc2 (T := T8) (L := [([1, 1, 1, 1, 1, 1, 0, 1, 0], more1_l)]) (fun _ => 0) Tryd.func9 (by kernel_rfl) (by kernel_rfl) (by kernel_rfl) (T8_ok) (.cons (sub_of (by kernel_rfl)) more1_l_ok (.nil _ _ _ _ _)) (holds_of_eq (more_red a b c n p K) h)
theorem upd_right {a b : List Int} {r : Int} (h : (upd a b r).2.2 = 0) : (1 ≤ a.length ∧ a.length ≤ 4) ∧ (1 ≤ b.length ∧ b.length ≤ 4) ∧ okAll a = true ∧ okAll b = true ∧ (0 ≤ r ∧ r ≤ 2) ∧
    upd a b r = (shd a (stk (mean a) (mean b) (mnI a.length b.length) r), shd b (-(stk (mean a) (mean b) (mnI a.length b.length) r)), 0) := by
  have e := h
  unfold upd at e
  by_cases c : a.length < 1 ∨ b.length < 1 ∨ a.length > 4 ∨ b.length > 4
  · rw [if_pos c] at e; simp at e
  · rw [if_neg c] at e
    by_cases d : okAll a = false ∨ okAll b = false ∨ r < 0 ∨ r > 2
    · rw [if_pos d] at e; simp at e
    · refine ⟨by omega, by omega, ?_, ?_, by omega, ?_⟩
      · cases hq : okAll a
        · exact absurd (.inl hq) d
        · rfl
      · cases hq : okAll b
        · exact absurd (.inr (.inl hq)) d
        · rfl
      · unfold upd; rw [if_neg c, if_neg d]
theorem rt_shd (a : List Int) (p : Int) : Rt (shd a p) := by
  have : ∀ (l : List Int) (n k : Int), Rt (shdF n p k l) := by
    intro l
    induction l with
    | nil => intro n k r h; simp [shdF] at h
    | cons r l ih =>
      intro n k q h
      simp only [shdF, List.mem_cons] at h
      rcases h with rfl | h
      · exact within_range _
      · exact ih n _ q h
  exact this a _ _
theorem within_in {n : Int} (h : within n ≠ 0) (h2 : within n ≠ 10000) : within n = n := by
  unfold within mnI mxI at *; (repeat' split at h) <;> (repeat' split) <;> omega
theorem dsum_shd (p : Int) (n : Nat) : ∀ (l : List Int) (k : Nat), anyEnd (shdF n p k l) = false → dsum (shdF n p k l) l = ssum p n (k + l.length) - ssum p n k
  | [], k, _ => by simp [shdF, dsum]
  | r :: l, k, h => by
    simp only [shdF, anyEnd, List.any_cons, Bool.or_eq_false_iff, beq_eq_false_iff_ne] at h
    have h2 := dsum_shd p n l (k + 1) h.2
    have e := within_in h.1.1 h.1.2
    simp only [shdF, dsum, e]
    have e3 : ((k + 1 : Nat) : Int) = (k : Int) + 1 := by omega
    rw [e3] at h2
    rw [h2, List.length_cons, show k + (l.length + 1) = k + 1 + l.length by omega]
    simp only [ssum]; omega
theorem dsum_all {a : List Int} {p : Int} (h : 1 ≤ a.length) (he : anyEnd (shd a p) = false) : dsum (shd a p) a = p := by
  have := dsum_shd p a.length a 0 he
  unfold shd
  rw [show ((0 : Nat) : Int) = 0 from rfl] at this
  rw [this, Nat.zero_add, ssum_all (by omega)]; simp [ssum]
theorem zero_law (a b : List Int) (r : Int) : ACalls Tryd.prog gl 6 [.list (en1 .i64 a) .no, .list (en1 .i64 b) .no, .int .i64 r] [] (fun x _ => x = .bool true) := by
  refine zero_vc a b r (fun x => x = .bool true) ?_
  simp only [br_if, en1_length]
  by_cases c : (a.length : Int) > 10
  · rw [if_neg (by simp [c])]; trivial
  rw [if_pos (by simp; omega)]
  by_cases d : (b.length : Int) > 10
  · rw [if_neg (by simp [d])]; trivial
  rw [if_pos (by simp; omega)]
  have ha : LenOk a := by unfold LenOk; omega
  have hb : LenOk b := by unfold LenOk; omega
  refine ⟨a, b, rfl, rfl, ha, hb, NT.no, NT.no, ?_⟩
  by_cases z : (upd a b r).2.2 = 0
  · obtain ⟨⟨h1, h2⟩, ⟨h3, h4⟩, h5, h6, _, hu⟩ := upd_right z
    rw [if_neg (by simp [z])]
    refine ⟨a, b, rfl, rfl, ha, hb, NT.no, NT.no, ?_⟩
    rw [if_pos (by simp [z]), hu]
    simp only [shd_length, bne_self_eq_false, beq_self_eq_true, if_true, Bool.false_eq_true, if_false]
    generalize stk (mean a) (mean b) (mnI a.length b.length) r = n
    have hd := dsum_range (shd a n) a (rt_shd a n) (okAll_rt h5)
    rw [shd_length] at hd
    refine ⟨a, b, shd a n, shd b (-n), by unfold Ten; omega, shd_length _ _, okAll_rt h5, rt_shd _ _, rfl, rfl, b, shd b (-n), dsum (shd a n) a, anyEnd (shd a n), by unfold Ten; omega, shd_length _ _, okAll_rt h6, rt_shd _ _, ⟨by omega, by omega⟩, rfl, rfl, ?_⟩
    by_cases e : (anyEnd (shd a n) || anyEnd (shd b (-n))) = true
    · rw [e, if_neg (by decide)]; trivial
    · have e : (anyEnd (shd a n) || anyEnd (shd b (-n))) = false := by simpa using e
      rw [e, if_pos (by decide)]
      rw [Bool.or_eq_false_iff] at e
      rw [dsum_all h1 e.1, dsum_all h3 e.2, if_pos (by simp; omega)]; trivial
  · rw [if_pos (by simp [z])]; trivial
-- who wins
theorem shr_sign {p m : Int} (k : Nat) (hm : 1 ≤ m) : (0 ≤ p → 0 ≤ shr p m k) ∧ (p ≤ 0 → shr p m k ≤ 0) := by
  have key : ∀ q : Int, 0 ≤ q → 0 ≤ shr q m k := fun q hq => by
    have := shp_range (p := q) (m := m) (k := k) hq hm
    unfold shr; split
    · omega
    · rw [if_neg (by omega)]; omega
  refine ⟨key p, fun h => ?_⟩
  have := key (-p) (by omega)
  rw [shr_neg] at this; omega
theorem within_up {v d : Int} (h : 0 ≤ v ∧ v ≤ 10000) : (0 ≤ d → v ≤ within (v + d)) ∧ (d ≤ 0 → within (v + d) ≤ v) := by
  unfold within mnI mxI; (repeat' split) <;> omega
theorem shd_mono {a : List Int} {p : Int} (hr : Rt a) {i : Nat} (hi : i < a.length) : (0 ≤ p → a.getD i 0 ≤ (shd a p).getD i 0) ∧ (p ≤ 0 → (shd a p).getD i 0 ≤ a.getD i 0) := by
  have hg := hr.get i
  obtain ⟨h1, h2⟩ := shr_sign (p := p) (m := a.length) i (by omega)
  obtain ⟨h3, h4⟩ := within_up (v := a.getD i 0) (d := shr p a.length i) hg
  rw [shd_get hi]
  exact ⟨fun h => h3 (h1 h), fun h => h4 (h2 h)⟩
theorem q1000_sign (n : Int) : (0 ≤ n → 0 ≤ q1000 n) ∧ (n ≤ 0 → q1000 n ≤ 0) := by unfold q1000; split <;> omega
theorem expd_half (a b : Int) : (within a ≤ within b → expd a b ≤ 500) ∧ (within b ≤ within a → 500 ≤ expd a b) := by
  constructor
  · intro h
    unfold expd
    split
    · have := ex0_range (d := within b - within a) (by omega); omega
    · have e : within a = within b := by omega
      rw [e, Int.sub_self, ex0_zero]; omega
  · intro h
    unfold expd
    rw [if_neg (by omega)]
    exact (ex0_range (by omega)).1
theorem within_mono {a b : Int} (h : a ≤ b) : within a ≤ within b := by unfold within mnI mxI; (repeat' split) <;> omega
theorem stk_sign (x y m r : Int) (hr : 0 ≤ r ∧ r ≤ 2) : (r = 1 ∨ (r = 0 ∧ x ≤ y) → 0 ≤ stk x y m r) ∧ (r = 2 ∨ (r = 0 ∧ x ≥ y) → stk x y m r ≤ 0) := by
  have hx := expd_range x y
  obtain ⟨e1, e2⟩ := expd_half x y
  unfold stk
  rw [if_neg (by omega)]
  have hc := clm_cases m
  have mul : ∀ t : Int, (0 ≤ t → 0 ≤ 32 * clm m * t) ∧ (t ≤ 0 → 32 * clm m * t ≤ 0) := fun t => by
    rcases hc with h | h | h | h | h <;> rw [h] <;> omega
  refine ⟨fun h => (q1000_sign _).1 ((mul _).1 ?_), fun h => (q1000_sign _).2 ((mul _).2 ?_)⟩
  · rcases h with rfl | ⟨rfl, h⟩
    · show 0 ≤ (1000 : Int) - _; omega
    · have := e1 (within_mono h); show 0 ≤ (500 : Int) - _; omega
  · rcases h with rfl | ⟨rfl, h⟩
    · show (0 : Int) - _ ≤ 0; omega
    · have := e2 (within_mono h); show (500 : Int) - _ ≤ 0; omega
theorem wins_law (a b : List Int) (r : Int) : ACalls Tryd.prog gl 7 [.list (en1 .i64 a) .no, .list (en1 .i64 b) .no, .int .i64 r] [] (fun x _ => x = .bool true) := by
  refine wins_vc a b r (fun x => x = .bool true) ?_
  simp only [br_if, en1_length]
  by_cases c : (a.length : Int) > 10
  · rw [if_neg (by simp [c])]; trivial
  rw [if_pos (by simp; omega)]
  by_cases d : (b.length : Int) > 10
  · rw [if_neg (by simp [d])]; trivial
  rw [if_pos (by simp; omega)]
  have ha : LenOk a := by unfold LenOk; omega
  have hb : LenOk b := by unfold LenOk; omega
  refine ⟨a, b, rfl, rfl, ha, hb, NT.no, NT.no, ?_⟩
  by_cases z : (upd a b r).2.2 = 0
  · obtain ⟨⟨h1, h2⟩, ⟨h3, h4⟩, h5, h6, hr, hu⟩ := upd_right z
    rw [if_neg (by simp [z])]
    refine ⟨a, b, rfl, rfl, ha, hb, NT.no, NT.no, ?_⟩
    rw [if_pos (by simp [z]), hu]
    simp only [shd_length, bne_self_eq_false, beq_self_eq_true, if_true, Bool.false_eq_true, if_false]
    obtain ⟨s1, s2⟩ := stk_sign (mean a) (mean b) (mnI a.length b.length) r hr
    generalize stk (mean a) (mean b) (mnI a.length b.length) r = n at s1 s2 ⊢
    have ta : Ten a := by unfold Ten; omega
    have tb : Ten b := by unfold Ten; omega
    have key : ∀ up dn : Bool, (up = true → r = 1 ∨ (r = 0 ∧ mean a ≤ mean b)) → (dn = true → r = 2 ∨ (r = 0 ∧ mean a ≥ mean b)) →
        (∀ i, i < a.length → (up = true → a.getD i 0 ≤ (shd a n).getD i 0) ∧ (dn = true → (shd a n).getD i 0 ≤ a.getD i 0)) ∧ (∀ i, i < b.length → (up = true → (shd b (-n)).getD i 0 ≤ b.getD i 0) ∧ (dn = true → b.getD i 0 ≤ (shd b (-n)).getD i 0)) := by
      intro up dn hu hd
      refine ⟨fun i hi => ⟨fun h => (shd_mono (okAll_rt h5) hi).1 (s1 (hu h)), fun h => (shd_mono (okAll_rt h5) hi).2 (s2 (hd h))⟩, fun i hi => ⟨fun h => (shd_mono (okAll_rt h6) hi).2 ?_, fun h => (shd_mono (okAll_rt h6) hi).1 ?_⟩⟩
      · have := s1 (hu h); omega
      · have := s2 (hd h); omega
    by_cases r1 : r = 1
    · subst r1
      simp only [show ((1 : Int) == 1) = true from rfl, show ((1 : Int) == 2) = false from rfl, show ((1 : Int) == 0) = false from rfl, beq_self_eq_true, Bool.false_eq_true, show (true == false) = false from rfl, show (false == true) = false from rfl, if_true, if_false]
      obtain ⟨k1, k2⟩ := key true false (fun _ => .inl rfl) (fun h => by cases h)
      exact ⟨a, b, _, _, _, _, ta, shd_length _ _, k1, rfl, rfl, b, _, _, _, tb, shd_length _ _, k2, rfl, rfl, trivial⟩
    · by_cases r2 : r = 2
      · subst r2
        simp only [show ((2 : Int) == 1) = false from rfl, show ((2 : Int) == 2) = true from rfl, show ((2 : Int) == 0) = false from rfl, beq_self_eq_true, Bool.false_eq_true, show (true == false) = false from rfl, show (false == true) = false from rfl, if_true, if_false]
        obtain ⟨k1, k2⟩ := key false true (fun h => by cases h) (fun _ => .inl rfl)
        exact ⟨a, b, _, _, _, _, ta, shd_length _ _, k1, rfl, rfl, b, _, _, _, tb, shd_length _ _, k2, rfl, rfl, trivial⟩
      · have r0 : r = 0 := by omega
        subst r0
        simp only [show ((0 : Int) == 1) = false from rfl, show ((0 : Int) == 2) = false from rfl, show ((0 : Int) == 0) = true from rfl, beq_self_eq_true, if_true]
        obtain ⟨k1, k2⟩ := key (decide (mean a ≤ mean b)) (decide (mean a ≥ mean b)) (fun h => .inr ⟨rfl, by simpa using h⟩) (fun h => .inr ⟨rfl, by simpa using h⟩)
        exact ⟨a, rfl, ha, NT.no, b, rfl, hb, NT.no, a, rfl, ha, NT.no, b, rfl, hb, NT.no, a, b, _, _, _, _, ta, shd_length _ _, k1, rfl, rfl, b, _, _, _, tb, shd_length _ _, k2, rfl, rfl, trivial⟩
  · rw [if_pos (by simp [z])]; trivial
-- the less is expected the more is won
theorem exps_mono : ∀ (i : Nat), i < 17 → ∀ j, j ≤ i → exps.getD j 0 ≤ exps.getD i 0 := by decide
theorem ex0_mono {c d : Int} (h0 : 0 ≤ c) (h : c ≤ d) : ex0 c ≤ ex0 d := by
  unfold ex0
  have h1 : 0 ≤ mnI (c / 50) 16 ∧ mnI (c / 50) 16 ≤ mnI (d / 50) 16 ∧ mnI (d / 50) 16 ≤ 16 := by
    have : c / 50 ≤ d / 50 := Int.ediv_le_ediv (by decide) h
    unfold mnI; (repeat' split) <;> omega
  exact exps_mono _ (by omega) _ (by omega)
theorem expd_mono {x y b : Int} (h : y ≤ x) : expd y b ≤ expd x b := by
  have h := within_mono h
  unfold expd
  split
  · rename_i h1
    split
    · rename_i h2
      have := ex0_mono (c := within b - within x) (d := within b - within y) (by omega) (by omega); omega
    · have h3 := ex0_range (d := within b - within y) (by omega)
      have h4 := ex0_range (d := within x - within b) (by omega); omega
  · rw [if_neg (by omega)]
    exact ex0_mono (by omega) (by omega)
theorem q1000_mono {m n : Int} (h : m ≤ n) : q1000 m ≤ q1000 n := by unfold q1000; (repeat' split) <;> omega
theorem more_law (a b c n p : Int) (hn : 0 ≤ n ∧ n ≤ 255) (hp : -2147483648 ≤ p ∧ p ≤ 2147483647) : ACalls Tryd.prog gl 9 [.agg [.int .i64 a, .int .i64 b, .int .i64 c], .int .u8 n, .int .i32 p] [] (fun x _ => x = .bool true) := by
  refine more_vc a b c n p (fun x => x = .bool true) ?_
  simp only [br_if]
  have e0 : Int.tmod n 9 = n % 9 := Int.tmod_eq_emod_of_nonneg hn.1
  have e1 : wI (Int.tmod n 9) = ((Int.toNat (n % 9) : Nat) : Int) := by rw [e0, w_small (by omega) (by omega)]; omega
  rw [e1]
  have hm : Int.toNat (n % 9) ≤ 8 := by omega
  generalize Int.toNat (n % 9) = m at hm ⊢
  have hmono : stk (mxI a c) b m 1 ≤ stk (mnI a c) b m 1 := by
    unfold stk
    rw [if_neg (by omega), if_neg (by omega)]
    refine q1000_mono ?_
    have := expd_mono (x := mxI a c) (y := mnI a c) (b := b) (by unfold mxI mnI; (repeat' split) <;> omega)
    rcases clm_cases m with h | h | h | h | h <;> rw [h] <;> omega
  rw [if_pos (by simp; omega)]
  have ht := stk_turn a b m 1
  have e2 : turn 1 = 2 := rfl
  rw [e2] at ht
  rw [ht, show stk a b m 1 + -stk a b m 1 = 0 by omega, if_neg (by decide)]
  have ew : wI p = p := w_small (by omega) (by omega)
  have hp41 : P41 p := ⟨by omega, by omega⟩
  refine ⟨_, p, m, hp, by omega, rfl, rfl, ?_⟩
  rw [ew]
  have e3 : shr p m m = 0 := by unfold shr; rw [if_pos (by omega)]
  simp only [e3, hp41, true_and, beq_self_eq_true, if_true]
  by_cases hz : m = 0
  · subst hz; rw [if_neg (by simp)]; trivial
  · rw [if_pos (by simp; omega), ssum_all (by omega), if_pos (by simp)]; trivial
-- the laws at whatever arguments read
theorem u3 : Tryd.prog.underlying 3 = some (.int .i64) := by kernel_rfl
theorem u5 : Tryd.prog.underlying 5 = some (.int .u8) := by kernel_rfl
theorem u21 : Tryd.prog.underlying 21 = some (.int .i32) := by kernel_rfl
theorem u22 : Tryd.prog.underlying 22 = some (.array 2 3) := by kernel_rfl
theorem u23 : Tryd.prog.underlying 23 = some (.slice 3) := by kernel_rfl
theorem u39 : Tryd.prog.underlying 39 = some (.array 3 3) := by kernel_rfl
theorem two_of {k : Nat} {x : PV} (h : WTa Tryd.prog (k + 2) 22 x) : ∃ a b, x = .agg [.int .i64 a, .int .i64 b] := by
  obtain ⟨cs, rfl, g⟩ := wta_array u22 h
  have g : WFs (WTp Tryd.prog (k + 1)) [3, 3] cs := g
  obtain ⟨a, r, rfl, h1, b, r2, rfl, h2, h3⟩ := g
  obtain ⟨a, rfl, _⟩ := wtp_int u3 h1
  obtain ⟨b, rfl, _⟩ := wtp_int u3 h2
  obtain rfl := wfs_nil h3
  exact ⟨a, b, rfl⟩
theorem three_of {k : Nat} {x : PV} (h : WTa Tryd.prog (k + 2) 39 x) : ∃ a b c, x = .agg [.int .i64 a, .int .i64 b, .int .i64 c] := by
  obtain ⟨cs, rfl, g⟩ := wta_array u39 h
  have g : WFs (WTp Tryd.prog (k + 1)) [3, 3, 3] cs := g
  obtain ⟨a, r, rfl, h1, b, r2, rfl, h2, c, r3, rfl, h3, h4⟩ := g
  obtain ⟨a, rfl, _⟩ := wtp_int u3 h1
  obtain ⟨b, rfl, _⟩ := wtp_int u3 h2
  obtain ⟨c, rfl, _⟩ := wtp_int u3 h3
  obtain rfl := wfs_nil h4
  exact ⟨a, b, c, rfl⟩
theorem expects_args (xs : List PV) (h : WTargs Tryd.prog 6 Tryd.f3.params.toList xs) : ACalls Tryd.prog gl 3 xs [] (fun x _ => x = .bool true) := by
  rw [Tryd.params3] at h
  obtain ⟨x, r, rfl, h1, y, r2, rfl, h2, z, r3, rfl, h3, h4⟩ := h
  obtain rfl := wtargs_nil h4
  obtain ⟨a, b, rfl⟩ := two_of h1
  obtain ⟨m, n, rfl⟩ := two_of h2
  obtain ⟨l, rfl, _⟩ := wta_ints u23 u3 h3
  exact expects_law a b m n l
theorem shares_args (xs : List PV) (h : WTargs Tryd.prog 6 Tryd.f4.params.toList xs) : ACalls Tryd.prog gl 4 xs [] (fun x _ => x = .bool true) := by
  rw [Tryd.params4] at h
  obtain ⟨x, r, rfl, h1, y, r2, rfl, h2, z, r3, rfl, h3, h4⟩ := h
  obtain rfl := wtargs_nil h4
  obtain ⟨a, rfl, _⟩ := wta_int u3 h1
  obtain ⟨b, rfl, _⟩ := wta_int u3 h2
  obtain ⟨c, rfl, _⟩ := wta_int u3 h3
  exact shares_law a b c
theorem teams_of {xs : List PV} (h : WTargs Tryd.prog 6 [23, 23, 3] xs) : ∃ a b r, xs = [.list (en1 .i64 a) .no, .list (en1 .i64 b) .no, .int .i64 r] := by
  obtain ⟨x, r, rfl, h1, y, r2, rfl, h2, z, r3, rfl, h3, h4⟩ := h
  obtain rfl := wtargs_nil h4
  obtain ⟨a, rfl, _⟩ := wta_ints u23 u3 h1
  obtain ⟨b, rfl, _⟩ := wta_ints u23 u3 h2
  obtain ⟨c, rfl, _⟩ := wta_int u3 h3
  exact ⟨a, b, c, rfl⟩
theorem updates_args (xs : List PV) (h : WTargs Tryd.prog 6 Tryd.f5.params.toList xs) : ACalls Tryd.prog gl 5 xs [] (fun x _ => x = .bool true) := by
  rw [Tryd.params5] at h
  obtain ⟨a, b, r, rfl⟩ := teams_of h
  exact updates_law a b r
theorem zero_args (xs : List PV) (h : WTargs Tryd.prog 6 Tryd.f6.params.toList xs) : ACalls Tryd.prog gl 6 xs [] (fun x _ => x = .bool true) := by
  rw [Tryd.params6] at h
  obtain ⟨a, b, r, rfl⟩ := teams_of h
  exact zero_law a b r
theorem wins_args (xs : List PV) (h : WTargs Tryd.prog 6 Tryd.f7.params.toList xs) : ACalls Tryd.prog gl 7 xs [] (fun x _ => x = .bool true) := by
  rw [Tryd.params7] at h
  obtain ⟨a, b, r, rfl⟩ := teams_of h
  exact wins_law a b r
theorem turned_args (xs : List PV) (h : WTargs Tryd.prog 6 Tryd.f8.params.toList xs) : ACalls Tryd.prog gl 8 xs [] (fun x _ => x = .bool true) := by
  rw [Tryd.params8] at h
  obtain ⟨a, b, r, rfl⟩ := teams_of h
  exact turned_law a b r
theorem more_args (xs : List PV) (h : WTargs Tryd.prog 6 Tryd.f9.params.toList xs) : ACalls Tryd.prog gl 9 xs [] (fun x _ => x = .bool true) := by
  rw [Tryd.params9] at h
  obtain ⟨x, r, rfl, h1, y, r2, rfl, h2, z, r3, rfl, h3, h4⟩ := h
  obtain rfl := wtargs_nil h4
  obtain ⟨a, b, c, rfl⟩ := three_of h1
  obtain ⟨n, rfl, hn⟩ := wta_int u5 h2
  obtain ⟨p, rfl, hp⟩ := wta_int u21 h3
  exact more_law a b c n p hn hp
end Go.Proofs.YtpabioibhkdkpaaDoor
