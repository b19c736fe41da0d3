/-
  Marks, the plain table by ids, and what all of its instances call.
-/
import Derived.Test.YtcmknbanojcbaaaDoorA8
import Derived.Test.YtcmknbanojcbaaaDoorProg
namespace Go.Proofs.YtcmknbanojcbaaaDoor
open Go Go.AM Go.Proofs
def gl : Glob := fun k => match k with
  | 0 => some [.int .i64 60, .int .i64 300, .int .i64 900, .int .i64 3600, .int .i64 14400, .int .i64 86400]
  | _ => none
theorem gl_low : GlobLow gl := by
  intro k cs hk x hx
  unfold gl at hk
  split at hk
  · cases hk; simp at hx; rcases hx with rfl | rfl | rfl | rfl | rfl | rfl <;> exact .int _ _
  · cases hk

structure Mk where
  l : Int
  s : Int
  u : Int
def Mk.pv (m : Mk) : PV := .agg [.int .i64 m.l, .int .i64 m.s, .int .i64 m.u]
theorem Mk.low (m : Mk) (n : Nat) : Low n m.pv := .agg _ (by simp [low_int])

abbrev wU (n : Int) : Int := IntKind.wrap .u64 n
abbrev wI (n : Int) : Int := IntKind.wrap .i64 n

-- past
def past (a b : Int) : Int := if b ≤ a then 0 else wU (wU b - wU a)
def past_s (args : List PV) (K : PV → Prop) : Prop := match args with
  | [.int .i64 a, .int .i64 b] => K (.int .u64 (past a b))
  | _ => False
theorem past_red (a b : Int) (K : PV → Prop) : (br (decide (b ≤ a)) (K (PV.int IntKind.u64 0)) (K (PV.int IntKind.u64 (IntKind.wrap IntKind.u64 (IntKind.wrap IntKind.u64 b - IntKind.wrap IntKind.u64 a))))) = wpc br Tryd.prog gl [] [] (fun _ => 0) (bodyOf Tryd.f36) [] (env0 [.int .i64 a, .int .i64 b]) [] (resQ Tryd.prog Tryd.f36.results.toList (fun x _ => K x)) := by kernel_rfl
theorem past_vc (a b : Int)  (K : PV → Prop) (h : br (decide (b ≤ a)) (K (PV.int IntKind.u64 0)) (K (PV.int IntKind.u64 (IntKind.wrap IntKind.u64 (IntKind.wrap IntKind.u64 b - IntKind.wrap IntKind.u64 a))))) : ACalls Tryd.prog gl 36 [.int .i64 a, .int .i64 b] [] (fun x _ => K x) :=
  acalls_of_wpc2 (T := []) (L := []) (fun _ => 0) Tryd.func36 (by kernel_rfl) (by kernel_rfl) (by kernel_rfl) (TabOk.nil _ _) (LOk.nil _ _ _ _ _) (holds_of_eq (past_red a b K) h)
theorem past_ok : SpOk Tryd.prog gl 36 (.pure past_s) := by
  intro args K h
  unfold past_s at h
  split at h
  · rename_i a b
    refine spure gl_low (by simp [low_int]) (.int _ _) (past_vc a b _ ?_) h
    simp only [br_if, decide_eq_true_eq, past]
    split <;> rfl
  · exact h.elim

-- level
def level (n : Int) : Int := if n < 0 then 0 else if n > 6 then 6 else n
def level_s (args : List PV) (K : PV → Prop) : Prop := match args with
  | [.int .i64 a] => K (.int .i64 (level a))
  | _ => False
theorem level_red (a : Int) (K : PV → Prop) : (br (decide (a < 0)) (K (PV.int IntKind.i64 0)) (br (decide (a > 6)) (K (PV.int IntKind.i64 6)) (K (PV.int IntKind.i64 a)))) = wpc br Tryd.prog gl [] [] (fun _ => 0) (bodyOf Tryd.f29) [] (env0 [.int .i64 a]) [] (resQ Tryd.prog Tryd.f29.results.toList (fun x _ => K x)) := by kernel_rfl
theorem level_vc (a : Int)  (K : PV → Prop) (h : br (decide (a < 0)) (K (PV.int IntKind.i64 0)) (br (decide (a > 6)) (K (PV.int IntKind.i64 6)) (K (PV.int IntKind.i64 a)))) : ACalls Tryd.prog gl 29 [.int .i64 a] [] (fun x _ => K x) :=
  acalls_of_wpc2 (T := []) (L := []) (fun _ => 0) Tryd.func29 (by kernel_rfl) (by kernel_rfl) (by kernel_rfl) (TabOk.nil _ _) (LOk.nil _ _ _ _ _) (holds_of_eq (level_red a K) h)
theorem level_ok : SpOk Tryd.prog gl 29 (.pure level_s) := by
  intro args K h
  unfold level_s at h
  split at h
  · rename_i a
    refine spure gl_low (by simp [low_int]) (.int _ _) (level_vc a _ ?_) h
    simp only [br_if, decide_eq_true_eq, level]
    (repeat' split) <;> rfl
  · exact h.elim

-- the two Adds
def radd (a b : Int) : Int := if b ≤ 0 then a else if a > 0 ∧ b > wI (9223372036854775807 - a) then 9223372036854775807 else wI (a + b)
def radd_s (args : List PV) (K : PV → Prop) : Prop := match args with
  | [.int .i64 a, .int .i64 b] => K (.int .i64 (radd a b))
  | _ => False
def tadd (a b : Int) : Int := if a > wI (9223372036854775807 - mxI 0 b) then 9223372036854775807 else wI (a + mxI 0 b)
def tadd_s (args : List PV) (K : PV → Prop) : Prop := match args with
  | [.int .i64 a, .int .i64 b] => K (.int .i64 (tadd a b))
  | _ => False
theorem radd_red (a b : Int) (K : PV → Prop) : (br (decide (b ≤ 0)) (K (PV.int IntKind.i64 a)) (br (decide (a > 0) == true) (br (decide (b > wI (9223372036854775807 - a))) (K (PV.int IntKind.i64 9223372036854775807)) (K (PV.int IntKind.i64 (wI (a + b))))) (K (PV.int IntKind.i64 (wI (a + b)))))) = wpc br Tryd.prog gl [] [] (fun _ => 0) (bodyOf Tryd.f30) [] (env0 [.int .i64 a, .int .i64 b]) [] (resQ Tryd.prog Tryd.f30.results.toList (fun x _ => K x)) := by kernel_rfl
theorem radd_vc (a b : Int)  (K : PV → Prop) (h : br (decide (b ≤ 0)) (K (PV.int IntKind.i64 a)) (br (decide (a > 0) == true) (br (decide (b > wI (9223372036854775807 - a))) (K (PV.int IntKind.i64 9223372036854775807)) (K (PV.int IntKind.i64 (wI (a + b))))) (K (PV.int IntKind.i64 (wI (a + b)))))) : ACalls Tryd.prog gl 30 [.int .i64 a, .int .i64 b] [] (fun x _ => K x) :=
  acalls_of_wpc2 (T := []) (L := []) (fun _ => 0) Tryd.func30 (by kernel_rfl) (by kernel_rfl) (by kernel_rfl) (TabOk.nil _ _) (LOk.nil _ _ _ _ _) (holds_of_eq (radd_red a b K) h)
theorem tadd_red (a b : Int) (K : PV → Prop) : (br (decide (a > wI (9223372036854775807 - mxI 0 b))) (K (PV.int IntKind.i64 9223372036854775807)) (K (PV.int IntKind.i64 (wI (a + mxI 0 b))))) = wpc br Tryd.prog gl [] [] (fun _ => 0) (bodyOf Tryd.f32) [] (env0 [.int .i64 a, .int .i64 b]) [] (resQ Tryd.prog Tryd.f32.results.toList (fun x _ => K x)) := by kernel_rfl
theorem tadd_vc (a b : Int)  (K : PV → Prop) (h : br (decide (a > wI (9223372036854775807 - mxI 0 b))) (K (PV.int IntKind.i64 9223372036854775807)) (K (PV.int IntKind.i64 (wI (a + mxI 0 b))))) : ACalls Tryd.prog gl 32 [.int .i64 a, .int .i64 b] [] (fun x _ => K x) :=
  acalls_of_wpc2 (T := []) (L := []) (fun _ => 0) Tryd.func32 (by kernel_rfl) (by kernel_rfl) (by kernel_rfl) (TabOk.nil _ _) (LOk.nil _ _ _ _ _) (holds_of_eq (tadd_red a b K) h)
theorem radd_ok : SpOk Tryd.prog gl 30 (.pure radd_s) := by
  intro args K h
  unfold radd_s at h
  split at h
  · rename_i a b
    refine spure gl_low (by simp [low_int]) (.int _ _) (radd_vc a b _ ?_) h
    simp only [br_if, decide_eq_true_eq, beq_true, radd]
    (repeat' split) <;> first | rfl | (exfalso; simp_all; done)
  · exact h.elim
theorem tadd_ok : SpOk Tryd.prog gl 32 (.pure tadd_s) := by
  intro args K h
  unfold tadd_s at h
  split at h
  · rename_i a b
    refine spure gl_low (by simp [low_int]) (.int _ _) (tadd_vc a b _ ?_) h
    simp only [br_if, decide_eq_true_eq, tadd]
    (repeat' split) <;> rfl
  · exact h.elim

def T1 : Tab := [(36, .pure past_s), (29, .pure level_s), (30, .pure radd_s), (32, .pure tadd_s)]
theorem T1_ok : TabOk Tryd.prog gl T1 := .cons past_ok (.cons level_ok (.cons radd_ok (.cons tadd_ok (.nil _ _))))

-- own
def own_s (args : List PV) (K : PV → Prop) : Prop := match args with
  | [.agg [.int .i64 l, .int .i64 s, .int .i64 u]] => K (Mk.pv ⟨l, s, u⟩)
  | _ => False
theorem own_red (m : Mk) (K : PV → Prop) : (K (PV.agg [PV.int IntKind.i64 (Mk.l m), PV.int IntKind.i64 (Mk.s m), PV.int IntKind.i64 (Mk.u m)])) = wpc br Tryd.prog gl [] [] (fun _ => 0) (bodyOf Tryd.f14) [] (env0 [m.pv]) [] (resQ Tryd.prog Tryd.f14.results.toList (fun x _ => K x)) := by kernel_rfl
theorem own_vc (m : Mk)  (K : PV → Prop) (h : K (PV.agg [PV.int IntKind.i64 (Mk.l m), PV.int IntKind.i64 (Mk.s m), PV.int IntKind.i64 (Mk.u m)])) : ACalls Tryd.prog gl 14 [m.pv] [] (fun x _ => K x) :=
  acalls_of_wpc2 (T := []) (L := []) (fun _ => 0) Tryd.func14 (by kernel_rfl) (by kernel_rfl) (by kernel_rfl) (TabOk.nil _ _) (LOk.nil _ _ _ _ _) (holds_of_eq (own_red m K) h)
theorem own_ok : SpOk Tryd.prog gl 14 (.pure own_s) := by
  intro args K h
  unfold own_s at h
  split at h
  · rename_i l s u
    exact spure gl_low (by simp [low_int, low_agg]) (Mk.low _ _) (own_vc ⟨l, s, u⟩ _ rfl) h
  · exact h.elim

-- At
def steps (m : Mk) (now : Int) : Int := wU ((past m.s now).tdiv 10000)
def lv (n : Int) : Int := mnI (mxI n 0) 6
def at_ (m : Mk) (now : Int) : Mk :=
  if steps m now ≥ wU (lv m.l) then ⟨0, 0, if m.u ≤ now then 0 else m.u⟩
  else ⟨wI (lv m.l - wI (steps m now)), wI (m.s + wI (wI (steps m now) * 10000)), m.u⟩
def at_s (args : List PV) (K : PV → Prop) : Prop := match args with
  | [.agg [.int .i64 l, .int .i64 s, .int .i64 u], .int .i64 now] => K (Mk.pv (at_ ⟨l, s, u⟩ now))
  | _ => False
theorem at_red (m : Mk) (now : Int) (K : PV → Prop) : (br (decide (IntKind.wrap IntKind.u64 (Int.tdiv (past (Mk.s m) now) 10000) ≥ IntKind.wrap IntKind.u64 (mnI (mxI (Mk.l m) 0) 6))) (br (decide (Mk.u m ≤ now)) (K (PV.agg [PV.int IntKind.i64 0, PV.int IntKind.i64 0, PV.int IntKind.i64 0])) (K (PV.agg [PV.int IntKind.i64 0, PV.int IntKind.i64 0, PV.int IntKind.i64 (Mk.u m)]))) (K (PV.agg [PV.int IntKind.i64 (wI (mnI (mxI (Mk.l m) 0) 6 - wI (IntKind.wrap IntKind.u64 (Int.tdiv (past (Mk.s m) now) 10000)))), PV.int IntKind.i64 (wI (Mk.s m + wI (wI (IntKind.wrap IntKind.u64 (Int.tdiv (past (Mk.s m) now) 10000)) * 10000))), PV.int IntKind.i64 (Mk.u m)]))) = wpc br Tryd.prog gl T1 [] (fun _ => 0) (bodyOf Tryd.f23) [] (env0 [m.pv, .int .i64 now]) [] (resQ Tryd.prog Tryd.f23.results.toList (fun x _ => K x)) := by kernel_rfl
theorem at_vc (m : Mk) (now : Int)  (K : PV → Prop) (h : br (decide (IntKind.wrap IntKind.u64 (Int.tdiv (past (Mk.s m) now) 10000) ≥ IntKind.wrap IntKind.u64 (mnI (mxI (Mk.l m) 0) 6))) (br (decide (Mk.u m ≤ now)) (K (PV.agg [PV.int IntKind.i64 0, PV.int IntKind.i64 0, PV.int IntKind.i64 0])) (K (PV.agg [PV.int IntKind.i64 0, PV.int IntKind.i64 0, PV.int IntKind.i64 (Mk.u m)]))) (K (PV.agg [PV.int IntKind.i64 (wI (mnI (mxI (Mk.l m) 0) 6 - wI (IntKind.wrap IntKind.u64 (Int.tdiv (past (Mk.s m) now) 10000)))), PV.int IntKind.i64 (wI (Mk.s m + wI (wI (IntKind.wrap IntKind.u64 (Int.tdiv (past (Mk.s m) now) 10000)) * 10000))), PV.int IntKind.i64 (Mk.u m)]))) : ACalls Tryd.prog gl 23 [m.pv, .int .i64 now] [] (fun x _ => K x) :=
  acalls_of_wpc2 (T := T1) (L := []) (fun _ => 0) Tryd.func23 (by kernel_rfl) (by kernel_rfl) (by kernel_rfl) (T1_ok) (LOk.nil _ _ _ _ _) (holds_of_eq (at_red m now K) h)
theorem at_ok : SpOk Tryd.prog gl 23 (.pure at_s) := by
  intro args K h
  unfold at_s at h
  split at h
  · rename_i l s u now
    refine spure gl_low (by simp [low_int, low_agg]) (Mk.low _ _) (at_vc ⟨l, s, u⟩ now _ ?_) h
    simp only [br_if, decide_eq_true_eq, at_, steps, lv]
    (repeat' split) <;> rfl
  · exact h.elim

-- Left
def left (m : Mk) (now : Int) : Int := wI (mnI (past now m.u) 9223372036854775807)
def left_s (args : List PV) (K : PV → Prop) : Prop := match args with
  | [.agg [.int .i64 l, .int .i64 s, .int .i64 u], .int .i64 now] => K (.int .i64 (left ⟨l, s, u⟩ now))
  | _ => False
def rleft (m : Mk) (now : Int) : Int := if m.u ≤ now then 0 else if now < 0 ∧ m.u > wI (9223372036854775807 + now) then 9223372036854775807 else wI (m.u - now)
def rleft_s (args : List PV) (K : PV → Prop) : Prop := match args with
  | [.agg [.int .i64 l, .int .i64 s, .int .i64 u], .int .i64 now] => K (.int .i64 (rleft ⟨l, s, u⟩ now))
  | _ => False
-- the reference's At
def more (l s now : Int) : Prop := l > 0 ∧ s < now ∧ radd s 10000 ≤ now ∧ wI (radd s 10000 - 10000) = s
instance (l s now : Int) : Decidable (more l s now) := by unfold more; infer_instance
def down : Nat → Int → Int → Int → Int × Int
  | 0, l, s, _ => (l, s)
  | n + 1, l, s, now => if more l s now then down n (wI (l - 1)) (wI (s + 10000)) now else (l, s)
def down_l : LSp := fun e H Q => ∃ l s u now : Int, (0 ≤ l ∧ l ≤ 6) ∧ List.map e [1, 2, 4] = [.int .i64 now, .ptr 0 0, .ptr 1 0] ∧ H = [.cells [.int .i64 l, .int .i64 s, .int .i64 u], .cells [.int .i64 0, .int .i64 0, .int .i64 0]] ∧
  Q (.exit 0) (envS [1, 2, 4] [.int .i64 now, .ptr 0 0, .ptr 1 0]) [.cells [.int .i64 (down 6 l s now).1, .int .i64 (down 6 l s now).2, .int .i64 u], .cells [.int .i64 0, .int .i64 0, .int .i64 0]]
theorem down_red (l s u now : Int) (R : Ex → List PV → Heap → Prop) : (br (decide (l > 0) == true) (br (decide (s < now) == true) (br (decide (radd s 10000 ≤ now) == true) (br (wI (radd s 10000 - 10000) == s) (R Ex.normal [PV.int IntKind.i64 now, PV.ptr 0 0, PV.ptr 1 0] [Ob.cells [PV.int IntKind.i64 (wI (l - 1)), PV.int IntKind.i64 (wI (s + 10000)), PV.int IntKind.i64 u], Ob.cells [PV.int IntKind.i64 0, PV.int IntKind.i64 0, PV.int IntKind.i64 0]]) (R (Ex.exit 0) [PV.int IntKind.i64 now, PV.ptr 0 0, PV.ptr 1 0] [Ob.cells [PV.int IntKind.i64 l, PV.int IntKind.i64 s, PV.int IntKind.i64 u], Ob.cells [PV.int IntKind.i64 0, PV.int IntKind.i64 0, PV.int IntKind.i64 0]])) (R (Ex.exit 0) [PV.int IntKind.i64 now, PV.ptr 0 0, PV.ptr 1 0] [Ob.cells [PV.int IntKind.i64 l, PV.int IntKind.i64 s, PV.int IntKind.i64 u], Ob.cells [PV.int IntKind.i64 0, PV.int IntKind.i64 0, PV.int IntKind.i64 0]])) (R (Ex.exit 0) [PV.int IntKind.i64 now, PV.ptr 0 0, PV.ptr 1 0] [Ob.cells [PV.int IntKind.i64 l, PV.int IntKind.i64 s, PV.int IntKind.i64 u], Ob.cells [PV.int IntKind.i64 0, PV.int IntKind.i64 0, PV.int IntKind.i64 0]])) (R (Ex.exit 0) [PV.int IntKind.i64 now, PV.ptr 0 0, PV.ptr 1 0] [Ob.cells [PV.int IntKind.i64 l, PV.int IntKind.i64 s, PV.int IntKind.i64 u], Ob.cells [PV.int IntKind.i64 0, PV.int IntKind.i64 0, PV.int IntKind.i64 0]])) = wpc br Tryd.prog gl T1 [] (fun _ => 0) (subOf [1, 1, 0, 0] (bodyOf Tryd.f17)) [] (envS [1, 2, 4] [.int .i64 now, .ptr 0 0, .ptr 1 0]) [.cells [.int .i64 l, .int .i64 s, .int .i64 u], .cells [.int .i64 0, .int .i64 0, .int .i64 0]] (fun ex e H => R ex (List.map e [1, 2, 4]) H) := by kernel_rfl
theorem down_vc (l s u now : Int) (R : Ex → List PV → Heap → Prop) (h : br (decide (l > 0) == true) (br (decide (s < now) == true) (br (decide (radd s 10000 ≤ now) == true) (br (wI (radd s 10000 - 10000) == s) (R Ex.normal [PV.int IntKind.i64 now, PV.ptr 0 0, PV.ptr 1 0] [Ob.cells [PV.int IntKind.i64 (wI (l - 1)), PV.int IntKind.i64 (wI (s + 10000)), PV.int IntKind.i64 u], Ob.cells [PV.int IntKind.i64 0, PV.int IntKind.i64 0, PV.int IntKind.i64 0]]) (R (Ex.exit 0) [PV.int IntKind.i64 now, PV.ptr 0 0, PV.ptr 1 0] [Ob.cells [PV.int IntKind.i64 l, PV.int IntKind.i64 s, PV.int IntKind.i64 u], Ob.cells [PV.int IntKind.i64 0, PV.int IntKind.i64 0, PV.int IntKind.i64 0]])) (R (Ex.exit 0) [PV.int IntKind.i64 now, PV.ptr 0 0, PV.ptr 1 0] [Ob.cells [PV.int IntKind.i64 l, PV.int IntKind.i64 s, PV.int IntKind.i64 u], Ob.cells [PV.int IntKind.i64 0, PV.int IntKind.i64 0, PV.int IntKind.i64 0]])) (R (Ex.exit 0) [PV.int IntKind.i64 now, PV.ptr 0 0, PV.ptr 1 0] [Ob.cells [PV.int IntKind.i64 l, PV.int IntKind.i64 s, PV.int IntKind.i64 u], Ob.cells [PV.int IntKind.i64 0, PV.int IntKind.i64 0, PV.int IntKind.i64 0]])) (R (Ex.exit 0) [PV.int IntKind.i64 now, PV.ptr 0 0, PV.ptr 1 0] [Ob.cells [PV.int IntKind.i64 l, PV.int IntKind.i64 s, PV.int IntKind.i64 u], Ob.cells [PV.int IntKind.i64 0, PV.int IntKind.i64 0, PV.int IntKind.i64 0]])) : Holds (wpc br Tryd.prog gl T1 [] (fun _ => 0) (subOf [1, 1, 0, 0] (bodyOf Tryd.f17)) [] (envS [1, 2, 4] [.int .i64 now, .ptr 0 0, .ptr 1 0]) [.cells [.int .i64 l, .int .i64 s, .int .i64 u], .cells [.int .i64 0, .int .i64 0, .int .i64 0]] (fun ex e H => R ex (List.map e [1, 2, 4]) H)) := holds_of_eq (down_red l s u now R) h
theorem down_step (n : Nat) (l s now : Int) (h : l ≤ n) : down n l s now = if more l s now then down (n - 1) (wI (l - 1)) (wI (s + 10000)) now else (l, s) := by
  cases n with
  | zero =>
    rw [if_neg (by unfold more; simp at h; omega)]; rfl
  | succ n => rfl
theorem down_ok : ∀ e H Q, down_l e H Q → AW Tryd.prog gl Tryd.f17.ntmps (.loop (subOf [1, 1, 0, 0] (bodyOf Tryd.f17))) Q e H := by
  rintro e H Q ⟨l, s, u, now, hl, he, hH, hQ⟩
  refine aw_loop4 (hn := fun _ => 0) gl_low T1_ok (.nil _ _ _ _ _) (σ := Nat × Int × Int) [1, 2, 4] (fun p => (0 ≤ p.2.1 ∧ p.2.1 ≤ p.1 ∧ p.1 ≤ 6) ∧ down p.1 p.2.1 p.2.2 now = down 6 l s now) (fun _ => [.int .i64 now, .ptr 0 0, .ptr 1 0])
    (fun p => [.cells [.int .i64 p.2.1, .int .i64 p.2.2, .int .i64 u], .cells [.int .i64 0, .int .i64 0, .int .i64 0]]) (fun p => p.1) (6, l, s) ⟨⟨hl.1, hl.2, by simp⟩, rfl⟩ he hH ?_
  rintro ⟨k, l1, s1⟩ ⟨⟨h1, h2, h3⟩, h4⟩
  simp only at h1 h2 h3 h4
  refine down_vc l1 s1 u now _ ?_
  have fin : ¬ more l1 s1 now → loopR Q [1, 2, 4] (fun p : Nat × Int × Int => (0 ≤ p.2.1 ∧ p.2.1 ≤ p.1 ∧ p.1 ≤ 6) ∧ down p.1 p.2.1 p.2.2 now = down 6 l s now) (fun _ => [.int .i64 now, .ptr 0 0, .ptr 1 0])
      (fun p => [.cells [.int .i64 p.2.1, .int .i64 p.2.2, .int .i64 u], .cells [.int .i64 0, .int .i64 0, .int .i64 0]]) (fun p => p.1) (k, l1, s1) (.exit 0) [.int .i64 now, .ptr 0 0, .ptr 1 0] [.cells [.int .i64 l1, .int .i64 s1, .int .i64 u], .cells [.int .i64 0, .int .i64 0, .int .i64 0]] := by
    intro hm
    rw [down_step _ _ _ _ h2, if_neg hm] at h4
    show Q _ _ _
    rw [← h4] at hQ
    exact hQ
  simp only [br_if, decide_eq_true_eq, beq_true, beq_iff_eq]
  by_cases hm : more l1 s1 now
  · have hm' := hm
    obtain ⟨m1, m2, m3, m4⟩ := hm'
    simp only [m1, m2, m3, m4, if_true]
    rw [down_step _ _ _ _ h2, if_pos hm] at h4
    have hw : wI (l1 - 1) = l1 - 1 := by simp only [wI, IntKind.wrap, IntKind.bits, IntKind.signed]; simp; omega
    refine ⟨(k - 1, wI (l1 - 1), wI (s1 + 10000)), ?_, ⟨?_, h4⟩, rfl, [], rfl, Nat.le_refl _, .inl rfl⟩
    · simp only; omega
    · simp only [hw]; omega
  · have hf := fin hm
    unfold more at hm
    (repeat' split) <;> first | exact hf | (exfalso; exact hm ⟨by assumption, by assumption, by assumption, by assumption⟩)

def rat (m : Mk) (now : Int) : Mk :=
  let p := down 6 (level m.l) m.s now
  if p.1 = 0 then ⟨p.1, 0, if m.u ≤ now then 0 else m.u⟩ else ⟨p.1, p.2, m.u⟩
def rat_s (args : List PV) (K : PV → Prop) : Prop := match args with
  | [.agg [.int .i64 l, .int .i64 s, .int .i64 u], .int .i64 now] => K (Mk.pv (rat ⟨l, s, u⟩ now))
  | _ => False
theorem rat_red (m : Mk) (now : Int) (K : PV → Prop) : (∃ (l : Int), ∃ (s : Int), ∃ (u : Int), ∃ (now_1 : Int), (0 ≤ l ∧ l ≤ 6) ∧ [PV.int IntKind.i64 now, PV.ptr 0 0, PV.ptr 1 0] = [PV.int IntKind.i64 now_1, PV.ptr 0 0, PV.ptr 1 0] ∧ [Ob.cells [PV.int IntKind.i64 (level (Mk.l m)), PV.int IntKind.i64 (Mk.s m), PV.int IntKind.i64 (Mk.u m)], Ob.cells [PV.int IntKind.i64 0, PV.int IntKind.i64 0, PV.int IntKind.i64 0]] = [Ob.cells [PV.int IntKind.i64 l, PV.int IntKind.i64 s, PV.int IntKind.i64 u], Ob.cells [PV.int IntKind.i64 0, PV.int IntKind.i64 0, PV.int IntKind.i64 0]] ∧ br (Prod.fst (down 6 l s now_1) == 0) (br (decide (u ≤ now_1)) (K (PV.agg [PV.int IntKind.i64 (Prod.fst (down 6 l s now_1)), PV.int IntKind.i64 0, PV.int IntKind.i64 0])) (K (PV.agg [PV.int IntKind.i64 (Prod.fst (down 6 l s now_1)), PV.int IntKind.i64 0, PV.int IntKind.i64 u]))) (K (PV.agg [PV.int IntKind.i64 (Prod.fst (down 6 l s now_1)), PV.int IntKind.i64 (Prod.snd (down 6 l s now_1)), PV.int IntKind.i64 u]))) = wpc br Tryd.prog gl T1 [([1, 1, 0, 0], down_l)] (fun _ => 0) (bodyOf Tryd.f17) [] (env0 [m.pv, .int .i64 now]) [] (resQ Tryd.prog Tryd.f17.results.toList (fun x _ => K x)) := by kernel_rfl
theorem rat_vc (m : Mk) (now : Int)  (K : PV → Prop) (h : ∃ (l : Int), ∃ (s : Int), ∃ (u : Int), ∃ (now_1 : Int), (0 ≤ l ∧ l ≤ 6) ∧ [PV.int IntKind.i64 now, PV.ptr 0 0, PV.ptr 1 0] = [PV.int IntKind.i64 now_1, PV.ptr 0 0, PV.ptr 1 0] ∧ [Ob.cells [PV.int IntKind.i64 (level (Mk.l m)), PV.int IntKind.i64 (Mk.s m), PV.int IntKind.i64 (Mk.u m)], Ob.cells [PV.int IntKind.i64 0, PV.int IntKind.i64 0, PV.int IntKind.i64 0]] = [Ob.cells [PV.int IntKind.i64 l, PV.int IntKind.i64 s, PV.int IntKind.i64 u], Ob.cells [PV.int IntKind.i64 0, PV.int IntKind.i64 0, PV.int IntKind.i64 0]] ∧ br (Prod.fst (down 6 l s now_1) == 0) (br (decide (u ≤ now_1)) (K (PV.agg [PV.int IntKind.i64 (Prod.fst (down 6 l s now_1)), PV.int IntKind.i64 0, PV.int IntKind.i64 0])) (K (PV.agg [PV.int IntKind.i64 (Prod.fst (down 6 l s now_1)), PV.int IntKind.i64 0, PV.int IntKind.i64 u]))) (K (PV.agg [PV.int IntKind.i64 (Prod.fst (down 6 l s now_1)), PV.int IntKind.i64 (Prod.snd (down 6 l s now_1)), PV.int IntKind.i64 u]))) : ACalls Tryd.prog gl 17 [m.pv, .int .i64 now] [] (fun x _ => K x) :=
  acalls_of_wpc2 (T := T1) (L := [([1, 1, 0, 0], down_l)]) (fun _ => 0) Tryd.func17 (by kernel_rfl) (by kernel_rfl) (by kernel_rfl) (T1_ok) (.cons (sub_of (by kernel_rfl)) down_ok (.nil _ _ _ _ _)) (holds_of_eq (rat_red m now K) h)
theorem rat_ok : SpOk Tryd.prog gl 17 (.pure rat_s) := by
  intro args K h
  unfold rat_s at h
  split at h
  · rename_i l s u now
    refine spure gl_low (by simp [low_int, low_agg]) (Mk.low _ _) (rat_vc ⟨l, s, u⟩ now _ ?_) h
    refine ⟨_, _, _, _, ?_, rfl, rfl, ?_⟩
    · unfold level; (repeat' split) <;> omega
    simp only [br_if, decide_eq_true_eq, beq_iff_eq, rat]
    (repeat' split) <;> rfl
  · exact h.elim

def T2 : Tab := (14, .pure own_s) :: (23, .pure at_s) :: (17, .pure rat_s) :: T1
theorem T2_ok : TabOk Tryd.prog gl T2 := .cons own_ok (.cons at_ok (.cons rat_ok T1_ok))
def rung (l : Int) : Int := ([60, 300, 900, 3600, 14400, 86400] : List Int).getD (l - 1).toNat 0
theorem rung_cases {l : Int} {p : Int → Prop} (h1 : 1 ≤ l) (h6 : l ≤ 6) (h : p 1 ∧ p 2 ∧ p 3 ∧ p 4 ∧ p 5 ∧ p 6) : p l := by
  obtain ⟨a, b, c, d, e, f⟩ := h
  have : l = 1 ∨ l = 2 ∨ l = 3 ∨ l = 4 ∨ l = 5 ∨ l = 6 := by omega
  rcases this with rfl | rfl | rfl | rfl | rfl | rfl <;> assumption
theorem lv_range (n : Int) : 0 ≤ lv n ∧ lv n ≤ 6 := by unfold lv mnI mxI; (repeat' split) <;> omega
theorem at_range (m : Mk) (now : Int) : 0 ≤ (at_ m now).l ∧ (at_ m now).l ≤ 6 := by
  have h1 := lv_range m.l
  have h2 := wrap_u64_range ((past m.s now).tdiv 10000)
  unfold at_
  split
  · simp
  · rename_i h
    have e1 : wU (lv m.l) = lv m.l := wrap_u64 h1.1 (by omega)
    rw [e1] at h
    have h3 : 0 ≤ steps m now := h2.1
    have e2 : wI (steps m now) = steps m now := wrap_i64 (by omega) (by omega)
    have e3 : wI (lv m.l - wI (steps m now)) = lv m.l - steps m now := by rw [e2]; exact wrap_i64 (by omega) (by omega)
    show 0 ≤ wI _ ∧ wI _ ≤ 6
    rw [e3]; omega
theorem down_range (now : Int) : ∀ (n : Nat) (l s : Int), 0 ≤ l → l ≤ 6 → 0 ≤ (down n l s now).1 ∧ (down n l s now).1 ≤ 6
  | 0, l, s, h0, h6 => ⟨h0, h6⟩
  | n + 1, l, s, h0, h6 => by
    unfold down
    split
    · rename_i hm
      have h1 : l > 0 := hm.1
      have e : wI (l - 1) = l - 1 := wrap_i64 (by omega) (by omega)
      rw [e]
      exact down_range now n _ _ (by omega) (by omega)
    · exact ⟨h0, h6⟩
theorem level_range (n : Int) : 0 ≤ level n ∧ level n ≤ 6 := by unfold level; (repeat' split) <;> omega
theorem rat_range (m : Mk) (now : Int) : 0 ≤ (rat m now).l ∧ (rat m now).l ≤ 6 := by
  have h := down_range now 6 (level m.l) m.s (level_range _).1 (level_range _).2
  unfold rat
  simp only
  split <;> exact h

def hit (m : Mk) (now : Int) : Mk := ⟨mnI (wI ((at_ m now).l + 1)) 6, now, mxI (at_ m now).u (tadd now (rung (mnI (wI ((at_ m now).l + 1)) 6)))⟩
def hit_s (args : List PV) (K : PV → Prop) : Prop := match args with
  | [.agg [.int .i64 l, .int .i64 s, .int .i64 u], .int .i64 now] => K (Mk.pv (hit ⟨l, s, u⟩ now))
  | _ => False
def rhit (m : Mk) (now : Int) : Mk := ⟨level (wI ((rat m now).l + 1)), now, if radd now (rung (level (wI ((rat m now).l + 1)))) > (rat m now).u then radd now (rung (level (wI ((rat m now).l + 1)))) else (rat m now).u⟩
def rhit_s (args : List PV) (K : PV → Prop) : Prop := match args with
  | [.agg [.int .i64 l, .int .i64 s, .int .i64 u], .int .i64 now] => K (Mk.pv (rhit ⟨l, s, u⟩ now))
  | _ => False
theorem hit_red (m : Mk) (now : Int) (K : PV → Prop) : (br (decide (0 ≤ wI (mnI (wI (Mk.l (at_ m now) + 1)) 6 - 1)) && decide (wI (mnI (wI (Mk.l (at_ m now) + 1)) 6 - 1) < 6)) (br (true && fitX [CK.int IntKind.i64] 0 (List.drop (Int.toNat (wI (mnI (wI (Mk.l (at_ m now) + 1)) 6 - 1)) * 1) [PV.int IntKind.i64 60, PV.int IntKind.i64 300, PV.int IntKind.i64 900, PV.int IntKind.i64 3600, PV.int IntKind.i64 14400, PV.int IntKind.i64 86400])) (K (PV.agg [PV.int IntKind.i64 (mnI (wI (Mk.l (at_ m now) + 1)) 6), PV.int IntKind.i64 now, PV.int IntKind.i64 (mxI (Mk.u (at_ m now)) (tadd now (cI (List.drop (Int.toNat (wI (mnI (wI (Mk.l (at_ m now) + 1)) 6 - 1)) * 1) [PV.int IntKind.i64 60, PV.int IntKind.i64 300, PV.int IntKind.i64 900, PV.int IntKind.i64 3600, PV.int IntKind.i64 14400, PV.int IntKind.i64 86400]) 0)))])) False) False) = wpc br Tryd.prog gl T2 [] (fun _ => 0) (bodyOf Tryd.f21) [] (env0 [m.pv, .int .i64 now]) [] (resQ Tryd.prog Tryd.f21.results.toList (fun x _ => K x)) := by kernel_rfl
theorem hit_vc (m : Mk) (now : Int)  (K : PV → Prop) (h : br (decide (0 ≤ wI (mnI (wI (Mk.l (at_ m now) + 1)) 6 - 1)) && decide (wI (mnI (wI (Mk.l (at_ m now) + 1)) 6 - 1) < 6)) (br (true && fitX [CK.int IntKind.i64] 0 (List.drop (Int.toNat (wI (mnI (wI (Mk.l (at_ m now) + 1)) 6 - 1)) * 1) [PV.int IntKind.i64 60, PV.int IntKind.i64 300, PV.int IntKind.i64 900, PV.int IntKind.i64 3600, PV.int IntKind.i64 14400, PV.int IntKind.i64 86400])) (K (PV.agg [PV.int IntKind.i64 (mnI (wI (Mk.l (at_ m now) + 1)) 6), PV.int IntKind.i64 now, PV.int IntKind.i64 (mxI (Mk.u (at_ m now)) (tadd now (cI (List.drop (Int.toNat (wI (mnI (wI (Mk.l (at_ m now) + 1)) 6 - 1)) * 1) [PV.int IntKind.i64 60, PV.int IntKind.i64 300, PV.int IntKind.i64 900, PV.int IntKind.i64 3600, PV.int IntKind.i64 14400, PV.int IntKind.i64 86400]) 0)))])) False) False) : ACalls Tryd.prog gl 21 [m.pv, .int .i64 now] [] (fun x _ => K x) :=
  acalls_of_wpc2 (T := T2) (L := []) (fun _ => 0) Tryd.func21 (by kernel_rfl) (by kernel_rfl) (by kernel_rfl) (T2_ok) (LOk.nil _ _ _ _ _) (holds_of_eq (hit_red m now K) h)
theorem rhit_red (m : Mk) (now : Int) (K : PV → Prop) : (InL [[PV.int IntKind.i64 60], [PV.int IntKind.i64 300], [PV.int IntKind.i64 900], [PV.int IntKind.i64 3600], [PV.int IntKind.i64 14400], [PV.int IntKind.i64 86400]] 1 (wI (level (wI (Mk.l (rat m now) + 1)) - 1)) ∧ br (true && fitX [CK.int IntKind.i64] 0 (List.getD [[PV.int IntKind.i64 60], [PV.int IntKind.i64 300], [PV.int IntKind.i64 900], [PV.int IntKind.i64 3600], [PV.int IntKind.i64 14400], [PV.int IntKind.i64 86400]] (Int.toNat (wI (level (wI (Mk.l (rat m now) + 1)) - 1))) [])) (br (decide (radd now (cI (List.getD [[PV.int IntKind.i64 60], [PV.int IntKind.i64 300], [PV.int IntKind.i64 900], [PV.int IntKind.i64 3600], [PV.int IntKind.i64 14400], [PV.int IntKind.i64 86400]] (Int.toNat (wI (level (wI (Mk.l (rat m now) + 1)) - 1))) []) 0) > Mk.u (rat m now))) (K (PV.agg [PV.int IntKind.i64 (level (wI (Mk.l (rat m now) + 1))), PV.int IntKind.i64 now, PV.int IntKind.i64 (radd now (cI (List.getD [[PV.int IntKind.i64 60], [PV.int IntKind.i64 300], [PV.int IntKind.i64 900], [PV.int IntKind.i64 3600], [PV.int IntKind.i64 14400], [PV.int IntKind.i64 86400]] (Int.toNat (wI (level (wI (Mk.l (rat m now) + 1)) - 1))) []) 0))])) (K (PV.agg [PV.int IntKind.i64 (level (wI (Mk.l (rat m now) + 1))), PV.int IntKind.i64 now, PV.int IntKind.i64 (Mk.u (rat m now))]))) False) = wpc br Tryd.prog gl T2 [] (fun _ => 0) (bodyOf Tryd.f28) [] (env0 [m.pv, .int .i64 now]) [] (resQ Tryd.prog Tryd.f28.results.toList (fun x _ => K x)) := by kernel_rfl
theorem rhit_vc (m : Mk) (now : Int)  (K : PV → Prop) (h : InL [[PV.int IntKind.i64 60], [PV.int IntKind.i64 300], [PV.int IntKind.i64 900], [PV.int IntKind.i64 3600], [PV.int IntKind.i64 14400], [PV.int IntKind.i64 86400]] 1 (wI (level (wI (Mk.l (rat m now) + 1)) - 1)) ∧ br (true && fitX [CK.int IntKind.i64] 0 (List.getD [[PV.int IntKind.i64 60], [PV.int IntKind.i64 300], [PV.int IntKind.i64 900], [PV.int IntKind.i64 3600], [PV.int IntKind.i64 14400], [PV.int IntKind.i64 86400]] (Int.toNat (wI (level (wI (Mk.l (rat m now) + 1)) - 1))) [])) (br (decide (radd now (cI (List.getD [[PV.int IntKind.i64 60], [PV.int IntKind.i64 300], [PV.int IntKind.i64 900], [PV.int IntKind.i64 3600], [PV.int IntKind.i64 14400], [PV.int IntKind.i64 86400]] (Int.toNat (wI (level (wI (Mk.l (rat m now) + 1)) - 1))) []) 0) > Mk.u (rat m now))) (K (PV.agg [PV.int IntKind.i64 (level (wI (Mk.l (rat m now) + 1))), PV.int IntKind.i64 now, PV.int IntKind.i64 (radd now (cI (List.getD [[PV.int IntKind.i64 60], [PV.int IntKind.i64 300], [PV.int IntKind.i64 900], [PV.int IntKind.i64 3600], [PV.int IntKind.i64 14400], [PV.int IntKind.i64 86400]] (Int.toNat (wI (level (wI (Mk.l (rat m now) + 1)) - 1))) []) 0))])) (K (PV.agg [PV.int IntKind.i64 (level (wI (Mk.l (rat m now) + 1))), PV.int IntKind.i64 now, PV.int IntKind.i64 (Mk.u (rat m now))]))) False) : ACalls Tryd.prog gl 28 [m.pv, .int .i64 now] [] (fun x _ => K x) :=
  acalls_of_wpc2 (T := T2) (L := []) (fun _ => 0) Tryd.func28 (by kernel_rfl) (by kernel_rfl) (by kernel_rfl) (T2_ok) (LOk.nil _ _ _ _ _) (holds_of_eq (rhit_red m now K) h)
theorem hit_lvl (m : Mk) (now : Int) : 1 ≤ mnI (wI ((at_ m now).l + 1)) 6 ∧ mnI (wI ((at_ m now).l + 1)) 6 ≤ 6 ∧ wI (mnI (wI ((at_ m now).l + 1)) 6 - 1) = mnI (wI ((at_ m now).l + 1)) 6 - 1 := by
  have h := at_range m now
  have e : wI ((at_ m now).l + 1) = (at_ m now).l + 1 := wrap_i64 (by omega) (by omega)
  rw [e]
  have h2 : 1 ≤ mnI ((at_ m now).l + 1) 6 ∧ mnI ((at_ m now).l + 1) 6 ≤ 6 := by unfold mnI; split <;> omega
  exact ⟨h2.1, h2.2, wrap_i64 (by omega) (by omega)⟩
theorem rung_drop {l : Int} (h1 : 1 ≤ l) (h6 : l ≤ 6) : fitX [CK.int IntKind.i64] 0 (List.drop (Int.toNat (l - 1) * 1) [PV.int IntKind.i64 60, PV.int IntKind.i64 300, PV.int IntKind.i64 900, PV.int IntKind.i64 3600, PV.int IntKind.i64 14400, PV.int IntKind.i64 86400]) = true ∧
    cI (List.drop (Int.toNat (l - 1) * 1) [PV.int IntKind.i64 60, PV.int IntKind.i64 300, PV.int IntKind.i64 900, PV.int IntKind.i64 3600, PV.int IntKind.i64 14400, PV.int IntKind.i64 86400]) 0 = rung l := by
  refine rung_cases (p := fun l => fitX [CK.int IntKind.i64] 0 (List.drop (Int.toNat (l - 1) * 1) [PV.int IntKind.i64 60, PV.int IntKind.i64 300, PV.int IntKind.i64 900, PV.int IntKind.i64 3600, PV.int IntKind.i64 14400, PV.int IntKind.i64 86400]) = true ∧
    cI (List.drop (Int.toNat (l - 1) * 1) [PV.int IntKind.i64 60, PV.int IntKind.i64 300, PV.int IntKind.i64 900, PV.int IntKind.i64 3600, PV.int IntKind.i64 14400, PV.int IntKind.i64 86400]) 0 = rung l) h1 h6 ?_
  refine ⟨⟨rfl, rfl⟩, ⟨rfl, rfl⟩, ⟨rfl, rfl⟩, ⟨rfl, rfl⟩, ⟨rfl, rfl⟩, ⟨rfl, rfl⟩⟩
theorem rung_get {l : Int} (h1 : 1 ≤ l) (h6 : l ≤ 6) : InL [[PV.int IntKind.i64 60], [PV.int IntKind.i64 300], [PV.int IntKind.i64 900], [PV.int IntKind.i64 3600], [PV.int IntKind.i64 14400], [PV.int IntKind.i64 86400]] 1 (l - 1) ∧
    fitX [CK.int IntKind.i64] 0 (List.getD [[PV.int IntKind.i64 60], [PV.int IntKind.i64 300], [PV.int IntKind.i64 900], [PV.int IntKind.i64 3600], [PV.int IntKind.i64 14400], [PV.int IntKind.i64 86400]] (Int.toNat (l - 1)) []) = true ∧
    cI (List.getD [[PV.int IntKind.i64 60], [PV.int IntKind.i64 300], [PV.int IntKind.i64 900], [PV.int IntKind.i64 3600], [PV.int IntKind.i64 14400], [PV.int IntKind.i64 86400]] (Int.toNat (l - 1)) []) 0 = rung l := by
  refine ⟨⟨by omega, by simp; omega, by intro e he; simp at he; rcases he with rfl | rfl | rfl | rfl | rfl | rfl <;> rfl, by decide⟩, ?_⟩
  refine rung_cases (p := fun l => fitX [CK.int IntKind.i64] 0 (List.getD [[PV.int IntKind.i64 60], [PV.int IntKind.i64 300], [PV.int IntKind.i64 900], [PV.int IntKind.i64 3600], [PV.int IntKind.i64 14400], [PV.int IntKind.i64 86400]] (Int.toNat (l - 1)) []) = true ∧
    cI (List.getD [[PV.int IntKind.i64 60], [PV.int IntKind.i64 300], [PV.int IntKind.i64 900], [PV.int IntKind.i64 3600], [PV.int IntKind.i64 14400], [PV.int IntKind.i64 86400]] (Int.toNat (l - 1)) []) 0 = rung l) h1 h6 ?_
  refine ⟨⟨rfl, rfl⟩, ⟨rfl, rfl⟩, ⟨rfl, rfl⟩, ⟨rfl, rfl⟩, ⟨rfl, rfl⟩, ⟨rfl, rfl⟩⟩
theorem hit_ok : SpOk Tryd.prog gl 21 (.pure hit_s) := by
  intro args K h
  unfold hit_s at h
  split at h
  · rename_i l s u now
    refine spure gl_low (by simp [low_int, low_agg]) (Mk.low _ _) (hit_vc ⟨l, s, u⟩ now _ ?_) h
    obtain ⟨h1, h6, hw⟩ := hit_lvl ⟨l, s, u⟩ now
    obtain ⟨h7, h8⟩ := rung_drop h1 h6
    simp only [wI] at hw h1 h6 h7 h8
    simp only [br_if, hw, h7, h8]
    rw [if_pos (by simp; omega)]
    rfl
  · exact h.elim
theorem rhit_lvl (m : Mk) (now : Int) : 1 ≤ level (wI ((rat m now).l + 1)) ∧ level (wI ((rat m now).l + 1)) ≤ 6 ∧ wI (level (wI ((rat m now).l + 1)) - 1) = level (wI ((rat m now).l + 1)) - 1 := by
  have h := rat_range m now
  have e : wI ((rat m now).l + 1) = (rat m now).l + 1 := wrap_i64 (by omega) (by omega)
  rw [e]
  have h2 : 1 ≤ level ((rat m now).l + 1) ∧ level ((rat m now).l + 1) ≤ 6 := by unfold level; (repeat' split) <;> omega
  exact ⟨h2.1, h2.2, wrap_i64 (by omega) (by omega)⟩
theorem rhit_ok : SpOk Tryd.prog gl 28 (.pure rhit_s) := by
  intro args K h
  unfold rhit_s at h
  split at h
  · rename_i l s u now
    refine spure gl_low (by simp [low_int, low_agg]) (Mk.low _ _) (rhit_vc ⟨l, s, u⟩ now _ ?_) h
    obtain ⟨h1, h6, hw⟩ := rhit_lvl ⟨l, s, u⟩ now
    obtain ⟨h5, h7, h8⟩ := rung_get h1 h6
    simp only [wI] at hw h1 h6 h5 h7 h8
    simp only [br_if, hw, h7, h8, decide_eq_true_eq]
    refine ⟨h5, ?_⟩
    simp only [Bool.and_self, if_true, rhit]
    split <;> rfl
  · exact h.elim
def T3 : Tab := (21, .pure hit_s) :: (28, .pure rhit_s) :: T2
theorem T3_ok : TabOk Tryd.prog gl T3 := .cons hit_ok (.cons rhit_ok T2_ok)
theorem awake_red  (K : PV → Prop) : (K (PV.bool true)) = wpc br Tryd.prog gl T3 [] (fun _ => 0) (bodyOf Tryd.f11) [] (env0 []) [] (resQ Tryd.prog Tryd.f11.results.toList (fun x _ => K x)) := by kernel_rfl
theorem awake_vc   (K : PV → Prop) (h : K (PV.bool true)) : ACalls Tryd.prog gl 11 [] [] (fun x _ => K x) :=
  acalls_of_wpc2 (T := T3) (L := []) (fun _ => 0) Tryd.func11 (by kernel_rfl) (by kernel_rfl) (by kernel_rfl) (T3_ok) (LOk.nil _ _ _ _ _) (holds_of_eq (awake_red K) h)
def awake_s (args : List PV) (K : PV → Prop) : Prop := match args with
  | [] => K (.bool true)
  | _ => False
theorem awake_ok : SpOk Tryd.prog gl 11 (.pure awake_s) := by
  intro args K h
  unfold awake_s at h
  split at h
  · exact spure gl_low (by simp) (.bool _) (awake_vc _ rfl) h
  · exact h.elim
def T4 : Tab := (11, .pure awake_s) :: T3
theorem T4_ok : TabOk Tryd.prog gl T4 := .cons awake_ok T3_ok
-- THE PLAIN LAW
def R64 (n : Int) : Prop := -9223372036854775808 ≤ n ∧ n ≤ 9223372036854775807
def Mk.ok (m : Mk) : Prop := R64 m.l ∧ R64 m.s ∧ R64 m.u
def tt (s now : Int) : Int := if now ≤ s then 0 else (now - s) / 10000
theorem past_eq {a b : Int} (ha : R64 a) (hb : R64 b) : past a b = if b ≤ a then 0 else b - a := by
  unfold past R64 at *
  split
  · rfl
  · simp only [wU, wrap_u64_eq]; omega
theorem steps_eq {m : Mk} {now : Int} (hs : R64 m.s) (hn : R64 now) : steps m now = tt m.s now := by
  unfold steps tt
  rw [past_eq hs hn]
  unfold R64 at *
  split
  · rfl
  · rw [Int.tdiv_eq_ediv_of_nonneg (by omega)]
    exact wrap_u64 (by omega) (by omega)
theorem tt_nonneg (s now : Int) : 0 ≤ tt s now := by unfold tt; split <;> omega
theorem lv_level (n : Int) : level n = lv n := by unfold level lv mnI mxI; (repeat' split) <;> omega
theorem at_eq {m : Mk} {now : Int} (hm : m.ok) (hn : R64 now) : at_ m now = if tt m.s now ≥ lv m.l then ⟨0, 0, if m.u ≤ now then 0 else m.u⟩ else ⟨lv m.l - tt m.s now, m.s + tt m.s now * 10000, m.u⟩ := by
  have h1 := lv_range m.l
  have h2 := tt_nonneg m.s now
  unfold at_
  rw [steps_eq hm.2.1 hn]
  have e1 : wU (lv m.l) = lv m.l := wrap_u64 h1.1 (by omega)
  rw [e1]
  split
  · rfl
  · rename_i h
    have e2 : wI (tt m.s now) = tt m.s now := wrap_i64 (by omega) (by omega)
    rw [e2]
    have e3 : wI (lv m.l - tt m.s now) = lv m.l - tt m.s now := wrap_i64 (by omega) (by omega)
    have e4 : wI (tt m.s now * 10000) = tt m.s now * 10000 := wrap_i64 (by omega) (by omega)
    rw [e3, e4]
    have hs := hm.2.1
    have e5 : wI (m.s + tt m.s now * 10000) = m.s + tt m.s now * 10000 := by
      unfold R64 at *
      unfold tt at *
      apply wrap_i64 <;> (split <;> omega)
    rw [e5]
theorem radd_eq {a b : Int} (ha : R64 a) (h0 : 0 < b) (hb : b ≤ 9223372036854775807) : radd a b = if a + b > 9223372036854775807 then 9223372036854775807 else a + b := by
  unfold radd R64 at *
  rw [if_neg (by omega)]
  by_cases hp : a > 0
  · have e : wI (9223372036854775807 - a) = 9223372036854775807 - a := wrap_i64 (by omega) (by omega)
    rw [e]
    by_cases hq : b > 9223372036854775807 - a
    · rw [if_pos ⟨hp, hq⟩, if_pos (by omega)]
    · rw [if_neg (fun h => hq h.2), if_neg (by omega)]
      exact wrap_i64 (by omega) (by omega)
  · rw [if_neg (fun h => hp h.1), if_neg (by omega)]
    exact wrap_i64 (by omega) (by omega)
theorem tadd_eq {a b : Int} (ha : R64 a) (h0 : 0 < b) (hb : b ≤ 9223372036854775807) : tadd a b = if a + b > 9223372036854775807 then 9223372036854775807 else a + b := by
  unfold tadd R64 at *
  have e0 : mxI 0 b = b := by unfold mxI; rw [if_pos h0]
  have e : wI (9223372036854775807 - b) = 9223372036854775807 - b := wrap_i64 (by omega) (by omega)
  rw [e0, e]
  by_cases hq : a + b > 9223372036854775807
  · rw [if_pos (by omega), if_pos hq]
  · rw [if_neg (by omega), if_neg hq]
    exact wrap_i64 (by omega) (by omega)
theorem more_iff {l s now : Int} (hs : R64 s) (hn : R64 now) : more l s now ↔ l > 0 ∧ s + 10000 ≤ now := by
  unfold more
  rw [radd_eq hs (by omega) (by omega)]
  unfold R64 at *
  by_cases h : s + 10000 > 9223372036854775807
  · rw [if_pos h]
    constructor
    · rintro ⟨a, b, c, d⟩
      have e : wI (9223372036854775807 - 10000) = 9223372036854775807 - 10000 := wrap_i64 (by omega) (by omega)
      rw [e] at d; omega
    · omega
  · rw [if_neg h]
    have e : wI (s + 10000 - 10000) = s := by rw [Int.add_sub_cancel]; exact wrap_i64 (by omega) (by omega)
    rw [e]
    constructor
    · rintro ⟨a, b, c, d⟩; exact ⟨a, c⟩
    · rintro ⟨a, b⟩; exact ⟨a, by omega, b, rfl⟩
theorem down_eq {now : Int} (hn : R64 now) : ∀ (n : Nat) (l s : Int), 0 ≤ l → l ≤ n → l ≤ 6 → R64 s → down n l s now = if tt s now ≥ l then (0, s + l * 10000) else (l - tt s now, s + tt s now * 10000)
  | 0, l, s, h0, h1, _, _ => by
    have : l = 0 := by simp at h1; omega
    subst this
    rw [if_pos (tt_nonneg _ _)]; simp [down]
  | n + 1, l, s, h0, h1, h6, hs => by
    unfold down
    by_cases hm : more l s now
    · rw [if_pos hm]
      rw [more_iff hs hn] at hm
      have hs' := hs
      have hn' := hn
      unfold R64 at hs' hn'
      have e1 : wI (l - 1) = l - 1 := wrap_i64 (by omega) (by omega)
      have e2 : wI (s + 10000) = s + 10000 := wrap_i64 (by omega) (by omega)
      rw [e1, e2, down_eq hn n _ _ (by omega) (by simp at h1; omega) (by omega) ⟨by omega, by omega⟩]
      have e3 : tt (s + 10000) now = tt s now - 1 := by unfold tt; rw [if_neg (by omega : ¬ now ≤ s)]; split <;> omega
      rw [e3]
      by_cases hc : tt s now ≥ l
      · rw [if_pos (by omega), if_pos hc]; congr 1; omega
      · rw [if_neg (by omega), if_neg hc]; congr 1 <;> omega
    · rw [if_neg hm]
      rw [more_iff hs hn] at hm
      by_cases hl : l = 0
      · subst hl; rw [if_pos (tt_nonneg _ _)]; simp
      · have e : tt s now = 0 := by unfold tt; split <;> omega
        rw [e, if_neg (by omega)]; simp
theorem rat_eq {m : Mk} {now : Int} (hm : m.ok) (hn : R64 now) : rat m now = at_ m now := by
  rw [at_eq hm hn]
  unfold rat
  rw [lv_level, down_eq hn 6 _ _ (lv_range _).1 (lv_range _).2 (lv_range _).2 hm.2.1]
  by_cases hc : tt m.s now ≥ lv m.l
  · rw [if_pos hc, if_pos hc]; simp
  · rw [if_neg hc, if_neg hc]
    simp only
    rw [if_neg (by omega)]
theorem rung_range {l : Int} (h1 : 1 ≤ l) (h6 : l ≤ 6) : 60 ≤ rung l ∧ rung l ≤ 86400 :=
  rung_cases (p := fun l => 60 ≤ rung l ∧ rung l ≤ 86400) h1 h6 (by decide)
theorem up_eq {n : Int} (h0 : 0 ≤ n) (h6 : n ≤ 6) : level (wI (n + 1)) = mnI (wI (n + 1)) 6 := by
  have e : wI (n + 1) = n + 1 := wrap_i64 (by omega) (by omega)
  rw [e]; unfold level mnI; (repeat' split) <;> omega
theorem rhit_eq {m : Mk} {now : Int} (hm : m.ok) (hn : R64 now) : rhit m now = hit m now := by
  have h := at_range m now
  obtain ⟨h1, h6, _⟩ := hit_lvl m now
  have hr := rung_range h1 h6
  unfold rhit hit
  rw [rat_eq hm hn, up_eq h.1 h.2, radd_eq hn (by omega) (by omega), tadd_eq hn (by omega) (by omega)]
  rfl
theorem left_eq {m : Mk} {now : Int} (hm : m.ok) (hn : R64 now) : left m now = if m.u ≤ now then 0 else if m.u - now > 9223372036854775807 then 9223372036854775807 else m.u - now := by
  unfold left
  rw [past_eq hn hm.2.2]
  have hu := hm.2.2
  unfold R64 at hu hn
  unfold mnI
  by_cases h : m.u ≤ now
  · rw [if_pos h, if_pos h]; rfl
  · rw [if_neg h, if_neg h]
    by_cases h2 : m.u - now > 9223372036854775807
    · rw [if_pos (by omega)]; rfl
    · rw [if_neg (by omega)]; exact wrap_i64 (by omega) (by omega)
theorem rleft_eq {m : Mk} {now : Int} (hm : m.ok) (hn : R64 now) : rleft m now = left m now := by
  rw [left_eq hm hn]
  have hu := hm.2.2
  unfold R64 at hu hn
  unfold rleft
  by_cases h : m.u ≤ now
  · rw [if_pos h, if_pos h]
  · rw [if_neg h, if_neg h]
    by_cases h0 : now < 0
    · have e : wI (9223372036854775807 + now) = 9223372036854775807 + now := wrap_i64 (by omega) (by omega)
      rw [e]
      by_cases h2 : m.u > 9223372036854775807 + now
      · rw [if_pos ⟨h0, h2⟩, if_pos (by omega)]
      · rw [if_neg (fun k => h2 k.2), if_neg (by omega)]; exact wrap_i64 (by omega) (by omega)
    · rw [if_neg (fun k => h0 k.1), if_neg (by omega)]; exact wrap_i64 (by omega) (by omega)

theorem at_ok_range {m : Mk} {now : Int} (hm : m.ok) (hn : R64 now) : (at_ m now).ok := by
  have h1 := lv_range m.l
  have h2 := tt_nonneg m.s now
  obtain ⟨hl, hs, hu⟩ := hm
  rw [at_eq ⟨hl, hs, hu⟩ hn]
  unfold Mk.ok R64 at *
  split
  · refine ⟨by simp, by simp, ?_⟩
    simp only; split <;> omega
  · rename_i h
    refine ⟨by simp only; omega, ?_, hu⟩
    simp only
    unfold tt at *
    split <;> omega
theorem mn_mx {a b : Int} (ha : R64 a) (hb : R64 b) : R64 (mnI a b) ∧ R64 (mxI a b) ∧ mnI a b ≤ mxI a b := by
  unfold mnI mxI R64 at *; (repeat' split) <;> omega
theorem w_small {n : Int} (h0 : -9223372036854775808 ≤ n) (h1 : n ≤ 9223372036854775807) : wI n = n := wrap_i64 h0 h1
theorem wI_succ {i n : Nat} (h : i < n) (hn : (n : Int) ≤ 4611686018427387904) : wI ((i : Int) + 1) = ((i + 1 : Nat) : Int) := by
  rw [w_small (by omega) (by omega)]; rfl
theorem getD_mem {α : Type} {l : List α} {i : Nat} {d : α} (h : i < l.length) : l.getD i d ∈ l := by
  rw [List.getD_eq_getElem?_getD, List.getElem?_eq_getElem h]; exact List.getElem_mem h
theorem isnan_red (a : Int) (K : PV → Prop) : (K (PV.bool (a != a))) = wpc br Tryd.prog gl [] [] (fun _ => 0) (bodyOf Tryd.f43) [] (env0 [.int .u32 a]) [] (resQ Tryd.prog Tryd.f43.results.toList (fun x _ => K x)) := by kernel_rfl
theorem isnan_vc (a : Int)  (K : PV → Prop) (h : K (PV.bool (a != a))) : ACalls Tryd.prog gl 43 [.int .u32 a] [] (fun x _ => K x) :=
  acalls_of_wpc2 (T := []) (L := []) (fun _ => 0) Tryd.func43 (by kernel_rfl) (by kernel_rfl) (by kernel_rfl) (TabOk.nil _ _) (LOk.nil _ _ _ _ _) (holds_of_eq (isnan_red a K) h)
theorem right_red (a : Int) (K : PV → Prop) : (br (decide (a ≥ 1) == true) (K (PV.bool (decide (a ≤ 2147483647)))) (K (PV.bool false))) = wpc br Tryd.prog gl [] [] (fun _ => 0) (bodyOf Tryd.f33) [] (env0 [.int .u32 a]) [] (resQ Tryd.prog Tryd.f33.results.toList (fun x _ => K x)) := by kernel_rfl
theorem right_vc (a : Int)  (K : PV → Prop) (h : br (decide (a ≥ 1) == true) (K (PV.bool (decide (a ≤ 2147483647)))) (K (PV.bool false))) : ACalls Tryd.prog gl 33 [.int .u32 a] [] (fun x _ => K x) :=
  acalls_of_wpc2 (T := []) (L := []) (fun _ => 0) Tryd.func33 (by kernel_rfl) (by kernel_rfl) (by kernel_rfl) (TabOk.nil _ _) (LOk.nil _ _ _ _ _) (holds_of_eq (right_red a K) h)
def isnan_s (args : List PV) (K : PV → Prop) : Prop := match args with
  | [.int .u32 _] => K (.bool false)
  | _ => False
theorem isnan_ok : SpOk Tryd.prog gl 43 (.pure isnan_s) := by
  intro args K h
  unfold isnan_s at h
  split at h
  · rename_i a
    refine spure gl_low (by simp [low_int]) (.bool _) (isnan_vc a (fun x => x = .bool false) ?_) h
    simp
  · exact h.elim
def rightS (a : Int) : Bool := decide (1 ≤ a ∧ a ≤ 2147483647)
def right_s (args : List PV) (K : PV → Prop) : Prop := match args with
  | [.int .u32 a] => K (.bool (rightS a))
  | _ => False
theorem right_ok : SpOk Tryd.prog gl 33 (.pure right_s) := by
  intro args K h
  unfold right_s at h
  split at h
  · rename_i a
    refine spure gl_low (by simp [low_int]) (.bool _) (right_vc a (fun x => x = .bool (rightS a)) ?_) h
    simp only [br_if, bt, dt]
    unfold rightS
    by_cases c : a ≥ 1
    · rw [if_pos c]; congr 1; apply decide_eq_decide.2; omega
    · rw [if_neg c]; congr 1; symm; apply decide_eq_false; omega
  · exact h.elim
def TK0 : Tab := [(43, .pure isnan_s), (33, .pure right_s)]
theorem TK0_ok : TabOk Tryd.prog gl TK0 := .cons isnan_ok (.cons right_ok (.nil _ _))
theorem cmpu_red (a b : Int) (K : PV → Prop) : (br (decide (a < b)) (K (PV.int IntKind.i64 (-1))) (br (decide (a > b)) (K (PV.int IntKind.i64 1)) (K (PV.int IntKind.i64 0)))) = wpc br Tryd.prog gl TK0 [] (fun _ => 0) (bodyOf Tryd.f40) [] (env0 [.int .u32 a, .int .u32 b]) [] (resQ Tryd.prog Tryd.f40.results.toList (fun x _ => K x)) := by kernel_rfl
theorem cmpu_vc (a b : Int)  (K : PV → Prop) (h : br (decide (a < b)) (K (PV.int IntKind.i64 (-1))) (br (decide (a > b)) (K (PV.int IntKind.i64 1)) (K (PV.int IntKind.i64 0)))) : ACalls Tryd.prog gl 40 [.int .u32 a, .int .u32 b] [] (fun x _ => K x) :=
  acalls_of_wpc2 (T := TK0) (L := []) (fun _ => 0) Tryd.func40 (by kernel_rfl) (by kernel_rfl) (by kernel_rfl) (TK0_ok) (LOk.nil _ _ _ _ _) (holds_of_eq (cmpu_red a b K) h)
def cmpS (a b : Int) : Int := if a < b then -1 else if a > b then 1 else 0
def cmpu_s (args : List PV) (K : PV → Prop) : Prop := match args with
  | [.int .u32 a, .int .u32 b] => K (.int .i64 (cmpS a b))
  | _ => False
theorem cmpu_ok : SpOk Tryd.prog gl 40 (.pure cmpu_s) := by
  intro args K h
  unfold cmpu_s at h
  split at h
  · rename_i a b
    refine spure gl_low (by simp [low_int]) (.int _ _) (cmpu_vc a b (fun x => x = .int .i64 (cmpS a b)) ?_) h
    simp only [br_if, dt]
    unfold cmpS
    by_cases c : a < b
    · rw [if_pos c, if_pos c]
    rw [if_neg c, if_neg c]
    by_cases d : a > b
    · rw [if_pos d, if_pos d]
    · rw [if_neg d, if_neg d]
  · exact h.elim
def TK : Tab := (40, .pure cmpu_s) :: TK0
theorem TK_ok : TabOk Tryd.prog gl TK := .cons cmpu_ok TK0_ok
-- rows by ids, rising: the plain table
structure Rw (G : Type) where
  id : Int
  v : G
instance rwInh {G : Type} [Inhabited G] : Inhabited (Rw G) := ⟨⟨0, default⟩⟩
section
variable {G : Type}
structure Ok (l : List (Rw G)) (most : Int) : Prop where
  rise : l.Pairwise fun a b => a.id < b.id
  full : (l.length : Int) ≤ most
  big : most ≤ 1000000
theorem Ok.len {l : List (Rw G)} {most : Int} (h : Ok l most) : l.length ≤ 1000000 := by have := h.full; have := h.big; omega
theorem Ok.none {most : Int} (h0 : 0 ≤ most) (h : most ≤ 1000000) : Ok ([] : List (Rw G)) most := ⟨List.Pairwise.nil, by simpa using h0, h⟩
end
section
variable {G : Type} [Inhabited G]
structure Lb (l : List (Rw G)) (t : Int) (p : Nat) : Prop where
  le : p ≤ l.length
  lo : ∀ k, k < p → (l.getD k default).id < t
  hi : ∀ k, p ≤ k → k < l.length → t ≤ (l.getD k default).id
def hitP (l : List (Rw G)) (t : Int) (p : Nat) : Bool := decide (p < l.length ∧ (l.getD p default).id = t)
def lbp (l : List (Rw G)) (t : Int) : Nat := l.findIdx fun r => decide (t ≤ r.id)
def has (l : List (Rw G)) (t : Int) : Bool := hitP l t (lbp l t)
theorem Ok.lb {l : List (Rw G)} {most : Int} (h : Ok l most) (t : Int) : Lb l t (lbp l t) := by
  refine ⟨List.findIdx_le_length, fun k hk => ?_, fun k hk hl => ?_⟩
  · have hkl : k < l.length := Nat.lt_of_lt_of_le hk List.findIdx_le_length
    have := List.not_of_lt_findIdx hk
    rw [List.getD_eq_getElem?_getD, List.getElem?_eq_getElem hkl, Option.getD_some]
    simp only [decide_eq_false_iff_not] at this
    omega
  · have hpl : lbp l t < l.length := Nat.lt_of_le_of_lt hk hl
    have h1 : t ≤ (l[lbp l t]'hpl).id := by
      have := List.findIdx_getElem (p := fun r : Rw G => decide (t ≤ r.id)) (w := hpl)
      exact of_decide_eq_true this
    rw [List.getD_eq_getElem?_getD, List.getElem?_eq_getElem hl, Option.getD_some]
    rcases Nat.eq_or_lt_of_le hk with e | e
    · subst e; exact h1
    · have := List.pairwise_iff_getElem.1 h.rise (lbp l t) k hpl hl e
      omega
theorem Ok.get {l : List (Rw G)} {most : Int} (h : Ok l most) {i j : Nat} (hij : i < j) (hj : j < l.length) : (l.getD i default).id < (l.getD j default).id := by
  rw [List.getD_eq_getElem?_getD, List.getElem?_eq_getElem (by omega), List.getD_eq_getElem?_getD, List.getElem?_eq_getElem hj]
  exact List.pairwise_iff_getElem.1 h.rise i j (by omega) hj hij
def getR (l : List (Rw G)) (t : Int) : G := if has l t = true then (l.getD (lbp l t) default).v else default
def putL (l : List (Rw G)) (most t : Int) (v : G) : List (Rw G) × Int :=
  if rightS t = true then
    if has l t = true then (l.set (lbp l t) ⟨t, v⟩, 0)
    else if (l.length : Int) ≥ most then (l, 10) else (insAt l (lbp l t) ⟨t, v⟩, 0)
  else (l, 14)
def addL (l : List (Rw G)) (most t : Int) (v : G) : List (Rw G) × Int := if has l t = true then (l, 11) else putL l most t v
def dropL (l : List (Rw G)) (t : Int) : List (Rw G) := if has l t = true then l.eraseIdx (lbp l t) else l
def nextK (l : List (Rw G)) (t : Int) : Nat := if has l t = true then lbp l t + 1 else lbp l t
def nextI (l : List (Rw G)) (t : Int) : Int := if nextK l t = l.length then 0 else (l.getD (nextK l t) default).id
def nextB (l : List (Rw G)) (t : Int) : Bool := decide (nextK l t ≠ l.length)
def gap (l : List (Rw G)) : Nat := (l.zipIdx).findIdx fun r => decide (r.1.id ≠ (r.2 : Int) + 1)
def freeL (l : List (Rw G)) (most : Int) : Int := if (l.length : Int) ≥ most then 0 else (gap l : Int) + 1
theorem has_nil (t : Int) : has ([] : List (Rw G)) t = false := rfl
theorem has_lt {l : List (Rw G)} {t : Int} (h : has l t = true) : lbp l t < l.length ∧ (l.getD (lbp l t) default).id = t := by
  unfold has hitP at h; simpa using h
theorem getD_eq' {α : Type} {d : α} {l : List α} {k : Nat} (h : k < l.length) : l.getD k d = l[k] := by
  rw [List.getD_eq_getElem?_getD, List.getElem?_eq_getElem h]; rfl
theorem has_false {l : List (Rw G)} {most t : Int} (ok : Ok l most) (h : has l t = false) : ∀ k, lbp l t ≤ k → k < l.length → t < (l.getD k default).id := by
  intro k h1 h2
  have h3 := (ok.lb t).hi k h1 h2
  unfold has hitP at h
  have h4 : ¬(lbp l t < l.length ∧ (l.getD (lbp l t) default).id = t) := of_decide_eq_false h
  rcases Nat.eq_or_lt_of_le h1 with e | e
  · subst e
    have : (l.getD (lbp l t) default).id ≠ t := fun k => h4 ⟨h2, k⟩
    omega
  · have := ok.get e h2
    have := (ok.lb t).hi (lbp l t) (Nat.le_refl _) (by omega)
    omega
theorem Ok.put {l : List (Rw G)} {most : Int} (ok : Ok l most) (t : Int) (v : G) : Ok (putL l most t v).1 most := by
  unfold putL
  split
  · split
    · rename_i h
      obtain ⟨h1, h2⟩ := has_lt h
      refine ⟨?_, by simpa using ok.full, ok.big⟩
      rw [List.pairwise_iff_getElem]
      intro i j hi hj hij
      simp only [List.length_set] at hi hj
      have h3 := ok.get hij hj
      rw [getD_eq' hi, getD_eq' hj] at h3
      rw [getD_eq' h1] at h2
      simp only [List.getElem_set]
      split <;> split
      · omega
      · rename_i e _; subst e; simp only; omega
      · rename_i _ e; subst e; simp only; omega
      · exact h3
    · split
      · exact ok
      · rename_i h h1
        refine ⟨?_, by show ((insAt l (lbp l t) _).length : Int) ≤ most; rw [insAt_length (show lbp l t ≤ l.length from List.findIdx_le_length)]; omega, ok.big⟩
        have hb : has l t = false := by simpa using h
        have lb := ok.lb t
        unfold insAt
        rw [List.pairwise_append]
        refine ⟨ok.rise.sublist (List.take_sublist _ _), List.pairwise_cons.2 ⟨fun a ha => ?_, ok.rise.sublist (List.drop_sublist _ _)⟩, fun a ha b hb' => ?_⟩
        · obtain ⟨k, hk, rfl⟩ := List.mem_iff_getElem.1 ha
          rw [List.length_drop] at hk
          rw [List.getElem_drop]
          have := has_false ok hb (lbp l t + k) (by omega) (by omega)
          rw [getD_eq' (by omega)] at this
          exact this
        · obtain ⟨k, hk, rfl⟩ := List.mem_iff_getElem.1 ha
          rw [List.length_take] at hk
          have h5 := lb.lo k (by omega)
          rw [getD_eq' (by omega)] at h5
          rw [List.getElem_take]
          rcases List.mem_cons.1 hb' with rfl | hb'
          · exact h5
          · obtain ⟨m, hm, rfl⟩ := List.mem_iff_getElem.1 hb'
            rw [List.length_drop] at hm
            rw [List.getElem_drop]
            have := has_false ok hb (lbp l t + m) (by omega) (by omega)
            rw [getD_eq' (by omega)] at this
            omega
  · exact ok
theorem Ok.add {l : List (Rw G)} {most : Int} (ok : Ok l most) (t : Int) (v : G) : Ok (addL l most t v).1 most := by
  unfold addL; split
  · exact ok
  · exact ok.put t v
theorem Ok.drop {l : List (Rw G)} {most : Int} (ok : Ok l most) (t : Int) : Ok (dropL l t) most := by
  unfold dropL; split
  · exact ⟨ok.rise.sublist (List.eraseIdx_sublist _ _), by have := ok.full; have := List.length_eraseIdx_le l (lbp l t); omega, ok.big⟩
  · exact ok
def idsL (l : List (Rw G)) : List (List PV) := l.map fun r => [.int .u32 r.id]
end
theorem gap_le {G : Type} (l : List (Rw G)) : gap l ≤ l.length := by
  unfold gap
  have := List.findIdx_le_length (p := fun r : Rw G × Nat => decide (r.1.id ≠ (r.2 : Int) + 1)) (xs := l.zipIdx)
  simpa using this
theorem gap_stop {G : Type} [Inhabited G] {l : List (Rw G)} {i : Nat} (hi : i ≤ gap l) (h : i < l.length) (c : ¬ (l.getD i default).id = (i : Int) + 1) : gap l = i := by
  rcases Nat.eq_or_lt_of_le hi with e | e
  · exact e.symm
  · exfalso
    have h1 := List.not_of_lt_findIdx e
    have h2 := of_decide_eq_false h1
    rw [List.getElem_zipIdx] at h2
    rw [getD_eq' h] at c
    refine h2 ?_
    simpa using c
theorem gap_step {G : Type} [Inhabited G] {l : List (Rw G)} {i : Nat} (hi : i ≤ gap l) (h : i < l.length) (c : (l.getD i default).id = (i : Int) + 1) : i < gap l := by
  rcases Nat.eq_or_lt_of_le hi with e | e
  · exfalso
    have h0 : gap l < l.zipIdx.length := by simpa [← e] using h
    have h1 := List.findIdx_getElem (p := fun r : Rw G × Nat => decide (r.1.id ≠ (r.2 : Int) + 1)) (xs := l.zipIdx) (w := h0)
    have h2 := of_decide_eq_true h1
    rw [getD_eq' h] at c
    have h3 : ∀ (k : Nat) (hk : k < l.zipIdx.length), k = i → (l.zipIdx[k]).1.id = ((l.zipIdx[k]).2 : Int) + 1 := by
      intro k hk e
      subst e
      rw [List.getElem_zipIdx]
      simpa using c
    exact h2 (h3 _ h0 e.symm)
  · exact e
theorem low0_nil : ∀ x ∈ ([] : List PV), Low 0 x := fun _ h => nomatch h
theorem low0_int {k : IntKind} {n : Int} : ∀ x ∈ [PV.int k n], Low 0 x := fun _ h => by rcases List.mem_singleton.1 h with rfl; exact .int _ _
theorem low2 {J : List PV} {n : Nat} (h : Room J n) : ∀ y ∈ J, Low 2 y := fun y hy => (h.low y hy).up
theorem lbp_le {G : Type} (l : List (Rw G)) (t : Int) : lbp l t ≤ l.length := List.findIdx_le_length
instance mkInh : Inhabited Mk := ⟨⟨0, 0, 0⟩⟩
end Go.Proofs.YtcmknbanojcbaaaDoor
