/-
  What the functions of layer 16 come to, and the laws over pure values: conditions none beyond the kinds' ranges.
-/
import Derived.Test.YtgknnjbojkjiaaaDoorA24
import Derived.Test.YtgknnjbojkjiaaaDoorProg
namespace Go.Proofs.YtgknnjbojkjiaaaDoor
open Go Go.AM Go.Proofs
def gl : Glob := fun k => match k with
  | 0 => some [.int .i64 60, .int .i64 300, .int .i64 900, .int .i64 3600, .int .i64 14400, .int .i64 86400]
  | _ => none
theorem gl_low : GlobLow gl := by
  intro k cs hk x hx
  unfold gl at hk
  split at hk
  · cases hk; simp at hx; rcases hx with rfl | rfl | rfl | rfl | rfl | rfl <;> exact .int _ _
  · cases hk

structure Mk where
  l : Int
  s : Int
  u : Int
def Mk.pv (m : Mk) : PV := .agg [.int .i64 m.l, .int .i64 m.s, .int .i64 m.u]
theorem Mk.low (m : Mk) (n : Nat) : Low n m.pv := .agg _ (by simp [low_int])

abbrev wU (n : Int) : Int := IntKind.wrap .u64 n
abbrev wI (n : Int) : Int := IntKind.wrap .i64 n

-- past
def past (a b : Int) : Int := if b ≤ a then 0 else wU (wU b - wU a)
def past_s (args : List PV) (K : PV → Prop) : Prop := match args with
  | [.int .i64 a, .int .i64 b] => K (.int .u64 (past a b))
  | _ => False
theorem past_vc (a b : Int) (K : PV → Prop) (h : br (decide (b ≤ a)) (K (PV.int IntKind.u64 0))
  (K (PV.int IntKind.u64 (IntKind.wrap IntKind.u64 (IntKind.wrap IntKind.u64 b - IntKind.wrap IntKind.u64 a))))) : ACalls Tryd.prog gl 14 [.int .i64 a, .int .i64 b] [] (fun x _ => K x) :=
  acalls_of_wpc (T := []) (L := []) (fun _ => 0) Tryd.func14 rfl (by kernel_rfl) (Nat.le_of_ble_eq_true (by kernel_rfl)) (TabOk.nil _ _) (LOk.nil _ _ _ _ _) (Eq.mp (by kernel_rfl) h)
theorem past_ok : SpOk Tryd.prog gl 14 (.pure past_s) := by
  intro args K h
  unfold past_s at h
  split at h
  · rename_i a b
    refine spure gl_low (by simp [low_int]) (.int _ _) (past_vc a b _ ?_) h
    simp only [br_if, decide_eq_true_eq, past]
    split <;> rfl
  · exact h.elim

-- level
def level (n : Int) : Int := if n < 0 then 0 else if n > 6 then 6 else n
def level_s (args : List PV) (K : PV → Prop) : Prop := match args with
  | [.int .i64 a] => K (.int .i64 (level a))
  | _ => False
theorem level_vc (a : Int) (K : PV → Prop) (h : br (decide (a < 0)) (K (PV.int IntKind.i64 0))
  (br (decide (a > 6)) (K (PV.int IntKind.i64 6)) (K (PV.int IntKind.i64 a)))) : ACalls Tryd.prog gl 15 [.int .i64 a] [] (fun x _ => K x) :=
  acalls_of_wpc (T := []) (L := []) (fun _ => 0) Tryd.func15 rfl (by kernel_rfl) (Nat.le_of_ble_eq_true (by kernel_rfl)) (TabOk.nil _ _) (LOk.nil _ _ _ _ _) (Eq.mp (by kernel_rfl) h)
theorem level_ok : SpOk Tryd.prog gl 15 (.pure level_s) := by
  intro args K h
  unfold level_s at h
  split at h
  · rename_i a
    refine spure gl_low (by simp [low_int]) (.int _ _) (level_vc a _ ?_) h
    simp only [br_if, decide_eq_true_eq, level]
    (repeat' split) <;> rfl
  · exact h.elim

-- the two Adds
def radd (a b : Int) : Int := if b ≤ 0 then a else if a > 0 ∧ b > wI (9223372036854775807 - a) then 9223372036854775807 else wI (a + b)
def radd_s (args : List PV) (K : PV → Prop) : Prop := match args with
  | [.int .i64 a, .int .i64 b] => K (.int .i64 (radd a b))
  | _ => False
def tadd (a b : Int) : Int := if a > wI (9223372036854775807 - mxI 0 b) then 9223372036854775807 else wI (a + mxI 0 b)
def tadd_s (args : List PV) (K : PV → Prop) : Prop := match args with
  | [.int .i64 a, .int .i64 b] => K (.int .i64 (tadd a b))
  | _ => False
theorem radd_vc (a b : Int) (K : PV → Prop) (h : br (decide (b ≤ 0)) (K (PV.int IntKind.i64 a))
  (br (decide (a > 0) == true)
    (br (decide (b > IntKind.wrap IntKind.i64 (9223372036854775807 - a))) (K (PV.int IntKind.i64 9223372036854775807))
      (K (PV.int IntKind.i64 (IntKind.wrap IntKind.i64 (a + b)))))
    (K (PV.int IntKind.i64 (IntKind.wrap IntKind.i64 (a + b)))))) : ACalls Tryd.prog gl 16 [.int .i64 a, .int .i64 b] [] (fun x _ => K x) :=
  acalls_of_wpc (T := []) (L := []) (fun _ => 0) Tryd.func16 rfl (by kernel_rfl) (Nat.le_of_ble_eq_true (by kernel_rfl)) (TabOk.nil _ _) (LOk.nil _ _ _ _ _) (Eq.mp (by kernel_rfl) h)
theorem tadd_vc (a b : Int) (K : PV → Prop) (h : br (decide (a > IntKind.wrap IntKind.i64 (9223372036854775807 - mxI 0 b))) (K (PV.int IntKind.i64 9223372036854775807))
  (K (PV.int IntKind.i64 (IntKind.wrap IntKind.i64 (a + mxI 0 b))))) : ACalls Tryd.prog gl 17 [.int .i64 a, .int .i64 b] [] (fun x _ => K x) :=
  acalls_of_wpc (T := []) (L := []) (fun _ => 0) Tryd.func17 rfl (by kernel_rfl) (Nat.le_of_ble_eq_true (by kernel_rfl)) (TabOk.nil _ _) (LOk.nil _ _ _ _ _) (Eq.mp (by kernel_rfl) h)
theorem radd_ok : SpOk Tryd.prog gl 16 (.pure radd_s) := by
  intro args K h
  unfold radd_s at h
  split at h
  · rename_i a b
    refine spure gl_low (by simp [low_int]) (.int _ _) (radd_vc a b _ ?_) h
    simp only [br_if, decide_eq_true_eq, beq_true, radd]
    (repeat' split) <;> first | rfl | (exfalso; simp_all; done)
  · exact h.elim
theorem tadd_ok : SpOk Tryd.prog gl 17 (.pure tadd_s) := by
  intro args K h
  unfold tadd_s at h
  split at h
  · rename_i a b
    refine spure gl_low (by simp [low_int]) (.int _ _) (tadd_vc a b _ ?_) h
    simp only [br_if, decide_eq_true_eq, tadd]
    (repeat' split) <;> rfl
  · exact h.elim

def T1 : Tab := [(14, .pure past_s), (15, .pure level_s), (16, .pure radd_s), (17, .pure tadd_s)]
theorem T1_ok : TabOk Tryd.prog gl T1 := .cons past_ok (.cons level_ok (.cons radd_ok (.cons tadd_ok (.nil _ _))))

-- own
def own_s (args : List PV) (K : PV → Prop) : Prop := match args with
  | [.agg [.int .i64 l, .int .i64 s, .int .i64 u]] => K (Mk.pv ⟨l, s, u⟩)
  | _ => False
theorem own_vc (m : Mk) (K : PV → Prop) (h : K (PV.agg [PV.int IntKind.i64 (Mk.l m), PV.int IntKind.i64 (Mk.s m), PV.int IntKind.i64 (Mk.u m)])) : ACalls Tryd.prog gl 6 [m.pv] [] (fun x _ => K x) :=
  acalls_of_wpc (T := []) (L := []) (fun _ => 0) Tryd.func6 rfl (by kernel_rfl) (Nat.le_of_ble_eq_true (by kernel_rfl)) (TabOk.nil _ _) (LOk.nil _ _ _ _ _) (Eq.mp (by kernel_rfl) h)
theorem own_ok : SpOk Tryd.prog gl 6 (.pure own_s) := by
  intro args K h
  unfold own_s at h
  split at h
  · rename_i l s u
    exact spure gl_low (by simp [low_int, low_agg]) (Mk.low _ _) (own_vc ⟨l, s, u⟩ _ rfl) h
  · exact h.elim

-- At
def steps (m : Mk) (now : Int) : Int := wU ((past m.s now).tdiv 10000)
def lv (n : Int) : Int := mnI (mxI n 0) 6
def at_ (m : Mk) (now : Int) : Mk :=
  if steps m now ≥ wU (lv m.l) then ⟨0, 0, if m.u ≤ now then 0 else m.u⟩
  else ⟨wI (lv m.l - wI (steps m now)), wI (m.s + wI (wI (steps m now) * 10000)), m.u⟩
def at_s (args : List PV) (K : PV → Prop) : Prop := match args with
  | [.agg [.int .i64 l, .int .i64 s, .int .i64 u], .int .i64 now] => K (Mk.pv (at_ ⟨l, s, u⟩ now))
  | _ => False
theorem at_vc (m : Mk) (now : Int) (K : PV → Prop) (h : br
  (decide
    (IntKind.wrap IntKind.u64 (Int.tdiv (past (Mk.s m) now) 10000) ≥ IntKind.wrap IntKind.u64 (mnI (mxI (Mk.l m) 0) 6)))
  (br (decide (Mk.u m ≤ now)) (K (PV.agg [PV.int IntKind.i64 0, PV.int IntKind.i64 0, PV.int IntKind.i64 0]))
    (K (PV.agg [PV.int IntKind.i64 0, PV.int IntKind.i64 0, PV.int IntKind.i64 (Mk.u m)])))
  (K
    (PV.agg
      [PV.int IntKind.i64
          (IntKind.wrap IntKind.i64
            (mnI (mxI (Mk.l m) 0) 6 -
              IntKind.wrap IntKind.i64 (IntKind.wrap IntKind.u64 (Int.tdiv (past (Mk.s m) now) 10000)))),
        PV.int IntKind.i64
          (IntKind.wrap IntKind.i64
            (Mk.s m +
              IntKind.wrap IntKind.i64
                (IntKind.wrap IntKind.i64 (IntKind.wrap IntKind.u64 (Int.tdiv (past (Mk.s m) now) 10000)) * 10000))),
        PV.int IntKind.i64 (Mk.u m)]))) : ACalls Tryd.prog gl 7 [m.pv, .int .i64 now] [] (fun x _ => K x) :=
  acalls_of_wpc (T := T1) (L := []) (fun _ => 0) Tryd.func7 rfl (by kernel_rfl) (Nat.le_of_ble_eq_true (by kernel_rfl)) (T1_ok) (LOk.nil _ _ _ _ _) (Eq.mp (by kernel_rfl) h)
theorem at_ok : SpOk Tryd.prog gl 7 (.pure at_s) := by
  intro args K h
  unfold at_s at h
  split at h
  · rename_i l s u now
    refine spure gl_low (by simp [low_int, low_agg]) (Mk.low _ _) (at_vc ⟨l, s, u⟩ now _ ?_) h
    simp only [br_if, decide_eq_true_eq, at_, steps, lv]
    (repeat' split) <;> rfl
  · exact h.elim

-- Left
def left (m : Mk) (now : Int) : Int := wI (mnI (past now m.u) 9223372036854775807)
def left_s (args : List PV) (K : PV → Prop) : Prop := match args with
  | [.agg [.int .i64 l, .int .i64 s, .int .i64 u], .int .i64 now] => K (.int .i64 (left ⟨l, s, u⟩ now))
  | _ => False
def rleft (m : Mk) (now : Int) : Int := if m.u ≤ now then 0 else if now < 0 ∧ m.u > wI (9223372036854775807 + now) then 9223372036854775807 else wI (m.u - now)
def rleft_s (args : List PV) (K : PV → Prop) : Prop := match args with
  | [.agg [.int .i64 l, .int .i64 s, .int .i64 u], .int .i64 now] => K (.int .i64 (rleft ⟨l, s, u⟩ now))
  | _ => False
theorem left_vc (m : Mk) (now : Int) (K : PV → Prop) (h : K (PV.int IntKind.i64 (IntKind.wrap IntKind.i64 (mnI (past now (Mk.u m)) 9223372036854775807)))) : ACalls Tryd.prog gl 11 [m.pv, .int .i64 now] [] (fun x _ => K x) :=
  acalls_of_wpc (T := T1) (L := []) (fun _ => 0) Tryd.func11 rfl (by kernel_rfl) (Nat.le_of_ble_eq_true (by kernel_rfl)) (T1_ok) (LOk.nil _ _ _ _ _) (Eq.mp (by kernel_rfl) h)
theorem rleft_vc (m : Mk) (now : Int) (K : PV → Prop) (h : br (decide (Mk.u m ≤ now)) (K (PV.int IntKind.i64 0))
  (br (decide (now < 0) == true)
    (br (decide (Mk.u m > IntKind.wrap IntKind.i64 (9223372036854775807 + now)))
      (K (PV.int IntKind.i64 9223372036854775807)) (K (PV.int IntKind.i64 (IntKind.wrap IntKind.i64 (Mk.u m - now)))))
    (K (PV.int IntKind.i64 (IntKind.wrap IntKind.i64 (Mk.u m - now)))))) : ACalls Tryd.prog gl 12 [m.pv, .int .i64 now] [] (fun x _ => K x) :=
  acalls_of_wpc (T := T1) (L := []) (fun _ => 0) Tryd.func12 rfl (by kernel_rfl) (Nat.le_of_ble_eq_true (by kernel_rfl)) (T1_ok) (LOk.nil _ _ _ _ _) (Eq.mp (by kernel_rfl) h)
theorem left_ok : SpOk Tryd.prog gl 11 (.pure left_s) := by
  intro args K h
  unfold left_s at h
  split at h
  · rename_i l s u now
    exact spure gl_low (by simp [low_int, low_agg]) (.int _ _) (left_vc ⟨l, s, u⟩ now _ rfl) h
  · exact h.elim
theorem rleft_ok : SpOk Tryd.prog gl 12 (.pure rleft_s) := by
  intro args K h
  unfold rleft_s at h
  split at h
  · rename_i l s u now
    refine spure gl_low (by simp [low_int, low_agg]) (.int _ _) (rleft_vc ⟨l, s, u⟩ now _ ?_) h
    simp only [br_if, decide_eq_true_eq, beq_true, rleft]
    (repeat' split) <;> first | rfl | (exfalso; simp_all; done)
  · exact h.elim

-- the reference's At
def more (l s now : Int) : Prop := l > 0 ∧ s < now ∧ radd s 10000 ≤ now ∧ wI (radd s 10000 - 10000) = s
instance (l s now : Int) : Decidable (more l s now) := by unfold more; infer_instance
def down : Nat → Int → Int → Int → Int × Int
  | 0, l, s, _ => (l, s)
  | n + 1, l, s, now => if more l s now then down n (wI (l - 1)) (wI (s + 10000)) now else (l, s)
def down_l : LSp := fun e H Q => ∃ l s u now : Int, (0 ≤ l ∧ l ≤ 6) ∧ List.map e [1, 2, 4] = [.int .i64 now, .ptr 0 0, .ptr 1 0] ∧ H = [.cells [.int .i64 l, .int .i64 s, .int .i64 u], .cells [.int .i64 0, .int .i64 0, .int .i64 0]] ∧
  Q (.exit 0) (envS [1, 2, 4] [.int .i64 now, .ptr 0 0, .ptr 1 0]) [.cells [.int .i64 (down 6 l s now).1, .int .i64 (down 6 l s now).2, .int .i64 u], .cells [.int .i64 0, .int .i64 0, .int .i64 0]]
theorem down_vc (l s u now : Int) (R : Ex → List PV → Heap → Prop) (h : br (decide (l > 0) == true)
  (br (decide (s < now) == true)
    (br (decide (radd s 10000 ≤ now) == true)
      (br (IntKind.wrap IntKind.i64 (radd s 10000 - 10000) == s)
        (R Ex.normal [PV.int IntKind.i64 now, PV.ptr 0 0, PV.ptr 1 0]
          [Ob.cells
              [PV.int IntKind.i64 (IntKind.wrap IntKind.i64 (l - 1)),
                PV.int IntKind.i64 (IntKind.wrap IntKind.i64 (s + 10000)), PV.int IntKind.i64 u],
            Ob.cells [PV.int IntKind.i64 0, PV.int IntKind.i64 0, PV.int IntKind.i64 0]])
        (R (Ex.exit 0) [PV.int IntKind.i64 now, PV.ptr 0 0, PV.ptr 1 0]
          [Ob.cells [PV.int IntKind.i64 l, PV.int IntKind.i64 s, PV.int IntKind.i64 u],
            Ob.cells [PV.int IntKind.i64 0, PV.int IntKind.i64 0, PV.int IntKind.i64 0]]))
      (R (Ex.exit 0) [PV.int IntKind.i64 now, PV.ptr 0 0, PV.ptr 1 0]
        [Ob.cells [PV.int IntKind.i64 l, PV.int IntKind.i64 s, PV.int IntKind.i64 u],
          Ob.cells [PV.int IntKind.i64 0, PV.int IntKind.i64 0, PV.int IntKind.i64 0]]))
    (R (Ex.exit 0) [PV.int IntKind.i64 now, PV.ptr 0 0, PV.ptr 1 0]
      [Ob.cells [PV.int IntKind.i64 l, PV.int IntKind.i64 s, PV.int IntKind.i64 u],
        Ob.cells [PV.int IntKind.i64 0, PV.int IntKind.i64 0, PV.int IntKind.i64 0]]))
  (R (Ex.exit 0) [PV.int IntKind.i64 now, PV.ptr 0 0, PV.ptr 1 0]
    [Ob.cells [PV.int IntKind.i64 l, PV.int IntKind.i64 s, PV.int IntKind.i64 u],
      Ob.cells [PV.int IntKind.i64 0, PV.int IntKind.i64 0, PV.int IntKind.i64 0]])) : wpc br Tryd.prog gl T1 [] (fun _ => 0) (subOf [1, 1, 0, 0] (bodyOf Tryd.f8)) [] (envS [1, 2, 4] [.int .i64 now, .ptr 0 0, .ptr 1 0]) [.cells [.int .i64 l, .int .i64 s, .int .i64 u], .cells [.int .i64 0, .int .i64 0, .int .i64 0]] (fun ex e H => R ex (List.map e [1, 2, 4]) H) := Eq.mp (by kernel_rfl) h
theorem down_step (n : Nat) (l s now : Int) (h : l ≤ n) : down n l s now = if more l s now then down (n - 1) (wI (l - 1)) (wI (s + 10000)) now else (l, s) := by
  cases n with
  | zero =>
    rw [if_neg (by unfold more; simp at h; omega)]; rfl
  | succ n => rfl
theorem down_ok : ∀ e H Q, down_l e H Q → AW Tryd.prog gl Tryd.f8.ntmps (.loop (subOf [1, 1, 0, 0] (bodyOf Tryd.f8))) Q e H := by
  rintro e H Q ⟨l, s, u, now, hl, he, hH, hQ⟩
  refine aw_loop4 (hn := fun _ => 0) gl_low T1_ok (.nil _ _ _ _ _) (σ := Nat × Int × Int) [1, 2, 4] (fun p => (0 ≤ p.2.1 ∧ p.2.1 ≤ p.1 ∧ p.1 ≤ 6) ∧ down p.1 p.2.1 p.2.2 now = down 6 l s now) (fun _ => [.int .i64 now, .ptr 0 0, .ptr 1 0])
    (fun p => [.cells [.int .i64 p.2.1, .int .i64 p.2.2, .int .i64 u], .cells [.int .i64 0, .int .i64 0, .int .i64 0]]) (fun p => p.1) (6, l, s) ⟨⟨hl.1, hl.2, by simp⟩, rfl⟩ he hH ?_
  rintro ⟨k, l1, s1⟩ ⟨⟨h1, h2, h3⟩, h4⟩
  simp only at h1 h2 h3 h4
  refine down_vc l1 s1 u now _ ?_
  have fin : ¬ more l1 s1 now → loopR Q [1, 2, 4] (fun p : Nat × Int × Int => (0 ≤ p.2.1 ∧ p.2.1 ≤ p.1 ∧ p.1 ≤ 6) ∧ down p.1 p.2.1 p.2.2 now = down 6 l s now) (fun _ => [.int .i64 now, .ptr 0 0, .ptr 1 0])
      (fun p => [.cells [.int .i64 p.2.1, .int .i64 p.2.2, .int .i64 u], .cells [.int .i64 0, .int .i64 0, .int .i64 0]]) (fun p => p.1) (k, l1, s1) (.exit 0) [.int .i64 now, .ptr 0 0, .ptr 1 0] [.cells [.int .i64 l1, .int .i64 s1, .int .i64 u], .cells [.int .i64 0, .int .i64 0, .int .i64 0]] := by
    intro hm
    rw [down_step _ _ _ _ h2, if_neg hm] at h4
    show Q _ _ _
    rw [← h4] at hQ
    exact hQ
  simp only [br_if, decide_eq_true_eq, beq_true, beq_iff_eq]
  by_cases hm : more l1 s1 now
  · have hm' := hm
    obtain ⟨m1, m2, m3, m4⟩ := hm'
    simp only [m1, m2, m3, m4, if_true]
    rw [down_step _ _ _ _ h2, if_pos hm] at h4
    have hw : wI (l1 - 1) = l1 - 1 := by simp only [wI, IntKind.wrap, IntKind.bits, IntKind.signed]; simp; omega
    refine ⟨(k - 1, wI (l1 - 1), wI (s1 + 10000)), ?_, ⟨?_, h4⟩, rfl, [], rfl, Nat.le_refl _, .inl rfl⟩
    · simp only; omega
    · simp only [hw]; omega
  · have hf := fin hm
    unfold more at hm
    (repeat' split) <;> first | exact hf | (exfalso; exact hm ⟨by assumption, by assumption, by assumption, by assumption⟩)

def rat (m : Mk) (now : Int) : Mk :=
  let p := down 6 (level m.l) m.s now
  if p.1 = 0 then ⟨p.1, 0, if m.u ≤ now then 0 else m.u⟩ else ⟨p.1, p.2, m.u⟩
def rat_s (args : List PV) (K : PV → Prop) : Prop := match args with
  | [.agg [.int .i64 l, .int .i64 s, .int .i64 u], .int .i64 now] => K (Mk.pv (rat ⟨l, s, u⟩ now))
  | _ => False
theorem rat_vc (m : Mk) (now : Int) (K : PV → Prop) (h : ∃ (l : Int),
  ∃ (s : Int),
    ∃ (u : Int),
      ∃ (now_1 : Int),
        (0 ≤ l ∧ l ≤ 6) ∧
          [PV.int IntKind.i64 now, PV.ptr 0 0, PV.ptr 1 0] = [PV.int IntKind.i64 now_1, PV.ptr 0 0, PV.ptr 1 0] ∧
            [Ob.cells [PV.int IntKind.i64 (level (Mk.l m)), PV.int IntKind.i64 (Mk.s m), PV.int IntKind.i64 (Mk.u m)],
                  Ob.cells [PV.int IntKind.i64 0, PV.int IntKind.i64 0, PV.int IntKind.i64 0]] =
                [Ob.cells [PV.int IntKind.i64 l, PV.int IntKind.i64 s, PV.int IntKind.i64 u],
                  Ob.cells [PV.int IntKind.i64 0, PV.int IntKind.i64 0, PV.int IntKind.i64 0]] ∧
              br (Prod.fst (down 6 l s now_1) == 0)
                (br (decide (u ≤ now_1))
                  (K
                    (PV.agg
                      [PV.int IntKind.i64 (Prod.fst (down 6 l s now_1)), PV.int IntKind.i64 0, PV.int IntKind.i64 0]))
                  (K
                    (PV.agg
                      [PV.int IntKind.i64 (Prod.fst (down 6 l s now_1)), PV.int IntKind.i64 0, PV.int IntKind.i64 u])))
                (K
                  (PV.agg
                    [PV.int IntKind.i64 (Prod.fst (down 6 l s now_1)), PV.int IntKind.i64 (Prod.snd (down 6 l s now_1)),
                      PV.int IntKind.i64 u]))) : ACalls Tryd.prog gl 8 [m.pv, .int .i64 now] [] (fun x _ => K x) :=
  acalls_of_wpc (T := T1) (L := [([1, 1, 0, 0], down_l)]) (fun _ => 0) Tryd.func8 rfl (by kernel_rfl) (Nat.le_of_ble_eq_true (by kernel_rfl)) (T1_ok) (.cons (sub_of (by kernel_rfl)) down_ok (.nil _ _ _ _ _)) (Eq.mp (by kernel_rfl) h)
theorem rat_ok : SpOk Tryd.prog gl 8 (.pure rat_s) := by
  intro args K h
  unfold rat_s at h
  split at h
  · rename_i l s u now
    refine spure gl_low (by simp [low_int, low_agg]) (Mk.low _ _) (rat_vc ⟨l, s, u⟩ now _ ?_) h
    refine ⟨_, _, _, _, ?_, rfl, rfl, ?_⟩
    · unfold level; (repeat' split) <;> omega
    simp only [br_if, decide_eq_true_eq, beq_iff_eq, rat]
    (repeat' split) <;> rfl
  · exact h.elim

def T2 : Tab := (6, .pure own_s) :: (7, .pure at_s) :: (8, .pure rat_s) :: (11, .pure left_s) :: (12, .pure rleft_s) :: T1
theorem T2_ok : TabOk Tryd.prog gl T2 := .cons own_ok (.cons at_ok (.cons rat_ok (.cons left_ok (.cons rleft_ok T1_ok))))
def rung (l : Int) : Int := ([60, 300, 900, 3600, 14400, 86400] : List Int).getD (l - 1).toNat 0
theorem rung_cases {l : Int} {p : Int → Prop} (h1 : 1 ≤ l) (h6 : l ≤ 6) (h : p 1 ∧ p 2 ∧ p 3 ∧ p 4 ∧ p 5 ∧ p 6) : p l := by
  obtain ⟨a, b, c, d, e, f⟩ := h
  have : l = 1 ∨ l = 2 ∨ l = 3 ∨ l = 4 ∨ l = 5 ∨ l = 6 := by omega
  rcases this with rfl | rfl | rfl | rfl | rfl | rfl <;> assumption
theorem lv_range (n : Int) : 0 ≤ lv n ∧ lv n ≤ 6 := by unfold lv mnI mxI; (repeat' split) <;> omega
theorem at_range (m : Mk) (now : Int) : 0 ≤ (at_ m now).l ∧ (at_ m now).l ≤ 6 := by
  have h1 := lv_range m.l
  have h2 := wrap_u64_range ((past m.s now).tdiv 10000)
  unfold at_
  split
  · simp
  · rename_i h
    have e1 : wU (lv m.l) = lv m.l := wrap_u64 h1.1 (by omega)
    rw [e1] at h
    have h3 : 0 ≤ steps m now := h2.1
    have e2 : wI (steps m now) = steps m now := wrap_i64 (by omega) (by omega)
    have e3 : wI (lv m.l - wI (steps m now)) = lv m.l - steps m now := by rw [e2]; exact wrap_i64 (by omega) (by omega)
    show 0 ≤ wI _ ∧ wI _ ≤ 6
    rw [e3]; omega
theorem down_range (now : Int) : ∀ (n : Nat) (l s : Int), 0 ≤ l → l ≤ 6 → 0 ≤ (down n l s now).1 ∧ (down n l s now).1 ≤ 6
  | 0, l, s, h0, h6 => ⟨h0, h6⟩
  | n + 1, l, s, h0, h6 => by
    unfold down
    split
    · rename_i hm
      have h1 : l > 0 := hm.1
      have e : wI (l - 1) = l - 1 := wrap_i64 (by omega) (by omega)
      rw [e]
      exact down_range now n _ _ (by omega) (by omega)
    · exact ⟨h0, h6⟩
theorem level_range (n : Int) : 0 ≤ level n ∧ level n ≤ 6 := by unfold level; (repeat' split) <;> omega
theorem rat_range (m : Mk) (now : Int) : 0 ≤ (rat m now).l ∧ (rat m now).l ≤ 6 := by
  have h := down_range now 6 (level m.l) m.s (level_range _).1 (level_range _).2
  unfold rat
  simp only
  split <;> exact h

def hit (m : Mk) (now : Int) : Mk := ⟨mnI (wI ((at_ m now).l + 1)) 6, now, mxI (at_ m now).u (tadd now (rung (mnI (wI ((at_ m now).l + 1)) 6)))⟩
def hit_s (args : List PV) (K : PV → Prop) : Prop := match args with
  | [.agg [.int .i64 l, .int .i64 s, .int .i64 u], .int .i64 now] => K (Mk.pv (hit ⟨l, s, u⟩ now))
  | _ => False
def rhit (m : Mk) (now : Int) : Mk := ⟨level (wI ((rat m now).l + 1)), now, if radd now (rung (level (wI ((rat m now).l + 1)))) > (rat m now).u then radd now (rung (level (wI ((rat m now).l + 1)))) else (rat m now).u⟩
def rhit_s (args : List PV) (K : PV → Prop) : Prop := match args with
  | [.agg [.int .i64 l, .int .i64 s, .int .i64 u], .int .i64 now] => K (Mk.pv (rhit ⟨l, s, u⟩ now))
  | _ => False
theorem hit_vc (m : Mk) (now : Int) (K : PV → Prop) (h : br
  (decide (0 ≤ IntKind.wrap IntKind.i64 (mnI (IntKind.wrap IntKind.i64 (Mk.l (at_ m now) + 1)) 6 - 1)) &&
    decide (IntKind.wrap IntKind.i64 (mnI (IntKind.wrap IntKind.i64 (Mk.l (at_ m now) + 1)) 6 - 1) < 6))
  (br
    (true &&
      fitX [CK.int IntKind.i64] 0
        (List.drop
          (Int.toNat (IntKind.wrap IntKind.i64 (mnI (IntKind.wrap IntKind.i64 (Mk.l (at_ m now) + 1)) 6 - 1)) * 1)
          [PV.int IntKind.i64 60, PV.int IntKind.i64 300, PV.int IntKind.i64 900, PV.int IntKind.i64 3600,
            PV.int IntKind.i64 14400, PV.int IntKind.i64 86400]))
    (K
      (PV.agg
        [PV.int IntKind.i64 (mnI (IntKind.wrap IntKind.i64 (Mk.l (at_ m now) + 1)) 6), PV.int IntKind.i64 now,
          PV.int IntKind.i64
            (mxI (Mk.u (at_ m now))
              (tadd now
                (cI
                  (List.drop
                    (Int.toNat
                        (IntKind.wrap IntKind.i64 (mnI (IntKind.wrap IntKind.i64 (Mk.l (at_ m now) + 1)) 6 - 1)) *
                      1)
                    [PV.int IntKind.i64 60, PV.int IntKind.i64 300, PV.int IntKind.i64 900, PV.int IntKind.i64 3600,
                      PV.int IntKind.i64 14400, PV.int IntKind.i64 86400])
                  0)))]))
    False)
  False) : ACalls Tryd.prog gl 9 [m.pv, .int .i64 now] [] (fun x _ => K x) :=
  acalls_of_wpc (T := T2) (L := []) (fun _ => 0) Tryd.func9 rfl (by kernel_rfl) (Nat.le_of_ble_eq_true (by kernel_rfl)) (T2_ok) (LOk.nil _ _ _ _ _) (Eq.mp (by kernel_rfl) h)
theorem rhit_vc (m : Mk) (now : Int) (K : PV → Prop) (h : InL
    [[PV.int IntKind.i64 60], [PV.int IntKind.i64 300], [PV.int IntKind.i64 900], [PV.int IntKind.i64 3600],
      [PV.int IntKind.i64 14400], [PV.int IntKind.i64 86400]]
    1 (IntKind.wrap IntKind.i64 (level (IntKind.wrap IntKind.i64 (Mk.l (rat m now) + 1)) - 1)) ∧
  br
    (true &&
      fitX [CK.int IntKind.i64] 0
        (List.getD
          [[PV.int IntKind.i64 60], [PV.int IntKind.i64 300], [PV.int IntKind.i64 900], [PV.int IntKind.i64 3600],
            [PV.int IntKind.i64 14400], [PV.int IntKind.i64 86400]]
          (Int.toNat (IntKind.wrap IntKind.i64 (level (IntKind.wrap IntKind.i64 (Mk.l (rat m now) + 1)) - 1))) []))
    (br
      (decide
        (radd now
            (cI
              (List.getD
                [[PV.int IntKind.i64 60], [PV.int IntKind.i64 300], [PV.int IntKind.i64 900], [PV.int IntKind.i64 3600],
                  [PV.int IntKind.i64 14400], [PV.int IntKind.i64 86400]]
                (Int.toNat (IntKind.wrap IntKind.i64 (level (IntKind.wrap IntKind.i64 (Mk.l (rat m now) + 1)) - 1))) [])
              0) >
          Mk.u (rat m now)))
      (K
        (PV.agg
          [PV.int IntKind.i64 (level (IntKind.wrap IntKind.i64 (Mk.l (rat m now) + 1))), PV.int IntKind.i64 now,
            PV.int IntKind.i64
              (radd now
                (cI
                  (List.getD
                    [[PV.int IntKind.i64 60], [PV.int IntKind.i64 300], [PV.int IntKind.i64 900],
                      [PV.int IntKind.i64 3600], [PV.int IntKind.i64 14400], [PV.int IntKind.i64 86400]]
                    (Int.toNat (IntKind.wrap IntKind.i64 (level (IntKind.wrap IntKind.i64 (Mk.l (rat m now) + 1)) - 1)))
                    [])
                  0))]))
      (K
        (PV.agg
          [PV.int IntKind.i64 (level (IntKind.wrap IntKind.i64 (Mk.l (rat m now) + 1))), PV.int IntKind.i64 now,
            PV.int IntKind.i64 (Mk.u (rat m now))])))
    False) : ACalls Tryd.prog gl 10 [m.pv, .int .i64 now] [] (fun x _ => K x) :=
  acalls_of_wpc (T := T2) (L := []) (fun _ => 0) Tryd.func10 rfl (by kernel_rfl) (Nat.le_of_ble_eq_true (by kernel_rfl)) (T2_ok) (LOk.nil _ _ _ _ _) (Eq.mp (by kernel_rfl) h)
theorem hit_lvl (m : Mk) (now : Int) : 1 ≤ mnI (wI ((at_ m now).l + 1)) 6 ∧ mnI (wI ((at_ m now).l + 1)) 6 ≤ 6 ∧ wI (mnI (wI ((at_ m now).l + 1)) 6 - 1) = mnI (wI ((at_ m now).l + 1)) 6 - 1 := by
  have h := at_range m now
  have e : wI ((at_ m now).l + 1) = (at_ m now).l + 1 := wrap_i64 (by omega) (by omega)
  rw [e]
  have h2 : 1 ≤ mnI ((at_ m now).l + 1) 6 ∧ mnI ((at_ m now).l + 1) 6 ≤ 6 := by unfold mnI; split <;> omega
  exact ⟨h2.1, h2.2, wrap_i64 (by omega) (by omega)⟩
theorem rung_drop {l : Int} (h1 : 1 ≤ l) (h6 : l ≤ 6) : fitX [CK.int IntKind.i64] 0 (List.drop (Int.toNat (l - 1) * 1) [PV.int IntKind.i64 60, PV.int IntKind.i64 300, PV.int IntKind.i64 900, PV.int IntKind.i64 3600, PV.int IntKind.i64 14400, PV.int IntKind.i64 86400]) = true ∧
    cI (List.drop (Int.toNat (l - 1) * 1) [PV.int IntKind.i64 60, PV.int IntKind.i64 300, PV.int IntKind.i64 900, PV.int IntKind.i64 3600, PV.int IntKind.i64 14400, PV.int IntKind.i64 86400]) 0 = rung l := by
  refine rung_cases (p := fun l => fitX [CK.int IntKind.i64] 0 (List.drop (Int.toNat (l - 1) * 1) [PV.int IntKind.i64 60, PV.int IntKind.i64 300, PV.int IntKind.i64 900, PV.int IntKind.i64 3600, PV.int IntKind.i64 14400, PV.int IntKind.i64 86400]) = true ∧
    cI (List.drop (Int.toNat (l - 1) * 1) [PV.int IntKind.i64 60, PV.int IntKind.i64 300, PV.int IntKind.i64 900, PV.int IntKind.i64 3600, PV.int IntKind.i64 14400, PV.int IntKind.i64 86400]) 0 = rung l) h1 h6 ?_
  refine ⟨⟨rfl, rfl⟩, ⟨rfl, rfl⟩, ⟨rfl, rfl⟩, ⟨rfl, rfl⟩, ⟨rfl, rfl⟩, ⟨rfl, rfl⟩⟩
theorem rung_get {l : Int} (h1 : 1 ≤ l) (h6 : l ≤ 6) : InL [[PV.int IntKind.i64 60], [PV.int IntKind.i64 300], [PV.int IntKind.i64 900], [PV.int IntKind.i64 3600], [PV.int IntKind.i64 14400], [PV.int IntKind.i64 86400]] 1 (l - 1) ∧
    fitX [CK.int IntKind.i64] 0 (List.getD [[PV.int IntKind.i64 60], [PV.int IntKind.i64 300], [PV.int IntKind.i64 900], [PV.int IntKind.i64 3600], [PV.int IntKind.i64 14400], [PV.int IntKind.i64 86400]] (Int.toNat (l - 1)) []) = true ∧
    cI (List.getD [[PV.int IntKind.i64 60], [PV.int IntKind.i64 300], [PV.int IntKind.i64 900], [PV.int IntKind.i64 3600], [PV.int IntKind.i64 14400], [PV.int IntKind.i64 86400]] (Int.toNat (l - 1)) []) 0 = rung l := by
  refine ⟨⟨by omega, by simp; omega, by intro e he; simp at he; rcases he with rfl | rfl | rfl | rfl | rfl | rfl <;> rfl, by decide⟩, ?_⟩
  refine rung_cases (p := fun l => fitX [CK.int IntKind.i64] 0 (List.getD [[PV.int IntKind.i64 60], [PV.int IntKind.i64 300], [PV.int IntKind.i64 900], [PV.int IntKind.i64 3600], [PV.int IntKind.i64 14400], [PV.int IntKind.i64 86400]] (Int.toNat (l - 1)) []) = true ∧
    cI (List.getD [[PV.int IntKind.i64 60], [PV.int IntKind.i64 300], [PV.int IntKind.i64 900], [PV.int IntKind.i64 3600], [PV.int IntKind.i64 14400], [PV.int IntKind.i64 86400]] (Int.toNat (l - 1)) []) 0 = rung l) h1 h6 ?_
  refine ⟨⟨rfl, rfl⟩, ⟨rfl, rfl⟩, ⟨rfl, rfl⟩, ⟨rfl, rfl⟩, ⟨rfl, rfl⟩, ⟨rfl, rfl⟩⟩
theorem hit_ok : SpOk Tryd.prog gl 9 (.pure hit_s) := by
  intro args K h
  unfold hit_s at h
  split at h
  · rename_i l s u now
    refine spure gl_low (by simp [low_int, low_agg]) (Mk.low _ _) (hit_vc ⟨l, s, u⟩ now _ ?_) h
    obtain ⟨h1, h6, hw⟩ := hit_lvl ⟨l, s, u⟩ now
    obtain ⟨h7, h8⟩ := rung_drop h1 h6
    simp only [wI] at hw h1 h6 h7 h8
    simp only [br_if, hw, h7, h8]
    rw [if_pos (by simp; omega)]
    rfl
  · exact h.elim
theorem rhit_lvl (m : Mk) (now : Int) : 1 ≤ level (wI ((rat m now).l + 1)) ∧ level (wI ((rat m now).l + 1)) ≤ 6 ∧ wI (level (wI ((rat m now).l + 1)) - 1) = level (wI ((rat m now).l + 1)) - 1 := by
  have h := rat_range m now
  have e : wI ((rat m now).l + 1) = (rat m now).l + 1 := wrap_i64 (by omega) (by omega)
  rw [e]
  have h2 : 1 ≤ level ((rat m now).l + 1) ∧ level ((rat m now).l + 1) ≤ 6 := by unfold level; (repeat' split) <;> omega
  exact ⟨h2.1, h2.2, wrap_i64 (by omega) (by omega)⟩
theorem rhit_ok : SpOk Tryd.prog gl 10 (.pure rhit_s) := by
  intro args K h
  unfold rhit_s at h
  split at h
  · rename_i l s u now
    refine spure gl_low (by simp [low_int, low_agg]) (Mk.low _ _) (rhit_vc ⟨l, s, u⟩ now _ ?_) h
    obtain ⟨h1, h6, hw⟩ := rhit_lvl ⟨l, s, u⟩ now
    obtain ⟨h5, h7, h8⟩ := rung_get h1 h6
    simp only [wI] at hw h1 h6 h5 h7 h8
    simp only [br_if, hw, h7, h8, decide_eq_true_eq]
    refine ⟨h5, ?_⟩
    simp only [Bool.and_self, if_true, rhit]
    split <;> rfl
  · exact h.elim
def T3 : Tab := (9, .pure hit_s) :: (10, .pure rhit_s) :: T2
theorem T3_ok : TabOk Tryd.prog gl T3 := .cons hit_ok (.cons rhit_ok T2_ok)
theorem awake_vc  (K : PV → Prop) (h : K (PV.bool true)) : ACalls Tryd.prog gl 13 [] [] (fun x _ => K x) :=
  acalls_of_wpc (T := T3) (L := []) (fun _ => 0) Tryd.func13 rfl (by kernel_rfl) (Nat.le_of_ble_eq_true (by kernel_rfl)) (T3_ok) (LOk.nil _ _ _ _ _) (Eq.mp (by kernel_rfl) h)
def awake_s (args : List PV) (K : PV → Prop) : Prop := match args with
  | [] => K (.bool true)
  | _ => False
theorem awake_ok : SpOk Tryd.prog gl 13 (.pure awake_s) := by
  intro args K h
  unfold awake_s at h
  split at h
  · exact spure gl_low (by simp) (.bool _) (awake_vc _ rfl) h
  · exact h.elim
def T4 : Tab := (13, .pure awake_s) :: T3
theorem T4_ok : TabOk Tryd.prog gl T4 := .cons awake_ok T3_ok
theorem marks_vc (m : Mk) (now : Int) (K : PV → Prop) (h : br
  ((Mk.l (at_ m now) == Mk.l (rat m now) &&
      (Mk.s (at_ m now) == Mk.s (rat m now) && (Mk.u (at_ m now) == Mk.u (rat m now) && true))) ==
    true)
  (br
    ((Mk.l (hit m now) == Mk.l (rhit m now) &&
        (Mk.s (hit m now) == Mk.s (rhit m now) && (Mk.u (hit m now) == Mk.u (rhit m now) && true))) ==
      true)
    (br ((left m now == rleft m now) == true) (K (PV.bool true)) (K (PV.bool false))) (K (PV.bool false)))
  (K (PV.bool false))) : ACalls Tryd.prog gl 3 [m.pv, .int .i64 now] [] (fun x _ => K x) :=
  acalls_of_wpc (T := T4) (L := []) (fun _ => 0) Tryd.func3 rfl (by kernel_rfl) (Nat.le_of_ble_eq_true (by kernel_rfl)) (T4_ok) (LOk.nil _ _ _ _ _) (Eq.mp (by kernel_rfl) h)
theorem between_vc (m : Mk) (a b : Int) (K : PV → Prop) (h : br
  ((Mk.l (at_ (at_ m (mnI a b)) (mxI a b)) == Mk.l (at_ m (mxI a b)) &&
      (Mk.s (at_ (at_ m (mnI a b)) (mxI a b)) == Mk.s (at_ m (mxI a b)) &&
        (Mk.u (at_ (at_ m (mnI a b)) (mxI a b)) == Mk.u (at_ m (mxI a b)) && true))) ==
    true)
  (br
    ((Mk.l (at_ (at_ m (mnI a b)) (mnI a b)) == Mk.l (at_ m (mnI a b)) &&
        (Mk.s (at_ (at_ m (mnI a b)) (mnI a b)) == Mk.s (at_ m (mnI a b)) &&
          (Mk.u (at_ (at_ m (mnI a b)) (mnI a b)) == Mk.u (at_ m (mnI a b)) && true))) ==
      true)
    (br
      ((Mk.l (hit (at_ m (mnI a b)) (mxI a b)) == Mk.l (hit m (mxI a b)) &&
          (Mk.s (hit (at_ m (mnI a b)) (mxI a b)) == Mk.s (hit m (mxI a b)) &&
            (Mk.u (hit (at_ m (mnI a b)) (mxI a b)) == Mk.u (hit m (mxI a b)) && true))) ==
        true)
      (br ((Mk.u (at_ m (mnI a b)) == 0) == false)
        (br ((left (at_ m (mnI a b)) (mxI a b) == left m (mxI a b)) == true) (K (PV.bool true)) (K (PV.bool false)))
        (K (PV.bool true)))
      (K (PV.bool false)))
    (K (PV.bool false)))
  (K (PV.bool false))) : ACalls Tryd.prog gl 4 [m.pv, .agg [.int .i64 a, .int .i64 b]] [] (fun x _ => K x) :=
  acalls_of_wpc (T := T4) (L := []) (fun _ => 0) Tryd.func4 rfl (by kernel_rfl) (Nat.le_of_ble_eq_true (by kernel_rfl)) (T4_ok) (LOk.nil _ _ _ _ _) (Eq.mp (by kernel_rfl) h)
theorem harder_vc (m : Mk) (now : Int) (K : PV → Prop) (h : br (decide (Mk.u (hit m now) ≥ Mk.u (at_ m now)) == true)
  (br ((Mk.l (hit m now) == mnI (IntKind.wrap IntKind.i64 (Mk.l (at_ m now) + 1)) 6) == true)
    (br ((Mk.s (hit m now) == now) == true)
      (br (decide (left (hit m now) now ≥ 60) == false)
        (br ((Mk.u (hit m now) == 9223372036854775807) == true)
          (br (decide (left (hit m now) now ≤ mxI (left (at_ m now) now) 86400) == true) (K (PV.bool true))
            (K (PV.bool false)))
          (K (PV.bool false)))
        (br (decide (left (hit m now) now ≤ mxI (left (at_ m now) now) 86400) == true) (K (PV.bool true))
          (K (PV.bool false))))
      (K (PV.bool false)))
    (K (PV.bool false)))
  (K (PV.bool false))) : ACalls Tryd.prog gl 5 [m.pv, .int .i64 now] [] (fun x _ => K x) :=
  acalls_of_wpc (T := T4) (L := []) (fun _ => 0) Tryd.func5 rfl (by kernel_rfl) (Nat.le_of_ble_eq_true (by kernel_rfl)) (T4_ok) (LOk.nil _ _ _ _ _) (Eq.mp (by kernel_rfl) h)
-- THE PLAIN LAW
def R64 (n : Int) : Prop := -9223372036854775808 ≤ n ∧ n ≤ 9223372036854775807
def Mk.ok (m : Mk) : Prop := R64 m.l ∧ R64 m.s ∧ R64 m.u
def tt (s now : Int) : Int := if now ≤ s then 0 else (now - s) / 10000
theorem past_eq {a b : Int} (ha : R64 a) (hb : R64 b) : past a b = if b ≤ a then 0 else b - a := by
  unfold past R64 at *
  split
  · rfl
  · simp only [wU, wrap_u64_eq]; omega
theorem steps_eq {m : Mk} {now : Int} (hs : R64 m.s) (hn : R64 now) : steps m now = tt m.s now := by
  unfold steps tt
  rw [past_eq hs hn]
  unfold R64 at *
  split
  · rfl
  · rw [Int.tdiv_eq_ediv_of_nonneg (by omega)]
    exact wrap_u64 (by omega) (by omega)
theorem tt_nonneg (s now : Int) : 0 ≤ tt s now := by unfold tt; split <;> omega
theorem lv_level (n : Int) : level n = lv n := by unfold level lv mnI mxI; (repeat' split) <;> omega
theorem at_eq {m : Mk} {now : Int} (hm : m.ok) (hn : R64 now) : at_ m now = if tt m.s now ≥ lv m.l then ⟨0, 0, if m.u ≤ now then 0 else m.u⟩ else ⟨lv m.l - tt m.s now, m.s + tt m.s now * 10000, m.u⟩ := by
  have h1 := lv_range m.l
  have h2 := tt_nonneg m.s now
  unfold at_
  rw [steps_eq hm.2.1 hn]
  have e1 : wU (lv m.l) = lv m.l := wrap_u64 h1.1 (by omega)
  rw [e1]
  split
  · rfl
  · rename_i h
    have e2 : wI (tt m.s now) = tt m.s now := wrap_i64 (by omega) (by omega)
    rw [e2]
    have e3 : wI (lv m.l - tt m.s now) = lv m.l - tt m.s now := wrap_i64 (by omega) (by omega)
    have e4 : wI (tt m.s now * 10000) = tt m.s now * 10000 := wrap_i64 (by omega) (by omega)
    rw [e3, e4]
    have hs := hm.2.1
    have e5 : wI (m.s + tt m.s now * 10000) = m.s + tt m.s now * 10000 := by
      unfold R64 at *
      unfold tt at *
      apply wrap_i64 <;> (split <;> omega)
    rw [e5]
theorem radd_eq {a b : Int} (ha : R64 a) (h0 : 0 < b) (hb : b ≤ 9223372036854775807) : radd a b = if a + b > 9223372036854775807 then 9223372036854775807 else a + b := by
  unfold radd R64 at *
  rw [if_neg (by omega)]
  by_cases hp : a > 0
  · have e : wI (9223372036854775807 - a) = 9223372036854775807 - a := wrap_i64 (by omega) (by omega)
    rw [e]
    by_cases hq : b > 9223372036854775807 - a
    · rw [if_pos ⟨hp, hq⟩, if_pos (by omega)]
    · rw [if_neg (fun h => hq h.2), if_neg (by omega)]
      exact wrap_i64 (by omega) (by omega)
  · rw [if_neg (fun h => hp h.1), if_neg (by omega)]
    exact wrap_i64 (by omega) (by omega)
theorem tadd_eq {a b : Int} (ha : R64 a) (h0 : 0 < b) (hb : b ≤ 9223372036854775807) : tadd a b = if a + b > 9223372036854775807 then 9223372036854775807 else a + b := by
  unfold tadd R64 at *
  have e0 : mxI 0 b = b := by unfold mxI; rw [if_pos h0]
  have e : wI (9223372036854775807 - b) = 9223372036854775807 - b := wrap_i64 (by omega) (by omega)
  rw [e0, e]
  by_cases hq : a + b > 9223372036854775807
  · rw [if_pos (by omega), if_pos hq]
  · rw [if_neg (by omega), if_neg hq]
    exact wrap_i64 (by omega) (by omega)
theorem more_iff {l s now : Int} (hs : R64 s) (hn : R64 now) : more l s now ↔ l > 0 ∧ s + 10000 ≤ now := by
  unfold more
  rw [radd_eq hs (by omega) (by omega)]
  unfold R64 at *
  by_cases h : s + 10000 > 9223372036854775807
  · rw [if_pos h]
    constructor
    · rintro ⟨a, b, c, d⟩
      have e : wI (9223372036854775807 - 10000) = 9223372036854775807 - 10000 := wrap_i64 (by omega) (by omega)
      rw [e] at d; omega
    · omega
  · rw [if_neg h]
    have e : wI (s + 10000 - 10000) = s := by rw [Int.add_sub_cancel]; exact wrap_i64 (by omega) (by omega)
    rw [e]
    constructor
    · rintro ⟨a, b, c, d⟩; exact ⟨a, c⟩
    · rintro ⟨a, b⟩; exact ⟨a, by omega, b, rfl⟩
theorem down_eq {now : Int} (hn : R64 now) : ∀ (n : Nat) (l s : Int), 0 ≤ l → l ≤ n → l ≤ 6 → R64 s → down n l s now = if tt s now ≥ l then (0, s + l * 10000) else (l - tt s now, s + tt s now * 10000)
  | 0, l, s, h0, h1, _, _ => by
    have : l = 0 := by simp at h1; omega
    subst this
    rw [if_pos (tt_nonneg _ _)]; simp [down]
  | n + 1, l, s, h0, h1, h6, hs => by
    unfold down
    by_cases hm : more l s now
    · rw [if_pos hm]
      rw [more_iff hs hn] at hm
      have hs' := hs
      have hn' := hn
      unfold R64 at hs' hn'
      have e1 : wI (l - 1) = l - 1 := wrap_i64 (by omega) (by omega)
      have e2 : wI (s + 10000) = s + 10000 := wrap_i64 (by omega) (by omega)
      rw [e1, e2, down_eq hn n _ _ (by omega) (by simp at h1; omega) (by omega) ⟨by omega, by omega⟩]
      have e3 : tt (s + 10000) now = tt s now - 1 := by unfold tt; rw [if_neg (by omega : ¬ now ≤ s)]; split <;> omega
      rw [e3]
      by_cases hc : tt s now ≥ l
      · rw [if_pos (by omega), if_pos hc]; congr 1; omega
      · rw [if_neg (by omega), if_neg hc]; congr 1 <;> omega
    · rw [if_neg hm]
      rw [more_iff hs hn] at hm
      by_cases hl : l = 0
      · subst hl; rw [if_pos (tt_nonneg _ _)]; simp
      · have e : tt s now = 0 := by unfold tt; split <;> omega
        rw [e, if_neg (by omega)]; simp
theorem rat_eq {m : Mk} {now : Int} (hm : m.ok) (hn : R64 now) : rat m now = at_ m now := by
  rw [at_eq hm hn]
  unfold rat
  rw [lv_level, down_eq hn 6 _ _ (lv_range _).1 (lv_range _).2 (lv_range _).2 hm.2.1]
  by_cases hc : tt m.s now ≥ lv m.l
  · rw [if_pos hc, if_pos hc]; simp
  · rw [if_neg hc, if_neg hc]
    simp only
    rw [if_neg (by omega)]
theorem rung_range {l : Int} (h1 : 1 ≤ l) (h6 : l ≤ 6) : 60 ≤ rung l ∧ rung l ≤ 86400 :=
  rung_cases (p := fun l => 60 ≤ rung l ∧ rung l ≤ 86400) h1 h6 (by decide)
theorem up_eq {n : Int} (h0 : 0 ≤ n) (h6 : n ≤ 6) : level (wI (n + 1)) = mnI (wI (n + 1)) 6 := by
  have e : wI (n + 1) = n + 1 := wrap_i64 (by omega) (by omega)
  rw [e]; unfold level mnI; (repeat' split) <;> omega
theorem rhit_eq {m : Mk} {now : Int} (hm : m.ok) (hn : R64 now) : rhit m now = hit m now := by
  have h := at_range m now
  obtain ⟨h1, h6, _⟩ := hit_lvl m now
  have hr := rung_range h1 h6
  unfold rhit hit
  rw [rat_eq hm hn, up_eq h.1 h.2, radd_eq hn (by omega) (by omega), tadd_eq hn (by omega) (by omega)]
  rfl
theorem left_eq {m : Mk} {now : Int} (hm : m.ok) (hn : R64 now) : left m now = if m.u ≤ now then 0 else if m.u - now > 9223372036854775807 then 9223372036854775807 else m.u - now := by
  unfold left
  rw [past_eq hn hm.2.2]
  have hu := hm.2.2
  unfold R64 at hu hn
  unfold mnI
  by_cases h : m.u ≤ now
  · rw [if_pos h, if_pos h]; rfl
  · rw [if_neg h, if_neg h]
    by_cases h2 : m.u - now > 9223372036854775807
    · rw [if_pos (by omega)]; rfl
    · rw [if_neg (by omega)]; exact wrap_i64 (by omega) (by omega)
theorem rleft_eq {m : Mk} {now : Int} (hm : m.ok) (hn : R64 now) : rleft m now = left m now := by
  rw [left_eq hm hn]
  have hu := hm.2.2
  unfold R64 at hu hn
  unfold rleft
  by_cases h : m.u ≤ now
  · rw [if_pos h, if_pos h]
  · rw [if_neg h, if_neg h]
    by_cases h0 : now < 0
    · have e : wI (9223372036854775807 + now) = 9223372036854775807 + now := wrap_i64 (by omega) (by omega)
      rw [e]
      by_cases h2 : m.u > 9223372036854775807 + now
      · rw [if_pos ⟨h0, h2⟩, if_pos (by omega)]
      · rw [if_neg (fun k => h2 k.2), if_neg (by omega)]; exact wrap_i64 (by omega) (by omega)
    · rw [if_neg (fun k => h0 k.1), if_neg (by omega)]; exact wrap_i64 (by omega) (by omega)

theorem marks_law {m : Mk} {now : Int} (hm : m.ok) (hn : R64 now) : ACalls Tryd.prog gl 3 [m.pv, .int .i64 now] [] (fun x _ => x = .bool true) := by
  refine marks_vc m now (fun x => x = .bool true) ?_
  simp [br_if, rat_eq hm hn, rhit_eq hm hn, rleft_eq hm hn]

theorem at_ok_range {m : Mk} {now : Int} (hm : m.ok) (hn : R64 now) : (at_ m now).ok := by
  have h1 := lv_range m.l
  have h2 := tt_nonneg m.s now
  obtain ⟨hl, hs, hu⟩ := hm
  rw [at_eq ⟨hl, hs, hu⟩ hn]
  unfold Mk.ok R64 at *
  split
  · refine ⟨by simp, by simp, ?_⟩
    simp only; split <;> omega
  · rename_i h
    refine ⟨by simp only; omega, ?_, hu⟩
    simp only
    unfold tt at *
    split <;> omega
theorem at_at {m : Mk} {a b : Int} (hm : m.ok) (ha : R64 a) (hb : R64 b) (hab : a ≤ b) : at_ (at_ m a) b = at_ m b := by
  rw [at_eq (at_ok_range hm ha) hb, at_eq hm ha, at_eq hm hb]
  have h1 := lv_range m.l
  have hta := tt_nonneg m.s a
  have hmono : tt m.s a ≤ tt m.s b := by unfold tt; (repeat' split) <;> omega
  by_cases hc : tt m.s a ≥ lv m.l
  · rw [if_pos hc]
    have e0 : lv (Mk.l ⟨0, 0, if m.u ≤ a then 0 else m.u⟩) = 0 := rfl
    rw [e0, if_pos (tt_nonneg _ _), if_pos (show tt m.s b ≥ lv m.l by omega)]
    have e1 : ∀ x y : Int, x = y → (⟨0, 0, x⟩ : Mk) = ⟨0, 0, y⟩ := fun x y h => by rw [h]
    refine e1 _ _ ?_
    show (if (if m.u ≤ a then 0 else m.u) ≤ b then 0 else (if m.u ≤ a then 0 else m.u)) = _
    (repeat' split) <;> omega
  · rw [if_neg hc]
    have e1 : lv (lv m.l - tt m.s a) = lv m.l - tt m.s a := by
      generalize hq : lv m.l - tt m.s a = q at *
      have : 0 ≤ q ∧ q ≤ 6 := by omega
      unfold lv mnI mxI; (repeat' split) <;> omega
    have e2 : tt (m.s + tt m.s a * 10000) b = tt m.s b - tt m.s a := by
      clear e1
      unfold tt
      by_cases k1 : a ≤ m.s
      · rw [if_pos k1]; simp
      · rw [if_neg k1]; (repeat' split) <;> omega
    show (if tt (m.s + tt m.s a * 10000) b ≥ lv (lv m.l - tt m.s a) then (⟨0, 0, if m.u ≤ b then 0 else m.u⟩ : Mk) else ⟨lv (lv m.l - tt m.s a) - tt (m.s + tt m.s a * 10000) b, m.s + tt m.s a * 10000 + tt (m.s + tt m.s a * 10000) b * 10000, m.u⟩) = _
    rw [e1, e2]
    by_cases hd : tt m.s b ≥ lv m.l
    · rw [if_pos (by omega), if_pos hd]
    · rw [if_neg (by omega), if_neg hd]
      congr 1 <;> omega
theorem mn_mx {a b : Int} (ha : R64 a) (hb : R64 b) : R64 (mnI a b) ∧ R64 (mxI a b) ∧ mnI a b ≤ mxI a b := by
  unfold mnI mxI R64 at *; (repeat' split) <;> omega
theorem between_law {m : Mk} {a b : Int} (hm : m.ok) (ha : R64 a) (hb : R64 b) : ACalls Tryd.prog gl 4 [m.pv, .agg [.int .i64 a, .int .i64 b]] [] (fun x _ => x = .bool true) := by
  obtain ⟨h1, h2, h3⟩ := mn_mx ha hb
  refine between_vc m a b (fun x => x = .bool true) ?_
  have e1 := at_at hm h1 h2 h3
  have e2 := at_at hm h1 h1 (Int.le_refl _)
  have e3 : hit (at_ m (mnI a b)) (mxI a b) = hit m (mxI a b) := by unfold hit; rw [e1]
  have e4 : (at_ m (mnI a b)).u ≠ 0 → left (at_ m (mnI a b)) (mxI a b) = left m (mxI a b) := by
    intro h
    have hu : (at_ m (mnI a b)).u = m.u := by
      revert h
      rw [at_eq hm h1]
      split
      · simp only; split <;> simp
      · intro _; rfl
    unfold left; rw [hu]
  simp only [e1, e2, e3, br_if, beq_self_eq_true, Bool.and_self, if_true]
  by_cases h0 : (at_ m (mnI a b)).u = 0
  · simp [h0]
  · simp [h0, e4 h0]
theorem harder_law {m : Mk} {now : Int} (hm : m.ok) (hn : R64 now) : ACalls Tryd.prog gl 5 [m.pv, .int .i64 now] [] (fun x _ => x = .bool true) := by
  refine harder_vc m now (fun x => x = .bool true) ?_
  obtain ⟨h1, h6, _⟩ := hit_lvl m now
  have hr := rung_range h1 h6
  have ha := at_ok_range hm hn
  have hu : (hit m now).u = mxI (at_ m now).u (if now + rung (mnI (wI ((at_ m now).l + 1)) 6) > 9223372036854775807 then 9223372036854775807 else now + rung (mnI (wI ((at_ m now).l + 1)) 6)) := by
    unfold hit; rw [tadd_eq hn (by omega) (by omega)]
  have hs : (hit m now).s = now := rfl
  have hl : (hit m now).l = mnI (wI ((at_ m now).l + 1)) 6 := rfl
  generalize hg : rung (mnI (wI ((at_ m now).l + 1)) 6) = r at *
  have hau := ha.2.2
  have hok : (hit m now).ok := by
    refine ⟨by rw [hl]; unfold R64; omega, by rw [hs]; exact hn, ?_⟩
    rw [hu]
    unfold mxI R64 at *
    (repeat' split) <;> omega
  have g1 : (hit m now).u ≥ (at_ m now).u := by rw [hu]; unfold mxI; split <;> omega
  have g2 : left (hit m now) now ≥ 60 ∨ (hit m now).u = 9223372036854775807 := by
    rw [left_eq hok hn, hu]
    unfold mxI R64 at *
    (repeat' split) <;> omega
  have g3 : left (hit m now) now ≤ mxI (left (at_ m now) now) 86400 := by
    rw [left_eq hok hn, left_eq ha hn, hu]
    unfold mxI R64 at *
    (repeat' split) <;> omega
  simp only [br_if, hl, hs, beq_self_eq_true, decide_eq_true g1, decide_eq_true g3, if_true]
  rcases g2 with g2 | g2
  · simp [g2]
  · by_cases g4 : left (hit m now) now ≥ 60
    · simp [g4]
    · simp [g4, g2]
-- the laws at whatever arguments read
theorem mk_of {k : Nat} {cs : List PV} (h : WTp Tryd.prog (k + 2) 23 cs) : ∃ m : Mk, m.ok ∧ m.pv = .agg cs := by
  unfold WTp at h
  rw [Tryd.underlying23] at h
  obtain ⟨a, r, rfl, h1, a2, r2, rfl, h2, a3, r3, rfl, h3, h4⟩ := h
  unfold WTp at h1 h2 h3
  rw [show Tryd.prog.underlying 3 = some (.int .i64) from by kernel_rfl] at h1
  rw [show Tryd.prog.underlying 2 = some (.int .i64) from by kernel_rfl] at h2 h3
  obtain ⟨l, rfl, l1⟩ := h1
  obtain ⟨s, rfl, s1⟩ := h2
  obtain ⟨u, rfl, u1⟩ := h3
  have : r3 = [] := h4
  subst this
  exact ⟨⟨l, s, u⟩, ⟨l1, s1, u1⟩, rfl⟩
theorem int_of {k : Nat} {x : PV} (h : WTa Tryd.prog (k + 1) 2 x) : ∃ n, R64 n ∧ x = .int .i64 n := by
  unfold WTa at h
  rw [Tryd.underlying2] at h
  simp only at h
  unfold WTp at h
  rw [Tryd.underlying2] at h
  obtain ⟨n, hx, h1⟩ := h
  exact ⟨n, h1, by simpa using hx⟩
theorem mka_of {k : Nat} {x : PV} (h : WTa Tryd.prog (k + 2) 23 x) : ∃ m : Mk, m.ok ∧ x = m.pv := by
  unfold WTa at h
  rw [Tryd.underlying23] at h
  obtain ⟨cs, rfl, h⟩ := h
  obtain ⟨m, h1, h2⟩ := mk_of h
  exact ⟨m, h1, h2.symm⟩
theorem two_of {k : Nat} {x : PV} (h : WTa Tryd.prog (k + 2) 32 x) : ∃ a b, R64 a ∧ R64 b ∧ x = .agg [.int .i64 a, .int .i64 b] := by
  unfold WTa at h
  rw [Tryd.underlying32] at h
  obtain ⟨cs, rfl, h⟩ := h
  unfold WTp at h
  rw [Tryd.underlying32] at h
  obtain ⟨a, r, rfl, h1, a2, r2, rfl, h2, h3⟩ := h
  unfold WTp at h1 h2
  rw [Tryd.underlying2] at h1 h2
  obtain ⟨l, rfl, l1⟩ := h1
  obtain ⟨s, rfl, s1⟩ := h2
  have : r2 = [] := h3
  subst this
  exact ⟨l, s, l1, s1, rfl⟩
theorem marks_args (xs : List PV) (h : WTargs Tryd.prog 6 Tryd.f3.params.toList xs) : ACalls Tryd.prog gl 3 xs [] (fun x _ => x = .bool true) := by
  rw [Tryd.params3] at h
  obtain ⟨x, r, rfl, h1, y, r2, rfl, h2, h3⟩ := h
  have : r2 = [] := h3
  subst this
  obtain ⟨m, hm, rfl⟩ := mka_of h1
  obtain ⟨n, hn, rfl⟩ := int_of h2
  exact marks_law hm hn
theorem between_args (xs : List PV) (h : WTargs Tryd.prog 6 Tryd.f4.params.toList xs) : ACalls Tryd.prog gl 4 xs [] (fun x _ => x = .bool true) := by
  rw [Tryd.params4] at h
  obtain ⟨x, r, rfl, h1, y, r2, rfl, h2, h3⟩ := h
  have : r2 = [] := h3
  subst this
  obtain ⟨m, hm, rfl⟩ := mka_of h1
  obtain ⟨a, b, ha, hb, rfl⟩ := two_of h2
  exact between_law hm ha hb
theorem harder_args (xs : List PV) (h : WTargs Tryd.prog 6 Tryd.f5.params.toList xs) : ACalls Tryd.prog gl 5 xs [] (fun x _ => x = .bool true) := by
  rw [Tryd.params5] at h
  obtain ⟨x, r, rfl, h1, y, r2, rfl, h2, h3⟩ := h
  have : r2 = [] := h3
  subst this
  obtain ⟨m, hm, rfl⟩ := mka_of h1
  obtain ⟨n, hn, rfl⟩ := int_of h2
  exact harder_law hm hn
#print axioms harder_args
end Go.Proofs.YtgknnjbojkjiaaaDoor
