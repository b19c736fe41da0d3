/-
  The document's queue: walks.
-/
import Derived.Test.YtcmknbanojcbaaaUe
import Derived.Test.YtcmknbanojcbaaaProg
namespace Go.Proofs.Ytcmknbanojcbaaa
open Go Go.AM Go.Proofs
theorem rright_vc (t : Int)  (K : PV → Prop) (h : br ((t != 0) == true) (K (PV.bool (decide (t ≤ 2147483647)))) (K (PV.bool false))) : ACalls Try.prog gl 39 [.int .u32 t] [] (fun x _ => K x) :=
  acalls_of_wpc2 (T := []) (L := []) (fun _ => 0) Try.func39 (by kernel_rfl) (by kernel_rfl) (by kernel_rfl) (TabOk.nil _ _) (LOk.nil _ _ _ _ _) (holds_of_eq (by kernel_rfl) h)
def rrt_s (args : List PV) (K : PV → Prop) : Prop := ∃ t : Int, 0 ≤ t ∧ SlIs args [.int .u32 t] ∧ K (.bool (rightS t))
theorem rrt_ok : SpOk Try.prog gl 39 (.pure rrt_s) := by
  rintro args K ⟨t, h0, he, hk⟩
  have he : args = _ := he
  subst he
  refine spure gl_low (by simp [low_int]) (.bool _) (rright_vc t (fun x => x = .bool (rightS t)) ?_) hk
  simp only [br_if, bt]
  unfold rightS
  by_cases c : t = 0
  · subst c; rw [if_neg (by decide)]; rfl
  · rw [if_pos (by simpa using c)]; congr 1; apply decide_eq_decide.2; omega
theorem same_vc (a b : List (List PV)) (i : Nat) (R : Ex → List PV → Heap → Prop) (h : br (decide ((↑i : Int) < (↑(List.length a) : Int))) (InL a 1 (↑i : Int) ∧ br (true && fitX [CK.int IntKind.u32] 0 (List.getD a (Int.toNat (↑i : Int)) [])) (InL b 1 (↑i : Int) ∧ br (true && fitX [CK.int IntKind.u32] 0 (List.getD b (Int.toNat (↑i : Int)) [])) (br (cI (List.getD a (Int.toNat (↑i : Int)) []) 0 != cI (List.getD b (Int.toNat (↑i : Int)) []) 0) (R Ex.ret [PV.list a Tail.no, PV.list b Tail.no, PV.bool false, PV.int IntKind.i64 (↑i : Int)] []) (R Ex.normal [PV.list a Tail.no, PV.list b Tail.no, PV.bool false, PV.int IntKind.i64 (wI ((↑i : Int) + 1))] [])) False) False) (R (Ex.exit 0) [PV.list a Tail.no, PV.list b Tail.no, PV.bool false, PV.int IntKind.i64 (↑i : Int)] [])) : Holds (wpc br Try.prog gl [] [] (fun _ => 0) (subOf [1, 1, 0, 1, 0] (bodyOf Try.f14)) [] (envS [0, 1, 4, 5] [.list a .no, .list b .no, .bool false, .int .i64 i]) [] (fun ex e H => R ex (List.map e [0, 1, 4, 5]) H)) := holds_of_eq (by kernel_rfl) h
theorem low_list1 {ns : List Int} {k : IntKind} {t : Tail} (ht : NT t) {n : Nat} : Low n (.list (en1 k ns) t) := low_list ht (low_en1 k ns)
def same_l : LSp := fun e H Q => ∃ (a b : List Int), a.length ≤ 1000000 ∧ a.length = b.length ∧ SlIs (List.map e [0, 1, 4, 5]) [.list (en1 .u32 a) .no, .list (en1 .u32 b) .no, .bool false, .int .i64 0] ∧ HpIs H [] ∧
  (a = b → Q (.exit 0) (envS [0, 1, 4, 5] [.list (en1 .u32 a) .no, .list (en1 .u32 b) .no, .bool false, .int .i64 a.length]) []) ∧
  (a ≠ b → ∀ i : Int, Q .ret (envS [0, 1, 4, 5] [.list (en1 .u32 a) .no, .list (en1 .u32 b) .no, .bool false, .int .i64 i]) [])
theorem same_l_ok : ∀ e H Q, same_l e H Q → AW Try.prog gl Try.f14.ntmps (.loop (subOf [1, 1, 0, 1, 0] (bodyOf Try.f14))) Q e H := by
  rintro e H Q ⟨a, b, hl, hab, he, hH, hx, hr⟩
  refine aw_loop4 (hn := fun _ => 0) gl_low (.nil _ _) (.nil _ _ _ _ _) (σ := Nat) [0, 1, 4, 5] (fun i => i ≤ a.length ∧ ∀ k, k < i → a.getD k 0 = b.getD k 0)
    (fun i => [.list (en1 .u32 a) .no, .list (en1 .u32 b) .no, .bool false, .int .i64 i]) (fun _ => []) (fun i => a.length - i) 0 ⟨Nat.zero_le _, fun k hk => absurd hk (Nat.not_lt_zero _)⟩ he hH ?_
  rintro i ⟨hi, hk⟩
  refine same_vc _ _ i _ ?_
  simp only [br_if, dt, en1_length, toNat_nat]
  by_cases h : i < a.length
  · rw [if_pos (by omega), en1_get _ _ _ h, en1_get _ _ _ (by omega)]
    refine ⟨en1_in _ _ _ (by omega) (by omega), ?_⟩
    rw [if_pos (by rfl)]
    refine ⟨en1_in _ _ _ (by omega) (by omega), ?_⟩
    rw [if_pos (by rfl)]
    have e1 : cI [PV.int .u32 (a.getD i 0)] 0 = a.getD i 0 := rfl
    have e2 : cI [PV.int .u32 (b.getD i 0)] 0 = b.getD i 0 := rfl
    rw [e1, e2]
    by_cases c : a.getD i 0 = b.getD i 0
    · rw [if_neg (by simpa using c)]
      refine ⟨i + 1, (show a.length - (i + 1) < a.length - i by omega), ⟨h, fun k hk' => ?_⟩, by rw [wI_succ h (by omega)], [], rfl, Nat.le_refl _, .inl rfl⟩
      rcases Nat.eq_or_lt_of_le (Nat.le_of_lt_succ hk') with rfl | q
      · exact c
      · exact hk k q
    · rw [if_pos (by simpa using c)]
      exact hr (fun e => c (by rw [e])) i
  · rw [if_neg (by omega)]
    have : i = a.length := by omega
    subst this
    refine hx (List.ext_getElem hab fun k h1 h2 => ?_)
    have := hk k h1
    rwa [getD_eq' h1, getD_eq' h2] at this
theorem same1_vc (a b : List Int)  (K : PV → Prop) (h : br ((↑(List.length (en1 IntKind.u32 a)) : Int) != (↑(List.length (en1 IntKind.u32 b)) : Int)) (K (PV.bool false)) (∃ (a_1 : List Int), ∃ (b_1 : List Int), List.length a_1 ≤ 1000000 ∧ List.length a_1 = List.length b_1 ∧ SlIs [PV.list (en1 IntKind.u32 a) Tail.no, PV.list (en1 IntKind.u32 b) Tail.no, PV.bool false, PV.int IntKind.i64 0] [PV.list (en1 IntKind.u32 a_1) Tail.no, PV.list (en1 IntKind.u32 b_1) Tail.no, PV.bool false, PV.int IntKind.i64 0] ∧ HpIs [] [] ∧ (a_1 = b_1 → K (PV.bool true)) ∧ (a_1 ≠ b_1 → ∀ (_ : Int), K (PV.bool false)))) : ACalls Try.prog gl 14 [.list (en1 .u32 a) .no, .list (en1 .u32 b) .no] [] (fun x _ => K x) :=
  acalls_of_wpc2 (T := []) (L := [([1, 1, 0, 1, 0], same_l)]) (fun _ => 0) Try.func14 (by kernel_rfl) (by kernel_rfl) (by kernel_rfl) (TabOk.nil _ _) (.cons (sub_of (by kernel_rfl)) same_l_ok (.nil _ _ _ _ _)) (holds_of_eq (by kernel_rfl) h)
def same_s (args : List PV) (K : PV → Prop) : Prop := ∃ (a b : List Int) (t t' : Tail), SlIs args [.list (en1 .u32 a) t, .list (en1 .u32 b) t'] ∧ a.length ≤ 1000000 ∧ K (.bool (decide (a = b)))
theorem same_ok : SpOk Try.prog gl 14 (.pure same_s) := by
  rintro args K ⟨a, b, t, t', he, hl, hk⟩
  have he : args = _ := he
  subst he
  refine spure_w gl_low (.cons (.list _ _) (.cons (.list _ _) .nil)) (low_two (low_list1 NT.no) (low_list1 NT.no)) (.bool _) (same1_vc a b (fun x => x = .bool (decide (a = b))) ?_) hk
  simp only [br_if, en1_length]
  by_cases c : a.length = b.length
  · rw [if_neg (by simp [c])]
    exact ⟨a, b, hl, c, rfl, rfl, fun e => by rw [decide_eq_true e], fun e _ => by rw [decide_eq_false e]⟩
  · rw [if_pos (by simp; omega)]
    rw [decide_eq_false (fun e => c (by rw [e]))]
theorem has_vc (l : List (Int)) (t : Int) (i : Nat) (R : Ex → List PV → Heap → Prop) (h : br (decide ((↑i : Int) < (↑(List.length (List.map u1 l)) : Int))) (InL (List.map u1 l) 1 (↑i : Int) ∧ br (true && fitX [CK.int IntKind.u32] 0 (List.getD (List.map u1 l) (Int.toNat (↑i : Int)) [])) (br (cI (List.getD (List.map u1 l) (Int.toNat (↑i : Int)) []) 0 == t) (R Ex.ret [PV.list (List.map u1 l) Tail.no, PV.int IntKind.u32 t, PV.bool true, PV.int IntKind.i64 (↑i : Int)] []) (R Ex.normal [PV.list (List.map u1 l) Tail.no, PV.int IntKind.u32 t, PV.bool false, PV.int IntKind.i64 (wI ((↑i : Int) + 1))] [])) False) (R (Ex.exit 0) [PV.list (List.map u1 l) Tail.no, PV.int IntKind.u32 t, PV.bool false, PV.int IntKind.i64 (↑i : Int)] [])) : Holds (wpc br Try.prog gl [] [] (fun _ => 0) (subOf [1, 0, 1, 0] (bodyOf Try.f83)) [] (envS [0, 1, 4, 5] [.list (l.map u1) .no, .int .u32 t, .bool false, .int .i64 i]) [] (fun ex e H => R ex (List.map e [0, 1, 4, 5]) H)) := holds_of_eq (by kernel_rfl) h
def has_l : LSp := fun e H Q => ∃ (l : List (Int)) (t : Int), l.length ≤ 1000000 ∧ (True) ∧ SlIs (List.map e [0, 1, 4, 5]) [.list (l.map u1) .no, .int .u32 t, .bool false, .int .i64 0] ∧ HpIs H [] ∧
  (l.findIdx (fun x => x == t) < l.length → Q .ret (envS [0, 1, 4, 5] [.list (l.map u1) .no, .int .u32 t, .bool true, .int .i64 (l.findIdx (fun x => x == t))]) []) ∧ (l.findIdx (fun x => x == t) = l.length → Q (.exit 0) (envS [0, 1, 4, 5] [.list (l.map u1) .no, .int .u32 t, .bool false, .int .i64 l.length]) [])
theorem has_l_ok : ∀ e H Q, has_l e H Q → AW Try.prog gl Try.f83.ntmps (.loop (subOf [1, 0, 1, 0] (bodyOf Try.f83))) Q e H := by
  rintro e H Q ⟨l, t, hl, _, he, hH, hQ1, hQ2⟩
  have hfl : l.findIdx (fun x => x == t) ≤ l.length := List.findIdx_le_length
  refine aw_loop4 (hn := fun _ => 0) gl_low (.nil _ _) (.nil _ _ _ _ _) (σ := Nat) [0, 1, 4, 5] (fun i => i ≤ l.findIdx (fun x => x == t)) (fun i => [.list (l.map u1) .no, .int .u32 t, .bool false, .int .i64 i]) (fun _ => []) (fun i => l.length - i) 0 (Nat.zero_le _) he hH ?_
  intro i hi
  have hi' : i ≤ l.findIdx (fun x => x == t) := hi
  refine has_vc l t i _ ?_
  simp only [br_if, dt, toNat_nat, List.length_map, inL_u1]
  by_cases h : i < l.length
  · rw [if_pos (by omega)]
    simp only [getD_map 0 h]
    repeat (first | refine ⟨h, ?_⟩ | rw [if_pos (by rfl)])
    by_cases c : (fun x => x == t) (l.getD i 0) = true
    · have hge : l.findIdx (fun x => x == t) = i := fidx_stop 0 hi' h c
      rw [hge] at hQ1
      rw [if_pos (by exact c)]
      repeat (first | refine ⟨h, ?_⟩ | rw [if_pos (by rfl)])
      exact hQ1 h
    · have hlt : i < l.findIdx (fun x => x == t) := fidx_step 0 hi' h (by simpa using c)
      rw [if_neg (by exact c)]
      exact ⟨i + 1, (show l.length - (i + 1) < l.length - i by omega), hlt, by rw [wI_succ h (by omega)], [], rfl, Nat.le_refl _, .inl rfl⟩
  · rw [if_neg (by omega)]
    have : i = l.length := by omega
    subst this
    exact hQ2 (by omega)
theorem has1_vc (l : List Int) (t : Int)  (K : PV → Prop) (h : ∃ (l_1 : List Int), ∃ (t_1 : Int), List.length l_1 ≤ 1000000 ∧ True ∧ SlIs [PV.list (List.map u1 l) Tail.no, PV.int IntKind.u32 t, PV.bool false, PV.int IntKind.i64 0] [PV.list (List.map u1 l_1) Tail.no, PV.int IntKind.u32 t_1, PV.bool false, PV.int IntKind.i64 0] ∧ HpIs [] [] ∧ (List.findIdx (fun (x : Int) => x == t_1) l_1 < List.length l_1 → K (PV.bool true)) ∧ (List.findIdx (fun (x : Int) => x == t_1) l_1 = List.length l_1 → K (PV.bool false))) : ACalls Try.prog gl 83 [.list (l.map u1) .no, .int .u32 t] [] (fun x _ => K x) :=
  acalls_of_wpc2 (T := []) (L := [([1, 0, 1, 0], has_l)]) (fun _ => 0) Try.func83 (by kernel_rfl) (by kernel_rfl) (by kernel_rfl) (TabOk.nil _ _) (.cons (sub_of (by kernel_rfl)) has_l_ok (.nil _ _ _ _ _)) (holds_of_eq (by kernel_rfl) h)
theorem mem_find (l : List Int) (t : Int) : (l.findIdx (fun x => x == t) < l.length ↔ t ∈ l) := by
  rw [List.findIdx_lt_length]
  exact ⟨fun ⟨x, hx, e⟩ => by rw [← eq_of_beq e]; exact hx, fun h => ⟨t, h, by simp⟩⟩
def has_s (args : List PV) (K : PV → Prop) : Prop := ∃ (l : List Int) (tl : Tail) (t : Int), SlIs args [.list (l.map u1) tl, .int .u32 t] ∧ l.length ≤ 1000000 ∧ K (.bool (memB l t))
theorem has_ok : SpOk Try.prog gl 83 (.pure has_s) := by
  rintro args K ⟨l, tl, t, he, hl, hk⟩
  have he : args = _ := he
  subst he
  refine spure_w gl_low (.cons (.list _ _) (.cons (.refl _) .nil)) (low_two (low_us l) (.int _ _)) (.bool _) (has1_vc l t (fun x => x = .bool (memB l t)) ⟨l, t, hl, trivial, rfl, rfl, fun h => ?_, fun h => ?_⟩) hk
  · rw [memB_iff.2 ((mem_find l t).1 h)]
  · rw [show memB l t = false from eq_false_of_ne_true fun k => by have := (mem_find l t).2 (memB_iff.1 k); omega]
def TH : Tab := [(83, .pure has_s)]
theorem TH_ok : TabOk Try.prog gl TH := .cons has_ok (.nil _ _)
theorem inL_csT (w : List Tk) (i : Nat) : InL (w.map csT) 5 (i : Int) = (i < w.length) := inL_map csT_len (by decide) w i
theorem uni_csT (w : List Tk) : uni 5 (w.map csT) := by
  intro e he
  obtain ⟨a, _, rfl⟩ := List.mem_map.1 he
  rfl
theorem low_ts {n : Nat} (w : List Tk) : Low n (.list (w.map csT) .no) := low_rows low_csT w
def befB (a b : Tk) : Bool := decide (a.si < b.si) || (a.si == b.si && decide (a.id < b.id))
theorem rget_vc (l : List (Tk)) (t : Int) (i : Nat) (R : Ex → List PV → Heap → Prop) (h : br (decide ((↑i : Int) < (↑(List.length (List.map csT l)) : Int))) (InL (List.map csT l) 5 (↑i : Int) ∧ br (true && fitX [CK.int IntKind.u32] 0 (List.drop 0 (List.getD (List.map csT l) (Int.toNat (↑i : Int)) []))) (br (cI (List.drop 0 (List.getD (List.map csT l) (Int.toNat (↑i : Int)) [])) 0 == t) (InL (List.map csT l) 5 (↑i : Int) ∧ br (true && fitX [CK.int IntKind.u32, CK.int IntKind.i64, CK.list, CK.int IntKind.i64, CK.int IntKind.i64] 0 (List.getD (List.map csT l) (Int.toNat (↑i : Int)) [])) (R Ex.ret [PV.list (List.map csT l) Tail.no, PV.int IntKind.u32 t, PV.ptr 0 0, PV.bool true, PV.int IntKind.i64 (↑i : Int)] [Ob.cells [PV.int IntKind.u32 (cI (List.getD (List.map csT l) (Int.toNat (↑i : Int)) []) 0), PV.int IntKind.i64 (cI (List.getD (List.map csT l) (Int.toNat (↑i : Int)) []) 1), PV.list (cL (List.getD (List.map csT l) (Int.toNat (↑i : Int)) []) 2) (cT (List.getD (List.map csT l) (Int.toNat (↑i : Int)) []) 2), PV.int IntKind.i64 (cI (List.getD (List.map csT l) (Int.toNat (↑i : Int)) []) 3), PV.int IntKind.i64 (cI (List.getD (List.map csT l) (Int.toNat (↑i : Int)) []) 4)]]) False) (R Ex.normal [PV.list (List.map csT l) Tail.no, PV.int IntKind.u32 t, PV.ptr 0 0, PV.bool false, PV.int IntKind.i64 (wI ((↑i : Int) + 1))] [Ob.cells [PV.int IntKind.u32 0, PV.int IntKind.i64 0, PV.list [] Tail.exact, PV.int IntKind.i64 0, PV.int IntKind.i64 0]])) False) (R (Ex.exit 0) [PV.list (List.map csT l) Tail.no, PV.int IntKind.u32 t, PV.ptr 0 0, PV.bool false, PV.int IntKind.i64 (↑i : Int)] [Ob.cells [PV.int IntKind.u32 0, PV.int IntKind.i64 0, PV.list [] Tail.exact, PV.int IntKind.i64 0, PV.int IntKind.i64 0]])) : Holds (wpc br Try.prog gl [] [] (fun _ => 0) (subOf [1, 0, 1, 0] (bodyOf Try.f51)) [] (envS [0, 1, 4, 5, 6] [.list (l.map csT) .no, .int .u32 t, .ptr 0 0, .bool false, .int .i64 i]) [.cells [.int .u32 0, .int .i64 0, .list [] .exact, .int .i64 0, .int .i64 0]] (fun ex e H => R ex (List.map e [0, 1, 4, 5, 6]) H)) := holds_of_eq (by kernel_rfl) h
def rget_l : LSp := fun e H Q => ∃ (l : List (Tk)) (t : Int), l.length ≤ 1000000 ∧ (True) ∧ SlIs (List.map e [0, 1, 4, 5, 6]) [.list (l.map csT) .no, .int .u32 t, .ptr 0 0, .bool false, .int .i64 0] ∧ HpIs H [.cells [.int .u32 0, .int .i64 0, .list [] .exact, .int .i64 0, .int .i64 0]] ∧
  (l.findIdx (byId t) < l.length → Q .ret (envS [0, 1, 4, 5, 6] [.list (l.map csT) .no, .int .u32 t, .ptr 0 0, .bool true, .int .i64 (l.findIdx (byId t))]) [.cells (csT (l.getD (l.findIdx (byId t)) default))]) ∧ (l.findIdx (byId t) = l.length → Q (.exit 0) (envS [0, 1, 4, 5, 6] [.list (l.map csT) .no, .int .u32 t, .ptr 0 0, .bool false, .int .i64 l.length]) [.cells [.int .u32 0, .int .i64 0, .list [] .exact, .int .i64 0, .int .i64 0]])
theorem rget_l_ok : ∀ e H Q, rget_l e H Q → AW Try.prog gl Try.f51.ntmps (.loop (subOf [1, 0, 1, 0] (bodyOf Try.f51))) Q e H := by
  rintro e H Q ⟨l, t, hl, _, he, hH, hQ1, hQ2⟩
  have hfl : l.findIdx (byId t) ≤ l.length := List.findIdx_le_length
  refine aw_loop4 (hn := fun _ => 0) gl_low (.nil _ _) (.nil _ _ _ _ _) (σ := Nat) [0, 1, 4, 5, 6] (fun i => i ≤ l.findIdx (byId t)) (fun i => [.list (l.map csT) .no, .int .u32 t, .ptr 0 0, .bool false, .int .i64 i]) (fun _ => [.cells [.int .u32 0, .int .i64 0, .list [] .exact, .int .i64 0, .int .i64 0]]) (fun i => l.length - i) 0 (Nat.zero_le _) he hH ?_
  intro i hi
  have hi' : i ≤ l.findIdx (byId t) := hi
  refine rget_vc l t i _ ?_
  simp only [br_if, dt, toNat_nat, List.length_map, inL_csT]
  by_cases h : i < l.length
  · rw [if_pos (by omega)]
    simp only [getD_map default h]
    repeat (first | refine ⟨h, ?_⟩ | rw [if_pos (by rfl)])
    by_cases c : (byId t) (l.getD i default) = true
    · have hge : l.findIdx (byId t) = i := fidx_stop default hi' h c
      rw [hge] at hQ1
      rw [if_pos (by exact c)]
      repeat (first | refine ⟨h, ?_⟩ | rw [if_pos (by rfl)])
      exact hQ1 h
    · have hlt : i < l.findIdx (byId t) := fidx_step default hi' h (by simpa using c)
      rw [if_neg (by exact c)]
      exact ⟨i + 1, (show l.length - (i + 1) < l.length - i by omega), hlt, by rw [wI_succ h (by omega)], [], rfl, Nat.le_refl _, .inl rfl⟩
  · rw [if_neg (by omega)]
    have : i = l.length := by omega
    subst this
    exact hQ2 (by omega)
theorem rget1_vc (l : List Tk) (t : Int)  (K : PV → Prop) (h : ∃ (l_1 : List Tk), ∃ (t_1 : Int), List.length l_1 ≤ 1000000 ∧ True ∧ SlIs [PV.list (List.map csT l) Tail.no, PV.int IntKind.u32 t, PV.ptr 0 0, PV.bool false, PV.int IntKind.i64 0] [PV.list (List.map csT l_1) Tail.no, PV.int IntKind.u32 t_1, PV.ptr 0 0, PV.bool false, PV.int IntKind.i64 0] ∧ HpIs [Ob.cells [PV.int IntKind.u32 0, PV.int IntKind.i64 0, PV.list [] Tail.exact, PV.int IntKind.i64 0, PV.int IntKind.i64 0]] [Ob.cells [PV.int IntKind.u32 0, PV.int IntKind.i64 0, PV.list [] Tail.exact, PV.int IntKind.i64 0, PV.int IntKind.i64 0]] ∧ (List.findIdx (byId t_1) l_1 < List.length l_1 → K (PV.tup [PV.agg [PV.int IntKind.u32 (Tk.id (List.getD l_1 (List.findIdx (byId t_1) l_1) default)), PV.int IntKind.i64 (Tk.md (List.getD l_1 (List.findIdx (byId t_1) l_1) default)), PV.list (List.map u1 (Tk.pl (List.getD l_1 (List.findIdx (byId t_1) l_1) default))) Tail.no, PV.int IntKind.i64 (Tk.rt (List.getD l_1 (List.findIdx (byId t_1) l_1) default)), PV.int IntKind.i64 (Tk.si (List.getD l_1 (List.findIdx (byId t_1) l_1) default))], PV.bool true])) ∧ (List.findIdx (byId t_1) l_1 = List.length l_1 → K (PV.tup [PV.agg [PV.int IntKind.u32 0, PV.int IntKind.i64 0, PV.list [] Tail.exact, PV.int IntKind.i64 0, PV.int IntKind.i64 0], PV.bool false]))) : ACalls Try.prog gl 51 [.list (l.map csT) .no, .int .u32 t] [] (fun x _ => K x) :=
  acalls_of_wpc2 (T := []) (L := [([1, 0, 1, 0], rget_l)]) (fun _ => 0) Try.func51 (by kernel_rfl) (by kernel_rfl) (by kernel_rfl) (TabOk.nil _ _) (.cons (sub_of (by kernel_rfl)) rget_l_ok (.nil _ _ _ _ _)) (holds_of_eq (by kernel_rfl) h)
theorem rof_vc (l : List (Tk)) (t : Int) (i : Nat) (R : Ex → List PV → Heap → Prop) (h : br (decide ((↑i : Int) < (↑(List.length (List.map csT l)) : Int))) (InL (List.map csT l) 5 (↑i : Int) ∧ br (true && fitX [CK.list] 0 (List.drop 2 (List.getD (List.map csT l) (Int.toNat (↑i : Int)) []))) (∃ (l_1 : List Int), ∃ (tl : Tail), ∃ (t_1 : Int), SlIs [PV.list (cL (List.drop 2 (List.getD (List.map csT l) (Int.toNat (↑i : Int)) [])) 0) (cT (List.drop 2 (List.getD (List.map csT l) (Int.toNat (↑i : Int)) [])) 0), PV.int IntKind.u32 t] [PV.list (List.map u1 l_1) tl, PV.int IntKind.u32 t_1] ∧ List.length l_1 ≤ 1000000 ∧ br (memB l_1 t_1) (InL (List.map csT l) 5 (↑i : Int) ∧ br (true && fitX [CK.int IntKind.u32] 0 (List.drop 0 (List.getD (List.map csT l) (Int.toNat (↑i : Int)) []))) (R Ex.ret [PV.list (List.map csT l) Tail.no, PV.int IntKind.u32 t, PV.int IntKind.u32 (cI (List.drop 0 (List.getD (List.map csT l) (Int.toNat (↑i : Int)) [])) 0), PV.int IntKind.i64 (↑i : Int)] []) False) (R Ex.normal [PV.list (List.map csT l) Tail.no, PV.int IntKind.u32 t, PV.int IntKind.u32 0, PV.int IntKind.i64 (wI ((↑i : Int) + 1))] [])) False) (R (Ex.exit 0) [PV.list (List.map csT l) Tail.no, PV.int IntKind.u32 t, PV.int IntKind.u32 0, PV.int IntKind.i64 (↑i : Int)] [])) : Holds (wpc br Try.prog gl TH [] (fun _ => 0) (subOf [1, 0, 1, 0] (bodyOf Try.f57)) [] (envS [0, 1, 4, 5] [.list (l.map csT) .no, .int .u32 t, .int .u32 0, .int .i64 i]) [] (fun ex e H => R ex (List.map e [0, 1, 4, 5]) H)) := holds_of_eq (by kernel_rfl) h
def rof_l : LSp := fun e H Q => ∃ (l : List (Tk)) (t : Int), l.length ≤ 1000000 ∧ (∀ c ∈ l, c.pl.length ≤ 1000000) ∧ SlIs (List.map e [0, 1, 4, 5]) [.list (l.map csT) .no, .int .u32 t, .int .u32 0, .int .i64 0] ∧ HpIs H [] ∧
  (l.findIdx (byPl t) < l.length → Q .ret (envS [0, 1, 4, 5] [.list (l.map csT) .no, .int .u32 t, .int .u32 ((l.getD (l.findIdx (byPl t)) default)).id, .int .i64 (l.findIdx (byPl t))]) []) ∧ (l.findIdx (byPl t) = l.length → Q (.exit 0) (envS [0, 1, 4, 5] [.list (l.map csT) .no, .int .u32 t, .int .u32 0, .int .i64 l.length]) [])
theorem rof_l_ok : ∀ e H Q, rof_l e H Q → AW Try.prog gl Try.f57.ntmps (.loop (subOf [1, 0, 1, 0] (bodyOf Try.f57))) Q e H := by
  rintro e H Q ⟨l, t, hl, hm, he, hH, hQ1, hQ2⟩
  have hfl : l.findIdx (byPl t) ≤ l.length := List.findIdx_le_length
  refine aw_loop4 (hn := fun _ => 0) gl_low (TH_ok) (.nil _ _ _ _ _) (σ := Nat) [0, 1, 4, 5] (fun i => i ≤ l.findIdx (byPl t)) (fun i => [.list (l.map csT) .no, .int .u32 t, .int .u32 0, .int .i64 i]) (fun _ => []) (fun i => l.length - i) 0 (Nat.zero_le _) he hH ?_
  intro i hi
  have hi' : i ≤ l.findIdx (byPl t) := hi
  refine rof_vc l t i _ ?_
  simp only [br_if, dt, toNat_nat, List.length_map, inL_csT]
  by_cases h : i < l.length
  · rw [if_pos (by omega)]
    simp only [getD_map default h]
    repeat (first | refine ⟨h, ?_⟩ | rw [if_pos (by rfl)])
    refine ⟨(l.getD i default).pl, .no, t, rfl, hm _ (getD_mem h), ?_⟩
    by_cases c : (byPl t) (l.getD i default) = true
    · have hge : l.findIdx (byPl t) = i := fidx_stop default hi' h c
      rw [hge] at hQ1
      rw [if_pos (by exact c)]
      repeat (first | refine ⟨h, ?_⟩ | rw [if_pos (by rfl)])
      exact hQ1 h
    · have hlt : i < l.findIdx (byPl t) := fidx_step default hi' h (by simpa using c)
      rw [if_neg (by exact c)]
      exact ⟨i + 1, (show l.length - (i + 1) < l.length - i by omega), hlt, by rw [wI_succ h (by omega)], [], rfl, Nat.le_refl _, .inl rfl⟩
  · rw [if_neg (by omega)]
    have : i = l.length := by omega
    subst this
    exact hQ2 (by omega)
theorem rof1_vc (l : List Tk) (t : Int)  (K : PV → Prop) (h : ∃ (l_1 : List Tk), ∃ (t_1 : Int), List.length l_1 ≤ 1000000 ∧ (∀ (c : Tk), c ∈ l_1 → List.length (Tk.pl c) ≤ 1000000) ∧ SlIs [PV.list (List.map csT l) Tail.no, PV.int IntKind.u32 t, PV.int IntKind.u32 0, PV.int IntKind.i64 0] [PV.list (List.map csT l_1) Tail.no, PV.int IntKind.u32 t_1, PV.int IntKind.u32 0, PV.int IntKind.i64 0] ∧ HpIs [] [] ∧ (List.findIdx (byPl t_1) l_1 < List.length l_1 → K (PV.int IntKind.u32 (Tk.id (List.getD l_1 (List.findIdx (byPl t_1) l_1) default)))) ∧ (List.findIdx (byPl t_1) l_1 = List.length l_1 → K (PV.int IntKind.u32 0))) : ACalls Try.prog gl 57 [.list (l.map csT) .no, .int .u32 t] [] (fun x _ => K x) :=
  acalls_of_wpc2 (T := TH) (L := [([1, 0, 1, 0], rof_l)]) (fun _ => 0) Try.func57 (by kernel_rfl) (by kernel_rfl) (by kernel_rfl) (TH_ok) (.cons (sub_of (by kernel_rfl)) rof_l_ok (.nil _ _ _ _ _)) (holds_of_eq (by kernel_rfl) h)
def neI (t : Int) (c : Tk) : Bool := c.id != t
theorem rwoA_vc (l : List (Tk)) (t : Int) (i : Nat) (R : Ex → List PV → Heap → Prop) (h : br (decide ((↑i : Int) < (↑(List.length (List.map csT l)) : Int))) (InL (List.map csT l) 5 (↑i : Int) ∧ br (true && fitX [CK.int IntKind.u32] 0 (List.drop 0 (List.getD (List.map csT l) (Int.toNat (↑i : Int)) []))) (br (cI (List.drop 0 (List.getD (List.map csT l) (Int.toNat (↑i : Int)) [])) 0 != t) (InL (List.map csT l) 5 (↑i : Int) ∧ br (true && fitX [CK.int IntKind.u32, CK.int IntKind.i64, CK.list, CK.int IntKind.i64, CK.int IntKind.i64] 0 (List.getD (List.map csT l) (Int.toNat (↑i : Int)) [])) (AppL [] [[PV.int IntKind.u32 (cI (List.getD (List.map csT l) (Int.toNat (↑i : Int)) []) 0), PV.int IntKind.i64 (cI (List.getD (List.map csT l) (Int.toNat (↑i : Int)) []) 1), PV.list (cL (List.getD (List.map csT l) (Int.toNat (↑i : Int)) []) 2) (cT (List.getD (List.map csT l) (Int.toNat (↑i : Int)) []) 2), PV.int IntKind.i64 (cI (List.getD (List.map csT l) (Int.toNat (↑i : Int)) []) 3), PV.int IntKind.i64 (cI (List.getD (List.map csT l) (Int.toNat (↑i : Int)) []) 4)]] 5 56 ∧ (List.all [PV.int IntKind.u32 (cI (List.getD (List.map csT l) (Int.toNat (↑i : Int)) []) 0), PV.int IntKind.i64 (cI (List.getD (List.map csT l) (Int.toNat (↑i : Int)) []) 1), PV.list (cL (List.getD (List.map csT l) (Int.toNat (↑i : Int)) []) 2) (cT (List.getD (List.map csT l) (Int.toNat (↑i : Int)) []) 2), PV.int IntKind.i64 (cI (List.getD (List.map csT l) (Int.toNat (↑i : Int)) []) 3), PV.int IntKind.i64 (cI (List.getD (List.map csT l) (Int.toNat (↑i : Int)) []) 4)] PV.one = true ∧ [[PV.int IntKind.u32 (cI (List.getD (List.map csT l) (Int.toNat (↑i : Int)) []) 0), PV.int IntKind.i64 (cI (List.getD (List.map csT l) (Int.toNat (↑i : Int)) []) 1), PV.list (cL (List.getD (List.map csT l) (Int.toNat (↑i : Int)) []) 2) (cT (List.getD (List.map csT l) (Int.toNat (↑i : Int)) []) 2), PV.int IntKind.i64 (cI (List.getD (List.map csT l) (Int.toNat (↑i : Int)) []) 3), PV.int IntKind.i64 (cI (List.getD (List.map csT l) (Int.toNat (↑i : Int)) []) 4)]] ≠ []) ∧ R Ex.normal [PV.list (List.map csT l) Tail.no, PV.int IntKind.u32 t, PV.list [[PV.int IntKind.u32 (cI (List.getD (List.map csT l) (Int.toNat (↑i : Int)) []) 0), PV.int IntKind.i64 (cI (List.getD (List.map csT l) (Int.toNat (↑i : Int)) []) 1), PV.list (cL (List.getD (List.map csT l) (Int.toNat (↑i : Int)) []) 2) (cT (List.getD (List.map csT l) (Int.toNat (↑i : Int)) []) 2), PV.int IntKind.i64 (cI (List.getD (List.map csT l) (Int.toNat (↑i : Int)) []) 3), PV.int IntKind.i64 (cI (List.getD (List.map csT l) (Int.toNat (↑i : Int)) []) 4)]] (Tail.tok 0), PV.int IntKind.i64 (wI ((↑i : Int) + 1))] [Ob.tok]) False) (R Ex.normal [PV.list (List.map csT l) Tail.no, PV.int IntKind.u32 t, PV.list [] Tail.exact, PV.int IntKind.i64 (wI ((↑i : Int) + 1))] [])) False) (R (Ex.exit 0) [PV.list (List.map csT l) Tail.no, PV.int IntKind.u32 t, PV.list [] Tail.exact, PV.int IntKind.i64 (↑i : Int)] [])) : Holds (wpc br Try.prog gl [] [] (fun o => match o.dst with | some 26 => 1 | _ => 0) (subOf [1, 1, 0, 1, 0] (bodyOf Try.f53)) [] (envS [0, 1, 5, 6] [.list (l.map csT) .no, .int .u32 t, .list [] .exact, .int .i64 i]) [] (fun ex e H => R ex (List.map e [0, 1, 5, 6]) H)) := holds_of_eq (by kernel_rfl) h
theorem rwoB_vc (l : List (Tk)) (t : Int) (es : List (List PV)) (i : Nat) (R : Ex → List PV → Heap → Prop) (h : br (decide ((↑i : Int) < (↑(List.length (List.map csT l)) : Int))) (InL (List.map csT l) 5 (↑i : Int) ∧ br (true && fitX [CK.int IntKind.u32] 0 (List.drop 0 (List.getD (List.map csT l) (Int.toNat (↑i : Int)) []))) (br (cI (List.drop 0 (List.getD (List.map csT l) (Int.toNat (↑i : Int)) [])) 0 != t) (InL (List.map csT l) 5 (↑i : Int) ∧ br (true && fitX [CK.int IntKind.u32, CK.int IntKind.i64, CK.list, CK.int IntKind.i64, CK.int IntKind.i64] 0 (List.getD (List.map csT l) (Int.toNat (↑i : Int)) [])) (AppL es [[PV.int IntKind.u32 (cI (List.getD (List.map csT l) (Int.toNat (↑i : Int)) []) 0), PV.int IntKind.i64 (cI (List.getD (List.map csT l) (Int.toNat (↑i : Int)) []) 1), PV.list (cL (List.getD (List.map csT l) (Int.toNat (↑i : Int)) []) 2) (cT (List.getD (List.map csT l) (Int.toNat (↑i : Int)) []) 2), PV.int IntKind.i64 (cI (List.getD (List.map csT l) (Int.toNat (↑i : Int)) []) 3), PV.int IntKind.i64 (cI (List.getD (List.map csT l) (Int.toNat (↑i : Int)) []) 4)]] 5 56 ∧ (List.all [PV.int IntKind.u32 (cI (List.getD (List.map csT l) (Int.toNat (↑i : Int)) []) 0), PV.int IntKind.i64 (cI (List.getD (List.map csT l) (Int.toNat (↑i : Int)) []) 1), PV.list (cL (List.getD (List.map csT l) (Int.toNat (↑i : Int)) []) 2) (cT (List.getD (List.map csT l) (Int.toNat (↑i : Int)) []) 2), PV.int IntKind.i64 (cI (List.getD (List.map csT l) (Int.toNat (↑i : Int)) []) 3), PV.int IntKind.i64 (cI (List.getD (List.map csT l) (Int.toNat (↑i : Int)) []) 4)] PV.one = true ∧ [[PV.int IntKind.u32 (cI (List.getD (List.map csT l) (Int.toNat (↑i : Int)) []) 0), PV.int IntKind.i64 (cI (List.getD (List.map csT l) (Int.toNat (↑i : Int)) []) 1), PV.list (cL (List.getD (List.map csT l) (Int.toNat (↑i : Int)) []) 2) (cT (List.getD (List.map csT l) (Int.toNat (↑i : Int)) []) 2), PV.int IntKind.i64 (cI (List.getD (List.map csT l) (Int.toNat (↑i : Int)) []) 3), PV.int IntKind.i64 (cI (List.getD (List.map csT l) (Int.toNat (↑i : Int)) []) 4)]] ≠ []) ∧ R Ex.normal [PV.list (List.map csT l) Tail.no, PV.int IntKind.u32 t, PV.list (es ++ [[PV.int IntKind.u32 (cI (List.getD (List.map csT l) (Int.toNat (↑i : Int)) []) 0), PV.int IntKind.i64 (cI (List.getD (List.map csT l) (Int.toNat (↑i : Int)) []) 1), PV.list (cL (List.getD (List.map csT l) (Int.toNat (↑i : Int)) []) 2) (cT (List.getD (List.map csT l) (Int.toNat (↑i : Int)) []) 2), PV.int IntKind.i64 (cI (List.getD (List.map csT l) (Int.toNat (↑i : Int)) []) 3), PV.int IntKind.i64 (cI (List.getD (List.map csT l) (Int.toNat (↑i : Int)) []) 4)]]) (Tail.tok 1), PV.int IntKind.i64 (wI ((↑i : Int) + 1))] [Ob.dead, Ob.tok]) False) (R Ex.normal [PV.list (List.map csT l) Tail.no, PV.int IntKind.u32 t, PV.list es (Tail.tok 0), PV.int IntKind.i64 (wI ((↑i : Int) + 1))] [Ob.tok])) False) (R (Ex.exit 0) [PV.list (List.map csT l) Tail.no, PV.int IntKind.u32 t, PV.list es (Tail.tok 0), PV.int IntKind.i64 (↑i : Int)] [Ob.tok])) : Holds (wpc br Try.prog gl [] [] (fun o => match o.dst with | some 26 => 1 | _ => 0) (subOf [1, 1, 0, 1, 0] (bodyOf Try.f53)) [] (envS [0, 1, 5, 6] [.list (l.map csT) .no, .int .u32 t, .list es (.tok 0), .int .i64 i]) [.tok] (fun ex e H => R ex (List.map e [0, 1, 5, 6]) H)) := holds_of_eq (by kernel_rfl) h
def rwo_l : LSp := fun e H Q => ∃ (l : List (Tk)) (t : Int), l.length ≤ 1000000 ∧ (True) ∧ SlIs (List.map e [0, 1, 5, 6]) [.list (l.map csT) .no, .int .u32 t, .list [] .exact, .int .i64 0] ∧ HpIs H [] ∧
  Q (.exit 0) (envS [0, 1, 5, 6] [.list (l.map csT) .no, .int .u32 t, .list ((l.filter (neI t)).map csT) .no, .int .i64 l.length]) [.dead]
theorem rwo_l_ok : ∀ e H Q, rwo_l e H Q → AW Try.prog gl Try.f53.ntmps (.loop (subOf [1, 1, 0, 1, 0] (bodyOf Try.f53))) Q e H := by
  rintro e H Q ⟨l, t, hl, _, he, hH, hQ⟩
  have hH2 : H = [] := hH
  refine aw_growif (f := csT) (acc := fun i => (l.take i).filter (neI t)) (I := fun i => i ≤ l.length) (m := fun i => l.length - i) (hn := fun o => match o.dst with | some 26 => 1 | _ => 0) gl_low (.nil _ _) (.nil _ _ _ _ _) [0, 1, 5, 6] (fun r i => [.list (l.map csT) .no, .int .u32 t, r, .int .i64 i]) [] (0 : Nat)
    (low_cells0) (fun _ _ a _ => low_csT a) (fun es i k _ h => .same (low_ts _) (.same (.int _ _) (.row h (.same (.int _ _) (.nil))))) (fun i _ w hw => by
      simp only [List.mem_cons, List.not_mem_nil, or_false] at hw
      rcases hw with rfl | rfl | rfl | rfl
      · exact low_ts _
      · exact .int _ _
      · exact low_list NT.exact (by simp)
      · exact .int _ _) (Nat.zero_le _) (by simp) he hH2 ?_ ?_
  · intro i hi ha
    have hi' : i ≤ l.length := hi
    refine rwoA_vc l t i _ ?_
    simp only [br_if, dt, toNat_nat, List.length_map, inL_csT]
    by_cases h : i < l.length
    · rw [if_pos (by omega)]
      simp only [getD_map default h]
      have hs := filter_take (p := neI t) default h
      have hle := filter_take_le (neI t) l i
      repeat (first | refine ⟨h, ?_⟩ | rw [if_pos (by rfl)])
      by_cases c : (neI t) (l.getD i default) = true
      · rw [if_pos c] at hs
        rw [if_pos (by exact c)]
        repeat (first | refine ⟨h, ?_⟩ | rw [if_pos (by rfl)])
        refine ⟨appL_map (l := []) (by_ := 56) csT_len (l.getD i default) (by show (0 + 1) * 56 ≤ _; decide), one_row one_csT (l.getD i default), ?_⟩
        exact growQ_add (i + 1) (show l.length - (i + 1) < l.length - i by omega) h hs (ne_snoc _ _) [.tok] 0 rfl rfl (by simp) (by rw [ha]; rw [wI_succ h (by omega)]; rfl)
      · rw [if_neg c, List.append_nil] at hs
        rw [if_neg (by exact c)]
        exact growQ_none (i + 1) (show l.length - (i + 1) < l.length - i by omega) h (hs.trans ha) [] rfl (by rw [wI_succ h (by omega)])
    · rw [if_neg (by omega)]
      have : i = l.length := by omega
      subst this
      simp only [List.take_length] at ha ⊢
      rw [ha] at hQ
      exact growQ_end (.cons (.refl _) (.cons (.refl _) (.cons (.list _ _) (.cons (.refl _) (.nil))))) (pad_dead _) hQ
  · intro i hi ha
    have hi' : i ≤ l.length := hi
    refine rwoB_vc l t (((l.take i).filter (neI t)).map csT) i _ ?_
    simp only [br_if, dt, toNat_nat, List.length_map, inL_csT]
    by_cases h : i < l.length
    · rw [if_pos (by omega)]
      simp only [getD_map default h]
      have hs := filter_take (p := neI t) default h
      have hle := filter_take_le (neI t) l i
      repeat (first | refine ⟨h, ?_⟩ | rw [if_pos (by rfl)])
      by_cases c : (neI t) (l.getD i default) = true
      · rw [if_pos c] at hs
        rw [if_pos (by exact c)]
        repeat (first | refine ⟨h, ?_⟩ | rw [if_pos (by rfl)])
        refine ⟨appL_map csT_len _ _ (by omega), one_row one_csT (l.getD i default), ?_⟩
        exact growQ_add (i + 1) (show l.length - (i + 1) < l.length - i by omega) h hs (ne_snoc _ _) [.dead, .tok] 1 rfl rfl (by simp) (by  rw [wI_succ h (by omega)]; rw [List.map_append]; rfl)
      · rw [if_neg c, List.append_nil] at hs
        rw [if_neg (by exact c)]
        exact growQ_add (i + 1) (show l.length - (i + 1) < l.length - i by omega) h hs ha [.tok] 0 rfl rfl (by simp) (by rw [wI_succ h (by omega)])
    · rw [if_neg (by omega)]
      have : i = l.length := by omega
      subst this
      simp only [List.take_length] at ha ⊢
      exact growQ_end (.cons (.refl _) (.cons (.refl _) (.cons (.list _ _) (.cons (.refl _) (.nil))))) (pad_kill [] .tok) hQ
theorem rwo1_vc (l : List Tk) (t : Int)  (K : PV → Prop) (h : ∃ (l_1 : List Tk), ∃ (t_1 : Int), List.length l_1 ≤ 1000000 ∧ True ∧ SlIs [PV.list (List.map csT l) Tail.no, PV.int IntKind.u32 t, PV.list [] Tail.exact, PV.int IntKind.i64 0] [PV.list (List.map csT l_1) Tail.no, PV.int IntKind.u32 t_1, PV.list [] Tail.exact, PV.int IntKind.i64 0] ∧ HpIs [] [] ∧ K (PV.list (List.map csT (List.filter (neI t_1) l_1)) Tail.no)) : ACalls Try.prog gl 53 [.list (l.map csT) .no, .int .u32 t] [] (fun x _ => K x) :=
  acalls_of_wpc2 (T := []) (L := [([1, 1, 0, 1, 0], rwo_l)]) (fun o => match o.dst with | some 26 => 1 | _ => 0) Try.func53 (by kernel_rfl) (by kernel_rfl) (by kernel_rfl) (TabOk.nil _ _) (.cons (sub_of (by kernel_rfl)) rwo_l_ok (.nil _ _ _ _ _)) (holds_of_eq (by kernel_rfl) h)
theorem ahd_vc (a b : Tk)  (K : PV → Prop) (h : br (decide (Tk.si a < Tk.si b) == false) (br ((Tk.si a == Tk.si b) == true) (K (PV.bool (decide (Tk.id a < Tk.id b)))) (K (PV.bool false))) (K (PV.bool true))) : ACalls Try.prog gl 106 [a.pv, b.pv] [] (fun x _ => K x) :=
  acalls_of_wpc2 (T := []) (L := []) (fun _ => 0) Try.func106 (by kernel_rfl) (by kernel_rfl) (by kernel_rfl) (TabOk.nil _ _) (LOk.nil _ _ _ _ _) (holds_of_eq (by kernel_rfl) h)
def TSM : Tab := [(14, .pure same_s)]
theorem TSM_ok : TabOk Try.prog gl TSM := .cons same_ok (.nil _ _)
theorem rsm_vc (a b : Tk)  (K : PV → Prop) (h : br ((Tk.id a == Tk.id b) == true) (br ((Tk.md a == Tk.md b) == true) (br ((Tk.rt a == Tk.rt b) == true) (br ((Tk.si a == Tk.si b) == true) (∃ (a_1 : List Int), ∃ (b_1 : List Int), ∃ (t : Tail), ∃ (t' : Tail), SlIs [PV.list (List.map u1 (Tk.pl a)) Tail.no, PV.list (List.map u1 (Tk.pl b)) Tail.no] [PV.list (en1 IntKind.u32 a_1) t, PV.list (en1 IntKind.u32 b_1) t'] ∧ List.length a_1 ≤ 1000000 ∧ K (PV.bool (decide (a_1 = b_1)))) (K (PV.bool false))) (K (PV.bool false))) (K (PV.bool false))) (K (PV.bool false))) : ACalls Try.prog gl 82 [a.pv, b.pv] [] (fun x _ => K x) :=
  acalls_of_wpc2 (T := TSM) (L := []) (fun _ => 0) Try.func82 (by kernel_rfl) (by kernel_rfl) (by kernel_rfl) (TSM_ok) (LOk.nil _ _ _ _ _) (holds_of_eq (by kernel_rfl) h)
theorem lo1_vc (t : Tk)  (K : PV → Heap → Prop) (h : AppL [] (List.map u1 (Tk.pl t)) 1 4 ∧ K (PV.agg [PV.int IntKind.u32 (Tk.id t), PV.int IntKind.i64 (Tk.md t), PV.list ([] ++ List.map u1 (Tk.pl t)) Tail.no, PV.int IntKind.i64 (Tk.rt t), PV.int IntKind.i64 (Tk.si t)]) [Ob.cells [PV.int IntKind.u32 (Tk.id t), PV.int IntKind.i64 (Tk.md t), PV.list (List.map u1 (Tk.pl t)) Tail.no, PV.int IntKind.i64 (Tk.rt t), PV.int IntKind.i64 (Tk.si t)], Ob.cells [PV.int IntKind.u32 (Tk.id t), PV.int IntKind.i64 (Tk.md t), PV.list ([] ++ List.map u1 (Tk.pl t)) Tail.no, PV.int IntKind.i64 (Tk.rt t), PV.int IntKind.i64 (Tk.si t)]]) : ACalls Try.prog gl 44 [t.pv] [] K :=
  acalls_of_wpc2 (T := []) (L := []) (fun o => match o.dst with | some 4 => 1001 | some 6 => 1101 | some 9 => 1201 | some 12 => 1301 | some 14 => 1401 | some _ => 0 | none => match o.op with | .store _ (.tmp 2) _ => 101005 | _ => 0) Try.func44 (by kernel_rfl) (by kernel_rfl) (by kernel_rfl) (TabOk.nil _ _) (LOk.nil _ _ _ _ _) (holds_of_eq (by kernel_rfl) h)
def rget_s (args : List PV) (K : PV → Prop) : Prop := ∃ (l : List Tk) (tl : Tail) (c : Int), SlIs args [.list (l.map csT) tl, .int .u32 c] ∧ l.length ≤ 1000000 ∧ K (.tup [.agg [.int .u32 (getQ l c).id, .int .i64 (getQ l c).md, .list ((getQ l c).pl.map u1) .no, .int .i64 (getQ l c).rt, .int .i64 (getQ l c).si], .bool (hasQ l c)])
theorem rget_ok : SpOk Try.prog gl 51 (.pure rget_s) := by
  rintro args K ⟨l, tl, c, he, hl, hk⟩
  have he : args = _ := he
  subst he
  refine spure_w gl_low (.cons (.list _ _) (.cons (.refl _) .nil)) (low_two (low_ts l) (.int _ _)) (low_gq l c) (acalls_weak (rget1_vc l c _ ⟨l, c, hl, trivial, rfl, rfl, fun h => ⟨_, .refl _, ?_⟩, fun h => ⟨_, wk_zero, ?_⟩⟩)) hk
  · unfold hasQ; rw [decide_eq_true h]; rfl
  · unfold hasQ; rw [decide_eq_false (by omega), getQ_none (by omega)]
def rof_s (args : List PV) (K : PV → Prop) : Prop := ∃ (l : List Tk) (tl : Tail) (c : Int), SlIs args [.list (l.map csT) tl, .int .u32 c] ∧ Sml l ∧ K (.int .u32 (ofQ l c))
theorem rof_ok : SpOk Try.prog gl 57 (.pure rof_s) := by
  rintro args K ⟨l, tl, c, he, s, hk⟩
  have he : args = _ := he
  subst he
  refine spure_w gl_low (.cons (.list _ _) (.cons (.refl _) .nil)) (low_two (low_ts l) (.int _ _)) (.int _ _) (rof1_vc l c (fun x => x = .int .u32 (ofQ l c)) ⟨l, c, s.len, s.pl, rfl, rfl, fun h => ?_, fun h => ?_⟩) hk
  · unfold ofQ; rw [if_pos h]
  · unfold ofQ; rw [if_neg (by omega)]
def woQ (l : List Tk) (c : Int) : List Tk := l.filter (neI c)
def rwo_s (args : List PV) (K : PV → Prop) : Prop := ∃ (l : List Tk) (tl : Tail) (c : Int), SlIs args [.list (l.map csT) tl, .int .u32 c] ∧ l.length ≤ 1000000 ∧ K (.list ((woQ l c).map csT) .no)
theorem rwo_ok : SpOk Try.prog gl 53 (.pure rwo_s) := by
  rintro args K ⟨l, tl, c, he, hl, hk⟩
  have he : args = _ := he
  subst he
  exact spure_w gl_low (.cons (.list _ _) (.cons (.refl _) .nil)) (low_two (low_ts l) (.int _ _)) (low_ts _) (rwo1_vc l c (fun x => x = .list ((woQ l c).map csT) .no) ⟨l, c, hl, trivial, rfl, rfl, rfl⟩) hk
def ahd_s (args : List PV) (K : PV → Prop) : Prop := ∃ a b : Tk, SlIs args [a.pv, b.pv] ∧ K (.bool (befB a b))
theorem ahd_ok : SpOk Try.prog gl 106 (.pure ahd_s) := by
  rintro args K ⟨a, b, he, hk⟩
  have he : args = _ := he
  subst he
  refine spure gl_low (low_two a.low b.low) (.bool _) (ahd_vc a b (fun x => x = .bool (befB a b)) ?_) hk
  simp only [br_if]
  unfold befB
  by_cases c : a.si < b.si
  · rw [if_neg (by simp [c]), decide_eq_true c, Bool.true_or]
  · rw [if_pos (by simp [c]), decide_eq_false c, Bool.false_or]
    by_cases d : a.si = b.si
    · rw [if_pos (by simp [d]), show (a.si == b.si) = true from by simpa using d, Bool.true_and]
    · rw [if_neg (by simp [d]), show (a.si == b.si) = false from by simpa using d, Bool.false_and]
theorem tk_ext {a b : Tk} : a = b ↔ a.id = b.id ∧ a.md = b.md ∧ a.rt = b.rt ∧ a.si = b.si ∧ a.pl = b.pl := by
  constructor
  · rintro rfl; exact ⟨rfl, rfl, rfl, rfl, rfl⟩
  · obtain ⟨_, _, _, _, _⟩ := a
    obtain ⟨_, _, _, _, _⟩ := b
    rintro ⟨rfl, rfl, rfl, rfl, rfl⟩; rfl
def rsm_s (args : List PV) (K : PV → Prop) : Prop := ∃ a b : Tk, SlIs args [a.pv, b.pv] ∧ a.pl.length ≤ 1000000 ∧ K (.bool (decide (a = b)))
theorem rsm_ok : SpOk Try.prog gl 82 (.pure rsm_s) := by
  rintro args K ⟨a, b, he, hl, hk⟩
  have he : args = _ := he
  subst he
  refine spure gl_low (low_two a.low b.low) (.bool _) (rsm_vc a b (fun x => x = .bool (decide (a = b))) ?_) hk
  have no : a ≠ b → PV.bool false = .bool (decide (a = b)) := fun h => by rw [decide_eq_false h]
  simp only [br_if]
  by_cases c1 : a.id = b.id
  rotate_left
  · rw [if_neg (by simp [c1])]; exact no fun e => c1 (by rw [e])
  rw [if_pos (by simp [c1])]
  by_cases c2 : a.md = b.md
  rotate_left
  · rw [if_neg (by simp [c2])]; exact no fun e => c2 (by rw [e])
  rw [if_pos (by simp [c2])]
  by_cases c3 : a.rt = b.rt
  rotate_left
  · rw [if_neg (by simp [c3])]; exact no fun e => c3 (by rw [e])
  rw [if_pos (by simp [c3])]
  by_cases c4 : a.si = b.si
  rotate_left
  · rw [if_neg (by simp [c4])]; exact no fun e => c4 (by rw [e])
  rw [if_pos (by simp [c4])]
  refine ⟨a.pl, b.pl, .no, .no, rfl, hl, ?_⟩
  congr 1
  apply decide_eq_decide.2
  rw [tk_ext]
  exact ⟨fun h => ⟨c1, c2, c3, c4, h⟩, fun h => h.2.2.2.2⟩
def TRS : Tab := [(82, .pure rsm_s)]
theorem TRS_ok : TabOk Try.prog gl TRS := .cons rsm_ok (.nil _ _)
theorem sm1_vc (a b : Tk)  (K : PV → Prop) (h : ∃ (a_1 : Tk), ∃ (b_1 : Tk), SlIs [PV.agg [PV.int IntKind.u32 (Tk.id a), PV.int IntKind.i64 (Tk.md a), PV.list (List.map u1 (Tk.pl a)) Tail.no, PV.int IntKind.i64 (Tk.rt a), PV.int IntKind.i64 (Tk.si a)], PV.agg [PV.int IntKind.u32 (Tk.id b), PV.int IntKind.i64 (Tk.md b), PV.list (List.map u1 (Tk.pl b)) Tail.no, PV.int IntKind.i64 (Tk.rt b), PV.int IntKind.i64 (Tk.si b)]] [PV.agg [PV.int IntKind.u32 (Tk.id a_1), PV.int IntKind.i64 (Tk.md a_1), PV.list (List.map u1 (Tk.pl a_1)) Tail.no, PV.int IntKind.i64 (Tk.rt a_1), PV.int IntKind.i64 (Tk.si a_1)], PV.agg [PV.int IntKind.u32 (Tk.id b_1), PV.int IntKind.i64 (Tk.md b_1), PV.list (List.map u1 (Tk.pl b_1)) Tail.no, PV.int IntKind.i64 (Tk.rt b_1), PV.int IntKind.i64 (Tk.si b_1)]] ∧ List.length (Tk.pl a_1) ≤ 1000000 ∧ K (PV.bool (decide (a_1 = b_1)))) : ACalls Try.prog gl 52 [a.pv, b.pv] [] (fun x _ => K x) :=
  acalls_of_wpc2 (T := TRS) (L := []) (fun _ => 0) Try.func52 (by kernel_rfl) (by kernel_rfl) (by kernel_rfl) (TRS_ok) (LOk.nil _ _ _ _ _) (holds_of_eq (by kernel_rfl) h)
def TAH : Tab := [(106, .pure ahd_s)]
theorem TAH_ok : TabOk Try.prog gl TAH := .cons ahd_ok (.nil _ _)
theorem rmi_vc (l out : List Tk) (m : Int) (i k : Nat) (R : Ex → List PV → Heap → Prop) (h : br (decide ((↑k : Int) > 0) == true) (InL (List.map csT l) 5 (↑i : Int) ∧ br (true && fitX [CK.int IntKind.u32, CK.int IntKind.i64, CK.list, CK.int IntKind.i64, CK.int IntKind.i64] 0 (List.getD (List.map csT l) (Int.toNat (↑i : Int)) [])) (InL (List.map csT out) 5 (wI ((↑k : Int) - 1)) ∧ br (true && fitX [CK.int IntKind.u32, CK.int IntKind.i64, CK.list, CK.int IntKind.i64, CK.int IntKind.i64] 0 (List.getD (List.map csT out) (Int.toNat (wI ((↑k : Int) - 1))) [])) (∃ (a : Tk), ∃ (b : Tk), SlIs [PV.agg [PV.int IntKind.u32 (cI (List.getD (List.map csT l) (Int.toNat (↑i : Int)) []) 0), PV.int IntKind.i64 (cI (List.getD (List.map csT l) (Int.toNat (↑i : Int)) []) 1), PV.list (cL (List.getD (List.map csT l) (Int.toNat (↑i : Int)) []) 2) (cT (List.getD (List.map csT l) (Int.toNat (↑i : Int)) []) 2), PV.int IntKind.i64 (cI (List.getD (List.map csT l) (Int.toNat (↑i : Int)) []) 3), PV.int IntKind.i64 (cI (List.getD (List.map csT l) (Int.toNat (↑i : Int)) []) 4)], PV.agg [PV.int IntKind.u32 (cI (List.getD (List.map csT out) (Int.toNat (wI ((↑k : Int) - 1))) []) 0), PV.int IntKind.i64 (cI (List.getD (List.map csT out) (Int.toNat (wI ((↑k : Int) - 1))) []) 1), PV.list (cL (List.getD (List.map csT out) (Int.toNat (wI ((↑k : Int) - 1))) []) 2) (cT (List.getD (List.map csT out) (Int.toNat (wI ((↑k : Int) - 1))) []) 2), PV.int IntKind.i64 (cI (List.getD (List.map csT out) (Int.toNat (wI ((↑k : Int) - 1))) []) 3), PV.int IntKind.i64 (cI (List.getD (List.map csT out) (Int.toNat (wI ((↑k : Int) - 1))) []) 4)]] [PV.agg [PV.int IntKind.u32 (Tk.id a), PV.int IntKind.i64 (Tk.md a), PV.list (List.map u1 (Tk.pl a)) Tail.no, PV.int IntKind.i64 (Tk.rt a), PV.int IntKind.i64 (Tk.si a)], PV.agg [PV.int IntKind.u32 (Tk.id b), PV.int IntKind.i64 (Tk.md b), PV.list (List.map u1 (Tk.pl b)) Tail.no, PV.int IntKind.i64 (Tk.rt b), PV.int IntKind.i64 (Tk.si b)]] ∧ br (befB a b) (R Ex.normal [PV.list (List.map csT l) Tail.no, PV.int IntKind.i64 m, PV.list (List.map csT out) Tail.no, PV.int IntKind.i64 (↑i : Int), PV.int IntKind.i64 (wI ((↑k : Int) - 1))] []) (R (Ex.exit 2) [PV.list (List.map csT l) Tail.no, PV.int IntKind.i64 m, PV.list (List.map csT out) Tail.no, PV.int IntKind.i64 (↑i : Int), PV.int IntKind.i64 (↑k : Int)] [])) False) False) (R (Ex.exit 2) [PV.list (List.map csT l) Tail.no, PV.int IntKind.i64 m, PV.list (List.map csT out) Tail.no, PV.int IntKind.i64 (↑i : Int), PV.int IntKind.i64 (↑k : Int)] [])) : Holds (wpc br Try.prog gl TAH [] (fun _ => 0) (subOf [1, 1, 0, 1, 0, 0, 1, 0, 0, 1, 1, 0, 0] (bodyOf Try.f84)) [] (envS [0, 1, 5, 6, 7] [.list (l.map csT) .no, .int .i64 m, .list (out.map csT) .no, .int .i64 i, .int .i64 k]) [] (fun ex e H => R ex (List.map e [0, 1, 5, 6, 7]) H)) := holds_of_eq (by kernel_rfl) h
def downK (t : Tk) (out : List Tk) : Nat → Nat
  | 0 => 0
  | k + 1 => if befB t (out.getD k default) = true then downK t out k else k + 1
theorem downK_le (t : Tk) (out : List Tk) : ∀ k, downK t out k ≤ k
  | 0 => Nat.le_refl _
  | k + 1 => by
    unfold downK; split
    · have := downK_le t out k; omega
    · exact Nat.le_refl _
def rmi_l : LSp := fun e H Q => ∃ (l out : List Tk) (m : Int) (i : Nat), l.length ≤ 1000000 ∧ out.length ≤ 1000000 ∧ i < l.length ∧ SlIs (List.map e [0, 1, 5, 6, 7]) [.list (l.map csT) .no, .int .i64 m, .list (out.map csT) .no, .int .i64 i, .int .i64 out.length] ∧ HpIs H [] ∧
  Q (.exit 2) (envS [0, 1, 5, 6, 7] [.list (l.map csT) .no, .int .i64 m, .list (out.map csT) .no, .int .i64 i, .int .i64 (downK (l.getD i default) out out.length)]) []
theorem rmi_l_ok : ∀ e H Q, rmi_l e H Q → AW Try.prog gl Try.f84.ntmps (.loop (subOf [1, 1, 0, 1, 0, 0, 1, 0, 0, 1, 1, 0, 0] (bodyOf Try.f84))) Q e H := by
  rintro e H Q ⟨l, out, m, i, hl, ho, hi, he, hH, hQ⟩
  refine aw_loop4 (hn := fun _ => 0) gl_low TAH_ok (.nil _ _ _ _ _) (σ := Nat) [0, 1, 5, 6, 7] (fun k => k ≤ out.length ∧ downK (l.getD i default) out k = downK (l.getD i default) out out.length) (fun k => [.list (l.map csT) .no, .int .i64 m, .list (out.map csT) .no, .int .i64 i, .int .i64 k]) (fun _ => []) (fun k => k) out.length ⟨Nat.le_refl _, rfl⟩ he hH ?_
  rintro k ⟨hk, hd⟩
  refine rmi_vc l out m i k _ ?_
  simp only [br_if]
  cases k with
  | zero =>
    rw [if_neg (by simp)]
    have e0 : downK (l.getD i default) out 0 = 0 := rfl
    rw [e0] at hd
    rw [← hd] at hQ
    exact hQ
  | succ k =>
    rw [if_pos (by simp)]
    have ew : wI (((k + 1 : Nat) : Int) - 1) = (k : Int) := by rw [w_small (by omega) (by omega)]; omega
    simp only [ew, toNat_nat, inL_csT]
    rw [getD_map default hi, getD_map default (show k < out.length by omega)]
    refine ⟨hi, ?_⟩
    rw [if_pos (by rfl)]
    refine ⟨by omega, ?_⟩
    rw [if_pos (by rfl)]
    refine ⟨l.getD i default, out.getD k default, rfl, ?_⟩
    by_cases c : befB (l.getD i default) (out.getD k default) = true
    · rw [if_pos c]
      refine ⟨k, Nat.lt_succ_self k, ⟨by omega, ?_⟩, rfl, [], rfl, Nat.le_refl _, .inl rfl⟩
      rw [← hd]
      conv => rhs; unfold downK
      rw [if_pos c]
    · rw [if_neg c]
      have e1 : downK (l.getD i default) out (k + 1) = k + 1 := by unfold downK; rw [if_neg c]
      rw [e1] at hd
      rw [← hd] at hQ
      exact hQ
theorem rmi_l_ok2 : ∀ e H Q, rmi_l e H Q → AW Try.prog gl Try.f84.ntmps (.loop (subOf [1, 0, 0, 1, 1, 0, 0] (subOf [1, 1, 0, 1, 0] (bodyOf Try.f84)))) Q e H := by
  rw [show subOf [1, 0, 0, 1, 1, 0, 0] (subOf [1, 1, 0, 1, 0] (bodyOf Try.f84)) = subOf [1, 1, 0, 1, 0, 0, 1, 0, 0, 1, 1, 0, 0] (bodyOf Try.f84) from by kernel_rfl]; exact rmi_l_ok
theorem rmo_vc (l out : List Tk) (m : Int) (i : Nat) (R : Ex → List PV → Heap → Prop) (h : br (decide ((↑i : Int) < (↑(List.length (List.map csT l)) : Int))) (InL (List.map csT l) 5 (↑i : Int) ∧ br (true && fitX [CK.int IntKind.i64] 0 (List.drop 1 (List.getD (List.map csT l) (Int.toNat (↑i : Int)) []))) (br (cI (List.drop 1 (List.getD (List.map csT l) (Int.toNat (↑i : Int)) [])) 0 != m) (R Ex.normal [PV.list (List.map csT l) Tail.no, PV.int IntKind.i64 m, PV.list (List.map csT out) Tail.no, PV.int IntKind.i64 (wI ((↑i : Int) + 1))] []) (∃ (l_1 : List Tk), ∃ (out_1 : List Tk), ∃ (m_1 : Int), ∃ (i_1 : Nat), List.length l_1 ≤ 1000000 ∧ List.length out_1 ≤ 1000000 ∧ i_1 < List.length l_1 ∧ SlIs [PV.list (List.map csT l) Tail.no, PV.int IntKind.i64 m, PV.list (List.map csT out) Tail.no, PV.int IntKind.i64 (↑i : Int), PV.int IntKind.i64 (↑(List.length (List.map csT out)) : Int)] [PV.list (List.map csT l_1) Tail.no, PV.int IntKind.i64 m_1, PV.list (List.map csT out_1) Tail.no, PV.int IntKind.i64 (↑i_1 : Int), PV.int IntKind.i64 (↑(List.length out_1) : Int)] ∧ HpIs [] [] ∧ InL (List.map csT l_1) 5 (↑i_1 : Int) ∧ br (true && fitX [CK.int IntKind.u32, CK.int IntKind.i64, CK.list, CK.int IntKind.i64, CK.int IntKind.i64] 0 (List.getD (List.map csT l_1) (Int.toNat (↑i_1 : Int)) [])) ((0 ≤ (↑(downK (List.getD l_1 i_1 default) out_1 (List.length out_1)) : Int) ∧ (↑(downK (List.getD l_1 i_1 default) out_1 (List.length out_1)) : Int) ≤ (↑(List.length (List.map csT out_1)) : Int) ∧ (↑(List.length (List.map csT out_1)) : Int) ≤ (↑(List.length (List.map csT out_1)) : Int) ∧ (↑(List.length (List.map csT out_1)) : Int) ≤ (↑(List.length (List.map csT out_1)) : Int) ∧ uni 5 (List.map csT out_1)) ∧ AppL [[PV.int IntKind.u32 (cI (List.getD (List.map csT l_1) (Int.toNat (↑i_1 : Int)) []) 0), PV.int IntKind.i64 (cI (List.getD (List.map csT l_1) (Int.toNat (↑i_1 : Int)) []) 1), PV.list (cL (List.getD (List.map csT l_1) (Int.toNat (↑i_1 : Int)) []) 2) (cT (List.getD (List.map csT l_1) (Int.toNat (↑i_1 : Int)) []) 2), PV.int IntKind.i64 (cI (List.getD (List.map csT l_1) (Int.toNat (↑i_1 : Int)) []) 3), PV.int IntKind.i64 (cI (List.getD (List.map csT l_1) (Int.toNat (↑i_1 : Int)) []) 4)]] (List.drop (Int.toNat (↑(downK (List.getD l_1 i_1 default) out_1 (List.length out_1)) : Int)) (List.take (Int.toNat (↑(List.length (List.map csT out_1)) : Int)) (List.map csT out_1))) 5 56 ∧ (iI 0 ≤ 0 ∧ 0 ≤ (↑(downK (List.getD l_1 i_1 default) out_1 (List.length out_1)) : Int) ∧ (↑(downK (List.getD l_1 i_1 default) out_1 (List.length out_1)) : Int) ≤ (↑(List.length (List.map csT out_1)) : Int) ∧ (↑(List.length (List.map csT out_1)) : Int) ≤ (↑(List.length (List.map csT out_1)) : Int) ∧ uni 5 (List.map csT out_1)) ∧ AppL [] (List.drop 0 (List.take (Int.toNat (↑(downK (List.getD l_1 i_1 default) out_1 (List.length out_1)) : Int)) (List.map csT out_1))) 5 56 ∧ List.all (List.flatten (List.drop 0 (List.take (Int.toNat (↑(downK (List.getD l_1 i_1 default) out_1 (List.length out_1)) : Int)) (List.map csT out_1)))) PV.one = true ∧ (List.drop 0 (List.take (Int.toNat (↑(downK (List.getD l_1 i_1 default) out_1 (List.length out_1)) : Int)) (List.map csT out_1)) = [] → AppL [] ([[PV.int IntKind.u32 (cI (List.getD (List.map csT l_1) (Int.toNat (↑i_1 : Int)) []) 0), PV.int IntKind.i64 (cI (List.getD (List.map csT l_1) (Int.toNat (↑i_1 : Int)) []) 1), PV.list (cL (List.getD (List.map csT l_1) (Int.toNat (↑i_1 : Int)) []) 2) (cT (List.getD (List.map csT l_1) (Int.toNat (↑i_1 : Int)) []) 2), PV.int IntKind.i64 (cI (List.getD (List.map csT l_1) (Int.toNat (↑i_1 : Int)) []) 3), PV.int IntKind.i64 (cI (List.getD (List.map csT l_1) (Int.toNat (↑i_1 : Int)) []) 4)]] ++ List.drop (Int.toNat (↑(downK (List.getD l_1 i_1 default) out_1 (List.length out_1)) : Int)) (List.take (Int.toNat (↑(List.length (List.map csT out_1)) : Int)) (List.map csT out_1))) 5 56 ∧ (List.all (List.flatten ([[PV.int IntKind.u32 (cI (List.getD (List.map csT l_1) (Int.toNat (↑i_1 : Int)) []) 0), PV.int IntKind.i64 (cI (List.getD (List.map csT l_1) (Int.toNat (↑i_1 : Int)) []) 1), PV.list (cL (List.getD (List.map csT l_1) (Int.toNat (↑i_1 : Int)) []) 2) (cT (List.getD (List.map csT l_1) (Int.toNat (↑i_1 : Int)) []) 2), PV.int IntKind.i64 (cI (List.getD (List.map csT l_1) (Int.toNat (↑i_1 : Int)) []) 3), PV.int IntKind.i64 (cI (List.getD (List.map csT l_1) (Int.toNat (↑i_1 : Int)) []) 4)]] ++ List.drop (Int.toNat (↑(downK (List.getD l_1 i_1 default) out_1 (List.length out_1)) : Int)) (List.take (Int.toNat (↑(List.length (List.map csT out_1)) : Int)) (List.map csT out_1)))) PV.one = true ∧ [[PV.int IntKind.u32 (cI (List.getD (List.map csT l_1) (Int.toNat (↑i_1 : Int)) []) 0), PV.int IntKind.i64 (cI (List.getD (List.map csT l_1) (Int.toNat (↑i_1 : Int)) []) 1), PV.list (cL (List.getD (List.map csT l_1) (Int.toNat (↑i_1 : Int)) []) 2) (cT (List.getD (List.map csT l_1) (Int.toNat (↑i_1 : Int)) []) 2), PV.int IntKind.i64 (cI (List.getD (List.map csT l_1) (Int.toNat (↑i_1 : Int)) []) 3), PV.int IntKind.i64 (cI (List.getD (List.map csT l_1) (Int.toNat (↑i_1 : Int)) []) 4)]] ++ List.drop (Int.toNat (↑(downK (List.getD l_1 i_1 default) out_1 (List.length out_1)) : Int)) (List.take (Int.toNat (↑(List.length (List.map csT out_1)) : Int)) (List.map csT out_1)) ≠ []) ∧ R Ex.normal [PV.list (List.map csT l_1) Tail.no, PV.int IntKind.i64 m_1, PV.list ([] ++ ([[PV.int IntKind.u32 (cI (List.getD (List.map csT l_1) (Int.toNat (↑i_1 : Int)) []) 0), PV.int IntKind.i64 (cI (List.getD (List.map csT l_1) (Int.toNat (↑i_1 : Int)) []) 1), PV.list (cL (List.getD (List.map csT l_1) (Int.toNat (↑i_1 : Int)) []) 2) (cT (List.getD (List.map csT l_1) (Int.toNat (↑i_1 : Int)) []) 2), PV.int IntKind.i64 (cI (List.getD (List.map csT l_1) (Int.toNat (↑i_1 : Int)) []) 3), PV.int IntKind.i64 (cI (List.getD (List.map csT l_1) (Int.toNat (↑i_1 : Int)) []) 4)]] ++ List.drop (Int.toNat (↑(downK (List.getD l_1 i_1 default) out_1 (List.length out_1)) : Int)) (List.take (Int.toNat (↑(List.length (List.map csT out_1)) : Int)) (List.map csT out_1)))) (Tail.tok 0), PV.int IntKind.i64 (wI ((↑i_1 : Int) + 1))] [Ob.tok]) ∧ (List.drop 0 (List.take (Int.toNat (↑(downK (List.getD l_1 i_1 default) out_1 (List.length out_1)) : Int)) (List.map csT out_1)) ≠ [] → AppL ([] ++ List.drop 0 (List.take (Int.toNat (↑(downK (List.getD l_1 i_1 default) out_1 (List.length out_1)) : Int)) (List.map csT out_1))) ([[PV.int IntKind.u32 (cI (List.getD (List.map csT l_1) (Int.toNat (↑i_1 : Int)) []) 0), PV.int IntKind.i64 (cI (List.getD (List.map csT l_1) (Int.toNat (↑i_1 : Int)) []) 1), PV.list (cL (List.getD (List.map csT l_1) (Int.toNat (↑i_1 : Int)) []) 2) (cT (List.getD (List.map csT l_1) (Int.toNat (↑i_1 : Int)) []) 2), PV.int IntKind.i64 (cI (List.getD (List.map csT l_1) (Int.toNat (↑i_1 : Int)) []) 3), PV.int IntKind.i64 (cI (List.getD (List.map csT l_1) (Int.toNat (↑i_1 : Int)) []) 4)]] ++ List.drop (Int.toNat (↑(downK (List.getD l_1 i_1 default) out_1 (List.length out_1)) : Int)) (List.take (Int.toNat (↑(List.length (List.map csT out_1)) : Int)) (List.map csT out_1))) 5 56 ∧ (List.all (List.flatten ([[PV.int IntKind.u32 (cI (List.getD (List.map csT l_1) (Int.toNat (↑i_1 : Int)) []) 0), PV.int IntKind.i64 (cI (List.getD (List.map csT l_1) (Int.toNat (↑i_1 : Int)) []) 1), PV.list (cL (List.getD (List.map csT l_1) (Int.toNat (↑i_1 : Int)) []) 2) (cT (List.getD (List.map csT l_1) (Int.toNat (↑i_1 : Int)) []) 2), PV.int IntKind.i64 (cI (List.getD (List.map csT l_1) (Int.toNat (↑i_1 : Int)) []) 3), PV.int IntKind.i64 (cI (List.getD (List.map csT l_1) (Int.toNat (↑i_1 : Int)) []) 4)]] ++ List.drop (Int.toNat (↑(downK (List.getD l_1 i_1 default) out_1 (List.length out_1)) : Int)) (List.take (Int.toNat (↑(List.length (List.map csT out_1)) : Int)) (List.map csT out_1)))) PV.one = true ∧ [[PV.int IntKind.u32 (cI (List.getD (List.map csT l_1) (Int.toNat (↑i_1 : Int)) []) 0), PV.int IntKind.i64 (cI (List.getD (List.map csT l_1) (Int.toNat (↑i_1 : Int)) []) 1), PV.list (cL (List.getD (List.map csT l_1) (Int.toNat (↑i_1 : Int)) []) 2) (cT (List.getD (List.map csT l_1) (Int.toNat (↑i_1 : Int)) []) 2), PV.int IntKind.i64 (cI (List.getD (List.map csT l_1) (Int.toNat (↑i_1 : Int)) []) 3), PV.int IntKind.i64 (cI (List.getD (List.map csT l_1) (Int.toNat (↑i_1 : Int)) []) 4)]] ++ List.drop (Int.toNat (↑(downK (List.getD l_1 i_1 default) out_1 (List.length out_1)) : Int)) (List.take (Int.toNat (↑(List.length (List.map csT out_1)) : Int)) (List.map csT out_1)) ≠ []) ∧ R Ex.normal [PV.list (List.map csT l_1) Tail.no, PV.int IntKind.i64 m_1, PV.list ([] ++ List.drop 0 (List.take (Int.toNat (↑(downK (List.getD l_1 i_1 default) out_1 (List.length out_1)) : Int)) (List.map csT out_1)) ++ ([[PV.int IntKind.u32 (cI (List.getD (List.map csT l_1) (Int.toNat (↑i_1 : Int)) []) 0), PV.int IntKind.i64 (cI (List.getD (List.map csT l_1) (Int.toNat (↑i_1 : Int)) []) 1), PV.list (cL (List.getD (List.map csT l_1) (Int.toNat (↑i_1 : Int)) []) 2) (cT (List.getD (List.map csT l_1) (Int.toNat (↑i_1 : Int)) []) 2), PV.int IntKind.i64 (cI (List.getD (List.map csT l_1) (Int.toNat (↑i_1 : Int)) []) 3), PV.int IntKind.i64 (cI (List.getD (List.map csT l_1) (Int.toNat (↑i_1 : Int)) []) 4)]] ++ List.drop (Int.toNat (↑(downK (List.getD l_1 i_1 default) out_1 (List.length out_1)) : Int)) (List.take (Int.toNat (↑(List.length (List.map csT out_1)) : Int)) (List.map csT out_1)))) (Tail.tok 1), PV.int IntKind.i64 (wI ((↑i_1 : Int) + 1))] [Ob.dead, Ob.tok])) False)) False) (R (Ex.exit 0) [PV.list (List.map csT l) Tail.no, PV.int IntKind.i64 m, PV.list (List.map csT out) Tail.no, PV.int IntKind.i64 (↑i : Int)] [])) : Holds (wpc br Try.prog gl [] [([1, 0, 0, 1, 1, 0, 0], rmi_l)] (fun o => match o.dst with | some 53 => 4 | some 55 => 1 | _ => 0) (subOf [1, 1, 0, 1, 0] (bodyOf Try.f84)) [] (envS [0, 1, 5, 6] [.list (l.map csT) .no, .int .i64 m, .list (out.map csT) .no, .int .i64 i]) [] (fun ex e H => R ex (List.map e [0, 1, 5, 6]) H)) := holds_of_eq (by kernel_rfl) h
def insW (out : List Tk) (t : Tk) : List Tk := insAt out (downK t out out.length) t
def modeW (l : List Tk) (m : Int) : List Tk := (modeL l m).foldl insW []
theorem modeW_take {l : List Tk} {m : Int} {i : Nat} (h : i < l.length) : modeW (l.take (i + 1)) m = if (l.getD i default).md == m then insW (modeW (l.take i) m) (l.getD i default) else modeW (l.take i) m := by
  unfold modeW
  rw [mode_take h, List.foldl_append]
  split <;> rfl
theorem modeW_len (l : List Tk) (m : Int) : (modeW l m).length ≤ l.length := by
  have key : ∀ (a out : List Tk), (a.foldl insW out).length = out.length + a.length := by
    intro a
    induction a with
    | nil => intro out; rfl
    | cons x a ih =>
      intro out
      rw [List.foldl_cons, ih, insW, insAt_length (downK_le _ _ _), List.length_cons]; omega
  unfold modeW
  rw [key]
  have := List.length_filter_le (fun t : Tk => t.md == m) l
  unfold modeL; simp; exact this
theorem appL_two {a b : List Tk} (h : a.length + b.length ≤ 2000001) : AppL (a.map csT) (b.map csT) 5 56 := ⟨uni_csT a, uni_csT b, by rw [List.length_map, List.length_map]; omega⟩
theorem all_one (l : List Tk) : List.all (l.map csT).flatten PV.one = true := List.all_eq_true.2 (by have := flT_one l (J := []) (fun _ h => nomatch h); simpa using this)
def rmo_l : LSp := fun e H Q => ∃ (l : List Tk) (m : Int), l.length ≤ 1000000 ∧ SlIs (List.map e [0, 1, 5, 6]) [.list (l.map csT) .no, .int .i64 m, .list [] .exact, .int .i64 0] ∧ HpIs H [] ∧
  Q (.exit 0) (envS [0, 1, 5, 6] [.list (l.map csT) .no, .int .i64 m, .list ((modeW l m).map csT) .no, .int .i64 l.length]) []
theorem rmo_l_ok : ∀ e H Q, rmo_l e H Q → AW Try.prog gl Try.f84.ntmps (.loop (subOf [1, 1, 0, 1, 0] (bodyOf Try.f84))) Q e H := by
  rintro e H Q ⟨l, m, hl, he, hH, hQ⟩
  have hH : H = [] := hH
  subst hH
  refine AW.wkin (vs := [.list (l.map csT) .no, .int .i64 m, .list [] .no, .int .i64 0]) (slots := [0, 1, 5, 6]) (by rw [show List.map e [0, 1, 5, 6] = _ from he]; exact .cons (.refl _) (.cons (.refl _) (.cons (.list _ _) (.cons (.refl _) .nil)))) ?_
  refine aw_loop7 (hn := fun o => match o.dst with | some 53 => 4 | some 55 => 1 | _ => 0) gl_low (.nil _ _) (.cons (sub_of (by kernel_rfl)) rmi_l_ok2 (.nil _ _ _ _ _)) (σ := Nat) [0, 1, 5, 6] (fun i => i ≤ l.length) (fun i => [.list (l.map csT) .no, .int .i64 m, .list ((modeW (l.take i) m).map csT) .no, .int .i64 i]) (fun _ => []) (fun i => l.length - i) 0 (Nat.zero_le _) rfl rfl ?_
  intro i hi
  have hi : i ≤ l.length := hi
  have hml := modeW_len (l.take i) m
  rw [List.length_take] at hml
  obtain ⟨out, hout⟩ : ∃ out, out = modeW (l.take i) m := ⟨_, rfl⟩
  simp only [← hout] at hml ⊢
  refine rmo_vc l out m i _ ?_
  simp only [br_if, dt, toNat_nat, List.length_map]
  by_cases h : i < l.length
  · rw [if_pos (by omega), inL_csT, getD_map default h]
    have hs := modeW_take (m := m) h
    rw [← hout] at hs
    refine ⟨h, ?_⟩
    rw [if_pos (by rfl)]
    have hmd : cI (List.drop 1 (csT (l.getD i default))) 0 = (l.getD i default).md := rfl
    rw [hmd]
    have lows : ∀ (o : List Tk) (k : Nat), ∀ v ∈ [PV.list (l.map csT) .no, .int .i64 m, .list (o.map csT) .no, .int .i64 k], Lid ([] : Heap).length v := by
      intro o k v hv
      simp only [List.mem_cons, List.not_mem_nil, or_false] at hv
      rcases hv with rfl | rfl | rfl | rfl
      · exact .low (low_ts l)
      · exact .low (.int _ _)
      · exact .low (low_ts o)
      · exact .low (.int _ _)
    have lid0 : LidH ([] : Heap).length [] := fun o cs h => by simp at h
    by_cases c : (l.getD i default).md = m
    · rw [if_neg (by rw [bne_iff_ne]; exact fun k => k c)]
      rw [if_pos (by rw [beq_iff_eq]; exact c)] at hs
      have hk := downK_le (l.getD i default) out out.length
      refine ⟨l, out, m, i, hl, by omega, h, rfl, rfl, by rw [inL_csT]; exact h, ?_⟩
      rw [getD_map default h, if_pos (by rfl)]
      obtain ⟨k, hkd⟩ : ∃ k, k = downK (l.getD i default) out out.length := ⟨_, rfl⟩
      simp only [← hkd] at hk ⊢
      obtain ⟨t, htd⟩ : ∃ t, t = l.getD i default := ⟨_, rfl⟩
      have hins : insW out t = out.take k ++ t :: out.drop k := by unfold insW insAt; rw [htd, ← hkd]
      simp only [← htd] at hs ⊢
      have e1 : List.drop k (List.take out.length (out.map csT)) = (out.drop k).map csT := by rw [List.take_of_length_le (by simp), List.map_drop]
      have e2 : List.drop 0 (List.take k (out.map csT)) = (out.take k).map csT := by rw [List.drop_zero, List.map_take]
      have d1 : (out.drop k).length = out.length - k := List.length_drop
      have d2 : (out.take k).length = k := by rw [List.length_take]; omega
      rw [e1, e2]
      have fin : ∀ {es : List (List PV)} {tl : Tail} {X : Heap}, es = (insW out t).map csT → loopY Q ([] : Heap).length [0, 1, 5, 6] (fun i => i ≤ l.length) (fun i => [.list (l.map csT) .no, .int .i64 m, .list ((modeW (l.take i) m).map csT) .no, .int .i64 (i : Nat)]) (fun _ => []) (fun i => l.length - i) i .normal [.list (l.map csT) .no, .int .i64 m, .list es tl, .int .i64 (wI ((i : Int) + 1))] X := by
        rintro es tl X rfl
        refine ⟨i + 1, (show l.length - (i + 1) < l.length - i by omega), h, ?_⟩
        dsimp only
        rw [hs, wI_succ h (by omega)]
        exact tidy_base (B := []) (X := X) lid0 (.cons (.refl _) (.cons (.refl _) (.cons (.list _ _) (.cons (.refl _) .nil)))) (lows _ _) (Nat.le_refl _)
      refine ⟨⟨by omega, by omega, by omega, by omega, uni_csT _⟩, appL_two (a := [t]) (by simp; omega), ⟨by decide, by omega, by omega, by omega, uni_csT _⟩, appL_two (a := []) (by simp; omega), all_one _, fun e0 => ?_, fun e0 => ?_⟩
      · have e3 : out.take k = [] := List.map_eq_nil_iff.1 e0
        refine ⟨appL_two (a := []) (b := t :: out.drop k) (by simp; omega), ⟨all_one (t :: out.drop k), by simp⟩, fin ?_⟩
        rw [hins, e3]; rfl
      · refine ⟨appL_two (a := out.take k) (b := t :: out.drop k) (by simp; omega), ⟨all_one (t :: out.drop k), by simp⟩, fin ?_⟩
        rw [hins]; simp; rfl
    · rw [if_pos (by rw [bne_iff_ne]; exact c)]
      rw [if_neg (by rw [beq_iff_eq]; exact c)] at hs
      refine ⟨i + 1, (show l.length - (i + 1) < l.length - i by omega), h, ?_⟩
      dsimp only
      rw [hs, wI_succ h (by omega)]
      exact tidy_base (B := []) (X := []) lid0 (WkL.refl _) (lows _ _) (Nat.le_refl _)
  · rw [if_neg (by omega)]
    have : i = l.length := by omega
    subst this
    rw [List.take_length] at hout
    rw [← hout] at hQ
    refine ⟨_, _, tidy_base (B := []) (X := []) (fun o cs h => by simp at h) (WkL.refl _) ?_ (Nat.le_refl _), hQ⟩
    intro v hv
    simp only [List.mem_cons, List.not_mem_nil, or_false] at hv
    rcases hv with rfl | rfl | rfl | rfl
    · exact .low (low_ts l)
    · exact .low (.int _ _)
    · exact .low (low_ts out)
    · exact .low (.int _ _)
theorem rmode1_vc (l : List Tk) (m : Int)  (K : PV → Prop) (h : ∃ (l_1 : List Tk), ∃ (m_1 : Int), List.length l_1 ≤ 1000000 ∧ SlIs [PV.list (List.map csT l) Tail.no, PV.int IntKind.i64 m, PV.list [] Tail.exact, PV.int IntKind.i64 0] [PV.list (List.map csT l_1) Tail.no, PV.int IntKind.i64 m_1, PV.list [] Tail.exact, PV.int IntKind.i64 0] ∧ HpIs [] [] ∧ K (PV.list (List.map csT (modeW l_1 m_1)) Tail.no)) : ACalls Try.prog gl 84 [.list (l.map csT) .no, .int .i64 m] [] (fun x _ => K x) :=
  acalls_of_wpc2 (T := []) (L := [([1, 1, 0, 1, 0], rmo_l)]) (fun _ => 0) Try.func84 (by kernel_rfl) (by kernel_rfl) (by kernel_rfl) (TabOk.nil _ _) (.cons (sub_of (by kernel_rfl)) rmo_l_ok (.nil _ _ _ _ _)) (holds_of_eq (by kernel_rfl) h)
def rmode_s (args : List PV) (K : PV → Prop) : Prop := ∃ (l : List Tk) (tl : Tail) (m : Int), SlIs args [.list (l.map csT) tl, .int .i64 m] ∧ l.length ≤ 1000000 ∧ K (.list ((modeW l m).map csT) .no)
theorem rmode_ok : SpOk Try.prog gl 84 (.pure rmode_s) := by
  rintro args K ⟨l, tl, m, he, hl, hk⟩
  have he : args = _ := he
  subst he
  exact spure_w gl_low (.cons (.list _ _) (.cons (.refl _) .nil)) (low_two (low_ts l) (.int _ _)) (low_ts _) (rmode1_vc l m (fun x => x = .list ((modeW l m).map csT) .no) ⟨l, m, hl, rfl, rfl, rfl⟩) hk
def lown_s (args : List PV) (K : PV → Prop) : Prop := ∃ (t : Tk) (tl : Tail), SlIs args [.agg [.int .u32 t.id, .int .i64 t.md, .list (t.pl.map u1) tl, .int .i64 t.rt, .int .i64 t.si]] ∧ t.pl.length ≤ 1000000 ∧ K t.pv
theorem lown_ok : SpOk Try.prog gl 44 (.pure lown_s) := by
  rintro args K ⟨t, tl, he, h, hk⟩
  have he : args = _ := he
  subst he
  exact spure_w gl_low (.cons wk_tk .nil) (low_one t.low) t.low (lo1_vc t (fun x _ => x = t.pv) ⟨⟨(fun _ h => nomatch h), uni_u1 _, by simp; omega⟩, rfl⟩) hk
def lsame_s (args : List PV) (K : PV → Prop) : Prop := ∃ (a b : Tk) (t1 t2 : Tail), SlIs args [.agg [.int .u32 a.id, .int .i64 a.md, .list (a.pl.map u1) t1, .int .i64 a.rt, .int .i64 a.si], .agg [.int .u32 b.id, .int .i64 b.md, .list (b.pl.map u1) t2, .int .i64 b.rt, .int .i64 b.si]] ∧ a.pl.length ≤ 1000000 ∧ K (.bool (decide (a = b)))
theorem lsame_ok : SpOk Try.prog gl 52 (.pure lsame_s) := by
  rintro args K ⟨a, b, t1, t2, he, h, hk⟩
  have he : args = _ := he
  subst he
  exact spure_w gl_low (.cons wk_tk (.cons wk_tk .nil)) (low_two a.low b.low) (.bool _) (sm1_vc a b (fun x => x = .bool (decide (a = b))) ⟨a, b, rfl, h, rfl⟩) hk
end Go.Proofs.Ytcmknbanojcbaaa
