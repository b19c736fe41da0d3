/-
  Slices of numbers.
-/
import Derived.Test.YthabdpaipgclpaaRa
import Derived.Test.YthabdpaipgclpaaRe
import Derived.Test.YthabdpaipgclpaaA8
import Derived.Test.YthabdpaipgclpaaProg
namespace Go.Proofs.Ythabdpaipgclpaa
open Go Go.AM Go.Proofs
theorem rright_vc (t : Int)  (K : PV → Prop) (h : br ((t != 0) == true) (K (PV.bool (decide (t ≤ 2147483647)))) (K (PV.bool false))) : ACalls Try.prog gl 79 [.int .u32 t] [] (fun x _ => K x) :=
  acalls_of_wpc2 (T := []) (L := []) (fun _ => 0) Try.func79 (by kernel_rfl) (by kernel_rfl) (by kernel_rfl) (TabOk.nil _ _) (LOk.nil _ _ _ _ _) (holds_of_eq (by kernel_rfl) h)
def rrt_s (args : List PV) (K : PV → Prop) : Prop := ∃ t : Int, 0 ≤ t ∧ SlIs args [.int .u32 t] ∧ K (.bool (rightS t))
theorem rrt_ok : SpOk Try.prog gl 79 (.pure rrt_s) := by
  rintro args K ⟨t, h0, he, hk⟩
  have he : args = _ := he
  subst he
  refine spure gl_low (by simp [low_int]) (.bool _) (rright_vc t (fun x => x = .bool (rightS t)) ?_) hk
  simp only [br_if, bt]
  unfold rightS
  by_cases c : t = 0
  · subst c; rw [if_neg (by decide)]; rfl
  · rw [if_pos (by simpa using c)]; congr 1; apply decide_eq_decide.2; omega
theorem same_vc (a b : List (List PV)) (i : Nat) (R : Ex → List PV → Heap → Prop) (h : br (decide ((↑i : Int) < (↑(List.length a) : Int))) (InL a 1 (↑i : Int) ∧ br (true && fitX [CK.int IntKind.u32] 0 (List.getD a (Int.toNat (↑i : Int)) [])) (InL b 1 (↑i : Int) ∧ br (true && fitX [CK.int IntKind.u32] 0 (List.getD b (Int.toNat (↑i : Int)) [])) (br (cI (List.getD a (Int.toNat (↑i : Int)) []) 0 != cI (List.getD b (Int.toNat (↑i : Int)) []) 0) (R Ex.ret [PV.list a Tail.no, PV.list b Tail.no, PV.bool false, PV.int IntKind.i64 (↑i : Int)] []) (R Ex.normal [PV.list a Tail.no, PV.list b Tail.no, PV.bool false, PV.int IntKind.i64 (wI ((↑i : Int) + 1))] [])) False) False) (R (Ex.exit 0) [PV.list a Tail.no, PV.list b Tail.no, PV.bool false, PV.int IntKind.i64 (↑i : Int)] [])) : Holds (wpc br Try.prog gl [] [] (fun _ => 0) (subOf [1, 1, 0, 1, 0] (bodyOf Try.f24)) [] (envS [0, 1, 4, 5] [.list a .no, .list b .no, .bool false, .int .i64 i]) [] (fun ex e H => R ex (List.map e [0, 1, 4, 5]) H)) := holds_of_eq (by kernel_rfl) h
theorem low_list1 {ns : List Int} {k : IntKind} {t : Tail} (ht : NT t) {n : Nat} : Low n (.list (en1 k ns) t) := low_list ht (low_en1 k ns)
def same_l : LSp := fun e H Q => ∃ (a b : List Int), a.length ≤ 1000000 ∧ a.length = b.length ∧ SlIs (List.map e [0, 1, 4, 5]) [.list (en1 .u32 a) .no, .list (en1 .u32 b) .no, .bool false, .int .i64 0] ∧ HpIs H [] ∧
  (a = b → Q (.exit 0) (envS [0, 1, 4, 5] [.list (en1 .u32 a) .no, .list (en1 .u32 b) .no, .bool false, .int .i64 a.length]) []) ∧
  (a ≠ b → ∀ i : Int, Q .ret (envS [0, 1, 4, 5] [.list (en1 .u32 a) .no, .list (en1 .u32 b) .no, .bool false, .int .i64 i]) [])
theorem same_l_ok : ∀ e H Q, same_l e H Q → AW Try.prog gl Try.f24.ntmps (.loop (subOf [1, 1, 0, 1, 0] (bodyOf Try.f24))) Q e H := by
  rintro e H Q ⟨a, b, hl, hab, he, hH, hx, hr⟩
  refine aw_loop4 (hn := fun _ => 0) gl_low (.nil _ _) (.nil _ _ _ _ _) (σ := Nat) [0, 1, 4, 5] (fun i => i ≤ a.length ∧ ∀ k, k < i → a.getD k 0 = b.getD k 0)
    (fun i => [.list (en1 .u32 a) .no, .list (en1 .u32 b) .no, .bool false, .int .i64 i]) (fun _ => []) (fun i => a.length - i) 0 ⟨Nat.zero_le _, fun k hk => absurd hk (Nat.not_lt_zero _)⟩ he hH ?_
  rintro i ⟨hi, hk⟩
  refine same_vc _ _ i _ ?_
  simp only [br_if, dt, en1_length, toNat_nat]
  by_cases h : i < a.length
  · rw [if_pos (by omega), en1_get _ _ _ h, en1_get _ _ _ (by omega)]
    refine ⟨en1_in _ _ _ (by omega) (by omega), ?_⟩
    rw [if_pos (by rfl)]
    refine ⟨en1_in _ _ _ (by omega) (by omega), ?_⟩
    rw [if_pos (by rfl)]
    have e1 : cI [PV.int .u32 (a.getD i 0)] 0 = a.getD i 0 := rfl
    have e2 : cI [PV.int .u32 (b.getD i 0)] 0 = b.getD i 0 := rfl
    rw [e1, e2]
    by_cases c : a.getD i 0 = b.getD i 0
    · rw [if_neg (by simpa using c)]
      refine ⟨i + 1, (show a.length - (i + 1) < a.length - i by omega), ⟨h, fun k hk' => ?_⟩, by rw [wI_succ h (by omega)], [], rfl, Nat.le_refl _, .inl rfl⟩
      rcases Nat.eq_or_lt_of_le (Nat.le_of_lt_succ hk') with rfl | q
      · exact c
      · exact hk k q
    · rw [if_pos (by simpa using c)]
      exact hr (fun e => c (by rw [e])) i
  · rw [if_neg (by omega)]
    have : i = a.length := by omega
    subst this
    refine hx (List.ext_getElem hab fun k h1 h2 => ?_)
    have := hk k h1
    rwa [getD_eq' h1, getD_eq' h2] at this
theorem same1_vc (a b : List Int)  (K : PV → Prop) (h : br ((↑(List.length (en1 IntKind.u32 a)) : Int) != (↑(List.length (en1 IntKind.u32 b)) : Int)) (K (PV.bool false)) (∃ (a_1 : List Int), ∃ (b_1 : List Int), List.length a_1 ≤ 1000000 ∧ List.length a_1 = List.length b_1 ∧ SlIs [PV.list (en1 IntKind.u32 a) Tail.no, PV.list (en1 IntKind.u32 b) Tail.no, PV.bool false, PV.int IntKind.i64 0] [PV.list (en1 IntKind.u32 a_1) Tail.no, PV.list (en1 IntKind.u32 b_1) Tail.no, PV.bool false, PV.int IntKind.i64 0] ∧ HpIs [] [] ∧ (a_1 = b_1 → K (PV.bool true)) ∧ (a_1 ≠ b_1 → ∀ (_ : Int), K (PV.bool false)))) : ACalls Try.prog gl 24 [.list (en1 .u32 a) .no, .list (en1 .u32 b) .no] [] (fun x _ => K x) :=
  acalls_of_wpc2 (T := []) (L := [([1, 1, 0, 1, 0], same_l)]) (fun _ => 0) Try.func24 (by kernel_rfl) (by kernel_rfl) (by kernel_rfl) (TabOk.nil _ _) (.cons (sub_of (by kernel_rfl)) same_l_ok (.nil _ _ _ _ _)) (holds_of_eq (by kernel_rfl) h)
def same_s (args : List PV) (K : PV → Prop) : Prop := ∃ (a b : List Int) (t t' : Tail), SlIs args [.list (en1 .u32 a) t, .list (en1 .u32 b) t'] ∧ a.length ≤ 1000000 ∧ K (.bool (decide (a = b)))
theorem same_ok : SpOk Try.prog gl 24 (.pure same_s) := by
  rintro args K ⟨a, b, t, t', he, hl, hk⟩
  have he : args = _ := he
  subst he
  refine spure_w gl_low (.cons (.list _ _) (.cons (.list _ _) .nil)) (low_two (low_list1 NT.no) (low_list1 NT.no)) (.bool _) (same1_vc a b (fun x => x = .bool (decide (a = b))) ?_) hk
  simp only [br_if, en1_length]
  by_cases c : a.length = b.length
  · rw [if_neg (by simp [c])]
    exact ⟨a, b, hl, c, rfl, rfl, fun e => by rw [decide_eq_true e], fun e _ => by rw [decide_eq_false e]⟩
  · rw [if_pos (by simp; omega)]
    rw [decide_eq_false (fun e => c (by rw [e]))]
theorem idx_vc (l : List (Int)) (t : Int) (i : Nat) (R : Ex → List PV → Heap → Prop) (h : br (decide ((↑i : Int) < (↑(List.length l) : Int))) (InL (List.map u1 l) 1 (↑i : Int) ∧ br (true && fitX [CK.int IntKind.u32] 0 (List.getD (List.map u1 l) (Int.toNat (↑i : Int)) [])) (br (t == cI (List.getD (List.map u1 l) (Int.toNat (↑i : Int)) []) 0) (R Ex.ret [PV.list (List.map u1 l) Tail.no, PV.int IntKind.u32 t, PV.int IntKind.i64 (↑i : Int), PV.int IntKind.i64 (↑(List.length l) : Int), PV.int IntKind.i64 (↑i : Int)] []) (R Ex.normal [PV.list (List.map u1 l) Tail.no, PV.int IntKind.u32 t, PV.int IntKind.i64 0, PV.int IntKind.i64 (↑(List.length l) : Int), PV.int IntKind.i64 (wI ((↑i : Int) + 1))] [])) False) (R (Ex.exit 0) [PV.list (List.map u1 l) Tail.no, PV.int IntKind.u32 t, PV.int IntKind.i64 0, PV.int IntKind.i64 (↑(List.length l) : Int), PV.int IntKind.i64 (↑i : Int)] [])) : Holds (wpc br Try.prog gl [] [] (fun _ => 0) (subOf [1, 0, 1, 0] (bodyOf Try.f77)) [] (envS [0, 1, 4, 7, 8] [.list (l.map u1) .no, .int .u32 t, .int .i64 0, .int .i64 l.length, .int .i64 i]) [] (fun ex e H => R ex (List.map e [0, 1, 4, 7, 8]) H)) := holds_of_eq (by kernel_rfl) h
def idx_l : LSp := fun e H Q => ∃ (l : List (Int)) (t : Int), l.length ≤ 1000000 ∧ (True) ∧ SlIs (List.map e [0, 1, 4, 7, 8]) [.list (l.map u1) .no, .int .u32 t, .int .i64 0, .int .i64 l.length, .int .i64 0] ∧ HpIs H [] ∧
  (l.findIdx (fun x => t == x) < l.length → Q .ret (envS [0, 1, 4, 7, 8] [.list (l.map u1) .no, .int .u32 t, .int .i64 (l.findIdx (fun x => t == x)), .int .i64 l.length, .int .i64 (l.findIdx (fun x => t == x))]) []) ∧ (l.findIdx (fun x => t == x) = l.length → Q (.exit 0) (envS [0, 1, 4, 7, 8] [.list (l.map u1) .no, .int .u32 t, .int .i64 0, .int .i64 l.length, .int .i64 l.length]) [])
theorem idx_l_ok : ∀ e H Q, idx_l e H Q → AW Try.prog gl Try.f77.ntmps (.loop (subOf [1, 0, 1, 0] (bodyOf Try.f77))) Q e H := by
  rintro e H Q ⟨l, t, hl, _, he, hH, hQ1, hQ2⟩
  have hfl : l.findIdx (fun x => t == x) ≤ l.length := List.findIdx_le_length
  refine aw_loop4 (hn := fun _ => 0) gl_low (.nil _ _) (.nil _ _ _ _ _) (σ := Nat) [0, 1, 4, 7, 8] (fun i => i ≤ l.findIdx (fun x => t == x)) (fun i => [.list (l.map u1) .no, .int .u32 t, .int .i64 0, .int .i64 l.length, .int .i64 i]) (fun _ => []) (fun i => l.length - i) 0 (Nat.zero_le _) he hH ?_
  intro i hi
  have hi' : i ≤ l.findIdx (fun x => t == x) := hi
  refine idx_vc l t i _ ?_
  simp only [br_if, dt, toNat_nat, inL_u1]
  by_cases h : i < l.length
  · rw [if_pos (by omega)]
    simp only [getD_map 0 h]
    repeat (first | refine ⟨h, ?_⟩ | rw [if_pos (by rfl)])
    by_cases c : (fun x => t == x) (l.getD i 0) = true
    · have hge : l.findIdx (fun x => t == x) = i := fidx_stop 0 hi' h c
      rw [hge] at hQ1
      rw [if_pos (by exact c)]
      repeat (first | refine ⟨h, ?_⟩ | rw [if_pos (by rfl)])
      exact hQ1 h
    · have hlt : i < l.findIdx (fun x => t == x) := fidx_step 0 hi' h (by simpa using c)
      rw [if_neg (by exact c)]
      exact ⟨i + 1, (show l.length - (i + 1) < l.length - i by omega), hlt, by rw [wI_succ h (by omega)], [], rfl, Nat.le_refl _, .inl rfl⟩
  · rw [if_neg (by omega)]
    have : i = l.length := by omega
    subst this
    exact hQ2 (by omega)
theorem idx1_vc (l : List Int) (t : Int)  (K : PV → Prop) (h : ∃ (l_1 : List Int), ∃ (t_1 : Int), List.length l_1 ≤ 1000000 ∧ True ∧ SlIs [PV.list (List.map u1 l) Tail.no, PV.int IntKind.u32 t, PV.int IntKind.i64 0, PV.int IntKind.i64 (↑(List.length (List.map u1 l)) : Int), PV.int IntKind.i64 0] [PV.list (List.map u1 l_1) Tail.no, PV.int IntKind.u32 t_1, PV.int IntKind.i64 0, PV.int IntKind.i64 (↑(List.length l_1) : Int), PV.int IntKind.i64 0] ∧ HpIs [] [] ∧ (List.findIdx (fun (x : Int) => t_1 == x) l_1 < List.length l_1 → K (PV.int IntKind.i64 (↑(List.findIdx (fun (x : Int) => t_1 == x) l_1) : Int))) ∧ (List.findIdx (fun (x : Int) => t_1 == x) l_1 = List.length l_1 → K (PV.int IntKind.i64 (-1)))) : ACalls Try.prog gl 77 [.list (l.map u1) .no, .int .u32 t] [] (fun x _ => K x) :=
  acalls_of_wpc2 (T := []) (L := [([1, 0, 1, 0], idx_l)]) (fun _ => 0) Try.func77 (by kernel_rfl) (by kernel_rfl) (by kernel_rfl) (TabOk.nil _ _) (.cons (sub_of (by kernel_rfl)) idx_l_ok (.nil _ _ _ _ _)) (holds_of_eq (by kernel_rfl) h)
def idxI (l : List Int) (t : Int) : Int := if l.findIdx (fun x => t == x) < l.length then (l.findIdx (fun x => t == x) : Int) else -1
def idx_s (args : List PV) (K : PV → Prop) : Prop := ∃ (l : List Int) (t : Int), SlIs args [.list (l.map u1) .no, .int .u32 t] ∧ l.length ≤ 1000000 ∧ K (.int .i64 (idxI l t))
theorem low_us {n : Nat} (l : List Int) : Low n (.list (l.map u1) .no) := low_rows low_u1 l
theorem idx_ok : SpOk Try.prog gl 77 (.pure idx_s) := by
  rintro args K ⟨l, t, he, hl, hk⟩
  have he : args = _ := he
  subst he
  refine spure gl_low (low_two (low_us l) (.int _ _)) (.int _ _) (idx1_vc l t (fun x => x = .int .i64 (idxI l t)) ⟨l, t, hl, trivial, (by show _ = _; simp only [List.length_map]), rfl, fun h => ?_, fun h => ?_⟩) hk
  · unfold idxI; rw [if_pos h]
  · unfold idxI; rw [if_neg (by omega)]
def TI1 : Tab := [(77, .pure idx_s)]
theorem TI1_ok : TabOk Try.prog gl TI1 := .cons idx_ok (.nil _ _)
theorem con1_vc (l : List Int) (t : Int)  (K : PV → Prop) (h : ∃ (l_1 : List Int), ∃ (t_1 : Int), SlIs [PV.list (List.map u1 l) Tail.no, PV.int IntKind.u32 t] [PV.list (List.map u1 l_1) Tail.no, PV.int IntKind.u32 t_1] ∧ List.length l_1 ≤ 1000000 ∧ K (PV.bool (decide (idxI l_1 t_1 ≥ 0)))) : ACalls Try.prog gl 48 [.list (l.map u1) .no, .int .u32 t] [] (fun x _ => K x) :=
  acalls_of_wpc2 (T := TI1) (L := []) (fun _ => 0) Try.func48 (by kernel_rfl) (by kernel_rfl) (by kernel_rfl) (TI1_ok) (LOk.nil _ _ _ _ _) (holds_of_eq (by kernel_rfl) h)
def memB (l : List Int) (t : Int) : Bool := decide (t ∈ l)
theorem memB_iff {l : List Int} {t : Int} : memB l t = true ↔ t ∈ l := by unfold memB; rw [decide_eq_true_eq]
theorem idxI_mem (l : List Int) (t : Int) : decide (idxI l t ≥ 0) = memB l t := by
  unfold idxI memB
  have h : l.findIdx (fun x => t == x) < l.length ↔ t ∈ l := by
    rw [List.findIdx_lt_length]
    constructor
    · rintro ⟨x, hx, e⟩; rw [eq_of_beq e]; exact hx
    · intro h; exact ⟨t, h, by simp⟩
  by_cases c : l.findIdx (fun x => t == x) < l.length
  · rw [if_pos c, decide_eq_true (h.1 c), decide_eq_true (by omega)]
  · rw [if_neg c, decide_eq_false (fun k => c (h.2 k)), decide_eq_false (by omega)]
def con_s (args : List PV) (K : PV → Prop) : Prop := ∃ (l : List Int) (tl : Tail) (t : Int), SlIs args [.list (l.map u1) tl, .int .u32 t] ∧ l.length ≤ 1000000 ∧ K (.bool (memB l t))
theorem con_ok : SpOk Try.prog gl 48 (.pure con_s) := by
  rintro args K ⟨l, tl, t, he, hl, hk⟩
  have he : args = _ := he
  subst he
  exact spure_w gl_low (.cons (.list _ _) (.cons (.refl _) .nil)) (low_two (low_us l) (.int _ _)) (.bool _) (con1_vc l t (fun x => x = .bool (memB l t)) ⟨l, t, rfl, hl, by rw [idxI_mem]⟩) hk
theorem clo4_vc (l : List Int)  (K : PV → Heap → Prop) (h : ∀ (b : Bool), (List.flatten (List.map u1 l) ≠ [] → b = false) → br b (K (PV.list [] Tail.exact) []) (AppL [] (List.map u1 l) 1 4 ∧ List.all (List.flatten (List.map u1 l)) PV.one = true ∧ (List.map u1 l = [] → K (PV.list [] Tail.exact) []) ∧ (List.map u1 l ≠ [] → K (PV.list ([] ++ List.map u1 l) (Tail.tok 0)) [Ob.tok]))) : ACalls Try.prog gl 47 [.list (l.map u1) .no] [] K :=
  acalls_of_wpc2 (T := []) (L := []) (fun o => match o.dst with | some 7 => 4 | _ => 0) Try.func47 (by kernel_rfl) (by kernel_rfl) (by kernel_rfl) (TabOk.nil _ _) (LOk.nil _ _ _ _ _) (holds_of_eq (by kernel_rfl) h)
theorem clo0_vc (H : Heap)  (K : PV → Heap → Prop) (h : ∀ (b : Bool), (([] : List PV) ≠ [] → b = false) → br b (K (PV.list [] Tail.exact) H) (AppL [] [] 1 4 ∧ K (PV.list [] Tail.no) H)) : ACalls Try.prog gl 47 [.list [] .no] H K :=
  acalls_of_wpc2 (T := []) (L := []) (fun _ => 0) Try.func47 (by kernel_rfl) (by kernel_rfl) (by kernel_rfl) (TabOk.nil _ _) (LOk.nil _ _ _ _ _) (holds_of_eq (by kernel_rfl) h)
theorem clo2_vc (H : Heap) (l : List Int)  (K : PV → Heap → Prop) (h : ∀ (b : Bool), (List.flatten (List.map u1 l) ≠ [] → b = false) → br b (K (PV.list [] Tail.exact) H) (List.length (List.flatten (List.map u1 l)) = List.length (List.map u1 l) * 1 ∧ List.length (List.map u1 l) * 4 ≤ 140737488355328 ∧ 0 < List.length (List.map u1 l) ∧ ∀ (c : Nat), List.length (List.map u1 l) ≤ c → K (PV.arr (List.length H) 0 (List.length (List.map u1 l)) c) (H ++ [Ob.cells (List.flatten (List.map u1 l) ++ List.flatten (List.replicate (c - List.length (List.map u1 l)) [PV.int IntKind.u32 0]))]))) : ACalls Try.prog gl 47 [.list (l.map u1) .no] H K :=
  acalls_of_wpc2 (T := []) (L := []) (fun o => match o.dst with | some 7 => 2 | _ => 0) Try.func47 (by kernel_rfl) (by kernel_rfl) (by kernel_rfl) (TabOk.nil _ _) (LOk.nil _ _ _ _ _) (holds_of_eq (by kernel_rfl) h)
theorem u1_ne {l : List Int} (h : l ≠ []) : (l.map u1).flatten ≠ [] := by
  cases l with
  | nil => exact absurd rfl h
  | cons a l => simp [u1]
theorem map_u1_nil {l : List Int} : l.map u1 = [] ↔ l = [] := List.map_eq_nil_iff
/-- a clone: a row of the caller's own, with its spare room -/
def clo_s (args : List PV) (K : List (List PV) → Prop) : Prop := ∃ (l : List Int) (tl : Tail), SlIs args [.list (l.map u1) tl] ∧ l.length ≤ 1000000 ∧ K (l.map u1)
theorem clo_ok : SpOk Try.prog gl 47 (.mk clo_s) := by
  rintro args K ⟨l, tl, he, hl, hk⟩
  have he : args = _ := he
  subst he
  refine ⟨l.map u1, hk, mk_of gl_low (.cons (.list _ _) .nil) (low_one (low_us l)) (by have := low_fu1 (n := 0) l (J := []) (fun _ h => nomatch h); simpa using this) (clo4_vc l _ ?_)⟩
  intro b hb
  rw [br_if]
  cases b with
  | true =>
    rw [if_pos rfl]
    have hn : l = [] := Classical.byContradiction fun h => absurd (hb (u1_ne h)) (by decide)
    subst hn
    exact ⟨fun _ => rfl, fun h => absurd rfl h⟩
  | false =>
    rw [if_neg (by decide)]
    refine ⟨⟨(fun _ h => nomatch h), uni_map u1_len l, by simp; omega⟩, ?_, fun h => ?_, fun h => ?_⟩
    · exact List.all_eq_true.2 (by have := flat_u1 l; intro y hy; obtain ⟨c, h2, h3⟩ := List.mem_flatten.1 hy; obtain ⟨a, _, rfl⟩ := List.mem_map.1 h2; exact one_u1 a y h3)
    · exact ⟨fun _ => rfl, fun h2 => absurd h h2⟩
    · exact ⟨fun h2 => absurd h2 h, fun _ => ⟨0, rfl, rfl⟩⟩
/-- a clone: an object of the caller's own -/
def cloA_s (args : List PV) (H : Heap) (K : PV → Heap → Prop) : Prop := ∃ (l : List Int) (tl : Tail), SlIs args [.list (l.map u1) tl] ∧ l.length ≤ 1000000 ∧ (l = [] → K (.list [] .no) H) ∧
  (l ≠ [] → ∀ (cap : Nat), l.length ≤ cap → ∀ (J : List PV), Room J (cap - l.length) → K (.arr H.length 0 l.length cap) (H ++ [.cells ((l.map u1).flatten ++ J)]))
theorem zeros_u32 (n : Nat) : Room (List.replicate n [PV.int .u32 0]).flatten n := (Room.zeros (z := [PV.int .u32 0]) (by intro y hy; rcases List.mem_singleton.1 hy with rfl; rfl) (low_one (.int _ _)) n).cast (by simp)
theorem cloA_ok : SpOk Try.prog gl 47 (.heap cloA_s) := by
  rintro args H K ⟨l, tl, he, hl, h0, h1⟩
  have he : args = _ := he
  subst he
  refine acalls_args (.cons (.list _ _) .nil) ?_
  by_cases c : l = []
  · subst c
    refine acalls_weak (clo0_vc H _ ?_)
    intro b _
    rw [br_if]
    split
    · exact ⟨_, .list _ _, h0 rfl⟩
    · exact ⟨⟨(fun _ h => nomatch h), (fun _ h => nomatch h), by simp⟩, _, .refl _, h0 rfl⟩
  · refine clo2_vc H l _ ?_
    intro b hb
    rw [br_if, hb (u1_ne c), if_neg (by decide)]
    have hp := List.length_pos_iff.2 c
    refine ⟨by rw [flat_u1, List.length_map, Nat.mul_one], by rw [List.length_map]; omega, by rw [List.length_map]; exact hp, fun cap hc => ?_⟩
    rw [List.length_map] at hc ⊢
    exact h1 c cap hc _ (zeros_u32 _)
theorem has_vc (l : List (Int)) (t : Int) (i : Nat) (R : Ex → List PV → Heap → Prop) (h : br (decide ((↑i : Int) < (↑(List.length (List.map u1 l)) : Int))) (InL (List.map u1 l) 1 (↑i : Int) ∧ br (true && fitX [CK.int IntKind.u32] 0 (List.getD (List.map u1 l) (Int.toNat (↑i : Int)) [])) (br (cI (List.getD (List.map u1 l) (Int.toNat (↑i : Int)) []) 0 == t) (R Ex.ret [PV.list (List.map u1 l) Tail.no, PV.int IntKind.u32 t, PV.bool true, PV.int IntKind.i64 (↑i : Int)] []) (R Ex.normal [PV.list (List.map u1 l) Tail.no, PV.int IntKind.u32 t, PV.bool false, PV.int IntKind.i64 (wI ((↑i : Int) + 1))] [])) False) (R (Ex.exit 0) [PV.list (List.map u1 l) Tail.no, PV.int IntKind.u32 t, PV.bool false, PV.int IntKind.i64 (↑i : Int)] [])) : Holds (wpc br Try.prog gl [] [] (fun _ => 0) (subOf [1, 0, 1, 0] (bodyOf Try.f35)) [] (envS [0, 1, 4, 5] [.list (l.map u1) .no, .int .u32 t, .bool false, .int .i64 i]) [] (fun ex e H => R ex (List.map e [0, 1, 4, 5]) H)) := holds_of_eq (by kernel_rfl) h
def has_l : LSp := fun e H Q => ∃ (l : List (Int)) (t : Int), l.length ≤ 1000000 ∧ (True) ∧ SlIs (List.map e [0, 1, 4, 5]) [.list (l.map u1) .no, .int .u32 t, .bool false, .int .i64 0] ∧ HpIs H [] ∧
  (l.findIdx (fun x => x == t) < l.length → Q .ret (envS [0, 1, 4, 5] [.list (l.map u1) .no, .int .u32 t, .bool true, .int .i64 (l.findIdx (fun x => x == t))]) []) ∧ (l.findIdx (fun x => x == t) = l.length → Q (.exit 0) (envS [0, 1, 4, 5] [.list (l.map u1) .no, .int .u32 t, .bool false, .int .i64 l.length]) [])
theorem has_l_ok : ∀ e H Q, has_l e H Q → AW Try.prog gl Try.f35.ntmps (.loop (subOf [1, 0, 1, 0] (bodyOf Try.f35))) Q e H := by
  rintro e H Q ⟨l, t, hl, _, he, hH, hQ1, hQ2⟩
  have hfl : l.findIdx (fun x => x == t) ≤ l.length := List.findIdx_le_length
  refine aw_loop4 (hn := fun _ => 0) gl_low (.nil _ _) (.nil _ _ _ _ _) (σ := Nat) [0, 1, 4, 5] (fun i => i ≤ l.findIdx (fun x => x == t)) (fun i => [.list (l.map u1) .no, .int .u32 t, .bool false, .int .i64 i]) (fun _ => []) (fun i => l.length - i) 0 (Nat.zero_le _) he hH ?_
  intro i hi
  have hi' : i ≤ l.findIdx (fun x => x == t) := hi
  refine has_vc l t i _ ?_
  simp only [br_if, dt, toNat_nat, List.length_map, inL_u1]
  by_cases h : i < l.length
  · rw [if_pos (by omega)]
    simp only [getD_map 0 h]
    repeat (first | refine ⟨h, ?_⟩ | rw [if_pos (by rfl)])
    by_cases c : (fun x => x == t) (l.getD i 0) = true
    · have hge : l.findIdx (fun x => x == t) = i := fidx_stop 0 hi' h c
      rw [hge] at hQ1
      rw [if_pos (by exact c)]
      repeat (first | refine ⟨h, ?_⟩ | rw [if_pos (by rfl)])
      exact hQ1 h
    · have hlt : i < l.findIdx (fun x => x == t) := fidx_step 0 hi' h (by simpa using c)
      rw [if_neg (by exact c)]
      exact ⟨i + 1, (show l.length - (i + 1) < l.length - i by omega), hlt, by rw [wI_succ h (by omega)], [], rfl, Nat.le_refl _, .inl rfl⟩
  · rw [if_neg (by omega)]
    have : i = l.length := by omega
    subst this
    exact hQ2 (by omega)
theorem has1_vc (l : List Int) (t : Int)  (K : PV → Prop) (h : ∃ (l_1 : List Int), ∃ (t_1 : Int), List.length l_1 ≤ 1000000 ∧ True ∧ SlIs [PV.list (List.map u1 l) Tail.no, PV.int IntKind.u32 t, PV.bool false, PV.int IntKind.i64 0] [PV.list (List.map u1 l_1) Tail.no, PV.int IntKind.u32 t_1, PV.bool false, PV.int IntKind.i64 0] ∧ HpIs [] [] ∧ (List.findIdx (fun (x : Int) => x == t_1) l_1 < List.length l_1 → K (PV.bool true)) ∧ (List.findIdx (fun (x : Int) => x == t_1) l_1 = List.length l_1 → K (PV.bool false))) : ACalls Try.prog gl 35 [.list (l.map u1) .no, .int .u32 t] [] (fun x _ => K x) :=
  acalls_of_wpc2 (T := []) (L := [([1, 0, 1, 0], has_l)]) (fun _ => 0) Try.func35 (by kernel_rfl) (by kernel_rfl) (by kernel_rfl) (TabOk.nil _ _) (.cons (sub_of (by kernel_rfl)) has_l_ok (.nil _ _ _ _ _)) (holds_of_eq (by kernel_rfl) h)
theorem mem_find (l : List Int) (t : Int) : (l.findIdx (fun x => x == t) < l.length ↔ t ∈ l) := by
  rw [List.findIdx_lt_length]
  exact ⟨fun ⟨x, hx, e⟩ => by rw [← eq_of_beq e]; exact hx, fun h => ⟨t, h, by simp⟩⟩
def has_s (args : List PV) (K : PV → Prop) : Prop := ∃ (l : List Int) (tl : Tail) (t : Int), SlIs args [.list (l.map u1) tl, .int .u32 t] ∧ l.length ≤ 1000000 ∧ K (.bool (memB l t))
theorem has_ok : SpOk Try.prog gl 35 (.pure has_s) := by
  rintro args K ⟨l, tl, t, he, hl, hk⟩
  have he : args = _ := he
  subst he
  refine spure_w gl_low (.cons (.list _ _) (.cons (.refl _) .nil)) (low_two (low_us l) (.int _ _)) (.bool _) (has1_vc l t (fun x => x = .bool (memB l t)) ⟨l, t, hl, trivial, rfl, rfl, fun h => ?_, fun h => ?_⟩) hk
  · rw [memB_iff.2 ((mem_find l t).1 h)]
  · rw [show memB l t = false from eq_false_of_ne_true fun k => by have := (mem_find l t).2 (memB_iff.1 k); omega]
def TH : Tab := [(35, .pure has_s)]
theorem TH_ok : TabOk Try.prog gl TH := .cons has_ok (.nil _ _)
theorem us_nil {l : List Int} (h : l.map u1 = []) : l = [] := map_u1_nil.1 h
theorem lowH_book (R : Rep) : LowH [.cells [.ptr 1 0], .abs R] := lowH_of (by
  intro ob ho
  simp only [List.mem_cons, List.not_mem_nil, or_false] at ho
  rcases ho with rfl | rfl
  · exact low_one (.ptr _ _ (by simp))
  · trivial)
theorem runs_hlow (R : Rep) : LowH [.abs R, .cells [.ptr 0 0]] := by
  refine lowH_of fun ob ho => ?_
  simp only [List.mem_cons, List.not_mem_nil, or_false] at ho
  rcases ho with rfl | rfl
  · trivial
  · exact low_one (.ptr _ _ (by simp))
set_option maxRecDepth 10000
theorem u3 : Try.prog.underlying 3 = some (.int .i64) := by kernel_rfl
theorem u5 : Try.prog.underlying 5 = some (.int .u8) := by kernel_rfl
theorem u24 : Try.prog.underlying 24 = some (.int .u32) := by kernel_rfl
end Go.Proofs.Ythabdpaipgclpaa
