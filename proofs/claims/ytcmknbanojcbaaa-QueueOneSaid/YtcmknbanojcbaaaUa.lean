/-
  Tickets: their order, players of their own, closures.
-/
import Derived.Test.YtcmknbanojcbaaaKp
import Derived.Test.YtcmknbanojcbaaaA8
import Derived.Test.YtcmknbanojcbaaaProg
namespace Go.Proofs.Ytcmknbanojcbaaa
open Go Go.AM Go.Proofs
theorem idx_vc (l : List (Int)) (t : Int) (i : Nat) (R : Ex → List PV → Heap → Prop) (h : br (decide ((↑i : Int) < (↑(List.length l) : Int))) (InL (List.map u1 l) 1 (↑i : Int) ∧ br (true && fitX [CK.int IntKind.u32] 0 (List.getD (List.map u1 l) (Int.toNat (↑i : Int)) [])) (br (t == cI (List.getD (List.map u1 l) (Int.toNat (↑i : Int)) []) 0) (R Ex.ret [PV.list (List.map u1 l) Tail.no, PV.int IntKind.u32 t, PV.int IntKind.i64 (↑i : Int), PV.int IntKind.i64 (↑(List.length l) : Int), PV.int IntKind.i64 (↑i : Int)] []) (R Ex.normal [PV.list (List.map u1 l) Tail.no, PV.int IntKind.u32 t, PV.int IntKind.i64 0, PV.int IntKind.i64 (↑(List.length l) : Int), PV.int IntKind.i64 (wI ((↑i : Int) + 1))] [])) False) (R (Ex.exit 0) [PV.list (List.map u1 l) Tail.no, PV.int IntKind.u32 t, PV.int IntKind.i64 0, PV.int IntKind.i64 (↑(List.length l) : Int), PV.int IntKind.i64 (↑i : Int)] [])) : Holds (wpc br Try.prog gl [] [] (fun _ => 0) (subOf [1, 0, 1, 0] (bodyOf Try.f105)) [] (envS [0, 1, 4, 7, 8] [.list (l.map u1) .no, .int .u32 t, .int .i64 0, .int .i64 l.length, .int .i64 i]) [] (fun ex e H => R ex (List.map e [0, 1, 4, 7, 8]) H)) := holds_of_eq (by kernel_rfl) h
def idx_l : LSp := fun e H Q => ∃ (l : List (Int)) (t : Int), l.length ≤ 1000000 ∧ (True) ∧ SlIs (List.map e [0, 1, 4, 7, 8]) [.list (l.map u1) .no, .int .u32 t, .int .i64 0, .int .i64 l.length, .int .i64 0] ∧ HpIs H [] ∧
  (l.findIdx (fun x => t == x) < l.length → Q .ret (envS [0, 1, 4, 7, 8] [.list (l.map u1) .no, .int .u32 t, .int .i64 (l.findIdx (fun x => t == x)), .int .i64 l.length, .int .i64 (l.findIdx (fun x => t == x))]) []) ∧ (l.findIdx (fun x => t == x) = l.length → Q (.exit 0) (envS [0, 1, 4, 7, 8] [.list (l.map u1) .no, .int .u32 t, .int .i64 0, .int .i64 l.length, .int .i64 l.length]) [])
theorem idx_l_ok : ∀ e H Q, idx_l e H Q → AW Try.prog gl Try.f105.ntmps (.loop (subOf [1, 0, 1, 0] (bodyOf Try.f105))) Q e H := by
  rintro e H Q ⟨l, t, hl, _, he, hH, hQ1, hQ2⟩
  have hfl : l.findIdx (fun x => t == x) ≤ l.length := List.findIdx_le_length
  refine aw_loop4 (hn := fun _ => 0) gl_low (.nil _ _) (.nil _ _ _ _ _) (σ := Nat) [0, 1, 4, 7, 8] (fun i => i ≤ l.findIdx (fun x => t == x)) (fun i => [.list (l.map u1) .no, .int .u32 t, .int .i64 0, .int .i64 l.length, .int .i64 i]) (fun _ => []) (fun i => l.length - i) 0 (Nat.zero_le _) he hH ?_
  intro i hi
  have hi' : i ≤ l.findIdx (fun x => t == x) := hi
  refine idx_vc l t i _ ?_
  simp only [br_if, dt, toNat_nat, inL_u1]
  by_cases h : i < l.length
  · rw [if_pos (by omega)]
    simp only [getD_map 0 h]
    repeat (first | refine ⟨h, ?_⟩ | rw [if_pos (by rfl)])
    by_cases c : (fun x => t == x) (l.getD i 0) = true
    · have hge : l.findIdx (fun x => t == x) = i := fidx_stop 0 hi' h c
      rw [hge] at hQ1
      rw [if_pos (by exact c)]
      repeat (first | refine ⟨h, ?_⟩ | rw [if_pos (by rfl)])
      exact hQ1 h
    · have hlt : i < l.findIdx (fun x => t == x) := fidx_step 0 hi' h (by simpa using c)
      rw [if_neg (by exact c)]
      exact ⟨i + 1, (show l.length - (i + 1) < l.length - i by omega), hlt, by rw [wI_succ h (by omega)], [], rfl, Nat.le_refl _, .inl rfl⟩
  · rw [if_neg (by omega)]
    have : i = l.length := by omega
    subst this
    exact hQ2 (by omega)
theorem idx1_vc (l : List Int) (t : Int)  (K : PV → Prop) (h : ∃ (l_1 : List Int), ∃ (t_1 : Int), List.length l_1 ≤ 1000000 ∧ True ∧ SlIs [PV.list (List.map u1 l) Tail.no, PV.int IntKind.u32 t, PV.int IntKind.i64 0, PV.int IntKind.i64 (↑(List.length (List.map u1 l)) : Int), PV.int IntKind.i64 0] [PV.list (List.map u1 l_1) Tail.no, PV.int IntKind.u32 t_1, PV.int IntKind.i64 0, PV.int IntKind.i64 (↑(List.length l_1) : Int), PV.int IntKind.i64 0] ∧ HpIs [] [] ∧ (List.findIdx (fun (x : Int) => t_1 == x) l_1 < List.length l_1 → K (PV.int IntKind.i64 (↑(List.findIdx (fun (x : Int) => t_1 == x) l_1) : Int))) ∧ (List.findIdx (fun (x : Int) => t_1 == x) l_1 = List.length l_1 → K (PV.int IntKind.i64 (-1)))) : ACalls Try.prog gl 105 [.list (l.map u1) .no, .int .u32 t] [] (fun x _ => K x) :=
  acalls_of_wpc2 (T := []) (L := [([1, 0, 1, 0], idx_l)]) (fun _ => 0) Try.func105 (by kernel_rfl) (by kernel_rfl) (by kernel_rfl) (TabOk.nil _ _) (.cons (sub_of (by kernel_rfl)) idx_l_ok (.nil _ _ _ _ _)) (holds_of_eq (by kernel_rfl) h)
def idxI (l : List Int) (t : Int) : Int := if l.findIdx (fun x => t == x) < l.length then (l.findIdx (fun x => t == x) : Int) else -1
def idx_s (args : List PV) (K : PV → Prop) : Prop := ∃ (l : List Int) (t : Int), SlIs args [.list (l.map u1) .no, .int .u32 t] ∧ l.length ≤ 1000000 ∧ K (.int .i64 (idxI l t))
theorem low_us {n : Nat} (l : List Int) : Low n (.list (l.map u1) .no) := low_rows low_u1 l
theorem idx_ok : SpOk Try.prog gl 105 (.pure idx_s) := by
  rintro args K ⟨l, t, he, hl, hk⟩
  have he : args = _ := he
  subst he
  refine spure gl_low (low_two (low_us l) (.int _ _)) (.int _ _) (idx1_vc l t (fun x => x = .int .i64 (idxI l t)) ⟨l, t, hl, trivial, (by show _ = _; simp only [List.length_map]), rfl, fun h => ?_, fun h => ?_⟩) hk
  · unfold idxI; rw [if_pos h]
  · unfold idxI; rw [if_neg (by omega)]
def TI1 : Tab := [(105, .pure idx_s)]
theorem TI1_ok : TabOk Try.prog gl TI1 := .cons idx_ok (.nil _ _)
theorem con1_vc (l : List Int) (t : Int)  (K : PV → Prop) (h : ∃ (l_1 : List Int), ∃ (t_1 : Int), SlIs [PV.list (List.map u1 l) Tail.no, PV.int IntKind.u32 t] [PV.list (List.map u1 l_1) Tail.no, PV.int IntKind.u32 t_1] ∧ List.length l_1 ≤ 1000000 ∧ K (PV.bool (decide (idxI l_1 t_1 ≥ 0)))) : ACalls Try.prog gl 79 [.list (l.map u1) .no, .int .u32 t] [] (fun x _ => K x) :=
  acalls_of_wpc2 (T := TI1) (L := []) (fun _ => 0) Try.func79 (by kernel_rfl) (by kernel_rfl) (by kernel_rfl) (TI1_ok) (LOk.nil _ _ _ _ _) (holds_of_eq (by kernel_rfl) h)
def memB (l : List Int) (t : Int) : Bool := decide (t ∈ l)
theorem memB_iff {l : List Int} {t : Int} : memB l t = true ↔ t ∈ l := by unfold memB; rw [decide_eq_true_eq]
theorem idxI_mem (l : List Int) (t : Int) : decide (idxI l t ≥ 0) = memB l t := by
  unfold idxI memB
  have h : l.findIdx (fun x => t == x) < l.length ↔ t ∈ l := by
    rw [List.findIdx_lt_length]
    constructor
    · rintro ⟨x, hx, e⟩; rw [eq_of_beq e]; exact hx
    · intro h; exact ⟨t, h, by simp⟩
  by_cases c : l.findIdx (fun x => t == x) < l.length
  · rw [if_pos c, decide_eq_true (h.1 c), decide_eq_true (by omega)]
  · rw [if_neg c, decide_eq_false (fun k => c (h.2 k)), decide_eq_false (by omega)]
def con_s (args : List PV) (K : PV → Prop) : Prop := ∃ (l : List Int) (tl : Tail) (t : Int), SlIs args [.list (l.map u1) tl, .int .u32 t] ∧ l.length ≤ 1000000 ∧ K (.bool (memB l t))
theorem con_ok : SpOk Try.prog gl 79 (.pure con_s) := by
  rintro args K ⟨l, tl, t, he, hl, hk⟩
  have he : args = _ := he
  subst he
  exact spure_w gl_low (.cons (.list _ _) (.cons (.refl _) .nil)) (low_two (low_us l) (.int _ _)) (.bool _) (con1_vc l t (fun x => x = .bool (memB l t)) ⟨l, t, rfl, hl, by rw [idxI_mem]⟩) hk
def i1 (n : Int) : List PV := [.int .i64 n]
theorem i1_len (n : Int) : (i1 n).length = 1 := rfl
theorem low_i1 {k : Nat} (n : Int) : ∀ y ∈ i1 n, Low k y := low_one (.int _ _)
theorem inL_i1 (l : List Int) (i : Nat) : InL (l.map i1) 1 (i : Int) = (i < l.length) := inL_map i1_len (by decide) l i
theorem uni_u1 (l : List Int) : uni 1 (l.map u1) := by
  intro e he
  obtain ⟨a, _, rfl⟩ := List.mem_map.1 he
  rfl
-- a ticket
structure Tk where
  id : Int
  md : Int
  pl : List Int
  rt : Int
  si : Int
  deriving DecidableEq
instance tkInh : Inhabited Tk := ⟨⟨0, 0, [], 0, 0⟩⟩
def Tk.cells (t : Tk) : List PV := [.int .u32 t.id, .int .i64 t.md, .list (t.pl.map u1) .no, .int .i64 t.rt, .int .i64 t.si]
def Tk.pv (t : Tk) : PV := .agg [.int .u32 t.id, .int .i64 t.md, .list (t.pl.map u1) .no, .int .i64 t.rt, .int .i64 t.si]
abbrev csT : Tk → List PV := Tk.cells
theorem csT_len (t : Tk) : (csT t).length = 5 := rfl
theorem low_csT {n : Nat} (t : Tk) : ∀ y ∈ csT t, Low n y := by
  intro y hy
  simp only [csT, Tk.cells, List.mem_cons, List.not_mem_nil, or_false] at hy
  rcases hy with rfl | rfl | rfl | rfl | rfl <;> first | exact .int _ _ | exact low_us _
theorem Tk.low (t : Tk) {n : Nat} : Low n t.pv := .agg _ (low_csT t)
theorem low_tupT {n : Nat} (t : Tk) (b : Bool) : Low n (.tup [t.pv, .bool b]) := .tup _ (low_two t.low (.bool _))
theorem one_csT (t : Tk) : ∀ y ∈ csT t, y.one = true := by
  intro y hy
  simp only [csT, Tk.cells, List.mem_cons, List.not_mem_nil, or_false] at hy
  rcases hy with rfl | rfl | rfl | rfl | rfl <;> rfl
abbrev flT (l : List Tk) : List PV := (l.map csT).flatten
theorem flT_len (l : List Tk) : (flT l).length = l.length * 5 := rows_len csT_len l
theorem flT_at {l : List Tk} {k : Nat} (J : List PV) (h : k < l.length) : List.drop (k * 5) (flT l ++ J) = csT (l.getD k default) ++ (flT (l.drop (k + 1)) ++ J) := cells_at csT_len J default h
theorem flT_low {n : Nat} (l : List Tk) {J : List PV} (h : ∀ y ∈ J, Low n y) : ∀ y ∈ flT l ++ J, Low n y := low_flat (fun a _ => low_csT a) h
theorem flT_one (l : List Tk) {J : List PV} (h : ∀ y ∈ J, y.one = true) : ∀ y ∈ flT l ++ J, y.one = true := by
  intro y hy
  rcases List.mem_append.1 hy with h1 | h1
  · obtain ⟨c, h2, h3⟩ := List.mem_flatten.1 h1
    obtain ⟨a, _, rfl⟩ := List.mem_map.1 h2
    exact one_csT a y h3
  · exact h y h1
/-- a queue's objects: with a row; without -/
def hpQ (l : List Tk) (J : List PV) (cap : Nat) (sz : List Int) : Heap := [.cells [.arr 1 0 l.length cap, .list (sz.map i1) .no], .cells (flT l ++ J)]
def hpE (sz : List Int) : Heap := [.cells [.list [] .exact, .list (sz.map i1) .no]]
def EXQ (l : List Tk) (sz : List Int) (H : Heap) : Prop :=
  (∃ (J : List PV) (cap : Nat), H = hpQ l J cap sz ∧ l.length ≤ cap ∧ Room J ((cap - l.length) * 5)) ∨ (l = [] ∧ H = hpE sz)
/-- what a closure asks of a ticket -/
def byId (c : Int) (t : Tk) : Bool := t.id == c
def byPl (c : Int) (t : Tk) : Bool := memB t.pl c
def ixQ (l : List Tk) (p : Tk → Bool) : Int := if l.findIdx p < l.length then (l.findIdx p : Int) else -1
theorem nan64_vc (a : Int)  (K : PV → Prop) (h : K (PV.bool (a != a))) : ACalls Try.prog gl 111 [.int .i64 a] [] (fun x _ => K x) :=
  acalls_of_wpc2 (T := []) (L := []) (fun _ => 0) Try.func111 (by kernel_rfl) (by kernel_rfl) (by kernel_rfl) (TabOk.nil _ _) (LOk.nil _ _ _ _ _) (holds_of_eq (by kernel_rfl) h)
def nan64_s (args : List PV) (K : PV → Prop) : Prop := ∃ a : Int, SlIs args [.int .i64 a] ∧ K (.bool false)
theorem nan64_ok : SpOk Try.prog gl 111 (.pure nan64_s) := by
  rintro args K ⟨a, he, hk⟩
  have he : args = _ := he
  subst he
  refine spure gl_low (by simp [low_int]) (.bool _) (nan64_vc a (fun x => x = .bool false) ?_) hk
  simp
def TO0 : Tab := (111, .pure nan64_s) :: TK
theorem TO0_ok : TabOk Try.prog gl TO0 := .cons nan64_ok TK_ok
theorem cmp64_vc (a b : Int)  (K : PV → Prop) (h : ∃ (a_1 : Int), SlIs [PV.int IntKind.i64 a] [PV.int IntKind.i64 a_1] ∧ ∃ (a_2 : Int), SlIs [PV.int IntKind.i64 b] [PV.int IntKind.i64 a_2] ∧ br (decide (a < b)) (K (PV.int IntKind.i64 (-1))) (br (decide (a > b)) (K (PV.int IntKind.i64 1)) (K (PV.int IntKind.i64 0)))) : ACalls Try.prog gl 101 [.int .i64 a, .int .i64 b] [] (fun x _ => K x) :=
  acalls_of_wpc2 (T := TO0) (L := []) (fun _ => 0) Try.func101 (by kernel_rfl) (by kernel_rfl) (by kernel_rfl) (TO0_ok) (LOk.nil _ _ _ _ _) (holds_of_eq (by kernel_rfl) h)
def cmp64_s (args : List PV) (K : PV → Prop) : Prop := ∃ a b : Int, SlIs args [.int .i64 a, .int .i64 b] ∧ K (.int .i64 (cmpS a b))
theorem cmp64_ok : SpOk Try.prog gl 101 (.pure cmp64_s) := by
  rintro args K ⟨a, b, he, hk⟩
  have he : args = _ := he
  subst he
  refine spure gl_low (by simp [low_int]) (.int _ _) (cmp64_vc a b (fun x => x = .int .i64 (cmpS a b)) ⟨a, rfl, b, rfl, ?_⟩) hk
  simp only [br_if, dt]
  unfold cmpS
  by_cases c : a < b
  · rw [if_pos c, if_pos c]
  rw [if_neg c, if_neg c]
  by_cases d : a > b
  · rw [if_pos d, if_pos d]
  · rw [if_neg d, if_neg d]
theorem or_vc (l : List (Int))  (i : Nat) (R : Ex → List PV → Heap → Prop) (h : br (decide ((↑i : Int) < (↑(List.length l) : Int))) (InL (List.map i1 l) 1 (↑i : Int) ∧ br (true && fitX [CK.int IntKind.i64] 0 (List.getD (List.map i1 l) (Int.toNat (↑i : Int)) [])) (br (cI (List.getD (List.map i1 l) (Int.toNat (↑i : Int)) []) 0 != 0) (R Ex.ret [PV.int IntKind.i64 (cI (List.getD (List.map i1 l) (Int.toNat (↑i : Int)) []) 0), PV.int IntKind.i64 0, PV.list (List.map i1 l) Tail.no, PV.int IntKind.i64 (↑(List.length l) : Int), PV.int IntKind.i64 (↑i : Int)] []) (R Ex.normal [PV.int IntKind.i64 0, PV.int IntKind.i64 0, PV.list (List.map i1 l) Tail.no, PV.int IntKind.i64 (↑(List.length l) : Int), PV.int IntKind.i64 (wI ((↑i : Int) + 1))] [])) False) (R (Ex.exit 0) [PV.int IntKind.i64 0, PV.int IntKind.i64 0, PV.list (List.map i1 l) Tail.no, PV.int IntKind.i64 (↑(List.length l) : Int), PV.int IntKind.i64 (↑i : Int)] [])) : Holds (wpc br Try.prog gl [] [] (fun _ => 0) (subOf [1, 1, 0, 1, 0] (bodyOf Try.f100)) [] (envS [2, 3, 6, 7, 8] [.int .i64 0, .int .i64 0, .list (l.map i1) .no, .int .i64 l.length, .int .i64 i]) [] (fun ex e H => R ex (List.map e [2, 3, 6, 7, 8]) H)) := holds_of_eq (by kernel_rfl) h
def or_l : LSp := fun e H Q => ∃ (l : List (Int)) , l.length ≤ 1000000 ∧ (True) ∧ SlIs (List.map e [2, 3, 6, 7, 8]) [.int .i64 0, .int .i64 0, .list (l.map i1) .no, .int .i64 l.length, .int .i64 0] ∧ HpIs H [] ∧
  (l.findIdx (fun x => x != 0) < l.length → Q .ret (envS [2, 3, 6, 7, 8] [.int .i64 (l.getD (l.findIdx (fun x => x != 0)) 0), .int .i64 0, .list (l.map i1) .no, .int .i64 l.length, .int .i64 (l.findIdx (fun x => x != 0))]) []) ∧ (l.findIdx (fun x => x != 0) = l.length → Q (.exit 0) (envS [2, 3, 6, 7, 8] [.int .i64 0, .int .i64 0, .list (l.map i1) .no, .int .i64 l.length, .int .i64 l.length]) [])
theorem or_l_ok : ∀ e H Q, or_l e H Q → AW Try.prog gl Try.f100.ntmps (.loop (subOf [1, 1, 0, 1, 0] (bodyOf Try.f100))) Q e H := by
  rintro e H Q ⟨l, hl, _, he, hH, hQ1, hQ2⟩
  have hfl : l.findIdx (fun x => x != 0) ≤ l.length := List.findIdx_le_length
  refine aw_loop4 (hn := fun _ => 0) gl_low (.nil _ _) (.nil _ _ _ _ _) (σ := Nat) [2, 3, 6, 7, 8] (fun i => i ≤ l.findIdx (fun x => x != 0)) (fun i => [.int .i64 0, .int .i64 0, .list (l.map i1) .no, .int .i64 l.length, .int .i64 i]) (fun _ => []) (fun i => l.length - i) 0 (Nat.zero_le _) he hH ?_
  intro i hi
  have hi' : i ≤ l.findIdx (fun x => x != 0) := hi
  refine or_vc l  i _ ?_
  simp only [br_if, dt, toNat_nat, inL_i1]
  by_cases h : i < l.length
  · rw [if_pos (by omega)]
    simp only [getD_map 0 h]
    repeat (first | refine ⟨h, ?_⟩ | rw [if_pos (by rfl)])
    by_cases c : (fun x => x != 0) (l.getD i 0) = true
    · have hge : l.findIdx (fun x => x != 0) = i := fidx_stop 0 hi' h c
      rw [hge] at hQ1
      rw [if_pos (by exact c)]
      repeat (first | refine ⟨h, ?_⟩ | rw [if_pos (by rfl)])
      exact hQ1 h
    · have hlt : i < l.findIdx (fun x => x != 0) := fidx_step 0 hi' h (by simpa using c)
      rw [if_neg (by exact c)]
      exact ⟨i + 1, (show l.length - (i + 1) < l.length - i by omega), hlt, by rw [wI_succ h (by omega)], [], rfl, Nat.le_refl _, .inl rfl⟩
  · rw [if_neg (by omega)]
    have : i = l.length := by omega
    subst this
    exact hQ2 (by omega)
theorem or1_vc (a b : Int)  (K : PV → Prop) (h : ∃ (l : List Int), List.length l ≤ 1000000 ∧ True ∧ SlIs [PV.int IntKind.i64 0, PV.int IntKind.i64 0, PV.list [[PV.int IntKind.i64 a], [PV.int IntKind.i64 b]] Tail.no, PV.int IntKind.i64 (↑2 : Int), PV.int IntKind.i64 0] [PV.int IntKind.i64 0, PV.int IntKind.i64 0, PV.list (List.map i1 l) Tail.no, PV.int IntKind.i64 (↑(List.length l) : Int), PV.int IntKind.i64 0] ∧ HpIs [] [] ∧ (List.findIdx (fun (x : Int) => x != 0) l < List.length l → K (PV.int IntKind.i64 (List.getD l (List.findIdx (fun (x : Int) => x != 0) l) 0))) ∧ (List.findIdx (fun (x : Int) => x != 0) l = List.length l → K (PV.int IntKind.i64 0))) : ACalls Try.prog gl 100 [.list [[.int .i64 a], [.int .i64 b]] .no] [] (fun x _ => K x) :=
  acalls_of_wpc2 (T := []) (L := [([1, 1, 0, 1, 0], or_l)]) (fun _ => 0) Try.func100 (by kernel_rfl) (by kernel_rfl) (by kernel_rfl) (TabOk.nil _ _) (.cons (sub_of (by kernel_rfl)) or_l_ok (.nil _ _ _ _ _)) (holds_of_eq (by kernel_rfl) h)
def orS (a b : Int) : Int := if a = 0 then b else a
def or_s (args : List PV) (K : PV → Prop) : Prop := ∃ (a b : Int) (tl : Tail), SlIs args [.list [[.int .i64 a], [.int .i64 b]] tl] ∧ K (.int .i64 (orS a b))
theorem or_ok : SpOk Try.prog gl 100 (.pure or_s) := by
  rintro args K ⟨a, b, tl, he, hk⟩
  have he : args = _ := he
  subst he
  have key : ∀ h : ([a, b].findIdx fun x => x != 0) < [a, b].length, [a, b].getD ([a, b].findIdx fun x => x != 0) 0 = orS a b := by
    intro h
    unfold orS
    by_cases c : a = 0
    · subst c
      by_cases d : b = 0
      · subst d; simp [List.findIdx_cons] at h
      · have e : (b != 0) = true := by simpa using d
        rw [if_pos rfl, List.findIdx_cons, List.findIdx_cons, e]; rfl
    · have e : (a != 0) = true := by simpa using c
      rw [if_neg c, List.findIdx_cons, e]; rfl
  refine spure_w gl_low (.cons (.list _ _) .nil) (low_one (low_list NT.no (by simp [low_int]))) (.int _ _) (or1_vc a b (fun x => x = .int .i64 (orS a b)) ⟨[a, b], by simp, trivial, rfl, rfl, fun h => by rw [key h], fun h => ?_⟩) hk
  unfold orS
  have h0 : ∀ x ∈ [a, b], x = 0 := by
    intro x hx
    have := (List.findIdx_eq_length).1 h x hx
    simpa using this
  rw [if_pos (h0 a (by simp)), h0 b (by simp)]
def TOR : Tab := [(101, .pure cmp64_s), (88, .pure cmpu_s), (100, .pure or_s)]
theorem TOR_ok : TabOk Try.prog gl TOR := .cons cmp64_ok (.cons cmpu_ok (.cons or_ok (.nil _ _)))
theorem ord_vc (a b : Tk)  (K : PV → Prop) (h : ∃ (a_1 : Int), ∃ (b_1 : Int), SlIs [PV.int IntKind.i64 (Tk.si a), PV.int IntKind.i64 (Tk.si b)] [PV.int IntKind.i64 a_1, PV.int IntKind.i64 b_1] ∧ ∃ (a_2 : Int), ∃ (b_2 : Int), ∃ (tl : Tail), SlIs [PV.list [[PV.int IntKind.i64 (cmpS a_1 b_1)], [PV.int IntKind.i64 (cmpS (Tk.id a) (Tk.id b))]] Tail.exact] [PV.list [[PV.int IntKind.i64 a_2], [PV.int IntKind.i64 b_2]] tl] ∧ K (PV.int IntKind.i64 (orS a_2 b_2))) : ACalls Try.prog gl 74 [a.pv, b.pv] [] (fun x _ => K x) :=
  acalls_of_wpc2 (T := TOR) (L := []) (fun _ => 0) Try.func74 (by kernel_rfl) (by kernel_rfl) (by kernel_rfl) (TOR_ok) (LOk.nil _ _ _ _ _) (holds_of_eq (by kernel_rfl) h)
theorem own1_vc (t : Tk)  (K : PV → Heap → Prop) (h : 0 ≤ (↑(List.length (List.map u1 (Tk.pl t))) : Int) ∧ (↑(List.length (List.map u1 (Tk.pl t))) : Int) ≤ (↑(List.length (List.map u1 (Tk.pl t))) : Int) ∧ (↑(List.length (List.map u1 (Tk.pl t))) : Int) ≤ 140737488355328 ∧ (↑(List.length (List.map u1 (Tk.pl t))) : Int) * 4 ≤ 140737488355328 ∧ (0 + Int.toNat (↑(List.length (List.map u1 (Tk.pl t))) : Int) * 1 ≤ List.length (List.flatten (List.replicate (Int.toNat (↑(List.length (List.map u1 (Tk.pl t))) : Int)) [PV.int IntKind.u32 0])) ∧ List.length (List.flatten (List.map u1 (Tk.pl t))) = List.length (List.map u1 (Tk.pl t)) * 1 ∧ List.all (List.flatten (List.map u1 (Tk.pl t))) PV.one = true) ∧ K (PV.agg [PV.int IntKind.u32 (Tk.id t), PV.int IntKind.i64 (Tk.md t), PV.arr 2 0 (Int.toNat (↑(List.length (List.map u1 (Tk.pl t))) : Int)) (Int.toNat (↑(List.length (List.map u1 (Tk.pl t))) : Int)), PV.int IntKind.i64 (Tk.rt t), PV.int IntKind.i64 (Tk.si t)]) [Ob.cells [PV.int IntKind.u32 (Tk.id t), PV.int IntKind.i64 (Tk.md t), PV.arr 2 0 (Int.toNat (↑(List.length (List.map u1 (Tk.pl t))) : Int)) (Int.toNat (↑(List.length (List.map u1 (Tk.pl t))) : Int)), PV.int IntKind.i64 (Tk.rt t), PV.int IntKind.i64 (Tk.si t)], Ob.cells [PV.int IntKind.u32 (Tk.id t), PV.int IntKind.i64 (Tk.md t), PV.arr 2 0 (Int.toNat (↑(List.length (List.map u1 (Tk.pl t))) : Int)) (Int.toNat (↑(List.length (List.map u1 (Tk.pl t))) : Int)), PV.int IntKind.i64 (Tk.rt t), PV.int IntKind.i64 (Tk.si t)], Ob.cells (over (List.flatten (List.replicate (Int.toNat (↑(List.length (List.map u1 (Tk.pl t))) : Int)) [PV.int IntKind.u32 0])) 0 (List.take (min (List.length (List.map u1 (Tk.pl t))) (Int.toNat (↑(List.length (List.map u1 (Tk.pl t))) : Int)) * 1) (List.flatten (List.map u1 (Tk.pl t)))))]) : ACalls Try.prog gl 76 [t.pv] [] K :=
  acalls_of_wpc2 (T := []) (L := []) (fun o => match o.dst with | some 14 => 1 | _ => 0) Try.func76 (by kernel_rfl) (by kernel_rfl) (by kernel_rfl) (TabOk.nil _ _) (LOk.nil _ _ _ _ _) (holds_of_eq (by kernel_rfl) h)
theorem clG_vc (t : Tk) (c : Int)  (K : PV → Heap → Prop) (h : K (PV.bool (Tk.id t == c)) [Ob.cells [PV.int IntKind.u32 c], Ob.cells [PV.int IntKind.u32 (Tk.id t), PV.int IntKind.i64 (Tk.md t), PV.list (List.map u1 (Tk.pl t)) Tail.no, PV.int IntKind.i64 (Tk.rt t), PV.int IntKind.i64 (Tk.si t)]]) : ACalls Try.prog gl 85 [t.pv, .ptr 0 0] [.cells [.int .u32 c]] K :=
  acalls_of_wpc2 (T := []) (L := []) (fun _ => 0) Try.func85 (by kernel_rfl) (by kernel_rfl) (by kernel_rfl) (TabOk.nil _ _) (LOk.nil _ _ _ _ _) (holds_of_eq (by kernel_rfl) h)
theorem clD_vc (t : Tk) (c : Int)  (K : PV → Heap → Prop) (h : K (PV.bool (Tk.id t == c)) [Ob.cells [PV.int IntKind.u32 c], Ob.cells [PV.int IntKind.u32 (Tk.id t), PV.int IntKind.i64 (Tk.md t), PV.list (List.map u1 (Tk.pl t)) Tail.no, PV.int IntKind.i64 (Tk.rt t), PV.int IntKind.i64 (Tk.si t)]]) : ACalls Try.prog gl 80 [t.pv, .ptr 0 0] [.cells [.int .u32 c]] K :=
  acalls_of_wpc2 (T := []) (L := []) (fun _ => 0) Try.func80 (by kernel_rfl) (by kernel_rfl) (by kernel_rfl) (TabOk.nil _ _) (LOk.nil _ _ _ _ _) (holds_of_eq (by kernel_rfl) h)
def TCN : Tab := [(79, .pure con_s)]
theorem TCN_ok : TabOk Try.prog gl TCN := .cons con_ok (.nil _ _)
theorem clO_vc (t : Tk) (c : Int)  (K : PV → Heap → Prop) (h : ∃ (l : List Int), ∃ (tl : Tail), ∃ (t_1 : Int), SlIs [PV.list (List.map u1 (Tk.pl t)) Tail.no, PV.int IntKind.u32 c] [PV.list (List.map u1 l) tl, PV.int IntKind.u32 t_1] ∧ List.length l ≤ 1000000 ∧ K (PV.bool (memB l t_1)) [Ob.cells [PV.int IntKind.u32 c], Ob.cells [PV.int IntKind.u32 (Tk.id t), PV.int IntKind.i64 (Tk.md t), PV.list (List.map u1 (Tk.pl t)) Tail.no, PV.int IntKind.i64 (Tk.rt t), PV.int IntKind.i64 (Tk.si t)]]) : ACalls Try.prog gl 78 [t.pv, .ptr 0 0] [.cells [.int .u32 c]] K :=
  acalls_of_wpc2 (T := TCN) (L := []) (fun _ => 0) Try.func78 (by kernel_rfl) (by kernel_rfl) (by kernel_rfl) (TCN_ok) (LOk.nil _ _ _ _ _) (holds_of_eq (by kernel_rfl) h)
theorem put1_vc (p : Int)  (K : PV → Prop) (h : K (PV.bool !rightS p)) : ACalls Try.prog gl 71 [.int .u32 p] [] (fun x _ => K x) :=
  acalls_of_wpc2 (T := TK) (L := []) (fun _ => 0) Try.func71 (by kernel_rfl) (by kernel_rfl) (by kernel_rfl) (TK_ok) (LOk.nil _ _ _ _ _) (holds_of_eq (by kernel_rfl) h)
def ordS (a b : Tk) : Int := orS (cmpS a.si b.si) (cmpS a.id b.id)
def ord_s (args : List PV) (K : PV → Prop) : Prop := ∃ a b : Tk, SlIs args [a.pv, b.pv] ∧ K (.int .i64 (ordS a b))
theorem ord_ok : SpOk Try.prog gl 74 (.pure ord_s) := by
  rintro args K ⟨a, b, he, hk⟩
  have he : args = _ := he
  subst he
  exact spure gl_low (low_two a.low b.low) (.int _ _) (ord_vc a b (fun x => x = .int .i64 (ordS a b)) ⟨_, _, rfl, _, _, _, rfl, rfl⟩) hk
-- a ticket with players of its own
theorem flat_zero (n : Nat) : (List.flatten (List.replicate n [PV.int .u32 0])).length = n := by simp
theorem own1_ok {t : Tk} (h : t.pl.length ≤ 1000000) : ACalls Try.prog gl 76 [t.pv] [] (fun x H' => x = .agg [.int .u32 t.id, .int .i64 t.md, .arr 2 0 t.pl.length t.pl.length, .int .i64 t.rt, .int .i64 t.si] ∧ H'[2]? = some (.cells (t.pl.map u1).flatten)) := by
  refine own1_vc t _ ?_
  have e1 : (List.map u1 t.pl).length = t.pl.length := List.length_map _
  have e2 : ((List.map u1 t.pl).flatten).length = t.pl.length := flat_u1 _
  simp only [e1, e2, toNat_nat, flat_zero, Nat.mul_one, Nat.zero_add, Nat.min_self]
  refine ⟨by omega, Int.le_refl _, by omega, by omega, ⟨Nat.le_refl _, trivial, List.all_eq_true.2 fun y hy => ?_⟩, by trivial, ?_⟩
  · obtain ⟨c, h2, h3⟩ := List.mem_flatten.1 hy
    obtain ⟨a, _, rfl⟩ := List.mem_map.1 h2
    exact one_u1 a y h3
  · show some _ = some _
    rw [List.take_of_length_le (by omega)]
    congr 2
    unfold over
    rw [List.take_zero, List.drop_of_length_le (by rw [flat_zero]; omega), List.nil_append, List.append_nil]
def tkA (t : Tk) (p : PV) : PV := .agg [.int .u32 t.id, .int .i64 t.md, p, .int .i64 t.rt, .int .i64 t.si]
theorem wk_tk {t : Tk} {tl : Tail} : Wk (tkA t (.list (t.pl.map u1) tl)) t.pv := .agg (.cons (.refl _) (.cons (.refl _) (.cons (.list _ _) (.cons (.refl _) (.cons (.refl _) .nil)))))
theorem ra_tk (t : Tk) (k k' len cap : Nat) : RA k k' (tkA t (.arr k 0 len cap)) (tkA t (.arr k' 0 len cap)) :=
  RA.aggL (.cons (.low (.int _ _)) (.cons (.low (.int _ _)) (.cons (.arr _ _ _) (.cons (.low (.int _ _)) (.cons (.low (.int _ _)) .nil)))))
def own_s (args : List PV) (K : PV → Prop) : Prop := ∃ (t : Tk) (tl : Tail), SlIs args [.agg [.int .u32 t.id, .int .i64 t.md, .list (t.pl.map u1) tl, .int .i64 t.rt, .int .i64 t.si]] ∧ t.pl.length ≤ 1000000 ∧ K t.pv
theorem own_ok : SpOk Try.prog gl 76 (.pure own_s) := by
  rintro args K ⟨t, tl, he, h, hk⟩
  have he : args = _ := he
  subst he
  refine spure_w gl_low (.cons wk_tk .nil) (low_one t.low) t.low (acalls_freeze_in (acalls_to (own1_ok h) fun x H' e => ?_)) hk
  obtain ⟨rfl, e2⟩ := e
  have e1 : (List.map u1 t.pl).length = t.pl.length := List.length_map _
  refine ⟨2, 1, t.pl.map u1, [], t.pv, ?_, by rw [List.append_nil]; exact e2, uni_u1 _, rfl⟩
  have := RF.arr (o := 2) (es := t.pl.map u1) t.pl.length (by rw [e1]; exact Nat.le_refl _)
  rw [e1] at this
  exact RF.aggL (.cons (.low (.int _ _)) (.cons (.low (.int _ _)) (.cons this (.cons (.low (.int _ _)) (.cons (.low (.int _ _)) .nil)))))
def ownA_s (args : List PV) (H : Heap) (K : PV → Heap → Prop) : Prop := ∃ (t : Tk) (tl : Tail), SlIs args [.agg [.int .u32 t.id, .int .i64 t.md, .list (t.pl.map u1) tl, .int .i64 t.rt, .int .i64 t.si]] ∧ t.pl.length ≤ 1000000 ∧
  K (.agg [.int .u32 t.id, .int .i64 t.md, .arr H.length 0 t.pl.length t.pl.length, .int .i64 t.rt, .int .i64 t.si]) (H ++ [.cells (t.pl.map u1).flatten])
theorem ownA_ok : SpOk Try.prog gl 76 (.heap ownA_s) := by
  rintro args H K ⟨t, tl, he, h, hk⟩
  have he : args = _ := he
  subst he
  refine mk_arr gl_low (tkA t) (.cons wk_tk .nil) (low_one t.low) (ra_tk t) (acalls_to (own1_ok h) fun x H' e => ?_)
  obtain ⟨rfl, e2⟩ := e
  exact ⟨2, t.pl.length, t.pl.length, _, rfl, e2, low_map fun a _ => low_u1 a, hk⟩
-- closures
theorem two_one {a b : Ob} : ∃ G, [a, b] = [a] ++ G := ⟨[b], rfl⟩
def clG_s (args : List PV) (H : Heap) (K : PV → Prop) : Prop := ∃ (t : Tk) (c : Int) (b : Nat), SlIs args [t.pv, .ptr b 0] ∧ CeIs H b [.int .u32 c] ∧ t.pl.length ≤ 1000000 ∧ K (.bool (byId c t))
theorem clG_ok : SpOk Try.prog gl 85 (.read clG_s) := by
  rintro args H K ⟨t, c, b, he, hc, h, hk⟩
  have he : args = _ := he
  subst he
  refine ⟨_, read_cell (pre := [t.pv]) gl_low hc low0_int (low_one t.low) (.bool (byId c t)) (clG_vc t c _ ?_), hk⟩
  exact ⟨rfl, [_], rfl⟩
def TCG : Tab := [(85, .read clG_s)]
theorem TCG_ok : TabOk Try.prog gl TCG := .cons clG_ok (.nil _ _)
theorem ifG_vc (x0 : Ob) (l : List Tk) (J : List PV) (Z : Heap) (cap b : Nat) (i : Nat) (R : Ex → List PV → Heap → Prop) (h : br (decide ((↑i : Int) < (↑(List.length l) : Int))) ((0 ≤ (↑i : Int) ∧ (↑i : Int) < (↑(List.length l) : Int)) ∧ br (true && fitX [CK.int IntKind.u32, CK.int IntKind.i64, CK.list, CK.int IntKind.i64, CK.int IntKind.i64] 0 (List.drop (0 + Int.toNat (↑i : Int) * 5) (flT l ++ J))) (∃ (t : Tk), ∃ (c : Int), ∃ (b_1 : Nat), SlIs [PV.agg [PV.int IntKind.u32 (cI (List.drop (0 + Int.toNat (↑i : Int) * 5) (flT l ++ J)) 0), PV.int IntKind.i64 (cI (List.drop (0 + Int.toNat (↑i : Int) * 5) (flT l ++ J)) 1), PV.list (cL (List.drop (0 + Int.toNat (↑i : Int) * 5) (flT l ++ J)) 2) (cT (List.drop (0 + Int.toNat (↑i : Int) * 5) (flT l ++ J)) 2), PV.int IntKind.i64 (cI (List.drop (0 + Int.toNat (↑i : Int) * 5) (flT l ++ J)) 3), PV.int IntKind.i64 (cI (List.drop (0 + Int.toNat (↑i : Int) * 5) (flT l ++ J)) 4)], PV.ptr b 0] [PV.agg [PV.int IntKind.u32 (Tk.id t), PV.int IntKind.i64 (Tk.md t), PV.list (List.map u1 (Tk.pl t)) Tail.no, PV.int IntKind.i64 (Tk.rt t), PV.int IntKind.i64 (Tk.si t)], PV.ptr b_1 0] ∧ CeIs (x0 :: Ob.cells (flT l ++ J) :: Z) b_1 [PV.int IntKind.u32 c] ∧ List.length (Tk.pl t) ≤ 1000000 ∧ br (byId c t) (R Ex.ret [PV.arr 1 0 (List.length l) cap, PV.fn 85 [PV.ptr b 0], PV.int IntKind.i64 (↑i : Int), PV.int IntKind.i64 (↑(List.length l) : Int), PV.int IntKind.i64 (↑i : Int)] (x0 :: Ob.cells (flT l ++ J) :: Z)) (R Ex.normal [PV.arr 1 0 (List.length l) cap, PV.fn 85 [PV.ptr b 0], PV.int IntKind.i64 0, PV.int IntKind.i64 (↑(List.length l) : Int), PV.int IntKind.i64 (wI ((↑i : Int) + 1))] (x0 :: Ob.cells (flT l ++ J) :: Z))) False) (R (Ex.exit 0) [PV.arr 1 0 (List.length l) cap, PV.fn 85 [PV.ptr b 0], PV.int IntKind.i64 0, PV.int IntKind.i64 (↑(List.length l) : Int), PV.int IntKind.i64 (↑i : Int)] (x0 :: Ob.cells (flT l ++ J) :: Z))) : Holds (wpc br Try.prog gl TCG [] (fun _ => 0) (subOf [1, 0, 1, 0] (bodyOf Try.f104)) [] (envS [0, 1, 4, 7, 8] [.arr 1 0 l.length cap, .fn 85 [.ptr b 0], .int .i64 0, .int .i64 l.length, .int .i64 i]) (x0 :: .cells (flT l ++ J) :: Z) (fun ex e H => R ex (List.map e [0, 1, 4, 7, 8]) H)) := holds_of_eq (by kernel_rfl) h
theorem inG_vc (H : Heap) (b : Nat) (R : Ex → List PV → Heap → Prop) (h : R (Ex.exit 0) [PV.list [] Tail.exact, PV.fn 85 [PV.ptr b 0], PV.int IntKind.i64 0, PV.int IntKind.i64 0, PV.int IntKind.i64 0] H) : Holds (wpc br Try.prog gl TCG [] (fun _ => 0) (subOf [1, 0, 1, 0] (bodyOf Try.f104)) [] (envS [0, 1, 4, 7, 8] [.list [] .exact, .fn 85 [.ptr b 0], .int .i64 0, .int .i64 0, .int .i64 0]) H (fun ex e H => R ex (List.map e [0, 1, 4, 7, 8]) H)) := holds_of_eq (by kernel_rfl) h
def ifG_l : LSp := fun e H Q =>
  (∃ (x0 : Ob) (l : List Tk) (J : List PV) (Z : Heap) (cap b : Nat) (c : Int), l.length ≤ 1000000 ∧ (∀ t ∈ l, t.pl.length ≤ 1000000) ∧ SlIs (List.map e [0, 1, 4, 7, 8]) [.arr 1 0 l.length cap, .fn 85 [.ptr b 0], .int .i64 0, .int .i64 l.length, .int .i64 0] ∧ HpIs H (x0 :: .cells (flT l ++ J) :: Z) ∧ CeIs H b [.int .u32 c] ∧
    (l.findIdx (byId c) < l.length → Q .ret (envS [0, 1, 4, 7, 8] [.arr 1 0 l.length cap, .fn 85 [.ptr b 0], .int .i64 (l.findIdx (byId c)), .int .i64 l.length, .int .i64 (l.findIdx (byId c))]) H) ∧
    (l.findIdx (byId c) = l.length → Q (.exit 0) (envS [0, 1, 4, 7, 8] [.arr 1 0 l.length cap, .fn 85 [.ptr b 0], .int .i64 0, .int .i64 l.length, .int .i64 l.length]) H)) ∨
  (∃ (b : Nat), SlIs (List.map e [0, 1, 4, 7, 8]) [.list [] .exact, .fn 85 [.ptr b 0], .int .i64 0, .int .i64 0, .int .i64 0] ∧ Q (.exit 0) (envS [0, 1, 4, 7, 8] [.list [] .exact, .fn 85 [.ptr b 0], .int .i64 0, .int .i64 0, .int .i64 0]) H)
theorem ifG_l_ok : ∀ e H Q, ifG_l e H Q → AW Try.prog gl Try.f104.ntmps (.loop (subOf [1, 0, 1, 0] (bodyOf Try.f104))) Q e H := by
  rintro e H Q (⟨x0, l, J, Z, cap, b, c, hl, hpl, he, hH, hb, hQ1, hQ2⟩ | ⟨b, he, hQ⟩)
  · have hH : H = _ := hH
    subst hH
    have hfl : l.findIdx (byId c) ≤ l.length := List.findIdx_le_length
    refine aw_loop4 (hn := fun _ => 0) gl_low TCG_ok (.nil _ _ _ _ _) (σ := Nat) [0, 1, 4, 7, 8] (fun i => i ≤ l.findIdx (byId c)) (fun i => [.arr 1 0 l.length cap, .fn 85 [.ptr b 0], .int .i64 0, .int .i64 l.length, .int .i64 i]) (fun _ => x0 :: .cells (flT l ++ J) :: Z) (fun i => l.length - i) 0 (Nat.zero_le _) he rfl ?_
    intro i hi
    have hi' : i ≤ l.findIdx (byId c) := hi
    refine ifG_vc x0 l J Z cap b i _ ?_
    simp only [br_if, dt]
    by_cases h : i < l.length
    · rw [if_pos (by omega)]
      simp only [toNat_nat, Nat.zero_add]
      rw [flT_at J h]
      refine ⟨⟨by omega, by omega⟩, ?_⟩
      rw [if_pos (by rfl)]
      obtain ⟨t, htd⟩ : ∃ t, t = l.getD i default := ⟨_, rfl⟩
      rw [← htd]
      refine ⟨t, c, b, rfl, hb, hpl t (by rw [htd]; exact getD_mem h), ?_⟩
      by_cases k : byId c t = true
      · have hge : l.findIdx (byId c) = i := fidx_stop default hi' h (by rw [← htd]; exact k)
        rw [hge] at hQ1
        rw [if_pos k]
        exact hQ1 h
      · have hlt : i < l.findIdx (byId c) := fidx_step default hi' h (by rw [← htd]; simpa using k)
        rw [if_neg k]
        exact ⟨i + 1, (show l.length - (i + 1) < l.length - i by omega), hlt, by rw [wI_succ h (by omega)], [], (List.append_nil _).symm, Nat.le_refl _, .inl rfl⟩
    · rw [if_neg (by omega)]
      have : i = l.length := by omega
      subst this
      exact hQ2 (by omega)
  · refine aw_loop4 (hn := fun _ => 0) gl_low TCG_ok (.nil _ _ _ _ _) (σ := Unit) [0, 1, 4, 7, 8] (fun _ => True) (fun _ => [.list [] .exact, .fn 85 [.ptr b 0], .int .i64 0, .int .i64 0, .int .i64 0]) (fun _ => H) (fun _ => 0) () trivial he rfl ?_
    intro _ _
    exact inG_vc H b _ hQ
theorem igG_vc (H : Heap) (l : List Tk) (cap b : Nat)  (K : PV → Heap → Prop) (h : (∃ (x0 : Ob), ∃ (l_1 : List Tk), ∃ (J : List PV), ∃ (Z : Heap), ∃ (cap_1 : Nat), ∃ (b_1 : Nat), ∃ (c : Int), List.length l_1 ≤ 1000000 ∧ (∀ (t : Tk), t ∈ l_1 → List.length (Tk.pl t) ≤ 1000000) ∧ SlIs [PV.arr 1 0 (List.length l) cap, PV.fn 85 [PV.ptr b 0], PV.int IntKind.i64 0, PV.int IntKind.i64 (↑(List.length l) : Int), PV.int IntKind.i64 0] [PV.arr 1 0 (List.length l_1) cap_1, PV.fn 85 [PV.ptr b_1 0], PV.int IntKind.i64 0, PV.int IntKind.i64 (↑(List.length l_1) : Int), PV.int IntKind.i64 0] ∧ HpIs H (x0 :: Ob.cells (flT l_1 ++ J) :: Z) ∧ CeIs H b_1 [PV.int IntKind.u32 c] ∧ (List.findIdx (byId c) l_1 < List.length l_1 → K (PV.int IntKind.i64 (↑(List.findIdx (byId c) l_1) : Int)) H) ∧ (List.findIdx (byId c) l_1 = List.length l_1 → K (PV.int IntKind.i64 (-1)) H)) ∨ ∃ (b_1 : Nat), SlIs [PV.arr 1 0 (List.length l) cap, PV.fn 85 [PV.ptr b 0], PV.int IntKind.i64 0, PV.int IntKind.i64 (↑(List.length l) : Int), PV.int IntKind.i64 0] [PV.list [] Tail.exact, PV.fn 85 [PV.ptr b_1 0], PV.int IntKind.i64 0, PV.int IntKind.i64 0, PV.int IntKind.i64 0] ∧ K (PV.int IntKind.i64 (-1)) H) : ACalls Try.prog gl 104 [.arr 1 0 l.length cap, .fn 85 [.ptr b 0]] H K :=
  acalls_of_wpc2 (T := TCG) (L := [([1, 0, 1, 0], ifG_l)]) (fun _ => 0) Try.func104 (by kernel_rfl) (by kernel_rfl) (by kernel_rfl) (TCG_ok) (.cons (sub_of (by kernel_rfl)) ifG_l_ok (.nil _ _ _ _ _)) (holds_of_eq (by kernel_rfl) h)
theorem ihG_vc (H : Heap) (b : Nat)  (K : PV → Heap → Prop) (h : (∃ (x0 : Ob), ∃ (l : List Tk), ∃ (J : List PV), ∃ (Z : Heap), ∃ (cap : Nat), ∃ (b_1 : Nat), ∃ (c : Int), List.length l ≤ 1000000 ∧ (∀ (t : Tk), t ∈ l → List.length (Tk.pl t) ≤ 1000000) ∧ SlIs [PV.list [] Tail.exact, PV.fn 85 [PV.ptr b 0], PV.int IntKind.i64 0, PV.int IntKind.i64 0, PV.int IntKind.i64 0] [PV.arr 1 0 (List.length l) cap, PV.fn 85 [PV.ptr b_1 0], PV.int IntKind.i64 0, PV.int IntKind.i64 (↑(List.length l) : Int), PV.int IntKind.i64 0] ∧ HpIs H (x0 :: Ob.cells (flT l ++ J) :: Z) ∧ CeIs H b_1 [PV.int IntKind.u32 c] ∧ (List.findIdx (byId c) l < List.length l → K (PV.int IntKind.i64 (↑(List.findIdx (byId c) l) : Int)) H) ∧ (List.findIdx (byId c) l = List.length l → K (PV.int IntKind.i64 (-1)) H)) ∨ ∃ (b_1 : Nat), SlIs [PV.list [] Tail.exact, PV.fn 85 [PV.ptr b 0], PV.int IntKind.i64 0, PV.int IntKind.i64 0, PV.int IntKind.i64 0] [PV.list [] Tail.exact, PV.fn 85 [PV.ptr b_1 0], PV.int IntKind.i64 0, PV.int IntKind.i64 0, PV.int IntKind.i64 0] ∧ K (PV.int IntKind.i64 (-1)) H) : ACalls Try.prog gl 104 [.list [] .exact, .fn 85 [.ptr b 0]] H K :=
  acalls_of_wpc2 (T := TCG) (L := [([1, 0, 1, 0], ifG_l)]) (fun _ => 0) Try.func104 (by kernel_rfl) (by kernel_rfl) (by kernel_rfl) (TCG_ok) (.cons (sub_of (by kernel_rfl)) ifG_l_ok (.nil _ _ _ _ _)) (holds_of_eq (by kernel_rfl) h)
def ixG_s (args : List PV) (H : Heap) (K : PV → Prop) : Prop :=
  (∃ (x0 : Ob) (l : List Tk) (J : List PV) (Z : Heap) (cap b : Nat) (c : Int), SlIs args [.arr 1 0 l.length cap, .fn 85 [.ptr b 0]] ∧ HpIs H (x0 :: .cells (flT l ++ J) :: Z) ∧ CeIs H b [.int .u32 c] ∧ l.length ≤ 1000000 ∧ (∀ t ∈ l, t.pl.length ≤ 1000000) ∧ K (.int .i64 (ixQ l (byId c)))) ∨
  (∃ (b : Nat), SlIs args [.list [] .exact, .fn 85 [.ptr b 0]] ∧ K (.int .i64 (-1)))
theorem ixG_ok : SpOk Try.prog gl 104 (.read ixG_s) := by
  rintro args H K (⟨x0, l, J, Z, cap, b, c, he, hH, hb, hl, hpl, hk⟩ | ⟨b, he, hk⟩)
  · have he : args = _ := he
    have hH : H = _ := hH
    subst he
    subst hH
    refine ⟨_, igG_vc _ l cap b _ (.inl ⟨x0, l, J, Z, cap, b, c, hl, hpl, rfl, rfl, hb, fun h => ⟨?_, rfl⟩, fun h => ⟨?_, rfl⟩⟩), hk⟩
    · unfold ixQ; rw [if_pos h]
    · unfold ixQ; rw [if_neg (by omega)]
  · have he : args = _ := he
    subst he
    exact ⟨_, ihG_vc H b _ (.inr ⟨b, rfl, rfl, rfl⟩), hk⟩
def TXG : Tab := [(104, .read ixG_s)]
theorem TXG_ok : TabOk Try.prog gl TXG := .cons ixG_ok (.nil _ _)
theorem atAG_vc (l : List Tk) (J : List PV) (cap : Nat) (sz : List Int) (Z : Heap) (b : Nat)  (K : PV → Heap → Prop) (h : (∃ (x0 : Ob), ∃ (l_1 : List Tk), ∃ (J_1 : List PV), ∃ (Z_1 : Heap), ∃ (cap_1 : Nat), ∃ (b_1 : Nat), ∃ (c : Int), SlIs [PV.arr 1 0 (List.length l) cap, PV.fn 85 [PV.ptr b 0]] [PV.arr 1 0 (List.length l_1) cap_1, PV.fn 85 [PV.ptr b_1 0]] ∧ HpIs (Ob.cells [PV.arr 1 0 (List.length l) cap, PV.list (List.map i1 sz) Tail.no] :: Ob.cells (flT l ++ J) :: Z) (x0 :: Ob.cells (flT l_1 ++ J_1) :: Z_1) ∧ CeIs (Ob.cells [PV.arr 1 0 (List.length l) cap, PV.list (List.map i1 sz) Tail.no] :: Ob.cells (flT l ++ J) :: Z) b_1 [PV.int IntKind.u32 c] ∧ List.length l_1 ≤ 1000000 ∧ (∀ (t : Tk), t ∈ l_1 → List.length (Tk.pl t) ≤ 1000000) ∧ K (PV.int IntKind.i64 (ixQ l_1 (byId c))) (Ob.cells [PV.arr 1 0 (List.length l) cap, PV.list (List.map i1 sz) Tail.no] :: Ob.cells (flT l ++ J) :: Z)) ∨ ∃ (b_1 : Nat), SlIs [PV.arr 1 0 (List.length l) cap, PV.fn 85 [PV.ptr b 0]] [PV.list [] Tail.exact, PV.fn 85 [PV.ptr b_1 0]] ∧ K (PV.int IntKind.i64 (-1)) (Ob.cells [PV.arr 1 0 (List.length l) cap, PV.list (List.map i1 sz) Tail.no] :: Ob.cells (flT l ++ J) :: Z)) : ACalls Try.prog gl 77 [.ptr 0 0, .fn 85 [.ptr b 0]] (.cells [.arr 1 0 l.length cap, .list (sz.map i1) .no] :: .cells (flT l ++ J) :: Z) K :=
  acalls_of_wpc2 (T := TXG) (L := []) (fun o => match o.op with | .load t _ => (match t with | 82 => 1 | _ => 0) | _ => 0) Try.func77 (by kernel_rfl) (by kernel_rfl) (by kernel_rfl) (TXG_ok) (LOk.nil _ _ _ _ _) (holds_of_eq (by kernel_rfl) h)
theorem atNG_vc (sz : List Int) (Z : Heap) (b : Nat)  (K : PV → Heap → Prop) (h : (∃ (x0 : Ob), ∃ (l : List Tk), ∃ (J : List PV), ∃ (Z_1 : Heap), ∃ (cap : Nat), ∃ (b_1 : Nat), ∃ (c : Int), SlIs [PV.list [] Tail.exact, PV.fn 85 [PV.ptr b 0]] [PV.arr 1 0 (List.length l) cap, PV.fn 85 [PV.ptr b_1 0]] ∧ HpIs (Ob.cells [PV.list [] Tail.exact, PV.list (List.map i1 sz) Tail.no] :: Z) (x0 :: Ob.cells (flT l ++ J) :: Z_1) ∧ CeIs (Ob.cells [PV.list [] Tail.exact, PV.list (List.map i1 sz) Tail.no] :: Z) b_1 [PV.int IntKind.u32 c] ∧ List.length l ≤ 1000000 ∧ (∀ (t : Tk), t ∈ l → List.length (Tk.pl t) ≤ 1000000) ∧ K (PV.int IntKind.i64 (ixQ l (byId c))) (Ob.cells [PV.list [] Tail.exact, PV.list (List.map i1 sz) Tail.no] :: Z)) ∨ ∃ (b_1 : Nat), SlIs [PV.list [] Tail.exact, PV.fn 85 [PV.ptr b 0]] [PV.list [] Tail.exact, PV.fn 85 [PV.ptr b_1 0]] ∧ K (PV.int IntKind.i64 (-1)) (Ob.cells [PV.list [] Tail.exact, PV.list (List.map i1 sz) Tail.no] :: Z)) : ACalls Try.prog gl 77 [.ptr 0 0, .fn 85 [.ptr b 0]] (.cells [.list [] .exact, .list (sz.map i1) .no] :: Z) K :=
  acalls_of_wpc2 (T := TXG) (L := []) (fun o => match o.op with | .load t _ => (match t with | 82 => 1 | _ => 0) | _ => 0) Try.func77 (by kernel_rfl) (by kernel_rfl) (by kernel_rfl) (TXG_ok) (LOk.nil _ _ _ _ _) (holds_of_eq (by kernel_rfl) h)
def atG_s (args : List PV) (H : Heap) (K : PV → Prop) : Prop := ∃ (l : List Tk) (sz : List Int) (X Z : Heap) (b : Nat) (c : Int), SlIs args [.ptr 0 0, .fn 85 [.ptr b 0]] ∧ EXQ l sz X ∧ HpIs H (X ++ Z) ∧ CeIs H b [.int .u32 c] ∧ l.length ≤ 1000000 ∧ (∀ t ∈ l, t.pl.length ≤ 1000000) ∧ K (.int .i64 (ixQ l (byId c)))
theorem atG_ok : SpOk Try.prog gl 77 (.read atG_s) := by
  rintro args H K ⟨l, sz, X, Z, b, c, he, hX, hH, hb, hl, hpl, hk⟩
  have he : args = _ := he
  have hH : H = _ := hH
  subst he
  subst hH
  rcases hX with ⟨J, cap, rfl, _, _⟩ | ⟨rfl, rfl⟩
  · exact ⟨_, atAG_vc l J cap sz Z b _ (.inl ⟨_, l, J, Z, cap, b, c, rfl, rfl, hb, hl, hpl, rfl, rfl⟩), hk⟩
  · exact ⟨_, atNG_vc sz Z b _ (.inr ⟨b, rfl, rfl, rfl⟩), hk⟩
def clD_s (args : List PV) (H : Heap) (K : PV → Prop) : Prop := ∃ (t : Tk) (c : Int) (b : Nat), SlIs args [t.pv, .ptr b 0] ∧ CeIs H b [.int .u32 c] ∧ t.pl.length ≤ 1000000 ∧ K (.bool (byId c t))
theorem clD_ok : SpOk Try.prog gl 80 (.read clD_s) := by
  rintro args H K ⟨t, c, b, he, hc, h, hk⟩
  have he : args = _ := he
  subst he
  refine ⟨_, read_cell (pre := [t.pv]) gl_low hc low0_int (low_one t.low) (.bool (byId c t)) (clD_vc t c _ ?_), hk⟩
  exact ⟨rfl, [_], rfl⟩
def TCD : Tab := [(80, .read clD_s)]
theorem TCD_ok : TabOk Try.prog gl TCD := .cons clD_ok (.nil _ _)
theorem ifD_vc (x0 : Ob) (l : List Tk) (J : List PV) (Z : Heap) (cap b : Nat) (i : Nat) (R : Ex → List PV → Heap → Prop) (h : br (decide ((↑i : Int) < (↑(List.length l) : Int))) ((0 ≤ (↑i : Int) ∧ (↑i : Int) < (↑(List.length l) : Int)) ∧ br (true && fitX [CK.int IntKind.u32, CK.int IntKind.i64, CK.list, CK.int IntKind.i64, CK.int IntKind.i64] 0 (List.drop (0 + Int.toNat (↑i : Int) * 5) (flT l ++ J))) (∃ (t : Tk), ∃ (c : Int), ∃ (b_1 : Nat), SlIs [PV.agg [PV.int IntKind.u32 (cI (List.drop (0 + Int.toNat (↑i : Int) * 5) (flT l ++ J)) 0), PV.int IntKind.i64 (cI (List.drop (0 + Int.toNat (↑i : Int) * 5) (flT l ++ J)) 1), PV.list (cL (List.drop (0 + Int.toNat (↑i : Int) * 5) (flT l ++ J)) 2) (cT (List.drop (0 + Int.toNat (↑i : Int) * 5) (flT l ++ J)) 2), PV.int IntKind.i64 (cI (List.drop (0 + Int.toNat (↑i : Int) * 5) (flT l ++ J)) 3), PV.int IntKind.i64 (cI (List.drop (0 + Int.toNat (↑i : Int) * 5) (flT l ++ J)) 4)], PV.ptr b 0] [PV.agg [PV.int IntKind.u32 (Tk.id t), PV.int IntKind.i64 (Tk.md t), PV.list (List.map u1 (Tk.pl t)) Tail.no, PV.int IntKind.i64 (Tk.rt t), PV.int IntKind.i64 (Tk.si t)], PV.ptr b_1 0] ∧ CeIs (x0 :: Ob.cells (flT l ++ J) :: Z) b_1 [PV.int IntKind.u32 c] ∧ List.length (Tk.pl t) ≤ 1000000 ∧ br (byId c t) (R Ex.ret [PV.arr 1 0 (List.length l) cap, PV.fn 80 [PV.ptr b 0], PV.int IntKind.i64 (↑i : Int), PV.int IntKind.i64 (↑(List.length l) : Int), PV.int IntKind.i64 (↑i : Int)] (x0 :: Ob.cells (flT l ++ J) :: Z)) (R Ex.normal [PV.arr 1 0 (List.length l) cap, PV.fn 80 [PV.ptr b 0], PV.int IntKind.i64 0, PV.int IntKind.i64 (↑(List.length l) : Int), PV.int IntKind.i64 (wI ((↑i : Int) + 1))] (x0 :: Ob.cells (flT l ++ J) :: Z))) False) (R (Ex.exit 0) [PV.arr 1 0 (List.length l) cap, PV.fn 80 [PV.ptr b 0], PV.int IntKind.i64 0, PV.int IntKind.i64 (↑(List.length l) : Int), PV.int IntKind.i64 (↑i : Int)] (x0 :: Ob.cells (flT l ++ J) :: Z))) : Holds (wpc br Try.prog gl TCD [] (fun _ => 0) (subOf [1, 0, 1, 0] (bodyOf Try.f104)) [] (envS [0, 1, 4, 7, 8] [.arr 1 0 l.length cap, .fn 80 [.ptr b 0], .int .i64 0, .int .i64 l.length, .int .i64 i]) (x0 :: .cells (flT l ++ J) :: Z) (fun ex e H => R ex (List.map e [0, 1, 4, 7, 8]) H)) := holds_of_eq (by kernel_rfl) h
theorem inD_vc (H : Heap) (b : Nat) (R : Ex → List PV → Heap → Prop) (h : R (Ex.exit 0) [PV.list [] Tail.exact, PV.fn 80 [PV.ptr b 0], PV.int IntKind.i64 0, PV.int IntKind.i64 0, PV.int IntKind.i64 0] H) : Holds (wpc br Try.prog gl TCD [] (fun _ => 0) (subOf [1, 0, 1, 0] (bodyOf Try.f104)) [] (envS [0, 1, 4, 7, 8] [.list [] .exact, .fn 80 [.ptr b 0], .int .i64 0, .int .i64 0, .int .i64 0]) H (fun ex e H => R ex (List.map e [0, 1, 4, 7, 8]) H)) := holds_of_eq (by kernel_rfl) h
def ifD_l : LSp := fun e H Q =>
  (∃ (x0 : Ob) (l : List Tk) (J : List PV) (Z : Heap) (cap b : Nat) (c : Int), l.length ≤ 1000000 ∧ (∀ t ∈ l, t.pl.length ≤ 1000000) ∧ SlIs (List.map e [0, 1, 4, 7, 8]) [.arr 1 0 l.length cap, .fn 80 [.ptr b 0], .int .i64 0, .int .i64 l.length, .int .i64 0] ∧ HpIs H (x0 :: .cells (flT l ++ J) :: Z) ∧ CeIs H b [.int .u32 c] ∧
    (l.findIdx (byId c) < l.length → Q .ret (envS [0, 1, 4, 7, 8] [.arr 1 0 l.length cap, .fn 80 [.ptr b 0], .int .i64 (l.findIdx (byId c)), .int .i64 l.length, .int .i64 (l.findIdx (byId c))]) H) ∧
    (l.findIdx (byId c) = l.length → Q (.exit 0) (envS [0, 1, 4, 7, 8] [.arr 1 0 l.length cap, .fn 80 [.ptr b 0], .int .i64 0, .int .i64 l.length, .int .i64 l.length]) H)) ∨
  (∃ (b : Nat), SlIs (List.map e [0, 1, 4, 7, 8]) [.list [] .exact, .fn 80 [.ptr b 0], .int .i64 0, .int .i64 0, .int .i64 0] ∧ Q (.exit 0) (envS [0, 1, 4, 7, 8] [.list [] .exact, .fn 80 [.ptr b 0], .int .i64 0, .int .i64 0, .int .i64 0]) H)
theorem ifD_l_ok : ∀ e H Q, ifD_l e H Q → AW Try.prog gl Try.f104.ntmps (.loop (subOf [1, 0, 1, 0] (bodyOf Try.f104))) Q e H := by
  rintro e H Q (⟨x0, l, J, Z, cap, b, c, hl, hpl, he, hH, hb, hQ1, hQ2⟩ | ⟨b, he, hQ⟩)
  · have hH : H = _ := hH
    subst hH
    have hfl : l.findIdx (byId c) ≤ l.length := List.findIdx_le_length
    refine aw_loop4 (hn := fun _ => 0) gl_low TCD_ok (.nil _ _ _ _ _) (σ := Nat) [0, 1, 4, 7, 8] (fun i => i ≤ l.findIdx (byId c)) (fun i => [.arr 1 0 l.length cap, .fn 80 [.ptr b 0], .int .i64 0, .int .i64 l.length, .int .i64 i]) (fun _ => x0 :: .cells (flT l ++ J) :: Z) (fun i => l.length - i) 0 (Nat.zero_le _) he rfl ?_
    intro i hi
    have hi' : i ≤ l.findIdx (byId c) := hi
    refine ifD_vc x0 l J Z cap b i _ ?_
    simp only [br_if, dt]
    by_cases h : i < l.length
    · rw [if_pos (by omega)]
      simp only [toNat_nat, Nat.zero_add]
      rw [flT_at J h]
      refine ⟨⟨by omega, by omega⟩, ?_⟩
      rw [if_pos (by rfl)]
      obtain ⟨t, htd⟩ : ∃ t, t = l.getD i default := ⟨_, rfl⟩
      rw [← htd]
      refine ⟨t, c, b, rfl, hb, hpl t (by rw [htd]; exact getD_mem h), ?_⟩
      by_cases k : byId c t = true
      · have hge : l.findIdx (byId c) = i := fidx_stop default hi' h (by rw [← htd]; exact k)
        rw [hge] at hQ1
        rw [if_pos k]
        exact hQ1 h
      · have hlt : i < l.findIdx (byId c) := fidx_step default hi' h (by rw [← htd]; simpa using k)
        rw [if_neg k]
        exact ⟨i + 1, (show l.length - (i + 1) < l.length - i by omega), hlt, by rw [wI_succ h (by omega)], [], (List.append_nil _).symm, Nat.le_refl _, .inl rfl⟩
    · rw [if_neg (by omega)]
      have : i = l.length := by omega
      subst this
      exact hQ2 (by omega)
  · refine aw_loop4 (hn := fun _ => 0) gl_low TCD_ok (.nil _ _ _ _ _) (σ := Unit) [0, 1, 4, 7, 8] (fun _ => True) (fun _ => [.list [] .exact, .fn 80 [.ptr b 0], .int .i64 0, .int .i64 0, .int .i64 0]) (fun _ => H) (fun _ => 0) () trivial he rfl ?_
    intro _ _
    exact inD_vc H b _ hQ
theorem igD_vc (H : Heap) (l : List Tk) (cap b : Nat)  (K : PV → Heap → Prop) (h : (∃ (x0 : Ob), ∃ (l_1 : List Tk), ∃ (J : List PV), ∃ (Z : Heap), ∃ (cap_1 : Nat), ∃ (b_1 : Nat), ∃ (c : Int), List.length l_1 ≤ 1000000 ∧ (∀ (t : Tk), t ∈ l_1 → List.length (Tk.pl t) ≤ 1000000) ∧ SlIs [PV.arr 1 0 (List.length l) cap, PV.fn 80 [PV.ptr b 0], PV.int IntKind.i64 0, PV.int IntKind.i64 (↑(List.length l) : Int), PV.int IntKind.i64 0] [PV.arr 1 0 (List.length l_1) cap_1, PV.fn 80 [PV.ptr b_1 0], PV.int IntKind.i64 0, PV.int IntKind.i64 (↑(List.length l_1) : Int), PV.int IntKind.i64 0] ∧ HpIs H (x0 :: Ob.cells (flT l_1 ++ J) :: Z) ∧ CeIs H b_1 [PV.int IntKind.u32 c] ∧ (List.findIdx (byId c) l_1 < List.length l_1 → K (PV.int IntKind.i64 (↑(List.findIdx (byId c) l_1) : Int)) H) ∧ (List.findIdx (byId c) l_1 = List.length l_1 → K (PV.int IntKind.i64 (-1)) H)) ∨ ∃ (b_1 : Nat), SlIs [PV.arr 1 0 (List.length l) cap, PV.fn 80 [PV.ptr b 0], PV.int IntKind.i64 0, PV.int IntKind.i64 (↑(List.length l) : Int), PV.int IntKind.i64 0] [PV.list [] Tail.exact, PV.fn 80 [PV.ptr b_1 0], PV.int IntKind.i64 0, PV.int IntKind.i64 0, PV.int IntKind.i64 0] ∧ K (PV.int IntKind.i64 (-1)) H) : ACalls Try.prog gl 104 [.arr 1 0 l.length cap, .fn 80 [.ptr b 0]] H K :=
  acalls_of_wpc2 (T := TCD) (L := [([1, 0, 1, 0], ifD_l)]) (fun _ => 0) Try.func104 (by kernel_rfl) (by kernel_rfl) (by kernel_rfl) (TCD_ok) (.cons (sub_of (by kernel_rfl)) ifD_l_ok (.nil _ _ _ _ _)) (holds_of_eq (by kernel_rfl) h)
theorem ihD_vc (H : Heap) (b : Nat)  (K : PV → Heap → Prop) (h : (∃ (x0 : Ob), ∃ (l : List Tk), ∃ (J : List PV), ∃ (Z : Heap), ∃ (cap : Nat), ∃ (b_1 : Nat), ∃ (c : Int), List.length l ≤ 1000000 ∧ (∀ (t : Tk), t ∈ l → List.length (Tk.pl t) ≤ 1000000) ∧ SlIs [PV.list [] Tail.exact, PV.fn 80 [PV.ptr b 0], PV.int IntKind.i64 0, PV.int IntKind.i64 0, PV.int IntKind.i64 0] [PV.arr 1 0 (List.length l) cap, PV.fn 80 [PV.ptr b_1 0], PV.int IntKind.i64 0, PV.int IntKind.i64 (↑(List.length l) : Int), PV.int IntKind.i64 0] ∧ HpIs H (x0 :: Ob.cells (flT l ++ J) :: Z) ∧ CeIs H b_1 [PV.int IntKind.u32 c] ∧ (List.findIdx (byId c) l < List.length l → K (PV.int IntKind.i64 (↑(List.findIdx (byId c) l) : Int)) H) ∧ (List.findIdx (byId c) l = List.length l → K (PV.int IntKind.i64 (-1)) H)) ∨ ∃ (b_1 : Nat), SlIs [PV.list [] Tail.exact, PV.fn 80 [PV.ptr b 0], PV.int IntKind.i64 0, PV.int IntKind.i64 0, PV.int IntKind.i64 0] [PV.list [] Tail.exact, PV.fn 80 [PV.ptr b_1 0], PV.int IntKind.i64 0, PV.int IntKind.i64 0, PV.int IntKind.i64 0] ∧ K (PV.int IntKind.i64 (-1)) H) : ACalls Try.prog gl 104 [.list [] .exact, .fn 80 [.ptr b 0]] H K :=
  acalls_of_wpc2 (T := TCD) (L := [([1, 0, 1, 0], ifD_l)]) (fun _ => 0) Try.func104 (by kernel_rfl) (by kernel_rfl) (by kernel_rfl) (TCD_ok) (.cons (sub_of (by kernel_rfl)) ifD_l_ok (.nil _ _ _ _ _)) (holds_of_eq (by kernel_rfl) h)
def ixD_s (args : List PV) (H : Heap) (K : PV → Prop) : Prop :=
  (∃ (x0 : Ob) (l : List Tk) (J : List PV) (Z : Heap) (cap b : Nat) (c : Int), SlIs args [.arr 1 0 l.length cap, .fn 80 [.ptr b 0]] ∧ HpIs H (x0 :: .cells (flT l ++ J) :: Z) ∧ CeIs H b [.int .u32 c] ∧ l.length ≤ 1000000 ∧ (∀ t ∈ l, t.pl.length ≤ 1000000) ∧ K (.int .i64 (ixQ l (byId c)))) ∨
  (∃ (b : Nat), SlIs args [.list [] .exact, .fn 80 [.ptr b 0]] ∧ K (.int .i64 (-1)))
theorem ixD_ok : SpOk Try.prog gl 104 (.read ixD_s) := by
  rintro args H K (⟨x0, l, J, Z, cap, b, c, he, hH, hb, hl, hpl, hk⟩ | ⟨b, he, hk⟩)
  · have he : args = _ := he
    have hH : H = _ := hH
    subst he
    subst hH
    refine ⟨_, igD_vc _ l cap b _ (.inl ⟨x0, l, J, Z, cap, b, c, hl, hpl, rfl, rfl, hb, fun h => ⟨?_, rfl⟩, fun h => ⟨?_, rfl⟩⟩), hk⟩
    · unfold ixQ; rw [if_pos h]
    · unfold ixQ; rw [if_neg (by omega)]
  · have he : args = _ := he
    subst he
    exact ⟨_, ihD_vc H b _ (.inr ⟨b, rfl, rfl, rfl⟩), hk⟩
def TXD : Tab := [(104, .read ixD_s)]
theorem TXD_ok : TabOk Try.prog gl TXD := .cons ixD_ok (.nil _ _)
theorem atAD_vc (l : List Tk) (J : List PV) (cap : Nat) (sz : List Int) (Z : Heap) (b : Nat)  (K : PV → Heap → Prop) (h : (∃ (x0 : Ob), ∃ (l_1 : List Tk), ∃ (J_1 : List PV), ∃ (Z_1 : Heap), ∃ (cap_1 : Nat), ∃ (b_1 : Nat), ∃ (c : Int), SlIs [PV.arr 1 0 (List.length l) cap, PV.fn 80 [PV.ptr b 0]] [PV.arr 1 0 (List.length l_1) cap_1, PV.fn 80 [PV.ptr b_1 0]] ∧ HpIs (Ob.cells [PV.arr 1 0 (List.length l) cap, PV.list (List.map i1 sz) Tail.no] :: Ob.cells (flT l ++ J) :: Z) (x0 :: Ob.cells (flT l_1 ++ J_1) :: Z_1) ∧ CeIs (Ob.cells [PV.arr 1 0 (List.length l) cap, PV.list (List.map i1 sz) Tail.no] :: Ob.cells (flT l ++ J) :: Z) b_1 [PV.int IntKind.u32 c] ∧ List.length l_1 ≤ 1000000 ∧ (∀ (t : Tk), t ∈ l_1 → List.length (Tk.pl t) ≤ 1000000) ∧ K (PV.int IntKind.i64 (ixQ l_1 (byId c))) (Ob.cells [PV.arr 1 0 (List.length l) cap, PV.list (List.map i1 sz) Tail.no] :: Ob.cells (flT l ++ J) :: Z)) ∨ ∃ (b_1 : Nat), SlIs [PV.arr 1 0 (List.length l) cap, PV.fn 80 [PV.ptr b 0]] [PV.list [] Tail.exact, PV.fn 80 [PV.ptr b_1 0]] ∧ K (PV.int IntKind.i64 (-1)) (Ob.cells [PV.arr 1 0 (List.length l) cap, PV.list (List.map i1 sz) Tail.no] :: Ob.cells (flT l ++ J) :: Z)) : ACalls Try.prog gl 77 [.ptr 0 0, .fn 80 [.ptr b 0]] (.cells [.arr 1 0 l.length cap, .list (sz.map i1) .no] :: .cells (flT l ++ J) :: Z) K :=
  acalls_of_wpc2 (T := TXD) (L := []) (fun o => match o.op with | .load t _ => (match t with | 82 => 1 | _ => 0) | _ => 0) Try.func77 (by kernel_rfl) (by kernel_rfl) (by kernel_rfl) (TXD_ok) (LOk.nil _ _ _ _ _) (holds_of_eq (by kernel_rfl) h)
theorem atND_vc (sz : List Int) (Z : Heap) (b : Nat)  (K : PV → Heap → Prop) (h : (∃ (x0 : Ob), ∃ (l : List Tk), ∃ (J : List PV), ∃ (Z_1 : Heap), ∃ (cap : Nat), ∃ (b_1 : Nat), ∃ (c : Int), SlIs [PV.list [] Tail.exact, PV.fn 80 [PV.ptr b 0]] [PV.arr 1 0 (List.length l) cap, PV.fn 80 [PV.ptr b_1 0]] ∧ HpIs (Ob.cells [PV.list [] Tail.exact, PV.list (List.map i1 sz) Tail.no] :: Z) (x0 :: Ob.cells (flT l ++ J) :: Z_1) ∧ CeIs (Ob.cells [PV.list [] Tail.exact, PV.list (List.map i1 sz) Tail.no] :: Z) b_1 [PV.int IntKind.u32 c] ∧ List.length l ≤ 1000000 ∧ (∀ (t : Tk), t ∈ l → List.length (Tk.pl t) ≤ 1000000) ∧ K (PV.int IntKind.i64 (ixQ l (byId c))) (Ob.cells [PV.list [] Tail.exact, PV.list (List.map i1 sz) Tail.no] :: Z)) ∨ ∃ (b_1 : Nat), SlIs [PV.list [] Tail.exact, PV.fn 80 [PV.ptr b 0]] [PV.list [] Tail.exact, PV.fn 80 [PV.ptr b_1 0]] ∧ K (PV.int IntKind.i64 (-1)) (Ob.cells [PV.list [] Tail.exact, PV.list (List.map i1 sz) Tail.no] :: Z)) : ACalls Try.prog gl 77 [.ptr 0 0, .fn 80 [.ptr b 0]] (.cells [.list [] .exact, .list (sz.map i1) .no] :: Z) K :=
  acalls_of_wpc2 (T := TXD) (L := []) (fun o => match o.op with | .load t _ => (match t with | 82 => 1 | _ => 0) | _ => 0) Try.func77 (by kernel_rfl) (by kernel_rfl) (by kernel_rfl) (TXD_ok) (LOk.nil _ _ _ _ _) (holds_of_eq (by kernel_rfl) h)
def atD_s (args : List PV) (H : Heap) (K : PV → Prop) : Prop := ∃ (l : List Tk) (sz : List Int) (X Z : Heap) (b : Nat) (c : Int), SlIs args [.ptr 0 0, .fn 80 [.ptr b 0]] ∧ EXQ l sz X ∧ HpIs H (X ++ Z) ∧ CeIs H b [.int .u32 c] ∧ l.length ≤ 1000000 ∧ (∀ t ∈ l, t.pl.length ≤ 1000000) ∧ K (.int .i64 (ixQ l (byId c)))
theorem atD_ok : SpOk Try.prog gl 77 (.read atD_s) := by
  rintro args H K ⟨l, sz, X, Z, b, c, he, hX, hH, hb, hl, hpl, hk⟩
  have he : args = _ := he
  have hH : H = _ := hH
  subst he
  subst hH
  rcases hX with ⟨J, cap, rfl, _, _⟩ | ⟨rfl, rfl⟩
  · exact ⟨_, atAD_vc l J cap sz Z b _ (.inl ⟨_, l, J, Z, cap, b, c, rfl, rfl, hb, hl, hpl, rfl, rfl⟩), hk⟩
  · exact ⟨_, atND_vc sz Z b _ (.inr ⟨b, rfl, rfl, rfl⟩), hk⟩
def clO_s (args : List PV) (H : Heap) (K : PV → Prop) : Prop := ∃ (t : Tk) (c : Int) (b : Nat), SlIs args [t.pv, .ptr b 0] ∧ CeIs H b [.int .u32 c] ∧ t.pl.length ≤ 1000000 ∧ K (.bool (byPl c t))
theorem clO_ok : SpOk Try.prog gl 78 (.read clO_s) := by
  rintro args H K ⟨t, c, b, he, hc, h, hk⟩
  have he : args = _ := he
  subst he
  refine ⟨_, read_cell (pre := [t.pv]) gl_low hc low0_int (low_one t.low) (.bool (byPl c t)) (clO_vc t c _ ?_), hk⟩
  exact ⟨t.pl, .no, c, rfl, h, rfl, [_], rfl⟩
def TCO : Tab := [(78, .read clO_s)]
theorem TCO_ok : TabOk Try.prog gl TCO := .cons clO_ok (.nil _ _)
theorem ifO_vc (x0 : Ob) (l : List Tk) (J : List PV) (Z : Heap) (cap b : Nat) (i : Nat) (R : Ex → List PV → Heap → Prop) (h : br (decide ((↑i : Int) < (↑(List.length l) : Int))) ((0 ≤ (↑i : Int) ∧ (↑i : Int) < (↑(List.length l) : Int)) ∧ br (true && fitX [CK.int IntKind.u32, CK.int IntKind.i64, CK.list, CK.int IntKind.i64, CK.int IntKind.i64] 0 (List.drop (0 + Int.toNat (↑i : Int) * 5) (flT l ++ J))) (∃ (t : Tk), ∃ (c : Int), ∃ (b_1 : Nat), SlIs [PV.agg [PV.int IntKind.u32 (cI (List.drop (0 + Int.toNat (↑i : Int) * 5) (flT l ++ J)) 0), PV.int IntKind.i64 (cI (List.drop (0 + Int.toNat (↑i : Int) * 5) (flT l ++ J)) 1), PV.list (cL (List.drop (0 + Int.toNat (↑i : Int) * 5) (flT l ++ J)) 2) (cT (List.drop (0 + Int.toNat (↑i : Int) * 5) (flT l ++ J)) 2), PV.int IntKind.i64 (cI (List.drop (0 + Int.toNat (↑i : Int) * 5) (flT l ++ J)) 3), PV.int IntKind.i64 (cI (List.drop (0 + Int.toNat (↑i : Int) * 5) (flT l ++ J)) 4)], PV.ptr b 0] [PV.agg [PV.int IntKind.u32 (Tk.id t), PV.int IntKind.i64 (Tk.md t), PV.list (List.map u1 (Tk.pl t)) Tail.no, PV.int IntKind.i64 (Tk.rt t), PV.int IntKind.i64 (Tk.si t)], PV.ptr b_1 0] ∧ CeIs (x0 :: Ob.cells (flT l ++ J) :: Z) b_1 [PV.int IntKind.u32 c] ∧ List.length (Tk.pl t) ≤ 1000000 ∧ br (byPl c t) (R Ex.ret [PV.arr 1 0 (List.length l) cap, PV.fn 78 [PV.ptr b 0], PV.int IntKind.i64 (↑i : Int), PV.int IntKind.i64 (↑(List.length l) : Int), PV.int IntKind.i64 (↑i : Int)] (x0 :: Ob.cells (flT l ++ J) :: Z)) (R Ex.normal [PV.arr 1 0 (List.length l) cap, PV.fn 78 [PV.ptr b 0], PV.int IntKind.i64 0, PV.int IntKind.i64 (↑(List.length l) : Int), PV.int IntKind.i64 (wI ((↑i : Int) + 1))] (x0 :: Ob.cells (flT l ++ J) :: Z))) False) (R (Ex.exit 0) [PV.arr 1 0 (List.length l) cap, PV.fn 78 [PV.ptr b 0], PV.int IntKind.i64 0, PV.int IntKind.i64 (↑(List.length l) : Int), PV.int IntKind.i64 (↑i : Int)] (x0 :: Ob.cells (flT l ++ J) :: Z))) : Holds (wpc br Try.prog gl TCO [] (fun _ => 0) (subOf [1, 0, 1, 0] (bodyOf Try.f104)) [] (envS [0, 1, 4, 7, 8] [.arr 1 0 l.length cap, .fn 78 [.ptr b 0], .int .i64 0, .int .i64 l.length, .int .i64 i]) (x0 :: .cells (flT l ++ J) :: Z) (fun ex e H => R ex (List.map e [0, 1, 4, 7, 8]) H)) := holds_of_eq (by kernel_rfl) h
theorem inO_vc (H : Heap) (b : Nat) (R : Ex → List PV → Heap → Prop) (h : R (Ex.exit 0) [PV.list [] Tail.exact, PV.fn 78 [PV.ptr b 0], PV.int IntKind.i64 0, PV.int IntKind.i64 0, PV.int IntKind.i64 0] H) : Holds (wpc br Try.prog gl TCO [] (fun _ => 0) (subOf [1, 0, 1, 0] (bodyOf Try.f104)) [] (envS [0, 1, 4, 7, 8] [.list [] .exact, .fn 78 [.ptr b 0], .int .i64 0, .int .i64 0, .int .i64 0]) H (fun ex e H => R ex (List.map e [0, 1, 4, 7, 8]) H)) := holds_of_eq (by kernel_rfl) h
def ifO_l : LSp := fun e H Q =>
  (∃ (x0 : Ob) (l : List Tk) (J : List PV) (Z : Heap) (cap b : Nat) (c : Int), l.length ≤ 1000000 ∧ (∀ t ∈ l, t.pl.length ≤ 1000000) ∧ SlIs (List.map e [0, 1, 4, 7, 8]) [.arr 1 0 l.length cap, .fn 78 [.ptr b 0], .int .i64 0, .int .i64 l.length, .int .i64 0] ∧ HpIs H (x0 :: .cells (flT l ++ J) :: Z) ∧ CeIs H b [.int .u32 c] ∧
    (l.findIdx (byPl c) < l.length → Q .ret (envS [0, 1, 4, 7, 8] [.arr 1 0 l.length cap, .fn 78 [.ptr b 0], .int .i64 (l.findIdx (byPl c)), .int .i64 l.length, .int .i64 (l.findIdx (byPl c))]) H) ∧
    (l.findIdx (byPl c) = l.length → Q (.exit 0) (envS [0, 1, 4, 7, 8] [.arr 1 0 l.length cap, .fn 78 [.ptr b 0], .int .i64 0, .int .i64 l.length, .int .i64 l.length]) H)) ∨
  (∃ (b : Nat), SlIs (List.map e [0, 1, 4, 7, 8]) [.list [] .exact, .fn 78 [.ptr b 0], .int .i64 0, .int .i64 0, .int .i64 0] ∧ Q (.exit 0) (envS [0, 1, 4, 7, 8] [.list [] .exact, .fn 78 [.ptr b 0], .int .i64 0, .int .i64 0, .int .i64 0]) H)
theorem ifO_l_ok : ∀ e H Q, ifO_l e H Q → AW Try.prog gl Try.f104.ntmps (.loop (subOf [1, 0, 1, 0] (bodyOf Try.f104))) Q e H := by
  rintro e H Q (⟨x0, l, J, Z, cap, b, c, hl, hpl, he, hH, hb, hQ1, hQ2⟩ | ⟨b, he, hQ⟩)
  · have hH : H = _ := hH
    subst hH
    have hfl : l.findIdx (byPl c) ≤ l.length := List.findIdx_le_length
    refine aw_loop4 (hn := fun _ => 0) gl_low TCO_ok (.nil _ _ _ _ _) (σ := Nat) [0, 1, 4, 7, 8] (fun i => i ≤ l.findIdx (byPl c)) (fun i => [.arr 1 0 l.length cap, .fn 78 [.ptr b 0], .int .i64 0, .int .i64 l.length, .int .i64 i]) (fun _ => x0 :: .cells (flT l ++ J) :: Z) (fun i => l.length - i) 0 (Nat.zero_le _) he rfl ?_
    intro i hi
    have hi' : i ≤ l.findIdx (byPl c) := hi
    refine ifO_vc x0 l J Z cap b i _ ?_
    simp only [br_if, dt]
    by_cases h : i < l.length
    · rw [if_pos (by omega)]
      simp only [toNat_nat, Nat.zero_add]
      rw [flT_at J h]
      refine ⟨⟨by omega, by omega⟩, ?_⟩
      rw [if_pos (by rfl)]
      obtain ⟨t, htd⟩ : ∃ t, t = l.getD i default := ⟨_, rfl⟩
      rw [← htd]
      refine ⟨t, c, b, rfl, hb, hpl t (by rw [htd]; exact getD_mem h), ?_⟩
      by_cases k : byPl c t = true
      · have hge : l.findIdx (byPl c) = i := fidx_stop default hi' h (by rw [← htd]; exact k)
        rw [hge] at hQ1
        rw [if_pos k]
        exact hQ1 h
      · have hlt : i < l.findIdx (byPl c) := fidx_step default hi' h (by rw [← htd]; simpa using k)
        rw [if_neg k]
        exact ⟨i + 1, (show l.length - (i + 1) < l.length - i by omega), hlt, by rw [wI_succ h (by omega)], [], (List.append_nil _).symm, Nat.le_refl _, .inl rfl⟩
    · rw [if_neg (by omega)]
      have : i = l.length := by omega
      subst this
      exact hQ2 (by omega)
  · refine aw_loop4 (hn := fun _ => 0) gl_low TCO_ok (.nil _ _ _ _ _) (σ := Unit) [0, 1, 4, 7, 8] (fun _ => True) (fun _ => [.list [] .exact, .fn 78 [.ptr b 0], .int .i64 0, .int .i64 0, .int .i64 0]) (fun _ => H) (fun _ => 0) () trivial he rfl ?_
    intro _ _
    exact inO_vc H b _ hQ
theorem igO_vc (H : Heap) (l : List Tk) (cap b : Nat)  (K : PV → Heap → Prop) (h : (∃ (x0 : Ob), ∃ (l_1 : List Tk), ∃ (J : List PV), ∃ (Z : Heap), ∃ (cap_1 : Nat), ∃ (b_1 : Nat), ∃ (c : Int), List.length l_1 ≤ 1000000 ∧ (∀ (t : Tk), t ∈ l_1 → List.length (Tk.pl t) ≤ 1000000) ∧ SlIs [PV.arr 1 0 (List.length l) cap, PV.fn 78 [PV.ptr b 0], PV.int IntKind.i64 0, PV.int IntKind.i64 (↑(List.length l) : Int), PV.int IntKind.i64 0] [PV.arr 1 0 (List.length l_1) cap_1, PV.fn 78 [PV.ptr b_1 0], PV.int IntKind.i64 0, PV.int IntKind.i64 (↑(List.length l_1) : Int), PV.int IntKind.i64 0] ∧ HpIs H (x0 :: Ob.cells (flT l_1 ++ J) :: Z) ∧ CeIs H b_1 [PV.int IntKind.u32 c] ∧ (List.findIdx (byPl c) l_1 < List.length l_1 → K (PV.int IntKind.i64 (↑(List.findIdx (byPl c) l_1) : Int)) H) ∧ (List.findIdx (byPl c) l_1 = List.length l_1 → K (PV.int IntKind.i64 (-1)) H)) ∨ ∃ (b_1 : Nat), SlIs [PV.arr 1 0 (List.length l) cap, PV.fn 78 [PV.ptr b 0], PV.int IntKind.i64 0, PV.int IntKind.i64 (↑(List.length l) : Int), PV.int IntKind.i64 0] [PV.list [] Tail.exact, PV.fn 78 [PV.ptr b_1 0], PV.int IntKind.i64 0, PV.int IntKind.i64 0, PV.int IntKind.i64 0] ∧ K (PV.int IntKind.i64 (-1)) H) : ACalls Try.prog gl 104 [.arr 1 0 l.length cap, .fn 78 [.ptr b 0]] H K :=
  acalls_of_wpc2 (T := TCO) (L := [([1, 0, 1, 0], ifO_l)]) (fun _ => 0) Try.func104 (by kernel_rfl) (by kernel_rfl) (by kernel_rfl) (TCO_ok) (.cons (sub_of (by kernel_rfl)) ifO_l_ok (.nil _ _ _ _ _)) (holds_of_eq (by kernel_rfl) h)
theorem ihO_vc (H : Heap) (b : Nat)  (K : PV → Heap → Prop) (h : (∃ (x0 : Ob), ∃ (l : List Tk), ∃ (J : List PV), ∃ (Z : Heap), ∃ (cap : Nat), ∃ (b_1 : Nat), ∃ (c : Int), List.length l ≤ 1000000 ∧ (∀ (t : Tk), t ∈ l → List.length (Tk.pl t) ≤ 1000000) ∧ SlIs [PV.list [] Tail.exact, PV.fn 78 [PV.ptr b 0], PV.int IntKind.i64 0, PV.int IntKind.i64 0, PV.int IntKind.i64 0] [PV.arr 1 0 (List.length l) cap, PV.fn 78 [PV.ptr b_1 0], PV.int IntKind.i64 0, PV.int IntKind.i64 (↑(List.length l) : Int), PV.int IntKind.i64 0] ∧ HpIs H (x0 :: Ob.cells (flT l ++ J) :: Z) ∧ CeIs H b_1 [PV.int IntKind.u32 c] ∧ (List.findIdx (byPl c) l < List.length l → K (PV.int IntKind.i64 (↑(List.findIdx (byPl c) l) : Int)) H) ∧ (List.findIdx (byPl c) l = List.length l → K (PV.int IntKind.i64 (-1)) H)) ∨ ∃ (b_1 : Nat), SlIs [PV.list [] Tail.exact, PV.fn 78 [PV.ptr b 0], PV.int IntKind.i64 0, PV.int IntKind.i64 0, PV.int IntKind.i64 0] [PV.list [] Tail.exact, PV.fn 78 [PV.ptr b_1 0], PV.int IntKind.i64 0, PV.int IntKind.i64 0, PV.int IntKind.i64 0] ∧ K (PV.int IntKind.i64 (-1)) H) : ACalls Try.prog gl 104 [.list [] .exact, .fn 78 [.ptr b 0]] H K :=
  acalls_of_wpc2 (T := TCO) (L := [([1, 0, 1, 0], ifO_l)]) (fun _ => 0) Try.func104 (by kernel_rfl) (by kernel_rfl) (by kernel_rfl) (TCO_ok) (.cons (sub_of (by kernel_rfl)) ifO_l_ok (.nil _ _ _ _ _)) (holds_of_eq (by kernel_rfl) h)
def ixO_s (args : List PV) (H : Heap) (K : PV → Prop) : Prop :=
  (∃ (x0 : Ob) (l : List Tk) (J : List PV) (Z : Heap) (cap b : Nat) (c : Int), SlIs args [.arr 1 0 l.length cap, .fn 78 [.ptr b 0]] ∧ HpIs H (x0 :: .cells (flT l ++ J) :: Z) ∧ CeIs H b [.int .u32 c] ∧ l.length ≤ 1000000 ∧ (∀ t ∈ l, t.pl.length ≤ 1000000) ∧ K (.int .i64 (ixQ l (byPl c)))) ∨
  (∃ (b : Nat), SlIs args [.list [] .exact, .fn 78 [.ptr b 0]] ∧ K (.int .i64 (-1)))
theorem ixO_ok : SpOk Try.prog gl 104 (.read ixO_s) := by
  rintro args H K (⟨x0, l, J, Z, cap, b, c, he, hH, hb, hl, hpl, hk⟩ | ⟨b, he, hk⟩)
  · have he : args = _ := he
    have hH : H = _ := hH
    subst he
    subst hH
    refine ⟨_, igO_vc _ l cap b _ (.inl ⟨x0, l, J, Z, cap, b, c, hl, hpl, rfl, rfl, hb, fun h => ⟨?_, rfl⟩, fun h => ⟨?_, rfl⟩⟩), hk⟩
    · unfold ixQ; rw [if_pos h]
    · unfold ixQ; rw [if_neg (by omega)]
  · have he : args = _ := he
    subst he
    exact ⟨_, ihO_vc H b _ (.inr ⟨b, rfl, rfl, rfl⟩), hk⟩
def TXO : Tab := [(104, .read ixO_s)]
theorem TXO_ok : TabOk Try.prog gl TXO := .cons ixO_ok (.nil _ _)
theorem atAO_vc (l : List Tk) (J : List PV) (cap : Nat) (sz : List Int) (Z : Heap) (b : Nat)  (K : PV → Heap → Prop) (h : (∃ (x0 : Ob), ∃ (l_1 : List Tk), ∃ (J_1 : List PV), ∃ (Z_1 : Heap), ∃ (cap_1 : Nat), ∃ (b_1 : Nat), ∃ (c : Int), SlIs [PV.arr 1 0 (List.length l) cap, PV.fn 78 [PV.ptr b 0]] [PV.arr 1 0 (List.length l_1) cap_1, PV.fn 78 [PV.ptr b_1 0]] ∧ HpIs (Ob.cells [PV.arr 1 0 (List.length l) cap, PV.list (List.map i1 sz) Tail.no] :: Ob.cells (flT l ++ J) :: Z) (x0 :: Ob.cells (flT l_1 ++ J_1) :: Z_1) ∧ CeIs (Ob.cells [PV.arr 1 0 (List.length l) cap, PV.list (List.map i1 sz) Tail.no] :: Ob.cells (flT l ++ J) :: Z) b_1 [PV.int IntKind.u32 c] ∧ List.length l_1 ≤ 1000000 ∧ (∀ (t : Tk), t ∈ l_1 → List.length (Tk.pl t) ≤ 1000000) ∧ K (PV.int IntKind.i64 (ixQ l_1 (byPl c))) (Ob.cells [PV.arr 1 0 (List.length l) cap, PV.list (List.map i1 sz) Tail.no] :: Ob.cells (flT l ++ J) :: Z)) ∨ ∃ (b_1 : Nat), SlIs [PV.arr 1 0 (List.length l) cap, PV.fn 78 [PV.ptr b 0]] [PV.list [] Tail.exact, PV.fn 78 [PV.ptr b_1 0]] ∧ K (PV.int IntKind.i64 (-1)) (Ob.cells [PV.arr 1 0 (List.length l) cap, PV.list (List.map i1 sz) Tail.no] :: Ob.cells (flT l ++ J) :: Z)) : ACalls Try.prog gl 77 [.ptr 0 0, .fn 78 [.ptr b 0]] (.cells [.arr 1 0 l.length cap, .list (sz.map i1) .no] :: .cells (flT l ++ J) :: Z) K :=
  acalls_of_wpc2 (T := TXO) (L := []) (fun o => match o.op with | .load t _ => (match t with | 82 => 1 | _ => 0) | _ => 0) Try.func77 (by kernel_rfl) (by kernel_rfl) (by kernel_rfl) (TXO_ok) (LOk.nil _ _ _ _ _) (holds_of_eq (by kernel_rfl) h)
theorem atNO_vc (sz : List Int) (Z : Heap) (b : Nat)  (K : PV → Heap → Prop) (h : (∃ (x0 : Ob), ∃ (l : List Tk), ∃ (J : List PV), ∃ (Z_1 : Heap), ∃ (cap : Nat), ∃ (b_1 : Nat), ∃ (c : Int), SlIs [PV.list [] Tail.exact, PV.fn 78 [PV.ptr b 0]] [PV.arr 1 0 (List.length l) cap, PV.fn 78 [PV.ptr b_1 0]] ∧ HpIs (Ob.cells [PV.list [] Tail.exact, PV.list (List.map i1 sz) Tail.no] :: Z) (x0 :: Ob.cells (flT l ++ J) :: Z_1) ∧ CeIs (Ob.cells [PV.list [] Tail.exact, PV.list (List.map i1 sz) Tail.no] :: Z) b_1 [PV.int IntKind.u32 c] ∧ List.length l ≤ 1000000 ∧ (∀ (t : Tk), t ∈ l → List.length (Tk.pl t) ≤ 1000000) ∧ K (PV.int IntKind.i64 (ixQ l (byPl c))) (Ob.cells [PV.list [] Tail.exact, PV.list (List.map i1 sz) Tail.no] :: Z)) ∨ ∃ (b_1 : Nat), SlIs [PV.list [] Tail.exact, PV.fn 78 [PV.ptr b 0]] [PV.list [] Tail.exact, PV.fn 78 [PV.ptr b_1 0]] ∧ K (PV.int IntKind.i64 (-1)) (Ob.cells [PV.list [] Tail.exact, PV.list (List.map i1 sz) Tail.no] :: Z)) : ACalls Try.prog gl 77 [.ptr 0 0, .fn 78 [.ptr b 0]] (.cells [.list [] .exact, .list (sz.map i1) .no] :: Z) K :=
  acalls_of_wpc2 (T := TXO) (L := []) (fun o => match o.op with | .load t _ => (match t with | 82 => 1 | _ => 0) | _ => 0) Try.func77 (by kernel_rfl) (by kernel_rfl) (by kernel_rfl) (TXO_ok) (LOk.nil _ _ _ _ _) (holds_of_eq (by kernel_rfl) h)
def atO_s (args : List PV) (H : Heap) (K : PV → Prop) : Prop := ∃ (l : List Tk) (sz : List Int) (X Z : Heap) (b : Nat) (c : Int), SlIs args [.ptr 0 0, .fn 78 [.ptr b 0]] ∧ EXQ l sz X ∧ HpIs H (X ++ Z) ∧ CeIs H b [.int .u32 c] ∧ l.length ≤ 1000000 ∧ (∀ t ∈ l, t.pl.length ≤ 1000000) ∧ K (.int .i64 (ixQ l (byPl c)))
theorem atO_ok : SpOk Try.prog gl 77 (.read atO_s) := by
  rintro args H K ⟨l, sz, X, Z, b, c, he, hX, hH, hb, hl, hpl, hk⟩
  have he : args = _ := he
  have hH : H = _ := hH
  subst he
  subst hH
  rcases hX with ⟨J, cap, rfl, _, _⟩ | ⟨rfl, rfl⟩
  · exact ⟨_, atAO_vc l J cap sz Z b _ (.inl ⟨_, l, J, Z, cap, b, c, rfl, rfl, hb, hl, hpl, rfl, rfl⟩), hk⟩
  · exact ⟨_, atNO_vc sz Z b _ (.inr ⟨b, rfl, rfl, rfl⟩), hk⟩
end Go.Proofs.Ytcmknbanojcbaaa
