/-
  The law RackFree, step by step.
-/
import Derived.Test.YtcmknbanojcbaaaKw
import Derived.Test.YtcmknbanojcbaaaKc
import Derived.Test.YtcmknbanojcbaaaProg
namespace Go.Proofs.Ytcmknbanojcbaaa
open Go Go.AM Go.Proofs
def TF7 : Tab := TMB [(17, .pure awake_s)]
theorem TF7_ok : TabOk Try.prog gl TF7 := TMB_ok (.cons awake_ok (.nil _ _))
theorem fA_red (l : List RwB) (m : Int) (a b : List Int) (i : Nat) (R : Ex → List PV → Heap → Prop) : (br (decide ((↑i : Int) < (↑(List.length (en1 IntKind.u32 a)) : Int))) (InL (en1 IntKind.u32 a) 1 (↑i : Int) ∧ br (true && fitX [CK.int IntKind.u32] 0 (List.getD (en1 IntKind.u32 a) (Int.toNat (↑i : Int)) [])) (∃ (l_1 : List RwB), ∃ (most : Int), ∃ (t : Int), ∃ (v : Int), SlIs [PV.int IntKind.u32 (cI (List.getD (en1 IntKind.u32 a) (Int.toNat (↑i : Int)) []) 0), PV.int IntKind.u8 1] [PV.int IntKind.u32 t, PV.int IntKind.u8 v] ∧ AbIs [Ob.abs (rkB l m)] 0 (rkB l_1 most) ∧ Ok l_1 most ∧ R Ex.normal [PV.list (en1 IntKind.u32 a) Tail.no, PV.list (en1 IntKind.u32 b) Tail.no, PV.bool false, PV.ptr 0 0, PV.int IntKind.i64 (wI ((↑i : Int) + 1))] [Ob.abs (rkB (Prod.fst (putL l_1 most t v)) most)]) False) (R (Ex.exit 0) [PV.list (en1 IntKind.u32 a) Tail.no, PV.list (en1 IntKind.u32 b) Tail.no, PV.bool false, PV.ptr 0 0, PV.int IntKind.i64 (↑i : Int)] [Ob.abs (rkB l m)])) = wpc br Try.prog gl TF7 [] (fun _ => 0) (subOf [1, 1, 1, 0, 1, 0] (bodyOf Try.f5)) [] (envS [0, 1, 4, 5, 6] [.list (en1 .u32 a) .no, .list (en1 .u32 b) .no, .bool false, .ptr 0 0, .int .i64 i]) [.abs (rkB l m)] (fun ex e H => R ex (List.map e [0, 1, 4, 5, 6]) H) := by kernel_rfl
theorem fA_vc (l : List RwB) (m : Int) (a b : List Int) (i : Nat) (R : Ex → List PV → Heap → Prop) (h : br (decide ((↑i : Int) < (↑(List.length (en1 IntKind.u32 a)) : Int))) (InL (en1 IntKind.u32 a) 1 (↑i : Int) ∧ br (true && fitX [CK.int IntKind.u32] 0 (List.getD (en1 IntKind.u32 a) (Int.toNat (↑i : Int)) [])) (∃ (l_1 : List RwB), ∃ (most : Int), ∃ (t : Int), ∃ (v : Int), SlIs [PV.int IntKind.u32 (cI (List.getD (en1 IntKind.u32 a) (Int.toNat (↑i : Int)) []) 0), PV.int IntKind.u8 1] [PV.int IntKind.u32 t, PV.int IntKind.u8 v] ∧ AbIs [Ob.abs (rkB l m)] 0 (rkB l_1 most) ∧ Ok l_1 most ∧ R Ex.normal [PV.list (en1 IntKind.u32 a) Tail.no, PV.list (en1 IntKind.u32 b) Tail.no, PV.bool false, PV.ptr 0 0, PV.int IntKind.i64 (wI ((↑i : Int) + 1))] [Ob.abs (rkB (Prod.fst (putL l_1 most t v)) most)]) False) (R (Ex.exit 0) [PV.list (en1 IntKind.u32 a) Tail.no, PV.list (en1 IntKind.u32 b) Tail.no, PV.bool false, PV.ptr 0 0, PV.int IntKind.i64 (↑i : Int)] [Ob.abs (rkB l m)])) : Holds (wpc br Try.prog gl TF7 [] (fun _ => 0) (subOf [1, 1, 1, 0, 1, 0] (bodyOf Try.f5)) [] (envS [0, 1, 4, 5, 6] [.list (en1 .u32 a) .no, .list (en1 .u32 b) .no, .bool false, .ptr 0 0, .int .i64 i]) [.abs (rkB l m)] (fun ex e H => R ex (List.map e [0, 1, 4, 5, 6]) H)) := holds_of_eq (fA_red l m a b i R) h
theorem fB_red (l : List RwB) (m : Int) (b : List Int) (i : Nat) (R : Ex → List PV → Heap → Prop) : (br (decide ((↑i : Int) < (↑(List.length (en1 IntKind.u32 b)) : Int))) (InL (en1 IntKind.u32 b) 1 (↑i : Int) ∧ br (true && fitX [CK.int IntKind.u32] 0 (List.getD (en1 IntKind.u32 b) (Int.toNat (↑i : Int)) [])) (∃ (l_1 : List RwB), ∃ (most : Int), ∃ (t : Int), SlIs [PV.int IntKind.u32 (cI (List.getD (en1 IntKind.u32 b) (Int.toNat (↑i : Int)) []) 0)] [PV.int IntKind.u32 t] ∧ AbIs [Ob.abs (rkB l m)] 0 (rkB l_1 most) ∧ Ok l_1 most ∧ R Ex.normal [PV.list (en1 IntKind.u32 b) Tail.no, PV.bool false, PV.ptr 0 0, PV.int IntKind.i64 (wI ((↑i : Int) + 1))] [Ob.abs (rkB (dropL l_1 t) most)]) False) (R (Ex.exit 2) [PV.list (en1 IntKind.u32 b) Tail.no, PV.bool false, PV.ptr 0 0, PV.int IntKind.i64 (↑i : Int)] [Ob.abs (rkB l m)])) = wpc br Try.prog gl TF7 [] (fun _ => 0) (subOf [1, 1, 1, 1, 0, 1, 0] (bodyOf Try.f5)) [] (envS [1, 4, 5, 7] [.list (en1 .u32 b) .no, .bool false, .ptr 0 0, .int .i64 i]) [.abs (rkB l m)] (fun ex e H => R ex (List.map e [1, 4, 5, 7]) H) := by kernel_rfl
theorem fB_vc (l : List RwB) (m : Int) (b : List Int) (i : Nat) (R : Ex → List PV → Heap → Prop) (h : br (decide ((↑i : Int) < (↑(List.length (en1 IntKind.u32 b)) : Int))) (InL (en1 IntKind.u32 b) 1 (↑i : Int) ∧ br (true && fitX [CK.int IntKind.u32] 0 (List.getD (en1 IntKind.u32 b) (Int.toNat (↑i : Int)) [])) (∃ (l_1 : List RwB), ∃ (most : Int), ∃ (t : Int), SlIs [PV.int IntKind.u32 (cI (List.getD (en1 IntKind.u32 b) (Int.toNat (↑i : Int)) []) 0)] [PV.int IntKind.u32 t] ∧ AbIs [Ob.abs (rkB l m)] 0 (rkB l_1 most) ∧ Ok l_1 most ∧ R Ex.normal [PV.list (en1 IntKind.u32 b) Tail.no, PV.bool false, PV.ptr 0 0, PV.int IntKind.i64 (wI ((↑i : Int) + 1))] [Ob.abs (rkB (dropL l_1 t) most)]) False) (R (Ex.exit 2) [PV.list (en1 IntKind.u32 b) Tail.no, PV.bool false, PV.ptr 0 0, PV.int IntKind.i64 (↑i : Int)] [Ob.abs (rkB l m)])) : Holds (wpc br Try.prog gl TF7 [] (fun _ => 0) (subOf [1, 1, 1, 1, 0, 1, 0] (bodyOf Try.f5)) [] (envS [1, 4, 5, 7] [.list (en1 .u32 b) .no, .bool false, .ptr 0 0, .int .i64 i]) [.abs (rkB l m)] (fun ex e H => R ex (List.map e [1, 4, 5, 7]) H)) := holds_of_eq (fB_red l m b i R) h
theorem fC_red (l : List RwB) (m : Int) (f i : Int) (R : Ex → List PV → Heap → Prop) : (br (decide (i < f) == true) (br (decide (i < 50)) (∃ (q : Nat), ∃ (l_1 : List RwB), ∃ (most : Int), ∃ (t : Int), SlIs [PV.ptr 0 0, PV.int IntKind.u32 i] [PV.ptr q 0, PV.int IntKind.u32 t] ∧ AbIs [Ob.abs (rkB l m)] q (rkB l_1 most) ∧ Ok l_1 most ∧ br (!has l_1 t) (R Ex.ret [PV.bool false, PV.ptr 0 0, PV.int IntKind.u32 f, PV.int IntKind.u32 i] [Ob.abs (rkB l m)]) (R Ex.normal [PV.bool false, PV.ptr 0 0, PV.int IntKind.u32 f, PV.int IntKind.u32 (IntKind.wrap IntKind.u32 (i + 1))] [Ob.abs (rkB l m)])) (R (Ex.exit 4) [PV.bool false, PV.ptr 0 0, PV.int IntKind.u32 f, PV.int IntKind.u32 i] [Ob.abs (rkB l m)])) (R (Ex.exit 4) [PV.bool false, PV.ptr 0 0, PV.int IntKind.u32 f, PV.int IntKind.u32 i] [Ob.abs (rkB l m)])) = wpc br Try.prog gl TF7 [] (fun _ => 0) (subOf [1, 1, 1, 1, 1, 1, 0, 1, 0] (bodyOf Try.f5)) [] (envS [4, 5, 8, 9] [.bool false, .ptr 0 0, .int .u32 f, .int .u32 i]) [.abs (rkB l m)] (fun ex e H => R ex (List.map e [4, 5, 8, 9]) H) := by kernel_rfl
theorem fC_vc (l : List RwB) (m : Int) (f i : Int) (R : Ex → List PV → Heap → Prop) (h : br (decide (i < f) == true) (br (decide (i < 50)) (∃ (q : Nat), ∃ (l_1 : List RwB), ∃ (most : Int), ∃ (t : Int), SlIs [PV.ptr 0 0, PV.int IntKind.u32 i] [PV.ptr q 0, PV.int IntKind.u32 t] ∧ AbIs [Ob.abs (rkB l m)] q (rkB l_1 most) ∧ Ok l_1 most ∧ br (!has l_1 t) (R Ex.ret [PV.bool false, PV.ptr 0 0, PV.int IntKind.u32 f, PV.int IntKind.u32 i] [Ob.abs (rkB l m)]) (R Ex.normal [PV.bool false, PV.ptr 0 0, PV.int IntKind.u32 f, PV.int IntKind.u32 (IntKind.wrap IntKind.u32 (i + 1))] [Ob.abs (rkB l m)])) (R (Ex.exit 4) [PV.bool false, PV.ptr 0 0, PV.int IntKind.u32 f, PV.int IntKind.u32 i] [Ob.abs (rkB l m)])) (R (Ex.exit 4) [PV.bool false, PV.ptr 0 0, PV.int IntKind.u32 f, PV.int IntKind.u32 i] [Ob.abs (rkB l m)])) : Holds (wpc br Try.prog gl TF7 [] (fun _ => 0) (subOf [1, 1, 1, 1, 1, 1, 0, 1, 0] (bodyOf Try.f5)) [] (envS [4, 5, 8, 9] [.bool false, .ptr 0 0, .int .u32 f, .int .u32 i]) [.abs (rkB l m)] (fun ex e H => R ex (List.map e [4, 5, 8, 9]) H)) := holds_of_eq (fC_red l m f i R) h
def fA_l : LSp := fun e H Q => ∃ (a b : List Int), a.length ≤ 40 ∧ SlIs (List.map e [0, 1, 4, 5, 6]) [.list (en1 .u32 a) .no, .list (en1 .u32 b) .no, .bool false, .ptr 0 0, .int .i64 0] ∧ HpIs H [.abs (rkB [] 41)] ∧
  ∀ (l : List RwB), Like l l 41 → l.length ≤ 40 → Q (.exit 0) (envS [0, 1, 4, 5, 6] [.list (en1 .u32 a) .no, .list (en1 .u32 b) .no, .bool false, .ptr 0 0, .int .i64 a.length]) [.abs (rkB l 41)]
theorem fA_l_ok : ∀ e H Q, fA_l e H Q → AW Try.prog gl Try.f5.ntmps (.loop (subOf [1, 1, 1, 0, 1, 0] (bodyOf Try.f5))) Q e H := by
  rintro e H Q ⟨a, b, ha, he, hH, hQ⟩
  refine aw_loop4 (hn := fun _ => 0) gl_low TF7_ok (.nil _ _ _ _ _) (σ := Nat × List RwB) [0, 1, 4, 5, 6] (fun s => s.1 ≤ a.length ∧ Like s.2 s.2 41 ∧ s.2.length ≤ s.1)
    (fun s => [.list (en1 .u32 a) .no, .list (en1 .u32 b) .no, .bool false, .ptr 0 0, .int .i64 s.1]) (fun s => [.abs (rkB s.2 41)]) (fun s => a.length - s.1) (0, []) ⟨Nat.zero_le _, ⟨.none (by decide) (by decide), .refl _, fun _ h => nomatch h⟩, Nat.le_refl _⟩ he hH ?_
  rintro ⟨i, l⟩ ⟨hi, lk, hl⟩
  have hi' : i ≤ a.length := hi
  have lk' : Like l l 41 := lk
  have hl' : l.length ≤ i := hl
  refine fA_vc l 41 a b i _ ?_
  simp only [br_if, dt, en1_length, toNat_nat]
  by_cases h : i < a.length
  · rw [if_pos (by omega)]
    refine ⟨en1_in _ _ _ (by omega) (by omega), ?_⟩
    rw [en1_get _ _ _ h, if_pos (by rfl)]
    refine ⟨l, 41, a.getD i 0, 1, rfl, rfl, lk'.ok, ?_⟩
    have := putL_len l 41 (a.getD i 0) 1
    exact ⟨(i + 1, _), (show a.length - (i + 1) < a.length - i by omega), ⟨h, lk'.putS _ _, Nat.le_trans this (Nat.succ_le_succ hl')⟩, by rw [wI_succ h (by omega)], [], rfl, Nat.le_refl _, .inl rfl⟩
  · rw [if_neg (by omega)]
    have : i = a.length := by omega
    subst this
    exact hQ l lk' (by omega)
def fB_l : LSp := fun e H Q => ∃ (l : List RwB) (b : List Int), b.length ≤ 40 ∧ Like l l 41 ∧ l.length ≤ 40 ∧ SlIs (List.map e [1, 4, 5, 7]) [.list (en1 .u32 b) .no, .bool false, .ptr 0 0, .int .i64 0] ∧ HpIs H [.abs (rkB l 41)] ∧
  ∀ (l' : List RwB), Like l' l' 41 → l'.length ≤ 40 → Q (.exit 2) (envS [1, 4, 5, 7] [.list (en1 .u32 b) .no, .bool false, .ptr 0 0, .int .i64 b.length]) [.abs (rkB l' 41)]
theorem fB_l_ok : ∀ e H Q, fB_l e H Q → AW Try.prog gl Try.f5.ntmps (.loop (subOf [1, 1, 1, 1, 0, 1, 0] (bodyOf Try.f5))) Q e H := by
  rintro e H Q ⟨l0, b, hb, lk0, hl0, he, hH, hQ⟩
  refine aw_loop4 (hn := fun _ => 0) gl_low TF7_ok (.nil _ _ _ _ _) (σ := Nat × List RwB) [1, 4, 5, 7] (fun s => s.1 ≤ b.length ∧ Like s.2 s.2 41 ∧ s.2.length ≤ 40)
    (fun s => [.list (en1 .u32 b) .no, .bool false, .ptr 0 0, .int .i64 s.1]) (fun s => [.abs (rkB s.2 41)]) (fun s => b.length - s.1) (0, l0) ⟨Nat.zero_le _, lk0, hl0⟩ he hH ?_
  rintro ⟨i, l⟩ ⟨hi, lk, hl⟩
  have hi' : i ≤ b.length := hi
  have lk' : Like l l 41 := lk
  have hl' : l.length ≤ 40 := hl
  refine fB_vc l 41 b i _ ?_
  simp only [br_if, dt, en1_length, toNat_nat]
  by_cases h : i < b.length
  · rw [if_pos (by omega)]
    refine ⟨en1_in _ _ _ (by omega) (by omega), ?_⟩
    rw [en1_get _ _ _ h, if_pos (by rfl)]
    refine ⟨l, 41, b.getD i 0, rfl, rfl, lk'.ok, ?_⟩
    have := dropL_len l (b.getD i 0)
    exact ⟨(i + 1, _), (show b.length - (i + 1) < b.length - i by omega), ⟨h, lk'.dropS _, Nat.le_trans this hl'⟩, by rw [wI_succ h (by omega)], [], rfl, Nat.le_refl _, .inl rfl⟩
  · rw [if_neg (by omega)]
    have : i = b.length := by omega
    subst this
    exact hQ l lk' hl'
def fC_l : LSp := fun e H Q => ∃ (l : List RwB), Like l l 41 ∧ SlIs (List.map e [4, 5, 8, 9]) [.bool false, .ptr 0 0, .int .u32 ((gap l : Int) + 1), .int .u32 1] ∧ HpIs H [.abs (rkB l 41)] ∧
  ∀ (i : Int), Q (.exit 4) (envS [4, 5, 8, 9] [.bool false, .ptr 0 0, .int .u32 ((gap l : Int) + 1), .int .u32 i]) [.abs (rkB l 41)]
theorem fC_l_ok : ∀ e H Q, fC_l e H Q → AW Try.prog gl Try.f5.ntmps (.loop (subOf [1, 1, 1, 1, 1, 1, 0, 1, 0] (bodyOf Try.f5))) Q e H := by
  rintro e H Q ⟨l, lk, he, hH, hQ⟩
  refine aw_loop4 (hn := fun _ => 0) gl_low TF7_ok (.nil _ _ _ _ _) (σ := Nat) [4, 5, 8, 9] (fun k => k ≤ gap l)
    (fun k => [.bool false, .ptr 0 0, .int .u32 ((gap l : Int) + 1), .int .u32 ((k : Int) + 1)]) (fun _ => [.abs (rkB l 41)]) (fun k => gap l - k) 0 (Nat.zero_le _) he hH ?_
  intro k hk
  have hk' : k ≤ gap l := hk
  refine fC_vc l 41 _ _ _ ?_
  simp only [br_if, dt, bt]
  by_cases h : k < gap l
  · rw [if_pos (by omega)]
    by_cases h2 : (k : Int) + 1 < 50
    · rw [if_pos h2]
      refine ⟨0, l, 41, (k : Int) + 1, rfl, rfl, lk.ok, ?_⟩
      rw [lk.gapH hk, if_neg (by simp [h])]
      exact ⟨k + 1, (show gap l - (k + 1) < gap l - k by omega), h, by rw [wrap_u32 (by omega) (by omega)]; rfl, [], rfl, Nat.le_refl _, .inl rfl⟩
    · rw [if_neg h2]
      exact hQ _
  · rw [if_neg (by omega)]
    exact hQ _
theorem free1_red (a b : List Int) (K : PV → Prop) : (br (decide ((↑(List.length (en1 IntKind.u32 a)) : Int) > 40) == false) (br (decide ((↑(List.length (en1 IntKind.u32 b)) : Int) > 40)) (K (PV.bool true)) (∃ (n : Int), SlIs [PV.int IntKind.i64 41] [PV.int IntKind.i64 n] ∧ ∃ (a_1 : List Int), ∃ (b_1 : List Int), List.length a_1 ≤ 40 ∧ SlIs [PV.list (en1 IntKind.u32 a) Tail.no, PV.list (en1 IntKind.u32 b) Tail.no, PV.bool false, PV.ptr 0 0, PV.int IntKind.i64 0] [PV.list (en1 IntKind.u32 a_1) Tail.no, PV.list (en1 IntKind.u32 b_1) Tail.no, PV.bool false, PV.ptr 0 0, PV.int IntKind.i64 0] ∧ HpIs [Ob.abs (rkB [] (mxI 0 n))] [Ob.abs (rkB [] 41)] ∧ ∀ (l : List RwB), Like l l 41 → List.length l ≤ 40 → ∃ (l_1 : List RwB), ∃ (b : List Int), List.length b ≤ 40 ∧ Like l_1 l_1 41 ∧ List.length l_1 ≤ 40 ∧ SlIs [PV.list (en1 IntKind.u32 b_1) Tail.no, PV.bool false, PV.ptr 0 0, PV.int IntKind.i64 0] [PV.list (en1 IntKind.u32 b) Tail.no, PV.bool false, PV.ptr 0 0, PV.int IntKind.i64 0] ∧ HpIs [Ob.abs (rkB l 41)] [Ob.abs (rkB l_1 41)] ∧ ∀ (l' : List RwB), Like l' l' 41 → List.length l' ≤ 40 → ∃ (q : Nat), ∃ (l : List RwB), ∃ (most : Int), SlIs [PV.ptr 0 0] [PV.ptr q 0] ∧ AbIs [Ob.abs (rkB l' 41)] q (rkB l most) ∧ Ok l most ∧ ∃ (l_2 : List RwB), Like l_2 l_2 41 ∧ SlIs [PV.bool false, PV.ptr 0 0, PV.int IntKind.u32 (freeL l most), PV.int IntKind.u32 1] [PV.bool false, PV.ptr 0 0, PV.int IntKind.u32 ((↑(gap l_2) : Int) + 1), PV.int IntKind.u32 1] ∧ HpIs [Ob.abs (rkB l' 41)] [Ob.abs (rkB l_2 41)] ∧ ∀ (_ : Int), ∃ (q : Nat), ∃ (l : List RwB), ∃ (most : Int), ∃ (t : Int), SlIs [PV.ptr 0 0, PV.int IntKind.u32 ((↑(gap l_2) : Int) + 1)] [PV.ptr q 0, PV.int IntKind.u32 t] ∧ AbIs [Ob.abs (rkB l_2 41)] q (rkB l most) ∧ Ok l most ∧ br (decide ((↑(gap l_2) : Int) + 1 ≥ 1) == true) (br (decide ((↑(gap l_2) : Int) + 1 ≤ 41) == true) (br ((!has l t) == true) (∃ (l : List RwB), ∃ (most : Int), ∃ (t : Int), ∃ (v : Int), SlIs [PV.int IntKind.u32 ((↑(gap l_2) : Int) + 1), PV.int IntKind.u8 2] [PV.int IntKind.u32 t, PV.int IntKind.u8 v] ∧ AbIs [Ob.abs (rkB l_2 41)] 0 (rkB l most) ∧ Ok l most ∧ br ((Prod.snd (addL l most t v) == 0) == true) (K (PV.bool true)) (K (PV.bool false))) (K (PV.bool false))) (K (PV.bool false))) (K (PV.bool false)))) (K (PV.bool true))) = wpc br Try.prog gl TF7 [([1, 1, 1, 0, 1, 0], fA_l), ([1, 1, 1, 1, 0, 1, 0], fB_l), ([1, 1, 1, 1, 1, 1, 0, 1, 0], fC_l)] (fun _ => 0) (bodyOf Try.f5) [] (env0 [.list (en1 .u32 a) .no, .list (en1 .u32 b) .no]) [] (resQ Try.prog Try.f5.results.toList (fun x _ => K x)) := by kernel_rfl
theorem free1_vc (a b : List Int)  (K : PV → Prop) (h : br (decide ((↑(List.length (en1 IntKind.u32 a)) : Int) > 40) == false) (br (decide ((↑(List.length (en1 IntKind.u32 b)) : Int) > 40)) (K (PV.bool true)) (∃ (n : Int), SlIs [PV.int IntKind.i64 41] [PV.int IntKind.i64 n] ∧ ∃ (a_1 : List Int), ∃ (b_1 : List Int), List.length a_1 ≤ 40 ∧ SlIs [PV.list (en1 IntKind.u32 a) Tail.no, PV.list (en1 IntKind.u32 b) Tail.no, PV.bool false, PV.ptr 0 0, PV.int IntKind.i64 0] [PV.list (en1 IntKind.u32 a_1) Tail.no, PV.list (en1 IntKind.u32 b_1) Tail.no, PV.bool false, PV.ptr 0 0, PV.int IntKind.i64 0] ∧ HpIs [Ob.abs (rkB [] (mxI 0 n))] [Ob.abs (rkB [] 41)] ∧ ∀ (l : List RwB), Like l l 41 → List.length l ≤ 40 → ∃ (l_1 : List RwB), ∃ (b : List Int), List.length b ≤ 40 ∧ Like l_1 l_1 41 ∧ List.length l_1 ≤ 40 ∧ SlIs [PV.list (en1 IntKind.u32 b_1) Tail.no, PV.bool false, PV.ptr 0 0, PV.int IntKind.i64 0] [PV.list (en1 IntKind.u32 b) Tail.no, PV.bool false, PV.ptr 0 0, PV.int IntKind.i64 0] ∧ HpIs [Ob.abs (rkB l 41)] [Ob.abs (rkB l_1 41)] ∧ ∀ (l' : List RwB), Like l' l' 41 → List.length l' ≤ 40 → ∃ (q : Nat), ∃ (l : List RwB), ∃ (most : Int), SlIs [PV.ptr 0 0] [PV.ptr q 0] ∧ AbIs [Ob.abs (rkB l' 41)] q (rkB l most) ∧ Ok l most ∧ ∃ (l_2 : List RwB), Like l_2 l_2 41 ∧ SlIs [PV.bool false, PV.ptr 0 0, PV.int IntKind.u32 (freeL l most), PV.int IntKind.u32 1] [PV.bool false, PV.ptr 0 0, PV.int IntKind.u32 ((↑(gap l_2) : Int) + 1), PV.int IntKind.u32 1] ∧ HpIs [Ob.abs (rkB l' 41)] [Ob.abs (rkB l_2 41)] ∧ ∀ (_ : Int), ∃ (q : Nat), ∃ (l : List RwB), ∃ (most : Int), ∃ (t : Int), SlIs [PV.ptr 0 0, PV.int IntKind.u32 ((↑(gap l_2) : Int) + 1)] [PV.ptr q 0, PV.int IntKind.u32 t] ∧ AbIs [Ob.abs (rkB l_2 41)] q (rkB l most) ∧ Ok l most ∧ br (decide ((↑(gap l_2) : Int) + 1 ≥ 1) == true) (br (decide ((↑(gap l_2) : Int) + 1 ≤ 41) == true) (br ((!has l t) == true) (∃ (l : List RwB), ∃ (most : Int), ∃ (t : Int), ∃ (v : Int), SlIs [PV.int IntKind.u32 ((↑(gap l_2) : Int) + 1), PV.int IntKind.u8 2] [PV.int IntKind.u32 t, PV.int IntKind.u8 v] ∧ AbIs [Ob.abs (rkB l_2 41)] 0 (rkB l most) ∧ Ok l most ∧ br ((Prod.snd (addL l most t v) == 0) == true) (K (PV.bool true)) (K (PV.bool false))) (K (PV.bool false))) (K (PV.bool false))) (K (PV.bool false)))) (K (PV.bool true))) : ACalls Try.prog gl 5 [.list (en1 .u32 a) .no, .list (en1 .u32 b) .no] [] (fun x _ => K x) :=
  acalls_of_wpc2 (T := TF7) (L := [([1, 1, 1, 0, 1, 0], fA_l), ([1, 1, 1, 1, 0, 1, 0], fB_l), ([1, 1, 1, 1, 1, 1, 0, 1, 0], fC_l)]) (fun _ => 0) Try.func5 (by kernel_rfl) (by kernel_rfl) (by kernel_rfl) (TF7_ok) (.cons (sub_of (by kernel_rfl)) fA_l_ok (.cons (sub_of (by kernel_rfl)) fB_l_ok (.cons (sub_of (by kernel_rfl)) fC_l_ok (.nil _ _ _ _ _)))) (holds_of_eq (free1_red a b K) h)
theorem free_ok (a b : List Int) : ACalls Try.prog gl 5 [.list (en1 .u32 a) .no, .list (en1 .u32 b) .no] [] (fun x _ => x = .bool true) := by
  refine free1_vc a b _ ?_
  simp only [br_if, bf, bt, en1_length]
  by_cases ca : a.length ≤ 40
  · rw [if_pos (by simp; omega)]
    by_cases cb : b.length ≤ 40
    · rw [if_neg (by simp; omega)]
      refine ⟨41, rfl, a, b, ca, rfl, rfl, fun l lk hl => ⟨l, b, cb, lk, hl, rfl, rfl, fun l' lk' hl' => ?_⟩⟩
      have hf : freeL l' 41 = (gap l' : Int) + 1 := by unfold freeL; rw [if_neg (by omega)]
      have hg := gap_le l'
      refine ⟨0, l', 41, rfl, rfl, lk'.ok, l', lk', by rw [hf]; rfl, rfl, fun _ => ?_⟩
      refine ⟨0, l', 41, _, rfl, rfl, lk'.ok, ?_⟩
      have hh : has l' ((gap l' : Int) + 1) = false := by rw [lk'.gapH (Nat.le_refl _)]; simp
      rw [if_pos (by simp; omega), if_pos (by simp; omega), if_pos (by rw [hh]; rfl)]
      refine ⟨l', 41, _, 2, rfl, rfl, lk'.ok, ?_⟩
      have ha : (addL l' 41 ((gap l' : Int) + 1) 2).2 = 0 := by
        unfold addL putL
        rw [if_neg (by rw [hh]; decide), if_pos (by unfold rightS; exact decide_eq_true (by omega)), if_neg (by rw [hh]; decide), if_neg (by omega)]
      rw [if_pos (by rw [ha]; rfl)]
      trivial
    · rw [if_pos (by simp; omega)]
      trivial
  · rw [if_neg (by simp; omega)]
    trivial
theorem free_in {P : Program} (u25 : P.underlying 25 = some (.int .u32)) (u22 : P.underlying 22 = some (.slice 25)) {xs : List PV} (h : WTargs P 6 [22, 22] xs) : ∃ (a b : List Int), xs = [.list (en1 .u32 a) .no, .list (en1 .u32 b) .no] := by
  obtain ⟨x, r, rfl, h1, y, r2, rfl, h2, h3⟩ := h
  obtain rfl := wtargs_nil h3
  obtain ⟨a, rfl, _⟩ := wta_ints u22 u25 h1
  obtain ⟨b, rfl, _⟩ := wta_ints u22 u25 h2
  exact ⟨a, b, rfl⟩
theorem u22' : Try.prog.underlying 22 = some (.slice 25) := by kernel_rfl
theorem free_args (xs : List PV) (h : WTargs Try.prog 6 Try.f5.params.toList xs) : ACalls Try.prog gl 5 xs [] (fun x _ => x = .bool true) := by
  rw [Try.params5] at h
  obtain ⟨a, b, rfl⟩ := free_in u25 u22' h
  exact free_ok a b
end Go.Proofs.Ytcmknbanojcbaaa
