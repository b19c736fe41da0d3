/-
  The rack of texts: its methods, amid other objects.
-/
import Derived.Test.YtcmknbanojcbaaaKs
import Derived.Test.YtcmknbanojcbaaaProg
namespace Go.Proofs.Ytcmknbanojcbaaa
open Go Go.AM Go.Proofs
theorem newS_red (n : Int) (K : PV → Heap → Prop) : (K (PV.ptr 0 0) [Ob.cells [PV.list [] Tail.exact, PV.int IntKind.i64 (mxI 0 n)]]) = wpc br Try.prog gl [] [] (fun _ => 0) (bodyOf Try.f11) [] (env0 [.int .i64 n]) [] (resQ Try.prog Try.f11.results.toList K) := by kernel_rfl
theorem newS_vc (n : Int)  (K : PV → Heap → Prop) (h : K (PV.ptr 0 0) [Ob.cells [PV.list [] Tail.exact, PV.int IntKind.i64 (mxI 0 n)]]) : ACalls Try.prog gl 11 [.int .i64 n] [] K :=
  acalls_of_wpc2 (T := []) (L := []) (fun _ => 0) Try.func11 (by kernel_rfl) (by kernel_rfl) (by kernel_rfl) (TabOk.nil _ _) (LOk.nil _ _ _ _ _) (holds_of_eq (newS_red n K) h)
theorem idsAS_red (l : List RwS) (J : List PV) (cap : Nat) (most : Int) (R : Ex → List PV → Heap → Prop) : (br (decide (0 < (↑(List.length l) : Int))) ((iI 0 ≤ 0 ∧ 0 < (↑(List.length l) : Int)) ∧ br (true && fitX [CK.int IntKind.u32, CK.str] 0 (List.drop 0 (flS l ++ J))) (AppL [] [[PV.int IntKind.u32 (cI (List.drop 0 (flS l ++ J)) 0)]] 1 4 ∧ (List.all [PV.int IntKind.u32 (cI (List.drop 0 (flS l ++ J)) 0)] PV.one = true ∧ [[PV.int IntKind.u32 (cI (List.drop 0 (flS l ++ J)) 0)]] ≠ []) ∧ R Ex.normal [PV.ptr 0 0, PV.list [[PV.int IntKind.u32 (cI (List.drop 0 (flS l ++ J)) 0)]] (Tail.tok 3), PV.arr 1 0 (List.length l) cap, PV.int IntKind.i64 (↑(List.length l) : Int), PV.int IntKind.i64 1] [Ob.cells [PV.arr 1 0 (List.length l) cap, PV.int IntKind.i64 most], Ob.cells (flS l ++ J), Ob.cells [PV.int IntKind.u32 (cI (List.drop 0 (flS l ++ J)) 0), PV.str (cS (List.drop 0 (flS l ++ J)) 1)], Ob.tok]) False) (R (Ex.exit 0) [PV.ptr 0 0, PV.list [] Tail.exact, PV.arr 1 0 (List.length l) cap, PV.int IntKind.i64 (↑(List.length l) : Int), PV.int IntKind.i64 0] [Ob.cells [PV.arr 1 0 (List.length l) cap, PV.int IntKind.i64 most], Ob.cells (flS l ++ J)])) = wpc br Try.prog gl [] [] (fun o => match o.op with | .load t _ => (match t with | 103 => 1 | _ => 0) | _ => match o.dst with | some 21 => 1 | _ => 0) (subOf [1, 1, 0, 1, 0, 1, 0] (bodyOf Try.f13)) [] (envS [0, 3, 11, 12, 13] [.ptr 0 0, .list [] .exact, .arr 1 0 l.length cap, .int .i64 l.length, .int .i64 0]) [.cells [.arr 1 0 l.length cap, .int .i64 most], .cells (flS l ++ J)] (fun ex e H => R ex (List.map e [0, 3, 11, 12, 13]) H) := by kernel_rfl
theorem idsAS_vc (l : List RwS) (J : List PV) (cap : Nat) (most : Int) (R : Ex → List PV → Heap → Prop) (h : br (decide (0 < (↑(List.length l) : Int))) ((iI 0 ≤ 0 ∧ 0 < (↑(List.length l) : Int)) ∧ br (true && fitX [CK.int IntKind.u32, CK.str] 0 (List.drop 0 (flS l ++ J))) (AppL [] [[PV.int IntKind.u32 (cI (List.drop 0 (flS l ++ J)) 0)]] 1 4 ∧ (List.all [PV.int IntKind.u32 (cI (List.drop 0 (flS l ++ J)) 0)] PV.one = true ∧ [[PV.int IntKind.u32 (cI (List.drop 0 (flS l ++ J)) 0)]] ≠ []) ∧ R Ex.normal [PV.ptr 0 0, PV.list [[PV.int IntKind.u32 (cI (List.drop 0 (flS l ++ J)) 0)]] (Tail.tok 3), PV.arr 1 0 (List.length l) cap, PV.int IntKind.i64 (↑(List.length l) : Int), PV.int IntKind.i64 1] [Ob.cells [PV.arr 1 0 (List.length l) cap, PV.int IntKind.i64 most], Ob.cells (flS l ++ J), Ob.cells [PV.int IntKind.u32 (cI (List.drop 0 (flS l ++ J)) 0), PV.str (cS (List.drop 0 (flS l ++ J)) 1)], Ob.tok]) False) (R (Ex.exit 0) [PV.ptr 0 0, PV.list [] Tail.exact, PV.arr 1 0 (List.length l) cap, PV.int IntKind.i64 (↑(List.length l) : Int), PV.int IntKind.i64 0] [Ob.cells [PV.arr 1 0 (List.length l) cap, PV.int IntKind.i64 most], Ob.cells (flS l ++ J)])) : Holds (wpc br Try.prog gl [] [] (fun o => match o.op with | .load t _ => (match t with | 103 => 1 | _ => 0) | _ => match o.dst with | some 21 => 1 | _ => 0) (subOf [1, 1, 0, 1, 0, 1, 0] (bodyOf Try.f13)) [] (envS [0, 3, 11, 12, 13] [.ptr 0 0, .list [] .exact, .arr 1 0 l.length cap, .int .i64 l.length, .int .i64 0]) [.cells [.arr 1 0 l.length cap, .int .i64 most], .cells (flS l ++ J)] (fun ex e H => R ex (List.map e [0, 3, 11, 12, 13]) H)) := holds_of_eq (idsAS_red l J cap most R) h
theorem idsBS_red (l : List RwS) (J : List PV) (cap : Nat) (most : Int) (es : List (List PV)) (i : Nat) (R : Ex → List PV → Heap → Prop) : (br (decide ((↑i : Int) < (↑(List.length l) : Int))) ((0 ≤ (↑i : Int) ∧ (↑i : Int) < (↑(List.length l) : Int)) ∧ br (true && fitX [CK.int IntKind.u32, CK.str] 0 (List.drop (0 + Int.toNat (↑i : Int) * 2) (flS l ++ J))) (AppL es [[PV.int IntKind.u32 (cI (List.drop (0 + Int.toNat (↑i : Int) * 2) (flS l ++ J)) 0)]] 1 4 ∧ (List.all [PV.int IntKind.u32 (cI (List.drop (0 + Int.toNat (↑i : Int) * 2) (flS l ++ J)) 0)] PV.one = true ∧ [[PV.int IntKind.u32 (cI (List.drop (0 + Int.toNat (↑i : Int) * 2) (flS l ++ J)) 0)]] ≠ []) ∧ R Ex.normal [PV.ptr 0 0, PV.list (es ++ [[PV.int IntKind.u32 (cI (List.drop (0 + Int.toNat (↑i : Int) * 2) (flS l ++ J)) 0)]]) (Tail.tok 4), PV.arr 1 0 (List.length l) cap, PV.int IntKind.i64 (↑(List.length l) : Int), PV.int IntKind.i64 (wI ((↑i : Int) + 1))] [Ob.cells [PV.arr 1 0 (List.length l) cap, PV.int IntKind.i64 most], Ob.cells (flS l ++ J), Ob.dead, Ob.cells [PV.int IntKind.u32 (cI (List.drop (0 + Int.toNat (↑i : Int) * 2) (flS l ++ J)) 0), PV.str (cS (List.drop (0 + Int.toNat (↑i : Int) * 2) (flS l ++ J)) 1)], Ob.tok]) False) (R (Ex.exit 0) [PV.ptr 0 0, PV.list es (Tail.tok 2), PV.arr 1 0 (List.length l) cap, PV.int IntKind.i64 (↑(List.length l) : Int), PV.int IntKind.i64 (↑i : Int)] [Ob.cells [PV.arr 1 0 (List.length l) cap, PV.int IntKind.i64 most], Ob.cells (flS l ++ J), Ob.tok])) = wpc br Try.prog gl [] [] (fun o => match o.op with | .load t _ => (match t with | 103 => 1 | _ => 0) | _ => match o.dst with | some 21 => 1 | _ => 0) (subOf [1, 1, 0, 1, 0, 1, 0] (bodyOf Try.f13)) [] (envS [0, 3, 11, 12, 13] [.ptr 0 0, .list es (.tok 2), .arr 1 0 l.length cap, .int .i64 l.length, .int .i64 i]) [.cells [.arr 1 0 l.length cap, .int .i64 most], .cells (flS l ++ J), .tok] (fun ex e H => R ex (List.map e [0, 3, 11, 12, 13]) H) := by kernel_rfl
theorem idsBS_vc (l : List RwS) (J : List PV) (cap : Nat) (most : Int) (es : List (List PV)) (i : Nat) (R : Ex → List PV → Heap → Prop) (h : br (decide ((↑i : Int) < (↑(List.length l) : Int))) ((0 ≤ (↑i : Int) ∧ (↑i : Int) < (↑(List.length l) : Int)) ∧ br (true && fitX [CK.int IntKind.u32, CK.str] 0 (List.drop (0 + Int.toNat (↑i : Int) * 2) (flS l ++ J))) (AppL es [[PV.int IntKind.u32 (cI (List.drop (0 + Int.toNat (↑i : Int) * 2) (flS l ++ J)) 0)]] 1 4 ∧ (List.all [PV.int IntKind.u32 (cI (List.drop (0 + Int.toNat (↑i : Int) * 2) (flS l ++ J)) 0)] PV.one = true ∧ [[PV.int IntKind.u32 (cI (List.drop (0 + Int.toNat (↑i : Int) * 2) (flS l ++ J)) 0)]] ≠ []) ∧ R Ex.normal [PV.ptr 0 0, PV.list (es ++ [[PV.int IntKind.u32 (cI (List.drop (0 + Int.toNat (↑i : Int) * 2) (flS l ++ J)) 0)]]) (Tail.tok 4), PV.arr 1 0 (List.length l) cap, PV.int IntKind.i64 (↑(List.length l) : Int), PV.int IntKind.i64 (wI ((↑i : Int) + 1))] [Ob.cells [PV.arr 1 0 (List.length l) cap, PV.int IntKind.i64 most], Ob.cells (flS l ++ J), Ob.dead, Ob.cells [PV.int IntKind.u32 (cI (List.drop (0 + Int.toNat (↑i : Int) * 2) (flS l ++ J)) 0), PV.str (cS (List.drop (0 + Int.toNat (↑i : Int) * 2) (flS l ++ J)) 1)], Ob.tok]) False) (R (Ex.exit 0) [PV.ptr 0 0, PV.list es (Tail.tok 2), PV.arr 1 0 (List.length l) cap, PV.int IntKind.i64 (↑(List.length l) : Int), PV.int IntKind.i64 (↑i : Int)] [Ob.cells [PV.arr 1 0 (List.length l) cap, PV.int IntKind.i64 most], Ob.cells (flS l ++ J), Ob.tok])) : Holds (wpc br Try.prog gl [] [] (fun o => match o.op with | .load t _ => (match t with | 103 => 1 | _ => 0) | _ => match o.dst with | some 21 => 1 | _ => 0) (subOf [1, 1, 0, 1, 0, 1, 0] (bodyOf Try.f13)) [] (envS [0, 3, 11, 12, 13] [.ptr 0 0, .list es (.tok 2), .arr 1 0 l.length cap, .int .i64 l.length, .int .i64 i]) [.cells [.arr 1 0 l.length cap, .int .i64 most], .cells (flS l ++ J), .tok] (fun ex e H => R ex (List.map e [0, 3, 11, 12, 13]) H)) := holds_of_eq (idsBS_red l J cap most es i R) h
theorem idsNS_red (most : Int) (R : Ex → List PV → Heap → Prop) : (R (Ex.exit 0) [PV.ptr 0 0, PV.list [] Tail.exact, PV.list [] Tail.exact, PV.int IntKind.i64 0, PV.int IntKind.i64 0] [Ob.cells [PV.list [] Tail.exact, PV.int IntKind.i64 most]]) = wpc br Try.prog gl [] [] (fun o => match o.op with | .load t _ => (match t with | 103 => 1 | _ => 0) | _ => 0) (subOf [1, 1, 0, 1, 0, 1, 0] (bodyOf Try.f13)) [] (envS [0, 3, 11, 12, 13] [.ptr 0 0, .list [] .exact, .list [] .exact, .int .i64 0, .int .i64 0]) [.cells [.list [] .exact, .int .i64 most]] (fun ex e H => R ex (List.map e [0, 3, 11, 12, 13]) H) := by kernel_rfl
theorem idsNS_vc (most : Int) (R : Ex → List PV → Heap → Prop) (h : R (Ex.exit 0) [PV.ptr 0 0, PV.list [] Tail.exact, PV.list [] Tail.exact, PV.int IntKind.i64 0, PV.int IntKind.i64 0] [Ob.cells [PV.list [] Tail.exact, PV.int IntKind.i64 most]]) : Holds (wpc br Try.prog gl [] [] (fun o => match o.op with | .load t _ => (match t with | 103 => 1 | _ => 0) | _ => 0) (subOf [1, 1, 0, 1, 0, 1, 0] (bodyOf Try.f13)) [] (envS [0, 3, 11, 12, 13] [.ptr 0 0, .list [] .exact, .list [] .exact, .int .i64 0, .int .i64 0]) [.cells [.list [] .exact, .int .i64 most]] (fun ex e H => R ex (List.map e [0, 3, 11, 12, 13]) H)) := holds_of_eq (idsNS_red most R) h
theorem uniS (l : List RwS) : uni 1 (idsL l) := by
  intro e he
  obtain ⟨a, _, rfl⟩ := List.mem_map.1 he
  rfl
theorem idsS_take {l : List RwS} {i : Nat} (h : i < l.length) : idsL (l.take (i + 1)) = idsL (l.take i) ++ [[.int .u32 (l.getD i default).id]] := by
  unfold idsL
  rw [← List.take_append_getElem h, List.map_append, getD_eq' h]; rfl
def idsS_l : LSp := fun e H Q => ∃ (l : List RwS) (J : List PV) (cap : Nat) (most : Int), l.length ≤ 1000000 ∧ (∀ y ∈ J, Low 2 y) ∧ SlIs (List.map e [0, 3, 11, 12, 13]) [.ptr 0 0, .list [] .exact, .arr 1 0 l.length cap, .int .i64 l.length, .int .i64 0] ∧ HpIs H (hpAS l J cap most) ∧
  Q (.exit 0) (envS [0, 3, 11, 12, 13] [.ptr 0 0, .list (idsL l) .no, .arr 1 0 l.length cap, .int .i64 l.length, .int .i64 l.length]) (hpAS l J cap most ++ [.dead])
theorem idsS_l_ok : ∀ e H Q, idsS_l e H Q → AW Try.prog gl Try.f13.ntmps (.loop (subOf [1, 1, 0, 1, 0, 1, 0] (bodyOf Try.f13))) Q e H := by
  rintro e H Q ⟨l, J, cap, most, hl, hJ, he, hH, hQ⟩
  have hH2 : H = hpAS l J cap most := hH
  refine aw_grow (f := fun r : RwS => [PV.int .u32 r.id]) (T := l) (hn := fun o => match o.op with | .load t _ => (match t with | 103 => 1 | _ => 0) | _ => match o.dst with | some 21 => 1 | _ => 0) gl_low (.nil _ _) (.nil _ _ _ _ _) [0, 3, 11, 12, 13] (fun r i => [.ptr 0 0, r, .arr 1 0 l.length cap, .int .i64 l.length, .int .i64 i]) (hpAS l J cap most)
    (hpAS_low hJ) (fun b _ x hx => by rcases List.mem_singleton.1 hx with rfl; exact .int _ _)
    (fun es i k h => .same (.ptr _ _ (by simp [hpAS])) (.row h (.same (.arr _ _ _ _ (by simp [hpAS])) (.same (.int _ _) (.same (.int _ _) .nil))))) he hH2 ?_ ?_
  · refine idsAS_vc l J cap most _ ?_
    simp only [br_if, dt]
    by_cases h : 0 < l.length
    · rw [if_pos (by omega)]
      refine ⟨⟨by decide, by omega⟩, ?_⟩
      have e0 := flS_at J h
      rw [Nat.zero_mul] at e0
      rw [e0, if_pos (by rfl)]
      refine ⟨⟨(by intro e he; simp at he), (by intro e he; simp at he; subst he; rfl), by simp⟩, ⟨by rfl, by simp⟩, h, _, 3, rfl, rfl, by simp [hpAS], ?_⟩
      have := idsS_take h
      unfold idsL at this
      rw [this]; rfl
    · rw [if_neg (by omega)]
      have hm : l = [] := List.eq_nil_of_length_eq_zero (by omega)
      subst hm
      exact ⟨_, _, .cons (.refl _) (.cons (.list _ _) (.cons (.refl _) (.cons (.refl _) (.cons (.refl _) .nil)))), pad_dead _, hQ⟩
  · intro i h0 hi
    refine idsBS_vc l J cap most (idsL (l.take i)) i _ ?_
    simp only [br_if, dt, toNat_nat, Nat.zero_add]
    by_cases h : i < l.length
    · rw [if_pos (by omega)]
      refine ⟨⟨by omega, by omega⟩, ?_⟩
      rw [flS_at J h, if_pos (by rfl)]
      refine ⟨⟨uniS _, (by intro e he; simp at he; subst he; rfl), by simp only [idsL, List.length_map, List.length_take, List.length_cons, List.length_nil]; omega⟩, ⟨by rfl, by simp⟩, h, _, 4, rfl, rfl, by simp [hpAS], ?_⟩
      have := idsS_take h
      unfold idsL at this
      rw [this, wI_succ h (by omega)]; rfl
    · rw [if_neg (by omega)]
      have hm : i = l.length := by omega
      subst hm
      rw [List.take_length]
      exact ⟨_, _, .cons (.refl _) (.cons (.list _ _) (.cons (.refl _) (.cons (.refl _) (.cons (.refl _) .nil)))), pad_kill (hpAS l J cap most) .tok, hQ⟩
def idnS_l : LSp := fun e H Q => ∃ (most : Int), SlIs (List.map e [0, 3, 11, 12, 13]) [.ptr 0 0, .list [] .exact, .list [] .exact, .int .i64 0, .int .i64 0] ∧ HpIs H (hpNS most) ∧
  Q (.exit 0) (envS [0, 3, 11, 12, 13] [.ptr 0 0, .list [] .exact, .list [] .exact, .int .i64 0, .int .i64 0]) (hpNS most)
theorem idnS_l_ok : ∀ e H Q, idnS_l e H Q → AW Try.prog gl Try.f13.ntmps (.loop (subOf [1, 1, 0, 1, 0, 1, 0] (bodyOf Try.f13))) Q e H := by
  rintro e H Q ⟨most, he, hH, hQ⟩
  refine aw_loop4 (hn := fun o => match o.op with | .load t _ => (match t with | 103 => 1 | _ => 0) | _ => 0) gl_low (.nil _ _) (.nil _ _ _ _ _) (σ := Unit) [0, 3, 11, 12, 13] (fun _ => True)
    (fun _ => [.ptr 0 0, .list [] .exact, .list [] .exact, .int .i64 0, .int .i64 0]) (fun _ => hpNS most) (fun _ => 0) () trivial he hH ?_
  intro _ _
  exact idsNS_vc most _ hQ
theorem ideAS_red (l : List RwS) (J : List PV) (cap : Nat) (most : Int) (K : PV → Heap → Prop) : (∃ (l_1 : List RwS), ∃ (J_1 : List PV), ∃ (cap_1 : Nat), ∃ (most_1 : Int), List.length l_1 ≤ 1000000 ∧ (∀ (y : PV), y ∈ J_1 → Low 2 y) ∧ SlIs [PV.ptr 0 0, PV.list [] Tail.exact, PV.arr 1 0 (List.length l) cap, PV.int IntKind.i64 (↑(List.length l) : Int), PV.int IntKind.i64 0] [PV.ptr 0 0, PV.list [] Tail.exact, PV.arr 1 0 (List.length l_1) cap_1, PV.int IntKind.i64 (↑(List.length l_1) : Int), PV.int IntKind.i64 0] ∧ HpIs [Ob.cells [PV.arr 1 0 (List.length l) cap, PV.int IntKind.i64 most], Ob.cells (flS l ++ J)] [Ob.cells [PV.arr 1 0 (List.length l_1) cap_1, PV.int IntKind.i64 most_1], Ob.cells (flS l_1 ++ J_1)] ∧ K (PV.list (idsL l_1) Tail.no) [Ob.cells [PV.arr 1 0 (List.length l_1) cap_1, PV.int IntKind.i64 most_1], Ob.cells (flS l_1 ++ J_1), Ob.dead]) = wpc br Try.prog gl [] [([1, 1, 0, 1, 0, 1, 0], idsS_l)] (fun o => match o.op with | .load t _ => (match t with | 103 => 1 | _ => 0) | _ => 0) (bodyOf Try.f13) [] (env0 [.ptr 0 0]) [.cells [.arr 1 0 l.length cap, .int .i64 most], .cells (flS l ++ J)] (resQ Try.prog Try.f13.results.toList K) := by kernel_rfl
theorem ideAS_vc (l : List RwS) (J : List PV) (cap : Nat) (most : Int)  (K : PV → Heap → Prop) (h : ∃ (l_1 : List RwS), ∃ (J_1 : List PV), ∃ (cap_1 : Nat), ∃ (most_1 : Int), List.length l_1 ≤ 1000000 ∧ (∀ (y : PV), y ∈ J_1 → Low 2 y) ∧ SlIs [PV.ptr 0 0, PV.list [] Tail.exact, PV.arr 1 0 (List.length l) cap, PV.int IntKind.i64 (↑(List.length l) : Int), PV.int IntKind.i64 0] [PV.ptr 0 0, PV.list [] Tail.exact, PV.arr 1 0 (List.length l_1) cap_1, PV.int IntKind.i64 (↑(List.length l_1) : Int), PV.int IntKind.i64 0] ∧ HpIs [Ob.cells [PV.arr 1 0 (List.length l) cap, PV.int IntKind.i64 most], Ob.cells (flS l ++ J)] [Ob.cells [PV.arr 1 0 (List.length l_1) cap_1, PV.int IntKind.i64 most_1], Ob.cells (flS l_1 ++ J_1)] ∧ K (PV.list (idsL l_1) Tail.no) [Ob.cells [PV.arr 1 0 (List.length l_1) cap_1, PV.int IntKind.i64 most_1], Ob.cells (flS l_1 ++ J_1), Ob.dead]) : ACalls Try.prog gl 13 [.ptr 0 0] [.cells [.arr 1 0 l.length cap, .int .i64 most], .cells (flS l ++ J)] K :=
  acalls_of_wpc2 (T := []) (L := [([1, 1, 0, 1, 0, 1, 0], idsS_l)]) (fun o => match o.op with | .load t _ => (match t with | 103 => 1 | _ => 0) | _ => 0) Try.func13 (by kernel_rfl) (by kernel_rfl) (by kernel_rfl) (TabOk.nil _ _) (.cons (sub_of (by kernel_rfl)) idsS_l_ok (.nil _ _ _ _ _)) (holds_of_eq (ideAS_red l J cap most K) h)
theorem ideNS_red (most : Int) (K : PV → Heap → Prop) : (∃ (most_1 : Int), SlIs [PV.ptr 0 0, PV.list [] Tail.exact, PV.list [] Tail.exact, PV.int IntKind.i64 0, PV.int IntKind.i64 0] [PV.ptr 0 0, PV.list [] Tail.exact, PV.list [] Tail.exact, PV.int IntKind.i64 0, PV.int IntKind.i64 0] ∧ HpIs [Ob.cells [PV.list [] Tail.exact, PV.int IntKind.i64 most]] [Ob.cells [PV.list [] Tail.exact, PV.int IntKind.i64 most_1]] ∧ K (PV.list [] Tail.exact) [Ob.cells [PV.list [] Tail.exact, PV.int IntKind.i64 most_1]]) = wpc br Try.prog gl [] [([1, 1, 0, 1, 0, 1, 0], idnS_l)] (fun o => match o.op with | .load t _ => (match t with | 103 => 1 | _ => 0) | _ => 0) (bodyOf Try.f13) [] (env0 [.ptr 0 0]) [.cells [.list [] .exact, .int .i64 most]] (resQ Try.prog Try.f13.results.toList K) := by kernel_rfl
theorem ideNS_vc (most : Int)  (K : PV → Heap → Prop) (h : ∃ (most_1 : Int), SlIs [PV.ptr 0 0, PV.list [] Tail.exact, PV.list [] Tail.exact, PV.int IntKind.i64 0, PV.int IntKind.i64 0] [PV.ptr 0 0, PV.list [] Tail.exact, PV.list [] Tail.exact, PV.int IntKind.i64 0, PV.int IntKind.i64 0] ∧ HpIs [Ob.cells [PV.list [] Tail.exact, PV.int IntKind.i64 most]] [Ob.cells [PV.list [] Tail.exact, PV.int IntKind.i64 most_1]] ∧ K (PV.list [] Tail.exact) [Ob.cells [PV.list [] Tail.exact, PV.int IntKind.i64 most_1]]) : ACalls Try.prog gl 13 [.ptr 0 0] [.cells [.list [] .exact, .int .i64 most]] K :=
  acalls_of_wpc2 (T := []) (L := [([1, 1, 0, 1, 0, 1, 0], idnS_l)]) (fun o => match o.op with | .load t _ => (match t with | 103 => 1 | _ => 0) | _ => 0) Try.func13 (by kernel_rfl) (by kernel_rfl) (by kernel_rfl) (TabOk.nil _ _) (.cons (sub_of (by kernel_rfl)) idnS_l_ok (.nil _ _ _ _ _)) (holds_of_eq (ideNS_red most K) h)
theorem idsES {l : List RwS} {most : Int} {hh : Heap} (hH : EXS l most hh) (ok : Ok l most) : ACalls Try.prog gl 13 [.ptr 0 0] hh (fun x H' => x = .list (idsL l) .no ∧ RestOf (EXS l most) H') := by
  rcases hH with ⟨J, cap, rfl, hc, hJ⟩ | ⟨rfl, rfl⟩
  · exact ideAS_vc l J cap most _ ⟨l, J, cap, most, ok.len, low2 hJ, rfl, rfl, rfl, left_AS (k := 0) rfl hc hJ⟩
  · exact acalls_wkout (ideNS_vc most _ ⟨most, rfl, rfl, _, _, .list _ _, .refl _, rfl, left_NS⟩)
-- amid other objects
theorem lowvS (v : ByteArray) : Low 0 (.str v) := by first | exact .int _ _ | exact .str _ | (refine .agg _ ?_; intro y hy; simp only [List.mem_cons, List.not_mem_nil, or_false] at hy; rcases hy with rfl <;> first | exact .int _ _ | exact .str _)
theorem low_tupvS (v : ByteArray) (b : Bool) : Low 0 (.tup [.str v, .bool b]) := .tup _ (by intro y hy; simp only [List.mem_cons, List.not_mem_nil, or_false] at hy; rcases hy with rfl | rfl; exact lowvS v; exact .bool _)
def getS_s (args : List PV) (H : Heap) (K : PV → Prop) : Prop := ∃ (q : Nat) (l : List RwS) (most t : Int), SlIs args [.ptr q 0, .int .u32 t] ∧ AbIs H q (rkS l most) ∧ Ok l most ∧ K (.tup [(let v := getR l t; .str v), .bool (has l t)])
theorem getS_ok : SpOk Try.prog gl 15 (.read getS_s) := by
  rintro args H K ⟨q, l, most, t, he, ha, ok, hk⟩
  have he : args = _ := he
  subst he
  refine ⟨_, meth_read gl_low ha low0_int (low_tupvS _ _) (fun hh h => ?_), hk⟩
  obtain ⟨r, h1, h2⟩ := geES_ok _ hh (fun x => x = .tup [(let v := getR l t; .str v), .bool (has l t)]) ⟨l, most, t, rfl, h, ok, rfl⟩
  exact acalls_to h1 fun x H' e => ⟨e.1.trans h2, e.2 ▸ left_EXS h⟩
def putS_s (args : List PV) (H : Heap) (K : PV → Heap → Prop) : Prop := match args with
  | .ptr q 0 :: rest => ∃ (l : List RwS) (most t : Int) (v : ByteArray), SlIs rest [.int .u32 t, .str v] ∧ AbIs H q (rkS l most) ∧ Ok l most ∧ K (.int .i64 (putL l most t v).2) (H.set q (.abs (rkS (putL l most t v).1 most)))
  | _ => False
theorem putS_ok : SpOk Try.prog gl 12 (.heap putS_s) := by
  intro args H K h
  unfold putS_s at h
  split at h
  · rename_i q rest
    obtain ⟨l, most, t, v, he, ha, ok, hk⟩ := h
    have he : rest = _ := he
    subst he
    refine meth_heap gl_low ha (by intro y hy; simp only [List.mem_cons, List.not_mem_nil, or_false] at hy; rcases hy with rfl | rfl; exact .int _ _; exact lowvS v) (.int _ _) (fun hh h => ?_) hk
    exact puES_ok _ hh _ ⟨l, most, t, v, rfl, h, ok, fun H' h' => ⟨rfl, h'⟩⟩
  · exact h.elim
def newS_s (args : List PV) (H : Heap) (K : PV → Heap → Prop) : Prop := ∃ n : Int, SlIs args [.int .i64 n] ∧ K (.ptr H.length 0) (H ++ [.abs (rkS [] (mxI 0 n))])
theorem newS_ok : SpOk Try.prog gl 11 (.heap newS_s) := by
  rintro args H K ⟨n, he, hk⟩
  have he : args = _ := he
  subst he
  exact acalls_to (make_left gl_low low0_int (newS_vc n _ ⟨rfl, left_NS⟩)) fun _ _ e => e.1 ▸ e.2 ▸ hk
def idsS_s (args : List PV) (H : Heap) (K : PV → Prop) : Prop := ∃ (q : Nat) (l : List RwS) (most : Int), SlIs args [.ptr q 0] ∧ AbIs H q (rkS l most) ∧ Ok l most ∧ K (.list (idsL l) .no)
theorem low_idsS (l : List RwS) : Low 0 (.list (idsL l) .no) := low_list NT.no (by
  intro x hx
  obtain ⟨c, h1, h2⟩ := List.mem_flatten.1 hx
  obtain ⟨r, _, rfl⟩ := List.mem_map.1 h1
  rcases List.mem_singleton.1 h2 with rfl
  exact .int _ _)
theorem idsS_ok : SpOk Try.prog gl 13 (.read idsS_s) := by
  rintro args H K ⟨q, l, most, he, ha, ok, hk⟩
  have he : args = _ := he
  subst he
  exact ⟨_, meth_read gl_low ha low0_nil (low_idsS l) (fun hh h => idsES h ok), hk⟩
/-- all methods of a rack, ahead of others -/
def TMS (T : Tab) : Tab := (15, .read getS_s) :: (12, .heap putS_s) :: (13, .read idsS_s) :: (11, .heap newS_s) :: T
theorem TMS_ok {T : Tab} (h : TabOk Try.prog gl T) : TabOk Try.prog gl (TMS T) := (.cons getS_ok (.cons putS_ok (.cons idsS_ok (.cons newS_ok h))))
end Go.Proofs.Ytcmknbanojcbaaa
