/-
  QueueOne: layer 7's reference, loops.
-/
import Derived.Test.YtcmknbanojcbaaaUm
import Derived.Test.YtcmknbanojcbaaaProg
namespace Go.Proofs.Ytcmknbanojcbaaa
open Go Go.AM Go.Proofs
abbrev RwI := Rw Int
def csI (r : RwI) : List PV := [.int .u32 r.id, .int .i64 r.v]
theorem csI_len (r : RwI) : (csI r).length = 2 := rfl
theorem low_csI {n : Nat} (r : RwI) : ∀ y ∈ csI r, Low n y := low_two (.int _ _) (.int _ _)
theorem q7find_vc (w : List RwI) (m : Int) (t : Int) (i : Nat) (R : Ex → List PV → Heap → Prop) (h : br (decide ((↑i : Int) < (↑(List.length (List.map csI w)) : Int))) (InL (List.map csI w) 2 (↑i : Int) ∧ br (true && fitX [CK.int IntKind.u32] 0 (List.drop 0 (List.getD (List.map csI w) (Int.toNat (↑i : Int)) []))) (br (cI (List.drop 0 (List.getD (List.map csI w) (Int.toNat (↑i : Int)) [])) 0 == t) (R Ex.ret [PV.int IntKind.u32 t, PV.ptr 0 0, PV.int IntKind.i64 (↑i : Int), PV.int IntKind.i64 (↑i : Int)] [Ob.cells [PV.list (List.map csI w) Tail.no, PV.int IntKind.i64 m]]) (R Ex.normal [PV.int IntKind.u32 t, PV.ptr 0 0, PV.int IntKind.i64 0, PV.int IntKind.i64 (wI ((↑i : Int) + 1))] [Ob.cells [PV.list (List.map csI w) Tail.no, PV.int IntKind.i64 m]])) False) (R (Ex.exit 0) [PV.int IntKind.u32 t, PV.ptr 0 0, PV.int IntKind.i64 0, PV.int IntKind.i64 (↑i : Int)] [Ob.cells [PV.list (List.map csI w) Tail.no, PV.int IntKind.i64 m]])) : Holds (wpc br Try.prog gl [] [] (fun _ => 0) (subOf [1, 0, 1, 0] (bodyOf Try.f64)) [] (envS [1, 2, 4, 5] [.int .u32 t, .ptr 0 0, .int .i64 0, .int .i64 i]) [.cells [.list (w.map csI) .no, .int .i64 m]] (fun ex e H => R ex (List.map e [1, 2, 4, 5]) H)) := holds_of_eq (by kernel_rfl) h
theorem q7rdrA_vc (w : List RwI) (m : Int) (t : Int) (i : Nat) (R : Ex → List PV → Heap → Prop) (h : br (decide ((↑i : Int) < (↑(List.length (List.map csI w)) : Int))) (InL (List.map csI w) 2 (↑i : Int) ∧ br (true && fitX [CK.int IntKind.u32] 0 (List.drop 0 (List.getD (List.map csI w) (Int.toNat (↑i : Int)) []))) (br (cI (List.drop 0 (List.getD (List.map csI w) (Int.toNat (↑i : Int)) [])) 0 != t) (InL (List.map csI w) 2 (↑i : Int) ∧ br (true && fitX [CK.int IntKind.u32, CK.int IntKind.i64] 0 (List.getD (List.map csI w) (Int.toNat (↑i : Int)) [])) (AppL [] [[PV.int IntKind.u32 (cI (List.getD (List.map csI w) (Int.toNat (↑i : Int)) []) 0), PV.int IntKind.i64 (cI (List.getD (List.map csI w) (Int.toNat (↑i : Int)) []) 1)]] 2 16 ∧ (List.all [PV.int IntKind.u32 (cI (List.getD (List.map csI w) (Int.toNat (↑i : Int)) []) 0), PV.int IntKind.i64 (cI (List.getD (List.map csI w) (Int.toNat (↑i : Int)) []) 1)] PV.one = true ∧ [[PV.int IntKind.u32 (cI (List.getD (List.map csI w) (Int.toNat (↑i : Int)) []) 0), PV.int IntKind.i64 (cI (List.getD (List.map csI w) (Int.toNat (↑i : Int)) []) 1)]] ≠ []) ∧ R Ex.normal [PV.int IntKind.u32 t, PV.ptr 0 0, PV.ptr 1 0, PV.ptr 2 0, PV.int IntKind.i64 (wI ((↑i : Int) + 1))] [Ob.cells [PV.list (List.map csI w) Tail.no, PV.int IntKind.i64 m], Ob.cells [PV.list [] Tail.exact, PV.int IntKind.i64 0], Ob.cells [PV.list [[PV.int IntKind.u32 (cI (List.getD (List.map csI w) (Int.toNat (↑i : Int)) []) 0), PV.int IntKind.i64 (cI (List.getD (List.map csI w) (Int.toNat (↑i : Int)) []) 1)]] (Tail.tok 3), PV.int IntKind.i64 m], Ob.tok]) False) (R Ex.normal [PV.int IntKind.u32 t, PV.ptr 0 0, PV.ptr 1 0, PV.ptr 2 0, PV.int IntKind.i64 (wI ((↑i : Int) + 1))] [Ob.cells [PV.list (List.map csI w) Tail.no, PV.int IntKind.i64 m], Ob.cells [PV.list [] Tail.exact, PV.int IntKind.i64 0], Ob.cells [PV.list [] Tail.exact, PV.int IntKind.i64 m]])) False) (R (Ex.exit 0) [PV.int IntKind.u32 t, PV.ptr 0 0, PV.ptr 1 0, PV.ptr 2 0, PV.int IntKind.i64 (↑i : Int)] [Ob.cells [PV.list (List.map csI w) Tail.no, PV.int IntKind.i64 m], Ob.cells [PV.list [] Tail.exact, PV.int IntKind.i64 0], Ob.cells [PV.list [] Tail.exact, PV.int IntKind.i64 m]])) : Holds (wpc br Try.prog gl [] [] (fun o => match o.op with | .load t _ => (match t with | 49 => 1 | _ => 0) | _ => match o.dst with | some 33 => 1 | _ => 0) (subOf [1, 1, 0, 1, 0] (bodyOf Try.f35)) [] (envS [1, 2, 4, 5, 6] [.int .u32 t, .ptr 0 0, .ptr 1 0, .ptr 2 0, .int .i64 i]) [.cells [.list (w.map csI) .no, .int .i64 m], .cells [.list [] .exact, .int .i64 0], .cells [.list [] .exact, .int .i64 m]] (fun ex e H => R ex (List.map e [1, 2, 4, 5, 6]) H)) := holds_of_eq (by kernel_rfl) h
theorem q7rdrB_vc (w : List RwI) (m : Int) (t : Int) (es : List (List PV)) (i : Nat) (R : Ex → List PV → Heap → Prop) (h : br (decide ((↑i : Int) < (↑(List.length (List.map csI w)) : Int))) (InL (List.map csI w) 2 (↑i : Int) ∧ br (true && fitX [CK.int IntKind.u32] 0 (List.drop 0 (List.getD (List.map csI w) (Int.toNat (↑i : Int)) []))) (br (cI (List.drop 0 (List.getD (List.map csI w) (Int.toNat (↑i : Int)) [])) 0 != t) (InL (List.map csI w) 2 (↑i : Int) ∧ br (true && fitX [CK.int IntKind.u32, CK.int IntKind.i64] 0 (List.getD (List.map csI w) (Int.toNat (↑i : Int)) [])) (AppL es [[PV.int IntKind.u32 (cI (List.getD (List.map csI w) (Int.toNat (↑i : Int)) []) 0), PV.int IntKind.i64 (cI (List.getD (List.map csI w) (Int.toNat (↑i : Int)) []) 1)]] 2 16 ∧ (List.all [PV.int IntKind.u32 (cI (List.getD (List.map csI w) (Int.toNat (↑i : Int)) []) 0), PV.int IntKind.i64 (cI (List.getD (List.map csI w) (Int.toNat (↑i : Int)) []) 1)] PV.one = true ∧ [[PV.int IntKind.u32 (cI (List.getD (List.map csI w) (Int.toNat (↑i : Int)) []) 0), PV.int IntKind.i64 (cI (List.getD (List.map csI w) (Int.toNat (↑i : Int)) []) 1)]] ≠ []) ∧ R Ex.normal [PV.int IntKind.u32 t, PV.ptr 0 0, PV.ptr 1 0, PV.ptr 2 0, PV.int IntKind.i64 (wI ((↑i : Int) + 1))] [Ob.cells [PV.list (List.map csI w) Tail.no, PV.int IntKind.i64 m], Ob.cells [PV.list [] Tail.exact, PV.int IntKind.i64 0], Ob.cells [PV.list (es ++ [[PV.int IntKind.u32 (cI (List.getD (List.map csI w) (Int.toNat (↑i : Int)) []) 0), PV.int IntKind.i64 (cI (List.getD (List.map csI w) (Int.toNat (↑i : Int)) []) 1)]]) (Tail.tok 4), PV.int IntKind.i64 m], Ob.dead, Ob.tok]) False) (R Ex.normal [PV.int IntKind.u32 t, PV.ptr 0 0, PV.ptr 1 0, PV.ptr 2 0, PV.int IntKind.i64 (wI ((↑i : Int) + 1))] [Ob.cells [PV.list (List.map csI w) Tail.no, PV.int IntKind.i64 m], Ob.cells [PV.list [] Tail.exact, PV.int IntKind.i64 0], Ob.cells [PV.list es (Tail.tok 3), PV.int IntKind.i64 m], Ob.tok])) False) (R (Ex.exit 0) [PV.int IntKind.u32 t, PV.ptr 0 0, PV.ptr 1 0, PV.ptr 2 0, PV.int IntKind.i64 (↑i : Int)] [Ob.cells [PV.list (List.map csI w) Tail.no, PV.int IntKind.i64 m], Ob.cells [PV.list [] Tail.exact, PV.int IntKind.i64 0], Ob.cells [PV.list es (Tail.tok 3), PV.int IntKind.i64 m], Ob.tok])) : Holds (wpc br Try.prog gl [] [] (fun o => match o.op with | .load t _ => (match t with | 49 => 1 | _ => 0) | _ => match o.dst with | some 33 => 1 | _ => 0) (subOf [1, 1, 0, 1, 0] (bodyOf Try.f35)) [] (envS [1, 2, 4, 5, 6] [.int .u32 t, .ptr 0 0, .ptr 1 0, .ptr 2 0, .int .i64 i]) [.cells [.list (w.map csI) .no, .int .i64 m], .cells [.list [] .exact, .int .i64 0], .cells [.list es (.tok 3), .int .i64 m], .tok] (fun ex e H => R ex (List.map e [1, 2, 4, 5, 6]) H)) := holds_of_eq (by kernel_rfl) h
theorem q7inL_rw (w : List RwI) (i : Nat) : InL (w.map csI) 2 (i : Int) = (i < w.length) := inL_map csI_len (by decide) w i
theorem q7low_ws {n : Nat} (w : List RwI) : ∀ x ∈ (w.map csI).flatten, Low n x := low_map fun a _ => low_csI a
theorem q7uni_ws (w : List RwI) : uni 2 (w.map csI) := by
  intro e he
  obtain ⟨a, _, rfl⟩ := List.mem_map.1 he
  rfl
theorem q7low_box {n : Nat} (w : List RwI) (m : Int) : ∀ x ∈ [PV.list (w.map csI) .no, .int .i64 m], Low n x := by
  intro x hx
  simp only [List.mem_cons, List.not_mem_nil, or_false] at hx
  rcases hx with rfl | rfl
  · exact low_list NT.no (q7low_ws w)
  · exact .int _ _
theorem q7low_rkv (w : List RwI) (m : Int) : Low 0 (.agg [.list (w.map csI) .no, .int .i64 m]) := .agg _ (q7low_box w m)
theorem q7fiW_le (w : List RwI) (t : Int) : fiW w t ≤ w.length := List.findIdx_le_length
def q7find_l : LSp := fun e H Q => ∃ (w : List RwI) (m t : Int), w.length ≤ 1000000 ∧ SlIs (List.map e [1, 2, 4, 5]) [.int .u32 t, .ptr 0 0, .int .i64 0, .int .i64 0] ∧ HpIs H [.cells [.list (w.map csI) .no, .int .i64 m]] ∧
  (fiW w t < w.length → Q .ret (envS [1, 2, 4, 5] [.int .u32 t, .ptr 0 0, .int .i64 (fiW w t), .int .i64 (fiW w t)]) [.cells [.list (w.map csI) .no, .int .i64 m]]) ∧
  (fiW w t = w.length → Q (.exit 0) (envS [1, 2, 4, 5] [.int .u32 t, .ptr 0 0, .int .i64 0, .int .i64 w.length]) [.cells [.list (w.map csI) .no, .int .i64 m]])
theorem q7find_l_ok : ∀ e H Q, q7find_l e H Q → AW Try.prog gl Try.f64.ntmps (.loop (subOf [1, 0, 1, 0] (bodyOf Try.f64))) Q e H := by
  rintro e H Q ⟨w, m, t, hl, he, hH, hr, hx⟩
  have hle := q7fiW_le w t
  refine aw_loop4 (hn := fun _ => 0) gl_low (.nil _ _) (.nil _ _ _ _ _) (σ := Nat) [1, 2, 4, 5] (fun i => i ≤ fiW w t)
    (fun i => [.int .u32 t, .ptr 0 0, .int .i64 0, .int .i64 i]) (fun _ => [.cells [.list (w.map csI) .no, .int .i64 m]]) (fun i => w.length - i) 0 (Nat.zero_le _) he hH ?_
  intro i hi
  refine q7find_vc w m t i _ ?_
  simp only [br_if, dt, List.length_map]
  by_cases h : i < w.length
  · rw [if_pos (by omega), q7inL_rw, toNat_nat, getD_map default h]
    refine ⟨h, ?_⟩
    rw [if_pos (by rfl), List.drop_zero]
    have hc : cI (csI (w.getD i default)) 0 = (w.getD i default).id := rfl
    rw [hc]
    by_cases c : ((w.getD i default).id == t) = true
    · rw [if_pos c]
      have hge : fiW w t = i := fidx_stop default hi h c
      rw [hge] at hr
      exact hr h
    · rw [if_neg c]
      have hlt : i < fiW w t := fidx_step default hi h (by simpa using c)
      exact ⟨i + 1, (show w.length - (i + 1) < w.length - i by omega), hlt, by rw [wI_succ h (by omega)], [], rfl, Nat.le_refl _, .inl rfl⟩
  · rw [if_neg (by omega)]
    have hi' : i ≤ fiW w t := hi
    have : i = w.length := by omega
    subst this
    exact hx (by omega)
theorem q7find1_vc (w : List RwI) (m : Int) (t : Int)  (K : PV → Prop) (h : ∃ (w_1 : List RwI), ∃ (m_1 : Int), ∃ (t_1 : Int), List.length w_1 ≤ 1000000 ∧ SlIs [PV.int IntKind.u32 t, PV.ptr 0 0, PV.int IntKind.i64 0, PV.int IntKind.i64 0] [PV.int IntKind.u32 t_1, PV.ptr 0 0, PV.int IntKind.i64 0, PV.int IntKind.i64 0] ∧ HpIs [Ob.cells [PV.list (List.map csI w) Tail.no, PV.int IntKind.i64 m]] [Ob.cells [PV.list (List.map csI w_1) Tail.no, PV.int IntKind.i64 m_1]] ∧ (fiW w_1 t_1 < List.length w_1 → K (PV.int IntKind.i64 (↑(fiW w_1 t_1) : Int))) ∧ (fiW w_1 t_1 = List.length w_1 → K (PV.int IntKind.i64 (-1)))) : ACalls Try.prog gl 64 [.agg [.list (w.map csI) .no, .int .i64 m], .int .u32 t] [] (fun x _ => K x) :=
  acalls_of_wpc2 (T := []) (L := [([1, 0, 1, 0], q7find_l)]) (fun _ => 0) Try.func64 (by kernel_rfl) (by kernel_rfl) (by kernel_rfl) (TabOk.nil _ _) (.cons (sub_of (by kernel_rfl)) q7find_l_ok (.nil _ _ _ _ _)) (holds_of_eq (by kernel_rfl) h)
def q7find_s (args : List PV) (K : PV → Prop) : Prop := ∃ (w : List RwI) (m t : Int), SlIs args [.agg [.list (w.map csI) .no, .int .i64 m], .int .u32 t] ∧ w.length ≤ 1000000 ∧ K (.int .i64 (findS w t))
theorem q7find_ok : SpOk Try.prog gl 64 (.pure q7find_s) := by
  rintro args K ⟨w, m, t, he, hl, hk⟩
  have he : args = _ := he
  subst he
  have hle := q7fiW_le w t
  refine spure gl_low (by intro x hx; simp only [List.mem_cons, List.not_mem_nil, or_false] at hx; rcases hx with rfl | rfl; exact q7low_rkv w m; exact .int _ _) (.int _ _) (q7find1_vc w m t (fun x => x = .int .i64 (findS w t)) ⟨w, m, t, hl, rfl, rfl, fun h => ?_, fun h => ?_⟩) hk
  · unfold findS; rw [if_pos h]
  · unfold findS; rw [if_neg (by omega)]
def q7hpD (w : List RwI) (m : Int) (acc : List RwI) : Heap := match acc with
  | [] => [.cells [.list (w.map csI) .no, .int .i64 m], .cells [.list [] .exact, .int .i64 0], .cells [.list [] .exact, .int .i64 m]]
  | a :: acc => [.cells [.list (w.map csI) .no, .int .i64 m], .cells [.list [] .exact, .int .i64 0], .cells [.list ((a :: acc).map csI) (.tok 3), .int .i64 m], .tok]
def q7rdr_l : LSp := fun e H Q => ∃ (w : List RwI) (m t : Int), w.length ≤ 1000000 ∧ SlIs (List.map e [1, 2, 4, 5, 6]) [.int .u32 t, .ptr 0 0, .ptr 1 0, .ptr 2 0, .int .i64 0] ∧ HpIs H [.cells [.list (w.map csI) .no, .int .i64 m], .cells [.list [] .exact, .int .i64 0], .cells [.list [] .exact, .int .i64 m]] ∧
  (dropW w t = [] → Q (.exit 0) (envS [1, 2, 4, 5, 6] [.int .u32 t, .ptr 0 0, .ptr 1 0, .ptr 2 0, .int .i64 w.length]) [.cells [.list (w.map csI) .no, .int .i64 m], .cells [.list [] .exact, .int .i64 0], .cells [.list [] .exact, .int .i64 m]]) ∧
  (dropW w t ≠ [] → Q (.exit 0) (envS [1, 2, 4, 5, 6] [.int .u32 t, .ptr 0 0, .ptr 1 0, .ptr 2 0, .int .i64 w.length]) [.cells [.list (w.map csI) .no, .int .i64 m], .cells [.list [] .exact, .int .i64 0], .cells [.list ((dropW w t).map csI) (.tok 3), .int .i64 m], .tok])
theorem q7low_bx0 {n : Nat} (m : Int) : ∀ x ∈ [PV.list [] .exact, .int .i64 m], Low n x := by
  intro x hx
  simp only [List.mem_cons, List.not_mem_nil, or_false] at hx
  rcases hx with rfl | rfl
  · exact low_list NT.exact (fun _ h => nomatch h)
  · exact .int _ _
theorem q7ren_hpD {ρ : Nat → Nat} {n : Nat} {es : List RwI} {m : Int} {k : Nat} (h3 : ρ 3 = k) (hn : 3 < n) : RenOb ρ n (.cells [.list (es.map csI) (.tok 3), .int .i64 m]) (.cells [.list (es.map csI) (.tok k), .int .i64 m]) := by
  subst h3
  exact .cells (.cons (.ltok _ 3 hn (q7low_ws es)) (RenL.low low0_int))
theorem q7ren_sl {ρ : Nat → Nat} {n : Nat} {t i : Int} (h0 : ρ 0 = 0) (h1 : ρ 1 = 1) (h2 : ρ 2 = 2) (hn : 2 < n) : RenL ρ n [.int .u32 t, .ptr 0 0, .ptr 1 0, .ptr 2 0, .int .i64 i] [.int .u32 t, .ptr 0 0, .ptr 1 0, .ptr 2 0, .int .i64 i] := by
  have a0 := Ren.ptr (ρ := ρ) (n := n) 0 0 (by omega)
  have a1 := Ren.ptr (ρ := ρ) (n := n) 1 0 (by omega)
  have a2 := Ren.ptr (ρ := ρ) (n := n) 2 0 (by omega)
  rw [h0] at a0
  rw [h1] at a1
  rw [h2] at a2
  exact .cons (.low (.int _ _)) (.cons a0 (.cons a1 (.cons a2 (.cons (.low (.int _ _)) .nil))))
theorem q7tidyA (w : List RwI) (m t i : Int) : Tidy 3 [.int .u32 t, .ptr 0 0, .ptr 1 0, .ptr 2 0, .int .i64 i] [.cells [.list (w.map csI) .no, .int .i64 m], .cells [.list [] .exact, .int .i64 0], .cells [.list [] .exact, .int .i64 m]] [.int .u32 t, .ptr 0 0, .ptr 1 0, .ptr 2 0, .int .i64 i] [.cells [.list (w.map csI) .no, .int .i64 m], .cells [.list [] .exact, .int .i64 0], .cells [.list [] .exact, .int .i64 m]] :=
  tidy_list [0, 1, 2] (.refl _) (.cons rfl (ren_low (q7low_box w m)) (.cons rfl (ren_low (q7low_bx0 _)) (.cons rfl (ren_low (q7low_bx0 _)) .nil))) (by decide) (Nat.le_refl _) (by decide) (q7ren_sl rfl rfl rfl (by simp))
theorem q7tidyB (w es : List RwI) (m t i : Int) (k : Nat) (hk : 3 ≤ k) {er : List (List PV)} (hee : er = es.map csI) {X : Heap} (hX : ([.cells [.list (w.map csI) .no, .int .i64 m], .cells [.list [] .exact, .int .i64 0], .cells [.list er (.tok k), .int .i64 m]] ++ X : Heap)[k]? = some .tok) :
    Tidy 3 [.int .u32 t, .ptr 0 0, .ptr 1 0, .ptr 2 0, .int .i64 i] ([.cells [.list (w.map csI) .no, .int .i64 m], .cells [.list [] .exact, .int .i64 0], .cells [.list er (.tok k), .int .i64 m]] ++ X) [.int .u32 t, .ptr 0 0, .ptr 1 0, .ptr 2 0, .int .i64 i] [.cells [.list (w.map csI) .no, .int .i64 m], .cells [.list [] .exact, .int .i64 0], .cells [.list (es.map csI) (.tok 3), .int .i64 m], .tok] := by
  subst hee
  exact tidy_list [0, 1, 2, k] (.refl _) (.cons rfl (ren_low (q7low_box w m)) (.cons rfl (ren_low (q7low_bx0 _)) (.cons rfl (q7ren_hpD rfl (by simp)) (.cons hX .tok .nil)))) (by simp; omega) (by simp) (by intro o ho; rcases (show o = 0 ∨ o = 1 ∨ o = 2 by omega) with rfl | rfl | rfl <;> rfl) (q7ren_sl rfl rfl rfl (by simp))
theorem q7rdr_l_ok : ∀ e H Q, q7rdr_l e H Q → AW Try.prog gl Try.f35.ntmps (.loop (subOf [1, 1, 0, 1, 0] (bodyOf Try.f35))) Q e H := by
  rintro e H Q ⟨w, m, t, hl, he, hH, hx0, hx1⟩
  have hH2 : H = _ := hH
  subst hH2
  refine aw_loop7 (hn := fun o => match o.op with | .load t _ => (match t with | 49 => 1 | _ => 0) | _ => match o.dst with | some 33 => 1 | _ => 0) gl_low (.nil _ _) (.nil _ _ _ _ _) (σ := Nat) [1, 2, 4, 5, 6] (fun i => i ≤ w.length)
    (fun i => [.int .u32 t, .ptr 0 0, .ptr 1 0, .ptr 2 0, .int .i64 i]) (fun i => q7hpD w m (dropW (w.take i) t)) (fun i => w.length - i) 0 (Nat.zero_le _) he rfl ?_
  intro i hi
  have hi' : i ≤ w.length := hi
  have hstep : ∀ h : i < w.length, dropW (w.take (i + 1)) t = if ((w.getD i default).id != t) = true then dropW (w.take i) t ++ [w.getD i default] else dropW (w.take i) t := by
    intro h
    unfold dropW
    rw [take_snoc default h, List.filter_append, List.filter_cons]
    split <;> simp
  have hc : cI (csI (w.getD i default)) 0 = (w.getD i default).id := rfl
  have hlen : (dropW (w.take i) t).length ≤ 1000000 := Nat.le_trans (List.length_filter_le _ _) (by rw [List.length_take]; omega)
  cases hacc : dropW (w.take i) t with
  | nil =>
    rw [hacc] at hstep
    refine q7rdrA_vc w m t i _ ?_
    simp only [br_if, dt, List.length_map]
    by_cases h : i < w.length
    · rw [if_pos (by omega), q7inL_rw, toNat_nat, getD_map default h]
      refine ⟨h, ?_⟩
      rw [if_pos (by rfl), List.drop_zero, hc]
      have hs := hstep h
      by_cases c : ((w.getD i default).id != t) = true
      · rw [if_pos c] at hs
        rw [if_pos c]
        refine ⟨h, ?_⟩
        rw [if_pos (by rfl)]
        refine ⟨⟨(by intro e he; simp at he), (by intro e he; simp at he; subst he; rfl), by simp⟩, ⟨by rfl, by simp⟩, i + 1, (show w.length - (i + 1) < w.length - i by omega), h, ?_⟩
        show Tidy 3 _ _ [PV.int .u32 t, .ptr 0 0, .ptr 1 0, .ptr 2 0, .int .i64 ((i + 1 : Nat) : Int)] (q7hpD w m (dropW (w.take (i + 1)) t))
        rw [hs, wI_succ h (by omega)]
        exact q7tidyB w [w.getD i default] m t _ 3 (Nat.le_refl _) rfl (X := [.tok]) rfl
      · rw [if_neg c] at hs
        rw [if_neg c]
        refine ⟨i + 1, (show w.length - (i + 1) < w.length - i by omega), h, ?_⟩
        show Tidy 3 _ _ [PV.int .u32 t, .ptr 0 0, .ptr 1 0, .ptr 2 0, .int .i64 ((i + 1 : Nat) : Int)] (q7hpD w m (dropW (w.take (i + 1)) t))
        rw [hs, wI_succ h (by omega)]
        exact q7tidyA w m t _
    · rw [if_neg (by omega)]
      have : i = w.length := by omega
      subst this
      rw [List.take_length] at hacc
      exact ⟨_, _, q7tidyA w m t _, hx0 hacc⟩
  | cons a acc =>
    rw [hacc] at hstep hlen
    refine q7rdrB_vc w m t ((a :: acc).map csI) i _ ?_
    simp only [br_if, dt, List.length_map]
    by_cases h : i < w.length
    · rw [if_pos (by omega), q7inL_rw, toNat_nat, getD_map default h]
      refine ⟨h, ?_⟩
      rw [if_pos (by rfl), List.drop_zero, hc]
      have hs := hstep h
      by_cases c : ((w.getD i default).id != t) = true
      · rw [if_pos c] at hs
        rw [if_pos c]
        refine ⟨h, ?_⟩
        rw [if_pos (by rfl)]
        refine ⟨⟨q7uni_ws _, (by intro e he; simp at he; subst he; rfl), by rw [List.length_map, List.length_singleton]; omega⟩, ⟨by rfl, by simp⟩, i + 1, (show w.length - (i + 1) < w.length - i by omega), h, ?_⟩
        show Tidy 3 _ _ [PV.int .u32 t, .ptr 0 0, .ptr 1 0, .ptr 2 0, .int .i64 ((i + 1 : Nat) : Int)] (q7hpD w m (dropW (w.take (i + 1)) t))
        rw [hs, wI_succ h (by omega)]
        exact q7tidyB w (a :: acc ++ [w.getD i default]) m t _ 4 (by decide) (by rw [List.map_append]; rfl) (X := [.dead, .tok]) rfl
      · rw [if_neg c] at hs
        rw [if_neg c]
        refine ⟨i + 1, (show w.length - (i + 1) < w.length - i by omega), h, ?_⟩
        show Tidy 3 _ _ [PV.int .u32 t, .ptr 0 0, .ptr 1 0, .ptr 2 0, .int .i64 ((i + 1 : Nat) : Int)] (q7hpD w m (dropW (w.take (i + 1)) t))
        rw [hs, wI_succ h (by omega)]
        exact q7tidyB w (a :: acc) m t _ 3 (Nat.le_refl _) rfl (X := [.tok]) rfl
    · rw [if_neg (by omega)]
      have : i = w.length := by omega
      subst this
      rw [List.take_length] at hacc
      rw [hacc] at hx1
      exact ⟨_, _, q7tidyB w (a :: acc) m t _ 3 (Nat.le_refl _) rfl (X := [.tok]) rfl, hx1 (List.cons_ne_nil _ _)⟩
theorem q7rdrop1_vc (w : List RwI) (m : Int) (t : Int)  (K : PV → Heap → Prop) (h : ∃ (w_1 : List RwI), ∃ (m_1 : Int), ∃ (t_1 : Int), List.length w_1 ≤ 1000000 ∧ SlIs [PV.int IntKind.u32 t, PV.ptr 0 0, PV.ptr 1 0, PV.ptr 2 0, PV.int IntKind.i64 0] [PV.int IntKind.u32 t_1, PV.ptr 0 0, PV.ptr 1 0, PV.ptr 2 0, PV.int IntKind.i64 0] ∧ HpIs [Ob.cells [PV.list (List.map csI w) Tail.no, PV.int IntKind.i64 m], Ob.cells [PV.list [] Tail.exact, PV.int IntKind.i64 0], Ob.cells [PV.list [] Tail.exact, PV.int IntKind.i64 m]] [Ob.cells [PV.list (List.map csI w_1) Tail.no, PV.int IntKind.i64 m_1], Ob.cells [PV.list [] Tail.exact, PV.int IntKind.i64 0], Ob.cells [PV.list [] Tail.exact, PV.int IntKind.i64 m_1]] ∧ (dropW w_1 t_1 = [] → K (PV.agg [PV.list [] Tail.exact, PV.int IntKind.i64 m_1]) [Ob.cells [PV.list (List.map csI w_1) Tail.no, PV.int IntKind.i64 m_1], Ob.cells [PV.list [] Tail.exact, PV.int IntKind.i64 m_1], Ob.cells [PV.list [] Tail.exact, PV.int IntKind.i64 m_1]]) ∧ (dropW w_1 t_1 ≠ [] → K (PV.agg [PV.list (List.map csI (dropW w_1 t_1)) (Tail.tok 3), PV.int IntKind.i64 m_1]) [Ob.cells [PV.list (List.map csI w_1) Tail.no, PV.int IntKind.i64 m_1], Ob.cells [PV.list (List.map csI (dropW w_1 t_1)) (Tail.tok 3), PV.int IntKind.i64 m_1], Ob.cells [PV.list (List.map csI (dropW w_1 t_1)) (Tail.tok 3), PV.int IntKind.i64 m_1], Ob.tok])) : ACalls Try.prog gl 35 [.agg [.list (w.map csI) .no, .int .i64 m], .int .u32 t] [] K :=
  acalls_of_wpc2 (T := []) (L := [([1, 1, 0, 1, 0], q7rdr_l)]) (fun o => match o.op with | .load t _ => (match t with | 49 => 1 | _ => 0) | _ => match o.dst with | some 33 => 1 | _ => 0) Try.func35 (by kernel_rfl) (by kernel_rfl) (by kernel_rfl) (TabOk.nil _ _) (.cons (sub_of (by kernel_rfl)) q7rdr_l_ok (.nil _ _ _ _ _)) (holds_of_eq (by kernel_rfl) h)
theorem q7low_rargs (w : List RwI) (m t : Int) : ∀ x ∈ [PV.agg [.list (w.map csI) .no, .int .i64 m], .int .u32 t], Low 0 x := by
  intro x hx
  simp only [List.mem_cons, List.not_mem_nil, or_false] at hx
  rcases hx with rfl | rfl
  · exact q7low_rkv w m
  · exact .int _ _
theorem q7wk_agg {x y : PV} {xs : List PV} (h : Wk x y) : Wk (.agg (x :: xs)) (.agg (y :: xs)) := .agg (.cons h (.refl _))
def q7rdrop_s (args : List PV) (H : Heap) (K : PV → Heap → Prop) : Prop := ∃ (w : List RwI) (m t : Int), SlIs args [.agg [.list (w.map csI) .no, .int .i64 m], .int .u32 t] ∧ w.length ≤ 1000000 ∧
  (dropW w t = [] → K (.agg [.list [] .exact, .int .i64 m]) H) ∧ (dropW w t ≠ [] → K (.agg [.list ((dropW w t).map csI) (.tok H.length), .int .i64 m]) (H ++ [.tok]))
theorem q7rdrop_ok : SpOk Try.prog gl 35 (.heap q7rdrop_s) := by
  rintro args H K ⟨w, m, t, he, hl, hk0, hk1⟩
  have he : args = _ := he
  subst he
  refine acalls_to (mk_agg gl_low (es := (dropW w t).map csI) (rest := [.int .i64 m]) (.refl _) (q7low_rargs w m t) (q7low_ws _) low0_int ?_ H) ?_
  · refine q7rdrop1_vc w m t _ ⟨w, m, t, hl, rfl, rfl, fun h => ⟨fun _ => rfl, fun k => absurd (by rw [h]; rfl) k⟩, fun h => ⟨fun k => absurd (List.map_eq_nil_iff.1 k) h, fun _ => ⟨3, rfl, rfl⟩⟩⟩
  · rintro x H' ⟨h0, h1⟩
    by_cases c : dropW w t = []
    · obtain ⟨rfl, rfl⟩ := h0 (by rw [c]; rfl)
      exact hk0 c
    · obtain ⟨rfl, rfl⟩ := h1 (fun k => c (List.map_eq_nil_iff.1 k))
      exact hk1 c
def q7rdropP_s (args : List PV) (K : PV → Prop) : Prop := ∃ (w : List RwI) (m t : Int), SlIs args [.agg [.list (w.map csI) .no, .int .i64 m], .int .u32 t] ∧ w.length ≤ 1000000 ∧ K (.agg [.list ((dropW w t).map csI) .no, .int .i64 m])
theorem q7rdropP_ok : SpOk Try.prog gl 35 (.pure q7rdropP_s) := by
  rintro args K ⟨w, m, t, he, hl, hk⟩
  have he : args = _ := he
  subst he
  refine spure gl_low (q7low_rargs w m t) (q7low_rkv _ m) (acalls_wkout (q7rdrop1_vc w m t _ ⟨w, m, t, hl, rfl, rfl, fun h => ?_, fun h => ?_⟩)) hk
  · exact ⟨.agg [.list [] .no, .int .i64 m], _, q7wk_agg (.list _ _), .refl _, by rw [h]; rfl⟩
  · exact ⟨_, _, q7wk_agg (.list _ _), .refl _, rfl⟩
def q7TR : Tab := [(64, .pure q7find_s), (39, .pure rrt_s), (35, .heap q7rdrop_s)]
theorem q7TR_ok : TabOk Try.prog gl q7TR := .cons q7find_ok (.cons rrt_ok (.cons q7rdrop_ok (.nil _ _)))
theorem q7rput1_vc (w : List RwI) (m : Int) (t v : Int)  (K : PV → Prop) (h : ∃ (t_1 : Int), 0 ≤ t_1 ∧ SlIs [PV.int IntKind.u32 t] [PV.int IntKind.u32 t_1] ∧ br (!rightS t_1) (K (PV.tup [PV.agg [PV.list (List.map csI w) Tail.no, PV.int IntKind.i64 m], PV.int IntKind.i64 14])) (∃ (w_1 : List RwI), ∃ (m_1 : Int), ∃ (t_2 : Int), SlIs [PV.agg [PV.list (List.map csI w) Tail.no, PV.int IntKind.i64 m], PV.int IntKind.u32 t] [PV.agg [PV.list (List.map csI w_1) Tail.no, PV.int IntKind.i64 m_1], PV.int IntKind.u32 t_2] ∧ List.length w_1 ≤ 1000000 ∧ br (decide (findS w_1 t_2 < 0) == true) (br (decide ((↑(List.length (List.map csI w)) : Int) ≥ m)) (K (PV.tup [PV.agg [PV.list (List.map csI w) Tail.no, PV.int IntKind.i64 m], PV.int IntKind.i64 10])) (∃ (w_2 : List RwI), ∃ (m_2 : Int), ∃ (t_3 : Int), SlIs [PV.agg [PV.list (List.map csI w) Tail.no, PV.int IntKind.i64 m], PV.int IntKind.u32 t] [PV.agg [PV.list (List.map csI w_2) Tail.no, PV.int IntKind.i64 m_2], PV.int IntKind.u32 t_3] ∧ List.length w_2 ≤ 1000000 ∧ (dropW w_2 t_3 = [] → AppL [] [[PV.int IntKind.u32 t, PV.int IntKind.i64 v]] 2 16 ∧ (List.all [PV.int IntKind.u32 t, PV.int IntKind.i64 v] PV.one = true ∧ [[PV.int IntKind.u32 t, PV.int IntKind.i64 v]] ≠ []) ∧ K (PV.tup [PV.agg [PV.list [[PV.int IntKind.u32 t, PV.int IntKind.i64 v]] (Tail.tok 3), PV.int IntKind.i64 m_2], PV.int IntKind.i64 0])) ∧ (dropW w_2 t_3 ≠ [] → AppL (List.map csI (dropW w_2 t_3)) [[PV.int IntKind.u32 t, PV.int IntKind.i64 v]] 2 16 ∧ (List.all [PV.int IntKind.u32 t, PV.int IntKind.i64 v] PV.one = true ∧ [[PV.int IntKind.u32 t, PV.int IntKind.i64 v]] ≠ []) ∧ K (PV.tup [PV.agg [PV.list (List.map csI (dropW w_2 t_3) ++ [[PV.int IntKind.u32 t, PV.int IntKind.i64 v]]) (Tail.tok 4), PV.int IntKind.i64 m_2], PV.int IntKind.i64 0])))) (∃ (w_2 : List RwI), ∃ (m_2 : Int), ∃ (t_3 : Int), SlIs [PV.agg [PV.list (List.map csI w) Tail.no, PV.int IntKind.i64 m], PV.int IntKind.u32 t] [PV.agg [PV.list (List.map csI w_2) Tail.no, PV.int IntKind.i64 m_2], PV.int IntKind.u32 t_3] ∧ List.length w_2 ≤ 1000000 ∧ (dropW w_2 t_3 = [] → AppL [] [[PV.int IntKind.u32 t, PV.int IntKind.i64 v]] 2 16 ∧ (List.all [PV.int IntKind.u32 t, PV.int IntKind.i64 v] PV.one = true ∧ [[PV.int IntKind.u32 t, PV.int IntKind.i64 v]] ≠ []) ∧ K (PV.tup [PV.agg [PV.list [[PV.int IntKind.u32 t, PV.int IntKind.i64 v]] (Tail.tok 3), PV.int IntKind.i64 m_2], PV.int IntKind.i64 0])) ∧ (dropW w_2 t_3 ≠ [] → AppL (List.map csI (dropW w_2 t_3)) [[PV.int IntKind.u32 t, PV.int IntKind.i64 v]] 2 16 ∧ (List.all [PV.int IntKind.u32 t, PV.int IntKind.i64 v] PV.one = true ∧ [[PV.int IntKind.u32 t, PV.int IntKind.i64 v]] ≠ []) ∧ K (PV.tup [PV.agg [PV.list (List.map csI (dropW w_2 t_3) ++ [[PV.int IntKind.u32 t, PV.int IntKind.i64 v]]) (Tail.tok 4), PV.int IntKind.i64 m_2], PV.int IntKind.i64 0]))))) : ACalls Try.prog gl 32 [.agg [.list (w.map csI) .no, .int .i64 m], .int .u32 t, .int .i64 v] [] (fun x _ => K x) :=
  acalls_of_wpc2 (T := q7TR) (L := []) (fun o => match o.op with | .load t _ => (match t with | 49 => 1 | _ => 0) | _ => match o.dst with | some 35 => 1 | _ => 0) Try.func32 (by kernel_rfl) (by kernel_rfl) (by kernel_rfl) (q7TR_ok) (LOk.nil _ _ _ _ _) (holds_of_eq (by kernel_rfl) h)
theorem q7findS_neg (w : List RwI) (t : Int) : decide (findS w t < 0) = !hasW w t := by
  unfold findS hasW
  by_cases c : fiW w t < w.length
  · rw [if_pos c, decide_eq_true c, decide_eq_false (by omega)]; rfl
  · rw [if_neg c, decide_eq_false c]; rfl
theorem q7low_rret (w : List RwI) (m n : Int) : Low 0 (.tup [.agg [.list (w.map csI) .no, .int .i64 m], .int .i64 n]) := .tup _ (by
  intro y hy
  simp only [List.mem_cons, List.not_mem_nil, or_false] at hy
  rcases hy with rfl | rfl
  · exact q7low_rkv w m
  · exact .int _ _)
def q7rput_s (args : List PV) (K : PV → Prop) : Prop := ∃ (w : List RwI) (m t v : Int), SlIs args [.agg [.list (w.map csI) .no, .int .i64 m], .int .u32 t, .int .i64 v] ∧ w.length ≤ 1000000 ∧ 0 ≤ t ∧ K (.tup [.agg [.list ((putW w m t v).1.map csI) .no, .int .i64 m], .int .i64 (putW w m t v).2])
theorem q7wk_ret {rows : List (List PV)} {tl : Tail} {m n : Int} : Wk (.tup [.agg [.list rows tl, .int .i64 m], .int .i64 n]) (.tup [.agg [.list rows .no, .int .i64 m], .int .i64 n]) := .tup (.cons (q7wk_agg (.list _ _)) (.refl _))
theorem q7dropW_len (w : List RwI) (t : Int) : (dropW w t).length ≤ w.length := List.length_filter_le _ _
theorem q7low_rargs3 (w : List RwI) (m t v : Int) : ∀ x ∈ [PV.agg [.list (w.map csI) .no, .int .i64 m], .int .u32 t, .int .i64 v], Low 0 x := by
  intro x hx
  simp only [List.mem_cons, List.not_mem_nil, or_false] at hx
  rcases hx with rfl | rfl | rfl
  · exact q7low_rkv w m
  · exact .int _ _
  · exact .int _ _
theorem q7rput_ok : SpOk Try.prog gl 32 (.pure q7rput_s) := by
  rintro args K ⟨w, m, t, v, he, hl, h0, hk⟩
  have he : args = _ := he
  subst he
  refine spure gl_low (q7low_rargs3 w m t v) (q7low_rret _ _ _) (acalls_wkout (acalls_to (q7rput1_vc w m t v (fun x => Wk x (.tup [.agg [.list ((putW w m t v).1.map csI) .no, .int .i64 m], .int .i64 (putW w m t v).2])) ⟨t, h0, rfl, ?_⟩) fun x H' h => ⟨_, H', h, .refl _, rfl⟩)) hk
  unfold putW
  rw [br_if]
  by_cases c : rightS t = true
  · rw [if_neg (by simp [c]), if_pos c]
    refine ⟨w, m, t, rfl, hl, ?_⟩
    simp only [br_if, bt, q7findS_neg, List.length_map]
    have fin : ∀ rs : List RwI × Int, rs = (dropW w t ++ [⟨t, v⟩], 0) → ∃ (w_2 : List RwI), ∃ (m_2 : Int), ∃ (t_3 : Int), SlIs [PV.agg [PV.list (List.map csI w) Tail.no, PV.int IntKind.i64 m], PV.int IntKind.u32 t] [PV.agg [PV.list (List.map csI w_2) Tail.no, PV.int IntKind.i64 m_2], PV.int IntKind.u32 t_3] ∧ List.length w_2 ≤ 1000000 ∧ (dropW w_2 t_3 = [] → AppL [] [[PV.int IntKind.u32 t, PV.int IntKind.i64 v]] 2 16 ∧ (List.all [PV.int IntKind.u32 t, PV.int IntKind.i64 v] PV.one = true ∧ [[PV.int IntKind.u32 t, PV.int IntKind.i64 v]] ≠ []) ∧ Wk (PV.tup [PV.agg [PV.list [[PV.int IntKind.u32 t, PV.int IntKind.i64 v]] (Tail.tok 3), PV.int IntKind.i64 m_2], PV.int IntKind.i64 0]) (.tup [.agg [.list (rs.1.map csI) .no, .int .i64 m], .int .i64 rs.2])) ∧ (dropW w_2 t_3 ≠ [] → AppL (List.map csI (dropW w_2 t_3)) [[PV.int IntKind.u32 t, PV.int IntKind.i64 v]] 2 16 ∧ (List.all [PV.int IntKind.u32 t, PV.int IntKind.i64 v] PV.one = true ∧ [[PV.int IntKind.u32 t, PV.int IntKind.i64 v]] ≠ []) ∧ Wk (PV.tup [PV.agg [PV.list (List.map csI (dropW w_2 t_3) ++ [[PV.int IntKind.u32 t, PV.int IntKind.i64 v]]) (Tail.tok 4), PV.int IntKind.i64 m_2], PV.int IntKind.i64 0]) (.tup [.agg [.list (rs.1.map csI) .no, .int .i64 m], .int .i64 rs.2])) := by
      rintro rs rfl
      refine ⟨w, m, t, rfl, hl, fun h => ⟨⟨(by intro e he; simp at he), (by intro e he; simp at he; subst he; rfl), by simp⟩, ⟨rfl, by simp⟩, ?_⟩, fun _ => ⟨⟨q7uni_ws _, (by intro e he; simp at he; subst he; rfl), ?_⟩, ⟨rfl, by simp⟩, ?_⟩⟩
      · rw [h]; exact q7wk_ret
      · have := q7dropW_len w t; rw [List.length_map, List.length_singleton]; omega
      · rw [List.map_append]; exact q7wk_ret
    by_cases c2 : hasW w t = true
    · rw [if_neg (by simp [c2]), if_neg (by simp [c2])]
      exact fin _ rfl
    · have c2' : hasW w t = false := by simpa using c2
      rw [if_pos (by simp [c2'])]
      by_cases c3 : (w.length : Int) ≥ m
      · rw [if_pos (decide_eq_true c3), if_pos ⟨c2', c3⟩]
        exact .refl _
      · rw [if_neg (by simpa using c3), if_neg (fun h => c3 h.2)]
        exact fin _ rfl
  · rw [if_pos (by simpa using c), if_neg c]
    exact .refl _
def TO1 : Tab := [(44, .pure lown_s), (43, .heap put_s)]
theorem TO1_ok : TabOk Try.prog gl TO1 := .cons lown_ok (.cons putW_ok (.nil _ _))
def TO4 : Tab := [(32, .pure q7rput_s), (46, .read of_s)]
theorem TO4_ok : TabOk Try.prog gl TO4 := .cons q7rput_ok (.cons of_ok (.nil _ _))
def TO2 : Tab := [(45, .read mode_s)]
theorem TO2_ok : TabOk Try.prog gl TO2 := .cons mode_ok (.nil _ _)
theorem o1_vc (ts l : List Tk) (sz : List Int) (i : Nat) (R : Ex → List PV → Heap → Prop) (h : br (decide ((↑i : Int) < (↑(List.length (List.map csT ts)) : Int))) (InL (List.map csT ts) 5 (↑i : Int) ∧ br (true && fitX [CK.list] 0 (List.drop 2 (List.getD (List.map csT ts) (Int.toNat (↑i : Int)) []))) (br (decide ((↑(List.length (cL (List.drop 2 (List.getD (List.map csT ts) (Int.toNat (↑i : Int)) [])) 0)) : Int) > 8)) (R Ex.ret [PV.list (List.map csT ts) Tail.no, PV.bool true, PV.ptr 0 0, PV.int IntKind.i64 (↑i : Int)] [Ob.abs (rkT l sz)]) (InL (List.map csT ts) 5 (↑i : Int) ∧ br (true && fitX [CK.int IntKind.u32, CK.int IntKind.i64, CK.list, CK.int IntKind.i64, CK.int IntKind.i64] 0 (List.getD (List.map csT ts) (Int.toNat (↑i : Int)) [])) (∃ (t : Tk), ∃ (tl : Tail), SlIs [PV.agg [PV.int IntKind.u32 (cI (List.getD (List.map csT ts) (Int.toNat (↑i : Int)) []) 0), PV.int IntKind.i64 (cI (List.getD (List.map csT ts) (Int.toNat (↑i : Int)) []) 1), PV.list (cL (List.getD (List.map csT ts) (Int.toNat (↑i : Int)) []) 2) (cT (List.getD (List.map csT ts) (Int.toNat (↑i : Int)) []) 2), PV.int IntKind.i64 (cI (List.getD (List.map csT ts) (Int.toNat (↑i : Int)) []) 3), PV.int IntKind.i64 (cI (List.getD (List.map csT ts) (Int.toNat (↑i : Int)) []) 4)]] [PV.agg [PV.int IntKind.u32 (Tk.id t), PV.int IntKind.i64 (Tk.md t), PV.list (List.map u1 (Tk.pl t)) tl, PV.int IntKind.i64 (Tk.rt t), PV.int IntKind.i64 (Tk.si t)]] ∧ List.length (Tk.pl t) ≤ 1000000 ∧ ∃ (l_1 : List Tk), ∃ (sz_1 : List Int), ∃ (t_1 : Tk), ∃ (tl : Tail), SlIs [PV.agg [PV.int IntKind.u32 (Tk.id t), PV.int IntKind.i64 (Tk.md t), PV.list (List.map u1 (Tk.pl t)) Tail.no, PV.int IntKind.i64 (Tk.rt t), PV.int IntKind.i64 (Tk.si t)]] [PV.agg [PV.int IntKind.u32 (Tk.id t_1), PV.int IntKind.i64 (Tk.md t_1), PV.list (List.map u1 (Tk.pl t_1)) tl, PV.int IntKind.i64 (Tk.rt t_1), PV.int IntKind.i64 (Tk.si t_1)]] ∧ AbIs [Ob.abs (rkT l sz)] 0 (rkT l_1 sz_1) ∧ Sml l_1 ∧ LbT l_1 t_1 (lbT l_1 t_1) ∧ List.length (Tk.pl t_1) ≤ 1000000 ∧ R Ex.normal [PV.list (List.map csT ts) Tail.no, PV.bool false, PV.ptr 0 0, PV.int IntKind.i64 (wI ((↑i : Int) + 1))] [Ob.abs (rkT (putQ sz_1 l_1 t_1) sz_1)]) False)) False) (R (Ex.exit 0) [PV.list (List.map csT ts) Tail.no, PV.bool false, PV.ptr 0 0, PV.int IntKind.i64 (↑i : Int)] [Ob.abs (rkT l sz)])) : Holds (wpc br Try.prog gl TO1 [] (fun _ => 0) (subOf [1, 1, 1, 0, 1, 0] (bodyOf Try.f8)) [] (envS [0, 2, 3, 4] [.list (ts.map csT) .no, .bool false, .ptr 0 0, .int .i64 i]) [.abs (rkT l sz)] (fun ex e H => R ex (List.map e [0, 2, 3, 4]) H)) := holds_of_eq (by kernel_rfl) h
theorem o4_vc (l : List Tk) (sz : List Int) (r : List RwI) (w : List Tk) (n y m : Int) (i k : Nat) (R : Ex → List PV → Heap → Prop) (h : InL (List.map csT w) 5 (↑i : Int) ∧ br (true && fitX [CK.list] 0 (List.drop 2 (List.getD (List.map csT w) (Int.toNat (↑i : Int)) []))) (br (decide ((↑k : Int) < (↑(List.length (cL (List.drop 2 (List.getD (List.map csT w) (Int.toNat (↑i : Int)) [])) 0)) : Int))) (InL (List.map csT w) 5 (↑i : Int) ∧ br (true && fitX [CK.list] 0 (List.drop 2 (List.getD (List.map csT w) (Int.toNat (↑i : Int)) []))) (InL (cL (List.drop 2 (List.getD (List.map csT w) (Int.toNat (↑i : Int)) [])) 0) 1 (↑k : Int) ∧ br (true && fitX [CK.int IntKind.u32] 0 (List.getD (cL (List.drop 2 (List.getD (List.map csT w) (Int.toNat (↑i : Int)) [])) 0) (Int.toNat (↑k : Int)) [])) (∃ (w_1 : List RwI), ∃ (m_1 : Int), ∃ (t : Int), ∃ (v : Int), SlIs [PV.agg [PV.list (List.map csI r) Tail.no, PV.int IntKind.i64 200], PV.int IntKind.u32 (cI (List.getD (cL (List.drop 2 (List.getD (List.map csT w) (Int.toNat (↑i : Int)) [])) 0) (Int.toNat (↑k : Int)) []) 0), PV.int IntKind.i64 0] [PV.agg [PV.list (List.map csI w_1) Tail.no, PV.int IntKind.i64 m_1], PV.int IntKind.u32 t, PV.int IntKind.i64 v] ∧ List.length w_1 ≤ 1000000 ∧ 0 ≤ t ∧ InL (List.map csT w) 5 (↑i : Int) ∧ br (true && fitX [CK.list] 0 (List.drop 2 (List.getD (List.map csT w) (Int.toNat (↑i : Int)) []))) (InL (cL (List.drop 2 (List.getD (List.map csT w) (Int.toNat (↑i : Int)) [])) 0) 1 (↑k : Int) ∧ br (true && fitX [CK.int IntKind.u32] 0 (List.getD (cL (List.drop 2 (List.getD (List.map csT w) (Int.toNat (↑i : Int)) [])) 0) (Int.toNat (↑k : Int)) [])) (∃ (q : Nat), ∃ (l_1 : List Tk), ∃ (sz_1 : List Int), ∃ (c : Int), SlIs [PV.ptr 0 0, PV.int IntKind.u32 (cI (List.getD (cL (List.drop 2 (List.getD (List.map csT w) (Int.toNat (↑i : Int)) [])) 0) (Int.toNat (↑k : Int)) []) 0)] [PV.ptr q 0, PV.int IntKind.u32 c] ∧ AbIs [Ob.abs (rkT l sz), Ob.cells [PV.list (List.map csI (Prod.fst (putW w_1 m_1 t v))) Tail.no, PV.int IntKind.i64 m_1]] q (rkT l_1 sz_1) ∧ Sml l_1 ∧ InL (List.map csT w) 5 (↑i : Int) ∧ br (true && fitX [CK.int IntKind.u32] 0 (List.drop 0 (List.getD (List.map csT w) (Int.toNat (↑i : Int)) []))) (br (ofQ l_1 c != cI (List.drop 0 (List.getD (List.map csT w) (Int.toNat (↑i : Int)) [])) 0) (R Ex.ret [PV.bool false, PV.ptr 0 0, PV.ptr 1 0, PV.int IntKind.i64 (wI (n + 1)), PV.int IntKind.i64 y, PV.int IntKind.i64 m, PV.list (List.map csT w) Tail.no, PV.int IntKind.i64 (↑i : Int), PV.int IntKind.i64 (↑k : Int)] [Ob.abs (rkT l sz), Ob.cells [PV.list (List.map csI (Prod.fst (putW w_1 m_1 t v))) Tail.no, PV.int IntKind.i64 m_1]]) (R Ex.normal [PV.bool false, PV.ptr 0 0, PV.ptr 1 0, PV.int IntKind.i64 (wI (n + 1)), PV.int IntKind.i64 y, PV.int IntKind.i64 m, PV.list (List.map csT w) Tail.no, PV.int IntKind.i64 (↑i : Int), PV.int IntKind.i64 (wI ((↑k : Int) + 1))] [Ob.abs (rkT l sz), Ob.cells [PV.list (List.map csI (Prod.fst (putW w_1 m_1 t v))) Tail.no, PV.int IntKind.i64 m_1]])) False) False) False) False) False) (R (Ex.exit 6) [PV.bool false, PV.ptr 0 0, PV.ptr 1 0, PV.int IntKind.i64 n, PV.int IntKind.i64 y, PV.int IntKind.i64 m, PV.list (List.map csT w) Tail.no, PV.int IntKind.i64 (↑i : Int), PV.int IntKind.i64 (↑k : Int)] [Ob.abs (rkT l sz), Ob.cells [PV.list (List.map csI r) Tail.no, PV.int IntKind.i64 200]])) False) : Holds (wpc br Try.prog gl TO4 [] (fun o => match o.dst with | some 127 => 101002 | some 148 => 5 | some _ => 0 | none => match o.op with | .store _ (.tmp 5) _ => 101002 | _ => 0) (subOf [1, 1, 1, 1, 1, 1, 0, 1, 0, 0, 1, 0, 0, 1, 1, 1, 1, 0, 0, 1, 0, 0, 1, 1, 0] (bodyOf Try.f8)) [] (envS [2, 3, 5, 6, 7, 8, 9, 10, 11] [.bool false, .ptr 0 0, .ptr 1 0, .int .i64 n, .int .i64 y, .int .i64 m, .list (w.map csT) .no, .int .i64 i, .int .i64 k]) [.abs (rkT l sz), .cells [.list (r.map csI) .no, .int .i64 200]] (fun ex e H => R ex (List.map e [2, 3, 5, 6, 7, 8, 9, 10, 11]) H)) := holds_of_eq (by kernel_rfl) h
def mkR (ps : List Int) : List RwI := ps.map fun p => ⟨p, 0⟩
theorem mkR_len (ps : List Int) : (mkR ps).length = ps.length := by simp [mkR]
theorem mkR_app (ps qs : List Int) : mkR (ps ++ qs) = mkR ps ++ mkR qs := by simp [mkR]
structure PlOk (PL : List Int) : Prop where
  nd : PL.Nodup
  rt : ∀ p ∈ PL, rightS p = true
  ln : PL.length ≤ 199
theorem put_new {PL ps rest : List Int} {p : Int} (h : PlOk PL) (e : ps ++ p :: rest = PL) : putW (mkR ps) 200 p 0 = (mkR (ps ++ [p]), 0) := by
  have hp : p ∉ ps := by
    have := h.nd
    rw [← e] at this
    intro hm
    exact (List.nodup_append.1 this).2.2 p hm p (by simp) rfl
  have hr : rightS p = true := h.rt p (by rw [← e]; simp)
  have hl : ps.length < 200 := by have := h.ln; rw [← e] at this; simp at this; omega
  have hn : hasW (mkR ps) p = false := by
    rw [← Bool.not_eq_true, hasW_iff]
    rintro ⟨r, hr, e2⟩
    obtain ⟨q, hq, rfl⟩ := List.mem_map.1 hr
    exact hp (by rw [← e2]; exact hq)
  have hd : dropW (mkR ps) p = mkR ps := by
    unfold dropW
    rw [List.filter_eq_self.2]
    intro r hr
    obtain ⟨q, hq, rfl⟩ := List.mem_map.1 hr
    rw [bne_iff_ne]
    rintro rfl
    exact hp hq
  unfold putW
  rw [if_pos hr, if_neg (by rw [mkR_len]; rintro ⟨_, k⟩; omega), hd, mkR_app]; rfl
def o4_l : LSp := fun e H Q => ∃ (l : List Tk) (sz : List Int) (w : List Tk) (ps rem PL : List Int) (y m : Int) (i : Nat), QO 2 l ∧ Sml l ∧ i < w.length ∧ (∀ a ∈ w, a ∈ l) ∧ PlOk PL ∧ ps ++ ((w.getD i default).pl ++ rem) = PL ∧ SlIs (List.map e [2, 3, 5, 6, 7, 8, 9, 10, 11]) [.bool false, .ptr 0 0, .ptr 1 0, .int .i64 ps.length, .int .i64 y, .int .i64 m, .list (w.map csT) .no, .int .i64 i, .int .i64 0] ∧ HpIs H [.abs (rkT l sz), .cells [.list ((mkR ps).map csI) .no, .int .i64 200]] ∧
  Q (.exit 6) (envS [2, 3, 5, 6, 7, 8, 9, 10, 11] [.bool false, .ptr 0 0, .ptr 1 0, .int .i64 (ps ++ (w.getD i default).pl).length, .int .i64 y, .int .i64 m, .list (w.map csT) .no, .int .i64 i, .int .i64 (w.getD i default).pl.length]) [.abs (rkT l sz), .cells [.list ((mkR (ps ++ (w.getD i default).pl)).map csI) .no, .int .i64 200]]
theorem o4_l_ok : ∀ e H Q, o4_l e H Q → AW Try.prog gl Try.f8.ntmps (.loop (subOf [1, 1, 1, 1, 1, 1, 0, 1, 0, 0, 1, 0, 0, 1, 1, 1, 1, 0, 0, 1, 0, 0, 1, 1, 0] (bodyOf Try.f8))) Q e H := by
  rintro e H Q ⟨l, sz, w, ps, rem, PL, y, m, i, ho, s, hi, hw, hPL, hps, he, hH, hQ⟩
  obtain ⟨a, had⟩ : ∃ a, a = w.getD i default := ⟨_, rfl⟩
  rw [← had] at hps hQ
  have ha : a ∈ l := hw a (by rw [had]; exact getD_mem hi)
  have hal := ho.ln a ha
  refine aw_loop4 (hn := fun o => match o.dst with | some 127 => 101002 | some 148 => 5 | some _ => 0 | none => match o.op with | .store _ (.tmp 5) _ => 101002 | _ => 0) gl_low TO4_ok (.nil _ _ _ _ _) (σ := Nat) [2, 3, 5, 6, 7, 8, 9, 10, 11] (fun k => k ≤ a.pl.length) (fun k => [.bool false, .ptr 0 0, .ptr 1 0, .int .i64 ((ps ++ a.pl.take k).length : Nat), .int .i64 y, .int .i64 m, .list (w.map csT) .no, .int .i64 i, .int .i64 k]) (fun k => [.abs (rkT l sz), .cells [.list ((mkR (ps ++ a.pl.take k)).map csI) .no, .int .i64 200]]) (fun k => a.pl.length - k) 0 (Nat.zero_le _) (by rw [List.take_zero, List.append_nil]; exact he) (by rw [List.take_zero, List.append_nil]; exact hH) ?_
  intro k hk
  have hk : k ≤ a.pl.length := hk
  refine o4_vc l sz (mkR (ps ++ a.pl.take k)) w _ y m i k _ ?_
  simp only [br_if, dt, toNat_nat, inL_csT]
  rw [getD_map default hi, ← had]
  refine ⟨hi, ?_⟩
  rw [if_pos (by rfl)]
  have hcl : cL (List.drop 2 (csT a)) 0 = a.pl.map u1 := rfl
  rw [hcl]
  simp only [List.length_map, inL_u1]
  by_cases h : k < a.pl.length
  · rw [if_pos (by omega), getD_map 0 h]
    obtain ⟨p, hpd⟩ : ∃ p, p = a.pl.getD k 0 := ⟨_, rfl⟩
    have hci : cI (u1 (a.pl.getD k 0)) 0 = p := hpd.symm
    have hpm : p ∈ a.pl := by rw [hpd]; exact getD_mem h
    have hsplit : a.pl = a.pl.take k ++ p :: a.pl.drop (k + 1) := by
      rw [hpd, getD_eq' h, ← List.drop_eq_getElem_cons h, List.take_append_drop]
    have hst : (ps ++ a.pl.take k) ++ p :: (a.pl.drop (k + 1) ++ rem) = PL := by
      rw [← hps]
      conv => rhs; rw [hsplit]
      simp
    have hput := put_new hPL hst
    have htk : ps ++ a.pl.take (k + 1) = (ps ++ a.pl.take k) ++ [p] := by rw [take_snoc 0 h, ← hpd, List.append_assoc]
    have hpr : 1 ≤ p := right_ge (hPL.rt p (by rw [← hst]; simp))
    have hlen : (ps ++ a.pl.take k).length ≤ 199 := by have := hPL.ln; rw [← hst, List.length_append] at this; omega
    refine ⟨hi, ?_⟩
    rw [if_pos (by rfl)]
    refine ⟨h, ?_⟩
    rw [if_pos (by rfl), hci]
    refine ⟨mkR (ps ++ a.pl.take k), 200, p, 0, rfl, by rw [mkR_len]; omega, by omega, hi, ?_⟩
    rw [if_pos (by rfl)]
    refine ⟨h, ?_⟩
    rw [if_pos (by rfl), hput]
    refine ⟨0, l, sz, p, rfl, rfl, s, hi, ?_⟩
    rw [if_pos (by rfl)]
    have hid : cI (List.drop 0 (csT a)) 0 = a.id := rfl
    rw [hid, ofQ_of ho.prs ha hpm, if_neg (by simp)]
    refine ⟨k + 1, (show a.pl.length - (k + 1) < a.pl.length - k by omega), h, ?_, [], ?_, Nat.le_refl _, .inl rfl⟩
    · dsimp only
      rw [htk, wI_succ h (by omega), w_small (by omega) (by omega), List.length_append (bs := [p])]; rfl
    · dsimp only
      rw [htk]; rfl
  · rw [if_neg (by omega)]
    have : k = a.pl.length := by omega
    subst this
    rw [List.take_length]
    exact hQ
theorem o4_l_ok2 : ∀ e H Q, o4_l e H Q → AW Try.prog gl Try.f8.ntmps (.loop (subOf [1, 0, 0, 1, 1, 0] (subOf [1, 1, 1, 1, 1, 1, 0, 1, 0, 0, 1, 0, 0, 1, 1, 1, 1, 0] (bodyOf Try.f8)))) Q e H := by
  rw [show subOf [1, 0, 0, 1, 1, 0] (subOf [1, 1, 1, 1, 1, 1, 0, 1, 0, 0, 1, 0, 0, 1, 1, 1, 1, 0] (bodyOf Try.f8)) = subOf [1, 1, 1, 1, 1, 1, 0, 1, 0, 0, 1, 0, 0, 1, 1, 1, 1, 0, 0, 1, 0, 0, 1, 1, 0] (bodyOf Try.f8) from by kernel_rfl]; exact o4_l_ok
theorem o3_vc (l : List Tk) (sz : List Int) (r : List RwI) (w : List Tk) (n y m : Int) (i : Nat) (R : Ex → List PV → Heap → Prop) (h : br (decide ((↑i : Int) < (↑(List.length (List.map csT w)) : Int))) (br (decide ((↑i : Int) > 0) == true) (InL (List.map csT w) 5 (↑i : Int) ∧ br (true && fitX [CK.int IntKind.i64] 0 (List.drop 4 (List.getD (List.map csT w) (Int.toNat (↑i : Int)) []))) (InL (List.map csT w) 5 (wI ((↑i : Int) - 1)) ∧ br (true && fitX [CK.int IntKind.i64] 0 (List.drop 4 (List.getD (List.map csT w) (Int.toNat (wI ((↑i : Int) - 1))) []))) (br (decide (cI (List.drop 4 (List.getD (List.map csT w) (Int.toNat (↑i : Int)) [])) 0 < cI (List.drop 4 (List.getD (List.map csT w) (Int.toNat (wI ((↑i : Int) - 1))) [])) 0) == false) (InL (List.map csT w) 5 (↑i : Int) ∧ br (true && fitX [CK.int IntKind.i64] 0 (List.drop 4 (List.getD (List.map csT w) (Int.toNat (↑i : Int)) []))) (InL (List.map csT w) 5 (wI ((↑i : Int) - 1)) ∧ br (true && fitX [CK.int IntKind.i64] 0 (List.drop 4 (List.getD (List.map csT w) (Int.toNat (wI ((↑i : Int) - 1))) []))) (br ((cI (List.drop 4 (List.getD (List.map csT w) (Int.toNat (↑i : Int)) [])) 0 == cI (List.drop 4 (List.getD (List.map csT w) (Int.toNat (wI ((↑i : Int) - 1))) [])) 0) == true) (InL (List.map csT w) 5 (↑i : Int) ∧ br (true && fitX [CK.int IntKind.u32] 0 (List.drop 0 (List.getD (List.map csT w) (Int.toNat (↑i : Int)) []))) (InL (List.map csT w) 5 (wI ((↑i : Int) - 1)) ∧ br (true && fitX [CK.int IntKind.u32] 0 (List.drop 0 (List.getD (List.map csT w) (Int.toNat (wI ((↑i : Int) - 1))) []))) (br (decide (cI (List.drop 0 (List.getD (List.map csT w) (Int.toNat (↑i : Int)) [])) 0 ≤ cI (List.drop 0 (List.getD (List.map csT w) (Int.toNat (wI ((↑i : Int) - 1))) [])) 0) == false) (InL (List.map csT w) 5 (↑i : Int) ∧ br (true && fitX [CK.int IntKind.i64] 0 (List.drop 1 (List.getD (List.map csT w) (Int.toNat (↑i : Int)) []))) (br (cI (List.drop 1 (List.getD (List.map csT w) (Int.toNat (↑i : Int)) [])) 0 != m) (R Ex.ret [PV.bool false, PV.ptr 0 0, PV.ptr 1 0, PV.int IntKind.i64 n, PV.int IntKind.i64 y, PV.int IntKind.i64 m, PV.list (List.map csT w) Tail.no, PV.int IntKind.i64 (↑i : Int)] [Ob.abs (rkT l sz), Ob.cells [PV.list (List.map csI r) Tail.no, PV.int IntKind.i64 200]]) (∃ (l_1 : List Tk), ∃ (sz_1 : List Int), ∃ (w_1 : List Tk), ∃ (ps : List Int), ∃ (rem : List Int), ∃ (PL : List Int), ∃ (y_1 : Int), ∃ (m_1 : Int), ∃ (i_1 : Nat), QO 2 l_1 ∧ Sml l_1 ∧ i_1 < List.length w_1 ∧ (∀ (a : Tk), a ∈ w_1 → a ∈ l_1) ∧ PlOk PL ∧ ps ++ (Tk.pl (List.getD w_1 i_1 default) ++ rem) = PL ∧ SlIs [PV.bool false, PV.ptr 0 0, PV.ptr 1 0, PV.int IntKind.i64 n, PV.int IntKind.i64 y, PV.int IntKind.i64 m, PV.list (List.map csT w) Tail.no, PV.int IntKind.i64 (↑i : Int), PV.int IntKind.i64 0] [PV.bool false, PV.ptr 0 0, PV.ptr 1 0, PV.int IntKind.i64 (↑(List.length ps) : Int), PV.int IntKind.i64 y_1, PV.int IntKind.i64 m_1, PV.list (List.map csT w_1) Tail.no, PV.int IntKind.i64 (↑i_1 : Int), PV.int IntKind.i64 0] ∧ HpIs [Ob.abs (rkT l sz), Ob.cells [PV.list (List.map csI r) Tail.no, PV.int IntKind.i64 200]] [Ob.abs (rkT l_1 sz_1), Ob.cells [PV.list (List.map csI (mkR ps)) Tail.no, PV.int IntKind.i64 200]] ∧ R Ex.normal [PV.bool false, PV.ptr 0 0, PV.ptr 1 0, PV.int IntKind.i64 (↑(List.length (ps ++ Tk.pl (List.getD w_1 i_1 default))) : Int), PV.int IntKind.i64 y_1, PV.int IntKind.i64 m_1, PV.list (List.map csT w_1) Tail.no, PV.int IntKind.i64 (wI ((↑i_1 : Int) + 1))] [Ob.abs (rkT l_1 sz_1), Ob.cells [PV.list (List.map csI (mkR (ps ++ Tk.pl (List.getD w_1 i_1 default)))) Tail.no, PV.int IntKind.i64 200]])) False) (R Ex.ret [PV.bool false, PV.ptr 0 0, PV.ptr 1 0, PV.int IntKind.i64 n, PV.int IntKind.i64 y, PV.int IntKind.i64 m, PV.list (List.map csT w) Tail.no, PV.int IntKind.i64 (↑i : Int)] [Ob.abs (rkT l sz), Ob.cells [PV.list (List.map csI r) Tail.no, PV.int IntKind.i64 200]])) False) False) (InL (List.map csT w) 5 (↑i : Int) ∧ br (true && fitX [CK.int IntKind.i64] 0 (List.drop 1 (List.getD (List.map csT w) (Int.toNat (↑i : Int)) []))) (br (cI (List.drop 1 (List.getD (List.map csT w) (Int.toNat (↑i : Int)) [])) 0 != m) (R Ex.ret [PV.bool false, PV.ptr 0 0, PV.ptr 1 0, PV.int IntKind.i64 n, PV.int IntKind.i64 y, PV.int IntKind.i64 m, PV.list (List.map csT w) Tail.no, PV.int IntKind.i64 (↑i : Int)] [Ob.abs (rkT l sz), Ob.cells [PV.list (List.map csI r) Tail.no, PV.int IntKind.i64 200]]) (∃ (l_1 : List Tk), ∃ (sz_1 : List Int), ∃ (w_1 : List Tk), ∃ (ps : List Int), ∃ (rem : List Int), ∃ (PL : List Int), ∃ (y_1 : Int), ∃ (m_1 : Int), ∃ (i_1 : Nat), QO 2 l_1 ∧ Sml l_1 ∧ i_1 < List.length w_1 ∧ (∀ (a : Tk), a ∈ w_1 → a ∈ l_1) ∧ PlOk PL ∧ ps ++ (Tk.pl (List.getD w_1 i_1 default) ++ rem) = PL ∧ SlIs [PV.bool false, PV.ptr 0 0, PV.ptr 1 0, PV.int IntKind.i64 n, PV.int IntKind.i64 y, PV.int IntKind.i64 m, PV.list (List.map csT w) Tail.no, PV.int IntKind.i64 (↑i : Int), PV.int IntKind.i64 0] [PV.bool false, PV.ptr 0 0, PV.ptr 1 0, PV.int IntKind.i64 (↑(List.length ps) : Int), PV.int IntKind.i64 y_1, PV.int IntKind.i64 m_1, PV.list (List.map csT w_1) Tail.no, PV.int IntKind.i64 (↑i_1 : Int), PV.int IntKind.i64 0] ∧ HpIs [Ob.abs (rkT l sz), Ob.cells [PV.list (List.map csI r) Tail.no, PV.int IntKind.i64 200]] [Ob.abs (rkT l_1 sz_1), Ob.cells [PV.list (List.map csI (mkR ps)) Tail.no, PV.int IntKind.i64 200]] ∧ R Ex.normal [PV.bool false, PV.ptr 0 0, PV.ptr 1 0, PV.int IntKind.i64 (↑(List.length (ps ++ Tk.pl (List.getD w_1 i_1 default))) : Int), PV.int IntKind.i64 y_1, PV.int IntKind.i64 m_1, PV.list (List.map csT w_1) Tail.no, PV.int IntKind.i64 (wI ((↑i_1 : Int) + 1))] [Ob.abs (rkT l_1 sz_1), Ob.cells [PV.list (List.map csI (mkR (ps ++ Tk.pl (List.getD w_1 i_1 default)))) Tail.no, PV.int IntKind.i64 200]])) False)) False) False) (R Ex.ret [PV.bool false, PV.ptr 0 0, PV.ptr 1 0, PV.int IntKind.i64 n, PV.int IntKind.i64 y, PV.int IntKind.i64 m, PV.list (List.map csT w) Tail.no, PV.int IntKind.i64 (↑i : Int)] [Ob.abs (rkT l sz), Ob.cells [PV.list (List.map csI r) Tail.no, PV.int IntKind.i64 200]])) False) False) (InL (List.map csT w) 5 (↑i : Int) ∧ br (true && fitX [CK.int IntKind.i64] 0 (List.drop 1 (List.getD (List.map csT w) (Int.toNat (↑i : Int)) []))) (br (cI (List.drop 1 (List.getD (List.map csT w) (Int.toNat (↑i : Int)) [])) 0 != m) (R Ex.ret [PV.bool false, PV.ptr 0 0, PV.ptr 1 0, PV.int IntKind.i64 n, PV.int IntKind.i64 y, PV.int IntKind.i64 m, PV.list (List.map csT w) Tail.no, PV.int IntKind.i64 (↑i : Int)] [Ob.abs (rkT l sz), Ob.cells [PV.list (List.map csI r) Tail.no, PV.int IntKind.i64 200]]) (∃ (l_1 : List Tk), ∃ (sz_1 : List Int), ∃ (w_1 : List Tk), ∃ (ps : List Int), ∃ (rem : List Int), ∃ (PL : List Int), ∃ (y_1 : Int), ∃ (m_1 : Int), ∃ (i_1 : Nat), QO 2 l_1 ∧ Sml l_1 ∧ i_1 < List.length w_1 ∧ (∀ (a : Tk), a ∈ w_1 → a ∈ l_1) ∧ PlOk PL ∧ ps ++ (Tk.pl (List.getD w_1 i_1 default) ++ rem) = PL ∧ SlIs [PV.bool false, PV.ptr 0 0, PV.ptr 1 0, PV.int IntKind.i64 n, PV.int IntKind.i64 y, PV.int IntKind.i64 m, PV.list (List.map csT w) Tail.no, PV.int IntKind.i64 (↑i : Int), PV.int IntKind.i64 0] [PV.bool false, PV.ptr 0 0, PV.ptr 1 0, PV.int IntKind.i64 (↑(List.length ps) : Int), PV.int IntKind.i64 y_1, PV.int IntKind.i64 m_1, PV.list (List.map csT w_1) Tail.no, PV.int IntKind.i64 (↑i_1 : Int), PV.int IntKind.i64 0] ∧ HpIs [Ob.abs (rkT l sz), Ob.cells [PV.list (List.map csI r) Tail.no, PV.int IntKind.i64 200]] [Ob.abs (rkT l_1 sz_1), Ob.cells [PV.list (List.map csI (mkR ps)) Tail.no, PV.int IntKind.i64 200]] ∧ R Ex.normal [PV.bool false, PV.ptr 0 0, PV.ptr 1 0, PV.int IntKind.i64 (↑(List.length (ps ++ Tk.pl (List.getD w_1 i_1 default))) : Int), PV.int IntKind.i64 y_1, PV.int IntKind.i64 m_1, PV.list (List.map csT w_1) Tail.no, PV.int IntKind.i64 (wI ((↑i_1 : Int) + 1))] [Ob.abs (rkT l_1 sz_1), Ob.cells [PV.list (List.map csI (mkR (ps ++ Tk.pl (List.getD w_1 i_1 default)))) Tail.no, PV.int IntKind.i64 200]])) False)) (R (Ex.exit 4) [PV.bool false, PV.ptr 0 0, PV.ptr 1 0, PV.int IntKind.i64 n, PV.int IntKind.i64 y, PV.int IntKind.i64 m, PV.list (List.map csT w) Tail.no, PV.int IntKind.i64 (↑i : Int)] [Ob.abs (rkT l sz), Ob.cells [PV.list (List.map csI r) Tail.no, PV.int IntKind.i64 200]])) : Holds (wpc br Try.prog gl [] [([1, 0, 0, 1, 1, 0], o4_l)] (fun _ => 0) (subOf [1, 1, 1, 1, 1, 1, 0, 1, 0, 0, 1, 0, 0, 1, 1, 1, 1, 0] (bodyOf Try.f8)) [] (envS [2, 3, 5, 6, 7, 8, 9, 10] [.bool false, .ptr 0 0, .ptr 1 0, .int .i64 n, .int .i64 y, .int .i64 m, .list (w.map csT) .no, .int .i64 i]) [.abs (rkT l sz), .cells [.list (r.map csI) .no, .int .i64 200]] (fun ex e H => R ex (List.map e [2, 3, 5, 6, 7, 8, 9, 10]) H)) := holds_of_eq (by kernel_rfl) h
def fl (w : List Tk) : List Int := (w.map Tk.pl).flatten
theorem fl_app (a b : List Tk) : fl (a ++ b) = fl a ++ fl b := by simp [fl]
theorem fl_one (a : Tk) : fl [a] = a.pl := by simp [fl]
def o3_l : LSp := fun e H Q => ∃ (l : List Tk) (sz : List Int) (w : List Tk) (ps rem PL : List Int) (y m : Int), QO 2 l ∧ Sml l ∧ w.length ≤ 16 ∧ Srt w ∧ (∀ a ∈ w, a ∈ l) ∧ (∀ a ∈ w, a.md = m) ∧ PlOk PL ∧ ps ++ (fl w ++ rem) = PL ∧ SlIs (List.map e [2, 3, 5, 6, 7, 8, 9, 10]) [.bool false, .ptr 0 0, .ptr 1 0, .int .i64 ps.length, .int .i64 y, .int .i64 m, .list (w.map csT) .no, .int .i64 0] ∧ HpIs H [.abs (rkT l sz), .cells [.list ((mkR ps).map csI) .no, .int .i64 200]] ∧
  Q (.exit 4) (envS [2, 3, 5, 6, 7, 8, 9, 10] [.bool false, .ptr 0 0, .ptr 1 0, .int .i64 (ps ++ fl w).length, .int .i64 y, .int .i64 m, .list (w.map csT) .no, .int .i64 w.length]) [.abs (rkT l sz), .cells [.list ((mkR (ps ++ fl w)).map csI) .no, .int .i64 200]]
theorem o3_l_ok : ∀ e H Q, o3_l e H Q → AW Try.prog gl Try.f8.ntmps (.loop (subOf [1, 1, 1, 1, 1, 1, 0, 1, 0, 0, 1, 0, 0, 1, 1, 1, 1, 0] (bodyOf Try.f8))) Q e H := by
  rintro e H Q ⟨l, sz, w, ps, rem, PL, y, m, ho, s, hwl, hs, hw, hm, hPL, hps, he, hH, hQ⟩
  refine aw_loop4 (hn := fun _ => 0) gl_low (.nil _ _) (.cons (sub_of (by kernel_rfl)) o4_l_ok2 (.nil _ _ _ _ _)) (σ := Nat) [2, 3, 5, 6, 7, 8, 9, 10] (fun i => i ≤ w.length) (fun i => [.bool false, .ptr 0 0, .ptr 1 0, .int .i64 ((ps ++ fl (w.take i)).length : Nat), .int .i64 y, .int .i64 m, .list (w.map csT) .no, .int .i64 i]) (fun i => [.abs (rkT l sz), .cells [.list ((mkR (ps ++ fl (w.take i))).map csI) .no, .int .i64 200]]) (fun i => w.length - i) 0 (Nat.zero_le _) (by simp only [List.take_zero, fl, List.map_nil, List.flatten_nil, List.append_nil]; exact he) (by simp only [List.take_zero, fl, List.map_nil, List.flatten_nil, List.append_nil]; exact hH) ?_
  intro i hi
  have hi : i ≤ w.length := hi
  refine o3_vc l sz (mkR (ps ++ fl (w.take i))) w _ y m i _ ?_
  simp only [br_if, dt, toNat_nat, List.length_map]
  by_cases h : i < w.length
  · rw [if_pos (by omega)]
    simp only [inL_csT, getD_map default h]
    have hsn : ps ++ fl (w.take (i + 1)) = (ps ++ fl (w.take i)) ++ (w.getD i default).pl := by rw [take_snoc default h, fl_app, fl_one, List.append_assoc]
    have hst : (ps ++ fl (w.take i)) ++ ((w.getD i default).pl ++ (fl (w.drop (i + 1)) ++ rem)) = PL := by
      have h1 : fl w = fl (w.take (i + 1)) ++ fl (w.drop (i + 1)) := by rw [← fl_app, List.take_append_drop]
      rw [← List.append_assoc, ← hsn, ← hps, h1]
      simp only [List.append_assoc]
    have hmd : cI (List.drop 1 (csT (w.getD i default))) 0 = (w.getD i default).md := rfl
    have hsi : ∀ a : Tk, cI (List.drop 4 (csT a)) 0 = a.si := fun _ => rfl
    have hid : ∀ a : Tk, cI (List.drop 0 (csT a)) 0 = a.id := fun _ => rfl
    cases i with
    | zero =>
      rw [if_neg (by decide)]
      refine ⟨h, ?_⟩
      rw [if_pos (by rfl), hmd, if_neg (by rw [hm _ (getD_mem h)]; simp)]
      refine ⟨l, sz, w, ps ++ fl (w.take 0), fl (w.drop (0 + 1)) ++ rem, PL, y, m, 0, ho, s, h, fun a ha => hw a ha, hPL, hst, rfl, rfl, 0 + 1, (show w.length - (0 + 1) < w.length - 0 by omega), h, ?_, [], ?_, Nat.le_refl _, .inl rfl⟩
      · dsimp only
        rw [hsn, wI_succ h (by omega)]
      · dsimp only
        rw [hsn]; rfl
    | succ j =>
      have ew : wI (((j + 1 : Nat) : Int) - 1) = (j : Int) := by rw [w_small (by omega) (by omega)]; omega
      have hj : j < w.length := by omega
      have hb := srt_get hs (show j < j + 1 by omega) h
      simp only [ew, toNat_nat, inL_csT, getD_map default hj, hsi, hid]
      unfold bef at hb
      rw [if_pos (by simp)]
      refine ⟨h, ?_⟩
      rw [if_pos (by rfl)]
      refine ⟨hj, ?_⟩
      rw [if_pos (by rfl)]
      obtain ⟨x, hx⟩ : ∃ x, x = (w.getD j default).si := ⟨_, rfl⟩
      obtain ⟨z, hz⟩ : ∃ z, z = (w.getD (j + 1) default).si := ⟨_, rfl⟩
      rw [← hx, ← hz] at hb ⊢
      rw [if_pos (by rw [decide_eq_false (by omega)]; rfl)]
      refine ⟨h, ?_⟩
      rw [if_pos (by rfl)]
      refine ⟨hj, ?_⟩
      rw [if_pos (by rfl)]
      by_cases c : z = x
      · rw [if_pos (by rw [c]; simp)]
        refine ⟨h, ?_⟩
        rw [if_pos (by rfl)]
        refine ⟨hj, ?_⟩
        rw [if_pos (by rfl), if_pos (by rw [decide_eq_false (by omega)]; rfl)]
        refine ⟨h, ?_⟩
        rw [if_pos (by rfl), hmd, if_neg (by rw [hm _ (getD_mem h)]; simp)]
        refine ⟨l, sz, w, ps ++ fl (w.take (j + 1)), fl (w.drop ((j + 1) + 1)) ++ rem, PL, y, m, (j + 1), ho, s, h, fun a ha => hw a ha, hPL, hst, rfl, rfl, (j + 1) + 1, (show w.length - ((j + 1) + 1) < w.length - (j + 1) by omega), h, ?_, [], ?_, Nat.le_refl _, .inl rfl⟩
        · dsimp only
          rw [hsn, wI_succ h (by omega)]
        · dsimp only
          rw [hsn]; rfl
      · rw [if_neg (by rw [show (z == x) = false from by simpa using c]; decide)]
        refine ⟨h, ?_⟩
        rw [if_pos (by rfl), hmd, if_neg (by rw [hm _ (getD_mem h)]; simp)]
        refine ⟨l, sz, w, ps ++ fl (w.take (j + 1)), fl (w.drop ((j + 1) + 1)) ++ rem, PL, y, m, (j + 1), ho, s, h, fun a ha => hw a ha, hPL, hst, rfl, rfl, (j + 1) + 1, (show w.length - ((j + 1) + 1) < w.length - (j + 1) by omega), h, ?_, [], ?_, Nat.le_refl _, .inl rfl⟩
        · dsimp only
          rw [hsn, wI_succ h (by omega)]
        · dsimp only
          rw [hsn]; rfl
  · rw [if_neg (by omega)]
    have : i = w.length := by omega
    subst this
    rw [List.take_length]
    exact hQ
theorem o3_l_ok2 : ∀ e H Q, o3_l e H Q → AW Try.prog gl Try.f8.ntmps (.loop (subOf [1, 0, 0, 1, 1, 1, 1, 0] (subOf [1, 1, 1, 1, 1, 1, 0, 1, 0] (bodyOf Try.f8)))) Q e H := by
  rw [show subOf [1, 0, 0, 1, 1, 1, 1, 0] (subOf [1, 1, 1, 1, 1, 1, 0, 1, 0] (bodyOf Try.f8)) = subOf [1, 1, 1, 1, 1, 1, 0, 1, 0, 0, 1, 0, 0, 1, 1, 1, 1, 0] (bodyOf Try.f8) from by kernel_rfl]; exact o3_l_ok
theorem o2_vc (l : List Tk) (sz : List Int) (r : List RwI) (n y m : Int) (R : Ex → List PV → Heap → Prop) (h : br (decide (m < 2)) (∃ (q : Nat), ∃ (l_1 : List Tk), ∃ (sz_1 : List Int), ∃ (m_1 : Int), SlIs [PV.ptr 0 0, PV.int IntKind.i64 m] [PV.ptr q 0, PV.int IntKind.i64 m_1] ∧ AbIs [Ob.abs (rkT l sz), Ob.cells [PV.list (List.map csI r) Tail.no, PV.int IntKind.i64 200]] q (rkT l_1 sz_1) ∧ Sml l_1 ∧ br (decide ((↑(List.length (List.map csT (modeL l_1 m_1))) : Int) > 16)) (R Ex.ret [PV.bool false, PV.ptr 0 0, PV.ptr 1 0, PV.int IntKind.i64 n, PV.int IntKind.i64 (wI (y + (↑(List.length (List.map csT (modeL l_1 m_1))) : Int))), PV.int IntKind.i64 m] [Ob.abs (rkT l sz), Ob.cells [PV.list (List.map csI r) Tail.no, PV.int IntKind.i64 200]]) (∃ (l_2 : List Tk), ∃ (sz_2 : List Int), ∃ (w : List Tk), ∃ (ps : List Int), ∃ (rem : List Int), ∃ (PL : List Int), ∃ (y_1 : Int), ∃ (m_2 : Int), QO 2 l_2 ∧ Sml l_2 ∧ List.length w ≤ 16 ∧ Srt w ∧ (∀ (a : Tk), a ∈ w → a ∈ l_2) ∧ (∀ (a : Tk), a ∈ w → Tk.md a = m_2) ∧ PlOk PL ∧ ps ++ (fl w ++ rem) = PL ∧ SlIs [PV.bool false, PV.ptr 0 0, PV.ptr 1 0, PV.int IntKind.i64 n, PV.int IntKind.i64 (wI (y + (↑(List.length (List.map csT (modeL l_1 m_1))) : Int))), PV.int IntKind.i64 m, PV.list (List.map csT (modeL l_1 m_1)) Tail.no, PV.int IntKind.i64 0] [PV.bool false, PV.ptr 0 0, PV.ptr 1 0, PV.int IntKind.i64 (↑(List.length ps) : Int), PV.int IntKind.i64 y_1, PV.int IntKind.i64 m_2, PV.list (List.map csT w) Tail.no, PV.int IntKind.i64 0] ∧ HpIs [Ob.abs (rkT l sz), Ob.cells [PV.list (List.map csI r) Tail.no, PV.int IntKind.i64 200]] [Ob.abs (rkT l_2 sz_2), Ob.cells [PV.list (List.map csI (mkR ps)) Tail.no, PV.int IntKind.i64 200]] ∧ R Ex.normal [PV.bool false, PV.ptr 0 0, PV.ptr 1 0, PV.int IntKind.i64 (↑(List.length (ps ++ fl w)) : Int), PV.int IntKind.i64 y_1, PV.int IntKind.i64 (wI (m_2 + 1))] [Ob.abs (rkT l_2 sz_2), Ob.cells [PV.list (List.map csI (mkR (ps ++ fl w))) Tail.no, PV.int IntKind.i64 200]])) (R (Ex.exit 2) [PV.bool false, PV.ptr 0 0, PV.ptr 1 0, PV.int IntKind.i64 n, PV.int IntKind.i64 y, PV.int IntKind.i64 m] [Ob.abs (rkT l sz), Ob.cells [PV.list (List.map csI r) Tail.no, PV.int IntKind.i64 200]])) : Holds (wpc br Try.prog gl TO2 [([1, 0, 0, 1, 1, 1, 1, 0], o3_l)] (fun _ => 0) (subOf [1, 1, 1, 1, 1, 1, 0, 1, 0] (bodyOf Try.f8)) [] (envS [2, 3, 5, 6, 7, 8] [.bool false, .ptr 0 0, .ptr 1 0, .int .i64 n, .int .i64 y, .int .i64 m]) [.abs (rkT l sz), .cells [.list (r.map csI) .no, .int .i64 200]] (fun ex e H => R ex (List.map e [2, 3, 5, 6, 7, 8]) H)) := holds_of_eq (by kernel_rfl) h
theorem fl_len {w : List Tk} {b : Nat} (h : ∀ a ∈ w, a.pl.length ≤ b) : (fl w).length ≤ w.length * b := by
  induction w with
  | nil => simp [fl]
  | cons a w ih =>
    have h1 := h a (by simp)
    have h2 := ih fun x hx => h x (by simp [hx])
    unfold fl at h2 ⊢
    rw [List.map_cons, List.flatten_cons, List.length_append, List.length_cons, Nat.succ_mul]
    omega
theorem two_modes {l : List Tk} (h : QO 2 l) : (modeL l 0 ++ modeL l 1).Perm l := by
  unfold modeL
  have key : l.filter (fun t => t.md == 1) = l.filter (fun t => !(t.md == 0)) := by
    refine List.filter_congr fun t ht => ?_
    have := h.md t ht
    rw [Bool.eq_iff_iff, beq_iff_eq]
    simp only [Bool.not_eq_true', beq_eq_false_iff_ne]
    omega
  rw [key]
  exact List.filter_append_perm _ _
theorem pl_ok {l : List Tk} (h : QO 2 l) (p : QP [1, 4] l) : PlOk (fl (modeL l 0) ++ fl (modeL l 1)) := by
  have hp := two_modes h
  rw [← fl_app]
  refine ⟨?_, fun q hq => ?_, ?_⟩
  · unfold fl List.Nodup
    rw [List.pairwise_flatten]
    refine ⟨fun x hx => ?_, ?_⟩
    · obtain ⟨a, ha, rfl⟩ := List.mem_map.1 hx
      exact h.nd a (hp.mem_iff.1 ha)
    · rw [List.pairwise_map]
      refine (hp.symm.pairwise h.prs fun h p h1 h2 => h p h2 h1).imp ?_
      intro a b h x hx y hy e
      exact h x hx (by rw [e]; exact hy)
  · unfold fl at hq
    obtain ⟨x, hx, h2⟩ := List.mem_flatten.1 hq
    obtain ⟨a, ha, rfl⟩ := List.mem_map.1 hx
    have := h.gd a (hp.mem_iff.1 ha)
    unfold badP at this
    rw [List.any_eq_false] at this
    simpa using this q h2
  · rw [fl_app, List.length_append]
    have md : ∀ {m : Int} {a : Tk}, a ∈ modeL l m → a ∈ l ∧ a.md = m := fun h => by
      obtain ⟨h1, h2⟩ := List.mem_filter.1 h
      exact ⟨h1, by simpa using h2⟩
    have h0 : (fl (modeL l 0)).length ≤ (modeL l 0).length * 1 := fl_len fun a ha => by
      obtain ⟨h1, h2⟩ := md ha
      have := (p a h1).2.1
      rw [h2] at this
      have e : ([1, 4] : List Int).getD (0 : Int).toNat 0 = 1 := rfl
      rw [e] at this; omega
    have h1 : (fl (modeL l 1)).length ≤ (modeL l 1).length * 4 := fl_len fun a ha => by
      obtain ⟨h1, h2⟩ := md ha
      have := (p a h1).2.1
      rw [h2] at this
      have e : ([1, 4] : List Int).getD (1 : Int).toNat 0 = 4 := rfl
      rw [e] at this; omega
    have := h.full 0
    have := h.full 1
    omega
def upTo (l : List Tk) (m : Nat) : List Int := if m = 0 then [] else if m = 1 then fl (modeL l 0) else fl (modeL l 0) ++ fl (modeL l 1)
def manyTo (l : List Tk) (m : Nat) : Nat := if m = 0 then 0 else if m = 1 then (modeL l 0).length else (modeL l 0).length + (modeL l 1).length
def o2_l : LSp := fun e H Q => ∃ (l : List Tk) (sz : List Int), QO 2 l ∧ QP [1, 4] l ∧ Sml l ∧ SlIs (List.map e [2, 3, 5, 6, 7, 8]) [.bool false, .ptr 0 0, .ptr 1 0, .int .i64 0, .int .i64 0, .int .i64 0] ∧ HpIs H [.abs (rkT l sz), .cells [.list [] .exact, .int .i64 200]] ∧
  Q (.exit 2) (envS [2, 3, 5, 6, 7, 8] [.bool false, .ptr 0 0, .ptr 1 0, .int .i64 (fl (modeL l 0) ++ fl (modeL l 1)).length, .int .i64 ((modeL l 0).length + (modeL l 1).length : Nat), .int .i64 2]) [.abs (rkT l sz), .cells [.list ((mkR (fl (modeL l 0) ++ fl (modeL l 1))).map csI) .no, .int .i64 200]]
theorem o2_l_ok : ∀ e H Q, o2_l e H Q → AW Try.prog gl Try.f8.ntmps (.loop (subOf [1, 1, 1, 1, 1, 1, 0, 1, 0] (bodyOf Try.f8))) Q e H := by
  rintro e H Q ⟨l, sz, ho, hp, s, he, hH, hQ⟩
  have hPL := pl_ok ho hp
  have f0 := ho.full 0
  have f1 := ho.full 1
  have hH : H = _ := hH
  subst hH
  refine AW.wkheap (H1 := [.abs (rkT l sz), .cells [.list [] .no, .int .i64 200]]) (wkH_set (H := [.abs (rkT l sz), .cells [.list [] .exact, .int .i64 200]]) (q := 1) rfl (.cons (.list _ _) (.cons (.refl _) .nil))) ?_
  refine aw_loop4 (hn := fun _ => 0) gl_low TO2_ok (.cons (sub_of (by kernel_rfl)) o3_l_ok2 (.nil _ _ _ _ _)) (σ := Nat) [2, 3, 5, 6, 7, 8] (fun m => m ≤ 2) (fun m => [.bool false, .ptr 0 0, .ptr 1 0, .int .i64 ((upTo l m).length : Nat), .int .i64 (manyTo l m : Nat), .int .i64 m]) (fun m => [.abs (rkT l sz), .cells [.list ((mkR (upTo l m)).map csI) .no, .int .i64 200]]) (fun m => 2 - m) 0 (Nat.zero_le _) he rfl ?_
  intro m hm
  have hm : m ≤ 2 := hm
  have sub : ∀ k : Int, (modeL l k).length ≤ 16 ∧ Srt (modeL l k) ∧ (∀ a ∈ modeL l k, a ∈ l) ∧ (∀ a ∈ modeL l k, a.md = k) := fun k => ⟨ho.full k, ho.rise.sublist List.filter_sublist, fun a ha => (List.mem_filter.1 ha).1, fun a ha => by simpa using (List.mem_filter.1 ha).2⟩
  have hcase : m < 2 → ∃ rem, upTo l m ++ (fl (modeL l m) ++ rem) = fl (modeL l 0) ++ fl (modeL l 1) ∧ upTo l (m + 1) = upTo l m ++ fl (modeL l m) ∧ manyTo l (m + 1) = manyTo l m + (modeL l m).length := by
    intro h
    rcases (show m = 0 ∨ m = 1 by omega) with rfl | rfl
    · exact ⟨fl (modeL l 1), rfl, rfl, by simp [manyTo]⟩
    · exact ⟨[], by simp [upTo], rfl, rfl⟩
  refine o2_vc l sz (mkR (upTo l m)) _ _ m _ ?_
  simp only [br_if, dt, List.length_map]
  by_cases c : m < 2
  · obtain ⟨rem, e1, e2, e3⟩ := hcase c
    rw [if_pos (by omega)]
    obtain ⟨a1, a2, a3, a4⟩ := sub m
    refine ⟨0, l, sz, (m : Int), rfl, rfl, s, ?_⟩
    rw [if_neg (by omega)]
    have hle : manyTo l m ≤ 64 := by
      unfold manyTo
      split
      · omega
      · split <;> omega
    refine ⟨l, sz, modeL l m, upTo l m, rem, _, _, m, ho, s, a1, a2, a3, a4, hPL, e1, rfl, rfl, m + 1, (show 2 - (m + 1) < 2 - m by omega), c, ?_, [], ?_, Nat.le_refl _, .inl rfl⟩
    · dsimp only
      rw [e2, e3, wI_succ c (by decide), w_small (n := (manyTo l m : Int) + (modeL l m).length) (by omega) (by omega)]; rfl
    · dsimp only
      rw [e2]; rfl
  · rw [if_neg (by omega)]
    have : m = 2 := by omega
    subst this
    exact hQ
def o1_l : LSp := fun e H Q => ∃ (ts : List Tk) (sz : List Int), sz.length = 2 ∧ ts.length ≤ 60 ∧ SlIs (List.map e [0, 2, 3, 4]) [.list (ts.map csT) .no, .bool false, .ptr 0 0, .int .i64 0] ∧ HpIs H [.abs (rkT [] sz)] ∧
  (∀ l : List Tk, QO 2 l → QP sz l → l.length ≤ 60 → Q (.exit 0) (envS [0, 2, 3, 4] [.list (ts.map csT) .no, .bool false, .ptr 0 0, .int .i64 ts.length]) [.abs (rkT l sz)]) ∧ (∀ (l : List Tk) (i : Nat), Q .ret (envS [0, 2, 3, 4] [.list (ts.map csT) .no, .bool true, .ptr 0 0, .int .i64 i]) [.abs (rkT l sz)])
theorem o1_l_ok : ∀ e H Q, o1_l e H Q → AW Try.prog gl Try.f8.ntmps (.loop (subOf [1, 1, 1, 0, 1, 0] (bodyOf Try.f8))) Q e H := by
  rintro e H Q ⟨ts, sz, hsz, hts, he, hH, hQ1, hQ2⟩
  refine aw_loop4 (hn := fun _ => 0) gl_low TO1_ok (.nil _ _ _ _ _) (σ := Nat × List Tk) [0, 2, 3, 4] (fun s => s.1 ≤ ts.length ∧ s.2.length ≤ s.1 ∧ QO 2 s.2 ∧ QP sz s.2) (fun s => [.list (ts.map csT) .no, .bool false, .ptr 0 0, .int .i64 s.1]) (fun s => [.abs (rkT s.2 sz)]) (fun s => ts.length - s.1) (0, []) ⟨Nat.zero_le _, Nat.le_refl _, QO.nil 2, fun _ h => by simp at h⟩ he hH ?_
  rintro ⟨i, l⟩ ⟨hi, hl, ho, hp⟩
  have hi : i ≤ ts.length := hi
  have hl : l.length ≤ i := hl
  have ho : QO 2 l := ho
  refine o1_vc ts l sz i _ ?_
  simp only [br_if, dt, toNat_nat, List.length_map]
  by_cases h : i < ts.length
  · rw [if_pos (by omega), inL_csT, getD_map default h]
    refine ⟨h, ?_⟩
    rw [if_pos (by rfl)]
    obtain ⟨t, htd⟩ : ∃ t, t = ts.getD i default := ⟨_, rfl⟩
    rw [← htd]
    have hcl : cL (List.drop 2 (csT t)) 0 = t.pl.map u1 := rfl
    rw [hcl, List.length_map]
    by_cases c8 : t.pl.length > 8
    · rw [if_pos (by omega)]
      exact hQ2 l i
    rw [if_neg (by omega)]
    refine ⟨h, ?_⟩
    rw [if_pos (by rfl)]
    refine ⟨t, .no, rfl, by omega, l, sz, t, .no, rfl, rfl, ho.sml (by omega), lbT_ok ho.rise t, by omega, ?_⟩
    refine ⟨(i + 1, putQ sz l t), (show ts.length - (i + 1) < ts.length - i by omega), ⟨h, ?_, ho.put (by rw [hsz]; rfl) (by omega), hp.put t⟩, by dsimp only; rw [wI_succ h (by omega)], [], rfl, Nat.le_refl _, .inl rfl⟩
    show (putQ sz l t).length ≤ i + 1
    have := putQ_len sz ho.rise t; omega
  · rw [if_neg (by omega)]
    have : i = ts.length := by omega
    subst this
    exact hQ1 l ho hp (by omega)
def TON : Tab := [(42, .pure us_s), (41, .heap new_s), (47, .read len_s), (48, .pure fun args K => SlIs args [] ∧ K (.bool true))]
theorem TON_ok : TabOk Try.prog gl TON := .cons us_ok (.cons new_ok (.cons len_ok (.cons aw_ok (.nil _ _))))
theorem on_vc (ts : List Tk)  (K : PV → Prop) (h : br (decide ((↑(List.length (List.map csT ts)) : Int) > 60)) (K (PV.bool true)) (∃ (ms : List Mo), ∃ (tl : Tail), SlIs [PV.list [[PV.int IntKind.i64 1, PV.int IntKind.i64 0, PV.int IntKind.i64 0, PV.int IntKind.i64 0, PV.int IntKind.i64 0], [PV.int IntKind.i64 4, PV.int IntKind.i64 0, PV.int IntKind.i64 0, PV.int IntKind.i64 0, PV.int IntKind.i64 0]] Tail.exact] [PV.list (List.map Mo.cs ms) tl] ∧ List.length ms ≤ 1000000 ∧ ∃ (key : ByteArray), ∃ (f0 : Int), ∃ (f1 : Int), ∃ (f2 : Int), ∃ (f3 : Int), ∃ (f4 : Int), ∃ (f5 : Int), ∃ (f6 : Int), ∃ (f7 : Int), ∃ (f8 : Int), ∃ (f9 : Int), ∃ (f10 : Int), ∃ (f11 : Int), ∃ (ms_1 : List Mo), SlIs [PV.agg [PV.str N_tilt, PV.int IntKind.i64 16, PV.int IntKind.i64 16, PV.int IntKind.i64 8, PV.int IntKind.i64 4, PV.int IntKind.i64 100, PV.int IntKind.i64 50, PV.int IntKind.i64 20, PV.int IntKind.i64 10, PV.int IntKind.i64 15, PV.int IntKind.i64 30, PV.int IntKind.i64 20, PV.int IntKind.i64 8192, PV.list (List.map Mo.cs ms) Tail.no]] [PV.agg [PV.str key, PV.int IntKind.i64 f0, PV.int IntKind.i64 f1, PV.int IntKind.i64 f2, PV.int IntKind.i64 f3, PV.int IntKind.i64 f4, PV.int IntKind.i64 f5, PV.int IntKind.i64 f6, PV.int IntKind.i64 f7, PV.int IntKind.i64 f8, PV.int IntKind.i64 f9, PV.int IntKind.i64 f10, PV.int IntKind.i64 f11, PV.list (List.map Mo.cs ms_1) Tail.no]] ∧ List.length ms_1 ≤ 1000000 ∧ ∃ (ts_1 : List Tk), ∃ (sz : List Int), List.length sz = 2 ∧ List.length ts_1 ≤ 60 ∧ SlIs [PV.list (List.map csT ts) Tail.no, PV.bool false, PV.ptr 0 0, PV.int IntKind.i64 0] [PV.list (List.map csT ts_1) Tail.no, PV.bool false, PV.ptr 0 0, PV.int IntKind.i64 0] ∧ HpIs [Ob.abs (rkT [] (List.map kOf ms_1))] [Ob.abs (rkT [] sz)] ∧ (∀ (l : List Tk), QO 2 l → QP sz l → List.length l ≤ 60 → ∃ (l_1 : List Tk), ∃ (sz_1 : List Int), QO 2 l_1 ∧ QP [1, 4] l_1 ∧ Sml l_1 ∧ SlIs [PV.bool false, PV.ptr 0 0, PV.ptr 1 0, PV.int IntKind.i64 0, PV.int IntKind.i64 0, PV.int IntKind.i64 0] [PV.bool false, PV.ptr 0 0, PV.ptr 1 0, PV.int IntKind.i64 0, PV.int IntKind.i64 0, PV.int IntKind.i64 0] ∧ HpIs [Ob.abs (rkT l sz), Ob.cells [PV.list [] Tail.exact, PV.int IntKind.i64 200]] [Ob.abs (rkT l_1 sz_1), Ob.cells [PV.list [] Tail.exact, PV.int IntKind.i64 200]] ∧ br (((↑(List.length (fl (modeL l_1 0) ++ fl (modeL l_1 1))) : Int) == (↑(List.length (List.map csI (mkR (fl (modeL l_1 0) ++ fl (modeL l_1 1))))) : Int)) == true) (∃ (q : Nat), ∃ (l : List Tk), ∃ (sz : List Int), SlIs [PV.ptr 0 0] [PV.ptr q 0] ∧ AbIs [Ob.abs (rkT l_1 sz_1), Ob.cells [PV.list (List.map csI (mkR (fl (modeL l_1 0) ++ fl (modeL l_1 1)))) Tail.no, PV.int IntKind.i64 200]] q (rkT l sz) ∧ br (((↑(List.length (modeL l_1 0) + List.length (modeL l_1 1)) : Int) == (↑(List.length l) : Int)) == true) (SlIs [] [] ∧ K (PV.bool true)) (K (PV.bool false))) (K (PV.bool false))) ∧ ∀ (_ : List Tk), ∀ (_ : Nat), K (PV.bool true))) : ACalls Try.prog gl 8 [.list (ts.map csT) .no] [] (fun x _ => K x) :=
  acalls_of_wpc2 (T := TON) (L := [([1, 1, 1, 0, 1, 0], o1_l), ([1, 1, 1, 1, 1, 1, 0, 1, 0], o2_l)]) (fun _ => 0) Try.func8 (by kernel_rfl) (by kernel_rfl) (by kernel_rfl) (TON_ok) (.cons (sub_of (by kernel_rfl)) o1_l_ok (.cons (sub_of (by kernel_rfl)) o2_l_ok (.nil _ _ _ _ _))) (holds_of_eq (by kernel_rfl) h)
theorem one_law (ts : List Tk) : ACalls Try.prog gl 8 [.list (ts.map csT) .no] [] (fun x _ => x = .bool true) := by
  refine on_vc ts (fun x => x = .bool true) ?_
  simp only [br_if, List.length_map, dt]
  by_cases c1 : ts.length > 60
  · rw [if_pos (by omega)]; trivial
  rw [if_neg (by omega)]
  refine ⟨[⟨1, 0, 0, 0, 0⟩, ⟨4, 0, 0, 0, 0⟩], .exact, rfl, by simp, N_tilt, _, _, _, _, _, _, _, _, _, _, _, _, [⟨1, 0, 0, 0, 0⟩, ⟨4, 0, 0, 0, 0⟩], rfl, by simp, ts, [1, 4], rfl, by omega, rfl, rfl, fun l ho hp hl => ?_, fun _ _ => by trivial⟩
  refine ⟨l, [1, 4], ho, hp, ho.sml (by omega), rfl, rfl, ?_⟩
  rw [if_pos (by rw [mkR_len]; simp)]
  refine ⟨0, l, [1, 4], rfl, rfl, ?_⟩
  have := (two_modes ho).length_eq
  rw [List.length_append] at this
  rw [if_pos (by rw [← this]; simp)]
  exact ⟨rfl, trivial⟩
#print axioms one_law
end Go.Proofs.Ytcmknbanojcbaaa
