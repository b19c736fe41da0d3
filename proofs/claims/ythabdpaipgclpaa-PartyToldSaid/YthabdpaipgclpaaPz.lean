/-
  PartyTold's law.
-/
import Derived.Test.YthabdpaipgclpaaPy
import Derived.Test.YthabdpaipgclpaaProg
namespace Go.Proofs.Ythabdpaipgclpaa
open Go Go.AM Go.Proofs
def TPT : Tab := (32, .heap ptyZ_s) :: (28, .heap pdo_s) :: (29, .read like_s) :: (27, .heap newB_s) :: (33, .pure pawk_s) :: (34, .pure zids_s) :: (36, .pure zinv_s) :: (30, .pure zof_s) :: (40, .pure zjoin_s) :: (37, .pure zref_s) :: (38, .pure zleave_s) :: (39, .pure zkick_s) :: (41, .pure zlead_s) :: TY0
theorem TPT_ok : TabOk Try.prog gl TPT := .cons ptyZ_ok (.cons pdo_ok (.cons like_ok (.cons newB_ok (.cons pawk_ok (.cons zids_ok (.cons zinv_ok (.cons zof_ok (.cons zjoin_ok (.cons zref_ok (.cons zleave_ok (.cons zkick_ok (.cons zlead_ok (TY0_ok)))))))))))))
theorem pt1_vc (w : List Pt) (acs : List Pa) (t : Int) (i : Nat) (R : Ex → List PV → Heap → Prop) (h : br (decide ((↑i : Int) < (↑(List.length (List.map Pa.cs acs)) : Int))) (InL (List.map Pa.cs acs) 3 (↑i : Int) ∧ br (true && fitX [CK.int IntKind.u8, CK.int IntKind.u32, CK.int IntKind.u32] 0 (List.getD (List.map Pa.cs acs) (Int.toNat (↑i : Int)) [])) (∃ (w_1 : List Pt), ∃ (l : List Pt), ∃ (m : Int), ∃ (a : Pa), ∃ (tl : Tail), SlIs [PV.list (List.map ptc w) Tail.no, PV.int IntKind.i64 6, PV.agg [PV.int IntKind.u8 (cI (List.getD (List.map Pa.cs acs) (Int.toNat (↑i : Int)) []) 0), PV.int IntKind.u32 (cI (List.getD (List.map Pa.cs acs) (Int.toNat (↑i : Int)) []) 1), PV.int IntKind.u32 (cI (List.getD (List.map Pa.cs acs) (Int.toNat (↑i : Int)) []) 2)]] [PV.list (List.map ptc l) tl, PV.int IntKind.i64 m, PV.agg [PV.int IntKind.u8 (Pa.d a), PV.int IntKind.u32 (Pa.a a), PV.int IntKind.u32 (Pa.b a)]] ∧ AbIs [Ob.abs (rkP (rowsP w) 6), Ob.cells [PV.ptr 0 0]] 0 (rkP (rowsP w_1) m) ∧ PO w_1 m ∧ PO l m ∧ m ≤ 100000 ∧ Pa.ok a ∧ R Ex.normal [PV.list (List.map Pa.cs acs) Tail.no, PV.int IntKind.u32 t, PV.bool false, PV.ptr 1 0, PV.list (List.map ptc (Prod.fst (actS l m a))) Tail.no, PV.int IntKind.i64 (wI ((↑i : Int) + 1))] [Ob.abs (rkP (rowsP (Prod.fst (actS w_1 m a))) m), Ob.cells [PV.ptr 0 0]]) False) (R (Ex.exit 0) [PV.list (List.map Pa.cs acs) Tail.no, PV.int IntKind.u32 t, PV.bool false, PV.ptr 1 0, PV.list (List.map ptc w) Tail.no, PV.int IntKind.i64 (↑i : Int)] [Ob.abs (rkP (rowsP w) 6), Ob.cells [PV.ptr 0 0]])) : Holds (wpc br Try.prog gl TPT [] (fun _ => 0) (subOf [1, 1, 1, 1, 0, 1, 0] (bodyOf Try.f9)) [] (envS [0, 1, 4, 5, 6, 7] [.list (acs.map Pa.cs) .no, .int .u32 t, .bool false, .ptr 1 0, .list (w.map ptc) .no, .int .i64 i]) [.abs (rkP (rowsP w) 6), .cells [.ptr 0 0]] (fun ex e H => R ex (List.map e [0, 1, 4, 5, 6, 7]) H)) := holds_of_eq (by kernel_rfl) h
theorem pt2_vc (R0 : Rep) (w : List Pt) (t id ld : Int) (off n cap i : Nat) (cs : List PV) (y : PV) (g : Ob) (R : Ex → List PV → Heap → Prop) (h : br (decide ((↑i : Int) < (↑n : Int))) ((0 ≤ (↑i : Int) ∧ (↑i : Int) < (↑n : Int)) ∧ br (true && fitX [CK.int IntKind.u32] 0 (List.drop (off + Int.toNat (↑i : Int) * 1) cs)) ((0 ≤ (↑i : Int) ∧ (↑i : Int) < (↑n : Int)) ∧ br (1 == 1 && List.all [PV.int IntKind.u32 (IntKind.wrap IntKind.u32 (cI (List.drop (off + Int.toNat (↑i : Int) * 1) cs) 0 + 100))] PV.one && decide (off + Int.toNat (↑i : Int) * 1 + 1 ≤ List.length cs) && hintOk 0 2 (off + Int.toNat (↑i : Int) * 1) 1) (R Ex.normal [PV.int IntKind.u32 t, PV.bool false, PV.ptr 1 0, PV.list (List.map ptc w) Tail.no, PV.ptr 4 0, PV.int IntKind.i64 (wI ((↑i : Int) + 1))] [Ob.abs R0, Ob.cells [PV.ptr 0 0], Ob.cells (over cs (off + Int.toNat (↑i : Int) * 1) [PV.int IntKind.u32 (IntKind.wrap IntKind.u32 (cI (List.drop (off + Int.toNat (↑i : Int) * 1) cs) 0 + 100))]), g, Ob.cells [PV.int IntKind.u32 id, PV.int IntKind.u32 ld, PV.arr 2 off n cap, y]]) False) False) (R (Ex.exit 2) [PV.int IntKind.u32 t, PV.bool false, PV.ptr 1 0, PV.list (List.map ptc w) Tail.no, PV.ptr 4 0, PV.int IntKind.i64 (↑i : Int)] [Ob.abs R0, Ob.cells [PV.ptr 0 0], Ob.cells cs, g, Ob.cells [PV.int IntKind.u32 id, PV.int IntKind.u32 ld, PV.arr 2 off n cap, y]])) : Holds (wpc br Try.prog gl TPT [] (fun o => match o.dst with | some 52 => 1 | some 58 => 1 | some 66 => 1 | some 72 => 1 | _ => 0) (subOf [1, 1, 1, 1, 1, 1, 0, 1, 0] (bodyOf Try.f9)) [] (envS [1, 4, 5, 6, 8, 10] [.int .u32 t, .bool false, .ptr 1 0, .list (w.map ptc) .no, .ptr 4 0, .int .i64 i]) [.abs R0, .cells [.ptr 0 0], .cells cs, g, .cells [.int .u32 id, .int .u32 ld, .arr 2 off n cap, y]] (fun ex e H => R ex (List.map e [1, 4, 5, 6, 8, 10]) H)) := holds_of_eq (by kernel_rfl) h
theorem pt2z_vc (R0 : Rep) (w : List Pt) (t id ld : Int) (i : Nat) (y : PV) (g1 g2 : Ob) (R : Ex → List PV → Heap → Prop) (h : R (Ex.exit 2) [PV.int IntKind.u32 t, PV.bool false, PV.ptr 1 0, PV.list (List.map ptc w) Tail.no, PV.ptr 4 0, PV.int IntKind.i64 (↑i : Int)] [Ob.abs R0, Ob.cells [PV.ptr 0 0], g1, g2, Ob.cells [PV.int IntKind.u32 id, PV.int IntKind.u32 ld, PV.list [] Tail.exact, y]]) : Holds (wpc br Try.prog gl TPT [] (fun o => match o.dst with | some 52 => 1 | some 58 => 1 | some 66 => 1 | some 72 => 1 | _ => 0) (subOf [1, 1, 1, 1, 1, 1, 0, 1, 0] (bodyOf Try.f9)) [] (envS [1, 4, 5, 6, 8, 10] [.int .u32 t, .bool false, .ptr 1 0, .list (w.map ptc) .no, .ptr 4 0, .int .i64 i]) [.abs R0, .cells [.ptr 0 0], g1, g2, .cells [.int .u32 id, .int .u32 ld, .list [] .exact, y]] (fun ex e H => R ex (List.map e [1, 4, 5, 6, 8, 10]) H)) := holds_of_eq (by kernel_rfl) h
theorem pt3_vc (R0 : Rep) (w : List Pt) (t id ld : Int) (off n cap i : Nat) (cs : List PV) (y : PV) (g : Ob) (R : Ex → List PV → Heap → Prop) (h : br (decide ((↑i : Int) < (↑n : Int))) ((0 ≤ (↑i : Int) ∧ (↑i : Int) < (↑n : Int)) ∧ br (true && fitX [CK.int IntKind.u32] 0 (List.drop (off + Int.toNat (↑i : Int) * 1) cs)) ((0 ≤ (↑i : Int) ∧ (↑i : Int) < (↑n : Int)) ∧ br (1 == 1 && List.all [PV.int IntKind.u32 (IntKind.wrap IntKind.u32 (cI (List.drop (off + Int.toNat (↑i : Int) * 1) cs) 0 + 100))] PV.one && decide (off + Int.toNat (↑i : Int) * 1 + 1 ≤ List.length cs) && hintOk 0 3 (off + Int.toNat (↑i : Int) * 1) 1) (R Ex.normal [PV.int IntKind.u32 t, PV.bool false, PV.ptr 1 0, PV.list (List.map ptc w) Tail.no, PV.ptr 4 0, PV.int IntKind.i64 (wI ((↑i : Int) + 1))] [Ob.abs R0, Ob.cells [PV.ptr 0 0], g, Ob.cells (over cs (off + Int.toNat (↑i : Int) * 1) [PV.int IntKind.u32 (IntKind.wrap IntKind.u32 (cI (List.drop (off + Int.toNat (↑i : Int) * 1) cs) 0 + 100))]), Ob.cells [PV.int IntKind.u32 id, PV.int IntKind.u32 ld, y, PV.arr 3 off n cap]]) False) False) (R (Ex.exit 4) [PV.int IntKind.u32 t, PV.bool false, PV.ptr 1 0, PV.list (List.map ptc w) Tail.no, PV.ptr 4 0, PV.int IntKind.i64 (↑i : Int)] [Ob.abs R0, Ob.cells [PV.ptr 0 0], g, Ob.cells cs, Ob.cells [PV.int IntKind.u32 id, PV.int IntKind.u32 ld, y, PV.arr 3 off n cap]])) : Holds (wpc br Try.prog gl TPT [] (fun o => match o.dst with | some 52 => 1 | some 58 => 1 | some 66 => 1 | some 72 => 1 | _ => 0) (subOf [1, 1, 1, 1, 1, 1, 1, 0, 1, 0] (bodyOf Try.f9)) [] (envS [1, 4, 5, 6, 8, 11] [.int .u32 t, .bool false, .ptr 1 0, .list (w.map ptc) .no, .ptr 4 0, .int .i64 i]) [.abs R0, .cells [.ptr 0 0], g, .cells cs, .cells [.int .u32 id, .int .u32 ld, y, .arr 3 off n cap]] (fun ex e H => R ex (List.map e [1, 4, 5, 6, 8, 11]) H)) := holds_of_eq (by kernel_rfl) h
theorem pt3z_vc (R0 : Rep) (w : List Pt) (t id ld : Int) (i : Nat) (y : PV) (g1 g2 : Ob) (R : Ex → List PV → Heap → Prop) (h : R (Ex.exit 4) [PV.int IntKind.u32 t, PV.bool false, PV.ptr 1 0, PV.list (List.map ptc w) Tail.no, PV.ptr 4 0, PV.int IntKind.i64 (↑i : Int)] [Ob.abs R0, Ob.cells [PV.ptr 0 0], g1, g2, Ob.cells [PV.int IntKind.u32 id, PV.int IntKind.u32 ld, y, PV.list [] Tail.exact]]) : Holds (wpc br Try.prog gl TPT [] (fun o => match o.dst with | some 52 => 1 | some 58 => 1 | some 66 => 1 | some 72 => 1 | _ => 0) (subOf [1, 1, 1, 1, 1, 1, 1, 0, 1, 0] (bodyOf Try.f9)) [] (envS [1, 4, 5, 6, 8, 11] [.int .u32 t, .bool false, .ptr 1 0, .list (w.map ptc) .no, .ptr 4 0, .int .i64 i]) [.abs R0, .cells [.ptr 0 0], g1, g2, .cells [.int .u32 id, .int .u32 ld, y, .list [] .exact]] (fun ex e H => R ex (List.map e [1, 4, 5, 6, 8, 11]) H)) := holds_of_eq (by kernel_rfl) h
theorem row_split (A B : List PV) (ns : List Int) (i : Nat) (h : i < ns.length) : A ++ (ns.map (PV.int .u32) ++ B) = (A ++ (ns.take i).map (PV.int .u32)) ++ (PV.int .u32 ns[i] :: ((ns.drop (i + 1)).map (PV.int .u32) ++ B)) := by
  have e : ns.map (PV.int .u32) = (ns.take i).map (PV.int .u32) ++ (PV.int .u32 ns[i] :: (ns.drop (i + 1)).map (PV.int .u32)) := by
    conv => lhs; rw [← List.take_append_drop i ns, List.drop_eq_getElem_cons h, List.map_append, List.map_cons]
  rw [e, List.append_assoc, List.append_assoc, List.cons_append]
theorem over_mid (P S : List PV) (v x : PV) : over (P ++ (x :: S)) P.length [v] = P ++ (v :: S) := by
  unfold over
  rw [List.take_left' rfl, List.drop_append]
  simp
theorem RowC.put {cs : List PV} {off : Nat} {ns : List Int} (h : RowC cs off ns) {i : Nat} (hi : i < ns.length) : fitX [CK.int .u32] 0 (cs.drop (off + i * 1)) = true ∧ off + i * 1 + 1 ≤ cs.length ∧ ∀ v : Int, RowC (over cs (off + i * 1) [.int .u32 v]) off (ns.set i v) := by
  obtain ⟨A, B, h1, h2, rfl, rfl⟩ := h
  have hp : (A ++ (ns.take i).map (PV.int .u32)).length = A.length + i * 1 := by rw [List.length_append, List.length_map, List.length_take, Nat.min_eq_left (by omega)]; omega
  rw [row_split A B ns i hi, ← hp]
  refine ⟨?_, by rw [List.length_append (bs := _ :: _), List.length_cons]; omega, fun v => ⟨A, B, h1, h2, rfl, ?_⟩⟩
  · rw [List.drop_append_of_le_length (Nat.le_refl _), List.drop_length]; rfl
  · rw [over_mid, List.set_eq_take_append_cons_drop, if_pos hi]
    simp
def pt1_l : LSp := fun e H Q => ∃ (acs : List Pa) (t : Int), acs.length ≤ 60 ∧ (∀ a ∈ acs, a.ok) ∧ SlIs (List.map e [0, 1, 4, 5, 6, 7]) [.list (acs.map Pa.cs) .no, .int .u32 t, .bool false, .ptr 1 0, .list [] .exact, .int .i64 0] ∧ HpIs H [.abs (rkP (rowsP []) 6), .cells [.ptr 0 0]] ∧
  ∀ (w : List Pt), PO w 6 → Q (.exit 0) (envS [0, 1, 4, 5, 6, 7] [.list (acs.map Pa.cs) .no, .int .u32 t, .bool false, .ptr 1 0, .list (w.map ptc) .no, .int .i64 acs.length]) [.abs (rkP (rowsP w) 6), .cells [.ptr 0 0]]
theorem pt1_low (acs : List Pa) (t : Int) (w : List Pt) (i : Int) : ∀ v ∈ [PV.list (acs.map Pa.cs) .no, .int .u32 t, .bool false, .ptr 1 0, .list (w.map ptc) .no, .int .i64 i], Low 2 v := by
  intro v hv
  simp only [List.mem_cons, List.not_mem_nil, or_false] at hv
  rcases hv with rfl | rfl | rfl | rfl | rfl | rfl
  · exact low_pal acs
  · exact .int _ _
  · exact .bool _
  · exact .ptr _ _ (by decide)
  · exact low_ptl w
  · exact .int _ _
theorem pt1_l_ok : ∀ e H Q, pt1_l e H Q → AW Try.prog gl Try.f9.ntmps (.loop (subOf [1, 1, 1, 1, 0, 1, 0] (bodyOf Try.f9))) Q e H := by
  rintro e H Q ⟨acs, t, hl, hok, he, hH, hQ⟩
  have he : List.map e [0, 1, 4, 5, 6, 7] = _ := he
  refine AW.wkin (slots := [0, 1, 4, 5, 6, 7]) (vs := [.list (acs.map Pa.cs) .no, .int .u32 t, .bool false, .ptr 1 0, .list [] .no, .int .i64 0]) (by rw [he]; exact .cons (.refl _) (.cons (.refl _) (.cons (.refl _) (.cons (.refl _) (.cons (.list _ _) (.cons (.refl _) .nil)))))) ?_
  refine aw_loop4 (hn := fun _ => 0) gl_low TPT_ok (.nil _ _ _ _ _) (σ := Nat × List Pt) [0, 1, 4, 5, 6, 7] (fun s => s.1 ≤ acs.length ∧ PO s.2 6)
    (fun s => [.list (acs.map Pa.cs) .no, .int .u32 t, .bool false, .ptr 1 0, .list (s.2.map ptc) .no, .int .i64 s.1]) (fun s => [.abs (rkP (rowsP s.2) 6), .cells [.ptr 0 0]]) (fun s => acs.length - s.1) (0, []) ⟨Nat.zero_le _, .nil (by decide) (by decide)⟩ rfl hH ?_
  rintro ⟨i, w⟩ ⟨hi, ro⟩
  have hi : i ≤ acs.length := hi
  have ro : PO w 6 := ro
  refine pt1_vc w acs t i _ ?_
  simp only [br_if, dt, List.length_map, inL_pa, toNat_nat]
  by_cases h : i < acs.length
  · rw [if_pos (by omega)]
    simp only [getD_map default h]
    refine ⟨h, ?_⟩
    rw [if_pos (by rfl)]
    obtain ⟨a, ha⟩ : ∃ a, a = acs.getD i default := ⟨_, rfl⟩
    have haok : a.ok := hok a (by rw [ha]; exact getD_mem h)
    have c0 : cI a.cs 0 = a.d := rfl
    have c1 : cI a.cs 1 = a.a := rfl
    have c2 : cI a.cs 2 = a.b := rfl
    simp only [← ha, c0, c1, c2]
    exact ⟨w, w, 6, a, .no, rfl, rfl, ro, ro, by omega, haok, (i + 1, (actS w 6 a).1), (show acs.length - (i + 1) < acs.length - i by omega), ⟨h, ro.act a⟩, by rw [wI_succ h (by omega)], [], rfl, Nat.le_refl _, .inl rfl⟩
  · rw [if_neg (by omega)]
    have : i = acs.length := by omega
    subst this
    exact hQ w ro
def pt2_l : LSp := fun e H Q => ∃ (R0 : Rep) (w : List Pt) (t id ld : Int) (ns : List Int) (x y : PV) (g g0 : Ob), ns.length ≤ 1000000 ∧ RowX 2 x g0 ns ∧ SlIs (List.map e [1, 4, 5, 6, 8, 10]) [.int .u32 t, .bool false, .ptr 1 0, .list (w.map ptc) .no, .ptr 4 0, .int .i64 0] ∧ HpIs H [.abs R0, .cells [.ptr 0 0], g0, g, .cells [.int .u32 id, .int .u32 ld, x, y]] ∧ ∀ (g1 : Ob), Q (.exit 2) (envS [1, 4, 5, 6, 8, 10] [.int .u32 t, .bool false, .ptr 1 0, .list (w.map ptc) .no, .ptr 4 0, .int .i64 ns.length]) [.abs R0, .cells [.ptr 0 0], g1, g, .cells [.int .u32 id, .int .u32 ld, x, y]]
theorem pt2_l_ok : ∀ e H Q, pt2_l e H Q → AW Try.prog gl Try.f9.ntmps (.loop (subOf [1, 1, 1, 1, 1, 1, 0, 1, 0] (bodyOf Try.f9))) Q e H := by
  rintro e H Q ⟨R0, w, t, id, ld, ns, x, y, g, g0, hl, hx, he, hH, hQ⟩
  rcases hx with ⟨rfl, rfl, rfl⟩ | ⟨hne, off, cap, cs, rfl, rfl, hr, hcap⟩
  · refine aw_loop4 (hn := fun o => match o.dst with | some 52 => 1 | some 58 => 1 | some 66 => 1 | some 72 => 1 | _ => 0) gl_low TPT_ok (.nil _ _ _ _ _) (σ := Unit) [1, 4, 5, 6, 8, 10] (fun _ => True) (fun _ => [.int .u32 t, .bool false, .ptr 1 0, .list (w.map ptc) .no, .ptr 4 0, .int .i64 0]) (fun _ => [.abs R0, .cells [.ptr 0 0], .dead, g, .cells [.int .u32 id, .int .u32 ld, .list [] .exact, y]]) (fun _ => 0) () trivial he hH ?_
    intro _ _
    exact pt2z_vc R0 w t id ld 0 y .dead g _ (hQ .dead)
  · refine aw_loop4 (hn := fun o => match o.dst with | some 52 => 1 | some 58 => 1 | some 66 => 1 | some 72 => 1 | _ => 0) gl_low TPT_ok (.nil _ _ _ _ _) (σ := Nat × List PV) [1, 4, 5, 6, 8, 10] (fun s => s.1 ≤ ns.length ∧ ∃ ms : List Int, ms.length = ns.length ∧ RowC s.2 off ms) (fun s => [.int .u32 t, .bool false, .ptr 1 0, .list (w.map ptc) .no, .ptr 4 0, .int .i64 s.1]) (fun s => [.abs R0, .cells [.ptr 0 0], .cells s.2, g, .cells [.int .u32 id, .int .u32 ld, .arr 2 off ns.length cap, y]]) (fun s => ns.length - s.1) (0, cs) ⟨Nat.zero_le _, ns, rfl, hr⟩ he hH ?_
    rintro ⟨i, cs⟩ ⟨hi, ms, hms, hr⟩
    have hi : i ≤ ns.length := hi
    have hr : RowC cs off ms := hr
    refine pt2_vc R0 w t id ld off ns.length cap i cs y g _ ?_
    simp only [br_if, dt, toNat_nat, Bool.true_and, Bool.and_eq_true]
    by_cases h : i < ns.length
    · obtain ⟨k1, k2, k3⟩ := hr.put (i := i) (by omega)
      rw [if_pos (by omega)]
      refine ⟨⟨by omega, by omega⟩, ?_⟩
      rw [if_pos k1]
      refine ⟨⟨by omega, by omega⟩, ?_⟩
      rw [if_pos ⟨⟨⟨rfl, rfl⟩, k2⟩, rfl⟩]
      exact ⟨(i + 1, _), (show ns.length - (i + 1) < ns.length - i by omega), ⟨h, _, (by rw [List.length_set]; exact hms), k3 _⟩, by rw [wI_succ h (by omega)], [], rfl, Nat.le_refl _, .inl rfl⟩
    · rw [if_neg (by omega)]
      have : i = ns.length := by omega
      subst this
      exact hQ _
def pt3_l : LSp := fun e H Q => ∃ (R0 : Rep) (w : List Pt) (t id ld : Int) (ns : List Int) (x y : PV) (g g0 : Ob), ns.length ≤ 1000000 ∧ RowX 3 x g0 ns ∧ SlIs (List.map e [1, 4, 5, 6, 8, 11]) [.int .u32 t, .bool false, .ptr 1 0, .list (w.map ptc) .no, .ptr 4 0, .int .i64 0] ∧ HpIs H [.abs R0, .cells [.ptr 0 0], g, g0, .cells [.int .u32 id, .int .u32 ld, y, x]] ∧ ∀ (g1 : Ob), Q (.exit 4) (envS [1, 4, 5, 6, 8, 11] [.int .u32 t, .bool false, .ptr 1 0, .list (w.map ptc) .no, .ptr 4 0, .int .i64 ns.length]) [.abs R0, .cells [.ptr 0 0], g, g1, .cells [.int .u32 id, .int .u32 ld, y, x]]
theorem pt3_l_ok : ∀ e H Q, pt3_l e H Q → AW Try.prog gl Try.f9.ntmps (.loop (subOf [1, 1, 1, 1, 1, 1, 1, 0, 1, 0] (bodyOf Try.f9))) Q e H := by
  rintro e H Q ⟨R0, w, t, id, ld, ns, x, y, g, g0, hl, hx, he, hH, hQ⟩
  rcases hx with ⟨rfl, rfl, rfl⟩ | ⟨hne, off, cap, cs, rfl, rfl, hr, hcap⟩
  · refine aw_loop4 (hn := fun o => match o.dst with | some 52 => 1 | some 58 => 1 | some 66 => 1 | some 72 => 1 | _ => 0) gl_low TPT_ok (.nil _ _ _ _ _) (σ := Unit) [1, 4, 5, 6, 8, 11] (fun _ => True) (fun _ => [.int .u32 t, .bool false, .ptr 1 0, .list (w.map ptc) .no, .ptr 4 0, .int .i64 0]) (fun _ => [.abs R0, .cells [.ptr 0 0], g, .dead, .cells [.int .u32 id, .int .u32 ld, y, .list [] .exact]]) (fun _ => 0) () trivial he hH ?_
    intro _ _
    exact pt3z_vc R0 w t id ld 0 y g .dead _ (hQ .dead)
  · refine aw_loop4 (hn := fun o => match o.dst with | some 52 => 1 | some 58 => 1 | some 66 => 1 | some 72 => 1 | _ => 0) gl_low TPT_ok (.nil _ _ _ _ _) (σ := Nat × List PV) [1, 4, 5, 6, 8, 11] (fun s => s.1 ≤ ns.length ∧ ∃ ms : List Int, ms.length = ns.length ∧ RowC s.2 off ms) (fun s => [.int .u32 t, .bool false, .ptr 1 0, .list (w.map ptc) .no, .ptr 4 0, .int .i64 s.1]) (fun s => [.abs R0, .cells [.ptr 0 0], g, .cells s.2, .cells [.int .u32 id, .int .u32 ld, y, .arr 3 off ns.length cap]]) (fun s => ns.length - s.1) (0, cs) ⟨Nat.zero_le _, ns, rfl, hr⟩ he hH ?_
    rintro ⟨i, cs⟩ ⟨hi, ms, hms, hr⟩
    have hi : i ≤ ns.length := hi
    have hr : RowC cs off ms := hr
    refine pt3_vc R0 w t id ld off ns.length cap i cs y g _ ?_
    simp only [br_if, dt, toNat_nat, Bool.true_and, Bool.and_eq_true]
    by_cases h : i < ns.length
    · obtain ⟨k1, k2, k3⟩ := hr.put (i := i) (by omega)
      rw [if_pos (by omega)]
      refine ⟨⟨by omega, by omega⟩, ?_⟩
      rw [if_pos k1]
      refine ⟨⟨by omega, by omega⟩, ?_⟩
      rw [if_pos ⟨⟨⟨rfl, rfl⟩, k2⟩, rfl⟩]
      exact ⟨(i + 1, _), (show ns.length - (i + 1) < ns.length - i by omega), ⟨h, _, (by rw [List.length_set]; exact hms), k3 _⟩, by rw [wI_succ h (by omega)], [], rfl, Nat.le_refl _, .inl rfl⟩
    · rw [if_neg (by omega)]
      have : i = ns.length := by omega
      subst this
      exact hQ _
theorem told1_vc (acs : List Pa) (t : Int)  (K : PV → Prop) (h : br (decide ((↑(List.length (List.map Pa.cs acs)) : Int) > 60)) (K (PV.bool true)) (∃ (n : Int), SlIs [PV.int IntKind.i64 6] [PV.int IntKind.i64 n] ∧ ∃ (acs_1 : List Pa), ∃ (t_1 : Int), List.length acs_1 ≤ 60 ∧ (∀ (a : Pa), a ∈ acs_1 → Pa.ok a) ∧ SlIs [PV.list (List.map Pa.cs acs) Tail.no, PV.int IntKind.u32 t, PV.bool false, PV.ptr 1 0, PV.list [] Tail.exact, PV.int IntKind.i64 0] [PV.list (List.map Pa.cs acs_1) Tail.no, PV.int IntKind.u32 t_1, PV.bool false, PV.ptr 1 0, PV.list [] Tail.exact, PV.int IntKind.i64 0] ∧ HpIs [Ob.abs (rkP [] (mxI 0 n)), Ob.cells [PV.ptr 0 0]] [Ob.abs (rkP [] 6), Ob.cells [PV.ptr 0 0]] ∧ ∀ (w : List Pt), PO w 6 → ∃ (q : Nat), ∃ (r : Nat), ∃ (w_1 : List Pt), ∃ (m : Int), ∃ (t : Int), SlIs [PV.ptr 1 0, PV.int IntKind.u32 t_1] [PV.ptr q 0, PV.int IntKind.u32 t] ∧ BkIs [Ob.abs (rkP (rowsP w) 6), Ob.cells [PV.ptr 0 0]] q r (rkP (rowsP w_1) m) ∧ PO w_1 m ∧ ∀ (x y : PV), ∀ (g1 g2 : Ob), RowX 2 x g1 (Pt.ms (gP w_1 t)) → RowX 3 y g2 (Pt.iv (gP w_1 t)) → br (4 == 4 && List.all [PV.int IntKind.u32 (Pt.id (gP w_1 t)), PV.int IntKind.u32 (Pt.ld (gP w_1 t)), x, y] PV.one && true && hintOk 0 4 0 4) (∃ (R0 : Rep), ∃ (w_2 : List Pt), ∃ (t_2 : Int), ∃ (id : Int), ∃ (ld : Int), ∃ (ns : List Int), ∃ (x_1 : PV), ∃ (y_1 : PV), ∃ (g : Ob), ∃ (g0 : Ob), List.length ns ≤ 1000000 ∧ RowX 2 x_1 g0 ns ∧ SlIs [PV.int IntKind.u32 t_1, PV.bool false, PV.ptr 1 0, PV.list (List.map ptc w) Tail.no, PV.ptr 4 0, PV.int IntKind.i64 0] [PV.int IntKind.u32 t_2, PV.bool false, PV.ptr 1 0, PV.list (List.map ptc w_2) Tail.no, PV.ptr 4 0, PV.int IntKind.i64 0] ∧ HpIs [Ob.abs (rkP (rowsP w) 6), Ob.cells [PV.ptr 0 0], g1, g2, Ob.cells [PV.int IntKind.u32 (Pt.id (gP w_1 t)), PV.int IntKind.u32 (Pt.ld (gP w_1 t)), x, y]] [Ob.abs R0, Ob.cells [PV.ptr 0 0], g0, g, Ob.cells [PV.int IntKind.u32 id, PV.int IntKind.u32 ld, x_1, y_1]] ∧ ∀ (g1 : Ob), ∃ (R0_1 : Rep), ∃ (w : List Pt), ∃ (t : Int), ∃ (id_1 : Int), ∃ (ld_1 : Int), ∃ (ns : List Int), ∃ (x : PV), ∃ (y : PV), ∃ (g_1 : Ob), ∃ (g0 : Ob), List.length ns ≤ 1000000 ∧ RowX 3 x g0 ns ∧ SlIs [PV.int IntKind.u32 t_2, PV.bool false, PV.ptr 1 0, PV.list (List.map ptc w_2) Tail.no, PV.ptr 4 0, PV.int IntKind.i64 0] [PV.int IntKind.u32 t, PV.bool false, PV.ptr 1 0, PV.list (List.map ptc w) Tail.no, PV.ptr 4 0, PV.int IntKind.i64 0] ∧ HpIs [Ob.abs R0, Ob.cells [PV.ptr 0 0], g1, g, Ob.cells [PV.int IntKind.u32 id, PV.int IntKind.u32 ld, x_1, y_1]] [Ob.abs R0_1, Ob.cells [PV.ptr 0 0], g_1, g0, Ob.cells [PV.int IntKind.u32 id_1, PV.int IntKind.u32 ld_1, y, x]] ∧ ∀ (g1 : Ob), ∃ (q : Nat), ∃ (r : Nat), ∃ (w_3 : List Pt), ∃ (m : Int), ∃ (tl : Tail), SlIs [PV.ptr 1 0, PV.list (List.map ptc w) Tail.no] [PV.ptr q 0, PV.list (List.map ptc w_3) tl] ∧ BkIs [Ob.abs R0_1, Ob.cells [PV.ptr 0 0], g_1, g1, Ob.cells [PV.int IntKind.u32 id_1, PV.int IntKind.u32 ld_1, y, x]] q r (rkP (rowsP w_3) m) ∧ PO w_3 m ∧ ∃ (a : Int), ∃ (p : Int), SlIs [PV.nilptr, PV.int IntKind.u32 1, PV.int IntKind.u32 2] [PV.nilptr, PV.int IntKind.u32 a, PV.int IntKind.u32 p] ∧ ∃ (t_3 : Int), ∃ (p : Int), SlIs [PV.nilptr, PV.int IntKind.u32 1, PV.int IntKind.u32 2] [PV.nilptr, PV.int IntKind.u32 t_3, PV.int IntKind.u32 p] ∧ ∃ (p : Int), SlIs [PV.nilptr, PV.int IntKind.u32 t] [PV.nilptr, PV.int IntKind.u32 p] ∧ ∃ (a : Int), ∃ (p : Int), SlIs [PV.nilptr, PV.int IntKind.u32 1, PV.int IntKind.u32 2] [PV.nilptr, PV.int IntKind.u32 a, PV.int IntKind.u32 p] ∧ ∃ (t_4 : Int), SlIs [PV.nilptr, PV.int IntKind.u32 t] [PV.nilptr, PV.int IntKind.u32 t_4] ∧ ∃ (t_5 : Int), ∃ (p : Int), SlIs [PV.nilptr, PV.int IntKind.u32 1, PV.int IntKind.u32 2] [PV.nilptr, PV.int IntKind.u32 t_5, PV.int IntKind.u32 p] ∧ ∃ (a : Int), ∃ (p : Int), SlIs [PV.nilptr, PV.int IntKind.u32 1, PV.int IntKind.u32 2] [PV.nilptr, PV.int IntKind.u32 a, PV.int IntKind.u32 p] ∧ ∃ (p : Int), SlIs [PV.nilptr, PV.int IntKind.u32 t] [PV.nilptr, PV.int IntKind.u32 p] ∧ SlIs [PV.nilptr] [PV.nilptr] ∧ SlIs [] [] ∧ K (PV.bool true)) False)) : ACalls Try.prog gl 9 [.list (acs.map Pa.cs) .no, .int .u32 t] [] (fun x _ => K x) :=
  acalls_of_wpc2 (T := TPT) (L := [([1, 1, 1, 1, 0, 1, 0], pt1_l), ([1, 1, 1, 1, 1, 1, 0, 1, 0], pt2_l), ([1, 1, 1, 1, 1, 1, 1, 0, 1, 0], pt3_l)]) (fun _ => 0) Try.func9 (by kernel_rfl) (by kernel_rfl) (by kernel_rfl) (TPT_ok) (.cons (sub_of (by kernel_rfl)) pt1_l_ok (.cons (sub_of (by kernel_rfl)) pt2_l_ok (.cons (sub_of (by kernel_rfl)) pt3_l_ok (.nil _ _ _ _ _)))) (holds_of_eq (by kernel_rfl) h)
theorem told_law (acs : List Pa) (t : Int) (hok : ∀ a ∈ acs, a.ok) : ACalls Try.prog gl 9 [.list (acs.map Pa.cs) .no, .int .u32 t] [] (fun x _ => x = .bool true) := by
  refine told1_vc acs t _ ?_
  simp only [br_if, List.length_map]
  by_cases c : acs.length ≤ 60
  · rw [if_neg (by simp; omega)]
    refine ⟨6, rfl, acs, t, c, hok, rfl, rfl, fun w ro => ⟨1, 0, w, 6, t, rfl, ⟨rfl, rfl⟩, ro, fun x y g1 g2 hx hy => ?_⟩⟩
    have hs := ro.getsm t
    have hs : (gP w t).Sm := hs
    have one : ∀ {o : Nat} {x : PV} {g : Ob} {ns : List Int}, RowX o x g ns → x.one = true := by
      intro o x g ns h
      rcases h with ⟨_, rfl, _⟩ | ⟨_, _, _, _, rfl, _⟩ <;> rfl
    rw [if_pos (by simp only [List.all_cons, one hx, one hy]; rfl)]
    exact ⟨_, w, t, _, _, _, x, y, g2, g1, hs.ms, hx, rfl, rfl, fun g1 => ⟨_, w, t, _, _, _, y, x, g1, g2, hs.iv, hy, rfl, rfl, fun g2 => ⟨1, 0, w, 6, .no, rfl, ⟨rfl, rfl⟩, ro, 1, 2, rfl, 1, 2, rfl, t, rfl, 1, 2, rfl, t, rfl, 1, 2, rfl, 1, 2, rfl, t, rfl, rfl, rfl, trivial⟩⟩⟩
  · rw [if_pos (by simp; omega)]; trivial
#print axioms told_law
set_option maxRecDepth 10000
theorem told_args (xs : List PV) (h : WTargs Try.prog 6 Try.f9.params.toList xs) : ACalls Try.prog gl 9 xs [] (fun x _ => x = .bool true) := by
  rw [Try.params9] at h
  obtain ⟨x, r, rfl, h1, y, r2, rfl, h2, h3⟩ := h
  obtain rfl := wtargs_nil h3
  obtain ⟨es, rfl, _, g⟩ := wta_list u58 h1
  obtain ⟨l, rfl, hl⟩ := list_of (f := Pa.cs) fun r hr => pa_of (g r hr)
  obtain ⟨t, rfl, _⟩ := wta_int u24 h2
  exact told_law l t hl
end Go.Proofs.Ythabdpaipgclpaa
