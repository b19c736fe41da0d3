/-
  A rack of parties, closed.
-/
import Derived.Test.YthabdpaipgclpaaPa
import Derived.Test.YthabdpaipgclpaaProg
namespace Go.Proofs.Ythabdpaipgclpaa
open Go Go.AM Go.Proofs
def delTP_s (args : List PV) (H : Heap) (K : PV → Heap → Prop) : Prop :=
  ∃ (v : Pt) (l : List RwP) (J : List PV) (cap : Nat) (most : Int) (p : Nat), SlIs args [.arr 1 0 l.length cap, .int .i64 p, .int .i64 ((p + 1 : Nat) : Int)] ∧ HpIs H (hpAP l J cap most ++ [.cells [.int .u32 0, .int .u32 0, .list [] .exact, .list [] .exact], .cells [.int .u32 v.id, .int .u32 v.ld, .list (en1 .u32 v.ms) .no, .list (en1 .u32 v.iv) .no]]) ∧ p < l.length ∧ l.length ≤ 1000000 ∧ l.length ≤ cap ∧ Room J ((cap - l.length) * 5) ∧
    K (.arr 1 0 (l.length - 1) cap) ([.cells [.arr 1 0 l.length cap, .int .i64 most], .cells (flP (l.eraseIdx p) ++ (zrP ++ J))] ++ [.cells [.int .u32 0, .int .u32 0, .list [] .exact, .list [] .exact], .cells [.int .u32 v.id, .int .u32 v.ld, .list (en1 .u32 v.ms) .no, .list (en1 .u32 v.iv) .no]])
theorem delTP_ok : SpOk Try.prog gl 97 (.heap delTP_s) := by
  rintro args H K ⟨v, l, J, cap, most, p, he, hH, hp, hl, hc, hJ, hk⟩
  have he : args = _ := he
  have hH : H = _ := hH
  subst he
  subst hH
  refine acalls_tail gl_low (by intro y hy; simp only [List.mem_cons, List.not_mem_nil, or_false] at hy; rcases hy with rfl | rfl | rfl; exact .arr _ _ _ _ (by simp [hpAP]); exact .low (.int _ _); exact .low (.int _ _)) (hpAP_lid (by simp [hpAP]) hJ.low) ?_
  refine delP_ok _ _ _ ⟨l, J, cap, most, p, rfl, rfl, hp, hl, hc, hJ, ?_⟩
  have hz := (zrP_room 1).low
  simp only [List.replicate, List.flatten_cons, List.flatten_nil, List.append_nil] at hz
  exact ⟨_, _, tail_same rfl (lidH_two (fun y hy => by simp only [List.mem_cons, List.not_mem_nil, or_false] at hy; rcases hy with rfl | rfl; exact .arr _ _ _ _ (by simp [hpAP]); exact .low (.int _ _)) (fun y hy => .low (flP_low _ (fun y hy => by rcases List.mem_append.1 hy with hy | hy; exact hz y hy; exact hJ.low y hy) y hy))), Lid.ren (.arr _ _ _ _ (by simp)) (fun o ho => ρext_tail (by simpa [hpAP] using ho)), hk⟩
def TDP : Tab := (97, .heap delTP_s) :: (86, .read atTP_s) :: (69, .read geTP_s) :: TGP
theorem TDP_ok : TabOk Try.prog gl TDP := .cons delTP_ok (.cons atTP_ok (.cons geTP_ok TGP_ok))
theorem droAP_vc (l : List RwP) (J : List PV) (cap : Nat) (most : Int) (t : Int)  (K : PV → Heap → Prop) (h : ∃ (l_1 : List RwP), ∃ (most_1 : Int), ∃ (t_1 : Int), SlIs [PV.ptr 0 0, PV.int IntKind.u32 t] [PV.ptr 0 0, PV.int IntKind.u32 t_1] ∧ EXTP l_1 most_1 [Ob.cells [PV.arr 1 0 (List.length l) cap, PV.int IntKind.i64 most], Ob.cells (flP l ++ J), Ob.cells [PV.int IntKind.u32 0, PV.int IntKind.u32 0, PV.list [] Tail.exact, PV.list [] Tail.exact]] ∧ Ok l_1 most_1 ∧ br (has l_1 t_1) (∃ (l_2 : List RwP), ∃ (most_2 : Int), ∃ (t_2 : Int), SlIs [PV.ptr 0 0, PV.int IntKind.u32 t] [PV.ptr 0 0, PV.int IntKind.u32 t_2] ∧ EXTP l_2 most_2 [Ob.cells [PV.arr 1 0 (List.length l) cap, PV.int IntKind.i64 most], Ob.cells (flP l ++ J), Ob.cells [PV.int IntKind.u32 0, PV.int IntKind.u32 0, PV.list [] Tail.exact, PV.list [] Tail.exact], Ob.cells [PV.int IntKind.u32 (Pt.id (getR l_1 t_1)), PV.int IntKind.u32 (Pt.ld (getR l_1 t_1)), PV.list (en1 IntKind.u32 (Pt.ms (getR l_1 t_1))) Tail.no, PV.list (en1 IntKind.u32 (Pt.iv (getR l_1 t_1))) Tail.no]] ∧ Ok l_2 most_2 ∧ ∃ (v : Pt), ∃ (l_3 : List RwP), ∃ (J_1 : List PV), ∃ (cap_1 : Nat), ∃ (most_3 : Int), ∃ (p : Nat), SlIs [PV.arr 1 0 (List.length l) cap, PV.int IntKind.i64 (↑(lbp l_2 t_2) : Int), PV.int IntKind.i64 (wI ((↑(lbp l_2 t_2) : Int) + 1))] [PV.arr 1 0 (List.length l_3) cap_1, PV.int IntKind.i64 (↑p : Int), PV.int IntKind.i64 (↑(p + 1) : Int)] ∧ HpIs [Ob.cells [PV.arr 1 0 (List.length l) cap, PV.int IntKind.i64 most], Ob.cells (flP l ++ J), Ob.cells [PV.int IntKind.u32 0, PV.int IntKind.u32 0, PV.list [] Tail.exact, PV.list [] Tail.exact], Ob.cells [PV.int IntKind.u32 (Pt.id (getR l_1 t_1)), PV.int IntKind.u32 (Pt.ld (getR l_1 t_1)), PV.list (en1 IntKind.u32 (Pt.ms (getR l_1 t_1))) Tail.no, PV.list (en1 IntKind.u32 (Pt.iv (getR l_1 t_1))) Tail.no]] [Ob.cells [PV.arr 1 0 (List.length l_3) cap_1, PV.int IntKind.i64 most_3], Ob.cells (flP l_3 ++ J_1), Ob.cells [PV.int IntKind.u32 0, PV.int IntKind.u32 0, PV.list [] Tail.exact, PV.list [] Tail.exact], Ob.cells [PV.int IntKind.u32 (Pt.id v), PV.int IntKind.u32 (Pt.ld v), PV.list (en1 IntKind.u32 (Pt.ms v)) Tail.no, PV.list (en1 IntKind.u32 (Pt.iv v)) Tail.no]] ∧ p < List.length l_3 ∧ List.length l_3 ≤ 1000000 ∧ List.length l_3 ≤ cap_1 ∧ Room J_1 ((cap_1 - List.length l_3) * 5) ∧ K (PV.tup [PV.agg [PV.int IntKind.u32 (Pt.id v), PV.int IntKind.u32 (Pt.ld v), PV.list (en1 IntKind.u32 (Pt.ms v)) Tail.no, PV.list (en1 IntKind.u32 (Pt.iv v)) Tail.no], PV.bool (has l_1 t_1)]) [Ob.cells [PV.arr 1 0 (List.length l_3 - 1) cap_1, PV.int IntKind.i64 most_3], Ob.cells (flP (List.eraseIdx l_3 p) ++ ([PV.int IntKind.u32 0, PV.int IntKind.u32 0, PV.int IntKind.u32 0, PV.list [] Tail.exact, PV.list [] Tail.exact] ++ J_1)), Ob.cells [PV.int IntKind.u32 (Pt.id v), PV.int IntKind.u32 (Pt.ld v), PV.list (en1 IntKind.u32 (Pt.ms v)) Tail.no, PV.list (en1 IntKind.u32 (Pt.iv v)) Tail.no], Ob.cells [PV.int IntKind.u32 (Pt.id v), PV.int IntKind.u32 (Pt.ld v), PV.list (en1 IntKind.u32 (Pt.ms v)) Tail.no, PV.list (en1 IntKind.u32 (Pt.iv v)) Tail.no]]) (K (PV.tup [PV.agg [PV.int IntKind.u32 (Pt.id (getR l_1 t_1)), PV.int IntKind.u32 (Pt.ld (getR l_1 t_1)), PV.list (en1 IntKind.u32 (Pt.ms (getR l_1 t_1))) Tail.no, PV.list (en1 IntKind.u32 (Pt.iv (getR l_1 t_1))) Tail.no], PV.bool (has l_1 t_1)]) [Ob.cells [PV.arr 1 0 (List.length l) cap, PV.int IntKind.i64 most], Ob.cells (flP l ++ J), Ob.cells [PV.int IntKind.u32 (Pt.id (getR l_1 t_1)), PV.int IntKind.u32 (Pt.ld (getR l_1 t_1)), PV.list (en1 IntKind.u32 (Pt.ms (getR l_1 t_1))) Tail.no, PV.list (en1 IntKind.u32 (Pt.iv (getR l_1 t_1))) Tail.no], Ob.cells [PV.int IntKind.u32 (Pt.id (getR l_1 t_1)), PV.int IntKind.u32 (Pt.ld (getR l_1 t_1)), PV.list (en1 IntKind.u32 (Pt.ms (getR l_1 t_1))) Tail.no, PV.list (en1 IntKind.u32 (Pt.iv (getR l_1 t_1))) Tail.no]])) : ACalls Try.prog gl 87 [.ptr 0 0, .int .u32 t] [.cells [.arr 1 0 l.length cap, .int .i64 most], .cells (flP l ++ J)] K :=
  acalls_of_wpc2 (T := TDP) (L := []) (fun o => match o.op with | .load t _ => (match t with | 138 => 1 | _ => 0) | _ => 0) Try.func87 (by kernel_rfl) (by kernel_rfl) (by kernel_rfl) (TDP_ok) (LOk.nil _ _ _ _ _) (holds_of_eq (by kernel_rfl) h)
theorem droNP_vc (most t : Int)  (K : PV → Heap → Prop) (h : ∃ (l : List RwP), ∃ (most_1 : Int), ∃ (t_1 : Int), SlIs [PV.ptr 0 0, PV.int IntKind.u32 t] [PV.ptr 0 0, PV.int IntKind.u32 t_1] ∧ EXTP l most_1 [Ob.cells [PV.list [] Tail.exact, PV.int IntKind.i64 most], Ob.cells [PV.int IntKind.u32 0, PV.int IntKind.u32 0, PV.list [] Tail.exact, PV.list [] Tail.exact]] ∧ Ok l most_1 ∧ br (has l t_1) (∃ (l_1 : List RwP), ∃ (most_2 : Int), ∃ (t_2 : Int), SlIs [PV.ptr 0 0, PV.int IntKind.u32 t] [PV.ptr 0 0, PV.int IntKind.u32 t_2] ∧ EXTP l_1 most_2 [Ob.cells [PV.list [] Tail.exact, PV.int IntKind.i64 most], Ob.cells [PV.int IntKind.u32 0, PV.int IntKind.u32 0, PV.list [] Tail.exact, PV.list [] Tail.exact], Ob.cells [PV.int IntKind.u32 (Pt.id (getR l t_1)), PV.int IntKind.u32 (Pt.ld (getR l t_1)), PV.list (en1 IntKind.u32 (Pt.ms (getR l t_1))) Tail.no, PV.list (en1 IntKind.u32 (Pt.iv (getR l t_1))) Tail.no]] ∧ Ok l_1 most_2 ∧ ∃ (v : Pt), ∃ (l_2 : List RwP), ∃ (J : List PV), ∃ (cap : Nat), ∃ (most_3 : Int), ∃ (p : Nat), SlIs [PV.list [] Tail.exact, PV.int IntKind.i64 (↑(lbp l_1 t_2) : Int), PV.int IntKind.i64 (wI ((↑(lbp l_1 t_2) : Int) + 1))] [PV.arr 1 0 (List.length l_2) cap, PV.int IntKind.i64 (↑p : Int), PV.int IntKind.i64 (↑(p + 1) : Int)] ∧ HpIs [Ob.cells [PV.list [] Tail.exact, PV.int IntKind.i64 most], Ob.cells [PV.int IntKind.u32 0, PV.int IntKind.u32 0, PV.list [] Tail.exact, PV.list [] Tail.exact], Ob.cells [PV.int IntKind.u32 (Pt.id (getR l t_1)), PV.int IntKind.u32 (Pt.ld (getR l t_1)), PV.list (en1 IntKind.u32 (Pt.ms (getR l t_1))) Tail.no, PV.list (en1 IntKind.u32 (Pt.iv (getR l t_1))) Tail.no]] [Ob.cells [PV.arr 1 0 (List.length l_2) cap, PV.int IntKind.i64 most_3], Ob.cells (flP l_2 ++ J), Ob.cells [PV.int IntKind.u32 0, PV.int IntKind.u32 0, PV.list [] Tail.exact, PV.list [] Tail.exact], Ob.cells [PV.int IntKind.u32 (Pt.id v), PV.int IntKind.u32 (Pt.ld v), PV.list (en1 IntKind.u32 (Pt.ms v)) Tail.no, PV.list (en1 IntKind.u32 (Pt.iv v)) Tail.no]] ∧ p < List.length l_2 ∧ List.length l_2 ≤ 1000000 ∧ List.length l_2 ≤ cap ∧ Room J ((cap - List.length l_2) * 5) ∧ br (true && decide (4 ≤ List.length (flP (List.eraseIdx l_2 p) ++ ([PV.int IntKind.u32 0, PV.int IntKind.u32 0, PV.int IntKind.u32 0, PV.list [] Tail.exact, PV.list [] Tail.exact] ++ J))) && hintOk 0 1 0 4) (K (PV.tup [PV.agg [PV.int IntKind.u32 0, PV.int IntKind.u32 0, PV.list [] Tail.exact, PV.list [] Tail.exact], PV.bool (has l t_1)]) [Ob.cells [PV.arr 1 0 (List.length l_2 - 1) cap, PV.int IntKind.i64 most_3], Ob.cells (over (flP (List.eraseIdx l_2 p) ++ ([PV.int IntKind.u32 0, PV.int IntKind.u32 0, PV.int IntKind.u32 0, PV.list [] Tail.exact, PV.list [] Tail.exact] ++ J)) 0 [PV.int IntKind.u32 0, PV.int IntKind.u32 0, PV.list [] Tail.exact, PV.list [] Tail.exact]), Ob.cells [PV.int IntKind.u32 0, PV.int IntKind.u32 0, PV.list [] Tail.exact, PV.list [] Tail.exact], Ob.cells [PV.int IntKind.u32 (Pt.id v), PV.int IntKind.u32 (Pt.ld v), PV.list (en1 IntKind.u32 (Pt.ms v)) Tail.no, PV.list (en1 IntKind.u32 (Pt.iv v)) Tail.no]]) False) (K (PV.tup [PV.agg [PV.int IntKind.u32 (Pt.id (getR l t_1)), PV.int IntKind.u32 (Pt.ld (getR l t_1)), PV.list (en1 IntKind.u32 (Pt.ms (getR l t_1))) Tail.no, PV.list (en1 IntKind.u32 (Pt.iv (getR l t_1))) Tail.no], PV.bool (has l t_1)]) [Ob.cells [PV.list [] Tail.exact, PV.int IntKind.i64 most], Ob.cells [PV.int IntKind.u32 (Pt.id (getR l t_1)), PV.int IntKind.u32 (Pt.ld (getR l t_1)), PV.list (en1 IntKind.u32 (Pt.ms (getR l t_1))) Tail.no, PV.list (en1 IntKind.u32 (Pt.iv (getR l t_1))) Tail.no], Ob.cells [PV.int IntKind.u32 (Pt.id (getR l t_1)), PV.int IntKind.u32 (Pt.ld (getR l t_1)), PV.list (en1 IntKind.u32 (Pt.ms (getR l t_1))) Tail.no, PV.list (en1 IntKind.u32 (Pt.iv (getR l t_1))) Tail.no]])) : ACalls Try.prog gl 87 [.ptr 0 0, .int .u32 t] [.cells [.list [] .exact, .int .i64 most]] K :=
  acalls_of_wpc2 (T := TDP) (L := []) (fun o => match o.op with | .load t _ => (match t with | 138 => 1 | _ => 0) | _ => 0) Try.func87 (by kernel_rfl) (by kernel_rfl) (by kernel_rfl) (TDP_ok) (LOk.nil _ _ _ _ _) (holds_of_eq (by kernel_rfl) h)
theorem newP_vc (n : Int)  (K : PV → Heap → Prop) (h : K (PV.ptr 0 0) [Ob.cells [PV.list [] Tail.exact, PV.int IntKind.i64 (mxI 0 n)]]) : ACalls Try.prog gl 59 [.int .i64 n] [] K :=
  acalls_of_wpc2 (T := []) (L := []) (fun _ => 0) Try.func59 (by kernel_rfl) (by kernel_rfl) (by kernel_rfl) (TabOk.nil _ _) (LOk.nil _ _ _ _ _) (holds_of_eq (by kernel_rfl) h)
theorem freAP_vc (l : List RwP) (J : List PV) (cap : Nat) (most : Int) (i : Nat) (R : Ex → List PV → Heap → Prop) (h : br (decide ((↑i : Int) < (↑(List.length l) : Int))) ((0 ≤ (↑i : Int) ∧ (↑i : Int) < (↑(List.length l) : Int)) ∧ br (true && fitX [CK.int IntKind.u32, CK.int IntKind.u32, CK.int IntKind.u32, CK.list, CK.list] 0 (List.drop (0 + Int.toNat (↑i : Int) * 5) (flP l ++ J))) (br (cI (List.drop (0 + Int.toNat (↑i : Int) * 5) (flP l ++ J)) 0 != IntKind.wrap IntKind.u32 (IntKind.wrap IntKind.u32 (↑i : Int) + 1)) (R Ex.ret [PV.ptr 0 0, PV.int IntKind.u32 (IntKind.wrap IntKind.u32 (IntKind.wrap IntKind.u32 (↑i : Int) + 1)), PV.arr 1 0 (List.length l) cap, PV.int IntKind.i64 (↑(List.length l) : Int), PV.int IntKind.i64 (↑i : Int)] [Ob.cells [PV.arr 1 0 (List.length l) cap, PV.int IntKind.i64 most], Ob.cells (flP l ++ J), Ob.cells [PV.int IntKind.u32 (cI (List.drop (0 + Int.toNat (↑i : Int) * 5) (flP l ++ J)) 0), PV.int IntKind.u32 (cI (List.drop (0 + Int.toNat (↑i : Int) * 5) (flP l ++ J)) 1), PV.int IntKind.u32 (cI (List.drop (0 + Int.toNat (↑i : Int) * 5) (flP l ++ J)) 2), PV.list (cL (List.drop (0 + Int.toNat (↑i : Int) * 5) (flP l ++ J)) 3) (cT (List.drop (0 + Int.toNat (↑i : Int) * 5) (flP l ++ J)) 3), PV.list (cL (List.drop (0 + Int.toNat (↑i : Int) * 5) (flP l ++ J)) 4) (cT (List.drop (0 + Int.toNat (↑i : Int) * 5) (flP l ++ J)) 4)]]) (R Ex.normal [PV.ptr 0 0, PV.int IntKind.u32 0, PV.arr 1 0 (List.length l) cap, PV.int IntKind.i64 (↑(List.length l) : Int), PV.int IntKind.i64 (wI ((↑i : Int) + 1))] [Ob.cells [PV.arr 1 0 (List.length l) cap, PV.int IntKind.i64 most], Ob.cells (flP l ++ J), Ob.cells [PV.int IntKind.u32 (cI (List.drop (0 + Int.toNat (↑i : Int) * 5) (flP l ++ J)) 0), PV.int IntKind.u32 (cI (List.drop (0 + Int.toNat (↑i : Int) * 5) (flP l ++ J)) 1), PV.int IntKind.u32 (cI (List.drop (0 + Int.toNat (↑i : Int) * 5) (flP l ++ J)) 2), PV.list (cL (List.drop (0 + Int.toNat (↑i : Int) * 5) (flP l ++ J)) 3) (cT (List.drop (0 + Int.toNat (↑i : Int) * 5) (flP l ++ J)) 3), PV.list (cL (List.drop (0 + Int.toNat (↑i : Int) * 5) (flP l ++ J)) 4) (cT (List.drop (0 + Int.toNat (↑i : Int) * 5) (flP l ++ J)) 4)]])) False) (R (Ex.exit 0) [PV.ptr 0 0, PV.int IntKind.u32 0, PV.arr 1 0 (List.length l) cap, PV.int IntKind.i64 (↑(List.length l) : Int), PV.int IntKind.i64 (↑i : Int)] [Ob.cells [PV.arr 1 0 (List.length l) cap, PV.int IntKind.i64 most], Ob.cells (flP l ++ J)])) : Holds (wpc br Try.prog gl [] [] (fun o => match o.op with | .load t _ => (match t with | 138 => 1 | _ => 0) | _ => 0) (subOf [1, 1, 0, 1, 0] (bodyOf Try.f71)) [] (envS [0, 2, 22, 23, 24] [.ptr 0 0, .int .u32 0, .arr 1 0 l.length cap, .int .i64 l.length, .int .i64 i]) [.cells [.arr 1 0 l.length cap, .int .i64 most], .cells (flP l ++ J)] (fun ex e H => R ex (List.map e [0, 2, 22, 23, 24]) H)) := holds_of_eq (by kernel_rfl) h
theorem freNP_vc (most : Int) (R : Ex → List PV → Heap → Prop) (h : R (Ex.exit 0) [PV.ptr 0 0, PV.int IntKind.u32 0, PV.list [] Tail.exact, PV.int IntKind.i64 0, PV.int IntKind.i64 0] [Ob.cells [PV.list [] Tail.exact, PV.int IntKind.i64 most]]) : Holds (wpc br Try.prog gl [] [] (fun o => match o.op with | .load t _ => (match t with | 138 => 1 | _ => 0) | _ => 0) (subOf [1, 1, 0, 1, 0] (bodyOf Try.f71)) [] (envS [0, 2, 22, 23, 24] [.ptr 0 0, .int .u32 0, .list [] .exact, .int .i64 0, .int .i64 0]) [.cells [.list [] .exact, .int .i64 most]] (fun ex e H => R ex (List.map e [0, 2, 22, 23, 24]) H)) := holds_of_eq (by kernel_rfl) h
theorem idsAP_vc (l : List RwP) (J : List PV) (cap : Nat) (most : Int) (R : Ex → List PV → Heap → Prop) (h : br (decide (0 < (↑(List.length l) : Int))) ((iI 0 ≤ 0 ∧ 0 < (↑(List.length l) : Int)) ∧ br (true && fitX [CK.int IntKind.u32, CK.int IntKind.u32, CK.int IntKind.u32, CK.list, CK.list] 0 (List.drop 0 (flP l ++ J))) (AppL [] [[PV.int IntKind.u32 (cI (List.drop 0 (flP l ++ J)) 0)]] 1 4 ∧ (List.all [PV.int IntKind.u32 (cI (List.drop 0 (flP l ++ J)) 0)] PV.one = true ∧ [[PV.int IntKind.u32 (cI (List.drop 0 (flP l ++ J)) 0)]] ≠ []) ∧ R Ex.normal [PV.ptr 0 0, PV.list [[PV.int IntKind.u32 (cI (List.drop 0 (flP l ++ J)) 0)]] (Tail.tok 3), PV.arr 1 0 (List.length l) cap, PV.int IntKind.i64 (↑(List.length l) : Int), PV.int IntKind.i64 1] [Ob.cells [PV.arr 1 0 (List.length l) cap, PV.int IntKind.i64 most], Ob.cells (flP l ++ J), Ob.cells [PV.int IntKind.u32 (cI (List.drop 0 (flP l ++ J)) 0), PV.int IntKind.u32 (cI (List.drop 0 (flP l ++ J)) 1), PV.int IntKind.u32 (cI (List.drop 0 (flP l ++ J)) 2), PV.list (cL (List.drop 0 (flP l ++ J)) 3) (cT (List.drop 0 (flP l ++ J)) 3), PV.list (cL (List.drop 0 (flP l ++ J)) 4) (cT (List.drop 0 (flP l ++ J)) 4)], Ob.tok]) False) (R (Ex.exit 0) [PV.ptr 0 0, PV.list [] Tail.exact, PV.arr 1 0 (List.length l) cap, PV.int IntKind.i64 (↑(List.length l) : Int), PV.int IntKind.i64 0] [Ob.cells [PV.arr 1 0 (List.length l) cap, PV.int IntKind.i64 most], Ob.cells (flP l ++ J)])) : Holds (wpc br Try.prog gl [] [] (fun o => match o.op with | .load t _ => (match t with | 138 => 1 | _ => 0) | _ => match o.dst with | some 21 => 1 | _ => 0) (subOf [1, 1, 0, 1, 0, 1, 0] (bodyOf Try.f70)) [] (envS [0, 3, 11, 12, 13] [.ptr 0 0, .list [] .exact, .arr 1 0 l.length cap, .int .i64 l.length, .int .i64 0]) [.cells [.arr 1 0 l.length cap, .int .i64 most], .cells (flP l ++ J)] (fun ex e H => R ex (List.map e [0, 3, 11, 12, 13]) H)) := holds_of_eq (by kernel_rfl) h
theorem idsBP_vc (l : List RwP) (J : List PV) (cap : Nat) (most : Int) (es : List (List PV)) (i : Nat) (R : Ex → List PV → Heap → Prop) (h : br (decide ((↑i : Int) < (↑(List.length l) : Int))) ((0 ≤ (↑i : Int) ∧ (↑i : Int) < (↑(List.length l) : Int)) ∧ br (true && fitX [CK.int IntKind.u32, CK.int IntKind.u32, CK.int IntKind.u32, CK.list, CK.list] 0 (List.drop (0 + Int.toNat (↑i : Int) * 5) (flP l ++ J))) (AppL es [[PV.int IntKind.u32 (cI (List.drop (0 + Int.toNat (↑i : Int) * 5) (flP l ++ J)) 0)]] 1 4 ∧ (List.all [PV.int IntKind.u32 (cI (List.drop (0 + Int.toNat (↑i : Int) * 5) (flP l ++ J)) 0)] PV.one = true ∧ [[PV.int IntKind.u32 (cI (List.drop (0 + Int.toNat (↑i : Int) * 5) (flP l ++ J)) 0)]] ≠ []) ∧ R Ex.normal [PV.ptr 0 0, PV.list (es ++ [[PV.int IntKind.u32 (cI (List.drop (0 + Int.toNat (↑i : Int) * 5) (flP l ++ J)) 0)]]) (Tail.tok 4), PV.arr 1 0 (List.length l) cap, PV.int IntKind.i64 (↑(List.length l) : Int), PV.int IntKind.i64 (wI ((↑i : Int) + 1))] [Ob.cells [PV.arr 1 0 (List.length l) cap, PV.int IntKind.i64 most], Ob.cells (flP l ++ J), Ob.dead, Ob.cells [PV.int IntKind.u32 (cI (List.drop (0 + Int.toNat (↑i : Int) * 5) (flP l ++ J)) 0), PV.int IntKind.u32 (cI (List.drop (0 + Int.toNat (↑i : Int) * 5) (flP l ++ J)) 1), PV.int IntKind.u32 (cI (List.drop (0 + Int.toNat (↑i : Int) * 5) (flP l ++ J)) 2), PV.list (cL (List.drop (0 + Int.toNat (↑i : Int) * 5) (flP l ++ J)) 3) (cT (List.drop (0 + Int.toNat (↑i : Int) * 5) (flP l ++ J)) 3), PV.list (cL (List.drop (0 + Int.toNat (↑i : Int) * 5) (flP l ++ J)) 4) (cT (List.drop (0 + Int.toNat (↑i : Int) * 5) (flP l ++ J)) 4)], Ob.tok]) False) (R (Ex.exit 0) [PV.ptr 0 0, PV.list es (Tail.tok 2), PV.arr 1 0 (List.length l) cap, PV.int IntKind.i64 (↑(List.length l) : Int), PV.int IntKind.i64 (↑i : Int)] [Ob.cells [PV.arr 1 0 (List.length l) cap, PV.int IntKind.i64 most], Ob.cells (flP l ++ J), Ob.tok])) : Holds (wpc br Try.prog gl [] [] (fun o => match o.op with | .load t _ => (match t with | 138 => 1 | _ => 0) | _ => match o.dst with | some 21 => 1 | _ => 0) (subOf [1, 1, 0, 1, 0, 1, 0] (bodyOf Try.f70)) [] (envS [0, 3, 11, 12, 13] [.ptr 0 0, .list es (.tok 2), .arr 1 0 l.length cap, .int .i64 l.length, .int .i64 i]) [.cells [.arr 1 0 l.length cap, .int .i64 most], .cells (flP l ++ J), .tok] (fun ex e H => R ex (List.map e [0, 3, 11, 12, 13]) H)) := holds_of_eq (by kernel_rfl) h
theorem idsNP_vc (most : Int) (R : Ex → List PV → Heap → Prop) (h : R (Ex.exit 0) [PV.ptr 0 0, PV.list [] Tail.exact, PV.list [] Tail.exact, PV.int IntKind.i64 0, PV.int IntKind.i64 0] [Ob.cells [PV.list [] Tail.exact, PV.int IntKind.i64 most]]) : Holds (wpc br Try.prog gl [] [] (fun o => match o.op with | .load t _ => (match t with | 138 => 1 | _ => 0) | _ => 0) (subOf [1, 1, 0, 1, 0, 1, 0] (bodyOf Try.f70)) [] (envS [0, 3, 11, 12, 13] [.ptr 0 0, .list [] .exact, .list [] .exact, .int .i64 0, .int .i64 0]) [.cells [.list [] .exact, .int .i64 most]] (fun ex e H => R ex (List.map e [0, 3, 11, 12, 13]) H)) := holds_of_eq (by kernel_rfl) h
def freP_l : LSp := fun e H Q => ∃ (l : List RwP) (J : List PV) (cap : Nat) (most : Int), l.length ≤ 1000000 ∧ (∀ y ∈ J, Low 2 y) ∧ SlIs (List.map e [0, 2, 22, 23, 24]) [.ptr 0 0, .int .u32 0, .arr 1 0 l.length cap, .int .i64 l.length, .int .i64 0] ∧ HpIs H (hpAP l J cap most) ∧
  (gap l < l.length → ∀ (ob : Ob), Q .ret (envS [0, 2, 22, 23, 24] [.ptr 0 0, .int .u32 ((gap l : Int) + 1), .arr 1 0 l.length cap, .int .i64 l.length, .int .i64 (gap l)]) (hpAP l J cap most ++ [ob])) ∧
  (gap l = l.length → Q (.exit 0) (envS [0, 2, 22, 23, 24] [.ptr 0 0, .int .u32 0, .arr 1 0 l.length cap, .int .i64 l.length, .int .i64 l.length]) (hpAP l J cap most))
theorem freP_l_ok : ∀ e H Q, freP_l e H Q → AW Try.prog gl Try.f71.ntmps (.loop (subOf [1, 1, 0, 1, 0] (bodyOf Try.f71))) Q e H := by
  rintro e H Q ⟨l, J, cap, most, hl, hJ, he, hH, hr, hx⟩
  have hgl := gap_le l
  refine aw_loop4 (hn := fun o => match o.op with | .load t _ => (match t with | 138 => 1 | _ => 0) | _ => 0) gl_low (.nil _ _) (.nil _ _ _ _ _) (σ := Nat) [0, 2, 22, 23, 24] (fun i => i ≤ gap l)
    (fun i => [.ptr 0 0, .int .u32 0, .arr 1 0 l.length cap, .int .i64 l.length, .int .i64 i]) (fun _ => hpAP l J cap most) (fun i => l.length - i) 0 (Nat.zero_le _) he hH ?_
  intro i hi
  refine freAP_vc l J cap most i _ ?_
  simp only [br_if, dt]
  by_cases h : i < l.length
  · rw [if_pos (by omega)]
    simp only [toNat_nat, Nat.zero_add]
    rw [flP_at J h]
    refine ⟨⟨by omega, by omega⟩, ?_⟩
    rw [if_pos (by rfl)]
    have e1 : IntKind.wrap .u32 (IntKind.wrap .u32 (i : Int) + 1) = (i : Int) + 1 := by rw [wrap_u32 (n := (i : Int)) (by omega) (by omega), wrap_u32 (by omega) (by omega)]
    rw [e1]
    have hc : cI (csP (l.getD i default) ++ (flP (List.drop (i + 1) l) ++ J)) 0 = (l.getD i default).id := rfl
    rw [hc]
    by_cases c : (l.getD i default).id = (i : Int) + 1
    · rw [if_neg (by simpa using c)]
      have hlt : i < gap l := gap_step hi h c
      exact ⟨i + 1, (show l.length - (i + 1) < l.length - i by omega), hlt, by rw [wI_succ h (by omega)], [_], rfl, Nat.le_refl _, .inr ⟨by
        intro v hv
        simp only [List.mem_cons, List.not_mem_nil, or_false] at hv
        rcases hv with rfl | rfl | rfl | rfl | rfl <;> first | exact .int _ _ | exact .ptr _ _ (by simp [hpAP]) | exact .arr _ _ _ _ (by simp [hpAP]), hpAP_low hJ⟩⟩
    · rw [if_pos (by simpa using c)]
      have hge : gap l = i := gap_stop hi h c
      subst hge
      exact hr h _
  · rw [if_neg (by omega)]
    have hge : gap l = l.length := by omega
    have : i = l.length := by omega
    subst this
    exact hx hge
def frnP_l : LSp := fun e H Q => ∃ (most : Int), SlIs (List.map e [0, 2, 22, 23, 24]) [.ptr 0 0, .int .u32 0, .list [] .exact, .int .i64 0, .int .i64 0] ∧ HpIs H (hpNP most) ∧
  Q (.exit 0) (envS [0, 2, 22, 23, 24] [.ptr 0 0, .int .u32 0, .list [] .exact, .int .i64 0, .int .i64 0]) (hpNP most)
theorem frnP_l_ok : ∀ e H Q, frnP_l e H Q → AW Try.prog gl Try.f71.ntmps (.loop (subOf [1, 1, 0, 1, 0] (bodyOf Try.f71))) Q e H := by
  rintro e H Q ⟨most, he, hH, hQ⟩
  refine aw_loop4 (hn := fun o => match o.op with | .load t _ => (match t with | 138 => 1 | _ => 0) | _ => 0) gl_low (.nil _ _) (.nil _ _ _ _ _) (σ := Unit) [0, 2, 22, 23, 24] (fun _ => True)
    (fun _ => [.ptr 0 0, .int .u32 0, .list [] .exact, .int .i64 0, .int .i64 0]) (fun _ => hpNP most) (fun _ => 0) () trivial he hH ?_
  intro _ _
  exact freNP_vc most _ hQ
theorem uniP (l : List RwP) : uni 1 (idsL l) := by
  intro e he
  obtain ⟨a, _, rfl⟩ := List.mem_map.1 he
  rfl
theorem idsP_take {l : List RwP} {i : Nat} (h : i < l.length) : idsL (l.take (i + 1)) = idsL (l.take i) ++ [[.int .u32 (l.getD i default).id]] := by
  unfold idsL
  rw [← List.take_append_getElem h, List.map_append, getD_eq' h]; rfl
def idsP_l : LSp := fun e H Q => ∃ (l : List RwP) (J : List PV) (cap : Nat) (most : Int), l.length ≤ 1000000 ∧ (∀ y ∈ J, Low 2 y) ∧ SlIs (List.map e [0, 3, 11, 12, 13]) [.ptr 0 0, .list [] .exact, .arr 1 0 l.length cap, .int .i64 l.length, .int .i64 0] ∧ HpIs H (hpAP l J cap most) ∧
  Q (.exit 0) (envS [0, 3, 11, 12, 13] [.ptr 0 0, .list (idsL l) .no, .arr 1 0 l.length cap, .int .i64 l.length, .int .i64 l.length]) (hpAP l J cap most ++ [.dead])
theorem idsP_l_ok : ∀ e H Q, idsP_l e H Q → AW Try.prog gl Try.f70.ntmps (.loop (subOf [1, 1, 0, 1, 0, 1, 0] (bodyOf Try.f70))) Q e H := by
  rintro e H Q ⟨l, J, cap, most, hl, hJ, he, hH, hQ⟩
  have hH2 : H = hpAP l J cap most := hH
  refine aw_grow (f := fun r : RwP => [PV.int .u32 r.id]) (T := l) (hn := fun o => match o.op with | .load t _ => (match t with | 138 => 1 | _ => 0) | _ => match o.dst with | some 21 => 1 | _ => 0) gl_low (.nil _ _) (.nil _ _ _ _ _) [0, 3, 11, 12, 13] (fun r i => [.ptr 0 0, r, .arr 1 0 l.length cap, .int .i64 l.length, .int .i64 i]) (hpAP l J cap most)
    (hpAP_low hJ) (fun b _ x hx => by rcases List.mem_singleton.1 hx with rfl; exact .int _ _)
    (fun es i k h => .same (.ptr _ _ (by simp [hpAP])) (.row h (.same (.arr _ _ _ _ (by simp [hpAP])) (.same (.int _ _) (.same (.int _ _) .nil))))) he hH2 ?_ ?_
  · refine idsAP_vc l J cap most _ ?_
    simp only [br_if, dt]
    by_cases h : 0 < l.length
    · rw [if_pos (by omega)]
      refine ⟨⟨by decide, by omega⟩, ?_⟩
      have e0 := flP_at J h
      rw [Nat.zero_mul] at e0
      rw [e0, if_pos (by rfl)]
      refine ⟨⟨(by intro e he; simp at he), (by intro e he; simp at he; subst he; rfl), by simp⟩, ⟨by rfl, by simp⟩, h, _, 3, rfl, rfl, by simp [hpAP], ?_⟩
      have := idsP_take h
      unfold idsL at this
      rw [this]; rfl
    · rw [if_neg (by omega)]
      have hm : l = [] := List.eq_nil_of_length_eq_zero (by omega)
      subst hm
      exact ⟨_, _, .cons (.refl _) (.cons (.list _ _) (.cons (.refl _) (.cons (.refl _) (.cons (.refl _) .nil)))), pad_dead _, hQ⟩
  · intro i h0 hi
    refine idsBP_vc l J cap most (idsL (l.take i)) i _ ?_
    simp only [br_if, dt, toNat_nat, Nat.zero_add]
    by_cases h : i < l.length
    · rw [if_pos (by omega)]
      refine ⟨⟨by omega, by omega⟩, ?_⟩
      rw [flP_at J h, if_pos (by rfl)]
      refine ⟨⟨uniP _, (by intro e he; simp at he; subst he; rfl), by simp only [idsL, List.length_map, List.length_take, List.length_cons, List.length_nil]; omega⟩, ⟨by rfl, by simp⟩, h, _, 4, rfl, rfl, by simp [hpAP], ?_⟩
      have := idsP_take h
      unfold idsL at this
      rw [this, wI_succ h (by omega)]; rfl
    · rw [if_neg (by omega)]
      have hm : i = l.length := by omega
      subst hm
      rw [List.take_length]
      exact ⟨_, _, .cons (.refl _) (.cons (.list _ _) (.cons (.refl _) (.cons (.refl _) (.cons (.refl _) .nil)))), pad_kill (hpAP l J cap most) .tok, hQ⟩
def idnP_l : LSp := fun e H Q => ∃ (most : Int), SlIs (List.map e [0, 3, 11, 12, 13]) [.ptr 0 0, .list [] .exact, .list [] .exact, .int .i64 0, .int .i64 0] ∧ HpIs H (hpNP most) ∧
  Q (.exit 0) (envS [0, 3, 11, 12, 13] [.ptr 0 0, .list [] .exact, .list [] .exact, .int .i64 0, .int .i64 0]) (hpNP most)
theorem idnP_l_ok : ∀ e H Q, idnP_l e H Q → AW Try.prog gl Try.f70.ntmps (.loop (subOf [1, 1, 0, 1, 0, 1, 0] (bodyOf Try.f70))) Q e H := by
  rintro e H Q ⟨most, he, hH, hQ⟩
  refine aw_loop4 (hn := fun o => match o.op with | .load t _ => (match t with | 138 => 1 | _ => 0) | _ => 0) gl_low (.nil _ _) (.nil _ _ _ _ _) (σ := Unit) [0, 3, 11, 12, 13] (fun _ => True)
    (fun _ => [.ptr 0 0, .list [] .exact, .list [] .exact, .int .i64 0, .int .i64 0]) (fun _ => hpNP most) (fun _ => 0) () trivial he hH ?_
  intro _ _
  exact idsNP_vc most _ hQ
theorem feeAP_vc (l : List RwP) (J : List PV) (cap : Nat) (most : Int)  (K : PV → Heap → Prop) (h : br (decide ((↑(List.length l) : Int) ≥ most)) (K (PV.int IntKind.u32 0) [Ob.cells [PV.arr 1 0 (List.length l) cap, PV.int IntKind.i64 most], Ob.cells (flP l ++ J)]) (∃ (l_1 : List RwP), ∃ (J_1 : List PV), ∃ (cap_1 : Nat), ∃ (most_1 : Int), List.length l_1 ≤ 1000000 ∧ (∀ (y : PV), y ∈ J_1 → Low 2 y) ∧ SlIs [PV.ptr 0 0, PV.int IntKind.u32 0, PV.arr 1 0 (List.length l) cap, PV.int IntKind.i64 (↑(List.length l) : Int), PV.int IntKind.i64 0] [PV.ptr 0 0, PV.int IntKind.u32 0, PV.arr 1 0 (List.length l_1) cap_1, PV.int IntKind.i64 (↑(List.length l_1) : Int), PV.int IntKind.i64 0] ∧ HpIs [Ob.cells [PV.arr 1 0 (List.length l) cap, PV.int IntKind.i64 most], Ob.cells (flP l ++ J)] [Ob.cells [PV.arr 1 0 (List.length l_1) cap_1, PV.int IntKind.i64 most_1], Ob.cells (flP l_1 ++ J_1)] ∧ (gap l_1 < List.length l_1 → ∀ (ob : Ob), K (PV.int IntKind.u32 ((↑(gap l_1) : Int) + 1)) [Ob.cells [PV.arr 1 0 (List.length l_1) cap_1, PV.int IntKind.i64 most_1], Ob.cells (flP l_1 ++ J_1), ob]) ∧ (gap l_1 = List.length l_1 → K (PV.int IntKind.u32 (IntKind.wrap IntKind.u32 (IntKind.wrap IntKind.u32 (↑(List.length l_1) : Int) + 1))) [Ob.cells [PV.arr 1 0 (List.length l_1) cap_1, PV.int IntKind.i64 most_1], Ob.cells (flP l_1 ++ J_1)]))) : ACalls Try.prog gl 71 [.ptr 0 0] [.cells [.arr 1 0 l.length cap, .int .i64 most], .cells (flP l ++ J)] K :=
  acalls_of_wpc2 (T := []) (L := [([1, 1, 0, 1, 0], freP_l)]) (fun o => match o.op with | .load t _ => (match t with | 138 => 1 | _ => 0) | _ => 0) Try.func71 (by kernel_rfl) (by kernel_rfl) (by kernel_rfl) (TabOk.nil _ _) (.cons (sub_of (by kernel_rfl)) freP_l_ok (.nil _ _ _ _ _)) (holds_of_eq (by kernel_rfl) h)
theorem ideAP_vc (l : List RwP) (J : List PV) (cap : Nat) (most : Int)  (K : PV → Heap → Prop) (h : ∃ (l_1 : List RwP), ∃ (J_1 : List PV), ∃ (cap_1 : Nat), ∃ (most_1 : Int), List.length l_1 ≤ 1000000 ∧ (∀ (y : PV), y ∈ J_1 → Low 2 y) ∧ SlIs [PV.ptr 0 0, PV.list [] Tail.exact, PV.arr 1 0 (List.length l) cap, PV.int IntKind.i64 (↑(List.length l) : Int), PV.int IntKind.i64 0] [PV.ptr 0 0, PV.list [] Tail.exact, PV.arr 1 0 (List.length l_1) cap_1, PV.int IntKind.i64 (↑(List.length l_1) : Int), PV.int IntKind.i64 0] ∧ HpIs [Ob.cells [PV.arr 1 0 (List.length l) cap, PV.int IntKind.i64 most], Ob.cells (flP l ++ J)] [Ob.cells [PV.arr 1 0 (List.length l_1) cap_1, PV.int IntKind.i64 most_1], Ob.cells (flP l_1 ++ J_1)] ∧ K (PV.list (idsL l_1) Tail.no) [Ob.cells [PV.arr 1 0 (List.length l_1) cap_1, PV.int IntKind.i64 most_1], Ob.cells (flP l_1 ++ J_1), Ob.dead]) : ACalls Try.prog gl 70 [.ptr 0 0] [.cells [.arr 1 0 l.length cap, .int .i64 most], .cells (flP l ++ J)] K :=
  acalls_of_wpc2 (T := []) (L := [([1, 1, 0, 1, 0, 1, 0], idsP_l)]) (fun o => match o.op with | .load t _ => (match t with | 138 => 1 | _ => 0) | _ => 0) Try.func70 (by kernel_rfl) (by kernel_rfl) (by kernel_rfl) (TabOk.nil _ _) (.cons (sub_of (by kernel_rfl)) idsP_l_ok (.nil _ _ _ _ _)) (holds_of_eq (by kernel_rfl) h)
theorem feeNP_vc (most : Int)  (K : PV → Heap → Prop) (h : br (decide (0 ≥ most)) (K (PV.int IntKind.u32 0) [Ob.cells [PV.list [] Tail.exact, PV.int IntKind.i64 most]]) (∃ (most_1 : Int), SlIs [PV.ptr 0 0, PV.int IntKind.u32 0, PV.list [] Tail.exact, PV.int IntKind.i64 0, PV.int IntKind.i64 0] [PV.ptr 0 0, PV.int IntKind.u32 0, PV.list [] Tail.exact, PV.int IntKind.i64 0, PV.int IntKind.i64 0] ∧ HpIs [Ob.cells [PV.list [] Tail.exact, PV.int IntKind.i64 most]] [Ob.cells [PV.list [] Tail.exact, PV.int IntKind.i64 most_1]] ∧ K (PV.int IntKind.u32 1) [Ob.cells [PV.list [] Tail.exact, PV.int IntKind.i64 most_1]])) : ACalls Try.prog gl 71 [.ptr 0 0] [.cells [.list [] .exact, .int .i64 most]] K :=
  acalls_of_wpc2 (T := []) (L := [([1, 1, 0, 1, 0], frnP_l)]) (fun o => match o.op with | .load t _ => (match t with | 138 => 1 | _ => 0) | _ => 0) Try.func71 (by kernel_rfl) (by kernel_rfl) (by kernel_rfl) (TabOk.nil _ _) (.cons (sub_of (by kernel_rfl)) frnP_l_ok (.nil _ _ _ _ _)) (holds_of_eq (by kernel_rfl) h)
theorem ideNP_vc (most : Int)  (K : PV → Heap → Prop) (h : ∃ (most_1 : Int), SlIs [PV.ptr 0 0, PV.list [] Tail.exact, PV.list [] Tail.exact, PV.int IntKind.i64 0, PV.int IntKind.i64 0] [PV.ptr 0 0, PV.list [] Tail.exact, PV.list [] Tail.exact, PV.int IntKind.i64 0, PV.int IntKind.i64 0] ∧ HpIs [Ob.cells [PV.list [] Tail.exact, PV.int IntKind.i64 most]] [Ob.cells [PV.list [] Tail.exact, PV.int IntKind.i64 most_1]] ∧ K (PV.list [] Tail.exact) [Ob.cells [PV.list [] Tail.exact, PV.int IntKind.i64 most_1]]) : ACalls Try.prog gl 70 [.ptr 0 0] [.cells [.list [] .exact, .int .i64 most]] K :=
  acalls_of_wpc2 (T := []) (L := [([1, 1, 0, 1, 0, 1, 0], idnP_l)]) (fun o => match o.op with | .load t _ => (match t with | 138 => 1 | _ => 0) | _ => 0) Try.func70 (by kernel_rfl) (by kernel_rfl) (by kernel_rfl) (TabOk.nil _ _) (.cons (sub_of (by kernel_rfl)) idnP_l_ok (.nil _ _ _ _ _)) (holds_of_eq (by kernel_rfl) h)
theorem drEP {l : List RwP} {most t : Int} {hh : Heap} (hH : EXP l most hh) (ok : Ok l most) : ACalls Try.prog gl 87 [.ptr 0 0, .int .u32 t] hh (fun x H' => x = .tup [(let v := getR l t; Pt.pv v), .bool (has l t)] ∧ RestOf (EXP (dropL l t) most) H') := by
  have hfull := ok.len
  rcases hH with ⟨J, cap, rfl, hc, hJ⟩ | ⟨rfl, rfl⟩
  · refine droAP_vc l J cap most t _ ⟨l, most, t, rfl, ⟨_, [_], rfl, EXP_A hc hJ⟩, ok, ?_⟩
    simp only [br_if]
    unfold dropL
    by_cases c : has l t = true
    · obtain ⟨c1, c2⟩ := has_lt c
      rw [if_pos c, if_pos c]
      refine ⟨l, most, t, rfl, ⟨_, [_, _], rfl, EXP_A hc hJ⟩, ok, getR l t, l, J, cap, most, lbp l t, (by show _ = _; rw [wI_succ c1 (by omega)]), rfl, c1, ok.len, hc, hJ, by first | rfl | trivial, ?_⟩
      have hle : l.length - 1 = (l.eraseIdx (lbp l t)).length := by rw [List.length_eraseIdx_of_lt c1]
      rw [hle]
      exact left_AP (k := 0) rfl (by omega) (((zrP_room 1).app hJ |> fun h => by
        simp only [List.replicate, List.flatten_cons, List.flatten_nil, List.append_nil] at h
        exact h.cast (by omega)))
    · rw [if_neg c, if_neg c]
      exact ⟨by first | rfl | trivial, left_AP (k := 0) rfl hc hJ⟩
  · refine droNP_vc most t _ ⟨[], most, t, rfl, ⟨_, [_], rfl, EXP_N⟩, ok, ?_⟩
    exact ⟨rfl, left_NP⟩
theorem freEP {l : List RwP} {most : Int} {hh : Heap} (hH : EXP l most hh) (ok : Ok l most) : ACalls Try.prog gl 71 [.ptr 0 0] hh (fun x H' => x = .int .u32 (freeL l most) ∧ RestOf (EXP l most) H') := by
  have hfull := ok.len
  unfold freeL
  rcases hH with ⟨J, cap, rfl, hc, hJ⟩ | ⟨rfl, rfl⟩
  · refine feeAP_vc l J cap most _ ?_
    simp only [br_if]
    by_cases c : (l.length : Int) ≥ most
    · rw [if_pos (decide_eq_true c), if_pos c]
      exact ⟨rfl, left_EXP (EXP_A hc hJ)⟩
    · rw [if_neg (by simpa using c), if_neg c]
      refine ⟨l, J, cap, most, ok.len, low2 hJ, rfl, rfl, fun _ ob => ⟨by trivial, left_AP (k := 0) rfl hc hJ⟩, fun hg => ⟨?_, left_AP (k := 0) rfl hc hJ⟩⟩
      rw [wrap_u32 (n := (l.length : Int)) (by omega) (by omega), wrap_u32 (by omega) (by omega), hg]
  · refine feeNP_vc most _ ?_
    simp only [br_if]
    by_cases c : 0 ≥ most
    · rw [if_pos (decide_eq_true c), if_pos (by simpa using c)]
      exact ⟨rfl, left_NP⟩
    · rw [if_neg (by simpa using c), if_neg (by simpa using c)]
      exact ⟨most, rfl, rfl, by trivial, left_NP⟩
theorem idsEP {l : List RwP} {most : Int} {hh : Heap} (hH : EXP l most hh) (ok : Ok l most) : ACalls Try.prog gl 70 [.ptr 0 0] hh (fun x H' => x = .list (idsL l) .no ∧ RestOf (EXP l most) H') := by
  rcases hH with ⟨J, cap, rfl, hc, hJ⟩ | ⟨rfl, rfl⟩
  · exact ideAP_vc l J cap most _ ⟨l, J, cap, most, ok.len, low2 hJ, rfl, rfl, rfl, left_AP (k := 0) rfl hc hJ⟩
  · exact acalls_wkout (ideNP_vc most _ ⟨most, rfl, rfl, _, _, .list _ _, .refl _, rfl, left_NP⟩)
-- amid other objects
def getP_s (args : List PV) (H : Heap) (K : PV → Prop) : Prop := ∃ (q : Nat) (l : List RwP) (most t : Int), SlIs args [.ptr q 0, .int .u32 t] ∧ AbIs H q (rkP l most) ∧ Ok l most ∧ K (.tup [(let v := getR l t; Pt.pv v), .bool (has l t)])
theorem getP_ok : SpOk Try.prog gl 69 (.read getP_s) := by
  rintro args H K ⟨q, l, most, t, he, ha, ok, hk⟩
  have he : args = _ := he
  subst he
  refine ⟨_, meth_read gl_low ha low0_int (low_tupvP _ _) (fun hh h => ?_), hk⟩
  obtain ⟨r, h1, h2⟩ := geEP_ok _ hh (fun x => x = .tup [(let v := getR l t; Pt.pv v), .bool (has l t)]) ⟨l, most, t, rfl, h, ok, rfl⟩
  exact acalls_to h1 fun x H' e => ⟨e.1.trans h2, e.2 ▸ left_EXP h⟩
def putP_s (args : List PV) (H : Heap) (K : PV → Heap → Prop) : Prop := match args with
  | .ptr q 0 :: rest => ∃ (l : List RwP) (most t : Int) (v : Pt) (t1 t2 : Tail), SlIs rest [.int .u32 t, .agg [.int .u32 v.id, .int .u32 v.ld, .list (en1 .u32 v.ms) t1, .list (en1 .u32 v.iv) t2]] ∧ AbIs H q (rkP l most) ∧ Ok l most ∧ K (.int .i64 (putL l most t v).2) (H.set q (.abs (rkP (putL l most t v).1 most)))
  | _ => False
theorem putP_ok : SpOk Try.prog gl 88 (.heap putP_s) := by
  intro args H K h
  unfold putP_s at h
  split at h
  · rename_i q rest
    obtain ⟨l, most, t, v, t1, t2, he, ha, ok, hk⟩ := h
    have he : rest = _ := he
    subst he
    refine acalls_args (.cons (.refl _) (.cons (.refl _) (.cons (.agg (.cons (.refl _) (.cons (.refl _) (.cons (.list _ _) (.cons (.list _ _) .nil))))) .nil))) ?_
    refine meth_heap gl_low ha (by intro y hy; simp only [List.mem_cons, List.not_mem_nil, or_false] at hy; rcases hy with rfl | rfl; exact .int _ _; exact lowvP v) (.int _ _) (fun hh h => ?_) hk
    exact puEP_ok _ hh _ ⟨l, most, t, v, rfl, h, ok, fun H' h' => ⟨rfl, h'⟩⟩
  · exact h.elim
def newP_s (args : List PV) (H : Heap) (K : PV → Heap → Prop) : Prop := ∃ n : Int, SlIs args [.int .i64 n] ∧ K (.ptr H.length 0) (H ++ [.abs (rkP [] (mxI 0 n))])
theorem newP_ok : SpOk Try.prog gl 59 (.heap newP_s) := by
  rintro args H K ⟨n, he, hk⟩
  have he : args = _ := he
  subst he
  exact acalls_to (make_left gl_low low0_int (newP_vc n _ ⟨rfl, left_NP⟩)) fun _ _ e => e.1 ▸ e.2 ▸ hk
def freP_s (args : List PV) (H : Heap) (K : PV → Prop) : Prop := ∃ (q : Nat) (l : List RwP) (most : Int), SlIs args [.ptr q 0] ∧ AbIs H q (rkP l most) ∧ Ok l most ∧ K (.int .u32 (freeL l most))
theorem freP_ok : SpOk Try.prog gl 71 (.read freP_s) := by
  rintro args H K ⟨q, l, most, he, ha, ok, hk⟩
  have he : args = _ := he
  subst he
  exact ⟨_, meth_read gl_low ha low0_nil (.int _ _) (fun hh h => freEP h ok), hk⟩
def idsP_s (args : List PV) (H : Heap) (K : PV → Prop) : Prop := ∃ (q : Nat) (l : List RwP) (most : Int), SlIs args [.ptr q 0] ∧ AbIs H q (rkP l most) ∧ Ok l most ∧ K (.list (idsL l) .no)
theorem low_idsP (l : List RwP) : Low 0 (.list (idsL l) .no) := low_list NT.no (by
  intro x hx
  obtain ⟨c, h1, h2⟩ := List.mem_flatten.1 hx
  obtain ⟨r, _, rfl⟩ := List.mem_map.1 h1
  rcases List.mem_singleton.1 h2 with rfl
  exact .int _ _)
theorem idsP_ok : SpOk Try.prog gl 70 (.read idsP_s) := by
  rintro args H K ⟨q, l, most, he, ha, ok, hk⟩
  have he : args = _ := he
  subst he
  exact ⟨_, meth_read gl_low ha low0_nil (low_idsP l) (fun hh h => idsEP h ok), hk⟩
def droP_s (args : List PV) (H : Heap) (K : PV → Heap → Prop) : Prop := match args with
  | .ptr q 0 :: rest => ∃ (l : List RwP) (most t : Int), SlIs rest [.int .u32 t] ∧ AbIs H q (rkP l most) ∧ Ok l most ∧ K (.tup [(let v := getR l t; Pt.pv v), .bool (has l t)]) (H.set q (.abs (rkP (dropL l t) most)))
  | _ => False
theorem droP_ok : SpOk Try.prog gl 87 (.heap droP_s) := by
  intro args H K h
  unfold droP_s at h
  split at h
  · rename_i q rest
    obtain ⟨l, most, t, he, ha, ok, hk⟩ := h
    have he : rest = _ := he
    subst he
    exact meth_heap gl_low ha low0_int (low_tupvP _ _) (fun hh h => drEP h ok) hk
  · exact h.elim
theorem putCP_ok : SpOk Try.prog gl 88 (.chg putP_s) := by
  intro args H K h
  unfold putP_s at h
  split at h
  · obtain ⟨l, most, t, v, t1, t2, he, ha, ok, hk⟩ := h
    exact ⟨_, _, putP_ok _ H (fun x H1 => x = _ ∧ H1 = _) (by unfold putP_s; exact ⟨l, most, t, v, t1, t2, he, ha, ok, ⟨rfl, rfl⟩⟩), hk⟩
  · exact h.elim
theorem droCP_ok : SpOk Try.prog gl 87 (.chg droP_s) := by
  intro args H K h
  unfold droP_s at h
  split at h
  · obtain ⟨l, most, t, he, ha, ok, hk⟩ := h
    exact ⟨_, _, droP_ok _ H (fun x H1 => x = _ ∧ H1 = _) (by unfold droP_s; exact ⟨l, most, t, he, ha, ok, ⟨rfl, rfl⟩⟩), hk⟩
  · exact h.elim
/-- all methods of a rack, ahead of others -/
def TMP (T : Tab) : Tab := (69, .read getP_s) :: (88, .chg putP_s) :: (87, .chg droP_s) :: (71, .read freP_s) :: (70, .read idsP_s) :: (59, .heap newP_s) :: T
theorem TMP_ok {T : Tab} (h : TabOk Try.prog gl T) : TabOk Try.prog gl (TMP T) := (.cons getP_ok (.cons putCP_ok (.cons droCP_ok (.cons freP_ok (.cons idsP_ok (.cons newP_ok h))))))
end Go.Proofs.Ythabdpaipgclpaa
