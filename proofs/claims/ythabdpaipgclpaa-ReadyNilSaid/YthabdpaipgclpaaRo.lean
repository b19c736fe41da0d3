/-
  A room that is not there: ReadyNil.
-/
import Derived.Test.YthabdpaipgclpaaRm
import Derived.Test.YthabdpaipgclpaaProg
namespace Go.Proofs.Ythabdpaipgclpaa
open Go Go.AM Go.Proofs
theorem zids_red  (K : PV → Prop) : (K (PV.list [] Tail.exact)) = wpc br Try.prog gl [] [] (fun _ => 0) (bodyOf Try.f19) [] (env0 [.nilptr]) [] (resQ Try.prog Try.f19.results.toList (fun x _ => K x)) := by kernel_rfl
theorem zids_vc   (K : PV → Prop) (h : K (PV.list [] Tail.exact)) : ACalls Try.prog gl 19 [.nilptr] [] (fun x _ => K x) :=
  acalls_of_wpc2 (T := []) (L := []) (fun _ => 0) Try.func19 (by kernel_rfl) (by kernel_rfl) (by kernel_rfl) (TabOk.nil _ _) (LOk.nil _ _ _ _ _) (holds_of_eq (zids_red K) h)
theorem zchk_red (t : Int) (K : PV → Prop) : (K (PV.tup [PV.agg [PV.int IntKind.u32 0, PV.list [] Tail.exact, PV.list [] Tail.exact, PV.int IntKind.i64 0], PV.bool false])) = wpc br Try.prog gl [] [] (fun _ => 0) (bodyOf Try.f14) [] (env0 [.nilptr, .int .u32 t]) [] (resQ Try.prog Try.f14.results.toList (fun x _ => K x)) := by kernel_rfl
theorem zchk_vc (t : Int)  (K : PV → Prop) (h : K (PV.tup [PV.agg [PV.int IntKind.u32 0, PV.list [] Tail.exact, PV.list [] Tail.exact, PV.int IntKind.i64 0], PV.bool false])) : ACalls Try.prog gl 14 [.nilptr, .int .u32 t] [] (fun x _ => K x) :=
  acalls_of_wpc2 (T := []) (L := []) (fun _ => 0) Try.func14 (by kernel_rfl) (by kernel_rfl) (by kernel_rfl) (TabOk.nil _ _) (LOk.nil _ _ _ _ _) (holds_of_eq (zchk_red t K) h)
theorem zopen_red (t un : Int) (pl : List Int) (K : PV → Prop) : (K (PV.int IntKind.i64 10)) = wpc br Try.prog gl [] [] (fun o => match o.dst with | some 65 => 7 | _ => 0) (bodyOf Try.f12) [] (env0 [.nilptr, .int .u32 t, .int .i64 un, .list (pl.map u1) .no]) [] (resQ Try.prog Try.f12.results.toList (fun x _ => K x)) := by kernel_rfl
theorem zopen_vc (t un : Int) (pl : List Int)  (K : PV → Prop) (h : K (PV.int IntKind.i64 10)) : ACalls Try.prog gl 12 [.nilptr, .int .u32 t, .int .i64 un, .list (pl.map u1) .no] [] (fun x _ => K x) :=
  acalls_of_wpc2 (T := []) (L := []) (fun o => match o.dst with | some 65 => 7 | _ => 0) Try.func12 (by kernel_rfl) (by kernel_rfl) (by kernel_rfl) (TabOk.nil _ _) (LOk.nil _ _ _ _ _) (holds_of_eq (zopen_red t un pl K) h)
theorem zl1 : Low 0 PV.nilptr := .nilptr
theorem zlc : Low 0 (PV.agg [.int .u32 0, .list [] .exact, .list [] .exact, .int .i64 0]) := by
  refine .agg _ fun x hx => ?_
  simp only [List.mem_cons, List.not_mem_nil, or_false] at hx
  rcases hx with rfl | rfl | rfl | rfl
  · exact .int _ _
  · exact low_list NT.exact (by simp)
  · exact low_list NT.exact (by simp)
  · exact .int _ _
def zids_s (args : List PV) (K : PV → Prop) : Prop := SlIs args [.nilptr] ∧ K (.list [] .exact)
theorem zids_ok : SpOk Try.prog gl 19 (.pure zids_s) := by
  rintro args K ⟨he, hk⟩
  have he : args = _ := he
  subst he
  exact spure gl_low (low_one zl1) (low_list NT.exact (by simp)) (zids_vc (fun x => x = .list [] .exact) rfl) hk
def zchk_s (args : List PV) (K : PV → Prop) : Prop := ∃ t : Int, SlIs args [.nilptr, .int .u32 t] ∧ K (.tup [.agg [.int .u32 0, .list [] .exact, .list [] .exact, .int .i64 0], .bool false])
theorem zchk_ok : SpOk Try.prog gl 14 (.pure zchk_s) := by
  rintro args K ⟨t, he, hk⟩
  have he : args = _ := he
  subst he
  exact spure gl_low (low_two zl1 (.int _ _)) (.tup _ (low_two zlc (.bool _))) (zchk_vc t (fun x => x = .tup [.agg [.int .u32 0, .list [] .exact, .list [] .exact, .int .i64 0], .bool false]) rfl) hk
def zopen_s (args : List PV) (K : PV → Prop) : Prop := ∃ (t un : Int) (pl : List Int) (tl : Tail), SlIs args [.nilptr, .int .u32 t, .int .i64 un, .list (pl.map u1) tl] ∧ K (.int .i64 10)
theorem zopen_ok : SpOk Try.prog gl 12 (.pure zopen_s) := by
  rintro args K ⟨t, un, pl, tl, he, hk⟩
  have he : args = _ := he
  subst he
  exact spure_w gl_low (.cons (.refl _) (.cons (.refl _) (.cons (.refl _) (.cons (.list _ _) .nil)))) (low_four zl1 (.int _ _) (.int _ _) (low_us _)) (.int _ _) (zopen_vc t un pl (fun x => x = .int .i64 10) rfl) hk
def TZ1 : Tab := (19, .pure zids_s) :: (14, .pure zchk_s) :: (12, .pure zopen_s) :: TR0
theorem TZ1_ok : TabOk Try.prog gl TZ1 := .cons zids_ok (.cons zchk_ok (.cons zopen_ok TR0_ok))
theorem zof_red (p : Int) (R : Ex → List PV → Heap → Prop) : (R (Ex.exit 0) [PV.nilptr, PV.int IntKind.u32 p, PV.int IntKind.u32 0, PV.list [] Tail.exact, PV.int IntKind.i64 0, PV.int IntKind.i64 0] []) = wpc br Try.prog gl TZ1 [] (fun _ => 0) (subOf [1, 0, 1, 0] (bodyOf Try.f18)) [] (envS [0, 1, 4, 10, 11, 12] [.nilptr, .int .u32 p, .int .u32 0, .list [] .exact, .int .i64 0, .int .i64 0]) [] (fun ex e H => R ex (List.map e [0, 1, 4, 10, 11, 12]) H) := by kernel_rfl
theorem zof_vc (p : Int) (R : Ex → List PV → Heap → Prop) (h : R (Ex.exit 0) [PV.nilptr, PV.int IntKind.u32 p, PV.int IntKind.u32 0, PV.list [] Tail.exact, PV.int IntKind.i64 0, PV.int IntKind.i64 0] []) : Holds (wpc br Try.prog gl TZ1 [] (fun _ => 0) (subOf [1, 0, 1, 0] (bodyOf Try.f18)) [] (envS [0, 1, 4, 10, 11, 12] [.nilptr, .int .u32 p, .int .u32 0, .list [] .exact, .int .i64 0, .int .i64 0]) [] (fun ex e H => R ex (List.map e [0, 1, 4, 10, 11, 12]) H)) := holds_of_eq (zof_red p R) h
def zof_l : LSp := fun e H Q => ∃ (p : Int), SlIs (List.map e [0, 1, 4, 10, 11, 12]) [.nilptr, .int .u32 p, .int .u32 0, .list [] .exact, .int .i64 0, .int .i64 0] ∧ HpIs H [] ∧ Q (.exit 0) (envS [0, 1, 4, 10, 11, 12] [.nilptr, .int .u32 p, .int .u32 0, .list [] .exact, .int .i64 0, .int .i64 0]) []
theorem zof_l_ok : ∀ e H Q, zof_l e H Q → AW Try.prog gl Try.f18.ntmps (.loop (subOf [1, 0, 1, 0] (bodyOf Try.f18))) Q e H := by
  rintro e H Q ⟨p, he, hH, hQ⟩
  refine aw_loop4 (hn := fun _ => 0) gl_low TZ1_ok (.nil _ _ _ _ _) (σ := Unit) [0, 1, 4, 10, 11, 12] (fun _ => True) (fun _ => [.nilptr, .int .u32 p, .int .u32 0, .list [] .exact, .int .i64 0, .int .i64 0]) (fun _ => []) (fun _ => 0) () trivial he hH ?_
  intro _ _
  exact zof_vc p _ hQ
theorem zof1_red (p : Int) (K : PV → Prop) : (SlIs [PV.nilptr] [PV.nilptr] ∧ ∃ (p_1 : Int), SlIs [PV.nilptr, PV.int IntKind.u32 p, PV.int IntKind.u32 0, PV.list [] Tail.exact, PV.int IntKind.i64 0, PV.int IntKind.i64 0] [PV.nilptr, PV.int IntKind.u32 p_1, PV.int IntKind.u32 0, PV.list [] Tail.exact, PV.int IntKind.i64 0, PV.int IntKind.i64 0] ∧ HpIs [] [] ∧ K (PV.int IntKind.u32 0)) = wpc br Try.prog gl TZ1 [([1, 0, 1, 0], zof_l)] (fun _ => 0) (bodyOf Try.f18) [] (env0 [.nilptr, .int .u32 p]) [] (resQ Try.prog Try.f18.results.toList (fun x _ => K x)) := by kernel_rfl
theorem zof1_vc (p : Int)  (K : PV → Prop) (h : SlIs [PV.nilptr] [PV.nilptr] ∧ ∃ (p_1 : Int), SlIs [PV.nilptr, PV.int IntKind.u32 p, PV.int IntKind.u32 0, PV.list [] Tail.exact, PV.int IntKind.i64 0, PV.int IntKind.i64 0] [PV.nilptr, PV.int IntKind.u32 p_1, PV.int IntKind.u32 0, PV.list [] Tail.exact, PV.int IntKind.i64 0, PV.int IntKind.i64 0] ∧ HpIs [] [] ∧ K (PV.int IntKind.u32 0)) : ACalls Try.prog gl 18 [.nilptr, .int .u32 p] [] (fun x _ => K x) :=
  acalls_of_wpc2 (T := TZ1) (L := [([1, 0, 1, 0], zof_l)]) (fun _ => 0) Try.func18 (by kernel_rfl) (by kernel_rfl) (by kernel_rfl) (TZ1_ok) (.cons (sub_of (by kernel_rfl)) zof_l_ok (.nil _ _ _ _ _)) (holds_of_eq (zof1_red p K) h)
theorem zclose_red (t : Int) (K : PV → Prop) : (∃ (t_1 : Int), SlIs [PV.nilptr, PV.int IntKind.u32 t] [PV.nilptr, PV.int IntKind.u32 t_1] ∧ K (PV.tup [PV.agg [PV.int IntKind.u32 0, PV.list [] Tail.exact, PV.list [] Tail.exact, PV.int IntKind.i64 0], PV.bool false])) = wpc br Try.prog gl TZ1 [] (fun _ => 0) (bodyOf Try.f17) [] (env0 [.nilptr, .int .u32 t]) [] (resQ Try.prog Try.f17.results.toList (fun x _ => K x)) := by kernel_rfl
theorem zclose_vc (t : Int)  (K : PV → Prop) (h : ∃ (t_1 : Int), SlIs [PV.nilptr, PV.int IntKind.u32 t] [PV.nilptr, PV.int IntKind.u32 t_1] ∧ K (PV.tup [PV.agg [PV.int IntKind.u32 0, PV.list [] Tail.exact, PV.list [] Tail.exact, PV.int IntKind.i64 0], PV.bool false])) : ACalls Try.prog gl 17 [.nilptr, .int .u32 t] [] (fun x _ => K x) :=
  acalls_of_wpc2 (T := TZ1) (L := []) (fun _ => 0) Try.func17 (by kernel_rfl) (by kernel_rfl) (by kernel_rfl) (TZ1_ok) (LOk.nil _ _ _ _ _) (holds_of_eq (zclose_red t K) h)
def zof_s (args : List PV) (K : PV → Prop) : Prop := ∃ (p : Int), SlIs args [.nilptr, .int .u32 p] ∧ K (.int .u32 0)
theorem zof_ok : SpOk Try.prog gl 18 (.pure zof_s) := by
  rintro args K ⟨p, he, hk⟩
  have he : args = _ := he
  subst he
  exact spure gl_low (low_two zl1 (.int _ _)) (.int _ _) (zof1_vc p (fun x => x = .int .u32 0) ⟨rfl, p, rfl, rfl, rfl⟩) hk
def zclose_s (args : List PV) (K : PV → Prop) : Prop := ∃ t : Int, SlIs args [.nilptr, .int .u32 t] ∧ K (.tup [.agg [.int .u32 0, .list [] .exact, .list [] .exact, .int .i64 0], .bool false])
theorem zclose_ok : SpOk Try.prog gl 17 (.pure zclose_s) := by
  rintro args K ⟨t, he, hk⟩
  have he : args = _ := he
  subst he
  exact spure gl_low (low_two zl1 (.int _ _)) (.tup _ (low_two zlc (.bool _))) (zclose_vc t (fun x => x = .tup [.agg [.int .u32 0, .list [] .exact, .list [] .exact, .int .i64 0], .bool false]) ⟨t, rfl, rfl⟩) hk
def TZ2 : Tab := (18, .pure zof_s) :: (17, .pure zclose_s) :: TZ1
theorem TZ2_ok : TabOk Try.prog gl TZ2 := .cons zof_ok (.cons zclose_ok TZ1_ok)
theorem zacc_red (p : Int) (K : PV → Prop) : (∃ (p_1 : Int), SlIs [PV.nilptr, PV.int IntKind.u32 p] [PV.nilptr, PV.int IntKind.u32 p_1] ∧ ∃ (t : Int), SlIs [PV.nilptr, PV.int IntKind.u32 0] [PV.nilptr, PV.int IntKind.u32 t] ∧ K (PV.tup [PV.agg [PV.int IntKind.u32 0, PV.list [] Tail.exact, PV.list [] Tail.exact, PV.int IntKind.i64 0], PV.bool false, PV.int IntKind.i64 12])) = wpc br Try.prog gl TZ2 [] (fun _ => 0) (bodyOf Try.f13) [] (env0 [.nilptr, .int .u32 p]) [] (resQ Try.prog Try.f13.results.toList (fun x _ => K x)) := by kernel_rfl
theorem zacc_vc (p : Int)  (K : PV → Prop) (h : ∃ (p_1 : Int), SlIs [PV.nilptr, PV.int IntKind.u32 p] [PV.nilptr, PV.int IntKind.u32 p_1] ∧ ∃ (t : Int), SlIs [PV.nilptr, PV.int IntKind.u32 0] [PV.nilptr, PV.int IntKind.u32 t] ∧ K (PV.tup [PV.agg [PV.int IntKind.u32 0, PV.list [] Tail.exact, PV.list [] Tail.exact, PV.int IntKind.i64 0], PV.bool false, PV.int IntKind.i64 12])) : ACalls Try.prog gl 13 [.nilptr, .int .u32 p] [] (fun x _ => K x) :=
  acalls_of_wpc2 (T := TZ2) (L := []) (fun _ => 0) Try.func13 (by kernel_rfl) (by kernel_rfl) (by kernel_rfl) (TZ2_ok) (LOk.nil _ _ _ _ _) (holds_of_eq (zacc_red p K) h)
theorem zdecl_red (p : Int) (K : PV → Prop) : (∃ (p_1 : Int), SlIs [PV.nilptr, PV.int IntKind.u32 p] [PV.nilptr, PV.int IntKind.u32 p_1] ∧ ∃ (t : Int), SlIs [PV.nilptr, PV.int IntKind.u32 0] [PV.nilptr, PV.int IntKind.u32 t] ∧ K (PV.tup [PV.agg [PV.int IntKind.u32 0, PV.list [] Tail.exact, PV.list [] Tail.exact, PV.int IntKind.i64 0], PV.int IntKind.i64 12])) = wpc br Try.prog gl TZ2 [] (fun _ => 0) (bodyOf Try.f16) [] (env0 [.nilptr, .int .u32 p]) [] (resQ Try.prog Try.f16.results.toList (fun x _ => K x)) := by kernel_rfl
theorem zdecl_vc (p : Int)  (K : PV → Prop) (h : ∃ (p_1 : Int), SlIs [PV.nilptr, PV.int IntKind.u32 p] [PV.nilptr, PV.int IntKind.u32 p_1] ∧ ∃ (t : Int), SlIs [PV.nilptr, PV.int IntKind.u32 0] [PV.nilptr, PV.int IntKind.u32 t] ∧ K (PV.tup [PV.agg [PV.int IntKind.u32 0, PV.list [] Tail.exact, PV.list [] Tail.exact, PV.int IntKind.i64 0], PV.int IntKind.i64 12])) : ACalls Try.prog gl 16 [.nilptr, .int .u32 p] [] (fun x _ => K x) :=
  acalls_of_wpc2 (T := TZ2) (L := []) (fun _ => 0) Try.func16 (by kernel_rfl) (by kernel_rfl) (by kernel_rfl) (TZ2_ok) (LOk.nil _ _ _ _ _) (holds_of_eq (zdecl_red p K) h)
def zacc_s (args : List PV) (K : PV → Prop) : Prop := ∃ p : Int, SlIs args [.nilptr, .int .u32 p] ∧ K (.tup [.agg [.int .u32 0, .list [] .exact, .list [] .exact, .int .i64 0], .bool false, .int .i64 12])
theorem zacc_ok : SpOk Try.prog gl 13 (.pure zacc_s) := by
  rintro args K ⟨t, he, hk⟩
  have he : args = _ := he
  subst he
  exact spure gl_low (low_two zl1 (.int _ _)) (.tup _ (low_three zlc (.bool _) (.int _ _))) (zacc_vc t (fun x => x = .tup [.agg [.int .u32 0, .list [] .exact, .list [] .exact, .int .i64 0], .bool false, .int .i64 12]) ⟨t, rfl, 0, rfl, rfl⟩) hk
def zdecl_s (args : List PV) (K : PV → Prop) : Prop := ∃ p : Int, SlIs args [.nilptr, .int .u32 p] ∧ K (.tup [.agg [.int .u32 0, .list [] .exact, .list [] .exact, .int .i64 0], .int .i64 12])
theorem zdecl_ok : SpOk Try.prog gl 16 (.pure zdecl_s) := by
  rintro args K ⟨t, he, hk⟩
  have he : args = _ := he
  subst he
  exact spure gl_low (low_two zl1 (.int _ _)) (.tup _ (low_two zlc (.int _ _))) (zdecl_vc t (fun x => x = .tup [.agg [.int .u32 0, .list [] .exact, .list [] .exact, .int .i64 0], .int .i64 12]) ⟨t, rfl, 0, rfl, rfl⟩) hk
def TZ3 : Tab := (13, .pure zacc_s) :: (16, .pure zdecl_s) :: (15, .pure awk_s) :: TZ2
theorem TZ3_ok : TabOk Try.prog gl TZ3 := .cons zacc_ok (.cons zdecl_ok (.cons awk_ok TZ2_ok))
theorem nil1_red (a : Ac) (K : PV → Prop) : (br (decide ((↑(List.length (List.map u1 (Ac.pl a))) : Int) > 12)) (K (PV.bool true)) (∃ (p : Int), SlIs [PV.nilptr, PV.int IntKind.u32 (Ac.p a)] [PV.nilptr, PV.int IntKind.u32 p] ∧ ∃ (p : Int), SlIs [PV.nilptr, PV.int IntKind.u32 (Ac.p a)] [PV.nilptr, PV.int IntKind.u32 p] ∧ ∃ (t : Int), SlIs [PV.nilptr, PV.int IntKind.u32 (Ac.id a)] [PV.nilptr, PV.int IntKind.u32 t] ∧ ∃ (t : Int), SlIs [PV.nilptr, PV.int IntKind.u32 (Ac.id a)] [PV.nilptr, PV.int IntKind.u32 t] ∧ ∃ (t : Int), ∃ (un : Int), ∃ (pl : List Int), ∃ (tl : Tail), SlIs [PV.nilptr, PV.int IntKind.u32 (Ac.id a), PV.int IntKind.i64 (Ac.un a), PV.list (List.map u1 (Ac.pl a)) Tail.no] [PV.nilptr, PV.int IntKind.u32 t, PV.int IntKind.i64 un, PV.list (List.map u1 pl) tl] ∧ ∃ (p : Int), SlIs [PV.nilptr, PV.int IntKind.u32 (Ac.p a)] [PV.nilptr, PV.int IntKind.u32 p] ∧ SlIs [PV.nilptr] [PV.nilptr] ∧ SlIs [] [] ∧ K (PV.bool true))) = wpc br Try.prog gl TZ3 [] (fun _ => 0) (bodyOf Try.f4) [] (env0 [.agg a.cs]) [] (resQ Try.prog Try.f4.results.toList (fun x _ => K x)) := by kernel_rfl
theorem nil1_vc (a : Ac)  (K : PV → Prop) (h : br (decide ((↑(List.length (List.map u1 (Ac.pl a))) : Int) > 12)) (K (PV.bool true)) (∃ (p : Int), SlIs [PV.nilptr, PV.int IntKind.u32 (Ac.p a)] [PV.nilptr, PV.int IntKind.u32 p] ∧ ∃ (p : Int), SlIs [PV.nilptr, PV.int IntKind.u32 (Ac.p a)] [PV.nilptr, PV.int IntKind.u32 p] ∧ ∃ (t : Int), SlIs [PV.nilptr, PV.int IntKind.u32 (Ac.id a)] [PV.nilptr, PV.int IntKind.u32 t] ∧ ∃ (t : Int), SlIs [PV.nilptr, PV.int IntKind.u32 (Ac.id a)] [PV.nilptr, PV.int IntKind.u32 t] ∧ ∃ (t : Int), ∃ (un : Int), ∃ (pl : List Int), ∃ (tl : Tail), SlIs [PV.nilptr, PV.int IntKind.u32 (Ac.id a), PV.int IntKind.i64 (Ac.un a), PV.list (List.map u1 (Ac.pl a)) Tail.no] [PV.nilptr, PV.int IntKind.u32 t, PV.int IntKind.i64 un, PV.list (List.map u1 pl) tl] ∧ ∃ (p : Int), SlIs [PV.nilptr, PV.int IntKind.u32 (Ac.p a)] [PV.nilptr, PV.int IntKind.u32 p] ∧ SlIs [PV.nilptr] [PV.nilptr] ∧ SlIs [] [] ∧ K (PV.bool true))) : ACalls Try.prog gl 4 [.agg a.cs] [] (fun x _ => K x) :=
  acalls_of_wpc2 (T := TZ3) (L := []) (fun _ => 0) Try.func4 (by kernel_rfl) (by kernel_rfl) (by kernel_rfl) (TZ3_ok) (LOk.nil _ _ _ _ _) (holds_of_eq (nil1_red a K) h)
theorem nil_law (a : Ac) : ACalls Try.prog gl 4 [.agg a.cs] [] (fun x _ => x = .bool true) := by
  refine nil1_vc a _ ?_
  rw [br_if]
  split
  · rfl
  · exact ⟨a.p, rfl, a.p, rfl, a.id, rfl, a.id, rfl, a.id, a.un, a.pl, .no, rfl, a.p, rfl, rfl, rfl, rfl⟩
set_option maxRecDepth 10000
theorem nil_args (xs : List PV) (h : WTargs Try.prog 6 Try.f4.params.toList xs) : ACalls Try.prog gl 4 xs [] (fun x _ => x = .bool true) := by
  rw [Try.params4] at h
  obtain ⟨x, r, rfl, h1, h3⟩ := h
  obtain rfl := wtargs_nil h3
  obtain ⟨cs, rfl, g⟩ := wta_struct Try.underlying39 h1
  have g : WFs (WTp Try.prog 5) [5, 24, 24, 23, 2] cs := g
  obtain ⟨a, rfl, _⟩ := acf_of g
  exact nil_law a
end Go.Proofs.Ythabdpaipgclpaa
