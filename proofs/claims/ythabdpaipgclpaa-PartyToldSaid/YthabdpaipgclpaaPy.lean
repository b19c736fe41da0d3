/-
  Without a book.
-/
import Derived.Test.YthabdpaipgclpaaPw
import Derived.Test.YthabdpaipgclpaaProg
namespace Go.Proofs.Ythabdpaipgclpaa
open Go Go.AM Go.Proofs
theorem zids_vc   (K : PV → Prop) (h : K (PV.list [] Tail.exact)) : ACalls Try.prog gl 34 [.nilptr] [] (fun x _ => K x) :=
  acalls_of_wpc2 (T := []) (L := []) (fun _ => 0) Try.func34 (by kernel_rfl) (by kernel_rfl) (by kernel_rfl) (TabOk.nil _ _) (LOk.nil _ _ _ _ _) (holds_of_eq (by kernel_rfl) h)
theorem zpty_vc (t : Int)  (K : PV → Prop) (h : K (PV.tup [PV.agg [PV.int IntKind.u32 0, PV.int IntKind.u32 0, PV.list [] Tail.exact, PV.list [] Tail.exact], PV.bool false])) : ACalls Try.prog gl 32 [.nilptr, .int .u32 t] [] (fun x _ => K x) :=
  acalls_of_wpc2 (T := []) (L := []) (fun _ => 0) Try.func32 (by kernel_rfl) (by kernel_rfl) (by kernel_rfl) (TabOk.nil _ _) (LOk.nil _ _ _ _ _) (holds_of_eq (by kernel_rfl) h)
theorem zinv_vc (a p : Int)  (K : PV → Prop) (h : K (PV.tup [PV.int IntKind.u32 0, PV.int IntKind.i64 10])) : ACalls Try.prog gl 36 [.nilptr, .int .u32 a, .int .u32 p] [] (fun x _ => K x) :=
  acalls_of_wpc2 (T := []) (L := []) (fun _ => 0) Try.func36 (by kernel_rfl) (by kernel_rfl) (by kernel_rfl) (TabOk.nil _ _) (LOk.nil _ _ _ _ _) (holds_of_eq (by kernel_rfl) h)
theorem zl1 : Low 0 PV.nilptr := .nilptr
theorem zlc : Low 0 (PV.agg [.int .u32 0, .int .u32 0, .list [] .exact, .list [] .exact]) := .agg _ (low_four (.int _ _) (.int _ _) (low_list NT.exact (by simp)) (low_list NT.exact (by simp)))
def zids_s (args : List PV) (K : PV → Prop) : Prop := SlIs args [.nilptr] ∧ K (.list [] .exact)
theorem zids_ok : SpOk Try.prog gl 34 (.pure zids_s) := by
  rintro args K ⟨he, hk⟩
  have he : args = _ := he
  subst he
  exact spure gl_low (low_one zl1) (low_list NT.exact (by simp)) (zids_vc (fun x => x = .list [] .exact) rfl) hk
def zpty_s (args : List PV) (K : PV → Prop) : Prop := ∃ t : Int, SlIs args [.nilptr, .int .u32 t] ∧ K (.tup [.agg [.int .u32 0, .int .u32 0, .list [] .exact, .list [] .exact], .bool false])
theorem zpty_ok : SpOk Try.prog gl 32 (.pure zpty_s) := by
  rintro args K ⟨t, he, hk⟩
  have he : args = _ := he
  subst he
  exact spure gl_low (low_two zl1 (.int _ _)) (.tup _ (low_two zlc (.bool _))) (zpty_vc t (fun x => x = .tup [.agg [.int .u32 0, .int .u32 0, .list [] .exact, .list [] .exact], .bool false]) rfl) hk
def zinv_s (args : List PV) (K : PV → Prop) : Prop := ∃ a p : Int, SlIs args [.nilptr, .int .u32 a, .int .u32 p] ∧ K (.tup [.int .u32 0, .int .i64 10])
theorem zinv_ok : SpOk Try.prog gl 36 (.pure zinv_s) := by
  rintro args K ⟨a, p, he, hk⟩
  have he : args = _ := he
  subst he
  exact spure gl_low (low_three zl1 (.int _ _) (.int _ _)) (.tup _ (low_two (.int _ _) (.int _ _))) (zinv_vc a p (fun x => x = .tup [.int .u32 0, .int .i64 10]) rfl) hk
def TZ1 : Tab := (34, .pure zids_s) :: (32, .pure zpty_s) :: (36, .pure zinv_s) :: TY0
theorem TZ1_ok : TabOk Try.prog gl TZ1 := .cons zids_ok (.cons zpty_ok (.cons zinv_ok TY0_ok))
theorem zof_vc (p : Int) (R : Ex → List PV → Heap → Prop) (h : R (Ex.exit 0) [PV.nilptr, PV.int IntKind.u32 p, PV.int IntKind.u32 0, PV.list [] Tail.exact, PV.int IntKind.i64 0, PV.int IntKind.i64 0] []) : Holds (wpc br Try.prog gl TZ1 [] (fun _ => 0) (subOf [1, 0, 1, 0] (bodyOf Try.f30)) [] (envS [0, 1, 4, 10, 11, 12] [.nilptr, .int .u32 p, .int .u32 0, .list [] .exact, .int .i64 0, .int .i64 0]) [] (fun ex e H => R ex (List.map e [0, 1, 4, 10, 11, 12]) H)) := holds_of_eq (by kernel_rfl) h
def zof_l : LSp := fun e H Q => ∃ (p : Int), SlIs (List.map e [0, 1, 4, 10, 11, 12]) [.nilptr, .int .u32 p, .int .u32 0, .list [] .exact, .int .i64 0, .int .i64 0] ∧ HpIs H [] ∧ Q (.exit 0) (envS [0, 1, 4, 10, 11, 12] [.nilptr, .int .u32 p, .int .u32 0, .list [] .exact, .int .i64 0, .int .i64 0]) []
theorem zof_l_ok : ∀ e H Q, zof_l e H Q → AW Try.prog gl Try.f30.ntmps (.loop (subOf [1, 0, 1, 0] (bodyOf Try.f30))) Q e H := by
  rintro e H Q ⟨p, he, hH, hQ⟩
  refine aw_loop4 (hn := fun _ => 0) gl_low TZ1_ok (.nil _ _ _ _ _) (σ := Unit) [0, 1, 4, 10, 11, 12] (fun _ => True) (fun _ => [.nilptr, .int .u32 p, .int .u32 0, .list [] .exact, .int .i64 0, .int .i64 0]) (fun _ => []) (fun _ => 0) () trivial he hH ?_
  intro _ _
  exact zof_vc p _ hQ
theorem zof1_vc (p : Int)  (K : PV → Prop) (h : SlIs [PV.nilptr] [PV.nilptr] ∧ ∃ (p_1 : Int), SlIs [PV.nilptr, PV.int IntKind.u32 p, PV.int IntKind.u32 0, PV.list [] Tail.exact, PV.int IntKind.i64 0, PV.int IntKind.i64 0] [PV.nilptr, PV.int IntKind.u32 p_1, PV.int IntKind.u32 0, PV.list [] Tail.exact, PV.int IntKind.i64 0, PV.int IntKind.i64 0] ∧ HpIs [] [] ∧ K (PV.int IntKind.u32 0)) : ACalls Try.prog gl 30 [.nilptr, .int .u32 p] [] (fun x _ => K x) :=
  acalls_of_wpc2 (T := TZ1) (L := [([1, 0, 1, 0], zof_l)]) (fun _ => 0) Try.func30 (by kernel_rfl) (by kernel_rfl) (by kernel_rfl) (TZ1_ok) (.cons (sub_of (by kernel_rfl)) zof_l_ok (.nil _ _ _ _ _)) (holds_of_eq (by kernel_rfl) h)
def zof_s (args : List PV) (K : PV → Prop) : Prop := ∃ (p : Int), SlIs args [.nilptr, .int .u32 p] ∧ K (.int .u32 0)
theorem zof_ok : SpOk Try.prog gl 30 (.pure zof_s) := by
  rintro args K ⟨p, he, hk⟩
  have he : args = _ := he
  subst he
  exact spure gl_low (low_two zl1 (.int _ _)) (.int _ _) (zof1_vc p (fun x => x = .int .u32 0) ⟨rfl, p, rfl, rfl, rfl⟩) hk
def TZ2 : Tab := (30, .pure zof_s) :: TZ1
theorem TZ2_ok : TabOk Try.prog gl TZ2 := .cons zof_ok TZ1_ok
theorem zjoin_vc (t p : Int)  (K : PV → Prop) (h : ∃ (t_1 : Int), SlIs [PV.nilptr, PV.int IntKind.u32 t] [PV.nilptr, PV.int IntKind.u32 t_1] ∧ K (PV.int IntKind.i64 12)) : ACalls Try.prog gl 40 [.nilptr, .int .u32 t, .int .u32 p] [] (fun x _ => K x) :=
  acalls_of_wpc2 (T := TZ2) (L := []) (fun _ => 0) Try.func40 (by kernel_rfl) (by kernel_rfl) (by kernel_rfl) (TZ2_ok) (LOk.nil _ _ _ _ _) (holds_of_eq (by kernel_rfl) h)
theorem zref_vc (t p : Int)  (K : PV → Prop) (h : ∃ (t_1 : Int), SlIs [PV.nilptr, PV.int IntKind.u32 t] [PV.nilptr, PV.int IntKind.u32 t_1] ∧ K (PV.tup [PV.bool false, PV.int IntKind.i64 12])) : ACalls Try.prog gl 37 [.nilptr, .int .u32 t, .int .u32 p] [] (fun x _ => K x) :=
  acalls_of_wpc2 (T := TZ2) (L := []) (fun _ => 0) Try.func37 (by kernel_rfl) (by kernel_rfl) (by kernel_rfl) (TZ2_ok) (LOk.nil _ _ _ _ _) (holds_of_eq (by kernel_rfl) h)
theorem zleave_vc (p : Int)  (K : PV → Prop) (h : ∃ (p_1 : Int), SlIs [PV.nilptr, PV.int IntKind.u32 p] [PV.nilptr, PV.int IntKind.u32 p_1] ∧ ∃ (t : Int), SlIs [PV.nilptr, PV.int IntKind.u32 0] [PV.nilptr, PV.int IntKind.u32 t] ∧ K (PV.tup [PV.int IntKind.u32 0, PV.bool false, PV.int IntKind.i64 12])) : ACalls Try.prog gl 38 [.nilptr, .int .u32 p] [] (fun x _ => K x) :=
  acalls_of_wpc2 (T := TZ2) (L := []) (fun _ => 0) Try.func38 (by kernel_rfl) (by kernel_rfl) (by kernel_rfl) (TZ2_ok) (LOk.nil _ _ _ _ _) (holds_of_eq (by kernel_rfl) h)
theorem zled_vc (a p : Int)  (K : PV → Prop) (h : ∃ (p : Int), SlIs [PV.nilptr, PV.int IntKind.u32 a] [PV.nilptr, PV.int IntKind.u32 p] ∧ ∃ (t : Int), SlIs [PV.nilptr, PV.int IntKind.u32 0] [PV.nilptr, PV.int IntKind.u32 t] ∧ K (PV.tup [PV.agg [PV.int IntKind.u32 0, PV.int IntKind.u32 0, PV.list [] Tail.exact, PV.list [] Tail.exact], PV.int IntKind.i64 12])) : ACalls Try.prog gl 74 [.nilptr, .int .u32 a, .int .u32 p] [] (fun x _ => K x) :=
  acalls_of_wpc2 (T := TZ2) (L := []) (fun _ => 0) Try.func74 (by kernel_rfl) (by kernel_rfl) (by kernel_rfl) (TZ2_ok) (LOk.nil _ _ _ _ _) (holds_of_eq (by kernel_rfl) h)

def zled_s (args : List PV) (K : PV → Prop) : Prop := ∃ a p : Int, SlIs args [.nilptr, .int .u32 a, .int .u32 p] ∧ K (.tup [.agg [.int .u32 0, .int .u32 0, .list [] .exact, .list [] .exact], .int .i64 12])
theorem zled_ok : SpOk Try.prog gl 74 (.pure zled_s) := by
  rintro args K ⟨a, p, he, hk⟩
  have he : args = _ := he
  subst he
  exact spure gl_low (low_three zl1 (.int _ _) (.int _ _)) (.tup _ (low_two zlc (.int _ _))) (zled_vc a p (fun x => x = .tup [.agg [.int .u32 0, .int .u32 0, .list [] .exact, .list [] .exact], .int .i64 12]) ⟨a, rfl, 0, rfl, rfl⟩) hk
def TZ3 : Tab := (74, .pure zled_s) :: TZ2
theorem TZ3_ok : TabOk Try.prog gl TZ3 := .cons zled_ok TZ2_ok
theorem zkick_vc (a p : Int)  (K : PV → Prop) (h : ∃ (a_1 : Int), ∃ (p_1 : Int), SlIs [PV.nilptr, PV.int IntKind.u32 a, PV.int IntKind.u32 p] [PV.nilptr, PV.int IntKind.u32 a_1, PV.int IntKind.u32 p_1] ∧ K (PV.tup [PV.bool false, PV.int IntKind.i64 12])) : ACalls Try.prog gl 39 [.nilptr, .int .u32 a, .int .u32 p] [] (fun x _ => K x) :=
  acalls_of_wpc2 (T := TZ3) (L := []) (fun _ => 0) Try.func39 (by kernel_rfl) (by kernel_rfl) (by kernel_rfl) (TZ3_ok) (LOk.nil _ _ _ _ _) (holds_of_eq (by kernel_rfl) h)
theorem zlead_vc (a p : Int)  (K : PV → Prop) (h : ∃ (a_1 : Int), ∃ (p_1 : Int), SlIs [PV.nilptr, PV.int IntKind.u32 a, PV.int IntKind.u32 p] [PV.nilptr, PV.int IntKind.u32 a_1, PV.int IntKind.u32 p_1] ∧ K (PV.int IntKind.i64 12)) : ACalls Try.prog gl 41 [.nilptr, .int .u32 a, .int .u32 p] [] (fun x _ => K x) :=
  acalls_of_wpc2 (T := TZ3) (L := []) (fun _ => 0) Try.func41 (by kernel_rfl) (by kernel_rfl) (by kernel_rfl) (TZ3_ok) (LOk.nil _ _ _ _ _) (holds_of_eq (by kernel_rfl) h)
def zjoin_s (args : List PV) (K : PV → Prop) : Prop := ∃ t p : Int, SlIs args [.nilptr, .int .u32 t, .int .u32 p] ∧ K (.int .i64 12)
theorem zjoin_ok : SpOk Try.prog gl 40 (.pure zjoin_s) := by
  rintro args K ⟨t, p, he, hk⟩
  have he : args = _ := he
  subst he
  exact spure gl_low (low_three zl1 (.int _ _) (.int _ _)) (.int _ _) (zjoin_vc t p (fun x => x = .int .i64 12) ⟨t, rfl, rfl⟩) hk
def zref_s (args : List PV) (K : PV → Prop) : Prop := ∃ t p : Int, SlIs args [.nilptr, .int .u32 t, .int .u32 p] ∧ K (.tup [.bool false, .int .i64 12])
theorem zref_ok : SpOk Try.prog gl 37 (.pure zref_s) := by
  rintro args K ⟨t, p, he, hk⟩
  have he : args = _ := he
  subst he
  exact spure gl_low (low_three zl1 (.int _ _) (.int _ _)) (.tup _ (low_two (.bool _) (.int _ _))) (zref_vc t p (fun x => x = .tup [.bool false, .int .i64 12]) ⟨t, rfl, rfl⟩) hk
def zleave_s (args : List PV) (K : PV → Prop) : Prop := ∃ p : Int, SlIs args [.nilptr, .int .u32 p] ∧ K (.tup [.int .u32 0, .bool false, .int .i64 12])
theorem zleave_ok : SpOk Try.prog gl 38 (.pure zleave_s) := by
  rintro args K ⟨p, he, hk⟩
  have he : args = _ := he
  subst he
  exact spure gl_low (low_two zl1 (.int _ _)) (.tup _ (low_three (.int _ _) (.bool _) (.int _ _))) (zleave_vc p (fun x => x = .tup [.int .u32 0, .bool false, .int .i64 12]) ⟨p, rfl, 0, rfl, rfl⟩) hk
def zkick_s (args : List PV) (K : PV → Prop) : Prop := ∃ a p : Int, SlIs args [.nilptr, .int .u32 a, .int .u32 p] ∧ K (.tup [.bool false, .int .i64 12])
theorem zkick_ok : SpOk Try.prog gl 39 (.pure zkick_s) := by
  rintro args K ⟨a, p, he, hk⟩
  have he : args = _ := he
  subst he
  exact spure gl_low (low_three zl1 (.int _ _) (.int _ _)) (.tup _ (low_two (.bool _) (.int _ _))) (zkick_vc a p (fun x => x = .tup [.bool false, .int .i64 12]) ⟨a, p, rfl, rfl⟩) hk
def zlead_s (args : List PV) (K : PV → Prop) : Prop := ∃ a p : Int, SlIs args [.nilptr, .int .u32 a, .int .u32 p] ∧ K (.int .i64 12)
theorem zlead_ok : SpOk Try.prog gl 41 (.pure zlead_s) := by
  rintro args K ⟨a, p, he, hk⟩
  have he : args = _ := he
  subst he
  exact spure gl_low (low_three zl1 (.int _ _) (.int _ _)) (.int _ _) (zlead_vc a p (fun x => x = .int .i64 12) ⟨a, p, rfl, rfl⟩) hk
def ptyZ_s (args : List PV) (H : Heap) (K : PV → Heap → Prop) : Prop := match args with
  | .nilptr :: _ => zpty_s args (fun x => K x H)
  | _ => ptyT_s args H K
theorem ptyZ_ok : SpOk Try.prog gl 32 (.heap ptyZ_s) := by
  intro args H K h
  unfold ptyZ_s at h
  split at h
  · obtain ⟨x, hx, hk⟩ := zpty_ok _ _ h
    exact acalls_to (hx H) fun y H' e => by obtain ⟨rfl, rfl⟩ := e; exact hk
  · exact ptyT_ok _ _ _ h
end Go.Proofs.Ythabdpaipgclpaa
