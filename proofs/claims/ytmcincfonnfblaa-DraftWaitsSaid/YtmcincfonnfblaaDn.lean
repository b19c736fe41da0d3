/-
  The walks of layer 18 that ask little: tickets, waits, whether tickets fit.
-/
import Derived.Test.YtmcincfonnfblaaA42
import Derived.Test.YtmcincfonnfblaaProg
namespace Go.Proofs.Ytmcincfonnfblaa
open Go Go.AM Go.Proofs
def gl : Glob := fun _ => none
theorem gl_low : GlobLow gl := gnone_low
-- layer 11
structure Mo where
  K : Int
  Base : Int
  Step : Int
  Cap : Int
  Every : Int
  deriving DecidableEq
def Mo.cs (m : Mo) : List PV := [.int .i64 m.K, .int .i64 m.Base, .int .i64 m.Step, .int .i64 m.Cap, .int .i64 m.Every]
def Mo.pv (m : Mo) : PV := .agg [.int .i64 m.K, .int .i64 m.Base, .int .i64 m.Step, .int .i64 m.Cap, .int .i64 m.Every]
abbrev wI (n : Int) : Int := IntKind.wrap .i64 n
theorem w_small {n : Int} (h0 : -9223372036854775808 ≤ n) (h1 : n ≤ 9223372036854775807) : wI n = n := wrap_i64 h0 h1
theorem wI_succ {i n : Nat} (h : i < n) (hn : (n : Int) ≤ 4611686018427387904) : wI ((i : Int) + 1) = ((i + 1 : Nat) : Int) := by
  rw [w_small (by omega) (by omega)]; rfl
def S0 : ByteArray := ByteArray.mk #[]
def SK : ByteArray := ByteArray.mk #[75]
def SBase : ByteArray := ByteArray.mk #[66, 97, 115, 101]
def SStep : ByteArray := ByteArray.mk #[83, 116, 101, 112]
def SCap : ByteArray := ByteArray.mk #[67, 97, 112]
def SEvery : ByteArray := ByteArray.mk #[69, 118, 101, 114, 121]
def see (w nm : ByteArray) (n lo hi : Int) : ByteArray := if w = S0 ∧ (n < lo ∨ n > hi) then nm else w
theorem see_keep {w nm : ByteArray} {n lo hi : Int} (h : w ≠ S0) : see w nm n lo hi = w := by unfold see; rw [if_neg (fun k => h k.1)]
theorem see_ok {nm : ByteArray} {n lo hi : Int} (h : ¬ (n < lo ∨ n > hi)) : see S0 nm n lo hi = S0 := by unfold see; rw [if_neg (fun k => h k.2)]
theorem see_bad {nm : ByteArray} {n lo hi : Int} (h : n < lo ∨ n > hi) : see S0 nm n lo hi = nm := by unfold see; rw [if_pos ⟨rfl, h⟩]
def wrongM (m : Mo) : ByteArray := see (see (see (see (see S0 SK m.K 1 4) SBase m.Base 0 10000) SStep m.Step 0 10000) SCap m.Cap (mxI 0 m.Base) 10000) SEvery m.Every 1 1099511627776
def okM (m : Mo) : Prop := (1 ≤ m.K ∧ m.K ≤ 4) ∧ (0 ≤ m.Base ∧ m.Base ≤ 10000) ∧ (0 ≤ m.Step ∧ m.Step ≤ 10000) ∧ (m.Base ≤ m.Cap ∧ m.Cap ≤ 10000) ∧ (1 ≤ m.Every ∧ m.Every ≤ 1099511627776)
instance (m : Mo) : Decidable (okM m) := by unfold okM; infer_instance
theorem sne : SK ≠ S0 ∧ SBase ≠ S0 ∧ SStep ≠ S0 ∧ SCap ≠ S0 ∧ SEvery ≠ S0 := by decide
/-- the first thing that is not as it must be, one by one -/
def wrongR (m : Mo) : ByteArray :=
  if m.K < 1 ∨ m.K > 4 then SK else if m.Base < 0 ∨ m.Base > 10000 then SBase else if m.Step < 0 ∨ m.Step > 10000 then SStep
  else if m.Cap < m.Base ∨ m.Cap > 10000 then SCap else if m.Every < 1 ∨ m.Every > 1099511627776 then SEvery else S0
theorem wrongM_eq (m : Mo) : wrongM m = wrongR m := by
  obtain ⟨h1, h2, h3, h4, h5⟩ := sne
  unfold wrongM wrongR
  by_cases c1 : m.K < 1 ∨ m.K > 4
  · rw [if_pos c1, see_bad c1, see_keep h1, see_keep h1, see_keep h1, see_keep h1]
  rw [if_neg c1, see_ok c1]
  by_cases c2 : m.Base < 0 ∨ m.Base > 10000
  · rw [if_pos c2, see_bad c2, see_keep h2, see_keep h2, see_keep h2]
  rw [if_neg c2, see_ok c2]
  by_cases c3 : m.Step < 0 ∨ m.Step > 10000
  · rw [if_pos c3, see_bad c3, see_keep h3, see_keep h3]
  have hm : mxI 0 m.Base = m.Base := by unfold mxI; split <;> omega
  rw [if_neg c3, see_ok c3, hm]
  by_cases c4 : m.Cap < m.Base ∨ m.Cap > 10000
  · rw [if_pos c4, see_bad c4, see_keep h4]
  rw [if_neg c4, see_ok c4]
  by_cases c5 : m.Every < 1 ∨ m.Every > 1099511627776
  · rw [if_pos c5, see_bad c5]
  rw [if_neg c5, see_ok c5]
theorem wrongR_ok (m : Mo) : wrongR m = S0 ↔ okM m := by
  obtain ⟨h1, h2, h3, h4, h5⟩ := sne
  unfold wrongR okM
  by_cases c1 : m.K < 1 ∨ m.K > 4
  · rw [if_pos c1]; exact ⟨fun h => absurd h h1, fun h => by omega⟩
  rw [if_neg c1]
  by_cases c2 : m.Base < 0 ∨ m.Base > 10000
  · rw [if_pos c2]; exact ⟨fun h => absurd h h2, fun h => by omega⟩
  rw [if_neg c2]
  by_cases c3 : m.Step < 0 ∨ m.Step > 10000
  · rw [if_pos c3]; exact ⟨fun h => absurd h h3, fun h => by omega⟩
  rw [if_neg c3]
  by_cases c4 : m.Cap < m.Base ∨ m.Cap > 10000
  · rw [if_pos c4]; exact ⟨fun h => absurd h h4, fun h => by omega⟩
  rw [if_neg c4]
  by_cases c5 : m.Every < 1 ∨ m.Every > 1099511627776
  · rw [if_pos c5]; exact ⟨fun h => absurd h h5, fun h => by omega⟩
  rw [if_neg c5]; exact ⟨fun _ => by omega, fun _ => rfl⟩
theorem wrongM_ok (m : Mo) : wrongM m = S0 ↔ okM m := by rw [wrongM_eq]; exact wrongR_ok m
theorem look_red (w : ByteArray) (K : PV → Heap → Prop) : (K (PV.fn 41 [PV.ptr 1 0]) [Ob.cells [PV.str w], Ob.cells [PV.ptr 0 0]]) = wpc br Try.prog gl [] [] (fun _ => 0) (bodyOf Try.f36) [] (env0 [.ptr 0 0]) [.cells [.str w]] (resQ Try.prog Try.f36.results.toList K) := by kernel_rfl
theorem look_vc (w : ByteArray) (K : PV → Heap → Prop) (h : K (PV.fn 41 [PV.ptr 1 0]) [Ob.cells [PV.str w], Ob.cells [PV.ptr 0 0]]) : ACalls Try.prog gl 36 [.ptr 0 0] [.cells [.str w]] K :=
  acalls_of_wpc2 (T := []) (L := []) (fun _ => 0) Try.func36 (by kernel_rfl) (by kernel_rfl) (by kernel_rfl) (TabOk.nil _ _) (LOk.nil _ _ _ _ _) (holds_of_eq (look_red w K) h)
theorem see_red (nm w : ByteArray) (n lo hi : Int) (K : PV → Heap → Prop) : (br ((w == S0) == true) (br (decide (n < lo) == false) (br (decide (n > hi)) (K (PV.tup []) [Ob.cells [PV.str nm], Ob.cells [PV.ptr 0 0]]) (K (PV.tup []) [Ob.cells [PV.str w], Ob.cells [PV.ptr 0 0]])) (K (PV.tup []) [Ob.cells [PV.str nm], Ob.cells [PV.ptr 0 0]])) (K (PV.tup []) [Ob.cells [PV.str w], Ob.cells [PV.ptr 0 0]])) = wpc br Try.prog gl [] [] (fun _ => 0) (bodyOf Try.f41) [] (env0 [.str nm, .int .i64 n, .int .i64 lo, .int .i64 hi, .ptr 1 0]) [.cells [.str w], .cells [.ptr 0 0]] (resQ Try.prog Try.f41.results.toList K) := by kernel_rfl
theorem see_vc (nm w : ByteArray) (n lo hi : Int) (K : PV → Heap → Prop) (h : br ((w == S0) == true) (br (decide (n < lo) == false) (br (decide (n > hi)) (K (PV.tup []) [Ob.cells [PV.str nm], Ob.cells [PV.ptr 0 0]]) (K (PV.tup []) [Ob.cells [PV.str w], Ob.cells [PV.ptr 0 0]])) (K (PV.tup []) [Ob.cells [PV.str nm], Ob.cells [PV.ptr 0 0]])) (K (PV.tup []) [Ob.cells [PV.str w], Ob.cells [PV.ptr 0 0]])) : ACalls Try.prog gl 41 [.str nm, .int .i64 n, .int .i64 lo, .int .i64 hi, .ptr 1 0] [.cells [.str w], .cells [.ptr 0 0]] K :=
  acalls_of_wpc2 (T := []) (L := []) (fun _ => 0) Try.func41 (by kernel_rfl) (by kernel_rfl) (by kernel_rfl) (TabOk.nil _ _) (LOk.nil _ _ _ _ _) (holds_of_eq (see_red nm w n lo hi K) h)
def look_s (args : List PV) (H : Heap) (K : PV → Heap → Prop) : Prop := match args with
  | [.ptr q 0] => match H[q]? with
    | some (.cells [.str _]) => K (.fn 41 [.ptr H.length 0]) (H ++ [.cells [.ptr q 0]])
    | _ => False
  | _ => False
def see_s (args : List PV) (H : Heap) (K : PV → Heap → Prop) : Prop := match args with
  | [.str nm, .int .i64 n, .int .i64 lo, .int .i64 hi, .ptr p 0] => match H[p]? with
    | some (.cells [.ptr q 0]) => match H[q]? with
      | some (.cells [.str w]) => K (.tup []) (H.set q (.cells [.str (see w nm n lo hi)]))
      | _ => False
    | _ => False
  | _ => False
theorem look_ok : SpOk Try.prog gl 36 (.heap look_s) := by
  intro args H K h
  unfold look_s at h
  split at h
  · rename_i q
    split at h
    · rename_i w hq
      have hql : q < H.length := (List.getElem?_eq_some_iff.1 hq).1
      have hsub : Sub (fun _ => q) [.cells [.str w]] H := by
        refine ⟨fun _ _ => hql, fun a b h1 h2 _ => ?_, fun j a h1 => ?_⟩
        · simp at h1 h2; omega
        · have e1 := (List.getElem?_eq_some_iff.1 h1).1
          have : j = 0 := by simpa using e1
          subst this; cases h1
          exact ⟨_, hq, .cells (.cons (.low (.str _)) .nil)⟩
      refine acalls_frame gl_low hsub (.cons (.ptr 0 0 (by simp)) .nil) (look_vc w _ ?_)
      refine ⟨_, _, ⟨by simp, by simp, fun j a h1 => ?_, fun o h1 h2 => ?_⟩, ?_, h⟩
      · have e1 := (List.getElem?_eq_some_iff.1 h1).1
        have : j = 0 ∨ j = 1 := by simp at e1; omega
        rcases this with rfl | rfl
        · cases h1
          exact ⟨.cells [.str w], by simp [ρext]; rw [List.getElem?_append_left hql]; exact hq, .cells (.cons (.low (.str _)) .nil), fun _ => rfl⟩
        · cases h1
          refine ⟨.cells [.ptr q 0], by simp [ρext], .cells (.cons ?_ .nil), fun _ => rfl⟩
          have := Ren.ptr (ρ := ρext (fun _ => q) [Ob.cells [.str w]].length H.length) (n := 2) 0 0 (by omega)
          simpa [ρext] using this
      · rw [List.getElem?_append_left h1]
      · refine Ren.fnL (.cons ?_ .nil)
        have := Ren.ptr (ρ := ρext (fun _ => q) [Ob.cells [.str w]].length H.length) (n := 2) 1 0 (by omega)
        simpa [ρext] using this
    · exact h.elim
  · exact h.elim
theorem see_ok2 : SpOk Try.prog gl 41 (.heap see_s) := by
  intro args H K h
  unfold see_s at h
  split at h
  · rename_i nm n lo hi p
    split at h
    · rename_i q hp
      split at h
      · rename_i w hq
        have hpl : p < H.length := (List.getElem?_eq_some_iff.1 hp).1
        have hql : q < H.length := (List.getElem?_eq_some_iff.1 hq).1
        have hne : q ≠ p := fun e => by rw [e, hp] at hq; cases hq
        have hsub : Sub (fun j => match j with | 0 => q | _ => p) [.cells [.str w], .cells [.ptr 0 0]] H := by
          refine ⟨fun j h1 => ?_, fun a b h1 h2 h3 => ?_, fun j a h1 => ?_⟩
          · cases j <;> assumption
          · have : (a = 0 ∨ a = 1) ∧ (b = 0 ∨ b = 1) := by simp at h1 h2; omega
            rcases this with ⟨rfl | rfl, rfl | rfl⟩ <;> first | rfl | exact absurd h3 hne | exact absurd h3.symm hne
          · have e1 := (List.getElem?_eq_some_iff.1 h1).1
            have : j = 0 ∨ j = 1 := by simp at e1; omega
            rcases this with rfl | rfl
            · cases h1; exact ⟨_, hq, .cells (.cons (.low (.str _)) .nil)⟩
            · cases h1; exact ⟨_, hp, .cells (.cons (.ptr 0 0 (by simp)) .nil)⟩
        refine acalls_frame gl_low hsub (.cons (.low (.str _)) (.cons (.low (.int _ _)) (.cons (.low (.int _ _)) (.cons (.low (.int _ _)) (.cons (.ptr 1 0 (by simp)) .nil))))) (see_vc nm w n lo hi _ ?_)
        have fin : ∀ w', w' = see w nm n lo hi → ∃ y H', Behind (fun j => match j with | 0 => q | _ => p) [.cells [.str w], .cells [.ptr 0 0]] H [.cells [.str w'], .cells [.ptr 0 0]] H' ∧
            Ren (ρext (fun j => match j with | 0 => q | _ => p) [Ob.cells [.str w], .cells [.ptr 0 0]].length H.length) [Ob.cells [.str w'], .cells [.ptr 0 0]].length (.tup []) y ∧ K y H' := by
          rintro w' rfl
          refine ⟨_, _, ⟨by simp, by simp, fun j a h1 => ?_, fun o h1 h2 => ?_⟩, .low (.tup _ (by simp)), h⟩
          · have e1 := (List.getElem?_eq_some_iff.1 h1).1
            have : j = 0 ∨ j = 1 := by simp at e1; omega
            rcases this with rfl | rfl
            · cases h1
              exact ⟨_, by simp [ρext, hql], .cells (.cons (.low (.str _)) .nil), fun _ => rfl⟩
            · cases h1
              refine ⟨.cells [.ptr q 0], by simp [ρext]; rw [List.getElem?_set_ne hne]; exact hp, .cells (.cons ?_ .nil), fun _ => rfl⟩
              have := Ren.ptr (ρ := ρext (fun j => match j with | 0 => q | _ => p) [Ob.cells [.str w], .cells [.ptr 0 0]].length H.length) (n := 2) 0 0 (by omega)
              simpa [ρext] using this
          · rw [List.getElem?_set_ne (show q ≠ o from fun e => h2 0 (by simp) e)]
        simp only [br_if, bt, bf, dt, df, beq_S]
        unfold see at fin
        by_cases c : w = S0
        · rw [if_pos c]
          by_cases c1 : n < lo
          · rw [if_neg (by omega)]; exact fin _ (by rw [if_pos ⟨c, .inl c1⟩])
          · rw [if_pos c1]
            by_cases c2 : n > hi
            · rw [if_pos c2]; exact fin _ (by rw [if_pos ⟨c, .inr c2⟩])
            · rw [if_neg c2]; exact fin _ (by rw [if_neg (by omega)])
        · rw [if_neg c]; exact fin _ (by rw [if_neg (fun k => c k.1)])
      · exact h.elim
    · exact h.elim
  · exact h.elim
def TL : Tab := [(36, .heap look_s), (41, .heap see_s)]
theorem TL_ok : TabOk Try.prog gl TL := .cons look_ok (.cons see_ok2 (.nil _ _))
theorem mwrong_red (m : Mo) (K : PV → Prop) : (K (PV.str (see (see (see (see (see S0 SK (Mo.K m) 1 4) SBase (Mo.Base m) 0 10000) SStep (Mo.Step m) 0 10000) SCap (Mo.Cap m) (mxI 0 (Mo.Base m)) 10000) SEvery (Mo.Every m) 1 1099511627776))) = wpc br Try.prog gl TL [] (fun _ => 0) (bodyOf Try.f27) [] (env0 [m.pv]) [] (resQ Try.prog Try.f27.results.toList (fun x _ => K x)) := by kernel_rfl
theorem mwrong_vc (m : Mo) (K : PV → Prop) (h : K (PV.str (see (see (see (see (see S0 SK (Mo.K m) 1 4) SBase (Mo.Base m) 0 10000) SStep (Mo.Step m) 0 10000) SCap (Mo.Cap m) (mxI 0 (Mo.Base m)) 10000) SEvery (Mo.Every m) 1 1099511627776))) : ACalls Try.prog gl 27 [m.pv] [] (fun x _ => K x) :=
  acalls_of_wpc2 (T := TL) (L := []) (fun _ => 0) Try.func27 (by kernel_rfl) (by kernel_rfl) (by kernel_rfl) (TL_ok) (LOk.nil _ _ _ _ _) (holds_of_eq (mwrong_red m K) h)
theorem rwrong_red (m : Mo) (K : PV → Prop) : (br (decide (Mo.K m < 1) == false) (br (decide (Mo.K m > 4)) (K (PV.str SK)) (br (decide (Mo.Base m < 0) == false) (br (decide (Mo.Base m > 10000)) (K (PV.str SBase)) (br (decide (Mo.Step m < 0) == false) (br (decide (Mo.Step m > 10000)) (K (PV.str SStep)) (br (decide (Mo.Cap m < Mo.Base m) == false) (br (decide (Mo.Cap m > 10000)) (K (PV.str SCap)) (br (decide (Mo.Every m < 1) == false) (br (decide (Mo.Every m > 1099511627776)) (K (PV.str SEvery)) (K (PV.str S0))) (K (PV.str SEvery)))) (K (PV.str SCap)))) (K (PV.str SStep)))) (K (PV.str SBase)))) (K (PV.str SK))) = wpc br Try.prog gl [] [] (fun _ => 0) (bodyOf Try.f29) [] (env0 [m.pv]) [] (resQ Try.prog Try.f29.results.toList (fun x _ => K x)) := by kernel_rfl
theorem rwrong_vc (m : Mo) (K : PV → Prop) (h : br (decide (Mo.K m < 1) == false) (br (decide (Mo.K m > 4)) (K (PV.str SK)) (br (decide (Mo.Base m < 0) == false) (br (decide (Mo.Base m > 10000)) (K (PV.str SBase)) (br (decide (Mo.Step m < 0) == false) (br (decide (Mo.Step m > 10000)) (K (PV.str SStep)) (br (decide (Mo.Cap m < Mo.Base m) == false) (br (decide (Mo.Cap m > 10000)) (K (PV.str SCap)) (br (decide (Mo.Every m < 1) == false) (br (decide (Mo.Every m > 1099511627776)) (K (PV.str SEvery)) (K (PV.str S0))) (K (PV.str SEvery)))) (K (PV.str SCap)))) (K (PV.str SStep)))) (K (PV.str SBase)))) (K (PV.str SK))) : ACalls Try.prog gl 29 [m.pv] [] (fun x _ => K x) :=
  acalls_of_wpc2 (T := []) (L := []) (fun _ => 0) Try.func29 (by kernel_rfl) (by kernel_rfl) (by kernel_rfl) (TabOk.nil _ _) (LOk.nil _ _ _ _ _) (holds_of_eq (rwrong_red m K) h)
def mwrong_s (args : List PV) (K : PV → Prop) : Prop := match args with
  | [.agg [.int .i64 a, .int .i64 b, .int .i64 c, .int .i64 d, .int .i64 e]] => K (.str (wrongM ⟨a, b, c, d, e⟩))
  | _ => False
theorem mwrong_ok : SpOk Try.prog gl 27 (.pure mwrong_s) := by
  intro args K h
  unfold mwrong_s at h
  split at h
  · rename_i a b c d e
    exact spure gl_low (by simp [low_int, low_agg]) (.str _) (mwrong_vc ⟨a, b, c, d, e⟩ (fun x => x = .str (wrongM ⟨a, b, c, d, e⟩)) rfl) h
  · exact h.elim
theorem rwrong_ok : SpOk Try.prog gl 29 (.pure mwrong_s) := by
  intro args K h
  unfold mwrong_s at h
  split at h
  · rename_i a b c d e
    refine spure gl_low (by simp [low_int, low_agg]) (.str _) (rwrong_vc ⟨a, b, c, d, e⟩ (fun x => x = .str (wrongM ⟨a, b, c, d, e⟩)) ?_) h
    rw [wrongM_eq]
    unfold wrongR
    simp only [br_if, bf, dt, df, ite_not, if_or]
    by_cases c0 : a < 1
    · simp only [c0, if_true]
    by_cases c1 : a > 4
    · simp only [c0, c1, if_true, if_false]
    by_cases c2 : b < 0
    · simp only [c0, c1, c2, if_true, if_false]
    by_cases c3 : b > 10000
    · simp only [c0, c1, c2, c3, if_true, if_false]
    by_cases c4 : c < 0
    · simp only [c0, c1, c2, c3, c4, if_true, if_false]
    by_cases c5 : c > 10000
    · simp only [c0, c1, c2, c3, c4, c5, if_true, if_false]
    by_cases c6 : d < b
    · simp only [c0, c1, c2, c3, c4, c5, c6, if_true, if_false]
    by_cases c7 : d > 10000
    · simp only [c0, c1, c2, c3, c4, c5, c6, c7, if_true, if_false]
    by_cases c8 : e < 1
    · simp only [c0, c1, c2, c3, c4, c5, c6, c7, c8, if_true, if_false]
    by_cases c9 : e > 1099511627776
    · simp only [c0, c1, c2, c3, c4, c5, c6, c7, c8, c9, if_true, if_false]
    simp only [c0, c1, c2, c3, c4, c5, c6, c7, c8, c9, if_false]
  · exact h.elim
def TM : Tab := (27, .pure mwrong_s) :: (29, .pure mwrong_s) :: TL
theorem TM_ok : TabOk Try.prog gl TM := .cons mwrong_ok (.cons rwrong_ok TL_ok)
-- windows
def winM (m : Mo) (wait : Int) : Int := if okM m then mnI m.Cap (m.Base + m.Step * (mxI 0 wait / m.Every)) else 0
def win_s (args : List PV) (K : PV → Prop) : Prop := match args with
  | [.agg [.int .i64 a, .int .i64 b, .int .i64 c, .int .i64 d, .int .i64 e], .int .i64 w] => w ≤ 9223372036854775807 ∧ K (.int .i64 (winM ⟨a, b, c, d, e⟩ w))
  | _ => False
def rwin_l : LSp := fun e H Q => ∃ (m : Mo) (w : Int), okM m ∧ w ≤ 9223372036854775807 ∧ SlIs (List.map e [1, 2, 5]) [.int .i64 w, .ptr 0 0, .int .i64 m.Base] ∧ HpIs H [.cells m.cs] ∧
  ∀ w' b : Int, mnI m.Cap b = mnI m.Cap (m.Base + m.Step * (mxI 0 w / m.Every)) → Q (.exit 0) (envS [1, 2, 5] [.int .i64 w', .ptr 0 0, .int .i64 b]) [.cells m.cs]
theorem rwinl_red (m : Mo) (w b : Int) (R : Ex → List PV → Heap → Prop) : (br (decide (w ≥ Mo.Every m) == true) (br (decide (b < Mo.Cap m) == true) (br (decide (Mo.Step m > 0)) (R Ex.normal [PV.int IntKind.i64 (wI (w - Mo.Every m)), PV.ptr 0 0, PV.int IntKind.i64 (wI (b + Mo.Step m))] [Ob.cells [PV.int IntKind.i64 (Mo.K m), PV.int IntKind.i64 (Mo.Base m), PV.int IntKind.i64 (Mo.Step m), PV.int IntKind.i64 (Mo.Cap m), PV.int IntKind.i64 (Mo.Every m)]]) (R (Ex.exit 0) [PV.int IntKind.i64 w, PV.ptr 0 0, PV.int IntKind.i64 b] [Ob.cells [PV.int IntKind.i64 (Mo.K m), PV.int IntKind.i64 (Mo.Base m), PV.int IntKind.i64 (Mo.Step m), PV.int IntKind.i64 (Mo.Cap m), PV.int IntKind.i64 (Mo.Every m)]])) (R (Ex.exit 0) [PV.int IntKind.i64 w, PV.ptr 0 0, PV.int IntKind.i64 b] [Ob.cells [PV.int IntKind.i64 (Mo.K m), PV.int IntKind.i64 (Mo.Base m), PV.int IntKind.i64 (Mo.Step m), PV.int IntKind.i64 (Mo.Cap m), PV.int IntKind.i64 (Mo.Every m)]])) (R (Ex.exit 0) [PV.int IntKind.i64 w, PV.ptr 0 0, PV.int IntKind.i64 b] [Ob.cells [PV.int IntKind.i64 (Mo.K m), PV.int IntKind.i64 (Mo.Base m), PV.int IntKind.i64 (Mo.Step m), PV.int IntKind.i64 (Mo.Cap m), PV.int IntKind.i64 (Mo.Every m)]])) = wpc br Try.prog gl TM [] (fun _ => 0) (subOf [1, 1, 1, 0, 0] (bodyOf Try.f35)) [] (envS [1, 2, 5] [.int .i64 w, .ptr 0 0, .int .i64 b]) [.cells m.cs] (fun ex e H => R ex (List.map e [1, 2, 5]) H) := by kernel_rfl
theorem rwinl_vc (m : Mo) (w b : Int) (R : Ex → List PV → Heap → Prop) (h : br (decide (w ≥ Mo.Every m) == true) (br (decide (b < Mo.Cap m) == true) (br (decide (Mo.Step m > 0)) (R Ex.normal [PV.int IntKind.i64 (wI (w - Mo.Every m)), PV.ptr 0 0, PV.int IntKind.i64 (wI (b + Mo.Step m))] [Ob.cells [PV.int IntKind.i64 (Mo.K m), PV.int IntKind.i64 (Mo.Base m), PV.int IntKind.i64 (Mo.Step m), PV.int IntKind.i64 (Mo.Cap m), PV.int IntKind.i64 (Mo.Every m)]]) (R (Ex.exit 0) [PV.int IntKind.i64 w, PV.ptr 0 0, PV.int IntKind.i64 b] [Ob.cells [PV.int IntKind.i64 (Mo.K m), PV.int IntKind.i64 (Mo.Base m), PV.int IntKind.i64 (Mo.Step m), PV.int IntKind.i64 (Mo.Cap m), PV.int IntKind.i64 (Mo.Every m)]])) (R (Ex.exit 0) [PV.int IntKind.i64 w, PV.ptr 0 0, PV.int IntKind.i64 b] [Ob.cells [PV.int IntKind.i64 (Mo.K m), PV.int IntKind.i64 (Mo.Base m), PV.int IntKind.i64 (Mo.Step m), PV.int IntKind.i64 (Mo.Cap m), PV.int IntKind.i64 (Mo.Every m)]])) (R (Ex.exit 0) [PV.int IntKind.i64 w, PV.ptr 0 0, PV.int IntKind.i64 b] [Ob.cells [PV.int IntKind.i64 (Mo.K m), PV.int IntKind.i64 (Mo.Base m), PV.int IntKind.i64 (Mo.Step m), PV.int IntKind.i64 (Mo.Cap m), PV.int IntKind.i64 (Mo.Every m)]])) : Holds (wpc br Try.prog gl TM [] (fun _ => 0) (subOf [1, 1, 1, 0, 0] (bodyOf Try.f35)) [] (envS [1, 2, 5] [.int .i64 w, .ptr 0 0, .int .i64 b]) [.cells m.cs] (fun ex e H => R ex (List.map e [1, 2, 5]) H)) := holds_of_eq (rwinl_red m w b R) h
theorem mwin_red (m : Mo) (w : Int) (K : PV → Prop) : (br (wrongM m != S0) (K (PV.int IntKind.i64 0)) (br (Mo.Every m != 0) (K (PV.int IntKind.i64 (mnI (Mo.Cap m) (wI (Mo.Base m + wI (Mo.Step m * mnI (wI (Int.tdiv (mxI 0 w) (Mo.Every m))) (Mo.Cap m))))))) False)) = wpc br Try.prog gl TM [] (fun _ => 0) (bodyOf Try.f20) [] (env0 [m.pv, .int .i64 w]) [] (resQ Try.prog Try.f20.results.toList (fun x _ => K x)) := by kernel_rfl
theorem mwin_vc (m : Mo) (w : Int) (K : PV → Prop) (h : br (wrongM m != S0) (K (PV.int IntKind.i64 0)) (br (Mo.Every m != 0) (K (PV.int IntKind.i64 (mnI (Mo.Cap m) (wI (Mo.Base m + wI (Mo.Step m * mnI (wI (Int.tdiv (mxI 0 w) (Mo.Every m))) (Mo.Cap m))))))) False)) : ACalls Try.prog gl 20 [m.pv, .int .i64 w] [] (fun x _ => K x) :=
  acalls_of_wpc2 (T := TM) (L := []) (fun _ => 0) Try.func20 (by kernel_rfl) (by kernel_rfl) (by kernel_rfl) (TM_ok) (LOk.nil _ _ _ _ _) (holds_of_eq (mwin_red m w K) h)
theorem mul_bounds {s t : Int} (hs : 0 ≤ s ∧ s ≤ 10000) (ht : 0 ≤ t ∧ t ≤ 10000) : 0 ≤ s * t ∧ s * t ≤ 100000000 := by
  have h1 := Int.mul_nonneg hs.1 ht.1
  have h2 := Int.mul_le_mul hs.2 ht.2 ht.1 (by omega : (0 : Int) ≤ 10000)
  omega
theorem div_small {w d : Int} (hw : w ≤ 9223372036854775807) (hd : 1 ≤ d) : 0 ≤ mxI 0 w / d ∧ mxI 0 w / d ≤ 9223372036854775807 ∧ (mxI 0 w).tdiv d = mxI 0 w / d := by
  have h0 : 0 ≤ mxI 0 w := by unfold mxI; split <;> omega
  have h1 : mxI 0 w ≤ 9223372036854775807 := by unfold mxI; split <;> omega
  exact ⟨Int.ediv_nonneg h0 (by omega), by have := Int.ediv_le_self d h0; omega, Int.tdiv_eq_ediv_of_nonneg h0⟩
theorem win_cap {m : Mo} (h : okM m) {q : Int} (_ : 0 ≤ q) : mnI m.Cap (m.Base + m.Step * mnI q m.Cap) = mnI m.Cap (m.Base + m.Step * q) := by
  obtain ⟨_, hb, hs, hc, _⟩ := h
  by_cases c : q ≤ m.Cap
  · have e : mnI q m.Cap = q := by unfold mnI; split <;> omega
    rw [e]
  · have e : mnI q m.Cap = m.Cap := by unfold mnI; split <;> omega
    rw [e]
    by_cases z : m.Step = 0
    · rw [z, Int.zero_mul, Int.zero_mul]
    · have h1 : m.Cap ≤ m.Step * m.Cap := by
        have := Int.mul_le_mul (show (1 : Int) ≤ m.Step by omega) (Int.le_refl m.Cap) (by omega) (by omega)
        omega
      have h2 : m.Cap ≤ m.Step * q := by
        have := Int.mul_le_mul (show (1 : Int) ≤ m.Step by omega) (show m.Cap ≤ q by omega) (by omega) (by omega)
        omega
      unfold mnI; (repeat' split) <;> omega
theorem mwin_ok : SpOk Try.prog gl 20 (.pure win_s) := by
  intro args K h
  unfold win_s at h
  split at h
  · rename_i a b c d e w
    obtain ⟨hw, h⟩ := h
    refine spure gl_low (by simp [low_int, low_agg]) (.int _ _) (mwin_vc ⟨a, b, c, d, e⟩ w (fun x => x = .int .i64 (winM ⟨a, b, c, d, e⟩ w)) ?_) h
    simp only [br_if, bne_S, bne_I]
    by_cases ok : okM ⟨a, b, c, d, e⟩
    · rw [if_neg (fun k => k ((wrongM_ok _).2 ok))]
      have ok' := ok
      obtain ⟨_, hb, hs, hc, he⟩ := ok'
      simp only at hb hs hc he
      obtain ⟨h1, h2, h3⟩ := div_small hw he.1
      rw [if_pos (by omega), h3, w_small (n := mxI 0 w / e) (by omega) (by omega)]
      have ht : 0 ≤ mnI (mxI 0 w / e) d ∧ mnI (mxI 0 w / e) d ≤ 10000 := by unfold mnI; split <;> omega
      have hm := mul_bounds hs ht
      rw [w_small (n := c * _) (by omega) (by omega), w_small (by omega) (by omega)]
      unfold winM
      rw [if_pos ok]
      exact congrArg (PV.int .i64) (win_cap ok h1)
    · rw [if_pos (fun k => ok ((wrongM_ok _).1 k))]
      unfold winM; rw [if_neg ok]
  · exact h.elim
theorem rwin_l_ok : ∀ e H Q, rwin_l e H Q → AW Try.prog gl Try.f35.ntmps (.loop (subOf [1, 1, 1, 0, 0] (bodyOf Try.f35))) Q e H := by
  rintro e H Q ⟨m, w0, ok, hw0, he, hH, hQ⟩
  have ok' := ok
  obtain ⟨_, hb, hs, hc, hev⟩ := ok'
  refine aw_loop4 (hn := fun _ => 0) gl_low TM_ok (.nil _ _ _ _ _) (σ := Int × Int) [1, 2, 5] (fun s => s.1 ≤ 9223372036854775807 ∧ (m.Base ≤ s.2 ∧ s.2 ≤ 20000) ∧ mnI m.Cap (s.2 + m.Step * (mxI 0 s.1 / m.Every)) = mnI m.Cap (m.Base + m.Step * (mxI 0 w0 / m.Every)))
    (fun s => [.int .i64 s.1, .ptr 0 0, .int .i64 s.2]) (fun _ => [.cells m.cs]) (fun s => (m.Cap - s.2).toNat) (w0, m.Base) ⟨hw0, ⟨by omega, by omega⟩, rfl⟩ he hH ?_
  rintro ⟨w, b⟩ ⟨h1, h2, h3⟩
  simp only at h1 h2 h3
  refine rwinl_vc m w b _ ?_
  simp only [br_if, bt, dt]
  obtain ⟨hq0, _, _⟩ := div_small h1 hev.1
  have hsq : 0 ≤ m.Step * (mxI 0 w / m.Every) := Int.mul_nonneg hs.1 hq0
  by_cases c1 : w ≥ m.Every
  · rw [if_pos c1]
    by_cases c2 : b < m.Cap
    · rw [if_pos c2]
      by_cases c3 : m.Step > 0
      · rw [if_pos c3]
        refine ⟨(w - m.Every, b + m.Step), by simp only; omega, ⟨by simp only; omega, ⟨by simp only; omega, by simp only; omega⟩, ?_⟩, ?_, [], rfl, Nat.le_refl _, .inl rfl⟩
        · rw [← h3]
          have e1 : mxI 0 w = w := by unfold mxI; split <;> omega
          have e2 : mxI 0 (w - m.Every) = w - m.Every := by unfold mxI; split <;> omega
          simp only [e1, e2]
          have e3 : (w - m.Every) / m.Every = w / m.Every - 1 := by
            have := Int.add_mul_ediv_right w (-1) (show m.Every ≠ 0 by omega)
            rw [show w - m.Every = w + -1 * m.Every by omega, this]; omega
          rw [e3, Int.mul_sub, Int.mul_one]
          congr 1; omega
        · rw [w_small (n := w - m.Every) (by omega) (by omega), w_small (n := b + m.Step) (by omega) (by omega)]
      · rw [if_neg c3]
        have z : m.Step = 0 := by omega
        refine hQ w b ?_
        rw [← h3, z, Int.zero_mul, Int.add_zero]
    · rw [if_neg c2]
      refine hQ w b ?_
      rw [← h3]; unfold mnI; (repeat' split) <;> omega
  · rw [if_neg c1]
    refine hQ w b ?_
    have e0 : mxI 0 w / m.Every = 0 := by
      have : 0 ≤ mxI 0 w ∧ mxI 0 w < m.Every := by unfold mxI; split <;> omega
      exact Int.ediv_eq_zero_of_lt this.1 this.2
    rw [← h3, e0, Int.mul_zero, Int.add_zero]
theorem rwin_red (m : Mo) (w : Int) (K : PV → Prop) : (br (wrongM m != S0) (K (PV.int IntKind.i64 0)) (∃ (m_1 : Mo), ∃ (w_1 : Int), okM m_1 ∧ w_1 ≤ 9223372036854775807 ∧ SlIs [PV.int IntKind.i64 w, PV.ptr 0 0, PV.int IntKind.i64 (Mo.Base m)] [PV.int IntKind.i64 w_1, PV.ptr 0 0, PV.int IntKind.i64 (Mo.Base m_1)] ∧ HpIs [Ob.cells [PV.int IntKind.i64 (Mo.K m), PV.int IntKind.i64 (Mo.Base m), PV.int IntKind.i64 (Mo.Step m), PV.int IntKind.i64 (Mo.Cap m), PV.int IntKind.i64 (Mo.Every m)]] [Ob.cells [PV.int IntKind.i64 (Mo.K m_1), PV.int IntKind.i64 (Mo.Base m_1), PV.int IntKind.i64 (Mo.Step m_1), PV.int IntKind.i64 (Mo.Cap m_1), PV.int IntKind.i64 (Mo.Every m_1)]] ∧ ∀ (_ b : Int), mnI (Mo.Cap m_1) b = mnI (Mo.Cap m_1) (Mo.Base m_1 + Mo.Step m_1 * (mxI 0 w_1 / Mo.Every m_1)) → br (decide (b > Mo.Cap m_1)) (K (PV.int IntKind.i64 (Mo.Cap m_1))) (K (PV.int IntKind.i64 b)))) = wpc br Try.prog gl TM [([1, 1, 1, 0, 0], rwin_l)] (fun _ => 0) (bodyOf Try.f35) [] (env0 [m.pv, .int .i64 w]) [] (resQ Try.prog Try.f35.results.toList (fun x _ => K x)) := by kernel_rfl
theorem rwin_vc (m : Mo) (w : Int) (K : PV → Prop) (h : br (wrongM m != S0) (K (PV.int IntKind.i64 0)) (∃ (m_1 : Mo), ∃ (w_1 : Int), okM m_1 ∧ w_1 ≤ 9223372036854775807 ∧ SlIs [PV.int IntKind.i64 w, PV.ptr 0 0, PV.int IntKind.i64 (Mo.Base m)] [PV.int IntKind.i64 w_1, PV.ptr 0 0, PV.int IntKind.i64 (Mo.Base m_1)] ∧ HpIs [Ob.cells [PV.int IntKind.i64 (Mo.K m), PV.int IntKind.i64 (Mo.Base m), PV.int IntKind.i64 (Mo.Step m), PV.int IntKind.i64 (Mo.Cap m), PV.int IntKind.i64 (Mo.Every m)]] [Ob.cells [PV.int IntKind.i64 (Mo.K m_1), PV.int IntKind.i64 (Mo.Base m_1), PV.int IntKind.i64 (Mo.Step m_1), PV.int IntKind.i64 (Mo.Cap m_1), PV.int IntKind.i64 (Mo.Every m_1)]] ∧ ∀ (_ b : Int), mnI (Mo.Cap m_1) b = mnI (Mo.Cap m_1) (Mo.Base m_1 + Mo.Step m_1 * (mxI 0 w_1 / Mo.Every m_1)) → br (decide (b > Mo.Cap m_1)) (K (PV.int IntKind.i64 (Mo.Cap m_1))) (K (PV.int IntKind.i64 b)))) : ACalls Try.prog gl 35 [m.pv, .int .i64 w] [] (fun x _ => K x) :=
  acalls_of_wpc2 (T := TM) (L := [([1, 1, 1, 0, 0], rwin_l)]) (fun _ => 0) Try.func35 (by kernel_rfl) (by kernel_rfl) (by kernel_rfl) (TM_ok) (.cons (sub_of (by kernel_rfl)) rwin_l_ok (.nil _ _ _ _ _)) (holds_of_eq (rwin_red m w K) h)
theorem rwin_ok : SpOk Try.prog gl 35 (.pure win_s) := by
  intro args K h
  unfold win_s at h
  split at h
  · rename_i a b c d e w
    obtain ⟨hw, h⟩ := h
    refine spure gl_low (by simp [low_int, low_agg]) (.int _ _) (rwin_vc ⟨a, b, c, d, e⟩ w (fun x => x = .int .i64 (winM ⟨a, b, c, d, e⟩ w)) ?_) h
    simp only [br_if, bne_S, dt]
    by_cases ok : okM ⟨a, b, c, d, e⟩
    · rw [if_neg (fun k => k ((wrongM_ok _).2 ok))]
      refine ⟨⟨a, b, c, d, e⟩, w, ok, hw, rfl, rfl, fun _ b' hb => ?_⟩
      unfold winM
      rw [if_pos ok]
      rw [← hb]
      unfold mnI
      simp only
      by_cases c1 : b' > d
      · rw [if_pos c1]; congr 1; split <;> omega
      · rw [if_neg c1]; congr 1; split <;> omega
    · rw [if_pos (fun k => ok ((wrongM_ok _).1 k))]
      unfold winM; rw [if_neg ok]
  · exact h.elim
def TW : Tab := (20, .pure win_s) :: (35, .pure win_s) :: TM
theorem TW_ok : TabOk Try.prog gl TW := .cons mwin_ok (.cons rwin_ok TM_ok)
-- tickets
structure Ti where
  Id : Int
  Mode : Int
  Ps : List Int
  Pt : Tail
  Rating : Int
  Since : Int
def Ti.cs (t : Ti) : List PV := [.int .u32 t.Id, .int .i64 t.Mode, .list (en1 .u32 t.Ps) t.Pt, .int .i64 t.Rating, .int .i64 t.Since]
def Ti.pv (t : Ti) : PV := .agg [.int .u32 t.Id, .int .i64 t.Mode, .list (en1 .u32 t.Ps) t.Pt, .int .i64 t.Rating, .int .i64 t.Since]
theorem Ti.cs_len (t : Ti) : t.cs.length = 5 := rfl
def Ti.zero : Ti := ⟨0, 0, [], .no, 0, 0⟩
def in64 (n : Int) : Prop := -9223372036854775808 ≤ n ∧ n ≤ 9223372036854775807
theorem ti_c (t : Ti) : cI t.cs 0 = t.Id ∧ cI t.cs 1 = t.Mode ∧ cL t.cs 2 = en1 .u32 t.Ps ∧ cT t.cs 2 = t.Pt ∧ cI t.cs 3 = t.Rating ∧ cI t.cs 4 = t.Since := ⟨rfl, rfl, rfl, rfl, rfl, rfl⟩
theorem ti_d (t : Ti) : cL (t.cs.drop 2) 0 = en1 .u32 t.Ps ∧ cT (t.cs.drop 2) 0 = t.Pt ∧ cI (t.cs.drop 3) 0 = t.Rating ∧ cI (t.cs.drop 4) 0 = t.Since := ⟨rfl, rfl, rfl, rfl⟩
theorem ti_f (t : Ti) : fitX [CK.int .u32, CK.int .i64, CK.list, CK.int .i64, CK.int .i64] 0 t.cs = true ∧ fitX [CK.list] 0 (t.cs.drop 2) = true ∧ fitX [CK.int .i64] 0 (t.cs.drop 3) = true ∧ fitX [CK.int .i64] 0 (t.cs.drop 4) = true := ⟨rfl, rfl, rfl, rfl⟩
theorem inL_ti (l : List Ti) (i : Nat) : InL (l.map Ti.cs) 5 (i : Int) = (i < l.length) := inL_map Ti.cs_len (by decide) l i
theorem tt : (true && true) = true := rfl
def LsOk (l : List Ti) : Prop := l.length ≤ 100 ∧ ∀ x ∈ l, NT x.Pt ∧ x.Ps.length ≤ 100 ∧ in64 x.Since
theorem low_ti {n : Nat} {x : Ti} (h : NT x.Pt) : ∀ v ∈ x.cs, Low n v := by
  intro v hv
  simp only [Ti.cs, List.mem_cons, List.not_mem_nil, or_false] at hv
  rcases hv with rfl | rfl | rfl | rfl | rfl
  · exact .int _ _
  · exact .int _ _
  · exact low_list1 h
  · exact .int _ _
  · exact .int _ _
theorem low_tpv {n : Nat} {x : Ti} (h : NT x.Pt) : Low n x.pv := .agg _ (low_ti h)
theorem low_ls {n : Nat} {l : List Ti} (h : LsOk l) : ∀ v ∈ (l.map Ti.cs).flatten, Low n v := low_map fun a ha => low_ti (h.2 a ha).1
theorem low_mpv {n : Nat} (m : Mo) : Low n m.pv := by unfold Mo.pv; simp [low_int, low_agg]
theorem getD_mem {α : Type} {l : List α} {i : Nat} {d : α} (h : i < l.length) : l.getD i d ∈ l := by
  rw [List.getD_eq_getElem?_getD, List.getElem?_eq_getElem h]; exact List.getElem_mem h
theorem appL_ps (ps : List Int) (h : ps.length ≤ 1000) : AppL [] (en1 .u32 ps) 1 4 := ⟨by intro e he; simp at he, en1_uni _ _, by rw [en1_length]; simp; omega⟩
theorem ti_snoc (l : List Ti) (i : Nat) (h : i < l.length) (hp : (l.getD i Ti.zero).Pt = .no) : (l.take i).map Ti.cs ++ [[PV.int .u32 (l.getD i Ti.zero).Id, .int .i64 (l.getD i Ti.zero).Mode, .list ([] ++ en1 .u32 (l.getD i Ti.zero).Ps) .no, .int .i64 (l.getD i Ti.zero).Rating, .int .i64 (l.getD i Ti.zero).Since]] = (l.take (i + 1)).map Ti.cs := by
  rw [take_snoc Ti.zero h, List.map_append]
  show _ = _ ++ [Ti.cs (l.getD i Ti.zero)]
  unfold Ti.cs
  rw [hp]; rfl
theorem LsOk.drop {l : List Ti} (h : LsOk l) (i : Nat) : LsOk (l.drop i) := ⟨by rw [List.length_drop]; have := h.1; omega, fun x hx => h.2 x (List.mem_of_mem_drop hx)⟩
theorem LsOk.take {l : List Ti} (h : LsOk l) (i : Nat) : LsOk (l.take i) := ⟨by rw [List.length_take]; have := h.1; omega, fun x hx => h.2 x (List.mem_of_mem_take hx)⟩
theorem LsOk.mem {l : List Ti} (h : LsOk l) {i : Nat} (hi : i < l.length) : NT (l.getD i Ti.zero).Pt ∧ (l.getD i Ti.zero).Ps.length ≤ 100 ∧ in64 (l.getD i Ti.zero).Since := h.2 _ (getD_mem hi)
def waitS (n s : Int) : Int := if s ≥ n then 0 else if n - s ≤ 9223372036854775807 then n - s else 9223372036854775807
theorem waitS_le (n s : Int) : waitS n s ≤ 9223372036854775807 := by unfold waitS; (repeat' split) <;> omega
def wait_s (args : List PV) (K : PV → Prop) : Prop := match args with
  | [.int .i64 n, .int .i64 s] => in64 n ∧ in64 s ∧ K (.int .i64 (waitS n s))
  | _ => False
def clampR (n : Int) : Int := mnI (mxI n 0) 10000
def rat_s (args : List PV) (K : PV → Prop) : Prop := match args with
  | [.int .i64 n] => K (.int .i64 (clampR n))
  | _ => False
def dist (a b : Int) : Int := mxI (clampR a - clampR b) (clampR b - clampR a)
theorem clampR_in (n : Int) : 0 ≤ clampR n ∧ clampR n ≤ 10000 := by unfold clampR mnI mxI; (repeat' split) <;> omega
theorem wrap_far {n : Int} (h0 : 9223372036854775807 < n) (h1 : n ≤ 18446744073709551615) : wI n = n - 18446744073709551616 := by
  show IntKind.wrap .i64 n = _
  simp only [IntKind.wrap, IntKind.bits, IntKind.signed]; simp; omega
theorem wait1_red (n s : Int) (K : PV → Prop) : (br (decide (s ≥ n)) (K (PV.int IntKind.i64 0)) (br (decide (wI (n - s) > 0)) (K (PV.int IntKind.i64 (wI (n - s)))) (K (PV.int IntKind.i64 9223372036854775807)))) = wpc br Try.prog gl [] [] (fun _ => 0) (bodyOf Try.f21) [] (env0 [.int .i64 n, .int .i64 s]) [] (resQ Try.prog Try.f21.results.toList (fun x _ => K x)) := by kernel_rfl
theorem wait1_vc (n s : Int) (K : PV → Prop) (h : br (decide (s ≥ n)) (K (PV.int IntKind.i64 0)) (br (decide (wI (n - s) > 0)) (K (PV.int IntKind.i64 (wI (n - s)))) (K (PV.int IntKind.i64 9223372036854775807)))) : ACalls Try.prog gl 21 [.int .i64 n, .int .i64 s] [] (fun x _ => K x) :=
  acalls_of_wpc2 (T := []) (L := []) (fun _ => 0) Try.func21 (by kernel_rfl) (by kernel_rfl) (by kernel_rfl) (TabOk.nil _ _) (LOk.nil _ _ _ _ _) (holds_of_eq (wait1_red n s K) h)
theorem wait2_red (n s : Int) (K : PV → Prop) : (br (decide (s ≥ n)) (K (PV.int IntKind.i64 0)) (br (decide (s < 0) == true) (br (decide (n > wI (9223372036854775807 + s))) (K (PV.int IntKind.i64 9223372036854775807)) (K (PV.int IntKind.i64 (wI (n - s))))) (K (PV.int IntKind.i64 (wI (n - s)))))) = wpc br Try.prog gl [] [] (fun _ => 0) (bodyOf Try.f22) [] (env0 [.int .i64 n, .int .i64 s]) [] (resQ Try.prog Try.f22.results.toList (fun x _ => K x)) := by kernel_rfl
theorem wait2_vc (n s : Int) (K : PV → Prop) (h : br (decide (s ≥ n)) (K (PV.int IntKind.i64 0)) (br (decide (s < 0) == true) (br (decide (n > wI (9223372036854775807 + s))) (K (PV.int IntKind.i64 9223372036854775807)) (K (PV.int IntKind.i64 (wI (n - s))))) (K (PV.int IntKind.i64 (wI (n - s)))))) : ACalls Try.prog gl 22 [.int .i64 n, .int .i64 s] [] (fun x _ => K x) :=
  acalls_of_wpc2 (T := []) (L := []) (fun _ => 0) Try.func22 (by kernel_rfl) (by kernel_rfl) (by kernel_rfl) (TabOk.nil _ _) (LOk.nil _ _ _ _ _) (holds_of_eq (wait2_red n s K) h)
theorem rat2_red (n : Int) (K : PV → Prop) : (br (decide (n < 0)) (K (PV.int IntKind.i64 0)) (br (decide (n > 10000)) (K (PV.int IntKind.i64 10000)) (K (PV.int IntKind.i64 n)))) = wpc br Try.prog gl [] [] (fun _ => 0) (bodyOf Try.f33) [] (env0 [.int .i64 n]) [] (resQ Try.prog Try.f33.results.toList (fun x _ => K x)) := by kernel_rfl
theorem rat2_vc (n : Int) (K : PV → Prop) (h : br (decide (n < 0)) (K (PV.int IntKind.i64 0)) (br (decide (n > 10000)) (K (PV.int IntKind.i64 10000)) (K (PV.int IntKind.i64 n)))) : ACalls Try.prog gl 33 [.int .i64 n] [] (fun x _ => K x) :=
  acalls_of_wpc2 (T := []) (L := []) (fun _ => 0) Try.func33 (by kernel_rfl) (by kernel_rfl) (by kernel_rfl) (TabOk.nil _ _) (LOk.nil _ _ _ _ _) (holds_of_eq (rat2_red n K) h)
theorem wait1_ok : SpOk Try.prog gl 21 (.pure wait_s) := by
  intro args K h
  unfold wait_s at h
  split at h
  · rename_i n s
    obtain ⟨h1, h2, h⟩ := h
    refine spure gl_low (by simp [low_int]) (.int _ _) (wait1_vc n s (fun x => x = .int .i64 (waitS n s)) ?_) h
    simp only [br_if, dt]
    unfold in64 at h1 h2
    unfold waitS
    by_cases c : s ≥ n
    · rw [if_pos c, if_pos c]
    rw [if_neg c, if_neg c]
    by_cases d : n - s ≤ 9223372036854775807
    · rw [w_small (by omega) d, if_pos (by omega), if_pos d]
    · rw [wrap_far (by omega) (by omega), if_neg (by omega), if_neg d]
  · exact h.elim
theorem wait2_ok : SpOk Try.prog gl 22 (.pure wait_s) := by
  intro args K h
  unfold wait_s at h
  split at h
  · rename_i n s
    obtain ⟨h1, h2, h⟩ := h
    refine spure gl_low (by simp [low_int]) (.int _ _) (wait2_vc n s (fun x => x = .int .i64 (waitS n s)) ?_) h
    simp only [br_if, dt, bt]
    unfold in64 at h1 h2
    unfold waitS
    by_cases c : s ≥ n
    · rw [if_pos c, if_pos c]
    rw [if_neg c, if_neg c]
    by_cases d : s < 0
    · rw [if_pos d, w_small (n := 9223372036854775807 + s) (by omega) (by omega)]
      by_cases e : n > 9223372036854775807 + s
      · rw [if_pos e, if_neg (by omega)]
      · rw [if_neg e, if_pos (by omega), w_small (by omega) (by omega)]
    · rw [if_neg d, if_pos (by omega), w_small (by omega) (by omega)]
  · exact h.elim
theorem rat2_ok : SpOk Try.prog gl 33 (.pure rat_s) := by
  intro args K h
  unfold rat_s at h
  split at h
  · rename_i n
    refine spure gl_low (by simp [low_int]) (.int _ _) (rat2_vc n (fun x => x = .int .i64 (clampR n)) ?_) h
    simp only [br_if, dt]
    unfold clampR mnI mxI
    by_cases c : n < 0
    · rw [if_pos c]; congr 1; (repeat' split) <;> omega
    rw [if_neg c]
    by_cases d : n > 10000
    · rw [if_pos d]; congr 1; (repeat' split) <;> omega
    rw [if_neg d]; congr 1; (repeat' split) <;> omega
  · exact h.elim
def TR : Tab := (33, .pure rat_s) :: (21, .pure wait_s) :: (22, .pure wait_s) :: TW
theorem TR_ok : TabOk Try.prog gl TR := .cons rat2_ok (.cons wait1_ok (.cons wait2_ok TW_ok))
theorem mo_cs (m : Mo) : m.cs = [.int .i64 m.K, .int .i64 m.Base, .int .i64 m.Step, .int .i64 m.Cap, .int .i64 m.Every] := rfl
theorem low_mo {n : Nat} (m : Mo) : ∀ x ∈ m.cs, Low n x := by
  intro x hx
  simp only [Mo.cs, List.mem_cons, List.not_mem_nil, or_false] at hx
  rcases hx with rfl | rfl | rfl | rfl | rfl <;> exact .int _ _
def nearS (a v b w : Int) : Bool := decide (dist a b ≤ v ∧ dist a b ≤ w)
def near_s (args : List PV) (K : PV → Prop) : Prop := match args with
  | [.int .i64 a, .int .i64 v, .int .i64 b, .int .i64 w] => K (.bool (nearS a v b w))
  | _ => False
def nearT (m : Mo) (n : Int) (a b : Ti) : Bool := nearS a.Rating (winM m (waitS n a.Since)) b.Rating (winM m (waitS n b.Since))
def ratt_s (args : List PV) (K : PV → Prop) : Prop := ∃ t : Ti, SlIs args [t.pv] ∧ NT t.Pt ∧ K (.int .i64 (clampR t.Rating))
def neart_s (args : List PV) (K : PV → Prop) : Prop := ∃ (m : Mo) (n : Int) (a b : Ti), SlIs args [m.pv, .int .i64 n, a.pv, b.pv] ∧ in64 n ∧ NT a.Pt ∧ NT b.Pt ∧ in64 a.Since ∧ in64 b.Since ∧ K (.bool (nearT m n a b))
def mode_s (args : List PV) (K : PV → Prop) : Prop := ∃ m : Mo, SlIs args [m.pv] ∧ K m.pv
theorem nearR_red (a v b w : Int) (K : PV → Prop) : (br (decide (wI (clampR a - clampR b) < 0)) (br (decide (wI (0 - wI (clampR a - clampR b)) ≤ v) == true) (K (PV.bool (decide (wI (0 - wI (clampR a - clampR b)) ≤ w)))) (K (PV.bool false))) (br (decide (wI (clampR a - clampR b) ≤ v) == true) (K (PV.bool (decide (wI (clampR a - clampR b) ≤ w)))) (K (PV.bool false)))) = wpc br Try.prog gl TR [] (fun _ => 0) (bodyOf Try.f19) [] (env0 [.int .i64 a, .int .i64 v, .int .i64 b, .int .i64 w]) [] (resQ Try.prog Try.f19.results.toList (fun x _ => K x)) := by kernel_rfl
theorem nearR_vc (a v b w : Int) (K : PV → Prop) (h : br (decide (wI (clampR a - clampR b) < 0)) (br (decide (wI (0 - wI (clampR a - clampR b)) ≤ v) == true) (K (PV.bool (decide (wI (0 - wI (clampR a - clampR b)) ≤ w)))) (K (PV.bool false))) (br (decide (wI (clampR a - clampR b) ≤ v) == true) (K (PV.bool (decide (wI (clampR a - clampR b) ≤ w)))) (K (PV.bool false)))) : ACalls Try.prog gl 19 [.int .i64 a, .int .i64 v, .int .i64 b, .int .i64 w] [] (fun x _ => K x) :=
  acalls_of_wpc2 (T := TR) (L := []) (fun _ => 0) Try.func19 (by kernel_rfl) (by kernel_rfl) (by kernel_rfl) (TR_ok) (LOk.nil _ _ _ _ _) (holds_of_eq (nearR_red a v b w K) h)
theorem ratT_red (t : Ti) (K : PV → Prop) : (K (PV.int IntKind.i64 (mnI (mxI (Ti.Rating t) 0) 10000))) = wpc br Try.prog gl [] [] (fun _ => 0) (bodyOf Try.f37) [] (env0 [t.pv]) [] (resQ Try.prog Try.f37.results.toList (fun x _ => K x)) := by kernel_rfl
theorem ratT_vc (t : Ti) (K : PV → Prop) (h : K (PV.int IntKind.i64 (mnI (mxI (Ti.Rating t) 0) 10000))) : ACalls Try.prog gl 37 [t.pv] [] (fun x _ => K x) :=
  acalls_of_wpc2 (T := []) (L := []) (fun _ => 0) Try.func37 (by kernel_rfl) (by kernel_rfl) (by kernel_rfl) (TabOk.nil _ _) (LOk.nil _ _ _ _ _) (holds_of_eq (ratT_red t K) h)
theorem modeL_red (m : Mo) (K : PV → Prop) : (K (PV.agg [PV.int IntKind.i64 (Mo.K m), PV.int IntKind.i64 (Mo.Base m), PV.int IntKind.i64 (Mo.Step m), PV.int IntKind.i64 (Mo.Cap m), PV.int IntKind.i64 (Mo.Every m)])) = wpc br Try.prog gl [] [] (fun _ => 0) (bodyOf Try.f11) [] (env0 [m.pv]) [] (resQ Try.prog Try.f11.results.toList (fun x _ => K x)) := by kernel_rfl
theorem modeL_vc (m : Mo) (K : PV → Prop) (h : K (PV.agg [PV.int IntKind.i64 (Mo.K m), PV.int IntKind.i64 (Mo.Base m), PV.int IntKind.i64 (Mo.Step m), PV.int IntKind.i64 (Mo.Cap m), PV.int IntKind.i64 (Mo.Every m)])) : ACalls Try.prog gl 11 [m.pv] [] (fun x _ => K x) :=
  acalls_of_wpc2 (T := []) (L := []) (fun _ => 0) Try.func11 (by kernel_rfl) (by kernel_rfl) (by kernel_rfl) (TabOk.nil _ _) (LOk.nil _ _ _ _ _) (holds_of_eq (modeL_red m K) h)
theorem nearR_ok : SpOk Try.prog gl 19 (.pure near_s) := by
  intro args K h
  unfold near_s at h
  split at h
  · rename_i a v b w
    refine spure gl_low (by simp [low_int]) (.bool _) (nearR_vc a v b w (fun x => x = .bool (nearS a v b w)) ?_) h
    simp only [br_if, dt, bt]
    have h1 := clampR_in a
    have h2 := clampR_in b
    rw [w_small (n := clampR a - clampR b) (by omega) (by omega), w_small (n := 0 - (clampR a - clampR b)) (by omega) (by omega)]
    have fin : ∀ d : Int, d = dist a b → (if d ≤ v then PV.bool (decide (d ≤ w)) = .bool (nearS a v b w) else PV.bool false = .bool (nearS a v b w)) := by
      rintro d rfl
      unfold nearS
      by_cases c : dist a b ≤ v
      · rw [if_pos c]; congr 1; apply decide_eq_decide.2; exact ⟨fun k => ⟨c, k⟩, fun k => k.2⟩
      · rw [if_neg c, decide_eq_false (fun k => c k.1)]
    by_cases c : clampR a - clampR b < 0
    · rw [if_pos c]; exact fin _ (by unfold dist mxI; split <;> omega)
    · rw [if_neg c]; exact fin _ (by unfold dist mxI; split <;> omega)
  · exact h.elim
theorem ratT_ok : SpOk Try.prog gl 37 (.pure ratt_s) := by
  rintro args K ⟨t, he, ht, hk⟩
  have he : args = _ := he
  subst he
  exact spure gl_low (by intro x hx; simp only [List.mem_cons, List.not_mem_nil, or_false] at hx; subst hx; exact low_tpv ht) (.int _ _) (ratT_vc t (fun x => x = .int .i64 (clampR t.Rating)) rfl) hk
theorem modeL_ok : SpOk Try.prog gl 11 (.pure mode_s) := by
  rintro args K ⟨m, he, hk⟩
  have he : args = _ := he
  subst he
  exact spure gl_low (by intro x hx; simp only [List.mem_cons, List.not_mem_nil, or_false] at hx; subst hx; exact low_mpv m) (low_mpv m) (modeL_vc m (fun x => x = m.pv) rfl) hk
def TN : Tab := (19, .pure near_s) :: (37, .pure ratt_s) :: (11, .pure mode_s) :: TR
theorem TN_ok : TabOk Try.prog gl TN := .cons nearR_ok (.cons ratT_ok (.cons modeL_ok TR_ok))
theorem nearP_red (m : Mo) (n : Int) (a b : Ti) (K : PV → Prop) : (∃ (t : Ti), SlIs [PV.agg [PV.int IntKind.u32 (Ti.Id a), PV.int IntKind.i64 (Ti.Mode a), PV.list (en1 IntKind.u32 (Ti.Ps a)) (Ti.Pt a), PV.int IntKind.i64 (Ti.Rating a), PV.int IntKind.i64 (Ti.Since a)]] [PV.agg [PV.int IntKind.u32 (Ti.Id t), PV.int IntKind.i64 (Ti.Mode t), PV.list (en1 IntKind.u32 (Ti.Ps t)) (Ti.Pt t), PV.int IntKind.i64 (Ti.Rating t), PV.int IntKind.i64 (Ti.Since t)]] ∧ NT (Ti.Pt t) ∧ ∃ (t_1 : Ti), SlIs [PV.agg [PV.int IntKind.u32 (Ti.Id b), PV.int IntKind.i64 (Ti.Mode b), PV.list (en1 IntKind.u32 (Ti.Ps b)) (Ti.Pt b), PV.int IntKind.i64 (Ti.Rating b), PV.int IntKind.i64 (Ti.Since b)]] [PV.agg [PV.int IntKind.u32 (Ti.Id t_1), PV.int IntKind.i64 (Ti.Mode t_1), PV.list (en1 IntKind.u32 (Ti.Ps t_1)) (Ti.Pt t_1), PV.int IntKind.i64 (Ti.Rating t_1), PV.int IntKind.i64 (Ti.Since t_1)]] ∧ NT (Ti.Pt t_1) ∧ in64 n ∧ in64 (Ti.Since a) ∧ waitS n (Ti.Since a) ≤ 9223372036854775807 ∧ in64 n ∧ in64 (Ti.Since b) ∧ waitS n (Ti.Since b) ≤ 9223372036854775807 ∧ K (PV.bool (decide (mxI (wI (clampR (Ti.Rating t) - clampR (Ti.Rating t_1))) (wI (0 - wI (clampR (Ti.Rating t) - clampR (Ti.Rating t_1)))) ≤ mnI (winM m (waitS n (Ti.Since a))) (winM m (waitS n (Ti.Since b))))))) = wpc br Try.prog gl TN [] (fun _ => 0) (bodyOf Try.f40) [] (env0 [m.pv, .int .i64 n, a.pv, b.pv]) [] (resQ Try.prog Try.f40.results.toList (fun x _ => K x)) := by kernel_rfl
theorem nearP_vc (m : Mo) (n : Int) (a b : Ti) (K : PV → Prop) (h : ∃ (t : Ti), SlIs [PV.agg [PV.int IntKind.u32 (Ti.Id a), PV.int IntKind.i64 (Ti.Mode a), PV.list (en1 IntKind.u32 (Ti.Ps a)) (Ti.Pt a), PV.int IntKind.i64 (Ti.Rating a), PV.int IntKind.i64 (Ti.Since a)]] [PV.agg [PV.int IntKind.u32 (Ti.Id t), PV.int IntKind.i64 (Ti.Mode t), PV.list (en1 IntKind.u32 (Ti.Ps t)) (Ti.Pt t), PV.int IntKind.i64 (Ti.Rating t), PV.int IntKind.i64 (Ti.Since t)]] ∧ NT (Ti.Pt t) ∧ ∃ (t_1 : Ti), SlIs [PV.agg [PV.int IntKind.u32 (Ti.Id b), PV.int IntKind.i64 (Ti.Mode b), PV.list (en1 IntKind.u32 (Ti.Ps b)) (Ti.Pt b), PV.int IntKind.i64 (Ti.Rating b), PV.int IntKind.i64 (Ti.Since b)]] [PV.agg [PV.int IntKind.u32 (Ti.Id t_1), PV.int IntKind.i64 (Ti.Mode t_1), PV.list (en1 IntKind.u32 (Ti.Ps t_1)) (Ti.Pt t_1), PV.int IntKind.i64 (Ti.Rating t_1), PV.int IntKind.i64 (Ti.Since t_1)]] ∧ NT (Ti.Pt t_1) ∧ in64 n ∧ in64 (Ti.Since a) ∧ waitS n (Ti.Since a) ≤ 9223372036854775807 ∧ in64 n ∧ in64 (Ti.Since b) ∧ waitS n (Ti.Since b) ≤ 9223372036854775807 ∧ K (PV.bool (decide (mxI (wI (clampR (Ti.Rating t) - clampR (Ti.Rating t_1))) (wI (0 - wI (clampR (Ti.Rating t) - clampR (Ti.Rating t_1)))) ≤ mnI (winM m (waitS n (Ti.Since a))) (winM m (waitS n (Ti.Since b))))))) : ACalls Try.prog gl 40 [m.pv, .int .i64 n, a.pv, b.pv] [] (fun x _ => K x) :=
  acalls_of_wpc2 (T := TN) (L := []) (fun _ => 0) Try.func40 (by kernel_rfl) (by kernel_rfl) (by kernel_rfl) (TN_ok) (LOk.nil _ _ _ _ _) (holds_of_eq (nearP_red m n a b K) h)
theorem nearP_ok : SpOk Try.prog gl 40 (.pure neart_s) := by
  rintro args K ⟨m, n, a, b, he, hn, ha, hb, hsa, hsb, hk⟩
  have he : args = _ := he
  subst he
  refine spure gl_low (by intro x hx; simp only [List.mem_cons, List.not_mem_nil, or_false] at hx; rcases hx with rfl | rfl | rfl | rfl; exact low_mpv m; exact .int _ _; exact low_tpv ha; exact low_tpv hb) (.bool _)
    (nearP_vc m n a b (fun x => x = .bool (nearT m n a b)) ⟨a, rfl, ha, b, rfl, hb, hn, hsa, waitS_le _ _, hn, hsb, waitS_le _ _, ?_⟩) hk
  have h1 := clampR_in a.Rating
  have h2 := clampR_in b.Rating
  rw [w_small (n := clampR a.Rating - clampR b.Rating) (by omega) (by omega), w_small (n := 0 - (clampR a.Rating - clampR b.Rating)) (by omega) (by omega)]
  have hd : mxI (clampR a.Rating - clampR b.Rating) (0 - (clampR a.Rating - clampR b.Rating)) = dist a.Rating b.Rating := by unfold dist mxI; (repeat' split) <;> omega
  rw [hd]
  congr 1
  unfold nearT nearS
  apply decide_eq_decide.2
  unfold mnI
  split <;> omega
def TP : Tab := (40, .pure neart_s) :: TN
theorem TP_ok : TabOk Try.prog gl TP := .cons nearP_ok TN_ok
def fitP (nr : Ti → Ti → Bool) (l : List Ti) : Nat → Bool
  | 0 => true
  | n + 1 => fitP nr l n && (l.take n).all (nr (l.getD n Ti.zero))
theorem fitP_no {nr : Ti → Ti → Bool} {r : List Ti} {i : Nat} (h : fitP nr r (i + 1) = false) : ∀ n, fitP nr r (i + 1 + n) = false
  | 0 => h
  | n + 1 => by show (fitP nr r (i + 1 + n) && _) = false; rw [fitP_no h n]; rfl
theorem jnl_red (m : Mo) (n : Int) (t : Ti) (l : List Ti) (i : Nat) (R : Ex → List PV → Heap → Prop) : (br (decide ((↑i : Int) < (↑(List.length l) : Int))) (InL (List.map Ti.cs l) 5 (↑i : Int) ∧ br (true && fitX [CK.int IntKind.u32, CK.int IntKind.i64, CK.list, CK.int IntKind.i64, CK.int IntKind.i64] 0 (List.getD (List.map Ti.cs l) (Int.toNat (↑i : Int)) [])) (∃ (m_1 : Mo), ∃ (n_1 : Int), ∃ (a : Ti), ∃ (b : Ti), SlIs [PV.agg [PV.int IntKind.i64 (Mo.K m), PV.int IntKind.i64 (Mo.Base m), PV.int IntKind.i64 (Mo.Step m), PV.int IntKind.i64 (Mo.Cap m), PV.int IntKind.i64 (Mo.Every m)], PV.int IntKind.i64 n, PV.agg [PV.int IntKind.u32 (Ti.Id t), PV.int IntKind.i64 (Ti.Mode t), PV.list (en1 IntKind.u32 (Ti.Ps t)) (Ti.Pt t), PV.int IntKind.i64 (Ti.Rating t), PV.int IntKind.i64 (Ti.Since t)], PV.agg [PV.int IntKind.u32 (cI (List.getD (List.map Ti.cs l) (Int.toNat (↑i : Int)) []) 0), PV.int IntKind.i64 (cI (List.getD (List.map Ti.cs l) (Int.toNat (↑i : Int)) []) 1), PV.list (cL (List.getD (List.map Ti.cs l) (Int.toNat (↑i : Int)) []) 2) (cT (List.getD (List.map Ti.cs l) (Int.toNat (↑i : Int)) []) 2), PV.int IntKind.i64 (cI (List.getD (List.map Ti.cs l) (Int.toNat (↑i : Int)) []) 3), PV.int IntKind.i64 (cI (List.getD (List.map Ti.cs l) (Int.toNat (↑i : Int)) []) 4)]] [PV.agg [PV.int IntKind.i64 (Mo.K m_1), PV.int IntKind.i64 (Mo.Base m_1), PV.int IntKind.i64 (Mo.Step m_1), PV.int IntKind.i64 (Mo.Cap m_1), PV.int IntKind.i64 (Mo.Every m_1)], PV.int IntKind.i64 n_1, PV.agg [PV.int IntKind.u32 (Ti.Id a), PV.int IntKind.i64 (Ti.Mode a), PV.list (en1 IntKind.u32 (Ti.Ps a)) (Ti.Pt a), PV.int IntKind.i64 (Ti.Rating a), PV.int IntKind.i64 (Ti.Since a)], PV.agg [PV.int IntKind.u32 (Ti.Id b), PV.int IntKind.i64 (Ti.Mode b), PV.list (en1 IntKind.u32 (Ti.Ps b)) (Ti.Pt b), PV.int IntKind.i64 (Ti.Rating b), PV.int IntKind.i64 (Ti.Since b)]] ∧ in64 n_1 ∧ NT (Ti.Pt a) ∧ NT (Ti.Pt b) ∧ in64 (Ti.Since a) ∧ in64 (Ti.Since b) ∧ br (!nearT m_1 n_1 a b) (R Ex.ret [PV.int IntKind.i64 n, PV.ptr 0 0, PV.ptr 1 0, PV.bool false, PV.list (List.map Ti.cs l) Tail.no, PV.int IntKind.i64 (↑(List.length l) : Int), PV.int IntKind.i64 (↑i : Int)] [Ob.cells [PV.int IntKind.i64 (Mo.K m), PV.int IntKind.i64 (Mo.Base m), PV.int IntKind.i64 (Mo.Step m), PV.int IntKind.i64 (Mo.Cap m), PV.int IntKind.i64 (Mo.Every m)], Ob.cells [PV.int IntKind.u32 (Ti.Id t), PV.int IntKind.i64 (Ti.Mode t), PV.list (en1 IntKind.u32 (Ti.Ps t)) (Ti.Pt t), PV.int IntKind.i64 (Ti.Rating t), PV.int IntKind.i64 (Ti.Since t)], Ob.cells [PV.int IntKind.u32 (cI (List.getD (List.map Ti.cs l) (Int.toNat (↑i : Int)) []) 0), PV.int IntKind.i64 (cI (List.getD (List.map Ti.cs l) (Int.toNat (↑i : Int)) []) 1), PV.list (cL (List.getD (List.map Ti.cs l) (Int.toNat (↑i : Int)) []) 2) (cT (List.getD (List.map Ti.cs l) (Int.toNat (↑i : Int)) []) 2), PV.int IntKind.i64 (cI (List.getD (List.map Ti.cs l) (Int.toNat (↑i : Int)) []) 3), PV.int IntKind.i64 (cI (List.getD (List.map Ti.cs l) (Int.toNat (↑i : Int)) []) 4)]]) (R Ex.normal [PV.int IntKind.i64 n, PV.ptr 0 0, PV.ptr 1 0, PV.bool false, PV.list (List.map Ti.cs l) Tail.no, PV.int IntKind.i64 (↑(List.length l) : Int), PV.int IntKind.i64 (wI ((↑i : Int) + 1))] [Ob.cells [PV.int IntKind.i64 (Mo.K m), PV.int IntKind.i64 (Mo.Base m), PV.int IntKind.i64 (Mo.Step m), PV.int IntKind.i64 (Mo.Cap m), PV.int IntKind.i64 (Mo.Every m)], Ob.cells [PV.int IntKind.u32 (Ti.Id t), PV.int IntKind.i64 (Ti.Mode t), PV.list (en1 IntKind.u32 (Ti.Ps t)) (Ti.Pt t), PV.int IntKind.i64 (Ti.Rating t), PV.int IntKind.i64 (Ti.Since t)], Ob.cells [PV.int IntKind.u32 (cI (List.getD (List.map Ti.cs l) (Int.toNat (↑i : Int)) []) 0), PV.int IntKind.i64 (cI (List.getD (List.map Ti.cs l) (Int.toNat (↑i : Int)) []) 1), PV.list (cL (List.getD (List.map Ti.cs l) (Int.toNat (↑i : Int)) []) 2) (cT (List.getD (List.map Ti.cs l) (Int.toNat (↑i : Int)) []) 2), PV.int IntKind.i64 (cI (List.getD (List.map Ti.cs l) (Int.toNat (↑i : Int)) []) 3), PV.int IntKind.i64 (cI (List.getD (List.map Ti.cs l) (Int.toNat (↑i : Int)) []) 4)]])) False) (R (Ex.exit 0) [PV.int IntKind.i64 n, PV.ptr 0 0, PV.ptr 1 0, PV.bool false, PV.list (List.map Ti.cs l) Tail.no, PV.int IntKind.i64 (↑(List.length l) : Int), PV.int IntKind.i64 (↑i : Int)] [Ob.cells [PV.int IntKind.i64 (Mo.K m), PV.int IntKind.i64 (Mo.Base m), PV.int IntKind.i64 (Mo.Step m), PV.int IntKind.i64 (Mo.Cap m), PV.int IntKind.i64 (Mo.Every m)], Ob.cells [PV.int IntKind.u32 (Ti.Id t), PV.int IntKind.i64 (Ti.Mode t), PV.list (en1 IntKind.u32 (Ti.Ps t)) (Ti.Pt t), PV.int IntKind.i64 (Ti.Rating t), PV.int IntKind.i64 (Ti.Since t)]])) = wpc br Try.prog gl TP [] (fun _ => 0) (subOf [1, 0, 1, 0] (bodyOf Try.f34)) [] (envS [1, 4, 6, 8, 11, 12, 13] [.int .i64 n, .ptr 0 0, .ptr 1 0, .bool false, .list (l.map Ti.cs) .no, .int .i64 l.length, .int .i64 i]) [.cells m.cs, .cells t.cs] (fun ex e H => R ex (List.map e [1, 4, 6, 8, 11, 12, 13]) H) := by kernel_rfl
theorem jnl_vc (m : Mo) (n : Int) (t : Ti) (l : List Ti) (i : Nat) (R : Ex → List PV → Heap → Prop) (h : br (decide ((↑i : Int) < (↑(List.length l) : Int))) (InL (List.map Ti.cs l) 5 (↑i : Int) ∧ br (true && fitX [CK.int IntKind.u32, CK.int IntKind.i64, CK.list, CK.int IntKind.i64, CK.int IntKind.i64] 0 (List.getD (List.map Ti.cs l) (Int.toNat (↑i : Int)) [])) (∃ (m_1 : Mo), ∃ (n_1 : Int), ∃ (a : Ti), ∃ (b : Ti), SlIs [PV.agg [PV.int IntKind.i64 (Mo.K m), PV.int IntKind.i64 (Mo.Base m), PV.int IntKind.i64 (Mo.Step m), PV.int IntKind.i64 (Mo.Cap m), PV.int IntKind.i64 (Mo.Every m)], PV.int IntKind.i64 n, PV.agg [PV.int IntKind.u32 (Ti.Id t), PV.int IntKind.i64 (Ti.Mode t), PV.list (en1 IntKind.u32 (Ti.Ps t)) (Ti.Pt t), PV.int IntKind.i64 (Ti.Rating t), PV.int IntKind.i64 (Ti.Since t)], PV.agg [PV.int IntKind.u32 (cI (List.getD (List.map Ti.cs l) (Int.toNat (↑i : Int)) []) 0), PV.int IntKind.i64 (cI (List.getD (List.map Ti.cs l) (Int.toNat (↑i : Int)) []) 1), PV.list (cL (List.getD (List.map Ti.cs l) (Int.toNat (↑i : Int)) []) 2) (cT (List.getD (List.map Ti.cs l) (Int.toNat (↑i : Int)) []) 2), PV.int IntKind.i64 (cI (List.getD (List.map Ti.cs l) (Int.toNat (↑i : Int)) []) 3), PV.int IntKind.i64 (cI (List.getD (List.map Ti.cs l) (Int.toNat (↑i : Int)) []) 4)]] [PV.agg [PV.int IntKind.i64 (Mo.K m_1), PV.int IntKind.i64 (Mo.Base m_1), PV.int IntKind.i64 (Mo.Step m_1), PV.int IntKind.i64 (Mo.Cap m_1), PV.int IntKind.i64 (Mo.Every m_1)], PV.int IntKind.i64 n_1, PV.agg [PV.int IntKind.u32 (Ti.Id a), PV.int IntKind.i64 (Ti.Mode a), PV.list (en1 IntKind.u32 (Ti.Ps a)) (Ti.Pt a), PV.int IntKind.i64 (Ti.Rating a), PV.int IntKind.i64 (Ti.Since a)], PV.agg [PV.int IntKind.u32 (Ti.Id b), PV.int IntKind.i64 (Ti.Mode b), PV.list (en1 IntKind.u32 (Ti.Ps b)) (Ti.Pt b), PV.int IntKind.i64 (Ti.Rating b), PV.int IntKind.i64 (Ti.Since b)]] ∧ in64 n_1 ∧ NT (Ti.Pt a) ∧ NT (Ti.Pt b) ∧ in64 (Ti.Since a) ∧ in64 (Ti.Since b) ∧ br (!nearT m_1 n_1 a b) (R Ex.ret [PV.int IntKind.i64 n, PV.ptr 0 0, PV.ptr 1 0, PV.bool false, PV.list (List.map Ti.cs l) Tail.no, PV.int IntKind.i64 (↑(List.length l) : Int), PV.int IntKind.i64 (↑i : Int)] [Ob.cells [PV.int IntKind.i64 (Mo.K m), PV.int IntKind.i64 (Mo.Base m), PV.int IntKind.i64 (Mo.Step m), PV.int IntKind.i64 (Mo.Cap m), PV.int IntKind.i64 (Mo.Every m)], Ob.cells [PV.int IntKind.u32 (Ti.Id t), PV.int IntKind.i64 (Ti.Mode t), PV.list (en1 IntKind.u32 (Ti.Ps t)) (Ti.Pt t), PV.int IntKind.i64 (Ti.Rating t), PV.int IntKind.i64 (Ti.Since t)], Ob.cells [PV.int IntKind.u32 (cI (List.getD (List.map Ti.cs l) (Int.toNat (↑i : Int)) []) 0), PV.int IntKind.i64 (cI (List.getD (List.map Ti.cs l) (Int.toNat (↑i : Int)) []) 1), PV.list (cL (List.getD (List.map Ti.cs l) (Int.toNat (↑i : Int)) []) 2) (cT (List.getD (List.map Ti.cs l) (Int.toNat (↑i : Int)) []) 2), PV.int IntKind.i64 (cI (List.getD (List.map Ti.cs l) (Int.toNat (↑i : Int)) []) 3), PV.int IntKind.i64 (cI (List.getD (List.map Ti.cs l) (Int.toNat (↑i : Int)) []) 4)]]) (R Ex.normal [PV.int IntKind.i64 n, PV.ptr 0 0, PV.ptr 1 0, PV.bool false, PV.list (List.map Ti.cs l) Tail.no, PV.int IntKind.i64 (↑(List.length l) : Int), PV.int IntKind.i64 (wI ((↑i : Int) + 1))] [Ob.cells [PV.int IntKind.i64 (Mo.K m), PV.int IntKind.i64 (Mo.Base m), PV.int IntKind.i64 (Mo.Step m), PV.int IntKind.i64 (Mo.Cap m), PV.int IntKind.i64 (Mo.Every m)], Ob.cells [PV.int IntKind.u32 (Ti.Id t), PV.int IntKind.i64 (Ti.Mode t), PV.list (en1 IntKind.u32 (Ti.Ps t)) (Ti.Pt t), PV.int IntKind.i64 (Ti.Rating t), PV.int IntKind.i64 (Ti.Since t)], Ob.cells [PV.int IntKind.u32 (cI (List.getD (List.map Ti.cs l) (Int.toNat (↑i : Int)) []) 0), PV.int IntKind.i64 (cI (List.getD (List.map Ti.cs l) (Int.toNat (↑i : Int)) []) 1), PV.list (cL (List.getD (List.map Ti.cs l) (Int.toNat (↑i : Int)) []) 2) (cT (List.getD (List.map Ti.cs l) (Int.toNat (↑i : Int)) []) 2), PV.int IntKind.i64 (cI (List.getD (List.map Ti.cs l) (Int.toNat (↑i : Int)) []) 3), PV.int IntKind.i64 (cI (List.getD (List.map Ti.cs l) (Int.toNat (↑i : Int)) []) 4)]])) False) (R (Ex.exit 0) [PV.int IntKind.i64 n, PV.ptr 0 0, PV.ptr 1 0, PV.bool false, PV.list (List.map Ti.cs l) Tail.no, PV.int IntKind.i64 (↑(List.length l) : Int), PV.int IntKind.i64 (↑i : Int)] [Ob.cells [PV.int IntKind.i64 (Mo.K m), PV.int IntKind.i64 (Mo.Base m), PV.int IntKind.i64 (Mo.Step m), PV.int IntKind.i64 (Mo.Cap m), PV.int IntKind.i64 (Mo.Every m)], Ob.cells [PV.int IntKind.u32 (Ti.Id t), PV.int IntKind.i64 (Ti.Mode t), PV.list (en1 IntKind.u32 (Ti.Ps t)) (Ti.Pt t), PV.int IntKind.i64 (Ti.Rating t), PV.int IntKind.i64 (Ti.Since t)]])) : Holds (wpc br Try.prog gl TP [] (fun _ => 0) (subOf [1, 0, 1, 0] (bodyOf Try.f34)) [] (envS [1, 4, 6, 8, 11, 12, 13] [.int .i64 n, .ptr 0 0, .ptr 1 0, .bool false, .list (l.map Ti.cs) .no, .int .i64 l.length, .int .i64 i]) [.cells m.cs, .cells t.cs] (fun ex e H => R ex (List.map e [1, 4, 6, 8, 11, 12, 13]) H)) := holds_of_eq (jnl_red m n t l i R) h
theorem sml_red (l : List Ti) (i : Nat) (R : Ex → List PV → Heap → Prop) : (br (decide ((↑i : Int) < (↑(List.length (List.map Ti.cs l)) : Int))) (InL (List.map Ti.cs l) 5 (↑i : Int) ∧ br (true && fitX [CK.list] 0 (List.drop 2 (List.getD (List.map Ti.cs l) (Int.toNat (↑i : Int)) []))) (br (decide ((↑(List.length (cL (List.drop 2 (List.getD (List.map Ti.cs l) (Int.toNat (↑i : Int)) [])) 0)) : Int) > 10)) (R Ex.ret [PV.list (List.map Ti.cs l) Tail.no, PV.bool false, PV.int IntKind.i64 (↑i : Int)] []) (R Ex.normal [PV.list (List.map Ti.cs l) Tail.no, PV.bool false, PV.int IntKind.i64 (wI ((↑i : Int) + 1))] [])) False) (R (Ex.exit 0) [PV.list (List.map Ti.cs l) Tail.no, PV.bool false, PV.int IntKind.i64 (↑i : Int)] [])) = wpc br Try.prog gl TP [] (fun _ => 0) (subOf [1, 0, 1, 0] (bodyOf Try.f9)) [] (envS [0, 2, 3] [.list (l.map Ti.cs) .no, .bool false, .int .i64 i]) [] (fun ex e H => R ex (List.map e [0, 2, 3]) H) := by kernel_rfl
theorem sml_vc (l : List Ti) (i : Nat) (R : Ex → List PV → Heap → Prop) (h : br (decide ((↑i : Int) < (↑(List.length (List.map Ti.cs l)) : Int))) (InL (List.map Ti.cs l) 5 (↑i : Int) ∧ br (true && fitX [CK.list] 0 (List.drop 2 (List.getD (List.map Ti.cs l) (Int.toNat (↑i : Int)) []))) (br (decide ((↑(List.length (cL (List.drop 2 (List.getD (List.map Ti.cs l) (Int.toNat (↑i : Int)) [])) 0)) : Int) > 10)) (R Ex.ret [PV.list (List.map Ti.cs l) Tail.no, PV.bool false, PV.int IntKind.i64 (↑i : Int)] []) (R Ex.normal [PV.list (List.map Ti.cs l) Tail.no, PV.bool false, PV.int IntKind.i64 (wI ((↑i : Int) + 1))] [])) False) (R (Ex.exit 0) [PV.list (List.map Ti.cs l) Tail.no, PV.bool false, PV.int IntKind.i64 (↑i : Int)] [])) : Holds (wpc br Try.prog gl TP [] (fun _ => 0) (subOf [1, 0, 1, 0] (bodyOf Try.f9)) [] (envS [0, 2, 3] [.list (l.map Ti.cs) .no, .bool false, .int .i64 i]) [] (fun ex e H => R ex (List.map e [0, 2, 3]) H)) := holds_of_eq (sml_red l i R) h
theorem sal_red (x y : List Int) (i : Nat) (R : Ex → List PV → Heap → Prop) : (br (decide ((↑i : Int) < (↑(List.length (en1 IntKind.i64 x)) : Int))) (InL (en1 IntKind.i64 x) 1 (↑i : Int) ∧ br (true && fitX [CK.int IntKind.i64] 0 (List.getD (en1 IntKind.i64 x) (Int.toNat (↑i : Int)) [])) (InL (en1 IntKind.i64 y) 1 (↑i : Int) ∧ br (true && fitX [CK.int IntKind.i64] 0 (List.getD (en1 IntKind.i64 y) (Int.toNat (↑i : Int)) [])) (br (cI (List.getD (en1 IntKind.i64 x) (Int.toNat (↑i : Int)) []) 0 != cI (List.getD (en1 IntKind.i64 y) (Int.toNat (↑i : Int)) []) 0) (R Ex.ret [PV.list (en1 IntKind.i64 x) Tail.no, PV.list (en1 IntKind.i64 y) Tail.no, PV.bool false, PV.int IntKind.i64 (↑i : Int)] []) (R Ex.normal [PV.list (en1 IntKind.i64 x) Tail.no, PV.list (en1 IntKind.i64 y) Tail.no, PV.bool false, PV.int IntKind.i64 (wI ((↑i : Int) + 1))] [])) False) False) (R (Ex.exit 0) [PV.list (en1 IntKind.i64 x) Tail.no, PV.list (en1 IntKind.i64 y) Tail.no, PV.bool false, PV.int IntKind.i64 (↑i : Int)] [])) = wpc br Try.prog gl TP [] (fun _ => 0) (subOf [1, 1, 0, 1, 0] (bodyOf Try.f14)) [] (envS [0, 1, 4, 5] [.list (en1 .i64 x) .no, .list (en1 .i64 y) .no, .bool false, .int .i64 i]) [] (fun ex e H => R ex (List.map e [0, 1, 4, 5]) H) := by kernel_rfl
theorem sal_vc (x y : List Int) (i : Nat) (R : Ex → List PV → Heap → Prop) (h : br (decide ((↑i : Int) < (↑(List.length (en1 IntKind.i64 x)) : Int))) (InL (en1 IntKind.i64 x) 1 (↑i : Int) ∧ br (true && fitX [CK.int IntKind.i64] 0 (List.getD (en1 IntKind.i64 x) (Int.toNat (↑i : Int)) [])) (InL (en1 IntKind.i64 y) 1 (↑i : Int) ∧ br (true && fitX [CK.int IntKind.i64] 0 (List.getD (en1 IntKind.i64 y) (Int.toNat (↑i : Int)) [])) (br (cI (List.getD (en1 IntKind.i64 x) (Int.toNat (↑i : Int)) []) 0 != cI (List.getD (en1 IntKind.i64 y) (Int.toNat (↑i : Int)) []) 0) (R Ex.ret [PV.list (en1 IntKind.i64 x) Tail.no, PV.list (en1 IntKind.i64 y) Tail.no, PV.bool false, PV.int IntKind.i64 (↑i : Int)] []) (R Ex.normal [PV.list (en1 IntKind.i64 x) Tail.no, PV.list (en1 IntKind.i64 y) Tail.no, PV.bool false, PV.int IntKind.i64 (wI ((↑i : Int) + 1))] [])) False) False) (R (Ex.exit 0) [PV.list (en1 IntKind.i64 x) Tail.no, PV.list (en1 IntKind.i64 y) Tail.no, PV.bool false, PV.int IntKind.i64 (↑i : Int)] [])) : Holds (wpc br Try.prog gl TP [] (fun _ => 0) (subOf [1, 1, 0, 1, 0] (bodyOf Try.f14)) [] (envS [0, 1, 4, 5] [.list (en1 .i64 x) .no, .list (en1 .i64 y) .no, .bool false, .int .i64 i]) [] (fun ex e H => R ex (List.map e [0, 1, 4, 5]) H)) := holds_of_eq (sal_red x y i R) h
theorem owa_red (l : List Ti)  (R : Ex → List PV → Heap → Prop) : (br (decide (0 < (↑(List.length (List.map Ti.cs l)) : Int))) (InL (List.map Ti.cs l) 5 0 ∧ br (true && fitX [CK.int IntKind.u32, CK.int IntKind.i64, CK.list, CK.int IntKind.i64, CK.int IntKind.i64] 0 (List.getD (List.map Ti.cs l) 0 [])) (AppL [] (cL (List.getD (List.map Ti.cs l) 0 []) 2) 1 4 ∧ AppL [] [[PV.int IntKind.u32 (cI (List.getD (List.map Ti.cs l) 0 []) 0), PV.int IntKind.i64 (cI (List.getD (List.map Ti.cs l) 0 []) 1), PV.list ([] ++ cL (List.getD (List.map Ti.cs l) 0 []) 2) Tail.no, PV.int IntKind.i64 (cI (List.getD (List.map Ti.cs l) 0 []) 3), PV.int IntKind.i64 (cI (List.getD (List.map Ti.cs l) 0 []) 4)]] 5 56 ∧ (List.all [PV.int IntKind.u32 (cI (List.getD (List.map Ti.cs l) 0 []) 0), PV.int IntKind.i64 (cI (List.getD (List.map Ti.cs l) 0 []) 1), PV.list ([] ++ cL (List.getD (List.map Ti.cs l) 0 []) 2) Tail.no, PV.int IntKind.i64 (cI (List.getD (List.map Ti.cs l) 0 []) 3), PV.int IntKind.i64 (cI (List.getD (List.map Ti.cs l) 0 []) 4)] PV.one = true ∧ [[PV.int IntKind.u32 (cI (List.getD (List.map Ti.cs l) 0 []) 0), PV.int IntKind.i64 (cI (List.getD (List.map Ti.cs l) 0 []) 1), PV.list ([] ++ cL (List.getD (List.map Ti.cs l) 0 []) 2) Tail.no, PV.int IntKind.i64 (cI (List.getD (List.map Ti.cs l) 0 []) 3), PV.int IntKind.i64 (cI (List.getD (List.map Ti.cs l) 0 []) 4)]] ≠ []) ∧ R Ex.normal [PV.list (List.map Ti.cs l) Tail.no, PV.list [[PV.int IntKind.u32 (cI (List.getD (List.map Ti.cs l) 0 []) 0), PV.int IntKind.i64 (cI (List.getD (List.map Ti.cs l) 0 []) 1), PV.list ([] ++ cL (List.getD (List.map Ti.cs l) 0 []) 2) Tail.no, PV.int IntKind.i64 (cI (List.getD (List.map Ti.cs l) 0 []) 3), PV.int IntKind.i64 (cI (List.getD (List.map Ti.cs l) 0 []) 4)]] (Tail.tok 1), PV.int IntKind.i64 1] [Ob.cells [PV.int IntKind.u32 (cI (List.getD (List.map Ti.cs l) 0 []) 0), PV.int IntKind.i64 (cI (List.getD (List.map Ti.cs l) 0 []) 1), PV.list (cL (List.getD (List.map Ti.cs l) 0 []) 2) (cT (List.getD (List.map Ti.cs l) 0 []) 2), PV.int IntKind.i64 (cI (List.getD (List.map Ti.cs l) 0 []) 3), PV.int IntKind.i64 (cI (List.getD (List.map Ti.cs l) 0 []) 4)], Ob.tok]) False) (R (Ex.exit 0) [PV.list (List.map Ti.cs l) Tail.no, PV.list [] Tail.exact, PV.int IntKind.i64 0] [])) = wpc br Try.prog gl TP [] (fun o => match o.dst with | some 31 => 1 | _ => 0) (subOf [1, 1, 0, 1, 0] (bodyOf Try.f12)) [] (envS [0, 3, 4] [.list (l.map Ti.cs) .no, .list [] .exact, .int .i64 0]) [] (fun ex e H => R ex (List.map e [0, 3, 4]) H) := by kernel_rfl
theorem owa_vc (l : List Ti)  (R : Ex → List PV → Heap → Prop) (h : br (decide (0 < (↑(List.length (List.map Ti.cs l)) : Int))) (InL (List.map Ti.cs l) 5 0 ∧ br (true && fitX [CK.int IntKind.u32, CK.int IntKind.i64, CK.list, CK.int IntKind.i64, CK.int IntKind.i64] 0 (List.getD (List.map Ti.cs l) 0 [])) (AppL [] (cL (List.getD (List.map Ti.cs l) 0 []) 2) 1 4 ∧ AppL [] [[PV.int IntKind.u32 (cI (List.getD (List.map Ti.cs l) 0 []) 0), PV.int IntKind.i64 (cI (List.getD (List.map Ti.cs l) 0 []) 1), PV.list ([] ++ cL (List.getD (List.map Ti.cs l) 0 []) 2) Tail.no, PV.int IntKind.i64 (cI (List.getD (List.map Ti.cs l) 0 []) 3), PV.int IntKind.i64 (cI (List.getD (List.map Ti.cs l) 0 []) 4)]] 5 56 ∧ (List.all [PV.int IntKind.u32 (cI (List.getD (List.map Ti.cs l) 0 []) 0), PV.int IntKind.i64 (cI (List.getD (List.map Ti.cs l) 0 []) 1), PV.list ([] ++ cL (List.getD (List.map Ti.cs l) 0 []) 2) Tail.no, PV.int IntKind.i64 (cI (List.getD (List.map Ti.cs l) 0 []) 3), PV.int IntKind.i64 (cI (List.getD (List.map Ti.cs l) 0 []) 4)] PV.one = true ∧ [[PV.int IntKind.u32 (cI (List.getD (List.map Ti.cs l) 0 []) 0), PV.int IntKind.i64 (cI (List.getD (List.map Ti.cs l) 0 []) 1), PV.list ([] ++ cL (List.getD (List.map Ti.cs l) 0 []) 2) Tail.no, PV.int IntKind.i64 (cI (List.getD (List.map Ti.cs l) 0 []) 3), PV.int IntKind.i64 (cI (List.getD (List.map Ti.cs l) 0 []) 4)]] ≠ []) ∧ R Ex.normal [PV.list (List.map Ti.cs l) Tail.no, PV.list [[PV.int IntKind.u32 (cI (List.getD (List.map Ti.cs l) 0 []) 0), PV.int IntKind.i64 (cI (List.getD (List.map Ti.cs l) 0 []) 1), PV.list ([] ++ cL (List.getD (List.map Ti.cs l) 0 []) 2) Tail.no, PV.int IntKind.i64 (cI (List.getD (List.map Ti.cs l) 0 []) 3), PV.int IntKind.i64 (cI (List.getD (List.map Ti.cs l) 0 []) 4)]] (Tail.tok 1), PV.int IntKind.i64 1] [Ob.cells [PV.int IntKind.u32 (cI (List.getD (List.map Ti.cs l) 0 []) 0), PV.int IntKind.i64 (cI (List.getD (List.map Ti.cs l) 0 []) 1), PV.list (cL (List.getD (List.map Ti.cs l) 0 []) 2) (cT (List.getD (List.map Ti.cs l) 0 []) 2), PV.int IntKind.i64 (cI (List.getD (List.map Ti.cs l) 0 []) 3), PV.int IntKind.i64 (cI (List.getD (List.map Ti.cs l) 0 []) 4)], Ob.tok]) False) (R (Ex.exit 0) [PV.list (List.map Ti.cs l) Tail.no, PV.list [] Tail.exact, PV.int IntKind.i64 0] [])) : Holds (wpc br Try.prog gl TP [] (fun o => match o.dst with | some 31 => 1 | _ => 0) (subOf [1, 1, 0, 1, 0] (bodyOf Try.f12)) [] (envS [0, 3, 4] [.list (l.map Ti.cs) .no, .list [] .exact, .int .i64 0]) [] (fun ex e H => R ex (List.map e [0, 3, 4]) H)) := holds_of_eq (owa_red l R) h
theorem owb_red (l x : List Ti) (i : Nat) (R : Ex → List PV → Heap → Prop) : (br (decide ((↑i : Int) < (↑(List.length (List.map Ti.cs l)) : Int))) (InL (List.map Ti.cs l) 5 (↑i : Int) ∧ br (true && fitX [CK.int IntKind.u32, CK.int IntKind.i64, CK.list, CK.int IntKind.i64, CK.int IntKind.i64] 0 (List.getD (List.map Ti.cs l) (Int.toNat (↑i : Int)) [])) (AppL [] (cL (List.getD (List.map Ti.cs l) (Int.toNat (↑i : Int)) []) 2) 1 4 ∧ AppL (List.map Ti.cs x) [[PV.int IntKind.u32 (cI (List.getD (List.map Ti.cs l) (Int.toNat (↑i : Int)) []) 0), PV.int IntKind.i64 (cI (List.getD (List.map Ti.cs l) (Int.toNat (↑i : Int)) []) 1), PV.list ([] ++ cL (List.getD (List.map Ti.cs l) (Int.toNat (↑i : Int)) []) 2) Tail.no, PV.int IntKind.i64 (cI (List.getD (List.map Ti.cs l) (Int.toNat (↑i : Int)) []) 3), PV.int IntKind.i64 (cI (List.getD (List.map Ti.cs l) (Int.toNat (↑i : Int)) []) 4)]] 5 56 ∧ (List.all [PV.int IntKind.u32 (cI (List.getD (List.map Ti.cs l) (Int.toNat (↑i : Int)) []) 0), PV.int IntKind.i64 (cI (List.getD (List.map Ti.cs l) (Int.toNat (↑i : Int)) []) 1), PV.list ([] ++ cL (List.getD (List.map Ti.cs l) (Int.toNat (↑i : Int)) []) 2) Tail.no, PV.int IntKind.i64 (cI (List.getD (List.map Ti.cs l) (Int.toNat (↑i : Int)) []) 3), PV.int IntKind.i64 (cI (List.getD (List.map Ti.cs l) (Int.toNat (↑i : Int)) []) 4)] PV.one = true ∧ [[PV.int IntKind.u32 (cI (List.getD (List.map Ti.cs l) (Int.toNat (↑i : Int)) []) 0), PV.int IntKind.i64 (cI (List.getD (List.map Ti.cs l) (Int.toNat (↑i : Int)) []) 1), PV.list ([] ++ cL (List.getD (List.map Ti.cs l) (Int.toNat (↑i : Int)) []) 2) Tail.no, PV.int IntKind.i64 (cI (List.getD (List.map Ti.cs l) (Int.toNat (↑i : Int)) []) 3), PV.int IntKind.i64 (cI (List.getD (List.map Ti.cs l) (Int.toNat (↑i : Int)) []) 4)]] ≠ []) ∧ R Ex.normal [PV.list (List.map Ti.cs l) Tail.no, PV.list (List.map Ti.cs x ++ [[PV.int IntKind.u32 (cI (List.getD (List.map Ti.cs l) (Int.toNat (↑i : Int)) []) 0), PV.int IntKind.i64 (cI (List.getD (List.map Ti.cs l) (Int.toNat (↑i : Int)) []) 1), PV.list ([] ++ cL (List.getD (List.map Ti.cs l) (Int.toNat (↑i : Int)) []) 2) Tail.no, PV.int IntKind.i64 (cI (List.getD (List.map Ti.cs l) (Int.toNat (↑i : Int)) []) 3), PV.int IntKind.i64 (cI (List.getD (List.map Ti.cs l) (Int.toNat (↑i : Int)) []) 4)]]) (Tail.tok 2), PV.int IntKind.i64 (wI ((↑i : Int) + 1))] [Ob.dead, Ob.cells [PV.int IntKind.u32 (cI (List.getD (List.map Ti.cs l) (Int.toNat (↑i : Int)) []) 0), PV.int IntKind.i64 (cI (List.getD (List.map Ti.cs l) (Int.toNat (↑i : Int)) []) 1), PV.list (cL (List.getD (List.map Ti.cs l) (Int.toNat (↑i : Int)) []) 2) (cT (List.getD (List.map Ti.cs l) (Int.toNat (↑i : Int)) []) 2), PV.int IntKind.i64 (cI (List.getD (List.map Ti.cs l) (Int.toNat (↑i : Int)) []) 3), PV.int IntKind.i64 (cI (List.getD (List.map Ti.cs l) (Int.toNat (↑i : Int)) []) 4)], Ob.tok]) False) (R (Ex.exit 0) [PV.list (List.map Ti.cs l) Tail.no, PV.list (List.map Ti.cs x) (Tail.tok 0), PV.int IntKind.i64 (↑i : Int)] [Ob.tok])) = wpc br Try.prog gl TP [] (fun o => match o.dst with | some 31 => 1 | _ => 0) (subOf [1, 1, 0, 1, 0] (bodyOf Try.f12)) [] (envS [0, 3, 4] [.list (l.map Ti.cs) .no, .list (x.map Ti.cs) (.tok 0), .int .i64 i]) [.tok] (fun ex e H => R ex (List.map e [0, 3, 4]) H) := by kernel_rfl
theorem owb_vc (l x : List Ti) (i : Nat) (R : Ex → List PV → Heap → Prop) (h : br (decide ((↑i : Int) < (↑(List.length (List.map Ti.cs l)) : Int))) (InL (List.map Ti.cs l) 5 (↑i : Int) ∧ br (true && fitX [CK.int IntKind.u32, CK.int IntKind.i64, CK.list, CK.int IntKind.i64, CK.int IntKind.i64] 0 (List.getD (List.map Ti.cs l) (Int.toNat (↑i : Int)) [])) (AppL [] (cL (List.getD (List.map Ti.cs l) (Int.toNat (↑i : Int)) []) 2) 1 4 ∧ AppL (List.map Ti.cs x) [[PV.int IntKind.u32 (cI (List.getD (List.map Ti.cs l) (Int.toNat (↑i : Int)) []) 0), PV.int IntKind.i64 (cI (List.getD (List.map Ti.cs l) (Int.toNat (↑i : Int)) []) 1), PV.list ([] ++ cL (List.getD (List.map Ti.cs l) (Int.toNat (↑i : Int)) []) 2) Tail.no, PV.int IntKind.i64 (cI (List.getD (List.map Ti.cs l) (Int.toNat (↑i : Int)) []) 3), PV.int IntKind.i64 (cI (List.getD (List.map Ti.cs l) (Int.toNat (↑i : Int)) []) 4)]] 5 56 ∧ (List.all [PV.int IntKind.u32 (cI (List.getD (List.map Ti.cs l) (Int.toNat (↑i : Int)) []) 0), PV.int IntKind.i64 (cI (List.getD (List.map Ti.cs l) (Int.toNat (↑i : Int)) []) 1), PV.list ([] ++ cL (List.getD (List.map Ti.cs l) (Int.toNat (↑i : Int)) []) 2) Tail.no, PV.int IntKind.i64 (cI (List.getD (List.map Ti.cs l) (Int.toNat (↑i : Int)) []) 3), PV.int IntKind.i64 (cI (List.getD (List.map Ti.cs l) (Int.toNat (↑i : Int)) []) 4)] PV.one = true ∧ [[PV.int IntKind.u32 (cI (List.getD (List.map Ti.cs l) (Int.toNat (↑i : Int)) []) 0), PV.int IntKind.i64 (cI (List.getD (List.map Ti.cs l) (Int.toNat (↑i : Int)) []) 1), PV.list ([] ++ cL (List.getD (List.map Ti.cs l) (Int.toNat (↑i : Int)) []) 2) Tail.no, PV.int IntKind.i64 (cI (List.getD (List.map Ti.cs l) (Int.toNat (↑i : Int)) []) 3), PV.int IntKind.i64 (cI (List.getD (List.map Ti.cs l) (Int.toNat (↑i : Int)) []) 4)]] ≠ []) ∧ R Ex.normal [PV.list (List.map Ti.cs l) Tail.no, PV.list (List.map Ti.cs x ++ [[PV.int IntKind.u32 (cI (List.getD (List.map Ti.cs l) (Int.toNat (↑i : Int)) []) 0), PV.int IntKind.i64 (cI (List.getD (List.map Ti.cs l) (Int.toNat (↑i : Int)) []) 1), PV.list ([] ++ cL (List.getD (List.map Ti.cs l) (Int.toNat (↑i : Int)) []) 2) Tail.no, PV.int IntKind.i64 (cI (List.getD (List.map Ti.cs l) (Int.toNat (↑i : Int)) []) 3), PV.int IntKind.i64 (cI (List.getD (List.map Ti.cs l) (Int.toNat (↑i : Int)) []) 4)]]) (Tail.tok 2), PV.int IntKind.i64 (wI ((↑i : Int) + 1))] [Ob.dead, Ob.cells [PV.int IntKind.u32 (cI (List.getD (List.map Ti.cs l) (Int.toNat (↑i : Int)) []) 0), PV.int IntKind.i64 (cI (List.getD (List.map Ti.cs l) (Int.toNat (↑i : Int)) []) 1), PV.list (cL (List.getD (List.map Ti.cs l) (Int.toNat (↑i : Int)) []) 2) (cT (List.getD (List.map Ti.cs l) (Int.toNat (↑i : Int)) []) 2), PV.int IntKind.i64 (cI (List.getD (List.map Ti.cs l) (Int.toNat (↑i : Int)) []) 3), PV.int IntKind.i64 (cI (List.getD (List.map Ti.cs l) (Int.toNat (↑i : Int)) []) 4)], Ob.tok]) False) (R (Ex.exit 0) [PV.list (List.map Ti.cs l) Tail.no, PV.list (List.map Ti.cs x) (Tail.tok 0), PV.int IntKind.i64 (↑i : Int)] [Ob.tok])) : Holds (wpc br Try.prog gl TP [] (fun o => match o.dst with | some 31 => 1 | _ => 0) (subOf [1, 1, 0, 1, 0] (bodyOf Try.f12)) [] (envS [0, 3, 4] [.list (l.map Ti.cs) .no, .list (x.map Ti.cs) (.tok 0), .int .i64 i]) [.tok] (fun ex e H => R ex (List.map e [0, 3, 4]) H)) := holds_of_eq (owb_red l x i R) h
def smallS (l : List Ti) : Bool := l.all (fun t => decide (t.Ps.length ≤ 10))
def jn_l : LSp := fun e H Q => ∃ (m : Mo) (n : Int) (t : Ti) (l : List Ti), in64 n ∧ NT t.Pt ∧ in64 t.Since ∧ LsOk l ∧ SlIs (List.map e [1, 4, 6, 8, 11, 12, 13]) [.int .i64 n, .ptr 0 0, .ptr 1 0, .bool false, .list (l.map Ti.cs) .no, .int .i64 l.length, .int .i64 0] ∧ HpIs H [.cells m.cs, .cells t.cs] ∧
  (l.all (nearT m n t) = true → Q (.exit 0) (envS [1, 4, 6, 8, 11, 12, 13] [.int .i64 n, .ptr 0 0, .ptr 1 0, .bool false, .list (l.map Ti.cs) .no, .int .i64 l.length, .int .i64 l.length]) [.cells m.cs, .cells t.cs]) ∧
  (l.all (nearT m n t) = false → ∀ q : Nat × Ti, Q .ret (envS [1, 4, 6, 8, 11, 12, 13] [.int .i64 n, .ptr 0 0, .ptr 1 0, .bool false, .list (l.map Ti.cs) .no, .int .i64 l.length, .int .i64 q.1]) [.cells m.cs, .cells t.cs, .cells q.2.cs])
def sm_l : LSp := fun e H Q => ∃ (l : List Ti), l.length ≤ 20 ∧ SlIs (List.map e [0, 2, 3]) [.list (l.map Ti.cs) .no, .bool false, .int .i64 0] ∧ HpIs H [] ∧
  (smallS l = true → Q (.exit 0) (envS [0, 2, 3] [.list (l.map Ti.cs) .no, .bool false, .int .i64 l.length]) []) ∧
  (smallS l = false → ∀ q : Nat, Q .ret (envS [0, 2, 3] [.list (l.map Ti.cs) .no, .bool false, .int .i64 q]) [])
def sa_l : LSp := fun e H Q => ∃ (x y : List Int), x.length = y.length ∧ x.length ≤ 1000 ∧ SlIs (List.map e [0, 1, 4, 5]) [.list (en1 .i64 x) .no, .list (en1 .i64 y) .no, .bool false, .int .i64 0] ∧ HpIs H [] ∧
  (x = y → Q (.exit 0) (envS [0, 1, 4, 5] [.list (en1 .i64 x) .no, .list (en1 .i64 y) .no, .bool false, .int .i64 x.length]) []) ∧
  (x ≠ y → ∀ q : Nat, Q .ret (envS [0, 1, 4, 5] [.list (en1 .i64 x) .no, .list (en1 .i64 y) .no, .bool false, .int .i64 q]) [])
theorem jn_l_ok : ∀ e H Q, jn_l e H Q → AW Try.prog gl Try.f34.ntmps (.loop (subOf [1, 0, 1, 0] (bodyOf Try.f34))) Q e H := by
  rintro e H Q ⟨m, n, t, l, hn, ht, hs, hl, he, hH, hy, hno⟩
  have hlen := hl.1
  refine aw_loop4 (hn := fun _ => 0) gl_low TP_ok (.nil _ _ _ _ _) (σ := Nat) [1, 4, 6, 8, 11, 12, 13] (fun i => i ≤ l.length ∧ l.all (nearT m n t) = (l.drop i).all (nearT m n t))
    (fun i => [.int .i64 n, .ptr 0 0, .ptr 1 0, .bool false, .list (l.map Ti.cs) .no, .int .i64 l.length, .int .i64 i]) (fun _ => [.cells m.cs, .cells t.cs]) (fun i => l.length - i) 0 ⟨Nat.zero_le _, rfl⟩ he hH ?_
  rintro i ⟨h1, h2⟩
  refine jnl_vc m n t l i _ ?_
  simp only [br_if, dt, toNat_nat, inL_ti]
  by_cases h : i < l.length
  · rw [if_pos (by omega)]
    simp only [getD_map Ti.zero h, ti_f, ti_c]
    refine ⟨h, ?_⟩
    rw [if_pos (by rfl : (true && true) = true)]
    rw [drop_cons Ti.zero h, List.all_cons] at h2
    have hm := hl.mem h
    refine ⟨m, n, t, l.getD i Ti.zero, rfl, hn, ht, hm.1, hs, hm.2.2, ?_⟩
    generalize l.getD i Ti.zero = y at *
    cases c : nearT m n t y with
    | false =>
      rw [c, Bool.false_and] at h2
      rw [if_pos (by rfl)]
      exact hno h2 (i, y)
    | true =>
      rw [c, Bool.true_and] at h2
      rw [if_neg (by decide)]
      refine ⟨i + 1, (show l.length - (i + 1) < l.length - i by omega), ⟨by omega, h2⟩, by rw [wI_succ h (by omega)], [.cells y.cs], rfl, Nat.le_refl _, .inr ⟨?_, ?_⟩⟩
      · intro v hv
        simp only [List.mem_cons, List.not_mem_nil, or_false] at hv
        rcases hv with rfl | rfl | rfl | rfl | rfl | rfl | rfl <;> first | exact .int _ _ | exact .bool _ | exact .ptr _ _ (by simp) | exact low_list NT.no (low_ls hl)
      · intro o cs ho
        have : o = 0 ∨ o = 1 := by have := (List.getElem?_eq_some_iff.1 ho).1; simp at this; omega
        rcases this with rfl | rfl
        · cases ho; exact low_mo m
        · cases ho; exact low_ti ht
  · rw [if_neg (by omega)]
    rw [drop_all h] at h2
    have : i = l.length := by omega
    subst this
    exact hy h2
theorem sm_l_ok : ∀ e H Q, sm_l e H Q → AW Try.prog gl Try.f9.ntmps (.loop (subOf [1, 0, 1, 0] (bodyOf Try.f9))) Q e H := by
  rintro e H Q ⟨l, hlen, he, hH, hy, hno⟩
  refine aw_loop4 (hn := fun _ => 0) gl_low TP_ok (.nil _ _ _ _ _) (σ := Nat) [0, 2, 3] (fun i => i ≤ l.length ∧ smallS l = smallS (l.drop i))
    (fun i => [.list (l.map Ti.cs) .no, .bool false, .int .i64 i]) (fun _ => []) (fun i => l.length - i) 0 ⟨Nat.zero_le _, rfl⟩ he hH ?_
  rintro i ⟨h1, h2⟩
  refine sml_vc l i _ ?_
  simp only [br_if, dt, List.length_map, toNat_nat, inL_ti]
  by_cases h : i < l.length
  · rw [if_pos (by omega)]
    simp only [getD_map Ti.zero h, ti_f, ti_d, en1_length]
    refine ⟨h, ?_⟩
    rw [if_pos (by rfl : (true && true) = true)]
    rw [drop_cons Ti.zero h] at h2
    unfold smallS at h2
    rw [List.all_cons] at h2
    by_cases c : (l.getD i Ti.zero).Ps.length ≤ 10
    · rw [if_neg (by omega)]
      rw [decide_eq_true c, Bool.true_and] at h2
      exact ⟨i + 1, (show l.length - (i + 1) < l.length - i by omega), ⟨by omega, h2⟩, by rw [wI_succ h (by omega)], [], rfl, Nat.le_refl _, .inl rfl⟩
    · rw [if_pos (by omega)]
      rw [decide_eq_false c, Bool.false_and] at h2
      exact hno h2 i
  · rw [if_neg (by omega)]
    rw [drop_all h] at h2
    have : i = l.length := by omega
    subst this
    exact hy h2
theorem sa_l_ok : ∀ e H Q, sa_l e H Q → AW Try.prog gl Try.f14.ntmps (.loop (subOf [1, 1, 0, 1, 0] (bodyOf Try.f14))) Q e H := by
  rintro e H Q ⟨x, y, hxy, hlen, he, hH, hy, hno⟩
  refine aw_loop4 (hn := fun _ => 0) gl_low TP_ok (.nil _ _ _ _ _) (σ := Nat) [0, 1, 4, 5] (fun i => i ≤ x.length ∧ (x = y ↔ x.drop i = y.drop i))
    (fun i => [.list (en1 .i64 x) .no, .list (en1 .i64 y) .no, .bool false, .int .i64 i]) (fun _ => []) (fun i => x.length - i) 0 ⟨Nat.zero_le _, Iff.rfl⟩ he hH ?_
  rintro i ⟨h1, h2⟩
  refine sal_vc x y i _ ?_
  simp only [br_if, dt, en1_length, toNat_nat, inL_en1]
  by_cases h : i < x.length
  · rw [if_pos (by omega)]
    simp only [en1_get .i64 x i h, en1_get .i64 y i (show i < y.length by omega), fit_en1, cI_en1]
    refine ⟨h, ?_⟩
    rw [if_pos (by rfl : (true && true) = true)]
    refine ⟨by omega, ?_⟩
    rw [if_pos (by rfl : (true && true) = true)]
    rw [drop_cons 0 h, drop_cons 0 (show i < y.length by omega), List.cons.injEq] at h2
    simp only [bne_I]
    by_cases c : x.getD i 0 = y.getD i 0
    · rw [if_neg (fun k => k c)]
      exact ⟨i + 1, (show x.length - (i + 1) < x.length - i by omega), ⟨by omega, h2.trans ⟨fun k => k.2, fun k => ⟨c, k⟩⟩⟩, by rw [wI_succ h (by omega)], [], rfl, Nat.le_refl _, .inl rfl⟩
    · rw [if_pos c]
      exact hno (fun k => c (h2.1 k).1) i
  · rw [if_neg (by omega)]
    have : i = x.length := by omega
    subst this
    exact hy (h2.2 (by rw [List.drop_length, hxy, List.drop_length]))
def PtNo (l : List Ti) : Prop := (∀ t ∈ l, t.Pt = .no ∧ t.Ps.length ≤ 10) ∧ l.length ≤ 20
def ow_l : LSp := fun e H Q => ∃ l : List Ti, PtNo l ∧ SlIs (List.map e [0, 3, 4]) [.list (l.map Ti.cs) .no, .list [] .exact, .int .i64 0] ∧ HpIs H [] ∧
  Q (.exit 0) (envS [0, 3, 4] [.list (l.map Ti.cs) .no, .list (l.map Ti.cs) .no, .int .i64 l.length]) [.dead]
theorem ow_l_ok : ∀ e H Q, ow_l e H Q → AW Try.prog gl Try.f12.ntmps (.loop (subOf [1, 1, 0, 1, 0] (bodyOf Try.f12))) Q e H := by
  rintro e H Q ⟨l, hp, he, hH, hQ⟩
  have hp' := hp.1
  have hll : l.length ≤ 20 := hp.2
  have hH2 : H = [] := hH
  have hlow : ∀ v ∈ (l.map Ti.cs).flatten, Low 0 v := low_map fun b hb => low_ti (by rw [(hp' b hb).1]; exact NT.no)
  refine aw_grow (f := Ti.cs) (T := l) (hn := fun o => match o.dst with | some 31 => 1 | _ => 0) gl_low TP_ok (.nil _ _ _ _ _) [0, 3, 4] (fun r i => [.list (l.map Ti.cs) .no, r, .int .i64 i]) []
    (by intro o cs ho; simp at ho) (fun b hb => low_ti (by rw [(hp' b hb).1]; exact NT.no)) (fun es i k h => .same (low_list NT.no hlow) (.row h (.same (.int _ _) .nil))) he hH2 ?_ ?_
  · refine owa_vc l _ ?_
    simp only [br_if, dt, List.length_map]
    by_cases h : 0 < l.length
    · rw [if_pos (by omega), show (0 : Int) = ((0 : Nat) : Int) from rfl, inL_ti, getD_map Ti.zero h]
      have hq := hp' _ (getD_mem (d := Ti.zero) h)
      simp only [ti_f, ti_c]
      refine ⟨h, ?_⟩
      rw [if_pos (by rfl : (true && true) = true)]
      refine ⟨appL_ps _ (by omega), ⟨by intro e he; simp at he, by intro e he; simp at he; subst he; rfl, by simp⟩, ⟨by rfl, by simp⟩, h, _, 1, rfl, rfl, by simp, ?_⟩
      rw [← ti_snoc l 0 h hq.1]; rfl
    · rw [if_neg (by omega)]
      have hm : l = [] := List.eq_nil_of_length_eq_zero (by omega)
      rw [hm] at hQ ⊢
      exact ⟨_, _, .cons (.refl _) (.cons (.list _ _) (.cons (.refl _) .nil)), pad_dead _, hQ⟩
  · intro i h0 hi
    refine owb_vc l (l.take i) i _ ?_
    simp only [br_if, dt, List.length_map, toNat_nat]
    by_cases h : i < l.length
    · rw [if_pos (by omega), inL_ti, getD_map Ti.zero h]
      have hq := hp' _ (getD_mem (d := Ti.zero) h)
      simp only [ti_f, ti_c]
      refine ⟨h, ?_⟩
      rw [if_pos (by rfl : (true && true) = true)]
      refine ⟨appL_ps _ (by omega), ⟨uni_map Ti.cs_len _, by intro e he; simp at he; subst he; rfl, by simp; omega⟩, ⟨by rfl, by simp⟩, h, _, 2, rfl, rfl, by simp, ?_⟩
      rw [ti_snoc l i h hq.1, wI_succ h (by omega)]
    · rw [if_neg (by omega)]
      have hm : i = l.length := by omega
      subst hm
      rw [List.take_length]
      exact ⟨_, _, .cons (.refl _) (.cons (.list _ _) (.cons (.refl _) .nil)), pad_kill [] .tok, hQ⟩
theorem joins_red (m : Mo) (n : Int) (t : Ti) (l : List Ti) (K : PV → Prop) : (∃ (m_1 : Mo), ∃ (n_1 : Int), ∃ (t_1 : Ti), ∃ (l_1 : List Ti), in64 n_1 ∧ NT (Ti.Pt t_1) ∧ in64 (Ti.Since t_1) ∧ LsOk l_1 ∧ SlIs [PV.int IntKind.i64 n, PV.ptr 0 0, PV.ptr 1 0, PV.bool false, PV.list (List.map Ti.cs l) Tail.no, PV.int IntKind.i64 (↑(List.length (List.map Ti.cs l)) : Int), PV.int IntKind.i64 0] [PV.int IntKind.i64 n_1, PV.ptr 0 0, PV.ptr 1 0, PV.bool false, PV.list (List.map Ti.cs l_1) Tail.no, PV.int IntKind.i64 (↑(List.length l_1) : Int), PV.int IntKind.i64 0] ∧ HpIs [Ob.cells [PV.int IntKind.i64 (Mo.K m), PV.int IntKind.i64 (Mo.Base m), PV.int IntKind.i64 (Mo.Step m), PV.int IntKind.i64 (Mo.Cap m), PV.int IntKind.i64 (Mo.Every m)], Ob.cells [PV.int IntKind.u32 (Ti.Id t), PV.int IntKind.i64 (Ti.Mode t), PV.list (en1 IntKind.u32 (Ti.Ps t)) (Ti.Pt t), PV.int IntKind.i64 (Ti.Rating t), PV.int IntKind.i64 (Ti.Since t)]] [Ob.cells [PV.int IntKind.i64 (Mo.K m_1), PV.int IntKind.i64 (Mo.Base m_1), PV.int IntKind.i64 (Mo.Step m_1), PV.int IntKind.i64 (Mo.Cap m_1), PV.int IntKind.i64 (Mo.Every m_1)], Ob.cells [PV.int IntKind.u32 (Ti.Id t_1), PV.int IntKind.i64 (Ti.Mode t_1), PV.list (en1 IntKind.u32 (Ti.Ps t_1)) (Ti.Pt t_1), PV.int IntKind.i64 (Ti.Rating t_1), PV.int IntKind.i64 (Ti.Since t_1)]] ∧ (List.all l_1 (nearT m_1 n_1 t_1) = true → K (PV.bool true)) ∧ (List.all l_1 (nearT m_1 n_1 t_1) = false → ∀ (_ : Nat × Ti), K (PV.bool false))) = wpc br Try.prog gl TP [([1, 0, 1, 0], jn_l)] (fun _ => 0) (bodyOf Try.f34) [] (env0 [m.pv, .int .i64 n, t.pv, .list (l.map Ti.cs) .no]) [] (resQ Try.prog Try.f34.results.toList (fun x _ => K x)) := by kernel_rfl
theorem joins_vc (m : Mo) (n : Int) (t : Ti) (l : List Ti) (K : PV → Prop) (h : ∃ (m_1 : Mo), ∃ (n_1 : Int), ∃ (t_1 : Ti), ∃ (l_1 : List Ti), in64 n_1 ∧ NT (Ti.Pt t_1) ∧ in64 (Ti.Since t_1) ∧ LsOk l_1 ∧ SlIs [PV.int IntKind.i64 n, PV.ptr 0 0, PV.ptr 1 0, PV.bool false, PV.list (List.map Ti.cs l) Tail.no, PV.int IntKind.i64 (↑(List.length (List.map Ti.cs l)) : Int), PV.int IntKind.i64 0] [PV.int IntKind.i64 n_1, PV.ptr 0 0, PV.ptr 1 0, PV.bool false, PV.list (List.map Ti.cs l_1) Tail.no, PV.int IntKind.i64 (↑(List.length l_1) : Int), PV.int IntKind.i64 0] ∧ HpIs [Ob.cells [PV.int IntKind.i64 (Mo.K m), PV.int IntKind.i64 (Mo.Base m), PV.int IntKind.i64 (Mo.Step m), PV.int IntKind.i64 (Mo.Cap m), PV.int IntKind.i64 (Mo.Every m)], Ob.cells [PV.int IntKind.u32 (Ti.Id t), PV.int IntKind.i64 (Ti.Mode t), PV.list (en1 IntKind.u32 (Ti.Ps t)) (Ti.Pt t), PV.int IntKind.i64 (Ti.Rating t), PV.int IntKind.i64 (Ti.Since t)]] [Ob.cells [PV.int IntKind.i64 (Mo.K m_1), PV.int IntKind.i64 (Mo.Base m_1), PV.int IntKind.i64 (Mo.Step m_1), PV.int IntKind.i64 (Mo.Cap m_1), PV.int IntKind.i64 (Mo.Every m_1)], Ob.cells [PV.int IntKind.u32 (Ti.Id t_1), PV.int IntKind.i64 (Ti.Mode t_1), PV.list (en1 IntKind.u32 (Ti.Ps t_1)) (Ti.Pt t_1), PV.int IntKind.i64 (Ti.Rating t_1), PV.int IntKind.i64 (Ti.Since t_1)]] ∧ (List.all l_1 (nearT m_1 n_1 t_1) = true → K (PV.bool true)) ∧ (List.all l_1 (nearT m_1 n_1 t_1) = false → ∀ (_ : Nat × Ti), K (PV.bool false))) : ACalls Try.prog gl 34 [m.pv, .int .i64 n, t.pv, .list (l.map Ti.cs) .no] [] (fun x _ => K x) :=
  acalls_of_wpc2 (T := TP) (L := [([1, 0, 1, 0], jn_l)]) (fun _ => 0) Try.func34 (by kernel_rfl) (by kernel_rfl) (by kernel_rfl) (TP_ok) (.cons (sub_of (by kernel_rfl)) jn_l_ok (.nil _ _ _ _ _)) (holds_of_eq (joins_red m n t l K) h)
theorem small_red (l : List Ti) (K : PV → Prop) : (∃ (l_1 : List Ti), List.length l_1 ≤ 20 ∧ SlIs [PV.list (List.map Ti.cs l) Tail.no, PV.bool false, PV.int IntKind.i64 0] [PV.list (List.map Ti.cs l_1) Tail.no, PV.bool false, PV.int IntKind.i64 0] ∧ HpIs [] [] ∧ (smallS l_1 = true → K (PV.bool true)) ∧ (smallS l_1 = false → ∀ (_ : Nat), K (PV.bool false))) = wpc br Try.prog gl TP [([1, 0, 1, 0], sm_l)] (fun _ => 0) (bodyOf Try.f9) [] (env0 [.list (l.map Ti.cs) .no]) [] (resQ Try.prog Try.f9.results.toList (fun x _ => K x)) := by kernel_rfl
theorem small_vc (l : List Ti) (K : PV → Prop) (h : ∃ (l_1 : List Ti), List.length l_1 ≤ 20 ∧ SlIs [PV.list (List.map Ti.cs l) Tail.no, PV.bool false, PV.int IntKind.i64 0] [PV.list (List.map Ti.cs l_1) Tail.no, PV.bool false, PV.int IntKind.i64 0] ∧ HpIs [] [] ∧ (smallS l_1 = true → K (PV.bool true)) ∧ (smallS l_1 = false → ∀ (_ : Nat), K (PV.bool false))) : ACalls Try.prog gl 9 [.list (l.map Ti.cs) .no] [] (fun x _ => K x) :=
  acalls_of_wpc2 (T := TP) (L := [([1, 0, 1, 0], sm_l)]) (fun _ => 0) Try.func9 (by kernel_rfl) (by kernel_rfl) (by kernel_rfl) (TP_ok) (.cons (sub_of (by kernel_rfl)) sm_l_ok (.nil _ _ _ _ _)) (holds_of_eq (small_red l K) h)
theorem same_red (x y : List Int) (K : PV → Prop) : (br ((↑(List.length (en1 IntKind.i64 x)) : Int) != (↑(List.length (en1 IntKind.i64 y)) : Int)) (K (PV.bool false)) (∃ (x_1 : List Int), ∃ (y_1 : List Int), List.length x_1 = List.length y_1 ∧ List.length x_1 ≤ 1000 ∧ SlIs [PV.list (en1 IntKind.i64 x) Tail.no, PV.list (en1 IntKind.i64 y) Tail.no, PV.bool false, PV.int IntKind.i64 0] [PV.list (en1 IntKind.i64 x_1) Tail.no, PV.list (en1 IntKind.i64 y_1) Tail.no, PV.bool false, PV.int IntKind.i64 0] ∧ HpIs [] [] ∧ (x_1 = y_1 → K (PV.bool true)) ∧ (x_1 ≠ y_1 → ∀ (_ : Nat), K (PV.bool false)))) = wpc br Try.prog gl TP [([1, 1, 0, 1, 0], sa_l)] (fun _ => 0) (bodyOf Try.f14) [] (env0 [.list (en1 .i64 x) .no, .list (en1 .i64 y) .no]) [] (resQ Try.prog Try.f14.results.toList (fun x _ => K x)) := by kernel_rfl
theorem same_vc (x y : List Int) (K : PV → Prop) (h : br ((↑(List.length (en1 IntKind.i64 x)) : Int) != (↑(List.length (en1 IntKind.i64 y)) : Int)) (K (PV.bool false)) (∃ (x_1 : List Int), ∃ (y_1 : List Int), List.length x_1 = List.length y_1 ∧ List.length x_1 ≤ 1000 ∧ SlIs [PV.list (en1 IntKind.i64 x) Tail.no, PV.list (en1 IntKind.i64 y) Tail.no, PV.bool false, PV.int IntKind.i64 0] [PV.list (en1 IntKind.i64 x_1) Tail.no, PV.list (en1 IntKind.i64 y_1) Tail.no, PV.bool false, PV.int IntKind.i64 0] ∧ HpIs [] [] ∧ (x_1 = y_1 → K (PV.bool true)) ∧ (x_1 ≠ y_1 → ∀ (_ : Nat), K (PV.bool false)))) : ACalls Try.prog gl 14 [.list (en1 .i64 x) .no, .list (en1 .i64 y) .no] [] (fun x _ => K x) :=
  acalls_of_wpc2 (T := TP) (L := [([1, 1, 0, 1, 0], sa_l)]) (fun _ => 0) Try.func14 (by kernel_rfl) (by kernel_rfl) (by kernel_rfl) (TP_ok) (.cons (sub_of (by kernel_rfl)) sa_l_ok (.nil _ _ _ _ _)) (holds_of_eq (same_red x y K) h)
theorem own_red (l : List Ti) (K : PV → Prop) : (∃ (l_1 : List Ti), PtNo l_1 ∧ SlIs [PV.list (List.map Ti.cs l) Tail.no, PV.list [] Tail.exact, PV.int IntKind.i64 0] [PV.list (List.map Ti.cs l_1) Tail.no, PV.list [] Tail.exact, PV.int IntKind.i64 0] ∧ HpIs [] [] ∧ K (PV.list (List.map Ti.cs l_1) Tail.no)) = wpc br Try.prog gl TP [([1, 1, 0, 1, 0], ow_l)] (fun _ => 0) (bodyOf Try.f12) [] (env0 [.list (l.map Ti.cs) .no]) [] (resQ Try.prog Try.f12.results.toList (fun x _ => K x)) := by kernel_rfl
theorem own_vc (l : List Ti) (K : PV → Prop) (h : ∃ (l_1 : List Ti), PtNo l_1 ∧ SlIs [PV.list (List.map Ti.cs l) Tail.no, PV.list [] Tail.exact, PV.int IntKind.i64 0] [PV.list (List.map Ti.cs l_1) Tail.no, PV.list [] Tail.exact, PV.int IntKind.i64 0] ∧ HpIs [] [] ∧ K (PV.list (List.map Ti.cs l_1) Tail.no)) : ACalls Try.prog gl 12 [.list (l.map Ti.cs) .no] [] (fun x _ => K x) :=
  acalls_of_wpc2 (T := TP) (L := [([1, 1, 0, 1, 0], ow_l)]) (fun _ => 0) Try.func12 (by kernel_rfl) (by kernel_rfl) (by kernel_rfl) (TP_ok) (.cons (sub_of (by kernel_rfl)) ow_l_ok (.nil _ _ _ _ _)) (holds_of_eq (own_red l K) h)
def joins_s (args : List PV) (K : PV → Prop) : Prop := ∃ (m : Mo) (n : Int) (t : Ti) (l : List Ti) (u : Tail), SlIs args [m.pv, .int .i64 n, t.pv, .list (l.map Ti.cs) u] ∧ in64 n ∧ NT t.Pt ∧ in64 t.Since ∧ LsOk l ∧ K (.bool (l.all (nearT m n t)))
def small_s (args : List PV) (K : PV → Prop) : Prop := ∃ (l : List Ti) (u : Tail), SlIs args [.list (l.map Ti.cs) u] ∧ l.length ≤ 20 ∧ (∀ t ∈ l, NT t.Pt) ∧ K (.bool (smallS l))
def same_s (args : List PV) (K : PV → Prop) : Prop := ∃ (x y : List Int) (u v : Tail), SlIs args [.list (en1 .i64 x) u, .list (en1 .i64 y) v] ∧ x.length ≤ 1000 ∧ K (.bool (decide (x = y)))
def own_s (args : List PV) (K : PV → Prop) : Prop := ∃ (l : List Ti) (u : Tail), SlIs args [.list (l.map Ti.cs) u] ∧ PtNo l ∧ K (.list (l.map Ti.cs) .no)
theorem joins_ok : SpOk Try.prog gl 34 (.pure joins_s) := by
  rintro args K ⟨m, n, t, l, u, he, hn, ht, hs, hl, hk⟩
  have he : args = _ := he
  subst he
  exact spure_w gl_low (.cons (.refl _) (.cons (.refl _) (.cons (.refl _) (.cons (.list _ _) .nil)))) (by intro v hv; simp only [List.mem_cons, List.not_mem_nil, or_false] at hv; rcases hv with rfl | rfl | rfl | rfl; exact low_mpv m; exact .int _ _; exact low_tpv ht; exact low_list NT.no (low_ls hl)) (.bool _)
    (joins_vc m n t l (fun v => v = .bool (l.all (nearT m n t))) ⟨m, n, t, l, hn, ht, hs, hl, by simp only [List.length_map]; rfl, rfl, fun h => by rw [h], fun h _ => by rw [h]⟩) hk
theorem small_ok : SpOk Try.prog gl 9 (.pure small_s) := by
  rintro args K ⟨l, u, he, hl, ht, hk⟩
  have he : args = _ := he
  subst he
  exact spure_w gl_low (.cons (.list _ _) .nil) (by intro v hv; simp only [List.mem_cons, List.not_mem_nil, or_false] at hv; subst hv; exact low_list NT.no (low_map fun a ha => low_ti (ht a ha))) (.bool _)
    (small_vc l (fun v => v = .bool (smallS l)) ⟨l, hl, rfl, rfl, fun h => by rw [h], fun h _ => by rw [h]⟩) hk
theorem same_ok : SpOk Try.prog gl 14 (.pure same_s) := by
  rintro args K ⟨x, y, u, v, he, hl, hk⟩
  have he : args = _ := he
  subst he
  refine spure_w gl_low (.cons (.list _ _) (.cons (.list _ _) .nil)) (by intro v hv; simp only [List.mem_cons, List.not_mem_nil, or_false] at hv; rcases hv with rfl | rfl <;> exact low_list1 NT.no) (.bool _)
    (same_vc x y (fun v => v = .bool (decide (x = y))) ?_) hk
  simp only [br_if, bne_I, en1_length]
  by_cases c : x.length = y.length
  · rw [if_neg (by omega)]
    exact ⟨x, y, c, hl, rfl, rfl, fun h => by rw [decide_eq_true h], fun h _ => by rw [decide_eq_false h]⟩
  · rw [if_pos (by omega), decide_eq_false (fun h => c (by rw [h]))]
theorem own_ok : SpOk Try.prog gl 12 (.pure own_s) := by
  rintro args K ⟨l, u, he, hp, hk⟩
  have he : args = _ := he
  subst he
  have hlow : ∀ v ∈ (l.map Ti.cs).flatten, Low 0 v := low_map fun b hb => low_ti (by rw [(hp.1 b hb).1]; exact NT.no)
  exact spure_w gl_low (.cons (.list _ _) .nil) (by intro v hv; simp only [List.mem_cons, List.not_mem_nil, or_false] at hv; subst hv; exact low_list NT.no hlow) (low_list NT.no hlow)
    (own_vc l (fun v => v = .list (l.map Ti.cs) .no) ⟨l, hp, rfl, rfl, rfl⟩) hk
def TO : Tab := (34, .pure joins_s) :: (9, .pure small_s) :: (14, .pure same_s) :: (12, .pure own_s) :: TP
theorem TO_ok : TabOk Try.prog gl TO := .cons joins_ok (.cons small_ok (.cons same_ok (.cons own_ok TP_ok)))
theorem fpl_red (m : Mo) (n : Int) (l : List Ti) (i : Nat) (R : Ex → List PV → Heap → Prop) : (br (decide ((↑i : Int) < (↑(List.length l) : Int))) (InL (List.map Ti.cs l) 5 (↑i : Int) ∧ br (true && fitX [CK.int IntKind.u32, CK.int IntKind.i64, CK.list, CK.int IntKind.i64, CK.int IntKind.i64] 0 (List.getD (List.map Ti.cs l) (Int.toNat (↑i : Int)) [])) ((iI 0 ≤ 0 ∧ 0 ≤ (↑i : Int) ∧ (↑i : Int) ≤ (↑(List.length (List.map Ti.cs l)) : Int) ∧ (↑(List.length (List.map Ti.cs l)) : Int) ≤ (↑(List.length (List.map Ti.cs l)) : Int) ∧ uni 5 (List.map Ti.cs l)) ∧ ∃ (m_1 : Mo), ∃ (n_1 : Int), ∃ (t : Ti), ∃ (l_1 : List Ti), ∃ (u : Tail), SlIs [PV.agg [PV.int IntKind.i64 (Mo.K m), PV.int IntKind.i64 (Mo.Base m), PV.int IntKind.i64 (Mo.Step m), PV.int IntKind.i64 (Mo.Cap m), PV.int IntKind.i64 (Mo.Every m)], PV.int IntKind.i64 n, PV.agg [PV.int IntKind.u32 (cI (List.getD (List.map Ti.cs l) (Int.toNat (↑i : Int)) []) 0), PV.int IntKind.i64 (cI (List.getD (List.map Ti.cs l) (Int.toNat (↑i : Int)) []) 1), PV.list (cL (List.getD (List.map Ti.cs l) (Int.toNat (↑i : Int)) []) 2) (cT (List.getD (List.map Ti.cs l) (Int.toNat (↑i : Int)) []) 2), PV.int IntKind.i64 (cI (List.getD (List.map Ti.cs l) (Int.toNat (↑i : Int)) []) 3), PV.int IntKind.i64 (cI (List.getD (List.map Ti.cs l) (Int.toNat (↑i : Int)) []) 4)], PV.list (List.drop 0 (List.take (Int.toNat (↑i : Int)) (List.map Ti.cs l))) Tail.no] [PV.agg [PV.int IntKind.i64 (Mo.K m_1), PV.int IntKind.i64 (Mo.Base m_1), PV.int IntKind.i64 (Mo.Step m_1), PV.int IntKind.i64 (Mo.Cap m_1), PV.int IntKind.i64 (Mo.Every m_1)], PV.int IntKind.i64 n_1, PV.agg [PV.int IntKind.u32 (Ti.Id t), PV.int IntKind.i64 (Ti.Mode t), PV.list (en1 IntKind.u32 (Ti.Ps t)) (Ti.Pt t), PV.int IntKind.i64 (Ti.Rating t), PV.int IntKind.i64 (Ti.Since t)], PV.list (List.map Ti.cs l_1) u] ∧ in64 n_1 ∧ NT (Ti.Pt t) ∧ in64 (Ti.Since t) ∧ LsOk l_1 ∧ br (!List.all l_1 (nearT m_1 n_1 t)) (R Ex.ret [PV.int IntKind.i64 n, PV.list (List.map Ti.cs l) Tail.no, PV.ptr 0 0, PV.bool false, PV.list (List.map Ti.cs l) Tail.no, PV.int IntKind.i64 (↑(List.length l) : Int), PV.int IntKind.i64 (↑i : Int)] [Ob.cells [PV.int IntKind.i64 (Mo.K m), PV.int IntKind.i64 (Mo.Base m), PV.int IntKind.i64 (Mo.Step m), PV.int IntKind.i64 (Mo.Cap m), PV.int IntKind.i64 (Mo.Every m)], Ob.cells [PV.int IntKind.u32 (cI (List.getD (List.map Ti.cs l) (Int.toNat (↑i : Int)) []) 0), PV.int IntKind.i64 (cI (List.getD (List.map Ti.cs l) (Int.toNat (↑i : Int)) []) 1), PV.list (cL (List.getD (List.map Ti.cs l) (Int.toNat (↑i : Int)) []) 2) (cT (List.getD (List.map Ti.cs l) (Int.toNat (↑i : Int)) []) 2), PV.int IntKind.i64 (cI (List.getD (List.map Ti.cs l) (Int.toNat (↑i : Int)) []) 3), PV.int IntKind.i64 (cI (List.getD (List.map Ti.cs l) (Int.toNat (↑i : Int)) []) 4)]]) (R Ex.normal [PV.int IntKind.i64 n, PV.list (List.map Ti.cs l) Tail.no, PV.ptr 0 0, PV.bool false, PV.list (List.map Ti.cs l) Tail.no, PV.int IntKind.i64 (↑(List.length l) : Int), PV.int IntKind.i64 (wI ((↑i : Int) + 1))] [Ob.cells [PV.int IntKind.i64 (Mo.K m), PV.int IntKind.i64 (Mo.Base m), PV.int IntKind.i64 (Mo.Step m), PV.int IntKind.i64 (Mo.Cap m), PV.int IntKind.i64 (Mo.Every m)], Ob.cells [PV.int IntKind.u32 (cI (List.getD (List.map Ti.cs l) (Int.toNat (↑i : Int)) []) 0), PV.int IntKind.i64 (cI (List.getD (List.map Ti.cs l) (Int.toNat (↑i : Int)) []) 1), PV.list (cL (List.getD (List.map Ti.cs l) (Int.toNat (↑i : Int)) []) 2) (cT (List.getD (List.map Ti.cs l) (Int.toNat (↑i : Int)) []) 2), PV.int IntKind.i64 (cI (List.getD (List.map Ti.cs l) (Int.toNat (↑i : Int)) []) 3), PV.int IntKind.i64 (cI (List.getD (List.map Ti.cs l) (Int.toNat (↑i : Int)) []) 4)]])) False) (R (Ex.exit 0) [PV.int IntKind.i64 n, PV.list (List.map Ti.cs l) Tail.no, PV.ptr 0 0, PV.bool false, PV.list (List.map Ti.cs l) Tail.no, PV.int IntKind.i64 (↑(List.length l) : Int), PV.int IntKind.i64 (↑i : Int)] [Ob.cells [PV.int IntKind.i64 (Mo.K m), PV.int IntKind.i64 (Mo.Base m), PV.int IntKind.i64 (Mo.Step m), PV.int IntKind.i64 (Mo.Cap m), PV.int IntKind.i64 (Mo.Every m)]])) = wpc br Try.prog gl TO [] (fun _ => 0) (subOf [1, 1, 0, 1, 0] (bodyOf Try.f23)) [] (envS [1, 2, 3, 6, 12, 13, 14] [.int .i64 n, .list (l.map Ti.cs) .no, .ptr 0 0, .bool false, .list (l.map Ti.cs) .no, .int .i64 l.length, .int .i64 i]) [.cells m.cs] (fun ex e H => R ex (List.map e [1, 2, 3, 6, 12, 13, 14]) H) := by kernel_rfl
theorem fpl_vc (m : Mo) (n : Int) (l : List Ti) (i : Nat) (R : Ex → List PV → Heap → Prop) (h : br (decide ((↑i : Int) < (↑(List.length l) : Int))) (InL (List.map Ti.cs l) 5 (↑i : Int) ∧ br (true && fitX [CK.int IntKind.u32, CK.int IntKind.i64, CK.list, CK.int IntKind.i64, CK.int IntKind.i64] 0 (List.getD (List.map Ti.cs l) (Int.toNat (↑i : Int)) [])) ((iI 0 ≤ 0 ∧ 0 ≤ (↑i : Int) ∧ (↑i : Int) ≤ (↑(List.length (List.map Ti.cs l)) : Int) ∧ (↑(List.length (List.map Ti.cs l)) : Int) ≤ (↑(List.length (List.map Ti.cs l)) : Int) ∧ uni 5 (List.map Ti.cs l)) ∧ ∃ (m_1 : Mo), ∃ (n_1 : Int), ∃ (t : Ti), ∃ (l_1 : List Ti), ∃ (u : Tail), SlIs [PV.agg [PV.int IntKind.i64 (Mo.K m), PV.int IntKind.i64 (Mo.Base m), PV.int IntKind.i64 (Mo.Step m), PV.int IntKind.i64 (Mo.Cap m), PV.int IntKind.i64 (Mo.Every m)], PV.int IntKind.i64 n, PV.agg [PV.int IntKind.u32 (cI (List.getD (List.map Ti.cs l) (Int.toNat (↑i : Int)) []) 0), PV.int IntKind.i64 (cI (List.getD (List.map Ti.cs l) (Int.toNat (↑i : Int)) []) 1), PV.list (cL (List.getD (List.map Ti.cs l) (Int.toNat (↑i : Int)) []) 2) (cT (List.getD (List.map Ti.cs l) (Int.toNat (↑i : Int)) []) 2), PV.int IntKind.i64 (cI (List.getD (List.map Ti.cs l) (Int.toNat (↑i : Int)) []) 3), PV.int IntKind.i64 (cI (List.getD (List.map Ti.cs l) (Int.toNat (↑i : Int)) []) 4)], PV.list (List.drop 0 (List.take (Int.toNat (↑i : Int)) (List.map Ti.cs l))) Tail.no] [PV.agg [PV.int IntKind.i64 (Mo.K m_1), PV.int IntKind.i64 (Mo.Base m_1), PV.int IntKind.i64 (Mo.Step m_1), PV.int IntKind.i64 (Mo.Cap m_1), PV.int IntKind.i64 (Mo.Every m_1)], PV.int IntKind.i64 n_1, PV.agg [PV.int IntKind.u32 (Ti.Id t), PV.int IntKind.i64 (Ti.Mode t), PV.list (en1 IntKind.u32 (Ti.Ps t)) (Ti.Pt t), PV.int IntKind.i64 (Ti.Rating t), PV.int IntKind.i64 (Ti.Since t)], PV.list (List.map Ti.cs l_1) u] ∧ in64 n_1 ∧ NT (Ti.Pt t) ∧ in64 (Ti.Since t) ∧ LsOk l_1 ∧ br (!List.all l_1 (nearT m_1 n_1 t)) (R Ex.ret [PV.int IntKind.i64 n, PV.list (List.map Ti.cs l) Tail.no, PV.ptr 0 0, PV.bool false, PV.list (List.map Ti.cs l) Tail.no, PV.int IntKind.i64 (↑(List.length l) : Int), PV.int IntKind.i64 (↑i : Int)] [Ob.cells [PV.int IntKind.i64 (Mo.K m), PV.int IntKind.i64 (Mo.Base m), PV.int IntKind.i64 (Mo.Step m), PV.int IntKind.i64 (Mo.Cap m), PV.int IntKind.i64 (Mo.Every m)], Ob.cells [PV.int IntKind.u32 (cI (List.getD (List.map Ti.cs l) (Int.toNat (↑i : Int)) []) 0), PV.int IntKind.i64 (cI (List.getD (List.map Ti.cs l) (Int.toNat (↑i : Int)) []) 1), PV.list (cL (List.getD (List.map Ti.cs l) (Int.toNat (↑i : Int)) []) 2) (cT (List.getD (List.map Ti.cs l) (Int.toNat (↑i : Int)) []) 2), PV.int IntKind.i64 (cI (List.getD (List.map Ti.cs l) (Int.toNat (↑i : Int)) []) 3), PV.int IntKind.i64 (cI (List.getD (List.map Ti.cs l) (Int.toNat (↑i : Int)) []) 4)]]) (R Ex.normal [PV.int IntKind.i64 n, PV.list (List.map Ti.cs l) Tail.no, PV.ptr 0 0, PV.bool false, PV.list (List.map Ti.cs l) Tail.no, PV.int IntKind.i64 (↑(List.length l) : Int), PV.int IntKind.i64 (wI ((↑i : Int) + 1))] [Ob.cells [PV.int IntKind.i64 (Mo.K m), PV.int IntKind.i64 (Mo.Base m), PV.int IntKind.i64 (Mo.Step m), PV.int IntKind.i64 (Mo.Cap m), PV.int IntKind.i64 (Mo.Every m)], Ob.cells [PV.int IntKind.u32 (cI (List.getD (List.map Ti.cs l) (Int.toNat (↑i : Int)) []) 0), PV.int IntKind.i64 (cI (List.getD (List.map Ti.cs l) (Int.toNat (↑i : Int)) []) 1), PV.list (cL (List.getD (List.map Ti.cs l) (Int.toNat (↑i : Int)) []) 2) (cT (List.getD (List.map Ti.cs l) (Int.toNat (↑i : Int)) []) 2), PV.int IntKind.i64 (cI (List.getD (List.map Ti.cs l) (Int.toNat (↑i : Int)) []) 3), PV.int IntKind.i64 (cI (List.getD (List.map Ti.cs l) (Int.toNat (↑i : Int)) []) 4)]])) False) (R (Ex.exit 0) [PV.int IntKind.i64 n, PV.list (List.map Ti.cs l) Tail.no, PV.ptr 0 0, PV.bool false, PV.list (List.map Ti.cs l) Tail.no, PV.int IntKind.i64 (↑(List.length l) : Int), PV.int IntKind.i64 (↑i : Int)] [Ob.cells [PV.int IntKind.i64 (Mo.K m), PV.int IntKind.i64 (Mo.Base m), PV.int IntKind.i64 (Mo.Step m), PV.int IntKind.i64 (Mo.Cap m), PV.int IntKind.i64 (Mo.Every m)]])) : Holds (wpc br Try.prog gl TO [] (fun _ => 0) (subOf [1, 1, 0, 1, 0] (bodyOf Try.f23)) [] (envS [1, 2, 3, 6, 12, 13, 14] [.int .i64 n, .list (l.map Ti.cs) .no, .ptr 0 0, .bool false, .list (l.map Ti.cs) .no, .int .i64 l.length, .int .i64 i]) [.cells m.cs] (fun ex e H => R ex (List.map e [1, 2, 3, 6, 12, 13, 14]) H)) := holds_of_eq (fpl_red m n l i R) h
theorem fri_red (m : Mo) (n : Int) (l : List Ti) (i j : Nat) (R : Ex → List PV → Heap → Prop) : (br (decide ((↑j : Int) < (↑i : Int))) (InL (List.map Ti.cs l) 5 (↑i : Int) ∧ br (true && fitX [CK.int IntKind.i64] 0 (List.drop 3 (List.getD (List.map Ti.cs l) (Int.toNat (↑i : Int)) []))) (InL (List.map Ti.cs l) 5 (↑i : Int) ∧ br (true && fitX [CK.int IntKind.i64] 0 (List.drop 4 (List.getD (List.map Ti.cs l) (Int.toNat (↑i : Int)) []))) (in64 n ∧ in64 (cI (List.drop 4 (List.getD (List.map Ti.cs l) (Int.toNat (↑i : Int)) [])) 0) ∧ waitS n (cI (List.drop 4 (List.getD (List.map Ti.cs l) (Int.toNat (↑i : Int)) [])) 0) ≤ 9223372036854775807 ∧ InL (List.map Ti.cs l) 5 (↑j : Int) ∧ br (true && fitX [CK.int IntKind.i64] 0 (List.drop 3 (List.getD (List.map Ti.cs l) (Int.toNat (↑j : Int)) []))) (InL (List.map Ti.cs l) 5 (↑j : Int) ∧ br (true && fitX [CK.int IntKind.i64] 0 (List.drop 4 (List.getD (List.map Ti.cs l) (Int.toNat (↑j : Int)) []))) (in64 n ∧ in64 (cI (List.drop 4 (List.getD (List.map Ti.cs l) (Int.toNat (↑j : Int)) [])) 0) ∧ waitS n (cI (List.drop 4 (List.getD (List.map Ti.cs l) (Int.toNat (↑j : Int)) [])) 0) ≤ 9223372036854775807 ∧ br (!nearS (cI (List.drop 3 (List.getD (List.map Ti.cs l) (Int.toNat (↑i : Int)) [])) 0) (winM m (waitS n (cI (List.drop 4 (List.getD (List.map Ti.cs l) (Int.toNat (↑i : Int)) [])) 0))) (cI (List.drop 3 (List.getD (List.map Ti.cs l) (Int.toNat (↑j : Int)) [])) 0) (winM m (waitS n (cI (List.drop 4 (List.getD (List.map Ti.cs l) (Int.toNat (↑j : Int)) [])) 0)))) (R Ex.ret [PV.int IntKind.i64 n, PV.list (List.map Ti.cs l) Tail.no, PV.ptr 0 0, PV.bool false, PV.int IntKind.i64 (↑i : Int), PV.int IntKind.i64 (↑j : Int)] [Ob.cells [PV.int IntKind.i64 (Mo.K m), PV.int IntKind.i64 (Mo.Base m), PV.int IntKind.i64 (Mo.Step m), PV.int IntKind.i64 (Mo.Cap m), PV.int IntKind.i64 (Mo.Every m)]]) (R Ex.normal [PV.int IntKind.i64 n, PV.list (List.map Ti.cs l) Tail.no, PV.ptr 0 0, PV.bool false, PV.int IntKind.i64 (↑i : Int), PV.int IntKind.i64 (wI ((↑j : Int) + 1))] [Ob.cells [PV.int IntKind.i64 (Mo.K m), PV.int IntKind.i64 (Mo.Base m), PV.int IntKind.i64 (Mo.Step m), PV.int IntKind.i64 (Mo.Cap m), PV.int IntKind.i64 (Mo.Every m)]])) False) False) False) False) (R (Ex.exit 2) [PV.int IntKind.i64 n, PV.list (List.map Ti.cs l) Tail.no, PV.ptr 0 0, PV.bool false, PV.int IntKind.i64 (↑i : Int), PV.int IntKind.i64 (↑j : Int)] [Ob.cells [PV.int IntKind.i64 (Mo.K m), PV.int IntKind.i64 (Mo.Base m), PV.int IntKind.i64 (Mo.Step m), PV.int IntKind.i64 (Mo.Cap m), PV.int IntKind.i64 (Mo.Every m)]])) = wpc br Try.prog gl TO [] (fun _ => 0) (subOf [1, 1, 0, 1, 0, 0, 1, 0, 0, 1, 0] (bodyOf Try.f24)) [] (envS [1, 2, 3, 6, 7, 8] [.int .i64 n, .list (l.map Ti.cs) .no, .ptr 0 0, .bool false, .int .i64 i, .int .i64 j]) [.cells m.cs] (fun ex e H => R ex (List.map e [1, 2, 3, 6, 7, 8]) H) := by kernel_rfl
theorem fri_vc (m : Mo) (n : Int) (l : List Ti) (i j : Nat) (R : Ex → List PV → Heap → Prop) (h : br (decide ((↑j : Int) < (↑i : Int))) (InL (List.map Ti.cs l) 5 (↑i : Int) ∧ br (true && fitX [CK.int IntKind.i64] 0 (List.drop 3 (List.getD (List.map Ti.cs l) (Int.toNat (↑i : Int)) []))) (InL (List.map Ti.cs l) 5 (↑i : Int) ∧ br (true && fitX [CK.int IntKind.i64] 0 (List.drop 4 (List.getD (List.map Ti.cs l) (Int.toNat (↑i : Int)) []))) (in64 n ∧ in64 (cI (List.drop 4 (List.getD (List.map Ti.cs l) (Int.toNat (↑i : Int)) [])) 0) ∧ waitS n (cI (List.drop 4 (List.getD (List.map Ti.cs l) (Int.toNat (↑i : Int)) [])) 0) ≤ 9223372036854775807 ∧ InL (List.map Ti.cs l) 5 (↑j : Int) ∧ br (true && fitX [CK.int IntKind.i64] 0 (List.drop 3 (List.getD (List.map Ti.cs l) (Int.toNat (↑j : Int)) []))) (InL (List.map Ti.cs l) 5 (↑j : Int) ∧ br (true && fitX [CK.int IntKind.i64] 0 (List.drop 4 (List.getD (List.map Ti.cs l) (Int.toNat (↑j : Int)) []))) (in64 n ∧ in64 (cI (List.drop 4 (List.getD (List.map Ti.cs l) (Int.toNat (↑j : Int)) [])) 0) ∧ waitS n (cI (List.drop 4 (List.getD (List.map Ti.cs l) (Int.toNat (↑j : Int)) [])) 0) ≤ 9223372036854775807 ∧ br (!nearS (cI (List.drop 3 (List.getD (List.map Ti.cs l) (Int.toNat (↑i : Int)) [])) 0) (winM m (waitS n (cI (List.drop 4 (List.getD (List.map Ti.cs l) (Int.toNat (↑i : Int)) [])) 0))) (cI (List.drop 3 (List.getD (List.map Ti.cs l) (Int.toNat (↑j : Int)) [])) 0) (winM m (waitS n (cI (List.drop 4 (List.getD (List.map Ti.cs l) (Int.toNat (↑j : Int)) [])) 0)))) (R Ex.ret [PV.int IntKind.i64 n, PV.list (List.map Ti.cs l) Tail.no, PV.ptr 0 0, PV.bool false, PV.int IntKind.i64 (↑i : Int), PV.int IntKind.i64 (↑j : Int)] [Ob.cells [PV.int IntKind.i64 (Mo.K m), PV.int IntKind.i64 (Mo.Base m), PV.int IntKind.i64 (Mo.Step m), PV.int IntKind.i64 (Mo.Cap m), PV.int IntKind.i64 (Mo.Every m)]]) (R Ex.normal [PV.int IntKind.i64 n, PV.list (List.map Ti.cs l) Tail.no, PV.ptr 0 0, PV.bool false, PV.int IntKind.i64 (↑i : Int), PV.int IntKind.i64 (wI ((↑j : Int) + 1))] [Ob.cells [PV.int IntKind.i64 (Mo.K m), PV.int IntKind.i64 (Mo.Base m), PV.int IntKind.i64 (Mo.Step m), PV.int IntKind.i64 (Mo.Cap m), PV.int IntKind.i64 (Mo.Every m)]])) False) False) False) False) (R (Ex.exit 2) [PV.int IntKind.i64 n, PV.list (List.map Ti.cs l) Tail.no, PV.ptr 0 0, PV.bool false, PV.int IntKind.i64 (↑i : Int), PV.int IntKind.i64 (↑j : Int)] [Ob.cells [PV.int IntKind.i64 (Mo.K m), PV.int IntKind.i64 (Mo.Base m), PV.int IntKind.i64 (Mo.Step m), PV.int IntKind.i64 (Mo.Cap m), PV.int IntKind.i64 (Mo.Every m)]])) : Holds (wpc br Try.prog gl TO [] (fun _ => 0) (subOf [1, 1, 0, 1, 0, 0, 1, 0, 0, 1, 0] (bodyOf Try.f24)) [] (envS [1, 2, 3, 6, 7, 8] [.int .i64 n, .list (l.map Ti.cs) .no, .ptr 0 0, .bool false, .int .i64 i, .int .i64 j]) [.cells m.cs] (fun ex e H => R ex (List.map e [1, 2, 3, 6, 7, 8]) H)) := holds_of_eq (fri_red m n l i j R) h
theorem cut0 (l : List Ti) (i : Nat) : List.drop 0 (List.take i (l.map Ti.cs)) = (l.take i).map Ti.cs := by rw [List.drop_zero, List.map_take]
def fp_l : LSp := fun e H Q => ∃ (m : Mo) (n : Int) (l : List Ti), in64 n ∧ LsOk l ∧ SlIs (List.map e [1, 2, 3, 6, 12, 13, 14]) [.int .i64 n, .list (l.map Ti.cs) .no, .ptr 0 0, .bool false, .list (l.map Ti.cs) .no, .int .i64 l.length, .int .i64 0] ∧ HpIs H [.cells m.cs] ∧
  (fitP (nearT m n) l l.length = true → Q (.exit 0) (envS [1, 2, 3, 6, 12, 13, 14] [.int .i64 n, .list (l.map Ti.cs) .no, .ptr 0 0, .bool false, .list (l.map Ti.cs) .no, .int .i64 l.length, .int .i64 l.length]) [.cells m.cs]) ∧
  (fitP (nearT m n) l l.length = false → ∀ q : Nat × Ti, Q .ret (envS [1, 2, 3, 6, 12, 13, 14] [.int .i64 n, .list (l.map Ti.cs) .no, .ptr 0 0, .bool false, .list (l.map Ti.cs) .no, .int .i64 l.length, .int .i64 q.1]) [.cells m.cs, .cells q.2.cs])
theorem low_one {m : Mo} : ∀ (o : Nat) cs, [Ob.cells m.cs][o]? = some (.cells cs) → ∀ x ∈ cs, Low 1 x := by
  intro o cs ho
  have : o = 0 := by have := (List.getElem?_eq_some_iff.1 ho).1; simp at this; omega
  subst this
  cases ho; exact low_mo m
theorem fp_l_ok : ∀ e H Q, fp_l e H Q → AW Try.prog gl Try.f23.ntmps (.loop (subOf [1, 1, 0, 1, 0] (bodyOf Try.f23))) Q e H := by
  rintro e H Q ⟨m, n, l, hn, hl, he, hH, hy, hno⟩
  have hlen := hl.1
  refine aw_loop4 (hn := fun _ => 0) gl_low TO_ok (.nil _ _ _ _ _) (σ := Nat) [1, 2, 3, 6, 12, 13, 14] (fun i => i ≤ l.length ∧ fitP (nearT m n) l i = true)
    (fun i => [.int .i64 n, .list (l.map Ti.cs) .no, .ptr 0 0, .bool false, .list (l.map Ti.cs) .no, .int .i64 l.length, .int .i64 i]) (fun _ => [.cells m.cs]) (fun i => l.length - i) 0 ⟨Nat.zero_le _, rfl⟩ he hH ?_
  rintro i ⟨h1, h2⟩
  refine fpl_vc m n l i _ ?_
  simp only [br_if, dt, toNat_nat, inL_ti, List.length_map]
  by_cases h : i < l.length
  · rw [if_pos (by omega)]
    simp only [getD_map Ti.zero h, ti_f, ti_c, cut0]
    refine ⟨h, ?_⟩
    rw [if_pos (by rfl : (true && true) = true)]
    have hm := hl.mem h
    refine ⟨⟨Int.le_refl _, by omega, by omega, Int.le_refl _, uni_map Ti.cs_len _⟩, m, n, l.getD i Ti.zero, l.take i, .no, rfl, hn, hm.1, hm.2.2, hl.take i, ?_⟩
    cases c : (l.take i).all (nearT m n (l.getD i Ti.zero)) with
    | false =>
      rw [if_pos (by rfl)]
      have := fitP_no (nr := nearT m n) (r := l) (i := i) (by rw [fitP, c, Bool.and_false]) (l.length - (i + 1))
      rw [show i + 1 + (l.length - (i + 1)) = l.length by omega] at this
      exact hno this (i, l.getD i Ti.zero)
    | true =>
      rw [if_neg (by decide)]
      refine ⟨i + 1, (show l.length - (i + 1) < l.length - i by omega), ⟨by omega, by rw [fitP, h2, c]; rfl⟩, by rw [wI_succ h (by omega)], [.cells (l.getD i Ti.zero).cs], rfl, Nat.le_refl _, .inr ⟨?_, low_one⟩⟩
      intro v hv
      simp only [List.mem_cons, List.not_mem_nil, or_false] at hv
      rcases hv with rfl | rfl | rfl | rfl | rfl | rfl | rfl <;> first | exact .int _ _ | exact .bool _ | exact .ptr _ _ (by simp) | exact low_list NT.no (low_ls hl)
  · rw [if_neg (by omega)]
    have : i = l.length := by omega
    subst this
    exact hy h2
def fi_l : LSp := fun e H Q => ∃ (m : Mo) (n : Int) (l : List Ti) (i : Nat), in64 n ∧ LsOk l ∧ i < l.length ∧ SlIs (List.map e [1, 2, 3, 6, 7, 8]) [.int .i64 n, .list (l.map Ti.cs) .no, .ptr 0 0, .bool false, .int .i64 i, .int .i64 0] ∧ HpIs H [.cells m.cs] ∧
  ((l.take i).all (nearT m n (l.getD i Ti.zero)) = true → Q (.exit 2) (envS [1, 2, 3, 6, 7, 8] [.int .i64 n, .list (l.map Ti.cs) .no, .ptr 0 0, .bool false, .int .i64 i, .int .i64 i]) [.cells m.cs]) ∧
  ((l.take i).all (nearT m n (l.getD i Ti.zero)) = false → ∀ j : Nat, Q .ret (envS [1, 2, 3, 6, 7, 8] [.int .i64 n, .list (l.map Ti.cs) .no, .ptr 0 0, .bool false, .int .i64 i, .int .i64 j]) [.cells m.cs])
theorem fi_l_ok : ∀ e H Q, fi_l e H Q → AW Try.prog gl Try.f24.ntmps (.loop (subOf [1, 1, 0, 1, 0, 0, 1, 0, 0, 1, 0] (bodyOf Try.f24))) Q e H := by
  rintro e H Q ⟨m, n, l, i, hn, hl, hi, he, hH, hy, hno⟩
  have hlen := hl.1
  refine aw_loop4 (hn := fun _ => 0) gl_low TO_ok (.nil _ _ _ _ _) (σ := Nat) [1, 2, 3, 6, 7, 8] (fun j => j ≤ i ∧ (l.take i).all (nearT m n (l.getD i Ti.zero)) = ((l.take i).drop j).all (nearT m n (l.getD i Ti.zero)))
    (fun j => [.int .i64 n, .list (l.map Ti.cs) .no, .ptr 0 0, .bool false, .int .i64 i, .int .i64 j]) (fun _ => [.cells m.cs]) (fun j => i - j) 0 ⟨Nat.zero_le _, by rw [List.drop_zero]⟩ he hH ?_
  rintro j ⟨h1, h2⟩
  refine fri_vc m n l i j _ ?_
  simp only [br_if, dt, toNat_nat, inL_ti]
  have hlt : (l.take i).length = i := by rw [List.length_take]; omega
  by_cases h : j < i
  · rw [if_pos (by omega)]
    simp only [getD_map Ti.zero hi, getD_map Ti.zero (show j < l.length by omega), ti_f, ti_d]
    have hmi := hl.mem hi
    have hmj := hl.mem (show j < l.length by omega)
    refine ⟨hi, ?_⟩
    rw [if_pos (by rfl : (true && true) = true)]
    refine ⟨hi, ?_⟩
    rw [if_pos (by rfl : (true && true) = true)]
    refine ⟨hn, hmi.2.2, waitS_le _ _, by omega, ?_⟩
    rw [if_pos (by rfl : (true && true) = true)]
    refine ⟨by omega, ?_⟩
    rw [if_pos (by rfl : (true && true) = true)]
    refine ⟨hn, hmj.2.2, waitS_le _ _, ?_⟩
    rw [drop_cons Ti.zero (by omega), List.all_cons] at h2
    have hg : (l.take i).getD j Ti.zero = l.getD j Ti.zero := by
      rw [List.getD_eq_getElem?_getD, List.getElem?_take, if_pos h, ← List.getD_eq_getElem?_getD]
    rw [hg] at h2
    generalize l.getD i Ti.zero = x at *
    generalize l.getD j Ti.zero = y at *
    cases c : nearT m n x y with
    | false =>
      rw [c, Bool.false_and] at h2
      unfold nearT at c
      rw [if_pos (by rw [c]; rfl)]
      exact hno h2 j
    | true =>
      rw [c, Bool.true_and] at h2
      unfold nearT at c
      rw [if_neg (by rw [c]; decide)]
      exact ⟨j + 1, (show i - (j + 1) < i - j by omega), ⟨by omega, h2⟩, by rw [wI_succ h (by omega)], [], rfl, Nat.le_refl _, .inl rfl⟩
  · rw [if_neg (by omega)]
    have : j = i := by omega
    subst this
    rw [List.drop_of_length_le (by omega)] at h2
    exact hy h2
theorem fi_sub : subOf [1, 1, 0, 1, 0, 0, 1, 0, 0, 1, 0] (bodyOf Try.f24) = subOf [1, 0, 0, 1, 0] (subOf [1, 1, 0, 1, 0] (bodyOf Try.f24)) := by kernel_rfl
theorem fi_l_ok2 : ∀ e H Q, fi_l e H Q → AW Try.prog gl Try.f24.ntmps (.loop (subOf [1, 0, 0, 1, 0] (subOf [1, 1, 0, 1, 0] (bodyOf Try.f24)))) Q e H := by
  rw [← fi_sub]; exact fi_l_ok
theorem fro_red (m : Mo) (n : Int) (l : List Ti) (i : Nat) (R : Ex → List PV → Heap → Prop) : (br (decide ((↑i : Int) < (↑(List.length (List.map Ti.cs l)) : Int))) (∃ (m_1 : Mo), ∃ (n_1 : Int), ∃ (l_1 : List Ti), ∃ (i_1 : Nat), in64 n_1 ∧ LsOk l_1 ∧ i_1 < List.length l_1 ∧ SlIs [PV.int IntKind.i64 n, PV.list (List.map Ti.cs l) Tail.no, PV.ptr 0 0, PV.bool false, PV.int IntKind.i64 (↑i : Int), PV.int IntKind.i64 0] [PV.int IntKind.i64 n_1, PV.list (List.map Ti.cs l_1) Tail.no, PV.ptr 0 0, PV.bool false, PV.int IntKind.i64 (↑i_1 : Int), PV.int IntKind.i64 0] ∧ HpIs [Ob.cells [PV.int IntKind.i64 (Mo.K m), PV.int IntKind.i64 (Mo.Base m), PV.int IntKind.i64 (Mo.Step m), PV.int IntKind.i64 (Mo.Cap m), PV.int IntKind.i64 (Mo.Every m)]] [Ob.cells [PV.int IntKind.i64 (Mo.K m_1), PV.int IntKind.i64 (Mo.Base m_1), PV.int IntKind.i64 (Mo.Step m_1), PV.int IntKind.i64 (Mo.Cap m_1), PV.int IntKind.i64 (Mo.Every m_1)]] ∧ (List.all (List.take i_1 l_1) (nearT m_1 n_1 (List.getD l_1 i_1 Ti.zero)) = true → R Ex.normal [PV.int IntKind.i64 n_1, PV.list (List.map Ti.cs l_1) Tail.no, PV.ptr 0 0, PV.bool false, PV.int IntKind.i64 (wI ((↑i_1 : Int) + 1))] [Ob.cells [PV.int IntKind.i64 (Mo.K m_1), PV.int IntKind.i64 (Mo.Base m_1), PV.int IntKind.i64 (Mo.Step m_1), PV.int IntKind.i64 (Mo.Cap m_1), PV.int IntKind.i64 (Mo.Every m_1)]]) ∧ (List.all (List.take i_1 l_1) (nearT m_1 n_1 (List.getD l_1 i_1 Ti.zero)) = false → ∀ (_ : Nat), R Ex.ret [PV.int IntKind.i64 n_1, PV.list (List.map Ti.cs l_1) Tail.no, PV.ptr 0 0, PV.bool false, PV.int IntKind.i64 (↑i_1 : Int)] [Ob.cells [PV.int IntKind.i64 (Mo.K m_1), PV.int IntKind.i64 (Mo.Base m_1), PV.int IntKind.i64 (Mo.Step m_1), PV.int IntKind.i64 (Mo.Cap m_1), PV.int IntKind.i64 (Mo.Every m_1)]])) (R (Ex.exit 0) [PV.int IntKind.i64 n, PV.list (List.map Ti.cs l) Tail.no, PV.ptr 0 0, PV.bool false, PV.int IntKind.i64 (↑i : Int)] [Ob.cells [PV.int IntKind.i64 (Mo.K m), PV.int IntKind.i64 (Mo.Base m), PV.int IntKind.i64 (Mo.Step m), PV.int IntKind.i64 (Mo.Cap m), PV.int IntKind.i64 (Mo.Every m)]])) = wpc br Try.prog gl TO [([1, 0, 0, 1, 0], fi_l)] (fun _ => 0) (subOf [1, 1, 0, 1, 0] (bodyOf Try.f24)) [] (envS [1, 2, 3, 6, 7] [.int .i64 n, .list (l.map Ti.cs) .no, .ptr 0 0, .bool false, .int .i64 i]) [.cells m.cs] (fun ex e H => R ex (List.map e [1, 2, 3, 6, 7]) H) := by kernel_rfl
theorem fro_vc (m : Mo) (n : Int) (l : List Ti) (i : Nat) (R : Ex → List PV → Heap → Prop) (h : br (decide ((↑i : Int) < (↑(List.length (List.map Ti.cs l)) : Int))) (∃ (m_1 : Mo), ∃ (n_1 : Int), ∃ (l_1 : List Ti), ∃ (i_1 : Nat), in64 n_1 ∧ LsOk l_1 ∧ i_1 < List.length l_1 ∧ SlIs [PV.int IntKind.i64 n, PV.list (List.map Ti.cs l) Tail.no, PV.ptr 0 0, PV.bool false, PV.int IntKind.i64 (↑i : Int), PV.int IntKind.i64 0] [PV.int IntKind.i64 n_1, PV.list (List.map Ti.cs l_1) Tail.no, PV.ptr 0 0, PV.bool false, PV.int IntKind.i64 (↑i_1 : Int), PV.int IntKind.i64 0] ∧ HpIs [Ob.cells [PV.int IntKind.i64 (Mo.K m), PV.int IntKind.i64 (Mo.Base m), PV.int IntKind.i64 (Mo.Step m), PV.int IntKind.i64 (Mo.Cap m), PV.int IntKind.i64 (Mo.Every m)]] [Ob.cells [PV.int IntKind.i64 (Mo.K m_1), PV.int IntKind.i64 (Mo.Base m_1), PV.int IntKind.i64 (Mo.Step m_1), PV.int IntKind.i64 (Mo.Cap m_1), PV.int IntKind.i64 (Mo.Every m_1)]] ∧ (List.all (List.take i_1 l_1) (nearT m_1 n_1 (List.getD l_1 i_1 Ti.zero)) = true → R Ex.normal [PV.int IntKind.i64 n_1, PV.list (List.map Ti.cs l_1) Tail.no, PV.ptr 0 0, PV.bool false, PV.int IntKind.i64 (wI ((↑i_1 : Int) + 1))] [Ob.cells [PV.int IntKind.i64 (Mo.K m_1), PV.int IntKind.i64 (Mo.Base m_1), PV.int IntKind.i64 (Mo.Step m_1), PV.int IntKind.i64 (Mo.Cap m_1), PV.int IntKind.i64 (Mo.Every m_1)]]) ∧ (List.all (List.take i_1 l_1) (nearT m_1 n_1 (List.getD l_1 i_1 Ti.zero)) = false → ∀ (_ : Nat), R Ex.ret [PV.int IntKind.i64 n_1, PV.list (List.map Ti.cs l_1) Tail.no, PV.ptr 0 0, PV.bool false, PV.int IntKind.i64 (↑i_1 : Int)] [Ob.cells [PV.int IntKind.i64 (Mo.K m_1), PV.int IntKind.i64 (Mo.Base m_1), PV.int IntKind.i64 (Mo.Step m_1), PV.int IntKind.i64 (Mo.Cap m_1), PV.int IntKind.i64 (Mo.Every m_1)]])) (R (Ex.exit 0) [PV.int IntKind.i64 n, PV.list (List.map Ti.cs l) Tail.no, PV.ptr 0 0, PV.bool false, PV.int IntKind.i64 (↑i : Int)] [Ob.cells [PV.int IntKind.i64 (Mo.K m), PV.int IntKind.i64 (Mo.Base m), PV.int IntKind.i64 (Mo.Step m), PV.int IntKind.i64 (Mo.Cap m), PV.int IntKind.i64 (Mo.Every m)]])) : Holds (wpc br Try.prog gl TO [([1, 0, 0, 1, 0], fi_l)] (fun _ => 0) (subOf [1, 1, 0, 1, 0] (bodyOf Try.f24)) [] (envS [1, 2, 3, 6, 7] [.int .i64 n, .list (l.map Ti.cs) .no, .ptr 0 0, .bool false, .int .i64 i]) [.cells m.cs] (fun ex e H => R ex (List.map e [1, 2, 3, 6, 7]) H)) := holds_of_eq (fro_red m n l i R) h
def fo_l : LSp := fun e H Q => ∃ (m : Mo) (n : Int) (l : List Ti), in64 n ∧ LsOk l ∧ SlIs (List.map e [1, 2, 3, 6, 7]) [.int .i64 n, .list (l.map Ti.cs) .no, .ptr 0 0, .bool false, .int .i64 0] ∧ HpIs H [.cells m.cs] ∧
  (fitP (nearT m n) l l.length = true → Q (.exit 0) (envS [1, 2, 3, 6, 7] [.int .i64 n, .list (l.map Ti.cs) .no, .ptr 0 0, .bool false, .int .i64 l.length]) [.cells m.cs]) ∧
  (fitP (nearT m n) l l.length = false → ∀ j : Nat, Q .ret (envS [1, 2, 3, 6, 7] [.int .i64 n, .list (l.map Ti.cs) .no, .ptr 0 0, .bool false, .int .i64 j]) [.cells m.cs])
theorem fo_l_ok : ∀ e H Q, fo_l e H Q → AW Try.prog gl Try.f24.ntmps (.loop (subOf [1, 1, 0, 1, 0] (bodyOf Try.f24))) Q e H := by
  rintro e H Q ⟨m, n, l, hn, hl, he, hH, hy, hno⟩
  have hlen := hl.1
  refine aw_loop4 (hn := fun _ => 0) gl_low TO_ok (.cons (sub_of (by kernel_rfl)) fi_l_ok2 (.nil _ _ _ _ _)) (σ := Nat) [1, 2, 3, 6, 7] (fun i => i ≤ l.length ∧ fitP (nearT m n) l i = true)
    (fun i => [.int .i64 n, .list (l.map Ti.cs) .no, .ptr 0 0, .bool false, .int .i64 i]) (fun _ => [.cells m.cs]) (fun i => l.length - i) 0 ⟨Nat.zero_le _, rfl⟩ he hH ?_
  rintro i ⟨h1, h2⟩
  refine fro_vc m n l i _ ?_
  simp only [br_if, dt, List.length_map]
  by_cases h : i < l.length
  · rw [if_pos (by omega)]
    refine ⟨m, n, l, i, hn, hl, h, rfl, rfl, fun k => ?_, fun k j => ?_⟩
    · exact ⟨i + 1, (show l.length - (i + 1) < l.length - i by omega), ⟨by omega, by rw [fitP, h2, k]; rfl⟩, by rw [wI_succ h (by omega)], [], rfl, Nat.le_refl _, .inl rfl⟩
    · refine hno ?_ i
      have := fitP_no (nr := nearT m n) (r := l) (i := i) (by rw [fitP, k, Bool.and_false]) (l.length - (i + 1))
      rwa [show i + 1 + (l.length - (i + 1)) = l.length by omega] at this
  · rw [if_neg (by omega)]
    have : i = l.length := by omega
    subst this
    exact hy h2
theorem fits1_red (m : Mo) (n : Int) (l : List Ti) (K : PV → Prop) : (br (wrongM m != S0) (K (PV.bool false)) (∃ (m_1 : Mo), ∃ (n_1 : Int), ∃ (l_1 : List Ti), in64 n_1 ∧ LsOk l_1 ∧ SlIs [PV.int IntKind.i64 n, PV.list (List.map Ti.cs l) Tail.no, PV.ptr 0 0, PV.bool false, PV.list (List.map Ti.cs l) Tail.no, PV.int IntKind.i64 (↑(List.length (List.map Ti.cs l)) : Int), PV.int IntKind.i64 0] [PV.int IntKind.i64 n_1, PV.list (List.map Ti.cs l_1) Tail.no, PV.ptr 0 0, PV.bool false, PV.list (List.map Ti.cs l_1) Tail.no, PV.int IntKind.i64 (↑(List.length l_1) : Int), PV.int IntKind.i64 0] ∧ HpIs [Ob.cells [PV.int IntKind.i64 (Mo.K m), PV.int IntKind.i64 (Mo.Base m), PV.int IntKind.i64 (Mo.Step m), PV.int IntKind.i64 (Mo.Cap m), PV.int IntKind.i64 (Mo.Every m)]] [Ob.cells [PV.int IntKind.i64 (Mo.K m_1), PV.int IntKind.i64 (Mo.Base m_1), PV.int IntKind.i64 (Mo.Step m_1), PV.int IntKind.i64 (Mo.Cap m_1), PV.int IntKind.i64 (Mo.Every m_1)]] ∧ (fitP (nearT m_1 n_1) l_1 (List.length l_1) = true → K (PV.bool true)) ∧ (fitP (nearT m_1 n_1) l_1 (List.length l_1) = false → ∀ (_ : Nat × Ti), K (PV.bool false)))) = wpc br Try.prog gl TO [([1, 1, 0, 1, 0], fp_l)] (fun _ => 0) (bodyOf Try.f23) [] (env0 [m.pv, .int .i64 n, .list (l.map Ti.cs) .no]) [] (resQ Try.prog Try.f23.results.toList (fun x _ => K x)) := by kernel_rfl
theorem fits1_vc (m : Mo) (n : Int) (l : List Ti) (K : PV → Prop) (h : br (wrongM m != S0) (K (PV.bool false)) (∃ (m_1 : Mo), ∃ (n_1 : Int), ∃ (l_1 : List Ti), in64 n_1 ∧ LsOk l_1 ∧ SlIs [PV.int IntKind.i64 n, PV.list (List.map Ti.cs l) Tail.no, PV.ptr 0 0, PV.bool false, PV.list (List.map Ti.cs l) Tail.no, PV.int IntKind.i64 (↑(List.length (List.map Ti.cs l)) : Int), PV.int IntKind.i64 0] [PV.int IntKind.i64 n_1, PV.list (List.map Ti.cs l_1) Tail.no, PV.ptr 0 0, PV.bool false, PV.list (List.map Ti.cs l_1) Tail.no, PV.int IntKind.i64 (↑(List.length l_1) : Int), PV.int IntKind.i64 0] ∧ HpIs [Ob.cells [PV.int IntKind.i64 (Mo.K m), PV.int IntKind.i64 (Mo.Base m), PV.int IntKind.i64 (Mo.Step m), PV.int IntKind.i64 (Mo.Cap m), PV.int IntKind.i64 (Mo.Every m)]] [Ob.cells [PV.int IntKind.i64 (Mo.K m_1), PV.int IntKind.i64 (Mo.Base m_1), PV.int IntKind.i64 (Mo.Step m_1), PV.int IntKind.i64 (Mo.Cap m_1), PV.int IntKind.i64 (Mo.Every m_1)]] ∧ (fitP (nearT m_1 n_1) l_1 (List.length l_1) = true → K (PV.bool true)) ∧ (fitP (nearT m_1 n_1) l_1 (List.length l_1) = false → ∀ (_ : Nat × Ti), K (PV.bool false)))) : ACalls Try.prog gl 23 [m.pv, .int .i64 n, .list (l.map Ti.cs) .no] [] (fun x _ => K x) :=
  acalls_of_wpc2 (T := TO) (L := [([1, 1, 0, 1, 0], fp_l)]) (fun _ => 0) Try.func23 (by kernel_rfl) (by kernel_rfl) (by kernel_rfl) (TO_ok) (.cons (sub_of (by kernel_rfl)) fp_l_ok (.nil _ _ _ _ _)) (holds_of_eq (fits1_red m n l K) h)
theorem fits2_red (m : Mo) (n : Int) (l : List Ti) (K : PV → Prop) : (br (wrongM m != S0) (K (PV.bool false)) (∃ (m_1 : Mo), ∃ (n_1 : Int), ∃ (l_1 : List Ti), in64 n_1 ∧ LsOk l_1 ∧ SlIs [PV.int IntKind.i64 n, PV.list (List.map Ti.cs l) Tail.no, PV.ptr 0 0, PV.bool false, PV.int IntKind.i64 0] [PV.int IntKind.i64 n_1, PV.list (List.map Ti.cs l_1) Tail.no, PV.ptr 0 0, PV.bool false, PV.int IntKind.i64 0] ∧ HpIs [Ob.cells [PV.int IntKind.i64 (Mo.K m), PV.int IntKind.i64 (Mo.Base m), PV.int IntKind.i64 (Mo.Step m), PV.int IntKind.i64 (Mo.Cap m), PV.int IntKind.i64 (Mo.Every m)]] [Ob.cells [PV.int IntKind.i64 (Mo.K m_1), PV.int IntKind.i64 (Mo.Base m_1), PV.int IntKind.i64 (Mo.Step m_1), PV.int IntKind.i64 (Mo.Cap m_1), PV.int IntKind.i64 (Mo.Every m_1)]] ∧ (fitP (nearT m_1 n_1) l_1 (List.length l_1) = true → K (PV.bool true)) ∧ (fitP (nearT m_1 n_1) l_1 (List.length l_1) = false → ∀ (_ : Nat), K (PV.bool false)))) = wpc br Try.prog gl TO [([1, 1, 0, 1, 0], fo_l)] (fun _ => 0) (bodyOf Try.f24) [] (env0 [m.pv, .int .i64 n, .list (l.map Ti.cs) .no]) [] (resQ Try.prog Try.f24.results.toList (fun x _ => K x)) := by kernel_rfl
theorem fits2_vc (m : Mo) (n : Int) (l : List Ti) (K : PV → Prop) (h : br (wrongM m != S0) (K (PV.bool false)) (∃ (m_1 : Mo), ∃ (n_1 : Int), ∃ (l_1 : List Ti), in64 n_1 ∧ LsOk l_1 ∧ SlIs [PV.int IntKind.i64 n, PV.list (List.map Ti.cs l) Tail.no, PV.ptr 0 0, PV.bool false, PV.int IntKind.i64 0] [PV.int IntKind.i64 n_1, PV.list (List.map Ti.cs l_1) Tail.no, PV.ptr 0 0, PV.bool false, PV.int IntKind.i64 0] ∧ HpIs [Ob.cells [PV.int IntKind.i64 (Mo.K m), PV.int IntKind.i64 (Mo.Base m), PV.int IntKind.i64 (Mo.Step m), PV.int IntKind.i64 (Mo.Cap m), PV.int IntKind.i64 (Mo.Every m)]] [Ob.cells [PV.int IntKind.i64 (Mo.K m_1), PV.int IntKind.i64 (Mo.Base m_1), PV.int IntKind.i64 (Mo.Step m_1), PV.int IntKind.i64 (Mo.Cap m_1), PV.int IntKind.i64 (Mo.Every m_1)]] ∧ (fitP (nearT m_1 n_1) l_1 (List.length l_1) = true → K (PV.bool true)) ∧ (fitP (nearT m_1 n_1) l_1 (List.length l_1) = false → ∀ (_ : Nat), K (PV.bool false)))) : ACalls Try.prog gl 24 [m.pv, .int .i64 n, .list (l.map Ti.cs) .no] [] (fun x _ => K x) :=
  acalls_of_wpc2 (T := TO) (L := [([1, 1, 0, 1, 0], fo_l)]) (fun _ => 0) Try.func24 (by kernel_rfl) (by kernel_rfl) (by kernel_rfl) (TO_ok) (.cons (sub_of (by kernel_rfl)) fo_l_ok (.nil _ _ _ _ _)) (holds_of_eq (fits2_red m n l K) h)
def fitsS (m : Mo) (n : Int) (l : List Ti) : Bool := decide (okM m) && fitP (nearT m n) l l.length
def fits_s (args : List PV) (K : PV → Prop) : Prop := ∃ (m : Mo) (n : Int) (l : List Ti) (u : Tail), SlIs args [m.pv, .int .i64 n, .list (l.map Ti.cs) u] ∧ in64 n ∧ LsOk l ∧ K (.bool (fitsS m n l))
theorem fits1_ok : SpOk Try.prog gl 23 (.pure fits_s) := by
  rintro args K ⟨m, n, l, u, he, hn, hl, hk⟩
  have he : args = _ := he
  subst he
  refine spure_w gl_low (.cons (.refl _) (.cons (.refl _) (.cons (.list _ _) .nil))) (by intro v hv; simp only [List.mem_cons, List.not_mem_nil, or_false] at hv; rcases hv with rfl | rfl | rfl; exact low_mpv m; exact .int _ _; exact low_list NT.no (low_ls hl)) (.bool _)
    (fits1_vc m n l (fun v => v = .bool (fitsS m n l)) ?_) hk
  simp only [br_if, bne_S, List.length_map]
  by_cases ok : okM m
  · rw [if_neg (fun k => k ((wrongM_ok m).2 ok))]
    refine ⟨m, n, l, hn, hl, rfl, rfl, fun h => ?_, fun h _ => ?_⟩
    · unfold fitsS; rw [h, decide_eq_true ok]; rfl
    · unfold fitsS; rw [h, Bool.and_false]
  · rw [if_pos (fun k => ok ((wrongM_ok m).1 k))]
    unfold fitsS; rw [decide_eq_false ok]; rfl
theorem fits2_ok : SpOk Try.prog gl 24 (.pure fits_s) := by
  rintro args K ⟨m, n, l, u, he, hn, hl, hk⟩
  have he : args = _ := he
  subst he
  refine spure_w gl_low (.cons (.refl _) (.cons (.refl _) (.cons (.list _ _) .nil))) (by intro v hv; simp only [List.mem_cons, List.not_mem_nil, or_false] at hv; rcases hv with rfl | rfl | rfl; exact low_mpv m; exact .int _ _; exact low_list NT.no (low_ls hl)) (.bool _)
    (fits2_vc m n l (fun v => v = .bool (fitsS m n l)) ?_) hk
  simp only [br_if, bne_S]
  by_cases ok : okM m
  · rw [if_neg (fun k => k ((wrongM_ok m).2 ok))]
    refine ⟨m, n, l, hn, hl, rfl, rfl, fun h => ?_, fun h _ => ?_⟩
    · unfold fitsS; rw [h, decide_eq_true ok]; rfl
    · unfold fitsS; rw [h, Bool.and_false]
  · rw [if_pos (fun k => ok ((wrongM_ok m).1 k))]
    unfold fitsS; rw [decide_eq_false ok]; rfl
def TF : Tab := (23, .pure fits_s) :: (24, .pure fits_s) :: TO
theorem TF_ok : TabOk Try.prog gl TF := .cons fits1_ok (.cons fits2_ok TO_ok)
end Go.Proofs.Ytmcincfonnfblaa
