/-
  The fill layer and its reference walked.
-/
import Derived.Test.YtidhfbpljjaelaaGn
import Derived.Test.YtidhfbpljjaelaaA38
import Derived.Test.YtidhfbpljjaelaaProg
namespace Go.Proofs.Ytidhfbpljjaelaa
open Go Go.AM Go.Proofs
-- layer 19
structure Ti where
  Id : Int
  Mode : Int
  Ps : List Int
  Pt : Tail
  Rating : Int
  Since : Int
def Ti.cs (t : Ti) : List PV := [.int .u32 t.Id, .int .i64 t.Mode, .list (en1 .u32 t.Ps) t.Pt, .int .i64 t.Rating, .int .i64 t.Since]
def Ti.pv (t : Ti) : PV := .agg [.int .u32 t.Id, .int .i64 t.Mode, .list (en1 .u32 t.Ps) t.Pt, .int .i64 t.Rating, .int .i64 t.Since]
structure Ro where
  Team : Int
  Ps : List Int
  Pt : Tail
  Rating : Int
  Window : Int
def Ro.cs (t : Ro) : List PV := [.int .i64 t.Team, .list (en1 .u32 t.Ps) t.Pt, .int .i64 t.Rating, .int .i64 t.Window]
def Ro.pv (t : Ro) : PV := .agg [.int .i64 t.Team, .list (en1 .u32 t.Ps) t.Pt, .int .i64 t.Rating, .int .i64 t.Window]
structure As where
  M : Mo
  Now : Int
  L : List Ti
  R : List Ro
def As.cs (a : As) : List PV := [.int .i64 a.M.K, .int .i64 a.M.Base, .int .i64 a.M.Step, .int .i64 a.M.Cap, .int .i64 a.M.Every, .int .i64 a.Now, .list (a.L.map Ti.cs) .no, .list (a.R.map Ro.cs) .no]
def As.pv (a : As) : PV := .agg [.int .i64 a.M.K, .int .i64 a.M.Base, .int .i64 a.M.Step, .int .i64 a.M.Cap, .int .i64 a.M.Every, .int .i64 a.Now, .list (a.L.map Ti.cs) .no, .list (a.R.map Ro.cs) .no]
theorem Ti.cs_len (t : Ti) : t.cs.length = 5 := rfl
theorem Ro.cs_len (t : Ro) : t.cs.length = 4 := rfl
def Ti.zero : Ti := ⟨0, 0, [], .no, 0, 0⟩
def Ro.zero : Ro := ⟨0, [], .no, 0, 0⟩
def in64 (n : Int) : Prop := -9223372036854775808 ≤ n ∧ n ≤ 9223372036854775807
def waitS (n s : Int) : Int := if s ≥ n then 0 else if n - s ≤ 9223372036854775807 then n - s else 9223372036854775807
def wait_s (args : List PV) (K : PV → Prop) : Prop := match args with
  | [.int .i64 n, .int .i64 s] => in64 n ∧ in64 s ∧ K (.int .i64 (waitS n s))
  | _ => False
def clampR (n : Int) : Int := mnI (mxI n 0) 10000
def rat_s (args : List PV) (K : PV → Prop) : Prop := match args with
  | [.int .i64 n] => K (.int .i64 (clampR n))
  | _ => False
def dist (a b : Int) : Int := mxI (clampR a - clampR b) (clampR b - clampR a)
def near_s (args : List PV) (K : PV → Prop) : Prop := match args with
  | [.int .i64 a, .int .i64 v, .int .i64 b, .int .i64 w] => K (.bool (decide (dist a b ≤ v ∧ dist a b ≤ w)))
  | _ => False
def TR : Tab := (44, .pure rat_s) :: (48, .pure rat_s) :: (37, .pure wait_s) :: (45, .pure wait_s) :: TW
def TN : Tab := (46, .pure near_s) :: TR
theorem wait1_red (n s : Int) (K : PV → Prop) : (br (decide (s ≥ n)) (K (PV.int IntKind.i64 0)) (br (decide (wI (n - s) > 0)) (K (PV.int IntKind.i64 (wI (n - s)))) (K (PV.int IntKind.i64 9223372036854775807)))) = wpc br Try.prog gl [] [] (fun _ => 0) (bodyOf Try.f37) [] (env0 [.int .i64 n, .int .i64 s]) [] (resQ Try.prog Try.f37.results.toList (fun x _ => K x)) := by kernel_rfl
theorem wait1_vc (n s : Int) (K : PV → Prop) (h : br (decide (s ≥ n)) (K (PV.int IntKind.i64 0)) (br (decide (wI (n - s) > 0)) (K (PV.int IntKind.i64 (wI (n - s)))) (K (PV.int IntKind.i64 9223372036854775807)))) : ACalls Try.prog gl 37 [.int .i64 n, .int .i64 s] [] (fun x _ => K x) :=
  acalls_of_wpc2 (T := []) (L := []) (fun _ => 0) Try.func37 (by kernel_rfl) (by kernel_rfl) (by kernel_rfl) (TabOk.nil _ _) (LOk.nil _ _ _ _ _) (holds_of_eq (wait1_red n s K) h)
theorem wait2_red (n s : Int) (K : PV → Prop) : (br (decide (s ≥ n)) (K (PV.int IntKind.i64 0)) (br (decide (s < 0) == true) (br (decide (n > wI (9223372036854775807 + s))) (K (PV.int IntKind.i64 9223372036854775807)) (K (PV.int IntKind.i64 (wI (n - s))))) (K (PV.int IntKind.i64 (wI (n - s)))))) = wpc br Try.prog gl [] [] (fun _ => 0) (bodyOf Try.f45) [] (env0 [.int .i64 n, .int .i64 s]) [] (resQ Try.prog Try.f45.results.toList (fun x _ => K x)) := by kernel_rfl
theorem wait2_vc (n s : Int) (K : PV → Prop) (h : br (decide (s ≥ n)) (K (PV.int IntKind.i64 0)) (br (decide (s < 0) == true) (br (decide (n > wI (9223372036854775807 + s))) (K (PV.int IntKind.i64 9223372036854775807)) (K (PV.int IntKind.i64 (wI (n - s))))) (K (PV.int IntKind.i64 (wI (n - s)))))) : ACalls Try.prog gl 45 [.int .i64 n, .int .i64 s] [] (fun x _ => K x) :=
  acalls_of_wpc2 (T := []) (L := []) (fun _ => 0) Try.func45 (by kernel_rfl) (by kernel_rfl) (by kernel_rfl) (TabOk.nil _ _) (LOk.nil _ _ _ _ _) (holds_of_eq (wait2_red n s K) h)
theorem rat1_red (n : Int) (K : PV → Prop) : (K (PV.int IntKind.i64 (mnI (mxI n 0) 10000))) = wpc br Try.prog gl [] [] (fun _ => 0) (bodyOf Try.f44) [] (env0 [.int .i64 n]) [] (resQ Try.prog Try.f44.results.toList (fun x _ => K x)) := by kernel_rfl
theorem rat1_vc (n : Int) (K : PV → Prop) (h : K (PV.int IntKind.i64 (mnI (mxI n 0) 10000))) : ACalls Try.prog gl 44 [.int .i64 n] [] (fun x _ => K x) :=
  acalls_of_wpc2 (T := []) (L := []) (fun _ => 0) Try.func44 (by kernel_rfl) (by kernel_rfl) (by kernel_rfl) (TabOk.nil _ _) (LOk.nil _ _ _ _ _) (holds_of_eq (rat1_red n K) h)
theorem rat2_red (n : Int) (K : PV → Prop) : (br (decide (n < 0)) (K (PV.int IntKind.i64 0)) (br (decide (n > 10000)) (K (PV.int IntKind.i64 10000)) (K (PV.int IntKind.i64 n)))) = wpc br Try.prog gl [] [] (fun _ => 0) (bodyOf Try.f48) [] (env0 [.int .i64 n]) [] (resQ Try.prog Try.f48.results.toList (fun x _ => K x)) := by kernel_rfl
theorem rat2_vc (n : Int) (K : PV → Prop) (h : br (decide (n < 0)) (K (PV.int IntKind.i64 0)) (br (decide (n > 10000)) (K (PV.int IntKind.i64 10000)) (K (PV.int IntKind.i64 n)))) : ACalls Try.prog gl 48 [.int .i64 n] [] (fun x _ => K x) :=
  acalls_of_wpc2 (T := []) (L := []) (fun _ => 0) Try.func48 (by kernel_rfl) (by kernel_rfl) (by kernel_rfl) (TabOk.nil _ _) (LOk.nil _ _ _ _ _) (holds_of_eq (rat2_red n K) h)
theorem clampR_in (n : Int) : 0 ≤ clampR n ∧ clampR n ≤ 10000 := by unfold clampR mnI mxI; (repeat' split) <;> omega
theorem wrap_far {n : Int} (h0 : 9223372036854775807 < n) (h1 : n ≤ 18446744073709551615) : wI n = n - 18446744073709551616 := by
  show IntKind.wrap .i64 n = _
  simp only [IntKind.wrap, IntKind.bits, IntKind.signed]; simp; omega
theorem wait1_ok : SpOk Try.prog gl 37 (.pure wait_s) := by
  intro args K h
  unfold wait_s at h
  split at h
  · rename_i n s
    obtain ⟨h1, h2, h⟩ := h
    refine spure gl_low (by simp [low_int]) (.int _ _) (wait1_vc n s (fun x => x = .int .i64 (waitS n s)) ?_) h
    simp only [br_if, dt]
    unfold in64 at h1 h2
    unfold waitS
    by_cases c : s ≥ n
    · rw [if_pos c, if_pos c]
    rw [if_neg c, if_neg c]
    by_cases d : n - s ≤ 9223372036854775807
    · rw [w_small (by omega) d, if_pos (by omega), if_pos d]
    · rw [wrap_far (by omega) (by omega), if_neg (by omega), if_neg d]
  · exact h.elim
theorem wait2_ok : SpOk Try.prog gl 45 (.pure wait_s) := by
  intro args K h
  unfold wait_s at h
  split at h
  · rename_i n s
    obtain ⟨h1, h2, h⟩ := h
    refine spure gl_low (by simp [low_int]) (.int _ _) (wait2_vc n s (fun x => x = .int .i64 (waitS n s)) ?_) h
    simp only [br_if, dt, bt]
    unfold in64 at h1 h2
    unfold waitS
    by_cases c : s ≥ n
    · rw [if_pos c, if_pos c]
    rw [if_neg c, if_neg c]
    by_cases d : s < 0
    · rw [if_pos d, w_small (n := 9223372036854775807 + s) (by omega) (by omega)]
      by_cases e : n > 9223372036854775807 + s
      · rw [if_pos e, if_neg (by omega)]
      · rw [if_neg e, if_pos (by omega), w_small (by omega) (by omega)]
    · rw [if_neg d, if_pos (by omega), w_small (by omega) (by omega)]
  · exact h.elim
theorem rat1_ok : SpOk Try.prog gl 44 (.pure rat_s) := by
  intro args K h
  unfold rat_s at h
  split at h
  · rename_i n
    exact spure gl_low (by simp [low_int]) (.int _ _) (rat1_vc n (fun x => x = .int .i64 (clampR n)) rfl) h
  · exact h.elim
theorem rat2_ok : SpOk Try.prog gl 48 (.pure rat_s) := by
  intro args K h
  unfold rat_s at h
  split at h
  · rename_i n
    refine spure gl_low (by simp [low_int]) (.int _ _) (rat2_vc n (fun x => x = .int .i64 (clampR n)) ?_) h
    simp only [br_if, dt]
    unfold clampR mnI mxI
    by_cases c : n < 0
    · rw [if_pos c]; congr 1; (repeat' split) <;> omega
    rw [if_neg c]
    by_cases d : n > 10000
    · rw [if_pos d]; congr 1; (repeat' split) <;> omega
    rw [if_neg d]; congr 1; (repeat' split) <;> omega
  · exact h.elim
theorem TR_ok : TabOk Try.prog gl TR := .cons rat1_ok (.cons rat2_ok (.cons wait1_ok (.cons wait2_ok TW_ok)))
theorem near_red (a v b w : Int) (K : PV → Prop) : (br (decide (wI (clampR a - clampR b) < 0)) (br (decide (wI (0 - wI (clampR a - clampR b)) ≤ v) == true) (K (PV.bool (decide (wI (0 - wI (clampR a - clampR b)) ≤ w)))) (K (PV.bool false))) (br (decide (wI (clampR a - clampR b) ≤ v) == true) (K (PV.bool (decide (wI (clampR a - clampR b) ≤ w)))) (K (PV.bool false)))) = wpc br Try.prog gl TR [] (fun _ => 0) (bodyOf Try.f46) [] (env0 [.int .i64 a, .int .i64 v, .int .i64 b, .int .i64 w]) [] (resQ Try.prog Try.f46.results.toList (fun x _ => K x)) := by kernel_rfl
theorem near_vc (a v b w : Int) (K : PV → Prop) (h : br (decide (wI (clampR a - clampR b) < 0)) (br (decide (wI (0 - wI (clampR a - clampR b)) ≤ v) == true) (K (PV.bool (decide (wI (0 - wI (clampR a - clampR b)) ≤ w)))) (K (PV.bool false))) (br (decide (wI (clampR a - clampR b) ≤ v) == true) (K (PV.bool (decide (wI (clampR a - clampR b) ≤ w)))) (K (PV.bool false)))) : ACalls Try.prog gl 46 [.int .i64 a, .int .i64 v, .int .i64 b, .int .i64 w] [] (fun x _ => K x) :=
  acalls_of_wpc2 (T := TR) (L := []) (fun _ => 0) Try.func46 (by kernel_rfl) (by kernel_rfl) (by kernel_rfl) (TR_ok) (LOk.nil _ _ _ _ _) (holds_of_eq (near_red a v b w K) h)
theorem near_ok : SpOk Try.prog gl 46 (.pure near_s) := by
  intro args K h
  unfold near_s at h
  split at h
  · rename_i a v b w
    refine spure gl_low (by simp [low_int]) (.bool _) (near_vc a v b w (fun x => x = .bool (decide (dist a b ≤ v ∧ dist a b ≤ w))) ?_) h
    simp only [br_if, dt, bt]
    have h1 := clampR_in a
    have h2 := clampR_in b
    rw [w_small (n := clampR a - clampR b) (by omega) (by omega), w_small (n := 0 - (clampR a - clampR b)) (by omega) (by omega)]
    have fin : ∀ d : Int, d = dist a b → (if d ≤ v then PV.bool (decide (d ≤ w)) = .bool (decide (dist a b ≤ v ∧ dist a b ≤ w)) else PV.bool false = .bool (decide (dist a b ≤ v ∧ dist a b ≤ w))) := by
      rintro d rfl
      by_cases c : dist a b ≤ v
      · rw [if_pos c]; congr 1; apply decide_eq_decide.2; exact ⟨fun k => ⟨c, k⟩, fun k => k.2⟩
      · rw [if_neg c, decide_eq_false (fun k => c k.1)]
    by_cases c : clampR a - clampR b < 0
    · rw [if_pos c]; exact fin _ (by unfold dist mxI; split <;> omega)
    · rw [if_neg c]; exact fin _ (by unfold dist mxI; split <;> omega)
  · exact h.elim
theorem TN_ok : TabOk Try.prog gl TN := .cons near_ok TR_ok
theorem ro_c (r : Ro) : cI r.cs 0 = r.Team ∧ cL r.cs 1 = en1 .u32 r.Ps ∧ cT r.cs 1 = r.Pt ∧ cI r.cs 2 = r.Rating ∧ cI r.cs 3 = r.Window := ⟨rfl, rfl, rfl, rfl, rfl⟩
theorem ro_d (r : Ro) : cI (r.cs.drop 0) 0 = r.Team ∧ cL (r.cs.drop 1) 0 = en1 .u32 r.Ps ∧ cI (r.cs.drop 2) 0 = r.Rating ∧ cI (r.cs.drop 3) 0 = r.Window := ⟨rfl, rfl, rfl, rfl⟩
theorem ro_f (r : Ro) : fitX [CK.int .i64, CK.list, CK.int .i64, CK.int .i64] 0 r.cs = true ∧ fitX [CK.int .i64] 0 (r.cs.drop 0) = true ∧ fitX [CK.list] 0 (r.cs.drop 1) = true ∧ fitX [CK.int .i64] 0 (r.cs.drop 2) = true ∧ fitX [CK.int .i64] 0 (r.cs.drop 3) = true := ⟨rfl, rfl, rfl, rfl, rfl⟩
theorem ti_c (t : Ti) : cI t.cs 0 = t.Id ∧ cI t.cs 1 = t.Mode ∧ cL t.cs 2 = en1 .u32 t.Ps ∧ cT t.cs 2 = t.Pt ∧ cI t.cs 3 = t.Rating ∧ cI t.cs 4 = t.Since := ⟨rfl, rfl, rfl, rfl, rfl, rfl⟩
theorem ti_d (t : Ti) : cL (t.cs.drop 2) 0 = en1 .u32 t.Ps ∧ cT (t.cs.drop 2) 0 = t.Pt ∧ cI (t.cs.drop 3) 0 = t.Rating ∧ cI (t.cs.drop 4) 0 = t.Since := ⟨rfl, rfl, rfl, rfl⟩
theorem ti_f (t : Ti) : fitX [CK.int .u32, CK.int .i64, CK.list, CK.int .i64, CK.int .i64] 0 t.cs = true ∧ fitX [CK.list] 0 (t.cs.drop 2) = true ∧ fitX [CK.int .i64] 0 (t.cs.drop 3) = true ∧ fitX [CK.int .i64] 0 (t.cs.drop 4) = true := ⟨rfl, rfl, rfl, rfl⟩
theorem inL_ro (l : List Ro) (i : Nat) : InL (l.map Ro.cs) 4 (i : Int) = (i < l.length) := inL_map Ro.cs_len (by decide) l i
theorem inL_ti (l : List Ti) (i : Nat) : InL (l.map Ti.cs) 5 (i : Int) = (i < l.length) := inL_map Ti.cs_len (by decide) l i
theorem tt : (true && true) = true := rfl
theorem ft : (fun _ => true) () = true := rfl
def RsOk (r : List Ro) : Prop := r.length ≤ 100 ∧ ∀ x ∈ r, NT x.Pt ∧ x.Ps.length ≤ 100
def LsOk (l : List Ti) : Prop := l.length ≤ 100 ∧ ∀ x ∈ l, NT x.Pt ∧ x.Ps.length ≤ 100 ∧ in64 x.Since
theorem low_ro {n : Nat} {x : Ro} (h : NT x.Pt) : ∀ v ∈ x.cs, Low n v := by
  intro v hv
  simp only [Ro.cs, List.mem_cons, List.not_mem_nil, or_false] at hv
  rcases hv with rfl | rfl | rfl | rfl
  · exact .int _ _
  · exact low_list1 h
  · exact .int _ _
  · exact .int _ _
theorem low_ti {n : Nat} {x : Ti} (h : NT x.Pt) : ∀ v ∈ x.cs, Low n v := by
  intro v hv
  simp only [Ti.cs, List.mem_cons, List.not_mem_nil, or_false] at hv
  rcases hv with rfl | rfl | rfl | rfl | rfl
  · exact .int _ _
  · exact .int _ _
  · exact low_list1 h
  · exact .int _ _
  · exact .int _ _
theorem low_rs {n : Nat} {r : List Ro} (h : RsOk r) : ∀ v ∈ (r.map Ro.cs).flatten, Low n v := low_map fun a ha => low_ro (h.2 a ha).1
theorem low_ls {n : Nat} {l : List Ti} (h : LsOk l) : ∀ v ∈ (l.map Ti.cs).flatten, Low n v := low_map fun a ha => low_ti (h.2 a ha).1
-- how many players a team has
def tk (t : Int) : List Ro → Int
  | [] => 0
  | r :: l => (if r.Team = t then (r.Ps.length : Int) else 0) + tk t l
theorem tk_append (t : Int) (a b : List Ro) : tk t (a ++ b) = tk t a + tk t b := by
  induction a with
  | nil => show tk t b = 0 + tk t b; omega
  | cons r a ih => show (if r.Team = t then (r.Ps.length : Int) else 0) + tk t (a ++ b) = (if r.Team = t then (r.Ps.length : Int) else 0) + tk t a + tk t b; omega
theorem tk_in (t : Int) : ∀ r : List Ro, (∀ x ∈ r, x.Ps.length ≤ 100) → 0 ≤ tk t r ∧ tk t r ≤ 100 * r.length
  | [], _ => ⟨Int.le_refl _, Int.le_refl _⟩
  | x :: r, h => by
    have h1 := h x (List.mem_cons_self ..)
    have h2 := tk_in t r fun y hy => h y (List.mem_cons_of_mem _ hy)
    unfold tk
    simp only [List.length_cons]
    split <;> omega
theorem tk_take (t : Int) {r : List Ro} {i : Nat} (h : i < r.length) : tk t (r.take (i + 1)) = tk t (r.take i) + (if (r.getD i Ro.zero).Team = t then ((r.getD i Ro.zero).Ps.length : Int) else 0) := by
  rw [take_snoc Ro.zero h, tk_append]
  show _ + ((if (r.getD i Ro.zero).Team = t then ((r.getD i Ro.zero).Ps.length : Int) else 0) + 0) = _
  omega
theorem getD_mem {α : Type} {l : List α} {i : Nat} {d : α} (h : i < l.length) : l.getD i d ∈ l := by
  rw [List.getD_eq_getElem?_getD, List.getElem?_eq_getElem h]; exact List.getElem_mem h
theorem tk_small (t : Int) {r : List Ro} (h : RsOk r) (i : Nat) : 0 ≤ tk t (r.take i) ∧ tk t (r.take i) ≤ 10000 := by
  have h1 := tk_in t (r.take i) fun x hx => (h.2 x (List.mem_of_mem_take hx)).2
  have h2 : (r.take i).length ≤ 100 := by rw [List.length_take]; have := h.1; omega
  omega
theorem gr1_red (a : As) (i : Nat) (R : Ex → List PV → Heap → Prop) : (br (decide ((↑i : Int) < (↑(List.length (List.map Ti.cs (As.L a))) : Int))) (InL (List.map Ti.cs (As.L a)) 5 (↑i : Int) ∧ br (true && fitX [CK.list] 0 (List.drop 2 (List.getD (List.map Ti.cs (As.L a)) (Int.toNat (↑i : Int)) []))) (br (decide ((↑(List.length (cL (List.drop 2 (List.getD (List.map Ti.cs (As.L a)) (Int.toNat (↑i : Int)) [])) 0)) : Int) > 10)) (R Ex.ret [PV.ptr 0 0, PV.bool true, PV.int IntKind.i64 (↑i : Int)] [Ob.cells [PV.int IntKind.i64 (Mo.K (As.M a)), PV.int IntKind.i64 (Mo.Base (As.M a)), PV.int IntKind.i64 (Mo.Step (As.M a)), PV.int IntKind.i64 (Mo.Cap (As.M a)), PV.int IntKind.i64 (Mo.Every (As.M a)), PV.int IntKind.i64 (As.Now a), PV.list (List.map Ti.cs (As.L a)) Tail.no, PV.list (List.map Ro.cs (As.R a)) Tail.no]]) (R Ex.normal [PV.ptr 0 0, PV.bool false, PV.int IntKind.i64 (wI ((↑i : Int) + 1))] [Ob.cells [PV.int IntKind.i64 (Mo.K (As.M a)), PV.int IntKind.i64 (Mo.Base (As.M a)), PV.int IntKind.i64 (Mo.Step (As.M a)), PV.int IntKind.i64 (Mo.Cap (As.M a)), PV.int IntKind.i64 (Mo.Every (As.M a)), PV.int IntKind.i64 (As.Now a), PV.list (List.map Ti.cs (As.L a)) Tail.no, PV.list (List.map Ro.cs (As.R a)) Tail.no]])) False) (R (Ex.exit 0) [PV.ptr 0 0, PV.bool false, PV.int IntKind.i64 (↑i : Int)] [Ob.cells [PV.int IntKind.i64 (Mo.K (As.M a)), PV.int IntKind.i64 (Mo.Base (As.M a)), PV.int IntKind.i64 (Mo.Step (As.M a)), PV.int IntKind.i64 (Mo.Cap (As.M a)), PV.int IntKind.i64 (Mo.Every (As.M a)), PV.int IntKind.i64 (As.Now a), PV.list (List.map Ti.cs (As.L a)) Tail.no, PV.list (List.map Ro.cs (As.R a)) Tail.no]])) = wpc br Try.prog gl [] [] (fun _ => 0) (subOf [1, 1, 0, 1, 0] (bodyOf Try.f24)) [] (envS [1, 2, 3] [.ptr 0 0, .bool false, .int .i64 i]) [.cells a.cs] (fun ex e H => R ex (List.map e [1, 2, 3]) H) := by kernel_rfl
theorem gr1_vc (a : As) (i : Nat) (R : Ex → List PV → Heap → Prop) (h : br (decide ((↑i : Int) < (↑(List.length (List.map Ti.cs (As.L a))) : Int))) (InL (List.map Ti.cs (As.L a)) 5 (↑i : Int) ∧ br (true && fitX [CK.list] 0 (List.drop 2 (List.getD (List.map Ti.cs (As.L a)) (Int.toNat (↑i : Int)) []))) (br (decide ((↑(List.length (cL (List.drop 2 (List.getD (List.map Ti.cs (As.L a)) (Int.toNat (↑i : Int)) [])) 0)) : Int) > 10)) (R Ex.ret [PV.ptr 0 0, PV.bool true, PV.int IntKind.i64 (↑i : Int)] [Ob.cells [PV.int IntKind.i64 (Mo.K (As.M a)), PV.int IntKind.i64 (Mo.Base (As.M a)), PV.int IntKind.i64 (Mo.Step (As.M a)), PV.int IntKind.i64 (Mo.Cap (As.M a)), PV.int IntKind.i64 (Mo.Every (As.M a)), PV.int IntKind.i64 (As.Now a), PV.list (List.map Ti.cs (As.L a)) Tail.no, PV.list (List.map Ro.cs (As.R a)) Tail.no]]) (R Ex.normal [PV.ptr 0 0, PV.bool false, PV.int IntKind.i64 (wI ((↑i : Int) + 1))] [Ob.cells [PV.int IntKind.i64 (Mo.K (As.M a)), PV.int IntKind.i64 (Mo.Base (As.M a)), PV.int IntKind.i64 (Mo.Step (As.M a)), PV.int IntKind.i64 (Mo.Cap (As.M a)), PV.int IntKind.i64 (Mo.Every (As.M a)), PV.int IntKind.i64 (As.Now a), PV.list (List.map Ti.cs (As.L a)) Tail.no, PV.list (List.map Ro.cs (As.R a)) Tail.no]])) False) (R (Ex.exit 0) [PV.ptr 0 0, PV.bool false, PV.int IntKind.i64 (↑i : Int)] [Ob.cells [PV.int IntKind.i64 (Mo.K (As.M a)), PV.int IntKind.i64 (Mo.Base (As.M a)), PV.int IntKind.i64 (Mo.Step (As.M a)), PV.int IntKind.i64 (Mo.Cap (As.M a)), PV.int IntKind.i64 (Mo.Every (As.M a)), PV.int IntKind.i64 (As.Now a), PV.list (List.map Ti.cs (As.L a)) Tail.no, PV.list (List.map Ro.cs (As.R a)) Tail.no]])) : Holds (wpc br Try.prog gl [] [] (fun _ => 0) (subOf [1, 1, 0, 1, 0] (bodyOf Try.f24)) [] (envS [1, 2, 3] [.ptr 0 0, .bool false, .int .i64 i]) [.cells a.cs] (fun ex e H => R ex (List.map e [1, 2, 3]) H)) := holds_of_eq (gr1_red a i R) h
theorem gr2_red (a : As) (i : Nat) (R : Ex → List PV → Heap → Prop) : (br (decide ((↑i : Int) < (↑(List.length (List.map Ro.cs (As.R a))) : Int))) (InL (List.map Ro.cs (As.R a)) 4 (↑i : Int) ∧ br (true && fitX [CK.list] 0 (List.drop 1 (List.getD (List.map Ro.cs (As.R a)) (Int.toNat (↑i : Int)) []))) (br (decide ((↑(List.length (cL (List.drop 1 (List.getD (List.map Ro.cs (As.R a)) (Int.toNat (↑i : Int)) [])) 0)) : Int) > 10)) (R Ex.ret [PV.ptr 0 0, PV.bool true, PV.int IntKind.i64 (↑i : Int)] [Ob.cells [PV.int IntKind.i64 (Mo.K (As.M a)), PV.int IntKind.i64 (Mo.Base (As.M a)), PV.int IntKind.i64 (Mo.Step (As.M a)), PV.int IntKind.i64 (Mo.Cap (As.M a)), PV.int IntKind.i64 (Mo.Every (As.M a)), PV.int IntKind.i64 (As.Now a), PV.list (List.map Ti.cs (As.L a)) Tail.no, PV.list (List.map Ro.cs (As.R a)) Tail.no]]) (R Ex.normal [PV.ptr 0 0, PV.bool false, PV.int IntKind.i64 (wI ((↑i : Int) + 1))] [Ob.cells [PV.int IntKind.i64 (Mo.K (As.M a)), PV.int IntKind.i64 (Mo.Base (As.M a)), PV.int IntKind.i64 (Mo.Step (As.M a)), PV.int IntKind.i64 (Mo.Cap (As.M a)), PV.int IntKind.i64 (Mo.Every (As.M a)), PV.int IntKind.i64 (As.Now a), PV.list (List.map Ti.cs (As.L a)) Tail.no, PV.list (List.map Ro.cs (As.R a)) Tail.no]])) False) (R (Ex.exit 2) [PV.ptr 0 0, PV.bool false, PV.int IntKind.i64 (↑i : Int)] [Ob.cells [PV.int IntKind.i64 (Mo.K (As.M a)), PV.int IntKind.i64 (Mo.Base (As.M a)), PV.int IntKind.i64 (Mo.Step (As.M a)), PV.int IntKind.i64 (Mo.Cap (As.M a)), PV.int IntKind.i64 (Mo.Every (As.M a)), PV.int IntKind.i64 (As.Now a), PV.list (List.map Ti.cs (As.L a)) Tail.no, PV.list (List.map Ro.cs (As.R a)) Tail.no]])) = wpc br Try.prog gl [] [] (fun _ => 0) (subOf [1, 1, 1, 0, 1, 0] (bodyOf Try.f24)) [] (envS [1, 2, 4] [.ptr 0 0, .bool false, .int .i64 i]) [.cells a.cs] (fun ex e H => R ex (List.map e [1, 2, 4]) H) := by kernel_rfl
theorem gr2_vc (a : As) (i : Nat) (R : Ex → List PV → Heap → Prop) (h : br (decide ((↑i : Int) < (↑(List.length (List.map Ro.cs (As.R a))) : Int))) (InL (List.map Ro.cs (As.R a)) 4 (↑i : Int) ∧ br (true && fitX [CK.list] 0 (List.drop 1 (List.getD (List.map Ro.cs (As.R a)) (Int.toNat (↑i : Int)) []))) (br (decide ((↑(List.length (cL (List.drop 1 (List.getD (List.map Ro.cs (As.R a)) (Int.toNat (↑i : Int)) [])) 0)) : Int) > 10)) (R Ex.ret [PV.ptr 0 0, PV.bool true, PV.int IntKind.i64 (↑i : Int)] [Ob.cells [PV.int IntKind.i64 (Mo.K (As.M a)), PV.int IntKind.i64 (Mo.Base (As.M a)), PV.int IntKind.i64 (Mo.Step (As.M a)), PV.int IntKind.i64 (Mo.Cap (As.M a)), PV.int IntKind.i64 (Mo.Every (As.M a)), PV.int IntKind.i64 (As.Now a), PV.list (List.map Ti.cs (As.L a)) Tail.no, PV.list (List.map Ro.cs (As.R a)) Tail.no]]) (R Ex.normal [PV.ptr 0 0, PV.bool false, PV.int IntKind.i64 (wI ((↑i : Int) + 1))] [Ob.cells [PV.int IntKind.i64 (Mo.K (As.M a)), PV.int IntKind.i64 (Mo.Base (As.M a)), PV.int IntKind.i64 (Mo.Step (As.M a)), PV.int IntKind.i64 (Mo.Cap (As.M a)), PV.int IntKind.i64 (Mo.Every (As.M a)), PV.int IntKind.i64 (As.Now a), PV.list (List.map Ti.cs (As.L a)) Tail.no, PV.list (List.map Ro.cs (As.R a)) Tail.no]])) False) (R (Ex.exit 2) [PV.ptr 0 0, PV.bool false, PV.int IntKind.i64 (↑i : Int)] [Ob.cells [PV.int IntKind.i64 (Mo.K (As.M a)), PV.int IntKind.i64 (Mo.Base (As.M a)), PV.int IntKind.i64 (Mo.Step (As.M a)), PV.int IntKind.i64 (Mo.Cap (As.M a)), PV.int IntKind.i64 (Mo.Every (As.M a)), PV.int IntKind.i64 (As.Now a), PV.list (List.map Ti.cs (As.L a)) Tail.no, PV.list (List.map Ro.cs (As.R a)) Tail.no]])) : Holds (wpc br Try.prog gl [] [] (fun _ => 0) (subOf [1, 1, 1, 0, 1, 0] (bodyOf Try.f24)) [] (envS [1, 2, 4] [.ptr 0 0, .bool false, .int .i64 i]) [.cells a.cs] (fun ex e H => R ex (List.map e [1, 2, 4]) H)) := holds_of_eq (gr2_red a i R) h
theorem tk1_red (r : List Ro) (t : Tail) (x y : Int) (i : Nat) (R : Ex → List PV → Heap → Prop) : (br (decide ((↑i : Int) < (↑(List.length r) : Int))) (InL (List.map Ro.cs r) 4 (↑i : Int) ∧ br (true && fitX [CK.int IntKind.i64, CK.list, CK.int IntKind.i64, CK.int IntKind.i64] 0 (List.getD (List.map Ro.cs r) (Int.toNat (↑i : Int)) [])) (br (cI (List.getD (List.map Ro.cs r) (Int.toNat (↑i : Int)) []) 0 == 1) (R Ex.normal [PV.int IntKind.i64 (wI (x + (↑(List.length (cL (List.getD (List.map Ro.cs r) (Int.toNat (↑i : Int)) []) 1)) : Int))), PV.int IntKind.i64 y, PV.list (List.map Ro.cs r) t, PV.int IntKind.i64 (↑(List.length r) : Int), PV.int IntKind.i64 (wI ((↑i : Int) + 1))] [Ob.cells [PV.int IntKind.i64 (cI (List.getD (List.map Ro.cs r) (Int.toNat (↑i : Int)) []) 0), PV.list (cL (List.getD (List.map Ro.cs r) (Int.toNat (↑i : Int)) []) 1) (cT (List.getD (List.map Ro.cs r) (Int.toNat (↑i : Int)) []) 1), PV.int IntKind.i64 (cI (List.getD (List.map Ro.cs r) (Int.toNat (↑i : Int)) []) 2), PV.int IntKind.i64 (cI (List.getD (List.map Ro.cs r) (Int.toNat (↑i : Int)) []) 3)]]) (br (cI (List.getD (List.map Ro.cs r) (Int.toNat (↑i : Int)) []) 0 == 2) (R Ex.normal [PV.int IntKind.i64 x, PV.int IntKind.i64 (wI (y + (↑(List.length (cL (List.getD (List.map Ro.cs r) (Int.toNat (↑i : Int)) []) 1)) : Int))), PV.list (List.map Ro.cs r) t, PV.int IntKind.i64 (↑(List.length r) : Int), PV.int IntKind.i64 (wI ((↑i : Int) + 1))] [Ob.cells [PV.int IntKind.i64 (cI (List.getD (List.map Ro.cs r) (Int.toNat (↑i : Int)) []) 0), PV.list (cL (List.getD (List.map Ro.cs r) (Int.toNat (↑i : Int)) []) 1) (cT (List.getD (List.map Ro.cs r) (Int.toNat (↑i : Int)) []) 1), PV.int IntKind.i64 (cI (List.getD (List.map Ro.cs r) (Int.toNat (↑i : Int)) []) 2), PV.int IntKind.i64 (cI (List.getD (List.map Ro.cs r) (Int.toNat (↑i : Int)) []) 3)]]) (R Ex.normal [PV.int IntKind.i64 x, PV.int IntKind.i64 y, PV.list (List.map Ro.cs r) t, PV.int IntKind.i64 (↑(List.length r) : Int), PV.int IntKind.i64 (wI ((↑i : Int) + 1))] [Ob.cells [PV.int IntKind.i64 (cI (List.getD (List.map Ro.cs r) (Int.toNat (↑i : Int)) []) 0), PV.list (cL (List.getD (List.map Ro.cs r) (Int.toNat (↑i : Int)) []) 1) (cT (List.getD (List.map Ro.cs r) (Int.toNat (↑i : Int)) []) 1), PV.int IntKind.i64 (cI (List.getD (List.map Ro.cs r) (Int.toNat (↑i : Int)) []) 2), PV.int IntKind.i64 (cI (List.getD (List.map Ro.cs r) (Int.toNat (↑i : Int)) []) 3)]]))) False) (R (Ex.exit 0) [PV.int IntKind.i64 x, PV.int IntKind.i64 y, PV.list (List.map Ro.cs r) t, PV.int IntKind.i64 (↑(List.length r) : Int), PV.int IntKind.i64 (↑i : Int)] [])) = wpc br Try.prog gl [] [] (fun _ => 0) (subOf [1, 0, 1, 0] (bodyOf Try.f25)) [] (envS [2, 3, 6, 7, 8] [.int .i64 x, .int .i64 y, .list (r.map Ro.cs) t, .int .i64 r.length, .int .i64 i]) [] (fun ex e H => R ex (List.map e [2, 3, 6, 7, 8]) H) := by kernel_rfl
theorem tk1_vc (r : List Ro) (t : Tail) (x y : Int) (i : Nat) (R : Ex → List PV → Heap → Prop) (h : br (decide ((↑i : Int) < (↑(List.length r) : Int))) (InL (List.map Ro.cs r) 4 (↑i : Int) ∧ br (true && fitX [CK.int IntKind.i64, CK.list, CK.int IntKind.i64, CK.int IntKind.i64] 0 (List.getD (List.map Ro.cs r) (Int.toNat (↑i : Int)) [])) (br (cI (List.getD (List.map Ro.cs r) (Int.toNat (↑i : Int)) []) 0 == 1) (R Ex.normal [PV.int IntKind.i64 (wI (x + (↑(List.length (cL (List.getD (List.map Ro.cs r) (Int.toNat (↑i : Int)) []) 1)) : Int))), PV.int IntKind.i64 y, PV.list (List.map Ro.cs r) t, PV.int IntKind.i64 (↑(List.length r) : Int), PV.int IntKind.i64 (wI ((↑i : Int) + 1))] [Ob.cells [PV.int IntKind.i64 (cI (List.getD (List.map Ro.cs r) (Int.toNat (↑i : Int)) []) 0), PV.list (cL (List.getD (List.map Ro.cs r) (Int.toNat (↑i : Int)) []) 1) (cT (List.getD (List.map Ro.cs r) (Int.toNat (↑i : Int)) []) 1), PV.int IntKind.i64 (cI (List.getD (List.map Ro.cs r) (Int.toNat (↑i : Int)) []) 2), PV.int IntKind.i64 (cI (List.getD (List.map Ro.cs r) (Int.toNat (↑i : Int)) []) 3)]]) (br (cI (List.getD (List.map Ro.cs r) (Int.toNat (↑i : Int)) []) 0 == 2) (R Ex.normal [PV.int IntKind.i64 x, PV.int IntKind.i64 (wI (y + (↑(List.length (cL (List.getD (List.map Ro.cs r) (Int.toNat (↑i : Int)) []) 1)) : Int))), PV.list (List.map Ro.cs r) t, PV.int IntKind.i64 (↑(List.length r) : Int), PV.int IntKind.i64 (wI ((↑i : Int) + 1))] [Ob.cells [PV.int IntKind.i64 (cI (List.getD (List.map Ro.cs r) (Int.toNat (↑i : Int)) []) 0), PV.list (cL (List.getD (List.map Ro.cs r) (Int.toNat (↑i : Int)) []) 1) (cT (List.getD (List.map Ro.cs r) (Int.toNat (↑i : Int)) []) 1), PV.int IntKind.i64 (cI (List.getD (List.map Ro.cs r) (Int.toNat (↑i : Int)) []) 2), PV.int IntKind.i64 (cI (List.getD (List.map Ro.cs r) (Int.toNat (↑i : Int)) []) 3)]]) (R Ex.normal [PV.int IntKind.i64 x, PV.int IntKind.i64 y, PV.list (List.map Ro.cs r) t, PV.int IntKind.i64 (↑(List.length r) : Int), PV.int IntKind.i64 (wI ((↑i : Int) + 1))] [Ob.cells [PV.int IntKind.i64 (cI (List.getD (List.map Ro.cs r) (Int.toNat (↑i : Int)) []) 0), PV.list (cL (List.getD (List.map Ro.cs r) (Int.toNat (↑i : Int)) []) 1) (cT (List.getD (List.map Ro.cs r) (Int.toNat (↑i : Int)) []) 1), PV.int IntKind.i64 (cI (List.getD (List.map Ro.cs r) (Int.toNat (↑i : Int)) []) 2), PV.int IntKind.i64 (cI (List.getD (List.map Ro.cs r) (Int.toNat (↑i : Int)) []) 3)]]))) False) (R (Ex.exit 0) [PV.int IntKind.i64 x, PV.int IntKind.i64 y, PV.list (List.map Ro.cs r) t, PV.int IntKind.i64 (↑(List.length r) : Int), PV.int IntKind.i64 (↑i : Int)] [])) : Holds (wpc br Try.prog gl [] [] (fun _ => 0) (subOf [1, 0, 1, 0] (bodyOf Try.f25)) [] (envS [2, 3, 6, 7, 8] [.int .i64 x, .int .i64 y, .list (r.map Ro.cs) t, .int .i64 r.length, .int .i64 i]) [] (fun ex e H => R ex (List.map e [2, 3, 6, 7, 8]) H)) := holds_of_eq (tk1_red r t x y i R) h
theorem tk2_red (r : List Ro) (t : Tail) (m x : Int) (i : Nat) (R : Ex → List PV → Heap → Prop) : (br (decide ((↑i : Int) < (↑(List.length (List.map Ro.cs r)) : Int))) (InL (List.map Ro.cs r) 4 (↑i : Int) ∧ br (true && fitX [CK.int IntKind.i64] 0 (List.drop 0 (List.getD (List.map Ro.cs r) (Int.toNat (↑i : Int)) []))) (br (cI (List.drop 0 (List.getD (List.map Ro.cs r) (Int.toNat (↑i : Int)) [])) 0 == m) (InL (List.map Ro.cs r) 4 (↑i : Int) ∧ br (true && fitX [CK.list] 0 (List.drop 1 (List.getD (List.map Ro.cs r) (Int.toNat (↑i : Int)) []))) (R Ex.normal [PV.list (List.map Ro.cs r) t, PV.int IntKind.i64 m, PV.int IntKind.i64 0, PV.int IntKind.i64 (wI (x + (↑(List.length (cL (List.drop 1 (List.getD (List.map Ro.cs r) (Int.toNat (↑i : Int)) [])) 0)) : Int))), PV.int IntKind.i64 (wI ((↑i : Int) + 1))] []) False) (R Ex.normal [PV.list (List.map Ro.cs r) t, PV.int IntKind.i64 m, PV.int IntKind.i64 0, PV.int IntKind.i64 x, PV.int IntKind.i64 (wI ((↑i : Int) + 1))] [])) False) (R (Ex.exit 0) [PV.list (List.map Ro.cs r) t, PV.int IntKind.i64 m, PV.int IntKind.i64 0, PV.int IntKind.i64 x, PV.int IntKind.i64 (↑i : Int)] [])) = wpc br Try.prog gl [] [] (fun _ => 0) (subOf [1, 1, 0, 1, 0] (bodyOf Try.f27)) [] (envS [0, 1, 4, 5, 6] [.list (r.map Ro.cs) t, .int .i64 m, .int .i64 0, .int .i64 x, .int .i64 i]) [] (fun ex e H => R ex (List.map e [0, 1, 4, 5, 6]) H) := by kernel_rfl
theorem tk2_vc (r : List Ro) (t : Tail) (m x : Int) (i : Nat) (R : Ex → List PV → Heap → Prop) (h : br (decide ((↑i : Int) < (↑(List.length (List.map Ro.cs r)) : Int))) (InL (List.map Ro.cs r) 4 (↑i : Int) ∧ br (true && fitX [CK.int IntKind.i64] 0 (List.drop 0 (List.getD (List.map Ro.cs r) (Int.toNat (↑i : Int)) []))) (br (cI (List.drop 0 (List.getD (List.map Ro.cs r) (Int.toNat (↑i : Int)) [])) 0 == m) (InL (List.map Ro.cs r) 4 (↑i : Int) ∧ br (true && fitX [CK.list] 0 (List.drop 1 (List.getD (List.map Ro.cs r) (Int.toNat (↑i : Int)) []))) (R Ex.normal [PV.list (List.map Ro.cs r) t, PV.int IntKind.i64 m, PV.int IntKind.i64 0, PV.int IntKind.i64 (wI (x + (↑(List.length (cL (List.drop 1 (List.getD (List.map Ro.cs r) (Int.toNat (↑i : Int)) [])) 0)) : Int))), PV.int IntKind.i64 (wI ((↑i : Int) + 1))] []) False) (R Ex.normal [PV.list (List.map Ro.cs r) t, PV.int IntKind.i64 m, PV.int IntKind.i64 0, PV.int IntKind.i64 x, PV.int IntKind.i64 (wI ((↑i : Int) + 1))] [])) False) (R (Ex.exit 0) [PV.list (List.map Ro.cs r) t, PV.int IntKind.i64 m, PV.int IntKind.i64 0, PV.int IntKind.i64 x, PV.int IntKind.i64 (↑i : Int)] [])) : Holds (wpc br Try.prog gl [] [] (fun _ => 0) (subOf [1, 1, 0, 1, 0] (bodyOf Try.f27)) [] (envS [0, 1, 4, 5, 6] [.list (r.map Ro.cs) t, .int .i64 m, .int .i64 0, .int .i64 x, .int .i64 i]) [] (fun ex e H => R ex (List.map e [0, 1, 4, 5, 6]) H)) := holds_of_eq (tk2_red r t m x i R) h
def great (a : As) : Bool := decide (20 < a.L.length) || decide (20 < a.R.length) || a.L.any (fun t => decide (10 < t.Ps.length)) || a.R.any (fun t => decide (10 < t.Ps.length))
def gr1_l : LSp := fun e H Q => ∃ a : As, a.L.length ≤ 20 ∧ SlIs (List.map e [1, 2, 3]) [.ptr 0 0, .bool false, .int .i64 0] ∧ HpIs H [.cells a.cs] ∧
  (a.L.any (fun t => decide (10 < t.Ps.length)) = true → ∀ i : Int, Q .ret (envS [1, 2, 3] [.ptr 0 0, .bool true, .int .i64 i]) [.cells a.cs]) ∧
  (a.L.any (fun t => decide (10 < t.Ps.length)) = false → ∀ i : Int, Q (.exit 0) (envS [1, 2, 3] [.ptr 0 0, .bool false, .int .i64 i]) [.cells a.cs])
def gr2_l : LSp := fun e H Q => ∃ a : As, a.R.length ≤ 20 ∧ SlIs (List.map e [1, 2, 4]) [.ptr 0 0, .bool false, .int .i64 0] ∧ HpIs H [.cells a.cs] ∧
  (a.R.any (fun t => decide (10 < t.Ps.length)) = true → ∀ j : Int, Q .ret (envS [1, 2, 4] [.ptr 0 0, .bool true, .int .i64 j]) [.cells a.cs]) ∧
  (a.R.any (fun t => decide (10 < t.Ps.length)) = false → ∀ j : Int, Q (.exit 2) (envS [1, 2, 4] [.ptr 0 0, .bool false, .int .i64 j]) [.cells a.cs])
theorem gr1_l_ok : ∀ e H Q, gr1_l e H Q → AW Try.prog gl Try.f24.ntmps (.loop (subOf [1, 1, 0, 1, 0] (bodyOf Try.f24))) Q e H := by
  rintro e H Q ⟨a, hl, he, hH, hy, hn⟩
  refine aw_loop4 (hn := fun _ => 0) gl_low TN_ok (.nil _ _ _ _ _) (σ := Nat) [1, 2, 3] (fun i => i ≤ a.L.length ∧ a.L.any (fun t => decide (10 < t.Ps.length)) = (a.L.drop i).any (fun t => decide (10 < t.Ps.length)))
    (fun i => [.ptr 0 0, .bool false, .int .i64 i]) (fun _ => [.cells a.cs]) (fun i => a.L.length - i) 0 ⟨Nat.zero_le _, rfl⟩ he hH ?_
  rintro i ⟨h1, h2⟩
  refine gr1_vc a i _ ?_
  simp only [br_if, dt, List.length_map, toNat_nat, inL_ti]
  by_cases h : i < a.L.length
  · rw [if_pos (by omega), getD_map Ti.zero h]
    simp only [ti_f, ti_d, en1_length]
    refine ⟨h, ?_⟩
    rw [if_pos (by rfl : (true && true) = true)]
    rw [drop_cons Ti.zero h, List.any_cons] at h2
    by_cases c : 10 < (a.L.getD i Ti.zero).Ps.length
    · rw [if_pos (by omega)]
      rw [decide_eq_true c, Bool.true_or] at h2
      exact hy h2 _
    · rw [if_neg (by omega)]
      rw [decide_eq_false c, Bool.false_or] at h2
      exact ⟨i + 1, (show a.L.length - (i + 1) < a.L.length - i by omega), ⟨by omega, h2⟩, by rw [wI_succ h (by omega)], [], rfl, Nat.le_refl _, .inl rfl⟩
  · rw [if_neg (by omega)]
    rw [drop_all h] at h2
    exact hn h2 _
theorem gr2_l_ok : ∀ e H Q, gr2_l e H Q → AW Try.prog gl Try.f24.ntmps (.loop (subOf [1, 1, 1, 0, 1, 0] (bodyOf Try.f24))) Q e H := by
  rintro e H Q ⟨a, hl, he, hH, hy, hn⟩
  refine aw_loop4 (hn := fun _ => 0) gl_low TN_ok (.nil _ _ _ _ _) (σ := Nat) [1, 2, 4] (fun i => i ≤ a.R.length ∧ a.R.any (fun t => decide (10 < t.Ps.length)) = (a.R.drop i).any (fun t => decide (10 < t.Ps.length)))
    (fun i => [.ptr 0 0, .bool false, .int .i64 i]) (fun _ => [.cells a.cs]) (fun i => a.R.length - i) 0 ⟨Nat.zero_le _, rfl⟩ he hH ?_
  rintro i ⟨h1, h2⟩
  refine gr2_vc a i _ ?_
  simp only [br_if, dt, List.length_map, toNat_nat, inL_ro]
  by_cases h : i < a.R.length
  · rw [if_pos (by omega), getD_map Ro.zero h]
    simp only [ro_f, ro_d, en1_length]
    refine ⟨h, ?_⟩
    rw [if_pos (by rfl : (true && true) = true)]
    rw [drop_cons Ro.zero h, List.any_cons] at h2
    by_cases c : 10 < (a.R.getD i Ro.zero).Ps.length
    · rw [if_pos (by omega)]
      rw [decide_eq_true c, Bool.true_or] at h2
      exact hy h2 _
    · rw [if_neg (by omega)]
      rw [decide_eq_false c, Bool.false_or] at h2
      exact ⟨i + 1, (show a.R.length - (i + 1) < a.R.length - i by omega), ⟨by omega, h2⟩, by rw [wI_succ h (by omega)], [], rfl, Nat.le_refl _, .inl rfl⟩
  · rw [if_neg (by omega)]
    rw [drop_all h] at h2
    exact hn h2 _
def tk1_l : LSp := fun e H Q => ∃ (r : List Ro) (t : Tail), RsOk r ∧ NT t ∧ SlIs (List.map e [2, 3, 6, 7, 8]) [.int .i64 0, .int .i64 0, .list (r.map Ro.cs) t, .int .i64 r.length, .int .i64 0] ∧ HpIs H [] ∧
  Q (.exit 0) (envS [2, 3, 6, 7, 8] [.int .i64 (tk 1 r), .int .i64 (tk 2 r), .list (r.map Ro.cs) t, .int .i64 r.length, .int .i64 r.length]) []
def tk2_l : LSp := fun e H Q => ∃ (r : List Ro) (t : Tail) (m : Int), RsOk r ∧ SlIs (List.map e [0, 1, 4, 5, 6]) [.list (r.map Ro.cs) t, .int .i64 m, .int .i64 0, .int .i64 0, .int .i64 0] ∧ HpIs H [] ∧
  Q (.exit 0) (envS [0, 1, 4, 5, 6] [.list (r.map Ro.cs) t, .int .i64 m, .int .i64 0, .int .i64 (tk m r), .int .i64 r.length]) []
theorem tk1_l_ok : ∀ e H Q, tk1_l e H Q → AW Try.prog gl Try.f25.ntmps (.loop (subOf [1, 0, 1, 0] (bodyOf Try.f25))) Q e H := by
  rintro e H Q ⟨r, t, hr, ht, he, hH, hQ⟩
  have hlen := hr.1
  refine aw_loop4 (hn := fun _ => 0) gl_low TN_ok (.nil _ _ _ _ _) (σ := Nat) [2, 3, 6, 7, 8] (fun i => i ≤ r.length) (fun i => [.int .i64 (tk 1 (r.take i)), .int .i64 (tk 2 (r.take i)), .list (r.map Ro.cs) t, .int .i64 r.length, .int .i64 i])
    (fun _ => []) (fun i => r.length - i) 0 (Nat.zero_le _) he hH ?_
  intro i h1
  refine tk1_vc r t (tk 1 (r.take i)) (tk 2 (r.take i)) i _ ?_
  simp only [br_if, dt, toNat_nat, inL_ro]
  by_cases h : i < r.length
  · rw [if_pos (by omega), getD_map Ro.zero h]
    simp only [ro_f, ro_c, en1_length]
    refine ⟨h, ?_⟩
    rw [if_pos (by rfl : (true && true) = true)]
    have hp := (hr.2 _ (getD_mem (d := Ro.zero) h)).2
    have k1 := tk_small 1 hr i
    have k2 := tk_small 2 hr i
    have e1 := tk_take 1 h
    have e2 := tk_take 2 h
    generalize r.getD i Ro.zero = x at *
    rw [w_small (n := tk 1 (r.take i) + x.Ps.length) (by omega) (by omega), w_small (n := tk 2 (r.take i) + x.Ps.length) (by omega) (by omega), wI_succ h (by omega)]
    simp only [beq_I]
    have lo : ∀ j : Nat, ∀ v ∈ [PV.int .i64 (tk 1 (r.take j)), .int .i64 (tk 2 (r.take j)), .list (r.map Ro.cs) t, .int .i64 r.length, .int .i64 j], Low 0 v := by
      intro j v hv
      simp only [List.mem_cons, List.not_mem_nil, or_false] at hv
      rcases hv with rfl | rfl | rfl | rfl | rfl <;> first | exact .int _ _ | exact low_list ht (low_rs hr)
    by_cases c1 : x.Team = 1
    · rw [if_pos c1]
      rw [if_pos c1] at e1
      rw [if_neg (by omega)] at e2
      exact ⟨i + 1, (show r.length - (i + 1) < r.length - i by omega), by omega, by simp only [e1, e2, Int.add_zero], _, rfl, Nat.le_refl _, .inr ⟨lo _, by simp⟩⟩
    rw [if_neg c1]
    rw [if_neg c1] at e1
    by_cases c2 : x.Team = 2
    · rw [if_pos c2]
      rw [if_pos c2] at e2
      exact ⟨i + 1, (show r.length - (i + 1) < r.length - i by omega), by omega, by simp only [e1, e2, Int.add_zero], _, rfl, Nat.le_refl _, .inr ⟨lo _, by simp⟩⟩
    rw [if_neg c2]
    rw [if_neg c2] at e2
    exact ⟨i + 1, (show r.length - (i + 1) < r.length - i by omega), by omega, by simp only [e1, e2, Int.add_zero], _, rfl, Nat.le_refl _, .inr ⟨lo _, by simp⟩⟩
  · rw [if_neg (by omega)]
    have : i = r.length := by omega
    subst this
    rw [List.take_length]
    exact hQ
theorem tk2_l_ok : ∀ e H Q, tk2_l e H Q → AW Try.prog gl Try.f27.ntmps (.loop (subOf [1, 1, 0, 1, 0] (bodyOf Try.f27))) Q e H := by
  rintro e H Q ⟨r, t, m, hr, he, hH, hQ⟩
  have hlen := hr.1
  refine aw_loop4 (hn := fun _ => 0) gl_low TN_ok (.nil _ _ _ _ _) (σ := Nat) [0, 1, 4, 5, 6] (fun i => i ≤ r.length) (fun i => [.list (r.map Ro.cs) t, .int .i64 m, .int .i64 0, .int .i64 (tk m (r.take i)), .int .i64 i])
    (fun _ => []) (fun i => r.length - i) 0 (Nat.zero_le _) he hH ?_
  intro i h1
  refine tk2_vc r t m (tk m (r.take i)) i _ ?_
  simp only [br_if, dt, List.length_map, toNat_nat, inL_ro]
  by_cases h : i < r.length
  · rw [if_pos (by omega), getD_map Ro.zero h]
    simp only [ro_f, ro_d, en1_length]
    refine ⟨h, ?_⟩
    rw [if_pos (by rfl : (true && true) = true)]
    have hp := (hr.2 _ (getD_mem (d := Ro.zero) h)).2
    have k1 := tk_small m hr i
    have e1 := tk_take m h
    generalize r.getD i Ro.zero = x at *
    rw [w_small (n := tk m (r.take i) + x.Ps.length) (by omega) (by omega), wI_succ h (by omega)]
    simp only [beq_I]
    by_cases c1 : x.Team = m
    · rw [if_pos c1]
      rw [if_pos c1] at e1
      refine ⟨h, ?_⟩
      rw [if_pos (by rfl : (true && true) = true)]
      exact ⟨i + 1, (show r.length - (i + 1) < r.length - i by omega), by omega, by simp only [e1], [], rfl, Nat.le_refl _, .inl rfl⟩
    · rw [if_neg c1]
      rw [if_neg c1] at e1
      exact ⟨i + 1, (show r.length - (i + 1) < r.length - i by omega), by omega, by simp only [e1, Int.add_zero], [], rfl, Nat.le_refl _, .inl rfl⟩
  · rw [if_neg (by omega)]
    have : i = r.length := by omega
    subst this
    rw [List.take_length]
    exact hQ
theorem great_red (a : As) (K : PV → Prop) : (br (decide ((↑(List.length (List.map Ti.cs (As.L a))) : Int) > 20) == false) (br (decide ((↑(List.length (List.map Ro.cs (As.R a))) : Int) > 20)) (K (PV.bool true)) (∃ (a_1 : As), List.length (As.L a_1) ≤ 20 ∧ SlIs [PV.ptr 0 0, PV.bool false, PV.int IntKind.i64 0] [PV.ptr 0 0, PV.bool false, PV.int IntKind.i64 0] ∧ HpIs [Ob.cells [PV.int IntKind.i64 (Mo.K (As.M a)), PV.int IntKind.i64 (Mo.Base (As.M a)), PV.int IntKind.i64 (Mo.Step (As.M a)), PV.int IntKind.i64 (Mo.Cap (As.M a)), PV.int IntKind.i64 (Mo.Every (As.M a)), PV.int IntKind.i64 (As.Now a), PV.list (List.map Ti.cs (As.L a)) Tail.no, PV.list (List.map Ro.cs (As.R a)) Tail.no]] [Ob.cells [PV.int IntKind.i64 (Mo.K (As.M a_1)), PV.int IntKind.i64 (Mo.Base (As.M a_1)), PV.int IntKind.i64 (Mo.Step (As.M a_1)), PV.int IntKind.i64 (Mo.Cap (As.M a_1)), PV.int IntKind.i64 (Mo.Every (As.M a_1)), PV.int IntKind.i64 (As.Now a_1), PV.list (List.map Ti.cs (As.L a_1)) Tail.no, PV.list (List.map Ro.cs (As.R a_1)) Tail.no]] ∧ ((List.any (As.L a_1) fun (t : Ti) => decide (10 < List.length (Ti.Ps t))) = true → ∀ (_ : Int), K (PV.bool true)) ∧ ((List.any (As.L a_1) fun (t : Ti) => decide (10 < List.length (Ti.Ps t))) = false → ∀ (_ : Int), ∃ (a : As), List.length (As.R a) ≤ 20 ∧ SlIs [PV.ptr 0 0, PV.bool false, PV.int IntKind.i64 0] [PV.ptr 0 0, PV.bool false, PV.int IntKind.i64 0] ∧ HpIs [Ob.cells [PV.int IntKind.i64 (Mo.K (As.M a_1)), PV.int IntKind.i64 (Mo.Base (As.M a_1)), PV.int IntKind.i64 (Mo.Step (As.M a_1)), PV.int IntKind.i64 (Mo.Cap (As.M a_1)), PV.int IntKind.i64 (Mo.Every (As.M a_1)), PV.int IntKind.i64 (As.Now a_1), PV.list (List.map Ti.cs (As.L a_1)) Tail.no, PV.list (List.map Ro.cs (As.R a_1)) Tail.no]] [Ob.cells [PV.int IntKind.i64 (Mo.K (As.M a)), PV.int IntKind.i64 (Mo.Base (As.M a)), PV.int IntKind.i64 (Mo.Step (As.M a)), PV.int IntKind.i64 (Mo.Cap (As.M a)), PV.int IntKind.i64 (Mo.Every (As.M a)), PV.int IntKind.i64 (As.Now a), PV.list (List.map Ti.cs (As.L a)) Tail.no, PV.list (List.map Ro.cs (As.R a)) Tail.no]] ∧ ((List.any (As.R a) fun (t : Ro) => decide (10 < List.length (Ro.Ps t))) = true → ∀ (_ : Int), K (PV.bool true)) ∧ ((List.any (As.R a) fun (t : Ro) => decide (10 < List.length (Ro.Ps t))) = false → ∀ (_ : Int), K (PV.bool false))))) (K (PV.bool true))) = wpc br Try.prog gl TN [([1, 1, 0, 1, 0], gr1_l), ([1, 1, 1, 0, 1, 0], gr2_l)] (fun _ => 0) (bodyOf Try.f24) [] (env0 [a.pv]) [] (resQ Try.prog Try.f24.results.toList (fun x _ => K x)) := by kernel_rfl
theorem great_vc (a : As) (K : PV → Prop) (h : br (decide ((↑(List.length (List.map Ti.cs (As.L a))) : Int) > 20) == false) (br (decide ((↑(List.length (List.map Ro.cs (As.R a))) : Int) > 20)) (K (PV.bool true)) (∃ (a_1 : As), List.length (As.L a_1) ≤ 20 ∧ SlIs [PV.ptr 0 0, PV.bool false, PV.int IntKind.i64 0] [PV.ptr 0 0, PV.bool false, PV.int IntKind.i64 0] ∧ HpIs [Ob.cells [PV.int IntKind.i64 (Mo.K (As.M a)), PV.int IntKind.i64 (Mo.Base (As.M a)), PV.int IntKind.i64 (Mo.Step (As.M a)), PV.int IntKind.i64 (Mo.Cap (As.M a)), PV.int IntKind.i64 (Mo.Every (As.M a)), PV.int IntKind.i64 (As.Now a), PV.list (List.map Ti.cs (As.L a)) Tail.no, PV.list (List.map Ro.cs (As.R a)) Tail.no]] [Ob.cells [PV.int IntKind.i64 (Mo.K (As.M a_1)), PV.int IntKind.i64 (Mo.Base (As.M a_1)), PV.int IntKind.i64 (Mo.Step (As.M a_1)), PV.int IntKind.i64 (Mo.Cap (As.M a_1)), PV.int IntKind.i64 (Mo.Every (As.M a_1)), PV.int IntKind.i64 (As.Now a_1), PV.list (List.map Ti.cs (As.L a_1)) Tail.no, PV.list (List.map Ro.cs (As.R a_1)) Tail.no]] ∧ ((List.any (As.L a_1) fun (t : Ti) => decide (10 < List.length (Ti.Ps t))) = true → ∀ (_ : Int), K (PV.bool true)) ∧ ((List.any (As.L a_1) fun (t : Ti) => decide (10 < List.length (Ti.Ps t))) = false → ∀ (_ : Int), ∃ (a : As), List.length (As.R a) ≤ 20 ∧ SlIs [PV.ptr 0 0, PV.bool false, PV.int IntKind.i64 0] [PV.ptr 0 0, PV.bool false, PV.int IntKind.i64 0] ∧ HpIs [Ob.cells [PV.int IntKind.i64 (Mo.K (As.M a_1)), PV.int IntKind.i64 (Mo.Base (As.M a_1)), PV.int IntKind.i64 (Mo.Step (As.M a_1)), PV.int IntKind.i64 (Mo.Cap (As.M a_1)), PV.int IntKind.i64 (Mo.Every (As.M a_1)), PV.int IntKind.i64 (As.Now a_1), PV.list (List.map Ti.cs (As.L a_1)) Tail.no, PV.list (List.map Ro.cs (As.R a_1)) Tail.no]] [Ob.cells [PV.int IntKind.i64 (Mo.K (As.M a)), PV.int IntKind.i64 (Mo.Base (As.M a)), PV.int IntKind.i64 (Mo.Step (As.M a)), PV.int IntKind.i64 (Mo.Cap (As.M a)), PV.int IntKind.i64 (Mo.Every (As.M a)), PV.int IntKind.i64 (As.Now a), PV.list (List.map Ti.cs (As.L a)) Tail.no, PV.list (List.map Ro.cs (As.R a)) Tail.no]] ∧ ((List.any (As.R a) fun (t : Ro) => decide (10 < List.length (Ro.Ps t))) = true → ∀ (_ : Int), K (PV.bool true)) ∧ ((List.any (As.R a) fun (t : Ro) => decide (10 < List.length (Ro.Ps t))) = false → ∀ (_ : Int), K (PV.bool false))))) (K (PV.bool true))) : ACalls Try.prog gl 24 [a.pv] [] (fun x _ => K x) :=
  acalls_of_wpc2 (T := TN) (L := [([1, 1, 0, 1, 0], gr1_l), ([1, 1, 1, 0, 1, 0], gr2_l)]) (fun _ => 0) Try.func24 (by kernel_rfl) (by kernel_rfl) (by kernel_rfl) (TN_ok) (.cons (sub_of (by kernel_rfl)) gr1_l_ok (.cons (sub_of (by kernel_rfl)) gr2_l_ok (.nil _ _ _ _ _))) (holds_of_eq (great_red a K) h)
theorem taken1_red (r : List Ro) (t : Tail) (K : PV → Prop) : (∃ (r_1 : List Ro), ∃ (t_1 : Tail), RsOk r_1 ∧ NT t_1 ∧ SlIs [PV.int IntKind.i64 0, PV.int IntKind.i64 0, PV.list (List.map Ro.cs r) t, PV.int IntKind.i64 (↑(List.length (List.map Ro.cs r)) : Int), PV.int IntKind.i64 0] [PV.int IntKind.i64 0, PV.int IntKind.i64 0, PV.list (List.map Ro.cs r_1) t_1, PV.int IntKind.i64 (↑(List.length r_1) : Int), PV.int IntKind.i64 0] ∧ HpIs [] [] ∧ K (PV.tup [PV.int IntKind.i64 (tk 1 r_1), PV.int IntKind.i64 (tk 2 r_1)])) = wpc br Try.prog gl TN [([1, 0, 1, 0], tk1_l)] (fun _ => 0) (bodyOf Try.f25) [] (env0 [.list (r.map Ro.cs) t]) [] (resQ Try.prog Try.f25.results.toList (fun x _ => K x)) := by kernel_rfl
theorem taken1_vc (r : List Ro) (t : Tail) (K : PV → Prop) (h : ∃ (r_1 : List Ro), ∃ (t_1 : Tail), RsOk r_1 ∧ NT t_1 ∧ SlIs [PV.int IntKind.i64 0, PV.int IntKind.i64 0, PV.list (List.map Ro.cs r) t, PV.int IntKind.i64 (↑(List.length (List.map Ro.cs r)) : Int), PV.int IntKind.i64 0] [PV.int IntKind.i64 0, PV.int IntKind.i64 0, PV.list (List.map Ro.cs r_1) t_1, PV.int IntKind.i64 (↑(List.length r_1) : Int), PV.int IntKind.i64 0] ∧ HpIs [] [] ∧ K (PV.tup [PV.int IntKind.i64 (tk 1 r_1), PV.int IntKind.i64 (tk 2 r_1)])) : ACalls Try.prog gl 25 [.list (r.map Ro.cs) t] [] (fun x _ => K x) :=
  acalls_of_wpc2 (T := TN) (L := [([1, 0, 1, 0], tk1_l)]) (fun _ => 0) Try.func25 (by kernel_rfl) (by kernel_rfl) (by kernel_rfl) (TN_ok) (.cons (sub_of (by kernel_rfl)) tk1_l_ok (.nil _ _ _ _ _)) (holds_of_eq (taken1_red r t K) h)
theorem taken2_red (r : List Ro) (t : Tail) (m : Int) (K : PV → Prop) : (∃ (r_1 : List Ro), ∃ (t_1 : Tail), ∃ (m_1 : Int), RsOk r_1 ∧ SlIs [PV.list (List.map Ro.cs r) t, PV.int IntKind.i64 m, PV.int IntKind.i64 0, PV.int IntKind.i64 0, PV.int IntKind.i64 0] [PV.list (List.map Ro.cs r_1) t_1, PV.int IntKind.i64 m_1, PV.int IntKind.i64 0, PV.int IntKind.i64 0, PV.int IntKind.i64 0] ∧ HpIs [] [] ∧ K (PV.int IntKind.i64 (tk m_1 r_1))) = wpc br Try.prog gl TN [([1, 1, 0, 1, 0], tk2_l)] (fun _ => 0) (bodyOf Try.f27) [] (env0 [.list (r.map Ro.cs) t, .int .i64 m]) [] (resQ Try.prog Try.f27.results.toList (fun x _ => K x)) := by kernel_rfl
theorem taken2_vc (r : List Ro) (t : Tail) (m : Int) (K : PV → Prop) (h : ∃ (r_1 : List Ro), ∃ (t_1 : Tail), ∃ (m_1 : Int), RsOk r_1 ∧ SlIs [PV.list (List.map Ro.cs r) t, PV.int IntKind.i64 m, PV.int IntKind.i64 0, PV.int IntKind.i64 0, PV.int IntKind.i64 0] [PV.list (List.map Ro.cs r_1) t_1, PV.int IntKind.i64 m_1, PV.int IntKind.i64 0, PV.int IntKind.i64 0, PV.int IntKind.i64 0] ∧ HpIs [] [] ∧ K (PV.int IntKind.i64 (tk m_1 r_1))) : ACalls Try.prog gl 27 [.list (r.map Ro.cs) t, .int .i64 m] [] (fun x _ => K x) :=
  acalls_of_wpc2 (T := TN) (L := [([1, 1, 0, 1, 0], tk2_l)]) (fun _ => 0) Try.func27 (by kernel_rfl) (by kernel_rfl) (by kernel_rfl) (TN_ok) (.cons (sub_of (by kernel_rfl)) tk2_l_ok (.nil _ _ _ _ _)) (holds_of_eq (taken2_red r t m K) h)
theorem amode_red (a : As) (K : PV → Prop) : (K (PV.agg [PV.int IntKind.i64 (Mo.K (As.M a)), PV.int IntKind.i64 (Mo.Base (As.M a)), PV.int IntKind.i64 (Mo.Step (As.M a)), PV.int IntKind.i64 (Mo.Cap (As.M a)), PV.int IntKind.i64 (Mo.Every (As.M a))])) = wpc br Try.prog gl TN [] (fun _ => 0) (bodyOf Try.f29) [] (env0 [a.pv]) [] (resQ Try.prog Try.f29.results.toList (fun x _ => K x)) := by kernel_rfl
theorem amode_vc (a : As) (K : PV → Prop) (h : K (PV.agg [PV.int IntKind.i64 (Mo.K (As.M a)), PV.int IntKind.i64 (Mo.Base (As.M a)), PV.int IntKind.i64 (Mo.Step (As.M a)), PV.int IntKind.i64 (Mo.Cap (As.M a)), PV.int IntKind.i64 (Mo.Every (As.M a))])) : ACalls Try.prog gl 29 [a.pv] [] (fun x _ => K x) :=
  acalls_of_wpc2 (T := TN) (L := []) (fun _ => 0) Try.func29 (by kernel_rfl) (by kernel_rfl) (by kernel_rfl) (TN_ok) (LOk.nil _ _ _ _ _) (holds_of_eq (amode_red a K) h)
def great_s (args : List PV) (K : PV → Prop) : Prop := ∃ a : As, SlIs args [a.pv] ∧ (∀ t ∈ a.L, NT t.Pt) ∧ (∀ t ∈ a.R, NT t.Pt) ∧ K (.bool (great a))
theorem low_as {n : Nat} {a : As} (h1 : ∀ t ∈ a.L, NT t.Pt) (h2 : ∀ t ∈ a.R, NT t.Pt) : Low n a.pv := by
  refine .agg _ fun x hx => ?_
  simp only [List.mem_cons, List.not_mem_nil, or_false] at hx
  rcases hx with rfl | rfl | rfl | rfl | rfl | rfl | rfl | rfl <;> first | exact .int _ _ | exact low_list NT.no (low_map fun b hb => low_ti (h1 b hb)) | exact low_list NT.no (low_map fun b hb => low_ro (h2 b hb))
theorem great_ok : SpOk Try.prog gl 24 (.pure great_s) := by
  rintro args K ⟨a, he, h1, h2, hk⟩
  have he : args = _ := he
  subst he
  refine spure gl_low (by intro x hx; simp only [List.mem_cons, List.not_mem_nil, or_false] at hx; subst hx; exact low_as h1 h2) (.bool _) (great_vc a (fun x => x = .bool (great a)) ?_) hk
  simp only [br_if, dt, df, bf, List.length_map]
  by_cases c1 : 20 < a.L.length
  · rw [if_neg (by omega)]; unfold great; rw [decide_eq_true c1]; rfl
  rw [if_pos (by omega)]
  by_cases c2 : 20 < a.R.length
  · rw [if_pos (by omega)]; unfold great; rw [decide_eq_true c2, Bool.or_true]; rfl
  rw [if_neg (by omega)]
  have hg : great a = (a.L.any (fun t => decide (10 < t.Ps.length)) || a.R.any (fun t => decide (10 < t.Ps.length))) := by
    unfold great; rw [decide_eq_false c1, decide_eq_false c2]; rfl
  refine ⟨a, by omega, rfl, rfl, fun h _ => by rw [hg, h]; rfl, fun h _ => ⟨a, by omega, rfl, rfl, fun h2 _ => by rw [hg, h2, Bool.or_true], fun h2 _ => by rw [hg, h, h2]; rfl⟩⟩
theorem great_no {a : As} (h : great a = false) : a.L.length ≤ 20 ∧ a.R.length ≤ 20 ∧ (∀ t ∈ a.L, t.Ps.length ≤ 10) ∧ (∀ t ∈ a.R, t.Ps.length ≤ 10) := by
  unfold great at h
  rw [Bool.or_eq_false_iff, Bool.or_eq_false_iff, Bool.or_eq_false_iff] at h
  obtain ⟨⟨⟨h1, h2⟩, h3⟩, h4⟩ := h
  rw [decide_eq_false_iff_not] at h1 h2
  rw [List.any_eq_false] at h3 h4
  refine ⟨by omega, by omega, fun t ht => ?_, fun t ht => ?_⟩
  · have := h3 t ht; rw [decide_eq_true_eq] at this; omega
  · have := h4 t ht; rw [decide_eq_true_eq] at this; omega
def taken1_s (args : List PV) (K : PV → Prop) : Prop := ∃ (r : List Ro) (t : Tail), SlIs args [.list (r.map Ro.cs) t] ∧ RsOk r ∧ K (.tup [.int .i64 (tk 1 r), .int .i64 (tk 2 r)])
def taken2_s (args : List PV) (K : PV → Prop) : Prop := ∃ (r : List Ro) (t : Tail) (m : Int), SlIs args [.list (r.map Ro.cs) t, .int .i64 m] ∧ RsOk r ∧ K (.int .i64 (tk m r))
theorem taken1_ok : SpOk Try.prog gl 25 (.pure taken1_s) := by
  rintro args K ⟨r, t, he, hr, hk⟩
  have he : args = _ := he
  subst he
  refine spure_w gl_low (.cons (.list _ _) .nil) (by intro x hx; simp only [List.mem_cons, List.not_mem_nil, or_false] at hx; subst hx; exact low_list NT.no (low_rs hr)) (.tup _ (by intro x hx; simp only [List.mem_cons, List.not_mem_nil, or_false] at hx; rcases hx with rfl | rfl <;> exact .int _ _)) (taken1_vc r .no (fun x => x = .tup [.int .i64 (tk 1 r), .int .i64 (tk 2 r)]) ⟨r, .no, hr, NT.no, ?_, rfl, rfl⟩) hk
  simp only [List.length_map]; rfl
theorem taken2_ok : SpOk Try.prog gl 27 (.pure taken2_s) := by
  rintro args K ⟨r, t, m, he, hr, hk⟩
  have he : args = _ := he
  subst he
  exact spure_w gl_low (.cons (.list _ _) (.cons (.refl _) .nil)) (by intro x hx; simp only [List.mem_cons, List.not_mem_nil, or_false] at hx; rcases hx with rfl | rfl; exact low_list NT.no (low_rs hr); exact .int _ _) (.int _ _) (taken2_vc r .no m (fun x => x = .int .i64 (tk m r)) ⟨r, .no, m, hr, rfl, rfl, rfl⟩) hk
def amode_s (args : List PV) (K : PV → Prop) : Prop := ∃ a : As, SlIs args [a.pv] ∧ (∀ t ∈ a.L, NT t.Pt) ∧ (∀ t ∈ a.R, NT t.Pt) ∧ K a.M.pv
theorem amode_ok : SpOk Try.prog gl 29 (.pure amode_s) := by
  rintro args K ⟨a, he, h1, h2, hk⟩
  have he : args = _ := he
  subst he
  exact spure gl_low (by intro x hx; simp only [List.mem_cons, List.not_mem_nil, or_false] at hx; subst hx; exact low_as h1 h2) (by unfold Mo.pv; simp [low_int, low_agg]) (amode_vc a (fun x => x = a.M.pv) rfl) hk
def TX : Tab := (24, .pure great_s) :: (25, .pure taken1_s) :: (27, .pure taken2_s) :: (29, .pure amode_s) :: TN
theorem TX_ok : TabOk Try.prog gl TX := .cons great_ok (.cons taken1_ok (.cons taken2_ok (.cons amode_ok TN_ok)))
theorem team1_red (m : Mo) (p : Int) (r : List Ro) (t : Tail) (K : PV → Prop) : (∃ (r_1 : List Ro), ∃ (t_1 : Tail), SlIs [PV.list (List.map Ro.cs r) t] [PV.list (List.map Ro.cs r_1) t_1] ∧ RsOk r_1 ∧ br ((wrongM m != S0) == false) (br (decide (p < 1) == false) (br (decide (p > Mo.K m)) (K (PV.int IntKind.i64 0)) (br (decide (tk 1 r_1 ≤ wI (Mo.K m - p)) == true) (br (decide (tk 1 r_1 ≤ tk 2 r_1)) (K (PV.int IntKind.i64 1)) (br (decide (tk 2 r_1 ≤ wI (Mo.K m - p))) (K (PV.int IntKind.i64 2)) (K (PV.int IntKind.i64 0)))) (br (decide (tk 2 r_1 ≤ wI (Mo.K m - p))) (K (PV.int IntKind.i64 2)) (K (PV.int IntKind.i64 0))))) (K (PV.int IntKind.i64 0))) (K (PV.int IntKind.i64 0))) = wpc br Try.prog gl TX [] (fun _ => 0) (bodyOf Try.f28) [] (env0 [m.pv, .int .i64 p, .list (r.map Ro.cs) t]) [] (resQ Try.prog Try.f28.results.toList (fun x _ => K x)) := by kernel_rfl
theorem team1_vc (m : Mo) (p : Int) (r : List Ro) (t : Tail) (K : PV → Prop) (h : ∃ (r_1 : List Ro), ∃ (t_1 : Tail), SlIs [PV.list (List.map Ro.cs r) t] [PV.list (List.map Ro.cs r_1) t_1] ∧ RsOk r_1 ∧ br ((wrongM m != S0) == false) (br (decide (p < 1) == false) (br (decide (p > Mo.K m)) (K (PV.int IntKind.i64 0)) (br (decide (tk 1 r_1 ≤ wI (Mo.K m - p)) == true) (br (decide (tk 1 r_1 ≤ tk 2 r_1)) (K (PV.int IntKind.i64 1)) (br (decide (tk 2 r_1 ≤ wI (Mo.K m - p))) (K (PV.int IntKind.i64 2)) (K (PV.int IntKind.i64 0)))) (br (decide (tk 2 r_1 ≤ wI (Mo.K m - p))) (K (PV.int IntKind.i64 2)) (K (PV.int IntKind.i64 0))))) (K (PV.int IntKind.i64 0))) (K (PV.int IntKind.i64 0))) : ACalls Try.prog gl 28 [m.pv, .int .i64 p, .list (r.map Ro.cs) t] [] (fun x _ => K x) :=
  acalls_of_wpc2 (T := TX) (L := []) (fun _ => 0) Try.func28 (by kernel_rfl) (by kernel_rfl) (by kernel_rfl) (TX_ok) (LOk.nil _ _ _ _ _) (holds_of_eq (team1_red m p r t K) h)
theorem tm2_red (m : Mo) (p : Int) (r : List Ro) (t : Tail) (b i : Int) (R : Ex → List PV → Heap → Prop) : (br (decide (i ≤ 2)) (∃ (r_1 : List Ro), ∃ (t_1 : Tail), ∃ (m_1 : Int), SlIs [PV.list (List.map Ro.cs r) t, PV.int IntKind.i64 i] [PV.list (List.map Ro.cs r_1) t_1, PV.int IntKind.i64 m_1] ∧ RsOk r_1 ∧ br (decide (tk m_1 r_1 ≤ wI (Mo.K m - p)) == true) (br ((b == 0) == false) (∃ (r_2 : List Ro), ∃ (t_2 : Tail), ∃ (m_2 : Int), SlIs [PV.list (List.map Ro.cs r) t, PV.int IntKind.i64 i] [PV.list (List.map Ro.cs r_2) t_2, PV.int IntKind.i64 m_2] ∧ RsOk r_2 ∧ ∃ (r_3 : List Ro), ∃ (t_3 : Tail), ∃ (m_3 : Int), SlIs [PV.list (List.map Ro.cs r) t, PV.int IntKind.i64 b] [PV.list (List.map Ro.cs r_3) t_3, PV.int IntKind.i64 m_3] ∧ RsOk r_3 ∧ br (decide (tk m_2 r_2 < tk m_3 r_3)) (R Ex.normal [PV.int IntKind.i64 p, PV.list (List.map Ro.cs r) t, PV.ptr 0 0, PV.int IntKind.i64 0, PV.int IntKind.i64 i, PV.int IntKind.i64 (wI (i + 1))] [Ob.cells [PV.int IntKind.i64 (Mo.K m), PV.int IntKind.i64 (Mo.Base m), PV.int IntKind.i64 (Mo.Step m), PV.int IntKind.i64 (Mo.Cap m), PV.int IntKind.i64 (Mo.Every m)]]) (R Ex.normal [PV.int IntKind.i64 p, PV.list (List.map Ro.cs r) t, PV.ptr 0 0, PV.int IntKind.i64 0, PV.int IntKind.i64 b, PV.int IntKind.i64 (wI (i + 1))] [Ob.cells [PV.int IntKind.i64 (Mo.K m), PV.int IntKind.i64 (Mo.Base m), PV.int IntKind.i64 (Mo.Step m), PV.int IntKind.i64 (Mo.Cap m), PV.int IntKind.i64 (Mo.Every m)]])) (R Ex.normal [PV.int IntKind.i64 p, PV.list (List.map Ro.cs r) t, PV.ptr 0 0, PV.int IntKind.i64 0, PV.int IntKind.i64 i, PV.int IntKind.i64 (wI (i + 1))] [Ob.cells [PV.int IntKind.i64 (Mo.K m), PV.int IntKind.i64 (Mo.Base m), PV.int IntKind.i64 (Mo.Step m), PV.int IntKind.i64 (Mo.Cap m), PV.int IntKind.i64 (Mo.Every m)]])) (R Ex.normal [PV.int IntKind.i64 p, PV.list (List.map Ro.cs r) t, PV.ptr 0 0, PV.int IntKind.i64 0, PV.int IntKind.i64 b, PV.int IntKind.i64 (wI (i + 1))] [Ob.cells [PV.int IntKind.i64 (Mo.K m), PV.int IntKind.i64 (Mo.Base m), PV.int IntKind.i64 (Mo.Step m), PV.int IntKind.i64 (Mo.Cap m), PV.int IntKind.i64 (Mo.Every m)]])) (R (Ex.exit 0) [PV.int IntKind.i64 p, PV.list (List.map Ro.cs r) t, PV.ptr 0 0, PV.int IntKind.i64 0, PV.int IntKind.i64 b, PV.int IntKind.i64 i] [Ob.cells [PV.int IntKind.i64 (Mo.K m), PV.int IntKind.i64 (Mo.Base m), PV.int IntKind.i64 (Mo.Step m), PV.int IntKind.i64 (Mo.Cap m), PV.int IntKind.i64 (Mo.Every m)]])) = wpc br Try.prog gl TX [] (fun _ => 0) (subOf [1, 1, 1, 0, 1, 0] (bodyOf Try.f30)) [] (envS [1, 2, 3, 6, 7, 8] [.int .i64 p, .list (r.map Ro.cs) t, .ptr 0 0, .int .i64 0, .int .i64 b, .int .i64 i]) [.cells m.cs] (fun ex e H => R ex (List.map e [1, 2, 3, 6, 7, 8]) H) := by kernel_rfl
theorem tm2_vc (m : Mo) (p : Int) (r : List Ro) (t : Tail) (b i : Int) (R : Ex → List PV → Heap → Prop) (h : br (decide (i ≤ 2)) (∃ (r_1 : List Ro), ∃ (t_1 : Tail), ∃ (m_1 : Int), SlIs [PV.list (List.map Ro.cs r) t, PV.int IntKind.i64 i] [PV.list (List.map Ro.cs r_1) t_1, PV.int IntKind.i64 m_1] ∧ RsOk r_1 ∧ br (decide (tk m_1 r_1 ≤ wI (Mo.K m - p)) == true) (br ((b == 0) == false) (∃ (r_2 : List Ro), ∃ (t_2 : Tail), ∃ (m_2 : Int), SlIs [PV.list (List.map Ro.cs r) t, PV.int IntKind.i64 i] [PV.list (List.map Ro.cs r_2) t_2, PV.int IntKind.i64 m_2] ∧ RsOk r_2 ∧ ∃ (r_3 : List Ro), ∃ (t_3 : Tail), ∃ (m_3 : Int), SlIs [PV.list (List.map Ro.cs r) t, PV.int IntKind.i64 b] [PV.list (List.map Ro.cs r_3) t_3, PV.int IntKind.i64 m_3] ∧ RsOk r_3 ∧ br (decide (tk m_2 r_2 < tk m_3 r_3)) (R Ex.normal [PV.int IntKind.i64 p, PV.list (List.map Ro.cs r) t, PV.ptr 0 0, PV.int IntKind.i64 0, PV.int IntKind.i64 i, PV.int IntKind.i64 (wI (i + 1))] [Ob.cells [PV.int IntKind.i64 (Mo.K m), PV.int IntKind.i64 (Mo.Base m), PV.int IntKind.i64 (Mo.Step m), PV.int IntKind.i64 (Mo.Cap m), PV.int IntKind.i64 (Mo.Every m)]]) (R Ex.normal [PV.int IntKind.i64 p, PV.list (List.map Ro.cs r) t, PV.ptr 0 0, PV.int IntKind.i64 0, PV.int IntKind.i64 b, PV.int IntKind.i64 (wI (i + 1))] [Ob.cells [PV.int IntKind.i64 (Mo.K m), PV.int IntKind.i64 (Mo.Base m), PV.int IntKind.i64 (Mo.Step m), PV.int IntKind.i64 (Mo.Cap m), PV.int IntKind.i64 (Mo.Every m)]])) (R Ex.normal [PV.int IntKind.i64 p, PV.list (List.map Ro.cs r) t, PV.ptr 0 0, PV.int IntKind.i64 0, PV.int IntKind.i64 i, PV.int IntKind.i64 (wI (i + 1))] [Ob.cells [PV.int IntKind.i64 (Mo.K m), PV.int IntKind.i64 (Mo.Base m), PV.int IntKind.i64 (Mo.Step m), PV.int IntKind.i64 (Mo.Cap m), PV.int IntKind.i64 (Mo.Every m)]])) (R Ex.normal [PV.int IntKind.i64 p, PV.list (List.map Ro.cs r) t, PV.ptr 0 0, PV.int IntKind.i64 0, PV.int IntKind.i64 b, PV.int IntKind.i64 (wI (i + 1))] [Ob.cells [PV.int IntKind.i64 (Mo.K m), PV.int IntKind.i64 (Mo.Base m), PV.int IntKind.i64 (Mo.Step m), PV.int IntKind.i64 (Mo.Cap m), PV.int IntKind.i64 (Mo.Every m)]])) (R (Ex.exit 0) [PV.int IntKind.i64 p, PV.list (List.map Ro.cs r) t, PV.ptr 0 0, PV.int IntKind.i64 0, PV.int IntKind.i64 b, PV.int IntKind.i64 i] [Ob.cells [PV.int IntKind.i64 (Mo.K m), PV.int IntKind.i64 (Mo.Base m), PV.int IntKind.i64 (Mo.Step m), PV.int IntKind.i64 (Mo.Cap m), PV.int IntKind.i64 (Mo.Every m)]])) : Holds (wpc br Try.prog gl TX [] (fun _ => 0) (subOf [1, 1, 1, 0, 1, 0] (bodyOf Try.f30)) [] (envS [1, 2, 3, 6, 7, 8] [.int .i64 p, .list (r.map Ro.cs) t, .ptr 0 0, .int .i64 0, .int .i64 b, .int .i64 i]) [.cells m.cs] (fun ex e H => R ex (List.map e [1, 2, 3, 6, 7, 8]) H)) := holds_of_eq (tm2_red m p r t b i R) h
theorem ft1_red (m : Mo) (x : Ti) (r : List Ro) (t : Tail) (w : Int) (i : Nat) (R : Ex → List PV → Heap → Prop) : (br (decide ((↑i : Int) < (↑(List.length r) : Int))) (InL (List.map Ro.cs r) 4 (↑i : Int) ∧ br (true && fitX [CK.int IntKind.i64, CK.list, CK.int IntKind.i64, CK.int IntKind.i64] 0 (List.getD (List.map Ro.cs r) (Int.toNat (↑i : Int)) [])) (br (decide (mxI (wI (clampR (Ti.Rating x) - clampR (cI (List.getD (List.map Ro.cs r) (Int.toNat (↑i : Int)) []) 2))) (wI (0 - wI (clampR (Ti.Rating x) - clampR (cI (List.getD (List.map Ro.cs r) (Int.toNat (↑i : Int)) []) 2)))) > mnI w (cI (List.getD (List.map Ro.cs r) (Int.toNat (↑i : Int)) []) 3))) (R Ex.ret [PV.ptr 0 0, PV.ptr 1 0, PV.bool false, PV.int IntKind.i64 w, PV.list (List.map Ro.cs r) t, PV.int IntKind.i64 (↑(List.length r) : Int), PV.int IntKind.i64 (↑i : Int)] [Ob.cells [PV.int IntKind.i64 (Mo.K m), PV.int IntKind.i64 (Mo.Base m), PV.int IntKind.i64 (Mo.Step m), PV.int IntKind.i64 (Mo.Cap m), PV.int IntKind.i64 (Mo.Every m)], Ob.cells [PV.int IntKind.u32 (Ti.Id x), PV.int IntKind.i64 (Ti.Mode x), PV.list (en1 IntKind.u32 (Ti.Ps x)) (Ti.Pt x), PV.int IntKind.i64 (Ti.Rating x), PV.int IntKind.i64 (Ti.Since x)], Ob.cells [PV.int IntKind.i64 (cI (List.getD (List.map Ro.cs r) (Int.toNat (↑i : Int)) []) 0), PV.list (cL (List.getD (List.map Ro.cs r) (Int.toNat (↑i : Int)) []) 1) (cT (List.getD (List.map Ro.cs r) (Int.toNat (↑i : Int)) []) 1), PV.int IntKind.i64 (cI (List.getD (List.map Ro.cs r) (Int.toNat (↑i : Int)) []) 2), PV.int IntKind.i64 (cI (List.getD (List.map Ro.cs r) (Int.toNat (↑i : Int)) []) 3)]]) (R Ex.normal [PV.ptr 0 0, PV.ptr 1 0, PV.bool false, PV.int IntKind.i64 w, PV.list (List.map Ro.cs r) t, PV.int IntKind.i64 (↑(List.length r) : Int), PV.int IntKind.i64 (wI ((↑i : Int) + 1))] [Ob.cells [PV.int IntKind.i64 (Mo.K m), PV.int IntKind.i64 (Mo.Base m), PV.int IntKind.i64 (Mo.Step m), PV.int IntKind.i64 (Mo.Cap m), PV.int IntKind.i64 (Mo.Every m)], Ob.cells [PV.int IntKind.u32 (Ti.Id x), PV.int IntKind.i64 (Ti.Mode x), PV.list (en1 IntKind.u32 (Ti.Ps x)) (Ti.Pt x), PV.int IntKind.i64 (Ti.Rating x), PV.int IntKind.i64 (Ti.Since x)], Ob.cells [PV.int IntKind.i64 (cI (List.getD (List.map Ro.cs r) (Int.toNat (↑i : Int)) []) 0), PV.list (cL (List.getD (List.map Ro.cs r) (Int.toNat (↑i : Int)) []) 1) (cT (List.getD (List.map Ro.cs r) (Int.toNat (↑i : Int)) []) 1), PV.int IntKind.i64 (cI (List.getD (List.map Ro.cs r) (Int.toNat (↑i : Int)) []) 2), PV.int IntKind.i64 (cI (List.getD (List.map Ro.cs r) (Int.toNat (↑i : Int)) []) 3)]])) False) (R (Ex.exit 0) [PV.ptr 0 0, PV.ptr 1 0, PV.bool false, PV.int IntKind.i64 w, PV.list (List.map Ro.cs r) t, PV.int IntKind.i64 (↑(List.length r) : Int), PV.int IntKind.i64 (↑i : Int)] [Ob.cells [PV.int IntKind.i64 (Mo.K m), PV.int IntKind.i64 (Mo.Base m), PV.int IntKind.i64 (Mo.Step m), PV.int IntKind.i64 (Mo.Cap m), PV.int IntKind.i64 (Mo.Every m)], Ob.cells [PV.int IntKind.u32 (Ti.Id x), PV.int IntKind.i64 (Ti.Mode x), PV.list (en1 IntKind.u32 (Ti.Ps x)) (Ti.Pt x), PV.int IntKind.i64 (Ti.Rating x), PV.int IntKind.i64 (Ti.Since x)]])) = wpc br Try.prog gl TX [] (fun _ => 0) (subOf [1, 1, 0, 1, 0] (bodyOf Try.f32)) [] (envS [4, 6, 8, 9, 19, 20, 21] [.ptr 0 0, .ptr 1 0, .bool false, .int .i64 w, .list (r.map Ro.cs) t, .int .i64 r.length, .int .i64 i]) [.cells m.cs, .cells x.cs] (fun ex e H => R ex (List.map e [4, 6, 8, 9, 19, 20, 21]) H) := by kernel_rfl
theorem ft1_vc (m : Mo) (x : Ti) (r : List Ro) (t : Tail) (w : Int) (i : Nat) (R : Ex → List PV → Heap → Prop) (h : br (decide ((↑i : Int) < (↑(List.length r) : Int))) (InL (List.map Ro.cs r) 4 (↑i : Int) ∧ br (true && fitX [CK.int IntKind.i64, CK.list, CK.int IntKind.i64, CK.int IntKind.i64] 0 (List.getD (List.map Ro.cs r) (Int.toNat (↑i : Int)) [])) (br (decide (mxI (wI (clampR (Ti.Rating x) - clampR (cI (List.getD (List.map Ro.cs r) (Int.toNat (↑i : Int)) []) 2))) (wI (0 - wI (clampR (Ti.Rating x) - clampR (cI (List.getD (List.map Ro.cs r) (Int.toNat (↑i : Int)) []) 2)))) > mnI w (cI (List.getD (List.map Ro.cs r) (Int.toNat (↑i : Int)) []) 3))) (R Ex.ret [PV.ptr 0 0, PV.ptr 1 0, PV.bool false, PV.int IntKind.i64 w, PV.list (List.map Ro.cs r) t, PV.int IntKind.i64 (↑(List.length r) : Int), PV.int IntKind.i64 (↑i : Int)] [Ob.cells [PV.int IntKind.i64 (Mo.K m), PV.int IntKind.i64 (Mo.Base m), PV.int IntKind.i64 (Mo.Step m), PV.int IntKind.i64 (Mo.Cap m), PV.int IntKind.i64 (Mo.Every m)], Ob.cells [PV.int IntKind.u32 (Ti.Id x), PV.int IntKind.i64 (Ti.Mode x), PV.list (en1 IntKind.u32 (Ti.Ps x)) (Ti.Pt x), PV.int IntKind.i64 (Ti.Rating x), PV.int IntKind.i64 (Ti.Since x)], Ob.cells [PV.int IntKind.i64 (cI (List.getD (List.map Ro.cs r) (Int.toNat (↑i : Int)) []) 0), PV.list (cL (List.getD (List.map Ro.cs r) (Int.toNat (↑i : Int)) []) 1) (cT (List.getD (List.map Ro.cs r) (Int.toNat (↑i : Int)) []) 1), PV.int IntKind.i64 (cI (List.getD (List.map Ro.cs r) (Int.toNat (↑i : Int)) []) 2), PV.int IntKind.i64 (cI (List.getD (List.map Ro.cs r) (Int.toNat (↑i : Int)) []) 3)]]) (R Ex.normal [PV.ptr 0 0, PV.ptr 1 0, PV.bool false, PV.int IntKind.i64 w, PV.list (List.map Ro.cs r) t, PV.int IntKind.i64 (↑(List.length r) : Int), PV.int IntKind.i64 (wI ((↑i : Int) + 1))] [Ob.cells [PV.int IntKind.i64 (Mo.K m), PV.int IntKind.i64 (Mo.Base m), PV.int IntKind.i64 (Mo.Step m), PV.int IntKind.i64 (Mo.Cap m), PV.int IntKind.i64 (Mo.Every m)], Ob.cells [PV.int IntKind.u32 (Ti.Id x), PV.int IntKind.i64 (Ti.Mode x), PV.list (en1 IntKind.u32 (Ti.Ps x)) (Ti.Pt x), PV.int IntKind.i64 (Ti.Rating x), PV.int IntKind.i64 (Ti.Since x)], Ob.cells [PV.int IntKind.i64 (cI (List.getD (List.map Ro.cs r) (Int.toNat (↑i : Int)) []) 0), PV.list (cL (List.getD (List.map Ro.cs r) (Int.toNat (↑i : Int)) []) 1) (cT (List.getD (List.map Ro.cs r) (Int.toNat (↑i : Int)) []) 1), PV.int IntKind.i64 (cI (List.getD (List.map Ro.cs r) (Int.toNat (↑i : Int)) []) 2), PV.int IntKind.i64 (cI (List.getD (List.map Ro.cs r) (Int.toNat (↑i : Int)) []) 3)]])) False) (R (Ex.exit 0) [PV.ptr 0 0, PV.ptr 1 0, PV.bool false, PV.int IntKind.i64 w, PV.list (List.map Ro.cs r) t, PV.int IntKind.i64 (↑(List.length r) : Int), PV.int IntKind.i64 (↑i : Int)] [Ob.cells [PV.int IntKind.i64 (Mo.K m), PV.int IntKind.i64 (Mo.Base m), PV.int IntKind.i64 (Mo.Step m), PV.int IntKind.i64 (Mo.Cap m), PV.int IntKind.i64 (Mo.Every m)], Ob.cells [PV.int IntKind.u32 (Ti.Id x), PV.int IntKind.i64 (Ti.Mode x), PV.list (en1 IntKind.u32 (Ti.Ps x)) (Ti.Pt x), PV.int IntKind.i64 (Ti.Rating x), PV.int IntKind.i64 (Ti.Since x)]])) : Holds (wpc br Try.prog gl TX [] (fun _ => 0) (subOf [1, 1, 0, 1, 0] (bodyOf Try.f32)) [] (envS [4, 6, 8, 9, 19, 20, 21] [.ptr 0 0, .ptr 1 0, .bool false, .int .i64 w, .list (r.map Ro.cs) t, .int .i64 r.length, .int .i64 i]) [.cells m.cs, .cells x.cs] (fun ex e H => R ex (List.map e [4, 6, 8, 9, 19, 20, 21]) H)) := holds_of_eq (ft1_red m x r t w i R) h
theorem ft2_red (m : Mo) (x : Ti) (r : List Ro) (t : Tail) (w : Int) (i : Nat) (R : Ex → List PV → Heap → Prop) : (br (decide ((↑i : Int) < (↑(List.length (List.map Ro.cs r)) : Int))) (InL (List.map Ro.cs r) 4 (↑i : Int) ∧ br (true && fitX [CK.int IntKind.i64] 0 (List.drop 2 (List.getD (List.map Ro.cs r) (Int.toNat (↑i : Int)) []))) (InL (List.map Ro.cs r) 4 (↑i : Int) ∧ br (true && fitX [CK.int IntKind.i64] 0 (List.drop 3 (List.getD (List.map Ro.cs r) (Int.toNat (↑i : Int)) []))) (br (!decide (dist (Ti.Rating x) (cI (List.drop 2 (List.getD (List.map Ro.cs r) (Int.toNat (↑i : Int)) [])) 0) ≤ w ∧ dist (Ti.Rating x) (cI (List.drop 2 (List.getD (List.map Ro.cs r) (Int.toNat (↑i : Int)) [])) 0) ≤ cI (List.drop 3 (List.getD (List.map Ro.cs r) (Int.toNat (↑i : Int)) [])) 0)) (R Ex.ret [PV.list (List.map Ro.cs r) t, PV.ptr 0 0, PV.ptr 1 0, PV.bool false, PV.int IntKind.i64 w, PV.int IntKind.i64 (↑i : Int)] [Ob.cells [PV.int IntKind.i64 (Mo.K m), PV.int IntKind.i64 (Mo.Base m), PV.int IntKind.i64 (Mo.Step m), PV.int IntKind.i64 (Mo.Cap m), PV.int IntKind.i64 (Mo.Every m)], Ob.cells [PV.int IntKind.u32 (Ti.Id x), PV.int IntKind.i64 (Ti.Mode x), PV.list (en1 IntKind.u32 (Ti.Ps x)) (Ti.Pt x), PV.int IntKind.i64 (Ti.Rating x), PV.int IntKind.i64 (Ti.Since x)]]) (R Ex.normal [PV.list (List.map Ro.cs r) t, PV.ptr 0 0, PV.ptr 1 0, PV.bool false, PV.int IntKind.i64 w, PV.int IntKind.i64 (wI ((↑i : Int) + 1))] [Ob.cells [PV.int IntKind.i64 (Mo.K m), PV.int IntKind.i64 (Mo.Base m), PV.int IntKind.i64 (Mo.Step m), PV.int IntKind.i64 (Mo.Cap m), PV.int IntKind.i64 (Mo.Every m)], Ob.cells [PV.int IntKind.u32 (Ti.Id x), PV.int IntKind.i64 (Ti.Mode x), PV.list (en1 IntKind.u32 (Ti.Ps x)) (Ti.Pt x), PV.int IntKind.i64 (Ti.Rating x), PV.int IntKind.i64 (Ti.Since x)]])) False) False) (R (Ex.exit 0) [PV.list (List.map Ro.cs r) t, PV.ptr 0 0, PV.ptr 1 0, PV.bool false, PV.int IntKind.i64 w, PV.int IntKind.i64 (↑i : Int)] [Ob.cells [PV.int IntKind.i64 (Mo.K m), PV.int IntKind.i64 (Mo.Base m), PV.int IntKind.i64 (Mo.Step m), PV.int IntKind.i64 (Mo.Cap m), PV.int IntKind.i64 (Mo.Every m)], Ob.cells [PV.int IntKind.u32 (Ti.Id x), PV.int IntKind.i64 (Ti.Mode x), PV.list (en1 IntKind.u32 (Ti.Ps x)) (Ti.Pt x), PV.int IntKind.i64 (Ti.Rating x), PV.int IntKind.i64 (Ti.Since x)]])) = wpc br Try.prog gl TX [] (fun _ => 0) (subOf [1, 1, 1, 0, 1, 0] (bodyOf Try.f33)) [] (envS [3, 4, 6, 8, 9, 10] [.list (r.map Ro.cs) t, .ptr 0 0, .ptr 1 0, .bool false, .int .i64 w, .int .i64 i]) [.cells m.cs, .cells x.cs] (fun ex e H => R ex (List.map e [3, 4, 6, 8, 9, 10]) H) := by kernel_rfl
theorem ft2_vc (m : Mo) (x : Ti) (r : List Ro) (t : Tail) (w : Int) (i : Nat) (R : Ex → List PV → Heap → Prop) (h : br (decide ((↑i : Int) < (↑(List.length (List.map Ro.cs r)) : Int))) (InL (List.map Ro.cs r) 4 (↑i : Int) ∧ br (true && fitX [CK.int IntKind.i64] 0 (List.drop 2 (List.getD (List.map Ro.cs r) (Int.toNat (↑i : Int)) []))) (InL (List.map Ro.cs r) 4 (↑i : Int) ∧ br (true && fitX [CK.int IntKind.i64] 0 (List.drop 3 (List.getD (List.map Ro.cs r) (Int.toNat (↑i : Int)) []))) (br (!decide (dist (Ti.Rating x) (cI (List.drop 2 (List.getD (List.map Ro.cs r) (Int.toNat (↑i : Int)) [])) 0) ≤ w ∧ dist (Ti.Rating x) (cI (List.drop 2 (List.getD (List.map Ro.cs r) (Int.toNat (↑i : Int)) [])) 0) ≤ cI (List.drop 3 (List.getD (List.map Ro.cs r) (Int.toNat (↑i : Int)) [])) 0)) (R Ex.ret [PV.list (List.map Ro.cs r) t, PV.ptr 0 0, PV.ptr 1 0, PV.bool false, PV.int IntKind.i64 w, PV.int IntKind.i64 (↑i : Int)] [Ob.cells [PV.int IntKind.i64 (Mo.K m), PV.int IntKind.i64 (Mo.Base m), PV.int IntKind.i64 (Mo.Step m), PV.int IntKind.i64 (Mo.Cap m), PV.int IntKind.i64 (Mo.Every m)], Ob.cells [PV.int IntKind.u32 (Ti.Id x), PV.int IntKind.i64 (Ti.Mode x), PV.list (en1 IntKind.u32 (Ti.Ps x)) (Ti.Pt x), PV.int IntKind.i64 (Ti.Rating x), PV.int IntKind.i64 (Ti.Since x)]]) (R Ex.normal [PV.list (List.map Ro.cs r) t, PV.ptr 0 0, PV.ptr 1 0, PV.bool false, PV.int IntKind.i64 w, PV.int IntKind.i64 (wI ((↑i : Int) + 1))] [Ob.cells [PV.int IntKind.i64 (Mo.K m), PV.int IntKind.i64 (Mo.Base m), PV.int IntKind.i64 (Mo.Step m), PV.int IntKind.i64 (Mo.Cap m), PV.int IntKind.i64 (Mo.Every m)], Ob.cells [PV.int IntKind.u32 (Ti.Id x), PV.int IntKind.i64 (Ti.Mode x), PV.list (en1 IntKind.u32 (Ti.Ps x)) (Ti.Pt x), PV.int IntKind.i64 (Ti.Rating x), PV.int IntKind.i64 (Ti.Since x)]])) False) False) (R (Ex.exit 0) [PV.list (List.map Ro.cs r) t, PV.ptr 0 0, PV.ptr 1 0, PV.bool false, PV.int IntKind.i64 w, PV.int IntKind.i64 (↑i : Int)] [Ob.cells [PV.int IntKind.i64 (Mo.K m), PV.int IntKind.i64 (Mo.Base m), PV.int IntKind.i64 (Mo.Step m), PV.int IntKind.i64 (Mo.Cap m), PV.int IntKind.i64 (Mo.Every m)], Ob.cells [PV.int IntKind.u32 (Ti.Id x), PV.int IntKind.i64 (Ti.Mode x), PV.list (en1 IntKind.u32 (Ti.Ps x)) (Ti.Pt x), PV.int IntKind.i64 (Ti.Rating x), PV.int IntKind.i64 (Ti.Since x)]])) : Holds (wpc br Try.prog gl TX [] (fun _ => 0) (subOf [1, 1, 1, 0, 1, 0] (bodyOf Try.f33)) [] (envS [3, 4, 6, 8, 9, 10] [.list (r.map Ro.cs) t, .ptr 0 0, .ptr 1 0, .bool false, .int .i64 w, .int .i64 i]) [.cells m.cs, .cells x.cs] (fun ex e H => R ex (List.map e [3, 4, 6, 8, 9, 10]) H)) := holds_of_eq (ft2_red m x r t w i R) h
theorem rwa_red (a : As)  (R : Ex → List PV → Heap → Prop) : (br (decide (0 < (↑(List.length (List.map Ro.cs (As.R a))) : Int))) (InL (List.map Ro.cs (As.R a)) 4 0 ∧ br (true && fitX [CK.int IntKind.i64, CK.list, CK.int IntKind.i64, CK.int IntKind.i64] 0 (List.getD (List.map Ro.cs (As.R a)) 0 [])) (AppL [] (cL (List.getD (List.map Ro.cs (As.R a)) 0 []) 1) 1 4 ∧ AppL [] [[PV.int IntKind.i64 (cI (List.getD (List.map Ro.cs (As.R a)) 0 []) 0), PV.list ([] ++ cL (List.getD (List.map Ro.cs (As.R a)) 0 []) 1) Tail.no, PV.int IntKind.i64 (cI (List.getD (List.map Ro.cs (As.R a)) 0 []) 2), PV.int IntKind.i64 (cI (List.getD (List.map Ro.cs (As.R a)) 0 []) 3)]] 4 48 ∧ (List.all [PV.int IntKind.i64 (cI (List.getD (List.map Ro.cs (As.R a)) 0 []) 0), PV.list ([] ++ cL (List.getD (List.map Ro.cs (As.R a)) 0 []) 1) Tail.no, PV.int IntKind.i64 (cI (List.getD (List.map Ro.cs (As.R a)) 0 []) 2), PV.int IntKind.i64 (cI (List.getD (List.map Ro.cs (As.R a)) 0 []) 3)] PV.one = true ∧ [[PV.int IntKind.i64 (cI (List.getD (List.map Ro.cs (As.R a)) 0 []) 0), PV.list ([] ++ cL (List.getD (List.map Ro.cs (As.R a)) 0 []) 1) Tail.no, PV.int IntKind.i64 (cI (List.getD (List.map Ro.cs (As.R a)) 0 []) 2), PV.int IntKind.i64 (cI (List.getD (List.map Ro.cs (As.R a)) 0 []) 3)]] ≠ []) ∧ R Ex.normal [PV.ptr 0 0, PV.list [] Tail.exact, PV.list [[PV.int IntKind.i64 (cI (List.getD (List.map Ro.cs (As.R a)) 0 []) 0), PV.list ([] ++ cL (List.getD (List.map Ro.cs (As.R a)) 0 []) 1) Tail.no, PV.int IntKind.i64 (cI (List.getD (List.map Ro.cs (As.R a)) 0 []) 2), PV.int IntKind.i64 (cI (List.getD (List.map Ro.cs (As.R a)) 0 []) 3)]] (Tail.tok 2), PV.int IntKind.i64 1] [Ob.cells [PV.int IntKind.i64 (Mo.K (As.M a)), PV.int IntKind.i64 (Mo.Base (As.M a)), PV.int IntKind.i64 (Mo.Step (As.M a)), PV.int IntKind.i64 (Mo.Cap (As.M a)), PV.int IntKind.i64 (Mo.Every (As.M a)), PV.int IntKind.i64 (As.Now a), PV.list (List.map Ti.cs (As.L a)) Tail.no, PV.list (List.map Ro.cs (As.R a)) Tail.no], Ob.cells [PV.int IntKind.i64 (cI (List.getD (List.map Ro.cs (As.R a)) 0 []) 0), PV.list (cL (List.getD (List.map Ro.cs (As.R a)) 0 []) 1) (cT (List.getD (List.map Ro.cs (As.R a)) 0 []) 1), PV.int IntKind.i64 (cI (List.getD (List.map Ro.cs (As.R a)) 0 []) 2), PV.int IntKind.i64 (cI (List.getD (List.map Ro.cs (As.R a)) 0 []) 3)], Ob.tok]) False) (R (Ex.exit 0) [PV.ptr 0 0, PV.list [] Tail.exact, PV.list [] Tail.exact, PV.int IntKind.i64 0] [Ob.cells [PV.int IntKind.i64 (Mo.K (As.M a)), PV.int IntKind.i64 (Mo.Base (As.M a)), PV.int IntKind.i64 (Mo.Step (As.M a)), PV.int IntKind.i64 (Mo.Cap (As.M a)), PV.int IntKind.i64 (Mo.Every (As.M a)), PV.int IntKind.i64 (As.Now a), PV.list (List.map Ti.cs (As.L a)) Tail.no, PV.list (List.map Ro.cs (As.R a)) Tail.no]])) = wpc br Try.prog gl TX [] (fun o => match o.dst with | some 31 => 1 | _ => 0) (subOf [1, 1, 0, 1, 0] (bodyOf Try.f26)) [] (envS [1, 2, 3, 4] [.ptr 0 0, .list [] .exact, .list [] .exact, .int .i64 0]) [.cells a.cs] (fun ex e H => R ex (List.map e [1, 2, 3, 4]) H) := by kernel_rfl
theorem rwa_vc (a : As)  (R : Ex → List PV → Heap → Prop) (h : br (decide (0 < (↑(List.length (List.map Ro.cs (As.R a))) : Int))) (InL (List.map Ro.cs (As.R a)) 4 0 ∧ br (true && fitX [CK.int IntKind.i64, CK.list, CK.int IntKind.i64, CK.int IntKind.i64] 0 (List.getD (List.map Ro.cs (As.R a)) 0 [])) (AppL [] (cL (List.getD (List.map Ro.cs (As.R a)) 0 []) 1) 1 4 ∧ AppL [] [[PV.int IntKind.i64 (cI (List.getD (List.map Ro.cs (As.R a)) 0 []) 0), PV.list ([] ++ cL (List.getD (List.map Ro.cs (As.R a)) 0 []) 1) Tail.no, PV.int IntKind.i64 (cI (List.getD (List.map Ro.cs (As.R a)) 0 []) 2), PV.int IntKind.i64 (cI (List.getD (List.map Ro.cs (As.R a)) 0 []) 3)]] 4 48 ∧ (List.all [PV.int IntKind.i64 (cI (List.getD (List.map Ro.cs (As.R a)) 0 []) 0), PV.list ([] ++ cL (List.getD (List.map Ro.cs (As.R a)) 0 []) 1) Tail.no, PV.int IntKind.i64 (cI (List.getD (List.map Ro.cs (As.R a)) 0 []) 2), PV.int IntKind.i64 (cI (List.getD (List.map Ro.cs (As.R a)) 0 []) 3)] PV.one = true ∧ [[PV.int IntKind.i64 (cI (List.getD (List.map Ro.cs (As.R a)) 0 []) 0), PV.list ([] ++ cL (List.getD (List.map Ro.cs (As.R a)) 0 []) 1) Tail.no, PV.int IntKind.i64 (cI (List.getD (List.map Ro.cs (As.R a)) 0 []) 2), PV.int IntKind.i64 (cI (List.getD (List.map Ro.cs (As.R a)) 0 []) 3)]] ≠ []) ∧ R Ex.normal [PV.ptr 0 0, PV.list [] Tail.exact, PV.list [[PV.int IntKind.i64 (cI (List.getD (List.map Ro.cs (As.R a)) 0 []) 0), PV.list ([] ++ cL (List.getD (List.map Ro.cs (As.R a)) 0 []) 1) Tail.no, PV.int IntKind.i64 (cI (List.getD (List.map Ro.cs (As.R a)) 0 []) 2), PV.int IntKind.i64 (cI (List.getD (List.map Ro.cs (As.R a)) 0 []) 3)]] (Tail.tok 2), PV.int IntKind.i64 1] [Ob.cells [PV.int IntKind.i64 (Mo.K (As.M a)), PV.int IntKind.i64 (Mo.Base (As.M a)), PV.int IntKind.i64 (Mo.Step (As.M a)), PV.int IntKind.i64 (Mo.Cap (As.M a)), PV.int IntKind.i64 (Mo.Every (As.M a)), PV.int IntKind.i64 (As.Now a), PV.list (List.map Ti.cs (As.L a)) Tail.no, PV.list (List.map Ro.cs (As.R a)) Tail.no], Ob.cells [PV.int IntKind.i64 (cI (List.getD (List.map Ro.cs (As.R a)) 0 []) 0), PV.list (cL (List.getD (List.map Ro.cs (As.R a)) 0 []) 1) (cT (List.getD (List.map Ro.cs (As.R a)) 0 []) 1), PV.int IntKind.i64 (cI (List.getD (List.map Ro.cs (As.R a)) 0 []) 2), PV.int IntKind.i64 (cI (List.getD (List.map Ro.cs (As.R a)) 0 []) 3)], Ob.tok]) False) (R (Ex.exit 0) [PV.ptr 0 0, PV.list [] Tail.exact, PV.list [] Tail.exact, PV.int IntKind.i64 0] [Ob.cells [PV.int IntKind.i64 (Mo.K (As.M a)), PV.int IntKind.i64 (Mo.Base (As.M a)), PV.int IntKind.i64 (Mo.Step (As.M a)), PV.int IntKind.i64 (Mo.Cap (As.M a)), PV.int IntKind.i64 (Mo.Every (As.M a)), PV.int IntKind.i64 (As.Now a), PV.list (List.map Ti.cs (As.L a)) Tail.no, PV.list (List.map Ro.cs (As.R a)) Tail.no]])) : Holds (wpc br Try.prog gl TX [] (fun o => match o.dst with | some 31 => 1 | _ => 0) (subOf [1, 1, 0, 1, 0] (bodyOf Try.f26)) [] (envS [1, 2, 3, 4] [.ptr 0 0, .list [] .exact, .list [] .exact, .int .i64 0]) [.cells a.cs] (fun ex e H => R ex (List.map e [1, 2, 3, 4]) H)) := holds_of_eq (rwa_red a R) h
theorem rwb_red (a : As) (x : List Ro) (i : Nat) (R : Ex → List PV → Heap → Prop) : (br (decide ((↑i : Int) < (↑(List.length (List.map Ro.cs (As.R a))) : Int))) (InL (List.map Ro.cs (As.R a)) 4 (↑i : Int) ∧ br (true && fitX [CK.int IntKind.i64, CK.list, CK.int IntKind.i64, CK.int IntKind.i64] 0 (List.getD (List.map Ro.cs (As.R a)) (Int.toNat (↑i : Int)) [])) (AppL [] (cL (List.getD (List.map Ro.cs (As.R a)) (Int.toNat (↑i : Int)) []) 1) 1 4 ∧ AppL (List.map Ro.cs x) [[PV.int IntKind.i64 (cI (List.getD (List.map Ro.cs (As.R a)) (Int.toNat (↑i : Int)) []) 0), PV.list ([] ++ cL (List.getD (List.map Ro.cs (As.R a)) (Int.toNat (↑i : Int)) []) 1) Tail.no, PV.int IntKind.i64 (cI (List.getD (List.map Ro.cs (As.R a)) (Int.toNat (↑i : Int)) []) 2), PV.int IntKind.i64 (cI (List.getD (List.map Ro.cs (As.R a)) (Int.toNat (↑i : Int)) []) 3)]] 4 48 ∧ (List.all [PV.int IntKind.i64 (cI (List.getD (List.map Ro.cs (As.R a)) (Int.toNat (↑i : Int)) []) 0), PV.list ([] ++ cL (List.getD (List.map Ro.cs (As.R a)) (Int.toNat (↑i : Int)) []) 1) Tail.no, PV.int IntKind.i64 (cI (List.getD (List.map Ro.cs (As.R a)) (Int.toNat (↑i : Int)) []) 2), PV.int IntKind.i64 (cI (List.getD (List.map Ro.cs (As.R a)) (Int.toNat (↑i : Int)) []) 3)] PV.one = true ∧ [[PV.int IntKind.i64 (cI (List.getD (List.map Ro.cs (As.R a)) (Int.toNat (↑i : Int)) []) 0), PV.list ([] ++ cL (List.getD (List.map Ro.cs (As.R a)) (Int.toNat (↑i : Int)) []) 1) Tail.no, PV.int IntKind.i64 (cI (List.getD (List.map Ro.cs (As.R a)) (Int.toNat (↑i : Int)) []) 2), PV.int IntKind.i64 (cI (List.getD (List.map Ro.cs (As.R a)) (Int.toNat (↑i : Int)) []) 3)]] ≠ []) ∧ R Ex.normal [PV.ptr 0 0, PV.list [] Tail.exact, PV.list (List.map Ro.cs x ++ [[PV.int IntKind.i64 (cI (List.getD (List.map Ro.cs (As.R a)) (Int.toNat (↑i : Int)) []) 0), PV.list ([] ++ cL (List.getD (List.map Ro.cs (As.R a)) (Int.toNat (↑i : Int)) []) 1) Tail.no, PV.int IntKind.i64 (cI (List.getD (List.map Ro.cs (As.R a)) (Int.toNat (↑i : Int)) []) 2), PV.int IntKind.i64 (cI (List.getD (List.map Ro.cs (As.R a)) (Int.toNat (↑i : Int)) []) 3)]]) (Tail.tok 3), PV.int IntKind.i64 (wI ((↑i : Int) + 1))] [Ob.cells [PV.int IntKind.i64 (Mo.K (As.M a)), PV.int IntKind.i64 (Mo.Base (As.M a)), PV.int IntKind.i64 (Mo.Step (As.M a)), PV.int IntKind.i64 (Mo.Cap (As.M a)), PV.int IntKind.i64 (Mo.Every (As.M a)), PV.int IntKind.i64 (As.Now a), PV.list (List.map Ti.cs (As.L a)) Tail.no, PV.list (List.map Ro.cs (As.R a)) Tail.no], Ob.dead, Ob.cells [PV.int IntKind.i64 (cI (List.getD (List.map Ro.cs (As.R a)) (Int.toNat (↑i : Int)) []) 0), PV.list (cL (List.getD (List.map Ro.cs (As.R a)) (Int.toNat (↑i : Int)) []) 1) (cT (List.getD (List.map Ro.cs (As.R a)) (Int.toNat (↑i : Int)) []) 1), PV.int IntKind.i64 (cI (List.getD (List.map Ro.cs (As.R a)) (Int.toNat (↑i : Int)) []) 2), PV.int IntKind.i64 (cI (List.getD (List.map Ro.cs (As.R a)) (Int.toNat (↑i : Int)) []) 3)], Ob.tok]) False) (R (Ex.exit 0) [PV.ptr 0 0, PV.list [] Tail.exact, PV.list (List.map Ro.cs x) (Tail.tok 1), PV.int IntKind.i64 (↑i : Int)] [Ob.cells [PV.int IntKind.i64 (Mo.K (As.M a)), PV.int IntKind.i64 (Mo.Base (As.M a)), PV.int IntKind.i64 (Mo.Step (As.M a)), PV.int IntKind.i64 (Mo.Cap (As.M a)), PV.int IntKind.i64 (Mo.Every (As.M a)), PV.int IntKind.i64 (As.Now a), PV.list (List.map Ti.cs (As.L a)) Tail.no, PV.list (List.map Ro.cs (As.R a)) Tail.no], Ob.tok])) = wpc br Try.prog gl TX [] (fun o => match o.dst with | some 31 => 1 | _ => 0) (subOf [1, 1, 0, 1, 0] (bodyOf Try.f26)) [] (envS [1, 2, 3, 4] [.ptr 0 0, .list [] .exact, .list (x.map Ro.cs) (.tok 1), .int .i64 i]) [.cells a.cs, .tok] (fun ex e H => R ex (List.map e [1, 2, 3, 4]) H) := by kernel_rfl
theorem rwb_vc (a : As) (x : List Ro) (i : Nat) (R : Ex → List PV → Heap → Prop) (h : br (decide ((↑i : Int) < (↑(List.length (List.map Ro.cs (As.R a))) : Int))) (InL (List.map Ro.cs (As.R a)) 4 (↑i : Int) ∧ br (true && fitX [CK.int IntKind.i64, CK.list, CK.int IntKind.i64, CK.int IntKind.i64] 0 (List.getD (List.map Ro.cs (As.R a)) (Int.toNat (↑i : Int)) [])) (AppL [] (cL (List.getD (List.map Ro.cs (As.R a)) (Int.toNat (↑i : Int)) []) 1) 1 4 ∧ AppL (List.map Ro.cs x) [[PV.int IntKind.i64 (cI (List.getD (List.map Ro.cs (As.R a)) (Int.toNat (↑i : Int)) []) 0), PV.list ([] ++ cL (List.getD (List.map Ro.cs (As.R a)) (Int.toNat (↑i : Int)) []) 1) Tail.no, PV.int IntKind.i64 (cI (List.getD (List.map Ro.cs (As.R a)) (Int.toNat (↑i : Int)) []) 2), PV.int IntKind.i64 (cI (List.getD (List.map Ro.cs (As.R a)) (Int.toNat (↑i : Int)) []) 3)]] 4 48 ∧ (List.all [PV.int IntKind.i64 (cI (List.getD (List.map Ro.cs (As.R a)) (Int.toNat (↑i : Int)) []) 0), PV.list ([] ++ cL (List.getD (List.map Ro.cs (As.R a)) (Int.toNat (↑i : Int)) []) 1) Tail.no, PV.int IntKind.i64 (cI (List.getD (List.map Ro.cs (As.R a)) (Int.toNat (↑i : Int)) []) 2), PV.int IntKind.i64 (cI (List.getD (List.map Ro.cs (As.R a)) (Int.toNat (↑i : Int)) []) 3)] PV.one = true ∧ [[PV.int IntKind.i64 (cI (List.getD (List.map Ro.cs (As.R a)) (Int.toNat (↑i : Int)) []) 0), PV.list ([] ++ cL (List.getD (List.map Ro.cs (As.R a)) (Int.toNat (↑i : Int)) []) 1) Tail.no, PV.int IntKind.i64 (cI (List.getD (List.map Ro.cs (As.R a)) (Int.toNat (↑i : Int)) []) 2), PV.int IntKind.i64 (cI (List.getD (List.map Ro.cs (As.R a)) (Int.toNat (↑i : Int)) []) 3)]] ≠ []) ∧ R Ex.normal [PV.ptr 0 0, PV.list [] Tail.exact, PV.list (List.map Ro.cs x ++ [[PV.int IntKind.i64 (cI (List.getD (List.map Ro.cs (As.R a)) (Int.toNat (↑i : Int)) []) 0), PV.list ([] ++ cL (List.getD (List.map Ro.cs (As.R a)) (Int.toNat (↑i : Int)) []) 1) Tail.no, PV.int IntKind.i64 (cI (List.getD (List.map Ro.cs (As.R a)) (Int.toNat (↑i : Int)) []) 2), PV.int IntKind.i64 (cI (List.getD (List.map Ro.cs (As.R a)) (Int.toNat (↑i : Int)) []) 3)]]) (Tail.tok 3), PV.int IntKind.i64 (wI ((↑i : Int) + 1))] [Ob.cells [PV.int IntKind.i64 (Mo.K (As.M a)), PV.int IntKind.i64 (Mo.Base (As.M a)), PV.int IntKind.i64 (Mo.Step (As.M a)), PV.int IntKind.i64 (Mo.Cap (As.M a)), PV.int IntKind.i64 (Mo.Every (As.M a)), PV.int IntKind.i64 (As.Now a), PV.list (List.map Ti.cs (As.L a)) Tail.no, PV.list (List.map Ro.cs (As.R a)) Tail.no], Ob.dead, Ob.cells [PV.int IntKind.i64 (cI (List.getD (List.map Ro.cs (As.R a)) (Int.toNat (↑i : Int)) []) 0), PV.list (cL (List.getD (List.map Ro.cs (As.R a)) (Int.toNat (↑i : Int)) []) 1) (cT (List.getD (List.map Ro.cs (As.R a)) (Int.toNat (↑i : Int)) []) 1), PV.int IntKind.i64 (cI (List.getD (List.map Ro.cs (As.R a)) (Int.toNat (↑i : Int)) []) 2), PV.int IntKind.i64 (cI (List.getD (List.map Ro.cs (As.R a)) (Int.toNat (↑i : Int)) []) 3)], Ob.tok]) False) (R (Ex.exit 0) [PV.ptr 0 0, PV.list [] Tail.exact, PV.list (List.map Ro.cs x) (Tail.tok 1), PV.int IntKind.i64 (↑i : Int)] [Ob.cells [PV.int IntKind.i64 (Mo.K (As.M a)), PV.int IntKind.i64 (Mo.Base (As.M a)), PV.int IntKind.i64 (Mo.Step (As.M a)), PV.int IntKind.i64 (Mo.Cap (As.M a)), PV.int IntKind.i64 (Mo.Every (As.M a)), PV.int IntKind.i64 (As.Now a), PV.list (List.map Ti.cs (As.L a)) Tail.no, PV.list (List.map Ro.cs (As.R a)) Tail.no], Ob.tok])) : Holds (wpc br Try.prog gl TX [] (fun o => match o.dst with | some 31 => 1 | _ => 0) (subOf [1, 1, 0, 1, 0] (bodyOf Try.f26)) [] (envS [1, 2, 3, 4] [.ptr 0 0, .list [] .exact, .list (x.map Ro.cs) (.tok 1), .int .i64 i]) [.cells a.cs, .tok] (fun ex e H => R ex (List.map e [1, 2, 3, 4]) H)) := holds_of_eq (rwb_red a x i R) h
theorem tka_red (a : As)  (R : Ex → List PV → Heap → Prop) : (br (decide (0 < (↑(List.length (List.map Ti.cs (As.L a))) : Int))) (InL (List.map Ti.cs (As.L a)) 5 0 ∧ br (true && fitX [CK.int IntKind.u32, CK.int IntKind.i64, CK.list, CK.int IntKind.i64, CK.int IntKind.i64] 0 (List.getD (List.map Ti.cs (As.L a)) 0 [])) (AppL [] (cL (List.getD (List.map Ti.cs (As.L a)) 0 []) 2) 1 4 ∧ AppL [] [[PV.int IntKind.u32 (cI (List.getD (List.map Ti.cs (As.L a)) 0 []) 0), PV.int IntKind.i64 (cI (List.getD (List.map Ti.cs (As.L a)) 0 []) 1), PV.list ([] ++ cL (List.getD (List.map Ti.cs (As.L a)) 0 []) 2) Tail.no, PV.int IntKind.i64 (cI (List.getD (List.map Ti.cs (As.L a)) 0 []) 3), PV.int IntKind.i64 (cI (List.getD (List.map Ti.cs (As.L a)) 0 []) 4)]] 5 56 ∧ (List.all [PV.int IntKind.u32 (cI (List.getD (List.map Ti.cs (As.L a)) 0 []) 0), PV.int IntKind.i64 (cI (List.getD (List.map Ti.cs (As.L a)) 0 []) 1), PV.list ([] ++ cL (List.getD (List.map Ti.cs (As.L a)) 0 []) 2) Tail.no, PV.int IntKind.i64 (cI (List.getD (List.map Ti.cs (As.L a)) 0 []) 3), PV.int IntKind.i64 (cI (List.getD (List.map Ti.cs (As.L a)) 0 []) 4)] PV.one = true ∧ [[PV.int IntKind.u32 (cI (List.getD (List.map Ti.cs (As.L a)) 0 []) 0), PV.int IntKind.i64 (cI (List.getD (List.map Ti.cs (As.L a)) 0 []) 1), PV.list ([] ++ cL (List.getD (List.map Ti.cs (As.L a)) 0 []) 2) Tail.no, PV.int IntKind.i64 (cI (List.getD (List.map Ti.cs (As.L a)) 0 []) 3), PV.int IntKind.i64 (cI (List.getD (List.map Ti.cs (As.L a)) 0 []) 4)]] ≠ []) ∧ R Ex.normal [PV.ptr 0 0, PV.list [] Tail.exact, PV.list [[PV.int IntKind.u32 (cI (List.getD (List.map Ti.cs (As.L a)) 0 []) 0), PV.int IntKind.i64 (cI (List.getD (List.map Ti.cs (As.L a)) 0 []) 1), PV.list ([] ++ cL (List.getD (List.map Ti.cs (As.L a)) 0 []) 2) Tail.no, PV.int IntKind.i64 (cI (List.getD (List.map Ti.cs (As.L a)) 0 []) 3), PV.int IntKind.i64 (cI (List.getD (List.map Ti.cs (As.L a)) 0 []) 4)]] (Tail.tok 2), PV.int IntKind.i64 1] [Ob.cells [PV.int IntKind.i64 (Mo.K (As.M a)), PV.int IntKind.i64 (Mo.Base (As.M a)), PV.int IntKind.i64 (Mo.Step (As.M a)), PV.int IntKind.i64 (Mo.Cap (As.M a)), PV.int IntKind.i64 (Mo.Every (As.M a)), PV.int IntKind.i64 (As.Now a), PV.list (List.map Ti.cs (As.L a)) Tail.no, PV.list (List.map Ro.cs (As.R a)) Tail.no], Ob.cells [PV.int IntKind.u32 (cI (List.getD (List.map Ti.cs (As.L a)) 0 []) 0), PV.int IntKind.i64 (cI (List.getD (List.map Ti.cs (As.L a)) 0 []) 1), PV.list (cL (List.getD (List.map Ti.cs (As.L a)) 0 []) 2) (cT (List.getD (List.map Ti.cs (As.L a)) 0 []) 2), PV.int IntKind.i64 (cI (List.getD (List.map Ti.cs (As.L a)) 0 []) 3), PV.int IntKind.i64 (cI (List.getD (List.map Ti.cs (As.L a)) 0 []) 4)], Ob.tok]) False) (R (Ex.exit 0) [PV.ptr 0 0, PV.list [] Tail.exact, PV.list [] Tail.exact, PV.int IntKind.i64 0] [Ob.cells [PV.int IntKind.i64 (Mo.K (As.M a)), PV.int IntKind.i64 (Mo.Base (As.M a)), PV.int IntKind.i64 (Mo.Step (As.M a)), PV.int IntKind.i64 (Mo.Cap (As.M a)), PV.int IntKind.i64 (Mo.Every (As.M a)), PV.int IntKind.i64 (As.Now a), PV.list (List.map Ti.cs (As.L a)) Tail.no, PV.list (List.map Ro.cs (As.R a)) Tail.no]])) = wpc br Try.prog gl TX [] (fun o => match o.dst with | some 33 => 1 | _ => 0) (subOf [1, 1, 0, 1, 0] (bodyOf Try.f31)) [] (envS [1, 2, 3, 4] [.ptr 0 0, .list [] .exact, .list [] .exact, .int .i64 0]) [.cells a.cs] (fun ex e H => R ex (List.map e [1, 2, 3, 4]) H) := by kernel_rfl
theorem tka_vc (a : As)  (R : Ex → List PV → Heap → Prop) (h : br (decide (0 < (↑(List.length (List.map Ti.cs (As.L a))) : Int))) (InL (List.map Ti.cs (As.L a)) 5 0 ∧ br (true && fitX [CK.int IntKind.u32, CK.int IntKind.i64, CK.list, CK.int IntKind.i64, CK.int IntKind.i64] 0 (List.getD (List.map Ti.cs (As.L a)) 0 [])) (AppL [] (cL (List.getD (List.map Ti.cs (As.L a)) 0 []) 2) 1 4 ∧ AppL [] [[PV.int IntKind.u32 (cI (List.getD (List.map Ti.cs (As.L a)) 0 []) 0), PV.int IntKind.i64 (cI (List.getD (List.map Ti.cs (As.L a)) 0 []) 1), PV.list ([] ++ cL (List.getD (List.map Ti.cs (As.L a)) 0 []) 2) Tail.no, PV.int IntKind.i64 (cI (List.getD (List.map Ti.cs (As.L a)) 0 []) 3), PV.int IntKind.i64 (cI (List.getD (List.map Ti.cs (As.L a)) 0 []) 4)]] 5 56 ∧ (List.all [PV.int IntKind.u32 (cI (List.getD (List.map Ti.cs (As.L a)) 0 []) 0), PV.int IntKind.i64 (cI (List.getD (List.map Ti.cs (As.L a)) 0 []) 1), PV.list ([] ++ cL (List.getD (List.map Ti.cs (As.L a)) 0 []) 2) Tail.no, PV.int IntKind.i64 (cI (List.getD (List.map Ti.cs (As.L a)) 0 []) 3), PV.int IntKind.i64 (cI (List.getD (List.map Ti.cs (As.L a)) 0 []) 4)] PV.one = true ∧ [[PV.int IntKind.u32 (cI (List.getD (List.map Ti.cs (As.L a)) 0 []) 0), PV.int IntKind.i64 (cI (List.getD (List.map Ti.cs (As.L a)) 0 []) 1), PV.list ([] ++ cL (List.getD (List.map Ti.cs (As.L a)) 0 []) 2) Tail.no, PV.int IntKind.i64 (cI (List.getD (List.map Ti.cs (As.L a)) 0 []) 3), PV.int IntKind.i64 (cI (List.getD (List.map Ti.cs (As.L a)) 0 []) 4)]] ≠ []) ∧ R Ex.normal [PV.ptr 0 0, PV.list [] Tail.exact, PV.list [[PV.int IntKind.u32 (cI (List.getD (List.map Ti.cs (As.L a)) 0 []) 0), PV.int IntKind.i64 (cI (List.getD (List.map Ti.cs (As.L a)) 0 []) 1), PV.list ([] ++ cL (List.getD (List.map Ti.cs (As.L a)) 0 []) 2) Tail.no, PV.int IntKind.i64 (cI (List.getD (List.map Ti.cs (As.L a)) 0 []) 3), PV.int IntKind.i64 (cI (List.getD (List.map Ti.cs (As.L a)) 0 []) 4)]] (Tail.tok 2), PV.int IntKind.i64 1] [Ob.cells [PV.int IntKind.i64 (Mo.K (As.M a)), PV.int IntKind.i64 (Mo.Base (As.M a)), PV.int IntKind.i64 (Mo.Step (As.M a)), PV.int IntKind.i64 (Mo.Cap (As.M a)), PV.int IntKind.i64 (Mo.Every (As.M a)), PV.int IntKind.i64 (As.Now a), PV.list (List.map Ti.cs (As.L a)) Tail.no, PV.list (List.map Ro.cs (As.R a)) Tail.no], Ob.cells [PV.int IntKind.u32 (cI (List.getD (List.map Ti.cs (As.L a)) 0 []) 0), PV.int IntKind.i64 (cI (List.getD (List.map Ti.cs (As.L a)) 0 []) 1), PV.list (cL (List.getD (List.map Ti.cs (As.L a)) 0 []) 2) (cT (List.getD (List.map Ti.cs (As.L a)) 0 []) 2), PV.int IntKind.i64 (cI (List.getD (List.map Ti.cs (As.L a)) 0 []) 3), PV.int IntKind.i64 (cI (List.getD (List.map Ti.cs (As.L a)) 0 []) 4)], Ob.tok]) False) (R (Ex.exit 0) [PV.ptr 0 0, PV.list [] Tail.exact, PV.list [] Tail.exact, PV.int IntKind.i64 0] [Ob.cells [PV.int IntKind.i64 (Mo.K (As.M a)), PV.int IntKind.i64 (Mo.Base (As.M a)), PV.int IntKind.i64 (Mo.Step (As.M a)), PV.int IntKind.i64 (Mo.Cap (As.M a)), PV.int IntKind.i64 (Mo.Every (As.M a)), PV.int IntKind.i64 (As.Now a), PV.list (List.map Ti.cs (As.L a)) Tail.no, PV.list (List.map Ro.cs (As.R a)) Tail.no]])) : Holds (wpc br Try.prog gl TX [] (fun o => match o.dst with | some 33 => 1 | _ => 0) (subOf [1, 1, 0, 1, 0] (bodyOf Try.f31)) [] (envS [1, 2, 3, 4] [.ptr 0 0, .list [] .exact, .list [] .exact, .int .i64 0]) [.cells a.cs] (fun ex e H => R ex (List.map e [1, 2, 3, 4]) H)) := holds_of_eq (tka_red a R) h
theorem tkb_red (a : As) (x : List Ti) (i : Nat) (R : Ex → List PV → Heap → Prop) : (br (decide ((↑i : Int) < (↑(List.length (List.map Ti.cs (As.L a))) : Int))) (InL (List.map Ti.cs (As.L a)) 5 (↑i : Int) ∧ br (true && fitX [CK.int IntKind.u32, CK.int IntKind.i64, CK.list, CK.int IntKind.i64, CK.int IntKind.i64] 0 (List.getD (List.map Ti.cs (As.L a)) (Int.toNat (↑i : Int)) [])) (AppL [] (cL (List.getD (List.map Ti.cs (As.L a)) (Int.toNat (↑i : Int)) []) 2) 1 4 ∧ AppL (List.map Ti.cs x) [[PV.int IntKind.u32 (cI (List.getD (List.map Ti.cs (As.L a)) (Int.toNat (↑i : Int)) []) 0), PV.int IntKind.i64 (cI (List.getD (List.map Ti.cs (As.L a)) (Int.toNat (↑i : Int)) []) 1), PV.list ([] ++ cL (List.getD (List.map Ti.cs (As.L a)) (Int.toNat (↑i : Int)) []) 2) Tail.no, PV.int IntKind.i64 (cI (List.getD (List.map Ti.cs (As.L a)) (Int.toNat (↑i : Int)) []) 3), PV.int IntKind.i64 (cI (List.getD (List.map Ti.cs (As.L a)) (Int.toNat (↑i : Int)) []) 4)]] 5 56 ∧ (List.all [PV.int IntKind.u32 (cI (List.getD (List.map Ti.cs (As.L a)) (Int.toNat (↑i : Int)) []) 0), PV.int IntKind.i64 (cI (List.getD (List.map Ti.cs (As.L a)) (Int.toNat (↑i : Int)) []) 1), PV.list ([] ++ cL (List.getD (List.map Ti.cs (As.L a)) (Int.toNat (↑i : Int)) []) 2) Tail.no, PV.int IntKind.i64 (cI (List.getD (List.map Ti.cs (As.L a)) (Int.toNat (↑i : Int)) []) 3), PV.int IntKind.i64 (cI (List.getD (List.map Ti.cs (As.L a)) (Int.toNat (↑i : Int)) []) 4)] PV.one = true ∧ [[PV.int IntKind.u32 (cI (List.getD (List.map Ti.cs (As.L a)) (Int.toNat (↑i : Int)) []) 0), PV.int IntKind.i64 (cI (List.getD (List.map Ti.cs (As.L a)) (Int.toNat (↑i : Int)) []) 1), PV.list ([] ++ cL (List.getD (List.map Ti.cs (As.L a)) (Int.toNat (↑i : Int)) []) 2) Tail.no, PV.int IntKind.i64 (cI (List.getD (List.map Ti.cs (As.L a)) (Int.toNat (↑i : Int)) []) 3), PV.int IntKind.i64 (cI (List.getD (List.map Ti.cs (As.L a)) (Int.toNat (↑i : Int)) []) 4)]] ≠ []) ∧ R Ex.normal [PV.ptr 0 0, PV.list [] Tail.exact, PV.list (List.map Ti.cs x ++ [[PV.int IntKind.u32 (cI (List.getD (List.map Ti.cs (As.L a)) (Int.toNat (↑i : Int)) []) 0), PV.int IntKind.i64 (cI (List.getD (List.map Ti.cs (As.L a)) (Int.toNat (↑i : Int)) []) 1), PV.list ([] ++ cL (List.getD (List.map Ti.cs (As.L a)) (Int.toNat (↑i : Int)) []) 2) Tail.no, PV.int IntKind.i64 (cI (List.getD (List.map Ti.cs (As.L a)) (Int.toNat (↑i : Int)) []) 3), PV.int IntKind.i64 (cI (List.getD (List.map Ti.cs (As.L a)) (Int.toNat (↑i : Int)) []) 4)]]) (Tail.tok 3), PV.int IntKind.i64 (wI ((↑i : Int) + 1))] [Ob.cells [PV.int IntKind.i64 (Mo.K (As.M a)), PV.int IntKind.i64 (Mo.Base (As.M a)), PV.int IntKind.i64 (Mo.Step (As.M a)), PV.int IntKind.i64 (Mo.Cap (As.M a)), PV.int IntKind.i64 (Mo.Every (As.M a)), PV.int IntKind.i64 (As.Now a), PV.list (List.map Ti.cs (As.L a)) Tail.no, PV.list (List.map Ro.cs (As.R a)) Tail.no], Ob.dead, Ob.cells [PV.int IntKind.u32 (cI (List.getD (List.map Ti.cs (As.L a)) (Int.toNat (↑i : Int)) []) 0), PV.int IntKind.i64 (cI (List.getD (List.map Ti.cs (As.L a)) (Int.toNat (↑i : Int)) []) 1), PV.list (cL (List.getD (List.map Ti.cs (As.L a)) (Int.toNat (↑i : Int)) []) 2) (cT (List.getD (List.map Ti.cs (As.L a)) (Int.toNat (↑i : Int)) []) 2), PV.int IntKind.i64 (cI (List.getD (List.map Ti.cs (As.L a)) (Int.toNat (↑i : Int)) []) 3), PV.int IntKind.i64 (cI (List.getD (List.map Ti.cs (As.L a)) (Int.toNat (↑i : Int)) []) 4)], Ob.tok]) False) (R (Ex.exit 0) [PV.ptr 0 0, PV.list [] Tail.exact, PV.list (List.map Ti.cs x) (Tail.tok 1), PV.int IntKind.i64 (↑i : Int)] [Ob.cells [PV.int IntKind.i64 (Mo.K (As.M a)), PV.int IntKind.i64 (Mo.Base (As.M a)), PV.int IntKind.i64 (Mo.Step (As.M a)), PV.int IntKind.i64 (Mo.Cap (As.M a)), PV.int IntKind.i64 (Mo.Every (As.M a)), PV.int IntKind.i64 (As.Now a), PV.list (List.map Ti.cs (As.L a)) Tail.no, PV.list (List.map Ro.cs (As.R a)) Tail.no], Ob.tok])) = wpc br Try.prog gl TX [] (fun o => match o.dst with | some 33 => 1 | _ => 0) (subOf [1, 1, 0, 1, 0] (bodyOf Try.f31)) [] (envS [1, 2, 3, 4] [.ptr 0 0, .list [] .exact, .list (x.map Ti.cs) (.tok 1), .int .i64 i]) [.cells a.cs, .tok] (fun ex e H => R ex (List.map e [1, 2, 3, 4]) H) := by kernel_rfl
theorem tkb_vc (a : As) (x : List Ti) (i : Nat) (R : Ex → List PV → Heap → Prop) (h : br (decide ((↑i : Int) < (↑(List.length (List.map Ti.cs (As.L a))) : Int))) (InL (List.map Ti.cs (As.L a)) 5 (↑i : Int) ∧ br (true && fitX [CK.int IntKind.u32, CK.int IntKind.i64, CK.list, CK.int IntKind.i64, CK.int IntKind.i64] 0 (List.getD (List.map Ti.cs (As.L a)) (Int.toNat (↑i : Int)) [])) (AppL [] (cL (List.getD (List.map Ti.cs (As.L a)) (Int.toNat (↑i : Int)) []) 2) 1 4 ∧ AppL (List.map Ti.cs x) [[PV.int IntKind.u32 (cI (List.getD (List.map Ti.cs (As.L a)) (Int.toNat (↑i : Int)) []) 0), PV.int IntKind.i64 (cI (List.getD (List.map Ti.cs (As.L a)) (Int.toNat (↑i : Int)) []) 1), PV.list ([] ++ cL (List.getD (List.map Ti.cs (As.L a)) (Int.toNat (↑i : Int)) []) 2) Tail.no, PV.int IntKind.i64 (cI (List.getD (List.map Ti.cs (As.L a)) (Int.toNat (↑i : Int)) []) 3), PV.int IntKind.i64 (cI (List.getD (List.map Ti.cs (As.L a)) (Int.toNat (↑i : Int)) []) 4)]] 5 56 ∧ (List.all [PV.int IntKind.u32 (cI (List.getD (List.map Ti.cs (As.L a)) (Int.toNat (↑i : Int)) []) 0), PV.int IntKind.i64 (cI (List.getD (List.map Ti.cs (As.L a)) (Int.toNat (↑i : Int)) []) 1), PV.list ([] ++ cL (List.getD (List.map Ti.cs (As.L a)) (Int.toNat (↑i : Int)) []) 2) Tail.no, PV.int IntKind.i64 (cI (List.getD (List.map Ti.cs (As.L a)) (Int.toNat (↑i : Int)) []) 3), PV.int IntKind.i64 (cI (List.getD (List.map Ti.cs (As.L a)) (Int.toNat (↑i : Int)) []) 4)] PV.one = true ∧ [[PV.int IntKind.u32 (cI (List.getD (List.map Ti.cs (As.L a)) (Int.toNat (↑i : Int)) []) 0), PV.int IntKind.i64 (cI (List.getD (List.map Ti.cs (As.L a)) (Int.toNat (↑i : Int)) []) 1), PV.list ([] ++ cL (List.getD (List.map Ti.cs (As.L a)) (Int.toNat (↑i : Int)) []) 2) Tail.no, PV.int IntKind.i64 (cI (List.getD (List.map Ti.cs (As.L a)) (Int.toNat (↑i : Int)) []) 3), PV.int IntKind.i64 (cI (List.getD (List.map Ti.cs (As.L a)) (Int.toNat (↑i : Int)) []) 4)]] ≠ []) ∧ R Ex.normal [PV.ptr 0 0, PV.list [] Tail.exact, PV.list (List.map Ti.cs x ++ [[PV.int IntKind.u32 (cI (List.getD (List.map Ti.cs (As.L a)) (Int.toNat (↑i : Int)) []) 0), PV.int IntKind.i64 (cI (List.getD (List.map Ti.cs (As.L a)) (Int.toNat (↑i : Int)) []) 1), PV.list ([] ++ cL (List.getD (List.map Ti.cs (As.L a)) (Int.toNat (↑i : Int)) []) 2) Tail.no, PV.int IntKind.i64 (cI (List.getD (List.map Ti.cs (As.L a)) (Int.toNat (↑i : Int)) []) 3), PV.int IntKind.i64 (cI (List.getD (List.map Ti.cs (As.L a)) (Int.toNat (↑i : Int)) []) 4)]]) (Tail.tok 3), PV.int IntKind.i64 (wI ((↑i : Int) + 1))] [Ob.cells [PV.int IntKind.i64 (Mo.K (As.M a)), PV.int IntKind.i64 (Mo.Base (As.M a)), PV.int IntKind.i64 (Mo.Step (As.M a)), PV.int IntKind.i64 (Mo.Cap (As.M a)), PV.int IntKind.i64 (Mo.Every (As.M a)), PV.int IntKind.i64 (As.Now a), PV.list (List.map Ti.cs (As.L a)) Tail.no, PV.list (List.map Ro.cs (As.R a)) Tail.no], Ob.dead, Ob.cells [PV.int IntKind.u32 (cI (List.getD (List.map Ti.cs (As.L a)) (Int.toNat (↑i : Int)) []) 0), PV.int IntKind.i64 (cI (List.getD (List.map Ti.cs (As.L a)) (Int.toNat (↑i : Int)) []) 1), PV.list (cL (List.getD (List.map Ti.cs (As.L a)) (Int.toNat (↑i : Int)) []) 2) (cT (List.getD (List.map Ti.cs (As.L a)) (Int.toNat (↑i : Int)) []) 2), PV.int IntKind.i64 (cI (List.getD (List.map Ti.cs (As.L a)) (Int.toNat (↑i : Int)) []) 3), PV.int IntKind.i64 (cI (List.getD (List.map Ti.cs (As.L a)) (Int.toNat (↑i : Int)) []) 4)], Ob.tok]) False) (R (Ex.exit 0) [PV.ptr 0 0, PV.list [] Tail.exact, PV.list (List.map Ti.cs x) (Tail.tok 1), PV.int IntKind.i64 (↑i : Int)] [Ob.cells [PV.int IntKind.i64 (Mo.K (As.M a)), PV.int IntKind.i64 (Mo.Base (As.M a)), PV.int IntKind.i64 (Mo.Step (As.M a)), PV.int IntKind.i64 (Mo.Cap (As.M a)), PV.int IntKind.i64 (Mo.Every (As.M a)), PV.int IntKind.i64 (As.Now a), PV.list (List.map Ti.cs (As.L a)) Tail.no, PV.list (List.map Ro.cs (As.R a)) Tail.no], Ob.tok])) : Holds (wpc br Try.prog gl TX [] (fun o => match o.dst with | some 33 => 1 | _ => 0) (subOf [1, 1, 0, 1, 0] (bodyOf Try.f31)) [] (envS [1, 2, 3, 4] [.ptr 0 0, .list [] .exact, .list (x.map Ti.cs) (.tok 1), .int .i64 i]) [.cells a.cs, .tok] (fun ex e H => R ex (List.map e [1, 2, 3, 4]) H)) := holds_of_eq (tkb_red a x i R) h
theorem fti_red (r : List Ro) (t : Tail) (i j : Nat) (R : Ex → List PV → Heap → Prop) : (br (decide ((↑j : Int) < (↑i : Int))) (InL (List.map Ro.cs r) 4 (↑i : Int) ∧ br (true && fitX [CK.int IntKind.i64] 0 (List.drop 2 (List.getD (List.map Ro.cs r) (Int.toNat (↑i : Int)) []))) (InL (List.map Ro.cs r) 4 (↑i : Int) ∧ br (true && fitX [CK.int IntKind.i64] 0 (List.drop 3 (List.getD (List.map Ro.cs r) (Int.toNat (↑i : Int)) []))) (InL (List.map Ro.cs r) 4 (↑j : Int) ∧ br (true && fitX [CK.int IntKind.i64] 0 (List.drop 2 (List.getD (List.map Ro.cs r) (Int.toNat (↑j : Int)) []))) (InL (List.map Ro.cs r) 4 (↑j : Int) ∧ br (true && fitX [CK.int IntKind.i64] 0 (List.drop 3 (List.getD (List.map Ro.cs r) (Int.toNat (↑j : Int)) []))) (br (!decide (dist (cI (List.drop 2 (List.getD (List.map Ro.cs r) (Int.toNat (↑i : Int)) [])) 0) (cI (List.drop 2 (List.getD (List.map Ro.cs r) (Int.toNat (↑j : Int)) [])) 0) ≤ cI (List.drop 3 (List.getD (List.map Ro.cs r) (Int.toNat (↑i : Int)) [])) 0 ∧ dist (cI (List.drop 2 (List.getD (List.map Ro.cs r) (Int.toNat (↑i : Int)) [])) 0) (cI (List.drop 2 (List.getD (List.map Ro.cs r) (Int.toNat (↑j : Int)) [])) 0) ≤ cI (List.drop 3 (List.getD (List.map Ro.cs r) (Int.toNat (↑j : Int)) [])) 0)) (R Ex.ret [PV.list (List.map Ro.cs r) t, PV.bool false, PV.int IntKind.i64 (↑i : Int), PV.int IntKind.i64 (↑j : Int)] []) (R Ex.normal [PV.list (List.map Ro.cs r) t, PV.bool false, PV.int IntKind.i64 (↑i : Int), PV.int IntKind.i64 (wI ((↑j : Int) + 1))] [])) False) False) False) False) (R (Ex.exit 2) [PV.list (List.map Ro.cs r) t, PV.bool false, PV.int IntKind.i64 (↑i : Int), PV.int IntKind.i64 (↑j : Int)] [])) = wpc br Try.prog gl TX [] (fun _ => 0) (subOf [1, 0, 1, 0, 0, 1, 0, 0, 1, 0] (bodyOf Try.f38)) [] (envS [0, 2, 3, 4] [.list (r.map Ro.cs) t, .bool false, .int .i64 i, .int .i64 j]) [] (fun ex e H => R ex (List.map e [0, 2, 3, 4]) H) := by kernel_rfl
theorem fti_vc (r : List Ro) (t : Tail) (i j : Nat) (R : Ex → List PV → Heap → Prop) (h : br (decide ((↑j : Int) < (↑i : Int))) (InL (List.map Ro.cs r) 4 (↑i : Int) ∧ br (true && fitX [CK.int IntKind.i64] 0 (List.drop 2 (List.getD (List.map Ro.cs r) (Int.toNat (↑i : Int)) []))) (InL (List.map Ro.cs r) 4 (↑i : Int) ∧ br (true && fitX [CK.int IntKind.i64] 0 (List.drop 3 (List.getD (List.map Ro.cs r) (Int.toNat (↑i : Int)) []))) (InL (List.map Ro.cs r) 4 (↑j : Int) ∧ br (true && fitX [CK.int IntKind.i64] 0 (List.drop 2 (List.getD (List.map Ro.cs r) (Int.toNat (↑j : Int)) []))) (InL (List.map Ro.cs r) 4 (↑j : Int) ∧ br (true && fitX [CK.int IntKind.i64] 0 (List.drop 3 (List.getD (List.map Ro.cs r) (Int.toNat (↑j : Int)) []))) (br (!decide (dist (cI (List.drop 2 (List.getD (List.map Ro.cs r) (Int.toNat (↑i : Int)) [])) 0) (cI (List.drop 2 (List.getD (List.map Ro.cs r) (Int.toNat (↑j : Int)) [])) 0) ≤ cI (List.drop 3 (List.getD (List.map Ro.cs r) (Int.toNat (↑i : Int)) [])) 0 ∧ dist (cI (List.drop 2 (List.getD (List.map Ro.cs r) (Int.toNat (↑i : Int)) [])) 0) (cI (List.drop 2 (List.getD (List.map Ro.cs r) (Int.toNat (↑j : Int)) [])) 0) ≤ cI (List.drop 3 (List.getD (List.map Ro.cs r) (Int.toNat (↑j : Int)) [])) 0)) (R Ex.ret [PV.list (List.map Ro.cs r) t, PV.bool false, PV.int IntKind.i64 (↑i : Int), PV.int IntKind.i64 (↑j : Int)] []) (R Ex.normal [PV.list (List.map Ro.cs r) t, PV.bool false, PV.int IntKind.i64 (↑i : Int), PV.int IntKind.i64 (wI ((↑j : Int) + 1))] [])) False) False) False) False) (R (Ex.exit 2) [PV.list (List.map Ro.cs r) t, PV.bool false, PV.int IntKind.i64 (↑i : Int), PV.int IntKind.i64 (↑j : Int)] [])) : Holds (wpc br Try.prog gl TX [] (fun _ => 0) (subOf [1, 0, 1, 0, 0, 1, 0, 0, 1, 0] (bodyOf Try.f38)) [] (envS [0, 2, 3, 4] [.list (r.map Ro.cs) t, .bool false, .int .i64 i, .int .i64 j]) [] (fun ex e H => R ex (List.map e [0, 2, 3, 4]) H)) := holds_of_eq (fti_red r t i j R) h
def teamS (m : Mo) (p : Int) (r : List Ro) : Int := if okM m ∧ 1 ≤ p ∧ p ≤ m.K then (if tk 1 r ≤ m.K - p ∧ tk 1 r ≤ tk 2 r then 1 else if tk 2 r ≤ m.K - p then 2 else 0) else 0
def team_s (args : List PV) (K : PV → Prop) : Prop := ∃ (m : Mo) (p : Int) (r : List Ro) (t : Tail), SlIs args [m.pv, .int .i64 p, .list (r.map Ro.cs) t] ∧ RsOk r ∧ K (.int .i64 (teamS m p r))
theorem low_mpv {n : Nat} (m : Mo) : Low n m.pv := by unfold Mo.pv; simp [low_int, low_agg]
theorem team1_ok : SpOk Try.prog gl 28 (.pure team_s) := by
  rintro args K ⟨m, p, r, t, he, hr, hk⟩
  have he : args = _ := he
  subst he
  refine spure_w gl_low (.cons (.refl _) (.cons (.refl _) (.cons (.list _ _) .nil))) (by intro x hx; simp only [List.mem_cons, List.not_mem_nil, or_false] at hx; rcases hx with rfl | rfl | rfl; exact low_mpv m; exact .int _ _; exact low_list NT.no (low_rs hr)) (.int _ _) (team1_vc m p r .no (fun x => x = .int .i64 (teamS m p r)) ⟨r, .no, rfl, hr, ?_⟩) hk
  simp only [br_if, bt, bf, dt, df, bne_Sf]
  by_cases ok : okM m
  · rw [if_pos ((wrongM_ok m).2 ok)]
    by_cases c1 : p < 1
    · rw [if_neg (by omega), teamS, if_neg (by omega)]
    rw [if_pos (by omega)]
    by_cases c2 : p > m.K
    · rw [if_pos c2, teamS, if_neg (by omega)]
    have hK := ok.1
    have ht' : teamS m p r = if tk 1 r ≤ m.K - p ∧ tk 1 r ≤ tk 2 r then 1 else if tk 2 r ≤ m.K - p then 2 else 0 := by
      unfold teamS; rw [if_pos ⟨ok, by omega, by omega⟩]
    rw [if_neg c2, ht', w_small (by omega) (by omega)]
    by_cases c3 : tk 1 r ≤ m.K - p
    · rw [if_pos c3]
      by_cases c4 : tk 1 r ≤ tk 2 r
      · rw [if_pos c4, if_pos ⟨c3, c4⟩]
      rw [if_neg c4, if_neg (show ¬ (tk 1 r ≤ m.K - p ∧ tk 1 r ≤ tk 2 r) from fun k => c4 k.2)]
      by_cases c5 : tk 2 r ≤ m.K - p
      · rw [if_pos c5, if_pos c5]
      · rw [if_neg c5, if_neg c5]
    · rw [if_neg c3, if_neg (show ¬ (tk 1 r ≤ m.K - p ∧ tk 1 r ≤ tk 2 r) from fun k => c3 k.1)]
      by_cases c5 : tk 2 r ≤ m.K - p
      · rw [if_pos c5, if_pos c5]
      · rw [if_neg c5, if_neg c5]
  · rw [if_neg (fun k => ok ((wrongM_ok m).1 k)), teamS, if_neg (fun k => ok k.1)]
def tm2_l : LSp := fun e H Q => ∃ (m : Mo) (p : Int) (r : List Ro) (t : Tail), okM m ∧ 1 ≤ p ∧ p ≤ m.K ∧ NT t ∧ RsOk r ∧ SlIs (List.map e [1, 2, 3, 6, 7, 8]) [.int .i64 p, .list (r.map Ro.cs) t, .ptr 0 0, .int .i64 0, .int .i64 0, .int .i64 1] ∧ HpIs H [.cells m.cs] ∧
  Q (.exit 0) (envS [1, 2, 3, 6, 7, 8] [.int .i64 p, .list (r.map Ro.cs) t, .ptr 0 0, .int .i64 0, .int .i64 (teamS m p r), .int .i64 3]) [.cells m.cs]
theorem tm2_l_ok : ∀ e H Q, tm2_l e H Q → AW Try.prog gl Try.f30.ntmps (.loop (subOf [1, 1, 1, 0, 1, 0] (bodyOf Try.f30))) Q e H := by
  rintro e H Q ⟨m, p, r, t, ok, hp1, hp2, ht, hr, he, hH, hQ⟩
  have hK := ok.1
  have ht' : teamS m p r = if tk 1 r ≤ m.K - p ∧ tk 1 r ≤ tk 2 r then 1 else if tk 2 r ≤ m.K - p then 2 else 0 := by
    unfold teamS; rw [if_pos ⟨ok, hp1, hp2⟩]
  refine aw_loop4 (hn := fun _ => 0) gl_low TX_ok (.nil _ _ _ _ _) (σ := Int × Int) [1, 2, 3, 6, 7, 8]
    (fun s => (s.2 = 1 ∧ s.1 = 0) ∨ (s.2 = 2 ∧ s.1 = if tk 1 r ≤ m.K - p then 1 else 0) ∨ (s.2 = 3 ∧ s.1 = teamS m p r))
    (fun s => [.int .i64 p, .list (r.map Ro.cs) t, .ptr 0 0, .int .i64 0, .int .i64 s.1, .int .i64 s.2]) (fun _ => [.cells m.cs]) (fun s => (4 - s.2).toNat) (0, 1) (.inl ⟨rfl, rfl⟩) he hH ?_
  rintro ⟨b, i⟩ hI
  refine tm2_vc m p r t b i _ ?_
  simp only [br_if, bt, bf, dt, beq_If]
  rw [w_small (n := m.K - p) (by omega) (by omega)]
  simp only at hI
  rcases hI with ⟨rfl, rfl⟩ | ⟨rfl, hb⟩ | ⟨rfl, hb⟩
  · rw [if_pos (by omega)]
    refine ⟨r, t, 1, rfl, hr, ?_⟩
    by_cases c : tk 1 r ≤ m.K - p
    · rw [if_pos c, if_neg (by simp)]
      exact ⟨(1, 2), by simp, .inr (.inl ⟨rfl, by rw [if_pos c]⟩), rfl, [], rfl, Nat.le_refl _, .inl rfl⟩
    · rw [if_neg c]
      exact ⟨(0, 2), by simp, .inr (.inl ⟨rfl, by rw [if_neg c]⟩), rfl, [], rfl, Nat.le_refl _, .inl rfl⟩
  · rw [if_pos (by omega)]
    refine ⟨r, t, 2, rfl, hr, ?_⟩
    by_cases c1 : tk 1 r ≤ m.K - p
    · rw [if_pos c1] at hb
      subst hb
      by_cases c : tk 2 r ≤ m.K - p
      · rw [if_pos c, if_pos (by omega)]
        refine ⟨r, t, 2, rfl, hr, r, t, 1, rfl, hr, ?_⟩
        by_cases d : tk 2 r < tk 1 r
        · rw [if_pos d]
          exact ⟨(2, 3), by simp, .inr (.inr ⟨rfl, by rw [ht', if_neg (by omega), if_pos c]⟩), rfl, [], rfl, Nat.le_refl _, .inl rfl⟩
        · rw [if_neg d]
          exact ⟨(1, 3), by simp, .inr (.inr ⟨rfl, by rw [ht', if_pos (by omega)]⟩), rfl, [], rfl, Nat.le_refl _, .inl rfl⟩
      · rw [if_neg c]
        exact ⟨(1, 3), by simp, .inr (.inr ⟨rfl, by rw [ht', if_pos (by omega)]⟩), rfl, [], rfl, Nat.le_refl _, .inl rfl⟩
    · rw [if_neg c1] at hb
      subst hb
      by_cases c : tk 2 r ≤ m.K - p
      · rw [if_pos c, if_neg (by simp)]
        exact ⟨(2, 3), by simp, .inr (.inr ⟨rfl, by rw [ht', if_neg (by omega), if_pos c]⟩), rfl, [], rfl, Nat.le_refl _, .inl rfl⟩
      · rw [if_neg c]
        exact ⟨(0, 3), by simp, .inr (.inr ⟨rfl, by rw [ht', if_neg (by omega), if_neg c]⟩), rfl, [], rfl, Nat.le_refl _, .inl rfl⟩
  · rw [if_neg (by omega), hb]
    exact hQ
-- may a ticket sit beside rows?
def nr (a w : Int) (y : Ro) : Bool := decide (dist a y.Rating ≤ w ∧ dist a y.Rating ≤ y.Window)
def fitsS (m : Mo) (n : Int) (x : Ti) (r : List Ro) : Bool := r.all (nr x.Rating (winM m (waitS n x.Since))) && decide (okM m)
def ft1_l : LSp := fun e H Q => ∃ (m : Mo) (x : Ti) (r : List Ro) (t : Tail) (w : Int), NT t ∧ NT x.Pt ∧ RsOk r ∧ SlIs (List.map e [4, 6, 8, 9, 19, 20, 21]) [.ptr 0 0, .ptr 1 0, .bool false, .int .i64 w, .list (r.map Ro.cs) t, .int .i64 r.length, .int .i64 0] ∧ HpIs H [.cells m.cs, .cells x.cs] ∧
  (r.all (nr x.Rating w) = true → Q (.exit 0) (envS [4, 6, 8, 9, 19, 20, 21] [.ptr 0 0, .ptr 1 0, .bool false, .int .i64 w, .list (r.map Ro.cs) t, .int .i64 r.length, .int .i64 r.length]) [.cells m.cs, .cells x.cs]) ∧
  (r.all (nr x.Rating w) = false → ∀ q : Nat × Ro, Q .ret (envS [4, 6, 8, 9, 19, 20, 21] [.ptr 0 0, .ptr 1 0, .bool false, .int .i64 w, .list (r.map Ro.cs) t, .int .i64 r.length, .int .i64 q.1]) [.cells m.cs, .cells x.cs, .cells q.2.cs])
theorem ft1_l_ok : ∀ e H Q, ft1_l e H Q → AW Try.prog gl Try.f32.ntmps (.loop (subOf [1, 1, 0, 1, 0] (bodyOf Try.f32))) Q e H := by
  rintro e H Q ⟨m, x, r, t, w, ht, hx, hr, he, hH, hy, hn⟩
  have hlen := hr.1
  refine aw_loop4 (hn := fun _ => 0) gl_low TX_ok (.nil _ _ _ _ _) (σ := Nat) [4, 6, 8, 9, 19, 20, 21] (fun i => i ≤ r.length ∧ r.all (nr x.Rating w) = (r.drop i).all (nr x.Rating w))
    (fun i => [.ptr 0 0, .ptr 1 0, .bool false, .int .i64 w, .list (r.map Ro.cs) t, .int .i64 r.length, .int .i64 i]) (fun _ => [.cells m.cs, .cells x.cs]) (fun i => r.length - i) 0 ⟨Nat.zero_le _, rfl⟩ he hH ?_
  rintro i ⟨h1, h2⟩
  refine ft1_vc m x r t w i _ ?_
  simp only [br_if, dt, toNat_nat, inL_ro]
  by_cases h : i < r.length
  · rw [if_pos (by omega), getD_map Ro.zero h]
    simp only [ro_f, ro_c]
    refine ⟨h, ?_⟩
    rw [if_pos (by rfl : (true && true) = true)]
    rw [drop_cons Ro.zero h, List.all_cons] at h2
    generalize r.getD i Ro.zero = y at *
    have k1 := clampR_in x.Rating
    have k2 := clampR_in y.Rating
    rw [w_small (n := clampR x.Rating - clampR y.Rating) (by omega) (by omega), w_small (n := 0 - (clampR x.Rating - clampR y.Rating)) (by omega) (by omega)]
    have hd : mxI (clampR x.Rating - clampR y.Rating) (0 - (clampR x.Rating - clampR y.Rating)) = dist x.Rating y.Rating := by unfold dist mxI; (repeat' split) <;> omega
    rw [hd]
    by_cases c : dist x.Rating y.Rating > mnI w y.Window
    · rw [if_pos c]
      have : nr x.Rating w y = false := by
        unfold nr; apply decide_eq_false; intro k; unfold mnI at c; split at c <;> omega
      rw [this, Bool.false_and] at h2
      exact hn h2 (i, y)
    · rw [if_neg c]
      have : nr x.Rating w y = true := by
        unfold nr; apply decide_eq_true; unfold mnI at c; split at c <;> omega
      rw [this, Bool.true_and] at h2
      refine ⟨i + 1, (show r.length - (i + 1) < r.length - i by omega), ⟨by omega, h2⟩, by rw [wI_succ h (by omega)], [.cells y.cs], rfl, Nat.le_refl _, .inr ⟨?_, ?_⟩⟩
      · intro v hv
        simp only [List.mem_cons, List.not_mem_nil, or_false] at hv
        rcases hv with rfl | rfl | rfl | rfl | rfl | rfl | rfl <;> first | exact .int _ _ | exact .bool _ | exact .ptr _ _ (by simp) | exact low_list ht (low_rs hr)
      · intro o cs ho
        have : o = 0 ∨ o = 1 := by have := (List.getElem?_eq_some_iff.1 ho).1; simp at this; omega
        rcases this with rfl | rfl
        · cases ho; exact low_mo m
        · cases ho; exact low_ti hx
  · rw [if_neg (by omega)]
    rw [drop_all h] at h2
    have : i = r.length := by omega
    subst this
    exact hy h2
def ft2_l : LSp := fun e H Q => ∃ (m : Mo) (x : Ti) (r : List Ro) (t : Tail) (w : Int), RsOk r ∧ SlIs (List.map e [3, 4, 6, 8, 9, 10]) [.list (r.map Ro.cs) t, .ptr 0 0, .ptr 1 0, .bool false, .int .i64 w, .int .i64 0] ∧ HpIs H [.cells m.cs, .cells x.cs] ∧
  (r.all (nr x.Rating w) = true → Q (.exit 0) (envS [3, 4, 6, 8, 9, 10] [.list (r.map Ro.cs) t, .ptr 0 0, .ptr 1 0, .bool false, .int .i64 w, .int .i64 r.length]) [.cells m.cs, .cells x.cs]) ∧
  (r.all (nr x.Rating w) = false → ∀ i : Nat, Q .ret (envS [3, 4, 6, 8, 9, 10] [.list (r.map Ro.cs) t, .ptr 0 0, .ptr 1 0, .bool false, .int .i64 w, .int .i64 i]) [.cells m.cs, .cells x.cs])
theorem ft2_l_ok : ∀ e H Q, ft2_l e H Q → AW Try.prog gl Try.f33.ntmps (.loop (subOf [1, 1, 1, 0, 1, 0] (bodyOf Try.f33))) Q e H := by
  rintro e H Q ⟨m, x, r, t, w, hr, he, hH, hy, hn⟩
  have hlen := hr.1
  refine aw_loop4 (hn := fun _ => 0) gl_low TX_ok (.nil _ _ _ _ _) (σ := Nat) [3, 4, 6, 8, 9, 10] (fun i => i ≤ r.length ∧ r.all (nr x.Rating w) = (r.drop i).all (nr x.Rating w))
    (fun i => [.list (r.map Ro.cs) t, .ptr 0 0, .ptr 1 0, .bool false, .int .i64 w, .int .i64 i]) (fun _ => [.cells m.cs, .cells x.cs]) (fun i => r.length - i) 0 ⟨Nat.zero_le _, rfl⟩ he hH ?_
  rintro i ⟨h1, h2⟩
  refine ft2_vc m x r t w i _ ?_
  simp only [br_if, dt, List.length_map, toNat_nat, inL_ro]
  by_cases h : i < r.length
  · rw [if_pos (by omega)]
    simp only [getD_map Ro.zero h, ro_f, ro_d]
    refine ⟨h, ?_⟩
    rw [if_pos (by rfl : (true && true) = true)]
    refine ⟨h, ?_⟩
    rw [if_pos (by rfl : (true && true) = true)]
    rw [drop_cons Ro.zero h, List.all_cons] at h2
    generalize r.getD i Ro.zero = y at *
    cases c : nr x.Rating w y with
    | false =>
      rw [c, Bool.false_and] at h2
      unfold nr at c
      rw [if_pos (by rw [c]; rfl)]
      exact hn h2 i
    | true =>
      rw [c, Bool.true_and] at h2
      unfold nr at c
      rw [if_neg (by rw [c]; decide)]
      exact ⟨i + 1, (show r.length - (i + 1) < r.length - i by omega), ⟨by omega, h2⟩, by rw [wI_succ h (by omega)], [], rfl, Nat.le_refl _, .inl rfl⟩
  · rw [if_neg (by omega)]
    rw [drop_all h] at h2
    have : i = r.length := by omega
    subst this
    exact hy h2
-- the lists made anew
def PtNo (a : As) : Prop := (∀ t ∈ a.L, t.Pt = .no ∧ t.Ps.length ≤ 10) ∧ (∀ t ∈ a.R, t.Pt = .no ∧ t.Ps.length ≤ 10) ∧ a.L.length ≤ 20 ∧ a.R.length ≤ 20
theorem low_acs {n : Nat} {a : As} (h : PtNo a) : ∀ x ∈ a.cs, Low n x := by
  intro x hx
  simp only [As.cs, List.mem_cons, List.not_mem_nil, or_false] at hx
  rcases hx with rfl | rfl | rfl | rfl | rfl | rfl | rfl | rfl <;> first | exact .int _ _ | exact low_list NT.no (low_map fun b hb => low_ti (by rw [(h.1 b hb).1]; exact NT.no)) | exact low_list NT.no (low_map fun b hb => low_ro (by rw [(h.2.1 b hb).1]; exact NT.no))
theorem low_one {a : As} (h : PtNo a) : ∀ (o : Nat) cs, [Ob.cells a.cs][o]? = some (.cells cs) → ∀ x ∈ cs, Low 1 x := by
  intro o cs ho
  have : o = 0 := by have := (List.getElem?_eq_some_iff.1 ho).1; simp at this; omega
  subst this
  cases ho; exact low_acs h
theorem rv_fl (es : List (List PV)) (i k : Nat) (h : ∀ y ∈ es.flatten, Low 1 y) : RVs 1 k [.ptr 0 0, .list [] .exact, .list es (.tok k), .int .i64 i] [.ptr 0 0, .list [] .exact, .list es (.tok 1), .int .i64 i] :=
  .same (.ptr _ _ (by decide)) (.same (low_list NT.exact (by simp)) (.row h (.same (.int _ _) .nil)))
theorem appL_ps (ps : List Int) (h : ps.length ≤ 1000) : AppL [] (en1 .u32 ps) 1 4 := ⟨by intro e he; simp at he, en1_uni _ _, by rw [en1_length]; simp; omega⟩
theorem ro_snoc (l : List Ro) (i : Nat) (h : i < l.length) (hp : (l.getD i Ro.zero).Pt = .no) : (l.take i).map Ro.cs ++ [[PV.int .i64 (l.getD i Ro.zero).Team, .list ([] ++ en1 .u32 (l.getD i Ro.zero).Ps) .no, .int .i64 (l.getD i Ro.zero).Rating, .int .i64 (l.getD i Ro.zero).Window]] = (l.take (i + 1)).map Ro.cs := by
  rw [take_snoc Ro.zero h, List.map_append]
  show _ = _ ++ [Ro.cs (l.getD i Ro.zero)]
  unfold Ro.cs
  rw [hp]; rfl
theorem ti_snoc (l : List Ti) (i : Nat) (h : i < l.length) (hp : (l.getD i Ti.zero).Pt = .no) : (l.take i).map Ti.cs ++ [[PV.int .u32 (l.getD i Ti.zero).Id, .int .i64 (l.getD i Ti.zero).Mode, .list ([] ++ en1 .u32 (l.getD i Ti.zero).Ps) .no, .int .i64 (l.getD i Ti.zero).Rating, .int .i64 (l.getD i Ti.zero).Since]] = (l.take (i + 1)).map Ti.cs := by
  rw [take_snoc Ti.zero h, List.map_append]
  show _ = _ ++ [Ti.cs (l.getD i Ti.zero)]
  unfold Ti.cs
  rw [hp]; rfl
def rw_l : LSp := fun e H Q => ∃ a : As, PtNo a ∧ SlIs (List.map e [1, 2, 3, 4]) [.ptr 0 0, .list [] .exact, .list [] .exact, .int .i64 0] ∧ HpIs H [.cells a.cs] ∧
  Q (.exit 0) (envS [1, 2, 3, 4] [.ptr 0 0, .list [] .exact, .list (a.R.map Ro.cs) .no, .int .i64 a.R.length]) [.cells a.cs, .dead]
def ts_l : LSp := fun e H Q => ∃ a : As, PtNo a ∧ SlIs (List.map e [1, 2, 3, 4]) [.ptr 0 0, .list [] .exact, .list [] .exact, .int .i64 0] ∧ HpIs H [.cells a.cs] ∧
  Q (.exit 0) (envS [1, 2, 3, 4] [.ptr 0 0, .list [] .exact, .list (a.L.map Ti.cs) .no, .int .i64 a.L.length]) [.cells a.cs, .dead]
theorem rw_l_ok : ∀ e H Q, rw_l e H Q → AW Try.prog gl Try.f26.ntmps (.loop (subOf [1, 1, 0, 1, 0] (bodyOf Try.f26))) Q e H := by
  rintro e H Q ⟨a, hp, he, hH, hQ⟩
  have hp' := hp.2.1
  have hll : a.R.length ≤ 20 := hp.2.2.2
  have hH2 : H = [.cells a.cs] := hH
  refine aw_grow (f := Ro.cs) (T := a.R) (hn := fun o => match o.dst with | some 31 => 1 | _ => 0) gl_low TX_ok (.nil _ _ _ _ _) [1, 2, 3, 4] (fun r i => [.ptr 0 0, .list [] .exact, r, .int .i64 i]) [.cells a.cs]
    (low_one hp) (fun b hb => low_ro (by rw [(hp' b hb).1]; exact NT.no)) rv_fl he hH2 ?_ ?_
  · refine rwa_vc a _ ?_
    simp only [br_if, dt, List.length_map]
    by_cases h : 0 < a.R.length
    · rw [if_pos (by omega), show (0 : Int) = ((0 : Nat) : Int) from rfl, inL_ro, getD_map Ro.zero h]
      have hq := hp' _ (getD_mem (d := Ro.zero) h)
      simp only [ro_f, ro_c]
      refine ⟨h, ?_⟩
      rw [if_pos (by rfl : (true && true) = true)]
      refine ⟨appL_ps _ (by omega), ⟨by intro e he; simp at he, by intro e he; simp at he; subst he; rfl, by simp⟩, ⟨by rfl, by simp⟩, h, _, 2, rfl, rfl, by simp, ?_⟩
      rw [← ro_snoc a.R 0 h hq.1]; rfl
    · rw [if_neg (by omega)]
      have hm : a.R = [] := List.eq_nil_of_length_eq_zero (by omega)
      rw [hm] at hQ
      exact ⟨_, _, .cons (.refl _) (.cons (.refl _) (.cons (.list _ _) (.cons (.refl _) .nil))), pad_dead _, hQ⟩
  · intro i h0 hi
    refine rwb_vc a (a.R.take i) i _ ?_
    simp only [br_if, dt, List.length_map, toNat_nat]
    by_cases h : i < a.R.length
    · rw [if_pos (by omega), inL_ro, getD_map Ro.zero h]
      have hq := hp' _ (getD_mem (d := Ro.zero) h)
      simp only [ro_f, ro_c]
      refine ⟨h, ?_⟩
      rw [if_pos (by rfl : (true && true) = true)]
      refine ⟨appL_ps _ (by omega), ⟨uni_map Ro.cs_len _, by intro e he; simp at he; subst he; rfl, by simp; omega⟩, ⟨by rfl, by simp⟩, h, _, 3, rfl, rfl, by simp, ?_⟩
      rw [ro_snoc a.R i h hq.1, wI_succ h (by omega)]
    · rw [if_neg (by omega)]
      have hm : i = a.R.length := by omega
      subst hm
      rw [List.take_length]
      exact ⟨_, _, .cons (.refl _) (.cons (.refl _) (.cons (.list _ _) (.cons (.refl _) .nil))), pad_kill [.cells a.cs] .tok, hQ⟩
theorem ts_l_ok : ∀ e H Q, ts_l e H Q → AW Try.prog gl Try.f31.ntmps (.loop (subOf [1, 1, 0, 1, 0] (bodyOf Try.f31))) Q e H := by
  rintro e H Q ⟨a, hp, he, hH, hQ⟩
  have hp' := hp.1
  have hll : a.L.length ≤ 20 := hp.2.2.1
  have hH2 : H = [.cells a.cs] := hH
  refine aw_grow (f := Ti.cs) (T := a.L) (hn := fun o => match o.dst with | some 33 => 1 | _ => 0) gl_low TX_ok (.nil _ _ _ _ _) [1, 2, 3, 4] (fun r i => [.ptr 0 0, .list [] .exact, r, .int .i64 i]) [.cells a.cs]
    (low_one hp) (fun b hb => low_ti (by rw [(hp' b hb).1]; exact NT.no)) rv_fl he hH2 ?_ ?_
  · refine tka_vc a _ ?_
    simp only [br_if, dt, List.length_map]
    by_cases h : 0 < a.L.length
    · rw [if_pos (by omega), show (0 : Int) = ((0 : Nat) : Int) from rfl, inL_ti, getD_map Ti.zero h]
      have hq := hp' _ (getD_mem (d := Ti.zero) h)
      simp only [ti_f, ti_c]
      refine ⟨h, ?_⟩
      rw [if_pos (by rfl : (true && true) = true)]
      refine ⟨appL_ps _ (by omega), ⟨by intro e he; simp at he, by intro e he; simp at he; subst he; rfl, by simp⟩, ⟨by rfl, by simp⟩, h, _, 2, rfl, rfl, by simp, ?_⟩
      rw [← ti_snoc a.L 0 h hq.1]; rfl
    · rw [if_neg (by omega)]
      have hm : a.L = [] := List.eq_nil_of_length_eq_zero (by omega)
      rw [hm] at hQ
      exact ⟨_, _, .cons (.refl _) (.cons (.refl _) (.cons (.list _ _) (.cons (.refl _) .nil))), pad_dead _, hQ⟩
  · intro i h0 hi
    refine tkb_vc a (a.L.take i) i _ ?_
    simp only [br_if, dt, List.length_map, toNat_nat]
    by_cases h : i < a.L.length
    · rw [if_pos (by omega), inL_ti, getD_map Ti.zero h]
      have hq := hp' _ (getD_mem (d := Ti.zero) h)
      simp only [ti_f, ti_c]
      refine ⟨h, ?_⟩
      rw [if_pos (by rfl : (true && true) = true)]
      refine ⟨appL_ps _ (by omega), ⟨uni_map Ti.cs_len _, by intro e he; simp at he; subst he; rfl, by simp; omega⟩, ⟨by rfl, by simp⟩, h, _, 3, rfl, rfl, by simp, ?_⟩
      rw [ti_snoc a.L i h hq.1, wI_succ h (by omega)]
    · rw [if_neg (by omega)]
      have hm : i = a.L.length := by omega
      subst hm
      rw [List.take_length]
      exact ⟨_, _, .cons (.refl _) (.cons (.refl _) (.cons (.list _ _) (.cons (.refl _) .nil))), pad_kill [.cells a.cs] .tok, hQ⟩
theorem team2_red (m : Mo) (p : Int) (r : List Ro) (t : Tail) (K : PV → Prop) : (br ((wrongM m != S0) == false) (br (decide (p < 1) == false) (br (decide (p > Mo.K m)) (K (PV.int IntKind.i64 0)) (∃ (m_1 : Mo), ∃ (p_1 : Int), ∃ (r_1 : List Ro), ∃ (t_1 : Tail), okM m_1 ∧ 1 ≤ p_1 ∧ p_1 ≤ Mo.K m_1 ∧ NT t_1 ∧ RsOk r_1 ∧ SlIs [PV.int IntKind.i64 p, PV.list (List.map Ro.cs r) t, PV.ptr 0 0, PV.int IntKind.i64 0, PV.int IntKind.i64 0, PV.int IntKind.i64 1] [PV.int IntKind.i64 p_1, PV.list (List.map Ro.cs r_1) t_1, PV.ptr 0 0, PV.int IntKind.i64 0, PV.int IntKind.i64 0, PV.int IntKind.i64 1] ∧ HpIs [Ob.cells [PV.int IntKind.i64 (Mo.K m), PV.int IntKind.i64 (Mo.Base m), PV.int IntKind.i64 (Mo.Step m), PV.int IntKind.i64 (Mo.Cap m), PV.int IntKind.i64 (Mo.Every m)]] [Ob.cells [PV.int IntKind.i64 (Mo.K m_1), PV.int IntKind.i64 (Mo.Base m_1), PV.int IntKind.i64 (Mo.Step m_1), PV.int IntKind.i64 (Mo.Cap m_1), PV.int IntKind.i64 (Mo.Every m_1)]] ∧ K (PV.int IntKind.i64 (teamS m_1 p_1 r_1)))) (K (PV.int IntKind.i64 0))) (K (PV.int IntKind.i64 0))) = wpc br Try.prog gl TX [([1, 1, 1, 0, 1, 0], tm2_l)] (fun _ => 0) (bodyOf Try.f30) [] (env0 [m.pv, .int .i64 p, .list (r.map Ro.cs) t]) [] (resQ Try.prog Try.f30.results.toList (fun x _ => K x)) := by kernel_rfl
theorem team2_vc (m : Mo) (p : Int) (r : List Ro) (t : Tail) (K : PV → Prop) (h : br ((wrongM m != S0) == false) (br (decide (p < 1) == false) (br (decide (p > Mo.K m)) (K (PV.int IntKind.i64 0)) (∃ (m_1 : Mo), ∃ (p_1 : Int), ∃ (r_1 : List Ro), ∃ (t_1 : Tail), okM m_1 ∧ 1 ≤ p_1 ∧ p_1 ≤ Mo.K m_1 ∧ NT t_1 ∧ RsOk r_1 ∧ SlIs [PV.int IntKind.i64 p, PV.list (List.map Ro.cs r) t, PV.ptr 0 0, PV.int IntKind.i64 0, PV.int IntKind.i64 0, PV.int IntKind.i64 1] [PV.int IntKind.i64 p_1, PV.list (List.map Ro.cs r_1) t_1, PV.ptr 0 0, PV.int IntKind.i64 0, PV.int IntKind.i64 0, PV.int IntKind.i64 1] ∧ HpIs [Ob.cells [PV.int IntKind.i64 (Mo.K m), PV.int IntKind.i64 (Mo.Base m), PV.int IntKind.i64 (Mo.Step m), PV.int IntKind.i64 (Mo.Cap m), PV.int IntKind.i64 (Mo.Every m)]] [Ob.cells [PV.int IntKind.i64 (Mo.K m_1), PV.int IntKind.i64 (Mo.Base m_1), PV.int IntKind.i64 (Mo.Step m_1), PV.int IntKind.i64 (Mo.Cap m_1), PV.int IntKind.i64 (Mo.Every m_1)]] ∧ K (PV.int IntKind.i64 (teamS m_1 p_1 r_1)))) (K (PV.int IntKind.i64 0))) (K (PV.int IntKind.i64 0))) : ACalls Try.prog gl 30 [m.pv, .int .i64 p, .list (r.map Ro.cs) t] [] (fun x _ => K x) :=
  acalls_of_wpc2 (T := TX) (L := [([1, 1, 1, 0, 1, 0], tm2_l)]) (fun _ => 0) Try.func30 (by kernel_rfl) (by kernel_rfl) (by kernel_rfl) (TX_ok) (.cons (sub_of (by kernel_rfl)) tm2_l_ok (.nil _ _ _ _ _)) (holds_of_eq (team2_red m p r t K) h)
theorem fits1_red (m : Mo) (n : Int) (x : Ti) (r : List Ro) (t : Tail) (K : PV → Prop) : (in64 n ∧ in64 (Ti.Since x) ∧ waitS n (Ti.Since x) ≤ 9223372036854775807 ∧ ∃ (m_1 : Mo), ∃ (x_1 : Ti), ∃ (r_1 : List Ro), ∃ (t_1 : Tail), ∃ (w : Int), NT t_1 ∧ NT (Ti.Pt x_1) ∧ RsOk r_1 ∧ SlIs [PV.ptr 0 0, PV.ptr 1 0, PV.bool false, PV.int IntKind.i64 (winM m (waitS n (Ti.Since x))), PV.list (List.map Ro.cs r) t, PV.int IntKind.i64 (↑(List.length (List.map Ro.cs r)) : Int), PV.int IntKind.i64 0] [PV.ptr 0 0, PV.ptr 1 0, PV.bool false, PV.int IntKind.i64 w, PV.list (List.map Ro.cs r_1) t_1, PV.int IntKind.i64 (↑(List.length r_1) : Int), PV.int IntKind.i64 0] ∧ HpIs [Ob.cells [PV.int IntKind.i64 (Mo.K m), PV.int IntKind.i64 (Mo.Base m), PV.int IntKind.i64 (Mo.Step m), PV.int IntKind.i64 (Mo.Cap m), PV.int IntKind.i64 (Mo.Every m)], Ob.cells [PV.int IntKind.u32 (Ti.Id x), PV.int IntKind.i64 (Ti.Mode x), PV.list (en1 IntKind.u32 (Ti.Ps x)) (Ti.Pt x), PV.int IntKind.i64 (Ti.Rating x), PV.int IntKind.i64 (Ti.Since x)]] [Ob.cells [PV.int IntKind.i64 (Mo.K m_1), PV.int IntKind.i64 (Mo.Base m_1), PV.int IntKind.i64 (Mo.Step m_1), PV.int IntKind.i64 (Mo.Cap m_1), PV.int IntKind.i64 (Mo.Every m_1)], Ob.cells [PV.int IntKind.u32 (Ti.Id x_1), PV.int IntKind.i64 (Ti.Mode x_1), PV.list (en1 IntKind.u32 (Ti.Ps x_1)) (Ti.Pt x_1), PV.int IntKind.i64 (Ti.Rating x_1), PV.int IntKind.i64 (Ti.Since x_1)]] ∧ (List.all r_1 (nr (Ti.Rating x_1) w) = true → K (PV.bool (wrongM m_1 == S0))) ∧ (List.all r_1 (nr (Ti.Rating x_1) w) = false → ∀ (_ : Nat × Ro), K (PV.bool false))) = wpc br Try.prog gl TX [([1, 1, 0, 1, 0], ft1_l)] (fun _ => 0) (bodyOf Try.f32) [] (env0 [m.pv, .int .i64 n, x.pv, .list (r.map Ro.cs) t]) [] (resQ Try.prog Try.f32.results.toList (fun x _ => K x)) := by kernel_rfl
theorem fits1_vc (m : Mo) (n : Int) (x : Ti) (r : List Ro) (t : Tail) (K : PV → Prop) (h : in64 n ∧ in64 (Ti.Since x) ∧ waitS n (Ti.Since x) ≤ 9223372036854775807 ∧ ∃ (m_1 : Mo), ∃ (x_1 : Ti), ∃ (r_1 : List Ro), ∃ (t_1 : Tail), ∃ (w : Int), NT t_1 ∧ NT (Ti.Pt x_1) ∧ RsOk r_1 ∧ SlIs [PV.ptr 0 0, PV.ptr 1 0, PV.bool false, PV.int IntKind.i64 (winM m (waitS n (Ti.Since x))), PV.list (List.map Ro.cs r) t, PV.int IntKind.i64 (↑(List.length (List.map Ro.cs r)) : Int), PV.int IntKind.i64 0] [PV.ptr 0 0, PV.ptr 1 0, PV.bool false, PV.int IntKind.i64 w, PV.list (List.map Ro.cs r_1) t_1, PV.int IntKind.i64 (↑(List.length r_1) : Int), PV.int IntKind.i64 0] ∧ HpIs [Ob.cells [PV.int IntKind.i64 (Mo.K m), PV.int IntKind.i64 (Mo.Base m), PV.int IntKind.i64 (Mo.Step m), PV.int IntKind.i64 (Mo.Cap m), PV.int IntKind.i64 (Mo.Every m)], Ob.cells [PV.int IntKind.u32 (Ti.Id x), PV.int IntKind.i64 (Ti.Mode x), PV.list (en1 IntKind.u32 (Ti.Ps x)) (Ti.Pt x), PV.int IntKind.i64 (Ti.Rating x), PV.int IntKind.i64 (Ti.Since x)]] [Ob.cells [PV.int IntKind.i64 (Mo.K m_1), PV.int IntKind.i64 (Mo.Base m_1), PV.int IntKind.i64 (Mo.Step m_1), PV.int IntKind.i64 (Mo.Cap m_1), PV.int IntKind.i64 (Mo.Every m_1)], Ob.cells [PV.int IntKind.u32 (Ti.Id x_1), PV.int IntKind.i64 (Ti.Mode x_1), PV.list (en1 IntKind.u32 (Ti.Ps x_1)) (Ti.Pt x_1), PV.int IntKind.i64 (Ti.Rating x_1), PV.int IntKind.i64 (Ti.Since x_1)]] ∧ (List.all r_1 (nr (Ti.Rating x_1) w) = true → K (PV.bool (wrongM m_1 == S0))) ∧ (List.all r_1 (nr (Ti.Rating x_1) w) = false → ∀ (_ : Nat × Ro), K (PV.bool false))) : ACalls Try.prog gl 32 [m.pv, .int .i64 n, x.pv, .list (r.map Ro.cs) t] [] (fun x _ => K x) :=
  acalls_of_wpc2 (T := TX) (L := [([1, 1, 0, 1, 0], ft1_l)]) (fun _ => 0) Try.func32 (by kernel_rfl) (by kernel_rfl) (by kernel_rfl) (TX_ok) (.cons (sub_of (by kernel_rfl)) ft1_l_ok (.nil _ _ _ _ _)) (holds_of_eq (fits1_red m n x r t K) h)
theorem fits2_red (m : Mo) (n : Int) (x : Ti) (r : List Ro) (t : Tail) (K : PV → Prop) : (br (wrongM m != S0) (K (PV.bool false)) (in64 n ∧ in64 (Ti.Since x) ∧ waitS n (Ti.Since x) ≤ 9223372036854775807 ∧ ∃ (m_1 : Mo), ∃ (x_1 : Ti), ∃ (r_1 : List Ro), ∃ (t_1 : Tail), ∃ (w : Int), RsOk r_1 ∧ SlIs [PV.list (List.map Ro.cs r) t, PV.ptr 0 0, PV.ptr 1 0, PV.bool false, PV.int IntKind.i64 (winM m (waitS n (Ti.Since x))), PV.int IntKind.i64 0] [PV.list (List.map Ro.cs r_1) t_1, PV.ptr 0 0, PV.ptr 1 0, PV.bool false, PV.int IntKind.i64 w, PV.int IntKind.i64 0] ∧ HpIs [Ob.cells [PV.int IntKind.i64 (Mo.K m), PV.int IntKind.i64 (Mo.Base m), PV.int IntKind.i64 (Mo.Step m), PV.int IntKind.i64 (Mo.Cap m), PV.int IntKind.i64 (Mo.Every m)], Ob.cells [PV.int IntKind.u32 (Ti.Id x), PV.int IntKind.i64 (Ti.Mode x), PV.list (en1 IntKind.u32 (Ti.Ps x)) (Ti.Pt x), PV.int IntKind.i64 (Ti.Rating x), PV.int IntKind.i64 (Ti.Since x)]] [Ob.cells [PV.int IntKind.i64 (Mo.K m_1), PV.int IntKind.i64 (Mo.Base m_1), PV.int IntKind.i64 (Mo.Step m_1), PV.int IntKind.i64 (Mo.Cap m_1), PV.int IntKind.i64 (Mo.Every m_1)], Ob.cells [PV.int IntKind.u32 (Ti.Id x_1), PV.int IntKind.i64 (Ti.Mode x_1), PV.list (en1 IntKind.u32 (Ti.Ps x_1)) (Ti.Pt x_1), PV.int IntKind.i64 (Ti.Rating x_1), PV.int IntKind.i64 (Ti.Since x_1)]] ∧ (List.all r_1 (nr (Ti.Rating x_1) w) = true → K (PV.bool true)) ∧ (List.all r_1 (nr (Ti.Rating x_1) w) = false → ∀ (_ : Nat), K (PV.bool false)))) = wpc br Try.prog gl TX [([1, 1, 1, 0, 1, 0], ft2_l)] (fun _ => 0) (bodyOf Try.f33) [] (env0 [m.pv, .int .i64 n, x.pv, .list (r.map Ro.cs) t]) [] (resQ Try.prog Try.f33.results.toList (fun x _ => K x)) := by kernel_rfl
theorem fits2_vc (m : Mo) (n : Int) (x : Ti) (r : List Ro) (t : Tail) (K : PV → Prop) (h : br (wrongM m != S0) (K (PV.bool false)) (in64 n ∧ in64 (Ti.Since x) ∧ waitS n (Ti.Since x) ≤ 9223372036854775807 ∧ ∃ (m_1 : Mo), ∃ (x_1 : Ti), ∃ (r_1 : List Ro), ∃ (t_1 : Tail), ∃ (w : Int), RsOk r_1 ∧ SlIs [PV.list (List.map Ro.cs r) t, PV.ptr 0 0, PV.ptr 1 0, PV.bool false, PV.int IntKind.i64 (winM m (waitS n (Ti.Since x))), PV.int IntKind.i64 0] [PV.list (List.map Ro.cs r_1) t_1, PV.ptr 0 0, PV.ptr 1 0, PV.bool false, PV.int IntKind.i64 w, PV.int IntKind.i64 0] ∧ HpIs [Ob.cells [PV.int IntKind.i64 (Mo.K m), PV.int IntKind.i64 (Mo.Base m), PV.int IntKind.i64 (Mo.Step m), PV.int IntKind.i64 (Mo.Cap m), PV.int IntKind.i64 (Mo.Every m)], Ob.cells [PV.int IntKind.u32 (Ti.Id x), PV.int IntKind.i64 (Ti.Mode x), PV.list (en1 IntKind.u32 (Ti.Ps x)) (Ti.Pt x), PV.int IntKind.i64 (Ti.Rating x), PV.int IntKind.i64 (Ti.Since x)]] [Ob.cells [PV.int IntKind.i64 (Mo.K m_1), PV.int IntKind.i64 (Mo.Base m_1), PV.int IntKind.i64 (Mo.Step m_1), PV.int IntKind.i64 (Mo.Cap m_1), PV.int IntKind.i64 (Mo.Every m_1)], Ob.cells [PV.int IntKind.u32 (Ti.Id x_1), PV.int IntKind.i64 (Ti.Mode x_1), PV.list (en1 IntKind.u32 (Ti.Ps x_1)) (Ti.Pt x_1), PV.int IntKind.i64 (Ti.Rating x_1), PV.int IntKind.i64 (Ti.Since x_1)]] ∧ (List.all r_1 (nr (Ti.Rating x_1) w) = true → K (PV.bool true)) ∧ (List.all r_1 (nr (Ti.Rating x_1) w) = false → ∀ (_ : Nat), K (PV.bool false)))) : ACalls Try.prog gl 33 [m.pv, .int .i64 n, x.pv, .list (r.map Ro.cs) t] [] (fun x _ => K x) :=
  acalls_of_wpc2 (T := TX) (L := [([1, 1, 1, 0, 1, 0], ft2_l)]) (fun _ => 0) Try.func33 (by kernel_rfl) (by kernel_rfl) (by kernel_rfl) (TX_ok) (.cons (sub_of (by kernel_rfl)) ft2_l_ok (.nil _ _ _ _ _)) (holds_of_eq (fits2_red m n x r t K) h)
theorem arows_red (a : As) (K : PV → Prop) : (∃ (a_1 : As), PtNo a_1 ∧ SlIs [PV.ptr 0 0, PV.list [] Tail.exact, PV.list [] Tail.exact, PV.int IntKind.i64 0] [PV.ptr 0 0, PV.list [] Tail.exact, PV.list [] Tail.exact, PV.int IntKind.i64 0] ∧ HpIs [Ob.cells [PV.int IntKind.i64 (Mo.K (As.M a)), PV.int IntKind.i64 (Mo.Base (As.M a)), PV.int IntKind.i64 (Mo.Step (As.M a)), PV.int IntKind.i64 (Mo.Cap (As.M a)), PV.int IntKind.i64 (Mo.Every (As.M a)), PV.int IntKind.i64 (As.Now a), PV.list (List.map Ti.cs (As.L a)) Tail.no, PV.list (List.map Ro.cs (As.R a)) Tail.no]] [Ob.cells [PV.int IntKind.i64 (Mo.K (As.M a_1)), PV.int IntKind.i64 (Mo.Base (As.M a_1)), PV.int IntKind.i64 (Mo.Step (As.M a_1)), PV.int IntKind.i64 (Mo.Cap (As.M a_1)), PV.int IntKind.i64 (Mo.Every (As.M a_1)), PV.int IntKind.i64 (As.Now a_1), PV.list (List.map Ti.cs (As.L a_1)) Tail.no, PV.list (List.map Ro.cs (As.R a_1)) Tail.no]] ∧ K (PV.list (List.map Ro.cs (As.R a_1)) Tail.no)) = wpc br Try.prog gl TX [([1, 1, 0, 1, 0], rw_l)] (fun _ => 0) (bodyOf Try.f26) [] (env0 [a.pv]) [] (resQ Try.prog Try.f26.results.toList (fun x _ => K x)) := by kernel_rfl
theorem arows_vc (a : As) (K : PV → Prop) (h : ∃ (a_1 : As), PtNo a_1 ∧ SlIs [PV.ptr 0 0, PV.list [] Tail.exact, PV.list [] Tail.exact, PV.int IntKind.i64 0] [PV.ptr 0 0, PV.list [] Tail.exact, PV.list [] Tail.exact, PV.int IntKind.i64 0] ∧ HpIs [Ob.cells [PV.int IntKind.i64 (Mo.K (As.M a)), PV.int IntKind.i64 (Mo.Base (As.M a)), PV.int IntKind.i64 (Mo.Step (As.M a)), PV.int IntKind.i64 (Mo.Cap (As.M a)), PV.int IntKind.i64 (Mo.Every (As.M a)), PV.int IntKind.i64 (As.Now a), PV.list (List.map Ti.cs (As.L a)) Tail.no, PV.list (List.map Ro.cs (As.R a)) Tail.no]] [Ob.cells [PV.int IntKind.i64 (Mo.K (As.M a_1)), PV.int IntKind.i64 (Mo.Base (As.M a_1)), PV.int IntKind.i64 (Mo.Step (As.M a_1)), PV.int IntKind.i64 (Mo.Cap (As.M a_1)), PV.int IntKind.i64 (Mo.Every (As.M a_1)), PV.int IntKind.i64 (As.Now a_1), PV.list (List.map Ti.cs (As.L a_1)) Tail.no, PV.list (List.map Ro.cs (As.R a_1)) Tail.no]] ∧ K (PV.list (List.map Ro.cs (As.R a_1)) Tail.no)) : ACalls Try.prog gl 26 [a.pv] [] (fun x _ => K x) :=
  acalls_of_wpc2 (T := TX) (L := [([1, 1, 0, 1, 0], rw_l)]) (fun _ => 0) Try.func26 (by kernel_rfl) (by kernel_rfl) (by kernel_rfl) (TX_ok) (.cons (sub_of (by kernel_rfl)) rw_l_ok (.nil _ _ _ _ _)) (holds_of_eq (arows_red a K) h)
theorem atickets_red (a : As) (K : PV → Prop) : (∃ (a_1 : As), PtNo a_1 ∧ SlIs [PV.ptr 0 0, PV.list [] Tail.exact, PV.list [] Tail.exact, PV.int IntKind.i64 0] [PV.ptr 0 0, PV.list [] Tail.exact, PV.list [] Tail.exact, PV.int IntKind.i64 0] ∧ HpIs [Ob.cells [PV.int IntKind.i64 (Mo.K (As.M a)), PV.int IntKind.i64 (Mo.Base (As.M a)), PV.int IntKind.i64 (Mo.Step (As.M a)), PV.int IntKind.i64 (Mo.Cap (As.M a)), PV.int IntKind.i64 (Mo.Every (As.M a)), PV.int IntKind.i64 (As.Now a), PV.list (List.map Ti.cs (As.L a)) Tail.no, PV.list (List.map Ro.cs (As.R a)) Tail.no]] [Ob.cells [PV.int IntKind.i64 (Mo.K (As.M a_1)), PV.int IntKind.i64 (Mo.Base (As.M a_1)), PV.int IntKind.i64 (Mo.Step (As.M a_1)), PV.int IntKind.i64 (Mo.Cap (As.M a_1)), PV.int IntKind.i64 (Mo.Every (As.M a_1)), PV.int IntKind.i64 (As.Now a_1), PV.list (List.map Ti.cs (As.L a_1)) Tail.no, PV.list (List.map Ro.cs (As.R a_1)) Tail.no]] ∧ K (PV.list (List.map Ti.cs (As.L a_1)) Tail.no)) = wpc br Try.prog gl TX [([1, 1, 0, 1, 0], ts_l)] (fun _ => 0) (bodyOf Try.f31) [] (env0 [a.pv]) [] (resQ Try.prog Try.f31.results.toList (fun x _ => K x)) := by kernel_rfl
theorem atickets_vc (a : As) (K : PV → Prop) (h : ∃ (a_1 : As), PtNo a_1 ∧ SlIs [PV.ptr 0 0, PV.list [] Tail.exact, PV.list [] Tail.exact, PV.int IntKind.i64 0] [PV.ptr 0 0, PV.list [] Tail.exact, PV.list [] Tail.exact, PV.int IntKind.i64 0] ∧ HpIs [Ob.cells [PV.int IntKind.i64 (Mo.K (As.M a)), PV.int IntKind.i64 (Mo.Base (As.M a)), PV.int IntKind.i64 (Mo.Step (As.M a)), PV.int IntKind.i64 (Mo.Cap (As.M a)), PV.int IntKind.i64 (Mo.Every (As.M a)), PV.int IntKind.i64 (As.Now a), PV.list (List.map Ti.cs (As.L a)) Tail.no, PV.list (List.map Ro.cs (As.R a)) Tail.no]] [Ob.cells [PV.int IntKind.i64 (Mo.K (As.M a_1)), PV.int IntKind.i64 (Mo.Base (As.M a_1)), PV.int IntKind.i64 (Mo.Step (As.M a_1)), PV.int IntKind.i64 (Mo.Cap (As.M a_1)), PV.int IntKind.i64 (Mo.Every (As.M a_1)), PV.int IntKind.i64 (As.Now a_1), PV.list (List.map Ti.cs (As.L a_1)) Tail.no, PV.list (List.map Ro.cs (As.R a_1)) Tail.no]] ∧ K (PV.list (List.map Ti.cs (As.L a_1)) Tail.no)) : ACalls Try.prog gl 31 [a.pv] [] (fun x _ => K x) :=
  acalls_of_wpc2 (T := TX) (L := [([1, 1, 0, 1, 0], ts_l)]) (fun _ => 0) Try.func31 (by kernel_rfl) (by kernel_rfl) (by kernel_rfl) (TX_ok) (.cons (sub_of (by kernel_rfl)) ts_l_ok (.nil _ _ _ _ _)) (holds_of_eq (atickets_red a K) h)
theorem team2_ok : SpOk Try.prog gl 30 (.pure team_s) := by
  rintro args K ⟨m, p, r, t, he, hr, hk⟩
  have he : args = _ := he
  subst he
  refine spure_w gl_low (.cons (.refl _) (.cons (.refl _) (.cons (.list _ _) .nil))) (by intro x hx; simp only [List.mem_cons, List.not_mem_nil, or_false] at hx; rcases hx with rfl | rfl | rfl; exact low_mpv m; exact .int _ _; exact low_list NT.no (low_rs hr)) (.int _ _) (team2_vc m p r .no (fun x => x = .int .i64 (teamS m p r)) ?_) hk
  simp only [br_if, bf, dt, df, bne_Sf]
  by_cases ok : okM m
  · rw [if_pos ((wrongM_ok m).2 ok)]
    by_cases c1 : p < 1
    · rw [if_neg (by omega), teamS, if_neg (by omega)]
    rw [if_pos (by omega)]
    by_cases c2 : p > m.K
    · rw [if_pos c2, teamS, if_neg (by omega)]
    rw [if_neg c2]
    exact ⟨m, p, r, .no, ok, by omega, by omega, NT.no, hr, rfl, rfl, rfl⟩
  · rw [if_neg (fun k => ok ((wrongM_ok m).1 k)), teamS, if_neg (fun k => ok k.1)]
def fits_s (args : List PV) (K : PV → Prop) : Prop := ∃ (m : Mo) (n : Int) (x : Ti) (r : List Ro) (t : Tail), SlIs args [m.pv, .int .i64 n, x.pv, .list (r.map Ro.cs) t] ∧ NT x.Pt ∧ in64 n ∧ in64 x.Since ∧ RsOk r ∧ K (.bool (fitsS m n x r))
theorem low_tpv {n : Nat} {x : Ti} (h : NT x.Pt) : Low n x.pv := .agg _ (low_ti h)
theorem waitS_le (n s : Int) : waitS n s ≤ 9223372036854775807 := by unfold waitS; (repeat' split) <;> omega
theorem fits1_ok : SpOk Try.prog gl 32 (.pure fits_s) := by
  rintro args K ⟨m, n, x, r, t, he, hx, hn, hs, hr, hk⟩
  have he : args = _ := he
  subst he
  refine spure_w gl_low (.cons (.refl _) (.cons (.refl _) (.cons (.refl _) (.cons (.list _ _) .nil)))) (by intro v hv; simp only [List.mem_cons, List.not_mem_nil, or_false] at hv; rcases hv with rfl | rfl | rfl | rfl; exact low_mpv m; exact .int _ _; exact low_tpv hx; exact low_list NT.no (low_rs hr)) (.bool _)
    (fits1_vc m n x r .no (fun v => v = .bool (fitsS m n x r)) ⟨hn, hs, waitS_le _ _, m, x, r, .no, winM m (waitS n x.Since), NT.no, hx, hr, ?_, rfl, fun h => ?_, fun h _ => ?_⟩) hk
  · simp only [List.length_map]; rfl
  · refine congrArg PV.bool ?_
    unfold fitsS
    rw [h, Bool.true_and, Bool.eq_iff_iff, beq_S, decide_eq_true_eq]
    exact wrongM_ok m
  · unfold fitsS; rw [h]; rfl
theorem fits2_ok : SpOk Try.prog gl 33 (.pure fits_s) := by
  rintro args K ⟨m, n, x, r, t, he, hx, hn, hs, hr, hk⟩
  have he : args = _ := he
  subst he
  refine spure_w gl_low (.cons (.refl _) (.cons (.refl _) (.cons (.refl _) (.cons (.list _ _) .nil)))) (by intro v hv; simp only [List.mem_cons, List.not_mem_nil, or_false] at hv; rcases hv with rfl | rfl | rfl | rfl; exact low_mpv m; exact .int _ _; exact low_tpv hx; exact low_list NT.no (low_rs hr)) (.bool _)
    (fits2_vc m n x r .no (fun v => v = .bool (fitsS m n x r)) ?_) hk
  simp only [br_if, bne_S]
  by_cases ok : okM m
  · rw [if_neg (fun k => k ((wrongM_ok m).2 ok))]
    refine ⟨hn, hs, waitS_le _ _, m, x, r, .no, winM m (waitS n x.Since), hr, rfl, rfl, fun h => ?_, fun h _ => ?_⟩
    · unfold fitsS; rw [h, decide_eq_true ok]; rfl
    · unfold fitsS; rw [h]; rfl
  · rw [if_pos (fun k => ok ((wrongM_ok m).1 k))]
    unfold fitsS; rw [decide_eq_false ok, Bool.and_false]
def arows_s (args : List PV) (K : PV → Prop) : Prop := ∃ a : As, SlIs args [a.pv] ∧ PtNo a ∧ K (.list (a.R.map Ro.cs) .no)
def atickets_s (args : List PV) (K : PV → Prop) : Prop := ∃ a : As, SlIs args [a.pv] ∧ PtNo a ∧ K (.list (a.L.map Ti.cs) .no)
theorem low_apv {n : Nat} {a : As} (h : PtNo a) : Low n a.pv := .agg _ (low_acs h)
theorem arows_ok : SpOk Try.prog gl 26 (.pure arows_s) := by
  rintro args K ⟨a, he, hp, hk⟩
  have he : args = _ := he
  subst he
  exact spure gl_low (by intro v hv; simp only [List.mem_cons, List.not_mem_nil, or_false] at hv; subst hv; exact low_apv hp) (low_list NT.no (low_map fun b hb => low_ro (by rw [(hp.2.1 b hb).1]; exact NT.no))) (arows_vc a (fun v => v = .list (a.R.map Ro.cs) .no) ⟨a, hp, rfl, rfl, rfl⟩) hk
theorem atickets_ok : SpOk Try.prog gl 31 (.pure atickets_s) := by
  rintro args K ⟨a, he, hp, hk⟩
  have he : args = _ := he
  subst he
  exact spure gl_low (by intro v hv; simp only [List.mem_cons, List.not_mem_nil, or_false] at hv; subst hv; exact low_apv hp) (low_list NT.no (low_map fun b hb => low_ti (by rw [(hp.1 b hb).1]; exact NT.no))) (atickets_vc a (fun v => v = .list (a.L.map Ti.cs) .no) ⟨a, hp, rfl, rfl, rfl⟩) hk
def TY : Tab := (28, .pure team_s) :: (30, .pure team_s) :: (32, .pure fits_s) :: (33, .pure fits_s) :: (26, .pure arows_s) :: (31, .pure atickets_s) :: TX
theorem TY_ok : TabOk Try.prog gl TY := .cons team1_ok (.cons team2_ok (.cons fits1_ok (.cons fits2_ok (.cons arows_ok (.cons atickets_ok TX_ok)))))
theorem fd1_red (m : Mo) (n : Int) (l : List Ti) (u : Tail) (r : List Ro) (t : Tail) (i : Nat) (R : Ex → List PV → Heap → Prop) : (br (decide ((↑i : Int) < (↑(List.length l) : Int))) (InL (List.map Ti.cs l) 5 (↑i : Int) ∧ br (true && fitX [CK.int IntKind.u32, CK.int IntKind.i64, CK.list, CK.int IntKind.i64, CK.int IntKind.i64] 0 (List.getD (List.map Ti.cs l) (Int.toNat (↑i : Int)) [])) (∃ (m_1 : Mo), ∃ (p : Int), ∃ (r_1 : List Ro), ∃ (t_1 : Tail), SlIs [PV.agg [PV.int IntKind.i64 (Mo.K m), PV.int IntKind.i64 (Mo.Base m), PV.int IntKind.i64 (Mo.Step m), PV.int IntKind.i64 (Mo.Cap m), PV.int IntKind.i64 (Mo.Every m)], PV.int IntKind.i64 (↑(List.length (cL (List.getD (List.map Ti.cs l) (Int.toNat (↑i : Int)) []) 2)) : Int), PV.list (List.map Ro.cs r) t] [PV.agg [PV.int IntKind.i64 (Mo.K m_1), PV.int IntKind.i64 (Mo.Base m_1), PV.int IntKind.i64 (Mo.Step m_1), PV.int IntKind.i64 (Mo.Cap m_1), PV.int IntKind.i64 (Mo.Every m_1)], PV.int IntKind.i64 p, PV.list (List.map Ro.cs r_1) t_1] ∧ RsOk r_1 ∧ br (decide (teamS m_1 p r_1 > 0) == true) (∃ (m_2 : Mo), ∃ (n_1 : Int), ∃ (x : Ti), ∃ (r_2 : List Ro), ∃ (t_2 : Tail), SlIs [PV.agg [PV.int IntKind.i64 (Mo.K m), PV.int IntKind.i64 (Mo.Base m), PV.int IntKind.i64 (Mo.Step m), PV.int IntKind.i64 (Mo.Cap m), PV.int IntKind.i64 (Mo.Every m)], PV.int IntKind.i64 n, PV.agg [PV.int IntKind.u32 (cI (List.getD (List.map Ti.cs l) (Int.toNat (↑i : Int)) []) 0), PV.int IntKind.i64 (cI (List.getD (List.map Ti.cs l) (Int.toNat (↑i : Int)) []) 1), PV.list (cL (List.getD (List.map Ti.cs l) (Int.toNat (↑i : Int)) []) 2) (cT (List.getD (List.map Ti.cs l) (Int.toNat (↑i : Int)) []) 2), PV.int IntKind.i64 (cI (List.getD (List.map Ti.cs l) (Int.toNat (↑i : Int)) []) 3), PV.int IntKind.i64 (cI (List.getD (List.map Ti.cs l) (Int.toNat (↑i : Int)) []) 4)], PV.list (List.map Ro.cs r) t] [PV.agg [PV.int IntKind.i64 (Mo.K m_2), PV.int IntKind.i64 (Mo.Base m_2), PV.int IntKind.i64 (Mo.Step m_2), PV.int IntKind.i64 (Mo.Cap m_2), PV.int IntKind.i64 (Mo.Every m_2)], PV.int IntKind.i64 n_1, PV.agg [PV.int IntKind.u32 (Ti.Id x), PV.int IntKind.i64 (Ti.Mode x), PV.list (en1 IntKind.u32 (Ti.Ps x)) (Ti.Pt x), PV.int IntKind.i64 (Ti.Rating x), PV.int IntKind.i64 (Ti.Since x)], PV.list (List.map Ro.cs r_2) t_2] ∧ NT (Ti.Pt x) ∧ in64 n_1 ∧ in64 (Ti.Since x) ∧ RsOk r_2 ∧ br (fitsS m_2 n_1 x r_2) (R Ex.ret [PV.int IntKind.i64 n, PV.list (List.map Ro.cs r) t, PV.ptr 0 0, PV.int IntKind.i64 (↑i : Int), PV.int IntKind.i64 (teamS m_1 p r_1), PV.bool true, PV.list (List.map Ti.cs l) u, PV.int IntKind.i64 (↑(List.length l) : Int), PV.int IntKind.i64 (↑i : Int)] [Ob.cells [PV.int IntKind.i64 (Mo.K m), PV.int IntKind.i64 (Mo.Base m), PV.int IntKind.i64 (Mo.Step m), PV.int IntKind.i64 (Mo.Cap m), PV.int IntKind.i64 (Mo.Every m)], Ob.cells [PV.int IntKind.u32 (cI (List.getD (List.map Ti.cs l) (Int.toNat (↑i : Int)) []) 0), PV.int IntKind.i64 (cI (List.getD (List.map Ti.cs l) (Int.toNat (↑i : Int)) []) 1), PV.list (cL (List.getD (List.map Ti.cs l) (Int.toNat (↑i : Int)) []) 2) (cT (List.getD (List.map Ti.cs l) (Int.toNat (↑i : Int)) []) 2), PV.int IntKind.i64 (cI (List.getD (List.map Ti.cs l) (Int.toNat (↑i : Int)) []) 3), PV.int IntKind.i64 (cI (List.getD (List.map Ti.cs l) (Int.toNat (↑i : Int)) []) 4)]]) (R Ex.normal [PV.int IntKind.i64 n, PV.list (List.map Ro.cs r) t, PV.ptr 0 0, PV.int IntKind.i64 0, PV.int IntKind.i64 0, PV.bool false, PV.list (List.map Ti.cs l) u, PV.int IntKind.i64 (↑(List.length l) : Int), PV.int IntKind.i64 (wI ((↑i : Int) + 1))] [Ob.cells [PV.int IntKind.i64 (Mo.K m), PV.int IntKind.i64 (Mo.Base m), PV.int IntKind.i64 (Mo.Step m), PV.int IntKind.i64 (Mo.Cap m), PV.int IntKind.i64 (Mo.Every m)], Ob.cells [PV.int IntKind.u32 (cI (List.getD (List.map Ti.cs l) (Int.toNat (↑i : Int)) []) 0), PV.int IntKind.i64 (cI (List.getD (List.map Ti.cs l) (Int.toNat (↑i : Int)) []) 1), PV.list (cL (List.getD (List.map Ti.cs l) (Int.toNat (↑i : Int)) []) 2) (cT (List.getD (List.map Ti.cs l) (Int.toNat (↑i : Int)) []) 2), PV.int IntKind.i64 (cI (List.getD (List.map Ti.cs l) (Int.toNat (↑i : Int)) []) 3), PV.int IntKind.i64 (cI (List.getD (List.map Ti.cs l) (Int.toNat (↑i : Int)) []) 4)]])) (R Ex.normal [PV.int IntKind.i64 n, PV.list (List.map Ro.cs r) t, PV.ptr 0 0, PV.int IntKind.i64 0, PV.int IntKind.i64 0, PV.bool false, PV.list (List.map Ti.cs l) u, PV.int IntKind.i64 (↑(List.length l) : Int), PV.int IntKind.i64 (wI ((↑i : Int) + 1))] [Ob.cells [PV.int IntKind.i64 (Mo.K m), PV.int IntKind.i64 (Mo.Base m), PV.int IntKind.i64 (Mo.Step m), PV.int IntKind.i64 (Mo.Cap m), PV.int IntKind.i64 (Mo.Every m)], Ob.cells [PV.int IntKind.u32 (cI (List.getD (List.map Ti.cs l) (Int.toNat (↑i : Int)) []) 0), PV.int IntKind.i64 (cI (List.getD (List.map Ti.cs l) (Int.toNat (↑i : Int)) []) 1), PV.list (cL (List.getD (List.map Ti.cs l) (Int.toNat (↑i : Int)) []) 2) (cT (List.getD (List.map Ti.cs l) (Int.toNat (↑i : Int)) []) 2), PV.int IntKind.i64 (cI (List.getD (List.map Ti.cs l) (Int.toNat (↑i : Int)) []) 3), PV.int IntKind.i64 (cI (List.getD (List.map Ti.cs l) (Int.toNat (↑i : Int)) []) 4)]])) False) (R (Ex.exit 0) [PV.int IntKind.i64 n, PV.list (List.map Ro.cs r) t, PV.ptr 0 0, PV.int IntKind.i64 0, PV.int IntKind.i64 0, PV.bool false, PV.list (List.map Ti.cs l) u, PV.int IntKind.i64 (↑(List.length l) : Int), PV.int IntKind.i64 (↑i : Int)] [Ob.cells [PV.int IntKind.i64 (Mo.K m), PV.int IntKind.i64 (Mo.Base m), PV.int IntKind.i64 (Mo.Step m), PV.int IntKind.i64 (Mo.Cap m), PV.int IntKind.i64 (Mo.Every m)]])) = wpc br Try.prog gl TY [] (fun _ => 0) (subOf [1, 0, 1, 0] (bodyOf Try.f35)) [] (envS [1, 3, 4, 8, 9, 10, 14, 15, 16] [.int .i64 n, .list (r.map Ro.cs) t, .ptr 0 0, .int .i64 0, .int .i64 0, .bool false, .list (l.map Ti.cs) u, .int .i64 l.length, .int .i64 i]) [.cells m.cs] (fun ex e H => R ex (List.map e [1, 3, 4, 8, 9, 10, 14, 15, 16]) H) := by kernel_rfl
theorem fd1_vc (m : Mo) (n : Int) (l : List Ti) (u : Tail) (r : List Ro) (t : Tail) (i : Nat) (R : Ex → List PV → Heap → Prop) (h : br (decide ((↑i : Int) < (↑(List.length l) : Int))) (InL (List.map Ti.cs l) 5 (↑i : Int) ∧ br (true && fitX [CK.int IntKind.u32, CK.int IntKind.i64, CK.list, CK.int IntKind.i64, CK.int IntKind.i64] 0 (List.getD (List.map Ti.cs l) (Int.toNat (↑i : Int)) [])) (∃ (m_1 : Mo), ∃ (p : Int), ∃ (r_1 : List Ro), ∃ (t_1 : Tail), SlIs [PV.agg [PV.int IntKind.i64 (Mo.K m), PV.int IntKind.i64 (Mo.Base m), PV.int IntKind.i64 (Mo.Step m), PV.int IntKind.i64 (Mo.Cap m), PV.int IntKind.i64 (Mo.Every m)], PV.int IntKind.i64 (↑(List.length (cL (List.getD (List.map Ti.cs l) (Int.toNat (↑i : Int)) []) 2)) : Int), PV.list (List.map Ro.cs r) t] [PV.agg [PV.int IntKind.i64 (Mo.K m_1), PV.int IntKind.i64 (Mo.Base m_1), PV.int IntKind.i64 (Mo.Step m_1), PV.int IntKind.i64 (Mo.Cap m_1), PV.int IntKind.i64 (Mo.Every m_1)], PV.int IntKind.i64 p, PV.list (List.map Ro.cs r_1) t_1] ∧ RsOk r_1 ∧ br (decide (teamS m_1 p r_1 > 0) == true) (∃ (m_2 : Mo), ∃ (n_1 : Int), ∃ (x : Ti), ∃ (r_2 : List Ro), ∃ (t_2 : Tail), SlIs [PV.agg [PV.int IntKind.i64 (Mo.K m), PV.int IntKind.i64 (Mo.Base m), PV.int IntKind.i64 (Mo.Step m), PV.int IntKind.i64 (Mo.Cap m), PV.int IntKind.i64 (Mo.Every m)], PV.int IntKind.i64 n, PV.agg [PV.int IntKind.u32 (cI (List.getD (List.map Ti.cs l) (Int.toNat (↑i : Int)) []) 0), PV.int IntKind.i64 (cI (List.getD (List.map Ti.cs l) (Int.toNat (↑i : Int)) []) 1), PV.list (cL (List.getD (List.map Ti.cs l) (Int.toNat (↑i : Int)) []) 2) (cT (List.getD (List.map Ti.cs l) (Int.toNat (↑i : Int)) []) 2), PV.int IntKind.i64 (cI (List.getD (List.map Ti.cs l) (Int.toNat (↑i : Int)) []) 3), PV.int IntKind.i64 (cI (List.getD (List.map Ti.cs l) (Int.toNat (↑i : Int)) []) 4)], PV.list (List.map Ro.cs r) t] [PV.agg [PV.int IntKind.i64 (Mo.K m_2), PV.int IntKind.i64 (Mo.Base m_2), PV.int IntKind.i64 (Mo.Step m_2), PV.int IntKind.i64 (Mo.Cap m_2), PV.int IntKind.i64 (Mo.Every m_2)], PV.int IntKind.i64 n_1, PV.agg [PV.int IntKind.u32 (Ti.Id x), PV.int IntKind.i64 (Ti.Mode x), PV.list (en1 IntKind.u32 (Ti.Ps x)) (Ti.Pt x), PV.int IntKind.i64 (Ti.Rating x), PV.int IntKind.i64 (Ti.Since x)], PV.list (List.map Ro.cs r_2) t_2] ∧ NT (Ti.Pt x) ∧ in64 n_1 ∧ in64 (Ti.Since x) ∧ RsOk r_2 ∧ br (fitsS m_2 n_1 x r_2) (R Ex.ret [PV.int IntKind.i64 n, PV.list (List.map Ro.cs r) t, PV.ptr 0 0, PV.int IntKind.i64 (↑i : Int), PV.int IntKind.i64 (teamS m_1 p r_1), PV.bool true, PV.list (List.map Ti.cs l) u, PV.int IntKind.i64 (↑(List.length l) : Int), PV.int IntKind.i64 (↑i : Int)] [Ob.cells [PV.int IntKind.i64 (Mo.K m), PV.int IntKind.i64 (Mo.Base m), PV.int IntKind.i64 (Mo.Step m), PV.int IntKind.i64 (Mo.Cap m), PV.int IntKind.i64 (Mo.Every m)], Ob.cells [PV.int IntKind.u32 (cI (List.getD (List.map Ti.cs l) (Int.toNat (↑i : Int)) []) 0), PV.int IntKind.i64 (cI (List.getD (List.map Ti.cs l) (Int.toNat (↑i : Int)) []) 1), PV.list (cL (List.getD (List.map Ti.cs l) (Int.toNat (↑i : Int)) []) 2) (cT (List.getD (List.map Ti.cs l) (Int.toNat (↑i : Int)) []) 2), PV.int IntKind.i64 (cI (List.getD (List.map Ti.cs l) (Int.toNat (↑i : Int)) []) 3), PV.int IntKind.i64 (cI (List.getD (List.map Ti.cs l) (Int.toNat (↑i : Int)) []) 4)]]) (R Ex.normal [PV.int IntKind.i64 n, PV.list (List.map Ro.cs r) t, PV.ptr 0 0, PV.int IntKind.i64 0, PV.int IntKind.i64 0, PV.bool false, PV.list (List.map Ti.cs l) u, PV.int IntKind.i64 (↑(List.length l) : Int), PV.int IntKind.i64 (wI ((↑i : Int) + 1))] [Ob.cells [PV.int IntKind.i64 (Mo.K m), PV.int IntKind.i64 (Mo.Base m), PV.int IntKind.i64 (Mo.Step m), PV.int IntKind.i64 (Mo.Cap m), PV.int IntKind.i64 (Mo.Every m)], Ob.cells [PV.int IntKind.u32 (cI (List.getD (List.map Ti.cs l) (Int.toNat (↑i : Int)) []) 0), PV.int IntKind.i64 (cI (List.getD (List.map Ti.cs l) (Int.toNat (↑i : Int)) []) 1), PV.list (cL (List.getD (List.map Ti.cs l) (Int.toNat (↑i : Int)) []) 2) (cT (List.getD (List.map Ti.cs l) (Int.toNat (↑i : Int)) []) 2), PV.int IntKind.i64 (cI (List.getD (List.map Ti.cs l) (Int.toNat (↑i : Int)) []) 3), PV.int IntKind.i64 (cI (List.getD (List.map Ti.cs l) (Int.toNat (↑i : Int)) []) 4)]])) (R Ex.normal [PV.int IntKind.i64 n, PV.list (List.map Ro.cs r) t, PV.ptr 0 0, PV.int IntKind.i64 0, PV.int IntKind.i64 0, PV.bool false, PV.list (List.map Ti.cs l) u, PV.int IntKind.i64 (↑(List.length l) : Int), PV.int IntKind.i64 (wI ((↑i : Int) + 1))] [Ob.cells [PV.int IntKind.i64 (Mo.K m), PV.int IntKind.i64 (Mo.Base m), PV.int IntKind.i64 (Mo.Step m), PV.int IntKind.i64 (Mo.Cap m), PV.int IntKind.i64 (Mo.Every m)], Ob.cells [PV.int IntKind.u32 (cI (List.getD (List.map Ti.cs l) (Int.toNat (↑i : Int)) []) 0), PV.int IntKind.i64 (cI (List.getD (List.map Ti.cs l) (Int.toNat (↑i : Int)) []) 1), PV.list (cL (List.getD (List.map Ti.cs l) (Int.toNat (↑i : Int)) []) 2) (cT (List.getD (List.map Ti.cs l) (Int.toNat (↑i : Int)) []) 2), PV.int IntKind.i64 (cI (List.getD (List.map Ti.cs l) (Int.toNat (↑i : Int)) []) 3), PV.int IntKind.i64 (cI (List.getD (List.map Ti.cs l) (Int.toNat (↑i : Int)) []) 4)]])) False) (R (Ex.exit 0) [PV.int IntKind.i64 n, PV.list (List.map Ro.cs r) t, PV.ptr 0 0, PV.int IntKind.i64 0, PV.int IntKind.i64 0, PV.bool false, PV.list (List.map Ti.cs l) u, PV.int IntKind.i64 (↑(List.length l) : Int), PV.int IntKind.i64 (↑i : Int)] [Ob.cells [PV.int IntKind.i64 (Mo.K m), PV.int IntKind.i64 (Mo.Base m), PV.int IntKind.i64 (Mo.Step m), PV.int IntKind.i64 (Mo.Cap m), PV.int IntKind.i64 (Mo.Every m)]])) : Holds (wpc br Try.prog gl TY [] (fun _ => 0) (subOf [1, 0, 1, 0] (bodyOf Try.f35)) [] (envS [1, 3, 4, 8, 9, 10, 14, 15, 16] [.int .i64 n, .list (r.map Ro.cs) t, .ptr 0 0, .int .i64 0, .int .i64 0, .bool false, .list (l.map Ti.cs) u, .int .i64 l.length, .int .i64 i]) [.cells m.cs] (fun ex e H => R ex (List.map e [1, 3, 4, 8, 9, 10, 14, 15, 16]) H)) := holds_of_eq (fd1_red m n l u r t i R) h
theorem fd2_red (m : Mo) (n : Int) (l : List Ti) (u : Tail) (r : List Ro) (t : Tail) (i : Nat) (R : Ex → List PV → Heap → Prop) : (br (decide ((↑i : Int) < (↑(List.length (List.map Ti.cs l)) : Int))) (InL (List.map Ti.cs l) 5 (↑i : Int) ∧ br (true && fitX [CK.list] 0 (List.drop 2 (List.getD (List.map Ti.cs l) (Int.toNat (↑i : Int)) []))) (∃ (m_1 : Mo), ∃ (p : Int), ∃ (r_1 : List Ro), ∃ (t_1 : Tail), SlIs [PV.agg [PV.int IntKind.i64 (Mo.K m), PV.int IntKind.i64 (Mo.Base m), PV.int IntKind.i64 (Mo.Step m), PV.int IntKind.i64 (Mo.Cap m), PV.int IntKind.i64 (Mo.Every m)], PV.int IntKind.i64 (↑(List.length (cL (List.drop 2 (List.getD (List.map Ti.cs l) (Int.toNat (↑i : Int)) [])) 0)) : Int), PV.list (List.map Ro.cs r) t] [PV.agg [PV.int IntKind.i64 (Mo.K m_1), PV.int IntKind.i64 (Mo.Base m_1), PV.int IntKind.i64 (Mo.Step m_1), PV.int IntKind.i64 (Mo.Cap m_1), PV.int IntKind.i64 (Mo.Every m_1)], PV.int IntKind.i64 p, PV.list (List.map Ro.cs r_1) t_1] ∧ RsOk r_1 ∧ br ((teamS m_1 p r_1 != 0) == true) (InL (List.map Ti.cs l) 5 (↑i : Int) ∧ br (true && fitX [CK.int IntKind.u32, CK.int IntKind.i64, CK.list, CK.int IntKind.i64, CK.int IntKind.i64] 0 (List.getD (List.map Ti.cs l) (Int.toNat (↑i : Int)) [])) (∃ (m_2 : Mo), ∃ (n_1 : Int), ∃ (x : Ti), ∃ (r_2 : List Ro), ∃ (t_2 : Tail), SlIs [PV.agg [PV.int IntKind.i64 (Mo.K m), PV.int IntKind.i64 (Mo.Base m), PV.int IntKind.i64 (Mo.Step m), PV.int IntKind.i64 (Mo.Cap m), PV.int IntKind.i64 (Mo.Every m)], PV.int IntKind.i64 n, PV.agg [PV.int IntKind.u32 (cI (List.getD (List.map Ti.cs l) (Int.toNat (↑i : Int)) []) 0), PV.int IntKind.i64 (cI (List.getD (List.map Ti.cs l) (Int.toNat (↑i : Int)) []) 1), PV.list (cL (List.getD (List.map Ti.cs l) (Int.toNat (↑i : Int)) []) 2) (cT (List.getD (List.map Ti.cs l) (Int.toNat (↑i : Int)) []) 2), PV.int IntKind.i64 (cI (List.getD (List.map Ti.cs l) (Int.toNat (↑i : Int)) []) 3), PV.int IntKind.i64 (cI (List.getD (List.map Ti.cs l) (Int.toNat (↑i : Int)) []) 4)], PV.list (List.map Ro.cs r) t] [PV.agg [PV.int IntKind.i64 (Mo.K m_2), PV.int IntKind.i64 (Mo.Base m_2), PV.int IntKind.i64 (Mo.Step m_2), PV.int IntKind.i64 (Mo.Cap m_2), PV.int IntKind.i64 (Mo.Every m_2)], PV.int IntKind.i64 n_1, PV.agg [PV.int IntKind.u32 (Ti.Id x), PV.int IntKind.i64 (Ti.Mode x), PV.list (en1 IntKind.u32 (Ti.Ps x)) (Ti.Pt x), PV.int IntKind.i64 (Ti.Rating x), PV.int IntKind.i64 (Ti.Since x)], PV.list (List.map Ro.cs r_2) t_2] ∧ NT (Ti.Pt x) ∧ in64 n_1 ∧ in64 (Ti.Since x) ∧ RsOk r_2 ∧ br (fitsS m_2 n_1 x r_2) (R Ex.ret [PV.int IntKind.i64 n, PV.list (List.map Ti.cs l) u, PV.list (List.map Ro.cs r) t, PV.ptr 0 0, PV.int IntKind.i64 (↑i : Int), PV.int IntKind.i64 (teamS m_1 p r_1), PV.bool true, PV.int IntKind.i64 (↑i : Int)] [Ob.cells [PV.int IntKind.i64 (Mo.K m), PV.int IntKind.i64 (Mo.Base m), PV.int IntKind.i64 (Mo.Step m), PV.int IntKind.i64 (Mo.Cap m), PV.int IntKind.i64 (Mo.Every m)]]) (R Ex.normal [PV.int IntKind.i64 n, PV.list (List.map Ti.cs l) u, PV.list (List.map Ro.cs r) t, PV.ptr 0 0, PV.int IntKind.i64 0, PV.int IntKind.i64 0, PV.bool false, PV.int IntKind.i64 (wI ((↑i : Int) + 1))] [Ob.cells [PV.int IntKind.i64 (Mo.K m), PV.int IntKind.i64 (Mo.Base m), PV.int IntKind.i64 (Mo.Step m), PV.int IntKind.i64 (Mo.Cap m), PV.int IntKind.i64 (Mo.Every m)]])) False) (R Ex.normal [PV.int IntKind.i64 n, PV.list (List.map Ti.cs l) u, PV.list (List.map Ro.cs r) t, PV.ptr 0 0, PV.int IntKind.i64 0, PV.int IntKind.i64 0, PV.bool false, PV.int IntKind.i64 (wI ((↑i : Int) + 1))] [Ob.cells [PV.int IntKind.i64 (Mo.K m), PV.int IntKind.i64 (Mo.Base m), PV.int IntKind.i64 (Mo.Step m), PV.int IntKind.i64 (Mo.Cap m), PV.int IntKind.i64 (Mo.Every m)]])) False) (R (Ex.exit 0) [PV.int IntKind.i64 n, PV.list (List.map Ti.cs l) u, PV.list (List.map Ro.cs r) t, PV.ptr 0 0, PV.int IntKind.i64 0, PV.int IntKind.i64 0, PV.bool false, PV.int IntKind.i64 (↑i : Int)] [Ob.cells [PV.int IntKind.i64 (Mo.K m), PV.int IntKind.i64 (Mo.Base m), PV.int IntKind.i64 (Mo.Step m), PV.int IntKind.i64 (Mo.Cap m), PV.int IntKind.i64 (Mo.Every m)]])) = wpc br Try.prog gl TY [] (fun _ => 0) (subOf [1, 0, 1, 0] (bodyOf Try.f36)) [] (envS [1, 2, 3, 4, 8, 9, 10, 11] [.int .i64 n, .list (l.map Ti.cs) u, .list (r.map Ro.cs) t, .ptr 0 0, .int .i64 0, .int .i64 0, .bool false, .int .i64 i]) [.cells m.cs] (fun ex e H => R ex (List.map e [1, 2, 3, 4, 8, 9, 10, 11]) H) := by kernel_rfl
theorem fd2_vc (m : Mo) (n : Int) (l : List Ti) (u : Tail) (r : List Ro) (t : Tail) (i : Nat) (R : Ex → List PV → Heap → Prop) (h : br (decide ((↑i : Int) < (↑(List.length (List.map Ti.cs l)) : Int))) (InL (List.map Ti.cs l) 5 (↑i : Int) ∧ br (true && fitX [CK.list] 0 (List.drop 2 (List.getD (List.map Ti.cs l) (Int.toNat (↑i : Int)) []))) (∃ (m_1 : Mo), ∃ (p : Int), ∃ (r_1 : List Ro), ∃ (t_1 : Tail), SlIs [PV.agg [PV.int IntKind.i64 (Mo.K m), PV.int IntKind.i64 (Mo.Base m), PV.int IntKind.i64 (Mo.Step m), PV.int IntKind.i64 (Mo.Cap m), PV.int IntKind.i64 (Mo.Every m)], PV.int IntKind.i64 (↑(List.length (cL (List.drop 2 (List.getD (List.map Ti.cs l) (Int.toNat (↑i : Int)) [])) 0)) : Int), PV.list (List.map Ro.cs r) t] [PV.agg [PV.int IntKind.i64 (Mo.K m_1), PV.int IntKind.i64 (Mo.Base m_1), PV.int IntKind.i64 (Mo.Step m_1), PV.int IntKind.i64 (Mo.Cap m_1), PV.int IntKind.i64 (Mo.Every m_1)], PV.int IntKind.i64 p, PV.list (List.map Ro.cs r_1) t_1] ∧ RsOk r_1 ∧ br ((teamS m_1 p r_1 != 0) == true) (InL (List.map Ti.cs l) 5 (↑i : Int) ∧ br (true && fitX [CK.int IntKind.u32, CK.int IntKind.i64, CK.list, CK.int IntKind.i64, CK.int IntKind.i64] 0 (List.getD (List.map Ti.cs l) (Int.toNat (↑i : Int)) [])) (∃ (m_2 : Mo), ∃ (n_1 : Int), ∃ (x : Ti), ∃ (r_2 : List Ro), ∃ (t_2 : Tail), SlIs [PV.agg [PV.int IntKind.i64 (Mo.K m), PV.int IntKind.i64 (Mo.Base m), PV.int IntKind.i64 (Mo.Step m), PV.int IntKind.i64 (Mo.Cap m), PV.int IntKind.i64 (Mo.Every m)], PV.int IntKind.i64 n, PV.agg [PV.int IntKind.u32 (cI (List.getD (List.map Ti.cs l) (Int.toNat (↑i : Int)) []) 0), PV.int IntKind.i64 (cI (List.getD (List.map Ti.cs l) (Int.toNat (↑i : Int)) []) 1), PV.list (cL (List.getD (List.map Ti.cs l) (Int.toNat (↑i : Int)) []) 2) (cT (List.getD (List.map Ti.cs l) (Int.toNat (↑i : Int)) []) 2), PV.int IntKind.i64 (cI (List.getD (List.map Ti.cs l) (Int.toNat (↑i : Int)) []) 3), PV.int IntKind.i64 (cI (List.getD (List.map Ti.cs l) (Int.toNat (↑i : Int)) []) 4)], PV.list (List.map Ro.cs r) t] [PV.agg [PV.int IntKind.i64 (Mo.K m_2), PV.int IntKind.i64 (Mo.Base m_2), PV.int IntKind.i64 (Mo.Step m_2), PV.int IntKind.i64 (Mo.Cap m_2), PV.int IntKind.i64 (Mo.Every m_2)], PV.int IntKind.i64 n_1, PV.agg [PV.int IntKind.u32 (Ti.Id x), PV.int IntKind.i64 (Ti.Mode x), PV.list (en1 IntKind.u32 (Ti.Ps x)) (Ti.Pt x), PV.int IntKind.i64 (Ti.Rating x), PV.int IntKind.i64 (Ti.Since x)], PV.list (List.map Ro.cs r_2) t_2] ∧ NT (Ti.Pt x) ∧ in64 n_1 ∧ in64 (Ti.Since x) ∧ RsOk r_2 ∧ br (fitsS m_2 n_1 x r_2) (R Ex.ret [PV.int IntKind.i64 n, PV.list (List.map Ti.cs l) u, PV.list (List.map Ro.cs r) t, PV.ptr 0 0, PV.int IntKind.i64 (↑i : Int), PV.int IntKind.i64 (teamS m_1 p r_1), PV.bool true, PV.int IntKind.i64 (↑i : Int)] [Ob.cells [PV.int IntKind.i64 (Mo.K m), PV.int IntKind.i64 (Mo.Base m), PV.int IntKind.i64 (Mo.Step m), PV.int IntKind.i64 (Mo.Cap m), PV.int IntKind.i64 (Mo.Every m)]]) (R Ex.normal [PV.int IntKind.i64 n, PV.list (List.map Ti.cs l) u, PV.list (List.map Ro.cs r) t, PV.ptr 0 0, PV.int IntKind.i64 0, PV.int IntKind.i64 0, PV.bool false, PV.int IntKind.i64 (wI ((↑i : Int) + 1))] [Ob.cells [PV.int IntKind.i64 (Mo.K m), PV.int IntKind.i64 (Mo.Base m), PV.int IntKind.i64 (Mo.Step m), PV.int IntKind.i64 (Mo.Cap m), PV.int IntKind.i64 (Mo.Every m)]])) False) (R Ex.normal [PV.int IntKind.i64 n, PV.list (List.map Ti.cs l) u, PV.list (List.map Ro.cs r) t, PV.ptr 0 0, PV.int IntKind.i64 0, PV.int IntKind.i64 0, PV.bool false, PV.int IntKind.i64 (wI ((↑i : Int) + 1))] [Ob.cells [PV.int IntKind.i64 (Mo.K m), PV.int IntKind.i64 (Mo.Base m), PV.int IntKind.i64 (Mo.Step m), PV.int IntKind.i64 (Mo.Cap m), PV.int IntKind.i64 (Mo.Every m)]])) False) (R (Ex.exit 0) [PV.int IntKind.i64 n, PV.list (List.map Ti.cs l) u, PV.list (List.map Ro.cs r) t, PV.ptr 0 0, PV.int IntKind.i64 0, PV.int IntKind.i64 0, PV.bool false, PV.int IntKind.i64 (↑i : Int)] [Ob.cells [PV.int IntKind.i64 (Mo.K m), PV.int IntKind.i64 (Mo.Base m), PV.int IntKind.i64 (Mo.Step m), PV.int IntKind.i64 (Mo.Cap m), PV.int IntKind.i64 (Mo.Every m)]])) : Holds (wpc br Try.prog gl TY [] (fun _ => 0) (subOf [1, 0, 1, 0] (bodyOf Try.f36)) [] (envS [1, 2, 3, 4, 8, 9, 10, 11] [.int .i64 n, .list (l.map Ti.cs) u, .list (r.map Ro.cs) t, .ptr 0 0, .int .i64 0, .int .i64 0, .bool false, .int .i64 i]) [.cells m.cs] (fun ex e H => R ex (List.map e [1, 2, 3, 4, 8, 9, 10, 11]) H)) := holds_of_eq (fd2_red m n l u r t i R) h
-- the first ticket that may sit down
def cand (m : Mo) (n : Int) (r : List Ro) (x : Ti) : Bool := decide (0 < teamS m x.Ps.length r) && fitsS m n x r
def fk (c : Ti → Bool) : List Ti → Nat
  | [] => 0
  | x :: l => if c x = true then 0 else fk c l + 1
theorem fk_le (c : Ti → Bool) : ∀ l, fk c l ≤ l.length
  | [] => Nat.le_refl _
  | x :: l => by have := fk_le c l; unfold fk; rw [List.length_cons]; split <;> omega
theorem teamS_in (m : Mo) (p : Int) (r : List Ro) : 0 ≤ teamS m p r ∧ teamS m p r ≤ 2 := by unfold teamS; (repeat' split) <;> omega
def teamAt (m : Mo) (l : List Ti) (r : List Ro) (k : Nat) : Int := teamS m (l.getD k Ti.zero).Ps.length r
def fd1_l : LSp := fun e H Q => ∃ (m : Mo) (n : Int) (l : List Ti) (u : Tail) (r : List Ro) (t : Tail), in64 n ∧ NT u ∧ NT t ∧ LsOk l ∧ RsOk r ∧
  SlIs (List.map e [1, 3, 4, 8, 9, 10, 14, 15, 16]) [.int .i64 n, .list (r.map Ro.cs) t, .ptr 0 0, .int .i64 0, .int .i64 0, .bool false, .list (l.map Ti.cs) u, .int .i64 l.length, .int .i64 0] ∧ HpIs H [.cells m.cs] ∧
  (fk (cand m n r) l < l.length → ∀ x : Ti, Q .ret (envS [1, 3, 4, 8, 9, 10, 14, 15, 16] [.int .i64 n, .list (r.map Ro.cs) t, .ptr 0 0, .int .i64 (fk (cand m n r) l), .int .i64 (teamAt m l r (fk (cand m n r) l)), .bool true, .list (l.map Ti.cs) u, .int .i64 l.length, .int .i64 (fk (cand m n r) l)]) [.cells m.cs, .cells x.cs]) ∧
  (fk (cand m n r) l = l.length → Q (.exit 0) (envS [1, 3, 4, 8, 9, 10, 14, 15, 16] [.int .i64 n, .list (r.map Ro.cs) t, .ptr 0 0, .int .i64 0, .int .i64 0, .bool false, .list (l.map Ti.cs) u, .int .i64 l.length, .int .i64 l.length]) [.cells m.cs])
def fd2_l : LSp := fun e H Q => ∃ (m : Mo) (n : Int) (l : List Ti) (u : Tail) (r : List Ro) (t : Tail), in64 n ∧ NT u ∧ NT t ∧ LsOk l ∧ RsOk r ∧
  SlIs (List.map e [1, 2, 3, 4, 8, 9, 10, 11]) [.int .i64 n, .list (l.map Ti.cs) u, .list (r.map Ro.cs) t, .ptr 0 0, .int .i64 0, .int .i64 0, .bool false, .int .i64 0] ∧ HpIs H [.cells m.cs] ∧
  (fk (cand m n r) l < l.length → Q .ret (envS [1, 2, 3, 4, 8, 9, 10, 11] [.int .i64 n, .list (l.map Ti.cs) u, .list (r.map Ro.cs) t, .ptr 0 0, .int .i64 (fk (cand m n r) l), .int .i64 (teamAt m l r (fk (cand m n r) l)), .bool true, .int .i64 (fk (cand m n r) l)]) [.cells m.cs]) ∧
  (fk (cand m n r) l = l.length → Q (.exit 0) (envS [1, 2, 3, 4, 8, 9, 10, 11] [.int .i64 n, .list (l.map Ti.cs) u, .list (r.map Ro.cs) t, .ptr 0 0, .int .i64 0, .int .i64 0, .bool false, .int .i64 l.length]) [.cells m.cs])
theorem fd1_l_ok : ∀ e H Q, fd1_l e H Q → AW Try.prog gl Try.f35.ntmps (.loop (subOf [1, 0, 1, 0] (bodyOf Try.f35))) Q e H := by
  rintro e H Q ⟨m, n, l, u, r, t, hn, hu, ht, hl, hr, he, hH, hy, hno⟩
  have hlen := hl.1
  refine aw_loop4 (hn := fun _ => 0) gl_low TY_ok (.nil _ _ _ _ _) (σ := Nat) [1, 3, 4, 8, 9, 10, 14, 15, 16] (fun i => i ≤ l.length ∧ fk (cand m n r) l = i + fk (cand m n r) (l.drop i))
    (fun i => [.int .i64 n, .list (r.map Ro.cs) t, .ptr 0 0, .int .i64 0, .int .i64 0, .bool false, .list (l.map Ti.cs) u, .int .i64 l.length, .int .i64 i]) (fun _ => [.cells m.cs]) (fun i => l.length - i) 0 ⟨Nat.zero_le _, by rw [List.drop_zero, Nat.zero_add]⟩ he hH ?_
  rintro i ⟨h1, h2⟩
  refine fd1_vc m n l u r t i _ ?_
  simp only [br_if, bt, dt, toNat_nat, inL_ti]
  by_cases h : i < l.length
  · rw [if_pos (by omega)]
    simp only [getD_map Ti.zero h, ti_f, ti_c, en1_length]
    refine ⟨h, ?_⟩
    rw [if_pos (by rfl : (true && true) = true)]
    have hm := hl.2 _ (getD_mem (d := Ti.zero) h)
    have hx : ∀ x : Ti, x = l.getD i Ti.zero → (0 < teamS m x.Ps.length r ∧ fitsS m n x r = true → fk (cand m n r) l = i) ∧ (¬ (0 < teamS m x.Ps.length r ∧ fitsS m n x r = true) → fk (cand m n r) l = i + 1 + fk (cand m n r) (l.drop (i + 1))) := by
      rintro x rfl
      rw [drop_cons Ti.zero h, fk] at h2
      constructor
      · rintro ⟨k1, k2⟩
        rw [if_pos (by unfold cand; rw [decide_eq_true k1, k2]; rfl)] at h2; omega
      · intro k
        rw [if_neg (by unfold cand; rw [Bool.and_eq_true, decide_eq_true_eq]; exact k)] at h2; omega
    obtain ⟨hx1, hx2⟩ := hx _ rfl
    refine ⟨m, _, r, t, rfl, hr, ?_⟩
    have next : ∀ y : Ti, ¬ (0 < teamS m (l.getD i Ti.zero).Ps.length r ∧ fitsS m n (l.getD i Ti.zero) r = true) → loopR Q [1, 3, 4, 8, 9, 10, 14, 15, 16] (fun i => i ≤ l.length ∧ fk (cand m n r) l = i + fk (cand m n r) (l.drop i))
        (fun i => [PV.int .i64 n, .list (r.map Ro.cs) t, .ptr 0 0, .int .i64 0, .int .i64 0, .bool false, .list (l.map Ti.cs) u, .int .i64 l.length, .int .i64 i]) (fun _ => [Ob.cells m.cs]) (fun i => l.length - i) i Ex.normal
        [PV.int .i64 n, .list (r.map Ro.cs) t, .ptr 0 0, .int .i64 0, .int .i64 0, .bool false, .list (l.map Ti.cs) u, .int .i64 l.length, .int .i64 (wI ((i : Int) + 1))] [Ob.cells m.cs, .cells y.cs] := by
      intro y k
      refine ⟨i + 1, (show l.length - (i + 1) < l.length - i by omega), ⟨by omega, hx2 k⟩, by rw [wI_succ h (by omega)], [.cells y.cs], rfl, Nat.le_refl _, .inr ⟨?_, ?_⟩⟩
      · intro v hv
        simp only [List.mem_cons, List.not_mem_nil, or_false] at hv
        rcases hv with rfl | rfl | rfl | rfl | rfl | rfl | rfl | rfl | rfl <;> first | exact .int _ _ | exact .bool _ | exact .ptr _ _ (by simp) | exact low_list ht (low_rs hr) | exact low_list hu (low_ls hl)
      · intro o cs ho
        have : o = 0 := by have := (List.getElem?_eq_some_iff.1 ho).1; simp at this; omega
        subst this
        cases ho; exact low_mo m
    by_cases c : teamS m (l.getD i Ti.zero).Ps.length r > 0
    · rw [if_pos c]
      refine ⟨m, n, l.getD i Ti.zero, r, t, rfl, hm.1, hn, hm.2.2, hr, ?_⟩
      by_cases d : fitsS m n (l.getD i Ti.zero) r = true
      · rw [if_pos d]
        have e := hx1 ⟨c, d⟩
        have := hy (by omega) (l.getD i Ti.zero)
        rw [e] at this
        exact this
      · rw [if_neg d]
        exact next (l.getD i Ti.zero) (fun k => d k.2)
    · rw [if_neg c]
      exact next (l.getD i Ti.zero) (fun k => c k.1)
  · rw [if_neg (by omega)]
    have : i = l.length := by omega
    subst this
    rw [List.drop_length] at h2
    exact hno h2
theorem fd2_l_ok : ∀ e H Q, fd2_l e H Q → AW Try.prog gl Try.f36.ntmps (.loop (subOf [1, 0, 1, 0] (bodyOf Try.f36))) Q e H := by
  rintro e H Q ⟨m, n, l, u, r, t, hn, hu, ht, hl, hr, he, hH, hy, hno⟩
  have hlen := hl.1
  refine aw_loop4 (hn := fun _ => 0) gl_low TY_ok (.nil _ _ _ _ _) (σ := Nat) [1, 2, 3, 4, 8, 9, 10, 11] (fun i => i ≤ l.length ∧ fk (cand m n r) l = i + fk (cand m n r) (l.drop i))
    (fun i => [.int .i64 n, .list (l.map Ti.cs) u, .list (r.map Ro.cs) t, .ptr 0 0, .int .i64 0, .int .i64 0, .bool false, .int .i64 i]) (fun _ => [.cells m.cs]) (fun i => l.length - i) 0 ⟨Nat.zero_le _, by rw [List.drop_zero, Nat.zero_add]⟩ he hH ?_
  rintro i ⟨h1, h2⟩
  refine fd2_vc m n l u r t i _ ?_
  simp only [br_if, bt, dt, List.length_map, toNat_nat, inL_ti, bne_I]
  by_cases h : i < l.length
  · rw [if_pos (by omega)]
    simp only [getD_map Ti.zero h, ti_f, ti_c, ti_d, en1_length]
    refine ⟨h, ?_⟩
    rw [if_pos (by rfl : (true && true) = true)]
    have hm := hl.2 _ (getD_mem (d := Ti.zero) h)
    have hx : ∀ x : Ti, x = l.getD i Ti.zero → (0 < teamS m x.Ps.length r ∧ fitsS m n x r = true → fk (cand m n r) l = i) ∧ (¬ (0 < teamS m x.Ps.length r ∧ fitsS m n x r = true) → fk (cand m n r) l = i + 1 + fk (cand m n r) (l.drop (i + 1))) := by
      rintro x rfl
      rw [drop_cons Ti.zero h, fk] at h2
      constructor
      · rintro ⟨k1, k2⟩
        rw [if_pos (by unfold cand; rw [decide_eq_true k1, k2]; rfl)] at h2; omega
      · intro k
        rw [if_neg (by unfold cand; rw [Bool.and_eq_true, decide_eq_true_eq]; exact k)] at h2; omega
    obtain ⟨hx1, hx2⟩ := hx _ rfl
    refine ⟨m, _, r, t, rfl, hr, ?_⟩
    have hti := teamS_in m (l.getD i Ti.zero).Ps.length r
    by_cases c : teamS m (l.getD i Ti.zero).Ps.length r > 0
    · rw [if_pos (by omega)]
      refine ⟨h, ?_⟩
      rw [if_pos (by rfl : (true && true) = true)]
      refine ⟨m, n, l.getD i Ti.zero, r, t, rfl, hm.1, hn, hm.2.2, hr, ?_⟩
      by_cases d : fitsS m n (l.getD i Ti.zero) r = true
      · rw [if_pos d]
        have e := hx1 ⟨c, d⟩
        have := hy (by omega)
        rw [e] at this
        exact this
      · rw [if_neg d]
        exact ⟨i + 1, (show l.length - (i + 1) < l.length - i by omega), ⟨by omega, hx2 (fun k => d k.2)⟩, by rw [wI_succ h (by omega)], [], rfl, Nat.le_refl _, .inl rfl⟩
    · rw [if_neg (by omega)]
      exact ⟨i + 1, (show l.length - (i + 1) < l.length - i by omega), ⟨by omega, hx2 (fun k => c k.1)⟩, by rw [wI_succ h (by omega)], [], rfl, Nat.le_refl _, .inl rfl⟩
  · rw [if_neg (by omega)]
    have : i = l.length := by omega
    subst this
    rw [List.drop_length] at h2
    exact hno h2
theorem find1_red (m : Mo) (n : Int) (l : List Ti) (u : Tail) (r : List Ro) (t : Tail) (K : PV → Prop) : (∃ (m_1 : Mo), ∃ (n_1 : Int), ∃ (l_1 : List Ti), ∃ (u_1 : Tail), ∃ (r_1 : List Ro), ∃ (t_1 : Tail), in64 n_1 ∧ NT u_1 ∧ NT t_1 ∧ LsOk l_1 ∧ RsOk r_1 ∧ SlIs [PV.int IntKind.i64 n, PV.list (List.map Ro.cs r) t, PV.ptr 0 0, PV.int IntKind.i64 0, PV.int IntKind.i64 0, PV.bool false, PV.list (List.map Ti.cs l) u, PV.int IntKind.i64 (↑(List.length (List.map Ti.cs l)) : Int), PV.int IntKind.i64 0] [PV.int IntKind.i64 n_1, PV.list (List.map Ro.cs r_1) t_1, PV.ptr 0 0, PV.int IntKind.i64 0, PV.int IntKind.i64 0, PV.bool false, PV.list (List.map Ti.cs l_1) u_1, PV.int IntKind.i64 (↑(List.length l_1) : Int), PV.int IntKind.i64 0] ∧ HpIs [Ob.cells [PV.int IntKind.i64 (Mo.K m), PV.int IntKind.i64 (Mo.Base m), PV.int IntKind.i64 (Mo.Step m), PV.int IntKind.i64 (Mo.Cap m), PV.int IntKind.i64 (Mo.Every m)]] [Ob.cells [PV.int IntKind.i64 (Mo.K m_1), PV.int IntKind.i64 (Mo.Base m_1), PV.int IntKind.i64 (Mo.Step m_1), PV.int IntKind.i64 (Mo.Cap m_1), PV.int IntKind.i64 (Mo.Every m_1)]] ∧ (fk (cand m_1 n_1 r_1) l_1 < List.length l_1 → ∀ (_ : Ti), K (PV.tup [PV.int IntKind.i64 (↑(fk (cand m_1 n_1 r_1) l_1) : Int), PV.int IntKind.i64 (teamAt m_1 l_1 r_1 (fk (cand m_1 n_1 r_1) l_1)), PV.bool true])) ∧ (fk (cand m_1 n_1 r_1) l_1 = List.length l_1 → K (PV.tup [PV.int IntKind.i64 0, PV.int IntKind.i64 0, PV.bool false]))) = wpc br Try.prog gl TY [([1, 0, 1, 0], fd1_l)] (fun _ => 0) (bodyOf Try.f35) [] (env0 [m.pv, .int .i64 n, .list (l.map Ti.cs) u, .list (r.map Ro.cs) t]) [] (resQ Try.prog Try.f35.results.toList (fun x _ => K x)) := by kernel_rfl
theorem find1_vc (m : Mo) (n : Int) (l : List Ti) (u : Tail) (r : List Ro) (t : Tail) (K : PV → Prop) (h : ∃ (m_1 : Mo), ∃ (n_1 : Int), ∃ (l_1 : List Ti), ∃ (u_1 : Tail), ∃ (r_1 : List Ro), ∃ (t_1 : Tail), in64 n_1 ∧ NT u_1 ∧ NT t_1 ∧ LsOk l_1 ∧ RsOk r_1 ∧ SlIs [PV.int IntKind.i64 n, PV.list (List.map Ro.cs r) t, PV.ptr 0 0, PV.int IntKind.i64 0, PV.int IntKind.i64 0, PV.bool false, PV.list (List.map Ti.cs l) u, PV.int IntKind.i64 (↑(List.length (List.map Ti.cs l)) : Int), PV.int IntKind.i64 0] [PV.int IntKind.i64 n_1, PV.list (List.map Ro.cs r_1) t_1, PV.ptr 0 0, PV.int IntKind.i64 0, PV.int IntKind.i64 0, PV.bool false, PV.list (List.map Ti.cs l_1) u_1, PV.int IntKind.i64 (↑(List.length l_1) : Int), PV.int IntKind.i64 0] ∧ HpIs [Ob.cells [PV.int IntKind.i64 (Mo.K m), PV.int IntKind.i64 (Mo.Base m), PV.int IntKind.i64 (Mo.Step m), PV.int IntKind.i64 (Mo.Cap m), PV.int IntKind.i64 (Mo.Every m)]] [Ob.cells [PV.int IntKind.i64 (Mo.K m_1), PV.int IntKind.i64 (Mo.Base m_1), PV.int IntKind.i64 (Mo.Step m_1), PV.int IntKind.i64 (Mo.Cap m_1), PV.int IntKind.i64 (Mo.Every m_1)]] ∧ (fk (cand m_1 n_1 r_1) l_1 < List.length l_1 → ∀ (_ : Ti), K (PV.tup [PV.int IntKind.i64 (↑(fk (cand m_1 n_1 r_1) l_1) : Int), PV.int IntKind.i64 (teamAt m_1 l_1 r_1 (fk (cand m_1 n_1 r_1) l_1)), PV.bool true])) ∧ (fk (cand m_1 n_1 r_1) l_1 = List.length l_1 → K (PV.tup [PV.int IntKind.i64 0, PV.int IntKind.i64 0, PV.bool false]))) : ACalls Try.prog gl 35 [m.pv, .int .i64 n, .list (l.map Ti.cs) u, .list (r.map Ro.cs) t] [] (fun x _ => K x) :=
  acalls_of_wpc2 (T := TY) (L := [([1, 0, 1, 0], fd1_l)]) (fun _ => 0) Try.func35 (by kernel_rfl) (by kernel_rfl) (by kernel_rfl) (TY_ok) (.cons (sub_of (by kernel_rfl)) fd1_l_ok (.nil _ _ _ _ _)) (holds_of_eq (find1_red m n l u r t K) h)
theorem find2_red (m : Mo) (n : Int) (l : List Ti) (u : Tail) (r : List Ro) (t : Tail) (K : PV → Prop) : (∃ (m_1 : Mo), ∃ (n_1 : Int), ∃ (l_1 : List Ti), ∃ (u_1 : Tail), ∃ (r_1 : List Ro), ∃ (t_1 : Tail), in64 n_1 ∧ NT u_1 ∧ NT t_1 ∧ LsOk l_1 ∧ RsOk r_1 ∧ SlIs [PV.int IntKind.i64 n, PV.list (List.map Ti.cs l) u, PV.list (List.map Ro.cs r) t, PV.ptr 0 0, PV.int IntKind.i64 0, PV.int IntKind.i64 0, PV.bool false, PV.int IntKind.i64 0] [PV.int IntKind.i64 n_1, PV.list (List.map Ti.cs l_1) u_1, PV.list (List.map Ro.cs r_1) t_1, PV.ptr 0 0, PV.int IntKind.i64 0, PV.int IntKind.i64 0, PV.bool false, PV.int IntKind.i64 0] ∧ HpIs [Ob.cells [PV.int IntKind.i64 (Mo.K m), PV.int IntKind.i64 (Mo.Base m), PV.int IntKind.i64 (Mo.Step m), PV.int IntKind.i64 (Mo.Cap m), PV.int IntKind.i64 (Mo.Every m)]] [Ob.cells [PV.int IntKind.i64 (Mo.K m_1), PV.int IntKind.i64 (Mo.Base m_1), PV.int IntKind.i64 (Mo.Step m_1), PV.int IntKind.i64 (Mo.Cap m_1), PV.int IntKind.i64 (Mo.Every m_1)]] ∧ (fk (cand m_1 n_1 r_1) l_1 < List.length l_1 → K (PV.tup [PV.int IntKind.i64 (↑(fk (cand m_1 n_1 r_1) l_1) : Int), PV.int IntKind.i64 (teamAt m_1 l_1 r_1 (fk (cand m_1 n_1 r_1) l_1)), PV.bool true])) ∧ (fk (cand m_1 n_1 r_1) l_1 = List.length l_1 → K (PV.tup [PV.int IntKind.i64 0, PV.int IntKind.i64 0, PV.bool false]))) = wpc br Try.prog gl TY [([1, 0, 1, 0], fd2_l)] (fun _ => 0) (bodyOf Try.f36) [] (env0 [m.pv, .int .i64 n, .list (l.map Ti.cs) u, .list (r.map Ro.cs) t]) [] (resQ Try.prog Try.f36.results.toList (fun x _ => K x)) := by kernel_rfl
theorem find2_vc (m : Mo) (n : Int) (l : List Ti) (u : Tail) (r : List Ro) (t : Tail) (K : PV → Prop) (h : ∃ (m_1 : Mo), ∃ (n_1 : Int), ∃ (l_1 : List Ti), ∃ (u_1 : Tail), ∃ (r_1 : List Ro), ∃ (t_1 : Tail), in64 n_1 ∧ NT u_1 ∧ NT t_1 ∧ LsOk l_1 ∧ RsOk r_1 ∧ SlIs [PV.int IntKind.i64 n, PV.list (List.map Ti.cs l) u, PV.list (List.map Ro.cs r) t, PV.ptr 0 0, PV.int IntKind.i64 0, PV.int IntKind.i64 0, PV.bool false, PV.int IntKind.i64 0] [PV.int IntKind.i64 n_1, PV.list (List.map Ti.cs l_1) u_1, PV.list (List.map Ro.cs r_1) t_1, PV.ptr 0 0, PV.int IntKind.i64 0, PV.int IntKind.i64 0, PV.bool false, PV.int IntKind.i64 0] ∧ HpIs [Ob.cells [PV.int IntKind.i64 (Mo.K m), PV.int IntKind.i64 (Mo.Base m), PV.int IntKind.i64 (Mo.Step m), PV.int IntKind.i64 (Mo.Cap m), PV.int IntKind.i64 (Mo.Every m)]] [Ob.cells [PV.int IntKind.i64 (Mo.K m_1), PV.int IntKind.i64 (Mo.Base m_1), PV.int IntKind.i64 (Mo.Step m_1), PV.int IntKind.i64 (Mo.Cap m_1), PV.int IntKind.i64 (Mo.Every m_1)]] ∧ (fk (cand m_1 n_1 r_1) l_1 < List.length l_1 → K (PV.tup [PV.int IntKind.i64 (↑(fk (cand m_1 n_1 r_1) l_1) : Int), PV.int IntKind.i64 (teamAt m_1 l_1 r_1 (fk (cand m_1 n_1 r_1) l_1)), PV.bool true])) ∧ (fk (cand m_1 n_1 r_1) l_1 = List.length l_1 → K (PV.tup [PV.int IntKind.i64 0, PV.int IntKind.i64 0, PV.bool false]))) : ACalls Try.prog gl 36 [m.pv, .int .i64 n, .list (l.map Ti.cs) u, .list (r.map Ro.cs) t] [] (fun x _ => K x) :=
  acalls_of_wpc2 (T := TY) (L := [([1, 0, 1, 0], fd2_l)]) (fun _ => 0) Try.func36 (by kernel_rfl) (by kernel_rfl) (by kernel_rfl) (TY_ok) (.cons (sub_of (by kernel_rfl)) fd2_l_ok (.nil _ _ _ _ _)) (holds_of_eq (find2_red m n l u r t K) h)
def findV (m : Mo) (n : Int) (l : List Ti) (r : List Ro) : List PV := if fk (cand m n r) l < l.length then [.int .i64 (fk (cand m n r) l), .int .i64 (teamAt m l r (fk (cand m n r) l)), .bool true] else [.int .i64 0, .int .i64 0, .bool false]
def find_s (args : List PV) (K : PV → Prop) : Prop := ∃ (m : Mo) (n : Int) (l : List Ti) (u : Tail) (r : List Ro) (t : Tail), SlIs args [m.pv, .int .i64 n, .list (l.map Ti.cs) u, .list (r.map Ro.cs) t] ∧ in64 n ∧ LsOk l ∧ RsOk r ∧ ((fk (cand m n r) l < l.length → K (.tup [.int .i64 (fk (cand m n r) l), .int .i64 (teamAt m l r (fk (cand m n r) l)), .bool true])) ∧ (fk (cand m n r) l = l.length → K (.tup [.int .i64 0, .int .i64 0, .bool false])))
theorem low_findV {j : Nat} (m : Mo) (n : Int) (l : List Ti) (r : List Ro) : Low j (.tup (findV m n l r)) := by
  refine .tup _ fun x hx => ?_
  unfold findV at hx
  split at hx <;> simp only [List.mem_cons, List.not_mem_nil, or_false] at hx <;> rcases hx with rfl | rfl | rfl <;> first | exact .int _ _ | exact .bool _
theorem find_k {m : Mo} {n : Int} {l : List Ti} {r : List Ro} {K : PV → Prop} (hk : (fk (cand m n r) l < l.length → K (.tup [.int .i64 (fk (cand m n r) l), .int .i64 (teamAt m l r (fk (cand m n r) l)), .bool true])) ∧ (fk (cand m n r) l = l.length → K (.tup [.int .i64 0, .int .i64 0, .bool false]))) : K (.tup (findV m n l r)) := by
  have := fk_le (cand m n r) l
  unfold findV
  by_cases c : fk (cand m n r) l < l.length
  · rw [if_pos c]; exact hk.1 c
  · rw [if_neg c]; exact hk.2 (by omega)
theorem find1_ok : SpOk Try.prog gl 35 (.pure find_s) := by
  rintro args K ⟨m, n, l, u, r, t, he, hn, hl, hr, hk⟩
  have he : args = _ := he
  subst he
  refine spure_w gl_low (.cons (.refl _) (.cons (.refl _) (.cons (.list _ _) (.cons (.list _ _) .nil)))) (by intro v hv; simp only [List.mem_cons, List.not_mem_nil, or_false] at hv; rcases hv with rfl | rfl | rfl | rfl; exact low_mpv m; exact .int _ _; exact low_list NT.no (low_ls hl); exact low_list NT.no (low_rs hr)) (low_findV m n l r)
    (find1_vc m n l .no r .no (fun v => v = .tup (findV m n l r)) ⟨m, n, l, .no, r, .no, hn, NT.no, NT.no, hl, hr, ?_, rfl, fun h _ => ?_, fun h => ?_⟩) (find_k hk)
  · simp only [List.length_map]; rfl
  · unfold findV; rw [if_pos h]
  · unfold findV; rw [if_neg (by omega)]
theorem find2_ok : SpOk Try.prog gl 36 (.pure find_s) := by
  rintro args K ⟨m, n, l, u, r, t, he, hn, hl, hr, hk⟩
  have he : args = _ := he
  subst he
  refine spure_w gl_low (.cons (.refl _) (.cons (.refl _) (.cons (.list _ _) (.cons (.list _ _) .nil)))) (by intro v hv; simp only [List.mem_cons, List.not_mem_nil, or_false] at hv; rcases hv with rfl | rfl | rfl | rfl; exact low_mpv m; exact .int _ _; exact low_list NT.no (low_ls hl); exact low_list NT.no (low_rs hr)) (low_findV m n l r)
    (find2_vc m n l .no r .no (fun v => v = .tup (findV m n l r)) ⟨m, n, l, .no, r, .no, hn, NT.no, NT.no, hl, hr, rfl, rfl, fun h => ?_, fun h => ?_⟩) (find_k hk)
  · unfold findV; rw [if_pos h]
  · unfold findV; rw [if_neg (by omega)]
def TZ : Tab := (35, .pure find_s) :: (36, .pure find_s) :: TY
theorem TZ_ok : TabOk Try.prog gl TZ := .cons find1_ok (.cons find2_ok TY_ok)
-- do rows fit, each two of them?
def nrr (x y : Ro) : Bool := nr x.Rating x.Window y
def fitN (r : List Ro) : Nat → Bool
  | 0 => true
  | n + 1 => fitN r n && (r.take n).all (nrr (r.getD n Ro.zero))
theorem fitN_no {r : List Ro} {i : Nat} (h : fitN r (i + 1) = false) : ∀ n, fitN r (i + 1 + n) = false
  | 0 => h
  | n + 1 => by show (fitN r (i + 1 + n) && _) = false; rw [fitN_no h n]; rfl
def fi_l : LSp := fun e H Q => ∃ (r : List Ro) (t : Tail) (i : Nat), RsOk r ∧ i < r.length ∧ SlIs (List.map e [0, 2, 3, 4]) [.list (r.map Ro.cs) t, .bool false, .int .i64 i, .int .i64 0] ∧ HpIs H [] ∧
  ((r.take i).all (nrr (r.getD i Ro.zero)) = true → Q (.exit 2) (envS [0, 2, 3, 4] [.list (r.map Ro.cs) t, .bool false, .int .i64 i, .int .i64 i]) []) ∧
  ((r.take i).all (nrr (r.getD i Ro.zero)) = false → ∀ j : Nat, Q .ret (envS [0, 2, 3, 4] [.list (r.map Ro.cs) t, .bool false, .int .i64 i, .int .i64 j]) [])
theorem fi_l_ok : ∀ e H Q, fi_l e H Q → AW Try.prog gl Try.f38.ntmps (.loop (subOf [1, 0, 1, 0, 0, 1, 0, 0, 1, 0] (bodyOf Try.f38))) Q e H := by
  rintro e H Q ⟨r, t, i, hr, hi, he, hH, hy, hno⟩
  have hlen := hr.1
  refine aw_loop4 (hn := fun _ => 0) gl_low TZ_ok (.nil _ _ _ _ _) (σ := Nat) [0, 2, 3, 4] (fun j => j ≤ i ∧ (r.take i).all (nrr (r.getD i Ro.zero)) = ((r.take i).drop j).all (nrr (r.getD i Ro.zero)))
    (fun j => [.list (r.map Ro.cs) t, .bool false, .int .i64 i, .int .i64 j]) (fun _ => []) (fun j => i - j) 0 ⟨Nat.zero_le _, by rw [List.drop_zero]⟩ he hH ?_
  rintro j ⟨h1, h2⟩
  refine fti_vc r t i j _ ?_
  simp only [br_if, dt, toNat_nat, inL_ro]
  have hl : (r.take i).length = i := by rw [List.length_take]; omega
  by_cases h : j < i
  · rw [if_pos (by omega)]
    simp only [getD_map Ro.zero hi, getD_map Ro.zero (show j < r.length by omega), ro_f, ro_d]
    refine ⟨hi, ?_⟩
    rw [if_pos (by rfl : (true && true) = true)]
    refine ⟨hi, ?_⟩
    rw [if_pos (by rfl : (true && true) = true)]
    refine ⟨by omega, ?_⟩
    rw [if_pos (by rfl : (true && true) = true)]
    refine ⟨by omega, ?_⟩
    rw [if_pos (by rfl : (true && true) = true)]
    rw [drop_cons Ro.zero (by omega), List.all_cons] at h2
    have hg : (r.take i).getD j Ro.zero = r.getD j Ro.zero := by
      rw [List.getD_eq_getElem?_getD, List.getElem?_take, if_pos h, ← List.getD_eq_getElem?_getD]
    rw [hg] at h2
    generalize r.getD i Ro.zero = x at *
    generalize r.getD j Ro.zero = y at *
    cases c : nrr x y with
    | false =>
      rw [c, Bool.false_and] at h2
      unfold nrr nr at c
      rw [if_pos (by rw [c]; rfl)]
      exact hno h2 j
    | true =>
      rw [c, Bool.true_and] at h2
      unfold nrr nr at c
      rw [if_neg (by rw [c]; decide)]
      exact ⟨j + 1, (show i - (j + 1) < i - j by omega), ⟨by omega, h2⟩, by rw [wI_succ h (by omega)], [], rfl, Nat.le_refl _, .inl rfl⟩
  · rw [if_neg (by omega)]
    have : j = i := by omega
    subst this
    rw [List.drop_of_length_le (by omega)] at h2
    exact hy h2
theorem fi_sub : subOf [1, 0, 1, 0, 0, 1, 0, 0, 1, 0] (bodyOf Try.f38) = subOf [1, 0, 0, 1, 0] (subOf [1, 0, 1, 0] (bodyOf Try.f38)) := by kernel_rfl
theorem fi_l_ok2 : ∀ e H Q, fi_l e H Q → AW Try.prog gl Try.f38.ntmps (.loop (subOf [1, 0, 0, 1, 0] (subOf [1, 0, 1, 0] (bodyOf Try.f38)))) Q e H := by
  rw [← fi_sub]; exact fi_l_ok
theorem awake19_red  (K : PV → Prop) : (∃ (m : Mo), ∃ (n : Int), ∃ (l : List Ti), ∃ (u : Tail), ∃ (r : List Ro), ∃ (t : Tail), SlIs [PV.agg [PV.int IntKind.i64 2, PV.int IntKind.i64 10, PV.int IntKind.i64 0, PV.int IntKind.i64 10, PV.int IntKind.i64 1], PV.int IntKind.i64 0, PV.list [[PV.int IntKind.u32 0, PV.int IntKind.i64 0, PV.list [[PV.int IntKind.u32 4]] Tail.exact, PV.int IntKind.i64 1505, PV.int IntKind.i64 0]] Tail.exact, PV.list [[PV.int IntKind.i64 1, PV.list [[PV.int IntKind.u32 1]] Tail.exact, PV.int IntKind.i64 1500, PV.int IntKind.i64 10], [PV.int IntKind.i64 2, PV.list [[PV.int IntKind.u32 2], [PV.int IntKind.u32 3]] Tail.exact, PV.int IntKind.i64 1500, PV.int IntKind.i64 10]] Tail.exact] [PV.agg [PV.int IntKind.i64 (Mo.K m), PV.int IntKind.i64 (Mo.Base m), PV.int IntKind.i64 (Mo.Step m), PV.int IntKind.i64 (Mo.Cap m), PV.int IntKind.i64 (Mo.Every m)], PV.int IntKind.i64 n, PV.list (List.map Ti.cs l) u, PV.list (List.map Ro.cs r) t] ∧ in64 n ∧ LsOk l ∧ RsOk r ∧ (fk (cand m n r) l < List.length l → br (((↑(fk (cand m n r) l) : Int) == 0) == true) (br ((teamAt m l r (fk (cand m n r) l) == 1) == true) (K (PV.bool true)) (K (PV.bool false))) (K (PV.bool false))) ∧ (fk (cand m n r) l = List.length l → K (PV.bool false))) = wpc br Try.prog gl TZ [] (fun _ => 0) (bodyOf Try.f34) [] (env0 []) [] (resQ Try.prog Try.f34.results.toList (fun x _ => K x)) := by kernel_rfl
theorem awake19_vc  (K : PV → Prop) (h : ∃ (m : Mo), ∃ (n : Int), ∃ (l : List Ti), ∃ (u : Tail), ∃ (r : List Ro), ∃ (t : Tail), SlIs [PV.agg [PV.int IntKind.i64 2, PV.int IntKind.i64 10, PV.int IntKind.i64 0, PV.int IntKind.i64 10, PV.int IntKind.i64 1], PV.int IntKind.i64 0, PV.list [[PV.int IntKind.u32 0, PV.int IntKind.i64 0, PV.list [[PV.int IntKind.u32 4]] Tail.exact, PV.int IntKind.i64 1505, PV.int IntKind.i64 0]] Tail.exact, PV.list [[PV.int IntKind.i64 1, PV.list [[PV.int IntKind.u32 1]] Tail.exact, PV.int IntKind.i64 1500, PV.int IntKind.i64 10], [PV.int IntKind.i64 2, PV.list [[PV.int IntKind.u32 2], [PV.int IntKind.u32 3]] Tail.exact, PV.int IntKind.i64 1500, PV.int IntKind.i64 10]] Tail.exact] [PV.agg [PV.int IntKind.i64 (Mo.K m), PV.int IntKind.i64 (Mo.Base m), PV.int IntKind.i64 (Mo.Step m), PV.int IntKind.i64 (Mo.Cap m), PV.int IntKind.i64 (Mo.Every m)], PV.int IntKind.i64 n, PV.list (List.map Ti.cs l) u, PV.list (List.map Ro.cs r) t] ∧ in64 n ∧ LsOk l ∧ RsOk r ∧ (fk (cand m n r) l < List.length l → br (((↑(fk (cand m n r) l) : Int) == 0) == true) (br ((teamAt m l r (fk (cand m n r) l) == 1) == true) (K (PV.bool true)) (K (PV.bool false))) (K (PV.bool false))) ∧ (fk (cand m n r) l = List.length l → K (PV.bool false))) : ACalls Try.prog gl 34 [] [] (fun x _ => K x) :=
  acalls_of_wpc2 (T := TZ) (L := []) (fun _ => 0) Try.func34 (by kernel_rfl) (by kernel_rfl) (by kernel_rfl) (TZ_ok) (LOk.nil _ _ _ _ _) (holds_of_eq (awake19_red K) h)
theorem fto_red (r : List Ro) (t : Tail) (i : Nat) (R : Ex → List PV → Heap → Prop) : (br (decide ((↑i : Int) < (↑(List.length (List.map Ro.cs r)) : Int))) (∃ (r_1 : List Ro), ∃ (t_1 : Tail), ∃ (i_1 : Nat), RsOk r_1 ∧ i_1 < List.length r_1 ∧ SlIs [PV.list (List.map Ro.cs r) t, PV.bool false, PV.int IntKind.i64 (↑i : Int), PV.int IntKind.i64 0] [PV.list (List.map Ro.cs r_1) t_1, PV.bool false, PV.int IntKind.i64 (↑i_1 : Int), PV.int IntKind.i64 0] ∧ HpIs [] [] ∧ (List.all (List.take i_1 r_1) (nrr (List.getD r_1 i_1 Ro.zero)) = true → R Ex.normal [PV.list (List.map Ro.cs r_1) t_1, PV.bool false, PV.int IntKind.i64 (wI ((↑i_1 : Int) + 1))] []) ∧ (List.all (List.take i_1 r_1) (nrr (List.getD r_1 i_1 Ro.zero)) = false → ∀ (_ : Nat), R Ex.ret [PV.list (List.map Ro.cs r_1) t_1, PV.bool false, PV.int IntKind.i64 (↑i_1 : Int)] [])) (R (Ex.exit 0) [PV.list (List.map Ro.cs r) t, PV.bool false, PV.int IntKind.i64 (↑i : Int)] [])) = wpc br Try.prog gl TZ [([1, 0, 0, 1, 0], fi_l)] (fun _ => 0) (subOf [1, 0, 1, 0] (bodyOf Try.f38)) [] (envS [0, 2, 3] [.list (r.map Ro.cs) t, .bool false, .int .i64 i]) [] (fun ex e H => R ex (List.map e [0, 2, 3]) H) := by kernel_rfl
theorem fto_vc (r : List Ro) (t : Tail) (i : Nat) (R : Ex → List PV → Heap → Prop) (h : br (decide ((↑i : Int) < (↑(List.length (List.map Ro.cs r)) : Int))) (∃ (r_1 : List Ro), ∃ (t_1 : Tail), ∃ (i_1 : Nat), RsOk r_1 ∧ i_1 < List.length r_1 ∧ SlIs [PV.list (List.map Ro.cs r) t, PV.bool false, PV.int IntKind.i64 (↑i : Int), PV.int IntKind.i64 0] [PV.list (List.map Ro.cs r_1) t_1, PV.bool false, PV.int IntKind.i64 (↑i_1 : Int), PV.int IntKind.i64 0] ∧ HpIs [] [] ∧ (List.all (List.take i_1 r_1) (nrr (List.getD r_1 i_1 Ro.zero)) = true → R Ex.normal [PV.list (List.map Ro.cs r_1) t_1, PV.bool false, PV.int IntKind.i64 (wI ((↑i_1 : Int) + 1))] []) ∧ (List.all (List.take i_1 r_1) (nrr (List.getD r_1 i_1 Ro.zero)) = false → ∀ (_ : Nat), R Ex.ret [PV.list (List.map Ro.cs r_1) t_1, PV.bool false, PV.int IntKind.i64 (↑i_1 : Int)] [])) (R (Ex.exit 0) [PV.list (List.map Ro.cs r) t, PV.bool false, PV.int IntKind.i64 (↑i : Int)] [])) : Holds (wpc br Try.prog gl TZ [([1, 0, 0, 1, 0], fi_l)] (fun _ => 0) (subOf [1, 0, 1, 0] (bodyOf Try.f38)) [] (envS [0, 2, 3] [.list (r.map Ro.cs) t, .bool false, .int .i64 i]) [] (fun ex e H => R ex (List.map e [0, 2, 3]) H)) := holds_of_eq (fto_red r t i R) h
def fo_l : LSp := fun e H Q => ∃ (r : List Ro) (t : Tail), RsOk r ∧ SlIs (List.map e [0, 2, 3]) [.list (r.map Ro.cs) t, .bool false, .int .i64 0] ∧ HpIs H [] ∧
  (fitN r r.length = true → Q (.exit 0) (envS [0, 2, 3] [.list (r.map Ro.cs) t, .bool false, .int .i64 r.length]) []) ∧
  (fitN r r.length = false → ∀ j : Nat, Q .ret (envS [0, 2, 3] [.list (r.map Ro.cs) t, .bool false, .int .i64 j]) [])
theorem fo_l_ok : ∀ e H Q, fo_l e H Q → AW Try.prog gl Try.f38.ntmps (.loop (subOf [1, 0, 1, 0] (bodyOf Try.f38))) Q e H := by
  rintro e H Q ⟨r, t, hr, he, hH, hy, hno⟩
  have hlen := hr.1
  refine aw_loop4 (hn := fun _ => 0) gl_low TZ_ok (.cons (sub_of (by kernel_rfl)) fi_l_ok2 (.nil _ _ _ _ _)) (σ := Nat) [0, 2, 3] (fun i => i ≤ r.length ∧ fitN r i = true)
    (fun i => [.list (r.map Ro.cs) t, .bool false, .int .i64 i]) (fun _ => []) (fun i => r.length - i) 0 ⟨Nat.zero_le _, rfl⟩ he hH ?_
  rintro i ⟨h1, h2⟩
  refine fto_vc r t i _ ?_
  simp only [br_if, dt, List.length_map]
  by_cases h : i < r.length
  · rw [if_pos (by omega)]
    refine ⟨r, t, i, hr, h, rfl, rfl, fun k => ?_, fun k j => ?_⟩
    · exact ⟨i + 1, (show r.length - (i + 1) < r.length - i by omega), ⟨by omega, by rw [fitN, h2, k]; rfl⟩, by rw [wI_succ h (by omega)], [], rfl, Nat.le_refl _, .inl rfl⟩
    · refine hno ?_ i
      have := fitN_no (r := r) (i := i) (by rw [fitN, k, Bool.and_false]) (r.length - (i + 1))
      rwa [show i + 1 + (r.length - (i + 1)) = r.length by omega] at this
  · rw [if_neg (by omega)]
    have : i = r.length := by omega
    subst this
    exact hy h2
def true19_s (args : List PV) (K : PV → Prop) : Prop := match args with
  | [] => K (.bool true)
  | _ => False
theorem awake19_ok : SpOk Try.prog gl 34 (.pure true19_s) := by
  intro args K h
  unfold true19_s at h
  split at h
  · refine spure gl_low (by simp) (.bool true) (awake19_vc (fun x => x = .bool true) ?_) h
    refine ⟨⟨2, 10, 0, 10, 1⟩, 0, [⟨0, 0, [4], .exact, 1505, 0⟩], .exact, [⟨1, [1], .exact, 1500, 10⟩, ⟨2, [2, 3], .exact, 1500, 10⟩], .exact, rfl, by unfold in64; omega, ⟨by decide, ?_⟩, ⟨by decide, ?_⟩, ?_⟩
    · intro x hx
      simp only [List.mem_cons, List.not_mem_nil, or_false] at hx
      subst hx
      exact ⟨NT.exact, by decide, by unfold in64; decide⟩
    · intro x hx
      simp only [List.mem_cons, List.not_mem_nil, or_false] at hx
      rcases hx with rfl | rfl
      · exact ⟨NT.exact, by decide⟩
      · exact ⟨NT.exact, by decide⟩
    · simp only [br_if, bt, beq_I]
      refine ⟨fun _ => ?_, fun h => ?_⟩
      · rw [if_pos (by decide), if_pos (by decide)]; trivial
      · exact absurd h (by decide)
  · exact h.elim
def TV19 : Tab := (34, .pure true19_s) :: TZ
theorem TV19_ok : TabOk Try.prog gl TV19 := .cons awake19_ok TZ_ok
theorem fitted_red (r : List Ro) (t : Tail) (K : PV → Prop) : (∃ (r_1 : List Ro), ∃ (t_1 : Tail), RsOk r_1 ∧ SlIs [PV.list (List.map Ro.cs r) t, PV.bool false, PV.int IntKind.i64 0] [PV.list (List.map Ro.cs r_1) t_1, PV.bool false, PV.int IntKind.i64 0] ∧ HpIs [] [] ∧ (fitN r_1 (List.length r_1) = true → K (PV.bool true)) ∧ (fitN r_1 (List.length r_1) = false → ∀ (_ : Nat), K (PV.bool false))) = wpc br Try.prog gl TV19 [([1, 0, 1, 0], fo_l)] (fun _ => 0) (bodyOf Try.f38) [] (env0 [.list (r.map Ro.cs) t]) [] (resQ Try.prog Try.f38.results.toList (fun x _ => K x)) := by kernel_rfl
theorem fitted_vc (r : List Ro) (t : Tail) (K : PV → Prop) (h : ∃ (r_1 : List Ro), ∃ (t_1 : Tail), RsOk r_1 ∧ SlIs [PV.list (List.map Ro.cs r) t, PV.bool false, PV.int IntKind.i64 0] [PV.list (List.map Ro.cs r_1) t_1, PV.bool false, PV.int IntKind.i64 0] ∧ HpIs [] [] ∧ (fitN r_1 (List.length r_1) = true → K (PV.bool true)) ∧ (fitN r_1 (List.length r_1) = false → ∀ (_ : Nat), K (PV.bool false))) : ACalls Try.prog gl 38 [.list (r.map Ro.cs) t] [] (fun x _ => K x) :=
  acalls_of_wpc2 (T := TV19) (L := [([1, 0, 1, 0], fo_l)]) (fun _ => 0) Try.func38 (by kernel_rfl) (by kernel_rfl) (by kernel_rfl) (TV19_ok) (.cons (sub_of (by kernel_rfl)) fo_l_ok (.nil _ _ _ _ _)) (holds_of_eq (fitted_red r t K) h)
end Go.Proofs.Ytidhfbpljjaelaa
