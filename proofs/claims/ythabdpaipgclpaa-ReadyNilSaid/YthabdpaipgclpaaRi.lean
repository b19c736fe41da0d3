/-
  Rooms: Open, Accept, New.
-/
import Derived.Test.YthabdpaipgclpaaRh
import Derived.Test.YthabdpaipgclpaaProg
namespace Go.Proofs.Ythabdpaipgclpaa
open Go Go.AM Go.Proofs
def openS (w : List Ck) (m id un : Int) (pl : List Int) : List Ck × Int :=
  if (id :: pl).all rightS = true then (if pl.length < 1 ∨ 8 < pl.length then (w, 21) else if hasG Ck.id w id = true ∨ dblS w pl = true then (w, 11) else if (w.length : Int) ≥ m then (w, 10) else (putG Ck.id w ⟨id, pl, [], un⟩, 0)) else (w, 14)
theorem all_find {p : Int → Bool} (l : List Int) : (l.all p = true → l.findIdx (fun x => !p x) = l.length) ∧ (¬ l.all p = true → l.findIdx (fun x => !p x) < l.length) := by
  constructor
  · intro h
    rw [List.findIdx_eq_length]
    intro x hx
    rw [List.all_eq_true.1 h x hx]; rfl
  · intro h
    rw [List.findIdx_lt_length]
    have h' : l.all p = false := eq_false_of_ne_true h
    rw [List.all_eq_false] at h'
    obtain ⟨x, hx, hp⟩ := h'
    exact ⟨x, hx, by simpa using hp⟩
def open_s (args : List PV) (H : Heap) (K : PV → Heap → Prop) : Prop := match args with
  | .ptr q 0 :: rest => match bookR H q with
    | some r => ∃ (w : List Ck) (m id un : Int) (pl : List Int) (tl : Tail), SlIs rest [.int .u32 id, .int .i64 un, .list (pl.map u1) tl] ∧ AbIs H r (rkC (rowsC w) m) ∧ RO w m ∧ pl.length ≤ 100000 ∧ K (.int .i64 (openS w m id un pl).2) (H.set r (.abs (rkC (rowsC (openS w m id un pl).1) m)))
    | none => False
  | _ => False
theorem open_ok : SpOk Try.prog gl 12 (.heap open_s) := by
  intro args H K h
  unfold open_s at h
  split at h
  · rename_i q rest
    split at h <;> try (exact h.elim)
    rename_i r hr
    obtain ⟨w, m, id, un, pl, tl, he, ha, ro, hpl, hk⟩ := h
    have hb := bookR_is hr ha
    have he : rest = _ := he
    subst he
    refine acalls_args (.cons (.refl _) (.cons (.refl _) (.cons (.refl _) (.cons (.list _ _) .nil)))) ?_
    refine book_heap (R' := rkC (rowsC (openS w m id un pl).1) m) gl_low hb (low_three (.int _ _) (.int _ _) (low_us _)) (.int _ _) (open1_vc w m id un pl _ ?_) hk
    refine ⟨⟨(by intro e he; rcases List.mem_singleton.1 he with rfl; rfl), uni_map u1_len _, by simp; omega⟩, id :: pl, w, m, id, un, pl, (by simp; omega), trivial, (by show _ = _; rw [show ([[PV.int IntKind.u32 id]] ++ pl.map u1).length = (id :: pl).length from by simp]; rfl), rfl, fun hf => ?_, fun hf => ?_⟩
    · have c : ¬ (id :: pl).all rightS = true := fun c => by have := (all_find (id :: pl)).1 c; omega
      unfold openS
      rw [if_neg c]
      exact ⟨rfl, _, rfl⟩
    · have c : (id :: pl).all rightS = true := Classical.byContradiction fun c => by have := (all_find (id :: pl)).2 c; omega
      have hid : rightS id = true := List.all_eq_true.1 c id (by simp)
      unfold openS
      rw [if_pos c]
      refine ⟨1, rowsC w, m, id, rfl, rfl, ro.ok, ?_⟩
      simp only [br_if, dt, bf, List.length_map, rowsOf_has ro.ok]
      by_cases c1 : pl.length < 1 ∨ 8 < pl.length
      · rw [if_pos c1]
        by_cases c2 : pl.length < 1
        · rw [if_neg (by simp; omega)]
          exact ⟨rfl, _, rfl⟩
        · rw [if_pos (by simp; omega), if_pos (by omega)]
          exact ⟨rfl, _, rfl⟩
      · rw [if_neg c1, if_pos (by simp; omega), if_neg (by omega)]
        by_cases c3 : hasG Ck.id w id = true
        · rw [if_neg (by rw [c3]; decide), if_pos (.inl c3)]
          exact ⟨rfl, _, rfl⟩
        · have c3' : hasG Ck.id w id = false := eq_false_of_ne_true c3
          rw [if_pos c3']
          refine ⟨0, 1, w, m, pl, rfl, ⟨rfl, rfl⟩, ro, by omega, ?_⟩
          by_cases c4 : dblS w pl = true
          · rw [if_pos c4, if_pos (.inr c4)]
            exact ⟨rfl, _, rfl⟩
          · rw [if_neg c4, if_neg (fun h => h.elim c3 c4)]
            refine ⟨pl, .no, rfl, by omega, rowsC w, m, id, ⟨id, pl, [], un⟩, .no, .exact, rfl, rfl, ro.ok, ?_⟩
            have e := rowsOf_put ro.rise ro.ok ⟨id, pl, [], un⟩
            rw [show putL (rowsC w) m id ⟨id, pl, [], un⟩ = _ from e, if_pos hid]
            by_cases c5 : (w.length : Int) ≥ m
            · rw [if_pos ⟨c3', c5⟩, if_pos c5]
              exact ⟨rfl, _, rfl⟩
            · rw [if_neg (fun h => c5 h.2), if_neg c5]
              exact ⟨rfl, _, rfl⟩
  · exact h.elim
def accC (w : List Ck) (p : Int) : Ck := getG Ck.id w (ofS w p)
def accN (w : List Ck) (p : Int) : Ck := ⟨(accC w p).id, (accC w p).pl, (accC w p).ys ++ [p], (accC w p).un⟩
def accS (w : List Ck) (p : Int) : List Ck × Ck × Bool × Int :=
  if hasG Ck.id w (ofS w p) = true then
    (if memB (accC w p).ys p = true then (w, ck0, false, 11)
     else if ((accN w p).ys.length : Int) = (accC w p).pl.length then (dropG Ck.id w (accC w p).id, accN w p, true, 0) else (putG Ck.id w (accN w p), accN w p, false, 0))
  else (w, ck0, false, 12)
def acc_s (args : List PV) (H : Heap) (K : PV → Heap → Prop) : Prop := match args with
  | .ptr q 0 :: rest => match bookR H q with
    | some r => ∃ (w : List Ck) (m p : Int), SlIs rest [.int .u32 p] ∧ AbIs H r (rkC (rowsC w) m) ∧ RO w m ∧ K (.tup [(accS w p).2.1.pv, .bool (accS w p).2.2.1, .int .i64 (accS w p).2.2.2]) (H.set r (.abs (rkC (rowsC (accS w p).1) m)))
    | none => False
  | _ => False
theorem wk_ck3 {c : Ck} {b : Bool} {n : Int} {t1 t2 : Tail} : Wk (.tup [.agg [.int .u32 c.id, .list (en1 .u32 c.pl) t1, .list (en1 .u32 c.ys) t2, .int .i64 c.un], .bool b, .int .i64 n]) (.tup [c.pv, .bool b, .int .i64 n]) := .tup (.cons wk_ck (.cons (.refl _) (.cons (.refl _) .nil)))
theorem acc_ok : SpOk Try.prog gl 13 (.heap acc_s) := by
  intro args H K h
  unfold acc_s at h
  split at h
  · rename_i q rest
    split at h <;> try (exact h.elim)
    rename_i r hr
    obtain ⟨w, m, p, he, ha, ro, hk⟩ := h
    have hb := bookR_is hr ha
    have he : rest = _ := he
    subst he
    refine book_heap (R' := rkC (rowsC (accS w p).1) m) gl_low hb low0_int (.tup _ (low_three (Ck.low _) (.bool _) (.int _ _))) (acalls_weak (acc1_vc w m p _ ⟨0, 1, w, m, p, rfl, ⟨rfl, rfl⟩, ro, 0, 1, w, m, ofS w p, rfl, ⟨rfl, rfl⟩, ro, ?_⟩)) hk
    obtain ⟨c, hc⟩ : ∃ c, c = getG Ck.id w (ofS w p) := ⟨_, rfl⟩
    have hn : accN w p = ⟨c.id, c.pl, c.ys ++ [p], c.un⟩ := by rw [hc]; rfl
    have hcc : accC w p = c := hc.symm
    unfold accS
    rw [hn, hcc]
    rw [← hc]
    simp only [br_if]
    by_cases c1 : hasG Ck.id w (ofS w p) = true
    · rw [if_pos c1]
      have hcm : c ∈ w := by rw [hc]; exact (getG_mem c1).1
      have ck := ro.cs c hcm
      have hle := ck.le
      have h8 := ck.n8
      have hhas : hasG Ck.id w c.id = true := hasG_iff.2 ⟨c, hcm, rfl⟩
      have hput : putL (rowsC w) m c.id ⟨c.id, c.pl, c.ys ++ [p], c.un⟩ = (rowsC (putG Ck.id w ⟨c.id, c.pl, c.ys ++ [p], c.un⟩), 0) := by
        rw [show putL (rowsC w) m c.id ⟨c.id, c.pl, c.ys ++ [p], c.un⟩ = _ from rowsOf_put ro.rise ro.ok ⟨c.id, c.pl, c.ys ++ [p], c.un⟩, if_pos ck.rt, if_neg (by rw [hhas]; simp)]
      have hsm : (⟨c.id, c.pl, c.ys ++ [p], c.un⟩ : Ck).Sm := ⟨by show c.pl.length ≤ _; omega, by show (c.ys ++ [p]).length ≤ _; rw [List.length_append, List.length_singleton]; omega⟩
      have happ : AppL (en1 .u32 c.ys) [[PV.int .u32 p]] 1 4 := appL_map u1_len c.ys p (by omega)
      have hone := one_row one_u1 p
      have e4 : en1 .u32 (c.ys ++ [p]) = en1 .u32 c.ys ++ [[PV.int .u32 p]] := (en1_append _ _ _).symm
      have ew := fun (b : Bool) (t : Tail) => wk_ck3 (c := ⟨c.id, c.pl, c.ys ++ [p], c.un⟩) (b := b) (n := 0) (t1 := .no) (t2 := t)
      simp only [e4] at ew
      refine ⟨fun c0 => ?_, fun c0 => ?_⟩
      · rw [if_neg (by rw [c1]; decide)]
        refine ⟨[], .exact, p, rfl, by simp, ?_⟩
        rw [c0] at happ e4 hput hsm hle ⊢
        simp only [c0] at ew
        have m0 : memB [] p = false := by simp [memB]
        simp only [m0, Bool.false_eq_true, if_false]
        refine ⟨happ, hone, ?_⟩
        rw [en1_length]
        simp only [List.nil_append, List.length_singleton]
        by_cases c2 : (1 : Int) = c.pl.length
        · rw [if_pos (by simpa using c2), if_pos (by simpa using c2)]
          refine ⟨rowsC w, m, c.id, rfl, rfl, ro.ok, _, ew true _, rfl, ?_⟩
          rw [rowsOf_drop ro.ok]
          exact ⟨_, rfl⟩
        · rw [if_neg (by simpa using c2), if_neg (by simpa using c2)]
          refine ⟨⟨c.id, c.pl, [p], c.un⟩, _, _, rfl, hsm, rowsC w, m, c.id, ⟨c.id, c.pl, [p], c.un⟩, .no, .no, rfl, rfl, ro.ok, _, ew false _, rfl, ?_⟩
          rw [show putL (rowsC w) m c.id ⟨c.id, c.pl, [p], c.un⟩ = _ from hput]
          exact ⟨_, rfl⟩
      · rw [if_neg (by rw [c1]; decide)]
        refine ⟨c.ys, _, p, rfl, by omega, ?_⟩
        by_cases c3 : memB c.ys p = true
        · rw [if_pos c3, if_pos c3]
          exact ⟨_, wk_ck3 (c := ck0) (t1 := .exact) (t2 := .exact), rfl, _, rfl⟩
        · rw [if_neg c3, if_neg c3]
          refine ⟨happ, hone, ?_⟩
          rw [List.length_append, en1_length, en1_length]
          by_cases c2 : ((c.ys ++ [p]).length : Int) = c.pl.length
          · have c2' := c2
            rw [List.length_append, List.length_singleton] at c2'
            rw [if_pos (by simp; omega), if_pos c2]
            refine ⟨rowsC w, m, c.id, rfl, rfl, ro.ok, _, ew true _, rfl, ?_⟩
            rw [rowsOf_drop ro.ok]
            exact ⟨_, rfl⟩
          · have c2' := c2
            rw [List.length_append, List.length_singleton] at c2'
            rw [if_neg (by simp; omega), if_neg c2]
            refine ⟨⟨c.id, c.pl, c.ys ++ [p], c.un⟩, _, _, (by show _ = _; simp only [e4]; rfl), hsm, rowsC w, m, c.id, ⟨c.id, c.pl, c.ys ++ [p], c.un⟩, .no, .no, rfl, rfl, ro.ok, _, ew false _, rfl, ?_⟩
            rw [hput]
            exact ⟨_, rfl⟩
    · rw [if_neg c1]
      have hc0 : c = ck0 := by rw [hc]; exact getG_none (eq_false_of_ne_true c1)
      rw [hc0]
      refine ⟨fun _ => ?_, fun hn => absurd rfl hn⟩
      rw [if_pos (by rw [eq_false_of_ne_true c1]; rfl)]
      exact ⟨_, wk_ck3 (c := ck0) (t1 := .exact) (t2 := .exact), rfl, _, rfl⟩
  · exact h.elim
theorem newR1_red (n : Int) (K : PV → Heap → Prop) : (∃ (n_1 : Int), SlIs [PV.int IntKind.i64 n] [PV.int IntKind.i64 n_1] ∧ K (PV.ptr 1 0) [Ob.abs (rkC [] (mxI 0 n_1)), Ob.cells [PV.ptr 0 0]]) = wpc br Try.prog gl TR0 [] (fun _ => 0) (bodyOf Try.f11) [] (env0 [.int .i64 n]) [] (resQ Try.prog Try.f11.results.toList K) := by kernel_rfl
theorem newR1_vc (n : Int)  (K : PV → Heap → Prop) (h : ∃ (n_1 : Int), SlIs [PV.int IntKind.i64 n] [PV.int IntKind.i64 n_1] ∧ K (PV.ptr 1 0) [Ob.abs (rkC [] (mxI 0 n_1)), Ob.cells [PV.ptr 0 0]]) : ACalls Try.prog gl 11 [.int .i64 n] [] K :=
  acalls_of_wpc2 (T := TR0) (L := []) (fun _ => 0) Try.func11 (by kernel_rfl) (by kernel_rfl) (by kernel_rfl) (TR0_ok) (LOk.nil _ _ _ _ _) (holds_of_eq (newR1_red n K) h)
def newR_s (args : List PV) (H : Heap) (K : PV → Heap → Prop) : Prop := ∃ n : Int, SlIs args [.int .i64 n] ∧ K (.ptr (H.length + 1) 0) (H ++ [.abs (rkC (rowsC []) (mxI 0 n)), .cells [.ptr H.length 0]])
theorem newR_ok : SpOk Try.prog gl 11 (.heap newR_s) := by
  rintro args H K ⟨n, he, hk⟩
  have he : args = _ := he
  subst he
  exact acalls_to (book_make2 gl_low (low_one (.int _ _)) (newR1_vc n _ ⟨n, rfl, rfl, rfl⟩)) fun _ _ e => e.1 ▸ e.2 ▸ hk
end Go.Proofs.Ythabdpaipgclpaa
